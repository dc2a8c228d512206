/-
  Texts of the proof, joined: BdSrt, PtKey, PtLook, PtAt, BdPLaw, BdPar, BdFnd, BdCat, BdSort, BdKeys, BdVot, BdAwk, DcDraw, SqDraw, BdRef, BdRad, BdBit, BdRR, BdRX, DcNet.
-/
import Derived.Test.YtcicmplfmcloiaaGreatBorderOrderPk2
import Derived.Shelf.SortM.Plain
import Derived.Shelf.SortM.SortNone
import Derived.Test.YtcicmplfmcloiaaGreatBorderOrderPk1
import Derived.DeepKeys5
import Derived.Shelf.SlIterI.Nil
set_option linter.unusedVariables false
set_option linter.unusedSimpArgs false
namespace Go.Proofs.YtcicmplfmcloiaaGreat
set_option maxHeartbeats 1000000
open Go.RowKit Go.Shelf Go.Sort
set_option maxRecDepth 20000
def Bd.zero : Bd := ⟨0, 0, 0, 0⟩
def bdk (b : Bd) : List Int := [b.near, b.far, b.frm, b.to_]
def KbP (x y : Bd) : Int := orI [Ke x.near y.near, Ke x.far y.far, Ke x.frm y.frm, Ke x.to_ y.to_]
theorem Kka (x y : Bd) : KbP x y = Ky (bdk x) (bdk y) := rfl
theorem KgC : FA Tryz.prog 44 1 1 := fun g o w => by kernel_rfl
theorem KfI : FA Tryz.prog 44 2 2 := fun g o w => by kernel_rfl
theorem KfQ : FA Tryz.prog 44 3 3 := fun g o w => by kernel_rfl
theorem Kee (a0_0 : Int) (a1_0 : Int) (a2_0 : Int) (a3_0 : Int) (w : World) : (Instr.buildSlice 49 4 #[(0, .int .i64 a0_0), (1, .int .i64 a1_0), (2, .int .i64 a2_0), (3, .int .i64 a3_0)]).run Tryz.prog w = .ok (.slice (some ⟨w.heap.size, 0, none⟩) 4 4) (w.alloc (.cells [.int .i64 a0_0, .int .i64 a1_0, .int .i64 a2_0, .int .i64 a3_0].toArray 3)) := by kernel_rfl
theorem KeS (x y : Bd) (w : World) :
  Calls Tryz.prog 16 #[.agg x.cells.toArray, .agg y.cells.toArray] w fun e w' => e = .returned (.int .i64 (KbP x y)) /\ Below w.heap.size w w' := by
 refine Kg Tryz.func16 rfl rfl rfl ?_ (Pm.start w);refine zSG ?_;refine TL.bx fun g2 => ?_;refine TL.bx fun g3 => ?_;refine TL.as_ ?_;refine zET (zS (TC.tail 20 (by kernel_rfl) (by kernel_rfl) (fun w hw => hw.drawn _) ?_));refine TS.v (gF KeR) ?_;refine TS.v (gL 1 Kv) ?_;refine TS.v (gF KeR) ?_;refine TS.v (gL 0 Kv) ?_;refine TS.call (r := .int .i64 (Ke x.near y.near)) rfl rfl rfl rfl rfl Tryz.func47 (by decide) rfl (fun w1 hw => Kdn x.near y.near w1) ?_;refine TS.v (gF KgC) ?_;refine TS.v (gL 1 Kv) ?_;refine TS.v (gF KgC) ?_;refine TS.v (gL 0 Kv) ?_;refine TS.call (r := .int .i64 (Ke x.far y.far)) rfl rfl rfl rfl rfl Tryz.func47 (by decide) rfl (fun w1 hw => Kdn x.far y.far w1) ?_;refine TS.v (gF KfI) ?_;refine TS.v (gL 1 Kb) ?_;refine TS.v (gF KfI) ?_;refine TS.v (gL 0 Kb) ?_;refine TS.call (r := .int .i64 (Ke x.frm y.frm)) rfl rfl rfl rfl rfl Tryz.func48 (by decide) rfl (fun w1 hw => Kcr x.frm y.frm w1) ?_;refine TS.v (gF KfQ) ?_;refine TS.v (gL 1 Kb) ?_;refine TS.v (gF KfQ) ?_;refine TS.v (gL 0 Kb) ?_;refine TS.call (r := .int .i64 (Ke x.to_ y.to_)) rfl rfl rfl rfl rfl Tryz.func48 (by decide) rfl (fun w1 hw => Kcr x.to_ y.to_ w1) ?_;refine TS.end_ ?_;refine TL.prowS (e := 3) (size := 1) (cs := Ka (ic .i64) [Ke x.near y.near, Ke x.far y.far, Ke x.frm y.frm, Ke x.to_ y.to_]) rfl rfl rfl rfl rfl (fun w => Kee _ _ _ _ w) (by decide) rfl (fun g25 => ?_);refine TL.p1 rfl o46 (fun w1 hw => Kep (some ⟨g25, 0, none⟩) 4 4 ([Ke x.near y.near, Ke x.far y.far, Ke x.frm y.frm, Ke x.to_ y.to_]) w1 (Kz hw (k := 0) rfl) rfl (by show 4 <= 100000; decide)) ?_;refine TL.as_ ?_;refine zET (zr ?_);exact Kc Tryz.results16 rfl (fun w1 hw => ⟨rfl, hw.bel⟩)
def Kfs : Go.Shelf.Ren := ⟨fun | 6 => 43 | 14 => 98 | 15 => 99 | 20 => 148 | 21 => 149 | 22 => 150 | 23 => 151 | 24 => 152 | 25 => 153 | 26 => 154 | 27 => 155 | 28 => 156 | 29 => 157 | 46 => 211 | 47 => 212 | 48 => 213 | 49 => 214 | 50 => 215 | 57 => 252 | n => n, fun | 22 => 34 | 24 => 44 | 25 => 45 | 39 => 194 | 45 => 243 | 46 => 244 | 50 => 248 | 53 => 41 | 55 => 214 | 66 => 282 | 70 => 286 | 76 => 312 | 77 => 313 | n => n, fun n => n⟩
theorem Kjc : SlLaysF0.n6 Tryz.prog Kfs where
 mixed := by kernel_rfl
 f6 := ⟨Tryz.f43.name, by decide, Tryz.func43.trans (by kernel_rfl)⟩
 f14 := ⟨Tryz.f98.name, by decide, Tryz.func98.trans (by kernel_rfl)⟩
 f15 := Tryz.func99.trans (by kernel_rfl)
 f20 := ⟨Tryz.f148.name, by decide, Tryz.func148.trans (by kernel_rfl)⟩
 f21 := ⟨Tryz.f149.name, by decide, Tryz.func149.trans (by kernel_rfl)⟩
 f22 := ⟨Tryz.f150.name, by decide, Tryz.func150.trans (by kernel_rfl)⟩
 f23 := ⟨Tryz.f151.name, by decide, Tryz.func151.trans (by kernel_rfl)⟩
 f24 := ⟨Tryz.f152.name, by decide, Tryz.func152.trans (by kernel_rfl)⟩
 f25 := ⟨Tryz.f153.name, by decide, Tryz.func153.trans (by kernel_rfl)⟩
 f26 := ⟨Tryz.f154.name, by decide, Tryz.func154.trans (by kernel_rfl)⟩
 f27 := ⟨Tryz.f155.name, by decide, Tryz.func155.trans (by kernel_rfl)⟩
 f28 := Tryz.func156.trans (by kernel_rfl)
 f29 := Tryz.func157.trans (by kernel_rfl)
 f46 := ⟨Tryz.f211.name, by decide, Tryz.func211.trans (by kernel_rfl)⟩
 f47 := Tryz.func212.trans (by kernel_rfl)
 f48 := Tryz.func213.trans (by kernel_rfl)
 f49 := ⟨Tryz.f214.name, by decide, Tryz.func214.trans (by kernel_rfl)⟩
 f50 := ⟨Tryz.f215.name, by decide, Tryz.func215.trans (by kernel_rfl)⟩
 f57 := ⟨Tryz.f252.name, by decide, Tryz.func252.trans (by kernel_rfl)⟩
 t0 := Tryz.underlying0
 a0 := fun w => rfl
 z0 := fun w => rfl
 v0 := fun w => rfl
 t3 := Tryz.underlying3
 a3 := fun w => rfl
 z3 := fun w => rfl
 v3 := fun w => rfl
 t4 := Tryz.underlying4
 a4 := fun w => rfl
 z4 := fun w => rfl
 v4 := fun w => rfl
 t5 := Tryz.underlying5
 a5 := fun w => rfl
 z5 := fun w => rfl
 v5 := fun w => rfl
 t9 := Tryz.underlying9
 a9 := fun w => rfl
 z9 := fun w => rfl
 v9 := fun w => rfl
 t22 := Tryz.underlying34
 a22 := fun w => rfl
 z22 := fun w => rfl
 v22 := fun w => rfl
 t25 := Tryz.underlying45
 a25 := fun w => rfl
 z25 := fun w => rfl
 v25 := fun w => rfl
 t39 := Tryz.underlying194
 a39 := fun w => rfl
 z39 := fun w => rfl
 v39 := fun w => rfl
 t45 := Tryz.underlying243
 a45 := fun w => rfl
 z45 := fun w => rfl
 v45 := fun w => rfl
 t46 := Tryz.underlying244
 a46 := fun w => rfl
 z46 := fun w => rfl
 v46 := fun w => rfl
 t50 := Tryz.underlying248
 a50 := fun w => rfl
 z50 := fun w => rfl
 v50 := fun w => rfl
 t53 := Tryz.underlying41
 a53 := fun w => rfl
 z53 := fun w => rfl
 v53 := fun w => rfl
 t55 := Tryz.underlying214
 a55 := fun w => rfl
 z55 := fun w => rfl
 v55 := fun w => rfl
 t66 := Tryz.underlying282
 a66 := fun w => rfl
 z66 := fun w => rfl
 v66 := fun w => rfl
 t70 := Tryz.underlying286
 a70 := fun w => rfl
 z70 := fun w => rfl
 v70 := fun w => rfl
 t76 := Tryz.underlying312
 a76 := fun w => rfl
 z76 := fun w => rfl
 v76 := fun w => rfl
 t77 := Tryz.underlying313
 a77 := fun w => rfl
 z77 := fun w => rfl
 v77 := fun w => rfl
instance : Inhabited Bd := ⟨⟨0, 0, 0, 0⟩⟩
theorem Kky {b n cap : Nat} {A : Option Addr} {l : List Bd} {w : World} (hr : w.ownsRow b 44 4 (.slice A n cap) n (Ka Bd.cells l)) (hl : l.length = n) (hn : n <= 1000000) :
  Calls Tryz.prog 43 #[.slice A n cap, .func (.func 16) #[] #[]] w fun en w' => en = .returned (.tuple #[]) /\ ∃ l', Kbv KbP l l' /\ w'.ownsRow b 44 4 (.slice A n cap) n (Ka Bd.cells l') /\ w.grownBy w' (Value.ownBlock (.slice A n cap)) :=
 KeG (ρ := Kfs) Kjc KC (fun w => rfl) (fun w => rfl) KbP (Keh (n := 4) bdk fun _ => rfl) 16 (enters_of Tryz.func16 (by kernel_rfl) rfl) KeS hr hl (by omega)
theorem KkT (g n c : Nat) (xs : List Bd) (w : World) (h : RwG 44 4 w g n c (Ka Bd.cells xs)) (hl : xs.length = n) (hn : n <= 1000000) :
  Calls Tryz.prog 44 #[.slice (some ⟨g, 0, none⟩) n c] w fun en w' => en = .returned (.slice (some ⟨g, 0, none⟩) (Kf xs).length c) /\ RwG 44 4 w' g (Kf xs).length c (Ka Bd.cells (Kf xs)) /\ w.grownBy w' (some g) := by
 have hcap := h.obj.2.1;have hmax := h.obj.2.2;refine Kg (I := Pm ⟨Kap w g, g⟩ (.row (.slice (some ⟨g, 0, none⟩) n c) 44 4 n (Ka Bd.cells xs) :: Kr g w)) Tryz.func44 rfl rfl rfl ?_ (Pm.rowStartG h);refine zSG (TL.as_ ?_);refine zET (zS (zSG (TL.mv ?_)));refine TL.v (gN Tryz.underlying34) ?_;refine TL.sp Km (fun q8 => ?_) (fun q8 => ?_)
 ·have hE : Kf xs = xs := KeV (by omega);refine zET (zc (zSG (TL.rn 2 rfl (zET (zr (zR ?_))))));exact Kc Tryz.results44 rfl (fun w1 hw => by rw [hE, hl]; exact ⟨rfl, KbK hw (k := 0) rfl, hw.mapEnd (fun q hq => by simp [hq])⟩)
 refine zET (zd (zk (zT (zS (zSG (TL.as_ ?_))))));refine zET (zB ?_);refine TC.lp (α := {k : Nat // 1 <= k /\ k <= n /\ Kf (xs.take k) = xs.take k}) [0] rfl (fun y => [(3, .int .i64 ((y.1 : Nat) : Int))]) (fun y => Pm ⟨Kap w g, g⟩ ([.row (.slice (some ⟨g, 0, none⟩) n c) 44 4 n (Ka Bd.cells xs)] ++ Kr g w)) (fun y => n - y.1) (⟨1, Nat.le_refl _, by omega, Ke4 xs⟩) (fun w1 hw => hw) ?_;rintro ⟨k0, hk1, hk2, hK⟩
 try dsimp only
 refine zS (zSG (TL.rn 2 rfl (TL.v (gN Tryz.underlying34) ?_)));refine TL.sp Km (fun q13 => ?_) (fun q13 => ?_)
 ·refine zET (zc (zk (zT (zS (zB (zS (TC.quietQ (by kernel_rfl) (by kernel_rfl) (fun w hw => hw.drawn _) ?_)))))));refine TQ.rn 2 rfl ?_;have hi18 : k0 < xs.length := by omega
  obtain ⟨x18, hx18⟩ := Ko hi18;refine TQ.w rfl (gA (i := k0) Tryz.underlying34 Kx rfl rfl rfl rfl rfl (by omega)) ?_;refine TQ.w rfl (KH (off := 0 + k0 * 4) rfl rfl K9 Kx (KC.len x18) (fun w1 hw j9 u9 h9 => Ku KC hw (q := 0) rfl hx18 j9 u9 h9)) ?_;refine TQ.rn 2 rfl ?_;refine TQ.w rfl (Kn rfl rfl rfl (fun w => K2 (r := ((k0 - 1 : Nat) : Int)) (by simp only [IntKind.wrap_i64]; omega) w)) ?_;have hi23 : k0 - 1 < xs.length := by omega
  obtain ⟨x23, hx23⟩ := Ko hi23;refine TQ.w rfl (gA (i := (k0 - 1)) Tryz.underlying34 Kx rfl rfl rfl rfl rfl (by omega)) ?_;refine TQ.w rfl (KH (off := 0 + (k0 - 1) * 4) rfl rfl K9 Kx (KC.len x23) (fun w1 hw j9 u9 h9 => Ku KC hw (q := 0) rfl hx23 j9 u9 h9)) ?_;refine TQ.vw rfl (Ka5 rfl rfl rfl (fun w => KeM x18 x23 _ _ w)) (fun h25 => ?_) (fun h25 => ?_)
  ·have q25 := of_decide_eq_true h25;have hst := Ka2 hx18 hx23 hk1;have hK2 : Kf (xs.take (k0 + 1)) = xs.take k0 := by rw [hst, if_pos q25.symm]; exact hK
   refine TQ.fin ?_;refine zT (zc (zSG (TL.rn 2 rfl ?_)));refine TL.w rfl (Kb7 (q := k0) rfl rfl rfl rfl Tryz.underlying34 Kx (by omega) (by omega)) ?_;refine TL.as_ ?_;refine zET (zS (zSG (TL.as_ ?_)));refine zET (zB ?_);refine TC.lp (α := {y : Nat × Nat × List Bd // (1 <= y.2.1 /\ y.2.1 <= n - k0 /\ k0 <= y.1 /\ y.1 <= k0 + y.2.1 - 1) /\ y.2.2.length = n /\ (∀ p, k0 + y.2.1 - 1 <= p -> y.2.2[p]? = xs[p]?) /\ y.2.2.take y.1 = Kf (xs.take (k0 + y.2.1))}) [0, 4] rfl (fun y => [(3, .int .i64 ((y.1.1 : Nat) : Int)), (5, .int .i64 ((y.1.2.1 : Nat) : Int))]) (fun y => Pm ⟨Kap w g, g⟩ ([.row (.slice (some ⟨g, 0, none⟩) n c) 44 4 n (Ka Bd.cells y.1.2.2)] ++ Kr g w)) (fun y => n - y.1.2.1) (⟨(k0, 1, xs), by dsimp only; omega, hl, fun p _ => rfl, hK2.symm⟩) (fun w1 hw => hw) ?_;rintro ⟨⟨k, j, ys⟩, ⟨hj1, hj2, hj3, hj4⟩, hly, hI, hT⟩;dsimp only at hj1 hj2 hj3 hj4 hly hI hT ⊢;refine zS (zSG (TL.rn 2 rfl (TL.v (gN Tryz.underlying34) ?_)));refine TL.sp Km (fun q32 => ?_) (fun q32 => ?_)
   ·refine zET (zc (zk (zT (zS (zB (zS (TC.quietQ (by kernel_rfl) (by kernel_rfl) (fun w hw => hw.drawn _) ?_)))))));refine TQ.rn 2 rfl ?_;have hi37 : (k0 + j) < ys.length := by omega
    obtain ⟨x37, hx37⟩ := Ko hi37;refine TQ.w rfl (KV (v := .pointer (some ⟨g, 0 + (k0 + j) * 4, none⟩)) rfl rfl rfl (fun w => KbR Tryz.underlying34 Kx g k0 _ _ j (by omega) rfl w)) ?_;refine TQ.w rfl (KH (off := 0 + (k0 + j) * 4) rfl rfl K9 Kx (KC.len x37) (fun w1 hw j9 u9 h9 => Ku KC hw (q := 0) rfl hx37 j9 u9 h9)) ?_;refine TQ.rn 2 rfl ?_;refine TQ.w rfl (Kn rfl rfl rfl (fun w => K2 (r := ((j - 1 : Nat) : Int)) (by simp only [IntKind.wrap_i64]; omega) w)) ?_;have hi42 : (k0 + (j - 1)) < ys.length := by omega
    obtain ⟨x42, hx42⟩ := Ko hi42;refine TQ.w rfl (KV (v := .pointer (some ⟨g, 0 + (k0 + (j - 1)) * 4, none⟩)) rfl rfl rfl (fun w => KbR Tryz.underlying34 Kx g k0 _ _ (j - 1) (by omega) rfl w)) ?_;refine TQ.w rfl (KH (off := 0 + (k0 + (j - 1)) * 4) rfl rfl K9 Kx (KC.len x42) (fun w1 hw j9 u9 h9 => Ku KC hw (q := 0) rfl hx42 j9 u9 h9)) ?_;refine TQ.vw rfl (Ka5 rfl rfl rfl (fun w => Kft x37 x42 _ _ w)) (fun h44 => ?_) (fun h44 => ?_)
    ·have q44 := of_decide_eq_true h44;have hst := Ka2 (by rw [<- hI _ (by omega)]; exact hx37) (by rw [<- hI _ (by omega), show k0 + j - 1 = k0 + (j - 1) by omega]; exact hx42) (by omega : 1 <= k0 + j);have hc1 : ∀ p, k0 + (j + 1) - 1 <= p -> (ys.set k x37)[p]? = xs[p]? := fun p hp => by rw [List.getElem?_set_ne (by omega)]; exact hI p (by omega)
     have hc2 : (ys.set k x37).take (k + 1) = Kf (xs.take (k0 + (j + 1))) := by
      rw [List.take_add_one, List.take_set_of_le (Nat.le_refl _), List.getElem?_set_self (by omega), hT, show k0 + (j + 1) = k0 + j + 1 from rfl, hst, if_neg (fun hh => q44 hh.symm)]; rfl
     refine TQ.fin ?_;refine zT (zc (zSG (TL.rn 4 rfl ?_)));refine TL.w rfl (KV (v := .pointer (some ⟨g, 0 + (k0 + j) * 4, none⟩)) rfl rfl rfl (fun w => KbR Tryz.underlying34 Kx g k0 _ _ j (by omega) rfl w)) ?_;refine TL.w rfl (KH (off := 0 + (k0 + j) * 4) rfl rfl K9 Kx (KC.len x37) (fun w1 hw j9 u9 h9 => Ku KC hw (q := 0) rfl hx37 j9 u9 h9)) ?_;have hi51 : k < ys.length := by omega
     obtain ⟨x51, hx51⟩ := Ko hi51;refine TL.w rfl (gA (i := k) Tryz.underlying34 Kx rfl rfl rfl rfl rfl (by omega)) ?_;refine TL.rowset (k := 0) (vs := x37.cells) (xs' := Ka Bd.cells (ys.set k x37)) rfl rfl rfl rfl rfl rfl rfl Kx (KC.one _) (by rw [Kau KC]; show 0 + k * 4 + 4 <= _; omega) (Kdc KC (q := 0) (y := x37) hx51 (by show 0 + 4 <= 4; decide) rfl) ?_
     try dsimp only [List.set_cons_zero, List.set_cons_succ]
     refine zET (zG (TL.mv ?_));refine TL.v (gD ((k + 1 : Nat) : Int)) ?_;refine TL.as_ ?_;refine zE (zN (zT (zG (TL.mv ?_))));refine TL.v (gD ((j + 1 : Nat) : Int)) ?_;refine TL.as_ ?_;refine zE ?_;exact TX.rd (⟨(k + 1, j + 1, ys.set k x37), by dsimp only; omega, by rw [List.length_set]; exact hly, hc1, hc2⟩) (by show n - (j + 1) < n - j; omega) (fun w1 hw => hw)
    have q44 := of_decide_eq_false h44;have hst := Ka2 (by rw [<- hI _ (by omega)]; exact hx37) (by rw [<- hI _ (by omega), show k0 + j - 1 = k0 + (j - 1) by omega]; exact hx42) (by omega : 1 <= k0 + j);have hd1 : ∀ p, k0 + (j + 1) - 1 <= p -> ys[p]? = xs[p]? := fun p hp => hI p (by omega);have hd2 : ys.take k = Kf (xs.take (k0 + (j + 1))) := by rw [hT, show k0 + (j + 1) = k0 + j + 1 from rfl, hst, if_pos (Decidable.not_not.1 q44).symm]
    refine TQ.fin ?_;refine zT (zd (zk (zN (zT (zG (TL.mv ?_))))));refine TL.v (gD ((j + 1 : Nat) : Int)) ?_;refine TL.as_ ?_;refine zE ?_;exact TX.rd (⟨(k, j + 1, ys), by dsimp only; omega, hly, hd1, hd2⟩) (by show n - (j + 1) < n - j; omega) (fun w1 hw => hw)
   obtain rfl : j = n - k0 := by omega
   have hC : ys.take k = Kf xs := by rw [hT, List.take_of_length_le (by omega)]
   refine zET (zd (zx (zX (zX (zM (zT (zSG (TL.rn 2 rfl ?_))))))));refine TL.w rfl (Kb7 (q := k) rfl rfl rfl rfl Tryz.underlying34 Kx (by omega) (by omega)) ?_;refine TL.clearF KC (kk := 0) (q := k) (z := Bd.zero) rfl rfl rfl rfl Tryz.underlying34 Kgq (by omega) (by omega) rfl ?_
   try dsimp only [List.set_cons_zero]
   refine zET (zSG (TL.rn 2 rfl ?_));refine TL.headF KC (kk := 0) (hi := k) rfl rfl rfl rfl rfl rfl Tryz.underlying34 Kx rfl (by omega) (by omega) ?_
   try dsimp only [List.set_cons_zero]
   refine TL.as_ ?_;refine zET (zr (zRR (zR (zRR ?_))));have hfin : (ys.take k ++ List.replicate (n - k) Bd.zero).take k = Kf xs := by rw [List.take_left' (by rw [List.length_take]; omega)]; exact hC
   have hkl : (Kf xs).length = k := by rw [<- hC, List.length_take]; omega
   rw [hfin];exact Kc Tryz.results44 rfl (fun w1 hw => ⟨by rw [hkl], by rw [hkl]; exact (KbK hw (k := 0) rfl), hw.mapEnd (fun q hq => by simp [hq])⟩)
  have q25 := of_decide_eq_false h25;have hst := Ka2 hx18 hx23 hk1;have hK2 : Kf (xs.take (k0 + 1)) = xs.take (k0 + 1) := by rw [hst, if_neg (fun hh => q25 hh.symm), hK, List.take_add_one, hx18]; rfl
  refine TQ.fin ?_;refine zT (zd (zk (zN (zT (zG (TL.mv ?_))))));refine TL.v (gD ((k0 + 1 : Nat) : Int)) ?_;refine TL.as_ ?_;refine zE ?_;exact TX.rd (⟨k0 + 1, by omega, by omega, hK2⟩) (by show n - (k0 + 1) < n - k0; omega) (fun w1 hw => hw)
 obtain rfl : k0 = n := by omega
 have hE : Kf xs = xs := by rw [List.take_of_length_le (by omega)] at hK; exact hK
 refine zET (zd (zx (zX (zX (zM (zT (zSG (TL.rn 2 rfl (zET (zr ?_))))))))));exact Kc Tryz.results44 rfl (fun w1 hw => by rw [hE, hl]; exact ⟨rfl, KbK hw (k := 0) rfl, hw.mapEnd (fun q hq => by simp [hq])⟩)
theorem Kk0 (w : World) : Calls Tryz.prog 44 #[.slice none 0 0] w fun en w' => en = .returned (.slice none 0 0) /\ Below w.heap.size w w' := by
 refine Kg Tryz.func44 rfl rfl rfl ?_ (Pm.start w);refine zSG (TL.as_ ?_);refine zET (zS (zSG (TL.mv ?_)));refine TL.v (gN Tryz.underlying34) ?_;refine TL.w rfl (Kn rfl rfl rfl (fun w => KeB (by decide) w)) ?_;refine zET (zc (zSG (TL.rn 2 rfl (zET (zr (zR ?_))))));exact Kc Tryz.results44 rfl (fun w1 hw => ⟨rfl, hw.bel⟩)
theorem Kj0 {b n cap : Nat} {A : Option Addr} {l : List Bd} {w : World} (hr : w.ownsRow b 44 4 (.slice A n cap) n (Ka Bd.cells l)) (hl : l.length = n) (hn : n <= 1000000) :
  Calls Tryz.prog 44 #[.slice A n cap] w fun en w' => en = .returned (.slice A (Kf l).length cap) /\ w'.ownsRow b 44 4 (.slice A (Kf l).length cap) (Kf l).length (Ka Bd.cells (Kf l)) /\ w.grownBy w' (Value.ownBlock (.slice A n cap)) := by
 rcases id hr.2 with ⟨hv, h0⟩ | ⟨q, cap', cur, hv, hb, hq, h1, h2, h3, h4⟩
 ·cases hv;obtain rfl : l = [] := List.eq_nil_of_length_eq_zero (by omega);refine (Kk0 w).mono fun en w' ⟨h5, h6⟩ => ⟨h5, ⟨rfl, .inl ⟨rfl, rfl⟩⟩, ?_⟩;exact ⟨h6.os, h6.tape, h6.output, h6.size, fun k hk _ => h6.block k hk⟩
 cases hv;refine (KkT q n cap l w ⟨hr.1, .inr ⟨q, cap, cur, rfl, Nat.le_refl _, hq, h1, h2, h3, h4⟩⟩ hl hn).mono fun en w' ⟨h5, h6, h7⟩ => ⟨h5, ⟨h6.1, ?_⟩, h7⟩;rcases h6.2 with ⟨e1, _⟩ | ⟨q', c2, cur2, e1, e2, e3⟩
 ·cases e1
 cases e1;exact .inr ⟨q, cap, cur2, rfl, hb, e3⟩
open Go Go.RowKit
set_option maxRecDepth 20000
structure Spot where
  flow : Int
  ttl : Int
deriving DecidableEq
def Spot.cells (r : Spot) : List Value := [.int .i64 r.flow, .int .i64 r.ttl]
theorem KhQ : Cel Spot.cells 2 := ⟨fun _ => rfl, fun r u hu => by
  simp only [Spot.cells, List.mem_cons, List.not_mem_nil, or_false] at hu;rcases hu with rfl | rfl <;> rfl⟩
structure Place where
  ttl : Int
  addr : Int
deriving DecidableEq
def Place.cells (r : Place) : List Value := [.int .i64 r.ttl, .int .u32 r.addr]
structure Stp where
  ttl : Int
  frm : Int
  to_ : Int
deriving DecidableEq
def Stp.cells (r : Stp) : List Value := [.int .i64 r.ttl, .int .u32 r.frm, .int .u32 r.to_]
def Spot.Ok (s : Spot) : Prop := (Lit.int .i64 s.flow).wf = true /\ (Lit.int .i64 s.ttl).wf = true
theorem Kjj (d : Nat) (a0 : Int) (a1 : Int) (h0 : (Lit.int .i64 a0).wf = true) (h1 : (Lit.int .i64 a1).wf = true) : Tryz.prog.keyLits (d + 2) 138 [.int .i64 a0, .int .i64 a1] = some [.int .i64 a0, .int .i64 a1] := by
  have hc : Tryz.prog.cellsOf 138 = 2 := by kernel_rfl
  have hc3 : Tryz.prog.cellsOf 3 = 1 := by kernel_rfl
  have hu3 := Tryz.underlying3;simp [Program.keyLits, Tryz.underlying138, hc, hc3, hu3, h0, h1]
theorem KjB (s : Spot) (h : s.Ok) : ∃ l, keyOf Tryz.prog 138 (.agg s.cells.toArray) = some l := by
  have hkt : Tryz.prog.keyType 138 = true := by kernel_rfl
  have hc : Tryz.prog.cellsOf 138 = 2 := by kernel_rfl
  have hf : (Value.agg s.cells.toArray).formed Tryz.prog 138 = true := by simp [Value.formed, Tryz.underlying138, hc, Spot.cells]
  have hp : 0 < Tryz.prog.types.size := of_decide_eq_true (by kernel_rfl);have hl := Kjj (Tryz.prog.types.size - 1) s.flow s.ttl h.1 h.2;rw [show Tryz.prog.types.size - 1 + 2 = Tryz.prog.types.size + 1 by omega] at hl;refine ⟨.string (keyBytes [.int .i64 s.flow, .int .i64 s.ttl]), ?_⟩;unfold keyOf;rw [Tryz.underlying138];simp only [hkt, hf, Bool.and_self, if_true];show Option.map _ (Tryz.prog.keyLits _ _ [.int .i64 s.flow, .int .i64 s.ttl]) = _;rw [hl]
  rfl
theorem Kaq : MKey Tryz.prog 138 (fun s : Spot => .agg s.cells.toArray) Spot.Ok where
  keyed := Maps.Keyed.of_law (deep_law (m := 2) (by omega) (by kernel_rfl) (by kernel_rfl) (by rw [Tryz.underlying138]))
  lit := KjB
  inj := fun a b h => by
    cases a; cases b
    simpa [Spot.cells] using h
def Place.Ok (s : Place) : Prop := (Lit.int .i64 s.ttl).wf = true /\ (Lit.int .u32 s.addr).wf = true
def Stp.Ok (s : Stp) : Prop := (Lit.int .i64 s.ttl).wf = true /\ (Lit.int .u32 s.frm).wf = true /\ (Lit.int .u32 s.to_).wf = true
open Go.RowKit
set_option maxRecDepth 20000
def Kcb (e : Int) (r : Rs) : Bool := (decide (e = 0) || decide (r.ttl < e)) && Kby r
def KT (l : List Rs) : Int := l.foldl (fun e r => if Kcb e r then r.ttl else e) 0
theorem KcU {l : List Rs} {i : Nat} {x : Rs} {e : Int} (hx : l[i]? = some x) (h : KT (l.take i) = e) : KT (l.take (i + 1)) = if Kcb e x then x.ttl else e := by
 unfold KT at h ⊢;rw [List.take_add_one, hx, List.foldl_append, h]
 rfl
def KU (e : Int) (r : Rs) : Bool := KaB r && !(decide (e > 0) && decide (r.ttl > e))
def KaY {κ β : Type} [DecidableEq κ] (f : κ -> Option β) (a : κ) (v : β) : κ -> Option β := fun x => if x = a then some v else f x
theorem KbE {κ : Type} [DecidableEq κ] (f : κ -> Option Int) (a : κ) (q : IntKind) (v : Int) : (fun x => if x = a then some (Value.int q v) else (f x).map (Value.int q)) = fun x => (KaY f a v x).map (Value.int q) := by
 funext x
 unfold KaY;split <;> rfl
def Kah (r : Rs) : Spot := ⟨r.flow, r.ttl⟩
def Kbn (e : Int) (p : (Spot -> Option Int) × (Spot -> Option Int)) (r : Rs) : (Spot -> Option Int) × (Spot -> Option Int) :=
 if KU e r then
  if r.ans = false then (p.1, KaY p.2 (Kah r) (max ((p.2 (Kah r)).getD 0) 1))
  else if (p.2 (Kah r)).getD 0 <= 1 then (KaY p.1 (Kah r) r.src, KaY p.2 (Kah r) 2)
  else if (p.2 (Kah r)).getD 0 = 2 /\ (p.1 (Kah r)).getD 0 ≠ r.src then (KaY p.1 (Kah r) 0, KaY p.2 (Kah r) 3)
  else p
 else p
def Kao (e : Int) (l : List Rs) : (Spot -> Option Int) × (Spot -> Option Int) := l.foldl (Kbn e) (fun _ => none, fun _ => none)
def KW (l : List Rs) : (Spot -> Option Int) × (Spot -> Option Int) := Kao (KT l) l
theorem KaH {l : List Rs} {i : Nat} {x : Rs} (hx : l[i]? = some x) (hu : KaB x = true) (hok : ∀ r ∈ l, r.Ok) : (⟨x.flow, x.ttl⟩ : Spot).Ok := by
 have hv : Ks x = true := by unfold KaB at hu; simp only [Bool.and_eq_true] at hu; exact hu.2
 have hc : Kaf x = 0 := by unfold Ks at hv; simp only [Bool.and_eq_true, decide_eq_true_eq] at hv; exact hv.1.1
 have hr : x.inRange := Decidable.by_contra fun h => by have := KeN h; omega
 obtain ⟨a1, a2, a3, a4, a5, a6, a7, a8, a9, a10, a11, a12, a13, a14, a15⟩ := hr;constructor
 ·show (Lit.int .i64 x.flow).wf = true;simp [Lit.wf, IntKind.min, IntKind.max, IntKind.signed, IntKind.bits]; omega
 show (Lit.int .i64 x.ttl).wf = true;simp [Lit.wf, IntKind.min, IntKind.max, IntKind.signed, IntKind.bits]; omega
section
variable {l : List Rs} {i : Nat} {x : Rs} {e : Int} {fa fs : Spot -> Option Int}
theorem KcS (hx : l[i]? = some x) (h : Kao e (l.take i) = (fa, fs)) : Kao e (l.take (i + 1)) = Kbn e (fa, fs) x := by
 unfold Kao at h ⊢;rw [List.take_add_one, hx, List.foldl_append, h]
 rfl
theorem Kfv (hx : l[i]? = some x) (h : Kao e (l.take i) = (fa, fs)) (hu : KU e x = false) : Kao e (l.take (i + 1)) = (fa, fs) := by
 rw [KcS hx h, Kbn, if_neg (by rw [hu]; decide)]
theorem KfL (hx : l[i]? = some x) (h : Kao e (l.take i) = (fa, fs)) (hu : KU e x = true) (ha : x.ans = false) : Kao e (l.take (i + 1)) = (fa, KaY fs ⟨x.flow, x.ttl⟩ (max ((fs ⟨x.flow, x.ttl⟩).getD 0) 1)) := by
 rw [KcS hx h, Kbn, if_pos hu, if_pos ha]; rfl
theorem Kfe (hx : l[i]? = some x) (h : Kao e (l.take i) = (fa, fs)) (hu : KU e x = true) (ha : x.ans = true) (hk : (fs ⟨x.flow, x.ttl⟩).getD 0 <= 1) : Kao e (l.take (i + 1)) = (KaY fa ⟨x.flow, x.ttl⟩ x.src, KaY fs ⟨x.flow, x.ttl⟩ 2) := by
 have hk' : ((fa, fs).2 (Kah x)).getD 0 <= 1 := hk;rw [KcS hx h, Kbn, if_pos hu, if_neg (by rw [ha]; decide), if_pos hk']; rfl
theorem KgV (hx : l[i]? = some x) (h : Kao e (l.take i) = (fa, fs)) (hu : KU e x = true) (ha : x.ans = true) (hk : (fs ⟨x.flow, x.ttl⟩).getD 0 = 2) (hn : (fa ⟨x.flow, x.ttl⟩).getD 0 ≠ x.src) : Kao e (l.take (i + 1)) = (KaY fa ⟨x.flow, x.ttl⟩ 0, KaY fs ⟨x.flow, x.ttl⟩ 3) := by
 have hk2 : ¬ ((fa, fs).2 (Kah x)).getD 0 <= 1 := by have : ((fa, fs).2 (Kah x)).getD 0 = 2 := hk; omega
 rw [KcS hx h, Kbn, if_pos hu, if_neg (by rw [ha]; decide), if_neg hk2, if_pos ⟨hk, hn⟩]; rfl
theorem Kdv (hx : l[i]? = some x) (h : Kao e (l.take i) = (fa, fs)) (hu : KU e x = true) (ha : x.ans = true) (hk : ¬ (fs ⟨x.flow, x.ttl⟩).getD 0 <= 1) (hn : ¬ (fs ⟨x.flow, x.ttl⟩).getD 0 = 2 \/ ¬ (fa ⟨x.flow, x.ttl⟩).getD 0 ≠ x.src) : Kao e (l.take (i + 1)) = (fa, fs) := by
 have hk' : ¬ ((fa, fs).2 (Kah x)).getD 0 <= 1 := hk
 rw [KcS hx h, Kbn, if_pos hu, if_neg (by rw [ha]; decide), if_neg hk', if_neg (by
  rintro ⟨h1, h2⟩;rcases hn with h3 | h3
  ·exact h3 h1
  exact h3 h2)]
end
theorem KeF (w : World) : (zeroValue 132).run Tryz.prog w = .ok (.agg #[.int .i64 0, .map none, .map none]) w := rfl
theorem KiD (a0_0 : Int) (a1_0 : Nat) (a2_0 : Nat) (w : World) : (Instr.build 132 #[(0, .int .i64 a0_0), (1, .map (some a1_0)), (2, .map (some a2_0))]).run Tryz.prog w = .ok (.agg #[.int .i64 a0_0, .map (some a1_0), .map (some a2_0)]) w := by kernel_rfl
theorem Kc8 (w : World) : (sizeOf 132).run Tryz.prog w = .ok 3 w := rfl
theorem KfR : FA Tryz.prog 132 0 0 := fun g o w => by kernel_rfl
theorem Kdz (a0_0 : Int) (a1_0 : Int) (w : World) : (Instr.build 138 #[(0, .int .i64 a0_0), (1, .int .i64 a1_0)]).run Tryz.prog w = .ok (.agg #[.int .i64 a0_0, .int .i64 a1_0]) w := by kernel_rfl
theorem KfK (w : World) : (zeroValue 138).run Tryz.prog w = .ok (.agg #[.int .i64 0, .int .i64 0]) w := rfl
theorem Kas (w : World) : (sizeOf 138).run Tryz.prog w = .ok 2 w := rfl
theorem KbH : FA Tryz.prog 132 2 2 := fun g o w => by kernel_rfl
theorem KbN (w : World) : (isAgg 130).run Tryz.prog w = .ok false w := rfl
theorem KaO (w : World) : (isAgg 138).run Tryz.prog w = .ok true w := rfl
theorem Kb8 : FA Tryz.prog 132 1 1 := fun g o w => by kernel_rfl
theorem Kcl (w : World) : (isAgg 129).run Tryz.prog w = .ok false w := rfl
theorem Kf6 (w : World) : (isAgg 132).run Tryz.prog w = .ok true w := rfl
theorem Klq (A0 : Option Addr) (c0 : Nat) (l : List Rs) (w : World) (hr : Kd w w.heap.size 17 A0 l.length (Ka Rs.cells l)) (hl1 : l.length <= 100000) :
  Calls Tryz.prog 109 #[.slice A0 l.length c0] w fun e w' => e = .returned (.int .i64 (KT l)) /\ Below w.heap.size w w' := by
 refine Kg Tryz.func109 rfl rfl rfl ?_ (Pm.start w);refine zSG (TL.as_ ?_);refine zET (zSG (TL.as_ ?_));refine zET (zS (zSG (TL.mv ?_)));refine TL.v (gN Tryz.underlying27) ?_;refine TL.mv ?_;refine zET (zB (TC.lp (α := {y : Nat × Int // y.1 <= l.length /\ KT (l.take y.1) = y.2}) [2, 6, 7] rfl (fun y => [(8, .int .i64 ((y.1.1 : Nat) : Int)), (3, .int .i64 y.1.2)]) (fun y => Pm w []) (fun y => l.length - y.1.1) (⟨(0, 0), Nat.zero_le _, rfl⟩) (fun w1 hw => hw) ?_));rintro ⟨⟨i, en⟩, hi, hst⟩;dsimp only at hi hst ⊢;refine zSG ?_;refine TL.vw rfl (Kn rfl rfl rfl (fun w => Km w)) (fun h9 => ?_) (fun h9 => ?_)
 ·have q9 := of_decide_eq_true h9;refine zET (zS (zc (zk (zT (zS (zB (zSG ?_)))))));have hi10 : i < l.length := by omega
  obtain ⟨x10, hx10⟩ := Ko hi10;obtain ⟨b10, o10, hA10, hbb10, hc10⟩ := hr.ad (by omega) (by decide);refine TL.w rfl (gA (i := i) Tryz.underlying27 Ki rfl rfl rfl rfl hA10 (by omega)) ?_;refine TL.v (gR Kt KG Ki hbb10 hx10 hc10) ?_;refine TL.al Kbg fun g5 => ?_;refine TL.pstore (k := 0) (vs := x10.cells) rfl rfl rfl rfl rfl rfl rfl Ki (Kt.one _) (by show 17 <= 17; decide) (L' := [.blk g5 76 x10.cells]) rfl ?_;refine zET (zSG (TL.mv ?_));refine TL.sp Kab (fun q13 => ?_) (fun q13 => ?_)
  ·refine TL.rn 7 rfl (TL.ov (gV 0 (.agg (x10.cells).toArray) KG Ki) ?_);refine TL.gu ?_;refine TL.pS rfl KgS (fun w1 hw => Khj x10 w1) (fun h22 => ?_) (fun h22 => ?_)
   ·refine TL.pk ?_;refine zET (zc (zG (TL.v (gF Kav) ?_)));refine TL.v (gL 0 Kb) ?_;refine TL.as_ ?_;refine zE (zN (zT (zG (TL.v (gD ((i + 1 : Nat) : Int)) ?_))));refine TL.mv ?_;refine zE ?_;exact TX.rd (⟨(i + 1, x10.ttl), by dsimp only; omega, by rw [KcU hx10 hst, if_pos (by simp [Kcb, q9, q13, h22])]⟩) (by show l.length - (i + 1) < l.length - i; omega) (fun w1 hw => hw.pk [])
   refine TL.pk ?_;refine zET (zd (zk (zN (zT (zG (TL.v (gD ((i + 1 : Nat) : Int)) ?_))))));refine TL.mv ?_;refine zE ?_;exact TX.rd (⟨(i + 1, en), by dsimp only; omega, by rw [KcU hx10 hst, if_neg (by simp [Kcb, q9, q13, h22])]⟩) (by show l.length - (i + 1) < l.length - i; omega) (fun w1 hw => hw.pk [])
  refine TL.mv ?_;refine TL.ov (gF Kav) ?_;refine TL.ov (gL 0 Kb) ?_;refine TL.rn 1 rfl (TL.gu ?_);refine TL.sp Km (fun q18 => ?_) (fun q18 => ?_)
  ·refine TL.rn 2 rfl (TL.ov (gV 0 (.agg (x10.cells).toArray) KG Ki) ?_);refine TL.gu ?_;refine TL.pS rfl KgS (fun w1 hw => Khj x10 w1) (fun h22 => ?_) (fun h22 => ?_)
   ·refine TL.pk ?_;refine zET (zc (zG (TL.v (gF Kav) ?_)));refine TL.v (gL 0 Kb) ?_;refine TL.as_ ?_;refine zE (zN (zT (zG (TL.v (gD ((i + 1 : Nat) : Int)) ?_))));refine TL.mv ?_;refine zE ?_;exact TX.rd (⟨(i + 1, x10.ttl), by dsimp only; omega, by rw [KcU hx10 hst, if_pos (by simp [Kcb, q9, q13, q18, h22])]⟩) (by show l.length - (i + 1) < l.length - i; omega) (fun w1 hw => hw.pk [])
   refine TL.pk ?_;refine zET (zd (zk (zN (zT (zG (TL.v (gD ((i + 1 : Nat) : Int)) ?_))))));refine TL.mv ?_;refine zE ?_;exact TX.rd (⟨(i + 1, en), by dsimp only; omega, by rw [KcU hx10 hst, if_neg (by simp [Kcb, q9, q13, q18, h22])]⟩) (by show l.length - (i + 1) < l.length - i; omega) (fun w1 hw => hw.pk [])
  refine TL.rn 5 rfl (zET (zd (zk (zN (zT (zG (TL.v (gD ((i + 1 : Nat) : Int)) ?_)))))));refine TL.mv ?_;refine zE ?_;exact TX.rd (⟨(i + 1, en), by dsimp only; omega, by rw [KcU hx10 hst, if_neg (by simp [Kcb, q9, q13, q18])]⟩) (by show l.length - (i + 1) < l.length - i; omega) (fun w1 hw => hw.pk [])
 have q9 := of_decide_eq_false h9;refine zET (zS (zd (zx (zX (zX (zM (zT (zSG (TL.rn 2 rfl (zET (zr ?_)))))))))));have hE : KT l = en := by rw [List.take_of_length_le (by omega)] at hst; exact hst
 exact Kc Tryz.results109 rfl (fun w1 hw => ⟨by rw [hE], hw.bel⟩)
theorem Kkk (A0 : Option Addr) (c0 : Nat) (l : List Rs) (w : World) (hr : Kd w w.heap.size 17 A0 l.length (Ka Rs.cells l)) (hl1 : l.length <= 100000) (hok : ∀ r ∈ l, r.Ok) :
  Calls Tryz.prog 55 #[.slice A0 l.length c0] w fun e w' => ∃ x : {y : (Nat × Obj) × (Nat × Obj) // Kad (fun s : Spot => Value.agg s.cells.toArray) Spot.Ok y.1.2 (fun s => ((KW l).1 s).map (Value.int .u32)) /\ Kad (fun s : Spot => Value.agg s.cells.toArray) Spot.Ok y.2.2 (fun s => ((KW l).2 s).map (Value.int .i64))}, e = .returned (.agg #[.int .i64 (KT l), .map (some x.1.1.1), .map (some x.1.2.1)]) /\ Pm w [.oth x.1.1.1 x.1.1.2, .oth x.1.2.1 x.1.2.2] w' := by
 refine Kg Tryz.func55 rfl rfl rfl ?_ (Pm.start w);refine zSG ?_;refine TL.al KeF fun g2 => ?_;refine zET (zSG (TL.mv ?_));refine TL.p1 rfl KiG (fun w1 hw => Klq A0 c0 l w1 (hr.up hw.bel) hl1) ?_;refine TL.mkmap rfl rfl rfl rfl (fun ga hga => ?_);refine TL.mkmap rfl rfl rfl rfl (fun gs hgs => ?_);refine TL.w rfl (Kj (v := .agg #[.int .i64 (KT l), .map (some ga), .map (some gs)]) rfl rfl (fun w => KiD _ _ _ w)) ?_;refine TL.al KeF fun g3 => ?_;refine TL.ps 0 Kc8 ?_;refine zET (zS (zSG (TL.mv ?_)));refine TL.v (gN Tryz.underlying27) ?_;refine TL.mv ?_;refine zET (zB (TC.lp (α := {y : Nat × (Obj × Obj) // y.1 <= l.length /\ ∃ fa fs, Kao (KT l) (l.take y.1) = (fa, fs) /\ Kad (fun s : Spot => Value.agg s.cells.toArray) Spot.Ok y.2.1 (fun s => (fa s).map (Value.int .u32)) /\ Kad (fun s : Spot => Value.agg s.cells.toArray) Spot.Ok y.2.2 (fun s => (fs s).map (Value.int .i64))}) [2, 3, 13, 14] rfl (fun y => [(15, .int .i64 ((y.1.1 : Nat) : Int))]) (fun y => Pm w [.blk g3 132 [.int .i64 (KT l), .map (some ga), .map (some gs)], .oth gs y.1.2.2, .oth ga y.1.2.1, .blk g2 132 [.int .i64 0, .map none, .map none]]) (fun y => l.length - y.1.1) (⟨(0, (.map #[] 0, .map #[] 0)), Nat.zero_le _, _, _, rfl, KgM _ _, KgM _ _⟩) (fun w1 hw => hw) ?_));rintro ⟨⟨i, oa, os⟩, hi, fa, fs, hst, hma, hms⟩;dsimp only at hi hst hma hms ⊢;refine zSG ?_;refine TL.sp Km (fun q16 => ?_) (fun q16 => ?_)
 ·refine zET (zS (zc (zk (zT (zS (zB (zSG ?_)))))));have hi17 : i < l.length := by omega
  obtain ⟨x17, hx17⟩ := Ko hi17;obtain ⟨b17, o17, hA17, hbb17, hc17⟩ := hr.ad (by omega) (by decide);refine TL.w rfl (gA (i := i) Tryz.underlying27 Ki rfl rfl rfl rfl hA17 (by omega)) ?_;refine TL.v (gR Kt KG Ki hbb17 hx17 hc17) ?_;refine TL.al Kbg fun g5 => ?_;refine TL.pstore (k := 0) (vs := x17.cells) rfl rfl rfl rfl rfl rfl rfl Ki (Kt.one _) (by show 17 <= 17; decide) (L' := [.blk g5 76 x17.cells, .blk g3 132 [.int .i64 (KT l), .map (some ga), .map (some gs)], .oth gs os, .oth ga oa, .blk g2 132 [.int .i64 0, .map none, .map none]]) rfl ?_;refine zET (zS (zSG (TL.v (gV 0 (.agg (x17.cells).toArray) KG Ki) ?_)));refine TL.pS rfl Kd6 (fun w1 hw => Kd9 x17 w1) (fun h20 => ?_) (fun h20 => ?_)
  ·refine TL.rn 2 rfl (TL.ov (gF KfR) ?_);refine TL.ov (gL 1 Kb) ?_;refine TL.gu ?_;refine TL.sp KP (fun q25 => ?_) (fun q25 => ?_)
   ·refine TL.rn 1 rfl (TL.ov (gF Kav) ?_);refine TL.ov (gL 0 Kb) ?_;refine TL.ov (gF KfR) ?_;refine TL.ov (gL 1 Kb) ?_;refine TL.gu ?_;refine TL.sp KP (fun q31 => ?_) (fun q31 => ?_)
    ·refine TL.rn 2 rfl (zET (zc (zx (zX (zM (zT (zG (TL.v (gD ((i + 1 : Nat) : Int)) ?_))))))));refine TL.mv ?_;refine zE ?_;exact TX.rd (⟨(i + 1, (oa, os)), by dsimp only; omega, _, _, Kfv hx17 hst (by simp [KU, q16, h20, q25, q31]), hma, hms⟩) (by show l.length - (i + 1) < l.length - i; omega) (fun w1 hw => hw.pk [1, 2, 3, 4])
    refine TL.rn 2 rfl (zET (zd (zk (zT (zSG (TL.v (gF KbC) ?_))))));refine TL.v (gL 0 Kb) ?_;refine TL.v (gF Kav) ?_;refine TL.v (gL 0 Kb) ?_;refine TL.w rfl (Kj (v := .agg #[.int .i64 x17.flow, .int .i64 x17.ttl]) rfl rfl (fun w => Kdz _ _ w)) ?_;refine TL.al KfK fun g6 => ?_;refine TL.ps 0 Kas ?_;refine zET (zSG (TL.v (gF KbH) ?_));refine TL.v (gL 2 KbN) ?_;refine TL.v (gV 0 (.agg #[.int .i64 x17.flow, .int .i64 x17.ttl]) KaO Kas) ?_;refine TL.w rfl (KcG (v := .int .i64 ((fs (⟨x17.flow, x17.ttl⟩ : Spot)).getD 0)) rfl rfl rfl Kaq Tryz.underlying130 (fun w => rfl) (i := 3) rfl hms.toG (KaH hx17 h20 hok) (by cases h9 : fs (⟨x17.flow, x17.ttl⟩ : Spot) <;> rfl)) ?_;refine TL.as_ ?_;refine zET (zB (zSG (TL.v (gF Ka0) ?_)));refine TL.vw rfl (gL 1 Kat) (fun h45 => ?_) (fun h45 => ?_)
    ·refine TL.rn 2 rfl (zET (zd (zSG (TL.mv ?_))));refine TL.sp Ka8 (fun q54 => ?_) (fun q54 => ?_)
     ·refine TL.as_ ?_;refine zET (zc (TC.hd 11 (Pm w [.blk g6 138 [.int .i64 x17.flow, .int .i64 x17.ttl], .blk g5 76 x17.cells, .blk g3 132 [.int .i64 (KT l), .map (some ga), .map (some gs)], .blk g2 132 [.int .i64 0, .map none, .map none]]) (fun w1 hw => hw.pk [0, 1, 2, 5]) fun jS => ?_));refine TH.t 0 rfl (gF KbH) jS ?_;refine TH.t 1 rfl (gL 2 KbN) jS ?_;refine TH.t 2 rfl (gV 0 (.agg #[.int .i64 x17.flow, .int .i64 x17.ttl]) KaO Kas) jS ?_;refine TH.t 3 rfl (gF Kb8) jS ?_;refine TH.t 4 rfl (gL 2 Kcl) jS ?_;refine TH.t 5 rfl (gV 0 (.agg #[.int .i64 x17.flow, .int .i64 x17.ttl]) KaO Kas) jS ?_;refine TH.t 6 rfl (gF KR) jS ?_;refine TH.t 7 rfl (gF Kbs) jS ?_;refine TH.t 8 rfl (gL 1 Kv) jS ?_;refine TH.o 9 ?_;refine TL.mapsetR (i := 3) (a := (⟨x17.flow, x17.ttl⟩ : Spot)) rfl rfl rfl rfl rfl rfl Kaq Tryz.underlying130 rfl hgs hms (KaH hx17 h20 hok) (fun os2 hms2 => ?_);rw [KbE] at hms2
      try dsimp only [List.set_cons_zero, List.set_cons_succ]
      refine zE ?_;refine TX.held (fun w1 hw => hw.pk [0, 1, 2, 5]) ?_;refine TH.o 10 ?_;refine TL.mapsetR (i := 4) (a := (⟨x17.flow, x17.ttl⟩ : Spot)) rfl rfl rfl rfl rfl rfl Kaq Tryz.underlying129 rfl hga hma (KaH hx17 h20 hok) (fun oa2 hma2 => ?_);rw [KbE] at hma2
      try dsimp only [List.set_cons_zero, List.set_cons_succ]
      refine zE ?_;refine TX.held (fun w1 hw => hw.pk [0, 1, 2, 5]) ?_;refine TH.done (by kernel_rfl) ?_;refine zN (zN (zT (zG (TL.v (gD ((i + 1 : Nat) : Int)) ?_))));refine TL.mv ?_;refine zE ?_;exact TX.rd (⟨(i + 1, (oa2, os2)), by dsimp only; omega, _, _, Kfe hx17 hst (by simp [KU, q16, h20, q25, q31]) h45 q54, hma2, hms2⟩) (by show l.length - (i + 1) < l.length - i; omega) (fun w1 hw => hw.pk [2, 3, 4, 5])
     refine TL.as_ ?_;refine zET (zd (zS (TC.quietQ (by kernel_rfl) (by kernel_rfl) (fun w hw => hw.drawn _) ?_)));refine TQ.w rfl (Kk rfl rfl) ?_;refine TQ.sp Kab (fun q66 => ?_) (fun q66 => ?_)
     ·refine TQ.w rfl (Kk rfl rfl) ?_;refine TQ.ov (gF Kb8) ?_;refine TQ.ov (gL 2 Kcl) ?_;refine TQ.ov (gV 0 (.agg #[.int .i64 x17.flow, .int .i64 x17.ttl]) KaO Kas) ?_;refine TQ.on rfl rfl rfl ?_;refine TQ.w rfl (KcG (v := .int .u32 ((fa (⟨x17.flow, x17.ttl⟩ : Spot)).getD 0)) rfl rfl rfl Kaq Tryz.underlying129 (fun w => rfl) (i := 4) rfl hma.toG (KaH hx17 h20 hok) (by cases h9 : fa (⟨x17.flow, x17.ttl⟩ : Spot) <;> rfl)) ?_;refine TQ.ov (gF KR) ?_;refine TQ.ov (gF Kbs) ?_;refine TQ.ov (gL 1 Kv) ?_;refine TQ.on rfl rfl rfl ?_;refine TQ.sp K1 (fun q75 => ?_) (fun q75 => ?_)
      ·refine TQ.rn 2 rfl ?_;refine TQ.fin ?_;refine zT (zc (TC.hd 8 (Pm w [.blk g6 138 [.int .i64 x17.flow, .int .i64 x17.ttl], .blk g5 76 x17.cells, .blk g3 132 [.int .i64 (KT l), .map (some ga), .map (some gs)], .blk g2 132 [.int .i64 0, .map none, .map none]]) (fun w1 hw => hw.pk [0, 1, 2, 5]) fun jS => ?_));refine TH.t 0 rfl (gF KbH) jS ?_;refine TH.t 1 rfl (gL 2 KbN) jS ?_;refine TH.t 2 rfl (gV 0 (.agg #[.int .i64 x17.flow, .int .i64 x17.ttl]) KaO Kas) jS ?_;refine TH.t 3 rfl (gF Kb8) jS ?_;refine TH.t 4 rfl (gL 2 Kcl) jS ?_;refine TH.t 5 rfl (gV 0 (.agg #[.int .i64 x17.flow, .int .i64 x17.ttl]) KaO Kas) jS ?_;refine TH.o 6 ?_;refine TL.mapsetR (i := 3) (a := (⟨x17.flow, x17.ttl⟩ : Spot)) rfl rfl rfl rfl rfl rfl Kaq Tryz.underlying130 rfl hgs hms (KaH hx17 h20 hok) (fun os2 hms2 => ?_);rw [KbE] at hms2
       try dsimp only [List.set_cons_zero, List.set_cons_succ]
       refine zE ?_;refine TX.held (fun w1 hw => hw.pk [0, 1, 2, 5]) ?_;refine TH.o 7 ?_;refine TL.mapsetR (i := 4) (a := (⟨x17.flow, x17.ttl⟩ : Spot)) rfl rfl rfl rfl rfl rfl Kaq Tryz.underlying129 rfl hga hma (KaH hx17 h20 hok) (fun oa2 hma2 => ?_);rw [KbE] at hma2
       try dsimp only [List.set_cons_zero, List.set_cons_succ]
       refine zE ?_;refine TX.held (fun w1 hw => hw.pk [0, 1, 2, 5]) ?_;refine TH.done (by kernel_rfl) ?_;refine zN (zN (zT (zG (TL.v (gD ((i + 1 : Nat) : Int)) ?_))));refine TL.mv ?_;refine zE ?_;exact TX.rd (⟨(i + 1, (oa2, os2)), by dsimp only; omega, _, _, KgV hx17 hst (by simp [KU, q16, h20, q25, q31]) h45 q66 q75, hma2, hms2⟩) (by show l.length - (i + 1) < l.length - i; omega) (fun w1 hw => hw.pk [2, 3, 4, 5])
      refine TQ.rn 2 rfl ?_;refine TQ.fin ?_;refine zT (zd (zk (zN (zN (zT (zG (TL.v (gD ((i + 1 : Nat) : Int)) ?_)))))));refine TL.mv ?_;refine zE ?_;exact TX.rd (⟨(i + 1, (oa, os)), by dsimp only; omega, _, _, Kdv hx17 hst (by simp [KU, q16, h20, q25, q31]) h45 q54 (by exact .inr q75), hma, hms⟩) (by show l.length - (i + 1) < l.length - i; omega) (fun w1 hw => hw.pk [2, 3, 4, 5])
     refine TQ.rn 11 rfl ?_;refine TQ.fin ?_;refine zT (zd (zk (zN (zN (zT (zG (TL.v (gD ((i + 1 : Nat) : Int)) ?_)))))));refine TL.mv ?_;refine zE ?_;exact TX.rd (⟨(i + 1, (oa, os)), by dsimp only; omega, _, _, Kdv hx17 hst (by simp [KU, q16, h20, q25, q31]) h45 q54 (by exact .inl q66), hma, hms⟩) (by show l.length - (i + 1) < l.length - i; omega) (fun w1 hw => hw.pk [2, 3, 4, 5])
    refine TL.rn 2 rfl (zET (zc (zG (TL.v (gF KbH) ?_))));refine TL.v (gL 2 KbN) ?_;refine TL.v (gV 0 (.agg #[.int .i64 x17.flow, .int .i64 x17.ttl]) KaO Kas) ?_;refine TL.mv ?_;refine TL.w rfl (KhI rfl rfl rfl) ?_;refine TL.mapsetR (i := 3) (a := (⟨x17.flow, x17.ttl⟩ : Spot)) rfl rfl rfl rfl rfl rfl Kaq Tryz.underlying130 rfl hgs hms (KaH hx17 h20 hok) (fun os2 hms2 => ?_);rw [KbE] at hms2
    try dsimp only [List.set_cons_zero, List.set_cons_succ]
    refine zE (zN (zN (zT (zG (TL.v (gD ((i + 1 : Nat) : Int)) ?_)))));refine TL.mv ?_;refine zE ?_;exact TX.rd (⟨(i + 1, (oa, os2)), by dsimp only; omega, _, _, KfL hx17 hst (by simp [KU, q16, h20, q25, q31]) h45, hma, hms2⟩) (by show l.length - (i + 1) < l.length - i; omega) (fun w1 hw => hw.pk [2, 3, 4, 5])
   refine TL.rn 8 rfl (zET (zd (zk (zT (zSG (TL.v (gF KbC) ?_))))));refine TL.v (gL 0 Kb) ?_;refine TL.v (gF Kav) ?_;refine TL.v (gL 0 Kb) ?_;refine TL.w rfl (Kj (v := .agg #[.int .i64 x17.flow, .int .i64 x17.ttl]) rfl rfl (fun w => Kdz _ _ w)) ?_;refine TL.al KfK fun g6 => ?_;refine TL.ps 0 Kas ?_;refine zET (zSG (TL.v (gF KbH) ?_));refine TL.v (gL 2 KbN) ?_;refine TL.v (gV 0 (.agg #[.int .i64 x17.flow, .int .i64 x17.ttl]) KaO Kas) ?_;refine TL.w rfl (KcG (v := .int .i64 ((fs (⟨x17.flow, x17.ttl⟩ : Spot)).getD 0)) rfl rfl rfl Kaq Tryz.underlying130 (fun w => rfl) (i := 3) rfl hms.toG (KaH hx17 h20 hok) (by cases h9 : fs (⟨x17.flow, x17.ttl⟩ : Spot) <;> rfl)) ?_;refine TL.as_ ?_;refine zET (zB (zSG (TL.v (gF Ka0) ?_)));refine TL.vw rfl (gL 1 Kat) (fun h45 => ?_) (fun h45 => ?_)
   ·refine TL.rn 2 rfl (zET (zd (zSG (TL.mv ?_))));refine TL.sp Ka8 (fun q54 => ?_) (fun q54 => ?_)
    ·refine TL.as_ ?_;refine zET (zc (TC.hd 11 (Pm w [.blk g6 138 [.int .i64 x17.flow, .int .i64 x17.ttl], .blk g5 76 x17.cells, .blk g3 132 [.int .i64 (KT l), .map (some ga), .map (some gs)], .blk g2 132 [.int .i64 0, .map none, .map none]]) (fun w1 hw => hw.pk [0, 1, 2, 5]) fun jS => ?_));refine TH.t 0 rfl (gF KbH) jS ?_;refine TH.t 1 rfl (gL 2 KbN) jS ?_;refine TH.t 2 rfl (gV 0 (.agg #[.int .i64 x17.flow, .int .i64 x17.ttl]) KaO Kas) jS ?_;refine TH.t 3 rfl (gF Kb8) jS ?_;refine TH.t 4 rfl (gL 2 Kcl) jS ?_;refine TH.t 5 rfl (gV 0 (.agg #[.int .i64 x17.flow, .int .i64 x17.ttl]) KaO Kas) jS ?_;refine TH.t 6 rfl (gF KR) jS ?_;refine TH.t 7 rfl (gF Kbs) jS ?_;refine TH.t 8 rfl (gL 1 Kv) jS ?_;refine TH.o 9 ?_;refine TL.mapsetR (i := 3) (a := (⟨x17.flow, x17.ttl⟩ : Spot)) rfl rfl rfl rfl rfl rfl Kaq Tryz.underlying130 rfl hgs hms (KaH hx17 h20 hok) (fun os2 hms2 => ?_);rw [KbE] at hms2
     try dsimp only [List.set_cons_zero, List.set_cons_succ]
     refine zE ?_;refine TX.held (fun w1 hw => hw.pk [0, 1, 2, 5]) ?_;refine TH.o 10 ?_;refine TL.mapsetR (i := 4) (a := (⟨x17.flow, x17.ttl⟩ : Spot)) rfl rfl rfl rfl rfl rfl Kaq Tryz.underlying129 rfl hga hma (KaH hx17 h20 hok) (fun oa2 hma2 => ?_);rw [KbE] at hma2
     try dsimp only [List.set_cons_zero, List.set_cons_succ]
     refine zE ?_;refine TX.held (fun w1 hw => hw.pk [0, 1, 2, 5]) ?_;refine TH.done (by kernel_rfl) ?_;refine zN (zN (zT (zG (TL.v (gD ((i + 1 : Nat) : Int)) ?_))));refine TL.mv ?_;refine zE ?_;exact TX.rd (⟨(i + 1, (oa2, os2)), by dsimp only; omega, _, _, Kfe hx17 hst (by simp [KU, q16, h20, q25]) h45 q54, hma2, hms2⟩) (by show l.length - (i + 1) < l.length - i; omega) (fun w1 hw => hw.pk [2, 3, 4, 5])
    refine TL.as_ ?_;refine zET (zd (zS (TC.quietQ (by kernel_rfl) (by kernel_rfl) (fun w hw => hw.drawn _) ?_)));refine TQ.w rfl (Kk rfl rfl) ?_;refine TQ.sp Kab (fun q66 => ?_) (fun q66 => ?_)
    ·refine TQ.w rfl (Kk rfl rfl) ?_;refine TQ.ov (gF Kb8) ?_;refine TQ.ov (gL 2 Kcl) ?_;refine TQ.ov (gV 0 (.agg #[.int .i64 x17.flow, .int .i64 x17.ttl]) KaO Kas) ?_;refine TQ.on rfl rfl rfl ?_;refine TQ.w rfl (KcG (v := .int .u32 ((fa (⟨x17.flow, x17.ttl⟩ : Spot)).getD 0)) rfl rfl rfl Kaq Tryz.underlying129 (fun w => rfl) (i := 4) rfl hma.toG (KaH hx17 h20 hok) (by cases h9 : fa (⟨x17.flow, x17.ttl⟩ : Spot) <;> rfl)) ?_;refine TQ.ov (gF KR) ?_;refine TQ.ov (gF Kbs) ?_;refine TQ.ov (gL 1 Kv) ?_;refine TQ.on rfl rfl rfl ?_;refine TQ.sp K1 (fun q75 => ?_) (fun q75 => ?_)
     ·refine TQ.rn 2 rfl ?_;refine TQ.fin ?_;refine zT (zc (TC.hd 8 (Pm w [.blk g6 138 [.int .i64 x17.flow, .int .i64 x17.ttl], .blk g5 76 x17.cells, .blk g3 132 [.int .i64 (KT l), .map (some ga), .map (some gs)], .blk g2 132 [.int .i64 0, .map none, .map none]]) (fun w1 hw => hw.pk [0, 1, 2, 5]) fun jS => ?_));refine TH.t 0 rfl (gF KbH) jS ?_;refine TH.t 1 rfl (gL 2 KbN) jS ?_;refine TH.t 2 rfl (gV 0 (.agg #[.int .i64 x17.flow, .int .i64 x17.ttl]) KaO Kas) jS ?_;refine TH.t 3 rfl (gF Kb8) jS ?_;refine TH.t 4 rfl (gL 2 Kcl) jS ?_;refine TH.t 5 rfl (gV 0 (.agg #[.int .i64 x17.flow, .int .i64 x17.ttl]) KaO Kas) jS ?_;refine TH.o 6 ?_;refine TL.mapsetR (i := 3) (a := (⟨x17.flow, x17.ttl⟩ : Spot)) rfl rfl rfl rfl rfl rfl Kaq Tryz.underlying130 rfl hgs hms (KaH hx17 h20 hok) (fun os2 hms2 => ?_);rw [KbE] at hms2
      try dsimp only [List.set_cons_zero, List.set_cons_succ]
      refine zE ?_;refine TX.held (fun w1 hw => hw.pk [0, 1, 2, 5]) ?_;refine TH.o 7 ?_;refine TL.mapsetR (i := 4) (a := (⟨x17.flow, x17.ttl⟩ : Spot)) rfl rfl rfl rfl rfl rfl Kaq Tryz.underlying129 rfl hga hma (KaH hx17 h20 hok) (fun oa2 hma2 => ?_);rw [KbE] at hma2
      try dsimp only [List.set_cons_zero, List.set_cons_succ]
      refine zE ?_;refine TX.held (fun w1 hw => hw.pk [0, 1, 2, 5]) ?_;refine TH.done (by kernel_rfl) ?_;refine zN (zN (zT (zG (TL.v (gD ((i + 1 : Nat) : Int)) ?_))));refine TL.mv ?_;refine zE ?_;exact TX.rd (⟨(i + 1, (oa2, os2)), by dsimp only; omega, _, _, KgV hx17 hst (by simp [KU, q16, h20, q25]) h45 q66 q75, hma2, hms2⟩) (by show l.length - (i + 1) < l.length - i; omega) (fun w1 hw => hw.pk [2, 3, 4, 5])
     refine TQ.rn 2 rfl ?_;refine TQ.fin ?_;refine zT (zd (zk (zN (zN (zT (zG (TL.v (gD ((i + 1 : Nat) : Int)) ?_)))))));refine TL.mv ?_;refine zE ?_;exact TX.rd (⟨(i + 1, (oa, os)), by dsimp only; omega, _, _, Kdv hx17 hst (by simp [KU, q16, h20, q25]) h45 q54 (by exact .inr q75), hma, hms⟩) (by show l.length - (i + 1) < l.length - i; omega) (fun w1 hw => hw.pk [2, 3, 4, 5])
    refine TQ.rn 11 rfl ?_;refine TQ.fin ?_;refine zT (zd (zk (zN (zN (zT (zG (TL.v (gD ((i + 1 : Nat) : Int)) ?_)))))));refine TL.mv ?_;refine zE ?_;exact TX.rd (⟨(i + 1, (oa, os)), by dsimp only; omega, _, _, Kdv hx17 hst (by simp [KU, q16, h20, q25]) h45 q54 (by exact .inl q66), hma, hms⟩) (by show l.length - (i + 1) < l.length - i; omega) (fun w1 hw => hw.pk [2, 3, 4, 5])
   refine TL.rn 2 rfl (zET (zc (zG (TL.v (gF KbH) ?_))));refine TL.v (gL 2 KbN) ?_;refine TL.v (gV 0 (.agg #[.int .i64 x17.flow, .int .i64 x17.ttl]) KaO Kas) ?_;refine TL.mv ?_;refine TL.w rfl (KhI rfl rfl rfl) ?_;refine TL.mapsetR (i := 3) (a := (⟨x17.flow, x17.ttl⟩ : Spot)) rfl rfl rfl rfl rfl rfl Kaq Tryz.underlying130 rfl hgs hms (KaH hx17 h20 hok) (fun os2 hms2 => ?_);rw [KbE] at hms2
   try dsimp only [List.set_cons_zero, List.set_cons_succ]
   refine zE (zN (zN (zT (zG (TL.v (gD ((i + 1 : Nat) : Int)) ?_)))));refine TL.mv ?_;refine zE ?_;exact TX.rd (⟨(i + 1, (oa, os2)), by dsimp only; omega, _, _, KfL hx17 hst (by simp [KU, q16, h20, q25]) h45, hma, hms2⟩) (by show l.length - (i + 1) < l.length - i; omega) (fun w1 hw => hw.pk [2, 3, 4, 5])
  refine TL.rn 6 rfl ?_;refine TL.offU rfl rfl rfl rfl rfl ?_;refine TL.offU rfl rfl rfl rfl rfl ?_;refine TL.offU rfl rfl rfl rfl rfl ?_;refine TL.offU rfl rfl rfl rfl rfl ?_;refine TL.offU rfl rfl rfl rfl rfl ?_;refine TL.rn 2 rfl (zET (zc (zx (zX (zM (zT (zG (TL.v (gD ((i + 1 : Nat) : Int)) ?_))))))));refine TL.mv ?_;refine zE ?_;exact TX.rd (⟨(i + 1, (oa, os)), by dsimp only; omega, _, _, Kfv hx17 hst (by simp [KU, q16, h20]), hma, hms⟩) (by show l.length - (i + 1) < l.length - i; omega) (fun w1 hw => hw.pk [1, 2, 3, 4])
 refine zET (zS (zd (zx (zX (zX (zM (zT (zSG (TL.v (gV 0 (.agg #[.int .i64 (KT l), .map (some ga), .map (some gs)]) Kf6 Kc8) ?_)))))))));refine TL.ps 3 Kc8 ?_;refine zET (zr ?_);rw [List.take_of_length_le (by omega)] at hst;have e1 : fa = (KW l).1 := by show fa = (Kao (KT l) l).1; rw [hst]
 have e2 : fs = (KW l).2 := by show fs = (Kao (KT l) l).2; rw [hst]
 subst e1 e2;exact Kb0 (k := 3) Tryz.results55 rfl rfl Tryz.underlying132 rfl rfl (fun w1 hw => ⟨⟨((ga, oa), (gs, os)), hma, hms⟩, rfl, hw.pick [2, 1] (by decide) rfl⟩)
set_option maxRecDepth 20000
section
variable {P : Program} {N : Fr} {E : Env} {w0 : Base} {L : List Pc} {o : Oper} {κ : Type} {enc : κ -> Value} {Ok : κ -> Prop} {t k e : TypeId}
theorem Klv {x y : Operand} {g : Nat} {ob : Obj} {f : κ -> Option Value} {a : κ} {z : Value} (ho : o.op = .lookup t x y false) (hx : ev E x = some (.map (some g))) (hy : ev E y = some (enc a)) (K : MKey P k enc Ok) (ht : P.underlying t = some (.map k e)) (hz : ∀ w : World, (zeroValue e).run P w = .ok z w) (hg : w0.w.heap[g]? = some ob) (hm : Kag enc Ok ob f) (ha : Ok a) {v : Value} (hv : (f a).getD z = v) :
  Kl P N o E (Pm w0 L) v := fun ac w hac hw => by
 have hnc : ob.isCells = false := by obtain ⟨_, _, he, _⟩ := hm; rw [he]; rfl
 unfold execOp; rw [ho];subst hv;simp [hac.eval hx, hac.eval hy, hm.look K ht hz (hw.oth.same g ob hg hnc) ha false]
end
def KaR (fs : Spot -> Option Int) (flow ttl : Int) : Bool := decide ((fs ⟨flow, ttl⟩).getD 0 = 2) || decide ((fs ⟨flow, ttl⟩).getD 0 = 1)
def Kcy (fa fs : Spot -> Option Int) (flow : Int) (z i : Nat) (o : List Int) : Prop := o = (List.range i).map (fun (j : Nat) => (fa ⟨flow, ((j + 1 : Nat) : Int)⟩).getD 0) /\ ∀ j : Nat, j < i -> KaR fs flow ((j + 1 : Nat) : Int) = true
theorem PathF.nil {fa fs : Spot -> Option Int} {flow : Int} {z : Nat} : Kcy fa fs flow z 0 [] := ⟨rfl, fun j hj => absurd hj (Nat.not_lt_zero _)⟩
theorem Kj3 {fa fs : Spot -> Option Int} {flow : Int} {z i : Nat} {o : List Int} (h : Kcy fa fs flow z i o) (hh : KaR fs flow ((i + 1 : Nat) : Int) = true) : Kcy fa fs flow z (i + 1) (o ++ [(fa ⟨flow, ((i + 1 : Nat) : Int)⟩).getD 0]) := by
 refine ⟨by rw [List.range_succ, List.map_append, <- h.1]; rfl, fun j hj => ?_⟩;rcases Nat.lt_or_ge j i with h1 | h1
 ·exact h.2 j h1
 obtain rfl : j = i := by omega
 exact hh
def KbS (l : List Rs) (flow : Int) (o : List Int) : Prop := ∃ i : Nat, Kcy (KW l).1 (KW l).2 flow 0 i o /\ KaR (KW l).2 flow ((i + 1 : Nat) : Int) = false
theorem Kkm {l : List Rs} {flow : Int} {i : Nat} {o : List Int} (h : Kcy (KW l).1 (KW l).2 flow 0 i o) (hh : KaR (KW l).2 flow ((i + 1 : Nat) : Int) = false) : KbS l flow o := ⟨i, h, hh⟩
theorem KbS.eq {l : List Rs} {flow : Int} {o o' : List Int} (h : KbS l flow o) (h' : KbS l flow o') : o = o' := by
 obtain ⟨i, ⟨h1, h2⟩, h3⟩ := h;obtain ⟨i', ⟨h4, h5⟩, h6⟩ := h'
 have : i = i' := by
  rcases Nat.lt_trichotomy i i' with h7 | h7 | h7
  ·have := h5 i h7; rw [h3] at this; cases this
  ·exact h7
  have := h2 i' h7; rw [h6] at this; cases this
 subst this;rw [h1, h4]
theorem Kgl {flow : Int} {i : Nat} (hk : (Lit.int .i64 flow).wf = true) (hi : i <= 1000000) : (⟨flow, ((i : Nat) : Int)⟩ : Spot).Ok := ⟨hk, by
 show (Lit.int .i64 ((i : Nat) : Int)).wf = true;simp [Lit.wf, IntKind.min, IntKind.max, IntKind.signed, IntKind.bits]; omega⟩
theorem KfY {e : Int} : ∀ (l : List Rs) (p : (Spot -> Option Int) × (Spot -> Option Int)) (s : Spot), (l.foldl (Kbn e) p).2 s ≠ none -> p.2 s ≠ none \/ ∃ r ∈ l, KU e r = true /\ Kah r = s
 | [], p, s, h => .inl h
 | r :: l, p, s, h => by
  rcases KfY l (Kbn e p r) s h with h1 | ⟨r', h2, h3⟩
  ·by_cases hu : KU e r = true
   ·by_cases hs : Kah r = s
    ·exact .inr ⟨r, List.mem_cons_self, hu, hs⟩
    refine .inl ?_;have hn : ∀ (f : Spot -> Option Int) (v : Int), KaY f (Kah r) v s = f s := fun f v => if_neg fun h => hs h.symm;unfold Kbn at h1;rw [if_pos hu] at h1;split at h1
    ·exact fun hh => h1 ((hn _ _).trans hh)
    split at h1
    ·exact fun hh => h1 ((hn _ _).trans hh)
    split at h1
    ·exact fun hh => h1 ((hn _ _).trans hh)
    exact h1
   unfold Kbn at h1;rw [if_neg hu] at h1;exact .inl h1
  exact .inr ⟨r', List.mem_cons_of_mem _ h2, h3⟩
theorem KlH {l : List Rs} {s : Spot} (h : ((KW l).2 s).getD 0 ≠ 0) : ∃ r ∈ l, KU (KT l) r = true /\ Kah r = s := by
 have h1 : (KW l).2 s ≠ none := fun e => h (by rw [e]; rfl);rcases KfY l _ s h1 with h2 | h2
 ·exact absurd rfl h2
 exact h2
theorem KlI {e : Int} {r : Rs} (h : KU e r = true) : 0 <= r.flow /\ r.flow <= 1023 /\ 1 <= r.ttl /\ r.ttl <= 255 := by
 unfold KU KaB Ks at h;simp only [Bool.and_eq_true, decide_eq_true_eq] at h;have hr : r.inRange := Decidable.by_contra fun h1 => by have := KeN h1; omega
 obtain ⟨a1, a2, a3, a4, a5, a6, a7, a8, a9, a10, a11, a12, a13, a14, a15⟩ := hr;exact ⟨a12, a13, a14, a15⟩
theorem KlX {l : List Rs} {flow ttl : Int} (h : KaR (KW l).2 flow ttl = true) : ∃ r ∈ l, KU (KT l) r = true /\ r.flow = flow /\ r.ttl = ttl := by
 unfold KaR at h;simp only [Bool.or_eq_true, decide_eq_true_eq] at h;obtain ⟨r, h1, h2, h3⟩ := KlH (l := l) (s := ⟨flow, ttl⟩) (by omega);unfold Kah at h3;cases h3;exact ⟨r, h1, h2, rfl, rfl⟩
theorem KfV {l : List Rs} {flow : Int} {i : Nat} (hok : ∀ r ∈ l, r.Ok) (h : KaR (KW l).2 flow ((i + 1 : Nat) : Int) = true) : i + 1 <= 255 := by
 obtain ⟨r, _, h2, _, h4⟩ := KlX h;have := KlI h2;omega
theorem Ka7 (a0_0 : Int) (w : World) : (Instr.buildSlice 70 1 #[(0, .int .u32 a0_0)]).run Tryz.prog w = .ok (.slice (some ⟨w.heap.size, 0, none⟩) 1 1) (w.alloc (.cells [.int .u32 a0_0].toArray 42)) := by kernel_rfl
theorem Kbm : Elem Tryz.prog 70 42 1 4 := Elem.mk' Tryz.underlying70 (z := .int .u32 0) (by kernel_rfl) rfl (by omega) (by omega)
theorem Kie (en : Int) (ga gs : Nat) (os : Obj) (fs : Spot -> Option Int) (flow ttl : Int) (w : World) (hgs : w.heap[gs]? = some os) (hmgs : Kad (fun s : Spot => Value.agg s.cells.toArray) Spot.Ok os (fun s => (fs s).map (Value.int .i64))) (hk : (⟨flow, ttl⟩ : Spot).Ok) :
  Calls Tryz.prog 57 #[.agg #[.int .i64 en, .map (some ga), .map (some gs)], .int .i64 flow, .int .i64 ttl] w fun e w' => e = .returned (.bool (KaR fs flow ttl)) /\ Below w.heap.size w w' := by
 refine Kg Tryz.func57 rfl rfl rfl ?_ (Pm.start w);refine zSG ?_;refine TL.bx fun g3 => ?_;refine TL.as_ ?_;refine zET (zSG (TL.v (gF KbH) ?_));refine TL.v (gL 0 KbN) ?_;refine TL.rn 2 rfl ?_;refine TL.w rfl (Kj (v := .agg #[.int .i64 flow, .int .i64 ttl]) rfl rfl (fun w => Kdz _ _ w)) ?_;refine TL.w rfl (Klv (a := (⟨flow, ttl⟩ : Spot)) (v := .int .i64 ((fs (⟨flow, ttl⟩ : Spot)).getD 0)) rfl rfl rfl Kaq Tryz.underlying130 (fun w => rfl) hgs hmgs.toG hk (by cases h9 : fs (⟨flow, ttl⟩ : Spot) <;> rfl)) ?_;refine TL.as_ ?_;refine zET (zSG (TL.mv ?_));refine TL.sp Kab (fun q15 => ?_) (fun q15 => ?_)
 ·refine TL.rn 5 rfl (zET (zr ?_));have hE : (KaR fs flow ttl) = true := (by simp [KaR, q15]);exact Kc Tryz.results57 rfl (fun w1 hw => ⟨by rw [hE]; try rfl, hw.bel⟩)
 refine TL.rn 2 rfl (TL.gu ?_);refine TL.sp Kab (fun q18 => ?_) (fun q18 => ?_)
 ·refine TL.rn 2 rfl (zET (zr ?_));have hE : (KaR fs flow ttl) = true := (by simp [KaR, q15, q18]);exact Kc Tryz.results57 rfl (fun w1 hw => ⟨by rw [hE]; try rfl, hw.bel⟩)
 refine TL.rn 2 rfl (zET (zr ?_));have hE : (KaR fs flow ttl) = false := (by simp [KaR, q15, q18]);exact Kc Tryz.results57 rfl (fun w1 hw => ⟨by rw [hE]; try rfl, hw.bel⟩)
theorem Kji (A0 : Option Addr) (c0 : Nat) (l : List Rs) (flow : Int) (w : World) (hr : Kd w w.heap.size 17 A0 l.length (Ka Rs.cells l)) (hl1 : l.length <= 100000) (hok : ∀ r ∈ l, r.Ok) (hk : (Lit.int .i64 flow).wf = true) :
  Calls Tryz.prog 42 #[.slice A0 l.length c0, .int .i64 flow] w fun e w' => ∃ x : {y : (Option Addr × Nat) × List Int // KbS l flow y.2 /\ y.2.length <= y.1.2 /\ y.1.2 <= maxLen}, e = .returned (.slice x.1.1.1 x.1.2.length x.1.1.2) /\ Pm w [.row (.slice x.1.1.1 x.1.2.length x.1.1.2) 42 1 x.1.2.length (Ka (ic .u32) x.1.2)] w' := by
 refine Kg Tryz.func42 rfl rfl rfl ?_ (Pm.start w);refine zSG (TL.as_ ?_);refine zET (zSG (TL.mv ?_));refine TL.pM _ _ rfl o55 (fun w1 hw => Kkk A0 c0 l w1 (hr.up hw.bel) hl1 hok) ?_;rintro ⟨⟨⟨ga, oa⟩, ⟨gs, os⟩⟩, hma, hms⟩;dsimp only [lC, lN];dsimp only at hma hms ⊢;refine TL.al KeF fun g5 => ?_;refine TL.ps 0 Kc8 ?_;refine zET (zSG (TL.as_ ?_));refine zET (zS (zSG (TL.as_ ?_)));refine zET (zB (TC.nilrow 42 1 ?_));refine TC.lp (α := {y : Nat × (Option Addr × Nat) × List Int // y.1 <= 256 /\ (Kcy (KW l).1 (KW l).2 flow 0 y.1 y.2.2) /\ y.2.2.length <= y.1 /\ y.2.2.length <= y.2.1.2 /\ y.2.1.2 <= maxLen}) [1, 5] rfl (fun y => [(7, .int .i64 ((y.1.1 + 1 : Nat) : Int)), (6, .slice y.1.2.1.1 y.1.2.2.length y.1.2.1.2)]) (fun y => Pm w [.row (.slice y.1.2.1.1 y.1.2.2.length y.1.2.1.2) 42 1 y.1.2.2.length (Ka (ic .u32) y.1.2.2), .blk g5 132 [.int .i64 (KT l), .map (some ga), .map (some gs)], .oth ga oa, .oth gs os]) (fun y => 256 - y.1.1) (⟨(0, (none, 0), []), Nat.zero_le _, PathF.nil, Nat.le_refl _, Nat.le_refl _, Nat.zero_le _⟩) (fun w1 hw => hw) ?_;rintro ⟨⟨i, ⟨Ao, co⟩, out⟩, hi, hpt, houtl, houtc, houtm⟩;dsimp only at hi hpt houtl houtc houtm ⊢;refine zS (zSG (TL.v (gV 1 (.agg #[.int .i64 (KT l), .map (some ga), .map (some gs)]) Kf6 Kc8) ?_));refine TL.rn 2 rfl ?_;refine TL.pS rfl o57 (fun w1 hw => Kie (KT l) ga gs os ((KW l).2) flow ((i + 1 : Nat) : Int) w1 (hw.at_ (k := 3) rfl).1 hms (Kgl hk (by omega))) (fun h13 => ?_) (fun h13 => ?_)
 ·have hi2 := KfV hok h13;refine zET (zc (zk (zT (zS (zB (zG (TL.mv ?_)))))));refine TL.v (gF Kb8) ?_;refine TL.v (gL 1 Kcl) ?_;refine TL.rn 2 rfl ?_;refine TL.w rfl (Kj (v := .agg #[.int .i64 flow, .int .i64 ((i + 1 : Nat) : Int)]) rfl rfl (fun w => Kdz _ _ w)) ?_;refine TL.w rfl (KcG (a := (⟨flow, ((i + 1 : Nat) : Int)⟩ : Spot)) (v := .int .u32 (((KW l).1 (⟨flow, ((i + 1 : Nat) : Int)⟩ : Spot)).getD 0)) rfl rfl rfl Kaq Tryz.underlying129 (fun w => rfl) (i := 2) rfl hma.toG (Kgl hk (by omega)) (by cases h9 : (KW l).1 (⟨flow, ((i + 1 : Nat) : Int)⟩ : Spot) <;> rfl)) ?_;refine TL.prowS (e := 42) (size := 1) (cs := Ka (ic .u32) [((KW l).1 (⟨flow, ((i + 1 : Nat) : Int)⟩ : Spot)).getD 0]) rfl rfl rfl rfl rfl (fun w => Ka7 _ w) (by decide) rfl (fun g23 => ?_);refine TL.appendT (k := 1) rfl rfl rfl rfl Tryz.underlying70 Kbm rfl rfl rfl (fun w1 hw => KL hw (k := 0) rfl) (KB (KO .u32) _) (by show _ * 4 <= _; omega) ((out ++ [((KW l).1 (⟨flow, ((i + 1 : Nat) : Int)⟩ : Spot)).getD 0]).length) (by rw [List.length_append]; rfl) (Ka (ic .u32) (out ++ [((KW l).1 (⟨flow, ((i + 1 : Nat) : Int)⟩ : Spot)).getD 0])) ((KF _ _).symm) (fun A24 c24 hA241 hA242 => ?_);refine TL.as_ ?_;refine zE (zN (zT (zG (TL.mv ?_))));refine TL.v (gD ((i + 1 + 1 : Nat) : Int)) ?_;refine TL.as_ ?_;refine zE ?_;exact TX.rd (⟨(i + 1, (A24, c24), out ++ [((KW l).1 (⟨flow, ((i + 1 : Nat) : Int)⟩ : Spot)).getD 0]), by dsimp only; omega, Kj3 hpt h13, by dsimp only; rw [List.length_append]; show out.length + 1 <= _; omega, hA241, hA242⟩) (by show 256 - (i + 1) < 256 - i; omega) (fun w1 hw => hw.pk [1, 2, 3, 4])
 refine zET (zd (zx (zX (zX (zM (zT (zSG (TL.rn 2 rfl (zET (zr ?_))))))))));exact Kc Tryz.results42 rfl (fun w1 hw => ⟨⟨((Ao, co), out), Kkm hpt h13, by dsimp only; omega, houtm⟩, rfl, hw.pick [0] (by decide) rfl⟩)
def KY (o : List Rs) (e : Eps) : List Rs := (o.drop e.first.toNat).take (e.last.toNat - e.first.toNat)
theorem KkZ {o : List Rs} {e : Eps} {r : Rs} (h : r ∈ KY o e) : r ∈ o := List.mem_of_mem_drop (List.mem_of_mem_take h)
inductive PtsI (l : List Rs) : List Trc -> List (List Rs) -> Prop
  | nil : PtsI l [] []
  | snoc {ts : List Trc} {P : List (List Rs)} {t : Trc} {y : List Rs} {es : List Eps} (h : PtsI l ts P) (hy : Kaj l t y) (he : EpF y es) : PtsI l (ts ++ [t]) (P ++ es.map (KY y))
def Kan (l : List Rs) (P : List (List Rs)) : Prop := ∃ ts, KM l ts /\ PtsI l ts P
theorem Kaj.of_mem {l l' y : List Rs} {t : Trc} (h : Kaj l t y) (hm : ∀ r, r ∈ l ↔ r ∈ l') : Kaj l' t y := by
  obtain ⟨o, h1, h2⟩ := h;exact ⟨o, ⟨h1.1, fun x => by rw [h1.2, hm]⟩, h2⟩
theorem KM.of_mem {l l' : List Rs} {o : List Trc} (h : KM l o) (hm : ∀ r, r ∈ l ↔ r ∈ l') : KM l' o := ⟨h.1, fun t => by
  rw [h.2];constructor
  · rintro ⟨r, h1, h2⟩; exact ⟨r, (hm r).1 h1, h2⟩
  · rintro ⟨r, h1, h2⟩; exact ⟨r, (hm r).2 h1, h2⟩⟩
theorem KjV {α : Type} {a b : List α} {x y : α} (h : a ++ [x] = b ++ [y]) : a = b /\ x = y := by
  obtain ⟨h1, h2⟩ := List.append_inj' h rfl;exact ⟨h1, by simpa using h2⟩
theorem PtsI.eq {l l' : List Rs} (hm : ∀ r, r ∈ l ↔ r ∈ l') {ts : List Trc} {P : List (List Rs)} (h : PtsI l ts P) : ∀ {P' : List (List Rs)}, PtsI l' ts P' -> P = P' := by
  induction h with
  | nil =>
    intro P' h';generalize hts : ([] : List Trc) = ts at h'
    cases h' with
    | nil => rfl
    | snoc => exact absurd hts (by simp)
  | @snoc ts P t y es h hy he ih =>
    intro P' h';generalize hts : ts ++ [t] = ts2 at h'
    cases h' with
    | nil => exact absurd hts (by simp)
    | @snoc ts' P2 t' y' es' k ky ke =>
      obtain ⟨rfl, rfl⟩ := KjV hts;obtain rfl := ih k;obtain rfl := hy.eq (ky.of_mem fun r => (hm r).symm);obtain rfl := he.eq ke
      rfl
theorem Kan.eq {l l' : List Rs} {P P' : List (List Rs)} (h : Kan l P) (h' : Kan l' P') (hm : ∀ r, r ∈ l ↔ r ∈ l') : P = P' := by
  obtain ⟨ts, h1, h2⟩ := h;obtain ⟨ts', k1, k2⟩ := h';obtain rfl := h1.eq (k1.of_mem fun r => (hm r).symm);exact h2.eq hm k2
theorem PtsI.mem {l : List Rs} {ts : List Trc} {P : List (List Rs)} (h : PtsI l ts P) : ∀ p ∈ P, ∀ r ∈ p, r ∈ l /\ Ks r = true := by
  induction h with
  | nil => exact fun p hp => absurd hp List.not_mem_nil
  | @snoc ts P t y es h hy he ih =>
    intro p hp r hr;rcases List.mem_append.1 hp with h1 | h1
    · exact ih p h1 r hr
    · obtain ⟨e, _, rfl⟩ := List.mem_map.1 h1;obtain ⟨o, h2, rfl⟩ := hy;exact (h2.2 r).1 (List.mem_filter.1 (KkZ hr)).1
theorem EpI.len {o : List Rs} {fr : Nat} {out : List Eps} (h : EpI o fr out) : out.length <= fr /\ fr <= o.length /\ (out.map (KY o)).flatten.length = fr := by
  induction h with
  | nil => exact ⟨Nat.le_refl _, Nat.zero_le _, rfl⟩
  | @cut fr i out h h1 h2 h3 h4 ih =>
    refine ⟨by rw [List.length_append]; show out.length + 1 <= i; omega, by omega, ?_⟩;rw [List.map_append, List.flatten_append, List.length_append, ih.2.2];show fr + (KY o ⟨(fr : Int), (i : Int)⟩ ++ []).length = i;rw [List.append_nil];unfold KY;rw [List.length_take, List.length_drop];show fr + min (i - fr) (o.length - fr) = i;omega
theorem EpF.len {o : List Rs} {out : List Eps} (h : EpF o out) : out.length <= o.length /\ (out.map (KY o)).flatten.length <= o.length := by
  rcases h with ⟨_, rfl⟩ | ⟨fr, ini, h1, h2, h3, rfl⟩
  · exact ⟨Nat.zero_le _, Nat.zero_le _⟩
  · obtain ⟨a, b, c⟩ := h1.len;refine ⟨by rw [List.length_append]; show ini.length + 1 <= _; omega, ?_⟩;rw [List.map_append, List.flatten_append, List.length_append, c];show fr + (KY o ⟨(fr : Int), (o.length : Int)⟩ ++ []).length <= _;rw [List.append_nil];unfold KY;rw [List.length_take, List.length_drop];show fr + min (o.length - fr) (o.length - fr) <= _;omega
theorem Kaj.le {l y : List Rs} {t : Trc} (h : Kaj l t y) : y.length <= l.length := by
  obtain ⟨o, h1, rfl⟩ := h;exact Nat.le_trans (List.length_filter_le ..) h1.le
theorem PtsI.len {l : List Rs} {ts : List Trc} {P : List (List Rs)} (h : PtsI l ts P) : P.length <= ts.length * l.length /\ P.flatten.length <= ts.length * l.length := by
  induction h with
  | nil => exact ⟨Nat.zero_le _, Nat.zero_le _⟩
  | @snoc ts P t y es h hy he ih =>
    have h1 := he.len;have h2 := hy.le;rw [List.length_append, List.length_append, List.flatten_append, List.length_append, List.length_map, Nat.add_mul];show _ <= ts.length * l.length + 1 * l.length /\ _ <= ts.length * l.length + 1 * l.length;omega
theorem Kaj.ord {l y : List Rs} {t : Trc} (h : Kaj l t y) : Kbd y y := by
  obtain ⟨o, h1, rfl⟩ := h;exact ⟨h1.1.sublist List.filter_sublist, fun x => ⟨fun hx => ⟨hx, ((h1.2 x).1 (List.mem_filter.1 hx).1).2⟩, fun hx => hx.1⟩⟩
theorem Kaj.mem {l y : List Rs} {t : Trc} (h : Kaj l t y) {r : Rs} (hr : r ∈ y) : r ∈ l /\ Ks r = true /\ Kw r = t := by
  obtain ⟨o, h1, rfl⟩ := h;obtain ⟨h2, h3⟩ := List.mem_filter.1 hr;exact ⟨((h1.2 r).1 h2).1, ((h1.2 r).1 h2).2, of_decide_eq_true h3⟩
theorem KlL {α : Type} {key : α -> List Int} {l : List α} {t : α} (h : KbF key l) (ht : ∀ x ∈ l, x = t) : l.length <= 1 := by
  match l, h, ht with
  | [], _, _ => exact Nat.zero_le _
  | [_], _, _ => exact Nat.le_refl _
  | a :: b :: l, h, ht =>
    have h1 := (List.pairwise_cons.1 h).1 b (List.mem_cons_self ..);rw [ht a (by simp), ht b (by simp), Kc2] at h1;exact absurd h1 (by decide)
theorem Kaj.cut {l y : List Rs} {t : Trc} (h : Kaj l t y) (hl : l.length <= 512) {z : Int} {es : List Eps} (hc : KgW y z es) : z = 0 /\ EpF y es := by
  obtain ⟨h1, o, h2, h3⟩ := hc (fun r hr => (h.mem hr).2.1) (fun o ho => by have := ho.le; have := h.le; omega) (fun ts hts => KlL hts.1 fun x hx => by
    obtain ⟨r, hr, _, rfl⟩ := (hts.2 x).1 hx;exact (h.mem hr).2.2)
  obtain rfl := h.ord.eq h2;exact ⟨h1, h3⟩
theorem Kfm (b : Bd) : (bdk b).length = 4 := rfl
theorem KiZ {x y : Bd} (h : bdk x = bdk y) : x = y := by
  obtain ⟨a, b, c, d⟩ := x;obtain ⟨a', b', c', d'⟩ := y;simp only [bdk, List.cons.injEq, and_true] at h;obtain ⟨rfl, rfl, rfl, rfl⟩ := h
  rfl
def KbT (es : List En) (t : Int) (p q : List Rs) (b : Bd) : Prop := ∃ r ∈ q, ∃ o, KbS p r.flow o /\ b ∈ Kaz es t o
def KaM (es : List En) (t : Int) (P : List (List Rs)) (b : Bd) : Prop := ∃ p ∈ P, KbT es t p p b
def IsB (es : List En) (t : Int) (P : List (List Rs)) (y : List Bd) : Prop := KbF bdk y /\ ∀ b, b ∈ y ↔ KaM es t P b
theorem IsB.eq {es : List En} {t : Int} {P : List (List Rs)} {y y' : List Bd} (h : IsB es t P y) (h' : IsB es t P y') : y = y' := Kdg Kfm h.1 h'.1 fun b => by rw [h.2, h'.2]
section
variable {es : List En} {t : Int} {P : List (List Rs)} {p : List Rs} {out ws : List Bd} {i j : Nat} {x : Rs} {o : List Int}
theorem KhX : ∀ b, b ∈ ([] : List Bd) ↔ KaM es t [] b := fun b => ⟨fun h => absurd h List.not_mem_nil, fun ⟨p, hp, _⟩ => absurd hp List.not_mem_nil⟩
theorem Kks (h : ∀ b, b ∈ out ↔ KaM es t (P.take i) b) : ∀ b, b ∈ out ↔ KaM es t (P.take i) b \/ KbT es t p (p.take 0) b := fun b => by
  rw [h];exact ⟨.inl, fun h => h.elim id fun ⟨r, hr, _⟩ => absurd hr (by simp)⟩
theorem Kkl (h : ∀ b, b ∈ out ↔ KaM es t (P.take i) b \/ KbT es t p (p.take j) b) (hx : p[j]? = some x) (hf : ∃ r ∈ p.take j, r.flow = x.flow) : ∀ b, b ∈ out ↔ KaM es t (P.take i) b \/ KbT es t p (p.take (j + 1)) b := fun b => by
  rw [h];refine or_congr Iff.rfl ⟨fun ⟨r, hr, o, h1⟩ => ⟨r, by rw [List.take_add_one, hx]; exact List.mem_append_left _ hr, o, h1⟩, fun ⟨r, hr, o, h1⟩ => ?_⟩;rw [List.take_add_one, hx] at hr;rcases List.mem_append.1 hr with h2 | h2
  · exact ⟨r, h2, o, h1⟩
  · obtain rfl : r = x := List.mem_singleton.1 h2;obtain ⟨r', h3, h4⟩ := hf;exact ⟨r', h3, o, by rw [h4]; exact h1⟩
theorem KhP (h : ∀ b, b ∈ out ↔ KaM es t (P.take i) b \/ KbT es t p (p.take j) b) (hx : p[j]? = some x) (ho : KbS p x.flow o) : ∀ b, b ∈ out ++ Kaz es t o ↔ KaM es t (P.take i) b \/ KbT es t p (p.take (j + 1)) b := fun b => by
  rw [List.mem_append, h, or_assoc];refine or_congr Iff.rfl ⟨?_, fun ⟨r, hr, o', h1⟩ => ?_⟩
  · rintro (⟨r, hr, h1⟩ | h1)
    · exact ⟨r, by rw [List.take_add_one, hx]; exact List.mem_append_left _ hr, h1⟩
    · exact ⟨x, by rw [List.take_add_one, hx]; exact List.mem_append_right _ (List.mem_singleton.2 rfl), o, ho, h1⟩
  · rw [List.take_add_one, hx] at hr;rcases List.mem_append.1 hr with h2 | h2
    · exact .inl ⟨r, h2, o', h1⟩
    · obtain rfl : r = x := List.mem_singleton.1 h2;obtain rfl := h1.1.eq ho;exact .inr h1.2
theorem KiS (h : ∀ b, b ∈ out ↔ KaM es t (P.take i) b \/ KbT es t p (p.take j) b) (hj : p.length <= j) (hp : P[i]? = some p) : ∀ b, b ∈ out ↔ KaM es t (P.take (i + 1)) b := fun b => by
  rw [h, List.take_of_length_le hj];unfold KaM;rw [List.take_add_one, hp];constructor
  · rintro (⟨q, hq, h1⟩ | h1)
    · exact ⟨q, List.mem_append_left _ hq, h1⟩
    · exact ⟨p, List.mem_append_right _ (List.mem_singleton.2 rfl), h1⟩
  · rintro ⟨q, hq, h1⟩;rcases List.mem_append.1 hq with h2 | h2
    · exact .inl ⟨q, h2, h1⟩
    · obtain rfl : q = p := List.mem_singleton.1 h2;exact .inr h1
theorem KgT (ps own : List Int) : ∀ n, (Kbw ps own n).2.length <= n
  | 0 => Nat.le_refl _
  | n + 1 => by
    have ih := KgT ps own n;show (KaT ps own (Kbw ps own n) n).2.length <= n + 1;unfold KaT;split
    · omega
    · dsimp only;split
      · rw [List.length_append]; show _ + 1 <= _; omega
      · omega
theorem Ki4 (es : List En) (t : Int) (ps : List Int) : (Kaz es t ps).length <= ps.length := KgT ..
theorem KbS.le {f : Int} (h : KbS p f o) (hok : ∀ r ∈ p, r.Ok) : o.length <= 255 := by
  obtain ⟨i, h1, _⟩ := h;have hl : o.length = i := by rw [h1.1, List.length_map, List.length_range]
  rcases Nat.eq_zero_or_pos i with rfl | h2
  · omega
  · have h3 := h1.2 (i - 1) (by omega);have := KfV hok h3;omega
theorem Kd0 {r : Rs} (h : Ks r = true) : (Lit.int .i64 r.flow).wf = true := by
  have h1 := Kfy h;unfold Rs.inRange at h1;simp [Lit.wf, IntKind.min, IntKind.max, IntKind.signed, IntKind.bits]; omega
end
set_option maxRecDepth 20000
def RdX (X : List Pc) (ss : List (Sg Rs)) : Prop := ∀ (w0 : Base) (w1 : World), Pm w0 X w1 -> ∀ s ∈ ss, Kd w1 w1.heap.size 17 s.A s.l.length (Ka Rs.cells s.l)
theorem RdX.nil (X : List Pc) : RdX X [] := fun _ _ _ s hs => absurd hs List.not_mem_nil
theorem RdX.cons {X : List Pc} {ss : List (Sg Rs)} (h : RdX X ss) (p : Pc) : RdX (p :: X) ss := fun w0 w1 hw => h w0 w1 (hw.sel (.cons _ (List.Sublist.refl _)))
theorem RdX.snoc {X : List Pc} {ss : List (Sg Rs)} {s : Sg Rs} (h : RdX X ss) (hs : ∀ (w0 : Base) (w1 : World), Pm w0 X w1 -> Kd w1 w1.heap.size 17 s.A s.l.length (Ka Rs.cells s.l)) : RdX X (ss ++ [s]) := fun w0 w1 hw q hq => by
 rcases List.mem_append.1 hq with h1 | h1
 ·exact h w0 w1 hw q h1
 rw [List.mem_singleton] at h1; subst h1; exact hs w0 w1 hw
theorem Kf7 {o : List Rs} {e : Eps} {f l : Nat} (hf : e.first = (f : Int)) (hl : e.last = (l : Int)) (h : l <= o.length) : (KY o e).length = l - f := by
 unfold KY;rw [List.length_take, List.length_drop, hf, hl];simp only [Int.toNat_natCast];omega
theorem Klh {w1 : World} {o : List Rs} {A : Option Addr} {c : Nat} {e : Eps} {f l : Nat} (hr : Kd w1 w1.heap.size 17 A o.length (Ka Rs.cells o)) (hc : o.length <= c) (hf : e.first = (f : Int)) (hl : e.last = (l : Int)) (h1 : f <= l) (h2 : l <= o.length) :
  Kd w1 w1.heap.size 17 (if c = f then A else A.map (·.add (f * 17))) (KY o e).length (Ka Rs.cells (KY o e)) := by
 rw [Kf7 hf hl h2];have h := (hr.tailF Kt (m := f) (by omega) hc).headF Kt (m := l - f) (by omega);unfold KY;rw [hf, hl];exact h
theorem KkO {P0 : List (List Rs)} {o : List Rs} {ct : List Eps} {k : Nat} {x : Eps} {ss : List (Sg Rs)} {A : Option Addr} {c : Nat} (h : ss.map (·.l) = P0 ++ (ct.take k).map (KY o)) (hx : ct[k]? = some x) : (ss ++ [(⟨A, c, KY o x⟩ : Sg Rs)]).map (·.l) = P0 ++ (ct.take (k + 1)).map (KY o) := by
 rw [List.map_append, h, List.take_add_one, hx, List.map_append, List.append_assoc]
 rfl
theorem KjI {l y : List Rs} {ts : List Trc} {i k : Nat} {t : Trc} {P0 M : List (List Rs)} {es : List Eps} (h : PtsI l (ts.take i) P0) (hx : ts[i]? = some t) (hy : Kaj l t y) (he : EpF y es) (hm : M = P0 ++ (es.take k).map (KY y)) (hk : es.length <= k) : PtsI l (ts.take (i + 1)) M := by
 rw [List.take_of_length_le hk] at hm;rw [hm, List.take_add_one, hx];exact .snoc h hy he
theorem Kge {l : List Rs} {o : List Trc} (h : KM l o) : o.length <= l.length := by
 have := KeP (p := o) (F := l.map Kw) (h.1.imp fun {a b} hab e => by rw [e, Kc2] at hab; exact absurd hab (by decide)) fun x hx => by
  obtain ⟨r, hr, _, e⟩ := (h.2 x).1 hx;exact List.mem_map.2 ⟨r, hr, e⟩
 rwa [List.length_map] at this
theorem Kej (w : World) : (sizeOf 191).run Tryz.prog w = .ok 2 w := rfl
theorem KiX (w : World) : (isAgg 191).run Tryz.prog w = .ok true w := rfl
theorem KiB (w : World) : (zeroValue 191).run Tryz.prog w = .ok (.agg #[.int .i64 0, .int .i64 0]) w := rfl
theorem KkX : FA Tryz.prog 191 0 0 := fun g o w => by kernel_rfl
theorem Kip : FA Tryz.prog 191 1 1 := fun g o w => by kernel_rfl
theorem KhU (a0_0 : Option Addr) (a0_0n a0_0c : Nat) (w : World) : (Instr.buildSlice 113 1 #[(0, .slice a0_0 a0_0n a0_0c)]).run Tryz.prog w = .ok (.slice (some ⟨w.heap.size, 0, none⟩) 1 1) (w.alloc (.cells [.slice a0_0 a0_0n a0_0c].toArray 27)) := by kernel_rfl
theorem KjL : Elem Tryz.prog 113 27 1 24 := Elem.mk' Tryz.underlying113 (z := .slice none 0 0) (by kernel_rfl) rfl (by omega) (by omega)
theorem Klj (A0 : Option Addr) (c0 : Nat) (l : List Rs) (w : World) (hr : Kd w w.heap.size 17 A0 l.length (Ka Rs.cells l)) (hl1 : l.length <= 100000) (hok : ∀ r ∈ l, r.Ok) (hl9 : l.length <= 100) :
  Calls Tryz.prog 41 #[.slice A0 l.length c0] w fun e w' => ∃ x : {y : ((Option Addr × Nat) × List (Sg Rs)) × List Pc // Kan l (y.1.2.map (·.l)) /\ RdX y.2 y.1.2 /\ Kaw y.2 = true /\ y.1.2.length <= 10000 /\ y.1.2.length <= y.1.1.2 /\ y.1.1.2 <= maxLen}, e = .returned (.slice x.1.1.1.1 x.1.1.2.length x.1.1.1.2) /\ Pm w (.row (.slice x.1.1.1.1 x.1.1.2.length x.1.1.1.2) 27 1 x.1.1.2.length (Ka sgc x.1.1.2) :: x.1.2) w' := by
 refine Kg Tryz.func41 rfl rfl rfl ?_ (Pm.start w);refine zSG (TL.as_ ?_);refine zET (zSG (TL.as_ ?_));refine zET (zS (zSG (TL.mv ?_)));refine TL.pM _ _ rfl o95 (fun w1 hw => KgK A0 c0 l w1 (hr.up hw.bel) hl1) ?_;rintro ⟨⟨⟨R12, rc12⟩, tr12⟩, hP12, hR121, hR122⟩;dsimp only [lC, lN];dsimp only at hP12 hR121 hR122 ⊢;refine TL.v (gN Tryz.underlying184) ?_;refine TL.mv ?_;refine zET (zB (TC.nilrow 27 1 ?_));have htl := Kge hP12;refine TC.lp (α := {y : Nat × (Option Addr × Nat) × List (Sg Rs) × List Pc // y.1 <= tr12.length /\ PtsI l (tr12.take y.1) (y.2.2.1.map (·.l)) /\ RdX y.2.2.2 y.2.2.1 /\ Kaw y.2.2.2 = true /\ y.2.2.1.length <= 100 * y.1 /\ y.2.2.1.length <= y.2.1.2 /\ y.2.1.2 <= maxLen}) [0, 12, 13] rfl (fun y => [(14, .int .i64 ((y.1.1 : Nat) : Int)), (3, .slice y.1.2.1.1 y.1.2.2.1.length y.1.2.1.2)]) (fun y => Pm w ([.row (.slice y.1.2.1.1 y.1.2.2.1.length y.1.2.1.2) 27 1 y.1.2.2.1.length (Ka sgc y.1.2.2.1), .row (.slice R12 tr12.length rc12) 48 3 tr12.length (Ka Trc.cells tr12)] ++ y.1.2.2.2)) (fun y => tr12.length - y.1.1) (⟨(0, (none, 0), [], []), Nat.zero_le _, .nil, RdX.nil _, rfl, Nat.le_refl _, Nat.le_refl _, Nat.zero_le _⟩) (fun w1 hw => hw) ?_;rintro ⟨⟨i, ⟨Ao, co⟩, ss, X⟩, hi, hP, hX, hna, hos, hoc, hom⟩;dsimp only at hi hP hX hna hos hoc hom ⊢;refine zSG ?_;refine TL.sp Km (fun q15 => ?_) (fun q15 => ?_)
 ·refine zET (zS (zc (zk (zT (zS (zB (zSG ?_)))))));refine TL.fact (p := ∃ g, R12 = some ⟨g, 0, none⟩) (fun w1 hw => Kak hw (k := 1) rfl (by omega)) ?_;rintro ⟨g_R12, rfl⟩;have hi16 : i < tr12.length := by omega
  obtain ⟨x16, hx16⟩ := Ko hi16;refine TL.w rfl (gA (i := i) Tryz.underlying184 KZ rfl rfl rfl rfl rfl (by omega)) ?_;refine TL.w rfl (KH (off := 0 + i * 3) rfl rfl KbY KZ (K7.len x16) (fun w1 hw j9 u9 h9 => Ku K7 hw (q := 1) rfl hx16 j9 u9 h9)) ?_;refine TL.al Kdx fun g5 => ?_;refine TL.pstore (k := 0) (vs := x16.cells) rfl rfl rfl rfl rfl rfl rfl KZ (K7.one _) (by show 3 <= 3; decide) (L' := ([.blk g5 48 x16.cells, .row (.slice Ao ss.length co) 27 1 ss.length (Ka sgc ss), .row (.slice (some ⟨g_R12, 0, none⟩) tr12.length rc12) 48 3 tr12.length (Ka Trc.cells tr12)] ++ X)) rfl ?_;refine zET (zSG (TL.mv ?_));refine TL.v (gV 0 (.agg (x16.cells).toArray) KbY KZ) ?_;refine TL.pM _ _ rfl o96 (fun w1 hw => Kke A0 c0 l x16 w1 (hr.up hw.bel) hl1 hok) ?_;rintro ⟨⟨⟨R20, rc20⟩, of20⟩, hP20, hR201, hR202⟩;dsimp only [lC, lN];dsimp only at hP20 hR201 hR202 ⊢;refine TL.as_ ?_;refine zET (zS ?_);have hofl := hP20.le;refine zG (TL.mv ?_);refine TL.pM _ _ rfl o97 (fun w1 hw => Kio R20 rc20 of20 w1 (Kz hw (k := 0) rfl) (by omega) (fun r hr => hok r (hP20.mem hr).1)) ?_;rintro ⟨⟨⟨⟨Ac, cc⟩, ct⟩, ecut⟩, hct, hctc, hctm⟩;dsimp only [lC, lN];dsimp only at hct hctc hctm ⊢;obtain ⟨hz0, hEp⟩ := hP20.cut (by omega) hct;have hEl := hEp.len;refine TL.rn 5 rfl (zET (zSG (TL.mv ?_)));refine TL.v (gN Tryz.underlying187) ?_;refine TL.mv ?_;refine zET (zB ?_);refine TC.lp (α := {y : Nat × (Option Addr × Nat) × List (Sg Rs) // y.1 <= ct.length /\ y.2.2.map (·.l) = ss.map (·.l) ++ (ct.take y.1).map (KY of20) /\ RdX (.row (.slice R20 of20.length rc20) 76 17 of20.length (Ka Rs.cells of20) :: X) y.2.2 /\ y.2.2.length <= 100 * i + y.1 /\ y.2.2.length <= y.2.1.2 /\ y.2.1.2 <= maxLen}) [0, 5, 6, 12, 13, 14, 26, 27] rfl (fun y => [(28, .int .i64 ((y.1.1 : Nat) : Int)), (3, .slice y.1.2.1.1 y.1.2.2.length y.1.2.1.2)]) (fun y => Pm w ([.row (.slice Ac ct.length cc) 191 2 ct.length (Ka Eps.cells ct), .row (.slice R20 of20.length rc20) 76 17 of20.length (Ka Rs.cells of20), .blk g5 48 x16.cells, .row (.slice y.1.2.1.1 y.1.2.2.length y.1.2.1.2) 27 1 y.1.2.2.length (Ka sgc y.1.2.2), .row (.slice (some ⟨g_R12, 0, none⟩) tr12.length rc12) 48 3 tr12.length (Ka Trc.cells tr12)] ++ X)) (fun y => ct.length - y.1.1) (⟨(0, (Ao, co), ss), Nat.zero_le _, by dsimp only; rw [List.take_zero]; simp, hX.cons _, by dsimp only; omega, hoc, hom⟩) (fun w1 hw => hw) ?_;rintro ⟨⟨k, ⟨Ao2, co2⟩, ss2⟩, hk, hM2, hX2, hos2, hoc2, hom2⟩;dsimp only at hk hM2 hX2 hos2 hoc2 hom2 ⊢;refine zSG ?_;refine TL.sp Km (fun q29 => ?_) (fun q29 => ?_)
  ·refine zET (zS (zc (zk (zT (zS (zB (zSG ?_)))))));refine TL.fact (p := ∃ g, Ac = some ⟨g, 0, none⟩) (fun w1 hw => Kak hw (k := 0) rfl (by omega)) ?_;rintro ⟨g_Ac, rfl⟩;have hi30 : k < ct.length := by omega
   obtain ⟨x30, hx30⟩ := Ko hi30;refine TL.w rfl (gA (i := k) Tryz.underlying187 Kej rfl rfl rfl rfl rfl (by omega)) ?_;refine TL.w rfl (KH (off := 0 + k * 2) rfl rfl KiX Kej (Kde.len x30) (fun w1 hw j9 u9 h9 => Ku Kde hw (q := 0) rfl hx30 j9 u9 h9)) ?_;refine TL.al KiB fun g10 => ?_;refine TL.pstore (k := 0) (vs := x30.cells) rfl rfl rfl rfl rfl rfl rfl Kej (by first | exact KhQ.one _ | exact Kde.one _) (by show 2 <= 2; decide) (L' := ([.blk g10 191 x30.cells, .row (.slice (some ⟨g_Ac, 0, none⟩) ct.length cc) 191 2 ct.length (Ka Eps.cells ct), .row (.slice R20 of20.length rc20) 76 17 of20.length (Ka Rs.cells of20), .blk g5 48 x16.cells, .row (.slice Ao2 ss2.length co2) 27 1 ss2.length (Ka sgc ss2), .row (.slice (some ⟨g_R12, 0, none⟩) tr12.length rc12) 48 3 tr12.length (Ka Trc.cells tr12)] ++ X)) rfl ?_;refine zET ?_;obtain ⟨f9, l9, hf9, hl9, hfl9, hle9⟩ := hEp.bnd x30 (List.mem_of_getElem? hx30);have hsl := Kf7 hf9 hl9 hle9;obtain ⟨As, hAs⟩ : ∃ A, A = (if rc20 = f9 then R20 else R20.map (·.add (f9 * 17))) := ⟨_, rfl⟩;refine zG (TL.rn 2 rfl (TL.v (gF KkX) ?_));refine TL.v (gL 0 Kb) ?_;refine TL.v (gF Kip) ?_;refine TL.v (gL 0 Kb) ?_;refine TL.w rfl (Kh9 (v := .slice As (KY of20 x30).length (rc20 - f9)) rfl rfl rfl rfl (fun w => by rw [hsl, hAs]; exact KjA Tryz.underlying27 Ki _ _ _ f9 l9 hf9 hl9 hfl9 (by omega) w)) ?_;refine TL.prowS (e := 27) (size := 1) (cs := Ka sgc [(⟨As, rc20 - f9, KY of20 x30⟩ : Sg Rs)]) rfl rfl rfl rfl rfl (fun w => KhU _ _ _ w) (by decide) rfl (fun g39 => ?_);refine TL.appendT (k := 5) rfl rfl rfl rfl Tryz.underlying113 KjL rfl rfl rfl (fun w1 hw => KL hw (k := 0) rfl) (KB KbA _) (by show _ * 24 <= _; omega) ((ss2 ++ [(⟨As, rc20 - f9, KY of20 x30⟩ : Sg Rs)]).length) (by rw [List.length_append]; rfl) (Ka sgc (ss2 ++ [(⟨As, rc20 - f9, KY of20 x30⟩ : Sg Rs)])) ((KF _ _).symm) (fun A40 c40 hA401 hA402 => ?_);refine TL.as_ ?_;refine zE (zN (zT (zG (TL.v (gD ((k + 1 : Nat) : Int)) ?_))));refine TL.mv ?_;refine zE ?_;exact TX.rd (⟨(k + 1, (A40, c40), ss2 ++ [(⟨As, rc20 - f9, KY of20 x30⟩ : Sg Rs)]), by dsimp only; omega, KkO hM2 hx30, hX2.snoc fun w0 w1 hw => by dsimp only; rw [hAs]; exact Klh (Kz hw (k := 0) rfl) hR201 hf9 hl9 hfl9 hle9, by dsimp only; rw [List.length_append]; show ss2.length + 1 <= _; omega, hA401, hA402⟩) (by show ct.length - (k + 1) < ct.length - k; omega) (fun w1 hw => hw.sel (.cons _ (.cons _ (.cons_cons _ (.cons_cons _ (.cons_cons _ (.cons_cons _ (.cons_cons _ (List.Sublist.refl _)))))))))
  refine zET (zS (zd (zx (zX (zX (zM (zN (zT (zG (TL.v (gD ((i + 1 : Nat) : Int)) ?_))))))))));refine TL.mv ?_;refine zE ?_;exact TX.rd (⟨(i + 1, (Ao2, co2), ss2, .row (.slice R20 of20.length rc20) 76 17 of20.length (Ka Rs.cells of20) :: X), by dsimp only; omega, KjI hP hx16 hP20 hEp hM2 (by omega), hX2, by simp only [Kaw, List.all_cons, Pc.isAbs]; exact hna, by dsimp only; omega, hoc2, hom2⟩) (by show tr12.length - (i + 1) < tr12.length - i; omega) (fun w1 hw => (show Pm w ([.row (.slice Ao2 ss2.length co2) 27 1 ss2.length (Ka sgc ss2), .row (.slice (some ⟨g_R12, 0, none⟩) tr12.length rc12) 48 3 tr12.length (Ka Trc.cells tr12), .row (.slice R20 of20.length rc20) 76 17 of20.length (Ka Rs.cells of20)] ++ X) w1 from hw.pickT 5 [3, 4, 1] (by decide) (by decide) rfl rfl))
 refine zET (zS (zd (zx (zX (zX (zM (zT (zSG (TL.rn 2 rfl (zET (zr ?_)))))))))));exact Kc Tryz.results41 rfl (fun w1 hw => ⟨⟨(((Ao, co), ss), X), ⟨tr12, hP12, by rw [List.take_of_length_le (by omega)] at hP; exact hP⟩, hX, hna, by dsimp only; omega, hoc, hom⟩, rfl, hw.sel (.cons_cons _ (.cons _ (List.Sublist.refl _)))⟩)
set_option maxRecDepth 20000
def fl9 (l : List Rs) : List Int := l.map fun r => r.flow
def FlM (ob : Obj) (fs : List Int) : Prop := ∃ f : Int -> Option Value, Kag (Value.int .i64) (fun a => (Lit.int .i64 a).wf = true) ob f /\ ∀ a, (Lit.int .i64 a).wf = true -> (f a).getD (.bool false) = .bool (decide (a ∈ fs))
theorem FlM.new : FlM (.map #[] 0) [] := ⟨_, Ke7 _ _, fun a _ => rfl⟩
theorem FlM.same {ob : Obj} {a b : List Int} (h : FlM ob a) (hm : ∀ z, z ∈ a ↔ z ∈ b) : FlM ob b := by
 obtain ⟨f, h1, h2⟩ := h;exact ⟨f, h1, fun z hz => by rw [h2 z hz, decide_eq_decide.2 (hm z)]⟩
theorem FlM.set {ob : Obj} {fs : List Int} {x : Int} {f : Int -> Option Value} (h2 : ∀ a, (Lit.int .i64 a).wf = true -> (f a).getD (.bool false) = .bool (decide (a ∈ fs))) (hm : Kag (Value.int .i64) (fun a => (Lit.int .i64 a).wf = true) ob (fun z => if z = x then some (.bool true) else f z)) : FlM ob (fs ++ [x]) :=
 ⟨_, hm, fun a ha => by
  by_cases h : a = x
  ·subst h; simp
  simp only [if_neg h]; rw [h2 a ha]; simp [h]⟩
theorem Kf8 {l : List Rs} {j : Nat} {x : Rs} (hx : l[j]? = some x) : fl9 (l.take (j + 1)) = fl9 (l.take j) ++ [x.flow] := by
 unfold fl9;rw [List.take_add_one, hx, List.map_append]
 rfl
theorem Kh5 {l : List Rs} {f : Int} (h : f ∈ fl9 l) : ∃ r ∈ l, r.flow = f := List.mem_map.1 h
theorem Kk7 {l : List Rs} {j : Nat} {x : Rs} (hx : l[j]? = some x) (h : x.flow ∈ fl9 (l.take j)) : ∀ z, z ∈ fl9 (l.take j) ↔ z ∈ fl9 (l.take (j + 1)) := fun z => by
 rw [Kf8 hx, List.mem_append, List.mem_singleton];exact ⟨.inl, fun h9 => h9.elim id fun e => e ▸ h⟩
theorem Kg7 {P : List (List Rs)} {i : Nat} {p : List Rs} (h : P[i]? = some p) : (P.take (i + 1)).flatten.length = (P.take i).flatten.length + p.length := by
 rw [List.take_add_one, h, List.flatten_append, List.length_append];show _ + (p ++ []).length = _;rw [List.append_nil]
theorem Kgo (P : List (List Rs)) (i : Nat) : (P.take i).flatten.length <= P.flatten.length := by
 have h := congrArg List.flatten (List.take_append_drop i P);rw [<- h, List.flatten_append, List.length_append];omega
theorem Kan.mem {l : List Rs} {P : List (List Rs)} (h : Kan l P) : ∀ p ∈ P, ∀ r ∈ p, r ∈ l /\ Ks r = true := by
 obtain ⟨ts, _, h2⟩ := h;exact h2.mem
theorem Kan.flen {l : List Rs} {P : List (List Rs)} (h : Kan l P) (hl : l.length <= 60) : P.flatten.length <= 3600 := by
 obtain ⟨ts, h1, h2⟩ := h;exact Nat.le_trans h2.len.2 (Nat.mul_le_mul (Nat.le_trans (Kge h1) hl) hl)
theorem Pm.partIn {w0 : Base} {w : World} {R : Pc} {L X : List Pc} (h : Pm w0 ((R :: X) ++ L) w) : Pm w0 ((R :: L) ++ X) w := h.permute (List.Perm.cons R List.perm_append_comm)
theorem Kib {es : List En} {t : Int} {P : List (List Rs)} {out s : List Bd} (h : ∀ b, b ∈ out ↔ KaM es t P b) (hs : Kbv KbP out s) : IsB es t P (Kf s) :=
 ⟨KdK Kfm s hs.2 fun x _ y _ e => KiZ e, fun b => by rw [KcL, hs.1.mem_iff, h]⟩
theorem KkL (w : World) : (sizeOf 27).run Tryz.prog w = .ok 1 w := rfl
theorem Kk2 (w : World) : (isAgg 27).run Tryz.prog w = .ok false w := rfl
theorem Kig (A0 : Option Addr) (c0 : Nat) (xs : List Bd) (a : Bd) (w : World) (hr : Kd w w.heap.size 4 A0 xs.length (Ka Bd.cells xs)) (hl1 : xs.length <= 35184372087808) :
  Calls Tryz.prog 100 #[.slice A0 xs.length c0, .agg a.cells.toArray] w fun e w' => ∃ x : {z : Int // (0 <= z ↔ a ∈ xs)}, e = .returned (.int .i64 x.1) /\ Below w.heap.size w w' := by
 refine Kg Tryz.func100 rfl rfl rfl ?_ (Pm.start w);refine zSG ?_;refine TL.bx fun g3 => ?_;refine TL.as_ ?_;refine zET (zS (zSG (TL.mv ?_)));refine TL.v (gN Tryz.underlying34) ?_;refine TL.mv ?_;refine zET (zB (TC.lp (α := {i : Nat // i <= xs.length /\ a ∉ xs.take i}) [0, 3, 7] rfl (fun y => [(8, .int .i64 ((y.1 : Nat) : Int))]) (fun y => Pm w [.blk g3 44 a.cells]) (fun y => xs.length - y.1) (⟨0, Nat.zero_le _, List.not_mem_nil⟩) (fun w1 hw => hw) ?_));rintro ⟨i, hi, ht⟩
 try dsimp only at hi ht ⊢
 refine zSG ?_;refine TL.vw rfl (Kn rfl rfl rfl (fun w => Km w)) (fun h9 => ?_) (fun h9 => ?_)
 ·have q9 := of_decide_eq_true h9;refine zET (zS (zc (zk (zT (zS (zB (zSG (TL.rn 2 rfl (zET (zS (TC.quietQ (by kernel_rfl) (by kernel_rfl) (fun w hw => hw.drawn _) ?_)))))))))));refine TQ.v (gV 0 (.agg (a.cells).toArray) K9 Kx) ?_;refine TQ.rn 2 rfl ?_;have hi14 : i < xs.length := by omega
  obtain ⟨x14, hx14⟩ := Ko hi14;obtain ⟨b14, o14, hA14, hbb14, hc14⟩ := hr.ad (by omega) (by decide);refine TQ.w rfl (gA (i := i) Tryz.underlying34 Kx rfl rfl rfl rfl hA14 (by omega)) ?_;refine TQ.v (gR KC K9 Kx hbb14 hx14 hc14) ?_;refine TQ.vw rfl (Ka5 rfl rfl rfl (fun w => KeM a x14 _ _ w)) (fun h16 => ?_) (fun h16 => ?_)
  ·have q16 := of_decide_eq_true h16;refine TQ.fin ?_;refine zT (zc (zSG (TL.rn 2 rfl (zET (zr (zRR (zR (zRR ?_))))))));exact Kc Tryz.results100 rfl (fun w1 hw => ⟨⟨(i : Int), ⟨fun _ => by rw [q16]; exact List.mem_of_getElem? hx14, fun _ => Int.natCast_nonneg _⟩⟩, rfl, hw.bel⟩)
  have q16 := of_decide_eq_false h16;have ht2 : a ∉ xs.take (i + 1) := by rw [List.take_add_one, hx14]; exact fun hh => (List.mem_append.1 hh).elim ht (fun h9 => q16 (List.mem_singleton.1 h9))
  refine TQ.fin ?_;refine zT (zd (zk (zN (zT (zG (TL.v (gD ((i + 1 : Nat) : Int)) ?_))))));refine TL.mv ?_;refine zE ?_;exact TX.rd (⟨i + 1, by omega, ht2⟩) (by show xs.length - (i + 1) < xs.length - i; omega) (fun w1 hw => hw)
 have q9 := of_decide_eq_false h9;refine zET (zS (zd (zx (zX (zX (zM (zT (zSG (TL.as_ ?_)))))))));refine zET (zr ?_);exact Kc Tryz.results100 rfl (fun w1 hw => ⟨⟨-1, ⟨fun h => absurd h (by decide), fun h => absurd h (by rw [List.take_of_length_le (by omega)] at ht; exact ht)⟩⟩, rfl, hw.bel⟩)
theorem Kkg (A0 : Option Addr) (c0 : Nat) (xs : List Bd) (a : Bd) (w : World) (hr : Kd w w.heap.size 4 A0 xs.length (Ka Bd.cells xs)) (hl1 : xs.length <= 35184372087808) :
  Calls Tryz.prog 45 #[.slice A0 xs.length c0, .agg a.cells.toArray] w fun e w' => e = .returned (.bool (decide (a ∈ xs))) /\ Below w.heap.size w w' := by
 refine Kg Tryz.func45 rfl rfl rfl ?_ (Pm.start w);refine zSG ?_;refine TL.bx fun g3 => ?_;refine TL.as_ ?_;refine zET (zSG (TL.mv ?_));refine TL.v (gV 0 (.agg (a.cells).toArray) K9 Kx) ?_;refine TL.pL (α := {z : Int // (0 <= z ↔ a ∈ xs)}) (r := fun x => .int .i64 x.1) (I' := fun _ => Pm w [.blk g3 44 a.cells]) rfl Ki9 (fun w1 hw => (Kig A0 c0 xs a w1 (hr.up hw.bel) hl1).mono fun e w2 ⟨x, h1, h2⟩ => ⟨x, h1, hw.below h2⟩) ?_;rintro ⟨z, hz⟩;dsimp only;refine TL.sp Ka1 (fun q8 => ?_) (fun q8 => ?_)
 ·refine TL.as_ ?_;refine zET (zr ?_);have hE : decide (a ∈ xs) = true := decide_eq_true (hz.1 (by omega));exact Kc Tryz.results45 rfl (fun w1 hw => ⟨by rw [hE], hw.bel⟩)
 refine TL.as_ ?_;refine zET (zr ?_);have hE : decide (a ∈ xs) = false := decide_eq_false (fun h => q8 (hz.2 h));exact Kc Tryz.results45 rfl (fun w1 hw => ⟨by rw [hE], hw.bel⟩)
theorem Khm (A0 : Option Addr) (c0 : Nat) (xs : List Bd) (A1 : Option Addr) (c1 : Nat) (ys : List Bd) (w : World) (hr : Kd w w.heap.size 4 A0 xs.length (Ka Bd.cells xs)) (hl1 : xs.length <= 1000000) (hr1 : Kd w w.heap.size 4 A1 ys.length (Ka Bd.cells ys)) (hl2 : ys.length <= 1000000) :
  Calls Tryz.prog 14 #[.slice A0 xs.length c0, .slice A1 ys.length c1] w fun e w' => e = .returned (.bool (decide (xs = ys))) /\ Below w.heap.size w w' := by
 refine Kg Tryz.func14 rfl rfl rfl ?_ (Pm.start w);refine zSG (TL.as_ ?_);refine zET (zS (zSG (TL.mv ?_)));refine TL.v (gN Tryz.underlying34) ?_;refine TL.mv ?_;refine TL.v (gN Tryz.underlying34) ?_;refine TL.sp K1 (fun q10 => ?_) (fun q10 => ?_)
 ·refine zET (zc (zSG (TL.as_ ?_)));refine zET (zr (zR ?_));have hE : decide (xs = ys) = false := decide_eq_false (fun hh => q10 (by rw [hh]));exact Kc Tryz.results14 rfl (fun w1 hw => ⟨by rw [hE], hw.bel⟩)
 have hll : xs.length = ys.length := by omega
 refine zET (zd (zk (zT (zS (zSG (TL.as_ ?_))))));refine zET (zB (TC.lp (α := {i : Nat // i <= xs.length /\ xs.take i = ys.take i}) [0, 1] rfl (fun y => [(5, .int .i64 ((y.1 : Nat) : Int))]) (fun y => Pm w []) (fun y => xs.length - y.1) (⟨0, Nat.zero_le _, rfl⟩) (fun w1 hw => hw) ?_));rintro ⟨i, hi, ht⟩;dsimp only at hi ht ⊢;refine zS (zSG (TL.rn 2 rfl (TL.v (gN Tryz.underlying34) ?_)));refine TL.sp Km (fun q14 => ?_) (fun q14 => ?_)
 ·refine zET (zc (zk (zT (zS (zB (zS (TC.quietQ (by kernel_rfl) (by kernel_rfl) (fun w hw => hw.drawn _) ?_)))))));refine TQ.rn 2 rfl ?_;have hi19 : i < xs.length := by omega
  obtain ⟨x19, hx19⟩ := Ko hi19;obtain ⟨b19, o19, hA19, hbb19, hc19⟩ := hr.ad (by omega) (by decide);refine TQ.w rfl (gA (i := i) Tryz.underlying34 Kx rfl rfl rfl rfl hA19 (by omega)) ?_;refine TQ.v (gR KC K9 Kx hbb19 hx19 hc19) ?_;refine TQ.rn 2 rfl ?_;have hi23 : i < ys.length := by omega
  obtain ⟨x23, hx23⟩ := Ko hi23;obtain ⟨b23, o23, hA23, hbb23, hc23⟩ := hr1.ad (by omega) (by decide);refine TQ.w rfl (gA (i := i) Tryz.underlying34 Kx rfl rfl rfl rfl hA23 (by omega)) ?_;refine TQ.v (gR KC K9 Kx hbb23 hx23 hc23) ?_;refine TQ.vw rfl (Ka5 rfl rfl rfl (fun w => Kft x19 x23 _ _ w)) (fun h25 => ?_) (fun h25 => ?_)
  ·have q25 := of_decide_eq_true h25;refine TQ.fin ?_;refine zT (zc (zSG (TL.as_ ?_)));refine zET (zr (zRR (zR (zRR ?_))));have hE : decide (xs = ys) = false := decide_eq_false (fun hh => q25 (by subst hh; rw [hx19] at hx23; injection hx23));exact Kc Tryz.results14 rfl (fun w1 hw => ⟨by rw [hE], hw.bel⟩)
  have q25 := of_decide_eq_false h25;refine TQ.fin ?_;refine zT (zd (zk (zN (zT (zG (TL.mv ?_))))));refine TL.v (gD ((i + 1 : Nat) : Int)) ?_;refine TL.as_ ?_;refine zE ?_;exact TX.rd (⟨i + 1, by omega, by rw [List.take_add_one, List.take_add_one, hx19, hx23, ht, Decidable.not_not.1 q25]⟩) (by show xs.length - (i + 1) < xs.length - i; omega) (fun w1 hw => hw)
 refine zET (zd (zx (zX (zX (zM (zT (zSG (TL.as_ ?_))))))));refine zET (zr ?_);have hE : decide (xs = ys) = true := decide_eq_true (by rw [List.take_of_length_le (by omega), List.take_of_length_le (by omega)] at ht; exact ht);exact Kc Tryz.results14 rfl (fun w1 hw => ⟨by rw [hE], hw.bel⟩)
theorem KcW (A0 : Option Addr) (c0 : Nat) (l : List Rs) (A1 : Option Addr) (c1 : Nat) (es : List En) (t : Int) (w : World) (hr : Kd w w.heap.size 17 A0 l.length (Ka Rs.cells l)) (hl1 : l.length <= 100000) (hok : ∀ r ∈ l, r.Ok) (hv : ∀ r ∈ l, Ks r = true) (hl9 : l.length <= 60) (hr1 : Kd w w.heap.size 5 A1 es.length (Ka En.cells es)) (hes : KA es = true) :
  Calls Tryz.prog 12 #[.slice A0 l.length c0, .agg #[.slice A1 es.length c1], .int .i64 t] w fun e w' => ∃ x : {y : (Option Addr × Nat) × List Bd // (∃ P, Kan l P /\ IsB es t P y.2) /\ y.2.length <= 1000000 /\ y.2.length <= y.1.2 /\ y.1.2 <= maxLen}, e = .returned (.tuple #[.slice x.1.1.1 x.1.2.length x.1.1.2, .int .i64 0]) /\ Pm w [.row (.slice x.1.1.1 x.1.2.length x.1.1.2) 44 4 x.1.2.length (Ka Bd.cells x.1.2)] w' := by
 refine Kg Tryz.func12 rfl rfl rfl ?_ (Pm.start w);refine zSG ?_;refine TL.bx fun g4 => ?_;refine TL.rn 2 rfl (zET (zS (zSG (TL.mv ?_))));refine TL.v (gV 0 (.agg #[.slice A1 es.length c1]) K4 KE) ?_;refine TL.p1 rfl o40 (fun w1 hw => KkW A0 c0 l A1 c1 es w1 (hr.up hw.bel) hl1 hok hv (by omega) (hr1.up hw.bel) hes) ?_;refine TL.as_ ?_;refine zET (zSG (TL.mv ?_));refine TL.w rfl (Kn rfl rfl rfl (fun w => Kck rfl w)) ?_;refine zET (zd (zk (zT (zSG (TL.as_ ?_)))));refine zET (zS (zSG (TL.mv ?_)));refine TL.pL (α := {y : ((Option Addr × Nat) × List (Sg Rs)) × List Pc // Kan l (y.1.2.map (·.l)) /\ RdX y.2 y.1.2 /\ Kaw y.2 = true /\ y.1.2.length <= 10000 /\ y.1.2.length <= y.1.1.2 /\ y.1.1.2 <= maxLen}) (r := fun x => .slice x.1.1.1.1 x.1.1.2.length x.1.1.1.2) (I' := fun x => Pm w ((.row (.slice x.1.1.1.1 x.1.1.2.length x.1.1.1.2) 27 1 x.1.1.2.length (Ka sgc x.1.1.2) :: [.blk g4 32 [.slice A1 es.length c1]]) ++ x.1.2)) rfl o41 (fun w1 hw => (Klj A0 c0 l w1 (hr.up hw.bel) hl1 hok (by omega)).mono fun e w2 ⟨x, h1, h2⟩ => ⟨x, h1, Pm.partIn (hw.addAll h2 x.2.2.2.1)⟩) ?_;rintro ⟨⟨⟨⟨As22, cs22⟩, ss⟩, X⟩, hPs, hX, hna, hssl, hssc, hssm⟩;dsimp only at hPs hX hna hssl hssc hssm ⊢;obtain ⟨P, hPe⟩ : ∃ P, P = ss.map (·.l) := ⟨_, rfl⟩;rw [<- hPe] at hPs;have hPm := hPs.mem;have hPf := hPs.flen hl9;have hPl : P.length = ss.length := by rw [hPe, List.length_map]
 refine TL.v (gN Tryz.underlying113) ?_;refine TL.mv ?_;refine zET (zB (TC.nilrow 44 4 ?_));refine TC.lp (α := {y : Nat × (Option Addr × Nat) × List Bd // y.1 <= ss.length /\ (∀ b, b ∈ y.2.2 ↔ KaM es t (P.take y.1) b) /\ y.2.2.length <= 255 * (P.take y.1).flatten.length /\ y.2.2.length <= y.2.1.2 /\ y.2.1.2 <= maxLen}) [2, 4, 22, 23] rfl (fun y => [(24, .int .i64 ((y.1.1 : Nat) : Int)), (9, .slice y.1.2.1.1 y.1.2.2.length y.1.2.1.2)]) (fun y => Pm w ([.row (.slice y.1.2.1.1 y.1.2.2.length y.1.2.1.2) 44 4 y.1.2.2.length (Ka Bd.cells y.1.2.2), .row (.slice As22 ss.length cs22) 27 1 ss.length (Ka sgc ss), .blk g4 32 [.slice A1 es.length c1]] ++ X)) (fun y => ss.length - y.1.1) (⟨(0, (none, 0), []), Nat.zero_le _, KhX, Nat.zero_le _, Nat.le_refl _, Nat.zero_le _⟩) (fun w1 hw => hw) ?_;rintro ⟨⟨i, ⟨Ao, co⟩, out⟩, hi, hM, hos, hoc, hom⟩;dsimp only at hi hM hos hoc hom ⊢;refine zS ?_;have hPt := Kgo P i;refine zG ?_;refine TL.sp Km (fun q25 => ?_) (fun q25 => ?_)
 ·refine zET (zS (zc (zk (zT (zS (zB (zSG ?_)))))));refine TL.fact (p := ∃ g, As22 = some ⟨g, 0, none⟩) (fun w1 hw => Kak hw (k := 1) rfl (by omega)) ?_;rintro ⟨g_As22, rfl⟩;have hi26 : i < ss.length := by omega
  obtain ⟨x26, hx26⟩ := Ko hi26;refine TL.w rfl (gA (i := i) Tryz.underlying113 KkL rfl rfl rfl rfl rfl (by omega)) ?_;refine TL.w rfl (KK (v := .slice x26.A x26.l.length x26.c) rfl rfl Kk2 (fun w1 hw => Ku KbA hw (q := 1) rfl hx26 0 _ rfl)) ?_;refine TL.as_ ?_;refine zET (zSG ?_);refine TL.mkmap rfl rfl rfl rfl (fun gm hgm => ?_);refine TL.as_ ?_;refine zET (zS ?_);have hPi : P[i]? = some x26.l := by rw [hPe, List.getElem?_map, hx26]; rfl
  have hxp : x26.l ∈ P := List.mem_of_getElem? hPi;have hpok : ∀ r ∈ x26.l, r.Ok := fun r hr => hok r (hPm _ hxp r hr).1;have hPt2 := Kgo P (i + 1);rw [Kg7 hPi] at hPt2;refine TC.fact (p := 0 < x26.l.length -> x26.A = some ⟨adB x26.A, adO x26.A, none⟩) (fun w1 hw h => (hX w w1 (Pm.sel (show Pm w ([.oth gm (.map #[] 0), .row (.slice Ao out.length co) 44 4 out.length (Ka Bd.cells out), .row (.slice (some ⟨g_As22, 0, none⟩) ss.length cs22) 27 1 ss.length (Ka sgc ss), .blk g4 32 [.slice A1 es.length c1]] ++ X) w1 from hw) (List.sublist_append_right _ _)) x26 (List.mem_of_getElem? hx26)).addr h (by decide)) (fun hxA => ?_);refine zG (TL.mv ?_);refine TL.v (gN Tryz.underlying27) ?_;refine TL.mv ?_;refine zET (zB ?_);refine TC.lp (α := {y : Nat × (Option Addr × Nat) × List Bd × Obj // y.1 <= x26.l.length /\ (∀ b, b ∈ y.2.2.1 ↔ KaM es t (P.take i) b \/ KbT es t x26.l (x26.l.take y.1) b) /\ FlM y.2.2.2 (fl9 (x26.l.take y.1)) /\ y.2.2.1.length <= 255 * ((P.take i).flatten.length + y.1) /\ y.2.2.1.length <= y.2.1.2 /\ y.2.1.2 <= maxLen}) [2, 4, 11, 12, 22, 23, 24, 29, 30] rfl (fun y => [(31, .int .i64 ((y.1.1 : Nat) : Int)), (9, .slice y.1.2.1.1 y.1.2.2.1.length y.1.2.1.2)]) (fun y => Pm w ([.oth gm y.1.2.2.2, .row (.slice y.1.2.1.1 y.1.2.2.1.length y.1.2.1.2) 44 4 y.1.2.2.1.length (Ka Bd.cells y.1.2.2.1), .row (.slice (some ⟨g_As22, 0, none⟩) ss.length cs22) 27 1 ss.length (Ka sgc ss), .blk g4 32 [.slice A1 es.length c1]] ++ X)) (fun y => x26.l.length - y.1.1) (⟨(0, (Ao, co), out, .map #[] 0), Nat.zero_le _, Kks hM, by dsimp only; rw [List.take_zero]; exact FlM.new, by dsimp only; omega, hoc, hom⟩) (fun w1 hw => hw) ?_;rintro ⟨⟨j, ⟨Ao2, co2⟩, out2, om⟩, hj, hM2, hFl, hos2, hoc2, hom2⟩;dsimp only at hj hM2 hFl hos2 hoc2 hom2 ⊢;obtain ⟨fm, hmf, hff⟩ := id hFl;refine zSG ?_;refine TL.sp Km (fun q32 => ?_) (fun q32 => ?_)
  ·refine zET (zS (zc (zk (zT (zS (zB (zSG ?_)))))));have hi33 : j < x26.l.length := by omega
   obtain ⟨x33, hx33⟩ := Ko hi33;have hA33 := hxA (by omega);refine TL.w rfl (gA (i := j) Tryz.underlying27 Ki rfl rfl rfl rfl hA33 (by omega)) ?_;refine TL.w rfl (KH (off := (adO x26.A) + j * 17) rfl rfl KG Ki (Kt.len x33) (fun w1 hw j9 u9 h9 => Kki Kt (hX w w1 (Pm.sel (show Pm w ([.oth gm om, .row (.slice Ao2 out2.length co2) 44 4 out2.length (Ka Bd.cells out2), .row (.slice (some ⟨g_As22, 0, none⟩) ss.length cs22) 27 1 ss.length (Ka sgc ss), .blk g4 32 [.slice A1 es.length c1]] ++ X) w1 from hw) (List.sublist_append_right _ _)) x26 (List.mem_of_getElem? hx26)) hA33 hx33 j9 u9 h9)) ?_;refine TL.al Kbg fun g14 => ?_;refine TL.pstore (k := 0) (vs := x33.cells) rfl rfl rfl rfl rfl rfl rfl Ki (Kt.one _) (by show 17 <= 17; decide) (L' := ([.blk g14 76 x33.cells, .oth gm om, .row (.slice Ao2 out2.length co2) 44 4 out2.length (Ka Bd.cells out2), .row (.slice (some ⟨g_As22, 0, none⟩) ss.length cs22) 27 1 ss.length (Ka sgc ss), .blk g4 32 [.slice A1 es.length c1]] ++ X)) rfl ?_;refine zET (zS ?_);have hv33 : Ks x33 = true := (hPm _ hxp x33 (List.mem_of_getElem? hx33)).2;obtain ⟨mb, hmb⟩ : ∃ b, decide (x33.flow ∈ fl9 (x26.l.take j)) = b := ⟨_, rfl⟩;refine zG (TL.mv ?_);refine TL.v (gF KbC) ?_;refine TL.v (gL 0 Kb) ?_;refine TL.w rfl (KcG (i := 1) (a := x33.flow) (v := .bool mb) rfl rfl rfl (KfN Tryz.underlying3) Tryz.underlying115 (fun w => rfl) rfl hmf (Kd0 hv33) (by rw [hff _ (Kd0 hv33), hmb])) ?_
   cases mb with
   | true =>
    refine TL.w rfl (KaZ rfl rfl) ?_;refine zET (zd (zk (zN (zT (zG (TL.v (gD ((j + 1 : Nat) : Int)) ?_))))));refine TL.mv ?_;refine zE ?_;exact TX.rd (⟨(j + 1, (Ao2, co2), out2, om), by dsimp only; omega, Kkl hM2 hx33 (Kh5 (of_decide_eq_true hmb)), hFl.same (Kk7 hx33 (of_decide_eq_true hmb)), by dsimp only; omega, hoc2, hom2⟩) (by show x26.l.length - (j + 1) < x26.l.length - j; omega) (fun w1 hw => hw.sel (.cons _ (.cons_cons _ (.cons_cons _ (.cons_cons _ (.cons_cons _ (List.Sublist.refl _)))))))
   | false =>
    refine TL.w rfl (KaZ rfl rfl) ?_;refine zET (zc (zSG (TL.mv ?_)));refine TL.v (gF KbC) ?_;refine TL.v (gL 0 Kb) ?_;refine TL.mapsetG (i := 1) rfl rfl rfl rfl rfl rfl (KfN Tryz.underlying3) Tryz.underlying115 rfl hgm hmf (Kd0 hv33) (fun ob2 hm2 => ?_)
    try dsimp only [List.set_cons_zero, List.set_cons_succ]
    have hFl2 := FlM.set hff hm2;refine zET (TC.hd 10 (Pm w [.blk g14 76 x33.cells, .blk g4 32 [.slice A1 es.length c1]]) (fun w1 hw => hw.pk [0, 4]) fun jS => ?_);refine TH.t 0 rfl (Kk rfl rfl) jS ?_;refine TH.t 1 rfl (Kk rfl rfl) jS ?_;refine TH.t 2 rfl (gF KbC) jS ?_;refine TH.t 3 rfl (gL 0 Kb) jS ?_;refine TH.t 5 rfl (gV 1 (.agg #[.slice A1 es.length c1]) K4 KE) jS ?_;refine TH.t 6 rfl (Kk rfl rfl) jS ?_;refine TH.o 4 ?_;refine TL.pM _ _ rfl o42 (fun w1 hw => Kji x26.A x26.c x26.l x33.flow w1 (hX w w1 (Pm.sel (show Pm w ([.blk g14 76 x33.cells, .oth gm ob2, .row (.slice Ao2 out2.length co2) 44 4 out2.length (Ka Bd.cells out2), .row (.slice (some ⟨g_As22, 0, none⟩) ss.length cs22) 27 1 ss.length (Ka sgc ss), .blk g4 32 [.slice A1 es.length c1]] ++ X) w1 from hw) (List.sublist_append_right _ _)) x26 (List.mem_of_getElem? hx26)) (by omega) hpok (Kd0 hv33)) ?_;rintro ⟨⟨⟨R47, rc47⟩, ph47⟩, hP47, hR471, hR472⟩;dsimp only [lC, lN];dsimp only at hP47 hR471 hR472 ⊢;have hph := hP47.le hpok;have hwl := Ki4 es t ph47;have hapl : (out2 ++ Kaz es t ph47).length <= 255 * ((P.take i).flatten.length + (j + 1)) := by rw [List.length_append]; omega
    refine zE ?_;refine TX.held (fun w1 hw => hw.pk [1, 5]) ?_;refine TH.o 7 ?_;refine TL.pM _ _ rfl o30 (fun w1 hw => Khe R47 rc47 ph47 A1 c1 es t w1 (Kz hw (k := 0) rfl) (by omega) (hr1.up hw.bel)) ?_;rintro ⟨⟨Rw, rcw⟩, hRw1, hRw2⟩;dsimp only [lC, lN];refine zE ?_;refine TX.held (fun w1 hw => hw.pk [2, 6]) ?_;refine TH.o 8 ?_;refine TL.appendT (k := 4) rfl rfl rfl rfl Tryz.underlying34 Kex rfl rfl rfl (fun w1 hw => KL hw (k := 0) rfl) (KB KC _) (by show _ * 24 <= _; omega) ((out2 ++ (Kaz es t ph47)).length) (List.length_append) (Ka Bd.cells (out2 ++ (Kaz es t ph47))) ((KF _ _).symm) (fun A51 c51 hA511 hA512 => ?_);refine zE ?_;refine TX.he (fun w1 hw => hw.pk [2, 6]) fun hS => ?_;refine TH.t 9 rfl (KaD rfl rfl) hS ?_;refine TH.done (by kernel_rfl) ?_;refine zN (zT (zG (TL.v (gD ((j + 1 : Nat) : Int)) ?_)));refine TL.mv ?_;refine zE ?_;exact TX.rd (⟨(j + 1, (A51, c51), out2 ++ (Kaz es t ph47), ob2), by dsimp only; omega, KhP hM2 hx33 hP47, by dsimp only; rw [Kf8 hx33]; exact hFl2, hapl, hA511, hA512⟩) (by show x26.l.length - (j + 1) < x26.l.length - j; omega) (fun w1 hw => hw.sel (.cons _ (.cons _ (.cons _ (.cons_cons _ (.cons_cons _ (.cons_cons _ (.cons_cons _ (List.Sublist.refl _)))))))))
  refine zET (zS (zd (zx (zX (zX (zM (zN (zT (zG (TL.v (gD ((i + 1 : Nat) : Int)) ?_))))))))));refine TL.mv ?_;refine zE ?_;exact TX.rd (⟨(i + 1, (Ao2, co2), out2), by dsimp only; omega, KiS hM2 (by omega) hPi, by dsimp only; rw [Kg7 hPi]; omega, hoc2, hom2⟩) (by show ss.length - (i + 1) < ss.length - i; omega) (fun w1 hw => hw.sel (.cons _ (.cons_cons _ (.cons_cons _ (.cons_cons _ (List.Sublist.refl _))))))
 refine zET (zS (zd (zx (zX (zX (zM (zT (zSG (TL.mv ?_)))))))));refine TL.turnRowD (k := 0) (fun ys => Kbv KbP out ys) rfl rfl rfl rfl rfl Tryz.func43 (by decide) rfl rfl (fun w1 hw hr9 => Kky hr9 (rfl) (by omega)) (fun srt55 hS55 => ?_)
 try dsimp only [List.set_cons_zero, List.set_cons_succ]
 refine zET (zSG (TL.mv ?_));refine TL.turnRow2 (q := 0) (ys := Kf srt55) rfl rfl rfl rfl rfl Tryz.func44 (by decide) rfl rfl (fun w1 hw hr9 => Kj0 hr9 (hS55.1.length_eq) (by omega)) ?_
 try dsimp only [List.set_cons_zero, List.set_cons_succ]
 refine TL.rn 2 rfl (zET (zr ?_));have hsl := hS55.1.length_eq;have hcl : (Kf srt55).length <= out.length := Nat.le_trans (KdN _) (Nat.le_of_eq hsl);exact Kcn (v1 := .slice Ao (Kf srt55).length co) (v2 := .int .i64 0) Tryz.results12 rfl rfl (fun w1 hw => ⟨⟨((Ao, co), Kf srt55), ⟨P, hPs, Kib (by rw [List.take_of_length_le (by omega)] at hM; exact hM) hS55⟩, by dsimp only; omega, by dsimp only; omega, hom⟩, rfl, hw.sel (.cons_cons _ (List.nil_sublist _))⟩)
theorem KiQ (A0 : Option Addr) (c0 : Nat) (l : List Rs) (A1 : Option Addr) (c1 : Nat) (es : List En) (t : Int) (b : Bd) (w : World) (hr : Kd w w.heap.size 17 A0 l.length (Ka Rs.cells l)) (hl1 : l.length <= 100000) (hok : ∀ r ∈ l, r.Ok) (hv : ∀ r ∈ l, Ks r = true) (hl9 : l.length <= 60) (hr1 : Kd w w.heap.size 5 A1 es.length (Ka En.cells es)) (hes : KA es = true) :
  Calls Tryz.prog 15 #[.slice A0 l.length c0, .agg #[.slice A1 es.length c1], .int .i64 t, .agg b.cells.toArray] w fun e w' => ∃ x : {z : Bool // ∃ P y, Kan l P /\ IsB es t P y /\ z = decide (b ∈ y)}, e = .returned (.bool x.1) /\ Below w.heap.size w w' := by
 refine Kg Tryz.func15 rfl rfl rfl ?_ (Pm.start w);refine zSG ?_;refine TL.bx fun g5 => ?_;refine TL.bx fun g7 => ?_;refine TL.as_ ?_;refine zET (zSG (TL.mv ?_));refine TL.v (gV 1 (.agg #[.slice A1 es.length c1]) K4 KE) ?_;refine TL.mv ?_;refine TL.pM _ _ rfl o12 (fun w1 hw => KcW A0 c0 l A1 c1 es t w1 (hr.up hw.bel) hl1 hok hv hl9 (hr1.up hw.bel) hes) ?_;rintro ⟨⟨⟨Afd, cfd⟩, fd⟩, hfd, hfdl, hfdc, hfdm⟩;dsimp only [lC, lN];dsimp only at hfd hfdl hfdc hfdm ⊢;refine TL.rn 5 rfl (zET (zSG (TL.mv ?_)));refine TL.w rfl (Kn rfl rfl rfl (fun w => Kdq rfl w)) ?_;refine TL.rn 2 rfl (TL.ov (gV 1 (.agg (b.cells).toArray) K9 Kx) ?_);refine TL.gu ?_;refine TL.p1 rfl o45 (fun w1 hw => Kkg Afd cfd fd b w1 (Kz hw (k := 0) rfl) (by omega)) ?_;refine TL.rn 2 rfl (zET (zr ?_));obtain ⟨P, hP1, hP2⟩ := hfd;exact Kc Tryz.results15 rfl (fun w1 hw => ⟨⟨_, P, fd, hP1, hP2, rfl⟩, rfl, hw.bel⟩)
set_option maxRecDepth 20000
theorem KhS (v : Value) (hv : v.cells = #[v]) (m : Nat) : (Builtin.zeroCells v.cells m).toList = List.replicate m v := by
 rw [hv];simp only [Builtin.zeroCells, List.size_toArray, List.length_singleton, Nat.mul_one, Array.toList_map, Array.toList_range];refine List.ext_getElem (by simp) fun i h1 h2 => ?_;simp [Nat.mod_one]
theorem Kl9 (q : IntKind) : ∀ k, ∀ u ∈ (Builtin.zeroCells (Value.int q 0).cells k).toList, u.oneCell' = true := by
 intro k u hu;rw [KhS _ rfl] at hu;rw [(List.mem_replicate.1 hu).2]; rfl
def K8 {α : Type} (ss : List (Sg α)) : List α := ss.flatMap (·.l)
def KaV {α : Type} (ss : List (Sg α)) : Nat := (K8 ss).length
theorem Kel {α : Type} {ss : List (Sg α)} {i : Nat} {x : Sg α} (hx : ss[i]? = some x) : K8 (ss.take (i + 1)) = K8 (ss.take i) ++ x.l := by
 unfold K8; rw [List.take_add_one, hx]; simp
theorem Kg9 {α : Type} {ss : List (Sg α)} {i : Nat} {x : Sg α} (hx : ss[i]? = some x) : KaV (ss.take (i + 1)) = KaV (ss.take i) + x.l.length := by
 unfold KaV; rw [Kel hx, List.length_append]
theorem Kdl {α : Type} (ss : List (Sg α)) (i : Nat) : KaV (ss.take i) <= KaV ss := by
 have h : K8 ss = K8 (ss.take i) ++ K8 (ss.drop i) := by unfold K8; rw [<- List.flatMap_append, List.take_append_drop]
 unfold KaV; rw [h, List.length_append]; omega
theorem KhH {α : Type} (ss : List (Sg α)) (i : Nat) : (K8 (ss.take i)).length <= KaV ss := Kdl ss i
theorem Kci (w : World) : (sizeOf 70).run Tryz.prog w = .ok 1 w := rfl
theorem Kch (w : World) : (isAgg 70).run Tryz.prog w = .ok false w := rfl
theorem KkC (n : Nat) (w : World) (hlim : n <= 10000000) :
  Calls Tryz.prog 131 #[.slice none 0 0, .int .i64 ((n : Nat) : Int)] w fun e w' => ∃ x : {p : Option Addr × Nat // n <= p.2 /\ p.2 <= maxLen}, e = .returned (.slice x.1.1 0 x.1.2) /\ Pm w [.row (.slice x.1.1 0 x.1.2) 42 1 0 (Ka (ic .u32) [])] w' := by
 refine Kg Tryz.func131 rfl rfl rfl ?_ (Pm.start w);refine zSG (TL.as_ ?_);refine zET (zS (zSG (TL.mv ?_)));refine TL.sp Km (fun q6 => ?_) (fun q6 => ?_)
 ·exfalso; omega
 refine zET (zd (zk (zT (zS (zSG (TL.rn 2 rfl ?_))))));refine TL.w rfl (KhE rfl Tryz.underlying70 rfl) ?_;refine TL.mv ?_;refine TL.v (gN Tryz.underlying70) ?_;refine TL.w rfl (Kn rfl rfl rfl (fun w => K2 (r := 0) (by decide) w)) ?_;refine TL.w rfl (Kn rfl rfl rfl (fun w => K2 (r := ((n : Nat) : Int)) (by simp only [IntKind.wrap_i64]; omega) w)) ?_;refine TL.as_ ?_;refine zET (zSG (TL.mv ?_));refine TL.sp KP (fun q16 => ?_) (fun q16 => ?_)
 ·refine zET (zc (zG (TL.rn 2 rfl ?_)));refine TL.w rfl (KhE rfl Tryz.underlying70 rfl) ?_;refine TL.nilrow 42 1 ?_;refine TL.rowhead (k := 0) (hi := 0) (xs' := []) rfl rfl rfl rfl rfl rfl Tryz.underlying70 (fun w => rfl) rfl (Nat.le_refl _) (Nat.le_refl _) rfl ?_;refine TL.mv ?_;refine TL.zeros (k := 0) (m := n) rfl rfl rfl rfl Kbm Tryz.underlying3 rfl rfl rfl (z := .int .u32 0) (by kernel_rfl) rfl (Kl9 .u32) (by show _ * 4 <= _; omega) n (by omega) (fun A22 c22 hA221 hA222 => ?_)
  try dsimp only [List.set_cons_zero, List.set_cons_succ]
  refine TL.mv ?_;refine TL.v (gN Tryz.underlying70) ?_;refine TL.rowhead (k := 0) (hi := 0) (xs' := []) rfl rfl rfl rfl rfl rfl Tryz.underlying70 (fun w => rfl) rfl (Nat.zero_le _) hA221 rfl ?_
  try dsimp only [List.set_cons_zero, List.set_cons_succ]
  refine TL.as_ ?_;refine zET (zSG (TL.rn 2 rfl (zET (zr ?_))));exact Kc Tryz.results131 rfl (fun w1 hw => ⟨⟨(A22, c22), hA221, hA222⟩, rfl, hw.pick [0] (by decide) rfl⟩)
 refine zET (zd (zk (zT (zSG (TL.rn 2 rfl (zET (zr ?_)))))));have hn0 : n = 0 := by omega
 subst hn0;exact Kc Tryz.results131 rfl (fun w1 hw => ⟨⟨(none, 0), Nat.le_refl _, Nat.zero_le _⟩, rfl, hw.nilrow _ _⟩)
theorem KkH (A0 : Option Addr) (c0 : Nat) (ss : List (Sg Int)) (w : World) (hr : Kd w w.heap.size 1 A0 ss.length (Ka sgc ss)) (hl : ss.length <= 100000) (hs : KaV ss <= 1000000) (hss : ∀ s ∈ ss, Kd w w.heap.size 1 s.A s.l.length (Ka (ic .u32) s.l)) :
  Calls Tryz.prog 82 #[.slice A0 ss.length c0] w fun e w' => ∃ x : {p : Option Addr × Nat // (K8 ss).length <= p.2 /\ p.2 <= maxLen}, e = .returned (.slice x.1.1 (K8 ss).length x.1.2) /\ Pm w [.row (.slice x.1.1 (K8 ss).length x.1.2) 42 1 (K8 ss).length (Ka (ic .u32) (K8 ss))] w' := by
 refine Kg Tryz.func82 rfl rfl rfl ?_ (Pm.start w);refine zSG (TL.as_ ?_);refine zET (zSG (TL.as_ ?_));refine zET (zS (zSG (TL.mv ?_)));refine TL.v (gN Tryz.underlying56) ?_;refine TL.mv ?_;refine zET (zB (TC.lp (α := {i : Nat // i <= ss.length}) [0, 9, 10] rfl (fun y => [(11, .int .i64 ((y.1 : Nat) : Int)), (3, .int .i64 ((KaV (ss.take y.1) : Nat) : Int))]) (fun y => Pm w []) (fun y => ss.length - y.1) (⟨0, Nat.zero_le _⟩) (fun w1 hw => hw) ?_));rintro ⟨i, hi⟩
 try dsimp only at hi ⊢
 have hsl0 := Kdl ss i;refine zSG ?_;refine TL.sp Km (fun q12 => ?_) (fun q12 => ?_)
 ·refine zET (zS (zc (zk (zT (zS (zB (zSG ?_)))))));have hi13 : i < ss.length := by omega
  obtain ⟨x13, hx13⟩ := Ko hi13;obtain ⟨b13, o13, hA13, hbb13, hc13⟩ := hr.ad (by omega) (by decide);have hsm := Kg9 hx13;have hsl := Kdl ss (i + 1);have hcm := Kel hx13;refine TL.w rfl (gA (i := i) Tryz.underlying56 Kci rfl rfl rfl rfl hA13 (by omega)) ?_;refine TL.v (gS 0 KbA Kch hbb13 hx13 hc13) ?_;refine TL.as_ ?_;refine zET (zSG (TL.rn 2 rfl (TL.v (gN Tryz.underlying70) ?_)));refine TL.w rfl (Kn rfl rfl rfl (fun w => Kcz (r := ((KaV (ss.take (i + 1)) : Nat) : Int)) (by rw [hsm]; simp only [IntKind.wrap_i64]; omega) w)) ?_;refine TL.as_ ?_;refine zET (zSG (TL.mv ?_));refine TL.sp Km (fun q20 => ?_) (fun q20 => ?_)
  ·exfalso; omega
  refine zET (zd (zk (zN (zT (zG (TL.v (gD ((i + 1 : Nat) : Int)) ?_))))));refine TL.mv ?_;refine zE ?_;exact TX.rd (⟨i + 1, by omega⟩) (by show ss.length - (i + 1) < ss.length - i; omega) (fun w1 hw => hw)
 refine zET (zS (zd (zx (zX (zX (zM (zT (zSG (TL.mv ?_)))))))));refine TL.pM (α := {p : Option Addr × Nat // KaV (ss.take i) <= p.2 /\ p.2 <= maxLen}) (fun x => .slice x.1.1 0 x.1.2) (fun x => [.row (.slice x.1.1 0 x.1.2) 42 1 0 (Ka (ic .u32) ([]))]) rfl KjO (fun w1 hw => KkC (KaV (ss.take i)) w1 (by omega)) ?_;rintro ⟨⟨Ag, cg⟩, hg1, hg2⟩;dsimp only [lC, lN];refine TL.as_ ?_;refine zET (zS (zSG (TL.mv ?_)));refine TL.v (gN Tryz.underlying56) ?_;refine TL.mv ?_;refine zET (zB (TC.lp (α := {y : Nat × (Option Addr × Nat) × List Int // y.1 <= ss.length /\ K8 (ss.take y.1) = y.2.2 /\ y.2.2.length <= y.2.1.2 /\ y.2.1.2 <= maxLen}) [25, 26] rfl (fun y => [(27, .int .i64 ((y.1.1 : Nat) : Int)), (6, .slice y.1.2.1.1 y.1.2.2.length y.1.2.1.2)]) (fun y => Pm w [.row (.slice y.1.2.1.1 y.1.2.2.length y.1.2.1.2) 42 1 y.1.2.2.length (Ka (ic .u32) y.1.2.2)]) (fun y => ss.length - y.1.1) (⟨(0, (Ag, cg), []), Nat.zero_le _, rfl, Nat.zero_le _, hg2⟩) (fun w1 hw => hw) ?_));rintro ⟨⟨i, ⟨Ao, co⟩, out⟩, hi, hot, hoc, hom⟩;dsimp only at hi hot hoc hom ⊢;subst hot;refine zSG ?_;refine TL.sp Km (fun q28 => ?_) (fun q28 => ?_)
 ·refine zET (zS (zc (zk (zT (zS (zB (zSG ?_)))))));have hi29 : i < ss.length := by omega
  obtain ⟨x29, hx29⟩ := Ko hi29;obtain ⟨b29, o29, hA29, hbb29, hc29⟩ := hr.ad (by omega) (by decide);have hsm := Kg9 hx29;have hsl := Kdl ss (i + 1);have hcm := Kel hx29;refine TL.w rfl (gA (i := i) Tryz.underlying56 Kci rfl rfl rfl rfl hA29 (by omega)) ?_;refine TL.v (gS 0 KbA Kch hbb29 hx29 hc29) ?_;refine TL.as_ ?_;refine zET (zG (TL.rn 2 rfl ?_));refine TL.appendT (k := 0) rfl rfl rfl rfl Tryz.underlying70 Kbm rfl rfl rfl (fun w1 hw => ⟨_, ((hss x29 (List.mem_of_getElem? hx29)).up hw.bel)⟩) (KB (KO .u32) _) (by have h8 := KhH ss i; have h9 := KhH ss (i + 1); rw [hcm, List.length_append] at h9; show _ * 4 <= _; omega) (((K8 (ss.take i)) ++ x29.l).length) (by rw [List.length_append]) (Ka (ic .u32) ((K8 (ss.take i)) ++ x29.l)) ((KF _ _).symm) (fun A33 c33 hA331 hA332 => ?_);refine TL.as_ ?_;refine zE (zN (zT (zG (TL.v (gD ((i + 1 : Nat) : Int)) ?_))));refine TL.mv ?_;refine zE ?_;exact TX.rd (⟨(i + 1, (A33, c33), K8 (ss.take i) ++ x29.l), by dsimp only; omega, hcm, hA331, hA332⟩) (by show ss.length - (i + 1) < ss.length - i; omega) (fun w1 hw => hw)
 refine zET (zS (zd (zx (zX (zX (zM (zT (zSG (TL.rn 2 rfl (zET (zr ?_)))))))))));have e9 : ss.take i = ss := List.take_of_length_le (by omega);rw [e9] at hoc ⊢;exact Kc Tryz.results82 rfl (fun w1 hw => ⟨⟨(Ao, co), hoc, hom⟩, rfl, hw.pick [0] (by decide) rfl⟩)
open Go.RowKit Go.Shelf Go.Sort
set_option maxRecDepth 20000
def KhJ : Go.Shelf.Ren := ⟨fun | 7 => 84 | 10 => 133 | n => n, fun | 23 => 168 | 26 => 3 | 27 => 171 | 28 => 172 | 33 => 197 | n => n, fun n => n⟩
theorem Kfx : SlLaysZI.n7 Tryz.prog KhJ where
  mixed := by kernel_rfl
  f7 := ⟨Tryz.f84.name, by decide, Tryz.func84.trans (by kernel_rfl)⟩
  f10 := ⟨Tryz.f133.name, by decide, Tryz.func133.trans (by kernel_rfl)⟩
  t0 := Tryz.underlying0
  a0 := fun w => rfl
  z0 := fun w => rfl
  v0 := fun w => rfl
  t4 := Tryz.underlying4
  a4 := fun w => rfl
  z4 := fun w => rfl
  v4 := fun w => rfl
  t23 := Tryz.underlying168
  a23 := fun w => rfl
  z23 := fun w => rfl
  v23 := fun w => rfl
  t26 := Tryz.underlying3
  a26 := fun w => rfl
  z26 := fun w => rfl
  v26 := fun w => rfl
  t27 := Tryz.underlying171
  a27 := fun w => rfl
  z27 := fun w => rfl
  v27 := fun w => rfl
  t28 := Tryz.underlying172
  a28 := fun w => rfl
  z28 := fun w => rfl
  v28 := fun w => rfl
  t33 := Tryz.underlying197
  a33 := fun w => rfl
  z33 := fun w => rfl
  v33 := fun w => rfl
def KgH : Go.Shelf.Ren := ⟨fun | 6 => 83 | 8 => 132 | 9 => 59 | 11 => 203 | n => n, fun | 24 => 49 | 26 => 3 | 28 => 172 | 33 => 197 | n => n, fun n => n⟩
theorem KkF : SlLaysZI.n6 Tryz.prog KgH where
  mixed := by kernel_rfl
  f6 := ⟨Tryz.f83.name, by decide, Tryz.func83.trans (by kernel_rfl)⟩
  f8 := ⟨Tryz.f132.name, by decide, Tryz.func132.trans (by kernel_rfl)⟩
  f11 := ⟨Tryz.f203.name, by decide, Tryz.func203.trans (by kernel_rfl)⟩
  t0 := Tryz.underlying0
  a0 := fun w => rfl
  z0 := fun w => rfl
  v0 := fun w => rfl
  t24 := Tryz.underlying49
  a24 := fun w => rfl
  z24 := fun w => rfl
  v24 := fun w => rfl
  t26 := Tryz.underlying3
  a26 := fun w => rfl
  z26 := fun w => rfl
  v26 := fun w => rfl
  t28 := Tryz.underlying172
  a28 := fun w => rfl
  z28 := fun w => rfl
  v28 := fun w => rfl
  i26 := by kernel_rfl
open Go Go.RowKit Go.Shelf Go.Sort Go.Maps
set_option maxRecDepth 20000
theorem imI : IMap Tryz.prog 168 3 3 .i64 .i64 := ⟨Tryz.underlying168, Tryz.underlying3, Tryz.underlying3, fun w => rfl⟩
theorem Kle (b : Nat) (w : World) : Calls Tryz.prog 84 #[.map (some b)] w fun e w' => ∃ g : Nat, e = .returned (.func (.func 133) #[] #[.pointer (some ⟨g, 0, none⟩)]) /\ Pm w [.blk g 168 [.map (some b)]] w' := by
  have h := callsIn_wide.1 (AnyZI.keys_in Kfx Fence.wide 5 trivial rfl (some b) w);refine Calls.mono h fun e w' hh => ?_;obtain ⟨h1, h2⟩ := hh;subst h1 h2;exact ⟨w.heap.size, rfl, (Pm.start w).new 168 [.map (some b)]⟩
theorem KlY (m : Nat) : AnyZI.SortsIn Tryz.prog KgH Fence.wide m :=
  ⟨fun blk off cap ss W hH hblk hsz => callsIn_wide.2 (AnyM.slices_Sort_int Kgg blk off cap ss W hH hblk hsz), fun p cap W => callsIn_wide.2 (AnyM.slices_Sort_int_none Kgg p cap W)⟩
theorem Khc {w : World} {b n : Nat} {R : Value -> Option (DataW Unit × List MemPlace)} {D : DataW Unit} (h : w.ownsMap Tryz.prog 3 R b n D) (x : Int) : x ∈ intKeys D ↔ Maps.has D (.int .i64 x) = true := by
  obtain ⟨es, rfl, hko⟩ := h.keysOf
  have hk : ∀ p ∈ es, ∃ x, p.1 = .int .i64 x := fun p hp => by
    obtain ⟨v, hv⟩ := hko p hp;obtain ⟨x, _, hx, _⟩ := Maps.keyOf_i64 Tryz.underlying3 hv;exact ⟨x, hx⟩
  rw [Maps.has_eq, List.any_eq_true];unfold intKeys;rw [List.mem_map];constructor
  · rintro ⟨p, hp', rfl⟩;obtain ⟨a, ha⟩ := hk p hp';exact ⟨p, hp', by rw [ha]; simp [Lit.sameKey, Go.intOf]⟩
  · rintro ⟨p, hp', hs⟩;obtain ⟨a, ha⟩ := hk p hp';rw [ha] at hs;exact ⟨p, hp', by rw [ha]; simpa [Lit.sameKey, Go.intOf] using hs⟩
theorem Kld (Bm b n : Nat) (ob : Obj) (f : Int -> Option Int) (w : World) (hBm : Bm < w.heap.size) (hbox : w.cell? ⟨Bm, 0, none⟩ = some (.map (some b))) (hob : w.heap[b]? = some ob) (hm : Kae Tryz.prog 3 3 .i64 .i64 ob n f) (hn : n <= 100000) :
    Calls Tryz.prog 83 #[.func (.func 133) #[] #[.pointer (some ⟨Bm, 0, none⟩)]] w fun e w' => ∃ x : {y : (Option Addr × Nat) × List Int // (y.2.Pairwise (· <= ·) /\ ∀ a, a ∈ y.2 ↔ ((Lit.int .i64 a).wf = true /\ f a ≠ none)) /\ y.2.length <= 100000 /\ y.2.length <= y.1.2 /\ y.1.2 <= maxLen}, e = .returned (.slice x.1.1.1 x.1.2.length x.1.1.2) /\ Pm w [.row (.slice x.1.1.1 x.1.2.length x.1.1.2) 3 1 x.1.2.length (Ka (ic .i64) x.1.2)] w' := by
  obtain ⟨D, ⟨hD, hsz⟩, hf⟩ := hm.owns hob
  have hlen : Maps.size D = (intKeys D).length := by
    obtain ⟨es, rfl, _⟩ := hD.keysOf;show es.length = (es.map _).length;rw [List.length_map]
  have hseq : SeqGives Fence.wide 2 Tryz.prog 133 #[.pointer (some ⟨Bm, 0, none⟩)] encZ (fun ss => ss.Perm (intKeys D)) (Maps.size D) w :=
    AnyZI.keys_gives (ρ := KhJ) { Kfx with } Fence.wide 2 trivial rfl (by omega) Bm b n D w hBm hbox hD
  have cS := AnyZI.sorted_in KkF Fence.wide 5 trivial trivial trivial trivial rfl (by omega) (KlY _) (enters_of Tryz.func59 (by decide) rfl) 133 #[.pointer (some ⟨Bm, 0, none⟩)] trivial (enters_of Tryz.func133 (by decide) rfl) _ (Maps.size D) (by rw [hsz]; unfold maxLen; omega) (by rw [hsz]; omega) w hseq;refine Calls.mono (callsIn_wide.1 cS) fun e w' hh => ?_;obtain ⟨v, ss, h1, hp, hrow, _, hb⟩ := hh;have hl2 : (ss.mergeSort (fun x y => decide (x <= y))).length = ss.length := List.length_mergeSort ss;obtain ⟨A, c, rfl, hc1, hc2⟩ := KdZ hrow;have hpm : ∀ a, a ∈ ss.mergeSort (fun x y => decide (x <= y)) ↔ a ∈ intKeys D := fun a => by rw [List.mem_mergeSort]; exact hp.mem_iff
  refine ⟨⟨((A, c), ss.mergeSort (fun x y => decide (x <= y))), ⟨?_, fun a => ?_⟩, ?_, ?_, hc2⟩, ?_, ?_⟩
  · have := List.pairwise_mergeSort (le := fun x y : Int => decide (x <= y)) (fun a b c h1 h2 => by simp only [decide_eq_true_eq] at *; exact Int.le_trans h1 h2) (fun a b => by simp only [Bool.or_eq_true, decide_eq_true_eq]; exact Int.le_total a b) ss;exact this.imp fun h => of_decide_eq_true h
  · rw [hpm, Khc hD];constructor
    · intro hh;have hw := intKeys_wf hD Tryz.underlying3 a ((Khc hD a).2 hh);refine ⟨hw, fun h0 => ?_⟩;rw [(hf a hw).1, h0] at hh;cases hh
    · rintro ⟨hw, h0⟩;rw [(hf a hw).1]
      cases hfa : f a with
      | none => exact absurd hfa h0
      | some _ => rfl
  · show (ss.mergeSort _).length <= _;rw [hl2, hp.length_eq, <- hlen, hsz]; exact hn
  · show (ss.mergeSort _).length <= _;rw [hl2]; exact hc1
  · show e = .returned (.slice A (ss.mergeSort _).length c);rw [hl2]; exact h1
  · show Pm w [.row (.slice A (ss.mergeSort _).length c) _ 1 (ss.mergeSort _).length (Ka (ic .i64) (ss.mergeSort _))] w';rw [hl2, KkA];exact (Pm.start w).add hb hrow
set_option maxRecDepth 20000
theorem KkU (A0 : Option Addr) (c0 : Nat) (A1 : Option Addr) (c1 : Nat) (a : List Int) (A2 : Option Addr) (c2 : Nat) (b : List Int) (w : World) (hr : Kd w w.heap.size 1 A0 2 (Ka sgc [(⟨A1, c1, a⟩ : Sg Int), ⟨A2, c2, b⟩])) (hr1 : Kd w w.heap.size 1 A1 a.length (Ka (ic .u32) a)) (hr2 : Kd w w.heap.size 1 A2 b.length (Ka (ic .u32) b)) (hl1 : a.length <= 10000) (hl2 : b.length <= 10000) :
  Calls Tryz.prog 82 #[.slice A0 2 c0] w fun e w' => ∃ x : {p : Option Addr × Nat // (a ++ b).length <= p.2 /\ p.2 <= maxLen}, e = .returned (.slice x.1.1 (a ++ b).length x.1.2) /\ Pm w [.row (.slice x.1.1 (a ++ b).length x.1.2) 42 1 (a ++ b).length (Ka (ic .u32) (a ++ b))] w' := by
 have hE : K8 [(⟨A1, c1, a⟩ : Sg Int), ⟨A2, c2, b⟩] = a ++ b := by simp [K8]
 have h := KkH A0 c0 [(⟨A1, c1, a⟩ : Sg Int), ⟨A2, c2, b⟩] w hr (by show 2 <= 100000; decide) (by unfold KaV; rw [hE, List.length_append]; omega) (fun s hs => by
  simp only [List.mem_cons, List.not_mem_nil, or_false] at hs;rcases hs with rfl | rfl
  ·exact hr1
  exact hr2)
 rw [hE] at h;exact h
def pvS (es : List En) (t : Int) (l : List Int) : List Int := l.map fun a => KX es a t
theorem Kjs (es : List En) (t : Int) (l : List Int) : (pvS es t l).length = l.length := List.length_map ..
theorem Kf0 {es : List En} {t : Int} {l : List Int} {i : Nat} {x : Int} (hx : l[i]? = some x) : pvS es t (l.take (i + 1)) = pvS es t (l.take i) ++ [KX es x t] := by
 unfold pvS;rw [List.take_add_one, hx, List.map_append]
 rfl
def Kp (ps : List Int) (p : Int) : Nat := if p = 0 then 0 else Kbe ps p
theorem KhM (ps : List Int) (p : Int) : Kp ps p <= ps.length := by
 unfold Kp;split
 ·exact Nat.zero_le _
 exact Kk5 _ _
theorem Kj5 (a b : List Int) (p : Int) : Kbe (a ++ b) p = Kbe a p + Kbe b p := List.countP_append
theorem Kfb (ps : List Int) (q p : Int) : Kp (ps ++ [q]) p = Kp ps p + if p ≠ 0 /\ q = p then 1 else 0 := by
 unfold Kp;by_cases h : p = 0
 ·simp [h]
 rw [if_neg h, if_neg h, Kj5];by_cases hq : q = p <;> simp [Kbe, h, hq]
def VM (f : Int -> Option Int) (ps : List Int) : Prop := ∀ p, f p = if Kp ps p = 0 then none else some ((Kp ps p : Nat) : Int)
theorem VM.nil : VM (fun _ => none) [] := fun p => by simp [Kp, Kbe]
theorem VM.get {f : Int -> Option Int} {ps : List Int} (h : VM f ps) (p : Int) : (f p).getD 0 = ((Kp ps p : Nat) : Int) := by
 rw [h p];split
 ·rename_i e; rw [e]; rfl
 rfl
theorem VM.step {f : Int -> Option Int} {ps : List Int} (h : VM f ps) {p : Int} (hp : p ≠ 0) : VM (fun v => if v = p then some ((Kp ps p + 1 : Nat) : Int) else f v) (ps ++ [p]) := fun v => by
 dsimp only;rw [Kfb];by_cases e : v = p
 ·subst e; simp [hp]
 have e0 : (if v ≠ 0 /\ p = v then 1 else 0) = 0 := if_neg (by rintro ⟨_, e2⟩; exact e e2.symm);rw [if_neg e, e0, Nat.add_zero]; exact h v
theorem VM.skip {f : Int -> Option Int} {ps : List Int} (h : VM f ps) : VM f (ps ++ [0]) := fun v => by
 have e0 : (if v ≠ 0 /\ 0 = v then 1 else 0) = 0 := if_neg (by rintro ⟨e1, e2⟩; exact e1 e2.symm);rw [Kfb, e0, Nat.add_zero]; exact h v
theorem Kit (es : List En) (a t : Int) : (KaC es a t).1 = En.zero \/ (KaC es a t).1 ∈ es := by
 unfold KaC
 have key : ∀ (l : List En) (p : En × Bool), (p.1 = En.zero \/ p.1 ∈ es) -> (∀ e ∈ l, e ∈ es) -> (l.foldl (Kdj a t) p).1 = En.zero \/ (l.foldl (Kdj a t) p).1 ∈ es := by
  intro l
  induction l with
  | nil => exact fun p hp _ => hp
  | cons x l ih =>
   intro p hp hl;refine ih _ ?_ fun e he => hl e (List.mem_cons_of_mem _ he);unfold Kdj;split
   ·exact .inr (hl x List.mem_cons_self)
   exact hp
 exact key es _ (.inl rfl) fun e he => he
theorem Kjl {es : List En} (h : KA es = true) {e : En} (he : e ∈ es) : KJ e = true := by
 simp only [KA, Bool.and_eq_true, decide_eq_true_eq, List.all_eq_true, List.mem_range] at h;obtain ⟨i, hi⟩ := List.getElem?_of_mem he;have := h.2 i (List.getElem?_eq_some_iff.1 hi).1;simp only [Kai, hi, Bool.and_eq_true] at this;exact this.1
theorem KkV (es : List En) (a t : Int) : KX es a t = 0 \/ ∃ e ∈ es, KJ e = true /\ KX es a t = e.prov := by
 unfold KX Kb6;split
 ·rename_i hv;rcases Kit es a t with h | h
  ·rw [h]; exact .inl rfl
  exact .inr ⟨_, h, Kjl hv h, rfl⟩
 exact .inl rfl
theorem KjZ (es : List En) (a t : Int) : 0 <= KX es a t /\ KX es a t <= 2147483647 := by
 rcases KkV es a t with h | ⟨e, _, h2, h3⟩
 ·omega
 simp [KJ] at h2;omega
theorem Kg0 {x : Int} (h0 : 0 <= x) (h1 : x <= 9223372036854775807) : (Lit.int .i64 x).wf = true := by
 simp [Lit.wf, IntKind.min, IntKind.max, IntKind.signed, IntKind.bits]; omega
theorem KdX (es : List En) (a t : Int) : (Lit.int .i64 (KX es a t)).wf = true := by
 have := KjZ es a t;exact Kg0 this.1 (by omega)
theorem KhZ {k : Nat} (h : k <= 9223372036854775807) : (Lit.int .i64 ((k : Nat) : Int)).wf = true := Kg0 (by omega) (by omega)
theorem Kdp (es : List En) (t : Int) (l : List Int) (p : Int) (h : Kp (pvS es t l) p ≠ 0) : (Lit.int .i64 p).wf = true := by
 unfold Kp at h;split at h
 ·exact absurd rfl h
 have h1 : 0 < Kbe (pvS es t l) p := by omega
 obtain ⟨x, hx, e⟩ := List.countP_pos_iff.1 h1;have e := of_decide_eq_true e;subst e;obtain ⟨a, _, rfl⟩ := List.mem_map.1 hx;exact KdX es a t
theorem VM.mem {f : Int -> Option Int} {ps ks : List Int} (h : VM f ps) (hk : ∀ a, a ∈ ks ↔ ((Lit.int .i64 a).wf = true /\ f a ≠ none)) (p : Int) (hw : Kp ps p ≠ 0 -> (Lit.int .i64 p).wf = true) : p ∈ ks ↔ Kp ps p ≠ 0 := by
 rw [hk p, h p];constructor
 ·rintro ⟨_, h2⟩ h3;exact h2 (if_pos h3)
 intro h2;exact ⟨hw h2, by rw [if_neg h2]; simp⟩
def K5 (ps ks : List Int) : Int := ks.foldl (fun b p => if Kp ps p > Kp ps b then p else b) 0
theorem KfX {ps ks : List Int} {i : Nat} {x : Int} (hx : ks[i]? = some x) : K5 ps (ks.take (i + 1)) = if Kp ps x > Kp ps (K5 ps (ks.take i)) then x else K5 ps (ks.take i) := by
 unfold K5;rw [List.take_add_one, hx, List.foldl_append]
 rfl
theorem Khk (ps ks : List Int) (x : Int) : K5 ps (ks ++ [x]) = if Kp ps x > Kp ps (K5 ps ks) then x else K5 ps ks := by
 unfold K5;rw [List.foldl_append]
 rfl
theorem KiW (ps : List Int) : ∀ ks : List Int, K5 ps ks = 0 \/ K5 ps ks ∈ ks := by
 intro ks;obtain ⟨r, rfl⟩ : ∃ r : List Int, ks = r.reverse := ⟨ks.reverse, by simp⟩
 induction r with
 | nil => exact .inl rfl
 | cons x r ih =>
  rw [List.reverse_cons, Khk];split
  ·exact .inr (by simp)
  exact ih.imp id fun h => List.mem_append_left _ h
theorem KfP {ps ks : List Int} {j : Nat} {bst : Int} {f : Int -> Option Int} (hk : ∀ a, a ∈ ks ↔ ((Lit.int .i64 a).wf = true /\ f a ≠ none)) (h : K5 ps (ks.take j) = bst) : (Lit.int .i64 bst).wf = true := by
 rcases KiW ps (ks.take j) with h1 | h1
 ·rw [<- h, h1]; decide
 rw [<- h]; exact ((hk _).1 (List.mem_of_mem_take h1)).1
def Kev (ps : List Int) (b : Int) : Prop := (∀ q, Kp ps q <= Kp ps b) /\ ((b = 0 /\ ∀ q, Kp ps q = 0) \/ (Kp ps b ≠ 0 /\ ∀ q, Kp ps q = Kp ps b -> b <= q))
theorem Kdh (ps : List Int) {ks : List Int} (hs : ks.Pairwise (· <= ·)) (hk : ∀ p, p ∈ ks ↔ Kp ps p ≠ 0) : Kev ps (K5 ps ks) := by
 have key : ∀ r : List Int, r.reverse.Pairwise (· <= ·) -> (∀ p ∈ r, Kp ps p ≠ 0) -> (r = [] /\ K5 ps r.reverse = 0) \/ (K5 ps r.reverse ∈ r /\ (∀ q ∈ r, Kp ps q <= Kp ps (K5 ps r.reverse)) /\ ∀ q ∈ r, Kp ps q = Kp ps (K5 ps r.reverse) -> K5 ps r.reverse <= q) := by
  intro r
  induction r with
  | nil => exact fun _ _ => .inl ⟨rfl, rfl⟩
  | cons x r ih =>
   intro hp hv;rw [List.reverse_cons] at hp ⊢;have hp1 := (List.pairwise_append.1 hp).1;have hpx : ∀ y ∈ r, y <= x := fun y hy => (List.pairwise_append.1 hp).2.2 y (by simpa using hy) x (by simp);have hvx := hv x List.mem_cons_self;rw [Khk];rcases ih hp1 fun p h => hv p (List.mem_cons_of_mem _ h) with ⟨h1, h2⟩ | ⟨h1, h2, h3⟩
   ·subst h1;have h0 : Kp ps (K5 ps ([] : List Int).reverse) = 0 := by rw [h2]; rfl
    rw [if_pos (by omega)];exact .inr ⟨List.mem_cons_self, fun q hq => by rw [List.mem_singleton.1 hq]; exact Nat.le_refl _, fun q hq _ => by rw [List.mem_singleton.1 hq]; exact Int.le_refl _⟩
   right
   split
   ·rename_i hgt;refine ⟨List.mem_cons_self, fun q hq => ?_, fun q hq he => ?_⟩
    ·rcases List.mem_cons.1 hq with rfl | hq
     ·exact Nat.le_refl _
     have := h2 q hq; omega
    rcases List.mem_cons.1 hq with rfl | hq
    ·exact Int.le_refl _
    have := h2 q hq; omega
   rename_i hgt;refine ⟨List.mem_cons_of_mem _ h1, fun q hq => ?_, fun q hq he => ?_⟩
   ·rcases List.mem_cons.1 hq with rfl | hq
    ·omega
    exact h2 q hq
   rcases List.mem_cons.1 hq with rfl | hq
   ·exact hpx _ h1
   exact h3 q hq he
 have h := key ks.reverse (by rw [List.reverse_reverse]; exact hs) fun p hp => (hk p).1 (List.mem_reverse.1 hp);rw [List.reverse_reverse] at h;rcases h with ⟨h1, h2⟩ | ⟨h1, h2, h3⟩
 ·have hn : ∀ q, Kp ps q = 0 := fun q => by
   cases hq : Kp ps q with
   | zero => rfl
   | succ m =>
    have := (hk q).2 (by omega);rw [<- List.mem_reverse, h1] at this;exact absurd this List.not_mem_nil
  exact ⟨fun q => by rw [hn q]; exact Nat.zero_le _, .inl ⟨h2, hn⟩⟩
 refine ⟨fun q => ?_, .inr ⟨(hk _).1 (List.mem_reverse.1 h1), fun q he => ?_⟩⟩
 ·rcases Nat.eq_zero_or_pos (Kp ps q) with h0 | h0
  ·omega
  exact h2 q (List.mem_reverse.2 ((hk q).2 (by omega)))
 have h0 : Kp ps q ≠ 0 := by rw [he]; exact (hk _).1 (List.mem_reverse.1 h1)
 exact h3 q (List.mem_reverse.2 ((hk q).2 h0)) he
def Kcv (es : List En) (t : Int) (a : List Int) : Int := match a with
 | [] => 0
 | x :: _ => KX es x t
theorem Ke6 {es : List En} {t : Int} {a : List Int} {x : Int} (h : a[0]? = some x) : Kcv es t a = KX es x t := by
 cases a with
 | nil => cases h
 | cons y l => cases h; rfl
theorem Klr {es : List En} {t : Int} {a : List Int} (h : a.length = 0) : Kcv es t a = 0 := by
 cases a with
 | nil => rfl
 | cons y l => cases h
theorem Kiq {es : List En} {t x : Int} {l : List Int} (h : KX es x t ≠ 0) (hx : x ∈ l) : Kp (pvS es t l) (KX es x t) ≠ 0 := by
 unfold Kp;rw [if_neg h];have : 0 < Kbe (pvS es t l) (KX es x t) := List.countP_pos_iff.2 ⟨_, List.mem_map.2 ⟨x, hx, rfl⟩, decide_eq_true rfl⟩;omega
def Kbk (ps : List Int) (first n : Int) : Prop := (∀ q, Kp ps q <= Kp ps n) /\ ((n = 0 /\ ∀ q, Kp ps q = 0) \/ (Kp ps n ≠ 0 /\ (n = first \/ (¬ (first ≠ 0 /\ Kp ps first = Kp ps n) /\ ∀ q, Kp ps q = Kp ps n -> n <= q))))
theorem Kbk.pick {ps : List Int} {first bst : Int} (hB : Kev ps bst) (h1 : Kp ps first ≠ 0) (h2 : Kp ps first = Kp ps bst) : Kbk ps first first :=
 ⟨fun q => by rw [h2]; exact hB.1 q, .inr ⟨h1, .inl rfl⟩⟩
theorem Kbk.best {ps : List Int} {first bst : Int} (hB : Kev ps bst) (h : ¬ (first ≠ 0 /\ Kp ps first = Kp ps bst)) : Kbk ps first bst :=
 ⟨hB.1, hB.2.imp id fun h2 => ⟨h2.1, .inr ⟨h, h2.2⟩⟩⟩
section
variable {P : Program} {N : Fr} {E : Env} {w0 : Base} {L : List Pc} {o : Oper}
theorem Kc0 {x y : Operand} {t k e : TypeId} {g i n : Nat} {ob : Obj} {f : Int -> Option Int} {ps : List Int} {a : Int} (ho : o.op = .lookup t x y false) (hx : ev E x = some (.map (some g))) (hy : ev E y = some (.int .i64 a)) (T : IMap P t k e .i64 .i64) (hk : L[i]? = some (.oth g ob)) (hm : Kae P k e .i64 .i64 ob n f) (hv : VM f ps) (ha : (Lit.int .i64 a).wf = true) :
  Kl P N o E (Pm w0 L) (.int .i64 ((Kp ps a : Nat) : Int)) := by
 rw [<- hv.get a];exact KjY ho hx hy T hk hm ha
end
theorem Kjq (a0_0 : Option Addr) (a0_0n a0_0c : Nat) (a1_0 : Option Addr) (a1_0n a1_0c : Nat) (w : World) : (Instr.buildSlice 56 2 #[(0, .slice a0_0 a0_0n a0_0c), (1, .slice a1_0 a1_0n a1_0c)]).run Tryz.prog w = .ok (.slice (some ⟨w.heap.size, 0, none⟩) 2 2) (w.alloc (.cells [.slice a0_0 a0_0n a0_0c, .slice a1_0 a1_0n a1_0c].toArray 70)) := by kernel_rfl
theorem KgF (A1 : Option Addr) (c1 : Nat) (a : List Int) (A2 : Option Addr) (c2 : Nat) (b : List Int) (A0 : Option Addr) (c0 : Nat) (es : List En) (t : Int) (w : World) (hr1 : Kd w w.heap.size 1 A1 a.length (Ka (ic .u32) a)) (hr2 : Kd w w.heap.size 1 A2 b.length (Ka (ic .u32) b)) (hr : Kd w w.heap.size 5 A0 es.length (Ka En.cells es)) (hl1 : a.length <= 10000) (hl2 : b.length <= 10000) :
  Calls Tryz.prog 34 #[.slice A1 a.length c1, .slice A2 b.length c2, .agg #[.slice A0 es.length c0], .int .i64 t] w fun e w' => ∃ x : {n : Int // Kbk (pvS es t (a ++ b)) (Kcv es t a) n}, e = .returned (.int .i64 x.1) /\ Below w.heap.size w w' := by
 refine Kg Tryz.func34 rfl rfl rfl ?_ (Pm.start w);refine zSG ?_;refine TL.bx fun g6 => ?_;refine TL.as_ ?_;refine zET (zSG ?_);refine TL.mkmap rfl rfl rfl rfl (fun gm hgm => ?_);refine TL.as_ ?_;refine zET (zS (zSG (TL.rn 2 rfl ?_)));refine TL.prowS (e := 70) (size := 1) (cs := Ka sgc [(⟨A1, c1, a⟩ : Sg Int), ⟨A2, c2, b⟩]) rfl rfl rfl rfl rfl (fun w => Kjq _ _ _ _ _ _ w) (by decide) rfl (fun g20 => ?_);refine TL.pM (α := {p : Option Addr × Nat // (a ++ b).length <= p.2 /\ p.2 <= maxLen}) (fun x => .slice x.1.1 ((a ++ b).length) x.1.2) (fun x => [.row (.slice x.1.1 ((a ++ b).length) x.1.2) 42 1 ((a ++ b).length) (Ka (ic .u32) (a ++ b))]) rfl o82 (fun w1 hw => KkU (some ⟨g20, 0, none⟩) 2 A1 c1 a A2 c2 b w1 (Kz hw (k := 0) rfl) (hr1.up hw.bel) (hr2.up hw.bel) (by omega) (by omega)) ?_;rintro ⟨⟨Ac, cc⟩, hc1, hc2⟩;dsimp only [lC, lN];refine TL.v (gN Tryz.underlying70) ?_;refine TL.mv ?_;refine zET (zB ?_);have hal0 : (a ++ b).length = a.length + b.length := List.length_append;refine TC.lp (α := {y : Nat × Obj // y.1 <= (a ++ b).length /\ ∃ n f, Kae Tryz.prog 3 3 .i64 .i64 y.2 n f /\ VM f (pvS es t ((a ++ b).take y.1)) /\ n <= y.1}) [0, 3, 6, 9, 21, 22] rfl (fun y => [(23, .int .i64 ((y.1.1 : Nat) : Int))]) (fun y => Pm w [.row (.slice Ac ((a ++ b).length) cc) 42 1 ((a ++ b).length) (Ka (ic .u32) (a ++ b)), .row (.slice (some ⟨g20, 0, none⟩) 2 2) 70 1 2 (Ka sgc [(⟨A1, c1, a⟩ : Sg Int), ⟨A2, c2, b⟩]), .oth gm y.1.2, .blk g6 32 [.slice A0 es.length c0]]) (fun y => (a ++ b).length - y.1.1) (⟨(0, .map #[] 0), Nat.zero_le _, 0, fun _ => none, KhV _ _ _ _ _, VM.nil, Nat.le_refl _⟩) (fun w1 hw => hw) ?_;rintro ⟨⟨i, ob⟩, hi, n, f, hmf, hvm, hn⟩;dsimp only at hi hmf hvm hn ⊢;refine zSG ?_;refine TL.sp Km (fun q24 => ?_) (fun q24 => ?_)
 ·refine zET (zS (zc (zk (zT (zS (zB (zSG ?_)))))));refine TL.fact (p := ∃ g, Ac = some ⟨g, 0, none⟩) (fun w1 hw => Kak hw (k := 0) rfl (by omega)) ?_;rintro ⟨g_Ac, rfl⟩;have hi25 : i < (a ++ b).length := by omega
  obtain ⟨x25, hx25⟩ := Ko hi25;refine TL.w rfl (gA (i := i) Tryz.underlying70 Kbf rfl rfl rfl rfl rfl (by omega)) ?_;refine TL.w rfl (KK (v := .int .u32 x25) rfl rfl Kv (fun w1 hw => Ku (KO .u32) hw (q := 0) rfl hx25 0 _ rfl)) ?_;refine TL.as_ ?_;refine zET (zSG (TL.v (gV 3 (.agg #[.slice A0 es.length c0]) K4 KE) ?_));refine TL.rn 2 rfl ?_;refine TL.p1 rfl o81 (fun w1 hw => Ke9 A0 c0 es x25 t w1 (hr.up hw.bel)) ?_;refine TL.as_ ?_;refine zET (zSG (TL.mv ?_));refine TL.sp K1 (fun q32 => ?_) (fun q32 => ?_)
  ·refine zET (zc ?_);have hvl := KhM (pvS es t ((a ++ b).take i)) (KX es x25 t);have hpl := Kjs es t ((a ++ b).take i);have htl := List.length_take (l := a ++ b) (i := i);have hal : (a ++ b).length = a.length + b.length := List.length_append;refine zG (TL.rn 2 rfl ?_);refine TL.w rfl (Kc0 rfl rfl rfl imI (i := 2) rfl hmf hvm (KdX es x25 t)) ?_;refine TL.v (gD ((Kp (pvS es t ((a ++ b).take i)) (KX es x25 t) + 1 : Nat) : Int)) ?_;refine TL.mapset (i := 2) rfl rfl rfl rfl rfl rfl imI rfl hgm hmf (by unfold maxLen; omega) (KdX es x25 t) (KhZ (by omega)) (fun ob2 hm2 => ?_)
   try dsimp only [List.set_cons_zero, List.set_cons_succ]
   refine zE (zN (zT (zG (TL.v (gD ((i + 1 : Nat) : Int)) ?_))));refine TL.mv ?_;refine zE ?_;exact TX.rd (⟨(i + 1, ob2), by dsimp only; omega, _, _, hm2, by rw [Kf0 hx25]; exact hvm.step q32, by dsimp only; split <;> omega⟩) (by show (a ++ b).length - (i + 1) < (a ++ b).length - i; omega) (fun w1 hw => hw)
  refine zET (zd (zk (zN (zT (zG (TL.v (gD ((i + 1 : Nat) : Int)) ?_))))));refine TL.mv ?_;refine zE ?_;exact TX.rd (⟨(i + 1, ob), by dsimp only; omega, n, f, hmf, by rw [Kf0 hx25, Decidable.not_not.1 q32]; exact hvm.skip, by dsimp only; omega⟩) (by show (a ++ b).length - (i + 1) < (a ++ b).length - i; omega) (fun w1 hw => hw)
 refine zET (zS (zd (zx (zX (zX (zM (zT (zS ?_))))))));have e9 : (a ++ b).take i = a ++ b := List.take_of_length_le (by omega);rw [e9] at hvm;clear e9;refine zG (TL.as_ ?_);refine zET (zS (zSG (TL.mv ?_)));refine TL.pM _ _ rfl o84 (fun w1 hw => Kle gm w1) ?_;rintro gk;dsimp only [lC, lN];refine TL.pM _ _ rfl o83 (fun w1 hw => Kld gk gm n ob f w1 (Pc.lt (hw.at_ (k := 0) rfl) gk rfl).2 (hw.cell (k := 0) rfl 0) (hw.at_ (k := 3) rfl).1 hmf (by omega)) ?_;rintro ⟨⟨⟨Ak, ck⟩, ks⟩, ⟨hks, hkm⟩, hkl, hkc, hkd⟩;dsimp only [lC, lN];dsimp only at hks hkm hkl hkc hkd ⊢;refine TL.v (gN Tryz.underlying49) ?_;refine TL.mv ?_;refine zET (zB (TC.lp (α := {y : Nat × Int // y.1 <= ks.length /\ K5 (pvS es t (a ++ b)) (ks.take y.1) = y.2}) [0, 3, 6, 9, 40, 41] rfl (fun y => [(42, .int .i64 ((y.1.1 : Nat) : Int)), (13, .int .i64 y.1.2)]) (fun y => Pm w [.row (.slice Ak ks.length ck) 3 1 ks.length (Ka (ic .i64) ks), .blk gk 168 [.map (some gm)], .row (.slice Ac ((a ++ b).length) cc) 42 1 ((a ++ b).length) (Ka (ic .u32) (a ++ b)), .row (.slice (some ⟨g20, 0, none⟩) 2 2) 70 1 2 (Ka sgc [(⟨A1, c1, a⟩ : Sg Int), ⟨A2, c2, b⟩]), .oth gm ob, .blk g6 32 [.slice A0 es.length c0]]) (fun y => ks.length - y.1.1) (⟨(0, 0), Nat.zero_le _, rfl⟩) (fun w1 hw => hw) ?_));rintro ⟨⟨j, bst⟩, hj, hbk⟩;dsimp only at hj hbk ⊢;refine zS ?_;have hbw := KfP (ps := pvS es t (a ++ b)) hkm hbk;refine zG ?_;refine TL.sp Km (fun q43 => ?_) (fun q43 => ?_)
 ·refine zET (zS (zc (zk (zT (zS (zB (zSG ?_)))))));refine TL.fact (p := ∃ g, Ak = some ⟨g, 0, none⟩) (fun w1 hw => Kak hw (k := 0) rfl (by omega)) ?_;rintro ⟨g_Ak, rfl⟩;have hi44 : j < ks.length := by omega
  obtain ⟨x44, hx44⟩ := Ko hi44;refine TL.w rfl (gA (i := j) Tryz.underlying49 KN rfl rfl rfl rfl rfl (by omega)) ?_;refine TL.w rfl (KK (v := .int .i64 x44) rfl rfl Kb (fun w1 hw => Ku (KO .i64) hw (q := 0) rfl hx44 0 _ rfl)) ?_;refine TL.as_ ?_;refine zET (zSG (TL.rn 2 rfl ?_));refine TL.w rfl (Kc0 rfl rfl rfl imI (i := 4) rfl hmf hvm (((hkm x44).1 (List.mem_of_getElem? hx44)).1)) ?_;refine TL.rn 2 rfl ?_;refine TL.w rfl (Kc0 rfl rfl rfl imI (i := 4) rfl hmf hvm (hbw)) ?_;refine TL.sp KP (fun q52 => ?_) (fun q52 => ?_)
  ·refine zET (zc (zG (TL.rn 2 rfl (zE (zN (zT (zG (TL.v (gD ((j + 1 : Nat) : Int)) ?_))))))));refine TL.mv ?_;refine zE ?_;exact TX.rd (⟨(j + 1, x44), by dsimp only; omega, by rw [KfX hx44, hbk]; exact if_pos (by omega)⟩) (by show ks.length - (j + 1) < ks.length - j; omega) (fun w1 hw => hw)
  refine zET (zd (zk (zN (zT (zG (TL.v (gD ((j + 1 : Nat) : Int)) ?_))))));refine TL.mv ?_;refine zE ?_;exact TX.rd (⟨(j + 1, bst), by dsimp only; omega, by rw [KfX hx44, hbk]; exact if_neg (by omega)⟩) (by show ks.length - (j + 1) < ks.length - j; omega) (fun w1 hw => hw)
 have hbk2 : K5 (pvS es t (a ++ b)) ks = bst := by rw [List.take_of_length_le (by omega)] at hbk; exact hbk
 refine zET (zS (zd (zx (zX (zX (zM (zT (zS (zSG (TL.mv ?_))))))))));refine TL.v (gN Tryz.underlying70) ?_;refine TL.sp KP (fun q57 => ?_) (fun q57 => ?_)
 ·refine zET (zc (zS (TC.quietQ (by kernel_rfl) (by kernel_rfl) (fun w hw => hw.drawn _) ?_)));refine TQ.v (gV 5 (.agg #[.slice A0 es.length c0]) K4 KE) ?_;refine TQ.w rfl (Kk rfl rfl) ?_;have hi60 : 0 < a.length := by omega
  obtain ⟨x60, hx60⟩ := Ko hi60;obtain ⟨b60, o60, hA60, hbb60, hc60⟩ := hr1.ad (by omega) (by decide);refine TQ.w rfl (gA (i := 0) Tryz.underlying70 Kbf rfl rfl rfl rfl hA60 (by omega)) ?_;refine TQ.w rfl (KK (v := .int .u32 x60) rfl rfl Kv (fun w1 hw => (hw.bel.cell hbb60).trans <| Ka4 (KO .u32) hx60 hc60 0 _ rfl)) ?_;refine TQ.w rfl (Kk rfl rfl) ?_;refine TQ.p1 (v := .int .i64 (KX es x60 t)) rfl o81 (fun w1 hw => (Ke9 A0 c0 es x60 t w1 (hr.up hw.bel)).mono fun en w2 ⟨h1, h2⟩ => ⟨h1, hw.below h2⟩) ?_;refine TQ.w rfl (KaD rfl rfl) ?_;refine TQ.fin ?_;refine zT (zS ?_);have hbw := KfP (ps := pvS es t (a ++ b)) hkm hbk;refine zG (TL.mv ?_);refine TL.sp K1 (fun q65 => ?_) (fun q65 => ?_)
  ·refine TL.rn 3 rfl (TL.gu ?_);refine TL.w rfl (Kc0 rfl rfl rfl imI (i := 4) rfl hmf hvm (KdX es x60 t)) ?_;refine TL.rn 2 rfl (TL.gu ?_);refine TL.w rfl (Kc0 rfl rfl rfl imI (i := 4) rfl hmf hvm (hbw)) ?_;refine TL.gu ?_;refine TL.sp Kab (fun q73 => ?_) (fun q73 => ?_)
   ·refine TL.pk ?_;refine zET (zc (zG (TL.rn 2 rfl (zET (zSG (TL.rn 2 rfl (zET (zr ?_))))))));have hB := Kdh (pvS es t (a ++ b)) hks (fun p => hvm.mem hkm p (Kdp _ _ _ p));rw [hbk2] at hB;exact Kc Tryz.results34 rfl (fun w1 hw => ⟨⟨KX es x60 t, by rw [(Ke6 hx60)]; exact Kbk.pick hB (Kiq q65 (List.mem_append_left _ (List.mem_of_getElem? hx60))) (by omega)⟩, rfl, hw.bel⟩)
   refine TL.pk ?_;refine zET (zd (zk (zT (zSG (TL.rn 2 rfl (zET (zr ?_)))))));have hB := Kdh (pvS es t (a ++ b)) hks (fun p => hvm.mem hkm p (Kdp _ _ _ p));rw [hbk2] at hB;exact Kc Tryz.results34 rfl (fun w1 hw => ⟨⟨bst, by rw [(Ke6 hx60)]; exact Kbk.best hB (by intro hh; exact q73 (by rw [hh.2]))⟩, rfl, hw.bel⟩)
  refine TL.rn 9 rfl (zET (zd (zk (zT (zSG (TL.rn 2 rfl (zET (zr ?_))))))));have hB := Kdh (pvS es t (a ++ b)) hks (fun p => hvm.mem hkm p (Kdp _ _ _ p));rw [hbk2] at hB;exact Kc Tryz.results34 rfl (fun w1 hw => ⟨⟨bst, by rw [(Ke6 hx60)]; exact Kbk.best hB (by intro hh; exact q65 hh.1)⟩, rfl, hw.bel⟩)
 refine zET (zd (zk (zT (zSG (TL.rn 2 rfl (zET (zr ?_)))))));have hB := Kdh (pvS es t (a ++ b)) hks (fun p => hvm.mem hkm p (Kdp _ _ _ p));rw [hbk2] at hB;exact Kc Tryz.results34 rfl (fun w1 hw => ⟨⟨bst, by rw [(Klr (by omega))]; exact Kbk.best hB (by intro hh; exact hh.1 rfl)⟩, rfl, hw.bel⟩)
set_option maxRecDepth 20000
theorem Kla : Kaz KaF 3 [1, 2, 3, 4] = [⟨1, 3, 5, 7⟩] := by decide +kernel
theorem Ki5 : K0 KaF 3 [1, 0, 3] = [5, 0, 7] := by decide +kernel
theorem KhC (n : Int) : Kp [5, 7, 7] n = if n = 5 then 1 else if n = 7 then 2 else 0 := by
 by_cases h0 : n = 0
 ·subst h0; rfl
 by_cases h5 : n = 5
 ·subst h5; rfl
 by_cases h7 : n = 7
 ·subst h7; rfl
 simp [Kp, Kbe, h0, h5, h7, Ne.symm h5, Ne.symm h7]
theorem KcO (n : Int) : Kp [5, 7] n = if n = 5 then 1 else if n = 7 then 1 else 0 := by
 by_cases h0 : n = 0
 ·subst h0; rfl
 by_cases h5 : n = 5
 ·subst h5; rfl
 by_cases h7 : n = 7
 ·subst h7; rfl
 simp [Kp, Kbe, h0, h5, h7, Ne.symm h5, Ne.symm h7]
theorem KiM {n : Int} (h : Kbk (pvS KaF 3 ([1] ++ [3, 4])) (Kcv KaF 3 [1]) n) : n = 7 := by
 rw [show pvS KaF 3 ([1] ++ [3, 4]) = [5, 7, 7] by decide +kernel] at h;have h1 := h.1 7;rw [KhC, KhC] at h1;by_cases e7 : n = 7
 ·exact e7
 by_cases e5 : n = 5
 ·subst e5; simp at h1
 simp [e5, e7] at h1
theorem Kjz {n : Int} (h : Kbk (pvS KaF 3 ([1] ++ [3])) (Kcv KaF 3 [1]) n) : n = 5 := by
 rw [show pvS KaF 3 ([1] ++ [3]) = [5, 7] by decide +kernel, show Kcv KaF 3 [1] = 5 by decide +kernel] at h;obtain ⟨h1, ⟨h2, h3⟩ | ⟨h2, h3 | ⟨h3, h4⟩⟩⟩ := h
 ·have := h3 5; simp [KcO] at this
 ·exact h3
 have h5 := h1 5;rw [KcO, KcO] at h5;rw [KcO, KcO] at h3;by_cases e5 : n = 5
 ·exact e5
 by_cases e7 : n = 7
 ·subst e7; simp at h3
 simp [e5, e7] at h5
theorem KlW (a0_0 : Int) (a1_0 : Int) (a2_0 : Int) (a3_0 : Int) (w : World) : (Instr.buildSlice 70 4 #[(0, .int .u32 a0_0), (1, .int .u32 a1_0), (2, .int .u32 a2_0), (3, .int .u32 a3_0)]).run Tryz.prog w = .ok (.slice (some ⟨w.heap.size, 0, none⟩) 4 4) (w.alloc (.cells [.int .u32 a0_0, .int .u32 a1_0, .int .u32 a2_0, .int .u32 a3_0].toArray 42)) := by kernel_rfl
theorem KiJ (a0_0 : Int) (a1_0 : Int) (a2_0 : Int) (w : World) : (Instr.buildSlice 70 3 #[(0, .int .u32 a0_0), (1, .int .u32 a1_0), (2, .int .u32 a2_0)]).run Tryz.prog w = .ok (.slice (some ⟨w.heap.size, 0, none⟩) 3 3) (w.alloc (.cells [.int .u32 a0_0, .int .u32 a1_0, .int .u32 a2_0].toArray 42)) := by kernel_rfl
theorem Kij (a0_0 : Int) (a1_0 : Int) (a2_0 : Int) (a3_0 : Int) (w : World) : (Instr.build 44 #[(0, .int .u32 a0_0), (1, .int .u32 a1_0), (2, .int .i64 a2_0), (3, .int .i64 a3_0)]).run Tryz.prog w = .ok (.agg #[.int .u32 a0_0, .int .u32 a1_0, .int .i64 a2_0, .int .i64 a3_0]) w := by kernel_rfl
theorem KlS (a0_0 : Int) (a1_0 : Int) (w : World) : (Instr.buildSlice 70 2 #[(0, .int .u32 a0_0), (1, .int .u32 a1_0)]).run Tryz.prog w = .ok (.slice (some ⟨w.heap.size, 0, none⟩) 2 2) (w.alloc (.cells [.int .u32 a0_0, .int .u32 a1_0].toArray 42)) := by kernel_rfl
theorem Kkt  (w : World) :
  Calls Tryz.prog 7 #[] w fun e w' => e = .returned (.bool true) /\ Below w.heap.size w w' := by
 refine Kg Tryz.func7 rfl rfl rfl ?_ (Pm.start w);refine zSG (TL.as_ ?_);refine zET (zSG ?_);refine TL.prowS (e := 42) (size := 1) (cs := Ka (ic .u32) [1, 2, 3, 4]) rfl rfl rfl rfl rfl (fun w => KlW _ _ _ _ w) (by decide) rfl (fun g3 => ?_);refine TL.pM _ _ rfl o31 (fun w1 hw => Kdk w1) ?_;rintro go4;dsimp only [lC, lN];refine TL.pM (α := {p : Option Addr × Nat // 1 <= p.2 /\ p.2 <= maxLen}) (fun x => .slice x.1.1 1 x.1.2) (fun x => [.row (.slice x.1.1 1 x.1.2) 44 4 1 (Ka Bd.cells ([(⟨1, 3, 5, 7⟩ : Bd)]))]) rfl o30 (fun w1 hw => (by have h9 := Khe (some ⟨g3, 0, none⟩) 4 ([1, 2, 3, 4]) (some ⟨go4, 0, none⟩) 4 KaF 3 w1 (Kz hw (k := 1) rfl) (by decide) (Kz hw (k := 0) rfl); rw [Kla] at h9; exact h9)) ?_;rintro ⟨⟨R5, rc5⟩, hR51, hR52⟩;dsimp only [lC, lN];refine TL.as_ ?_;refine zET (zSG ?_);refine TL.prowS (e := 42) (size := 1) (cs := Ka (ic .u32) [1, 0, 3]) rfl rfl rfl rfl rfl (fun w => KiJ _ _ _ w) (by decide) rfl (fun g6 => ?_);refine TL.pM _ _ rfl o31 (fun w1 hw => Kdk w1) ?_;rintro go7;dsimp only [lC, lN];refine TL.pM (α := {p : Option Addr × Nat // 3 <= p.2 /\ p.2 <= maxLen}) (fun x => .slice x.1.1 3 x.1.2) (fun x => [.row (.slice x.1.1 3 x.1.2) 3 1 3 (Ka (ic .i64) ([5, 0, 7]))]) rfl o32 (fun w1 hw => (by have h9 := Kfz (some ⟨g6, 0, none⟩) 3 ([1, 0, 3]) (some ⟨go7, 0, none⟩) 4 KaF 3 w1 (Kz hw (k := 1) rfl) (by decide) (Kz hw (k := 0) rfl); rw [Ki5] at h9; exact h9)) ?_;rintro ⟨⟨R8, rc8⟩, hR81, hR82⟩;dsimp only [lC, lN];refine TL.as_ ?_;refine zET (zSG (TL.mv ?_));refine TL.v (gN Tryz.underlying34) ?_;refine TL.w rfl (Kn rfl rfl rfl (fun w => Kdq rfl w)) ?_;refine TL.rn 2 rfl (TL.gu ?_);refine TL.fact (p := ∃ g, R5 = some ⟨g, 0, none⟩) (fun w1 hw => Kak hw (k := 3) rfl (by omega)) ?_;rintro ⟨g_R5, rfl⟩;have hi14 : 0 < ([(⟨1, 3, 5, 7⟩ : Bd)]).length := by simp
 obtain ⟨x14, hx14⟩ := Ko hi14;have he14 : x14 = ⟨1, 3, 5, 7⟩ := by simpa using hx14.symm
 refine TL.w rfl (gA (i := 0) Tryz.underlying34 Kx rfl rfl rfl rfl rfl (by omega)) ?_;refine TL.gu ?_;refine TL.w rfl (KH (off := 0 + 0 * 4) rfl rfl K9 Kx (KC.len x14) (fun w1 hw j9 u9 h9 => Ku KC hw (q := 3) rfl hx14 j9 u9 h9)) ?_;refine TL.gu ?_;refine TL.w rfl (Kj (v := .agg #[.int .u32 1, .int .u32 3, .int .i64 5, .int .i64 7]) rfl rfl (fun w => Kij _ _ _ _ w)) ?_;refine TL.gu ?_;refine TL.w rfl (Ka5 (v := .bool true) rfl rfl rfl (fun w => KjK (y := ⟨1, 3, 5, 7⟩) (by rw [he14]; rfl) _ _ w)) ?_;refine TL.rn 3 rfl (TL.gu ?_);refine TL.prowS (e := 3) (size := 1) (cs := Ka (ic .i64) [5, 0, 7]) rfl rfl rfl rfl rfl (fun w => Kdw _ _ _ w) (by decide) rfl (fun g21 => ?_);refine TL.gu ?_;refine TL.p1 (r := .bool true) rfl o33 (fun w1 hw => (by have h9 := Kku R8 rc8 ([5, 0, 7]) (some ⟨g21, 0, none⟩) 3 ([5, 0, 7]) w1 (Kz hw (k := 1) rfl) (by decide) (Kz hw (k := 0) rfl) (by decide); rw [show decide (([5, 0, 7] : List Int) = [5, 0, 7]) = true from rfl] at h9; exact h9)) ?_;refine TL.rn 2 rfl (TL.gu ?_);refine TL.prowS (e := 42) (size := 1) (cs := Ka (ic .u32) [1]) rfl rfl rfl rfl rfl (fun w => Ka7 _ w) (by decide) rfl (fun g25 => ?_);refine TL.gu ?_;refine TL.prowS (e := 42) (size := 1) (cs := Ka (ic .u32) [3, 4]) rfl rfl rfl rfl rfl (fun w => KlS _ _ w) (by decide) rfl (fun g26 => ?_);refine TL.gu ?_;refine TL.pM _ _ rfl o31 (fun w1 hw => Kdk w1) ?_;rintro go27;dsimp only [lC, lN];refine TL.gu ?_;refine TL.p1 (r := .int .i64 7) rfl o34 (fun w1 hw => (KgF (some ⟨g25, 0, none⟩) 1 ([1]) (some ⟨g26, 0, none⟩) 2 ([3, 4]) (some ⟨go27, 0, none⟩) 4 KaF 3 w1 (Kz hw (k := 2) rfl) (Kz hw (k := 1) rfl) (Kz hw (k := 0) rfl) (by decide) (by decide)).mono fun e w2 ⟨x, h1, h2⟩ => ⟨by rw [h1, KiM x.2], h2⟩) ?_;refine TL.gu ?_;refine TL.w rfl (Kn rfl rfl rfl (fun w => Kdq rfl w)) ?_;refine TL.rn 2 rfl (TL.gu ?_);refine TL.prowS (e := 42) (size := 1) (cs := Ka (ic .u32) [1]) rfl rfl rfl rfl rfl (fun w => Ka7 _ w) (by decide) rfl (fun g32 => ?_);refine TL.gu ?_;refine TL.prowS (e := 42) (size := 1) (cs := Ka (ic .u32) [3]) rfl rfl rfl rfl rfl (fun w => Ka7 _ w) (by decide) rfl (fun g33 => ?_);refine TL.gu ?_;refine TL.pM _ _ rfl o31 (fun w1 hw => Kdk w1) ?_;rintro go34;dsimp only [lC, lN];refine TL.gu ?_;refine TL.p1 (r := .int .i64 5) rfl o34 (fun w1 hw => (KgF (some ⟨g32, 0, none⟩) 1 ([1]) (some ⟨g33, 0, none⟩) 1 ([3]) (some ⟨go34, 0, none⟩) 4 KaF 3 w1 (Kz hw (k := 2) rfl) (Kz hw (k := 1) rfl) (Kz hw (k := 0) rfl) (by decide) (by decide)).mono fun e w2 ⟨x, h1, h2⟩ => ⟨by rw [h1, Kjz x.2], h2⟩) ?_;refine TL.gu ?_;refine TL.w rfl (Kn rfl rfl rfl (fun w => Kdq rfl w)) ?_;refine TL.rn 2 rfl (zET (zr ?_));exact Kc Tryz.results7 rfl (fun w1 hw => ⟨rfl, hw.bel⟩)
set_option maxRecDepth 20000
theorem KbD (cb : Nat) : Kd2 cb (fun w => Cod w cb) := fun w1 w2 h hs => h.keep fun b hb => hs b (by omega)
theorem Kbl {w : World} {cb : Nat} (h : Cod w cb) : KdM w cb := by
 obtain ⟨A, m, c, l, k, hb, _⟩ := h;exact ⟨_, hb, rfl⟩
theorem Keo (cb : Nat) (w : World) (n : Int) (h : Cod w cb) :
  Calls Tryz.prog 37 #[.pointer (some ⟨cb, 0, none⟩), .int .i64 n] w fun e w' => ∃ x : {x : Nat // x <= 65535 /\ (1 <= n -> (x : Int) < n)}, e = .returned (.int .i64 (x.1 : Int)) /\ Codr (fun w => Cod w cb) cb w [] w' :=
 (Ki0 cb w n h).mono fun e w' ⟨x, he, h0, h1, h2, hc, hg, _⟩ => by
  obtain ⟨k, rfl⟩ := Int.eq_ofNat_of_zero_le h0;exact ⟨⟨k, by omega, h2⟩, he, hc, hg, Kbl hc, (fun q hq => absurd hq List.not_mem_nil), List.Pairwise.nil⟩
theorem KlP {w w1 : World} {cb : Nat} {p : Addr} (hg : w.grownBy w1 (some cb)) (hp : p.block ≠ cb) (hl : p.block < w.heap.size) : w1.cell? p = w.cell? p :=
 World.cell?_of_block (hg.block _ hl fun e => hp (by injection e))
theorem KaQ {w0 : Base} {L : List Pc} {w : World} {q g n cc i : Nat} {e : TypeId} {k : IntKind} {l : List Int} {x : Int} (h : Pm w0 L w) (hk : L[q]? = some (.row (.slice (some ⟨g, 0, none⟩) n cc) e 1 n (Ka (ic k) l))) (hx : l[i]? = some x) : w.cell? ⟨g, i, none⟩ = some (.int k x) := by
 have := Ku (KO k) h hk hx 0 _ rfl;rwa [show 0 + i * 1 + 0 = i by omega] at this
theorem KfD (a0_0 : Int) (a1_0 : Int) (a2_0 : Int) (a3_0 : Int) (a4_0 : Int) (a5_0 : Int) (a6_0 : Int) (a7_0 : Int) (w : World) : (Instr.buildSlice 49 8 #[(0, .int .i64 a0_0), (1, .int .i64 a1_0), (2, .int .i64 a2_0), (3, .int .i64 a3_0), (4, .int .i64 a4_0), (5, .int .i64 a5_0), (6, .int .i64 a6_0), (7, .int .i64 a7_0)]).run Tryz.prog w = .ok (.slice (some ⟨w.heap.size, 0, none⟩) 8 8) (w.alloc (.cells [.int .i64 a0_0, .int .i64 a1_0, .int .i64 a2_0, .int .i64 a3_0, .int .i64 a4_0, .int .i64 a5_0, .int .i64 a6_0, .int .i64 a7_0].toArray 3)) := by kernel_rfl
theorem Kj2 (A : Option Addr) (n c : Nat) (l : List Int) (w : World) (hb : Byt w w.heap.size A n l) (hc : n <= c) (hn : (n : Int) <= 9223372036854775807) : Calls Tryz.prog 8 #[.slice A n c] w fun e w' => e = .returned (.pointer (some ⟨w.heap.size, 0, none⟩)) /\ Cod w' w.heap.size /\ Below w.heap.size w w' := by
 refine Kg (I := fun w1 => w1 = w) Tryz.func8 rfl rfl rfl ?_ rfl;refine zSG (TL.as_ ?_);refine zET (zSG (TL.mv ?_));refine TL.pL (α := Unit) (r := fun _ => .pointer (some ⟨w.heap.size, 0, none⟩)) (I' := fun _ w2 => Cod w2 w.heap.size /\ Below w.heap.size w w2) rfl o35 (fun w1 hw => by cases hw; exact (Kk4 A n c l w 400 hb hc (by omega) (by decide) (by decide)).mono fun e w2 ⟨h1, h2, h3, _⟩ => ⟨(), h1, h2, h3⟩) (fun _ => ?_);refine TL.as_ ?_;refine zET (zr ?_);exact Kc Tryz.results8 rfl (fun w1 hw => ⟨rfl, hw.1, hw.2⟩)
theorem KaP (cb : Nat) (w : World) (hC : Cod w cb) (g c : Nat) (tab : List Int) (hgc : g ≠ cb) (hgl : g < w.heap.size) (h0 : 0 < tab.length) (hcell : ∀ (i : Nat) (v : Int), tab[i]? = some v -> w.cell? ⟨g, i, none⟩ = some (.int .i64 v)) :
  Calls Tryz.prog 27 #[.pointer (some ⟨cb, 0, none⟩), .slice (some ⟨g, 0, none⟩) tab.length c] w fun e w' => ∃ x : {v : Int // v ∈ tab}, e = .returned (.int .i64 x.1) /\ Codr (fun w => Cod w cb) cb w ([]) w' := by
 refine Kg (I := Pm ⟨w, cb⟩ (.abs cb (fun w => Cod w cb) :: Kr cb w)) Tryz.func27 rfl rfl rfl ?_ (Pm.codes hC (Kbl hC) (KbD cb));refine zSG (TL.as_ ?_);refine zET (zSG (TL.rn 3 rfl (TL.v (gN Tryz.underlying49) ?_)));refine TL.pC (k := 0) _ _ rfl o37 rfl (fun w1 hw hC1 => Keo cb w1 (tab.length : Nat) hC1) ?_;rintro ⟨x, hx1, hx2⟩;dsimp only [lC, lN];refine TL.w rfl (KV (v := .pointer (some ⟨g, x, none⟩)) rfl rfl rfl (fun w => KiO Tryz.underlying49 KN g _ _ x (by omega) rfl w)) ?_;obtain ⟨v, hv, hvt⟩ : ∃ v, tab[x]? = some v /\ v ∈ tab := ⟨_, List.getElem?_eq_getElem (by omega), List.getElem_mem _⟩;refine TL.w rfl (KK (v := .int .i64 v) rfl rfl Kb (fun w1 hw => (KlP (hw.kept (fun q hq => by simp [hq])) (by show g ≠ cb; exact hgc) (by show g < _; exact hgl)).trans (hcell x v hv))) ?_;refine TL.as_ ?_;refine zET (zr ?_);exact Kc Tryz.results27 rfl (fun w1 hw => ⟨⟨v, hvt⟩, rfl, Pm.codr [] (hw) rfl⟩)
theorem Kd3 (cb : Nat) (w : World) (hC : Cod w cb) :
  Calls Tryz.prog 52 #[.pointer (some ⟨cb, 0, none⟩)] w fun e w' => ∃ x : {a : Int // 167772161 <= a /\ a <= 167772173}, e = .returned (.int .u32 x.1) /\ Codr (fun w => Cod w cb) cb w ([]) w' := by
 refine Kg (I := Pm ⟨w, cb⟩ (.abs cb (fun w => Cod w cb) :: Kr cb w)) Tryz.func52 rfl rfl rfl ?_ (Pm.codes hC (Kbl hC) (KbD cb));refine zSG (TL.as_ ?_);refine zET (zSG (TL.mv ?_));refine TL.prowS (e := 3) (size := 1) (cs := Ka (ic .i64) [1, 2, 5, 6, 9, 10, 12, 13]) rfl rfl rfl rfl rfl (fun w => KfD _ _ _ _ _ _ _ _ w) (by decide) rfl (fun g4 => ?_);refine TL.pC (k := 1) _ _ rfl o27 rfl (fun w1 hw hC1 => KaP cb w1 hC1 g4 8 ([1, 2, 5, 6, 9, 10, 12, 13]) (hw.neq (i := 0) (j := 1) rfl rfl (by decide) g4 rfl <| congrArg some ·.symm) (Pc.lt (hw.at_ (k := 0) rfl) g4 rfl).2 (by show 0 < ([1, 2, 5, 6, 9, 10, 12, 13] : List Int).length; simp) (fun i v hi => KaQ hw (q := 0) rfl hi)) ?_;rintro ⟨v, hv⟩;dsimp only [lC, lN];have hvb : 1 <= v /\ v <= 13 := by simp only [List.mem_cons, List.not_mem_nil, or_false] at hv; omega
 refine TL.v (gD (167772160 + v)) ?_;refine TL.w rfl (Kay rfl rfl (fun w => Kbh (k := .i64) Tryz.underlying42 Tryz.underlying3 (by simp only [IntKind.wrap_u32]; omega) w)) ?_;refine TL.as_ ?_;refine zET (zr ?_);exact Kc Tryz.results52 rfl (fun w1 hw => ⟨⟨167772160 + v, by omega⟩, rfl, Pm.codr [] (hw.sel (.cons _ (.cons_cons _ (List.Sublist.refl _)))) rfl⟩)
theorem Kba (cb : Nat) (w : World) (hC : Cod w cb) (n : Nat) (hn : n <= 1000) :
  Calls Tryz.prog 10 #[.pointer (some ⟨cb, 0, none⟩), .int .i64 ((n : Nat) : Int)] w fun e w' => ∃ x : Bool, e = .returned (.bool x) /\ Codr (fun w => Cod w cb) cb w ([]) w' := by
 refine Kg (I := Pm ⟨w, cb⟩ (.abs cb (fun w => Cod w cb) :: Kr cb w)) Tryz.func10 rfl rfl rfl ?_ (Pm.codes hC (Kbl hC) (KbD cb));refine zSG (TL.as_ ?_);refine zET (zSG (TL.rn 2 rfl ?_));refine TL.pC (k := 0) _ _ rfl o37 rfl (fun w1 hw hC1 => Keo cb w1 ((n : Nat) : Int) hC1) ?_;rintro ⟨x, hx1, hx2⟩;dsimp only [lC, lN];refine TL.mv ?_;refine TL.w rfl (Kn rfl rfl rfl (fun w => K2 (r := (n : Int) - 1) (by simp only [IntKind.wrap_i64]; omega) w)) ?_;refine TL.w rfl (Kn rfl rfl rfl (fun w => Kab w)) ?_;refine TL.as_ ?_;refine zET (zr ?_);exact Kc Tryz.results10 rfl (fun w1 hw => ⟨decide (((x : Nat) : Int) = (n : Int) - 1), rfl, Pm.codr [] (hw) rfl⟩)
set_option linter.unusedVariables false
theorem KlM : Kh Tryz.prog 37 := ⟨_, Tryz.func37, by decide, rfl⟩
theorem TL.nx {N : Fr} {Q : Exit -> Act -> World -> Prop} {E : Env} {ops : Array Oper} {l : List Oper} {o : Oper} {w0 : Base} {L : List Pc} {d cb : Nat} {n : Int} (k : Nat) (h0 : Kbt N E o = some (d, 37, [.pointer (some ⟨cb, 0, none⟩), .int .i64 n]))
    (hk : L[k]? = some (.abs cb fun w => Cod w cb)) (h : ∀ q : Nat, q <= 65535 -> (1 <= n -> (q : Int) < n) -> TL Tryz.prog N ops Q l ((d, .int .i64 ((q : Nat) : Int)) :: E) (Pm w0 L)) : TL Tryz.prog N ops Q (o :: l) E (Pm w0 L) :=
  TL.pC (α := {q : Nat // q <= 65535 /\ (1 <= n -> (q : Int) < n)}) (fun q => .int .i64 ((q.1 : Nat) : Int)) (fun _ => []) h0 KlM hk (fun w1 hw hC1 => Keo cb w1 n hC1) (fun ⟨q, h1, h2⟩ => h q h1 h2)
set_option maxRecDepth 20000
def En.Ok (e : En) : Prop := 0 <= e.addr /\ e.addr <= 4294967295
def Kb1 (n : Int) : Int := IntKind.i64.wrap (1 * 2 ^ (32 - n).toNat)
def Ka6 (a n : Int) : Bool := decide (0 <= n) && decide (n <= 32) && decide (a % Kb1 n = 0)
def Kam (e : En) : Bool := Ka6 e.addr e.len && decide (1 <= e.prov) && decide (e.prov <= 2147483647) && decide (0 <= e.frm) && decide (e.frm < e.to_) && decide (e.to_ <= 1125899906842624)
theorem KkS (n : Int) (h0 : 0 <= n := by omega) (h1 : n <= 32 := by omega) : 0 < Kb1 n := by
 have key : ∀ k : Fin 33, 0 < IntKind.i64.wrap (1 * 2 ^ k.val) := by decide
 have hk : (32 - n).toNat < 33 := by omega
 exact key ⟨(32 - n).toNat, hk⟩
theorem Kj6 (n : Int) (h0 : 0 <= n) (h1 : n <= 32) (w : World) :
  Calls Tryz.prog 204 #[.int .i64 n] w fun e w' => e = .returned (.int .i64 (Kb1 n)) /\ w' = w := by
 refine Kg (I := fun w1 => w1 = w) Tryz.func204 rfl rfl rfl ?_ rfl;refine zSG (TL.as_ ?_);refine zET (zSG (TL.mv ?_));refine TL.w rfl (Kn rfl rfl rfl (fun w => K2 (r := 32 - n) (by simp only [IntKind.wrap_i64]; omega) w)) ?_;refine TL.w rfl (Kn (v := .int .i64 (Kb1 n)) rfl rfl rfl (fun w => Key (2 ^ (32 - n).toNat) (by omega) (by simp only [IntKind.bits]; omega) rfl w)) ?_;refine TL.as_ ?_;refine zET (zr ?_);exact Kc Tryz.results204 rfl (fun w1 hw => ⟨rfl, hw⟩)
theorem KgX (x y : Int) (w : World) :
  Calls Tryz.prog 135 #[.int .i64 x, .int .i64 y] w fun e w' => e = .returned (.int .i64 (Ke x y)) /\ w' = w := by
 refine Kg (I := fun w1 => w1 = w) Tryz.func135 rfl rfl rfl ?_ rfl;refine zSG (TL.as_ ?_);refine zET (zS (zSG (TL.rn 2 rfl ?_)));refine TL.sp Km (fun q7 => ?_) (fun q7 => ?_)
 ·refine zET (zc (zSG (TL.as_ ?_)));refine zET (zr (zR ?_));have hE : (Ke x y) = -1 := (by simp [Ke, q7]; try omega);exact Kc Tryz.results135 rfl (fun w1 hw => ⟨by rw [hE]; try rfl, hw⟩)
 refine zET (zd (zk (zT (zS (zSG (TL.rn 2 rfl ?_))))));refine TL.sp KP (fun q10 => ?_) (fun q10 => ?_)
 ·refine zET (zc (zSG (TL.as_ ?_)));refine zET (zr (zR ?_));have hE : (Ke x y) = 1 := (by simp [Ke, q7, q10]; try omega);exact Kc Tryz.results135 rfl (fun w1 hw => ⟨by rw [hE]; try rfl, hw⟩)
 refine zET (zd (zk (zT (zSG (TL.as_ ?_)))));refine zET (zr ?_);have hE : (Ke x y) = 0 := (by simp [Ke, q7, q10]; try omega);exact Kc Tryz.results135 rfl (fun w1 hw => ⟨by rw [hE]; try rfl, hw⟩)
theorem Kln (a n : Int) (har : 0 <= a /\ a <= 4294967295) (w : World) :
  Calls Tryz.prog 134 #[.agg #[.int .u32 a, .int .i64 n]] w fun e w' => e = .returned (.bool (Ka6 a n)) /\ Below w.heap.size w w' := by
 refine Kg Tryz.func134 rfl rfl rfl ?_ (Pm.start w);refine zSG ?_;refine TL.bx fun g1 => ?_;refine TL.as_ ?_;refine zET (zS (TC.quietQ (by kernel_rfl) (by kernel_rfl) (fun w hw => hw.drawn _) ?_));refine TQ.v (gF KaS) ?_;refine TQ.v (gL 0 Kb) ?_;refine TQ.sp Ka1 (fun q5 => ?_) (fun q5 => ?_)
 ·refine TQ.w rfl (Kk rfl rfl) ?_;refine TQ.ov (gF KaS) ?_;refine TQ.ov (gL 0 Kb) ?_;refine TQ.on rfl rfl rfl ?_;refine TQ.sp Ka8 (fun q9 => ?_) (fun q9 => ?_)
  ·refine TQ.rn 2 rfl (TQ.ov (gF KbQ) ?_);refine TQ.ov (gL 0 Kv) ?_;refine TQ.on rfl rfl rfl ?_;refine TQ.w rfl (Kay rfl rfl (fun w => Kbh (k := .u32) Tryz.underlying3 Tryz.underlying42 (by simp only [IntKind.wrap_i64]; omega) w)) ?_;refine TQ.ov (gF KaS) ?_;refine TQ.ov (gL 0 Kb) ?_;refine TQ.on rfl rfl rfl ?_;refine TQ.p1 (v := .int .i64 (Kb1 n)) rfl Kly (fun w1 hw => (Kcw (Kj6 n (by omega) (by omega) w1)).mono fun en w2 ⟨h1, h2⟩ => ⟨h1, hw.below h2⟩) ?_;refine TQ.on rfl rfl rfl ?_;refine TQ.w rfl (Kn rfl rfl rfl (fun w => KfS (m := a) (n := Kb1 n) (by omega) (by have := KkS n; omega) w)) ?_;refine TQ.on rfl rfl rfl ?_;refine TQ.sp Kab (fun q19 => ?_) (fun q19 => ?_)
   ·refine TQ.rn 2 rfl ?_;refine TQ.fin ?_;refine zT (zr ?_);have hE : (Ka6 a n) = true := (by simp [Ka6, q5, q9, q19]; try omega);exact Kc Tryz.results134 rfl (fun w1 hw => ⟨by rw [hE]; try rfl, hw.bel⟩)
   refine TQ.rn 2 rfl ?_;refine TQ.fin ?_;refine zT (zr ?_);have hE : (Ka6 a n) = false := (by simp [Ka6, q5, q9, q19]; try omega);exact Kc Tryz.results134 rfl (fun w1 hw => ⟨by rw [hE]; try rfl, hw.bel⟩)
  refine TQ.rn 12 rfl ?_;refine TQ.fin ?_;refine zT (zr ?_);have hE : (Ka6 a n) = false := (by simp [Ka6, q5, q9]; try omega);exact Kc Tryz.results134 rfl (fun w1 hw => ⟨by rw [hE]; try rfl, hw.bel⟩)
 refine TQ.rn 16 rfl ?_;refine TQ.fin ?_;refine zT (zr ?_);have hE : (Ka6 a n) = false := (by simp [Ka6, q5]; try omega);exact Kc Tryz.results134 rfl (fun w1 hw => ⟨by rw [hE]; try rfl, hw.bel⟩)
theorem KeX (a n b m : Int) (har : 0 <= a /\ a <= 4294967295) (hbr : 0 <= b /\ b <= 4294967295) (w : World) :
  Calls Tryz.prog 88 #[.agg #[.int .u32 a, .int .i64 n], .agg #[.int .u32 b, .int .i64 m]] w fun e w' => e = .returned (.int .i64 (KQ a n b m)) /\ Below w.heap.size w w' := by
 refine Kg Tryz.func88 rfl rfl rfl ?_ (Pm.start w);refine zSG ?_;refine TL.bx fun g2 => ?_;refine TL.bx fun g3 => ?_;refine TL.as_ ?_;refine zET (zS (zSG (TL.v (gF KbQ) ?_)));refine TL.v (gL 1 Kv) ?_;refine TL.v (gF KbQ) ?_;refine TL.v (gL 0 Kv) ?_;refine TL.sp K1 (fun q9 => ?_) (fun q9 => ?_)
 ·refine zET (zc (zSG (TL.v (gF KbQ) ?_)));refine TL.v (gL 1 Kv) ?_;refine TL.w rfl (Kay rfl rfl (fun w => Kbh (k := .u32) Tryz.underlying3 Tryz.underlying42 (by simp only [IntKind.wrap_i64]; omega) w)) ?_;refine TL.v (gF KbQ) ?_;refine TL.v (gL 0 Kv) ?_;refine TL.w rfl (Kay rfl rfl (fun w => Kbh (k := .u32) Tryz.underlying3 Tryz.underlying42 (by simp only [IntKind.wrap_i64]; omega) w)) ?_;refine TL.p1 (r := .int .i64 (Ke a b)) rfl KfC (fun w1 hw => Kcw (KgX a b w1)) ?_;refine TL.as_ ?_;refine zET (zr (zR ?_));have hE : (KQ a n b m) = Ke a b := (by simp [KQ, KbG, q9]; try omega);exact Kc Tryz.results88 rfl (fun w1 hw => ⟨by rw [hE]; try rfl, hw.bel⟩)
 refine zET (zd (zk (zT (zSG (TL.v (gF KaS) ?_)))));refine TL.v (gL 1 Kb) ?_;refine TL.v (gF KaS) ?_;refine TL.v (gL 0 Kb) ?_;refine TL.p1 (r := .int .i64 (Ke n m)) rfl KfC (fun w1 hw => Kcw (KgX n m w1)) ?_;refine TL.as_ ?_;refine zET (zr ?_);have hE : (KQ a n b m) = Ke n m := (by simp [KQ, KbG, q9]; try omega);exact Kc Tryz.results88 rfl (fun w1 hw => ⟨by rw [hE]; try rfl, hw.bel⟩)
theorem KfM (x : En) (hx : x.Ok) (w : World) :
  Calls Tryz.prog 87 #[.agg x.cells.toArray] w fun e w' => e = .returned (.bool (Kam x)) /\ Below w.heap.size w w' := by
 refine Kg Tryz.func87 rfl rfl rfl ?_ (Pm.start w);refine zSG ?_;refine TL.bx fun g1 => ?_;refine TL.as_ ?_;refine zET (zSG (TL.v (gF KaL) ?_));refine TL.v (gV 0 (.agg #[.int .u32 x.addr, .int .i64 x.len]) KaU KaW) ?_;refine TL.pS rfl Kl1 (fun w1 hw => Kln x.addr x.len hx w1) (fun h5 => ?_) (fun h5 => ?_)
 ·refine TL.mv ?_;refine TL.ov (gF Kcg) ?_;refine TL.ov (gL 0 Kb) ?_;refine TL.gu ?_;refine TL.sp Ka1 (fun q9 => ?_) (fun q9 => ?_)
  ·refine TL.rn 2 rfl (TL.ov (gF Kcg) ?_);refine TL.ov (gL 0 Kb) ?_;refine TL.gu ?_;refine TL.sp Ka8 (fun q14 => ?_) (fun q14 => ?_)
   ·refine TL.rn 2 rfl (TL.ov (gF KaX) ?_);refine TL.ov (gL 0 Kb) ?_;refine TL.gu ?_;refine TL.sp Ka1 (fun q19 => ?_) (fun q19 => ?_)
    ·refine TL.rn 2 rfl (TL.ov (gF KaX) ?_);refine TL.ov (gL 0 Kb) ?_;refine TL.ov (gF KaK) ?_;refine TL.ov (gL 0 Kb) ?_;refine TL.gu ?_;refine TL.sp Km (fun q26 => ?_) (fun q26 => ?_)
     ·refine TL.rn 2 rfl (TL.ov (gF KaK) ?_);refine TL.ov (gL 0 Kb) ?_;refine TL.gu ?_;refine TL.sp Ka8 (fun q31 => ?_) (fun q31 => ?_)
      ·refine TL.rn 2 rfl (zET (zr ?_));have hE : (Kam x) = true := (by simp [Kam, h5, q9, q14, q19, q26, q31]; try omega);exact Kc Tryz.results87 rfl (fun w1 hw => ⟨by rw [hE]; try rfl, hw.bel⟩)
      refine TL.rn 2 rfl (zET (zr ?_));have hE : (Kam x) = false := (by simp [Kam, h5, q9, q14, q19, q26, q31]; try omega);exact Kc Tryz.results87 rfl (fun w1 hw => ⟨by rw [hE]; try rfl, hw.bel⟩)
     refine TL.rn 7 rfl (zET (zr ?_));have hE : (Kam x) = false := (by simp [Kam, h5, q9, q14, q19, q26]; try omega);exact Kc Tryz.results87 rfl (fun w1 hw => ⟨by rw [hE]; try rfl, hw.bel⟩)
    refine TL.rn 14 rfl (zET (zr ?_));have hE : (Kam x) = false := (by simp [Kam, h5, q9, q14, q19]; try omega);exact Kc Tryz.results87 rfl (fun w1 hw => ⟨by rw [hE]; try rfl, hw.bel⟩)
   refine TL.rn 19 rfl (zET (zr ?_));have hE : (Kam x) = false := (by simp [Kam, h5, q9, q14]; try omega);exact Kc Tryz.results87 rfl (fun w1 hw => ⟨by rw [hE]; try rfl, hw.bel⟩)
  refine TL.rn 24 rfl (zET (zr ?_));have hE : (Kam x) = false := (by simp [Kam, h5, q9]; try omega);exact Kc Tryz.results87 rfl (fun w1 hw => ⟨by rw [hE]; try rfl, hw.bel⟩)
 refine TL.rn 28 rfl (zET (zr ?_));have hE : (Kam x) = false := (by simp [Kam, h5]; try omega);exact Kc Tryz.results87 rfl (fun w1 hw => ⟨by rw [hE]; try rfl, hw.bel⟩)
set_option maxRecDepth 20000
theorem KfB {es : List En} {k : Nat} {x z : En} (h : z ∈ es.take k ++ [x] ++ es.drop k) : z ∈ es \/ z = x := by
 rcases List.mem_append.1 h with h | h
 ·rcases List.mem_append.1 h with h | h
  ·exact .inl (List.mem_of_mem_take h)
  exact .inr (List.mem_singleton.1 h)
 exact .inl (List.mem_of_mem_drop h)
def Kac (a n : Int) : Int := IntKind.u32.wrap (a / 2 ^ (32 - n).toNat * 2 ^ (32 - n).toNat)
def Kdt : List Int := [8, 24, 28, 29, 30, 30, 31, 32]
def EnG (e : En) : Prop := (167772160 <= e.addr /\ e.addr < 184549376) /\ e.len ∈ Kdt /\ 1 <= e.prov /\ e.prov <= 4
theorem EnG.ok {e : En} (h : EnG e) : e.Ok := ⟨by have := h.1.1; omega, by have := h.1.2; omega⟩
theorem KlA {a n : Int} (ha : 167772161 <= a /\ a <= 167772173) (hn : n ∈ Kdt) : 167772160 <= Kac a n /\ Kac a n < 184549376 := by
 have key : ∀ k : Int, 0 < k -> k <= 16777216 -> 167772160 % k = 0 -> 167772160 <= IntKind.u32.wrap (a / k * k) /\ IntKind.u32.wrap (a / k * k) < 184549376 := fun k h0 h1 h2 => by
  have e1 : a / k * k <= a := Int.ediv_mul_le a (by omega)
  have e2 : 167772160 <= a / k * k := by
   have h3 : 167772160 / k * k = 167772160 := Int.ediv_mul_cancel (Int.dvd_of_emod_eq_zero h2);have h4 : 167772160 / k <= a / k := Int.ediv_le_ediv h0 (by omega);have h5 := Int.mul_le_mul_of_nonneg_right h4 (Int.le_of_lt h0);omega
  rw [IntKind.wrap_u32];omega
 simp only [Kdt, List.mem_cons, List.not_mem_nil, or_false] at hn;unfold Kac;rcases hn with rfl | rfl | rfl | rfl | rfl | rfl | rfl | rfl
 ·exact key 16777216 (by decide) (by decide) (by decide)
 ·exact key 256 (by decide) (by decide) (by decide)
 ·exact key 16 (by decide) (by decide) (by decide)
 ·exact key 8 (by decide) (by decide) (by decide)
 ·exact key 4 (by decide) (by decide) (by decide)
 ·exact key 4 (by decide) (by decide) (by decide)
 ·exact key 2 (by decide) (by decide) (by decide)
 exact key 1 (by decide) (by decide) (by decide)
theorem EnG.mk_ {a n f t : Int} {p : Nat} (ha : 167772161 <= a /\ a <= 167772173) (hn : n ∈ Kdt) (hp : p < 4) : EnG ⟨Kac a n, n, 1 + ((p : Nat) : Int), f, t⟩ :=
 ⟨KlA ha hn, hn, by show 1 <= 1 + (p : Int); omega, by show 1 + (p : Int) <= 4; omega⟩
theorem KcZ (a0_0 : Int) (a1_0 : Int) (a2_0 : Int) (a3_0 : Int) (a4_0 : Int) (w : World) : (Instr.buildSlice 49 5 #[(0, .int .i64 a0_0), (1, .int .i64 a1_0), (2, .int .i64 a2_0), (3, .int .i64 a3_0), (4, .int .i64 a4_0)]).run Tryz.prog w = .ok (.slice (some ⟨w.heap.size, 0, none⟩) 5 5) (w.alloc (.cells [.int .i64 a0_0, .int .i64 a1_0, .int .i64 a2_0, .int .i64 a3_0, .int .i64 a4_0].toArray 3)) := by kernel_rfl
theorem Kb2 (a0_0 : Int) (a0_1 : Int) (a1_0 : Int) (a2_0 : Int) (w : World) : (Instr.build 110 #[(0, .agg #[.int .u32 a0_0, .int .i64 a0_1]), (1, .int .i64 a1_0), (2, .int .i64 a2_0)]).run Tryz.prog w = .ok (.agg #[.int .u32 a0_0, .int .i64 a0_1, .int .i64 a1_0, .int .i64 a2_0, .int .i64 0]) w := by kernel_rfl
theorem Kgj (cb : Nat) (w : World) (hC : Cod w cb) :
  Calls Tryz.prog 39 #[.pointer (some ⟨cb, 0, none⟩)] w fun e w' => ∃ x : {y : En // EnG y}, e = .returned (.agg x.1.cells.toArray) /\ Codr (fun w => Cod w cb) cb w ([]) w' := by
 refine Kg (I := Pm ⟨w, cb⟩ (.abs cb (fun w => Cod w cb) :: Kr cb w)) Tryz.func39 rfl rfl rfl ?_ (Pm.codes hC (Kbl hC) (KbD cb));refine zSG ?_;refine TL.al Kaa fun g2 => ?_;refine zET (zSG (TL.mv ?_));refine TL.prowS (e := 3) (size := 1) (cs := Ka (ic .i64) [8, 24, 28, 29, 30, 30, 31, 32]) rfl rfl rfl rfl rfl (fun w => KfD _ _ _ _ _ _ _ _ w) (by decide) rfl (fun g7 => ?_);refine TL.pC (k := 2) _ _ rfl o27 rfl (fun w1 hw hC1 => KaP cb w1 hC1 g7 8 ([8, 24, 28, 29, 30, 30, 31, 32]) (hw.neq (i := 0) (j := 2) rfl rfl (by decide) g7 rfl <| congrArg some ·.symm) (Pc.lt (hw.at_ (k := 0) rfl) g7 rfl).2 (by show 0 < ([8, 24, 28, 29, 30, 30, 31, 32] : List Int).length; simp) (fun i v hi => KaQ hw (q := 0) rfl hi)) ?_;rintro ⟨n, hn⟩;dsimp only [lC, lN];have hn8 : 8 <= n /\ n <= 32 := by simp only [List.mem_cons, List.not_mem_nil, or_false] at hn; omega
 refine TL.as_ ?_;refine zET (zSG (TL.mv ?_));refine TL.pC (k := 2) _ _ rfl o52 rfl (fun w1 hw hC1 => Kd3 cb w1 hC1) ?_;rintro ⟨a, ha1, ha2⟩;dsimp only [lC, lN];refine TL.as_ ?_;refine zET ?_;refine TC.join (α := {y : Nat × Nat × Int // y.2.1 < 4}) (fun y => [(0, .pointer (some ⟨cb, 0, none⟩)), (2, .pointer (some ⟨g2, 0, none⟩)), (5, .pointer (some ⟨y.1.1, 0, none⟩))]) (fun y => Pm ⟨w, cb⟩ ([.blk y.1.1 110 [.int .u32 (Kac a n), .int .i64 n, .int .i64 (1 + ((y.1.2.1 : Nat) : Int)), .int .i64 y.1.2.2, .int .i64 0], .blk g2 110 [.int .u32 0, .int .i64 0, .int .i64 0, .int .i64 0, .int .i64 0], .abs cb (fun w => Cod w cb)] ++ Kr cb w)) ?_ ?_
 ·refine TC.hd 18 (Pm ⟨w, cb⟩ []) (fun w1 hw => hw.pk []) fun jS => ?_;refine TH.t 0 rfl (Kk rfl rfl) jS ?_;refine TH.t 1 rfl (Kk rfl rfl) jS ?_;refine TH.t 2 rfl (Kn rfl rfl rfl (fun w => K2 (r := 32 - n) (by simp only [IntKind.wrap_i64]; omega) w)) jS ?_;refine TH.t 3 rfl (Kn (v := .int .u32 (a / 2 ^ (32 - n).toNat)) rfl rfl rfl (fun w => KhR (2 ^ (32 - n).toNat) (by omega) (by simp only [IntKind.bits]; omega) rfl w)) jS ?_;refine TH.t 4 rfl (Kk rfl rfl) jS ?_;refine TH.t 5 rfl (Kn rfl rfl rfl (fun w => K2 (r := 32 - n) (by simp only [IntKind.wrap_i64]; omega) w)) jS ?_;refine TH.t 6 rfl (Kn (v := .int .u32 (Kac a n)) rfl rfl rfl (fun w => Key (2 ^ (32 - n).toNat) (by omega) (by simp only [IntKind.bits]; omega) rfl w)) jS ?_;refine TH.t 7 rfl (Kk rfl rfl) jS ?_;refine TH.t 8 rfl (Kj (v := .agg #[.int .u32 (Kac a n), .int .i64 n]) rfl rfl (fun w => Kda _ _ w)) jS ?_;refine TH.t 9 rfl (Kk rfl rfl) jS ?_;refine TH.t 12 rfl (Kk rfl rfl) jS ?_;refine TH.three (l1 := #[Tt,Tt,Tt,Tt,Tt,Tt,Tt,Tt,Tt,Tt,Tt,Ff,Tt,Ff,Ff,Ff,Ff,Ff]) (l2 := #[Tt,Tt,Tt,Tt,Tt,Tt,Tt,Tt,Tt,Tt,Ff,Ff,Tt,Tt,Ff,Ff,Ff,Ff]) (l3 := #[Tt,Tt,Tt,Tt,Tt,Tt,Tt,Tt,Tt,Tt,Ff,Ff,Tt,Ff,Ff,Ff,Tt,Ff]) 10 13 16 rfl rfl rfl (by kernel_rfl) rfl rfl rfl rfl rfl rfl ?_ ?_ ?_
  ·refine TL.nx 2 rfl rfl fun k21 hk211 hk212 => ?_;refine zE ?_;refine TX.he (fun w1 hw => hw.pk []) fun hS => ?_;refine TH.t 11 rfl (gD (1 + ((k21 : Nat) : Int))) hS ?_;refine TH.two' 13 16 rfl rfl (by kernel_rfl) rfl rfl ?_ ?_
   ·refine TL.prowS (e := 3) (size := 1) (cs := Ka (ic .i64) [0, 0, 0, 50, 300]) rfl rfl rfl rfl rfl (fun w => KcZ _ _ _ _ _ w) (by decide) rfl (fun g24 => ?_);refine zE ?_;refine TX.held (fun w1 hw => hw.pk []) ?_;refine TH.two' 14 16 rfl rfl (by kernel_rfl) rfl rfl ?_ ?_
    ·refine TL.pC (k := 3) _ _ rfl o27 rfl (fun w1 hw hC1 => KaP cb w1 hC1 g24 5 ([0, 0, 0, 50, 300]) (hw.neq (i := 0) (j := 3) rfl rfl (by decide) g24 rfl <| congrArg some ·.symm) (Pc.lt (hw.at_ (k := 0) rfl) g24 rfl).2 (by show 0 < ([0, 0, 0, 50, 300] : List Int).length; simp) (fun i v hi => KaQ hw (q := 0) rfl hi)) ?_;rintro ⟨v25, hv25⟩;dsimp only [lC, lN];refine zE ?_;refine TX.he (fun w1 hw => hw.pk []) fun hS => ?_;refine TH.t 15 rfl (Kj (v := .agg #[.int .u32 (Kac a n), .int .i64 n, .int .i64 (1 + ((k21 : Nat) : Int)), .int .i64 v25, .int .i64 0]) rfl rfl (fun w => Kb2 _ _ _ _ w)) hS ?_;refine TH.o 16 ?_;refine TL.al Kaa fun g5 => ?_;refine zE ?_;refine TX.held (fun w1 hw => hw.pk []) ?_;refine TH.o 17 ?_;refine TL.ps 0 Kq ?_;refine zE ?_;refine TX.held (fun w1 hw => hw.pk []) ?_;refine TH.done (by kernel_rfl) ?_;exact TX.jd (⟨(g5, k21, v25), by dsimp only; omega⟩) (fun w1 hw => hw.sel (.cons_cons _ (.cons _ (.cons _ (.cons_cons _ (.cons_cons _ (List.Sublist.refl _)))))))
    refine TL.al Kaa fun g5 => ?_;refine zE ?_;refine TX.held (fun w1 hw => hw.pk []) ?_;refine TH.o 14 ?_;refine TL.pC (k := 4) _ _ rfl o27 rfl (fun w1 hw hC1 => KaP cb w1 hC1 g24 5 ([0, 0, 0, 50, 300]) (hw.neq (i := 1) (j := 4) rfl rfl (by decide) g24 rfl <| congrArg some ·.symm) (Pc.lt (hw.at_ (k := 1) rfl) g24 rfl).2 (by show 0 < ([0, 0, 0, 50, 300] : List Int).length; simp) (fun i v hi => KaQ hw (q := 1) rfl hi)) ?_;rintro ⟨v25, hv25⟩;dsimp only [lC, lN];refine zE ?_;refine TX.he (fun w1 hw => hw.pk []) fun hS => ?_;refine TH.t 15 rfl (Kj (v := .agg #[.int .u32 (Kac a n), .int .i64 n, .int .i64 (1 + ((k21 : Nat) : Int)), .int .i64 v25, .int .i64 0]) rfl rfl (fun w => Kb2 _ _ _ _ w)) hS ?_;refine TH.o 17 ?_;refine TL.ps 0 Kq ?_;refine zE ?_;refine TX.held (fun w1 hw => hw.pk []) ?_;refine TH.done (by kernel_rfl) ?_;exact TX.jd (⟨(g5, k21, v25), by dsimp only; omega⟩) (fun w1 hw => hw.sel (.cons_cons _ (.cons _ (.cons _ (.cons_cons _ (.cons_cons _ (List.Sublist.refl _)))))))
   refine TL.al Kaa fun g5 => ?_;refine zE ?_;refine TX.held (fun w1 hw => hw.pk []) ?_;refine TH.o 13 ?_;refine TL.prowS (e := 3) (size := 1) (cs := Ka (ic .i64) [0, 0, 0, 50, 300]) rfl rfl rfl rfl rfl (fun w => KcZ _ _ _ _ _ w) (by decide) rfl (fun g24 => ?_);refine zE ?_;refine TX.held (fun w1 hw => hw.pk []) ?_;refine TH.o 14 ?_;refine TL.pC (k := 4) _ _ rfl o27 rfl (fun w1 hw hC1 => KaP cb w1 hC1 g24 5 ([0, 0, 0, 50, 300]) (hw.neq (i := 0) (j := 4) rfl rfl (by decide) g24 rfl <| congrArg some ·.symm) (Pc.lt (hw.at_ (k := 0) rfl) g24 rfl).2 (by show 0 < ([0, 0, 0, 50, 300] : List Int).length; simp) (fun i v hi => KaQ hw (q := 0) rfl hi)) ?_;rintro ⟨v25, hv25⟩;dsimp only [lC, lN];refine zE ?_;refine TX.he (fun w1 hw => hw.pk []) fun hS => ?_;refine TH.t 15 rfl (Kj (v := .agg #[.int .u32 (Kac a n), .int .i64 n, .int .i64 (1 + ((k21 : Nat) : Int)), .int .i64 v25, .int .i64 0]) rfl rfl (fun w => Kb2 _ _ _ _ w)) hS ?_;refine TH.o 17 ?_;refine TL.ps 1 Kq ?_;refine zE ?_;refine TX.held (fun w1 hw => hw.pk []) ?_;refine TH.done (by kernel_rfl) ?_;exact TX.jd (⟨(g5, k21, v25), by dsimp only; omega⟩) (fun w1 hw => hw.sel (.cons _ (.cons_cons _ (.cons _ (.cons_cons _ (.cons_cons _ (List.Sublist.refl _)))))))
  ·refine TL.prowS (e := 3) (size := 1) (cs := Ka (ic .i64) [0, 0, 0, 50, 300]) rfl rfl rfl rfl rfl (fun w => KcZ _ _ _ _ _ w) (by decide) rfl (fun g24 => ?_);refine zE ?_;refine TX.held (fun w1 hw => hw.pk []) ?_;refine TH.two' 10 16 rfl rfl (by kernel_rfl) rfl rfl ?_ ?_
   ·refine TL.nx 3 rfl rfl fun k21 hk211 hk212 => ?_;refine zE ?_;refine TX.he (fun w1 hw => hw.pk []) fun hS => ?_;refine TH.t 11 rfl (gD (1 + ((k21 : Nat) : Int))) hS ?_;refine TH.two' 14 16 rfl rfl (by kernel_rfl) rfl rfl ?_ ?_
    ·refine TL.pC (k := 3) _ _ rfl o27 rfl (fun w1 hw hC1 => KaP cb w1 hC1 g24 5 ([0, 0, 0, 50, 300]) (hw.neq (i := 0) (j := 3) rfl rfl (by decide) g24 rfl <| congrArg some ·.symm) (Pc.lt (hw.at_ (k := 0) rfl) g24 rfl).2 (by show 0 < ([0, 0, 0, 50, 300] : List Int).length; simp) (fun i v hi => KaQ hw (q := 0) rfl hi)) ?_;rintro ⟨v25, hv25⟩;dsimp only [lC, lN];refine zE ?_;refine TX.he (fun w1 hw => hw.pk []) fun hS => ?_;refine TH.t 15 rfl (Kj (v := .agg #[.int .u32 (Kac a n), .int .i64 n, .int .i64 (1 + ((k21 : Nat) : Int)), .int .i64 v25, .int .i64 0]) rfl rfl (fun w => Kb2 _ _ _ _ w)) hS ?_;refine TH.o 16 ?_;refine TL.al Kaa fun g5 => ?_;refine zE ?_;refine TX.held (fun w1 hw => hw.pk []) ?_;refine TH.o 17 ?_;refine TL.ps 0 Kq ?_;refine zE ?_;refine TX.held (fun w1 hw => hw.pk []) ?_;refine TH.done (by kernel_rfl) ?_;exact TX.jd (⟨(g5, k21, v25), by dsimp only; omega⟩) (fun w1 hw => hw.sel (.cons_cons _ (.cons _ (.cons _ (.cons_cons _ (.cons_cons _ (List.Sublist.refl _)))))))
    refine TL.al Kaa fun g5 => ?_;refine zE ?_;refine TX.held (fun w1 hw => hw.pk []) ?_;refine TH.o 14 ?_;refine TL.pC (k := 4) _ _ rfl o27 rfl (fun w1 hw hC1 => KaP cb w1 hC1 g24 5 ([0, 0, 0, 50, 300]) (hw.neq (i := 1) (j := 4) rfl rfl (by decide) g24 rfl <| congrArg some ·.symm) (Pc.lt (hw.at_ (k := 1) rfl) g24 rfl).2 (by show 0 < ([0, 0, 0, 50, 300] : List Int).length; simp) (fun i v hi => KaQ hw (q := 1) rfl hi)) ?_;rintro ⟨v25, hv25⟩;dsimp only [lC, lN];refine zE ?_;refine TX.he (fun w1 hw => hw.pk []) fun hS => ?_;refine TH.t 15 rfl (Kj (v := .agg #[.int .u32 (Kac a n), .int .i64 n, .int .i64 (1 + ((k21 : Nat) : Int)), .int .i64 v25, .int .i64 0]) rfl rfl (fun w => Kb2 _ _ _ _ w)) hS ?_;refine TH.o 17 ?_;refine TL.ps 0 Kq ?_;refine zE ?_;refine TX.held (fun w1 hw => hw.pk []) ?_;refine TH.done (by kernel_rfl) ?_;exact TX.jd (⟨(g5, k21, v25), by dsimp only; omega⟩) (fun w1 hw => hw.sel (.cons_cons _ (.cons _ (.cons _ (.cons_cons _ (.cons_cons _ (List.Sublist.refl _)))))))
   refine TL.al Kaa fun g5 => ?_;refine zE ?_;refine TX.held (fun w1 hw => hw.pk []) ?_;refine TH.o 10 ?_;refine TL.nx 4 rfl rfl fun k21 hk211 hk212 => ?_;refine zE ?_;refine TX.he (fun w1 hw => hw.pk []) fun hS => ?_;refine TH.t 11 rfl (gD (1 + ((k21 : Nat) : Int))) hS ?_;refine TH.o 14 ?_;refine TL.pC (k := 4) _ _ rfl o27 rfl (fun w1 hw hC1 => KaP cb w1 hC1 g24 5 ([0, 0, 0, 50, 300]) (hw.neq (i := 1) (j := 4) rfl rfl (by decide) g24 rfl <| congrArg some ·.symm) (Pc.lt (hw.at_ (k := 1) rfl) g24 rfl).2 (by show 0 < ([0, 0, 0, 50, 300] : List Int).length; simp) (fun i v hi => KaQ hw (q := 1) rfl hi)) ?_;rintro ⟨v25, hv25⟩;dsimp only [lC, lN];refine zE ?_;refine TX.he (fun w1 hw => hw.pk []) fun hS => ?_;refine TH.t 15 rfl (Kj (v := .agg #[.int .u32 (Kac a n), .int .i64 n, .int .i64 (1 + ((k21 : Nat) : Int)), .int .i64 v25, .int .i64 0]) rfl rfl (fun w => Kb2 _ _ _ _ w)) hS ?_;refine TH.o 17 ?_;refine TL.ps 0 Kq ?_;refine zE ?_;refine TX.held (fun w1 hw => hw.pk []) ?_;refine TH.done (by kernel_rfl) ?_;exact TX.jd (⟨(g5, k21, v25), by dsimp only; omega⟩) (fun w1 hw => hw.sel (.cons_cons _ (.cons _ (.cons _ (.cons_cons _ (.cons_cons _ (List.Sublist.refl _)))))))
  refine TL.al Kaa fun g5 => ?_;refine zE ?_;refine TX.held (fun w1 hw => hw.pk []) ?_;refine TH.two' 10 13 rfl rfl (by kernel_rfl) rfl rfl ?_ ?_
  ·refine TL.nx 3 rfl rfl fun k21 hk211 hk212 => ?_;refine zE ?_;refine TX.he (fun w1 hw => hw.pk []) fun hS => ?_;refine TH.t 11 rfl (gD (1 + ((k21 : Nat) : Int))) hS ?_;refine TH.o 13 ?_;refine TL.prowS (e := 3) (size := 1) (cs := Ka (ic .i64) [0, 0, 0, 50, 300]) rfl rfl rfl rfl rfl (fun w => KcZ _ _ _ _ _ w) (by decide) rfl (fun g24 => ?_);refine zE ?_;refine TX.held (fun w1 hw => hw.pk []) ?_;refine TH.o 14 ?_;refine TL.pC (k := 4) _ _ rfl o27 rfl (fun w1 hw hC1 => KaP cb w1 hC1 g24 5 ([0, 0, 0, 50, 300]) (hw.neq (i := 0) (j := 4) rfl rfl (by decide) g24 rfl <| congrArg some ·.symm) (Pc.lt (hw.at_ (k := 0) rfl) g24 rfl).2 (by show 0 < ([0, 0, 0, 50, 300] : List Int).length; simp) (fun i v hi => KaQ hw (q := 0) rfl hi)) ?_;rintro ⟨v25, hv25⟩;dsimp only [lC, lN];refine zE ?_;refine TX.he (fun w1 hw => hw.pk []) fun hS => ?_;refine TH.t 15 rfl (Kj (v := .agg #[.int .u32 (Kac a n), .int .i64 n, .int .i64 (1 + ((k21 : Nat) : Int)), .int .i64 v25, .int .i64 0]) rfl rfl (fun w => Kb2 _ _ _ _ w)) hS ?_;refine TH.o 17 ?_;refine TL.ps 1 Kq ?_;refine zE ?_;refine TX.held (fun w1 hw => hw.pk []) ?_;refine TH.done (by kernel_rfl) ?_;exact TX.jd (⟨(g5, k21, v25), by dsimp only; omega⟩) (fun w1 hw => hw.sel (.cons _ (.cons_cons _ (.cons _ (.cons_cons _ (.cons_cons _ (List.Sublist.refl _)))))))
  refine TL.prowS (e := 3) (size := 1) (cs := Ka (ic .i64) [0, 0, 0, 50, 300]) rfl rfl rfl rfl rfl (fun w => KcZ _ _ _ _ _ w) (by decide) rfl (fun g24 => ?_);refine zE ?_;refine TX.held (fun w1 hw => hw.pk []) ?_;refine TH.o 10 ?_;refine TL.nx 4 rfl rfl fun k21 hk211 hk212 => ?_;refine zE ?_;refine TX.he (fun w1 hw => hw.pk []) fun hS => ?_;refine TH.t 11 rfl (gD (1 + ((k21 : Nat) : Int))) hS ?_;refine TH.o 14 ?_;refine TL.pC (k := 4) _ _ rfl o27 rfl (fun w1 hw hC1 => KaP cb w1 hC1 g24 5 ([0, 0, 0, 50, 300]) (hw.neq (i := 0) (j := 4) rfl rfl (by decide) g24 rfl <| congrArg some ·.symm) (Pc.lt (hw.at_ (k := 0) rfl) g24 rfl).2 (by show 0 < ([0, 0, 0, 50, 300] : List Int).length; simp) (fun i v hi => KaQ hw (q := 0) rfl hi)) ?_;rintro ⟨v25, hv25⟩;dsimp only [lC, lN];refine zE ?_;refine TX.he (fun w1 hw => hw.pk []) fun hS => ?_;refine TH.t 15 rfl (Kj (v := .agg #[.int .u32 (Kac a n), .int .i64 n, .int .i64 (1 + ((k21 : Nat) : Int)), .int .i64 v25, .int .i64 0]) rfl rfl (fun w => Kb2 _ _ _ _ w)) hS ?_;refine TH.o 17 ?_;refine TL.ps 1 Kq ?_;refine zE ?_;refine TX.held (fun w1 hw => hw.pk []) ?_;refine TH.done (by kernel_rfl) ?_;exact TX.jd (⟨(g5, k21, v25), by dsimp only; omega⟩) (fun w1 hw => hw.sel (.cons _ (.cons_cons _ (.cons _ (.cons_cons _ (.cons_cons _ (List.Sublist.refl _)))))))
 rintro ⟨⟨g5, pv, fr⟩, hpv⟩;dsimp only at hpv ⊢;refine zS (TC.held (ls := fA 11) (fun _ => True) (by kernel_rfl) rfl rfl (fun w hw => hw.drawn _) ?_);refine TH.tk 0 rfl rfl rfl (Kk rfl rfl) (fun _ _ => trivial) ?_;refine TH.tk 1 rfl rfl rfl (gF KaX) (fun _ _ => trivial) ?_;refine TH.tk 4 rfl rfl rfl (Kk rfl rfl) (fun _ _ => trivial) ?_;refine TH.two' 2 5 rfl rfl (by kernel_rfl) rfl rfl ?_ ?_
 ·refine TL.v (gL 0 Kb) ?_;refine zE ?_;refine TX.held (fun _ _ => trivial) ?_;refine TH.tk 3 rfl rfl rfl (Kn rfl rfl rfl (fun w => Kcz (r := IntKind.i64.wrap (fr + 1)) (rfl) w)) (fun _ _ => trivial) ?_;refine TH.o 5 ?_;refine TL.nx 2 rfl rfl fun k32 hk321 hk322 => ?_;refine zE ?_;refine TX.held (fun _ _ => trivial) ?_;refine TH.tk 6 rfl rfl rfl (Kn rfl rfl rfl (fun w => Kcz (r := IntKind.i64.wrap (IntKind.i64.wrap (fr + 1) + ((k32 : Nat) : Int))) (rfl) w)) (fun _ _ => trivial) ?_;refine TH.o 7 ?_;refine TL.prowS (e := 3) (size := 1) (cs := Ka (ic .i64) [1125899906842624, 1125899906842624, 1125899906842624, IntKind.i64.wrap (IntKind.i64.wrap (fr + 1) + ((k32 : Nat) : Int))]) rfl rfl rfl rfl rfl (fun w => Kee _ _ _ _ w) (by decide) rfl (fun g34 => ?_);refine zE ?_;refine TX.held (fun _ _ => trivial) ?_;refine TH.o 8 ?_;refine TL.pC (k := 3) _ _ rfl o27 rfl (fun w1 hw hC1 => KaP cb w1 hC1 g34 4 ([1125899906842624, 1125899906842624, 1125899906842624, IntKind.i64.wrap (IntKind.i64.wrap (fr + 1) + ((k32 : Nat) : Int))]) (hw.neq (i := 0) (j := 3) rfl rfl (by decide) g34 rfl <| congrArg some ·.symm) (Pc.lt (hw.at_ (k := 0) rfl) g34 rfl).2 (by show 0 < ([1125899906842624, 1125899906842624, 1125899906842624, IntKind.i64.wrap (IntKind.i64.wrap (fr + 1) + ((k32 : Nat) : Int))] : List Int).length; simp) (fun i v hi => KaQ hw (q := 0) rfl hi)) ?_;rintro ⟨to, hto⟩;dsimp only [lC, lN];refine zE ?_;refine TX.held (fun _ _ => trivial) ?_;refine TH.tk 9 rfl rfl rfl (gF KaK) (fun _ _ => trivial) ?_;refine TH.o 10 ?_;refine TL.ps 1 KN ?_;refine zE ?_;refine TX.held (fun _ _ => trivial) ?_;refine TH.done (by kernel_rfl) ?_;refine zT (zSG (TL.v (gV 1 (.agg #[.int .u32 (Kac a n), .int .i64 n, .int .i64 (1 + ((pv : Nat) : Int)), .int .i64 fr, .int .i64 to]) K3 Kq) ?_));refine TL.ps 2 Kq ?_;refine zET (zr ?_);exact Kb0 (k := 2) Tryz.results39 rfl rfl Tryz.underlying110 rfl rfl (fun w1 hw => ⟨⟨⟨Kac a n, n, 1 + ((pv : Nat) : Int), fr, to⟩, EnG.mk_ (by omega) hn hpv⟩, rfl, Pm.codr [] (hw.sel (.cons _ (.cons _ (.cons _ (.cons_cons _ (List.Sublist.refl _)))))) rfl⟩)
 refine TL.nx 2 rfl rfl fun k32 hk321 hk322 => ?_;refine zE ?_;refine TX.held (fun _ _ => trivial) ?_;refine TH.o 2 ?_;refine TL.v (gL 0 Kb) ?_;refine zE ?_;refine TX.held (fun _ _ => trivial) ?_;refine TH.tk 3 rfl rfl rfl (Kn rfl rfl rfl (fun w => Kcz (r := IntKind.i64.wrap (fr + 1)) (rfl) w)) (fun _ _ => trivial) ?_;refine TH.tk 6 rfl rfl rfl (Kn rfl rfl rfl (fun w => Kcz (r := IntKind.i64.wrap (IntKind.i64.wrap (fr + 1) + ((k32 : Nat) : Int))) (rfl) w)) (fun _ _ => trivial) ?_;refine TH.o 7 ?_;refine TL.prowS (e := 3) (size := 1) (cs := Ka (ic .i64) [1125899906842624, 1125899906842624, 1125899906842624, IntKind.i64.wrap (IntKind.i64.wrap (fr + 1) + ((k32 : Nat) : Int))]) rfl rfl rfl rfl rfl (fun w => Kee _ _ _ _ w) (by decide) rfl (fun g34 => ?_);refine zE ?_;refine TX.held (fun _ _ => trivial) ?_;refine TH.o 8 ?_;refine TL.pC (k := 3) _ _ rfl o27 rfl (fun w1 hw hC1 => KaP cb w1 hC1 g34 4 ([1125899906842624, 1125899906842624, 1125899906842624, IntKind.i64.wrap (IntKind.i64.wrap (fr + 1) + ((k32 : Nat) : Int))]) (hw.neq (i := 0) (j := 3) rfl rfl (by decide) g34 rfl <| congrArg some ·.symm) (Pc.lt (hw.at_ (k := 0) rfl) g34 rfl).2 (by show 0 < ([1125899906842624, 1125899906842624, 1125899906842624, IntKind.i64.wrap (IntKind.i64.wrap (fr + 1) + ((k32 : Nat) : Int))] : List Int).length; simp) (fun i v hi => KaQ hw (q := 0) rfl hi)) ?_;rintro ⟨to, hto⟩;dsimp only [lC, lN];refine zE ?_;refine TX.held (fun _ _ => trivial) ?_;refine TH.tk 9 rfl rfl rfl (gF KaK) (fun _ _ => trivial) ?_;refine TH.o 10 ?_;refine TL.ps 1 KN ?_;refine zE ?_;refine TX.held (fun _ _ => trivial) ?_;refine TH.done (by kernel_rfl) ?_;refine zT (zSG (TL.v (gV 1 (.agg #[.int .u32 (Kac a n), .int .i64 n, .int .i64 (1 + ((pv : Nat) : Int)), .int .i64 fr, .int .i64 to]) K3 Kq) ?_));refine TL.ps 2 Kq ?_;refine zET (zr ?_);exact Kb0 (k := 2) Tryz.results39 rfl rfl Tryz.underlying110 rfl rfl (fun w1 hw => ⟨⟨⟨Kac a n, n, 1 + ((pv : Nat) : Int), fr, to⟩, EnG.mk_ (by omega) hn hpv⟩, rfl, Pm.codr [] (hw.sel (.cons _ (.cons _ (.cons _ (.cons_cons _ (List.Sublist.refl _)))))) rfl⟩)
theorem Kf3 (k : Nat) : (2 : Int) ^ k = ((2 ^ k : Nat) : Int) := by simp
theorem KeH (k : Nat) (hk : k <= 32) : 0 < 2 ^ k /\ 2 ^ k <= 4294967296 := ⟨Nat.two_pow_pos k, by rw [show 4294967296 = 2 ^ 32 by rfl]; exact Nat.pow_le_pow_right (by decide) hk⟩
theorem Kkb {n : Int} (h0 : 0 <= n) (h1 : n <= 32) : Kb1 n = ((2 ^ (32 - n).toNat : Nat) : Int) := by
  have h2 := KeH (32 - n).toNat (by omega);unfold Kb1;rw [Int.one_mul, Kf3, IntKind.wrap_i64];omega
theorem Kin {n : Int} (h0 : 0 <= n) (h1 : n <= 32) : KbZ n = ((4294967296 - 2 ^ (32 - n).toNat : Nat) : Int) := by
  have h2 := KeH (32 - n).toNat (by omega);unfold KbZ;rw [Kf3, IntKind.wrap_u32];omega
theorem KhO {a n : Int} (ha : 0 <= a /\ a <= 4294967295) : Kax a n = Ka6 a n := by
  unfold Kax Ka6;by_cases h : 0 <= n /\ n <= 32
  · have h2 := KeH (32 - n).toNat (by omega);obtain ⟨x, rfl⟩ := Int.eq_ofNat_of_zero_le ha.1;rw [Kin h.1 h.2, Kkb h.1 h.2, u32_andNot_nat _ _ (by omega) (by omega)];rw [show 4294967295 - (4294967296 - 2 ^ (32 - n).toNat) = 2 ^ (32 - n).toNat - 1 by omega, Nat.and_two_pow_sub_one_eq_mod]
    congr 1
  · have : (decide (0 <= n) && decide (n <= 32)) = false := by
      by_cases h3 : 0 <= n
      · have : ¬ n <= 32 := fun h4 => h ⟨h3, h4⟩;simp [this]
      · simp [h3]
    rw [this, Bool.false_and, Bool.false_and]
theorem KdA {e : En} (h : e.Ok) : Kam e = KJ e := by unfold Kam KJ; rw [KhO h]
set_option maxRecDepth 20000
theorem Kif (A0 : Option Addr) (c0 : Nat) (es : List En) (w : World) (hr : Kd w w.heap.size 5 A0 es.length (Ka En.cells es)) (hl1 : es.length <= 100000) (hok : ∀ z ∈ es, z.Ok) :
  Calls Tryz.prog 86 #[.agg #[.slice A0 es.length c0]] w fun e w' => e = .returned (.bool (KA es)) /\ Below w.heap.size w w' := by
 refine Kg Tryz.func86 rfl rfl rfl ?_ (Pm.start w);refine zSG ?_;refine TL.bx fun g1 => ?_;refine TL.as_ ?_;refine zET (zS (zSG (TL.v (gF KaN) ?_)));refine TL.v (gL 0 KaI) ?_;refine TL.v (gN Tryz.underlying30) ?_;refine TL.sp KP (fun q10 => ?_) (fun q10 => ?_)
 ·refine zET (zc (zSG (TL.as_ ?_)));refine zET (zr (zR ?_));have hE : KA es = false := by simp only [KA, decide_eq_false (show ¬ es.length <= 1024 by omega), Bool.false_and]
  exact Kc Tryz.results86 rfl (fun w1 hw => ⟨by rw [hE], hw.bel⟩)
 refine zET (zd (zk (zT (zS (zSG (TL.as_ ?_))))));refine zET (zB (TC.lp (α := {i : Nat // i <= es.length /\ ∀ j, j < i -> Kai es j = true}) [1] rfl (fun y => [(3, .int .i64 ((y.1 : Nat) : Int))]) (fun y => Pm w [.blk g1 32 [.slice A0 es.length c0]]) (fun y => es.length - y.1) (⟨0, Nat.zero_le _, fun j hj => absurd hj (Nat.not_lt_zero _)⟩) (fun w1 hw => hw) ?_));rintro ⟨i, hi, hok2⟩
 try dsimp only at hi hok2 ⊢
 refine zS (zSG (TL.mv ?_));refine TL.v (gF KaN) ?_;refine TL.v (gL 0 KaI) ?_;refine TL.v (gN Tryz.underlying30) ?_;refine TL.sp Km (fun q15 => ?_) (fun q15 => ?_)
 ·refine zET (zc (zk (zT (zS (zB (zS (zSG (TL.v (gF KaN) ?_))))))));refine TL.v (gL 0 KaI) ?_;refine TL.mv ?_;have hi21 : i < es.length := by omega
  obtain ⟨x21, hx21⟩ := Ko hi21;obtain ⟨b21, o21, hA21, hbb21, hc21⟩ := hr.ad (by omega) (by decide);refine TL.w rfl (gA (i := i) Tryz.underlying30 Kq rfl rfl rfl rfl hA21 (by omega)) ?_;refine TL.v (gR KI K3 Kq hbb21 hx21 hc21) ?_;refine TL.pS rfl o87 (fun w1 hw => KfM x21 (hok x21 (List.mem_of_getElem? hx21)) w1) (fun h23 => ?_) (fun h23 => ?_)
  ·refine TL.w rfl (KaZ rfl rfl) ?_;refine zET (zd (zk (zT (zS (zS ?_)))));have hv21 : KJ x21 = true := by rw [<- KdA (hok x21 (List.mem_of_getElem? hx21))]; exact h23
   refine zG (TL.mv ?_);refine TL.sp Kab (fun q26 => ?_) (fun q26 => ?_)
   ·refine zET (zc (zx (zX (zM (zT (zG (TL.mv ?_)))))));refine TL.v (gD ((i + 1 : Nat) : Int)) ?_;refine TL.as_ ?_;refine zE ?_;exact TX.rd (⟨i + 1, by omega, okN hok2 (Kg8 (by omega) hx21 hv21)⟩) (by show es.length - (i + 1) < es.length - i; omega) (fun w1 hw => hw)
   refine zET (zd (zk (zT ?_)));have hi0 : ¬ i = 0 := by omega
   have hi31 : i - 1 < es.length := by omega
   obtain ⟨x31, hx31⟩ := Ko hi31;have hi36 : i < es.length := by omega
   obtain ⟨x36, hx36⟩ := Ko hi36;have e36 : x21 = x36 := by rw [hx21] at hx36; exact Option.some.inj hx36
   rw [e36] at hv21;obtain ⟨b31, o31, hA31, hbb31, hc31⟩ := hr.ad (by omega) (by decide);refine TC.join (α := Nat × Nat) (fun y => [(1, .pointer (some ⟨g1, 0, none⟩)), (3, .int .i64 ((i : Nat) : Int)), (4, .pointer (some ⟨y.1, 0, none⟩)), (5, .pointer (some ⟨y.2, 0, none⟩))]) (fun y => Pm w [.blk y.1 110 x31.cells, .blk y.2 110 x36.cells, .blk g1 32 [.slice A0 es.length c0]]) ?_ ?_
   ·refine TC.hd 15 (Pm w [.blk g1 32 [.slice A0 es.length c0]]) (fun w1 hw => hw) fun jS => ?_;refine TH.t 0 rfl (gF KaN) jS ?_;refine TH.t 1 rfl (gL 0 KaI) jS ?_;refine TH.t 2 rfl (Kk rfl rfl) jS ?_;refine TH.t 3 rfl (Kn rfl rfl rfl (fun w => K2 (r := ((i - 1 : Nat) : Int)) (by simp only [IntKind.wrap_i64]; omega) w)) jS ?_;refine TH.t 4 rfl (gA (i := (i - 1)) Tryz.underlying30 Kq rfl rfl rfl rfl hA31 (by omega)) jS ?_;refine TH.t 5 rfl (KH (off := o31 + (i - 1) * 5) rfl rfl K3 Kq (KI.len x31) (fun w1 hw j9 u9 h9 => (hw.bel.cell hbb31).trans <| Ka4 KI hx31 hc31 j9 u9 h9)) jS ?_;refine TH.t 6 rfl (gF KaN) jS ?_;refine TH.t 7 rfl (gL 0 KaI) jS ?_;refine TH.t 8 rfl (Kk rfl rfl) jS ?_;refine TH.t 9 rfl (gA (i := i) Tryz.underlying30 Kq rfl rfl rfl rfl hA31 (by omega)) jS ?_;refine TH.t 10 rfl (gR KI K3 Kq hbb31 hx36 hc31) jS ?_;refine TH.two' 11 12 rfl rfl (by kernel_rfl) rfl rfl ?_ ?_
    ·refine TL.al Kaa fun g4 => ?_;refine zE ?_;refine TX.held (fun w1 hw => hw.pk [1]) ?_;refine TH.o 12 ?_;refine TL.al Kaa fun g5 => ?_;refine zE ?_;refine TX.held (fun w1 hw => hw.pk [2]) ?_;refine TH.o 13 ?_;refine TL.pstore (k := 1) (vs := x31.cells) rfl rfl rfl rfl rfl rfl rfl Kq (KI.one _) (by show 5 <= 5; decide) (L' := [.blk g5 110 [.int .u32 0, .int .i64 0, .int .i64 0, .int .i64 0, .int .i64 0], .blk g4 110 x31.cells, .blk g1 32 [.slice A0 es.length c0]]) rfl ?_;refine zE ?_;refine TX.held (fun w1 hw => hw.pk [2]) ?_;refine TH.o 14 ?_;refine TL.pstore (k := 0) (vs := x36.cells) rfl rfl rfl rfl rfl rfl rfl Kq (KI.one _) (by show 5 <= 5; decide) (L' := [.blk g5 110 x36.cells, .blk g4 110 x31.cells, .blk g1 32 [.slice A0 es.length c0]]) rfl ?_;refine zE ?_;refine TX.held (fun w1 hw => hw.pk [2]) ?_;refine TH.done (by kernel_rfl) ?_;exact TX.jd ((g4, g5)) (fun w1 hw => hw.pk [1, 0, 2])
    refine TL.al Kaa fun g5 => ?_;refine zE ?_;refine TX.held (fun w1 hw => hw.pk [1]) ?_;refine TH.o 11 ?_;refine TL.al Kaa fun g4 => ?_;refine zE ?_;refine TX.held (fun w1 hw => hw.pk [2]) ?_;refine TH.o 13 ?_;refine TL.pstore (k := 0) (vs := x31.cells) rfl rfl rfl rfl rfl rfl rfl Kq (KI.one _) (by show 5 <= 5; decide) (L' := [.blk g4 110 x31.cells, .blk g5 110 [.int .u32 0, .int .i64 0, .int .i64 0, .int .i64 0, .int .i64 0], .blk g1 32 [.slice A0 es.length c0]]) rfl ?_;refine zE ?_;refine TX.held (fun w1 hw => hw.pk [2]) ?_;refine TH.o 14 ?_;refine TL.pstore (k := 1) (vs := x36.cells) rfl rfl rfl rfl rfl rfl rfl Kq (KI.one _) (by show 5 <= 5; decide) (L' := [.blk g4 110 x31.cells, .blk g5 110 x36.cells, .blk g1 32 [.slice A0 es.length c0]]) rfl ?_;refine zE ?_;refine TX.held (fun w1 hw => hw.pk [2]) ?_;refine TH.done (by kernel_rfl) ?_;exact TX.jd ((g4, g5)) (fun w1 hw => hw)
   rintro ⟨ga, gb⟩
   try dsimp only
   refine zSG (TL.v (gF KaL) ?_);refine TL.v (gV 0 (.agg #[.int .u32 x31.addr, .int .i64 x31.len]) KaU KaW) ?_;refine TL.v (gF KaL) ?_;refine TL.v (gV 1 (.agg #[.int .u32 x36.addr, .int .i64 x36.len]) KaU KaW) ?_;refine TL.p1 rfl o88 (fun w1 hw => KeX x31.addr x31.len x36.addr x36.len (hok x31 (List.mem_of_getElem? hx31)) (hok x36 (List.mem_of_getElem? hx36)) w1) ?_;refine TL.as_ ?_;refine zET (zSG (TL.mv ?_));refine TL.sp KP (fun q44 => ?_) (fun q44 => ?_)
   ·refine TL.rn 4 rfl ?_;refine TL.offU rfl rfl rfl rfl rfl ?_;refine TL.offU rfl rfl rfl rfl rfl ?_;refine TL.offU rfl rfl rfl rfl rfl ?_;refine TL.offU rfl rfl rfl rfl rfl ?_;refine TL.offU rfl rfl rfl rfl rfl ?_;refine TL.rn 2 rfl (zET (zc (zSG (TL.as_ ?_))));refine zET (zr (zRR (zR (zRR ?_))));have hE : KA es = false := KcH hi36 (KbU (t := false) (by omega) hx36 hx31 hv21 (by simp [KaG, q44]));exact Kc Tryz.results86 rfl (fun w1 hw => ⟨by rw [hE], hw.bel⟩)
   refine TL.rn 2 rfl (TL.gu ?_);refine TL.sp Kab (fun q47 => ?_) (fun q47 => ?_)
   ·refine TL.rn 1 rfl (TL.ov (gF KaX) ?_);refine TL.ov (gL 1 Kb) ?_;refine TL.ov (gF KaK) ?_;refine TL.ov (gL 0 Kb) ?_;refine TL.gu ?_;refine TL.sp Km (fun q53 => ?_) (fun q53 => ?_)
    ·refine TL.rn 2 rfl (zET (zc (zSG (TL.as_ ?_))));refine zET (zr (zRR (zR (zRR ?_))));have hE : KA es = false := KcH hi36 (KbU (t := false) (by omega) hx36 hx31 hv21 (by simp [KaG, q44, q47, q53]));exact Kc Tryz.results86 rfl (fun w1 hw => ⟨by rw [hE], hw.bel⟩)
    refine TL.rn 2 rfl (zET (zd (zk (zN (zT (zG (TL.mv ?_)))))));refine TL.v (gD ((i + 1 : Nat) : Int)) ?_;refine TL.as_ ?_;refine zE ?_;exact TX.rd (⟨i + 1, by omega, okN hok2 (KbU (t := true) (by omega) hx36 hx31 hv21 (by simp [KaG, q44, q47, q53]))⟩) (by show es.length - (i + 1) < es.length - i; omega) (fun w1 hw => hw.pk [2])
   refine TL.rn 8 rfl (zET (zd (zk (zN (zT (zG (TL.mv ?_)))))));refine TL.v (gD ((i + 1 : Nat) : Int)) ?_;refine TL.as_ ?_;refine zE ?_;exact TX.rd (⟨i + 1, by omega, okN hok2 (KbU (t := true) (by omega) hx36 hx31 hv21 (by simp [KaG, q44, q47]))⟩) (by show es.length - (i + 1) < es.length - i; omega) (fun w1 hw => hw.pk [2])
  refine TL.w rfl (KaZ rfl rfl) ?_;refine zET (zc (zSG (TL.as_ ?_)));refine zET (zr (zR (zRR (zR (zRR ?_)))));have hE : KA es = false := KcH hi21 (KgA hx21 (by rw [<- KdA (hok x21 (List.mem_of_getElem? hx21))]; exact h23));exact Kc Tryz.results86 rfl (fun w1 hw => ⟨by rw [hE], hw.bel⟩)
 refine zET (zd (zx (zX (zX (zM (zT (zSG (TL.as_ ?_))))))));refine zET (zr ?_);have hE : KA es = true := KeQ (by omega) (fun j hj => hok2 j (by omega));exact Kc Tryz.results86 rfl (fun w1 hw => ⟨by rw [hE], hw.bel⟩)
set_option maxRecDepth 20000
def KdD (x y : En) (z : Int) : Prop := (z < 0 -> KQ x.addr x.len y.addr y.len < 0 \/ (KQ x.addr x.len y.addr y.len = 0 /\ x.frm <= y.frm)) /\ (0 <= z -> 0 < KQ x.addr x.len y.addr y.len \/ (KQ x.addr x.len y.addr y.len = 0 /\ y.frm <= x.frm))
def OvE (b x : En) : Prop := KQ b.addr b.len x.addr x.len = 0 /\ b.frm < x.to_ /\ x.frm < b.to_
def LtE (b x : En) : Prop := KQ b.addr b.len x.addr x.len < 0 \/ (KQ b.addr b.len x.addr x.len = 0 /\ b.frm <= x.frm)
def GeE (b x : En) : Prop := 0 < KQ b.addr b.len x.addr x.len \/ (KQ b.addr b.len x.addr x.len = 0 /\ x.frm <= b.frm)
def Kbz (es : List En) (x : En) (i k : Nat) : Prop := (k = 0 \/ ∃ b, es[k - 1]? = some b /\ LtE b x) /\ (∀ j, k <= j -> j < i -> ∀ z, es[j]? = some z -> GeE z x) /\ ∀ j, j < i -> ∀ z, es[j]? = some z -> ¬ OvE z x
theorem Kbz.start (es : List En) (x : En) : Kbz es x 0 0 := ⟨.inl rfl, fun j _ h => absurd h (Nat.not_lt_zero _), fun j h => absurd h (Nat.not_lt_zero _)⟩
theorem Kbz.step_ge {es : List En} {x z : En} {i k : Nat} (h : Kbz es x i k) (hz : es[i]? = some z) (hk : k <= i) (hg : k <= i -> GeE z x) (ho : ¬ OvE z x) : Kbz es x (i + 1) k := by
 refine ⟨h.1, fun j h1 h2 y hy => ?_, fun j h2 y hy => ?_⟩
 ·by_cases e : j = i
  ·subst e; rw [hz] at hy; injection hy with hy; rw [<- hy]; exact hg hk
  exact h.2.1 j h1 (by omega) y hy
 by_cases e : j = i
 ·subst e; rw [hz] at hy; injection hy with hy; rw [<- hy]; exact ho
 exact h.2.2 j (by omega) y hy
theorem Kbz.step_lt {es : List En} {x z : En} {i k : Nat} (h : Kbz es x i k) (hz : es[i]? = some z) (hl : LtE z x) (ho : ¬ OvE z x) : Kbz es x (i + 1) (i + 1) := by
 refine ⟨.inr ⟨z, by rw [Nat.add_sub_cancel]; exact hz, hl⟩, fun j h1 h2 => absurd h1 (by omega), fun j h2 y hy => ?_⟩;by_cases e : j = i
 ·subst e; rw [hz] at hy; injection hy with hy; rw [<- hy]; exact ho
 exact h.2.2 j (by omega) y hy
theorem Khy (a b : Int) : Ke b a = - Ke a b := by unfold Ke; split <;> split <;> (try split) <;> omega
theorem KhL (a n b m : Int) : KQ b m a n = - KQ a n b m := by
 unfold KQ;rw [Khy a b, Khy n m];split <;> split <;> omega
theorem Kgp {es : List En} (h : KA es = true) {j : Nat} {z : En} (hz : es[j]? = some z) : KJ z = true /\ (j = 0 \/ ∀ b, es[j - 1]? = some b -> KaG b z = false) := by
 simp only [KA, Bool.and_eq_true, decide_eq_true_eq, List.all_eq_true, List.mem_range] at h;have h2 := h.2 j (List.getElem?_eq_some_iff.1 hz).1;unfold Kai at h2;rw [hz] at h2;simp only [Bool.and_eq_true, Bool.or_eq_true, decide_eq_true_eq] at h2;refine ⟨h2.1, h2.2.imp id fun h3 b hb => ?_⟩;rw [hb] at h3
 simpa using h3
theorem KeO {es : List En} {j : Nat} {z : En} (hz : es[j]? = some z) (hv : KJ z = true) (h : j = 0 \/ ∀ b, es[j - 1]? = some b -> KaG b z = false) : Kai es j = true := by
 unfold Kai;rw [hz];simp only [hv, Bool.true_and, Bool.or_eq_true, decide_eq_true_eq];rcases h with h | h
 ·exact .inl h
 right
 cases hb : es[j - 1]? with
 | none => rfl
 | some b => simp [h b hb]
theorem Kgt {es : List En} {x : En} {k : Nat} (hv : KA es = true) (hx : KJ x = true) (hl : es.length < 1024) (hb : k = 0 \/ ∃ b, es[k - 1]? = some b /\ LtE b x) (ha : ∀ z : En, es[k]? = some z -> GeE z x) (ho : ∀ (j : Nat) (z : En), es[j]? = some z -> ¬ OvE z x) : KA (es.take k ++ [x] ++ es.drop k) = true := by
 have hk : k <= es.length := by
  rcases hb with h | ⟨b, h, _⟩
  ·omega
  have := (List.getElem?_eq_some_iff.1 h).1; omega
 have hlen : (es.take k ++ [x] ++ es.drop k).length = es.length + 1 := by simp only [List.length_append, List.length_take, List.length_drop, List.length_cons, List.length_nil]; omega
 have htk : (es.take k).length = k := by rw [List.length_take]; omega
 have g1 : ∀ j, j < k -> (es.take k ++ [x] ++ es.drop k)[j]? = es[j]? := fun j hj => by
  rw [List.append_assoc, List.getElem?_append_left (by omega), List.getElem?_take_of_lt hj]
 have g2 : (es.take k ++ [x] ++ es.drop k)[k]? = some x := by
  rw [List.append_assoc, List.getElem?_append_right (by omega), htk, Nat.sub_self]; rfl
 have g3 : ∀ j, k <= j -> (es.take k ++ [x] ++ es.drop k)[j + 1]? = es[j]? := fun j hj => by
  rw [List.getElem?_append_right (by rw [List.length_append, htk]; show k + 1 <= _; omega), List.length_append, htk, List.getElem?_drop]
  congr 1; show k + (j + 1 - (k + 1)) = j; omega
 refine KeQ (by omega) fun j hj => ?_;have hxf : x.frm < x.to_ := by unfold KJ at hx; simp only [Bool.and_eq_true, decide_eq_true_eq] at hx; omega
 rcases Nat.lt_trichotomy j k with h | h | h
 ·obtain ⟨z, hz⟩ : ∃ z, es[j]? = some z := ⟨_, List.getElem?_eq_getElem (by omega)⟩;obtain ⟨a1, a2⟩ := Kgp hv hz;exact KeO (by rw [g1 j h]; exact hz) a1 (by rw [g1 (j - 1) (by omega)]; exact a2)
 ·subst h;refine KeO g2 hx ?_;rcases hb with h | ⟨b, h, h1⟩
  ·exact .inl h
  by_cases h0 : j = 0
  ·exact .inl h0
  refine .inr fun c hc => ?_;rw [g1 (j - 1) (by omega), h] at hc
  injection hc with hc
  rw [<- hc];have h2 := ho _ _ h;unfold OvE at h2;unfold LtE at h1;unfold KaG;rw [Bool.or_eq_false_iff, Bool.and_eq_false_iff, decide_eq_false_iff_not, decide_eq_false_iff_not, decide_eq_false_iff_not];rcases h1 with h1 | h1
  ·exact ⟨by omega, .inl (by omega)⟩
  refine ⟨by omega, .inr fun h4 => h2 ⟨h1.1, by omega, h4⟩⟩
 obtain ⟨q, rfl⟩ : ∃ q, j = q + 1 := ⟨j - 1, by omega⟩;obtain ⟨z, hz⟩ : ∃ z, es[q]? = some z := ⟨_, List.getElem?_eq_getElem (by omega)⟩;obtain ⟨a1, a2⟩ := Kgp hv hz;refine KeO (by rw [g3 q (by omega)]; exact hz) a1 (.inr ?_);rw [Nat.add_sub_cancel];by_cases e : q = k
 ·subst e;intro c hc;rw [g2] at hc
  injection hc with hc
  rw [<- hc];have h1 := ha z hz;have h2 := ho _ _ hz;have hzf : z.frm < z.to_ := by have a3 := a1; unfold KJ at a3; simp only [Bool.and_eq_true, decide_eq_true_eq] at a3; omega
  have hng := KhL z.addr z.len x.addr x.len;unfold OvE at h2;unfold GeE at h1;unfold KaG;rw [Bool.or_eq_false_iff, Bool.and_eq_false_iff, decide_eq_false_iff_not, decide_eq_false_iff_not, decide_eq_false_iff_not];rcases h1 with h1 | h1
  ·exact ⟨by omega, .inl (by omega)⟩
  refine ⟨by omega, .inr fun h4 => ?_⟩;exact h2 ⟨h1.1, h4, by omega⟩
 obtain ⟨p, rfl⟩ : ∃ p, q = p + 1 := ⟨q - 1, by omega⟩;rw [g3 p (by omega)];rcases a2 with a2 | a2
 ·omega
 rw [Nat.add_sub_cancel] at a2; exact a2
theorem Klf (a0_0 : Int) (a0_1 : Int) (a1_0 : Int) (a1_1 : Int) (a2_0 : Int) (a2_1 : Int) (w : World) : (Instr.build 229 #[(0, .agg #[.int .i64 a0_0, .int .i64 a0_1]), (1, .agg #[.int .i64 a1_0, .int .i64 a1_1]), (2, .agg #[.int .i64 a2_0, .int .i64 a2_1])]).run Tryz.prog w = .ok (.agg #[.int .i64 a0_0, .int .i64 a0_1, .int .i64 a1_0, .int .i64 a1_1, .int .i64 a2_0, .int .i64 a2_1]) w := by kernel_rfl
theorem Kdi  (w : World) : (Instr.build 32 #[]).run Tryz.prog w = .ok (.agg #[.slice none 0 0]) w := by kernel_rfl
theorem KcF : Elem Tryz.prog 30 110 5 40 := Elem.mk' Tryz.underlying30 (z := .agg #[.int .u32 0, .int .i64 0, .int .i64 0, .int .i64 0, .int .i64 0]) (by kernel_rfl) rfl (by omega) (by omega)
theorem Kgc (a0_0 : Int) (a0_1 : Int) (a0_2 : Int) (a0_3 : Int) (a0_4 : Int) (w : World) : (Instr.buildSlice 30 1 #[(0, .agg #[.int .u32 a0_0, .int .i64 a0_1, .int .i64 a0_2, .int .i64 a0_3, .int .i64 a0_4])]).run Tryz.prog w = .ok (.slice (some ⟨w.heap.size, 0, none⟩) 1 1) (w.alloc (.cells [.int .u32 a0_0, .int .i64 a0_1, .int .i64 a0_2, .int .i64 a0_3, .int .i64 a0_4].toArray 110)) := by kernel_rfl
theorem Kek (x y : En) (hx : x.Ok) (hy : y.Ok) (w : World) :
  Calls Tryz.prog 89 #[.agg x.cells.toArray, .agg y.cells.toArray] w fun e w' => ∃ z : {z : Int // KdD x y z}, e = .returned (.int .i64 z.1) /\ Below w.heap.size w w' := by
 refine Kg Tryz.func89 rfl rfl rfl ?_ (Pm.start w);refine zSG ?_;refine TL.bx fun g2 => ?_;refine TL.bx fun g3 => ?_;refine TL.as_ ?_;refine zET (zS (zSG (TL.v (gF KaL) ?_)));refine TL.v (gV 1 (.agg #[.int .u32 x.addr, .int .i64 x.len]) KaU KaW) ?_;refine TL.v (gF KaL) ?_;refine TL.v (gV 0 (.agg #[.int .u32 y.addr, .int .i64 y.len]) KaU KaW) ?_;refine TL.p1 rfl o88 (fun w1 hw => KeX x.addr x.len y.addr y.len hx hy w1) ?_;refine TL.as_ ?_;refine zET (zSG (TL.mv ?_));refine TL.sp K1 (fun q14 => ?_) (fun q14 => ?_)
 ·refine zET (zc (zSG (TL.rn 2 rfl (zET (zr (zR ?_))))));exact Kc Tryz.results89 rfl (fun w1 hw => ⟨⟨KQ x.addr x.len y.addr y.len, ⟨fun h => .inl h, fun h => .inl (by omega)⟩⟩, rfl, hw.bel⟩)
 refine zET (zd (zk (zT (zS (zSG (TL.v (gF KaX) ?_))))));refine TL.v (gL 1 Kb) ?_;refine TL.v (gF KaX) ?_;refine TL.v (gL 0 Kb) ?_;refine TL.w rfl (Kj (v := .agg #[.int .i64 x.frm, .int .i64 y.frm]) rfl rfl (fun w => K6 _ _ w)) ?_;refine TL.v (gF KaK) ?_;refine TL.v (gL 1 Kb) ?_;refine TL.v (gF KaK) ?_;refine TL.v (gL 0 Kb) ?_;refine TL.w rfl (Kj (v := .agg #[.int .i64 x.to_, .int .i64 y.to_]) rfl rfl (fun w => K6 _ _ w)) ?_;refine TL.v (gF Kcg) ?_;refine TL.v (gL 1 Kb) ?_;refine TL.v (gF Kcg) ?_;refine TL.v (gL 0 Kb) ?_;refine TL.w rfl (Kj (v := .agg #[.int .i64 x.prov, .int .i64 y.prov]) rfl rfl (fun w => K6 _ _ w)) ?_;refine TL.w rfl (Kj (v := .agg #[.int .i64 x.frm, .int .i64 y.frm, .int .i64 x.to_, .int .i64 y.to_, .int .i64 x.prov, .int .i64 y.prov]) rfl rfl (fun w => Klf _ _ _ _ _ _ w)) ?_;refine TL.mv ?_;refine zET (zB (TC.lp (α := {i : Nat // i <= 3 /\ (0 < i -> x.frm = y.frm)}) [31] rfl (fun z => [(32, .int .i64 ((z.1 : Nat) : Int))]) (fun z => Pm w [.blk g3 110 y.cells, .blk g2 110 x.cells]) (fun z => 3 - z.1) (⟨0, Nat.zero_le _, fun h => absurd h (by decide)⟩) (fun w1 hw => hw) ?_));rintro ⟨i, hi, hfr⟩
 try dsimp only at hi hfr ⊢
 refine zSG ?_;refine TL.sp Km (fun q33 => ?_) (fun q33 => ?_)
 ·have hi2 : i < 3 := by omega
  obtain ⟨p, q, hp0, hpq⟩ : ∃ p q : Int, (i = 0 -> p = x.frm /\ q = y.frm) /\ ∀ w : World, (Instr.index 229 (.agg #[.int .i64 x.frm, .int .i64 y.frm, .int .i64 x.to_, .int .i64 y.to_, .int .i64 x.prov, .int .i64 y.prov]) (.int .i64 ((i : Nat) : Int))).run Tryz.prog w = .ok (.agg #[.int .i64 p, .int .i64 q]) w := by
   have h3 : i = 0 \/ i = 1 \/ i = 2 := by omega
   rcases h3 with rfl | rfl | rfl
   ·exact ⟨x.frm, y.frm, fun _ => ⟨rfl, rfl⟩, fun w => by kernel_rfl⟩
   ·exact ⟨x.to_, y.to_, fun h => absurd h (by decide), fun w => by kernel_rfl⟩
   exact ⟨x.prov, y.prov, fun h => absurd h (by decide), fun w => by kernel_rfl⟩
  refine zET (zS (zc (zk (zT (zS (zB (zSG ?_)))))));refine TL.w rfl (Kf1 (v := .agg #[.int .i64 p, .int .i64 q]) rfl rfl rfl hpq) ?_;refine TL.al Khs fun g7 => ?_;refine TL.ps 0 Ke8 ?_;refine zET (zS (zSG ?_));refine TL.w rfl (KV (v := .pointer (some ⟨g7, 0, none⟩)) rfl rfl rfl (fun w => Kbc Tryz.underlying228 KN g7 0 _ 0 (by decide) w)) ?_;refine TL.v (gL 0 Kb) ?_;refine TL.w rfl (KV (v := .pointer (some ⟨g7, 1, none⟩)) rfl rfl rfl (fun w => Kbc Tryz.underlying228 KN g7 0 _ 1 (by decide) w)) ?_;refine TL.v (gL 0 Kb) ?_;refine TL.sp Km (fun q39 => ?_) (fun q39 => ?_)
  ·refine zET (zc (zSG (TL.as_ ?_)));refine zET (zr (zR (zRR (zR (zRR ?_)))));exact Kc Tryz.results89 rfl (fun w1 hw => ⟨⟨-1, ⟨fun _ => .inr ⟨by omega, by by_cases h0 : i = 0; (have := hp0 h0; omega); (have := hfr (by omega); omega)⟩, fun h => absurd h (by decide)⟩⟩, rfl, hw.bel⟩)
  refine zET (zd (zk (zT (zSG ?_))));refine TL.w rfl (KV (v := .pointer (some ⟨g7, 0, none⟩)) rfl rfl rfl (fun w => Kbc Tryz.underlying228 KN g7 0 _ 0 (by decide) w)) ?_;refine TL.v (gL 0 Kb) ?_;refine TL.w rfl (KV (v := .pointer (some ⟨g7, 1, none⟩)) rfl rfl rfl (fun w => Kbc Tryz.underlying228 KN g7 0 _ 1 (by decide) w)) ?_;refine TL.v (gL 0 Kb) ?_;refine TL.sp KP (fun q44 => ?_) (fun q44 => ?_)
  ·refine zET (zc (zSG (TL.as_ ?_)));refine zET (zr (zRR (zR (zRR ?_))));exact Kc Tryz.results89 rfl (fun w1 hw => ⟨⟨1, ⟨fun h => absurd h (by decide), fun _ => .inr ⟨by omega, by by_cases h0 : i = 0; (have := hp0 h0; omega); (have := hfr (by omega); omega)⟩⟩⟩, rfl, hw.bel⟩)
  have hfr2 : x.frm = y.frm := by by_cases h0 : i = 0; (have := hp0 h0; omega); exact hfr (by omega)
  refine zET (zd (zk (zN (zT (zG (TL.v (gD ((i + 1 : Nat) : Int)) ?_))))));refine TL.mv ?_;refine zE ?_;exact TX.rd (⟨i + 1, by omega, fun _ => hfr2⟩) (by show 3 - (i + 1) < 3 - i; omega) (fun w1 hw => hw.pk [1, 2])
 refine zET (zS (zd (zx (zX (zX (zM (zT (zSG (TL.as_ ?_)))))))));refine zET (zr ?_);exact Kc Tryz.results89 rfl (fun w1 hw => ⟨⟨0, ⟨fun h => absurd h (by decide), fun _ => .inr ⟨by omega, by have := hfr (by omega); omega⟩⟩⟩, rfl, hw.bel⟩)
theorem KeD (A0 : Option Addr) (c0 : Nat) (es : List En) (x : En) (hx : x.Ok) (w : World) (hr : Kd w w.heap.size 5 A0 es.length (Ka En.cells es)) (hl1 : es.length <= 10000) (hlc : es.length <= c0) (hok : ∀ z ∈ es, z.Ok) :
  Calls Tryz.prog 38 #[.agg #[.slice A0 es.length c0], .agg x.cells.toArray] w fun e w' => ∃ y : {y : (Option Addr × Nat) × List En × Int // (y.2.2 = 0 -> (∀ z ∈ y.2.1, z ∈ es \/ z = x) /\ KA y.2.1 = true) /\ y.2.1.length <= es.length + 1 /\ y.2.1.length <= y.1.2 /\ y.1.2 <= maxLen}, e = .returned (.tuple #[.agg #[.slice y.1.1.1 y.1.2.1.length y.1.1.2], .int .i64 y.1.2.2]) /\ Pm w [.row (.slice y.1.1.1 y.1.2.1.length y.1.1.2) 110 5 y.1.2.1.length (Ka En.cells y.1.2.1)] w' := by
 refine Kg Tryz.func38 rfl rfl rfl ?_ (Pm.start w);refine zSG ?_;refine TL.bx fun g2 => ?_;refine TL.bx fun g3 => ?_;refine TL.al KbI fun g4 => ?_;refine TL.as_ ?_;refine zET (zS (zSG (TL.v (gV 2 (.agg #[.slice A0 es.length c0]) K4 KE) ?_)));refine TL.pS rfl o86 (fun w1 hw => Kif A0 c0 es w1 (hr.up hw.bel) (by omega) hok) (fun h10 => ?_) (fun h10 => ?_)
 ·refine TL.rn 2 rfl (TL.ov (gV 1 (.agg (x.cells).toArray) K3 Kq) ?_);refine TL.gu ?_;refine TL.pS rfl o87 (fun w1 hw => KfM x hx w1) (fun h14 => ?_) (fun h14 => ?_)
  ·refine TL.rn 2 rfl (zET (zd (zk (zT (zSG (TL.as_ ?_))))));refine zET (zS (zSG (TL.as_ ?_)));refine zET (zB (TC.lp (α := {y : Nat × Nat // y.1 <= es.length /\ y.2 <= y.1 /\ Kbz es x y.1 y.2}) [2, 3, 4] rfl (fun y => [(7, .int .i64 ((y.1.1 : Nat) : Int)), (6, .int .i64 ((y.1.2 : Nat) : Int))]) (fun y => Pm w [.blk g4 32 [.slice none 0 0], .blk g3 110 x.cells, .blk g2 32 [.slice A0 es.length c0]]) (fun y => es.length - y.1.1) (⟨(0, 0), Nat.zero_le _, Nat.le_refl _, Kbz.start es x⟩) (fun w1 hw => hw) ?_));rintro ⟨⟨i, k⟩, hi, hk, hK⟩;dsimp only at hi hk hK ⊢;refine zS (zSG (TL.mv ?_));refine TL.v (gF KaN) ?_;refine TL.v (gL 2 KaI) ?_;refine TL.v (gN Tryz.underlying30) ?_;refine TL.sp Km (fun q22 => ?_) (fun q22 => ?_)
   ·refine zET (zc (zk (zT (zS (zB (zSG (TL.v (gF KaN) ?_)))))));refine TL.v (gL 2 KaI) ?_;refine TL.mv ?_;have hi28 : i < es.length := by omega
    obtain ⟨x28, hx28⟩ := Ko hi28;obtain ⟨b28, o28, hA28, hbb28, hc28⟩ := hr.ad (by omega) (by decide);refine TL.w rfl (gA (i := i) Tryz.underlying30 Kq rfl rfl rfl rfl hA28 (by omega)) ?_;refine TL.v (gR KI K3 Kq hbb28 hx28 hc28) ?_;refine TL.al Kaa fun g8 => ?_;refine TL.pstore (k := 0) (vs := x28.cells) rfl rfl rfl rfl rfl rfl rfl Kq (KI.one _) (by show 5 <= 5; decide) (L' := [.blk g8 110 x28.cells, .blk g4 32 [.slice none 0 0], .blk g3 110 x.cells, .blk g2 32 [.slice A0 es.length c0]]) rfl ?_;refine zET (zS (zSG (TL.v (gF KaL) ?_)));refine TL.v (gV 0 (.agg #[.int .u32 x28.addr, .int .i64 x28.len]) KaU KaW) ?_;refine TL.v (gF KaL) ?_;refine TL.v (gV 2 (.agg #[.int .u32 x.addr, .int .i64 x.len]) KaU KaW) ?_;refine TL.p1 rfl o88 (fun w1 hw => KeX x28.addr x28.len x.addr x.len (hok x28 (List.mem_of_getElem? hx28)) hx w1) ?_;refine TL.sp Kab (fun q35 => ?_) (fun q35 => ?_)
    ·refine TL.mv ?_;refine TL.ov (gF KaX) ?_;refine TL.ov (gL 0 Kb) ?_;refine TL.ov (gF KaK) ?_;refine TL.ov (gL 2 Kb) ?_;refine TL.gu ?_;refine TL.sp Km (fun q41 => ?_) (fun q41 => ?_)
     ·refine TL.rn 2 rfl (TL.ov (gF KaX) ?_);refine TL.ov (gL 2 Kb) ?_;refine TL.ov (gF KaK) ?_;refine TL.ov (gL 0 Kb) ?_;refine TL.gu ?_;refine TL.sp Km (fun q48 => ?_) (fun q48 => ?_)
      ·refine TL.pk ?_;refine zET (zc (zSG ?_));refine TL.w rfl (Kj (v := .agg #[.slice none 0 0]) rfl rfl (fun w => Kdi  w)) ?_;refine TL.pstore (k := 1) (vs := [.slice none 0 0]) rfl rfl rfl rfl rfl rfl rfl KE Kb9 (by show 1 <= 1; decide) (L' := [.blk g8 110 x28.cells, .blk g4 32 [.slice none 0 0], .blk g3 110 x.cells, .blk g2 32 [.slice A0 es.length c0]]) rfl ?_;refine TL.as_ ?_;refine zET (zr (zR (zRR (zR (zRR ?_)))));exact Kbi (k := 1) (v := .int .i64 9) Tryz.results38 rfl rfl rfl Tryz.underlying32 rfl rfl (fun w1 hw => ⟨⟨((none, 0), ([], 9)), fun h => absurd h (by decide), Nat.zero_le _, Nat.le_refl _, Nat.zero_le _⟩, rfl, (hw.pk []).nilrow _ _⟩)
      refine TL.pk ?_;refine zET (zd (zk (zT (zSG (TL.v (gV 0 (.agg (x28.cells).toArray) K3 Kq) ?_)))));refine TL.v (gV 2 (.agg (x.cells).toArray) K3 Kq) ?_;refine TL.pL (α := {z : Int // KdD x28 x z}) (r := fun z => .int .i64 z.1) (I' := fun _ => Pm w [.blk g8 110 x28.cells, .blk g4 32 [.slice none 0 0], .blk g3 110 x.cells, .blk g2 32 [.slice A0 es.length c0]]) rfl o89 (fun w1 hw => (Kek x28 x (hok x28 (List.mem_of_getElem? hx28)) hx w1).mono fun e w2 ⟨b, h1, h2⟩ => ⟨b, h1, hw.below h2⟩) ?_;rintro ⟨z53, hz53⟩;dsimp only;refine TL.sp Km (fun q54 => ?_) (fun q54 => ?_)
      ·refine zET (zc (zG (TL.mv ?_)));refine TL.v (gD ((i + 1 : Nat) : Int)) ?_;refine TL.as_ ?_;refine zE (zN (zT (zG (TL.mv ?_))));refine TL.v (gD ((i + 1 : Nat) : Int)) ?_;refine TL.as_ ?_;refine zE ?_;exact TX.rd (⟨(i + 1, i + 1), by dsimp only; omega, by dsimp only; omega, hK.step_lt hx28 (hz53.1 (by omega)) (by simp [OvE, q22, q35, q41, q48, q54]; try omega)⟩) (by show es.length - (i + 1) < es.length - i; omega) (fun w1 hw => hw.pk [1, 2, 3])
      refine zET (zd (zk (zN (zT (zG (TL.mv ?_))))));refine TL.v (gD ((i + 1 : Nat) : Int)) ?_;refine TL.as_ ?_;refine zE ?_;exact TX.rd (⟨(i + 1, k), by dsimp only; omega, by dsimp only; omega, hK.step_ge hx28 (by omega) (fun h => (hz53.2 (by omega))) (by simp [OvE, q22, q35, q41, q48, q54]; try omega)⟩) (by show es.length - (i + 1) < es.length - i; omega) (fun w1 hw => hw.pk [1, 2, 3])
     refine TL.rn 8 rfl (zET (zd (zk (zT (zSG (TL.v (gV 0 (.agg (x28.cells).toArray) K3 Kq) ?_))))));refine TL.v (gV 2 (.agg (x.cells).toArray) K3 Kq) ?_;refine TL.pL (α := {z : Int // KdD x28 x z}) (r := fun z => .int .i64 z.1) (I' := fun _ => Pm w [.blk g8 110 x28.cells, .blk g4 32 [.slice none 0 0], .blk g3 110 x.cells, .blk g2 32 [.slice A0 es.length c0]]) rfl o89 (fun w1 hw => (Kek x28 x (hok x28 (List.mem_of_getElem? hx28)) hx w1).mono fun e w2 ⟨b, h1, h2⟩ => ⟨b, h1, hw.below h2⟩) ?_;rintro ⟨z53, hz53⟩;dsimp only;refine TL.sp Km (fun q54 => ?_) (fun q54 => ?_)
     ·refine zET (zc (zG (TL.mv ?_)));refine TL.v (gD ((i + 1 : Nat) : Int)) ?_;refine TL.as_ ?_;refine zE (zN (zT (zG (TL.mv ?_))));refine TL.v (gD ((i + 1 : Nat) : Int)) ?_;refine TL.as_ ?_;refine zE ?_;exact TX.rd (⟨(i + 1, i + 1), by dsimp only; omega, by dsimp only; omega, hK.step_lt hx28 (hz53.1 (by omega)) (by simp [OvE, q22, q35, q41, q54]; try omega)⟩) (by show es.length - (i + 1) < es.length - i; omega) (fun w1 hw => hw.pk [1, 2, 3])
     refine zET (zd (zk (zN (zT (zG (TL.mv ?_))))));refine TL.v (gD ((i + 1 : Nat) : Int)) ?_;refine TL.as_ ?_;refine zE ?_;exact TX.rd (⟨(i + 1, k), by dsimp only; omega, by dsimp only; omega, hK.step_ge hx28 (by omega) (fun h => (hz53.2 (by omega))) (by simp [OvE, q22, q35, q41, q54]; try omega)⟩) (by show es.length - (i + 1) < es.length - i; omega) (fun w1 hw => hw.pk [1, 2, 3])
    refine TL.rn 14 rfl (zET (zd (zk (zT (zSG (TL.v (gV 0 (.agg (x28.cells).toArray) K3 Kq) ?_))))));refine TL.v (gV 2 (.agg (x.cells).toArray) K3 Kq) ?_;refine TL.pL (α := {z : Int // KdD x28 x z}) (r := fun z => .int .i64 z.1) (I' := fun _ => Pm w [.blk g8 110 x28.cells, .blk g4 32 [.slice none 0 0], .blk g3 110 x.cells, .blk g2 32 [.slice A0 es.length c0]]) rfl o89 (fun w1 hw => (Kek x28 x (hok x28 (List.mem_of_getElem? hx28)) hx w1).mono fun e w2 ⟨b, h1, h2⟩ => ⟨b, h1, hw.below h2⟩) ?_;rintro ⟨z53, hz53⟩;dsimp only;refine TL.sp Km (fun q54 => ?_) (fun q54 => ?_)
    ·refine zET (zc (zG (TL.mv ?_)));refine TL.v (gD ((i + 1 : Nat) : Int)) ?_;refine TL.as_ ?_;refine zE (zN (zT (zG (TL.mv ?_))));refine TL.v (gD ((i + 1 : Nat) : Int)) ?_;refine TL.as_ ?_;refine zE ?_;exact TX.rd (⟨(i + 1, i + 1), by dsimp only; omega, by dsimp only; omega, hK.step_lt hx28 (hz53.1 (by omega)) (by simp [OvE, q22, q35, q54]; try omega)⟩) (by show es.length - (i + 1) < es.length - i; omega) (fun w1 hw => hw.pk [1, 2, 3])
    refine zET (zd (zk (zN (zT (zG (TL.mv ?_))))));refine TL.v (gD ((i + 1 : Nat) : Int)) ?_;refine TL.as_ ?_;refine zE ?_;exact TX.rd (⟨(i + 1, k), by dsimp only; omega, by dsimp only; omega, hK.step_ge hx28 (by omega) (fun h => (hz53.2 (by omega))) (by simp [OvE, q22, q35, q54]; try omega)⟩) (by show es.length - (i + 1) < es.length - i; omega) (fun w1 hw => hw.pk [1, 2, 3])
   refine zET (zd (zx (zX (zX (zM (zT (zS (zSG (TL.v (gF KaN) ?_)))))))));refine TL.v (gL 2 KaI) ?_;refine TL.v (gN Tryz.underlying30) ?_;refine TL.sp Ka1 (fun q60 => ?_) (fun q60 => ?_)
   ·refine zET (zc (zSG ?_));refine TL.w rfl (Kj (v := .agg #[.slice none 0 0]) rfl rfl (fun w => Kdi  w)) ?_;refine TL.pstore (k := 0) (vs := [.slice none 0 0]) rfl rfl rfl rfl rfl rfl rfl KE Kb9 (by show 1 <= 1; decide) (L' := [.blk g4 32 [.slice none 0 0], .blk g3 110 x.cells, .blk g2 32 [.slice A0 es.length c0]]) rfl ?_;refine TL.as_ ?_;refine zET (zr (zR ?_));exact Kbi (k := 0) (v := .int .i64 5) Tryz.results38 rfl rfl rfl Tryz.underlying32 rfl rfl (fun w1 hw => ⟨⟨((none, 0), ([], 5)), fun h => absurd h (by decide), Nat.zero_le _, Nat.le_refl _, Nat.zero_le _⟩, rfl, (hw.pk []).nilrow _ _⟩)
   refine zET (zd (zk (zT (zS (TC.hd 16 (Pm w [.blk g3 110 x.cells, .blk g2 32 [.slice A0 es.length c0]]) (fun w1 hw => hw.pk [1, 2]) fun jS => ?_)))));refine TH.t 0 rfl (gF KaN) jS ?_;refine TH.t 1 rfl (gL 1 KaI) jS ?_;refine TH.t 2 rfl (Kk rfl rfl) jS ?_;refine TH.t 3 rfl (Kj4 (v := .slice A0 k c0) rfl rfl rfl (fun w => Kjr Tryz.underlying30 Kq _ _ _ k rfl (by omega) w)) jS ?_;refine TH.t 5 rfl (gV 0 (.agg (x.cells).toArray) K3 Kq) jS ?_;refine TH.t 8 rfl (gF KaN) jS ?_;refine TH.t 9 rfl (gL 1 KaI) jS ?_;refine TH.t 10 rfl (Kk rfl rfl) jS ?_;refine TH.t 11 rfl (KeC (v := .slice (if c0 = k then A0 else A0.map (·.add (k * 5))) (es.length - k) (c0 - k)) rfl rfl rfl (fun w => Kef Tryz.underlying30 Kq _ _ _ k rfl (by omega) w)) jS ?_;refine TH.two' 4 6 rfl rfl (by kernel_rfl) rfl rfl ?_ ?_
   ·refine TL.nilrow 110 5 ?_;refine TL.appendT (k := 0) rfl rfl rfl rfl Tryz.underlying30 KcF rfl rfl rfl (fun w1 hw => ⟨_, (Kd.headF KI (hr.up hw.bel) (by omega))⟩) (KB KI _) (by show _ * 40 <= _; omega) (k) ((Nat.zero_add _).symm) (Ka En.cells (es.take k)) (rfl) (fun A66 c66 hA661 hA662 => ?_);refine zE ?_;refine TX.held (fun w1 hw => hw.pk [2, 3]) ?_;refine TH.o 6 ?_;refine TL.prowS (e := 110) (size := 5) (cs := Ka En.cells [x]) rfl rfl rfl rfl rfl (fun w => Kgc _ _ _ _ _ w) (by decide) rfl (fun g68 => ?_);refine zE ?_;refine TX.held (fun w1 hw => hw.pk [3, 4]) ?_;refine TH.o 7 ?_;refine TL.appendT (k := 1) rfl rfl rfl rfl Tryz.underlying30 KcF rfl rfl rfl (fun w1 hw => KL hw (k := 0) rfl) (KB KI _) (by show _ * 40 <= _; omega) (k + 1) (rfl) (Ka En.cells ((es.take k) ++ [x])) ((KF _ _).symm) (fun A69 c69 hA691 hA692 => ?_);refine zE ?_;refine TX.held (fun w1 hw => hw.pk [3, 4]) ?_;refine TH.o 12 ?_;refine TL.appendT (k := 1) rfl rfl rfl rfl Tryz.underlying30 KcF rfl rfl rfl (fun w1 hw => ⟨_, (Kd.tailF KI (hr.up hw.bel) (by omega) (by omega))⟩) (KB KI _) (by show _ * 40 <= _; omega) (k + 1 + (es.length - k)) (rfl) (Ka En.cells (((es.take k) ++ [x]) ++ (es.drop k))) ((KF _ _).symm) (fun A74 c74 hA741 hA742 => ?_);refine zE ?_;refine TX.he (fun w1 hw => hw.pk [3, 4]) fun hS => ?_;refine TH.t 13 rfl (Kj (v := .agg #[.slice A74 (k + 1 + (es.length - k)) c74]) rfl rfl (fun w => Keu _ _ _ w)) hS ?_;refine TH.o 14 ?_;refine TL.pstore (k := 2) (vs := [.slice A74 (k + 1 + (es.length - k)) c74]) rfl rfl rfl rfl rfl rfl rfl KE Kb9 (by show 1 <= 1; decide) (L' := [.row (.slice (some ⟨g68, 0, none⟩) 1 1) 110 5 1 (Ka En.cells [x]), .row (.slice A74 (k + 1 + (es.length - k)) c74) 110 5 (k + 1 + (es.length - k)) (Ka En.cells (((es.take k) ++ [x]) ++ (es.drop k))), .blk g4 32 [.slice A74 (k + 1 + (es.length - k)) c74], .blk g3 110 x.cells, .blk g2 32 [.slice A0 es.length c0]]) rfl ?_;refine zE ?_;refine TX.he (fun w1 hw => hw.pk [3, 4]) fun hS => ?_;refine TH.t 15 rfl (KaD rfl rfl) hS ?_;refine TH.done (by kernel_rfl) ?_;refine zT (zr ?_);have hle : (((es.take k) ++ [x]) ++ (es.drop k)).length = k + 1 + (es.length - k) := by simp only [List.length_append, List.length_take, List.length_drop, List.length_cons, List.length_nil]; omega
    have hva : KA (((es.take k) ++ [x]) ++ (es.drop k)) = true := Kgt h10 (by rw [<- KdA hx]; exact h14) (by omega) hK.1 (fun z hz => hK.2.1 k (Nat.le_refl _) (by have := (List.getElem?_eq_some_iff.1 hz).1; omega) z hz) (fun j z hz => hK.2.2 j (by have := (List.getElem?_eq_some_iff.1 hz).1; omega) z hz);exact Kbi (k := 2) (v := .int .i64 0) Tryz.results38 rfl rfl rfl Tryz.underlying32 rfl rfl (fun w1 hw => ⟨⟨((A74, c74), (((es.take k) ++ [x]) ++ (es.drop k), 0)), fun _ => ⟨fun z h => KfB h, hva⟩, by dsimp only; omega, by dsimp only; omega, hA742⟩, by dsimp only; rw [hle], by dsimp only; rw [hle]; exact hw.pick [1] (by decide) rfl⟩)
   refine TL.prowS (e := 110) (size := 5) (cs := Ka En.cells [x]) rfl rfl rfl rfl rfl (fun w => Kgc _ _ _ _ _ w) (by decide) rfl (fun g68 => ?_);refine zE ?_;refine TX.held (fun w1 hw => hw.pk [2, 3]) ?_;refine TH.o 4 ?_;refine TL.nilrow 110 5 ?_;refine TL.appendT (k := 0) rfl rfl rfl rfl Tryz.underlying30 KcF rfl rfl rfl (fun w1 hw => ⟨_, (Kd.headF KI (hr.up hw.bel) (by omega))⟩) (KB KI _) (by show _ * 40 <= _; omega) (k) ((Nat.zero_add _).symm) (Ka En.cells (es.take k)) (rfl) (fun A66 c66 hA661 hA662 => ?_);refine zE ?_;refine TX.held (fun w1 hw => hw.pk [3, 4]) ?_;refine TH.o 7 ?_;refine TL.appendT (k := 0) rfl rfl rfl rfl Tryz.underlying30 KcF rfl rfl rfl (fun w1 hw => KL hw (k := 1) rfl) (KB KI _) (by show _ * 40 <= _; omega) (k + 1) (rfl) (Ka En.cells ((es.take k) ++ [x])) ((KF _ _).symm) (fun A69 c69 hA691 hA692 => ?_);refine zE ?_;refine TX.held (fun w1 hw => hw.pk [3, 4]) ?_;refine TH.o 12 ?_;refine TL.appendT (k := 0) rfl rfl rfl rfl Tryz.underlying30 KcF rfl rfl rfl (fun w1 hw => ⟨_, (Kd.tailF KI (hr.up hw.bel) (by omega) (by omega))⟩) (KB KI _) (by show _ * 40 <= _; omega) (k + 1 + (es.length - k)) (rfl) (Ka En.cells (((es.take k) ++ [x]) ++ (es.drop k))) ((KF _ _).symm) (fun A74 c74 hA741 hA742 => ?_);refine zE ?_;refine TX.he (fun w1 hw => hw.pk [3, 4]) fun hS => ?_;refine TH.t 13 rfl (Kj (v := .agg #[.slice A74 (k + 1 + (es.length - k)) c74]) rfl rfl (fun w => Keu _ _ _ w)) hS ?_;refine TH.o 14 ?_;refine TL.pstore (k := 2) (vs := [.slice A74 (k + 1 + (es.length - k)) c74]) rfl rfl rfl rfl rfl rfl rfl KE Kb9 (by show 1 <= 1; decide) (L' := [.row (.slice A74 (k + 1 + (es.length - k)) c74) 110 5 (k + 1 + (es.length - k)) (Ka En.cells (((es.take k) ++ [x]) ++ (es.drop k))), .row (.slice (some ⟨g68, 0, none⟩) 1 1) 110 5 1 (Ka En.cells [x]), .blk g4 32 [.slice A74 (k + 1 + (es.length - k)) c74], .blk g3 110 x.cells, .blk g2 32 [.slice A0 es.length c0]]) rfl ?_;refine zE ?_;refine TX.he (fun w1 hw => hw.pk [3, 4]) fun hS => ?_;refine TH.t 15 rfl (KaD rfl rfl) hS ?_;refine TH.done (by kernel_rfl) ?_;refine zT (zr ?_);have hle : (((es.take k) ++ [x]) ++ (es.drop k)).length = k + 1 + (es.length - k) := by simp only [List.length_append, List.length_take, List.length_drop, List.length_cons, List.length_nil]; omega
   have hva : KA (((es.take k) ++ [x]) ++ (es.drop k)) = true := Kgt h10 (by rw [<- KdA hx]; exact h14) (by omega) hK.1 (fun z hz => hK.2.1 k (Nat.le_refl _) (by have := (List.getElem?_eq_some_iff.1 hz).1; omega) z hz) (fun j z hz => hK.2.2 j (by have := (List.getElem?_eq_some_iff.1 hz).1; omega) z hz);exact Kbi (k := 2) (v := .int .i64 0) Tryz.results38 rfl rfl rfl Tryz.underlying32 rfl rfl (fun w1 hw => ⟨⟨((A74, c74), (((es.take k) ++ [x]) ++ (es.drop k), 0)), fun _ => ⟨fun z h => KfB h, hva⟩, by dsimp only; omega, by dsimp only; omega, hA742⟩, by dsimp only; rw [hle], by dsimp only; rw [hle]; exact hw.pick [0] (by decide) rfl⟩)
  refine TL.rn 2 rfl (zET (zc (zSG ?_)));refine TL.w rfl (Kj (v := .agg #[.slice none 0 0]) rfl rfl (fun w => Kdi  w)) ?_;refine TL.pstore (k := 0) (vs := [.slice none 0 0]) rfl rfl rfl rfl rfl rfl rfl KE Kb9 (by show 1 <= 1; decide) (L' := [.blk g4 32 [.slice none 0 0], .blk g3 110 x.cells, .blk g2 32 [.slice A0 es.length c0]]) rfl ?_;refine TL.as_ ?_;refine zET (zr (zR ?_));exact Kbi (k := 0) (v := .int .i64 1) Tryz.results38 rfl rfl rfl Tryz.underlying32 rfl rfl (fun w1 hw => ⟨⟨((none, 0), ([], 1)), fun h => absurd h (by decide), Nat.zero_le _, Nat.le_refl _, Nat.zero_le _⟩, rfl, (hw.pk []).nilrow _ _⟩)
 refine TL.rn 6 rfl (zET (zc (zSG ?_)));refine TL.w rfl (Kj (v := .agg #[.slice none 0 0]) rfl rfl (fun w => Kdi  w)) ?_;refine TL.pstore (k := 0) (vs := [.slice none 0 0]) rfl rfl rfl rfl rfl rfl rfl KE Kb9 (by show 1 <= 1; decide) (L' := [.blk g4 32 [.slice none 0 0], .blk g3 110 x.cells, .blk g2 32 [.slice A0 es.length c0]]) rfl ?_;refine TL.as_ ?_;refine zET (zr (zR ?_));exact Kbi (k := 0) (v := .int .i64 1) Tryz.results38 rfl rfl rfl Tryz.underlying32 rfl rfl (fun w1 hw => ⟨⟨((none, 0), ([], 1)), fun h => absurd h (by decide), Nat.zero_le _, Nat.le_refl _, Nat.zero_le _⟩, rfl, (hw.pk []).nilrow _ _⟩)
theorem Khg (cb : Nat) (w : World) (hC : Cod w cb) (m : Nat) (hm : m <= 100) :
  Calls Tryz.prog 11 #[.pointer (some ⟨cb, 0, none⟩), .int .i64 ((m : Nat) : Int)] w fun e w' => ∃ x : {y : (Option Addr × Nat) × List En // ((∀ e ∈ y.2, EnG e) /\ KA y.2 = true) /\ y.2.length <= m /\ y.2.length <= y.1.2 /\ y.1.2 <= maxLen}, e = .returned (.agg #[.slice x.1.1.1 x.1.2.length x.1.1.2]) /\ Codr (fun w => Cod w cb) cb w ([.row (.slice x.1.1.1 x.1.2.length x.1.1.2) 110 5 x.1.2.length (Ka En.cells x.1.2)]) w' := by
 refine Kg (I := Pm ⟨w, cb⟩ (.abs cb (fun w => Cod w cb) :: Kr cb w)) Tryz.func11 rfl rfl rfl ?_ (Pm.codes hC (Kbl hC) (KbD cb));refine zSG ?_;refine TL.al KbI fun g4 => ?_;refine zET (zSG ?_);refine TL.al KbI fun g5 => ?_;refine zET (zS (zSG (TL.rn 2 rfl (TL.v (gD ((m + 1 : Nat) : Int)) ?_))));refine TL.nx 2 rfl rfl fun k0 hk01 hk02 => ?_;refine TL.as_ ?_;refine zET (zB (TC.nilrow 110 5 ?_));refine TC.lp (α := {y : Nat × (Option Addr × Nat) × List En // y.1 + y.2.2.length <= m /\ ((∀ e ∈ y.2.2, EnG e) /\ KA y.2.2 = true) /\ y.2.2.length <= y.2.1.2 /\ y.2.1.2 <= maxLen}) [0, 4, 5] rfl (fun y => [(6, .int .i64 ((y.1.1 : Nat) : Int))]) (fun y => Pm ⟨w, cb⟩ ([.row (.slice y.1.2.1.1 y.1.2.2.length y.1.2.1.2) 110 5 y.1.2.2.length (Ka En.cells y.1.2.2), .blk g5 32 [.slice y.1.2.1.1 y.1.2.2.length y.1.2.1.2], .blk g4 32 [.slice none 0 0], .abs cb (fun w => Cod w cb)] ++ Kr cb w)) (fun y => y.1.1) (⟨(k0, (none, 0), []), by dsimp only [List.length_nil]; omega, ⟨fun e he => absurd he List.not_mem_nil, rfl⟩, Nat.le_refl _, Nat.zero_le _⟩) (fun w1 hw => hw) ?_;rintro ⟨⟨k, ⟨A, c⟩, es⟩, hk, hEn, hoc, hom⟩;dsimp only at hk hEn hoc hom ⊢;refine zS (zSG (TL.mv ?_));refine TL.sp KP (fun q14 => ?_) (fun q14 => ?_)
 ·refine zET (zc (zk (zT (zS (zB ?_)))));refine TC.join (α := {y : Nat × (Option Addr × Nat) × List En × Int // (y.2.2.2 = 0 -> ((∀ e ∈ y.2.2.1, EnG e) /\ KA y.2.2.1 = true) /\ y.2.2.1.length <= es.length + 1) /\ y.2.2.1.length <= y.2.1.2 /\ y.2.1.2 <= maxLen}) (fun y => [(0, .pointer (some ⟨cb, 0, none⟩)), (4, .pointer (some ⟨g4, 0, none⟩)), (5, .pointer (some ⟨g5, 0, none⟩)), (6, .int .i64 ((k : Nat) : Int)), (7, .pointer (some ⟨y.1.1, 0, none⟩)), (8, .int .i64 y.1.2.2.2)]) (fun y => Pm ⟨w, cb⟩ ([.row (.slice y.1.2.1.1 y.1.2.2.1.length y.1.2.1.2) 110 5 y.1.2.2.1.length (Ka En.cells y.1.2.2.1), .blk y.1.1 32 [.slice y.1.2.1.1 y.1.2.2.1.length y.1.2.1.2], .row (.slice A es.length c) 110 5 es.length (Ka En.cells es), .blk g5 32 [.slice A es.length c], .blk g4 32 [.slice none 0 0], .abs cb (fun w => Cod w cb)] ++ Kr cb w)) ?_ ?_
  ·refine TC.hd 10 (Pm ⟨w, cb⟩ [.blk g5 32 [.slice A es.length c]]) (fun w1 hw => hw.pk [1]) fun jS => ?_;refine TH.t 0 rfl (gV 0 (.agg #[.slice A es.length c]) K4 KE) jS ?_;refine TH.t 1 rfl (Kk rfl rfl) jS ?_;refine TH.two' 2 7 rfl rfl (by kernel_rfl) rfl rfl ?_ ?_
   ·refine TL.pC (k := 3) _ _ rfl o39 rfl (fun w1 hw hC1 => Kgj cb w1 hC1) ?_;rintro ⟨x20, hx20⟩;dsimp only [lC, lN];refine zE ?_;refine TX.held (fun w1 hw => hw.pk [1]) ?_;refine TH.two' 3 7 rfl rfl (by kernel_rfl) rfl rfl ?_ ?_
    ·refine TL.pM _ _ rfl o38 (fun w1 hw => KeD A c es x20 hx20.ok w1 (Kz hw (k := 0) rfl) (by omega) hoc (fun z hz => (hEn.1 z hz).ok)) ?_;rintro ⟨⟨⟨Ar, cr⟩, rs, er⟩, hrs, hrl, hrc, hrd⟩;dsimp only [lC, lN] at hrs hrl hrc hrd ⊢;refine zE ?_;refine TX.he (fun w1 hw => hw.pk [2]) fun hS => ?_;refine TH.t 4 rfl (Kk rfl rfl) hS ?_;refine TH.t 5 rfl (Kbb rfl rfl rfl) hS ?_;refine TH.t 6 rfl (Kbb rfl rfl rfl) hS ?_;refine TH.o 7 ?_;refine TL.al KbI fun g7 => ?_;refine zE ?_;refine TX.held (fun w1 hw => hw.pk [3]) ?_;refine TH.o 8 ?_;refine TL.ps 0 KE ?_;refine zE ?_;refine TX.he (fun w1 hw => hw.pk [3]) fun hS => ?_;refine TH.t 9 rfl (KaD rfl rfl) hS ?_;refine TH.done (by kernel_rfl) ?_;exact TX.jd (⟨(g7, (Ar, cr), rs, er), fun h0 => ⟨⟨fun e he => ((hrs h0).1 e he).elim (hEn.1 e) (fun h1 => by rw [h1]; exact hx20), (hrs h0).2⟩, hrl⟩, hrc, hrd⟩) (fun w1 hw => (show Pm ⟨w, cb⟩ ([.row (.slice Ar rs.length cr) 110 5 rs.length (Ka En.cells rs), .blk g7 32 [.slice Ar rs.length cr], .row (.slice A es.length c) 110 5 es.length (Ka En.cells es), .blk g5 32 [.slice A es.length c], .blk g4 32 [.slice none 0 0], .abs cb (fun w => Cod w cb)] ++ Kr cb w) w1 from hw.pickT 6 [1, 0, 2, 3, 4, 5] (by decide) (by decide) rfl rfl))
    refine TL.al KbI fun g7 => ?_;refine zE ?_;refine TX.held (fun w1 hw => hw.pk [2]) ?_;refine TH.o 3 ?_;refine TL.pM _ _ rfl o38 (fun w1 hw => KeD A c es x20 hx20.ok w1 (Kz hw (k := 1) rfl) (by omega) hoc (fun z hz => (hEn.1 z hz).ok)) ?_;rintro ⟨⟨⟨Ar, cr⟩, rs, er⟩, hrs, hrl, hrc, hrd⟩;dsimp only [lC, lN] at hrs hrl hrc hrd ⊢;refine zE ?_;refine TX.he (fun w1 hw => hw.pk [3]) fun hS => ?_;refine TH.t 4 rfl (Kk rfl rfl) hS ?_;refine TH.t 5 rfl (Kbb rfl rfl rfl) hS ?_;refine TH.t 6 rfl (Kbb rfl rfl rfl) hS ?_;refine TH.o 8 ?_;refine TL.ps 1 KE ?_;refine zE ?_;refine TX.he (fun w1 hw => hw.pk [3]) fun hS => ?_;refine TH.t 9 rfl (KaD rfl rfl) hS ?_;refine TH.done (by kernel_rfl) ?_;exact TX.jd (⟨(g7, (Ar, cr), rs, er), fun h0 => ⟨⟨fun e he => ((hrs h0).1 e he).elim (hEn.1 e) (fun h1 => by rw [h1]; exact hx20), (hrs h0).2⟩, hrl⟩, hrc, hrd⟩) (fun w1 hw => hw)
   refine TL.al KbI fun g7 => ?_;refine zE ?_;refine TX.held (fun w1 hw => hw.pk [2]) ?_;refine TH.o 2 ?_;refine TL.pC (k := 4) _ _ rfl o39 rfl (fun w1 hw hC1 => Kgj cb w1 hC1) ?_;rintro ⟨x20, hx20⟩;dsimp only [lC, lN];refine zE ?_;refine TX.held (fun w1 hw => hw.pk [2]) ?_;refine TH.o 3 ?_;refine TL.pM _ _ rfl o38 (fun w1 hw => KeD A c es x20 hx20.ok w1 (Kz hw (k := 1) rfl) (by omega) hoc (fun z hz => (hEn.1 z hz).ok)) ?_;rintro ⟨⟨⟨Ar, cr⟩, rs, er⟩, hrs, hrl, hrc, hrd⟩;dsimp only [lC, lN] at hrs hrl hrc hrd ⊢;refine zE ?_;refine TX.he (fun w1 hw => hw.pk [3]) fun hS => ?_;refine TH.t 4 rfl (Kk rfl rfl) hS ?_;refine TH.t 5 rfl (Kbb rfl rfl rfl) hS ?_;refine TH.t 6 rfl (Kbb rfl rfl rfl) hS ?_;refine TH.o 8 ?_;refine TL.ps 1 KE ?_;refine zE ?_;refine TX.he (fun w1 hw => hw.pk [3]) fun hS => ?_;refine TH.t 9 rfl (KaD rfl rfl) hS ?_;refine TH.done (by kernel_rfl) ?_;exact TX.jd (⟨(g7, (Ar, cr), rs, er), fun h0 => ⟨⟨fun e he => ((hrs h0).1 e he).elim (hEn.1 e) (fun h1 => by rw [h1]; exact hx20), (hrs h0).2⟩, hrl⟩, hrc, hrd⟩) (fun w1 hw => hw)
  rintro ⟨⟨g7, ⟨Ar, cr⟩, rs, er⟩, hrs, hrc, hrd⟩;dsimp only at hrs hrc hrd ⊢;refine zSG (TL.mv ?_);refine TL.sp Kab (fun q25 => ?_) (fun q25 => ?_)
  ·refine zET (zc (zG (TL.v (gV 1 (.agg #[.slice Ar rs.length cr]) K4 KE) ?_)));refine TL.ps 3 KE ?_;refine zE (zN (zT (zG (TL.mv ?_))));refine TL.w rfl (Kn rfl rfl rfl (fun w => K2 (r := ((k - 1 : Nat) : Int)) (by simp only [IntKind.wrap_i64]; omega) w)) ?_;refine TL.as_ ?_;refine zE ?_;exact TX.rd (⟨(k - 1, (Ar, cr), rs), by dsimp only; have := (hrs q25).2; omega, (hrs q25).1, hrc, hrd⟩) (by show k - 1 < k; omega) (fun w1 hw => hw.sel (.cons_cons _ (.cons _ (.cons _ (.cons_cons _ (.cons_cons _ (.cons_cons _ (List.Sublist.refl _))))))))
  refine zET (zd (zk (zN (zT (zG (TL.mv ?_))))));refine TL.w rfl (Kn rfl rfl rfl (fun w => K2 (r := ((k - 1 : Nat) : Int)) (by simp only [IntKind.wrap_i64]; omega) w)) ?_;refine TL.as_ ?_;refine zE ?_;exact TX.rd (⟨(k - 1, (A, c), es), by dsimp only; omega, hEn, hoc, hom⟩) (by show k - 1 < k; omega) (fun w1 hw => hw.sel (.cons _ (.cons _ (.cons_cons _ (.cons_cons _ (.cons_cons _ (.cons_cons _ (List.Sublist.refl _))))))))
 refine zET (zd (zx (zX (zX (zM (zT (zSG (TL.v (gV 1 (.agg #[.slice A es.length c]) K4 KE) ?_))))))));refine TL.ps 2 KE ?_;refine zET (zr ?_);exact Kb0 (k := 2) Tryz.results11 rfl rfl Tryz.underlying32 rfl rfl (fun w1 hw => ⟨⟨((A, c), es), hEn, by dsimp only; omega, hoc, hom⟩, rfl, Pm.codr [_] (hw.sel (.cons_cons _ (.cons _ (.cons _ (.cons_cons _ (List.Sublist.refl _)))))) rfl⟩)
set_option maxRecDepth 20000
def Kb3 (t : Trc) : Prop := (0 <= t.v /\ t.v <= 1) /\ (167774464 <= t.dst /\ t.dst <= 167774466) /\ (t.proto = 17 \/ t.proto = 1 \/ t.proto = 6)
structure Nt where
 v : Int
 dst : Int
 proto : Int
 ps : Sg (Sg Int)
 last : Int
def Nt.cells (n : Nt) : List Value := [.int .i64 n.v, .int .u32 n.dst, .int .i64 n.proto, .slice n.ps.A n.ps.l.length n.ps.c, .int .u32 n.last]
theorem KcE : Cel Nt.cells 5 := ⟨fun _ => rfl, fun r u hu => by
 simp only [Nt.cells, List.mem_cons, List.not_mem_nil, or_false] at hu;rcases hu with rfl | rfl | rfl | rfl | rfl <;> rfl⟩
def KcY (n : Nat) (l : List Int) : Prop := l.length = n /\ ∀ a ∈ l, 0 <= a /\ a <= 167772173
def KbL (n : Nt) : Prop := Kb3 ⟨n.v, n.dst, n.proto⟩ /\ (1 <= n.last /\ n.last <= 167774466) /\ ∃ lg, 1 <= lg /\ lg <= 3 /\ 1 <= n.ps.l.length /\ n.ps.l.length <= 3 /\ ∀ s ∈ n.ps.l, KcY lg s.l
theorem Kb5 {p : List Int} {x : Int} (h : ∀ a ∈ p, 0 <= a /\ a <= 167772173) (hx : 0 <= x /\ x <= 167772173) : ∀ a ∈ p ++ [x], 0 <= a /\ a <= 167772173 := fun a ha => by
 rcases List.mem_append.1 ha with ha | ha
 ·exact h a ha
 rw [List.mem_singleton.1 ha]; exact hx
theorem KjD {pp : List (Sg Int)} {s : Sg Int} {n : Nat} (h : ∀ s ∈ pp, KcY n s.l) (hs : KcY n s.l) : ∀ x ∈ pp ++ [s], KcY n x.l := fun a ha => by
 rcases List.mem_append.1 ha with ha | ha
 ·exact h a ha
 rw [List.mem_singleton.1 ha]; exact hs
def Kbo (p : Sg (Sg Int)) : List Pc := .row (.slice p.A p.l.length p.c) 70 1 p.l.length (Ka sgc p.l) :: Kal 42 1 (Ka (ic .u32)) p.l
theorem KdO (p : Sg (Sg Int)) : Kaw (Kbo p) = true := by
 have h := Kkd (e := 42) (size := 1) (enc := Ka (ic .u32)) p.l;simp only [Kaw, Kbo, List.all_cons, Bool.and_eq_true] at h ⊢;exact ⟨rfl, h⟩
section
variable {w0 : Base} {w : World} {α : Type} {e : TypeId} {size : Nat} {enc : List α -> List Value} {L P O : List Pc} {ss : List (Sg α)} {s : Sg α}
theorem Pm.tuckEnd (h : Pm w0 (.row (.slice s.A s.l.length s.c) e size s.l.length (enc s.l) :: (P ++ (Kal e size enc ss ++ O))) w) : Pm w0 (P ++ (Kal e size enc (ss ++ [s]) ++ O)) w := by
 refine h.permute ?_;have h1 : Kal e size enc (ss ++ [s]) = Kal e size enc ss ++ [.row (.slice s.A s.l.length s.c) e size s.l.length (enc s.l)] := List.map_append;rw [h1, List.append_assoc];refine List.perm_middle.symm.trans (List.Perm.append_left P ?_);exact List.perm_middle.symm
theorem Pm.netOut {p : Sg (Sg Int)} {a : Pc} (h : Pm w0 (.row (.slice p.A p.l.length p.c) 70 1 p.l.length (Ka sgc p.l) :: a :: (Kal 42 1 (Ka (ic .u32)) p.l ++ O)) w) : Pm w0 (Kbo p ++ a :: O) w := by
 refine h.permute (List.Perm.cons _ ?_);exact List.perm_middle.symm
theorem Kgy {T : List Pc} (h : s ∈ ss) : Pc.row (.slice s.A s.l.length s.c) e size s.l.length (enc s.l) ∈ Kal e size enc ss ++ T := List.mem_append_left _ (List.mem_map_of_mem (f := Sg.pc e size enc) h)
theorem KdJ {A : Option Addr} {n c : Nat} {xs : List Value} (h : Pm w0 L w) (hm : Pc.row (.slice A n c) e size n xs ∈ L) (hn : 0 < n) : ∃ g, A = some ⟨g, 0, none⟩ := by
 obtain ⟨k, hk⟩ := List.getElem?_of_mem hm;exact Kak h hk hn
theorem KdL {c : α -> List Value} {k g i : Nat} {x : α} (K : Cel c k) (h : Pm w0 L w) (hm : Pc.row (.slice s.A s.l.length s.c) e k s.l.length (Ka c s.l) ∈ L) (hA : s.A = some ⟨g, 0, none⟩) (hx : s.l[i]? = some x) (j : Nat) (u : Value) (hu : (c x)[j]? = some u) : w.cell? ⟨g, 0 + i * k + j, none⟩ = some u := by
 obtain ⟨q, hq⟩ := List.getElem?_of_mem hm;rw [hA] at hq;exact Ku K h hq hx j u hu
end
theorem Keg (w : World) : (zeroValue 100).run Tryz.prog w = .ok (.agg #[.int .i64 0, .int .u32 0, .int .i64 0, .slice none 0 0, .int .u32 0]) w := rfl
theorem KjS (a0_0 : Int) (a0_1 : Int) (a0_2 : Int) (w : World) : (Instr.build 100 #[(0, .agg #[.int .i64 a0_0, .int .u32 a0_1, .int .i64 a0_2])]).run Tryz.prog w = .ok (.agg #[.int .i64 a0_0, .int .u32 a0_1, .int .i64 a0_2, .slice none 0 0, .int .u32 0]) w := by kernel_rfl
theorem Kcm (w : World) : (sizeOf 100).run Tryz.prog w = .ok 5 w := rfl
theorem Kbp : FA Tryz.prog 100 0 0 := fun g o w => by kernel_rfl
theorem Keq : FA Tryz.prog 100 2 4 := fun g o w => by kernel_rfl
theorem KbJ : FA Tryz.prog 100 1 3 := fun g o w => by kernel_rfl
theorem Kcd (w : World) : (isAgg 56).run Tryz.prog w = .ok false w := rfl
theorem Kl2 (a0_0 : Option Addr) (a0_0n a0_0c : Nat) (w : World) : (Instr.buildSlice 56 1 #[(0, .slice a0_0 a0_0n a0_0c)]).run Tryz.prog w = .ok (.slice (some ⟨w.heap.size, 0, none⟩) 1 1) (w.alloc (.cells [.slice a0_0 a0_0n a0_0c].toArray 70)) := by kernel_rfl
theorem Kko : Elem Tryz.prog 56 70 1 24 := Elem.mk' Tryz.underlying56 (z := .slice none 0 0) (by kernel_rfl) rfl (by omega) (by omega)
theorem Kgw (w : World) : (sizeOf 56).run Tryz.prog w = .ok 1 w := rfl
theorem KfW (w : World) : (isAgg 100).run Tryz.prog w = .ok true w := rfl
theorem KkG (cb : Nat) (w : World) (hC : Cod w cb) :
  Calls Tryz.prog 51 #[.pointer (some ⟨cb, 0, none⟩)] w fun e w' => ∃ x : {v : Int // v = 17 \/ v = 1 \/ v = 6}, e = .returned (.int .i64 x.1) /\ Codr (fun w => Cod w cb) cb w ([]) w' := by
 refine Kg (I := Pm ⟨w, cb⟩ (.abs cb (fun w => Cod w cb) :: Kr cb w)) Tryz.func51 rfl rfl rfl ?_ (Pm.codes hC (Kbl hC) (KbD cb));refine zSG (TL.as_ ?_);refine zET (zSG (TL.mv ?_));refine TL.prowS (e := 3) (size := 1) (cs := Ka (ic .i64) [17, 1, 6]) rfl rfl rfl rfl rfl (fun w => Kdw _ _ _ w) (by decide) rfl (fun g4 => ?_);refine TL.pC (k := 1) _ _ rfl o27 rfl (fun w1 hw hC1 => KaP cb w1 hC1 g4 3 ([17, 1, 6]) (hw.neq (i := 0) (j := 1) rfl rfl (by decide) g4 rfl <| congrArg some ·.symm) (Pc.lt (hw.at_ (k := 0) rfl) g4 rfl).2 (by show 0 < ([17, 1, 6] : List Int).length; simp) (fun i v hi => KaQ hw (q := 0) rfl hi)) ?_;rintro ⟨v, hv⟩;dsimp only [lC, lN];have hvb : v = 17 \/ v = 1 \/ v = 6 := by simpa using hv
 refine TL.as_ ?_;refine zET (zr ?_);exact Kc Tryz.results51 rfl (fun w1 hw => ⟨⟨v, hvb⟩, rfl, Pm.codr [] (hw.sel (.cons _ (.cons_cons _ (List.Sublist.refl _)))) rfl⟩)
theorem Kiw (cb : Nat) (w : World) (hC : Cod w cb) :
  Calls Tryz.prog 85 #[.pointer (some ⟨cb, 0, none⟩)] w fun e w' => ∃ x : {t : Trc // Kb3 t}, e = .returned (.agg x.1.cells.toArray) /\ Codr (fun w => Cod w cb) cb w ([]) w' := by
 refine Kg (I := Pm ⟨w, cb⟩ (.abs cb (fun w => Cod w cb) :: Kr cb w)) Tryz.func85 rfl rfl rfl ?_ (Pm.codes hC (Kbl hC) (KbD cb));refine zSG ?_;refine TL.al Kdx fun g2 => ?_;refine zET (zSG (TL.mv ?_));refine TL.nx 1 rfl rfl fun a0 ha01 ha02 => ?_;refine TL.mv ?_;refine TL.nx 1 rfl rfl fun a1 ha11 ha12 => ?_;refine TL.v (gD ((167774464 + a1 : Nat) : Int)) ?_;refine TL.w rfl (Kay rfl rfl (fun w => Kbh (k := .i64) Tryz.underlying42 Tryz.underlying3 (by simp only [IntKind.wrap_u32]; omega) w)) ?_;refine TL.mv ?_;refine TL.pC (k := 1) _ _ rfl o51 rfl (fun w1 hw hC1 => KkG cb w1 hC1) ?_;rintro ⟨pp, hpp⟩;dsimp only [lC, lN];refine TL.w rfl (Kj (v := .agg #[.int .i64 ((a0 : Nat) : Int), .int .u32 ((167774464 + a1 : Nat) : Int), .int .i64 pp]) rfl rfl (fun w => Khf _ _ _ w)) ?_;refine TL.ps 0 KZ ?_;refine zET (zr ?_);exact Kb0 (k := 0) Tryz.results85 rfl rfl Tryz.underlying48 rfl rfl (fun w1 hw => ⟨⟨⟨((a0 : Nat) : Int), ((167774464 + a1 : Nat) : Int), pp⟩, by unfold Kb3; dsimp only; omega⟩, rfl, Pm.codr [] (hw.sel (.cons _ (.cons_cons _ (List.Sublist.refl _)))) rfl⟩)
theorem KeJ (cb : Nat) (w : World) (hC : Cod w cb) :
  Calls Tryz.prog 36 #[.pointer (some ⟨cb, 0, none⟩)] w fun e w' => ∃ x : {y : Nt // KbL y}, e = .returned (.agg x.1.cells.toArray) /\ Codr (fun w => Cod w cb) cb w (Kbo x.1.ps) w' := by
 refine Kg (I := Pm ⟨w, cb⟩ (.abs cb (fun w => Cod w cb) :: Kr cb w)) Tryz.func36 rfl rfl rfl ?_ (Pm.codes hC (Kbl hC) (KbD cb));refine zSG ?_;refine TL.al Keg fun g2 => ?_;refine zET (zSG (TL.mv ?_));refine TL.pC (k := 1) _ _ rfl o85 rfl (fun w1 hw hC1 => Kiw cb w1 hC1) ?_;rintro ⟨tr, htr⟩;dsimp only [lC, lN];refine TL.w rfl (Kj (v := .agg #[.int .i64 tr.v, .int .u32 tr.dst, .int .i64 tr.proto, .slice none 0 0, .int .u32 0]) rfl rfl (fun w => KjS _ _ _ w)) ?_;refine TL.al Keg fun g3 => ?_;refine TL.ps 0 Kcm ?_;refine zET (zS ?_);have htr2 := htr;unfold Kb3 at htr2;refine zG (TL.v (gF Kbp) ?_);refine TL.v (gF KcM) ?_;refine TL.v (gL 0 Kv) ?_;refine TL.v (gF Keq) ?_;refine TL.ps 0 Kbf ?_;refine zET ?_;refine TC.join (α := {a : Int // 1 <= a /\ a <= 167774466}) (fun y => [(0, .pointer (some ⟨cb, 0, none⟩)), (2, .pointer (some ⟨g2, 0, none⟩)), (3, .pointer (some ⟨g3, 0, none⟩))]) (fun y => Pm ⟨w, cb⟩ ([.blk g3 100 [.int .i64 tr.v, .int .u32 tr.dst, .int .i64 tr.proto, .slice none 0 0, .int .u32 y.1], .blk g2 100 [.int .i64 0, .int .u32 0, .int .i64 0, .slice none 0 0, .int .u32 0], .abs cb (fun w => Cod w cb)] ++ Kr cb w)) ?_ ?_
 ·refine zSG (TL.mv ?_);refine TL.pC (k := 2) _ _ rfl o10 rfl (fun w1 hw hC1 => Kba cb w1 hC1 4 (by decide)) ?_;rintro b0;dsimp only [lC, lN];refine zET ?_;refine TC.split (t := b0) rfl (fun c17 => ?_) (fun c17 => ?_)
  ·refine zG (TL.mv ?_);refine TL.pC (k := 2) _ _ rfl o52 rfl (fun w1 hw hC1 => Kd3 cb w1 hC1) ?_;rintro ⟨ad, had1, had2⟩;dsimp only [lC, lN];refine TL.v (gF Keq) ?_;refine TL.ps 0 Kbf ?_;refine zE ?_;exact TX.jd (⟨ad, by omega⟩) (fun w1 hw => hw)
  refine zk ?_;exact TX.jd (⟨tr.dst, by omega⟩) (fun w1 hw => hw)
 rintro ⟨la, hla⟩;dsimp only at hla ⊢;refine zSG (TL.mv ?_);refine TL.nx 2 rfl rfl fun lg hlg1 hlg2 => ?_;refine TL.v (gD ((lg + 1 : Nat) : Int)) ?_;refine TL.as_ ?_;refine zET (zS (zSG (TL.as_ ?_)));refine zET (zB (TC.nilrow 70 1 ?_));refine TC.lp (α := {y : Nat × (Option Addr × Nat) × List (Sg Int) // y.1 <= 3 /\ y.2.2.length = y.1 /\ (∀ s ∈ y.2.2, KcY (lg + 1) s.l) /\ y.2.2.length <= y.2.1.2 /\ y.2.1.2 <= maxLen}) [0, 2, 3, 4] rfl (fun y => [(5, .int .i64 ((y.1.1 : Nat) : Int))]) (fun y => Pm ⟨w, cb⟩ ([.row (.slice y.1.2.1.1 y.1.2.2.length y.1.2.1.2) 70 1 y.1.2.2.length (Ka sgc y.1.2.2), .blk g3 100 [.int .i64 tr.v, .int .u32 tr.dst, .int .i64 tr.proto, .slice y.1.2.1.1 y.1.2.2.length y.1.2.1.2, .int .u32 la], .blk g2 100 [.int .i64 0, .int .u32 0, .int .i64 0, .slice none 0 0, .int .u32 0], .abs cb (fun w => Cod w cb)] ++ (Kal 42 1 (Ka (ic .u32)) y.1.2.2 ++ Kr cb w))) (fun y => 3 - y.1.1) (⟨(0, (none, 0), []), Nat.zero_le _, rfl, fun s hs => absurd hs List.not_mem_nil, Nat.le_refl _, Nat.zero_le _⟩) (fun w1 hw => hw) ?_;rintro ⟨⟨f, ⟨Ap, cp⟩, pp⟩, hf, hfl, hpw, hpc, hpm⟩;dsimp only at hf hfl hpw hpc hpm ⊢;refine zS (zSG (TL.rn 2 rfl ?_));refine TL.nx 3 rfl rfl fun nf hnf1 hnf2 => ?_;refine TL.v (gD ((1 + nf : Nat) : Int)) ?_;refine TL.sp Km (fun q28 => ?_) (fun q28 => ?_)
 ·refine zET (zc (zk (zT (zS (zB (zSG (TL.as_ ?_)))))));refine zET (zS (zSG (TL.as_ ?_)));refine zET (zB (TC.nilrow 42 1 ?_));refine TC.lp (α := {y : Nat × (Option Addr × Nat) × List Int // y.1 <= lg + 1 /\ y.2.2.length = y.1 /\ (∀ a ∈ y.2.2, 0 <= a /\ a <= 167772173) /\ y.2.2.length <= y.2.1.2 /\ y.2.1.2 <= maxLen}) [0, 2, 3, 4, 5] rfl (fun y => [(7, .int .i64 ((y.1.1 : Nat) : Int)), (6, .slice y.1.2.1.1 y.1.2.2.length y.1.2.1.2)]) (fun y => Pm ⟨w, cb⟩ ([.row (.slice y.1.2.1.1 y.1.2.2.length y.1.2.1.2) 42 1 y.1.2.2.length (Ka (ic .u32) y.1.2.2), .row (.slice Ap pp.length cp) 70 1 pp.length (Ka sgc pp), .blk g3 100 [.int .i64 tr.v, .int .u32 tr.dst, .int .i64 tr.proto, .slice Ap pp.length cp, .int .u32 la], .blk g2 100 [.int .i64 0, .int .u32 0, .int .i64 0, .slice none 0 0, .int .u32 0], .abs cb (fun w => Cod w cb)] ++ (Kal 42 1 (Ka (ic .u32)) pp ++ Kr cb w))) (fun y => lg + 1 - y.1.1) (⟨(0, (none, 0), []), Nat.zero_le _, rfl, fun s hs => absurd hs List.not_mem_nil, Nat.le_refl _, Nat.zero_le _⟩) (fun w1 hw => hw) ?_;rintro ⟨⟨i, ⟨Aq, cq⟩, p⟩, hi, hil, hpr, hqc, hqm⟩;dsimp only at hi hil hpr hqc hqm ⊢;refine zS (zSG (TL.rn 2 rfl ?_));refine TL.sp Km (fun q33 => ?_) (fun q33 => ?_)
  ·refine zET (zc (zk (zT (zS (zB (zSG (TL.mv ?_)))))));refine TL.pC (k := 4) _ _ rfl o52 rfl (fun w1 hw hC1 => Kd3 cb w1 hC1) ?_;rintro ⟨ad, had1, had2⟩;dsimp only [lC, lN];refine TL.as_ ?_;refine zET (zS (zSG (TL.mv ?_)));refine TL.pC (k := 4) _ _ rfl o10 rfl (fun w1 hw hC1 => Kba cb w1 hC1 6 (by decide)) ?_;rintro b1;dsimp only [lC, lN];refine zET ?_;refine TC.split (t := b1) rfl (fun c39 => ?_) (fun c39 => ?_)
   ·refine zG (TL.as_ ?_);refine zET (zS (zSG (TL.mv ?_)));refine TL.sp KP (fun q41 => ?_) (fun q41 => ?_)
    ·refine TL.rn 2 rfl (TL.ov (gF KbJ) ?_);refine TL.ov (gL 2 Kcd) ?_;refine TL.gu ?_;refine TL.fact (p := ∃ g, Ap = some ⟨g, 0, none⟩) (fun w1 hw => Kak hw (k := 1) rfl (by omega)) ?_;rintro ⟨g_Ap, rfl⟩;have hi46 : 0 < pp.length := by omega
     obtain ⟨x46, hx46⟩ := Ko hi46;refine TL.w rfl (gA (i := 0) Tryz.underlying56 Kci rfl rfl rfl rfl rfl (by omega)) ?_;refine TL.gu ?_;refine TL.w rfl (KK (v := .slice x46.A x46.l.length x46.c) rfl rfl Kch (fun w1 hw => Ku KbA hw (q := 1) rfl hx46 0 _ rfl)) ?_;refine TL.ov (gN Tryz.underlying70) ?_;refine TL.gu ?_;refine TL.sp Km (fun q49 => ?_) (fun q49 => ?_)
     ·refine TL.rn 3 rfl (TL.gu ?_);refine TL.pC (k := 4) _ _ rfl o10 rfl (fun w1 hw hC1 => Kba cb w1 hC1 3 (by decide)) ?_;rintro b2;dsimp only [lC, lN]
      cases b2 with
      | true =>
       refine TL.rn 2 rfl (zET (zd (zk (zT (zG (TL.rn 2 rfl ?_))))));refine TL.prowS (e := 42) (size := 1) (cs := Ka (ic .u32) [0]) rfl rfl rfl rfl rfl (fun w => Ka7 _ w) (by decide) rfl (fun g65 => ?_);refine TL.appendT (k := 1) rfl rfl rfl rfl Tryz.underlying70 Kbm rfl rfl rfl (fun w1 hw => KL hw (k := 0) rfl) (KB (KO .u32) _) (by show _ * 4 <= _; omega) ((p ++ [0]).length) (by rw [List.length_append]; rfl) (Ka (ic .u32) (p ++ [0])) ((KF _ _).symm) (fun A66 c66 hA661 hA662 => ?_);refine TL.as_ ?_;refine zE (zN (zT (zG (TL.mv ?_))));refine TL.v (gD ((i + 1 : Nat) : Int)) ?_;refine TL.as_ ?_;refine zE ?_;exact TX.rd (⟨(i + 1, (A66, c66), p ++ [0]), by dsimp only; omega, by dsimp only; rw [List.length_append]; show p.length + 1 = i + 1; omega, Kb5 hpr (by omega), hA661, hA662⟩) (by show lg + 1 - (i + 1) < lg + 1 - i; omega) (fun w1 hw => hw.sel (.cons _ (.cons_cons _ (.cons_cons _ (.cons_cons _ (.cons_cons _ (.cons_cons _ (List.Sublist.refl _))))))))
      | false =>
       refine TL.rn 2 rfl (zET (zc (zG (TL.v (gF KbJ) ?_))));refine TL.v (gL 2 Kcd) ?_;refine TL.w rfl (gA (i := 0) Tryz.underlying56 Kci rfl rfl rfl rfl rfl (by omega)) ?_;refine TL.w rfl (KK (v := .slice x46.A x46.l.length x46.c) rfl rfl Kch (fun w1 hw => Ku KbA hw (q := 1) rfl hx46 0 _ rfl)) ?_;refine TL.mv ?_;have hmm61 := Kgy (e := 42) (size := 1) (enc := Ka (ic .u32)) (T := Kr cb w) (List.mem_of_getElem? hx46);refine TL.fact (p := ∃ g, x46.A = some ⟨g, 0, none⟩) (fun w1 hw => KdJ hw (List.mem_of_mem_drop (i := 5) (by exact hmm61)) (by omega)) ?_;rintro ⟨gx61, hgx61⟩;obtain ⟨z61, hz61⟩ : ∃ z, x46.l[i]? = some z := ⟨_, List.getElem?_eq_getElem (by omega)⟩;refine TL.w rfl (gA (i := i) Tryz.underlying70 Kbf rfl rfl rfl rfl hgx61 (by omega)) ?_;refine TL.w rfl (KK (v := .int .u32 z61) rfl rfl Kv (fun w1 hw => KdL (KO .u32) hw (List.mem_of_mem_drop (i := 5) (by exact hmm61)) hgx61 hz61 0 _ rfl)) ?_;have hzr := (hpw x46 (List.mem_of_getElem? hx46)).2 z61 (List.mem_of_getElem? hz61);refine TL.as_ ?_;refine zET (zG (TL.rn 2 rfl ?_));refine TL.prowS (e := 42) (size := 1) (cs := Ka (ic .u32) [z61]) rfl rfl rfl rfl rfl (fun w => Ka7 _ w) (by decide) rfl (fun g65 => ?_);refine TL.appendT (k := 1) rfl rfl rfl rfl Tryz.underlying70 Kbm rfl rfl rfl (fun w1 hw => KL hw (k := 0) rfl) (KB (KO .u32) _) (by show _ * 4 <= _; omega) ((p ++ [z61]).length) (by rw [List.length_append]; rfl) (Ka (ic .u32) (p ++ [z61])) ((KF _ _).symm) (fun A66 c66 hA661 hA662 => ?_);refine TL.as_ ?_;refine zE (zN (zT (zG (TL.mv ?_))));refine TL.v (gD ((i + 1 : Nat) : Int)) ?_;refine TL.as_ ?_;refine zE ?_;exact TX.rd (⟨(i + 1, (A66, c66), p ++ [z61]), by dsimp only; omega, by dsimp only; rw [List.length_append]; show p.length + 1 = i + 1; omega, Kb5 hpr (by exact hzr), hA661, hA662⟩) (by show lg + 1 - (i + 1) < lg + 1 - i; omega) (fun w1 hw => hw.sel (.cons _ (.cons_cons _ (.cons_cons _ (.cons_cons _ (.cons_cons _ (.cons_cons _ (List.Sublist.refl _))))))))
     refine TL.rn 6 rfl (zET (zd (zk (zT (zG (TL.rn 2 rfl ?_))))));refine TL.prowS (e := 42) (size := 1) (cs := Ka (ic .u32) [0]) rfl rfl rfl rfl rfl (fun w => Ka7 _ w) (by decide) rfl (fun g65 => ?_);refine TL.appendT (k := 1) rfl rfl rfl rfl Tryz.underlying70 Kbm rfl rfl rfl (fun w1 hw => KL hw (k := 0) rfl) (KB (KO .u32) _) (by show _ * 4 <= _; omega) ((p ++ [0]).length) (by rw [List.length_append]; rfl) (Ka (ic .u32) (p ++ [0])) ((KF _ _).symm) (fun A66 c66 hA661 hA662 => ?_);refine TL.as_ ?_;refine zE (zN (zT (zG (TL.mv ?_))));refine TL.v (gD ((i + 1 : Nat) : Int)) ?_;refine TL.as_ ?_;refine zE ?_;exact TX.rd (⟨(i + 1, (A66, c66), p ++ [0]), by dsimp only; omega, by dsimp only; rw [List.length_append]; show p.length + 1 = i + 1; omega, Kb5 hpr (by omega), hA661, hA662⟩) (by show lg + 1 - (i + 1) < lg + 1 - i; omega) (fun w1 hw => hw.sel (.cons _ (.cons_cons _ (.cons_cons _ (.cons_cons _ (.cons_cons _ (.cons_cons _ (List.Sublist.refl _))))))))
    refine TL.rn 14 rfl (zET (zd (zk (zT (zG (TL.rn 2 rfl ?_))))));refine TL.prowS (e := 42) (size := 1) (cs := Ka (ic .u32) [0]) rfl rfl rfl rfl rfl (fun w => Ka7 _ w) (by decide) rfl (fun g65 => ?_);refine TL.appendT (k := 1) rfl rfl rfl rfl Tryz.underlying70 Kbm rfl rfl rfl (fun w1 hw => KL hw (k := 0) rfl) (KB (KO .u32) _) (by show _ * 4 <= _; omega) ((p ++ [0]).length) (by rw [List.length_append]; rfl) (Ka (ic .u32) (p ++ [0])) ((KF _ _).symm) (fun A66 c66 hA661 hA662 => ?_);refine TL.as_ ?_;refine zE (zN (zT (zG (TL.mv ?_))));refine TL.v (gD ((i + 1 : Nat) : Int)) ?_;refine TL.as_ ?_;refine zE ?_;exact TX.rd (⟨(i + 1, (A66, c66), p ++ [0]), by dsimp only; omega, by dsimp only; rw [List.length_append]; show p.length + 1 = i + 1; omega, Kb5 hpr (by omega), hA661, hA662⟩) (by show lg + 1 - (i + 1) < lg + 1 - i; omega) (fun w1 hw => hw.sel (.cons _ (.cons_cons _ (.cons_cons _ (.cons_cons _ (.cons_cons _ (.cons_cons _ (List.Sublist.refl _))))))))
   refine zk (zT (zS (zSG ?_)));refine TL.mv ?_;refine TL.sp KP (fun q41 => ?_) (fun q41 => ?_)
   ·refine TL.rn 2 rfl (TL.ov (gF KbJ) ?_);refine TL.ov (gL 2 Kcd) ?_;refine TL.gu ?_;refine TL.fact (p := ∃ g, Ap = some ⟨g, 0, none⟩) (fun w1 hw => Kak hw (k := 1) rfl (by omega)) ?_;rintro ⟨g_Ap, rfl⟩;have hi46 : 0 < pp.length := by omega
    obtain ⟨x46, hx46⟩ := Ko hi46;refine TL.w rfl (gA (i := 0) Tryz.underlying56 Kci rfl rfl rfl rfl rfl (by omega)) ?_;refine TL.gu ?_;refine TL.w rfl (KK (v := .slice x46.A x46.l.length x46.c) rfl rfl Kch (fun w1 hw => Ku KbA hw (q := 1) rfl hx46 0 _ rfl)) ?_;refine TL.ov (gN Tryz.underlying70) ?_;refine TL.gu ?_;refine TL.sp Km (fun q49 => ?_) (fun q49 => ?_)
    ·refine TL.rn 3 rfl (TL.gu ?_);refine TL.pC (k := 4) _ _ rfl o10 rfl (fun w1 hw hC1 => Kba cb w1 hC1 3 (by decide)) ?_;rintro b2;dsimp only [lC, lN]
     cases b2 with
     | true =>
      refine TL.rn 2 rfl (zET (zd (zk (zT (zG (TL.rn 2 rfl ?_))))));refine TL.prowS (e := 42) (size := 1) (cs := Ka (ic .u32) [ad]) rfl rfl rfl rfl rfl (fun w => Ka7 _ w) (by decide) rfl (fun g65 => ?_);refine TL.appendT (k := 1) rfl rfl rfl rfl Tryz.underlying70 Kbm rfl rfl rfl (fun w1 hw => KL hw (k := 0) rfl) (KB (KO .u32) _) (by show _ * 4 <= _; omega) ((p ++ [ad]).length) (by rw [List.length_append]; rfl) (Ka (ic .u32) (p ++ [ad])) ((KF _ _).symm) (fun A66 c66 hA661 hA662 => ?_);refine TL.as_ ?_;refine zE (zN (zT (zG (TL.mv ?_))));refine TL.v (gD ((i + 1 : Nat) : Int)) ?_;refine TL.as_ ?_;refine zE ?_;exact TX.rd (⟨(i + 1, (A66, c66), p ++ [ad]), by dsimp only; omega, by dsimp only; rw [List.length_append]; show p.length + 1 = i + 1; omega, Kb5 hpr (by omega), hA661, hA662⟩) (by show lg + 1 - (i + 1) < lg + 1 - i; omega) (fun w1 hw => hw.sel (.cons _ (.cons_cons _ (.cons_cons _ (.cons_cons _ (.cons_cons _ (.cons_cons _ (List.Sublist.refl _))))))))
     | false =>
      refine TL.rn 2 rfl (zET (zc (zG (TL.v (gF KbJ) ?_))));refine TL.v (gL 2 Kcd) ?_;refine TL.w rfl (gA (i := 0) Tryz.underlying56 Kci rfl rfl rfl rfl rfl (by omega)) ?_;refine TL.w rfl (KK (v := .slice x46.A x46.l.length x46.c) rfl rfl Kch (fun w1 hw => Ku KbA hw (q := 1) rfl hx46 0 _ rfl)) ?_;refine TL.mv ?_;have hmm61 := Kgy (e := 42) (size := 1) (enc := Ka (ic .u32)) (T := Kr cb w) (List.mem_of_getElem? hx46);refine TL.fact (p := ∃ g, x46.A = some ⟨g, 0, none⟩) (fun w1 hw => KdJ hw (List.mem_of_mem_drop (i := 5) (by exact hmm61)) (by omega)) ?_;rintro ⟨gx61, hgx61⟩;obtain ⟨z61, hz61⟩ : ∃ z, x46.l[i]? = some z := ⟨_, List.getElem?_eq_getElem (by omega)⟩;refine TL.w rfl (gA (i := i) Tryz.underlying70 Kbf rfl rfl rfl rfl hgx61 (by omega)) ?_;refine TL.w rfl (KK (v := .int .u32 z61) rfl rfl Kv (fun w1 hw => KdL (KO .u32) hw (List.mem_of_mem_drop (i := 5) (by exact hmm61)) hgx61 hz61 0 _ rfl)) ?_;have hzr := (hpw x46 (List.mem_of_getElem? hx46)).2 z61 (List.mem_of_getElem? hz61);refine TL.as_ ?_;refine zET (zG (TL.rn 2 rfl ?_));refine TL.prowS (e := 42) (size := 1) (cs := Ka (ic .u32) [z61]) rfl rfl rfl rfl rfl (fun w => Ka7 _ w) (by decide) rfl (fun g65 => ?_);refine TL.appendT (k := 1) rfl rfl rfl rfl Tryz.underlying70 Kbm rfl rfl rfl (fun w1 hw => KL hw (k := 0) rfl) (KB (KO .u32) _) (by show _ * 4 <= _; omega) ((p ++ [z61]).length) (by rw [List.length_append]; rfl) (Ka (ic .u32) (p ++ [z61])) ((KF _ _).symm) (fun A66 c66 hA661 hA662 => ?_);refine TL.as_ ?_;refine zE (zN (zT (zG (TL.mv ?_))));refine TL.v (gD ((i + 1 : Nat) : Int)) ?_;refine TL.as_ ?_;refine zE ?_;exact TX.rd (⟨(i + 1, (A66, c66), p ++ [z61]), by dsimp only; omega, by dsimp only; rw [List.length_append]; show p.length + 1 = i + 1; omega, Kb5 hpr (by exact hzr), hA661, hA662⟩) (by show lg + 1 - (i + 1) < lg + 1 - i; omega) (fun w1 hw => hw.sel (.cons _ (.cons_cons _ (.cons_cons _ (.cons_cons _ (.cons_cons _ (.cons_cons _ (List.Sublist.refl _))))))))
    refine TL.rn 6 rfl (zET (zd (zk (zT (zG (TL.rn 2 rfl ?_))))));refine TL.prowS (e := 42) (size := 1) (cs := Ka (ic .u32) [ad]) rfl rfl rfl rfl rfl (fun w => Ka7 _ w) (by decide) rfl (fun g65 => ?_);refine TL.appendT (k := 1) rfl rfl rfl rfl Tryz.underlying70 Kbm rfl rfl rfl (fun w1 hw => KL hw (k := 0) rfl) (KB (KO .u32) _) (by show _ * 4 <= _; omega) ((p ++ [ad]).length) (by rw [List.length_append]; rfl) (Ka (ic .u32) (p ++ [ad])) ((KF _ _).symm) (fun A66 c66 hA661 hA662 => ?_);refine TL.as_ ?_;refine zE (zN (zT (zG (TL.mv ?_))));refine TL.v (gD ((i + 1 : Nat) : Int)) ?_;refine TL.as_ ?_;refine zE ?_;exact TX.rd (⟨(i + 1, (A66, c66), p ++ [ad]), by dsimp only; omega, by dsimp only; rw [List.length_append]; show p.length + 1 = i + 1; omega, Kb5 hpr (by omega), hA661, hA662⟩) (by show lg + 1 - (i + 1) < lg + 1 - i; omega) (fun w1 hw => hw.sel (.cons _ (.cons_cons _ (.cons_cons _ (.cons_cons _ (.cons_cons _ (.cons_cons _ (List.Sublist.refl _))))))))
   refine TL.rn 14 rfl (zET (zd (zk (zT (zG (TL.rn 2 rfl ?_))))));refine TL.prowS (e := 42) (size := 1) (cs := Ka (ic .u32) [ad]) rfl rfl rfl rfl rfl (fun w => Ka7 _ w) (by decide) rfl (fun g65 => ?_);refine TL.appendT (k := 1) rfl rfl rfl rfl Tryz.underlying70 Kbm rfl rfl rfl (fun w1 hw => KL hw (k := 0) rfl) (KB (KO .u32) _) (by show _ * 4 <= _; omega) ((p ++ [ad]).length) (by rw [List.length_append]; rfl) (Ka (ic .u32) (p ++ [ad])) ((KF _ _).symm) (fun A66 c66 hA661 hA662 => ?_);refine TL.as_ ?_;refine zE (zN (zT (zG (TL.mv ?_))));refine TL.v (gD ((i + 1 : Nat) : Int)) ?_;refine TL.as_ ?_;refine zE ?_;exact TX.rd (⟨(i + 1, (A66, c66), p ++ [ad]), by dsimp only; omega, by dsimp only; rw [List.length_append]; show p.length + 1 = i + 1; omega, Kb5 hpr (by omega), hA661, hA662⟩) (by show lg + 1 - (i + 1) < lg + 1 - i; omega) (fun w1 hw => hw.sel (.cons _ (.cons_cons _ (.cons_cons _ (.cons_cons _ (.cons_cons _ (.cons_cons _ (List.Sublist.refl _))))))))
  refine zET (zd (zx (zX (zX (zM (zT (zG (TL.v (gF KbJ) ?_))))))));refine TL.v (gL 2 Kcd) ?_;refine TL.mv ?_;refine TL.prowS (e := 70) (size := 1) (cs := Ka sgc [(⟨Aq, cq, p⟩ : Sg Int)]) rfl rfl rfl rfl rfl (fun w => Kl2 _ _ _ w) (by decide) rfl (fun g70 => ?_);refine TL.appendT (k := 2) rfl rfl rfl rfl Tryz.underlying56 Kko rfl rfl rfl (fun w1 hw => KL hw (k := 0) rfl) (KB KbA _) (by show _ * 24 <= _; omega) ((pp ++ [(⟨Aq, cq, p⟩ : Sg Int)]).length) (by rw [List.length_append]; rfl) (Ka sgc (pp ++ [(⟨Aq, cq, p⟩ : Sg Int)])) ((KF _ _).symm) (fun A71 c71 hA711 hA712 => ?_);refine TL.v (gF KbJ) ?_;refine TL.ps 3 Kgw ?_;refine zE (zN (zT (zG (TL.mv ?_))));refine TL.v (gD ((f + 1 : Nat) : Int)) ?_;refine TL.as_ ?_;refine zE ?_;exact TX.rd (⟨(f + 1, (A71, c71), pp ++ [(⟨Aq, cq, p⟩ : Sg Int)]), by dsimp only; omega, by dsimp only; rw [List.length_append]; show pp.length + 1 = f + 1; omega, KjD hpw ⟨by show p.length = _; omega, hpr⟩, hA711, hA712⟩) (by show 3 - (f + 1) < 3 - f; omega) (fun w1 hw => Pm.tuckEnd (s := ⟨Aq, cq, p⟩) (P := [.row (.slice A71 ((pp ++ [(⟨Aq, cq, p⟩ : Sg Int)]).length) c71) 70 1 ((pp ++ [(⟨Aq, cq, p⟩ : Sg Int)]).length) (Ka sgc (pp ++ [(⟨Aq, cq, p⟩ : Sg Int)])), .blk g3 100 [.int .i64 tr.v, .int .u32 tr.dst, .int .i64 tr.proto, .slice A71 ((pp ++ [(⟨Aq, cq, p⟩ : Sg Int)]).length) c71, .int .u32 la], .blk g2 100 [.int .i64 0, .int .u32 0, .int .i64 0, .slice none 0 0, .int .u32 0], .abs cb (fun w => Cod w cb)]) (hw.sel (.cons _ (.cons_cons _ (.cons_cons _ (.cons_cons _ (.cons_cons _ (.cons_cons _ (List.Sublist.refl _)))))))))
 refine zET (zd (zx (zX (zX (zM (zT (zSG (TL.v (gV 1 (.agg #[.int .i64 tr.v, .int .u32 tr.dst, .int .i64 tr.proto, .slice Ap pp.length cp, .int .u32 la]) KfW Kcm) ?_))))))));refine TL.ps 2 Kcm ?_;refine zET (zr ?_);exact Kb0 (k := 2) Tryz.results36 rfl rfl Tryz.underlying100 rfl rfl (fun w1 hw => ⟨⟨⟨tr.v, tr.dst, tr.proto, ⟨Ap, cp, pp⟩, la⟩, ⟨htr, hla, lg + 1, by omega, by omega, by show 1 <= pp.length; omega, by show pp.length <= 3; omega, hpw⟩⟩, rfl, Pm.codr (Kbo ⟨Ap, cp, pp⟩) (Pm.netOut (p := ⟨Ap, cp, pp⟩) (hw.sel (.cons_cons _ (.cons _ (.cons _ (.cons_cons _ (List.Sublist.refl _))))))) (KdO _)⟩)
end Go.Proofs.YtcicmplfmcloiaaGreat
