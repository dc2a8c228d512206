/-
  Texts of the proof, joined: Ds5, DcDraw, SqDraw, DcNet, DsOrc, BdAddr, BdReg, BdRef, R2a, R2b, R2c, R2d, R2e, R3a, DsSrh, Ds6, DsLaw, Ds7, Ds8, DsEnd, DsAwk, DsAw2, PtMpH, DsL5, DsSat, DsL4.
-/
import Derived.Test.YtcicmplfmcloiaaGreatDiscoverSatisfiedPk4
import Derived.Test.YtcicmplfmcloiaaGreatDiscoverSatisfiedPk2
import Derived.Test.YtcicmplfmcloiaaGreatDiscoverSatisfiedPk1
import Derived.Test.YtcicmplfmcloiaaGreatDiscoverSatisfiedPk3
set_option linter.unusedVariables false
set_option linter.unusedSimpArgs false
namespace Go.Proofs.YtcicmplfmcloiaaGreat
set_option maxHeartbeats 1000000
open Go.RowKit
set_option maxRecDepth 20000
structure Orc where
 dst : Int
 ps : Sg (Sg Int)
def Orc.cells (o : Orc) : List Value := [.int .u32 o.dst, .slice o.ps.A o.ps.l.length o.ps.c]
theorem Kqv (o : Orc) : ∀ u ∈ o.cells, u.oneCell' = true := by
 intro u hu;simp only [Orc.cells, List.mem_cons, List.not_mem_nil, or_false] at hu;rcases hu with rfl | rfl <;> rfl
def Kb9 (w : World) (B : Nat) (o : Orc) : Prop := Kd w B 1 o.ps.A o.ps.l.length (Kb sgc o.ps.l) /\ ∀ p ∈ o.ps.l, Kd w B 1 p.A p.l.length (Kb (ic .u32) p.l)
theorem Kb9.up {w w1 : World} {o : Orc} (h : Kb9 w w.heap.size o) (hb : Below w.heap.size w w1) : Kb9 w1 w1.heap.size o := ⟨Kd.up h.1 hb, fun p hp => Kd.up (h.2 p hp) hb⟩
structure OrcOk (o : Orc) : Prop where
 dst : 1 <= o.dst /\ o.dst <= 4294967295
 num : 1 <= o.ps.l.length /\ o.ps.l.length <= 128
 len : ∀ p ∈ o.ps.l, p.l.length <= 40
 out : ∀ p ∈ o.ps.l, o.dst ∉ p.l
 adr : ∀ p ∈ o.ps.l, ∀ a ∈ p.l, 0 <= a /\ a <= 4294967295
def Kge (p : Sg Int -> Bool) (l : List (Sg Int)) (z : Int) : Prop := (z = -1 /\ ∀ r ∈ l, p r = false) \/ ∃ i : Nat, z = (i : Int) /\ i < l.length /\ (∀ r ∈ l.take i, p r = false) /\ ∃ y, l[i]? = some y /\ p y = true
theorem KkH {p : Sg Int -> Bool} {l : List (Sg Int)} {z : Int} (h : Kge p l z) : l.any p = decide (z >= 0) := by
 rcases h with ⟨rfl, h⟩ | ⟨i, rfl, _, _, y, hy, hp⟩
 ·rw [List.any_eq_false.2 fun r hr => by rw [h r hr]; decide]; rfl
 rw [List.any_eq_true.2 ⟨y, List.mem_of_getElem? hy, hp⟩]; exact (decide_eq_true (by omega)).symm
theorem Kn6 {α : Type} (l : List α) : l.any (fun _ => false) = false := by induction l with
 | nil => rfl
 | cons x l ih => exact ih
theorem Kom (w : World) : (sizeOf 42).run Tryz.prog w = .ok 1 w := rfl
theorem KdT (w : World) : (isAgg 42).run Tryz.prog w = .ok false w := rfl
theorem Krm (w : World) : (sizeOf 70).run Tryz.prog w = .ok 1 w := rfl
theorem Knb (w : World) : (isAgg 70).run Tryz.prog w = .ok false w := rfl
theorem Khu (g o : Nat) (w : World) : (Instr.fieldAt 58 (.pointer (some ⟨g, o, none⟩)) 0).run Tryz.prog w = .ok (.pointer (some ⟨g, o + 0, none⟩)) w := by kernel_rfl
theorem KgW (g o : Nat) (w : World) : (Instr.fieldAt 58 (.pointer (some ⟨g, o, none⟩)) 1).run Tryz.prog w = .ok (.pointer (some ⟨g, o + 1, none⟩)) w := by kernel_rfl
theorem KgX (w : World) : (isAgg 56).run Tryz.prog w = .ok false w := rfl
theorem KoT : (Tryz.f107.name == "runtime.NumGoroutine") = false := by decide
theorem KsU : Tryz.f107.body.isNone = false := rfl
theorem KoA (w : World) : (isAgg 54).run Tryz.prog w = .ok true w := rfl
theorem Kst (w : World) : (sizeOf 54).run Tryz.prog w = .ok 8 w := rfl
theorem Kow (w : World) : (isAgg 58).run Tryz.prog w = .ok true w := rfl
theorem KnV (w : World) : (sizeOf 58).run Tryz.prog w = .ok 2 w := rfl
theorem KqV (g o : Nat) (w : World) : (Instr.fieldAt 54 (.pointer (some ⟨g, o, none⟩)) 0).run Tryz.prog w = .ok (.pointer (some ⟨g, o + 0, none⟩)) w := by kernel_rfl
theorem KqI (g o : Nat) (w : World) : (Instr.fieldAt 48 (.pointer (some ⟨g, o, none⟩)) 1).run Tryz.prog w = .ok (.pointer (some ⟨g, o + 1, none⟩)) w := by kernel_rfl
theorem KnB (A0 : Option Addr) (c0 : Nat) (xs : List Int) (a : Int) (w : World) (hr : Kd w w.heap.size 1 A0 xs.length (Kb (ic .u32) xs)) (hl1 : xs.length <= 35184372087808) :
  Calls Tryz.prog 162 #[.slice A0 xs.length c0, .int .u32 a] w fun e w' => ∃ x : {z : Int // (0 <= z ↔ a ∈ xs)}, e = .returned (.int .i64 x.1) /\ Below w.heap.size w w' := by
 refine Kj Tryz.func162 rfl rfl rfl ?_ (Pm.start w);refine zSG (TL.as_ ?_);refine zET (zS (zSG (TL.mv ?_)));refine TL.v (gN Tryz.underlying70) ?_;refine TL.mv ?_;refine zET (zB (TC.lp (α := {i : Nat // i <= xs.length /\ a ∉ xs.take i}) [0, 1, 7] rfl (fun y => [(8, .int .i64 ((y.1 : Nat) : Int))]) (fun y => Pm w []) (fun y => xs.length - y.1) (⟨0, Nat.zero_le _, List.not_mem_nil⟩) (fun w1 hw => hw) ?_));rintro ⟨i, hi, ht⟩
 try dsimp only at hi ht ⊢
 refine zSG ?_;refine TL.vw rfl (Ke rfl rfl rfl (fun w => Ko w)) (fun h9 => ?_) (fun h9 => ?_)
 ·have q9 := of_decide_eq_true h9;refine zET (zS (zc (zk (zT (zS (zB (zSG (TL.rn 2 rfl (zET (zSG (TL.rn 3 rfl ?_)))))))))));have hi14 : i < xs.length := by omega
  obtain ⟨x14, hx14⟩ := Kq hi14;obtain ⟨b14, o14, hA14, hbb14, hc14⟩ := hr.ad (by omega) (by decide);refine TL.w rfl (gA (i := i) Tryz.underlying70 Kom rfl rfl rfl rfl hA14 (by omega)) ?_;refine TL.w rfl (Kw (v := .int .u32 x14) rfl rfl KdT (fun w1 hw => (hw.bel.cell hbb14).trans <| KL (Km .u32) hx14 hc14 0 _ rfl)) ?_;refine TL.sp KG (fun q16 => ?_) (fun q16 => ?_)
  ·refine zET (zc (zSG (TL.rn 2 rfl (zET (zr (zRR (zR (zRR ?_))))))));exact Kg Tryz.results162 rfl (fun w1 hw => ⟨⟨(i : Int), ⟨fun _ => by rw [q16]; exact List.mem_of_getElem? hx14, fun _ => Int.natCast_nonneg _⟩⟩, rfl, hw.bel⟩)
  have ht2 : a ∉ xs.take (i + 1) := by rw [List.take_add_one, hx14]; exact fun hh => (List.mem_append.1 hh).elim ht (fun h9 => q16 (List.mem_singleton.1 h9))
  refine zET (zd (zk (zN (zT (zG (TL.v (gD ((i + 1 : Nat) : Int)) ?_))))));refine TL.mv ?_;refine zE ?_;exact TX.rd (⟨i + 1, by omega, ht2⟩) (by show xs.length - (i + 1) < xs.length - i; omega) (fun w1 hw => hw)
 have q9 := of_decide_eq_false h9;refine zET (zS (zd (zx (zX (zX (zM (zT (zSG (TL.as_ ?_)))))))));refine zET (zr ?_);exact Kg Tryz.results162 rfl (fun w1 hw => ⟨⟨-1, ⟨fun h => absurd h (by decide), fun h => absurd h (by rw [List.take_of_length_le (by omega)] at ht; exact ht)⟩⟩, rfl, hw.bel⟩)
theorem KqY (A0 : Option Addr) (c0 : Nat) (xs : List Int) (a : Int) (w : World) (hr : Kd w w.heap.size 1 A0 xs.length (Kb (ic .u32) xs)) (hl1 : xs.length <= 35184372087808) :
  Calls Tryz.prog 108 #[.slice A0 xs.length c0, .int .u32 a] w fun e w' => e = .returned (.bool (decide (a ∈ xs))) /\ Below w.heap.size w w' := by
 refine Kj Tryz.func108 rfl rfl rfl ?_ (Pm.start w);refine zSG (TL.as_ ?_);refine zET (zSG (TL.rn 2 rfl ?_));refine TL.pL (α := {z : Int // (0 <= z ↔ a ∈ xs)}) (r := fun x => .int .i64 x.1) (I' := fun _ => Pm w []) rfl Kn2 (fun w1 hw => (KnB A0 c0 xs a w1 (hr.up hw.bel) hl1).mono fun e w2 ⟨x, h1, h2⟩ => ⟨x, h1, hw.below h2⟩) ?_;rintro ⟨z, hz⟩;dsimp only;refine TL.sp KQ (fun q8 => ?_) (fun q8 => ?_)
 ·refine TL.as_ ?_;refine zET (zr ?_);have hE : decide (a ∈ xs) = true := decide_eq_true (hz.1 (by omega));exact Kg Tryz.results108 rfl (fun w1 hw => ⟨by rw [hE], hw.bel⟩)
 refine TL.as_ ?_;refine zET (zr ?_);have hE : decide (a ∈ xs) = false := decide_eq_false (fun h => q8 (hz.2 h));exact Kg Tryz.results108 rfl (fun w1 hw => ⟨by rw [hE], hw.bel⟩)
theorem KqF (A0 : Option Addr) (c0 : Nat) (l : List (Sg Int)) (p : Sg Int -> Bool) (f : FuncId) (fn : Func) (cap : Array Value) (w : World) (hr : Kd w w.heap.size 1 A0 l.length (Kb sgc l)) (hl1 : l.length <= 100000) (hfn : Tryz.prog.funcs[f]? = some fn) (hnm : (fn.name == "runtime.NumGoroutine") = false) (hbd : fn.body.isNone = false) (hf : ∀ (x : Sg Int), x ∈ l -> ∀ (w1 : World), Below w.heap.size w w1 -> Calls Tryz.prog f (#[] ++ [Value.slice x.A x.l.length x.c].toArray ++ cap) w1 fun e w' => e = .returned (.bool (p x)) /\ Below w1.heap.size w1 w') :
  Calls Tryz.prog 161 #[.slice A0 l.length c0, .func (.func f) #[] cap] w fun e w' => ∃ x : {z : Int // Kge p l z}, e = .returned (.int .i64 x.1) /\ Below w.heap.size w w' := by
 refine Kj Tryz.func161 rfl rfl rfl ?_ (Pm.start w);refine zSG (TL.as_ ?_);refine zET (zS (zSG (TL.mv ?_)));refine TL.v (gN Tryz.underlying56) ?_;refine TL.mv ?_;refine zET (zB ?_);refine TC.lp (α := {i : Nat // i <= l.length /\ ∀ r ∈ l.take i, p r = false}) [0, 1, 7] rfl (fun y => [(8, .int .i64 ((y.1 : Nat) : Int))]) (fun y => Pm w []) (fun y => l.length - y.1) (⟨0, Nat.zero_le _, fun r hr => by rw [List.take_zero] at hr; cases hr⟩) (fun w1 hw => hw) ?_;rintro ⟨i, hi, hall⟩
 try dsimp only at hi hall ⊢
 refine zSG ?_;refine TL.vw rfl (Ke rfl rfl rfl (fun w => Ko w)) (fun h9 => ?_) (fun h9 => ?_)
 ·have q9 := of_decide_eq_true h9;refine zET (zS (zc (zk (zT (zS (zB (zSG (TL.rn 2 rfl (zET (zSG (TL.rn 3 rfl ?_)))))))))));have hi14 : i < l.length := by omega
  obtain ⟨x14, hx14⟩ := Kq hi14;obtain ⟨b14, o14, hA14, hbb14, hc14⟩ := hr.ad (by omega) (by decide);refine TL.w rfl (gA (i := i) Tryz.underlying56 Krm rfl rfl rfl rfl hA14 (by omega)) ?_;refine TL.v (gS 0 KhB Knb hbb14 hx14 hc14) ?_;obtain ⟨bv, hbv⟩ : ∃ b, p x14 = b := ⟨_, rfl⟩;refine TL.callE1 (r := .bool bv) rfl rfl rfl (KcF rfl rfl rfl hfn hnm hbd rfl) (fun w1 hw => by rw [<- hbv]; exact hf x14 (List.mem_of_getElem? hx14) w1 hw.bel) ?_;refine zET ?_;refine TC.split (t := bv) rfl (fun c16 => ?_) (fun c16 => ?_)
  ·refine zSG (TL.rn 2 rfl (zET (zr (zRR (zR (zRR ?_))))));exact Kg Tryz.results161 rfl (fun w1 hw => ⟨⟨(i : Int), .inr ⟨i, rfl, by omega, hall, x14, hx14, by rw [hbv, c16]⟩⟩, rfl, hw.bel⟩)
  refine zk (zN (zT (zG ?_)));refine TL.v (gD ((i + 1 : Nat) : Int)) ?_;refine TL.mv ?_;refine zE ?_;exact TX.rd (⟨i + 1, by omega, fun r hr => by rcases (Kcx hx14).1 hr with h9 | h9; exact hall r h9; rw [h9, hbv, c16]⟩) (by show l.length - (i + 1) < l.length - i; omega) (fun w1 hw => hw)
 have q9 := of_decide_eq_false h9;refine zET (zS (zd (zx (zX (zX (zM (zT (zSG (TL.as_ ?_)))))))));refine zET (zr ?_);exact Kg Tryz.results161 rfl (fun w1 hw => ⟨⟨-1, .inl ⟨rfl, by rw [List.take_of_length_le (by omega)] at hall; exact hall⟩⟩, rfl, hw.bel⟩)
theorem Ktb (A0 : Option Addr) (c0 : Nat) (l : List (Sg Int)) (p : Sg Int -> Bool) (f : FuncId) (fn : Func) (cap : Array Value) (w : World) (hr : Kd w w.heap.size 1 A0 l.length (Kb sgc l)) (hl1 : l.length <= 100000) (hfn : Tryz.prog.funcs[f]? = some fn) (hnm : (fn.name == "runtime.NumGoroutine") = false) (hbd : fn.body.isNone = false) (hf : ∀ (x : Sg Int), x ∈ l -> ∀ (w1 : World), Below w.heap.size w w1 -> Calls Tryz.prog f (#[] ++ [Value.slice x.A x.l.length x.c].toArray ++ cap) w1 fun e w' => e = .returned (.bool (p x)) /\ Below w1.heap.size w1 w') :
  Calls Tryz.prog 106 #[.slice A0 l.length c0, .func (.func f) #[] cap] w fun e w' => e = .returned (.bool (l.any p)) /\ Below w.heap.size w w' := by
 refine Kj Tryz.func106 rfl rfl rfl ?_ (Pm.start w);refine zSG (TL.as_ ?_);refine zET (zSG (TL.rn 2 rfl ?_));refine TL.pM (α := {z : Int // Kge p l z}) (fun x => .int .i64 x.1) (fun x => []) rfl KrT (fun w1 hw => (KqF A0 c0 l p f fn cap w1 (hr.up hw.bel) hl1 hfn hnm hbd (fun x hx w2 hb => hf x hx w2 (hw.bel.trans (hb.mono hw.bel.size)))).mono fun en w2 ⟨x, h1, h2⟩ => ⟨x, h1, (Pm.start w1).below h2⟩) ?_;rintro ⟨z, hz⟩;dsimp only [lC, lN];refine TL.sp KQ (fun q8 => ?_) (fun q8 => ?_)
 ·refine TL.as_ ?_;refine zET (zr ?_);exact Kg Tryz.results106 rfl (fun w1 hw => ⟨by rw [KkH hz, decide_eq_true q8], hw.bel⟩)
 refine TL.as_ ?_;refine zET (zr ?_);exact Kg Tryz.results106 rfl (fun w1 hw => ⟨by rw [KkH hz, decide_eq_false q8], hw.bel⟩)
theorem Knt (p : Sg Int) (d : Int) (g1 : Nat) (w : World) (hp : Kd w w.heap.size 1 p.A p.l.length (Kb (ic .u32) p.l)) (hpl : p.l.length <= 40) (hnd : d ∉ p.l) (hb1 : g1 < w.heap.size) (hg1 : w.cell? ⟨g1, 0, none⟩ = some (.int .u32 d)) :
  Calls Tryz.prog 107 #[.slice p.A p.l.length p.c, .pointer (some ⟨g1, 0, none⟩)] w fun e w' => e = .returned (.bool false) /\ Below w.heap.size w w' := by
 refine Kj Tryz.func107 rfl rfl rfl ?_ (Pm.start w);refine zSG (TL.as_ ?_);refine zET (zSG (TL.mv ?_));refine TL.v (gN Tryz.underlying70) ?_;refine TL.sp KB (fun q6 => ?_) (fun q6 => ?_)
 ·exfalso; omega
 refine TL.rn 2 rfl (TL.ov (gF Khu) ?_);refine TL.gu ?_;refine TL.w rfl (Kw (v := .int .u32 d) rfl rfl KdT (fun w1 hw => (hw.bel.cell hb1).trans hg1)) ?_;refine TL.gu ?_;refine TL.pS rfl KqX (fun w1 hw => KqY p.A p.c p.l d w1 (hp.up hw.bel) (by omega)) (fun h11 => ?_) (fun h11 => ?_)
 ·exfalso; exact hnd (of_decide_eq_true h11)
 refine TL.rn 2 rfl (zET (zr ?_));exact Kg Tryz.results107 rfl (fun w1 hw => ⟨rfl, hw.bel⟩)
theorem KkK (o : Orc) (w : World) (hor : Kb9 w w.heap.size o) (ho : OrcOk o) :
  Calls Tryz.prog 50 #[.agg o.cells.toArray] w fun e w' => e = .returned (.bool true) /\ Below w.heap.size w w' := by
 refine Kj Tryz.func50 rfl rfl rfl ?_ (Pm.start w);refine zSG ?_;refine TL.bx fun g1 => ?_;refine TL.as_ ?_;refine zET (zS (zS ?_));have hod := ho.dst;have hon := ho.num;refine zG (TL.v (gF Khu) ?_);refine TL.v (gL 0 KdT) ?_;refine TL.sp KG (fun q5 => ?_) (fun q5 => ?_)
 ·exfalso; omega
 refine TL.mv ?_;refine TL.ov (gF KgW) ?_;refine TL.ov (gL 0 KgX) ?_;refine TL.ov (gN Tryz.underlying56) ?_;refine TL.gu ?_;refine TL.sp Ko (fun q10 => ?_) (fun q10 => ?_)
 ·exfalso; omega
 refine TL.rn 2 rfl (TL.ov (gF KgW) ?_);refine TL.ov (gL 0 KgX) ?_;refine TL.ov (gN Tryz.underlying56) ?_;refine TL.gu ?_;refine TL.sp KB (fun q16 => ?_) (fun q16 => ?_)
 ·exfalso; omega
 refine TL.pk ?_;refine zET (zd (zk (zT (zSG (TL.v (gF KgW) ?_)))));refine TL.v (gL 0 KgX) ?_;refine TL.w rfl (Kmh rfl rfl rfl) ?_;refine TL.p1 (r := .bool false) rfl Kqj (fun w1 hw => (Ktb o.ps.A o.ps.c o.ps.l (fun _ => false) 107 _ #[.pointer (some ⟨g1, 0, none⟩)] w1 (hor.1.up hw.bel) (by have := ho.num; omega) Tryz.func107 KoT KsU (fun x hx w2 hb => Knt x o.dst g1 w2 ((hor.2 x hx).up (hw.bel.trans (hb.mono hw.bel.size))) (ho.len x hx) (ho.out x hx) (Nat.lt_of_lt_of_le (Kgi hw (List.mem_of_getElem? (i := 0) rfl)).1 hb.size) ((hb.cell (Kgi hw (List.mem_of_getElem? (i := 0) rfl)).1).trans ((Kgi hw (List.mem_of_getElem? (i := 0) rfl)).2 0 _ rfl)))).mono fun e w2 h9 => ⟨by rw [h9.1, Kn6], h9.2⟩) ?_;refine TL.rn 2 rfl (zET (zr ?_));exact Kg Tryz.results50 rfl (fun w1 hw => ⟨rfl, hw.bel⟩)
theorem KpO (s : Srh) (o : Orc) (w : World) (hsr : Ka3 w w.heap.size s) (hs : SrhOk s) (hor : Kb9 w w.heap.size o) (ho : OrcOk o) (hdd : s.tr.dst = o.dst) :
  Calls Tryz.prog 53 #[.agg s.cells.toArray, .agg o.cells.toArray] w fun e w' => e = .returned (.bool true) /\ Below w.heap.size w w' := by
 refine Kj Tryz.func53 rfl rfl rfl ?_ (Pm.start w);refine zSG ?_;refine TL.bx fun g2 => ?_;refine TL.bx fun g3 => ?_;refine TL.as_ ?_;refine zET (zSG (TL.v (gV 1 (.agg (s.cells).toArray) KoA Kst) ?_));refine TL.p1 rfl o49 (fun w1 hw => KfX s w1 (hsr.up hw.bel) hs) ?_;refine TL.mv ?_;refine TL.ov (gV 0 (.agg (o.cells).toArray) Kow KnV) ?_;refine TL.gu ?_;refine TL.p1 rfl o50 (fun w1 hw => KkK o w1 (hor.up hw.bel) ho) ?_;refine TL.rn 2 rfl (TL.ov (gF KqV) ?_);refine TL.ov (gF KqI) ?_;refine TL.ov (gL 1 KdT) ?_;refine TL.ov (gF Khu) ?_;refine TL.ov (gL 0 KdT) ?_;refine TL.gu ?_;refine TL.sp KG (fun q17 => ?_) (fun q17 => ?_)
 ·refine TL.rn 2 rfl (zET (zr ?_));exact Kg Tryz.results53 rfl (fun w1 hw => ⟨rfl, hw.bel⟩)
 exfalso; exact q17 hdd
set_option maxRecDepth 20000
theorem Kcp (cb : Nat) : Kh8 cb (fun w => Cod w cb) := fun w1 w2 h hs => h.keep fun b hb => hs b (by omega)
theorem Kcb {w : World} {cb : Nat} (h : Cod w cb) : KeX w cb := by
 obtain ⟨A, m, c, l, k, hb, _⟩ := h;exact ⟨_, hb, rfl⟩
theorem Kic (cb : Nat) (w : World) (n : Int) (h : Cod w cb) :
  Calls Tryz.prog 37 #[.pointer (some ⟨cb, 0, none⟩), .int .i64 n] w fun e w' => ∃ x : {x : Nat // x <= 65535 /\ (1 <= n -> (x : Int) < n)}, e = .returned (.int .i64 (x.1 : Int)) /\ Codr (fun w => Cod w cb) cb w [] w' :=
 (KtX cb w n h).mono fun e w' ⟨x, he, h0, h1, h2, hc, hg, _⟩ => by
  obtain ⟨k, rfl⟩ := Int.eq_ofNat_of_zero_le h0;exact ⟨⟨k, by omega, h2⟩, he, hc, hg, Kcb hc, (fun q hq => absurd hq List.not_mem_nil), List.Pairwise.nil⟩
theorem Krh {w w1 : World} {cb : Nat} {p : Addr} (hg : w.grownBy w1 (some cb)) (hp : p.block ≠ cb) (hl : p.block < w.heap.size) : w1.cell? p = w.cell? p :=
 World.cell?_of_block (hg.block _ hl fun e => hp (by injection e))
theorem Kf1 {w0 : Base} {L : List Pc} {w : World} {q g n cc i : Nat} {e : TypeId} {k : IntKind} {l : List Int} {x : Int} (h : Pm w0 L w) (hk : L[q]? = some (.row (.slice (some ⟨g, 0, none⟩) n cc) e 1 n (Kb (ic k) l))) (hx : l[i]? = some x) : w.cell? ⟨g, i, none⟩ = some (.int k x) := by
 have := KN (Km k) h hk hx 0 _ rfl;rwa [show 0 + i * 1 + 0 = i by omega] at this
theorem Kqm (a0_0 : Int) (a1_0 : Int) (a2_0 : Int) (a3_0 : Int) (a4_0 : Int) (a5_0 : Int) (a6_0 : Int) (a7_0 : Int) (w : World) : (Instr.buildSlice 49 8 #[(0, .int .i64 a0_0), (1, .int .i64 a1_0), (2, .int .i64 a2_0), (3, .int .i64 a3_0), (4, .int .i64 a4_0), (5, .int .i64 a5_0), (6, .int .i64 a6_0), (7, .int .i64 a7_0)]).run Tryz.prog w = .ok (.slice (some ⟨w.heap.size, 0, none⟩) 8 8) (w.alloc (.cells [.int .i64 a0_0, .int .i64 a1_0, .int .i64 a2_0, .int .i64 a3_0, .int .i64 a4_0, .int .i64 a5_0, .int .i64 a6_0, .int .i64 a7_0].toArray 3)) := by kernel_rfl
theorem Kok (A : Option Addr) (n c : Nat) (l : List Int) (w : World) (hb : Byt w w.heap.size A n l) (hc : n <= c) (hn : (n : Int) <= 9223372036854775807) : Calls Tryz.prog 8 #[.slice A n c] w fun e w' => e = .returned (.pointer (some ⟨w.heap.size, 0, none⟩)) /\ Cod w' w.heap.size /\ Below w.heap.size w w' := by
 refine Kj (I := fun w1 => w1 = w) Tryz.func8 rfl rfl rfl ?_ rfl;refine zSG (TL.as_ ?_);refine zET (zSG (TL.mv ?_));refine TL.pL (α := Unit) (r := fun _ => .pointer (some ⟨w.heap.size, 0, none⟩)) (I' := fun _ w2 => Cod w2 w.heap.size /\ Below w.heap.size w w2) rfl o35 (fun w1 hw => by cases hw; exact (KqM A n c l w 400 hb hc (by omega) (by decide) (by decide)).mono fun e w2 ⟨h1, h2, h3, _⟩ => ⟨(), h1, h2, h3⟩) (fun _ => ?_);refine TL.as_ ?_;refine zET (zr ?_);exact Kg Tryz.results8 rfl (fun w1 hw => ⟨rfl, hw.1, hw.2⟩)
theorem KhJ (cb : Nat) (w : World) (hC : Cod w cb) (g c : Nat) (tab : List Int) (hgc : g ≠ cb) (hgl : g < w.heap.size) (h0 : 0 < tab.length) (hcell : ∀ (i : Nat) (v : Int), tab[i]? = some v -> w.cell? ⟨g, i, none⟩ = some (.int .i64 v)) :
  Calls Tryz.prog 27 #[.pointer (some ⟨cb, 0, none⟩), .slice (some ⟨g, 0, none⟩) tab.length c] w fun e w' => ∃ x : {v : Int // v ∈ tab}, e = .returned (.int .i64 x.1) /\ Codr (fun w => Cod w cb) cb w ([]) w' := by
 refine Kj (I := Pm ⟨w, cb⟩ (.abs cb (fun w => Cod w cb) :: K3 cb w)) Tryz.func27 rfl rfl rfl ?_ (Pm.codes hC (Kcb hC) (Kcp cb));refine zSG (TL.as_ ?_);refine zET (zSG (TL.rn 3 rfl (TL.v (gN Tryz.underlying49) ?_)));refine TL.pC (k := 0) _ _ rfl o37 rfl (fun w1 hw hC1 => Kic cb w1 (tab.length : Nat) hC1) ?_;rintro ⟨x, hx1, hx2⟩;dsimp only [lC, lN];refine TL.w rfl (KbI (v := .pointer (some ⟨g, x, none⟩)) rfl rfl rfl (fun w => KpH Tryz.underlying49 Kfr g _ _ x (by omega) rfl w)) ?_;obtain ⟨v, hv, hvt⟩ : ∃ v, tab[x]? = some v /\ v ∈ tab := ⟨_, List.getElem?_eq_getElem (by omega), List.getElem_mem _⟩;refine TL.w rfl (Kw (v := .int .i64 v) rfl rfl Kr (fun w1 hw => (Krh (hw.kept (fun q hq => by simp [hq])) (by show g ≠ cb; exact hgc) (by show g < _; exact hgl)).trans (hcell x v hv))) ?_;refine TL.as_ ?_;refine zET (zr ?_);exact Kg Tryz.results27 rfl (fun w1 hw => ⟨⟨v, hvt⟩, rfl, Pm.codr [] (hw) rfl⟩)
theorem Knp (cb : Nat) (w : World) (hC : Cod w cb) :
  Calls Tryz.prog 52 #[.pointer (some ⟨cb, 0, none⟩)] w fun e w' => ∃ x : {a : Int // 167772161 <= a /\ a <= 167772173}, e = .returned (.int .u32 x.1) /\ Codr (fun w => Cod w cb) cb w ([]) w' := by
 refine Kj (I := Pm ⟨w, cb⟩ (.abs cb (fun w => Cod w cb) :: K3 cb w)) Tryz.func52 rfl rfl rfl ?_ (Pm.codes hC (Kcb hC) (Kcp cb));refine zSG (TL.as_ ?_);refine zET (zSG (TL.mv ?_));refine TL.prowS (e := 3) (size := 1) (cs := Kb (ic .i64) [1, 2, 5, 6, 9, 10, 12, 13]) rfl rfl rfl rfl rfl (fun w => Kqm _ _ _ _ _ _ _ _ w) (by decide) rfl (fun g4 => ?_);refine TL.pC (k := 1) _ _ rfl o27 rfl (fun w1 hw hC1 => KhJ cb w1 hC1 g4 8 ([1, 2, 5, 6, 9, 10, 12, 13]) (hw.neq (i := 0) (j := 1) rfl rfl (by decide) g4 rfl <| congrArg some ·.symm) (Pc.lt (hw.at_ (k := 0) rfl) g4 rfl).2 (by show 0 < ([1, 2, 5, 6, 9, 10, 12, 13] : List Int).length; simp) (fun i v hi => Kf1 hw (q := 0) rfl hi)) ?_;rintro ⟨v, hv⟩;dsimp only [lC, lN];have hvb : 1 <= v /\ v <= 13 := by simp only [List.mem_cons, List.not_mem_nil, or_false] at hv; omega
 refine TL.v (gD (167772160 + v)) ?_;refine TL.w rfl (KaK rfl rfl (fun w => Kbb (k := .i64) Tryz.underlying42 Tryz.underlying3 (by simp only [IntKind.wrap_u32]; omega) w)) ?_;refine TL.as_ ?_;refine zET (zr ?_);exact Kg Tryz.results52 rfl (fun w1 hw => ⟨⟨167772160 + v, by omega⟩, rfl, Pm.codr [] (hw.sel (.cons _ (.cons_cons _ (List.Sublist.refl _)))) rfl⟩)
theorem Koc (cb : Nat) (w : World) (hC : Cod w cb) (n : Nat) (hn : n <= 1000) :
  Calls Tryz.prog 10 #[.pointer (some ⟨cb, 0, none⟩), .int .i64 ((n : Nat) : Int)] w fun e w' => ∃ x : Bool, e = .returned (.bool x) /\ Codr (fun w => Cod w cb) cb w ([]) w' := by
 refine Kj (I := Pm ⟨w, cb⟩ (.abs cb (fun w => Cod w cb) :: K3 cb w)) Tryz.func10 rfl rfl rfl ?_ (Pm.codes hC (Kcb hC) (Kcp cb));refine zSG (TL.as_ ?_);refine zET (zSG (TL.rn 2 rfl ?_));refine TL.pC (k := 0) _ _ rfl o37 rfl (fun w1 hw hC1 => Kic cb w1 ((n : Nat) : Int) hC1) ?_;rintro ⟨x, hx1, hx2⟩;dsimp only [lC, lN];refine TL.mv ?_;refine TL.w rfl (Ke rfl rfl rfl (fun w => Ky (r := (n : Int) - 1) (by simp only [IntKind.wrap_i64]; omega) w)) ?_;refine TL.w rfl (Ke rfl rfl rfl (fun w => KG w)) ?_;refine TL.as_ ?_;refine zET (zr ?_);exact Kg Tryz.results10 rfl (fun w1 hw => ⟨decide (((x : Nat) : Int) = (n : Int) - 1), rfl, Pm.codr [] (hw) rfl⟩)
set_option linter.unusedVariables false
theorem Krx : Kn Tryz.prog 37 := ⟨_, Tryz.func37, by decide, rfl⟩
theorem TL.nx {N : Fr} {Q : Exit -> Act -> World -> Prop} {E : Env} {ops : Array Oper} {l : List Oper} {o : Oper} {w0 : Base} {L : List Pc} {d cb : Nat} {n : Int} (k : Nat) (h0 : KbA N E o = some (d, 37, [.pointer (some ⟨cb, 0, none⟩), .int .i64 n]))
    (hk : L[k]? = some (.abs cb fun w => Cod w cb)) (h : ∀ q : Nat, q <= 65535 -> (1 <= n -> (q : Int) < n) -> TL Tryz.prog N ops Q l ((d, .int .i64 ((q : Nat) : Int)) :: E) (Pm w0 L)) : TL Tryz.prog N ops Q (o :: l) E (Pm w0 L) :=
  TL.pC (α := {q : Nat // q <= 65535 /\ (1 <= n -> (q : Int) < n)}) (fun q => .int .i64 ((q.1 : Nat) : Int)) (fun _ => []) h0 Krx hk (fun w1 hw hC1 => Kic cb w1 n hC1) (fun ⟨q, h1, h2⟩ => h q h1 h2)
set_option maxRecDepth 20000
structure Nt where
 v : Int
 dst : Int
 proto : Int
 ps : Sg (Sg Int)
 last : Int
def Nt.cells (n : Nt) : List Value := [.int .i64 n.v, .int .u32 n.dst, .int .i64 n.proto, .slice n.ps.A n.ps.l.length n.ps.c, .int .u32 n.last]
theorem KjL {p : List Int} {x : Int} (h : ∀ a ∈ p, 0 <= a /\ a <= 167772173) (hx : 0 <= x /\ x <= 167772173) : ∀ a ∈ p ++ [x], 0 <= a /\ a <= 167772173 := fun a ha => by
 rcases List.mem_append.1 ha with ha | ha
 ·exact h a ha
 rw [List.mem_singleton.1 ha]; exact hx
def KaY (p : Sg (Sg Int)) : List Pc := .row (.slice p.A p.l.length p.c) 70 1 p.l.length (Kb sgc p.l) :: KI 42 1 (Kb (ic .u32)) p.l
theorem Kmj (p : Sg (Sg Int)) : Kam (KaY p) = true := by
 have h := Khi (e := 42) (size := 1) (enc := Kb (ic .u32)) p.l;simp only [Kam, KaY, List.all_cons, Bool.and_eq_true] at h ⊢;exact ⟨rfl, h⟩
section
variable {w0 : Base} {w : World} {α : Type} {e : TypeId} {size : Nat} {enc : List α -> List Value} {L P O : List Pc} {ss : List (Sg α)} {s : Sg α}
theorem Pm.tuckEnd (h : Pm w0 (.row (.slice s.A s.l.length s.c) e size s.l.length (enc s.l) :: (P ++ (KI e size enc ss ++ O))) w) : Pm w0 (P ++ (KI e size enc (ss ++ [s]) ++ O)) w := by
 refine h.permute ?_;have h1 : KI e size enc (ss ++ [s]) = KI e size enc ss ++ [.row (.slice s.A s.l.length s.c) e size s.l.length (enc s.l)] := List.map_append;rw [h1, List.append_assoc];refine List.perm_middle.symm.trans (List.Perm.append_left P ?_);exact List.perm_middle.symm
theorem Pm.netOut {p : Sg (Sg Int)} {a : Pc} (h : Pm w0 (.row (.slice p.A p.l.length p.c) 70 1 p.l.length (Kb sgc p.l) :: a :: (KI 42 1 (Kb (ic .u32)) p.l ++ O)) w) : Pm w0 (KaY p ++ a :: O) w := by
 refine h.permute (List.Perm.cons _ ?_);exact List.perm_middle.symm
theorem Kse {A : Option Addr} {n c : Nat} {xs : List Value} (h : Pm w0 L w) (hm : Pc.row (.slice A n c) e size n xs ∈ L) (hn : 0 < n) : ∃ g, A = some ⟨g, 0, none⟩ := by
 obtain ⟨k, hk⟩ := List.getElem?_of_mem hm;exact Kci h hk hn
end
theorem Ktg (cb : Nat) (w : World) (hC : Cod w cb) :
  Calls Tryz.prog 51 #[.pointer (some ⟨cb, 0, none⟩)] w fun e w' => ∃ x : {v : Int // v = 17 \/ v = 1 \/ v = 6}, e = .returned (.int .i64 x.1) /\ Codr (fun w => Cod w cb) cb w ([]) w' := by
 refine Kj (I := Pm ⟨w, cb⟩ (.abs cb (fun w => Cod w cb) :: K3 cb w)) Tryz.func51 rfl rfl rfl ?_ (Pm.codes hC (Kcb hC) (Kcp cb));refine zSG (TL.as_ ?_);refine zET (zSG (TL.mv ?_));refine TL.prowS (e := 3) (size := 1) (cs := Kb (ic .i64) [17, 1, 6]) rfl rfl rfl rfl rfl (fun w => Kib _ _ _ w) (by decide) rfl (fun g4 => ?_);refine TL.pC (k := 1) _ _ rfl o27 rfl (fun w1 hw hC1 => KhJ cb w1 hC1 g4 3 ([17, 1, 6]) (hw.neq (i := 0) (j := 1) rfl rfl (by decide) g4 rfl <| congrArg some ·.symm) (Pc.lt (hw.at_ (k := 0) rfl) g4 rfl).2 (by show 0 < ([17, 1, 6] : List Int).length; simp) (fun i v hi => Kf1 hw (q := 0) rfl hi)) ?_;rintro ⟨v, hv⟩;dsimp only [lC, lN];have hvb : v = 17 \/ v = 1 \/ v = 6 := by simpa using hv
 refine TL.as_ ?_;refine zET (zr ?_);exact Kg Tryz.results51 rfl (fun w1 hw => ⟨⟨v, hvb⟩, rfl, Pm.codr [] (hw.sel (.cons _ (.cons_cons _ (List.Sublist.refl _)))) rfl⟩)
set_option maxRecDepth 20000
def KdA (n : Nat) (l : List Int) : Prop := l.length <= n /\ ∀ a ∈ l, 0 <= a /\ a <= 167772173
theorem Kpt {pp : List (Sg Int)} {s : Sg Int} {n : Nat} (h : ∀ s ∈ pp, KdA n s.l) (hs : KdA n s.l) : ∀ x ∈ pp ++ [s], KdA n x.l := fun a ha => by
 rcases List.mem_append.1 ha with ha | ha
 ·exact h a ha
 rw [List.mem_singleton.1 ha]; exact hs
theorem Kt3 {A : Option Addr} {c mo : Nat} {pp : List (Sg Int)} (h1 : 1 <= pp.length /\ pp.length <= 128) (hmo : mo <= 30) (h : ∀ s ∈ pp, KdA mo s.l) : OrcOk ⟨167774464, ⟨A, c, pp⟩⟩ /\ (⟨167774464, ⟨A, c, pp⟩⟩ : Orc).dst = 167774464 := ⟨⟨(show (1 : Int) <= 167774464 /\ (167774464 : Int) <= 4294967295 by decide), h1, fun p hp => by have := (h p hp).1; omega, fun p hp hd => by have := (h p hp).2 _ hd; dsimp only at this; omega, fun p hp a ha => by have := (h p hp).2 a ha; omega⟩, rfl⟩
theorem KgK (w : World) : (zeroValue 58).run Tryz.prog w = .ok (.agg #[.int .u32 0, .slice none 0 0]) w := rfl
theorem Kn8 (a0_0 : Int) (w : World) : (Instr.build 58 #[(0, .int .u32 a0_0)]).run Tryz.prog w = .ok (.agg #[.int .u32 a0_0, .slice none 0 0]) w := by kernel_rfl
theorem Kdc (w : World) : (sizeOf 58).run Tryz.prog w = .ok 2 w := rfl
theorem KiV (a0_0 : Int) (w : World) : (Instr.buildSlice 70 1 #[(0, .int .u32 a0_0)]).run Tryz.prog w = .ok (.slice (some ⟨w.heap.size, 0, none⟩) 1 1) (w.alloc (.cells [.int .u32 a0_0].toArray 42)) := by kernel_rfl
theorem Kki : Elem Tryz.prog 70 42 1 4 := Elem.mk' Tryz.underlying70 (z := .int .u32 0) (by kernel_rfl) rfl (by omega) (by omega)
theorem Kjp : FA Tryz.prog 58 1 1 := fun g o w => by kernel_rfl
theorem Knr (w : World) : (isAgg 56).run Tryz.prog w = .ok false w := rfl
theorem Kmc (a0_0 : Option Addr) (a0_0n a0_0c : Nat) (w : World) : (Instr.buildSlice 56 1 #[(0, .slice a0_0 a0_0n a0_0c)]).run Tryz.prog w = .ok (.slice (some ⟨w.heap.size, 0, none⟩) 1 1) (w.alloc (.cells [.slice a0_0 a0_0n a0_0c].toArray 70)) := by kernel_rfl
theorem KsS : Elem Tryz.prog 56 70 1 24 := Elem.mk' Tryz.underlying56 (z := .slice none 0 0) (by kernel_rfl) rfl (by omega) (by omega)
theorem KnG (w : World) : (sizeOf 56).run Tryz.prog w = .ok 1 w := rfl
theorem Kgx (w : World) : (isAgg 58).run Tryz.prog w = .ok true w := rfl
theorem Kqk (cb : Nat) (w : World) (hC : Cod w cb) (mo wi : Nat) (hmo : mo <= 30) (hwi : 1 <= wi /\ wi <= 30) :
  Calls Tryz.prog 19 #[.pointer (some ⟨cb, 0, none⟩), .int .i64 ((mo : Nat) : Int), .int .i64 ((wi : Nat) : Int)] w fun e w' => ∃ x : {o : Orc // OrcOk o /\ o.dst = 167774464}, e = .returned (.agg x.1.cells.toArray) /\ Codr (fun w => Cod w cb) cb w (KaY x.1.ps) w' := by
 refine Kj (I := Pm ⟨w, cb⟩ (.abs cb (fun w => Cod w cb) :: K3 cb w)) Tryz.func19 rfl rfl rfl ?_ (Pm.codes hC (Kcb hC) (Kcp cb));refine zSG ?_;refine TL.al KgK fun g6 => ?_;refine zET (zSG ?_);refine TL.w rfl (Ks (v := .agg #[.int .u32 167774464, .slice none 0 0]) rfl rfl (fun w => Kn8 _ w)) ?_;refine TL.al KgK fun g7 => ?_;refine TL.ps 0 Kdc ?_;refine zET (zS (zSG (TL.rn 2 rfl ?_)));refine TL.nx 2 rfl rfl fun nk hnk1 hnk2 => ?_;refine TL.v (gD ((1 + nk : Nat) : Int)) ?_;refine TL.as_ ?_;refine zET (zB (TC.nilrow 70 1 ?_));refine TC.lp (α := {y : Nat × (Option Addr × Nat) × List (Sg Int) // y.2.2.length + y.1 = 1 + nk /\ (∀ s ∈ y.2.2, KdA mo s.l) /\ y.2.2.length <= y.2.1.2 /\ y.2.1.2 <= maxLen}) [0, 1, 6, 7] rfl (fun y => [(8, .int .i64 ((y.1.1 : Nat) : Int))]) (fun y => Pm ⟨w, cb⟩ ([.row (.slice y.1.2.1.1 y.1.2.2.length y.1.2.1.2) 70 1 y.1.2.2.length (Kb sgc y.1.2.2), .blk g7 58 [.int .u32 167774464, .slice y.1.2.1.1 y.1.2.2.length y.1.2.1.2], .blk g6 58 [.int .u32 0, .slice none 0 0], .abs cb (fun w => Cod w cb)] ++ (KI 42 1 (Kb (ic .u32)) y.1.2.2 ++ K3 cb w))) (fun y => y.1.1) (⟨(1 + nk, (none, 0), []), Nat.zero_add _, fun s hs => absurd hs List.not_mem_nil, Nat.le_refl _, Nat.zero_le _⟩) (fun w1 hw => hw) ?_;rintro ⟨⟨k, ⟨Ap, cp⟩, pp⟩, hfl, hpw, hpc, hpm⟩;dsimp only at hfl hpw hpc hpm ⊢;have hnk9 : nk < wi := by omega
 refine zS (zSG (TL.mv ?_));refine TL.sp KB (fun q18 => ?_) (fun q18 => ?_)
 ·refine zET (zc (zk (zT (zS (zB (zSG (TL.as_ ?_)))))));refine zET (zS (zSG (TL.rn 2 rfl (TL.v (gD ((mo + 1 : Nat) : Int)) ?_))));refine TL.nx 3 rfl rfl fun nl hnl1 hnl2 => ?_;refine TL.as_ ?_;refine zET (zB (TC.nilrow 42 1 ?_));refine TC.lp (α := {y : Nat × (Option Addr × Nat) × List Int // y.2.2.length + y.1 = nl /\ (∀ a ∈ y.2.2, 0 <= a /\ a <= 167772173) /\ y.2.2.length <= y.2.1.2 /\ y.2.1.2 <= maxLen}) [0, 1, 6, 7, 8] rfl (fun y => [(10, .int .i64 ((y.1.1 : Nat) : Int)), (9, .slice y.1.2.1.1 y.1.2.2.length y.1.2.1.2)]) (fun y => Pm ⟨w, cb⟩ ([.row (.slice y.1.2.1.1 y.1.2.2.length y.1.2.1.2) 42 1 y.1.2.2.length (Kb (ic .u32) y.1.2.2), .row (.slice Ap pp.length cp) 70 1 pp.length (Kb sgc pp), .blk g7 58 [.int .u32 167774464, .slice Ap pp.length cp], .blk g6 58 [.int .u32 0, .slice none 0 0], .abs cb (fun w => Cod w cb)] ++ (KI 42 1 (Kb (ic .u32)) pp ++ K3 cb w))) (fun y => y.1.1) (⟨(nl, (none, 0), []), Nat.zero_add _, fun s hs => absurd hs List.not_mem_nil, Nat.le_refl _, Nat.zero_le _⟩) (fun w1 hw => hw) ?_;rintro ⟨⟨i, ⟨Aq, cq⟩, p⟩, hil, hpr, hqc, hqm⟩;dsimp only at hil hpr hqc hqm ⊢;have hnl9 : nl < mo + 1 := by omega
  refine zS (zSG (TL.mv ?_));refine TL.sp KB (fun q26 => ?_) (fun q26 => ?_)
  ·refine zET (zc (zk (zT (zS (zB (zSG (TL.mv ?_)))))));refine TL.pC (k := 4) _ _ rfl o52 rfl (fun w1 hw hC1 => Knp cb w1 hC1) ?_;rintro ⟨ad, had1, had2⟩;dsimp only [lC, lN];refine TL.as_ ?_;refine zET (zS (zSG (TL.mv ?_)));refine TL.pC (k := 4) _ _ rfl o10 rfl (fun w1 hw hC1 => Koc cb w1 hC1 7 (by decide)) ?_;rintro b0;dsimp only [lC, lN];refine zET ?_;refine TC.split (t := b0) rfl (fun c32 => ?_) (fun c32 => ?_)
   ·refine zG (TL.as_ ?_);refine zET (zG (TL.rn 2 rfl ?_));refine TL.prowS (e := 42) (size := 1) (cs := Kb (ic .u32) [0]) rfl rfl rfl rfl rfl (fun w => KiV _ w) (by decide) rfl (fun g35 => ?_);refine TL.appendT (k := 1) rfl rfl rfl rfl Tryz.underlying70 Kki rfl rfl rfl (fun w1 hw => K0 hw (k := 0) rfl) (Kx (Km .u32) _) (by show _ * 4 <= _; omega) ((p ++ [0]).length) (by rw [List.length_append]; rfl) (Kb (ic .u32) (p ++ [0])) ((Kz _ _).symm) (fun A36 c36 hA361 hA362 => ?_);refine TL.as_ ?_;refine zE (zN (zT (zG (TL.mv ?_))));refine TL.w rfl (Ke rfl rfl rfl (fun w => Ky (r := ((i - 1 : Nat) : Int)) (by simp only [IntKind.wrap_i64]; omega) w)) ?_;refine TL.as_ ?_;refine zE ?_;exact TX.rd (⟨(i - 1, (A36, c36), p ++ [0]), by dsimp only; rw [List.length_append]; show p.length + 1 + (i - 1) = _; omega, KjL hpr (by omega), hA361, hA362⟩) (by show i - 1 < i; omega) (fun w1 hw => hw.sel (.cons _ (.cons_cons _ (.cons_cons _ (.cons_cons _ (.cons_cons _ (.cons_cons _ (List.Sublist.refl _))))))))
   refine zk (zT (zG ?_));refine TL.rn 2 rfl ?_;refine TL.prowS (e := 42) (size := 1) (cs := Kb (ic .u32) [ad]) rfl rfl rfl rfl rfl (fun w => KiV _ w) (by decide) rfl (fun g35 => ?_);refine TL.appendT (k := 1) rfl rfl rfl rfl Tryz.underlying70 Kki rfl rfl rfl (fun w1 hw => K0 hw (k := 0) rfl) (Kx (Km .u32) _) (by show _ * 4 <= _; omega) ((p ++ [ad]).length) (by rw [List.length_append]; rfl) (Kb (ic .u32) (p ++ [ad])) ((Kz _ _).symm) (fun A36 c36 hA361 hA362 => ?_);refine TL.as_ ?_;refine zE (zN (zT (zG (TL.mv ?_))));refine TL.w rfl (Ke rfl rfl rfl (fun w => Ky (r := ((i - 1 : Nat) : Int)) (by simp only [IntKind.wrap_i64]; omega) w)) ?_;refine TL.as_ ?_;refine zE ?_;exact TX.rd (⟨(i - 1, (A36, c36), p ++ [ad]), by dsimp only; rw [List.length_append]; show p.length + 1 + (i - 1) = _; omega, KjL hpr (by omega), hA361, hA362⟩) (by show i - 1 < i; omega) (fun w1 hw => hw.sel (.cons _ (.cons_cons _ (.cons_cons _ (.cons_cons _ (.cons_cons _ (.cons_cons _ (List.Sublist.refl _))))))))
  refine zET (zd (zx (zX (zX (zM (zT ?_))))));have hppl : pp.length <= 40 := by omega
  refine zG (TL.v (gF Kjp) ?_);refine TL.v (gL 2 Knr) ?_;refine TL.mv ?_;refine TL.prowS (e := 70) (size := 1) (cs := Kb sgc [(⟨Aq, cq, p⟩ : Sg Int)]) rfl rfl rfl rfl rfl (fun w => Kmc _ _ _ w) (by decide) rfl (fun g40 => ?_);refine TL.appendT (k := 2) rfl rfl rfl rfl Tryz.underlying56 KsS rfl rfl rfl (fun w1 hw => K0 hw (k := 0) rfl) (Kx KhB _) (by show _ * 24 <= _; omega) ((pp ++ [(⟨Aq, cq, p⟩ : Sg Int)]).length) (by rw [List.length_append]; rfl) (Kb sgc (pp ++ [(⟨Aq, cq, p⟩ : Sg Int)])) ((Kz _ _).symm) (fun A41 c41 hA411 hA412 => ?_);refine TL.v (gF Kjp) ?_;refine TL.ps 3 KnG ?_;refine zE (zN (zT (zG (TL.mv ?_))));refine TL.w rfl (Ke rfl rfl rfl (fun w => Ky (r := ((k - 1 : Nat) : Int)) (by simp only [IntKind.wrap_i64]; omega) w)) ?_;refine TL.as_ ?_;refine zE ?_;exact TX.rd (⟨(k - 1, (A41, c41), pp ++ [(⟨Aq, cq, p⟩ : Sg Int)]), by dsimp only; rw [List.length_append]; show pp.length + 1 + (k - 1) = _; omega, Kpt hpw ⟨by show p.length <= _; omega, hpr⟩, hA411, hA412⟩) (by show k - 1 < k; omega) (fun w1 hw => Pm.tuckEnd (s := ⟨Aq, cq, p⟩) (P := [.row (.slice A41 ((pp ++ [(⟨Aq, cq, p⟩ : Sg Int)]).length) c41) 70 1 ((pp ++ [(⟨Aq, cq, p⟩ : Sg Int)]).length) (Kb sgc (pp ++ [(⟨Aq, cq, p⟩ : Sg Int)])), .blk g7 58 [.int .u32 167774464, .slice A41 ((pp ++ [(⟨Aq, cq, p⟩ : Sg Int)]).length) c41], .blk g6 58 [.int .u32 0, .slice none 0 0], .abs cb (fun w => Cod w cb)]) (hw.sel (.cons _ (.cons_cons _ (.cons_cons _ (.cons_cons _ (.cons_cons _ (.cons_cons _ (List.Sublist.refl _)))))))))
 refine zET (zd (zx (zX (zX (zM (zT (zSG (TL.v (gV 1 (.agg #[.int .u32 167774464, .slice Ap pp.length cp]) Kgx Kdc) ?_))))))));refine TL.ps 2 Kdc ?_;refine zET (zr ?_);exact KbF (k := 2) Tryz.results19 rfl rfl Tryz.underlying58 rfl rfl (fun w1 hw => ⟨⟨⟨167774464, ⟨Ap, cp, pp⟩⟩, Kt3 (by omega) hmo hpw⟩, rfl, Pm.codr (KaY ⟨Ap, cp, pp⟩) (Pm.netOut (p := ⟨Ap, cp, pp⟩) (hw.sel (.cons_cons _ (.cons _ (.cons _ (.cons_cons _ (List.Sublist.refl _))))))) (Kmj _)⟩)
set_option maxRecDepth 20000
set_option maxRecDepth 20000
structure En where
  addr : Int
  len : Int
  prov : Int
  frm : Int
  to_ : Int
deriving DecidableEq
def En.cells (r : En) : List Value := [.int .u32 r.addr, .int .i64 r.len, .int .i64 r.prov, .int .i64 r.frm, .int .i64 r.to_]
def En.zero : En := ⟨0, 0, 0, 0, 0⟩
set_option maxRecDepth 20000
def En.Ok (e : En) : Prop := 0 <= e.addr /\ e.addr <= 4294967295
theorem Km3 (x y : Int) (w : World) :
  Calls Tryz.prog 135 #[.int .i64 x, .int .i64 y] w fun e w' => e = .returned (.int .i64 (Kk x y)) /\ w' = w := by
 refine Kj (I := fun w1 => w1 = w) Tryz.func135 rfl rfl rfl ?_ rfl;refine zSG (TL.as_ ?_);refine zET (zS (zSG (TL.rn 2 rfl ?_)));refine TL.sp Ko (fun q7 => ?_) (fun q7 => ?_)
 ·refine zET (zc (zSG (TL.as_ ?_)));refine zET (zr (zR ?_));have hE : (Kk x y) = -1 := (by simp [Kk, q7]; try omega);exact Kg Tryz.results135 rfl (fun w1 hw => ⟨by rw [hE]; try rfl, hw⟩)
 refine zET (zd (zk (zT (zS (zSG (TL.rn 2 rfl ?_))))));refine TL.sp KB (fun q10 => ?_) (fun q10 => ?_)
 ·refine zET (zc (zSG (TL.as_ ?_)));refine zET (zr (zR ?_));have hE : (Kk x y) = 1 := (by simp [Kk, q7, q10]; try omega);exact Kg Tryz.results135 rfl (fun w1 hw => ⟨by rw [hE]; try rfl, hw⟩)
 refine zET (zd (zk (zT (zSG (TL.as_ ?_)))));refine zET (zr ?_);have hE : (Kk x y) = 0 := (by simp [Kk, q7, q10]; try omega);exact Kg Tryz.results135 rfl (fun w1 hw => ⟨by rw [hE]; try rfl, hw⟩)
set_option maxRecDepth 20000
structure AppI (sg : Int) (a b o : List Int) (i : Nat) (c : Int) : Prop where
 len : o.length = i
 ok : Kl o
 eq : Ka o + pB i * c = Ka (a.take i) + sg * Ka (b.take i)
theorem AppI.start (sg : Int) (a b : List Int) : AppI sg a b [] 0 0 := ⟨rfl, Kl.nil, by simp [Ka]⟩
theorem AppI.step {sg : Int} {a b o : List Int} {i : Nat} {c : Int} (h : AppI sg a b o i c) (s : Int) (hs : s = a.getD i 0 + sg * b.getD i 0 + c) : AppI sg a b (o ++ [s % 1073741824]) (i + 1) (s / 1073741824) := by
 refine ⟨by rw [List.length_append, h.len]; rfl, h.ok.app (Kl.cons (Kcl s) Kl.nil), ?_⟩;rw [KfP, h.len, Kaq, Kaq, K6];have h1 := h.eq
 have h2 : pB i * s = pB i * a.getD i 0 + sg * (pB i * b.getD i 0) + pB i * c := by
  rw [hs, Int.mul_add, Int.mul_add, Int.mul_left_comm]
 have h3 : pB i * s = pB i * (s % 1073741824) + 1073741824 * (pB i * (s / 1073741824)) := by
  have h4 : s = s % 1073741824 + 1073741824 * (s / 1073741824) := by omega
  have h5 : pB i * s = pB i * (s % 1073741824 + 1073741824 * (s / 1073741824)) := congrArg _ h4;rw [h5, Int.mul_add, Int.mul_left_comm (pB i) 1073741824]
 rw [Int.mul_add, Int.mul_assoc];omega
theorem Kl3 {o : List Int} (h : Kl o) (hb : o ≠ [] -> pB (o.length - 1) <= Ka o) : Nrm o := ⟨h, fun he => by
 obtain ⟨p, rfl⟩ : ∃ p, o = p ++ [0] := by
  have hne : o ≠ [] := fun e => by rw [e] at he; cases he
  refine ⟨o.dropLast, ?_⟩;rw [List.getLast?_eq_some_getLast hne] at he
  injection he with he
  have := List.dropLast_concat_getLast hne;rw [he] at this;exact this.symm
 have h1 := hb (by simp);rw [KfP, Int.mul_zero, Int.add_zero] at h1;have h2 := KaD (l := p) fun x hx => h x (List.mem_append_left _ hx);have h3 : (p ++ [(0 : Int)]).length - 1 = p.length := by simp
 rw [h3] at h1;omega⟩
theorem AppI.big {a b o : List Int} {i : Nat} {c : Int} (h : AppI 1 a b o i c) (ha : Nrm a) (hb : Nrm b) (hc : 0 <= c) (hm : i < a.length \/ i < b.length \/ 0 < c) : pB i <= Ka a + Ka b := by
 have a0 := KH ha.1;have b0 := KH hb.1;rcases Nat.lt_or_ge i a.length with h1 | h1
 ·have := ha.pos (by omega);have := Kax (show i <= a.length - 1 by omega);omega
 rcases Nat.lt_or_ge i b.length with h2 | h2
 ·have := hb.pos (by omega);have := Kax (show i <= b.length - 1 by omega);omega
 have h3 := h.eq;rw [List.take_of_length_le h1, List.take_of_length_le h2, Int.one_mul] at h3;have h4 := KH h.ok;have h5 : pB i * 1 <= pB i * c := Int.mul_le_mul_of_nonneg_left (by omega) (Int.le_of_lt (KS i));omega
theorem AppI.full {a b o : List Int} {i : Nat} {c : Int} (h : AppI 1 a b o i c) (h1 : a.length <= i) (h2 : b.length <= i) (hc : c = 0) : Ka o = Ka a + Ka b := by
 have h3 := h.eq;rw [List.take_of_length_le h1, List.take_of_length_le h2, Int.one_mul, hc, Int.mul_zero, Int.add_zero] at h3;exact h3
theorem AppI.less {a b o : List Int} {i : Nat} {c : Int} (h : AppI (-1) a b o i c) (hi : i = a.length) (hb : b.length <= a.length) (hc : -1 <= c /\ c <= 0) (hle : Ka b <= Ka a) : Ka o = Ka a - Ka b := by
 subst hi;have h1 := h.eq;rw [List.take_of_length_le (Nat.le_refl _), List.take_of_length_le hb] at h1;have h2 := KaD h.ok;rw [h.len] at h2;rcases (show c = 0 \/ c = -1 by omega) with rfl | rfl
 ·rw [Int.mul_zero] at h1; omega
 omega
theorem Kgc {a b o : List Int} {i : Nat} {c s : Int} (h : AppI 1 a b o i c) (ha : Kl a) (hb : Kl b) (hc : 0 <= c /\ c <= 1) (hs : s = a.getD i 0 + 1 * b.getD i 0 + c) (hi : max a.length b.length <= i) : s / 1073741824 = 0 := by
 rw [Kc5 (show a.length <= i by omega), Kc5 (show b.length <= i by omega)] at hs;omega
theorem Kcm (w : World) : (sizeOf 3).run Tryz.prog w = .ok 1 w := rfl
theorem Kdb (w : World) : (isAgg 3).run Tryz.prog w = .ok false w := rfl
theorem Kg4 (a0_0 : Int) (w : World) : (Instr.buildSlice 50 1 #[(0, .int .i64 a0_0)]).run Tryz.prog w = .ok (.slice (some ⟨w.heap.size, 0, none⟩) 1 1) (w.alloc (.cells [.int .i64 a0_0].toArray 3)) := by kernel_rfl
theorem Kia : Elem Tryz.prog 50 3 1 8 := Elem.mk' Tryz.underlying50 (z := .int .i64 0) (by kernel_rfl) rfl (by omega) (by omega)
theorem Kp0 (A0 : Option Addr) (c0 : Nat) (a : List Int) (w : World) (hr : Kd w w.heap.size 1 A0 a.length (Kb (ic .i64) a)) (hl1 : a.length <= 100000) (hac : a.length <= c0) :
  Calls Tryz.prog 194 #[.slice A0 a.length c0] w fun e w' => e = .returned (.slice A0 (Ki a).length c0) /\ Below w.heap.size w w' := by
 refine Kj Tryz.func194 rfl rfl rfl ?_ (Pm.start w);refine zSG (TL.as_ ?_);refine zET (zS (zB ?_));refine TC.loop_ (α := {k : Nat // k <= a.length /\ Ki a = Ki (a.take k)}) (fun y => [(0, .slice A0 y.1 c0)]) (fun y => Pm w []) (fun y => y.1) (⟨a.length, Nat.le_refl _, by rw [List.take_of_length_le (Nat.le_refl _)]⟩) ⟨rfl, trivial⟩ (fun w1 hw => hw) ?_;rintro ⟨k, hk, ht⟩;dsimp only at hk ht ⊢;refine zS (zSG (TL.mv ?_));refine TL.v (gN Tryz.underlying50) ?_;refine TL.sp KB (fun q5 => ?_) (fun q5 => ?_)
 ·refine TL.rn 3 rfl (TL.ov (gN Tryz.underlying50) ?_);refine TL.gu ?_;refine TL.w rfl (Ke rfl rfl rfl (fun w => Ky (r := ((k - 1 : Nat) : Int)) (by simp only [IntKind.wrap_i64]; omega) w)) ?_;refine TL.gu ?_;have hi11 : k - 1 < a.length := by omega
  obtain ⟨x11, hx11⟩ := Kq hi11;obtain ⟨b11, o11, hA11, hbb11, hc11⟩ := hr.ad (by omega) (by decide);refine TL.w rfl (gA (i := (k - 1)) Tryz.underlying50 Kcm rfl rfl rfl rfl hA11 (by omega)) ?_;refine TL.gu ?_;refine TL.w rfl (Kw (v := .int .i64 x11) rfl rfl Kdb (fun w1 hw => (hw.bel.cell hbb11).trans <| KL (Km .i64) hx11 hc11 0 _ rfl)) ?_;refine TL.gu ?_;refine TL.sp KG (fun q13 => ?_) (fun q13 => ?_)
  ·refine TL.pk ?_;refine zET (zc (zk (zT (zB (zG (TL.rn 2 rfl (TL.v (gN Tryz.underlying50) ?_)))))));refine TL.w rfl (Ke rfl rfl rfl (fun w => Ky (r := ((k - 1 : Nat) : Int)) (by simp only [IntKind.wrap_i64]; omega) w)) ?_;refine TL.w rfl (KgL (v := .slice A0 (k - 1) c0) rfl rfl rfl (fun w => Kgf Tryz.underlying50 Kcm _ _ _ (k - 1) rfl (by omega) w)) ?_;refine TL.as_ ?_;refine zE (zN ?_);exact TX.rd (⟨k - 1, by omega, Kj4 ht hx11 q13 (by omega)⟩) (by show k - 1 < k; omega) (fun w1 hw => hw)
  refine TL.pk ?_;refine zET (zd (zx (zX (zX (zM (zT (zSG (TL.rn 2 rfl (zET (zr ?_))))))))));exact Kg Tryz.results194 rfl (fun w1 hw => ⟨by rw [Klw ht hx11 q13 (by omega) hk], hw.bel⟩)
 refine TL.rn 9 rfl (zET (zd (zx (zX (zX (zM (zT (zSG (TL.rn 2 rfl (zET (zr ?_)))))))))));exact Kg Tryz.results194 rfl (fun w1 hw => ⟨by rw [KjN ht (by omega)], hw.bel⟩)
theorem Kee (A0 : Option Addr) (n c0 : Nat) (a : List Int) (w : World) (hr : Kd w w.heap.size 1 A0 n (Kb (ic .i64) a)) (hl : a.length = n) (hl1 : n <= 100000) (hac : n <= c0) : Calls Tryz.prog 194 #[.slice A0 n c0] w fun e w' => e = .returned (.slice A0 (Ki a).length c0) /\ Below w.heap.size w w' := by
 subst hl;exact Kp0 A0 c0 a w hr hl1 hac
theorem KbX (A0 : Option Addr) (c0 : Nat) (a : List Int) (i : Nat) (w : World) (hr : Kd w w.heap.size 1 A0 a.length (Kb (ic .i64) a)) (hl1 : a.length <= 100000) (hi : i <= 1000000) :
  Calls Tryz.prog 228 #[.slice A0 a.length c0, .int .i64 ((i : Nat) : Int)] w fun e w' => e = .returned (.int .i64 (a.getD i 0)) /\ Below w.heap.size w w' := by
 refine Kj Tryz.func228 rfl rfl rfl ?_ (Pm.start w);refine zSG (TL.as_ ?_);refine zET (zS (zSG (TL.rn 2 rfl (TL.v (gN Tryz.underlying50) ?_))));refine TL.sp Ko (fun q8 => ?_) (fun q8 => ?_)
 ·refine zET (zc (zSG (TL.rn 2 rfl ?_)));have hi11 : i < a.length := by omega
  obtain ⟨x11, hx11⟩ := Kq hi11;obtain ⟨b11, o11, hA11, hbb11, hc11⟩ := hr.ad (by omega) (by decide);refine TL.w rfl (gA (i := i) Tryz.underlying50 Kcm rfl rfl rfl rfl hA11 (by omega)) ?_;refine TL.w rfl (Kw (v := .int .i64 x11) rfl rfl Kdb (fun w1 hw => (hw.bel.cell hbb11).trans <| KL (Km .i64) hx11 hc11 0 _ rfl)) ?_;refine TL.as_ ?_;refine zET (zr (zR ?_));exact Kg Tryz.results228 rfl (fun w1 hw => ⟨by rw [KP hx11], hw.bel⟩)
 refine zET (zd (zk (zT (zSG (TL.as_ ?_)))));refine zET (zr ?_);exact Kg Tryz.results228 rfl (fun w1 hw => ⟨by rw [Kc5 (by omega)], hw.bel⟩)
theorem KfD (A0 : Option Addr) (c0 : Nat) (a : List Int) (A1 : Option Addr) (c1 : Nat) (b : List Int) (w : World) (hr : Kd w w.heap.size 1 A0 a.length (Kb (ic .i64) a)) (hl1 : a.length <= 1000) (hr1 : Kd w w.heap.size 1 A1 b.length (Kb (ic .i64) b)) (hl2 : b.length <= 1000) (ha : Nrm a) (hb : Nrm b) :
  Calls Tryz.prog 191 #[.slice A0 a.length c0, .slice A1 b.length c1] w fun e w' => e = .returned (.int .i64 (Kk (Ka a) (Ka b))) /\ Below w.heap.size w w' := by
 refine Kj Tryz.func191 rfl rfl rfl ?_ (Pm.start w);refine zSG (TL.as_ ?_);refine zET (zS (zSG (TL.mv ?_)));refine TL.v (gN Tryz.underlying50) ?_;refine TL.mv ?_;refine TL.v (gN Tryz.underlying50) ?_;refine TL.sp Kap (fun q10 => ?_) (fun q10 => ?_)
 ·refine zET (zc (zSG (TL.mv ?_)));refine TL.v (gN Tryz.underlying50) ?_;refine TL.mv ?_;refine TL.v (gN Tryz.underlying50) ?_;refine TL.p1 (r := .int .i64 (Kk (a.length : Nat) (b.length : Nat))) rfl Km0 (fun w1 hw => KdI (Km3 (a.length : Nat) (b.length : Nat) w1)) ?_;refine TL.as_ ?_;refine zET (zr (zR ?_));have hE : Kk (Ka a) (Ka b) = Kk (a.length : Nat) (b.length : Nat) := Kl1 ha hb (fun h9 => q10 (Ka5.1 h9));exact Kg Tryz.results191 rfl (fun w1 hw => ⟨by rw [hE], hw.bel⟩)
 have hl : a.length = b.length := by omega
 refine zET (zd (zk (zT (zS (zSG (TL.mv ?_))))));refine TL.v (gN Tryz.underlying50) ?_;refine TL.w rfl (Ke rfl rfl rfl (fun w => Ky (r := ((a.length : Nat) : Int) - 1) (by simp only [IntKind.wrap_i64]; omega) w)) ?_;refine TL.as_ ?_;refine zET (zB ?_);refine TC.loop_ (α := {i : Nat // i <= a.length /\ a.drop i = b.drop i}) (fun y => [(0, .slice A0 a.length c0), (1, .slice A1 b.length c1), (5, .int .i64 (((y.1 : Nat) : Int) - 1))]) (fun y => Pm w []) (fun y => y.1) (⟨a.length, Nat.le_refl _, by rw [List.drop_of_length_le (Nat.le_refl _), List.drop_of_length_le (by omega)]⟩) ⟨rfl, rfl, rfl, trivial⟩ (fun w1 hw => hw) ?_;rintro ⟨i, hi, hd⟩;dsimp only at hi hd ⊢;refine zS (zSG (TL.mv ?_));refine TL.sp KQ (fun q20 => ?_) (fun q20 => ?_)
 ·refine zET (zc (zk (zT (zS (zB (zS (TC.cut [(0, .slice A0 a.length c0), (1, .slice A1 b.length c1), (5, .int .i64 (((i - 1) : Nat) : Int)), (19, .int .i64 (((i : Nat) : Int) - 1)), (20, .bool true)] (Pm w []) ⟨rfl, rfl, (by show some (Value.int .i64 (((i : Nat) : Int) - 1)) = some (Value.int .i64 (((i - 1) : Nat) : Int)); congr 2; omega), rfl, rfl, trivial⟩ (fun w1 hw => hw) ?_)))))));refine TC.quietQ (by kernel_rfl) (by kernel_rfl) (fun w hw => hw.drawn _) ?_;refine TQ.rn 2 rfl ?_;have hi25 : (i - 1) < a.length := by omega
  obtain ⟨x25, hx25⟩ := Kq hi25;obtain ⟨b25, o25, hA25, hbb25, hc25⟩ := hr.ad (by omega) (by decide);refine TQ.w rfl (gA (i := (i - 1)) Tryz.underlying50 Kcm rfl rfl rfl rfl hA25 (by omega)) ?_;refine TQ.w rfl (Kw (v := .int .i64 x25) rfl rfl Kdb (fun w1 hw => (hw.bel.cell hbb25).trans <| KL (Km .i64) hx25 hc25 0 _ rfl)) ?_;refine TQ.rn 2 rfl ?_;have hi29 : (i - 1) < b.length := by omega
  obtain ⟨x29, hx29⟩ := Kq hi29;obtain ⟨b29, o29, hA29, hbb29, hc29⟩ := hr1.ad (by omega) (by decide);refine TQ.w rfl (gA (i := (i - 1)) Tryz.underlying50 Kcm rfl rfl rfl rfl hA29 (by omega)) ?_;refine TQ.w rfl (Kw (v := .int .i64 x29) rfl rfl Kdb (fun w1 hw => (hw.bel.cell hbb29).trans <| KL (Km .i64) hx29 hc29 0 _ rfl)) ?_;refine TQ.sp Kap (fun q31 => ?_) (fun q31 => ?_)
  ·refine TQ.fin ?_;refine zT (zc (zS (TC.quietQ (by kernel_rfl) (by kernel_rfl) (fun w hw => hw.drawn _) ?_)));refine TQ.rn 2 rfl ?_;refine TQ.w rfl (gA (i := (i - 1)) Tryz.underlying50 Kcm rfl rfl rfl rfl hA25 (by omega)) ?_;refine TQ.w rfl (Kw (v := .int .i64 x25) rfl rfl Kdb (fun w1 hw => (hw.bel.cell hbb25).trans <| KL (Km .i64) hx25 hc25 0 _ rfl)) ?_;refine TQ.rn 2 rfl ?_;refine TQ.w rfl (gA (i := (i - 1)) Tryz.underlying50 Kcm rfl rfl rfl rfl hA29 (by omega)) ?_;refine TQ.w rfl (Kw (v := .int .i64 x29) rfl rfl Kdb (fun w1 hw => (hw.bel.cell hbb29).trans <| KL (Km .i64) hx29 hc29 0 _ rfl)) ?_;refine TQ.p1 (v := .int .i64 (Kk x25 x29)) rfl Km0 (fun w1 hw => (KdI (Km3 x25 x29 w1)).mono fun en w2 ⟨h1, h2⟩ => ⟨h1, hw.below h2⟩) ?_;refine TQ.w rfl (KZ rfl rfl) ?_;refine TQ.fin ?_;refine zT (zr (zRR (zR (zRR ?_))));have hE : Kk (Ka a) (Ka b) = Kk x25 x29 := Ki2 ha hb hl (by omega) (by rw [show i - 1 + 1 = i by omega]; exact hd) hx25 hx29 q31;exact Kg Tryz.results191 rfl (fun w1 hw => ⟨by rw [hE], hw.bel⟩)
  refine TQ.fin ?_;refine zT (zd (zk (zN (zT (zG (TL.mv ?_))))));refine TL.w rfl (Ke rfl rfl rfl (fun w => Ky (r := ((i - 1 : Nat) : Int) - 1) (by simp only [IntKind.wrap_i64]; omega) w)) ?_;refine TL.as_ ?_;refine zE ?_;exact TX.rd (⟨i - 1, by omega, Kky (by rw [show i - 1 + 1 = i by omega]; exact hd) hx25 hx29 (Decidable.not_not.1 q31)⟩) (by show i - 1 < i; omega) (fun w1 hw => hw)
 refine zET (zd (zx (zX (zX (zM (zT (zSG (TL.as_ ?_))))))));refine zET (zr ?_);have hE : Kk (Ka a) (Ka b) = 0 := KlX (by have h0 : i = 0 := (by omega); subst h0; exact hd);exact Kg Tryz.results191 rfl (fun w1 hw => ⟨by rw [hE], hw.bel⟩)
theorem Kdy (A0 : Option Addr) (c0 : Nat) (a : List Int) (A1 : Option Addr) (c1 : Nat) (b : List Int) (w : World) (hr : Kd w w.heap.size 1 A0 a.length (Kb (ic .i64) a)) (hl1 : a.length <= 1000) (hr1 : Kd w w.heap.size 1 A1 b.length (Kb (ic .i64) b)) (hl2 : b.length <= 1000) (ha : Nrm a) (hb : Nrm b) :
  Calls Tryz.prog 189 #[.slice A0 a.length c0, .slice A1 b.length c1] w fun e w' => ∃ x : {y : (Option Addr × Nat) × List Int // (Nrm y.2 /\ Ka y.2 = Ka a + Ka b) /\ y.2.length <= y.1.2 /\ y.1.2 <= maxLen}, e = .returned (.slice x.1.1.1 x.1.2.length x.1.1.2) /\ Pm w [.row (.slice x.1.1.1 x.1.2.length x.1.1.2) 3 1 x.1.2.length (Kb (ic .i64) x.1.2)] w' := by
 refine Kj Tryz.func189 rfl rfl rfl ?_ (Pm.start w);refine zSG (TL.as_ ?_);refine zET (zSG (TL.as_ ?_));refine zET (zSG (TL.as_ ?_));refine zET (zS (zSG (TL.as_ ?_)));refine zET (zB (TC.nilrow 3 1 ?_));refine TC.lp (α := {y : (Option Addr × Nat) × Nat × Int × List Int // (AppI 1 a b y.2.2.2 y.2.1 y.2.2.1 /\ 0 <= y.2.2.1 /\ y.2.2.1 <= 1 /\ y.2.1 <= max a.length b.length + 1 /\ (y.2.1 = max a.length b.length + 1 -> y.2.2.1 = 0) /\ (y.2.1 ≠ 0 -> pB (y.2.1 - 1) <= Ka a + Ka b)) /\ y.2.2.2.length <= y.1.2 /\ y.1.2 <= maxLen}) [0, 1] rfl (fun y => [(5, .slice y.1.1.1 y.1.2.2.2.length y.1.1.2), (6, .int .i64 y.1.2.2.1), (7, .int .i64 ((y.1.2.1 : Nat) : Int))]) (fun y => Pm w [.row (.slice y.1.1.1 y.1.2.2.2.length y.1.1.2) 3 1 y.1.2.2.2.length (Kb (ic .i64) y.1.2.2.2)]) (fun y => max a.length b.length + 1 - y.1.2.1) (⟨((none, 0), 0, 0, []), ⟨AppI.start 1 a b, Int.le_refl _, by show (0 : Int) <= 1; decide, Nat.zero_le _, fun _ => rfl, fun h => absurd rfl h⟩, Nat.le_refl _, Nat.zero_le _⟩) (fun w1 hw => hw) ?_;rintro ⟨⟨⟨Ao, co⟩, i, c, o⟩, ⟨hS, hc0, hc1, hi, hz, hp⟩, hoc, hom⟩;dsimp only at hS hc0 hc1 hi hz hp hoc hom ⊢;have hol := hS.len;have hc : 0 <= c /\ c <= 1 := ⟨hc0, hc1⟩;refine zS (zSG (TL.rn 2 rfl (TL.v (gN Tryz.underlying50) ?_)));refine TL.sp Ko (fun q12 => ?_) (fun q12 => ?_)
 ·refine TL.rn 10 rfl (zET (zc (zk (zT (zS (zB (zS ?_)))))));obtain ⟨s, hs⟩ : ∃ s, s = a.getD i 0 + 1 * b.getD i 0 + c := ⟨_, rfl⟩;have hsr := SumI.carry ha.1 hb.1 hc hs;have hga := ha.1.getD i;have hgb := hb.1.getD i;have hbig := hS.big ha hb hc.1 (by omega)
  have hi9 : i <= max a.length b.length := by
   rcases Nat.lt_or_ge (max a.length b.length) i with h9 | h9
   ·have h8 := hz (by omega); omega
   exact h9
  refine zG (TL.rn 2 rfl ?_);refine TL.p1 rfl KbQ (fun w1 hw => KbX A0 c0 a i w1 (hr.up hw.bel) (by omega) (by omega)) ?_;refine TL.rn 2 rfl ?_;refine TL.p1 rfl KbQ (fun w1 hw => KbX A1 c1 b i w1 (hr1.up hw.bel) (by omega) (by omega)) ?_;refine TL.v (gD (a.getD i 0 + b.getD i 0)) ?_;refine TL.mv ?_;refine TL.v (gD s) ?_;refine TL.as_ ?_;refine zET (zSG (TL.rn 2 rfl ?_));refine TL.w rfl (Ke (v := .int .i64 (s % 1073741824)) rfl rfl rfl (fun w => KaP (by omega) (by decide) w)) ?_;refine TL.prowS (e := 3) (size := 1) (cs := Kb (ic .i64) [s % 1073741824]) rfl rfl rfl rfl rfl (fun w => Kg4 _ w) (by decide) rfl (fun g37 => ?_);refine TL.appendT (k := 1) rfl rfl rfl rfl Tryz.underlying50 Kia rfl rfl rfl (fun w1 hw => K0 hw (k := 0) rfl) (Kx (Km .i64) _) (by omega) ((o ++ [s % 1073741824]).length) (by rw [List.length_append]; rfl) (Kb (ic .i64) (o ++ [s % 1073741824])) ((Kz _ _).symm) (fun A38 c38 hA381 hA382 => ?_);refine TL.as_ ?_;refine zET (zG (TL.mv ?_));refine TL.w rfl (Ke (v := .int .i64 (s / 1073741824)) rfl rfl rfl (fun w => KbP (by omega) (by decide) (by omega) w)) ?_;refine TL.as_ ?_;refine zE (zN (zT (zG (TL.mv ?_))));refine TL.v (gD ((i + 1 : Nat) : Int)) ?_;refine TL.as_ ?_;refine zE ?_;exact TX.rd (⟨((A38, c38), i + 1, s / 1073741824, o ++ [s % 1073741824]), ⟨hS.step s hs, by dsimp only; omega, by dsimp only; omega, by dsimp only; omega, fun h9 => (by dsimp only at h9 ⊢; exact Kgc hS ha.1 hb.1 hc hs (by omega)), fun _ => hbig⟩, hA381, hA382⟩) (by show max a.length b.length + 1 - (i + 1) < max a.length b.length + 1 - i; omega) (fun w1 hw => hw.pk [1])
 refine TL.rn 3 rfl (TL.ov (gN Tryz.underlying50) ?_);refine TL.gu ?_;refine TL.sp Ko (fun q17 => ?_) (fun q17 => ?_)
 ·refine TL.rn 5 rfl (zET (zc (zk (zT (zS (zB (zS ?_)))))));obtain ⟨s, hs⟩ : ∃ s, s = a.getD i 0 + 1 * b.getD i 0 + c := ⟨_, rfl⟩;have hsr := SumI.carry ha.1 hb.1 hc hs;have hga := ha.1.getD i;have hgb := hb.1.getD i;have hbig := hS.big ha hb hc.1 (by omega)
  have hi9 : i <= max a.length b.length := by
   rcases Nat.lt_or_ge (max a.length b.length) i with h9 | h9
   ·have h8 := hz (by omega); omega
   exact h9
  refine zG (TL.rn 2 rfl ?_);refine TL.p1 rfl KbQ (fun w1 hw => KbX A0 c0 a i w1 (hr.up hw.bel) (by omega) (by omega)) ?_;refine TL.rn 2 rfl ?_;refine TL.p1 rfl KbQ (fun w1 hw => KbX A1 c1 b i w1 (hr1.up hw.bel) (by omega) (by omega)) ?_;refine TL.v (gD (a.getD i 0 + b.getD i 0)) ?_;refine TL.mv ?_;refine TL.v (gD s) ?_;refine TL.as_ ?_;refine zET (zSG (TL.rn 2 rfl ?_));refine TL.w rfl (Ke (v := .int .i64 (s % 1073741824)) rfl rfl rfl (fun w => KaP (by omega) (by decide) w)) ?_;refine TL.prowS (e := 3) (size := 1) (cs := Kb (ic .i64) [s % 1073741824]) rfl rfl rfl rfl rfl (fun w => Kg4 _ w) (by decide) rfl (fun g37 => ?_);refine TL.appendT (k := 1) rfl rfl rfl rfl Tryz.underlying50 Kia rfl rfl rfl (fun w1 hw => K0 hw (k := 0) rfl) (Kx (Km .i64) _) (by omega) ((o ++ [s % 1073741824]).length) (by rw [List.length_append]; rfl) (Kb (ic .i64) (o ++ [s % 1073741824])) ((Kz _ _).symm) (fun A38 c38 hA381 hA382 => ?_);refine TL.as_ ?_;refine zET (zG (TL.mv ?_));refine TL.w rfl (Ke (v := .int .i64 (s / 1073741824)) rfl rfl rfl (fun w => KbP (by omega) (by decide) (by omega) w)) ?_;refine TL.as_ ?_;refine zE (zN (zT (zG (TL.mv ?_))));refine TL.v (gD ((i + 1 : Nat) : Int)) ?_;refine TL.as_ ?_;refine zE ?_;exact TX.rd (⟨((A38, c38), i + 1, s / 1073741824, o ++ [s % 1073741824]), ⟨hS.step s hs, by dsimp only; omega, by dsimp only; omega, by dsimp only; omega, fun h9 => (by dsimp only at h9 ⊢; exact Kgc hS ha.1 hb.1 hc hs (by omega)), fun _ => hbig⟩, hA381, hA382⟩) (by show max a.length b.length + 1 - (i + 1) < max a.length b.length + 1 - i; omega) (fun w1 hw => hw.pk [1])
 refine TL.rn 3 rfl (TL.gu ?_);refine TL.sp KB (fun q21 => ?_) (fun q21 => ?_)
 ·refine TL.pk ?_;refine zET (zc (zk (zT (zS (zB (zS ?_))))));obtain ⟨s, hs⟩ : ∃ s, s = a.getD i 0 + 1 * b.getD i 0 + c := ⟨_, rfl⟩;have hsr := SumI.carry ha.1 hb.1 hc hs;have hga := ha.1.getD i;have hgb := hb.1.getD i;have hbig := hS.big ha hb hc.1 (by omega)
  have hi9 : i <= max a.length b.length := by
   rcases Nat.lt_or_ge (max a.length b.length) i with h9 | h9
   ·have h8 := hz (by omega); omega
   exact h9
  refine zG (TL.rn 2 rfl ?_);refine TL.p1 rfl KbQ (fun w1 hw => KbX A0 c0 a i w1 (hr.up hw.bel) (by omega) (by omega)) ?_;refine TL.rn 2 rfl ?_;refine TL.p1 rfl KbQ (fun w1 hw => KbX A1 c1 b i w1 (hr1.up hw.bel) (by omega) (by omega)) ?_;refine TL.v (gD (a.getD i 0 + b.getD i 0)) ?_;refine TL.mv ?_;refine TL.v (gD s) ?_;refine TL.as_ ?_;refine zET (zSG (TL.rn 2 rfl ?_));refine TL.w rfl (Ke (v := .int .i64 (s % 1073741824)) rfl rfl rfl (fun w => KaP (by omega) (by decide) w)) ?_;refine TL.prowS (e := 3) (size := 1) (cs := Kb (ic .i64) [s % 1073741824]) rfl rfl rfl rfl rfl (fun w => Kg4 _ w) (by decide) rfl (fun g37 => ?_);refine TL.appendT (k := 1) rfl rfl rfl rfl Tryz.underlying50 Kia rfl rfl rfl (fun w1 hw => K0 hw (k := 0) rfl) (Kx (Km .i64) _) (by omega) ((o ++ [s % 1073741824]).length) (by rw [List.length_append]; rfl) (Kb (ic .i64) (o ++ [s % 1073741824])) ((Kz _ _).symm) (fun A38 c38 hA381 hA382 => ?_);refine TL.as_ ?_;refine zET (zG (TL.mv ?_));refine TL.w rfl (Ke (v := .int .i64 (s / 1073741824)) rfl rfl rfl (fun w => KbP (by omega) (by decide) (by omega) w)) ?_;refine TL.as_ ?_;refine zE (zN (zT (zG (TL.mv ?_))));refine TL.v (gD ((i + 1 : Nat) : Int)) ?_;refine TL.as_ ?_;refine zE ?_;exact TX.rd (⟨((A38, c38), i + 1, s / 1073741824, o ++ [s % 1073741824]), ⟨hS.step s hs, by dsimp only; omega, by dsimp only; omega, by dsimp only; omega, fun h9 => (by dsimp only at h9 ⊢; exact Kgc hS ha.1 hb.1 hc hs (by omega)), fun _ => hbig⟩, hA381, hA382⟩) (by show max a.length b.length + 1 - (i + 1) < max a.length b.length + 1 - i; omega) (fun w1 hw => hw.pk [1])
 refine TL.pk ?_;refine zET (zd (zx (zX (zX (zM (zT (zSG (TL.rn 2 rfl (zET (zr ?_))))))))));have hfu := hS.full (by omega) (by omega) (by omega);exact Kg Tryz.results189 rfl (fun w1 hw => ⟨⟨((Ao, co), o), ⟨Kl3 hS.ok (fun hne => by rw [hol, hfu]; exact hp (fun e9 => hne (List.eq_nil_of_length_eq_zero (hol.trans e9)))), hfu⟩, hoc, hom⟩, rfl, hw⟩)
set_option maxRecDepth 20000
theorem KeY (w : World) : (sizeOf 3).run Tryz.prog w = .ok 1 w := rfl
theorem Kk0 (w : World) : (isAgg 3).run Tryz.prog w = .ok false w := rfl
theorem KiJ (a0_0 : Int) (w : World) : (Instr.buildSlice 50 1 #[(0, .int .i64 a0_0)]).run Tryz.prog w = .ok (.slice (some ⟨w.heap.size, 0, none⟩) 1 1) (w.alloc (.cells [.int .i64 a0_0].toArray 3)) := by kernel_rfl
theorem Kg0 : Elem Tryz.prog 50 3 1 8 := Elem.mk' Tryz.underlying50 (z := .int .i64 0) (by kernel_rfl) rfl (by omega) (by omega)
theorem KpU {a0 : Int} : ∀ u ∈ [(.int .i64 a0 : Value)], u.oneCell' = true := by
 intro u hu;rw [List.mem_singleton] at hu;subst hu; rfl
theorem Keh (A0 : Option Addr) (c0 : Nat) (a : List Int) (A1 : Option Addr) (c1 : Nat) (b : List Int) (w : World) (hr : Kd w w.heap.size 1 A0 a.length (Kb (ic .i64) a)) (hl1 : a.length <= 1000) (hr1 : Kd w w.heap.size 1 A1 b.length (Kb (ic .i64) b)) (hl2 : b.length <= 1000) (ha : Nrm a) (hb : Nrm b) (hle : Ka b <= Ka a) :
  Calls Tryz.prog 192 #[.slice A0 a.length c0, .slice A1 b.length c1] w fun e w' => ∃ x : {y : (Option Addr × Nat) × List Int // (Nrm y.2 /\ Ka y.2 = Ka a - Ka b) /\ y.2.length <= y.1.2 /\ y.1.2 <= maxLen}, e = .returned (.slice x.1.1.1 x.1.2.length x.1.1.2) /\ Pm w [.row (.slice x.1.1.1 x.1.2.length x.1.1.2) 3 1 x.1.2.length (Kb (ic .i64) x.1.2)] w' := by
 refine Kj Tryz.func192 rfl rfl rfl ?_ (Pm.start w);refine zSG (TL.as_ ?_);refine zET (zSG (TL.as_ ?_));refine zET (zSG (TL.as_ ?_));refine zET (zS (zSG (TL.as_ ?_)));refine zET (zB (TC.nilrow 3 1 ?_));refine TC.loop_ (α := {y : (Option Addr × Nat) × Nat × Int × List Int // (AppI (-1) a b y.2.2.2 y.2.1 (-y.2.2.1) /\ 0 <= y.2.2.1 /\ y.2.2.1 <= 1 /\ y.2.1 <= a.length) /\ y.2.2.2.length <= y.1.2 /\ y.1.2 <= maxLen}) (fun y => [(0, .slice A0 a.length c0), (1, .slice A1 b.length c1), (5, .slice y.1.1.1 y.1.2.2.2.length y.1.1.2), (6, .int .i64 y.1.2.2.1), (7, .int .i64 ((y.1.2.1 : Nat) : Int))]) (fun y => Pm w [.row (.slice y.1.1.1 y.1.2.2.2.length y.1.1.2) 3 1 y.1.2.2.2.length (Kb (ic .i64) y.1.2.2.2)]) (fun y => a.length - y.1.2.1) (⟨((none, 0), 0, 0, []), ⟨AppI.start (-1) a b, Int.le_refl _, by show (0 : Int) <= 1; decide, Nat.zero_le _⟩, Nat.le_refl _, Nat.zero_le _⟩) ⟨rfl, rfl, rfl, rfl, rfl, trivial⟩ (fun w1 hw => hw) ?_;rintro ⟨⟨⟨Ao, co⟩, i, bo, o⟩, ⟨hS, hc0, hc1, hi⟩, hoc, hom⟩;dsimp only at hS hc0 hc1 hi hoc hom ⊢;have hol := hS.len;refine zS (zSG (TL.rn 2 rfl (TL.v (gN Tryz.underlying50) ?_)));refine TL.sp Ko (fun q12 => ?_) (fun q12 => ?_)
 ·refine zET (zc (zk (zT (zS (zB (zS ?_))))));obtain ⟨s, hs⟩ : ∃ s, s = a.getD i 0 + (-1) * b.getD i 0 + -bo := ⟨_, rfl⟩;have hsr := SumI.borrow (c := -bo) ha.1 hb.1 (by omega) hs;have hga := ha.1.getD i;have hgb := hb.1.getD i;refine TC.quietQ (by kernel_rfl) (by kernel_rfl) (fun w hw => hw.drawn _) ?_;refine TQ.rn 2 rfl ?_;have hi17 : i < a.length := by omega
  obtain ⟨x17, hx17⟩ := Kq hi17;obtain ⟨b17, o17, hA17, hbb17, hc17⟩ := hr.ad (by omega) (by decide);have hax : a.getD i 0 = x17 := KP hx17;refine TQ.w rfl (gA (i := i) Tryz.underlying50 KeY rfl rfl rfl rfl hA17 (by omega)) ?_;refine TQ.w rfl (Kw (v := .int .i64 x17) rfl rfl Kk0 (fun w1 hw => (hw.bel.cell hbb17).trans <| KL (Km .i64) hx17 hc17 0 _ rfl)) ?_;refine TQ.rn 2 rfl ?_;refine TQ.p1 (v := .int .i64 (b.getD i 0)) rfl KbQ (fun w1 hw => (KbX A1 c1 b i w1 (hr1.up hw.bel) (by omega) (by omega)).mono fun en w2 ⟨h1, h2⟩ => ⟨h1, hw.below h2⟩) ?_;refine TQ.w rfl (Ke rfl rfl rfl (fun w => Ky (r := x17 - b.getD i 0) (by simp only [IntKind.wrap_i64]; omega) w)) ?_;refine TQ.w rfl (KA rfl rfl) ?_;refine TQ.w rfl (Ke rfl rfl rfl (fun w => Ky (r := s) (by simp only [IntKind.wrap_i64]; omega) w)) ?_;refine TQ.w rfl (KZ rfl rfl) ?_;refine TQ.fin ?_;refine zT (zSG (TL.as_ ?_));refine zET (zS (zSG (TL.mv ?_)));refine TL.sp Ko (fun q26 => ?_) (fun q26 => ?_)
  ·refine zET (zc (zSG (TL.mv ?_)));refine TL.v (gD (s % 1073741824)) ?_;refine TL.as_ ?_;refine zET (zG (TL.as_ ?_));refine zET (TC.cut [(0, .slice A0 a.length c0), (1, .slice A1 b.length c1), (5, .slice Ao o.length co), (6, .int .i64 (-(s / 1073741824))), (7, .int .i64 ((i : Nat) : Int)), (9, .int .i64 ((i : Nat) : Int)), (10, .slice A0 a.length c0), (11, .int .i64 (a.length : Nat)), (12, .bool true), (15, .slice A0 a.length c0), (16, .int .i64 ((i : Nat) : Int)), (17, .pointer (some ⟨b17, o17 + i * 1, none⟩)), (18, .int .i64 x17), (19, .slice A1 b.length c1), (20, .int .i64 ((i : Nat) : Int)), (21, .int .i64 (b.getD i 0)), (22, .int .i64 (x17 - b.getD i 0)), (23, .int .i64 bo), (24, .int .i64 s), (8, .int .i64 (s % 1073741824)), (25, .int .i64 s), (26, .bool true), (27, .int .i64 s), (28, .int .i64 (s % 1073741824))] (Pm w [.row (.slice Ao o.length co) 3 1 o.length (Kb (ic .i64) o)]) ⟨rfl, rfl, rfl, (by show some (Value.int .i64 1) = some (Value.int .i64 (-(s / 1073741824))); congr 2; omega), rfl, rfl, rfl, rfl, rfl, rfl, rfl, rfl, rfl, rfl, rfl, rfl, rfl, rfl, rfl, rfl, rfl, rfl, rfl, rfl, trivial⟩ (fun w1 hw => hw) ?_);refine zG (TL.rn 2 rfl ?_);refine TL.prowS (e := 3) (size := 1) (cs := Kb (ic .i64) [s % 1073741824]) rfl rfl rfl rfl rfl (fun w => KiJ _ w) (by decide) rfl (fun g31 => ?_);refine TL.appendT (k := 1) rfl rfl rfl rfl Tryz.underlying50 Kg0 rfl rfl rfl (fun w1 hw => K0 hw (k := 0) rfl) (Kx (Km .i64) _) (by omega) ((o ++ [s % 1073741824]).length) (by rw [List.length_append]; rfl) (Kb (ic .i64) (o ++ [s % 1073741824])) ((Kz _ _).symm) (fun A32 c32 hA321 hA322 => ?_);refine TL.as_ ?_;refine zE (zN (zT (zG (TL.mv ?_))));refine TL.v (gD ((i + 1 : Nat) : Int)) ?_;refine TL.as_ ?_;refine zE ?_;exact TX.rd (⟨((A32, c32), i + 1, -(s / 1073741824), o ++ [s % 1073741824]), ⟨by dsimp only; rw [Int.neg_neg]; exact hS.step s hs, by dsimp only; omega, by dsimp only; omega, by dsimp only; omega⟩, hA321, hA322⟩) (by show a.length - (i + 1) < a.length - i; omega) (fun w1 hw => hw.pk [1])
  refine zET (zd (zk (zT (TC.cut [(0, .slice A0 a.length c0), (1, .slice A1 b.length c1), (5, .slice Ao o.length co), (6, .int .i64 (-(s / 1073741824))), (7, .int .i64 ((i : Nat) : Int)), (9, .int .i64 ((i : Nat) : Int)), (10, .slice A0 a.length c0), (11, .int .i64 (a.length : Nat)), (12, .bool true), (15, .slice A0 a.length c0), (16, .int .i64 ((i : Nat) : Int)), (17, .pointer (some ⟨b17, o17 + i * 1, none⟩)), (18, .int .i64 x17), (19, .slice A1 b.length c1), (20, .int .i64 ((i : Nat) : Int)), (21, .int .i64 (b.getD i 0)), (22, .int .i64 (x17 - b.getD i 0)), (23, .int .i64 bo), (24, .int .i64 s), (8, .int .i64 (s % 1073741824)), (25, .int .i64 s), (26, .bool false)] (Pm w [.row (.slice Ao o.length co) 3 1 o.length (Kb (ic .i64) o)]) ⟨rfl, rfl, rfl, (by show some (Value.int .i64 0) = some (Value.int .i64 (-(s / 1073741824))); congr 2; omega), rfl, rfl, rfl, rfl, rfl, rfl, rfl, rfl, rfl, rfl, rfl, rfl, rfl, rfl, rfl, (by show some (Value.int .i64 s) = some (Value.int .i64 (s % 1073741824)); congr 2; omega), rfl, rfl, trivial⟩ (fun w1 hw => hw) ?_))));refine zG (TL.rn 2 rfl ?_);refine TL.prowS (e := 3) (size := 1) (cs := Kb (ic .i64) [s % 1073741824]) rfl rfl rfl rfl rfl (fun w => KiJ _ w) (by decide) rfl (fun g31 => ?_);refine TL.appendT (k := 1) rfl rfl rfl rfl Tryz.underlying50 Kg0 rfl rfl rfl (fun w1 hw => K0 hw (k := 0) rfl) (Kx (Km .i64) _) (by omega) ((o ++ [s % 1073741824]).length) (by rw [List.length_append]; rfl) (Kb (ic .i64) (o ++ [s % 1073741824])) ((Kz _ _).symm) (fun A32 c32 hA321 hA322 => ?_);refine TL.as_ ?_;refine zE (zN (zT (zG (TL.mv ?_))));refine TL.v (gD ((i + 1 : Nat) : Int)) ?_;refine TL.as_ ?_;refine zE ?_;exact TX.rd (⟨((A32, c32), i + 1, -(s / 1073741824), o ++ [s % 1073741824]), ⟨by dsimp only; rw [Int.neg_neg]; exact hS.step s hs, by dsimp only; omega, by dsimp only; omega, by dsimp only; omega⟩, hA321, hA322⟩) (by show a.length - (i + 1) < a.length - i; omega) (fun w1 hw => hw.pk [1])
 refine zET (zd (zx (zX (zX (zM (zT (zS ?_)))))));have hbl := Ke5 ha.1 hb hle;have hfu := hS.less (by omega) hbl (by omega) hle;refine zG (TL.mv ?_);refine TL.p1 (r := .slice Ao ((Ki o).length) co) rfl Kdw (fun w1 hw => Kee Ao o.length co o w1 (Kp hw (k := 0) rfl) rfl (by omega) (by omega)) ?_;refine TL.as_ ?_;refine zET (zr ?_);exact Kg (v := .slice Ao ((Ki o).length) co) Tryz.results192 rfl (fun w1 hw => ⟨⟨((Ao, co), Ki o), ⟨(Nrm.trim hS.ok).1, (Nrm.trim hS.ok).2.trans hfu⟩, by dsimp only; have h9 := (Kah o).2.1; omega, hom⟩, rfl, Pm.trimR (show Pm w [.row (.slice Ao o.length co) 3 1 o.length (Kb (ic .i64) o)] w1 from hw) rfl⟩)
theorem Kdm (A0 : Option Addr) (c0 : Nat) (a : List Int) (w : World) (hr : Kd w w.heap.size 1 A0 a.length (Kb (ic .i64) a)) (hl1 : a.length <= 1000) (ha : Kl a) :
  Calls Tryz.prog 190 #[.slice A0 a.length c0] w fun e w' => ∃ x : {y : (Option Addr × Nat) × List Int // (Nrm y.2 /\ Ka y.2 = Ka a / 2) /\ y.2.length <= y.1.2 /\ y.1.2 <= maxLen}, e = .returned (.slice x.1.1.1 x.1.2.length x.1.1.2) /\ Pm w [.row (.slice x.1.1.1 x.1.2.length x.1.1.2) 3 1 x.1.2.length (Kb (ic .i64) x.1.2)] w' := by
 refine Kj Tryz.func190 rfl rfl rfl ?_ (Pm.start w);refine zSG (TL.as_ ?_);refine zET (zSG (TL.mv ?_));refine TL.v (gN Tryz.underlying50) ?_;refine TL.mkrow (m := a.length) rfl rfl rfl rfl rfl rfl Kg0 (z := .int .i64 0) (by kernel_rfl) (zs := Kb (ic .i64) (List.replicate a.length 0)) ((Kbw _ rfl a.length).trans (by rw [Kag, List.map_replicate])) (by show _ * 8 <= _; omega) (fun g9 => ?_);refine TL.as_ ?_;refine zET (zSG (TL.as_ ?_));refine zET (zS (zSG (TL.mv ?_)));refine TL.v (gN Tryz.underlying50) ?_;refine TL.w rfl (Ke rfl rfl rfl (fun w => Ky (r := ((a.length : Nat) : Int) - 1) (by simp only [IntKind.wrap_i64]; omega) w)) ?_;refine TL.as_ ?_;refine zET (zB (TC.loop_ (α := {y : Nat × Int × List Int // y.1 <= a.length /\ SmI a y.2.2 2 y.1 y.2.1}) (fun y => [(0, .slice A0 a.length c0), (3, .slice (some ⟨g9, 0, none⟩) a.length a.length), (4, .int .i64 y.1.2.1), (5, .int .i64 (((y.1.1 : Nat) : Int) - 1))]) (fun y => Pm w [.row (.slice (some ⟨g9, 0, none⟩) a.length a.length) 3 1 a.length (Kb (ic .i64) y.1.2.2)]) (fun y => y.1.1) (⟨(a.length, 0, _), Nat.le_refl _, SmI.start (by decide)⟩) ⟨rfl, rfl, rfl, rfl, trivial⟩ (fun w1 hw => hw) ?_));rintro ⟨⟨i, r, o⟩, hi, hS⟩;dsimp only at hi hS ⊢;have hol := hS.len;have hr01 := hS.r01;refine zS (zSG (TL.mv ?_));refine TL.sp KQ (fun q14 => ?_) (fun q14 => ?_)
 ·refine zET (zc (zk (zT (zS (zB (zS ?_))))));obtain ⟨x, hx⟩ : ∃ x, a[i - 1]? = some x := ⟨_, List.getElem?_eq_getElem (by omega)⟩;have hS1 : SmI a o 2 (i - 1 + 1) r := by rw [show i - 1 + 1 = i by omega]; exact hS
  have hrg := hS1.rng ha (by decide) hx;have hrx := ha.at_ hx;have hr01 := hS.r01;obtain ⟨v, hv⟩ : ∃ v, v = r * 1073741824 + x := ⟨_, rfl⟩;rw [<- hv] at hrg;refine TC.cut [(0, .slice A0 a.length c0), (3, .slice (some ⟨g9, 0, none⟩) a.length a.length), (4, .int .i64 r), (5, .int .i64 (((i - 1) : Nat) : Int)), (13, .int .i64 (((i : Nat) : Int) - 1)), (14, .bool true)] (Pm w [.row (.slice (some ⟨g9, 0, none⟩) a.length a.length) 3 1 a.length (Kb (ic .i64) o)]) ⟨rfl, rfl, rfl, (by show some (Value.int .i64 (((i : Nat) : Int) - 1)) = some (Value.int .i64 (((i - 1) : Nat) : Int)); congr 2; omega), rfl, rfl, trivial⟩ (fun w1 hw => hw) ?_;refine zG (TL.rn 2 rfl ?_);have hi19 : (i - 1) < a.length := by omega
  obtain ⟨x19, hx19⟩ := Kq hi19;obtain ⟨b19, o19, hA19, hbb19, hc19⟩ := hr.ad (by omega) (by decide);have hxe : x19 = x := by rw [hx] at hx19; injection hx19 with h9; exact h9.symm
  refine TL.w rfl (gA (i := (i - 1)) Tryz.underlying50 KeY rfl rfl rfl rfl hA19 (by omega)) ?_;refine TL.w rfl (Kw (v := .int .i64 x19) rfl rfl Kk0 (fun w1 hw => (hw.bel.cell hbb19).trans <| KL (Km .i64) hx19 hc19 0 _ rfl)) ?_;refine TL.mv ?_;refine TL.w rfl (Ke rfl rfl rfl (fun w => Kb2 (r := r * 1073741824) (by simp only [IntKind.wrap_i64]; omega) w)) ?_;refine TL.v (gD v) ?_;refine TL.as_ ?_;refine zET (zSG (TL.rn 3 rfl ?_));refine TL.w rfl (Ke (v := .int .i64 (v / 2)) rfl rfl rfl (fun w => KbP (by omega) (by decide) (by omega) w)) ?_;have hi28 : (i - 1) < o.length := by omega
  obtain ⟨x28, hx28⟩ := Kq hi28;refine TL.w rfl (gA (i := (i - 1)) Tryz.underlying50 KeY rfl rfl rfl rfl rfl (by omega)) ?_;refine TL.rowset (k := 0) (vs := [.int .i64 (v / 2)]) (xs' := Kb (ic .i64) (o.set (i - 1) (v / 2))) rfl rfl rfl rfl rfl rfl rfl KeY KpU (by rw [KW (Km .i64)]; show 0 + (i - 1) * 1 + 1 <= _; omega) (Kar (Km .i64) (q := 0) (y := v / 2) hx28 (by show 0 + 1 <= 1; decide) rfl) ?_
  try dsimp only [List.set_cons_zero, List.set_cons_succ]
  refine zET (zG (TL.mv ?_));refine TL.w rfl (Ke (v := .int .i64 (v % 2)) rfl rfl rfl (fun w => KaP (by omega) (by decide) w)) ?_;refine TL.as_ ?_;refine zE (zN (zT (zG (TL.mv ?_))));refine TL.w rfl (Ke rfl rfl rfl (fun w => Ky (r := ((i - 1 : Nat) : Int) - 1) (by simp only [IntKind.wrap_i64]; omega) w)) ?_;refine TL.as_ ?_;refine zE ?_;exact TX.rd (⟨(i - 1, v % 2, o.set (i - 1) (v / 2)), by dsimp only; omega, hS1.step ha (by decide) hx v hv⟩) (by show i - 1 < i; omega) (fun w1 hw => hw)
 refine zET (zd (zx (zX (zX (zM (zT (zS ?_)))))));have hfu : Ka o * 2 + r = Ka a /\ 0 <= r /\ r < 2 := by have h0 : i = 0 := (by omega); subst h0; exact ⟨by rw [<- hS.full], hS.r01⟩
 refine zG (TL.mv ?_);refine TL.p1 (r := .slice (some ⟨g9, 0, none⟩) ((Ki o).length) a.length) rfl Kdw (fun w1 hw => Kee (some ⟨g9, 0, none⟩) a.length a.length o w1 (Kp hw (k := 0) rfl) hol (by omega) (by omega)) ?_;refine TL.as_ ?_;refine zET (zr ?_);exact Kg (v := .slice (some ⟨g9, 0, none⟩) ((Ki o).length) a.length) Tryz.results190 rfl (fun w1 hw => ⟨⟨(((some ⟨g9, 0, none⟩), a.length), Ki o), ⟨(Nrm.trim hS.ok).1, (Nrm.trim hS.ok).2.trans (by omega)⟩, by dsimp only; have h9 := (Kah o).2.1; omega, by dsimp only; unfold maxLen; omega⟩, rfl, Pm.trimR (show Pm w [.row (.slice (some ⟨g9, 0, none⟩) a.length a.length) 3 1 a.length (Kb (ic .i64) o)] w1 from hw) hol⟩)
set_option maxRecDepth 20000
theorem KoS {o : List Int} {j : Nat} (hj : j < o.length) (h : o.getD j 0 = 0) : o.set j 0 = o := by
 have e : o[j] = 0 := by rw [<- h, List.getD_eq_getElem?_getD, List.getElem?_eq_getElem hj]; rfl
 rw [<- e, List.set_getElem_self]
def TmI (a b o : List Int) (i k : Nat) (c : Int) : Prop := (k <= b.length /\ MulJ a b o i k c) \/ (k = b.length + 1 /\ c = 0 /\ MulI a b o (i + 1))
theorem TmI.len {a b o : List Int} {i k : Nat} {c : Int} (h : TmI a b o i k c) : o.length = a.length + b.length := h.elim (fun h => h.2.len) fun h => h.2.2.len
theorem TmI.lo {a b o : List Int} {i k : Nat} {c : Int} (h : TmI a b o i k c) (hm : k < b.length \/ 0 < c) : k <= b.length /\ MulJ a b o i k c := by
 rcases h with h | ⟨h1, h2, _⟩
 ·exact h
 omega
theorem TmI.rng {a b o : List Int} {i k : Nat} {c x z : Int} (h : TmI a b o i k c) (hm : k < b.length \/ 0 < c) (ha : Kl a) (hb : Kl b) (hx : a[i]? = some x) (hz : o[i + k]? = some z) : 0 <= x * b.getD k 0 /\ x * b.getD k 0 <= 1152921502459363329 /\ 0 <= z /\ z < 1073741824 /\ 0 <= c /\ c < 1073741824 := by
 obtain ⟨h1, h2⟩ := h.lo hm;have h3 := KdB (ha.at_ hx) (hb.getD k);have h4 := h2.ok.at_ hz;have h5 := h2.c01;exact ⟨h3.1, h3.2, h4.1, h4.2, h5.1, h5.2⟩
theorem TmI.step {a b o : List Int} {i k : Nat} {c x z : Int} (h : TmI a b o i k c) (hm : k < b.length \/ 0 < c) (ha : Kl a) (hb : Kl b) (hi : i < a.length) (hx : a[i]? = some x) (hz : o[i + k]? = some z) (s : Int) (hs : s = z + x * b.getD k 0 + c) : TmI a b (o.set (i + k) (s % 1073741824)) i (k + 1) (s / 1073741824) := by
 obtain ⟨h1, h2⟩ := h.lo hm;rcases Nat.lt_or_ge k b.length with h3 | h3
 ·obtain ⟨y, hy⟩ : ∃ y, b[k]? = some y := ⟨_, List.getElem?_eq_getElem h3⟩;rw [KP hy] at hs;exact .inl ⟨h3, h2.step ha hb hi h3 hx hy hz s hs⟩
 obtain rfl : k = b.length := by omega
 rw [Kc5 (Nat.le_refl _), Int.mul_zero, Int.add_zero] at hs;have h4 := h2.zer _ (Nat.le_refl _);rw [KP hz] at h4;have h5 := h2.c01;have h6 : s = c := by omega
 have e1 : s % 1073741824 = c := by omega
 have e2 : s / 1073741824 = 0 := by omega
 rw [e1, e2];exact .inr ⟨rfl, rfl, h2.done hi⟩
theorem TmI.done {a b o : List Int} {i k : Nat} {c : Int} (h : TmI a b o i k c) (hi : i < a.length) (hk : b.length <= k) (hc : c = 0) : MulI a b o (i + 1) := by
 rcases h with ⟨h1, h2⟩ | ⟨_, _, h2⟩
 ·obtain rfl : k = b.length := by omega
  subst hc;have h3 := h2.done hi;rwa [KoS (by rw [h2.len]; omega) (h2.zer _ (Nat.le_refl _))] at h3
 exact h2
theorem KpZ : Elem Tryz.prog 50 3 1 8 := Elem.mk' Tryz.underlying50 (z := .int .i64 0) (by kernel_rfl) rfl (by omega) (by omega)
theorem Kb1 (w : World) : (sizeOf 3).run Tryz.prog w = .ok 1 w := rfl
theorem Kfa (w : World) : (isAgg 3).run Tryz.prog w = .ok false w := rfl
theorem KkR {a0 : Int} : ∀ u ∈ [(.int .i64 a0 : Value)], u.oneCell' = true := by
 intro u hu;rw [List.mem_singleton] at hu;subst hu; rfl
theorem KcM (A0 : Option Addr) (c0 : Nat) (a : List Int) (A1 : Option Addr) (c1 : Nat) (b : List Int) (w : World) (hr : Kd w w.heap.size 1 A0 a.length (Kb (ic .i64) a)) (hl1 : a.length <= 1000) (hr1 : Kd w w.heap.size 1 A1 b.length (Kb (ic .i64) b)) (hl2 : b.length <= 1000) (ha : Nrm a) (hb : Nrm b) :
  Calls Tryz.prog 193 #[.slice A0 a.length c0, .slice A1 b.length c1] w fun e w' => ∃ x : {y : (Option Addr × Nat) × List Int // (Nrm y.2 /\ Ka y.2 = Ka a * Ka b) /\ y.2.length <= y.1.2 /\ y.1.2 <= maxLen}, e = .returned (.slice x.1.1.1 x.1.2.length x.1.1.2) /\ Pm w [.row (.slice x.1.1.1 x.1.2.length x.1.1.2) 3 1 x.1.2.length (Kb (ic .i64) x.1.2)] w' := by
 refine Kj Tryz.func193 rfl rfl rfl ?_ (Pm.start w);refine zSG (TL.as_ ?_);refine zET (zSG (TL.mv ?_));refine TL.v (gN Tryz.underlying50) ?_;refine TL.mv ?_;refine TL.v (gN Tryz.underlying50) ?_;refine TL.v (gD ((a.length + b.length : Nat) : Int)) ?_;refine TL.mkrow (m := (a.length + b.length)) rfl rfl rfl rfl rfl rfl KpZ (z := .int .i64 0) (by kernel_rfl) (zs := Kb (ic .i64) (List.replicate (a.length + b.length) 0)) ((Kbw _ rfl (a.length + b.length)).trans (by rw [Kag, List.map_replicate])) (by show _ * 8 <= _; omega) (fun g15 => ?_);refine TL.as_ ?_;refine zET (zS (zSG (TL.as_ ?_)));refine zET (zB (TC.lp (α := {y : Nat × List Int // y.1 <= a.length /\ MulI a b y.2 y.1}) [0, 1, 5] rfl (fun y => [(6, .int .i64 ((y.1.1 : Nat) : Int))]) (fun y => Pm w [.row (.slice (some ⟨g15, 0, none⟩) (a.length + b.length) (a.length + b.length)) 3 1 (a.length + b.length) (Kb (ic .i64) y.1.2)]) (fun y => a.length - y.1.1) (⟨(0, _), Nat.zero_le _, MulI.start a b⟩) (fun w1 hw => hw) ?_));rintro ⟨⟨i, o⟩, hi, hM⟩;dsimp only at hi hM ⊢;have hol := hM.len;refine zS (zSG (TL.rn 2 rfl (TL.v (gN Tryz.underlying50) ?_)));refine TL.sp Ko (fun q19 => ?_) (fun q19 => ?_)
 ·refine zET (zc (zk (zT (zS (zB (zSG (TL.as_ ?_)))))));refine zET (zSG (TL.as_ ?_));refine zET (zB (TC.lp (α := {y : Nat × Int × List Int // y.1 <= b.length + 1 /\ TmI a b y.2.2 i y.1 y.2.1 /\ 0 <= y.2.1}) [0, 1, 5, 6] rfl (fun y => [(8, .int .i64 ((y.1.1 : Nat) : Int)), (7, .int .i64 y.1.2.1)]) (fun y => Pm w [.row (.slice (some ⟨g15, 0, none⟩) (a.length + b.length) (a.length + b.length)) 3 1 (a.length + b.length) (Kb (ic .i64) y.1.2.2)]) (fun y => b.length + 1 - y.1.1) (⟨(0, 0, o), Nat.zero_le _, .inl ⟨Nat.zero_le _, hM.inner⟩, Int.le_refl _⟩) (fun w1 hw => hw) ?_));rintro ⟨⟨k, c, o2⟩, hk, hT, hc0⟩;dsimp only at hk hT hc0 ⊢;have hol2 := hT.len;refine zS (zSG (TL.rn 2 rfl (TL.v (gN Tryz.underlying50) ?_)));refine TL.sp Ko (fun q25 => ?_) (fun q25 => ?_)
  ·refine TL.rn 4 rfl (zET (zc (zk (zT (zS (zB (zS ?_)))))));have hm9 : k < b.length \/ 0 < c := by omega
   obtain ⟨hk9, hJ9⟩ := hT.lo hm9;obtain ⟨x, hx⟩ : ∃ x, a[i]? = some x := ⟨_, List.getElem?_eq_getElem (by omega)⟩;obtain ⟨z, hz⟩ : ∃ z, o2[i + k]? = some z := ⟨_, List.getElem?_eq_getElem (by omega)⟩;have hrg := hT.rng hm9 ha.1 hb.1 hx hz;obtain ⟨s, hs⟩ : ∃ s, s = z + x * b.getD k 0 + c := ⟨_, rfl⟩;have hst := hT.step hm9 ha.1 hb.1 (by omega) hx hz s hs;refine TC.quietQ (by kernel_rfl) (by kernel_rfl) (fun w hw => hw.drawn _) ?_;refine TQ.rn 3 rfl (TQ.v (gD ((i + k : Nat) : Int)) ?_);have hi36 : i + k < o2.length := by omega
   obtain ⟨x36, hx36⟩ := Kq hi36;obtain rfl : x36 = z := Option.some.inj (hx36.symm.trans hz);refine TQ.w rfl (gA (i := (i + k)) Tryz.underlying50 Kb1 rfl rfl rfl rfl rfl (by omega)) ?_;refine TQ.w rfl (Kw (v := .int .i64 x36) rfl rfl Kfa (fun w1 hw => KN (Km .i64) hw (q := 0) rfl hx36 0 _ rfl)) ?_;refine TQ.rn 2 rfl ?_;have hi40 : i < a.length := by omega
   obtain ⟨x40, hx40⟩ := Kq hi40;obtain ⟨b40, o40, hA40, hbb40, hc40⟩ := hr.ad (by omega) (by decide);obtain rfl : x40 = x := Option.some.inj (hx40.symm.trans hx);refine TQ.w rfl (gA (i := i) Tryz.underlying50 Kb1 rfl rfl rfl rfl hA40 (by omega)) ?_;refine TQ.w rfl (Kw (v := .int .i64 x40) rfl rfl Kfa (fun w1 hw => (hw.bel.cell hbb40).trans <| KL (Km .i64) hx40 hc40 0 _ rfl)) ?_;refine TQ.rn 2 rfl ?_;refine TQ.p1 (v := .int .i64 (b.getD k 0)) rfl KbQ (fun w1 hw => (KbX A1 c1 b k w1 (hr1.up hw.bel) (by omega) (by omega)).mono fun en w2 ⟨h1, h2⟩ => ⟨h1, hw.below h2⟩) ?_;refine TQ.w rfl (Ke rfl rfl rfl (fun w => Kb2 (r := x40 * b.getD k 0) (by simp only [IntKind.wrap_i64]; omega) w)) ?_;refine TQ.v (gD (x36 + x40 * b.getD k 0)) ?_;refine TQ.w rfl (KA rfl rfl) ?_;refine TQ.v (gD s) ?_;refine TQ.w rfl (KZ rfl rfl) ?_;refine TQ.fin ?_;refine zT (zSG (TL.rn 3 rfl (TL.v (gD ((i + k : Nat) : Int)) ?_)));refine TL.mv ?_;refine TL.w rfl (Ke (v := .int .i64 (s % 1073741824)) rfl rfl rfl (fun w => KaP (by omega) (by decide) w)) ?_;refine TL.w rfl (gA (i := (i + k)) Tryz.underlying50 Kb1 rfl rfl rfl rfl rfl (by omega)) ?_;refine TL.rowset (k := 0) (vs := [.int .i64 (s % 1073741824)]) (xs' := Kb (ic .i64) (o2.set (i + k) (s % 1073741824))) rfl rfl rfl rfl rfl rfl rfl Kb1 KkR (by rw [KW (Km .i64)]; show 0 + (i + k) * 1 + 1 <= _; omega) (Kar (Km .i64) (q := 0) (y := s % 1073741824) hx36 (by show 0 + 1 <= 1; decide) rfl) ?_
   try dsimp only [List.set_cons_zero, List.set_cons_succ]
   refine zET (zG (TL.mv ?_));refine TL.w rfl (Ke (v := .int .i64 (s / 1073741824)) rfl rfl rfl (fun w => KbP (by omega) (by decide) (by omega) w)) ?_;refine TL.as_ ?_;refine zE (zN (zT (zG (TL.mv ?_))));refine TL.v (gD ((k + 1 : Nat) : Int)) ?_;refine TL.as_ ?_;refine zE ?_;exact TX.rd (⟨(k + 1, s / 1073741824, o2.set (i + k) (s % 1073741824)), by dsimp only; omega, hst, by dsimp only; omega⟩) (by show b.length + 1 - (k + 1) < b.length + 1 - k; omega) (fun w1 hw => hw)
  refine TL.rn 2 rfl (TL.gu ?_);refine TL.sp KB (fun q28 => ?_) (fun q28 => ?_)
  ·refine TL.pk ?_;refine zET (zc (zk (zT (zS (zB (zS ?_))))));have hm9 : k < b.length \/ 0 < c := by omega
   obtain ⟨hk9, hJ9⟩ := hT.lo hm9;obtain ⟨x, hx⟩ : ∃ x, a[i]? = some x := ⟨_, List.getElem?_eq_getElem (by omega)⟩;obtain ⟨z, hz⟩ : ∃ z, o2[i + k]? = some z := ⟨_, List.getElem?_eq_getElem (by omega)⟩;have hrg := hT.rng hm9 ha.1 hb.1 hx hz;obtain ⟨s, hs⟩ : ∃ s, s = z + x * b.getD k 0 + c := ⟨_, rfl⟩;have hst := hT.step hm9 ha.1 hb.1 (by omega) hx hz s hs;refine TC.quietQ (by kernel_rfl) (by kernel_rfl) (fun w hw => hw.drawn _) ?_;refine TQ.rn 3 rfl (TQ.v (gD ((i + k : Nat) : Int)) ?_);have hi36 : i + k < o2.length := by omega
   obtain ⟨x36, hx36⟩ := Kq hi36;obtain rfl : x36 = z := Option.some.inj (hx36.symm.trans hz);refine TQ.w rfl (gA (i := (i + k)) Tryz.underlying50 Kb1 rfl rfl rfl rfl rfl (by omega)) ?_;refine TQ.w rfl (Kw (v := .int .i64 x36) rfl rfl Kfa (fun w1 hw => KN (Km .i64) hw (q := 0) rfl hx36 0 _ rfl)) ?_;refine TQ.rn 2 rfl ?_;have hi40 : i < a.length := by omega
   obtain ⟨x40, hx40⟩ := Kq hi40;obtain ⟨b40, o40, hA40, hbb40, hc40⟩ := hr.ad (by omega) (by decide);obtain rfl : x40 = x := Option.some.inj (hx40.symm.trans hx);refine TQ.w rfl (gA (i := i) Tryz.underlying50 Kb1 rfl rfl rfl rfl hA40 (by omega)) ?_;refine TQ.w rfl (Kw (v := .int .i64 x40) rfl rfl Kfa (fun w1 hw => (hw.bel.cell hbb40).trans <| KL (Km .i64) hx40 hc40 0 _ rfl)) ?_;refine TQ.rn 2 rfl ?_;refine TQ.p1 (v := .int .i64 (b.getD k 0)) rfl KbQ (fun w1 hw => (KbX A1 c1 b k w1 (hr1.up hw.bel) (by omega) (by omega)).mono fun en w2 ⟨h1, h2⟩ => ⟨h1, hw.below h2⟩) ?_;refine TQ.w rfl (Ke rfl rfl rfl (fun w => Kb2 (r := x40 * b.getD k 0) (by simp only [IntKind.wrap_i64]; omega) w)) ?_;refine TQ.v (gD (x36 + x40 * b.getD k 0)) ?_;refine TQ.w rfl (KA rfl rfl) ?_;refine TQ.v (gD s) ?_;refine TQ.w rfl (KZ rfl rfl) ?_;refine TQ.fin ?_;refine zT (zSG (TL.rn 3 rfl (TL.v (gD ((i + k : Nat) : Int)) ?_)));refine TL.mv ?_;refine TL.w rfl (Ke (v := .int .i64 (s % 1073741824)) rfl rfl rfl (fun w => KaP (by omega) (by decide) w)) ?_;refine TL.w rfl (gA (i := (i + k)) Tryz.underlying50 Kb1 rfl rfl rfl rfl rfl (by omega)) ?_;refine TL.rowset (k := 0) (vs := [.int .i64 (s % 1073741824)]) (xs' := Kb (ic .i64) (o2.set (i + k) (s % 1073741824))) rfl rfl rfl rfl rfl rfl rfl Kb1 KkR (by rw [KW (Km .i64)]; show 0 + (i + k) * 1 + 1 <= _; omega) (Kar (Km .i64) (q := 0) (y := s % 1073741824) hx36 (by show 0 + 1 <= 1; decide) rfl) ?_
   try dsimp only [List.set_cons_zero, List.set_cons_succ]
   refine zET (zG (TL.mv ?_));refine TL.w rfl (Ke (v := .int .i64 (s / 1073741824)) rfl rfl rfl (fun w => KbP (by omega) (by decide) (by omega) w)) ?_;refine TL.as_ ?_;refine zE (zN (zT (zG (TL.mv ?_))));refine TL.v (gD ((k + 1 : Nat) : Int)) ?_;refine TL.as_ ?_;refine zE ?_;exact TX.rd (⟨(k + 1, s / 1073741824, o2.set (i + k) (s % 1073741824)), by dsimp only; omega, hst, by dsimp only; omega⟩) (by show b.length + 1 - (k + 1) < b.length + 1 - k; omega) (fun w1 hw => hw)
  refine TL.pk ?_;refine zET (zd (zx (zX (zX (zM (zN (zT (zG (TL.mv ?_)))))))));refine TL.v (gD ((i + 1 : Nat) : Int)) ?_;refine TL.as_ ?_;refine zE ?_;exact TX.rd (⟨(i + 1, o2), by dsimp only; omega, hT.done (by omega) (by omega) (by omega)⟩) (by show a.length - (i + 1) < a.length - i; omega) (fun w1 hw => hw)
 refine zET (zd (zx (zX (zX (zM (zT (zS ?_)))))));have hfu := hM.full (by omega);refine zG (TL.mv ?_);refine TL.p1 (r := .slice (some ⟨g15, 0, none⟩) ((Ki o).length) (a.length + b.length)) rfl Kdw (fun w1 hw => Kee (some ⟨g15, 0, none⟩) (a.length + b.length) (a.length + b.length) o w1 (Kp hw (k := 0) rfl) hol (by omega) (by omega)) ?_;refine TL.as_ ?_;refine zET (zr ?_);exact Kg (v := .slice (some ⟨g15, 0, none⟩) ((Ki o).length) (a.length + b.length)) Tryz.results193 rfl (fun w1 hw => ⟨⟨(((some ⟨g15, 0, none⟩), (a.length + b.length)), Ki o), ⟨(Nrm.trim hM.ok).1, (Nrm.trim hM.ok).2.trans hfu⟩, by dsimp only; have h9 := (Kah o).2.1; omega, by dsimp only; unfold maxLen; omega⟩, rfl, Pm.trimR (show Pm w [.row (.slice (some ⟨g15, 0, none⟩) (a.length + b.length) (a.length + b.length)) 3 1 (a.length + b.length) (Kb (ic .i64) o)] w1 from hw) hol⟩)
set_option maxRecDepth 20000
def RdN (w : World) (X : List Pc) (A : Option Addr) (l : List Int) : Prop := ∀ w1 : World, Pm w X w1 -> Kd w1 w1.heap.size 1 A l.length (Kb (ic .i64) l)
theorem RdN.ext {w : World} {X : List Pc} {A : Option Addr} {l : List Int} (h : Kd w w.heap.size 1 A l.length (Kb (ic .i64) l)) : RdN w X A l := fun w1 hw => h.up hw.bel
theorem RdN.own {w : World} {X : List Pc} {A : Option Addr} {c : Nat} {e : TypeId} {l : List Int} : RdN w (.row (.slice A l.length c) e 1 l.length (Kb (ic .i64) l) :: X) A l := fun w1 hw => Kp hw (k := 0) rfl
theorem RdN.tail {w : World} {X : List Pc} {p : Pc} {A : Option Addr} {l : List Int} (h : RdN w X A l) : RdN w (p :: X) A l := fun w1 hw => h w1 (hw.sel (.cons _ (List.Sublist.refl _)))
abbrev tn (l : List Int) : Nat := (Ka l).toNat
theorem Kc9 {l : List Int} {x : Int} (h : l[0]? = some x) : Ka l % 2 = x % 2 := by
 cases l with
 | nil => cases h
 | cons y l =>
  injection h with h
  subst h;show (y + 1073741824 * Ka l) % 2 = _;omega
theorem Kp3 {p q : Nat} (hp : p % 2 = 0) (hq : q % 2 = 0) : Nat.gcd p q = 2 * Nat.gcd (p / 2) (q / 2) := by
 rw [<- Nat.gcd_mul_left, show 2 * (p / 2) = p by omega, show 2 * (q / 2) = q by omega]
theorem Kjl {p q : Nat} (hp : p % 2 = 0) (hq : q % 2 = 1) : Nat.gcd p q = Nat.gcd (p / 2) q := by
 have hc : Nat.Coprime 2 q := by
  show Nat.gcd 2 q = 1;rw [Nat.gcd_rec, hq]
  rfl
 have := Nat.Coprime.gcd_mul_left_cancel (p / 2) hc;rwa [show 2 * (p / 2) = p by omega] at this
theorem Kt6 {p q : Nat} (hp : p % 2 = 1) (hq : q % 2 = 0) : Nat.gcd p q = Nat.gcd p (q / 2) := by rw [Nat.gcd_comm, Kjl hq hp, Nat.gcd_comm]
theorem KlM {p q : Nat} (h : q <= p) : Nat.gcd p q = Nat.gcd (p - q) q := (Nat.gcd_sub_self_left h).symm
theorem Nrm.len_le' {r y : List Int} (hr : Nrm r) (hy : Nrm y) (h : Ka r <= Ka y) : r.length <= y.length := Ke5 hy.1 hr h
structure Gc1 (a b x y t : List Int) : Prop where
 nx : Nrm x
 ny : Nrm y
 nt : Nrm t
 px : 0 < Ka x
 py : 0 < Ka y
 pt : 0 < Ka t
 lx : Ka x <= Ka a
 ly : Ka y <= Ka b
 eq : Nat.gcd (tn a) (tn b) = tn t * Nat.gcd (tn x) (tn y)
structure Gc2 (a b x y t : List Int) : Prop where
 nx : Nrm x
 ny : Nrm y
 nt : Nrm t
 lx : Ka x <= Ka a
 ly : Ka y <= Ka b
 odd : tn x % 2 = 1 \/ tn y % 2 = 1
 eq : Nat.gcd (tn a) (tn b) = tn t * Nat.gcd (tn x) (tn y)
section
variable {a b x y t x' y' t' : List Int}
theorem tle {p : Nat} (ha : 0 < Ka a) (h : Nat.gcd (tn a) (tn b) = tn t * p) (hp : 0 < p) (ht : 0 <= Ka t) : Ka t <= Ka a := by
 have h1 : Nat.gcd (tn a) (tn b) <= tn a := Nat.gcd_le_left _ (by show 0 < (Ka a).toNat; omega);have h2 : tn t * 1 <= tn t * p := Nat.mul_le_mul_left _ hp;have h3 : tn t <= tn a := by omega
 unfold tn at h3;omega
theorem Gc1.lt (h : Gc1 a b x y t) (ha : 0 < Ka a) : Ka t <= Ka a := tle ha h.eq (Nat.gcd_pos_of_pos_left _ (by have := h.px; show 0 < (Ka x).toNat; omega)) (by have := h.pt; omega)
theorem Gc1.start (ha : Nrm a) (hb : Nrm b) (pa : 0 < Ka a) (pb : 0 < Ka b) : Gc1 a b a b [1] := ⟨ha, hb, ⟨Kl.cons (by decide) Kl.nil, by decide⟩, pa, pb, by decide, Int.le_refl _, Int.le_refl _, by rw [show tn [1] = 1 from rfl, Nat.one_mul]⟩
theorem Gc1.step (h : Gc1 a b x y t) (ex : Ka x % 2 = 0) (ey : Ka y % 2 = 0) (hx : Nrm x' /\ Ka x' = Ka x / 2) (hy : Nrm y' /\ Ka y' = Ka y / 2) (ht : Nrm t' /\ Ka t' = Ka t + Ka t) : Gc1 a b x' y' t' := by
 have h1 := h.px;have h2 := h.py;have h3 := h.pt;have h4 := h.lx;have h5 := h.ly;refine ⟨hx.1, hy.1, ht.1, by omega, by omega, by omega, by omega, by omega, ?_⟩;have e1 : tn x' = tn x / 2 := by unfold tn; omega
 have e2 : tn y' = tn y / 2 := by unfold tn; omega
 have e3 : tn t' = tn t * 2 := by unfold tn; omega
 rw [h.eq, Kp3 (by unfold tn; omega) (by unfold tn; omega), e1, e2, e3, Nat.mul_assoc]
theorem Gc1.done (h : Gc1 a b x y t) (ho : Ka x % 2 = 1 \/ Ka y % 2 = 1) : Gc2 a b x y t := ⟨h.nx, h.ny, h.nt, h.lx, h.ly, by have h1 := h.px; have h2 := h.py; unfold tn; omega, h.eq⟩
theorem Gc2.halfx (h : Gc2 a b x y t) (px : 0 < Ka x) (py : 0 < Ka y) (e : Ka x % 2 = 0) (hx : Nrm x' /\ Ka x' = Ka x / 2) : Gc2 a b x' y t := by
 have h1 := h.lx;have h2 := h.odd;have e1 : tn x' = tn x / 2 := by unfold tn; omega
 have e2 : tn x % 2 = 0 := by unfold tn; omega
 exact ⟨hx.1, h.ny, h.nt, by omega, h.ly, .inr (by omega), by rw [h.eq, Kjl e2 (by omega), e1]⟩
theorem Gc2.halfy (h : Gc2 a b x y t) (px : 0 < Ka x) (py : 0 < Ka y) (e : Ka y % 2 = 0) (hy : Nrm y' /\ Ka y' = Ka y / 2) : Gc2 a b x y' t := by
 have h1 := h.ly;have h2 := h.odd;have e1 : tn y' = tn y / 2 := by unfold tn; omega
 have e2 : tn y % 2 = 0 := by unfold tn; omega
 exact ⟨h.nx, hy.1, h.nt, h.lx, by omega, .inl (by omega), by rw [h.eq, Kt6 (by omega) e2, e1]⟩
theorem Gc2.subx (h : Gc2 a b x y t) (px : 0 < Ka x) (py : 0 < Ka y) (ox : Ka x % 2 = 1) (oy : Ka y % 2 = 1) (hle : Ka y <= Ka x) (hx : Nrm x' /\ Ka x' = Ka x - Ka y) : Gc2 a b x' y t := by
 have h1 := h.lx;have e1 : tn x' = tn x - tn y := by unfold tn; omega
 exact ⟨hx.1, h.ny, h.nt, by omega, h.ly, .inr (by unfold tn; omega), by rw [h.eq, KlM (by unfold tn; omega), e1]⟩
theorem Gc2.suby (h : Gc2 a b x y t) (px : 0 < Ka x) (py : 0 < Ka y) (ox : Ka x % 2 = 1) (oy : Ka y % 2 = 1) (hlt : Ka x < Ka y) (hy : Nrm y' /\ Ka y' = Ka y - Ka x) : Gc2 a b x y' t := by
 have h1 := h.ly;have e1 : tn y' = tn y - tn x := by unfold tn; omega
 exact ⟨h.nx, hy.1, h.nt, h.lx, by omega, .inl (by unfold tn; omega), by rw [h.eq, Nat.gcd_comm, KlM (by unfold tn; omega), Nat.gcd_comm, e1]⟩
theorem Gc2.done (h : Gc2 a b x y t) (h0 : x.length = 0 \/ y.length = 0) {z u : List Int} (hz : Nrm z /\ Ka z = Ka x + Ka y) (hu : Nrm u /\ Ka u = Ka t * Ka z) : Ka u = ((Nat.gcd (tn a) (tn b) : Nat) : Int) := by
 have tx := KH h.nx.1;have ty := KH h.ny.1;have tt := KH h.nt.1
 have e : Nat.gcd (tn x) (tn y) = tn z := by
  rcases h0 with h0 | h0
  ·obtain rfl := List.eq_nil_of_length_eq_zero h0;have e9 : tn ([] : List Int) = 0 := rfl;have e8 : Ka ([] : List Int) = 0 := rfl;rw [e9, Nat.gcd_zero_left];unfold tn; omega
  obtain rfl := List.eq_nil_of_length_eq_zero h0;have e9 : tn ([] : List Int) = 0 := rfl;have e8 : Ka ([] : List Int) = 0 := rfl;rw [e9, Nat.gcd_zero_right];unfold tn; omega
 have hz0 := KH hz.1.1;rw [h.eq, e, hu.2, Int.natCast_mul];unfold tn;rw [Int.toNat_of_nonneg tt, Int.toNat_of_nonneg hz0]
end
theorem Kd5 {l : List Int} (h : 0 < Ka l) : 0 < l.length := by
 cases l with
 | nil => exact absurd h (by decide)
 | cons x l => exact Nat.succ_pos _
theorem Gc2.zlen {a b x y t z : List Int} (h : Gc2 a b x y t) (ha : Nrm a) (hb : Nrm b) (h0 : x.length = 0 \/ y.length = 0) (hz : Nrm z /\ Ka z = Ka x + Ka y) : z.length <= max a.length b.length := by
 have e8 : Ka ([] : List Int) = 0 := rfl;have h1 := h.lx;have h2 := h.ly;rcases h0 with h0 | h0
 ·obtain rfl := List.eq_nil_of_length_eq_zero h0;have := hz.1.len_le' hb (by omega);omega
 obtain rfl := List.eq_nil_of_length_eq_zero h0;have := hz.1.len_le' ha (by omega);omega
theorem Kfi {l : List Int} (h : Nrm l) (hl : 0 < l.length) : 0 < Ka l := by
 have := h.pos hl;have := KS (l.length - 1);omega
theorem KoM (a0_0 : Int) (w : World) : (Instr.buildSlice 50 1 #[(0, .int .i64 a0_0)]).run Tryz.prog w = .ok (.slice (some ⟨w.heap.size, 0, none⟩) 1 1) (w.alloc (.cells [.int .i64 a0_0].toArray 3)) := by kernel_rfl
theorem KcX (w : World) : (sizeOf 3).run Tryz.prog w = .ok 1 w := rfl
theorem KcY (w : World) : (isAgg 3).run Tryz.prog w = .ok false w := rfl
theorem Kn1 (A0 : Option Addr) (c0 : Nat) (a : List Int) (A1 : Option Addr) (c1 : Nat) (b : List Int) (w : World) (hr : Kd w w.heap.size 1 A0 a.length (Kb (ic .i64) a)) (hl1 : a.length <= 1000) (hr1 : Kd w w.heap.size 1 A1 b.length (Kb (ic .i64) b)) (hl2 : b.length <= 1000) (ha : Nrm a) (hb : Nrm b) (pa : 0 < Ka a) (pb : 0 < Ka b) :
  Calls Tryz.prog 117 #[.slice A0 a.length c0, .slice A1 b.length c1] w fun e w' => ∃ x : {y : (Option Addr × Nat) × List Int // (Nrm y.2 /\ Ka y.2 = ((Nat.gcd (tn a) (tn b) : Nat) : Int)) /\ y.2.length <= y.1.2 /\ y.1.2 <= maxLen}, e = .returned (.slice x.1.1.1 x.1.2.length x.1.1.2) /\ Pm w [.row (.slice x.1.1.1 x.1.2.length x.1.1.2) 3 1 x.1.2.length (Kb (ic .i64) x.1.2)] w' := by
 refine Kj Tryz.func117 rfl rfl rfl ?_ (Pm.start w);refine zSG (TL.as_ ?_);refine zET (zS (zSG (TL.mv ?_)));refine TL.v (gN Tryz.underlying50) ?_;refine TL.vw rfl (Ke rfl rfl rfl (fun w => KG w)) (fun h8 => ?_) (fun h8 => ?_)
 ·have q8 := of_decide_eq_true h8;exfalso; have := Kd5 pa; omega
 have q8 := of_decide_eq_false h8;refine TL.rn 2 rfl (TL.ov (gN Tryz.underlying50) ?_);refine TL.gu ?_;refine TL.sp KG (fun q12 => ?_) (fun q12 => ?_)
 ·exfalso; have := Kd5 pb; omega
 refine TL.pk ?_;refine zET (zd (zk (zT (zSG ?_))));refine TL.prowS (e := 3) (size := 1) (cs := Kb (ic .i64) [1]) rfl rfl rfl rfl rfl (fun w => KoM _ w) (by decide) rfl (fun g17 => ?_);refine TL.as_ ?_;refine zET (zS (zB (TC.loop_ (α := {z : ((Option Addr × Nat) × List Int) × ((Option Addr × Nat) × List Int) × ((Option Addr × Nat) × List Int) × List Pc // Gc1 a b z.1.2 z.2.1.2 z.2.2.1.2 /\ RdN w z.2.2.2 z.1.1.1 z.1.2 /\ RdN w z.2.2.2 z.2.1.1.1 z.2.1.2 /\ RdN w z.2.2.2 z.2.2.1.1.1 z.2.2.1.2}) (fun z => [(0, .slice z.1.1.1.1 z.1.1.2.length z.1.1.1.2), (1, .slice z.1.2.1.1.1 z.1.2.1.2.length z.1.2.1.1.2), (5, .slice z.1.2.2.1.1.1 z.1.2.2.1.2.length z.1.2.2.1.1.2)]) (fun z => Pm w ([] ++ z.1.2.2.2)) (fun z => (Ka z.1.1.2).toNat) (⟨(((A0, c0), a), ((A1, c1), b), (((some ⟨g17, 0, none⟩), 1), [1]), [.row (.slice (some ⟨g17, 0, none⟩) 1 1) 3 1 1 (Kb (ic .i64) [1])]), .start ha hb pa pb, .ext hr, .ext hr1, RdN.own (c := 1) (l := [1])⟩) ⟨rfl, rfl, rfl, trivial⟩ (fun w1 hw => hw) ?_)));rintro ⟨⟨⟨⟨Ap, cp⟩, p⟩, ⟨⟨Aq, cq⟩, q⟩, ⟨⟨At, ct⟩, t⟩, X⟩, hG, hRp, hRq, hRt⟩;dsimp only at hG hRp hRq hRt ⊢;have hpl := hG.nx.len_le' ha hG.lx;have hql := hG.ny.len_le' hb hG.ly;have htl := hG.nt.len_le' ha (hG.lt pa);have pp0 := Kd5 hG.px;have pq0 := Kd5 hG.py;refine zS (zS (TC.fact (p := 0 < p.length -> Ap = some ⟨adB Ap, adO Ap, none⟩) (fun w1 hw h => (hRp w1 (Pm.sel (show Pm w ([] ++ X) w1 from hw) (List.sublist_append_right _ _))).addr h (by decide)) (fun hAp => ?_)));refine TC.fact (p := 0 < q.length -> Aq = some ⟨adB Aq, adO Aq, none⟩) (fun w1 hw h => (hRq w1 (Pm.sel (show Pm w ([] ++ X) w1 from hw) (List.sublist_append_right _ _))).addr h (by decide)) (fun hAq => ?_);refine zG (TL.mv ?_);have hi19 : 0 < p.length := by omega
 obtain ⟨x19, hx19⟩ := Kq hi19;have hA19 := hAp (by omega);have hpp := Kc9 hx19;have hrgp := hG.nx.1.at_ hx19;refine TL.w rfl (gA (i := 0) Tryz.underlying50 KcX rfl rfl rfl rfl hA19 (by omega)) ?_;refine TL.w rfl (Kw (v := .int .i64 x19) rfl rfl KcY (fun w1 hw => KbL (Km .i64) (hRp w1 (Pm.sel (show Pm w ([] ++ X) w1 from hw) (List.sublist_append_right _ _))) hA19 hx19 0 _ rfl)) ?_;refine TL.w rfl (Ke (v := .int .i64 (x19 % 2)) rfl rfl rfl (fun w => KaP (by omega) (by decide) w)) ?_;refine TL.sp KG (fun q22 => ?_) (fun q22 => ?_)
 ·refine TL.rn 2 rfl (TL.gu ?_);have hi25 : 0 < q.length := by omega
  obtain ⟨x25, hx25⟩ := Kq hi25;have hA25 := hAq (by omega);have hpq := Kc9 hx25;have hrgq := hG.ny.1.at_ hx25;refine TL.w rfl (gA (i := 0) Tryz.underlying50 KcX rfl rfl rfl rfl hA25 (by omega)) ?_;refine TL.gu ?_;refine TL.w rfl (Kw (v := .int .i64 x25) rfl rfl KcY (fun w1 hw => KbL (Km .i64) (hRq w1 (Pm.sel (show Pm w ([] ++ X) w1 from hw) (List.sublist_append_right _ _))) hA25 hx25 0 _ rfl)) ?_;refine TL.gu ?_;refine TL.w rfl (Ke (v := .int .i64 (x25 % 2)) rfl rfl rfl (fun w => KaP (by omega) (by decide) w)) ?_;refine TL.gu ?_;refine TL.sp KG (fun q28 => ?_) (fun q28 => ?_)
  ·refine TL.pk ?_;refine zET (zc (zk (zT (zB (zG (TL.mv ?_))))));refine TL.pM _ _ rfl KcK (fun w1 hw => Kdm Ap cp p w1 (hRp w1 (Pm.sel (show Pm w ([] ++ X) w1 from hw) (List.sublist_append_right _ _))) (by omega) hG.nx.1) ?_;rintro ⟨⟨⟨Aph, cph⟩, ph⟩, hph, hphc, hphm⟩;dsimp only [lC, lN];dsimp only at hph hphc hphm ⊢;refine TL.mv ?_;refine TL.pM _ _ rfl KcK (fun w1 hw => Kdm Aq cq q w1 (hRq w1 (Pm.sel (show Pm w ([.row (.slice Aph ph.length cph) 3 1 ph.length (Kb (ic .i64) ph)] ++ X) w1 from hw) (List.sublist_append_right _ _))) (by omega) hG.ny.1) ?_;rintro ⟨⟨⟨Aqh, cqh⟩, qh⟩, hqh, hqhc, hqhm⟩;dsimp only [lC, lN];dsimp only at hqh hqhc hqhm ⊢;refine TL.rn 2 rfl ?_;refine TL.pM _ _ rfl Kd8 (fun w1 hw => Kdy At ct t At ct t w1 (hRt w1 (Pm.sel (show Pm w ([.row (.slice Aqh qh.length cqh) 3 1 qh.length (Kb (ic .i64) qh), .row (.slice Aph ph.length cph) 3 1 ph.length (Kb (ic .i64) ph)] ++ X) w1 from hw) (List.sublist_append_right _ _))) (by omega) (hRt w1 (Pm.sel (show Pm w ([.row (.slice Aqh qh.length cqh) 3 1 qh.length (Kb (ic .i64) qh), .row (.slice Aph ph.length cph) 3 1 ph.length (Kb (ic .i64) ph)] ++ X) w1 from hw) (List.sublist_append_right _ _))) (by omega) hG.nt hG.nt) ?_;rintro ⟨⟨⟨Att, ctt⟩, tt⟩, htt, httc, httm⟩;dsimp only [lC, lN];dsimp only at htt httc httm ⊢;refine TL.rn 3 rfl (zE (zN ?_));exact TX.rd (⟨(((Aph, cph), ph), ((Aqh, cqh), qh), ((Att, ctt), tt), .row (.slice Att tt.length ctt) 3 1 tt.length (Kb (ic .i64) tt) :: .row (.slice Aqh qh.length cqh) 3 1 qh.length (Kb (ic .i64) qh) :: .row (.slice Aph ph.length cph) 3 1 ph.length (Kb (ic .i64) ph) :: X), hG.step (by omega) (by omega) hph hqh htt, RdN.own.tail.tail, RdN.own.tail, .own⟩) (by show (Ka ph).toNat < (Ka p).toNat; have h9 := hG.px; have h8 := hph.2; omega) (fun w1 hw => hw)
  refine TL.pk ?_;refine zET (zd (zx (zX (zX (zM (zT (zS (zB (TC.lp (α := {z : ((Option Addr × Nat) × List Int) × ((Option Addr × Nat) × List Int) × List Pc // Gc2 a b z.1.2 z.2.1.2 t /\ RdN w z.2.2 z.1.1.1 z.1.2 /\ RdN w z.2.2 z.2.1.1.1 z.2.1.2 /\ RdN w z.2.2 At t}) [5] rfl (fun z => [(0, .slice z.1.1.1.1 z.1.1.2.length z.1.1.1.2), (1, .slice z.1.2.1.1.1 z.1.2.1.2.length z.1.2.1.1.2)]) (fun z => Pm w ([] ++ z.1.2.2)) (fun z => (Ka z.1.1.2).toNat + (Ka z.1.2.1.2).toNat) (⟨(((Ap, cp), p), ((Aq, cq), q), X), hG.done (by omega), hRp, hRq, hRt⟩) (fun w1 hw => hw) ?_)))))))));rintro ⟨⟨⟨⟨Am, cm⟩, m⟩, ⟨⟨Av, cv⟩, v⟩, X2⟩, hG, hRm, hRv, hRt⟩;dsimp only at hG hRm hRv hRt ⊢;have hpl := hG.nx.len_le' ha hG.lx;have hql := hG.ny.len_le' hb hG.ly;refine zS (zS (TC.fact (p := 0 < m.length -> Am = some ⟨adB Am, adO Am, none⟩) (fun w1 hw h => (hRm w1 (Pm.sel (show Pm w ([] ++ X2) w1 from hw) (List.sublist_append_right _ _))).addr h (by decide)) (fun hAm => ?_)));refine TC.fact (p := 0 < v.length -> Av = some ⟨adB Av, adO Av, none⟩) (fun w1 hw h => (hRv w1 (Pm.sel (show Pm w ([] ++ X2) w1 from hw) (List.sublist_append_right _ _))).addr h (by decide)) (fun hAv => ?_);refine zG (TL.mv ?_);refine TL.v (gN Tryz.underlying50) ?_;refine TL.sp KB (fun q39 => ?_) (fun q39 => ?_)
  ·refine TL.rn 2 rfl (TL.ov (gN Tryz.underlying50) ?_);refine TL.gu ?_;refine TL.sp KB (fun q43 => ?_) (fun q43 => ?_)
   ·refine TL.pk ?_;refine zET (zc (zk (zT (zB (zB (zS ?_))))));have pp9 : 0 < Ka m := Kfi hG.nx (by omega);have pq9 : 0 < Ka v := Kfi hG.ny (by omega);refine zG (TL.mv ?_);have hi50 : 0 < m.length := by omega
    obtain ⟨x50, hx50⟩ := Kq hi50;have hA50 := hAm (by omega);have hpm := Kc9 hx50;have hrgm := hG.nx.1.at_ hx50;refine TL.w rfl (gA (i := 0) Tryz.underlying50 KcX rfl rfl rfl rfl hA50 (by omega)) ?_;refine TL.w rfl (Kw (v := .int .i64 x50) rfl rfl KcY (fun w1 hw => KbL (Km .i64) (hRm w1 (Pm.sel (show Pm w ([] ++ X2) w1 from hw) (List.sublist_append_right _ _))) hA50 hx50 0 _ rfl)) ?_;refine TL.w rfl (Ke (v := .int .i64 (x50 % 2)) rfl rfl rfl (fun w => KaP (by omega) (by decide) w)) ?_;refine TL.sp KG (fun q53 => ?_) (fun q53 => ?_)
    ·refine TL.as_ ?_;refine zET (zc (zG (TL.mv ?_)));refine TL.pM _ _ rfl KcK (fun w1 hw => Kdm Am cm m w1 (hRm w1 (Pm.sel (show Pm w ([] ++ X2) w1 from hw) (List.sublist_append_right _ _))) (by omega) hG.nx.1) ?_;rintro ⟨⟨⟨Amh, cmh⟩, mh⟩, hmh, hmhc, hmhm⟩;dsimp only [lC, lN];dsimp only at hmh hmhc hmhm ⊢;refine TL.as_ ?_;refine zE (zN (zN ?_));exact TX.rd (⟨(((Amh, cmh), mh), ((Av, cv), v), .row (.slice Amh mh.length cmh) 3 1 mh.length (Kb (ic .i64) mh) :: X2), hG.halfx pp9 pq9 (by omega) hmh, .own, hRv.tail, hRt.tail⟩) (by dsimp only; omega) (fun w1 hw => hw)
    refine TL.as_ ?_;refine zET (zd (zSG (TL.mv ?_)));have hi58 : 0 < v.length := by omega
    obtain ⟨x58, hx58⟩ := Kq hi58;have hA58 := hAv (by omega);have hpv := Kc9 hx58;have hrgv := hG.ny.1.at_ hx58;refine TL.w rfl (gA (i := 0) Tryz.underlying50 KcX rfl rfl rfl rfl hA58 (by omega)) ?_;refine TL.w rfl (Kw (v := .int .i64 x58) rfl rfl KcY (fun w1 hw => KbL (Km .i64) (hRv w1 (Pm.sel (show Pm w ([] ++ X2) w1 from hw) (List.sublist_append_right _ _))) hA58 hx58 0 _ rfl)) ?_;refine TL.w rfl (Ke (v := .int .i64 (x58 % 2)) rfl rfl rfl (fun w => KaP (by omega) (by decide) w)) ?_;refine TL.sp KG (fun q61 => ?_) (fun q61 => ?_)
    ·refine TL.as_ ?_;refine zET (zc (zG (TL.mv ?_)));refine TL.pM _ _ rfl KcK (fun w1 hw => Kdm Av cv v w1 (hRv w1 (Pm.sel (show Pm w ([] ++ X2) w1 from hw) (List.sublist_append_right _ _))) (by omega) hG.ny.1) ?_;rintro ⟨⟨⟨Avh, cvh⟩, vh⟩, hvh, hvhc, hvhm⟩;dsimp only [lC, lN];dsimp only at hvh hvhc hvhm ⊢;refine TL.as_ ?_;refine zE (zN (zN ?_));exact TX.rd (⟨(((Am, cm), m), ((Avh, cvh), vh), .row (.slice Avh vh.length cvh) 3 1 vh.length (Kb (ic .i64) vh) :: X2), hG.halfy pp9 pq9 (by omega) hvh, hRm.tail, .own, hRt.tail⟩) (by dsimp only; omega) (fun w1 hw => hw)
    refine TL.as_ ?_;refine zET (zd (zSG (TL.rn 2 rfl ?_)));refine TL.p1 rfl Kfh (fun w1 hw => KfD Am cm m Av cv v w1 (hRm w1 (Pm.sel (show Pm w ([] ++ X2) w1 from hw) (List.sublist_append_right _ _))) (by omega) (hRv w1 (Pm.sel (show Pm w ([] ++ X2) w1 from hw) (List.sublist_append_right _ _))) (by omega) hG.nx hG.ny) ?_;refine TL.sp KQ (fun q68 => ?_) (fun q68 => ?_)
    ·have hcle : Ka v <= Ka m := by rcases Int.lt_or_le (Ka m) (Ka v) with h9 | h9; (have := Kaw.2 h9; omega); exact h9
     refine TL.as_ ?_;refine zET (zc (zG (TL.rn 2 rfl ?_)));refine TL.pM _ _ rfl Kd0 (fun w1 hw => Keh Am cm m Av cv v w1 (hRm w1 (Pm.sel (show Pm w ([] ++ X2) w1 from hw) (List.sublist_append_right _ _))) (by omega) (hRv w1 (Pm.sel (show Pm w ([] ++ X2) w1 from hw) (List.sublist_append_right _ _))) (by omega) hG.nx hG.ny hcle) ?_;rintro ⟨⟨⟨Aml, cml⟩, ml⟩, hml, hmlc, hmlm⟩;dsimp only [lC, lN];dsimp only at hml hmlc hmlm ⊢;refine TL.as_ ?_;refine zE (zN (zN ?_));exact TX.rd (⟨(((Aml, cml), ml), ((Av, cv), v), .row (.slice Aml ml.length cml) 3 1 ml.length (Kb (ic .i64) ml) :: X2), hG.subx pp9 pq9 (by omega) (by omega) hcle hml, .own, hRv.tail, hRt.tail⟩) (by dsimp only; omega) (fun w1 hw => hw)
    have hclt : Ka m < Ka v := Kaw.1 (by omega);refine TL.as_ ?_;refine zET (zd (zG (TL.rn 2 rfl ?_)));refine TL.pM _ _ rfl Kd0 (fun w1 hw => Keh Av cv v Am cm m w1 (hRv w1 (Pm.sel (show Pm w ([] ++ X2) w1 from hw) (List.sublist_append_right _ _))) (by omega) (hRm w1 (Pm.sel (show Pm w ([] ++ X2) w1 from hw) (List.sublist_append_right _ _))) (by omega) hG.ny hG.nx (Int.le_of_lt hclt)) ?_;rintro ⟨⟨⟨Avl, cvl⟩, vl⟩, hvl, hvlc, hvlm⟩;dsimp only [lC, lN];dsimp only at hvl hvlc hvlm ⊢;refine TL.as_ ?_;refine zE (zN (zN ?_));exact TX.rd (⟨(((Am, cm), m), ((Avl, cvl), vl), .row (.slice Avl vl.length cvl) 3 1 vl.length (Kb (ic .i64) vl) :: X2), hG.suby pp9 pq9 (by omega) (by omega) hclt hvl, hRm.tail, .own, hRt.tail⟩) (by dsimp only; omega) (fun w1 hw => hw)
   refine TL.pk ?_;refine zET (zd (zx (zX (zX (zM (zT (zSG (TL.rn 3 rfl ?_))))))));refine TL.pM _ _ rfl Kd8 (fun w1 hw => Kdy Am cm m Av cv v w1 (hRm w1 (Pm.sel (show Pm w ([] ++ X2) w1 from hw) (List.sublist_append_right _ _))) (by omega) (hRv w1 (Pm.sel (show Pm w ([] ++ X2) w1 from hw) (List.sublist_append_right _ _))) (by omega) hG.nx hG.ny) ?_;rintro ⟨⟨⟨Az, cz⟩, z⟩, hz, hzc, hzm⟩;dsimp only [lC, lN];dsimp only at hz hzc hzm ⊢;have h00 : m.length = 0 \/ v.length = 0 := by omega
   have hzl := hG.zlen ha hb h00 hz;refine TL.pM _ _ rfl Kc7 (fun w1 hw => KcM At ct t Az cz z w1 (hRt w1 (Pm.sel (show Pm w ([.row (.slice Az z.length cz) 3 1 z.length (Kb (ic .i64) z)] ++ X2) w1 from hw) (List.sublist_append_right _ _))) (by omega) (Kp hw (k := 0) rfl) (by omega) hG.nt hz.1) ?_;rintro ⟨⟨⟨Au, cu⟩, u⟩, hu, huc, hum⟩;dsimp only [lC, lN];dsimp only at hu huc hum ⊢;refine TL.as_ ?_;refine zET (zr ?_);have hgd := hG.done h00 hz hu;exact Kg Tryz.results117 rfl (fun w1 hw => ⟨⟨((Au, cu), u), ⟨hu.1, hgd⟩, huc, hum⟩, rfl, hw.pick [0] (by decide) rfl⟩)
  refine TL.rn 5 rfl (zET (zd (zx (zX (zX (zM (zT (zSG (TL.rn 3 rfl ?_)))))))));refine TL.pM _ _ rfl Kd8 (fun w1 hw => Kdy Am cm m Av cv v w1 (hRm w1 (Pm.sel (show Pm w ([] ++ X2) w1 from hw) (List.sublist_append_right _ _))) (by omega) (hRv w1 (Pm.sel (show Pm w ([] ++ X2) w1 from hw) (List.sublist_append_right _ _))) (by omega) hG.nx hG.ny) ?_;rintro ⟨⟨⟨Az, cz⟩, z⟩, hz, hzc, hzm⟩;dsimp only [lC, lN];dsimp only at hz hzc hzm ⊢;have h00 : m.length = 0 \/ v.length = 0 := by omega
  have hzl := hG.zlen ha hb h00 hz;refine TL.pM _ _ rfl Kc7 (fun w1 hw => KcM At ct t Az cz z w1 (hRt w1 (Pm.sel (show Pm w ([.row (.slice Az z.length cz) 3 1 z.length (Kb (ic .i64) z)] ++ X2) w1 from hw) (List.sublist_append_right _ _))) (by omega) (Kp hw (k := 0) rfl) (by omega) hG.nt hz.1) ?_;rintro ⟨⟨⟨Au, cu⟩, u⟩, hu, huc, hum⟩;dsimp only [lC, lN];dsimp only at hu huc hum ⊢;refine TL.as_ ?_;refine zET (zr ?_);have hgd := hG.done h00 hz hu;exact Kg Tryz.results117 rfl (fun w1 hw => ⟨⟨((Au, cu), u), ⟨hu.1, hgd⟩, huc, hum⟩, rfl, hw.pick [0] (by decide) rfl⟩)
 refine TL.rn 7 rfl (zET (zd (zx (zX (zX (zM (zT (zS (zB (TC.lp (α := {z : ((Option Addr × Nat) × List Int) × ((Option Addr × Nat) × List Int) × List Pc // Gc2 a b z.1.2 z.2.1.2 t /\ RdN w z.2.2 z.1.1.1 z.1.2 /\ RdN w z.2.2 z.2.1.1.1 z.2.1.2 /\ RdN w z.2.2 At t}) [5] rfl (fun z => [(0, .slice z.1.1.1.1 z.1.1.2.length z.1.1.1.2), (1, .slice z.1.2.1.1.1 z.1.2.1.2.length z.1.2.1.1.2)]) (fun z => Pm w ([] ++ z.1.2.2)) (fun z => (Ka z.1.1.2).toNat + (Ka z.1.2.1.2).toNat) (⟨(((Ap, cp), p), ((Aq, cq), q), X), hG.done (by omega), hRp, hRq, hRt⟩) (fun w1 hw => hw) ?_))))))))));rintro ⟨⟨⟨⟨Am, cm⟩, m⟩, ⟨⟨Av, cv⟩, v⟩, X2⟩, hG, hRm, hRv, hRt⟩;dsimp only at hG hRm hRv hRt ⊢;have hpl := hG.nx.len_le' ha hG.lx;have hql := hG.ny.len_le' hb hG.ly;refine zS (zS (TC.fact (p := 0 < m.length -> Am = some ⟨adB Am, adO Am, none⟩) (fun w1 hw h => (hRm w1 (Pm.sel (show Pm w ([] ++ X2) w1 from hw) (List.sublist_append_right _ _))).addr h (by decide)) (fun hAm => ?_)));refine TC.fact (p := 0 < v.length -> Av = some ⟨adB Av, adO Av, none⟩) (fun w1 hw h => (hRv w1 (Pm.sel (show Pm w ([] ++ X2) w1 from hw) (List.sublist_append_right _ _))).addr h (by decide)) (fun hAv => ?_);refine zG (TL.mv ?_);refine TL.v (gN Tryz.underlying50) ?_;refine TL.sp KB (fun q39 => ?_) (fun q39 => ?_)
 ·refine TL.rn 2 rfl (TL.ov (gN Tryz.underlying50) ?_);refine TL.gu ?_;refine TL.sp KB (fun q43 => ?_) (fun q43 => ?_)
  ·refine TL.pk ?_;refine zET (zc (zk (zT (zB (zB (zS ?_))))));have pp9 : 0 < Ka m := Kfi hG.nx (by omega);have pq9 : 0 < Ka v := Kfi hG.ny (by omega);refine zG (TL.mv ?_);have hi50 : 0 < m.length := by omega
   obtain ⟨x50, hx50⟩ := Kq hi50;have hA50 := hAm (by omega);have hpm := Kc9 hx50;have hrgm := hG.nx.1.at_ hx50;refine TL.w rfl (gA (i := 0) Tryz.underlying50 KcX rfl rfl rfl rfl hA50 (by omega)) ?_;refine TL.w rfl (Kw (v := .int .i64 x50) rfl rfl KcY (fun w1 hw => KbL (Km .i64) (hRm w1 (Pm.sel (show Pm w ([] ++ X2) w1 from hw) (List.sublist_append_right _ _))) hA50 hx50 0 _ rfl)) ?_;refine TL.w rfl (Ke (v := .int .i64 (x50 % 2)) rfl rfl rfl (fun w => KaP (by omega) (by decide) w)) ?_;refine TL.sp KG (fun q53 => ?_) (fun q53 => ?_)
   ·refine TL.as_ ?_;refine zET (zc (zG (TL.mv ?_)));refine TL.pM _ _ rfl KcK (fun w1 hw => Kdm Am cm m w1 (hRm w1 (Pm.sel (show Pm w ([] ++ X2) w1 from hw) (List.sublist_append_right _ _))) (by omega) hG.nx.1) ?_;rintro ⟨⟨⟨Amh, cmh⟩, mh⟩, hmh, hmhc, hmhm⟩;dsimp only [lC, lN];dsimp only at hmh hmhc hmhm ⊢;refine TL.as_ ?_;refine zE (zN (zN ?_));exact TX.rd (⟨(((Amh, cmh), mh), ((Av, cv), v), .row (.slice Amh mh.length cmh) 3 1 mh.length (Kb (ic .i64) mh) :: X2), hG.halfx pp9 pq9 (by omega) hmh, .own, hRv.tail, hRt.tail⟩) (by dsimp only; omega) (fun w1 hw => hw)
   refine TL.as_ ?_;refine zET (zd (zSG (TL.mv ?_)));have hi58 : 0 < v.length := by omega
   obtain ⟨x58, hx58⟩ := Kq hi58;have hA58 := hAv (by omega);have hpv := Kc9 hx58;have hrgv := hG.ny.1.at_ hx58;refine TL.w rfl (gA (i := 0) Tryz.underlying50 KcX rfl rfl rfl rfl hA58 (by omega)) ?_;refine TL.w rfl (Kw (v := .int .i64 x58) rfl rfl KcY (fun w1 hw => KbL (Km .i64) (hRv w1 (Pm.sel (show Pm w ([] ++ X2) w1 from hw) (List.sublist_append_right _ _))) hA58 hx58 0 _ rfl)) ?_;refine TL.w rfl (Ke (v := .int .i64 (x58 % 2)) rfl rfl rfl (fun w => KaP (by omega) (by decide) w)) ?_;refine TL.sp KG (fun q61 => ?_) (fun q61 => ?_)
   ·refine TL.as_ ?_;refine zET (zc (zG (TL.mv ?_)));refine TL.pM _ _ rfl KcK (fun w1 hw => Kdm Av cv v w1 (hRv w1 (Pm.sel (show Pm w ([] ++ X2) w1 from hw) (List.sublist_append_right _ _))) (by omega) hG.ny.1) ?_;rintro ⟨⟨⟨Avh, cvh⟩, vh⟩, hvh, hvhc, hvhm⟩;dsimp only [lC, lN];dsimp only at hvh hvhc hvhm ⊢;refine TL.as_ ?_;refine zE (zN (zN ?_));exact TX.rd (⟨(((Am, cm), m), ((Avh, cvh), vh), .row (.slice Avh vh.length cvh) 3 1 vh.length (Kb (ic .i64) vh) :: X2), hG.halfy pp9 pq9 (by omega) hvh, hRm.tail, .own, hRt.tail⟩) (by dsimp only; omega) (fun w1 hw => hw)
   refine TL.as_ ?_;refine zET (zd (zSG (TL.rn 2 rfl ?_)));refine TL.p1 rfl Kfh (fun w1 hw => KfD Am cm m Av cv v w1 (hRm w1 (Pm.sel (show Pm w ([] ++ X2) w1 from hw) (List.sublist_append_right _ _))) (by omega) (hRv w1 (Pm.sel (show Pm w ([] ++ X2) w1 from hw) (List.sublist_append_right _ _))) (by omega) hG.nx hG.ny) ?_;refine TL.sp KQ (fun q68 => ?_) (fun q68 => ?_)
   ·have hcle : Ka v <= Ka m := by rcases Int.lt_or_le (Ka m) (Ka v) with h9 | h9; (have := Kaw.2 h9; omega); exact h9
    refine TL.as_ ?_;refine zET (zc (zG (TL.rn 2 rfl ?_)));refine TL.pM _ _ rfl Kd0 (fun w1 hw => Keh Am cm m Av cv v w1 (hRm w1 (Pm.sel (show Pm w ([] ++ X2) w1 from hw) (List.sublist_append_right _ _))) (by omega) (hRv w1 (Pm.sel (show Pm w ([] ++ X2) w1 from hw) (List.sublist_append_right _ _))) (by omega) hG.nx hG.ny hcle) ?_;rintro ⟨⟨⟨Aml, cml⟩, ml⟩, hml, hmlc, hmlm⟩;dsimp only [lC, lN];dsimp only at hml hmlc hmlm ⊢;refine TL.as_ ?_;refine zE (zN (zN ?_));exact TX.rd (⟨(((Aml, cml), ml), ((Av, cv), v), .row (.slice Aml ml.length cml) 3 1 ml.length (Kb (ic .i64) ml) :: X2), hG.subx pp9 pq9 (by omega) (by omega) hcle hml, .own, hRv.tail, hRt.tail⟩) (by dsimp only; omega) (fun w1 hw => hw)
   have hclt : Ka m < Ka v := Kaw.1 (by omega);refine TL.as_ ?_;refine zET (zd (zG (TL.rn 2 rfl ?_)));refine TL.pM _ _ rfl Kd0 (fun w1 hw => Keh Av cv v Am cm m w1 (hRv w1 (Pm.sel (show Pm w ([] ++ X2) w1 from hw) (List.sublist_append_right _ _))) (by omega) (hRm w1 (Pm.sel (show Pm w ([] ++ X2) w1 from hw) (List.sublist_append_right _ _))) (by omega) hG.ny hG.nx (Int.le_of_lt hclt)) ?_;rintro ⟨⟨⟨Avl, cvl⟩, vl⟩, hvl, hvlc, hvlm⟩;dsimp only [lC, lN];dsimp only at hvl hvlc hvlm ⊢;refine TL.as_ ?_;refine zE (zN (zN ?_));exact TX.rd (⟨(((Am, cm), m), ((Avl, cvl), vl), .row (.slice Avl vl.length cvl) 3 1 vl.length (Kb (ic .i64) vl) :: X2), hG.suby pp9 pq9 (by omega) (by omega) hclt hvl, hRm.tail, .own, hRt.tail⟩) (by dsimp only; omega) (fun w1 hw => hw)
  refine TL.pk ?_;refine zET (zd (zx (zX (zX (zM (zT (zSG (TL.rn 3 rfl ?_))))))));refine TL.pM _ _ rfl Kd8 (fun w1 hw => Kdy Am cm m Av cv v w1 (hRm w1 (Pm.sel (show Pm w ([] ++ X2) w1 from hw) (List.sublist_append_right _ _))) (by omega) (hRv w1 (Pm.sel (show Pm w ([] ++ X2) w1 from hw) (List.sublist_append_right _ _))) (by omega) hG.nx hG.ny) ?_;rintro ⟨⟨⟨Az, cz⟩, z⟩, hz, hzc, hzm⟩;dsimp only [lC, lN];dsimp only at hz hzc hzm ⊢;have h00 : m.length = 0 \/ v.length = 0 := by omega
  have hzl := hG.zlen ha hb h00 hz;refine TL.pM _ _ rfl Kc7 (fun w1 hw => KcM At ct t Az cz z w1 (hRt w1 (Pm.sel (show Pm w ([.row (.slice Az z.length cz) 3 1 z.length (Kb (ic .i64) z)] ++ X2) w1 from hw) (List.sublist_append_right _ _))) (by omega) (Kp hw (k := 0) rfl) (by omega) hG.nt hz.1) ?_;rintro ⟨⟨⟨Au, cu⟩, u⟩, hu, huc, hum⟩;dsimp only [lC, lN];dsimp only at hu huc hum ⊢;refine TL.as_ ?_;refine zET (zr ?_);have hgd := hG.done h00 hz hu;exact Kg Tryz.results117 rfl (fun w1 hw => ⟨⟨((Au, cu), u), ⟨hu.1, hgd⟩, huc, hum⟩, rfl, hw.pick [0] (by decide) rfl⟩)
 refine TL.rn 5 rfl (zET (zd (zx (zX (zX (zM (zT (zSG (TL.rn 3 rfl ?_)))))))));refine TL.pM _ _ rfl Kd8 (fun w1 hw => Kdy Am cm m Av cv v w1 (hRm w1 (Pm.sel (show Pm w ([] ++ X2) w1 from hw) (List.sublist_append_right _ _))) (by omega) (hRv w1 (Pm.sel (show Pm w ([] ++ X2) w1 from hw) (List.sublist_append_right _ _))) (by omega) hG.nx hG.ny) ?_;rintro ⟨⟨⟨Az, cz⟩, z⟩, hz, hzc, hzm⟩;dsimp only [lC, lN];dsimp only at hz hzc hzm ⊢;have h00 : m.length = 0 \/ v.length = 0 := by omega
 have hzl := hG.zlen ha hb h00 hz;refine TL.pM _ _ rfl Kc7 (fun w1 hw => KcM At ct t Az cz z w1 (hRt w1 (Pm.sel (show Pm w ([.row (.slice Az z.length cz) 3 1 z.length (Kb (ic .i64) z)] ++ X2) w1 from hw) (List.sublist_append_right _ _))) (by omega) (Kp hw (k := 0) rfl) (by omega) hG.nt hz.1) ?_;rintro ⟨⟨⟨Au, cu⟩, u⟩, hu, huc, hum⟩;dsimp only [lC, lN];dsimp only at hu huc hum ⊢;refine TL.as_ ?_;refine zET (zr ?_);have hgd := hG.done h00 hz hu;exact Kg Tryz.results117 rfl (fun w1 hw => ⟨⟨((Au, cu), u), ⟨hu.1, hgd⟩, huc, hum⟩, rfl, hw.pick [0] (by decide) rfl⟩)
set_option maxRecDepth 20000
theorem Pm.trimK {w0 : Base} {w : World} {L : List Pc} {k n c : Nat} {e : TypeId} {A : Option Addr} {l : List Int} {q : IntKind} (hw : Pm w0 L w) (hk : L[k]? = some (.row (.slice A n c) e 1 n (Kb (ic q) l))) (hl : l.length = n) : Pm w0 (L.set k (.row (.slice A (Ki l).length c) e 1 (Ki l).length (Kb (ic q) (Ki l)))) w := by
 obtain ⟨h1, h2, _, _⟩ := Kah l;have h3 := hw.shrink (k := k) (hi := (Ki l).length) hk (by omega)
 have h4 : (Kb (ic q) l).take ((Ki l).length * 1) = Kb (ic q) (Ki l) := by
  rw [Kag, Kag, Nat.mul_one, <- List.map_take, <- h1]
 rw [h4] at h3;exact h3
theorem KmV {x y : Int} : Kk x y <= 0 ↔ x <= y := by
 unfold Kk;split
 ·omega
 split <;> omega
theorem Kdk {x : Int} (h : 1 <= x /\ x < 1073741824) : Nrm [x] := ⟨Kl.cons (by omega) Kl.nil, fun e => by have e' : x = 0 := Option.some.inj e; omega⟩
theorem Kc4 (x : Int) : Ka [x] = x := by show x + 1073741824 * 0 = x; omega
theorem Kgq {z b : List Int} (hz : Nrm z) (hb : Kl b) (h : Ka z < Ka b * 1073741824) : z.length <= b.length + 1 := by
 refine Decidable.by_contra fun hn => ?_;have h1 := hz.pos (by omega);have h2 := Kax (show b.length + 1 <= z.length - 1 by omega);rw [K6] at h2;have h3 := KaD hb;omega
section
variable {a o : List Int} {b : Int} {i : Nat} {r x v : Int}
theorem SmI.top (h : SmI a o b (i + 1) r) (ha : Kl a) (hx : a[i]? = some x) (hv : v = x + 1073741824 * r) : 0 <= v /\ v < b * 1073741824 := by
 have h1 := ha.at_ hx;have h2 := h.r01;omega
theorem SmI.stepG (h : SmI a o b (i + 1) r) (hx : a[i]? = some x) (hv : v = x + 1073741824 * r) {lo : Int} (hl : 0 <= lo /\ lo < 1073741824) (h1 : b * lo <= v) (h2 : v < b * (lo + 1)) : SmI a (o.set i lo) b i (v - b * lo) := by
 have hi := (List.getElem?_eq_some_iff.1 hx).1;rw [Int.mul_add, Int.mul_one] at h2;refine ⟨by rw [List.length_set]; exact h.len, h.ok.set hl, fun k hk => by rw [KbB _ (by omega)]; exact h.zer k (by omega), by omega, ?_⟩;rw [Ka4 a, Ka4 (o.set i _), Ket, KdX _ (by rw [h.len]; exact hi), KP hx, h.eq, Int.add_mul, Int.mul_assoc, Int.mul_comm lo b];omega
theorem SmI.skipG (h : SmI a o b (i + 1) r) (hx : a[i]? = some x) (hv : v = x + 1073741824 * r) (hr : 0 <= v) (hlt : v < b) : SmI a o b i v := by
 refine ⟨h.len, h.ok, fun k hk => h.zer k (by omega), ⟨hr, hlt⟩, ?_⟩;rw [Ka4 a, Ka4 o, h.zer i (by omega), KP hx, h.eq, Int.add_mul, Int.mul_assoc];omega
end
theorem Kla : Elem Tryz.prog 50 3 1 8 := Elem.mk' Tryz.underlying50 (z := .int .i64 0) (by kernel_rfl) rfl (by omega) (by omega)
theorem Kgp (w : World) : (sizeOf 3).run Tryz.prog w = .ok 1 w := rfl
theorem KtJ (w : World) : (isAgg 3).run Tryz.prog w = .ok false w := rfl
theorem Kgv (a0_0 : Int) (w : World) : (Instr.buildSlice 50 1 #[(0, .int .i64 a0_0)]).run Tryz.prog w = .ok (.slice (some ⟨w.heap.size, 0, none⟩) 1 1) (w.alloc (.cells [.int .i64 a0_0].toArray 3)) := by kernel_rfl
theorem KrG {a0 : Int} : ∀ u ∈ [(.int .i64 a0 : Value)], u.oneCell' = true := by
 intro u hu;rw [List.mem_singleton] at hu;subst hu; rfl
theorem Ki3 (A0 : Option Addr) (c0 : Nat) (a : List Int) (A1 : Option Addr) (c1 : Nat) (b : List Int) (w : World) (hr : Kd w w.heap.size 1 A0 a.length (Kb (ic .i64) a)) (hl1 : a.length <= 1000) (hr1 : Kd w w.heap.size 1 A1 b.length (Kb (ic .i64) b)) (hl2 : b.length <= 1000) (ha : Nrm a) (hb : Nrm b) (pb : 0 < Ka b) (hb9 : b.length <= 900) :
  Calls Tryz.prog 118 #[.slice A0 a.length c0, .slice A1 b.length c1] w fun e w' => ∃ x : {y : ((Option Addr × Nat) × List Int) × ((Option Addr × Nat) × List Int) // (Nrm y.1.2 /\ Nrm y.2.2 /\ Ka a = Ka y.1.2 * Ka b + Ka y.2.2 /\ Ka y.2.2 < Ka b) /\ (y.1.2.length <= y.1.1.2 /\ y.1.1.2 <= maxLen) /\ y.2.2.length <= y.2.1.2 /\ y.2.1.2 <= maxLen}, e = .returned (.tuple #[.slice x.1.1.1.1 x.1.1.2.length x.1.1.1.2, .slice x.1.2.1.1 x.1.2.2.length x.1.2.1.2]) /\ Pm w [.row (.slice x.1.1.1.1 x.1.1.2.length x.1.1.1.2) 3 1 x.1.1.2.length (Kb (ic .i64) x.1.1.2), .row (.slice x.1.2.1.1 x.1.2.2.length x.1.2.1.2) 3 1 x.1.2.2.length (Kb (ic .i64) x.1.2.2)] w' := by
 refine Kj Tryz.func118 rfl rfl rfl ?_ (Pm.start w);refine zSG (TL.rn 2 rfl (zET (zSG (TL.mv ?_))));refine TL.v (gN Tryz.underlying50) ?_;refine TL.mkrow (m := a.length) rfl rfl rfl rfl rfl rfl Kla (z := .int .i64 0) (by kernel_rfl) (zs := Kb (ic .i64) (List.replicate a.length 0)) ((Kbw _ rfl a.length).trans (by rw [Kag, List.map_replicate])) (by show _ * 8 <= _; omega) (fun g14 => ?_);refine TL.as_ ?_;refine zET (zSG (TL.as_ ?_));refine zET (zS (zSG (TL.mv ?_)));refine TL.v (gN Tryz.underlying50) ?_;refine TL.w rfl (Ke rfl rfl rfl (fun w => Ky (r := ((a.length : Nat) : Int) - 1) (by simp only [IntKind.wrap_i64]; omega) w)) ?_;refine TL.as_ ?_;refine zET (zB (TC.nilrow 3 1 ?_));refine TC.loop_ (α := {y : Nat × ((Option Addr × Nat) × List Int) × List Int // y.1 <= a.length /\ Nrm y.2.1.2 /\ y.2.1.2.length <= y.2.1.1.2 /\ y.2.1.1.2 <= maxLen /\ SmI a y.2.2 (Ka b) y.1 (Ka y.2.1.2)}) (fun y => [(0, .slice A0 a.length c0), (1, .slice A1 b.length c1), (6, .slice (some ⟨g14, 0, none⟩) a.length a.length), (7, .slice y.1.2.1.1.1 y.1.2.1.2.length y.1.2.1.1.2), (8, .int .i64 (((y.1.1 : Nat) : Int) - 1))]) (fun y => Pm w [.row (.slice y.1.2.1.1.1 y.1.2.1.2.length y.1.2.1.1.2) 3 1 y.1.2.1.2.length (Kb (ic .i64) y.1.2.1.2), .row (.slice (some ⟨g14, 0, none⟩) a.length a.length) 3 1 a.length (Kb (ic .i64) y.1.2.2)]) (fun y => y.1.1) (⟨(a.length, ((none, 0), []), _), Nat.le_refl _, Nrm.nil, Nat.le_refl _, Nat.zero_le _, SmI.start pb⟩) ⟨rfl, rfl, rfl, rfl, rfl, trivial⟩ (fun w1 hw => hw) ?_;rintro ⟨⟨i, ⟨⟨Ar, cr⟩, r⟩, o⟩, hi, hnr, hrc, hrm, hS⟩;dsimp only at hi hnr hrc hrm hS ⊢;have hol := hS.len;refine zS (zSG (TL.mv ?_));refine TL.sp KQ (fun q19 => ?_) (fun q19 => ?_)
 ·refine zET (zc (zk (zT (zS (zB (zS ?_))))));have hS1 : SmI a o (Ka b) (i - 1 + 1) (Ka r) := by rw [show i - 1 + 1 = i by omega]; exact hS
  have hrl8 := hnr.len_le' hb (Int.le_of_lt hS.r01.2);refine TC.cut [(0, .slice A0 a.length c0), (1, .slice A1 b.length c1), (6, .slice (some ⟨g14, 0, none⟩) a.length a.length), (7, .slice Ar r.length cr), (8, .int .i64 (((i - 1) : Nat) : Int)), (18, .int .i64 (((i : Nat) : Int) - 1)), (19, .bool true)] (Pm w [.row (.slice Ar r.length cr) 3 1 r.length (Kb (ic .i64) r), .row (.slice (some ⟨g14, 0, none⟩) a.length a.length) 3 1 a.length (Kb (ic .i64) o)]) ⟨rfl, rfl, rfl, rfl, (by show some (Value.int .i64 (((i : Nat) : Int) - 1)) = some (Value.int .i64 (((i - 1) : Nat) : Int)); congr 2; omega), rfl, rfl, trivial⟩ (fun w1 hw => hw) ?_;refine zG (TL.rn 2 rfl ?_);have hi24 : (i - 1) < a.length := by omega
  obtain ⟨x24, hx24⟩ := Kq hi24;obtain ⟨b24, o24, hA24, hbb24, hc24⟩ := hr.ad (by omega) (by decide);have hax := ha.1.at_ hx24;have hxr : Kl ([x24] ++ r) := Kl.cons hax hnr.1;refine TL.w rfl (gA (i := (i - 1)) Tryz.underlying50 Kgp rfl rfl rfl rfl hA24 (by omega)) ?_;refine TL.w rfl (Kw (v := .int .i64 x24) rfl rfl KtJ (fun w1 hw => (hw.bel.cell hbb24).trans <| KL (Km .i64) hx24 hc24 0 _ rfl)) ?_;refine TL.prowS (e := 3) (size := 1) (cs := Kb (ic .i64) [x24]) rfl rfl rfl rfl rfl (fun w => Kgv _ w) (by decide) rfl (fun g26 => ?_);refine TL.mv ?_;refine TL.appendT (k := 0) rfl rfl rfl rfl Tryz.underlying50 Kla rfl rfl rfl (fun w1 hw => K0 hw (k := 1) rfl) (Kx (Km .i64) _) (by omega) (([x24] ++ r).length) (by rw [List.length_append]; rfl) (Kb (ic .i64) ([x24] ++ r)) ((Kz _ _).symm) (fun A28 c28 hA281 hA282 => ?_);refine TL.pL (α := {y : List Int // (Nrm y /\ Ka y = x24 + 1073741824 * Ka r) /\ y.length <= c28}) (r := fun y => .slice A28 y.1.length c28) (I' := fun y => Pm w ([.row (.slice A28 y.1.length c28) 3 1 y.1.length (Kb (ic .i64) y.1), .row (.slice Ar r.length cr) 3 1 r.length (Kb (ic .i64) r), .row (.slice (some ⟨g14, 0, none⟩) a.length a.length) 3 1 a.length (Kb (ic .i64) o)])) rfl Kdw (fun w1 hw => (Kee A28 _ c28 ([x24] ++ r) w1 (Kp hw (k := 0) rfl) rfl (by rw [List.length_append]; show 1 + _ <= _; omega) hA281).mono fun e w2 ⟨h1, h2⟩ => ⟨⟨Ki ([x24] ++ r), Nrm.trim hxr, by have h9 := (Kah ([x24] ++ r)).2.1; omega⟩, h1, (hw.below h2).trimK (k := 0) rfl rfl⟩) ?_;rintro ⟨rr, hrr, hrrc⟩;dsimp only at hrr hrrc ⊢;obtain ⟨v, hv⟩ : ∃ v, v = x24 + 1073741824 * Ka r := ⟨_, rfl⟩;rw [<- hv] at hrr;have htop := hS1.top ha.1 hx24 hv;have hrl9 := Kgq hrr.1 hb.1 (by omega);refine TL.as_ ?_;refine zET (zS (zSG (TL.rn 2 rfl ?_)));refine TL.p1 rfl Kfh (fun w1 hw => KfD A28 c28 rr A1 c1 b w1 (Kp hw (k := 0) rfl) (by omega) (hr1.up hw.bel) (by omega) hrr.1 hb) ?_;refine TL.sp Ko (fun q33 => ?_) (fun q33 => ?_)
  ·have hcl : Ka rr < Ka b := Kaw.1 q33;refine zET (zc (zx (zX (zM (zT (zG (TL.mv ?_)))))));refine TL.w rfl (Ke rfl rfl rfl (fun w => Ky (r := ((i - 1 : Nat) : Int) - 1) (by simp only [IntKind.wrap_i64]; omega) w)) ?_;refine TL.as_ ?_;refine zE ?_;exact TX.rd (⟨(i - 1, ((A28, c28), rr), o), by dsimp only; omega, hrr.1, hrrc, hA282, by dsimp only; rw [hrr.2]; exact hS1.skipG hx24 hv htop.1 (by omega)⟩) (by show i - 1 < i; omega) (fun w1 hw => hw.pk [0, 2])
  have hcl : ¬ Ka rr < Ka b := fun h => q33 (Kaw.2 h);refine zET (zd (zk (zT (zSG (TL.rn 2 rfl (zET (zS (zB ?_))))))));refine TC.loop_ (α := {y : Int × Int // (1 <= y.1 /\ y.1 <= y.2 /\ y.2 <= 1073741823) /\ Ka b * y.1 <= Ka rr /\ Ka rr < Ka b * (y.2 + 1)}) (fun y => [(0, .slice A0 a.length c0), (1, .slice A1 b.length c1), (6, .slice (some ⟨g14, 0, none⟩) a.length a.length), (7, .slice A28 rr.length c28), (8, .int .i64 (((i - 1) : Nat) : Int)), (9, .int .i64 y.1.1), (10, .int .i64 y.1.2)]) (fun y => Pm w [.row (.slice A28 rr.length c28) 3 1 rr.length (Kb (ic .i64) rr), .row (.slice Ar r.length cr) 3 1 r.length (Kb (ic .i64) r), .row (.slice (some ⟨g14, 0, none⟩) a.length a.length) 3 1 a.length (Kb (ic .i64) o)]) (fun y => (y.1.2 - y.1.1).toNat) (⟨(1, 1073741823), ⟨by decide, by decide, by decide⟩, by dsimp only; omega, by dsimp only; rw [hrr.2]; exact htop.2⟩) ⟨rfl, rfl, rfl, rfl, rfl, rfl, rfl, trivial⟩ (fun w1 hw => hw) ?_;rintro ⟨⟨lo, hi⟩, hlh, hIl, hIn⟩;dsimp only at hlh hIl hIn ⊢;refine zS (zSG (TL.rn 2 rfl ?_));refine TL.sp Ko (fun q36 => ?_) (fun q36 => ?_)
  ·refine zET (zc (zk (zT (zB (zS ?_)))));obtain ⟨md, hmd⟩ : ∃ md, md = (lo + hi + 1) / 2 := ⟨_, rfl⟩;refine zG (TL.rn 2 rfl (TL.v (gD (lo + hi)) ?_));refine TL.v (gD (lo + hi + 1)) ?_;refine TL.w rfl (Ke (v := .int .i64 md) rfl rfl rfl (fun w => by rw [hmd]; exact KbP (by omega) (by decide) (by omega) w)) ?_;refine TL.as_ ?_;refine zET (zSG (TL.rn 2 rfl ?_));refine TL.prowS (e := 3) (size := 1) (cs := Kb (ic .i64) [md]) rfl rfl rfl rfl rfl (fun w => Kgv _ w) (by decide) rfl (fun g44 => ?_);refine TL.pM _ _ rfl Kc7 (fun w1 hw => KcM A1 c1 b (some ⟨g44, 0, none⟩) 1 [md] w1 (hr1.up hw.bel) (by omega) (Kp hw (k := 0) rfl) (by show 1 <= 1000; decide) hb (Kdk (by omega))) ?_;rintro ⟨⟨⟨Atm, ctm⟩, tm⟩, htm, htmc, htmm⟩;dsimp only [lC, lN];dsimp only at htm htmc htmm ⊢;rw [Kc4] at htm;have html : tm.length <= b.length + 1 := Kgq htm.1 hb.1 (by rw [htm.2]; exact Int.mul_lt_mul_of_pos_left (by omega) pb);refine TL.mv ?_;refine TL.p1 rfl Kfh (fun w1 hw => KfD Atm ctm tm A28 c28 rr w1 (Kp hw (k := 0) rfl) (by omega) (Kp hw (k := 2) rfl) (by omega) htm.1 hrr.1) ?_;refine TL.sp KcZ (fun q48 => ?_) (fun q48 => ?_)
   ·have hc9 : Ka tm <= Ka rr := KmV.1 q48;refine zET (zc (zG (TL.rn 2 rfl (zE (zN ?_)))));exact TX.rd (⟨(md, hi), by dsimp only; omega, by dsimp only; omega, hIn⟩) (by dsimp only; omega) (fun w1 hw => hw.pk [2, 3, 4])
   have hc9 : ¬ Ka tm <= Ka rr := fun h => q48 (KmV.2 h);refine zET (zd (zG (TL.mv ?_)));refine TL.w rfl (Ke rfl rfl rfl (fun w => Ky (r := md - 1) (by simp only [IntKind.wrap_i64]; omega) w)) ?_;refine TL.as_ ?_;refine zE (zN ?_);exact TX.rd (⟨(lo, md - 1), by dsimp only; omega, hIl, by dsimp only; rw [Int.sub_add_cancel]; omega⟩) (by dsimp only; omega) (fun w1 hw => hw.pk [2, 3, 4])
  refine zET (zd (zx (zX (zX (zM (zT (zS ?_)))))));have heq9 : lo = hi := by omega
  refine zG (TL.rn 3 rfl ?_);have hi55 : (i - 1) < o.length := by omega
  obtain ⟨x55, hx55⟩ := Kq hi55;refine TL.w rfl (gA (i := (i - 1)) Tryz.underlying50 Kgp rfl rfl rfl rfl rfl (by omega)) ?_;refine TL.rowset (k := 2) (vs := [.int .i64 lo]) (xs' := Kb (ic .i64) (o.set (i - 1) lo)) rfl rfl rfl rfl rfl rfl rfl Kgp KrG (by rw [KW (Km .i64)]; show 0 + (i - 1) * 1 + 1 <= _; omega) (Kar (Km .i64) (q := 0) (y := lo) hx55 (by show 0 + 1 <= 1; decide) rfl) ?_
  try dsimp only [List.set_cons_zero, List.set_cons_succ]
  refine zET (zG (TL.rn 3 rfl ?_));refine TL.prowS (e := 3) (size := 1) (cs := Kb (ic .i64) [lo]) rfl rfl rfl rfl rfl (fun w => Kgv _ w) (by decide) rfl (fun g59 => ?_);refine TL.pM _ _ rfl Kc7 (fun w1 hw => KcM A1 c1 b (some ⟨g59, 0, none⟩) 1 [lo] w1 (hr1.up hw.bel) (by omega) (Kp hw (k := 0) rfl) (by show 1 <= 1000; decide) hb (Kdk (by omega))) ?_;rintro ⟨⟨⟨Atl, ctl⟩, tl⟩, htl, htlc, htlm⟩;dsimp only [lC, lN];dsimp only at htl htlc htlm ⊢;rw [Kc4] at htl;have htll : tl.length <= b.length + 1 := Kgq htl.1 hb.1 (by rw [htl.2]; exact Int.mul_lt_mul_of_pos_left (by omega) pb);refine TL.pM _ _ rfl Kd0 (fun w1 hw => Keh A28 c28 rr Atl ctl tl w1 (Kp hw (k := 2) rfl) (by omega) (Kp hw (k := 0) rfl) (by omega) hrr.1 htl.1 (by omega)) ?_;rintro ⟨⟨⟨Arn, crn⟩, rn⟩, hrn, hrnc, hrnm⟩;dsimp only [lC, lN];dsimp only at hrn hrnc hrnm ⊢;refine TL.as_ ?_;refine zE (zN (zT (zG (TL.mv ?_))));refine TL.w rfl (Ke rfl rfl rfl (fun w => Ky (r := ((i - 1 : Nat) : Int) - 1) (by simp only [IntKind.wrap_i64]; omega) w)) ?_;refine TL.as_ ?_;refine zE ?_;exact TX.rd (⟨(i - 1, ((Arn, crn), rn), o.set (i - 1) lo), by dsimp only; omega, hrn.1, hrnc, hrnm, by dsimp only; rw [hrn.2, htl.2, hrr.2]; exact hS1.stepG hx24 hv (by omega) (by omega) (by rw [<- heq9] at hIn; omega)⟩) (by show i - 1 < i; omega) (fun w1 hw => hw.pk [0, 5])
 refine zET (zd (zx (zX (zX (zM (zT (zSG (TL.mv ?_))))))));refine TL.p1 (r := .slice (some ⟨g14, 0, none⟩) ((Ki o).length) a.length) rfl Kdw (fun w1 hw => Kee (some ⟨g14, 0, none⟩) a.length a.length o w1 (Kp hw (k := 1) rfl) hol (by omega) (by omega)) ?_;refine TL.rn 3 rfl (zET (zr ?_));have hfu : Ka a = Ka o * Ka b + Ka r /\ Ka r < Ka b := by have h0 : i = 0 := (by omega); subst h0; exact ⟨hS.full, hS.r01.2⟩
 exact Kad (v1 := .slice (some ⟨g14, 0, none⟩) (Ki o).length a.length) (v2 := .slice Ar r.length cr) Tryz.results118 rfl rfl (fun w1 hw => ⟨⟨((((some ⟨g14, 0, none⟩), a.length), Ki o), ((Ar, cr), r)), ⟨(Nrm.trim hS.ok).1, hnr, by dsimp only; rw [(Nrm.trim hS.ok).2]; exact hfu.1, hfu.2⟩, ⟨by dsimp only; have h9 := (Kah o).2.1; omega, by dsimp only; unfold maxLen; omega⟩, hrc, hrm⟩, rfl, (show Pm w [.row (.slice (some ⟨g14, 0, none⟩) ((Ki o).length) a.length) 3 1 ((Ki o).length) (Kb (ic .i64) (Ki o)), .row (.slice Ar r.length cr) 3 1 r.length (Kb (ic .i64) r)] w1 from (show Pm w [.row (.slice (some ⟨g14, 0, none⟩) a.length a.length) 3 1 a.length (Kb (ic .i64) o), .row (.slice Ar r.length cr) 3 1 r.length (Kb (ic .i64) r)] w1 from hw.pk [1, 0]).trimK (k := 0) rfl hol)⟩)
set_option maxRecDepth 20000
theorem Kpv {P : Program} {m n : Int} {xt : TypeId} (h0 : 0 <= m) (h1 : 0 < n) (hm : m < 9223372036854775808) (w : World) : (binOp .quo xt (.int .u64 m) (.int .u64 n)).run P w = .ok (.int .u64 (m / n)) w := by
 have hne : n ≠ 0 := by omega
 have hd : m / n <= m := Int.ediv_le_self _ h0;have hd0 : 0 <= m / n := Int.ediv_nonneg h0 (by omega)
 have : IntKind.wrap .u64 (m.tdiv n) = m / n := by
  rw [Int.tdiv_eq_ediv_of_nonneg h0];simp only [IntKind.wrap_u64]; omega
 simp [binOp, go_sem, hne, this]
structure WdI (x : Int) (o : List Int) (v : Int) : Prop where
 ok : Kl o
 v0 : 0 <= v
 eq : Ka o + pB o.length * v = x
 top : o ≠ [] -> pB (o.length - 1) <= x
theorem WdI.start {x : Int} (h : 0 <= x) : WdI x [] x := ⟨Kl.nil, h, by show (0 : Int) + 1 * x = x; omega, fun h => absurd rfl h⟩
theorem WdI.step {x v : Int} {o : List Int} (h : WdI x o v) (hv : 0 < v) : WdI x (o ++ [v % 1073741824]) (v / 1073741824) := by
 have h1 := h.eq;have h2 := KH h.ok;have h3 : pB o.length * 1 <= pB o.length * v := Int.mul_le_mul_of_nonneg_left (by omega) (Int.le_of_lt (KS _));refine ⟨h.ok.app (Kl.cons (Kcl v) Kl.nil), by omega, ?_, fun _ => by rw [List.length_append]; show pB (o.length + 1 - 1) <= x; rw [Nat.add_sub_cancel]; omega⟩;rw [KfP, List.length_append];show _ + pB (o.length + 1) * _ = x;rw [K6]
 have h4 : pB o.length * v = pB o.length * (v % 1073741824) + 1073741824 * (pB o.length * (v / 1073741824)) := by
  have h5 : pB o.length * v = pB o.length * (v % 1073741824 + 1073741824 * (v / 1073741824)) := congrArg _ (by omega);rw [h5, Int.mul_add, Int.mul_left_comm (pB o.length) 1073741824]
 rw [Int.mul_assoc];omega
theorem WdI.len {x v : Int} {o : List Int} (h : WdI x o v) (hx : x < 9223372036854775808) : o.length <= 3 := by
 refine Decidable.by_contra fun hn => ?_;have h1 := h.top (fun e => by rw [e] at hn; exact hn (Nat.zero_le _));have h2 := Kax (show 3 <= o.length - 1 by omega);have h3 : pB 3 = 1237940039285380274899124224 := by decide
 omega
theorem WdI.fin {x v : Int} {o : List Int} (h : WdI x o v) (hv : ¬ 0 < v) : Nrm o /\ Ka o = x := by
 have h0 : v = 0 := by have := h.v0; omega
 have h1 := h.eq;rw [h0, Int.mul_zero, Int.add_zero] at h1;exact ⟨Kl3 h.ok (fun hne => by rw [h1]; exact h.top hne), h1⟩
def Kcn (p q : Int) (n d : List Int) : Prop := Nrm n /\ Nrm d /\ ∃ g : Int, 0 < g /\ g = ((Nat.gcd p.toNat q.toNat : Nat) : Int) /\ Ka n * g = p /\ Ka d * g = q
theorem Kqd {a b n d g r r' : List Int} (pa : 0 < Ka a) (pb : 0 < Ka b) (hg : Nrm g /\ Ka g = ((Nat.gcd (tn a) (tn b) : Nat) : Int)) (h1 : Nrm n /\ Nrm r /\ Ka a = Ka n * Ka g + Ka r /\ Ka r < Ka g) (h2 : Nrm d /\ Nrm r' /\ Ka b = Ka d * Ka g + Ka r' /\ Ka r' < Ka g) : Kcn (Ka a) (Ka b) n d := by
 have hgp : 0 < Ka g := by
  rw [hg.2];have : 0 < Nat.gcd (tn a) (tn b) := Nat.gcd_pos_of_pos_left _ (by show 0 < (Ka a).toNat; omega);omega
 have key : ∀ {x q r : Int}, 0 < x -> Ka g ∣ x -> 0 <= r -> r < Ka g -> x = q * Ka g + r -> q * Ka g = x := fun {x q r} hx hd h0 hl he => by
  obtain ⟨k, hk⟩ := hd;have e1 : Ka g ∣ r := ⟨k - q, by rw [Int.mul_sub, <- hk, Int.mul_comm (Ka g) q]; omega⟩;obtain ⟨z, hz⟩ := e1;have : r = 0 := by rw [<- Int.emod_eq_of_lt h0 hl]; exact Int.emod_eq_zero_of_dvd ⟨z, hz⟩
  omega
 have da : Ka g ∣ Ka a := by
  rw [hg.2];have := Int.natCast_dvd_natCast.2 (Nat.gcd_dvd_left (tn a) (tn b));rwa [show ((tn a : Nat) : Int) = Ka a from Int.toNat_of_nonneg (by omega)] at this
 have db : Ka g ∣ Ka b := by
  rw [hg.2];have := Int.natCast_dvd_natCast.2 (Nat.gcd_dvd_right (tn a) (tn b));rwa [show ((tn b : Nat) : Int) = Ka b from Int.toNat_of_nonneg (by omega)] at this
 exact ⟨h1.1, h2.1, Ka g, hgp, hg.2, key pa da (KH h1.2.1.1) h1.2.2.2 h1.2.2.1, key pb db (KH h2.2.1.1) h2.2.2.2 h2.2.2.1⟩
theorem Kon {a b g : List Int} (pa : 0 < Ka a) (hg : Nrm g /\ Ka g = ((Nat.gcd (tn a) (tn b) : Nat) : Int)) : 0 < Ka g /\ Ka g <= Ka a := by
 have h1 : 0 < Nat.gcd (tn a) (tn b) := Nat.gcd_pos_of_pos_left _ (by show 0 < (Ka a).toNat; omega);have h2 : Nat.gcd (tn a) (tn b) <= tn a := Nat.gcd_le_left _ (by show 0 < (Ka a).toNat; omega);have h3 := hg.2;have h4 : ((tn a : Nat) : Int) = Ka a := Int.toNat_of_nonneg (by omega);omega
theorem KtD (a0_0 : Int) (w : World) : (Instr.buildSlice 50 1 #[(0, .int .i64 a0_0)]).run Tryz.prog w = .ok (.slice (some ⟨w.heap.size, 0, none⟩) 1 1) (w.alloc (.cells [.int .i64 a0_0].toArray 3)) := by kernel_rfl
theorem Ksk : Elem Tryz.prog 50 3 1 8 := Elem.mk' Tryz.underlying50 (z := .int .i64 0) (by kernel_rfl) rfl (by omega) (by omega)
theorem Kk6 (w : World) : (zeroValue 52).run Tryz.prog w = .ok (.agg #[.bool false, .slice none 0 0, .slice none 0 0]) w := rfl
theorem Kn7 (a0_0 : Bool) (a1_0 : Option Addr) (a1_0n a1_0c : Nat) (a2_0 : Option Addr) (a2_0n a2_0c : Nat) (w : World) : (Instr.build 52 #[(0, .bool a0_0), (1, .slice a1_0 a1_0n a1_0c), (2, .slice a2_0 a2_0n a2_0c)]).run Tryz.prog w = .ok (.agg #[.bool a0_0, .slice a1_0 a1_0n a1_0c, .slice a2_0 a2_0n a2_0c]) w := by kernel_rfl
theorem Kmp (w : World) : (sizeOf 52).run Tryz.prog w = .ok 3 w := rfl
theorem Kq4 (x : Int) (w : World) (hx0 : 0 <= x) (hx1 : x < 4611686018427387904) :
  Calls Tryz.prog 119 #[.int .u64 x] w fun e w' => ∃ x : {y : (Option Addr × Nat) × List Int // (Nrm y.2 /\ Ka y.2 = x /\ y.2.length <= 3) /\ y.2.length <= y.1.2 /\ y.1.2 <= maxLen}, e = .returned (.slice x.1.1.1 x.1.2.length x.1.1.2) /\ Pm w [.row (.slice x.1.1.1 x.1.2.length x.1.1.2) 3 1 x.1.2.length (Kb (ic .i64) x.1.2)] w' := by
 refine Kj Tryz.func119 rfl rfl rfl ?_ (Pm.start w);refine zSG (TL.as_ ?_);refine zET (zSG (TL.as_ ?_));refine zET (zS (zB (TC.nilrow 3 1 ?_)));refine TC.loop_ (α := {y : (Option Addr × Nat) × Int × List Int // WdI x y.2.2 y.2.1 /\ (y.2.1 <= x /\ y.2.2.length <= y.1.2 /\ y.1.2 <= maxLen)}) (fun y => [(0, .int .u64 y.1.2.1), (3, .slice y.1.1.1 y.1.2.2.length y.1.1.2)]) (fun y => Pm w [.row (.slice y.1.1.1 y.1.2.2.length y.1.1.2) 3 1 y.1.2.2.length (Kb (ic .i64) y.1.2.2)]) (fun y => y.1.2.1.toNat) (⟨((none, 0), x, []), .start hx0, Int.le_refl _, Nat.le_refl _, Nat.zero_le _⟩) ⟨rfl, rfl, trivial⟩ (fun w1 hw => hw) ?_;rintro ⟨⟨⟨Ao, co⟩, v, o⟩, hW, hvx, hoc, hom⟩;dsimp only at hW hvx hoc hom ⊢;have hol := hW.len (by omega);have hv0 := hW.v0;refine zS (zSG (TL.mv ?_));refine TL.sp KB (fun q5 => ?_) (fun q5 => ?_)
 ·refine zET (zc (zk (zT (zS (zB (zG (TL.rn 2 rfl ?_)))))));refine TL.w rfl (Ke (v := .int .u64 (v % 1073741824)) rfl rfl rfl (fun w => KjA (by omega) (by decide) w)) ?_;refine TL.w rfl (KaK rfl rfl (fun w => Kbb (k := .u64) Tryz.underlying3 Tryz.underlying214 (by simp only [IntKind.wrap_i64]; omega) w)) ?_;refine TL.prowS (e := 3) (size := 1) (cs := Kb (ic .i64) [v % 1073741824]) rfl rfl rfl rfl rfl (fun w => KtD _ w) (by decide) rfl (fun g12 => ?_);refine TL.appendT (k := 1) rfl rfl rfl rfl Tryz.underlying50 Ksk rfl rfl rfl (fun w1 hw => K0 hw (k := 0) rfl) (Kx (Km .i64) _) (by omega) ((o ++ [v % 1073741824]).length) (by rw [List.length_append]; rfl) (Kb (ic .i64) (o ++ [v % 1073741824])) ((Kz _ _).symm) (fun A13 c13 hA131 hA132 => ?_);refine TL.as_ ?_;refine zE (zN (zT (zG (TL.mv ?_))));refine TL.w rfl (Ke (v := .int .u64 (v / 1073741824)) rfl rfl rfl (fun w => Kpv (by omega) (by decide) (by omega) w)) ?_;refine TL.as_ ?_;refine zE ?_;exact TX.rd (⟨((A13, c13), v / 1073741824, o ++ [v % 1073741824]), hW.step (by omega), by dsimp only; omega, hA131, hA132⟩) (by show (v / 1073741824).toNat < v.toNat; omega) (fun w1 hw => hw.pk [1])
 refine zET (zd (zx (zX (zX (zM (zT (zSG (TL.rn 2 rfl (zET (zr ?_))))))))));have hfi := hW.fin (by omega);exact Kg Tryz.results119 rfl (fun w1 hw => ⟨⟨((Ao, co), o), ⟨hfi.1, hfi.2, hol⟩, hoc, hom⟩, rfl, hw⟩)
theorem KmM (x : Int) (w : World) (hx0 : 0 <= x) (hx1 : x < 4611686018427387904) :
  Calls Tryz.prog 73 #[.int .i64 x] w fun e w' => ∃ x : {y : (Option Addr × Nat) × List Int // (Nrm y.2 /\ Ka y.2 = x /\ y.2.length <= 3) /\ y.2.length <= y.1.2 /\ y.1.2 <= maxLen}, e = .returned (.slice x.1.1.1 x.1.2.length x.1.1.2) /\ Pm w [.row (.slice x.1.1.1 x.1.2.length x.1.1.2) 3 1 x.1.2.length (Kb (ic .i64) x.1.2)] w' := by
 refine Kj Tryz.func73 rfl rfl rfl ?_ (Pm.start w);refine zSG (TL.as_ ?_);refine zET (zS (zSG (TL.mv ?_)));refine TL.sp Ko (fun q4 => ?_) (fun q4 => ?_)
 ·exfalso; omega
 refine zET (zd (zk (zT (zSG (TL.mv ?_)))));refine TL.w rfl (KaK rfl rfl (fun w => Kbb (k := .i64) Tryz.underlying214 Tryz.underlying3 (by simp only [IntKind.wrap_u64]; omega) w)) ?_;refine TL.pM _ _ rfl KtO (fun w1 hw => Kq4 x w1 hx0 hx1) ?_;rintro ⟨⟨⟨Awd, cwd⟩, wd⟩, hwd, hwdc, hwdm⟩;dsimp only [lC, lN];dsimp only at hwd hwdc hwdm ⊢;refine TL.as_ ?_;refine zET (zr ?_);exact Kg Tryz.results73 rfl (fun w1 hw => ⟨⟨((Awd, cwd), wd), hwd, hwdc, hwdm⟩, rfl, hw⟩)
theorem Ktj (A0 : Option Addr) (c0 : Nat) (a : List Int) (A1 : Option Addr) (c1 : Nat) (b : List Int) (w : World) (hr : Kd w w.heap.size 1 A0 a.length (Kb (ic .i64) a)) (hl1 : a.length <= 900) (hr1 : Kd w w.heap.size 1 A1 b.length (Kb (ic .i64) b)) (hl2 : b.length <= 900) (ha : Nrm a) (hb : Nrm b) (pa : 0 < Ka a) (pb : 0 < Ka b) :
  Calls Tryz.prog 72 #[.bool false, .slice A0 a.length c0, .slice A1 b.length c1] w fun e w' => ∃ x : {y : ((Option Addr × Nat) × List Int) × ((Option Addr × Nat) × List Int) // (Kcn (Ka a) (Ka b) y.1.2 y.2.2) /\ (y.1.2.length <= y.1.1.2 /\ y.1.1.2 <= maxLen) /\ y.2.2.length <= y.2.1.2 /\ y.2.1.2 <= maxLen}, e = .returned (.agg #[.bool false, .slice x.1.1.1.1 x.1.1.2.length x.1.1.1.2, .slice x.1.2.1.1 x.1.2.2.length x.1.2.1.2]) /\ Pm w [.row (.slice x.1.1.1.1 x.1.1.2.length x.1.1.1.2) 3 1 x.1.1.2.length (Kb (ic .i64) x.1.1.2), .row (.slice x.1.2.1.1 x.1.2.2.length x.1.2.1.2) 3 1 x.1.2.2.length (Kb (ic .i64) x.1.2.2)] w' := by
 refine Kj Tryz.func72 rfl rfl rfl ?_ (Pm.start w);refine zSG ?_;refine TL.al Kk6 fun g6 => ?_;refine zET (zS (zSG (TL.mv ?_)));refine TL.v (gN Tryz.underlying50) ?_;refine TL.sp KG (fun q14 => ?_) (fun q14 => ?_)
 ·exfalso; have := Kd5 pa; omega
 refine zET (zd (zk (zT (zSG (TL.rn 2 rfl ?_)))));refine TL.pM _ _ rfl Kp9 (fun w1 hw => Kn1 A0 c0 a A1 c1 b w1 (hr.up hw.bel) (by omega) (hr1.up hw.bel) (by omega) ha hb pa pb) ?_;rintro ⟨⟨⟨Ag, cg⟩, g⟩, hg, hgc, hgm⟩;dsimp only [lC, lN];dsimp only at hg hgc hgm ⊢;have hgb := Kon pa hg;have hgp := hgb.1;have hgl := hg.1.len_le' ha hgb.2;refine TL.as_ ?_;refine zET (zSG (TL.rn 2 rfl ?_));refine TL.pM _ _ rfl KjC (fun w1 hw => Ki3 A0 c0 a Ag cg g w1 (hr.up hw.bel) (by omega) (Kp hw (k := 0) rfl) (by omega) ha hg.1 hgp (by omega)) ?_;rintro ⟨⟨⟨⟨An_, cn_⟩, n_⟩, ⟨⟨Ar1, cr1⟩, r1⟩⟩, hn_, ⟨hn_c, hn_m⟩, hr1c, hr1m⟩;dsimp only [lC, lN];dsimp only at hn_ hn_c hn_m hr1c hr1m ⊢;refine TL.rn 5 rfl (zET (zSG (TL.rn 2 rfl ?_)));refine TL.pM _ _ rfl KjC (fun w1 hw => Ki3 A1 c1 b Ag cg g w1 (hr1.up hw.bel) (by omega) (Kp hw (k := 2) rfl) (by omega) hb hg.1 hgp (by omega)) ?_;rintro ⟨⟨⟨⟨Ad_, cd_⟩, d_⟩, ⟨⟨Ar2, cr2⟩, r2⟩⟩, hd_, ⟨hd_c, hd_m⟩, hr2c, hr2m⟩;dsimp only [lC, lN];dsimp only at hd_ hd_c hd_m hr2c hr2m ⊢;refine TL.rn 5 rfl (zET (zSG (TL.rn 3 rfl ?_)));refine TL.w rfl (Ks (v := .agg #[.bool false, .slice An_ n_.length cn_, .slice Ad_ d_.length cd_]) rfl rfl (fun w => Kn7 _ _ _ _ _ _ _ w)) ?_;refine TL.ps 5 Kmp ?_;refine zET (zr ?_);exact KbF (k := 5) Tryz.results72 rfl rfl Tryz.underlying52 rfl rfl (fun w1 hw => ⟨⟨(((An_, cn_), n_), ((Ad_, cd_), d_)), Kqd pa pb hg hn_ hd_, ⟨hn_c, hn_m⟩, hd_c, hd_m⟩, rfl, hw.pick [2, 0] (by decide) rfl⟩)
theorem Kk7 (p q : Int) (w : World) (hp : 0 < p /\ p < 4611686018427387904) (hq : 0 < q /\ q < 4611686018427387904) :
  Calls Tryz.prog 26 #[.int .i64 p, .int .i64 q] w fun e w' => ∃ x : {y : ((Option Addr × Nat) × List Int) × ((Option Addr × Nat) × List Int) // (Kcn p q y.1.2 y.2.2) /\ (y.1.2.length <= y.1.1.2 /\ y.1.1.2 <= maxLen) /\ y.2.2.length <= y.2.1.2 /\ y.2.1.2 <= maxLen}, e = .returned (.tuple #[.agg #[.bool false, .slice x.1.1.1.1 x.1.1.2.length x.1.1.1.2, .slice x.1.2.1.1 x.1.2.2.length x.1.2.1.2], .int .i64 0]) /\ Pm w [.row (.slice x.1.1.1.1 x.1.1.2.length x.1.1.1.2) 3 1 x.1.1.2.length (Kb (ic .i64) x.1.1.2), .row (.slice x.1.2.1.1 x.1.2.2.length x.1.2.1.2) 3 1 x.1.2.2.length (Kb (ic .i64) x.1.2.2)] w' := by
 refine Kj Tryz.func26 rfl rfl rfl ?_ (Pm.start w);refine zSG ?_;refine TL.al Kk6 fun g4 => ?_;refine TL.as_ ?_;refine zET (zS (zSG (TL.mv ?_)));refine TL.sp KG (fun q7 => ?_) (fun q7 => ?_)
 ·exfalso; omega
 refine zET (zd (zk (zT (zSG (TL.mv ?_)))));refine TL.sp Ko (fun q10 => ?_) (fun q10 => ?_)
 ·exfalso; omega
 refine TL.mv ?_;refine TL.sp Ko (fun q12 => ?_) (fun q12 => ?_)
 ·exfalso; omega
 refine TL.w rfl (Kba (v := .bool false) rfl rfl rfl (fun w => Ko4 Tryz.underlying4 false false w)) ?_;refine TL.mv ?_;refine TL.pM _ _ rfl o73 (fun w1 hw => KmM p w1 (by omega) (by omega)) ?_;rintro ⟨⟨⟨Aa, ca⟩, a⟩, ha, hac, ham⟩;dsimp only [lC, lN];dsimp only at ha hac ham ⊢;refine TL.mv ?_;refine TL.pM _ _ rfl o73 (fun w1 hw => KmM q w1 (by omega) (by omega)) ?_;rintro ⟨⟨⟨Ab, cb⟩, b⟩, hb, hbc, hbm⟩;dsimp only [lC, lN];dsimp only at hb hbc hbm ⊢;refine TL.pM _ _ rfl o72 (fun w1 hw => Ktj Aa ca a Ab cb b w1 (Kp hw (k := 1) rfl) (by omega) (Kp hw (k := 0) rfl) (by omega) ha.1 hb.1 (by omega) (by omega)) ?_;rintro ⟨⟨⟨⟨An_, cn_⟩, n_⟩, ⟨⟨Ad_, cd_⟩, d_⟩⟩, hR, ⟨hn_c, hn_m⟩, hd_c, hd_m⟩;dsimp only [lC, lN];dsimp only at hR hn_c hn_m hd_c hd_m ⊢;refine TL.ps 4 Kmp ?_;refine TL.as_ ?_;refine zET (zr ?_);have hR2 : Kcn p q n_ d_ := by have h9 := hR; rw [ha.2.1, hb.2.1] at h9; exact h9
 exact Kcw (k := 4) (v := .int .i64 0) Tryz.results26 rfl rfl rfl Tryz.underlying52 rfl rfl (fun w1 hw => ⟨⟨(((An_, cn_), n_), ((Ad_, cd_), d_)), hR2, ⟨hn_c, hn_m⟩, hd_c, hd_m⟩, rfl, hw.pick [0, 1] (by decide) rfl⟩)
set_option maxRecDepth 20000
def KhX (s : Srh) : Prop := SrhOk s /\ s.tr.dst = 167774464 /\ s.ttl <= 4 /\ s.flows <= 16
def KnQ (s : Srh) : List Pc := [.row (.slice s.num.A s.num.l.length s.num.c) 3 1 s.num.l.length (Kb (ic .i64) s.num.l), .row (.slice s.den.A s.den.l.length s.den.c) 3 1 s.den.l.length (Kb (ic .i64) s.den.l)]
theorem Kke {q : Int} {n d : List Int} (hq : 0 < q) (h : Kcn 1 q n d) : Ka n = 1 /\ Ka d = q := by
 obtain ⟨_, _, g, _, hg, h1, h2⟩ := h;have e : g = 1 := by rw [hg]; show ((Nat.gcd 1 q.toNat : Nat) : Int) = 1; rw [Nat.gcd_one_left]; rfl
 subst e;omega
theorem KjG {v d p : Int} (hv : 0 <= v /\ v <= 15) (hd : d ≠ 0) (hp : p = 17 \/ p = 1 \/ p = 6) : KC (KaL ⟨v, d, p⟩) = true := by
 have hc : K7 (KaL ⟨v, d, p⟩) = 0 := by
  unfold K7;rw [if_neg (Decidable.not_not.2 (by unfold KaL Rs.inRange; dsimp only; omega)), if_neg (show ¬ ¬ ((KaL ⟨v, d, p⟩).proto = 1 \/ (KaL ⟨v, d, p⟩).proto = 6 \/ (KaL ⟨v, d, p⟩).proto = 17) from Decidable.not_not.2 (by unfold KaL; dsimp only; omega)), if_neg (by unfold KaL Rs.noAns; simp), if_neg (by unfold KaL; simp)]
 unfold KC;rw [hc];unfold KaL;simp [hd]
theorem Kqo {v p q t f : Int} {n d : Sg Int} (hv : 0 <= v /\ v <= 15) (hp : p = 17 \/ p = 1 \/ p = 6) (hq : 1 < q /\ q <= 100) (h : Kcn 1 q n.l d.l) (ht : 1 <= t /\ t <= 4) (hf : 1 <= f /\ f <= 16) : KhX ⟨⟨v, 167774464, p⟩, n, d, t, f⟩ := by
 obtain ⟨e1, e2⟩ := Kke (by omega) h
 have h60 : (1073741824 : Int) <= pB 60 := by
  have := Kax (show 1 <= 60 by decide);have e : pB 1 = 1073741824 := by decide
  omega
 exact ⟨⟨KjG hv (by decide) hp, ⟨h.1, h.2.1, by dsimp only; omega, by dsimp only; omega, by dsimp only; omega⟩, by dsimp only; omega, by dsimp only; omega, ⟨ht.1, by dsimp only; omega⟩, ⟨hf.1, by dsimp only; omega⟩⟩, rfl, ht.2, hf.2⟩
theorem KjT (w : World) : (zeroValue 54).run Tryz.prog w = .ok (.agg #[.int .i64 0, .int .u32 0, .int .i64 0, .bool false, .slice none 0 0, .slice none 0 0, .int .i64 0, .int .i64 0]) w := rfl
theorem Kuc (a0_0 : Int) (a1_0 : Int) (a2_0 : Int) (a3_0 : Int) (w : World) : (Instr.buildSlice 49 4 #[(0, .int .i64 a0_0), (1, .int .i64 a1_0), (2, .int .i64 a2_0), (3, .int .i64 a3_0)]).run Tryz.prog w = .ok (.slice (some ⟨w.heap.size, 0, none⟩) 4 4) (w.alloc (.cells [.int .i64 a0_0, .int .i64 a1_0, .int .i64 a2_0, .int .i64 a3_0].toArray 3)) := by kernel_rfl
theorem Klz (a0_0 : Int) (a0_1 : Int) (a0_2 : Int) (a1_0 : Bool) (a1_1 : Option Addr) (a1_1n a1_1c : Nat) (a1_2 : Option Addr) (a1_2n a1_2c : Nat) (a2_0 : Int) (a3_0 : Int) (w : World) : (Instr.build 54 #[(0, .agg #[.int .i64 a0_0, .int .u32 a0_1, .int .i64 a0_2]), (1, .agg #[.bool a1_0, .slice a1_1 a1_1n a1_1c, .slice a1_2 a1_2n a1_2c]), (2, .int .i64 a2_0), (3, .int .i64 a3_0)]).run Tryz.prog w = .ok (.agg #[.int .i64 a0_0, .int .u32 a0_1, .int .i64 a0_2, .bool a1_0, .slice a1_1 a1_1n a1_1c, .slice a1_2 a1_2n a1_2c, .int .i64 a2_0, .int .i64 a3_0]) w := by kernel_rfl
theorem Kc0 (w : World) : (sizeOf 54).run Tryz.prog w = .ok 8 w := rfl
theorem Kov (cb : Nat) (w : World) (hC : Cod w cb) :
  Calls Tryz.prog 18 #[.pointer (some ⟨cb, 0, none⟩)] w fun e w' => ∃ x : {s : Srh // KhX s}, e = .returned (.agg x.1.cells.toArray) /\ Codr (fun w => Cod w cb) cb w (KnQ x.1) w' := by
 refine Kj (I := Pm ⟨w, cb⟩ (.abs cb (fun w => Cod w cb) :: K3 cb w)) Tryz.func18 rfl rfl rfl ?_ (Pm.codes hC (Kcb hC) (Kcp cb));refine zSG ?_;refine TL.al KjT fun g2 => ?_;refine zET (zSG (TL.mv ?_));refine TL.prowS (e := 3) (size := 1) (cs := Kb (ic .i64) [3, 5, 20, 50]) rfl rfl rfl rfl rfl (fun w => Kuc _ _ _ _ w) (by decide) rfl (fun g7 => ?_);refine TL.pC (k := 2) _ _ rfl o27 rfl (fun w1 hw hC1 => KhJ cb w1 hC1 g7 4 ([3, 5, 20, 50]) (hw.neq (i := 0) (j := 2) rfl rfl (by decide) g7 rfl <| congrArg some ·.symm) (Pc.lt (hw.at_ (k := 0) rfl) g7 rfl).2 (by show 0 < ([3, 5, 20, 50] : List Int).length; simp) (fun i v hi => Kf1 hw (q := 0) rfl hi)) ?_;rintro ⟨al, hal⟩;dsimp only [lC, lN];have halb : al = 3 \/ al = 5 \/ al = 20 \/ al = 50 := by simpa using hal
 refine TL.pM _ _ rfl o26 (fun w1 hw => Kk7 1 al w1 (by decide) (by omega)) ?_;rintro ⟨⟨⟨⟨An_, cn_⟩, n_⟩, ⟨⟨Ad_, cd_⟩, d_⟩⟩, hR, ⟨hn_c, hn_m⟩, hd_c, hd_m⟩;dsimp only [lC, lN];dsimp only at hR hn_c hn_m hd_c hd_m ⊢;refine TL.rn 3 rfl ?_;refine TL.al KcJ fun g3 => ?_;refine TL.ps 0 KaM ?_;refine TL.as_ ?_;refine zET (zS (TC.hd 14 (Pm ⟨w, cb⟩ [.blk g3 52 [.bool false, .slice An_ n_.length cn_, .slice Ad_ d_.length cd_]]) (fun w1 hw => hw.pk [0]) fun jS => ?_));refine TH.t 0 rfl (KA rfl rfl) jS ?_;refine TH.t 2 rfl (KA rfl rfl) jS ?_;refine TH.t 5 rfl (gV 0 (.agg #[.bool false, .slice An_ n_.length cn_, .slice Ad_ d_.length cd_]) KbR KaM) jS ?_;refine TH.t 6 rfl (KA rfl rfl) jS ?_;refine TH.t 9 rfl (KA rfl rfl) jS ?_;refine TH.o 1 ?_;refine TL.nx 5 rfl rfl fun x0 hx01 hx02 => ?_;refine zE ?_;refine TX.held (fun w1 hw => hw.pk [0]) ?_;refine TH.o 3 ?_;refine TL.pC (k := 5) _ _ rfl o51 rfl (fun w1 hw hC1 => Ktg cb w1 hC1) ?_;rintro ⟨pp, hpp⟩;dsimp only [lC, lN];refine zE ?_;refine TX.he (fun w1 hw => hw.pk [0]) fun hS => ?_;refine TH.t 4 rfl (Ks (v := .agg #[.int .i64 ((x0 : Nat) : Int), .int .u32 167774464, .int .i64 pp]) rfl rfl (fun w => Klq _ _ _ w)) hS ?_;refine TH.o 7 ?_;refine TL.nx 5 rfl rfl fun x1 hx11 hx12 => ?_;refine zE ?_;refine TX.he (fun w1 hw => hw.pk [0]) fun hS => ?_;refine TH.t 8 rfl (gD ((1 + x1 : Nat) : Int)) hS ?_;refine TH.o 10 ?_;refine TL.nx 5 rfl rfl fun x2 hx21 hx22 => ?_;refine zE ?_;refine TX.he (fun w1 hw => hw.pk [0]) fun hS => ?_;refine TH.t 11 rfl (gD ((1 + x2 : Nat) : Int)) hS ?_;refine TH.t 12 rfl (Ks (v := .agg #[.int .i64 ((x0 : Nat) : Int), .int .u32 167774464, .int .i64 pp, .bool false, .slice An_ n_.length cn_, .slice Ad_ d_.length cd_, .int .i64 ((1 + x1 : Nat) : Int), .int .i64 ((1 + x2 : Nat) : Int)]) rfl rfl (fun w => Klz _ _ _ _ _ _ _ _ _ _ _ _ w)) hS ?_;refine TH.o 13 ?_;refine TL.ps 4 Kc0 ?_;refine zE ?_;refine TX.held (fun w1 hw => hw.pk [0]) ?_;refine TH.done (by kernel_rfl) ?_;refine zT (zr ?_);exact KbF (k := 4) Tryz.results18 rfl rfl Tryz.underlying54 rfl rfl (fun w1 hw => ⟨⟨⟨⟨((x0 : Nat) : Int), 167774464, pp⟩, ⟨An_, cn_, n_⟩, ⟨Ad_, cd_, d_⟩, ((1 + x1 : Nat) : Int), ((1 + x2 : Nat) : Int)⟩, Kqo (by omega) hpp (by omega) hR (by omega) (by omega)⟩, rfl, Pm.codr [_, _] (hw.sel (.cons _ (.cons_cons _ (.cons_cons _ (.cons _ (.cons _ (.cons_cons _ (List.Sublist.refl _)))))))) rfl⟩)
set_option maxRecDepth 20000
def Kbq (o : Orc) (f t : Nat) : Option (Int × Int) := match o.ps.l[f % o.ps.l.length]? with
 | none => none
 | some p => if p.l.length < t then some (o.dst, 3) else match p.l[t - 1]? with
  | none => none
  | some a => if a = 0 then none else some (a, 1)
def mkR (s : Srh) (n f t : Int) : Option (Int × Int) -> Rs
 | none => ⟨s.tr.v, 0, n, 1000 * n, s.tr.dst, s.tr.proto, f, t, false, false, 1000 * n + 10 * t, 0, 0, 0, 0, 0, 0⟩
 | some (a, k) => ⟨s.tr.v, 0, n, 1000 * n, s.tr.dst, s.tr.proto, f, t, true, false, 1000 * n + 10 * t, a, k, 0, 64, 0, 0⟩
def KO (s : Srh) (o : Orc) (n f t : Nat) : Rs := mkR s n f t (Kbq o f t)
theorem Krt {o : Orc} {f t : Nat} {p : Sg Int} (h : o.ps.l[f % o.ps.l.length]? = some p) (ht : p.l.length < t) : Kbq o f t = some (o.dst, 3) := by
 unfold Kbq; rw [h]; exact if_pos ht
theorem KtI {o : Orc} {f t : Nat} {p : Sg Int} {a : Int} (h : o.ps.l[f % o.ps.l.length]? = some p) (ht : ¬ p.l.length < t) (hx : p.l[t - 1]? = some a) (ha : a = 0) : Kbq o f t = none := by
 unfold Kbq; rw [h]; dsimp only; rw [if_neg ht, hx]; exact if_pos ha
theorem KoB {o : Orc} {f t : Nat} {p : Sg Int} {a b : Int} (h : o.ps.l[f % o.ps.l.length]? = some p) (ht : ¬ p.l.length < t) (hx : p.l[t - 1]? = some a) (ha : ¬ a = 0) (hy : p.l[t - 1]? = some b) : Kbq o f t = some (b, 1) := by
 have e : a = b := by rw [hx] at hy; injection hy
 subst e;unfold Kbq; rw [h]; dsimp only; rw [if_neg ht, hx]; exact if_neg ha
theorem KkN (w : World) : (zeroValue 76).run Tryz.prog w = .ok (.agg #[.int .i64 0, .int .i64 0, .int .i64 0, .int .i64 0, .int .u32 0, .int .i64 0, .int .i64 0, .int .i64 0, .bool false, .bool false, .int .i64 0, .int .u32 0, .int .i64 0, .int .i64 0, .int .i64 0, .int .i64 0, .int .i64 0]) w := rfl
theorem Khx (g o : Nat) (w : World) : (Instr.fieldAt 54 (.pointer (some ⟨g, o, none⟩)) 0).run Tryz.prog w = .ok (.pointer (some ⟨g, o + 0, none⟩)) w := by kernel_rfl
theorem Ksw (g o : Nat) (w : World) : (Instr.fieldAt 48 (.pointer (some ⟨g, o, none⟩)) 0).run Tryz.prog w = .ok (.pointer (some ⟨g, o + 0, none⟩)) w := by kernel_rfl
theorem KbM (w : World) : (isAgg 3).run Tryz.prog w = .ok false w := rfl
theorem Kqp (g o : Nat) (w : World) : (Instr.fieldAt 48 (.pointer (some ⟨g, o, none⟩)) 1).run Tryz.prog w = .ok (.pointer (some ⟨g, o + 1, none⟩)) w := by kernel_rfl
theorem Kez (w : World) : (isAgg 42).run Tryz.prog w = .ok false w := rfl
theorem Kpp (g o : Nat) (w : World) : (Instr.fieldAt 48 (.pointer (some ⟨g, o, none⟩)) 2).run Tryz.prog w = .ok (.pointer (some ⟨g, o + 2, none⟩)) w := by kernel_rfl
theorem Kli (g o : Nat) (w : World) : (Instr.fieldAt 82 (.pointer (some ⟨g, o, none⟩)) 0).run Tryz.prog w = .ok (.pointer (some ⟨g, o + 0, none⟩)) w := by kernel_rfl
theorem KdQ (g o : Nat) (w : World) : (Instr.fieldAt 82 (.pointer (some ⟨g, o, none⟩)) 1).run Tryz.prog w = .ok (.pointer (some ⟨g, o + 1, none⟩)) w := by kernel_rfl
theorem KoR (a0_0 : Int) (a2_0 : Int) (a3_0 : Int) (a4_0 : Int) (a5_0 : Int) (a6_0 : Int) (a7_0 : Int) (a10_0 : Int) (w : World) : (Instr.build 76 #[(0, .int .i64 a0_0), (2, .int .i64 a2_0), (3, .int .i64 a3_0), (4, .int .u32 a4_0), (5, .int .i64 a5_0), (6, .int .i64 a6_0), (7, .int .i64 a7_0), (10, .int .i64 a10_0)]).run Tryz.prog w = .ok (.agg #[.int .i64 a0_0, .int .i64 0, .int .i64 a2_0, .int .i64 a3_0, .int .u32 a4_0, .int .i64 a5_0, .int .i64 a6_0, .int .i64 a7_0, .bool false, .bool false, .int .i64 a10_0, .int .u32 0, .int .i64 0, .int .i64 0, .int .i64 0, .int .i64 0, .int .i64 0]) w := by kernel_rfl
theorem Kcy (w : World) : (sizeOf 76).run Tryz.prog w = .ok 17 w := rfl
theorem KmR (g o : Nat) (w : World) : (Instr.fieldAt 58 (.pointer (some ⟨g, o, none⟩)) 1).run Tryz.prog w = .ok (.pointer (some ⟨g, o + 1, none⟩)) w := by kernel_rfl
theorem Kip (w : World) : (isAgg 56).run Tryz.prog w = .ok false w := rfl
theorem Koj (w : World) : (sizeOf 70).run Tryz.prog w = .ok 1 w := rfl
theorem Ksj (w : World) : (isAgg 70).run Tryz.prog w = .ok false w := rfl
theorem Kns (g o : Nat) (w : World) : (Instr.fieldAt 58 (.pointer (some ⟨g, o, none⟩)) 0).run Tryz.prog w = .ok (.pointer (some ⟨g, o + 0, none⟩)) w := by kernel_rfl
theorem KlV (a0_0 : Int) (a1_0 : Int) (a3_0 : Int) (w : World) : (Instr.build 74 #[(0, .int .u32 a0_0), (1, .int .i64 a1_0), (3, .int .i64 a3_0)]).run Tryz.prog w = .ok (.agg #[.int .u32 a0_0, .int .i64 a1_0, .int .i64 0, .int .i64 a3_0, .int .i64 0, .int .i64 0]) w := by kernel_rfl
theorem Kjf (g o : Nat) (w : World) : (Instr.fieldAt 76 (.pointer (some ⟨g, o, none⟩)) 8).run Tryz.prog w = .ok (.pointer (some ⟨g, o + 8, none⟩)) w := by kernel_rfl
theorem Kj3 (w : World) : (sizeOf 4).run Tryz.prog w = .ok 1 w := rfl
theorem KlG (g o : Nat) (w : World) : (Instr.fieldAt 76 (.pointer (some ⟨g, o, none⟩)) 11).run Tryz.prog w = .ok (.pointer (some ⟨g, o + 11, none⟩)) w := by kernel_rfl
theorem KiN (w : World) : (sizeOf 74).run Tryz.prog w = .ok 6 w := rfl
theorem Kga (w : World) : (isAgg 76).run Tryz.prog w = .ok true w := rfl
theorem Klr (w : World) : (sizeOf 42).run Tryz.prog w = .ok 1 w := rfl
theorem Kp5 (s : Srh) (o : Orc) (n f t : Nat) (w : World) (hor : Kb9 w w.heap.size o) (ho : OrcOk o) (hn : n <= 100000) (ht : 1 <= t /\ t <= 255) :
  Calls Tryz.prog 54 #[.agg s.cells.toArray, .agg o.cells.toArray, .int .i64 ((n : Nat) : Int), .agg #[.int .i64 ((f : Nat) : Int), .int .i64 ((t : Nat) : Int)]] w fun e w' => e = .returned (.agg (KO s o n f t).cells.toArray) /\ Below w.heap.size w w' := by
 refine Kj Tryz.func54 rfl rfl rfl ?_ (Pm.start w);refine zSG ?_;refine TL.bx fun g4 => ?_;refine TL.bx fun g5 => ?_;refine TL.bx fun g7 => ?_;refine TL.al KkN fun g8 => ?_;refine zET (zSG (TL.mv ?_));refine TL.w rfl (Ke rfl rfl rfl (fun w => Kb2 (r := 1000 * ((n : Nat) : Int)) (by simp only [IntKind.wrap_i64]; omega) w)) ?_;refine TL.as_ ?_;refine zET (zSG (TL.v (gF Khx) ?_));refine TL.v (gF Ksw) ?_;refine TL.v (gL 3 KbM) ?_;refine TL.rn 2 rfl (TL.v (gF Khx) ?_);refine TL.v (gF Kqp) ?_;refine TL.v (gL 3 Kez) ?_;refine TL.v (gF Khx) ?_;refine TL.v (gF Kpp) ?_;refine TL.v (gL 3 KbM) ?_;refine TL.v (gF Kli) ?_;refine TL.v (gL 1 KbM) ?_;refine TL.v (gF KdQ) ?_;refine TL.v (gL 1 KbM) ?_;refine TL.mv ?_;refine TL.v (gF KdQ) ?_;refine TL.v (gL 1 KbM) ?_;refine TL.w rfl (Ke rfl rfl rfl (fun w => Kb2 (r := 10 * ((t : Nat) : Int)) (by simp only [IntKind.wrap_i64]; omega) w)) ?_;refine TL.v (gD (1000 * ((n : Nat) : Int) + 10 * ((t : Nat) : Int))) ?_;refine TL.w rfl (Ks (v := .agg #[.int .i64 s.tr.v, .int .i64 0, .int .i64 ((n : Nat) : Int), .int .i64 (1000 * ((n : Nat) : Int)), .int .u32 s.tr.dst, .int .i64 s.tr.proto, .int .i64 ((f : Nat) : Int), .int .i64 ((t : Nat) : Int), .bool false, .bool false, .int .i64 (1000 * ((n : Nat) : Int) + 10 * ((t : Nat) : Int)), .int .u32 0, .int .i64 0, .int .i64 0, .int .i64 0, .int .i64 0, .int .i64 0]) rfl rfl (fun w => KoR _ _ _ _ _ _ _ _ w)) ?_;refine TL.al KkN fun g10 => ?_;refine TL.ps 0 Kcy ?_;refine zET (zS ?_);have hml : f % o.ps.l.length < o.ps.l.length := Nat.mod_lt _ (by have := ho.num; omega);refine TC.quietQ (by kernel_rfl) (by kernel_rfl) (fun w hw => hw.drawn _) ?_;refine TQ.v (gF KmR) ?_;refine TQ.v (gL 3 Kip) ?_;refine TQ.v (gF Kli) ?_;refine TQ.v (gL 2 KbM) ?_;refine TQ.v (gF KmR) ?_;refine TQ.v (gL 3 Kip) ?_;refine TQ.v (gN Tryz.underlying56) ?_;refine TQ.w rfl (Ke (v := .int .i64 (((f % o.ps.l.length : Nat)) : Int)) rfl rfl rfl (fun w => by rw [KjA (by omega) (by have := ho.num; omega) w]; rfl)) ?_;have hi43 : f % o.ps.l.length < o.ps.l.length := by omega
 obtain ⟨x43, hx43⟩ := Kq hi43;obtain ⟨b43, o43, hA43, hbb43, hc43⟩ := hor.1.ad (by omega) (by decide);refine TQ.w rfl (gA (i := (f % o.ps.l.length)) Tryz.underlying56 Koj rfl rfl rfl rfl hA43 (by omega)) ?_;refine TQ.v (gS 0 KhB Ksj hbb43 hx43 hc43) ?_;refine TQ.w rfl (KZ rfl rfl) ?_;refine TQ.fin ?_;refine zT (zS (zB (zS ?_)));have hol := ho.len x43 (List.mem_of_getElem? hx43);refine zG (TL.v (gF KdQ) ?_);refine TL.v (gL 2 KbM) ?_;refine TL.mv ?_;refine TL.v (gN Tryz.underlying70) ?_;refine TL.sp KB (fun q50 => ?_) (fun q50 => ?_)
 ·refine TL.as_ ?_;refine zET (zc (TC.hd 7 (Pm w [.blk g5 58 o.cells]) (fun w1 hw => hw.pk [3]) fun jS => ?_));refine TH.t 0 rfl (gF Kns) jS ?_;refine TH.t 1 rfl (gL 0 Kez) jS ?_;refine TH.t 2 rfl (Ks (v := .agg #[.int .u32 o.dst, .int .i64 3, .int .i64 0, .int .i64 64, .int .i64 0, .int .i64 0]) rfl rfl (fun w => KlV _ _ _ w)) jS ?_;refine TH.t 3 rfl (gF Kjf) jS ?_;refine TH.o 4 ?_;refine TL.ps 0 Kj3 ?_;refine zE ?_;refine TX.he (fun w1 hw => hw.pk [3]) fun hS => ?_;refine TH.t 5 rfl (gF KlG) hS ?_;refine TH.o 6 ?_;refine TL.ps 0 KiN ?_;refine zE ?_;refine TX.held (fun w1 hw => hw.pk [3]) ?_;refine TH.done (by kernel_rfl) ?_;refine zN (zT (zSG (TL.v (gV 0 (.agg #[.int .i64 s.tr.v, .int .i64 0, .int .i64 ((n : Nat) : Int), .int .i64 (1000 * ((n : Nat) : Int)), .int .u32 s.tr.dst, .int .i64 s.tr.proto, .int .i64 ((f : Nat) : Int), .int .i64 ((t : Nat) : Int), .bool true, .bool false, .int .i64 (1000 * ((n : Nat) : Int) + 10 * ((t : Nat) : Int)), .int .u32 o.dst, .int .i64 3, .int .i64 0, .int .i64 64, .int .i64 0, .int .i64 0]) Kga Kcy) ?_)));refine TL.ps 1 Kcy ?_;refine zET (zr ?_);have hE := Krt (t := t) hx43 (by omega);exact KbF (k := 1) Tryz.results54 rfl rfl Tryz.underlying76 rfl rfl (fun w1 hw => ⟨by unfold KO; rw [hE]; rfl, hw.bel⟩)
 refine TL.as_ ?_;refine zET (zd (zSG (TL.mv ?_)));refine TL.v (gF KdQ) ?_;refine TL.v (gL 2 KbM) ?_;refine TL.w rfl (Ke rfl rfl rfl (fun w => Ky (r := ((t - 1 : Nat) : Int)) (by simp only [IntKind.wrap_i64]; omega) w)) ?_;have hi61 : t - 1 < x43.l.length := by omega
 obtain ⟨x61, hx61⟩ := Kq hi61;obtain ⟨b61, o61, hA61, hbb61, hc61⟩ := (hor.2 x43 (List.mem_of_getElem? hx43)).ad (by omega) (by decide);refine TL.w rfl (gA (i := (t - 1)) Tryz.underlying70 Klr rfl rfl rfl rfl hA61 (by omega)) ?_;refine TL.w rfl (Kw (v := .int .u32 x61) rfl rfl Kez (fun w1 hw => (hw.bel.cell hbb61).trans <| KL (Km .u32) hx61 hc61 0 _ rfl)) ?_;refine TL.sp Kap (fun q63 => ?_) (fun q63 => ?_)
 ·refine TL.as_ ?_;refine zET (zc (TC.hd 11 (Pm w [.blk g7 82 [.int .i64 ((f : Nat) : Int), .int .i64 ((t : Nat) : Int)]]) (fun w1 hw => hw.pk [2]) fun jS => ?_));refine TH.t 0 rfl (KA rfl rfl) jS ?_;refine TH.t 1 rfl (gF KdQ) jS ?_;refine TH.t 2 rfl (gL 0 KbM) jS ?_;refine TH.t 3 rfl (Ke rfl rfl rfl (fun w => Ky (r := ((t - 1 : Nat) : Int)) (by simp only [IntKind.wrap_i64]; omega) w)) jS ?_;refine TH.t 4 rfl (gA (i := (t - 1)) Tryz.underlying70 Klr rfl rfl rfl rfl hA61 (by omega)) jS ?_;refine TH.t 5 rfl (Kw (v := .int .u32 x61) rfl rfl Kez (fun w1 hw => (hw.bel.cell hbb61).trans <| KL (Km .u32) hx61 hc61 0 _ rfl)) jS ?_;refine TH.t 6 rfl (Ks (v := .agg #[.int .u32 x61, .int .i64 1, .int .i64 0, .int .i64 64, .int .i64 0, .int .i64 0]) rfl rfl (fun w => KlV _ _ _ w)) jS ?_;refine TH.t 7 rfl (gF Kjf) jS ?_;refine TH.o 8 ?_;refine TL.ps 0 Kj3 ?_;refine zE ?_;refine TX.he (fun w1 hw => hw.pk [2]) fun hS => ?_;refine TH.t 9 rfl (gF KlG) hS ?_;refine TH.o 10 ?_;refine TL.ps 0 KiN ?_;refine zE ?_;refine TX.held (fun w1 hw => hw.pk [2]) ?_;refine TH.done (by kernel_rfl) ?_;refine zN (zT (zSG (TL.v (gV 0 (.agg #[.int .i64 s.tr.v, .int .i64 0, .int .i64 ((n : Nat) : Int), .int .i64 (1000 * ((n : Nat) : Int)), .int .u32 s.tr.dst, .int .i64 s.tr.proto, .int .i64 ((f : Nat) : Int), .int .i64 ((t : Nat) : Int), .bool true, .bool false, .int .i64 (1000 * ((n : Nat) : Int) + 10 * ((t : Nat) : Int)), .int .u32 x61, .int .i64 1, .int .i64 0, .int .i64 64, .int .i64 0, .int .i64 0]) Kga Kcy) ?_)));refine TL.ps 1 Kcy ?_;refine zET (zr ?_);have hE := KoB (t := t) hx43 (by omega) hx61 q63 hx61;exact KbF (k := 1) Tryz.results54 rfl rfl Tryz.underlying76 rfl rfl (fun w1 hw => ⟨by unfold KO; rw [hE]; rfl, hw.bel⟩)
 refine TL.as_ ?_;refine zET (zd (zk (zN (zT (zSG (TL.v (gV 0 (.agg #[.int .i64 s.tr.v, .int .i64 0, .int .i64 ((n : Nat) : Int), .int .i64 (1000 * ((n : Nat) : Int)), .int .u32 s.tr.dst, .int .i64 s.tr.proto, .int .i64 ((f : Nat) : Int), .int .i64 ((t : Nat) : Int), .bool false, .bool false, .int .i64 (1000 * ((n : Nat) : Int) + 10 * ((t : Nat) : Int)), .int .u32 0, .int .i64 0, .int .i64 0, .int .i64 0, .int .i64 0, .int .i64 0]) Kga Kcy) ?_))))));refine TL.ps 1 Kcy ?_;refine zET (zr ?_);have hE := KtI (t := t) hx43 (by omega) hx61 (by omega);exact KbF (k := 1) Tryz.results54 rfl rfl Tryz.underlying76 rfl rfl (fun w1 hw => ⟨by unfold KO; rw [hE]; rfl, hw.bel⟩)
set_option maxRecDepth 20000
structure RunI (s : Srh) (o : Orc) (l : List Rs) : Prop where
  rep : ∀ (n : Nat) (r : Rs), l[n]? = some r -> ∃ f t : Nat, (f : Int) < s.flows /\ 1 <= t /\ (t : Int) <= s.ttl /\ r = KO s o n f t
  dif : l.Pairwise fun a b => KD a ≠ KD b
  len : l.length <= 512
section
variable {s : Srh} {o : Orc} {l : List Rs}
theorem Kjd {f t : Nat} {a k : Int} (ho : OrcOk o) (h : Kbq o f t = some (a, k)) : 1 <= a /\ a <= 4294967295 /\ (k = 1 \/ k = 3) := by
  have hd := ho.dst;unfold Kbq at h;split at h
  · cases h
  · rename_i p hp;split at h
    · injection h with h
      injection h with h1 h2
      omega
    · split at h
      · cases h
      · rename_i b hb;split at h
        · cases h
        · injection h with h
          injection h with h1 h2
          have := ho.adr p (List.mem_of_getElem? hp) b (List.mem_of_getElem? hb);omega
theorem Kde {n f t : Nat} : KD (KO s o n f t) = ⟨f, t⟩ := by
  unfold KO mkR KD;split <;> rfl
theorem KrY {n f t : Nat} : Kt (KO s o n f t) = s.tr := by
  unfold KO mkR Kt;split <;> rfl
theorem Kpw {n f t : Nat} (ho : OrcOk o) (hd : s.tr.dst = o.dst) : (KO s o n f t).Ok := by
  have h0 := ho.dst;unfold KO;rcases h : Kbq o f t with _ | ⟨a, k⟩
  · unfold mkR Rs.Ok; dsimp only; omega
  · have := Kjd ho h;unfold mkR Rs.Ok; dsimp only; omega
theorem Kpz (hs : SrhOk s) : 0 <= s.tr.v /\ s.tr.v <= 15 /\ (s.tr.proto = 1 \/ s.tr.proto = 6 \/ s.tr.proto = 17) /\ s.tr.dst ≠ 0 := by
  have h := hs.vt;unfold KC at h;simp only [Bool.and_eq_true, decide_eq_true_eq] at h;obtain ⟨⟨h1, h2⟩, _⟩ := h;unfold K7 at h1;split at h1
  · cases h1
  · rename_i hr;have hr' := Decidable.not_not.1 hr;split at h1
    · cases h1
    · rename_i hp;unfold Rs.inRange KaL at hr';unfold KaL at hp h2;dsimp only at hr' hp h2;refine ⟨by omega, by omega, Decidable.not_not.1 hp, h2⟩
theorem Ktq {n f t : Nat} (hs : SrhOk s) (ho : OrcOk o) (hn : n <= 999) (hf : (f : Int) < s.flows) (h1 : 1 <= t) (ht : (t : Int) <= s.ttl) : KC (KO s o n f t) = true := by
  obtain ⟨a1, a2, a3, a4⟩ := Kpz hs;have a5 := hs.flows;have a6 := hs.ttl;unfold KO;rcases h : Kbq o f t with _ | ⟨a, k⟩
  · have hc : K7 (mkR s n f t none) = 0 := by
      unfold K7;rw [if_neg (Decidable.not_not.2 (by unfold mkR Rs.inRange; dsimp only; omega)), if_neg (show ¬ ¬ ((mkR s n f t none).proto = 1 \/ (mkR s n f t none).proto = 6 \/ (mkR s n f t none).proto = 17) from Decidable.not_not.2 a3), if_neg (by unfold mkR Rs.noAns; simp), if_neg (by unfold mkR; simp)]
    unfold KC;rw [hc];simp [mkR, a4]
  · have hk := Kjd ho h
    have hc : K7 (mkR s n f t (some (a, k))) = 0 := by
      unfold K7;rw [if_neg (Decidable.not_not.2 (by unfold mkR Rs.inRange; dsimp only; omega)), if_neg (show ¬ ¬ ((mkR s n f t (some (a, k))).proto = 1 \/ (mkR s n f t (some (a, k))).proto = 6 \/ (mkR s n f t (some (a, k))).proto = 17) from Decidable.not_not.2 a3), if_neg (by unfold mkR; simp), if_neg (fun h9 => h9.2 (by unfold mkR Rs.ansOk; dsimp only; omega))]
    unfold KC;rw [hc];have : a ≠ 0 := by omega
    simp [mkR, a4, this]
theorem RunI.mem (h : RunI s o l) {r : Rs} (hr : r ∈ l) : ∃ n f t : Nat, n < l.length /\ (f : Int) < s.flows /\ 1 <= t /\ (t : Int) <= s.ttl /\ r = KO s o n f t := by
  obtain ⟨n, hn⟩ := List.getElem?_of_mem hr;obtain ⟨f, t, h1⟩ := h.rep n r hn;exact ⟨n, f, t, (List.getElem?_eq_some_iff.1 hn).1, h1⟩
theorem RunI.ok (h : RunI s o l) (ho : OrcOk o) (hd : s.tr.dst = o.dst) : ∀ r ∈ l, r.Ok := fun r hr => by
  obtain ⟨n, f, t, _, _, _, _, rfl⟩ := h.mem hr;exact Kpw ho hd
theorem RunI.vld (h : RunI s o l) (hs : SrhOk s) (ho : OrcOk o) : ∀ r ∈ l, KC r = true := fun r hr => by
  obtain ⟨n, f, t, h0, h1, h2, h3, rfl⟩ := h.mem hr;have := h.len;exact Ktq hs ho (by omega) h1 h2 h3
theorem RunI.tr (h : RunI s o l) : ∀ r ∈ l, Kt r = s.tr := fun r hr => by
  obtain ⟨n, f, t, _, _, _, _, rfl⟩ := h.mem hr;exact KrY
theorem RunI.head (h : RunI s o l) (hne : l ≠ []) : Kt (l.headD Rs.zero) = s.tr := by
  cases l with
  | nil => exact absurd rfl hne
  | cons x l => exact h.tr x List.mem_cons_self
theorem RunI.spot_uniq (h : RunI s o l) {x y : Rs} (hx : x ∈ l) (hy : y ∈ l) (e : KD x = KD y) : x = y := by
  have h1 := h.dif;clear h
  induction l with
  | nil => cases hx
  | cons z l ih =>
    rw [List.pairwise_cons] at h1;rcases List.mem_cons.1 hx with rfl | hx'
    · rcases List.mem_cons.1 hy with rfl | hy'
      · rfl
      · exact absurd e (h1.1 y hy')
    · rcases List.mem_cons.1 hy with rfl | hy'
      · exact absurd e.symm (h1.1 x hx')
      · exact ih hx' hy' h1.2
theorem RunI.st3 (h : RunI s o l) (p : Spot) : (Kh l).2 p ≠ some 3 := fun h3 => by
  have e : (vwS (Kf l) l p).2 = 3 := by rw [<- KcI, h3]; rfl
  rcases Key (Kf l) l p with ⟨e1, _⟩ | ⟨e1, _⟩ | ⟨a, e1, _⟩ | ⟨e1, x, hx, y, hy, hx2, hy2, hne⟩
  · rw [e1] at e; revert e; decide
  · rw [e1] at e; revert e; decide
  · rw [e1] at e; exact absurd (show (2 : Int) = 3 from e) (by decide)
  · have hx3 := List.mem_filter.1 hx;have hy3 := List.mem_filter.1 hy;unfold KbC at hx3 hy3;simp only [Bool.and_eq_true, decide_eq_true_eq] at hx3 hy3;exact hne (by rw [h.spot_uniq hx3.1 hy3.1 (hx3.2.2.trans hy3.2.2.symm)])
theorem RunI.err (h : RunI s o l) (hs : SrhOk s) (ho : OrcOk o) {e : Int} (he : KbV l (Kh l).2 e) : e = 0 := by
  have hv : (l.any fun r => !KC r) = false := List.any_eq_false.2 fun r hr => by rw [h.vld hs ho r hr]; decide
  have hl := h.len;rcases he with ⟨_, h1⟩ | ⟨_, q, hq, ⟨_, h2⟩ | ⟨_, tr, htr, ⟨_, h3⟩ | ⟨_, ⟨_, p, h4⟩ | ⟨h5, _⟩⟩⟩⟩
  · rw [hv] at h1; cases h1
  · have := hq.le; omega
  · exfalso;have h6 := htr.1
    match tr, h3, h6, htr.2 with
    | a :: b :: tr, _, h6, h7 =>
      obtain ⟨r, hr, _, e1⟩ := (h7 a).1 List.mem_cons_self;obtain ⟨r', hr', _, e2⟩ := (h7 b).1 (List.mem_cons_of_mem _ List.mem_cons_self);rw [h.tr r hr] at e1;rw [h.tr r' hr'] at e2;subst e1 e2;exact Kbz (key := trk) _ ((List.pairwise_cons.1 h6).1 _ List.mem_cons_self)
  · exact absurd h4 (h.st3 p)
  · exact h5
theorem RunI.build (h : RunI s o l) (hs : SrhOk s) (ho : OrcOk o) (m : Mp) (e : Int) (hb : Kbo l m e) : e = 0 := h.err hs ho hb.1
theorem RunI.k_none (h : RunI s o l) (hs : SrhOk s) (ho : OrcOk o) (p : Spot) : kOf l p = none ↔ ∀ r ∈ l, KD r = p -> Kf l > 0 /\ p.ttl > Kf l := by
  have key : (vwS (Kf l) l p).2 = 0 ↔ ∀ r ∈ l, KD r = p -> Kf l > 0 /\ p.ttl > Kf l := by
    constructor
    · intro h0 r hr e
      have hno : l.filter (KbC (Kf l) p) = [] := by
        rcases Key (Kf l) l p with ⟨_, e1⟩ | ⟨e1, _⟩ | ⟨a, e1, _⟩ | ⟨e1, _⟩
        · exact e1
        · rw [e1] at h0; cases h0
        · rw [e1] at h0; cases h0
        · rw [e1] at h0; cases h0
      have h1 := List.filter_eq_nil_iff.1 hno r hr
      have hu : KaT r = true := by
        obtain ⟨n, f, t, _, _, _, _, e9⟩ := h.mem hr;unfold KaT;rw [h.vld hs ho r hr, e9];unfold KO mkR;split <;> rfl
      unfold KbC KT at h1;rw [hu, decide_eq_true e] at h1;have e2 : r.ttl = p.ttl := congrArg Spot.ttl e;rw [<- e2];simp only [Bool.true_and, Bool.and_true, Bool.not_eq_true, Bool.not_eq_false', Bool.and_eq_true, decide_eq_true_eq] at h1;exact h1
    · intro h1;refine Decidable.by_contra fun h2 => ?_;obtain ⟨r, hr, hu, e⟩ := KbZ h2;obtain ⟨h3, h4⟩ := h1 r hr e;have e2 : r.ttl = p.ttl := congrArg Spot.ttl e;unfold KT at hu;rw [decide_eq_true h3, e2, decide_eq_true h4] at hu;simp at hu
  unfold kOf;split
  · rename_i h1;exact ⟨fun h2 => (by cases h2), fun h2 => absurd (key.2 h2) h1⟩
  · rename_i h1;exact ⟨fun _ => key.1 (Decidable.not_not.1 h1), fun _ => rfl⟩
theorem KnF {en : Int} {K : Spot -> Option Int} {t : Int} {fl : List Int} (h : KR s en K t fl = true) : t < s.ttl /\ (en > 0 -> t < en) := by
  unfold KR at h;simp only [Bool.and_eq_true, Bool.not_eq_true', Bool.or_eq_false_iff, Bool.and_eq_false_iff, decide_eq_false_iff_not, ge_iff_le, Int.not_le, gt_iff_lt, Int.not_lt] at h;omega
theorem KtV {en : Int} {K : Spot -> Option Int} {h : Hpx} (ho : KR s en K h.ttl h.fl.l = true) : Kay s en K h ≠ none := by
  unfold Kay;rw [if_pos ho];unfold KR at ho;simp only [Bool.and_eq_true, Bool.or_eq_true, decide_eq_true_eq] at ho;split
  · exact fun e => by cases e
  · split
    · exact fun e => by cases e
    · omega
theorem KnH {K : Spot -> Option Int} {fl : List Int} {t n : Int} (h : 0 <= K4 K fl t n) (hfl : ∀ f ∈ fl, 0 <= f) : K4 K fl t n ∈ fl /\ K4 K fl t n < n /\ K ⟨K4 K fl t n, t⟩ = none := by
  unfold K4 at h ⊢
  cases hx : fl.find? (fun f => !(K ⟨f, t⟩).isSome && decide (f < n)) with
  | none => rw [hx] at h; exact absurd h (by decide)
  | some f =>
    have h1 := List.find?_some hx;have h2 := List.mem_of_find?_eq_some hx;simp only [Bool.and_eq_true, Bool.not_eq_true', decide_eq_true_eq] at h1;exact ⟨h2, h1.2, Kif h1.1⟩
theorem Ksl {K : Spot -> Option Int} {n : Nat} {t : Int} (h : 0 <= Kaf K n t) : Kaf K n t < n /\ K ⟨Kaf K n t, t⟩ = none := by
  unfold Kaf at h ⊢
  cases hx : (List.range n).find? (fun f => !(K ⟨((f : Nat) : Int), t⟩).isSome) with
  | none => rw [hx] at h; exact absurd h (by decide)
  | some f =>
    have h1 := List.find?_some hx;have h2 := List.mem_range.1 (List.mem_of_find?_eq_some hx);dsimp only;rw [Bool.not_eq_true'] at h1;exact ⟨by omega, Kif h1⟩
theorem RunI.next (h : RunI s o l) (hs : SrhOk s) (ho : OrcOk o) {hs' : List Hpx} (hE : ExH s l hs') (hb : (nxF s (Kf l) (kOf l) hs').2.2 = true) : ∃ f t : Nat, nxF s (Kf l) (kOf l) hs' = ((f : Int), (t : Int), true) /\ (f : Int) < s.flows /\ 1 <= t /\ (t : Int) <= s.ttl /\ ∀ r ∈ l, KD r ≠ ⟨f, t⟩ := by
  have hfl : ∀ x ∈ hs', 0 <= x.ttl /\ ∀ f ∈ x.fl.l, 0 <= f := by
    obtain ⟨fr, ms, rfl, e1, e2, e3⟩ := hE;intro x hx;rcases List.mem_cons.1 hx with rfl | hx
    · exact ⟨Int.le_refl _, fun f hf => by dsimp only at hf; rw [e1] at hf; exact (Khw.1 hf).1⟩
    · have hne : l ≠ [] := fun e => by rw [e2 e] at hx; cases hx
      obtain ⟨f0, hf0⟩ := List.exists_mem_of_ne_nil _ ((e3 hne).2.1 x hx).2;exact ⟨by have := Kce (e3 hne) hx hf0; omega, fun f hf => (Kce (e3 hne) hx hf).1⟩
  have hz := hs.ttl;have hw := hs.flows;unfold nxF at hb ⊢
  cases hx : hs'.findSome? (Kay s (Kf l) (kOf l)) with
  | none => rw [hx] at hb; cases hb
  | some p =>
    obtain ⟨x, hxm, hp⟩ := List.exists_of_findSome?_eq_some hx;obtain ⟨hx0, hxf⟩ := hfl x hxm;dsimp only;unfold Kay at hp;split at hp
    · rename_i hop;obtain ⟨o1, o2⟩ := KnF hop;split at hp
      · rename_i hu;obtain ⟨u1, u2, u3⟩ := KnH hu hxf
        injection hp with hp
        refine ⟨(K4 (kOf l) x.fl.l (x.ttl + 1) s.flows).toNat, (x.ttl + 1).toNat, ?_, by omega, by omega, by omega, fun r hr e => ?_⟩
        · rw [<- hp, Int.toNat_of_nonneg hu, Int.toNat_of_nonneg (by omega)]
        · rw [Int.toNat_of_nonneg hu, Int.toNat_of_nonneg (by omega)] at e;have := (h.k_none hs ho _).1 u3 r hr e;dsimp only at this;omega
      · split at hp
        · rename_i hu;obtain ⟨u1, u2⟩ := Ksl hu
          injection hp with hp
          refine ⟨(Kaf (kOf l) s.flows.toNat (max x.ttl 1)).toNat, (max x.ttl 1).toNat, ?_, by omega, by omega, by omega, fun r hr e => ?_⟩
          · rw [<- hp, Int.toNat_of_nonneg hu, Int.toNat_of_nonneg (by omega)]
          · rw [Int.toNat_of_nonneg hu, Int.toNat_of_nonneg (by omega)] at e;have := (h.k_none hs ho _).1 u2 r hr e;dsimp only at this;omega
        · cases hp
    · cases hp
theorem RunI.nil : RunI s o [] := ⟨fun n r h => (by cases h), List.Pairwise.nil, Nat.zero_le _⟩
theorem RunI.put (h : RunI s o l) {f t : Nat} (h1 : (f : Int) < s.flows) (h2 : 1 <= t) (h3 : (t : Int) <= s.ttl) (hn : ∀ r ∈ l, KD r ≠ ⟨f, t⟩) (hl : l.length < 512) : RunI s o (l ++ [KO s o l.length f t]) := ⟨fun n r hr => by
  rcases Nat.lt_or_ge n l.length with h4 | h4
  · rw [List.getElem?_append_left h4] at hr;exact h.rep n r hr
  · rw [List.getElem?_append_right h4] at hr
    have hz : n - l.length = 0 := by
      have := (List.getElem?_eq_some_iff.1 hr).1;simp at this;omega
    rw [hz] at hr;have : n = l.length := by omega
    subst this
    injection hr with hr
    exact ⟨f, t, h1, h2, h3, hr.symm⟩,
  List.pairwise_append.2 ⟨h.dif, List.pairwise_singleton .., fun a ha b hb => by
    rw [List.mem_singleton.1 hb, Kde]; exact hn a ha⟩, by rw [List.length_append]; show _ + 1 <= _; omega⟩
theorem RunI.count (h : RunI s o l) (hs : SrhOk s) : l.length <= s.flows.toNat * s.ttl.toNat := by
  have hw := hs.flows;have hz := hs.ttl
  have hn : (l.map fun r => (KD r).flow.toNat * s.ttl.toNat + ((KD r).ttl.toNat - 1)).Nodup := by
    refine List.pairwise_map.2 ((List.Pairwise.and_mem.1 h.dif).imp fun {a b} hab e => ?_);obtain ⟨ha, hb, hne⟩ := hab;obtain ⟨n, f, t, _, h1, h2, h3, rfl⟩ := h.mem ha;obtain ⟨n', f', t', _, h1', h2', h3', rfl⟩ := h.mem hb;rw [Kde, Kde] at e hne;dsimp only at e;refine hne ?_
    have e1 : f = f' := by
      have p1 : (f * s.ttl.toNat + (t - 1)) / s.ttl.toNat = f := by rw [Nat.mul_comm, Nat.mul_add_div (by omega), Nat.div_eq_of_lt (by omega)]; omega
      have p2 : (f' * s.ttl.toNat + (t' - 1)) / s.ttl.toNat = f' := by rw [Nat.mul_comm, Nat.mul_add_div (by omega), Nat.div_eq_of_lt (by omega)]; omega
      have e' : f * s.ttl.toNat + (t - 1) = f' * s.ttl.toNat + (t' - 1) := by simpa using e
      rw [<- p1, <- p2, e']
    subst e1;have e' : f * s.ttl.toNat + (t - 1) = f * s.ttl.toNat + (t' - 1) := by simpa using e
    have : t = t' := by omega
    rw [this]
  have := Kdv (F := List.range (s.flows.toNat * s.ttl.toNat)) hn fun k hk => by
    obtain ⟨r, hr, rfl⟩ := List.mem_map.1 hk;obtain ⟨n, f, t, _, h1, h2, h3, rfl⟩ := h.mem hr;rw [Kde];dsimp only;rw [List.mem_range];have h4 : f + 1 <= s.flows.toNat := by omega
    have h5 := Nat.mul_le_mul_right s.ttl.toNat h4;rw [Nat.add_mul, Nat.one_mul] at h5;simp only [Int.toNat_natCast];omega
  rwa [List.length_map, List.length_range] at this
end
set_option maxRecDepth 20000
inductive RunT (s : Srh) (o : Orc) : List Rs -> Prop where
 | nil : RunT s o []
 | step {l : List Rs} {hs : List Hpx} {f t : Nat} : RunT s o l -> ExH s l hs -> nxF s (Kf l) (kOf l) hs = ((f : Int), (t : Int), true) -> RunT s o (l ++ [KO s o l.length f t])
def KdL (s : Srh) (o : Orc) (l : List Rs) : Prop := RunT s o l /\ RunI s o l /\ ∃ hs qf qt, ExH s l hs /\ nxF s (Kf l) (kOf l) hs = (qf, qt, false)
theorem RunI.put2 {s : Srh} {o : Orc} {l : List Rs} (h : RunI s o l) (hs : SrhOk s) {f t : Nat} (h1 : (f : Int) < s.flows) (h2 : 1 <= t) (h3 : (t : Int) <= s.ttl) (hn : ∀ r ∈ l, KD r ≠ ⟨f, t⟩) : l.length < s.flows.toNat * s.ttl.toNat + 1 := Nat.lt_succ_of_le (h.count hs)
theorem KgY (w : World) : (isAgg 54).run Tryz.prog w = .ok true w := rfl
theorem Kgd (w : World) : (sizeOf 54).run Tryz.prog w = .ok 8 w := rfl
theorem Klp (w : World) : (isAgg 58).run Tryz.prog w = .ok true w := rfl
theorem Kit (w : World) : (sizeOf 58).run Tryz.prog w = .ok 2 w := rfl
theorem KsE (w : World) : (zeroValue 82).run Tryz.prog w = .ok (.agg #[.int .i64 0, .int .i64 0]) w := rfl
theorem KmH (w : World) : (sizeOf 82).run Tryz.prog w = .ok 2 w := rfl
theorem KrC (w : World) : (isAgg 82).run Tryz.prog w = .ok true w := rfl
theorem KpT (a0_0 : Int) (a0_1 : Int) (a0_2 : Int) (a0_3 : Int) (a0_4 : Int) (a0_5 : Int) (a0_6 : Int) (a0_7 : Int) (a0_8 : Bool) (a0_9 : Bool) (a0_10 : Int) (a0_11 : Int) (a0_12 : Int) (a0_13 : Int) (a0_14 : Int) (a0_15 : Int) (a0_16 : Int) (w : World) : (Instr.buildSlice 27 1 #[(0, .agg #[.int .i64 a0_0, .int .i64 a0_1, .int .i64 a0_2, .int .i64 a0_3, .int .u32 a0_4, .int .i64 a0_5, .int .i64 a0_6, .int .i64 a0_7, .bool a0_8, .bool a0_9, .int .i64 a0_10, .int .u32 a0_11, .int .i64 a0_12, .int .i64 a0_13, .int .i64 a0_14, .int .i64 a0_15, .int .i64 a0_16])]).run Tryz.prog w = .ok (.slice (some ⟨w.heap.size, 0, none⟩) 1 1) (w.alloc (.cells [.int .i64 a0_0, .int .i64 a0_1, .int .i64 a0_2, .int .i64 a0_3, .int .u32 a0_4, .int .i64 a0_5, .int .i64 a0_6, .int .i64 a0_7, .bool a0_8, .bool a0_9, .int .i64 a0_10, .int .u32 a0_11, .int .i64 a0_12, .int .i64 a0_13, .int .i64 a0_14, .int .i64 a0_15, .int .i64 a0_16].toArray 76)) := by kernel_rfl
theorem Krf : Elem Tryz.prog 27 76 17 128 := Elem.mk' Tryz.underlying27 (z := .agg #[.int .i64 0, .int .i64 0, .int .i64 0, .int .i64 0, .int .u32 0, .int .i64 0, .int .i64 0, .int .i64 0, .bool false, .bool false, .int .i64 0, .int .u32 0, .int .i64 0, .int .i64 0, .int .i64 0, .int .i64 0, .int .i64 0]) (by kernel_rfl) rfl (by omega) (by omega)
theorem Kna (s : Srh) (o : Orc) (w : World) (hsr : Ka3 w w.heap.size s) (hs : SrhOk s) (hor : Kb9 w w.heap.size o) (ho : OrcOk o) (hdd : s.tr.dst = o.dst) (hft : s.flows.toNat * s.ttl.toNat <= 500) :
  Calls Tryz.prog 20 #[.agg s.cells.toArray, .agg o.cells.toArray] w fun e w' => ∃ x : {y : (Option Addr × Nat) × List Rs // KdL s o y.2 /\ y.2.length <= y.1.2 /\ y.1.2 <= maxLen}, e = .returned (.tuple #[.slice x.1.1.1 x.1.2.length x.1.1.2, .int .i64 0]) /\ Pm w [.row (.slice x.1.1.1 x.1.2.length x.1.1.2) 76 17 x.1.2.length (Kb Rs.cells x.1.2)] w' := by
 refine Kj Tryz.func20 rfl rfl rfl ?_ (Pm.start w);refine zSG ?_;refine TL.bx fun g2 => ?_;refine TL.bx fun g3 => ?_;refine TL.rn 2 rfl (zET (zS (zSG (TL.v (gV 1 (.agg (s.cells).toArray) KgY Kgd) ?_))));refine TL.v (gV 0 (.agg (o.cells).toArray) Klp Kit) ?_;refine TL.p1 rfl o53 (fun w1 hw => KpO s o w1 (hsr.up hw.bel) hs (hor.up hw.bel) ho hdd) ?_;refine TL.w rfl (Kbx rfl rfl) ?_;refine zET (zd (zk (zT (zSG (TL.as_ ?_)))));refine zET (zB (TC.nilrow 76 17 ?_));refine TC.lp (α := {y : (Option Addr × Nat) × List Rs // RunT s o y.2 /\ RunI s o y.2 /\ y.2.length <= y.1.2 /\ y.1.2 <= maxLen}) [2, 3] rfl (fun y => [(6, .slice y.1.1.1 y.1.2.length y.1.1.2)]) (fun y => Pm w [.row (.slice y.1.1.1 y.1.2.length y.1.1.2) 76 17 y.1.2.length (Kb Rs.cells y.1.2), .blk g3 58 o.cells, .blk g2 54 s.cells]) (fun y => 512 - y.1.2.length) (⟨((none, 0), []), .nil, .nil, Nat.le_refl _, Nat.zero_le _⟩) (fun w1 hw => hw) ?_;rintro ⟨⟨⟨Ao, co⟩, l⟩, hT, hI, hoc, hom⟩;dsimp only at hT hI hoc hom ⊢;refine zB (zSG (TL.v (gV 2 (.agg (s.cells).toArray) KgY Kgd) ?_));refine TL.mv ?_;refine TL.pM (α := {y : Int × Int × Bool // ∃ hs, ExH s l hs /\ nxF s (Kf l) (kOf l) hs = y}) (fun x => .tuple #[.agg #[.int .i64 x.1.1, .int .i64 x.1.2.1], .bool x.1.2.2, .int .i64 0]) (fun x => []) rfl o25 (fun w1 hw => (Kjy s Ao co l w1 (Kp hw (k := 0) rfl) (by have := hI.len; omega) (hI.ok ho hdd) (hI.build hs ho) hI.head (hsr.up hw.bel) hs).mono fun e w2 ⟨x, h1, h2⟩ => ⟨⟨_, x.1, x.2, rfl⟩, h1, (Pm.start w1).below h2⟩) ?_;rintro ⟨⟨qf, qt, qb⟩, hq⟩;dsimp only [lC, lN];refine TL.rn 4 rfl ?_;refine TL.al KsE fun g7 => ?_;refine TL.ps 0 KmH ?_;refine TL.rn 2 rfl (zET (zS (zS ?_)))
 cases qb with
 | true =>
  refine zG (TL.mv ?_);refine TL.w rfl (Ke rfl rfl rfl (fun w => KaX rfl w)) ?_;refine TL.rn 4 rfl (zET (zd (zk (zT (zS (zS ?_))))));obtain ⟨hps, hEx, hq2⟩ := hq;obtain ⟨f, t, hq3, hq4, hq5, hq6, hq7⟩ := hI.next hs ho hEx (by rw [hq2]);obtain ⟨rfl, hq8⟩ := Prod.mk.inj (hq2.symm.trans hq3);obtain ⟨rfl, _⟩ := Prod.mk.inj hq8;have hlc : l.length < 512 := by have h9 := hI.put2 hs hq4 hq5 hq6 hq7; omega
  have hIp := hI.put hq4 hq5 hq6 hq7 hlc;have hzs := hs.ttl;refine zG (TL.mv ?_);refine TL.v (gN Tryz.underlying27) ?_;refine TL.sp KG (fun q31 => ?_) (fun q31 => ?_)
  ·exfalso; omega
  refine zET (zd (zk (zT (zG (TL.mv ?_)))));refine TL.v (gV 3 (.agg (s.cells).toArray) KgY Kgd) ?_;refine TL.v (gV 2 (.agg (o.cells).toArray) Klp Kit) ?_;refine TL.mv ?_;refine TL.v (gN Tryz.underlying27) ?_;refine TL.v (gV 0 (.agg #[.int .i64 ((f : Nat) : Int), .int .i64 ((t : Nat) : Int)]) KrC KmH) ?_;refine TL.p1 rfl o54 (fun w1 hw => Kp5 s o l.length f t w1 (hor.up hw.bel) ho (by omega) (by omega)) ?_;refine TL.prowS (e := 76) (size := 17) (cs := Kb Rs.cells [KO s o l.length f t]) rfl rfl rfl rfl rfl (fun w => KpT _ _ _ _ _ _ _ _ _ _ _ _ _ _ _ _ _ w) (by decide) rfl (fun g39 => ?_);refine TL.appendT (k := 2) rfl rfl rfl rfl Tryz.underlying27 Krf rfl rfl rfl (fun w1 hw => K0 hw (k := 0) rfl) (Kx KJ _) (by omega) ((l ++ [KO s o l.length f t]).length) (by rw [List.length_append]; rfl) (Kb Rs.cells (l ++ [KO s o l.length f t])) ((Kz _ _).symm) (fun A40 c40 hA401 hA402 => ?_);refine TL.as_ ?_;refine zE (zN ?_);exact TX.rd (⟨((A40, c40), (l ++ [KO s o l.length f t])), .step hT hEx hq2, hIp, hA401, hA402⟩) (by show 512 - (l ++ [KO s o l.length f t]).length < 512 - l.length; rw [List.length_append]; show 512 - (_ + 1) < _; omega) (fun w1 hw => hw.pk [2, 3, 4])
 | false =>
  refine zG (TL.mv ?_);refine TL.w rfl (Ke rfl rfl rfl (fun w => KaX rfl w)) ?_;refine TL.rn 4 rfl (zET (zc (zSG (TL.rn 4 rfl (zET (zr (zR (zRR (TX.in_ret ?_)))))))));obtain ⟨hps, hEx, hq2⟩ := hq;exact Kad Tryz.results20 rfl rfl (fun w1 hw => ⟨⟨((Ao, co), l), ⟨hT, hI, hps, qf, qt, hEx, hq2⟩, hoc, hom⟩, rfl, hw.pick [1] (by decide) rfl⟩)
set_option maxRecDepth 20000
def whN (s : Srh) (o : Orc) (T m : Nat) : List Rs := (List.range m).map fun k => KO s o k (k / T) (k % T + 1)
set_option maxRecDepth 20000
theorem KjQ {a b : List Int} (ha : a.Pairwise (· < ·)) (hb : b.Pairwise (· < ·)) (h : ∀ x, x ∈ a ↔ x ∈ b) : a = b :=
  Khm ((List.perm_ext_iff_of_nodup (ha.imp Int.ne_of_lt) (hb.imp Int.ne_of_lt)).2 h) (ha.imp Int.le_of_lt) (hb.imp Int.le_of_lt)
section
variable {s : Srh} {o : Orc} {l : List Rs}
theorem KqZ {hs hs' : List Hpx} (h : ExH s l hs) (h' : ExH s l hs') : ∀ x' ∈ hs', ∃ x ∈ hs, x.ttl = x'.ttl /\ x.addr = x'.addr /\ x.fl.l = x'.fl.l := by
  obtain ⟨fr, ms, rfl, e1, e2, e3⟩ := h;obtain ⟨fr', ms', rfl, e1', e2', e3'⟩ := h';intro x' hx';rcases List.mem_cons.1 hx' with rfl | hx'
  · exact ⟨_, List.mem_cons_self, rfl, rfl, by rw [e1, e1']⟩
  · have hne : l ≠ [] := fun e => by rw [e2' e] at hx'; cases hx'
    have g := Kb6 (e3 hne);have g' := Kb6 (e3' hne);obtain ⟨f0, hf0⟩ := List.exists_mem_of_ne_nil _ (g'.2.1 x' hx').2;obtain ⟨x, hx, hk, _⟩ := (g.2.2 (hpk x') f0).2 ((g'.2.2 (hpk x') f0).1 ⟨x', hx', rfl, hf0⟩)
    have hk2 : x.ttl = x'.ttl /\ x.addr = x'.addr := by
      unfold hpk at hk;simp only [List.cons.injEq, and_true] at hk;exact hk
    refine ⟨x, List.mem_cons_of_mem _ hx, hk2.1, hk2.2, KjQ (g.2.1 x hx).1 (g'.2.1 x' hx').1 fun f => ?_⟩;rw [Kbm KbY g hx f, Kbm KbY g' hx' f, hk]
theorem Kod {hs : List Hpx} {a b : Int} (h : nxF s (Kf l) (kOf l) hs = (a, b, false)) : ∀ x ∈ hs, KR s (Kf l) (kOf l) x.ttl x.fl.l = false := fun x hx => by
  unfold nxF at h;split at h
  · cases h
  · rename_i hn;have h1 := List.findSome?_eq_none_iff.1 hn x hx
    cases ho : KR s (Kf l) (kOf l) x.ttl x.fl.l with
    | false => rfl
    | true => exact absurd h1 (KtV ho)
theorem KdL.closed (h : KdL s o l) {hs : List Hpx} (hE : ExH s l hs) : ∀ x ∈ hs, KR s (Kf l) (kOf l) x.ttl x.fl.l = false := fun x hx => by
  obtain ⟨_, _, ps, a, b, h1, h2⟩ := h;obtain ⟨y, hy, e1, _, e2⟩ := KqZ h1 hE x hx;rw [<- e1, <- e2];exact Kod h2 y hy
theorem RunI.range (h : RunI s o l) {r : Rs} (hr : r ∈ l) : 0 <= r.flow /\ r.flow < s.flows /\ 1 <= r.ttl /\ r.ttl <= s.ttl := by
  obtain ⟨n, f, t, _, h1, h2, h3, rfl⟩ := h.mem hr;have e := Kde (s := s) (o := o) (n := n) (f := f) (t := t);have e1 : (KO s o n f t).flow = f := congrArg Spot.flow e;have e2 : (KO s o n f t).ttl = t := congrArg Spot.ttl e;omega
theorem RunI.whole (h : RunI s o l) (hs : SrhOk s) {i : Nat} {x : Rs} (hx : l[i]? = some x) : ∃ (q : Nat) (y : Rs), ((q : Nat) : Int) = x.flow * s.ttl + x.ttl - 1 /\ q < s.ttl.toNat * s.flows.toNat /\ (whN s o s.ttl.toNat (s.ttl.toNat * s.flows.toNat))[q]? = some y /\ { y with num := x.num, at_ := x.at_, back := x.back } = x := by
  obtain ⟨f, t, h1, h2, h3, rfl⟩ := h.rep i x hx;have hz := hs.ttl;have hw := hs.flows;have e := Kde (s := s) (o := o) (n := i) (f := f) (t := t);have e1 : (KO s o i f t).flow = f := congrArg Spot.flow e;have e2 : (KO s o i f t).ttl = t := congrArg Spot.ttl e
  have hlt : s.ttl.toNat * f + (t - 1) < s.ttl.toNat * s.flows.toNat := by
    have := Nat.mul_le_mul_left s.ttl.toNat (show f + 1 <= s.flows.toNat by omega);rw [Nat.mul_add, Nat.mul_one] at this;omega
  refine ⟨s.ttl.toNat * f + (t - 1), KO s o (s.ttl.toNat * f + (t - 1)) f t, ?_, hlt, ?_, ?_⟩
  · rw [e1, e2];have : ((s.ttl.toNat * f : Nat) : Int) = (f : Int) * s.ttl := by rw [Int.natCast_mul, Int.toNat_of_nonneg (by omega), Int.mul_comm]
    omega
  · unfold whN;rw [List.getElem?_map, List.getElem?_range hlt];have p1 : (s.ttl.toNat * f + (t - 1)) / s.ttl.toNat = f := by rw [Nat.mul_add_div (by omega), Nat.div_eq_of_lt (by omega)]; rfl
    have p2 : (s.ttl.toNat * f + (t - 1)) % s.ttl.toNat = t - 1 := by rw [Nat.mul_add_mod, Nat.mod_eq_of_lt (by omega)]
    rw [Option.map_some, p1, p2, show t - 1 + 1 = t by omega]
  · unfold KO mkR;split <;> rfl
end
set_option maxRecDepth 20000
def Ksc : Srh := ⟨⟨0, 9, 17⟩, ⟨none, 0, [1]⟩, ⟨none, 0, [20]⟩, 3, 20⟩
def awR (k : Nat) : Rs := ⟨0, 0, (k : Int), 1000 * (k : Int), 9, 17, ((k % 6 : Nat) : Int), ((k / 6 + 1 : Nat) : Int), true, false, 1000 * (k : Int) + 10 * ((k / 6 + 1 : Nat) : Int), if k / 6 = 0 then 1 else if k / 6 = 1 then 2 else 9, if k / 6 = 2 then 3 else 1, 0, 64, 0, 0⟩
def KaQ (m : Nat) : List Rs := (List.range m).map awR
def awM (m : Nat) : List Hpx := ([0, 1, 2].map fun (j : Nat) => (⟨((j + 1 : Nat) : Int), if j = 0 then 1 else if j = 1 then 2 else 9, ⟨none, 0, Kc (min (m - 6 * j) 6)⟩⟩ : Hpx)).filter fun h => !h.fl.l.isEmpty
def awH (m : Nat) : List Hpx := ⟨0, 0, ⟨none, 0, Kc 20⟩⟩ :: awM m
def awX (m : Nat) : Int × Int × Bool := if m < 18 then (((m % 6 : Nat) : Int), ((m / 6 + 1 : Nat) : Int), true) else (0, 0, false)
def KhM (l : List Rs) (ms : List Hpx) : Bool := decide (ms.Pairwise fun x y => KF (hpk x) (hpk y) < 0) && (ms.all fun h => decide (h.fl.l.Pairwise (· < ·)) && !h.fl.l.isEmpty && h.fl.l.all fun f => decide ((vwS (Kf l) l ⟨f, h.ttl⟩).2 ≠ 0) && decide ((vwS (Kf l) l ⟨f, h.ttl⟩).1 = h.addr)) && l.all fun r => !KT (Kf l) r || ms.any fun h => decide (h.ttl = r.ttl) && decide (r.flow ∈ h.fl.l)
theorem KqA : ((List.range 19).all fun m => KhM (KaQ m) (awM m) && decide (nxF Ksc (Kf (KaQ m)) (kOf (KaQ m)) (awH m) = awX m)) = true := by kernel_rfl
theorem Kpm {l : List Rs} {ms : List Hpx} (h : KhM l ms = true) : KaI (Kh l).1 (Kh l).2 ms := by
  unfold KhM at h;simp only [Bool.and_eq_true, decide_eq_true_eq, List.all_eq_true, Bool.or_eq_true, Bool.not_eq_true', List.any_eq_true] at h;obtain ⟨⟨h0, h1⟩, h2⟩ := h;refine ⟨h0, fun x hx => ⟨(h1 x hx).1.1, fun e => by have := (h1 x hx).1.2; rw [e] at this; cases this⟩, fun t a f => ⟨?_, ?_⟩⟩
  · rintro ⟨x, hx, rfl, rfl, hf⟩;have := (h1 x hx).2 f hf;exact ⟨Ka8.2 this.1, by rw [Kbr]; exact this.2⟩
  · rintro ⟨e1, e2⟩;obtain ⟨r, hr, hu, e⟩ := KbZ (Ka8.1 e1);rcases h2 r hr with h3 | ⟨x, hx, h3, h4⟩
    · rw [h3] at hu; cases hu
    · have ef : r.flow = f := congrArg Spot.flow e;have et : r.ttl = t := congrArg Spot.ttl e;rw [ef] at h4;have := ((h1 x hx).2 f h4).2;refine ⟨x, hx, h3.trans et, ?_, h4⟩;rw [<- this, h3, et, <- Kbr];exact e2
def tri (h : Hpx) : Hpx := ⟨h.ttl, h.addr, ⟨none, 0, h.fl.l⟩⟩
theorem Krc {l : List Rs} {ms ms' : List Hpx} (h : KaI (Kh l).1 (Kh l).2 ms) (h' : KaI (Kh l).1 (Kh l).2 ms') : ms.map tri = ms'.map tri := by
  have key : ∀ {ms ms' : List Hpx}, KaI (Kh l).1 (Kh l).2 ms -> KaI (Kh l).1 (Kh l).2 ms' -> ∀ y, y ∈ ms.map tri -> y ∈ ms'.map tri := by
    intro ms ms' h h' y hy;obtain ⟨x, hx, rfl⟩ := List.mem_map.1 hy;have g := Kb6 h;have g' := Kb6 h';obtain ⟨f0, hf0⟩ := List.exists_mem_of_ne_nil _ (g.2.1 x hx).2;obtain ⟨z, hz, hk, _⟩ := (g'.2.2 (hpk x) f0).2 ((g.2.2 (hpk x) f0).1 ⟨x, hx, rfl, hf0⟩)
    have hk2 : z.ttl = x.ttl /\ z.addr = x.addr := by
      unfold hpk at hk;simp only [List.cons.injEq, and_true] at hk;exact hk
    refine List.mem_map.2 ⟨z, hz, ?_⟩;have e9 : z.fl.l = x.fl.l := KjQ (g'.2.1 z hz).1 (g.2.1 x hx).1 fun f => by rw [Kbm KbY g' hz f, Kbm KbY g hx f, hk]
    unfold tri;rw [hk2.1, hk2.2, e9]
  exact KfQ (key := hpk) KbY (List.pairwise_map.2 h.1) (List.pairwise_map.2 h'.1) fun y => ⟨key h h' y, key h' h y⟩
theorem KiW (s : Srh) (en : Int) (K : Spot -> Option Int) (hs : List Hpx) : nxF s en K hs = nxF s en K (hs.map tri) := by
  unfold nxF;rw [List.findSome?_map]
  rfl
theorem KhC {s : Srh} {l : List Rs} {hs hs' : List Hpx} (h : ExH s l hs) (h' : ExH s l hs') : nxF s (Kf l) (kOf l) hs = nxF s (Kf l) (kOf l) hs' := by
  rw [KiW, KiW s _ _ hs'];obtain ⟨fr, ms, rfl, e1, e2, e3⟩ := h;obtain ⟨fr', ms', rfl, e1', e2', e3'⟩ := h'
  have hm : ms.map tri = ms'.map tri := by
    by_cases hl : l = []
    · rw [e2 hl, e2' hl]
    · exact Krc (e3 hl) (e3' hl)
  rw [List.map_cons, List.map_cons, hm];unfold tri;dsimp only;rw [e1, e1']
def awS (A B : Option Addr) (c d : Nat) : Srh := ⟨⟨0, 9, 17⟩, ⟨A, c, [1]⟩, ⟨B, d, [20]⟩, 3, 20⟩
def awO (A B : Option Addr) (c d : Nat) : Orc := ⟨9, ⟨A, c, [⟨B, d, [1, 2]⟩]⟩⟩
theorem Kgr (A B : Option Addr) (c d : Nat) {m : Nat} (hm : m <= 18) : ExH (awS A B c d) (KaQ m) (awH m) /\ nxF (awS A B c d) (Kf (KaQ m)) (kOf (KaQ m)) (awH m) = awX m := by
  have h := List.all_eq_true.1 KqA m (List.mem_range.2 (by omega));rw [Bool.and_eq_true, decide_eq_true_eq] at h;refine ⟨⟨_, _, rfl, rfl, fun e => ?_, fun _ => Kpm h.1⟩, h.2⟩;have : (KaQ m).length = 0 := by rw [e]; rfl
  unfold KaQ at this;rw [List.length_map, List.length_range] at this;subst this
  rfl
theorem KsK (A B : Option Addr) (c d : Nat) (C D : Option Addr) (e f : Nat) : ∀ m, m < 18 -> KO (awS A B c d) (awO C D e f) m (m % 6) (m / 6 + 1) = awR m := by
  have h : ((List.range 18).all fun m => decide (KO (awS A B c d) (awO C D e f) m (m % 6) (m / 6 + 1) = awR m)) = true := by kernel_rfl
  exact fun m hm => of_decide_eq_true (List.all_eq_true.1 h m (List.mem_range.2 hm))
theorem Kue {A B C D : Option Addr} {c d e f : Nat} {l : List Rs} (h : RunT (awS A B c d) (awO C D e f) l) : l.length <= 18 /\ l = KaQ l.length := by
  induction h with
  | nil => exact ⟨Nat.zero_le _, rfl⟩
  | @step l hs q t _ hE hx ih =>
    obtain ⟨h1, h2⟩ := ih;generalize hm : l.length = m at h1 h2;subst h2;obtain ⟨x1, x2⟩ := Kgr A B c d h1;rw [KhC hE x1, x2] at hx;unfold awX at hx;split at hx
    · rename_i hlt;obtain ⟨y1, y2⟩ := Prod.mk.inj hx;obtain ⟨y2, _⟩ := Prod.mk.inj y2;have z1 : q = m % 6 := by omega
      have z2 : t = m / 6 + 1 := by omega
      subst z1 z2;rw [KsK A B c d C D e f m hlt];rw [List.length_append, hm];refine ⟨by show m + 1 <= 18; omega, ?_⟩;show _ = KaQ (m + 1);unfold KaQ;rw [List.range_succ, List.map_append]
      rfl
    · cases (Prod.mk.inj (Prod.mk.inj hx).2).2
theorem Ksi {A B C D : Option Addr} {c d e f : Nat} {l : List Rs} (h : KdL (awS A B c d) (awO C D e f) l) : l = KaQ 18 := by
  obtain ⟨h1, _, hs, a, b, hE, hx⟩ := h;obtain ⟨h2, h3⟩ := Kue h1;generalize hm : l.length = m at h2 h3;subst h3;obtain ⟨x1, x2⟩ := Kgr A B c d h2;rw [KhC hE x1, x2] at hx;unfold awX at hx;split at hx
  · cases (Prod.mk.inj (Prod.mk.inj hx).2).2
  · have : m = 18 := by omega
    rw [this]
set_option maxRecDepth 20000
theorem KpF {n d : List Int} (h : Kcn 1 20 n d) : n = [1] /\ d = [20] := by
 obtain ⟨e1, e2⟩ := Kke (by decide) h;exact ⟨h.1.eq (Kdk (by decide)) (by rw [e1, Kc4]), h.2.1.eq (Kdk (by decide)) (by rw [e2, Kc4])⟩
theorem Ker (A B : Option Addr) (c d : Nat) : SrhOk (awS A B c d) := by
 have h60 : (1073741824 : Int) <= pB 60 := by
  have := Kax (show 1 <= 60 by decide);have e : pB 1 = 1073741824 := by decide
  omega
 have v1 : Ka [1] = 1 := Kc4 1;have v2 : Ka [20] = 20 := Kc4 20;refine ⟨KjG (by decide) (by decide) (by decide), ⟨Kdk (by decide), Kdk (by decide), ?_, ?_, ?_⟩, ?_, ?_, (show (1 : Int) <= 3 /\ (3 : Int) <= 40 by decide), (show (1 : Int) <= 20 /\ (20 : Int) <= 128 by decide)⟩
 ·show Ka [1] < _; omega
 ·show Ka [20] < _; omega
 ·show 0 < Ka [20]; omega
 ·show 0 < Ka [1]; omega
 show Ka [1] < Ka [20]; omega
theorem Kho (A B : Option Addr) (c d : Nat) : OrcOk (awO A B c d) := ⟨(show (1 : Int) <= 9 /\ (9 : Int) <= 4294967295 by decide), (show 1 <= 1 /\ 1 <= 128 by decide), fun p hp => by cases List.mem_singleton.1 hp; show 2 <= 40; decide, fun p hp => by cases List.mem_singleton.1 hp; show (9 : Int) ∉ [1, 2]; decide, fun p hp a ha => by cases List.mem_singleton.1 hp; (have : a = 1 \/ a = 2 := by simpa using ha); omega⟩
theorem KqC {A B : Option Addr} {c d : Nat} : (awS A B c d).nd 1 = 6 := by kernel_rfl
theorem KtU {A B : Option Addr} {c d : Nat} {hs : List Hpx} (h : ExH (awS A B c d) [] hs) : Ending.returned (.tuple #[.agg #[.int .i64 (nxF (awS A B c d) (Kf []) (kOf []) hs).1, .int .i64 (nxF (awS A B c d) (Kf []) (kOf []) hs).2.1], .bool (nxF (awS A B c d) (Kf []) (kOf []) hs).2.2, .int .i64 0]) = .returned (.tuple #[.agg #[.int .i64 0, .int .i64 1], .bool true, .int .i64 0]) := by
 obtain ⟨x1, x2⟩ := Kgr A B c d (m := 0) (by decide);have e : nxF (awS A B c d) (Kf []) (kOf []) hs = (0, 1, true) := (KhC h x1).trans x2;rw [e]
theorem Ks6 (a1_0 : Int) (a2_0 : Int) (w : World) : (Instr.build 48 #[(1, .int .u32 a1_0), (2, .int .i64 a2_0)]).run Tryz.prog w = .ok (.agg #[.int .i64 0, .int .u32 a1_0, .int .i64 a2_0]) w := by kernel_rfl
theorem Ktu (a0_0 : Int) (a1_0 : Int) (w : World) : (Instr.buildSlice 70 2 #[(0, .int .u32 a0_0), (1, .int .u32 a1_0)]).run Tryz.prog w = .ok (.slice (some ⟨w.heap.size, 0, none⟩) 2 2) (w.alloc (.cells [.int .u32 a0_0, .int .u32 a1_0].toArray 42)) := by kernel_rfl
theorem Kop (a0_0 : Int) (a1_0 : Option Addr) (a1_0n a1_0c : Nat) (w : World) : (Instr.build 58 #[(0, .int .u32 a0_0), (1, .slice a1_0 a1_0n a1_0c)]).run Tryz.prog w = .ok (.agg #[.int .u32 a0_0, .slice a1_0 a1_0n a1_0c]) w := by kernel_rfl
theorem KfG (w : World) : (isAgg 54).run Tryz.prog w = .ok true w := rfl
theorem KnM (w : World) : (zeroValue 82).run Tryz.prog w = .ok (.agg #[.int .i64 0, .int .i64 0]) w := rfl
theorem Kis (w : World) : (sizeOf 82).run Tryz.prog w = .ok 2 w := rfl
theorem KoK (w : World) : (isAgg 82).run Tryz.prog w = .ok true w := rfl
theorem Kpq (a1_0 : Int) (w : World) : (Instr.build 82 #[(1, .int .i64 a1_0)]).run Tryz.prog w = .ok (.agg #[.int .i64 0, .int .i64 a1_0]) w := by kernel_rfl
theorem Knw  (w : World) :
  Calls Tryz.prog 17 #[] w fun e w' => e = .returned (.bool true) /\ Below w.heap.size w w' := by
 refine Kj Tryz.func17 rfl rfl rfl ?_ (Pm.start w);refine zSG (TL.as_ ?_);refine zET (zSG ?_);refine TL.pM _ _ rfl o26 (fun w1 hw => Kk7 1 20 w1 (by decide) (by decide)) ?_;rintro ⟨⟨⟨⟨An_, cn_⟩, n_⟩, ⟨⟨Ad_, cd_⟩, d_⟩⟩, hR, ⟨hn_c, hn_m⟩, hd_c, hd_m⟩;dsimp only [lC, lN];dsimp only at hR hn_c hn_m hd_c hd_m ⊢;obtain ⟨rfl, rfl⟩ := KpF hR;refine TL.rn 3 rfl ?_;refine TL.al KcJ fun g1 => ?_;refine TL.ps 0 KaM ?_;refine TL.as_ ?_;refine zET (zSG ?_);refine TL.w rfl (Ks (v := .agg #[.int .i64 0, .int .u32 9, .int .i64 17]) rfl rfl (fun w => Ks6 _ _ w)) ?_;refine TL.v (gV 0 (.agg #[.bool false, .slice An_ ([1].length) cn_, .slice Ad_ ([20].length) cd_]) KbR KaM) ?_;refine TL.w rfl (Ks (v := .agg #[.int .i64 0, .int .u32 9, .int .i64 17, .bool false, .slice An_ ([1].length) cn_, .slice Ad_ ([20].length) cd_, .int .i64 3, .int .i64 20]) rfl rfl (fun w => Klz _ _ _ _ _ _ _ _ _ _ _ _ w)) ?_;refine TL.al KjT fun g3 => ?_;refine TL.ps 0 Kc0 ?_;refine zET (zSG ?_);refine TL.prowS (e := 42) (size := 1) (cs := Kb (ic .u32) [1, 2]) rfl rfl rfl rfl rfl (fun w => Ktu _ _ w) (by decide) rfl (fun g17 => ?_);refine TL.prowS (e := 70) (size := 1) (cs := Kb sgc [(⟨(some ⟨g17, 0, none⟩), 2, [1, 2]⟩ : Sg Int)]) rfl rfl rfl rfl rfl (fun w => Kmc _ _ _ w) (by decide) rfl (fun g18 => ?_);refine TL.w rfl (Ks (v := .agg #[.int .u32 9, .slice (some ⟨g18, 0, none⟩) 1 1]) rfl rfl (fun w => Kop _ _ _ _ w)) ?_;refine TL.al KgK fun g4 => ?_;refine TL.ps 0 Kdc ?_;refine zET (zSG (TL.v (gV 3 (.agg #[.int .i64 0, .int .u32 9, .int .i64 17, .bool false, .slice An_ ([1].length) cn_, .slice Ad_ ([20].length) cd_, .int .i64 3, .int .i64 20]) KfG Kc0) ?_));refine TL.p1 (r := .tuple #[.agg #[.int .i64 0, .int .i64 1], .bool true, .int .i64 0]) rfl o25 (fun w1 hw => (Kjy (awS An_ Ad_ cn_ cd_) none 0 [] w1 Kd.none_ (by decide) (fun r hr => absurd hr List.not_mem_nil) (RunI.build (o := awO none none 0 0) RunI.nil (Ker An_ Ad_ cn_ cd_) (Kho none none 0 0)) (fun h => absurd rfl h) ⟨Kp hw (k := 5) rfl, Kp hw (k := 6) rfl⟩ (Ker An_ Ad_ cn_ cd_)).mono fun e w2 ⟨x, h1, h2⟩ => ⟨h1.trans (KtU x.2), h2⟩) ?_;refine TL.rn 4 rfl ?_;refine TL.al KnM fun g5 => ?_;refine TL.ps 0 Kis ?_;refine TL.rn 2 rfl (zET (zSG (TL.v (gV 4 (.agg #[.int .i64 0, .int .u32 9, .int .i64 17, .bool false, .slice An_ ([1].length) cn_, .slice Ad_ ([20].length) cd_, .int .i64 3, .int .i64 20]) KfG Kc0) ?_)));refine TL.v (gV 1 (.agg #[.int .u32 9, .slice (some ⟨g18, 0, none⟩) 1 1]) Kgx Kdc) ?_;refine TL.pM _ _ rfl o20 (fun w1 hw => Kna (awS An_ Ad_ cn_ cd_) (awO (some ⟨g18, 0, none⟩) (some ⟨g17, 0, none⟩) 1 2) w1 ⟨Kp hw (k := 6) rfl, Kp hw (k := 7) rfl⟩ (Ker An_ Ad_ cn_ cd_) ⟨Kp hw (k := 2) rfl, fun p hp => by cases List.mem_singleton.1 hp; exact Kp hw (k := 3) rfl⟩ (Kho _ _ _ _) rfl (show 20 * 3 <= 500 by decide)) ?_;rintro ⟨⟨⟨Al, cl⟩, lr⟩, hrun, hlc, hlm⟩;dsimp only [lC, lN];dsimp only at hrun hlc hlm ⊢;obtain rfl := Ksi hrun;have h18 : (KaQ 18).length = 18 := rfl;refine TL.rn 5 rfl (zET (zSG (TL.v (gV 5 (.agg #[.int .i64 0, .int .u32 9, .int .i64 17, .bool false, .slice An_ ([1].length) cn_, .slice Ad_ ([20].length) cd_, .int .i64 3, .int .i64 20]) KfG Kc0) ?_)));refine TL.p1 rfl o49 (fun w1 hw => KfX (awS An_ Ad_ cn_ cd_) w1 ⟨Kp hw (k := 7) rfl, Kp hw (k := 8) rfl⟩ (Ker An_ Ad_ cn_ cd_)) ?_;refine TL.mv ?_;refine TL.ov (gV 2 (.agg #[.int .u32 9, .slice (some ⟨g18, 0, none⟩) 1 1]) Kgx Kdc) ?_;refine TL.gu ?_;refine TL.p1 rfl o50 (fun w1 hw => KkK (awO (some ⟨g18, 0, none⟩) (some ⟨g17, 0, none⟩) 1 2) w1 ⟨Kp hw (k := 3) rfl, fun p hp => by cases List.mem_singleton.1 hp; exact Kp hw (k := 4) rfl⟩ (Kho _ _ _ _)) ?_;refine TL.rn 2 rfl (TL.ov (gV 5 (.agg #[.int .i64 0, .int .u32 9, .int .i64 17, .bool false, .slice An_ ([1].length) cn_, .slice Ad_ ([20].length) cd_, .int .i64 3, .int .i64 20]) KfG Kc0) ?_)
 refine TL.gu ?_;refine TL.p1 (r := .int .i64 6) rfl o22 (fun w1 hw => (Khf (awS An_ Ad_ cn_ cd_) 1 w1 ⟨Kp hw (k := 7) rfl, Kp hw (k := 8) rfl⟩ (Ker An_ Ad_ cn_ cd_) (by decide) (by decide)).mono fun e w2 h9 => ⟨h9.1.trans (by rw [KqC]), h9.2⟩) ?_;refine TL.gu ?_;refine TL.w rfl (Ke rfl rfl rfl (fun w => Kfq rfl w)) ?_;refine TL.rn 3 rfl (TL.gu ?_);refine TL.w rfl (Ke rfl rfl rfl (fun w => Kfq rfl w)) ?_;refine TL.rn 5 rfl (TL.ov (gV 1 (.agg #[.int .i64 0, .int .i64 1]) KoK Kis) ?_);refine TL.gu ?_;refine TL.w rfl (Ks (v := .agg #[.int .i64 0, .int .i64 1]) rfl rfl (fun w => Kpq _ w)) ?_;refine TL.gu ?_;refine TL.w rfl (Kba (v := .bool true) rfl rfl rfl (fun w => by kernel_rfl)) ?_;refine TL.rn 3 rfl (TL.gu ?_);refine TL.w rfl (Ke rfl rfl rfl (fun w => Kfq rfl w)) ?_;refine TL.rn 3 rfl (TL.ov (gN Tryz.underlying27) ?_);refine TL.gu ?_;refine TL.w rfl (Ke rfl rfl rfl (fun w => Kfq rfl w)) ?_;refine TL.rn 3 rfl (TL.gu ?_);refine TL.fact (p := ∃ g, Al = some ⟨g, 0, none⟩) (fun w1 hw => Kci hw (k := 0) rfl (by omega)) ?_;rintro ⟨g_Al, rfl⟩;have hi66 : 6 < (KaQ 18).length := by omega
 obtain ⟨x66, hx66⟩ := Kq hi66;have hxa : x66 = awR 6 := Option.some.inj (hx66.symm.trans rfl);refine TL.w rfl (gA (i := 6) Tryz.underlying27 KE rfl rfl rfl rfl rfl (by omega)) ?_;refine TL.ov (gF Kbk) ?_;refine TL.gu ?_;refine TL.w rfl (Kw (v := .int .i64 x66.ttl) rfl rfl Kr (fun w1 hw => KN KJ hw (q := 0) rfl hx66 7 _ rfl)) ?_;refine TL.gu ?_;refine TL.sp KG (fun q69 => ?_) (fun q69 => ?_)
 ·refine TL.rn 3 rfl (TL.gu ?_);refine TL.w rfl (gA (i := 6) Tryz.underlying27 KE rfl rfl rfl rfl rfl (by omega)) ?_;refine TL.ov (gF KcN) ?_;refine TL.gu ?_;refine TL.w rfl (Kw (v := .int .i64 x66.flow) rfl rfl Kr (fun w1 hw => KN KJ hw (q := 0) rfl hx66 6 _ rfl)) ?_;refine TL.gu ?_;refine TL.sp KG (fun q76 => ?_) (fun q76 => ?_)
  ·refine TL.rn 2 rfl (zET (zr ?_));exact Kg Tryz.results17 rfl (fun w1 hw => ⟨rfl, hw.bel⟩)
  exfalso; exact q76 (by rw [hxa]; rfl)
 exfalso; exact q69 (by rw [hxa]; rfl)
set_option maxRecDepth 20000
def KU (ms : List Mp) : List Pc := ms.flatMap Mp.pcs
theorem Kqq (m : Mp) : Kam m.pcs = true := by
  have h := Khi (e := 3) (size := 1) (enc := Kb (ic .i64)) (m.hops.l.map (·.fl) ++ m.edges.l.map (·.fl));simp only [Kam, Mp.pcs, List.cons_append, List.nil_append, List.all_cons, Bool.and_eq_true] at h ⊢;exact ⟨rfl, rfl, h⟩
theorem Pm.mpsIn {w0 : Base} {w : World} {m : Mp} {P : List Pc} {ms : List Mp} (h : Pm w0 (m.pcs ++ (P ++ KU ms)) w) : Pm w0 (P ++ KU (m :: ms)) w := by
  refine h.permute ?_;have e : KU (m :: ms) = m.pcs ++ KU ms := List.flatMap_cons;rw [e, <- List.append_assoc, <- List.append_assoc];exact List.Perm.append_right _ List.perm_append_comm
theorem KdM {m : Mp} {ms : List Mp} (h : m ∈ ms) {q : Pc} (hq : q ∈ m.pcs) : q ∈ KU ms := List.mem_flatMap.2 ⟨m, h, hq⟩
def Kd3 (A : Option Addr) : Nat := match A with
  | some a => a.block
  | none => 0
theorem Kfx {w0 : Base} {L : List Pc} {w : World} {A : Option Addr} {n c size : Nat} {e : TypeId} {xs : List Value} (h : Pm w0 L w) (hm : Pc.row (.slice A n c) e size n xs ∈ L) (hn : 0 < n) : A = some ⟨Kd3 A, 0, none⟩ := by
  obtain ⟨g, hg⟩ := Kse h hm hn;rw [hg]; rfl
theorem Kgu {α : Type} {c : α -> List Value} {k g i n cc : Nat} {e : TypeId} {A : Option Addr} {l : List α} {x : α} (K : Cel c k) {w0 : Base} {L : List Pc} {w : World} (h : Pm w0 L w) (hm : Pc.row (.slice A n cc) e k n (Kb c l) ∈ L) (hA : A = some ⟨g, 0, none⟩) (hx : l[i]? = some x) (j : Nat) (u : Value) (hu : (c x)[j]? = some u) : w.cell? ⟨g, 0 + i * k + j, none⟩ = some u := by
  obtain ⟨q, hq⟩ := List.getElem?_of_mem hm;rw [hA] at hq;exact KN K h hq hx j u hu
section
variable {m : Mp} {ms : List Mp}
theorem Kk2 (h : m ∈ ms) : Pc.row (.slice m.hops.A m.hops.l.length m.hops.c) 69 3 m.hops.l.length (Kb Hpx.cells m.hops.l) ∈ KU ms := KdM h List.mem_cons_self
theorem KgD (h : m ∈ ms) : Pc.row (.slice m.edges.A m.edges.l.length m.edges.c) 72 4 m.edges.l.length (Kb Ed.cells m.edges.l) ∈ KU ms := KdM h (List.mem_cons_of_mem _ List.mem_cons_self)
theorem KrS (h : m ∈ ms) {x : Hpx} (hx : x ∈ m.hops.l) : Pc.row (.slice x.fl.A x.fl.l.length x.fl.c) 3 1 x.fl.l.length (Kb (ic .i64) x.fl.l) ∈ KU ms :=
  KdM h (List.mem_append_right _ (List.mem_map_of_mem (f := Sg.pc 3 1 (Kb (ic .i64))) (List.mem_append_left _ (List.mem_map_of_mem (f := Hpx.fl) hx))))
theorem Knc (h : m ∈ ms) {x : Ed} (hx : x ∈ m.edges.l) : Pc.row (.slice x.fl.A x.fl.l.length x.fl.c) 3 1 x.fl.l.length (Kb (ic .i64) x.fl.l) ∈ KU ms :=
  KdM h (List.mem_append_right _ (List.mem_map_of_mem (f := Sg.pc 3 1 (Kb (ic .i64))) (List.mem_append_right _ (List.mem_map_of_mem (f := Ed.fl) hx))))
end
structure MpA (m : Mp) : Prop where
  hops : 0 < m.hops.l.length -> m.hops.A = some ⟨Kd3 m.hops.A, 0, none⟩
  edges : 0 < m.edges.l.length -> m.edges.A = some ⟨Kd3 m.edges.A, 0, none⟩
  fh : ∀ x ∈ m.hops.l, 0 < x.fl.l.length -> x.fl.A = some ⟨Kd3 x.fl.A, 0, none⟩
  fe : ∀ x ∈ m.edges.l, 0 < x.fl.l.length -> x.fl.A = some ⟨Kd3 x.fl.A, 0, none⟩
theorem MpA.of {w0 : Base} {w : World} {m : Mp} {L : List Pc} (h : Pm w0 L w) (hs : ∀ q ∈ m.pcs, q ∈ L) : MpA m := by
  have e : KU [m] = m.pcs := by unfold KU; rw [List.flatMap_cons, List.flatMap_nil, List.append_nil]
  have hs2 : ∀ q ∈ KU [m], q ∈ L := by rw [e]; exact hs
  have hm : m ∈ [m] := List.mem_singleton.2 rfl;exact ⟨fun hn => Kfx h (hs2 _ (Kk2 hm)) hn, fun hn => Kfx h (hs2 _ (KgD hm)) hn, fun x hx hn => Kfx h (hs2 _ (KrS hm hx)) hn, fun x hx hn => Kfx h (hs2 _ (Knc hm hx)) hn⟩
set_option maxRecDepth 20000
theorem Pm.orcIn {w0 : Base} {w : World} {p : Sg (Sg Int)} {P O : List Pc} (h : Pm w0 (KaY p ++ (P ++ O)) w) : Pm w0 (P ++ (KaY p ++ O)) w := by
  refine h.permute ?_;rw [<- List.append_assoc, <- List.append_assoc];exact List.Perm.append_right _ List.perm_append_comm
theorem KsT {w0 : Base} {L : List Pc} {w : World} {o : Orc} (h : Pm w0 L w) (hm : ∀ q ∈ KaY o.ps, q ∈ L) : Kb9 w w.heap.size o := by
  refine ⟨Khd h (hm _ List.mem_cons_self), fun p hp => Khd h (hm _ (List.mem_cons_of_mem _ (List.mem_map_of_mem (f := Sg.pc 42 1 (Kb (ic .u32))) hp)))⟩
theorem Krk {s : Srh} (h : KhX s) : s.flows.toNat * s.ttl.toNat <= 500 := by
  have h1 := h.2.2.1;have h2 := h.2.2.2;exact Nat.le_trans (Nat.mul_le_mul (show s.flows.toNat <= 16 by omega) (show s.ttl.toNat <= 4 by omega)) (by decide)
set_option maxRecDepth 20000
section
variable {s : Srh} {o : Orc} {l : List Rs}
theorem KeE (h : RunI s o l) (f t : Int) : KaB (Kh l).2 f t = true ↔ kOf l ⟨f, t⟩ ≠ none := by
  have h3 := h.st3 ⟨f, t⟩
  have hv : (vwS (Kf l) l ⟨f, t⟩).2 = 0 \/ (vwS (Kf l) l ⟨f, t⟩).2 = 1 \/ (vwS (Kf l) l ⟨f, t⟩).2 = 2 \/ (vwS (Kf l) l ⟨f, t⟩).2 = 3 := by
    rcases Key (Kf l) l ⟨f, t⟩ with ⟨e, _⟩ | ⟨e, _⟩ | ⟨a, e, _⟩ | ⟨e, _⟩ <;> rw [e] <;> simp
  have h4 : (vwS (Kf l) l ⟨f, t⟩).2 ≠ 3 := fun e => by
    cases hl : (Kh l).2 ⟨f, t⟩ with
    | none =>
      have e2 := KcI (l := l) (s := ⟨f, t⟩);rw [hl, e] at e2;exact absurd e2 (by decide)
    | some v =>
      have e2 := KcI (l := l) (s := ⟨f, t⟩);rw [hl, e] at e2;exact h3 (by rw [hl]; exact congrArg some e2)
  unfold KaB kOf;rw [KcI];split <;> simp <;> omega
theorem KiK {p : Spot} {a : Int} (h : kOf l p = some a) : ((Kh l).1 p).getD 0 = a := by
  unfold kOf at h;split at h
  · injection h with h; rw [Kbr]; exact h
  · cases h
theorem KsD {p : Spot} : (Kh l).2 p ≠ none ↔ kOf l p ≠ none := by
  rw [Ka8];unfold kOf;split <;> simp_all
def KX (es : List Ed) (h : Hpx) : List Ed := es.filter fun g => decide (g.ttl = h.ttl) && decide (g.frm = h.addr)
theorem KbT {es : List Ed} {h : Hpx} {g : Ed} : g ∈ KX es h ↔ g ∈ es /\ g.ttl = h.ttl /\ g.frm = h.addr := by
  unfold KX;rw [List.mem_filter, Bool.and_eq_true, decide_eq_true_eq, decide_eq_true_eq]
def knE (es : List Ed) (h : Hpx) : Nat := ((KX es h).map fun g => g.fl.l.length).sum
def prN (l : List Rs) (h : Hpx) : Nat := (l.filter fun r => decide (r.ttl = h.ttl)).length
theorem Kiw {α β : Type} (f : α -> List β) : ∀ l : List α, (l.flatMap f).length = (l.map fun x => (f x).length).sum
  | [] => rfl
  | x :: l => by rw [List.flatMap_cons, List.length_append, List.map_cons, List.sum_cons, Kiw f l]
theorem Kjg {α β : Type} {f : α -> List β} : ∀ {l : List α}, (∀ x ∈ l, (f x).Nodup) -> (l.Pairwise fun x y => ∀ b ∈ f x, b ∉ f y) -> (l.flatMap f).Nodup
  | [], _, _ => List.nodup_nil
  | x :: l, h, hp => by
    rw [List.pairwise_cons] at hp;rw [List.flatMap_cons];refine List.pairwise_append.2 ⟨h x List.mem_cons_self, Kjg (fun y hy => h y (List.mem_cons_of_mem _ hy)) hp.2, fun a ha b hb e => ?_⟩;subst e;obtain ⟨y, hy, hb⟩ := List.mem_flatMap.1 hb;exact hp.1 y hy a ha hb
theorem KlJ {α : Type} {a b : List α} (ha : a.Nodup) (hb : b.Nodup) (h : ∀ x, x ∈ a ↔ x ∈ b) : a.length = b.length := ((List.perm_ext_iff_of_nodup ha hb).2 h).length_eq
theorem KdV {hs : List Hpx} (hh : KaI (Kh l).1 (Kh l).2 hs) {h : Hpx} (hm : h ∈ hs) {f : Int} : f ∈ h.fl.l ↔ (Kh l).2 ⟨f, h.ttl⟩ ≠ none /\ ((Kh l).1 ⟨f, h.ttl⟩).getD 0 = h.addr := by
  rw [Kbm KbY (Kb6 hh) hm f, <- (Kb6 hh).2.2 (hpk h) f, <- hh.2.2 h.ttl h.addr f];constructor
  · rintro ⟨x, hx, hk, hf⟩;unfold hpk at hk;simp only [List.cons.injEq, and_true] at hk;exact ⟨x, hx, hk.1, hk.2, hf⟩
  · rintro ⟨x, hx, e1, e2, hf⟩;exact ⟨x, hx, by unfold hpk; rw [e1, e2], hf⟩
theorem Kt7 (hI : RunI s o l) {m : Mp} (hG : Kd6 l m) {h : Hpx} (hm : h ∈ m.hops.l) (f : Int) : (∃ g ∈ KX m.edges.l h, f ∈ g.fl.l) ↔ f ∈ h.fl.l /\ kOf l ⟨f, h.ttl + 1⟩ ≠ none := by
  obtain ⟨_, _, hH, hE⟩ := hG;constructor
  · rintro ⟨g, hg, hf⟩;obtain ⟨h1, h2, h3⟩ := KbT.1 hg;obtain ⟨h4, h5, h6, _⟩ := (hE.2.2 h.ttl h.addr g.to_ f).1 ⟨g, h1, h2, h3, rfl, hf⟩;exact ⟨(KdV hH hm).2 ⟨h4, h6⟩, (KeE hI _ _).1 h5⟩
  · rintro ⟨h1, h2⟩;obtain ⟨h4, h6⟩ := (KdV hH hm).1 h1;obtain ⟨g, hg, e1, e2, _, hf⟩ := (hE.2.2 h.ttl h.addr _ f).2 ⟨h4, (KeE hI _ _).2 h2, h6, rfl⟩;exact ⟨g, KbT.2 ⟨hg, e1, e2⟩, hf⟩
theorem KtW (hI : RunI s o l) {m : Mp} (hG : Kd6 l m) {h : Hpx} (hm : h ∈ m.hops.l) (b : Int) : (∃ g ∈ KX m.edges.l h, g.to_ = b) ↔ ∃ f ∈ h.fl.l, kOf l ⟨f, h.ttl + 1⟩ = some b := by
  obtain ⟨_, _, hH, hE⟩ := hG;constructor
  · rintro ⟨g, hg, rfl⟩;obtain ⟨h1, h2, h3⟩ := KbT.1 hg;obtain ⟨f, hf⟩ := List.exists_mem_of_ne_nil _ (hE.2.1 g h1).2;obtain ⟨h4, h5, h6, h7⟩ := (hE.2.2 h.ttl h.addr g.to_ f).1 ⟨g, h1, h2, h3, rfl, hf⟩;refine ⟨f, (KdV hH hm).2 ⟨h4, h6⟩, ?_⟩
    cases hk : kOf l ⟨f, h.ttl + 1⟩ with
    | none => exact absurd hk ((KeE hI _ _).1 h5)
    | some a => rw [<- h7, KiK hk]
  · rintro ⟨f, hf, hk⟩;obtain ⟨h4, h6⟩ := (KdV hH hm).1 hf;obtain ⟨g, hg, e1, e2, e3, _⟩ := (hE.2.2 h.ttl h.addr b f).2 ⟨h4, (KeE hI _ _).2 (by rw [hk]; exact fun e => by cases e), h6, KiK hk⟩;exact ⟨g, KbT.2 ⟨hg, e1, e2⟩, e3⟩
theorem KmQ {es : List Ed} (ha : Ka0 edk es) (h : Hpx) : (KX es h).Pairwise fun x y => x.to_ ≠ y.to_ := by
  have h1 : (KX es h).Pairwise fun x y => KF (edk x) (edk y) < 0 := List.Pairwise.sublist List.filter_sublist ha;refine (List.Pairwise.and_mem.1 h1).imp fun {x y} hxy e => ?_;obtain ⟨hx, hy, hlt⟩ := hxy;have hx2 := KbT.1 hx;have hy2 := KbT.1 hy;have : edk x = edk y := by unfold edk; rw [hx2.2.1, hy2.2.1, hx2.2.2, hy2.2.2, e]
  rw [this] at hlt;exact Kbz (key := edk) _ hlt
theorem Kr3 {fa fs : Spot -> Option Int} {es : List Ed} (hE : KdH fa fs es) (h : Hpx) : (KX es h).Pairwise fun x y => ∀ f ∈ x.fl.l, f ∉ y.fl.l := by
  refine (List.Pairwise.and_mem.1 (KmQ hE.1 h)).imp fun {x y} hxy f hf hg => ?_;obtain ⟨hx, hy, hne⟩ := hxy;obtain ⟨hx1, hx2, hx3⟩ := KbT.1 hx;obtain ⟨hy1, hy2, hy3⟩ := KbT.1 hy;have h1 := (hE.2.2 h.ttl h.addr x.to_ f).1 ⟨x, hx1, hx2, hx3, rfl, hf⟩;have h2 := (hE.2.2 h.ttl h.addr y.to_ f).1 ⟨y, hy1, hy2, hy3, rfl, hg⟩;exact hne (h1.2.2.2.symm.trans h2.2.2.2)
theorem Khr (hI : RunI s o l) {m : Mp} (hG : Kd6 l m) {h : Hpx} (hm : h ∈ m.hops.l) : knE m.edges.l h = knN (kOf l) h.fl.l (h.ttl + 1) := by
  unfold knE knN;rw [<- Kiw (fun g : Ed => g.fl.l)];refine KlJ (Kjg (fun g hg => ((hG.2.2.2.2.1 g (KbT.1 hg).1).1.imp Int.ne_of_lt)) (Kr3 hG.2.2.2 h)) ?_ fun f => ?_
  · exact List.Pairwise.sublist List.filter_sublist ((hG.2.2.1.2.1 h hm).1.imp Int.ne_of_lt)
  · rw [List.mem_flatMap, Kt7 hI hG hm, List.mem_filter, Option.isSome_iff_ne_none]
theorem KoL (hI : RunI s o l) {m : Mp} (hG : Kd6 l m) {h : Hpx} (hm : h ∈ m.hops.l) : (KX m.edges.l h).length = (Kck (kOf l) h.fl.l (h.ttl + 1)).length := by
  rw [<- List.length_map (fun g : Ed => g.to_)];refine KlJ (List.pairwise_map.2 (KmQ hG.2.2.2.1 h)) (KhS _) fun b => ?_;unfold Kck;rw [KfL, List.mem_filterMap, List.mem_map];exact KtW hI hG hm b
theorem KtN {n : Nat} {h : Hpx} (hk : ∀ f : Nat, f < n -> ∃ r ∈ l, KD r = ⟨(f : Int), h.ttl⟩) : n <= prN l h := by
  have h1 : (Kc n).Nodup := by
    unfold Kc;exact List.pairwise_map.2 (List.nodup_range.imp fun h e => h (by omega))
  have h2 := Kdv (F := (l.filter fun r => decide (r.ttl = h.ttl)).map fun r => r.flow) h1 fun f hf => by
    obtain ⟨h3, h4⟩ := Khw.1 hf;obtain ⟨r, hr, e⟩ := hk f.toNat (by omega);have e1 : r.flow = _ := congrArg Spot.flow e;have e2 : r.ttl = _ := congrArg Spot.ttl e;dsimp only at e1 e2;exact List.mem_map.2 ⟨r, List.mem_filter.2 ⟨hr, decide_eq_true e2⟩, by omega⟩
  rw [Kb0, List.length_map] at h2;exact h2
theorem Kn0 {K : Spot -> Option Int} {fl : List Int} {t n : Int} (h : K4 K fl t n < 0) (h0 : ∀ f ∈ fl, 0 <= f) : ∀ f ∈ fl, f < n -> K ⟨f, t⟩ ≠ none := by
  intro f hf hn he;unfold K4 at h
  cases hx : fl.find? (fun f => !(K ⟨f, t⟩).isSome && decide (f < n)) with
  | none => have := List.find?_eq_none.1 hx f hf; rw [he] at this; simp at this; omega
  | some g => rw [hx] at h; have := h0 g (List.mem_of_find?_eq_some hx); exact absurd h (by show ¬ g < 0; omega)
theorem Kqt {K : Spot -> Option Int} {n : Nat} {t : Int} (h : Kaf K n t < 0) : ∀ f : Nat, f < n -> K ⟨(f : Int), t⟩ ≠ none := by
  intro f hf he;unfold Kaf at h
  cases hx : (List.range n).find? (fun f => !(K ⟨((f : Nat) : Int), t⟩).isSome) with
  | none => have := List.find?_eq_none.1 hx f (List.mem_range.2 hf); rw [he] at this; simp at this
  | some g => rw [hx] at h; exact absurd h (by dsimp only; omega)
theorem KfN (hI : RunI s o l) (hR : KdL s o l) (hs : SrhOk s) {m : Mp} (hb : Kbo l m 0) {h : Hpx} (hm : h ∈ m.hops.l) (h1 : h.ttl < s.ttl) (h2 : ¬ (m.en > 0 /\ h.ttl >= m.en))
    (hc : ((knE m.edges.l h : Nat) : Int) < s.nd (max (KX m.edges.l h).length 1)) : ¬ (knE m.edges.l h < h.fl.l.length) /\ ¬ (((prN l h : Nat) : Int) < s.flows) := by
  have hne : l ≠ [] := fun e => by rw [hb.2.1 (.inr e)] at hm; cases hm
  have hG := hb.2.2 rfl hne;have hEx : ExH s l (⟨0, 0, ⟨none, 0, Kc s.flows.toNat⟩⟩ :: m.hops.l) := ⟨_, _, rfl, rfl, fun e => absurd e hne, fun _ => hG.2.2.1⟩;have ho := hR.closed hEx h (List.mem_cons_of_mem _ hm);have hw := hs.flows;obtain ⟨f0, hf0⟩ := List.exists_mem_of_ne_nil _ (hG.2.2.1.2.1 h hm).2;have ht1 := Kce hG.2.2.1 hm hf0
  have hsf : ¬ KbG s (kOf l) h.fl.l (h.ttl + 1) = true := fun hsat => by
    unfold KbG at hsat;rw [Bool.and_eq_true, decide_eq_true_eq, decide_eq_true_eq] at hsat;obtain ⟨k1, k2⟩ := hsat;rw [<- Khr hI hG hm] at k1 k2;rw [<- KoL hI hG hm] at k2
    have : 1 <= (KX m.edges.l h).length := by
      rcases hbe : KX m.edges.l h with _ | ⟨g, gs⟩
      · unfold knE at k1; rw [hbe] at k1; exact absurd k1 (by decide)
      · show 1 <= gs.length + 1; omega
    rw [Nat.max_eq_left this] at hc;omega
  unfold KR at ho;rw [Bool.not_eq_true] at hsf;rw [hsf] at ho
  have h2' : (decide (Kf l > 0) && decide (h.ttl >= Kf l)) = false := by
    rw [<- hG.2.1];by_cases h9 : m.en > 0
    · rw [decide_eq_false (show ¬ h.ttl >= m.en by omega), Bool.and_false]
    · rw [decide_eq_false h9, Bool.false_and]
  rw [h2', decide_eq_false (show ¬ h.ttl >= s.ttl by omega)] at ho;simp only [Bool.or_false, Bool.not_false, Bool.true_and, Bool.or_eq_false_iff, decide_eq_false_iff_not, ge_iff_le, Int.not_le] at ho;obtain ⟨ho1, ho2⟩ := ho;constructor
  · rw [Khr hI hG hm];unfold knN
    have : h.fl.l.filter (fun f => (kOf l ⟨f, h.ttl + 1⟩).isSome) = h.fl.l := List.filter_eq_self.2 fun f hf => by
      have hr := Kce hG.2.2.1 hm hf;refine Option.isSome_iff_ne_none.2 (Kn0 ho1 (fun g hg => (Kce hG.2.2.1 hm hg).1) f hf ?_);obtain ⟨r, hr1, _, e⟩ := KbZ (Ka8.1 ((KdV hG.2.2.1 hm).1 hf).1);have e1 : r.flow = _ := congrArg Spot.flow e;have := hI.range hr1;dsimp only at e1;omega
    rw [this];omega
  · have hk : ∀ f : Nat, f < s.flows.toNat -> ∃ r ∈ l, KD r = ⟨(f : Int), h.ttl⟩ := fun f hf => by
      have h3 := Kqt ho2 f hf;rw [show max h.ttl 1 = h.ttl by omega] at h3;obtain ⟨r, hr1, _, e⟩ := KbZ (Ka8.1 (KsD.2 h3));exact ⟨r, hr1, e⟩
    have := KtN hk;omega
end
theorem Ki5 (es : List Ed) (h : Hpx) : ((knE (es.take 0) h : Nat) : Int) = 0 := by rw [List.take_zero]; rfl
theorem Kf5 {es : List Ed} {h : Hpx} {j : Nat} {x : Ed} (hx : es[j]? = some x) (h1 : x.ttl = h.ttl) (h2 : x.frm = h.addr) : KX (es.take (j + 1)) h = KX (es.take j) h ++ [x] := by
  unfold KX;rw [List.take_add_one, hx, List.filter_append];show _ ++ List.filter _ [x] = _;simp [h1, h2]
theorem Keo {es : List Ed} {h : Hpx} {j : Nat} {x : Ed} (hx : es[j]? = some x) (h1 : ¬ (x.ttl = h.ttl /\ x.frm = h.addr)) : KX (es.take (j + 1)) h = KX (es.take j) h := by
  unfold KX;rw [List.take_add_one, hx, List.filter_append];show _ ++ List.filter _ [x] = _;simp only [List.filter_cons, List.filter_nil];rw [if_neg (by rw [Bool.and_eq_true, decide_eq_true_eq, decide_eq_true_eq]; exact h1), List.append_nil]
theorem KkF {es : List Ed} {h : Hpx} {j : Nat} {x : Ed} (hx : es[j]? = some x) (h1 : x.ttl = h.ttl) (h2 : x.frm = h.addr) : knE (es.take (j + 1)) h = knE (es.take j) h + x.fl.l.length := by
  unfold knE;rw [Kf5 hx h1 h2, List.map_append, List.sum_append]
  rfl
theorem Ke9 {es : List Ed} {h : Hpx} {j : Nat} {x : Ed} (hx : es[j]? = some x) (h1 : ¬ (x.ttl = h.ttl /\ x.frm = h.addr)) : knE (es.take j) h = knE (es.take (j + 1)) h := by
  unfold knE;rw [Keo hx h1]
theorem Kos (es : List Ed) (h : Hpx) (j : Nat) : knE (es.take j) h <= knE es h := by
  have e : KX es h = KX (es.take j) h ++ KX (es.drop j) h := by
    unfold KX;rw [<- List.filter_append, List.take_append_drop]
  unfold knE;rw [e, List.map_append, List.sum_append];exact Nat.le_add_right ..
theorem KkO {s : Srh} {o : Orc} {l : List Rs} (hI : RunI s o l) {m : Mp} (hb : Kbo l m 0) {h : Hpx} (hm : h ∈ m.hops.l) (hf : h.fl.l.length <= 1000) (j : Nat) : knE (m.edges.l.take j) h <= 1000 := by
  have hne : l ≠ [] := fun e => by rw [hb.2.1 (.inr e)] at hm; cases hm
  have h1 := Khr hI (hb.2.2 rfl hne) hm;have h2 := KhA (kOf l) h.fl.l (h.ttl + 1);have h3 := Kos m.edges.l h j;omega
theorem Kl0 {l : List Rs} {h : Hpx} {j : Nat} {x : Rs} (hx : l[j]? = some x) (h1 : x.ttl = h.ttl) : prN (l.take (j + 1)) h = prN (l.take j) h + 1 := by
  unfold prN;rw [List.take_add_one, hx, List.filter_append, List.length_append];show _ + (List.filter _ [x]).length = _;simp [h1]
theorem KlZ {l : List Rs} {h : Hpx} {j : Nat} {x : Rs} (hx : l[j]? = some x) (h1 : ¬ x.ttl = h.ttl) : prN (l.take j) h = prN (l.take (j + 1)) h := by
  unfold prN;rw [List.take_add_one, hx, List.filter_append, List.length_append];show _ = _ + (List.filter _ [x]).length;simp [h1]
theorem Kj6 (l : List Rs) (h : Hpx) : ((prN (l.take 0) h : Nat) : Int) = 0 := by rw [List.take_zero]; rfl
theorem Kkx (l : List Rs) (h : Hpx) : prN l h <= l.length := List.length_filter_le ..
theorem KlY {α : Type} (l : List α) (j : Nat) : (l.take j).length <= j := by rw [List.length_take]; exact Nat.min_le_left ..
theorem KcE {a b : Nat} (h : a = b) : some (Value.int .i64 ((a : Nat) : Int)) = some (.int .i64 ((b : Nat) : Int)) := by rw [h]
theorem Ke1 {a b : Int} (h : a = b) : some (Value.int .i64 a) = some (.int .i64 b) := by rw [h]
set_option maxRecDepth 20000
theorem Koe (m : Mp) : ∀ u ∈ m.cells, u.oneCell' = true := by
 intro u hu;simp only [Mp.cells, List.mem_cons, List.not_mem_nil, or_false] at hu;rcases hu with rfl | rfl | rfl | rfl | rfl | rfl <;> rfl
theorem KsB {w0 : Base} {w : World} {p : Sg (Sg Int)} {P T : List Pc} (h : Pm w0 (P ++ (KaY p ++ T)) w) : Pm w0 (P ++ T) w := h.sel (List.Sublist.append_left (List.sublist_append_right ..) _)
theorem Kqy : (Tryz.f8.name == "runtime.NumGoroutine") = false := by decide
theorem Kog : Tryz.f8.body.isNone = false := rfl
theorem Kpr (w : World) : (zeroValue 54).run Tryz.prog w = .ok (.agg #[.int .i64 0, .int .u32 0, .int .i64 0, .bool false, .slice none 0 0, .slice none 0 0, .int .i64 0, .int .i64 0]) w := rfl
theorem Kr9 (w : World) : (zeroValue 58).run Tryz.prog w = .ok (.agg #[.int .u32 0, .slice none 0 0]) w := rfl
theorem KeL (w : World) : (sizeOf 54).run Tryz.prog w = .ok 8 w := rfl
theorem KjE (w : World) : (sizeOf 58).run Tryz.prog w = .ok 2 w := rfl
theorem KgH (w : World) : (isAgg 54).run Tryz.prog w = .ok true w := rfl
theorem KnT (w : World) : (isAgg 58).run Tryz.prog w = .ok true w := rfl
theorem Knx (w : World) : (zeroValue 65).run Tryz.prog w = .ok (.agg #[.int .i64 0, .int .u32 0, .int .i64 0, .int .i64 0, .slice none 0 0, .slice none 0 0]) w := rfl
theorem KpB (w : World) : (sizeOf 65).run Tryz.prog w = .ok 6 w := rfl
theorem Ko0 (g o : Nat) (w : World) : (Instr.fieldAt 65 (.pointer (some ⟨g, o, none⟩)) 2).run Tryz.prog w = .ok (.pointer (some ⟨g, o + 4, none⟩)) w := by kernel_rfl
theorem Kny (w : World) : (isAgg 62).run Tryz.prog w = .ok false w := rfl
theorem Kh0 (w : World) : (sizeOf 69).run Tryz.prog w = .ok 3 w := rfl
theorem Kqn (w : World) : (isAgg 69).run Tryz.prog w = .ok true w := rfl
theorem KoH (w : World) : (zeroValue 69).run Tryz.prog w = .ok (.agg #[.int .i64 0, .int .u32 0, .slice none 0 0]) w := rfl
theorem KcR (g o : Nat) (w : World) : (Instr.fieldAt 69 (.pointer (some ⟨g, o, none⟩)) 0).run Tryz.prog w = .ok (.pointer (some ⟨g, o + 0, none⟩)) w := by kernel_rfl
theorem KaN (w : World) : (isAgg 3).run Tryz.prog w = .ok false w := rfl
theorem Ksq (g o : Nat) (w : World) : (Instr.fieldAt 54 (.pointer (some ⟨g, o, none⟩)) 2).run Tryz.prog w = .ok (.pointer (some ⟨g, o + 6, none⟩)) w := by kernel_rfl
theorem Kmu (g o : Nat) (w : World) : (Instr.fieldAt 65 (.pointer (some ⟨g, o, none⟩)) 1).run Tryz.prog w = .ok (.pointer (some ⟨g, o + 3, none⟩)) w := by kernel_rfl
theorem KlW (g o : Nat) (w : World) : (Instr.fieldAt 65 (.pointer (some ⟨g, o, none⟩)) 3).run Tryz.prog w = .ok (.pointer (some ⟨g, o + 5, none⟩)) w := by kernel_rfl
theorem Kjv (w : World) : (isAgg 63).run Tryz.prog w = .ok false w := rfl
theorem Kdd (w : World) : (sizeOf 72).run Tryz.prog w = .ok 4 w := rfl
theorem KlD (w : World) : (isAgg 72).run Tryz.prog w = .ok true w := rfl
theorem Kj9 (w : World) : (zeroValue 72).run Tryz.prog w = .ok (.agg #[.int .i64 0, .int .u32 0, .int .u32 0, .slice none 0 0]) w := rfl
theorem KiF (g o : Nat) (w : World) : (Instr.fieldAt 72 (.pointer (some ⟨g, o, none⟩)) 0).run Tryz.prog w = .ok (.pointer (some ⟨g, o + 0, none⟩)) w := by kernel_rfl
theorem KmP (g o : Nat) (w : World) : (Instr.fieldAt 72 (.pointer (some ⟨g, o, none⟩)) 1).run Tryz.prog w = .ok (.pointer (some ⟨g, o + 1, none⟩)) w := by kernel_rfl
theorem KcP (w : World) : (isAgg 42).run Tryz.prog w = .ok false w := rfl
theorem Kjh (g o : Nat) (w : World) : (Instr.fieldAt 69 (.pointer (some ⟨g, o, none⟩)) 1).run Tryz.prog w = .ok (.pointer (some ⟨g, o + 1, none⟩)) w := by kernel_rfl
theorem KlQ (g o : Nat) (w : World) : (Instr.fieldAt 72 (.pointer (some ⟨g, o, none⟩)) 3).run Tryz.prog w = .ok (.pointer (some ⟨g, o + 3, none⟩)) w := by kernel_rfl
theorem Kfc (w : World) : (isAgg 49).run Tryz.prog w = .ok false w := rfl
theorem Ki4 (g o : Nat) (w : World) : (Instr.fieldAt 72 (.pointer (some ⟨g, o, none⟩)) 2).run Tryz.prog w = .ok (.pointer (some ⟨g, o + 2, none⟩)) w := by kernel_rfl
theorem KlF (a0_0 : Int) (w : World) : (Instr.buildSlice 70 1 #[(0, .int .u32 a0_0)]).run Tryz.prog w = .ok (.slice (some ⟨w.heap.size, 0, none⟩) 1 1) (w.alloc (.cells [.int .u32 a0_0].toArray 42)) := by kernel_rfl
theorem KiG : Elem Tryz.prog 70 42 1 4 := Elem.mk' Tryz.underlying70 (z := .int .u32 0) (by kernel_rfl) rfl (by omega) (by omega)
theorem Kdf (w : World) : (sizeOf 76).run Tryz.prog w = .ok 17 w := rfl
theorem Kkr (w : World) : (isAgg 76).run Tryz.prog w = .ok true w := rfl
theorem KiI (w : World) : (zeroValue 76).run Tryz.prog w = .ok (.agg #[.int .i64 0, .int .i64 0, .int .i64 0, .int .i64 0, .int .u32 0, .int .i64 0, .int .i64 0, .int .i64 0, .bool false, .bool false, .int .i64 0, .int .u32 0, .int .i64 0, .int .i64 0, .int .i64 0, .int .i64 0, .int .i64 0]) w := rfl
theorem KkQ (g o : Nat) (w : World) : (Instr.fieldAt 76 (.pointer (some ⟨g, o, none⟩)) 7).run Tryz.prog w = .ok (.pointer (some ⟨g, o + 7, none⟩)) w := by kernel_rfl
theorem Kmd (g o : Nat) (w : World) : (Instr.fieldAt 69 (.pointer (some ⟨g, o, none⟩)) 2).run Tryz.prog w = .ok (.pointer (some ⟨g, o + 2, none⟩)) w := by kernel_rfl
theorem KiP (g o : Nat) (w : World) : (Instr.fieldAt 54 (.pointer (some ⟨g, o, none⟩)) 3).run Tryz.prog w = .ok (.pointer (some ⟨g, o + 7, none⟩)) w := by kernel_rfl
theorem discoverSatisfied_walk (A0 : Option Addr) (n0 c0 : Nat) (l0 : List Int) (w : World) (hb0 : Byt w w.heap.size A0 n0 l0) (hc0 : n0 <= c0) (hm0 : c0 <= maxLen) :
  Calls Tryz.prog 4 #[.slice A0 n0 c0] w fun e w' => e = .returned (.bool true) /\ Below w.heap.size w w' := by
 have hn0 : (n0 : Int) <= 9223372036854775807 := by unfold maxLen at hm0; omega
 refine Kj Tryz.func4 rfl rfl rfl ?_ (Pm.start w);refine zSG (TL.as_ ?_);refine zET (zS (zSG ?_));refine TL.p1 rfl o17 (fun w1 hw => Knw w1) ?_;refine TL.w rfl (Kbx rfl rfl) ?_;refine zET (zd (zk (zT (zSG (TL.mv ?_)))));refine TL.callNew (I := Pm w []) (p := fun cb w => Cod w cb) rfl rfl rfl rfl rfl Tryz.func8 Kqy Kog (fun w1 hw => (Kok A0 n0 c0 l0 w1 ((hb0.below hw.bel).more hw.bel.size) hc0 hn0).mono fun e w2 ⟨h1, h2, h3⟩ => ⟨h1, h2, Kcb h2, h3⟩) Kcp (fun wn hwn => ?_);have hwb := hwn.bel;refine TL.as_ ?_;refine zET (zSG (TL.mv ?_));refine TL.pC (k := 0) _ _ rfl o18 rfl (fun w1 hw hC1 => Kov wn.heap.size w1 hC1) ?_;rintro ⟨s, hs⟩;dsimp only [lC, lN]
 try dsimp only at hs ⊢
 refine TL.mv ?_;refine TL.pL (α := {o : Orc // OrcOk o /\ o.dst = 167774464}) (r := fun x => .agg x.1.cells.toArray) (I' := fun x => Pm wn ([.row (.slice s.num.A s.num.l.length s.num.c) 3 1 s.num.l.length (Kb (ic .i64) s.num.l), .row (.slice s.den.A s.den.l.length s.den.c) 3 1 s.den.l.length (Kb (ic .i64) s.den.l), .abs wn.heap.size (fun w => Cod w wn.heap.size)] ++ (KaY x.1.ps ++ KU []))) rfl o19 (fun w1 hw => (Kqk wn.heap.size w1 (hw.at_ (k := 2) rfl).1 4 5 (by decide) (by decide)).mono fun e w2 ⟨x, h1, h2⟩ => ⟨x, h1, Pm.orcIn (P := [.row (.slice s.num.A s.num.l.length s.num.c) 3 1 s.num.l.length (Kb (ic .i64) s.num.l), .row (.slice s.den.A s.den.l.length s.den.c) 3 1 s.den.l.length (Kb (ic .i64) s.den.l), .abs wn.heap.size (fun w => Cod w wn.heap.size)]) (O := KU []) (hw.cods (k := 2) rfl h2 (Kmj _))⟩) ?_;rintro ⟨o, ho, hod⟩
 try dsimp only at ho hod ⊢
 refine TL.al Kpr fun g4 => ?_;refine TL.al Kr9 fun g5 => ?_;refine TL.pstore (k := 1) (vs := s.cells) rfl rfl rfl rfl rfl rfl rfl KeL (KjI s) (by show 8 <= 8; decide) (L' := ([.blk g5 58 [.int .u32 0, .slice none 0 0], .blk g4 54 s.cells, .row (.slice s.num.A s.num.l.length s.num.c) 3 1 s.num.l.length (Kb (ic .i64) s.num.l), .row (.slice s.den.A s.den.l.length s.den.c) 3 1 s.den.l.length (Kb (ic .i64) s.den.l), .abs wn.heap.size (fun w => Cod w wn.heap.size)] ++ (KaY o.ps ++ KU []))) rfl ?_;refine TL.pstore (k := 0) (vs := o.cells) rfl rfl rfl rfl rfl rfl rfl KjE (Kqv o) (by show 2 <= 2; decide) (L' := ([.blk g5 58 o.cells, .blk g4 54 s.cells, .row (.slice s.num.A s.num.l.length s.num.c) 3 1 s.num.l.length (Kb (ic .i64) s.num.l), .row (.slice s.den.A s.den.l.length s.den.c) 3 1 s.den.l.length (Kb (ic .i64) s.den.l), .abs wn.heap.size (fun w => Cod w wn.heap.size)] ++ (KaY o.ps ++ KU []))) rfl ?_;refine zET (zS ?_);have hsf := hs.1.flows;have hst := hs.1.ttl;have hft : s.flows.toNat * s.ttl.toNat <= 500 := Krk hs;refine zG (TL.v (gV 1 (.agg (s.cells).toArray) KgH KeL) ?_);refine TL.v (gV 0 (.agg (o.cells).toArray) KnT KjE) ?_;refine TL.pM _ _ rfl o20 (fun w1 hw => Kna s o w1 ⟨Kp hw (k := 2) rfl, Kp hw (k := 3) rfl⟩ hs.1 (KsT hw fun q hq => List.mem_of_mem_drop (i := 5) (by show q ∈ KaY o.ps ++ _; exact List.mem_append_left _ hq)) ho (hs.2.1.trans hod.symm) hft) ?_;rintro ⟨⟨⟨Al, cl⟩, lr⟩, hrun, hrunc, hrunm⟩;dsimp only [lC, lN];dsimp only at hrun hrunc hrunm ⊢;have hI := hrun.2.1;have hIl := hI.len;refine TL.rn 5 rfl (zET (zS (TC.cut [(4, .pointer (some ⟨g4, 0, none⟩)), (6, .slice Al lr.length cl), (7, .int .i64 0)] (Pm wn ([.row (.slice Al lr.length cl) 76 17 lr.length (Kb Rs.cells lr), .blk g4 54 s.cells, .row (.slice s.num.A s.num.l.length s.num.c) 3 1 s.num.l.length (Kb (ic .i64) s.num.l), .row (.slice s.den.A s.den.l.length s.den.c) 3 1 s.den.l.length (Kb (ic .i64) s.den.l), .abs wn.heap.size (fun w => Cod w wn.heap.size)] ++ KU [])) ⟨rfl, rfl, rfl, trivial⟩ (fun w1 hw => (fun hw => hw.sel (.cons_cons _ (.cons _ (.cons_cons _ (.cons_cons _ (.cons_cons _ (.cons_cons _ (List.Sublist.refl _)))))))) (KsB (P := [.row (.slice Al lr.length cl) 76 17 lr.length (Kb Rs.cells lr), .blk g5 58 o.cells, .blk g4 54 s.cells, .row (.slice s.num.A s.num.l.length s.num.c) 3 1 s.num.l.length (Kb (ic .i64) s.num.l), .row (.slice s.den.A s.den.l.length s.den.c) 3 1 s.den.l.length (Kb (ic .i64) s.den.l), .abs wn.heap.size (fun w => Cod w wn.heap.size)]) hw)) ?_)));refine zG (TL.mv ?_);refine TL.pL (α := {y : Mp × Int // Kbo lr y.1 y.2}) (r := fun x => .tuple #[.agg x.1.1.cells.toArray, .int .i64 x.1.2]) (I' := fun x => Pm wn ([.row (.slice Al lr.length cl) 76 17 lr.length (Kb Rs.cells lr), .blk g4 54 s.cells, .row (.slice s.num.A s.num.l.length s.num.c) 3 1 s.num.l.length (Kb (ic .i64) s.num.l), .row (.slice s.den.A s.den.l.length s.den.c) 3 1 s.den.l.length (Kb (ic .i64) s.den.l), .abs wn.heap.size (fun w => Cod w wn.heap.size)] ++ KU (x.1.1 :: []))) rfl o21 (fun w1 hw => (Kjb Al cl lr w1 (Kp hw (k := 0) rfl) (by omega) (hI.ok ho (hs.2.1.trans hod.symm))).mono fun e w2 ⟨x, h1, h2⟩ => ⟨x, h1, Pm.mpsIn (P := [.row (.slice Al lr.length cl) 76 17 lr.length (Kb Rs.cells lr), .blk g4 54 s.cells, .row (.slice s.num.A s.num.l.length s.num.c) 3 1 s.num.l.length (Kb (ic .i64) s.num.l), .row (.slice s.den.A s.den.l.length s.den.c) 3 1 s.den.l.length (Kb (ic .i64) s.den.l), .abs wn.heap.size (fun w => Cod w wn.heap.size)]) (ms := []) (hw.addAll h2 (Kqq _))⟩) ?_;rintro ⟨⟨m, em⟩, hbm⟩;dsimp only at hbm ⊢;have hml := KkY (hI.ok ho (hs.2.1.trans hod.symm)) hbm;refine TL.fact (p := MpA m) (fun w1 hw => MpA.of hw (fun q hq => List.mem_of_mem_drop (i := 5) (by exact KdM (by simp) hq))) (fun hmA => ?_);refine TL.rn 3 rfl ?_;refine TL.al Knx fun g8 => ?_;refine TL.pstore (k := 0) (vs := m.cells) rfl rfl rfl rfl rfl rfl rfl KpB (Koe m) (by show 6 <= 6; decide) (L' := ([.blk g8 65 m.cells, .row (.slice Al lr.length cl) 76 17 lr.length (Kb Rs.cells lr), .blk g4 54 s.cells, .row (.slice s.num.A s.num.l.length s.num.c) 3 1 s.num.l.length (Kb (ic .i64) s.num.l), .row (.slice s.den.A s.den.l.length s.den.c) 3 1 s.den.l.length (Kb (ic .i64) s.den.l), .abs wn.heap.size (fun w => Cod w wn.heap.size)] ++ KU [m])) rfl ?_
 refine TL.as_ ?_;refine zET (zS (zS ?_));obtain rfl : em = 0 := hI.build hs.1 ho m em hbm;refine zG (TL.mv ?_);refine TL.w rfl (Ke rfl rfl rfl (fun w => KaX rfl w)) ?_;refine TL.rn 2 rfl (TL.gu ?_);refine TL.w rfl (Ke rfl rfl rfl (fun w => KaX rfl w)) ?_;refine TL.pk ?_;refine zET (zd (zk (zT (zS (zS ?_)))));have hmh := hml.hops;have hme := hml.edges;refine zG (TL.v (gF Ko0) ?_);refine TL.v (gL 0 Kny) ?_;refine TL.v (gN Tryz.underlying62) ?_;refine TL.mv ?_;refine zET (zB (TC.lp (α := {i : Nat // i <= m.hops.l.length}) [4, 6, 8, 45, 46] rfl (fun y => [(47, .int .i64 ((y.1 : Nat) : Int))]) (fun y => Pm wn ([.blk g8 65 m.cells, .row (.slice Al lr.length cl) 76 17 lr.length (Kb Rs.cells lr), .blk g4 54 s.cells, .row (.slice s.num.A s.num.l.length s.num.c) 3 1 s.num.l.length (Kb (ic .i64) s.num.l), .row (.slice s.den.A s.den.l.length s.den.c) 3 1 s.den.l.length (Kb (ic .i64) s.den.l), .abs wn.heap.size (fun w => Cod w wn.heap.size)] ++ KU [m])) (fun y => m.hops.l.length - y.1) (⟨0, Nat.zero_le _⟩) (fun w1 hw => hw) ?_));rintro ⟨i, hi⟩
 try dsimp only at hi ⊢
 refine zSG ?_;refine TL.sp Ko (fun q48 => ?_) (fun q48 => ?_)
 ·refine zET (zS (zc (zk (zT (zS (zB (zSG ?_)))))));have hi49 : i < m.hops.l.length := by omega
  obtain ⟨x49, hx49⟩ := Kq hi49;have hA49 := hmA.hops (by omega);have hfl := (hml.fh _ (List.mem_of_getElem? hx49)).1;refine TL.w rfl (gA (i := i) Tryz.underlying62 Kh0 rfl rfl rfl rfl hA49 (by omega)) ?_;refine TL.w rfl (Kal (off := 0 + i * 3) rfl rfl Kqn Kh0 (KK.len x49) (fun w1 hw j9 u9 h9 => Kgu KK hw (List.mem_of_mem_drop (i := 6) (by exact Kk2 (by simp))) hA49 hx49 j9 u9 h9)) ?_;refine TL.al KoH fun g11 => ?_;refine TL.pstore (k := 0) (vs := x49.cells) rfl rfl rfl rfl rfl rfl rfl Kh0 (KK.one _) (by show 3 <= 3; decide) (L' := ([.blk g11 69 x49.cells, .blk g8 65 m.cells, .row (.slice Al lr.length cl) 76 17 lr.length (Kb Rs.cells lr), .blk g4 54 s.cells, .row (.slice s.num.A s.num.l.length s.num.c) 3 1 s.num.l.length (Kb (ic .i64) s.num.l), .row (.slice s.den.A s.den.l.length s.den.c) 3 1 s.den.l.length (Kb (ic .i64) s.den.l), .abs wn.heap.size (fun w => Cod w wn.heap.size)] ++ KU [m])) rfl ?_;refine zET (zS (zSG (TL.v (gF KcR) ?_)));refine TL.v (gL 0 KaN) ?_;refine TL.v (gF Ksq) ?_;refine TL.v (gL 3 KaN) ?_;refine TL.sp KQ (fun q55 => ?_) (fun q55 => ?_)
  ·refine TL.rn 5 rfl ?_;refine TL.offU rfl rfl rfl rfl rfl ?_;refine TL.offU rfl rfl rfl rfl rfl ?_;refine TL.offU rfl rfl rfl rfl rfl ?_;refine TL.offU rfl rfl rfl rfl rfl ?_;refine TL.offU rfl rfl rfl rfl rfl ?_;refine TL.rn 2 rfl (zET (zc (zx (zX (zM (zT (zG (TL.v (gD ((i + 1 : Nat) : Int)) ?_))))))));refine TL.mv ?_;refine zE ?_;exact TX.rd (⟨i + 1, by omega⟩) (by show m.hops.l.length - (i + 1) < m.hops.l.length - i; omega) (fun w1 hw => hw.sel (.cons _ (.cons_cons _ (.cons_cons _ (.cons_cons _ (.cons_cons _ (.cons_cons _ (.cons_cons _ (List.Sublist.refl _)))))))))
  refine TL.mv ?_;refine TL.ov (gF Kmu) ?_;refine TL.ov (gL 1 KaN) ?_;refine TL.gu ?_;refine TL.sp KB (fun q59 => ?_) (fun q59 => ?_)
  ·refine TL.rn 1 rfl (TL.ov (gF KcR) ?_);refine TL.ov (gL 0 KaN) ?_;refine TL.ov (gF Kmu) ?_;refine TL.ov (gL 1 KaN) ?_;refine TL.gu ?_;refine TL.sp KQ (fun q65 => ?_) (fun q65 => ?_)
   ·refine TL.rn 2 rfl (zET (zc (zx (zX (zM (zT (zG (TL.v (gD ((i + 1 : Nat) : Int)) ?_))))))));refine TL.mv ?_;refine zE ?_;exact TX.rd (⟨i + 1, by omega⟩) (by show m.hops.l.length - (i + 1) < m.hops.l.length - i; omega) (fun w1 hw => hw.sel (.cons _ (.cons_cons _ (.cons_cons _ (.cons_cons _ (.cons_cons _ (.cons_cons _ (.cons_cons _ (List.Sublist.refl _)))))))))
   refine TL.rn 2 rfl (zET (zd (zk (zT (zSG (TL.as_ ?_))))));refine zET (zSG (TL.as_ ?_));refine zET (zS (zSG (TL.v (gF KlW) ?_)));refine TL.v (gL 1 Kjv) ?_;refine TL.v (gN Tryz.underlying63) ?_;refine TL.mv ?_;refine zET (zB (TC.nilrow 42 1 ?_));refine TC.loop_ (α := {y : Nat × (Option Addr × Nat) × List Int // y.1 <= m.edges.l.length /\ (y.2.2 = (KX (m.edges.l.take y.1) x49).map (·.to_)) /\ y.2.2.length <= y.1 /\ y.2.2.length <= y.2.1.2 /\ y.2.1.2 <= maxLen}) (fun y => [(4, .pointer (some ⟨g4, 0, none⟩)), (6, .slice Al lr.length cl), (8, .pointer (some ⟨g8, 0, none⟩)), (45, .slice m.hops.A m.hops.l.length m.hops.c), (46, .int .i64 (m.hops.l.length : Nat)), (47, .int .i64 ((i : Nat) : Int)), (11, .pointer (some ⟨g11, 0, none⟩)), (69, .slice m.edges.A m.edges.l.length m.edges.c), (70, .int .i64 (m.edges.l.length : Nat)), (71, .int .i64 ((y.1.1 : Nat) : Int)), (13, .slice y.1.2.1.1 y.1.2.2.length y.1.2.1.2), (12, .int .i64 ((knE (m.edges.l.take y.1.1) x49 : Nat) : Int))]) (fun y => Pm wn ([.row (.slice y.1.2.1.1 y.1.2.2.length y.1.2.1.2) 42 1 y.1.2.2.length (Kb (ic .u32) y.1.2.2), .blk g11 69 x49.cells, .blk g8 65 m.cells, .row (.slice Al lr.length cl) 76 17 lr.length (Kb Rs.cells lr), .blk g4 54 s.cells, .row (.slice s.num.A s.num.l.length s.num.c) 3 1 s.num.l.length (Kb (ic .i64) s.num.l), .row (.slice s.den.A s.den.l.length s.den.c) 3 1 s.den.l.length (Kb (ic .i64) s.den.l), .abs wn.heap.size (fun w => Cod w wn.heap.size)] ++ KU [m])) (fun y => m.edges.l.length - y.1.1) (⟨(0, (none, 0), []), Nat.zero_le _, by rw [List.take_zero]; rfl, Nat.le_refl _, Nat.le_refl _, Nat.zero_le _⟩) ⟨rfl, rfl, rfl, rfl, rfl, rfl, rfl, rfl, rfl, rfl, rfl, (Ke1 (Ki5 _ _).symm), trivial⟩ (fun w1 hw => hw) ?_;rintro ⟨⟨j, ⟨Ao, co⟩, out⟩, hj, hout, houtl, houtc, houtm⟩;dsimp only at hj hout houtl houtc houtm ⊢;refine zSG ?_;refine TL.sp Ko (fun q72 => ?_) (fun q72 => ?_)
   ·refine zET (zS (zc (zk (zT (zS (zB (zSG ?_)))))));have hi73 : j < m.edges.l.length := by omega
    obtain ⟨x73, hx73⟩ := Kq hi73;have hA73 := hmA.edges (by omega);refine TL.w rfl (gA (i := j) Tryz.underlying63 Kdd rfl rfl rfl rfl hA73 (by omega)) ?_;refine TL.w rfl (Kal (off := 0 + j * 4) rfl rfl KlD Kdd (Kb7.len x73) (fun w1 hw j9 u9 h9 => Kgu Kb7 hw (List.mem_of_mem_drop (i := 8) (by exact KgD (by simp))) hA73 hx73 j9 u9 h9)) ?_;refine TL.al Kj9 fun g15 => ?_;refine TL.pstore (k := 0) (vs := x73.cells) rfl rfl rfl rfl rfl rfl rfl Kdd (Kb7.one _) (by show 4 <= 4; decide) (L' := ([.blk g15 72 x73.cells, .row (.slice Ao out.length co) 42 1 out.length (Kb (ic .u32) out), .blk g11 69 x49.cells, .blk g8 65 m.cells, .row (.slice Al lr.length cl) 76 17 lr.length (Kb Rs.cells lr), .blk g4 54 s.cells, .row (.slice s.num.A s.num.l.length s.num.c) 3 1 s.num.l.length (Kb (ic .i64) s.num.l), .row (.slice s.den.A s.den.l.length s.den.c) 3 1 s.den.l.length (Kb (ic .i64) s.den.l), .abs wn.heap.size (fun w => Cod w wn.heap.size)] ++ KU [m])) rfl ?_;refine zET (zSG (TL.v (gF KiF) ?_));refine TL.v (gL 0 KaN) ?_;refine TL.v (gF KcR) ?_;refine TL.v (gL 2 KaN) ?_;refine TL.sp KG (fun q79 => ?_) (fun q79 => ?_)
    ·refine TL.mv ?_;refine TL.ov (gF KmP) ?_;refine TL.ov (gL 0 KcP) ?_;refine TL.ov (gF Kjh) ?_;refine TL.ov (gL 2 KcP) ?_;refine TL.gu ?_;refine TL.sp KG (fun q85 => ?_) (fun q85 => ?_)
     ·refine TL.pk ?_;refine zET (zc (zSG (TL.mv ?_)));refine TL.v (gF KlQ) ?_;refine TL.v (gL 0 Kfc) ?_;refine TL.v (gN Tryz.underlying49) ?_;refine TL.w rfl (Ke rfl rfl rfl (fun w => Kbd (r := ((knE (m.edges.l.take (j + 1)) x49 : Nat) : Int)) (by rw [KkF hx73 q79 q85]; have h9 := KkO hI hbm (List.mem_of_getElem? hx49) (by omega) j; have h8 := (hml.fe _ (List.mem_of_getElem? hx73)).1; simp only [IntKind.wrap_i64]; omega) w)) ?_;refine TL.as_ ?_;refine zET (zG (TL.mv ?_));refine TL.v (gF Ki4) ?_;refine TL.v (gL 0 KcP) ?_;refine TL.prowS (e := 42) (size := 1) (cs := Kb (ic .u32) [x73.to_]) rfl rfl rfl rfl rfl (fun w => KlF _ w) (by decide) rfl (fun g95 => ?_);refine TL.appendT (k := 2) rfl rfl rfl rfl Tryz.underlying70 KiG rfl rfl rfl (fun w1 hw => K0 hw (k := 0) rfl) (Kx (Km .u32) _) (by show _ * 4 <= _; omega) ((out ++ [x73.to_]).length) (by rw [List.length_append]; rfl) (Kb (ic .u32) (out ++ [x73.to_])) ((Kz _ _).symm) (fun A96 c96 hA961 hA962 => ?_);refine TL.as_ ?_;refine zE (zN (zT (zG (TL.v (gD ((j + 1 : Nat) : Int)) ?_))));refine TL.mv ?_;refine zE ?_;exact TX.rd (⟨(j + 1, (A96, c96), out ++ [x73.to_]), by dsimp only; omega, by dsimp only; rw [Kf5 hx73 q79 q85, List.map_append, <- hout]; rfl, by dsimp only; rw [List.length_append]; show out.length + 1 <= _; omega, hA961, hA962⟩) (by show m.edges.l.length - (j + 1) < m.edges.l.length - j; omega) (fun w1 hw => hw.sel (.cons _ (.cons _ (.cons_cons _ (.cons_cons _ (.cons_cons _ (.cons_cons _ (.cons_cons _ (.cons_cons _ (.cons_cons _ (.cons_cons _ (List.Sublist.refl _))))))))))))
     refine TL.pk ?_;refine zET (zd (zk (zN (zT (zG (TL.v (gD ((j + 1 : Nat) : Int)) ?_))))));refine TL.mv ?_;refine zE ?_;exact TX.round (⟨(j + 1, (Ao, co), out), by dsimp only; omega, by dsimp only; rw [Keo hx73 (by omega)]; exact hout, by dsimp only; omega, houtc, houtm⟩) (by show m.edges.l.length - (j + 1) < m.edges.l.length - j; omega) ⟨rfl, rfl, rfl, rfl, rfl, rfl, rfl, rfl, rfl, rfl, rfl, (KcE (Ke9 hx73 (by omega))), trivial⟩ (fun w1 hw => hw.sel (.cons _ (.cons_cons _ (.cons_cons _ (.cons_cons _ (.cons_cons _ (.cons_cons _ (.cons_cons _ (.cons_cons _ (.cons_cons _ (List.Sublist.refl _)))))))))))
    refine TL.rn 7 rfl (zET (zd (zk (zN (zT (zG (TL.v (gD ((j + 1 : Nat) : Int)) ?_)))))));refine TL.mv ?_;refine zE ?_;exact TX.round (⟨(j + 1, (Ao, co), out), by dsimp only; omega, by dsimp only; rw [Keo hx73 (by omega)]; exact hout, by dsimp only; omega, houtc, houtm⟩) (by show m.edges.l.length - (j + 1) < m.edges.l.length - j; omega) ⟨rfl, rfl, rfl, rfl, rfl, rfl, rfl, rfl, rfl, rfl, rfl, (KcE (Ke9 hx73 (by omega))), trivial⟩ (fun w1 hw => hw.sel (.cons _ (.cons_cons _ (.cons_cons _ (.cons_cons _ (.cons_cons _ (.cons_cons _ (.cons_cons _ (.cons_cons _ (.cons_cons _ (List.Sublist.refl _)))))))))))
   refine zET (zS (zd (zx (zX (zX (zM (zT (zS ?_))))))));have hkn : knE (m.edges.l.take j) x49 = knE m.edges.l x49 := by rw [List.take_of_length_le (by omega)]
   have hol : out.length = (KX m.edges.l x49).length := by rw [hout, List.length_map, List.take_of_length_le (by omega)]
   refine zG (TL.as_ ?_);refine zET (zS (zSG (TL.mv ?_)));refine TL.v (gN Tryz.underlying27) ?_;refine TL.mv ?_;refine zET (zB (TC.loop_ (α := {k : Nat // k <= lr.length}) (fun y => [(4, .pointer (some ⟨g4, 0, none⟩)), (6, .slice Al lr.length cl), (8, .pointer (some ⟨g8, 0, none⟩)), (45, .slice m.hops.A m.hops.l.length m.hops.c), (46, .int .i64 (m.hops.l.length : Nat)), (47, .int .i64 ((i : Nat) : Int)), (11, .pointer (some ⟨g11, 0, none⟩)), (12, .int .i64 ((knE (m.edges.l.take j) x49 : Nat) : Int)), (13, .slice Ao out.length co), (98, .slice Al lr.length cl), (99, .int .i64 (lr.length : Nat)), (100, .int .i64 ((y.1 : Nat) : Int)), (16, .int .i64 ((prN (lr.take y.1) x49 : Nat) : Int))]) (fun y => Pm wn ([.row (.slice Ao out.length co) 42 1 out.length (Kb (ic .u32) out), .blk g11 69 x49.cells, .blk g8 65 m.cells, .row (.slice Al lr.length cl) 76 17 lr.length (Kb Rs.cells lr), .blk g4 54 s.cells, .row (.slice s.num.A s.num.l.length s.num.c) 3 1 s.num.l.length (Kb (ic .i64) s.num.l), .row (.slice s.den.A s.den.l.length s.den.c) 3 1 s.den.l.length (Kb (ic .i64) s.den.l), .abs wn.heap.size (fun w => Cod w wn.heap.size)] ++ KU [m])) (fun y => lr.length - y.1) (⟨0, Nat.zero_le _⟩) ⟨rfl, rfl, rfl, rfl, rfl, rfl, rfl, rfl, rfl, rfl, rfl, rfl, (Ke1 (Kj6 _ _).symm), trivial⟩ (fun w1 hw => hw) ?_));rintro ⟨k, hk⟩
   try dsimp only at hk ⊢
   refine zSG ?_;refine TL.sp Ko (fun q101 => ?_) (fun q101 => ?_)
   ·refine zET (zS (zc (zk (zT (zS (zB (zSG ?_)))))));refine TL.fact (p := ∃ g, Al = some ⟨g, 0, none⟩) (fun w1 hw => Kci hw (k := 3) rfl (by omega)) ?_;rintro ⟨g_Al, rfl⟩;have hi102 : k < lr.length := by omega
    obtain ⟨x102, hx102⟩ := Kq hi102;refine TL.w rfl (gA (i := k) Tryz.underlying27 Kdf rfl rfl rfl rfl rfl (by omega)) ?_;refine TL.w rfl (Kal (off := 0 + k * 17) rfl rfl Kkr Kdf (KJ.len x102) (fun w1 hw j9 u9 h9 => KN KJ hw (q := 3) rfl hx102 j9 u9 h9)) ?_;refine TL.al KiI fun g18 => ?_;refine TL.pstore (k := 0) (vs := x102.cells) rfl rfl rfl rfl rfl rfl rfl Kdf (KJ.one _) (by show 17 <= 17; decide) (L' := ([.blk g18 76 x102.cells, .row (.slice Ao out.length co) 42 1 out.length (Kb (ic .u32) out), .blk g11 69 x49.cells, .blk g8 65 m.cells, .row (.slice (some ⟨g_Al, 0, none⟩) lr.length cl) 76 17 lr.length (Kb Rs.cells lr), .blk g4 54 s.cells, .row (.slice s.num.A s.num.l.length s.num.c) 3 1 s.num.l.length (Kb (ic .i64) s.num.l), .row (.slice s.den.A s.den.l.length s.den.c) 3 1 s.den.l.length (Kb (ic .i64) s.den.l), .abs wn.heap.size (fun w => Cod w wn.heap.size)] ++ KU [m])) rfl ?_;refine zET (zSG (TL.v (gF KkQ) ?_));refine TL.v (gL 0 KaN) ?_;refine TL.v (gF KcR) ?_;refine TL.v (gL 2 KaN) ?_;refine TL.sp KG (fun q108 => ?_) (fun q108 => ?_)
    ·refine zET (zc (zG (TL.mv ?_)));refine TL.w rfl (Ke rfl rfl rfl (fun w => Kbd (r := ((prN (lr.take (k + 1)) x49 : Nat) : Int)) (by rw [Kl0 hx102 q108]; have h9 := Kkx (lr.take k) x49; have h8 := KlY lr k; simp only [IntKind.wrap_i64]; omega) w)) ?_;refine TL.as_ ?_;refine zE (zN (zT (zG (TL.v (gD ((k + 1 : Nat) : Int)) ?_))));refine TL.mv ?_;refine zE ?_;exact TX.rd (⟨k + 1, by omega⟩) (by show lr.length - (k + 1) < lr.length - k; omega) (fun w1 hw => hw.sel (.cons _ (.cons_cons _ (.cons_cons _ (.cons_cons _ (.cons_cons _ (.cons_cons _ (.cons_cons _ (.cons_cons _ (.cons_cons _ (List.Sublist.refl _)))))))))))
    refine zET (zd (zk (zN (zT (zG (TL.v (gD ((k + 1 : Nat) : Int)) ?_))))));refine TL.mv ?_;refine zE ?_;exact TX.round (⟨k + 1, by omega⟩) (by show lr.length - (k + 1) < lr.length - k; omega) ⟨rfl, rfl, rfl, rfl, rfl, rfl, rfl, rfl, rfl, rfl, rfl, rfl, (KcE (KlZ hx102 q108)), trivial⟩ (fun w1 hw => hw.sel (.cons _ (.cons_cons _ (.cons_cons _ (.cons_cons _ (.cons_cons _ (.cons_cons _ (.cons_cons _ (.cons_cons _ (.cons_cons _ (List.Sublist.refl _)))))))))))
   refine zET (zS (zd (zx (zX (zX (zM (zT (zS ?_))))))));have hpn : prN (lr.take k) x49 = prN lr x49 := by rw [List.take_of_length_le (by omega)]
   refine zG (TL.mv ?_);refine TL.v (gV 4 (.agg (s.cells).toArray) KgH KeL) ?_;refine TL.mv ?_;refine TL.v (gN Tryz.underlying70) ?_;refine TL.w rfl (Kh7 rfl rfl rfl) ?_;refine TL.p1 rfl o22 (fun w1 hw => Khf s (max out.length 1) w1 ⟨Kp hw (k := 5) rfl, Kp hw (k := 6) rfl⟩ hs.1 (by omega) (by omega)) ?_;refine TL.sp Ko (fun q118 => ?_) (fun q118 => ?_)
   ·refine TL.rn 2 rfl (TL.ov (gF Kmd) ?_);refine TL.ov (gL 1 Kfc) ?_;refine TL.ov (gN Tryz.underlying49) ?_;refine TL.gu ?_;refine TL.sp Ko (fun q124 => ?_) (fun q124 => ?_)
    ·exfalso; exact (KfN hI hrun hs.1 hbm (List.mem_of_getElem? hx49) (by omega) (by omega) (by rw [<- hkn, <- hol]; exact q118)).1 (by omega)
    refine TL.rn 2 rfl (TL.ov (gF KiP) ?_);refine TL.ov (gL 4 KaN) ?_;refine TL.gu ?_;refine TL.sp Ko (fun q129 => ?_) (fun q129 => ?_)
    ·exfalso; exact (KfN hI hrun hs.1 hbm (List.mem_of_getElem? hx49) (by omega) (by omega) (by rw [<- hkn, <- hol]; exact q118)).2 (by omega)
    refine TL.rn 2 rfl (zET (zd (zk (zN (zT (zG (TL.v (gD ((i + 1 : Nat) : Int)) ?_)))))));refine TL.mv ?_;refine zE ?_;exact TX.rd (⟨i + 1, by omega⟩) (by show m.hops.l.length - (i + 1) < m.hops.l.length - i; omega) (fun w1 hw => hw.sel (.cons _ (.cons _ (.cons_cons _ (.cons_cons _ (.cons_cons _ (.cons_cons _ (.cons_cons _ (.cons_cons _ (List.Sublist.refl _))))))))))
   refine TL.rn 7 rfl ?_;refine TL.offU rfl rfl rfl rfl rfl ?_;refine TL.offU rfl rfl rfl rfl rfl ?_;refine TL.offU rfl rfl rfl rfl rfl ?_;refine TL.offU rfl rfl rfl rfl rfl ?_;refine TL.rn 2 rfl (zET (zd (zk (zN (zT (zG (TL.v (gD ((i + 1 : Nat) : Int)) ?_)))))));refine TL.mv ?_;refine zE ?_;exact TX.rd (⟨i + 1, by omega⟩) (by show m.hops.l.length - (i + 1) < m.hops.l.length - i; omega) (fun w1 hw => hw.sel (.cons _ (.cons _ (.cons_cons _ (.cons_cons _ (.cons_cons _ (.cons_cons _ (.cons_cons _ (.cons_cons _ (List.Sublist.refl _))))))))))
  refine TL.rn 8 rfl (zET (zd (zk (zT (zSG (TL.as_ ?_))))));refine zET (zSG (TL.as_ ?_));refine zET (zS (zSG (TL.v (gF KlW) ?_)));refine TL.v (gL 1 Kjv) ?_;refine TL.v (gN Tryz.underlying63) ?_;refine TL.mv ?_;refine zET (zB (TC.nilrow 42 1 ?_));refine TC.loop_ (α := {y : Nat × (Option Addr × Nat) × List Int // y.1 <= m.edges.l.length /\ (y.2.2 = (KX (m.edges.l.take y.1) x49).map (·.to_)) /\ y.2.2.length <= y.1 /\ y.2.2.length <= y.2.1.2 /\ y.2.1.2 <= maxLen}) (fun y => [(4, .pointer (some ⟨g4, 0, none⟩)), (6, .slice Al lr.length cl), (8, .pointer (some ⟨g8, 0, none⟩)), (45, .slice m.hops.A m.hops.l.length m.hops.c), (46, .int .i64 (m.hops.l.length : Nat)), (47, .int .i64 ((i : Nat) : Int)), (11, .pointer (some ⟨g11, 0, none⟩)), (69, .slice m.edges.A m.edges.l.length m.edges.c), (70, .int .i64 (m.edges.l.length : Nat)), (71, .int .i64 ((y.1.1 : Nat) : Int)), (13, .slice y.1.2.1.1 y.1.2.2.length y.1.2.1.2), (12, .int .i64 ((knE (m.edges.l.take y.1.1) x49 : Nat) : Int))]) (fun y => Pm wn ([.row (.slice y.1.2.1.1 y.1.2.2.length y.1.2.1.2) 42 1 y.1.2.2.length (Kb (ic .u32) y.1.2.2), .blk g11 69 x49.cells, .blk g8 65 m.cells, .row (.slice Al lr.length cl) 76 17 lr.length (Kb Rs.cells lr), .blk g4 54 s.cells, .row (.slice s.num.A s.num.l.length s.num.c) 3 1 s.num.l.length (Kb (ic .i64) s.num.l), .row (.slice s.den.A s.den.l.length s.den.c) 3 1 s.den.l.length (Kb (ic .i64) s.den.l), .abs wn.heap.size (fun w => Cod w wn.heap.size)] ++ KU [m])) (fun y => m.edges.l.length - y.1.1) (⟨(0, (none, 0), []), Nat.zero_le _, by rw [List.take_zero]; rfl, Nat.le_refl _, Nat.le_refl _, Nat.zero_le _⟩) ⟨rfl, rfl, rfl, rfl, rfl, rfl, rfl, rfl, rfl, rfl, rfl, (Ke1 (Ki5 _ _).symm), trivial⟩ (fun w1 hw => hw) ?_;rintro ⟨⟨j, ⟨Ao, co⟩, out⟩, hj, hout, houtl, houtc, houtm⟩;dsimp only at hj hout houtl houtc houtm ⊢;refine zSG ?_;refine TL.sp Ko (fun q72 => ?_) (fun q72 => ?_)
  ·refine zET (zS (zc (zk (zT (zS (zB (zSG ?_)))))));have hi73 : j < m.edges.l.length := by omega
   obtain ⟨x73, hx73⟩ := Kq hi73;have hA73 := hmA.edges (by omega);refine TL.w rfl (gA (i := j) Tryz.underlying63 Kdd rfl rfl rfl rfl hA73 (by omega)) ?_;refine TL.w rfl (Kal (off := 0 + j * 4) rfl rfl KlD Kdd (Kb7.len x73) (fun w1 hw j9 u9 h9 => Kgu Kb7 hw (List.mem_of_mem_drop (i := 8) (by exact KgD (by simp))) hA73 hx73 j9 u9 h9)) ?_;refine TL.al Kj9 fun g15 => ?_;refine TL.pstore (k := 0) (vs := x73.cells) rfl rfl rfl rfl rfl rfl rfl Kdd (Kb7.one _) (by show 4 <= 4; decide) (L' := ([.blk g15 72 x73.cells, .row (.slice Ao out.length co) 42 1 out.length (Kb (ic .u32) out), .blk g11 69 x49.cells, .blk g8 65 m.cells, .row (.slice Al lr.length cl) 76 17 lr.length (Kb Rs.cells lr), .blk g4 54 s.cells, .row (.slice s.num.A s.num.l.length s.num.c) 3 1 s.num.l.length (Kb (ic .i64) s.num.l), .row (.slice s.den.A s.den.l.length s.den.c) 3 1 s.den.l.length (Kb (ic .i64) s.den.l), .abs wn.heap.size (fun w => Cod w wn.heap.size)] ++ KU [m])) rfl ?_;refine zET (zSG (TL.v (gF KiF) ?_));refine TL.v (gL 0 KaN) ?_;refine TL.v (gF KcR) ?_;refine TL.v (gL 2 KaN) ?_;refine TL.sp KG (fun q79 => ?_) (fun q79 => ?_)
   ·refine TL.mv ?_;refine TL.ov (gF KmP) ?_;refine TL.ov (gL 0 KcP) ?_;refine TL.ov (gF Kjh) ?_;refine TL.ov (gL 2 KcP) ?_;refine TL.gu ?_;refine TL.sp KG (fun q85 => ?_) (fun q85 => ?_)
    ·refine TL.pk ?_;refine zET (zc (zSG (TL.mv ?_)));refine TL.v (gF KlQ) ?_;refine TL.v (gL 0 Kfc) ?_;refine TL.v (gN Tryz.underlying49) ?_;refine TL.w rfl (Ke rfl rfl rfl (fun w => Kbd (r := ((knE (m.edges.l.take (j + 1)) x49 : Nat) : Int)) (by rw [KkF hx73 q79 q85]; have h9 := KkO hI hbm (List.mem_of_getElem? hx49) (by omega) j; have h8 := (hml.fe _ (List.mem_of_getElem? hx73)).1; simp only [IntKind.wrap_i64]; omega) w)) ?_;refine TL.as_ ?_;refine zET (zG (TL.mv ?_));refine TL.v (gF Ki4) ?_;refine TL.v (gL 0 KcP) ?_;refine TL.prowS (e := 42) (size := 1) (cs := Kb (ic .u32) [x73.to_]) rfl rfl rfl rfl rfl (fun w => KlF _ w) (by decide) rfl (fun g95 => ?_);refine TL.appendT (k := 2) rfl rfl rfl rfl Tryz.underlying70 KiG rfl rfl rfl (fun w1 hw => K0 hw (k := 0) rfl) (Kx (Km .u32) _) (by show _ * 4 <= _; omega) ((out ++ [x73.to_]).length) (by rw [List.length_append]; rfl) (Kb (ic .u32) (out ++ [x73.to_])) ((Kz _ _).symm) (fun A96 c96 hA961 hA962 => ?_);refine TL.as_ ?_;refine zE (zN (zT (zG (TL.v (gD ((j + 1 : Nat) : Int)) ?_))));refine TL.mv ?_;refine zE ?_;exact TX.rd (⟨(j + 1, (A96, c96), out ++ [x73.to_]), by dsimp only; omega, by dsimp only; rw [Kf5 hx73 q79 q85, List.map_append, <- hout]; rfl, by dsimp only; rw [List.length_append]; show out.length + 1 <= _; omega, hA961, hA962⟩) (by show m.edges.l.length - (j + 1) < m.edges.l.length - j; omega) (fun w1 hw => hw.sel (.cons _ (.cons _ (.cons_cons _ (.cons_cons _ (.cons_cons _ (.cons_cons _ (.cons_cons _ (.cons_cons _ (.cons_cons _ (.cons_cons _ (List.Sublist.refl _))))))))))))
    refine TL.pk ?_;refine zET (zd (zk (zN (zT (zG (TL.v (gD ((j + 1 : Nat) : Int)) ?_))))));refine TL.mv ?_;refine zE ?_;exact TX.round (⟨(j + 1, (Ao, co), out), by dsimp only; omega, by dsimp only; rw [Keo hx73 (by omega)]; exact hout, by dsimp only; omega, houtc, houtm⟩) (by show m.edges.l.length - (j + 1) < m.edges.l.length - j; omega) ⟨rfl, rfl, rfl, rfl, rfl, rfl, rfl, rfl, rfl, rfl, rfl, (KcE (Ke9 hx73 (by omega))), trivial⟩ (fun w1 hw => hw.sel (.cons _ (.cons_cons _ (.cons_cons _ (.cons_cons _ (.cons_cons _ (.cons_cons _ (.cons_cons _ (.cons_cons _ (.cons_cons _ (List.Sublist.refl _)))))))))))
   refine TL.rn 7 rfl (zET (zd (zk (zN (zT (zG (TL.v (gD ((j + 1 : Nat) : Int)) ?_)))))));refine TL.mv ?_;refine zE ?_;exact TX.round (⟨(j + 1, (Ao, co), out), by dsimp only; omega, by dsimp only; rw [Keo hx73 (by omega)]; exact hout, by dsimp only; omega, houtc, houtm⟩) (by show m.edges.l.length - (j + 1) < m.edges.l.length - j; omega) ⟨rfl, rfl, rfl, rfl, rfl, rfl, rfl, rfl, rfl, rfl, rfl, (KcE (Ke9 hx73 (by omega))), trivial⟩ (fun w1 hw => hw.sel (.cons _ (.cons_cons _ (.cons_cons _ (.cons_cons _ (.cons_cons _ (.cons_cons _ (.cons_cons _ (.cons_cons _ (.cons_cons _ (List.Sublist.refl _)))))))))))
  refine zET (zS (zd (zx (zX (zX (zM (zT (zS ?_))))))));have hkn : knE (m.edges.l.take j) x49 = knE m.edges.l x49 := by rw [List.take_of_length_le (by omega)]
  have hol : out.length = (KX m.edges.l x49).length := by rw [hout, List.length_map, List.take_of_length_le (by omega)]
  refine zG (TL.as_ ?_);refine zET (zS (zSG (TL.mv ?_)));refine TL.v (gN Tryz.underlying27) ?_;refine TL.mv ?_;refine zET (zB (TC.loop_ (α := {k : Nat // k <= lr.length}) (fun y => [(4, .pointer (some ⟨g4, 0, none⟩)), (6, .slice Al lr.length cl), (8, .pointer (some ⟨g8, 0, none⟩)), (45, .slice m.hops.A m.hops.l.length m.hops.c), (46, .int .i64 (m.hops.l.length : Nat)), (47, .int .i64 ((i : Nat) : Int)), (11, .pointer (some ⟨g11, 0, none⟩)), (12, .int .i64 ((knE (m.edges.l.take j) x49 : Nat) : Int)), (13, .slice Ao out.length co), (98, .slice Al lr.length cl), (99, .int .i64 (lr.length : Nat)), (100, .int .i64 ((y.1 : Nat) : Int)), (16, .int .i64 ((prN (lr.take y.1) x49 : Nat) : Int))]) (fun y => Pm wn ([.row (.slice Ao out.length co) 42 1 out.length (Kb (ic .u32) out), .blk g11 69 x49.cells, .blk g8 65 m.cells, .row (.slice Al lr.length cl) 76 17 lr.length (Kb Rs.cells lr), .blk g4 54 s.cells, .row (.slice s.num.A s.num.l.length s.num.c) 3 1 s.num.l.length (Kb (ic .i64) s.num.l), .row (.slice s.den.A s.den.l.length s.den.c) 3 1 s.den.l.length (Kb (ic .i64) s.den.l), .abs wn.heap.size (fun w => Cod w wn.heap.size)] ++ KU [m])) (fun y => lr.length - y.1) (⟨0, Nat.zero_le _⟩) ⟨rfl, rfl, rfl, rfl, rfl, rfl, rfl, rfl, rfl, rfl, rfl, rfl, (Ke1 (Kj6 _ _).symm), trivial⟩ (fun w1 hw => hw) ?_));rintro ⟨k, hk⟩
  try dsimp only at hk ⊢
  refine zSG ?_;refine TL.sp Ko (fun q101 => ?_) (fun q101 => ?_)
  ·refine zET (zS (zc (zk (zT (zS (zB (zSG ?_)))))));refine TL.fact (p := ∃ g, Al = some ⟨g, 0, none⟩) (fun w1 hw => Kci hw (k := 3) rfl (by omega)) ?_;rintro ⟨g_Al, rfl⟩;have hi102 : k < lr.length := by omega
   obtain ⟨x102, hx102⟩ := Kq hi102;refine TL.w rfl (gA (i := k) Tryz.underlying27 Kdf rfl rfl rfl rfl rfl (by omega)) ?_;refine TL.w rfl (Kal (off := 0 + k * 17) rfl rfl Kkr Kdf (KJ.len x102) (fun w1 hw j9 u9 h9 => KN KJ hw (q := 3) rfl hx102 j9 u9 h9)) ?_;refine TL.al KiI fun g18 => ?_;refine TL.pstore (k := 0) (vs := x102.cells) rfl rfl rfl rfl rfl rfl rfl Kdf (KJ.one _) (by show 17 <= 17; decide) (L' := ([.blk g18 76 x102.cells, .row (.slice Ao out.length co) 42 1 out.length (Kb (ic .u32) out), .blk g11 69 x49.cells, .blk g8 65 m.cells, .row (.slice (some ⟨g_Al, 0, none⟩) lr.length cl) 76 17 lr.length (Kb Rs.cells lr), .blk g4 54 s.cells, .row (.slice s.num.A s.num.l.length s.num.c) 3 1 s.num.l.length (Kb (ic .i64) s.num.l), .row (.slice s.den.A s.den.l.length s.den.c) 3 1 s.den.l.length (Kb (ic .i64) s.den.l), .abs wn.heap.size (fun w => Cod w wn.heap.size)] ++ KU [m])) rfl ?_;refine zET (zSG (TL.v (gF KkQ) ?_));refine TL.v (gL 0 KaN) ?_;refine TL.v (gF KcR) ?_;refine TL.v (gL 2 KaN) ?_;refine TL.sp KG (fun q108 => ?_) (fun q108 => ?_)
   ·refine zET (zc (zG (TL.mv ?_)));refine TL.w rfl (Ke rfl rfl rfl (fun w => Kbd (r := ((prN (lr.take (k + 1)) x49 : Nat) : Int)) (by rw [Kl0 hx102 q108]; have h9 := Kkx (lr.take k) x49; have h8 := KlY lr k; simp only [IntKind.wrap_i64]; omega) w)) ?_;refine TL.as_ ?_;refine zE (zN (zT (zG (TL.v (gD ((k + 1 : Nat) : Int)) ?_))));refine TL.mv ?_;refine zE ?_;exact TX.rd (⟨k + 1, by omega⟩) (by show lr.length - (k + 1) < lr.length - k; omega) (fun w1 hw => hw.sel (.cons _ (.cons_cons _ (.cons_cons _ (.cons_cons _ (.cons_cons _ (.cons_cons _ (.cons_cons _ (.cons_cons _ (.cons_cons _ (List.Sublist.refl _)))))))))))
   refine zET (zd (zk (zN (zT (zG (TL.v (gD ((k + 1 : Nat) : Int)) ?_))))));refine TL.mv ?_;refine zE ?_;exact TX.round (⟨k + 1, by omega⟩) (by show lr.length - (k + 1) < lr.length - k; omega) ⟨rfl, rfl, rfl, rfl, rfl, rfl, rfl, rfl, rfl, rfl, rfl, rfl, (KcE (KlZ hx102 q108)), trivial⟩ (fun w1 hw => hw.sel (.cons _ (.cons_cons _ (.cons_cons _ (.cons_cons _ (.cons_cons _ (.cons_cons _ (.cons_cons _ (.cons_cons _ (.cons_cons _ (List.Sublist.refl _)))))))))))
  refine zET (zS (zd (zx (zX (zX (zM (zT (zS ?_))))))));have hpn : prN (lr.take k) x49 = prN lr x49 := by rw [List.take_of_length_le (by omega)]
  refine zG (TL.mv ?_);refine TL.v (gV 4 (.agg (s.cells).toArray) KgH KeL) ?_;refine TL.mv ?_;refine TL.v (gN Tryz.underlying70) ?_;refine TL.w rfl (Kh7 rfl rfl rfl) ?_;refine TL.p1 rfl o22 (fun w1 hw => Khf s (max out.length 1) w1 ⟨Kp hw (k := 5) rfl, Kp hw (k := 6) rfl⟩ hs.1 (by omega) (by omega)) ?_;refine TL.sp Ko (fun q118 => ?_) (fun q118 => ?_)
  ·refine TL.rn 2 rfl (TL.ov (gF Kmd) ?_);refine TL.ov (gL 1 Kfc) ?_;refine TL.ov (gN Tryz.underlying49) ?_;refine TL.gu ?_;refine TL.sp Ko (fun q124 => ?_) (fun q124 => ?_)
   ·exfalso; exact (KfN hI hrun hs.1 hbm (List.mem_of_getElem? hx49) (by omega) (by omega) (by rw [<- hkn, <- hol]; exact q118)).1 (by omega)
   refine TL.rn 2 rfl (TL.ov (gF KiP) ?_);refine TL.ov (gL 4 KaN) ?_;refine TL.gu ?_;refine TL.sp Ko (fun q129 => ?_) (fun q129 => ?_)
   ·exfalso; exact (KfN hI hrun hs.1 hbm (List.mem_of_getElem? hx49) (by omega) (by omega) (by rw [<- hkn, <- hol]; exact q118)).2 (by omega)
   refine TL.rn 2 rfl (zET (zd (zk (zN (zT (zG (TL.v (gD ((i + 1 : Nat) : Int)) ?_)))))));refine TL.mv ?_;refine zE ?_;exact TX.rd (⟨i + 1, by omega⟩) (by show m.hops.l.length - (i + 1) < m.hops.l.length - i; omega) (fun w1 hw => hw.sel (.cons _ (.cons _ (.cons_cons _ (.cons_cons _ (.cons_cons _ (.cons_cons _ (.cons_cons _ (.cons_cons _ (List.Sublist.refl _))))))))))
  refine TL.rn 7 rfl ?_;refine TL.offU rfl rfl rfl rfl rfl ?_;refine TL.offU rfl rfl rfl rfl rfl ?_;refine TL.offU rfl rfl rfl rfl rfl ?_;refine TL.offU rfl rfl rfl rfl rfl ?_;refine TL.rn 2 rfl (zET (zd (zk (zN (zT (zG (TL.v (gD ((i + 1 : Nat) : Int)) ?_)))))));refine TL.mv ?_;refine zE ?_;exact TX.rd (⟨i + 1, by omega⟩) (by show m.hops.l.length - (i + 1) < m.hops.l.length - i; omega) (fun w1 hw => hw.sel (.cons _ (.cons _ (.cons_cons _ (.cons_cons _ (.cons_cons _ (.cons_cons _ (.cons_cons _ (.cons_cons _ (List.Sublist.refl _))))))))))
 refine zET (zS (zd (zx (zX (zX (zM (zT (zSG (TL.as_ ?_)))))))));refine zET (zr ?_);exact Kg Tryz.results4 rfl (fun w1 hw => ⟨rfl, hwb.trans (hw.bel.mono hwb.size)⟩)
end Go.Proofs.YtcicmplfmcloiaaGreat
