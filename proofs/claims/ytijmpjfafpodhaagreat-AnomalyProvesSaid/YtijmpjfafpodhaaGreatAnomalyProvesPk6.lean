/-
  Texts of the proof, joined: BdRad, BdRX, AnLP, AnOpen.
-/
import Derived.Test.YtijmpjfafpodhaaGreatAnomalyProvesPk4
import Derived.Test.YtijmpjfafpodhaaGreatAnomalyProvesPk5
import Derived.Test.YtijmpjfafpodhaaGreatAnomalyProvesPk3
import Derived.Test.YtijmpjfafpodhaaGreatAnomalyProvesPk2
import Derived.Test.YtijmpjfafpodhaaGreatAnomalyProvesPk1
import Derived.DataElems
set_option linter.unusedVariables false
set_option linter.unusedSimpArgs false
namespace Go.Proofs.YtijmpjfafpodhaaGreat
set_option maxHeartbeats 1000000
open Go.RowKit
set_option maxRecDepth 20000
theorem mem_ins {es : List En} {k : Nat} {x z : En} (h : z ∈ es.take k ++ [x] ++ es.drop k) : z ∈ es ∨ z = x := by
 rcases List.mem_append.1 h with h | h
 ·rcases List.mem_append.1 h with h | h
  ·exact .inl (List.mem_of_mem_take h)
  exact .inr (List.mem_singleton.1 h)
 exact .inl (List.mem_of_mem_drop h)
def shlF (a n : Int) : Int := IntKind.u32.wrap (a / 2 ^ (32 - n).toNat * 2 ^ (32 - n).toNat)
def lens : List Int := [8, 24, 28, 29, 30, 30, 31, 32]
def EnG (e : En) : Prop := (167772160 ≤ e.addr ∧ e.addr < 184549376) ∧ e.len ∈ lens ∧ 1 ≤ e.prov ∧ e.prov ≤ 4
theorem EnG.ok {e : En} (h : EnG e) : e.Ok := ⟨by have := h.1.1; omega, by have := h.1.2; omega⟩
theorem shl_rng {a n : Int} (ha : 167772161 ≤ a ∧ a ≤ 167772173) (hn : n ∈ lens) : 167772160 ≤ shlF a n ∧ shlF a n < 184549376 := by
 have key : ∀ k : Int, 0 < k → k ≤ 16777216 → 167772160 % k = 0 → 167772160 ≤ IntKind.u32.wrap (a / k * k) ∧ IntKind.u32.wrap (a / k * k) < 184549376 := fun k h0 h1 h2 => by
  have e1 : a / k * k ≤ a := Int.ediv_mul_le a (by omega)
  have e2 : 167772160 ≤ a / k * k := by
   have h3 : 167772160 / k * k = 167772160 := Int.ediv_mul_cancel (Int.dvd_of_emod_eq_zero h2)
   have h4 : 167772160 / k ≤ a / k := Int.ediv_le_ediv h0 (by omega)
   have h5 := Int.mul_le_mul_of_nonneg_right h4 (Int.le_of_lt h0)
   omega
  rw [IntKind.wrap_u32]
  omega
 simp only [lens, List.mem_cons, List.not_mem_nil, or_false] at hn
 unfold shlF
 rcases hn with rfl | rfl | rfl | rfl | rfl | rfl | rfl | rfl
 ·exact key 16777216 (by decide) (by decide) (by decide)
 ·exact key 256 (by decide) (by decide) (by decide)
 ·exact key 16 (by decide) (by decide) (by decide)
 ·exact key 8 (by decide) (by decide) (by decide)
 ·exact key 4 (by decide) (by decide) (by decide)
 ·exact key 4 (by decide) (by decide) (by decide)
 ·exact key 2 (by decide) (by decide) (by decide)
 exact key 1 (by decide) (by decide) (by decide)
theorem EnG.mk_ {a n f t : Int} {p : Nat} (ha : 167772161 ≤ a ∧ a ≤ 167772173) (hn : n ∈ lens) (hp : p < 4) : EnG ⟨shlF a n, n, 1 + ((p : Nat) : Int), f, t⟩ :=
 ⟨shl_rng ha hn, hn, by show 1 ≤ 1 + (p : Int); omega, by show 1 + (p : Int) ≤ 4; omega⟩
theorem brabld100_29152 (a0_0 : Int) (a1_0 : Int) (w : World) : (Instr.build 100 #[(0, .int .u32 a0_0), (1, .int .i64 a1_0)]).run Tryz.prog w = .ok (.agg #[.int .u32 a0_0, .int .i64 a1_0]) w := by kernel_rfl
theorem brabld102_2016 (a0_0 : Int) (a0_1 : Int) (a1_0 : Int) (a2_0 : Int) (w : World) : (Instr.build 102 #[(0, .agg #[.int .u32 a0_0, .int .i64 a0_1]), (1, .int .i64 a1_0), (2, .int .i64 a2_0)]).run Tryz.prog w = .ok (.agg #[.int .u32 a0_0, .int .i64 a0_1, .int .i64 a1_0, .int .i64 a2_0, .int .i64 0]) w := by kernel_rfl
theorem entry_cod (cb : Nat) (w : World) (hC : Cod w cb) :
  Calls Tryz.prog 65 #[.pointer (some ⟨cb, 0, none⟩)] w fun e w' => ∃ x : {y : En // EnG y}, e = .returned (.agg x.1.cells.toArray) ∧ Codr (fun w => Cod w cb) cb w ([]) w' := by
 refine begin_ (vs := [.pointer (some ⟨cb, 0, none⟩)]) (I := Pm ⟨w, cb⟩ (.abs cb (fun w => Cod w cb) :: oths cb w)) Tryz.func65 rfl rfl rfl ?_ (Pm.codes hC (cod_cells hC) (cod_stab cb))
 refine zSG ?_
 refine TL.pnew rfl rfl rfl (exec_alloc (cs := [.int .u32 0, .int .i64 0, .int .i64 0, .int .i64 0, .int .i64 0]) rfl brezv102 rfl) (fun g2 => ?_)
 refine zET (zSG (TL.mv ?_))
 refine TL.prowS (e := 3) (size := 1) (cs := flat (ic .i64) [8, 24, 28, 29, 30, 30, 31, 32]) rfl rfl rfl rfl rfl (fun w => arpbs106_8_10220 _ _ _ _ _ _ _ _ w) (by decide) rfl (fun g7 => ?_)
 refine TL.pcallCod (k := 2) (α := {v : Int // v ∈ ([8, 24, 28, 29, 30, 30, 31, 32] : List Int)}) (fun x => .int .i64 x.1) (fun x => []) rfl rfl rfl rfl rfl Tryz.func22 (by decide) rfl rfl (fun w1 hw hC1 => pick_cod cb w1 hC1 g7 8 ([8, 24, 28, 29, 30, 30, 31, 32]) (hw.neq (i := 0) (j := 2) rfl rfl (by decide) g7 rfl <| congrArg some ·.symm) (Pc.lt (hw.at_ (k := 0) rfl) g7 rfl).2 (by show 0 < ([8, 24, 28, 29, 30, 30, 31, 32] : List Int).length; simp) (fun i v hi => flat_row1 hw (q := 0) rfl hi)) ?_
 rintro ⟨n, hn⟩
 dsimp only [List.cons_append, List.nil_append]
 have hn8 : 8 ≤ n ∧ n ≤ 32 := by simp only [List.mem_cons, List.not_mem_nil, or_false] at hn; omega
 refine TL.as_ ?_
 refine zET (zSG (TL.mv ?_))
 refine TL.pcallCod (k := 2) (α := {a : Int // 167772161 ≤ a ∧ a ≤ 167772173}) (fun x => .int .u32 x.1) (fun x => []) rfl rfl rfl rfl rfl Tryz.func67 (by decide) rfl rfl (fun w1 hw hC1 => daddr_cod cb w1 hC1) ?_
 rintro ⟨a, ha1, ha2⟩
 dsimp only [List.cons_append, List.nil_append]
 refine TL.as_ ?_
 refine zET ?_
 refine TC.join (α := {y : Nat × Nat × Int // y.2.1 < 4}) (fun y => [(0, .pointer (some ⟨cb, 0, none⟩)), (2, .pointer (some ⟨g2, 0, none⟩)), (5, .pointer (some ⟨y.1.1, 0, none⟩))]) (fun y => Pm ⟨w, cb⟩ ([.blk y.1.1 102 [.int .u32 (shlF a n), .int .i64 n, .int .i64 (1 + ((y.1.2.1 : Nat) : Int)), .int .i64 y.1.2.2, .int .i64 0], .blk g2 102 [.int .u32 0, .int .i64 0, .int .i64 0, .int .i64 0, .int .i64 0], .abs cb (fun w => Cod w cb)] ++ oths cb w)) ?_ ?_
 ·refine TC.held (ls := #[Ff,Ff,Ff,Ff,Ff,Ff,Ff,Ff,Ff,Ff,Ff,Ff,Ff,Ff,Ff,Ff,Ff,Ff]) (Pm ⟨w, cb⟩ []) (by kernel_rfl) rfl rfl (fun w hw => hw.drawn _) ?_
  refine TH.tk 0 rfl rfl rfl (gives_move rfl rfl) (fun w1 hw => hw.pick [] (by decide) rfl) ?_
  refine TH.tk 1 rfl rfl rfl (gives_move rfl rfl) (fun w1 hw => hw.pick [] (by decide) rfl) ?_
  refine TH.tk 2 rfl rfl rfl (gives_bin rfl rfl rfl (fun w => bin_sub_ (r := 32 - n) (by simp only [IntKind.wrap_i64]; omega) w)) (fun w1 hw => hw.pick [] (by decide) rfl) ?_
  refine TH.tk 3 rfl rfl rfl (gives_bin (v := .int .u32 (a / 2 ^ (32 - n).toNat)) rfl rfl rfl (fun w => bin_shr (2 ^ (32 - n).toNat) (by omega) (by simp only [IntKind.bits]; omega) rfl w)) (fun w1 hw => hw.pick [] (by decide) rfl) ?_
  refine TH.tk 4 rfl rfl rfl (gives_move rfl rfl) (fun w1 hw => hw.pick [] (by decide) rfl) ?_
  refine TH.tk 5 rfl rfl rfl (gives_bin rfl rfl rfl (fun w => bin_sub_ (r := 32 - n) (by simp only [IntKind.wrap_i64]; omega) w)) (fun w1 hw => hw.pick [] (by decide) rfl) ?_
  refine TH.tk 6 rfl rfl rfl (gives_bin (v := .int .u32 (shlF a n)) rfl rfl rfl (fun w => bin_shl (2 ^ (32 - n).toNat) (by omega) (by simp only [IntKind.bits]; omega) rfl w)) (fun w1 hw => hw.pick [] (by decide) rfl) ?_
  refine TH.tk 7 rfl rfl rfl (gives_move rfl rfl) (fun w1 hw => hw.pick [] (by decide) rfl) ?_
  refine TH.tk 8 rfl rfl rfl (gives_build (v := .agg #[.int .u32 (shlF a n), .int .i64 n]) rfl rfl (fun w => brabld100_29152 _ _ w)) (fun w1 hw => hw.pick [] (by decide) rfl) ?_
  refine TH.tk 9 rfl rfl rfl (gives_move rfl rfl) (fun w1 hw => hw.pick [] (by decide) rfl) ?_
  refine TH.tk 12 rfl rfl rfl (gives_move rfl rfl) (fun w1 hw => hw.pick [] (by decide) rfl) ?_
  refine TH.three (l1 := #[Tt,Tt,Tt,Tt,Tt,Tt,Tt,Tt,Tt,Tt,Tt,Ff,Tt,Ff,Ff,Ff,Ff,Ff]) (l2 := #[Tt,Tt,Tt,Tt,Tt,Tt,Tt,Tt,Tt,Tt,Ff,Ff,Tt,Tt,Ff,Ff,Ff,Ff]) (l3 := #[Tt,Tt,Tt,Tt,Tt,Tt,Tt,Tt,Tt,Tt,Ff,Ff,Tt,Ff,Ff,Ff,Tt,Ff]) 10 13 16 rfl rfl rfl (by kernel_rfl) rfl rfl rfl rfl rfl rfl ?_ ?_ ?_
  ·refine TL.pcallCod (k := 2) (α := {q9 : Nat // q9 ≤ 65535 ∧ (1 ≤ (4 : Int) → (q9 : Int) < 4)}) (fun q9 => .int .i64 ((q9.1 : Nat) : Int)) (fun q9 => []) rfl rfl rfl rfl rfl Tryz.func21 (by decide) rfl rfl (fun w1 hw hC1 => next_cod cb w1 4 hC1) ?_
   rintro ⟨k21, hk211, hk212⟩
   dsimp only [List.cons_append, List.nil_append]
   refine zE ?_
   refine TX.he (fun w1 hw => hw.pick [] (by decide) rfl) fun hS => ?_
   refine TH.t 11 rfl (gD (1 + ((k21 : Nat) : Int))) hS ?_
   refine TH.two' (listed1 := #[Tt,Tt,Tt,Tt,Tt,Tt,Tt,Tt,Tt,Tt,Tt,Tt,Tt,Tt,Ff,Ff,Ff,Ff]) (listed2 := #[Tt,Tt,Tt,Tt,Tt,Tt,Tt,Tt,Tt,Tt,Tt,Tt,Tt,Ff,Ff,Ff,Tt,Ff]) 13 16 rfl rfl (by kernel_rfl) rfl rfl ?_ ?_
   ·refine TL.prowS (e := 3) (size := 1) (cs := flat (ic .i64) [0, 0, 0, 50, 300]) rfl rfl rfl rfl rfl (fun w => drpbs106_5_22075 _ _ _ _ _ w) (by decide) rfl (fun g24 => ?_)
    refine zE ?_
    refine TX.held (fun w1 hw => hw.pick [] (by decide) rfl) ?_
    refine TH.two' (listed1 := #[Tt,Tt,Tt,Tt,Tt,Tt,Tt,Tt,Tt,Tt,Tt,Tt,Tt,Tt,Tt,Ff,Ff,Ff]) (listed2 := #[Tt,Tt,Tt,Tt,Tt,Tt,Tt,Tt,Tt,Tt,Tt,Tt,Tt,Tt,Ff,Ff,Tt,Ff]) 14 16 rfl rfl (by kernel_rfl) rfl rfl ?_ ?_
    ·refine TL.pcallCod (k := 3) (α := {v : Int // v ∈ ([0, 0, 0, 50, 300] : List Int)}) (fun x => .int .i64 x.1) (fun x => []) rfl rfl rfl rfl rfl Tryz.func22 (by decide) rfl rfl (fun w1 hw hC1 => pick_cod cb w1 hC1 g24 5 ([0, 0, 0, 50, 300]) (hw.neq (i := 0) (j := 3) rfl rfl (by decide) g24 rfl <| congrArg some ·.symm) (Pc.lt (hw.at_ (k := 0) rfl) g24 rfl).2 (by show 0 < ([0, 0, 0, 50, 300] : List Int).length; simp) (fun i v hi => flat_row1 hw (q := 0) rfl hi)) ?_
     rintro ⟨v25, hv25⟩
     dsimp only [List.cons_append, List.nil_append]
     refine zE ?_
     refine TX.he (fun w1 hw => hw.pick [] (by decide) rfl) fun hS => ?_
     refine TH.t 15 rfl (gives_build (v := .agg #[.int .u32 (shlF a n), .int .i64 n, .int .i64 (1 + ((k21 : Nat) : Int)), .int .i64 v25, .int .i64 0]) rfl rfl (fun w => brabld102_2016 _ _ _ _ w)) hS ?_
     refine TH.only' 16 rfl (by kernel_rfl) rfl ?_
     refine TL.pnew rfl rfl rfl (exec_alloc (cs := [.int .u32 0, .int .i64 0, .int .i64 0, .int .i64 0, .int .i64 0]) rfl brezv102 rfl) (fun g5 => ?_)
     refine zE ?_
     refine TX.held (fun w1 hw => hw.pick [] (by decide) rfl) ?_
     refine TH.only' 17 rfl (by kernel_rfl) rfl ?_
     refine TL.pstore (k := 0) (vs := [.int .u32 (shlF a n), .int .i64 n, .int .i64 (1 + ((k21 : Nat) : Int)), .int .i64 v25, .int .i64 0]) rfl rfl rfl rfl rfl rfl rfl bresz102 breone_u32i64i64i64i64 (by show 5 ≤ 5; decide) rfl ?_
     refine zE ?_
     refine TX.held (fun w1 hw => hw.pick [] (by decide) rfl) ?_
     refine TH.done (by kernel_rfl) ?_
     exact TX.joined (⟨(g5, k21, v25), by dsimp only; omega⟩) (⟨rfl, rfl, rfl, trivial⟩) (fun w1 hw => hw.sel (.cons_cons _ (.cons _ (.cons _ (.cons_cons _ (.cons_cons _ (List.Sublist.refl _)))))))
    refine TL.pnew rfl rfl rfl (exec_alloc (cs := [.int .u32 0, .int .i64 0, .int .i64 0, .int .i64 0, .int .i64 0]) rfl brezv102 rfl) (fun g5 => ?_)
    refine zE ?_
    refine TX.held (fun w1 hw => hw.pick [] (by decide) rfl) ?_
    refine TH.only' 14 rfl (by kernel_rfl) rfl ?_
    refine TL.pcallCod (k := 4) (α := {v : Int // v ∈ ([0, 0, 0, 50, 300] : List Int)}) (fun x => .int .i64 x.1) (fun x => []) rfl rfl rfl rfl rfl Tryz.func22 (by decide) rfl rfl (fun w1 hw hC1 => pick_cod cb w1 hC1 g24 5 ([0, 0, 0, 50, 300]) (hw.neq (i := 1) (j := 4) rfl rfl (by decide) g24 rfl <| congrArg some ·.symm) (Pc.lt (hw.at_ (k := 1) rfl) g24 rfl).2 (by show 0 < ([0, 0, 0, 50, 300] : List Int).length; simp) (fun i v hi => flat_row1 hw (q := 1) rfl hi)) ?_
    rintro ⟨v25, hv25⟩
    dsimp only [List.cons_append, List.nil_append]
    refine zE ?_
    refine TX.he (fun w1 hw => hw.pick [] (by decide) rfl) fun hS => ?_
    refine TH.t 15 rfl (gives_build (v := .agg #[.int .u32 (shlF a n), .int .i64 n, .int .i64 (1 + ((k21 : Nat) : Int)), .int .i64 v25, .int .i64 0]) rfl rfl (fun w => brabld102_2016 _ _ _ _ w)) hS ?_
    refine TH.only' 17 rfl (by kernel_rfl) rfl ?_
    refine TL.pstore (k := 0) (vs := [.int .u32 (shlF a n), .int .i64 n, .int .i64 (1 + ((k21 : Nat) : Int)), .int .i64 v25, .int .i64 0]) rfl rfl rfl rfl rfl rfl rfl bresz102 breone_u32i64i64i64i64 (by show 5 ≤ 5; decide) rfl ?_
    refine zE ?_
    refine TX.held (fun w1 hw => hw.pick [] (by decide) rfl) ?_
    refine TH.done (by kernel_rfl) ?_
    exact TX.joined (⟨(g5, k21, v25), by dsimp only; omega⟩) (⟨rfl, rfl, rfl, trivial⟩) (fun w1 hw => hw.sel (.cons_cons _ (.cons _ (.cons _ (.cons_cons _ (.cons_cons _ (List.Sublist.refl _)))))))
   refine TL.pnew rfl rfl rfl (exec_alloc (cs := [.int .u32 0, .int .i64 0, .int .i64 0, .int .i64 0, .int .i64 0]) rfl brezv102 rfl) (fun g5 => ?_)
   refine zE ?_
   refine TX.held (fun w1 hw => hw.pick [] (by decide) rfl) ?_
   refine TH.only' 13 rfl (by kernel_rfl) rfl ?_
   refine TL.prowS (e := 3) (size := 1) (cs := flat (ic .i64) [0, 0, 0, 50, 300]) rfl rfl rfl rfl rfl (fun w => drpbs106_5_22075 _ _ _ _ _ w) (by decide) rfl (fun g24 => ?_)
   refine zE ?_
   refine TX.held (fun w1 hw => hw.pick [] (by decide) rfl) ?_
   refine TH.only' 14 rfl (by kernel_rfl) rfl ?_
   refine TL.pcallCod (k := 4) (α := {v : Int // v ∈ ([0, 0, 0, 50, 300] : List Int)}) (fun x => .int .i64 x.1) (fun x => []) rfl rfl rfl rfl rfl Tryz.func22 (by decide) rfl rfl (fun w1 hw hC1 => pick_cod cb w1 hC1 g24 5 ([0, 0, 0, 50, 300]) (hw.neq (i := 0) (j := 4) rfl rfl (by decide) g24 rfl <| congrArg some ·.symm) (Pc.lt (hw.at_ (k := 0) rfl) g24 rfl).2 (by show 0 < ([0, 0, 0, 50, 300] : List Int).length; simp) (fun i v hi => flat_row1 hw (q := 0) rfl hi)) ?_
   rintro ⟨v25, hv25⟩
   dsimp only [List.cons_append, List.nil_append]
   refine zE ?_
   refine TX.he (fun w1 hw => hw.pick [] (by decide) rfl) fun hS => ?_
   refine TH.t 15 rfl (gives_build (v := .agg #[.int .u32 (shlF a n), .int .i64 n, .int .i64 (1 + ((k21 : Nat) : Int)), .int .i64 v25, .int .i64 0]) rfl rfl (fun w => brabld102_2016 _ _ _ _ w)) hS ?_
   refine TH.only' 17 rfl (by kernel_rfl) rfl ?_
   refine TL.pstore (k := 1) (vs := [.int .u32 (shlF a n), .int .i64 n, .int .i64 (1 + ((k21 : Nat) : Int)), .int .i64 v25, .int .i64 0]) rfl rfl rfl rfl rfl rfl rfl bresz102 breone_u32i64i64i64i64 (by show 5 ≤ 5; decide) rfl ?_
   refine zE ?_
   refine TX.held (fun w1 hw => hw.pick [] (by decide) rfl) ?_
   refine TH.done (by kernel_rfl) ?_
   exact TX.joined (⟨(g5, k21, v25), by dsimp only; omega⟩) (⟨rfl, rfl, rfl, trivial⟩) (fun w1 hw => hw.sel (.cons _ (.cons_cons _ (.cons _ (.cons_cons _ (.cons_cons _ (List.Sublist.refl _)))))))
  ·refine TL.prowS (e := 3) (size := 1) (cs := flat (ic .i64) [0, 0, 0, 50, 300]) rfl rfl rfl rfl rfl (fun w => drpbs106_5_22075 _ _ _ _ _ w) (by decide) rfl (fun g24 => ?_)
   refine zE ?_
   refine TX.held (fun w1 hw => hw.pick [] (by decide) rfl) ?_
   refine TH.two' (listed1 := #[Tt,Tt,Tt,Tt,Tt,Tt,Tt,Tt,Tt,Tt,Tt,Ff,Tt,Tt,Ff,Ff,Ff,Ff]) (listed2 := #[Tt,Tt,Tt,Tt,Tt,Tt,Tt,Tt,Tt,Tt,Ff,Ff,Tt,Tt,Ff,Ff,Tt,Ff]) 10 16 rfl rfl (by kernel_rfl) rfl rfl ?_ ?_
   ·refine TL.pcallCod (k := 3) (α := {q9 : Nat // q9 ≤ 65535 ∧ (1 ≤ (4 : Int) → (q9 : Int) < 4)}) (fun q9 => .int .i64 ((q9.1 : Nat) : Int)) (fun q9 => []) rfl rfl rfl rfl rfl Tryz.func21 (by decide) rfl rfl (fun w1 hw hC1 => next_cod cb w1 4 hC1) ?_
    rintro ⟨k21, hk211, hk212⟩
    dsimp only [List.cons_append, List.nil_append]
    refine zE ?_
    refine TX.he (fun w1 hw => hw.pick [] (by decide) rfl) fun hS => ?_
    refine TH.t 11 rfl (gD (1 + ((k21 : Nat) : Int))) hS ?_
    refine TH.two' (listed1 := #[Tt,Tt,Tt,Tt,Tt,Tt,Tt,Tt,Tt,Tt,Tt,Tt,Tt,Tt,Tt,Ff,Ff,Ff]) (listed2 := #[Tt,Tt,Tt,Tt,Tt,Tt,Tt,Tt,Tt,Tt,Tt,Tt,Tt,Tt,Ff,Ff,Tt,Ff]) 14 16 rfl rfl (by kernel_rfl) rfl rfl ?_ ?_
    ·refine TL.pcallCod (k := 3) (α := {v : Int // v ∈ ([0, 0, 0, 50, 300] : List Int)}) (fun x => .int .i64 x.1) (fun x => []) rfl rfl rfl rfl rfl Tryz.func22 (by decide) rfl rfl (fun w1 hw hC1 => pick_cod cb w1 hC1 g24 5 ([0, 0, 0, 50, 300]) (hw.neq (i := 0) (j := 3) rfl rfl (by decide) g24 rfl <| congrArg some ·.symm) (Pc.lt (hw.at_ (k := 0) rfl) g24 rfl).2 (by show 0 < ([0, 0, 0, 50, 300] : List Int).length; simp) (fun i v hi => flat_row1 hw (q := 0) rfl hi)) ?_
     rintro ⟨v25, hv25⟩
     dsimp only [List.cons_append, List.nil_append]
     refine zE ?_
     refine TX.he (fun w1 hw => hw.pick [] (by decide) rfl) fun hS => ?_
     refine TH.t 15 rfl (gives_build (v := .agg #[.int .u32 (shlF a n), .int .i64 n, .int .i64 (1 + ((k21 : Nat) : Int)), .int .i64 v25, .int .i64 0]) rfl rfl (fun w => brabld102_2016 _ _ _ _ w)) hS ?_
     refine TH.only' 16 rfl (by kernel_rfl) rfl ?_
     refine TL.pnew rfl rfl rfl (exec_alloc (cs := [.int .u32 0, .int .i64 0, .int .i64 0, .int .i64 0, .int .i64 0]) rfl brezv102 rfl) (fun g5 => ?_)
     refine zE ?_
     refine TX.held (fun w1 hw => hw.pick [] (by decide) rfl) ?_
     refine TH.only' 17 rfl (by kernel_rfl) rfl ?_
     refine TL.pstore (k := 0) (vs := [.int .u32 (shlF a n), .int .i64 n, .int .i64 (1 + ((k21 : Nat) : Int)), .int .i64 v25, .int .i64 0]) rfl rfl rfl rfl rfl rfl rfl bresz102 breone_u32i64i64i64i64 (by show 5 ≤ 5; decide) rfl ?_
     refine zE ?_
     refine TX.held (fun w1 hw => hw.pick [] (by decide) rfl) ?_
     refine TH.done (by kernel_rfl) ?_
     exact TX.joined (⟨(g5, k21, v25), by dsimp only; omega⟩) (⟨rfl, rfl, rfl, trivial⟩) (fun w1 hw => hw.sel (.cons_cons _ (.cons _ (.cons _ (.cons_cons _ (.cons_cons _ (List.Sublist.refl _)))))))
    refine TL.pnew rfl rfl rfl (exec_alloc (cs := [.int .u32 0, .int .i64 0, .int .i64 0, .int .i64 0, .int .i64 0]) rfl brezv102 rfl) (fun g5 => ?_)
    refine zE ?_
    refine TX.held (fun w1 hw => hw.pick [] (by decide) rfl) ?_
    refine TH.only' 14 rfl (by kernel_rfl) rfl ?_
    refine TL.pcallCod (k := 4) (α := {v : Int // v ∈ ([0, 0, 0, 50, 300] : List Int)}) (fun x => .int .i64 x.1) (fun x => []) rfl rfl rfl rfl rfl Tryz.func22 (by decide) rfl rfl (fun w1 hw hC1 => pick_cod cb w1 hC1 g24 5 ([0, 0, 0, 50, 300]) (hw.neq (i := 1) (j := 4) rfl rfl (by decide) g24 rfl <| congrArg some ·.symm) (Pc.lt (hw.at_ (k := 1) rfl) g24 rfl).2 (by show 0 < ([0, 0, 0, 50, 300] : List Int).length; simp) (fun i v hi => flat_row1 hw (q := 1) rfl hi)) ?_
    rintro ⟨v25, hv25⟩
    dsimp only [List.cons_append, List.nil_append]
    refine zE ?_
    refine TX.he (fun w1 hw => hw.pick [] (by decide) rfl) fun hS => ?_
    refine TH.t 15 rfl (gives_build (v := .agg #[.int .u32 (shlF a n), .int .i64 n, .int .i64 (1 + ((k21 : Nat) : Int)), .int .i64 v25, .int .i64 0]) rfl rfl (fun w => brabld102_2016 _ _ _ _ w)) hS ?_
    refine TH.only' 17 rfl (by kernel_rfl) rfl ?_
    refine TL.pstore (k := 0) (vs := [.int .u32 (shlF a n), .int .i64 n, .int .i64 (1 + ((k21 : Nat) : Int)), .int .i64 v25, .int .i64 0]) rfl rfl rfl rfl rfl rfl rfl bresz102 breone_u32i64i64i64i64 (by show 5 ≤ 5; decide) rfl ?_
    refine zE ?_
    refine TX.held (fun w1 hw => hw.pick [] (by decide) rfl) ?_
    refine TH.done (by kernel_rfl) ?_
    exact TX.joined (⟨(g5, k21, v25), by dsimp only; omega⟩) (⟨rfl, rfl, rfl, trivial⟩) (fun w1 hw => hw.sel (.cons_cons _ (.cons _ (.cons _ (.cons_cons _ (.cons_cons _ (List.Sublist.refl _)))))))
   refine TL.pnew rfl rfl rfl (exec_alloc (cs := [.int .u32 0, .int .i64 0, .int .i64 0, .int .i64 0, .int .i64 0]) rfl brezv102 rfl) (fun g5 => ?_)
   refine zE ?_
   refine TX.held (fun w1 hw => hw.pick [] (by decide) rfl) ?_
   refine TH.only' 10 rfl (by kernel_rfl) rfl ?_
   refine TL.pcallCod (k := 4) (α := {q9 : Nat // q9 ≤ 65535 ∧ (1 ≤ (4 : Int) → (q9 : Int) < 4)}) (fun q9 => .int .i64 ((q9.1 : Nat) : Int)) (fun q9 => []) rfl rfl rfl rfl rfl Tryz.func21 (by decide) rfl rfl (fun w1 hw hC1 => next_cod cb w1 4 hC1) ?_
   rintro ⟨k21, hk211, hk212⟩
   dsimp only [List.cons_append, List.nil_append]
   refine zE ?_
   refine TX.he (fun w1 hw => hw.pick [] (by decide) rfl) fun hS => ?_
   refine TH.t 11 rfl (gD (1 + ((k21 : Nat) : Int))) hS ?_
   refine TH.only' 14 rfl (by kernel_rfl) rfl ?_
   refine TL.pcallCod (k := 4) (α := {v : Int // v ∈ ([0, 0, 0, 50, 300] : List Int)}) (fun x => .int .i64 x.1) (fun x => []) rfl rfl rfl rfl rfl Tryz.func22 (by decide) rfl rfl (fun w1 hw hC1 => pick_cod cb w1 hC1 g24 5 ([0, 0, 0, 50, 300]) (hw.neq (i := 1) (j := 4) rfl rfl (by decide) g24 rfl <| congrArg some ·.symm) (Pc.lt (hw.at_ (k := 1) rfl) g24 rfl).2 (by show 0 < ([0, 0, 0, 50, 300] : List Int).length; simp) (fun i v hi => flat_row1 hw (q := 1) rfl hi)) ?_
   rintro ⟨v25, hv25⟩
   dsimp only [List.cons_append, List.nil_append]
   refine zE ?_
   refine TX.he (fun w1 hw => hw.pick [] (by decide) rfl) fun hS => ?_
   refine TH.t 15 rfl (gives_build (v := .agg #[.int .u32 (shlF a n), .int .i64 n, .int .i64 (1 + ((k21 : Nat) : Int)), .int .i64 v25, .int .i64 0]) rfl rfl (fun w => brabld102_2016 _ _ _ _ w)) hS ?_
   refine TH.only' 17 rfl (by kernel_rfl) rfl ?_
   refine TL.pstore (k := 0) (vs := [.int .u32 (shlF a n), .int .i64 n, .int .i64 (1 + ((k21 : Nat) : Int)), .int .i64 v25, .int .i64 0]) rfl rfl rfl rfl rfl rfl rfl bresz102 breone_u32i64i64i64i64 (by show 5 ≤ 5; decide) rfl ?_
   refine zE ?_
   refine TX.held (fun w1 hw => hw.pick [] (by decide) rfl) ?_
   refine TH.done (by kernel_rfl) ?_
   exact TX.joined (⟨(g5, k21, v25), by dsimp only; omega⟩) (⟨rfl, rfl, rfl, trivial⟩) (fun w1 hw => hw.sel (.cons_cons _ (.cons _ (.cons _ (.cons_cons _ (.cons_cons _ (List.Sublist.refl _)))))))
  refine TL.pnew rfl rfl rfl (exec_alloc (cs := [.int .u32 0, .int .i64 0, .int .i64 0, .int .i64 0, .int .i64 0]) rfl brezv102 rfl) (fun g5 => ?_)
  refine zE ?_
  refine TX.held (fun w1 hw => hw.pick [] (by decide) rfl) ?_
  refine TH.two' (listed1 := #[Tt,Tt,Tt,Tt,Tt,Tt,Tt,Tt,Tt,Tt,Tt,Ff,Tt,Ff,Ff,Ff,Tt,Ff]) (listed2 := #[Tt,Tt,Tt,Tt,Tt,Tt,Tt,Tt,Tt,Tt,Ff,Ff,Tt,Tt,Ff,Ff,Tt,Ff]) 10 13 rfl rfl (by kernel_rfl) rfl rfl ?_ ?_
  ·refine TL.pcallCod (k := 3) (α := {q9 : Nat // q9 ≤ 65535 ∧ (1 ≤ (4 : Int) → (q9 : Int) < 4)}) (fun q9 => .int .i64 ((q9.1 : Nat) : Int)) (fun q9 => []) rfl rfl rfl rfl rfl Tryz.func21 (by decide) rfl rfl (fun w1 hw hC1 => next_cod cb w1 4 hC1) ?_
   rintro ⟨k21, hk211, hk212⟩
   dsimp only [List.cons_append, List.nil_append]
   refine zE ?_
   refine TX.he (fun w1 hw => hw.pick [] (by decide) rfl) fun hS => ?_
   refine TH.t 11 rfl (gD (1 + ((k21 : Nat) : Int))) hS ?_
   refine TH.only' 13 rfl (by kernel_rfl) rfl ?_
   refine TL.prowS (e := 3) (size := 1) (cs := flat (ic .i64) [0, 0, 0, 50, 300]) rfl rfl rfl rfl rfl (fun w => drpbs106_5_22075 _ _ _ _ _ w) (by decide) rfl (fun g24 => ?_)
   refine zE ?_
   refine TX.held (fun w1 hw => hw.pick [] (by decide) rfl) ?_
   refine TH.only' 14 rfl (by kernel_rfl) rfl ?_
   refine TL.pcallCod (k := 4) (α := {v : Int // v ∈ ([0, 0, 0, 50, 300] : List Int)}) (fun x => .int .i64 x.1) (fun x => []) rfl rfl rfl rfl rfl Tryz.func22 (by decide) rfl rfl (fun w1 hw hC1 => pick_cod cb w1 hC1 g24 5 ([0, 0, 0, 50, 300]) (hw.neq (i := 0) (j := 4) rfl rfl (by decide) g24 rfl <| congrArg some ·.symm) (Pc.lt (hw.at_ (k := 0) rfl) g24 rfl).2 (by show 0 < ([0, 0, 0, 50, 300] : List Int).length; simp) (fun i v hi => flat_row1 hw (q := 0) rfl hi)) ?_
   rintro ⟨v25, hv25⟩
   dsimp only [List.cons_append, List.nil_append]
   refine zE ?_
   refine TX.he (fun w1 hw => hw.pick [] (by decide) rfl) fun hS => ?_
   refine TH.t 15 rfl (gives_build (v := .agg #[.int .u32 (shlF a n), .int .i64 n, .int .i64 (1 + ((k21 : Nat) : Int)), .int .i64 v25, .int .i64 0]) rfl rfl (fun w => brabld102_2016 _ _ _ _ w)) hS ?_
   refine TH.only' 17 rfl (by kernel_rfl) rfl ?_
   refine TL.pstore (k := 1) (vs := [.int .u32 (shlF a n), .int .i64 n, .int .i64 (1 + ((k21 : Nat) : Int)), .int .i64 v25, .int .i64 0]) rfl rfl rfl rfl rfl rfl rfl bresz102 breone_u32i64i64i64i64 (by show 5 ≤ 5; decide) rfl ?_
   refine zE ?_
   refine TX.held (fun w1 hw => hw.pick [] (by decide) rfl) ?_
   refine TH.done (by kernel_rfl) ?_
   exact TX.joined (⟨(g5, k21, v25), by dsimp only; omega⟩) (⟨rfl, rfl, rfl, trivial⟩) (fun w1 hw => hw.sel (.cons _ (.cons_cons _ (.cons _ (.cons_cons _ (.cons_cons _ (List.Sublist.refl _)))))))
  refine TL.prowS (e := 3) (size := 1) (cs := flat (ic .i64) [0, 0, 0, 50, 300]) rfl rfl rfl rfl rfl (fun w => drpbs106_5_22075 _ _ _ _ _ w) (by decide) rfl (fun g24 => ?_)
  refine zE ?_
  refine TX.held (fun w1 hw => hw.pick [] (by decide) rfl) ?_
  refine TH.only' 10 rfl (by kernel_rfl) rfl ?_
  refine TL.pcallCod (k := 4) (α := {q9 : Nat // q9 ≤ 65535 ∧ (1 ≤ (4 : Int) → (q9 : Int) < 4)}) (fun q9 => .int .i64 ((q9.1 : Nat) : Int)) (fun q9 => []) rfl rfl rfl rfl rfl Tryz.func21 (by decide) rfl rfl (fun w1 hw hC1 => next_cod cb w1 4 hC1) ?_
  rintro ⟨k21, hk211, hk212⟩
  dsimp only [List.cons_append, List.nil_append]
  refine zE ?_
  refine TX.he (fun w1 hw => hw.pick [] (by decide) rfl) fun hS => ?_
  refine TH.t 11 rfl (gD (1 + ((k21 : Nat) : Int))) hS ?_
  refine TH.only' 14 rfl (by kernel_rfl) rfl ?_
  refine TL.pcallCod (k := 4) (α := {v : Int // v ∈ ([0, 0, 0, 50, 300] : List Int)}) (fun x => .int .i64 x.1) (fun x => []) rfl rfl rfl rfl rfl Tryz.func22 (by decide) rfl rfl (fun w1 hw hC1 => pick_cod cb w1 hC1 g24 5 ([0, 0, 0, 50, 300]) (hw.neq (i := 0) (j := 4) rfl rfl (by decide) g24 rfl <| congrArg some ·.symm) (Pc.lt (hw.at_ (k := 0) rfl) g24 rfl).2 (by show 0 < ([0, 0, 0, 50, 300] : List Int).length; simp) (fun i v hi => flat_row1 hw (q := 0) rfl hi)) ?_
  rintro ⟨v25, hv25⟩
  dsimp only [List.cons_append, List.nil_append]
  refine zE ?_
  refine TX.he (fun w1 hw => hw.pick [] (by decide) rfl) fun hS => ?_
  refine TH.t 15 rfl (gives_build (v := .agg #[.int .u32 (shlF a n), .int .i64 n, .int .i64 (1 + ((k21 : Nat) : Int)), .int .i64 v25, .int .i64 0]) rfl rfl (fun w => brabld102_2016 _ _ _ _ w)) hS ?_
  refine TH.only' 17 rfl (by kernel_rfl) rfl ?_
  refine TL.pstore (k := 1) (vs := [.int .u32 (shlF a n), .int .i64 n, .int .i64 (1 + ((k21 : Nat) : Int)), .int .i64 v25, .int .i64 0]) rfl rfl rfl rfl rfl rfl rfl bresz102 breone_u32i64i64i64i64 (by show 5 ≤ 5; decide) rfl ?_
  refine zE ?_
  refine TX.held (fun w1 hw => hw.pick [] (by decide) rfl) ?_
  refine TH.done (by kernel_rfl) ?_
  exact TX.joined (⟨(g5, k21, v25), by dsimp only; omega⟩) (⟨rfl, rfl, rfl, trivial⟩) (fun w1 hw => hw.sel (.cons _ (.cons_cons _ (.cons _ (.cons_cons _ (.cons_cons _ (List.Sublist.refl _)))))))
 rintro ⟨⟨g5, pv, fr⟩, hpv⟩
 dsimp only at hpv ⊢
 refine zS (TC.held (ls := #[Ff,Ff,Ff,Ff,Ff,Ff,Ff,Ff,Ff,Ff,Ff]) (fun _ => True) (by kernel_rfl) rfl rfl (fun w hw => hw.drawn _) ?_)
 refine TH.tk 0 rfl rfl rfl (gives_move rfl rfl) (fun _ _ => trivial) ?_
 refine TH.tk 1 rfl rfl rfl (gF brefld102_2) (fun _ _ => trivial) ?_
 refine TH.tk 4 rfl rfl rfl (gives_move rfl rfl) (fun _ _ => trivial) ?_
 refine TH.two' (listed1 := #[Tt,Tt,Tt,Ff,Tt,Ff,Ff,Ff,Ff,Ff,Ff]) (listed2 := #[Tt,Tt,Ff,Ff,Tt,Tt,Ff,Ff,Ff,Ff,Ff]) 2 5 rfl rfl (by kernel_rfl) rfl rfl ?_ ?_
 ·refine TL.v (gL 0 pcmag3) ?_
  refine zE ?_
  refine TX.held (fun _ _ => trivial) ?_
  refine TH.tk 3 rfl rfl rfl (gives_bin rfl rfl rfl (fun w => bin_add_ (r := IntKind.i64.wrap (fr + 1)) (rfl) w)) (fun _ _ => trivial) ?_
  refine TH.only' 5 rfl (by kernel_rfl) rfl ?_
  refine TL.pcallCod (k := 2) (α := {q9 : Nat // q9 ≤ 65535 ∧ (1 ≤ (600 : Int) → (q9 : Int) < 600)}) (fun q9 => .int .i64 ((q9.1 : Nat) : Int)) (fun q9 => []) rfl rfl rfl rfl rfl Tryz.func21 (by decide) rfl rfl (fun w1 hw hC1 => next_cod cb w1 600 hC1) ?_
  rintro ⟨k32, hk321, hk322⟩
  dsimp only [List.cons_append, List.nil_append]
  refine zE ?_
  refine TX.held (fun _ _ => trivial) ?_
  refine TH.tk 6 rfl rfl rfl (gives_bin rfl rfl rfl (fun w => bin_add_ (r := IntKind.i64.wrap (IntKind.i64.wrap (fr + 1) + ((k32 : Nat) : Int))) (rfl) w)) (fun _ _ => trivial) ?_
  refine TH.only' 7 rfl (by kernel_rfl) rfl ?_
  refine TL.prowS (e := 3) (size := 1) (cs := flat (ic .i64) [1125899906842624, 1125899906842624, 1125899906842624, IntKind.i64.wrap (IntKind.i64.wrap (fr + 1) + ((k32 : Nat) : Int))]) rfl rfl rfl rfl rfl (fun w => dodbs106_4_78574 _ _ _ _ w) (by decide) rfl (fun g34 => ?_)
  refine zE ?_
  refine TX.held (fun _ _ => trivial) ?_
  refine TH.only' 8 rfl (by kernel_rfl) rfl ?_
  refine TL.pcallCod (k := 3) (α := {v : Int // v ∈ ([1125899906842624, 1125899906842624, 1125899906842624, IntKind.i64.wrap (IntKind.i64.wrap (fr + 1) + ((k32 : Nat) : Int))] : List Int)}) (fun x => .int .i64 x.1) (fun x => []) rfl rfl rfl rfl rfl Tryz.func22 (by decide) rfl rfl (fun w1 hw hC1 => pick_cod cb w1 hC1 g34 4 ([1125899906842624, 1125899906842624, 1125899906842624, IntKind.i64.wrap (IntKind.i64.wrap (fr + 1) + ((k32 : Nat) : Int))]) (hw.neq (i := 0) (j := 3) rfl rfl (by decide) g34 rfl <| congrArg some ·.symm) (Pc.lt (hw.at_ (k := 0) rfl) g34 rfl).2 (by show 0 < ([1125899906842624, 1125899906842624, 1125899906842624, IntKind.i64.wrap (IntKind.i64.wrap (fr + 1) + ((k32 : Nat) : Int))] : List Int).length; simp) (fun i v hi => flat_row1 hw (q := 0) rfl hi)) ?_
  rintro ⟨to, hto⟩
  dsimp only [List.cons_append, List.nil_append]
  refine zE ?_
  refine TX.held (fun _ _ => trivial) ?_
  refine TH.tk 9 rfl rfl rfl (gF brefld102_3) (fun _ _ => trivial) ?_
  refine TH.only' 10 rfl (by kernel_rfl) rfl ?_
  refine TL.pstore (k := 1) (vs := [.int .i64 to]) rfl rfl rfl rfl rfl rfl rfl pcmsz3 aeaone_i64 (by show 5 ≤ 5; decide) rfl ?_
  refine zE ?_
  refine TX.held (fun _ _ => trivial) ?_
  refine TH.done (by kernel_rfl) ?_
  refine zT (zSG (TL.v (gV 1 (.agg #[.int .u32 (shlF a n), .int .i64 n, .int .i64 (1 + ((pv : Nat) : Int)), .int .i64 fr, .int .i64 to]) breag102 bresz102) ?_))
  refine TL.pstore (k := 2) (vs := [.int .u32 (shlF a n), .int .i64 n, .int .i64 (1 + ((pv : Nat) : Int)), .int .i64 fr, .int .i64 to]) rfl rfl rfl rfl rfl rfl rfl bresz102 breone_u32i64i64i64i64 (by show 5 ≤ 5; decide) rfl ?_
  refine zET (zr ?_)
  exact pm_ret_cell (k := 2) Tryz.results65 rfl rfl Tryz.underlying102 rfl rfl (fun w1 hw => ⟨⟨⟨shlF a n, n, 1 + ((pv : Nat) : Int), fr, to⟩, EnG.mk_ (by omega) hn hpv⟩, rfl, Pm.codr [] (hw.sel (.cons _ (.cons _ (.cons _ (.cons_cons _ (List.Sublist.refl _)))))) rfl⟩)
 refine TL.pcallCod (k := 2) (α := {q9 : Nat // q9 ≤ 65535 ∧ (1 ≤ (600 : Int) → (q9 : Int) < 600)}) (fun q9 => .int .i64 ((q9.1 : Nat) : Int)) (fun q9 => []) rfl rfl rfl rfl rfl Tryz.func21 (by decide) rfl rfl (fun w1 hw hC1 => next_cod cb w1 600 hC1) ?_
 rintro ⟨k32, hk321, hk322⟩
 dsimp only [List.cons_append, List.nil_append]
 refine zE ?_
 refine TX.held (fun _ _ => trivial) ?_
 refine TH.only' 2 rfl (by kernel_rfl) rfl ?_
 refine TL.v (gL 0 pcmag3) ?_
 refine zE ?_
 refine TX.held (fun _ _ => trivial) ?_
 refine TH.tk 3 rfl rfl rfl (gives_bin rfl rfl rfl (fun w => bin_add_ (r := IntKind.i64.wrap (fr + 1)) (rfl) w)) (fun _ _ => trivial) ?_
 refine TH.tk 6 rfl rfl rfl (gives_bin rfl rfl rfl (fun w => bin_add_ (r := IntKind.i64.wrap (IntKind.i64.wrap (fr + 1) + ((k32 : Nat) : Int))) (rfl) w)) (fun _ _ => trivial) ?_
 refine TH.only' 7 rfl (by kernel_rfl) rfl ?_
 refine TL.prowS (e := 3) (size := 1) (cs := flat (ic .i64) [1125899906842624, 1125899906842624, 1125899906842624, IntKind.i64.wrap (IntKind.i64.wrap (fr + 1) + ((k32 : Nat) : Int))]) rfl rfl rfl rfl rfl (fun w => dodbs106_4_78574 _ _ _ _ w) (by decide) rfl (fun g34 => ?_)
 refine zE ?_
 refine TX.held (fun _ _ => trivial) ?_
 refine TH.only' 8 rfl (by kernel_rfl) rfl ?_
 refine TL.pcallCod (k := 3) (α := {v : Int // v ∈ ([1125899906842624, 1125899906842624, 1125899906842624, IntKind.i64.wrap (IntKind.i64.wrap (fr + 1) + ((k32 : Nat) : Int))] : List Int)}) (fun x => .int .i64 x.1) (fun x => []) rfl rfl rfl rfl rfl Tryz.func22 (by decide) rfl rfl (fun w1 hw hC1 => pick_cod cb w1 hC1 g34 4 ([1125899906842624, 1125899906842624, 1125899906842624, IntKind.i64.wrap (IntKind.i64.wrap (fr + 1) + ((k32 : Nat) : Int))]) (hw.neq (i := 0) (j := 3) rfl rfl (by decide) g34 rfl <| congrArg some ·.symm) (Pc.lt (hw.at_ (k := 0) rfl) g34 rfl).2 (by show 0 < ([1125899906842624, 1125899906842624, 1125899906842624, IntKind.i64.wrap (IntKind.i64.wrap (fr + 1) + ((k32 : Nat) : Int))] : List Int).length; simp) (fun i v hi => flat_row1 hw (q := 0) rfl hi)) ?_
 rintro ⟨to, hto⟩
 dsimp only [List.cons_append, List.nil_append]
 refine zE ?_
 refine TX.held (fun _ _ => trivial) ?_
 refine TH.tk 9 rfl rfl rfl (gF brefld102_3) (fun _ _ => trivial) ?_
 refine TH.only' 10 rfl (by kernel_rfl) rfl ?_
 refine TL.pstore (k := 1) (vs := [.int .i64 to]) rfl rfl rfl rfl rfl rfl rfl pcmsz3 aeaone_i64 (by show 5 ≤ 5; decide) rfl ?_
 refine zE ?_
 refine TX.held (fun _ _ => trivial) ?_
 refine TH.done (by kernel_rfl) ?_
 refine zT (zSG (TL.v (gV 1 (.agg #[.int .u32 (shlF a n), .int .i64 n, .int .i64 (1 + ((pv : Nat) : Int)), .int .i64 fr, .int .i64 to]) breag102 bresz102) ?_))
 refine TL.pstore (k := 2) (vs := [.int .u32 (shlF a n), .int .i64 n, .int .i64 (1 + ((pv : Nat) : Int)), .int .i64 fr, .int .i64 to]) rfl rfl rfl rfl rfl rfl rfl bresz102 breone_u32i64i64i64i64 (by show 5 ≤ 5; decide) rfl ?_
 refine zET (zr ?_)
 exact pm_ret_cell (k := 2) Tryz.results65 rfl rfl Tryz.underlying102 rfl rfl (fun w1 hw => ⟨⟨⟨shlF a n, n, 1 + ((pv : Nat) : Int), fr, to⟩, EnG.mk_ (by omega) hn hpv⟩, rfl, Pm.codr [] (hw.sel (.cons _ (.cons _ (.cons _ (.cons_cons _ (List.Sublist.refl _)))))) rfl⟩)
set_option maxRecDepth 20000
def CmpE (x y : En) (z : Int) : Prop := (z < 0 → cmpP x.addr x.len y.addr y.len < 0 ∨ (cmpP x.addr x.len y.addr y.len = 0 ∧ x.frm ≤ y.frm)) ∧ (0 ≤ z → 0 < cmpP x.addr x.len y.addr y.len ∨ (cmpP x.addr x.len y.addr y.len = 0 ∧ y.frm ≤ x.frm))
def OvE (b x : En) : Prop := cmpP b.addr b.len x.addr x.len = 0 ∧ b.frm < x.to_ ∧ x.frm < b.to_
def LtE (b x : En) : Prop := cmpP b.addr b.len x.addr x.len < 0 ∨ (cmpP b.addr b.len x.addr x.len = 0 ∧ b.frm ≤ x.frm)
def GeE (b x : En) : Prop := 0 < cmpP b.addr b.len x.addr x.len ∨ (cmpP b.addr b.len x.addr x.len = 0 ∧ x.frm ≤ b.frm)
def AddK (es : List En) (x : En) (i k : Nat) : Prop := (k = 0 ∨ ∃ b, es[k - 1]? = some b ∧ LtE b x) ∧ (∀ j, k ≤ j → j < i → ∀ z, es[j]? = some z → GeE z x) ∧ ∀ j, j < i → ∀ z, es[j]? = some z → ¬ OvE z x
theorem AddK.start (es : List En) (x : En) : AddK es x 0 0 := ⟨.inl rfl, fun j _ h => absurd h (Nat.not_lt_zero _), fun j h => absurd h (Nat.not_lt_zero _)⟩
theorem AddK.step_ge {es : List En} {x z : En} {i k : Nat} (h : AddK es x i k) (hz : es[i]? = some z) (hk : k ≤ i) (hg : k ≤ i → GeE z x) (ho : ¬ OvE z x) : AddK es x (i + 1) k := by
 refine ⟨h.1, fun j h1 h2 y hy => ?_, fun j h2 y hy => ?_⟩
 ·by_cases e : j = i
  ·subst e; rw [hz] at hy; injection hy with hy; rw [← hy]; exact hg hk
  exact h.2.1 j h1 (by omega) y hy
 by_cases e : j = i
 ·subst e; rw [hz] at hy; injection hy with hy; rw [← hy]; exact ho
 exact h.2.2 j (by omega) y hy
theorem AddK.step_lt {es : List En} {x z : En} {i k : Nat} (h : AddK es x i k) (hz : es[i]? = some z) (hl : LtE z x) (ho : ¬ OvE z x) : AddK es x (i + 1) (i + 1) := by
 refine ⟨.inr ⟨z, by rw [Nat.add_sub_cancel]; exact hz, hl⟩, fun j h1 h2 => absurd h1 (by omega), fun j h2 y hy => ?_⟩
 by_cases e : j = i
 ·subst e; rw [hz] at hy; injection hy with hy; rw [← hy]; exact ho
 exact h.2.2 j (by omega) y hy
theorem cmpI_flip (a b : Int) : cmpI b a = - cmpI a b := by unfold cmpI; split <;> split <;> (try split) <;> omega
theorem cmpP_neg (a n b m : Int) : cmpP b m a n = - cmpP a n b m := by
 unfold cmpP
 rw [cmpI_flip a b, cmpI_flip n m]
 split <;> split <;> omega
theorem validR_at {es : List En} (h : validR es = true) {j : Nat} {z : En} (hz : es[j]? = some z) : validE z = true ∧ (j = 0 ∨ ∀ b, es[j - 1]? = some b → badP b z = false) := by
 simp only [validR, Bool.and_eq_true, decide_eq_true_eq, List.all_eq_true, List.mem_range] at h
 have h2 := h.2 j (List.getElem?_eq_some_iff.1 hz).1
 unfold okAt at h2
 rw [hz] at h2
 simp only [Bool.and_eq_true, Bool.or_eq_true, decide_eq_true_eq] at h2
 refine ⟨h2.1, h2.2.imp id fun h3 b hb => ?_⟩
 rw [hb] at h3
 simpa using h3
theorem okAt_of {es : List En} {j : Nat} {z : En} (hz : es[j]? = some z) (hv : validE z = true) (h : j = 0 ∨ ∀ b, es[j - 1]? = some b → badP b z = false) : okAt es j = true := by
 unfold okAt
 rw [hz]
 simp only [hv, Bool.true_and, Bool.or_eq_true, decide_eq_true_eq]
 rcases h with h | h
 ·exact .inl h
 right
 cases hb : es[j - 1]? with
 | none => rfl
 | some b => simp [h b hb]
theorem ins_valid {es : List En} {x : En} {k : Nat} (hv : validR es = true) (hx : validE x = true) (hl : es.length < 1024) (hb : k = 0 ∨ ∃ b, es[k - 1]? = some b ∧ LtE b x) (ha : ∀ z : En, es[k]? = some z → GeE z x) (ho : ∀ (j : Nat) (z : En), es[j]? = some z → ¬ OvE z x) : validR (es.take k ++ [x] ++ es.drop k) = true := by
 have hk : k ≤ es.length := by
  rcases hb with h | ⟨b, h, _⟩
  ·omega
  have := (List.getElem?_eq_some_iff.1 h).1; omega
 have hlen : (es.take k ++ [x] ++ es.drop k).length = es.length + 1 := by simp only [List.length_append, List.length_take, List.length_drop, List.length_cons, List.length_nil]; omega
 have htk : (es.take k).length = k := by rw [List.length_take]; omega
 have g1 : ∀ j, j < k → (es.take k ++ [x] ++ es.drop k)[j]? = es[j]? := fun j hj => by
  rw [List.append_assoc, List.getElem?_append_left (by omega), List.getElem?_take_of_lt hj]
 have g2 : (es.take k ++ [x] ++ es.drop k)[k]? = some x := by
  rw [List.append_assoc, List.getElem?_append_right (by omega), htk, Nat.sub_self]; rfl
 have g3 : ∀ j, k ≤ j → (es.take k ++ [x] ++ es.drop k)[j + 1]? = es[j]? := fun j hj => by
  rw [List.getElem?_append_right (by rw [List.length_append, htk]; show k + 1 ≤ _; omega), List.length_append, htk, List.getElem?_drop]
  congr 1; show k + (j + 1 - (k + 1)) = j; omega
 refine validR_true (by omega) fun j hj => ?_
 have hxf : x.frm < x.to_ := by unfold validE at hx; simp only [Bool.and_eq_true, decide_eq_true_eq] at hx; omega
 rcases Nat.lt_trichotomy j k with h | h | h
 ·obtain ⟨z, hz⟩ : ∃ z, es[j]? = some z := ⟨_, List.getElem?_eq_getElem (by omega)⟩
  obtain ⟨a1, a2⟩ := validR_at hv hz
  exact okAt_of (by rw [g1 j h]; exact hz) a1 (by rw [g1 (j - 1) (by omega)]; exact a2)
 ·subst h
  refine okAt_of g2 hx ?_
  rcases hb with h | ⟨b, h, h1⟩
  ·exact .inl h
  by_cases h0 : j = 0
  ·exact .inl h0
  refine .inr fun c hc => ?_
  rw [g1 (j - 1) (by omega), h] at hc
  injection hc with hc
  rw [← hc]
  have h2 := ho _ _ h
  unfold OvE at h2
  unfold LtE at h1
  unfold badP
  rw [Bool.or_eq_false_iff, Bool.and_eq_false_iff, decide_eq_false_iff_not, decide_eq_false_iff_not, decide_eq_false_iff_not]
  rcases h1 with h1 | h1
  ·exact ⟨by omega, .inl (by omega)⟩
  refine ⟨by omega, .inr fun h4 => h2 ⟨h1.1, by omega, h4⟩⟩
 obtain ⟨q, rfl⟩ : ∃ q, j = q + 1 := ⟨j - 1, by omega⟩
 obtain ⟨z, hz⟩ : ∃ z, es[q]? = some z := ⟨_, List.getElem?_eq_getElem (by omega)⟩
 obtain ⟨a1, a2⟩ := validR_at hv hz
 refine okAt_of (by rw [g3 q (by omega)]; exact hz) a1 (.inr ?_)
 rw [Nat.add_sub_cancel]
 by_cases e : q = k
 ·subst e
  intro c hc
  rw [g2] at hc
  injection hc with hc
  rw [← hc]
  have h1 := ha z hz
  have h2 := ho _ _ hz
  have hzf : z.frm < z.to_ := by have a3 := a1; unfold validE at a3; simp only [Bool.and_eq_true, decide_eq_true_eq] at a3; omega
  have hng := cmpP_neg z.addr z.len x.addr x.len
  unfold OvE at h2
  unfold GeE at h1
  unfold badP
  rw [Bool.or_eq_false_iff, Bool.and_eq_false_iff, decide_eq_false_iff_not, decide_eq_false_iff_not, decide_eq_false_iff_not]
  rcases h1 with h1 | h1
  ·exact ⟨by omega, .inl (by omega)⟩
  refine ⟨by omega, .inr fun h4 => ?_⟩
  exact h2 ⟨h1.1, h4, by omega⟩
 obtain ⟨p, rfl⟩ : ∃ p, q = p + 1 := ⟨q - 1, by omega⟩
 rw [g3 p (by omega)]
 rcases a2 with a2 | a2
 ·omega
 rw [Nat.add_sub_cancel] at a2; exact a2
theorem brxbld183_19252 (a0_0 : Int) (a0_1 : Int) (a1_0 : Int) (a1_1 : Int) (a2_0 : Int) (a2_1 : Int) (w : World) : (Instr.build 183 #[(0, .agg #[.int .i64 a0_0, .int .i64 a0_1]), (1, .agg #[.int .i64 a1_0, .int .i64 a1_1]), (2, .agg #[.int .i64 a2_0, .int .i64 a2_1])]).run Tryz.prog w = .ok (.agg #[.int .i64 a0_0, .int .i64 a0_1, .int .i64 a1_0, .int .i64 a1_1, .int .i64 a2_0, .int .i64 a2_1]) w := by kernel_rfl
theorem brxone_i64i64 {a0 : Int} {a1 : Int} : ∀ u ∈ [(.int .i64 a0 : Value), .int .i64 a1], u.oneCell' = true := by
 intro u hu
 simp only [List.mem_cons, List.not_mem_nil, or_false] at hu
 rcases hu with rfl | rfl <;> rfl
theorem brxzv26 (w : World) : (zeroValue 26).run Tryz.prog w = .ok (.agg #[.slice none 0 0]) w := rfl
theorem brxel24 : Elem Tryz.prog 24 102 5 40 := Elem.mk' Tryz.underlying24 (z := .agg #[.int .u32 0, .int .i64 0, .int .i64 0, .int .i64 0, .int .i64 0]) (by kernel_rfl) rfl (by omega) (by omega)
theorem brxbs24_1_22095 (a0_0 : Int) (a0_1 : Int) (a0_2 : Int) (a0_3 : Int) (a0_4 : Int) (w : World) : (Instr.buildSlice 24 1 #[(0, .agg #[.int .u32 a0_0, .int .i64 a0_1, .int .i64 a0_2, .int .i64 a0_3, .int .i64 a0_4])]).run Tryz.prog w = .ok (.slice (some ⟨w.heap.size, 0, none⟩) 1 1) (w.alloc (.cells [.int .u32 a0_0, .int .i64 a0_1, .int .i64 a0_2, .int .i64 a0_3, .int .i64 a0_4].toArray 102)) := by kernel_rfl
theorem brxbld26_67803 (a0_0 : Option Addr) (a0_0n a0_0c : Nat) (w : World) : (Instr.build 26 #[(0, .slice a0_0 a0_0n a0_0c)]).run Tryz.prog w = .ok (.agg #[.slice a0_0 a0_0n a0_0c]) w := by kernel_rfl
theorem rcmpX_any (x y : En) (hx : x.Ok) (hy : y.Ok) (w : World) :
  Calls Tryz.prog 115 #[.agg x.cells.toArray, .agg y.cells.toArray] w fun e w' => ∃ z : {z : Int // CmpE x y z}, e = .returned (.int .i64 z.1) ∧ Below w.heap.size w w' := by
 refine begin_ (vs := [.agg x.cells.toArray, .agg y.cells.toArray]) Tryz.func115 rfl rfl rfl ?_ (Pm.start w)
 refine zSG ?_
 refine TL.pnew rfl rfl rfl (exec_box (cs := x.cells) rfl rfl rfl) (fun g2 => ?_)
 refine TL.pnew rfl rfl rfl (exec_box (cs := y.cells) rfl rfl rfl) (fun g3 => ?_)
 refine TL.as_ ?_
 refine zET (zS (zSG (TL.v (gF brefld102_0) ?_)))
 refine TL.v (gV 1 (.agg #[.int .u32 x.addr, .int .i64 x.len]) badag100 badsz100) ?_
 refine TL.v (gF brefld102_0) ?_
 refine TL.v (gV 0 (.agg #[.int .u32 y.addr, .int .i64 y.len]) badag100 badsz100) ?_
 refine TL.pcall1 (r := .int .i64 (cmpP x.addr x.len y.addr y.len)) rfl rfl rfl rfl rfl Tryz.func114 (by decide) rfl (fun w1 hw => rcmpP_any x.addr x.len y.addr y.len hx hy w1) ?_
 refine TL.as_ ?_
 refine zET (zSG (TL.mv ?_))
 refine TL.sp bin_neq (fun q14 => ?_) (fun q14 => ?_)
 ·refine zET (zc (zSG (TL.rn 2 rfl (zET (zr (zR ?_))))))
  exact ret_tmp Tryz.results115 rfl (fun w1 hw => ⟨⟨cmpP x.addr x.len y.addr y.len, ⟨fun h => .inl h, fun h => .inl (by omega)⟩⟩, rfl, hw.bel⟩)
 refine zET (zd (zk (zT (zS (zSG (TL.v (gF brefld102_2) ?_))))))
 refine TL.v (gL 1 pcmag3) ?_
 refine TL.v (gF brefld102_2) ?_
 refine TL.v (gL 0 pcmag3) ?_
 refine TL.val rfl rfl rfl (gives_build (v := .agg #[.int .i64 x.frm, .int .i64 y.frm]) rfl rfl (fun w => prsbld120_29156 _ _ w)) ?_
 refine TL.v (gF brefld102_3) ?_
 refine TL.v (gL 1 pcmag3) ?_
 refine TL.v (gF brefld102_3) ?_
 refine TL.v (gL 0 pcmag3) ?_
 refine TL.val rfl rfl rfl (gives_build (v := .agg #[.int .i64 x.to_, .int .i64 y.to_]) rfl rfl (fun w => prsbld120_29156 _ _ w)) ?_
 refine TL.v (gF brefld102_1) ?_
 refine TL.v (gL 1 pcmag3) ?_
 refine TL.v (gF brefld102_1) ?_
 refine TL.v (gL 0 pcmag3) ?_
 refine TL.val rfl rfl rfl (gives_build (v := .agg #[.int .i64 x.prov, .int .i64 y.prov]) rfl rfl (fun w => prsbld120_29156 _ _ w)) ?_
 refine TL.val rfl rfl rfl (gives_build (v := .agg #[.int .i64 x.frm, .int .i64 y.frm, .int .i64 x.to_, .int .i64 y.to_, .int .i64 x.prov, .int .i64 y.prov]) rfl rfl (fun w => brxbld183_19252 _ _ _ _ _ _ w)) ?_
 refine TL.mv ?_
 refine zET (zB (TC.loop_ (α := {i : Nat // i ≤ 3 ∧ (0 < i → x.frm = y.frm)}) (fun z => [(31, .agg #[.int .i64 x.frm, .int .i64 y.frm, .int .i64 x.to_, .int .i64 y.to_, .int .i64 x.prov, .int .i64 y.prov]), (32, .int .i64 ((z.1 : Nat) : Int))]) (fun z => Pm w [.blk g3 102 y.cells, .blk g2 102 x.cells]) (fun z => 3 - z.1) (⟨0, Nat.zero_le _, fun h => absurd h (by decide)⟩) ⟨rfl, rfl, trivial⟩ (fun w1 hw => hw) ?_))
 rintro ⟨i, hi, hfr⟩
 try dsimp only at hi hfr ⊢
 refine zSG ?_
 refine TL.sp bin_lss (fun q33 => ?_) (fun q33 => ?_)
 ·have hi2 : i < 3 := by omega
  obtain ⟨p, q, hp0, hpq⟩ : ∃ p q : Int, (i = 0 → p = x.frm ∧ q = y.frm) ∧ ∀ w : World, (Instr.index 183 (.agg #[.int .i64 x.frm, .int .i64 y.frm, .int .i64 x.to_, .int .i64 y.to_, .int .i64 x.prov, .int .i64 y.prov]) (.int .i64 ((i : Nat) : Int))).run Tryz.prog w = .ok (.agg #[.int .i64 p, .int .i64 q]) w := by
   have h3 : i = 0 ∨ i = 1 ∨ i = 2 := by omega
   rcases h3 with rfl | rfl | rfl
   ·exact ⟨x.frm, y.frm, fun _ => ⟨rfl, rfl⟩, fun w => by kernel_rfl⟩
   ·exact ⟨x.to_, y.to_, fun h => absurd h (by decide), fun w => by kernel_rfl⟩
   exact ⟨x.prov, y.prov, fun h => absurd h (by decide), fun w => by kernel_rfl⟩
  refine zET (zS (zc (zk (zT (zS (zB (zSG ?_)))))))
  refine TL.val rfl rfl rfl (gives_index (v := .agg #[.int .i64 p, .int .i64 q]) rfl rfl rfl hpq) ?_
  refine TL.pnew rfl rfl rfl (exec_alloc (cs := [.int .i64 0, .int .i64 0]) rfl prszv120 rfl) (fun g7 => ?_)
  refine TL.pstore (k := 0) (vs := [.int .i64 p, .int .i64 q]) rfl rfl rfl rfl rfl rfl rfl prssz120 brxone_i64i64 (by show 2 ≤ 2; decide) rfl ?_
  refine zET (zS (zSG ?_))
  refine TL.val rfl rfl rfl (gives_at (v := .pointer (some ⟨g7, 0, none⟩)) rfl rfl rfl (fun w => at_arr Tryz.underlying120 pcmsz3 g7 0 _ 0 (by decide) w)) ?_
  refine TL.v (gL 0 pcmag3) ?_
  refine TL.val rfl rfl rfl (gives_at (v := .pointer (some ⟨g7, 1, none⟩)) rfl rfl rfl (fun w => at_arr Tryz.underlying120 pcmsz3 g7 0 _ 1 (by decide) w)) ?_
  refine TL.v (gL 0 pcmag3) ?_
  refine TL.sp bin_lss (fun q39 => ?_) (fun q39 => ?_)
  ·refine zET (zc (zSG (TL.as_ ?_)))
   refine zET (zr (zR (zRR (zR (zRR ?_)))))
   exact ret_tmp Tryz.results115 rfl (fun w1 hw => ⟨⟨-1, ⟨fun _ => .inr ⟨by omega, by by_cases h0 : i = 0; (have := hp0 h0; omega); (have := hfr (by omega); omega)⟩, fun h => absurd h (by decide)⟩⟩, rfl, hw.bel⟩)
  refine zET (zd (zk (zT (zSG ?_))))
  refine TL.val rfl rfl rfl (gives_at (v := .pointer (some ⟨g7, 0, none⟩)) rfl rfl rfl (fun w => at_arr Tryz.underlying120 pcmsz3 g7 0 _ 0 (by decide) w)) ?_
  refine TL.v (gL 0 pcmag3) ?_
  refine TL.val rfl rfl rfl (gives_at (v := .pointer (some ⟨g7, 1, none⟩)) rfl rfl rfl (fun w => at_arr Tryz.underlying120 pcmsz3 g7 0 _ 1 (by decide) w)) ?_
  refine TL.v (gL 0 pcmag3) ?_
  refine TL.sp bin_gtr (fun q44 => ?_) (fun q44 => ?_)
  ·refine zET (zc (zSG (TL.as_ ?_)))
   refine zET (zr (zRR (zR (zRR ?_))))
   exact ret_tmp Tryz.results115 rfl (fun w1 hw => ⟨⟨1, ⟨fun h => absurd h (by decide), fun _ => .inr ⟨by omega, by by_cases h0 : i = 0; (have := hp0 h0; omega); (have := hfr (by omega); omega)⟩⟩⟩, rfl, hw.bel⟩)
  have hfr2 : x.frm = y.frm := by by_cases h0 : i = 0; (have := hp0 h0; omega); exact hfr (by omega)
  refine zET (zd (zk (zN (zT (zG (TL.v (gD ((i + 1 : Nat) : Int)) ?_))))))
  refine TL.mv ?_
  refine zE ?_
  exact TX.round (⟨i + 1, by omega, fun _ => hfr2⟩) (by show 3 - (i + 1) < 3 - i; omega) ⟨rfl, rfl, trivial⟩ (fun w1 hw => hw.pick [1, 2] (by decide) rfl)
 refine zET (zS (zd (zx (zX (zX (zM (zT (zSG (TL.as_ ?_)))))))))
 refine zET (zr ?_)
 exact ret_tmp Tryz.results115 rfl (fun w1 hw => ⟨⟨0, ⟨fun h => absurd h (by decide), fun _ => .inr ⟨by omega, by have := hfr (by omega); omega⟩⟩⟩, rfl, hw.bel⟩)
theorem raddX_any (A0 : Option Addr) (c0 : Nat) (es : List En) (x : En) (hx : x.Ok) (w : World) (hr : Reads w w.heap.size 5 A0 es.length (flat En.cells es)) (hl1 : es.length ≤ 10000) (hlc : es.length ≤ c0) (hok : ∀ z ∈ es, z.Ok) :
  Calls Tryz.prog 64 #[.agg #[.slice A0 es.length c0], .agg x.cells.toArray] w fun e w' => ∃ y : {y : (Option Addr × Nat) × List En × Int // (y.2.2 = 0 → (∀ z ∈ y.2.1, z ∈ es ∨ z = x) ∧ validR y.2.1 = true) ∧ y.2.1.length ≤ es.length + 1 ∧ y.2.1.length ≤ y.1.2 ∧ y.1.2 ≤ maxLen}, e = .returned (.tuple #[.agg #[.slice y.1.1.1 y.1.2.1.length y.1.1.2], .int .i64 y.1.2.2]) ∧ Pm w [.row (.slice y.1.1.1 y.1.2.1.length y.1.1.2) 102 5 y.1.2.1.length (flat En.cells y.1.2.1)] w' := by
 refine begin_ (vs := [.agg #[.slice A0 es.length c0], .agg x.cells.toArray]) Tryz.func64 rfl rfl rfl ?_ (Pm.start w)
 refine zSG ?_
 refine TL.pnew rfl rfl rfl (exec_box (cs := [.slice A0 es.length c0]) rfl rfl rfl) (fun g2 => ?_)
 refine TL.pnew rfl rfl rfl (exec_box (cs := x.cells) rfl rfl rfl) (fun g3 => ?_)
 refine TL.pnew rfl rfl rfl (exec_alloc (cs := [.slice none 0 0]) rfl brxzv26 rfl) (fun g4 => ?_)
 refine TL.as_ ?_
 refine zET (zS (zSG (TL.v (gV 2 (.agg #[.slice A0 es.length c0]) breag26 bresz26) ?_)))
 refine TL.callsplit rfl rfl rfl rfl rfl Tryz.func85 (by decide) rfl (fun w1 hw => rvalX_any A0 c0 es w1 (hr.up hw.bel) (by omega) hok) (fun h10 => ?_) (fun h10 => ?_)
 ·refine TL.rn 2 rfl (TL.ov (gV 1 (.agg (x.cells).toArray) breag102 bresz102) ?_)
  refine TL.gu ?_
  refine TL.callsplit rfl rfl rfl rfl rfl Tryz.func113 (by decide) rfl (fun w1 hw => rvalE_any x hx w1) (fun h14 => ?_) (fun h14 => ?_)
  ·refine TL.rn 2 rfl (zET (zd (zk (zT (zSG (TL.as_ ?_))))))
   refine zET (zS (zSG (TL.as_ ?_)))
   refine zET (zB (TC.loop_ (α := {y : Nat × Nat // y.1 ≤ es.length ∧ y.2 ≤ y.1 ∧ AddK es x y.1 y.2}) (fun y => [(2, .pointer (some ⟨g2, 0, none⟩)), (3, .pointer (some ⟨g3, 0, none⟩)), (4, .pointer (some ⟨g4, 0, none⟩)), (7, .int .i64 ((y.1.1 : Nat) : Int)), (6, .int .i64 ((y.1.2 : Nat) : Int))]) (fun y => Pm w [.blk g4 26 [.slice none 0 0], .blk g3 102 x.cells, .blk g2 26 [.slice A0 es.length c0]]) (fun y => es.length - y.1.1) (⟨(0, 0), Nat.zero_le _, Nat.le_refl _, AddK.start es x⟩) ⟨rfl, rfl, rfl, rfl, rfl, trivial⟩ (fun w1 hw => hw) ?_))
   rintro ⟨⟨i, k⟩, hi, hk, hK⟩
   dsimp only at hi hk hK ⊢
   refine zS (zSG (TL.mv ?_))
   refine TL.v (gF brefld26_0) ?_
   refine TL.v (gL 2 breag24) ?_
   refine TL.v (gN Tryz.underlying24) ?_
   refine TL.sp bin_lss (fun q22 => ?_) (fun q22 => ?_)
   ·refine zET (zc (zk (zT (zS (zB (zSG (TL.v (gF brefld26_0) ?_)))))))
    refine TL.v (gL 2 breag24) ?_
    refine TL.mv ?_
    have hi28 : i < es.length := by omega
    obtain ⟨x28, hx28⟩ := ex_at hi28
    obtain ⟨b28, o28, hA28, hbb28, hc28⟩ := hr.ad (by omega) (by decide)
    refine TL.val rfl rfl rfl (gA (i := i) Tryz.underlying24 bresz102 rfl rfl rfl rfl hA28 (by omega)) ?_
    refine TL.v (gR en_cel breag102 bresz102 hbb28 hx28 hc28) ?_
    refine TL.pnew rfl rfl rfl (exec_alloc (cs := [.int .u32 0, .int .i64 0, .int .i64 0, .int .i64 0, .int .i64 0]) rfl brezv102 rfl) (fun g8 => ?_)
    refine TL.pstore (k := 0) (vs := x28.cells) rfl rfl rfl rfl rfl rfl rfl bresz102 (en_cel.one _) (by show 5 ≤ 5; decide) (L' := [.blk g8 102 x28.cells, .blk g4 26 [.slice none 0 0], .blk g3 102 x.cells, .blk g2 26 [.slice A0 es.length c0]]) rfl ?_
    refine zET (zS (zSG (TL.v (gF brefld102_0) ?_)))
    refine TL.v (gV 0 (.agg #[.int .u32 x28.addr, .int .i64 x28.len]) badag100 badsz100) ?_
    refine TL.v (gF brefld102_0) ?_
    refine TL.v (gV 2 (.agg #[.int .u32 x.addr, .int .i64 x.len]) badag100 badsz100) ?_
    refine TL.pcall1 (r := .int .i64 (cmpP x28.addr x28.len x.addr x.len)) rfl rfl rfl rfl rfl Tryz.func114 (by decide) rfl (fun w1 hw => rcmpP_any x28.addr x28.len x.addr x.len (hok x28 (List.mem_of_getElem? hx28)) hx w1) ?_
    refine TL.sp bin_eql (fun q35 => ?_) (fun q35 => ?_)
    ·refine TL.mv ?_
     refine TL.ov (gF brefld102_2) ?_
     refine TL.ov (gL 0 pcmag3) ?_
     refine TL.ov (gF brefld102_3) ?_
     refine TL.ov (gL 2 pcmag3) ?_
     refine TL.gu ?_
     refine TL.sp bin_lss (fun q41 => ?_) (fun q41 => ?_)
     ·refine TL.rn 2 rfl (TL.ov (gF brefld102_2) ?_)
      refine TL.ov (gL 2 pcmag3) ?_
      refine TL.ov (gF brefld102_3) ?_
      refine TL.ov (gL 0 pcmag3) ?_
      refine TL.gu ?_
      refine TL.sp bin_lss (fun q48 => ?_) (fun q48 => ?_)
      ·refine TL.pk ?_
       refine zET (zc (zSG ?_))
       refine TL.val rfl rfl rfl (gives_build (v := .agg #[.slice none 0 0]) rfl rfl (fun w => aawbld26_530  w)) ?_
       refine TL.pstore (k := 1) (vs := [.slice none 0 0]) rfl rfl rfl rfl rfl rfl rfl bresz26 dntone_s (by show 1 ≤ 1; decide) (L' := [.blk g8 102 x28.cells, .blk g4 26 [.slice none 0 0], .blk g3 102 x.cells, .blk g2 26 [.slice A0 es.length c0]]) rfl ?_
       refine TL.as_ ?_
       refine zET (zr (zR (zRR (zR (zRR ?_)))))
       exact ret_cell2 (k := 1) (v := .int .i64 9) Tryz.results64 rfl rfl rfl Tryz.underlying26 rfl rfl (fun w1 hw => ⟨⟨((none, 0), ([], 9)), fun h => absurd h (by decide), Nat.zero_le _, Nat.le_refl _, Nat.zero_le _⟩, rfl, (hw.pick [] (by decide) rfl).nilrow _ _⟩)
      refine TL.pk ?_
      refine zET (zd (zk (zT (zSG (TL.v (gV 0 (.agg (x28.cells).toArray) breag102 bresz102) ?_)))))
      refine TL.v (gV 2 (.agg (x.cells).toArray) breag102 bresz102) ?_
      refine TL.call (α := {z : Int // CmpE x28 x z}) (r := fun z => .int .i64 z.1) (I' := fun _ => Pm w [.blk g8 102 x28.cells, .blk g4 26 [.slice none 0 0], .blk g3 102 x.cells, .blk g2 26 [.slice A0 es.length c0]]) rfl rfl rfl rfl rfl Tryz.func115 (by decide) rfl (fun w1 hw => (rcmpX_any x28 x (hok x28 (List.mem_of_getElem? hx28)) hx w1).mono fun e w2 ⟨b, h1, h2⟩ => ⟨b, h1, hw.below h2⟩) ?_
      rintro ⟨z53, hz53⟩
      dsimp only
      refine TL.sp bin_lss (fun q54 => ?_) (fun q54 => ?_)
      ·refine zET (zc (zG (TL.mv ?_)))
       refine TL.v (gD ((i + 1 : Nat) : Int)) ?_
       refine TL.as_ ?_
       refine zE (zN (zT (zG (TL.mv ?_))))
       refine TL.v (gD ((i + 1 : Nat) : Int)) ?_
       refine TL.as_ ?_
       refine zE ?_
       exact TX.round (⟨(i + 1, i + 1), by dsimp only; omega, by dsimp only; omega, hK.step_lt hx28 (hz53.1 (by omega)) (by simp [OvE, q22, q35, q41, q48, q54]; try omega)⟩) (by show es.length - (i + 1) < es.length - i; omega) ⟨rfl, rfl, rfl, rfl, rfl, trivial⟩ (fun w1 hw => hw.pick [1, 2, 3] (by decide) rfl)
      refine zET (zd (zk (zN (zT (zG (TL.mv ?_))))))
      refine TL.v (gD ((i + 1 : Nat) : Int)) ?_
      refine TL.as_ ?_
      refine zE ?_
      exact TX.round (⟨(i + 1, k), by dsimp only; omega, by dsimp only; omega, hK.step_ge hx28 (by omega) (fun h => (hz53.2 (by omega))) (by simp [OvE, q22, q35, q41, q48, q54]; try omega)⟩) (by show es.length - (i + 1) < es.length - i; omega) ⟨rfl, rfl, rfl, rfl, rfl, trivial⟩ (fun w1 hw => hw.pick [1, 2, 3] (by decide) rfl)
     refine TL.rn 8 rfl (zET (zd (zk (zT (zSG (TL.v (gV 0 (.agg (x28.cells).toArray) breag102 bresz102) ?_))))))
     refine TL.v (gV 2 (.agg (x.cells).toArray) breag102 bresz102) ?_
     refine TL.call (α := {z : Int // CmpE x28 x z}) (r := fun z => .int .i64 z.1) (I' := fun _ => Pm w [.blk g8 102 x28.cells, .blk g4 26 [.slice none 0 0], .blk g3 102 x.cells, .blk g2 26 [.slice A0 es.length c0]]) rfl rfl rfl rfl rfl Tryz.func115 (by decide) rfl (fun w1 hw => (rcmpX_any x28 x (hok x28 (List.mem_of_getElem? hx28)) hx w1).mono fun e w2 ⟨b, h1, h2⟩ => ⟨b, h1, hw.below h2⟩) ?_
     rintro ⟨z53, hz53⟩
     dsimp only
     refine TL.sp bin_lss (fun q54 => ?_) (fun q54 => ?_)
     ·refine zET (zc (zG (TL.mv ?_)))
      refine TL.v (gD ((i + 1 : Nat) : Int)) ?_
      refine TL.as_ ?_
      refine zE (zN (zT (zG (TL.mv ?_))))
      refine TL.v (gD ((i + 1 : Nat) : Int)) ?_
      refine TL.as_ ?_
      refine zE ?_
      exact TX.round (⟨(i + 1, i + 1), by dsimp only; omega, by dsimp only; omega, hK.step_lt hx28 (hz53.1 (by omega)) (by simp [OvE, q22, q35, q41, q54]; try omega)⟩) (by show es.length - (i + 1) < es.length - i; omega) ⟨rfl, rfl, rfl, rfl, rfl, trivial⟩ (fun w1 hw => hw.pick [1, 2, 3] (by decide) rfl)
     refine zET (zd (zk (zN (zT (zG (TL.mv ?_))))))
     refine TL.v (gD ((i + 1 : Nat) : Int)) ?_
     refine TL.as_ ?_
     refine zE ?_
     exact TX.round (⟨(i + 1, k), by dsimp only; omega, by dsimp only; omega, hK.step_ge hx28 (by omega) (fun h => (hz53.2 (by omega))) (by simp [OvE, q22, q35, q41, q54]; try omega)⟩) (by show es.length - (i + 1) < es.length - i; omega) ⟨rfl, rfl, rfl, rfl, rfl, trivial⟩ (fun w1 hw => hw.pick [1, 2, 3] (by decide) rfl)
    refine TL.rn 14 rfl (zET (zd (zk (zT (zSG (TL.v (gV 0 (.agg (x28.cells).toArray) breag102 bresz102) ?_))))))
    refine TL.v (gV 2 (.agg (x.cells).toArray) breag102 bresz102) ?_
    refine TL.call (α := {z : Int // CmpE x28 x z}) (r := fun z => .int .i64 z.1) (I' := fun _ => Pm w [.blk g8 102 x28.cells, .blk g4 26 [.slice none 0 0], .blk g3 102 x.cells, .blk g2 26 [.slice A0 es.length c0]]) rfl rfl rfl rfl rfl Tryz.func115 (by decide) rfl (fun w1 hw => (rcmpX_any x28 x (hok x28 (List.mem_of_getElem? hx28)) hx w1).mono fun e w2 ⟨b, h1, h2⟩ => ⟨b, h1, hw.below h2⟩) ?_
    rintro ⟨z53, hz53⟩
    dsimp only
    refine TL.sp bin_lss (fun q54 => ?_) (fun q54 => ?_)
    ·refine zET (zc (zG (TL.mv ?_)))
     refine TL.v (gD ((i + 1 : Nat) : Int)) ?_
     refine TL.as_ ?_
     refine zE (zN (zT (zG (TL.mv ?_))))
     refine TL.v (gD ((i + 1 : Nat) : Int)) ?_
     refine TL.as_ ?_
     refine zE ?_
     exact TX.round (⟨(i + 1, i + 1), by dsimp only; omega, by dsimp only; omega, hK.step_lt hx28 (hz53.1 (by omega)) (by simp [OvE, q22, q35, q54]; try omega)⟩) (by show es.length - (i + 1) < es.length - i; omega) ⟨rfl, rfl, rfl, rfl, rfl, trivial⟩ (fun w1 hw => hw.pick [1, 2, 3] (by decide) rfl)
    refine zET (zd (zk (zN (zT (zG (TL.mv ?_))))))
    refine TL.v (gD ((i + 1 : Nat) : Int)) ?_
    refine TL.as_ ?_
    refine zE ?_
    exact TX.round (⟨(i + 1, k), by dsimp only; omega, by dsimp only; omega, hK.step_ge hx28 (by omega) (fun h => (hz53.2 (by omega))) (by simp [OvE, q22, q35, q54]; try omega)⟩) (by show es.length - (i + 1) < es.length - i; omega) ⟨rfl, rfl, rfl, rfl, rfl, trivial⟩ (fun w1 hw => hw.pick [1, 2, 3] (by decide) rfl)
   refine zET (zd (zx (zX (zX (zM (zT (zS (zSG (TL.v (gF brefld26_0) ?_)))))))))
   refine TL.v (gL 2 breag24) ?_
   refine TL.v (gN Tryz.underlying24) ?_
   refine TL.sp bin_geq (fun q60 => ?_) (fun q60 => ?_)
   ·refine zET (zc (zSG ?_))
    refine TL.val rfl rfl rfl (gives_build (v := .agg #[.slice none 0 0]) rfl rfl (fun w => aawbld26_530  w)) ?_
    refine TL.pstore (k := 0) (vs := [.slice none 0 0]) rfl rfl rfl rfl rfl rfl rfl bresz26 dntone_s (by show 1 ≤ 1; decide) (L' := [.blk g4 26 [.slice none 0 0], .blk g3 102 x.cells, .blk g2 26 [.slice A0 es.length c0]]) rfl ?_
    refine TL.as_ ?_
    refine zET (zr (zR ?_))
    exact ret_cell2 (k := 0) (v := .int .i64 5) Tryz.results64 rfl rfl rfl Tryz.underlying26 rfl rfl (fun w1 hw => ⟨⟨((none, 0), ([], 5)), fun h => absurd h (by decide), Nat.zero_le _, Nat.le_refl _, Nat.zero_le _⟩, rfl, (hw.pick [] (by decide) rfl).nilrow _ _⟩)
   refine zET (zd (zk (zT (zS (TC.held (ls := #[Ff,Ff,Ff,Ff,Ff,Ff,Ff,Ff,Ff,Ff,Ff,Ff,Ff,Ff,Ff,Ff]) (Pm w [.blk g3 102 x.cells, .blk g2 26 [.slice A0 es.length c0]]) (by kernel_rfl) rfl rfl (fun w hw => hw.drawn _) ?_)))))
   refine TH.tk 0 rfl rfl rfl (gF brefld26_0) (fun w1 hw => hw.pick [1, 2] (by decide) rfl) ?_
   refine TH.tk 1 rfl rfl rfl (gL 1 breag24) (fun w1 hw => hw.pick [1, 2] (by decide) rfl) ?_
   refine TH.tk 2 rfl rfl rfl (gives_move rfl rfl) (fun w1 hw => hw.pick [1, 2] (by decide) rfl) ?_
   refine TH.tk 3 rfl rfl rfl (gives_sliceH (v := .slice A0 k c0) rfl rfl rfl (fun w => cut_hi Tryz.underlying24 bresz102 _ _ _ k rfl (by omega) w)) (fun w1 hw => hw.pick [1, 2] (by decide) rfl) ?_
   refine TH.tk 5 rfl rfl rfl (gV 0 (.agg (x.cells).toArray) breag102 bresz102) (fun w1 hw => hw.pick [1, 2] (by decide) rfl) ?_
   refine TH.tk 8 rfl rfl rfl (gF brefld26_0) (fun w1 hw => hw.pick [1, 2] (by decide) rfl) ?_
   refine TH.tk 9 rfl rfl rfl (gL 1 breag24) (fun w1 hw => hw.pick [1, 2] (by decide) rfl) ?_
   refine TH.tk 10 rfl rfl rfl (gives_move rfl rfl) (fun w1 hw => hw.pick [1, 2] (by decide) rfl) ?_
   refine TH.tk 11 rfl rfl rfl (gives_sliceL (v := .slice (if c0 = k then A0 else A0.map (·.add (k * 5))) (es.length - k) (c0 - k)) rfl rfl rfl (fun w => cut_lo Tryz.underlying24 bresz102 _ _ _ k rfl (by omega) w)) (fun w1 hw => hw.pick [1, 2] (by decide) rfl) ?_
   refine TH.two' (listed1 := #[Tt,Tt,Tt,Tt,Tt,Tt,Ff,Ff,Tt,Tt,Tt,Tt,Ff,Ff,Ff,Ff]) (listed2 := #[Tt,Tt,Tt,Tt,Ff,Tt,Tt,Ff,Tt,Tt,Tt,Tt,Ff,Ff,Ff,Ff]) 4 6 rfl rfl (by kernel_rfl) rfl rfl ?_ ?_
   ·refine TL.nilrow 102 5 ?_
    refine TL.appendT (k := 0) rfl rfl rfl rfl Tryz.underlying24 brxel24 rfl rfl rfl (fun w1 hw => ⟨_, (Reads.headF en_cel (hr.up hw.bel) (by omega))⟩) (flat_one en_cel _) (by show _ * 40 ≤ _; omega) (k) ((Nat.zero_add _).symm) (flat En.cells (es.take k)) (rfl) (fun A66 c66 hA661 hA662 => ?_)
    refine zE ?_
    refine TX.held (fun w1 hw => hw.pick [2, 3] (by decide) rfl) ?_
    refine TH.only' 6 rfl (by kernel_rfl) rfl ?_
    refine TL.prowS (e := 102) (size := 5) (cs := flat En.cells [x]) rfl rfl rfl rfl rfl (fun w => brxbs24_1_22095 _ _ _ _ _ w) (by decide) rfl (fun g68 => ?_)
    refine zE ?_
    refine TX.held (fun w1 hw => hw.pick [3, 4] (by decide) rfl) ?_
    refine TH.only' 7 rfl (by kernel_rfl) rfl ?_
    refine TL.appendT (k := 1) rfl rfl rfl rfl Tryz.underlying24 brxel24 rfl rfl rfl (fun w1 hw => pm_reads hw (k := 0) rfl) (flat_one en_cel _) (by show _ * 40 ≤ _; omega) (k + 1) (rfl) (flat En.cells ((es.take k) ++ [x])) ((flat_app _ _).symm) (fun A69 c69 hA691 hA692 => ?_)
    refine zE ?_
    refine TX.held (fun w1 hw => hw.pick [3, 4] (by decide) rfl) ?_
    refine TH.only' 12 rfl (by kernel_rfl) rfl ?_
    refine TL.appendT (k := 1) rfl rfl rfl rfl Tryz.underlying24 brxel24 rfl rfl rfl (fun w1 hw => ⟨_, (Reads.tailF en_cel (hr.up hw.bel) (by omega) (by omega))⟩) (flat_one en_cel _) (by show _ * 40 ≤ _; omega) (k + 1 + (es.length - k)) (rfl) (flat En.cells (((es.take k) ++ [x]) ++ (es.drop k))) ((flat_app _ _).symm) (fun A74 c74 hA741 hA742 => ?_)
    refine zE ?_
    refine TX.he (fun w1 hw => hw.pick [3, 4] (by decide) rfl) fun hS => ?_
    refine TH.t 13 rfl (gives_build (v := .agg #[.slice A74 (k + 1 + (es.length - k)) c74]) rfl rfl (fun w => brxbld26_67803 _ _ _ w)) hS ?_
    refine TH.only' 14 rfl (by kernel_rfl) rfl ?_
    refine TL.pstore (k := 2) (vs := [.slice A74 (k + 1 + (es.length - k)) c74]) rfl rfl rfl rfl rfl rfl rfl bresz26 dntone_s (by show 1 ≤ 1; decide) (L' := [.row (.slice (some ⟨g68, 0, none⟩) 1 1) 102 5 1 (flat En.cells [x]), .row (.slice A74 (k + 1 + (es.length - k)) c74) 102 5 (k + 1 + (es.length - k)) (flat En.cells (((es.take k) ++ [x]) ++ (es.drop k))), .blk g4 26 [.slice A74 (k + 1 + (es.length - k)) c74], .blk g3 102 x.cells, .blk g2 26 [.slice A0 es.length c0]]) rfl ?_
    refine zE ?_
    refine TX.he (fun w1 hw => hw.pick [3, 4] (by decide) rfl) fun hS => ?_
    refine TH.t 15 rfl (gives_assign rfl rfl) hS ?_
    refine TH.done (by kernel_rfl) ?_
    refine zT (zr ?_)
    have hle : (((es.take k) ++ [x]) ++ (es.drop k)).length = k + 1 + (es.length - k) := by simp only [List.length_append, List.length_take, List.length_drop, List.length_cons, List.length_nil]; omega
    have hva : validR (((es.take k) ++ [x]) ++ (es.drop k)) = true := ins_valid h10 (by rw [← rvalidE_eq hx]; exact h14) (by omega) hK.1 (fun z hz => hK.2.1 k (Nat.le_refl _) (by have := (List.getElem?_eq_some_iff.1 hz).1; omega) z hz) (fun j z hz => hK.2.2 j (by have := (List.getElem?_eq_some_iff.1 hz).1; omega) z hz)
    exact ret_cell2 (k := 2) (v := .int .i64 0) Tryz.results64 rfl rfl rfl Tryz.underlying26 rfl rfl (fun w1 hw => ⟨⟨((A74, c74), (((es.take k) ++ [x]) ++ (es.drop k), 0)), fun _ => ⟨fun z h => mem_ins h, hva⟩, by dsimp only; omega, by dsimp only; omega, hA742⟩, by dsimp only; rw [hle], by dsimp only; rw [hle]; exact hw.pick [1] (by decide) rfl⟩)
   refine TL.prowS (e := 102) (size := 5) (cs := flat En.cells [x]) rfl rfl rfl rfl rfl (fun w => brxbs24_1_22095 _ _ _ _ _ w) (by decide) rfl (fun g68 => ?_)
   refine zE ?_
   refine TX.held (fun w1 hw => hw.pick [2, 3] (by decide) rfl) ?_
   refine TH.only' 4 rfl (by kernel_rfl) rfl ?_
   refine TL.nilrow 102 5 ?_
   refine TL.appendT (k := 0) rfl rfl rfl rfl Tryz.underlying24 brxel24 rfl rfl rfl (fun w1 hw => ⟨_, (Reads.headF en_cel (hr.up hw.bel) (by omega))⟩) (flat_one en_cel _) (by show _ * 40 ≤ _; omega) (k) ((Nat.zero_add _).symm) (flat En.cells (es.take k)) (rfl) (fun A66 c66 hA661 hA662 => ?_)
   refine zE ?_
   refine TX.held (fun w1 hw => hw.pick [3, 4] (by decide) rfl) ?_
   refine TH.only' 7 rfl (by kernel_rfl) rfl ?_
   refine TL.appendT (k := 0) rfl rfl rfl rfl Tryz.underlying24 brxel24 rfl rfl rfl (fun w1 hw => pm_reads hw (k := 1) rfl) (flat_one en_cel _) (by show _ * 40 ≤ _; omega) (k + 1) (rfl) (flat En.cells ((es.take k) ++ [x])) ((flat_app _ _).symm) (fun A69 c69 hA691 hA692 => ?_)
   refine zE ?_
   refine TX.held (fun w1 hw => hw.pick [3, 4] (by decide) rfl) ?_
   refine TH.only' 12 rfl (by kernel_rfl) rfl ?_
   refine TL.appendT (k := 0) rfl rfl rfl rfl Tryz.underlying24 brxel24 rfl rfl rfl (fun w1 hw => ⟨_, (Reads.tailF en_cel (hr.up hw.bel) (by omega) (by omega))⟩) (flat_one en_cel _) (by show _ * 40 ≤ _; omega) (k + 1 + (es.length - k)) (rfl) (flat En.cells (((es.take k) ++ [x]) ++ (es.drop k))) ((flat_app _ _).symm) (fun A74 c74 hA741 hA742 => ?_)
   refine zE ?_
   refine TX.he (fun w1 hw => hw.pick [3, 4] (by decide) rfl) fun hS => ?_
   refine TH.t 13 rfl (gives_build (v := .agg #[.slice A74 (k + 1 + (es.length - k)) c74]) rfl rfl (fun w => brxbld26_67803 _ _ _ w)) hS ?_
   refine TH.only' 14 rfl (by kernel_rfl) rfl ?_
   refine TL.pstore (k := 2) (vs := [.slice A74 (k + 1 + (es.length - k)) c74]) rfl rfl rfl rfl rfl rfl rfl bresz26 dntone_s (by show 1 ≤ 1; decide) (L' := [.row (.slice A74 (k + 1 + (es.length - k)) c74) 102 5 (k + 1 + (es.length - k)) (flat En.cells (((es.take k) ++ [x]) ++ (es.drop k))), .row (.slice (some ⟨g68, 0, none⟩) 1 1) 102 5 1 (flat En.cells [x]), .blk g4 26 [.slice A74 (k + 1 + (es.length - k)) c74], .blk g3 102 x.cells, .blk g2 26 [.slice A0 es.length c0]]) rfl ?_
   refine zE ?_
   refine TX.he (fun w1 hw => hw.pick [3, 4] (by decide) rfl) fun hS => ?_
   refine TH.t 15 rfl (gives_assign rfl rfl) hS ?_
   refine TH.done (by kernel_rfl) ?_
   refine zT (zr ?_)
   have hle : (((es.take k) ++ [x]) ++ (es.drop k)).length = k + 1 + (es.length - k) := by simp only [List.length_append, List.length_take, List.length_drop, List.length_cons, List.length_nil]; omega
   have hva : validR (((es.take k) ++ [x]) ++ (es.drop k)) = true := ins_valid h10 (by rw [← rvalidE_eq hx]; exact h14) (by omega) hK.1 (fun z hz => hK.2.1 k (Nat.le_refl _) (by have := (List.getElem?_eq_some_iff.1 hz).1; omega) z hz) (fun j z hz => hK.2.2 j (by have := (List.getElem?_eq_some_iff.1 hz).1; omega) z hz)
   exact ret_cell2 (k := 2) (v := .int .i64 0) Tryz.results64 rfl rfl rfl Tryz.underlying26 rfl rfl (fun w1 hw => ⟨⟨((A74, c74), (((es.take k) ++ [x]) ++ (es.drop k), 0)), fun _ => ⟨fun z h => mem_ins h, hva⟩, by dsimp only; omega, by dsimp only; omega, hA742⟩, by dsimp only; rw [hle], by dsimp only; rw [hle]; exact hw.pick [0] (by decide) rfl⟩)
  refine TL.rn 2 rfl (zET (zc (zSG ?_)))
  refine TL.val rfl rfl rfl (gives_build (v := .agg #[.slice none 0 0]) rfl rfl (fun w => aawbld26_530  w)) ?_
  refine TL.pstore (k := 0) (vs := [.slice none 0 0]) rfl rfl rfl rfl rfl rfl rfl bresz26 dntone_s (by show 1 ≤ 1; decide) (L' := [.blk g4 26 [.slice none 0 0], .blk g3 102 x.cells, .blk g2 26 [.slice A0 es.length c0]]) rfl ?_
  refine TL.as_ ?_
  refine zET (zr (zR ?_))
  exact ret_cell2 (k := 0) (v := .int .i64 1) Tryz.results64 rfl rfl rfl Tryz.underlying26 rfl rfl (fun w1 hw => ⟨⟨((none, 0), ([], 1)), fun h => absurd h (by decide), Nat.zero_le _, Nat.le_refl _, Nat.zero_le _⟩, rfl, (hw.pick [] (by decide) rfl).nilrow _ _⟩)
 refine TL.rn 6 rfl (zET (zc (zSG ?_)))
 refine TL.val rfl rfl rfl (gives_build (v := .agg #[.slice none 0 0]) rfl rfl (fun w => aawbld26_530  w)) ?_
 refine TL.pstore (k := 0) (vs := [.slice none 0 0]) rfl rfl rfl rfl rfl rfl rfl bresz26 dntone_s (by show 1 ≤ 1; decide) (L' := [.blk g4 26 [.slice none 0 0], .blk g3 102 x.cells, .blk g2 26 [.slice A0 es.length c0]]) rfl ?_
 refine TL.as_ ?_
 refine zET (zr (zR ?_))
 exact ret_cell2 (k := 0) (v := .int .i64 1) Tryz.results64 rfl rfl rfl Tryz.underlying26 rfl rfl (fun w1 hw => ⟨⟨((none, 0), ([], 1)), fun h => absurd h (by decide), Nat.zero_le _, Nat.le_refl _, Nat.zero_le _⟩, rfl, (hw.pick [] (by decide) rfl).nilrow _ _⟩)
theorem registryX_cod (cb : Nat) (w : World) (hC : Cod w cb) (m : Nat) (hm : m ≤ 100) :
  Calls Tryz.prog 19 #[.pointer (some ⟨cb, 0, none⟩), .int .i64 ((m : Nat) : Int)] w fun e w' => ∃ x : {y : (Option Addr × Nat) × List En // ((∀ e ∈ y.2, EnG e) ∧ validR y.2 = true) ∧ y.2.length ≤ m ∧ y.2.length ≤ y.1.2 ∧ y.1.2 ≤ maxLen}, e = .returned (.agg #[.slice x.1.1.1 x.1.2.length x.1.1.2]) ∧ Codr (fun w => Cod w cb) cb w ([.row (.slice x.1.1.1 x.1.2.length x.1.1.2) 102 5 x.1.2.length (flat En.cells x.1.2)]) w' := by
 refine begin_ (vs := [.pointer (some ⟨cb, 0, none⟩), .int .i64 ((m : Nat) : Int)]) (I := Pm ⟨w, cb⟩ (.abs cb (fun w => Cod w cb) :: oths cb w)) Tryz.func19 rfl rfl rfl ?_ (Pm.codes hC (cod_cells hC) (cod_stab cb))
 refine zSG ?_
 refine TL.pnew rfl rfl rfl (exec_alloc (cs := [.slice none 0 0]) rfl brxzv26 rfl) (fun g4 => ?_)
 refine zET (zSG ?_)
 refine TL.pnew rfl rfl rfl (exec_alloc (cs := [.slice none 0 0]) rfl brxzv26 rfl) (fun g5 => ?_)
 refine zET (zS (zSG (TL.rn 2 rfl (TL.v (gD ((m + 1 : Nat) : Int)) ?_))))
 refine TL.pcallCod (k := 2) (α := {q9 : Nat // q9 ≤ 65535 ∧ (1 ≤ (((m + 1 : Nat) : Int) : Int) → (q9 : Int) < ((m + 1 : Nat) : Int))}) (fun q9 => .int .i64 ((q9.1 : Nat) : Int)) (fun q9 => []) rfl rfl rfl rfl rfl Tryz.func21 (by decide) rfl rfl (fun w1 hw hC1 => next_cod cb w1 ((m + 1 : Nat) : Int) hC1) ?_
 rintro ⟨k0, hk01, hk02⟩
 dsimp only [List.cons_append, List.nil_append]
 refine TL.as_ ?_
 refine zET (zB (TC.nilrow 102 5 ?_))
 refine TC.loop_ (α := {y : Nat × (Option Addr × Nat) × List En // y.1 + y.2.2.length ≤ m ∧ ((∀ e ∈ y.2.2, EnG e) ∧ validR y.2.2 = true) ∧ y.2.2.length ≤ y.2.1.2 ∧ y.2.1.2 ≤ maxLen}) (fun y => [(0, .pointer (some ⟨cb, 0, none⟩)), (4, .pointer (some ⟨g4, 0, none⟩)), (5, .pointer (some ⟨g5, 0, none⟩)), (6, .int .i64 ((y.1.1 : Nat) : Int))]) (fun y => Pm ⟨w, cb⟩ ([.row (.slice y.1.2.1.1 y.1.2.2.length y.1.2.1.2) 102 5 y.1.2.2.length (flat En.cells y.1.2.2), .blk g5 26 [.slice y.1.2.1.1 y.1.2.2.length y.1.2.1.2], .blk g4 26 [.slice none 0 0], .abs cb (fun w => Cod w cb)] ++ oths cb w)) (fun y => y.1.1) (⟨(k0, (none, 0), []), by dsimp only [List.length_nil]; omega, ⟨fun e he => absurd he List.not_mem_nil, rfl⟩, Nat.le_refl _, Nat.zero_le _⟩) ⟨rfl, rfl, rfl, rfl, trivial⟩ (fun w1 hw => hw) ?_
 rintro ⟨⟨k, ⟨A, c⟩, es⟩, hk, hEn, hoc, hom⟩
 dsimp only at hk hEn hoc hom ⊢
 refine zS (zSG (TL.mv ?_))
 refine TL.sp bin_gtr (fun q14 => ?_) (fun q14 => ?_)
 ·refine zET (zc (zk (zT (zS (zB ?_)))))
  refine TC.join (α := {y : Nat × (Option Addr × Nat) × List En × Int // (y.2.2.2 = 0 → ((∀ e ∈ y.2.2.1, EnG e) ∧ validR y.2.2.1 = true) ∧ y.2.2.1.length ≤ es.length + 1) ∧ y.2.2.1.length ≤ y.2.1.2 ∧ y.2.1.2 ≤ maxLen}) (fun y => [(0, .pointer (some ⟨cb, 0, none⟩)), (4, .pointer (some ⟨g4, 0, none⟩)), (5, .pointer (some ⟨g5, 0, none⟩)), (6, .int .i64 ((k : Nat) : Int)), (7, .pointer (some ⟨y.1.1, 0, none⟩)), (8, .int .i64 y.1.2.2.2)]) (fun y => Pm ⟨w, cb⟩ ([.row (.slice y.1.2.1.1 y.1.2.2.1.length y.1.2.1.2) 102 5 y.1.2.2.1.length (flat En.cells y.1.2.2.1), .blk y.1.1 26 [.slice y.1.2.1.1 y.1.2.2.1.length y.1.2.1.2], .row (.slice A es.length c) 102 5 es.length (flat En.cells es), .blk g5 26 [.slice A es.length c], .blk g4 26 [.slice none 0 0], .abs cb (fun w => Cod w cb)] ++ oths cb w)) ?_ ?_
  ·refine TC.held (ls := #[Ff,Ff,Ff,Ff,Ff,Ff,Ff,Ff,Ff,Ff]) (Pm ⟨w, cb⟩ [.blk g5 26 [.slice A es.length c]]) (by kernel_rfl) rfl rfl (fun w hw => hw.drawn _) ?_
   refine TH.tk 0 rfl rfl rfl (gV 0 (.agg #[.slice A es.length c]) breag26 bresz26) (fun w1 hw => hw.pick [1] (by decide) rfl) ?_
   refine TH.tk 1 rfl rfl rfl (gives_move rfl rfl) (fun w1 hw => hw.pick [1] (by decide) rfl) ?_
   refine TH.two' (listed1 := #[Tt,Tt,Tt,Ff,Ff,Ff,Ff,Ff,Ff,Ff]) (listed2 := #[Tt,Tt,Ff,Ff,Ff,Ff,Ff,Tt,Ff,Ff]) 2 7 rfl rfl (by kernel_rfl) rfl rfl ?_ ?_
   ·refine TL.pcallCod (k := 3) (α := {y : En // EnG y}) (fun x => .agg (x.1.cells).toArray) (fun x => []) rfl rfl rfl rfl rfl Tryz.func65 (by decide) rfl rfl (fun w1 hw hC1 => entry_cod cb w1 hC1) ?_
    rintro ⟨x20, hx20⟩
    dsimp only [List.cons_append, List.nil_append]
    refine zE ?_
    refine TX.held (fun w1 hw => hw.pick [1] (by decide) rfl) ?_
    refine TH.two' (listed1 := #[Tt,Tt,Tt,Tt,Ff,Ff,Ff,Ff,Ff,Ff]) (listed2 := #[Tt,Tt,Tt,Ff,Ff,Ff,Ff,Tt,Ff,Ff]) 3 7 rfl rfl (by kernel_rfl) rfl rfl ?_ ?_
    ·refine TL.pcallPm (α := {y : (Option Addr × Nat) × List En × Int // (y.2.2 = 0 → (∀ z ∈ y.2.1, z ∈ es ∨ z = x20) ∧ validR y.2.1 = true) ∧ y.2.1.length ≤ es.length + 1 ∧ y.2.1.length ≤ y.1.2 ∧ y.1.2 ≤ maxLen}) (fun y => .tuple #[.agg #[.slice y.1.1.1 y.1.2.1.length y.1.1.2], .int .i64 y.1.2.2]) (fun y => [.row (.slice y.1.1.1 y.1.2.1.length y.1.1.2) 102 5 y.1.2.1.length (flat En.cells y.1.2.1)]) rfl rfl rfl rfl rfl Tryz.func64 (by decide) rfl (fun w1 hw => raddX_any A c es x20 hx20.ok w1 (pm_rd hw (k := 0) rfl) (by omega) hoc (fun z hz => (hEn.1 z hz).ok)) ?_
     rintro ⟨⟨⟨Ar, cr⟩, rs, er⟩, hrs, hrl, hrc, hrd⟩
     dsimp only [List.cons_append, List.nil_append] at hrs hrl hrc hrd ⊢
     refine zE ?_
     refine TX.he (fun w1 hw => hw.pick [2] (by decide) rfl) fun hS => ?_
     refine TH.t 4 rfl (gives_move rfl rfl) hS ?_
     refine TH.t 5 rfl (gives_extract rfl rfl rfl) hS ?_
     refine TH.t 6 rfl (gives_extract rfl rfl rfl) hS ?_
     refine TH.only' 7 rfl (by kernel_rfl) rfl ?_
     refine TL.pnew rfl rfl rfl (exec_alloc (cs := [.slice none 0 0]) rfl brxzv26 rfl) (fun g7 => ?_)
     refine zE ?_
     refine TX.held (fun w1 hw => hw.pick [3] (by decide) rfl) ?_
     refine TH.only' 8 rfl (by kernel_rfl) rfl ?_
     refine TL.pstore (k := 0) (vs := [.slice Ar rs.length cr]) rfl rfl rfl rfl rfl rfl rfl bresz26 dntone_s (by show 1 ≤ 1; decide) rfl ?_
     refine zE ?_
     refine TX.he (fun w1 hw => hw.pick [3] (by decide) rfl) fun hS => ?_
     refine TH.t 9 rfl (gives_assign rfl rfl) hS ?_
     refine TH.done (by kernel_rfl) ?_
     exact TX.joined (⟨(g7, (Ar, cr), rs, er), fun h0 => ⟨⟨fun e he => ((hrs h0).1 e he).elim (hEn.1 e) (fun h1 => by rw [h1]; exact hx20), (hrs h0).2⟩, hrl⟩, hrc, hrd⟩) (⟨rfl, rfl, rfl, rfl, rfl, rfl, trivial⟩) (fun w1 hw => (show Pm ⟨w, cb⟩ ([.row (.slice Ar rs.length cr) 102 5 rs.length (flat En.cells rs), .blk g7 26 [.slice Ar rs.length cr], .row (.slice A es.length c) 102 5 es.length (flat En.cells es), .blk g5 26 [.slice A es.length c], .blk g4 26 [.slice none 0 0], .abs cb (fun w => Cod w cb)] ++ oths cb w) w1 from hw.pickT 6 [1, 0, 2, 3, 4, 5] (by decide) (by decide) rfl rfl))
    refine TL.pnew rfl rfl rfl (exec_alloc (cs := [.slice none 0 0]) rfl brxzv26 rfl) (fun g7 => ?_)
    refine zE ?_
    refine TX.held (fun w1 hw => hw.pick [2] (by decide) rfl) ?_
    refine TH.only' 3 rfl (by kernel_rfl) rfl ?_
    refine TL.pcallPm (α := {y : (Option Addr × Nat) × List En × Int // (y.2.2 = 0 → (∀ z ∈ y.2.1, z ∈ es ∨ z = x20) ∧ validR y.2.1 = true) ∧ y.2.1.length ≤ es.length + 1 ∧ y.2.1.length ≤ y.1.2 ∧ y.1.2 ≤ maxLen}) (fun y => .tuple #[.agg #[.slice y.1.1.1 y.1.2.1.length y.1.1.2], .int .i64 y.1.2.2]) (fun y => [.row (.slice y.1.1.1 y.1.2.1.length y.1.1.2) 102 5 y.1.2.1.length (flat En.cells y.1.2.1)]) rfl rfl rfl rfl rfl Tryz.func64 (by decide) rfl (fun w1 hw => raddX_any A c es x20 hx20.ok w1 (pm_rd hw (k := 1) rfl) (by omega) hoc (fun z hz => (hEn.1 z hz).ok)) ?_
    rintro ⟨⟨⟨Ar, cr⟩, rs, er⟩, hrs, hrl, hrc, hrd⟩
    dsimp only [List.cons_append, List.nil_append] at hrs hrl hrc hrd ⊢
    refine zE ?_
    refine TX.he (fun w1 hw => hw.pick [3] (by decide) rfl) fun hS => ?_
    refine TH.t 4 rfl (gives_move rfl rfl) hS ?_
    refine TH.t 5 rfl (gives_extract rfl rfl rfl) hS ?_
    refine TH.t 6 rfl (gives_extract rfl rfl rfl) hS ?_
    refine TH.only' 8 rfl (by kernel_rfl) rfl ?_
    refine TL.pstore (k := 1) (vs := [.slice Ar rs.length cr]) rfl rfl rfl rfl rfl rfl rfl bresz26 dntone_s (by show 1 ≤ 1; decide) rfl ?_
    refine zE ?_
    refine TX.he (fun w1 hw => hw.pick [3] (by decide) rfl) fun hS => ?_
    refine TH.t 9 rfl (gives_assign rfl rfl) hS ?_
    refine TH.done (by kernel_rfl) ?_
    exact TX.joined (⟨(g7, (Ar, cr), rs, er), fun h0 => ⟨⟨fun e he => ((hrs h0).1 e he).elim (hEn.1 e) (fun h1 => by rw [h1]; exact hx20), (hrs h0).2⟩, hrl⟩, hrc, hrd⟩) (⟨rfl, rfl, rfl, rfl, rfl, rfl, trivial⟩) (fun w1 hw => hw)
   refine TL.pnew rfl rfl rfl (exec_alloc (cs := [.slice none 0 0]) rfl brxzv26 rfl) (fun g7 => ?_)
   refine zE ?_
   refine TX.held (fun w1 hw => hw.pick [2] (by decide) rfl) ?_
   refine TH.only' 2 rfl (by kernel_rfl) rfl ?_
   refine TL.pcallCod (k := 4) (α := {y : En // EnG y}) (fun x => .agg (x.1.cells).toArray) (fun x => []) rfl rfl rfl rfl rfl Tryz.func65 (by decide) rfl rfl (fun w1 hw hC1 => entry_cod cb w1 hC1) ?_
   rintro ⟨x20, hx20⟩
   dsimp only [List.cons_append, List.nil_append]
   refine zE ?_
   refine TX.held (fun w1 hw => hw.pick [2] (by decide) rfl) ?_
   refine TH.only' 3 rfl (by kernel_rfl) rfl ?_
   refine TL.pcallPm (α := {y : (Option Addr × Nat) × List En × Int // (y.2.2 = 0 → (∀ z ∈ y.2.1, z ∈ es ∨ z = x20) ∧ validR y.2.1 = true) ∧ y.2.1.length ≤ es.length + 1 ∧ y.2.1.length ≤ y.1.2 ∧ y.1.2 ≤ maxLen}) (fun y => .tuple #[.agg #[.slice y.1.1.1 y.1.2.1.length y.1.1.2], .int .i64 y.1.2.2]) (fun y => [.row (.slice y.1.1.1 y.1.2.1.length y.1.1.2) 102 5 y.1.2.1.length (flat En.cells y.1.2.1)]) rfl rfl rfl rfl rfl Tryz.func64 (by decide) rfl (fun w1 hw => raddX_any A c es x20 hx20.ok w1 (pm_rd hw (k := 1) rfl) (by omega) hoc (fun z hz => (hEn.1 z hz).ok)) ?_
   rintro ⟨⟨⟨Ar, cr⟩, rs, er⟩, hrs, hrl, hrc, hrd⟩
   dsimp only [List.cons_append, List.nil_append] at hrs hrl hrc hrd ⊢
   refine zE ?_
   refine TX.he (fun w1 hw => hw.pick [3] (by decide) rfl) fun hS => ?_
   refine TH.t 4 rfl (gives_move rfl rfl) hS ?_
   refine TH.t 5 rfl (gives_extract rfl rfl rfl) hS ?_
   refine TH.t 6 rfl (gives_extract rfl rfl rfl) hS ?_
   refine TH.only' 8 rfl (by kernel_rfl) rfl ?_
   refine TL.pstore (k := 1) (vs := [.slice Ar rs.length cr]) rfl rfl rfl rfl rfl rfl rfl bresz26 dntone_s (by show 1 ≤ 1; decide) rfl ?_
   refine zE ?_
   refine TX.he (fun w1 hw => hw.pick [3] (by decide) rfl) fun hS => ?_
   refine TH.t 9 rfl (gives_assign rfl rfl) hS ?_
   refine TH.done (by kernel_rfl) ?_
   exact TX.joined (⟨(g7, (Ar, cr), rs, er), fun h0 => ⟨⟨fun e he => ((hrs h0).1 e he).elim (hEn.1 e) (fun h1 => by rw [h1]; exact hx20), (hrs h0).2⟩, hrl⟩, hrc, hrd⟩) (⟨rfl, rfl, rfl, rfl, rfl, rfl, trivial⟩) (fun w1 hw => hw)
  rintro ⟨⟨g7, ⟨Ar, cr⟩, rs, er⟩, hrs, hrc, hrd⟩
  dsimp only at hrs hrc hrd ⊢
  refine zSG (TL.mv ?_)
  refine TL.sp bin_eql (fun q25 => ?_) (fun q25 => ?_)
  ·refine zET (zc (zG (TL.v (gV 1 (.agg #[.slice Ar rs.length cr]) breag26 bresz26) ?_)))
   refine TL.pstore (k := 3) (vs := [.slice Ar rs.length cr]) rfl rfl rfl rfl rfl rfl rfl bresz26 dntone_s (by show 1 ≤ 1; decide) rfl ?_
   refine zE (zN (zT (zG (TL.mv ?_))))
   refine TL.val rfl rfl rfl (gives_bin rfl rfl rfl (fun w => bin_sub_ (r := ((k - 1 : Nat) : Int)) (by simp only [IntKind.wrap_i64]; omega) w)) ?_
   refine TL.as_ ?_
   refine zE ?_
   exact TX.round (⟨(k - 1, (Ar, cr), rs), by dsimp only; have := (hrs q25).2; omega, (hrs q25).1, hrc, hrd⟩) (by show k - 1 < k; omega) ⟨rfl, rfl, rfl, rfl, trivial⟩ (fun w1 hw => hw.sel (.cons_cons _ (.cons _ (.cons _ (.cons_cons _ (.cons_cons _ (.cons_cons _ (List.Sublist.refl _))))))))
  refine zET (zd (zk (zN (zT (zG (TL.mv ?_))))))
  refine TL.val rfl rfl rfl (gives_bin rfl rfl rfl (fun w => bin_sub_ (r := ((k - 1 : Nat) : Int)) (by simp only [IntKind.wrap_i64]; omega) w)) ?_
  refine TL.as_ ?_
  refine zE ?_
  exact TX.round (⟨(k - 1, (A, c), es), by dsimp only; omega, hEn, hoc, hom⟩) (by show k - 1 < k; omega) ⟨rfl, rfl, rfl, rfl, trivial⟩ (fun w1 hw => hw.sel (.cons _ (.cons _ (.cons_cons _ (.cons_cons _ (.cons_cons _ (.cons_cons _ (List.Sublist.refl _))))))))
 refine zET (zd (zx (zX (zX (zM (zT (zSG (TL.v (gV 1 (.agg #[.slice A es.length c]) breag26 bresz26) ?_))))))))
 refine TL.pstore (k := 2) (vs := [.slice A es.length c]) rfl rfl rfl rfl rfl rfl rfl bresz26 dntone_s (by show 1 ≤ 1; decide) rfl ?_
 refine zET (zr ?_)
 exact pm_ret_cell (k := 2) Tryz.results19 rfl rfl Tryz.underlying26 rfl rfl (fun w1 hw => ⟨⟨((A, c), es), hEn, by dsimp only; omega, hoc, hom⟩, rfl, Pm.codr [_] (hw.sel (.cons_cons _ (.cons _ (.cons _ (.cons_cons _ (List.Sublist.refl _)))))) rfl⟩)
set_option maxRecDepth 20000
structure Rg where
 e : Sg En
def Rg.cells (r : Rg) : List Value := [.slice r.e.A r.e.l.length r.e.c]
theorem rg_cel : Cel Rg.cells 1 := ⟨fun _ => rfl, fun r u hu => by
 simp only [Rg.cells, List.mem_cons, List.not_mem_nil, or_false] at hu
 subst hu; rfl⟩
theorem three {α : Type} {P : α → Prop} {a b c y : α} {i : Nat} (h : [a, b, c][i]? = some y) (ha : P a) (hb : P b) (hc : P c) : P y := by
 match i, h with
 | 0, h => cases h; exact ha
 | 1, h => cases h; exact hb
 | 2, h => cases h; exact hc
 | n + 3, h => cases h
theorem two {α : Type} {P : α → Prop} {a b y : α} {i : Nat} (h : [a, b][i]? = some y) (ha : P a) (hb : P b) : P y := by
 match i, h with
 | 0, h => cases h; exact ha
 | 1, h => cases h; exact hb
 | n + 2, h => cases h
theorem calls_p {f : FuncId} {vs : Array Value} {w : World} {P : Prop} (h : Calls Tryz.prog f vs w fun e w' => ∃ x : {b : Bool // b = true ↔ P}, e = .returned (.bool x.1) ∧ Below w.heap.size w w') : Calls Tryz.prog f vs w fun e w' => e = .returned (.bool (pdec P)) ∧ Below w.heap.size w w' :=
 h.mono fun e w' ⟨x, h1, h2⟩ => ⟨by rw [h1, pdec_of x.2], h2⟩
theorem calls_i {f : FuncId} {vs : Array Value} {w : World} {a b : Int} (h : Calls Tryz.prog f vs w fun e w' => e = .returned (.int .i64 a) ∧ Below w.heap.size w w') (hb : a = b) : Calls Tryz.prog f vs w fun e w' => e = .returned (.int .i64 b) ∧ Below w.heap.size w w' := hb ▸ h
theorem alpbs45_3_22048 (a0_0 : Option Addr) (a0_0n a0_0c : Nat) (a1_0 : Option Addr) (a1_0n a1_0c : Nat) (a2_0 : Option Addr) (a2_0n a2_0c : Nat) (w : World) : (Instr.buildSlice 45 3 #[(0, .slice a0_0 a0_0n a0_0c), (1, .slice a1_0 a1_0n a1_0c), (2, .slice a2_0 a2_0n a2_0c)]).run Tryz.prog w = .ok (.slice (some ⟨w.heap.size, 0, none⟩) 3 3) (w.alloc (.cells [.slice a0_0 a0_0n a0_0c, .slice a1_0 a1_0n a1_0c, .slice a2_0 a2_0n a2_0c].toArray 23)) := by kernel_rfl
theorem alpbs46_3_90897 (a0_0 : Int) (a0_1 : Int) (a0_2 : Int) (a1_0 : Int) (a1_1 : Int) (a1_2 : Int) (a2_0 : Int) (a2_1 : Int) (a2_2 : Int) (w : World) : (Instr.buildSlice 46 3 #[(0, .agg #[.int .i64 a0_0, .int .i64 a0_1, .int .i64 a0_2]), (1, .agg #[.int .i64 a1_0, .int .i64 a1_1, .int .i64 a1_2]), (2, .agg #[.int .i64 a2_0, .int .i64 a2_1, .int .i64 a2_2])]).run Tryz.prog w = .ok (.slice (some ⟨w.heap.size, 0, none⟩) 3 3) (w.alloc (.cells [.int .i64 a0_0, .int .i64 a0_1, .int .i64 a0_2, .int .i64 a1_0, .int .i64 a1_1, .int .i64 a1_2, .int .i64 a2_0, .int .i64 a2_1, .int .i64 a2_2].toArray 28)) := by kernel_rfl
theorem alpbs49_3_63972 (a0_0 : Int) (a0_1 : Int) (a0_2 : Int) (a0_3 : Int) (a0_4 : Int) (a0_5 : Int) (a0_6 : Int) (a0_7 : Int) (a1_0 : Int) (a1_1 : Int) (a1_2 : Int) (a1_3 : Int) (a1_4 : Int) (a1_5 : Int) (a1_6 : Int) (a1_7 : Int) (a2_0 : Int) (a2_1 : Int) (a2_2 : Int) (a2_3 : Int) (a2_4 : Int) (a2_5 : Int) (a2_6 : Int) (a2_7 : Int) (w : World) : (Instr.buildSlice 49 3 #[(0, .agg #[.int .i64 a0_0, .int .i64 a0_1, .int .u32 a0_2, .int .i64 a0_3, .int .i64 a0_4, .int .i64 a0_5, .int .i64 a0_6, .int .i64 a0_7]), (1, .agg #[.int .i64 a1_0, .int .i64 a1_1, .int .u32 a1_2, .int .i64 a1_3, .int .i64 a1_4, .int .i64 a1_5, .int .i64 a1_6, .int .i64 a1_7]), (2, .agg #[.int .i64 a2_0, .int .i64 a2_1, .int .u32 a2_2, .int .i64 a2_3, .int .i64 a2_4, .int .i64 a2_5, .int .i64 a2_6, .int .i64 a2_7])]).run Tryz.prog w = .ok (.slice (some ⟨w.heap.size, 0, none⟩) 3 3) (w.alloc (.cells [.int .i64 a0_0, .int .i64 a0_1, .int .u32 a0_2, .int .i64 a0_3, .int .i64 a0_4, .int .i64 a0_5, .int .i64 a0_6, .int .i64 a0_7, .int .i64 a1_0, .int .i64 a1_1, .int .u32 a1_2, .int .i64 a1_3, .int .i64 a1_4, .int .i64 a1_5, .int .i64 a1_6, .int .i64 a1_7, .int .i64 a2_0, .int .i64 a2_1, .int .u32 a2_2, .int .i64 a2_3, .int .i64 a2_4, .int .i64 a2_5, .int .i64 a2_6, .int .i64 a2_7].toArray 34)) := by kernel_rfl
theorem alpbs53_2_32575 (a0_0 : Option Addr) (a0_0n a0_0c : Nat) (a1_0 : Option Addr) (a1_0n a1_0c : Nat) (w : World) : (Instr.buildSlice 53 2 #[(0, .agg #[.slice a0_0 a0_0n a0_0c]), (1, .agg #[.slice a1_0 a1_0n a1_0c])]).run Tryz.prog w = .ok (.slice (some ⟨w.heap.size, 0, none⟩) 2 2) (w.alloc (.cells [.slice a0_0 a0_0n a0_0c, .slice a1_0 a1_0n a1_0c].toArray 26)) := by kernel_rfl
theorem anomalyProves_walk (A0 : Option Addr) (n0 c0 : Nat) (l0 : List Int) (A1 : Option Addr) (c1 : Nat) (raw : List Rs) (A2 : Option Addr) (c2 : Nat) (es : List En) (u : Ru) (p q : Rp) (w : World) (hb0 : Byt w w.heap.size A0 n0 l0) (hc0 : n0 ≤ c0) (hm0 : c0 ≤ maxLen) (hc1 : raw.length ≤ c1) (hm1 : c1 ≤ maxLen) (hr1 : Reads w w.heap.size 17 A1 raw.length (flat Rs.cells raw)) (ho1 : ∀ r ∈ raw, r.Ok) (hc2 : es.length ≤ c2) (hm2 : c2 ≤ maxLen) (hr2 : Reads w w.heap.size 5 A2 es.length (flat En.cells es)) (ho2 : ∀ z ∈ es, z.Ok) (hpo : p.Ok) (hqo : q.Ok) :
  Calls Tryz.prog 3 #[.slice A0 n0 c0, .slice A1 raw.length c1, .agg #[.slice A2 es.length c2], .agg u.cells.toArray, .agg p.cells.toArray, .agg q.cells.toArray] w fun e w' => e = .returned (.bool true) ∧ Below w.heap.size w w' := by
 have hn0 : (n0 : Int) ≤ 9223372036854775807 := by unfold maxLen at hm0; omega
 refine begin_ (vs := [.slice A0 n0 c0, .slice A1 raw.length c1, .agg #[.slice A2 es.length c2], .agg u.cells.toArray, .agg p.cells.toArray, .agg q.cells.toArray]) Tryz.func3 rfl rfl rfl ?_ (Pm.start w)
 refine zSG ?_
 refine TL.pnew rfl rfl rfl (exec_box (cs := [.slice A2 es.length c2]) rfl rfl rfl) (fun g8 => ?_)
 refine TL.pnew rfl rfl rfl (exec_box (cs := u.cells) rfl rfl rfl) (fun g9 => ?_)
 refine TL.pnew rfl rfl rfl (exec_box (cs := p.cells) rfl rfl rfl) (fun g10 => ?_)
 refine TL.pnew rfl rfl rfl (exec_box (cs := q.cells) rfl rfl rfl) (fun g11 => ?_)
 refine TL.as_ ?_
 refine zET (zS (zSG ?_))
 refine TL.pcall1 (r := .bool true) rfl rfl rfl rfl rfl Tryz.func15 (by decide) rfl (fun w1 hw => awake_true w1) ?_
 refine TL.rn 3 rfl (TL.ov (gN Tryz.underlying23) ?_)
 refine TL.gu ?_
 refine TL.sp bin_gtr (fun q31 => ?_) (fun q31 => ?_)
 ·refine TL.rn 7 rfl (zET (zc (zSG ?_)))
  refine TL.pcall1 (r := .bool true) rfl rfl rfl rfl rfl Tryz.func15 (by decide) rfl (fun w1 hw => awake_true w1) ?_
  refine TL.as_ ?_
  refine zET (zr (zR ?_))
  exact ret_tmp Tryz.results3 rfl (fun w1 hw => ⟨rfl, hw.bel⟩)
 refine TL.rn 2 rfl (TL.ov (gF brefld26_0) ?_)
 refine TL.ov (gL 3 breag24) ?_
 refine TL.ov (gN Tryz.underlying24) ?_
 refine TL.gu ?_
 refine TL.sp bin_gtr (fun q37 => ?_) (fun q37 => ?_)
 ·refine TL.pk ?_
  refine zET (zc (zSG ?_))
  refine TL.pcall1 (r := .bool true) rfl rfl rfl rfl rfl Tryz.func15 (by decide) rfl (fun w1 hw => awake_true w1) ?_
  refine TL.as_ ?_
  refine zET (zr (zR ?_))
  exact ret_tmp Tryz.results3 rfl (fun w1 hw => ⟨rfl, hw.bel⟩)
 refine TL.pk ?_
 refine zET (zd (zk (zT (zSG (TL.mv ?_)))))
 refine TL.callNew (I := Pm w [.blk g11 34 q.cells, .blk g10 34 p.cells, .blk g9 28 u.cells, .blk g8 26 [.slice A2 es.length c2]]) (p := fun cb w => Cod w cb) rfl rfl rfl rfl rfl Tryz.func16 (by decide) rfl (fun w1 hw => (roll_any A0 n0 c0 l0 w1 ((hb0.below hw.bel).more hw.bel.size) hc0 hn0).mono fun e w2 ⟨h1, h2, h3⟩ => ⟨h1, h2, cod_cells h2, h3⟩) cod_stab (fun wn hwn => ?_)
 have hwb := hwn.bel
 have hb8 : ∀ (j : Nat) (z : Value), ((⟨⟨A2, c2, es⟩⟩ : Rg).cells)[j]? = some z → wn.cell? ⟨g8, 0 + j, none⟩ = some z := fun j z h => by rw [Nat.zero_add]; exact (hwn.cell (k := 3) rfl j).trans h
 have hl8 : g8 < wn.heap.size := (Pc.lt (hwn.at_ (k := 3) rfl) g8 rfl).2
 have hb9 : ∀ (j : Nat) (z : Value), (u.cells)[j]? = some z → wn.cell? ⟨g9, 0 + j, none⟩ = some z := fun j z h => by rw [Nat.zero_add]; exact (hwn.cell (k := 2) rfl j).trans h
 have hl9 : g9 < wn.heap.size := (Pc.lt (hwn.at_ (k := 2) rfl) g9 rfl).2
 have hb10 : ∀ (j : Nat) (z : Value), (p.cells)[j]? = some z → wn.cell? ⟨g10, 0 + j, none⟩ = some z := fun j z h => by rw [Nat.zero_add]; exact (hwn.cell (k := 1) rfl j).trans h
 have hl10 : g10 < wn.heap.size := (Pc.lt (hwn.at_ (k := 1) rfl) g10 rfl).2
 have hb11 : ∀ (j : Nat) (z : Value), (q.cells)[j]? = some z → wn.cell? ⟨g11, 0 + j, none⟩ = some z := fun j z h => by rw [Nat.zero_add]; exact (hwn.cell (k := 0) rfl j).trans h
 have hl11 : g11 < wn.heap.size := (Pc.lt (hwn.at_ (k := 0) rfl) g11 rfl).2
 refine TL.as_ ?_
 refine zET (zSG (TL.rn 2 rfl ?_))
 refine TL.pcallCod (k := 0) (α := Bool) (fun x => .bool x) (fun x => []) rfl rfl rfl rfl rfl Tryz.func18 (by decide) rfl rfl (fun w1 hw hC1 => dbool_cod wn.heap.size w1 hC1 3 (by decide)) ?_
 rintro b0
 dsimp only [List.cons_append, List.nil_append]
 refine TL.val rfl rfl rfl (gives_boolnot (b := b0) rfl rfl) ?_
 refine TL.pcallCod (k := 0) (α := {y : (Option Addr × Nat) × List Rs // DrawnOk 20 y.2 ∧ y.2.length ≤ y.1.2 ∧ y.1.2 ≤ maxLen}) (fun x => .slice x.1.1.1 x.1.2.length x.1.1.2) (fun x => [.row (.slice x.1.1.1 x.1.2.length x.1.1.2) 65 17 x.1.2.length (flat Rs.cells x.1.2)]) rfl rfl rfl rfl rfl Tryz.func17 (by decide) rfl rfl (fun w1 hw hC1 => results_cod wn.heap.size w1 hC1 20 (!b0) (by decide)) ?_
 rintro ⟨⟨⟨Axs, cxs⟩, xs⟩, hxs, hxsc, hxsm⟩
 dsimp only [List.cons_append, List.nil_append]
 dsimp only at hxs hxsc hxsm ⊢
 have hxslen := hxs.2.2
 have hxsok : ∀ r ∈ xs, r.Ok := fun r hr => (hxs.1 r hr).2.1
 have hxsv : ∀ r ∈ xs, vldRs r = true := fun r hr => (hxs.1 r hr).1
 refine TL.mv ?_
 refine TL.pcallCod (k := 1) (α := {y : (Option Addr × Nat) × List En // ((∀ e ∈ y.2, EnG e) ∧ validR y.2 = true) ∧ y.2.length ≤ 8 ∧ y.2.length ≤ y.1.2 ∧ y.1.2 ≤ maxLen}) (fun x => .agg #[.slice x.1.1.1 x.1.2.length x.1.1.2]) (fun x => [.row (.slice x.1.1.1 x.1.2.length x.1.1.2) 102 5 x.1.2.length (flat En.cells x.1.2)]) rfl rfl rfl rfl rfl Tryz.func19 (by decide) rfl rfl (fun w1 hw hC1 => registryX_cod wn.heap.size w1 hC1 8 (by decide)) ?_
 rintro ⟨⟨⟨Areg, creg⟩, reg⟩, hreg, hregl, hregc, hregm⟩
 dsimp only [List.cons_append, List.nil_append]
 dsimp only at hreg hregl hregc hregm ⊢
 have hregok : ∀ z ∈ reg, z.Ok := fun z hz => (hreg.1 z hz).ok
 refine TL.mv ?_
 refine TL.pcallCod (k := 2) (α := {u : Ru // RuG u}) (fun x => .agg (x.1.cells).toArray) (fun x => []) rfl rfl rfl rfl rfl Tryz.func20 (by decide) rfl rfl (fun w1 hw hC1 => drule_cod wn.heap.size w1 hC1) ?_
 rintro ⟨ru, hru⟩
 dsimp only [List.cons_append, List.nil_append]
 refine TL.pnew rfl rfl rfl (exec_alloc (cs := [.slice none 0 0]) rfl brxzv26 rfl) (fun g15 => ?_)
 refine TL.pnew rfl rfl rfl (exec_alloc (cs := [.int .i64 0, .int .i64 0, .int .i64 0]) rfl adrzv28 rfl) (fun g16 => ?_)
 refine TL.as_ ?_
 refine TL.pstore (k := 1) (vs := [.slice Areg reg.length creg]) rfl rfl rfl rfl rfl rfl rfl bresz26 dntone_s (by show 1 ≤ 1; decide) rfl ?_
 refine TL.pstore (k := 0) (vs := ru.cells) rfl rfl rfl rfl rfl rfl rfl aprsz28 (by first | exact idn_cel.one _ | exact ru_cel.one _) (by show 3 ≤ 3; decide) (L' := [.blk g16 28 ru.cells, .blk g15 26 [.slice Areg reg.length creg], .row (.slice Areg reg.length creg) 102 5 reg.length (flat En.cells reg), .row (.slice Axs xs.length cxs) 65 17 xs.length (flat Rs.cells xs), .abs wn.heap.size (fun w => Cod w wn.heap.size)]) rfl ?_
 refine zET (zSG (TL.v (gV 0 (.agg (ru.cells).toArray) aprag28 aprsz28) ?_))
 refine TL.pnew rfl rfl rfl (exec_alloc (cs := [.int .i64 0, .int .i64 0, .int .i64 0]) rfl adrzv28 rfl) (fun g17 => ?_)
 refine TL.pstore (k := 0) (vs := ru.cells) rfl rfl rfl rfl rfl rfl rfl aprsz28 (by first | exact idn_cel.one _ | exact ru_cel.one _) (by show 3 ≤ 3; decide) (L' := [.blk g17 28 ru.cells, .blk g16 28 ru.cells, .blk g15 26 [.slice Areg reg.length creg], .row (.slice Areg reg.length creg) 102 5 reg.length (flat En.cells reg), .row (.slice Axs xs.length cxs) 65 17 xs.length (flat Rs.cells xs), .abs wn.heap.size (fun w => Cod w wn.heap.size)]) rfl ?_
 refine zET ?_
 refine TC.join (α := Ru) (fun y => [(1, .slice A1 raw.length c1), (8, .pointer (some ⟨g8, 0, none⟩)), (9, .pointer (some ⟨g9, 0, none⟩)), (10, .pointer (some ⟨g10, 0, none⟩)), (11, .pointer (some ⟨g11, 0, none⟩)), (12, .bool false), (13, .pointer (some ⟨wn.heap.size, 0, none⟩)), (14, .slice Axs xs.length cxs), (15, .pointer (some ⟨g15, 0, none⟩)), (16, .pointer (some ⟨g16, 0, none⟩)), (17, .pointer (some ⟨g17, 0, none⟩))]) (fun y => Pm wn [.blk g17 28 y.cells, .blk g16 28 ru.cells, .blk g15 26 [.slice Areg reg.length creg], .row (.slice Areg reg.length creg) 102 5 reg.length (flat En.cells reg), .row (.slice Axs xs.length cxs) 65 17 xs.length (flat Rs.cells xs), .abs wn.heap.size (fun w => Cod w wn.heap.size)]) ?_ ?_
 ·refine zSG (TL.mv ?_)
  refine TL.pcallCod (k := 5) (α := {q9 : Nat // q9 ≤ 65535 ∧ (1 ≤ (3 : Int) → (q9 : Int) < 3)}) (fun q9 => .int .i64 ((q9.1 : Nat) : Int)) (fun q9 => []) rfl rfl rfl rfl rfl Tryz.func21 (by decide) rfl rfl (fun w1 hw hC1 => next_cod wn.heap.size w1 3 hC1) ?_
  rintro ⟨sw, hsw1, hsw2⟩
  dsimp only [List.cons_append, List.nil_append]
  refine zET (zB (zSG ?_))
  refine TL.sp bin_eql (fun q55 => ?_) (fun q55 => ?_)
  ·refine TL.as_ ?_
   refine zET (zc (zG (TL.mv ?_)))
   refine TL.prowS (e := 3) (size := 1) (cs := flat (ic .i64) [0, 64, 65]) rfl rfl rfl rfl rfl (fun w => pcmbs106_3_44640 _ _ _ w) (by decide) rfl (fun g57 => ?_)
   refine TL.pcallCod (k := 6) (α := {v : Int // v ∈ ([0, 64, 65] : List Int)}) (fun x => .int .i64 x.1) (fun x => []) rfl rfl rfl rfl rfl Tryz.func22 (by decide) rfl rfl (fun w1 hw hC1 => pick_cod wn.heap.size w1 hC1 g57 3 ([0, 64, 65]) (hw.neq (i := 0) (j := 6) rfl rfl (by decide) g57 rfl <| congrArg some ·.symm) (Pc.lt (hw.at_ (k := 0) rfl) g57 rfl).2 (by show 0 < ([0, 64, 65] : List Int).length; simp) (fun i v hi => flat_row1 hw (q := 0) rfl hi)) ?_
   rintro ⟨pk, hpk⟩
   dsimp only [List.cons_append, List.nil_append]
   refine TL.v (gF arpfld28_0) ?_
   refine TL.pstore (k := 1) (vs := [.int .i64 pk]) rfl rfl rfl rfl rfl rfl rfl pcmsz3 aeaone_i64 (by show 1 ≤ 3; decide) rfl ?_
   refine zE (zN ?_)
   exact TX.joined ((⟨pk, ru.gro, ru.prb⟩ : Ru)) (⟨rfl, rfl, rfl, rfl, rfl, rfl, rfl, rfl, rfl, rfl, rfl, trivial⟩) (fun w1 hw => hw.pick [1, 2, 3, 4, 5, 6] (by decide) rfl)
  refine TL.as_ ?_
  refine zET (zd (zSG ?_))
  refine TL.sp bin_eql (fun q61 => ?_) (fun q61 => ?_)
  ·refine TL.as_ ?_
   refine zET (zc (zG (TL.mv ?_)))
   refine TL.prowS (e := 3) (size := 1) (cs := flat (ic .i64) [0, -1, 64, 65]) rfl rfl rfl rfl rfl (fun w => dodbs106_4_78574 _ _ _ _ w) (by decide) rfl (fun g63 => ?_)
   refine TL.pcallCod (k := 6) (α := {v : Int // v ∈ ([0, -1, 64, 65] : List Int)}) (fun x => .int .i64 x.1) (fun x => []) rfl rfl rfl rfl rfl Tryz.func22 (by decide) rfl rfl (fun w1 hw hC1 => pick_cod wn.heap.size w1 hC1 g63 4 ([0, -1, 64, 65]) (hw.neq (i := 0) (j := 6) rfl rfl (by decide) g63 rfl <| congrArg some ·.symm) (Pc.lt (hw.at_ (k := 0) rfl) g63 rfl).2 (by show 0 < ([0, -1, 64, 65] : List Int).length; simp) (fun i v hi => flat_row1 hw (q := 0) rfl hi)) ?_
   rintro ⟨pk, hpk⟩
   dsimp only [List.cons_append, List.nil_append]
   refine TL.v (gF arpfld28_2) ?_
   refine TL.pstore (k := 1) (vs := [.int .i64 pk]) rfl rfl rfl rfl rfl rfl rfl pcmsz3 aeaone_i64 (by show 3 ≤ 3; decide) rfl ?_
   refine zE (zN ?_)
   exact TX.joined ((⟨ru.los, ru.gro, pk⟩ : Ru)) (⟨rfl, rfl, rfl, rfl, rfl, rfl, rfl, rfl, rfl, rfl, rfl, trivial⟩) (fun w1 hw => hw.pick [1, 2, 3, 4, 5, 6] (by decide) rfl)
  refine TL.as_ ?_
  refine zET (zd (zSG ?_))
  refine TL.sp bin_eql (fun q67 => ?_) (fun q67 => ?_)
  ·refine TL.as_ ?_
   refine zET (zc (zG (TL.mv ?_)))
   refine TL.prowS (e := 3) (size := 1) (cs := flat (ic .i64) [0, 1125899906842624, 1125899906842625]) rfl rfl rfl rfl rfl (fun w => pcmbs106_3_44640 _ _ _ w) (by decide) rfl (fun g69 => ?_)
   refine TL.pcallCod (k := 6) (α := {v : Int // v ∈ ([0, 1125899906842624, 1125899906842625] : List Int)}) (fun x => .int .i64 x.1) (fun x => []) rfl rfl rfl rfl rfl Tryz.func22 (by decide) rfl rfl (fun w1 hw hC1 => pick_cod wn.heap.size w1 hC1 g69 3 ([0, 1125899906842624, 1125899906842625]) (hw.neq (i := 0) (j := 6) rfl rfl (by decide) g69 rfl <| congrArg some ·.symm) (Pc.lt (hw.at_ (k := 0) rfl) g69 rfl).2 (by show 0 < ([0, 1125899906842624, 1125899906842625] : List Int).length; simp) (fun i v hi => flat_row1 hw (q := 0) rfl hi)) ?_
   rintro ⟨pk, hpk⟩
   dsimp only [List.cons_append, List.nil_append]
   refine TL.v (gF arpfld28_1) ?_
   refine TL.pstore (k := 1) (vs := [.int .i64 pk]) rfl rfl rfl rfl rfl rfl rfl pcmsz3 aeaone_i64 (by show 2 ≤ 3; decide) rfl ?_
   refine zE (zN ?_)
   exact TX.joined ((⟨ru.los, pk, ru.prb⟩ : Ru)) (⟨rfl, rfl, rfl, rfl, rfl, rfl, rfl, rfl, rfl, rfl, rfl, trivial⟩) (fun w1 hw => hw.pick [1, 2, 3, 4, 5, 6] (by decide) rfl)
  refine TL.as_ ?_
  refine zET (zd (zk (zN ?_)))
  exact TX.joined ((⟨ru.los, ru.gro, ru.prb⟩ : Ru)) (⟨rfl, rfl, rfl, rfl, rfl, rfl, rfl, rfl, rfl, rfl, rfl, trivial⟩) (fun w1 hw => hw)
 rintro v
 refine zS (zSG (TL.rn 4 rfl ?_))
 refine TL.call (α := {y : (Option Addr × Nat) × List Rs // (∀ r ∈ y.2, r.Ok) ∧ y.2.length ≤ xs.length + 1 ∧ y.2.length ≤ y.1.2 ∧ y.1.2 ≤ maxLen}) (r := fun q9 => .slice q9.1.1.1 q9.1.2.length q9.1.1.2) (I' := fun q9 => Pm wn [.row (.slice q9.1.1.1 q9.1.2.length q9.1.1.2) 65 17 q9.1.2.length (flat Rs.cells q9.1.2), .abs wn.heap.size (fun w => Cod w wn.heap.size), .row (.slice Axs xs.length cxs) 65 17 xs.length (flat Rs.cells xs), .blk g17 28 v.cells, .blk g16 28 ru.cells, .blk g15 26 [.slice Areg reg.length creg], .row (.slice Areg reg.length creg) 102 5 reg.length (flat En.cells reg)]) rfl rfl rfl rfl rfl Tryz.func23 (by decide) rfl (fun w1 hw => odd_fr wn [.blk g17 28 v.cells, .blk g16 28 ru.cells, .blk g15 26 [.slice Areg reg.length creg], .row (.slice Areg reg.length creg) 102 5 reg.length (flat En.cells reg)] wn.heap.size Axs cxs xs w1 (hw.pick [5, 4, 0, 1, 2, 3] (by decide) rfl) (by omega) hxsok) ?_
 rintro ⟨⟨⟨Aod, cod⟩, od⟩, hodok, hodl, hodc, hodm⟩
 dsimp only at hodok hodl hodc hodm ⊢
 refine TL.prowS (e := 23) (size := 1) (cs := flat sgc [(⟨Axs, cxs, xs⟩ : Sg Rs), ⟨A1, c1, raw⟩, ⟨Aod, cod, od⟩]) rfl rfl rfl rfl rfl (fun w => alpbs45_3_22048 _ _ _ _ _ _ _ _ _ w) (by decide) rfl (fun g77 => ?_)
 refine TL.v (gN Tryz.underlying45) ?_
 refine TL.mv ?_
 refine zET (zB (TC.loop_ (α := {i : Nat // i ≤ 3}) (fun y => [(8, .pointer (some ⟨g8, 0, none⟩)), (9, .pointer (some ⟨g9, 0, none⟩)), (10, .pointer (some ⟨g10, 0, none⟩)), (11, .pointer (some ⟨g11, 0, none⟩)), (12, .bool false), (13, .pointer (some ⟨wn.heap.size, 0, none⟩)), (14, .slice Axs xs.length cxs), (15, .pointer (some ⟨g15, 0, none⟩)), (16, .pointer (some ⟨g16, 0, none⟩)), (17, .pointer (some ⟨g17, 0, none⟩)), (77, .slice (some ⟨g77, 0, none⟩) 3 3), (78, .int .i64 3), (79, .int .i64 ((y.1 : Nat) : Int))]) (fun y => Pm wn [.row (.slice (some ⟨g77, 0, none⟩) 3 3) 23 1 3 (flat sgc [(⟨Axs, cxs, xs⟩ : Sg Rs), ⟨A1, c1, raw⟩, ⟨Aod, cod, od⟩]), .row (.slice Aod od.length cod) 65 17 od.length (flat Rs.cells od), .abs wn.heap.size (fun w => Cod w wn.heap.size), .row (.slice Axs xs.length cxs) 65 17 xs.length (flat Rs.cells xs), .blk g17 28 v.cells, .blk g16 28 ru.cells, .blk g15 26 [.slice Areg reg.length creg], .row (.slice Areg reg.length creg) 102 5 reg.length (flat En.cells reg)]) (fun y => 3 - y.1) (⟨0, Nat.zero_le _⟩) ⟨rfl, rfl, rfl, rfl, rfl, rfl, rfl, rfl, rfl, rfl, rfl, rfl, rfl, trivial⟩ (fun w1 hw => hw) ?_))
 rintro ⟨i, hi⟩
 try dsimp only at hi ⊢
 refine zSG ?_
 refine TL.sp bin_lss (fun q80 => ?_) (fun q80 => ?_)
 ·refine zET (zS (zc (zk (zT (zS (zB (zSG ?_)))))))
  have hi81 : i < ([(⟨Axs, cxs, xs⟩ : Sg Rs), ⟨A1, c1, raw⟩, ⟨Aod, cod, od⟩]).length := by show i < 3; omega
  obtain ⟨x81, hx81⟩ := ex_at hi81
  have x81f : (∀ w1, Pm wn [.row (.slice (some ⟨g77, 0, none⟩) 3 3) 23 1 3 (flat sgc [(⟨Axs, cxs, xs⟩ : Sg Rs), ⟨A1, c1, raw⟩, ⟨Aod, cod, od⟩]), .row (.slice Aod od.length cod) 65 17 od.length (flat Rs.cells od), .abs wn.heap.size (fun w => Cod w wn.heap.size), .row (.slice Axs xs.length cxs) 65 17 xs.length (flat Rs.cells xs), .blk g17 28 v.cells, .blk g16 28 ru.cells, .blk g15 26 [.slice Areg reg.length creg], .row (.slice Areg reg.length creg) 102 5 reg.length (flat En.cells reg)] w1 → Reads w1 w1.heap.size 17 x81.A x81.l.length (flat Rs.cells x81.l)) ∧ (∀ r ∈ x81.l, r.Ok) ∧ x81.l.length ≤ 40 := three (P := fun z : Sg Rs => (∀ w1, Pm wn [.row (.slice (some ⟨g77, 0, none⟩) 3 3) 23 1 3 (flat sgc [(⟨Axs, cxs, xs⟩ : Sg Rs), ⟨A1, c1, raw⟩, ⟨Aod, cod, od⟩]), .row (.slice Aod od.length cod) 65 17 od.length (flat Rs.cells od), .abs wn.heap.size (fun w => Cod w wn.heap.size), .row (.slice Axs xs.length cxs) 65 17 xs.length (flat Rs.cells xs), .blk g17 28 v.cells, .blk g16 28 ru.cells, .blk g15 26 [.slice Areg reg.length creg], .row (.slice Areg reg.length creg) 102 5 reg.length (flat En.cells reg)] w1 → Reads w1 w1.heap.size 17 z.A z.l.length (flat Rs.cells z.l)) ∧ (∀ r ∈ z.l, r.Ok) ∧ z.l.length ≤ 40) hx81 ⟨fun w1 hw => pm_rd hw (k := 3) rfl, hxsok, by dsimp only; omega⟩ ⟨fun w1 hw => (hr1.up (hwb.trans (hw.bel.mono hwb.size))), ho1, by dsimp only; omega⟩ ⟨fun w1 hw => pm_rd hw (k := 1) rfl, hodok, by dsimp only; omega⟩
  have x81l := x81f.2.2
  refine TL.val rfl rfl rfl (gA (i := i) Tryz.underlying45 asesz23 rfl rfl rfl rfl rfl (by omega)) ?_
  refine TL.val rfl rfl rfl (gives_load (v := .slice x81.A x81.l.length x81.c) rfl rfl aeaag23 (fun w1 hw => flat_row sgc_cel hw (q := 0) rfl hx81 0 _ rfl)) ?_
  refine TL.as_ ?_
  refine zET (zSG (TL.v (gV 5 (.agg (ru.cells).toArray) aprag28 aprsz28) ?_))
  refine TL.val rfl rfl rfl (gives_loadR (off := 0) rfl rfl aprag28 aprsz28 (ru_cel.len u) (fun w1 hw j9 u9 h9 => (hw.bel.cell hl9).trans (hb9 j9 u9 h9))) ?_
  refine TL.v (gV 4 (.agg (v.cells).toArray) aprag28 aprsz28) ?_
  refine TL.prowS (e := 28) (size := 3) (cs := flat Ru.cells [ru, u, v]) rfl rfl rfl rfl rfl (fun w => alpbs46_3_90897 _ _ _ _ _ _ _ _ _ w) (by decide) rfl (fun g86 => ?_)
  refine TL.v (gN Tryz.underlying46) ?_
  refine TL.mv ?_
  refine zET (zB (TC.loop_ (α := {j : Nat // j ≤ 3}) (fun y => [(8, .pointer (some ⟨g8, 0, none⟩)), (9, .pointer (some ⟨g9, 0, none⟩)), (10, .pointer (some ⟨g10, 0, none⟩)), (11, .pointer (some ⟨g11, 0, none⟩)), (12, .bool false), (13, .pointer (some ⟨wn.heap.size, 0, none⟩)), (14, .slice Axs xs.length cxs), (15, .pointer (some ⟨g15, 0, none⟩)), (16, .pointer (some ⟨g16, 0, none⟩)), (17, .pointer (some ⟨g17, 0, none⟩)), (77, .slice (some ⟨g77, 0, none⟩) 3 3), (78, .int .i64 3), (79, .int .i64 ((i : Nat) : Int)), (19, .slice x81.A x81.l.length x81.c), (86, .slice (some ⟨g86, 0, none⟩) 3 3), (87, .int .i64 3), (88, .int .i64 ((y.1 : Nat) : Int))]) (fun y => Pm wn [.row (.slice (some ⟨g86, 0, none⟩) 3 3) 28 3 3 (flat Ru.cells [ru, u, v]), .row (.slice (some ⟨g77, 0, none⟩) 3 3) 23 1 3 (flat sgc [(⟨Axs, cxs, xs⟩ : Sg Rs), ⟨A1, c1, raw⟩, ⟨Aod, cod, od⟩]), .row (.slice Aod od.length cod) 65 17 od.length (flat Rs.cells od), .abs wn.heap.size (fun w => Cod w wn.heap.size), .row (.slice Axs xs.length cxs) 65 17 xs.length (flat Rs.cells xs), .blk g17 28 v.cells, .blk g16 28 ru.cells, .blk g15 26 [.slice Areg reg.length creg], .row (.slice Areg reg.length creg) 102 5 reg.length (flat En.cells reg)]) (fun y => 3 - y.1) (⟨0, Nat.zero_le _⟩) ⟨rfl, rfl, rfl, rfl, rfl, rfl, rfl, rfl, rfl, rfl, rfl, rfl, rfl, rfl, rfl, rfl, rfl, trivial⟩ (fun w1 hw => hw) ?_))
  rintro ⟨j, hj⟩
  try dsimp only at hj ⊢
  refine zSG ?_
  refine TL.sp bin_lss (fun q89 => ?_) (fun q89 => ?_)
  ·refine zET (zS (zc (zk (zT (zS (zB (zSG ?_)))))))
   have hi90 : j < ([ru, u, v]).length := by show j < 3; omega
   obtain ⟨x90, hx90⟩ := ex_at hi90
   refine TL.val rfl rfl rfl (gA (i := j) Tryz.underlying46 aprsz28 rfl rfl rfl rfl rfl (by omega)) ?_
   refine TL.val rfl rfl rfl (gives_loadR (off := 0 + j * 3) rfl rfl aprag28 aprsz28 (ru_cel.len x90) (fun w1 hw j9 u9 h9 => flat_row ru_cel hw (q := 0) rfl hx90 j9 u9 h9)) ?_
   refine TL.pnew rfl rfl rfl (exec_alloc (cs := [.int .i64 0, .int .i64 0, .int .i64 0]) rfl adrzv28 rfl) (fun g21 => ?_)
   refine TL.pstore (k := 0) (vs := x90.cells) rfl rfl rfl rfl rfl rfl rfl aprsz28 (by first | exact idn_cel.one _ | exact ru_cel.one _) (by show 3 ≤ 3; decide) (L' := [.blk g21 28 x90.cells, .row (.slice (some ⟨g86, 0, none⟩) 3 3) 28 3 3 (flat Ru.cells [ru, u, v]), .row (.slice (some ⟨g77, 0, none⟩) 3 3) 23 1 3 (flat sgc [(⟨Axs, cxs, xs⟩ : Sg Rs), ⟨A1, c1, raw⟩, ⟨Aod, cod, od⟩]), .row (.slice Aod od.length cod) 65 17 od.length (flat Rs.cells od), .abs wn.heap.size (fun w => Cod w wn.heap.size), .row (.slice Axs xs.length cxs) 65 17 xs.length (flat Rs.cells xs), .blk g17 28 v.cells, .blk g16 28 ru.cells, .blk g15 26 [.slice Areg reg.length creg], .row (.slice Areg reg.length creg) 102 5 reg.length (flat En.cells reg)]) rfl ?_
   refine zET (zS (zS (TC.quietQ (by kernel_rfl) (by kernel_rfl) (fun w hw => hw.drawn _) ?_)))
   refine TQ.v (gV 0 (.agg (x90.cells).toArray) aprag28 aprsz28) ?_
   refine TQ.call (v := .bool (vldRu x90)) rfl rfl rfl rfl rfl Tryz.func24 (by decide) rfl (fun w1 hw => (vldRu_any x90 w1).mono fun en w2 ⟨h1, h2⟩ => ⟨h1, hw.below h2⟩) ?_
   refine TQ.v (gV 0 (.agg (x90.cells).toArray) aprag28 aprsz28) ?_
   refine TQ.call (v := .bool (vldRu x90)) rfl rfl rfl rfl rfl Tryz.func25 (by decide) rfl (fun w1 hw => (rvldRu_any x90 w1).mono fun en w2 ⟨h1, h2⟩ => ⟨h1, hw.below h2⟩) ?_
   refine TQ.val rfl rfl rfl (gives_bin2 (v := .bool false) rfl rfl rfl (fun w => (bin_neb Tryz.underlying4 _ _ w).trans (by simp))) ?_
   refine TQ.fin ?_
   refine zT (zd (zk (zT (zS (TC.held (ls := #[Ff,Ff,Ff,Ff,Ff,Ff,Ff,Ff,Ff,Ff]) (Pm wn [.row (.slice (some ⟨g77, 0, none⟩) 3 3) 23 1 3 (flat sgc [(⟨Axs, cxs, xs⟩ : Sg Rs), ⟨A1, c1, raw⟩, ⟨Aod, cod, od⟩]), .row (.slice Aod od.length cod) 65 17 od.length (flat Rs.cells od), .abs wn.heap.size (fun w => Cod w wn.heap.size), .row (.slice Axs xs.length cxs) 65 17 xs.length (flat Rs.cells xs), .blk g17 28 v.cells, .blk g16 28 ru.cells, .blk g15 26 [.slice Areg reg.length creg], .row (.slice Areg reg.length creg) 102 5 reg.length (flat En.cells reg)]) (by kernel_rfl) rfl rfl (fun w hw => hw.drawn _) ?_)))))
   refine TH.tk 0 rfl rfl rfl (gives_loadR (off := 0) rfl rfl abrag34 abrsz34 (rp_cel.len p) (fun w1 hw j9 u9 h9 => (hw.bel.cell hl10).trans (hb10 j9 u9 h9))) (fun w1 hw => hw.pick [2, 3, 4, 5, 6, 7, 8, 9] (by decide) rfl) ?_
   refine TH.tk 1 rfl rfl rfl (gives_move rfl rfl) (fun w1 hw => hw.pick [2, 3, 4, 5, 6, 7, 8, 9] (by decide) rfl) ?_
   refine TH.tk 2 rfl rfl rfl (gives_move rfl rfl) (fun w1 hw => hw.pick [2, 3, 4, 5, 6, 7, 8, 9] (by decide) rfl) ?_
   refine TH.tk 4 rfl rfl rfl (gives_move rfl rfl) (fun w1 hw => hw.pick [2, 3, 4, 5, 6, 7, 8, 9] (by decide) rfl) ?_
   refine TH.tk 5 rfl rfl rfl (gives_move rfl rfl) (fun w1 hw => hw.pick [2, 3, 4, 5, 6, 7, 8, 9] (by decide) rfl) ?_
   refine TH.tk 9 rfl rfl rfl (gives_move rfl rfl) (fun w1 hw => hw.pick [2, 3, 4, 5, 6, 7, 8, 9] (by decide) rfl) ?_
   refine TH.only' 3 rfl (by kernel_rfl) rfl ?_
   refine TL.call (α := {y : Rp // y.Ok}) (r := fun q9 => .agg (q9.1.cells).toArray) (I' := fun q9 => Pm wn [.abs wn.heap.size (fun w => Cod w wn.heap.size), .blk g21 28 x90.cells, .row (.slice (some ⟨g86, 0, none⟩) 3 3) 28 3 3 (flat Ru.cells [ru, u, v]), .row (.slice (some ⟨g77, 0, none⟩) 3 3) 23 1 3 (flat sgc [(⟨Axs, cxs, xs⟩ : Sg Rs), ⟨A1, c1, raw⟩, ⟨Aod, cod, od⟩]), .row (.slice Aod od.length cod) 65 17 od.length (flat Rs.cells od), .row (.slice Axs xs.length cxs) 65 17 xs.length (flat Rs.cells xs), .blk g17 28 v.cells, .blk g16 28 ru.cells, .blk g15 26 [.slice Areg reg.length creg], .row (.slice Areg reg.length creg) 102 5 reg.length (flat En.cells reg)]) rfl rfl rfl rfl rfl Tryz.func26 (by decide) rfl (fun w1 hw => rep_fr wn [.blk g21 28 x90.cells, .row (.slice (some ⟨g86, 0, none⟩) 3 3) 28 3 3 (flat Ru.cells [ru, u, v]), .row (.slice (some ⟨g77, 0, none⟩) 3 3) 23 1 3 (flat sgc [(⟨Axs, cxs, xs⟩ : Sg Rs), ⟨A1, c1, raw⟩, ⟨Aod, cod, od⟩]), .row (.slice Aod od.length cod) 65 17 od.length (flat Rs.cells od), .row (.slice Axs xs.length cxs) 65 17 xs.length (flat Rs.cells xs), .blk g17 28 v.cells, .blk g16 28 ru.cells, .blk g15 26 [.slice Areg reg.length creg], .row (.slice Areg reg.length creg) 102 5 reg.length (flat En.cells reg)] wn.heap.size x81.A x81.c x81.l (fun w1 hw => (x81f.1 w1 (hw.pick [3, 4, 0, 5, 6, 7, 8, 9] (by decide) rfl))) (by omega) x81f.2.1 w1 (hw.pick [4, 0, 1, 2, 3, 5, 6, 7, 8, 9] (by decide) rfl)) ?_
   rintro ⟨rq1, hrq1⟩
   refine zE ?_
   refine TX.held (fun w1 hw => hw.pick [3, 4, 0, 5, 6, 7, 8, 9] (by decide) rfl) ?_
   refine TH.only' 6 rfl (by kernel_rfl) rfl ?_
   refine TL.call (α := {y : Rp // y.Ok}) (r := fun q9 => .agg (q9.1.cells).toArray) (I' := fun q9 => Pm wn [.abs wn.heap.size (fun w => Cod w wn.heap.size), .blk g21 28 x90.cells, .row (.slice (some ⟨g86, 0, none⟩) 3 3) 28 3 3 (flat Ru.cells [ru, u, v]), .row (.slice (some ⟨g77, 0, none⟩) 3 3) 23 1 3 (flat sgc [(⟨Axs, cxs, xs⟩ : Sg Rs), ⟨A1, c1, raw⟩, ⟨Aod, cod, od⟩]), .row (.slice Aod od.length cod) 65 17 od.length (flat Rs.cells od), .row (.slice Axs xs.length cxs) 65 17 xs.length (flat Rs.cells xs), .blk g17 28 v.cells, .blk g16 28 ru.cells, .blk g15 26 [.slice Areg reg.length creg], .row (.slice Areg reg.length creg) 102 5 reg.length (flat En.cells reg)]) rfl rfl rfl rfl rfl Tryz.func26 (by decide) rfl (fun w1 hw => rep_fr wn [.blk g21 28 x90.cells, .row (.slice (some ⟨g86, 0, none⟩) 3 3) 28 3 3 (flat Ru.cells [ru, u, v]), .row (.slice (some ⟨g77, 0, none⟩) 3 3) 23 1 3 (flat sgc [(⟨Axs, cxs, xs⟩ : Sg Rs), ⟨A1, c1, raw⟩, ⟨Aod, cod, od⟩]), .row (.slice Aod od.length cod) 65 17 od.length (flat Rs.cells od), .row (.slice Axs xs.length cxs) 65 17 xs.length (flat Rs.cells xs), .blk g17 28 v.cells, .blk g16 28 ru.cells, .blk g15 26 [.slice Areg reg.length creg], .row (.slice Areg reg.length creg) 102 5 reg.length (flat En.cells reg)] wn.heap.size Axs cxs xs (fun w1 hw => (pm_rd hw (k := 5) rfl)) (by omega) hxsok w1 (hw)) ?_
   rintro ⟨rq2, hrq2⟩
   refine zE ?_
   refine TX.held (fun w1 hw => hw.pick [3, 4, 0, 5, 6, 7, 8, 9] (by decide) rfl) ?_
   refine TH.only' 7 rfl (by kernel_rfl) rfl ?_
   refine TL.prowS (e := 34) (size := 8) (cs := flat Rp.cells [p, rq1, rq2]) rfl rfl rfl rfl rfl (fun w => alpbs49_3_63972 _ _ _ _ _ _ _ _ _ _ _ _ _ _ _ _ _ _ _ _ _ _ _ _ w) (by decide) rfl (fun g104 => ?_)
   refine zE ?_
   refine TX.he (fun w1 hw => hw.pick [4, 5, 1, 6, 7, 8, 9, 10] (by decide) rfl) fun hS => ?_
   refine TH.t 8 rfl (gN Tryz.underlying49) hS ?_
   refine TH.done (by kernel_rfl) ?_
   refine zT (zB (TC.loop_ (α := {k : Nat // k ≤ 3}) (fun y => [(8, .pointer (some ⟨g8, 0, none⟩)), (9, .pointer (some ⟨g9, 0, none⟩)), (10, .pointer (some ⟨g10, 0, none⟩)), (11, .pointer (some ⟨g11, 0, none⟩)), (12, .bool false), (13, .pointer (some ⟨wn.heap.size, 0, none⟩)), (14, .slice Axs xs.length cxs), (15, .pointer (some ⟨g15, 0, none⟩)), (16, .pointer (some ⟨g16, 0, none⟩)), (17, .pointer (some ⟨g17, 0, none⟩)), (77, .slice (some ⟨g77, 0, none⟩) 3 3), (78, .int .i64 3), (79, .int .i64 ((i : Nat) : Int)), (19, .slice x81.A x81.l.length x81.c), (86, .slice (some ⟨g86, 0, none⟩) 3 3), (87, .int .i64 3), (88, .int .i64 ((j : Nat) : Int)), (21, .pointer (some ⟨g21, 0, none⟩)), (104, .slice (some ⟨g104, 0, none⟩) 3 3), (105, .int .i64 3), (106, .int .i64 ((y.1 : Nat) : Int))]) (fun y => Pm wn [.row (.slice (some ⟨g104, 0, none⟩) 3 3) 34 8 3 (flat Rp.cells [p, rq1, rq2]), .abs wn.heap.size (fun w => Cod w wn.heap.size), .blk g21 28 x90.cells, .row (.slice (some ⟨g86, 0, none⟩) 3 3) 28 3 3 (flat Ru.cells [ru, u, v]), .row (.slice (some ⟨g77, 0, none⟩) 3 3) 23 1 3 (flat sgc [(⟨Axs, cxs, xs⟩ : Sg Rs), ⟨A1, c1, raw⟩, ⟨Aod, cod, od⟩]), .row (.slice Aod od.length cod) 65 17 od.length (flat Rs.cells od), .row (.slice Axs xs.length cxs) 65 17 xs.length (flat Rs.cells xs), .blk g17 28 v.cells, .blk g16 28 ru.cells, .blk g15 26 [.slice Areg reg.length creg], .row (.slice Areg reg.length creg) 102 5 reg.length (flat En.cells reg)]) (fun y => 3 - y.1) (⟨0, Nat.zero_le _⟩) ⟨rfl, rfl, rfl, rfl, rfl, rfl, rfl, rfl, rfl, rfl, rfl, rfl, rfl, rfl, rfl, rfl, rfl, rfl, rfl, rfl, rfl, trivial⟩ (fun w1 hw => hw) ?_))
   rintro ⟨k, hk⟩
   try dsimp only at hk ⊢
   refine zSG ?_
   refine TL.sp bin_lss (fun q107 => ?_) (fun q107 => ?_)
   ·refine zET (zS (zc (zk (zT (zS (zB (zSG ?_)))))))
    have hi108 : k < ([p, rq1, rq2]).length := by show k < 3; omega
    obtain ⟨x108, hx108⟩ := ex_at hi108
    have x108o : x108.Ok := three (P := Rp.Ok) hx108 hpo hrq1 hrq2
    refine TL.val rfl rfl rfl (gA (i := k) Tryz.underlying49 abrsz34 rfl rfl rfl rfl rfl (by omega)) ?_
    refine TL.val rfl rfl rfl (gives_loadR (off := 0 + k * 8) rfl rfl abrag34 abrsz34 (rp_cel.len x108) (fun w1 hw j9 u9 h9 => flat_row rp_cel hw (q := 0) rfl hx108 j9 u9 h9)) ?_
    refine TL.pnew rfl rfl rfl (exec_alloc (cs := [.int .i64 0, .int .i64 0, .int .u32 0, .int .i64 0, .int .i64 0, .int .i64 0, .int .i64 0, .int .i64 0]) rfl asezv34 rfl) (fun g23 => ?_)
    refine TL.pstore (k := 0) (vs := x108.cells) rfl rfl rfl rfl rfl rfl rfl abrsz34 (rp_cel.one _) (by show 8 ≤ 8; decide) (L' := [.blk g23 34 x108.cells, .row (.slice (some ⟨g104, 0, none⟩) 3 3) 34 8 3 (flat Rp.cells [p, rq1, rq2]), .abs wn.heap.size (fun w => Cod w wn.heap.size), .blk g21 28 x90.cells, .row (.slice (some ⟨g86, 0, none⟩) 3 3) 28 3 3 (flat Ru.cells [ru, u, v]), .row (.slice (some ⟨g77, 0, none⟩) 3 3) 23 1 3 (flat sgc [(⟨Axs, cxs, xs⟩ : Sg Rs), ⟨A1, c1, raw⟩, ⟨Aod, cod, od⟩]), .row (.slice Aod od.length cod) 65 17 od.length (flat Rs.cells od), .row (.slice Axs xs.length cxs) 65 17 xs.length (flat Rs.cells xs), .blk g17 28 v.cells, .blk g16 28 ru.cells, .blk g15 26 [.slice Areg reg.length creg], .row (.slice Areg reg.length creg) 102 5 reg.length (flat En.cells reg)]) rfl ?_
    refine zET (zS (zS (TC.quietQ (by kernel_rfl) (by kernel_rfl) (fun w hw => hw.drawn _) ?_)))
    refine TQ.v (gV 0 (.agg (x108.cells).toArray) abrag34 abrsz34) ?_
    refine TQ.call (v := .bool (vldRp x108)) rfl rfl rfl rfl rfl Tryz.func27 (by decide) rfl (fun w1 hw => (vldRp_any x108 w1).mono fun en w2 ⟨h1, h2⟩ => ⟨h1, hw.below h2⟩) ?_
    refine TQ.v (gV 0 (.agg (x108.cells).toArray) abrag34 abrsz34) ?_
    refine TQ.call (v := .bool (vldRp x108)) rfl rfl rfl rfl rfl Tryz.func28 (by decide) rfl (fun w1 hw => (rvldRp_any x108 w1).mono fun en w2 ⟨h1, h2⟩ => ⟨h1, hw.below h2⟩) ?_
    refine TQ.val rfl rfl rfl (gives_bin2 (v := .bool false) rfl rfl rfl (fun w => (bin_neb Tryz.underlying4 _ _ w).trans (by simp))) ?_
    refine TQ.rn 2 rfl (TQ.ov (gV 3 (.agg (x90.cells).toArray) aprag28 aprsz28) ?_)
    refine TQ.ov (gV 0 (.agg (x108.cells).toArray) abrag34 abrsz34) ?_
    refine TQ.on rfl rfl rfl ?_
    refine TQ.call (v := .bool (pdec (BhP x81.l x90 x108))) rfl rfl rfl rfl rfl Tryz.func29 (by decide) rfl (fun w1 hw => (calls_p (blackhole_any x81.A x81.c x81.l x90 x108 w1 (x81f.1 w1 (hw.pick [5, 6, 2, 7, 8, 9, 10, 11] (by decide) rfl)) (by omega) x81f.2.1)).mono fun en w2 ⟨h1, h2⟩ => ⟨h1, hw.below h2⟩) ?_
    refine TQ.rn 1 rfl (TQ.ov (gV 3 (.agg (x90.cells).toArray) aprag28 aprsz28) ?_)
    refine TQ.ov (gV 0 (.agg (x108.cells).toArray) abrag34 abrsz34) ?_
    refine TQ.on rfl rfl rfl ?_
    refine TQ.call (v := .bool (pdec (BhP x81.l x90 x108))) rfl rfl rfl rfl rfl Tryz.func30 (by decide) rfl (fun w1 hw => (calls_p (rblackhole_any x81.A x81.c x81.l x90 x108 w1 (x81f.1 w1 (hw.pick [5, 6, 2, 7, 8, 9, 10, 11] (by decide) rfl)) (by omega) x81f.2.1)).mono fun en w2 ⟨h1, h2⟩ => ⟨h1, hw.below h2⟩) ?_
    refine TQ.on rfl rfl rfl ?_
    refine TQ.val rfl rfl rfl (gives_bin2 (v := .bool false) rfl rfl rfl (fun w => (bin_neb Tryz.underlying4 _ _ w).trans (by simp))) ?_
    refine TQ.rn 3 rfl (TQ.ov (gV 3 (.agg (x90.cells).toArray) aprag28 aprsz28) ?_)
    refine TQ.ov (gV 0 (.agg (x108.cells).toArray) abrag34 abrsz34) ?_
    refine TQ.on rfl rfl rfl ?_
    refine TQ.call (v := .bool (pdec (CgP x81.l x90 x108))) rfl rfl rfl rfl rfl Tryz.func31 (by decide) rfl (fun w1 hw => (calls_p (congestion_any x81.A x81.c x81.l x90 x108 w1 (x81f.1 w1 (hw.pick [5, 6, 2, 7, 8, 9, 10, 11] (by decide) rfl)) (by omega) x81f.2.1)).mono fun en w2 ⟨h1, h2⟩ => ⟨h1, hw.below h2⟩) ?_
    refine TQ.rn 1 rfl (TQ.ov (gV 3 (.agg (x90.cells).toArray) aprag28 aprsz28) ?_)
    refine TQ.ov (gV 0 (.agg (x108.cells).toArray) abrag34 abrsz34) ?_
    refine TQ.on rfl rfl rfl ?_
    refine TQ.call (v := .bool (pdec (CgP x81.l x90 x108))) rfl rfl rfl rfl rfl Tryz.func32 (by decide) rfl (fun w1 hw => (calls_p (rcongestion_any x81.A x81.c x81.l x90 x108 w1 (x81f.1 w1 (hw.pick [5, 6, 2, 7, 8, 9, 10, 11] (by decide) rfl)) (by omega) x81f.2.1)).mono fun en w2 ⟨h1, h2⟩ => ⟨h1, hw.below h2⟩) ?_
    refine TQ.on rfl rfl rfl ?_
    refine TQ.val rfl rfl rfl (gives_bin2 (v := .bool false) rfl rfl rfl (fun w => (bin_neb Tryz.underlying4 _ _ w).trans (by simp))) ?_
    refine TQ.rn 2 rfl (TQ.ov (gV 0 (.agg (x108.cells).toArray) abrag34 abrsz34) ?_)
    refine TQ.on rfl rfl rfl ?_
    refine TQ.val rfl rfl rfl (gives_loadR (off := 0) rfl rfl abrag34 abrsz34 (rp_cel.len q) (fun w1 hw j9 u9 h9 => (hw.bel.cell hl11).trans (hb11 j9 u9 h9))) ?_
    refine TQ.on rfl rfl rfl ?_
    refine TQ.call (v := .int .i64 (cmpRp x108 q)) rfl rfl rfl rfl rfl Tryz.func33 (by decide) rfl (fun w1 hw => (cmpRp_any x108 q w1).mono fun en w2 ⟨h1, h2⟩ => ⟨h1, hw.below h2⟩) ?_
    refine TQ.ov (gV 0 (.agg (x108.cells).toArray) abrag34 abrsz34) ?_
    refine TQ.on rfl rfl rfl ?_
    refine TQ.val rfl rfl rfl (gives_loadR (off := 0) rfl rfl abrag34 abrsz34 (rp_cel.len q) (fun w1 hw j9 u9 h9 => (hw.bel.cell hl11).trans (hb11 j9 u9 h9))) ?_
    refine TQ.on rfl rfl rfl ?_
    refine TQ.call (v := .int .i64 (cmpRp x108 q)) rfl rfl rfl rfl rfl Tryz.func34 (by decide) rfl (fun w1 hw => (calls_i (rcmpRp_any x108 q w1) (pairsP_cmp x108o hqo)).mono fun en w2 ⟨h1, h2⟩ => ⟨h1, hw.below h2⟩) ?_
    refine TQ.on rfl rfl rfl ?_
    refine TQ.val rfl rfl rfl (gives_bin rfl rfl rfl (fun w => bin_neq_f (rfl) w)) ?_
    refine TQ.val rfl rfl rfl (gives_pick rfl rfl rfl) ?_
    refine TQ.fin ?_
    refine zT (zd (zk (zT (zSG (TL.v (gV 10 (.agg #[.slice Areg reg.length creg]) breag26 bresz26) ?_)))))
    refine TL.val rfl rfl rfl (gives_loadR (off := 0) rfl rfl breag26 bresz26 (rg_cel.len (⟨⟨A2, c2, es⟩⟩ : Rg)) (fun w1 hw j9 u9 h9 => (hw.bel.cell hl8).trans (hb8 j9 u9 h9))) ?_
    refine TL.prowS (e := 26) (size := 1) (cs := flat Rg.cells [(⟨⟨Areg, creg, reg⟩⟩ : Rg), ⟨⟨A2, c2, es⟩⟩]) rfl rfl rfl rfl rfl (fun w => alpbs53_2_32575 _ _ _ _ _ _ w) (by decide) rfl (fun g148 => ?_)
    refine TL.v (gN Tryz.underlying53) ?_
    refine TL.mv ?_
    refine zET (zB (TC.loop_ (α := {m : Nat // m ≤ 2}) (fun y => [(8, .pointer (some ⟨g8, 0, none⟩)), (9, .pointer (some ⟨g9, 0, none⟩)), (10, .pointer (some ⟨g10, 0, none⟩)), (11, .pointer (some ⟨g11, 0, none⟩)), (12, .bool false), (13, .pointer (some ⟨wn.heap.size, 0, none⟩)), (14, .slice Axs xs.length cxs), (15, .pointer (some ⟨g15, 0, none⟩)), (16, .pointer (some ⟨g16, 0, none⟩)), (17, .pointer (some ⟨g17, 0, none⟩)), (77, .slice (some ⟨g77, 0, none⟩) 3 3), (78, .int .i64 3), (79, .int .i64 ((i : Nat) : Int)), (19, .slice x81.A x81.l.length x81.c), (86, .slice (some ⟨g86, 0, none⟩) 3 3), (87, .int .i64 3), (88, .int .i64 ((j : Nat) : Int)), (21, .pointer (some ⟨g21, 0, none⟩)), (104, .slice (some ⟨g104, 0, none⟩) 3 3), (105, .int .i64 3), (106, .int .i64 ((k : Nat) : Int)), (23, .pointer (some ⟨g23, 0, none⟩)), (148, .slice (some ⟨g148, 0, none⟩) 2 2), (149, .int .i64 2), (150, .int .i64 ((y.1 : Nat) : Int))]) (fun y => Pm wn [.row (.slice (some ⟨g148, 0, none⟩) 2 2) 26 1 2 (flat Rg.cells [(⟨⟨Areg, creg, reg⟩⟩ : Rg), ⟨⟨A2, c2, es⟩⟩]), .blk g23 34 x108.cells, .row (.slice (some ⟨g104, 0, none⟩) 3 3) 34 8 3 (flat Rp.cells [p, rq1, rq2]), .abs wn.heap.size (fun w => Cod w wn.heap.size), .blk g21 28 x90.cells, .row (.slice (some ⟨g86, 0, none⟩) 3 3) 28 3 3 (flat Ru.cells [ru, u, v]), .row (.slice (some ⟨g77, 0, none⟩) 3 3) 23 1 3 (flat sgc [(⟨Axs, cxs, xs⟩ : Sg Rs), ⟨A1, c1, raw⟩, ⟨Aod, cod, od⟩]), .row (.slice Aod od.length cod) 65 17 od.length (flat Rs.cells od), .row (.slice Axs xs.length cxs) 65 17 xs.length (flat Rs.cells xs), .blk g17 28 v.cells, .blk g16 28 ru.cells, .blk g15 26 [.slice Areg reg.length creg], .row (.slice Areg reg.length creg) 102 5 reg.length (flat En.cells reg)]) (fun y => 2 - y.1) (⟨0, Nat.zero_le _⟩) ⟨rfl, rfl, rfl, rfl, rfl, rfl, rfl, rfl, rfl, rfl, rfl, rfl, rfl, rfl, rfl, rfl, rfl, rfl, rfl, rfl, rfl, rfl, rfl, rfl, rfl, trivial⟩ (fun w1 hw => hw) ?_))
    rintro ⟨m, hm⟩
    try dsimp only at hm ⊢
    refine zSG ?_
    refine TL.sp bin_lss (fun q151 => ?_) (fun q151 => ?_)
    ·refine zET (zS (zc (zk (zT (zS (zB (zSG ?_)))))))
     have hi152 : m < ([(⟨⟨Areg, creg, reg⟩⟩ : Rg), ⟨⟨A2, c2, es⟩⟩]).length := by show m < 2; omega
     obtain ⟨x152, hx152⟩ := ex_at hi152
     have x152f : (∀ w1, Pm wn [.row (.slice (some ⟨g77, 0, none⟩) 3 3) 23 1 3 (flat sgc [(⟨Axs, cxs, xs⟩ : Sg Rs), ⟨A1, c1, raw⟩, ⟨Aod, cod, od⟩]), .row (.slice Aod od.length cod) 65 17 od.length (flat Rs.cells od), .abs wn.heap.size (fun w => Cod w wn.heap.size), .row (.slice Axs xs.length cxs) 65 17 xs.length (flat Rs.cells xs), .blk g17 28 v.cells, .blk g16 28 ru.cells, .blk g15 26 [.slice Areg reg.length creg], .row (.slice Areg reg.length creg) 102 5 reg.length (flat En.cells reg)] w1 → Reads w1 w1.heap.size 5 x152.e.A x152.e.l.length (flat En.cells x152.e.l)) ∧ (∀ z ∈ x152.e.l, z.Ok) ∧ x152.e.l.length ≤ 100 := two (P := fun g : Rg => (∀ w1, Pm wn [.row (.slice (some ⟨g77, 0, none⟩) 3 3) 23 1 3 (flat sgc [(⟨Axs, cxs, xs⟩ : Sg Rs), ⟨A1, c1, raw⟩, ⟨Aod, cod, od⟩]), .row (.slice Aod od.length cod) 65 17 od.length (flat Rs.cells od), .abs wn.heap.size (fun w => Cod w wn.heap.size), .row (.slice Axs xs.length cxs) 65 17 xs.length (flat Rs.cells xs), .blk g17 28 v.cells, .blk g16 28 ru.cells, .blk g15 26 [.slice Areg reg.length creg], .row (.slice Areg reg.length creg) 102 5 reg.length (flat En.cells reg)] w1 → Reads w1 w1.heap.size 5 g.e.A g.e.l.length (flat En.cells g.e.l)) ∧ (∀ z ∈ g.e.l, z.Ok) ∧ g.e.l.length ≤ 100) hx152 ⟨fun w1 hw => pm_rd hw (k := 7) rfl, hregok, by dsimp only; omega⟩ ⟨fun w1 hw => (hr2.up (hwb.trans (hw.bel.mono hwb.size))), ho2, by dsimp only; omega⟩
     have x152l := x152f.2.2
     refine TL.val rfl rfl rfl (gA (i := m) Tryz.underlying53 bresz26 rfl rfl rfl rfl rfl (by omega)) ?_
     refine TL.val rfl rfl rfl (gives_loadR (off := 0 + m * 1) rfl rfl breag26 bresz26 (rg_cel.len x152) (fun w1 hw j9 u9 h9 => flat_row rg_cel hw (q := 0) rfl hx152 j9 u9 h9)) ?_
     refine TL.pnew rfl rfl rfl (exec_alloc (cs := [.slice none 0 0]) rfl brxzv26 rfl) (fun g25 => ?_)
     refine TL.pstore (k := 0) (vs := x152.cells) rfl rfl rfl rfl rfl rfl rfl bresz26 (rg_cel.one _) (by show 1 ≤ 1; decide) (L' := [.blk g25 26 x152.cells, .row (.slice (some ⟨g148, 0, none⟩) 2 2) 26 1 2 (flat Rg.cells [(⟨⟨Areg, creg, reg⟩⟩ : Rg), ⟨⟨A2, c2, es⟩⟩]), .blk g23 34 x108.cells, .row (.slice (some ⟨g104, 0, none⟩) 3 3) 34 8 3 (flat Rp.cells [p, rq1, rq2]), .abs wn.heap.size (fun w => Cod w wn.heap.size), .blk g21 28 x90.cells, .row (.slice (some ⟨g86, 0, none⟩) 3 3) 28 3 3 (flat Ru.cells [ru, u, v]), .row (.slice (some ⟨g77, 0, none⟩) 3 3) 23 1 3 (flat sgc [(⟨Axs, cxs, xs⟩ : Sg Rs), ⟨A1, c1, raw⟩, ⟨Aod, cod, od⟩]), .row (.slice Aod od.length cod) 65 17 od.length (flat Rs.cells od), .row (.slice Axs xs.length cxs) 65 17 xs.length (flat Rs.cells xs), .blk g17 28 v.cells, .blk g16 28 ru.cells, .blk g15 26 [.slice Areg reg.length creg], .row (.slice Areg reg.length creg) 102 5 reg.length (flat En.cells reg)]) rfl ?_
     refine zET (zS (TC.quietQ (by kernel_rfl) (by kernel_rfl) (fun w hw => hw.drawn _) ?_))
     refine TQ.val rfl rfl rfl (gives_move rfl rfl) ?_
     refine TQ.v (gV 0 (.agg (x152.cells).toArray) breag26 bresz26) ?_
     refine TQ.v (gV 2 (.agg (x108.cells).toArray) abrag34 abrsz34) ?_
     refine TQ.call (v := .bool (pdec (DtP x152.e.l x81.l x108))) rfl rfl rfl rfl rfl Tryz.func35 (by decide) rfl (fun w1 hw => (calls_p (detour_any x81.A x81.c x81.l x152.e.A x152.e.c x152.e.l x108 w1 (x81f.1 w1 (hw.pick [7, 8, 4, 9, 10, 11, 12, 13] (by decide) rfl)) (by omega) x81f.2.1 (x152f.1 w1 (hw.pick [7, 8, 4, 9, 10, 11, 12, 13] (by decide) rfl)))).mono fun en w2 ⟨h1, h2⟩ => ⟨h1, hw.below h2⟩) ?_
     refine TQ.val rfl rfl rfl (gives_move rfl rfl) ?_
     refine TQ.v (gV 0 (.agg (x152.cells).toArray) breag26 bresz26) ?_
     refine TQ.v (gV 2 (.agg (x108.cells).toArray) abrag34 abrsz34) ?_
     refine TQ.call (v := .bool (pdec (DtP x152.e.l x81.l x108))) rfl rfl rfl rfl rfl Tryz.func36 (by decide) rfl (fun w1 hw => (calls_p (rdetour_any x81.A x81.c x81.l x152.e.A x152.e.c x152.e.l x108 w1 (x81f.1 w1 (hw.pick [7, 8, 4, 9, 10, 11, 12, 13] (by decide) rfl)) (by omega) x81f.2.1 (x152f.1 w1 (hw.pick [7, 8, 4, 9, 10, 11, 12, 13] (by decide) rfl)) (by omega) x152f.2.1)).mono fun en w2 ⟨h1, h2⟩ => ⟨h1, hw.below h2⟩) ?_
     refine TQ.val rfl rfl rfl (gives_bin2 (v := .bool false) rfl rfl rfl (fun w => (bin_neb Tryz.underlying4 _ _ w).trans (by simp))) ?_
     refine TQ.rn 2 rfl (TQ.ov (gV 0 (.agg (x152.cells).toArray) breag26 bresz26) ?_)
     refine TQ.ov (gV 5 (.agg (x90.cells).toArray) aprag28 aprsz28) ?_
     refine TQ.ov (gV 2 (.agg (x108.cells).toArray) abrag34 abrsz34) ?_
     refine TQ.on rfl rfl rfl ?_
     refine TQ.call (v := .bool (pdec (PrP x152.e.l x81.l x90 x108))) rfl rfl rfl rfl rfl Tryz.func37 (by decide) rfl (fun w1 hw => (calls_p (proves_any x81.A x81.c x81.l x152.e.A x152.e.c x152.e.l x90 x108 w1 (x81f.1 w1 (hw.pick [7, 8, 4, 9, 10, 11, 12, 13] (by decide) rfl)) (by omega) x81f.2.1 (x152f.1 w1 (hw.pick [7, 8, 4, 9, 10, 11, 12, 13] (by decide) rfl)))).mono fun en w2 ⟨h1, h2⟩ => ⟨h1, hw.below h2⟩) ?_
     refine TQ.rn 1 rfl (TQ.ov (gV 0 (.agg (x152.cells).toArray) breag26 bresz26) ?_)
     refine TQ.ov (gV 5 (.agg (x90.cells).toArray) aprag28 aprsz28) ?_
     refine TQ.ov (gV 2 (.agg (x108.cells).toArray) abrag34 abrsz34) ?_
     refine TQ.on rfl rfl rfl ?_
     refine TQ.call (v := .bool (pdec (PrP x152.e.l x81.l x90 x108))) rfl rfl rfl rfl rfl Tryz.func38 (by decide) rfl (fun w1 hw => (calls_p (rproves_any x81.A x81.c x81.l x152.e.A x152.e.c x152.e.l x90 x108 w1 (x81f.1 w1 (hw.pick [7, 8, 4, 9, 10, 11, 12, 13] (by decide) rfl)) (by omega) x81f.2.1 (x152f.1 w1 (hw.pick [7, 8, 4, 9, 10, 11, 12, 13] (by decide) rfl)) (by omega) x152f.2.1)).mono fun en w2 ⟨h1, h2⟩ => ⟨h1, hw.below h2⟩) ?_
     refine TQ.on rfl rfl rfl ?_
     refine TQ.val rfl rfl rfl (gives_bin2 (v := .bool false) rfl rfl rfl (fun w => (bin_neb Tryz.underlying4 _ _ w).trans (by simp))) ?_
     refine TQ.val rfl rfl rfl (gives_pick rfl rfl rfl) ?_
     refine TQ.fin ?_
     refine zT (zd (zk (zN (zT (zG (TL.v (gD ((m + 1 : Nat) : Int)) ?_))))))
     refine TL.mv ?_
     refine zE ?_
     exact TX.round (⟨m + 1, by omega⟩) (by show 2 - (m + 1) < 2 - m; omega) ⟨rfl, rfl, rfl, rfl, rfl, rfl, rfl, rfl, rfl, rfl, rfl, rfl, rfl, rfl, rfl, rfl, rfl, rfl, rfl, rfl, rfl, rfl, rfl, rfl, rfl, trivial⟩ (fun w1 hw => hw.pick [1, 2, 3, 4, 5, 6, 7, 8, 9, 10, 11, 12, 13] (by decide) rfl)
    refine zET (zS (zd (zx (zX (zX (zM (zN (zT (zG (TL.v (gD ((k + 1 : Nat) : Int)) ?_))))))))))
    refine TL.mv ?_
    refine zE ?_
    exact TX.round (⟨k + 1, by omega⟩) (by show 3 - (k + 1) < 3 - k; omega) ⟨rfl, rfl, rfl, rfl, rfl, rfl, rfl, rfl, rfl, rfl, rfl, rfl, rfl, rfl, rfl, rfl, rfl, rfl, rfl, rfl, rfl, trivial⟩ (fun w1 hw => hw.pick [2, 3, 4, 5, 6, 7, 8, 9, 10, 11, 12] (by decide) rfl)
   refine zET (zS (zd (zx (zX (zX (zM (zN (zT (zG (TL.v (gD ((j + 1 : Nat) : Int)) ?_))))))))))
   refine TL.mv ?_
   refine zE ?_
   exact TX.round (⟨j + 1, by omega⟩) (by show 3 - (j + 1) < 3 - j; omega) ⟨rfl, rfl, rfl, rfl, rfl, rfl, rfl, rfl, rfl, rfl, rfl, rfl, rfl, rfl, rfl, rfl, rfl, trivial⟩ (fun w1 hw => hw.pick [3, 4, 5, 1, 6, 7, 8, 9, 10] (by decide) rfl)
  refine zET (zS (zd (zx (zX (zX (zM (zN (zT (zG (TL.v (gD ((i + 1 : Nat) : Int)) ?_))))))))))
  refine TL.mv ?_
  refine zE ?_
  exact TX.round (⟨i + 1, by omega⟩) (by show 3 - (i + 1) < 3 - i; omega) ⟨rfl, rfl, rfl, rfl, rfl, rfl, rfl, rfl, rfl, rfl, rfl, rfl, rfl, trivial⟩ (fun w1 hw => hw.pick [1, 2, 3, 4, 5, 6, 7, 8] (by decide) rfl)
 refine zET (zS (zd (zx (zX (zX (zM (zT (zSG (TL.as_ ?_)))))))))
 refine zET (zr ?_)
 exact ret_tmp Tryz.results3 rfl (fun w1 hw => ⟨rfl, hwb.trans (hw.bel.mono hwb.size)⟩)
open Go.ChangeShapes Go.WideShapes Go.RowKit
set_option linter.constructorNameAsVariable false
set_option maxRecDepth 20000
theorem cell_of_cells {w : World} {base n : Nat} {a : Addr} {cs : List Value} (h : w.cells? base a n = some cs) (j : Nat) (u : Value) (hu : cs[j]? = some u) : w.cell? (a.add j) = some u := by
 unfold World.cells? at h
 split at h
 ·have hl := mapM_some_length h
  have hj := (List.getElem?_eq_some_iff.1 hu).1
  rw [List.length_range] at hl
  have := mapM_some_get h j j (by rw [List.getElem?_range (by omega)])
  exact this.trans hu
 ·cases h
theorem pick_all {α : Type} {cc : α → List Value} {ok : α → Prop} {W : World} {a : Addr} {k n : Nat} (key : ∀ i, i < n → ∃ r : α, W.cells? 0 (a.add (i * k)) k = some (cc r) ∧ ok r) : ∀ m, m ≤ n → ∃ l : List α, l.length = m ∧ (∀ r ∈ l, ok r) ∧ ∀ i r, l[i]? = some r → W.cells? 0 (a.add (i * k)) k = some (cc r) := fun m => by
 induction m with
 | zero => exact fun _ => ⟨[], rfl, fun r hr => absurd hr List.not_mem_nil, fun i r hr => by simp at hr⟩
 | succ m ih =>
  intro hm
  obtain ⟨l, h1, h2, h3⟩ := ih (by omega)
  obtain ⟨r, h4, h5⟩ := key m (by omega)
  refine ⟨l ++ [r], by rw [List.length_append, h1]; rfl, fun q hq => (List.mem_append.1 hq).elim (h2 q) (fun h => by rw [List.mem_singleton] at h; subst h; exact h5), fun i q hq => ?_⟩
  rcases Nat.lt_or_ge i l.length with hi | hi
  ·rw [List.getElem?_append_left hi] at hq; exact h3 i q hq
  ·rw [List.getElem?_append_right hi] at hq
   obtain ⟨h6, h7⟩ := List.getElem?_eq_some_iff.1 hq
   simp only [List.length_singleton] at h6
   obtain rfl : i = m := by omega
   have h8 : r = q := by simpa [h1] using h7
   rw [← h8]; exact h4
theorem oc3 : Tryz.prog.cellsOf 3 = 1 := by kernel_rfl
theorem oc30 : Tryz.prog.cellsOf 30 = 1 := by kernel_rfl
theorem oc4 : Tryz.prog.cellsOf 4 = 1 := by kernel_rfl
theorem oc63 : Tryz.prog.cellsOf 63 = 6 := by kernel_rfl
theorem fieldsN6 {H : Type} {enc : TypeId × Value → H} {P : Program} {w : World} {base : Nat} {spare : Nat → Bool} {held : Bool} {t : TypeId} {f0 f1 f2 f3 f4 f5 : Field} {fuel : Nat} {cs : List Value} {x : DataW H × List MemPlace} (hs : P.underlying t = some (.struct #[f0, f1, f2, f3, f4, f5])) (h : DataW.trod enc P w base spare held fuel t cs = some x) : ∃ (n : Nat) (y0 y1 y2 y3 y4 y5 : DataW H × List MemPlace), cs.length = P.cellsOf t ∧ DataW.trod enc P w base spare held n f0.type ((cs.drop f0.offset).take (P.cellsOf f0.type)) = some y0 ∧ DataW.trod enc P w base spare held n f1.type ((cs.drop f1.offset).take (P.cellsOf f1.type)) = some y1 ∧ DataW.trod enc P w base spare held n f2.type ((cs.drop f2.offset).take (P.cellsOf f2.type)) = some y2 ∧ DataW.trod enc P w base spare held n f3.type ((cs.drop f3.offset).take (P.cellsOf f3.type)) = some y3 ∧ DataW.trod enc P w base spare held n f4.type ((cs.drop f4.offset).take (P.cellsOf f4.type)) = some y4 ∧ DataW.trod enc P w base spare held n f5.type ((cs.drop f5.offset).take (P.cellsOf f5.type)) = some y5 := by
 obtain ⟨xs, n, _, _, hl, hlen, hf⟩ := DataW.trod_struct hs h
 match xs, hlen with
 | [y0, y1, y2, y3, y4, y5], _ => exact ⟨n, y0, y1, y2, y3, y4, y5, hl, hf 0 f0 rfl, hf 1 f1 rfl, hf 2 f2 rfl, hf 3 f3 rfl, hf 4 f4 rfl, hf 5 f5 rfl⟩
theorem otr63 {H : Type} {enc : TypeId × Value → H} {W : World} {base : Nat} {spare : Nat → Bool} {held : Bool} {fuel : Nat} {c0 c1 c2 c3 c4 c5 : Value} {x : DataW H × List MemPlace} (h : DataW.trod enc Tryz.prog W base spare held fuel 63 [c0, c1, c2, c3, c4, c5] = some x) : ∃ (v0 : Int) (v1 : Int) (v2 : Int) (v3 : Int) (v4 : Int) (v5 : Int), (c0 = .int .u32 v0 ∧ c1 = .int .i64 v1 ∧ c2 = .int .i64 v2 ∧ c3 = .int .i64 v3 ∧ c4 = .int .i64 v4 ∧ c5 = .int .i64 v5) ∧ ((Lit.int .u32 v0).wf = true ∧ (Lit.int .i64 v1).wf = true ∧ (Lit.int .i64 v2).wf = true ∧ (Lit.int .i64 v3).wf = true ∧ (Lit.int .i64 v4).wf = true ∧ (Lit.int .i64 v5).wf = true) := by
 obtain ⟨n, y0, y1, y2, y3, y4, y5, hl, h0, h1, h2, h3, h4, h5⟩ := fieldsN6 Tryz.underlying63 h
 dsimp only at h0
 rw [oc30] at h0
 obtain ⟨x0, qx0, _, w0⟩ := DataW.trod_int (x := y0) Tryz.underlying30 h0
 have qx0 : [c0] = [Value.int .u32 x0] := qx0
 rw [List.cons.injEq] at qx0
 obtain ⟨rfl, _⟩ := qx0
 dsimp only at h1
 rw [oc3] at h1
 obtain ⟨x1, qx1, _, w1⟩ := DataW.trod_int (x := y1) Tryz.underlying3 h1
 have qx1 : [c1] = [Value.int .i64 x1] := qx1
 rw [List.cons.injEq] at qx1
 obtain ⟨rfl, _⟩ := qx1
 dsimp only at h2
 rw [oc3] at h2
 obtain ⟨x2, qx2, _, w2⟩ := DataW.trod_int (x := y2) Tryz.underlying3 h2
 have qx2 : [c2] = [Value.int .i64 x2] := qx2
 rw [List.cons.injEq] at qx2
 obtain ⟨rfl, _⟩ := qx2
 dsimp only at h3
 rw [oc3] at h3
 obtain ⟨x3, qx3, _, w3⟩ := DataW.trod_int (x := y3) Tryz.underlying3 h3
 have qx3 : [c3] = [Value.int .i64 x3] := qx3
 rw [List.cons.injEq] at qx3
 obtain ⟨rfl, _⟩ := qx3
 dsimp only at h4
 rw [oc3] at h4
 obtain ⟨x4, qx4, _, w4⟩ := DataW.trod_int (x := y4) Tryz.underlying3 h4
 have qx4 : [c4] = [Value.int .i64 x4] := qx4
 rw [List.cons.injEq] at qx4
 obtain ⟨rfl, _⟩ := qx4
 dsimp only at h5
 rw [oc3] at h5
 obtain ⟨x5, qx5, _, w5⟩ := DataW.trod_int (x := y5) Tryz.underlying3 h5
 have qx5 : [c5] = [Value.int .i64 x5] := qx5
 rw [List.cons.injEq] at qx5
 obtain ⟨rfl, _⟩ := qx5
 exact ⟨x0, x1, x2, x3, x4, x5, ⟨rfl, rfl, rfl, rfl, rfl, rfl⟩, ⟨w0, w1, w2, w3, w4, w5⟩⟩
theorem oc65 : Tryz.prog.cellsOf 65 = 17 := by kernel_rfl
theorem fieldsN12 {H : Type} {enc : TypeId × Value → H} {P : Program} {w : World} {base : Nat} {spare : Nat → Bool} {held : Bool} {t : TypeId} {f0 f1 f2 f3 f4 f5 f6 f7 f8 f9 f10 f11 : Field} {fuel : Nat} {cs : List Value} {x : DataW H × List MemPlace} (hs : P.underlying t = some (.struct #[f0, f1, f2, f3, f4, f5, f6, f7, f8, f9, f10, f11])) (h : DataW.trod enc P w base spare held fuel t cs = some x) : ∃ (n : Nat) (y0 y1 y2 y3 y4 y5 y6 y7 y8 y9 y10 y11 : DataW H × List MemPlace), cs.length = P.cellsOf t ∧ DataW.trod enc P w base spare held n f0.type ((cs.drop f0.offset).take (P.cellsOf f0.type)) = some y0 ∧ DataW.trod enc P w base spare held n f1.type ((cs.drop f1.offset).take (P.cellsOf f1.type)) = some y1 ∧ DataW.trod enc P w base spare held n f2.type ((cs.drop f2.offset).take (P.cellsOf f2.type)) = some y2 ∧ DataW.trod enc P w base spare held n f3.type ((cs.drop f3.offset).take (P.cellsOf f3.type)) = some y3 ∧ DataW.trod enc P w base spare held n f4.type ((cs.drop f4.offset).take (P.cellsOf f4.type)) = some y4 ∧ DataW.trod enc P w base spare held n f5.type ((cs.drop f5.offset).take (P.cellsOf f5.type)) = some y5 ∧ DataW.trod enc P w base spare held n f6.type ((cs.drop f6.offset).take (P.cellsOf f6.type)) = some y6 ∧ DataW.trod enc P w base spare held n f7.type ((cs.drop f7.offset).take (P.cellsOf f7.type)) = some y7 ∧ DataW.trod enc P w base spare held n f8.type ((cs.drop f8.offset).take (P.cellsOf f8.type)) = some y8 ∧ DataW.trod enc P w base spare held n f9.type ((cs.drop f9.offset).take (P.cellsOf f9.type)) = some y9 ∧ DataW.trod enc P w base spare held n f10.type ((cs.drop f10.offset).take (P.cellsOf f10.type)) = some y10 ∧ DataW.trod enc P w base spare held n f11.type ((cs.drop f11.offset).take (P.cellsOf f11.type)) = some y11 := by
 obtain ⟨xs, n, _, _, hl, hlen, hf⟩ := DataW.trod_struct hs h
 match xs, hlen with
 | [y0, y1, y2, y3, y4, y5, y6, y7, y8, y9, y10, y11], _ => exact ⟨n, y0, y1, y2, y3, y4, y5, y6, y7, y8, y9, y10, y11, hl, hf 0 f0 rfl, hf 1 f1 rfl, hf 2 f2 rfl, hf 3 f3 rfl, hf 4 f4 rfl, hf 5 f5 rfl, hf 6 f6 rfl, hf 7 f7 rfl, hf 8 f8 rfl, hf 9 f9 rfl, hf 10 f10 rfl, hf 11 f11 rfl⟩
theorem otr65 {H : Type} {enc : TypeId × Value → H} {W : World} {base : Nat} {spare : Nat → Bool} {held : Bool} {fuel : Nat} {c0 c1 c2 c3 c4 c5 c6 c7 c8 c9 c10 c11 c12 c13 c14 c15 c16 : Value} {x : DataW H × List MemPlace} (h : DataW.trod enc Tryz.prog W base spare held fuel 65 [c0, c1, c2, c3, c4, c5, c6, c7, c8, c9, c10, c11, c12, c13, c14, c15, c16] = some x) : ∃ (v0 : Int) (v1 : Int) (v2 : Int) (v3 : Int) (v4 : Int) (v5 : Int) (v6 : Int) (v7 : Int) (v8 : Bool) (v9 : Bool) (v10 : Int) (v11 : Int) (v12 : Int) (v13 : Int) (v14 : Int) (v15 : Int) (v16 : Int), (c0 = .int .i64 v0 ∧ c1 = .int .i64 v1 ∧ c2 = .int .i64 v2 ∧ c3 = .int .i64 v3 ∧ c4 = .int .u32 v4 ∧ c5 = .int .i64 v5 ∧ c6 = .int .i64 v6 ∧ c7 = .int .i64 v7 ∧ c8 = .bool v8 ∧ c9 = .bool v9 ∧ c10 = .int .i64 v10 ∧ c11 = .int .u32 v11 ∧ c12 = .int .i64 v12 ∧ c13 = .int .i64 v13 ∧ c14 = .int .i64 v14 ∧ c15 = .int .i64 v15 ∧ c16 = .int .i64 v16) ∧ ((Lit.int .i64 v0).wf = true ∧ (Lit.int .i64 v1).wf = true ∧ (Lit.int .i64 v2).wf = true ∧ (Lit.int .i64 v3).wf = true ∧ (Lit.int .u32 v4).wf = true ∧ (Lit.int .i64 v5).wf = true ∧ (Lit.int .i64 v6).wf = true ∧ (Lit.int .i64 v7).wf = true ∧ (Lit.int .i64 v10).wf = true ∧ (Lit.int .u32 v11).wf = true ∧ (Lit.int .i64 v12).wf = true ∧ (Lit.int .i64 v13).wf = true ∧ (Lit.int .i64 v14).wf = true ∧ (Lit.int .i64 v15).wf = true ∧ (Lit.int .i64 v16).wf = true) := by
 obtain ⟨n, y0, y1, y2, y3, y4, y5, y6, y7, y8, y9, y10, y11, hl, h0, h1, h2, h3, h4, h5, h6, h7, h8, h9, h10, h11⟩ := fieldsN12 Tryz.underlying65 h
 dsimp only at h0
 rw [oc3] at h0
 obtain ⟨x0, qx0, _, w0⟩ := DataW.trod_int (x := y0) Tryz.underlying3 h0
 have qx0 : [c0] = [Value.int .i64 x0] := qx0
 rw [List.cons.injEq] at qx0
 obtain ⟨rfl, _⟩ := qx0
 dsimp only at h1
 rw [oc3] at h1
 obtain ⟨x1, qx1, _, w1⟩ := DataW.trod_int (x := y1) Tryz.underlying3 h1
 have qx1 : [c1] = [Value.int .i64 x1] := qx1
 rw [List.cons.injEq] at qx1
 obtain ⟨rfl, _⟩ := qx1
 dsimp only at h2
 rw [oc3] at h2
 obtain ⟨x2, qx2, _, w2⟩ := DataW.trod_int (x := y2) Tryz.underlying3 h2
 have qx2 : [c2] = [Value.int .i64 x2] := qx2
 rw [List.cons.injEq] at qx2
 obtain ⟨rfl, _⟩ := qx2
 dsimp only at h3
 rw [oc3] at h3
 obtain ⟨x3, qx3, _, w3⟩ := DataW.trod_int (x := y3) Tryz.underlying3 h3
 have qx3 : [c3] = [Value.int .i64 x3] := qx3
 rw [List.cons.injEq] at qx3
 obtain ⟨rfl, _⟩ := qx3
 dsimp only at h4
 rw [oc30] at h4
 obtain ⟨x4, qx4, _, w4⟩ := DataW.trod_int (x := y4) Tryz.underlying30 h4
 have qx4 : [c4] = [Value.int .u32 x4] := qx4
 rw [List.cons.injEq] at qx4
 obtain ⟨rfl, _⟩ := qx4
 dsimp only at h5
 rw [oc3] at h5
 obtain ⟨x5, qx5, _, w5⟩ := DataW.trod_int (x := y5) Tryz.underlying3 h5
 have qx5 : [c5] = [Value.int .i64 x5] := qx5
 rw [List.cons.injEq] at qx5
 obtain ⟨rfl, _⟩ := qx5
 dsimp only at h6
 rw [oc3] at h6
 obtain ⟨x6, qx6, _, w6⟩ := DataW.trod_int (x := y6) Tryz.underlying3 h6
 have qx6 : [c6] = [Value.int .i64 x6] := qx6
 rw [List.cons.injEq] at qx6
 obtain ⟨rfl, _⟩ := qx6
 dsimp only at h7
 rw [oc3] at h7
 obtain ⟨x7, qx7, _, w7⟩ := DataW.trod_int (x := y7) Tryz.underlying3 h7
 have qx7 : [c7] = [Value.int .i64 x7] := qx7
 rw [List.cons.injEq] at qx7
 obtain ⟨rfl, _⟩ := qx7
 dsimp only at h8
 rw [oc4] at h8
 obtain ⟨x8, qx8, _⟩ := DataW.trod_bool (x := y8) Tryz.underlying4 h8
 have qx8 : [c8] = [Value.bool x8] := qx8
 rw [List.cons.injEq] at qx8
 obtain ⟨rfl, _⟩ := qx8
 dsimp only at h9
 rw [oc4] at h9
 obtain ⟨x9, qx9, _⟩ := DataW.trod_bool (x := y9) Tryz.underlying4 h9
 have qx9 : [c9] = [Value.bool x9] := qx9
 rw [List.cons.injEq] at qx9
 obtain ⟨rfl, _⟩ := qx9
 dsimp only at h10
 rw [oc3] at h10
 obtain ⟨x10, qx10, _, w10⟩ := DataW.trod_int (x := y10) Tryz.underlying3 h10
 have qx10 : [c10] = [Value.int .i64 x10] := qx10
 rw [List.cons.injEq] at qx10
 obtain ⟨rfl, _⟩ := qx10
 dsimp only at h11
 rw [oc63] at h11
 obtain ⟨x11_0, x11_1, x11_2, x11_3, x11_4, x11_5, ⟨rfl, rfl, rfl, rfl, rfl, rfl⟩, w11⟩ := otr63 (x := y11) (c0 := c11) (c1 := c12) (c2 := c13) (c3 := c14) (c4 := c15) (c5 := c16) h11
 exact ⟨x0, x1, x2, x3, x4, x5, x6, x7, x8, x9, x10, x11_0, x11_1, x11_2, x11_3, x11_4, x11_5, ⟨rfl, rfl, rfl, rfl, rfl, rfl, rfl, rfl, rfl, rfl, rfl, rfl, rfl, rfl, rfl, rfl, rfl⟩, ⟨w0, w1, w2, w3, w4, w5, w6, w7, w10, w11.1, w11.2.1, w11.2.2.1, w11.2.2.2.1, w11.2.2.2.2.1, w11.2.2.2.2.2⟩⟩
def Rs.Wf (r : Rs) : Prop := (Lit.int .i64 r.v).wf = true ∧ (Lit.int .i64 r.run).wf = true ∧ (Lit.int .i64 r.num).wf = true ∧ (Lit.int .i64 r.at_).wf = true ∧ (Lit.int .u32 r.dst).wf = true ∧ (Lit.int .i64 r.proto).wf = true ∧ (Lit.int .i64 r.flow).wf = true ∧ (Lit.int .i64 r.ttl).wf = true ∧ (Lit.int .i64 r.back).wf = true ∧ (Lit.int .u32 r.src).wf = true ∧ (Lit.int .i64 r.kind).wf = true ∧ (Lit.int .i64 r.code).wf = true ∧ (Lit.int .i64 r.left).wf = true ∧ (Lit.int .i64 r.id).wf = true ∧ (Lit.int .i64 r.quo).wf = true
theorem res_trod {H : Type} {enc : TypeId × Value → H} {W : World} {base : Nat} {spare : Nat → Bool} {held : Bool} {fuel : Nat} {cs : List Value} {x : DataW H × List MemPlace} (h : DataW.trod enc Tryz.prog W base spare held fuel 65 cs = some x) : ∃ r : Rs, cs = r.cells ∧ r.Wf := by
 have hl : cs.length = 17 := by
  obtain ⟨n, _, _, _, _, _, _, _, _, _, _, _, _, hl, _⟩ := fieldsN12 Tryz.underlying65 h
  rw [oc65] at hl; exact hl
 match cs, hl with
 | [c0, c1, c2, c3, c4, c5, c6, c7, c8, c9, c10, c11, c12, c13, c14, c15, c16], _ =>
  obtain ⟨v0, v1, v2, v3, v4, v5, v6, v7, v8, v9, v10, v11, v12, v13, v14, v15, v16, ⟨rfl, rfl, rfl, rfl, rfl, rfl, rfl, rfl, rfl, rfl, rfl, rfl, rfl, rfl, rfl, rfl, rfl⟩, hw⟩ := otr65 h
  exact ⟨⟨v0, v1, v2, v3, v4, v5, v6, v7, v8, v9, v10, v11, v12, v13, v14, v15, v16⟩, rfl, hw⟩
theorem open_resslice {H : Type} {enc : TypeId × Value → H} {W : World} {b0 : Nat} {v : Value} {d : DataW H} {p : List MemPlace} (hok : Value.okWide Tryz.prog W .any b0 23 v) (h : DataW.Trod enc Tryz.prog W 0 (fun _ => true) true 23 v d p) :
  ∃ A c l, v = .slice A l.length c ∧ l.length ≤ c ∧ c ≤ maxLen ∧ Reads W W.heap.size 17 A l.length (flat Rs.cells l) ∧ ∀ r ∈ l, r.Wf := by
 obtain ⟨a0, len0, cap0, rfl⟩ := okWide_slice Tryz.underlying23 hok
 obtain ⟨fuel, hf⟩ := h
 rcases DataW.trod_slice Tryz.underlying23 hf with ⟨hcs, _⟩ | ⟨a, len, cap, elems, rest, n, _, hcs, _, _, hlc, hcm, hel, hget, _, _⟩
 ·simp [Value.cells] at hcs
  obtain ⟨rfl, rfl, rfl⟩ := hcs
  exact ⟨none, 0, [], rfl, Nat.le_refl _, Nat.zero_le _, ⟨rfl, fun h => absurd h (by decide)⟩, fun r hr => by cases hr⟩
 ·simp [Value.cells] at hcs
  obtain ⟨rfl, rfl, rfl⟩ := hcs
  have key : ∀ i, i < len0 → ∃ r : Rs, W.cells? 0 (a.add (i * 17)) 17 = some r.cells ∧ r.Wf := fun i hi => by
   have hi2 := hget i hi
   rw [oc65, List.getElem?_eq_getElem (by omega), Option.bind_eq_some_iff] at hi2
   obtain ⟨cs, h1, h2⟩ := hi2
   obtain ⟨r, rfl, ho⟩ := res_trod h2
   exact ⟨r, h1, ho⟩
  obtain ⟨l, h1, h2, h3⟩ := pick_all key len0 (Nat.le_refl _)
  subst h1
  refine ⟨some a, cap0, l, rfl, hlc, hcm, ⟨flat_len rs_cel l, fun hn => ⟨a, rfl, ?_, fun j u hu => ?_⟩⟩, h2⟩
  ·have h4 := cell_of_cells (h3 0 l[0] (List.getElem?_eq_getElem hn)) 0 _ rfl
   have := World.block_lt_of_cell? W _ h4
   rwa [block_of_add, block_of_add] at this
  ·have hj : j < l.length * 17 := by have := (List.getElem?_eq_some_iff.1 hu).1; rwa [flat_len rs_cel] at this
   have hi : j / 17 < l.length := by omega
   have h4 := flat_ix rs_cel (List.getElem?_eq_getElem hi) (j % 17) (by omega)
   rw [show j / 17 * 17 + j % 17 = j by omega, hu] at h4
   have h5 := cell_of_cells (h3 _ _ (List.getElem?_eq_getElem hi)) (j % 17) u h4.symm
   rw [Addr.add_add, show j / 17 * 17 + j % 17 = j by omega] at h5
   exact h5
theorem oc32 : Tryz.prog.cellsOf 32 = 3 := by kernel_rfl
theorem fieldsN3 {H : Type} {enc : TypeId × Value → H} {P : Program} {w : World} {base : Nat} {spare : Nat → Bool} {held : Bool} {t : TypeId} {f0 f1 f2 : Field} {fuel : Nat} {cs : List Value} {x : DataW H × List MemPlace} (hs : P.underlying t = some (.struct #[f0, f1, f2])) (h : DataW.trod enc P w base spare held fuel t cs = some x) : ∃ (n : Nat) (y0 y1 y2 : DataW H × List MemPlace), cs.length = P.cellsOf t ∧ DataW.trod enc P w base spare held n f0.type ((cs.drop f0.offset).take (P.cellsOf f0.type)) = some y0 ∧ DataW.trod enc P w base spare held n f1.type ((cs.drop f1.offset).take (P.cellsOf f1.type)) = some y1 ∧ DataW.trod enc P w base spare held n f2.type ((cs.drop f2.offset).take (P.cellsOf f2.type)) = some y2 := by
 obtain ⟨xs, n, _, _, hl, hlen, hf⟩ := DataW.trod_struct hs h
 match xs, hlen with
 | [y0, y1, y2], _ => exact ⟨n, y0, y1, y2, hl, hf 0 f0 rfl, hf 1 f1 rfl, hf 2 f2 rfl⟩
theorem otr32 {H : Type} {enc : TypeId × Value → H} {W : World} {base : Nat} {spare : Nat → Bool} {held : Bool} {fuel : Nat} {c0 c1 c2 : Value} {x : DataW H × List MemPlace} (h : DataW.trod enc Tryz.prog W base spare held fuel 32 [c0, c1, c2] = some x) : ∃ (v0 : Int) (v1 : Int) (v2 : Int), (c0 = .int .i64 v0 ∧ c1 = .int .u32 v1 ∧ c2 = .int .i64 v2) ∧ ((Lit.int .i64 v0).wf = true ∧ (Lit.int .u32 v1).wf = true ∧ (Lit.int .i64 v2).wf = true) := by
 obtain ⟨n, y0, y1, y2, hl, h0, h1, h2⟩ := fieldsN3 Tryz.underlying32 h
 dsimp only at h0
 rw [oc3] at h0
 obtain ⟨x0, qx0, _, w0⟩ := DataW.trod_int (x := y0) Tryz.underlying3 h0
 have qx0 : [c0] = [Value.int .i64 x0] := qx0
 rw [List.cons.injEq] at qx0
 obtain ⟨rfl, _⟩ := qx0
 dsimp only at h1
 rw [oc30] at h1
 obtain ⟨x1, qx1, _, w1⟩ := DataW.trod_int (x := y1) Tryz.underlying30 h1
 have qx1 : [c1] = [Value.int .u32 x1] := qx1
 rw [List.cons.injEq] at qx1
 obtain ⟨rfl, _⟩ := qx1
 dsimp only at h2
 rw [oc3] at h2
 obtain ⟨x2, qx2, _, w2⟩ := DataW.trod_int (x := y2) Tryz.underlying3 h2
 have qx2 : [c2] = [Value.int .i64 x2] := qx2
 rw [List.cons.injEq] at qx2
 obtain ⟨rfl, _⟩ := qx2
 exact ⟨x0, x1, x2, ⟨rfl, rfl, rfl⟩, ⟨w0, w1, w2⟩⟩
theorem oc34 : Tryz.prog.cellsOf 34 = 8 := by kernel_rfl
theorem otr34 {H : Type} {enc : TypeId × Value → H} {W : World} {base : Nat} {spare : Nat → Bool} {held : Bool} {fuel : Nat} {c0 c1 c2 c3 c4 c5 c6 c7 : Value} {x : DataW H × List MemPlace} (h : DataW.trod enc Tryz.prog W base spare held fuel 34 [c0, c1, c2, c3, c4, c5, c6, c7] = some x) : ∃ (v0 : Int) (v1 : Int) (v2 : Int) (v3 : Int) (v4 : Int) (v5 : Int) (v6 : Int) (v7 : Int), (c0 = .int .i64 v0 ∧ c1 = .int .i64 v1 ∧ c2 = .int .u32 v2 ∧ c3 = .int .i64 v3 ∧ c4 = .int .i64 v4 ∧ c5 = .int .i64 v5 ∧ c6 = .int .i64 v6 ∧ c7 = .int .i64 v7) ∧ ((Lit.int .i64 v0).wf = true ∧ (Lit.int .i64 v1).wf = true ∧ (Lit.int .u32 v2).wf = true ∧ (Lit.int .i64 v3).wf = true ∧ (Lit.int .i64 v4).wf = true ∧ (Lit.int .i64 v5).wf = true ∧ (Lit.int .i64 v6).wf = true ∧ (Lit.int .i64 v7).wf = true) := by
 obtain ⟨n, y0, y1, y2, y3, y4, y5, hl, h0, h1, h2, h3, h4, h5⟩ := fieldsN6 Tryz.underlying34 h
 dsimp only at h0
 rw [oc3] at h0
 obtain ⟨x0, qx0, _, w0⟩ := DataW.trod_int (x := y0) Tryz.underlying3 h0
 have qx0 : [c0] = [Value.int .i64 x0] := qx0
 rw [List.cons.injEq] at qx0
 obtain ⟨rfl, _⟩ := qx0
 dsimp only at h1
 rw [oc32] at h1
 obtain ⟨x1_0, x1_1, x1_2, ⟨rfl, rfl, rfl⟩, w1⟩ := otr32 (x := y1) (c0 := c1) (c1 := c2) (c2 := c3) h1
 dsimp only at h2
 rw [oc3] at h2
 obtain ⟨x2, qx2, _, w2⟩ := DataW.trod_int (x := y2) Tryz.underlying3 h2
 have qx2 : [c4] = [Value.int .i64 x2] := qx2
 rw [List.cons.injEq] at qx2
 obtain ⟨rfl, _⟩ := qx2
 dsimp only at h3
 rw [oc3] at h3
 obtain ⟨x3, qx3, _, w3⟩ := DataW.trod_int (x := y3) Tryz.underlying3 h3
 have qx3 : [c5] = [Value.int .i64 x3] := qx3
 rw [List.cons.injEq] at qx3
 obtain ⟨rfl, _⟩ := qx3
 dsimp only at h4
 rw [oc3] at h4
 obtain ⟨x4, qx4, _, w4⟩ := DataW.trod_int (x := y4) Tryz.underlying3 h4
 have qx4 : [c6] = [Value.int .i64 x4] := qx4
 rw [List.cons.injEq] at qx4
 obtain ⟨rfl, _⟩ := qx4
 dsimp only at h5
 rw [oc3] at h5
 obtain ⟨x5, qx5, _, w5⟩ := DataW.trod_int (x := y5) Tryz.underlying3 h5
 have qx5 : [c7] = [Value.int .i64 x5] := qx5
 rw [List.cons.injEq] at qx5
 obtain ⟨rfl, _⟩ := qx5
 exact ⟨x0, x1_0, x1_1, x1_2, x2, x3, x4, x5, ⟨rfl, rfl, rfl, rfl, rfl, rfl, rfl, rfl⟩, ⟨w0, w1.1, w1.2.1, w1.2.2, w2, w3, w4, w5⟩⟩
def Rp.Wf (r : Rp) : Prop := (Lit.int .i64 r.kind).wf = true ∧ (Lit.int .i64 r.v).wf = true ∧ (Lit.int .u32 r.dst).wf = true ∧ (Lit.int .i64 r.proto).wf = true ∧ (Lit.int .i64 r.flow).wf = true ∧ (Lit.int .i64 r.ttl).wf = true ∧ (Lit.int .i64 r.at_).wf = true ∧ (Lit.int .i64 r.prov).wf = true
theorem rp_trod {H : Type} {enc : TypeId × Value → H} {W : World} {base : Nat} {spare : Nat → Bool} {held : Bool} {fuel : Nat} {cs : List Value} {x : DataW H × List MemPlace} (h : DataW.trod enc Tryz.prog W base spare held fuel 34 cs = some x) : ∃ r : Rp, cs = r.cells ∧ r.Wf := by
 have hl : cs.length = 8 := by
  obtain ⟨n, _, _, _, _, _, _, hl, _⟩ := fieldsN6 Tryz.underlying34 h
  rw [oc34] at hl; exact hl
 match cs, hl with
 | [c0, c1, c2, c3, c4, c5, c6, c7], _ =>
  obtain ⟨v0, v1, v2, v3, v4, v5, v6, v7, ⟨rfl, rfl, rfl, rfl, rfl, rfl, rfl, rfl⟩, hw⟩ := otr34 h
  exact ⟨⟨v0, v1, v2, v3, v4, v5, v6, v7⟩, rfl, hw⟩
theorem open_rp {H : Type} {enc : TypeId × Value → H} {W : World} {base : Nat} {spare : Nat → Bool} {held : Bool} {r : Reach} {b0 : Nat} {v : Value} {d : DataW H} {p : List MemPlace} (hv : Value.okWide Tryz.prog W r b0 34 v) (h : DataW.Trod enc Tryz.prog W base spare held 34 v d p) : ∃ x : Rp, v = .agg x.cells.toArray ∧ x.Wf := by
 obtain ⟨cs, rfl, hsz⟩ := okWide_struct Tryz.underlying34 hv
 obtain ⟨fuel, hf⟩ := h
 obtain ⟨x, hx, ho⟩ := rp_trod hf
 refine ⟨x, ?_, ho⟩
 have hx2 : cs.toList = x.cells := hx
 rw [← hx2]
theorem oc28 : Tryz.prog.cellsOf 28 = 3 := by kernel_rfl
theorem otr28 {H : Type} {enc : TypeId × Value → H} {W : World} {base : Nat} {spare : Nat → Bool} {held : Bool} {fuel : Nat} {c0 c1 c2 : Value} {x : DataW H × List MemPlace} (h : DataW.trod enc Tryz.prog W base spare held fuel 28 [c0, c1, c2] = some x) : ∃ (v0 : Int) (v1 : Int) (v2 : Int), (c0 = .int .i64 v0 ∧ c1 = .int .i64 v1 ∧ c2 = .int .i64 v2) ∧ ((Lit.int .i64 v0).wf = true ∧ (Lit.int .i64 v1).wf = true ∧ (Lit.int .i64 v2).wf = true) := by
 obtain ⟨n, y0, y1, y2, hl, h0, h1, h2⟩ := fieldsN3 Tryz.underlying28 h
 dsimp only at h0
 rw [oc3] at h0
 obtain ⟨x0, qx0, _, w0⟩ := DataW.trod_int (x := y0) Tryz.underlying3 h0
 have qx0 : [c0] = [Value.int .i64 x0] := qx0
 rw [List.cons.injEq] at qx0
 obtain ⟨rfl, _⟩ := qx0
 dsimp only at h1
 rw [oc3] at h1
 obtain ⟨x1, qx1, _, w1⟩ := DataW.trod_int (x := y1) Tryz.underlying3 h1
 have qx1 : [c1] = [Value.int .i64 x1] := qx1
 rw [List.cons.injEq] at qx1
 obtain ⟨rfl, _⟩ := qx1
 dsimp only at h2
 rw [oc3] at h2
 obtain ⟨x2, qx2, _, w2⟩ := DataW.trod_int (x := y2) Tryz.underlying3 h2
 have qx2 : [c2] = [Value.int .i64 x2] := qx2
 rw [List.cons.injEq] at qx2
 obtain ⟨rfl, _⟩ := qx2
 exact ⟨x0, x1, x2, ⟨rfl, rfl, rfl⟩, ⟨w0, w1, w2⟩⟩
def Ru.Wf (r : Ru) : Prop := (Lit.int .i64 r.los).wf = true ∧ (Lit.int .i64 r.gro).wf = true ∧ (Lit.int .i64 r.prb).wf = true
theorem ru_trod {H : Type} {enc : TypeId × Value → H} {W : World} {base : Nat} {spare : Nat → Bool} {held : Bool} {fuel : Nat} {cs : List Value} {x : DataW H × List MemPlace} (h : DataW.trod enc Tryz.prog W base spare held fuel 28 cs = some x) : ∃ r : Ru, cs = r.cells ∧ r.Wf := by
 have hl : cs.length = 3 := by
  obtain ⟨n, _, _, _, hl, _⟩ := fieldsN3 Tryz.underlying28 h
  rw [oc28] at hl; exact hl
 match cs, hl with
 | [c0, c1, c2], _ =>
  obtain ⟨v0, v1, v2, ⟨rfl, rfl, rfl⟩, hw⟩ := otr28 h
  exact ⟨⟨v0, v1, v2⟩, rfl, hw⟩
theorem open_ru {H : Type} {enc : TypeId × Value → H} {W : World} {base : Nat} {spare : Nat → Bool} {held : Bool} {r : Reach} {b0 : Nat} {v : Value} {d : DataW H} {p : List MemPlace} (hv : Value.okWide Tryz.prog W r b0 28 v) (h : DataW.Trod enc Tryz.prog W base spare held 28 v d p) : ∃ x : Ru, v = .agg x.cells.toArray ∧ x.Wf := by
 obtain ⟨cs, rfl, hsz⟩ := okWide_struct Tryz.underlying28 hv
 obtain ⟨fuel, hf⟩ := h
 obtain ⟨x, hx, ho⟩ := ru_trod hf
 refine ⟨x, ?_, ho⟩
 have hx2 : cs.toList = x.cells := hx
 rw [← hx2]
theorem oc100 : Tryz.prog.cellsOf 100 = 2 := by kernel_rfl
theorem fieldsN2 {H : Type} {enc : TypeId × Value → H} {P : Program} {w : World} {base : Nat} {spare : Nat → Bool} {held : Bool} {t : TypeId} {f0 f1 : Field} {fuel : Nat} {cs : List Value} {x : DataW H × List MemPlace} (hs : P.underlying t = some (.struct #[f0, f1])) (h : DataW.trod enc P w base spare held fuel t cs = some x) : ∃ (n : Nat) (y0 y1 : DataW H × List MemPlace), cs.length = P.cellsOf t ∧ DataW.trod enc P w base spare held n f0.type ((cs.drop f0.offset).take (P.cellsOf f0.type)) = some y0 ∧ DataW.trod enc P w base spare held n f1.type ((cs.drop f1.offset).take (P.cellsOf f1.type)) = some y1 := by
 obtain ⟨xs, n, _, _, hl, hlen, hf⟩ := DataW.trod_struct hs h
 match xs, hlen with
 | [y0, y1], _ => exact ⟨n, y0, y1, hl, hf 0 f0 rfl, hf 1 f1 rfl⟩
theorem otr100 {H : Type} {enc : TypeId × Value → H} {W : World} {base : Nat} {spare : Nat → Bool} {held : Bool} {fuel : Nat} {c0 c1 : Value} {x : DataW H × List MemPlace} (h : DataW.trod enc Tryz.prog W base spare held fuel 100 [c0, c1] = some x) : ∃ (v0 : Int) (v1 : Int), (c0 = .int .u32 v0 ∧ c1 = .int .i64 v1) ∧ ((Lit.int .u32 v0).wf = true ∧ (Lit.int .i64 v1).wf = true) := by
 obtain ⟨n, y0, y1, hl, h0, h1⟩ := fieldsN2 Tryz.underlying100 h
 dsimp only at h0
 rw [oc30] at h0
 obtain ⟨x0, qx0, _, w0⟩ := DataW.trod_int (x := y0) Tryz.underlying30 h0
 have qx0 : [c0] = [Value.int .u32 x0] := qx0
 rw [List.cons.injEq] at qx0
 obtain ⟨rfl, _⟩ := qx0
 dsimp only at h1
 rw [oc3] at h1
 obtain ⟨x1, qx1, _, w1⟩ := DataW.trod_int (x := y1) Tryz.underlying3 h1
 have qx1 : [c1] = [Value.int .i64 x1] := qx1
 rw [List.cons.injEq] at qx1
 obtain ⟨rfl, _⟩ := qx1
 exact ⟨x0, x1, ⟨rfl, rfl⟩, ⟨w0, w1⟩⟩
theorem oc102 : Tryz.prog.cellsOf 102 = 5 := by kernel_rfl
theorem fieldsN4 {H : Type} {enc : TypeId × Value → H} {P : Program} {w : World} {base : Nat} {spare : Nat → Bool} {held : Bool} {t : TypeId} {f0 f1 f2 f3 : Field} {fuel : Nat} {cs : List Value} {x : DataW H × List MemPlace} (hs : P.underlying t = some (.struct #[f0, f1, f2, f3])) (h : DataW.trod enc P w base spare held fuel t cs = some x) : ∃ (n : Nat) (y0 y1 y2 y3 : DataW H × List MemPlace), cs.length = P.cellsOf t ∧ DataW.trod enc P w base spare held n f0.type ((cs.drop f0.offset).take (P.cellsOf f0.type)) = some y0 ∧ DataW.trod enc P w base spare held n f1.type ((cs.drop f1.offset).take (P.cellsOf f1.type)) = some y1 ∧ DataW.trod enc P w base spare held n f2.type ((cs.drop f2.offset).take (P.cellsOf f2.type)) = some y2 ∧ DataW.trod enc P w base spare held n f3.type ((cs.drop f3.offset).take (P.cellsOf f3.type)) = some y3 := by
 obtain ⟨xs, n, _, _, hl, hlen, hf⟩ := DataW.trod_struct hs h
 match xs, hlen with
 | [y0, y1, y2, y3], _ => exact ⟨n, y0, y1, y2, y3, hl, hf 0 f0 rfl, hf 1 f1 rfl, hf 2 f2 rfl, hf 3 f3 rfl⟩
theorem otr102 {H : Type} {enc : TypeId × Value → H} {W : World} {base : Nat} {spare : Nat → Bool} {held : Bool} {fuel : Nat} {c0 c1 c2 c3 c4 : Value} {x : DataW H × List MemPlace} (h : DataW.trod enc Tryz.prog W base spare held fuel 102 [c0, c1, c2, c3, c4] = some x) : ∃ (v0 : Int) (v1 : Int) (v2 : Int) (v3 : Int) (v4 : Int), (c0 = .int .u32 v0 ∧ c1 = .int .i64 v1 ∧ c2 = .int .i64 v2 ∧ c3 = .int .i64 v3 ∧ c4 = .int .i64 v4) ∧ ((Lit.int .u32 v0).wf = true ∧ (Lit.int .i64 v1).wf = true ∧ (Lit.int .i64 v2).wf = true ∧ (Lit.int .i64 v3).wf = true ∧ (Lit.int .i64 v4).wf = true) := by
 obtain ⟨n, y0, y1, y2, y3, hl, h0, h1, h2, h3⟩ := fieldsN4 Tryz.underlying102 h
 dsimp only at h0
 rw [oc100] at h0
 obtain ⟨x0_0, x0_1, ⟨rfl, rfl⟩, w0⟩ := otr100 (x := y0) (c0 := c0) (c1 := c1) h0
 dsimp only at h1
 rw [oc3] at h1
 obtain ⟨x1, qx1, _, w1⟩ := DataW.trod_int (x := y1) Tryz.underlying3 h1
 have qx1 : [c2] = [Value.int .i64 x1] := qx1
 rw [List.cons.injEq] at qx1
 obtain ⟨rfl, _⟩ := qx1
 dsimp only at h2
 rw [oc3] at h2
 obtain ⟨x2, qx2, _, w2⟩ := DataW.trod_int (x := y2) Tryz.underlying3 h2
 have qx2 : [c3] = [Value.int .i64 x2] := qx2
 rw [List.cons.injEq] at qx2
 obtain ⟨rfl, _⟩ := qx2
 dsimp only at h3
 rw [oc3] at h3
 obtain ⟨x3, qx3, _, w3⟩ := DataW.trod_int (x := y3) Tryz.underlying3 h3
 have qx3 : [c4] = [Value.int .i64 x3] := qx3
 rw [List.cons.injEq] at qx3
 obtain ⟨rfl, _⟩ := qx3
 exact ⟨x0_0, x0_1, x1, x2, x3, ⟨rfl, rfl, rfl, rfl, rfl⟩, ⟨w0.1, w0.2, w1, w2, w3⟩⟩
def En.Wf (r : En) : Prop := (Lit.int .u32 r.addr).wf = true ∧ (Lit.int .i64 r.len).wf = true ∧ (Lit.int .i64 r.prov).wf = true ∧ (Lit.int .i64 r.frm).wf = true ∧ (Lit.int .i64 r.to_).wf = true
theorem en_trod {H : Type} {enc : TypeId × Value → H} {W : World} {base : Nat} {spare : Nat → Bool} {held : Bool} {fuel : Nat} {cs : List Value} {x : DataW H × List MemPlace} (h : DataW.trod enc Tryz.prog W base spare held fuel 102 cs = some x) : ∃ r : En, cs = r.cells ∧ r.Wf := by
 have hl : cs.length = 5 := by
  obtain ⟨n, _, _, _, _, hl, _⟩ := fieldsN4 Tryz.underlying102 h
  rw [oc102] at hl; exact hl
 match cs, hl with
 | [c0, c1, c2, c3, c4], _ =>
  obtain ⟨v0, v1, v2, v3, v4, ⟨rfl, rfl, rfl, rfl, rfl⟩, hw⟩ := otr102 h
  exact ⟨⟨v0, v1, v2, v3, v4⟩, rfl, hw⟩
theorem fieldsN1 {H : Type} {enc : TypeId × Value → H} {P : Program} {w : World} {base : Nat} {spare : Nat → Bool} {held : Bool} {t : TypeId} {f0 : Field} {fuel : Nat} {cs : List Value} {x : DataW H × List MemPlace} (hs : P.underlying t = some (.struct #[f0])) (h : DataW.trod enc P w base spare held fuel t cs = some x) : ∃ (n : Nat) (y0 : DataW H × List MemPlace), cs.length = P.cellsOf t ∧ DataW.trod enc P w base spare held n f0.type ((cs.drop f0.offset).take (P.cellsOf f0.type)) = some y0 := by
 obtain ⟨xs, n, _, _, hl, hlen, hf⟩ := DataW.trod_struct hs h
 match xs, hlen with
 | [y0], _ => exact ⟨n, y0, hl, hf 0 f0 rfl⟩
theorem oc24 : Tryz.prog.cellsOf 24 = 1 := by kernel_rfl
theorem oc26 : Tryz.prog.cellsOf 26 = 1 := by kernel_rfl
theorem open_reg {H : Type} {enc : TypeId × Value → H} {W : World} {b0 : Nat} {v : Value} {d : DataW H} {p : List MemPlace} (hok : Value.okWide Tryz.prog W .any b0 26 v) (h : DataW.Trod enc Tryz.prog W 0 (fun _ => true) true 26 v d p) :
  ∃ A c l, v = .agg #[.slice A (List.length (α := En) l) c] ∧ l.length ≤ c ∧ c ≤ maxLen ∧ Reads W W.heap.size 5 A l.length (flat En.cells l) ∧ ∀ r ∈ l, r.Wf := by
 obtain ⟨cs, rfl, hsz⟩ := okWide_struct Tryz.underlying26 hok
 obtain ⟨fuel, hf⟩ := h
 have hsz2 : cs.size = 1 := by rw [hsz, oc26]
 obtain ⟨n, y, hl, hs⟩ := fieldsN1 Tryz.underlying26 hf
 obtain ⟨c0, hc0⟩ : ∃ c0, cs.toList = [c0] := by
  match h9 : cs.toList with
  | [c] => exact ⟨c, rfl⟩
  | [] => have := congrArg List.length h9; simp [hsz2] at this
  | a :: b :: t => have := congrArg List.length h9; simp [hsz2] at this
 have e1 : (Value.agg cs).cells.toList = cs.toList := rfl
 rw [e1, hc0] at hs
 dsimp only at hs
 rw [oc24] at hs
 have hs2 : DataW.trod enc Tryz.prog W 0 (fun _ => true) true n 24 [c0] = some y := hs
 have ecs : cs = #[c0] := by rw [← hc0]
 subst ecs
 rcases DataW.trod_slice Tryz.underlying24 hs2 with ⟨hcs, _⟩ | ⟨a, len, cap, elems, rest, n, _, hcs, _, _, hlc, hcm, hel, hget, _, _⟩
 ·simp at hcs
  subst hcs
  exact ⟨none, 0, [], rfl, Nat.le_refl _, Nat.zero_le _, ⟨rfl, fun h => absurd h (by decide)⟩, fun r hr => by cases hr⟩
 ·simp at hcs
  subst hcs
  have key : ∀ i, i < len → ∃ r : En, W.cells? 0 (a.add (i * 5)) 5 = some r.cells ∧ r.Wf := fun i hi => by
   have hi2 := hget i hi
   rw [oc102, List.getElem?_eq_getElem (by omega), Option.bind_eq_some_iff] at hi2
   obtain ⟨cs, h1, h2⟩ := hi2
   obtain ⟨r, rfl, ho⟩ := en_trod h2
   exact ⟨r, h1, ho⟩
  obtain ⟨l, h1, h2, h3⟩ := pick_all key len (Nat.le_refl _)
  subst h1
  refine ⟨some a, cap, l, rfl, hlc, hcm, ⟨flat_len en_cel l, fun hn => ⟨a, rfl, ?_, fun j u hu => ?_⟩⟩, h2⟩
  ·have h4 := cell_of_cells (h3 0 l[0] (List.getElem?_eq_getElem hn)) 0 _ rfl
   have := World.block_lt_of_cell? W _ h4
   rwa [block_of_add, block_of_add] at this
  ·have hj : j < l.length * 5 := by have := (List.getElem?_eq_some_iff.1 hu).1; rwa [flat_len en_cel] at this
   have hi : j / 5 < l.length := by omega
   have h4 := flat_ix en_cel (List.getElem?_eq_getElem hi) (j % 5) (by omega)
   rw [show j / 5 * 5 + j % 5 = j by omega, hu] at h4
   have h5 := cell_of_cells (h3 _ _ (List.getElem?_eq_getElem hi)) (j % 5) u h4.symm
   rw [Addr.add_add, show j / 5 * 5 + j % 5 = j by omega] at h5
   exact h5
theorem Rs.Wf.ok {r : Rs} (h : r.Wf) : r.Ok := by
 unfold Rs.Wf at h
 have h1 := wf_u32 h.2.2.2.2.1
 have h2 := wf_u32 (x := r.src) (by obtain ⟨_, _, _, _, _, _, _, _, _, h9, _⟩ := h; exact h9)
 exact ⟨h1.1, h1.2, h2.1, h2.2⟩
theorem En.Wf.ok {r : En} (h : r.Wf) : r.Ok := wf_u32 h.1
theorem Rp.Wf.ok {r : Rp} (h : r.Wf) : r.Ok := by
 unfold Rp.Wf at h
 exact wf_u32 h.2.2.1
end Go.Proofs.YtijmpjfafpodhaaGreat
