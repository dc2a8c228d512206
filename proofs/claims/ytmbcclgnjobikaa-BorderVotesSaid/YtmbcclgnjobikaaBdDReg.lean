/-
  Registries that are drawn (chapter 33).
-/
import Derived.Test.YtmbcclgnjobikaaBdRad
namespace Go.Proofs.Ytmbcclgnjobikaa
open Go.RowKit
set_option linter.unusedVariables false
set_option linter.unusedSimpArgs false
set_option maxRecDepth 20000
theorem bdrzv34 (w : World) : (zeroValue 34).run Try.prog w = .ok (.agg #[.slice none 0 0]) w := rfl
theorem bdrnm8 : (Try.f8.name == "runtime.NumGoroutine") = false := by decide
theorem bdrbd8 : Try.f8.body.isNone = false := rfl
theorem bdrag34 (w : World) : (isAgg 34).run Try.prog w = .ok true w := rfl
theorem bdrsz34 (w : World) : (sizeOf 34).run Try.prog w = .ok 1 w := rfl
theorem bdrnm22 : (Try.f22.name == "runtime.NumGoroutine") = false := by decide
theorem bdrbd22 : Try.f22.body.isNone = false := rfl
theorem bdrnm21 : (Try.f21.name == "runtime.NumGoroutine") = false := by decide
theorem bdrbd21 : Try.f21.body.isNone = false := rfl
theorem bdrone_s {a0 : Option Addr} {n0 c0 : Nat} : ∀ u ∈ [(.slice a0 n0 c0 : Value)], u.oneCell' = true := by
  intro u hu
  rw [List.mem_singleton] at hu
  subst hu; rfl
set_option maxHeartbeats 1000000 in
theorem registry_cod (cb : Nat) (w : World) (hC : Cod w cb) (m : Nat) (hm : m ≤ 100) :
    Calls Try.prog 13 #[.pointer (some ⟨cb, 0, none⟩), .int .i64 ((m : Nat) : Int)] w fun e w' => ∃ x : {y : (Option Addr × Nat) × List En // (∀ e ∈ y.2, EnG e) ∧ y.2.length ≤ m ∧ y.2.length ≤ y.1.2 ∧ y.1.2 ≤ maxLen}, e = .returned (.agg #[.slice x.1.1.1 x.1.2.length x.1.1.2]) ∧ Codr (fun w => Cod w cb) cb w ([.row (.slice x.1.1.1 x.1.2.length x.1.1.2) 45 5 x.1.2.length (flat En.cells x.1.2)]) w' := by
  refine begin_ (vs := [.pointer (some ⟨cb, 0, none⟩), .int .i64 ((m : Nat) : Int)]) (I := Pm ⟨w, cb⟩ (.abs cb (fun w => Cod w cb) :: oths cb w)) Try.func13 rfl rfl rfl ?_ (Pm.codes hC (cod_cells hC) (cod_stab cb))
  refine TC.seq_ ?_
  refine TC.region ?_
  refine TL.pnew rfl rfl rfl (exec_alloc (cs := [.slice none 0 0]) rfl bdrzv34 rfl) (fun g4 => ?_)
  refine TL.end_ ?_
  refine TX.then_ ?_
  refine TC.seq_ ?_
  refine TC.region ?_
  refine TL.pnew rfl rfl rfl (exec_alloc (cs := [.slice none 0 0]) rfl bdrzv34 rfl) (fun g5 => ?_)
  refine TL.end_ ?_
  refine TX.then_ ?_
  refine TC.seq_ ?_
  refine TC.seq_ ?_
  refine TC.region ?_
  refine TL.val rfl rfl rfl (gives_move rfl rfl) ?_
  refine TL.val rfl rfl rfl (gives_move rfl rfl) ?_
  refine TL.val rfl rfl rfl (gives_bin rfl rfl rfl (fun w => bin_add_ (r := ((m + 1 : Nat) : Int)) (by simp only [IntKind.wrap_i64]; omega) w)) ?_
  refine TL.pcallCod (k := 2) (α := {q9 : Nat // q9 ≤ 65535 ∧ (1 ≤ (((m + 1 : Nat) : Int) : Int) → (q9 : Int) < ((m + 1 : Nat) : Int))}) (fun q9 => .int .i64 ((q9.1 : Nat) : Int)) (fun q9 => []) rfl rfl rfl rfl rfl Try.func8 bdrnm8 bdrbd8 rfl (fun w1 hw hC1 => next_cod cb w1 ((m + 1 : Nat) : Int) hC1) ?_
  rintro ⟨k0, hk01, hk02⟩
  dsimp only [List.cons_append, List.nil_append]
  refine TL.val rfl rfl rfl (gives_assign rfl rfl) ?_
  refine TL.end_ ?_
  refine TX.then_ ?_
  refine TC.block ?_
  refine TC.nilrow 45 5 ?_
  refine TC.loop_ (α := {y : Nat × (Option Addr × Nat) × List En // y.1 + y.2.2.length ≤ m ∧ (∀ e ∈ y.2.2, EnG e) ∧ y.2.2.length ≤ y.2.1.2 ∧ y.2.1.2 ≤ maxLen}) (fun y => [(0, .pointer (some ⟨cb, 0, none⟩)), (4, .pointer (some ⟨g4, 0, none⟩)), (5, .pointer (some ⟨g5, 0, none⟩)), (6, .int .i64 ((y.1.1 : Nat) : Int))]) (fun y => Pm ⟨w, cb⟩ ([.row (.slice y.1.2.1.1 y.1.2.2.length y.1.2.1.2) 45 5 y.1.2.2.length (flat En.cells y.1.2.2), .blk g5 34 [.slice y.1.2.1.1 y.1.2.2.length y.1.2.1.2], .blk g4 34 [.slice none 0 0], .abs cb (fun w => Cod w cb)] ++ oths cb w)) (fun y => y.1.1) (⟨(k0, (none, 0), []), by dsimp only [List.length_nil]; omega, fun e he => absurd he List.not_mem_nil, Nat.le_refl _, Nat.zero_le _⟩) ⟨rfl, rfl, rfl, rfl, trivial⟩ (fun w1 hw => hw) ?_
  rintro ⟨⟨k, ⟨A, c⟩, es⟩, hk, hEn, hoc, hom⟩
  dsimp only at hk hEn hoc hom ⊢
  refine TC.seq_ ?_
  refine TC.seq_ ?_
  refine TC.region ?_
  refine TL.val rfl rfl rfl (gives_move rfl rfl) ?_
  refine TL.vsplit rfl rfl rfl (gives_bin rfl rfl rfl (fun w => bin_gtr w)) (fun h14 => ?_) (fun h14 => ?_)
  · have q14 := of_decide_eq_true h14
    refine TL.end_ ?_
    refine TX.then_ ?_
    refine TC.condT rfl ?_
    refine TC.skip_ ?_
    refine TX.then_ ?_
    refine TC.seq_ ?_
    refine TC.block ?_
    refine TC.join (α := {y : Nat × (Option Addr × Nat) × List En × Int // (y.2.2.2 = 0 → (∀ e ∈ y.2.2.1, EnG e) ∧ y.2.2.1.length ≤ es.length + 1) ∧ y.2.2.1.length ≤ y.2.1.2 ∧ y.2.1.2 ≤ maxLen}) (fun y => [(0, .pointer (some ⟨cb, 0, none⟩)), (4, .pointer (some ⟨g4, 0, none⟩)), (5, .pointer (some ⟨g5, 0, none⟩)), (6, .int .i64 ((k : Nat) : Int)), (7, .pointer (some ⟨y.1.1, 0, none⟩)), (8, .int .i64 y.1.2.2.2)]) (fun y => Pm ⟨w, cb⟩ ([.row (.slice y.1.2.1.1 y.1.2.2.1.length y.1.2.1.2) 45 5 y.1.2.2.1.length (flat En.cells y.1.2.2.1), .blk y.1.1 34 [.slice y.1.2.1.1 y.1.2.2.1.length y.1.2.1.2], .row (.slice A es.length c) 45 5 es.length (flat En.cells es), .blk g5 34 [.slice A es.length c], .blk g4 34 [.slice none 0 0], .abs cb (fun w => Cod w cb)] ++ oths cb w)) ?_ ?_
    · refine TC.held (ls := #[false, false, false, false, false, false, false, false, false, false]) (Pm ⟨w, cb⟩ [.blk g5 34 [.slice A es.length c]]) (by kernel_rfl) rfl rfl (fun w hw => hw.drawn _) ?_
      refine TH.take (listed' := #[true, false, false, false, false, false, false, false, false, false]) 0 rfl (by kernel_rfl) (by kernel_rfl) (by kernel_rfl) rfl rfl rfl rfl (pm_loadV (k := 0) (i := 0) (n := 1) (v := .agg #[.slice A es.length c]) rfl rfl bdrag34 bdrsz34 rfl (by show 1 ≤ 1; decide) rfl) (fun w1 hw => hw.pick [1] (by decide) rfl) ?_
      refine TH.take (listed' := #[true, true, false, false, false, false, false, false, false, false]) 1 rfl (by kernel_rfl) (by kernel_rfl) (by kernel_rfl) rfl rfl rfl rfl (gives_move rfl rfl) (fun w1 hw => hw.pick [1] (by decide) rfl) ?_
      refine TH.two' (listed1 := #[true, true, true, false, false, false, false, false, false, false]) (listed2 := #[true, true, false, false, false, false, false, true, false, false]) 2 7 rfl rfl (by kernel_rfl) rfl rfl ?_ ?_
      · refine TL.pcallCod (k := 3) (α := {y : En // EnG y}) (fun x => .agg (x.1.cells).toArray) (fun x => []) rfl rfl rfl rfl rfl Try.func22 bdrnm22 bdrbd22 rfl (fun w1 hw hC1 => entry_cod cb w1 hC1) ?_
        rintro ⟨x20, hx20⟩
        dsimp only [List.cons_append, List.nil_append]
        refine TL.end_ ?_
        refine TX.held (fun w1 hw => hw.pick [1] (by decide) rfl) ?_
        refine TH.two' (listed1 := #[true, true, true, true, false, false, false, false, false, false]) (listed2 := #[true, true, true, false, false, false, false, true, false, false]) 3 7 rfl rfl (by kernel_rfl) rfl rfl ?_ ?_
        · refine TL.pcallPm (α := {y : (Option Addr × Nat) × List En × Int // (y.2.2 = 0 → ∀ z ∈ y.2.1, z ∈ es ∨ z = x20) ∧ y.2.1.length ≤ es.length + 1 ∧ y.2.1.length ≤ y.1.2 ∧ y.1.2 ≤ maxLen}) (fun y => .tuple #[.agg #[.slice y.1.1.1 y.1.2.1.length y.1.1.2], .int .i64 y.1.2.2]) (fun y => [.row (.slice y.1.1.1 y.1.2.1.length y.1.1.2) 45 5 y.1.2.1.length (flat En.cells y.1.2.1)]) rfl rfl rfl rfl rfl Try.func21 bdrnm21 bdrbd21 (fun w1 hw => radd_any A c es x20 hx20.ok w1 (pm_rd hw (k := 0) rfl) (by omega) hoc (fun z hz => (hEn z hz).ok)) ?_
          rintro ⟨⟨⟨Ar, cr⟩, rs, er⟩, hrs, hrl, hrc, hrd⟩
          dsimp only [List.cons_append, List.nil_append] at hrs hrl hrc hrd ⊢
          refine TL.end_ ?_
          refine TX.held (fun w1 hw => hw.pick [2] (by decide) rfl) ?_
          refine TH.take (listed' := #[true, true, true, true, true, false, false, false, false, false]) 4 rfl (by kernel_rfl) (by kernel_rfl) (by kernel_rfl) rfl rfl rfl rfl (gives_move rfl rfl) (fun w1 hw => hw.pick [2] (by decide) rfl) ?_
          refine TH.take (listed' := #[true, true, true, true, true, true, false, false, false, false]) 5 rfl (by kernel_rfl) (by kernel_rfl) (by kernel_rfl) rfl rfl rfl rfl (gives_extract rfl rfl rfl) (fun w1 hw => hw.pick [2] (by decide) rfl) ?_
          refine TH.take (listed' := #[true, true, true, true, true, true, true, false, false, false]) 6 rfl (by kernel_rfl) (by kernel_rfl) (by kernel_rfl) rfl rfl rfl rfl (gives_extract rfl rfl rfl) (fun w1 hw => hw.pick [2] (by decide) rfl) ?_
          refine TH.only' (listed' := #[true, true, true, true, true, true, true, true, false, false]) 7 rfl (by kernel_rfl) rfl ?_
          refine TL.pnew rfl rfl rfl (exec_alloc (cs := [.slice none 0 0]) rfl bdrzv34 rfl) (fun g7 => ?_)
          refine TL.end_ ?_
          refine TX.held (fun w1 hw => hw.pick [3] (by decide) rfl) ?_
          refine TH.only' (listed' := #[true, true, true, true, true, true, true, true, true, false]) 8 rfl (by kernel_rfl) rfl ?_
          refine TL.pstore (k := 0) (vs := [.slice Ar rs.length cr]) rfl rfl rfl rfl rfl rfl rfl bdrsz34 bdrone_s (by show 1 ≤ 1; decide) (L' := ([.blk g7 34 [.slice Ar rs.length cr], .row (.slice Ar rs.length cr) 45 5 rs.length (flat En.cells rs), .row (.slice A es.length c) 45 5 es.length (flat En.cells es), .blk g5 34 [.slice A es.length c], .blk g4 34 [.slice none 0 0], .abs cb (fun w => Cod w cb)] ++ oths cb w)) rfl ?_
          refine TL.end_ ?_
          refine TX.held (fun w1 hw => hw.pick [3] (by decide) rfl) ?_
          refine TH.take (listed' := #[true, true, true, true, true, true, true, true, true, true]) 9 rfl (by kernel_rfl) (by kernel_rfl) (by kernel_rfl) rfl rfl rfl rfl (gives_assign rfl rfl) (fun w1 hw => hw.pick [3] (by decide) rfl) ?_
          refine TH.done (by kernel_rfl) ?_
          exact TX.joined (⟨(g7, (Ar, cr), rs, er), fun h0 => ⟨fun e he => (hrs h0 e he).elim (hEn e) (fun h1 => by rw [h1]; exact hx20), hrl⟩, hrc, hrd⟩) (⟨rfl, rfl, rfl, rfl, rfl, rfl, trivial⟩) (fun w1 hw => (show Pm ⟨w, cb⟩ ([.row (.slice Ar rs.length cr) 45 5 rs.length (flat En.cells rs), .blk g7 34 [.slice Ar rs.length cr], .row (.slice A es.length c) 45 5 es.length (flat En.cells es), .blk g5 34 [.slice A es.length c], .blk g4 34 [.slice none 0 0], .abs cb (fun w => Cod w cb)] ++ oths cb w) w1 from hw.pickT 6 [1, 0, 2, 3, 4, 5] (by decide) (by decide) rfl rfl))
        · refine TL.pnew rfl rfl rfl (exec_alloc (cs := [.slice none 0 0]) rfl bdrzv34 rfl) (fun g7 => ?_)
          refine TL.end_ ?_
          refine TX.held (fun w1 hw => hw.pick [2] (by decide) rfl) ?_
          refine TH.only' (listed' := #[true, true, true, true, false, false, false, true, false, false]) 3 rfl (by kernel_rfl) rfl ?_
          refine TL.pcallPm (α := {y : (Option Addr × Nat) × List En × Int // (y.2.2 = 0 → ∀ z ∈ y.2.1, z ∈ es ∨ z = x20) ∧ y.2.1.length ≤ es.length + 1 ∧ y.2.1.length ≤ y.1.2 ∧ y.1.2 ≤ maxLen}) (fun y => .tuple #[.agg #[.slice y.1.1.1 y.1.2.1.length y.1.1.2], .int .i64 y.1.2.2]) (fun y => [.row (.slice y.1.1.1 y.1.2.1.length y.1.1.2) 45 5 y.1.2.1.length (flat En.cells y.1.2.1)]) rfl rfl rfl rfl rfl Try.func21 bdrnm21 bdrbd21 (fun w1 hw => radd_any A c es x20 hx20.ok w1 (pm_rd hw (k := 1) rfl) (by omega) hoc (fun z hz => (hEn z hz).ok)) ?_
          rintro ⟨⟨⟨Ar, cr⟩, rs, er⟩, hrs, hrl, hrc, hrd⟩
          dsimp only [List.cons_append, List.nil_append] at hrs hrl hrc hrd ⊢
          refine TL.end_ ?_
          refine TX.held (fun w1 hw => hw.pick [3] (by decide) rfl) ?_
          refine TH.take (listed' := #[true, true, true, true, true, false, false, true, false, false]) 4 rfl (by kernel_rfl) (by kernel_rfl) (by kernel_rfl) rfl rfl rfl rfl (gives_move rfl rfl) (fun w1 hw => hw.pick [3] (by decide) rfl) ?_
          refine TH.take (listed' := #[true, true, true, true, true, true, false, true, false, false]) 5 rfl (by kernel_rfl) (by kernel_rfl) (by kernel_rfl) rfl rfl rfl rfl (gives_extract rfl rfl rfl) (fun w1 hw => hw.pick [3] (by decide) rfl) ?_
          refine TH.take (listed' := #[true, true, true, true, true, true, true, true, false, false]) 6 rfl (by kernel_rfl) (by kernel_rfl) (by kernel_rfl) rfl rfl rfl rfl (gives_extract rfl rfl rfl) (fun w1 hw => hw.pick [3] (by decide) rfl) ?_
          refine TH.only' (listed' := #[true, true, true, true, true, true, true, true, true, false]) 8 rfl (by kernel_rfl) rfl ?_
          refine TL.pstore (k := 1) (vs := [.slice Ar rs.length cr]) rfl rfl rfl rfl rfl rfl rfl bdrsz34 bdrone_s (by show 1 ≤ 1; decide) (L' := ([.row (.slice Ar rs.length cr) 45 5 rs.length (flat En.cells rs), .blk g7 34 [.slice Ar rs.length cr], .row (.slice A es.length c) 45 5 es.length (flat En.cells es), .blk g5 34 [.slice A es.length c], .blk g4 34 [.slice none 0 0], .abs cb (fun w => Cod w cb)] ++ oths cb w)) rfl ?_
          refine TL.end_ ?_
          refine TX.held (fun w1 hw => hw.pick [3] (by decide) rfl) ?_
          refine TH.take (listed' := #[true, true, true, true, true, true, true, true, true, true]) 9 rfl (by kernel_rfl) (by kernel_rfl) (by kernel_rfl) rfl rfl rfl rfl (gives_assign rfl rfl) (fun w1 hw => hw.pick [3] (by decide) rfl) ?_
          refine TH.done (by kernel_rfl) ?_
          exact TX.joined (⟨(g7, (Ar, cr), rs, er), fun h0 => ⟨fun e he => (hrs h0 e he).elim (hEn e) (fun h1 => by rw [h1]; exact hx20), hrl⟩, hrc, hrd⟩) (⟨rfl, rfl, rfl, rfl, rfl, rfl, trivial⟩) (fun w1 hw => hw)
      · refine TL.pnew rfl rfl rfl (exec_alloc (cs := [.slice none 0 0]) rfl bdrzv34 rfl) (fun g7 => ?_)
        refine TL.end_ ?_
        refine TX.held (fun w1 hw => hw.pick [2] (by decide) rfl) ?_
        refine TH.only' (listed' := #[true, true, true, false, false, false, false, true, false, false]) 2 rfl (by kernel_rfl) rfl ?_
        refine TL.pcallCod (k := 4) (α := {y : En // EnG y}) (fun x => .agg (x.1.cells).toArray) (fun x => []) rfl rfl rfl rfl rfl Try.func22 bdrnm22 bdrbd22 rfl (fun w1 hw hC1 => entry_cod cb w1 hC1) ?_
        rintro ⟨x20, hx20⟩
        dsimp only [List.cons_append, List.nil_append]
        refine TL.end_ ?_
        refine TX.held (fun w1 hw => hw.pick [2] (by decide) rfl) ?_
        refine TH.only' (listed' := #[true, true, true, true, false, false, false, true, false, false]) 3 rfl (by kernel_rfl) rfl ?_
        refine TL.pcallPm (α := {y : (Option Addr × Nat) × List En × Int // (y.2.2 = 0 → ∀ z ∈ y.2.1, z ∈ es ∨ z = x20) ∧ y.2.1.length ≤ es.length + 1 ∧ y.2.1.length ≤ y.1.2 ∧ y.1.2 ≤ maxLen}) (fun y => .tuple #[.agg #[.slice y.1.1.1 y.1.2.1.length y.1.1.2], .int .i64 y.1.2.2]) (fun y => [.row (.slice y.1.1.1 y.1.2.1.length y.1.1.2) 45 5 y.1.2.1.length (flat En.cells y.1.2.1)]) rfl rfl rfl rfl rfl Try.func21 bdrnm21 bdrbd21 (fun w1 hw => radd_any A c es x20 hx20.ok w1 (pm_rd hw (k := 1) rfl) (by omega) hoc (fun z hz => (hEn z hz).ok)) ?_
        rintro ⟨⟨⟨Ar, cr⟩, rs, er⟩, hrs, hrl, hrc, hrd⟩
        dsimp only [List.cons_append, List.nil_append] at hrs hrl hrc hrd ⊢
        refine TL.end_ ?_
        refine TX.held (fun w1 hw => hw.pick [3] (by decide) rfl) ?_
        refine TH.take (listed' := #[true, true, true, true, true, false, false, true, false, false]) 4 rfl (by kernel_rfl) (by kernel_rfl) (by kernel_rfl) rfl rfl rfl rfl (gives_move rfl rfl) (fun w1 hw => hw.pick [3] (by decide) rfl) ?_
        refine TH.take (listed' := #[true, true, true, true, true, true, false, true, false, false]) 5 rfl (by kernel_rfl) (by kernel_rfl) (by kernel_rfl) rfl rfl rfl rfl (gives_extract rfl rfl rfl) (fun w1 hw => hw.pick [3] (by decide) rfl) ?_
        refine TH.take (listed' := #[true, true, true, true, true, true, true, true, false, false]) 6 rfl (by kernel_rfl) (by kernel_rfl) (by kernel_rfl) rfl rfl rfl rfl (gives_extract rfl rfl rfl) (fun w1 hw => hw.pick [3] (by decide) rfl) ?_
        refine TH.only' (listed' := #[true, true, true, true, true, true, true, true, true, false]) 8 rfl (by kernel_rfl) rfl ?_
        refine TL.pstore (k := 1) (vs := [.slice Ar rs.length cr]) rfl rfl rfl rfl rfl rfl rfl bdrsz34 bdrone_s (by show 1 ≤ 1; decide) (L' := ([.row (.slice Ar rs.length cr) 45 5 rs.length (flat En.cells rs), .blk g7 34 [.slice Ar rs.length cr], .row (.slice A es.length c) 45 5 es.length (flat En.cells es), .blk g5 34 [.slice A es.length c], .blk g4 34 [.slice none 0 0], .abs cb (fun w => Cod w cb)] ++ oths cb w)) rfl ?_
        refine TL.end_ ?_
        refine TX.held (fun w1 hw => hw.pick [3] (by decide) rfl) ?_
        refine TH.take (listed' := #[true, true, true, true, true, true, true, true, true, true]) 9 rfl (by kernel_rfl) (by kernel_rfl) (by kernel_rfl) rfl rfl rfl rfl (gives_assign rfl rfl) (fun w1 hw => hw.pick [3] (by decide) rfl) ?_
        refine TH.done (by kernel_rfl) ?_
        exact TX.joined (⟨(g7, (Ar, cr), rs, er), fun h0 => ⟨fun e he => (hrs h0 e he).elim (hEn e) (fun h1 => by rw [h1]; exact hx20), hrl⟩, hrc, hrd⟩) (⟨rfl, rfl, rfl, rfl, rfl, rfl, trivial⟩) (fun w1 hw => hw)
    · rintro ⟨⟨g7, ⟨Ar, cr⟩, rs, er⟩, hrs, hrc, hrd⟩
      dsimp only at hrs hrc hrd ⊢
      refine TC.seq_ ?_
      refine TC.region ?_
      refine TL.val rfl rfl rfl (gives_move rfl rfl) ?_
      refine TL.vsplit rfl rfl rfl (gives_bin rfl rfl rfl (fun w => bin_eql w)) (fun h25 => ?_) (fun h25 => ?_)
      · have q25 := of_decide_eq_true h25
        refine TL.end_ ?_
        refine TX.then_ ?_
        refine TC.condT rfl ?_
        refine TC.region ?_
        refine TL.val rfl rfl rfl (pm_loadV (k := 1) (i := 0) (n := 1) (v := .agg #[.slice Ar rs.length cr]) rfl rfl bdrag34 bdrsz34 rfl (by show 1 ≤ 1; decide) rfl) ?_
        refine TL.pstore (k := 3) (vs := [.slice Ar rs.length cr]) rfl rfl rfl rfl rfl rfl rfl bdrsz34 bdrone_s (by show 1 ≤ 1; decide) (L' := ([.row (.slice Ar rs.length cr) 45 5 rs.length (flat En.cells rs), .blk g7 34 [.slice Ar rs.length cr], .row (.slice A es.length c) 45 5 es.length (flat En.cells es), .blk g5 34 [.slice Ar rs.length cr], .blk g4 34 [.slice none 0 0], .abs cb (fun w => Cod w cb)] ++ oths cb w)) rfl ?_
        refine TL.end_ ?_
        refine TX.in_normal ?_
        refine TX.then_ ?_
        refine TC.region ?_
        refine TL.val rfl rfl rfl (gives_move rfl rfl) ?_
        refine TL.val rfl rfl rfl (gives_bin rfl rfl rfl (fun w => bin_sub_ (r := ((k - 1 : Nat) : Int)) (by simp only [IntKind.wrap_i64]; omega) w)) ?_
        refine TL.val rfl rfl rfl (gives_assign rfl rfl) ?_
        refine TL.end_ ?_
        exact TX.round (⟨(k - 1, (Ar, cr), rs), by dsimp only; have := (hrs q25).2; omega, (hrs q25).1, hrc, hrd⟩) (by show k - 1 < k; omega) ⟨rfl, rfl, rfl, rfl, trivial⟩ (fun w1 hw => hw.sel (.cons_cons _ (.cons _ (.cons _ (.cons_cons _ (.cons_cons _ (.cons_cons _ (List.Sublist.refl _))))))))
      · have q25 := of_decide_eq_false h25
        refine TL.end_ ?_
        refine TX.then_ ?_
        refine TC.condF rfl ?_
        refine TC.skip_ ?_
        refine TX.in_normal ?_
        refine TX.then_ ?_
        refine TC.region ?_
        refine TL.val rfl rfl rfl (gives_move rfl rfl) ?_
        refine TL.val rfl rfl rfl (gives_bin rfl rfl rfl (fun w => bin_sub_ (r := ((k - 1 : Nat) : Int)) (by simp only [IntKind.wrap_i64]; omega) w)) ?_
        refine TL.val rfl rfl rfl (gives_assign rfl rfl) ?_
        refine TL.end_ ?_
        exact TX.round (⟨(k - 1, (A, c), es), by dsimp only; omega, hEn, hoc, hom⟩) (by show k - 1 < k; omega) ⟨rfl, rfl, rfl, rfl, trivial⟩ (fun w1 hw => hw.sel (.cons _ (.cons _ (.cons_cons _ (.cons_cons _ (.cons_cons _ (.cons_cons _ (List.Sublist.refl _))))))))
  · have q14 := of_decide_eq_false h14
    refine TL.end_ ?_
    refine TX.then_ ?_
    refine TC.condF rfl ?_
    refine TC.exit_ ?_
    refine TX.then_exit ?_
    refine TX.then_exit ?_
    refine TX.in_same ?_
    refine TX.then_ ?_
    refine TC.seq_ ?_
    refine TC.region ?_
    refine TL.val rfl rfl rfl (pm_loadV (k := 1) (i := 0) (n := 1) (v := .agg #[.slice A es.length c]) rfl rfl bdrag34 bdrsz34 rfl (by show 1 ≤ 1; decide) rfl) ?_
    refine TL.pstore (k := 2) (vs := [.slice A es.length c]) rfl rfl rfl rfl rfl rfl rfl bdrsz34 bdrone_s (by show 1 ≤ 1; decide) (L' := ([.row (.slice A es.length c) 45 5 es.length (flat En.cells es), .blk g5 34 [.slice A es.length c], .blk g4 34 [.slice A es.length c], .abs cb (fun w => Cod w cb)] ++ oths cb w)) rfl ?_
    refine TL.end_ ?_
    refine TX.then_ ?_
    refine TC.ret_ ?_
    exact pm_ret_cell (k := 2) Try.results13 rfl rfl Try.underlying34 rfl rfl (fun w1 hw => ⟨⟨((A, c), es), hEn, by dsimp only; omega, hoc, hom⟩, rfl, Pm.codr [_] (hw.sel (.cons_cons _ (.cons _ (.cons _ (.cons_cons _ (List.Sublist.refl _)))))) rfl⟩)
end Go.Proofs.Ytmbcclgnjobikaa
