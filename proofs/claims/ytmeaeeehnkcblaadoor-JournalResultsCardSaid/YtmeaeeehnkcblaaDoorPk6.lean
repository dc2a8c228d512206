/-
  Texts of the proof, joined: OpenRes.
-/
import Derived.Test.YtmeaeeehnkcblaaDoorPk3
import Derived.Test.YtmeaeeehnkcblaaDoorPk1
import Derived.DataElems
namespace Go.Proofs.YtmeaeeehnkcblaaDoor
open Go.ChangeShapes Go.WideShapes Go.RowKit
set_option linter.unusedVariables false
set_option linter.unusedSimpArgs false
set_option linter.constructorNameAsVariable false
set_option maxRecDepth 20000
theorem cell_of_cells {w : World} {base n : Nat} {a : Addr} {cs : List Value} (h : w.cells? base a n = some cs) (j : Nat) (u : Value) (hu : cs[j]? = some u) : w.cell? (a.add j) = some u := by
  unfold World.cells? at h
  split at h
  · have hl := mapM_some_length h
    have hj := (List.getElem?_eq_some_iff.1 hu).1
    rw [List.length_range] at hl
    have := mapM_some_get h j j (by rw [List.getElem?_range (by omega)])
    exact this.trans hu
  · cases h
theorem fields6 {H : Type} {enc : TypeId × Value → H} {P : Program} {w : World} {base : Nat} {spare : Nat → Bool} {held : Bool} {t : TypeId} {f0 f1 f2 f3 f4 f5 : Field} {fuel : Nat} {cs : List Value} {x : DataW H × List MemPlace} (hs : P.underlying t = some (.struct #[f0, f1, f2, f3, f4, f5])) (h : DataW.trod enc P w base spare held fuel t cs = some x) : ∃ (n : Nat) (y0 y1 y2 y3 y4 y5 : DataW H × List MemPlace), cs.length = P.cellsOf t ∧ DataW.trod enc P w base spare held n f0.type ((cs.drop f0.offset).take (P.cellsOf f0.type)) = some y0 ∧ DataW.trod enc P w base spare held n f1.type ((cs.drop f1.offset).take (P.cellsOf f1.type)) = some y1 ∧ DataW.trod enc P w base spare held n f2.type ((cs.drop f2.offset).take (P.cellsOf f2.type)) = some y2 ∧ DataW.trod enc P w base spare held n f3.type ((cs.drop f3.offset).take (P.cellsOf f3.type)) = some y3 ∧ DataW.trod enc P w base spare held n f4.type ((cs.drop f4.offset).take (P.cellsOf f4.type)) = some y4 ∧ DataW.trod enc P w base spare held n f5.type ((cs.drop f5.offset).take (P.cellsOf f5.type)) = some y5 := by
  obtain ⟨xs, n, _, _, hl, hlen, hf⟩ := DataW.trod_struct hs h
  match xs, hlen with
  | [y0, y1, y2, y3, y4, y5], _ => exact ⟨n, y0, y1, y2, y3, y4, y5, hl, hf 0 f0 rfl, hf 1 f1 rfl, hf 2 f2 rfl, hf 3 f3 rfl, hf 4 f4 rfl, hf 5 f5 rfl⟩
theorem fields12 {H : Type} {enc : TypeId × Value → H} {P : Program} {w : World} {base : Nat} {spare : Nat → Bool} {held : Bool} {t : TypeId} {f0 f1 f2 f3 f4 f5 f6 f7 f8 f9 f10 f11 : Field} {fuel : Nat} {cs : List Value} {x : DataW H × List MemPlace} (hs : P.underlying t = some (.struct #[f0, f1, f2, f3, f4, f5, f6, f7, f8, f9, f10, f11])) (h : DataW.trod enc P w base spare held fuel t cs = some x) : ∃ (n : Nat) (y0 y1 y2 y3 y4 y5 y6 y7 y8 y9 y10 y11 : DataW H × List MemPlace), cs.length = P.cellsOf t ∧ DataW.trod enc P w base spare held n f0.type ((cs.drop f0.offset).take (P.cellsOf f0.type)) = some y0 ∧ DataW.trod enc P w base spare held n f1.type ((cs.drop f1.offset).take (P.cellsOf f1.type)) = some y1 ∧ DataW.trod enc P w base spare held n f2.type ((cs.drop f2.offset).take (P.cellsOf f2.type)) = some y2 ∧ DataW.trod enc P w base spare held n f3.type ((cs.drop f3.offset).take (P.cellsOf f3.type)) = some y3 ∧ DataW.trod enc P w base spare held n f4.type ((cs.drop f4.offset).take (P.cellsOf f4.type)) = some y4 ∧ DataW.trod enc P w base spare held n f5.type ((cs.drop f5.offset).take (P.cellsOf f5.type)) = some y5 ∧ DataW.trod enc P w base spare held n f6.type ((cs.drop f6.offset).take (P.cellsOf f6.type)) = some y6 ∧ DataW.trod enc P w base spare held n f7.type ((cs.drop f7.offset).take (P.cellsOf f7.type)) = some y7 ∧ DataW.trod enc P w base spare held n f8.type ((cs.drop f8.offset).take (P.cellsOf f8.type)) = some y8 ∧ DataW.trod enc P w base spare held n f9.type ((cs.drop f9.offset).take (P.cellsOf f9.type)) = some y9 ∧ DataW.trod enc P w base spare held n f10.type ((cs.drop f10.offset).take (P.cellsOf f10.type)) = some y10 ∧ DataW.trod enc P w base spare held n f11.type ((cs.drop f11.offset).take (P.cellsOf f11.type)) = some y11 := by
  obtain ⟨xs, n, _, _, hl, hlen, hf⟩ := DataW.trod_struct hs h
  match xs, hlen with
  | [y0, y1, y2, y3, y4, y5, y6, y7, y8, y9, y10, y11], _ => exact ⟨n, y0, y1, y2, y3, y4, y5, y6, y7, y8, y9, y10, y11, hl, hf 0 f0 rfl, hf 1 f1 rfl, hf 2 f2 rfl, hf 3 f3 rfl, hf 4 f4 rfl, hf 5 f5 rfl, hf 6 f6 rfl, hf 7 f7 rfl, hf 8 f8 rfl, hf 9 f9 rfl, hf 10 f10 rfl, hf 11 f11 rfl⟩
section
variable {H : Type} {enc : TypeId × Value → H} {W : World} {base : Nat} {spare : Nat → Bool} {held : Bool}
theorem cInt : Tryd.prog.cellsOf 3 = 1 := by kernel_rfl
theorem cBool : Tryd.prog.cellsOf 4 = 1 := by kernel_rfl
theorem cAddr : Tryd.prog.cellsOf 23 = 1 := by kernel_rfl
theorem cAns : Tryd.prog.cellsOf 25 = 6 := by kernel_rfl
theorem cRes : Tryd.prog.cellsOf 27 = 17 := by kernel_rfl
theorem ans_trod {fuel : Nat} {c0 c1 c2 c3 c4 c5 : Value} {x : DataW H × List MemPlace} (h : DataW.trod enc Tryd.prog W base spare held fuel 25 [c0, c1, c2, c3, c4, c5] = some x) : ∃ (s k c l i q : Int), c0 = .int .u32 s ∧ c1 = .int .i64 k ∧ c2 = .int .i64 c ∧ c3 = .int .i64 l ∧ c4 = .int .i64 i ∧ c5 = .int .i64 q ∧ 0 ≤ s ∧ s ≤ 4294967295 := by
  obtain ⟨n, y0, y1, y2, y3, y4, y5, hl, h0, h1, h2, h3, h4, h5⟩ := fields6 Tryd.underlying25 h
  dsimp only at h0
  rw [cAddr] at h0
  obtain ⟨x0, qx0, _, wx0⟩ := DataW.trod_int (x := y0) Tryd.underlying23 h0
  have qx0 : [c0] = [Value.int .u32 x0] := qx0
  rw [List.cons.injEq] at qx0
  obtain ⟨rfl, _⟩ := qx0
  dsimp only at h1
  rw [cInt] at h1
  obtain ⟨x1, qx1, _, wx1⟩ := DataW.trod_int (x := y1) Tryd.underlying3 h1
  have qx1 : [c1] = [Value.int .i64 x1] := qx1
  rw [List.cons.injEq] at qx1
  obtain ⟨rfl, _⟩ := qx1
  dsimp only at h2
  rw [cInt] at h2
  obtain ⟨x2, qx2, _, wx2⟩ := DataW.trod_int (x := y2) Tryd.underlying3 h2
  have qx2 : [c2] = [Value.int .i64 x2] := qx2
  rw [List.cons.injEq] at qx2
  obtain ⟨rfl, _⟩ := qx2
  dsimp only at h3
  rw [cInt] at h3
  obtain ⟨x3, qx3, _, wx3⟩ := DataW.trod_int (x := y3) Tryd.underlying3 h3
  have qx3 : [c3] = [Value.int .i64 x3] := qx3
  rw [List.cons.injEq] at qx3
  obtain ⟨rfl, _⟩ := qx3
  dsimp only at h4
  rw [cInt] at h4
  obtain ⟨x4, qx4, _, wx4⟩ := DataW.trod_int (x := y4) Tryd.underlying3 h4
  have qx4 : [c4] = [Value.int .i64 x4] := qx4
  rw [List.cons.injEq] at qx4
  obtain ⟨rfl, _⟩ := qx4
  dsimp only at h5
  rw [cInt] at h5
  obtain ⟨x5, qx5, _, wx5⟩ := DataW.trod_int (x := y5) Tryd.underlying3 h5
  have qx5 : [c5] = [Value.int .i64 x5] := qx5
  rw [List.cons.injEq] at qx5
  obtain ⟨rfl, _⟩ := qx5
  exact ⟨x0, x1, x2, x3, x4, x5, rfl, rfl, rfl, rfl, rfl, rfl, (wf_u32 wx0).1, (wf_u32 wx0).2⟩
theorem res_trod {fuel : Nat} {cs : List Value} {x : DataW H × List MemPlace} (h : DataW.trod enc Tryd.prog W base spare held fuel 27 cs = some x) : ∃ r : Rs, cs = r.cells ∧ r.Ok := by
  obtain ⟨n, y0, y1, y2, y3, y4, y5, y6, y7, y8, y9, y10, y11, hl, h0, h1, h2, h3, h4, h5, h6, h7, h8, h9, h10, h11⟩ := fields12 Tryd.underlying27 h
  rw [cRes] at hl
  match cs, hl with
  | [c0, c1, c2, c3, c4, c5, c6, c7, c8, c9, c10, c11, c12, c13, c14, c15, c16], _ =>
    dsimp only at h0
    rw [cInt] at h0
    obtain ⟨x0, qx0, _, wx0⟩ := DataW.trod_int (x := y0) Tryd.underlying3 h0
    have qx0 : [c0] = [Value.int .i64 x0] := qx0
    rw [List.cons.injEq] at qx0
    obtain ⟨rfl, _⟩ := qx0
    dsimp only at h1
    rw [cInt] at h1
    obtain ⟨x1, qx1, _, wx1⟩ := DataW.trod_int (x := y1) Tryd.underlying3 h1
    have qx1 : [c1] = [Value.int .i64 x1] := qx1
    rw [List.cons.injEq] at qx1
    obtain ⟨rfl, _⟩ := qx1
    dsimp only at h2
    rw [cInt] at h2
    obtain ⟨x2, qx2, _, wx2⟩ := DataW.trod_int (x := y2) Tryd.underlying3 h2
    have qx2 : [c2] = [Value.int .i64 x2] := qx2
    rw [List.cons.injEq] at qx2
    obtain ⟨rfl, _⟩ := qx2
    dsimp only at h3
    rw [cInt] at h3
    obtain ⟨x3, qx3, _, wx3⟩ := DataW.trod_int (x := y3) Tryd.underlying3 h3
    have qx3 : [c3] = [Value.int .i64 x3] := qx3
    rw [List.cons.injEq] at qx3
    obtain ⟨rfl, _⟩ := qx3
    dsimp only at h4
    rw [cAddr] at h4
    obtain ⟨x4, qx4, _, wx4⟩ := DataW.trod_int (x := y4) Tryd.underlying23 h4
    have qx4 : [c4] = [Value.int .u32 x4] := qx4
    rw [List.cons.injEq] at qx4
    obtain ⟨rfl, _⟩ := qx4
    dsimp only at h5
    rw [cInt] at h5
    obtain ⟨x5, qx5, _, wx5⟩ := DataW.trod_int (x := y5) Tryd.underlying3 h5
    have qx5 : [c5] = [Value.int .i64 x5] := qx5
    rw [List.cons.injEq] at qx5
    obtain ⟨rfl, _⟩ := qx5
    dsimp only at h6
    rw [cInt] at h6
    obtain ⟨x6, qx6, _, wx6⟩ := DataW.trod_int (x := y6) Tryd.underlying3 h6
    have qx6 : [c6] = [Value.int .i64 x6] := qx6
    rw [List.cons.injEq] at qx6
    obtain ⟨rfl, _⟩ := qx6
    dsimp only at h7
    rw [cInt] at h7
    obtain ⟨x7, qx7, _, wx7⟩ := DataW.trod_int (x := y7) Tryd.underlying3 h7
    have qx7 : [c7] = [Value.int .i64 x7] := qx7
    rw [List.cons.injEq] at qx7
    obtain ⟨rfl, _⟩ := qx7
    dsimp only at h8
    rw [cBool] at h8
    obtain ⟨x8, qx8, _⟩ := DataW.trod_bool (x := y8) Tryd.underlying4 h8
    have qx8 : [c8] = [Value.bool x8] := qx8
    rw [List.cons.injEq] at qx8
    obtain ⟨rfl, _⟩ := qx8
    dsimp only at h9
    rw [cBool] at h9
    obtain ⟨x9, qx9, _⟩ := DataW.trod_bool (x := y9) Tryd.underlying4 h9
    have qx9 : [c9] = [Value.bool x9] := qx9
    rw [List.cons.injEq] at qx9
    obtain ⟨rfl, _⟩ := qx9
    dsimp only at h10
    rw [cInt] at h10
    obtain ⟨x10, qx10, _, wx10⟩ := DataW.trod_int (x := y10) Tryd.underlying3 h10
    have qx10 : [c10] = [Value.int .i64 x10] := qx10
    rw [List.cons.injEq] at qx10
    obtain ⟨rfl, _⟩ := qx10
    dsimp only at h11
    rw [cAns] at h11
    obtain ⟨s, k, c, l, i, q, rfl, rfl, rfl, rfl, rfl, rfl, hs0, hs1⟩ := ans_trod (x := y11) (c0 := c11) (c1 := c12) (c2 := c13) (c3 := c14) (c4 := c15) (c5 := c16) h11
    exact ⟨⟨x0, x1, x2, x3, x4, x5, x6, x7, x8, x9, x10, s, k, c, l, i, q⟩, rfl, (wf_u32 wx4).1, (wf_u32 wx4).2, hs0, hs1⟩
theorem open_res {r : Reach} {b0 : Nat} {v : Value} {d : DataW H} {p : List MemPlace} (hv : Value.okWide Tryd.prog W r b0 27 v) (h : DataW.Trod enc Tryd.prog W base spare held 27 v d p) : ∃ x : Rs, v = .agg x.cells.toArray ∧ x.Ok := by
  obtain ⟨cs, rfl, hsz⟩ := okWide_struct Tryd.underlying27 hv
  obtain ⟨fuel, hf⟩ := h
  obtain ⟨x, hx, ho⟩ := res_trod hf
  refine ⟨x, ?_, ho⟩
  have hx2 : cs.toList = x.cells := hx
  rw [← hx2]
end
theorem open_reslice {H : Type} {enc : TypeId × Value → H} {W : World} {b0 : Nat} {v : Value} {d : DataW H} {p : List MemPlace} (hok : Value.okWide Tryd.prog W .any b0 33 v) (h : DataW.Trod enc Tryd.prog W 0 (fun _ => true) true 33 v d p) :
    ∃ A c l, v = .slice A l.length c ∧ l.length ≤ c ∧ c ≤ maxLen ∧ Reads W W.heap.size 17 A l.length (rcs l) ∧ ∀ r ∈ l, r.Ok := by
  obtain ⟨a0, len0, cap0, rfl⟩ := okWide_slice Tryd.underlying33 hok
  obtain ⟨fuel, hf⟩ := h
  rcases DataW.trod_slice Tryd.underlying33 hf with ⟨hcs, _⟩ | ⟨a, len, cap, elems, rest, n, _, hcs, _, _, hlc, hcm, hel, hget, _, _⟩
  · simp [Value.cells] at hcs
    obtain ⟨rfl, rfl, rfl⟩ := hcs
    exact ⟨none, 0, [], rfl, Nat.le_refl _, Nat.zero_le _, ⟨rfl, fun h => absurd h (by decide)⟩, fun r hr => by cases hr⟩
  · simp [Value.cells] at hcs
    obtain ⟨rfl, rfl, rfl⟩ := hcs
    have key : ∀ i, i < len0 → ∃ r : Rs, W.cells? 0 (a.add (i * 17)) 17 = some r.cells ∧ r.Ok := fun i hi => by
      have hi2 := hget i hi
      rw [cRes, List.getElem?_eq_getElem (by omega), Option.bind_eq_some_iff] at hi2
      obtain ⟨cs, h1, h2⟩ := hi2
      obtain ⟨r, rfl, ho⟩ := res_trod h2
      exact ⟨r, h1, ho⟩
    have pick : ∀ m, m ≤ len0 → ∃ l : List Rs, l.length = m ∧ (∀ r ∈ l, r.Ok) ∧ ∀ i r, l[i]? = some r → W.cells? 0 (a.add (i * 17)) 17 = some r.cells := fun m => by
      induction m with
      | zero => exact fun _ => ⟨[], rfl, fun r hr => absurd hr List.not_mem_nil, fun i r hr => by simp at hr⟩
      | succ m ih =>
        intro hm
        obtain ⟨l, h1, h2, h3⟩ := ih (by omega)
        obtain ⟨r, h4, h5⟩ := key m (by omega)
        refine ⟨l ++ [r], by rw [List.length_append, h1]; rfl, fun q hq => (List.mem_append.1 hq).elim (h2 q) (fun h => by rw [List.mem_singleton] at h; subst h; exact h5), fun i q hq => ?_⟩
        rcases Nat.lt_or_ge i l.length with hi | hi
        · rw [List.getElem?_append_left hi] at hq; exact h3 i q hq
        · rw [List.getElem?_append_right hi] at hq
          obtain ⟨h6, h7⟩ := List.getElem?_eq_some_iff.1 hq
          simp only [List.length_singleton] at h6
          obtain rfl : i = m := by omega
          have h8 : r = q := by simpa [h1] using h7
          rw [← h8]; exact h4
    obtain ⟨l, h1, h2, h3⟩ := pick len0 (Nat.le_refl _)
    subst h1
    refine ⟨some a, cap0, l, rfl, hlc, hcm, ⟨rcs_len l, fun hn => ⟨a, rfl, ?_, fun j u hu => ?_⟩⟩, h2⟩
    · have h4 := cell_of_cells (h3 0 l[0] (List.getElem?_eq_getElem hn)) 0 _ rfl
      have := World.block_lt_of_cell? W _ h4
      rwa [block_of_add, block_of_add] at this
    · have hj : j < l.length * 17 := by have := (List.getElem?_eq_some_iff.1 hu).1; rwa [rcs_len] at this
      have hi : j / 17 < l.length := by omega
      have h4 := rcs_ix (List.getElem?_eq_getElem hi) (j % 17) (by omega)
      rw [show j / 17 * 17 + j % 17 = j by omega, hu] at h4
      have h5 := cell_of_cells (h3 _ _ (List.getElem?_eq_getElem hi)) (j % 17) u h4.symm
      rw [Addr.add_add, show j / 17 * 17 + j % 17 = j by omega] at h5
      exact h5
end Go.Proofs.YtmeaeeehnkcblaaDoor
