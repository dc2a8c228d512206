/-
  The walk of the spoiling of bytes.
-/
import Derived.Test.YtllaojnnackhhaaDrawAddr
import Derived.Test.YtllaojnnackhhaaIpDec
namespace Go.Proofs.Ytllaojnnackhhaa
open Go.RowKit
set_option linter.unusedVariables false
set_option linter.unusedSimpArgs false

def SpoR (n : Nat) (w : World) (cb : Nat) (e : Ending) (w' : World) : Prop :=
  ∃ A' m c' l', e = .returned (.slice A' m c') ∧ m ≤ c' ∧ m ≤ n + 1 ∧ w'.ownsRow w.heap.size 5 1 (.slice A' m c') m (bv l') ∧ Bs l' ∧ Cod w' cb ∧ w.grownBy w' (some cb)
theorem own_take {w : World} {base : Nat} {e : TypeId} {A : Option Addr} {n c k : Nat} {xs : List Value} (h : w.ownsRow base e 1 (.slice A n c) n xs) (hk : k ≤ n) (h1 : 1 ≤ n) : w.ownsRow base e 1 (.slice A k c) k (xs.take k) := by
  refine ⟨by have := h.1; simp; omega, ?_⟩
  rcases h.2 with ⟨_, h0⟩ | ⟨g, cap, cur, hv, hb, hh, hc, hm, hs, ht⟩
  · omega
  · injection hv with hA _ hcap
    refine .inr ⟨g, cap, cur, by rw [hA, hcap], hb, hh, by omega, hm, hs, ?_⟩
    rw [← ht, List.take_take]
    congr 1; omega
theorem cut_to (A : Option Addr) (n c k : Nat) (hk : k ≤ c) (w : World) : (Instr.sliceAt 22 (.slice A n c) none (some (.int .i64 (k : Int))) none).run Try.prog w = .ok (.slice A k c) w := by
  rw [run_sliceAt_slice w 22 _ _ _ _ Try.underlying22, run_slice_h w 22 A n c Try.underlying22 .i64 k (by omega) (by omega)]
  have hs : (sizeOf (Try.prog.elem 22)).run Try.prog w = .ok 1 w := rfl
  have hm : A.map (fun a => a.add 0) = A := by cases A <;> simp [Addr.add]
  simp [hs, Result.andThen, sliced, hm]
theorem bv_take (l : List Int) (k : Nat) : bv (l.take k) = (bv l).take k := by simp [bv, List.map_take]
theorem cut_from' (A : Option Addr) (n c k : Nat) (j : Int) (hj : j = k) (hk : k ≤ n) (hnc : n ≤ c) (w : World) : (Instr.sliceAt 22 (.slice A n c) (some (.int .i64 j)) none none).run Try.prog w = .ok (.slice (if c = k then A else A.map (·.add k)) (n - k) (c - k)) w := by
  subst hj; exact cut_from A n c k hk hnc w

theorem grown_below {a b c : World} {r : Option Nat} (g : a.grownBy b r) (h : Below a.heap.size b c) : a.grownBy c r :=
  ⟨h.os.trans g.os, h.tape.trans g.tape, h.output.trans g.output, Nat.le_trans g.size h.size, fun i hi hne => (h.block i hi).trans (g.block i hi hne)⟩

theorem grown_drew (a : World) (r : Option Nat) : a.grownBy a.drew r := ⟨rfl, rfl, rfl, Nat.le_refl _, fun _ _ _ => rfl⟩
theorem u8_bits (op : BinOp) (a b : Int) : 0 ≤ bits op .u8 a b ∧ bits op .u8 a b ≤ 255 := by
  unfold bits
  simp only [IntKind.wrap_u8]
  omega

set_option maxRecDepth 100000 in
set_option maxHeartbeats 2000000 in
theorem spoilt_none (cb : Nat) (w : World) (c : Nat) (A : Option Addr) (hC : Cod w cb) (hl : Byt w cb A 0 []) :
    Calls Try.prog 37 #[.pointer (some ⟨cb, 0, none⟩), .slice A 0 c] w (SpoR 0 w cb) := by
  have h0 := hC.lt
  go_enter Try.func37, Try.ntmps37
  go_wp2_with (first
    | (at_builtin
       refine wpList_app rfl (.const (.slice none 0 0)) (.tmp 7) _ rfl elU8 w.heap.size none 0 0 [] rfl (World.ownsRow_nil _ _ _ _) _ A 0 c (bv []) rfl hl.1 (bv_one _) (by omega) (Nat.le_refl _) 0 (by omega) ?_
       intro A3 c3 w3 hc3 hm3 hown3 hb3 hg3)
    | fail)
  have C3 := hC.below hb3 h0
  refine (next_any cb _ 256 C3).mono ?_
  rintro e w4 ⟨y, rfl, y0, _, y1, C4, g4, s4⟩
  have y1 := y1 (by omega)
  have g3 : w.grownBy w3 (some cb) := ⟨hb3.os, hb3.tape, hb3.output, hb3.size, fun i hi _ => hb3.block i hi⟩
  go_wp2_with fail
  go_ret
  refine ⟨_, 1, 1, [y], rfl, Nat.le_refl _, by omega, ?_, by intro x hx; simp at hx; omega, C4.alloc _, grown_trans (grown_trans g3 g4) (grown_alloc _ _ _)⟩
  have := World.ownsRow_lit (base := w.heap.size) (e := 5) (size := 1) w4 #[.int .u8 y] 1 (by have := g3.size; have := g4.size; omega) (by simp [maxLen]) rfl
  simpa [bv] using this

set_option maxRecDepth 100000 in
set_option maxHeartbeats 2000000 in
theorem spoilt_some (cb : Nat) (w : World) (n c : Nat) (A : Option Addr) (l : List Int) (hC : Cod w cb) (hl : Byt w cb A n l) (hnc : n ≤ c) (h1 : 1 ≤ n) (h5 : n ≤ 10000) :
    Calls Try.prog 37 #[.pointer (some ⟨cb, 0, none⟩), .slice A n c] w (SpoR n w cb) := by
  have h0 := hC.lt
  go_enter Try.func37, Try.ntmps37
  go_wp2_with (first
    | (at_builtin
       refine wpList_app rfl (.const (.slice none 0 0)) (.tmp 7) _ rfl elU8 w.heap.size none 0 0 [] rfl (World.ownsRow_nil _ _ _ _) _ A n c (bv l) rfl hl.1 (bv_one _) (by omega) (Nat.le_refl _) n (by omega) ?_
       intro A3 c3 w3 hc3 hm3 hown3 hb3 hg3
       rw [List.nil_append] at hown3)
    | fail)
  have C3 := hC.below hb3 h0
  have l3 := hl.below (hb3.mono (Nat.le_of_lt h0))
  have g3 : w.grownBy w3 (some cb) := ⟨hb3.os, hb3.tape, hb3.output, hb3.size, fun i hi _ => hb3.block i hi⟩
  refine (next_any cb _ n C3).mono ?_
  rintro e w4 ⟨k, rfl, k0, _, k1, C4, g4, s4⟩
  have k1 := k1 (by omega)
  obtain ⟨k, rfl⟩ := Int.eq_ofNat_of_zero_le k0
  have own4 := hown3.kept g4 (.inr (by intro e; have := hown3.lt _ e; omega))
  have l4 : Byt w4 cb A n l := ⟨l3.1.grown g4 (by have := C3.lt; omega) (by intro g e; injection e with e; omega), l3.2⟩
  have G4 := grown_trans g3 g4
  clear hown3 l3 g3 g4 s4 C3 hb3 hg3
  go_wp2_with fail
  refine (next_any cb _ 4 C4).mono ?_
  rintro e w5 ⟨z, rfl, z0, _, z1, C5, g5, s5⟩
  have own5 := own4.kept g5 (.inr (by intro e; have := own4.lt _ e; omega))
  have l5 : Byt w5 cb A n l := ⟨l4.1.grown g5 (by have := C4.lt; omega) (by intro g e; injection e with e; omega), l4.2⟩
  have G5 := grown_trans G4 g5
  clear own4 l4 G4 g5 s5 C4
  by_cases h4 : z = 0
  · subst h4
    have hcut1 : ∀ wx : World, (Instr.sliceAt 22 (.slice A3 n c3) none (some (.int .i64 (k : Int))) none).run Try.prog wx = .ok (.slice A3 k c3) wx := fun wx => cut_to A3 n c3 k (by omega) wx
    obtain ⟨A4, hA4⟩ : ∃ A4, A4 = if c = k + 1 then A else A.map (·.add (k + 1)) := ⟨_, rfl⟩
    have hcut2 : ∀ wx : World, (Instr.sliceAt 22 (.slice A n c) (some (.int .i64 ((k : Int) + 1))) none none).run Try.prog wx = .ok (.slice A4 (n - (k + 1)) (c - (k + 1))) wx := by
      intro wx; rw [hA4]; exact cut_from' A n c (k + 1) _ (by omega) (by omega) hnc wx
    have l6 : Byt w5.drew cb A4 (n - (k + 1)) (l.drop (k + 1)) := by rw [hA4]; exact l5.drew.cut (by omega) hnc
    have hwr : IntKind.i64.wrap ((k : Int) + 1) = (k : Int) + 1 := IntWalk.i64_in _ (by omega)
    have own6 : w5.drew.ownsRow w.heap.size 5 1 (.slice A3 k c3) k (bv (l.take k)) := by
      have := own_take own5 (k := k) (by omega) h1
      rw [← bv_take] at this
      exact this
    have G6 : w.grownBy w5.drew (some cb) := ⟨G5.os, G5.tape, G5.output, G5.size, G5.block⟩
    have C6 : Cod w5.drew cb := C5
    have hsz : w.heap.size ≤ w5.drew.heap.size := G5.size
    clear hA4 own5 l5 G5 C5
    go_upto_region 7 with fail
    go_region_held3 (fun _ => True) (trivial)
      (first
        | (refine step_app (by rfl) (.tmp 26) (.tmp 30) _ (by rfl) elU8 w.heap.size A3 k c3 _ (by rfl) own6 _ A4 (n - (k + 1)) (c - (k + 1)) (bv (l.drop (k + 1))) (by rfl) l6.1 (bv_one _) (by omega) hsz (n - 1) (by omega) ?_
           intro A5 c5 w6 hc5 hm5 hown5 hb5 hg5))
    go_wp2_with fail
    go_ret
    refine ⟨A5, n - 1, c5, l.take k ++ l.drop (k + 1), rfl, hc5, by omega, by rw [bv_app]; exact hown5, (hl.2.take k).app (hl.2.drop (k + 1)), ?_, ?_⟩
    · exact C6.below hb5 h0
    · exact grown_below G6 hb5
  · by_cases h5 : z = 1
    · subst h5
      go_wp2_with fail
      refine (next_any cb _ 256 C5).mono ?_
      rintro e w6 ⟨y, rfl, y0, _, y1, C6, g6, s6⟩
      have y1 := y1 (by omega)
      have own6 := own5.kept g6 (.inr (by intro e; have := own5.lt _ e; omega))
      have G6 := grown_trans G5 g6
      clear own5 l5 G5 g6 s6 C5
      go_wp2_with (first
        | (at_builtin
           refine wpList_app rfl (.tmp 34) (.tmp 38) _ rfl elU8 w.heap.size A3 n c3 (bv l) rfl (own_below own6 ((Below.refl _ _).alloc (Nat.le_refl _) _)) _ (some ⟨w6.heap.size, 0, none⟩) 1 1 (bv [y]) rfl (reads_new w6 _ _ 1 1 rfl) (bv_one _) (by omega) (by have := G6.size; simp; omega) (n + 1) rfl ?_
           intro A7 c7 w7 hc7 hm7 hown7 hb7 hg7)
        | fail)
      go_ret
      refine ⟨A7, n + 1, c7, l ++ [y], rfl, hc7, Nat.le_refl _, by rw [bv_app]; exact hown7, hl.2.app (by intro x hx; simp at hx; omega), ?_, ?_⟩
      · exact (C6.alloc _).below hb7 h0
      · exact grown_below (grown_trans G6 (grown_alloc _ _ _)) hb7
    · have e4 : (z == 0) = false := by simp [h4]
      have e5 : (z == 1) = false := by simp [h5]
      clear h4 h5
      obtain ⟨g, cap, hv, hgb, hglt⟩ := own5.form (by omega : 0 < n)
      have hA3 : A3 = some ⟨g, 0, none⟩ := by injection hv
      subst hA3
      clear hv
      have hll := hl.len
      obtain ⟨x, hx⟩ : ∃ x, l[k]? = some x := ⟨l[k], List.getElem?_eq_getElem (by omega)⟩
      have hx2 := hl.2 x (List.mem_of_getElem? hx)
      have k5 : w5.cell? ⟨g, k, none⟩ = some (.int .u8 x) := by
        rw [own5.cellAt k (by omega)]; simp [bv, hx]
      have f5 : w5.frozen? ⟨g, k, none⟩ = false := own5.frozenAt k
      have hkn : (k : Int) < n := by omega
      go_upto_region 10 with fail
      go_upto_region 11 with fail
      go_cut [5] (fun s5 wx => s5 = .slice (some ⟨g, 0, none⟩) n c3 ∧ ∃ y, 0 ≤ y ∧ y ≤ 255 ∧ wx.ownsRow w.heap.size 5 1 (.slice (some ⟨g, 0, none⟩) n c3) n ((bv l).set k (.int .u8 y)) ∧ Cod wx cb ∧ w.grownBy wx (some cb))
      case first =>
        go_region_with (go_at_call 16
                        refine (next_any cb w5.drew 255 C5).mono ?_
                        rintro e w6 ⟨y, rfl, y0, _, y1, C6, g6, s6⟩
                        have y1 := y1 (by omega)
                        have own6 := World.ownsRow.kept (w := w5.drew) own5 g6 (.inr (by intro e; have := own5.lt _ e; omega))
                        have k6 : w6.cell? ⟨g, k, none⟩ = some (.int .u8 x) := by rw [own6.cellAt k (by omega)]; simp [bv, hx]
                        have f6 : w6.frozen? ⟨g, k, none⟩ = false := own6.frozenAt k)
        all_goals go_wp2_with fail
        all_goals go_meet
        all_goals exact ⟨rfl, _, (u8_bits _ _ _).1, (u8_bits _ _ _).2, (own6.stored k _).1, C6.keep (fun b hb => Below.heap_setCell _ _ _ _ (by simp; omega)), grown_below (grown_trans (grown_trans G5 (grown_drew _ _)) g6) ((Below.refl _ _).setCell hgb _)⟩
      case rest =>
        obtain ⟨rfl, y, y0, y1, own6, C6, G6⟩ := hcut
        go_wp2_with fail
        go_ret
        refine ⟨_, n, c3, l.set k y, rfl, hc3, by omega, by have e : bv (l.set k y) = (bv l).set k (.int .u8 y) := by simp [bv, List.map_set]
                                                            rw [e]; exact own6, ?_, C6, G6⟩
        intro z hz
        rcases List.mem_or_eq_of_mem_set hz with h | h
        · exact hl.2 z h
        · subst h; exact ⟨y0, y1⟩
theorem spoilt_any (cb : Nat) (w : World) (n c : Nat) (A : Option Addr) (l : List Int) (hC : Cod w cb) (hl : Byt w cb A n l) (hnc : n ≤ c) (h5 : n ≤ 10000) :
    Calls Try.prog 37 #[.pointer (some ⟨cb, 0, none⟩), .slice A n c] w (SpoR n w cb) := by
  rcases Nat.eq_zero_or_pos n with h | h
  · subst h
    obtain rfl : l = [] := List.eq_nil_of_length_eq_zero hl.len
    exact spoilt_none cb w c A hC hl
  · exact spoilt_some cb w n c A l hC hl hnc h h5
end Go.Proofs.Ytllaojnnackhhaa
