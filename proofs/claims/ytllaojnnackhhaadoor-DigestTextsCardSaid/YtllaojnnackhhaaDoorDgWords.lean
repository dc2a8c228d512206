/-
  The walk of digest.words.
-/
import Derived.Test.YtllaojnnackhhaaDoorDgTurn
import Derived.Test.YtllaojnnackhhaaDoorDgWordsLaw
import Derived.Deep.WholeRow
import Derived.StillTailTactics
import Derived.Deep.DeepCutAuto
import Derived.Deep.DeepFit
namespace Go.Proofs.YtllaojnnackhhaaDoor
open Go.RowKit
set_option linter.unusedVariables false
set_option linter.unusedSimpArgs false

theorem cut_mid (A : Option Addr) (n c lo : Nat) (a b : Int) (ha : a = lo) (hb : b = ((lo + 4 : Nat) : Int)) (h : lo + 4 ≤ c) (h1 : c ≠ lo) (w : World) : (Instr.sliceAt 22 (.slice A n c) (some (.int .i64 a)) (some (.int .i64 b)) none).run Tryd.prog w = .ok (.slice (A.map (·.add lo)) 4 (c - lo)) w := by
  subst ha hb
  rw [run_sliceAt_slice w 22 _ _ _ _ Tryd.underlying22, run_slice_lh w 22 A n c Tryd.underlying22 .i64 .i64 lo ((lo + 4 : Nat) : Int) (by omega) (by omega) (by omega)]
  have hs : (sizeOf (Tryd.prog.elem 22)).run Tryd.prog w = .ok 1 w := rfl
  have h1 : ((lo + 4 : Nat) : Int).toNat = lo + 4 := rfl
  simp only [hs, Result.andThen, sliced, Int.toNat_natCast, h1]
  rw [if_neg (by omega), Nat.mul_one, Nat.add_sub_cancel_left]
theorem byt_cell_at {w : World} {B b0 o n k : Nat} {l : List Int} (h : Byt w B (some ⟨b0, o, none⟩) n l) (hk : k < n) : ∃ x, l[k]? = some x ∧ 0 ≤ x ∧ x ≤ 255 ∧ w.cell? ⟨b0, o + k, none⟩ = some (.int .u8 x) := by
  obtain ⟨b', o', x, hA, _, h1, h2, h3, h4⟩ := h.at' hk
  injection hA with e
  injection e with e1 e2
  subst e1 e2
  exact ⟨x, h1, h2, h3, h4⟩
theorem be_bd3 (l : List Int) (h : Bs l) (hl : l.length ≤ 3) : 0 ≤ be l ∧ be l ≤ 16777215 := by
  have := be_bd l h
  have h2 : (256 : Int) ^ l.length ≤ 16777216 := by
    rcases (by omega : l.length = 0 ∨ l.length = 1 ∨ l.length = 2 ∨ l.length = 3) with e | e | e | e <;> (rw [e]; decide)
  omega
theorem arrOf_nil : #[.int .u32 0, .int .u32 0, .int .u32 0, .int .u32 0, .int .u32 0, .int .u32 0, .int .u32 0, .int .u32 0, .int .u32 0, .int .u32 0, .int .u32 0, .int .u32 0, .int .u32 0, .int .u32 0, .int .u32 0, .int .u32 0, .int .u32 0, .int .u32 0, .int .u32 0, .int .u32 0, .int .u32 0, .int .u32 0, .int .u32 0, .int .u32 0, .int .u32 0, .int .u32 0, .int .u32 0, .int .u32 0, .int .u32 0, .int .u32 0, .int .u32 0, .int .u32 0, .int .u32 0, .int .u32 0, .int .u32 0, .int .u32 0, .int .u32 0, .int .u32 0, .int .u32 0, .int .u32 0, .int .u32 0, .int .u32 0, .int .u32 0, .int .u32 0, .int .u32 0, .int .u32 0, .int .u32 0, .int .u32 0, .int .u32 0, .int .u32 0, .int .u32 0, .int .u32 0, .int .u32 0, .int .u32 0, .int .u32 0, .int .u32 0, .int .u32 0, .int .u32 0, .int .u32 0, .int .u32 0, .int .u32 0, .int .u32 0, .int .u32 0, .int .u32 0] = arrOf [] := rfl
theorem add_at (b o k : Nat) : (⟨b, o, none⟩ : Addr).add k = ⟨b, o + k, none⟩ := by unfold Addr.add; split <;> simp_all
set_option maxRecDepth 100000 in
set_option maxHeartbeats 4000000 in
theorem words_any (b0 o c : Nat) (b : List Int) (w : World) (hb : Byt w w.heap.size (some ⟨b0, o, none⟩) 64 b) (hc : 64 ≤ c) (hc2 : c ≤ maxLen) :
    Calls Tryd.prog 28 #[.slice (some ⟨b0, o, none⟩) 64 c] w fun e w' => e = .returned (.agg (arrOf (wList b 48))) ∧ Below w.heap.size w w' := by
  unfold maxLen at hc2
  have R0 := (Blk.new w 56 #[.int .u32 0, .int .u32 0, .int .u32 0, .int .u32 0, .int .u32 0, .int .u32 0, .int .u32 0, .int .u32 0, .int .u32 0, .int .u32 0, .int .u32 0, .int .u32 0, .int .u32 0, .int .u32 0, .int .u32 0, .int .u32 0, .int .u32 0, .int .u32 0, .int .u32 0, .int .u32 0, .int .u32 0, .int .u32 0, .int .u32 0, .int .u32 0, .int .u32 0, .int .u32 0, .int .u32 0, .int .u32 0, .int .u32 0, .int .u32 0, .int .u32 0, .int .u32 0, .int .u32 0, .int .u32 0, .int .u32 0, .int .u32 0, .int .u32 0, .int .u32 0, .int .u32 0, .int .u32 0, .int .u32 0, .int .u32 0, .int .u32 0, .int .u32 0, .int .u32 0, .int .u32 0, .int .u32 0, .int .u32 0, .int .u32 0, .int .u32 0, .int .u32 0, .int .u32 0, .int .u32 0, .int .u32 0, .int .u32 0, .int .u32 0, .int .u32 0, .int .u32 0, .int .u32 0, .int .u32 0, .int .u32 0, .int .u32 0, .int .u32 0, .int .u32 0]).alloc (.cells #[.int .u32 0, .int .u32 0, .int .u32 0, .int .u32 0, .int .u32 0, .int .u32 0, .int .u32 0, .int .u32 0, .int .u32 0, .int .u32 0, .int .u32 0, .int .u32 0, .int .u32 0, .int .u32 0, .int .u32 0, .int .u32 0, .int .u32 0, .int .u32 0, .int .u32 0, .int .u32 0, .int .u32 0, .int .u32 0, .int .u32 0, .int .u32 0, .int .u32 0, .int .u32 0, .int .u32 0, .int .u32 0, .int .u32 0, .int .u32 0, .int .u32 0, .int .u32 0, .int .u32 0, .int .u32 0, .int .u32 0, .int .u32 0, .int .u32 0, .int .u32 0, .int .u32 0, .int .u32 0, .int .u32 0, .int .u32 0, .int .u32 0, .int .u32 0, .int .u32 0, .int .u32 0, .int .u32 0, .int .u32 0, .int .u32 0, .int .u32 0, .int .u32 0, .int .u32 0, .int .u32 0, .int .u32 0, .int .u32 0, .int .u32 0, .int .u32 0, .int .u32 0, .int .u32 0, .int .u32 0, .int .u32 0, .int .u32 0, .int .u32 0, .int .u32 0] 56)
  have X0 : Blk ((w.alloc (.cells #[.int .u32 0, .int .u32 0, .int .u32 0, .int .u32 0, .int .u32 0, .int .u32 0, .int .u32 0, .int .u32 0, .int .u32 0, .int .u32 0, .int .u32 0, .int .u32 0, .int .u32 0, .int .u32 0, .int .u32 0, .int .u32 0, .int .u32 0, .int .u32 0, .int .u32 0, .int .u32 0, .int .u32 0, .int .u32 0, .int .u32 0, .int .u32 0, .int .u32 0, .int .u32 0, .int .u32 0, .int .u32 0, .int .u32 0, .int .u32 0, .int .u32 0, .int .u32 0, .int .u32 0, .int .u32 0, .int .u32 0, .int .u32 0, .int .u32 0, .int .u32 0, .int .u32 0, .int .u32 0, .int .u32 0, .int .u32 0, .int .u32 0, .int .u32 0, .int .u32 0, .int .u32 0, .int .u32 0, .int .u32 0, .int .u32 0, .int .u32 0, .int .u32 0, .int .u32 0, .int .u32 0, .int .u32 0, .int .u32 0, .int .u32 0, .int .u32 0, .int .u32 0, .int .u32 0, .int .u32 0, .int .u32 0, .int .u32 0, .int .u32 0, .int .u32 0] 56)).alloc (.cells #[.int .u32 0, .int .u32 0, .int .u32 0, .int .u32 0, .int .u32 0, .int .u32 0, .int .u32 0, .int .u32 0, .int .u32 0, .int .u32 0, .int .u32 0, .int .u32 0, .int .u32 0, .int .u32 0, .int .u32 0, .int .u32 0, .int .u32 0, .int .u32 0, .int .u32 0, .int .u32 0, .int .u32 0, .int .u32 0, .int .u32 0, .int .u32 0, .int .u32 0, .int .u32 0, .int .u32 0, .int .u32 0, .int .u32 0, .int .u32 0, .int .u32 0, .int .u32 0, .int .u32 0, .int .u32 0, .int .u32 0, .int .u32 0, .int .u32 0, .int .u32 0, .int .u32 0, .int .u32 0, .int .u32 0, .int .u32 0, .int .u32 0, .int .u32 0, .int .u32 0, .int .u32 0, .int .u32 0, .int .u32 0, .int .u32 0, .int .u32 0, .int .u32 0, .int .u32 0, .int .u32 0, .int .u32 0, .int .u32 0, .int .u32 0, .int .u32 0, .int .u32 0, .int .u32 0, .int .u32 0, .int .u32 0, .int .u32 0, .int .u32 0, .int .u32 0] 56)) (w.heap.size + 1) 56 #[.int .u32 0, .int .u32 0, .int .u32 0, .int .u32 0, .int .u32 0, .int .u32 0, .int .u32 0, .int .u32 0, .int .u32 0, .int .u32 0, .int .u32 0, .int .u32 0, .int .u32 0, .int .u32 0, .int .u32 0, .int .u32 0, .int .u32 0, .int .u32 0, .int .u32 0, .int .u32 0, .int .u32 0, .int .u32 0, .int .u32 0, .int .u32 0, .int .u32 0, .int .u32 0, .int .u32 0, .int .u32 0, .int .u32 0, .int .u32 0, .int .u32 0, .int .u32 0, .int .u32 0, .int .u32 0, .int .u32 0, .int .u32 0, .int .u32 0, .int .u32 0, .int .u32 0, .int .u32 0, .int .u32 0, .int .u32 0, .int .u32 0, .int .u32 0, .int .u32 0, .int .u32 0, .int .u32 0, .int .u32 0, .int .u32 0, .int .u32 0, .int .u32 0, .int .u32 0, .int .u32 0, .int .u32 0, .int .u32 0, .int .u32 0, .int .u32 0, .int .u32 0, .int .u32 0, .int .u32 0, .int .u32 0, .int .u32 0, .int .u32 0, .int .u32 0] := by
    have := Blk.new (w.alloc (.cells #[.int .u32 0, .int .u32 0, .int .u32 0, .int .u32 0, .int .u32 0, .int .u32 0, .int .u32 0, .int .u32 0, .int .u32 0, .int .u32 0, .int .u32 0, .int .u32 0, .int .u32 0, .int .u32 0, .int .u32 0, .int .u32 0, .int .u32 0, .int .u32 0, .int .u32 0, .int .u32 0, .int .u32 0, .int .u32 0, .int .u32 0, .int .u32 0, .int .u32 0, .int .u32 0, .int .u32 0, .int .u32 0, .int .u32 0, .int .u32 0, .int .u32 0, .int .u32 0, .int .u32 0, .int .u32 0, .int .u32 0, .int .u32 0, .int .u32 0, .int .u32 0, .int .u32 0, .int .u32 0, .int .u32 0, .int .u32 0, .int .u32 0, .int .u32 0, .int .u32 0, .int .u32 0, .int .u32 0, .int .u32 0, .int .u32 0, .int .u32 0, .int .u32 0, .int .u32 0, .int .u32 0, .int .u32 0, .int .u32 0, .int .u32 0, .int .u32 0, .int .u32 0, .int .u32 0, .int .u32 0, .int .u32 0, .int .u32 0, .int .u32 0, .int .u32 0] 56)) 56 #[.int .u32 0, .int .u32 0, .int .u32 0, .int .u32 0, .int .u32 0, .int .u32 0, .int .u32 0, .int .u32 0, .int .u32 0, .int .u32 0, .int .u32 0, .int .u32 0, .int .u32 0, .int .u32 0, .int .u32 0, .int .u32 0, .int .u32 0, .int .u32 0, .int .u32 0, .int .u32 0, .int .u32 0, .int .u32 0, .int .u32 0, .int .u32 0, .int .u32 0, .int .u32 0, .int .u32 0, .int .u32 0, .int .u32 0, .int .u32 0, .int .u32 0, .int .u32 0, .int .u32 0, .int .u32 0, .int .u32 0, .int .u32 0, .int .u32 0, .int .u32 0, .int .u32 0, .int .u32 0, .int .u32 0, .int .u32 0, .int .u32 0, .int .u32 0, .int .u32 0, .int .u32 0, .int .u32 0, .int .u32 0, .int .u32 0, .int .u32 0, .int .u32 0, .int .u32 0, .int .u32 0, .int .u32 0, .int .u32 0, .int .u32 0, .int .u32 0, .int .u32 0, .int .u32 0, .int .u32 0, .int .u32 0, .int .u32 0, .int .u32 0, .int .u32 0]
    rw [show (w.alloc (.cells #[.int .u32 0, .int .u32 0, .int .u32 0, .int .u32 0, .int .u32 0, .int .u32 0, .int .u32 0, .int .u32 0, .int .u32 0, .int .u32 0, .int .u32 0, .int .u32 0, .int .u32 0, .int .u32 0, .int .u32 0, .int .u32 0, .int .u32 0, .int .u32 0, .int .u32 0, .int .u32 0, .int .u32 0, .int .u32 0, .int .u32 0, .int .u32 0, .int .u32 0, .int .u32 0, .int .u32 0, .int .u32 0, .int .u32 0, .int .u32 0, .int .u32 0, .int .u32 0, .int .u32 0, .int .u32 0, .int .u32 0, .int .u32 0, .int .u32 0, .int .u32 0, .int .u32 0, .int .u32 0, .int .u32 0, .int .u32 0, .int .u32 0, .int .u32 0, .int .u32 0, .int .u32 0, .int .u32 0, .int .u32 0, .int .u32 0, .int .u32 0, .int .u32 0, .int .u32 0, .int .u32 0, .int .u32 0, .int .u32 0, .int .u32 0, .int .u32 0, .int .u32 0, .int .u32 0, .int .u32 0, .int .u32 0, .int .u32 0, .int .u32 0, .int .u32 0] 56)).heap.size = w.heap.size + 1 by simp] at this
    exact this
  have W0 := ((Below.refl w.heap.size w).alloc (Nat.le_refl _) (.cells #[.int .u32 0, .int .u32 0, .int .u32 0, .int .u32 0, .int .u32 0, .int .u32 0, .int .u32 0, .int .u32 0, .int .u32 0, .int .u32 0, .int .u32 0, .int .u32 0, .int .u32 0, .int .u32 0, .int .u32 0, .int .u32 0, .int .u32 0, .int .u32 0, .int .u32 0, .int .u32 0, .int .u32 0, .int .u32 0, .int .u32 0, .int .u32 0, .int .u32 0, .int .u32 0, .int .u32 0, .int .u32 0, .int .u32 0, .int .u32 0, .int .u32 0, .int .u32 0, .int .u32 0, .int .u32 0, .int .u32 0, .int .u32 0, .int .u32 0, .int .u32 0, .int .u32 0, .int .u32 0, .int .u32 0, .int .u32 0, .int .u32 0, .int .u32 0, .int .u32 0, .int .u32 0, .int .u32 0, .int .u32 0, .int .u32 0, .int .u32 0, .int .u32 0, .int .u32 0, .int .u32 0, .int .u32 0, .int .u32 0, .int .u32 0, .int .u32 0, .int .u32 0, .int .u32 0, .int .u32 0, .int .u32 0, .int .u32 0, .int .u32 0, .int .u32 0] 56)).alloc (by simp) (.cells #[.int .u32 0, .int .u32 0, .int .u32 0, .int .u32 0, .int .u32 0, .int .u32 0, .int .u32 0, .int .u32 0, .int .u32 0, .int .u32 0, .int .u32 0, .int .u32 0, .int .u32 0, .int .u32 0, .int .u32 0, .int .u32 0, .int .u32 0, .int .u32 0, .int .u32 0, .int .u32 0, .int .u32 0, .int .u32 0, .int .u32 0, .int .u32 0, .int .u32 0, .int .u32 0, .int .u32 0, .int .u32 0, .int .u32 0, .int .u32 0, .int .u32 0, .int .u32 0, .int .u32 0, .int .u32 0, .int .u32 0, .int .u32 0, .int .u32 0, .int .u32 0, .int .u32 0, .int .u32 0, .int .u32 0, .int .u32 0, .int .u32 0, .int .u32 0, .int .u32 0, .int .u32 0, .int .u32 0, .int .u32 0, .int .u32 0, .int .u32 0, .int .u32 0, .int .u32 0, .int .u32 0, .int .u32 0, .int .u32 0, .int .u32 0, .int .u32 0, .int .u32 0, .int .u32 0, .int .u32 0, .int .u32 0, .int .u32 0, .int .u32 0, .int .u32 0] 56)
  replace R0 : Blk _ _ _ (arrOf []) := R0
  replace X0 : Blk _ _ _ (arrOf []) := X0
  go_enter Tryd.func28, Tryd.ntmps28
  go_upto_region 2 with fail
  generalize (w.alloc (.cells #[.int .u32 0, .int .u32 0, .int .u32 0, .int .u32 0, .int .u32 0, .int .u32 0, .int .u32 0, .int .u32 0, .int .u32 0, .int .u32 0, .int .u32 0, .int .u32 0, .int .u32 0, .int .u32 0, .int .u32 0, .int .u32 0, .int .u32 0, .int .u32 0, .int .u32 0, .int .u32 0, .int .u32 0, .int .u32 0, .int .u32 0, .int .u32 0, .int .u32 0, .int .u32 0, .int .u32 0, .int .u32 0, .int .u32 0, .int .u32 0, .int .u32 0, .int .u32 0, .int .u32 0, .int .u32 0, .int .u32 0, .int .u32 0, .int .u32 0, .int .u32 0, .int .u32 0, .int .u32 0, .int .u32 0, .int .u32 0, .int .u32 0, .int .u32 0, .int .u32 0, .int .u32 0, .int .u32 0, .int .u32 0, .int .u32 0, .int .u32 0, .int .u32 0, .int .u32 0, .int .u32 0, .int .u32 0, .int .u32 0, .int .u32 0, .int .u32 0, .int .u32 0, .int .u32 0, .int .u32 0, .int .u32 0, .int .u32 0, .int .u32 0, .int .u32 0] 56)).alloc (.cells #[.int .u32 0, .int .u32 0, .int .u32 0, .int .u32 0, .int .u32 0, .int .u32 0, .int .u32 0, .int .u32 0, .int .u32 0, .int .u32 0, .int .u32 0, .int .u32 0, .int .u32 0, .int .u32 0, .int .u32 0, .int .u32 0, .int .u32 0, .int .u32 0, .int .u32 0, .int .u32 0, .int .u32 0, .int .u32 0, .int .u32 0, .int .u32 0, .int .u32 0, .int .u32 0, .int .u32 0, .int .u32 0, .int .u32 0, .int .u32 0, .int .u32 0, .int .u32 0, .int .u32 0, .int .u32 0, .int .u32 0, .int .u32 0, .int .u32 0, .int .u32 0, .int .u32 0, .int .u32 0, .int .u32 0, .int .u32 0, .int .u32 0, .int .u32 0, .int .u32 0, .int .u32 0, .int .u32 0, .int .u32 0, .int .u32 0, .int .u32 0, .int .u32 0, .int .u32 0, .int .u32 0, .int .u32 0, .int .u32 0, .int .u32 0, .int .u32 0, .int .u32 0, .int .u32 0, .int .u32 0, .int .u32 0, .int .u32 0, .int .u32 0, .int .u32 0] 56) = w1 at *
  go_wp2_with fail
  go_loopw [12] (fun s12 wr => ∃ i : Nat, i ≤ 16 ∧ s12 = .int .i64 i ∧ Blk wr w.heap.size 56 (arrOf []) ∧ Blk wr (w.heap.size + 1) 56 (arrOf (w16 b i)) ∧ Below w.heap.size w wr) (fun s12 _ => 16 - (intOf s12).toNat)
  case atStart => exact ⟨0, by omega, rfl, R0, X0, W0⟩
  case round =>
    obtain ⟨i, hi, rfl, R1, X1, W1⟩ := hrel
    clear R0 X0 W0
    by_cases hlt : i < 16
    · have hcut : ∀ wx : World, (Instr.sliceAt 22 (.slice (some ⟨b0, o, none⟩) 64 c) (some (.int .i64 (4 * (i : Int)))) (some (.int .i64 (4 * (i : Int) + 4))) none).run Tryd.prog wx = .ok (.slice (some ⟨b0, o + 4 * i, none⟩) 4 (c - 4 * i)) wx := by
        intro wx
        have := cut_mid (some ⟨b0, o, none⟩) 64 c (4 * i) (4 * (i : Int)) (4 * (i : Int) + 4) (by omega) (by omega) (by omega) (by omega) wx
        rw [this, Option.map_some, add_at]
      have hx := (hb.below W1)
      rw [arrOf_grow _ (by rw [w16_len]; omega)] at X1
      go_wp2_with fail
      obtain ⟨wo, rfl⟩ : ∃ wo : World, wo = wr := ⟨_, rfl⟩
      go_loopw [23] (fun s23 wr => ∃ k : Nat, k ≤ 4 ∧ s23 = .int .i64 k ∧ Blk wr w.heap.size 56 (arrOf []) ∧ Blk wr (w.heap.size + 1) 56 (arrOf (w16 b i ++ [be (((b.drop (4 * i)).take 4).take k)])) ∧ Below w.heap.size w wr) (fun s23 _ => 4 - (intOf s23).toNat)
      case atStart => exact ⟨0, by omega, rfl, R1, X1, W1⟩
      case round =>
        obtain ⟨k, hk, rfl, R2, X2, W2⟩ := hrel
        clear R1 X1 W1
        by_cases hlt2 : k < 4
        · obtain ⟨x, hxm, hx0, hx1, hxc⟩ := byt_cell_at (hb.below W2) (k := 4 * i + k) (by omega)
          have hxk : (((b.drop (4 * i)).take 4)[k]?) = some x := by rw [List.getElem?_take, if_pos hlt2, List.getElem?_drop]; exact hxm
          have hbt := be_take _ k x hxk
          have hv := be_bd7 (((b.drop (4 * i)).take 4).take k) (((hb.2.drop _).take _).take _) (by simp; omega)
          have hv3 := be_bd3 (((b.drop (4 * i)).take 4).take k) (((hb.2.drop _).take _).take _) (by simp; omega)
          rw [← Nat.add_assoc] at hxc
          have HT := Lib.hid hbt
          clear hbt hxm hxk
          generalize be (((b.drop (4 * i)).take 4).take k) = v at *
          have hor := or_byte v x hv3.1 hv3.2 hx0 hx1
          have hw : (v * 256) % 4294967296 = v * 256 := by omega
          have hlen : (w16 b i).length = i := w16_len b i
          have q1 : wr.cell? ⟨w.heap.size + 1, i, none⟩ = some (.int .u32 v) := by
            rw [X2.cell i, arrOf_at _ _ (by simp [hlen])]
            simp [List.getD_eq_getElem?_getD, List.getElem?_append_right, hlen]
          have q2 : wr.frozen? ⟨w.heap.size + 1, i, none⟩ = false := X2.frozen i
          have X3 := X2.set_ i (.int .u32 (v * 256 + x))
          have hset := arrOf_set (w16 b i) v (v * 256 + x) (by omega)
          rw [hlen] at hset
          rw [hset, ← HT.out] at X3
          have R3 := R2.far (p := ⟨w.heap.size + 1, i, none⟩) (by simp) (.int .u32 (v * 256 + x))
          have W3 := W2.setCell (p := ⟨w.heap.size + 1, i, none⟩) (by simp) (.int .u32 (v * 256 + x))
          rw [HT.out] at X3
          clear hset hlen X2 R2 W2
          go_wp2_with fail
          go_roundw
          case rel => exact ⟨k + 1, by omega, by go_num, R3, by rw [HT.out]; exact X3, W3⟩
          case measure => simp [intOf]; omega
        · have h4 : ((b.drop (4 * i)).take 4).take k = (b.drop (4 * i)).take 4 := List.take_of_length_le (by simp; omega)
          rw [h4, ← w16_succ] at X2
          clear h4
          go_wp2_with fail
          go_roundw
          case rel => exact ⟨i + 1, by omega, by go_num, R2, X2, W2⟩
          case measure => simp [intOf]; omega
    · obtain rfl : i = 16 := by omega
      rw [show ((16 : Nat) : Int) = 16 from rfl]
      go_wp2_with fail
      obtain ⟨wo, rfl⟩ : ∃ wo : World, wo = wr := ⟨_, rfl⟩
      go_loopw [7] (fun s7 wr => ∃ j : Nat, j ≤ 48 ∧ s7 = .int .i64 (16 + (j : Int)) ∧ Blk wr w.heap.size 56 (arrOf []) ∧ Blk wr (w.heap.size + 1) 56 (arrOf (wList b j)) ∧ Below w.heap.size w wr) (fun s7 _ => 64 - (intOf s7).toNat)
      case atStart => exact ⟨0, by omega, rfl, R1, X1, W1⟩
      case round =>
        obtain ⟨j, hj, rfl, R2, X2, W2⟩ := hrel
        clear R1 X1 W1
        by_cases hlt2 : j < 48
        · have hlen := wList_len b j
          obtain ⟨a15, h15⟩ : ∃ a, a = j + 1 := ⟨_, rfl⟩
          obtain ⟨a2, h2⟩ : ∃ a, a = j + 14 := ⟨_, rfl⟩
          obtain ⟨a7, h7⟩ : ∃ a, a = j + 9 := ⟨_, rfl⟩
          obtain ⟨ai, hi'⟩ : ∃ a, a = 16 + j := ⟨_, rfl⟩
          have hnx : wNext (wList b j) = addW (addW (addW ((wList b j).getD j 0) (sig0 ((wList b j).getD a15 0))) ((wList b j).getD a7 0)) (sig1 ((wList b j).getD a2 0)) := by
            unfold wNext; rw [hlen, h15, h2, h7, show 16 + j - 16 = j by omega, show 16 + j - 15 = j + 1 by omega, show 16 + j - 7 = j + 9 by omega, show 16 + j - 2 = j + 14 by omega]
          have hset : (arrOf (wList b j ++ [0])).setIfInBounds ai (.int .u32 (wNext (wList b j))) = arrOf (wList b (j + 1)) := by
            have := arrOf_set (wList b j) 0 (wNext (wList b j)) (by omega)
            rw [hlen, ← hi'] at this
            exact this
          have w15 := wList_w b hb.2 j a15
          have w2 := wList_w b hb.2 j a2
          have q15 : wr.cell? ⟨w.heap.size + 1, a15, none⟩ = some (.int .u32 ((wList b j).getD a15 0)) := by rw [X2.cell a15, arrOf_at _ _ (by omega)]
          have q2 : wr.cell? ⟨w.heap.size + 1, a2, none⟩ = some (.int .u32 ((wList b j).getD a2 0)) := by rw [X2.cell a2, arrOf_at _ _ (by omega)]
          have e15 : IntKind.i64.wrap (16 + (j : Int) - 15) = (a15 : Int) := by rw [IntWalk.i64_in _ (by omega)]; omega
          have e2 : IntKind.i64.wrap (16 + (j : Int) - 2) = (a2 : Int) := by rw [IntWalk.i64_in _ (by omega)]; omega
          have e7 : IntKind.i64.wrap (16 + (j : Int) - 7) = (a7 : Int) := by rw [IntWalk.i64_in _ (by omega)]; omega
          have e16 : IntKind.i64.wrap (16 + (j : Int) - 16) = (j : Int) := by rw [IntWalk.i64_in _ (by omega)]; omega
          have ei : (16 + (j : Int)).toNat = ai := by omega
          have b15 : (a15 : Int) < 64 := by omega
          have b2 : (a2 : Int) < 64 := by omega
          have b7 : (a7 : Int) < 64 := by omega
          have b16 : (j : Int) < 64 := by omega
          have bi : 16 + (j : Int) < 64 := by omega
          have HN := Lib.hid hnx
          have HL := Lib.hid (And.intro hlen (And.intro h15 (And.intro h2 (And.intro h7 (And.intro hi' hset)))))
          clear hset hnx h15 h2 h7 hi' hlen
          obtain ⟨x, hx⟩ : ∃ x, (wList b j).getD a15 0 = x := ⟨_, rfl⟩
          obtain ⟨y, hy⟩ : ∃ y, (wList b j).getD a2 0 = y := ⟨_, rfl⟩
          rw [hx] at w15 q15
          rw [hy] at w2 q2
          have HX := Lib.hid (And.intro hx hy)
          clear hx hy
          go_wp2_with fail
          go_quiet (fail)
          go_wp2_with (first
            | (go_at_call 29; refine (turn_7 _ w15 _).mono ?_; rintro e w' ⟨rfl, rfl⟩)
            | (go_at_call 29; refine (turn_18 _ w15 _).mono ?_; rintro e w' ⟨rfl, rfl⟩)
            | (go_at_call 29; refine (turn_17 _ w2 _).mono ?_; rintro e w' ⟨rfl, rfl⟩)
            | (go_at_call 29; refine (turn_19 _ w2 _).mono ?_; rintro e w' ⟨rfl, rfl⟩)
            | fail)
          generalize hs : bits .xor .u32 (bits .xor .u32 (rotW x 7) (rotW x 18)) (x / 8) = s
          generalize ht : bits .xor .u32 (bits .xor .u32 (rotW y 17) (rotW y 19)) (y / 1024) = t
          have Xq : Blk (wr.drewN nq) (w.heap.size + 1) 56 (arrOf (wList b j)) := X2.drewN nq
          have Rq : Blk (wr.drewN nq) w.heap.size 56 (arrOf []) := R2.drewN nq
          have Wq : Below w.heap.size w (wr.drewN nq) := below_drewN W2 nq
          generalize wr.drewN nq = wq at *
          obtain ⟨hlen, h15, h2, h7, hi', hset⟩ := HL.out
          have X3 : Blk wq (w.heap.size + 1) 56 (arrOf (wList b j ++ [0])) := by rw [← arrOf_grow _ (by omega)]; exact Xq
          have q7 : wq.cell? ⟨w.heap.size + 1, a7, none⟩ = some (.int .u32 ((wList b j).getD a7 0)) := by rw [Xq.cell a7, arrOf_at _ _ (by omega)]
          have q16 : wq.cell? ⟨w.heap.size + 1, j, none⟩ = some (.int .u32 ((wList b j).getD j 0)) := by rw [Xq.cell j, arrOf_at _ _ (by omega)]
          have qi : wq.cell? ⟨w.heap.size + 1, ai, none⟩ = some (.int .u32 0) := by
            rw [X3.cell ai, arrOf_at _ _ (by simp [hlen]; omega)]
            simp [List.getD_eq_getElem?_getD, List.getElem?_append_right, hlen, hi']
          have qf : wq.frozen? ⟨w.heap.size + 1, ai, none⟩ = false := X3.frozen ai
          have hnx := HN.out
          rw [HX.out.1, HX.out.2] at hnx
          obtain ⟨z, hz⟩ : ∃ z, (wList b j).getD a7 0 = z := ⟨_, rfl⟩
          obtain ⟨u, hu⟩ : ∃ u, (wList b j).getD j 0 = u := ⟨_, rfl⟩
          rw [hz] at q7 hnx
          rw [hu] at q16 hnx
          have X4 : Blk (wq.setCell ⟨w.heap.size + 1, ai, none⟩ (.int .u32 (wNext (wList b j)))).drew _ _ _ := (X3.set_ ai (.int .u32 (wNext (wList b j)))).drew
          rw [hset] at X4
          have R4 : Blk (wq.setCell ⟨w.heap.size + 1, ai, none⟩ (.int .u32 (wNext (wList b j)))).drew _ _ _ := (Rq.far (p := ⟨w.heap.size + 1, ai, none⟩) (by simp) (.int .u32 (wNext (wList b j)))).drew
          have W4 := (Wq.setCell (p := ⟨w.heap.size + 1, ai, none⟩) (by simp) (.int .u32 (wNext (wList b j)))).drew
          have hs1 : sig0 x = s := hs
          have ht1 : sig1 y = t := ht
          have hfin : wNext (wList b j) = (u + s + z + t) % 4294967296 := by rw [hnx, hs1, ht1]; unfold addW; omega
          clear hs1 ht1
          rw [hfin] at X4 R4 W4
          clear hfin hnx hz hu hset hlen h15 h2 h7 hi' HL HN HX hs ht X3 Xq Rq Wq X2 R2 W2
          go_region
          all_goals go_wp2_with fail
          all_goals go_roundw
          case rel => exact ⟨j + 1, by omega, vint (by omega), R4, X4, W4⟩
          case measure => simp [intOf]; omega
        · obtain rfl : j = 48 := by omega
          go_upto_region 18 with fail
          have hsz : (arrOf (wList b 48)).size = 64 := arrOf_size _ (by rw [wList_len]; omega)
          refine wp_region_lit ?_
          refine wpList_load_row rfl 56 (.tmp 3) rfl (w.heap.size + 1) rfl 56 _ (0, 0) _ X2 Tryd.underlying56 rfl (by rw [hsz]; rfl) ?_
          refine wpList_store_row rfl 56 (.tmp 2) (.tmp 81) rfl w.heap.size (arrOf (wList b 48)) rfl rfl 56 _ R2 (by rw [hsz]; rfl) (by rw [hsz]; rfl) (arrOf_one _) ?_
          refine wpList_nil ?_
          have R5 : Blk (wr.setRow w.heap.size (arrOf (wList b 48))) w.heap.size 56 (arrOf (wList b 48)) := setRow_heap wr _ _ _ _ _ R2
          have W5 : Below w.heap.size w (wr.setRow w.heap.size (arrOf (wList b 48))) := ⟨W2.os, W2.tape, W2.output, by simp; exact W2.size, fun k hk => (setRow_other _ _ _ _ (by omega)).trans (W2.block k hk)⟩
          go_wp2_with fail
          exact bodyPost_ret (results_cell_row (P := Tryd.prog) Tryd.results28 _ _ w.heap.size 56 _ (0, 0) _ rfl R5 Tryd.underlying56 rfl (by rw [hsz]; rfl)) rfl ⟨rfl, W5⟩
end Go.Proofs.YtllaojnnackhhaaDoor
