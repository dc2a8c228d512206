/-
  The walk of the choice of a number, mostly a small one.
-/
import Derived.Test.YtllaojnnackhhaaDraw
namespace Go.Proofs.Ytllaojnnackhhaa
open Go.RowKit
set_option linter.unusedVariables false
set_option linter.unusedSimpArgs false

/-- what a choice of a number leaves: block cb has turned, and there may be new blocks -/
def Drew (lo hi : Int) (w : World) (cb : Nat) (e : Ending) (w' : World) : Prop :=
  ∃ x : Int, e = .returned (.int .i64 x) ∧ lo ≤ x ∧ x ≤ hi ∧ Cod w' cb ∧ w.grownBy w' (some cb)

theorem grown_trans {a b c : World} {r : Option Nat} (g : a.grownBy b r) (hg : b.grownBy c r) : a.grownBy c r :=
  ⟨hg.os.trans g.os, hg.tape.trans g.tape, hg.output.trans g.output, Nat.le_trans g.size hg.size, fun i hi hne => (hg.block i (Nat.lt_of_lt_of_le hi g.size) hne).trans (g.block i hi hne)⟩
theorem grown_alloc (a : World) (o : Obj) (r : Option Nat) : a.grownBy (a.alloc o) r :=
  ⟨rfl, rfl, rfl, by simp, fun i hi _ => Below.heap_alloc a o i hi⟩

def intTab : Array Value := #[.int .i64 9223372036854775807, .int .i64 (-9223372036854775808), .int .i64 1125899906842624, .int .i64 1125899906842625, .int .i64 65535, .int .i64 65536, .int .i64 255, .int .i64 256, .int .i64 1023, .int .i64 1024, .int .i64 65534, .int .i64 65535, .int .i64 4294967296, .int .i64 4611686018427387905]
theorem intTab_at (x : Nat) (h : x < 14) : ∃ v : Int, intTab[x]? = some (.int .i64 v) ∧ -9223372036854775808 ≤ v ∧ v ≤ 9223372036854775807 := by
  match x, h with
  | 0, _ => exact ⟨_, rfl, by decide, by decide⟩
  | 1, _ => exact ⟨_, rfl, by decide, by decide⟩
  | 2, _ => exact ⟨_, rfl, by decide, by decide⟩
  | 3, _ => exact ⟨_, rfl, by decide, by decide⟩
  | 4, _ => exact ⟨_, rfl, by decide, by decide⟩
  | 5, _ => exact ⟨_, rfl, by decide, by decide⟩
  | 6, _ => exact ⟨_, rfl, by decide, by decide⟩
  | 7, _ => exact ⟨_, rfl, by decide, by decide⟩
  | 8, _ => exact ⟨_, rfl, by decide, by decide⟩
  | 9, _ => exact ⟨_, rfl, by decide, by decide⟩
  | 10, _ => exact ⟨_, rfl, by decide, by decide⟩
  | 11, _ => exact ⟨_, rfl, by decide, by decide⟩
  | 12, _ => exact ⟨_, rfl, by decide, by decide⟩
  | 13, _ => exact ⟨_, rfl, by decide, by decide⟩
  | n + 14, h => omega

theorem int_any (cb : Nat) (w : World) (h : Cod w cb) :
    Calls Try.prog 17 #[.pointer (some ⟨cb, 0, none⟩)] w (Drew (-9223372036854775808) 9223372036854775807 w cb) := by
  go_enter Try.func17, Try.ntmps17
  go_wp2_with fail
  refine (next_any cb _ 10 h).mono ?_
  rintro e w1 ⟨y, rfl, hy0, _, hy1, hC1, hg1, hs1⟩
  have hy1 := hy1 (by omega)
  by_cases y0 : y = 0
  · subst y0
    go_wp2_with fail
    refine (next_any cb _ 3 hC1).mono ?_
    rintro e w2 ⟨z, rfl, hz0, _, hz1, hC2, hg2, hs2⟩
    have hz1 := hz1 (by omega)
    go_wp2_with fail
    go_ret
    exact ⟨_, rfl, by omega, by omega, hC2, grown_trans hg1 hg2⟩
  · by_cases y1 : y = 1
    · subst y1
      go_wp2_with fail
      refine (next_any cb _ 14 (hC1.alloc _)).mono ?_
      rintro e w2 ⟨z, rfl, hz0, _, hz1, hC2, hg2, hs2⟩
      have hz1 := hz1 (by omega)
      obtain ⟨z, rfl⟩ := Int.eq_ofNat_of_zero_le hz0
      obtain ⟨v, hv, hv0, hv1⟩ := intTab_at z (by omega)
      have hblk : Blk w2 w1.heap.size 3 intTab := (hg2.block w1.heap.size (by simp) (fun e => by have := hC1.lt; injection e with e; omega)).trans (Blk.new w1 _ _)
      have hcell := (hblk.cell z).trans hv
      clear hblk hv
      go_wp2_with fail
      go_ret
      exact ⟨_, rfl, hv0, hv1, hC2, grown_trans hg1 (grown_trans (grown_alloc _ _ _) hg2)⟩
    · by_cases y2 : y = 2
      · subst y2
        go_wp2_with fail
        refine (next_any cb _ 256 hC1).mono ?_
        rintro e w2 ⟨z, rfl, hz0, _, hz1, hC2, hg2, hs2⟩
        have hz1 := hz1 (by omega)
        go_wp2_with fail
        refine (next_any cb _ 256 hC2).mono ?_
        rintro e w3 ⟨u, rfl, hu0, _, hu1, hC3, hg3, hs3⟩
        have hu1 := hu1 (by omega)
        go_wp2_with fail
        go_ret
        exact ⟨_, rfl, by omega, by omega, hC3, grown_trans hg1 (grown_trans hg2 hg3)⟩
      · have b0 : (y == 0) = false := by simp [y0]
        have b1 : (y == 1) = false := by simp [y1]
        have b2 : (y == 2) = false := by simp [y2]
        go_wp2_with fail
        refine (next_any cb _ 40 hC1).mono ?_
        rintro e w2 ⟨z, rfl, hz0, _, hz1, hC2, hg2, hs2⟩
        have hz1 := hz1 (by omega)
        go_wp2_with fail
        go_ret
        exact ⟨_, rfl, by omega, by omega, hC2, grown_trans hg1 hg2⟩
end Go.Proofs.Ytllaojnnackhhaa
