/-
  The iterator of slices.Chunk over bytes: its contract.
-/
import Derived.RangeFuncNested
import Derived.RangeFuncBound
import Derived.RangeFuncCalls
import Derived.RangeFuncLeaves
import Derived.Shelf.Abstract
import Derived.Shelf.RegionOpen
import Derived.WalkKit
import Derived.OwnWalkIn
import Derived.TacticsInMore
import Derived.LoopNIn
import Derived.LoopIn
import Derived.Sort.QuietIn
import Derived.Test.YtllaojnnackhhaaDoorBase
import Derived.Test.YtllaojnnackhhaaDoorProg
namespace Go.Proofs.YtllaojnnackhhaaDoor
open Go.RowKit Go.Shelf
attribute [local go_sem] Oper.semAt_some
set_option linter.unusedVariables false
set_option linter.unusedSimpArgs false
def chunksTo (K k : Nat) : List (Fin K) := (List.finRange K).take k
theorem chunksTo_succ (K k : Nat) (h : k < K) : chunksTo K (k + 1) = chunksTo K k ++ [⟨k, h⟩] := by
  unfold chunksTo
  rw [List.take_add_one]
  simp [h]
theorem chunksTo_len (K k : Nat) (h : k ≤ K) : (chunksTo K k).length = k := by simp [chunksTo]; omega
def KeepsCell (b2 b3 : Nat) (W W' : World) : Prop := (∀ v, W.cell? ⟨b2, 0, none⟩ = some v → W'.cell? ⟨b2, 0, none⟩ = some v) ∧ (∀ v, W.cell? ⟨b3, 0, none⟩ = some v → W'.cell? ⟨b3, 0, none⟩ = some v)
set_option maxRecDepth 100000 in
set_option maxHeartbeats 2000000 in
theorem chunk_in (n : Nat) (hn : 1 ≤ n) (l b2 b3 b0 o K c : Nat) (hKc : 64 * K ≤ c) (hcm : c ≤ maxLen) (J Jx : List (Fin K) → World → Prop)
    (hY : ∀ pre x W, J pre W → pre.length < K → YieldAt Fence.wide (n - 1) Tryd.prog l #[.slice (some ⟨b0, o + 64 * x.1, none⟩) 64 64] W fun e W' =>
      (e = .returned (.bool true) ∧ J (pre ++ [x]) W' ∧ KeepsCell b2 b3 W W') ∨ (e = .returned (.bool false) ∧ Jx (pre ++ [x]) W'))
    (W : World) (h2 : W.cell? ⟨b2, 0, none⟩ = some (.slice (some ⟨b0, o, none⟩) (64 * K) c)) (h3 : W.cell? ⟨b3, 0, none⟩ = some (.int .i64 64)) (hJa : AbidesFrom W.heap.size J) (h0 : J [] W) :
    CallsIn Fence.wide n Tryd.prog 27 #[.func (.yield l) #[] #[], .pointer (some ⟨b2, 0, none⟩), .pointer (some ⟨b3, 0, none⟩)] W fun e W' => (∃ v, e = .returned v) ∧
      ((∃ ys, ys = List.finRange K ∧ J ys W') ∨ (∃ pre, pre <+: List.finRange K ∧ Jx pre W')) := by
  refine callsIn_of_wp Tryd.func27 rfl trivial ?_ rfl
  simp only [Tryd.ntmps27, List.size_toArray, List.length_cons, List.length_nil, Nat.reduceAdd, Nat.reduceSub, Array.replicate_succ, Array.replicate_zero, List.push_toArray, List.append_toArray, List.nil_append, List.cons_append]
  gi_wp2
  gi_loopw [4] (fun i wr => ∃ k : Nat, k ≤ K ∧ i = .int .i64 ((64 * k : Nat) : Int) ∧ J (chunksTo K k) wr ∧ KeepsCell b2 b3 W wr)
    (fun i _ => 64 * K - (intOf i).toNat)
  case atStart => exact ⟨0, Nat.zero_le _, rfl, h0, fun v h => h, fun v h => h⟩
  case round =>
    obtain ⟨k, hk, rfl, hJs, hk2, hk30⟩ := hrel
    have hc2 := hk2 _ h2
    have hc3 := hk30 _ h3
    by_cases hlt : k < K
    · gi_wp2
      gi_quiet (fail)
      rename_i nq
      have hJ2 : J (chunksTo K k) (wr.drewN nq) := hJa _ _ _ none hJs ⟨rfl, rfl, rfl, Nat.le_refl _, fun _ _ _ => rfl⟩ (fun r e => by cases e)
      have hd2 : (wr.drewN nq).cell? ⟨b2, 0, none⟩ = some (.slice (some ⟨b0, o, none⟩) (64 * K) c) := hc2
      have hd3 : (wr.drewN nq).cell? ⟨b3, 0, none⟩ = some (.int .i64 64) := hc3
      have hk2' : ∀ v, W.cell? ⟨b2, 0, none⟩ = some v → (wr.drewN nq).cell? ⟨b2, 0, none⟩ = some v := hk2
      have hk3' : ∀ v, W.cell? ⟨b3, 0, none⟩ = some v → (wr.drewN nq).cell? ⟨b3, 0, none⟩ = some v := hk30
      generalize wr.drewN nq = wn at *
      obtain ⟨fn, tmps, assign, body, hy, hR⟩ := hY _ ⟨k, hlt⟩ wn hJ2 (by rw [chunksTo_len K k hk]; exact hlt)
      have hkc : 64 * (k : Int) + 64 ≤ (c : Int) := by omega
      have hml : c ≤ 9223372036854775807 := hcm
      have hwr : wrap64 (64 * (k : Int) + 64) = 64 * (k : Int) + 64 := by unfold wrap64; omega
      gi_wp2
      refine hR.mono ?_
      rintro e W3 (⟨rfl, hJ3, hk3⟩ | ⟨rfl, hJx3⟩)
      · have hk64 : wrap64 (64 * (k : Int) + 64) = 64 * ((k : Int) + 1) := by rw [hwr]; omega
        have he3 := hk3.2 _ hd3
        gi_wp2
        go_roundw
        case rel => exact ⟨k + 1, by omega, by simp; omega, by rw [chunksTo_succ K k hlt]; exact hJ3, fun v h => hk3.1 _ (hk2' v h), fun v h => hk3.2 _ (hk3' v h)⟩
        case measure => simp [intOf]; omega
      · gi_wp2
        refine bodyPost_ret (results_none rfl _ _ _) rfl ?_
        exact ⟨⟨_, rfl⟩, .inr ⟨_, by rw [← chunksTo_succ K k hlt]; exact List.take_prefix _ _, hJx3⟩⟩
    · obtain rfl : k = K := by omega
      gi_wp2
      go_end0
      exact ⟨⟨_, rfl⟩, .inl ⟨_, List.take_of_length_le (by simp), hJs⟩⟩
theorem chunk_stops (n : Nat) (hn : 1 ≤ n) (b2 b3 b0 o K c : Nat) (hKc : 64 * K ≤ c) (hcm : c ≤ maxLen) (w : World) (hb2 : b2 < w.heap.size) (hb3 : b3 < w.heap.size)
    (h2 : w.cell? ⟨b2, 0, none⟩ = some (.slice (some ⟨b0, o, none⟩) (64 * K) c)) (h3 : w.cell? ⟨b3, 0, none⟩ = some (.int .i64 64)) :
    SeqStopsK Fence.wide n Tryd.prog 27 #[.pointer (some ⟨b2, 0, none⟩), .pointer (some ⟨b3, 0, none⟩)] (fun x : Fin K => #[.slice (some ⟨b0, o + 64 * x.1, none⟩) 64 64]) (KeepsCell b2 b3) (fun ys => ys = List.finRange K) (fun pre => pre <+: List.finRange K) K w :=
  fun l J Jx W hW hJ hJx hY h0 => chunk_in n hn l b2 b3 b0 o K c hKc hcm J Jx hY W ((hW.cell (p := ⟨b2, 0, none⟩) hb2).trans h2) ((hW.cell (p := ⟨b3, 0, none⟩) hb3).trans h3) hJ h0
theorem keepsCell_t {b2 b3 : Nat} {A B C : World} (h : KeepsCell b2 b3 A B) (k : KeepsCell b2 b3 B C) : KeepsCell b2 b3 A C := ⟨fun v e => k.1 v (h.1 v e), fun v e => k.2 v (h.2 v e)⟩
theorem keepsCell_b {b2 b3 : Nat} (W : World) (l : Nat) (o o' : Obj) (h : W.heap[l]? = some o) (hc : o.isCells = false) : KeepsCell b2 b3 W (W.putObj l o') :=
  ⟨fun v e => cell_kept e (grownBy_putObj' W l o') (fun r he => by cases he; exact ⟨o, h, hc⟩), fun v e => cell_kept e (grownBy_putObj' W l o') (fun r he => by cases he; exact ⟨o, h, hc⟩)⟩
end Go.Proofs.YtllaojnnackhhaaDoor
