/-
  The contracts of package wire and of its reference, for all arguments: what they return is one function.
-/
import Derived.Test.YtllaojnnackhhaaWireRef
import Derived.Test.YtllaojnnackhhaaWireRPut
import Derived.Test.YtllaojnnackhhaaWireEq
namespace Go.Proofs.Ytllaojnnackhhaa
open Go.RowKit
set_option linter.unusedVariables false
set_option linter.unusedSimpArgs false

def addF (a b : Int) : Int := if 0 ≤ a ∧ a ≤ 65535 ∧ 0 ≤ b ∧ b ≤ 65535 then oc (a + b) else 0
theorem add_any (a b : Int) (w : World) : Calls Try.prog 11 #[.int .i64 a, .int .i64 b] w fun e w' => e = .returned (.int .i64 (addF a b)) ∧ w = w' := by
  unfold addF
  split
  · rename_i h; exact add_yes a b w h.1 h.2.1 h.2.2.1 h.2.2.2
  · rename_i h; exact add_no a b w h
theorem radd_any (a b : Int) (w : World) : Calls Try.prog 22 #[.int .i64 a, .int .i64 b] w fun e w' => e = .returned (.int .i64 (addF a b)) ∧ w = w' := by
  unfold addF
  split
  · rename_i h; exact radd_yes a b w h.1 h.2.1 h.2.2.1 h.2.2.2
  · rename_i h; exact radd_no a b w h
def updF (a b c : Int) : Int := if 0 ≤ a ∧ a ≤ 65535 ∧ 0 ≤ b ∧ b ≤ 65535 ∧ 0 ≤ c ∧ c ≤ 65535 then 65535 - oc (65535 - a + 65535 - b + c) else 0
theorem update_any (a b c : Int) (w : World) : Calls Try.prog 14 #[.int .i64 a, .int .i64 b, .int .i64 c] w fun e w' => e = .returned (.int .i64 (updF a b c)) ∧ w = w' := by
  unfold updF
  split
  · rename_i h; exact update_yes a b c w h.1 h.2.1 h.2.2.1 h.2.2.2.1 h.2.2.2.2.1 h.2.2.2.2.2
  · rename_i h; exact update_no a b c w h
theorem rupdate_any (a b c : Int) (w : World) : Calls Try.prog 25 #[.int .i64 a, .int .i64 b, .int .i64 c] w fun e w' => e = .returned (.int .i64 (updF a b c)) ∧ w = w' := by
  unfold updF
  split
  · rename_i h; exact rupdate_yes a b c w h.1 h.2.1 h.2.2.1 h.2.2.2.1 h.2.2.2.2.1 h.2.2.2.2.2
  · rename_i h; exact rupdate_no a b c w h

def getV (l : List Int) (p k : Int) : Int := if p < 0 ∨ k < 1 ∨ 7 < k then 0 else if (l.length : Int) < p + k then 0 else be ((l.drop p.toNat).take k.toNat)
def getE (l : List Int) (p k : Int) : Int := if p < 0 ∨ k < 1 ∨ 7 < k then 1 else if (l.length : Int) < p + k then 3 else 0
theorem get_any (A : Option Addr) (n c : Nat) (l : List Int) (w : World) (B : Nat) (hl : Byt w B A n l) (hn : n ≤ c) (hm : n ≤ 140737488355328) (p k : Int) :
    Calls Try.prog 12 #[.slice A n c, .int .i64 p, .int .i64 k] w fun e w' => e = .returned (.tuple #[.int .i64 (getV l p k), .int .i64 (getE l p k)]) ∧ w = w' := by
  unfold getV getE
  rw [hl.len]
  split
  · rename_i h; exact get_range A n c w p k h
  · rename_i h
    split
    · rename_i h2; exact get_short A n c w hm p k (by omega) (by omega) (by omega) h2
    · rename_i h2; exact get_ok A n c l w B hl hn hm p k (by omega) (by omega) (by omega) (by omega)
theorem rget_any (A : Option Addr) (n c : Nat) (l : List Int) (w : World) (B : Nat) (hl : Byt w B A n l) (hn : n ≤ c) (hm : n ≤ 140737488355328) (p k : Int) (hp : p ≤ 9223372036854775807) :
    Calls Try.prog 21 #[.slice A n c, .int .i64 p, .int .i64 k] w fun e w' => e = .returned (.tuple #[.int .i64 (getV l p k), .int .i64 (getE l p k)]) ∧ w = w' := by
  unfold getV getE
  rw [hl.len]
  split
  · rename_i h; exact rget_range A n c w p k h
  · rename_i h
    split
    · rename_i h2; exact rget_short A n c w hm p k (by omega) hp (by omega) (by omega) h2
    · rename_i h2; exact rget_ok A n c l w B hl hn hm p k (by omega) (by omega) (by omega) (by omega)

def putB (x k : Int) : Bool := decide (1 ≤ k ∧ k ≤ 7 ∧ 0 ≤ x ∧ x < 256 ^ k.toNat)
def putL (l : List Int) (x k : Int) : List Int := if putB x k then l ++ enc x k.toNat else []
theorem putL_len (l : List Int) (x k : Int) : (putL l x k).length ≤ l.length + 7 := by
  unfold putL putB
  split
  · rename_i h
    have := of_decide_eq_true h
    rw [List.length_append, enc_len]; omega
  · simp
def putE (x k : Int) : Int := if putB x k then 0 else 1
def PutAny (l : List Int) (x k : Int) (w : World) (e : Ending) (w' : World) : Prop :=
  ∃ A m c, e = .returned (.tuple #[.slice A m c, .int .i64 (putE x k)]) ∧ m ≤ c ∧ Byt w' w'.heap.size A m (putL l x k) ∧ Below w.heap.size w w'
theorem Put2.any {l : List Int} {x : Int} {k : Nat} {w w' : World} {e : Ending} (hb : Bs l) (hp : putB x k = true) (h : Put2 (l ++ enc x k) w e w') : PutAny l x k w e w' := by
  obtain ⟨A, m, c, rfl, h1, h2, h3, h4⟩ := h
  refine ⟨A, m, c, ?_, h1, ?_, h4⟩
  · unfold putE; rw [if_pos hp]
  · unfold putL; rw [if_pos hp]; exact byt_own h3 (hb.app (enc_bs _ _))
theorem putAny_no {l : List Int} {x k : Int} {w w' : World} {e : Ending} (hp : putB x k = false) (h : e = .returned (.tuple #[.slice none 0 0, .int .i64 1]) ∧ w = w') : PutAny l x k w e w' := by
  obtain ⟨rfl, rfl⟩ := h
  refine ⟨none, 0, 0, ?_, Nat.le_refl _, ?_, Below.refl _ _⟩
  · unfold putE; rw [hp]; rfl
  · unfold putL; rw [hp]; exact Byt.none_ _ _
theorem put_any (A : Option Addr) (n c : Nat) (l : List Int) (w : World) (hl : Byt w w.heap.size A n l) (hn : n ≤ 100000000) (x k : Int) :
    Calls Try.prog 18 #[.slice A n c, .int .i64 x, .int .i64 k] w (PutAny l x k w) := by
  by_cases h : k < 1 ∨ 7 < k ∨ x < 0
  · exact (put_no A n c w x k h).mono fun e w' => putAny_no (by unfold putB; rw [decide_eq_false]; omega)
  · obtain ⟨k, rfl⟩ := Int.eq_ofNat_of_zero_le (a := k) (by omega)
    by_cases hx : x < 256 ^ k
    · exact (put_ok A n c l w hl hn x k (by omega) (by omega) (by omega) hx).mono fun e w' => Put2.any hl.2 (by unfold putB; rw [decide_eq_true]; exact ⟨by omega, by omega, by omega, hx⟩)
    · exact (put_big A n c w x k (by omega) (by omega) (by omega) (by omega)).mono fun e w' => putAny_no (by unfold putB; rw [decide_eq_false]; rintro ⟨_, _, _, h4⟩; exact hx h4)
theorem rput_any (A : Option Addr) (n c : Nat) (l : List Int) (w : World) (hl : Byt w w.heap.size A n l) (hn : n ≤ 100000000) (x k : Int) :
    Calls Try.prog 19 #[.slice A n c, .int .i64 x, .int .i64 k] w (PutAny l x k w) := by
  by_cases h : k < 1 ∨ 7 < k ∨ x < 0
  · exact (rput_no A n c w x k h).mono fun e w' => putAny_no (by unfold putB; rw [decide_eq_false]; omega)
  · obtain ⟨k, rfl⟩ := Int.eq_ofNat_of_zero_le (a := k) (by omega)
    by_cases hx : x < 256 ^ k
    · exact (rput_ok A n c l w hl hn x k (by omega) (by omega) (by omega) hx).mono fun e w' => Put2.any hl.2 (by unfold putB; rw [decide_eq_true]; exact ⟨by omega, by omega, by omega, hx⟩)
    · exact (rput_big A n c w x k (by omega) (by omega) (by omega) (by omega)).mono fun e w' => putAny_no (by unfold putB; rw [decide_eq_false]; rintro ⟨_, _, _, h4⟩; exact hx h4)
end Go.Proofs.Ytllaojnnackhhaa
