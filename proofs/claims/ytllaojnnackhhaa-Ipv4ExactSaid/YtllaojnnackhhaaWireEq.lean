/-
  The walks of Equal: the program's, by way of bytes.Equal, and the reference's.
-/
import Derived.Test.YtllaojnnackhhaaWireGet
import Derived.Laws.BytesArg
namespace Go.Proofs.Ytllaojnnackhhaa
open Go.RowKit
set_option linter.unusedVariables false
set_option linter.unusedSimpArgs false

def eqB (a b : List Int) : Bool := decide (a = b)

theorem ofNat_inj {x y : Int} (hx : 0 ≤ x ∧ x ≤ 255) (hy : 0 ≤ y ∧ y ≤ 255) (h : UInt8.ofNat x.toNat = UInt8.ofNat y.toNat) : x = y := by
  have := congrArg UInt8.toNat h
  simp only [UInt8.toNat_ofNat'] at this
  omega
theorem map_inj : ∀ (a b : List Int), Bs a → Bs b → (a.map fun n => UInt8.ofNat n.toNat) = (b.map fun n => UInt8.ofNat n.toNat) → a = b
  | [], [], _, _, _ => rfl
  | [], y :: b, _, _, h => by simp at h
  | x :: a, [], _, _, h => by simp at h
  | x :: a, y :: b, ha, hb, h => by
    simp only [List.map_cons, List.cons.injEq] at h
    rw [ofNat_inj (ha x (by simp)) (hb y (by simp)) h.1, map_inj a b (fun z hz => ha z (by simp [hz])) (fun z hz => hb z (by simp [hz])) h.2]

theorem run_convert_byt {P : Program} {w : World} {B n c : Nat} {A : Option Addr} {l : List Int} (h : Byt w B A n l) (src e dst : TypeId)
    (hs : P.underlying src = some (.slice e)) (he : P.underlying e = some (.int .u8)) (hd : P.underlying dst = some .string) :
    (convert src dst (.slice A n c)).run P w = .ok (.string (strOfNums l)) w := by
  have hl := h.len
  rcases Nat.eq_zero_or_pos n with hn | hn
  · subst hn
    obtain rfl : l = [] := List.eq_nil_of_length_eq_zero hl
    rcases A with _ | ad
    · rw [run_convert_bytes_nil w src e hs he _ _ dst hd]; rfl
    · have := run_bytesToString (P := P) w ad 0 c [] (by simpa using run_loadCells_list (P := P) w ad [] (fun j v hj => by simp at hj))
      rw [run_convert_bytes_string w src dst e _ 0 c hs he hd, this]; rfl
  · obtain ⟨b, o, x, rfl, _⟩ := h.at' hn
    refine run_convert_bytes_arg w src e hs he b o n c l hl (fun i hi => ?_) dst hd
    obtain ⟨b', o', y, hA, _, hy, _, _, hc⟩ := h.at' hi
    injection hA with hA
    injection hA with hA1 hA2
    subst hA1 hA2
    rw [hc]
    simp [List.getD, hy]

theorem bequal_any (A1 A2 : Option Addr) (n1 c1 n2 c2 : Nat) (l1 l2 : List Int) (w : World) (B : Nat) (h1 : Byt w B A1 n1 l1) (h2 : Byt w B A2 n2 l2) :
    Calls Try.prog 46 #[.slice A1 n1 c1, .slice A2 n2 c2] w fun e w' => e = .returned (.bool (eqB l1 l2)) ∧ w = w' := by
  have e1 := run_convert_byt (c := c1) h1 22 5 9 Try.underlying22 Try.underlying5 Try.underlying9
  have e2 := run_convert_byt (c := c2) h2 22 5 9 Try.underlying22 Try.underlying5 Try.underlying9
  have HB : Hid (Bs l1 ∧ Bs l2) := ⟨h1.2, h2.2⟩
  go_enter Try.func46, Try.ntmps46
  go_wp2
  go_ret
  refine ⟨ret_bool ?_, rfl⟩
  have hb := HB.out
  unfold eqB
  rw [Bool.eq_iff_iff]
  simp only [beq_iff_eq, decide_eq_true_eq]
  constructor
  · intro h
    exact map_inj _ _ hb.1 hb.2 (by rw [← strOfNums_data, ← strOfNums_data, ← ByteArray.toList_eq, ← ByteArray.toList_eq]; exact h)
  · rintro rfl; rfl
theorem wequal_any (A1 A2 : Option Addr) (n1 c1 n2 c2 : Nat) (l1 l2 : List Int) (w : World) (B : Nat) (h1 : Byt w B A1 n1 l1) (h2 : Byt w B A2 n2 l2) :
    Calls Try.prog 26 #[.slice A1 n1 c1, .slice A2 n2 c2] w fun e w' => e = .returned (.bool (eqB l1 l2)) ∧ w = w' := by
  go_enter Try.func26, Try.ntmps26
  go_wp2_with (go_at_call 46; refine (bequal_any _ _ _ _ _ _ _ _ _ _ h1 h2).mono ?_; rintro e w' ⟨rfl, rfl⟩)
  go_ret
  exact ⟨rfl, rfl⟩

theorem requal_len (A1 A2 : Option Addr) (n1 c1 n2 c2 : Nat) (w : World) (h : n1 ≠ n2) (hn1 : n1 ≤ 140737488355328) (hn2 : n2 ≤ 140737488355328) :
    Calls Try.prog 20 #[.slice A1 n1 c1, .slice A2 n2 c2] w fun e w' => e = .returned (.bool false) ∧ ∃ q, w' = w.drewN q := by
  have hb : ((n1 : Int) != n2) = true := by simp; omega
  clear h
  go_enter Try.func20, Try.ntmps20
  go_wp2
  go_ret
  exact ⟨rfl, 0, rfl⟩
theorem requal_same (A1 A2 : Option Addr) (n c1 c2 : Nat) (l1 l2 : List Int) (w : World) (B : Nat) (h1 : Byt w B A1 n l1) (h2 : Byt w B A2 n l2) (hn : n ≤ 140737488355328) :
    Calls Try.prog 20 #[.slice A1 n c1, .slice A2 n c2] w fun e w' => e = .returned (.bool (eqB l1 l2)) ∧ ∃ q, w' = w.drewN q := by
  have HL : Hid (l1.length = n ∧ l2.length = n) := ⟨h1.len, h2.len⟩
  go_enter Try.func20, Try.ntmps20
  go_wp2
  go_loopw [5] (fun i wr => ∃ k q : Nat, k ≤ n ∧ i = .int .i64 k ∧ l1.take k = l2.take k ∧ wr = w.drewN q) (fun i _ => n - (intOf i).toNat)
  case atStart => exact ⟨0, 0, Nat.zero_le _, rfl, rfl, rfl⟩
  case round =>
    obtain ⟨k, q, hk, rfl, he, rfl⟩ := hrel
    have HE := Lib.hid he
    clear he
    by_cases hlt : k < n
    · obtain ⟨b, o, x, rfl, _, hx, hx0, hx1, hc⟩ := h1.at' hlt
      obtain ⟨b', o', y, rfl, _, hy, hy0, hy1, hc1⟩ := h2.at' hlt
      have HX : Hid (l1[k]? = some x ∧ l2[k]? = some y) := ⟨hx, hy⟩
      clear hx hy
      by_cases hxy : x = y
      · subst hxy
        go_wp2
        go_quiet (fail)
        go_wp2
        go_roundw
        case rel => exact ⟨k + 1, _, by omega, by go_num, by rw [List.take_add_one, List.take_add_one, HE.out, HX.out.1, HX.out.2], rfl⟩
        case measure => simp [intOf]; omega
      · have hb : (x != y) = true := by simp [hxy]
        have HN := Lib.hid hxy
        clear hxy
        go_wp2
        go_quiet (fail)
        go_wp2
        go_ret
        refine ⟨ret_bool ?_, _, World.drewN_drewN _ _ _⟩
        unfold eqB
        rw [decide_eq_false]
        intro e
        have := HX.out
        rw [e] at this
        rw [this.1] at this
        exact HN.out (Option.some.inj this.2)
    · go_wp2
      go_ret
      refine ⟨ret_bool ?_, _, rfl⟩
      have h := HL.out
      have e := HE.out
      rw [List.take_of_length_le (by omega), List.take_of_length_le (by omega)] at e
      unfold eqB
      rw [decide_eq_true e]
theorem requal_any (A1 A2 : Option Addr) (n1 c1 n2 c2 : Nat) (l1 l2 : List Int) (w : World) (B : Nat) (h1 : Byt w B A1 n1 l1) (h2 : Byt w B A2 n2 l2) (hn1 : n1 ≤ 140737488355328) (hn2 : n2 ≤ 140737488355328) :
    Calls Try.prog 20 #[.slice A1 n1 c1, .slice A2 n2 c2] w fun e w' => e = .returned (.bool (eqB l1 l2)) ∧ ∃ q, w' = w.drewN q := by
  by_cases h : n1 = n2
  · subst h
    exact requal_same _ _ _ _ _ _ _ _ _ h1 h2 hn1
  · have : eqB l1 l2 = false := decide_eq_false (fun e => h (by rw [← h1.len, ← h2.len, e]))
    rw [this]
    exact requal_len _ _ _ _ _ _ _ h hn1 hn2
end Go.Proofs.Ytllaojnnackhhaa
