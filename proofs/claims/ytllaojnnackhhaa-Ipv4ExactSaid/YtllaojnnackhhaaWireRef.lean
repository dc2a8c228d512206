/-
  The walks of the reference of chapter 4: word, Add, Get, Sum, Checksum, Update.
-/
import Derived.Test.YtllaojnnackhhaaWireGet
namespace Go.Proofs.Ytllaojnnackhhaa
open Go.RowKit
set_option linter.unusedVariables false
set_option linter.unusedSimpArgs false

theorem rword_yes (n : Int) (w : World) (h : 0 ≤ n) (h2 : n ≤ 65535) : Calls Try.prog 45 #[.int .i64 n] w fun e w' => e = .returned (.bool true) ∧ w = w' := by
  go_enter Try.func45, Try.ntmps45
  go_wp2
  go_ret
  exact ⟨by simp [h, h2], rfl⟩
theorem rword_no (n : Int) (w : World) (h : n < 0 ∨ 65535 < n) : Calls Try.prog 45 #[.int .i64 n] w fun e w' => e = .returned (.bool false) ∧ w = w' := by
  rcases h with h | h
  · go_enter Try.func45, Try.ntmps45
    go_wp2
    go_ret
    exact ⟨rfl, rfl⟩
  · have h0 : 0 ≤ n := by omega
    go_enter Try.func45, Try.ntmps45
    go_wp2
    go_ret
    exact ⟨by simp; omega, rfl⟩

theorem radd_yes (a b : Int) (w : World) (ha : 0 ≤ a) (ha2 : a ≤ 65535) (hb : 0 ≤ b) (hb2 : b ≤ 65535) : Calls Try.prog 22 #[.int .i64 a, .int .i64 b] w fun e w' => e = .returned (.int .i64 (oc (a + b))) ∧ w = w' := by
  have hx := and_65535 (a + b) (by omega) (by omega)
  have ho : Hid ((a + b) % 65536 + (a + b) / 65536 = oc (a + b)) := by
    show _ = _
    unfold oc; split <;> omega
  go_enter Try.func22, Try.ntmps22
  go_wp2_with (first
    | (go_at_call_of 45 a; refine (rword_yes _ _ ha ha2).mono ?_; rintro e w' ⟨rfl, rfl⟩)
    | (go_at_call_of 45 b; refine (rword_yes _ _ hb hb2).mono ?_; rintro e w' ⟨rfl, rfl⟩))
  go_ret
  exact ⟨ret_int ho.out, rfl⟩
theorem radd_no (a b : Int) (w : World) (h : ¬ (0 ≤ a ∧ a ≤ 65535 ∧ 0 ≤ b ∧ b ≤ 65535)) : Calls Try.prog 22 #[.int .i64 a, .int .i64 b] w fun e w' => e = .returned (.int .i64 0) ∧ w = w' := by
  by_cases ha : 0 ≤ a ∧ a ≤ 65535
  · obtain ⟨ha, ha2⟩ := ha
    have hb : b < 0 ∨ 65535 < b := by omega
    clear h
    go_enter Try.func22, Try.ntmps22
    go_wp2_with (first
      | (go_at_call_of 45 a; refine (rword_yes _ _ ha ha2).mono ?_; rintro e w' ⟨rfl, rfl⟩)
      | (go_at_call_of 45 b; refine (rword_no _ _ hb).mono ?_; rintro e w' ⟨rfl, rfl⟩))
    go_ret
    exact ⟨rfl, rfl⟩
  · have hb : a < 0 ∨ 65535 < a := by omega
    clear h ha
    go_enter Try.func22, Try.ntmps22
    go_wp2_with (first
      | (go_at_call 45; refine (rword_no _ _ hb).mono ?_; rintro e w' ⟨rfl, rfl⟩))
    go_ret
    exact ⟨rfl, rfl⟩

theorem rget_range (A : Option Addr) (n c : Nat) (w : World) (p k : Int) (h : p < 0 ∨ k < 1 ∨ 7 < k) :
    Calls Try.prog 21 #[.slice A n c, .int .i64 p, .int .i64 k] w fun e w' => e = .returned (.tuple #[.int .i64 0, .int .i64 1]) ∧ w = w' := by
  by_cases hk : k < 1
  · clear h
    go_enter Try.func21, Try.ntmps21
    go_wp2
    go_ret2
    exact ⟨rfl, rfl⟩
  · by_cases hk7 : 7 < k
    · clear h
      go_enter Try.func21, Try.ntmps21
      go_wp2
      go_ret2
      exact ⟨rfl, rfl⟩
    · have hp : p < 0 := by omega
      clear h
      go_enter Try.func21, Try.ntmps21
      go_wp2
      go_ret2
      exact ⟨rfl, rfl⟩
theorem rget_short (A : Option Addr) (n c : Nat) (w : World) (hm : n ≤ 140737488355328) (p k : Int) (hp : 0 ≤ p) (hp1 : p ≤ 9223372036854775807) (hk : 1 ≤ k) (hk7 : k ≤ 7) (hpk : n < p + k) :
    Calls Try.prog 21 #[.slice A n c, .int .i64 p, .int .i64 k] w fun e w' => e = .returned (.tuple #[.int .i64 0, .int .i64 3]) ∧ w = w' := by
  by_cases h : (n : Int) < p
  · clear hpk
    go_enter Try.func21, Try.ntmps21
    go_wp2
    go_ret2
    exact ⟨rfl, rfl⟩
  · have h1 : (n : Int) - p < k := by omega
    clear hpk
    go_enter Try.func21, Try.ntmps21
    go_wp2
    go_ret2
    exact ⟨rfl, rfl⟩
theorem rget_ok (A : Option Addr) (n c : Nat) (l : List Int) (w : World) (B : Nat) (hl : Byt w B A n l) (hn : n ≤ c) (hm : n ≤ 140737488355328) (p k : Int) (hp : 0 ≤ p) (hk : 1 ≤ k) (hk7 : k ≤ 7) (hpk : p + k ≤ n) :
    Calls Try.prog 21 #[.slice A n c, .int .i64 p, .int .i64 k] w fun e w' => e = .returned (.tuple #[.int .i64 (be ((l.drop p.toNat).take k.toNat)), .int .i64 0]) ∧ w = w' := by
  obtain ⟨p, rfl⟩ := Int.eq_ofNat_of_zero_le hp
  obtain ⟨k, rfl⟩ := Int.eq_ofNat_of_zero_le (a := k) (by omega)
  simp only [Int.toNat_natCast]
  have hll := Lib.hid hl.len
  have h1 : ¬ (n : Int) < p := by omega
  have h2 : ¬ (n : Int) - p < k := by omega
  go_enter Try.func21, Try.ntmps21
  go_wp2
  go_loop [8, 9] (fun s i => ∃ j : Nat, j ≤ k ∧ i = .int .i64 j ∧ s = .int .i64 (be ((l.drop p).take j))) (fun _ i => k - (intOf i).toNat)
  case atStart => exact ⟨0, Nat.zero_le _, rfl, rfl⟩
  case round =>
    obtain ⟨j, hj, rfl, rfl⟩ := hrel
    by_cases hlt : j < k
    · obtain ⟨hb0, hb1⟩ := be_bd7 ((l.drop p).take j) ((hl.2.drop p).take j) (by simp only [List.length_take]; omega)
      obtain ⟨ad, x, rfl, _, hx, hx0, hx1, hc⟩ := hl.at_ (k := p + j) (by omega)
      have hs := Lib.hid (be_take (l.drop p) j x (by rw [List.getElem?_drop]; exact hx))
      have ho := or_256 _ x hb0 hb1 hx0 hx1
      clear hx
      go_wp2
      go_round
      case rel => exact ⟨j + 1, by omega, by go_num, by rw [hs.out]⟩
      case measure => simp [intOf]; omega
    · obtain rfl : j = k := by omega
      go_wp2
      go_ret2
      exact ⟨rfl, rfl⟩

theorem raw_two (l : List Int) (k : Nat) (x : Int) (he : k % 2 = 0) (h : l[k]? = some x) (hk : k + 1 = l.length) : raw l = raw (l.take k) + x * 256 := by
  have := raw_take l k x h
  rw [List.take_of_length_le (by omega), if_pos he] at this
  exact this
theorem rsum_any (A : Option Addr) (n c : Nat) (l : List Int) (w : World) (B : Nat) (hl : Byt w B A n l) (hn : n ≤ 140737488355328) :
    Calls Try.prog 23 #[.slice A n c] w fun e w' => e = .returned (.int .i64 (sm l)) ∧ w = w' := by
  have hll := Lib.hid hl.len
  go_enter Try.func23, Try.ntmps23
  go_wp2
  go_loop [3, 4] (fun s i => ∃ k : Nat, k ≤ n + 1 ∧ k % 2 = 0 ∧ i = .int .i64 k ∧ s = .int .i64 (sm (l.take k))) (fun _ i => n + 2 - (intOf i).toNat)
  case atStart => exact ⟨0, Nat.zero_le _, rfl, rfl, rfl⟩
  case round =>
    obtain ⟨k, hk, he, rfl, rfl⟩ := hrel
    have HE : Hid (k % 2 = 0) := he
    have he2 : ∃ h, k = 2 * h := ⟨k / 2, by omega⟩
    clear he
    obtain ⟨b0, b1⟩ := sm_bd (l.take k) (hl.2.take k)
    by_cases hlt : k + 1 < n
    · obtain ⟨b, o, x, rfl, _, hx, hx0, hx1, hc⟩ := hl.at' (k := k) (by omega)
      obtain ⟨b', o', y, hA, _, hy, hy0, hy1, hc1⟩ := hl.at' (k := k + 1) (by omega)
      injection hA with hA
      injection hA with hA1 hA2
      subst hA1 hA2
      have hs : Hid (sm (l.take (k + 2)) = oc (sm (l.take k) + (x * 256 + y))) := by
        have e1 := raw_take l k x hx
        have e2 := raw_take l (k + 1) y hy
        rw [if_pos HE.out] at e1
        rw [if_neg (by have := HE.out; omega)] at e2
        show sm _ = _
        unfold sm
        rw [oc_oc (raw_bd _ (hl.2.take k)).1 (by omega), e2, e1, Int.add_assoc]
      clear hx hy
      go_wp2_with (go_at_call 22; refine (radd_yes _ _ _ b0 b1 (by omega) (by omega)).mono ?_; rintro e w' ⟨rfl, rfl⟩)
      go_round
      case rel => exact ⟨k + 2, by omega, by have := HE.out; omega, by go_num, by rw [hs.out]⟩
      case measure => simp [intOf]; omega
    · by_cases hlt2 : k < n
      · have hkn : k + 1 = n := by omega
        obtain ⟨ad, x, rfl, _, hx, hx0, hx1, hc⟩ := hl.at_ (k := k) (by omega)
        have hs : Hid (sm l = oc (sm (l.take k) + x * 256)) := by
          have e1 := raw_two l k x HE.out hx (by rw [hll.out]; exact hkn)
          show sm _ = _
          unfold sm
          rw [oc_oc (raw_bd _ (hl.2.take k)).1 (by omega), e1]
        have HK := Lib.hid hkn
        clear hx hkn
        have hge : n ≤ k + 1 := by omega
        go_wp2_with (go_at_call 22; refine (radd_yes _ _ _ b0 b1 (by omega) (by omega)).mono ?_; rintro e w' ⟨rfl, rfl⟩)
        go_round
        case rel => exact ⟨k + 2, by have := HK.out; omega, by have := HE.out; omega, by go_num, by rw [← hs.out, List.take_of_length_le (by have := hll.out; omega)]⟩
        case measure => simp [intOf]; omega
      · go_wp2
        go_ret
        exact ⟨ret_int (by rw [List.take_of_length_le (by have := hll.out; omega)]), rfl⟩
theorem rchecksum_any (A : Option Addr) (n c : Nat) (l : List Int) (w : World) (B : Nat) (hl : Byt w B A n l) (hn : n ≤ 140737488355328) :
    Calls Try.prog 24 #[.slice A n c] w fun e w' => e = .returned (.int .i64 (65535 - sm l)) ∧ w = w' := by
  obtain ⟨hb1, hb2⟩ := sm_bd l hl.2
  go_enter Try.func24, Try.ntmps24
  go_wp2_with (go_at_call 23; refine (rsum_any _ _ _ _ _ _ hl hn).mono ?_; rintro e w' ⟨rfl, rfl⟩)
  go_ret
  exact ⟨rfl, rfl⟩
theorem rupdate_yes (a b c : Int) (w : World) (ha : 0 ≤ a) (ha2 : a ≤ 65535) (hb : 0 ≤ b) (hb2 : b ≤ 65535) (hc : 0 ≤ c) (hc2 : c ≤ 65535) :
    Calls Try.prog 25 #[.int .i64 a, .int .i64 b, .int .i64 c] w fun e w' => e = .returned (.int .i64 (65535 - oc (65535 - a + 65535 - b + c))) ∧ w = w' := by
  obtain ⟨hx, hy⟩ := oc_bd (n := 65535 - a + (65535 - b)) (by omega)
  obtain ⟨hx1, hy1⟩ := oc_bd (n := oc (65535 - a + (65535 - b)) + c) (by omega)
  have hs : Hid (65535 - oc (oc (65535 - a + (65535 - b)) + c) = 65535 - oc (65535 - a + 65535 - b + c)) := by
    show _ - _ = _ - _
    rw [oc_oc (by omega) hc]
    congr 2; omega
  go_enter Try.func25, Try.ntmps25
  go_wp2_with (first
    | (go_at_call_of 45 a; refine (rword_yes _ _ ha ha2).mono ?_; rintro e w' ⟨rfl, rfl⟩)
    | (go_at_call_of 45 b; refine (rword_yes _ _ hb hb2).mono ?_; rintro e w' ⟨rfl, rfl⟩)
    | (go_at_call_of 45 c; refine (rword_yes _ _ hc hc2).mono ?_; rintro e w' ⟨rfl, rfl⟩)
    | (go_at_call_of 22 a; refine (radd_yes _ _ _ (by omega) (by omega) (by omega) (by omega)).mono ?_; rintro e w' ⟨rfl, rfl⟩)
    | (go_at_call 22; refine (radd_yes _ _ _ (by omega) (by omega) (by omega) (by omega)).mono ?_; rintro e w' ⟨rfl, rfl⟩))
  go_ret
  exact ⟨ret_int hs.out, rfl⟩
theorem rupdate_no (a b c : Int) (w : World) (h : ¬ (0 ≤ a ∧ a ≤ 65535 ∧ 0 ≤ b ∧ b ≤ 65535 ∧ 0 ≤ c ∧ c ≤ 65535)) :
    Calls Try.prog 25 #[.int .i64 a, .int .i64 b, .int .i64 c] w fun e w' => e = .returned (.int .i64 0) ∧ w = w' := by
  by_cases ha : 0 ≤ a ∧ a ≤ 65535
  · obtain ⟨ha, ha2⟩ := ha
    by_cases hb : 0 ≤ b ∧ b ≤ 65535
    · obtain ⟨hb, hb2⟩ := hb
      have hc : c < 0 ∨ 65535 < c := by omega
      clear h
      go_enter Try.func25, Try.ntmps25
      go_wp2_with (first
        | (go_at_call_of 45 a; refine (rword_yes _ _ ha ha2).mono ?_; rintro e w' ⟨rfl, rfl⟩)
        | (go_at_call_of 45 b; refine (rword_yes _ _ hb hb2).mono ?_; rintro e w' ⟨rfl, rfl⟩)
        | (go_at_call_of 45 c; refine (rword_no _ _ hc).mono ?_; rintro e w' ⟨rfl, rfl⟩))
      go_ret
      exact ⟨rfl, rfl⟩
    · have hb : b < 0 ∨ 65535 < b := by omega
      clear h
      go_enter Try.func25, Try.ntmps25
      go_wp2_with (first
        | (go_at_call_of 45 a; refine (rword_yes _ _ ha ha2).mono ?_; rintro e w' ⟨rfl, rfl⟩)
        | (go_at_call_of 45 b; refine (rword_no _ _ hb).mono ?_; rintro e w' ⟨rfl, rfl⟩))
      go_ret
      exact ⟨rfl, rfl⟩
  · have ha : a < 0 ∨ 65535 < a := by omega
    clear h
    go_enter Try.func25, Try.ntmps25
    go_wp2_with (first
      | (go_at_call_of 45 a; refine (rword_no _ _ ha).mono ?_; rintro e w' ⟨rfl, rfl⟩))
    go_ret
    exact ⟨rfl, rfl⟩
end Go.Proofs.Ytllaojnnackhhaa
