/-
  The walks of the hexadecimal digits: the reference's Hex, digit; strings.IndexByte at the digits; both Parse.
-/
import Derived.Test.YtllaojnnackhhaaDoorByteStr
import Derived.Test.YtllaojnnackhhaaDoorParseLaw
import Derived.Test.YtllaojnnackhhaaDoorSymPair
import Derived.Test.YtllaojnnackhhaaDoorSymNil
namespace Go.Proofs.YtllaojnnackhhaaDoor
open Go.RowKit
set_option linter.unusedVariables false
set_option linter.unusedSimpArgs false
theorem dig_cut {x : Int} (h : 0 ≤ x ∧ x < 16) (w : World) : (Instr.sliceAt 9 (sv digitsL) (some (.int .u8 x)) (some (.int .u8 (x + 1))) none).run Tryd.prog w = .ok (sv [hexD x]) w := by
  obtain ⟨i, rfl⟩ := Int.eq_ofNat_of_zero_le h.1
  have hi : i < 16 := by omega
  have := str_cut (P := Tryd.prog) Tryd.underlying9 (s := digitsL) (k := .u8) (k' := .u8) (i := i) (j := i + 1) (by omega) (by show i + 1 ≤ 16; omega) w
  rw [show (((i + 1 : Nat)) : Int) = (i : Int) + 1 by omega] at this
  rw [this]
  congr 2
  have hd := digits_at hi
  have hl : i < digitsL.length := (List.getElem?_eq_some_iff.1 hd).1
  rw [show i + 1 - i = 1 by omega, List.drop_eq_getElem_cons hl]
  simp [(List.getElem?_eq_some_iff.1 hd).2]
theorem dig_none {x : Int} (h : ∀ j : Nat, j < 16 → ¬ hexD (j : Int) = x) : digV x = -1 := by
  have hl := digV_lt x
  by_cases h0 : 0 ≤ digV x
  · refine absurd (hexD_digV h0) ?_
    have := h (digV x).toNat (by omega)
    rwa [show (((digV x).toNat : Nat) : Int) = digV x by omega] at this
  · omega
theorem goodP_of {s : List Int} {k : Nat} {ya yb : Int} (ga : s.getD (2 * k) 0 = ya) (gb : s.getD (2 * k + 1) 0 = yb) (ha : ¬ digV ya < 0) (hb : ¬ digV yb < 0) : goodP s k = true := by
  unfold goodP
  rw [ga, gb, decide_eq_true (by omega), decide_eq_true (by omega)]; rfl
theorem bad_odd {s : List Int} (h : s.length % 2 ≠ 0) : canP s = false := by
  unfold canP; rw [decide_eq_false h]; rfl
theorem bad_k {s : List Int} {k : Nat} (h : 2 * k + 1 < s.length) (hg : goodP s k = false) : canP s = false := by
  unfold canP; rw [okP_le (k := s.length / 2) (by omega) hg]; exact Bool.and_false _
theorem bad_a {s : List Int} {k : Nat} {ya : Int} (h : 2 * k + 1 < s.length) (ga : s.getD (2 * k) 0 = ya) (ha : digV ya < 0) : canP s = false := bad_k h (by unfold goodP; rw [ga, decide_eq_false (by omega)]; rfl)
theorem bad_b {s : List Int} {k : Nat} {yb : Int} (h : 2 * k + 1 < s.length) (gb : s.getD (2 * k + 1) 0 = yb) (hb : digV yb < 0) : canP s = false := bad_k h (by unfold goodP; rw [gb, decide_eq_false (p := 0 ≤ digV yb) (by omega)]; exact Bool.and_false _)
theorem ret_bad {s : List Int} {w w1 : World} (h : canP s = false) (hrow : Pc.ok w.heap.size w1 (.row (.slice none 0 0) 5 1 0 [])) (hb : Below w.heap.size w w1) :
    ∃ A c, Ending.returned (.tuple #[.slice none 0 0, .int .i64 2]) = .returned (.tuple #[.slice A (outP s).length c, .int .i64 (errP s)]) ∧ (outP s).length ≤ c ∧ c ≤ maxLen ∧ w1.ownsRow w.heap.size 5 1 (.slice A (outP s).length c) (outP s).length (bv (outP s)) ∧ Below w.heap.size w w1 := by
  have ho : outP s = [] := by rw [outP, if_neg (by rw [h]; decide)]
  have he : errP s = 2 := by rw [errP, if_neg (by rw [h]; decide)]
  rw [ho, he]
  exact ⟨none, 0, rfl, Nat.le_refl _, Nat.zero_le _, hrow, hb⟩
theorem ret_good {s : List Int} {w w1 : World} {k c : Nat} {A : Option Addr} (hok : okP s k = true) (hk : s.length = 2 * k) (h1 : k ≤ c) (h2 : c ≤ maxLen) (hrow : Pc.ok w.heap.size w1 (.row (.slice A k c) 5 1 k (bv (valP s k)))) (hb : Below w.heap.size w w1) :
    ∃ A' c', Ending.returned (.tuple #[.slice A k c, .int .i64 0]) = .returned (.tuple #[.slice A' (outP s).length c', .int .i64 (errP s)]) ∧ (outP s).length ≤ c' ∧ c' ≤ maxLen ∧ w1.ownsRow w.heap.size 5 1 (.slice A' (outP s).length c') (outP s).length (bv (outP s)) ∧ Below w.heap.size w w1 := by
  have hk2 : s.length / 2 = k := by omega
  have hc : canP s = true := by unfold canP; rw [hk2, hok, decide_eq_true (by omega)]; rfl
  have ho : outP s = valP s k := by rw [outP, if_pos hc, hk2]
  have he : errP s = 0 := by rw [errP, if_pos hc]
  rw [ho, he, valP_len]
  exact ⟨A, c, rfl, h1, h2, hrow, hb⟩
theorem rhex_any (A : Option Addr) (n c : Nat) (l : List Int) (w : World) (hb : Byt w w.heap.size A n l) (hlim : n ≤ 10000000000) :
    Calls Tryd.prog 14 #[.slice A n c] w fun e w' => e = .returned (sv (hexL l)) ∧ Below w.heap.size w w' := by
  have hln : l.length = n := hb.len
  refine begin_ (vs := [.slice A n c]) Tryd.func14 rfl rfl rfl ?_ (Pm.start w)
  refine TC.seq_ ?_
  refine TC.region ?_
  refine TL.val rfl rfl rfl (gives_assign rfl rfl) ?_
  refine TL.end_ ?_
  refine TX.then_ ?_
  refine TC.seq_ ?_
  refine TC.region ?_
  refine TL.val rfl rfl rfl (gives_assign rfl rfl) ?_
  refine TL.end_ ?_
  refine TX.then_ ?_
  refine TC.seq_ ?_
  refine TC.seq_ ?_
  refine TC.region ?_
  refine TL.val rfl rfl rfl (gives_assign rfl rfl) ?_
  refine TL.end_ ?_
  refine TX.then_ ?_
  refine TC.block ?_
  refine TC.loop_ (α := {i : Nat // i ≤ n}) (fun x => [(0, .slice A n c), (4, .int .i64 (x.1 : Int)), (3, sv (hexL (l.take x.1)))]) (fun x => Pm w []) (fun x => n - x.1) (⟨0, Nat.zero_le _⟩) ⟨rfl, rfl, rfl, trivial⟩ (fun w hw => hw) ?_
  rintro ⟨i, hi⟩
  dsimp only at hi ⊢
  refine TC.seq_ ?_
  refine TC.seq_ ?_
  refine TC.region ?_
  refine TL.val rfl rfl rfl (gives_move rfl rfl) ?_
  refine TL.val rfl rfl rfl (gives_move rfl rfl) ?_
  refine TL.val rfl rfl rfl (gives_len rfl Tryd.underlying22 rfl) ?_
  refine TL.val rfl rfl rfl (gives_bin rfl rfl rfl (fun w => bin_lss w)) ?_
  refine TL.end_ ?_
  refine TX.then_ ?_
  refine TC.split rfl (fun hc8 => ?_) (fun hc8 => ?_)
  · have hi2 : i < n := by have := of_decide_eq_true hc8; omega
    obtain ⟨b0, o, x0, rfl, _⟩ := hb.at' (k := i) hi2
    obtain ⟨y, hl, hz, hm, hy⟩ := byt_cellU hb (k := i) hi2
    have hb0 := byt_block hb hi2
    have hr : 0 ≤ y ∧ y ≤ 255 := ⟨hz, hm⟩
    have h1 : 0 ≤ y / 16 ∧ y / 16 < 16 := by omega
    have h2 : 0 ≤ y % 16 ∧ y % 16 < 16 := by omega
    refine TC.skip_ ?_
    refine TX.then_ ?_
    refine TC.seq_ ?_
    refine TC.block ?_
    refine TC.quiet_ (E' := ?_) (by kernel_rfl) (by kernel_rfl) (fun w hw => hw.drawn _) ?_ ?_
    rotate_left
    · refine TQ.val rfl rfl rfl (gives_move rfl rfl) ?_
      refine TQ.val rfl rfl rfl (gives_move rfl rfl) ?_
      refine TQ.val rfl rfl rfl (gives_move rfl rfl) ?_
      refine TQ.val rfl rfl rfl (gives_at rfl rfl rfl (fun w => at_u8 b0 o n c i hi2 w)) ?_
      refine TQ.val rfl rfl rfl (gives_load rfl rfl (fun w => rfl) (fun w1 hw => (hw.bel.cell (p := ⟨b0, o + i, none⟩) hb0).trans hy)) ?_
      refine TQ.val rfl rfl rfl (gives_bin rfl rfl rfl (fun w => bin_shr 16 (by decide) (by decide) rfl w)) ?_
      refine TQ.val rfl rfl rfl (gives_move rfl rfl) ?_
      refine TQ.val rfl rfl rfl (gives_move rfl rfl) ?_
      refine TQ.val rfl rfl rfl (gives_at rfl rfl rfl (fun w => at_u8 b0 o n c i hi2 w)) ?_
      refine TQ.val rfl rfl rfl (gives_load rfl rfl (fun w => rfl) (fun w1 hw => (hw.bel.cell (p := ⟨b0, o + i, none⟩) hb0).trans hy)) ?_
      refine TQ.val rfl rfl rfl (gives_bin rfl rfl rfl (fun w => bin_shr 16 (by decide) (by decide) rfl w)) ?_
      refine TQ.val rfl rfl rfl (gives_bin rfl rfl rfl (fun w => bin_add_ (r := y / 16 + 1) (by simp only [IntKind.wrap_u8]; omega) w)) ?_
      refine TQ.val rfl rfl rfl (gives_slice (vx := sv digitsL) rfl rfl rfl rfl (fun w => dig_cut h1 w)) ?_
      refine TQ.val rfl rfl rfl (gives_move rfl rfl) ?_
      refine TQ.val rfl rfl rfl (gives_move rfl rfl) ?_
      refine TQ.val rfl rfl rfl (gives_at rfl rfl rfl (fun w => at_u8 b0 o n c i hi2 w)) ?_
      refine TQ.val rfl rfl rfl (gives_load rfl rfl (fun w => rfl) (fun w1 hw => (hw.bel.cell (p := ⟨b0, o + i, none⟩) hb0).trans hy)) ?_
      refine TQ.val rfl rfl rfl (gives_bin rfl rfl rfl (fun w => (and15 hr ▸ bin_bits (.inl rfl) w))) ?_
      refine TQ.val rfl rfl rfl (gives_move rfl rfl) ?_
      refine TQ.val rfl rfl rfl (gives_move rfl rfl) ?_
      refine TQ.val rfl rfl rfl (gives_at rfl rfl rfl (fun w => at_u8 b0 o n c i hi2 w)) ?_
      refine TQ.val rfl rfl rfl (gives_load rfl rfl (fun w => rfl) (fun w1 hw => (hw.bel.cell (p := ⟨b0, o + i, none⟩) hb0).trans hy)) ?_
      refine TQ.val rfl rfl rfl (gives_bin rfl rfl rfl (fun w => (and15 hr ▸ bin_bits (.inl rfl) w))) ?_
      refine TQ.val rfl rfl rfl (gives_bin rfl rfl rfl (fun w => bin_add_ (r := y % 16 + 1) (by simp only [IntKind.wrap_u8]; omega) w)) ?_
      refine TQ.val rfl rfl rfl (gives_slice (vx := sv digitsL) rfl rfl rfl rfl (fun w => dig_cut h2 w)) ?_
      refine TQ.val rfl rfl rfl (gives_bin2 rfl rfl rfl (fun w => bin_strcat (by simp) w)) ?_
      refine TQ.val rfl rfl rfl (gives_bin2 rfl rfl rfl (fun w => bin_strcat (by rw [hexL_len, List.length_take]; simp only [List.length_append, List.length_singleton]; omega) w)) ?_
      refine TQ.val rfl rfl rfl (gives_assign rfl rfl) ?_
      exact TQ.end_
    refine TX.in_normal ?_
    refine TX.then_ ?_
    refine TC.region ?_
    refine TL.val rfl rfl rfl (gives_move rfl rfl) ?_
    refine TL.val rfl rfl rfl (gives_bin rfl rfl rfl (fun w => bin_add_ (r := ((i + 1 : Nat) : Int)) (by simp only [IntKind.wrap_i64]; omega) w)) ?_
    refine TL.val rfl rfl rfl (gives_assign rfl rfl) ?_
    refine TL.end_ ?_
    exact TX.round (⟨i + 1, hi2⟩) (by show n - (i + 1) < n - i; omega) ⟨rfl, rfl, by rw [hexL_succ hl]; rfl, trivial⟩ (fun w hw => hw)
  · have hi2 : n = i := by have := of_decide_eq_false hc8; omega
    subst hi2
    refine TC.exit_ ?_
    refine TX.then_exit ?_
    refine TX.then_exit ?_
    refine TX.in_same ?_
    refine TX.then_ ?_
    refine TC.seq_ ?_
    refine TC.region ?_
    refine TL.val rfl rfl rfl (gives_move rfl rfl) ?_
    refine TL.val rfl rfl rfl (gives_assign rfl rfl) ?_
    refine TL.end_ ?_
    refine TX.then_ ?_
    refine TC.ret_ ?_
    exact ret_tmp Tryd.results14 (v := sv (hexL l)) (by rw [List.take_of_length_le (by omega)]; rfl) (fun w1 hw => ⟨rfl, hw.bel⟩)
theorem digit_any (x : Int) (w : World) (hx : 0 ≤ x ∧ x ≤ 255) :
    Calls Tryd.prog 25 #[.int .u8 x] w fun e w' => e = .returned (.int .i64 (digV x)) ∧ Below w.heap.size w w' := by
  refine begin_ (vs := [.int .u8 x]) Tryd.func25 rfl rfl rfl ?_ (Pm.start w)
  refine TC.seq_ ?_
  refine TC.region ?_
  refine TL.val rfl rfl rfl (gives_assign rfl rfl) ?_
  refine TL.end_ ?_
  refine TX.then_ ?_
  refine TC.seq_ ?_
  refine TC.seq_ ?_
  refine TC.region ?_
  refine TL.val rfl rfl rfl (gives_assign rfl rfl) ?_
  refine TL.end_ ?_
  refine TX.then_ ?_
  refine TC.block ?_
  refine TC.loop_ (α := {i : Nat // i ≤ 16 ∧ ∀ j : Nat, j < i → ¬ hexD (j : Int) = x}) (fun z => [(0, .int .u8 x), (3, .int .i64 (z.1 : Int))]) (fun z => Pm w []) (fun z => 16 - z.1) (⟨0, Nat.zero_le _, fun j h => absurd h (by omega)⟩) ⟨rfl, rfl, trivial⟩ (fun w hw => hw) ?_
  rintro ⟨i, hi, hno⟩
  dsimp only at hi hno ⊢
  refine TC.seq_ ?_
  refine TC.seq_ ?_
  refine TC.region ?_
  refine TL.val rfl rfl rfl (gives_move rfl rfl) ?_
  refine TL.val rfl rfl rfl (gives_bin rfl rfl rfl (fun w => bin_lss w)) ?_
  refine TL.end_ ?_
  refine TX.then_ ?_
  refine TC.split rfl (fun hc5 => ?_) (fun hc5 => ?_)
  · have hi2 : i < 16 := by have := of_decide_eq_true hc5; omega
    refine TC.skip_ ?_
    refine TX.then_ ?_
    refine TC.seq_ ?_
    refine TC.block ?_
    refine TC.seq_ ?_
    refine TC.region ?_
    refine TL.val rfl rfl rfl (gives_move rfl rfl) ?_
    refine TL.val rfl rfl rfl (gives_index (vx := sv digitsL) rfl rfl rfl (fun w => str_at Tryd.underlying9 (digits_at hi2) (hexD_byte _ (by omega) (by omega)) w)) ?_
    refine TL.val rfl rfl rfl (gives_move rfl rfl) ?_
    refine TL.val rfl rfl rfl (gives_bin rfl rfl rfl (fun w => bin_eql w)) ?_
    refine TL.end_ ?_
    refine TX.then_ ?_
    refine TC.split rfl (fun hc11 => ?_) (fun hc11 => ?_)
    · have hx2 : hexD (i : Int) = x := of_decide_eq_true hc11
      refine TC.seq_ ?_
      refine TC.region ?_
      refine TL.val rfl rfl rfl (gives_move rfl rfl) ?_
      refine TL.val rfl rfl rfl (gives_assign rfl rfl) ?_
      refine TL.end_ ?_
      refine TX.then_ ?_
      refine TC.ret_ ?_
      refine TX.in_ret ?_
      refine TX.then_ret ?_
      refine TX.then_ret ?_
      refine TX.in_ret ?_
      refine TX.then_ret ?_
      exact ret_tmp Tryd.results25 (v := .int .i64 (digV x)) (by rw [← hx2, digV_hexD (by omega)]; rfl) (fun w1 hw => ⟨rfl, hw.bel⟩)
    · have hx2 : ¬ hexD (i : Int) = x := of_decide_eq_false hc11
      refine TC.skip_ ?_
      refine TX.in_normal ?_
      refine TX.then_ ?_
      refine TC.region ?_
      refine TL.val rfl rfl rfl (gives_move rfl rfl) ?_
      refine TL.val rfl rfl rfl (gives_bin rfl rfl rfl (fun w => bin_add_ (r := ((i + 1 : Nat) : Int)) (by simp only [IntKind.wrap_i64]; omega) w)) ?_
      refine TL.val rfl rfl rfl (gives_assign rfl rfl) ?_
      refine TL.end_ ?_
      exact TX.round (⟨i + 1, hi2, fun j h => by rcases (by omega : j < i ∨ j = i) with h | h; exact hno j h; subst h; exact hx2⟩) (by show 16 - (i + 1) < 16 - i; omega) ⟨rfl, rfl, trivial⟩ (fun w hw => hw)
  · have hi2 : i = 16 := by have := of_decide_eq_false hc5; omega
    refine TC.exit_ ?_
    refine TX.then_exit ?_
    refine TX.then_exit ?_
    refine TX.in_same ?_
    refine TX.then_ ?_
    refine TC.seq_ ?_
    refine TC.region ?_
    refine TL.val rfl rfl rfl (gives_assign rfl rfl) ?_
    refine TL.end_ ?_
    refine TX.then_ ?_
    refine TC.ret_ ?_
    exact ret_tmp Tryd.results25 (v := .int .i64 (digV x)) (by rw [dig_none (fun j h => hno j (by omega))]; rfl) (fun w1 hw => ⟨rfl, hw.bel⟩)
theorem sl_any (x : Int) (w : World) (hx : 0 ≤ x ∧ x ≤ 255) :
    Calls Tryd.prog 32 #[sv digitsL, .int .u8 x] w fun e w' => e = .returned (.int .i64 (digV x)) ∧ Below w.heap.size w w' := by
  refine begin_ (vs := [sv digitsL, .int .u8 x]) Tryd.func32 rfl rfl rfl ?_ (Pm.start w)
  refine TC.seq_ ?_
  refine TC.region ?_
  refine TL.val rfl rfl rfl (gives_assign rfl rfl) ?_
  refine TL.end_ ?_
  refine TX.then_ ?_
  refine TC.seq_ ?_
  refine TC.region ?_
  refine TL.val rfl rfl rfl (gives_move rfl rfl) ?_
  refine TL.val rfl rfl rfl (gives_move rfl rfl) ?_
  refine TL.val rfl rfl rfl (gives_extern (vs := [sv digitsL, .int .u8 x]) (v := .int .i64 (digV x)) rfl rfl Tryd.func35 (by decide) rfl (by kernel_rfl) (e := Extern.BytealgIndexByte.indexByte) (by kernel_rfl) (fun w => by rw [← idx_dig hx]; exact Lib.run_indexByteString _ _ w)) ?_
  refine TL.val rfl rfl rfl (gives_assign rfl rfl) ?_
  refine TL.end_ ?_
  refine TX.then_ ?_
  refine TC.ret_ ?_
  exact ret_tmp Tryd.results32 rfl (fun w1 hw => ⟨rfl, hw.bel⟩)
theorem nmSl : (Tryd.f32.name == "runtime.NumGoroutine") = false := by decide
theorem bdSl : Tryd.f32.body.isNone = false := rfl
theorem ib_any (x : Int) (w : World) (hx : 0 ≤ x ∧ x ≤ 255) :
    Calls Tryd.prog 23 #[sv digitsL, .int .u8 x] w fun e w' => e = .returned (.int .i64 (digV x)) ∧ Below w.heap.size w w' := by
  refine begin_ (vs := [sv digitsL, .int .u8 x]) Tryd.func23 rfl rfl rfl ?_ (Pm.start w)
  refine TC.seq_ ?_
  refine TC.region ?_
  refine TL.val rfl rfl rfl (gives_assign rfl rfl) ?_
  refine TL.end_ ?_
  refine TX.then_ ?_
  refine TC.seq_ ?_
  refine TC.region ?_
  refine TL.val rfl rfl rfl (gives_move rfl rfl) ?_
  refine TL.val rfl rfl rfl (gives_move rfl rfl) ?_
  refine TL.pcall1 (r := .int .i64 (digV x)) rfl rfl rfl rfl rfl Tryd.func32 nmSl bdSl (fun w1 hw => sl_any x w1 hx) ?_
  refine TL.val rfl rfl rfl (gives_assign rfl rfl) ?_
  refine TL.end_ ?_
  refine TX.then_ ?_
  refine TC.ret_ ?_
  exact ret_tmp Tryd.results23 rfl (fun w1 hw => ⟨rfl, hw.bel⟩)
theorem nmIb : (Tryd.f23.name == "runtime.NumGoroutine") = false := by decide
theorem bdIb : Tryd.f23.body.isNone = false := rfl
theorem nmDg : (Tryd.f25.name == "runtime.NumGoroutine") = false := by decide
theorem bdDg : Tryd.f25.body.isNone = false := rfl
theorem parse_any (s : List Int) (w : World) (hs : Bs s) (hlim : s.length ≤ 1000000) :
    Calls Tryd.prog 12 #[sv s] w fun e w' => ∃ A c, e = .returned (.tuple #[.slice A (outP s).length c, .int .i64 (errP s)]) ∧ (outP s).length ≤ c ∧ c ≤ maxLen ∧ w'.ownsRow w.heap.size 5 1 (.slice A (outP s).length c) (outP s).length (bv (outP s)) ∧ Below w.heap.size w w' := by
  refine begin_ (vs := [sv s]) Tryd.func12 rfl rfl rfl ?_ (Pm.start w)
  refine TC.seq_ ?_
  refine TC.region ?_
  refine TL.val rfl rfl rfl (gives_assign rfl rfl) ?_
  refine TL.val rfl rfl rfl (gives_assign rfl rfl) ?_
  refine TL.end_ ?_
  refine TX.then_ ?_
  refine TC.seq_ ?_
  refine TC.seq_ ?_
  refine TC.region ?_
  refine TL.val rfl rfl rfl (gives_move rfl rfl) ?_
  refine TL.val rfl rfl rfl (gives_lenL rfl Tryd.underlying9 rfl) ?_
  refine TL.val rfl rfl rfl (gives_bin rfl rfl rfl (fun w => bin_remi (by omega) (by decide) w)) ?_
  refine TL.val rfl rfl rfl (gives_bin rfl rfl rfl (fun w => bin_neq w)) ?_
  refine TL.end_ ?_
  refine TX.then_ ?_
  refine TC.split rfl (fun hc11 => ?_) (fun hc11 => ?_)
  · have hodd := of_decide_eq_true hc11
    refine TC.seq_ ?_
    refine TC.region ?_
    refine TL.val rfl rfl rfl (gives_assign rfl rfl) ?_
    refine TL.val rfl rfl rfl (gives_assign rfl rfl) ?_
    refine TL.end_ ?_
    refine TX.then_ ?_
    refine TC.ret_ ?_
    refine TX.then_ret ?_
    refine TX.nilrow 5 1 ?_
    exact ret_pair (v1 := .slice none 0 0) (v2 := .int .i64 2) Tryd.results12 rfl rfl (fun w1 hw => ret_bad (bad_odd (by omega)) (hw.at_ (k := 0) rfl) hw.bel)
  · have heven : s.length % 2 = 0 := by have := of_decide_eq_false hc11; omega
    refine TC.skip_ ?_
    refine TX.then_ ?_
    refine TC.seq_ ?_
    refine TC.region ?_
    refine TL.val rfl rfl rfl (gives_assign rfl rfl) ?_
    refine TL.end_ ?_
    refine TX.then_ ?_
    refine TC.seq_ ?_
    refine TC.seq_ ?_
    refine TC.region ?_
    refine TL.val rfl rfl rfl (gives_assign rfl rfl) ?_
    refine TL.end_ ?_
    refine TX.then_ ?_
    refine TC.block ?_
    refine TC.loop_ (α := {x : Nat × Option Addr × Nat // 2 * x.1 ≤ s.length ∧ okP s x.1 = true ∧ x.1 ≤ x.2.2 ∧ x.2.2 ≤ maxLen}) (fun x => [(0, sv s), (4, .slice x.1.2.1 x.1.1 x.1.2.2), (5, .int .i64 ((2 * x.1.1 : Nat) : Int))]) (fun x => Pm w [.row (.slice x.1.2.1 x.1.1 x.1.2.2) 5 1 (x.1.1) (bv (valP s x.1.1))]) (fun x => s.length - x.1.1) (⟨(0, none, 0), Nat.zero_le _, rfl, Nat.zero_le _, Nat.zero_le _⟩) ⟨rfl, rfl, rfl, trivial⟩ (fun w hw => hw.nilrow 5 1) ?_
    rintro ⟨⟨k, A1, c1⟩, hk, hok, hcc⟩
    dsimp only at hk hok hcc ⊢
    refine TC.seq_ ?_
    refine TC.seq_ ?_
    refine TC.region ?_
    refine TL.val rfl rfl rfl (gives_move rfl rfl) ?_
    refine TL.val rfl rfl rfl (gives_move rfl rfl) ?_
    refine TL.val rfl rfl rfl (gives_lenL rfl Tryd.underlying9 rfl) ?_
    refine TL.val rfl rfl rfl (gives_bin rfl rfl rfl (fun w => bin_lss w)) ?_
    refine TL.end_ ?_
    refine TX.then_ ?_
    refine TC.split rfl (fun hc15 => ?_) (fun hc15 => ?_)
    · have hi2 : 2 * k < s.length := by have := of_decide_eq_true hc15; omega
      obtain ⟨ya, hya⟩ : ∃ y, s[2 * k]? = some y := ⟨_, List.getElem?_eq_getElem (by omega)⟩
      have ra := hs ya (List.mem_of_getElem? hya)
      have ga : s.getD (2 * k) 0 = ya := by rw [List.getD_eq_getElem?_getD, hya]; rfl
      have la := digV_lt ya
      obtain ⟨yb, hyb⟩ : ∃ y, s[2 * k + 1]? = some y := ⟨_, List.getElem?_eq_getElem (by omega)⟩
      have rb := hs yb (List.mem_of_getElem? hyb)
      have gb : s.getD (2 * k + 1) 0 = yb := by rw [List.getD_eq_getElem?_getD, hyb]; rfl
      have lb := digV_lt yb
      refine TC.skip_ ?_
      refine TX.then_ ?_
      refine TC.seq_ ?_
      refine TC.block ?_
      refine TC.seq_ ?_
      refine TC.quiet_ (E' := ?_) (by kernel_rfl) (by kernel_rfl) (fun w hw => hw.drawn _) ?_ ?_
      rotate_left
      · refine TQ.val rfl rfl rfl (gives_move rfl rfl) ?_
        refine TQ.val rfl rfl rfl (gives_move rfl rfl) ?_
        refine TQ.val rfl rfl rfl (gives_index rfl rfl rfl (fun w => str_at Tryd.underlying9 hya ra w)) ?_
        refine TQ.call (vs := [sv digitsL, .int .u8 ya]) (v := .int .i64 (digV ya)) rfl rfl rfl rfl rfl Tryd.func23 nmIb bdIb (fun w1 hw => (ib_any ya w1 ra).mono fun e w2 ⟨h1, h2⟩ => ⟨h1, hw.below h2⟩) ?_
        refine TQ.val rfl rfl rfl (gives_move rfl rfl) ?_
        refine TQ.val rfl rfl rfl (gives_move rfl rfl) ?_
        refine TQ.val rfl rfl rfl (gives_bin rfl rfl rfl (fun w => bin_add_ (r := ((2 * k + 1 : Nat) : Int)) (by simp only [IntKind.wrap_i64]; omega) w)) ?_
        refine TQ.val rfl rfl rfl (gives_index rfl rfl rfl (fun w => str_at Tryd.underlying9 hyb rb w)) ?_
        refine TQ.call (vs := [sv digitsL, .int .u8 yb]) (v := .int .i64 (digV yb)) rfl rfl rfl rfl rfl Tryd.func23 nmIb bdIb (fun w1 hw => (ib_any yb w1 rb).mono fun e w2 ⟨h1, h2⟩ => ⟨h1, hw.below h2⟩) ?_
        refine TQ.val rfl rfl rfl (gives_assign rfl rfl) ?_
        refine TQ.val rfl rfl rfl (gives_assign rfl rfl) ?_
        exact TQ.end_
      refine TX.then_ ?_
      refine TC.seq_ ?_
      refine TC.seq_ ?_
      rcases (by omega : digV ya < 0 ∨ (¬ digV ya < 0 ∧ digV yb < 0) ∨ (¬ digV ya < 0 ∧ ¬ digV yb < 0)) with ha | ⟨ha, hb2⟩ | ⟨ha, hb2⟩
      · refine TC.region ?_
        refine TL.val rfl rfl rfl (gives_move rfl rfl) ?_
        refine TL.val rfl rfl rfl (gives_bin (v := .bool true) rfl rfl rfl (fun w => bin_lss_t ha w)) ?_
        refine TL.val rfl rfl rfl (gives_move rfl rfl) ?_
        refine TL.off rfl rfl rfl rfl rfl rfl ?_
        refine TL.off rfl rfl rfl rfl rfl rfl ?_
        refine TL.val rfl rfl rfl (gives_pick rfl rfl rfl) ?_
        refine TL.end_ ?_
        refine TX.then_ ?_
        refine TC.split rfl (fun hc32 => ?_) (fun hc32 => ?_)
        · refine TC.seq_ ?_
          refine TC.region ?_
          refine TL.val rfl rfl rfl (gives_assign rfl rfl) ?_
          refine TL.val rfl rfl rfl (gives_assign rfl rfl) ?_
          refine TL.end_ ?_
          refine TX.then_ ?_
          refine TC.ret_ ?_
          refine TX.then_ret ?_
          refine TX.in_ret ?_
          refine TX.then_ret ?_
          refine TX.then_ret ?_
          refine TX.in_ret ?_
          refine TX.then_ret ?_
          refine TX.nilrow 5 1 ?_
          exact ret_pair (v1 := .slice none 0 0) (v2 := .int .i64 2) Tryd.results12 rfl rfl (fun w1 hw => ret_bad (bad_a (by omega) ga ha) (hw.at_ (k := 0) rfl) hw.bel)
        · exact absurd hc32 (by decide)
      · refine TC.region ?_
        refine TL.val rfl rfl rfl (gives_move rfl rfl) ?_
        refine TL.val rfl rfl rfl (gives_bin (v := .bool false) rfl rfl rfl (fun w => bin_lss_f ha w)) ?_
        refine TL.val rfl rfl rfl (gives_move rfl rfl) ?_
        refine TL.on rfl rfl rfl ?_
        refine TL.val rfl rfl rfl (gives_move rfl rfl) ?_
        refine TL.on rfl rfl rfl ?_
        refine TL.val rfl rfl rfl (gives_bin (v := .bool true) rfl rfl rfl (fun w => bin_lss_t hb2 w)) ?_
        refine TL.val rfl rfl rfl (gives_pick rfl rfl rfl) ?_
        refine TL.end_ ?_
        refine TX.then_ ?_
        refine TC.split rfl (fun hc32 => ?_) (fun hc32 => ?_)
        · refine TC.seq_ ?_
          refine TC.region ?_
          refine TL.val rfl rfl rfl (gives_assign rfl rfl) ?_
          refine TL.val rfl rfl rfl (gives_assign rfl rfl) ?_
          refine TL.end_ ?_
          refine TX.then_ ?_
          refine TC.ret_ ?_
          refine TX.then_ret ?_
          refine TX.in_ret ?_
          refine TX.then_ret ?_
          refine TX.then_ret ?_
          refine TX.in_ret ?_
          refine TX.then_ret ?_
          refine TX.nilrow 5 1 ?_
          exact ret_pair (v1 := .slice none 0 0) (v2 := .int .i64 2) Tryd.results12 rfl rfl (fun w1 hw => ret_bad (bad_b (by omega) gb hb2) (hw.at_ (k := 0) rfl) hw.bel)
        · exact absurd hc32 (by decide)
      · refine TC.region ?_
        refine TL.val rfl rfl rfl (gives_move rfl rfl) ?_
        refine TL.val rfl rfl rfl (gives_bin (v := .bool false) rfl rfl rfl (fun w => bin_lss_f ha w)) ?_
        refine TL.val rfl rfl rfl (gives_move rfl rfl) ?_
        refine TL.on rfl rfl rfl ?_
        refine TL.val rfl rfl rfl (gives_move rfl rfl) ?_
        refine TL.on rfl rfl rfl ?_
        refine TL.val rfl rfl rfl (gives_bin (v := .bool false) rfl rfl rfl (fun w => bin_lss_f hb2 w)) ?_
        refine TL.val rfl rfl rfl (gives_pick rfl rfl rfl) ?_
        refine TL.end_ ?_
        refine TX.then_ ?_
        refine TC.split rfl (fun hc32 => ?_) (fun hc32 => ?_)
        · exact absurd hc32 (by decide)
        · refine TC.skip_ ?_
          refine TX.then_ ?_
          refine TC.region ?_
          refine TL.val rfl rfl rfl (gives_move rfl rfl) ?_
          refine TL.val rfl rfl rfl (gives_move rfl rfl) ?_
          refine TL.val rfl rfl rfl (gives_bin rfl rfl rfl (fun w => bin_shl 16 (by decide) (by decide) rfl w)) ?_
          refine TL.val rfl rfl rfl (gives_move rfl rfl) ?_
          refine TL.val rfl rfl rfl (gives_bin (v := .int .i64 (16 * digV ya + digV yb)) rfl rfl rfl (fun w => (or16 (a := digV ya) (b := digV yb) (by omega) (by omega) ▸ bin_bits (.inr (.inl rfl)) w))) ?_
          refine TL.val rfl rfl rfl (gives_conv rfl rfl (fun w => conv_fit Tryd.underlying5 Tryd.underlying3 (by simp only [IntKind.wrap_u8]; omega) w)) ?_
          refine TL.prow (cs := bv [16 * digV ya + digV yb]) rfl rfl rfl rfl rfl (fun w => row1 _ w) (by decide) rfl (fun g1 => ?_)
          refine TL.append (k := 1) rfl rfl rfl rfl elU8 rfl rfl rfl (fun w hw => pm_reads hw (k := 0) rfl) (bv_one _) (by rw [Nat.mul_one]; omega) (k + 1) (by omega) (fun A2 c2 hA21 hA22 => ?_)
          refine TL.val rfl rfl rfl (gives_assign rfl rfl) ?_
          refine TL.end_ ?_
          refine TX.in_normal ?_
          refine TX.then_ ?_
          refine TC.region ?_
          refine TL.val rfl rfl rfl (gives_move rfl rfl) ?_
          refine TL.val rfl rfl rfl (gives_bin rfl rfl rfl (fun w => bin_add_ (r := ((2 * (k + 1) : Nat) : Int)) (by simp only [IntKind.wrap_i64]; omega) w)) ?_
          refine TL.val rfl rfl rfl (gives_assign rfl rfl) ?_
          refine TL.end_ ?_
          exact TX.round (⟨(k + 1, A2, c2), by omega, by rw [okP_succ, hok, goodP_of ga gb ha hb2]; rfl, hA21, hA22⟩) (by show s.length - (k + 1) < s.length - k; omega) ⟨rfl, rfl, rfl, trivial⟩ (fun w hw => by have h := Pm.tail hw; rw [valP_succ, ga, gb]; simpa [bv] using h)
    · have hi2 : s.length = 2 * k := by have := of_decide_eq_false hc15; omega
      refine TC.exit_ ?_
      refine TX.then_exit ?_
      refine TX.then_exit ?_
      refine TX.in_same ?_
      refine TX.then_ ?_
      refine TC.seq_ ?_
      refine TC.region ?_
      refine TL.val rfl rfl rfl (gives_move rfl rfl) ?_
      refine TL.val rfl rfl rfl (gives_assign rfl rfl) ?_
      refine TL.val rfl rfl rfl (gives_assign rfl rfl) ?_
      refine TL.end_ ?_
      refine TX.then_ ?_
      refine TC.ret_ ?_
      exact ret_pair (v1 := .slice A1 k c1) (v2 := .int .i64 0) Tryd.results12 rfl rfl (fun w1 hw => ret_good hok (by omega) hcc.1 hcc.2 (hw.at_ (k := 0) rfl) hw.bel)
set_option maxRecDepth 100000 in
theorem rparse_any (s : List Int) (w : World) (hs : Bs s) (hlim : s.length ≤ 1000000) :
    Calls Tryd.prog 16 #[sv s] w fun e w' => ∃ A c, e = .returned (.tuple #[.slice A (outP s).length c, .int .i64 (errP s)]) ∧ (outP s).length ≤ c ∧ c ≤ maxLen ∧ w'.ownsRow w.heap.size 5 1 (.slice A (outP s).length c) (outP s).length (bv (outP s)) ∧ Below w.heap.size w w' := by
  refine begin_ (vs := [sv s]) Tryd.func16 rfl rfl rfl ?_ (Pm.start w)
  refine TC.seq_ ?_
  refine TC.region ?_
  refine TL.val rfl rfl rfl (gives_assign rfl rfl) ?_
  refine TL.val rfl rfl rfl (gives_assign rfl rfl) ?_
  refine TL.end_ ?_
  refine TX.then_ ?_
  refine TC.seq_ ?_
  refine TC.region ?_
  refine TL.val rfl rfl rfl (gives_assign rfl rfl) ?_
  refine TL.end_ ?_
  refine TX.then_ ?_
  refine TC.seq_ ?_
  refine TC.seq_ ?_
  refine TC.region ?_
  refine TL.val rfl rfl rfl (gives_assign rfl rfl) ?_
  refine TL.end_ ?_
  refine TX.then_ ?_
  refine TC.block ?_
  refine TC.loop_ (α := {x : Nat × Option Addr × Nat // 2 * x.1 ≤ s.length ∧ okP s x.1 = true ∧ x.1 ≤ x.2.2 ∧ x.2.2 ≤ maxLen}) (fun x => [(0, sv s), (4, .slice x.1.2.1 x.1.1 x.1.2.2), (5, .int .i64 ((2 * x.1.1 : Nat) : Int))]) (fun x => Pm w [.row (.slice x.1.2.1 x.1.1 x.1.2.2) 5 1 (x.1.1) (bv (valP s x.1.1))]) (fun x => s.length - x.1.1) (⟨(0, none, 0), Nat.zero_le _, rfl, Nat.zero_le _, Nat.zero_le _⟩) ⟨rfl, rfl, rfl, trivial⟩ (fun w hw => hw.nilrow 5 1) ?_
  rintro ⟨⟨k, A1, c1⟩, hk, hok, hcc⟩
  dsimp only at hk hok hcc ⊢
  refine TC.seq_ ?_
  refine TC.seq_ ?_
  refine TC.region ?_
  refine TL.val rfl rfl rfl (gives_move rfl rfl) ?_
  refine TL.val rfl rfl rfl (gives_move rfl rfl) ?_
  refine TL.val rfl rfl rfl (gives_lenL rfl Tryd.underlying9 rfl) ?_
  refine TL.val rfl rfl rfl (gives_bin rfl rfl rfl (fun w => bin_lss w)) ?_
  refine TL.end_ ?_
  refine TX.then_ ?_
  refine TC.split rfl (fun hc9 => ?_) (fun hc9 => ?_)
  · have hi2 : 2 * k < s.length := by have := of_decide_eq_true hc9; omega
    obtain ⟨ya, hya⟩ : ∃ y, s[2 * k]? = some y := ⟨_, List.getElem?_eq_getElem (by omega)⟩
    have ra := hs ya (List.mem_of_getElem? hya)
    have ga : s.getD (2 * k) 0 = ya := by rw [List.getD_eq_getElem?_getD, hya]; rfl
    have la := digV_lt ya
    refine TC.skip_ ?_
    refine TX.then_ ?_
    refine TC.seq_ ?_
    refine TC.block ?_
    refine TC.seq_ ?_
    refine TC.seq_ ?_
    have hcs : 2 * k + 1 = s.length ∨ 2 * k + 1 < s.length := by omega
    rcases hcs with hodd | hlt
    · refine TC.region ?_
      refine TL.val rfl rfl rfl (gives_move rfl rfl) ?_
      refine TL.val rfl rfl rfl (gives_bin rfl rfl rfl (fun w => bin_add_ (r := ((2 * k + 1 : Nat) : Int)) (by simp only [IntKind.wrap_i64]; omega) w)) ?_
      refine TL.val rfl rfl rfl (gives_move rfl rfl) ?_
      refine TL.val rfl rfl rfl (gives_lenL rfl Tryd.underlying9 rfl) ?_
      refine TL.val rfl rfl rfl (gives_bin (v := .bool true) rfl rfl rfl (fun w => bin_eql_t (by omega) w)) ?_
      refine TL.val rfl rfl rfl (gives_move rfl rfl) ?_
      refine TL.off rfl rfl rfl rfl rfl rfl ?_
      refine TL.off rfl rfl rfl rfl rfl rfl ?_
      refine TL.off rfl rfl rfl rfl rfl rfl ?_
      refine TL.off rfl rfl rfl rfl rfl rfl ?_
      refine TL.off rfl rfl rfl rfl rfl rfl ?_
      refine TL.val rfl rfl rfl (gives_pick rfl rfl rfl) ?_
      refine TL.val rfl rfl rfl (gives_move rfl rfl) ?_
      refine TL.off rfl rfl rfl rfl rfl rfl ?_
      refine TL.off rfl rfl rfl rfl rfl rfl ?_
      refine TL.off rfl rfl rfl rfl rfl rfl ?_
      refine TL.off rfl rfl rfl rfl rfl rfl ?_
      refine TL.off rfl rfl rfl rfl rfl rfl ?_
      refine TL.off rfl rfl rfl rfl rfl rfl ?_
      refine TL.val rfl rfl rfl (gives_pick rfl rfl rfl) ?_
      refine TL.end_ ?_
      refine TX.then_ ?_
      refine TC.split rfl (fun hc31 => ?_) (fun hc31 => ?_)
      · refine TC.seq_ ?_
        refine TC.region ?_
        refine TL.val rfl rfl rfl (gives_assign rfl rfl) ?_
        refine TL.val rfl rfl rfl (gives_assign rfl rfl) ?_
        refine TL.end_ ?_
        refine TX.then_ ?_
        refine TC.ret_ ?_
        refine TX.then_ret ?_
        refine TX.in_ret ?_
        refine TX.then_ret ?_
        refine TX.then_ret ?_
        refine TX.in_ret ?_
        refine TX.then_ret ?_
        refine TX.nilrow 5 1 ?_
        exact ret_pair (v1 := .slice none 0 0) (v2 := .int .i64 2) Tryd.results16 rfl rfl (fun w1 hw => ret_bad (bad_odd (by omega)) (hw.at_ (k := 0) rfl) hw.bel)
      · exact absurd hc31 (by decide)
    · obtain ⟨yb, hyb⟩ : ∃ y, s[2 * k + 1]? = some y := ⟨_, List.getElem?_eq_getElem (by omega)⟩
      have rb := hs yb (List.mem_of_getElem? hyb)
      have gb : s.getD (2 * k + 1) 0 = yb := by rw [List.getD_eq_getElem?_getD, hyb]; rfl
      have lb := digV_lt yb
      rcases (by omega : digV ya < 0 ∨ (¬ digV ya < 0 ∧ digV yb < 0) ∨ (¬ digV ya < 0 ∧ ¬ digV yb < 0)) with ha | ⟨ha, hb2⟩ | ⟨ha, hb2⟩
      · refine TC.region ?_
        refine TL.val rfl rfl rfl (gives_move rfl rfl) ?_
        refine TL.val rfl rfl rfl (gives_bin rfl rfl rfl (fun w => bin_add_ (r := ((2 * k + 1 : Nat) : Int)) (by simp only [IntKind.wrap_i64]; omega) w)) ?_
        refine TL.val rfl rfl rfl (gives_move rfl rfl) ?_
        refine TL.val rfl rfl rfl (gives_lenL rfl Tryd.underlying9 rfl) ?_
        refine TL.val rfl rfl rfl (gives_bin (v := .bool false) rfl rfl rfl (fun w => bin_eql_f (by omega) w)) ?_
        refine TL.val rfl rfl rfl (gives_move rfl rfl) ?_
        refine TL.on rfl rfl rfl ?_
        refine TL.val rfl rfl rfl (gives_move rfl rfl) ?_
        refine TL.on rfl rfl rfl ?_
        refine TL.val rfl rfl rfl (gives_move rfl rfl) ?_
        refine TL.on rfl rfl rfl ?_
        refine TL.val rfl rfl rfl (gives_index rfl rfl rfl (fun w => str_at Tryd.underlying9 hya ra w)) ?_
        refine TL.on rfl rfl rfl ?_
        refine TL.pcall1 (r := .int .i64 (digV ya)) rfl rfl rfl rfl rfl Tryd.func25 nmDg bdDg (fun w1 hw => digit_any ya w1 ra) ?_
        refine TL.on rfl rfl rfl ?_
        refine TL.val rfl rfl rfl (gives_bin (v := .bool true) rfl rfl rfl (fun w => bin_lss_t ha w)) ?_
        refine TL.val rfl rfl rfl (gives_pick rfl rfl rfl) ?_
        refine TL.val rfl rfl rfl (gives_move rfl rfl) ?_
        refine TL.off rfl rfl rfl rfl rfl rfl ?_
        refine TL.off rfl rfl rfl rfl rfl rfl ?_
        refine TL.off rfl rfl rfl rfl rfl rfl ?_
        refine TL.off rfl rfl rfl rfl rfl rfl ?_
        refine TL.off rfl rfl rfl rfl rfl rfl ?_
        refine TL.off rfl rfl rfl rfl rfl rfl ?_
        refine TL.val rfl rfl rfl (gives_pick rfl rfl rfl) ?_
        refine TL.end_ ?_
        refine TX.then_ ?_
        refine TC.split rfl (fun hc31 => ?_) (fun hc31 => ?_)
        · refine TC.seq_ ?_
          refine TC.region ?_
          refine TL.val rfl rfl rfl (gives_assign rfl rfl) ?_
          refine TL.val rfl rfl rfl (gives_assign rfl rfl) ?_
          refine TL.end_ ?_
          refine TX.then_ ?_
          refine TC.ret_ ?_
          refine TX.then_ret ?_
          refine TX.in_ret ?_
          refine TX.then_ret ?_
          refine TX.then_ret ?_
          refine TX.in_ret ?_
          refine TX.then_ret ?_
          refine TX.nilrow 5 1 ?_
          exact ret_pair (v1 := .slice none 0 0) (v2 := .int .i64 2) Tryd.results16 rfl rfl (fun w1 hw => ret_bad (bad_a (by omega) ga ha) (hw.at_ (k := 0) rfl) hw.bel)
        · exact absurd hc31 (by decide)
      · refine TC.region ?_
        refine TL.val rfl rfl rfl (gives_move rfl rfl) ?_
        refine TL.val rfl rfl rfl (gives_bin rfl rfl rfl (fun w => bin_add_ (r := ((2 * k + 1 : Nat) : Int)) (by simp only [IntKind.wrap_i64]; omega) w)) ?_
        refine TL.val rfl rfl rfl (gives_move rfl rfl) ?_
        refine TL.val rfl rfl rfl (gives_lenL rfl Tryd.underlying9 rfl) ?_
        refine TL.val rfl rfl rfl (gives_bin (v := .bool false) rfl rfl rfl (fun w => bin_eql_f (by omega) w)) ?_
        refine TL.val rfl rfl rfl (gives_move rfl rfl) ?_
        refine TL.on rfl rfl rfl ?_
        refine TL.val rfl rfl rfl (gives_move rfl rfl) ?_
        refine TL.on rfl rfl rfl ?_
        refine TL.val rfl rfl rfl (gives_move rfl rfl) ?_
        refine TL.on rfl rfl rfl ?_
        refine TL.val rfl rfl rfl (gives_index rfl rfl rfl (fun w => str_at Tryd.underlying9 hya ra w)) ?_
        refine TL.on rfl rfl rfl ?_
        refine TL.pcall1 (r := .int .i64 (digV ya)) rfl rfl rfl rfl rfl Tryd.func25 nmDg bdDg (fun w1 hw => digit_any ya w1 ra) ?_
        refine TL.on rfl rfl rfl ?_
        refine TL.val rfl rfl rfl (gives_bin (v := .bool false) rfl rfl rfl (fun w => bin_lss_f ha w)) ?_
        refine TL.val rfl rfl rfl (gives_pick rfl rfl rfl) ?_
        refine TL.val rfl rfl rfl (gives_move rfl rfl) ?_
        refine TL.on rfl rfl rfl ?_
        refine TL.val rfl rfl rfl (gives_move rfl rfl) ?_
        refine TL.on rfl rfl rfl ?_
        refine TL.val rfl rfl rfl (gives_move rfl rfl) ?_
        refine TL.on rfl rfl rfl ?_
        refine TL.val rfl rfl rfl (gives_bin rfl rfl rfl (fun w => bin_add_ (r := ((2 * k + 1 : Nat) : Int)) (by simp only [IntKind.wrap_i64]; omega) w)) ?_
        refine TL.on rfl rfl rfl ?_
        refine TL.val rfl rfl rfl (gives_index rfl rfl rfl (fun w => str_at Tryd.underlying9 hyb rb w)) ?_
        refine TL.on rfl rfl rfl ?_
        refine TL.pcall1 (r := .int .i64 (digV yb)) rfl rfl rfl rfl rfl Tryd.func25 nmDg bdDg (fun w1 hw => digit_any yb w1 rb) ?_
        refine TL.on rfl rfl rfl ?_
        refine TL.val rfl rfl rfl (gives_bin (v := .bool true) rfl rfl rfl (fun w => bin_lss_t hb2 w)) ?_
        refine TL.val rfl rfl rfl (gives_pick rfl rfl rfl) ?_
        refine TL.end_ ?_
        refine TX.then_ ?_
        refine TC.split rfl (fun hc31 => ?_) (fun hc31 => ?_)
        · refine TC.seq_ ?_
          refine TC.region ?_
          refine TL.val rfl rfl rfl (gives_assign rfl rfl) ?_
          refine TL.val rfl rfl rfl (gives_assign rfl rfl) ?_
          refine TL.end_ ?_
          refine TX.then_ ?_
          refine TC.ret_ ?_
          refine TX.then_ret ?_
          refine TX.in_ret ?_
          refine TX.then_ret ?_
          refine TX.then_ret ?_
          refine TX.in_ret ?_
          refine TX.then_ret ?_
          refine TX.nilrow 5 1 ?_
          exact ret_pair (v1 := .slice none 0 0) (v2 := .int .i64 2) Tryd.results16 rfl rfl (fun w1 hw => ret_bad (bad_b (by omega) gb hb2) (hw.at_ (k := 0) rfl) hw.bel)
        · exact absurd hc31 (by decide)
      · refine TC.region ?_
        refine TL.val rfl rfl rfl (gives_move rfl rfl) ?_
        refine TL.val rfl rfl rfl (gives_bin rfl rfl rfl (fun w => bin_add_ (r := ((2 * k + 1 : Nat) : Int)) (by simp only [IntKind.wrap_i64]; omega) w)) ?_
        refine TL.val rfl rfl rfl (gives_move rfl rfl) ?_
        refine TL.val rfl rfl rfl (gives_lenL rfl Tryd.underlying9 rfl) ?_
        refine TL.val rfl rfl rfl (gives_bin (v := .bool false) rfl rfl rfl (fun w => bin_eql_f (by omega) w)) ?_
        refine TL.val rfl rfl rfl (gives_move rfl rfl) ?_
        refine TL.on rfl rfl rfl ?_
        refine TL.val rfl rfl rfl (gives_move rfl rfl) ?_
        refine TL.on rfl rfl rfl ?_
        refine TL.val rfl rfl rfl (gives_move rfl rfl) ?_
        refine TL.on rfl rfl rfl ?_
        refine TL.val rfl rfl rfl (gives_index rfl rfl rfl (fun w => str_at Tryd.underlying9 hya ra w)) ?_
        refine TL.on rfl rfl rfl ?_
        refine TL.pcall1 (r := .int .i64 (digV ya)) rfl rfl rfl rfl rfl Tryd.func25 nmDg bdDg (fun w1 hw => digit_any ya w1 ra) ?_
        refine TL.on rfl rfl rfl ?_
        refine TL.val rfl rfl rfl (gives_bin (v := .bool false) rfl rfl rfl (fun w => bin_lss_f ha w)) ?_
        refine TL.val rfl rfl rfl (gives_pick rfl rfl rfl) ?_
        refine TL.val rfl rfl rfl (gives_move rfl rfl) ?_
        refine TL.on rfl rfl rfl ?_
        refine TL.val rfl rfl rfl (gives_move rfl rfl) ?_
        refine TL.on rfl rfl rfl ?_
        refine TL.val rfl rfl rfl (gives_move rfl rfl) ?_
        refine TL.on rfl rfl rfl ?_
        refine TL.val rfl rfl rfl (gives_bin rfl rfl rfl (fun w => bin_add_ (r := ((2 * k + 1 : Nat) : Int)) (by simp only [IntKind.wrap_i64]; omega) w)) ?_
        refine TL.on rfl rfl rfl ?_
        refine TL.val rfl rfl rfl (gives_index rfl rfl rfl (fun w => str_at Tryd.underlying9 hyb rb w)) ?_
        refine TL.on rfl rfl rfl ?_
        refine TL.pcall1 (r := .int .i64 (digV yb)) rfl rfl rfl rfl rfl Tryd.func25 nmDg bdDg (fun w1 hw => digit_any yb w1 rb) ?_
        refine TL.on rfl rfl rfl ?_
        refine TL.val rfl rfl rfl (gives_bin (v := .bool false) rfl rfl rfl (fun w => bin_lss_f hb2 w)) ?_
        refine TL.val rfl rfl rfl (gives_pick rfl rfl rfl) ?_
        refine TL.end_ ?_
        refine TX.then_ ?_
        refine TC.split rfl (fun hc31 => ?_) (fun hc31 => ?_)
        · exact absurd hc31 (by decide)
        · refine TC.skip_ ?_
          refine TX.then_ ?_
          refine TC.held (ls := #[false, false, false, false, false, false, false, false, false, false, false, false, false, false, false, false]) (fun _ => True) (by kernel_rfl) rfl rfl (fun w hw => hw.drawn _) ?_
          refine TH.take (listed' := #[true, false, false, false, false, false, false, false, false, false, false, false, false, false, false, false]) 0 rfl (by kernel_rfl) (by kernel_rfl) (by kernel_rfl) rfl rfl rfl rfl (gives_move rfl rfl) (fun w hw => trivial) ?_
          refine TH.take (listed' := #[true, true, false, false, false, false, false, false, false, false, false, false, false, false, false, false]) 1 rfl (by kernel_rfl) (by kernel_rfl) (by kernel_rfl) rfl rfl rfl rfl (gives_move rfl rfl) (fun w hw => trivial) ?_
          refine TH.take (listed' := #[true, true, true, false, false, false, false, false, false, false, false, false, false, false, false, false]) 2 rfl (by kernel_rfl) (by kernel_rfl) (by kernel_rfl) rfl rfl rfl rfl (gives_move rfl rfl) (fun w hw => trivial) ?_
          refine TH.take (listed' := #[true, true, true, true, false, false, false, false, false, false, false, false, false, false, false, false]) 3 rfl (by kernel_rfl) (by kernel_rfl) (by kernel_rfl) rfl rfl rfl rfl (gives_index rfl rfl rfl (fun w => str_at Tryd.underlying9 hya ra w)) (fun w hw => trivial) ?_
          refine TH.take (listed' := #[true, true, true, true, false, false, true, false, false, false, false, false, false, false, false, false]) 6 rfl (by kernel_rfl) (by kernel_rfl) (by kernel_rfl) rfl rfl rfl rfl (gives_move rfl rfl) (fun w hw => trivial) ?_
          refine TH.take (listed' := #[true, true, true, true, false, false, true, true, false, false, false, false, false, false, false, false]) 7 rfl (by kernel_rfl) (by kernel_rfl) (by kernel_rfl) rfl rfl rfl rfl (gives_move rfl rfl) (fun w hw => trivial) ?_
          refine TH.take (listed' := #[true, true, true, true, false, false, true, true, true, false, false, false, false, false, false, false]) 8 rfl (by kernel_rfl) (by kernel_rfl) (by kernel_rfl) rfl rfl rfl rfl (gives_bin rfl rfl rfl (fun w => bin_add_ (r := ((2 * k + 1 : Nat) : Int)) (by simp only [IntKind.wrap_i64]; omega) w)) (fun w hw => trivial) ?_
          refine TH.take (listed' := #[true, true, true, true, false, false, true, true, true, true, false, false, false, false, false, false]) 9 rfl (by kernel_rfl) (by kernel_rfl) (by kernel_rfl) rfl rfl rfl rfl (gives_index rfl rfl rfl (fun w => str_at Tryd.underlying9 hyb rb w)) (fun w hw => trivial) ?_
          refine TH.only (listed' := #[true, true, true, true, true, false, true, true, true, true, false, false, false, false, false, false]) 4 rfl (by kernel_rfl) rfl rfl ?_
          refine TL.pcall1 (r := .int .i64 (digV ya)) rfl rfl rfl rfl rfl Tryd.func25 nmDg bdDg (fun w1 hw => digit_any ya w1 ra) ?_
          refine TL.end_ ?_
          refine TX.held (fun w hw => trivial) ?_
          refine TH.take (listed' := #[true, true, true, true, true, true, true, true, true, true, false, false, false, false, false, false]) 5 rfl (by kernel_rfl) (by kernel_rfl) (by kernel_rfl) rfl rfl rfl rfl (gives_bin rfl rfl rfl (fun w => bin_mul_ (r := 16 * digV ya) (by simp only [IntKind.wrap_i64]; omega) w)) (fun w hw => trivial) ?_
          refine TH.only (listed' := #[true, true, true, true, true, true, true, true, true, true, true, false, false, false, false, false]) 10 rfl (by kernel_rfl) rfl rfl ?_
          refine TL.pcall1 (r := .int .i64 (digV yb)) rfl rfl rfl rfl rfl Tryd.func25 nmDg bdDg (fun w1 hw => digit_any yb w1 rb) ?_
          refine TL.end_ ?_
          refine TX.held (fun w hw => trivial) ?_
          refine TH.take (listed' := #[true, true, true, true, true, true, true, true, true, true, true, true, false, false, false, false]) 11 rfl (by kernel_rfl) (by kernel_rfl) (by kernel_rfl) rfl rfl rfl rfl (gives_bin rfl rfl rfl (fun w => bin_add_ (r := 16 * digV ya + digV yb) (by simp only [IntKind.wrap_i64]; omega) w)) (fun w hw => trivial) ?_
          refine TH.take (listed' := #[true, true, true, true, true, true, true, true, true, true, true, true, true, false, false, false]) 12 rfl (by kernel_rfl) (by kernel_rfl) (by kernel_rfl) rfl rfl rfl rfl (gives_conv rfl rfl (fun w => conv_fit Tryd.underlying5 Tryd.underlying3 (by simp only [IntKind.wrap_u8]; omega) w)) (fun w hw => trivial) ?_
          refine TH.only (listed' := #[true, true, true, true, true, true, true, true, true, true, true, true, true, true, false, false]) 13 rfl (by kernel_rfl) rfl rfl ?_
          refine TL.prow (cs := bv [16 * digV ya + digV yb]) rfl rfl rfl rfl rfl (fun w => row1 _ w) (by decide) rfl (fun g1 => ?_)
          refine TL.end_ ?_
          refine TX.held (fun w hw => trivial) ?_
          refine TH.only (listed' := #[true, true, true, true, true, true, true, true, true, true, true, true, true, true, true, false]) 14 rfl (by kernel_rfl) rfl rfl ?_
          refine TL.append (k := 1) rfl rfl rfl rfl elU8 rfl rfl rfl (fun w hw => pm_reads hw (k := 0) rfl) (bv_one _) (by rw [Nat.mul_one]; omega) (k + 1) (by omega) (fun A2 c2 hA21 hA22 => ?_)
          refine TL.end_ ?_
          refine TX.held (fun w hw => trivial) ?_
          refine TH.take (listed' := #[true, true, true, true, true, true, true, true, true, true, true, true, true, true, true, true]) 15 rfl (by kernel_rfl) (by kernel_rfl) (by kernel_rfl) rfl rfl rfl rfl (gives_assign rfl rfl) (fun w hw => trivial) ?_
          refine TH.done (by kernel_rfl) ?_
          refine TX.in_normal ?_
          refine TX.then_ ?_
          refine TC.region ?_
          refine TL.val rfl rfl rfl (gives_move rfl rfl) ?_
          refine TL.val rfl rfl rfl (gives_bin rfl rfl rfl (fun w => bin_add_ (r := ((2 * (k + 1) : Nat) : Int)) (by simp only [IntKind.wrap_i64]; omega) w)) ?_
          refine TL.val rfl rfl rfl (gives_assign rfl rfl) ?_
          refine TL.end_ ?_
          exact TX.round (⟨(k + 1, A2, c2), by omega, by rw [okP_succ, hok, goodP_of ga gb ha hb2]; rfl, hA21, hA22⟩) (by show s.length - (k + 1) < s.length - k; omega) ⟨rfl, rfl, rfl, trivial⟩ (fun w hw => by have h := Pm.tail hw; rw [valP_succ, ga, gb]; simpa [bv] using h)
  · have hi2 : s.length = 2 * k := by have := of_decide_eq_false hc9; omega
    refine TC.exit_ ?_
    refine TX.then_exit ?_
    refine TX.then_exit ?_
    refine TX.in_same ?_
    refine TX.then_ ?_
    refine TC.seq_ ?_
    refine TC.region ?_
    refine TL.val rfl rfl rfl (gives_move rfl rfl) ?_
    refine TL.val rfl rfl rfl (gives_assign rfl rfl) ?_
    refine TL.val rfl rfl rfl (gives_assign rfl rfl) ?_
    refine TL.end_ ?_
    refine TX.then_ ?_
    refine TC.ret_ ?_
    exact ret_pair (v1 := .slice A1 k c1) (v2 := .int .i64 0) Tryd.results16 rfl rfl (fun w1 hw => ret_good hok (by omega) hcc.1 hcc.2 (hw.at_ (k := 0) rfl) hw.bel)
end Go.Proofs.YtllaojnnackhhaaDoor
