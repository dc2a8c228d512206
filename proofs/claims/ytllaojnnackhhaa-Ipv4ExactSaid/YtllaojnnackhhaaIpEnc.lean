/-
  The walk of ipv4.Encode.
-/
import Derived.Test.YtllaojnnackhhaaIpCheck
import Derived.Test.YtllaojnnackhhaaWirePut
import Derived.Test.YtllaojnnackhhaaWireSum
namespace Go.Proofs.Ytllaojnnackhhaa
open Go.RowKit
set_option linter.unusedVariables false
set_option linter.unusedSimpArgs false

def EncAny (L : List Int) (E : Int) (w : World) (e : Ending) (w' : World) : Prop :=
  ∃ A m c, e = .returned (.tuple #[.slice A m c, .int .i64 E]) ∧ m ≤ c ∧ Byt w' w'.heap.size A m L ∧ Below w.heap.size w w'

/-- the ten numbers of a header, and their widths -/
def px (tos len id fl ttl proto src dst : Int) (j : Nat) : Int := [69, tos, len, id, fl, ttl, proto, 0, src, dst].getD j 0
def pk (j : Nat) : Nat := [1, 1, 2, 2, 2, 1, 1, 2, 4, 4].getD j 0
def pbytes (tos len id fl ttl proto src dst : Int) : Nat → List Int
  | 0 => []
  | j + 1 => pbytes tos len id fl ttl proto src dst j ++ enc (px tos len id fl ttl proto src dst j) (pk j)
theorem pbytes_bs (tos len id fl ttl proto src dst : Int) : ∀ j, Bs (pbytes tos len id fl ttl proto src dst j)
  | 0 => Bs.nil
  | j + 1 => (pbytes_bs tos len id fl ttl proto src dst j).app (enc_bs _ _)
theorem pbytes_len (tos len id fl ttl proto src dst : Int) (j : Nat) (h : j ≤ 10) : (pbytes tos len id fl ttl proto src dst j).length ≤ 20 := by
  match j, h with
  | 0, _ => simp [pbytes]
  | 1, _ => simp [pbytes, enc_len, pk]
  | 2, _ => simp [pbytes, enc_len, pk]
  | 3, _ => simp [pbytes, enc_len, pk]
  | 4, _ => simp [pbytes, enc_len, pk]
  | 5, _ => simp [pbytes, enc_len, pk]
  | 6, _ => simp [pbytes, enc_len, pk]
  | 7, _ => simp [pbytes, enc_len, pk]
  | 8, _ => simp [pbytes, enc_len, pk]
  | 9, _ => simp [pbytes, enc_len, pk]
  | 10, _ => simp [pbytes, enc_len, pk]
  | j + 11, h => omega
theorem pbytes_ten (tos len id fl ttl proto src dst : Int) : pbytes tos len id fl ttl proto src dst 10 = (enc 69 1 ++ enc tos 1 ++ enc len 2 ++ enc id 2 ++ enc fl 2 ++ enc ttl 1 ++ enc proto 1) ++ enc 0 2 ++ (enc src 4 ++ enc dst 4) := by
  simp only [pbytes, px, pk, List.getD_cons_zero, List.getD_cons_succ, List.nil_append, List.append_assoc]
theorem px_fits (tos len id fl ttl proto src dst : Int) (j : Nat) (h : j < 10) (h1 : (0 ≤ tos ∧ tos < 256) ∧ (0 ≤ ttl ∧ ttl < 256) ∧ (0 ≤ proto ∧ proto < 256) ∧ (0 ≤ id ∧ id < 65536)) (h2 : 0 ≤ len ∧ len ≤ 65535) (h3 : 0 ≤ fl ∧ fl ≤ 16384) (h4 : 0 ≤ src ∧ src ≤ 4294967295) (h5 : 0 ≤ dst ∧ dst ≤ 4294967295) :
    0 ≤ px tos len id fl ttl proto src dst j ∧ px tos len id fl ttl proto src dst j < 256 ^ pk j ∧ 1 ≤ pk j ∧ pk j ≤ 7 := by
  match j, h with
  | 0, _ => simp [px, pk]
  | 1, _ => simp [px, pk]; omega
  | 2, _ => simp [px, pk]; omega
  | 3, _ => simp [px, pk]; omega
  | 4, _ => simp [px, pk]; omega
  | 5, _ => simp [px, pk]; omega
  | 6, _ => simp [px, pk]; omega
  | 7, _ => simp [px, pk]
  | 8, _ => simp [px, pk]; omega
  | 9, _ => simp [px, pk]; omega
  | j + 10, h => omega
theorem idx_run (tos len id fl ttl proto src dst : Int) (j : Nat) (h : j < 10) (W : World) :
    (Instr.index 66 (.agg #[.int .i64 69, .int .i64 1, .int .i64 tos, .int .i64 1, .int .i64 len, .int .i64 2, .int .i64 id, .int .i64 2, .int .i64 fl, .int .i64 2, .int .i64 ttl, .int .i64 1, .int .i64 proto, .int .i64 1, .int .i64 0, .int .i64 2, .int .i64 src, .int .i64 4, .int .i64 dst, .int .i64 4]) (.int .i64 (j : Int))).run Try.prog W = .ok (.agg #[.int .i64 (px tos len id fl ttl proto src dst j), .int .i64 ((pk j : Nat) : Int)]) W := by
  match j, h with
  | 0, _ => rfl
  | 1, _ => rfl
  | 2, _ => rfl
  | 3, _ => rfl
  | 4, _ => rfl
  | 5, _ => rfl
  | 6, _ => rfl
  | 7, _ => rfl
  | 8, _ => rfl
  | 9, _ => rfl
  | j + 10, h => omega

set_option maxRecDepth 100000 in
set_option maxHeartbeats 4000000 in
theorem encode_ok_true (tos id ttl proto : Int) (src dst : Int) (A : Option Addr) (n c : Nat) (d : List Int) (w : World) (hd : Byt w w.heap.size A n d) (hn : n ≤ 1480) (hc : checkB ⟨tos, id, ttl, proto, true, src, dst⟩ = true)
    (hs0 : 0 ≤ src) (hs1 : src ≤ 4294967295) (hd0 : 0 ≤ dst) (hd1 : dst ≤ 4294967295) :
    Calls Try.prog 29 #[.agg #[.int .i64 tos, .int .i64 id, .int .i64 ttl, .int .i64 proto, .bool true, .int .u32 src, .int .u32 dst, .slice A n c]] w (EncAny (hdB ⟨tos, id, ttl, proto, true, src, dst⟩ (20 + n) ++ d) 0 w) := by
  have he := Lib.hid (show checkE ⟨tos, id, ttl, proto, true, src, dst⟩ = 0 from if_pos hc)
  have HC := Lib.hid (checkB_iff.1 hc)
  have HN : Hid ((20 : Int) + n ≤ 65535) := (by omega : (20 : Int) + n ≤ 65535)
  clear hc
  go_enter Try.func29, Try.ntmps29
  go_wp2_with fail
  refine (check_any ⟨tos, id, ttl, proto, true, src, dst⟩ _).mono ?_
  rintro e w1 ⟨rfl, hb1⟩
  have B0 : Blk w1 w.heap.size 48 #[.int .i64 tos, .int .i64 id, .int .i64 ttl, .int .i64 proto, .bool true, .int .u32 src, .int .u32 dst, .slice A n c] := ((Blk.new w _ _).alloc _).below hb1 (by simp; omega)
  have B1 : Blk w1 (w.heap.size + 1) 46 #[.int .i64 tos, .int .i64 id, .int .i64 ttl, .int .i64 proto, .bool true, .int .u32 src, .int .u32 dst] := by
    have := (Blk.new (w.alloc (.cells #[.int .i64 tos, .int .i64 id, .int .i64 ttl, .int .i64 proto, .bool true, .int .u32 src, .int .u32 dst, .slice A n c] 48)) 46 #[.int .i64 tos, .int .i64 id, .int .i64 ttl, .int .i64 proto, .bool true, .int .u32 src, .int .u32 dst]).below hb1 (by simp)
    simpa using this
  have hw1 : Below w.heap.size w w1 := (((Below.refl _ _).alloc (Nat.le_refl _) _).alloc (by simp) _).trans (hb1.mono (by simp; omega))
  clear hb1
  have c0 := B0.cell
  have c1 := B1.cell
  rw [he.out]
  go_wp2_with fail
  clear c0 c1 B1
  have HI := Lib.hid (idx_run tos (20 + (n : Int)) id 16384 ttl proto src dst)
  have HX := Lib.hid (fun j h => px_fits tos (20 + (n : Int)) id 16384 ttl proto src dst j h HC.out ⟨by omega, HN.out⟩ (by omega) ⟨hs0, hs1⟩ ⟨hd0, hd1⟩)
  go_loopw [7, 54] (fun v s wr => ∃ (j : Nat) (A' : Option Addr) (m c' : Nat), j ≤ 10 ∧ s = .int .i64 j ∧ v = .slice A' m c' ∧ m ≤ c' ∧ wr.ownsRow w.heap.size 5 1 (.slice A' m c') m (bv (pbytes tos (20 + (n : Int)) id 16384 ttl proto src dst j)) ∧ Below w.heap.size w wr ∧ Blk wr w.heap.size 48 #[.int .i64 tos, .int .i64 id, .int .i64 ttl, .int .i64 proto, .bool true, .int .u32 src, .int .u32 dst, .slice A n c]) (fun _ s _ => 10 - (intOf s).toNat)
  case atStart => exact ⟨0, none, 0, 0, Nat.zero_le _, rfl, rfl, Nat.le_refl _, World.ownsRow_nil _ _ _ _, hw1, B0⟩
  case round =>
    obtain ⟨j, A', m, c', hj, rfl, rfl, hmc, hown, hb, B2⟩ := hrel
    have hbs := pbytes_bs tos (20 + (n : Int)) id 16384 ttl proto src dst j
    have hml : m ≤ 20 := by
      have := hown.1
      rw [bv_len] at this
      have := pbytes_len tos (20 + (n : Int)) id 16384 ttl proto src dst j hj
      omega
    by_cases hlt : j < 10
    · obtain ⟨x0, x1, k1, k7⟩ := HX.out j hlt
      have hidx := HI.out j hlt
      have hl : Hid (pbytes tos (20 + (n : Int)) id 16384 ttl proto src dst (j + 1) = pbytes tos (20 + (n : Int)) id 16384 ttl proto src dst j ++ enc (px tos (20 + (n : Int)) id 16384 ttl proto src dst j) (pk j)) := rfl
      generalize px tos (20 + (n : Int)) id 16384 ttl proto src dst j = xj at *
      generalize pk j = kj at *
      have hB := Lib.hid (byt_own hown hbs)
      clear hbs
      go_wp2_with fail
      have hbx := hB.out.alloc (Nat.le_refl _) (.cells #[.int .i64 xj, .int .i64 (kj : Int)] 65)
      refine (put_ok _ _ _ _ _ (hbx.more (by simp)) (by omega) _ _ x0 k1 k7 x1).mono ?_
      rintro e w2 ⟨A2, m2, c2, rfl, hc2, hm2, hown2, hb2⟩
      have hb3 := (hb.alloc hb.size (.cells #[.int .i64 xj, .int .i64 (kj : Int)] 65)).trans (hb2.mono (by have := hb.size; simp; omega))
      have B3 := (B2.alloc (.cells #[.int .i64 xj, .int .i64 (kj : Int)] 65)).below hb2 (by have := B2.lt; simp; omega)
      have hown3 := own_base hown2 (base' := w.heap.size) (by have := hb.size; simp; omega)
      clear hown2 hb2 hbx hown hb B2 hidx
      go_wp2_with fail
      go_roundw
      case rel => exact ⟨j + 1, A2, _, c2, by omega, by go_num, rfl, hc2, by rw [hl.out]; exact hown3, hb3, B3⟩
      case measure => simp [intOf]; omega
    · obtain rfl : j = 10 := by omega
      have hten := pbytes_ten tos (20 + (n : Int)) id 16384 ttl proto src dst
      rw [hten] at hown hbs
      have hml2 : m = 20 := by
        have := hown.1
        rw [bv_len] at this
        simp [enc_len] at this
        omega
      subst hml2
      obtain ⟨g, cg, hform, hg0, hg1⟩ := hown.form (by omega)
      injection hform with hform _ hcg
      subst hform
      subst hcg
      have hB := Lib.hid (byt_own hown hbs)
      have hsum := sm_bd _ hbs
      obtain ⟨s0, s1⟩ := hsum
      have hsm : Hid (65535 - sm (enc 69 1 ++ enc tos 1 ++ enc (20 + (n : Int)) 2 ++ enc id 2 ++ enc 16384 2 ++ enc ttl 1 ++ enc proto 1 ++ enc 0 2 ++ (enc src 4 ++ enc dst 4)) = sumF ⟨tos, id, ttl, proto, true, src, dst⟩ (20 + n)) := rfl
      obtain ⟨L, hL⟩ : ∃ L, enc 69 1 ++ enc tos 1 ++ enc (20 + (n : Int)) 2 ++ enc id 2 ++ enc 16384 2 ++ enc ttl 1 ++ enc proto 1 ++ enc 0 2 ++ (enc src 4 ++ enc dst 4) = L := ⟨_, rfl⟩
      rw [hL] at hown hbs hB s0 s1 hsm
      have HL := Lib.hid hL
      clear hten hL
      have hne := own_blk_ne hown B2 (by decide)
      have hf0 := hown.frozenAt 10
      have hf1 := hown.frozenAt 11
      have hlen := hown.1
      obtain ⟨a0, hc0⟩ : ∃ a0, wr.cell? ⟨g, 10, none⟩ = some a0 := by
        have e := hown.cellAt 10 (by omega)
        rw [List.getElem?_eq_getElem (by omega)] at e
        exact ⟨_, e⟩
      obtain ⟨a1, hc1⟩ : ∃ a1, wr.cell? ⟨g, 11, none⟩ = some a1 := by
        have e := hown.cellAt 11 (by omega)
        rw [List.getElem?_eq_getElem (by omega)] at e
        exact ⟨_, e⟩
      clear hlen
      have hcd := B2.cell 7
      have hgne : w.heap.size ≠ g := by rintro rfl; exact hne rfl
      have HO := Lib.hid hown
      have HB2 := Lib.hid B2
      clear hown B2 hne
      go_wp2_with fail
      refine (checksum_any _ _ _ _ _ _ hB.out (by omega)).mono ?_
      rintro e w' ⟨rfl, rfl⟩
      go_wp2_with (at_builtin
                   refine wpList_app rfl (.tmp 78) (.tmp 80) _ rfl elU8 w.heap.size (some ⟨g, 0, none⟩) 20 _ _ rfl (((HO.out.stored 10 _).1.stored 11 _).1) _ _ n c (bv d) rfl (((hd.below ((hb.setCell hg0 _).setCell hg0 _)).1)) (bv_one _) (by omega) (by have := hb.size; simpa [World.setCell] using this) (20 + n) rfl ?_
                   intro A3 c3 w3 hc3 hm3 hown3 hb3 hg3
                   have hb4 := ((hb.setCell hg0 _).setCell hg0 _).trans hb3)
      go_ret2
      have hown4 : w3.ownsRow w.heap.size 5 1 (.slice A3 (20 + n) c3) (20 + n) (bv (hdB ⟨tos, id, ttl, proto, true, src, dst⟩ (20 + n) ++ d)) := by
        rw [← set_sum ⟨tos, id, ttl, proto, true, src, dst⟩ (20 + n) L HL.out, bv_app]
        simpa [bv, List.map_set] using hown3
      exact ⟨A3, 20 + n, c3, rfl, hc3, byt_own hown4 ((hdB_bs _ _).app hd.2), hb4⟩

set_option maxRecDepth 100000 in
set_option maxHeartbeats 4000000 in
theorem encode_ok_false (tos id ttl proto : Int) (src dst : Int) (A : Option Addr) (n c : Nat) (d : List Int) (w : World) (hd : Byt w w.heap.size A n d) (hn : n ≤ 1480) (hc : checkB ⟨tos, id, ttl, proto, false, src, dst⟩ = true)
    (hs0 : 0 ≤ src) (hs1 : src ≤ 4294967295) (hd0 : 0 ≤ dst) (hd1 : dst ≤ 4294967295) :
    Calls Try.prog 29 #[.agg #[.int .i64 tos, .int .i64 id, .int .i64 ttl, .int .i64 proto, .bool false, .int .u32 src, .int .u32 dst, .slice A n c]] w (EncAny (hdB ⟨tos, id, ttl, proto, false, src, dst⟩ (20 + n) ++ d) 0 w) := by
  have he := Lib.hid (show checkE ⟨tos, id, ttl, proto, false, src, dst⟩ = 0 from if_pos hc)
  have HC := Lib.hid (checkB_iff.1 hc)
  have HN : Hid ((20 : Int) + n ≤ 65535) := (by omega : (20 : Int) + n ≤ 65535)
  clear hc
  go_enter Try.func29, Try.ntmps29
  go_wp2_with fail
  refine (check_any ⟨tos, id, ttl, proto, false, src, dst⟩ _).mono ?_
  rintro e w1 ⟨rfl, hb1⟩
  have B0 : Blk w1 w.heap.size 48 #[.int .i64 tos, .int .i64 id, .int .i64 ttl, .int .i64 proto, .bool false, .int .u32 src, .int .u32 dst, .slice A n c] := ((Blk.new w _ _).alloc _).below hb1 (by simp; omega)
  have B1 : Blk w1 (w.heap.size + 1) 46 #[.int .i64 tos, .int .i64 id, .int .i64 ttl, .int .i64 proto, .bool false, .int .u32 src, .int .u32 dst] := by
    have := (Blk.new (w.alloc (.cells #[.int .i64 tos, .int .i64 id, .int .i64 ttl, .int .i64 proto, .bool false, .int .u32 src, .int .u32 dst, .slice A n c] 48)) 46 #[.int .i64 tos, .int .i64 id, .int .i64 ttl, .int .i64 proto, .bool false, .int .u32 src, .int .u32 dst]).below hb1 (by simp)
    simpa using this
  have hw1 : Below w.heap.size w w1 := (((Below.refl _ _).alloc (Nat.le_refl _) _).alloc (by simp) _).trans (hb1.mono (by simp; omega))
  clear hb1
  have c0 := B0.cell
  have c1 := B1.cell
  rw [he.out]
  go_wp2_with fail
  clear c0 c1 B1
  have HI := Lib.hid (idx_run tos (20 + (n : Int)) id 0 ttl proto src dst)
  have HX := Lib.hid (fun j h => px_fits tos (20 + (n : Int)) id 0 ttl proto src dst j h HC.out ⟨by omega, HN.out⟩ (by omega) ⟨hs0, hs1⟩ ⟨hd0, hd1⟩)
  go_loopw [7, 54] (fun v s wr => ∃ (j : Nat) (A' : Option Addr) (m c' : Nat), j ≤ 10 ∧ s = .int .i64 j ∧ v = .slice A' m c' ∧ m ≤ c' ∧ wr.ownsRow w.heap.size 5 1 (.slice A' m c') m (bv (pbytes tos (20 + (n : Int)) id 0 ttl proto src dst j)) ∧ Below w.heap.size w wr ∧ Blk wr w.heap.size 48 #[.int .i64 tos, .int .i64 id, .int .i64 ttl, .int .i64 proto, .bool false, .int .u32 src, .int .u32 dst, .slice A n c]) (fun _ s _ => 10 - (intOf s).toNat)
  case atStart => exact ⟨0, none, 0, 0, Nat.zero_le _, rfl, rfl, Nat.le_refl _, World.ownsRow_nil _ _ _ _, hw1, B0⟩
  case round =>
    obtain ⟨j, A', m, c', hj, rfl, rfl, hmc, hown, hb, B2⟩ := hrel
    have hbs := pbytes_bs tos (20 + (n : Int)) id 0 ttl proto src dst j
    have hml : m ≤ 20 := by
      have := hown.1
      rw [bv_len] at this
      have := pbytes_len tos (20 + (n : Int)) id 0 ttl proto src dst j hj
      omega
    by_cases hlt : j < 10
    · obtain ⟨x0, x1, k1, k7⟩ := HX.out j hlt
      have hidx := HI.out j hlt
      have hl : Hid (pbytes tos (20 + (n : Int)) id 0 ttl proto src dst (j + 1) = pbytes tos (20 + (n : Int)) id 0 ttl proto src dst j ++ enc (px tos (20 + (n : Int)) id 0 ttl proto src dst j) (pk j)) := rfl
      generalize px tos (20 + (n : Int)) id 0 ttl proto src dst j = xj at *
      generalize pk j = kj at *
      have hB := Lib.hid (byt_own hown hbs)
      clear hbs
      go_wp2_with fail
      have hbx := hB.out.alloc (Nat.le_refl _) (.cells #[.int .i64 xj, .int .i64 (kj : Int)] 65)
      refine (put_ok _ _ _ _ _ (hbx.more (by simp)) (by omega) _ _ x0 k1 k7 x1).mono ?_
      rintro e w2 ⟨A2, m2, c2, rfl, hc2, hm2, hown2, hb2⟩
      have hb3 := (hb.alloc hb.size (.cells #[.int .i64 xj, .int .i64 (kj : Int)] 65)).trans (hb2.mono (by have := hb.size; simp; omega))
      have B3 := (B2.alloc (.cells #[.int .i64 xj, .int .i64 (kj : Int)] 65)).below hb2 (by have := B2.lt; simp; omega)
      have hown3 := own_base hown2 (base' := w.heap.size) (by have := hb.size; simp; omega)
      clear hown2 hb2 hbx hown hb B2 hidx
      go_wp2_with fail
      go_roundw
      case rel => exact ⟨j + 1, A2, _, c2, by omega, by go_num, rfl, hc2, by rw [hl.out]; exact hown3, hb3, B3⟩
      case measure => simp [intOf]; omega
    · obtain rfl : j = 10 := by omega
      have hten := pbytes_ten tos (20 + (n : Int)) id 0 ttl proto src dst
      rw [hten] at hown hbs
      have hml2 : m = 20 := by
        have := hown.1
        rw [bv_len] at this
        simp [enc_len] at this
        omega
      subst hml2
      obtain ⟨g, cg, hform, hg0, hg1⟩ := hown.form (by omega)
      injection hform with hform _ hcg
      subst hform
      subst hcg
      have hB := Lib.hid (byt_own hown hbs)
      have hsum := sm_bd _ hbs
      obtain ⟨s0, s1⟩ := hsum
      have hsm : Hid (65535 - sm (enc 69 1 ++ enc tos 1 ++ enc (20 + (n : Int)) 2 ++ enc id 2 ++ enc 0 2 ++ enc ttl 1 ++ enc proto 1 ++ enc 0 2 ++ (enc src 4 ++ enc dst 4)) = sumF ⟨tos, id, ttl, proto, false, src, dst⟩ (20 + n)) := rfl
      obtain ⟨L, hL⟩ : ∃ L, enc 69 1 ++ enc tos 1 ++ enc (20 + (n : Int)) 2 ++ enc id 2 ++ enc 0 2 ++ enc ttl 1 ++ enc proto 1 ++ enc 0 2 ++ (enc src 4 ++ enc dst 4) = L := ⟨_, rfl⟩
      rw [hL] at hown hbs hB s0 s1 hsm
      have HL := Lib.hid hL
      clear hten hL
      have hne := own_blk_ne hown B2 (by decide)
      have hf0 := hown.frozenAt 10
      have hf1 := hown.frozenAt 11
      have hlen := hown.1
      obtain ⟨a0, hc0⟩ : ∃ a0, wr.cell? ⟨g, 10, none⟩ = some a0 := by
        have e := hown.cellAt 10 (by omega)
        rw [List.getElem?_eq_getElem (by omega)] at e
        exact ⟨_, e⟩
      obtain ⟨a1, hc1⟩ : ∃ a1, wr.cell? ⟨g, 11, none⟩ = some a1 := by
        have e := hown.cellAt 11 (by omega)
        rw [List.getElem?_eq_getElem (by omega)] at e
        exact ⟨_, e⟩
      clear hlen
      have hcd := B2.cell 7
      have hgne : w.heap.size ≠ g := by rintro rfl; exact hne rfl
      have HO := Lib.hid hown
      have HB2 := Lib.hid B2
      clear hown B2 hne
      go_wp2_with fail
      refine (checksum_any _ _ _ _ _ _ hB.out (by omega)).mono ?_
      rintro e w' ⟨rfl, rfl⟩
      go_wp2_with (at_builtin
                   refine wpList_app rfl (.tmp 78) (.tmp 80) _ rfl elU8 w.heap.size (some ⟨g, 0, none⟩) 20 _ _ rfl (((HO.out.stored 10 _).1.stored 11 _).1) _ _ n c (bv d) rfl (((hd.below ((hb.setCell hg0 _).setCell hg0 _)).1)) (bv_one _) (by omega) (by have := hb.size; simpa [World.setCell] using this) (20 + n) rfl ?_
                   intro A3 c3 w3 hc3 hm3 hown3 hb3 hg3
                   have hb4 := ((hb.setCell hg0 _).setCell hg0 _).trans hb3)
      go_ret2
      have hown4 : w3.ownsRow w.heap.size 5 1 (.slice A3 (20 + n) c3) (20 + n) (bv (hdB ⟨tos, id, ttl, proto, false, src, dst⟩ (20 + n) ++ d)) := by
        rw [← set_sum ⟨tos, id, ttl, proto, false, src, dst⟩ (20 + n) L HL.out, bv_app]
        simpa [bv, List.map_set] using hown3
      exact ⟨A3, 20 + n, c3, rfl, hc3, byt_own hown4 ((hdB_bs _ _).app hd.2), hb4⟩

set_option maxRecDepth 100000 in
set_option maxHeartbeats 2000000 in
theorem encode_no (h : Hd) (A : Option Addr) (n c : Nat) (w : World) (hc : checkB h = false) :
    Calls Try.prog 29 #[.agg #[.int .i64 h.tos, .int .i64 h.id, .int .i64 h.ttl, .int .i64 h.proto, .bool h.keep, .int .u32 h.src, .int .u32 h.dst, .slice A n c]] w (EncAny [] 1 w) := by
  obtain ⟨tos, id, ttl, proto, keep, src, dst⟩ := h
  have he := Lib.hid (show checkE ⟨tos, id, ttl, proto, keep, src, dst⟩ = 1 from by unfold checkE; rw [hc]; rfl)
  clear hc
  show Calls Try.prog 29 #[.agg #[.int .i64 tos, .int .i64 id, .int .i64 ttl, .int .i64 proto, .bool keep, .int .u32 src, .int .u32 dst, .slice A n c]] w _
  go_enter Try.func29, Try.ntmps29
  go_wp2_with fail
  refine (check_any ⟨tos, id, ttl, proto, keep, src, dst⟩ _).mono ?_
  rintro e w1 ⟨rfl, hb1⟩
  have hw1 : Below w.heap.size w w1 := (((Below.refl _ _).alloc (Nat.le_refl _) _).alloc (by simp) _).trans (hb1.mono (by simp; omega))
  clear hb1
  rw [he.out]
  go_wp2_with fail
  go_ret2
  exact ⟨none, 0, 0, rfl, Nat.le_refl _, Byt.none_ _ _, hw1⟩
set_option maxRecDepth 100000 in
set_option maxHeartbeats 2000000 in
theorem encode_big (h : Hd) (A : Option Addr) (n c : Nat) (w : World) (hc : checkB h = true) (hn : 1480 < n) :
    Calls Try.prog 29 #[.agg #[.int .i64 h.tos, .int .i64 h.id, .int .i64 h.ttl, .int .i64 h.proto, .bool h.keep, .int .u32 h.src, .int .u32 h.dst, .slice A n c]] w (EncAny [] 5 w) := by
  obtain ⟨tos, id, ttl, proto, keep, src, dst⟩ := h
  have he := Lib.hid (show checkE ⟨tos, id, ttl, proto, keep, src, dst⟩ = 0 from by unfold checkE; rw [hc]; rfl)
  clear hc
  show Calls Try.prog 29 #[.agg #[.int .i64 tos, .int .i64 id, .int .i64 ttl, .int .i64 proto, .bool keep, .int .u32 src, .int .u32 dst, .slice A n c]] w _
  go_enter Try.func29, Try.ntmps29
  go_wp2_with fail
  refine (check_any ⟨tos, id, ttl, proto, keep, src, dst⟩ _).mono ?_
  rintro e w1 ⟨rfl, hb1⟩
  have B0 : Blk w1 w.heap.size 48 #[.int .i64 tos, .int .i64 id, .int .i64 ttl, .int .i64 proto, .bool keep, .int .u32 src, .int .u32 dst, .slice A n c] := ((Blk.new w _ _).alloc _).below hb1 (by simp; omega)
  have hw1 : Below w.heap.size w w1 := (((Below.refl _ _).alloc (Nat.le_refl _) _).alloc (by simp) _).trans (hb1.mono (by simp; omega))
  clear hb1
  have c0 := B0.cell
  rw [he.out]
  go_wp2_with fail
  go_ret2
  exact ⟨none, 0, 0, rfl, Nat.le_refl _, Byt.none_ _ _, hw1⟩

theorem encode_any (h : Hd) (hok : h.Ok) (A : Option Addr) (n c : Nat) (d : List Int) (w : World) (hd : Byt w w.heap.size A n d) (hn : n ≤ 100000) :
    Calls Try.prog 29 #[.agg #[.int .i64 h.tos, .int .i64 h.id, .int .i64 h.ttl, .int .i64 h.proto, .bool h.keep, .int .u32 h.src, .int .u32 h.dst, .slice A n c]] w (EncAny (encL h d) (encE h d) w) := by
  have hl := hd.len
  by_cases hc : checkB h = true
  · by_cases hb : (1480 : Int) < d.length
    · have e1 : encE h d = 5 := by unfold encE; rw [if_pos hc, if_pos hb]
      have e2 : encL h d = [] := by unfold encL; rw [e1]; rfl
      rw [e1, e2]
      exact encode_big h A n c w hc (by omega)
    · have e1 : encE h d = 0 := by unfold encE; rw [if_pos hc, if_neg hb]
      have e2 : encL h d = hdB h (20 + n) ++ d := by unfold encL; rw [e1, hl]; rfl
      rw [e1, e2]
      obtain ⟨tos, id, ttl, proto, keep, src, dst⟩ := h
      obtain ⟨h1, h2, h3, h4⟩ := hok
      cases keep
      · exact encode_ok_false tos id ttl proto src dst A n c d w hd (by omega) hc h1 h2 h3 h4
      · exact encode_ok_true tos id ttl proto src dst A n c d w hd (by omega) hc h1 h2 h3 h4
  · have hc : checkB h = false := by simpa using hc
    have e1 : encE h d = 1 := by unfold encE; rw [hc]; rfl
    have e2 : encL h d = [] := by unfold encL; rw [e1]; rfl
    rw [e1, e2]
    exact encode_no h A n c w hc
end Go.Proofs.Ytllaojnnackhhaa
