/-
  The walk of the law WireUpdate.
-/
import Derived.Test.YtllaojnnackhhaaWireOrd
import Derived.Test.YtllaojnnackhhaaWireGet
import Derived.Test.YtllaojnnackhhaaFrame
namespace Go.Proofs.Ytllaojnnackhhaa
open Go.RowKit
set_option linter.unusedVariables false
set_option linter.unusedSimpArgs false

theorem upd_small (A : Option Addr) (n c : Nat) (l : List Int) (w : World) (p x : Int) (h : Byt w w.heap.size A n l) (hn : n ≤ 3000) (hc : n ≤ c) (hp0 : 0 ≤ p) (hp1 : p ≤ 65535) (hx0 : 0 ≤ x) (hx1 : x ≤ 65535) :
    Calls Try.prog 4 #[.slice A n c, .int .u16 p, .int .u16 x] w fun e w' => e = .returned (.bool true) ∧ Below w.heap.size w w' := by
  have hl := h.len
  have bl : Bs ([69, 0] ++ l.take (n / 2 * 2)) := Bs.app (by intro y hy; simp at hy; omega) (h.2.take _)
  have HL : Hid (l.length = n) := hl
  obtain ⟨L, hL⟩ : ∃ L, [69, 0] ++ l.take (n / 2 * 2) = L := ⟨_, rfl⟩
  rw [hL] at bl
  have hlen : L.length = 2 + n / 2 * 2 := by rw [← hL]; simp; omega
  have hraw : 0 < raw L := raw_pos L bl 0 69 (by rw [← hL]; rfl) (by omega)
  have HL2 := Lib.hid hL
  have HL3 := Lib.hid hlen
  clear hl hL hlen
  obtain ⟨q, hq⟩ := Int.eq_ofNat_of_zero_le (a := p % ((2 + (n : Int) / 2 * 2) / 2)) (Int.emod_nonneg _ (by omega))
  have hq1 : q < 1 + n / 2 := by
    have := Int.emod_lt_of_pos p (b := (2 + (n : Int) / 2 * 2) / 2) (by omega)
    omega
  obtain ⟨d1, d2⟩ := sm_bd L bl
  go_enter Try.func4, Try.ntmps4
  go_wp2_with (first
    | (go_at_call 9; refine (awake4_any _).mono ?_; rintro e w1 ⟨rfl, hb1⟩)
    | (at_builtin
       refine wpList_app rfl (.tmp 23) (.tmp 29) _ rfl elU8 w.heap.size (some ⟨w1.heap.size, 0, none⟩) 2 2 (bv [69, 0]) rfl (World.ownsRow_lit w1 #[.int .u8 69, .int .u8 0] 2 hb1.size (by simp [maxLen]) rfl) _ _ (n / 2 * 2) c (bv (l.take (n / 2 * 2))) rfl (((h.below (hb1.alloc hb1.size _)).head (by omega)).1) (bv_one _) (by omega) (by have := hb1.size; simp; omega) (2 + n / 2 * 2) (by omega) ?_
       intro Ax cx w2 hcx1 hcx2 hown2 hb2 hg2
       have hb2' := (hb1.alloc hb1.size _).trans hb2
       have hx2 : Byt w2 w2.heap.size Ax (2 + n / 2 * 2) L := byt_own (by rw [← HL2.out, bv_app]; exact hown2) bl
       clear hb2 hg2 hown2)
    | (go_at_call 12; refine (get_ok _ _ _ _ _ _ hx2 hcx1 (by omega) _ _ (by omega) (by omega) (by omega) (by omega)).mono ?_; rintro e w' ⟨rfl, rfl⟩)
    | (go_at_call 13; refine (checksum_any _ _ _ _ _ _ hx2 (by omega)).mono ?_; rintro e w' ⟨rfl, rfl⟩)
    | (at_builtin
       refine wpList_app rfl (.const (.slice none 0 0)) (.tmp 46) _ rfl elU8 w.heap.size none 0 0 [] rfl (World.ownsRow_nil _ _ _ _) _ _ (2 + n / 2 * 2) cx (bv L) rfl hx2.1 (bv_one _) (by omega) hb2'.size (2 + n / 2 * 2) (by omega) ?_
       intro Ay cy w3 hcy1 hcy2 hown3 hb3 hg3
       have hb3' := hb2'.trans hb3
       rw [List.nil_append] at hown3
       obtain ⟨g, cy', hform, hg0, hg1⟩ := hown3.form (by omega)
       injection hform with hform _ hcy
       subst hform
       subst hcy
       have hf0 := hown3.frozenAt (2 * q)
       have hf1 := hown3.frozenAt (2 * q + 1)
       obtain ⟨a0, hc0⟩ : ∃ a0, w3.cell? ⟨g, 2 * q, none⟩ = some a0 := by
         have e := hown3.cellAt (2 * q) (by omega)
         rw [List.getElem?_eq_getElem (by have := hown3.1; omega)] at e
         exact ⟨_, e⟩
       obtain ⟨a1, hc1⟩ : ∃ a1, w3.cell? ⟨g, 2 * q + 1, none⟩ = some a1 := by
         have e := hown3.cellAt (2 * q + 1) (by omega)
         rw [List.getElem?_eq_getElem (by have := hown3.1; omega)] at e
         exact ⟨_, e⟩
       clear hb3 hg3))
  have s1 := hown3.stored (2 * q) (.int .u8 (x / 256))
  have s2 := s1.1.stored (2 * q + 1) (.int .u8 (x % 256))
  have hx4 : Byt ((w3.setCell ⟨g, 2 * q, none⟩ (.int .u8 (x / 256))).setCell ⟨g, 2 * q + 1, none⟩ (.int .u8 (x % 256))) (g + 1) (some ⟨g, 0, none⟩) (2 + n / 2 * 2) ((L.set (2 * q) (x / 256)).set (2 * q + 1) (x % 256)) := by
    refine ⟨⟨by simp [bv, HL3.out], fun _ => ⟨_, rfl, Nat.lt_succ_self _, ?_⟩⟩, ?_⟩
    · have e := s2.1.cells (g := g) rfl
      simpa [bv, List.map_set] using e
    · intro z hz
      rcases List.mem_or_eq_of_mem_set hz with hz | rfl
      · rcases List.mem_or_eq_of_mem_set hz with hz | rfl
        · exact bl z hz
        · omega
      · omega
  have hb4 : Below w.heap.size w ((w3.setCell ⟨g, 2 * q, none⟩ (.int .u8 (x / 256))).setCell ⟨g, 2 * q + 1, none⟩ (.int .u8 (x % 256))) := (hb3'.setCell hg0 _).setCell hg0 _
  clear s1 s2 hf0 hf1 hc0 hc1 hown3 hb3' hx2
  generalize ((w3.setCell ⟨g, 2 * q, none⟩ (.int .u8 (x / 256))).setCell ⟨g, 2 * q + 1, none⟩ (.int .u8 (x % 256))) = w4 at hx4 hb4 ⊢
  have HU := Lib.hid (upd_law L bl hraw (2 * q) (by rw [HL3.out]; omega) (by omega) x hx0 hx1)
  obtain ⟨X, hX⟩ : ∃ X, (L.set (2 * q) (x / 256)).set (2 * q + 1) (x % 256) = X := ⟨_, rfl⟩
  rw [hX] at hx4 HU
  clear hX hq
  go_loop [12] (fun i => ∃ k : Nat, k ≤ 2 + n / 2 * 2 ∧ i = .int .i64 k) (fun i => 2 + n / 2 * 2 - (intOf i).toNat)
  case atStart => exact ⟨0, Nat.zero_le _, rfl⟩
  case round =>
    obtain ⟨k, hk, rfl⟩ := hrel
    by_cases hlt : k < 2 + n / 2 * 2
    · obtain ⟨ad, v, hA, _, hv, hv0, hv1, hcell⟩ := hx4.at_ hlt
      injection hA with hA
      subst hA
      rw [add_head] at hcell
      by_cases hz : v = 0
      · subst hz
        go_wp2
        go_round
        case rel => exact ⟨k + 1, by omega, by go_num⟩
        case measure => simp [intOf]; omega
      · have hu := HU.out k v hv hz
        obtain ⟨u1, u2, u3, u4⟩ := hu
        have hbx := sm_bd X u2
        obtain ⟨b1, b2⟩ := hbx
        have hzb : (v != 0) = true := by simp [hz]
        have ht : (65535 - oc (65535 - (65535 - sm L) + 65535 - be ((L.drop (2 * q)).take 2) + x) == 65535 - sm X) = true := by rw [u1]; simp
        clear u1 hz hv
        go_wp2_with (first
          | (go_at_call 14; refine (update_yes _ _ _ _ (by omega) (by omega) u3 u4 hx0 hx1).mono ?_; rintro e w' ⟨rfl, rfl⟩)
          | (go_at_call 13; refine (checksum_any _ _ _ _ _ _ hx4 (by omega)).mono ?_; rintro e w' ⟨rfl, rfl⟩))
        go_ret
        exact ⟨rfl, hb4⟩
    · go_wp2
      go_ret
      exact ⟨rfl, hb4⟩

theorem wireUpdate_walk (A : Option Addr) (n c : Nat) (l : List Int) (p x : Int) (w : World) (h : Byt w w.heap.size A n l) (hc : n ≤ c) (hp : (Lit.int .u16 p).wf = true) (hx : (Lit.int .u16 x).wf = true) :
    Calls Try.prog 4 #[.slice A n c, .int .u16 p, .int .u16 x] w fun e w' => e = .returned (.bool true) ∧ Below w.heap.size w w' := by
  by_cases hn : n ≤ 3000
  · exact upd_small _ _ _ _ _ _ _ h hn hc (wf_u16 hp).1 (wf_u16 hp).2 (wf_u16 hx).1 (wf_u16 hx).2
  · have hn : 3000 < n := by omega
    go_enter Try.func4, Try.ntmps4
    go_wp2_with (go_at_call 9; refine (awake4_any _).mono ?_; rintro e w1 ⟨rfl, hb1⟩)
    go_ret
    exact ⟨rfl, hb1⟩
end Go.Proofs.Ytllaojnnackhhaa
