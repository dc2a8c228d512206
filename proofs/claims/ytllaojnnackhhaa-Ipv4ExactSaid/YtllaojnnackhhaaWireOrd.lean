/-
  The walk of the law WireOrder.
-/
import Derived.Test.YtllaojnnackhhaaWireAwake
namespace Go.Proofs.Ytllaojnnackhhaa
open Go.RowKit
set_option linter.unusedVariables false
set_option linter.unusedSimpArgs false

theorem elU8 : Elem Try.prog 22 5 1 1 := Elem.mk' Try.underlying22 (z := .int .u8 0) (by kernel_rfl) rfl (by omega) (by omega)

theorem order_small (A1 A2 : Option Addr) (n1 c1 n2 c2 : Nat) (l1 l2 : List Int) (w : World) (h1 : Byt w w.heap.size A1 n1 l1) (h2 : Byt w w.heap.size A2 n2 l2) (hn1 : n1 ≤ 3000) (hn2 : n2 ≤ 3000) (hc1 : n1 ≤ c1) (hc2 : n2 ≤ c2) :
    Calls Try.prog 3 #[.slice A1 n1 c1, .slice A2 n2 c2] w fun e w' => e = .returned (.bool true) ∧ Below w.heap.size w w' := by
  have hl1 := h1.len
  have hl2 := h2.len
  have ba : Bs (l1.take (n1 / 2 * 2)) := h1.2.take _
  have bb : Bs (l2.take (n2 / 2 * 2)) := h2.2.take _
  have hla : (l1.take (n1 / 2 * 2)).length % 2 = 0 := by simp only [List.length_take]; omega
  have hlb : (l2.take (n2 / 2 * 2)).length % 2 = 0 := by simp only [List.length_take]; omega
  have t1 : (sm (l1.take (n1 / 2 * 2) ++ l2) != oc (sm (l1.take (n1 / 2 * 2)) + sm l2)) = false := by rw [sm_app _ _ ba h2.2 hla]; simp
  have t2 : (sm (l2.take (n2 / 2 * 2) ++ l1.take (n1 / 2 * 2)) == sm (l1.take (n1 / 2 * 2) ++ l2.take (n2 / 2 * 2))) = true := by rw [sm_swap _ _ hlb hla]; simp
  obtain ⟨d1, d2⟩ := sm_bd _ ba
  obtain ⟨d3, d4⟩ := sm_bd _ h2.2
  have HL : Hid (l1.length = n1 ∧ l2.length = n2) := ⟨hl1, hl2⟩
  clear hl1 hl2 hla hlb
  go_enter Try.func3, Try.ntmps3
  go_wp2_with (first
    | (go_at_call 9; refine (awake4_any _).mono ?_; rintro e w1 ⟨rfl, hb1⟩)
    | (at_builtin
       refine wpList_app rfl (.const (.slice none 0 0)) (.tmp 33) _ rfl elU8 w.heap.size none 0 0 [] rfl (World.ownsRow_nil _ _ _ _) _ _ (n1 / 2 * 2) c1 (bv (l1.take (n1 / 2 * 2))) rfl (((h1.below hb1).head (by omega)).1) (bv_one _) (by omega) hb1.size (n1 / 2 * 2) (by omega) ?_
       intro Ax cx w2 hcx1 hcx2 hown2 hb2 hg2
       have hb2' := hb1.trans hb2
       clear hb2 hg2)
    | (at_builtin
       refine wpList_app rfl (.tmp 34) (.tmp 35) _ rfl elU8 w.heap.size _ _ _ _ rfl hown2 _ _ n2 c2 (bv l2) rfl ((h2.below hb2').1) (bv_one _) (by omega) hb2'.size (n1 / 2 * 2 + n2) (by omega) ?_
       intro Ax3 cx3 w3 hcx3 hcx4 hown3 hb3 hg3
       have hb3' := hb2'.trans hb3
       have hx : Byt w3 w3.heap.size Ax3 (n1 / 2 * 2 + n2) (l1.take (n1 / 2 * 2) ++ l2) := byt_own (by simpa [bv_app] using hown3) (ba.app h2.2)
       clear hb3 hg3 hown3 hown2)
    | (go_at_call_of 10 Ax3; refine (sum_any _ _ _ _ _ _ hx (by omega)).mono ?_; rintro e w' ⟨rfl, rfl⟩)
    | (go_at_call_of 10 A1; refine (sum_any _ _ _ _ _ _ ((h1.below hb3').head (k := n1 / 2 * 2) (by omega)) (by omega)).mono ?_; rintro e w' ⟨rfl, rfl⟩)
    | (go_at_call_of 10 A2; refine (sum_any _ _ _ _ _ _ (h2.below hb3') (by omega)).mono ?_; rintro e w' ⟨rfl, rfl⟩)
    | (go_at_call 11; refine (add_yes _ _ _ d1 d2 d3 d4).mono ?_; rintro e w' ⟨rfl, rfl⟩)
    | (at_builtin
       refine wpList_app rfl (.const (.slice none 0 0)) (.tmp 51) _ rfl elU8 w.heap.size none 0 0 [] rfl (World.ownsRow_nil _ _ _ _) _ _ (n2 / 2 * 2) c2 (bv (l2.take (n2 / 2 * 2))) rfl (((h2.below hb3').head (by omega)).1) (bv_one _) (by omega) hb3'.size (n2 / 2 * 2) (by omega) ?_
       intro Ax4 cx5 w4 hcx5 hcx6 hown4 hb4 hg4
       have hb4' := hb3'.trans hb4
       clear hb4 hg4)
    | (at_builtin
       refine wpList_app rfl (.tmp 52) (.tmp 53) _ rfl elU8 w.heap.size _ _ _ _ rfl hown4 _ _ (n1 / 2 * 2) c1 (bv (l1.take (n1 / 2 * 2))) rfl (((h1.below hb4').head (by omega)).1) (bv_one _) (by omega) hb4'.size (n2 / 2 * 2 + n1 / 2 * 2) (by omega) ?_
       intro Ax5 cx7 w5 hcx7 hcx8 hown5 hb5 hg5
       have hb5' := hb4'.trans hb5
       have hy : Byt w5 w5.heap.size Ax5 (n2 / 2 * 2 + n1 / 2 * 2) (l2.take (n2 / 2 * 2) ++ l1.take (n1 / 2 * 2)) := byt_own (by simpa [bv_app] using hown5) (bb.app ba)
       clear hb5 hg5 hown5 hown4)
    | (go_at_call_of 10 Ax5; refine (sum_any _ _ _ _ _ _ hy (by omega)).mono ?_; rintro e w' ⟨rfl, rfl⟩)
    | (at_builtin
       refine wpList_app rfl (.const (.slice none 0 0)) (.tmp 57) _ rfl elU8 w.heap.size none 0 0 [] rfl (World.ownsRow_nil _ _ _ _) _ _ (n1 / 2 * 2) c1 (bv (l1.take (n1 / 2 * 2))) rfl (((h1.below hb5').head (by omega)).1) (bv_one _) (by omega) hb5'.size (n1 / 2 * 2) (by omega) ?_
       intro Ax6 cx9 w6 hcx9 hcx10 hown6 hb6 hg6
       have hb6' := hb5'.trans hb6
       clear hb6 hg6)
    | (at_builtin
       refine wpList_app rfl (.tmp 58) (.tmp 59) _ rfl elU8 w.heap.size _ _ _ _ rfl hown6 _ _ (n2 / 2 * 2) c2 (bv (l2.take (n2 / 2 * 2))) rfl (((h2.below hb6').head (by omega)).1) (bv_one _) (by omega) hb6'.size (n1 / 2 * 2 + n2 / 2 * 2) (by omega) ?_
       intro Ax7 cx11 w7 hcx11 hcx12 hown7 hb7 hg7
       have hb7' := hb6'.trans hb7
       have hz : Byt w7 w7.heap.size Ax7 (n1 / 2 * 2 + n2 / 2 * 2) (l1.take (n1 / 2 * 2) ++ l2.take (n2 / 2 * 2)) := byt_own (by simpa [bv_app] using hown7) (ba.app bb)
       clear hb7 hg7 hown7 hown6)
    | (go_at_call_of 10 Ax7; refine (sum_any _ _ _ _ _ _ hz (by omega)).mono ?_; rintro e w' ⟨rfl, rfl⟩))
  go_ret
  exact ⟨rfl, hb7'⟩

theorem order_big (A1 A2 : Option Addr) (n1 c1 n2 c2 : Nat) (w : World) (h : 3000 < n1 ∨ 3000 < n2) :
    Calls Try.prog 3 #[.slice A1 n1 c1, .slice A2 n2 c2] w fun e w' => e = .returned (.bool true) ∧ Below w.heap.size w w' := by
  by_cases h1 : 3000 < n1
  · go_enter Try.func3, Try.ntmps3
    go_wp2_with (go_at_call 9; refine (awake4_any _).mono ?_; rintro e w1 ⟨rfl, hb1⟩)
    go_ret
    exact ⟨ret_bool (by simp), hb1⟩
  · have h2 : 3000 < n2 := by omega
    go_enter Try.func3, Try.ntmps3
    go_wp2_with (go_at_call 9; refine (awake4_any _).mono ?_; rintro e w1 ⟨rfl, hb1⟩)
    go_ret
    exact ⟨ret_bool (by simp; omega), hb1⟩

theorem wireOrder_walk (A1 : Option Addr) (n1 c1 : Nat) (l1 : List Int) (A2 : Option Addr) (n2 c2 : Nat) (l2 : List Int) (w : World) (h1 : Byt w w.heap.size A1 n1 l1) (hc1 : n1 ≤ c1) (h2 : Byt w w.heap.size A2 n2 l2) (hc2 : n2 ≤ c2) :
    Calls Try.prog 3 #[.slice A1 n1 c1, .slice A2 n2 c2] w fun e w' => e = .returned (.bool true) ∧ Below w.heap.size w w' := by
  by_cases hn : n1 ≤ 3000 ∧ n2 ≤ 3000
  · exact order_small _ _ _ _ _ _ _ _ _ h1 h2 hn.1 hn.2 hc1 hc2
  · exact order_big _ _ _ _ _ _ _ (by omega)
end Go.Proofs.Ytllaojnnackhhaa
