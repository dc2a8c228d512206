/-
  The walks of the choices: routescopedraw.New, Next.
-/
import Derived.Test.YtmbcclgnjobikaaRows
import Derived.Test.YtmbcclgnjobikaaBase
namespace Go.Proofs.Ytmbcclgnjobikaa
open Go.RowKit
set_option linter.unusedVariables false
set_option linter.unusedSimpArgs false
set_option maxRecDepth 20000

/-- block cb holds choices: a slice of bytes that lies below cb, and a place in it -/
def Cod (w : World) (cb : Nat) : Prop :=
  ∃ A m c l k, Blk w cb 54 #[.slice A m c, .int .i64 ((k : Nat) : Int)] ∧ k ≤ m ∧ m ≤ 1000000 ∧ Byt w cb A m l

theorem Cod.lt {w : World} {cb : Nat} (h : Cod w cb) : cb < w.heap.size := by
  obtain ⟨A, m, c, l, k, hb, _⟩ := h
  exact hb.lt
theorem Cod.keep {w w' : World} {cb : Nat} (h : Cod w cb) (hk : ∀ b, b ≤ cb → w'.heap[b]? = w.heap[b]?) : Cod w' cb := by
  obtain ⟨A, m, c, l, k, hb, h1, h2, h3⟩ := h
  exact ⟨A, m, c, l, k, (hk cb (Nat.le_refl _)).trans hb, h1, h2, h3.keep fun p hp => World.cell?_of_block (hk _ (Nat.le_of_lt hp))⟩
theorem Cod.below {w w' : World} {cb B : Nat} (h : Cod w cb) (hb : Below B w w') (hB : cb < B) : Cod w' cb := h.keep fun b hb' => hb.block b (by omega)
theorem Cod.alloc {w : World} {cb : Nat} (h : Cod w cb) (o : Obj) : Cod (w.alloc o) cb := h.keep fun b hb' => Below.heap_alloc w o b (Nat.lt_of_le_of_lt hb' h.lt)
theorem Cod.drewN {w : World} {cb : Nat} (h : Cod w cb) (n : Nat) : Cod (w.drewN n) cb := h

theorem new_any (A : Option Addr) (n c : Nat) (l : List Int) (w : World) (mo : Int) (h : Byt w w.heap.size A n l) (hc : n ≤ c) (hn : (n : Int) ≤ 9223372036854775807) (h0 : 0 ≤ mo) (h1 : mo ≤ 1000000) :
    Calls Try.prog 19 #[.slice A n c, .int .i64 mo] w fun e w' => e = .returned (.pointer (some ⟨w.heap.size, 0, none⟩)) ∧ Cod w' w.heap.size ∧ Below w.heap.size w w' ∧ w'.heap.size = w.heap.size + 1 := by
  obtain ⟨mo, rfl⟩ := Int.eq_ofNat_of_zero_le h0
  have key : ∀ (m : Nat), m ≤ 1000000 → m ≤ n → Cod (w.alloc (.cells #[.slice A m c, .int .i64 0] 54)) w.heap.size := fun m hm hmn =>
    ⟨A, m, c, l.take m, 0, Blk.new _ _ _, Nat.zero_le _, hm, (h.head hmn).alloc (Nat.le_refl _) _⟩
  have hb : ∀ o, Below w.heap.size w (w.alloc o) := fun o => (Below.refl _ _).alloc (Nat.le_refl _) o
  by_cases hlt : mo < n
  · have k1 := Lib.hid (key mo (by omega) (by omega))
    clear key
    go_enter Try.func19, Try.ntmps19
    go_wp2
    go_ret
    exact ⟨rfl, k1.out, hb _, by simp⟩
  · have k1 := Lib.hid (key n (by omega) (by omega))
    clear key
    go_enter Try.func19, Try.ntmps19
    go_wp2
    go_ret
    exact ⟨rfl, k1.out, hb _, by simp⟩

theorem next_end (cb : Nat) (w : World) (n : Int) (A : Option Addr) (m c : Nat) (k : Nat) (hb : Blk w cb 54 #[.slice A m c, .int .i64 k]) (hk : k ≤ 1000000) (h : m ≤ k ∨ n < 1) :
    Calls Try.prog 8 #[.pointer (some ⟨cb, 0, none⟩), .int .i64 n] w fun e w' => e = .returned (.int .i64 0) ∧ ∃ q, w' = w.drewN q := by
  have hc0 := hb.cell 0
  have hc1 := hb.cell 1
  simp at hc0 hc1
  by_cases hm : m ≤ k
  · clear h
    go_enter Try.func8, Try.ntmps8
    go_wp2
    go_quiet (fail)
    go_wp2
    go_ret
    exact ⟨rfl, _, rfl⟩
  · have h : n < 1 := by omega
    go_enter Try.func8, Try.ntmps8
    go_wp2
    go_quiet (fail)
    go_wp2
    go_ret
    exact ⟨rfl, _, rfl⟩

theorem next_small (cb : Nat) (w : World) (n : Int) (ad : Addr) (m c : Nat) (k : Nat) (x : Int) (hb : Blk w cb 54 #[.slice (some ad) m c, .int .i64 k]) (hk : k < m) (hm : m ≤ 1000000) (h0 : 1 ≤ n) (h1 : n ≤ 256)
    (hx : w.cell? (ad.add k) = some (.int .u8 x)) (hx0 : 0 ≤ x) (hx1 : x ≤ 255) :
    Calls Try.prog 8 #[.pointer (some ⟨cb, 0, none⟩), .int .i64 n] w fun e w' => e = .returned (.int .i64 (x % n)) ∧ ∃ q, w' = (w.drewN q).setCell ⟨cb, 1, none⟩ (.int .i64 ((k + 1 : Nat) : Int)) := by
  have hc0 := hb.cell 0
  have hc1 := hb.cell 1
  have hf0 := hb.frozen 0
  have hf1 := hb.frozen 1
  simp at hc0 hc1
  go_enter Try.func8, Try.ntmps8
  go_wp2
  go_quiet (fail)
  go_wp2
  go_quiet (fail)
  go_wp2
  go_ret
  exact ⟨rfl, _, rfl⟩

/-- what a choice leaves: block cb alone has turned -/
theorem Cod.moved {w : World} {cb : Nat} {A : Option Addr} {m c k : Nat} {l : List Int} (hb : Blk w cb 54 #[.slice A m c, .int .i64 k]) (hk : k + 1 ≤ m) (hm : m ≤ 1000000) (hl : Byt w cb A m l) (q : Nat) :
    Cod ((w.drewN q).setCell ⟨cb, 1, none⟩ (.int .i64 ((k + 1 : Nat) : Int))) cb ∧ w.grownBy ((w.drewN q).setCell ⟨cb, 1, none⟩ (.int .i64 ((k + 1 : Nat) : Int))) (some cb) := by
  refine ⟨⟨A, m, c, l, k + 1, ?_, hk, hm, ?_⟩, ?_⟩
  · exact (hb.drewN q).set_ 1 _
  · exact (hl.drewN q).keep fun p hp => World.cell?_setCell_other _ _ _ _ (fun e => by subst e; simp at hp)
  · refine ⟨rfl, rfl, rfl, by simp, fun i hi hne => ?_⟩
    exact (Below.heap_setCell (w.drewN q) _ _ i (fun e => hne (by rw [e])))

def Chosen (n : Int) (w : World) (cb : Nat) (e : Ending) (w' : World) : Prop :=
  ∃ x : Int, e = .returned (.int .i64 x) ∧ 0 ≤ x ∧ x ≤ 65535 ∧ (1 ≤ n → x < n) ∧ Cod w' cb ∧ w.grownBy w' (some cb) ∧ w'.heap.size ≤ w.heap.size

theorem next_256 (cb : Nat) (w : World) (n : Int) (h : Cod w cb) (hn : n ≤ 256) :
    Calls Try.prog 8 #[.pointer (some ⟨cb, 0, none⟩), .int .i64 n] w (Chosen n w cb) := by
  obtain ⟨A, m, c, l, k, hb, hk, hm, hl⟩ := h
  by_cases hd : m ≤ k ∨ n < 1
  · refine (next_end cb w n A m c k hb (by omega) hd).mono fun e w' ⟨he, q, hw⟩ => ?_
    subst hw
    refine ⟨0, he, by omega, by omega, by omega, ⟨A, m, c, l, k, hb.drewN q, hk, hm, hl.drewN q⟩, ⟨rfl, rfl, rfl, Nat.le_refl _, fun _ _ _ => rfl⟩, Nat.le_refl _⟩
  · have hkm : k < m := by omega
    obtain ⟨ad, x, rfl, _, _, hx0, hx1, hc⟩ := hl.at_ hkm
    refine (next_small cb w n ad m c k x hb hkm hm (by omega) hn hc hx0 hx1).mono fun e w' ⟨he, q, hw⟩ => ?_
    subst hw
    obtain ⟨m1, m2⟩ := Cod.moved hb hkm hm hl q
    have e1 : 0 ≤ x % n := Int.emod_nonneg _ (by omega)
    have e2 : x % n < n := Int.emod_lt_of_pos _ (by omega)
    exact ⟨x % n, he, e1, by omega, fun _ => e2, m1, m2, by simp⟩

theorem next_big (cb : Nat) (w : World) (n : Int) (ad : Addr) (m c : Nat) (k : Nat) (x : Int) (hb : Blk w cb 54 #[.slice (some ad) m c, .int .i64 k]) (hk : k < m) (hm : m ≤ 1000000) (h1 : 256 < n)
    (hx : w.cell? (ad.add k) = some (.int .u8 x)) (hx0 : 0 ≤ x) (hx1 : x ≤ 255) (hC : ∀ q, Cod ((w.drewN q).setCell ⟨cb, 1, none⟩ (.int .i64 ((k + 1 : Nat) : Int))) cb) :
    Calls Try.prog 8 #[.pointer (some ⟨cb, 0, none⟩), .int .i64 n] w fun e w' => ∃ y q, e = .returned (.int .i64 ((256 * x + y) % n)) ∧ 0 ≤ y ∧ y ≤ 255 ∧ Cod w' cb ∧ ((w.drewN q).setCell ⟨cb, 1, none⟩ (.int .i64 ((k + 1 : Nat) : Int))).grownBy w' (some cb) ∧ w'.heap.size ≤ w.heap.size := by
  have hc0 := hb.cell 0
  have hc1 := hb.cell 1
  have hf0 := hb.frozen 0
  have hf1 := hb.frozen 1
  simp at hc0 hc1
  have HC := Lib.hid hC
  clear hC
  go_enter Try.func8, Try.ntmps8
  go_wp2_with fail
  go_quiet (fail)
  go_wp2_with fail
  go_quiet (fail)
  go_wp2_with fail
  refine (next_256 cb _ 256 (HC.out _) (by omega)).mono ?_
  rintro e w' ⟨y, rfl, hy0, _, hy1, hy2, hy3, hy4⟩
  have hy1 := hy1 (by omega)
  go_wp2_with fail
  go_ret
  exact ⟨y, _, rfl, hy0, by omega, hy2, hy3, Nat.le_trans hy4 (by simp)⟩

theorem next_any (cb : Nat) (w : World) (n : Int) (h : Cod w cb) :
    Calls Try.prog 8 #[.pointer (some ⟨cb, 0, none⟩), .int .i64 n] w (Chosen n w cb) := by
  by_cases hn : n ≤ 256
  · exact next_256 cb w n h hn
  · obtain ⟨A, m, c, l, k, hb, hk, hm, hl⟩ := h
    by_cases hd : m ≤ k
    · refine (next_end cb w n A m c k hb (by omega) (.inl hd)).mono fun e w' ⟨he, q, hw⟩ => ?_
      subst hw
      refine ⟨0, he, by omega, by omega, by omega, ⟨A, m, c, l, k, hb.drewN q, hk, hm, hl.drewN q⟩, ⟨rfl, rfl, rfl, Nat.le_refl _, fun _ _ _ => rfl⟩, Nat.le_refl _⟩
    · have hkm : k < m := by omega
      obtain ⟨ad, x, rfl, _, _, hx0, hx1, hc⟩ := hl.at_ hkm
      refine (next_big cb w n ad m c k x hb hkm hm (by omega) hc hx0 hx1 (fun q => (Cod.moved hb hkm hm hl q).1)).mono fun e w' ⟨y, q, he, hy0, hy1, hC, hg, hs⟩ => ?_
      have g := (Cod.moved hb hkm hm hl q).2
      have e1 : 0 ≤ (256 * x + y) % n := Int.emod_nonneg _ (by omega)
      have e2 : (256 * x + y) % n < n := Int.emod_lt_of_pos _ (by omega)
      have e3 : (256 * x + y) % n ≤ 65535 := by
        by_cases hlt : 256 * x + y < n
        · rw [Int.emod_eq_of_lt (by omega) hlt]; omega
        · omega
      refine ⟨_, he, e1, e3, fun _ => e2, hC, ⟨hg.os.trans g.os, hg.tape.trans g.tape, hg.output.trans g.output, Nat.le_trans g.size hg.size, fun i hi hne => ?_⟩, hs⟩
      exact (hg.block i (Nat.lt_of_lt_of_le hi g.size) hne).trans (g.block i hi hne)
end Go.Proofs.Ytmbcclgnjobikaa
