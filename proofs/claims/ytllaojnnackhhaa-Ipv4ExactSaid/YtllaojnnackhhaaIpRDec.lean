/-
  The walk of the reference's Decode.
-/
import Derived.Test.YtllaojnnackhhaaIpDec
namespace Go.Proofs.Ytllaojnnackhhaa
open Go.RowKit
set_option linter.unusedVariables false
set_option linter.unusedSimpArgs false
set_option maxRecDepth 100000 in
set_option maxHeartbeats 2000000 in
theorem rdecode_bad (A : Option Addr) (n c : Nat) (l : List Int) (w : World) (hl : Byt w w.heap.size A n l) (hnc : n ≤ c) (hn2 : n ≤ 100000) (he : peekE l ≠ 0) :
    Calls Try.prog 38 #[.slice A n c] w (DecR l w) := by
  have hE : decE l = peekE l := if_neg he
  have hb : (peekE l != 0) = true := by simpa using he
  have hD : decH l = Hd.zero ∧ decD l = [] := by unfold decH decD; rw [hE, if_neg he, if_neg he]; exact ⟨rfl, rfl⟩
  have HD := Lib.hid (And.intro hE hD)
  have hl1 := hl.alloc (Nat.le_refl _) (.cells #[.int .i64 0, .int .i64 0, .int .i64 0, .int .i64 0, .bool false, .int .u32 0, .int .u32 0, .slice none 0 0] 48)
  clear hE hD he
  go_enter Try.func38, Try.ntmps38
  go_wp2_with fail
  refine (rpeek_any _ _ _ _ _ (hl1.more (by simp)) hnc hn2).mono ?_
  rintro e w1 ⟨rfl, hb1⟩
  have B0 := (Blk.new w 48 #[.int .i64 0, .int .i64 0, .int .i64 0, .int .i64 0, .bool false, .int .u32 0, .int .u32 0, .slice none 0 0]).below hb1 (by simp)
  have W1 : Below w.heap.size w w1 := ((Below.refl _ _).alloc (Nat.le_refl _) _).trans (hb1.mono (by simp))
  clear hb1
  have c0 := B0.cell
  have f0 := B0.frozen
  have hlt := B0.lt
  generalize peekH l = h
  obtain ⟨tos, id, ttl, proto, keep, src, dst⟩ := h
  simp only [hv, hcells]
  go_wp2_with fail
  refine bodyPost_ret (results_blk2 Try.results38 _ _ w.heap.size _ _ rfl ((blk_set8 B0 _ _ _ _ _ _ _ _).alloc _) Try.underlying48 rfl rfl) rfl ⟨none, 0, 0, ?_, Nat.le_refl _, ?_, ?_⟩
  · rw [HD.out.1, HD.out.2.1]; rfl
  · rw [HD.out.2.2]; exact Byt.none_ _ _
  · exact (((((((((W1.setCell (by simp) _).setCell (by simp) _).setCell (by simp) _).setCell (by simp) _).setCell (by simp) _).setCell (by simp) _).setCell (by simp) _).setCell (by simp) _).alloc (by have := W1.size; simpa using this) _)
set_option maxRecDepth 100000 in
set_option maxHeartbeats 2000000 in
theorem rdecode_len (A : Option Addr) (n c : Nat) (l : List Int) (w : World) (hl : Byt w w.heap.size A n l) (hnc : n ≤ c) (hn2 : n ≤ 100000) (e0 : peekE l = 0) (hne : ¬ peekN l = l.length) :
    Calls Try.prog 38 #[.slice A n c] w (DecR l w) := by
  have hE : decE l = 2 := by unfold decE; rw [if_pos e0, if_neg hne]
  have hD : decH l = Hd.zero ∧ decD l = [] := by unfold decH decD; rw [hE]; exact ⟨rfl, rfl⟩
  have hb : (peekN l != (n : Int)) = true := by rw [← hl.len]; simpa using hne
  have E0 := Lib.hid e0
  have HD := Lib.hid (And.intro hE hD)
  have hl1 := hl.alloc (Nat.le_refl _) (.cells #[.int .i64 0, .int .i64 0, .int .i64 0, .int .i64 0, .bool false, .int .u32 0, .int .u32 0, .slice none 0 0] 48)
  clear hE hD
  go_enter Try.func38, Try.ntmps38
  go_wp2_with fail
  refine (rpeek_any _ _ _ _ _ (hl1.more (by simp)) hnc hn2).mono ?_
  rintro e w1 ⟨rfl, hb1⟩
  have B0 := (Blk.new w 48 #[.int .i64 0, .int .i64 0, .int .i64 0, .int .i64 0, .bool false, .int .u32 0, .int .u32 0, .slice none 0 0]).below hb1 (by simp)
  have W1 : Below w.heap.size w w1 := ((Below.refl _ _).alloc (Nat.le_refl _) _).trans (hb1.mono (by simp))
  clear hb1
  have c0 := B0.cell
  have f0 := B0.frozen
  have hlt := B0.lt
  rw [e0]
  generalize peekH l = h
  obtain ⟨tos, id, ttl, proto, keep, src, dst⟩ := h
  simp only [hv, hcells]
  go_wp2_with fail
  refine bodyPost_ret (results_blk2 Try.results38 _ _ w.heap.size _ _ rfl ((blk_set8 B0 _ _ _ _ _ _ _ _).alloc _) Try.underlying48 rfl rfl) rfl ⟨none, 0, 0, ?_, Nat.le_refl _, ?_, ?_⟩
  · rw [HD.out.1, HD.out.2.1]; rfl
  · rw [HD.out.2.2]; exact Byt.none_ _ _
  · exact (((((((((W1.setCell (by simp) _).setCell (by simp) _).setCell (by simp) _).setCell (by simp) _).setCell (by simp) _).setCell (by simp) _).setCell (by simp) _).setCell (by simp) _).alloc (by have := W1.size; simpa using this) _)
set_option maxRecDepth 100000 in
set_option maxHeartbeats 2000000 in
theorem rdecode_lim (A : Option Addr) (n c : Nat) (l : List Int) (w : World) (hl : Byt w w.heap.size A n l) (hnc : n ≤ c) (hn2 : n ≤ 100000) (e0 : peekE l = 0) (heq : peekN l = l.length) (hgt : 1500 < peekN l) :
    Calls Try.prog 38 #[.slice A n c] w (DecR l w) := by
  have hE : decE l = 5 := by unfold decE; rw [if_pos e0, if_pos heq, if_pos hgt]
  have hD : decH l = Hd.zero ∧ decD l = [] := by unfold decH decD; rw [hE]; exact ⟨rfl, rfl⟩
  have hb : (peekN l != (n : Int)) = false := by rw [← hl.len]; simpa using heq
  have E0 := Lib.hid e0
  have HD := Lib.hid (And.intro hE hD)
  have hl1 := hl.alloc (Nat.le_refl _) (.cells #[.int .i64 0, .int .i64 0, .int .i64 0, .int .i64 0, .bool false, .int .u32 0, .int .u32 0, .slice none 0 0] 48)
  clear hE hD
  go_enter Try.func38, Try.ntmps38
  go_wp2_with fail
  refine (rpeek_any _ _ _ _ _ (hl1.more (by simp)) hnc hn2).mono ?_
  rintro e w1 ⟨rfl, hb1⟩
  have B0 := (Blk.new w 48 #[.int .i64 0, .int .i64 0, .int .i64 0, .int .i64 0, .bool false, .int .u32 0, .int .u32 0, .slice none 0 0]).below hb1 (by simp)
  have W1 : Below w.heap.size w w1 := ((Below.refl _ _).alloc (Nat.le_refl _) _).trans (hb1.mono (by simp))
  clear hb1
  have c0 := B0.cell
  have f0 := B0.frozen
  have hlt := B0.lt
  rw [e0]
  generalize peekH l = h
  obtain ⟨tos, id, ttl, proto, keep, src, dst⟩ := h
  simp only [hv, hcells]
  go_wp2_with fail
  refine bodyPost_ret (results_blk2 Try.results38 _ _ w.heap.size _ _ rfl ((blk_set8 B0 _ _ _ _ _ _ _ _).alloc _) Try.underlying48 rfl rfl) rfl ⟨none, 0, 0, ?_, Nat.le_refl _, ?_, ?_⟩
  · rw [HD.out.1, HD.out.2.1]; rfl
  · rw [HD.out.2.2]; exact Byt.none_ _ _
  · exact (((((((((W1.setCell (by simp) _).setCell (by simp) _).setCell (by simp) _).setCell (by simp) _).setCell (by simp) _).setCell (by simp) _).setCell (by simp) _).setCell (by simp) _).alloc (by have := W1.size; simpa using this) _)

set_option maxRecDepth 100000 in
set_option maxHeartbeats 2000000 in
theorem rdecode_ok (A : Option Addr) (n c : Nat) (l : List Int) (w : World) (hl : Byt w w.heap.size A n l) (hnc : n ≤ c) (hn2 : n ≤ 100000) (e0 : peekE l = 0) (heq : peekN l = l.length) (hgt : ¬ 1500 < peekN l) (h20 : 20 ≤ n) :
    Calls Try.prog 38 #[.slice A n c] w (DecR l w) := by
  have hE : decE l = 0 := by unfold decE; rw [if_pos e0, if_pos heq, if_neg hgt]
  have hD : decH l = peekH l ∧ decD l = l.drop 20 := by unfold decH decD; rw [hE]; exact ⟨rfl, rfl⟩
  have hb : (peekN l != (n : Int)) = false := by rw [← hl.len]; simpa using heq
  have hgt' : peekN l ≤ 1500 := by omega
  have HD := Lib.hid (And.intro hE hD)
  have hl1 := hl.alloc (Nat.le_refl _) (.cells #[.int .i64 0, .int .i64 0, .int .i64 0, .int .i64 0, .bool false, .int .u32 0, .int .u32 0, .slice none 0 0] 48)
  clear hE hD heq hgt
  go_enter Try.func38, Try.ntmps38
  go_wp2_with fail
  refine (rpeek_any _ _ _ _ _ (hl1.more (by simp)) hnc hn2).mono ?_
  rintro e w1 ⟨rfl, hb1⟩
  have B0 := (Blk.new w 48 #[.int .i64 0, .int .i64 0, .int .i64 0, .int .i64 0, .bool false, .int .u32 0, .int .u32 0, .slice none 0 0]).below hb1 (by simp)
  have W1 : Below w.heap.size w w1 := ((Below.refl _ _).alloc (Nat.le_refl _) _).trans (hb1.mono (by simp))
  have hlt := B0.lt
  have hl2 := (hl.below W1)
  clear hb1
  rw [e0]
  generalize hh : peekH l = h
  have HH := Lib.hid hh
  clear hh
  obtain ⟨tos, id, ttl, proto, keep, src, dst⟩ := h
  simp only [hv, hcells]
  have hlen : (l.drop 20).length = n - 20 := by have := hl.len; simp; omega
  obtain ⟨A2, hA2⟩ : ∃ A2, A2 = if c = 20 then A else A.map (·.add 20) := ⟨_, rfl⟩
  have hsl : ∀ wx : World, (Instr.sliceAt 22 (.slice A n c) (some (.int .i64 20)) none none).run Try.prog wx = .ok (.slice A2 (n - 20) (c - 20)) wx := by
    intro wx; rw [hA2]; exact cut_from A n c 20 h20 hnc wx
  have hl3 : Byt w1 w1.heap.size A2 (n - 20) (l.drop 20) := by rw [hA2]; exact (hl2.more W1.size).cut h20 hnc
  clear hA2
  have B4 := Blk.new w1 46 #[.int .i64 tos, .int .i64 id, .int .i64 ttl, .int .i64 proto, .bool keep, .int .u32 src, .int .u32 dst]
  have B0' := B0.alloc (.cells #[.int .i64 tos, .int .i64 id, .int .i64 ttl, .int .i64 proto, .bool keep, .int .u32 src, .int .u32 dst] 46)
  have W4 := W1.alloc W1.size (.cells #[.int .i64 tos, .int .i64 id, .int .i64 ttl, .int .i64 proto, .bool keep, .int .u32 src, .int .u32 dst] 46)
  have hl4 : Byt (w1.alloc (.cells #[.int .i64 tos, .int .i64 id, .int .i64 ttl, .int .i64 proto, .bool keep, .int .u32 src, .int .u32 dst] 46)) (w1.alloc (.cells #[.int .i64 tos, .int .i64 id, .int .i64 ttl, .int .i64 proto, .bool keep, .int .u32 src, .int .u32 dst] 46)).heap.size A2 (n - 20) (l.drop 20) := (hl3.alloc (Nat.le_refl _) _).more (by simp)
  go_upto_region 8 with fail
  generalize w1.alloc (.cells #[.int .i64 tos, .int .i64 id, .int .i64 ttl, .int .i64 proto, .bool keep, .int .u32 src, .int .u32 dst] 46) = w4 at *
  have r0 : w4.cell? ⟨w1.heap.size, 0, none⟩ = some (.int .i64 tos) := B4.cell 0
  have r1 : w4.cell? ⟨w1.heap.size, 1, none⟩ = some (.int .i64 id) := B4.cell 1
  have r2 : w4.cell? ⟨w1.heap.size, 2, none⟩ = some (.int .i64 ttl) := B4.cell 2
  have r3 : w4.cell? ⟨w1.heap.size, 3, none⟩ = some (.int .i64 proto) := B4.cell 3
  have r4 : w4.cell? ⟨w1.heap.size, 4, none⟩ = some (.bool keep) := B4.cell 4
  have r5 : w4.cell? ⟨w1.heap.size, 5, none⟩ = some (.int .u32 src) := B4.cell 5
  have r6 : w4.cell? ⟨w1.heap.size, 6, none⟩ = some (.int .u32 dst) := B4.cell 6
  have hlt4 := B4.lt
  have hlt0 := B0'.lt
  have hne : w.heap.size ≠ w1.heap.size := by omega
  clear hl hl1 hl2 hl3
  go_upto_region 9 with fail
  go_cut [2, 3] (fun s2 s3 wx => s2 = .pointer (some ⟨w.heap.size, 0, none⟩) ∧ s3 = .int .i64 0 ∧ ∃ A3 m3 c3, m3 ≤ c3 ∧ Byt wx wx.heap.size A3 m3 (l.drop 20) ∧ Below w.heap.size w wx ∧ Blk wx w.heap.size 48 #[.int .i64 tos, .int .i64 id, .int .i64 ttl, .int .i64 proto, .bool keep, .int .u32 src, .int .u32 dst, .slice A3 m3 c3])
  case first =>
    go_region_held3 (fun w' => w'.cell? ⟨w1.heap.size, 0, none⟩ = some (.int .i64 tos) ∧ w'.cell? ⟨w1.heap.size, 1, none⟩ = some (.int .i64 id) ∧ w'.cell? ⟨w1.heap.size, 2, none⟩ = some (.int .i64 ttl) ∧ w'.cell? ⟨w1.heap.size, 3, none⟩ = some (.int .i64 proto) ∧ w'.cell? ⟨w1.heap.size, 4, none⟩ = some (.bool keep) ∧ w'.cell? ⟨w1.heap.size, 5, none⟩ = some (.int .u32 src) ∧ w'.cell? ⟨w1.heap.size, 6, none⟩ = some (.int .u32 dst))
      (first | go_keep | exact ⟨B5.cell 0, B5.cell 1, B5.cell 2, B5.cell 3, B5.cell 4, B5.cell 5, B5.cell 6⟩)
      (first
        | (refine step_app (by rfl) _ (.tmp 27) _ (by rfl) elU8 w4.heap.size none 0 0 [] (by rfl) (World.ownsRow_nil _ _ _ _) _ A2 (n - 20) (c - 20) (bv (l.drop 20)) (by rfl) (hl4.drew.1) (bv_one _) (by omega) (by simp) (n - 20) (by omega) ?_
           intro A3 c3 w5 hc3 hm3 hown3 hb3 hg3
           have m3 := n - 20
           have B5 := Blk.below B4.drew hb3 hlt4
           have B6 := Blk.below B0'.drew hb3 hlt0
           have c6 := B6.cell
           have f6 := B6.frozen
           have W5 := W4.drew.trans (hb3.mono W4.size)))
    go_wp2_with fail
    go_meet
    refine ⟨rfl, rfl, A3, n - 20, c3, hc3, byt_own (ownsRow_setCell_below (ownsRow_setCell_below (ownsRow_setCell_below (ownsRow_setCell_below (ownsRow_setCell_below (ownsRow_setCell_below (ownsRow_setCell_below (ownsRow_setCell_below hown3 (a := ⟨w.heap.size, 0, none⟩) hlt0 _) (a := ⟨w.heap.size, 1, none⟩) hlt0 _) (a := ⟨w.heap.size, 2, none⟩) hlt0 _) (a := ⟨w.heap.size, 3, none⟩) hlt0 _) (a := ⟨w.heap.size, 4, none⟩) hlt0 _) (a := ⟨w.heap.size, 5, none⟩) hlt0 _) (a := ⟨w.heap.size, 6, none⟩) hlt0 _) (a := ⟨w.heap.size, 7, none⟩) hlt0 _) (hl4.2), ((((((((W5.setCell (by simp) _).setCell (by simp) _).setCell (by simp) _).setCell (by simp) _).setCell (by simp) _).setCell (by simp) _).setCell (by simp) _).setCell (by simp) _), blk_set8 B6 _ _ _ _ _ _ _ _⟩
  case rest =>
    obtain ⟨rfl, rfl, A3, m3, c3, hc3, hb3, hw3, B3⟩ := hcut
    go_wp2_with fail
    refine bodyPost_ret (results_blk2 Try.results38 _ _ w.heap.size _ _ rfl B3 Try.underlying48 rfl rfl) rfl ⟨A3, m3, c3, ?_, hc3, ?_, hw3⟩
    · rw [HD.out.1, HD.out.2.1, HH.out]; rfl
    · rw [HD.out.2.2]; exact hb3
theorem rdecode_any (A : Option Addr) (n c : Nat) (l : List Int) (w : World) (hl : Byt w w.heap.size A n l) (hnc : n ≤ c) (hn2 : n ≤ 100000) :
    Calls Try.prog 38 #[.slice A n c] w (DecR l w) := by
  by_cases e0 : peekE l = 0
  · by_cases heq : peekN l = l.length
    · by_cases hgt : 1500 < peekN l
      · exact rdecode_lim A n c l w hl hnc hn2 e0 heq hgt
      · have h20 : 20 ≤ n := by
          rcases Nat.lt_or_ge n 20 with h | h
          · exfalso; unfold peekE at e0; rw [if_pos (by rw [hl.len]; omega)] at e0; omega
          · exact h
        exact rdecode_ok A n c l w hl hnc hn2 e0 heq hgt h20
    · exact rdecode_len A n c l w hl hnc hn2 e0 heq
  · exact rdecode_bad A n c l w hl hnc hn2 e0
end Go.Proofs.Ytllaojnnackhhaa
