/-
  The plain law of Ipv4Back: what is encoded is decoded. No program is walked.
-/
import Derived.Test.YtllaojnnackhhaaIpLow
namespace Go.Proofs.Ytllaojnnackhhaa
set_option linter.unusedVariables false
set_option linter.unusedSimpArgs false

theorem getV20 (a0 a1 a2 a3 a4 a5 a6 a7 a8 a9 b0 b1 b2 b3 b4 b5 b6 b7 b8 b9 : Int) : getV [a0, a1, a2, a3, a4, a5, a6, a7, a8, a9, b0, b1, b2, b3, b4, b5, b6, b7, b8, b9] 0 1 = a0 ∧ getV [a0, a1, a2, a3, a4, a5, a6, a7, a8, a9, b0, b1, b2, b3, b4, b5, b6, b7, b8, b9] 1 1 = a1 ∧ getV [a0, a1, a2, a3, a4, a5, a6, a7, a8, a9, b0, b1, b2, b3, b4, b5, b6, b7, b8, b9] 2 2 = a2 * 256 + a3 ∧ getV [a0, a1, a2, a3, a4, a5, a6, a7, a8, a9, b0, b1, b2, b3, b4, b5, b6, b7, b8, b9] 4 2 = a4 * 256 + a5 ∧ getV [a0, a1, a2, a3, a4, a5, a6, a7, a8, a9, b0, b1, b2, b3, b4, b5, b6, b7, b8, b9] 6 2 = a6 * 256 + a7 ∧ getV [a0, a1, a2, a3, a4, a5, a6, a7, a8, a9, b0, b1, b2, b3, b4, b5, b6, b7, b8, b9] 8 1 = a8 ∧ getV [a0, a1, a2, a3, a4, a5, a6, a7, a8, a9, b0, b1, b2, b3, b4, b5, b6, b7, b8, b9] 9 1 = a9 ∧ getV [a0, a1, a2, a3, a4, a5, a6, a7, a8, a9, b0, b1, b2, b3, b4, b5, b6, b7, b8, b9] 10 2 = b0 * 256 + b1 ∧ getV [a0, a1, a2, a3, a4, a5, a6, a7, a8, a9, b0, b1, b2, b3, b4, b5, b6, b7, b8, b9] 12 4 = ((b2 * 256 + b3) * 256 + b4) * 256 + b5 ∧ getV [a0, a1, a2, a3, a4, a5, a6, a7, a8, a9, b0, b1, b2, b3, b4, b5, b6, b7, b8, b9] 16 4 = ((b6 * 256 + b7) * 256 + b8) * 256 + b9 := by
  refine ⟨?_, ?_, ?_, ?_, ?_, ?_, ?_, ?_, ?_, ?_⟩
  · have := getV_lit [a0, a1, a2, a3, a4, a5, a6, a7, a8, a9, b0, b1, b2, b3, b4, b5, b6, b7, b8, b9] 0 1 (by omega) (by omega) (by simp)
    simp only [List.drop_succ_cons, List.drop_zero, List.take_succ_cons, List.take_zero, be, List.foldl_cons, List.foldl_nil, Int.zero_mul, Int.zero_add] at this
    exact this
  · have := getV_lit [a0, a1, a2, a3, a4, a5, a6, a7, a8, a9, b0, b1, b2, b3, b4, b5, b6, b7, b8, b9] 1 1 (by omega) (by omega) (by simp)
    simp only [List.drop_succ_cons, List.drop_zero, List.take_succ_cons, List.take_zero, be, List.foldl_cons, List.foldl_nil, Int.zero_mul, Int.zero_add] at this
    exact this
  · have := getV_lit [a0, a1, a2, a3, a4, a5, a6, a7, a8, a9, b0, b1, b2, b3, b4, b5, b6, b7, b8, b9] 2 2 (by omega) (by omega) (by simp)
    simp only [List.drop_succ_cons, List.drop_zero, List.take_succ_cons, List.take_zero, be, List.foldl_cons, List.foldl_nil, Int.zero_mul, Int.zero_add] at this
    exact this
  · have := getV_lit [a0, a1, a2, a3, a4, a5, a6, a7, a8, a9, b0, b1, b2, b3, b4, b5, b6, b7, b8, b9] 4 2 (by omega) (by omega) (by simp)
    simp only [List.drop_succ_cons, List.drop_zero, List.take_succ_cons, List.take_zero, be, List.foldl_cons, List.foldl_nil, Int.zero_mul, Int.zero_add] at this
    exact this
  · have := getV_lit [a0, a1, a2, a3, a4, a5, a6, a7, a8, a9, b0, b1, b2, b3, b4, b5, b6, b7, b8, b9] 6 2 (by omega) (by omega) (by simp)
    simp only [List.drop_succ_cons, List.drop_zero, List.take_succ_cons, List.take_zero, be, List.foldl_cons, List.foldl_nil, Int.zero_mul, Int.zero_add] at this
    exact this
  · have := getV_lit [a0, a1, a2, a3, a4, a5, a6, a7, a8, a9, b0, b1, b2, b3, b4, b5, b6, b7, b8, b9] 8 1 (by omega) (by omega) (by simp)
    simp only [List.drop_succ_cons, List.drop_zero, List.take_succ_cons, List.take_zero, be, List.foldl_cons, List.foldl_nil, Int.zero_mul, Int.zero_add] at this
    exact this
  · have := getV_lit [a0, a1, a2, a3, a4, a5, a6, a7, a8, a9, b0, b1, b2, b3, b4, b5, b6, b7, b8, b9] 9 1 (by omega) (by omega) (by simp)
    simp only [List.drop_succ_cons, List.drop_zero, List.take_succ_cons, List.take_zero, be, List.foldl_cons, List.foldl_nil, Int.zero_mul, Int.zero_add] at this
    exact this
  · have := getV_lit [a0, a1, a2, a3, a4, a5, a6, a7, a8, a9, b0, b1, b2, b3, b4, b5, b6, b7, b8, b9] 10 2 (by omega) (by omega) (by simp)
    simp only [List.drop_succ_cons, List.drop_zero, List.take_succ_cons, List.take_zero, be, List.foldl_cons, List.foldl_nil, Int.zero_mul, Int.zero_add] at this
    exact this
  · have := getV_lit [a0, a1, a2, a3, a4, a5, a6, a7, a8, a9, b0, b1, b2, b3, b4, b5, b6, b7, b8, b9] 12 4 (by omega) (by omega) (by simp)
    simp only [List.drop_succ_cons, List.drop_zero, List.take_succ_cons, List.take_zero, be, List.foldl_cons, List.foldl_nil, Int.zero_mul, Int.zero_add] at this
    exact this
  · have := getV_lit [a0, a1, a2, a3, a4, a5, a6, a7, a8, a9, b0, b1, b2, b3, b4, b5, b6, b7, b8, b9] 16 4 (by omega) (by omega) (by simp)
    simp only [List.drop_succ_cons, List.drop_zero, List.take_succ_cons, List.take_zero, be, List.foldl_cons, List.foldl_nil, Int.zero_mul, Int.zero_add] at this
    exact this

theorem enc_four (s : Int) : enc s 4 = [s / 16777216 % 256, s / 65536 % 256, s / 256 % 256, s % 256] := by
  simp only [enc, List.cons.injEq, and_true]
  rw [show (256 : Int) ^ 3 = 16777216 from rfl, show (256 : Int) ^ 2 = 65536 from rfl, show (256 : Int) ^ 1 = 256 from rfl, show (256 : Int) ^ 0 = 1 from rfl]; omega
theorem flagsF_cases (h : Hd) : (h.keep = true ∧ flagsF h = 16384) ∨ (h.keep = false ∧ flagsF h = 0) := by
  unfold flagsF
  cases h.keep <;> simp
/-- a right header is read as what it was made from -/
theorem hdB_reads (h : Hd) (len : Int) (hc : checkB h = true) (hok : h.Ok) (h20 : 20 ≤ len) (hl : len ≤ 65535) :
    formB (hdB h len) = true ∧ pkH (hdB h len) = h ∧ getV (hdB h len) 2 2 = len := by
  obtain ⟨tos, id, ttl, proto, keep, src, dst⟩ := h
  obtain ⟨h1, h2, h3, h4⟩ := checkB_iff.1 hc
  obtain ⟨o1, o2, o3, o4⟩ := hok
  simp only at o1 o2 o3 o4
  have hs := sumF_bd ⟨tos, id, ttl, proto, keep, src, dst⟩ len
  generalize hsum : sumF ⟨tos, id, ttl, proto, keep, src, dst⟩ len = s at hs
  obtain ⟨fl, hfl, hk⟩ : ∃ fl : Int, flagsF ⟨tos, id, ttl, proto, keep, src, dst⟩ = fl ∧ ((keep = true ∧ fl = 16384) ∨ (keep = false ∧ fl = 0)) := ⟨_, rfl, flagsF_cases ⟨tos, id, ttl, proto, keep, src, dst⟩⟩
  have hb : hdB ⟨tos, id, ttl, proto, keep, src, dst⟩ len = [69, tos, len / 256, len % 256, id / 256, id % 256, fl / 256, fl % 256, ttl, proto, s / 256, s % 256, src / 16777216 % 256, src / 65536 % 256, src / 256 % 256, src % 256, dst / 16777216 % 256, dst / 65536 % 256, dst / 256 % 256, dst % 256] := by
    unfold hdB headB tailB
    rw [hsum, hfl, enc_one 69 (by omega) (by omega), enc_one tos (by omega) (by omega), enc_two len (by omega) (by omega), enc_two id (by omega) (by omega), enc_two fl (by omega) (by omega), enc_one ttl (by omega) (by omega), enc_one proto (by omega) (by omega), enc_two s (by omega) (by omega), enc_four, enc_four]
    rfl
  rw [hb]
  obtain ⟨g0, g1, g2, g4, g6, g8, g9, g10, g12, g16⟩ := getV20 69 tos (len / 256) (len % 256) (id / 256) (id % 256) (fl / 256) (fl % 256) ttl proto (s / 256) (s % 256) (src / 16777216 % 256) (src / 65536 % 256) (src / 256 % 256) (src % 256) (dst / 16777216 % 256) (dst / 65536 % 256) (dst / 256 % 256) (dst % 256)
  refine ⟨?_, ?_, ?_⟩
  · unfold formB
    refine decide_eq_true ⟨g0, ?_, ?_⟩
    · rw [g6]; omega
    · rw [g2]; omega
  · unfold pkH
    rw [g1, g4, g6, g8, g9, g12, g16]
    have e1 : id / 256 * 256 + id % 256 = id := by omega
    have e2 : fl / 256 * 256 + fl % 256 = fl := by omega
    have e3 : ((src / 16777216 % 256 * 256 + src / 65536 % 256) * 256 + src / 256 % 256) * 256 + src % 256 = src := by omega
    have e4 : ((dst / 16777216 % 256 * 256 + dst / 65536 % 256) * 256 + dst / 256 % 256) * 256 + dst % 256 = dst := by omega
    have e5 : (fl == 16384) = keep := by rcases hk with ⟨rfl, rfl⟩ | ⟨rfl, rfl⟩ <;> rfl
    rw [e1, e2, e3, e4, e5]
  · rw [g2]; omega
theorem peek_back (h : Hd) (len : Int) (r : List Int) (hc : checkB h = true) (hok : h.Ok) (h20 : 20 ≤ len) (hl : len ≤ 65535) :
    peekE (hdB h len ++ r) = 0 ∧ peekH (hdB h len ++ r) = h ∧ peekN (hdB h len ++ r) = len := by
  obtain ⟨f, p, g⟩ := hdB_reads h len hc hok h20 hl
  have ht : (hdB h len ++ r).take 20 = hdB h len := by
    rw [List.take_append_of_le_length (by rw [hdB_len]; omega), List.take_of_length_le (by rw [hdB_len]; omega)]
  have hE : peekE (hdB h len ++ r) = 0 := by
    unfold peekE
    rw [if_neg (by rw [List.length_append, hdB_len]; omega), ht, if_pos f, if_pos]
    unfold sumB
    exact decide_eq_true (by rw [p, g])
  refine ⟨hE, ?_, ?_⟩
  · unfold peekH; rw [if_pos hE, ht, p]
  · unfold peekN; rw [if_pos hE, ht, g]
theorem enc_back (h : Hd) (d : List Int) (hc : checkB h = true) (hd : d.length ≤ 1480) : encE h d = 0 ∧ encL h d = hdB h (20 + d.length) ++ d := by
  have hE : encE h d = 0 := by unfold encE; rw [if_pos hc, if_neg (by omega)]
  refine ⟨hE, ?_⟩
  unfold encL; rw [if_pos hE]
theorem dec_back (h : Hd) (d : List Int) (hc : checkB h = true) (hok : h.Ok) (hd : d.length ≤ 1480) :
    decE (encL h d) = 0 ∧ decH (encL h d) = h ∧ decD (encL h d) = d := by
  rw [(enc_back h d hc hd).2]
  obtain ⟨e, p, n⟩ := peek_back h (20 + d.length) d hc hok (by omega) (by omega)
  have hE : decE (hdB h (20 + d.length) ++ d) = 0 := by
    unfold decE
    rw [if_pos e, n, if_pos (by rw [List.length_append, hdB_len]; omega), if_neg (by omega)]
  refine ⟨hE, ?_, ?_⟩
  · unfold decH; rw [if_pos hE, p]
  · unfold decD; rw [if_pos hE, List.drop_append_of_le_length (by rw [hdB_len]; omega), List.drop_of_length_le (by rw [hdB_len]; omega)]; rfl
end Go.Proofs.Ytllaojnnackhhaa
