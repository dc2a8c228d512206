/-
  The plain law of Ipv4Lowers: how a header and its checksum turn when the TTL is lowered. No program is walked.
-/
import Derived.Test.YtllaojnnackhhaaIpBackLaw
namespace Go.Proofs.Ytllaojnnackhhaa
set_option linter.unusedVariables false
set_option linter.unusedSimpArgs false

theorem head_list (h : Hd) (len : Int) (hc : checkB h = true) (h20 : 20 ≤ len) (hl : len ≤ 65535) :
    headB h len = [69, h.tos, len / 256, len % 256, h.id / 256, h.id % 256, flagsF h / 256, flagsF h % 256, h.ttl, h.proto] := by
  obtain ⟨tos, id, ttl, proto, keep, src, dst⟩ := h
  obtain ⟨h1, h2, h3, h4⟩ := checkB_iff.1 hc
  have hk := flagsF_cases ⟨tos, id, ttl, proto, keep, src, dst⟩
  unfold headB
  simp only
  rw [enc_one 69 (by omega) (by omega), enc_one tos (by omega) (by omega), enc_two len (by omega) (by omega), enc_two id (by omega) (by omega), enc_two _ (by omega) (by omega), enc_one ttl (by omega) (by omega), enc_one proto (by omega) (by omega)]
  rfl
theorem lower_raw (h : Hd) (len : Int) (hc : checkB h = true) (h20 : 20 ≤ len) (hl : len ≤ 65535) :
    ∃ S : Int, 0 < S ∧ raw (headB h len ++ enc 0 2 ++ tailB h) = S + h.ttl * 256 + h.proto ∧ ∀ t : Int, 0 ≤ t → t < 256 → raw (headB ⟨h.tos, h.id, t, h.proto, h.keep, h.src, h.dst⟩ len ++ enc 0 2 ++ tailB ⟨h.tos, h.id, t, h.proto, h.keep, h.src, h.dst⟩) = S + t * 256 + h.proto := by
  obtain ⟨tos, id, ttl, proto, keep, src, dst⟩ := h
  obtain ⟨h1, h2, h3, h4⟩ := checkB_iff.1 hc
  have e0 : enc 0 2 = [0, 0] := by simp [enc]
  have hk := flagsF_cases ⟨tos, id, ttl, proto, keep, src, dst⟩
  refine ⟨69 * 256 + tos + (len / 256 * 256 + len % 256) + (id / 256 * 256 + id % 256) + (flagsF ⟨tos, id, ttl, proto, keep, src, dst⟩ / 256 * 256 + flagsF ⟨tos, id, ttl, proto, keep, src, dst⟩ % 256) + (src / 16777216 % 256 * 256 + src / 65536 % 256) + (src / 256 % 256 * 256 + src % 256) + (dst / 16777216 % 256 * 256 + dst / 65536 % 256) + (dst / 256 % 256 * 256 + dst % 256), by omega, ?_, ?_⟩
  · rw [head_list _ _ hc h20 hl, e0]
    simp only [tailB, enc_four, List.cons_append, List.nil_append, raw]
    omega
  · intro t t0 t1
    have hc' : checkB ⟨tos, id, t, proto, keep, src, dst⟩ = true := checkB_iff.2 ⟨h1, ⟨t0, t1⟩, h3, h4⟩
    rw [head_list _ _ hc' h20 hl, e0]
    have hf : flagsF ⟨tos, id, t, proto, keep, src, dst⟩ = flagsF ⟨tos, id, ttl, proto, keep, src, dst⟩ := rfl
    simp only [tailB, enc_four, List.cons_append, List.nil_append, raw, hf]
    omega
/-- the checksum of the lowered header is the updated one -/
theorem lower_sum (h : Hd) (len : Int) (hc : checkB h = true) (h20 : 20 ≤ len) (hl : len ≤ 65535) (ht : 1 ≤ h.ttl) :
    updF (sumF h len) (h.ttl * 256 + h.proto) ((h.ttl - 1) * 256 + h.proto) = sumF ⟨h.tos, h.id, h.ttl - 1, h.proto, h.keep, h.src, h.dst⟩ len := by
  obtain ⟨S, hS, r1, r2⟩ := lower_raw h len hc h20 hl
  obtain ⟨tos, id, ttl, proto, keep, src, dst⟩ := h
  obtain ⟨h1, h2, h3, h4⟩ := checkB_iff.1 hc
  have r2 := r2 (ttl - 1) (by simp only at ht; omega) (by omega)
  have b1 := sumF_bd ⟨tos, id, ttl, proto, keep, src, dst⟩ len
  simp only at ht r1 r2 ⊢
  unfold updF
  rw [if_pos (by omega)]
  unfold sumF sm
  rw [r1, r2]
  unfold oc
  rw [if_neg (by omega : ¬ S + ttl * 256 + proto = 0), if_neg (by omega : ¬ S + (ttl - 1) * 256 + proto = 0), if_neg (by omega)]
  omega
theorem hdB_words (h : Hd) (len : Int) (r : List Int) (hc : checkB h = true) (h20 : 20 ≤ len) (hl : len ≤ 65535) :
    getV (hdB h len ++ r) 8 2 = h.ttl * 256 + h.proto ∧ getV (hdB h len ++ r) 10 2 = sumF h len := by
  have hs := sumF_bd h len
  obtain ⟨tos, id, ttl, proto, keep, src, dst⟩ := h
  obtain ⟨h1, h2, h3, h4⟩ := checkB_iff.1 hc
  have ht : (hdB ⟨tos, id, ttl, proto, keep, src, dst⟩ len ++ r).take 20 = hdB ⟨tos, id, ttl, proto, keep, src, dst⟩ len := by
    rw [List.take_append_of_le_length (by rw [hdB_len]; omega), List.take_of_length_le (by rw [hdB_len]; omega)]
  have hlen : 20 ≤ (hdB ⟨tos, id, ttl, proto, keep, src, dst⟩ len ++ r).length := by rw [List.length_append, hdB_len]; omega
  rw [← getV_take _ 8 2 (by omega) (by omega) (by omega) (by omega) hlen, ← getV_take _ 10 2 (by omega) (by omega) (by omega) (by omega) hlen, ht]
  unfold hdB
  rw [head_list _ _ hc h20 hl, enc_two _ hs.1 hs.2]
  generalize sumF ⟨tos, id, ttl, proto, keep, src, dst⟩ len = s at *
  simp only [tailB, enc_four, List.cons_append, List.nil_append]
  obtain ⟨g0, g1, g2, g4, g6, g8, g9, g10, g12, g16⟩ := getV20 69 tos (len / 256) (len % 256) (id / 256) (id % 256) (flagsF ⟨tos, id, ttl, proto, keep, src, dst⟩ / 256) (flagsF ⟨tos, id, ttl, proto, keep, src, dst⟩ % 256) ttl proto (s / 256) (s % 256) (src / 16777216 % 256) (src / 65536 % 256) (src / 256 % 256) (src % 256) (dst / 16777216 % 256) (dst / 65536 % 256) (dst / 256 % 256) (dst % 256)
  refine ⟨?_, ?_⟩
  · have := getV_lit [69, tos, len / 256, len % 256, id / 256, id % 256, flagsF ⟨tos, id, ttl, proto, keep, src, dst⟩ / 256, flagsF ⟨tos, id, ttl, proto, keep, src, dst⟩ % 256, ttl, proto, s / 256, s % 256, src / 16777216 % 256, src / 65536 % 256, src / 256 % 256, src % 256, dst / 16777216 % 256, dst / 65536 % 256, dst / 256 % 256, dst % 256] 8 2 (by omega) (by omega) (by simp)
    simp only [List.drop_succ_cons, List.drop_zero, List.take_succ_cons, List.take_zero, be, List.foldl_cons, List.foldl_nil, Int.zero_mul, Int.zero_add] at this
    exact this
  · rw [g10]; omega
/-- what one round of the law meets -/
structure LowFacts (h : Hd) (d : List Int) : Prop where
  e : encE h d = 0
  len : (encL h d).length = 20 + d.length
  le : lowE (encL h d) = if h.ttl < 2 then 7 else 0
  ll : h.ttl < 2 → lowL (encL h d) = []
  lx : ¬ h.ttl < 2 → lowL (encL h d) = encL ⟨h.tos, h.id, h.ttl - 1, h.proto, h.keep, h.src, h.dst⟩ d
  up : ¬ h.ttl < 2 → updF (getV (encL h d) 10 2) (getV (encL h d) 8 2) (getV (encL ⟨h.tos, h.id, h.ttl - 1, h.proto, h.keep, h.src, h.dst⟩ d) 8 2) = getV (encL ⟨h.tos, h.id, h.ttl - 1, h.proto, h.keep, h.src, h.dst⟩ d) 10 2
theorem lowFacts (h : Hd) (d : List Int) (hc : checkB h = true) (hok : h.Ok) (hd : d.length ≤ 1480) : LowFacts h d := by
  obtain ⟨e, l⟩ := enc_back h d hc hd
  obtain ⟨a, b, c⟩ := dec_back h d hc hok hd
  have hl : (encL h d).length = 20 + d.length := by rw [l, List.length_append, hdB_len]
  have hh : lowH (encL h d) = ⟨h.tos, h.id, h.ttl - 1, h.proto, h.keep, h.src, h.dst⟩ := by unfold lowH; rw [b]
  obtain ⟨h1, h2, h3, h4⟩ := (checkB_iff (tos := h.tos) (id := h.id) (ttl := h.ttl) (proto := h.proto) (keep := h.keep) (src := h.src) (dst := h.dst)).1 hc
  have hc' : ¬ h.ttl < 2 → checkB ⟨h.tos, h.id, h.ttl - 1, h.proto, h.keep, h.src, h.dst⟩ = true := fun ht => checkB_iff.2 ⟨h1, by omega, h3, h4⟩
  refine ⟨e, hl, ?_, ?_, ?_, ?_⟩
  · unfold lowE
    rw [if_pos a, b, c, hh]
    split
    · rfl
    · rename_i ht; exact (enc_back _ d (hc' ht) hd).1
  · intro ht; unfold lowL; rw [if_pos a, b, if_pos ht]
  · intro ht; unfold lowL; rw [if_pos a, b, if_neg ht, c, hh]
  · intro ht
    rw [l, (enc_back _ d (hc' ht) hd).2, (hdB_words h _ d hc (by omega) (by omega)).1, (hdB_words h _ d hc (by omega) (by omega)).2, (hdB_words _ _ d (hc' ht) (by omega) (by omega)).1, (hdB_words _ _ d (hc' ht) (by omega) (by omega)).2]
    exact lower_sum h _ hc (by omega) (by omega) (by omega)
end Go.Proofs.Ytllaojnnackhhaa
