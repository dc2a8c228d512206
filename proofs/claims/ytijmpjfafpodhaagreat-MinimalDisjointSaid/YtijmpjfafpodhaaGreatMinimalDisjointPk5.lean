/-
  Texts of the proof, joined: MnLaw2, MnLaw, MnLaw3, MnLaw4, MnLaw5, MnLaw6, MnDj, BdRad, BdRX, MnLD.
-/
import Derived.Test.YtijmpjfafpodhaaGreatMinimalDisjointPk4
import Derived.Test.YtijmpjfafpodhaaGreatMinimalDisjointPk3
set_option linter.unusedVariables false
set_option linter.unusedSimpArgs false
namespace Go.Proofs.YtijmpjfafpodhaaGreat
set_option maxHeartbeats 1000000
open Go.RowKit
section
variable {es : List En} {u : Ru} {p : Rp} {o : List Rs}
theorem remI_app {a t : List Rs} {k q : Nat} (ha : a.length = k) : remI (a ++ t) (k + q) = a ++ remI t q := by
  unfold remI
  rw [List.take_append, List.drop_append, ha, List.take_of_length_le (by omega), List.drop_of_length_le (by omega), show k + q - k = q by omega, show k + q + 1 - k = q + 1 by omega]
  simp
theorem remI_sub (t : List Rs) (q : Nat) : (remI t q).Sublist t := by
  unfold remI
  conv => rhs; rw [← List.take_append_drop q t]
  refine List.Sublist.append (List.Sublist.refl _) ?_
  rw [← List.drop_drop]
  exact List.drop_sublist 1 (t.drop q)
def MInv (es : List En) (u : Ru) (p : Rp) (o : List Rs) (k : Nat) (y : List Rs) : Prop :=
  ∃ t, y = o.take k ++ t ∧ t.Sublist (o.drop k) ∧ PrP es (o.take k ++ t) u p ∧ ∀ q, q < t.length → ¬ PrP es (o.take k ++ remI t q) u p
theorem minv_step (hok : ∀ r ∈ o, r.Ok) {k : Nat} (hk : k < o.length) {y : List Rs} (h : MInv es u p o (k + 1) y) : MInv es u p o k (mstep es u p y k) := by
  obtain ⟨t, rfl, h2, h3, h4⟩ := h
  have hx : o[k]? = some o[k] := List.getElem?_eq_getElem hk
  have e1 : o.take (k + 1) = o.take k ++ [o[k]] := by rw [List.take_add_one, hx]; rfl
  have e2 : o.drop k = o[k] :: o.drop (k + 1) := List.drop_eq_getElem_cons hk
  have hl : (o.take k).length = k := by rw [List.length_take]; omega
  have er : remI (o.take (k + 1) ++ t) k = o.take k ++ t := by
    have := remI_app (a := o.take k) (t := o[k] :: t) (q := 0) hl
    rw [e1, List.append_assoc]
    exact this
  have hm : ∀ {s : List Rs}, s.Sublist t → ∀ r ∈ o.take (k + 1) ++ s, r ∈ o := fun hs r hr => by
    rcases List.mem_append.1 hr with h5 | h5
    · exact List.mem_of_mem_take h5
    · exact List.mem_of_mem_drop (h2.subset (hs.subset h5))
  by_cases hp : PrP es (o.take k ++ t) u p
  · rw [show mstep es u p (o.take (k + 1) ++ t) k = remI (o.take (k + 1) ++ t) k from if_pos (by rw [er]; exact pdec_iff.2 hp), er]
    refine ⟨t, rfl, e2 ▸ h2.cons _, hp, fun q hq h5 => h4 q hq (h5.mono (fun r hr => ?_) (fun r hr => hok r (hm (remI_sub t q) r hr)))⟩
    rw [e1]
    rcases List.mem_append.1 hr with h6 | h6
    · exact List.mem_append_left _ (List.mem_append_left _ h6)
    · exact List.mem_append_right _ h6
  · rw [show mstep es u p (o.take (k + 1) ++ t) k = o.take (k + 1) ++ t from if_neg (by rw [er]; exact fun h => hp (pdec_iff.1 h))]
    refine ⟨o[k] :: t, by rw [e1, List.append_assoc]; rfl, by rw [e2]; exact h2.cons_cons _, by rw [e1, List.append_assoc] at h3; exact h3, fun q hq => ?_⟩
    cases q with
    | zero => exact hp
    | succ q =>
      have h5 := h4 q (by simpa using hq)
      rw [e1, List.append_assoc] at h5
      exact h5
theorem minv_all (hok : ∀ r ∈ o, r.Ok) (hp : PrP es o u p) : ∀ j k, j + k = o.length → MInv es u p o k ((revTo o.length k).foldl (fun y i => mstep es u p y i.1) o)
  | 0, k, h => by
    obtain rfl : k = o.length := by omega
    have e : revTo o.length o.length = [] := by unfold revTo; rw [Nat.sub_self]; exact List.take_zero
    rw [e]
    exact ⟨[], by rw [List.take_length, List.append_nil]; rfl, List.nil_sublist _, by rw [List.take_length, List.append_nil]; exact hp, fun q hq => absurd hq (by simp)⟩
  | j + 1, k, h => by
    have ih := minv_all hok hp j (k + 1) (by omega)
    rw [revTo_step (by omega), List.foldl_append]
    exact minv_step hok (by omega) ih
theorem minS_ok (hok : ∀ r ∈ o, r.Ok) (hp : PrP es o u p) : (minS es u p o).Sublist o ∧ PrP es (minS es u p o) u p ∧ ∀ q, q < (minS es u p o).length → ¬ PrP es (remI (minS es u p o) q) u p := by
  obtain ⟨t, h1, h2, h3, h4⟩ := minv_all hok hp o.length 0 (by omega)
  rw [revTo_zero] at h1
  have e : minS es u p o = t := by unfold minS; rw [h1, List.take_zero]; rfl
  rw [List.drop_zero] at h2
  rw [List.take_zero] at h3
  rw [e]
  exact ⟨h2, h3, fun q hq => by have := h4 q hq; rwa [List.take_zero] at this⟩
end
theorem drawn_inj {m : Nat} {l : List Rs} (h : DrawnOk m l) : ∀ a ∈ l, ∀ b ∈ l, idnR a = idnR b → a = b := fun a ha b hb e => by
  obtain ⟨i, hi⟩ := List.getElem?_of_mem ha
  obtain ⟨j, hj⟩ := List.getElem?_of_mem hb
  obtain ⟨hi1, rfl⟩ := List.getElem?_eq_some_iff.1 hi
  obtain ⟨hj1, rfl⟩ := List.getElem?_eq_some_iff.1 hj
  unfold idnR at e
  injection e with e1 e2 e3
  rcases Nat.lt_trichotomy i j with h1 | h1 | h1
  · have := ((List.pairwise_iff_getElem.1 h.2.1) i j hi1 hj1 h1).2 e1; omega
  · subst h1; rfl
  · have := ((List.pairwise_iff_getElem.1 h.2.1) j i hj1 hi1 h1).2 e1.symm; omega
theorem onF_id : ∀ (n : Nat) (o : List Rs), o.length = n → o.Nodup → (∀ a ∈ o, ∀ b ∈ o, idnR a = idnR b → a = b) → onF o = o
  | 0, o, h, _, _ => by
    obtain rfl : o = [] := List.eq_nil_of_length_eq_zero h
    rfl
  | n + 1, o, h, hn, hi => by
    have hne : o ≠ [] := fun e => by rw [e] at h; cases h
    have e := List.dropLast_concat_getLast hne
    have hs : ∀ {r}, r ∈ o.dropLast → r ∈ o := fun hr => List.dropLast_subset _ hr
    have ih := onF_id n o.dropLast (by rw [List.length_dropLast]; omega) (List.Nodup.sublist (List.dropLast_sublist _) hn) fun a ha b hb => hi a (hs ha) b (hs hb)
    rw [← e, onF_snoc, ih, if_neg fun hm => ?_]
    obtain ⟨r, hr, h1⟩ := List.mem_map.1 hm
    have h2 := hi r (hs hr) (o.getLast hne) (List.getLast_mem hne) h1
    rw [← e] at hn
    exact (List.nodup_append.1 hn).2.2 r hr _ (List.mem_singleton.2 rfl) h2
theorem asc_nodup {o : List Rs} (h : AscK Rs.keys o) : o.Nodup := h.imp fun {a b} hab e => by subst e; exact ltK_irrefl _ hab
theorem filt_lt {α : Type} {p : α → Bool} : ∀ {l : List α} {x : α}, x ∈ l → p x = false → (l.filter p).length + 1 ≤ l.length
  | y :: l, x, h, hp => by
    rw [List.filter_cons]
    rcases List.mem_cons.1 h with rfl | h
    · rw [hp]
      have := List.length_filter_le p l
      simp; omega
    · have := filt_lt h hp
      split <;> simp <;> omega
theorem two_le {α : Type} {l : List α} {a b : α} (ha : a ∈ l) (hb : b ∈ l) (hn : b ≠ a) : 2 ≤ l.length := by
  match l, ha, hb with
  | [x], ha, hb => exact absurd ((List.mem_singleton.1 hb).trans (List.mem_singleton.1 ha).symm) hn
  | x :: y :: l, _, _ => simp
theorem filt_two {α : Type} {p q : α → Bool} : ∀ l : List α, (l.filter p).length + (l.filter fun x => !p x && q x).length ≤ l.length
  | [] => Nat.le_refl _
  | x :: l => by
    have := filt_two (p := p) (q := q) l
    rw [List.filter_cons, List.filter_cons]
    cases hp : p x <;> cases hq : q x <;> simp <;> omega
theorem size_le {es : List En} {l : List Rs} {u : Ru} {p : Rp} (h : PrP es l u p) : sizeP u p ≤ l.length := by
  obtain ⟨h1, h2, _, h3⟩ := h
  unfold sizeP
  rw [h1, h2, if_pos (by rfl)]
  rcases h3 with ⟨hk, y, hy, h4⟩ | ⟨hk, y, hy, h4⟩ | ⟨hk, h4⟩
  · rw [if_pos hk]
    obtain ⟨x, hx, hf, _, hl⟩ := bh_iff.1 h4
    have hle := hy.le
    have hna : lostR x.ttl p.at_ x = false := by
      unfold finRs at hf
      unfold lostR
      simp only [Bool.and_eq_true] at hf
      rw [hf.1.1]; rfl
    have := filt_lt (p := lostR x.ttl p.at_) hx hna
    unfold lostN at hl
    omega
  · rw [if_neg (by omega), if_pos hk]
    obtain ⟨a, ha, _, b, hb, hb2⟩ := h4
    have hle := hy.le
    have := two_le (List.mem_filter.1 ha).1 (List.mem_filter.1 hb).1 (fun e => hb2.2.2 (by rw [e]))
    omega
  · rw [if_neg (by omega), if_neg (by omega)]
    have hv : 1 ≤ u.prb := by unfold vldRu at h1; have := of_decide_eq_true h1; omega
    rcases h4 with h4 | ⟨y, hy, e, _, h5, h6⟩
    · omega
    · have hle := hy.le
      have h7 := List.length_filter_le (fun z => decide (z ≤ e)) (eaL (atL y p.ttl) p.at_)
      have h8 := List.length_filter_le (fun z => decide (u.gro ≤ z - e)) (laL (atL y p.ttl) p.at_)
      have h9 : (eaL (atL y p.ttl) p.at_).length + (laL (atL y p.ttl) p.at_).length ≤ (atL y p.ttl).length := by
        unfold eaL laL
        rw [List.length_map, List.length_map]
        exact filt_two _
      have h10 := List.length_filter_le (fun r : Rs => r.ans && decide (r.ttl = p.ttl)) y
      have h11 : (atL y p.ttl).length ≤ y.length := h10
      omega
section
variable {es : List En} {u : Ru} {p : Rp}
end
theorem nodup_le {α : Type} : ∀ {s l : List α}, s.Nodup → (∀ x ∈ s, x ∈ l) → s.length ≤ l.length
  | [], l, _, _ => Nat.zero_le _
  | x :: s, l, hn, h => by
    obtain ⟨a, b, rfl⟩ := List.append_of_mem (h x List.mem_cons_self)
    have hn2 := List.nodup_cons.1 hn
    have := nodup_le (l := a ++ b) hn2.2 fun y hy => by
      rcases List.mem_append.1 (h y (List.mem_cons_of_mem _ hy)) with h1 | h1
      · exact List.mem_append_left _ h1
      · rcases List.mem_cons.1 h1 with rfl | h1
        · exact absurd hy hn2.1
        · exact List.mem_append_right _ h1
    rw [List.length_append] at this ⊢
    simp only [List.length_cons]; omega
section
variable {es : List En} {u : Ru} {p : Rp} {l M : List Rs}
theorem find_got {u : Idn} : ∀ (h : List Rs) (v : Rs × Bool), (v.2 = true ∨ ∃ r ∈ h, idnR r = u ∧ vldRs r = true) → (h.foldl (stepF u) v).2 = true
  | [], v, h => h.elim id fun ⟨r, hr, _⟩ => absurd hr List.not_mem_nil
  | x :: h, v, h1 => by
    refine find_got h (stepF u v x) ?_
    unfold stepF
    by_cases hf : fitF u v x = true
    · rw [if_pos hf]; exact .inl rfl
    · rw [if_neg hf]
      rcases h1 with h1 | ⟨r, hr, h2, h3⟩
      · exact .inl h1
      · rcases List.mem_cons.1 hr with rfl | hr
        · refine .inl (Classical.byContradiction fun h4 => hf ?_)
          unfold fitF
          rw [h2, h3, Bool.eq_false_iff.2 h4]; simp
        · exact .inr ⟨r, hr, h2, h3⟩
theorem findS_idn (hi : ∀ a ∈ l, ∀ b ∈ l, idnR a = idnR b → a = b) (hv : ∀ r ∈ l, vldRs r = true) {r : Rs} (hr : r ∈ l) : findS l (idnR r) = (r, true) := by
  have h1 : (findS l (idnR r)).2 = true := find_got l _ (.inr ⟨r, hr, rfl, hv r hr⟩)
  have h2 := findS_in h1
  exact Prod.ext (hi _ h2.1 r hr h2.2.2) h1
theorem ownS_map (hi : ∀ a ∈ l, ∀ b ∈ l, idnR a = idnR b → a = b) (hv : ∀ r ∈ l, vldRs r = true) (hM : ∀ r ∈ M, r ∈ l) : ownS l (M.map idnR) = M := by
  unfold ownS
  rw [List.map_map]
  conv => rhs; rw [← List.map_id M]
  exact List.map_congr_left fun r hr => by show (findS l (idnR r)).1 = r; rw [findS_idn hi hv (hM r hr)]
end
section
variable {es : List En} {u : Ru} {p : Rp} {l : List Rs}
inductive DjS (es : List En) (u : Ru) (p : Rp) (l : List Rs) : List (List Idn) → List Rs → Prop
  | nil : DjS es u p l [] l
  | snoc {ss : List (List Idn)} {m m' : List Rs} {ids : List Idn} : DjS es u p l ss m → MinOk es m u p ids 0 → WoP m ids m' → DjS es u p l (ss ++ [ids]) m'
def DjP (es : List En) (u : Ru) (p : Rp) (l : List Rs) (ss : List (List Idn)) (z : Int) : Prop :=
  ∃ ss' m ids z', DjS es u p l ss' m ∧ MinOk es m u p ids z' ∧ ((z' = 8 ∧ 0 < ss'.length ∧ z = 0 ∧ ss = ss') ∨ (z' ≠ 0 ∧ (z' ≠ 8 ∨ ss'.length = 0) ∧ z = z' ∧ ss = []))
theorem size_pos (h1 : vldRu u = true) (h2 : vldRp p = true) : 1 ≤ sizeP u p := by
  have hv : 1 ≤ u.prb ∧ 0 ≤ u.los := by unfold vldRu at h1; have := of_decide_eq_true h1; omega
  unfold sizeP
  rw [h1, h2, if_pos (by rfl)]
  split
  · omega
  · split <;> omega
theorem wo_sub {m m' : List Rs} {ids : List Idn} (h : WoP m ids m') : ∀ r ∈ m', r ∈ m := fun r hr => by
  obtain ⟨o, ho, rfl⟩ := h
  exact (onc_mem ho (List.mem_filter.1 hr).1).1
theorem wo_lt {m m' : List Rs} {ids : List Idn} (hok : ∀ r ∈ m, r.Ok) (h : MinOk es m u p ids 0) (hw : WoP m ids m') : m'.length < m.length := by
  obtain ⟨o', ho', rfl⟩ := hw
  rcases h with ⟨h, _⟩ | ⟨_, o, ho, h2⟩
  · omega
  · obtain rfl := ho.eq ho'
    rcases h2 with ⟨h3, _⟩ | ⟨_, ⟨h3, _⟩ | ⟨_, hp, rfl⟩⟩
    · omega
    · omega
    · obtain ⟨k1, k2, _⟩ := minS_ok (fun r hr => hok r (onc_mem ho hr).1) hp
      have h4 := size_le k2
      have h5 := size_pos k2.1 k2.2.1
      obtain ⟨r, hr⟩ : ∃ r, r ∈ minS es u p o := by
        cases h6 : minS es u p o with
        | nil => rw [h6] at h4; simp at h4; omega
        | cons r t => exact ⟨r, List.mem_cons_self⟩
      have := filt_lt (p := fun r => decide (idnR r ∉ (minS es u p o).map idnR)) (k1.subset hr) (decide_eq_false (fun h => h (List.mem_map.2 ⟨r, hr, rfl⟩)))
      have := onc_le ho
      omega
end
theorem Pm.djTuck {α : Type} {e : TypeId} {size : Nat} {enc : List α → List Value} {w0 : Base} {w : World} {R : Pc} {P X : List Pc} {ss : List (Sg α)} {s : Sg α} (h : Pm w0 (R :: .row (.slice s.A s.l.length s.c) e size s.l.length (enc s.l) :: (P ++ (segG e size enc ss ++ X))) w) : Pm w0 (P ++ (segG e size enc (ss ++ [s]) ++ [R])) w := by
  have h1 : Pm w0 (R :: .row (.slice s.A s.l.length s.c) e size s.l.length (enc s.l) :: (P ++ segG e size enc ss)) w := h.sel (.cons_cons _ (.cons_cons _ ((List.Sublist.refl _).append (List.sublist_append_left _ _))))
  refine h1.permute ?_
  have h2 : segG e size enc (ss ++ [s]) = segG e size enc ss ++ [.row (.slice s.A s.l.length s.c) e size s.l.length (enc s.l)] := List.map_append
  rw [h2]
  refine (List.Perm.swap _ _ _).trans ((List.perm_append_comm (l₁ := [.row (.slice s.A s.l.length s.c) e size s.l.length (enc s.l), R]) (l₂ := P ++ segG e size enc ss)).trans (List.Perm.of_eq (by simp)))
section
variable {es : List En} {u : Ru} {p : Rp} {xs : List Rs}
theorem ck_of (hi : ∀ a ∈ xs, ∀ b ∈ xs, idnR a = idnR b → a = b) (hv : ∀ r ∈ xs, vldRs r = true) {M : List Rs} (hM : ∀ r ∈ M, r ∈ xs) (hn : M.Nodup) (k2 : PrP es M u p) (k3 : ∀ q, q < M.length → ¬ PrP es (remI M q) u p) : CkP es xs u p (M.map idnR) ∧ (∀ a ∈ M.map idnR, a.Ok) ∧ (M.map idnR).length ≤ xs.length := by
  have hown := ownS_map hi hv hM
  refine ⟨⟨fun x hx => ?_, ?_, by rw [hown]; exact k2, by rw [hown]; exact k3⟩, fun x hx => ?_, by rw [List.length_map]; exact nodup_le hn hM⟩
  · obtain ⟨r, hr, rfl⟩ := List.mem_map.1 hx
    rw [findS_idn hi hv (hM r hr)]
  · exact List.pairwise_map.2 ((List.Pairwise.and_mem.1 hn).imp fun {x y} h e => h.2.2 (hi x (hM x h.1) y (hM y h.2.1) e))
  · obtain ⟨r, hr, rfl⟩ := List.mem_map.1 hx
    exact idn_ok (hv r (hM r hr))
structure DjJ (es : List En) (u : Ru) (p : Rp) (xs : List Rs) (ss : List (List Idn)) (m : List Rs) : Prop where
  sub : ∀ r ∈ m, r ∈ xs
  out : ∀ r ∈ m, idnR r ∉ ss.flatten
  ins : ∀ r ∈ xs, idnR r ∉ ss.flatten → r ∈ m
  set : ∀ (i : Nat) (s : List Idn), ss[i]? = some s → CkP es xs u p s ∧ (∀ a ∈ s, a.Ok) ∧ s.length ≤ xs.length ∧ ∀ a ∈ s, a ∉ (ss.take i).flatten
  len : m.length + ss.length ≤ xs.length
theorem onc_ord {m o : List Rs} (hi : ∀ a ∈ m, ∀ b ∈ m, idnR a = idnR b → a = b) (h : OncP m o) : IsOrd m o := by
  obtain ⟨o1, h1, rfl⟩ := h
  rw [onF_id _ o1 rfl (asc_nodup h1.1) fun a ha b hb => hi a ((h1.2 a).1 ha).1 b ((h1.2 b).1 hb).1]
  exact h1
theorem dj_all (hi : ∀ a ∈ xs, ∀ b ∈ xs, idnR a = idnR b → a = b) (hv : ∀ r ∈ xs, vldRs r = true) (hok : ∀ r ∈ xs, r.Ok) {ss : List (List Idn)} {m : List Rs} (h : DjS es u p xs ss m) : DjJ es u p xs ss m := by
  induction h with
  | nil => exact ⟨fun r hr => hr, fun r hr h => absurd h (by simp), fun r hr _ => hr, fun i s h => by simp at h, by simp⟩
  | @snoc ss m m' ids h1 h2 h3 ih =>
    have hlt := wo_lt (fun r hr => hok r (ih.sub r hr)) h2 h3
    rcases h2 with ⟨h, _⟩ | ⟨_, o, ho, h4⟩
    · omega
    · rcases h4 with ⟨h, _⟩ | ⟨_, ⟨h, _⟩ | ⟨_, hp, he⟩⟩
      · omega
      · omega
      · have hoi := onc_ord (fun a ha b hb => hi a (ih.sub a ha) b (ih.sub b hb)) ho
        have hom : ∀ r ∈ o, r ∈ m := fun r hr => ((hoi.2 r).1 hr).1
        obtain ⟨k1, k2, k3⟩ := minS_ok (fun r hr => hok r (ih.sub r (hom r hr))) hp
        have hMm : ∀ r ∈ minS es u p o, r ∈ m := fun r hr => hom r (k1.subset hr)
        have hck := ck_of hi hv (fun r hr => ih.sub r (hMm r hr)) ((asc_nodup hoi.1).sublist k1) k2 k3
        rw [← he] at hck
        have hfl : ∀ a, a ∈ (ss ++ [ids]).flatten ↔ a ∈ ss.flatten ∨ a ∈ ids := fun a => by simp
        obtain ⟨o', ho', rfl⟩ := h3
        obtain rfl := ho.eq ho'
        refine ⟨fun r hr => ih.sub r (hom r (List.mem_filter.1 hr).1), fun r hr h => ?_, fun r hr h => ?_, fun i s hs => ?_, by rw [List.length_append]; have := ih.len; show _ + (ss.length + 1) ≤ _; omega⟩
        · rcases (hfl _).1 h with h | h
          · exact ih.out r (hom r (List.mem_filter.1 hr).1) h
          · exact of_decide_eq_true (List.mem_filter.1 hr).2 h
        · exact List.mem_filter.2 ⟨(hoi.2 r).2 ⟨ih.ins r hr fun h5 => h ((hfl _).2 (.inl h5)), hv r hr⟩, decide_eq_true fun h5 => h ((hfl _).2 (.inr h5))⟩
        · rcases Nat.lt_or_ge i ss.length with h5 | h5
          · rw [List.getElem?_append_left h5] at hs
            rw [List.take_append_of_le_length (by omega)]
            exact ih.set i s hs
          · have h6 : i < (ss ++ [ids]).length := (List.getElem?_eq_some_iff.1 hs).1
            rw [List.length_append] at h6
            obtain rfl : i = ss.length := by simp at h6; omega
            rw [List.getElem?_append_right (Nat.le_refl _), Nat.sub_self] at hs
            obtain rfl : ids = s := by simpa using hs
            refine ⟨hck.1, hck.2.1, hck.2.2, fun a ha h7 => ?_⟩
            rw [List.take_left] at h7
            rw [he] at ha
            obtain ⟨r, hr, rfl⟩ := List.mem_map.1 ha
            exact ih.out r (hMm r hr) h7
theorem disjoint_law {n : Nat} {ds : List (List Idn)} {z : Int} (hxs : DrawnOk n xs) (hm : n ≤ 512) (hp : PrP es xs u p) (h : DjP es u p xs ds z) : z = 0 ∧ 0 < ds.length ∧ ds.length ≤ xs.length ∧ (∀ (i : Nat) (s : List Idn), ds[i]? = some s → CkP es xs u p s ∧ (∀ a ∈ s, a.Ok) ∧ s.length ≤ xs.length ∧ ∀ a ∈ s, a ∉ (ds.take i).flatten) ∧ ∀ y, WoP xs ds.flatten y → ¬ PrP es y u p := by
  have hok : ∀ r ∈ xs, r.Ok := fun r hr => (hxs.1 r hr).2.1
  have hv : ∀ r ∈ xs, vldRs r = true := fun r hr => (hxs.1 r hr).1
  have hi := drawn_inj hxs
  obtain ⟨ss, m, ids, z', h1, h2, h3⟩ := h
  have J := dj_all hi hv hok h1
  have hml : m.length ≤ 512 := by have := J.len; have := hxs.2.2; omega
  have h8 : ∃ o, IsOrd m o ∧ (z' = 8 ∧ ¬ PrP es o u p ∨ z' = 0) := by
    rcases h2 with ⟨_, _, h⟩ | ⟨_, o, ho, h4⟩
    · exact absurd ⟨fun r hr => hv r (J.sub r hr), hp.2.2.1, hp.1, hp.2.1⟩ h
    · refine ⟨o, onc_ord (fun a ha b hb => hi a (J.sub a ha) b (J.sub b hb)) ho, ?_⟩
      have := onc_le ho
      rcases h4 with ⟨_, _, h⟩ | ⟨_, ⟨h, _, h5⟩ | ⟨h, _⟩⟩
      · omega
      · exact .inl ⟨h, h5⟩
      · exact .inr h
  obtain ⟨o, ho, h8⟩ := h8
  have hoo : ∀ r ∈ o, r.Ok := fun r hr => hok r (J.sub r ((ho.2 r).1 hr).1)
  rcases h3 with ⟨h4, h5, rfl, rfl⟩ | ⟨h4, h5, rfl, rfl⟩
  · have hnp : ¬ PrP es o u p := h8.elim (·.2) fun h => by omega
    refine ⟨rfl, h5, by have := J.len; omega, J.set, fun y hy hq => hnp (hq.mono (fun r hr => ?_) hoo)⟩
    obtain ⟨q, hq1, rfl⟩ := hy
    have h6 := List.mem_filter.1 hr
    have h7 := (onc_mem hq1 h6.1)
    exact (ho.2 r).2 ⟨J.ins r h7.1 (of_decide_eq_true h6.2), h7.2⟩
  · exfalso
    rcases h8 with ⟨h8, h9⟩ | h8
    · have h10 : ss = [] := List.eq_nil_of_length_eq_zero (h5.resolve_left fun h => h h8)
      subst h10
      exact h9 (hp.mono (fun r hr => (ho.2 r).2 ⟨J.ins r hr (by simp), hv r hr⟩) hoo)
    · exact h4 h8
end
set_option maxRecDepth 20000
theorem Pm.djOut {w0 : Base} {w : World} {R : Pc} {S X : List Pc} (h : Pm w0 ([R] ++ (S ++ X)) w) : Pm w0 (R :: S) w := h.sel (.cons_cons _ (List.sublist_append_left _ _))
theorem mdjbs76_1_58639 (a0_0 : Option Addr) (a0_0n a0_0c : Nat) (w : World) : (Instr.buildSlice 76 1 #[(0, .slice a0_0 a0_0n a0_0c)]).run Tryz.prog w = .ok (.slice (some ⟨w.heap.size, 0, none⟩) 1 1) (w.alloc (.cells [.slice a0_0 a0_0n a0_0c].toArray 67)) := by kernel_rfl
theorem mdjel76 : Elem Tryz.prog 76 67 1 24 := Elem.mk' Tryz.underlying76 (z := .slice none 0 0) (by kernel_rfl) rfl (by omega) (by omega)
theorem disjoint_any (A0 : Option Addr) (c0 : Nat) (l : List Rs) (A1 : Option Addr) (c1 : Nat) (es : List En) (u : Ru) (p : Rp) (w : World) (hr : Reads w w.heap.size 17 A0 l.length (flat Rs.cells l)) (hl1 : l.length ≤ 100000) (hok : ∀ r ∈ l, r.Ok) (hr1 : Reads w w.heap.size 5 A1 es.length (flat En.cells es)) :
  Calls Tryz.prog 50 #[.slice A0 l.length c0, .agg #[.slice A1 es.length c1], .agg u.cells.toArray, .agg p.cells.toArray] w fun e w' => ∃ x : {y : ((Option Addr × Nat) × List (Sg Idn)) × Int // DjP es u p l (y.1.2.map (·.l)) y.2 ∧ y.1.2.length ≤ 100000 ∧ y.1.2.length ≤ y.1.1.2 ∧ y.1.1.2 ≤ maxLen}, e = .returned (.tuple #[.slice x.1.1.1.1 x.1.1.2.length x.1.1.1.2, .int .i64 x.1.2]) ∧ Pm w (.row (.slice x.1.1.1.1 x.1.1.2.length x.1.1.1.2) 67 1 x.1.1.2.length (flat sgc x.1.1.2) :: segG 73 3 (flat Idn.cells) x.1.1.2) w' := by
 refine begin_ (vs := [.slice A0 l.length c0, .agg #[.slice A1 es.length c1], .agg u.cells.toArray, .agg p.cells.toArray]) Tryz.func50 rfl rfl rfl ?_ (Pm.start w)
 refine zSG ?_
 refine TL.pnew rfl rfl rfl (exec_box (cs := [.slice A1 es.length c1]) rfl rfl rfl) (fun g5 => ?_)
 refine TL.pnew rfl rfl rfl (exec_box (cs := u.cells) rfl rfl rfl) (fun g6 => ?_)
 refine TL.pnew rfl rfl rfl (exec_box (cs := p.cells) rfl rfl rfl) (fun g7 => ?_)
 refine TL.rn 2 rfl (zET (zSG (TL.as_ ?_)))
 refine zET (zB (TC.nilrow 67 1 ?_))
 refine TC.loop_ (α := {y : ((Option Addr × Nat) × List Rs) × ((Option Addr × Nat) × List (Sg Idn)) × List Pc // DjS es u p l (y.2.1.2.map (·.l)) y.1.2 ∧ (∀ r ∈ y.1.2, r ∈ l) ∧ (∀ w1, Pm w y.2.2 w1 → Reads w1 w1.heap.size 17 y.1.1.1 y.1.2.length (flat Rs.cells y.1.2)) ∧ y.1.2.length + y.2.1.2.length ≤ l.length ∧ y.2.1.2.length ≤ y.2.1.1.2 ∧ y.2.1.1.2 ≤ maxLen}) (fun y => [(5, .pointer (some ⟨g5, 0, none⟩)), (6, .pointer (some ⟨g6, 0, none⟩)), (7, .pointer (some ⟨g7, 0, none⟩)), (0, .slice y.1.1.1.1 y.1.1.2.length y.1.1.1.2), (10, .slice y.1.2.1.1.1 y.1.2.1.2.length y.1.2.1.1.2)]) (fun y => Pm w ([.row (.slice y.1.2.1.1.1 y.1.2.1.2.length y.1.2.1.1.2) 67 1 y.1.2.1.2.length (flat sgc y.1.2.1.2), .blk g7 34 p.cells, .blk g6 28 u.cells, .blk g5 26 [.slice A1 es.length c1]] ++ (segG 73 3 (flat Idn.cells) y.1.2.1.2 ++ y.1.2.2))) (fun y => y.1.1.2.length) (⟨(((A0, c0), l), ((none, 0), []), []), .nil, fun r hr => hr, fun w1 hw => hr.up hw.bel, Nat.le_refl _, Nat.le_refl _, Nat.zero_le _⟩) ⟨rfl, rfl, rfl, rfl, rfl, trivial⟩ (fun w1 hw => hw) ?_
 rintro ⟨⟨⟨⟨Am, cm⟩, m⟩, ⟨⟨Ao, co⟩, ss⟩, X⟩, hdj, hmem, hX, hml, hsc, hsm⟩
 dsimp only at hdj hmem hX hml hsc hsm ⊢
 refine zB (zSG (TL.mv ?_))
 refine TL.v (gV 3 (.agg #[.slice A1 es.length c1]) breag26 bresz26) ?_
 refine TL.v (gV 2 (.agg (u.cells).toArray) aprag28 aprsz28) ?_
 refine TL.v (gV 1 (.agg (p.cells).toArray) aprag34 aprsz34) ?_
 refine TL.pcallPm (α := {y : ((Option Addr × Nat) × List Idn) × Int // MinOk es m u p y.1.2 y.2 ∧ y.1.2.length ≤ 512 ∧ y.1.2.length ≤ y.1.1.2 ∧ y.1.1.2 ≤ maxLen}) (fun x => .tuple #[.slice x.1.1.1.1 x.1.1.2.length x.1.1.1.2, .int .i64 x.1.2]) (fun x => [.row (.slice x.1.1.1.1 x.1.1.2.length x.1.1.1.2) 73 3 x.1.1.2.length (flat Idn.cells x.1.1.2)]) rfl rfl rfl rfl rfl Tryz.func44 (by decide) rfl (fun w1 hw => min_any Am cm m A1 c1 es u p w1 (hX w1 (Pm.sel (show Pm w ([.row (.slice Ao ss.length co) 67 1 ss.length (flat sgc ss), .blk g7 34 p.cells, .blk g6 28 u.cells, .blk g5 26 [.slice A1 es.length c1]] ++ (segG 73 3 (flat Idn.cells) ss ++ X)) w1 from hw) ((List.sublist_append_right _ _).trans (List.sublist_append_right _ _)))) (by omega) (fun r hr => hok r (hmem r hr)) (hr1.up hw.bel)) ?_
 rintro ⟨⟨⟨⟨Ams, cms⟩, ms⟩, ems⟩, hms, hmsl, hmsc, hmsm⟩
 dsimp only [List.cons_append, List.nil_append]
 dsimp only at hms hmsl hmsc hmsm ⊢
 have hms8 := id hms
 refine TL.rn 5 rfl (zET (zS (zSG (TL.mv ?_))))
 refine TL.sp bin_eql (fun q22 => ?_) (fun q22 => ?_)
 ·refine TL.rn 2 rfl (TL.ov (gN Tryz.underlying76) ?_)
  refine TL.gu ?_
  refine TL.sp bin_gtr (fun q26 => ?_) (fun q26 => ?_)
  ·refine TL.pk ?_
   refine zET (zc (zSG (TL.rn 3 rfl (zET (zr (zR (zRR (TX.in_ret ?_))))))))
   exact ret_pair (v1 := .slice Ao ss.length co) (v2 := .int .i64 0) Tryz.results50 rfl rfl (fun w1 hw => ⟨⟨(((Ao, co), ss), 0), ⟨_, _, _, _, hdj, hms8, .inl ⟨q22, by rw [List.length_map]; omega, rfl, rfl⟩⟩, by dsimp only; omega, hsc, hsm⟩, rfl, Pm.djOut (hw.sel (.cons _ (.cons_cons _ (.cons _ (.cons _ (.cons _ (List.Sublist.refl _)))))))⟩)
  refine TL.pk ?_
  refine zET (zd (zk (zT (zS (zSG (TL.mv ?_))))))
  refine TL.sp bin_neq (fun q30 => ?_) (fun q30 => ?_)
  ·refine zET (zc (zSG (TL.rn 3 rfl (zET (zr (zR (zRR (TX.in_ret ?_))))))))
   exact ret_pair (v1 := .slice none 0 0) (v2 := .int .i64 ems) Tryz.results50 rfl rfl (fun w1 hw => ⟨⟨(((none, 0), []), ems), ⟨_, _, _, _, hdj, hms8, .inr ⟨q30, .inr (by rw [List.length_map]; omega), rfl, rfl⟩⟩, Nat.zero_le _, Nat.le_refl _, Nat.zero_le _⟩, rfl, (hw.sel (List.nil_sublist _)).nilrow _ _⟩)
  refine zET (zd (zk (zT (zS ?_))))
  obtain rfl : ems = 0 := by omega
  refine zG (TL.rn 2 rfl ?_)
  refine TL.prowS (e := 67) (size := 1) (cs := flat sgc [(⟨Ams, cms, ms⟩ : Sg Idn)]) rfl rfl rfl rfl rfl (fun w => mdjbs76_1_58639 _ _ _ w) (by decide) rfl (fun g34 => ?_)
  refine TL.appendT (k := 2) rfl rfl rfl rfl Tryz.underlying76 mdjel76 rfl rfl rfl (fun w1 hw => pm_reads hw (k := 0) rfl) (flat_one sgc_cel _) (by show _ * 24 ≤ _; omega) ((ss ++ [(⟨Ams, cms, ms⟩ : Sg Idn)]).length) (by rw [List.length_append]; rfl) (flat sgc (ss ++ [(⟨Ams, cms, ms⟩ : Sg Idn)])) ((flat_app _ _).symm) (fun A35 c35 hA351 hA352 => ?_)
  refine TL.as_ ?_
  refine zET (zG (TL.rn 2 rfl ?_))
  refine TL.pcallPm (α := {y : (Option Addr × Nat) × List Rs // WoP m ms y.2 ∧ y.2.length ≤ y.1.2 ∧ y.1.2 ≤ maxLen}) (fun x => .slice x.1.1.1 x.1.2.length x.1.1.2) (fun x => [.row (.slice x.1.1.1 x.1.2.length x.1.1.2) 65 17 x.1.2.length (flat Rs.cells x.1.2)]) rfl rfl rfl rfl rfl Tryz.func56 (by decide) rfl (fun w1 hw => without_any Am cm m Ams cms ms w1 (hX w1 (Pm.sel (show Pm w ([.row (.slice (some ⟨g34, 0, none⟩) 1 1) 67 1 1 (flat sgc [(⟨Ams, cms, ms⟩ : Sg Idn)]), .row (.slice Ams ms.length cms) 73 3 ms.length (flat Idn.cells ms), .row (.slice A35 ((ss ++ [(⟨Ams, cms, ms⟩ : Sg Idn)]).length) c35) 67 1 ((ss ++ [(⟨Ams, cms, ms⟩ : Sg Idn)]).length) (flat sgc (ss ++ [(⟨Ams, cms, ms⟩ : Sg Idn)])), .blk g7 34 p.cells, .blk g6 28 u.cells, .blk g5 26 [.slice A1 es.length c1]] ++ (segG 73 3 (flat Idn.cells) ss ++ X)) w1 from hw) ((List.sublist_append_right _ _).trans (List.sublist_append_right _ _)))) (by omega) (fun r hr => hok r (hmem r hr)) (pm_rd hw (k := 1) rfl) (by omega)) ?_
  rintro ⟨⟨⟨R38, rc38⟩, wo38⟩, hP38, hR381, hR382⟩
  dsimp only [List.cons_append, List.nil_append]
  dsimp only at hP38 hR381 hR382 ⊢
  refine TL.as_ ?_
  refine zE (zN ?_)
  exact TX.round (⟨(((R38, rc38), wo38), ((A35, c35), ss ++ [(⟨Ams, cms, ms⟩ : Sg Idn)]), [.row (.slice R38 wo38.length rc38) 65 17 wo38.length (flat Rs.cells wo38)]), by dsimp only; rw [List.map_append]; exact .snoc hdj hms8 hP38, fun r hr => hmem r (wo_sub hP38 r hr), fun w1 hw => pm_rd hw (k := 0) rfl, by have h9 := wo_lt (fun r hr => hok r (hmem r hr)) hms8 hP38; dsimp only; rw [List.length_append]; show _ + (ss.length + 1) ≤ _; omega, hA351, hA352⟩) (wo_lt (fun r hr => hok r (hmem r hr)) hms8 hP38) ⟨rfl, rfl, rfl, rfl, rfl, trivial⟩ (fun w1 hw => Pm.djTuck (s := (⟨Ams, cms, ms⟩ : Sg Idn)) (P := [.row (.slice A35 ((ss ++ [(⟨Ams, cms, ms⟩ : Sg Idn)]).length) c35) 67 1 ((ss ++ [(⟨Ams, cms, ms⟩ : Sg Idn)]).length) (flat sgc (ss ++ [(⟨Ams, cms, ms⟩ : Sg Idn)])), .blk g7 34 p.cells, .blk g6 28 u.cells, .blk g5 26 [.slice A1 es.length c1]]) (hw.sel (.cons_cons _ (.cons _ (.cons_cons _ (.cons_cons _ (.cons_cons _ (.cons_cons _ (.cons_cons _ (List.Sublist.refl _))))))))))
 refine TL.rn 5 rfl (zET (zd (zk (zT (zS (zSG (TL.mv ?_)))))))
 refine TL.sp bin_neq (fun q30 => ?_) (fun q30 => ?_)
 ·refine zET (zc (zSG (TL.rn 3 rfl (zET (zr (zR (zRR (TX.in_ret ?_))))))))
  exact ret_pair (v1 := .slice none 0 0) (v2 := .int .i64 ems) Tryz.results50 rfl rfl (fun w1 hw => ⟨⟨(((none, 0), []), ems), ⟨_, _, _, _, hdj, hms8, .inr ⟨q30, .inl q22, rfl, rfl⟩⟩, Nat.zero_le _, Nat.le_refl _, Nat.zero_le _⟩, rfl, (hw.sel (List.nil_sublist _)).nilrow _ _⟩)
 refine zET (zd (zk (zT (zS ?_))))
 obtain rfl : ems = 0 := by omega
 refine zG (TL.rn 2 rfl ?_)
 refine TL.prowS (e := 67) (size := 1) (cs := flat sgc [(⟨Ams, cms, ms⟩ : Sg Idn)]) rfl rfl rfl rfl rfl (fun w => mdjbs76_1_58639 _ _ _ w) (by decide) rfl (fun g34 => ?_)
 refine TL.appendT (k := 2) rfl rfl rfl rfl Tryz.underlying76 mdjel76 rfl rfl rfl (fun w1 hw => pm_reads hw (k := 0) rfl) (flat_one sgc_cel _) (by show _ * 24 ≤ _; omega) ((ss ++ [(⟨Ams, cms, ms⟩ : Sg Idn)]).length) (by rw [List.length_append]; rfl) (flat sgc (ss ++ [(⟨Ams, cms, ms⟩ : Sg Idn)])) ((flat_app _ _).symm) (fun A35 c35 hA351 hA352 => ?_)
 refine TL.as_ ?_
 refine zET (zG (TL.rn 2 rfl ?_))
 refine TL.pcallPm (α := {y : (Option Addr × Nat) × List Rs // WoP m ms y.2 ∧ y.2.length ≤ y.1.2 ∧ y.1.2 ≤ maxLen}) (fun x => .slice x.1.1.1 x.1.2.length x.1.1.2) (fun x => [.row (.slice x.1.1.1 x.1.2.length x.1.1.2) 65 17 x.1.2.length (flat Rs.cells x.1.2)]) rfl rfl rfl rfl rfl Tryz.func56 (by decide) rfl (fun w1 hw => without_any Am cm m Ams cms ms w1 (hX w1 (Pm.sel (show Pm w ([.row (.slice (some ⟨g34, 0, none⟩) 1 1) 67 1 1 (flat sgc [(⟨Ams, cms, ms⟩ : Sg Idn)]), .row (.slice Ams ms.length cms) 73 3 ms.length (flat Idn.cells ms), .row (.slice A35 ((ss ++ [(⟨Ams, cms, ms⟩ : Sg Idn)]).length) c35) 67 1 ((ss ++ [(⟨Ams, cms, ms⟩ : Sg Idn)]).length) (flat sgc (ss ++ [(⟨Ams, cms, ms⟩ : Sg Idn)])), .blk g7 34 p.cells, .blk g6 28 u.cells, .blk g5 26 [.slice A1 es.length c1]] ++ (segG 73 3 (flat Idn.cells) ss ++ X)) w1 from hw) ((List.sublist_append_right _ _).trans (List.sublist_append_right _ _)))) (by omega) (fun r hr => hok r (hmem r hr)) (pm_rd hw (k := 1) rfl) (by omega)) ?_
 rintro ⟨⟨⟨R38, rc38⟩, wo38⟩, hP38, hR381, hR382⟩
 dsimp only [List.cons_append, List.nil_append]
 dsimp only at hP38 hR381 hR382 ⊢
 refine TL.as_ ?_
 refine zE (zN ?_)
 exact TX.round (⟨(((R38, rc38), wo38), ((A35, c35), ss ++ [(⟨Ams, cms, ms⟩ : Sg Idn)]), [.row (.slice R38 wo38.length rc38) 65 17 wo38.length (flat Rs.cells wo38)]), by dsimp only; rw [List.map_append]; exact .snoc hdj hms8 hP38, fun r hr => hmem r (wo_sub hP38 r hr), fun w1 hw => pm_rd hw (k := 0) rfl, by have h9 := wo_lt (fun r hr => hok r (hmem r hr)) hms8 hP38; dsimp only; rw [List.length_append]; show _ + (ss.length + 1) ≤ _; omega, hA351, hA352⟩) (wo_lt (fun r hr => hok r (hmem r hr)) hms8 hP38) ⟨rfl, rfl, rfl, rfl, rfl, trivial⟩ (fun w1 hw => Pm.djTuck (s := (⟨Ams, cms, ms⟩ : Sg Idn)) (P := [.row (.slice A35 ((ss ++ [(⟨Ams, cms, ms⟩ : Sg Idn)]).length) c35) 67 1 ((ss ++ [(⟨Ams, cms, ms⟩ : Sg Idn)]).length) (flat sgc (ss ++ [(⟨Ams, cms, ms⟩ : Sg Idn)])), .blk g7 34 p.cells, .blk g6 28 u.cells, .blk g5 26 [.slice A1 es.length c1]]) (hw.sel (.cons_cons _ (.cons _ (.cons_cons _ (.cons_cons _ (.cons_cons _ (.cons_cons _ (.cons_cons _ (List.Sublist.refl _))))))))))
set_option maxRecDepth 20000
theorem mem_ins {es : List En} {k : Nat} {x z : En} (h : z ∈ es.take k ++ [x] ++ es.drop k) : z ∈ es ∨ z = x := by
 rcases List.mem_append.1 h with h | h
 ·rcases List.mem_append.1 h with h | h
  ·exact .inl (List.mem_of_mem_take h)
  exact .inr (List.mem_singleton.1 h)
 exact .inl (List.mem_of_mem_drop h)
def shlF (a n : Int) : Int := IntKind.u32.wrap (a / 2 ^ (32 - n).toNat * 2 ^ (32 - n).toNat)
def lens : List Int := [8, 24, 28, 29, 30, 30, 31, 32]
def EnG (e : En) : Prop := (167772160 ≤ e.addr ∧ e.addr < 184549376) ∧ e.len ∈ lens ∧ 1 ≤ e.prov ∧ e.prov ≤ 4
theorem EnG.ok {e : En} (h : EnG e) : e.Ok := ⟨by have := h.1.1; omega, by have := h.1.2; omega⟩
theorem shl_rng {a n : Int} (ha : 167772161 ≤ a ∧ a ≤ 167772173) (hn : n ∈ lens) : 167772160 ≤ shlF a n ∧ shlF a n < 184549376 := by
 have key : ∀ k : Int, 0 < k → k ≤ 16777216 → 167772160 % k = 0 → 167772160 ≤ IntKind.u32.wrap (a / k * k) ∧ IntKind.u32.wrap (a / k * k) < 184549376 := fun k h0 h1 h2 => by
  have e1 : a / k * k ≤ a := Int.ediv_mul_le a (by omega)
  have e2 : 167772160 ≤ a / k * k := by
   have h3 : 167772160 / k * k = 167772160 := Int.ediv_mul_cancel (Int.dvd_of_emod_eq_zero h2)
   have h4 : 167772160 / k ≤ a / k := Int.ediv_le_ediv h0 (by omega)
   have h5 := Int.mul_le_mul_of_nonneg_right h4 (Int.le_of_lt h0)
   omega
  rw [IntKind.wrap_u32]
  omega
 simp only [lens, List.mem_cons, List.not_mem_nil, or_false] at hn
 unfold shlF
 rcases hn with rfl | rfl | rfl | rfl | rfl | rfl | rfl | rfl
 ·exact key 16777216 (by decide) (by decide) (by decide)
 ·exact key 256 (by decide) (by decide) (by decide)
 ·exact key 16 (by decide) (by decide) (by decide)
 ·exact key 8 (by decide) (by decide) (by decide)
 ·exact key 4 (by decide) (by decide) (by decide)
 ·exact key 4 (by decide) (by decide) (by decide)
 ·exact key 2 (by decide) (by decide) (by decide)
 exact key 1 (by decide) (by decide) (by decide)
theorem EnG.mk_ {a n f t : Int} {p : Nat} (ha : 167772161 ≤ a ∧ a ≤ 167772173) (hn : n ∈ lens) (hp : p < 4) : EnG ⟨shlF a n, n, 1 + ((p : Nat) : Int), f, t⟩ :=
 ⟨shl_rng ha hn, hn, by show 1 ≤ 1 + (p : Int); omega, by show 1 + (p : Int) ≤ 4; omega⟩
theorem brabld100_29152 (a0_0 : Int) (a1_0 : Int) (w : World) : (Instr.build 100 #[(0, .int .u32 a0_0), (1, .int .i64 a1_0)]).run Tryz.prog w = .ok (.agg #[.int .u32 a0_0, .int .i64 a1_0]) w := by kernel_rfl
theorem brabs106_5_22075 (a0_0 : Int) (a1_0 : Int) (a2_0 : Int) (a3_0 : Int) (a4_0 : Int) (w : World) : (Instr.buildSlice 106 5 #[(0, .int .i64 a0_0), (1, .int .i64 a1_0), (2, .int .i64 a2_0), (3, .int .i64 a3_0), (4, .int .i64 a4_0)]).run Tryz.prog w = .ok (.slice (some ⟨w.heap.size, 0, none⟩) 5 5) (w.alloc (.cells [.int .i64 a0_0, .int .i64 a1_0, .int .i64 a2_0, .int .i64 a3_0, .int .i64 a4_0].toArray 3)) := by kernel_rfl
theorem brabld102_2016 (a0_0 : Int) (a0_1 : Int) (a1_0 : Int) (a2_0 : Int) (w : World) : (Instr.build 102 #[(0, .agg #[.int .u32 a0_0, .int .i64 a0_1]), (1, .int .i64 a1_0), (2, .int .i64 a2_0)]).run Tryz.prog w = .ok (.agg #[.int .u32 a0_0, .int .i64 a0_1, .int .i64 a1_0, .int .i64 a2_0, .int .i64 0]) w := by kernel_rfl
theorem brabs106_4_78574 (a0_0 : Int) (a1_0 : Int) (a2_0 : Int) (a3_0 : Int) (w : World) : (Instr.buildSlice 106 4 #[(0, .int .i64 a0_0), (1, .int .i64 a1_0), (2, .int .i64 a2_0), (3, .int .i64 a3_0)]).run Tryz.prog w = .ok (.slice (some ⟨w.heap.size, 0, none⟩) 4 4) (w.alloc (.cells [.int .i64 a0_0, .int .i64 a1_0, .int .i64 a2_0, .int .i64 a3_0].toArray 3)) := by kernel_rfl
theorem entry_cod (cb : Nat) (w : World) (hC : Cod w cb) :
  Calls Tryz.prog 65 #[.pointer (some ⟨cb, 0, none⟩)] w fun e w' => ∃ x : {y : En // EnG y}, e = .returned (.agg x.1.cells.toArray) ∧ Codr (fun w => Cod w cb) cb w ([]) w' := by
 refine begin_ (vs := [.pointer (some ⟨cb, 0, none⟩)]) (I := Pm ⟨w, cb⟩ (.abs cb (fun w => Cod w cb) :: oths cb w)) Tryz.func65 rfl rfl rfl ?_ (Pm.codes hC (cod_cells hC) (cod_stab cb))
 refine zSG ?_
 refine TL.pnew rfl rfl rfl (exec_alloc (cs := [.int .u32 0, .int .i64 0, .int .i64 0, .int .i64 0, .int .i64 0]) rfl brezv102 rfl) (fun g2 => ?_)
 refine zET (zSG (TL.mv ?_))
 refine TL.prowS (e := 3) (size := 1) (cs := flat (ic .i64) [8, 24, 28, 29, 30, 30, 31, 32]) rfl rfl rfl rfl rfl (fun w => arpbs106_8_10220 _ _ _ _ _ _ _ _ w) (by decide) rfl (fun g7 => ?_)
 refine TL.pcallCod (k := 2) (α := {v : Int // v ∈ ([8, 24, 28, 29, 30, 30, 31, 32] : List Int)}) (fun x => .int .i64 x.1) (fun x => []) rfl rfl rfl rfl rfl Tryz.func22 (by decide) rfl rfl (fun w1 hw hC1 => pick_cod cb w1 hC1 g7 8 ([8, 24, 28, 29, 30, 30, 31, 32]) (hw.neq (i := 0) (j := 2) rfl rfl (by decide) g7 rfl <| congrArg some ·.symm) (Pc.lt (hw.at_ (k := 0) rfl) g7 rfl).2 (by show 0 < ([8, 24, 28, 29, 30, 30, 31, 32] : List Int).length; simp) (fun i v hi => flat_row1 hw (q := 0) rfl hi)) ?_
 rintro ⟨n, hn⟩
 dsimp only [List.cons_append, List.nil_append]
 have hn8 : 8 ≤ n ∧ n ≤ 32 := by simp only [List.mem_cons, List.not_mem_nil, or_false] at hn; omega
 refine TL.as_ ?_
 refine zET (zSG (TL.mv ?_))
 refine TL.pcallCod (k := 2) (α := {a : Int // 167772161 ≤ a ∧ a ≤ 167772173}) (fun x => .int .u32 x.1) (fun x => []) rfl rfl rfl rfl rfl Tryz.func67 (by decide) rfl rfl (fun w1 hw hC1 => daddr_cod cb w1 hC1) ?_
 rintro ⟨a, ha1, ha2⟩
 dsimp only [List.cons_append, List.nil_append]
 refine TL.as_ ?_
 refine zET ?_
 refine TC.join (α := {y : Nat × Nat × Int // y.2.1 < 4}) (fun y => [(0, .pointer (some ⟨cb, 0, none⟩)), (2, .pointer (some ⟨g2, 0, none⟩)), (5, .pointer (some ⟨y.1.1, 0, none⟩))]) (fun y => Pm ⟨w, cb⟩ ([.blk y.1.1 102 [.int .u32 (shlF a n), .int .i64 n, .int .i64 (1 + ((y.1.2.1 : Nat) : Int)), .int .i64 y.1.2.2, .int .i64 0], .blk g2 102 [.int .u32 0, .int .i64 0, .int .i64 0, .int .i64 0, .int .i64 0], .abs cb (fun w => Cod w cb)] ++ oths cb w)) ?_ ?_
 ·refine TC.held (ls := #[Ff,Ff,Ff,Ff,Ff,Ff,Ff,Ff,Ff,Ff,Ff,Ff,Ff,Ff,Ff,Ff,Ff,Ff]) (Pm ⟨w, cb⟩ []) (by kernel_rfl) rfl rfl (fun w hw => hw.drawn _) ?_
  refine TH.tk 0 rfl rfl rfl (gives_move rfl rfl) (fun w1 hw => hw.pick [] (by decide) rfl) ?_
  refine TH.tk 1 rfl rfl rfl (gives_move rfl rfl) (fun w1 hw => hw.pick [] (by decide) rfl) ?_
  refine TH.tk 2 rfl rfl rfl (gives_bin rfl rfl rfl (fun w => bin_sub_ (r := 32 - n) (by simp only [IntKind.wrap_i64]; omega) w)) (fun w1 hw => hw.pick [] (by decide) rfl) ?_
  refine TH.tk 3 rfl rfl rfl (gives_bin (v := .int .u32 (a / 2 ^ (32 - n).toNat)) rfl rfl rfl (fun w => bin_shr (2 ^ (32 - n).toNat) (by omega) (by simp only [IntKind.bits]; omega) rfl w)) (fun w1 hw => hw.pick [] (by decide) rfl) ?_
  refine TH.tk 4 rfl rfl rfl (gives_move rfl rfl) (fun w1 hw => hw.pick [] (by decide) rfl) ?_
  refine TH.tk 5 rfl rfl rfl (gives_bin rfl rfl rfl (fun w => bin_sub_ (r := 32 - n) (by simp only [IntKind.wrap_i64]; omega) w)) (fun w1 hw => hw.pick [] (by decide) rfl) ?_
  refine TH.tk 6 rfl rfl rfl (gives_bin (v := .int .u32 (shlF a n)) rfl rfl rfl (fun w => bin_shl (2 ^ (32 - n).toNat) (by omega) (by simp only [IntKind.bits]; omega) rfl w)) (fun w1 hw => hw.pick [] (by decide) rfl) ?_
  refine TH.tk 7 rfl rfl rfl (gives_move rfl rfl) (fun w1 hw => hw.pick [] (by decide) rfl) ?_
  refine TH.tk 8 rfl rfl rfl (gives_build (v := .agg #[.int .u32 (shlF a n), .int .i64 n]) rfl rfl (fun w => brabld100_29152 _ _ w)) (fun w1 hw => hw.pick [] (by decide) rfl) ?_
  refine TH.tk 9 rfl rfl rfl (gives_move rfl rfl) (fun w1 hw => hw.pick [] (by decide) rfl) ?_
  refine TH.tk 12 rfl rfl rfl (gives_move rfl rfl) (fun w1 hw => hw.pick [] (by decide) rfl) ?_
  refine TH.three (l1 := #[Tt,Tt,Tt,Tt,Tt,Tt,Tt,Tt,Tt,Tt,Tt,Ff,Tt,Ff,Ff,Ff,Ff,Ff]) (l2 := #[Tt,Tt,Tt,Tt,Tt,Tt,Tt,Tt,Tt,Tt,Ff,Ff,Tt,Tt,Ff,Ff,Ff,Ff]) (l3 := #[Tt,Tt,Tt,Tt,Tt,Tt,Tt,Tt,Tt,Tt,Ff,Ff,Tt,Ff,Ff,Ff,Tt,Ff]) 10 13 16 rfl rfl rfl (by kernel_rfl) rfl rfl rfl rfl rfl rfl ?_ ?_ ?_
  ·refine TL.pcallCod (k := 2) (α := {q9 : Nat // q9 ≤ 65535 ∧ (1 ≤ (4 : Int) → (q9 : Int) < 4)}) (fun q9 => .int .i64 ((q9.1 : Nat) : Int)) (fun q9 => []) rfl rfl rfl rfl rfl Tryz.func21 (by decide) rfl rfl (fun w1 hw hC1 => next_cod cb w1 4 hC1) ?_
   rintro ⟨k21, hk211, hk212⟩
   dsimp only [List.cons_append, List.nil_append]
   refine zE ?_
   refine TX.he (fun w1 hw => hw.pick [] (by decide) rfl) fun hS => ?_
   refine TH.t 11 rfl (gD (1 + ((k21 : Nat) : Int))) hS ?_
   refine TH.two' (listed1 := #[Tt,Tt,Tt,Tt,Tt,Tt,Tt,Tt,Tt,Tt,Tt,Tt,Tt,Tt,Ff,Ff,Ff,Ff]) (listed2 := #[Tt,Tt,Tt,Tt,Tt,Tt,Tt,Tt,Tt,Tt,Tt,Tt,Tt,Ff,Ff,Ff,Tt,Ff]) 13 16 rfl rfl (by kernel_rfl) rfl rfl ?_ ?_
   ·refine TL.prowS (e := 3) (size := 1) (cs := flat (ic .i64) [0, 0, 0, 50, 300]) rfl rfl rfl rfl rfl (fun w => brabs106_5_22075 _ _ _ _ _ w) (by decide) rfl (fun g24 => ?_)
    refine zE ?_
    refine TX.held (fun w1 hw => hw.pick [] (by decide) rfl) ?_
    refine TH.two' (listed1 := #[Tt,Tt,Tt,Tt,Tt,Tt,Tt,Tt,Tt,Tt,Tt,Tt,Tt,Tt,Tt,Ff,Ff,Ff]) (listed2 := #[Tt,Tt,Tt,Tt,Tt,Tt,Tt,Tt,Tt,Tt,Tt,Tt,Tt,Tt,Ff,Ff,Tt,Ff]) 14 16 rfl rfl (by kernel_rfl) rfl rfl ?_ ?_
    ·refine TL.pcallCod (k := 3) (α := {v : Int // v ∈ ([0, 0, 0, 50, 300] : List Int)}) (fun x => .int .i64 x.1) (fun x => []) rfl rfl rfl rfl rfl Tryz.func22 (by decide) rfl rfl (fun w1 hw hC1 => pick_cod cb w1 hC1 g24 5 ([0, 0, 0, 50, 300]) (hw.neq (i := 0) (j := 3) rfl rfl (by decide) g24 rfl <| congrArg some ·.symm) (Pc.lt (hw.at_ (k := 0) rfl) g24 rfl).2 (by show 0 < ([0, 0, 0, 50, 300] : List Int).length; simp) (fun i v hi => flat_row1 hw (q := 0) rfl hi)) ?_
     rintro ⟨v25, hv25⟩
     dsimp only [List.cons_append, List.nil_append]
     refine zE ?_
     refine TX.he (fun w1 hw => hw.pick [] (by decide) rfl) fun hS => ?_
     refine TH.t 15 rfl (gives_build (v := .agg #[.int .u32 (shlF a n), .int .i64 n, .int .i64 (1 + ((k21 : Nat) : Int)), .int .i64 v25, .int .i64 0]) rfl rfl (fun w => brabld102_2016 _ _ _ _ w)) hS ?_
     refine TH.only' 16 rfl (by kernel_rfl) rfl ?_
     refine TL.pnew rfl rfl rfl (exec_alloc (cs := [.int .u32 0, .int .i64 0, .int .i64 0, .int .i64 0, .int .i64 0]) rfl brezv102 rfl) (fun g5 => ?_)
     refine zE ?_
     refine TX.held (fun w1 hw => hw.pick [] (by decide) rfl) ?_
     refine TH.only' 17 rfl (by kernel_rfl) rfl ?_
     refine TL.pstore (k := 0) (vs := [.int .u32 (shlF a n), .int .i64 n, .int .i64 (1 + ((k21 : Nat) : Int)), .int .i64 v25, .int .i64 0]) rfl rfl rfl rfl rfl rfl rfl bresz102 breone_u32i64i64i64i64 (by show 5 ≤ 5; decide) rfl ?_
     refine zE ?_
     refine TX.held (fun w1 hw => hw.pick [] (by decide) rfl) ?_
     refine TH.done (by kernel_rfl) ?_
     exact TX.joined (⟨(g5, k21, v25), by dsimp only; omega⟩) (⟨rfl, rfl, rfl, trivial⟩) (fun w1 hw => hw.sel (.cons_cons _ (.cons _ (.cons _ (.cons_cons _ (.cons_cons _ (List.Sublist.refl _)))))))
    refine TL.pnew rfl rfl rfl (exec_alloc (cs := [.int .u32 0, .int .i64 0, .int .i64 0, .int .i64 0, .int .i64 0]) rfl brezv102 rfl) (fun g5 => ?_)
    refine zE ?_
    refine TX.held (fun w1 hw => hw.pick [] (by decide) rfl) ?_
    refine TH.only' 14 rfl (by kernel_rfl) rfl ?_
    refine TL.pcallCod (k := 4) (α := {v : Int // v ∈ ([0, 0, 0, 50, 300] : List Int)}) (fun x => .int .i64 x.1) (fun x => []) rfl rfl rfl rfl rfl Tryz.func22 (by decide) rfl rfl (fun w1 hw hC1 => pick_cod cb w1 hC1 g24 5 ([0, 0, 0, 50, 300]) (hw.neq (i := 1) (j := 4) rfl rfl (by decide) g24 rfl <| congrArg some ·.symm) (Pc.lt (hw.at_ (k := 1) rfl) g24 rfl).2 (by show 0 < ([0, 0, 0, 50, 300] : List Int).length; simp) (fun i v hi => flat_row1 hw (q := 1) rfl hi)) ?_
    rintro ⟨v25, hv25⟩
    dsimp only [List.cons_append, List.nil_append]
    refine zE ?_
    refine TX.he (fun w1 hw => hw.pick [] (by decide) rfl) fun hS => ?_
    refine TH.t 15 rfl (gives_build (v := .agg #[.int .u32 (shlF a n), .int .i64 n, .int .i64 (1 + ((k21 : Nat) : Int)), .int .i64 v25, .int .i64 0]) rfl rfl (fun w => brabld102_2016 _ _ _ _ w)) hS ?_
    refine TH.only' 17 rfl (by kernel_rfl) rfl ?_
    refine TL.pstore (k := 0) (vs := [.int .u32 (shlF a n), .int .i64 n, .int .i64 (1 + ((k21 : Nat) : Int)), .int .i64 v25, .int .i64 0]) rfl rfl rfl rfl rfl rfl rfl bresz102 breone_u32i64i64i64i64 (by show 5 ≤ 5; decide) rfl ?_
    refine zE ?_
    refine TX.held (fun w1 hw => hw.pick [] (by decide) rfl) ?_
    refine TH.done (by kernel_rfl) ?_
    exact TX.joined (⟨(g5, k21, v25), by dsimp only; omega⟩) (⟨rfl, rfl, rfl, trivial⟩) (fun w1 hw => hw.sel (.cons_cons _ (.cons _ (.cons _ (.cons_cons _ (.cons_cons _ (List.Sublist.refl _)))))))
   refine TL.pnew rfl rfl rfl (exec_alloc (cs := [.int .u32 0, .int .i64 0, .int .i64 0, .int .i64 0, .int .i64 0]) rfl brezv102 rfl) (fun g5 => ?_)
   refine zE ?_
   refine TX.held (fun w1 hw => hw.pick [] (by decide) rfl) ?_
   refine TH.only' 13 rfl (by kernel_rfl) rfl ?_
   refine TL.prowS (e := 3) (size := 1) (cs := flat (ic .i64) [0, 0, 0, 50, 300]) rfl rfl rfl rfl rfl (fun w => brabs106_5_22075 _ _ _ _ _ w) (by decide) rfl (fun g24 => ?_)
   refine zE ?_
   refine TX.held (fun w1 hw => hw.pick [] (by decide) rfl) ?_
   refine TH.only' 14 rfl (by kernel_rfl) rfl ?_
   refine TL.pcallCod (k := 4) (α := {v : Int // v ∈ ([0, 0, 0, 50, 300] : List Int)}) (fun x => .int .i64 x.1) (fun x => []) rfl rfl rfl rfl rfl Tryz.func22 (by decide) rfl rfl (fun w1 hw hC1 => pick_cod cb w1 hC1 g24 5 ([0, 0, 0, 50, 300]) (hw.neq (i := 0) (j := 4) rfl rfl (by decide) g24 rfl <| congrArg some ·.symm) (Pc.lt (hw.at_ (k := 0) rfl) g24 rfl).2 (by show 0 < ([0, 0, 0, 50, 300] : List Int).length; simp) (fun i v hi => flat_row1 hw (q := 0) rfl hi)) ?_
   rintro ⟨v25, hv25⟩
   dsimp only [List.cons_append, List.nil_append]
   refine zE ?_
   refine TX.he (fun w1 hw => hw.pick [] (by decide) rfl) fun hS => ?_
   refine TH.t 15 rfl (gives_build (v := .agg #[.int .u32 (shlF a n), .int .i64 n, .int .i64 (1 + ((k21 : Nat) : Int)), .int .i64 v25, .int .i64 0]) rfl rfl (fun w => brabld102_2016 _ _ _ _ w)) hS ?_
   refine TH.only' 17 rfl (by kernel_rfl) rfl ?_
   refine TL.pstore (k := 1) (vs := [.int .u32 (shlF a n), .int .i64 n, .int .i64 (1 + ((k21 : Nat) : Int)), .int .i64 v25, .int .i64 0]) rfl rfl rfl rfl rfl rfl rfl bresz102 breone_u32i64i64i64i64 (by show 5 ≤ 5; decide) rfl ?_
   refine zE ?_
   refine TX.held (fun w1 hw => hw.pick [] (by decide) rfl) ?_
   refine TH.done (by kernel_rfl) ?_
   exact TX.joined (⟨(g5, k21, v25), by dsimp only; omega⟩) (⟨rfl, rfl, rfl, trivial⟩) (fun w1 hw => hw.sel (.cons _ (.cons_cons _ (.cons _ (.cons_cons _ (.cons_cons _ (List.Sublist.refl _)))))))
  ·refine TL.prowS (e := 3) (size := 1) (cs := flat (ic .i64) [0, 0, 0, 50, 300]) rfl rfl rfl rfl rfl (fun w => brabs106_5_22075 _ _ _ _ _ w) (by decide) rfl (fun g24 => ?_)
   refine zE ?_
   refine TX.held (fun w1 hw => hw.pick [] (by decide) rfl) ?_
   refine TH.two' (listed1 := #[Tt,Tt,Tt,Tt,Tt,Tt,Tt,Tt,Tt,Tt,Tt,Ff,Tt,Tt,Ff,Ff,Ff,Ff]) (listed2 := #[Tt,Tt,Tt,Tt,Tt,Tt,Tt,Tt,Tt,Tt,Ff,Ff,Tt,Tt,Ff,Ff,Tt,Ff]) 10 16 rfl rfl (by kernel_rfl) rfl rfl ?_ ?_
   ·refine TL.pcallCod (k := 3) (α := {q9 : Nat // q9 ≤ 65535 ∧ (1 ≤ (4 : Int) → (q9 : Int) < 4)}) (fun q9 => .int .i64 ((q9.1 : Nat) : Int)) (fun q9 => []) rfl rfl rfl rfl rfl Tryz.func21 (by decide) rfl rfl (fun w1 hw hC1 => next_cod cb w1 4 hC1) ?_
    rintro ⟨k21, hk211, hk212⟩
    dsimp only [List.cons_append, List.nil_append]
    refine zE ?_
    refine TX.he (fun w1 hw => hw.pick [] (by decide) rfl) fun hS => ?_
    refine TH.t 11 rfl (gD (1 + ((k21 : Nat) : Int))) hS ?_
    refine TH.two' (listed1 := #[Tt,Tt,Tt,Tt,Tt,Tt,Tt,Tt,Tt,Tt,Tt,Tt,Tt,Tt,Tt,Ff,Ff,Ff]) (listed2 := #[Tt,Tt,Tt,Tt,Tt,Tt,Tt,Tt,Tt,Tt,Tt,Tt,Tt,Tt,Ff,Ff,Tt,Ff]) 14 16 rfl rfl (by kernel_rfl) rfl rfl ?_ ?_
    ·refine TL.pcallCod (k := 3) (α := {v : Int // v ∈ ([0, 0, 0, 50, 300] : List Int)}) (fun x => .int .i64 x.1) (fun x => []) rfl rfl rfl rfl rfl Tryz.func22 (by decide) rfl rfl (fun w1 hw hC1 => pick_cod cb w1 hC1 g24 5 ([0, 0, 0, 50, 300]) (hw.neq (i := 0) (j := 3) rfl rfl (by decide) g24 rfl <| congrArg some ·.symm) (Pc.lt (hw.at_ (k := 0) rfl) g24 rfl).2 (by show 0 < ([0, 0, 0, 50, 300] : List Int).length; simp) (fun i v hi => flat_row1 hw (q := 0) rfl hi)) ?_
     rintro ⟨v25, hv25⟩
     dsimp only [List.cons_append, List.nil_append]
     refine zE ?_
     refine TX.he (fun w1 hw => hw.pick [] (by decide) rfl) fun hS => ?_
     refine TH.t 15 rfl (gives_build (v := .agg #[.int .u32 (shlF a n), .int .i64 n, .int .i64 (1 + ((k21 : Nat) : Int)), .int .i64 v25, .int .i64 0]) rfl rfl (fun w => brabld102_2016 _ _ _ _ w)) hS ?_
     refine TH.only' 16 rfl (by kernel_rfl) rfl ?_
     refine TL.pnew rfl rfl rfl (exec_alloc (cs := [.int .u32 0, .int .i64 0, .int .i64 0, .int .i64 0, .int .i64 0]) rfl brezv102 rfl) (fun g5 => ?_)
     refine zE ?_
     refine TX.held (fun w1 hw => hw.pick [] (by decide) rfl) ?_
     refine TH.only' 17 rfl (by kernel_rfl) rfl ?_
     refine TL.pstore (k := 0) (vs := [.int .u32 (shlF a n), .int .i64 n, .int .i64 (1 + ((k21 : Nat) : Int)), .int .i64 v25, .int .i64 0]) rfl rfl rfl rfl rfl rfl rfl bresz102 breone_u32i64i64i64i64 (by show 5 ≤ 5; decide) rfl ?_
     refine zE ?_
     refine TX.held (fun w1 hw => hw.pick [] (by decide) rfl) ?_
     refine TH.done (by kernel_rfl) ?_
     exact TX.joined (⟨(g5, k21, v25), by dsimp only; omega⟩) (⟨rfl, rfl, rfl, trivial⟩) (fun w1 hw => hw.sel (.cons_cons _ (.cons _ (.cons _ (.cons_cons _ (.cons_cons _ (List.Sublist.refl _)))))))
    refine TL.pnew rfl rfl rfl (exec_alloc (cs := [.int .u32 0, .int .i64 0, .int .i64 0, .int .i64 0, .int .i64 0]) rfl brezv102 rfl) (fun g5 => ?_)
    refine zE ?_
    refine TX.held (fun w1 hw => hw.pick [] (by decide) rfl) ?_
    refine TH.only' 14 rfl (by kernel_rfl) rfl ?_
    refine TL.pcallCod (k := 4) (α := {v : Int // v ∈ ([0, 0, 0, 50, 300] : List Int)}) (fun x => .int .i64 x.1) (fun x => []) rfl rfl rfl rfl rfl Tryz.func22 (by decide) rfl rfl (fun w1 hw hC1 => pick_cod cb w1 hC1 g24 5 ([0, 0, 0, 50, 300]) (hw.neq (i := 1) (j := 4) rfl rfl (by decide) g24 rfl <| congrArg some ·.symm) (Pc.lt (hw.at_ (k := 1) rfl) g24 rfl).2 (by show 0 < ([0, 0, 0, 50, 300] : List Int).length; simp) (fun i v hi => flat_row1 hw (q := 1) rfl hi)) ?_
    rintro ⟨v25, hv25⟩
    dsimp only [List.cons_append, List.nil_append]
    refine zE ?_
    refine TX.he (fun w1 hw => hw.pick [] (by decide) rfl) fun hS => ?_
    refine TH.t 15 rfl (gives_build (v := .agg #[.int .u32 (shlF a n), .int .i64 n, .int .i64 (1 + ((k21 : Nat) : Int)), .int .i64 v25, .int .i64 0]) rfl rfl (fun w => brabld102_2016 _ _ _ _ w)) hS ?_
    refine TH.only' 17 rfl (by kernel_rfl) rfl ?_
    refine TL.pstore (k := 0) (vs := [.int .u32 (shlF a n), .int .i64 n, .int .i64 (1 + ((k21 : Nat) : Int)), .int .i64 v25, .int .i64 0]) rfl rfl rfl rfl rfl rfl rfl bresz102 breone_u32i64i64i64i64 (by show 5 ≤ 5; decide) rfl ?_
    refine zE ?_
    refine TX.held (fun w1 hw => hw.pick [] (by decide) rfl) ?_
    refine TH.done (by kernel_rfl) ?_
    exact TX.joined (⟨(g5, k21, v25), by dsimp only; omega⟩) (⟨rfl, rfl, rfl, trivial⟩) (fun w1 hw => hw.sel (.cons_cons _ (.cons _ (.cons _ (.cons_cons _ (.cons_cons _ (List.Sublist.refl _)))))))
   refine TL.pnew rfl rfl rfl (exec_alloc (cs := [.int .u32 0, .int .i64 0, .int .i64 0, .int .i64 0, .int .i64 0]) rfl brezv102 rfl) (fun g5 => ?_)
   refine zE ?_
   refine TX.held (fun w1 hw => hw.pick [] (by decide) rfl) ?_
   refine TH.only' 10 rfl (by kernel_rfl) rfl ?_
   refine TL.pcallCod (k := 4) (α := {q9 : Nat // q9 ≤ 65535 ∧ (1 ≤ (4 : Int) → (q9 : Int) < 4)}) (fun q9 => .int .i64 ((q9.1 : Nat) : Int)) (fun q9 => []) rfl rfl rfl rfl rfl Tryz.func21 (by decide) rfl rfl (fun w1 hw hC1 => next_cod cb w1 4 hC1) ?_
   rintro ⟨k21, hk211, hk212⟩
   dsimp only [List.cons_append, List.nil_append]
   refine zE ?_
   refine TX.he (fun w1 hw => hw.pick [] (by decide) rfl) fun hS => ?_
   refine TH.t 11 rfl (gD (1 + ((k21 : Nat) : Int))) hS ?_
   refine TH.only' 14 rfl (by kernel_rfl) rfl ?_
   refine TL.pcallCod (k := 4) (α := {v : Int // v ∈ ([0, 0, 0, 50, 300] : List Int)}) (fun x => .int .i64 x.1) (fun x => []) rfl rfl rfl rfl rfl Tryz.func22 (by decide) rfl rfl (fun w1 hw hC1 => pick_cod cb w1 hC1 g24 5 ([0, 0, 0, 50, 300]) (hw.neq (i := 1) (j := 4) rfl rfl (by decide) g24 rfl <| congrArg some ·.symm) (Pc.lt (hw.at_ (k := 1) rfl) g24 rfl).2 (by show 0 < ([0, 0, 0, 50, 300] : List Int).length; simp) (fun i v hi => flat_row1 hw (q := 1) rfl hi)) ?_
   rintro ⟨v25, hv25⟩
   dsimp only [List.cons_append, List.nil_append]
   refine zE ?_
   refine TX.he (fun w1 hw => hw.pick [] (by decide) rfl) fun hS => ?_
   refine TH.t 15 rfl (gives_build (v := .agg #[.int .u32 (shlF a n), .int .i64 n, .int .i64 (1 + ((k21 : Nat) : Int)), .int .i64 v25, .int .i64 0]) rfl rfl (fun w => brabld102_2016 _ _ _ _ w)) hS ?_
   refine TH.only' 17 rfl (by kernel_rfl) rfl ?_
   refine TL.pstore (k := 0) (vs := [.int .u32 (shlF a n), .int .i64 n, .int .i64 (1 + ((k21 : Nat) : Int)), .int .i64 v25, .int .i64 0]) rfl rfl rfl rfl rfl rfl rfl bresz102 breone_u32i64i64i64i64 (by show 5 ≤ 5; decide) rfl ?_
   refine zE ?_
   refine TX.held (fun w1 hw => hw.pick [] (by decide) rfl) ?_
   refine TH.done (by kernel_rfl) ?_
   exact TX.joined (⟨(g5, k21, v25), by dsimp only; omega⟩) (⟨rfl, rfl, rfl, trivial⟩) (fun w1 hw => hw.sel (.cons_cons _ (.cons _ (.cons _ (.cons_cons _ (.cons_cons _ (List.Sublist.refl _)))))))
  refine TL.pnew rfl rfl rfl (exec_alloc (cs := [.int .u32 0, .int .i64 0, .int .i64 0, .int .i64 0, .int .i64 0]) rfl brezv102 rfl) (fun g5 => ?_)
  refine zE ?_
  refine TX.held (fun w1 hw => hw.pick [] (by decide) rfl) ?_
  refine TH.two' (listed1 := #[Tt,Tt,Tt,Tt,Tt,Tt,Tt,Tt,Tt,Tt,Tt,Ff,Tt,Ff,Ff,Ff,Tt,Ff]) (listed2 := #[Tt,Tt,Tt,Tt,Tt,Tt,Tt,Tt,Tt,Tt,Ff,Ff,Tt,Tt,Ff,Ff,Tt,Ff]) 10 13 rfl rfl (by kernel_rfl) rfl rfl ?_ ?_
  ·refine TL.pcallCod (k := 3) (α := {q9 : Nat // q9 ≤ 65535 ∧ (1 ≤ (4 : Int) → (q9 : Int) < 4)}) (fun q9 => .int .i64 ((q9.1 : Nat) : Int)) (fun q9 => []) rfl rfl rfl rfl rfl Tryz.func21 (by decide) rfl rfl (fun w1 hw hC1 => next_cod cb w1 4 hC1) ?_
   rintro ⟨k21, hk211, hk212⟩
   dsimp only [List.cons_append, List.nil_append]
   refine zE ?_
   refine TX.he (fun w1 hw => hw.pick [] (by decide) rfl) fun hS => ?_
   refine TH.t 11 rfl (gD (1 + ((k21 : Nat) : Int))) hS ?_
   refine TH.only' 13 rfl (by kernel_rfl) rfl ?_
   refine TL.prowS (e := 3) (size := 1) (cs := flat (ic .i64) [0, 0, 0, 50, 300]) rfl rfl rfl rfl rfl (fun w => brabs106_5_22075 _ _ _ _ _ w) (by decide) rfl (fun g24 => ?_)
   refine zE ?_
   refine TX.held (fun w1 hw => hw.pick [] (by decide) rfl) ?_
   refine TH.only' 14 rfl (by kernel_rfl) rfl ?_
   refine TL.pcallCod (k := 4) (α := {v : Int // v ∈ ([0, 0, 0, 50, 300] : List Int)}) (fun x => .int .i64 x.1) (fun x => []) rfl rfl rfl rfl rfl Tryz.func22 (by decide) rfl rfl (fun w1 hw hC1 => pick_cod cb w1 hC1 g24 5 ([0, 0, 0, 50, 300]) (hw.neq (i := 0) (j := 4) rfl rfl (by decide) g24 rfl <| congrArg some ·.symm) (Pc.lt (hw.at_ (k := 0) rfl) g24 rfl).2 (by show 0 < ([0, 0, 0, 50, 300] : List Int).length; simp) (fun i v hi => flat_row1 hw (q := 0) rfl hi)) ?_
   rintro ⟨v25, hv25⟩
   dsimp only [List.cons_append, List.nil_append]
   refine zE ?_
   refine TX.he (fun w1 hw => hw.pick [] (by decide) rfl) fun hS => ?_
   refine TH.t 15 rfl (gives_build (v := .agg #[.int .u32 (shlF a n), .int .i64 n, .int .i64 (1 + ((k21 : Nat) : Int)), .int .i64 v25, .int .i64 0]) rfl rfl (fun w => brabld102_2016 _ _ _ _ w)) hS ?_
   refine TH.only' 17 rfl (by kernel_rfl) rfl ?_
   refine TL.pstore (k := 1) (vs := [.int .u32 (shlF a n), .int .i64 n, .int .i64 (1 + ((k21 : Nat) : Int)), .int .i64 v25, .int .i64 0]) rfl rfl rfl rfl rfl rfl rfl bresz102 breone_u32i64i64i64i64 (by show 5 ≤ 5; decide) rfl ?_
   refine zE ?_
   refine TX.held (fun w1 hw => hw.pick [] (by decide) rfl) ?_
   refine TH.done (by kernel_rfl) ?_
   exact TX.joined (⟨(g5, k21, v25), by dsimp only; omega⟩) (⟨rfl, rfl, rfl, trivial⟩) (fun w1 hw => hw.sel (.cons _ (.cons_cons _ (.cons _ (.cons_cons _ (.cons_cons _ (List.Sublist.refl _)))))))
  refine TL.prowS (e := 3) (size := 1) (cs := flat (ic .i64) [0, 0, 0, 50, 300]) rfl rfl rfl rfl rfl (fun w => brabs106_5_22075 _ _ _ _ _ w) (by decide) rfl (fun g24 => ?_)
  refine zE ?_
  refine TX.held (fun w1 hw => hw.pick [] (by decide) rfl) ?_
  refine TH.only' 10 rfl (by kernel_rfl) rfl ?_
  refine TL.pcallCod (k := 4) (α := {q9 : Nat // q9 ≤ 65535 ∧ (1 ≤ (4 : Int) → (q9 : Int) < 4)}) (fun q9 => .int .i64 ((q9.1 : Nat) : Int)) (fun q9 => []) rfl rfl rfl rfl rfl Tryz.func21 (by decide) rfl rfl (fun w1 hw hC1 => next_cod cb w1 4 hC1) ?_
  rintro ⟨k21, hk211, hk212⟩
  dsimp only [List.cons_append, List.nil_append]
  refine zE ?_
  refine TX.he (fun w1 hw => hw.pick [] (by decide) rfl) fun hS => ?_
  refine TH.t 11 rfl (gD (1 + ((k21 : Nat) : Int))) hS ?_
  refine TH.only' 14 rfl (by kernel_rfl) rfl ?_
  refine TL.pcallCod (k := 4) (α := {v : Int // v ∈ ([0, 0, 0, 50, 300] : List Int)}) (fun x => .int .i64 x.1) (fun x => []) rfl rfl rfl rfl rfl Tryz.func22 (by decide) rfl rfl (fun w1 hw hC1 => pick_cod cb w1 hC1 g24 5 ([0, 0, 0, 50, 300]) (hw.neq (i := 0) (j := 4) rfl rfl (by decide) g24 rfl <| congrArg some ·.symm) (Pc.lt (hw.at_ (k := 0) rfl) g24 rfl).2 (by show 0 < ([0, 0, 0, 50, 300] : List Int).length; simp) (fun i v hi => flat_row1 hw (q := 0) rfl hi)) ?_
  rintro ⟨v25, hv25⟩
  dsimp only [List.cons_append, List.nil_append]
  refine zE ?_
  refine TX.he (fun w1 hw => hw.pick [] (by decide) rfl) fun hS => ?_
  refine TH.t 15 rfl (gives_build (v := .agg #[.int .u32 (shlF a n), .int .i64 n, .int .i64 (1 + ((k21 : Nat) : Int)), .int .i64 v25, .int .i64 0]) rfl rfl (fun w => brabld102_2016 _ _ _ _ w)) hS ?_
  refine TH.only' 17 rfl (by kernel_rfl) rfl ?_
  refine TL.pstore (k := 1) (vs := [.int .u32 (shlF a n), .int .i64 n, .int .i64 (1 + ((k21 : Nat) : Int)), .int .i64 v25, .int .i64 0]) rfl rfl rfl rfl rfl rfl rfl bresz102 breone_u32i64i64i64i64 (by show 5 ≤ 5; decide) rfl ?_
  refine zE ?_
  refine TX.held (fun w1 hw => hw.pick [] (by decide) rfl) ?_
  refine TH.done (by kernel_rfl) ?_
  exact TX.joined (⟨(g5, k21, v25), by dsimp only; omega⟩) (⟨rfl, rfl, rfl, trivial⟩) (fun w1 hw => hw.sel (.cons _ (.cons_cons _ (.cons _ (.cons_cons _ (.cons_cons _ (List.Sublist.refl _)))))))
 rintro ⟨⟨g5, pv, fr⟩, hpv⟩
 dsimp only at hpv ⊢
 refine zS (TC.held (ls := #[Ff,Ff,Ff,Ff,Ff,Ff,Ff,Ff,Ff,Ff,Ff]) (fun _ => True) (by kernel_rfl) rfl rfl (fun w hw => hw.drawn _) ?_)
 refine TH.tk 0 rfl rfl rfl (gives_move rfl rfl) (fun _ _ => trivial) ?_
 refine TH.tk 1 rfl rfl rfl (gF brefld102_2) (fun _ _ => trivial) ?_
 refine TH.tk 4 rfl rfl rfl (gives_move rfl rfl) (fun _ _ => trivial) ?_
 refine TH.two' (listed1 := #[Tt,Tt,Tt,Ff,Tt,Ff,Ff,Ff,Ff,Ff,Ff]) (listed2 := #[Tt,Tt,Ff,Ff,Tt,Tt,Ff,Ff,Ff,Ff,Ff]) 2 5 rfl rfl (by kernel_rfl) rfl rfl ?_ ?_
 ·refine TL.v (gL 0 pcmag3) ?_
  refine zE ?_
  refine TX.held (fun _ _ => trivial) ?_
  refine TH.tk 3 rfl rfl rfl (gives_bin rfl rfl rfl (fun w => bin_add_ (r := IntKind.i64.wrap (fr + 1)) (rfl) w)) (fun _ _ => trivial) ?_
  refine TH.only' 5 rfl (by kernel_rfl) rfl ?_
  refine TL.pcallCod (k := 2) (α := {q9 : Nat // q9 ≤ 65535 ∧ (1 ≤ (600 : Int) → (q9 : Int) < 600)}) (fun q9 => .int .i64 ((q9.1 : Nat) : Int)) (fun q9 => []) rfl rfl rfl rfl rfl Tryz.func21 (by decide) rfl rfl (fun w1 hw hC1 => next_cod cb w1 600 hC1) ?_
  rintro ⟨k32, hk321, hk322⟩
  dsimp only [List.cons_append, List.nil_append]
  refine zE ?_
  refine TX.held (fun _ _ => trivial) ?_
  refine TH.tk 6 rfl rfl rfl (gives_bin rfl rfl rfl (fun w => bin_add_ (r := IntKind.i64.wrap (IntKind.i64.wrap (fr + 1) + ((k32 : Nat) : Int))) (rfl) w)) (fun _ _ => trivial) ?_
  refine TH.only' 7 rfl (by kernel_rfl) rfl ?_
  refine TL.prowS (e := 3) (size := 1) (cs := flat (ic .i64) [1125899906842624, 1125899906842624, 1125899906842624, IntKind.i64.wrap (IntKind.i64.wrap (fr + 1) + ((k32 : Nat) : Int))]) rfl rfl rfl rfl rfl (fun w => brabs106_4_78574 _ _ _ _ w) (by decide) rfl (fun g34 => ?_)
  refine zE ?_
  refine TX.held (fun _ _ => trivial) ?_
  refine TH.only' 8 rfl (by kernel_rfl) rfl ?_
  refine TL.pcallCod (k := 3) (α := {v : Int // v ∈ ([1125899906842624, 1125899906842624, 1125899906842624, IntKind.i64.wrap (IntKind.i64.wrap (fr + 1) + ((k32 : Nat) : Int))] : List Int)}) (fun x => .int .i64 x.1) (fun x => []) rfl rfl rfl rfl rfl Tryz.func22 (by decide) rfl rfl (fun w1 hw hC1 => pick_cod cb w1 hC1 g34 4 ([1125899906842624, 1125899906842624, 1125899906842624, IntKind.i64.wrap (IntKind.i64.wrap (fr + 1) + ((k32 : Nat) : Int))]) (hw.neq (i := 0) (j := 3) rfl rfl (by decide) g34 rfl <| congrArg some ·.symm) (Pc.lt (hw.at_ (k := 0) rfl) g34 rfl).2 (by show 0 < ([1125899906842624, 1125899906842624, 1125899906842624, IntKind.i64.wrap (IntKind.i64.wrap (fr + 1) + ((k32 : Nat) : Int))] : List Int).length; simp) (fun i v hi => flat_row1 hw (q := 0) rfl hi)) ?_
  rintro ⟨to, hto⟩
  dsimp only [List.cons_append, List.nil_append]
  refine zE ?_
  refine TX.held (fun _ _ => trivial) ?_
  refine TH.tk 9 rfl rfl rfl (gF brefld102_3) (fun _ _ => trivial) ?_
  refine TH.only' 10 rfl (by kernel_rfl) rfl ?_
  refine TL.pstore (k := 1) (vs := [.int .i64 to]) rfl rfl rfl rfl rfl rfl rfl pcmsz3 aeaone_i64 (by show 5 ≤ 5; decide) rfl ?_
  refine zE ?_
  refine TX.held (fun _ _ => trivial) ?_
  refine TH.done (by kernel_rfl) ?_
  refine zT (zSG (TL.v (gV 1 (.agg #[.int .u32 (shlF a n), .int .i64 n, .int .i64 (1 + ((pv : Nat) : Int)), .int .i64 fr, .int .i64 to]) breag102 bresz102) ?_))
  refine TL.pstore (k := 2) (vs := [.int .u32 (shlF a n), .int .i64 n, .int .i64 (1 + ((pv : Nat) : Int)), .int .i64 fr, .int .i64 to]) rfl rfl rfl rfl rfl rfl rfl bresz102 breone_u32i64i64i64i64 (by show 5 ≤ 5; decide) rfl ?_
  refine zET (zr ?_)
  exact pm_ret_cell (k := 2) Tryz.results65 rfl rfl Tryz.underlying102 rfl rfl (fun w1 hw => ⟨⟨⟨shlF a n, n, 1 + ((pv : Nat) : Int), fr, to⟩, EnG.mk_ (by omega) hn hpv⟩, rfl, Pm.codr [] (hw.sel (.cons _ (.cons _ (.cons _ (.cons_cons _ (List.Sublist.refl _)))))) rfl⟩)
 refine TL.pcallCod (k := 2) (α := {q9 : Nat // q9 ≤ 65535 ∧ (1 ≤ (600 : Int) → (q9 : Int) < 600)}) (fun q9 => .int .i64 ((q9.1 : Nat) : Int)) (fun q9 => []) rfl rfl rfl rfl rfl Tryz.func21 (by decide) rfl rfl (fun w1 hw hC1 => next_cod cb w1 600 hC1) ?_
 rintro ⟨k32, hk321, hk322⟩
 dsimp only [List.cons_append, List.nil_append]
 refine zE ?_
 refine TX.held (fun _ _ => trivial) ?_
 refine TH.only' 2 rfl (by kernel_rfl) rfl ?_
 refine TL.v (gL 0 pcmag3) ?_
 refine zE ?_
 refine TX.held (fun _ _ => trivial) ?_
 refine TH.tk 3 rfl rfl rfl (gives_bin rfl rfl rfl (fun w => bin_add_ (r := IntKind.i64.wrap (fr + 1)) (rfl) w)) (fun _ _ => trivial) ?_
 refine TH.tk 6 rfl rfl rfl (gives_bin rfl rfl rfl (fun w => bin_add_ (r := IntKind.i64.wrap (IntKind.i64.wrap (fr + 1) + ((k32 : Nat) : Int))) (rfl) w)) (fun _ _ => trivial) ?_
 refine TH.only' 7 rfl (by kernel_rfl) rfl ?_
 refine TL.prowS (e := 3) (size := 1) (cs := flat (ic .i64) [1125899906842624, 1125899906842624, 1125899906842624, IntKind.i64.wrap (IntKind.i64.wrap (fr + 1) + ((k32 : Nat) : Int))]) rfl rfl rfl rfl rfl (fun w => brabs106_4_78574 _ _ _ _ w) (by decide) rfl (fun g34 => ?_)
 refine zE ?_
 refine TX.held (fun _ _ => trivial) ?_
 refine TH.only' 8 rfl (by kernel_rfl) rfl ?_
 refine TL.pcallCod (k := 3) (α := {v : Int // v ∈ ([1125899906842624, 1125899906842624, 1125899906842624, IntKind.i64.wrap (IntKind.i64.wrap (fr + 1) + ((k32 : Nat) : Int))] : List Int)}) (fun x => .int .i64 x.1) (fun x => []) rfl rfl rfl rfl rfl Tryz.func22 (by decide) rfl rfl (fun w1 hw hC1 => pick_cod cb w1 hC1 g34 4 ([1125899906842624, 1125899906842624, 1125899906842624, IntKind.i64.wrap (IntKind.i64.wrap (fr + 1) + ((k32 : Nat) : Int))]) (hw.neq (i := 0) (j := 3) rfl rfl (by decide) g34 rfl <| congrArg some ·.symm) (Pc.lt (hw.at_ (k := 0) rfl) g34 rfl).2 (by show 0 < ([1125899906842624, 1125899906842624, 1125899906842624, IntKind.i64.wrap (IntKind.i64.wrap (fr + 1) + ((k32 : Nat) : Int))] : List Int).length; simp) (fun i v hi => flat_row1 hw (q := 0) rfl hi)) ?_
 rintro ⟨to, hto⟩
 dsimp only [List.cons_append, List.nil_append]
 refine zE ?_
 refine TX.held (fun _ _ => trivial) ?_
 refine TH.tk 9 rfl rfl rfl (gF brefld102_3) (fun _ _ => trivial) ?_
 refine TH.only' 10 rfl (by kernel_rfl) rfl ?_
 refine TL.pstore (k := 1) (vs := [.int .i64 to]) rfl rfl rfl rfl rfl rfl rfl pcmsz3 aeaone_i64 (by show 5 ≤ 5; decide) rfl ?_
 refine zE ?_
 refine TX.held (fun _ _ => trivial) ?_
 refine TH.done (by kernel_rfl) ?_
 refine zT (zSG (TL.v (gV 1 (.agg #[.int .u32 (shlF a n), .int .i64 n, .int .i64 (1 + ((pv : Nat) : Int)), .int .i64 fr, .int .i64 to]) breag102 bresz102) ?_))
 refine TL.pstore (k := 2) (vs := [.int .u32 (shlF a n), .int .i64 n, .int .i64 (1 + ((pv : Nat) : Int)), .int .i64 fr, .int .i64 to]) rfl rfl rfl rfl rfl rfl rfl bresz102 breone_u32i64i64i64i64 (by show 5 ≤ 5; decide) rfl ?_
 refine zET (zr ?_)
 exact pm_ret_cell (k := 2) Tryz.results65 rfl rfl Tryz.underlying102 rfl rfl (fun w1 hw => ⟨⟨⟨shlF a n, n, 1 + ((pv : Nat) : Int), fr, to⟩, EnG.mk_ (by omega) hn hpv⟩, rfl, Pm.codr [] (hw.sel (.cons _ (.cons _ (.cons _ (.cons_cons _ (List.Sublist.refl _)))))) rfl⟩)
set_option maxRecDepth 20000
def CmpE (x y : En) (z : Int) : Prop := (z < 0 → cmpP x.addr x.len y.addr y.len < 0 ∨ (cmpP x.addr x.len y.addr y.len = 0 ∧ x.frm ≤ y.frm)) ∧ (0 ≤ z → 0 < cmpP x.addr x.len y.addr y.len ∨ (cmpP x.addr x.len y.addr y.len = 0 ∧ y.frm ≤ x.frm))
def OvE (b x : En) : Prop := cmpP b.addr b.len x.addr x.len = 0 ∧ b.frm < x.to_ ∧ x.frm < b.to_
def LtE (b x : En) : Prop := cmpP b.addr b.len x.addr x.len < 0 ∨ (cmpP b.addr b.len x.addr x.len = 0 ∧ b.frm ≤ x.frm)
def GeE (b x : En) : Prop := 0 < cmpP b.addr b.len x.addr x.len ∨ (cmpP b.addr b.len x.addr x.len = 0 ∧ x.frm ≤ b.frm)
def AddK (es : List En) (x : En) (i k : Nat) : Prop := (k = 0 ∨ ∃ b, es[k - 1]? = some b ∧ LtE b x) ∧ (∀ j, k ≤ j → j < i → ∀ z, es[j]? = some z → GeE z x) ∧ ∀ j, j < i → ∀ z, es[j]? = some z → ¬ OvE z x
theorem AddK.start (es : List En) (x : En) : AddK es x 0 0 := ⟨.inl rfl, fun j _ h => absurd h (Nat.not_lt_zero _), fun j h => absurd h (Nat.not_lt_zero _)⟩
theorem AddK.step_ge {es : List En} {x z : En} {i k : Nat} (h : AddK es x i k) (hz : es[i]? = some z) (hk : k ≤ i) (hg : k ≤ i → GeE z x) (ho : ¬ OvE z x) : AddK es x (i + 1) k := by
 refine ⟨h.1, fun j h1 h2 y hy => ?_, fun j h2 y hy => ?_⟩
 ·by_cases e : j = i
  ·subst e; rw [hz] at hy; injection hy with hy; rw [← hy]; exact hg hk
  exact h.2.1 j h1 (by omega) y hy
 by_cases e : j = i
 ·subst e; rw [hz] at hy; injection hy with hy; rw [← hy]; exact ho
 exact h.2.2 j (by omega) y hy
theorem AddK.step_lt {es : List En} {x z : En} {i k : Nat} (h : AddK es x i k) (hz : es[i]? = some z) (hl : LtE z x) (ho : ¬ OvE z x) : AddK es x (i + 1) (i + 1) := by
 refine ⟨.inr ⟨z, by rw [Nat.add_sub_cancel]; exact hz, hl⟩, fun j h1 h2 => absurd h1 (by omega), fun j h2 y hy => ?_⟩
 by_cases e : j = i
 ·subst e; rw [hz] at hy; injection hy with hy; rw [← hy]; exact ho
 exact h.2.2 j (by omega) y hy
theorem cmpI_flip (a b : Int) : cmpI b a = - cmpI a b := by unfold cmpI; split <;> split <;> (try split) <;> omega
theorem cmpP_neg (a n b m : Int) : cmpP b m a n = - cmpP a n b m := by
 unfold cmpP
 rw [cmpI_flip a b, cmpI_flip n m]
 split <;> split <;> omega
theorem validR_at {es : List En} (h : validR es = true) {j : Nat} {z : En} (hz : es[j]? = some z) : validE z = true ∧ (j = 0 ∨ ∀ b, es[j - 1]? = some b → badP b z = false) := by
 simp only [validR, Bool.and_eq_true, decide_eq_true_eq, List.all_eq_true, List.mem_range] at h
 have h2 := h.2 j (List.getElem?_eq_some_iff.1 hz).1
 unfold okAt at h2
 rw [hz] at h2
 simp only [Bool.and_eq_true, Bool.or_eq_true, decide_eq_true_eq] at h2
 refine ⟨h2.1, h2.2.imp id fun h3 b hb => ?_⟩
 rw [hb] at h3
 simpa using h3
theorem okAt_of {es : List En} {j : Nat} {z : En} (hz : es[j]? = some z) (hv : validE z = true) (h : j = 0 ∨ ∀ b, es[j - 1]? = some b → badP b z = false) : okAt es j = true := by
 unfold okAt
 rw [hz]
 simp only [hv, Bool.true_and, Bool.or_eq_true, decide_eq_true_eq]
 rcases h with h | h
 ·exact .inl h
 right
 cases hb : es[j - 1]? with
 | none => rfl
 | some b => simp [h b hb]
theorem ins_valid {es : List En} {x : En} {k : Nat} (hv : validR es = true) (hx : validE x = true) (hl : es.length < 1024) (hb : k = 0 ∨ ∃ b, es[k - 1]? = some b ∧ LtE b x) (ha : ∀ z : En, es[k]? = some z → GeE z x) (ho : ∀ (j : Nat) (z : En), es[j]? = some z → ¬ OvE z x) : validR (es.take k ++ [x] ++ es.drop k) = true := by
 have hk : k ≤ es.length := by
  rcases hb with h | ⟨b, h, _⟩
  ·omega
  have := (List.getElem?_eq_some_iff.1 h).1; omega
 have hlen : (es.take k ++ [x] ++ es.drop k).length = es.length + 1 := by simp only [List.length_append, List.length_take, List.length_drop, List.length_cons, List.length_nil]; omega
 have htk : (es.take k).length = k := by rw [List.length_take]; omega
 have g1 : ∀ j, j < k → (es.take k ++ [x] ++ es.drop k)[j]? = es[j]? := fun j hj => by
  rw [List.append_assoc, List.getElem?_append_left (by omega), List.getElem?_take_of_lt hj]
 have g2 : (es.take k ++ [x] ++ es.drop k)[k]? = some x := by
  rw [List.append_assoc, List.getElem?_append_right (by omega), htk, Nat.sub_self]; rfl
 have g3 : ∀ j, k ≤ j → (es.take k ++ [x] ++ es.drop k)[j + 1]? = es[j]? := fun j hj => by
  rw [List.getElem?_append_right (by rw [List.length_append, htk]; show k + 1 ≤ _; omega), List.length_append, htk, List.getElem?_drop]
  congr 1; show k + (j + 1 - (k + 1)) = j; omega
 refine validR_true (by omega) fun j hj => ?_
 have hxf : x.frm < x.to_ := by unfold validE at hx; simp only [Bool.and_eq_true, decide_eq_true_eq] at hx; omega
 rcases Nat.lt_trichotomy j k with h | h | h
 ·obtain ⟨z, hz⟩ : ∃ z, es[j]? = some z := ⟨_, List.getElem?_eq_getElem (by omega)⟩
  obtain ⟨a1, a2⟩ := validR_at hv hz
  exact okAt_of (by rw [g1 j h]; exact hz) a1 (by rw [g1 (j - 1) (by omega)]; exact a2)
 ·subst h
  refine okAt_of g2 hx ?_
  rcases hb with h | ⟨b, h, h1⟩
  ·exact .inl h
  by_cases h0 : j = 0
  ·exact .inl h0
  refine .inr fun c hc => ?_
  rw [g1 (j - 1) (by omega), h] at hc
  injection hc with hc
  rw [← hc]
  have h2 := ho _ _ h
  unfold OvE at h2
  unfold LtE at h1
  unfold badP
  rw [Bool.or_eq_false_iff, Bool.and_eq_false_iff, decide_eq_false_iff_not, decide_eq_false_iff_not, decide_eq_false_iff_not]
  rcases h1 with h1 | h1
  ·exact ⟨by omega, .inl (by omega)⟩
  refine ⟨by omega, .inr fun h4 => h2 ⟨h1.1, by omega, h4⟩⟩
 obtain ⟨q, rfl⟩ : ∃ q, j = q + 1 := ⟨j - 1, by omega⟩
 obtain ⟨z, hz⟩ : ∃ z, es[q]? = some z := ⟨_, List.getElem?_eq_getElem (by omega)⟩
 obtain ⟨a1, a2⟩ := validR_at hv hz
 refine okAt_of (by rw [g3 q (by omega)]; exact hz) a1 (.inr ?_)
 rw [Nat.add_sub_cancel]
 by_cases e : q = k
 ·subst e
  intro c hc
  rw [g2] at hc
  injection hc with hc
  rw [← hc]
  have h1 := ha z hz
  have h2 := ho _ _ hz
  have hzf : z.frm < z.to_ := by have a3 := a1; unfold validE at a3; simp only [Bool.and_eq_true, decide_eq_true_eq] at a3; omega
  have hng := cmpP_neg z.addr z.len x.addr x.len
  unfold OvE at h2
  unfold GeE at h1
  unfold badP
  rw [Bool.or_eq_false_iff, Bool.and_eq_false_iff, decide_eq_false_iff_not, decide_eq_false_iff_not, decide_eq_false_iff_not]
  rcases h1 with h1 | h1
  ·exact ⟨by omega, .inl (by omega)⟩
  refine ⟨by omega, .inr fun h4 => ?_⟩
  exact h2 ⟨h1.1, h4, by omega⟩
 obtain ⟨p, rfl⟩ : ∃ p, q = p + 1 := ⟨q - 1, by omega⟩
 rw [g3 p (by omega)]
 rcases a2 with a2 | a2
 ·omega
 rw [Nat.add_sub_cancel] at a2; exact a2
theorem brxbld183_19252 (a0_0 : Int) (a0_1 : Int) (a1_0 : Int) (a1_1 : Int) (a2_0 : Int) (a2_1 : Int) (w : World) : (Instr.build 183 #[(0, .agg #[.int .i64 a0_0, .int .i64 a0_1]), (1, .agg #[.int .i64 a1_0, .int .i64 a1_1]), (2, .agg #[.int .i64 a2_0, .int .i64 a2_1])]).run Tryz.prog w = .ok (.agg #[.int .i64 a0_0, .int .i64 a0_1, .int .i64 a1_0, .int .i64 a1_1, .int .i64 a2_0, .int .i64 a2_1]) w := by kernel_rfl
theorem brxone_i64i64 {a0 : Int} {a1 : Int} : ∀ u ∈ [(.int .i64 a0 : Value), .int .i64 a1], u.oneCell' = true := by
 intro u hu
 simp only [List.mem_cons, List.not_mem_nil, or_false] at hu
 rcases hu with rfl | rfl <;> rfl
theorem brxzv26 (w : World) : (zeroValue 26).run Tryz.prog w = .ok (.agg #[.slice none 0 0]) w := rfl
theorem brxel24 : Elem Tryz.prog 24 102 5 40 := Elem.mk' Tryz.underlying24 (z := .agg #[.int .u32 0, .int .i64 0, .int .i64 0, .int .i64 0, .int .i64 0]) (by kernel_rfl) rfl (by omega) (by omega)
theorem brxbs24_1_22095 (a0_0 : Int) (a0_1 : Int) (a0_2 : Int) (a0_3 : Int) (a0_4 : Int) (w : World) : (Instr.buildSlice 24 1 #[(0, .agg #[.int .u32 a0_0, .int .i64 a0_1, .int .i64 a0_2, .int .i64 a0_3, .int .i64 a0_4])]).run Tryz.prog w = .ok (.slice (some ⟨w.heap.size, 0, none⟩) 1 1) (w.alloc (.cells [.int .u32 a0_0, .int .i64 a0_1, .int .i64 a0_2, .int .i64 a0_3, .int .i64 a0_4].toArray 102)) := by kernel_rfl
theorem brxbld26_67803 (a0_0 : Option Addr) (a0_0n a0_0c : Nat) (w : World) : (Instr.build 26 #[(0, .slice a0_0 a0_0n a0_0c)]).run Tryz.prog w = .ok (.agg #[.slice a0_0 a0_0n a0_0c]) w := by kernel_rfl
theorem rcmpX_any (x y : En) (hx : x.Ok) (hy : y.Ok) (w : World) :
  Calls Tryz.prog 115 #[.agg x.cells.toArray, .agg y.cells.toArray] w fun e w' => ∃ z : {z : Int // CmpE x y z}, e = .returned (.int .i64 z.1) ∧ Below w.heap.size w w' := by
 refine begin_ (vs := [.agg x.cells.toArray, .agg y.cells.toArray]) Tryz.func115 rfl rfl rfl ?_ (Pm.start w)
 refine zSG ?_
 refine TL.pnew rfl rfl rfl (exec_box (cs := x.cells) rfl rfl rfl) (fun g2 => ?_)
 refine TL.pnew rfl rfl rfl (exec_box (cs := y.cells) rfl rfl rfl) (fun g3 => ?_)
 refine TL.as_ ?_
 refine zET (zS (zSG (TL.v (gF brefld102_0) ?_)))
 refine TL.v (gV 1 (.agg #[.int .u32 x.addr, .int .i64 x.len]) badag100 badsz100) ?_
 refine TL.v (gF brefld102_0) ?_
 refine TL.v (gV 0 (.agg #[.int .u32 y.addr, .int .i64 y.len]) badag100 badsz100) ?_
 refine TL.pcall1 (r := .int .i64 (cmpP x.addr x.len y.addr y.len)) rfl rfl rfl rfl rfl Tryz.func114 (by decide) rfl (fun w1 hw => rcmpP_any x.addr x.len y.addr y.len hx hy w1) ?_
 refine TL.as_ ?_
 refine zET (zSG (TL.mv ?_))
 refine TL.sp bin_neq (fun q14 => ?_) (fun q14 => ?_)
 ·refine zET (zc (zSG (TL.rn 2 rfl (zET (zr (zR ?_))))))
  exact ret_tmp Tryz.results115 rfl (fun w1 hw => ⟨⟨cmpP x.addr x.len y.addr y.len, ⟨fun h => .inl h, fun h => .inl (by omega)⟩⟩, rfl, hw.bel⟩)
 refine zET (zd (zk (zT (zS (zSG (TL.v (gF brefld102_2) ?_))))))
 refine TL.v (gL 1 pcmag3) ?_
 refine TL.v (gF brefld102_2) ?_
 refine TL.v (gL 0 pcmag3) ?_
 refine TL.val rfl rfl rfl (gives_build (v := .agg #[.int .i64 x.frm, .int .i64 y.frm]) rfl rfl (fun w => prsbld120_29156 _ _ w)) ?_
 refine TL.v (gF brefld102_3) ?_
 refine TL.v (gL 1 pcmag3) ?_
 refine TL.v (gF brefld102_3) ?_
 refine TL.v (gL 0 pcmag3) ?_
 refine TL.val rfl rfl rfl (gives_build (v := .agg #[.int .i64 x.to_, .int .i64 y.to_]) rfl rfl (fun w => prsbld120_29156 _ _ w)) ?_
 refine TL.v (gF brefld102_1) ?_
 refine TL.v (gL 1 pcmag3) ?_
 refine TL.v (gF brefld102_1) ?_
 refine TL.v (gL 0 pcmag3) ?_
 refine TL.val rfl rfl rfl (gives_build (v := .agg #[.int .i64 x.prov, .int .i64 y.prov]) rfl rfl (fun w => prsbld120_29156 _ _ w)) ?_
 refine TL.val rfl rfl rfl (gives_build (v := .agg #[.int .i64 x.frm, .int .i64 y.frm, .int .i64 x.to_, .int .i64 y.to_, .int .i64 x.prov, .int .i64 y.prov]) rfl rfl (fun w => brxbld183_19252 _ _ _ _ _ _ w)) ?_
 refine TL.mv ?_
 refine zET (zB (TC.loop_ (α := {i : Nat // i ≤ 3 ∧ (0 < i → x.frm = y.frm)}) (fun z => [(31, .agg #[.int .i64 x.frm, .int .i64 y.frm, .int .i64 x.to_, .int .i64 y.to_, .int .i64 x.prov, .int .i64 y.prov]), (32, .int .i64 ((z.1 : Nat) : Int))]) (fun z => Pm w [.blk g3 102 y.cells, .blk g2 102 x.cells]) (fun z => 3 - z.1) (⟨0, Nat.zero_le _, fun h => absurd h (by decide)⟩) ⟨rfl, rfl, trivial⟩ (fun w1 hw => hw) ?_))
 rintro ⟨i, hi, hfr⟩
 try dsimp only at hi hfr ⊢
 refine zSG ?_
 refine TL.sp bin_lss (fun q33 => ?_) (fun q33 => ?_)
 ·have hi2 : i < 3 := by omega
  obtain ⟨p, q, hp0, hpq⟩ : ∃ p q : Int, (i = 0 → p = x.frm ∧ q = y.frm) ∧ ∀ w : World, (Instr.index 183 (.agg #[.int .i64 x.frm, .int .i64 y.frm, .int .i64 x.to_, .int .i64 y.to_, .int .i64 x.prov, .int .i64 y.prov]) (.int .i64 ((i : Nat) : Int))).run Tryz.prog w = .ok (.agg #[.int .i64 p, .int .i64 q]) w := by
   have h3 : i = 0 ∨ i = 1 ∨ i = 2 := by omega
   rcases h3 with rfl | rfl | rfl
   ·exact ⟨x.frm, y.frm, fun _ => ⟨rfl, rfl⟩, fun w => by kernel_rfl⟩
   ·exact ⟨x.to_, y.to_, fun h => absurd h (by decide), fun w => by kernel_rfl⟩
   exact ⟨x.prov, y.prov, fun h => absurd h (by decide), fun w => by kernel_rfl⟩
  refine zET (zS (zc (zk (zT (zS (zB (zSG ?_)))))))
  refine TL.val rfl rfl rfl (gives_index (v := .agg #[.int .i64 p, .int .i64 q]) rfl rfl rfl hpq) ?_
  refine TL.pnew rfl rfl rfl (exec_alloc (cs := [.int .i64 0, .int .i64 0]) rfl prszv120 rfl) (fun g7 => ?_)
  refine TL.pstore (k := 0) (vs := [.int .i64 p, .int .i64 q]) rfl rfl rfl rfl rfl rfl rfl prssz120 brxone_i64i64 (by show 2 ≤ 2; decide) rfl ?_
  refine zET (zS (zSG ?_))
  refine TL.val rfl rfl rfl (gives_at (v := .pointer (some ⟨g7, 0, none⟩)) rfl rfl rfl (fun w => at_arr Tryz.underlying120 pcmsz3 g7 0 _ 0 (by decide) w)) ?_
  refine TL.v (gL 0 pcmag3) ?_
  refine TL.val rfl rfl rfl (gives_at (v := .pointer (some ⟨g7, 1, none⟩)) rfl rfl rfl (fun w => at_arr Tryz.underlying120 pcmsz3 g7 0 _ 1 (by decide) w)) ?_
  refine TL.v (gL 0 pcmag3) ?_
  refine TL.sp bin_lss (fun q39 => ?_) (fun q39 => ?_)
  ·refine zET (zc (zSG (TL.as_ ?_)))
   refine zET (zr (zR (zRR (zR (zRR ?_)))))
   exact ret_tmp Tryz.results115 rfl (fun w1 hw => ⟨⟨-1, ⟨fun _ => .inr ⟨by omega, by by_cases h0 : i = 0; (have := hp0 h0; omega); (have := hfr (by omega); omega)⟩, fun h => absurd h (by decide)⟩⟩, rfl, hw.bel⟩)
  refine zET (zd (zk (zT (zSG ?_))))
  refine TL.val rfl rfl rfl (gives_at (v := .pointer (some ⟨g7, 0, none⟩)) rfl rfl rfl (fun w => at_arr Tryz.underlying120 pcmsz3 g7 0 _ 0 (by decide) w)) ?_
  refine TL.v (gL 0 pcmag3) ?_
  refine TL.val rfl rfl rfl (gives_at (v := .pointer (some ⟨g7, 1, none⟩)) rfl rfl rfl (fun w => at_arr Tryz.underlying120 pcmsz3 g7 0 _ 1 (by decide) w)) ?_
  refine TL.v (gL 0 pcmag3) ?_
  refine TL.sp bin_gtr (fun q44 => ?_) (fun q44 => ?_)
  ·refine zET (zc (zSG (TL.as_ ?_)))
   refine zET (zr (zRR (zR (zRR ?_))))
   exact ret_tmp Tryz.results115 rfl (fun w1 hw => ⟨⟨1, ⟨fun h => absurd h (by decide), fun _ => .inr ⟨by omega, by by_cases h0 : i = 0; (have := hp0 h0; omega); (have := hfr (by omega); omega)⟩⟩⟩, rfl, hw.bel⟩)
  have hfr2 : x.frm = y.frm := by by_cases h0 : i = 0; (have := hp0 h0; omega); exact hfr (by omega)
  refine zET (zd (zk (zN (zT (zG (TL.v (gD ((i + 1 : Nat) : Int)) ?_))))))
  refine TL.mv ?_
  refine zE ?_
  exact TX.round (⟨i + 1, by omega, fun _ => hfr2⟩) (by show 3 - (i + 1) < 3 - i; omega) ⟨rfl, rfl, trivial⟩ (fun w1 hw => hw.pick [1, 2] (by decide) rfl)
 refine zET (zS (zd (zx (zX (zX (zM (zT (zSG (TL.as_ ?_)))))))))
 refine zET (zr ?_)
 exact ret_tmp Tryz.results115 rfl (fun w1 hw => ⟨⟨0, ⟨fun h => absurd h (by decide), fun _ => .inr ⟨by omega, by have := hfr (by omega); omega⟩⟩⟩, rfl, hw.bel⟩)
theorem raddX_any (A0 : Option Addr) (c0 : Nat) (es : List En) (x : En) (hx : x.Ok) (w : World) (hr : Reads w w.heap.size 5 A0 es.length (flat En.cells es)) (hl1 : es.length ≤ 10000) (hlc : es.length ≤ c0) (hok : ∀ z ∈ es, z.Ok) :
  Calls Tryz.prog 64 #[.agg #[.slice A0 es.length c0], .agg x.cells.toArray] w fun e w' => ∃ y : {y : (Option Addr × Nat) × List En × Int // (y.2.2 = 0 → (∀ z ∈ y.2.1, z ∈ es ∨ z = x) ∧ validR y.2.1 = true) ∧ y.2.1.length ≤ es.length + 1 ∧ y.2.1.length ≤ y.1.2 ∧ y.1.2 ≤ maxLen}, e = .returned (.tuple #[.agg #[.slice y.1.1.1 y.1.2.1.length y.1.1.2], .int .i64 y.1.2.2]) ∧ Pm w [.row (.slice y.1.1.1 y.1.2.1.length y.1.1.2) 102 5 y.1.2.1.length (flat En.cells y.1.2.1)] w' := by
 refine begin_ (vs := [.agg #[.slice A0 es.length c0], .agg x.cells.toArray]) Tryz.func64 rfl rfl rfl ?_ (Pm.start w)
 refine zSG ?_
 refine TL.pnew rfl rfl rfl (exec_box (cs := [.slice A0 es.length c0]) rfl rfl rfl) (fun g2 => ?_)
 refine TL.pnew rfl rfl rfl (exec_box (cs := x.cells) rfl rfl rfl) (fun g3 => ?_)
 refine TL.pnew rfl rfl rfl (exec_alloc (cs := [.slice none 0 0]) rfl brxzv26 rfl) (fun g4 => ?_)
 refine TL.as_ ?_
 refine zET (zS (zSG (TL.v (gV 2 (.agg #[.slice A0 es.length c0]) breag26 bresz26) ?_)))
 refine TL.callsplit rfl rfl rfl rfl rfl Tryz.func85 (by decide) rfl (fun w1 hw => rvalX_any A0 c0 es w1 (hr.up hw.bel) (by omega) hok) (fun h10 => ?_) (fun h10 => ?_)
 ·refine TL.rn 2 rfl (TL.ov (gV 1 (.agg (x.cells).toArray) breag102 bresz102) ?_)
  refine TL.gu ?_
  refine TL.callsplit rfl rfl rfl rfl rfl Tryz.func113 (by decide) rfl (fun w1 hw => rvalE_any x hx w1) (fun h14 => ?_) (fun h14 => ?_)
  ·refine TL.rn 2 rfl (zET (zd (zk (zT (zSG (TL.as_ ?_))))))
   refine zET (zS (zSG (TL.as_ ?_)))
   refine zET (zB (TC.loop_ (α := {y : Nat × Nat // y.1 ≤ es.length ∧ y.2 ≤ y.1 ∧ AddK es x y.1 y.2}) (fun y => [(2, .pointer (some ⟨g2, 0, none⟩)), (3, .pointer (some ⟨g3, 0, none⟩)), (4, .pointer (some ⟨g4, 0, none⟩)), (7, .int .i64 ((y.1.1 : Nat) : Int)), (6, .int .i64 ((y.1.2 : Nat) : Int))]) (fun y => Pm w [.blk g4 26 [.slice none 0 0], .blk g3 102 x.cells, .blk g2 26 [.slice A0 es.length c0]]) (fun y => es.length - y.1.1) (⟨(0, 0), Nat.zero_le _, Nat.le_refl _, AddK.start es x⟩) ⟨rfl, rfl, rfl, rfl, rfl, trivial⟩ (fun w1 hw => hw) ?_))
   rintro ⟨⟨i, k⟩, hi, hk, hK⟩
   dsimp only at hi hk hK ⊢
   refine zS (zSG (TL.mv ?_))
   refine TL.v (gF brefld26_0) ?_
   refine TL.v (gL 2 breag24) ?_
   refine TL.v (gN Tryz.underlying24) ?_
   refine TL.sp bin_lss (fun q22 => ?_) (fun q22 => ?_)
   ·refine zET (zc (zk (zT (zS (zB (zSG (TL.v (gF brefld26_0) ?_)))))))
    refine TL.v (gL 2 breag24) ?_
    refine TL.mv ?_
    have hi28 : i < es.length := by omega
    obtain ⟨x28, hx28⟩ := ex_at hi28
    obtain ⟨b28, o28, hA28, hbb28, hc28⟩ := hr.ad (by omega) (by decide)
    refine TL.val rfl rfl rfl (gA (i := i) Tryz.underlying24 bresz102 rfl rfl rfl rfl hA28 (by omega)) ?_
    refine TL.v (gR en_cel breag102 bresz102 hbb28 hx28 hc28) ?_
    refine TL.pnew rfl rfl rfl (exec_alloc (cs := [.int .u32 0, .int .i64 0, .int .i64 0, .int .i64 0, .int .i64 0]) rfl brezv102 rfl) (fun g8 => ?_)
    refine TL.pstore (k := 0) (vs := x28.cells) rfl rfl rfl rfl rfl rfl rfl bresz102 (en_cel.one _) (by show 5 ≤ 5; decide) (L' := [.blk g8 102 x28.cells, .blk g4 26 [.slice none 0 0], .blk g3 102 x.cells, .blk g2 26 [.slice A0 es.length c0]]) rfl ?_
    refine zET (zS (zSG (TL.v (gF brefld102_0) ?_)))
    refine TL.v (gV 0 (.agg #[.int .u32 x28.addr, .int .i64 x28.len]) badag100 badsz100) ?_
    refine TL.v (gF brefld102_0) ?_
    refine TL.v (gV 2 (.agg #[.int .u32 x.addr, .int .i64 x.len]) badag100 badsz100) ?_
    refine TL.pcall1 (r := .int .i64 (cmpP x28.addr x28.len x.addr x.len)) rfl rfl rfl rfl rfl Tryz.func114 (by decide) rfl (fun w1 hw => rcmpP_any x28.addr x28.len x.addr x.len (hok x28 (List.mem_of_getElem? hx28)) hx w1) ?_
    refine TL.sp bin_eql (fun q35 => ?_) (fun q35 => ?_)
    ·refine TL.mv ?_
     refine TL.ov (gF brefld102_2) ?_
     refine TL.ov (gL 0 pcmag3) ?_
     refine TL.ov (gF brefld102_3) ?_
     refine TL.ov (gL 2 pcmag3) ?_
     refine TL.gu ?_
     refine TL.sp bin_lss (fun q41 => ?_) (fun q41 => ?_)
     ·refine TL.rn 2 rfl (TL.ov (gF brefld102_2) ?_)
      refine TL.ov (gL 2 pcmag3) ?_
      refine TL.ov (gF brefld102_3) ?_
      refine TL.ov (gL 0 pcmag3) ?_
      refine TL.gu ?_
      refine TL.sp bin_lss (fun q48 => ?_) (fun q48 => ?_)
      ·refine TL.pk ?_
       refine zET (zc (zSG ?_))
       refine TL.val rfl rfl rfl (gives_build (v := .agg #[.slice none 0 0]) rfl rfl (fun w => mawbld26_530  w)) ?_
       refine TL.pstore (k := 1) (vs := [.slice none 0 0]) rfl rfl rfl rfl rfl rfl rfl bresz26 dntone_s (by show 1 ≤ 1; decide) (L' := [.blk g8 102 x28.cells, .blk g4 26 [.slice none 0 0], .blk g3 102 x.cells, .blk g2 26 [.slice A0 es.length c0]]) rfl ?_
       refine TL.as_ ?_
       refine zET (zr (zR (zRR (zR (zRR ?_)))))
       exact ret_cell2 (k := 1) (v := .int .i64 9) Tryz.results64 rfl rfl rfl Tryz.underlying26 rfl rfl (fun w1 hw => ⟨⟨((none, 0), ([], 9)), fun h => absurd h (by decide), Nat.zero_le _, Nat.le_refl _, Nat.zero_le _⟩, rfl, (hw.pick [] (by decide) rfl).nilrow _ _⟩)
      refine TL.pk ?_
      refine zET (zd (zk (zT (zSG (TL.v (gV 0 (.agg (x28.cells).toArray) breag102 bresz102) ?_)))))
      refine TL.v (gV 2 (.agg (x.cells).toArray) breag102 bresz102) ?_
      refine TL.call (α := {z : Int // CmpE x28 x z}) (r := fun z => .int .i64 z.1) (I' := fun _ => Pm w [.blk g8 102 x28.cells, .blk g4 26 [.slice none 0 0], .blk g3 102 x.cells, .blk g2 26 [.slice A0 es.length c0]]) rfl rfl rfl rfl rfl Tryz.func115 (by decide) rfl (fun w1 hw => (rcmpX_any x28 x (hok x28 (List.mem_of_getElem? hx28)) hx w1).mono fun e w2 ⟨b, h1, h2⟩ => ⟨b, h1, hw.below h2⟩) ?_
      rintro ⟨z53, hz53⟩
      dsimp only
      refine TL.sp bin_lss (fun q54 => ?_) (fun q54 => ?_)
      ·refine zET (zc (zG (TL.mv ?_)))
       refine TL.v (gD ((i + 1 : Nat) : Int)) ?_
       refine TL.as_ ?_
       refine zE (zN (zT (zG (TL.mv ?_))))
       refine TL.v (gD ((i + 1 : Nat) : Int)) ?_
       refine TL.as_ ?_
       refine zE ?_
       exact TX.round (⟨(i + 1, i + 1), by dsimp only; omega, by dsimp only; omega, hK.step_lt hx28 (hz53.1 (by omega)) (by simp [OvE, q22, q35, q41, q48, q54]; try omega)⟩) (by show es.length - (i + 1) < es.length - i; omega) ⟨rfl, rfl, rfl, rfl, rfl, trivial⟩ (fun w1 hw => hw.pick [1, 2, 3] (by decide) rfl)
      refine zET (zd (zk (zN (zT (zG (TL.mv ?_))))))
      refine TL.v (gD ((i + 1 : Nat) : Int)) ?_
      refine TL.as_ ?_
      refine zE ?_
      exact TX.round (⟨(i + 1, k), by dsimp only; omega, by dsimp only; omega, hK.step_ge hx28 (by omega) (fun h => (hz53.2 (by omega))) (by simp [OvE, q22, q35, q41, q48, q54]; try omega)⟩) (by show es.length - (i + 1) < es.length - i; omega) ⟨rfl, rfl, rfl, rfl, rfl, trivial⟩ (fun w1 hw => hw.pick [1, 2, 3] (by decide) rfl)
     refine TL.rn 8 rfl (zET (zd (zk (zT (zSG (TL.v (gV 0 (.agg (x28.cells).toArray) breag102 bresz102) ?_))))))
     refine TL.v (gV 2 (.agg (x.cells).toArray) breag102 bresz102) ?_
     refine TL.call (α := {z : Int // CmpE x28 x z}) (r := fun z => .int .i64 z.1) (I' := fun _ => Pm w [.blk g8 102 x28.cells, .blk g4 26 [.slice none 0 0], .blk g3 102 x.cells, .blk g2 26 [.slice A0 es.length c0]]) rfl rfl rfl rfl rfl Tryz.func115 (by decide) rfl (fun w1 hw => (rcmpX_any x28 x (hok x28 (List.mem_of_getElem? hx28)) hx w1).mono fun e w2 ⟨b, h1, h2⟩ => ⟨b, h1, hw.below h2⟩) ?_
     rintro ⟨z53, hz53⟩
     dsimp only
     refine TL.sp bin_lss (fun q54 => ?_) (fun q54 => ?_)
     ·refine zET (zc (zG (TL.mv ?_)))
      refine TL.v (gD ((i + 1 : Nat) : Int)) ?_
      refine TL.as_ ?_
      refine zE (zN (zT (zG (TL.mv ?_))))
      refine TL.v (gD ((i + 1 : Nat) : Int)) ?_
      refine TL.as_ ?_
      refine zE ?_
      exact TX.round (⟨(i + 1, i + 1), by dsimp only; omega, by dsimp only; omega, hK.step_lt hx28 (hz53.1 (by omega)) (by simp [OvE, q22, q35, q41, q54]; try omega)⟩) (by show es.length - (i + 1) < es.length - i; omega) ⟨rfl, rfl, rfl, rfl, rfl, trivial⟩ (fun w1 hw => hw.pick [1, 2, 3] (by decide) rfl)
     refine zET (zd (zk (zN (zT (zG (TL.mv ?_))))))
     refine TL.v (gD ((i + 1 : Nat) : Int)) ?_
     refine TL.as_ ?_
     refine zE ?_
     exact TX.round (⟨(i + 1, k), by dsimp only; omega, by dsimp only; omega, hK.step_ge hx28 (by omega) (fun h => (hz53.2 (by omega))) (by simp [OvE, q22, q35, q41, q54]; try omega)⟩) (by show es.length - (i + 1) < es.length - i; omega) ⟨rfl, rfl, rfl, rfl, rfl, trivial⟩ (fun w1 hw => hw.pick [1, 2, 3] (by decide) rfl)
    refine TL.rn 14 rfl (zET (zd (zk (zT (zSG (TL.v (gV 0 (.agg (x28.cells).toArray) breag102 bresz102) ?_))))))
    refine TL.v (gV 2 (.agg (x.cells).toArray) breag102 bresz102) ?_
    refine TL.call (α := {z : Int // CmpE x28 x z}) (r := fun z => .int .i64 z.1) (I' := fun _ => Pm w [.blk g8 102 x28.cells, .blk g4 26 [.slice none 0 0], .blk g3 102 x.cells, .blk g2 26 [.slice A0 es.length c0]]) rfl rfl rfl rfl rfl Tryz.func115 (by decide) rfl (fun w1 hw => (rcmpX_any x28 x (hok x28 (List.mem_of_getElem? hx28)) hx w1).mono fun e w2 ⟨b, h1, h2⟩ => ⟨b, h1, hw.below h2⟩) ?_
    rintro ⟨z53, hz53⟩
    dsimp only
    refine TL.sp bin_lss (fun q54 => ?_) (fun q54 => ?_)
    ·refine zET (zc (zG (TL.mv ?_)))
     refine TL.v (gD ((i + 1 : Nat) : Int)) ?_
     refine TL.as_ ?_
     refine zE (zN (zT (zG (TL.mv ?_))))
     refine TL.v (gD ((i + 1 : Nat) : Int)) ?_
     refine TL.as_ ?_
     refine zE ?_
     exact TX.round (⟨(i + 1, i + 1), by dsimp only; omega, by dsimp only; omega, hK.step_lt hx28 (hz53.1 (by omega)) (by simp [OvE, q22, q35, q54]; try omega)⟩) (by show es.length - (i + 1) < es.length - i; omega) ⟨rfl, rfl, rfl, rfl, rfl, trivial⟩ (fun w1 hw => hw.pick [1, 2, 3] (by decide) rfl)
    refine zET (zd (zk (zN (zT (zG (TL.mv ?_))))))
    refine TL.v (gD ((i + 1 : Nat) : Int)) ?_
    refine TL.as_ ?_
    refine zE ?_
    exact TX.round (⟨(i + 1, k), by dsimp only; omega, by dsimp only; omega, hK.step_ge hx28 (by omega) (fun h => (hz53.2 (by omega))) (by simp [OvE, q22, q35, q54]; try omega)⟩) (by show es.length - (i + 1) < es.length - i; omega) ⟨rfl, rfl, rfl, rfl, rfl, trivial⟩ (fun w1 hw => hw.pick [1, 2, 3] (by decide) rfl)
   refine zET (zd (zx (zX (zX (zM (zT (zS (zSG (TL.v (gF brefld26_0) ?_)))))))))
   refine TL.v (gL 2 breag24) ?_
   refine TL.v (gN Tryz.underlying24) ?_
   refine TL.sp bin_geq (fun q60 => ?_) (fun q60 => ?_)
   ·refine zET (zc (zSG ?_))
    refine TL.val rfl rfl rfl (gives_build (v := .agg #[.slice none 0 0]) rfl rfl (fun w => mawbld26_530  w)) ?_
    refine TL.pstore (k := 0) (vs := [.slice none 0 0]) rfl rfl rfl rfl rfl rfl rfl bresz26 dntone_s (by show 1 ≤ 1; decide) (L' := [.blk g4 26 [.slice none 0 0], .blk g3 102 x.cells, .blk g2 26 [.slice A0 es.length c0]]) rfl ?_
    refine TL.as_ ?_
    refine zET (zr (zR ?_))
    exact ret_cell2 (k := 0) (v := .int .i64 5) Tryz.results64 rfl rfl rfl Tryz.underlying26 rfl rfl (fun w1 hw => ⟨⟨((none, 0), ([], 5)), fun h => absurd h (by decide), Nat.zero_le _, Nat.le_refl _, Nat.zero_le _⟩, rfl, (hw.pick [] (by decide) rfl).nilrow _ _⟩)
   refine zET (zd (zk (zT (zS (TC.held (ls := #[Ff,Ff,Ff,Ff,Ff,Ff,Ff,Ff,Ff,Ff,Ff,Ff,Ff,Ff,Ff,Ff]) (Pm w [.blk g3 102 x.cells, .blk g2 26 [.slice A0 es.length c0]]) (by kernel_rfl) rfl rfl (fun w hw => hw.drawn _) ?_)))))
   refine TH.tk 0 rfl rfl rfl (gF brefld26_0) (fun w1 hw => hw.pick [1, 2] (by decide) rfl) ?_
   refine TH.tk 1 rfl rfl rfl (gL 1 breag24) (fun w1 hw => hw.pick [1, 2] (by decide) rfl) ?_
   refine TH.tk 2 rfl rfl rfl (gives_move rfl rfl) (fun w1 hw => hw.pick [1, 2] (by decide) rfl) ?_
   refine TH.tk 3 rfl rfl rfl (gives_sliceH (v := .slice A0 k c0) rfl rfl rfl (fun w => cut_hi Tryz.underlying24 bresz102 _ _ _ k rfl (by omega) w)) (fun w1 hw => hw.pick [1, 2] (by decide) rfl) ?_
   refine TH.tk 5 rfl rfl rfl (gV 0 (.agg (x.cells).toArray) breag102 bresz102) (fun w1 hw => hw.pick [1, 2] (by decide) rfl) ?_
   refine TH.tk 8 rfl rfl rfl (gF brefld26_0) (fun w1 hw => hw.pick [1, 2] (by decide) rfl) ?_
   refine TH.tk 9 rfl rfl rfl (gL 1 breag24) (fun w1 hw => hw.pick [1, 2] (by decide) rfl) ?_
   refine TH.tk 10 rfl rfl rfl (gives_move rfl rfl) (fun w1 hw => hw.pick [1, 2] (by decide) rfl) ?_
   refine TH.tk 11 rfl rfl rfl (gives_sliceL (v := .slice (if c0 = k then A0 else A0.map (·.add (k * 5))) (es.length - k) (c0 - k)) rfl rfl rfl (fun w => cut_lo Tryz.underlying24 bresz102 _ _ _ k rfl (by omega) w)) (fun w1 hw => hw.pick [1, 2] (by decide) rfl) ?_
   refine TH.two' (listed1 := #[Tt,Tt,Tt,Tt,Tt,Tt,Ff,Ff,Tt,Tt,Tt,Tt,Ff,Ff,Ff,Ff]) (listed2 := #[Tt,Tt,Tt,Tt,Ff,Tt,Tt,Ff,Tt,Tt,Tt,Tt,Ff,Ff,Ff,Ff]) 4 6 rfl rfl (by kernel_rfl) rfl rfl ?_ ?_
   ·refine TL.nilrow 102 5 ?_
    refine TL.appendT (k := 0) rfl rfl rfl rfl Tryz.underlying24 brxel24 rfl rfl rfl (fun w1 hw => ⟨_, (Reads.headF en_cel (hr.up hw.bel) (by omega))⟩) (flat_one en_cel _) (by show _ * 40 ≤ _; omega) (k) ((Nat.zero_add _).symm) (flat En.cells (es.take k)) (rfl) (fun A66 c66 hA661 hA662 => ?_)
    refine zE ?_
    refine TX.held (fun w1 hw => hw.pick [2, 3] (by decide) rfl) ?_
    refine TH.only' 6 rfl (by kernel_rfl) rfl ?_
    refine TL.prowS (e := 102) (size := 5) (cs := flat En.cells [x]) rfl rfl rfl rfl rfl (fun w => brxbs24_1_22095 _ _ _ _ _ w) (by decide) rfl (fun g68 => ?_)
    refine zE ?_
    refine TX.held (fun w1 hw => hw.pick [3, 4] (by decide) rfl) ?_
    refine TH.only' 7 rfl (by kernel_rfl) rfl ?_
    refine TL.appendT (k := 1) rfl rfl rfl rfl Tryz.underlying24 brxel24 rfl rfl rfl (fun w1 hw => pm_reads hw (k := 0) rfl) (flat_one en_cel _) (by show _ * 40 ≤ _; omega) (k + 1) (rfl) (flat En.cells ((es.take k) ++ [x])) ((flat_app _ _).symm) (fun A69 c69 hA691 hA692 => ?_)
    refine zE ?_
    refine TX.held (fun w1 hw => hw.pick [3, 4] (by decide) rfl) ?_
    refine TH.only' 12 rfl (by kernel_rfl) rfl ?_
    refine TL.appendT (k := 1) rfl rfl rfl rfl Tryz.underlying24 brxel24 rfl rfl rfl (fun w1 hw => ⟨_, (Reads.tailF en_cel (hr.up hw.bel) (by omega) (by omega))⟩) (flat_one en_cel _) (by show _ * 40 ≤ _; omega) (k + 1 + (es.length - k)) (rfl) (flat En.cells (((es.take k) ++ [x]) ++ (es.drop k))) ((flat_app _ _).symm) (fun A74 c74 hA741 hA742 => ?_)
    refine zE ?_
    refine TX.he (fun w1 hw => hw.pick [3, 4] (by decide) rfl) fun hS => ?_
    refine TH.t 13 rfl (gives_build (v := .agg #[.slice A74 (k + 1 + (es.length - k)) c74]) rfl rfl (fun w => brxbld26_67803 _ _ _ w)) hS ?_
    refine TH.only' 14 rfl (by kernel_rfl) rfl ?_
    refine TL.pstore (k := 2) (vs := [.slice A74 (k + 1 + (es.length - k)) c74]) rfl rfl rfl rfl rfl rfl rfl bresz26 dntone_s (by show 1 ≤ 1; decide) (L' := [.row (.slice (some ⟨g68, 0, none⟩) 1 1) 102 5 1 (flat En.cells [x]), .row (.slice A74 (k + 1 + (es.length - k)) c74) 102 5 (k + 1 + (es.length - k)) (flat En.cells (((es.take k) ++ [x]) ++ (es.drop k))), .blk g4 26 [.slice A74 (k + 1 + (es.length - k)) c74], .blk g3 102 x.cells, .blk g2 26 [.slice A0 es.length c0]]) rfl ?_
    refine zE ?_
    refine TX.he (fun w1 hw => hw.pick [3, 4] (by decide) rfl) fun hS => ?_
    refine TH.t 15 rfl (gives_assign rfl rfl) hS ?_
    refine TH.done (by kernel_rfl) ?_
    refine zT (zr ?_)
    have hle : (((es.take k) ++ [x]) ++ (es.drop k)).length = k + 1 + (es.length - k) := by simp only [List.length_append, List.length_take, List.length_drop, List.length_cons, List.length_nil]; omega
    have hva : validR (((es.take k) ++ [x]) ++ (es.drop k)) = true := ins_valid h10 (by rw [← rvalidE_eq hx]; exact h14) (by omega) hK.1 (fun z hz => hK.2.1 k (Nat.le_refl _) (by have := (List.getElem?_eq_some_iff.1 hz).1; omega) z hz) (fun j z hz => hK.2.2 j (by have := (List.getElem?_eq_some_iff.1 hz).1; omega) z hz)
    exact ret_cell2 (k := 2) (v := .int .i64 0) Tryz.results64 rfl rfl rfl Tryz.underlying26 rfl rfl (fun w1 hw => ⟨⟨((A74, c74), (((es.take k) ++ [x]) ++ (es.drop k), 0)), fun _ => ⟨fun z h => mem_ins h, hva⟩, by dsimp only; omega, by dsimp only; omega, hA742⟩, by dsimp only; rw [hle], by dsimp only; rw [hle]; exact hw.pick [1] (by decide) rfl⟩)
   refine TL.prowS (e := 102) (size := 5) (cs := flat En.cells [x]) rfl rfl rfl rfl rfl (fun w => brxbs24_1_22095 _ _ _ _ _ w) (by decide) rfl (fun g68 => ?_)
   refine zE ?_
   refine TX.held (fun w1 hw => hw.pick [2, 3] (by decide) rfl) ?_
   refine TH.only' 4 rfl (by kernel_rfl) rfl ?_
   refine TL.nilrow 102 5 ?_
   refine TL.appendT (k := 0) rfl rfl rfl rfl Tryz.underlying24 brxel24 rfl rfl rfl (fun w1 hw => ⟨_, (Reads.headF en_cel (hr.up hw.bel) (by omega))⟩) (flat_one en_cel _) (by show _ * 40 ≤ _; omega) (k) ((Nat.zero_add _).symm) (flat En.cells (es.take k)) (rfl) (fun A66 c66 hA661 hA662 => ?_)
   refine zE ?_
   refine TX.held (fun w1 hw => hw.pick [3, 4] (by decide) rfl) ?_
   refine TH.only' 7 rfl (by kernel_rfl) rfl ?_
   refine TL.appendT (k := 0) rfl rfl rfl rfl Tryz.underlying24 brxel24 rfl rfl rfl (fun w1 hw => pm_reads hw (k := 1) rfl) (flat_one en_cel _) (by show _ * 40 ≤ _; omega) (k + 1) (rfl) (flat En.cells ((es.take k) ++ [x])) ((flat_app _ _).symm) (fun A69 c69 hA691 hA692 => ?_)
   refine zE ?_
   refine TX.held (fun w1 hw => hw.pick [3, 4] (by decide) rfl) ?_
   refine TH.only' 12 rfl (by kernel_rfl) rfl ?_
   refine TL.appendT (k := 0) rfl rfl rfl rfl Tryz.underlying24 brxel24 rfl rfl rfl (fun w1 hw => ⟨_, (Reads.tailF en_cel (hr.up hw.bel) (by omega) (by omega))⟩) (flat_one en_cel _) (by show _ * 40 ≤ _; omega) (k + 1 + (es.length - k)) (rfl) (flat En.cells (((es.take k) ++ [x]) ++ (es.drop k))) ((flat_app _ _).symm) (fun A74 c74 hA741 hA742 => ?_)
   refine zE ?_
   refine TX.he (fun w1 hw => hw.pick [3, 4] (by decide) rfl) fun hS => ?_
   refine TH.t 13 rfl (gives_build (v := .agg #[.slice A74 (k + 1 + (es.length - k)) c74]) rfl rfl (fun w => brxbld26_67803 _ _ _ w)) hS ?_
   refine TH.only' 14 rfl (by kernel_rfl) rfl ?_
   refine TL.pstore (k := 2) (vs := [.slice A74 (k + 1 + (es.length - k)) c74]) rfl rfl rfl rfl rfl rfl rfl bresz26 dntone_s (by show 1 ≤ 1; decide) (L' := [.row (.slice A74 (k + 1 + (es.length - k)) c74) 102 5 (k + 1 + (es.length - k)) (flat En.cells (((es.take k) ++ [x]) ++ (es.drop k))), .row (.slice (some ⟨g68, 0, none⟩) 1 1) 102 5 1 (flat En.cells [x]), .blk g4 26 [.slice A74 (k + 1 + (es.length - k)) c74], .blk g3 102 x.cells, .blk g2 26 [.slice A0 es.length c0]]) rfl ?_
   refine zE ?_
   refine TX.he (fun w1 hw => hw.pick [3, 4] (by decide) rfl) fun hS => ?_
   refine TH.t 15 rfl (gives_assign rfl rfl) hS ?_
   refine TH.done (by kernel_rfl) ?_
   refine zT (zr ?_)
   have hle : (((es.take k) ++ [x]) ++ (es.drop k)).length = k + 1 + (es.length - k) := by simp only [List.length_append, List.length_take, List.length_drop, List.length_cons, List.length_nil]; omega
   have hva : validR (((es.take k) ++ [x]) ++ (es.drop k)) = true := ins_valid h10 (by rw [← rvalidE_eq hx]; exact h14) (by omega) hK.1 (fun z hz => hK.2.1 k (Nat.le_refl _) (by have := (List.getElem?_eq_some_iff.1 hz).1; omega) z hz) (fun j z hz => hK.2.2 j (by have := (List.getElem?_eq_some_iff.1 hz).1; omega) z hz)
   exact ret_cell2 (k := 2) (v := .int .i64 0) Tryz.results64 rfl rfl rfl Tryz.underlying26 rfl rfl (fun w1 hw => ⟨⟨((A74, c74), (((es.take k) ++ [x]) ++ (es.drop k), 0)), fun _ => ⟨fun z h => mem_ins h, hva⟩, by dsimp only; omega, by dsimp only; omega, hA742⟩, by dsimp only; rw [hle], by dsimp only; rw [hle]; exact hw.pick [0] (by decide) rfl⟩)
  refine TL.rn 2 rfl (zET (zc (zSG ?_)))
  refine TL.val rfl rfl rfl (gives_build (v := .agg #[.slice none 0 0]) rfl rfl (fun w => mawbld26_530  w)) ?_
  refine TL.pstore (k := 0) (vs := [.slice none 0 0]) rfl rfl rfl rfl rfl rfl rfl bresz26 dntone_s (by show 1 ≤ 1; decide) (L' := [.blk g4 26 [.slice none 0 0], .blk g3 102 x.cells, .blk g2 26 [.slice A0 es.length c0]]) rfl ?_
  refine TL.as_ ?_
  refine zET (zr (zR ?_))
  exact ret_cell2 (k := 0) (v := .int .i64 1) Tryz.results64 rfl rfl rfl Tryz.underlying26 rfl rfl (fun w1 hw => ⟨⟨((none, 0), ([], 1)), fun h => absurd h (by decide), Nat.zero_le _, Nat.le_refl _, Nat.zero_le _⟩, rfl, (hw.pick [] (by decide) rfl).nilrow _ _⟩)
 refine TL.rn 6 rfl (zET (zc (zSG ?_)))
 refine TL.val rfl rfl rfl (gives_build (v := .agg #[.slice none 0 0]) rfl rfl (fun w => mawbld26_530  w)) ?_
 refine TL.pstore (k := 0) (vs := [.slice none 0 0]) rfl rfl rfl rfl rfl rfl rfl bresz26 dntone_s (by show 1 ≤ 1; decide) (L' := [.blk g4 26 [.slice none 0 0], .blk g3 102 x.cells, .blk g2 26 [.slice A0 es.length c0]]) rfl ?_
 refine TL.as_ ?_
 refine zET (zr (zR ?_))
 exact ret_cell2 (k := 0) (v := .int .i64 1) Tryz.results64 rfl rfl rfl Tryz.underlying26 rfl rfl (fun w1 hw => ⟨⟨((none, 0), ([], 1)), fun h => absurd h (by decide), Nat.zero_le _, Nat.le_refl _, Nat.zero_le _⟩, rfl, (hw.pick [] (by decide) rfl).nilrow _ _⟩)
theorem registryX_cod (cb : Nat) (w : World) (hC : Cod w cb) (m : Nat) (hm : m ≤ 100) :
  Calls Tryz.prog 19 #[.pointer (some ⟨cb, 0, none⟩), .int .i64 ((m : Nat) : Int)] w fun e w' => ∃ x : {y : (Option Addr × Nat) × List En // ((∀ e ∈ y.2, EnG e) ∧ validR y.2 = true) ∧ y.2.length ≤ m ∧ y.2.length ≤ y.1.2 ∧ y.1.2 ≤ maxLen}, e = .returned (.agg #[.slice x.1.1.1 x.1.2.length x.1.1.2]) ∧ Codr (fun w => Cod w cb) cb w ([.row (.slice x.1.1.1 x.1.2.length x.1.1.2) 102 5 x.1.2.length (flat En.cells x.1.2)]) w' := by
 refine begin_ (vs := [.pointer (some ⟨cb, 0, none⟩), .int .i64 ((m : Nat) : Int)]) (I := Pm ⟨w, cb⟩ (.abs cb (fun w => Cod w cb) :: oths cb w)) Tryz.func19 rfl rfl rfl ?_ (Pm.codes hC (cod_cells hC) (cod_stab cb))
 refine zSG ?_
 refine TL.pnew rfl rfl rfl (exec_alloc (cs := [.slice none 0 0]) rfl brxzv26 rfl) (fun g4 => ?_)
 refine zET (zSG ?_)
 refine TL.pnew rfl rfl rfl (exec_alloc (cs := [.slice none 0 0]) rfl brxzv26 rfl) (fun g5 => ?_)
 refine zET (zS (zSG (TL.rn 2 rfl (TL.v (gD ((m + 1 : Nat) : Int)) ?_))))
 refine TL.pcallCod (k := 2) (α := {q9 : Nat // q9 ≤ 65535 ∧ (1 ≤ (((m + 1 : Nat) : Int) : Int) → (q9 : Int) < ((m + 1 : Nat) : Int))}) (fun q9 => .int .i64 ((q9.1 : Nat) : Int)) (fun q9 => []) rfl rfl rfl rfl rfl Tryz.func21 (by decide) rfl rfl (fun w1 hw hC1 => next_cod cb w1 ((m + 1 : Nat) : Int) hC1) ?_
 rintro ⟨k0, hk01, hk02⟩
 dsimp only [List.cons_append, List.nil_append]
 refine TL.as_ ?_
 refine zET (zB (TC.nilrow 102 5 ?_))
 refine TC.loop_ (α := {y : Nat × (Option Addr × Nat) × List En // y.1 + y.2.2.length ≤ m ∧ ((∀ e ∈ y.2.2, EnG e) ∧ validR y.2.2 = true) ∧ y.2.2.length ≤ y.2.1.2 ∧ y.2.1.2 ≤ maxLen}) (fun y => [(0, .pointer (some ⟨cb, 0, none⟩)), (4, .pointer (some ⟨g4, 0, none⟩)), (5, .pointer (some ⟨g5, 0, none⟩)), (6, .int .i64 ((y.1.1 : Nat) : Int))]) (fun y => Pm ⟨w, cb⟩ ([.row (.slice y.1.2.1.1 y.1.2.2.length y.1.2.1.2) 102 5 y.1.2.2.length (flat En.cells y.1.2.2), .blk g5 26 [.slice y.1.2.1.1 y.1.2.2.length y.1.2.1.2], .blk g4 26 [.slice none 0 0], .abs cb (fun w => Cod w cb)] ++ oths cb w)) (fun y => y.1.1) (⟨(k0, (none, 0), []), by dsimp only [List.length_nil]; omega, ⟨fun e he => absurd he List.not_mem_nil, rfl⟩, Nat.le_refl _, Nat.zero_le _⟩) ⟨rfl, rfl, rfl, rfl, trivial⟩ (fun w1 hw => hw) ?_
 rintro ⟨⟨k, ⟨A, c⟩, es⟩, hk, hEn, hoc, hom⟩
 dsimp only at hk hEn hoc hom ⊢
 refine zS (zSG (TL.mv ?_))
 refine TL.sp bin_gtr (fun q14 => ?_) (fun q14 => ?_)
 ·refine zET (zc (zk (zT (zS (zB ?_)))))
  refine TC.join (α := {y : Nat × (Option Addr × Nat) × List En × Int // (y.2.2.2 = 0 → ((∀ e ∈ y.2.2.1, EnG e) ∧ validR y.2.2.1 = true) ∧ y.2.2.1.length ≤ es.length + 1) ∧ y.2.2.1.length ≤ y.2.1.2 ∧ y.2.1.2 ≤ maxLen}) (fun y => [(0, .pointer (some ⟨cb, 0, none⟩)), (4, .pointer (some ⟨g4, 0, none⟩)), (5, .pointer (some ⟨g5, 0, none⟩)), (6, .int .i64 ((k : Nat) : Int)), (7, .pointer (some ⟨y.1.1, 0, none⟩)), (8, .int .i64 y.1.2.2.2)]) (fun y => Pm ⟨w, cb⟩ ([.row (.slice y.1.2.1.1 y.1.2.2.1.length y.1.2.1.2) 102 5 y.1.2.2.1.length (flat En.cells y.1.2.2.1), .blk y.1.1 26 [.slice y.1.2.1.1 y.1.2.2.1.length y.1.2.1.2], .row (.slice A es.length c) 102 5 es.length (flat En.cells es), .blk g5 26 [.slice A es.length c], .blk g4 26 [.slice none 0 0], .abs cb (fun w => Cod w cb)] ++ oths cb w)) ?_ ?_
  ·refine TC.held (ls := #[Ff,Ff,Ff,Ff,Ff,Ff,Ff,Ff,Ff,Ff]) (Pm ⟨w, cb⟩ [.blk g5 26 [.slice A es.length c]]) (by kernel_rfl) rfl rfl (fun w hw => hw.drawn _) ?_
   refine TH.tk 0 rfl rfl rfl (gV 0 (.agg #[.slice A es.length c]) breag26 bresz26) (fun w1 hw => hw.pick [1] (by decide) rfl) ?_
   refine TH.tk 1 rfl rfl rfl (gives_move rfl rfl) (fun w1 hw => hw.pick [1] (by decide) rfl) ?_
   refine TH.two' (listed1 := #[Tt,Tt,Tt,Ff,Ff,Ff,Ff,Ff,Ff,Ff]) (listed2 := #[Tt,Tt,Ff,Ff,Ff,Ff,Ff,Tt,Ff,Ff]) 2 7 rfl rfl (by kernel_rfl) rfl rfl ?_ ?_
   ·refine TL.pcallCod (k := 3) (α := {y : En // EnG y}) (fun x => .agg (x.1.cells).toArray) (fun x => []) rfl rfl rfl rfl rfl Tryz.func65 (by decide) rfl rfl (fun w1 hw hC1 => entry_cod cb w1 hC1) ?_
    rintro ⟨x20, hx20⟩
    dsimp only [List.cons_append, List.nil_append]
    refine zE ?_
    refine TX.held (fun w1 hw => hw.pick [1] (by decide) rfl) ?_
    refine TH.two' (listed1 := #[Tt,Tt,Tt,Tt,Ff,Ff,Ff,Ff,Ff,Ff]) (listed2 := #[Tt,Tt,Tt,Ff,Ff,Ff,Ff,Tt,Ff,Ff]) 3 7 rfl rfl (by kernel_rfl) rfl rfl ?_ ?_
    ·refine TL.pcallPm (α := {y : (Option Addr × Nat) × List En × Int // (y.2.2 = 0 → (∀ z ∈ y.2.1, z ∈ es ∨ z = x20) ∧ validR y.2.1 = true) ∧ y.2.1.length ≤ es.length + 1 ∧ y.2.1.length ≤ y.1.2 ∧ y.1.2 ≤ maxLen}) (fun y => .tuple #[.agg #[.slice y.1.1.1 y.1.2.1.length y.1.1.2], .int .i64 y.1.2.2]) (fun y => [.row (.slice y.1.1.1 y.1.2.1.length y.1.1.2) 102 5 y.1.2.1.length (flat En.cells y.1.2.1)]) rfl rfl rfl rfl rfl Tryz.func64 (by decide) rfl (fun w1 hw => raddX_any A c es x20 hx20.ok w1 (pm_rd hw (k := 0) rfl) (by omega) hoc (fun z hz => (hEn.1 z hz).ok)) ?_
     rintro ⟨⟨⟨Ar, cr⟩, rs, er⟩, hrs, hrl, hrc, hrd⟩
     dsimp only [List.cons_append, List.nil_append] at hrs hrl hrc hrd ⊢
     refine zE ?_
     refine TX.he (fun w1 hw => hw.pick [2] (by decide) rfl) fun hS => ?_
     refine TH.t 4 rfl (gives_move rfl rfl) hS ?_
     refine TH.t 5 rfl (gives_extract rfl rfl rfl) hS ?_
     refine TH.t 6 rfl (gives_extract rfl rfl rfl) hS ?_
     refine TH.only' 7 rfl (by kernel_rfl) rfl ?_
     refine TL.pnew rfl rfl rfl (exec_alloc (cs := [.slice none 0 0]) rfl brxzv26 rfl) (fun g7 => ?_)
     refine zE ?_
     refine TX.held (fun w1 hw => hw.pick [3] (by decide) rfl) ?_
     refine TH.only' 8 rfl (by kernel_rfl) rfl ?_
     refine TL.pstore (k := 0) (vs := [.slice Ar rs.length cr]) rfl rfl rfl rfl rfl rfl rfl bresz26 dntone_s (by show 1 ≤ 1; decide) rfl ?_
     refine zE ?_
     refine TX.he (fun w1 hw => hw.pick [3] (by decide) rfl) fun hS => ?_
     refine TH.t 9 rfl (gives_assign rfl rfl) hS ?_
     refine TH.done (by kernel_rfl) ?_
     exact TX.joined (⟨(g7, (Ar, cr), rs, er), fun h0 => ⟨⟨fun e he => ((hrs h0).1 e he).elim (hEn.1 e) (fun h1 => by rw [h1]; exact hx20), (hrs h0).2⟩, hrl⟩, hrc, hrd⟩) (⟨rfl, rfl, rfl, rfl, rfl, rfl, trivial⟩) (fun w1 hw => (show Pm ⟨w, cb⟩ ([.row (.slice Ar rs.length cr) 102 5 rs.length (flat En.cells rs), .blk g7 26 [.slice Ar rs.length cr], .row (.slice A es.length c) 102 5 es.length (flat En.cells es), .blk g5 26 [.slice A es.length c], .blk g4 26 [.slice none 0 0], .abs cb (fun w => Cod w cb)] ++ oths cb w) w1 from hw.pickT 6 [1, 0, 2, 3, 4, 5] (by decide) (by decide) rfl rfl))
    refine TL.pnew rfl rfl rfl (exec_alloc (cs := [.slice none 0 0]) rfl brxzv26 rfl) (fun g7 => ?_)
    refine zE ?_
    refine TX.held (fun w1 hw => hw.pick [2] (by decide) rfl) ?_
    refine TH.only' 3 rfl (by kernel_rfl) rfl ?_
    refine TL.pcallPm (α := {y : (Option Addr × Nat) × List En × Int // (y.2.2 = 0 → (∀ z ∈ y.2.1, z ∈ es ∨ z = x20) ∧ validR y.2.1 = true) ∧ y.2.1.length ≤ es.length + 1 ∧ y.2.1.length ≤ y.1.2 ∧ y.1.2 ≤ maxLen}) (fun y => .tuple #[.agg #[.slice y.1.1.1 y.1.2.1.length y.1.1.2], .int .i64 y.1.2.2]) (fun y => [.row (.slice y.1.1.1 y.1.2.1.length y.1.1.2) 102 5 y.1.2.1.length (flat En.cells y.1.2.1)]) rfl rfl rfl rfl rfl Tryz.func64 (by decide) rfl (fun w1 hw => raddX_any A c es x20 hx20.ok w1 (pm_rd hw (k := 1) rfl) (by omega) hoc (fun z hz => (hEn.1 z hz).ok)) ?_
    rintro ⟨⟨⟨Ar, cr⟩, rs, er⟩, hrs, hrl, hrc, hrd⟩
    dsimp only [List.cons_append, List.nil_append] at hrs hrl hrc hrd ⊢
    refine zE ?_
    refine TX.he (fun w1 hw => hw.pick [3] (by decide) rfl) fun hS => ?_
    refine TH.t 4 rfl (gives_move rfl rfl) hS ?_
    refine TH.t 5 rfl (gives_extract rfl rfl rfl) hS ?_
    refine TH.t 6 rfl (gives_extract rfl rfl rfl) hS ?_
    refine TH.only' 8 rfl (by kernel_rfl) rfl ?_
    refine TL.pstore (k := 1) (vs := [.slice Ar rs.length cr]) rfl rfl rfl rfl rfl rfl rfl bresz26 dntone_s (by show 1 ≤ 1; decide) rfl ?_
    refine zE ?_
    refine TX.he (fun w1 hw => hw.pick [3] (by decide) rfl) fun hS => ?_
    refine TH.t 9 rfl (gives_assign rfl rfl) hS ?_
    refine TH.done (by kernel_rfl) ?_
    exact TX.joined (⟨(g7, (Ar, cr), rs, er), fun h0 => ⟨⟨fun e he => ((hrs h0).1 e he).elim (hEn.1 e) (fun h1 => by rw [h1]; exact hx20), (hrs h0).2⟩, hrl⟩, hrc, hrd⟩) (⟨rfl, rfl, rfl, rfl, rfl, rfl, trivial⟩) (fun w1 hw => hw)
   refine TL.pnew rfl rfl rfl (exec_alloc (cs := [.slice none 0 0]) rfl brxzv26 rfl) (fun g7 => ?_)
   refine zE ?_
   refine TX.held (fun w1 hw => hw.pick [2] (by decide) rfl) ?_
   refine TH.only' 2 rfl (by kernel_rfl) rfl ?_
   refine TL.pcallCod (k := 4) (α := {y : En // EnG y}) (fun x => .agg (x.1.cells).toArray) (fun x => []) rfl rfl rfl rfl rfl Tryz.func65 (by decide) rfl rfl (fun w1 hw hC1 => entry_cod cb w1 hC1) ?_
   rintro ⟨x20, hx20⟩
   dsimp only [List.cons_append, List.nil_append]
   refine zE ?_
   refine TX.held (fun w1 hw => hw.pick [2] (by decide) rfl) ?_
   refine TH.only' 3 rfl (by kernel_rfl) rfl ?_
   refine TL.pcallPm (α := {y : (Option Addr × Nat) × List En × Int // (y.2.2 = 0 → (∀ z ∈ y.2.1, z ∈ es ∨ z = x20) ∧ validR y.2.1 = true) ∧ y.2.1.length ≤ es.length + 1 ∧ y.2.1.length ≤ y.1.2 ∧ y.1.2 ≤ maxLen}) (fun y => .tuple #[.agg #[.slice y.1.1.1 y.1.2.1.length y.1.1.2], .int .i64 y.1.2.2]) (fun y => [.row (.slice y.1.1.1 y.1.2.1.length y.1.1.2) 102 5 y.1.2.1.length (flat En.cells y.1.2.1)]) rfl rfl rfl rfl rfl Tryz.func64 (by decide) rfl (fun w1 hw => raddX_any A c es x20 hx20.ok w1 (pm_rd hw (k := 1) rfl) (by omega) hoc (fun z hz => (hEn.1 z hz).ok)) ?_
   rintro ⟨⟨⟨Ar, cr⟩, rs, er⟩, hrs, hrl, hrc, hrd⟩
   dsimp only [List.cons_append, List.nil_append] at hrs hrl hrc hrd ⊢
   refine zE ?_
   refine TX.he (fun w1 hw => hw.pick [3] (by decide) rfl) fun hS => ?_
   refine TH.t 4 rfl (gives_move rfl rfl) hS ?_
   refine TH.t 5 rfl (gives_extract rfl rfl rfl) hS ?_
   refine TH.t 6 rfl (gives_extract rfl rfl rfl) hS ?_
   refine TH.only' 8 rfl (by kernel_rfl) rfl ?_
   refine TL.pstore (k := 1) (vs := [.slice Ar rs.length cr]) rfl rfl rfl rfl rfl rfl rfl bresz26 dntone_s (by show 1 ≤ 1; decide) rfl ?_
   refine zE ?_
   refine TX.he (fun w1 hw => hw.pick [3] (by decide) rfl) fun hS => ?_
   refine TH.t 9 rfl (gives_assign rfl rfl) hS ?_
   refine TH.done (by kernel_rfl) ?_
   exact TX.joined (⟨(g7, (Ar, cr), rs, er), fun h0 => ⟨⟨fun e he => ((hrs h0).1 e he).elim (hEn.1 e) (fun h1 => by rw [h1]; exact hx20), (hrs h0).2⟩, hrl⟩, hrc, hrd⟩) (⟨rfl, rfl, rfl, rfl, rfl, rfl, trivial⟩) (fun w1 hw => hw)
  rintro ⟨⟨g7, ⟨Ar, cr⟩, rs, er⟩, hrs, hrc, hrd⟩
  dsimp only at hrs hrc hrd ⊢
  refine zSG (TL.mv ?_)
  refine TL.sp bin_eql (fun q25 => ?_) (fun q25 => ?_)
  ·refine zET (zc (zG (TL.v (gV 1 (.agg #[.slice Ar rs.length cr]) breag26 bresz26) ?_)))
   refine TL.pstore (k := 3) (vs := [.slice Ar rs.length cr]) rfl rfl rfl rfl rfl rfl rfl bresz26 dntone_s (by show 1 ≤ 1; decide) rfl ?_
   refine zE (zN (zT (zG (TL.mv ?_))))
   refine TL.val rfl rfl rfl (gives_bin rfl rfl rfl (fun w => bin_sub_ (r := ((k - 1 : Nat) : Int)) (by simp only [IntKind.wrap_i64]; omega) w)) ?_
   refine TL.as_ ?_
   refine zE ?_
   exact TX.round (⟨(k - 1, (Ar, cr), rs), by dsimp only; have := (hrs q25).2; omega, (hrs q25).1, hrc, hrd⟩) (by show k - 1 < k; omega) ⟨rfl, rfl, rfl, rfl, trivial⟩ (fun w1 hw => hw.sel (.cons_cons _ (.cons _ (.cons _ (.cons_cons _ (.cons_cons _ (.cons_cons _ (List.Sublist.refl _))))))))
  refine zET (zd (zk (zN (zT (zG (TL.mv ?_))))))
  refine TL.val rfl rfl rfl (gives_bin rfl rfl rfl (fun w => bin_sub_ (r := ((k - 1 : Nat) : Int)) (by simp only [IntKind.wrap_i64]; omega) w)) ?_
  refine TL.as_ ?_
  refine zE ?_
  exact TX.round (⟨(k - 1, (A, c), es), by dsimp only; omega, hEn, hoc, hom⟩) (by show k - 1 < k; omega) ⟨rfl, rfl, rfl, rfl, trivial⟩ (fun w1 hw => hw.sel (.cons _ (.cons _ (.cons_cons _ (.cons_cons _ (.cons_cons _ (.cons_cons _ (List.Sublist.refl _))))))))
 refine zET (zd (zx (zX (zX (zM (zT (zSG (TL.v (gV 1 (.agg #[.slice A es.length c]) breag26 bresz26) ?_))))))))
 refine TL.pstore (k := 2) (vs := [.slice A es.length c]) rfl rfl rfl rfl rfl rfl rfl bresz26 dntone_s (by show 1 ≤ 1; decide) rfl ?_
 refine zET (zr ?_)
 exact pm_ret_cell (k := 2) Tryz.results19 rfl rfl Tryz.underlying26 rfl rfl (fun w1 hw => ⟨⟨((A, c), es), hEn, by dsimp only; omega, hoc, hom⟩, rfl, Pm.codr [_] (hw.sel (.cons_cons _ (.cons _ (.cons _ (.cons_cons _ (List.Sublist.refl _)))))) rfl⟩)
set_option maxRecDepth 20000
theorem flat_rowM {α : Type} {c : α → List Value} {k g i n cc : Nat} {e : TypeId} {A : Option Addr} {l : List α} {x : α} (K : Cel c k) {w0 : Base} {L : List Pc} {w : World} (h : Pm w0 L w) (hm : Pc.row (.slice A n cc) e k n (flat c l) ∈ L) (hA : A = some ⟨g, 0, none⟩) (hx : l[i]? = some x) (j : Nat) (u : Value) (hu : (c x)[j]? = some u) : w.cell? ⟨g, 0 + i * k + j, none⟩ = some u := by
 obtain ⟨q, hq⟩ := List.getElem?_of_mem hm
 rw [hA] at hq
 exact flat_row K h hq hx j u hu
theorem wo_le {m m' : List Rs} {ids : List Idn} (h : WoP m ids m') : m'.length ≤ m.length := by
 obtain ⟨o, ho, rfl⟩ := h
 exact Nat.le_trans (List.length_filter_le _ _) (onc_le ho)
theorem Pm.djIn {w0 : Base} {w : World} {R : Pc} {P S : List Pc} (h : Pm w0 ((R :: S) ++ P) w) : Pm w0 ((R :: P) ++ S) w := h.permute (.cons _ List.perm_append_comm)
theorem dj_noAbs {v : Value} {e e' : TypeId} {size n k : Nat} {ys : List Value} {α : Type} {enc : List α → List Value} {ss : List (Sg α)} : noAbs (.row v e size n ys :: segG e' k enc ss) = true := by
 have h := segG_noAbs (e := e') (size := k) (enc := enc) ss
 simp only [noAbs, List.all_cons, Bool.and_eq_true] at h ⊢
 exact ⟨rfl, h⟩
theorem seg_mem0 {α : Type} {e : TypeId} {size : Nat} {enc : List α → List Value} {ss : List (Sg α)} {s : Sg α} (h : s ∈ ss) : Pc.row (.slice s.A s.l.length s.c) e size s.l.length (enc s.l) ∈ segG e size enc ss := List.mem_map_of_mem (f := Sg.pc e size enc) h
theorem sgA {w0 : Base} {L : List Pc} {w : World} {A : Option Addr} {e : TypeId} {size n c : Nat} {ys : List Value} (h : Pm w0 L w) (hm : Pc.row (.slice A n c) e size n ys ∈ L) (hn : 0 < n) : A = some ⟨adB A, 0, none⟩ := by
 obtain ⟨k, hk⟩ := List.getElem?_of_mem hm
 obtain ⟨g, rfl⟩ := rowA h hk hn
 rfl
theorem pm_rdM {w0 : Base} {L : List Pc} {w : World} {A : Option Addr} {e : TypeId} {size n c : Nat} {ys : List Value} (h : Pm w0 L w) (hm : Pc.row (.slice A n c) e size n ys ∈ L) : Reads w w.heap.size size A n ys := by
 obtain ⟨k, hk⟩ := List.getElem?_of_mem hm
 exact pm_rd h hk
theorem mldsz67 (w : World) : (sizeOf 67).run Tryz.prog w = .ok 1 w := rfl
theorem minimalDisjoint_walk (A0 : Option Addr) (n0 c0 : Nat) (l0 : List Int) (w : World) (hb0 : Byt w w.heap.size A0 n0 l0) (hc0 : n0 ≤ c0) (hm0 : c0 ≤ maxLen) :
  Calls Tryz.prog 13 #[.slice A0 n0 c0] w fun e w' => e = .returned (.bool true) ∧ Below w.heap.size w w' := by
 have hn0 : (n0 : Int) ≤ 9223372036854775807 := by unfold maxLen at hm0; omega
 refine begin_ (vs := [.slice A0 n0 c0]) Tryz.func13 rfl rfl rfl ?_ (Pm.start w)
 refine zSG (TL.as_ ?_)
 refine zET (zS (zSG ?_))
 refine TL.pcall1 (r := .bool true) rfl rfl rfl rfl rfl Tryz.func43 (by decide) rfl (fun w1 hw => awake42_true w1) ?_
 refine TL.val rfl rfl rfl (gives_boolnot rfl rfl) ?_
 refine zET (zd (zk (zT (zSG (TL.mv ?_)))))
 refine TL.callNew (I := Pm w []) (p := fun cb w => Cod w cb) rfl rfl rfl rfl rfl Tryz.func16 (by decide) rfl (fun w1 hw => (roll_any A0 n0 c0 l0 w1 ((hb0.below hw.bel).more hw.bel.size) hc0 hn0).mono fun e w2 ⟨h1, h2, h3⟩ => ⟨h1, h2, cod_cells h2, h3⟩) cod_stab (fun wn hwn => ?_)
 have hwb := hwn.bel
 refine TL.as_ ?_
 refine zET (zSG (TL.rn 2 rfl ?_))
 refine TL.pcallCod (k := 0) (α := Bool) (fun x => .bool x) (fun x => []) rfl rfl rfl rfl rfl Tryz.func18 (by decide) rfl rfl (fun w1 hw hC1 => dbool_cod wn.heap.size w1 hC1 3 (by decide)) ?_
 rintro b0
 dsimp only [List.cons_append, List.nil_append]
 refine TL.val rfl rfl rfl (gives_boolnot (b := b0) rfl rfl) ?_
 refine TL.pcallCod (k := 0) (α := {y : (Option Addr × Nat) × List Rs // DrawnOk 24 y.2 ∧ y.2.length ≤ y.1.2 ∧ y.1.2 ≤ maxLen}) (fun x => .slice x.1.1.1 x.1.2.length x.1.1.2) (fun x => [.row (.slice x.1.1.1 x.1.2.length x.1.1.2) 65 17 x.1.2.length (flat Rs.cells x.1.2)]) rfl rfl rfl rfl rfl Tryz.func17 (by decide) rfl rfl (fun w1 hw hC1 => results_cod wn.heap.size w1 hC1 24 (!b0) (by decide)) ?_
 rintro ⟨⟨⟨Axs, cxs⟩, xs⟩, hxs, hxsc, hxsm⟩
 dsimp only [List.cons_append, List.nil_append]
 dsimp only at hxs hxsc hxsm ⊢
 have hxslen := hxs.2.2
 have hxsok : ∀ r ∈ xs, r.Ok := fun r hr => (hxs.1 r hr).2.1
 have hxsv : ∀ r ∈ xs, vldRs r = true := fun r hr => (hxs.1 r hr).1
 refine TL.mv ?_
 refine TL.pcallCod (k := 1) (α := {y : (Option Addr × Nat) × List En // ((∀ e ∈ y.2, EnG e) ∧ validR y.2 = true) ∧ y.2.length ≤ 8 ∧ y.2.length ≤ y.1.2 ∧ y.1.2 ≤ maxLen}) (fun x => .agg #[.slice x.1.1.1 x.1.2.length x.1.1.2]) (fun x => [.row (.slice x.1.1.1 x.1.2.length x.1.1.2) 102 5 x.1.2.length (flat En.cells x.1.2)]) rfl rfl rfl rfl rfl Tryz.func19 (by decide) rfl rfl (fun w1 hw hC1 => registryX_cod wn.heap.size w1 hC1 8 (by decide)) ?_
 rintro ⟨⟨⟨Areg, creg⟩, reg⟩, hreg, hregl, hregc, hregm⟩
 dsimp only [List.cons_append, List.nil_append]
 dsimp only at hreg hregl hregc hregm ⊢
 have hregok : ∀ z ∈ reg, z.Ok := fun z hz => (hreg.1 z hz).ok
 refine TL.mv ?_
 refine TL.pcallCod (k := 2) (α := {u : Ru // RuG u}) (fun x => .agg (x.1.cells).toArray) (fun x => []) rfl rfl rfl rfl rfl Tryz.func20 (by decide) rfl rfl (fun w1 hw hC1 => drule_cod wn.heap.size w1 hC1) ?_
 rintro ⟨ru, hru⟩
 dsimp only [List.cons_append, List.nil_append]
 refine TL.pnew rfl rfl rfl (exec_alloc (cs := [.slice none 0 0]) rfl brxzv26 rfl) (fun g5 => ?_)
 refine TL.pnew rfl rfl rfl (exec_alloc (cs := [.int .i64 0, .int .i64 0, .int .i64 0]) rfl adrzv28 rfl) (fun g6 => ?_)
 refine TL.as_ ?_
 refine TL.pstore (k := 1) (vs := [.slice Areg reg.length creg]) rfl rfl rfl rfl rfl rfl rfl bresz26 dntone_s (by show 1 ≤ 1; decide) rfl ?_
 refine TL.pstore (k := 0) (vs := ru.cells) rfl rfl rfl rfl rfl rfl rfl aprsz28 (by first | exact idn_cel.one _ | exact ru_cel.one _) (by show 3 ≤ 3; decide) (L' := [.blk g6 28 ru.cells, .blk g5 26 [.slice Areg reg.length creg], .row (.slice Areg reg.length creg) 102 5 reg.length (flat En.cells reg), .row (.slice Axs xs.length cxs) 65 17 xs.length (flat Rs.cells xs), .abs wn.heap.size (fun w => Cod w wn.heap.size)]) rfl ?_
 refine zET (zSG (TL.mv ?_))
 refine TL.v (gV 1 (.agg #[.slice Areg reg.length creg]) breag26 bresz26) ?_
 refine TL.v (gV 0 (.agg (ru.cells).toArray) aprag28 aprsz28) ?_
 refine TL.pcallPm (α := {y : ((Option Addr × Nat) × List Rp) × Int // FndOk reg xs ru y.1.2 y.2 ∧ y.1.2.length ≤ 100000000000 ∧ y.1.2.length ≤ y.1.1.2 ∧ y.1.1.2 ≤ maxLen}) (fun x => .tuple #[.slice x.1.1.1.1 x.1.1.2.length x.1.1.1.2, .int .i64 x.1.2]) (fun x => [.row (.slice x.1.1.1.1 x.1.1.2.length x.1.1.1.2) 34 8 x.1.1.2.length (flat Rp.cells x.1.1.2)]) rfl rfl rfl rfl rfl Tryz.func39 (by decide) rfl (fun w1 hw => fnd_any Axs cxs xs Areg creg reg ru w1 (pm_rd hw (k := 3) rfl) (by omega) hxsok (pm_rd hw (k := 2) rfl)) ?_
 rintro ⟨⟨⟨⟨Afo, cfo⟩, fo⟩, efo⟩, hfo, hfol, hfoc, hfom⟩
 dsimp only [List.cons_append, List.nil_append]
 dsimp only at hfo hfol hfoc hfom ⊢
 obtain ⟨hfz, hfd⟩ := hfo.good hxsv hreg.2 hru.vld (by omega)
 refine TL.rn 5 rfl (zET (zS (zSG (TL.mv ?_))))
 refine TL.val rfl rfl rfl (gives_bin rfl rfl rfl (fun w => bin_neq_f (hfz) w)) ?_
 refine zET (zd (zk (zT (zS (zSG (TL.mv ?_))))))
 refine TL.v (gN Tryz.underlying49) ?_
 refine TL.mv ?_
 refine zET (zB (TC.loop_ (α := {k : Nat // k ≤ fo.length}) (fun y => [(3, .pointer (some ⟨wn.heap.size, 0, none⟩)), (4, .slice Axs xs.length cxs), (5, .pointer (some ⟨g5, 0, none⟩)), (6, .pointer (some ⟨g6, 0, none⟩)), (42, .slice Afo fo.length cfo), (43, .int .i64 (fo.length : Nat)), (44, .int .i64 ((y.1 : Nat) : Int))]) (fun y => Pm wn [.row (.slice Afo fo.length cfo) 34 8 fo.length (flat Rp.cells fo), .blk g6 28 ru.cells, .blk g5 26 [.slice Areg reg.length creg], .row (.slice Areg reg.length creg) 102 5 reg.length (flat En.cells reg), .row (.slice Axs xs.length cxs) 65 17 xs.length (flat Rs.cells xs), .abs wn.heap.size (fun w => Cod w wn.heap.size)]) (fun y => fo.length - y.1) (⟨0, Nat.zero_le _⟩) ⟨rfl, rfl, rfl, rfl, rfl, rfl, rfl, trivial⟩ (fun w1 hw => hw) ?_))
 rintro ⟨k, hk⟩
 try dsimp only at hk ⊢
 refine zSG ?_
 refine TL.sp bin_lss (fun q45 => ?_) (fun q45 => ?_)
 ·refine zET (zS (zc (zk (zT (zS (zB (zSG ?_)))))))
  refine TL.fact (p := ∃ g, Afo = some ⟨g, 0, none⟩) (fun w1 hw => rowA hw (k := 0) rfl (by omega)) ?_
  rintro ⟨g_Afo, rfl⟩
  have hi46 : k < fo.length := by omega
  obtain ⟨x46, hx46⟩ := ex_at hi46
  refine TL.val rfl rfl rfl (gA (i := k) Tryz.underlying49 aprsz34 rfl rfl rfl rfl rfl (by omega)) ?_
  refine TL.val rfl rfl rfl (gives_loadR (off := 0 + k * 8) rfl rfl aprag34 aprsz34 (rp_cel.len x46) (fun w1 hw j9 u9 h9 => flat_row rp_cel hw (q := 0) rfl hx46 j9 u9 h9)) ?_
  refine TL.pnew rfl rfl rfl (exec_alloc (cs := [.int .i64 0, .int .i64 0, .int .u32 0, .int .i64 0, .int .i64 0, .int .i64 0, .int .i64 0, .int .i64 0]) rfl asezv34 rfl) (fun g10 => ?_)
  refine TL.pstore (k := 0) (vs := x46.cells) rfl rfl rfl rfl rfl rfl rfl aprsz34 (rp_cel.one _) (by show 8 ≤ 8; decide) (L' := [.blk g10 34 x46.cells, .row (.slice (some ⟨g_Afo, 0, none⟩) fo.length cfo) 34 8 fo.length (flat Rp.cells fo), .blk g6 28 ru.cells, .blk g5 26 [.slice Areg reg.length creg], .row (.slice Areg reg.length creg) 102 5 reg.length (flat En.cells reg), .row (.slice Axs xs.length cxs) 65 17 xs.length (flat Rs.cells xs), .abs wn.heap.size (fun w => Cod w wn.heap.size)]) rfl ?_
  refine zET (zSG (TL.mv ?_))
  refine TL.v (gV 3 (.agg #[.slice Areg reg.length creg]) breag26 bresz26) ?_
  refine TL.v (gV 2 (.agg (ru.cells).toArray) aprag28 aprsz28) ?_
  refine TL.v (gV 0 (.agg (x46.cells).toArray) aprag34 aprsz34) ?_
  refine TL.call (α := {y : ((Option Addr × Nat) × List (Sg Idn)) × Int // DjP reg ru x46 xs (y.1.2.map (·.l)) y.2 ∧ y.1.2.length ≤ 100000 ∧ y.1.2.length ≤ y.1.1.2 ∧ y.1.1.2 ≤ maxLen}) (r := fun x => .tuple #[.slice x.1.1.1.1 x.1.1.2.length x.1.1.1.2, .int .i64 x.1.2]) (I' := fun x => Pm wn ((.row (.slice x.1.1.1.1 x.1.1.2.length x.1.1.1.2) 67 1 x.1.1.2.length (flat sgc x.1.1.2) :: [.blk g10 34 x46.cells, .row (.slice (some ⟨g_Afo, 0, none⟩) fo.length cfo) 34 8 fo.length (flat Rp.cells fo), .blk g6 28 ru.cells, .blk g5 26 [.slice Areg reg.length creg], .row (.slice Areg reg.length creg) 102 5 reg.length (flat En.cells reg), .row (.slice Axs xs.length cxs) 65 17 xs.length (flat Rs.cells xs), .abs wn.heap.size (fun w => Cod w wn.heap.size)]) ++ segG 73 3 (flat Idn.cells) x.1.1.2)) rfl rfl rfl rfl rfl Tryz.func50 (by decide) rfl (fun w1 hw => (disjoint_any Axs cxs xs Areg creg reg ru x46 w1 (pm_rd hw (k := 5) rfl) (by omega) hxsok (pm_rd hw (k := 4) rfl)).mono fun e w2 ⟨x, h1, h2⟩ => ⟨x, h1, Pm.djIn (P := [.blk g10 34 x46.cells, .row (.slice (some ⟨g_Afo, 0, none⟩) fo.length cfo) 34 8 fo.length (flat Rp.cells fo), .blk g6 28 ru.cells, .blk g5 26 [.slice Areg reg.length creg], .row (.slice Areg reg.length creg) 102 5 reg.length (flat En.cells reg), .row (.slice Axs xs.length cxs) 65 17 xs.length (flat Rs.cells xs), .abs wn.heap.size (fun w => Cod w wn.heap.size)]) (hw.addAll h2 dj_noAbs)⟩) ?_
  rintro ⟨⟨⟨⟨Ads, cds⟩, ds⟩, eds⟩, hds, hdsl, hdsc, hdsm⟩
  dsimp only at hds hdsl hdsc hdsm ⊢
  have hdl := disjoint_law hxs (by decide) (hfd.prP (List.mem_of_getElem? hx46)) hds
  have hdn : (ds.map (·.l)).length = ds.length := List.length_map _
  have hd1 := hdl.2.1
  have hd2 := hdl.2.2.1
  refine TL.fact (p := ∀ z ∈ ds, 0 < z.l.length → z.A = some ⟨adB z.A, 0, none⟩) (fun w1 hw z hz hn => sgA (show Pm wn ([.row (.slice Ads ds.length cds) 67 1 ds.length (flat sgc ds), .blk g10 34 x46.cells, .row (.slice (some ⟨g_Afo, 0, none⟩) fo.length cfo) 34 8 fo.length (flat Rp.cells fo), .blk g6 28 ru.cells, .blk g5 26 [.slice Areg reg.length creg], .row (.slice Areg reg.length creg) 102 5 reg.length (flat En.cells reg), .row (.slice Axs xs.length cxs) 65 17 xs.length (flat Rs.cells xs), .abs wn.heap.size (fun w => Cod w wn.heap.size)] ++ segG 73 3 (flat Idn.cells) ds) w1 from hw) (List.mem_of_mem_drop (i := 8) (by exact seg_mem0 hz)) hn) (fun hsgA => ?_)
  refine TL.rn 5 rfl (zET (zS (zSG (TL.mv ?_))))
  refine TL.val rfl rfl rfl (gives_bin rfl rfl rfl (fun w => bin_neq_f (hdl.1) w)) ?_
  refine TL.rn 2 rfl (TL.ov (gN Tryz.underlying76) ?_)
  refine TL.gu ?_
  refine TL.val rfl rfl rfl (gives_bin rfl rfl rfl (fun w => bin_eql_f ((by omega)) w)) ?_
  refine TL.pk ?_
  refine zET (zd (zk (zT (zSG (TL.as_ ?_)))))
  refine zET (zS (zSG (TL.mv ?_)))
  refine TL.v (gN Tryz.underlying76) ?_
  refine TL.mv ?_
  refine zET (zB (TC.nilrow 73 3 ?_))
  refine TC.loop_ (α := {y : Nat × (Option Addr × Nat) × List Idn // y.1 ≤ ds.length ∧ y.2.2 = ((ds.map (·.l)).take y.1).flatten ∧ y.2.2.length ≤ 24 * y.1 ∧ y.2.2.length ≤ y.2.1.2 ∧ y.2.1.2 ≤ maxLen}) (fun y => [(3, .pointer (some ⟨wn.heap.size, 0, none⟩)), (4, .slice Axs xs.length cxs), (5, .pointer (some ⟨g5, 0, none⟩)), (6, .pointer (some ⟨g6, 0, none⟩)), (10, .pointer (some ⟨g10, 0, none⟩)), (42, .slice (some ⟨g_Afo, 0, none⟩) fo.length cfo), (43, .int .i64 (fo.length : Nat)), (44, .int .i64 ((k : Nat) : Int)), (63, .slice Ads ds.length cds), (64, .int .i64 (ds.length : Nat)), (65, .int .i64 ((y.1.1 : Nat) : Int)), (13, .slice y.1.2.1.1 y.1.2.2.length y.1.2.1.2)]) (fun y => Pm wn ([.row (.slice y.1.2.1.1 y.1.2.2.length y.1.2.1.2) 73 3 y.1.2.2.length (flat Idn.cells y.1.2.2), .row (.slice Ads ds.length cds) 67 1 ds.length (flat sgc ds), .blk g10 34 x46.cells, .row (.slice (some ⟨g_Afo, 0, none⟩) fo.length cfo) 34 8 fo.length (flat Rp.cells fo), .blk g6 28 ru.cells, .blk g5 26 [.slice Areg reg.length creg], .row (.slice Areg reg.length creg) 102 5 reg.length (flat En.cells reg), .row (.slice Axs xs.length cxs) 65 17 xs.length (flat Rs.cells xs), .abs wn.heap.size (fun w => Cod w wn.heap.size)] ++ segG 73 3 (flat Idn.cells) ds)) (fun y => ds.length - y.1.1) (⟨(0, (none, 0), []), Nat.zero_le _, rfl, Nat.le_refl _, Nat.le_refl _, Nat.zero_le _⟩) ⟨rfl, rfl, rfl, rfl, rfl, rfl, rfl, rfl, rfl, rfl, rfl, rfl, trivial⟩ (fun w1 hw => hw) ?_
  rintro ⟨⟨i, ⟨Aa, ca⟩, al⟩, hi, hal, hall, halc, halm⟩
  dsimp only at hi hal hall halc halm ⊢
  refine zSG ?_
  refine TL.sp bin_lss (fun q66 => ?_) (fun q66 => ?_)
  ·refine zET (zS (zc (zk (zT (zS (zB (zSG ?_)))))))
   refine TL.fact (p := ∃ g, Ads = some ⟨g, 0, none⟩) (fun w1 hw => rowA hw (k := 1) rfl (by omega)) ?_
   rintro ⟨g_Ads, rfl⟩
   have hi67 : i < ds.length := by omega
   obtain ⟨x67, hx67⟩ := ex_at hi67
   have hsx67 := hdl.2.2.2.1 i x67.l (by rw [List.getElem?_map, hx67]; rfl)
   have hlx67 := hsx67.2.2.1
   refine TL.val rfl rfl rfl (gA (i := i) Tryz.underlying76 mldsz67 rfl rfl rfl rfl rfl (by omega)) ?_
   refine TL.val rfl rfl rfl (gives_load (v := .slice x67.A x67.l.length x67.c) rfl rfl mwoag67 (fun w1 hw => flat_row sgc_cel hw (q := 1) rfl hx67 0 _ rfl)) ?_
   refine TL.as_ ?_
   refine zET (zS (zSG (TL.mv ?_)))
   refine TL.v (gV 5 (.agg #[.slice Areg reg.length creg]) breag26 bresz26) ?_
   refine TL.v (gV 4 (.agg (ru.cells).toArray) aprag28 aprsz28) ?_
   refine TL.v (gV 2 (.agg (x46.cells).toArray) aprag34 aprsz34) ?_
   refine TL.mv ?_
   refine TL.pcall1 (r := .bool true) rfl rfl rfl rfl rfl Tryz.func46 (by decide) rfl (fun w1 hw => calls_t (check42_any Axs cxs xs Areg creg reg ru x46 x67.A x67.c x67.l w1 (pm_rd hw (k := 7) rfl) (by omega) hxsok (pm_rd hw (k := 6) rfl) (pm_rdM hw (List.mem_of_mem_drop (i := 9) (by exact seg_mem0 (List.mem_of_getElem? hx67)))) (by omega) hsx67.2.1) hsx67.1) ?_
   refine TL.val rfl rfl rfl (gives_boolnot rfl rfl) ?_
   refine zET (zd (zk (zT (zS (zSG (TL.mv ?_))))))
   refine TL.v (gN Tryz.underlying67) ?_
   refine TL.mv ?_
   refine zET (zB (TC.loop_ (α := {j : Nat // j ≤ x67.l.length}) (fun y => [(3, .pointer (some ⟨wn.heap.size, 0, none⟩)), (4, .slice Axs xs.length cxs), (5, .pointer (some ⟨g5, 0, none⟩)), (6, .pointer (some ⟨g6, 0, none⟩)), (10, .pointer (some ⟨g10, 0, none⟩)), (13, .slice Aa al.length ca), (15, .slice x67.A x67.l.length x67.c), (42, .slice (some ⟨g_Afo, 0, none⟩) fo.length cfo), (43, .int .i64 (fo.length : Nat)), (44, .int .i64 ((k : Nat) : Int)), (63, .slice (some ⟨g_Ads, 0, none⟩) ds.length cds), (64, .int .i64 (ds.length : Nat)), (65, .int .i64 ((i : Nat) : Int)), (76, .slice x67.A x67.l.length x67.c), (77, .int .i64 (x67.l.length : Nat)), (78, .int .i64 ((y.1 : Nat) : Int))]) (fun y => Pm wn ([.row (.slice Aa al.length ca) 73 3 al.length (flat Idn.cells al), .row (.slice (some ⟨g_Ads, 0, none⟩) ds.length cds) 67 1 ds.length (flat sgc ds), .blk g10 34 x46.cells, .row (.slice (some ⟨g_Afo, 0, none⟩) fo.length cfo) 34 8 fo.length (flat Rp.cells fo), .blk g6 28 ru.cells, .blk g5 26 [.slice Areg reg.length creg], .row (.slice Areg reg.length creg) 102 5 reg.length (flat En.cells reg), .row (.slice Axs xs.length cxs) 65 17 xs.length (flat Rs.cells xs), .abs wn.heap.size (fun w => Cod w wn.heap.size)] ++ segG 73 3 (flat Idn.cells) ds)) (fun y => x67.l.length - y.1) (⟨0, Nat.zero_le _⟩) ⟨rfl, rfl, rfl, rfl, rfl, rfl, rfl, rfl, rfl, rfl, rfl, rfl, rfl, rfl, rfl, rfl, trivial⟩ (fun w1 hw => hw) ?_))
   rintro ⟨j, hj⟩
   try dsimp only at hj ⊢
   refine zSG ?_
   refine TL.sp bin_lss (fun q79 => ?_) (fun q79 => ?_)
   ·refine zET (zS (zc (zk (zT (zS (zB (zSG ?_)))))))
    have hi80 : j < x67.l.length := by omega
    obtain ⟨x80, hx80⟩ := ex_at hi80
    have hA80 := hsgA x67 (List.mem_of_getElem? hx67) (by omega)
    refine TL.val rfl rfl rfl (gA (i := j) Tryz.underlying67 prssz73 rfl rfl rfl rfl hA80 (by omega)) ?_
    refine TL.val rfl rfl rfl (gives_loadR (off := 0 + j * 3) rfl rfl pofag73 prssz73 (idn_cel.len x80) (fun w1 hw j9 u9 h9 => flat_rowM idn_cel hw (List.mem_of_mem_drop (i := 9) (by exact seg_mem0 (List.mem_of_getElem? hx67))) hA80 hx80 j9 u9 h9)) ?_
    refine TL.pnew rfl rfl rfl (exec_alloc (cs := [.int .i64 0, .int .i64 0, .int .i64 0]) rfl prszv73 rfl) (fun g17 => ?_)
    refine TL.pstore (k := 0) (vs := x80.cells) rfl rfl rfl rfl rfl rfl rfl prssz73 (by first | exact idn_cel.one _ | exact ru_cel.one _) (by show 3 ≤ 3; decide) (L' := ([.blk g17 73 x80.cells, .row (.slice Aa al.length ca) 73 3 al.length (flat Idn.cells al), .row (.slice (some ⟨g_Ads, 0, none⟩) ds.length cds) 67 1 ds.length (flat sgc ds), .blk g10 34 x46.cells, .row (.slice (some ⟨g_Afo, 0, none⟩) fo.length cfo) 34 8 fo.length (flat Rp.cells fo), .blk g6 28 ru.cells, .blk g5 26 [.slice Areg reg.length creg], .row (.slice Areg reg.length creg) 102 5 reg.length (flat En.cells reg), .row (.slice Axs xs.length cxs) 65 17 xs.length (flat Rs.cells xs), .abs wn.heap.size (fun w => Cod w wn.heap.size)] ++ segG 73 3 (flat Idn.cells) ds)) rfl ?_
    refine zET (zSG (TL.mv ?_))
    refine TL.v (gN Tryz.underlying67) ?_
    refine TL.mv ?_
    refine zET (zB (TC.loop_ (α := {q : Nat // q ≤ al.length}) (fun y => [(3, .pointer (some ⟨wn.heap.size, 0, none⟩)), (4, .slice Axs xs.length cxs), (5, .pointer (some ⟨g5, 0, none⟩)), (6, .pointer (some ⟨g6, 0, none⟩)), (10, .pointer (some ⟨g10, 0, none⟩)), (13, .slice Aa al.length ca), (15, .slice x67.A x67.l.length x67.c), (17, .pointer (some ⟨g17, 0, none⟩)), (42, .slice (some ⟨g_Afo, 0, none⟩) fo.length cfo), (43, .int .i64 (fo.length : Nat)), (44, .int .i64 ((k : Nat) : Int)), (63, .slice (some ⟨g_Ads, 0, none⟩) ds.length cds), (64, .int .i64 (ds.length : Nat)), (65, .int .i64 ((i : Nat) : Int)), (76, .slice x67.A x67.l.length x67.c), (77, .int .i64 (x67.l.length : Nat)), (78, .int .i64 ((j : Nat) : Int)), (82, .slice Aa al.length ca), (83, .int .i64 (al.length : Nat)), (84, .int .i64 ((y.1 : Nat) : Int))]) (fun y => Pm wn ([.blk g17 73 x80.cells, .row (.slice Aa al.length ca) 73 3 al.length (flat Idn.cells al), .row (.slice (some ⟨g_Ads, 0, none⟩) ds.length cds) 67 1 ds.length (flat sgc ds), .blk g10 34 x46.cells, .row (.slice (some ⟨g_Afo, 0, none⟩) fo.length cfo) 34 8 fo.length (flat Rp.cells fo), .blk g6 28 ru.cells, .blk g5 26 [.slice Areg reg.length creg], .row (.slice Areg reg.length creg) 102 5 reg.length (flat En.cells reg), .row (.slice Axs xs.length cxs) 65 17 xs.length (flat Rs.cells xs), .abs wn.heap.size (fun w => Cod w wn.heap.size)] ++ segG 73 3 (flat Idn.cells) ds)) (fun y => al.length - y.1) (⟨0, Nat.zero_le _⟩) ⟨rfl, rfl, rfl, rfl, rfl, rfl, rfl, rfl, rfl, rfl, rfl, rfl, rfl, rfl, rfl, rfl, rfl, rfl, rfl, rfl, trivial⟩ (fun w1 hw => hw) ?_))
    rintro ⟨q, hq⟩
    try dsimp only at hq ⊢
    refine zSG ?_
    refine TL.sp bin_lss (fun q85 => ?_) (fun q85 => ?_)
    ·refine zET (zS (zc (zk (zT (zS (zB (zSG ?_)))))))
     refine TL.fact (p := ∃ g, Aa = some ⟨g, 0, none⟩) (fun w1 hw => rowA hw (k := 1) rfl (by omega)) ?_
     rintro ⟨g_Aa, rfl⟩
     have hi86 : q < al.length := by omega
     obtain ⟨x86, hx86⟩ := ex_at hi86
     refine TL.val rfl rfl rfl (gA (i := q) Tryz.underlying67 prssz73 rfl rfl rfl rfl rfl (by omega)) ?_
     refine TL.val rfl rfl rfl (gives_loadR (off := 0 + q * 3) rfl rfl pofag73 prssz73 (idn_cel.len x86) (fun w1 hw j9 u9 h9 => flat_row idn_cel hw (q := 1) rfl hx86 j9 u9 h9)) ?_
     refine TL.pnew rfl rfl rfl (exec_alloc (cs := [.int .i64 0, .int .i64 0, .int .i64 0]) rfl prszv73 rfl) (fun g19 => ?_)
     refine TL.pstore (k := 0) (vs := x86.cells) rfl rfl rfl rfl rfl rfl rfl prssz73 (by first | exact idn_cel.one _ | exact ru_cel.one _) (by show 3 ≤ 3; decide) (L' := ([.blk g19 73 x86.cells, .blk g17 73 x80.cells, .row (.slice (some ⟨g_Aa, 0, none⟩) al.length ca) 73 3 al.length (flat Idn.cells al), .row (.slice (some ⟨g_Ads, 0, none⟩) ds.length cds) 67 1 ds.length (flat sgc ds), .blk g10 34 x46.cells, .row (.slice (some ⟨g_Afo, 0, none⟩) fo.length cfo) 34 8 fo.length (flat Rp.cells fo), .blk g6 28 ru.cells, .blk g5 26 [.slice Areg reg.length creg], .row (.slice Areg reg.length creg) 102 5 reg.length (flat En.cells reg), .row (.slice Axs xs.length cxs) 65 17 xs.length (flat Rs.cells xs), .abs wn.heap.size (fun w => Cod w wn.heap.size)] ++ segG 73 3 (flat Idn.cells) ds)) rfl ?_
     refine zET (zSG (TL.v (gV 1 (.agg (x80.cells).toArray) pofag73 prssz73) ?_))
     refine TL.v (gV 0 (.agg (x86.cells).toArray) pofag73 prssz73) ?_
     refine TL.val rfl rfl rfl (gives_bin2 rfl rfl rfl (fun w => (idn_eql x80 x86 _ _ w).trans (by rw [decide_eq_false (fun e => hsx67.2.2.2 x80 (List.mem_of_getElem? hx80) (by rw [e, ← hal]; exact List.mem_of_getElem? hx86))]))) ?_
     refine zET (zd (zk (zN (zT (zG (TL.v (gD ((q + 1 : Nat) : Int)) ?_))))))
     refine TL.mv ?_
     refine zE ?_
     exact TX.round (⟨q + 1, by omega⟩) (by show al.length - (q + 1) < al.length - q; omega) ⟨rfl, rfl, rfl, rfl, rfl, rfl, rfl, rfl, rfl, rfl, rfl, rfl, rfl, rfl, rfl, rfl, rfl, rfl, rfl, rfl, trivial⟩ (fun w1 hw => hw.sel (.cons _ (.cons_cons _ (.cons_cons _ (.cons_cons _ (.cons_cons _ (.cons_cons _ (.cons_cons _ (.cons_cons _ (.cons_cons _ (.cons_cons _ (.cons_cons _ (List.Sublist.refl _)))))))))))))
    refine zET (zS (zd (zx (zX (zX (zM (zN (zT (zG (TL.v (gD ((j + 1 : Nat) : Int)) ?_))))))))))
    refine TL.mv ?_
    refine zE ?_
    exact TX.round (⟨j + 1, by omega⟩) (by show x67.l.length - (j + 1) < x67.l.length - j; omega) ⟨rfl, rfl, rfl, rfl, rfl, rfl, rfl, rfl, rfl, rfl, rfl, rfl, rfl, rfl, rfl, rfl, trivial⟩ (fun w1 hw => hw.sel (.cons _ (.cons_cons _ (.cons_cons _ (.cons_cons _ (.cons_cons _ (.cons_cons _ (.cons_cons _ (.cons_cons _ (.cons_cons _ (.cons_cons _ (List.Sublist.refl _))))))))))))
   refine zET (zS (zd (zx (zX (zX (zM (zT (zG (TL.rn 2 rfl ?_)))))))))
   refine TL.appendT (k := 0) rfl rfl rfl rfl Tryz.underlying67 mmiel67 rfl rfl rfl (fun w1 hw => ⟨_, (pm_rdM hw (List.mem_of_mem_drop (i := 9) (by exact seg_mem0 (List.mem_of_getElem? hx67))))⟩) (flat_one idn_cel _) (by show _ * 24 ≤ _; omega) ((al ++ x67.l).length) (List.length_append) (flat Idn.cells (al ++ x67.l)) ((flat_app _ _).symm) (fun A95 c95 hA951 hA952 => ?_)
   refine TL.as_ ?_
   refine zE (zN (zT (zG (TL.v (gD ((i + 1 : Nat) : Int)) ?_))))
   refine TL.mv ?_
   refine zE ?_
   exact TX.round (⟨(i + 1, (A95, c95), al ++ x67.l), by dsimp only; omega, by dsimp only; rw [hal, List.take_add_one, List.getElem?_map, hx67]; simp, by dsimp only; rw [List.length_append]; omega, hA951, hA952⟩) (by show ds.length - (i + 1) < ds.length - i; omega) ⟨rfl, rfl, rfl, rfl, rfl, rfl, rfl, rfl, rfl, rfl, rfl, rfl, trivial⟩ (fun w1 hw => hw)
  refine zET (zS (zd (zx (zX (zX (zM (zT (zS ?_))))))))
  have hal2 : al = (ds.map (·.l)).flatten := by rw [hal, List.take_of_length_le (by omega)]
  refine TC.held (ls := #[Ff,Ff,Ff,Ff,Ff,Ff,Ff]) (Pm wn [.blk g10 34 x46.cells, .blk g6 28 ru.cells, .blk g5 26 [.slice Areg reg.length creg]]) (by kernel_rfl) rfl rfl (fun w hw => hw.drawn _) ?_
  refine TH.tk 0 rfl rfl rfl (gives_move rfl rfl) (fun w1 hw => hw.pick [2, 4, 5] (by decide) rfl) ?_
  refine TH.tk 1 rfl rfl rfl (gives_move rfl rfl) (fun w1 hw => hw.pick [2, 4, 5] (by decide) rfl) ?_
  refine TH.tk 3 rfl rfl rfl (gV 2 (.agg #[.slice Areg reg.length creg]) breag26 bresz26) (fun w1 hw => hw.pick [2, 4, 5] (by decide) rfl) ?_
  refine TH.tk 4 rfl rfl rfl (gV 1 (.agg (ru.cells).toArray) aprag28 aprsz28) (fun w1 hw => hw.pick [2, 4, 5] (by decide) rfl) ?_
  refine TH.tk 5 rfl rfl rfl (gV 0 (.agg (x46.cells).toArray) aprag34 aprsz34) (fun w1 hw => hw.pick [2, 4, 5] (by decide) rfl) ?_
  refine TH.only' 2 rfl (by kernel_rfl) rfl ?_
  refine TL.pcallPm (α := {y : (Option Addr × Nat) × List Rs // WoP xs al y.2 ∧ y.2.length ≤ y.1.2 ∧ y.1.2 ≤ maxLen}) (fun x => .slice x.1.1.1 x.1.2.length x.1.1.2) (fun x => [.row (.slice x.1.1.1 x.1.2.length x.1.1.2) 65 17 x.1.2.length (flat Rs.cells x.1.2)]) rfl rfl rfl rfl rfl Tryz.func56 (by decide) rfl (fun w1 hw => without_any Axs cxs xs Aa ca al w1 (pm_rd hw (k := 7) rfl) (by omega) hxsok (pm_rd hw (k := 0) rfl) (by omega)) ?_
  rintro ⟨⟨⟨R99, rc99⟩, wo99⟩, hP99, hR991, hR992⟩
  dsimp only [List.cons_append, List.nil_append]
  dsimp only at hP99 hR991 hR992 ⊢
  refine zE ?_
  refine TX.held (fun w1 hw => hw.pick [3, 5, 6] (by decide) rfl) ?_
  refine TH.only' 6 rfl (by kernel_rfl) rfl ?_
  refine TL.pcall1 (r := .bool false) rfl rfl rfl rfl rfl Tryz.func37 (by decide) rfl (fun w1 hw => calls_f (proves_any R99 rc99 wo99 Areg creg reg ru x46 w1 (pm_rd hw (k := 0) rfl) (by have h9 := wo_le hP99; omega) (fun r hr => hxsok r (wo_sub hP99 r hr)) (pm_rd hw (k := 7) rfl)) (hdl.2.2.2.2 wo99 (hal2 ▸ hP99))) ?_
  refine zE ?_
  refine TX.held (fun w1 hw => hw.pick [3, 5, 6] (by decide) rfl) ?_
  refine TH.done (by kernel_rfl) ?_
  refine zT (zd (zk (zN (zT (zG (TL.v (gD ((k + 1 : Nat) : Int)) ?_))))))
  refine TL.mv ?_
  refine zE ?_
  exact TX.round (⟨k + 1, by omega⟩) (by show fo.length - (k + 1) < fo.length - k; omega) ⟨rfl, rfl, rfl, rfl, rfl, rfl, rfl, trivial⟩ (fun w1 hw => hw.pick [4, 5, 6, 7, 8, 9] (by decide) rfl)
 refine zET (zS (zd (zx (zX (zX (zM (zT (zSG (TL.as_ ?_)))))))))
 refine zET (zr ?_)
 exact ret_tmp Tryz.results13 rfl (fun w1 hw => ⟨rfl, hwb.trans (hw.bel.mono hwb.size)⟩)
end Go.Proofs.YtijmpjfafpodhaaGreat
