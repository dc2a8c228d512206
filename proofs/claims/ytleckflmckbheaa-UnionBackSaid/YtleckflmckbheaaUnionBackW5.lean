/-
  Facts added and taken back, and mixed: plain laws (chapter 30).
-/
import Derived.Test.YtleckflmckbheaaPu6
import Derived.Test.YtleckflmckbheaaUnionBackW4
namespace Go.Proofs.Ytleckflmckbheaa
open Go.RowKit
set_option linter.unusedVariables false
set_option linter.unusedSimpArgs false
theorem ix_at2 {l : List Fc} (ha : Asc l) {i : Nat} {f : Fc} (hf : l[i]? = some f) : ixF l f.id = some i := by
 unfold ixF
 rw [List.findIdx?_eq_some_iff_getElem]
 obtain ⟨hlt, e⟩ := List.getElem?_eq_some_iff.1 hf
 refine ⟨hlt, by rw [e]; exact decide_eq_true rfl, fun j hj hjd => ?_⟩
 have h3 := of_decide_eq_true hjd
 have := ha j i _ f hj (List.getElem?_eq_getElem (by omega)) hf
 omega
theorem ix_none {l : List Fc} {id : Int} (h : ixF l id = none) : ∀ f ∈ l, f.id ≠ id := by
 unfold ixF at h
 rw [List.findIdx?_eq_none_iff] at h
 exact fun f hf => of_decide_eq_false (h f hf)
theorem ix_none_of {l : List Fc} {id : Int} (h : ∀ f ∈ l, f.id ≠ id) : ixF l id = none := by
 unfold ixF
 rw [List.findIdx?_eq_none_iff]
 exact fun f hf => decide_eq_false (h f hf)
theorem Lb.uniq {l : List Fc} {id : Int} {i j : Nat} (hi : Lb l id i) (hj : Lb l id j) : i = j := by
 have key : ∀ i j : Nat, Lb l id i → Lb l id j → ¬ i < j := by
  intro i j hi hj hlt
  have h1 : i < l.length := by have := hj.1; omega
  have h2 := (hj.2 i _ (List.getElem?_eq_getElem h1)).1 hlt
  have h3 := (hi.2 i _ (List.getElem?_eq_getElem h1)).2 h2
  omega
 have := key i j hi hj
 have := key j i hj hi
 omega
theorem add_valid {l : List Fc} {x : Fc} {i : Nat} (h : preA l x) (hn : ixF l x.id = none) (hl : l.length ≠ 1024) (hi : Lb l x.id i) : validF (l.take i ++ x :: l.drop i) := by
 obtain ⟨hV, h1, h2⟩ := h
 rw [validF_iff] at hV ⊢
 refine ⟨by have := hV.1; have := hi.1; simp only [List.length_append, List.length_take, List.length_cons, List.length_drop]; omega, fun f hf => ?_, ?_⟩
 ·rcases List.mem_append.1 hf with hf | hf
  ·exact hV.2.1 f (List.mem_of_mem_take hf)
  ·rcases List.mem_cons.1 hf with rfl | hf
   ·exact ⟨h1, h2⟩
   ·exact hV.2.1 f (List.mem_of_mem_drop hf)
 ·have hlow : ∀ f ∈ l.take i, f.id < x.id := by
   intro f hf
   obtain ⟨p, hp⟩ := List.getElem?_of_mem hf
   rw [List.getElem?_take] at hp
   split at hp
   ·rename_i hpi
    exact (hi.2 p f hp).1 hpi
   ·cases hp
  have hhigh : ∀ f ∈ l.drop i, x.id < f.id := by
   intro f hf
   obtain ⟨p, hp⟩ := List.getElem?_of_mem hf
   rw [List.getElem?_drop] at hp
   have h3 : ¬ f.id < x.id := fun hh => by have := (hi.2 _ f hp).2 hh; omega
   have h4 := ix_none hn f (List.mem_of_getElem? hp)
   omega
  rw [List.pairwise_append]
  refine ⟨hV.2.2.sublist (List.take_sublist _ _), List.pairwise_cons.2 ⟨hhigh, hV.2.2.sublist (List.drop_sublist _ _)⟩, fun f hf g hg => ?_⟩
  rcases List.mem_cons.1 hg with rfl | hg
  ·exact hlow f hf
  ·have := hlow f hf
   have := hhigh g hg
   omega
theorem ins_at {l : List Fc} {x : Fc} {i : Nat} (hi : i ≤ l.length) : (l.take i ++ x :: l.drop i)[i]? = some x := by
 rw [List.getElem?_append_right (by rw [List.length_take]; omega), List.length_take, Nat.min_eq_left hi, Nat.sub_self]
 rfl
theorem ins_erase {l : List Fc} {x : Fc} {i : Nat} (hi : i ≤ l.length) : (l.take i ++ x :: l.drop i).eraseIdx i = l := by
 rw [List.eraseIdx_append_of_length_le (by rw [List.length_take]; omega), List.length_take, Nat.min_eq_left hi, Nat.sub_self]
 show l.take i ++ l.drop i = l
 exact List.take_append_drop i l
theorem erase_ins {l : List Fc} {x : Fc} {k : Nat} (hx : l[k]? = some x) : (l.eraseIdx k).take k ++ x :: (l.eraseIdx k).drop k = l := by
 obtain ⟨hlt, e⟩ := List.getElem?_eq_some_iff.1 hx
 rw [List.eraseIdx_eq_take_drop_succ]
 have h1 : (l.take k).length = k := by rw [List.length_take]; omega
 rw [List.take_left' h1, List.drop_left' h1, ← e, List.getElem_cons_drop, List.take_append_drop]
/-- a fact that was added can be taken out again -/
theorem add_back {l : List Fc} {x : Fc} {out : List Fc} (h : AddOk l x (out, 0)) : validF out ∧ (∃ i, ixF out x.id = some i ∧ out.eraseIdx i = l) ∧ x ∈ out ∧ out.length = l.length + 1 ∧ (∀ f ∈ out, f = x ∨ f ∈ l) := by
 rcases h with ⟨_, h⟩ | ⟨hp, ⟨_, h⟩ | ⟨_, _, h⟩ | ⟨hn, hl, _, i, hi, ho⟩⟩
 ·injection h with h1 h2; cases h2
 ·injection h with h1 h2; cases h2
 ·injection h with h1 h2; cases h2
 ·have ho : out = l.take i ++ x :: l.drop i := ho
  subst ho
  have hV := add_valid hp hn hl hi
  refine ⟨hV, ⟨i, ix_at2 hV.asc (ins_at hi.1), ins_erase hi.1⟩, List.mem_append_right _ List.mem_cons_self, by have := hi.1; simp only [List.length_append, List.length_take, List.length_cons, List.length_drop]; omega, fun f hf => ?_⟩
  rcases List.mem_append.1 hf with hf | hf
  ·exact .inr (List.mem_of_mem_take hf)
  ·rcases List.mem_cons.1 hf with rfl | hf
   ·exact .inl rfl
   ·exact .inr (List.mem_of_mem_drop hf)
theorem add_err {l : List Fc} {x : Fc} {out : List Fc} {e : Int} (h : AddOk l x (out, e)) (hp : preA l x) (hl : l.length < 1024) (he : e ≠ 0) : e = 9 := by
 rcases h with ⟨h, _⟩ | ⟨_, ⟨_, h⟩ | ⟨_, h1, _⟩ | ⟨_, _, h, _⟩⟩
 ·exact absurd hp h
 ·injection h
 ·omega
 ·exact absurd h he
/-- a fact that was taken out can be added again -/
theorem back_add {l : List Fc} {x : Fc} {k : Nat} {out : List Fc} {e : Int} (hV : validF l) (hx : l[k]? = some x) (h : AddOk (l.eraseIdx k) x (out, e)) : e = 0 ∧ out = l := by
 have hV2 := validF_sub hV (List.eraseIdx_sublist l k)
 have hfx := ((validF_iff l).1 hV).2.1 x (List.mem_of_getElem? hx)
 have hlt := (List.getElem?_eq_some_iff.1 hx).1
 have hle := hV.1
 have hlen : (l.eraseIdx k).length = l.length - 1 := by rw [List.length_eraseIdx, if_pos hlt]
 have ha := hV.asc
 have hcell : ∀ p (y : Fc), (l.eraseIdx k)[p]? = some y → (p < k → y.id < x.id) ∧ (k ≤ p → x.id < y.id) := by
  intro p y hy
  rw [List.getElem?_eraseIdx] at hy
  split at hy
  ·rename_i hpk
   exact ⟨fun _ => ha p k y x hpk hy hx, fun hh => by omega⟩
  ·rename_i hpk
   exact ⟨fun hh => absurd hh hpk, fun hh => ha k (p + 1) x y (by omega) hx hy⟩
 have hn : ixF (l.eraseIdx k) x.id = none := ix_none_of fun f hf => by
  obtain ⟨p, hp⟩ := List.getElem?_of_mem hf
  have := hcell p f hp
  rcases Nat.lt_or_ge p k with hh | hh
  ·have := this.1 hh; omega
  ·have := this.2 hh; omega
 have hLb : Lb (l.eraseIdx k) x.id k := ⟨by omega, fun p y hy => ⟨(hcell p y hy).1, fun hh => Nat.lt_of_not_le fun hk => by have := (hcell p y hy).2 hk; omega⟩⟩
 rcases h with ⟨h, _⟩ | ⟨_, ⟨⟨i, h⟩, _⟩ | ⟨_, h1, _⟩ | ⟨_, _, h, i, hi, ho⟩⟩
 ·exact absurd ⟨hV2, hfx.1, hfx.2⟩ h
 ·rw [hn] at h; cases h
 ·omega
 ·refine ⟨h, ?_⟩
  have ho : out = _ := ho
  rw [ho, hi.uniq hLb, erase_ins hx]
def Fc.pr (f : Fc) : Int × Int := (f.a, f.b)
/-- facts with the same numbers, whose addresses are mixed -/
def Mix (l m : List Fc) : Prop := m.length = l.length ∧ m.map (·.id) = l.map (·.id) ∧ ∀ p, p ∈ m.map Fc.pr ↔ p ∈ l.map Fc.pr
theorem Mix.refl (l : List Fc) : Mix l l := ⟨rfl, rfl, fun _ => Iff.rfl⟩
def mixA (m : List Fc) (i j : Nat) (x y : Fc) : List Fc := (m.set i ⟨x.id, y.a, x.b⟩).set j ⟨y.id, x.a, y.b⟩
def mixB (m : List Fc) (i j : Nat) (x y : Fc) : List Fc := (m.set i ⟨x.id, y.a, y.b⟩).set j ⟨y.id, x.a, x.b⟩
theorem mixA_len (m : List Fc) (i j : Nat) (x y : Fc) : (mixA m i j x y).length = m.length := by unfold mixA; rw [List.length_set, List.length_set]
theorem mixB_len (m : List Fc) (i j : Nat) (x y : Fc) : (mixB m i j x y).length = m.length := by unfold mixB; rw [List.length_set, List.length_set]
theorem mixA1 {m : List Fc} {i j : Nat} {x y : Fc} (hx : m[i]? = some x) (hy : m[j]? = some y) : (m.set i ⟨x.id, y.a, x.b⟩)[j]? = some y := by
 rw [List.getElem?_set]
 split
 ·rename_i e
  subst e
  rw [hx] at hy
  cases hy
  rw [if_pos (List.getElem?_eq_some_iff.1 hx).1]
 ·exact hy
theorem mixA_i {m : List Fc} {i j : Nat} {x y : Fc} (hx : m[i]? = some x) (hy : m[j]? = some y) : (mixA m i j x y)[i]? = some ⟨x.id, y.a, x.b⟩ := by
 have h1 := (List.getElem?_eq_some_iff.1 hx).1
 unfold mixA
 rw [List.getElem?_set]
 split
 ·rename_i e
  subst e
  rw [hx] at hy
  cases hy
  rw [if_pos (by rw [List.length_set]; exact h1)]
 ·rw [List.getElem?_set, if_pos rfl, if_pos h1]
theorem mixA_j {m : List Fc} {i j : Nat} {x y : Fc} (hx : m[i]? = some x) (hy : m[j]? = some y) : (mixA m i j x y)[j]? = some ⟨y.id, x.a, y.b⟩ := by
 have h2 := (List.getElem?_eq_some_iff.1 hy).1
 unfold mixA
 rw [List.getElem?_set, if_pos rfl, if_pos (by rw [List.length_set]; exact h2)]
theorem mixB1 {m : List Fc} {i j : Nat} {x y : Fc} (hx : m[i]? = some x) (hy : m[j]? = some y) : ((mixA m i j x y).set i ⟨x.id, y.a, y.b⟩)[j]? = some ⟨y.id, x.a, y.b⟩ := by
 rw [List.getElem?_set]
 split
 ·rename_i e
  subst e
  rw [hx] at hy
  cases hy
  rw [if_pos (by rw [mixA_len]; exact (List.getElem?_eq_some_iff.1 hx).1)]
 ·exact mixA_j hx hy
theorem mixB_eq {m : List Fc} {i j : Nat} {x y : Fc} (hx : m[i]? = some x) (hy : m[j]? = some y) : ((mixA m i j x y).set i ⟨x.id, y.a, y.b⟩).set j ⟨y.id, x.a, x.b⟩ = mixB m i j x y := by
 have h1 := (List.getElem?_eq_some_iff.1 hx).1
 have h2 := (List.getElem?_eq_some_iff.1 hy).1
 refine List.ext_getElem? fun k => ?_
 unfold mixA mixB
 simp only [List.getElem?_set, List.length_set]
 by_cases e1 : j = k
 ·simp [e1]
 ·by_cases e2 : i = k
  ·simp [e1, e2]
  ·simp [e1, e2]
theorem mixB_at {m : List Fc} {i j : Nat} {x y : Fc} (hx : m[i]? = some x) (hy : m[j]? = some y) (k : Nat) : (mixB m i j x y)[k]? = if j = k then some ⟨y.id, x.a, x.b⟩ else if i = k then some ⟨x.id, y.a, y.b⟩ else m[k]? := by
 have h1 := (List.getElem?_eq_some_iff.1 hx).1
 have h2 := (List.getElem?_eq_some_iff.1 hy).1
 unfold mixB
 simp only [List.getElem?_set, List.length_set]
 by_cases e1 : j = k
 ·subst e1; simp [h2]
 ·by_cases e2 : i = k
  ·subst e2; simp [e1, h1]
  ·simp [e1, e2]
theorem Mix.step {l m : List Fc} (h : Mix l m) {i j : Nat} {x y : Fc} (hx : m[i]? = some x) (hy : m[j]? = some y) : Mix l (mixB m i j x y) := by
 refine ⟨(mixB_len _ _ _ _ _).trans h.1, ?_, fun p => ?_⟩
 ·rw [← h.2.1]
  refine List.ext_getElem? fun k => ?_
  rw [List.getElem?_map, List.getElem?_map, mixB_at hx hy]
  by_cases e1 : j = k
  ·subst e1; rw [if_pos rfl, hy]; rfl
  ·rw [if_neg e1]
   by_cases e2 : i = k
   ·subst e2; rw [if_pos rfl, hx]; rfl
   ·rw [if_neg e2]
 ·rw [← h.2.2 p]
  constructor
  ·intro hp
   obtain ⟨k, hk⟩ := List.getElem?_of_mem hp
   rw [List.getElem?_map, mixB_at hx hy] at hk
   by_cases e1 : j = k
   ·rw [if_pos e1] at hk
    simp only [Option.map_some, Option.some.injEq] at hk
    exact hk ▸ List.mem_map.2 ⟨x, List.mem_of_getElem? hx, rfl⟩
   ·rw [if_neg e1] at hk
    by_cases e2 : i = k
    ·rw [if_pos e2] at hk
     simp only [Option.map_some, Option.some.injEq] at hk
     exact hk ▸ List.mem_map.2 ⟨y, List.mem_of_getElem? hy, rfl⟩
    ·rw [if_neg e2, ← List.getElem?_map] at hk
     exact List.mem_of_getElem? hk
  ·intro hp
   obtain ⟨f, hf, rfl⟩ := List.mem_map.1 hp
   obtain ⟨k, hk⟩ := List.getElem?_of_mem hf
   by_cases e2 : i = k
   ·subst e2
    rw [hx] at hk
    cases hk
    exact List.mem_map.2 ⟨⟨y.id, x.a, x.b⟩, List.mem_of_getElem? (by rw [mixB_at hx hy j, if_pos rfl]), rfl⟩
   ·by_cases e1 : j = k
    ·subst e1
     rw [hy] at hk
     cases hk
     exact List.mem_map.2 ⟨⟨x.id, y.a, y.b⟩, List.mem_of_getElem? (by rw [mixB_at hx hy i, if_neg (fun e => e2 e.symm), if_pos rfl]), rfl⟩
    ·exact List.mem_map.2 ⟨f, List.mem_of_getElem? (by rw [mixB_at hx hy k, if_neg e1, if_neg e2]; exact hk), rfl⟩
theorem Mix.mem {l m : List Fc} (h : Mix l m) {f : Fc} (hf : f ∈ m) : ∃ g ∈ l, g.a = f.a ∧ g.b = f.b := by
 obtain ⟨g, hg, e⟩ := List.mem_map.1 ((h.2.2 f.pr).1 (List.mem_map.2 ⟨f, hf, rfl⟩))
 have e1 := congrArg Prod.fst e
 have e2 := congrArg Prod.snd e
 exact ⟨g, hg, e1, e2⟩
theorem Mix.symm {l m : List Fc} (h : Mix l m) : Mix m l := ⟨h.1.symm, h.2.1.symm, fun p => (h.2.2 p).symm⟩
theorem Mix.conn {l m : List Fc} (h : Mix l m) {a b : Int} (hc : Conn m a b) : Conn l a b := by
 induction hc with
 | refl a => exact .refl a
 | fact hf =>
  obtain ⟨g, hg, e1, e2⟩ := h.mem hf
  rw [← e1, ← e2]
  exact .fact hg
 | symm _ ih => exact ih.symm
 | trans _ _ ih1 ih2 => exact ih1.trans ih2
theorem Mix.ok {l m : List Fc} (h : Mix l m) (hok : ∀ f ∈ l, f.Ok) : ∀ f ∈ m, f.Ok := fun f hf => by
 obtain ⟨g, hg, e1, e2⟩ := h.mem hf
 have := hok g hg
 unfold Fc.Ok at this ⊢
 rw [← e1, ← e2]
 exact this
theorem Mix.valid {l m : List Fc} (h : Mix l m) (hV : validF l) : validF m := by
 rw [validF_iff] at hV ⊢
 refine ⟨by rw [h.1]; exact hV.1, fun f hf => ⟨?_, ?_⟩, ?_⟩
 ·have : f.id ∈ l.map (·.id) := by rw [← h.2.1]; exact List.mem_map.2 ⟨f, hf, rfl⟩
  obtain ⟨g, hg, e⟩ := List.mem_map.1 this
  have e : g.id = f.id := e
  rw [← e]
  exact (hV.2.1 g hg).1
 ·obtain ⟨g, hg, e1, e2⟩ := h.mem hf
  rw [← e1, ← e2]
  exact (hV.2.1 g hg).2
 ·have h1 : (l.map (·.id)).Pairwise (· < ·) := List.pairwise_map.2 hV.2.2
  rw [← h.2.1] at h1
  exact List.pairwise_map.1 h1
/-- the classes do not depend on which fact has which addresses -/
theorem Mix.classes {l m : List Fc} (h : Mix l m) (hV : validF l) : clsV l = clsV m := by
 rw [show clsV l = clsL l from if_pos hV, show clsV m = clsL m from if_pos (h.valid hV)]
 unfold clsL
 have hA : asc (adrs l) = asc (adrs m) := asc_same fun x => by
  rw [mem_adrs, mem_adrs]
  constructor
  ·rintro ⟨f, hf, hx⟩
   obtain ⟨g, hg, e1, e2⟩ := h.symm.mem hf
   exact ⟨g, hg, by rw [e1, e2]; exact hx⟩
  ·rintro ⟨f, hf, hx⟩
   obtain ⟨g, hg, e1, e2⟩ := h.mem hf
   exact ⟨g, hg, by rw [e1, e2]; exact hx⟩
 rw [hA]
 exact cls_kernel fun x _ y _ => by rw [rep_conn, rep_conn]; exact ⟨h.symm.conn, h.conn⟩
theorem fcs_pos {m : List Fc} {i : Nat} {x : Fc} (hx : m[i]? = some x) : fcs m = fcs (m.take i) ++ x.cells ++ fcs (m.drop (i + 1)) ∧ (fcs (m.take i)).length = i * 3 := by
 obtain ⟨hlt, e⟩ := List.getElem?_eq_some_iff.1 hx
 refine ⟨?_, ins_take m (by omega)⟩
 have h1 : m = m.take i ++ x :: m.drop (i + 1) := by rw [← e, List.getElem_cons_drop, List.take_append_drop]
 have h2 : fcs m = fcs (m.take i ++ x :: m.drop (i + 1)) := by rw [← h1]
 rw [h2, fcs_app, List.append_assoc]
 rfl
theorem fcs_putx {m : List Fc} {i : Nat} {x : Fc} (y : Fc) (hx : m[i]? = some x) : fcs (m.set i y) = fcs (m.take i) ++ y.cells ++ fcs (m.drop (i + 1)) := by
 obtain ⟨hlt, e⟩ := List.getElem?_eq_some_iff.1 hx
 rw [List.set_eq_take_append_cons_drop, if_pos hlt, fcs_app, List.append_assoc]
 rfl
theorem put_mid {P c T v : List Value} {k q : Nat} (hP : P.length = k) (hq : q + v.length ≤ c.length) : (P ++ c ++ T).take (0 + k + q) ++ v ++ (P ++ c ++ T).drop (0 + k + q + v.length) = P ++ (c.take q ++ v ++ c.drop (q + v.length)) ++ T := by
 subst hP
 have h1 : (P ++ c ++ T).take (0 + P.length + q) = P ++ c.take q := by
  rw [List.append_assoc, show 0 + P.length + q = P.length + q by omega, List.take_append, List.take_of_length_le (by omega), Nat.add_sub_cancel_left, List.take_append_of_le_length (by omega)]
 have h2 : (P ++ c ++ T).drop (0 + P.length + q + v.length) = c.drop (q + v.length) ++ T := by
  rw [List.append_assoc, show 0 + P.length + q + v.length = P.length + (q + v.length) by omega, ← List.drop_drop, List.drop_left, List.drop_append_of_le_length hq]
 rw [h1, h2]
 simp only [List.append_assoc]
theorem fcs_seta {m : List Fc} {i : Nat} {x : Fc} (hx : m[i]? = some x) (v : Int) : (fcs m).take (0 + i * 3 + 1) ++ [.int .u32 v] ++ (fcs m).drop (0 + i * 3 + 1 + [Value.int .u32 v].length) = fcs (m.set i ⟨x.id, v, x.b⟩) := by
 obtain ⟨h1, h2⟩ := fcs_pos hx
 rw [h1, fcs_putx _ hx, put_mid h2 (by show 1 + 1 ≤ 3; decide)]
 rfl
theorem fcs_setb {m : List Fc} {i : Nat} {x : Fc} (hx : m[i]? = some x) (v : Int) : (fcs m).take (0 + i * 3 + 2) ++ [.int .u32 v] ++ (fcs m).drop (0 + i * 3 + 2 + [Value.int .u32 v].length) = fcs (m.set i ⟨x.id, x.a, v⟩) := by
 obtain ⟨h1, h2⟩ := fcs_pos hx
 rw [h1, fcs_putx _ hx, put_mid h2 (by show 2 + 1 ≤ 3; decide)]
 rfl
end Go.Proofs.Ytleckflmckbheaa
