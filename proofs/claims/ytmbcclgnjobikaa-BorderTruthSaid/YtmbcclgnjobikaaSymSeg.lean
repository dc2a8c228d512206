/-
  A walk by rules: slices that each have a row of their own: a list of pieces of which one is taken up and put back. No program is imported.
-/
import Derived.Test.YtmbcclgnjobikaaSymSrt
import Derived.Test.YtmbcclgnjobikaaSymPair
namespace Go.Proofs.Ytmbcclgnjobikaa
open Go.RowKit
set_option linter.unusedVariables false
set_option linter.unusedSimpArgs false
theorem Pm.permute {w0 : Base} {w : World} {L L' : List Pc} (h : Pm w0 L w) (hp : L.Perm L') : Pm w0 L' w :=
  ⟨h.bel, fun q hq => h.own q (hp.mem_iff.2 hq), (hp.pairwise_iff (fun {p q} hpq g hg he => hpq g he hg)).1 h.apart, h.oth, h.low⟩
theorem erase_perm {α : Type} {ss : List α} {k : Nat} {s : α} (h : ss[k]? = some s) : ss.Perm (s :: ss.eraseIdx k) := by
  obtain ⟨hlt, rfl⟩ := List.getElem?_eq_some_iff.1 h
  have e : ss = ss.take k ++ ss[k] :: ss.drop (k + 1) := by rw [List.getElem_cons_drop, List.take_append_drop]
  rw [List.eraseIdx_eq_take_drop_succ]
  exact (List.Perm.of_eq e).trans List.perm_middle
theorem set_perm {α : Type} {ss : List α} {k : Nat} (h : k < ss.length) (s : α) : (ss.set k s).Perm (s :: ss.eraseIdx k) := by
  rw [List.set_eq_take_append_cons_drop, if_pos h, List.eraseIdx_eq_take_drop_succ]
  exact List.perm_middle
/-- a slice with a row of its own -/
structure Sg (α : Type) where
  A : Option Addr
  c : Nat
  l : List α
def Sg.val {α : Type} (s : Sg α) : Value := .slice s.A s.l.length s.c
def Sg.nil (α : Type) : Sg α := ⟨none, 0, []⟩
def Sg.pc {α : Type} (e : TypeId) (size : Nat) (enc : List α → List Value) (s : Sg α) : Pc := .row (.slice s.A s.l.length s.c) e size s.l.length (enc s.l)
def segG {α : Type} (e : TypeId) (size : Nat) (enc : List α → List Value) (ss : List (Sg α)) : List Pc := ss.map (Sg.pc e size enc)
section
variable {α : Type} {e : TypeId} {size : Nat} {enc : List α → List Value} {w0 : Base} {w : World} {P : List Pc} {ss : List (Sg α)} {s : Sg α} {k : Nat}
theorem segG_noAbs (ss : List (Sg α)) : noAbs (segG e size enc ss) = true := by
  simp only [noAbs, segG, List.all_map, List.all_eq_true]
  intro s _
  rfl
theorem segG_get (h : ss[k]? = some s) : (segG e size enc ss)[k]? = some (s.pc e size enc) := by
  unfold segG
  rw [List.getElem?_map, h]
  rfl
/-- slice number k is taken up -/
theorem Pm.segOut (h : Pm w0 (P ++ segG e size enc ss) w) (hk : ss[k]? = some s) : Pm w0 ((.row (.slice s.A s.l.length s.c) e size s.l.length (enc s.l) :: P) ++ segG e size enc (ss.eraseIdx k)) w := by
  refine h.permute ?_
  have h1 : (segG e size enc ss).Perm (segG e size enc (s :: ss.eraseIdx k)) := (erase_perm hk).map _
  exact (List.Perm.append_left P h1).trans List.perm_middle
/-- and put back -/
theorem Pm.segIn {s' : Sg α} (h : Pm w0 ((.row (.slice s'.A s'.l.length s'.c) e size s'.l.length (enc s'.l) :: P) ++ segG e size enc (ss.eraseIdx k)) w) (hk : k < ss.length) : Pm w0 (P ++ segG e size enc (ss.set k s')) w := by
  refine h.permute ?_
  have h1 : (segG e size enc (ss.set k s')).Perm (segG e size enc (s' :: ss.eraseIdx k)) := (set_perm hk s').map _
  exact List.perm_middle.symm.trans (List.Perm.append_left P h1.symm)
/-- one more slice, that is nil -/
theorem Pm.segNil (h : Pm w0 (P ++ segG e size enc ss) w) (hn : enc [] = []) : Pm w0 (P ++ segG e size enc (ss ++ [Sg.nil α])) w := by
  refine (h.nilrow e size).permute ?_
  have h1 : segG e size enc (ss ++ [Sg.nil α]) = segG e size enc ss ++ [.row (.slice none 0 0) e size 0 []] := by
    unfold segG
    rw [List.map_append]
    show _ ++ [Pc.row (.slice none 0 0) e size 0 (enc [])] = _
    rw [hn]
  rw [h1, ← List.append_assoc]
  exact (List.perm_append_singleton _ _).symm
theorem Pm.head {w0 : Base} {w : World} {P Q : List Pc} (h : Pm w0 (P ++ Q) w) : Pm w0 P w := h.sel (List.sublist_append_left _ _)
theorem rowA {w0 : Base} {L : List Pc} {A : Option Addr} {n c : Nat} {xs : List Value} {e : TypeId} {size : Nat} (h : Pm w0 L w) (hk : L[k]? = some (.row (.slice A n c) e size n xs)) (hn : 0 < n) : ∃ g, A = some ⟨g, 0, none⟩ := by
  rcases (h.at_ hk).2 with ⟨e1, h2⟩ | ⟨g, cap, cur, a, r⟩
  · cases e1; omega
  · cases a; exact ⟨g, rfl⟩
theorem vals_set (ss : List (Sg α)) (k : Nat) (s : Sg α) (hk : k < ss.length) : (ss.map Sg.val).take k ++ [s.val] ++ (ss.map Sg.val).drop (k + 1) = (ss.set k s).map Sg.val := by
  rw [List.map_set, List.set_eq_take_append_cons_drop, if_pos (by simpa using hk)]
  simp
end
end Go.Proofs.Ytmbcclgnjobikaa
