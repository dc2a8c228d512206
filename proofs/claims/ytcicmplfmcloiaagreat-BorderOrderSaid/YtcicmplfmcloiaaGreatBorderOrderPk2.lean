/-
  Texts of the proof, joined: SymRdA, Bits, SymFld, SymCopy, SymShort, SymSq, SymSq3, FnFacts, Frame, Draw, PtCmp, JrEq, JrSmall, JrCheck, PtRes, PtSort, PtEq, PtCpt, PtOrd, PtTk, PtTrc, PtOf, EpKey, BdCtG, BdCut, BdAddr, BdReg, BdOwn, BdChk, BdEq.
-/
import Derived.Test.YtcicmplfmcloiaaGreatBorderOrderPk1
import Derived.Laws.BitsAllLaws
import Derived.Laws.BitsLemmas
import Derived.Lib.Overlaps
import Derived.Test.YtcicmplfmcloiaaGreatProg
import Derived.Test.YtcicmplfmcloiaaGreatRows
import Derived.Laws.StructEq
import Derived.Laws.Tables
import Derived.Laws.Small
import Derived.Laws.Pointers
import Derived.Laws.Cover2
import Derived.WalkKit
import Derived.KernelRfl
import Derived.Shelf.SortM.Plain
import Derived.Shelf.SortM.SortNone
import Derived.DeepKeys5
set_option linter.unusedVariables false
set_option linter.unusedSimpArgs false
namespace Go.Proofs.YtcicmplfmcloiaaGreat
set_option maxHeartbeats 1000000
open Go.RowKit
def adB (A : Option Addr) : Nat := match A with
  | some a => a.block
  | none => 0
def adO (A : Option Addr) : Nat := match A with
  | some a => a.off
  | none => 0
section
variable {α : Type} {c : α -> List Value} {k : Nat}
theorem Kd.addr {w : World} {B size n : Nat} {A : Option Addr} {xs : List Value} (h : Kd w B size A n xs) (hn : 0 < n) (hs : 0 < size) : A = some ⟨adB A, adO A, none⟩ := by
  obtain ⟨b, o, hA, _, _⟩ := h.ad hn hs;rw [hA]; rfl
theorem Kki (K : Cel c k) {w : World} {B n g o i : Nat} {A : Option Addr} {l : List α} {x : α} (h : Kd w B k A n (Ka c l)) (hA : A = some ⟨g, o, none⟩) (hx : l[i]? = some x) (j : Nat) (u : Value) (hu : (c x)[j]? = some u) : w.cell? ⟨g, o + i * k + j, none⟩ = some u := by
  have hk : 0 < k := by
    have := (List.getElem?_eq_some_iff.1 hu).1;rw [K.len] at this; omega
  have hn : 0 < n := by
    have h1 := h.1;have h2 := (List.getElem?_eq_some_iff.1 hx).1;rw [Kau K] at h1;rcases Nat.eq_zero_or_pos n with h3 | h3
    · subst h3;rw [Nat.zero_mul] at h1;have := Nat.mul_pos (show 0 < l.length by omega) hk;omega
    · exact h3
  obtain ⟨b, o', hA', _, hc⟩ := h.ad hn hk;rw [hA] at hA';cases hA';exact Ka4 K hx hc j u hu
end
section
variable {P : Program} {N : Fr} {E : Env} {o : Oper} {I : World -> Prop}
theorem Kid {t : TypeId} {x : Operand} {i : Nat} {vx v : Value} (ho : o.op = .field t x i) (hx : ev E x = some vx) (hv : ∀ w : World, (Instr.field t vx i).run P w = .ok v w) : Kl P N o E I v := fun a w ha _ => by
  unfold execOp; rw [ho];simp only [ha.eval hx, Sem.run_bind, hv, Result.andThen_ok, Sem.run_pure]
end
section
variable {P : Program}
theorem KhW (w : World) (dT sT ty elem : TypeId) (g off dLen dCap : Nat) (a : Addr) (sLen sCap size : Nat) (cur : Array Value) (t : TypeId) (cs : List Value) (hu : P.underlying dT = some (.slice elem)) (hs : ∀ w : World, (sizeOf elem).run P w = .ok size w)
    (hg : w.heap[g]? = some (.cells cur t (0, 0))) (hn : cs.length = Nat.min sLen dLen * size) (hsrc : ∀ j v, cs[j]? = some v -> w.cell? (a.add j) = some v) (hfit : off + cs.length <= cur.size) (h1 : ∀ v ∈ cs, v.oneCell' = true) :
    (Builtin.copy_ #[dT, sT] ty #[.slice (some ⟨g, off, none⟩) dLen dCap, .slice (some a) sLen sCap]).run P w =
      .ok (goInt (Nat.min sLen dLen)) (w.setRow g (cur.toList.take off ++ cs ++ cur.toList.drop (off + cs.length)).toArray) := by
  have hfo := run_firstCells_some (P := P) w size (Nat.min sLen dLen) a sLen sCap cs hn hsrc;have hst := run_storeCells_at P g off t cs 0 cur w hg (by simpa using hfit) h1;simp only [Nat.add_zero] at hst;have hmin : Nat.min sLen dLen = min sLen dLen := rfl;rw [hmin] at hfo ⊢;simp [Builtin.copy_, run_underlying hu, Builtin.lenOf, hs, hfo, hst]
variable {N : Fr} {Q : Exit -> Act -> World -> Prop} {E : Env} {w0 : Base} {L : List Pc} {ops : Array Oper} {l : List Oper} {o : Oper}
theorem TL.copyRow {d k n c g off dl dc sl sc size : Nat} {s x : Operand} {t u e : TypeId} {ad : Addr} {xs cs xs' : List Value} (hg : o.guard = none) (hd : o.dst = some d) (hN : Nat.blt d N.n = true)
    (ho : o.op = .call { callee := .builtin .copy, args := #[s, x], argTypes := #[t, u] }) (ht : P.underlying t = some (.slice e)) (hz : ∀ w : World, (sizeOf e).run P w = .ok size w) (hs : ev E s = some (.slice (some ⟨g, off, none⟩) dl dc)) (hx : ev E x = some (.slice (some ad) sl sc))
    (hk : L[k]? = some (.row (.slice (some ⟨g, 0, none⟩) n c) e size n xs)) (hsrc : ∀ w, Pm w0 L w -> ∀ j v, cs[j]? = some v -> w.cell? (ad.add j) = some v) {m : Nat} (hm : Nat.min sl dl = m) (hn : cs.length = m * size) (hl : off + cs.length <= xs.length) (h1 : ∀ v ∈ cs, v.oneCell' = true)
    (hL : xs.take off ++ cs ++ xs.drop (off + cs.length) = xs')
    (h : TL P N ops Q l ((d, .int .i64 ((m : Nat) : Int)) :: E) (Pm w0 (L.set k (.row (.slice (some ⟨g, 0, none⟩) n c) e size n xs')))) : TL P N ops Q (o :: l) E (Pm w0 L) := by
  subst hL hm;refine TL.run (α := Unit) (r := fun _ => .int .i64 ((Nat.min sl dl : Nat) : Int)) (I' := fun _ => Pm w0 (L.set k (.row (.slice (some ⟨g, 0, none⟩) n c) e size n (xs.take off ++ cs ++ xs.drop (off + cs.length))))) hg hd hN (fun a w ha hw => ?_) (fun _ => h);obtain ⟨cur, hcur, hfit, hown⟩ := KdR (hw.at_ hk) hl;have hrun := KhW (P := P) w t u o.type e g off dl dc ad sl sc size cur e cs ht hz hcur hn (hsrc w hw) hfit h1;refine ⟨(), _, ?_, hw.turn hk (Kc7 _ _) hown (fun g' hg' => .inl hg') (fun k o e => by cases e)⟩;unfold execOp; rw [ho];simp only [resolve, invoke, builtin, Sem.run_bind, Sem.run_pure, Result.andThen_ok, List.map_toArray, List.map_cons, List.map_nil, ha.eval hs, ha.eval hx, hrun]
  rfl
def KaA {α : Type} (xs : List α) (k : Nat) : List α := xs.take (k + 1) ++ (xs.drop k).take (xs.length - (k + 1))
theorem KkB {α : Type} (xs : List α) (k : Nat) (hk : k < xs.length) : (KaA xs k).length = xs.length := by
  simp only [KaA, List.length_append, List.length_take, List.length_drop]; omega
theorem Khq {α : Type} (o : List α) (y x : α) (k : Nat) (hk : k <= o.length) : (KaA (o ++ [y]) k).set k x = o.take k ++ x :: o.drop k := by
  unfold KaA
  have e1 : (o ++ [y]).take (k + 1) = o.take k ++ [((o ++ [y])[k]?).getD y] := by
    rw [List.take_add_one, List.take_append_of_le_length hk];have : k < (o ++ [y]).length := by simp; omega
    rw [List.getElem?_eq_getElem this]
    rfl
  have e2 : ((o ++ [y]).drop k).take ((o ++ [y]).length - (k + 1)) = o.drop k := by
    rw [List.drop_append_of_le_length hk, List.length_append, List.length_singleton, Nat.add_sub_add_right, List.take_append_of_le_length (by simp), List.take_of_length_le (by simp)]
  have e3 : (o.take k).length = k := by rw [List.length_take]; omega
  rw [e1, e2, List.append_assoc, List.set_append_right _ _ (by omega), e3, Nat.sub_self]
  rfl
theorem KfU (n k : Nat) : Nat.min (n - k) (n - (k + 1)) = n - (k + 1) := Nat.min_eq_right (by omega)
theorem TL.shiftF {α : Type} {cc : α -> List Value} {size : Nat} (K : Cel cc size) {d kk k n c g : Nat} {s x : Operand} {t u e : TypeId} {xs : List α} (hg : o.guard = none) (hd : o.dst = some d) (hN : Nat.blt d N.n = true)
    (ho : o.op = .call { callee := .builtin .copy, args := #[s, x], argTypes := #[t, u] }) (ht : P.underlying t = some (.slice e)) (hz : ∀ w : World, (sizeOf e).run P w = .ok size w)
    (hs : ev E s = some (.slice (if c = k + 1 then some ⟨g, 0, none⟩ else (some (⟨g, 0, none⟩ : Addr)).map (·.add ((k + 1) * size))) (n - (k + 1)) (c - (k + 1)))) (hx : ev E x = some (.slice (some ⟨g, k * size, none⟩) (n - k) (c - k)))
    (hk : L[kk]? = some (.row (.slice (some ⟨g, 0, none⟩) n c) e size n (Ka cc xs))) (hn : xs.length = n) (hq : k < n) (hc : n <= c)
    (h : TL P N ops Q l ((d, .int .i64 ((n - (k + 1) : Nat) : Int)) :: E) (Pm w0 (L.set kk (.row (.slice (some ⟨g, 0, none⟩) n c) e size n (Ka cc (KaA xs k)))))) : TL P N ops Q (o :: l) E (Pm w0 L) := by
  subst hn;have hcs : (Ka cc ((xs.drop k).take (xs.length - (k + 1)))).length = (xs.length - (k + 1)) * size := by rw [Kau K, List.length_take, List.length_drop, Nat.min_eq_left (by omega)]
  have hlen : (Ka cc xs).length = xs.length * size := Kau K xs;have hsz : (k + 1) * size <= xs.length * size := Nat.mul_le_mul_right _ (by omega);have hsum : (k + 1) * size + (xs.length - (k + 1)) * size = xs.length * size := by rw [<- Nat.add_mul]; congr 1; omega
  have hsrc : ∀ w, Pm w0 L w -> ∀ j v, (Ka cc ((xs.drop k).take (xs.length - (k + 1))))[j]? = some v -> w.cell? ((⟨g, k * size, none⟩ : Addr).add j) = some v := fun w hw j v hj => by
    have e1 : (⟨g, k * size, none⟩ : Addr).add j = ⟨g, k * size + j, none⟩ := by unfold Addr.add; split <;> simp_all
    rw [e1];have hjl := (List.getElem?_eq_some_iff.1 hj).1;rw [hcs] at hjl;refine Kd7 hw hk ?_;rw [<- KcC K, List.getElem?_take_of_lt hjl, <- Kfk K, List.getElem?_drop] at hj;exact hj
  by_cases e : c = k + 1
  · have hnk : xs.length = k + 1 := by omega
    rw [if_pos e] at hs;refine TL.copyRow (cs := Ka cc ((xs.drop k).take (xs.length - (k + 1)))) (m := xs.length - (k + 1)) hg hd hN ho ht hz hs hx hk hsrc (KfU _ _) hcs (by rw [hcs, hlen]; omega) (KB K _) (xs' := Ka cc (KaA xs k)) ?_ h;have e0 : xs.length - (k + 1) = 0 := by omega
    have e2 : KaA xs k = xs := by unfold KaA; rw [e0, List.take_zero, List.append_nil, List.take_of_length_le (by omega)]
    rw [e2, e0, List.take_zero];simp [Ka]
  · rw [if_neg e] at hs
    have e1 : (some (⟨g, 0, none⟩ : Addr)).map (·.add ((k + 1) * size)) = some ⟨g, (k + 1) * size, none⟩ := by
      show some ((⟨g, 0, none⟩ : Addr).add ((k + 1) * size)) = _
      congr 1
      unfold Addr.add; split <;> simp_all
    rw [e1] at hs;refine TL.copyRow (cs := Ka cc ((xs.drop k).take (xs.length - (k + 1)))) (m := xs.length - (k + 1)) hg hd hN ho ht hz hs hx hk hsrc (KfU _ _) hcs (by rw [hcs, hlen]; omega) (KB K _) (xs' := Ka cc (KaA xs k)) ?_ h;have e3 : (Ka cc xs).drop ((k + 1) * size + (Ka cc ((xs.drop k).take (xs.length - (k + 1)))).length) = [] := List.drop_of_length_le (by rw [hcs, hsum, hlen]; exact Nat.le_refl _);rw [e3, List.append_nil, KcC K, <- KF]
    rfl
end
abbrev Tt : Bool := true
abbrev Ff : Bool := false
section
variable {P : Program} {N : Fr} {Q : Exit -> Act -> World -> Prop} {E : Env} {ops : Array Oper} {l : List Oper} {o : Oper} {I : World -> Prop}
theorem TL.mv {x : Operand} {d : Nat} {v : Value} (h : TL P N ops Q l ((d, v) :: E) I) (hg : o.guard = none := by rfl) (hd : o.dst = some d := by rfl) (hN : Nat.blt d N.n = true := by rfl) (ho : o.op = .move x := by rfl) (hx : ev E x = some v := by rfl) : TL P N ops Q (o :: l) E I := TL.val hg hd hN (Kk ho hx) h
theorem TL.as_ {x : Operand} {d : Nat} {v : Value} (h : TL P N ops Q l ((d, v) :: E) I) (hg : o.guard = none := by rfl) (hd : o.dst = some d := by rfl) (hN : Nat.blt d N.n = true := by rfl) (ho : o.op = .assign x := by rfl) (hx : ev E x = some v := by rfl) : TL P N ops Q (o :: l) E I := TL.val hg hd hN (KaD ho hx) h
theorem TL.pk {c x y : Operand} {b : Bool} {d : Nat} {v : Value} (h : TL P N ops Q l ((d, v) :: E) I) (hg : o.guard = none := by rfl) (hd : o.dst = some d := by rfl) (hN : Nat.blt d N.n = true := by rfl) (ho : o.op = .pick c x y := by rfl) (hc : ev E c = some (.bool b) := by rfl) (hx : (if b then ev E x else ev E y) = some v := by rfl) : TL P N ops Q (o :: l) E I := TL.val hg hd hN (KcP ho hc hx) h
theorem TL.ex {x : Operand} {i : Nat} {vs : Array Value} {d : Nat} {v : Value} (h : TL P N ops Q l ((d, v) :: E) I) (hg : o.guard = none := by rfl) (hd : o.dst = some d := by rfl) (hN : Nat.blt d N.n = true := by rfl) (ho : o.op = .extract x i := by rfl) (hx : ev E x = some (.tuple vs) := by rfl) (hv : vs[i]? = some v := by rfl) : TL P N ops Q (o :: l) E I := TL.val hg hd hN (Kbb ho hx hv) h
theorem TL.gu {j d : Nat} {b : Bool} (h : TL P N ops Q ({ o with guard := none } :: l) E I) (hg : o.guard = some (j, b) := by rfl) (hd : (ops[j]?).bind (·.dst) = some d := by rfl) (hE : look E d = some (.bool b) := by rfl) : TL P N ops Q (o :: l) E I := TL.on hg hd hE h
theorem TL.of {j d t : Nat} {b b' : Bool} (h : TL P N ops Q l ((t, undef) :: E) I) (hg : o.guard = some (j, b') := by rfl) (hd : (ops[j]?).bind (·.dst) = some d := by rfl) (hE : look E d = some (.bool b) := by rfl) (hne : (b == b') = false := by rfl) (ht : o.dst = some t := by rfl) (hN : Nat.blt t N.n = true := by rfl) : TL P N ops Q (o :: l) E I := TL.off hg hd hE hne ht hN h
end
section
variable {P : Program} {N : Fr} {ops : Array Oper} {S I : World -> Prop} {Q : Exit -> Act -> World -> Prop} {f : Nat} {listed : Array Bool} {E : Env}
theorem TH.tk {o : Oper} {d : Nat} {v : Value} {listed' : Array Bool} (i : Nat) (hi : ops[i]? = some o) (hg : o.guard = none) (hd : o.dst = some d) (hv : Kl P N o E S v) (hS : ∀ w, I w -> S w) (h : TH P N ops S Q f listed' ((d, v) :: E) I)
    (hs : Region.noSelect ops = true := by kernel_rfl) (hf : Region.free .any ops listed i = true := by kernel_rfl) (hr : (Region.ready .any ops listed).contains i = true := by kernel_rfl) (hl : listed.setIfInBounds i true = listed' := by rfl) (hN : Nat.blt d N.n = true := by rfl) : TH P N ops S Q (f + 1) listed E I := TH.take i hi hs hf hr hl hg hd hN hv hS h
end
set_option linter.unusedVariables false
def KcR (N : Fr) (E : Env) (o : Oper) : Option Env :=
  match o.dst with
  | none => none
  | some d => match Nat.blt d N.n with
    | false => none
    | true => match o.op with
      | .move x => match ev E x with
        | some v => some ((d, v) :: E)
        | none => none
      | .assign x => match ev E x with
        | some v => some ((d, v) :: E)
        | none => none
      | .pick c x y => match ev E c with
        | some (.bool true) => match ev E x with
          | some v => some ((d, v) :: E)
          | none => none
        | some (.bool false) => match ev E y with
          | some v => some ((d, v) :: E)
          | none => none
        | _ => none
      | .extract x i => match ev E x with
        | some (.tuple vs) => match vs[i]? with
          | some v => some ((d, v) :: E)
          | none => none
        | _ => none
      | .unOp .not _ x => match ev E x with
        | some (.bool true) => some ((d, .bool false) :: E)
        | some (.bool false) => some ((d, .bool true) :: E)
        | _ => none
      | _ => none
def Ke2 (N : Fr) (ops : Array Oper) (E : Env) (o : Oper) : Option Env :=
  match o.guard with
  | none => KcR N E o
  | some (j, true) => match (ops[j]?).bind (·.dst) with
    | none => none
    | some d => match look E d with
      | some (.bool true) => KcR N E { o with guard := none }
      | some (.bool false) => match o.dst with
        | some t => match Nat.blt t N.n with
          | true => some ((t, undef) :: E)
          | false => none
        | none => none
      | _ => none
  | some (j, false) => match (ops[j]?).bind (·.dst) with
    | none => none
    | some d => match look E d with
      | some (.bool false) => KcR N E { o with guard := none }
      | some (.bool true) => match o.dst with
        | some t => match Nat.blt t N.n with
          | true => some ((t, undef) :: E)
          | false => none
        | none => none
      | _ => none
def Kc4 (N : Fr) (ops : Array Oper) : Nat -> Env -> List Oper -> Option (Env × List Oper)
  | 0, E, l => some (E, l)
  | _ + 1, _, [] => none
  | n + 1, E, o :: l => match Ke2 N ops E o with
    | some E' => Kc4 N ops n E' l
    | none => none
section
variable {P : Program} {N : Fr} {Q : Exit -> Act -> World -> Prop} {E E' : Env} {ops : Array Oper} {l l' : List Oper} {o : Oper} {I : World -> Prop}
theorem KeE (h : KcR N E o = some E') : ∃ d v, E' = (d, v) :: E /\ o.dst = some d /\ Nat.blt d N.n = true /\ ∀ (P : Program) (I : World -> Prop), Kl P N o E I v := by
  unfold KcR at h;split at h
  · cases h
  · rename_i d hd;split at h
    · cases h
    · rename_i hN;split at h
      · rename_i x ho;split at h
        · rename_i v hv; cases h; exact ⟨d, v, rfl, hd, hN, fun P I => Kk ho hv⟩
        · cases h
      · rename_i x ho;split at h
        · rename_i v hv; cases h; exact ⟨d, v, rfl, hd, hN, fun P I => KaD ho hv⟩
        · cases h
      · rename_i c x y ho;split at h
        · rename_i hc;split at h
          · rename_i v hv; cases h; exact ⟨d, v, rfl, hd, hN, fun P I => KcP ho hc hv⟩
          · cases h
        · rename_i hc;split at h
          · rename_i v hv; cases h; exact ⟨d, v, rfl, hd, hN, fun P I => KcP ho hc hv⟩
          · cases h
        · cases h
      · rename_i x i ho;split at h
        · rename_i vs hx;split at h
          · rename_i v hv; cases h; exact ⟨d, v, rfl, hd, hN, fun P I => Kbb ho hx hv⟩
          · cases h
        · cases h
      · rename_i x ho;split at h
        · rename_i hx; cases h; exact ⟨d, _, rfl, hd, hN, fun P I => KaZ ho hx⟩
        · rename_i hx; cases h; exact ⟨d, _, rfl, hd, hN, fun P I => KaZ ho hx⟩
        · cases h
      · cases h
theorem Khi (h : Ke2 N ops E o = some E') : (∃ d v, E' = (d, v) :: E /\ o.guard = none /\ o.dst = some d /\ Nat.blt d N.n = true /\ ∀ (P : Program) (I : World -> Prop), Kl P N o E I v) \/
    (∃ j d b, o.guard = some (j, b) /\ (ops[j]?).bind (·.dst) = some d /\ look E d = some (.bool b) /\ ∃ d v, E' = (d, v) :: E /\ o.dst = some d /\ Nat.blt d N.n = true /\ ∀ (P : Program) (I : World -> Prop), Kl P N { o with guard := none } E I v) \/
    ∃ j d t b b', o.guard = some (j, b') /\ (ops[j]?).bind (·.dst) = some d /\ look E d = some (.bool b) /\ (b == b') = false /\ o.dst = some t /\ Nat.blt t N.n = true /\ E' = (t, undef) :: E := by
  unfold Ke2 at h;split at h
  · rename_i hg;obtain ⟨d, v, h1, h2, h3, h4⟩ := KeE h;exact .inl ⟨d, v, h1, hg, h2, h3, h4⟩
  · rename_i j hg;split at h
    · cases h
    · rename_i d hd;split at h
      · rename_i hE;exact .inr (.inl ⟨j, d, true, hg, hd, hE, KeE h⟩)
      · rename_i hE;split at h
        · rename_i t ht;split at h
          · rename_i hN; cases h; exact .inr (.inr ⟨j, d, t, false, true, hg, hd, hE, rfl, ht, hN, rfl⟩)
          · cases h
        · cases h
      · cases h
  · rename_i j hg;split at h
    · cases h
    · rename_i d hd;split at h
      · rename_i hE;exact .inr (.inl ⟨j, d, false, hg, hd, hE, KeE h⟩)
      · rename_i hE;split at h
        · rename_i t ht;split at h
          · rename_i hN; cases h; exact .inr (.inr ⟨j, d, t, true, false, hg, hd, hE, rfl, ht, hN, rfl⟩)
          · cases h
        · cases h
      · cases h
theorem TL.rn : ∀ (n : Nat) {E E' : Env} {l l' : List Oper} (_ : Kc4 N ops n E l = some (E', l')) (_ : TL P N ops Q l' E' I), TL P N ops Q l E I
  | 0, E, E', l, l', hr, h => by cases hr; exact h
  | n + 1, E, E', [], l', hr, h => by cases hr
  | n + 1, E, E', o :: l, l', hr, h => by
    unfold Kc4 at hr;split at hr
    · rename_i E1 h1;have h2 := TL.rn n hr h;rcases Khi h1 with ⟨d, v, rfl, hg, hd, hN, hv⟩ | ⟨j, d, b, hg, hd, hE, d', v, rfl, hd', hN, hv⟩ | ⟨j, d, t, b, b', hg, hd, hE, hne, ht, hN, rfl⟩
      · exact TL.val hg hd hN (hv P I) h2
      · exact TL.on hg hd hE (TL.val rfl hd' hN (hv P I) h2)
      · exact TL.off hg hd hE hne ht hN h2
    · cases hr
theorem TQ.rn {R : Act -> Prop} : ∀ (n : Nat) {E E' : Env} {l l' : List Oper} (_ : Kc4 N ops n E l = some (E', l')) (_ : TQ P N ops R l' E' I), TQ P N ops R l E I
  | 0, E, E', l, l', hr, h => by cases hr; exact h
  | n + 1, E, E', [], l', hr, h => by cases hr
  | n + 1, E, E', o :: l, l', hr, h => by
    unfold Kc4 at hr;split at hr
    · rename_i E1 h1;have h2 := TQ.rn n hr h;rcases Khi h1 with ⟨d, v, rfl, hg, hd, hN, hv⟩ | ⟨j, d, b, hg, hd, hE, d', v, rfl, hd', hN, hv⟩ | ⟨j, d, t, b, b', hg, hd, hE, hne, ht, hN, rfl⟩
      · exact TQ.val hg hd hN (hv P I) h2
      · exact TQ.on hg hd hE (TQ.val rfl hd' hN (hv P I) h2)
      · exact TQ.off hg hd hE hne ht hN h2
    · cases hr
end
abbrev FA (P : Program) (t : TypeId) (i k : Nat) : Prop := ∀ (g off : Nat) (w : World), (Instr.fieldAt t (.pointer (some ⟨g, off, none⟩)) i).run P w = .ok (.pointer (some ⟨g, off + k, none⟩)) w
section
variable {P : Program} {N : Fr} {Q : Exit -> Act -> World -> Prop} {E E' : Env} {ops : Array Oper} {l l' : List Oper} {o : Oper} {I : World -> Prop}
variable {x y : Code} {c : Operand} {id i : Nat}
theorem zE (h : TX N Q .normal E I) : TL P N ops Q [] E I := TL.end_ h
theorem zT (h : TC P N Q y E I) : TX N (Exit.then (y.wp P Q) Q) .normal E I := TX.then_ h
theorem zET (h : TC P N Q y E I) : TL P N ops (Exit.then (y.wp P Q) Q) [] E I := TL.end_ (TX.then_ h)
theorem zS (h : TC P N (Exit.then (y.wp P Q) Q) x E I) : TC P N Q (.seq x y) E I := TC.seq_ h
theorem zG (h : TL P N l.toArray Q l E I) : TC P N Q (.region id l.toArray false) E I := TC.region h
theorem zSG (h : TL P N l.toArray (Exit.then (y.wp P Q) Q) l E I) : TC P N Q (.seq (.region id l.toArray false) y) E I := TC.seq_ (TC.region h)
theorem zc (h : TC P N Q x E I) (hc : ev E c = some (.bool true) := by rfl) : TC P N Q (.cond c x y) E I := TC.condT hc h
theorem zd (h : TC P N Q y E I) (hc : ev E c = some (.bool false) := by rfl) : TC P N Q (.cond c x y) E I := TC.condF hc h
theorem zR {J : Act -> World -> Prop} (h : TX N Q .ret E I) : TX N (Exit.then J Q) .ret E I := TX.then_ret h
theorem zRR {J : Act -> World -> Prop} (h : TX N Q .ret E I) : TX N (Exit.inBlock id (Exit.then J Q)) .ret E I := TX.in_ret (TX.then_ret h)
theorem zX {J : Act -> World -> Prop} (h : TX N Q (.exit i) E I) : TX N (Exit.then J Q) (.exit i) E I := TX.then_exit h
theorem zN (h : TX N Q .normal E I) : TX N (Exit.inBlock id Q) .normal E I := TX.in_normal h
theorem zr (h : TX N Q .ret E I) : TC P N Q .ret E I := TC.ret_ h
theorem zk (h : TX N Q .normal E I) : TC P N Q .skip E I := TC.skip_ h
theorem zB {x : Code} (h : TC P N (Exit.inBlock id Q) x E I) : TC P N Q (.block id x) E I := TC.block h
theorem zO (h : TX N Q (.exit i) E I) (hne : Nat.beq i id = false := by rfl) : TX N (Exit.inBlock id Q) (.exit i) E I := TX.in_other hne h
theorem zM (h : TX N Q .normal E I) : TX N (Exit.inBlock id Q) (.exit id) E I := TX.in_same h
theorem zx (h : TX N Q (.exit id) E I) : TC P N Q (.exit id) E I := TC.exit_ h
theorem gF {t : TypeId} {x : Operand} {i g off k : Nat} (hv : ∀ (g off : Nat) (w : World), (Instr.fieldAt t (.pointer (some ⟨g, off, none⟩)) i).run P w = .ok (.pointer (some ⟨g, off + k, none⟩)) w) (ho : o.op = .fieldAddr t x i := by rfl) (hx : ev E x = some (.pointer (some ⟨g, off, none⟩)) := by rfl) : Kl P N o E I (.pointer (some ⟨g, off + k, none⟩)) := Klg ho hx fun w => hv g off w
theorem gL {w0 : Base} {L : List Pc} {t te : TypeId} {x : Operand} {g i : Nat} (k : Nat) {v : Value} {cs : List Value} (hag : ∀ w : World, (isAgg t).run P w = .ok false w) (ho : o.op = .load t x := by rfl) (hx : ev E x = some (.pointer (some ⟨g, i, none⟩)) := by rfl) (hk : L[k]? = some (.blk g te cs) := by rfl) (hi : cs[i]? = some v := by rfl) : Kl P N o E (Pm w0 L) v := Kce ho hx hag hk hi
theorem gV {w0 : Base} {L : List Pc} {t te : TypeId} {x : Operand} {g i n : Nat} (k : Nat) (v : Value) {cs : List Value} (hag : ∀ w : World, (isAgg t).run P w = .ok true w) (hs : ∀ w : World, (sizeOf t).run P w = .ok n w) (ho : o.op = .load t x := by rfl) (hx : ev E x = some (.pointer (some ⟨g, i, none⟩)) := by rfl) (hk : L[k]? = some (.blk g te cs) := by rfl) (hi : Nat.ble (i + n) cs.length = true := by rfl) (hv : .agg ((cs.drop i).take n).toArray = v := by rfl) : Kl P N o E (Pm w0 L) v := hv ▸ KjN ho hx hag hs hk (Nat.le_of_ble_eq_true hi)
theorem gN {s : Operand} {t e : TypeId} {A : Option Addr} {n c : Nat} (ht : P.underlying t = some (.slice e)) (ho : o.op = .call { callee := .builtin .len, args := #[s], argTypes := #[t] } := by rfl) (hs : ev E s = some (.slice A n c) := by rfl) : Kl P N o E I (.int .i64 (n : Int)) := KkJ ho ht hs
theorem gA {t e : TypeId} {x ix : Operand} {size : Nat} {A : Option Addr} {b off n c i : Nat} {z : Int} (ht : P.underlying t = some (.slice e)) (hs : ∀ w : World, (sizeOf e).run P w = .ok size w) (ho : o.op = .indexAddr t x ix) (hx : ev E x = some (.slice A n c)) (hi : ev E ix = some (.int .i64 z)) (hz : z = (i : Int)) (hA : A = some ⟨b, off, none⟩) (hlt : i < n) : Kl P N o E I (.pointer (some ⟨b, off + i * size, none⟩)) := KV ho hx hi fun w => Kec ht hs hA n c i hlt hz w
section
variable {α : Type} {c : α -> List Value} {k : Nat} {l' : List α} {xx : α} {w0 : Base} {L : List Pc} {t : TypeId} {x : Operand} {b off i : Nat}
theorem gR (K : Cel c k) (hag : ∀ w : World, (isAgg t).run P w = .ok true w) (hs : ∀ w : World, (sizeOf t).run P w = .ok k w) (hb : b < w0.b) (hx : l'[i]? = some xx) (hc : ∀ (j : Nat) (u : Value), (Ka c l')[j]? = some u -> w0.w.cell? ⟨b, off + j, none⟩ = some u) (ho : o.op = .load t x := by rfl) (hE : ev E x = some (.pointer (some ⟨b, off + i * k, none⟩)) := by rfl) : Kl P N o E (Pm w0 L) (.agg (c xx).toArray) :=
  KH ho hE hag hs (K.len xx) fun w1 hw j u h => (hw.bel.cell hb).trans (Ka4 K hx hc j u h)
theorem gS (q : Nat) {v : Value} (K : Cel c k) (hag : ∀ w : World, (isAgg t).run P w = .ok false w) (hb : b < w0.b) (hx : l'[i]? = some xx) (hc : ∀ (j : Nat) (u : Value), (Ka c l')[j]? = some u -> w0.w.cell? ⟨b, off + j, none⟩ = some u) (ho : o.op = .load t x := by rfl) (hE : ev E x = some (.pointer (some ⟨b, off + i * k + q, none⟩)) := by rfl) (hq : (c xx)[q]? = some v := by rfl) : Kl P N o E (Pm w0 L) v :=
  KK ho hE hag fun w1 hw => (hw.bel.cell hb).trans (Ka4 K hx hc q v hq)
theorem Ko {l : List α} {i : Nat} (h : i < l.length) : ∃ x, l[i]? = some x := ⟨_, List.getElem?_eq_getElem h⟩
end
theorem TL.v {d : Nat} {v : Value} (hv : Kl P N o E I v) (h : TL P N ops Q l ((d, v) :: E) I) (hg : o.guard = none := by rfl) (hd : o.dst = some d := by rfl) (hN : Nat.blt d N.n = true := by rfl) : TL P N ops Q (o :: l) E I := TL.val hg hd hN hv h
theorem TQ.v {R : Act -> Prop} {d : Nat} {v : Value} (hv : Kl P N o E I v) (h : TQ P N ops R l ((d, v) :: E) I) (hg : o.guard = none := by rfl) (hd : o.dst = some d := by rfl) (hN : Nat.blt d N.n = true := by rfl) : TQ P N ops R (o :: l) E I := TQ.val hg hd hN hv h
theorem TS.v {R : Act -> World -> Prop} {d : Nat} {v : Value} (hv : Kl P N o E I v) (h : TS P N ops R l ((d, v) :: E) I) (hg : o.guard = none := by rfl) (hd : o.dst = some d := by rfl) (hN : Nat.blt d N.n = true := by rfl) : TS P N ops R (o :: l) E I := TS.val hg hd hN hv h
theorem TL.ov {j d d' : Nat} {b : Bool} {v : Value} (hv : Kl P N { o with guard := none } E I v) (h : TL P N ops Q l ((d, v) :: E) I) (hg : o.guard = some (j, b) := by rfl) (hj : (ops[j]?).bind (·.dst) = some d' := by rfl) (hE : look E d' = some (.bool b) := by rfl) (hd : o.dst = some d := by rfl) (hN : Nat.blt d N.n = true := by rfl) : TL P N ops Q (o :: l) E I := TL.on hg hj hE (TL.val rfl hd hN hv h)
theorem TQ.ov {R : Act -> Prop} {j d d' : Nat} {b : Bool} {v : Value} (hv : Kl P N { o with guard := none } E I v) (h : TQ P N ops R l ((d, v) :: E) I) (hg : o.guard = some (j, b) := by rfl) (hj : (ops[j]?).bind (·.dst) = some d' := by rfl) (hE : look E d' = some (.bool b) := by rfl) (hd : o.dst = some d := by rfl) (hN : Nat.blt d N.n = true := by rfl) : TQ P N ops R (o :: l) E I := TQ.on hg hj hE (TQ.val rfl hd hN hv h)
theorem TL.sp {p : Prop} {dp : Decidable p} {op : BinOp} {xt yt : TypeId} {x y : Operand} {k k' : IntKind} {m n : Int} {d : Nat} (hv : ∀ w : World, (binOp op xt (.int k m) (.int k' n)).run P w = .ok (.bool (decide p)) w) (ht : p -> TL P N ops Q l ((d, .bool true) :: E) I) (hf : ¬ p -> TL P N ops Q l ((d, .bool false) :: E) I)
    (hg : o.guard = none := by rfl) (hd : o.dst = some d := by rfl) (hN : Nat.blt d N.n = true := by rfl) (ho : o.op = .binOp op xt x y yt := by rfl) (hx : ev E x = some (.int k m) := by rfl) (hy : ev E y = some (.int k' n) := by rfl) : TL P N ops Q (o :: l) E I := TL.vsplit hg hd hN (Kn ho hx hy hv) (fun h => ht (of_decide_eq_true h)) fun h => hf (of_decide_eq_false h)
theorem TQ.sp {R : Act -> Prop} {p : Prop} {dp : Decidable p} {op : BinOp} {xt yt : TypeId} {x y : Operand} {k k' : IntKind} {m n : Int} {d : Nat} (hv : ∀ w : World, (binOp op xt (.int k m) (.int k' n)).run P w = .ok (.bool (decide p)) w) (ht : p -> TQ P N ops R l ((d, .bool true) :: E) I) (hf : ¬ p -> TQ P N ops R l ((d, .bool false) :: E) I)
    (hg : o.guard = none := by rfl) (hd : o.dst = some d := by rfl) (hN : Nat.blt d N.n = true := by rfl) (ho : o.op = .binOp op xt x y yt := by rfl) (hx : ev E x = some (.int k m) := by rfl) (hy : ev E y = some (.int k' n) := by rfl) : TQ P N ops R (o :: l) E I := TQ.vsplit hg hd hN (Kn ho hx hy hv) (fun h => ht (of_decide_eq_true h)) fun h => hf (of_decide_eq_false h)
theorem gD {xt yt : TypeId} {x y : Operand} {k : IntKind} {m n : Int} (r : Int) (ho : o.op = .binOp .add xt x y yt := by rfl) (hx : ev E x = some (.int k m) := by rfl) (hy : ev E y = some (.int k n) := by rfl) (h : k.wrap (m + n) = r := by simp only [IntKind.wrap_i64]; omega) : Kl P N o E I (.int k r) := Kn ho hx hy fun w => Kcz h w
end
section
variable {P : Program} {N : Fr} {ops : Array Oper} {S I : World -> Prop} {Q : Exit -> Act -> World -> Prop} {f : Nat} {listed : Array Bool} {E : Env}
theorem TX.he (hS : ∀ w, I w -> S w) (h : (∀ w, I w -> S w) -> TH P N ops S Q f listed E I) : TX N (Exit.then (Hd P ops S Q f listed) (NoPanic Q)) .normal E I := TX.held hS (h hS)
theorem TH.t {o : Oper} {d : Nat} {v : Value} {listed' : Array Bool} (i : Nat) (hi : ops[i]? = some o) (hv : Kl P N o E S v) (hS : ∀ w, I w -> S w) (h : TH P N ops S Q f listed' ((d, v) :: E) I) (hg : o.guard = none := by rfl) (hd : o.dst = some d := by rfl)
    (hs : Region.noSelect ops = true := by kernel_rfl) (hf : Region.free .any ops listed i = true := by kernel_rfl) (hr : (Region.ready .any ops listed).contains i = true := by kernel_rfl) (hl : listed.setIfInBounds i true = listed' := by rfl) (hN : Nat.blt d N.n = true := by rfl) : TH P N ops S Q (f + 1) listed E I := TH.take i hi hs hf hr hl hg hd hN hv hS h
end
def Kh (P : Program) (f : FuncId) : Prop := ∃ fn, P.funcs[f]? = some fn /\ (fn.name == "runtime.NumGoroutine") = false /\ fn.body.isNone = false
def Kbt (N : Fr) (E : Env) (o : Oper) : Option (Nat × FuncId × List Value) :=
  match o.guard with
  | some _ => none
  | none => match o.dst with
    | none => none
    | some d => match Nat.blt d N.n with
      | false => none
      | true => match o.op with
        | .call c => match c.callee with
          | .value (.func f) => match evs E c.args.toList with
            | some vs => some (d, f, vs)
            | none => none
          | _ => none
        | _ => none
def Kcs (N : Fr) (o : Oper) : Option Nat :=
  match o.guard with
  | some _ => none
  | none => match o.dst with
    | none => none
    | some d => match Nat.blt d N.n with
      | true => some d
      | false => none
def fA (n : Nat) : Array Bool := Array.replicate n false
theorem lC {α : Type} {a : α} {u v : List α} : a :: u ++ v = a :: (u ++ v) := rfl
theorem lN {α : Type} {u : List α} : [] ++ u = u := rfl
section
variable {P : Program} {N : Fr} {Q : Exit -> Act -> World -> Prop} {E E' : Env} {ops : Array Oper} {l : List Oper} {o : Oper} {I : World -> Prop} {w0 : Base} {L : List Pc} {R : Act -> Prop} {d : Nat} {f : FuncId} {vs : List Value}
def Kfc : List Nat -> Env -> Option Env
  | [], _ => some []
  | t :: ts, E => match look E t, Kfc ts E with
    | some v, some K => some ((t, v) :: K)
    | _, _ => none
theorem TC.lp {c : Code} {α : Type} (ks : List Nat) {K : Env} (hK : Kfc ks E = some K) (U : α -> Env) (I' : α -> World -> Prop) (m : α -> Nat) (x0 : α) (hI : ∀ w, I w -> I' x0 w)
    (step : ∀ x, TC P N (Exit.then (fun a w => ∃ y, m y < m x /\ EnvOk N (U y ++ K) a /\ I' y w) Q) c (U x ++ K) (I' x)) (hE : Has E (U x0 ++ K) := by repeat (first | exact trivial | refine And.intro rfl ?_)) : TC P N Q (.loop c) E I :=
  TC.loop_ (fun y => U y ++ K) I' m x0 hE hI step
theorem Kca (h : Kbt N E o = some (d, f, vs)) : ∃ (xs : List Operand) (ts : Array TypeId), o.guard = none /\ o.dst = some d /\ Nat.blt d N.n = true /\ o.op = .call { callee := .value (.func f), args := xs.toArray, argTypes := ts } /\ evs E xs = some vs := by
  unfold Kbt at h;split at h
  · cases h
  · rename_i hg;split at h
    · cases h
    · rename_i d' hd;split at h
      · cases h
      · rename_i hN;split at h
        · rename_i c ho;obtain ⟨ce, ar, ty⟩ := c;split at h
          · rename_i f' hf;split at h
            · rename_i vs' hx;cases h;dsimp only at hf hx;subst hf;exact ⟨ar.toList, ty, hg, hd, hN, by rw [ho], hx⟩
            · cases h
          · cases h
        · cases h
theorem Ka3 {d : Nat} (h : Kcs N o = some d) : o.guard = none /\ o.dst = some d /\ Nat.blt d N.n = true := by
  unfold Kcs at h;split at h
  · cases h
  · rename_i hg;split at h
    · cases h
    · rename_i d' hd;split at h
      · rename_i hN; cases h; exact ⟨hg, hd, hN⟩
      · cases h
theorem TL.w {v : Value} (h0 : Kcs N o = some d) (hv : Kl P N o E I v) (h : TL P N ops Q l ((d, v) :: E) I) : TL P N ops Q (o :: l) E I := TL.val (Ka3 h0).1 (Ka3 h0).2.1 (Ka3 h0).2.2 hv h
theorem TQ.w {v : Value} (h0 : Kcs N o = some d) (hv : Kl P N o E I v) (h : TQ P N ops R l ((d, v) :: E) I) : TQ P N ops R (o :: l) E I := TQ.val (Ka3 h0).1 (Ka3 h0).2.1 (Ka3 h0).2.2 hv h
theorem TL.vw {b : Bool} (h0 : Kcs N o = some d) (hv : Kl P N o E I (.bool b)) (ht : b = true -> TL P N ops Q l ((d, .bool true) :: E) I) (hf : b = false -> TL P N ops Q l ((d, .bool false) :: E) I) : TL P N ops Q (o :: l) E I := TL.vsplit (Ka3 h0).1 (Ka3 h0).2.1 (Ka3 h0).2.2 hv ht hf
theorem TQ.vw {b : Bool} (h0 : Kcs N o = some d) (hv : Kl P N o E I (.bool b)) (ht : b = true -> TQ P N ops R l ((d, .bool true) :: E) I) (hf : b = false -> TQ P N ops R l ((d, .bool false) :: E) I) : TQ P N ops R (o :: l) E I := TQ.vsplit (Ka3 h0).1 (Ka3 h0).2.1 (Ka3 h0).2.2 hv ht hf
theorem Pm.pk {w : World} {L' : List Pc} (h : Pm w0 L w) (ks : List Nat) (hn : ks.Nodup := by decide) (he : ks.map (fun k => L[k]?) = L'.map some := by rfl) : Pm w0 L' w := h.pick ks hn he
theorem TL.p1 {r : Value} (h0 : Kbt N E o = some (d, f, vs)) (hf : Kh P f)
    (hc : ∀ w, Pm w0 L w -> Calls P f vs.toArray w fun e w' => e = .returned r /\ Below w.heap.size w w') (h : TL P N ops Q l ((d, r) :: E) (Pm w0 L)) : TL P N ops Q (o :: l) E (Pm w0 L) := by
  obtain ⟨xs, ts, hg, hd, hN, ho, hx⟩ := Kca h0;obtain ⟨fn, h1, h2, h3⟩ := hf;exact TL.pcall1 hg hd hN ho hx h1 h2 h3 hc h
theorem TL.pM {α : Type} (r : α -> Value) (Ln : α -> List Pc) (h0 : Kbt N E o = some (d, f, vs)) (hf : Kh P f)
    (hc : ∀ w, Pm w0 L w -> Calls P f vs.toArray w fun en w' => ∃ x, en = .returned (r x) /\ Pm w (Ln x) w')
    (h : ∀ x, TL P N ops Q l ((d, r x) :: E) (Pm w0 (Ln x ++ L))) (hna : ∀ x, Kaw (Ln x) = true := by intro x; rfl) : TL P N ops Q (o :: l) E (Pm w0 L) := by
  obtain ⟨xs, ts, hg, hd, hN, ho, hx⟩ := Kca h0;obtain ⟨fn, h1, h2, h3⟩ := hf;exact TL.pcallPm r Ln hg hd hN ho hx h1 h2 h3 hc h hna
theorem TL.pC {α : Type} {k cb : Nat} {p : World -> Prop} (r : α -> Value) (Ln : α -> List Pc) (h0 : Kbt N E o = some (d, f, vs)) (hf : Kh P f)
    (hk : L[k]? = some (.abs cb p)) (hc : ∀ w, Pm w0 L w -> p w -> Calls P f vs.toArray w fun en w' => ∃ x, en = .returned (r x) /\ Codr p cb w (Ln x) w')
    (h : ∀ x, TL P N ops Q l ((d, r x) :: E) (Pm w0 (Ln x ++ L))) (hna : ∀ x, Kaw (Ln x) = true := by intro x; rfl) : TL P N ops Q (o :: l) E (Pm w0 L) := by
  obtain ⟨xs, ts, hg, hd, hN, ho, hx⟩ := Kca h0;obtain ⟨fn, h1, h2, h3⟩ := hf;exact TL.pcallCod r Ln hg hd hN ho hx h1 h2 h3 hk hc h hna
theorem TL.pL {α : Type} {r : α -> Value} {I' : α -> World -> Prop} (h0 : Kbt N E o = some (d, f, vs)) (hf : Kh P f)
    (hc : ∀ w, I w -> Calls P f vs.toArray w fun e w' => ∃ x, e = .returned (r x) /\ I' x w') (h : ∀ x, TL P N ops Q l ((d, r x) :: E) (I' x)) : TL P N ops Q (o :: l) E I := by
  obtain ⟨xs, ts, hg, hd, hN, ho, hx⟩ := Kca h0;obtain ⟨fn, h1, h2, h3⟩ := hf;exact TL.call hg hd hN ho hx h1 h2 h3 hc h
theorem TQ.p1 {v : Value} (h0 : Kbt N E o = some (d, f, vs)) (hf : Kh P f)
    (hc : ∀ w, I w -> Calls P f vs.toArray w fun e w' => e = .returned v /\ I w') (h : TQ P N ops R l ((d, v) :: E) I) : TQ P N ops R (o :: l) E I := by
  obtain ⟨xs, ts, hg, hd, hN, ho, hx⟩ := Kca h0;obtain ⟨fn, h1, h2, h3⟩ := hf;exact TQ.call hg hd hN ho hx h1 h2 h3 hc h
theorem TL.pS {b : Bool} (h0 : Kbt N E o = some (d, f, vs)) (hf : Kh P f)
    (hc : ∀ w, Pm w0 L w -> Calls P f vs.toArray w fun e w' => e = .returned (.bool b) /\ Below w.heap.size w w') (ht : b = true -> TL P N ops Q l ((d, .bool true) :: E) (Pm w0 L)) (hf' : b = false -> TL P N ops Q l ((d, .bool false) :: E) (Pm w0 L)) : TL P N ops Q (o :: l) E (Pm w0 L) := by
  obtain ⟨xs, ts, hg, hd, hN, ho, hx⟩ := Kca h0;obtain ⟨fn, h1, h2, h3⟩ := hf;exact TL.callsplit hg hd hN ho hx h1 h2 h3 hc ht hf'
theorem TQ.pS {b : Bool} (h0 : Kbt N E o = some (d, f, vs)) (hf : Kh P f)
    (hc : ∀ w, Pm w0 L w -> Calls P f vs.toArray w fun e w' => e = .returned (.bool b) /\ Below w.heap.size w w') (ht : b = true -> TQ P N ops R l ((d, .bool true) :: E) (Pm w0 L)) (hf' : b = false -> TQ P N ops R l ((d, .bool false) :: E) (Pm w0 L)) : TQ P N ops R (o :: l) E (Pm w0 L) := by
  obtain ⟨xs, ts, hg, hd, hN, ho, hx⟩ := Kca h0;obtain ⟨fn, h1, h2, h3⟩ := hf;exact TQ.callsplit hg hd hN ho hx h1 h2 h3 hc ht hf'
theorem TL.ps {t te : TypeId} {x y : Operand} {g off n : Nat} {v : Value} {cs ws : List Value} (k : Nat) (hs : ∀ w : World, (sizeOf t).run P w = .ok n w)
    (h : TL P N ops Q l E (Pm w0 (L.set k (.blk g te (cs.take off ++ ws ++ cs.drop (off + ws.length)))))) (hg : o.guard = none := by rfl) (hd : o.dst = none := by rfl) (ho : o.op = .store t x y := by rfl) (hx : ev E x = some (.pointer (some ⟨g, off, none⟩)) := by rfl) (hy : ev E y = some v := by rfl)
    (hk : L[k]? = some (.blk g te cs) := by rfl) (hv : v.cells = ws.toArray := by rfl) (hn : ws.length = n := by rfl) (h1 : ws.all Value.oneCell' = true := by rfl) (hl : Nat.ble (off + ws.length) cs.length = true := by rfl) : TL P N ops Q (o :: l) E (Pm w0 L) := by
  subst hn;exact TL.pstore hg hd ho hx hy hk hv hs (fun u hu => List.all_eq_true.1 h1 u hu) (Nat.le_of_ble_eq_true hl) rfl h
theorem TL.bx {t : TypeId} {x : Operand} {v : Value} {cs : List Value} (h : ∀ g, TL P N ops Q l ((d, .pointer (some ⟨g, 0, none⟩)) :: E) (Pm w0 (.blk g t cs :: L)))
    (hg : o.guard = none := by rfl) (hd : o.dst = some d := by rfl) (hN : Nat.blt d N.n = true := by rfl) (ho : o.op = .box t x := by rfl) (hx : ev E x = some v := by rfl) (hc : v.cells = cs.toArray := by rfl) : TL P N ops Q (o :: l) E (Pm w0 L) :=
  TL.pnew hg hd hN (Kjy ho hx hc) h
theorem TL.al {t : TypeId} {z : Value} {cs : List Value} (hz : ∀ w : World, (zeroValue t).run P w = .ok z w) (h : ∀ g, TL P N ops Q l ((d, .pointer (some ⟨g, 0, none⟩)) :: E) (Pm w0 (.blk g t cs :: L)))
    (hg : o.guard = none := by rfl) (hd : o.dst = some d := by rfl) (hN : Nat.blt d N.n = true := by rfl) (ho : o.op = .alloc t := by rfl) (hc : z.cells = cs.toArray := by rfl) : TL P N ops Q (o :: l) E (Pm w0 L) :=
  TL.pnew hg hd hN (KiP ho hz hc) h
theorem TX.rd {α : Type} {E' : α -> Env} {I' : α -> World -> Prop} {m : α -> Nat} {b : Nat} (y : α) (hm : m y < b) (hI : ∀ w, I w -> I' y w) (hE : Has E (E' y) := by repeat (first | exact trivial | refine And.intro rfl ?_)) :
    TX N (Exit.then (fun a w => ∃ y, m y < b /\ EnvOk N (E' y) a /\ I' y w) Q) .normal E I := TX.round y hm hE hI
theorem TX.jd {α : Type} {E' : α -> Env} {I' : α -> World -> Prop} (s : α) (hI : ∀ w, I w -> I' s w) (hE : Has E (E' s) := by repeat (first | exact trivial | refine And.intro rfl ?_)) : TX N (Exit.then (fun a w => ∃ s, EnvOk N (E' s) a /\ I' s w) Q) .normal E I := TX.joined s hE hI
end
section
variable {P : Program} {N : Fr} {ops : Array Oper} {S I : World -> Prop} {Q : Exit -> Act -> World -> Prop} {f : Nat} {listed : Array Bool} {E : Env} {l : List Oper} {id : Nat}
theorem TH.o {o : Oper} {listed' : Array Bool} (i : Nat) (h : TL P N ops (Exit.then (Hd P ops S Q f listed') (NoPanic Q)) [o] E I) (hi : ops[i]? = some o := by rfl) (hr : Region.ready .any ops listed = [i] := by kernel_rfl) (hl : listed.setIfInBounds i true = listed' := by rfl) : TH P N ops S Q (f + 1) listed E I := TH.only' i hi hr hl h
theorem TH.g {o : Oper} {d j dg : Nat} {b : Bool} {v : Value} {listed' : Array Bool} (i : Nat) (hi : ops[i]? = some o) (hv : Kl P N o E S v) (hS : ∀ w, I w -> S w) (h : TH P N ops S Q f listed' ((d, v) :: E) I)
    (hs : Region.noSelect ops = true := by kernel_rfl) (hf : Region.free .any ops listed i = true := by kernel_rfl) (hr : (Region.ready .any ops listed).contains i = true := by kernel_rfl) (hl : listed.setIfInBounds i true = listed' := by rfl)
    (hg : o.guard = some (j, b) := by rfl) (hgd : (ops[j]?).bind (·.dst) = some dg := by rfl) (hgE : look E dg = some (.bool b) := by rfl) (hd : o.dst = some d := by rfl) (hN : Nat.blt d N.n = true := by rfl) : TH P N ops S Q (f + 1) listed E I := TH.takeG i hi hs hf hr hl hg hgd hgE hd hN hv hS h
theorem TH.fo {o : Oper} {d j dg : Nat} {b b' : Bool} {listed' : Array Bool} (i : Nat) (hS : ∀ w, I w -> S w) (h : TH P N ops S Q f listed' ((d, undef) :: E) I) (hi : ops[i]? = some o := by rfl)
    (hs : Region.noSelect ops = true := by kernel_rfl) (hf : Region.free .any ops listed i = true := by kernel_rfl) (hr : (Region.ready .any ops listed).contains i = true := by kernel_rfl) (hl : listed.setIfInBounds i true = listed' := by rfl)
    (hg : o.guard = some (j, b') := by rfl) (hgd : (ops[j]?).bind (·.dst) = some dg := by rfl) (hgE : look E dg = some (.bool b) := by rfl) (hne : (b == b') = false := by rfl) (hd : o.dst = some d := by rfl) (hN : Nat.blt d N.n = true := by rfl) : TH P N ops S Q (f + 1) listed E I := TH.off i hi hs hf hr hl hg hgd hgE hne hd hN hS h
theorem TC.hd (n : Nat) (S : World -> Prop) (hS : ∀ w, I w -> S w) (h : (∀ w, I w -> S w) -> TH P N l.toArray S Q n (fA n) E I) (hm : P.follows .mixedOrders = true := by kernel_rfl) (hn : l.toArray.size = n := by rfl) (hI : ∀ w, I w -> I { w with drawn := w.drawn + 1 } := by exact fun w hw => hw.drawn _) : TC P N Q (.region id l.toArray true) E I := TC.held S hm hn rfl hI (h hS)
end
theorem o7 : Kh Tryz.prog 7 := ⟨_, Tryz.func7, by decide, rfl⟩
theorem o9 : Kh Tryz.prog 9 := ⟨_, Tryz.func9, by decide, rfl⟩
theorem o10 : Kh Tryz.prog 10 := ⟨_, Tryz.func10, by decide, rfl⟩
theorem o11 : Kh Tryz.prog 11 := ⟨_, Tryz.func11, by decide, rfl⟩
theorem o12 : Kh Tryz.prog 12 := ⟨_, Tryz.func12, by decide, rfl⟩
theorem o13 : Kh Tryz.prog 13 := ⟨_, Tryz.func13, by decide, rfl⟩
theorem o14 : Kh Tryz.prog 14 := ⟨_, Tryz.func14, by decide, rfl⟩
theorem o15 : Kh Tryz.prog 15 := ⟨_, Tryz.func15, by decide, rfl⟩
theorem o16 : Kh Tryz.prog 16 := ⟨_, Tryz.func16, by decide, rfl⟩
theorem o27 : Kh Tryz.prog 27 := ⟨_, Tryz.func27, by decide, rfl⟩
theorem o30 : Kh Tryz.prog 30 := ⟨_, Tryz.func30, by decide, rfl⟩
theorem o31 : Kh Tryz.prog 31 := ⟨_, Tryz.func31, by decide, rfl⟩
theorem o32 : Kh Tryz.prog 32 := ⟨_, Tryz.func32, by decide, rfl⟩
theorem o33 : Kh Tryz.prog 33 := ⟨_, Tryz.func33, by decide, rfl⟩
theorem o34 : Kh Tryz.prog 34 := ⟨_, Tryz.func34, by decide, rfl⟩
theorem o35 : Kh Tryz.prog 35 := ⟨_, Tryz.func35, by decide, rfl⟩
theorem o36 : Kh Tryz.prog 36 := ⟨_, Tryz.func36, by decide, rfl⟩
theorem o37 : Kh Tryz.prog 37 := ⟨_, Tryz.func37, by decide, rfl⟩
theorem o38 : Kh Tryz.prog 38 := ⟨_, Tryz.func38, by decide, rfl⟩
theorem o39 : Kh Tryz.prog 39 := ⟨_, Tryz.func39, by decide, rfl⟩
theorem o40 : Kh Tryz.prog 40 := ⟨_, Tryz.func40, by decide, rfl⟩
theorem o41 : Kh Tryz.prog 41 := ⟨_, Tryz.func41, by decide, rfl⟩
theorem o42 : Kh Tryz.prog 42 := ⟨_, Tryz.func42, by decide, rfl⟩
theorem o45 : Kh Tryz.prog 45 := ⟨_, Tryz.func45, by decide, rfl⟩
theorem o46 : Kh Tryz.prog 46 := ⟨_, Tryz.func46, by decide, rfl⟩
theorem o48 : Kh Tryz.prog 48 := ⟨_, Tryz.func48, by decide, rfl⟩
theorem o51 : Kh Tryz.prog 51 := ⟨_, Tryz.func51, by decide, rfl⟩
theorem o52 : Kh Tryz.prog 52 := ⟨_, Tryz.func52, by decide, rfl⟩
theorem o55 : Kh Tryz.prog 55 := ⟨_, Tryz.func55, by decide, rfl⟩
theorem o57 : Kh Tryz.prog 57 := ⟨_, Tryz.func57, by decide, rfl⟩
theorem o58 : Kh Tryz.prog 58 := ⟨_, Tryz.func58, by decide, rfl⟩
theorem o81 : Kh Tryz.prog 81 := ⟨_, Tryz.func81, by decide, rfl⟩
theorem o82 : Kh Tryz.prog 82 := ⟨_, Tryz.func82, by decide, rfl⟩
theorem o83 : Kh Tryz.prog 83 := ⟨_, Tryz.func83, by decide, rfl⟩
theorem o84 : Kh Tryz.prog 84 := ⟨_, Tryz.func84, by decide, rfl⟩
theorem o85 : Kh Tryz.prog 85 := ⟨_, Tryz.func85, by decide, rfl⟩
theorem o86 : Kh Tryz.prog 86 := ⟨_, Tryz.func86, by decide, rfl⟩
theorem o87 : Kh Tryz.prog 87 := ⟨_, Tryz.func87, by decide, rfl⟩
theorem o88 : Kh Tryz.prog 88 := ⟨_, Tryz.func88, by decide, rfl⟩
theorem o89 : Kh Tryz.prog 89 := ⟨_, Tryz.func89, by decide, rfl⟩
theorem o90 : Kh Tryz.prog 90 := ⟨_, Tryz.func90, by decide, rfl⟩
theorem o91 : Kh Tryz.prog 91 := ⟨_, Tryz.func91, by decide, rfl⟩
theorem o93 : Kh Tryz.prog 93 := ⟨_, Tryz.func93, by decide, rfl⟩
theorem o94 : Kh Tryz.prog 94 := ⟨_, Tryz.func94, by decide, rfl⟩
theorem o95 : Kh Tryz.prog 95 := ⟨_, Tryz.func95, by decide, rfl⟩
theorem o96 : Kh Tryz.prog 96 := ⟨_, Tryz.func96, by decide, rfl⟩
theorem o97 : Kh Tryz.prog 97 := ⟨_, Tryz.func97, by decide, rfl⟩
theorem Ki9 : Kh Tryz.prog 100 := ⟨_, Tryz.func100, by decide, rfl⟩
theorem KiG : Kh Tryz.prog 109 := ⟨_, Tryz.func109, by decide, rfl⟩
theorem Kd6 : Kh Tryz.prog 110 := ⟨_, Tryz.func110, by decide, rfl⟩
theorem Kkq : Kh Tryz.prog 130 := ⟨_, Tryz.func130, by decide, rfl⟩
theorem KjO : Kh Tryz.prog 131 := ⟨_, Tryz.func131, by decide, rfl⟩
theorem Kl1 : Kh Tryz.prog 134 := ⟨_, Tryz.func134, by decide, rfl⟩
theorem KfC : Kh Tryz.prog 135 := ⟨_, Tryz.func135, by decide, rfl⟩
theorem Kic : Kh Tryz.prog 136 := ⟨_, Tryz.func136, by decide, rfl⟩
theorem Klc : Kh Tryz.prog 137 := ⟨_, Tryz.func137, by decide, rfl⟩
theorem KlF : Kh Tryz.prog 138 := ⟨_, Tryz.func138, by decide, rfl⟩
theorem Ki6 : Kh Tryz.prog 139 := ⟨_, Tryz.func139, by decide, rfl⟩
theorem Kih : Kh Tryz.prog 147 := ⟨_, Tryz.func147, by decide, rfl⟩
theorem KgS : Kh Tryz.prog 163 := ⟨_, Tryz.func163, by decide, rfl⟩
theorem Kh2 : Kh Tryz.prog 202 := ⟨_, Tryz.func202, by decide, rfl⟩
theorem Kly : Kh Tryz.prog 204 := ⟨_, Tryz.func204, by decide, rfl⟩
theorem Khv : Kh Tryz.prog 205 := ⟨_, Tryz.func205, by decide, rfl⟩
theorem Kkj : Kh Tryz.prog 206 := ⟨_, Tryz.func206, by decide, rfl⟩
theorem KbB : Kh Tryz.prog 207 := ⟨_, Tryz.func207, by decide, rfl⟩
theorem KfG : Kh Tryz.prog 234 := ⟨_, Tryz.func234, by decide, rfl⟩
theorem Kgk : Kh Tryz.prog 235 := ⟨_, Tryz.func235, by decide, rfl⟩
open Go.ChangeShapes Go.WideShapes Go.ChangeAt Go.RowKit
theorem own : ownKnob Tryz.prog.godebug = none := by kernel_rfl
theorem laidOut : laidOutB Tryz.prog = true := by kernel_rfl
theorem Ki2 {x : Int} (h : (Lit.int .u8 x).wf = true) : 0 <= x /\ x <= 255 := by simpa [Lit.wf, IntKind.min, IntKind.max, IntKind.signed, IntKind.bits] using h
theorem Ki7 {w : World} {a : Addr} {len cap : Nat} {zs : List Int} (hl : len <= cap) (hz : zs.length = cap) (hb : 0 < len -> a.block < w.heap.size) (hc : ∀ i, i < zs.length -> w.cell? (a.add i) = some (.int .u8 (zs.getD i 0)))
    (hw : ∀ n ∈ zs, (Lit.int .u8 n).wf = true) : Byt w w.heap.size (some a) len (zs.take len) := by
  refine ⟨⟨by simp [bv]; omega, fun hn => ⟨a, rfl, hb hn, fun j u hu => ?_⟩⟩, fun x hx => Ki2 (hw x (List.mem_of_mem_take hx))⟩;simp only [bv, List.getElem?_map, List.getElem?_take] at hu;split at hu
  · rename_i hj;have hjl : j < zs.length := by omega
    rw [List.getElem?_eq_getElem hjl] at hu;rw [hc j hjl];simp only [Option.map_some, Option.some.injEq] at hu;rw [<- hu];simp [List.getD, List.getElem?_eq_getElem hjl]
  · simp at hu
section
variable {H : Type} {enc : TypeId × Value -> H} {P : Program} {W : World}
theorem open_byt {t e : TypeId} {base : Nat} {v : Value} {d : DataW H} {p : List MemPlace} (ht : P.underlying t = some (.slice e)) (he : P.underlying e = some (.int .u8)) (hC : P.cellsOf e = 1)
    (hok : Value.okWide P W .any base t v) (h : DataW.Trod enc P W 0 (fun _ => true) true t v d p) : ∃ A n c l, v = .slice A n c /\ n <= c /\ c <= maxLen /\ Byt W W.heap.size A n l := by
  obtain ⟨a0, len0, cap0, rfl⟩ := okWide_slice ht hok;obtain ⟨fuel, hf⟩ := h;rcases open_ints ht he hC hf with ⟨hcs, _⟩ | ⟨x, l, c, zs, hcs, _, hl, hm, hz, _, hcell, hwz⟩
  · simp [Value.cells] at hcs;obtain ⟨rfl, rfl, rfl⟩ := hcs;exact ⟨none, 0, 0, [], rfl, Nat.le_refl _, Nat.zero_le _, Byt.none_ _ _⟩
  · simp [Value.cells] at hcs;obtain ⟨rfl, rfl, rfl⟩ := hcs;have hz' : zs.length = cap0 := by simpa using hz
    refine ⟨_, len0, cap0, zs.take len0, rfl, hl, hm, Ki7 hl hz' (fun hn => ?_) hcell hwz⟩;have := World.block_lt_of_cell? W _ (hcell 0 (by omega));rwa [Keb] at this
end
set_option maxRecDepth 20000
def Cod (w : World) (cb : Nat) : Prop :=
  ∃ A m c l k, Blk w cb 175 #[.slice A m c, .int .i64 ((k : Nat) : Int)] /\ k <= m /\ m <= 1000000 /\ Byt w cb A m l
theorem Cod.lt {w : World} {cb : Nat} (h : Cod w cb) : cb < w.heap.size := by
  obtain ⟨A, m, c, l, k, hb, _⟩ := h;exact hb.lt
theorem Cod.keep {w w' : World} {cb : Nat} (h : Cod w cb) (hk : ∀ b, b <= cb -> w'.heap[b]? = w.heap[b]?) : Cod w' cb := by
  obtain ⟨A, m, c, l, k, hb, h1, h2, h3⟩ := h;exact ⟨A, m, c, l, k, (hk cb (Nat.le_refl _)).trans hb, h1, h2, h3.keep fun p hp => World.cell?_of_block (hk _ (Nat.le_of_lt hp))⟩
theorem Cod.below {w w' : World} {cb B : Nat} (h : Cod w cb) (hb : Below B w w') (hB : cb < B) : Cod w' cb := h.keep fun b hb' => hb.block b (by omega)
theorem Cod.alloc {w : World} {cb : Nat} (h : Cod w cb) (o : Obj) : Cod (w.alloc o) cb := h.keep fun b hb' => Below.heap_alloc w o b (Nat.lt_of_le_of_lt hb' h.lt)
theorem Cod.drewN {w : World} {cb : Nat} (h : Cod w cb) (n : Nat) : Cod (w.drewN n) cb := h
theorem Kk4 (A : Option Addr) (n c : Nat) (l : List Int) (w : World) (mo : Int) (h : Byt w w.heap.size A n l) (hc : n <= c) (hn : (n : Int) <= 9223372036854775807) (h0 : 0 <= mo) (h1 : mo <= 1000000) :
    Calls Tryz.prog 35 #[.slice A n c, .int .i64 mo] w fun e w' => e = .returned (.pointer (some ⟨w.heap.size, 0, none⟩)) /\ Cod w' w.heap.size /\ Below w.heap.size w w' /\ w'.heap.size = w.heap.size + 1 := by
  obtain ⟨mo, rfl⟩ := Int.eq_ofNat_of_zero_le h0
  have key : ∀ (m : Nat), m <= 1000000 -> m <= n -> Cod (w.alloc (.cells #[.slice A m c, .int .i64 0] 175)) w.heap.size := fun m hm hmn =>
    ⟨A, m, c, l.take m, 0, Blk.new _ _ _, Nat.zero_le _, hm, (h.head hmn).alloc (Nat.le_refl _) _⟩
  have hb : ∀ o, Below w.heap.size w (w.alloc o) := fun o => (Below.refl _ _).alloc (Nat.le_refl _) o;by_cases hlt : mo < n
  · have k1 := Lib.hid (key mo (by omega) (by omega));clear key
    go_enter Tryz.func35, Tryz.ntmps35
    go_wp2
    go_ret
    exact ⟨rfl, k1.out, hb _, by simp⟩
  · have k1 := Lib.hid (key n (by omega) (by omega));clear key
    go_enter Tryz.func35, Tryz.ntmps35
    go_wp2
    go_ret
    exact ⟨rfl, k1.out, hb _, by simp⟩
theorem Kg1 (cb : Nat) (w : World) (n : Int) (A : Option Addr) (m c : Nat) (k : Nat) (hb : Blk w cb 175 #[.slice A m c, .int .i64 k]) (hk : k <= 1000000) (h : m <= k \/ n < 1) :
    Calls Tryz.prog 37 #[.pointer (some ⟨cb, 0, none⟩), .int .i64 n] w fun e w' => e = .returned (.int .i64 0) /\ ∃ q, w' = w.drewN q := by
  have hc0 := hb.cell 0;have hc1 := hb.cell 1;simp at hc0 hc1;by_cases hm : m <= k
  · clear h
    go_enter Tryz.func37, Tryz.ntmps37
    go_wp2
    go_quiet (fail)
    go_wp2
    go_ret
    exact ⟨rfl, _, rfl⟩
  · have h : n < 1 := by omega
    go_enter Tryz.func37, Tryz.ntmps37
    go_wp2
    go_quiet (fail)
    go_wp2
    go_ret
    exact ⟨rfl, _, rfl⟩
theorem KkQ (cb : Nat) (w : World) (n : Int) (ad : Addr) (m c : Nat) (k : Nat) (x : Int) (hb : Blk w cb 175 #[.slice (some ad) m c, .int .i64 k]) (hk : k < m) (hm : m <= 1000000) (h0 : 1 <= n) (h1 : n <= 256)
    (hx : w.cell? (ad.add k) = some (.int .u8 x)) (hx0 : 0 <= x) (hx1 : x <= 255) :
    Calls Tryz.prog 37 #[.pointer (some ⟨cb, 0, none⟩), .int .i64 n] w fun e w' => e = .returned (.int .i64 (x % n)) /\ ∃ q, w' = (w.drewN q).setCell ⟨cb, 1, none⟩ (.int .i64 ((k + 1 : Nat) : Int)) := by
  have hc0 := hb.cell 0;have hc1 := hb.cell 1;have hf0 := hb.frozen 0;have hf1 := hb.frozen 1;simp at hc0 hc1
  go_enter Tryz.func37, Tryz.ntmps37
  go_wp2
  go_quiet (fail)
  go_wp2
  go_quiet (fail)
  go_wp2
  go_ret
  exact ⟨rfl, _, rfl⟩
theorem Cod.moved {w : World} {cb : Nat} {A : Option Addr} {m c k : Nat} {l : List Int} (hb : Blk w cb 175 #[.slice A m c, .int .i64 k]) (hk : k + 1 <= m) (hm : m <= 1000000) (hl : Byt w cb A m l) (q : Nat) :
    Cod ((w.drewN q).setCell ⟨cb, 1, none⟩ (.int .i64 ((k + 1 : Nat) : Int))) cb /\ w.grownBy ((w.drewN q).setCell ⟨cb, 1, none⟩ (.int .i64 ((k + 1 : Nat) : Int))) (some cb) := by
  refine ⟨⟨A, m, c, l, k + 1, ?_, hk, hm, ?_⟩, ?_⟩
  · exact (hb.drewN q).set_ 1 _
  · exact (hl.drewN q).keep fun p hp => World.cell?_setCell_other _ _ _ _ (fun e => by subst e; simp at hp)
  · refine ⟨rfl, rfl, rfl, by simp, fun i hi hne => ?_⟩;exact (Below.heap_setCell (w.drewN q) _ _ i (fun e => hne (by rw [e])))
def Kgf (n : Int) (w : World) (cb : Nat) (e : Ending) (w' : World) : Prop :=
  ∃ x : Int, e = .returned (.int .i64 x) /\ 0 <= x /\ x <= 65535 /\ (1 <= n -> x < n) /\ Cod w' cb /\ w.grownBy w' (some cb) /\ w'.heap.size <= w.heap.size
theorem KfO (cb : Nat) (w : World) (n : Int) (h : Cod w cb) (hn : n <= 256) :
    Calls Tryz.prog 37 #[.pointer (some ⟨cb, 0, none⟩), .int .i64 n] w (Kgf n w cb) := by
  obtain ⟨A, m, c, l, k, hb, hk, hm, hl⟩ := h;by_cases hd : m <= k \/ n < 1
  · refine (Kg1 cb w n A m c k hb (by omega) hd).mono fun e w' ⟨he, q, hw⟩ => ?_;subst hw;refine ⟨0, he, by omega, by omega, by omega, ⟨A, m, c, l, k, hb.drewN q, hk, hm, hl.drewN q⟩, ⟨rfl, rfl, rfl, Nat.le_refl _, fun _ _ _ => rfl⟩, Nat.le_refl _⟩
  · have hkm : k < m := by omega
    obtain ⟨ad, x, rfl, _, _, hx0, hx1, hc⟩ := hl.at_ hkm;refine (KkQ cb w n ad m c k x hb hkm hm (by omega) hn hc hx0 hx1).mono fun e w' ⟨he, q, hw⟩ => ?_;subst hw;obtain ⟨m1, m2⟩ := Cod.moved hb hkm hm hl q;have e1 : 0 <= x % n := Int.emod_nonneg _ (by omega);have e2 : x % n < n := Int.emod_lt_of_pos _ (by omega);exact ⟨x % n, he, e1, by omega, fun _ => e2, m1, m2, by simp⟩
theorem Kjx (cb : Nat) (w : World) (n : Int) (ad : Addr) (m c : Nat) (k : Nat) (x : Int) (hb : Blk w cb 175 #[.slice (some ad) m c, .int .i64 k]) (hk : k < m) (hm : m <= 1000000) (h1 : 256 < n)
    (hx : w.cell? (ad.add k) = some (.int .u8 x)) (hx0 : 0 <= x) (hx1 : x <= 255) (hC : ∀ q, Cod ((w.drewN q).setCell ⟨cb, 1, none⟩ (.int .i64 ((k + 1 : Nat) : Int))) cb) :
    Calls Tryz.prog 37 #[.pointer (some ⟨cb, 0, none⟩), .int .i64 n] w fun e w' => ∃ y q, e = .returned (.int .i64 ((256 * x + y) % n)) /\ 0 <= y /\ y <= 255 /\ Cod w' cb /\ ((w.drewN q).setCell ⟨cb, 1, none⟩ (.int .i64 ((k + 1 : Nat) : Int))).grownBy w' (some cb) /\ w'.heap.size <= w.heap.size := by
  have hc0 := hb.cell 0;have hc1 := hb.cell 1;have hf0 := hb.frozen 0;have hf1 := hb.frozen 1;simp at hc0 hc1;have HC := Lib.hid hC;clear hC
  go_enter Tryz.func37, Tryz.ntmps37
  go_wp2_with fail
  go_quiet (fail)
  go_wp2_with fail
  go_quiet (fail)
  go_wp2_with fail
  refine (KfO cb _ 256 (HC.out _) (by omega)).mono ?_;rintro e w' ⟨y, rfl, hy0, _, hy1, hy2, hy3, hy4⟩;have hy1 := hy1 (by omega)
  go_wp2_with fail
  go_ret
  exact ⟨y, _, rfl, hy0, by omega, hy2, hy3, Nat.le_trans hy4 (by simp)⟩
theorem Ki0 (cb : Nat) (w : World) (n : Int) (h : Cod w cb) :
    Calls Tryz.prog 37 #[.pointer (some ⟨cb, 0, none⟩), .int .i64 n] w (Kgf n w cb) := by
  by_cases hn : n <= 256
  · exact KfO cb w n h hn
  · obtain ⟨A, m, c, l, k, hb, hk, hm, hl⟩ := h;by_cases hd : m <= k
    · refine (Kg1 cb w n A m c k hb (by omega) (.inl hd)).mono fun e w' ⟨he, q, hw⟩ => ?_;subst hw;refine ⟨0, he, by omega, by omega, by omega, ⟨A, m, c, l, k, hb.drewN q, hk, hm, hl.drewN q⟩, ⟨rfl, rfl, rfl, Nat.le_refl _, fun _ _ _ => rfl⟩, Nat.le_refl _⟩
    · have hkm : k < m := by omega
      obtain ⟨ad, x, rfl, _, _, hx0, hx1, hc⟩ := hl.at_ hkm;refine (Kjx cb w n ad m c k x hb hkm hm (by omega) hc hx0 hx1 (fun q => (Cod.moved hb hkm hm hl q).1)).mono fun e w' ⟨y, q, he, hy0, hy1, hC, hg, hs⟩ => ?_;have g := (Cod.moved hb hkm hm hl q).2;have e1 : 0 <= (256 * x + y) % n := Int.emod_nonneg _ (by omega);have e2 : (256 * x + y) % n < n := Int.emod_lt_of_pos _ (by omega)
      have e3 : (256 * x + y) % n <= 65535 := by
        by_cases hlt : 256 * x + y < n
        · rw [Int.emod_eq_of_lt (by omega) hlt]; omega
        · omega
      refine ⟨_, he, e1, e3, fun _ => e2, hC, ⟨hg.os.trans g.os, hg.tape.trans g.tape, hg.output.trans g.output, Nat.le_trans g.size hg.size, fun i hi hne => ?_⟩, hs⟩;exact (hg.block i (Nat.lt_of_lt_of_le hi g.size) hne).trans (g.block i hi hne)
set_option maxRecDepth 20000
structure Trc where
 v : Int
 dst : Int
 proto : Int
deriving DecidableEq
def Trc.cells (r : Trc) : List Value := [.int .i64 r.v, .int .u32 r.dst, .int .i64 r.proto]
theorem K7 : Cel Trc.cells 3 := ⟨fun _ => rfl, fun r u hu => by
 simp only [Trc.cells, List.mem_cons, List.not_mem_nil, or_false] at hu;rcases hu with rfl | rfl | rfl <;> rfl⟩
structure Idn where
 v : Int
 run : Int
 num : Int
deriving DecidableEq
def Idn.cells (r : Idn) : List Value := [.int .i64 r.v, .int .i64 r.run, .int .i64 r.num]
structure Hpx where
 ttl : Int
 addr : Int
 fl : Sg Int
def Hpx.cells (r : Hpx) : List Value := [.int .i64 r.ttl, .int .u32 r.addr, .slice r.fl.A r.fl.l.length r.fl.c]
structure Ed where
 ttl : Int
 frm : Int
 to_ : Int
 fl : Sg Int
def Ed.cells (r : Ed) : List Value := [.int .i64 r.ttl, .int .u32 r.frm, .int .u32 r.to_, .slice r.fl.A r.fl.l.length r.fl.c]
def KcX (x y : Trc) : Int := orI [Ke x.v y.v, Ke x.dst y.dst, Ke x.proto y.proto]
theorem KN (w : World) : (sizeOf 3).run Tryz.prog w = .ok 1 w := rfl
theorem Kb (w : World) : (isAgg 3).run Tryz.prog w = .ok false w := rfl
theorem KbX : FA Tryz.prog 48 0 0 := fun g o w => by kernel_rfl
theorem KcM : FA Tryz.prog 48 1 1 := fun g o w => by kernel_rfl
theorem Kv (w : World) : (isAgg 42).run Tryz.prog w = .ok false w := rfl
theorem KdF : FA Tryz.prog 48 2 2 := fun g o w => by kernel_rfl
theorem Kdw (a0_0 : Int) (a1_0 : Int) (a2_0 : Int) (w : World) : (Instr.buildSlice 49 3 #[(0, .int .i64 a0_0), (1, .int .i64 a1_0), (2, .int .i64 a2_0)]).run Tryz.prog w = .ok (.slice (some ⟨w.heap.size, 0, none⟩) 3 3) (w.alloc (.cells [.int .i64 a0_0, .int .i64 a1_0, .int .i64 a2_0].toArray 3)) := by kernel_rfl
theorem KgR (x : Int) (w : World) :
  Calls Tryz.prog 102 #[.int .i64 x] w fun e w' => e = .returned (.bool false) /\ w' = w := by
 refine Kg (I := fun w1 => w1 = w) Tryz.func102 rfl rfl rfl ?_ rfl;refine zSG (TL.as_ ?_);refine zET (zSG (TL.rn 2 rfl ?_));refine TL.w rfl (Kn rfl rfl rfl (fun w => Kck rfl w)) ?_;refine TL.as_ ?_;refine zET (zr ?_);exact Kc Tryz.results102 rfl (fun w1 hw => ⟨rfl, hw⟩)
theorem KgZ (x : Int) (w : World) :
  Calls Tryz.prog 101 #[.int .u32 x] w fun e w' => e = .returned (.bool false) /\ w' = w := by
 refine Kg (I := fun w1 => w1 = w) Tryz.func101 rfl rfl rfl ?_ rfl;refine zSG (TL.as_ ?_);refine zET (zSG (TL.rn 2 rfl ?_));refine TL.w rfl (Kn rfl rfl rfl (fun w => Kck rfl w)) ?_;refine TL.as_ ?_;refine zET (zr ?_);exact Kc Tryz.results101 rfl (fun w1 hw => ⟨rfl, hw⟩)
theorem Kcr (x y : Int) (w : World) :
  Calls Tryz.prog 48 #[.int .i64 x, .int .i64 y] w fun e w' => e = .returned (.int .i64 (Ke x y)) /\ w' = w := by
 refine Kg (I := fun w1 => w1 = w) Tryz.func48 rfl rfl rfl ?_ rfl;refine zSG (TL.as_ ?_);refine zET (zSG (TL.mv ?_));refine TL.stcall (r := .bool false) rfl rfl rfl rfl rfl Tryz.func102 (by decide) rfl (fun w1 hw => KgR x w1) ?_;refine TL.as_ ?_;refine zET (zSG (TL.mv ?_));refine TL.stcall (r := .bool false) rfl rfl rfl rfl rfl Tryz.func102 (by decide) rfl (fun w1 hw => KgR y w1) ?_;refine TL.as_ ?_;refine zET (zS (zSG (TL.mv ?_)));refine zET (zd (zk (zT (zS (zSG (TL.mv ?_))))));refine zET (zd (zk (zT (zS (zSG (TL.rn 2 rfl ?_))))));refine TL.sp Km (fun q16 => ?_) (fun q16 => ?_)
 ·refine zET (zc (zSG (TL.as_ ?_)));refine zET (zr (zR ?_));have hE : (Ke x y) = -1 := (by simp [Ke, q16]; try omega);exact Kc Tryz.results48 rfl (fun w1 hw => ⟨by rw [hE]; try rfl, hw⟩)
 refine zET (zd (zk (zT (zS (zSG (TL.rn 2 rfl ?_))))));refine TL.sp KP (fun q19 => ?_) (fun q19 => ?_)
 ·refine zET (zc (zSG (TL.as_ ?_)));refine zET (zr (zR ?_));have hE : (Ke x y) = 1 := (by simp [Ke, q16, q19]; try omega);exact Kc Tryz.results48 rfl (fun w1 hw => ⟨by rw [hE]; try rfl, hw⟩)
 refine zET (zd (zk (zT (zSG (TL.as_ ?_)))));refine zET (zr ?_);have hE : (Ke x y) = 0 := (by simp [Ke, q16, q19]; try omega);exact Kc Tryz.results48 rfl (fun w1 hw => ⟨by rw [hE]; try rfl, hw⟩)
theorem Kdn (x y : Int) (w : World) :
  Calls Tryz.prog 47 #[.int .u32 x, .int .u32 y] w fun e w' => e = .returned (.int .i64 (Ke x y)) /\ w' = w := by
 refine Kg (I := fun w1 => w1 = w) Tryz.func47 rfl rfl rfl ?_ rfl;refine zSG (TL.as_ ?_);refine zET (zSG (TL.mv ?_));refine TL.stcall (r := .bool false) rfl rfl rfl rfl rfl Tryz.func101 (by decide) rfl (fun w1 hw => KgZ x w1) ?_;refine TL.as_ ?_;refine zET (zSG (TL.mv ?_));refine TL.stcall (r := .bool false) rfl rfl rfl rfl rfl Tryz.func101 (by decide) rfl (fun w1 hw => KgZ y w1) ?_;refine TL.as_ ?_;refine zET (zS (zSG (TL.mv ?_)));refine zET (zd (zk (zT (zS (zSG (TL.mv ?_))))));refine zET (zd (zk (zT (zS (zSG (TL.rn 2 rfl ?_))))));refine TL.sp Km (fun q16 => ?_) (fun q16 => ?_)
 ·refine zET (zc (zSG (TL.as_ ?_)));refine zET (zr (zR ?_));have hE : (Ke x y) = -1 := (by simp [Ke, q16]; try omega);exact Kc Tryz.results47 rfl (fun w1 hw => ⟨by rw [hE]; try rfl, hw⟩)
 refine zET (zd (zk (zT (zS (zSG (TL.rn 2 rfl ?_))))));refine TL.sp KP (fun q19 => ?_) (fun q19 => ?_)
 ·refine zET (zc (zSG (TL.as_ ?_)));refine zET (zr (zR ?_));have hE : (Ke x y) = 1 := (by simp [Ke, q16, q19]; try omega);exact Kc Tryz.results47 rfl (fun w1 hw => ⟨by rw [hE]; try rfl, hw⟩)
 refine zET (zd (zk (zT (zSG (TL.as_ ?_)))));refine zET (zr ?_);have hE : (Ke x y) = 0 := (by simp [Ke, q16, q19]; try omega);exact Kc Tryz.results47 rfl (fun w1 hw => ⟨by rw [hE]; try rfl, hw⟩)
theorem Kep (A0 : Option Addr) (n0 c0 : Nat) (xs : List Int) (w : World) (hr : Kd w w.heap.size 1 A0 n0 (Ka (ic .i64) xs)) (hl : xs.length = n0) (hl1 : xs.length <= 100000) :
  Calls Tryz.prog 46 #[.slice A0 n0 c0] w fun e w' => e = .returned (.int .i64 (orI xs)) /\ Below w.heap.size w w' := by
 subst hl;refine Kg Tryz.func46 rfl rfl rfl ?_ (Pm.start w);refine zSG (TL.as_ ?_);refine zET (zSG (TL.as_ ?_));refine zET (zS (zSG (TL.mv ?_)));refine TL.v (gN Tryz.underlying49) ?_;refine TL.mv ?_;refine zET (zB (TC.lp (α := {i : Nat // i <= xs.length /\ orI (xs.drop i) = orI xs}) [0, 3, 6, 7] rfl (fun y => [(8, .int .i64 ((y.1 : Nat) : Int))]) (fun y => Pm w []) (fun y => xs.length - y.1) (⟨0, Nat.zero_le _, rfl⟩) (fun w1 hw => hw) ?_));rintro ⟨i, hi, ho⟩
 try dsimp only at hi ho ⊢
 refine zSG ?_;refine TL.sp Km (fun q9 => ?_) (fun q9 => ?_)
 ·refine zET (zS (zc (zk (zT (zS (zB (zSG ?_)))))));have hi10 : i < xs.length := by omega
  obtain ⟨x10, hx10⟩ := Ko hi10;obtain ⟨b10, o10, hA10, hbb10, hc10⟩ := hr.ad (by omega) (by decide);have hdr : xs.drop i = x10 :: xs.drop (i + 1) := by obtain ⟨hlt, e⟩ := List.getElem?_eq_some_iff.1 hx10; rw [List.drop_eq_getElem_cons hlt, e]
  refine TL.w rfl (gA (i := i) Tryz.underlying49 KN rfl rfl rfl rfl hA10 (by omega)) ?_;refine TL.w rfl (KK (v := .int .i64 x10) rfl rfl Kb (fun w1 hw => (hw.bel.cell hbb10).trans <| Ka4 (KO .i64) hx10 hc10 0 _ rfl)) ?_;refine TL.as_ ?_;refine zET (zSG (TL.rn 2 rfl ?_));refine TL.sp K1 (fun q14 => ?_) (fun q14 => ?_)
  ·refine zET (zc (zSG (TL.rn 2 rfl (zET (zr (zRR (zR (zRR ?_))))))));exact Kc Tryz.results46 rfl (fun w1 hw => ⟨by rw [<- ho, hdr]; unfold orI; rw [if_neg q14], hw.bel⟩)
  have ho2 : orI (xs.drop (i + 1)) = orI xs := by rw [<- ho, hdr]; exact (if_pos (Decidable.not_not.1 q14)).symm
  refine zET (zd (zk (zN (zT (zG (TL.v (gD ((i + 1 : Nat) : Int)) ?_))))));refine TL.mv ?_;refine zE ?_;exact TX.rd (⟨i + 1, by omega, ho2⟩) (by show xs.length - (i + 1) < xs.length - i; omega) (fun w1 hw => hw)
 refine zET (zS (zd (zx (zX (zX (zM (zT (zSG (TL.rn 2 rfl (zET (zr ?_)))))))))));exact Kc Tryz.results46 rfl (fun w1 hw => ⟨by rw [<- ho, List.drop_of_length_le (by omega)]; rfl, hw.bel⟩)
theorem Klx (x y : Trc) (w : World) :
  Calls Tryz.prog 144 #[.agg x.cells.toArray, .agg y.cells.toArray] w fun e w' => e = .returned (.int .i64 (KcX x y)) /\ Below w.heap.size w w' := by
 refine Kg Tryz.func144 rfl rfl rfl ?_ (Pm.start w);refine zSG ?_;refine TL.bx fun g2 => ?_;refine TL.bx fun g3 => ?_;refine TL.as_ ?_;refine zET (zS (TC.tail 15 (by kernel_rfl) (by kernel_rfl) (fun w hw => hw.drawn _) ?_));refine TS.v (gF KbX) ?_;refine TS.v (gL 1 Kb) ?_;refine TS.v (gF KbX) ?_;refine TS.v (gL 0 Kb) ?_;refine TS.call (r := .int .i64 (Ke x.v y.v)) rfl rfl rfl rfl rfl Tryz.func48 (by decide) rfl (fun w1 hw => Kcr x.v y.v w1) ?_;refine TS.v (gF KcM) ?_;refine TS.v (gL 1 Kv) ?_;refine TS.v (gF KcM) ?_;refine TS.v (gL 0 Kv) ?_;refine TS.call (r := .int .i64 (Ke x.dst y.dst)) rfl rfl rfl rfl rfl Tryz.func47 (by decide) rfl (fun w1 hw => Kdn x.dst y.dst w1) ?_;refine TS.v (gF KdF) ?_;refine TS.v (gL 1 Kb) ?_;refine TS.v (gF KdF) ?_;refine TS.v (gL 0 Kb) ?_;refine TS.call (r := .int .i64 (Ke x.proto y.proto)) rfl rfl rfl rfl rfl Tryz.func48 (by decide) rfl (fun w1 hw => Kcr x.proto y.proto w1) ?_;refine TS.end_ ?_;refine TL.prowS (e := 3) (size := 1) (cs := Ka (ic .i64) [Ke x.v y.v, Ke x.dst y.dst, Ke x.proto y.proto]) rfl rfl rfl rfl rfl (fun w => Kdw _ _ _ w) (by decide) rfl (fun g20 => ?_);refine TL.p1 rfl o46 (fun w1 hw => Kep (some ⟨g20, 0, none⟩) 3 3 ([Ke x.v y.v, Ke x.dst y.dst, Ke x.proto y.proto]) w1 (Kz hw (k := 0) rfl) rfl (by show 3 <= 100000; decide)) ?_;refine TL.as_ ?_;refine zET (zr ?_);exact Kc Tryz.results144 rfl (fun w1 hw => ⟨rfl, hw.bel⟩)
set_option maxRecDepth 20000
theorem eqA (d : Nat) (s1 k1 c1 l1 i1 q1 s2 k2 c2 l2 i2 q2 : Int) (w : World) : (Op.equalIn (d + 2) 74 (.agg #[.int .u32 s1, .int .i64 k1, .int .i64 c1, .int .i64 l1, .int .i64 i1, .int .i64 q1]) (.agg #[.int .u32 s2, .int .i64 k2, .int .i64 c2, .int .i64 l2, .int .i64 i2, .int .i64 q2])).run Tryz.prog w = .ok (decide (s1 = s2 /\ k1 = k2 /\ c1 = c2 /\ l1 = l2 /\ i1 = i2 /\ q1 = q2)) w := by
  have hS : Tryz.prog.underlying 74 = some (.struct (Tryz.prog.fieldsOf 74)) := by kernel_rfl
  have hp : Tryz.prog.stoodInHeld 74 = false := by kernel_rfl
  rw [run_equalIn_agg w (d + 1) 74 _ _ hS hp];simp only [Program.fieldsOf, Tryz.underlying74];have u3 := Tryz.underlying3;have u23 := Tryz.underlying42;have a3 := Tryz.isAgg3;have z3 := Tryz.sizeOf3;have a23 := Tryz.isAgg42;have z23 := Tryz.sizeOf42
  go_simp
  by_cases h1 : s1 = s2 <;> by_cases h2 : k1 = k2 <;> by_cases h3 : c1 = c2 <;> by_cases h4 : l1 = l2 <;> by_cases h5 : i1 = i2 <;> by_cases h6 : q1 = q2 <;> simp [h1, h2, h3, h4, h5, h6]
theorem eqR (v1 r1 n1 t1 d1 p1 f1 l1 k1 s1 x1 c1 y1 i1 q1 v2 r2 n2 t2 d2 p2 f2 l2 k2 s2 x2 c2 y2 i2 q2 : Int) (a1 b1 a2 b2 : Bool) (w : World) : (Op.equalIn 10000 76 (.agg #[.int .i64 v1, .int .i64 r1, .int .i64 n1, .int .i64 t1, .int .u32 d1, .int .i64 p1, .int .i64 f1, .int .i64 l1, .bool a1, .bool b1, .int .i64 k1, .int .u32 s1, .int .i64 x1, .int .i64 c1, .int .i64 y1, .int .i64 i1, .int .i64 q1]) (.agg #[.int .i64 v2, .int .i64 r2, .int .i64 n2, .int .i64 t2, .int .u32 d2, .int .i64 p2, .int .i64 f2, .int .i64 l2, .bool a2, .bool b2, .int .i64 k2, .int .u32 s2, .int .i64 x2, .int .i64 c2, .int .i64 y2, .int .i64 i2, .int .i64 q2])).run Tryz.prog w = .ok (decide (v1 = v2 /\ r1 = r2 /\ n1 = n2 /\ t1 = t2 /\ d1 = d2 /\ p1 = p2 /\ f1 = f2 /\ l1 = l2 /\ a1 = a2 /\ b1 = b2 /\ k1 = k2 /\ s1 = s2 /\ x1 = x2 /\ c1 = c2 /\ y1 = y2 /\ i1 = i2 /\ q1 = q2)) w := by
  have hS : Tryz.prog.underlying 76 = some (.struct (Tryz.prog.fieldsOf 76)) := by kernel_rfl
  have hp : Tryz.prog.stoodInHeld 76 = false := by kernel_rfl
  rw [show (10000 : Nat) = 9999 + 1 from rfl, run_equalIn_agg w 9999 76 _ _ hS hp];simp only [Program.fieldsOf, Tryz.underlying76];have u3 := Tryz.underlying3;have u4 := Tryz.underlying4;have u23 := Tryz.underlying42;have a3 := Tryz.isAgg3;have a4 := Tryz.isAgg4;have z3 := Tryz.sizeOf3;have z4 := Tryz.sizeOf4;have a23 := Tryz.isAgg42;have z23 := Tryz.sizeOf42;have a25 := Tryz.isAgg74;have z25 := Tryz.sizeOf74;have eqA' := eqA 9997
  go_simp
  by_cases h0 : v1 = v2
  rotate_left
  · simp [h0]
  subst h0;by_cases h1 : r1 = r2
  rotate_left
  · simp [h1]
  subst h1;by_cases h2 : n1 = n2
  rotate_left
  · simp [h2]
  subst h2;by_cases h3 : t1 = t2
  rotate_left
  · simp [h3]
  subst h3;by_cases h4 : d1 = d2
  rotate_left
  · simp [h4]
  subst h4;by_cases h5 : p1 = p2
  rotate_left
  · simp [h5]
  subst h5;by_cases h6 : f1 = f2
  rotate_left
  · simp [h6]
  subst h6;by_cases h7 : l1 = l2
  rotate_left
  · simp [h7]
  subst h7;by_cases h8 : a1 = a2
  rotate_left
  · simp [h8]
  subst h8;by_cases h9 : b1 = b2
  rotate_left
  · simp [h9]
  subst h9;by_cases h10 : k1 = k2
  rotate_left
  · simp [h10]
  subst h10;by_cases e1 : s1 = s2 <;> by_cases e2 : x1 = x2 <;> by_cases e3 : c1 = c2 <;> by_cases e4 : y1 = y2 <;> by_cases e5 : i1 = i2 <;> by_cases e6 : q1 = q2 <;> simp [e1, e2, e3, e4, e5, e6]
theorem Kgr (s1 k1 c1 l1 i1 q1 s2 k2 c2 l2 i2 q2 : Int) {x y : Operand} (w : World) : (do eqGuard .neq 74 x y (.agg #[.int .u32 s1, .int .i64 k1, .int .i64 c1, .int .i64 l1, .int .i64 i1, .int .i64 q1]) (.agg #[.int .u32 s2, .int .i64 k2, .int .i64 c2, .int .i64 l2, .int .i64 i2, .int .i64 q2]); binOp .neq 74 (.agg #[.int .u32 s1, .int .i64 k1, .int .i64 c1, .int .i64 l1, .int .i64 i1, .int .i64 q1]) (.agg #[.int .u32 s2, .int .i64 k2, .int .i64 c2, .int .i64 l2, .int .i64 i2, .int .i64 q2]) : Sem Value).run Tryz.prog w = .ok (.bool (!decide (s1 = s2 /\ k1 = k2 /\ c1 = c2 /\ l1 = l2 /\ i1 = i2 /\ q1 = q2))) w := by
  have hm : Tryz.prog.eqGuardType Tryz.prog.depth 74 = false := by kernel_rfl
  simp only [Sem.run_bind, run_eqGuard_agg w .neq 74 x y _ _ hm, Result.andThen_ok, run_neq_struct, show (10000 : Nat) = 9998 + 2 from rfl, eqA 9998]
set_option maxRecDepth 20000
def Rs.cells (r : Rs) : List Value := [.int .i64 r.v, .int .i64 r.run, .int .i64 r.num, .int .i64 r.at_, .int .u32 r.dst, .int .i64 r.proto, .int .i64 r.flow, .int .i64 r.ttl, .bool r.ans, .bool r.dbl, .int .i64 r.back, .int .u32 r.src, .int .i64 r.kind, .int .i64 r.code, .int .i64 r.left, .int .i64 r.id, .int .i64 r.quo]
theorem Kbu (n m : Int) (w : World) :
  Calls Tryz.prog 207 #[.int .i64 n, .int .i64 m] w fun e w' => e = .returned (.bool (decide (0 <= n /\ n <= m))) /\ Below w.heap.size w w' := by
 refine Kg Tryz.func207 rfl rfl rfl ?_ (Pm.start w);refine zSG (TL.as_ ?_);refine zET (zSG (TL.mv ?_));refine TL.vw rfl (Kn rfl rfl rfl (fun w => Ka1 w)) (fun h6 => ?_) (fun h6 => ?_)
 ·refine TL.rn 3 rfl (TL.gu ?_);refine TL.vw rfl (Kn rfl rfl rfl (fun w => Ka8 w)) (fun h10 => ?_) (fun h10 => ?_)
  ·refine TL.rn 2 rfl (zET (zr ?_));exact Kc Tryz.results207 rfl (fun w1 hw => ⟨Kgv (by simp only [decide_eq_true_eq, decide_eq_false_iff_not] at *; omega), hw.bel⟩)
  refine TL.rn 2 rfl (zET (zr ?_));exact Kc Tryz.results207 rfl (fun w1 hw => ⟨KdS (by simp only [decide_eq_true_eq, decide_eq_false_iff_not] at *; omega), hw.bel⟩)
 refine TL.rn 6 rfl (zET (zr ?_));exact Kc Tryz.results207 rfl (fun w1 hw => ⟨KdS (by simp only [decide_eq_true_eq, decide_eq_false_iff_not] at *; omega), hw.bel⟩)
theorem Kkv (v r : Int) (w : World) :
  Calls Tryz.prog 206 #[.int .i64 v, .int .i64 r] w fun e w' => e = .returned (.bool (decide (0 <= v /\ v <= 15 /\ 0 <= r /\ r <= 63))) /\ Below w.heap.size w w' := by
 refine Kg Tryz.func206 rfl rfl rfl ?_ (Pm.start w);refine zSG (TL.as_ ?_);refine zET (zSG (TL.mv ?_));refine TL.pS rfl KbB (fun w1 hw => Kbu (v) (15) w1) (fun h6 => ?_) (fun h6 => ?_)
 ·refine TL.rn 2 rfl (TL.gu ?_);refine TL.pS rfl KbB (fun w1 hw => Kbu (r) (63) w1) (fun h9 => ?_) (fun h9 => ?_)
  ·refine TL.rn 2 rfl (zET (zr ?_));exact Kc Tryz.results206 rfl (fun w1 hw => ⟨Kgv (by simp only [decide_eq_true_eq, decide_eq_false_iff_not] at *; omega), hw.bel⟩)
  refine TL.rn 2 rfl (zET (zr ?_));exact Kc Tryz.results206 rfl (fun w1 hw => ⟨KdS (by simp only [decide_eq_true_eq, decide_eq_false_iff_not] at *; omega), hw.bel⟩)
 refine TL.rn 5 rfl (zET (zr ?_));exact Kc Tryz.results206 rfl (fun w1 hw => ⟨KdS (by simp only [decide_eq_true_eq, decide_eq_false_iff_not] at *; omega), hw.bel⟩)
set_option maxRecDepth 20000
theorem KR : FA Tryz.prog 76 11 11 := fun g o w => by kernel_rfl
theorem Ken (w : World) : (isAgg 74).run Tryz.prog w = .ok true w := rfl
theorem Kdd (w : World) : (sizeOf 74).run Tryz.prog w = .ok 6 w := rfl
theorem Kmb (w : World) : (zeroValue 74).run Tryz.prog w = .ok (.agg #[.int .u32 0, .int .i64 0, .int .i64 0, .int .i64 0, .int .i64 0, .int .i64 0]) w := rfl
theorem Kdu : FA Tryz.prog 76 0 0 := fun g o w => by kernel_rfl
theorem Ke3 : FA Tryz.prog 76 1 1 := fun g o w => by kernel_rfl
theorem Ke5 : FA Tryz.prog 76 2 2 := fun g o w => by kernel_rfl
theorem KcI : FA Tryz.prog 76 3 3 := fun g o w => by kernel_rfl
theorem Kcq : FA Tryz.prog 76 10 10 := fun g o w => by kernel_rfl
theorem KbC : FA Tryz.prog 76 6 6 := fun g o w => by kernel_rfl
theorem Kav : FA Tryz.prog 76 7 7 := fun g o w => by kernel_rfl
theorem KcA : FA Tryz.prog 76 5 5 := fun g o w => by kernel_rfl
theorem Kc3 : FA Tryz.prog 76 9 9 := fun g o w => by kernel_rfl
theorem Kat (w : World) : (isAgg 4).run Tryz.prog w = .ok false w := rfl
theorem Ka0 : FA Tryz.prog 76 8 8 := fun g o w => by kernel_rfl
theorem Kff  (w : World) : (Instr.build 74 #[]).run Tryz.prog w = .ok (.agg #[.int .u32 0, .int .i64 0, .int .i64 0, .int .i64 0, .int .i64 0, .int .i64 0]) w := by kernel_rfl
theorem Kcx : FA Tryz.prog 74 1 1 := fun g o w => by kernel_rfl
theorem Kez : FA Tryz.prog 74 2 2 := fun g o w => by kernel_rfl
theorem Kd4 : FA Tryz.prog 74 3 3 := fun g o w => by kernel_rfl
theorem Kea : FA Tryz.prog 74 5 5 := fun g o w => by kernel_rfl
theorem Kc1 : FA Tryz.prog 74 4 4 := fun g o w => by kernel_rfl
theorem KlT (r : Rs) (w : World) :
  Calls Tryz.prog 139 #[.agg r.cells.toArray] w fun e w' => e = .returned (.int .i64 (Kaf r)) /\ Below w.heap.size w w' := by
 refine Kg Tryz.func139 rfl rfl rfl ?_ (Pm.start w);refine zSG ?_;refine TL.bx fun g1 => ?_;refine TL.as_ ?_;refine zET (zSG (TL.v (gF KR) ?_));refine TL.v (gV 0 (.agg #[.int .u32 r.src, .int .i64 r.kind, .int .i64 r.code, .int .i64 r.left, .int .i64 r.id, .int .i64 r.quo]) Ken Kdd) ?_;refine TL.al Kmb fun g3 => ?_;refine TL.ps 0 Kdd ?_;refine zET (zS (zB ?_));refine TC.join (α := {b : Bool // b = true ↔ ¬ r.inRange}) (fun y => [(1, .pointer (some ⟨g1, 0, none⟩)), (2, .int .i64 0), (3, .pointer (some ⟨g3, 0, none⟩)), (6, .bool y.1)]) (fun y => Pm w [.blk g3 74 [.int .u32 r.src, .int .i64 r.kind, .int .i64 r.code, .int .i64 r.left, .int .i64 r.id, .int .i64 r.quo], .blk g1 76 r.cells]) ?_ ?_
 ·refine zSG (TL.v (gF Kdu) ?_);refine TL.v (gL 1 Kb) ?_;refine TL.v (gF Ke3) ?_;refine TL.v (gL 1 Kb) ?_;refine TL.pS rfl Kkj (fun w1 hw => Kkv r.v r.run w1) (fun h11 => ?_) (fun h11 => ?_)
  ·have q11 := of_decide_eq_true h11;refine TL.rn 2 rfl (zET (zd (zSG (TL.v (gF Ke5) ?_))));refine TL.v (gL 1 Kb) ?_;refine TL.pS rfl KbB (fun w1 hw => Kbu r.num 999 w1) (fun h15 => ?_) (fun h15 => ?_)
   ·have q15 := of_decide_eq_true h15;refine TL.rn 2 rfl (zET (zd (zSG (TL.v (gF KcI) ?_))));refine TL.v (gL 1 Kb) ?_;refine TL.pS rfl KbB (fun w1 hw => Kbu r.at_ 2251799813685248 w1) (fun h19 => ?_) (fun h19 => ?_)
    ·have q19 := of_decide_eq_true h19;refine TL.rn 2 rfl (zET (zd (zSG (TL.v (gF Kcq) ?_))));refine TL.v (gL 1 Kb) ?_;refine TL.pS rfl KbB (fun w1 hw => Kbu r.back 2251799813685248 w1) (fun h23 => ?_) (fun h23 => ?_)
     ·have q23 := of_decide_eq_true h23;refine TL.rn 2 rfl (zET (zd (zSG (TL.v (gF Kcq) ?_))));refine TL.v (gL 1 Kb) ?_;refine TL.v (gF KcI) ?_;refine TL.v (gL 1 Kb) ?_;refine TL.sp Km (fun q29 => ?_) (fun q29 => ?_)
      ·refine TL.as_ ?_;refine zET (zc (zk ?_));exact TX.jd (⟨true, ⟨fun _ => by unfold Rs.inRange; omega, fun _ => rfl⟩⟩) (fun w1 hw => hw)
      refine TL.as_ ?_;refine zET (zd (zSG (TL.v (gF KbC) ?_)));refine TL.v (gL 1 Kb) ?_;refine TL.pS rfl KbB (fun w1 hw => Kbu r.flow 1023 w1) (fun h32 => ?_) (fun h32 => ?_)
      ·have q32 := of_decide_eq_true h32;refine TL.rn 2 rfl (zET (zd (zG (TL.v (gF Kav) ?_))));refine TL.v (gL 1 Kb) ?_;refine TL.sp Km (fun q36 => ?_) (fun q36 => ?_)
       ·refine TL.rn 6 rfl (zE ?_);exact TX.jd (⟨true, ⟨fun _ => by unfold Rs.inRange; omega, fun _ => rfl⟩⟩) (fun w1 hw => hw)
       refine TL.mv ?_;refine TL.ov (gF Kav) ?_;refine TL.ov (gL 1 Kb) ?_;refine TL.gu ?_;refine TL.sp KP (fun q40 => ?_) (fun q40 => ?_)
       ·refine TL.rn 2 rfl (zE ?_);exact TX.jd (⟨true, ⟨fun _ => by unfold Rs.inRange; omega, fun _ => rfl⟩⟩) (fun w1 hw => hw)
       refine TL.rn 2 rfl (zE ?_);exact TX.jd (⟨false, ⟨fun h => (by cases h), fun h => absurd h (by unfold Rs.inRange; omega)⟩⟩) (fun w1 hw => hw)
      have q32 := of_decide_eq_false h32;refine TL.rn 2 rfl (zET (zc (zk ?_)));exact TX.jd (⟨true, ⟨fun _ => by unfold Rs.inRange; omega, fun _ => rfl⟩⟩) (fun w1 hw => hw)
     have q23 := of_decide_eq_false h23;refine TL.rn 2 rfl (zET (zc (zk ?_)));exact TX.jd (⟨true, ⟨fun _ => by unfold Rs.inRange; omega, fun _ => rfl⟩⟩) (fun w1 hw => hw)
    have q19 := of_decide_eq_false h19;refine TL.rn 2 rfl (zET (zc (zk ?_)));exact TX.jd (⟨true, ⟨fun _ => by unfold Rs.inRange; omega, fun _ => rfl⟩⟩) (fun w1 hw => hw)
   have q15 := of_decide_eq_false h15;refine TL.rn 2 rfl (zET (zc (zk ?_)));exact TX.jd (⟨true, ⟨fun _ => by unfold Rs.inRange; omega, fun _ => rfl⟩⟩) (fun w1 hw => hw)
  have q11 := of_decide_eq_false h11;refine TL.rn 2 rfl (zET (zc (zk ?_)));exact TX.jd (⟨true, ⟨fun _ => by unfold Rs.inRange; omega, fun _ => rfl⟩⟩) (fun w1 hw => hw)
 rintro ⟨b1, hb1⟩;dsimp only at hb1 ⊢;refine TC.split (t := b1) rfl (fun c6 => ?_) (fun c6 => ?_)
 ·refine zSG (TL.as_ ?_);refine zET (zr (zRR ?_));exact Kc Tryz.results139 rfl (fun w1 hw => ⟨congrArg (fun z : Int => Ending.returned (Value.int .i64 z)) ((by first | exact Khl hb1 hb2 hb3 hb4 (by assumption) (by assumption) (by assumption) (by assumption) | exact Kho hb1 (by assumption))), hw.bel⟩)
 refine TC.join (α := {b : Bool // b = true ↔ ¬ (r.proto = 1 \/ r.proto = 6 \/ r.proto = 17)}) (fun y => [(1, .pointer (some ⟨g1, 0, none⟩)), (2, .int .i64 0), (3, .pointer (some ⟨g3, 0, none⟩)), (42, .bool y.1)]) (fun y => Pm w [.blk g3 74 [.int .u32 r.src, .int .i64 r.kind, .int .i64 r.code, .int .i64 r.left, .int .i64 r.id, .int .i64 r.quo], .blk g1 76 r.cells]) ?_ ?_
 ·refine zG (TL.v (gF KcA) ?_);refine TL.v (gL 1 Kb) ?_;refine TL.sp K1 (fun q45 => ?_) (fun q45 => ?_)
  ·refine TL.mv ?_;refine TL.ov (gF KcA) ?_;refine TL.ov (gL 1 Kb) ?_;refine TL.gu ?_;refine TL.sp K1 (fun q49 => ?_) (fun q49 => ?_)
   ·refine TL.rn 2 rfl (TL.ov (gF KcA) ?_);refine TL.ov (gL 1 Kb) ?_;refine TL.gu ?_;refine TL.sp K1 (fun q54 => ?_) (fun q54 => ?_)
    ·refine TL.rn 2 rfl (zE ?_);exact TX.jd (⟨true, ⟨fun _ => by omega, fun _ => rfl⟩⟩) (fun w1 hw => hw)
    refine TL.rn 2 rfl (zE ?_);exact TX.jd (⟨false, ⟨fun h => (by cases h), fun h => absurd h (by omega)⟩⟩) (fun w1 hw => hw)
   refine TL.rn 7 rfl (zE ?_);exact TX.jd (⟨false, ⟨fun h => (by cases h), fun h => absurd h (by omega)⟩⟩) (fun w1 hw => hw)
  refine TL.rn 11 rfl (zE ?_);exact TX.jd (⟨false, ⟨fun h => (by cases h), fun h => absurd h (by omega)⟩⟩) (fun w1 hw => hw)
 rintro ⟨b2, hb2⟩;dsimp only at hb2 ⊢;refine TC.split (t := b2) rfl (fun c42 => ?_) (fun c42 => ?_)
 ·refine zSG (TL.as_ ?_);refine zET (zr (zRR ?_));exact Kc Tryz.results139 rfl (fun w1 hw => ⟨congrArg (fun z : Int => Ending.returned (Value.int .i64 z)) (Kj8 hb1 hb2 (by assumption) (by assumption)), hw.bel⟩)
 refine TC.join (α := {b : Bool // b = true ↔ (r.dbl = true /\ r.ans = false) \/ (r.ans = false /\ r.noAns = false)}) (fun y => [(1, .pointer (some ⟨g1, 0, none⟩)), (2, .int .i64 0), (3, .pointer (some ⟨g3, 0, none⟩)), (56, .bool y.1)]) (fun y => Pm w [.blk g3 74 [.int .u32 r.src, .int .i64 r.kind, .int .i64 r.code, .int .i64 r.left, .int .i64 r.id, .int .i64 r.quo], .blk g1 76 r.cells]) ?_ ?_
 ·refine zSG (TL.v (gF Kc3) ?_);refine TL.vw rfl (gL 1 Kat) (fun h58 => ?_) (fun h58 => ?_)
  ·refine TL.mv ?_;refine TL.ov (gF Ka0) ?_;refine TL.gu ?_;refine TL.vw rfl (gL 1 Kat) (fun h61 => ?_) (fun h61 => ?_)
   ·refine TL.rn 3 rfl (zET (zd (zG (TL.v (gF Ka0) ?_))));refine TL.vw rfl (gL 1 Kat) (fun h65 => ?_) (fun h65 => ?_)
    ·refine TL.rn 7 rfl (zE ?_);exact TX.jd (⟨false, by simp_all⟩) (fun w1 hw => hw)
    refine TL.rn 2 rfl (TL.ov (gV 0 (.agg #[.int .u32 r.src, .int .i64 r.kind, .int .i64 r.code, .int .i64 r.left, .int .i64 r.id, .int .i64 r.quo]) Ken Kdd) ?_);refine TL.gu ?_;refine TL.w rfl (Kj (v := .agg #[.int .u32 0, .int .i64 0, .int .i64 0, .int .i64 0, .int .i64 0, .int .i64 0]) rfl rfl (fun w => Kff  w)) ?_;refine TL.gu ?_;refine TL.vw rfl ((Ka5 (v := .bool (!r.noAns)) rfl rfl rfl (fun w => (Kgr _ _ _ _ _ _ _ _ _ _ _ _ w).trans (by unfold Rs.noAns; rfl)))) (fun h70 => ?_) (fun h70 => ?_)
    ·refine TL.rn 2 rfl (zE ?_);exact TX.jd (⟨true, by simp_all⟩) (fun w1 hw => hw)
    refine TL.rn 2 rfl (zE ?_);exact TX.jd (⟨false, by simp_all⟩) (fun w1 hw => hw)
   refine TL.rn 3 rfl (zET (zc (zk ?_)));exact TX.jd (⟨true, by simp_all⟩) (fun w1 hw => hw)
  refine TL.rn 6 rfl (zET (zd (zG (TL.v (gF Ka0) ?_))));refine TL.vw rfl (gL 1 Kat) (fun h65 => ?_) (fun h65 => ?_)
  ·refine TL.rn 7 rfl (zE ?_);exact TX.jd (⟨false, by simp_all⟩) (fun w1 hw => hw)
  refine TL.rn 2 rfl (TL.ov (gV 0 (.agg #[.int .u32 r.src, .int .i64 r.kind, .int .i64 r.code, .int .i64 r.left, .int .i64 r.id, .int .i64 r.quo]) Ken Kdd) ?_);refine TL.gu ?_;refine TL.w rfl (Kj (v := .agg #[.int .u32 0, .int .i64 0, .int .i64 0, .int .i64 0, .int .i64 0, .int .i64 0]) rfl rfl (fun w => Kff  w)) ?_;refine TL.gu ?_;refine TL.vw rfl ((Ka5 (v := .bool (!r.noAns)) rfl rfl rfl (fun w => (Kgr _ _ _ _ _ _ _ _ _ _ _ _ w).trans (by unfold Rs.noAns; rfl)))) (fun h70 => ?_) (fun h70 => ?_)
  ·refine TL.rn 2 rfl (zE ?_);exact TX.jd (⟨true, by simp_all⟩) (fun w1 hw => hw)
  refine TL.rn 2 rfl (zE ?_);exact TX.jd (⟨false, by simp_all⟩) (fun w1 hw => hw)
 rintro ⟨b3, hb3⟩;dsimp only at hb3 ⊢;refine TC.split (t := b3) rfl (fun c56 => ?_) (fun c56 => ?_)
 ·refine zSG (TL.as_ ?_);refine zET (zr (zRR ?_));exact Kc Tryz.results139 rfl (fun w1 hw => ⟨congrArg (fun z : Int => Ending.returned (Value.int .i64 z)) (Kjf hb1 hb2 hb3 (by assumption) (by assumption) (by assumption)), hw.bel⟩)
 refine TC.join (α := {b : Bool // b = true ↔ r.ans = true /\ ¬ r.ansOk}) (fun y => [(1, .pointer (some ⟨g1, 0, none⟩)), (2, .int .i64 0), (3, .pointer (some ⟨g3, 0, none⟩)), (72, .bool y.1)]) (fun y => Pm w [.blk g3 74 [.int .u32 r.src, .int .i64 r.kind, .int .i64 r.code, .int .i64 r.left, .int .i64 r.id, .int .i64 r.quo], .blk g1 76 r.cells]) ?_ ?_
 ·refine zG (TL.v (gF Ka0) ?_);refine TL.vw rfl (gL 1 Kat) (fun h74 => ?_) (fun h74 => ?_)
  ·refine TL.mv ?_;refine TL.ov (gF Kcx) ?_;refine TL.ov (gL 0 Kb) ?_;refine TL.gu ?_;refine TL.sp Km (fun q78 => ?_) (fun q78 => ?_)
   ·refine TL.rn 31 rfl (zE ?_);exact TX.jd (⟨true, ⟨fun _ => ⟨by assumption, by unfold Rs.ansOk; omega⟩, fun _ => rfl⟩⟩) (fun w1 hw => hw)
   refine TL.rn 1 rfl (TL.ov (gF Kcx) ?_);refine TL.ov (gL 0 Kb) ?_;refine TL.gu ?_;refine TL.sp KP (fun q82 => ?_) (fun q82 => ?_)
   ·refine TL.rn 27 rfl (zE ?_);exact TX.jd (⟨true, ⟨fun _ => ⟨by assumption, by unfold Rs.ansOk; omega⟩, fun _ => rfl⟩⟩) (fun w1 hw => hw)
   refine TL.rn 2 rfl (TL.ov (gF Kez) ?_);refine TL.ov (gL 0 Kb) ?_;refine TL.gu ?_;refine TL.pS rfl KbB (fun w1 hw => Kbu r.code 255 w1) (fun h87 => ?_) (fun h87 => ?_)
   ·have q87 := of_decide_eq_true h87;refine TL.rn 3 rfl (TL.ov (gF Kd4) ?_);refine TL.ov (gL 0 Kb) ?_;refine TL.gu ?_;refine TL.pS rfl KbB (fun w1 hw => Kbu r.left 255 w1) (fun h93 => ?_) (fun h93 => ?_)
    ·have q93 := of_decide_eq_true h93;refine TL.rn 3 rfl (TL.ov (gF Kea) ?_);refine TL.ov (gL 0 Kb) ?_;refine TL.gu ?_;refine TL.pS rfl KbB (fun w1 hw => Kbu r.quo 255 w1) (fun h99 => ?_) (fun h99 => ?_)
     ·have q99 := of_decide_eq_true h99;refine TL.rn 3 rfl (TL.ov (gF Kc1) ?_);refine TL.ov (gL 0 Kb) ?_;refine TL.gu ?_;refine TL.pS rfl KbB (fun w1 hw => Kbu r.id 65535 w1) (fun h105 => ?_) (fun h105 => ?_)
      ·have q105 := of_decide_eq_true h105;refine TL.rn 4 rfl (zE ?_);exact TX.jd (⟨false, ⟨fun h => (by cases h), fun h => absurd (show r.ansOk from by unfold Rs.ansOk; omega) h.2⟩⟩) (fun w1 hw => hw)
      have q105 := of_decide_eq_false h105;refine TL.rn 4 rfl (zE ?_);exact TX.jd (⟨true, ⟨fun _ => ⟨by assumption, by unfold Rs.ansOk; omega⟩, fun _ => rfl⟩⟩) (fun w1 hw => hw)
     have q99 := of_decide_eq_false h99;refine TL.rn 10 rfl (zE ?_);exact TX.jd (⟨true, ⟨fun _ => ⟨by assumption, by unfold Rs.ansOk; omega⟩, fun _ => rfl⟩⟩) (fun w1 hw => hw)
    have q93 := of_decide_eq_false h93;refine TL.rn 16 rfl (zE ?_);exact TX.jd (⟨true, ⟨fun _ => ⟨by assumption, by unfold Rs.ansOk; omega⟩, fun _ => rfl⟩⟩) (fun w1 hw => hw)
   have q87 := of_decide_eq_false h87;refine TL.rn 22 rfl (zE ?_);exact TX.jd (⟨true, ⟨fun _ => ⟨by assumption, by unfold Rs.ansOk; omega⟩, fun _ => rfl⟩⟩) (fun w1 hw => hw)
  refine TL.rn 5 rfl ?_;refine TL.offU rfl rfl rfl rfl rfl ?_;refine TL.offU rfl rfl rfl rfl rfl ?_;refine TL.offU rfl rfl rfl rfl rfl ?_;refine TL.rn 2 rfl ?_;refine TL.offU rfl rfl rfl rfl rfl ?_;refine TL.offU rfl rfl rfl rfl rfl ?_;refine TL.offU rfl rfl rfl rfl rfl ?_;refine TL.offU rfl rfl rfl rfl rfl ?_;refine TL.rn 2 rfl ?_;refine TL.offU rfl rfl rfl rfl rfl ?_;refine TL.offU rfl rfl rfl rfl rfl ?_;refine TL.offU rfl rfl rfl rfl rfl ?_;refine TL.offU rfl rfl rfl rfl rfl ?_;refine TL.rn 2 rfl ?_;refine TL.offU rfl rfl rfl rfl rfl ?_;refine TL.offU rfl rfl rfl rfl rfl ?_;refine TL.offU rfl rfl rfl rfl rfl ?_;refine TL.offU rfl rfl rfl rfl rfl ?_;refine TL.rn 2 rfl ?_;refine TL.offU rfl rfl rfl rfl rfl ?_;refine TL.offU rfl rfl rfl rfl rfl ?_;refine TL.offU rfl rfl rfl rfl rfl ?_;refine TL.offU rfl rfl rfl rfl rfl ?_;refine TL.rn 3 rfl (zE ?_);exact TX.jd (⟨false, ⟨fun h => (by cases h), fun h => (by simp_all)⟩⟩) (fun w1 hw => hw)
 rintro ⟨b4, hb4⟩;dsimp only at hb4 ⊢;refine TC.split (t := b4) rfl (fun c72 => ?_) (fun c72 => ?_)
 ·refine zSG (TL.as_ ?_);refine zET (zr (zRR ?_));exact Kc Tryz.results139 rfl (fun w1 hw => ⟨congrArg (fun z : Int => Ending.returned (Value.int .i64 z)) ((by first | exact Khl hb1 hb2 hb3 hb4 (by assumption) (by assumption) (by assumption) (by assumption) | exact Kho hb1 (by assumption))), hw.bel⟩)
 refine zk (zN (zT (zSG ?_)));refine TL.as_ ?_;refine zET (zr ?_);exact Kc Tryz.results139 rfl (fun w1 hw => ⟨congrArg (fun z : Int => Ending.returned (Value.int .i64 z)) (Kjo hb1 hb2 hb3 hb4 (by assumption) (by assumption) (by assumption) (by assumption)), hw.bel⟩)
set_option maxRecDepth 20000
theorem Kt : Cel Rs.cells 17 := ⟨fun _ => rfl, fun x u hu => by
 simp only [Rs.cells, List.mem_cons, List.not_mem_nil, or_false] at hu;rcases hu with rfl | rfl | rfl | rfl | rfl | rfl | rfl | rfl | rfl | rfl | rfl | rfl | rfl | rfl | rfl | rfl | rfl <;> rfl⟩
def Ks (r : Rs) : Bool := decide (Kaf r = 0) && decide (r.dst ≠ 0) && (!r.ans || decide (r.src ≠ 0))
def KaB (r : Rs) : Bool := !r.dbl && Ks r
def Kby (r : Rs) : Bool := r.ans && decide (r.kind ≠ 1) && KaB r
def b2i (b : Bool) : Int := if b then 1 else 0
def Rs.keys (a : Rs) : List Int := [a.at_, a.v, a.run, a.num, IntKind.i64.wrap a.dst, a.proto, a.flow, a.ttl, b2i a.ans, b2i a.dbl, a.back, IntKind.i64.wrap a.src, a.kind, a.code, a.left, a.id, a.quo]
def Kcu (a b : Rs) : Int := Ky a.keys b.keys
def KaJ (a b : Rs) : List (Int × Int) := [(a.at_, b.at_), (a.v, b.v), (a.run, b.run), (a.num, b.num), (IntKind.i64.wrap a.dst, IntKind.i64.wrap b.dst), (a.proto, b.proto), (a.flow, b.flow), (a.ttl, b.ttl), (b2i a.ans, b2i b.ans), (b2i a.dbl, b2i b.dbl), (a.back, b.back), (IntKind.i64.wrap a.src, IntKind.i64.wrap b.src), (a.kind, b.kind), (a.code, b.code), (a.left, b.left), (a.id, b.id), (a.quo, b.quo)]
def orP (l : List (Int × Int)) : Int := orI (l.map fun p => Ke p.1 p.2)
theorem Kg4 (p : Int × Int) (l : List (Int × Int)) : orP (p :: l) = if Ke p.1 p.2 = 0 then orP l else Ke p.1 p.2 := rfl
theorem KfZ (a b : Rs) : Kcu a b = orP (KaJ a b) := rfl
def Kw (r : Rs) : Trc := ⟨r.v, r.dst, r.proto⟩
theorem Kh3 (w : World) : (isAgg 228).run Tryz.prog w = .ok true w := rfl
theorem Ke8 (w : World) : (sizeOf 228).run Tryz.prog w = .ok 2 w := rfl
theorem KG (w : World) : (isAgg 76).run Tryz.prog w = .ok true w := rfl
theorem Ki (w : World) : (sizeOf 76).run Tryz.prog w = .ok 17 w := rfl
theorem KdI : FA Tryz.prog 76 4 4 := fun g o w => by kernel_rfl
theorem Kbs : FA Tryz.prog 74 0 0 := fun g o w => by kernel_rfl
theorem K6 (a0_0 : Int) (a1_0 : Int) (w : World) : (Instr.build 228 #[(0, .int .i64 a0_0), (1, .int .i64 a1_0)]).run Tryz.prog w = .ok (.agg #[.int .i64 a0_0, .int .i64 a1_0]) w := by kernel_rfl
theorem Kll (a0_0 : Int) (a0_1 : Int) (a1_0 : Int) (a1_1 : Int) (a2_0 : Int) (a2_1 : Int) (a3_0 : Int) (a3_1 : Int) (a4_0 : Int) (a4_1 : Int) (a5_0 : Int) (a5_1 : Int) (a6_0 : Int) (a6_1 : Int) (a7_0 : Int) (a7_1 : Int) (a8_0 : Int) (a8_1 : Int) (a9_0 : Int) (a9_1 : Int) (a10_0 : Int) (a10_1 : Int) (a11_0 : Int) (a11_1 : Int) (a12_0 : Int) (a12_1 : Int) (a13_0 : Int) (a13_1 : Int) (a14_0 : Int) (a14_1 : Int) (a15_0 : Int) (a15_1 : Int) (a16_0 : Int) (a16_1 : Int) (w : World) : (Instr.build 280 #[(0, .agg #[.int .i64 a0_0, .int .i64 a0_1]), (1, .agg #[.int .i64 a1_0, .int .i64 a1_1]), (2, .agg #[.int .i64 a2_0, .int .i64 a2_1]), (3, .agg #[.int .i64 a3_0, .int .i64 a3_1]), (4, .agg #[.int .i64 a4_0, .int .i64 a4_1]), (5, .agg #[.int .i64 a5_0, .int .i64 a5_1]), (6, .agg #[.int .i64 a6_0, .int .i64 a6_1]), (7, .agg #[.int .i64 a7_0, .int .i64 a7_1]), (8, .agg #[.int .i64 a8_0, .int .i64 a8_1]), (9, .agg #[.int .i64 a9_0, .int .i64 a9_1]), (10, .agg #[.int .i64 a10_0, .int .i64 a10_1]), (11, .agg #[.int .i64 a11_0, .int .i64 a11_1]), (12, .agg #[.int .i64 a12_0, .int .i64 a12_1]), (13, .agg #[.int .i64 a13_0, .int .i64 a13_1]), (14, .agg #[.int .i64 a14_0, .int .i64 a14_1]), (15, .agg #[.int .i64 a15_0, .int .i64 a15_1]), (16, .agg #[.int .i64 a16_0, .int .i64 a16_1])]).run Tryz.prog w = .ok (.agg #[.int .i64 a0_0, .int .i64 a0_1, .int .i64 a1_0, .int .i64 a1_1, .int .i64 a2_0, .int .i64 a2_1, .int .i64 a3_0, .int .i64 a3_1, .int .i64 a4_0, .int .i64 a4_1, .int .i64 a5_0, .int .i64 a5_1, .int .i64 a6_0, .int .i64 a6_1, .int .i64 a7_0, .int .i64 a7_1, .int .i64 a8_0, .int .i64 a8_1, .int .i64 a9_0, .int .i64 a9_1, .int .i64 a10_0, .int .i64 a10_1, .int .i64 a11_0, .int .i64 a11_1, .int .i64 a12_0, .int .i64 a12_1, .int .i64 a13_0, .int .i64 a13_1, .int .i64 a14_0, .int .i64 a14_1, .int .i64 a15_0, .int .i64 a15_1, .int .i64 a16_0, .int .i64 a16_1]) w := by kernel_rfl
theorem KkY (w : World) : (zeroValue 280).run Tryz.prog w = .ok (.agg #[.int .i64 0, .int .i64 0, .int .i64 0, .int .i64 0, .int .i64 0, .int .i64 0, .int .i64 0, .int .i64 0, .int .i64 0, .int .i64 0, .int .i64 0, .int .i64 0, .int .i64 0, .int .i64 0, .int .i64 0, .int .i64 0, .int .i64 0, .int .i64 0, .int .i64 0, .int .i64 0, .int .i64 0, .int .i64 0, .int .i64 0, .int .i64 0, .int .i64 0, .int .i64 0, .int .i64 0, .int .i64 0, .int .i64 0, .int .i64 0, .int .i64 0, .int .i64 0, .int .i64 0, .int .i64 0]) w := rfl
theorem KgL (w : World) : (sizeOf 280).run Tryz.prog w = .ok 34 w := rfl
theorem Ki1 (w : World) : (isAgg 280).run Tryz.prog w = .ok true w := rfl
theorem Khs (w : World) : (zeroValue 228).run Tryz.prog w = .ok (.agg #[.int .i64 0, .int .i64 0]) w := rfl
theorem Kdx (w : World) : (zeroValue 48).run Tryz.prog w = .ok (.agg #[.int .i64 0, .int .u32 0, .int .i64 0]) w := rfl
theorem Khf (a0_0 : Int) (a1_0 : Int) (a2_0 : Int) (w : World) : (Instr.build 48 #[(0, .int .i64 a0_0), (1, .int .u32 a1_0), (2, .int .i64 a2_0)]).run Tryz.prog w = .ok (.agg #[.int .i64 a0_0, .int .u32 a1_0, .int .i64 a2_0]) w := by kernel_rfl
theorem KZ (w : World) : (sizeOf 48).run Tryz.prog w = .ok 3 w := rfl
theorem KcK (r : Rs) (w : World) :
  Calls Tryz.prog 93 #[.agg r.cells.toArray] w fun e w' => e = .returned (.bool (Ks r)) /\ Below w.heap.size w w' := by
 refine Kg Tryz.func93 rfl rfl rfl ?_ (Pm.start w);refine zSG ?_;refine TL.bx fun g1 => ?_;refine TL.as_ ?_;refine zET (zSG (TL.v (gV 0 (.agg (r.cells).toArray) KG Ki) ?_));refine TL.p1 rfl Ki6 (fun w1 hw => KlT r w1) ?_;refine TL.sp Kab (fun q5 => ?_) (fun q5 => ?_)
 ·refine TL.mv ?_;refine TL.ov (gF KdI) ?_;refine TL.ov (gL 0 Kv) ?_;refine TL.gu ?_;refine TL.sp K1 (fun q9 => ?_) (fun q9 => ?_)
  ·refine TL.rn 2 rfl (TL.ov (gF Ka0) ?_);refine TL.gu ?_;refine TL.vw rfl (gL 0 Kat) (fun h13 => ?_) (fun h13 => ?_)
   ·refine TL.rn 2 rfl (TL.ov (gF KR) ?_);refine TL.ov (gF Kbs) ?_;refine TL.ov (gL 0 Kv) ?_;refine TL.gu ?_;refine TL.sp K1 (fun q19 => ?_) (fun q19 => ?_)
    ·refine TL.rn 3 rfl (zET (zr ?_));have hE : (Ks r) = true := (by simp [Ks, q5, q9, h13, q19]);exact Kc Tryz.results93 rfl (fun w1 hw => ⟨by rw [hE]; try rfl, hw.bel⟩)
    refine TL.rn 3 rfl (zET (zr ?_));have hE : (Ks r) = false := (by simp [Ks, q5, q9, h13, q19]);exact Kc Tryz.results93 rfl (fun w1 hw => ⟨by rw [hE]; try rfl, hw.bel⟩)
   refine TL.rn 9 rfl (zET (zr ?_));have hE : (Ks r) = true := (by simp [Ks, q5, q9, h13]);exact Kc Tryz.results93 rfl (fun w1 hw => ⟨by rw [hE]; try rfl, hw.bel⟩)
  refine TL.rn 6 rfl ?_;refine TL.offU rfl rfl rfl rfl rfl ?_;refine TL.offU rfl rfl rfl rfl rfl ?_;refine TL.offU rfl rfl rfl rfl rfl ?_;refine TL.offU rfl rfl rfl rfl rfl ?_;refine TL.rn 3 rfl (zET (zr ?_));have hE : (Ks r) = false := (by simp [Ks, q5, q9]);exact Kc Tryz.results93 rfl (fun w1 hw => ⟨by rw [hE]; try rfl, hw.bel⟩)
 refine TL.rn 10 rfl ?_;refine TL.offU rfl rfl rfl rfl rfl ?_;refine TL.offU rfl rfl rfl rfl rfl ?_;refine TL.offU rfl rfl rfl rfl rfl ?_;refine TL.offU rfl rfl rfl rfl rfl ?_;refine TL.rn 3 rfl (zET (zr ?_));have hE : (Ks r) = false := (by simp [Ks, q5]);exact Kc Tryz.results93 rfl (fun w1 hw => ⟨by rw [hE]; try rfl, hw.bel⟩)
theorem Kd9 (r : Rs) (w : World) :
  Calls Tryz.prog 110 #[.agg r.cells.toArray] w fun e w' => e = .returned (.bool (KaB r)) /\ Below w.heap.size w w' := by
 refine Kg Tryz.func110 rfl rfl rfl ?_ (Pm.start w);refine zSG ?_;refine TL.bx fun g1 => ?_;refine TL.as_ ?_;refine zET (zSG (TL.v (gF Kc3) ?_));refine TL.vw rfl (gL 0 Kat) (fun h4 => ?_) (fun h4 => ?_)
 ·refine TL.rn 6 rfl (zET (zr ?_));have hE : (KaB r) = false := (by simp [KaB, h4]);exact Kc Tryz.results110 rfl (fun w1 hw => ⟨by rw [hE]; try rfl, hw.bel⟩)
 refine TL.rn 2 rfl (TL.ov (gV 0 (.agg (r.cells).toArray) KG Ki) ?_);refine TL.gu ?_;refine TL.pS rfl o93 (fun w1 hw => KcK r w1) (fun h8 => ?_) (fun h8 => ?_)
 ·refine TL.rn 2 rfl (zET (zr ?_));have hE : (KaB r) = true := (by simp [KaB, h4, h8]);exact Kc Tryz.results110 rfl (fun w1 hw => ⟨by rw [hE]; try rfl, hw.bel⟩)
 refine TL.rn 2 rfl (zET (zr ?_));have hE : (KaB r) = false := (by simp [KaB, h4, h8]);exact Kc Tryz.results110 rfl (fun w1 hw => ⟨by rw [hE]; try rfl, hw.bel⟩)
theorem Khj (r : Rs) (w : World) :
  Calls Tryz.prog 163 #[.agg r.cells.toArray] w fun e w' => e = .returned (.bool (Kby r)) /\ Below w.heap.size w w' := by
 refine Kg Tryz.func163 rfl rfl rfl ?_ (Pm.start w);refine zSG ?_;refine TL.bx fun g1 => ?_;refine TL.as_ ?_;refine zET (zSG (TL.v (gF Ka0) ?_));refine TL.vw rfl (gL 0 Kat) (fun h4 => ?_) (fun h4 => ?_)
 ·refine TL.mv ?_;refine TL.ov (gF KR) ?_;refine TL.ov (gF Kcx) ?_;refine TL.ov (gL 0 Kb) ?_;refine TL.gu ?_;refine TL.sp K1 (fun q9 => ?_) (fun q9 => ?_)
  ·refine TL.rn 2 rfl (TL.ov (gV 0 (.agg (r.cells).toArray) KG Ki) ?_);refine TL.gu ?_;refine TL.pS rfl Kd6 (fun w1 hw => Kd9 r w1) (fun h13 => ?_) (fun h13 => ?_)
   ·refine TL.rn 2 rfl (zET (zr ?_));have hE : (Kby r) = true := (by simp [Kby, h4, q9, h13]);exact Kc Tryz.results163 rfl (fun w1 hw => ⟨by rw [hE]; try rfl, hw.bel⟩)
   refine TL.rn 2 rfl (zET (zr ?_));have hE : (Kby r) = false := (by simp [Kby, h4, q9, h13]);exact Kc Tryz.results163 rfl (fun w1 hw => ⟨by rw [hE]; try rfl, hw.bel⟩)
  refine TL.rn 6 rfl (zET (zr ?_));have hE : (Kby r) = false := (by simp [Kby, h4, q9]);exact Kc Tryz.results163 rfl (fun w1 hw => ⟨by rw [hE]; try rfl, hw.bel⟩)
 refine TL.rn 11 rfl (zET (zr ?_));have hE : (Kby r) = false := (by simp [Kby, h4]);exact Kc Tryz.results163 rfl (fun w1 hw => ⟨by rw [hE]; try rfl, hw.bel⟩)
theorem Kd1 (b : Bool) (w : World) :
  Calls Tryz.prog 209 #[.bool b] w fun e w' => e = .returned (.int .i64 (b2i b)) /\ w' = w := by
 refine Kg (I := fun w1 => w1 = w) Tryz.func209 rfl rfl rfl ?_ rfl;refine zSG (TL.as_ ?_);refine zET (zS (zS ?_))
 cases b with
 | true =>
  refine zG (TL.mv ?_);refine zET (zc (zSG (TL.as_ ?_)));refine zET (zr (zR ?_));exact Kc Tryz.results209 rfl (fun w1 hw => ⟨rfl, hw⟩)
 | false =>
  refine zG (TL.mv ?_);refine zET (zd (zk (zT (zSG (TL.as_ ?_)))));refine zET (zr ?_);exact Kc Tryz.results209 rfl (fun w1 hw => ⟨rfl, hw⟩)
theorem Kim (a b : Rs) (w : World) :
  Calls Tryz.prog 141 #[.agg a.cells.toArray, .agg b.cells.toArray] w fun e w' => e = .returned (.int .i64 (Kcu a b)) /\ Below w.heap.size w w' := by
 refine Kg Tryz.func141 rfl rfl rfl ?_ (Pm.start w);refine zSG ?_;refine TL.bx fun g2 => ?_;refine TL.bx fun g3 => ?_;refine TL.as_ ?_;refine zET (zS (TC.pre 106 108 2 (Pm w [.blk g3 76 b.cells, .blk g2 76 a.cells]) (by kernel_rfl) rfl (fun w hw => hw.drawn _) (by kernel_rfl) rfl (fun w1 hw => hw) ?_));refine TV.val rfl rfl rfl (gF KcI) ?_;refine TV.val rfl rfl rfl (gL 1 Kb) ?_;refine TV.val rfl rfl rfl (gF KcI) ?_;refine TV.val rfl rfl rfl (gL 0 Kb) ?_;refine TV.val rfl rfl rfl (Kj (v := .agg #[.int .i64 a.at_, .int .i64 b.at_]) rfl rfl (fun w => K6 _ _ w)) ?_;refine TV.val rfl rfl rfl (gF Kdu) ?_;refine TV.val rfl rfl rfl (gL 1 Kb) ?_;refine TV.val rfl rfl rfl (gF Kdu) ?_;refine TV.val rfl rfl rfl (gL 0 Kb) ?_;refine TV.val rfl rfl rfl (Kj (v := .agg #[.int .i64 a.v, .int .i64 b.v]) rfl rfl (fun w => K6 _ _ w)) ?_;refine TV.val rfl rfl rfl (gF Ke3) ?_;refine TV.val rfl rfl rfl (gL 1 Kb) ?_;refine TV.val rfl rfl rfl (gF Ke3) ?_;refine TV.val rfl rfl rfl (gL 0 Kb) ?_;refine TV.val rfl rfl rfl (Kj (v := .agg #[.int .i64 a.run, .int .i64 b.run]) rfl rfl (fun w => K6 _ _ w)) ?_;refine TV.val rfl rfl rfl (gF Ke5) ?_;refine TV.val rfl rfl rfl (gL 1 Kb) ?_;refine TV.val rfl rfl rfl (gF Ke5) ?_;refine TV.val rfl rfl rfl (gL 0 Kb) ?_;refine TV.val rfl rfl rfl (Kj (v := .agg #[.int .i64 a.num, .int .i64 b.num]) rfl rfl (fun w => K6 _ _ w)) ?_;refine TV.val rfl rfl rfl (gF KdI) ?_;refine TV.val rfl rfl rfl (gL 1 Kv) ?_;refine TV.val rfl rfl rfl (Kay rfl rfl (fun w => Kdf Tryz.underlying3 Tryz.underlying42 w)) ?_;refine TV.val rfl rfl rfl (gF KdI) ?_;refine TV.val rfl rfl rfl (gL 0 Kv) ?_;refine TV.val rfl rfl rfl (Kay rfl rfl (fun w => Kdf Tryz.underlying3 Tryz.underlying42 w)) ?_;refine TV.val rfl rfl rfl (Kj (v := .agg #[.int .i64 (IntKind.i64.wrap a.dst), .int .i64 (IntKind.i64.wrap b.dst)]) rfl rfl (fun w => K6 _ _ w)) ?_;refine TV.val rfl rfl rfl (gF KcA) ?_;refine TV.val rfl rfl rfl (gL 1 Kb) ?_;refine TV.val rfl rfl rfl (gF KcA) ?_;refine TV.val rfl rfl rfl (gL 0 Kb) ?_;refine TV.val rfl rfl rfl (Kj (v := .agg #[.int .i64 a.proto, .int .i64 b.proto]) rfl rfl (fun w => K6 _ _ w)) ?_;refine TV.val rfl rfl rfl (gF KbC) ?_;refine TV.val rfl rfl rfl (gL 1 Kb) ?_;refine TV.val rfl rfl rfl (gF KbC) ?_;refine TV.val rfl rfl rfl (gL 0 Kb) ?_;refine TV.val rfl rfl rfl (Kj (v := .agg #[.int .i64 a.flow, .int .i64 b.flow]) rfl rfl (fun w => K6 _ _ w)) ?_;refine TV.val rfl rfl rfl (gF Kav) ?_;refine TV.val rfl rfl rfl (gL 1 Kb) ?_;refine TV.val rfl rfl rfl (gF Kav) ?_;refine TV.val rfl rfl rfl (gL 0 Kb) ?_;refine TV.val rfl rfl rfl (Kj (v := .agg #[.int .i64 a.ttl, .int .i64 b.ttl]) rfl rfl (fun w => K6 _ _ w)) ?_;refine TV.val rfl rfl rfl (gF Ka0) ?_;refine TV.val rfl rfl rfl (gL 1 Kat) ?_;refine TV.call (r := .int .i64 (b2i a.ans)) rfl rfl rfl rfl rfl Tryz.func209 (by decide) rfl (fun w1 hw => Kd1 a.ans w1) ?_;refine TV.val rfl rfl rfl (gF Ka0) ?_;refine TV.val rfl rfl rfl (gL 0 Kat) ?_;refine TV.call (r := .int .i64 (b2i b.ans)) rfl rfl rfl rfl rfl Tryz.func209 (by decide) rfl (fun w1 hw => Kd1 b.ans w1) ?_;refine TV.val rfl rfl rfl (Kj (v := .agg #[.int .i64 (b2i a.ans), .int .i64 (b2i b.ans)]) rfl rfl (fun w => K6 _ _ w)) ?_;refine TV.val rfl rfl rfl (gF Kc3) ?_;refine TV.val rfl rfl rfl (gL 1 Kat) ?_;refine TV.call (r := .int .i64 (b2i a.dbl)) rfl rfl rfl rfl rfl Tryz.func209 (by decide) rfl (fun w1 hw => Kd1 a.dbl w1) ?_;refine TV.val rfl rfl rfl (gF Kc3) ?_;refine TV.val rfl rfl rfl (gL 0 Kat) ?_;refine TV.call (r := .int .i64 (b2i b.dbl)) rfl rfl rfl rfl rfl Tryz.func209 (by decide) rfl (fun w1 hw => Kd1 b.dbl w1) ?_
 refine TV.val rfl rfl rfl (Kj (v := .agg #[.int .i64 (b2i a.dbl), .int .i64 (b2i b.dbl)]) rfl rfl (fun w => K6 _ _ w)) ?_;refine TV.val rfl rfl rfl (gF Kcq) ?_;refine TV.val rfl rfl rfl (gL 1 Kb) ?_;refine TV.val rfl rfl rfl (gF Kcq) ?_;refine TV.val rfl rfl rfl (gL 0 Kb) ?_;refine TV.val rfl rfl rfl (Kj (v := .agg #[.int .i64 a.back, .int .i64 b.back]) rfl rfl (fun w => K6 _ _ w)) ?_;refine TV.val rfl rfl rfl (gF KR) ?_;refine TV.val rfl rfl rfl (gF Kbs) ?_;refine TV.val rfl rfl rfl (gL 1 Kv) ?_;refine TV.val rfl rfl rfl (Kay rfl rfl (fun w => Kdf Tryz.underlying3 Tryz.underlying42 w)) ?_;refine TV.val rfl rfl rfl (gF KR) ?_;refine TV.val rfl rfl rfl (gF Kbs) ?_;refine TV.val rfl rfl rfl (gL 0 Kv) ?_;refine TV.val rfl rfl rfl (Kay rfl rfl (fun w => Kdf Tryz.underlying3 Tryz.underlying42 w)) ?_;refine TV.val rfl rfl rfl (Kj (v := .agg #[.int .i64 (IntKind.i64.wrap a.src), .int .i64 (IntKind.i64.wrap b.src)]) rfl rfl (fun w => K6 _ _ w)) ?_;refine TV.val rfl rfl rfl (gF KR) ?_;refine TV.val rfl rfl rfl (gF Kcx) ?_;refine TV.val rfl rfl rfl (gL 1 Kb) ?_;refine TV.val rfl rfl rfl (gF KR) ?_;refine TV.val rfl rfl rfl (gF Kcx) ?_;refine TV.val rfl rfl rfl (gL 0 Kb) ?_;refine TV.val rfl rfl rfl (Kj (v := .agg #[.int .i64 a.kind, .int .i64 b.kind]) rfl rfl (fun w => K6 _ _ w)) ?_;refine TV.val rfl rfl rfl (gF KR) ?_;refine TV.val rfl rfl rfl (gF Kez) ?_;refine TV.val rfl rfl rfl (gL 1 Kb) ?_;refine TV.val rfl rfl rfl (gF KR) ?_;refine TV.val rfl rfl rfl (gF Kez) ?_;refine TV.val rfl rfl rfl (gL 0 Kb) ?_;refine TV.val rfl rfl rfl (Kj (v := .agg #[.int .i64 a.code, .int .i64 b.code]) rfl rfl (fun w => K6 _ _ w)) ?_;refine TV.val rfl rfl rfl (gF KR) ?_;refine TV.val rfl rfl rfl (gF Kd4) ?_;refine TV.val rfl rfl rfl (gL 1 Kb) ?_;refine TV.val rfl rfl rfl (gF KR) ?_;refine TV.val rfl rfl rfl (gF Kd4) ?_;refine TV.val rfl rfl rfl (gL 0 Kb) ?_;refine TV.val rfl rfl rfl (Kj (v := .agg #[.int .i64 a.left, .int .i64 b.left]) rfl rfl (fun w => K6 _ _ w)) ?_;refine TV.val rfl rfl rfl (gF KR) ?_;refine TV.val rfl rfl rfl (gF Kc1) ?_;refine TV.val rfl rfl rfl (gL 1 Kb) ?_;refine TV.val rfl rfl rfl (gF KR) ?_;refine TV.val rfl rfl rfl (gF Kc1) ?_;refine TV.val rfl rfl rfl (gL 0 Kb) ?_;refine TV.val rfl rfl rfl (Kj (v := .agg #[.int .i64 a.id, .int .i64 b.id]) rfl rfl (fun w => K6 _ _ w)) ?_;refine TV.val rfl rfl rfl (gF KR) ?_;refine TV.val rfl rfl rfl (gF Kea) ?_;refine TV.val rfl rfl rfl (gL 1 Kb) ?_;refine TV.val rfl rfl rfl (gF KR) ?_;refine TV.val rfl rfl rfl (gF Kea) ?_;refine TV.val rfl rfl rfl (gL 0 Kb) ?_;refine TV.val rfl rfl rfl (Kj (v := .agg #[.int .i64 a.quo, .int .i64 b.quo]) rfl rfl (fun w => K6 _ _ w)) ?_;refine TV.val rfl rfl rfl (Kj (v := .agg ((Ka pc2 (KaJ a b))).toArray) rfl rfl (fun w => Kll _ _ _ _ _ _ _ _ _ _ _ _ _ _ _ _ _ _ _ _ _ _ _ _ _ _ _ _ _ _ _ _ _ _ w)) ?_;refine TV.end_ (ls := #[Tt,Tt,Tt,Tt,Tt,Tt,Tt,Tt,Tt,Tt,Tt,Tt,Tt,Tt,Tt,Tt,Tt,Tt,Tt,Tt,Tt,Tt,Tt,Tt,Tt,Tt,Tt,Tt,Tt,Tt,Tt,Tt,Tt,Tt,Tt,Tt,Tt,Tt,Tt,Tt,Tt,Tt,Tt,Tt,Tt,Tt,Tt,Tt,Tt,Tt,Tt,Tt,Tt,Tt,Tt,Tt,Tt,Tt,Tt,Tt,Tt,Tt,Tt,Tt,Tt,Tt,Tt,Tt,Tt,Tt,Tt,Tt,Tt,Tt,Tt,Tt,Tt,Tt,Tt,Tt,Tt,Tt,Tt,Tt,Tt,Tt,Tt,Tt,Tt,Tt,Tt,Tt,Tt,Tt,Tt,Tt,Tt,Tt,Tt,Tt,Tt,Tt,Tt,Tt,Tt,Tt,Ff,Ff]) (by kernel_rfl) ?_;refine TH.o 106 ?_;refine TL.al KkY fun g5 => ?_;refine zE ?_;refine TX.held (fun w1 hw => hw.pk [1, 2]) ?_;refine TH.o 107 ?_;refine TL.pstore (k := 0) (vs := (Ka pc2 (KaJ a b))) rfl rfl rfl rfl rfl rfl rfl KgL (KB KeZ _) (by show 34 <= 34; decide) (L' := [.blk g5 280 (Ka pc2 (KaJ a b)), .blk g3 76 b.cells, .blk g2 76 a.cells]) rfl ?_
 refine zE ?_;refine TX.held (fun w1 hw => hw.pk [1, 2]) ?_;refine TH.done (by kernel_rfl) ?_;refine zT (zS (zSG (TL.v (gV 0 (.agg ((Ka pc2 (KaJ a b))).toArray) Ki1 KgL) ?_)));refine TL.mv ?_;refine zET (zB (TC.lp (α := {i : Nat // i <= 17 /\ orP ((KaJ a b).drop i) = orP (KaJ a b)}) [2, 3, 115, 4] rfl (fun y => [(116, .int .i64 ((y.1 : Nat) : Int))]) (fun y => Pm w [.blk g5 280 (Ka pc2 (KaJ a b)), .blk g3 76 b.cells, .blk g2 76 a.cells]) (fun y => 17 - y.1) (⟨0, Nat.zero_le _, rfl⟩) (fun w1 hw => hw) ?_));rintro ⟨i, hi, ho⟩
 try dsimp only at hi ho ⊢
 refine zSG ?_;refine TL.sp Km (fun q117 => ?_) (fun q117 => ?_)
 ·refine zET (zS (zc (zk (zT (zS (zB (zSG ?_)))))));obtain ⟨x118, hx118⟩ : ∃ x, (KaJ a b)[i]? = some x := ⟨_, List.getElem?_eq_getElem (by show i < 17; omega)⟩;have hdr : (KaJ a b).drop i = x118 :: (KaJ a b).drop (i + 1) := by obtain ⟨hlt, e⟩ := List.getElem?_eq_some_iff.1 hx118; rw [List.drop_eq_getElem_cons hlt, e]
  refine TL.w rfl (Kf1 (v := .agg (pc2 x118).toArray) rfl rfl rfl (fun w => Kkz KeZ Tryz.underlying280 Kh3 Ke8 hx118 rfl rfl w)) ?_;refine TL.al Khs fun g7 => ?_;refine TL.pstore (k := 0) (vs := (pc2 x118)) rfl rfl rfl rfl rfl rfl rfl Ke8 (KeZ.one _) (by show 2 <= 2; decide) (L' := [.blk g7 228 (pc2 x118), .blk g5 280 (Ka pc2 (KaJ a b)), .blk g3 76 b.cells, .blk g2 76 a.cells]) rfl ?_;refine zET (zSG ?_);refine TL.w rfl (KV (v := .pointer (some ⟨g7, 0, none⟩)) rfl rfl rfl (fun w => Kbc Tryz.underlying228 KN g7 0 _ 0 (by decide) w)) ?_;refine TL.v (gL 0 Kb) ?_;refine TL.w rfl (KV (v := .pointer (some ⟨g7, 1, none⟩)) rfl rfl rfl (fun w => Kbc Tryz.underlying228 KN g7 0 _ 1 (by decide) w)) ?_;refine TL.v (gL 0 Kb) ?_;refine TL.p1 (r := .int .i64 (Ke x118.1 x118.2)) rfl o48 (fun w1 hw => Kcw (Kcr x118.1 x118.2 w1)) ?_;refine TL.as_ ?_;refine zET (zSG (TL.mv ?_));refine TL.sp K1 (fun q125 => ?_) (fun q125 => ?_)
  ·refine zET (zc (zSG (TL.rn 2 rfl (zET (zr (zRR (zR (zRR ?_))))))));exact Kc Tryz.results141 rfl (fun w1 hw => ⟨by rw [KfZ, <- ho, hdr, Kg4, if_neg q125], hw.bel⟩)
  have ho2 : orP ((KaJ a b).drop (i + 1)) = orP (KaJ a b) := by rw [<- ho, hdr, Kg4, if_pos (Decidable.not_not.1 q125)]
  refine zET (zd (zk (zN (zT (zG (TL.v (gD ((i + 1 : Nat) : Int)) ?_))))));refine TL.mv ?_;refine zE ?_;exact TX.rd (⟨i + 1, by omega, ho2⟩) (by show 17 - (i + 1) < 17 - i; omega) (fun w1 hw => hw.pk [1, 2, 3])
 refine zET (zS (zd (zx (zX (zX (zM (zT (zSG (TL.as_ ?_)))))))));refine zET (zr ?_);exact Kc Tryz.results141 rfl (fun w1 hw => ⟨by rw [KfZ, <- ho, List.drop_of_length_le (by show 17 <= i; omega)]; rfl, hw.bel⟩)
theorem Kdr (r : Rs) (w : World) :
  Calls Tryz.prog 58 #[.agg r.cells.toArray] w fun e w' => e = .returned (.agg (Kw r).cells.toArray) /\ Below w.heap.size w w' := by
 refine Kg Tryz.func58 rfl rfl rfl ?_ (Pm.start w);refine zSG ?_;refine TL.bx fun g1 => ?_;refine TL.al Kdx fun g2 => ?_;refine zET (zSG (TL.v (gF Kdu) ?_));refine TL.v (gL 1 Kb) ?_;refine TL.v (gF KdI) ?_;refine TL.v (gL 1 Kv) ?_;refine TL.v (gF KcA) ?_;refine TL.v (gL 1 Kb) ?_;refine TL.w rfl (Kj (v := .agg #[.int .i64 r.v, .int .u32 r.dst, .int .i64 r.proto]) rfl rfl (fun w => Khf _ _ _ w)) ?_;refine TL.ps 0 KZ ?_;refine zET (zr ?_);exact Kb0 (k := 0) Tryz.results58 rfl rfl Tryz.underlying48 rfl rfl (fun w1 hw => ⟨rfl, hw.bel⟩)
open Go.RowKit Go.Shelf Go.Sort
set_option maxRecDepth 20000
def KhD : Go.Shelf.Ren := ⟨fun | 6 => 140 | 14 => 208 | 15 => 99 | 20 => 236 | 21 => 237 | 22 => 238 | 23 => 239 | 24 => 240 | 25 => 241 | 26 => 242 | 27 => 243 | 28 => 156 | 29 => 157 | 46 => 258 | 47 => 212 | 48 => 213 | 49 => 259 | 50 => 260 | 57 => 264 | n => n, fun | 22 => 27 | 24 => 76 | 25 => 233 | 39 => 194 | 45 => 243 | 46 => 244 | 50 => 248 | 53 => 41 | 55 => 214 | 66 => 282 | 70 => 286 | 76 => 312 | 77 => 313 | n => n, fun n => n⟩
theorem Kli : SlLaysF0.n6 Tryz.prog KhD where
  mixed := by kernel_rfl
  f6 := ⟨Tryz.f140.name, by decide, Tryz.func140.trans (by kernel_rfl)⟩
  f14 := ⟨Tryz.f208.name, by decide, Tryz.func208.trans (by kernel_rfl)⟩
  f15 := Tryz.func99.trans (by kernel_rfl)
  f20 := ⟨Tryz.f236.name, by decide, Tryz.func236.trans (by kernel_rfl)⟩
  f21 := ⟨Tryz.f237.name, by decide, Tryz.func237.trans (by kernel_rfl)⟩
  f22 := ⟨Tryz.f238.name, by decide, Tryz.func238.trans (by kernel_rfl)⟩
  f23 := ⟨Tryz.f239.name, by decide, Tryz.func239.trans (by kernel_rfl)⟩
  f24 := ⟨Tryz.f240.name, by decide, Tryz.func240.trans (by kernel_rfl)⟩
  f25 := ⟨Tryz.f241.name, by decide, Tryz.func241.trans (by kernel_rfl)⟩
  f26 := ⟨Tryz.f242.name, by decide, Tryz.func242.trans (by kernel_rfl)⟩
  f27 := ⟨Tryz.f243.name, by decide, Tryz.func243.trans (by kernel_rfl)⟩
  f28 := Tryz.func156.trans (by kernel_rfl)
  f29 := Tryz.func157.trans (by kernel_rfl)
  f46 := ⟨Tryz.f258.name, by decide, Tryz.func258.trans (by kernel_rfl)⟩
  f47 := Tryz.func212.trans (by kernel_rfl)
  f48 := Tryz.func213.trans (by kernel_rfl)
  f49 := ⟨Tryz.f259.name, by decide, Tryz.func259.trans (by kernel_rfl)⟩
  f50 := ⟨Tryz.f260.name, by decide, Tryz.func260.trans (by kernel_rfl)⟩
  f57 := ⟨Tryz.f264.name, by decide, Tryz.func264.trans (by kernel_rfl)⟩
  t0 := Tryz.underlying0
  a0 := fun w => rfl
  z0 := fun w => rfl
  v0 := fun w => rfl
  t3 := Tryz.underlying3
  a3 := fun w => rfl
  z3 := fun w => rfl
  v3 := fun w => rfl
  t4 := Tryz.underlying4
  a4 := fun w => rfl
  z4 := fun w => rfl
  v4 := fun w => rfl
  t5 := Tryz.underlying5
  a5 := fun w => rfl
  z5 := fun w => rfl
  v5 := fun w => rfl
  t9 := Tryz.underlying9
  a9 := fun w => rfl
  z9 := fun w => rfl
  v9 := fun w => rfl
  t22 := Tryz.underlying27
  a22 := fun w => rfl
  z22 := fun w => rfl
  v22 := fun w => rfl
  t25 := Tryz.underlying233
  a25 := fun w => rfl
  z25 := fun w => rfl
  v25 := fun w => rfl
  t39 := Tryz.underlying194
  a39 := fun w => rfl
  z39 := fun w => rfl
  v39 := fun w => rfl
  t45 := Tryz.underlying243
  a45 := fun w => rfl
  z45 := fun w => rfl
  v45 := fun w => rfl
  t46 := Tryz.underlying244
  a46 := fun w => rfl
  z46 := fun w => rfl
  v46 := fun w => rfl
  t50 := Tryz.underlying248
  a50 := fun w => rfl
  z50 := fun w => rfl
  v50 := fun w => rfl
  t53 := Tryz.underlying41
  a53 := fun w => rfl
  z53 := fun w => rfl
  v53 := fun w => rfl
  t55 := Tryz.underlying214
  a55 := fun w => rfl
  z55 := fun w => rfl
  v55 := fun w => rfl
  t66 := Tryz.underlying282
  a66 := fun w => rfl
  z66 := fun w => rfl
  v66 := fun w => rfl
  t70 := Tryz.underlying286
  a70 := fun w => rfl
  z70 := fun w => rfl
  v70 := fun w => rfl
  t76 := Tryz.underlying312
  a76 := fun w => rfl
  z76 := fun w => rfl
  v76 := fun w => rfl
  t77 := Tryz.underlying313
  a77 := fun w => rfl
  z77 := fun w => rfl
  v77 := fun w => rfl
instance : Inhabited Rs := ⟨⟨0, 0, 0, 0, 0, 0, 0, 0, false, false, 0, 0, 0, 0, 0, 0, 0⟩⟩
theorem Kh4 {b n cap : Nat} {A : Option Addr} {l : List Rs} {w : World} (hr : w.ownsRow b 76 17 (.slice A n cap) n (Ka Rs.cells l)) (hl : l.length = n) (hn : n <= 1000000) :
    Calls Tryz.prog 140 #[.slice A n cap, .func (.func 141) #[] #[]] w fun en w' => en = .returned (.tuple #[]) /\ ∃ l', Kbv Kcu l l' /\ w'.ownsRow b 76 17 (.slice A n cap) n (Ka Rs.cells l') /\ w.grownBy w' (Value.ownBlock (.slice A n cap)) :=
  KeG (ρ := KhD) Kli Kt (fun w => rfl) (fun w => rfl) Kcu (Keh (n := 17) (Rs.keys) fun _ => rfl) 141 (enters_of Tryz.func141 (by kernel_rfl) rfl) Kim hr hl (by omega)
def Kgz : Go.Shelf.Ren := ⟨fun | 6 => 143 | 14 => 210 | 15 => 99 | 20 => 244 | 21 => 245 | 22 => 246 | 23 => 247 | 24 => 248 | 25 => 249 | 26 => 250 | 27 => 251 | 28 => 156 | 29 => 157 | 46 => 261 | 47 => 212 | 48 => 213 | 49 => 262 | 50 => 263 | 57 => 265 | n => n, fun | 22 => 184 | 24 => 48 | 25 => 235 | 39 => 194 | 45 => 243 | 46 => 244 | 50 => 248 | 53 => 41 | 55 => 214 | 66 => 282 | 70 => 286 | 76 => 312 | 77 => 313 | n => n, fun n => n⟩
theorem KjR : SlLaysF0.n6 Tryz.prog Kgz where
  mixed := by kernel_rfl
  f6 := ⟨Tryz.f143.name, by decide, Tryz.func143.trans (by kernel_rfl)⟩
  f14 := ⟨Tryz.f210.name, by decide, Tryz.func210.trans (by kernel_rfl)⟩
  f15 := Tryz.func99.trans (by kernel_rfl)
  f20 := ⟨Tryz.f244.name, by decide, Tryz.func244.trans (by kernel_rfl)⟩
  f21 := ⟨Tryz.f245.name, by decide, Tryz.func245.trans (by kernel_rfl)⟩
  f22 := ⟨Tryz.f246.name, by decide, Tryz.func246.trans (by kernel_rfl)⟩
  f23 := ⟨Tryz.f247.name, by decide, Tryz.func247.trans (by kernel_rfl)⟩
  f24 := ⟨Tryz.f248.name, by decide, Tryz.func248.trans (by kernel_rfl)⟩
  f25 := ⟨Tryz.f249.name, by decide, Tryz.func249.trans (by kernel_rfl)⟩
  f26 := ⟨Tryz.f250.name, by decide, Tryz.func250.trans (by kernel_rfl)⟩
  f27 := ⟨Tryz.f251.name, by decide, Tryz.func251.trans (by kernel_rfl)⟩
  f28 := Tryz.func156.trans (by kernel_rfl)
  f29 := Tryz.func157.trans (by kernel_rfl)
  f46 := ⟨Tryz.f261.name, by decide, Tryz.func261.trans (by kernel_rfl)⟩
  f47 := Tryz.func212.trans (by kernel_rfl)
  f48 := Tryz.func213.trans (by kernel_rfl)
  f49 := ⟨Tryz.f262.name, by decide, Tryz.func262.trans (by kernel_rfl)⟩
  f50 := ⟨Tryz.f263.name, by decide, Tryz.func263.trans (by kernel_rfl)⟩
  f57 := ⟨Tryz.f265.name, by decide, Tryz.func265.trans (by kernel_rfl)⟩
  t0 := Tryz.underlying0
  a0 := fun w => rfl
  z0 := fun w => rfl
  v0 := fun w => rfl
  t3 := Tryz.underlying3
  a3 := fun w => rfl
  z3 := fun w => rfl
  v3 := fun w => rfl
  t4 := Tryz.underlying4
  a4 := fun w => rfl
  z4 := fun w => rfl
  v4 := fun w => rfl
  t5 := Tryz.underlying5
  a5 := fun w => rfl
  z5 := fun w => rfl
  v5 := fun w => rfl
  t9 := Tryz.underlying9
  a9 := fun w => rfl
  z9 := fun w => rfl
  v9 := fun w => rfl
  t22 := Tryz.underlying184
  a22 := fun w => rfl
  z22 := fun w => rfl
  v22 := fun w => rfl
  t25 := Tryz.underlying235
  a25 := fun w => rfl
  z25 := fun w => rfl
  v25 := fun w => rfl
  t39 := Tryz.underlying194
  a39 := fun w => rfl
  z39 := fun w => rfl
  v39 := fun w => rfl
  t45 := Tryz.underlying243
  a45 := fun w => rfl
  z45 := fun w => rfl
  v45 := fun w => rfl
  t46 := Tryz.underlying244
  a46 := fun w => rfl
  z46 := fun w => rfl
  v46 := fun w => rfl
  t50 := Tryz.underlying248
  a50 := fun w => rfl
  z50 := fun w => rfl
  v50 := fun w => rfl
  t53 := Tryz.underlying41
  a53 := fun w => rfl
  z53 := fun w => rfl
  v53 := fun w => rfl
  t55 := Tryz.underlying214
  a55 := fun w => rfl
  z55 := fun w => rfl
  v55 := fun w => rfl
  t66 := Tryz.underlying282
  a66 := fun w => rfl
  z66 := fun w => rfl
  v66 := fun w => rfl
  t70 := Tryz.underlying286
  a70 := fun w => rfl
  z70 := fun w => rfl
  v70 := fun w => rfl
  t76 := Tryz.underlying312
  a76 := fun w => rfl
  z76 := fun w => rfl
  v76 := fun w => rfl
  t77 := Tryz.underlying313
  a77 := fun w => rfl
  z77 := fun w => rfl
  v77 := fun w => rfl
instance : Inhabited Trc := ⟨⟨0, 0, 0⟩⟩
theorem Kii {b n cap : Nat} {A : Option Addr} {l : List Trc} {w : World} (hr : w.ownsRow b 48 3 (.slice A n cap) n (Ka Trc.cells l)) (hl : l.length = n) (hn : n <= 1000000) :
    Calls Tryz.prog 143 #[.slice A n cap, .func (.func 144) #[] #[]] w fun en w' => en = .returned (.tuple #[]) /\ ∃ l', Kbv KcX l l' /\ w'.ownsRow b 48 3 (.slice A n cap) n (Ka Trc.cells l') /\ w.grownBy w' (Value.ownBlock (.slice A n cap)) :=
  KeG (ρ := Kgz) KjR K7 (fun w => rfl) (fun w => rfl) KcX (Keh (n := 3) (fun t : Trc => [t.v, t.dst, t.proto]) fun _ => rfl) 144 (enters_of Tryz.func144 (by kernel_rfl) rfl) Klx hr hl (by omega)
instance : Inhabited Hpx := ⟨⟨0, 0, ⟨none, 0, []⟩⟩⟩
instance : Inhabited Ed := ⟨⟨0, 0, 0, ⟨none, 0, []⟩⟩⟩
def Kh7 : Go.Shelf.Ren := ⟨fun | 5 => 59 | 7 => 112 | 8 => 99 | 10 => 164 | 11 => 165 | 12 => 166 | 13 => 167 | 14 => 168 | 15 => 169 | 16 => 170 | 17 => 171 | 18 => 172 | 19 => 156 | 20 => 157 | 30 => 219 | 31 => 212 | 32 => 213 | 33 => 220 | 34 => 221 | 35 => 102 | 40 => 255 | n => n, fun | 22 => 49 | 23 => 49 | 25 => 3 | 32 => 194 | 35 => 243 | 36 => 244 | 41 => 248 | 44 => 41 | 46 => 214 | 53 => 282 | 57 => 286 | 63 => 312 | 64 => 313 | n => n, fun n => n⟩
theorem Kgg : SlLaysM.n5 Tryz.prog Kh7 where
  mixed := by kernel_rfl
  f5 := ⟨Tryz.f59.name, by decide, Tryz.func59.trans (by kernel_rfl)⟩
  f7 := ⟨Tryz.f112.name, by decide, Tryz.func112.trans (by kernel_rfl)⟩
  f8 := Tryz.func99.trans (by kernel_rfl)
  f10 := ⟨Tryz.f164.name, by decide, Tryz.func164.trans (by kernel_rfl)⟩
  f11 := ⟨Tryz.f165.name, by decide, Tryz.func165.trans (by kernel_rfl)⟩
  f12 := ⟨Tryz.f166.name, by decide, Tryz.func166.trans (by kernel_rfl)⟩
  f13 := ⟨Tryz.f167.name, by decide, Tryz.func167.trans (by kernel_rfl)⟩
  f14 := ⟨Tryz.f168.name, by decide, Tryz.func168.trans (by kernel_rfl)⟩
  f15 := ⟨Tryz.f169.name, by decide, Tryz.func169.trans (by kernel_rfl)⟩
  f16 := ⟨Tryz.f170.name, by decide, Tryz.func170.trans (by kernel_rfl)⟩
  f17 := ⟨Tryz.f171.name, by decide, Tryz.func171.trans (by kernel_rfl)⟩
  f18 := ⟨Tryz.f172.name, by decide, Tryz.func172.trans (by kernel_rfl)⟩
  f19 := Tryz.func156.trans (by kernel_rfl)
  f20 := Tryz.func157.trans (by kernel_rfl)
  f30 := ⟨Tryz.f219.name, by decide, Tryz.func219.trans (by kernel_rfl)⟩
  f31 := Tryz.func212.trans (by kernel_rfl)
  f32 := Tryz.func213.trans (by kernel_rfl)
  f33 := ⟨Tryz.f220.name, by decide, Tryz.func220.trans (by kernel_rfl)⟩
  f34 := ⟨Tryz.f221.name, by decide, Tryz.func221.trans (by kernel_rfl)⟩
  f35 := ⟨Tryz.f102.name, by decide, Tryz.func102.trans (by kernel_rfl)⟩
  f40 := ⟨Tryz.f255.name, by decide, Tryz.func255.trans (by kernel_rfl)⟩
  t0 := Tryz.underlying0
  a0 := fun w => rfl
  z0 := fun w => rfl
  v0 := fun w => rfl
  t3 := Tryz.underlying3
  a3 := fun w => rfl
  z3 := fun w => rfl
  v3 := fun w => rfl
  t4 := Tryz.underlying4
  a4 := fun w => rfl
  z4 := fun w => rfl
  v4 := fun w => rfl
  t5 := Tryz.underlying5
  a5 := fun w => rfl
  z5 := fun w => rfl
  v5 := fun w => rfl
  t9 := Tryz.underlying9
  a9 := fun w => rfl
  z9 := fun w => rfl
  v9 := fun w => rfl
  t22 := Tryz.underlying49
  a22 := fun w => rfl
  z22 := fun w => rfl
  v22 := fun w => rfl
  t23 := Tryz.underlying49
  a23 := fun w => rfl
  z23 := fun w => rfl
  v23 := fun w => rfl
  t25 := Tryz.underlying3
  a25 := fun w => rfl
  z25 := fun w => rfl
  v25 := fun w => rfl
  t32 := Tryz.underlying194
  a32 := fun w => rfl
  z32 := fun w => rfl
  v32 := fun w => rfl
  t35 := Tryz.underlying243
  a35 := fun w => rfl
  z35 := fun w => rfl
  v35 := fun w => rfl
  t36 := Tryz.underlying244
  a36 := fun w => rfl
  z36 := fun w => rfl
  v36 := fun w => rfl
  t41 := Tryz.underlying248
  a41 := fun w => rfl
  z41 := fun w => rfl
  v41 := fun w => rfl
  t44 := Tryz.underlying41
  a44 := fun w => rfl
  z44 := fun w => rfl
  v44 := fun w => rfl
  t46 := Tryz.underlying214
  a46 := fun w => rfl
  z46 := fun w => rfl
  v46 := fun w => rfl
  t53 := Tryz.underlying282
  a53 := fun w => rfl
  z53 := fun w => rfl
  v53 := fun w => rfl
  t57 := Tryz.underlying286
  a57 := fun w => rfl
  z57 := fun w => rfl
  v57 := fun w => rfl
  t63 := Tryz.underlying312
  a63 := fun w => rfl
  z63 := fun w => rfl
  v63 := fun w => rfl
  t64 := Tryz.underlying313
  a64 := fun w => rfl
  z64 := fun w => rfl
  v64 := fun w => rfl
set_option maxRecDepth 20000
theorem Khw (x y : Rs) : (x = y) ↔ x.v = y.v /\ x.run = y.run /\ x.num = y.num /\ x.at_ = y.at_ /\ x.dst = y.dst /\ x.proto = y.proto /\ x.flow = y.flow /\ x.ttl = y.ttl /\ x.ans = y.ans /\ x.dbl = y.dbl /\ x.back = y.back /\ x.src = y.src /\ x.kind = y.kind /\ x.code = y.code /\ x.left = y.left /\ x.id = y.id /\ x.quo = y.quo := by
  cases x; cases y; simp
theorem KiC (x y : Rs) (ox oy : Operand) (w : World) : (do eqGuard .eql 76 ox oy (.agg x.cells.toArray) (.agg y.cells.toArray); binOp .eql 76 (.agg x.cells.toArray) (.agg y.cells.toArray) : Sem Value).run Tryz.prog w = .ok (.bool (decide (x = y))) w := by
  rw [Sem.run_bind, run_eqGuard_agg w .eql 76 ox oy _ _ (by kernel_rfl), Result.andThen_ok, run_eql_struct];have h2 : (Op.equalIn 10000 76 (.agg x.cells.toArray) (.agg y.cells.toArray)).run Tryz.prog w = .ok (decide (x.v = y.v /\ x.run = y.run /\ x.num = y.num /\ x.at_ = y.at_ /\ x.dst = y.dst /\ x.proto = y.proto /\ x.flow = y.flow /\ x.ttl = y.ttl /\ x.ans = y.ans /\ x.dbl = y.dbl /\ x.back = y.back /\ x.src = y.src /\ x.kind = y.kind /\ x.code = y.code /\ x.left = y.left /\ x.id = y.id /\ x.quo = y.quo)) w := eqR x.v x.run x.num x.at_ x.dst x.proto x.flow x.ttl x.back x.src x.kind x.code x.left x.id x.quo y.v y.run y.num y.at_ y.dst y.proto y.flow y.ttl y.back y.src y.kind y.code y.left y.id y.quo x.ans x.dbl y.ans y.dbl w;rw [h2, Result.andThen_ok, decide_eq_decide.2 (Khw x y)]
theorem Klt (x y : Rs) (ox oy : Operand) (w : World) : (do eqGuard .neq 76 ox oy (.agg x.cells.toArray) (.agg y.cells.toArray); binOp .neq 76 (.agg x.cells.toArray) (.agg y.cells.toArray) : Sem Value).run Tryz.prog w = .ok (.bool (!decide (x = y))) w := by
  rw [Sem.run_bind, run_eqGuard_agg w .neq 76 ox oy _ _ (by kernel_rfl), Result.andThen_ok, run_neq_struct];have h2 : (Op.equalIn 10000 76 (.agg x.cells.toArray) (.agg y.cells.toArray)).run Tryz.prog w = .ok (decide (x.v = y.v /\ x.run = y.run /\ x.num = y.num /\ x.at_ = y.at_ /\ x.dst = y.dst /\ x.proto = y.proto /\ x.flow = y.flow /\ x.ttl = y.ttl /\ x.ans = y.ans /\ x.dbl = y.dbl /\ x.back = y.back /\ x.src = y.src /\ x.kind = y.kind /\ x.code = y.code /\ x.left = y.left /\ x.id = y.id /\ x.quo = y.quo)) w := eqR x.v x.run x.num x.at_ x.dst x.proto x.flow x.ttl x.back x.src x.kind x.code x.left x.id x.quo y.v y.run y.num y.at_ y.dst y.proto y.flow y.ttl y.back y.src y.kind y.code y.left y.id y.quo x.ans x.dbl y.ans y.dbl w;rw [h2, Result.andThen_ok, decide_eq_decide.2 (Khw x y)]
theorem Kjk (x y : Rs) (ox oy : Operand) (w : World) : (do eqGuard .neq 76 ox oy (.agg x.cells.toArray) (.agg y.cells.toArray); binOp .neq 76 (.agg x.cells.toArray) (.agg y.cells.toArray) : Sem Value).run Tryz.prog w = .ok (.bool (decide (x ≠ y))) w := by
  rw [decide_not]; exact Klt x y ox oy w
theorem Khu : Tryz.prog.fieldsOf 48 = (match Tryz.prog.underlying 48 with | some (.struct fs) => fs | _ => #[]) := rfl
theorem Kgi (a0 b0 : Int) (a1 b1 : Int) (a2 b2 : Int) (d : Nat) (w : World) : (Op.equalIn (d + 2) 48 (.agg #[.int .i64 a0, .int .u32 a1, .int .i64 a2]) (.agg #[.int .i64 b0, .int .u32 b1, .int .i64 b2])).run Tryz.prog w = .ok (decide (a0 = b0 /\ a1 = b1 /\ a2 = b2)) w := by
  rw [run_equalIn_agg w (d + 1) 48 _ _ (by rw [Khu, Tryz.underlying48]) (by kernel_rfl), Khu, Tryz.underlying48];show (Op.eqFields (d + 1) _ _ [_, _, _]).run _ _ = _;have i0 : Tryz.prog.underlying 3 = some (.int .i64) := rfl;have i1 : Tryz.prog.underlying 42 = some (.int .u32) := rfl;simp [Op.eqFields, go_sem];by_cases e0 : a0 = b0
  · by_cases e1 : a1 = b1
    · by_cases e2 : a2 = b2 <;> simp [e0, e1, e2]
    · simp [e0, e1]
  · simp [e0]
theorem KgI (x y : Trc) : (x = y) ↔ x.v = y.v /\ x.dst = y.dst /\ x.proto = y.proto := by
  cases x; cases y; simp
theorem KgG (x y : Trc) (ox oy : Operand) (w : World) : (do eqGuard .eql 48 ox oy (.agg x.cells.toArray) (.agg y.cells.toArray); binOp .eql 48 (.agg x.cells.toArray) (.agg y.cells.toArray) : Sem Value).run Tryz.prog w = .ok (.bool (decide (x = y))) w := by
  rw [Sem.run_bind, run_eqGuard_agg w .eql 48 ox oy _ _ (by kernel_rfl), Result.andThen_ok, run_eql_struct];have h := Kgi x.v y.v x.dst y.dst x.proto y.proto 9998 w;have h2 : (Op.equalIn 10000 48 (.agg x.cells.toArray) (.agg y.cells.toArray)).run Tryz.prog w = .ok (decide (x.v = y.v /\ x.dst = y.dst /\ x.proto = y.proto)) w := h;rw [h2, Result.andThen_ok, decide_eq_decide.2 (KgI x y)]
theorem Kkn (x y : Trc) (ox oy : Operand) (w : World) : (do eqGuard .neq 48 ox oy (.agg x.cells.toArray) (.agg y.cells.toArray); binOp .neq 48 (.agg x.cells.toArray) (.agg y.cells.toArray) : Sem Value).run Tryz.prog w = .ok (.bool (!decide (x = y))) w := by
  rw [Sem.run_bind, run_eqGuard_agg w .neq 48 ox oy _ _ (by kernel_rfl), Result.andThen_ok, run_neq_struct];have h := Kgi x.v y.v x.dst y.dst x.proto y.proto 9998 w;have h2 : (Op.equalIn 10000 48 (.agg x.cells.toArray) (.agg y.cells.toArray)).run Tryz.prog w = .ok (decide (x.v = y.v /\ x.dst = y.dst /\ x.proto = y.proto)) w := h;rw [h2, Result.andThen_ok, decide_eq_decide.2 (KgI x y)]
theorem Klz (x y : Trc) (ox oy : Operand) (w : World) : (do eqGuard .neq 48 ox oy (.agg x.cells.toArray) (.agg y.cells.toArray); binOp .neq 48 (.agg x.cells.toArray) (.agg y.cells.toArray) : Sem Value).run Tryz.prog w = .ok (.bool (decide (x ≠ y))) w := by
  rw [decide_not]; exact Kkn x y ox oy w
set_option maxRecDepth 20000
def Trc.zero : Trc := ⟨0, 0, 0⟩
theorem Kbg (w : World) : (zeroValue 76).run Tryz.prog w = .ok (.agg #[.int .i64 0, .int .i64 0, .int .i64 0, .int .i64 0, .int .u32 0, .int .i64 0, .int .i64 0, .int .i64 0, .bool false, .bool false, .int .i64 0, .int .u32 0, .int .i64 0, .int .i64 0, .int .i64 0, .int .i64 0, .int .i64 0]) w := rfl
theorem KbY (w : World) : (isAgg 48).run Tryz.prog w = .ok true w := rfl
theorem KkN (g n c : Nat) (xs : List Rs) (w : World) (h : RwG 76 17 w g n c (Ka Rs.cells xs)) (hl : xs.length = n) (hn : n <= 1000000) :
  Calls Tryz.prog 142 #[.slice (some ⟨g, 0, none⟩) n c] w fun en w' => en = .returned (.slice (some ⟨g, 0, none⟩) (Kf xs).length c) /\ RwG 76 17 w' g (Kf xs).length c (Ka Rs.cells (Kf xs)) /\ w.grownBy w' (some g) := by
 have hcap := h.obj.2.1;have hmax := h.obj.2.2;refine Kg (I := Pm ⟨Kap w g, g⟩ (.row (.slice (some ⟨g, 0, none⟩) n c) 76 17 n (Ka Rs.cells xs) :: Kr g w)) Tryz.func142 rfl rfl rfl ?_ (Pm.rowStartG h);refine zSG (TL.as_ ?_);refine zET (zS (zSG (TL.mv ?_)));refine TL.v (gN Tryz.underlying27) ?_;refine TL.sp Km (fun q8 => ?_) (fun q8 => ?_)
 ·have hE : Kf xs = xs := KeV (by omega);refine zET (zc (zSG (TL.rn 2 rfl (zET (zr (zR ?_))))));exact Kc Tryz.results142 rfl (fun w1 hw => by rw [hE, hl]; exact ⟨rfl, KbK hw (k := 0) rfl, hw.mapEnd (fun q hq => by simp [hq])⟩)
 refine zET (zd (zk (zT (zS (zSG (TL.as_ ?_))))));refine zET (zB ?_);refine TC.lp (α := {k : Nat // 1 <= k /\ k <= n /\ Kf (xs.take k) = xs.take k}) [0] rfl (fun y => [(3, .int .i64 ((y.1 : Nat) : Int))]) (fun y => Pm ⟨Kap w g, g⟩ ([.row (.slice (some ⟨g, 0, none⟩) n c) 76 17 n (Ka Rs.cells xs)] ++ Kr g w)) (fun y => n - y.1) (⟨1, Nat.le_refl _, by omega, Ke4 xs⟩) (fun w1 hw => hw) ?_;rintro ⟨k0, hk1, hk2, hK⟩
 try dsimp only
 refine zS (zSG (TL.rn 2 rfl (TL.v (gN Tryz.underlying27) ?_)));refine TL.sp Km (fun q13 => ?_) (fun q13 => ?_)
 ·refine zET (zc (zk (zT (zS (zB (zS (TC.quietQ (by kernel_rfl) (by kernel_rfl) (fun w hw => hw.drawn _) ?_)))))));refine TQ.rn 2 rfl ?_;have hi18 : k0 < xs.length := by omega
  obtain ⟨x18, hx18⟩ := Ko hi18;refine TQ.w rfl (gA (i := k0) Tryz.underlying27 Ki rfl rfl rfl rfl rfl (by omega)) ?_;refine TQ.w rfl (KH (off := 0 + k0 * 17) rfl rfl KG Ki (Kt.len x18) (fun w1 hw j9 u9 h9 => Ku Kt hw (q := 0) rfl hx18 j9 u9 h9)) ?_;refine TQ.rn 2 rfl ?_;refine TQ.w rfl (Kn rfl rfl rfl (fun w => K2 (r := ((k0 - 1 : Nat) : Int)) (by simp only [IntKind.wrap_i64]; omega) w)) ?_;have hi23 : k0 - 1 < xs.length := by omega
  obtain ⟨x23, hx23⟩ := Ko hi23;refine TQ.w rfl (gA (i := (k0 - 1)) Tryz.underlying27 Ki rfl rfl rfl rfl rfl (by omega)) ?_;refine TQ.w rfl (KH (off := 0 + (k0 - 1) * 17) rfl rfl KG Ki (Kt.len x23) (fun w1 hw j9 u9 h9 => Ku Kt hw (q := 0) rfl hx23 j9 u9 h9)) ?_;refine TQ.vw rfl (Ka5 rfl rfl rfl (fun w => KiC x18 x23 _ _ w)) (fun h25 => ?_) (fun h25 => ?_)
  ·have q25 := of_decide_eq_true h25;have hst := Ka2 hx18 hx23 hk1;have hK2 : Kf (xs.take (k0 + 1)) = xs.take k0 := by rw [hst, if_pos q25.symm]; exact hK
   refine TQ.fin ?_;refine zT (zc (zSG (TL.rn 2 rfl ?_)));refine TL.w rfl (Kb7 (q := k0) rfl rfl rfl rfl Tryz.underlying27 Ki (by omega) (by omega)) ?_;refine TL.as_ ?_;refine zET (zS (zSG (TL.as_ ?_)));refine zET (zB ?_);refine TC.lp (α := {y : Nat × Nat × List Rs // (1 <= y.2.1 /\ y.2.1 <= n - k0 /\ k0 <= y.1 /\ y.1 <= k0 + y.2.1 - 1) /\ y.2.2.length = n /\ (∀ p, k0 + y.2.1 - 1 <= p -> y.2.2[p]? = xs[p]?) /\ y.2.2.take y.1 = Kf (xs.take (k0 + y.2.1))}) [0, 4] rfl (fun y => [(3, .int .i64 ((y.1.1 : Nat) : Int)), (5, .int .i64 ((y.1.2.1 : Nat) : Int))]) (fun y => Pm ⟨Kap w g, g⟩ ([.row (.slice (some ⟨g, 0, none⟩) n c) 76 17 n (Ka Rs.cells y.1.2.2)] ++ Kr g w)) (fun y => n - y.1.2.1) (⟨(k0, 1, xs), by dsimp only; omega, hl, fun p _ => rfl, hK2.symm⟩) (fun w1 hw => hw) ?_;rintro ⟨⟨k, j, ys⟩, ⟨hj1, hj2, hj3, hj4⟩, hly, hI, hT⟩;dsimp only at hj1 hj2 hj3 hj4 hly hI hT ⊢;refine zS (zSG (TL.rn 2 rfl (TL.v (gN Tryz.underlying27) ?_)));refine TL.sp Km (fun q32 => ?_) (fun q32 => ?_)
   ·refine zET (zc (zk (zT (zS (zB (zS (TC.quietQ (by kernel_rfl) (by kernel_rfl) (fun w hw => hw.drawn _) ?_)))))));refine TQ.rn 2 rfl ?_;have hi37 : (k0 + j) < ys.length := by omega
    obtain ⟨x37, hx37⟩ := Ko hi37;refine TQ.w rfl (KV (v := .pointer (some ⟨g, 0 + (k0 + j) * 17, none⟩)) rfl rfl rfl (fun w => KbR Tryz.underlying27 Ki g k0 _ _ j (by omega) rfl w)) ?_;refine TQ.w rfl (KH (off := 0 + (k0 + j) * 17) rfl rfl KG Ki (Kt.len x37) (fun w1 hw j9 u9 h9 => Ku Kt hw (q := 0) rfl hx37 j9 u9 h9)) ?_;refine TQ.rn 2 rfl ?_;refine TQ.w rfl (Kn rfl rfl rfl (fun w => K2 (r := ((j - 1 : Nat) : Int)) (by simp only [IntKind.wrap_i64]; omega) w)) ?_;have hi42 : (k0 + (j - 1)) < ys.length := by omega
    obtain ⟨x42, hx42⟩ := Ko hi42;refine TQ.w rfl (KV (v := .pointer (some ⟨g, 0 + (k0 + (j - 1)) * 17, none⟩)) rfl rfl rfl (fun w => KbR Tryz.underlying27 Ki g k0 _ _ (j - 1) (by omega) rfl w)) ?_;refine TQ.w rfl (KH (off := 0 + (k0 + (j - 1)) * 17) rfl rfl KG Ki (Kt.len x42) (fun w1 hw j9 u9 h9 => Ku Kt hw (q := 0) rfl hx42 j9 u9 h9)) ?_;refine TQ.vw rfl (Ka5 rfl rfl rfl (fun w => Kjk x37 x42 _ _ w)) (fun h44 => ?_) (fun h44 => ?_)
    ·have q44 := of_decide_eq_true h44;have hst := Ka2 (by rw [<- hI _ (by omega)]; exact hx37) (by rw [<- hI _ (by omega), show k0 + j - 1 = k0 + (j - 1) by omega]; exact hx42) (by omega : 1 <= k0 + j);have hc1 : ∀ p, k0 + (j + 1) - 1 <= p -> (ys.set k x37)[p]? = xs[p]? := fun p hp => by rw [List.getElem?_set_ne (by omega)]; exact hI p (by omega)
     have hc2 : (ys.set k x37).take (k + 1) = Kf (xs.take (k0 + (j + 1))) := by
      rw [List.take_add_one, List.take_set_of_le (Nat.le_refl _), List.getElem?_set_self (by omega), hT, show k0 + (j + 1) = k0 + j + 1 from rfl, hst, if_neg (fun hh => q44 hh.symm)]; rfl
     refine TQ.fin ?_;refine zT (zc (zSG (TL.rn 4 rfl ?_)));refine TL.w rfl (KV (v := .pointer (some ⟨g, 0 + (k0 + j) * 17, none⟩)) rfl rfl rfl (fun w => KbR Tryz.underlying27 Ki g k0 _ _ j (by omega) rfl w)) ?_;refine TL.w rfl (KH (off := 0 + (k0 + j) * 17) rfl rfl KG Ki (Kt.len x37) (fun w1 hw j9 u9 h9 => Ku Kt hw (q := 0) rfl hx37 j9 u9 h9)) ?_;have hi51 : k < ys.length := by omega
     obtain ⟨x51, hx51⟩ := Ko hi51;refine TL.w rfl (gA (i := k) Tryz.underlying27 Ki rfl rfl rfl rfl rfl (by omega)) ?_;refine TL.rowset (k := 0) (vs := x37.cells) (xs' := Ka Rs.cells (ys.set k x37)) rfl rfl rfl rfl rfl rfl rfl Ki (Kt.one _) (by rw [Kau Kt]; show 0 + k * 17 + 17 <= _; omega) (Kdc Kt (q := 0) (y := x37) hx51 (by show 0 + 17 <= 17; decide) rfl) ?_
     try dsimp only [List.set_cons_zero, List.set_cons_succ]
     refine zET (zG (TL.mv ?_));refine TL.v (gD ((k + 1 : Nat) : Int)) ?_;refine TL.as_ ?_;refine zE (zN (zT (zG (TL.mv ?_))));refine TL.v (gD ((j + 1 : Nat) : Int)) ?_;refine TL.as_ ?_;refine zE ?_;exact TX.rd (⟨(k + 1, j + 1, ys.set k x37), by dsimp only; omega, by rw [List.length_set]; exact hly, hc1, hc2⟩) (by show n - (j + 1) < n - j; omega) (fun w1 hw => hw)
    have q44 := of_decide_eq_false h44;have hst := Ka2 (by rw [<- hI _ (by omega)]; exact hx37) (by rw [<- hI _ (by omega), show k0 + j - 1 = k0 + (j - 1) by omega]; exact hx42) (by omega : 1 <= k0 + j);have hd1 : ∀ p, k0 + (j + 1) - 1 <= p -> ys[p]? = xs[p]? := fun p hp => hI p (by omega);have hd2 : ys.take k = Kf (xs.take (k0 + (j + 1))) := by rw [hT, show k0 + (j + 1) = k0 + j + 1 from rfl, hst, if_pos (Decidable.not_not.1 q44).symm]
    refine TQ.fin ?_;refine zT (zd (zk (zN (zT (zG (TL.mv ?_))))));refine TL.v (gD ((j + 1 : Nat) : Int)) ?_;refine TL.as_ ?_;refine zE ?_;exact TX.rd (⟨(k, j + 1, ys), by dsimp only; omega, hly, hd1, hd2⟩) (by show n - (j + 1) < n - j; omega) (fun w1 hw => hw)
   obtain rfl : j = n - k0 := by omega
   have hC : ys.take k = Kf xs := by rw [hT, List.take_of_length_le (by omega)]
   refine zET (zd (zx (zX (zX (zM (zT (zSG (TL.rn 2 rfl ?_))))))));refine TL.w rfl (Kb7 (q := k) rfl rfl rfl rfl Tryz.underlying27 Ki (by omega) (by omega)) ?_;refine TL.clearF Kt (kk := 0) (q := k) (z := Rs.zero) rfl rfl rfl rfl Tryz.underlying27 Kbg (by omega) (by omega) rfl ?_
   try dsimp only [List.set_cons_zero]
   refine zET (zSG (TL.rn 2 rfl ?_));refine TL.headF Kt (kk := 0) (hi := k) rfl rfl rfl rfl rfl rfl Tryz.underlying27 Ki rfl (by omega) (by omega) ?_
   try dsimp only [List.set_cons_zero]
   refine TL.as_ ?_;refine zET (zr (zRR (zR (zRR ?_))));have hfin : (ys.take k ++ List.replicate (n - k) Rs.zero).take k = Kf xs := by rw [List.take_left' (by rw [List.length_take]; omega)]; exact hC
   have hkl : (Kf xs).length = k := by rw [<- hC, List.length_take]; omega
   rw [hfin];exact Kc Tryz.results142 rfl (fun w1 hw => ⟨by rw [hkl], by rw [hkl]; exact (KbK hw (k := 0) rfl), hw.mapEnd (fun q hq => by simp [hq])⟩)
  have q25 := of_decide_eq_false h25;have hst := Ka2 hx18 hx23 hk1;have hK2 : Kf (xs.take (k0 + 1)) = xs.take (k0 + 1) := by rw [hst, if_neg (fun hh => q25 hh.symm), hK, List.take_add_one, hx18]; rfl
  refine TQ.fin ?_;refine zT (zd (zk (zN (zT (zG (TL.mv ?_))))));refine TL.v (gD ((k0 + 1 : Nat) : Int)) ?_;refine TL.as_ ?_;refine zE ?_;exact TX.rd (⟨k0 + 1, by omega, by omega, hK2⟩) (by show n - (k0 + 1) < n - k0; omega) (fun w1 hw => hw)
 obtain rfl : k0 = n := by omega
 have hE : Kf xs = xs := by rw [List.take_of_length_le (by omega)] at hK; exact hK
 refine zET (zd (zx (zX (zX (zM (zT (zSG (TL.rn 2 rfl (zET (zr ?_))))))))));exact Kc Tryz.results142 rfl (fun w1 hw => by rw [hE, hl]; exact ⟨rfl, KbK hw (k := 0) rfl, hw.mapEnd (fun q hq => by simp [hq])⟩)
theorem KkP (w : World) : Calls Tryz.prog 142 #[.slice none 0 0] w fun en w' => en = .returned (.slice none 0 0) /\ Below w.heap.size w w' := by
 refine Kg Tryz.func142 rfl rfl rfl ?_ (Pm.start w);refine zSG (TL.as_ ?_);refine zET (zS (zSG (TL.mv ?_)));refine TL.v (gN Tryz.underlying27) ?_;refine TL.w rfl (Kn rfl rfl rfl (fun w => KeB (by decide) w)) ?_;refine zET (zc (zSG (TL.rn 2 rfl (zET (zr (zR ?_))))));exact Kc Tryz.results142 rfl (fun w1 hw => ⟨rfl, hw.bel⟩)
theorem Ki8 {b n cap : Nat} {A : Option Addr} {l : List Rs} {w : World} (hr : w.ownsRow b 76 17 (.slice A n cap) n (Ka Rs.cells l)) (hl : l.length = n) (hn : n <= 1000000) :
  Calls Tryz.prog 142 #[.slice A n cap] w fun en w' => en = .returned (.slice A (Kf l).length cap) /\ w'.ownsRow b 76 17 (.slice A (Kf l).length cap) (Kf l).length (Ka Rs.cells (Kf l)) /\ w.grownBy w' (Value.ownBlock (.slice A n cap)) := by
 rcases id hr.2 with ⟨hv, h0⟩ | ⟨q, cap', cur, hv, hb, hq, h1, h2, h3, h4⟩
 ·cases hv;obtain rfl : l = [] := List.eq_nil_of_length_eq_zero (by omega);refine (KkP w).mono fun en w' ⟨h5, h6⟩ => ⟨h5, ⟨rfl, .inl ⟨rfl, rfl⟩⟩, ?_⟩;exact ⟨h6.os, h6.tape, h6.output, h6.size, fun k hk _ => h6.block k hk⟩
 cases hv;refine (KkN q n cap l w ⟨hr.1, .inr ⟨q, cap, cur, rfl, Nat.le_refl _, hq, h1, h2, h3, h4⟩⟩ hl hn).mono fun en w' ⟨h5, h6, h7⟩ => ⟨h5, ⟨h6.1, ?_⟩, h7⟩;rcases h6.2 with ⟨e1, _⟩ | ⟨q', c2, cur2, e1, e2, e3⟩
 ·cases e1
 cases e1;exact .inr ⟨q, cap, cur2, rfl, hb, e3⟩
theorem KlN (g n c : Nat) (xs : List Trc) (w : World) (h : RwG 48 3 w g n c (Ka Trc.cells xs)) (hl : xs.length = n) (hn : n <= 1000000) :
  Calls Tryz.prog 145 #[.slice (some ⟨g, 0, none⟩) n c] w fun en w' => en = .returned (.slice (some ⟨g, 0, none⟩) (Kf xs).length c) /\ RwG 48 3 w' g (Kf xs).length c (Ka Trc.cells (Kf xs)) /\ w.grownBy w' (some g) := by
 have hcap := h.obj.2.1;have hmax := h.obj.2.2;refine Kg (I := Pm ⟨Kap w g, g⟩ (.row (.slice (some ⟨g, 0, none⟩) n c) 48 3 n (Ka Trc.cells xs) :: Kr g w)) Tryz.func145 rfl rfl rfl ?_ (Pm.rowStartG h);refine zSG (TL.as_ ?_);refine zET (zS (zSG (TL.mv ?_)));refine TL.v (gN Tryz.underlying184) ?_;refine TL.sp Km (fun q8 => ?_) (fun q8 => ?_)
 ·have hE : Kf xs = xs := KeV (by omega);refine zET (zc (zSG (TL.rn 2 rfl (zET (zr (zR ?_))))));exact Kc Tryz.results145 rfl (fun w1 hw => by rw [hE, hl]; exact ⟨rfl, KbK hw (k := 0) rfl, hw.mapEnd (fun q hq => by simp [hq])⟩)
 refine zET (zd (zk (zT (zS (zSG (TL.as_ ?_))))));refine zET (zB ?_);refine TC.lp (α := {k : Nat // 1 <= k /\ k <= n /\ Kf (xs.take k) = xs.take k}) [0] rfl (fun y => [(3, .int .i64 ((y.1 : Nat) : Int))]) (fun y => Pm ⟨Kap w g, g⟩ ([.row (.slice (some ⟨g, 0, none⟩) n c) 48 3 n (Ka Trc.cells xs)] ++ Kr g w)) (fun y => n - y.1) (⟨1, Nat.le_refl _, by omega, Ke4 xs⟩) (fun w1 hw => hw) ?_;rintro ⟨k0, hk1, hk2, hK⟩
 try dsimp only
 refine zS (zSG (TL.rn 2 rfl (TL.v (gN Tryz.underlying184) ?_)));refine TL.sp Km (fun q13 => ?_) (fun q13 => ?_)
 ·refine zET (zc (zk (zT (zS (zB (zS (TC.quietQ (by kernel_rfl) (by kernel_rfl) (fun w hw => hw.drawn _) ?_)))))));refine TQ.rn 2 rfl ?_;have hi18 : k0 < xs.length := by omega
  obtain ⟨x18, hx18⟩ := Ko hi18;refine TQ.w rfl (gA (i := k0) Tryz.underlying184 KZ rfl rfl rfl rfl rfl (by omega)) ?_;refine TQ.w rfl (KH (off := 0 + k0 * 3) rfl rfl KbY KZ (K7.len x18) (fun w1 hw j9 u9 h9 => Ku K7 hw (q := 0) rfl hx18 j9 u9 h9)) ?_;refine TQ.rn 2 rfl ?_;refine TQ.w rfl (Kn rfl rfl rfl (fun w => K2 (r := ((k0 - 1 : Nat) : Int)) (by simp only [IntKind.wrap_i64]; omega) w)) ?_;have hi23 : k0 - 1 < xs.length := by omega
  obtain ⟨x23, hx23⟩ := Ko hi23;refine TQ.w rfl (gA (i := (k0 - 1)) Tryz.underlying184 KZ rfl rfl rfl rfl rfl (by omega)) ?_;refine TQ.w rfl (KH (off := 0 + (k0 - 1) * 3) rfl rfl KbY KZ (K7.len x23) (fun w1 hw j9 u9 h9 => Ku K7 hw (q := 0) rfl hx23 j9 u9 h9)) ?_;refine TQ.vw rfl (Ka5 rfl rfl rfl (fun w => KgG x18 x23 _ _ w)) (fun h25 => ?_) (fun h25 => ?_)
  ·have q25 := of_decide_eq_true h25;have hst := Ka2 hx18 hx23 hk1;have hK2 : Kf (xs.take (k0 + 1)) = xs.take k0 := by rw [hst, if_pos q25.symm]; exact hK
   refine TQ.fin ?_;refine zT (zc (zSG (TL.rn 2 rfl ?_)));refine TL.w rfl (Kb7 (q := k0) rfl rfl rfl rfl Tryz.underlying184 KZ (by omega) (by omega)) ?_;refine TL.as_ ?_;refine zET (zS (zSG (TL.as_ ?_)));refine zET (zB ?_);refine TC.lp (α := {y : Nat × Nat × List Trc // (1 <= y.2.1 /\ y.2.1 <= n - k0 /\ k0 <= y.1 /\ y.1 <= k0 + y.2.1 - 1) /\ y.2.2.length = n /\ (∀ p, k0 + y.2.1 - 1 <= p -> y.2.2[p]? = xs[p]?) /\ y.2.2.take y.1 = Kf (xs.take (k0 + y.2.1))}) [0, 4] rfl (fun y => [(3, .int .i64 ((y.1.1 : Nat) : Int)), (5, .int .i64 ((y.1.2.1 : Nat) : Int))]) (fun y => Pm ⟨Kap w g, g⟩ ([.row (.slice (some ⟨g, 0, none⟩) n c) 48 3 n (Ka Trc.cells y.1.2.2)] ++ Kr g w)) (fun y => n - y.1.2.1) (⟨(k0, 1, xs), by dsimp only; omega, hl, fun p _ => rfl, hK2.symm⟩) (fun w1 hw => hw) ?_;rintro ⟨⟨k, j, ys⟩, ⟨hj1, hj2, hj3, hj4⟩, hly, hI, hT⟩;dsimp only at hj1 hj2 hj3 hj4 hly hI hT ⊢;refine zS (zSG (TL.rn 2 rfl (TL.v (gN Tryz.underlying184) ?_)));refine TL.sp Km (fun q32 => ?_) (fun q32 => ?_)
   ·refine zET (zc (zk (zT (zS (zB (zS (TC.quietQ (by kernel_rfl) (by kernel_rfl) (fun w hw => hw.drawn _) ?_)))))));refine TQ.rn 2 rfl ?_;have hi37 : (k0 + j) < ys.length := by omega
    obtain ⟨x37, hx37⟩ := Ko hi37;refine TQ.w rfl (KV (v := .pointer (some ⟨g, 0 + (k0 + j) * 3, none⟩)) rfl rfl rfl (fun w => KbR Tryz.underlying184 KZ g k0 _ _ j (by omega) rfl w)) ?_;refine TQ.w rfl (KH (off := 0 + (k0 + j) * 3) rfl rfl KbY KZ (K7.len x37) (fun w1 hw j9 u9 h9 => Ku K7 hw (q := 0) rfl hx37 j9 u9 h9)) ?_;refine TQ.rn 2 rfl ?_;refine TQ.w rfl (Kn rfl rfl rfl (fun w => K2 (r := ((j - 1 : Nat) : Int)) (by simp only [IntKind.wrap_i64]; omega) w)) ?_;have hi42 : (k0 + (j - 1)) < ys.length := by omega
    obtain ⟨x42, hx42⟩ := Ko hi42;refine TQ.w rfl (KV (v := .pointer (some ⟨g, 0 + (k0 + (j - 1)) * 3, none⟩)) rfl rfl rfl (fun w => KbR Tryz.underlying184 KZ g k0 _ _ (j - 1) (by omega) rfl w)) ?_;refine TQ.w rfl (KH (off := 0 + (k0 + (j - 1)) * 3) rfl rfl KbY KZ (K7.len x42) (fun w1 hw j9 u9 h9 => Ku K7 hw (q := 0) rfl hx42 j9 u9 h9)) ?_;refine TQ.vw rfl (Ka5 rfl rfl rfl (fun w => Klz x37 x42 _ _ w)) (fun h44 => ?_) (fun h44 => ?_)
    ·have q44 := of_decide_eq_true h44;have hst := Ka2 (by rw [<- hI _ (by omega)]; exact hx37) (by rw [<- hI _ (by omega), show k0 + j - 1 = k0 + (j - 1) by omega]; exact hx42) (by omega : 1 <= k0 + j);have hc1 : ∀ p, k0 + (j + 1) - 1 <= p -> (ys.set k x37)[p]? = xs[p]? := fun p hp => by rw [List.getElem?_set_ne (by omega)]; exact hI p (by omega)
     have hc2 : (ys.set k x37).take (k + 1) = Kf (xs.take (k0 + (j + 1))) := by
      rw [List.take_add_one, List.take_set_of_le (Nat.le_refl _), List.getElem?_set_self (by omega), hT, show k0 + (j + 1) = k0 + j + 1 from rfl, hst, if_neg (fun hh => q44 hh.symm)]; rfl
     refine TQ.fin ?_;refine zT (zc (zSG (TL.rn 4 rfl ?_)));refine TL.w rfl (KV (v := .pointer (some ⟨g, 0 + (k0 + j) * 3, none⟩)) rfl rfl rfl (fun w => KbR Tryz.underlying184 KZ g k0 _ _ j (by omega) rfl w)) ?_;refine TL.w rfl (KH (off := 0 + (k0 + j) * 3) rfl rfl KbY KZ (K7.len x37) (fun w1 hw j9 u9 h9 => Ku K7 hw (q := 0) rfl hx37 j9 u9 h9)) ?_;have hi51 : k < ys.length := by omega
     obtain ⟨x51, hx51⟩ := Ko hi51;refine TL.w rfl (gA (i := k) Tryz.underlying184 KZ rfl rfl rfl rfl rfl (by omega)) ?_;refine TL.rowset (k := 0) (vs := x37.cells) (xs' := Ka Trc.cells (ys.set k x37)) rfl rfl rfl rfl rfl rfl rfl KZ (K7.one _) (by rw [Kau K7]; show 0 + k * 3 + 3 <= _; omega) (Kdc K7 (q := 0) (y := x37) hx51 (by show 0 + 3 <= 3; decide) rfl) ?_
     try dsimp only [List.set_cons_zero, List.set_cons_succ]
     refine zET (zG (TL.mv ?_));refine TL.v (gD ((k + 1 : Nat) : Int)) ?_;refine TL.as_ ?_;refine zE (zN (zT (zG (TL.mv ?_))));refine TL.v (gD ((j + 1 : Nat) : Int)) ?_;refine TL.as_ ?_;refine zE ?_;exact TX.rd (⟨(k + 1, j + 1, ys.set k x37), by dsimp only; omega, by rw [List.length_set]; exact hly, hc1, hc2⟩) (by show n - (j + 1) < n - j; omega) (fun w1 hw => hw)
    have q44 := of_decide_eq_false h44;have hst := Ka2 (by rw [<- hI _ (by omega)]; exact hx37) (by rw [<- hI _ (by omega), show k0 + j - 1 = k0 + (j - 1) by omega]; exact hx42) (by omega : 1 <= k0 + j);have hd1 : ∀ p, k0 + (j + 1) - 1 <= p -> ys[p]? = xs[p]? := fun p hp => hI p (by omega);have hd2 : ys.take k = Kf (xs.take (k0 + (j + 1))) := by rw [hT, show k0 + (j + 1) = k0 + j + 1 from rfl, hst, if_pos (Decidable.not_not.1 q44).symm]
    refine TQ.fin ?_;refine zT (zd (zk (zN (zT (zG (TL.mv ?_))))));refine TL.v (gD ((j + 1 : Nat) : Int)) ?_;refine TL.as_ ?_;refine zE ?_;exact TX.rd (⟨(k, j + 1, ys), by dsimp only; omega, hly, hd1, hd2⟩) (by show n - (j + 1) < n - j; omega) (fun w1 hw => hw)
   obtain rfl : j = n - k0 := by omega
   have hC : ys.take k = Kf xs := by rw [hT, List.take_of_length_le (by omega)]
   refine zET (zd (zx (zX (zX (zM (zT (zSG (TL.rn 2 rfl ?_))))))));refine TL.w rfl (Kb7 (q := k) rfl rfl rfl rfl Tryz.underlying184 KZ (by omega) (by omega)) ?_;refine TL.clearF K7 (kk := 0) (q := k) (z := Trc.zero) rfl rfl rfl rfl Tryz.underlying184 Kdx (by omega) (by omega) rfl ?_
   try dsimp only [List.set_cons_zero]
   refine zET (zSG (TL.rn 2 rfl ?_));refine TL.headF K7 (kk := 0) (hi := k) rfl rfl rfl rfl rfl rfl Tryz.underlying184 KZ rfl (by omega) (by omega) ?_
   try dsimp only [List.set_cons_zero]
   refine TL.as_ ?_;refine zET (zr (zRR (zR (zRR ?_))));have hfin : (ys.take k ++ List.replicate (n - k) Trc.zero).take k = Kf xs := by rw [List.take_left' (by rw [List.length_take]; omega)]; exact hC
   have hkl : (Kf xs).length = k := by rw [<- hC, List.length_take]; omega
   rw [hfin];exact Kc Tryz.results145 rfl (fun w1 hw => ⟨by rw [hkl], by rw [hkl]; exact (KbK hw (k := 0) rfl), hw.mapEnd (fun q hq => by simp [hq])⟩)
  have q25 := of_decide_eq_false h25;have hst := Ka2 hx18 hx23 hk1;have hK2 : Kf (xs.take (k0 + 1)) = xs.take (k0 + 1) := by rw [hst, if_neg (fun hh => q25 hh.symm), hK, List.take_add_one, hx18]; rfl
  refine TQ.fin ?_;refine zT (zd (zk (zN (zT (zG (TL.mv ?_))))));refine TL.v (gD ((k0 + 1 : Nat) : Int)) ?_;refine TL.as_ ?_;refine zE ?_;exact TX.rd (⟨k0 + 1, by omega, by omega, hK2⟩) (by show n - (k0 + 1) < n - k0; omega) (fun w1 hw => hw)
 obtain rfl : k0 = n := by omega
 have hE : Kf xs = xs := by rw [List.take_of_length_le (by omega)] at hK; exact hK
 refine zET (zd (zx (zX (zX (zM (zT (zSG (TL.rn 2 rfl (zET (zr ?_))))))))));exact Kc Tryz.results145 rfl (fun w1 hw => by rw [hE, hl]; exact ⟨rfl, KbK hw (k := 0) rfl, hw.mapEnd (fun q hq => by simp [hq])⟩)
theorem KiA (w : World) : Calls Tryz.prog 145 #[.slice none 0 0] w fun en w' => en = .returned (.slice none 0 0) /\ Below w.heap.size w w' := by
 refine Kg Tryz.func145 rfl rfl rfl ?_ (Pm.start w);refine zSG (TL.as_ ?_);refine zET (zS (zSG (TL.mv ?_)));refine TL.v (gN Tryz.underlying184) ?_;refine TL.w rfl (Kn rfl rfl rfl (fun w => KeB (by decide) w)) ?_;refine zET (zc (zSG (TL.rn 2 rfl (zET (zr (zR ?_))))));exact Kc Tryz.results145 rfl (fun w1 hw => ⟨rfl, hw.bel⟩)
theorem Kl4 {b n cap : Nat} {A : Option Addr} {l : List Trc} {w : World} (hr : w.ownsRow b 48 3 (.slice A n cap) n (Ka Trc.cells l)) (hl : l.length = n) (hn : n <= 1000000) :
  Calls Tryz.prog 145 #[.slice A n cap] w fun en w' => en = .returned (.slice A (Kf l).length cap) /\ w'.ownsRow b 48 3 (.slice A (Kf l).length cap) (Kf l).length (Ka Trc.cells (Kf l)) /\ w.grownBy w' (Value.ownBlock (.slice A n cap)) := by
 rcases id hr.2 with ⟨hv, h0⟩ | ⟨q, cap', cur, hv, hb, hq, h1, h2, h3, h4⟩
 ·cases hv;obtain rfl : l = [] := List.eq_nil_of_length_eq_zero (by omega);refine (KiA w).mono fun en w' ⟨h5, h6⟩ => ⟨h5, ⟨rfl, .inl ⟨rfl, rfl⟩⟩, ?_⟩;exact ⟨h6.os, h6.tape, h6.output, h6.size, fun k hk _ => h6.block k hk⟩
 cases hv;refine (KlN q n cap l w ⟨hr.1, .inr ⟨q, cap, cur, rfl, Nat.le_refl _, hq, h1, h2, h3, h4⟩⟩ hl hn).mono fun en w' ⟨h5, h6, h7⟩ => ⟨h5, ⟨h6.1, ?_⟩, h7⟩;rcases h6.2 with ⟨e1, _⟩ | ⟨q', c2, cur2, e1, e2, e3⟩
 ·cases e1
 cases e1;exact .inr ⟨q, cap, cur2, rfl, hb, e3⟩
set_option maxRecDepth 20000
theorem KhA {α : Type} {p : α -> Bool} {l out : List α} {i : Nat} {x : α} (hx : l[i]? = some x) (h : p x = true) (ho : (l.take i).filter p = out) : (l.take (i + 1)).filter p = out ++ [x] := by
 rw [List.take_add_one, hx, List.filter_append, ho];simp [h]
theorem Kgx {α : Type} {p : α -> Bool} {l out : List α} {i : Nat} {x : α} (hx : l[i]? = some x) (h : p x = false) (ho : (l.take i).filter p = out) : (l.take (i + 1)).filter p = out := by
 rw [List.take_add_one, hx, List.filter_append, ho];simp [h]
def Kbd (l o : List Rs) : Prop := KbF Rs.keys o /\ ∀ x, x ∈ o ↔ x ∈ l /\ Ks x = true
theorem KfF (x : Rs) : x.keys.length = 17 := rfl
theorem Kbd.eq {l o o' : List Rs} (h : Kbd l o) (h' : Kbd l o') : o = o' := Kdg KfF h.1 h'.1 fun x => by rw [h.2, h'.2]
theorem KjX {x y : Rs} (hx : x.Ok) (hy : y.Ok) (h : x.keys = y.keys) : x = y := by
 obtain ⟨a1, a2, a3, a4⟩ := hx;obtain ⟨b1, b2, b3, b4⟩ := hy;have w1 : ∀ z : Int, 0 <= z -> z <= 4294967295 -> IntKind.i64.wrap z = z := fun z h0 h1 => by simp only [IntKind.wrap_i64]; omega
 have hb : ∀ p q : Bool, b2i p = b2i q -> p = q := fun p q => by cases p <;> cases q <;> decide
 simp only [Rs.keys, List.cons.injEq, and_true] at h;rw [w1 _ a1 a2, w1 _ b1 b2, w1 _ a3 a4, w1 _ b3 b4] at h;obtain ⟨v, run, num, at_, dst, proto, flow, ttl, ans, dbl, back, src, kind, code, left, id, quo⟩ := x;obtain ⟨v', run', num', at', dst', proto', flow', ttl', ans', dbl', back', src', kind', code', left', id', quo'⟩ := y;simp only at h;obtain ⟨h1, h2, h3, h4, h5, h6, h7, h8, h9, h10, h11, h12, h13, h14, h15, h16, h17⟩ := h;have h9 := hb _ _ h9;have h10 := hb _ _ h10;subst h1 h2 h3 h4 h5 h6 h7 h8 h9 h10 h11 h12 h13 h14 h15 h16 h17
 rfl
theorem KkI {l o s : List Rs} (hok : ∀ r ∈ l, r.Ok) (ho : l.filter Ks = o) (hs : Kbv Kcu o s) : Kbd l (Kf s) := by
 have hm : ∀ x, x ∈ s ↔ x ∈ l /\ Ks x = true := fun x => by rw [hs.1.mem_iff, <- ho, List.mem_filter]
 refine ⟨KdK KfF s hs.2 fun x hx y hy h => KjX (hok x ((hm x).1 hx).1) (hok y ((hm y).1 hy).1) h, fun x => by rw [KcL, hm]⟩
theorem Kc9 (a0_0 : Int) (a0_1 : Int) (a0_2 : Int) (a0_3 : Int) (a0_4 : Int) (a0_5 : Int) (a0_6 : Int) (a0_7 : Int) (a0_8 : Bool) (a0_9 : Bool) (a0_10 : Int) (a0_11 : Int) (a0_12 : Int) (a0_13 : Int) (a0_14 : Int) (a0_15 : Int) (a0_16 : Int) (w : World) : (Instr.buildSlice 27 1 #[(0, .agg #[.int .i64 a0_0, .int .i64 a0_1, .int .i64 a0_2, .int .i64 a0_3, .int .u32 a0_4, .int .i64 a0_5, .int .i64 a0_6, .int .i64 a0_7, .bool a0_8, .bool a0_9, .int .i64 a0_10, .int .u32 a0_11, .int .i64 a0_12, .int .i64 a0_13, .int .i64 a0_14, .int .i64 a0_15, .int .i64 a0_16])]).run Tryz.prog w = .ok (.slice (some ⟨w.heap.size, 0, none⟩) 1 1) (w.alloc (.cells [.int .i64 a0_0, .int .i64 a0_1, .int .i64 a0_2, .int .i64 a0_3, .int .u32 a0_4, .int .i64 a0_5, .int .i64 a0_6, .int .i64 a0_7, .bool a0_8, .bool a0_9, .int .i64 a0_10, .int .u32 a0_11, .int .i64 a0_12, .int .i64 a0_13, .int .i64 a0_14, .int .i64 a0_15, .int .i64 a0_16].toArray 76)) := by kernel_rfl
theorem KcN : Elem Tryz.prog 27 76 17 128 := Elem.mk' Tryz.underlying27 (z := .agg #[.int .i64 0, .int .i64 0, .int .i64 0, .int .i64 0, .int .u32 0, .int .i64 0, .int .i64 0, .int .i64 0, .bool false, .bool false, .int .i64 0, .int .u32 0, .int .i64 0, .int .i64 0, .int .i64 0, .int .i64 0, .int .i64 0]) (by kernel_rfl) rfl (by omega) (by omega)
theorem Kfa (A0 : Option Addr) (c0 : Nat) (l : List Rs) (w : World) (hr : Kd w w.heap.size 17 A0 l.length (Ka Rs.cells l)) (hl1 : l.length <= 100000) (hok : ∀ r ∈ l, r.Ok) :
  Calls Tryz.prog 94 #[.slice A0 l.length c0] w fun e w' => ∃ x : {y : (Option Addr × Nat) × List Rs // Kbd l y.2 /\ y.2.length <= y.1.2 /\ y.1.2 <= maxLen}, e = .returned (.slice x.1.1.1 x.1.2.length x.1.1.2) /\ Pm w [.row (.slice x.1.1.1 x.1.2.length x.1.1.2) 76 17 x.1.2.length (Ka Rs.cells x.1.2)] w' := by
 refine Kg Tryz.func94 rfl rfl rfl ?_ (Pm.start w);refine zSG (TL.as_ ?_);refine zET (zSG (TL.as_ ?_));refine zET (zS (zSG (TL.mv ?_)));refine TL.v (gN Tryz.underlying27) ?_;refine TL.mv ?_;refine zET (zB (TC.nilrow 76 17 ?_));refine TC.lp (α := {y : Nat × (Option Addr × Nat) × List Rs // y.1 <= l.length /\ ((l.take y.1).filter Ks = y.2.2) /\ y.2.2.length <= y.1 /\ y.2.2.length <= y.2.1.2 /\ y.2.1.2 <= maxLen}) [2, 6, 7] rfl (fun y => [(8, .int .i64 ((y.1.1 : Nat) : Int)), (3, .slice y.1.2.1.1 y.1.2.2.length y.1.2.1.2)]) (fun y => Pm w [.row (.slice y.1.2.1.1 y.1.2.2.length y.1.2.1.2) 76 17 y.1.2.2.length (Ka Rs.cells y.1.2.2)]) (fun y => l.length - y.1.1) (⟨(0, (none, 0), []), Nat.zero_le _, rfl, Nat.le_refl _, Nat.le_refl _, Nat.zero_le _⟩) (fun w1 hw => hw) ?_;rintro ⟨⟨i, ⟨Ao, co⟩, out⟩, hi, hout, houtl, houtc, houtm⟩;dsimp only at hi hout houtl houtc houtm ⊢;refine zSG ?_;refine TL.vw rfl (Kn rfl rfl rfl (fun w => Km w)) (fun h9 => ?_) (fun h9 => ?_)
 ·have q9 := of_decide_eq_true h9;refine zET (zS (zc (zk (zT (zS (zB (zSG ?_)))))));have hi10 : i < l.length := by omega
  obtain ⟨x10, hx10⟩ := Ko hi10;obtain ⟨b10, o10, hA10, hbb10, hc10⟩ := hr.ad (by omega) (by decide);refine TL.w rfl (gA (i := i) Tryz.underlying27 Ki rfl rfl rfl rfl hA10 (by omega)) ?_;refine TL.v (gR Kt KG Ki hbb10 hx10 hc10) ?_;refine TL.al Kbg fun g5 => ?_;refine TL.pstore (k := 0) (vs := x10.cells) rfl rfl rfl rfl rfl rfl rfl Ki (Kt.one _) (by show 17 <= 17; decide) (L' := [.blk g5 76 x10.cells, .row (.slice Ao out.length co) 76 17 out.length (Ka Rs.cells out)]) rfl ?_;refine zET (zSG (TL.v (gV 0 (.agg (x10.cells).toArray) KG Ki) ?_));refine TL.pS rfl o93 (fun w1 hw => KcK x10 w1) (fun h13 => ?_) (fun h13 => ?_)
  ·refine zET (zc (zG (TL.mv ?_)));refine TL.v (gV 0 (.agg (x10.cells).toArray) KG Ki) ?_;refine TL.prowS (e := 76) (size := 17) (cs := Ka Rs.cells [x10]) rfl rfl rfl rfl rfl (fun w => Kc9 _ _ _ _ _ _ _ _ _ _ _ _ _ _ _ _ _ w) (by decide) rfl (fun g16 => ?_);refine TL.appendT (k := 2) rfl rfl rfl rfl Tryz.underlying27 KcN rfl rfl rfl (fun w1 hw => KL hw (k := 0) rfl) (KB Kt _) (by show _ * 128 <= _; omega) ((out ++ [x10]).length) (by rw [List.length_append]; rfl) (Ka Rs.cells (out ++ [x10])) ((KF _ _).symm) (fun A17 c17 hA171 hA172 => ?_);refine TL.as_ ?_;refine zE (zN (zT (zG (TL.v (gD ((i + 1 : Nat) : Int)) ?_))));refine TL.mv ?_;refine zE ?_;exact TX.rd (⟨(i + 1, (A17, c17), out ++ [x10]), by dsimp only; omega, KhA hx10 h13 hout, by dsimp only; rw [List.length_append]; show out.length + 1 <= _; omega, hA171, hA172⟩) (by show l.length - (i + 1) < l.length - i; omega) (fun w1 hw => hw.pk [2])
  refine zET (zd (zk (zN (zT (zG (TL.v (gD ((i + 1 : Nat) : Int)) ?_))))));refine TL.mv ?_;refine zE ?_;exact TX.rd (⟨(i + 1, (Ao, co), out), by dsimp only; omega, Kgx hx10 h13 hout, by dsimp only; omega, houtc, houtm⟩) (by show l.length - (i + 1) < l.length - i; omega) (fun w1 hw => hw.pk [1])
 have q9 := of_decide_eq_false h9;refine zET (zS (zd (zx (zX (zX (zM (zT (zSG (TL.mv ?_)))))))));refine TL.turnRowD (k := 0) (fun ys => Kbv Kcu out ys) rfl rfl rfl rfl rfl Tryz.func140 (by decide) rfl rfl (fun w1 hw hr9 => Kh4 hr9 (rfl) (by omega)) (fun srt20 hS20 => ?_)
 try dsimp only [List.set_cons_zero, List.set_cons_succ]
 refine zET (zSG (TL.mv ?_));refine TL.turnRow2 (q := 0) (ys := Kf srt20) rfl rfl rfl rfl rfl Tryz.func142 (by decide) rfl rfl (fun w1 hw hr9 => Ki8 hr9 (hS20.1.length_eq) (by omega)) ?_
 try dsimp only [List.set_cons_zero, List.set_cons_succ]
 refine TL.as_ ?_;refine zET (zr ?_);have hle : (Kf srt20).length <= out.length := Nat.le_trans (KdN _) (Nat.le_of_eq hS20.1.length_eq);exact Kc Tryz.results94 rfl (fun w1 hw => ⟨⟨((Ao, co), Kf srt20), KkI hok (by rw [List.take_of_length_le (by omega)] at hout; exact hout) hS20, by dsimp only; omega, houtm⟩, rfl, hw.pick [0] (by decide) rfl⟩)
set_option maxRecDepth 20000
theorem KbV {α : Type} {l : List α} {i : Nat} {x z : α} (hx : l[i]? = some x) : z ∈ l.take (i + 1) ↔ z ∈ l.take i \/ z = x := by
  rw [List.take_add_one, hx, List.mem_append];simp
set_option maxRecDepth 20000
theorem Kma {α β : Type} {p : α -> Bool} {f : α -> β} {l : List α} {out : List β} {i : Nat} {x : α} (hx : l[i]? = some x) (h : p x = true) (ho : ((l.take i).filter p).map f = out) : ((l.take (i + 1)).filter p).map f = out ++ [f x] := by
 rw [List.take_add_one, hx, List.filter_append, List.map_append, ho];simp [h]
theorem Kkx {α β : Type} {p : α -> Bool} {f : α -> β} {l : List α} {out : List β} {i : Nat} {x : α} (hx : l[i]? = some x) (h : p x = false) (ho : ((l.take i).filter p).map f = out) : ((l.take (i + 1)).filter p).map f = out := by
 rw [List.take_add_one, hx, List.filter_append, List.map_append, ho];simp [h]
def trk (t : Trc) : List Int := [t.v, t.dst, t.proto]
theorem KeI (t : Trc) : (trk t).length = 3 := rfl
theorem Kls {x y : Trc} (h : trk x = trk y) : x = y := by
 obtain ⟨a, b, c⟩ := x;obtain ⟨a', b', c'⟩ := y;simp only [trk, List.cons.injEq, and_true] at h;obtain ⟨h1, h2, h3⟩ := h;subst h1 h2 h3
 rfl
def KM (l : List Rs) (o : List Trc) : Prop := KbF trk o /\ ∀ t, t ∈ o ↔ ∃ r ∈ l, Ks r = true /\ Kw r = t
theorem KM.eq {l : List Rs} {o o' : List Trc} (h : KM l o) (h' : KM l o') : o = o' := Kdg KeI h.1 h'.1 fun x => by rw [h.2, h'.2]
theorem Kkp {l : List Rs} {o s : List Trc} (ho : (l.filter Ks).map Kw = o) (hs : Kbv KcX o s) : KM l (Kf s) := by
 refine ⟨KdK KeI s hs.2 fun x hx y hy h => Kls h, fun t => ?_⟩;rw [KcL, hs.1.mem_iff, <- ho, List.mem_map];constructor
 ·rintro ⟨r, hr, e⟩;have := List.mem_filter.1 hr;exact ⟨r, this.1, this.2, e⟩
 rintro ⟨r, h1, h2, e⟩;exact ⟨r, List.mem_filter.2 ⟨h1, h2⟩, e⟩
def Kgu (a b : Trc) : List (Int × Int) := [(a.v, b.v), (IntKind.i64.wrap a.dst, IntKind.i64.wrap b.dst), (a.proto, b.proto)]
def KdQ (a b : Trc) : Int := orP (Kgu a b)
theorem Klm {a b : Trc} (h1 : 0 <= a.dst) (h2 : a.dst <= 4294967295) (h3 : 0 <= b.dst) (h4 : b.dst <= 4294967295) : KdQ a b = Ky (trk a) (trk b) := by
 have w1 : ∀ z : Int, 0 <= z -> z <= 4294967295 -> IntKind.i64.wrap z = z := fun z h0 h1 => by simp only [IntKind.wrap_i64]; omega
 rw [KdQ, Kgu, w1 _ h1 h2, w1 _ h3 h4]
 rfl
theorem KM.nil : KM [] [] := ⟨List.Pairwise.nil, fun x => by simp⟩
section
variable {l : List Rs} {o : List Trc} {i q : Nat} {x : Rs}
theorem KM.skip (h : KM (l.take i) o) (hx : l[i]? = some x) (hv : Ks x = false) : KM (l.take (i + 1)) o := ⟨h.1, fun t => by
 rw [h.2];constructor
 ·rintro ⟨r, h1, h2⟩;exact ⟨r, (KbV hx).2 (.inl h1), h2⟩
 rintro ⟨r, h1, h2, h3⟩;rcases (KbV hx).1 h1 with h4 | h4
 ·exact ⟨r, h4, h2, h3⟩
 rw [h4, hv] at h2; cases h2⟩
theorem KM.put (h : KM (l.take i) o) (hx : l[i]? = some x) (hv : Ks x = true) (h1 : ∀ y ∈ o.take q, Ky (trk y) (trk (Kw x)) < 0) (h2 : ∀ y ∈ o.drop q, Ky (trk (Kw x)) (trk y) < 0) : KM (l.take (i + 1)) (o.take q ++ Kw x :: o.drop q) := by
 refine ⟨KlQ KeI h.1 h1 h2, fun t => ?_⟩;rw [Kfg, h.2];constructor
 ·rintro (⟨r, h3, h4⟩ | hh)
  ·exact ⟨r, (KbV hx).2 (.inl h3), h4⟩
  exact ⟨x, (KbV hx).2 (.inr rfl), hv, hh.symm⟩
 rintro ⟨r, h3, h4, h5⟩;rcases (KbV hx).1 h3 with h6 | h6
 ·exact .inl ⟨r, h6, h4, h5⟩
 rw [h6] at h5; exact .inr h5.symm
theorem KM.rng (h : KM (l.take i) o) (hok : ∀ r ∈ l, r.Ok) {y : Trc} (hy : y ∈ o) : 0 <= y.dst /\ y.dst <= 4294967295 := by
 obtain ⟨r, h1, _, h3⟩ := (h.2 y).1 hy;have := hok r (List.mem_of_mem_take h1);rw [<- h3];exact ⟨this.1, this.2.1⟩
theorem KM.cmp (h : KM (l.take i) o) (hx : l[i]? = some x) (hok : ∀ r ∈ l, r.Ok) {y : Trc} (hy : y ∈ o) : KdQ y (Kw x) = Ky (trk y) (trk (Kw x)) := by
 have h1 := h.rng hok hy;have h2 := hok x (List.mem_of_getElem? hx);exact Klm h1.1 h1.2 h2.1 h2.2.1
theorem KM.lt (h : KM (l.take i) o) (hx : l[i]? = some x) (hok : ∀ r ∈ l, r.Ok) {y : Trc} (hy : y ∈ o) (hc : KdQ y (Kw x) < 0) : Ky (trk y) (trk (Kw x)) < 0 := by rw [<- h.cmp hx hok hy]; exact hc
end
theorem Kis (a0_0 : Int) (a0_1 : Int) (a0_2 : Int) (w : World) : (Instr.buildSlice 184 1 #[(0, .agg #[.int .i64 a0_0, .int .u32 a0_1, .int .i64 a0_2])]).run Tryz.prog w = .ok (.slice (some ⟨w.heap.size, 0, none⟩) 1 1) (w.alloc (.cells [.int .i64 a0_0, .int .u32 a0_1, .int .i64 a0_2].toArray 48)) := by kernel_rfl
theorem KkD : Elem Tryz.prog 184 48 3 24 := Elem.mk' Tryz.underlying184 (z := .agg #[.int .i64 0, .int .u32 0, .int .i64 0]) (by kernel_rfl) rfl (by omega) (by omega)
theorem KgK (A0 : Option Addr) (c0 : Nat) (l : List Rs) (w : World) (hr : Kd w w.heap.size 17 A0 l.length (Ka Rs.cells l)) (hl1 : l.length <= 100000) :
  Calls Tryz.prog 95 #[.slice A0 l.length c0] w fun e w' => ∃ x : {y : (Option Addr × Nat) × List Trc // KM l y.2 /\ y.2.length <= y.1.2 /\ y.1.2 <= maxLen}, e = .returned (.slice x.1.1.1 x.1.2.length x.1.1.2) /\ Pm w [.row (.slice x.1.1.1 x.1.2.length x.1.1.2) 48 3 x.1.2.length (Ka Trc.cells x.1.2)] w' := by
 refine Kg Tryz.func95 rfl rfl rfl ?_ (Pm.start w);refine zSG (TL.as_ ?_);refine zET (zSG (TL.as_ ?_));refine zET (zS (zSG (TL.mv ?_)));refine TL.v (gN Tryz.underlying27) ?_;refine TL.mv ?_;refine zET (zB (TC.nilrow 48 3 ?_));refine TC.lp (α := {y : Nat × (Option Addr × Nat) × List Trc // y.1 <= l.length /\ (((l.take y.1).filter Ks).map Kw = y.2.2) /\ y.2.2.length <= y.1 /\ y.2.2.length <= y.2.1.2 /\ y.2.1.2 <= maxLen}) [2, 6, 7] rfl (fun y => [(8, .int .i64 ((y.1.1 : Nat) : Int)), (3, .slice y.1.2.1.1 y.1.2.2.length y.1.2.1.2)]) (fun y => Pm w [.row (.slice y.1.2.1.1 y.1.2.2.length y.1.2.1.2) 48 3 y.1.2.2.length (Ka Trc.cells y.1.2.2)]) (fun y => l.length - y.1.1) (⟨(0, (none, 0), []), Nat.zero_le _, rfl, Nat.le_refl _, Nat.le_refl _, Nat.zero_le _⟩) (fun w1 hw => hw) ?_;rintro ⟨⟨i, ⟨Ao, co⟩, out⟩, hi, hout, houtl, houtc, houtm⟩;dsimp only at hi hout houtl houtc houtm ⊢;refine zSG ?_;refine TL.vw rfl (Kn rfl rfl rfl (fun w => Km w)) (fun h9 => ?_) (fun h9 => ?_)
 ·have q9 := of_decide_eq_true h9;refine zET (zS (zc (zk (zT (zS (zB (zSG ?_)))))));have hi10 : i < l.length := by omega
  obtain ⟨x10, hx10⟩ := Ko hi10;obtain ⟨b10, o10, hA10, hbb10, hc10⟩ := hr.ad (by omega) (by decide);refine TL.w rfl (gA (i := i) Tryz.underlying27 Ki rfl rfl rfl rfl hA10 (by omega)) ?_;refine TL.v (gR Kt KG Ki hbb10 hx10 hc10) ?_;refine TL.al Kbg fun g5 => ?_;refine TL.pstore (k := 0) (vs := x10.cells) rfl rfl rfl rfl rfl rfl rfl Ki (Kt.one _) (by show 17 <= 17; decide) (L' := [.blk g5 76 x10.cells, .row (.slice Ao out.length co) 48 3 out.length (Ka Trc.cells out)]) rfl ?_;refine zET (zSG (TL.v (gV 0 (.agg (x10.cells).toArray) KG Ki) ?_));refine TL.pS rfl o93 (fun w1 hw => KcK x10 w1) (fun h13 => ?_) (fun h13 => ?_)
  ·refine zET (zc (zG (TL.mv ?_)));refine TL.v (gV 0 (.agg (x10.cells).toArray) KG Ki) ?_;refine TL.p1 rfl o58 (fun w1 hw => Kdr x10 w1) ?_;refine TL.prowS (e := 48) (size := 3) (cs := Ka Trc.cells [Kw x10]) rfl rfl rfl rfl rfl (fun w => Kis _ _ _ w) (by decide) rfl (fun g17 => ?_);refine TL.appendT (k := 2) rfl rfl rfl rfl Tryz.underlying184 KkD rfl rfl rfl (fun w1 hw => KL hw (k := 0) rfl) (KB K7 _) (by show _ * 24 <= _; omega) ((out ++ [Kw x10]).length) (by rw [List.length_append]; rfl) (Ka Trc.cells (out ++ [Kw x10])) ((KF _ _).symm) (fun A18 c18 hA181 hA182 => ?_);refine TL.as_ ?_;refine zE (zN (zT (zG (TL.v (gD ((i + 1 : Nat) : Int)) ?_))));refine TL.mv ?_;refine zE ?_;exact TX.rd (⟨(i + 1, (A18, c18), out ++ [Kw x10]), by dsimp only; omega, Kma hx10 h13 hout, by dsimp only; rw [List.length_append]; show out.length + 1 <= _; omega, hA181, hA182⟩) (by show l.length - (i + 1) < l.length - i; omega) (fun w1 hw => hw.pk [2])
  refine zET (zd (zk (zN (zT (zG (TL.v (gD ((i + 1 : Nat) : Int)) ?_))))));refine TL.mv ?_;refine zE ?_;exact TX.rd (⟨(i + 1, (Ao, co), out), by dsimp only; omega, Kkx hx10 h13 hout, by dsimp only; omega, houtc, houtm⟩) (by show l.length - (i + 1) < l.length - i; omega) (fun w1 hw => hw.pk [1])
 have q9 := of_decide_eq_false h9;refine zET (zS (zd (zx (zX (zX (zM (zT (zSG (TL.mv ?_)))))))));refine TL.turnRowD (k := 0) (fun ys => Kbv KcX out ys) rfl rfl rfl rfl rfl Tryz.func143 (by decide) rfl rfl (fun w1 hw hr9 => Kii hr9 (rfl) (by omega)) (fun srt21 hS21 => ?_)
 try dsimp only [List.set_cons_zero, List.set_cons_succ]
 refine zET (zSG (TL.mv ?_));refine TL.turnRow2 (q := 0) (ys := Kf srt21) rfl rfl rfl rfl rfl Tryz.func145 (by decide) rfl rfl (fun w1 hw hr9 => Kl4 hr9 (hS21.1.length_eq) (by omega)) ?_
 try dsimp only [List.set_cons_zero, List.set_cons_succ]
 refine TL.as_ ?_;refine zET (zr ?_);have hle : (Kf srt21).length <= out.length := Nat.le_trans (KdN _) (Nat.le_of_eq hS21.1.length_eq);exact Kc Tryz.results95 rfl (fun w1 hw => ⟨⟨((Ao, co), Kf srt21), Kkp (by rw [List.take_of_length_le (by omega)] at hout; exact hout) hS21, by dsimp only; omega, houtm⟩, rfl, hw.pick [0] (by decide) rfl⟩)
set_option maxRecDepth 20000
theorem KeP {α : Type} [DecidableEq α] : ∀ {p F : List α}, p.Nodup -> (∀ f ∈ p, f ∈ F) -> p.length <= F.length
 | [], _, _, _ => Nat.zero_le _
 | a :: p, F, h, hs => by
  obtain ⟨h1, h2⟩ := List.nodup_cons.1 h;have := KeP (F := F.erase a) h2 fun f hf => (List.mem_erase_of_ne (fun e => h1 (by rw [<- e]; exact hf))).2 (hs f (List.mem_cons_of_mem _ hf));rw [List.length_erase_of_mem (hs a List.mem_cons_self)] at this;have h3 : 0 < F.length := List.length_pos_of_mem (hs a List.mem_cons_self);rw [List.length_cons];omega
def Kaj (l : List Rs) (t : Trc) (y : List Rs) : Prop := ∃ o, Kbd l o /\ y = o.filter fun r => decide (Kw r = t)
theorem Kaj.eq {l y y' : List Rs} {t : Trc} (h : Kaj l t y) (h' : Kaj l t y') : y = y' := by
 obtain ⟨o, h1, h2⟩ := h;obtain ⟨o', h3, h4⟩ := h';rw [h2, h4, h1.eq h3]
theorem Kbd.le {l o : List Rs} (h : Kbd l o) : o.length <= l.length := by
 have hn : o.Nodup := h.1.imp fun {a b} hab e => by subst e; exact KdE _ hab
 exact KeP hn fun x hx => ((h.2 x).1 hx).1
theorem Kke (A0 : Option Addr) (c0 : Nat) (l : List Rs) (t : Trc) (w : World) (hr : Kd w w.heap.size 17 A0 l.length (Ka Rs.cells l)) (hl1 : l.length <= 100000) (hok : ∀ r ∈ l, r.Ok) :
  Calls Tryz.prog 96 #[.slice A0 l.length c0, .agg t.cells.toArray] w fun e w' => ∃ x : {y : (Option Addr × Nat) × List Rs // Kaj l t y.2 /\ y.2.length <= y.1.2 /\ y.1.2 <= maxLen}, e = .returned (.slice x.1.1.1 x.1.2.length x.1.1.2) /\ Pm w [.row (.slice x.1.1.1 x.1.2.length x.1.1.2) 76 17 x.1.2.length (Ka Rs.cells x.1.2)] w' := by
 refine Kg Tryz.func96 rfl rfl rfl ?_ (Pm.start w);refine zSG ?_;refine TL.bx fun g3 => ?_;refine TL.as_ ?_;refine zET (zSG (TL.as_ ?_));refine zET (zS (zSG (TL.mv ?_)));refine TL.pM _ _ rfl o94 (fun w1 hw => Kfa A0 c0 l w1 (hr.up hw.bel) hl1 hok) ?_;rintro ⟨⟨⟨R9, rc9⟩, o9⟩, hP9, hR91, hR92⟩;dsimp only [lC, lN];dsimp only at hP9 hR91 hR92 ⊢;refine TL.v (gN Tryz.underlying27) ?_;refine TL.mv ?_;refine zET (zB (TC.nilrow 76 17 ?_));have hol := hP9.le;refine TC.lp (α := {y : Nat × (Option Addr × Nat) × List Rs // y.1 <= o9.length /\ ((o9.take y.1).filter (fun r => decide (Kw r = t)) = y.2.2) /\ y.2.2.length <= y.1 /\ y.2.2.length <= y.2.1.2 /\ y.2.1.2 <= maxLen}) [3, 9, 10] rfl (fun y => [(11, .int .i64 ((y.1.1 : Nat) : Int)), (5, .slice y.1.2.1.1 y.1.2.2.length y.1.2.1.2)]) (fun y => Pm w [.row (.slice y.1.2.1.1 y.1.2.2.length y.1.2.1.2) 76 17 y.1.2.2.length (Ka Rs.cells y.1.2.2), .row (.slice R9 o9.length rc9) 76 17 o9.length (Ka Rs.cells o9), .blk g3 48 t.cells]) (fun y => o9.length - y.1.1) (⟨(0, (none, 0), []), Nat.zero_le _, rfl, Nat.le_refl _, Nat.le_refl _, Nat.zero_le _⟩) (fun w1 hw => hw) ?_;rintro ⟨⟨i, ⟨Ao, co⟩, out⟩, hi, hout, houtl, houtc, houtm⟩;dsimp only at hi hout houtl houtc houtm ⊢;refine zSG ?_;refine TL.sp Km (fun q12 => ?_) (fun q12 => ?_)
 ·refine zET (zS (zc (zk (zT (zS (zB (zSG ?_)))))));refine TL.fact (p := ∃ g, R9 = some ⟨g, 0, none⟩) (fun w1 hw => Kak hw (k := 1) rfl (by omega)) ?_;rintro ⟨g_R9, rfl⟩;have hi13 : i < o9.length := by omega
  obtain ⟨x13, hx13⟩ := Ko hi13;refine TL.w rfl (gA (i := i) Tryz.underlying27 Ki rfl rfl rfl rfl rfl (by omega)) ?_;refine TL.w rfl (KH (off := 0 + i * 17) rfl rfl KG Ki (Kt.len x13) (fun w1 hw j9 u9 h9 => Ku Kt hw (q := 1) rfl hx13 j9 u9 h9)) ?_;refine TL.al Kbg fun g7 => ?_;refine TL.pstore (k := 0) (vs := x13.cells) rfl rfl rfl rfl rfl rfl rfl Ki (Kt.one _) (by show 17 <= 17; decide) (L' := [.blk g7 76 x13.cells, .row (.slice Ao out.length co) 76 17 out.length (Ka Rs.cells out), .row (.slice (some ⟨g_R9, 0, none⟩) o9.length rc9) 76 17 o9.length (Ka Rs.cells o9), .blk g3 48 t.cells]) rfl ?_;refine zET (zS (TC.quietQ (by kernel_rfl) (by kernel_rfl) (fun w hw => hw.drawn _) ?_));refine TQ.v (gV 0 (.agg (x13.cells).toArray) KG Ki) ?_;refine TQ.p1 (v := .agg ((Kw x13).cells).toArray) rfl o58 (fun w1 hw => (Kdr x13 w1).mono fun en w2 ⟨h1, h2⟩ => ⟨h1, hw.below h2⟩) ?_;refine TQ.v (gV 3 (.agg (t.cells).toArray) KbY KZ) ?_;refine TQ.vw rfl (Ka5 rfl rfl rfl (fun w => KgG (Kw x13) t _ _ w)) (fun h18 => ?_) (fun h18 => ?_)
  ·have q18 := of_decide_eq_true h18;refine TQ.fin ?_;refine zT (zc (zG (TL.mv ?_)));refine TL.v (gV 0 (.agg (x13.cells).toArray) KG Ki) ?_;refine TL.prowS (e := 76) (size := 17) (cs := Ka Rs.cells [x13]) rfl rfl rfl rfl rfl (fun w => Kc9 _ _ _ _ _ _ _ _ _ _ _ _ _ _ _ _ _ w) (by decide) rfl (fun g21 => ?_);refine TL.appendT (k := 2) rfl rfl rfl rfl Tryz.underlying27 KcN rfl rfl rfl (fun w1 hw => KL hw (k := 0) rfl) (KB Kt _) (by show _ * 128 <= _; omega) ((out ++ [x13]).length) (by rw [List.length_append]; rfl) (Ka Rs.cells (out ++ [x13])) ((KF _ _).symm) (fun A22 c22 hA221 hA222 => ?_);refine TL.as_ ?_;refine zE (zN (zT (zG (TL.v (gD ((i + 1 : Nat) : Int)) ?_))));refine TL.mv ?_;refine zE ?_;exact TX.rd (⟨(i + 1, (A22, c22), out ++ [x13]), by dsimp only; omega, KhA (p := fun r => decide (Kw r = t)) hx13 (decide_eq_true q18) hout, by dsimp only; rw [List.length_append]; show out.length + 1 <= _; omega, hA221, hA222⟩) (by show o9.length - (i + 1) < o9.length - i; omega) (fun w1 hw => hw.pk [2, 3, 4])
  have q18 := of_decide_eq_false h18;refine TQ.fin ?_;refine zT (zd (zk (zN (zT (zG (TL.v (gD ((i + 1 : Nat) : Int)) ?_))))));refine TL.mv ?_;refine zE ?_;exact TX.rd (⟨(i + 1, (Ao, co), out), by dsimp only; omega, Kgx (p := fun r => decide (Kw r = t)) hx13 (decide_eq_false q18) hout, by dsimp only; omega, houtc, houtm⟩) (by show o9.length - (i + 1) < o9.length - i; omega) (fun w1 hw => hw.pk [1, 2, 3])
 refine zET (zS (zd (zx (zX (zX (zM (zT (zSG (TL.rn 2 rfl (zET (zr ?_)))))))))));exact Kc Tryz.results96 rfl (fun w1 hw => ⟨⟨((Ao, co), out), ⟨o9, hP9, by rw [List.take_of_length_le (by omega)] at hout; exact hout.symm⟩, by dsimp only; omega, houtm⟩, rfl, hw.pick [0] (by decide) rfl⟩)
open Go Go.RowKit
set_option maxRecDepth 20000
structure ESp where
  v : Int
  dst : Int
  proto : Int
  flow : Int
  ttl : Int
deriving DecidableEq
def ESp.cells (r : ESp) : List Value := [.int .i64 r.v, .int .u32 r.dst, .int .i64 r.proto, .int .i64 r.flow, .int .i64 r.ttl]
theorem Klp : Cel ESp.cells 5 := ⟨fun _ => rfl, fun r u hu => by
  simp only [ESp.cells, List.mem_cons, List.not_mem_nil, or_false] at hu;rcases hu with rfl | rfl | rfl | rfl | rfl <;> rfl⟩
def ESp.Ok (s : ESp) : Prop := (Lit.int .i64 s.v).wf = true /\ (Lit.int .u32 s.dst).wf = true /\ (Lit.int .i64 s.proto).wf = true /\ (Lit.int .i64 s.flow).wf = true /\ (Lit.int .i64 s.ttl).wf = true
theorem Kl8 (d : Nat) (a0 : Int) (a1 : Int) (a2 : Int) (a3 : Int) (a4 : Int) (h0 : (Lit.int .i64 a0).wf = true) (h1 : (Lit.int .u32 a1).wf = true) (h2 : (Lit.int .i64 a2).wf = true) (h3 : (Lit.int .i64 a3).wf = true) (h4 : (Lit.int .i64 a4).wf = true) : Tryz.prog.keyLits (d + 3) 239 [.int .i64 a0, .int .u32 a1, .int .i64 a2, .int .i64 a3, .int .i64 a4] = some [.int .i64 a0, .int .u32 a1, .int .i64 a2, .int .i64 a3, .int .i64 a4] := by
  have hc : Tryz.prog.cellsOf 239 = 5 := by kernel_rfl
  have hc3 : Tryz.prog.cellsOf 3 = 1 := by kernel_rfl
  have hu3 := Tryz.underlying3;have hc42 : Tryz.prog.cellsOf 42 = 1 := by kernel_rfl
  have hu42 := Tryz.underlying42;have hc48 : Tryz.prog.cellsOf 48 = 3 := by kernel_rfl
  have hu48 := Tryz.underlying48;simp [Program.keyLits, Tryz.underlying239, hc, hc3, hu3, hc42, hu42, hc48, hu48, h0, h1, h2, h3, h4];rw [if_pos (by decide)]; rfl
theorem Kl7 (s : ESp) (h : s.Ok) : ∃ l, keyOf Tryz.prog 239 (.agg s.cells.toArray) = some l := by
  have hkt : Tryz.prog.keyType 239 = true := by kernel_rfl
  have hc : Tryz.prog.cellsOf 239 = 5 := by kernel_rfl
  have hf : (Value.agg s.cells.toArray).formed Tryz.prog 239 = true := by simp [Value.formed, Tryz.underlying239, hc, ESp.cells]
  have hp : 1 < Tryz.prog.types.size := of_decide_eq_true (by kernel_rfl);have hl := Kl8 (Tryz.prog.types.size - 2) s.v s.dst s.proto s.flow s.ttl h.1 h.2.1 h.2.2.1 h.2.2.2.1 h.2.2.2.2;rw [show Tryz.prog.types.size - 2 + 3 = Tryz.prog.types.size + 1 by omega] at hl;refine ⟨.string (keyBytes [.int .i64 s.v, .int .u32 s.dst, .int .i64 s.proto, .int .i64 s.flow, .int .i64 s.ttl]), ?_⟩;unfold keyOf;rw [Tryz.underlying239];simp only [hkt, hf, Bool.and_self, if_true];show Option.map _ (Tryz.prog.keyLits _ _ [.int .i64 s.v, .int .u32 s.dst, .int .i64 s.proto, .int .i64 s.flow, .int .i64 s.ttl]) = _;rw [hl]
  rfl
theorem Ket : MKey Tryz.prog 239 (fun s : ESp => .agg s.cells.toArray) ESp.Ok where
  keyed := Maps.Keyed.of_law (deep_law (m := 3) (by omega) (by kernel_rfl) (by kernel_rfl) (by rw [Tryz.underlying239]))
  lit := Kl7
  inj := fun a b h => by
    cases a; cases b
    simpa [ESp.cells] using h
set_option maxRecDepth 20000
def Kd8 (p : Rs -> Bool) (l : List Rs) (z : Int) : Prop := (z = -1 /\ ∀ r ∈ l, p r = false) \/ ∃ i : Nat, z = (i : Int) /\ i < l.length /\ (∀ r ∈ l.take i, p r = false) /\ ∃ y, l[i]? = some y /\ p y = true
theorem Kfw {p : Rs -> Bool} {l : List Rs} {z : Int} (h : Kd8 p l z) : l.any p = decide (z >= 0) := by
 rcases h with ⟨rfl, h⟩ | ⟨i, rfl, _, _, y, hy, hp⟩
 ·rw [List.any_eq_false.2 fun r hr => by rw [h r hr]; decide]; rfl
 rw [List.any_eq_true.2 ⟨y, List.mem_of_getElem? hy, hp⟩]; exact (decide_eq_true (by omega)).symm
theorem KlU (A0 : Option Addr) (c0 : Nat) (l : List Rs) (p : Rs -> Bool) (f : FuncId) (fn : Func) (cap : Array Value) (w : World) (hr : Kd w w.heap.size 17 A0 l.length (Ka Rs.cells l)) (hl1 : l.length <= 100000) (hfn : Tryz.prog.funcs[f]? = some fn) (hnm : (fn.name == "runtime.NumGoroutine") = false) (hbd : fn.body.isNone = false) (hf : ∀ (x : Rs) (w1 : World), Below w.heap.size w w1 -> Calls Tryz.prog f (#[] ++ [Value.agg x.cells.toArray].toArray ++ cap) w1 fun e w' => e = .returned (.bool (p x)) /\ Below w1.heap.size w1 w') :
  Calls Tryz.prog 138 #[.slice A0 l.length c0, .func (.func f) #[] cap] w fun e w' => ∃ x : {z : Int // Kd8 p l z}, e = .returned (.int .i64 x.1) /\ Below w.heap.size w w' := by
 refine Kg Tryz.func138 rfl rfl rfl ?_ (Pm.start w);refine zSG (TL.as_ ?_);refine zET (zS (zSG (TL.mv ?_)));refine TL.v (gN Tryz.underlying27) ?_;refine TL.mv ?_;refine zET (zB ?_);refine TC.lp (α := {i : Nat // i <= l.length /\ ∀ r ∈ l.take i, p r = false}) [0, 1, 7] rfl (fun y => [(8, .int .i64 ((y.1 : Nat) : Int))]) (fun y => Pm w []) (fun y => l.length - y.1) (⟨0, Nat.zero_le _, fun r hr => by rw [List.take_zero] at hr; cases hr⟩) (fun w1 hw => hw) ?_;rintro ⟨i, hi, hall⟩
 try dsimp only at hi hall ⊢
 refine zSG ?_;refine TL.vw rfl (Kn rfl rfl rfl (fun w => Km w)) (fun h9 => ?_) (fun h9 => ?_)
 ·have q9 := of_decide_eq_true h9;refine zET (zS (zc (zk (zT (zS (zB (zSG (TL.rn 2 rfl (zET (zSG (TL.rn 3 rfl ?_)))))))))));have hi14 : i < l.length := by omega
  obtain ⟨x14, hx14⟩ := Ko hi14;obtain ⟨b14, o14, hA14, hbb14, hc14⟩ := hr.ad (by omega) (by decide);refine TL.w rfl (gA (i := i) Tryz.underlying27 Ki rfl rfl rfl rfl hA14 (by omega)) ?_;refine TL.v (gR Kt KG Ki hbb14 hx14 hc14) ?_;obtain ⟨bv, hbv⟩ : ∃ b, p x14 = b := ⟨_, rfl⟩;refine TL.callE1 (r := .bool bv) rfl rfl rfl (KhT rfl rfl rfl hfn hnm hbd rfl) (fun w1 hw => by rw [<- hbv]; exact hf x14 w1 hw.bel) ?_;refine zET ?_;refine TC.split (t := bv) rfl (fun c16 => ?_) (fun c16 => ?_)
  ·refine zSG (TL.rn 2 rfl (zET (zr (zRR (zR (zRR ?_))))));exact Kc Tryz.results138 rfl (fun w1 hw => ⟨⟨(i : Int), .inr ⟨i, rfl, by omega, hall, x14, hx14, by rw [hbv, c16]⟩⟩, rfl, hw.bel⟩)
  refine zk (zN (zT (zG ?_)));refine TL.v (gD ((i + 1 : Nat) : Int)) ?_;refine TL.mv ?_;refine zE ?_;exact TX.rd (⟨i + 1, by omega, fun r hr => by rcases (KbV hx14).1 hr with h9 | h9; exact hall r h9; rw [h9, hbv, c16]⟩) (by show l.length - (i + 1) < l.length - i; omega) (fun w1 hw => hw)
 have q9 := of_decide_eq_false h9;refine zET (zS (zd (zx (zX (zX (zM (zT (zSG (TL.as_ ?_)))))))));refine zET (zr ?_);exact Kc Tryz.results138 rfl (fun w1 hw => ⟨⟨-1, .inl ⟨rfl, by rw [List.take_of_length_le (by omega)] at hall; exact hall⟩⟩, rfl, hw.bel⟩)
theorem KgB (A0 : Option Addr) (c0 : Nat) (l : List Rs) (p : Rs -> Bool) (f : FuncId) (fn : Func) (cap : Array Value) (w : World) (hr : Kd w w.heap.size 17 A0 l.length (Ka Rs.cells l)) (hl1 : l.length <= 100000) (hfn : Tryz.prog.funcs[f]? = some fn) (hnm : (fn.name == "runtime.NumGoroutine") = false) (hbd : fn.body.isNone = false) (hf : ∀ (x : Rs) (w1 : World), Below w.heap.size w w1 -> Calls Tryz.prog f (#[] ++ [Value.agg x.cells.toArray].toArray ++ cap) w1 fun e w' => e = .returned (.bool (p x)) /\ Below w1.heap.size w1 w') :
  Calls Tryz.prog 91 #[.slice A0 l.length c0, .func (.func f) #[] cap] w fun e w' => e = .returned (.bool (l.any p)) /\ Below w.heap.size w w' := by
 refine Kg Tryz.func91 rfl rfl rfl ?_ (Pm.start w);refine zSG (TL.as_ ?_);refine zET (zSG (TL.rn 2 rfl ?_));refine TL.pM (α := {z : Int // Kd8 p l z}) (fun x => .int .i64 x.1) (fun x => []) rfl KlF (fun w1 hw => (KlU A0 c0 l p f fn cap w1 (hr.up hw.bel) hl1 hfn hnm hbd (fun x w2 hb => hf x w2 (hw.bel.trans (hb.mono hw.bel.size)))).mono fun en w2 ⟨x, h1, h2⟩ => ⟨x, h1, (Pm.start w1).below h2⟩) ?_;rintro ⟨z, hz⟩;dsimp only [lC, lN];refine TL.sp Ka1 (fun q8 => ?_) (fun q8 => ?_)
 ·refine TL.as_ ?_;refine zET (zr ?_);exact Kc Tryz.results91 rfl (fun w1 hw => ⟨by rw [Kfw hz, decide_eq_true q8], hw.bel⟩)
 refine TL.as_ ?_;refine zET (zr ?_);exact Kc Tryz.results91 rfl (fun w1 hw => ⟨by rw [Kfw hz, decide_eq_false q8], hw.bel⟩)
set_option maxRecDepth 20000
structure Eps where
 first : Int
 last : Int
deriving DecidableEq
def Eps.cells (r : Eps) : List Value := [.int .i64 r.first, .int .i64 r.last]
theorem Kde : Cel Eps.cells 2 := ⟨fun _ => rfl, fun r u hu => by
 simp only [Eps.cells, List.mem_cons, List.not_mem_nil, or_false] at hu;rcases hu with rfl | rfl <;> rfl⟩
theorem Kfy {r : Rs} (h : Ks r = true) : r.inRange := by
 unfold Ks at h;simp only [Bool.and_eq_true, decide_eq_true_eq] at h;exact Decidable.by_contra fun h1 => by have := KeN h1; omega
def KD (r : Rs) : ESp := ⟨r.v, r.dst, r.proto, r.flow, r.ttl⟩
def KaE (r : Rs) : Bool := r.ans && KaB r
def KdV (a b : Rs) : Bool := KaE a && KaE b && decide (KD a = KD b) && decide (a.src ≠ b.src)
theorem KjW {r : Rs} (h : Ks r = true) : r.proto = 1 \/ r.proto = 6 \/ r.proto = 17 := by
 unfold Ks at h;simp only [Bool.and_eq_true, decide_eq_true_eq] at h;refine Decidable.by_contra fun h1 => ?_;have h2 := h.1.1;unfold Kaf at h2;rw [if_pos h1] at h2;split at h2 <;> omega
theorem Kh0 {r : Rs} (h : KaE r = true) (ho : r.Ok) : (KD r).Ok := by
 unfold KaE KaB at h;simp only [Bool.and_eq_true] at h;have h1 := Kfy h.2.2;have h2 := KjW h.2.2;unfold Rs.inRange at h1;unfold Rs.Ok at ho;unfold ESp.Ok KD;dsimp only;refine ⟨?_, ?_, ?_, ?_, ?_⟩ <;> (simp [Lit.wf, IntKind.min, IntKind.max, IntKind.signed, IntKind.bits]; omega)
theorem KM.ordr {l o : List Rs} {t : List Trc} (h : KM o t) (ho : Kbd l o) : KM l t := ⟨h.1, fun x => by
 rw [h.2];constructor
 ·rintro ⟨r, hr, h1, h2⟩;exact ⟨r, ((ho.2 r).1 hr).1, h1, h2⟩
 rintro ⟨r, hr, h1, h2⟩;exact ⟨r, (ho.2 r).2 ⟨hr, h1⟩, h1, h2⟩⟩
def Kc6 (f : ESp -> Option Int) (a : ESp) (v : Int) : ESp -> Option Int := fun x => if x = a then some v else f x
theorem Kf4 (f : ESp -> Option Int) (a : ESp) (v : Int) : (fun x => if x = a then some (Value.int .u32 v) else (f x).map (Value.int .u32)) = fun x => (Kc6 f a v x).map (Value.int .u32) := by
 funext x
 unfold Kc6;split <;> rfl
def Kcc (o : List Rs) (fr i : Nat) : Prop := ∃ j a b, fr <= j /\ j < i /\ o[j]? = some a /\ o[i]? = some b /\ KdV a b = true
inductive EpI (o : List Rs) : Nat -> List Eps -> Prop
 | nil : EpI o 0 []
 | cut {fr i : Nat} {out : List Eps} (h : EpI o fr out) (h1 : fr < i) (h2 : i < o.length) (h3 : Kcc o fr i) (h4 : ∀ k, fr <= k -> k < i -> ¬ Kcc o fr k) : EpI o i (out ++ [⟨(fr : Int), (i : Int)⟩])
def EpF (o : List Rs) (out : List Eps) : Prop := (o = [] /\ out = []) \/ ∃ (fr : Nat) (ini : List Eps), EpI o fr ini /\ fr < o.length /\ (∀ k, fr <= k -> k < o.length -> ¬ Kcc o fr k) /\ out = ini ++ [⟨(fr : Int), (o.length : Int)⟩]
theorem EpI.same {o : List Rs} {fr : Nat} {out : List Eps} (h : EpI o fr out) : ∀ {fr' : Nat} {out' : List Eps}, EpI o fr' out' -> out.length = out'.length -> fr = fr' /\ out = out' := by
 induction h with
 | nil =>
  intro fr' out' h' hl
  cases h' with
  | nil => exact ⟨rfl, rfl⟩
  | cut => simp at hl
 | @cut fr i out h h1 h2 h3 h4 ih =>
  intro fr' out' h' hl
  cases h' with
  | nil => simp at hl
  | @cut fr2 _ out2 k k1 k2 k3 k4 =>
   rw [List.length_append, List.length_append] at hl;obtain ⟨e1, e2⟩ := ih k (by simpa using hl);subst e1 e2
   have e3 : i = fr' := by
    rcases Nat.lt_trichotomy i fr' with h5 | h5 | h5
    ·exact absurd h3 (k4 i (by omega) h5)
    ·exact h5
    exact absurd k3 (h4 fr' (by omega) h5)
   subst e3;exact ⟨rfl, rfl⟩
theorem EpI.take {o : List Rs} {fr : Nat} {out : List Eps} (h : EpI o fr out) : ∀ n, n < out.length -> ∃ fr0 i out0, EpI o fr0 out0 /\ out0.length = n /\ fr0 < i /\ i < o.length /\ Kcc o fr0 i := by
 induction h with
 | nil => intro n hn; exact absurd hn (Nat.not_lt_zero n)
 | @cut fr i out h h1 h2 h3 h4 ih =>
  intro n hn;rw [List.length_append] at hn;rcases Nat.lt_or_ge n out.length with h5 | h5
  ·exact ih n h5
  have hn2 : n = out.length := by have : [(⟨(fr : Int), (i : Int)⟩ : Eps)].length = 1 := rfl; omega
  exact ⟨fr, i, out, h, hn2.symm, h1, h2, h3⟩
theorem EpF.eq {o : List Rs} {out out' : List Eps} (h : EpF o out) (h' : EpF o out') : out = out' := by
 rcases h with ⟨h1, h2⟩ | ⟨fr, ini, h1, h2, h3, h4⟩
 ·rcases h' with ⟨_, k2⟩ | ⟨fr', _, _, k2, _⟩
  ·rw [h2, k2]
  rw [h1] at k2; exact absurd k2 (Nat.not_lt_zero _)
 rcases h' with ⟨k1, _⟩ | ⟨fr', ini', k1, k2, k3, k4⟩
 ·rw [k1] at h2; exact absurd h2 (Nat.not_lt_zero _)
 rcases Nat.lt_trichotomy ini.length ini'.length with h5 | h5 | h5
 ·obtain ⟨f0, i, o0, a1, a2, a3, a4, a5⟩ := k1.take _ h5;obtain ⟨e1, e2⟩ := h1.same a1 a2.symm;subst e1;exact absurd a5 (h3 i (by omega) a4)
 ·obtain ⟨e1, e2⟩ := h1.same k1 h5;subst e1 e2;rw [h4, k4]
 obtain ⟨f0, i, o0, a1, a2, a3, a4, a5⟩ := h1.take _ h5;obtain ⟨e1, e2⟩ := k1.same a1 a2.symm;subst e1;exact absurd a5 (k3 i (by omega) a4)
def EpB (n : Nat) (e : Eps) : Prop := ∃ f l : Nat, e.first = (f : Int) /\ e.last = (l : Int) /\ f <= l /\ l <= n
theorem EpI.bnd {o : List Rs} {fr : Nat} {out : List Eps} (h : EpI o fr out) : ∀ e ∈ out, EpB o.length e := by
 induction h with
 | nil => exact fun e he => absurd he List.not_mem_nil
 | @cut fr i out h h1 h2 h3 h4 ih =>
  intro e he;rcases List.mem_append.1 he with h5 | h5
  ·exact ih e h5
  rw [List.mem_singleton] at h5;subst h5;exact ⟨fr, i, rfl, rfl, by omega, by omega⟩
theorem EpF.bnd {o : List Rs} {out : List Eps} (h : EpF o out) : ∀ e ∈ out, EpB o.length e := by
 rcases h with ⟨_, rfl⟩ | ⟨fr, ini, h1, h2, h3, rfl⟩
 ·exact fun e he => absurd he List.not_mem_nil
 intro e he;rcases List.mem_append.1 he with h5 | h5
 ·exact h1.bnd e h5
 rw [List.mem_singleton] at h5;subst h5;exact ⟨fr, o.length, rfl, rfl, by omega, Nat.le_refl _⟩
def CtJ (o : List Rs) (fr i : Nat) (fs : ESp -> Option Int) : Prop := (∀ s a, fs s = some a ↔ ∃ (j : Nat) (r : Rs), fr <= j /\ j < i /\ o[j]? = some r /\ KaE r = true /\ KD r = s /\ r.src = a) /\ ∀ k, fr <= k -> k < i -> ¬ Kcc o fr k
theorem Kir (o : List Rs) (fr : Nat) : CtJ o fr fr (fun _ => none) := ⟨fun s a => ⟨fun h => (by cases h), fun ⟨j, r, h1, h2, _⟩ => absurd h2 (by omega)⟩, fun k h1 h2 => absurd h2 (by omega)⟩
section
variable {o : List Rs} {fr i : Nat} {fs : ESp -> Option Int} {x : Rs}
theorem CtJ.skip (h : CtJ o fr i fs) (hx : o[i]? = some x) (hp : KaE x = false) : CtJ o fr (i + 1) fs := by
 refine ⟨fun s a => ?_, fun k h1 h2 hc => ?_⟩
 ·rw [h.1];constructor
  ·rintro ⟨j, r, h1, h2, h3⟩; exact ⟨j, r, h1, by omega, h3⟩
  rintro ⟨j, r, h1, h2, h3, h4, h5⟩;refine ⟨j, r, h1, ?_, h3, h4, h5⟩;rcases Nat.lt_or_ge j i with h6 | h6
  ·exact h6
  obtain rfl : j = i := by omega
  rw [hx] at h3; cases h3;rw [hp] at h4; cases h4
 rcases Nat.lt_or_ge k i with h6 | h6
 ·exact h.2 k h1 h6 hc
 obtain rfl : k = i := by omega
 obtain ⟨j, a, b, _, _, _, h3, h4⟩ := hc;rw [hx] at h3; cases h3;unfold KdV at h4;simp only [Bool.and_eq_true] at h4;rw [hp] at h4;exact absurd h4.1.1.2 (by decide)
theorem CtJ.clash (h : CtJ o fr i fs) (hx : o[i]? = some x) (hp : KaE x = true) {a : Int} (hf : fs (KD x) = some a) (ha : a ≠ x.src) : Kcc o fr i := by
 obtain ⟨j, r, h1, h2, h3, h4, h5, h6⟩ := (h.1 _ _).1 hf;refine ⟨j, r, x, h1, h2, h3, hx, ?_⟩;unfold KdV;simp only [Bool.and_eq_true, decide_eq_true_eq];exact ⟨⟨⟨h4, hp⟩, h5⟩, by rw [h6]; exact ha⟩
theorem CtJ.step (h : CtJ o fr i fs) (hfi : fr <= i) (hx : o[i]? = some x) (hp : KaE x = true) (hk : fs (KD x) = none \/ fs (KD x) = some x.src) : CtJ o fr (i + 1) (Kc6 fs (KD x) x.src) := by
 have hold : ∀ (j : Nat) (r : Rs), fr <= j -> j < i -> o[j]? = some r -> KaE r = true -> KD r = KD x -> r.src = x.src := fun j r h1 h2 h3 h4 h5 => by
  have h6 := (h.1 (KD x) r.src).2 ⟨j, r, h1, h2, h3, h4, h5, rfl⟩;rcases hk with h7 | h7
  ·rw [h7] at h6; cases h6
  rw [h7] at h6; exact (Option.some.inj h6).symm
 refine ⟨fun s a => ?_, fun k h1 h2 hc => ?_⟩
 ·unfold Kc6;by_cases hs : s = KD x
  ·rw [if_pos hs];subst hs;constructor
   ·intro h1;exact ⟨i, x, hfi, by omega, hx, hp, rfl, Option.some.inj h1⟩
   rintro ⟨j, r, h1, h2, h3, h4, h5, h6⟩;rcases Nat.lt_or_ge j i with h7 | h7
   ·rw [<- h6, hold j r h1 h7 h3 h4 h5]
   obtain rfl : j = i := by omega
   rw [hx] at h3; cases h3;rw [h6]
  rw [if_neg hs, h.1];constructor
  ·rintro ⟨j, r, h1, h2, h3⟩; exact ⟨j, r, h1, by omega, h3⟩
  rintro ⟨j, r, h1, h2, h3, h4, h5, h6⟩;refine ⟨j, r, h1, ?_, h3, h4, h5, h6⟩;rcases Nat.lt_or_ge j i with h7 | h7
  ·exact h7
  obtain rfl : j = i := by omega
  rw [hx] at h3; cases h3;exact absurd h5.symm hs
 rcases Nat.lt_or_ge k i with h6 | h6
 ·exact h.2 k h1 h6 hc
 obtain rfl : k = i := by omega
 obtain ⟨j, a, b, h7, h8, h9, h3, h4⟩ := hc;rw [hx] at h3; cases h3;unfold KdV at h4;simp only [Bool.and_eq_true, decide_eq_true_eq] at h4;exact h4.2 (hold j a h7 h8 h9 h4.1.1.1 h4.1.2)
theorem CtJ.ahead (h : CtJ o fr i fs) (hf : (fs (KD x)).isSome = true) : fr < i := by
 cases h9 : fs (KD x) with
 | none => rw [h9] at hf; cases hf
 | some a =>
  obtain ⟨j, r, h1, h2, _⟩ := (h.1 _ _).1 h9;omega
end
theorem KiT {f : Option Int} (h : f.isSome = true) : f = some (f.getD 0) := by cases f with | none => cases h | some a => rfl
theorem CtJ.clash2 {o : List Rs} {fr i : Nat} {fs : ESp -> Option Int} {x : Rs} (h : CtJ o fr i fs) (hx : o[i]? = some x) (hp : KaE x = true) (hk : (fs (KD x)).isSome = true) (ha : (fs (KD x)).getD 0 ≠ x.src) : Kcc o fr i := h.clash hx hp (KiT hk) ha
theorem CtJ.step2 {o : List Rs} {fr i : Nat} {fs : ESp -> Option Int} {x : Rs} (h : CtJ o fr i fs) (hfi : fr <= i) (hx : o[i]? = some x) (hp : KaE x = true) (hk : (fs (KD x)).isSome = false \/ (fs (KD x)).getD 0 = x.src) : CtJ o fr (i + 1) (Kc6 fs (KD x) x.src) := by
 refine h.step hfi hx hp ?_
 cases h9 : fs (KD x) with
 | none => exact .inl rfl
 | some a =>
  rcases hk with hk | hk
  ·rw [h9] at hk; cases hk
  rw [h9] at hk; exact .inr (congrArg some hk)
theorem EpI.zero {o : List Rs} {out : List Eps} (h : EpI o 0 out) : out = [] := by
 generalize he : (0 : Nat) = n at h
 cases h with
 | nil => rfl
 | cut h h1 => omega
theorem EpI.fin0 {o : List Rs} {fr : Nat} {out : List Eps} (h : EpI o fr out) (h1 : fr = 0 \/ fr < o.length) (h2 : o.length <= fr) : EpF o out := by
 rcases h1 with rfl | h1
 ·exact .inl ⟨List.eq_nil_of_length_eq_zero (by omega), h.zero⟩
 exact absurd h1 (by omega)
def KgW (l : List Rs) (z : Int) (out : List Eps) : Prop := (∀ r ∈ l, Ks r = true) -> (∀ o, Kbd l o -> o.length <= 512) -> (∀ t, KM l t -> t.length <= 1) -> z = 0 /\ ∃ o, Kbd l o /\ EpF o out
theorem Kfd (w : World) : (zeroValue 239).run Tryz.prog w = .ok (.agg #[.int .i64 0, .int .u32 0, .int .i64 0, .int .i64 0, .int .i64 0]) w := rfl
theorem Kgs (a0_0 : Int) (a0_1 : Int) (a0_2 : Int) (a1_0 : Int) (a2_0 : Int) (w : World) : (Instr.build 239 #[(0, .agg #[.int .i64 a0_0, .int .u32 a0_1, .int .i64 a0_2]), (1, .int .i64 a1_0), (2, .int .i64 a2_0)]).run Tryz.prog w = .ok (.agg #[.int .i64 a0_0, .int .u32 a0_1, .int .i64 a0_2, .int .i64 a1_0, .int .i64 a2_0]) w := by kernel_rfl
theorem KcB (w : World) : (sizeOf 239).run Tryz.prog w = .ok 5 w := rfl
theorem Kfj {a0 : Int} {a1 : Int} {a2 : Int} {a3 : Int} {a4 : Int} : ∀ u ∈ [(.int .i64 a0 : Value), .int .u32 a1, .int .i64 a2, .int .i64 a3, .int .i64 a4], u.oneCell' = true := by
 intro u hu;simp only [List.mem_cons, List.not_mem_nil, or_false] at hu;rcases hu with rfl | rfl | rfl | rfl | rfl <;> rfl
theorem KeA (w : World) : (isAgg 239).run Tryz.prog w = .ok true w := rfl
theorem KfJ (a0_0 : Int) (a1_0 : Int) (w : World) : (Instr.build 191 #[(0, .int .i64 a0_0), (1, .int .i64 a1_0)]).run Tryz.prog w = .ok (.agg #[.int .i64 a0_0, .int .i64 a1_0]) w := by kernel_rfl
theorem Kf5 (a0_0 : Int) (a0_1 : Int) (w : World) : (Instr.buildSlice 187 1 #[(0, .agg #[.int .i64 a0_0, .int .i64 a0_1])]).run Tryz.prog w = .ok (.slice (some ⟨w.heap.size, 0, none⟩) 1 1) (w.alloc (.cells [.int .i64 a0_0, .int .i64 a0_1].toArray 191)) := by kernel_rfl
theorem Kg5 : Elem Tryz.prog 187 191 2 16 := Elem.mk' Tryz.underlying187 (z := .agg #[.int .i64 0, .int .i64 0]) (by kernel_rfl) rfl (by omega) (by omega)
theorem KjH (r : Rs) (w : World) :
  Calls Tryz.prog 147 #[.agg r.cells.toArray] w fun e w' => e = .returned (.tuple #[.agg (KD r).cells.toArray, .bool (KaE r)]) /\ Below w.heap.size w w' := by
 refine Kg Tryz.func147 rfl rfl rfl ?_ (Pm.start w);refine zSG ?_;refine TL.bx fun g1 => ?_;refine TL.al Kfd fun g2 => ?_;refine TL.as_ ?_;refine zET (zS ?_);rcases hans : r.ans with _ | _
 ·refine TC.hd 15 (Pm w [.blk g1 76 r.cells]) (fun w1 hw => hw.pk [1]) fun jS => ?_;refine TH.t 0 rfl (gV 0 (.agg (r.cells).toArray) KG Ki) jS ?_;refine TH.t 2 rfl (gF KbC) jS ?_;refine TH.t 3 rfl (gL 0 Kb) jS ?_;refine TH.t 4 rfl (gF Kav) jS ?_;refine TH.t 5 rfl (gL 0 Kb) jS ?_;refine TH.t 7 rfl (gF Ka0) jS ?_;refine TH.t 8 rfl ((show Kl _ _ _ _ _ (Value.bool false) from by rw [show Value.bool false = Value.bool r.ans by rw [hans]]; exact Kce (k := 0) (i := 8) rfl rfl Kat rfl rfl)) jS ?_;refine TH.o 1 ?_;refine TL.p1 rfl o58 (fun w1 hw => Kdr r w1) ?_;refine zE ?_;refine TX.he (fun w1 hw => hw.pk [1]) fun hS => ?_;refine TH.t 6 rfl (Kj (v := .agg #[.int .i64 ((Kw r).v), .int .u32 ((Kw r).dst), .int .i64 ((Kw r).proto), .int .i64 r.flow, .int .i64 r.ttl]) rfl rfl (fun w => Kgs _ _ _ _ _ w)) hS ?_;refine TH.t 9 rfl (Kk rfl rfl) hS ?_;refine TH.fo 10 (fun w1 hw => hw.pk [1]) ?_;refine TH.fo 11 (fun w1 hw => hw.pk [1]) ?_;refine TH.tk 12 rfl rfl rfl (KcP rfl rfl rfl) (fun w1 hw => hw.pk [1]) ?_;refine TH.o 13 ?_;refine TL.pstore (k := 0) (vs := [.int .i64 ((Kw r).v), .int .u32 ((Kw r).dst), .int .i64 ((Kw r).proto), .int .i64 r.flow, .int .i64 r.ttl]) rfl rfl rfl rfl rfl rfl rfl KcB Kfj (by show 5 <= 5; decide) (L' := [.blk g2 239 [.int .i64 ((Kw r).v), .int .u32 ((Kw r).dst), .int .i64 ((Kw r).proto), .int .i64 r.flow, .int .i64 r.ttl], .blk g1 76 r.cells]) rfl ?_;refine zE ?_;refine TX.he (fun w1 hw => hw.pk [1]) fun hS => ?_;refine TH.t 14 rfl (KaD rfl rfl) hS ?_;refine TH.done (by kernel_rfl) ?_;refine zT (zr ?_);exact Kbi (k := 0) (v := .bool false) Tryz.results147 rfl rfl rfl Tryz.underlying239 rfl rfl (fun w1 hw => ⟨by unfold KaE; rw [hans]; rfl, hw.bel⟩)
 refine TC.hd 15 (Pm w [.blk g1 76 r.cells]) (fun w1 hw => hw.pk [1]) fun jS => ?_;refine TH.t 0 rfl (gV 0 (.agg (r.cells).toArray) KG Ki) jS ?_;refine TH.t 2 rfl (gF KbC) jS ?_;refine TH.t 3 rfl (gL 0 Kb) jS ?_;refine TH.t 4 rfl (gF Kav) jS ?_;refine TH.t 5 rfl (gL 0 Kb) jS ?_;refine TH.t 7 rfl (gF Ka0) jS ?_;refine TH.t 8 rfl ((show Kl _ _ _ _ _ (Value.bool true) from by rw [show Value.bool true = Value.bool r.ans by rw [hans]]; exact Kce (k := 0) (i := 8) rfl rfl Kat rfl rfl)) jS ?_;refine TH.o 1 ?_;refine TL.p1 rfl o58 (fun w1 hw => Kdr r w1) ?_;refine zE ?_;refine TX.he (fun w1 hw => hw.pk [1]) fun hS => ?_;refine TH.t 6 rfl (Kj (v := .agg #[.int .i64 ((Kw r).v), .int .u32 ((Kw r).dst), .int .i64 ((Kw r).proto), .int .i64 r.flow, .int .i64 r.ttl]) rfl rfl (fun w => Kgs _ _ _ _ _ w)) hS ?_;refine TH.t 9 rfl (Kk rfl rfl) hS ?_;refine TH.g 10 rfl (gV 0 (.agg (r.cells).toArray) KG Ki) (fun w1 hw => hw.pk [1]) ?_;refine TH.o 11 ?_;refine TL.gu ?_;refine TL.p1 rfl Kd6 (fun w1 hw => Kd9 r w1) ?_;refine zE ?_;refine TX.he (fun w1 hw => hw.pk [1]) fun hS => ?_;refine TH.t 12 rfl (KcP rfl rfl rfl) hS ?_;refine TH.o 13 ?_;refine TL.pstore (k := 0) (vs := [.int .i64 ((Kw r).v), .int .u32 ((Kw r).dst), .int .i64 ((Kw r).proto), .int .i64 r.flow, .int .i64 r.ttl]) rfl rfl rfl rfl rfl rfl rfl KcB Kfj (by show 5 <= 5; decide) (L' := [.blk g2 239 [.int .i64 ((Kw r).v), .int .u32 ((Kw r).dst), .int .i64 ((Kw r).proto), .int .i64 r.flow, .int .i64 r.ttl], .blk g1 76 r.cells]) rfl ?_;refine zE ?_;refine TX.he (fun w1 hw => hw.pk [1]) fun hS => ?_;refine TH.t 14 rfl (KaD rfl rfl) hS ?_;refine TH.done (by kernel_rfl) ?_;refine zT (zr ?_);exact Kbi (k := 0) (v := .bool (KaB r)) Tryz.results147 rfl rfl rfl Tryz.underlying239 rfl rfl (fun w1 hw => ⟨by unfold KaE; rw [hans]; rfl, hw.bel⟩)
theorem Kjm (r : Rs) (w : World) :
  Calls Tryz.prog 146 #[.agg r.cells.toArray] w fun e w' => e = .returned (.bool (!Ks r)) /\ Below w.heap.size w w' := by
 refine Kg Tryz.func146 rfl rfl rfl ?_ (Pm.start w);refine zSG ?_;refine TL.bx fun g1 => ?_;refine TL.as_ ?_;refine zET (zSG (TL.v (gV 0 (.agg (r.cells).toArray) KG Ki) ?_));refine TL.pS rfl o93 (fun w1 hw => KcK r w1) (fun h4 => ?_) (fun h4 => ?_)
 ·refine TL.rn 2 rfl (zET (zr ?_));have hE : (!Ks r) = false := (by simp [Bool.not_eq_true, h4]);exact Kc Tryz.results146 rfl (fun w1 hw => ⟨by rw [hE]; try rfl, hw.bel⟩)
 refine TL.rn 2 rfl (zET (zr ?_));have hE : (!Ks r) = true := (by simp [Bool.not_eq_true, h4]);exact Kc Tryz.results146 rfl (fun w1 hw => ⟨by rw [hE]; try rfl, hw.bel⟩)
theorem Kio (A0 : Option Addr) (c0 : Nat) (l : List Rs) (w : World) (hr : Kd w w.heap.size 17 A0 l.length (Ka Rs.cells l)) (hl1 : l.length <= 100000) (hok : ∀ r ∈ l, r.Ok) :
  Calls Tryz.prog 97 #[.slice A0 l.length c0] w fun e w' => ∃ x : {y : ((Option Addr × Nat) × List Eps) × Int // KgW l y.2 y.1.2 /\ y.1.2.length <= y.1.1.2 /\ y.1.1.2 <= maxLen}, e = .returned (.tuple #[.slice x.1.1.1.1 x.1.1.2.length x.1.1.1.2, .int .i64 x.1.2]) /\ Pm w [.row (.slice x.1.1.1.1 x.1.1.2.length x.1.1.1.2) 191 2 x.1.1.2.length (Ka Eps.cells x.1.1.2)] w' := by
 refine Kg Tryz.func97 rfl rfl rfl ?_ (Pm.start w);refine zSG (TL.rn 2 rfl (zET (TC.scope_ ?_)));refine zS (zSG (TL.mv ?_));refine TL.pS rfl o91 (fun w1 hw => KgB A0 c0 l (fun r : Rs => !Ks r) 146 _ #[] w1 (hr.up hw.bel) hl1 Tryz.func146 (by decide) rfl (fun x w2 hb => Kjm x w2)) (fun h14 => ?_) (fun h14 => ?_)
 ·refine zET (zc (zSG (TL.rn 2 rfl (zET (zr (zR ?_))))));refine TX.scope_r ?_;exact Kcn (v1 := .slice none 0 0) (v2 := .int .i64 1) Tryz.results97 rfl rfl (fun w1 hw => ⟨⟨(((none, 0), []), 1), fun hv _ _ => (by rw [List.any_eq_true] at h14; obtain ⟨r, hr, h9⟩ := h14; rw [hv r hr] at h9; cases h9), Nat.le_refl _, Nat.zero_le _⟩, rfl, (hw.pk []).nilrow _ _⟩)
 refine zET (zd (zk (zT (zSG (TL.mv ?_)))));refine TL.pM _ _ rfl o94 (fun w1 hw => Kfa A0 c0 l w1 (hr.up hw.bel) hl1 hok) ?_;rintro ⟨⟨⟨R16, rc16⟩, o16⟩, hP16, hR161, hR162⟩;dsimp only [lC, lN];dsimp only at hP16 hR161 hR162 ⊢;refine TL.as_ ?_;refine zET (zS (zSG (TL.mv ?_)));refine TL.v (gN Tryz.underlying27) ?_;refine TL.sp KP (fun q19 => ?_) (fun q19 => ?_)
 ·refine zET (zc (zSG (TL.rn 2 rfl (zET (zr (zR ?_))))));refine TX.scope_r ?_;exact Kcn (v1 := .slice none 0 0) (v2 := .int .i64 5) Tryz.results97 rfl rfl (fun w1 hw => ⟨⟨(((none, 0), []), 5), fun _ ho _ => absurd (ho _ hP16) (by omega), Nat.le_refl _, Nat.zero_le _⟩, rfl, (hw.pk []).nilrow _ _⟩)
 refine zET (zd (zk (zT (zS (zSG (TL.mv ?_))))));refine TL.pM _ _ rfl o95 (fun w1 hw => KgK R16 rc16 o16 w1 (Kz hw (k := 0) rfl) (by have h9 := hP16.le; omega)) ?_;rintro ⟨⟨⟨R21, rc21⟩, tr21⟩, hP21, hR211, hR212⟩;dsimp only [lC, lN];dsimp only at hP21 hR211 hR212 ⊢;refine TL.v (gN Tryz.underlying184) ?_;refine TL.sp KP (fun q23 => ?_) (fun q23 => ?_)
 ·refine zET (zc (zSG (TL.rn 2 rfl (zET (zr (zR ?_))))));refine TX.scope_r ?_;exact Kcn (v1 := .slice none 0 0) (v2 := .int .i64 35) Tryz.results97 rfl rfl (fun w1 hw => ⟨⟨(((none, 0), []), 35), fun hv _ ht => absurd (ht _ (hP21.ordr hP16)) (by omega), Nat.le_refl _, Nat.zero_le _⟩, rfl, (hw.pk []).nilrow _ _⟩)
 refine zET (zd (zk (zT (zSG (TL.as_ ?_)))));refine zET (zS (TC.label_ ?_));refine zT (zS (zSG (TL.as_ ?_)));refine zET (zB (TC.nilrow 191 2 ?_));refine TC.lp (α := {y : Nat × (Option Addr × Nat) × List Eps // y.1 <= o16.length /\ (EpI o16 y.1 y.2.2 /\ (y.1 = 0 \/ y.1 < o16.length)) /\ y.2.2.length <= y.1 /\ y.2.2.length <= y.2.1.2 /\ y.2.1.2 <= maxLen}) [4] rfl (fun y => [(6, .int .i64 ((y.1.1 : Nat) : Int)), (5, .slice y.1.2.1.1 y.1.2.2.length y.1.2.1.2)]) (fun y => Pm w [.row (.slice y.1.2.1.1 y.1.2.2.length y.1.2.1.2) 191 2 y.1.2.2.length (Ka Eps.cells y.1.2.2), .row (.slice R21 tr21.length rc21) 48 3 tr21.length (Ka Trc.cells tr21), .row (.slice R16 o16.length rc16) 76 17 o16.length (Ka Rs.cells o16)]) (fun y => o16.length - y.1.1) (⟨(0, (none, 0), []), Nat.zero_le _, ⟨EpI.nil, .inl rfl⟩, Nat.le_refl _, Nat.le_refl _, Nat.zero_le _⟩) (fun w1 hw => hw) ?_;rintro ⟨⟨fr, ⟨Ao, co⟩, out⟩, hf, hfr, hof, hoc, hom⟩;dsimp only at hf hfr hof hoc hom ⊢;refine zS (zSG (TL.rn 2 rfl (TL.v (gN Tryz.underlying27) ?_)));refine TL.sp Km (fun q27 => ?_) (fun q27 => ?_)
 ·refine zET (zc (zk (zT (zB (zSG ?_)))));refine TL.mkmap rfl rfl rfl rfl (fun gm hgm => ?_);refine TL.as_ ?_;refine zET (zS (zSG (TL.rn 2 rfl (zET (zB (TC.lp (α := {y : Nat × Obj // y.1 <= o16.length /\ fr <= y.1 /\ ∃ fs : ESp -> Option Int, Kag (fun s : ESp => Value.agg s.cells.toArray) ESp.Ok y.2 (fun s => (fs s).map (Value.int .u32)) /\ CtJ o16 fr y.1 fs}) [4, 5, 6, 7] rfl (fun y => [(8, .int .i64 ((y.1.1 : Nat) : Int))]) (fun y => Pm w [.oth gm y.1.2, .row (.slice Ao out.length co) 191 2 out.length (Ka Eps.cells out), .row (.slice R21 tr21.length rc21) 48 3 tr21.length (Ka Trc.cells tr21), .row (.slice R16 o16.length rc16) 76 17 o16.length (Ka Rs.cells o16)]) (fun y => o16.length - y.1.1) (⟨(fr, .map #[] 0), hf, Nat.le_refl _, fun _ => none, Ke7 _ _, Kir _ _⟩) (fun w1 hw => hw) ?_))))));rintro ⟨⟨i, om⟩, hi, hfi, fs, hmf, hSn⟩;dsimp only at hi hfi hmf hSn ⊢;refine zS (zSG (TL.rn 2 rfl (TL.v (gN Tryz.underlying27) ?_)));refine TL.sp Km (fun q33 => ?_) (fun q33 => ?_)
  ·refine zET (zc (zk (zT (zS (zB (zSG (TL.rn 2 rfl ?_)))))));refine TL.fact (p := ∃ g, R16 = some ⟨g, 0, none⟩) (fun w1 hw => Kak hw (k := 3) rfl (by omega)) ?_;rintro ⟨g_R16, rfl⟩;have hi39 : i < o16.length := by omega
   obtain ⟨x39, hx39⟩ := Ko hi39;refine TL.w rfl (gA (i := i) Tryz.underlying27 Ki rfl rfl rfl rfl rfl (by omega)) ?_;refine TL.w rfl (KH (off := 0 + i * 17) rfl rfl KG Ki (Kt.len x39) (fun w1 hw j9 u9 h9 => Ku Kt hw (q := 3) rfl hx39 j9 u9 h9)) ?_;obtain ⟨pb, hpb⟩ : ∃ b, KaE x39 = b := ⟨_, rfl⟩;refine TL.p1 (r := .tuple #[.agg (KD x39).cells.toArray, .bool pb]) rfl Kih (fun w1 hw => by rw [<- hpb]; exact KjH x39 w1) ?_;refine TL.rn 3 rfl ?_;refine TL.al Kfd fun g9 => ?_;refine TL.pstore (k := 0) (vs := (KD x39).cells) rfl rfl rfl rfl rfl rfl rfl KcB (Klp.one _) (by show 5 <= 5; decide) (L' := [.blk g9 239 (KD x39).cells, .oth gm om, .row (.slice Ao out.length co) 191 2 out.length (Ka Eps.cells out), .row (.slice R21 tr21.length rc21) 48 3 tr21.length (Ka Trc.cells tr21), .row (.slice (some ⟨g_R16, 0, none⟩) o16.length rc16) 76 17 o16.length (Ka Rs.cells o16)]) rfl ?_;refine TL.as_ ?_;refine zET (zS (zS ?_))
   cases pb with
   | true =>
    refine zG (TL.rn 2 rfl (zET (zd (zk (zT (zS (zS ?_)))))));have hsk : (KD x39).Ok := Kh0 hpb (hok x39 ((hP16.2 x39).1 (List.mem_of_getElem? hx39)).1);obtain ⟨kb, hkb⟩ : ∃ b, (fs (KD x39)).isSome = b := ⟨_, rfl⟩;refine zG (TL.mv ?_);refine TL.v (gV 0 (.agg ((KD x39).cells).toArray) KeA KcB) ?_;refine TL.w rfl (Kk1 (i := 1) (a := (KD x39)) (v := .int .u32 ((fs (KD x39)).getD 0)) (b := kb) rfl rfl rfl Ket Tryz.underlying237 (fun w => rfl) rfl hmf hsk (by cases h9 : fs (KD x39) <;> rfl) (by rw [<- hkb]; cases h9 : fs (KD x39) <;> rfl)) ?_;refine TL.rn 5 rfl (zET (zS ?_))
    cases kb with
    | true =>
     refine zG (TL.rn 5 rfl (TL.gu ?_));refine TL.w rfl (gA (i := i) Tryz.underlying27 Ki rfl rfl rfl rfl rfl (by omega)) ?_;refine TL.ov (gF KR) ?_;refine TL.ov (gF Kbs) ?_;refine TL.gu ?_;refine TL.w rfl (KK (v := .int .u32 x39.src) rfl rfl Kv (fun w1 hw => Ku Kt hw (q := 4) rfl hx39 11 _ rfl)) ?_;refine TL.gu ?_;refine TL.sp K1 (fun q61 => ?_) (fun q61 => ?_)
     ·refine TL.pk ?_;refine zET (zc (zSG (TL.rn 3 rfl ?_)));refine TL.w rfl (Kj (v := .agg #[.int .i64 ((fr : Nat) : Int), .int .i64 ((i : Nat) : Int)]) rfl rfl (fun w => KfJ _ _ w)) ?_;refine TL.prowS (e := 191) (size := 2) (cs := Ka Eps.cells [(⟨((fr : Nat) : Int), ((i : Nat) : Int)⟩ : Eps)]) rfl rfl rfl rfl rfl (fun w => Kf5 _ _ w) (by decide) rfl (fun g67 => ?_);refine TL.appendT (k := 3) rfl rfl rfl rfl Tryz.underlying187 Kg5 rfl rfl rfl (fun w1 hw => KL hw (k := 0) rfl) (KB Kde _) (by show _ * 16 <= _; omega) ((out ++ [(⟨((fr : Nat) : Int), ((i : Nat) : Int)⟩ : Eps)]).length) (by rw [List.length_append]; rfl) (Ka Eps.cells (out ++ [(⟨((fr : Nat) : Int), ((i : Nat) : Int)⟩ : Eps)])) ((KF _ _).symm) (fun A68 c68 hA681 hA682 => ?_);refine TL.as_ ?_;refine zET (zSG (TL.rn 2 rfl (zET (zx (zX (zO (zX (zX (zO (zX (zM ?_)))))))))));exact TX.rd (⟨(i, (A68, c68), out ++ [(⟨((fr : Nat) : Int), ((i : Nat) : Int)⟩ : Eps)]), by dsimp only; omega, ⟨EpI.cut hfr.1 (hSn.ahead hkb) (by omega) (hSn.clash2 hx39 hpb hkb (by assumption)) hSn.2, .inr (by dsimp only; omega)⟩, by have h9 := hSn.ahead hkb; dsimp only; rw [List.length_append]; show _ + 1 <= i; omega, hA681, hA682⟩) (by have h9 := hSn.ahead hkb; show o16.length - i < o16.length - fr; omega) (fun w1 hw => hw.pk [3, 4, 5])
     refine TL.pk ?_;refine zET (zd (zk (zT (TC.tail 8 (by kernel_rfl) (by kernel_rfl) (fun w hw => hw.drawn _) ?_))));refine TS.val rfl rfl rfl (Kk rfl rfl) ?_;refine TS.v (gV 0 (.agg ((KD x39).cells).toArray) KeA KcB) ?_;refine TS.val rfl rfl rfl (Kk rfl rfl) ?_;refine TS.val rfl rfl rfl (Kk rfl rfl) ?_;refine TS.val rfl rfl rfl (gA (i := i) Tryz.underlying27 Ki rfl rfl rfl rfl rfl (by omega)) ?_;refine TS.v (gF KR) ?_;refine TS.v (gF Kbs) ?_;refine TS.val rfl rfl rfl (KK (v := .int .u32 x39.src) rfl rfl Kv (fun w1 hw => Ku Kt hw (q := 4) rfl hx39 11 _ rfl)) ?_;refine TS.end_ ?_;refine TL.mapsetG (enc := fun s : ESp => .agg s.cells.toArray) (a := (KD x39)) (i := 1) rfl rfl rfl rfl rfl rfl Ket Tryz.underlying237 rfl hgm hmf hsk (fun ob2 hm2 => ?_)
     try dsimp only [List.set_cons_zero, List.set_cons_succ]
     refine zE (zN (zT (zG (TL.mv ?_))));refine TL.v (gD ((i + 1 : Nat) : Int)) ?_;refine TL.as_ ?_;refine zE ?_;exact TX.rd (⟨(i + 1, ob2), by dsimp only; omega, by dsimp only; omega, _, by rw [Kf4] at hm2; exact hm2, hSn.step2 hfi hx39 hpb (.inr (Decidable.not_not.1 q61))⟩) (by show o16.length - (i + 1) < o16.length - i; omega) (fun w1 hw => hw.pk [1, 2, 3, 4])
    | false =>
     refine zG (TL.rn 11 rfl (zET (zd (zk (zT (TC.tail 8 (by kernel_rfl) (by kernel_rfl) (fun w hw => hw.drawn _) ?_))))));refine TS.val rfl rfl rfl (Kk rfl rfl) ?_;refine TS.v (gV 0 (.agg ((KD x39).cells).toArray) KeA KcB) ?_;refine TS.val rfl rfl rfl (Kk rfl rfl) ?_;refine TS.val rfl rfl rfl (Kk rfl rfl) ?_;refine TS.val rfl rfl rfl (gA (i := i) Tryz.underlying27 Ki rfl rfl rfl rfl rfl (by omega)) ?_;refine TS.v (gF KR) ?_;refine TS.v (gF Kbs) ?_;refine TS.val rfl rfl rfl (KK (v := .int .u32 x39.src) rfl rfl Kv (fun w1 hw => Ku Kt hw (q := 4) rfl hx39 11 _ rfl)) ?_;refine TS.end_ ?_;refine TL.mapsetG (enc := fun s : ESp => .agg s.cells.toArray) (a := (KD x39)) (i := 1) rfl rfl rfl rfl rfl rfl Ket Tryz.underlying237 rfl hgm hmf hsk (fun ob2 hm2 => ?_)
     try dsimp only [List.set_cons_zero, List.set_cons_succ]
     refine zE (zN (zT (zG (TL.mv ?_))));refine TL.v (gD ((i + 1 : Nat) : Int)) ?_;refine TL.as_ ?_;refine zE ?_;exact TX.rd (⟨(i + 1, ob2), by dsimp only; omega, by dsimp only; omega, _, by rw [Kf4] at hm2; exact hm2, hSn.step2 hfi hx39 hpb (.inl hkb)⟩) (by show o16.length - (i + 1) < o16.length - i; omega) (fun w1 hw => hw.pk [1, 2, 3, 4])
   | false =>
    refine zG (TL.rn 2 rfl (zET (zc (zx (zX (zM (zT (zG (TL.mv ?_)))))))));refine TL.v (gD ((i + 1 : Nat) : Int)) ?_;refine TL.as_ ?_;refine zE ?_;exact TX.rd (⟨(i + 1, om), by dsimp only; omega, by dsimp only; omega, fs, hmf, hSn.skip hx39 hpb⟩) (by show o16.length - (i + 1) < o16.length - i; omega) (fun w1 hw => hw.pk [1, 2, 3, 4])
  refine zET (zd (zx (zX (zX (zM (zT (zSG (TL.rn 3 rfl (TL.v (gN Tryz.underlying27) ?_)))))))));refine TL.w rfl (Kj (v := .agg #[.int .i64 ((fr : Nat) : Int), .int .i64 (o16.length : Nat)]) rfl rfl (fun w => KfJ _ _ w)) ?_;refine TL.prowS (e := 191) (size := 2) (cs := Ka Eps.cells [(⟨((fr : Nat) : Int), (o16.length : Nat)⟩ : Eps)]) rfl rfl rfl rfl rfl (fun w => Kf5 _ _ w) (by decide) rfl (fun g83 => ?_);refine TL.appendT (k := 2) rfl rfl rfl rfl Tryz.underlying187 Kg5 rfl rfl rfl (fun w1 hw => KL hw (k := 0) rfl) (KB Kde _) (by show _ * 16 <= _; omega) ((out ++ [(⟨((fr : Nat) : Int), (o16.length : Nat)⟩ : Eps)]).length) (by rw [List.length_append]; rfl) (Ka Eps.cells (out ++ [(⟨((fr : Nat) : Int), (o16.length : Nat)⟩ : Eps)])) ((KF _ _).symm) (fun A84 c84 hA841 hA842 => ?_);refine TL.as_ ?_;refine zET (zx (zO (zX (zM (zT (zSG (TL.rn 3 rfl (zET (zr ?_)))))))));refine TX.scope_r ?_;exact Kcn (v1 := .slice A84 (out ++ [(⟨((fr : Nat) : Int), (o16.length : Nat)⟩ : Eps)]).length c84) (v2 := .int .i64 0) Tryz.results97 rfl rfl (fun w1 hw => ⟨⟨(((A84, c84), out ++ [(⟨((fr : Nat) : Int), (o16.length : Nat)⟩ : Eps)]), 0), fun hv _ _ => ⟨rfl, o16, hP16, .inr ⟨fr, out, hfr.1, by omega, fun k h1 h2 => hSn.2 k h1 (by omega), rfl⟩⟩, hA841, hA842⟩, rfl, hw.pick [2] (by decide) rfl⟩)
 refine zET (zd (zx (zX (zX (zM (zT (zSG (TL.rn 3 rfl (zET (zr ?_))))))))));refine TX.scope_r ?_;exact Kcn (v1 := .slice Ao (out).length co) (v2 := .int .i64 0) Tryz.results97 rfl rfl (fun w1 hw => ⟨⟨(((Ao, co), out), 0), fun hv _ _ => ⟨rfl, o16, hP16, hfr.1.fin0 hfr.2 (by omega)⟩, hoc, hom⟩, rfl, hw.pick [0] (by decide) rfl⟩)
set_option maxRecDepth 20000
def KbZ (n : Int) : Int := IntKind.u32.wrap (4294967295 * 2 ^ (32 - n).toNat)
def Kax (a n : Int) : Bool := decide (0 <= n) && decide (n <= 32) && decide (bits .andNot .u32 a (KbZ n) = 0)
def Kb4 (a n x : Int) : Bool := Kax a n && decide (bits .and .u32 x (KbZ n) = a)
def KQ (a n b m : Int) : Int := if Ke a b = 0 then Ke n m else Ke a b
theorem or2 {a n b m : Int} : orI [Ke a b, Ke n m] = KQ a n b m := by
 unfold KQ;show (if Ke a b = 0 then (if Ke n m = 0 then 0 else Ke n m) else Ke a b) = _;split
 ·split
  ·rename_i h; exact h.symm
  rfl
 rfl
theorem Kh8 {a n : Int} (h : Kax a n = true) : 0 <= n /\ n <= 32 := by
 simp [Kax] at h;exact ⟨h.1.1, h.1.2⟩
theorem KaS : FA Tryz.prog 108 1 1 := fun g o w => by kernel_rfl
theorem KbQ : FA Tryz.prog 108 0 0 := fun g o w => by kernel_rfl
theorem Kiz (a0_0 : Int) (a1_0 : Int) (w : World) : (Instr.buildSlice 49 2 #[(0, .int .i64 a0_0), (1, .int .i64 a1_0)]).run Tryz.prog w = .ok (.slice (some ⟨w.heap.size, 0, none⟩) 2 2) (w.alloc (.cells [.int .i64 a0_0, .int .i64 a1_0].toArray 3)) := by kernel_rfl
theorem KaU (w : World) : (isAgg 108).run Tryz.prog w = .ok true w := rfl
theorem KaW (w : World) : (sizeOf 108).run Tryz.prog w = .ok 2 w := rfl
theorem Kf9 (n : Int) (h0 : 0 <= n) (h1 : n <= 32) (w : World) :
  Calls Tryz.prog 235 #[.int .i64 n] w fun e w' => e = .returned (.int .u32 (KbZ n)) /\ w' = w := by
 refine Kg (I := fun w1 => w1 = w) Tryz.func235 rfl rfl rfl ?_ rfl;refine zSG (TL.as_ ?_);refine zET (zSG (TL.mv ?_));refine TL.w rfl (Kn rfl rfl rfl (fun w => K2 (r := 32 - n) (by simp only [IntKind.wrap_i64]; omega) w)) ?_;refine TL.w rfl (Kn (v := .int .u32 (KbZ n)) rfl rfl rfl (fun w => Key (2 ^ (32 - n).toNat) (by omega) (by simp only [IntKind.bits]; omega) rfl w)) ?_;refine TL.as_ ?_;refine zET (zr ?_);exact Kc Tryz.results235 rfl (fun w1 hw => ⟨rfl, hw⟩)
theorem KgJ (a n : Int) (w : World) :
  Calls Tryz.prog 205 #[.agg #[.int .u32 a, .int .i64 n]] w fun e w' => e = .returned (.bool (Kax a n)) /\ Below w.heap.size w w' := by
 refine Kg Tryz.func205 rfl rfl rfl ?_ (Pm.start w);refine zSG ?_;refine TL.bx fun g1 => ?_;refine TL.as_ ?_;refine zET (zS (TC.quietQ (by kernel_rfl) (by kernel_rfl) (fun w hw => hw.drawn _) ?_));refine TQ.v (gF KaS) ?_;refine TQ.v (gL 0 Kb) ?_;refine TQ.sp Ka1 (fun q5 => ?_) (fun q5 => ?_)
 ·refine TQ.w rfl (Kk rfl rfl) ?_;refine TQ.ov (gF KaS) ?_;refine TQ.ov (gL 0 Kb) ?_;refine TQ.on rfl rfl rfl ?_;refine TQ.sp Ka8 (fun q9 => ?_) (fun q9 => ?_)
  ·refine TQ.rn 2 rfl (TQ.ov (gF KbQ) ?_);refine TQ.ov (gL 0 Kv) ?_;refine TQ.ov (gF KaS) ?_;refine TQ.ov (gL 0 Kb) ?_;refine TQ.on rfl rfl rfl ?_;refine TQ.p1 (v := .int .u32 (KbZ n)) rfl Kgk (fun w1 hw => (Kcw (Kf9 n (by omega) (by omega) w1)).mono fun en w2 ⟨h1, h2⟩ => ⟨h1, hw.below h2⟩) ?_;refine TQ.on rfl rfl rfl ?_;refine TQ.w rfl (Kn rfl rfl rfl (fun w => Kja w)) ?_;refine TQ.on rfl rfl rfl ?_;refine TQ.sp Kab (fun q18 => ?_) (fun q18 => ?_)
   ·refine TQ.rn 2 rfl ?_;refine TQ.fin ?_;refine zT (zr ?_);have hE : (Kax a n) = true := (by simp [Kax, q5, q9, q18]; try omega);exact Kc Tryz.results205 rfl (fun w1 hw => ⟨by rw [hE]; try rfl, hw.bel⟩)
   refine TQ.rn 2 rfl ?_;refine TQ.fin ?_;refine zT (zr ?_);have hE : (Kax a n) = false := (by simp [Kax, q5, q9, q18]; try omega);exact Kc Tryz.results205 rfl (fun w1 hw => ⟨by rw [hE]; try rfl, hw.bel⟩)
  refine TQ.rn 11 rfl ?_;refine TQ.fin ?_;refine zT (zr ?_);have hE : (Kax a n) = false := (by simp [Kax, q5, q9]; try omega);exact Kc Tryz.results205 rfl (fun w1 hw => ⟨by rw [hE]; try rfl, hw.bel⟩)
 refine TQ.rn 15 rfl ?_;refine TQ.fin ?_;refine zT (zr ?_);have hE : (Kax a n) = false := (by simp [Kax, q5]; try omega);exact Kc Tryz.results205 rfl (fun w1 hw => ⟨by rw [hE]; try rfl, hw.bel⟩)
theorem KhK (a n b m : Int) (w : World) :
  Calls Tryz.prog 137 #[.agg #[.int .u32 a, .int .i64 n], .agg #[.int .u32 b, .int .i64 m]] w fun e w' => e = .returned (.int .i64 (KQ a n b m)) /\ Below w.heap.size w w' := by
 refine Kg Tryz.func137 rfl rfl rfl ?_ (Pm.start w);refine zSG ?_;refine TL.bx fun g2 => ?_;refine TL.bx fun g3 => ?_;refine TL.as_ ?_;refine zET (zS (TC.tail 10 (by kernel_rfl) (by kernel_rfl) (fun w hw => hw.drawn _) ?_));refine TS.v (gF KbQ) ?_;refine TS.v (gL 1 Kv) ?_;refine TS.v (gF KbQ) ?_;refine TS.v (gL 0 Kv) ?_;refine TS.call (r := .int .i64 (Ke a b)) rfl rfl rfl rfl rfl Tryz.func47 (by decide) rfl (fun w1 hw => Kdn a b w1) ?_;refine TS.v (gF KaS) ?_;refine TS.v (gL 1 Kb) ?_;refine TS.v (gF KaS) ?_;refine TS.v (gL 0 Kb) ?_;refine TS.call (r := .int .i64 (Ke n m)) rfl rfl rfl rfl rfl Tryz.func48 (by decide) rfl (fun w1 hw => Kcr n m w1) ?_;refine TS.end_ ?_;refine TL.prowS (e := 3) (size := 1) (cs := Ka (ic .i64) [Ke a b, Ke n m]) rfl rfl rfl rfl rfl (fun w => Kiz _ _ w) (by decide) rfl (fun g15 => ?_);refine TL.p1 (r := .int .i64 (KQ a n b m)) rfl o46 (fun w1 hw => (by have h9 := Kep (some ⟨g15, 0, none⟩) 2 2 ([Ke a b, Ke n m]) w1 (Kz hw (k := 0) rfl) rfl (by show 2 <= 100000; decide); rw [or2] at h9; exact h9)) ?_;refine TL.as_ ?_;refine zET (zr ?_);have hE : (KQ a n b m) = KQ a n b m := (by simp [KQ]);exact Kc Tryz.results137 rfl (fun w1 hw => ⟨by rw [hE]; try rfl, hw.bel⟩)
theorem Khx (a n x : Int) (w : World) :
  Calls Tryz.prog 234 #[.agg #[.int .u32 a, .int .i64 n], .int .u32 x] w fun e w' => e = .returned (.bool (Kb4 a n x)) /\ Below w.heap.size w w' := by
 refine Kg Tryz.func234 rfl rfl rfl ?_ (Pm.start w);refine zSG ?_;refine TL.bx fun g2 => ?_;refine TL.as_ ?_;refine zET (zS (TC.quietQ (by kernel_rfl) (by kernel_rfl) (fun w hw => hw.drawn _) ?_));refine TQ.v (gV 0 (.agg #[.int .u32 a, .int .i64 n]) KaU KaW) ?_;refine TQ.pS rfl Khv (fun w1 hw => KgJ a n w1) (fun h6 => ?_) (fun h6 => ?_)
 ·have hn0 := Kh8 h6;refine TQ.rn 2 rfl (TQ.ov (gF KaS) ?_);refine TQ.ov (gL 0 Kb) ?_;refine TQ.on rfl rfl rfl ?_;refine TQ.p1 (v := .int .u32 (KbZ n)) rfl Kgk (fun w1 hw => (Kcw (Kf9 n (by omega) (by omega) w1)).mono fun en w2 ⟨h1, h2⟩ => ⟨h1, hw.below h2⟩) ?_;refine TQ.on rfl rfl rfl ?_;refine TQ.w rfl (Kn rfl rfl rfl (fun w => Kk8 (by simp) w)) ?_;refine TQ.ov (gF KbQ) ?_;refine TQ.ov (gL 0 Kv) ?_;refine TQ.on rfl rfl rfl ?_;refine TQ.sp Kab (fun q15 => ?_) (fun q15 => ?_)
  ·refine TQ.rn 2 rfl ?_;refine TQ.fin ?_;refine zT (zr ?_);have hE : (Kb4 a n x) = true := (by simp [Kb4, h6, q15]; try omega);exact Kc Tryz.results234 rfl (fun w1 hw => ⟨by rw [hE]; try rfl, hw.bel⟩)
  refine TQ.rn 2 rfl ?_;refine TQ.fin ?_;refine zT (zr ?_);have hE : (Kb4 a n x) = false := (by simp [Kb4, h6, q15]; try omega);exact Kc Tryz.results234 rfl (fun w1 hw => ⟨by rw [hE]; try rfl, hw.bel⟩)
 refine TQ.rn 11 rfl ?_;refine TQ.fin ?_;refine zT (zr ?_);have hE : (Kb4 a n x) = false := (by simp [Kb4, h6]; try omega);exact Kc Tryz.results234 rfl (fun w1 hw => ⟨by rw [hE]; try rfl, hw.bel⟩)
set_option maxRecDepth 20000
structure En where
 addr : Int
 len : Int
 prov : Int
 frm : Int
 to_ : Int
deriving DecidableEq
def En.cells (r : En) : List Value := [.int .u32 r.addr, .int .i64 r.len, .int .i64 r.prov, .int .i64 r.frm, .int .i64 r.to_]
theorem KI : Cel En.cells 5 := ⟨fun _ => rfl, fun r u hu => by
 simp only [En.cells, List.mem_cons, List.not_mem_nil, or_false] at hu;rcases hu with rfl | rfl | rfl | rfl | rfl <;> rfl⟩
def En.zero : En := ⟨0, 0, 0, 0, 0⟩
def KJ (e : En) : Bool := Kax e.addr e.len && decide (1 <= e.prov) && decide (e.prov <= 2147483647) && decide (0 <= e.frm) && decide (e.frm < e.to_) && decide (e.to_ <= 1125899906842624)
def KaG (b x : En) : Bool := decide (KQ b.addr b.len x.addr x.len > 0) || (decide (KQ b.addr b.len x.addr x.len = 0) && decide (x.frm < b.to_))
def Kai (es : List En) (i : Nat) : Bool := match es[i]? with
 | none => true
 | some x => KJ x && (decide (i = 0) || match es[i - 1]? with
  | none => true
  | some b => !KaG b x)
def KA (es : List En) : Bool := decide (es.length <= 1024) && (List.range es.length).all (Kai es)
theorem KgA {es : List En} {i : Nat} {x : En} (hx : es[i]? = some x) (h : KJ x = false) : Kai es i = false := by simp [Kai, hx, h]
theorem Kg8 {es : List En} {x : En} {i : Nat} (hi : i = 0) (hx : es[i]? = some x) (h : KJ x = true) : Kai es i = true := by subst hi; simp [Kai, hx, h]
theorem KbU {es : List En} {x b : En} {i : Nat} {t : Bool} (hi : ¬ i = 0) (hx : es[i]? = some x) (hb : es[i - 1]? = some b) (h : KJ x = true) (ht : KaG b x = !t) : Kai es i = t := by simp [Kai, hx, hb, h, hi, ht]
theorem KeQ {es : List En} (hl : es.length <= 1024) (h : ∀ j, j < es.length -> Kai es j = true) : KA es = true := by
 simp only [KA, Bool.and_eq_true, decide_eq_true_eq, List.all_eq_true, List.mem_range];exact ⟨hl, h⟩
theorem KcH {es : List En} {i : Nat} (hi : i < es.length) (h : Kai es i = false) : KA es = false := by
 cases hv : KA es with
 | false => rfl
 | true =>
  simp only [KA, Bool.and_eq_true, decide_eq_true_eq, List.all_eq_true, List.mem_range] at hv;rw [hv.2 i hi] at h; cases h
theorem KlZ {es : List En} (h : KA es = true) : es.length <= 1024 := by
 simp only [KA, Bool.and_eq_true, decide_eq_true_eq] at h;exact h.1
def Kbr (a t : Int) (p : En × Bool) (e : En) : Bool := decide (e.frm <= t) && decide (t < e.to_) && (!p.2 || decide (e.len > p.1.len)) && Kb4 e.addr e.len a
def Kdj (a t : Int) (p : En × Bool) (e : En) : En × Bool := if Kbr a t p e then (e, true) else p
def KaC (es : List En) (a t : Int) : En × Bool := es.foldl (Kdj a t) (En.zero, false)
theorem KbM {es : List En} {a t : Int} {i : Nat} {x : En} {p : En × Bool} (hx : es[i]? = some x) (hp : KaC (es.take i) a t = p) : KaC (es.take (i + 1)) a t = if Kbr a t p x then (x, true) else p := by
 unfold KaC at hp ⊢;rw [List.take_add_one, hx, List.foldl_append, hp]
 rfl
def Kb6 (es : List En) (a t : Int) : En × Bool := if KA es then KaC es a t else (En.zero, false)
def KX (es : List En) (a t : Int) : Int := (Kb6 es a t).1.prov
theorem KaL : FA Tryz.prog 110 0 0 := fun g o w => by kernel_rfl
theorem Kcg : FA Tryz.prog 110 1 2 := fun g o w => by kernel_rfl
theorem KaX : FA Tryz.prog 110 2 3 := fun g o w => by kernel_rfl
theorem KaK : FA Tryz.prog 110 3 4 := fun g o w => by kernel_rfl
theorem KaN : FA Tryz.prog 32 0 0 := fun g o w => by kernel_rfl
theorem KaI (w : World) : (isAgg 30).run Tryz.prog w = .ok false w := rfl
theorem Kq (w : World) : (sizeOf 110).run Tryz.prog w = .ok 5 w := rfl
theorem K3 (w : World) : (isAgg 110).run Tryz.prog w = .ok true w := rfl
theorem Kaa (w : World) : (zeroValue 110).run Tryz.prog w = .ok (.agg #[.int .u32 0, .int .i64 0, .int .i64 0, .int .i64 0, .int .i64 0]) w := rfl
theorem K4 (w : World) : (isAgg 32).run Tryz.prog w = .ok true w := rfl
theorem KE (w : World) : (sizeOf 32).run Tryz.prog w = .ok 1 w := rfl
theorem KjM  (w : World) : (Instr.build 110 #[]).run Tryz.prog w = .ok (.agg #[.int .u32 0, .int .i64 0, .int .i64 0, .int .i64 0, .int .i64 0]) w := by kernel_rfl
theorem KjP {a0 : Int} {a1 : Int} {a2 : Int} {a3 : Int} {a4 : Int} : ∀ u ∈ [(.int .u32 a0 : Value), .int .i64 a1, .int .i64 a2, .int .i64 a3, .int .i64 a4], u.oneCell' = true := by
 intro u hu;simp only [List.mem_cons, List.not_mem_nil, or_false] at hu;rcases hu with rfl | rfl | rfl | rfl | rfl <;> rfl
theorem Kjw (x : En) (w : World) :
  Calls Tryz.prog 136 #[.agg x.cells.toArray] w fun e w' => e = .returned (.bool (KJ x)) /\ Below w.heap.size w w' := by
 refine Kg Tryz.func136 rfl rfl rfl ?_ (Pm.start w);refine zSG ?_;refine TL.bx fun g1 => ?_;refine TL.as_ ?_;refine zET (zSG (TL.v (gF KaL) ?_));refine TL.v (gV 0 (.agg #[.int .u32 x.addr, .int .i64 x.len]) KaU KaW) ?_;refine TL.pS rfl Khv (fun w1 hw => KgJ x.addr x.len w1) (fun h5 => ?_) (fun h5 => ?_)
 ·refine TL.mv ?_;refine TL.ov (gF Kcg) ?_;refine TL.ov (gL 0 Kb) ?_;refine TL.gu ?_;refine TL.sp Ka1 (fun q9 => ?_) (fun q9 => ?_)
  ·refine TL.rn 2 rfl (TL.ov (gF Kcg) ?_);refine TL.ov (gL 0 Kb) ?_;refine TL.gu ?_;refine TL.sp Ka8 (fun q14 => ?_) (fun q14 => ?_)
   ·refine TL.rn 2 rfl (TL.ov (gF KaX) ?_);refine TL.ov (gL 0 Kb) ?_;refine TL.gu ?_;refine TL.sp Ka1 (fun q19 => ?_) (fun q19 => ?_)
    ·refine TL.rn 2 rfl (TL.ov (gF KaX) ?_);refine TL.ov (gL 0 Kb) ?_;refine TL.ov (gF KaK) ?_;refine TL.ov (gL 0 Kb) ?_;refine TL.gu ?_;refine TL.sp Km (fun q26 => ?_) (fun q26 => ?_)
     ·refine TL.rn 2 rfl (TL.ov (gF KaK) ?_);refine TL.ov (gL 0 Kb) ?_;refine TL.gu ?_;refine TL.sp Ka8 (fun q31 => ?_) (fun q31 => ?_)
      ·refine TL.rn 2 rfl (zET (zr ?_));have hE : (KJ x) = true := (by simp [KJ, h5, q9, q14, q19, q26, q31]; try omega);exact Kc Tryz.results136 rfl (fun w1 hw => ⟨by rw [hE]; try rfl, hw.bel⟩)
      refine TL.rn 2 rfl (zET (zr ?_));have hE : (KJ x) = false := (by simp [KJ, h5, q9, q14, q19, q26, q31]; try omega);exact Kc Tryz.results136 rfl (fun w1 hw => ⟨by rw [hE]; try rfl, hw.bel⟩)
     refine TL.rn 7 rfl (zET (zr ?_));have hE : (KJ x) = false := (by simp [KJ, h5, q9, q14, q19, q26]; try omega);exact Kc Tryz.results136 rfl (fun w1 hw => ⟨by rw [hE]; try rfl, hw.bel⟩)
    refine TL.rn 14 rfl (zET (zr ?_));have hE : (KJ x) = false := (by simp [KJ, h5, q9, q14, q19]; try omega);exact Kc Tryz.results136 rfl (fun w1 hw => ⟨by rw [hE]; try rfl, hw.bel⟩)
   refine TL.rn 19 rfl (zET (zr ?_));have hE : (KJ x) = false := (by simp [KJ, h5, q9, q14]; try omega);exact Kc Tryz.results136 rfl (fun w1 hw => ⟨by rw [hE]; try rfl, hw.bel⟩)
  refine TL.rn 24 rfl (zET (zr ?_));have hE : (KJ x) = false := (by simp [KJ, h5, q9]; try omega);exact Kc Tryz.results136 rfl (fun w1 hw => ⟨by rw [hE]; try rfl, hw.bel⟩)
 refine TL.rn 28 rfl (zET (zr ?_));have hE : (KJ x) = false := (by simp [KJ, h5]; try omega);exact Kc Tryz.results136 rfl (fun w1 hw => ⟨by rw [hE]; try rfl, hw.bel⟩)
theorem okN {es : List En} {i : Nat} (h : ∀ j, j < i -> Kai es j = true) (hi : Kai es i = true) : ∀ j, j < i + 1 -> Kai es j = true := fun j hj => by
 rcases Nat.lt_or_ge j i with h1 | h1
 ·exact h j h1
 obtain rfl : j = i := by omega
 exact hi
theorem Kgb (A0 : Option Addr) (c0 : Nat) (es : List En) (w : World) (hr : Kd w w.heap.size 5 A0 es.length (Ka En.cells es)) :
  Calls Tryz.prog 90 #[.agg #[.slice A0 es.length c0]] w fun e w' => e = .returned (.bool (KA es)) /\ Below w.heap.size w w' := by
 refine Kg Tryz.func90 rfl rfl rfl ?_ (Pm.start w);refine zSG ?_;refine TL.bx fun g1 => ?_;refine TL.as_ ?_;refine zET (zS (zSG (TL.v (gF KaN) ?_)));refine TL.v (gL 0 KaI) ?_;refine TL.v (gN Tryz.underlying30) ?_;refine TL.sp KP (fun q10 => ?_) (fun q10 => ?_)
 ·refine zET (zc (zSG (TL.as_ ?_)));refine zET (zr (zR ?_));have hE : KA es = false := by simp only [KA, decide_eq_false (show ¬ es.length <= 1024 by omega), Bool.false_and]
  exact Kc Tryz.results90 rfl (fun w1 hw => ⟨by rw [hE], hw.bel⟩)
 refine zET (zd (zk (zT (zS (zSG (TL.v (gF KaN) ?_))))));refine TL.v (gL 0 KaI) ?_;refine TL.v (gN Tryz.underlying30) ?_;refine TL.mv ?_;refine zET (zB (TC.lp (α := {i : Nat // i <= es.length /\ ∀ j, j < i -> Kai es j = true}) [1, 12, 13] rfl (fun y => [(14, .int .i64 ((y.1 : Nat) : Int))]) (fun y => Pm w [.blk g1 32 [.slice A0 es.length c0]]) (fun y => es.length - y.1) (⟨0, Nat.zero_le _, fun j hj => absurd hj (Nat.not_lt_zero _)⟩) (fun w1 hw => hw) ?_));rintro ⟨i, hi, hok⟩
 try dsimp only at hi hok ⊢
 refine zSG ?_;refine TL.sp Km (fun q15 => ?_) (fun q15 => ?_)
 ·refine zET (zS (zc (zk (zT (zS (zB (zSG (TL.mv ?_))))))));have hi17 : i < es.length := by omega
  obtain ⟨x17, hx17⟩ := Ko hi17;obtain ⟨b17, o17, hA17, hbb17, hc17⟩ := hr.ad (by omega) (by decide);refine TL.w rfl (gA (i := i) Tryz.underlying30 Kq rfl rfl rfl rfl hA17 (by omega)) ?_;refine TL.v (gR KI K3 Kq hbb17 hx17 hc17) ?_;refine TL.al Kaa fun g4 => ?_;refine TL.as_ ?_;refine TL.pstore (k := 0) (vs := x17.cells) rfl rfl rfl rfl rfl rfl rfl Kq (KI.one _) (by show 5 <= 5; decide) (L' := [.blk g4 110 x17.cells, .blk g1 32 [.slice A0 es.length c0]]) rfl ?_;refine zET (zS (zSG (TL.v (gV 0 (.agg (x17.cells).toArray) K3 Kq) ?_)));refine TL.pS rfl Kic (fun w1 hw => Kjw x17 w1) (fun h20 => ?_) (fun h20 => ?_)
  ·refine TL.w rfl (KaZ rfl rfl) ?_;refine zET (zd (zk (zT (zS (zSG (TL.mv ?_))))));refine TL.sp Kab (fun q23 => ?_) (fun q23 => ?_)
   ·refine zET (zc (zx (zX (zM (zT (zG (TL.v (gD ((i + 1 : Nat) : Int)) ?_)))))));refine TL.mv ?_;refine zE ?_;exact TX.rd (⟨i + 1, by omega, okN hok (Kg8 (by omega) hx17 h20)⟩) (by show es.length - (i + 1) < es.length - i; omega) (fun w1 hw => hw.pk [1])
   refine zET (zd (zk (zT (zSG (TL.v (gF KaN) ?_)))));refine TL.v (gL 1 KaI) ?_;refine TL.mv ?_;refine TL.w rfl (Kn rfl rfl rfl (fun w => K2 (r := ((i - 1 : Nat) : Int)) (by simp only [IntKind.wrap_i64]; omega) w)) ?_;have hi28 : i - 1 < es.length := by omega
   obtain ⟨x28, hx28⟩ := Ko hi28;obtain ⟨b28, o28, hA28, hbb28, hc28⟩ := hr.ad (by omega) (by decide);refine TL.w rfl (gA (i := (i - 1)) Tryz.underlying30 Kq rfl rfl rfl rfl hA28 (by omega)) ?_;refine TL.w rfl (KH (off := o28 + (i - 1) * 5) rfl rfl K3 Kq (KI.len x28) (fun w1 hw j9 u9 h9 => (hw.bel.cell hbb28).trans <| Ka4 KI hx28 hc28 j9 u9 h9)) ?_;refine TL.al Kaa fun g5 => ?_;refine TL.pstore (k := 0) (vs := x28.cells) rfl rfl rfl rfl rfl rfl rfl Kq (KI.one _) (by show 5 <= 5; decide) (L' := [.blk g5 110 x28.cells, .blk g4 110 x17.cells, .blk g1 32 [.slice A0 es.length c0]]) rfl ?_;refine zET (zSG (TL.v (gF KaL) ?_));refine TL.v (gV 0 (.agg #[.int .u32 x28.addr, .int .i64 x28.len]) KaU KaW) ?_;refine TL.v (gF KaL) ?_;refine TL.v (gV 1 (.agg #[.int .u32 x17.addr, .int .i64 x17.len]) KaU KaW) ?_;refine TL.p1 rfl Klc (fun w1 hw => KhK x28.addr x28.len x17.addr x17.len w1) ?_;refine TL.as_ ?_;refine zET (zSG (TL.mv ?_));refine TL.sp KP (fun q36 => ?_) (fun q36 => ?_)
   ·refine TL.rn 4 rfl ?_;refine TL.offU rfl rfl rfl rfl rfl ?_;refine TL.offU rfl rfl rfl rfl rfl ?_;refine TL.offU rfl rfl rfl rfl rfl ?_;refine TL.offU rfl rfl rfl rfl rfl ?_;refine TL.offU rfl rfl rfl rfl rfl ?_;refine TL.rn 2 rfl (zET (zc (zSG (TL.as_ ?_))));refine zET (zr (zRR (zR (zRR ?_))));have hE : KA es = false := KcH hi17 (KbU (t := false) (by omega) hx17 hx28 h20 (by simp [KaG, q15, h20, q23, q36]));exact Kc Tryz.results90 rfl (fun w1 hw => ⟨by rw [hE], hw.bel⟩)
   refine TL.rn 2 rfl (TL.gu ?_);refine TL.sp Kab (fun q39 => ?_) (fun q39 => ?_)
   ·refine TL.rn 1 rfl (TL.ov (gF KaX) ?_);refine TL.ov (gL 1 Kb) ?_;refine TL.ov (gF KaK) ?_;refine TL.ov (gL 0 Kb) ?_;refine TL.gu ?_;refine TL.sp Km (fun q45 => ?_) (fun q45 => ?_)
    ·refine TL.rn 2 rfl (zET (zc (zSG (TL.as_ ?_))));refine zET (zr (zRR (zR (zRR ?_))));have hE : KA es = false := KcH hi17 (KbU (t := false) (by omega) hx17 hx28 h20 (by simp [KaG, q15, h20, q23, q36, q39, q45]));exact Kc Tryz.results90 rfl (fun w1 hw => ⟨by rw [hE], hw.bel⟩)
    refine TL.rn 2 rfl (zET (zd (zk (zN (zT (zG (TL.v (gD ((i + 1 : Nat) : Int)) ?_)))))));refine TL.mv ?_;refine zE ?_;exact TX.rd (⟨i + 1, by omega, okN hok (KbU (t := true) (by omega) hx17 hx28 h20 (by simp [KaG, q15, h20, q23, q36, q39, q45]))⟩) (by show es.length - (i + 1) < es.length - i; omega) (fun w1 hw => hw.pk [2])
   refine TL.rn 8 rfl (zET (zd (zk (zN (zT (zG (TL.v (gD ((i + 1 : Nat) : Int)) ?_)))))));refine TL.mv ?_;refine zE ?_;exact TX.rd (⟨i + 1, by omega, okN hok (KbU (t := true) (by omega) hx17 hx28 h20 (by simp [KaG, q15, h20, q23, q36, q39]))⟩) (by show es.length - (i + 1) < es.length - i; omega) (fun w1 hw => hw.pk [2])
  refine TL.w rfl (KaZ rfl rfl) ?_;refine zET (zc (zSG (TL.as_ ?_)));refine zET (zr (zR (zRR (zR (zRR ?_)))));have hE : KA es = false := KcH hi17 (KgA hx17 h20);exact Kc Tryz.results90 rfl (fun w1 hw => ⟨by rw [hE], hw.bel⟩)
 refine zET (zS (zd (zx (zX (zX (zM (zT (zSG (TL.as_ ?_)))))))));refine zET (zr ?_);have hE : KA es = true := KeQ (by omega) (fun j hj => hok j (by omega));exact Kc Tryz.results90 rfl (fun w1 hw => ⟨by rw [hE], hw.bel⟩)
theorem KiF (A0 : Option Addr) (c0 : Nat) (es : List En) (a t : Int) (w : World) (hr : Kd w w.heap.size 5 A0 es.length (Ka En.cells es)) (hl1 : es.length <= 100000) :
  Calls Tryz.prog 202 #[.agg #[.slice A0 es.length c0], .int .u32 a, .int .i64 t] w fun e w' => e = .returned (.tuple #[.agg (KaC es a t).1.cells.toArray, .bool (KaC es a t).2]) /\ Below w.heap.size w w' := by
 refine Kg Tryz.func202 rfl rfl rfl ?_ (Pm.start w);refine zSG ?_;refine TL.bx fun g3 => ?_;refine TL.al Kaa fun g6 => ?_;refine TL.as_ ?_;refine zET (zSG ?_);refine TL.al Kaa fun g8 => ?_;refine zET (zSG (TL.as_ ?_));refine zET (zS (zSG (TL.v (gF KaN) ?_)));refine TL.v (gL 2 KaI) ?_;refine TL.v (gN Tryz.underlying30) ?_;refine TL.mv ?_;refine zET (zB (TC.lp (α := {y : Nat × En × Bool // y.1 <= es.length /\ KaC (es.take y.1) a t = y.2}) [1, 2, 6, 8, 13, 14] rfl (fun y => [(15, .int .i64 ((y.1.1 : Nat) : Int)), (9, .bool y.1.2.2)]) (fun y => Pm w [.blk g8 110 y.1.2.1.cells, .blk g6 110 En.zero.cells, .blk g3 32 [.slice A0 es.length c0]]) (fun y => es.length - y.1.1) (⟨(0, En.zero, false), Nat.zero_le _, rfl⟩) (fun w1 hw => hw) ?_));rintro ⟨⟨i, bst, fnd⟩, hi, hst⟩;dsimp only at hi hst ⊢;refine zSG ?_;refine TL.sp Km (fun q16 => ?_) (fun q16 => ?_)
 ·refine zET (zS (zc (zk (zT (zS (zB (zSG ?_)))))));have hi17 : i < es.length := by omega
  obtain ⟨x17, hx17⟩ := Ko hi17;obtain ⟨b17, o17, hA17, hbb17, hc17⟩ := hr.ad (by omega) (by decide);refine TL.w rfl (gA (i := i) Tryz.underlying30 Kq rfl rfl rfl rfl hA17 (by omega)) ?_;refine TL.v (gR KI K3 Kq hbb17 hx17 hc17) ?_;refine TL.al Kaa fun g11 => ?_;refine TL.pstore (k := 0) (vs := x17.cells) rfl rfl rfl rfl rfl rfl rfl Kq (KI.one _) (by show 5 <= 5; decide) (L' := [.blk g11 110 x17.cells, .blk g8 110 bst.cells, .blk g6 110 En.zero.cells, .blk g3 32 [.slice A0 es.length c0]]) rfl ?_;refine zET (zS ?_)
  cases fnd with
  | true =>
   refine zG (TL.v (gF KaX) ?_);refine TL.v (gL 0 Kb) ?_;refine TL.mv ?_;refine TL.sp Ka8 (fun q22 => ?_) (fun q22 => ?_)
   ·refine TL.rn 2 rfl (TL.ov (gF KaK) ?_);refine TL.ov (gL 0 Kb) ?_;refine TL.gu ?_;refine TL.sp Km (fun q27 => ?_) (fun q27 => ?_)
    ·refine TL.rn 5 rfl (TL.ov (gF KaL) ?_);refine TL.ov (gF KaS) ?_;refine TL.ov (gL 0 Kb) ?_;refine TL.ov (gF KaL) ?_;refine TL.ov (gF KaS) ?_;refine TL.ov (gL 1 Kb) ?_;refine TL.gu ?_;refine TL.sp KP (fun q39 => ?_) (fun q39 => ?_)
     ·refine TL.rn 3 rfl (TL.ov (gF KaL) ?_);refine TL.ov (gV 0 (.agg #[.int .u32 x17.addr, .int .i64 x17.len]) KaU KaW) ?_;refine TL.rn 1 rfl (TL.gu ?_);refine TL.pS rfl KfG (fun w1 hw => Khx x17.addr x17.len a w1) (fun h46 => ?_) (fun h46 => ?_)
      ·refine TL.pk ?_;refine zET (zc (zG (TL.v (gV 0 (.agg (x17.cells).toArray) K3 Kq) ?_)));refine TL.pstore (k := 1) (vs := x17.cells) rfl rfl rfl rfl rfl rfl rfl Kq (KI.one _) (by show 5 <= 5; decide) (L' := [.blk g11 110 x17.cells, .blk g8 110 x17.cells, .blk g6 110 En.zero.cells, .blk g3 32 [.slice A0 es.length c0]]) rfl ?_;refine TL.as_ ?_;refine zE (zN (zT (zG (TL.v (gD ((i + 1 : Nat) : Int)) ?_))));refine TL.mv ?_;refine zE ?_;exact TX.rd (⟨(i + 1, x17, true), by dsimp only; omega, by rw [KbM hx17 hst, if_pos (by simp [Kbr, q16, q22, q27, q39, h46])]⟩) (by show es.length - (i + 1) < es.length - i; omega) (fun w1 hw => hw.pk [1, 2, 3])
      refine TL.pk ?_;refine zET (zd (zk (zN (zT (zG (TL.v (gD ((i + 1 : Nat) : Int)) ?_))))));refine TL.mv ?_;refine zE ?_;exact TX.rd (⟨(i + 1, bst, true), by dsimp only; omega, by rw [KbM hx17 hst, if_neg (by simp [Kbr, q16, q22, q27, q39, h46])]⟩) (by show es.length - (i + 1) < es.length - i; omega) (fun w1 hw => hw.pk [1, 2, 3])
     refine TL.rn 8 rfl (zET (zd (zk (zN (zT (zG (TL.v (gD ((i + 1 : Nat) : Int)) ?_)))))));refine TL.mv ?_;refine zE ?_;exact TX.rd (⟨(i + 1, bst, true), by dsimp only; omega, by rw [KbM hx17 hst, if_neg (by simp [Kbr, q16, q22, q27, q39])]⟩) (by show es.length - (i + 1) < es.length - i; omega) (fun w1 hw => hw.pk [1, 2, 3])
    refine TL.rn 5 rfl ?_;refine TL.offU rfl rfl rfl rfl rfl ?_;refine TL.offU rfl rfl rfl rfl rfl ?_;refine TL.offU rfl rfl rfl rfl rfl ?_;refine TL.offU rfl rfl rfl rfl rfl ?_;refine TL.offU rfl rfl rfl rfl rfl ?_;refine TL.offU rfl rfl rfl rfl rfl ?_;refine TL.offU rfl rfl rfl rfl rfl ?_;refine TL.rn 8 rfl (zET (zd (zk (zN (zT (zG (TL.v (gD ((i + 1 : Nat) : Int)) ?_)))))));refine TL.mv ?_;refine zE ?_;exact TX.rd (⟨(i + 1, bst, true), by dsimp only; omega, by rw [KbM hx17 hst, if_neg (by simp [Kbr, q16, q22, q27])]⟩) (by show es.length - (i + 1) < es.length - i; omega) (fun w1 hw => hw.pk [1, 2, 3])
   refine TL.rn 10 rfl ?_;refine TL.offU rfl rfl rfl rfl rfl ?_;refine TL.offU rfl rfl rfl rfl rfl ?_;refine TL.offU rfl rfl rfl rfl rfl ?_;refine TL.offU rfl rfl rfl rfl rfl ?_;refine TL.offU rfl rfl rfl rfl rfl ?_;refine TL.offU rfl rfl rfl rfl rfl ?_;refine TL.offU rfl rfl rfl rfl rfl ?_;refine TL.rn 8 rfl (zET (zd (zk (zN (zT (zG (TL.v (gD ((i + 1 : Nat) : Int)) ?_)))))));refine TL.mv ?_;refine zE ?_;exact TX.rd (⟨(i + 1, bst, true), by dsimp only; omega, by rw [KbM hx17 hst, if_neg (by simp [Kbr, q16, q22])]⟩) (by show es.length - (i + 1) < es.length - i; omega) (fun w1 hw => hw.pk [1, 2, 3])
  | false =>
   refine zG (TL.v (gF KaX) ?_);refine TL.v (gL 0 Kb) ?_;refine TL.mv ?_;refine TL.sp Ka8 (fun q22 => ?_) (fun q22 => ?_)
   ·refine TL.rn 2 rfl (TL.ov (gF KaK) ?_);refine TL.ov (gL 0 Kb) ?_;refine TL.gu ?_;refine TL.sp Km (fun q27 => ?_) (fun q27 => ?_)
    ·refine TL.rn 15 rfl (TL.ov (gF KaL) ?_);refine TL.ov (gV 0 (.agg #[.int .u32 x17.addr, .int .i64 x17.len]) KaU KaW) ?_;refine TL.rn 1 rfl (TL.gu ?_);refine TL.pS rfl KfG (fun w1 hw => Khx x17.addr x17.len a w1) (fun h46 => ?_) (fun h46 => ?_)
     ·refine TL.pk ?_;refine zET (zc (zG (TL.v (gV 0 (.agg (x17.cells).toArray) K3 Kq) ?_)));refine TL.pstore (k := 1) (vs := x17.cells) rfl rfl rfl rfl rfl rfl rfl Kq (KI.one _) (by show 5 <= 5; decide) (L' := [.blk g11 110 x17.cells, .blk g8 110 x17.cells, .blk g6 110 En.zero.cells, .blk g3 32 [.slice A0 es.length c0]]) rfl ?_;refine TL.as_ ?_;refine zE (zN (zT (zG (TL.v (gD ((i + 1 : Nat) : Int)) ?_))));refine TL.mv ?_;refine zE ?_;exact TX.rd (⟨(i + 1, x17, true), by dsimp only; omega, by rw [KbM hx17 hst, if_pos (by simp [Kbr, q16, q22, q27, h46])]⟩) (by show es.length - (i + 1) < es.length - i; omega) (fun w1 hw => hw.pk [1, 2, 3])
     refine TL.pk ?_;refine zET (zd (zk (zN (zT (zG (TL.v (gD ((i + 1 : Nat) : Int)) ?_))))));refine TL.mv ?_;refine zE ?_;exact TX.rd (⟨(i + 1, bst, false), by dsimp only; omega, by rw [KbM hx17 hst, if_neg (by simp [Kbr, q16, q22, q27, h46])]⟩) (by show es.length - (i + 1) < es.length - i; omega) (fun w1 hw => hw.pk [1, 2, 3])
    refine TL.rn 5 rfl ?_;refine TL.offU rfl rfl rfl rfl rfl ?_;refine TL.offU rfl rfl rfl rfl rfl ?_;refine TL.offU rfl rfl rfl rfl rfl ?_;refine TL.offU rfl rfl rfl rfl rfl ?_;refine TL.offU rfl rfl rfl rfl rfl ?_;refine TL.offU rfl rfl rfl rfl rfl ?_;refine TL.offU rfl rfl rfl rfl rfl ?_;refine TL.rn 8 rfl (zET (zd (zk (zN (zT (zG (TL.v (gD ((i + 1 : Nat) : Int)) ?_)))))));refine TL.mv ?_;refine zE ?_;exact TX.rd (⟨(i + 1, bst, false), by dsimp only; omega, by rw [KbM hx17 hst, if_neg (by simp [Kbr, q16, q22, q27])]⟩) (by show es.length - (i + 1) < es.length - i; omega) (fun w1 hw => hw.pk [1, 2, 3])
   refine TL.rn 10 rfl ?_;refine TL.offU rfl rfl rfl rfl rfl ?_;refine TL.offU rfl rfl rfl rfl rfl ?_;refine TL.offU rfl rfl rfl rfl rfl ?_;refine TL.offU rfl rfl rfl rfl rfl ?_;refine TL.offU rfl rfl rfl rfl rfl ?_;refine TL.offU rfl rfl rfl rfl rfl ?_;refine TL.offU rfl rfl rfl rfl rfl ?_;refine TL.rn 8 rfl (zET (zd (zk (zN (zT (zG (TL.v (gD ((i + 1 : Nat) : Int)) ?_)))))));refine TL.mv ?_;refine zE ?_;exact TX.rd (⟨(i + 1, bst, false), by dsimp only; omega, by rw [KbM hx17 hst, if_neg (by simp [Kbr, q16, q22])]⟩) (by show es.length - (i + 1) < es.length - i; omega) (fun w1 hw => hw.pk [1, 2, 3])
 refine zET (zS (zd (zx (zX (zX (zM (zT (zSG (TL.v (gV 0 (.agg (bst.cells).toArray) K3 Kq) ?_)))))))));refine TL.mv ?_;refine TL.pstore (k := 1) (vs := bst.cells) rfl rfl rfl rfl rfl rfl rfl Kq (KI.one _) (by show 5 <= 5; decide) (L' := [.blk g8 110 bst.cells, .blk g6 110 bst.cells, .blk g3 32 [.slice A0 es.length c0]]) rfl ?_;refine TL.as_ ?_;refine zET (zr ?_);have hE : KaC es a t = (bst, fnd) := by rw [List.take_of_length_le (by omega)] at hst; exact hst
 exact Kbi (k := 1) (v := .bool fnd) Tryz.results202 rfl rfl rfl Tryz.underlying110 rfl rfl (fun w1 hw => ⟨by rw [hE], hw.bel⟩)
theorem Kj9 (A0 : Option Addr) (c0 : Nat) (es : List En) (a t : Int) (w : World) (hr : Kd w w.heap.size 5 A0 es.length (Ka En.cells es)) :
  Calls Tryz.prog 130 #[.agg #[.slice A0 es.length c0], .int .u32 a, .int .i64 t] w fun e w' => e = .returned (.tuple #[.agg (Kb6 es a t).1.cells.toArray, .bool (Kb6 es a t).2]) /\ Below w.heap.size w w' := by
 refine Kg Tryz.func130 rfl rfl rfl ?_ (Pm.start w);refine zSG ?_;refine TL.bx fun g3 => ?_;refine TL.al Kaa fun g6 => ?_;refine TL.as_ ?_;refine zET (zS (zSG (TL.v (gV 1 (.agg #[.slice A0 es.length c0]) K4 KE) ?_)));refine TL.pS rfl o90 (fun w1 hw => Kgb A0 c0 es w1 (hr.up hw.bel)) (fun h9 => ?_) (fun h9 => ?_)
 ·refine TL.w rfl (KaZ rfl rfl) ?_;refine zET (zd (zk (zT (zSG (TL.v (gV 1 (.agg #[.slice A0 es.length c0]) K4 KE) ?_)))));refine TL.rn 2 rfl ?_;refine TL.p1 rfl Kh2 (fun w1 hw => KiF A0 c0 es a t w1 (hr.up hw.bel) (Nat.le_trans (KlZ h9) (by decide))) ?_;refine TL.rn 2 rfl ?_;refine TL.pstore (k := 0) (vs := (KaC es a t).1.cells) rfl rfl rfl rfl rfl rfl rfl Kq (KI.one _) (by show 5 <= 5; decide) (L' := [.blk g6 110 (KaC es a t).1.cells, .blk g3 32 [.slice A0 es.length c0]]) rfl ?_;refine TL.as_ ?_;refine zET (zr ?_);have hE : Kb6 es a t = KaC es a t := if_pos h9;exact Kbi (k := 0) (v := .bool ((KaC es a t).2)) Tryz.results130 rfl rfl rfl Tryz.underlying110 rfl rfl (fun w1 hw => ⟨by rw [hE], hw.bel⟩)
 refine TL.w rfl (KaZ rfl rfl) ?_;refine zET (zc (zSG ?_));refine TL.w rfl (Kj (v := .agg #[.int .u32 0, .int .i64 0, .int .i64 0, .int .i64 0, .int .i64 0]) rfl rfl (fun w => KjM  w)) ?_;refine TL.pstore (k := 0) (vs := [.int .u32 0, .int .i64 0, .int .i64 0, .int .i64 0, .int .i64 0]) rfl rfl rfl rfl rfl rfl rfl Kq KjP (by show 5 <= 5; decide) (L' := [.blk g6 110 [.int .u32 0, .int .i64 0, .int .i64 0, .int .i64 0, .int .i64 0], .blk g3 32 [.slice A0 es.length c0]]) rfl ?_;refine TL.as_ ?_;refine zET (zr (zR ?_));have hE : Kb6 es a t = (En.zero, false) := if_neg (by rw [h9]; decide);exact Kbi (k := 0) (v := .bool false) Tryz.results130 rfl rfl rfl Tryz.underlying110 rfl rfl (fun w1 hw => ⟨by rw [hE]; rfl, hw.bel⟩)
theorem Ke9 (A0 : Option Addr) (c0 : Nat) (es : List En) (a t : Int) (w : World) (hr : Kd w w.heap.size 5 A0 es.length (Ka En.cells es)) :
  Calls Tryz.prog 81 #[.agg #[.slice A0 es.length c0], .int .u32 a, .int .i64 t] w fun e w' => e = .returned (.int .i64 (KX es a t)) /\ Below w.heap.size w w' := by
 refine Kg Tryz.func81 rfl rfl rfl ?_ (Pm.start w);refine zSG ?_;refine TL.bx fun g3 => ?_;refine TL.as_ ?_;refine zET (zSG (TL.v (gV 0 (.agg #[.slice A0 es.length c0]) K4 KE) ?_));refine TL.rn 2 rfl ?_;refine TL.p1 rfl Kkq (fun w1 hw => Kj9 A0 c0 es a t w1 (hr.up hw.bel)) ?_;refine TL.rn 3 rfl ?_;refine TL.al Kaa fun g7 => ?_;refine TL.pstore (k := 0) (vs := (Kb6 es a t).1.cells) rfl rfl rfl rfl rfl rfl rfl Kq (KI.one _) (by show 5 <= 5; decide) (L' := [.blk g7 110 (Kb6 es a t).1.cells, .blk g3 32 [.slice A0 es.length c0]]) rfl ?_;refine TL.as_ ?_;refine zET (zSG (TL.v (gF Kcg) ?_));refine TL.v (gL 0 Kb) ?_;refine TL.as_ ?_;refine zET (zr ?_);exact Kc Tryz.results81 rfl (fun w1 hw => ⟨rfl, hw.bel⟩)
set_option maxRecDepth 20000
structure Bd where
 near : Int
 far : Int
 frm : Int
 to_ : Int
deriving DecidableEq
def Bd.cells (r : Bd) : List Value := [.int .u32 r.near, .int .u32 r.far, .int .i64 r.frm, .int .i64 r.to_]
theorem KC : Cel Bd.cells 4 := ⟨fun _ => rfl, fun r u hu => by
 simp only [Bd.cells, List.mem_cons, List.not_mem_nil, or_false] at hu;rcases hu with rfl | rfl | rfl | rfl <;> rfl⟩
def KeL (es : List En) (t a : Int) : Int := if a = 0 then 0 else KX es a t
def K0 (es : List En) (t : Int) (ps : List Int) : List Int := ps.map (KeL es t)
theorem KiU (es : List En) (t : Int) (ps : List Int) : (K0 es t ps).length = ps.length := List.length_map ..
theorem KfA {es : List En} {t : Int} {ps out : List Int} {i : Nat} {x v : Int} (hx : ps[i]? = some x) (h : K0 es t (ps.take i) = out) (hv : KeL es t x = v) : K0 es t (ps.take (i + 1)) = out ++ [v] := by
 unfold K0 at h ⊢;rw [List.take_add_one, hx, List.map_append, h];show out ++ [KeL es t x] = _;rw [hv]
def KaT (ps own : List Int) (p : Int × List Bd) (j : Nat) : Int × List Bd :=
 if own.getD j 0 = 0 then p else ((j : Int), if p.1 >= 0 /\ own.getD p.1.toNat 0 ≠ own.getD j 0 then p.2 ++ [⟨if p.1 > 0 then ps.getD (p.1.toNat - 1) 0 else 0, ps.getD j 0, own.getD p.1.toNat 0, own.getD j 0⟩] else p.2)
def Kbw (ps own : List Int) : Nat -> Int × List Bd
 | 0 => (-1, [])
 | j + 1 => KaT ps own (Kbw ps own j) j
def Kaz (es : List En) (t : Int) (ps : List Int) : List Bd := (Kbw ps (K0 es t ps) ps.length).2
def Kbe (xs : List Int) (v : Int) : Nat := xs.countP fun x => decide (x = v)
theorem Kk5 (xs : List Int) (v : Int) : Kbe xs v <= xs.length := List.countP_le_length
def KaF : List En := [⟨1, 32, 5, 0, 9⟩, ⟨2, 32, 5, 0, 9⟩, ⟨3, 32, 7, 0, 9⟩, ⟨4, 32, 7, 0, 9⟩]
theorem Kbf (w : World) : (sizeOf 42).run Tryz.prog w = .ok 1 w := rfl
theorem Khr (a0_0 : Int) (w : World) : (Instr.buildSlice 49 1 #[(0, .int .i64 a0_0)]).run Tryz.prog w = .ok (.slice (some ⟨w.heap.size, 0, none⟩) 1 1) (w.alloc (.cells [.int .i64 a0_0].toArray 3)) := by kernel_rfl
theorem Khd : Elem Tryz.prog 49 3 1 8 := Elem.mk' Tryz.underlying49 (z := .int .i64 0) (by kernel_rfl) rfl (by omega) (by omega)
theorem Kj1 (a1_0 : Int) (a2_0 : Int) (a3_0 : Int) (w : World) : (Instr.build 44 #[(1, .int .u32 a1_0), (2, .int .i64 a2_0), (3, .int .i64 a3_0)]).run Tryz.prog w = .ok (.agg #[.int .u32 0, .int .u32 a1_0, .int .i64 a2_0, .int .i64 a3_0]) w := by kernel_rfl
theorem Kgq (w : World) : (zeroValue 44).run Tryz.prog w = .ok (.agg #[.int .u32 0, .int .u32 0, .int .i64 0, .int .i64 0]) w := rfl
theorem Kx (w : World) : (sizeOf 44).run Tryz.prog w = .ok 4 w := rfl
theorem KeR : FA Tryz.prog 44 0 0 := fun g o w => by kernel_rfl
theorem K9 (w : World) : (isAgg 44).run Tryz.prog w = .ok true w := rfl
theorem KgP (a0_0 : Int) (a0_1 : Int) (a0_2 : Int) (a0_3 : Int) (w : World) : (Instr.buildSlice 34 1 #[(0, .agg #[.int .u32 a0_0, .int .u32 a0_1, .int .i64 a0_2, .int .i64 a0_3])]).run Tryz.prog w = .ok (.slice (some ⟨w.heap.size, 0, none⟩) 1 1) (w.alloc (.cells [.int .u32 a0_0, .int .u32 a0_1, .int .i64 a0_2, .int .i64 a0_3].toArray 44)) := by kernel_rfl
theorem Kex : Elem Tryz.prog 34 44 4 24 := Elem.mk' Tryz.underlying34 (z := .agg #[.int .u32 0, .int .u32 0, .int .i64 0, .int .i64 0]) (by kernel_rfl) rfl (by omega) (by omega)
theorem KbI (w : World) : (zeroValue 32).run Tryz.prog w = .ok (.agg #[.slice none 0 0]) w := rfl
theorem Kda (a0_0 : Int) (a1_0 : Int) (w : World) : (Instr.build 108 #[(0, .int .u32 a0_0), (1, .int .i64 a1_0)]).run Tryz.prog w = .ok (.agg #[.int .u32 a0_0, .int .i64 a1_0]) w := by kernel_rfl
theorem KdB (a0_0 : Int) (a0_1 : Int) (a1_0 : Int) (a3_0 : Int) (w : World) : (Instr.build 110 #[(0, .agg #[.int .u32 a0_0, .int .i64 a0_1]), (1, .int .i64 a1_0), (3, .int .i64 a3_0)]).run Tryz.prog w = .ok (.agg #[.int .u32 a0_0, .int .i64 a0_1, .int .i64 a1_0, .int .i64 0, .int .i64 a3_0]) w := by kernel_rfl
theorem KjF (a0_0 : Int) (a0_1 : Int) (a0_2 : Int) (a0_3 : Int) (a0_4 : Int) (a1_0 : Int) (a1_1 : Int) (a1_2 : Int) (a1_3 : Int) (a1_4 : Int) (a2_0 : Int) (a2_1 : Int) (a2_2 : Int) (a2_3 : Int) (a2_4 : Int) (a3_0 : Int) (a3_1 : Int) (a3_2 : Int) (a3_3 : Int) (a3_4 : Int) (w : World) : (Instr.buildSlice 30 4 #[(0, .agg #[.int .u32 a0_0, .int .i64 a0_1, .int .i64 a0_2, .int .i64 a0_3, .int .i64 a0_4]), (1, .agg #[.int .u32 a1_0, .int .i64 a1_1, .int .i64 a1_2, .int .i64 a1_3, .int .i64 a1_4]), (2, .agg #[.int .u32 a2_0, .int .i64 a2_1, .int .i64 a2_2, .int .i64 a2_3, .int .i64 a2_4]), (3, .agg #[.int .u32 a3_0, .int .i64 a3_1, .int .i64 a3_2, .int .i64 a3_3, .int .i64 a3_4])]).run Tryz.prog w = .ok (.slice (some ⟨w.heap.size, 0, none⟩) 4 4) (w.alloc (.cells [.int .u32 a0_0, .int .i64 a0_1, .int .i64 a0_2, .int .i64 a0_3, .int .i64 a0_4, .int .u32 a1_0, .int .i64 a1_1, .int .i64 a1_2, .int .i64 a1_3, .int .i64 a1_4, .int .u32 a2_0, .int .i64 a2_1, .int .i64 a2_2, .int .i64 a2_3, .int .i64 a2_4, .int .u32 a3_0, .int .i64 a3_1, .int .i64 a3_2, .int .i64 a3_3, .int .i64 a3_4].toArray 110)) := by kernel_rfl
theorem Keu (a0_0 : Option Addr) (a0_0n a0_0c : Nat) (w : World) : (Instr.build 32 #[(0, .slice a0_0 a0_0n a0_0c)]).run Tryz.prog w = .ok (.agg #[.slice a0_0 a0_0n a0_0c]) w := by kernel_rfl
theorem Kb9 {a0 : Option Addr} {n0 c0 : Nat} : ∀ u ∈ [(.slice a0 n0 c0 : Value)], u.oneCell' = true := by
 intro u hu;rw [List.mem_singleton] at hu;subst hu; rfl
theorem Kfz (A1 : Option Addr) (c1 : Nat) (ps : List Int) (A0 : Option Addr) (c0 : Nat) (es : List En) (t : Int) (w : World) (hr1 : Kd w w.heap.size 1 A1 ps.length (Ka (ic .u32) ps)) (hl1 : ps.length <= 100000) (hr : Kd w w.heap.size 5 A0 es.length (Ka En.cells es)) :
  Calls Tryz.prog 32 #[.slice A1 ps.length c1, .agg #[.slice A0 es.length c0], .int .i64 t] w fun e w' => ∃ x : {p : Option Addr × Nat // (K0 es t ps).length <= p.2 /\ p.2 <= maxLen}, e = .returned (.slice x.1.1 (K0 es t ps).length x.1.2) /\ Pm w [.row (.slice x.1.1 (K0 es t ps).length x.1.2) 3 1 (K0 es t ps).length (Ka (ic .i64) (K0 es t ps))] w' := by
 refine Kg Tryz.func32 rfl rfl rfl ?_ (Pm.start w);refine zSG ?_;refine TL.bx fun g4 => ?_;refine TL.as_ ?_;refine zET (zSG (TL.as_ ?_));refine zET (zS (zSG (TL.mv ?_)));refine TL.v (gN Tryz.underlying70) ?_;refine TL.mv ?_;refine zET (zB (TC.nilrow 3 1 ?_));refine TC.lp (α := {y : Nat × (Option Addr × Nat) × List Int // y.1 <= ps.length /\ K0 es t (ps.take y.1) = y.2.2 /\ y.2.2.length = y.1 /\ y.2.2.length <= y.2.1.2 /\ y.2.1.2 <= maxLen}) [2, 4, 11, 12] rfl (fun y => [(13, .int .i64 ((y.1.1 : Nat) : Int)), (7, .slice y.1.2.1.1 y.1.2.2.length y.1.2.1.2)]) (fun y => Pm w [.row (.slice y.1.2.1.1 y.1.2.2.length y.1.2.1.2) 3 1 y.1.2.2.length (Ka (ic .i64) y.1.2.2), .blk g4 32 [.slice A0 es.length c0]]) (fun y => ps.length - y.1.1) (⟨(0, (none, 0), []), Nat.zero_le _, rfl, rfl, Nat.le_refl _, Nat.zero_le _⟩) (fun w1 hw => hw) ?_;rintro ⟨⟨i, ⟨Ao, co⟩, out⟩, hi, hown, hol, hoc, hom⟩;dsimp only at hi hown hol hoc hom ⊢;refine zSG ?_;refine TL.sp Km (fun q14 => ?_) (fun q14 => ?_)
 ·refine zET (zS (zc (zk (zT (zS (zB (zSG ?_)))))));have hi15 : i < ps.length := by omega
  obtain ⟨x15, hx15⟩ := Ko hi15;obtain ⟨b15, o15, hA15, hbb15, hc15⟩ := hr1.ad (by omega) (by decide);refine TL.w rfl (gA (i := i) Tryz.underlying70 Kbf rfl rfl rfl rfl hA15 (by omega)) ?_;refine TL.w rfl (KK (v := .int .u32 x15) rfl rfl Kv (fun w1 hw => (hw.bel.cell hbb15).trans <| Ka4 (KO .u32) hx15 hc15 0 _ rfl)) ?_;refine TL.as_ ?_;refine zET (zSG (TL.as_ ?_));refine zET (zS (zSG (TL.mv ?_)));refine TL.sp K1 (fun q18 => ?_) (fun q18 => ?_)
  ·refine zET (zc (zG (TL.v (gV 1 (.agg #[.slice A0 es.length c0]) K4 KE) ?_)));refine TL.rn 2 rfl ?_;refine TL.p1 rfl o81 (fun w1 hw => Ke9 A0 c0 es x15 t w1 (hr.up hw.bel)) ?_;refine TL.as_ ?_;refine zET (zG (TL.rn 2 rfl ?_));refine TL.prowS (e := 3) (size := 1) (cs := Ka (ic .i64) [KX es x15 t]) rfl rfl rfl rfl rfl (fun w => Khr _ w) (by decide) rfl (fun g25 => ?_);refine TL.appendT (k := 1) rfl rfl rfl rfl Tryz.underlying49 Khd rfl rfl rfl (fun w1 hw => KL hw (k := 0) rfl) (KB (KO .i64) _) (by show _ * 8 <= _; omega) ((out ++ [KX es x15 t]).length) (by rw [List.length_append]; rfl) (Ka (ic .i64) (out ++ [KX es x15 t])) ((KF _ _).symm) (fun A26 c26 hA261 hA262 => ?_);refine TL.as_ ?_;refine zE (zN (zT (zG (TL.v (gD ((i + 1 : Nat) : Int)) ?_))));refine TL.mv ?_;refine zE ?_;exact TX.rd (⟨(i + 1, (A26, c26), out ++ [KX es x15 t]), by dsimp only; omega, KfA hx15 hown (if_neg q18), by dsimp only; rw [List.length_append]; show out.length + 1 = _; omega, hA261, hA262⟩) (by show ps.length - (i + 1) < ps.length - i; omega) (fun w1 hw => hw.pk [1, 2])
  refine zET (zd (zk (zT (zG (TL.rn 2 rfl ?_)))));refine TL.prowS (e := 3) (size := 1) (cs := Ka (ic .i64) [0]) rfl rfl rfl rfl rfl (fun w => Khr _ w) (by decide) rfl (fun g25 => ?_);refine TL.appendT (k := 1) rfl rfl rfl rfl Tryz.underlying49 Khd rfl rfl rfl (fun w1 hw => KL hw (k := 0) rfl) (KB (KO .i64) _) (by show _ * 8 <= _; omega) ((out ++ [0]).length) (by rw [List.length_append]; rfl) (Ka (ic .i64) (out ++ [0])) ((KF _ _).symm) (fun A26 c26 hA261 hA262 => ?_);refine TL.as_ ?_;refine zE (zN (zT (zG (TL.v (gD ((i + 1 : Nat) : Int)) ?_))));refine TL.mv ?_;refine zE ?_;exact TX.rd (⟨(i + 1, (A26, c26), out ++ [0]), by dsimp only; omega, KfA hx15 hown (if_pos (Decidable.not_not.1 q18)), by dsimp only; rw [List.length_append]; show out.length + 1 = _; omega, hA261, hA262⟩) (by show ps.length - (i + 1) < ps.length - i; omega) (fun w1 hw => hw.pk [1, 2])
 refine zET (zS (zd (zx (zX (zX (zM (zT (zSG (TL.rn 2 rfl (zET (zr ?_)))))))))));have hE : out = K0 es t ps := by rw [List.take_of_length_le (by omega)] at hown; exact hown.symm
 subst hE;exact Kc Tryz.results32 rfl (fun w1 hw => ⟨⟨(Ao, co), hoc, hom⟩, rfl, hw.pick [0] (by decide) rfl⟩)
theorem Khe (A1 : Option Addr) (c1 : Nat) (ps : List Int) (A0 : Option Addr) (c0 : Nat) (es : List En) (t : Int) (w : World) (hr1 : Kd w w.heap.size 1 A1 ps.length (Ka (ic .u32) ps)) (hl1 : ps.length <= 100000) (hr : Kd w w.heap.size 5 A0 es.length (Ka En.cells es)) :
  Calls Tryz.prog 30 #[.slice A1 ps.length c1, .agg #[.slice A0 es.length c0], .int .i64 t] w fun e w' => ∃ x : {p : Option Addr × Nat // (Kaz es t ps).length <= p.2 /\ p.2 <= maxLen}, e = .returned (.slice x.1.1 (Kaz es t ps).length x.1.2) /\ Pm w [.row (.slice x.1.1 (Kaz es t ps).length x.1.2) 44 4 (Kaz es t ps).length (Ka Bd.cells (Kaz es t ps))] w' := by
 refine Kg Tryz.func30 rfl rfl rfl ?_ (Pm.start w);refine zSG ?_;refine TL.bx fun g4 => ?_;refine TL.as_ ?_;refine zET (zSG (TL.as_ ?_));refine zET (zSG (TL.as_ ?_));refine zET (zSG (TL.mv ?_));refine TL.v (gV 0 (.agg #[.slice A0 es.length c0]) K4 KE) ?_;refine TL.mv ?_;refine TL.pM _ _ rfl o32 (fun w1 hw => Kfz A1 c1 ps A0 c0 es t w1 (hr1.up hw.bel) hl1 (hr.up hw.bel)) ?_;rintro ⟨⟨R16, rc16⟩, hR161, hR162⟩;dsimp only [lC, lN];refine TL.as_ ?_;refine zET (zS (zSG (TL.mv ?_)));refine TL.v (gN Tryz.underlying49) ?_;refine TL.mv ?_;refine zET (zB ?_);have hof := KiU es t ps;refine TC.nilrow 44 4 ?_;refine TC.lp (α := {y : Nat × Int × (Option Addr × Nat) × List Bd // y.1 <= ps.length /\ (-1 <= y.2.1 /\ y.2.1 < y.1) /\ Kbw ps (K0 es t ps) y.1 = (y.2.1, y.2.2.2) /\ y.2.2.2.length <= y.1 /\ y.2.2.2.length <= y.2.2.1.2 /\ y.2.2.1.2 <= maxLen}) [0, 9, 17, 18] rfl (fun y => [(19, .int .i64 ((y.1.1 : Nat) : Int)), (8, .int .i64 y.1.2.1), (7, .slice y.1.2.2.1.1 y.1.2.2.2.length y.1.2.2.1.2)]) (fun y => Pm w [.row (.slice y.1.2.2.1.1 y.1.2.2.2.length y.1.2.2.1.2) 44 4 y.1.2.2.2.length (Ka Bd.cells y.1.2.2.2), .row (.slice R16 ((K0 es t ps).length) rc16) 3 1 ((K0 es t ps).length) (Ka (ic .i64) (K0 es t ps)), .blk g4 32 [.slice A0 es.length c0]]) (fun y => ps.length - y.1.1) (⟨(0, -1, (none, 0), []), Nat.zero_le _, by decide, rfl, Nat.le_refl _, Nat.le_refl _, Nat.zero_le _⟩) (fun w1 hw => hw) ?_;rintro ⟨⟨i, z, ⟨Ao, co⟩, out⟩, hi, hz, hst, hol, hoc, hom⟩;dsimp only at hi hz hst hol hoc hom ⊢;refine zSG ?_;refine TL.sp Km (fun q20 => ?_) (fun q20 => ?_)
 ·refine zET (zS (zc (zk (zT (zS (zB (zSG (TL.mv ?_))))))));refine TL.fact (p := ∃ g, R16 = some ⟨g, 0, none⟩) (fun w1 hw => Kak hw (k := 1) rfl (by omega)) ?_;rintro ⟨g_R16, rfl⟩;have hi22 : i < (K0 es t ps).length := by omega
  obtain ⟨x22, hx22⟩ := Ko hi22;refine TL.w rfl (gA (i := i) Tryz.underlying49 KN rfl rfl rfl rfl rfl (by omega)) ?_;refine TL.w rfl (KK (v := .int .i64 x22) rfl rfl Kb (fun w1 hw => Ku (KO .i64) hw (q := 1) rfl hx22 0 _ rfl)) ?_;refine TL.rn 2 rfl (zET (zS (zSG (TL.mv ?_))));refine TL.sp Kab (fun q25 => ?_) (fun q25 => ?_)
  ·refine zET (zc (zx (zX (zM (zT (zG (TL.v (gD ((i + 1 : Nat) : Int)) ?_)))))));refine TL.mv ?_;refine zE ?_;exact TX.rd (⟨(i + 1, z, (Ao, co), out), by dsimp only; omega, by dsimp only; omega, by show KaT _ _ (Kbw _ _ i) i = _; rw [hst]; simp [KaT, List.getD_eq_getElem?_getD, hx22, q20, q25], by dsimp only; omega, hoc, hom⟩) (by show ps.length - (i + 1) < ps.length - i; omega) (fun w1 hw => hw)
  refine zET (zd (zk (zT (zS (zSG (TL.mv ?_))))));refine TL.sp Ka1 (fun q27 => ?_) (fun q27 => ?_)
  ·obtain ⟨m, rfl⟩ := Int.eq_ofNat_of_zero_le q27;refine TL.rn 3 rfl (TL.gu ?_);have hi31 : m < (K0 es t ps).length := by omega
   obtain ⟨x31, hx31⟩ := Ko hi31;refine TL.w rfl (gA (i := m) Tryz.underlying49 KN rfl rfl rfl rfl rfl (by omega)) ?_;refine TL.gu ?_;refine TL.w rfl (KK (v := .int .i64 x31) rfl rfl Kb (fun w1 hw => Ku (KO .i64) hw (q := 1) rfl hx31 0 _ rfl)) ?_;refine TL.rn 1 rfl (TL.gu ?_);refine TL.sp K1 (fun q34 => ?_) (fun q34 => ?_)
   ·refine TL.pk ?_;refine zET (zc (zS (TC.hd 12 (Pm w [.row (.slice (some ⟨g_R16, 0, none⟩) ((K0 es t ps).length) rc16) 3 1 ((K0 es t ps).length) (Ka (ic .i64) (K0 es t ps))]) (fun w1 hw => hw.pk [1]) fun jS => ?_)));refine TH.t 0 rfl (Kk rfl rfl) jS ?_;refine TH.t 1 rfl (Kk rfl rfl) jS ?_;have hi38 : i < ps.length := by omega
    obtain ⟨x38, hx38⟩ := Ko hi38;obtain ⟨b38, o38, hA38, hbb38, hc38⟩ := hr1.ad (by omega) (by decide);refine TH.tk 2 rfl rfl rfl (gA (i := i) Tryz.underlying70 Kbf rfl rfl rfl rfl hA38 (by omega)) (fun w1 hw => hw.pk [1]) ?_;refine TH.tk 3 rfl rfl rfl (KK (v := .int .u32 x38) rfl rfl Kv (fun w1 hw => (hw.bel.cell hbb38).trans <| Ka4 (KO .u32) hx38 hc38 0 _ rfl)) (fun w1 hw => hw.pk [1]) ?_;refine TH.tk 4 rfl rfl rfl (Kk rfl rfl) (fun w1 hw => hw.pk [1]) ?_;refine TH.tk 5 rfl rfl rfl (Kk rfl rfl) (fun w1 hw => hw.pk [1]) ?_;refine TH.tk 6 rfl rfl rfl (gA (i := m) Tryz.underlying49 KN rfl rfl rfl rfl rfl (by omega)) (fun w1 hw => hw.pk [1]) ?_;refine TH.tk 7 rfl rfl rfl (KK (v := .int .i64 x31) rfl rfl Kb (fun w1 hw => Ku (KO .i64) hw (q := 0) rfl hx31 0 _ rfl)) (fun w1 hw => hw.pk [1]) ?_;refine TH.tk 8 rfl rfl rfl (Kk rfl rfl) (fun w1 hw => hw.pk [1]) ?_;refine TH.tk 9 rfl rfl rfl (Kj (v := .agg #[.int .u32 0, .int .u32 x38, .int .i64 x31, .int .i64 x22]) rfl rfl (fun w => Kj1 _ _ _ w)) (fun w1 hw => hw.pk [1]) ?_;refine TH.o 10 ?_;refine TL.al Kgq fun g12 => ?_;refine zE ?_;refine TX.held (fun w1 hw => hw.pk [2]) ?_;refine TH.o 11 ?_;refine TL.ps 0 Kx ?_;refine zE ?_;refine TX.held (fun w1 hw => hw.pk [2]) ?_;refine TH.done (by kernel_rfl) ?_;refine zT (zS (zSG (TL.mv ?_)));refine TL.sp KP (fun q47 => ?_) (fun q47 => ?_)
    ·have hm0 : ¬ m = 0 := by omega
     refine zET (zc (zG (TL.rn 2 rfl ?_)));refine TL.w rfl (Kn rfl rfl rfl (fun w => K2 (r := ((m - 1 : Nat) : Int)) (by simp only [IntKind.wrap_i64]; omega) w)) ?_;have hi51 : m - 1 < ps.length := by omega
     obtain ⟨x51, hx51⟩ := Ko hi51;obtain ⟨b51, o51, hA51, hbb51, hc51⟩ := hr1.ad (by omega) (by decide);refine TL.w rfl (gA (i := (m - 1)) Tryz.underlying70 Kbf rfl rfl rfl rfl hA51 (by omega)) ?_;refine TL.w rfl (KK (v := .int .u32 x51) rfl rfl Kv (fun w1 hw => (hw.bel.cell hbb51).trans <| Ka4 (KO .u32) hx51 hc51 0 _ rfl)) ?_;refine TL.v (gF KeR) ?_;refine TL.ps 0 Kbf ?_;refine zET (zG (TL.mv ?_));refine TL.v (gV 0 (.agg #[.int .u32 x51, .int .u32 x38, .int .i64 x31, .int .i64 x22]) K9 Kx) ?_;refine TL.prowS (e := 44) (size := 4) (cs := Ka Bd.cells [(⟨x51, x38, x31, x22⟩ : Bd)]) rfl rfl rfl rfl rfl (fun w => KgP _ _ _ _ w) (by decide) rfl (fun g56 => ?_);refine TL.appendT (k := 2) rfl rfl rfl rfl Tryz.underlying34 Kex rfl rfl rfl (fun w1 hw => KL hw (k := 0) rfl) (KB KC _) (by show _ * 24 <= _; omega) ((out ++ [(⟨x51, x38, x31, x22⟩ : Bd)]).length) (by rw [List.length_append]; rfl) (Ka Bd.cells (out ++ [(⟨x51, x38, x31, x22⟩ : Bd)])) ((KF _ _).symm) (fun A57 c57 hA571 hA572 => ?_);refine TL.as_ ?_;refine zET (zG (TL.rn 2 rfl (zE (zN (zT (zG (TL.v (gD ((i + 1 : Nat) : Int)) ?_)))))));refine TL.mv ?_;refine zE ?_;exact TX.rd (⟨(i + 1, ((i : Nat) : Int), (A57, c57), out ++ [(⟨x51, x38, x31, x22⟩ : Bd)]), by dsimp only; omega, by dsimp only; omega, by show KaT _ _ (Kbw _ _ i) i = _; rw [hst]; simp [KaT, List.getD_eq_getElem?_getD, hx22, hx31, hx38, hx51, q20, q25, q27, q34, q47, hm0], by dsimp only; rw [List.length_append]; show _ + 1 <= _; omega, hA571, hA572⟩) (by show ps.length - (i + 1) < ps.length - i; omega) (fun w1 hw => hw.pk [2, 3, 4])
    have hmz : m = 0 := by omega
    refine zET (zd (zk (zT (zG (TL.mv ?_)))));refine TL.v (gV 0 (.agg #[.int .u32 0, .int .u32 x38, .int .i64 x31, .int .i64 x22]) K9 Kx) ?_;refine TL.prowS (e := 44) (size := 4) (cs := Ka Bd.cells [(⟨0, x38, x31, x22⟩ : Bd)]) rfl rfl rfl rfl rfl (fun w => KgP _ _ _ _ w) (by decide) rfl (fun g56 => ?_);refine TL.appendT (k := 2) rfl rfl rfl rfl Tryz.underlying34 Kex rfl rfl rfl (fun w1 hw => KL hw (k := 0) rfl) (KB KC _) (by show _ * 24 <= _; omega) ((out ++ [(⟨0, x38, x31, x22⟩ : Bd)]).length) (by rw [List.length_append]; rfl) (Ka Bd.cells (out ++ [(⟨0, x38, x31, x22⟩ : Bd)])) ((KF _ _).symm) (fun A57 c57 hA571 hA572 => ?_);refine TL.as_ ?_;refine zET (zG (TL.rn 2 rfl (zE (zN (zT (zG (TL.v (gD ((i + 1 : Nat) : Int)) ?_)))))));refine TL.mv ?_;refine zE ?_;exact TX.rd (⟨(i + 1, ((i : Nat) : Int), (A57, c57), out ++ [(⟨0, x38, x31, x22⟩ : Bd)]), by dsimp only; omega, by dsimp only; omega, by show KaT _ _ (Kbw _ _ i) i = _; rw [hst]; subst hmz; simp [KaT, List.getD_eq_getElem?_getD, hx22, hx31, hx38, q20, q25, q27, q34, q47], by dsimp only; rw [List.length_append]; show _ + 1 <= _; omega, hA571, hA572⟩) (by show ps.length - (i + 1) < ps.length - i; omega) (fun w1 hw => hw.pk [2, 3, 4])
   refine TL.pk ?_;refine zET (zd (zk (zT (zG (TL.rn 2 rfl (zE (zN (zT (zG (TL.v (gD ((i + 1 : Nat) : Int)) ?_))))))))));refine TL.mv ?_;refine zE ?_;exact TX.rd (⟨(i + 1, ((i : Nat) : Int), (Ao, co), out), by dsimp only; omega, by dsimp only; omega, by show KaT _ _ (Kbw _ _ i) i = _; rw [hst]; simp [KaT, List.getD_eq_getElem?_getD, hx22, hx31, q20, q25, q27, q34], by dsimp only; omega, hoc, hom⟩) (by show ps.length - (i + 1) < ps.length - i; omega) (fun w1 hw => hw)
  refine TL.rn 8 rfl (zET (zd (zk (zT (zG (TL.rn 2 rfl (zE (zN (zT (zG (TL.v (gD ((i + 1 : Nat) : Int)) ?_)))))))))));refine TL.mv ?_;refine zE ?_;exact TX.rd (⟨(i + 1, ((i : Nat) : Int), (Ao, co), out), by dsimp only; omega, by dsimp only; omega, by show KaT _ _ (Kbw _ _ i) i = _; rw [hst]; simp [KaT, List.getD_eq_getElem?_getD, hx22, q20, q25, q27], by dsimp only; omega, hoc, hom⟩) (by show ps.length - (i + 1) < ps.length - i; omega) (fun w1 hw => hw)
 refine zET (zS (zd (zx (zX (zX (zM (zT (zSG (TL.rn 2 rfl (zET (zr ?_)))))))))));have hE : out = Kaz es t ps := by have e9 : i = ps.length := (by omega); unfold Kaz; rw [<- e9, hst]
 subst hE;exact Kc Tryz.results30 rfl (fun w1 hw => ⟨⟨(Ao, co), hoc, hom⟩, rfl, hw.pick [0] (by decide) rfl⟩)
theorem Kdk  (w : World) :
  Calls Tryz.prog 31 #[] w fun e w' => ∃ g : Nat, e = .returned (.agg #[.slice (some ⟨g, 0, none⟩) 4 4]) /\ Pm w [.row (.slice (some ⟨g, 0, none⟩) 4 4) 110 5 4 (Ka En.cells KaF)] w' := by
 refine Kg Tryz.func31 rfl rfl rfl ?_ (Pm.start w);refine zSG ?_;refine TL.al KbI fun g0 => ?_;refine zET (zSG ?_);refine TL.w rfl (Kj (v := .agg #[.int .u32 1, .int .i64 32]) rfl rfl (fun w => Kda _ _ w)) ?_;refine TL.w rfl (Kj (v := .agg #[.int .u32 1, .int .i64 32, .int .i64 5, .int .i64 0, .int .i64 9]) rfl rfl (fun w => KdB _ _ _ _ w)) ?_;refine TL.w rfl (Kj (v := .agg #[.int .u32 2, .int .i64 32]) rfl rfl (fun w => Kda _ _ w)) ?_;refine TL.w rfl (Kj (v := .agg #[.int .u32 2, .int .i64 32, .int .i64 5, .int .i64 0, .int .i64 9]) rfl rfl (fun w => KdB _ _ _ _ w)) ?_;refine TL.w rfl (Kj (v := .agg #[.int .u32 3, .int .i64 32]) rfl rfl (fun w => Kda _ _ w)) ?_;refine TL.w rfl (Kj (v := .agg #[.int .u32 3, .int .i64 32, .int .i64 7, .int .i64 0, .int .i64 9]) rfl rfl (fun w => KdB _ _ _ _ w)) ?_;refine TL.w rfl (Kj (v := .agg #[.int .u32 4, .int .i64 32]) rfl rfl (fun w => Kda _ _ w)) ?_;refine TL.w rfl (Kj (v := .agg #[.int .u32 4, .int .i64 32, .int .i64 7, .int .i64 0, .int .i64 9]) rfl rfl (fun w => KdB _ _ _ _ w)) ?_;refine TL.prowS (e := 110) (size := 5) (cs := Ka En.cells KaF) rfl rfl rfl rfl rfl (fun w => KjF _ _ _ _ _ _ _ _ _ _ _ _ _ _ _ _ _ _ _ _ w) (by decide) rfl (fun g9 => ?_);refine TL.w rfl (Kj (v := .agg #[.slice (some ⟨g9, 0, none⟩) 4 4]) rfl rfl (fun w => Keu _ _ _ w)) ?_;refine TL.ps 1 KE ?_;refine zET (zr ?_);exact Kb0 (k := 1) Tryz.results31 rfl rfl Tryz.underlying32 rfl rfl (fun w1 hw => ⟨g9, rfl, hw.pick [0] (by decide) rfl⟩)
theorem Kku (A0 : Option Addr) (c0 : Nat) (xs : List Int) (A1 : Option Addr) (c1 : Nat) (ys : List Int) (w : World) (hr : Kd w w.heap.size 1 A0 xs.length (Ka (ic .i64) xs)) (hl1 : xs.length <= 100000) (hr1 : Kd w w.heap.size 1 A1 ys.length (Ka (ic .i64) ys)) (hl2 : ys.length <= 100000) :
  Calls Tryz.prog 33 #[.slice A0 xs.length c0, .slice A1 ys.length c1] w fun e w' => e = .returned (.bool (decide (xs = ys))) /\ Below w.heap.size w w' := by
 refine Kg Tryz.func33 rfl rfl rfl ?_ (Pm.start w);refine zSG (TL.as_ ?_);refine zET (zS (zSG (TL.mv ?_)));refine TL.v (gN Tryz.underlying49) ?_;refine TL.mv ?_;refine TL.v (gN Tryz.underlying49) ?_;refine TL.sp K1 (fun q10 => ?_) (fun q10 => ?_)
 ·refine zET (zc (zSG (TL.as_ ?_)));refine zET (zr (zR ?_));have hE : decide (xs = ys) = false := decide_eq_false (fun hh => q10 (by rw [hh]));exact Kc Tryz.results33 rfl (fun w1 hw => ⟨by rw [hE], hw.bel⟩)
 have hll : xs.length = ys.length := by omega
 refine zET (zd (zk (zT (zS (zSG (TL.as_ ?_))))));refine zET (zB (TC.lp (α := {i : Nat // i <= xs.length /\ xs.take i = ys.take i}) [0, 1] rfl (fun y => [(5, .int .i64 ((y.1 : Nat) : Int))]) (fun y => Pm w []) (fun y => xs.length - y.1) (⟨0, Nat.zero_le _, rfl⟩) (fun w1 hw => hw) ?_));rintro ⟨i, hi, ht⟩;dsimp only at hi ht ⊢;refine zS (zSG (TL.rn 2 rfl (TL.v (gN Tryz.underlying49) ?_)));refine TL.sp Km (fun q14 => ?_) (fun q14 => ?_)
 ·refine zET (zc (zk (zT (zS (zB (zS (TC.quietQ (by kernel_rfl) (by kernel_rfl) (fun w hw => hw.drawn _) ?_)))))));refine TQ.rn 2 rfl ?_;have hi19 : i < xs.length := by omega
  obtain ⟨x19, hx19⟩ := Ko hi19;obtain ⟨b19, o19, hA19, hbb19, hc19⟩ := hr.ad (by omega) (by decide);refine TQ.w rfl (gA (i := i) Tryz.underlying49 KN rfl rfl rfl rfl hA19 (by omega)) ?_;refine TQ.w rfl (KK (v := .int .i64 x19) rfl rfl Kb (fun w1 hw => (hw.bel.cell hbb19).trans <| Ka4 (KO .i64) hx19 hc19 0 _ rfl)) ?_;refine TQ.rn 2 rfl ?_;have hi23 : i < ys.length := by omega
  obtain ⟨x23, hx23⟩ := Ko hi23;obtain ⟨b23, o23, hA23, hbb23, hc23⟩ := hr1.ad (by omega) (by decide);refine TQ.w rfl (gA (i := i) Tryz.underlying49 KN rfl rfl rfl rfl hA23 (by omega)) ?_;refine TQ.w rfl (KK (v := .int .i64 x23) rfl rfl Kb (fun w1 hw => (hw.bel.cell hbb23).trans <| Ka4 (KO .i64) hx23 hc23 0 _ rfl)) ?_;refine TQ.sp K1 (fun q25 => ?_) (fun q25 => ?_)
  ·refine TQ.fin ?_;refine zT (zc (zSG (TL.as_ ?_)));refine zET (zr (zRR (zR (zRR ?_))));have hE : decide (xs = ys) = false := decide_eq_false (fun hh => q25 (by subst hh; rw [hx19] at hx23; injection hx23));exact Kc Tryz.results33 rfl (fun w1 hw => ⟨by rw [hE], hw.bel⟩)
  refine TQ.fin ?_;refine zT (zd (zk (zN (zT (zG (TL.mv ?_))))));refine TL.v (gD ((i + 1 : Nat) : Int)) ?_;refine TL.as_ ?_;refine zE ?_;exact TX.rd (⟨i + 1, by omega, by rw [List.take_add_one, List.take_add_one, hx19, hx23, ht, Decidable.not_not.1 q25]⟩) (by show xs.length - (i + 1) < xs.length - i; omega) (fun w1 hw => hw)
 refine zET (zd (zx (zX (zX (zM (zT (zSG (TL.as_ ?_))))))));refine zET (zr ?_);have hE : decide (xs = ys) = true := decide_eq_true (by rw [List.take_of_length_le (by omega), List.take_of_length_le (by omega)] at ht; exact ht);exact Kc Tryz.results33 rfl (fun w1 hw => ⟨by rw [hE], hw.bel⟩)
set_option maxRecDepth 20000
theorem Kjh (r : Rs) (w : World) :
  Calls Tryz.prog 92 #[.agg r.cells.toArray] w fun e w' => e = .returned (.bool (!Ks r)) /\ Below w.heap.size w w' := by
 refine Kg Tryz.func92 rfl rfl rfl ?_ (Pm.start w);refine zSG ?_;refine TL.bx fun g1 => ?_;refine TL.as_ ?_;refine zET (zSG (TL.v (gV 0 (.agg (r.cells).toArray) KG Ki) ?_));refine TL.pS rfl o93 (fun w1 hw => KcK r w1) (fun h4 => ?_) (fun h4 => ?_)
 ·refine TL.rn 2 rfl (zET (zr ?_));have hE : (!Ks r) = false := (by simp [Bool.not_eq_true, h4]);exact Kc Tryz.results92 rfl (fun w1 hw => ⟨by rw [hE]; try rfl, hw.bel⟩)
 refine TL.rn 2 rfl (zET (zr ?_));have hE : (!Ks r) = true := (by simp [Bool.not_eq_true, h4]);exact Kc Tryz.results92 rfl (fun w1 hw => ⟨by rw [hE]; try rfl, hw.bel⟩)
theorem KkW (A0 : Option Addr) (c0 : Nat) (l : List Rs) (A1 : Option Addr) (c1 : Nat) (es : List En) (w : World) (hr : Kd w w.heap.size 17 A0 l.length (Ka Rs.cells l)) (hl1 : l.length <= 100000) (hok : ∀ r ∈ l, r.Ok) (hv : ∀ r ∈ l, Ks r = true) (hl9 : l.length <= 100) (hr1 : Kd w w.heap.size 5 A1 es.length (Ka En.cells es)) (hes : KA es = true) :
  Calls Tryz.prog 40 #[.slice A0 l.length c0, .agg #[.slice A1 es.length c1]] w fun e w' => e = .returned (.int .i64 0) /\ Below w.heap.size w w' := by
 refine Kg Tryz.func40 rfl rfl rfl ?_ (Pm.start w);refine zSG ?_;refine TL.bx fun g3 => ?_;refine TL.as_ ?_;refine zET (zS (zB (zSG (TL.v (gV 0 (.agg #[.slice A1 es.length c1]) K4 KE) ?_))));refine TL.pS rfl o90 (fun w1 hw => Kgb A1 c1 es w1 (hr1.up hw.bel)) (fun h7 => ?_) (fun h7 => ?_)
 ·refine TL.rn 3 rfl (TL.gu ?_);refine TL.pS rfl o91 (fun w1 hw => KgB A0 c0 l (fun r : Rs => !Ks r) 92 _ #[] w1 (hr.up hw.bel) hl1 Tryz.func92 (by decide) rfl (fun x w2 hb => Kjh x w2)) (fun h11 => ?_) (fun h11 => ?_)
  ·exfalso; rw [List.any_eq_true] at h11; obtain ⟨r, hr9, h9⟩ := h11; rw [hv r hr9] at h9; cases h9
  refine TL.rn 2 rfl (zET (zd (zSG (TL.mv ?_))));refine TL.pM _ _ rfl o94 (fun w1 hw => Kfa A0 c0 l w1 (hr.up hw.bel) hl1 hok) ?_;rintro ⟨⟨⟨R15, rc15⟩, o15⟩, hP15, hR151, hR152⟩;dsimp only [lC, lN];dsimp only at hP15 hR151 hR152 ⊢;refine TL.v (gN Tryz.underlying27) ?_;refine TL.sp KP (fun q17 => ?_) (fun q17 => ?_)
  ·exfalso; have h9 := hP15.le; omega
  refine TL.as_ ?_;refine zET (zd (zk (zN (zT (zSG (TL.as_ ?_))))));refine zET (zr ?_);exact Kc Tryz.results40 rfl (fun w1 hw => ⟨rfl, hw.bel⟩)
 exfalso; rw [hes] at h7; cases h7
set_option maxRecDepth 20000
theorem KfH : Tryz.prog.fieldsOf 44 = (match Tryz.prog.underlying 44 with | some (.struct fs) => fs | _ => #[]) := rfl
theorem KgE (a0 b0 : Int) (a1 b1 : Int) (a2 b2 : Int) (a3 b3 : Int) (d : Nat) (w : World) : (Op.equalIn (d + 2) 44 (.agg #[.int .u32 a0, .int .u32 a1, .int .i64 a2, .int .i64 a3]) (.agg #[.int .u32 b0, .int .u32 b1, .int .i64 b2, .int .i64 b3])).run Tryz.prog w = .ok (decide (a0 = b0 /\ a1 = b1 /\ a2 = b2 /\ a3 = b3)) w := by
  rw [run_equalIn_agg w (d + 1) 44 _ _ (by rw [KfH, Tryz.underlying44]) (by kernel_rfl), KfH, Tryz.underlying44];show (Op.eqFields (d + 1) _ _ [_, _, _, _]).run _ _ = _;have i0 : Tryz.prog.underlying 3 = some (.int .i64) := rfl;have i1 : Tryz.prog.underlying 42 = some (.int .u32) := rfl;simp [Op.eqFields, go_sem];by_cases e0 : a0 = b0
  · by_cases e1 : a1 = b1
    · by_cases e2 : a2 = b2
      · by_cases e3 : a3 = b3 <;> simp [e0, e1, e2, e3]
      · simp [e0, e1, e2]
    · simp [e0, e1]
  · simp [e0]
theorem Kgn (x y : Bd) : (x = y) ↔ x.near = y.near /\ x.far = y.far /\ x.frm = y.frm /\ x.to_ = y.to_ := by
  cases x; cases y; simp
theorem KeM (x y : Bd) (ox oy : Operand) (w : World) : (do eqGuard .eql 44 ox oy (.agg x.cells.toArray) (.agg y.cells.toArray); binOp .eql 44 (.agg x.cells.toArray) (.agg y.cells.toArray) : Sem Value).run Tryz.prog w = .ok (.bool (decide (x = y))) w := by
  rw [Sem.run_bind, run_eqGuard_agg w .eql 44 ox oy _ _ (by kernel_rfl), Result.andThen_ok, run_eql_struct];have h := KgE x.near y.near x.far y.far x.frm y.frm x.to_ y.to_ 9998 w;have h2 : (Op.equalIn 10000 44 (.agg x.cells.toArray) (.agg y.cells.toArray)).run Tryz.prog w = .ok (decide (x.near = y.near /\ x.far = y.far /\ x.frm = y.frm /\ x.to_ = y.to_)) w := h;rw [h2, Result.andThen_ok, decide_eq_decide.2 (Kgn x y)]
theorem KjK {x y : Bd} {t : Bool} (ht : (decide (x = y)) = t) (ox oy : Operand) (w : World) : (do eqGuard .eql 44 ox oy (.agg x.cells.toArray) (.agg y.cells.toArray); binOp .eql 44 (.agg x.cells.toArray) (.agg y.cells.toArray) : Sem Value).run Tryz.prog w = .ok (.bool t) w := by
  rw [<- ht]; exact KeM x y ox oy w
theorem Kl3 (x y : Bd) (ox oy : Operand) (w : World) : (do eqGuard .neq 44 ox oy (.agg x.cells.toArray) (.agg y.cells.toArray); binOp .neq 44 (.agg x.cells.toArray) (.agg y.cells.toArray) : Sem Value).run Tryz.prog w = .ok (.bool (!decide (x = y))) w := by
  rw [Sem.run_bind, run_eqGuard_agg w .neq 44 ox oy _ _ (by kernel_rfl), Result.andThen_ok, run_neq_struct];have h := KgE x.near y.near x.far y.far x.frm y.frm x.to_ y.to_ 9998 w;have h2 : (Op.equalIn 10000 44 (.agg x.cells.toArray) (.agg y.cells.toArray)).run Tryz.prog w = .ok (decide (x.near = y.near /\ x.far = y.far /\ x.frm = y.frm /\ x.to_ = y.to_)) w := h;rw [h2, Result.andThen_ok, decide_eq_decide.2 (Kgn x y)]
theorem Kft (x y : Bd) (ox oy : Operand) (w : World) : (do eqGuard .neq 44 ox oy (.agg x.cells.toArray) (.agg y.cells.toArray); binOp .neq 44 (.agg x.cells.toArray) (.agg y.cells.toArray) : Sem Value).run Tryz.prog w = .ok (.bool (decide (x ≠ y))) w := by
  rw [decide_not]; exact Kl3 x y ox oy w
end Go.Proofs.YtcicmplfmcloiaaGreat
