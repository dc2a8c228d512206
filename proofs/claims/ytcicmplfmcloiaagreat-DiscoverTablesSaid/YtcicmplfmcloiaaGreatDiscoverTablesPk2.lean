/-
  Texts of the proof, joined: SymPre, WireLaw, JrLaw, JrCk0, SymDn, SymRwG, SymSo, SymCpt, SymOrd, SymMapL, SymMapR, SymGrp, SymRdA, SymScp, SymShort, SymSq, SymSq3, FnFacts, Frame, Draw, PtCmp, Nat1, Nat2, Nat3, NatL, NatD, NatG.
-/
import Derived.Test.YtcicmplfmcloiaaGreatDiscoverTablesPk1
import GoSem.Step
import Derived.Calls
import Derived.Shelf.SlSortCmp.NoneTotal
import Derived.WideLaws
import Derived.Maps.RangeRun
import Derived.Scope
import Derived.Test.YtcicmplfmcloiaaGreatProg
import Derived.Test.YtcicmplfmcloiaaGreatRows
set_option linter.unusedVariables false
set_option linter.unusedSimpArgs false
namespace Go.Proofs.YtcicmplfmcloiaaGreat
set_option maxHeartbeats 1000000
open Go.RowKit
def KaJ (n k : Nat) : Array Bool := ((List.range n).map fun i => decide (i < k)).toArray
theorem KkT (n k : Nat) : (KaJ n k).setIfInBounds k true = KaJ n (k + 1) := by
  apply Array.ext
  · simp [KaJ]
  · intro i h1 h2;simp only [KaJ, Array.getElem_setIfInBounds, List.getElem_toArray, List.getElem_map, List.getElem_range];by_cases h : k = i
    · subst h; simp
    · have : i < k ↔ i < k + 1 := by omega
      simp [h, this]
theorem KuH (n : Nat) : Array.replicate n false = KaJ n 0 := by
  apply Array.ext
  · simp [KaJ]
  · intro i h1 h2;simp [KaJ]
def KbG (d : Nat) : List Oper -> Nat -> Option Nat
  | [], _ => none
  | o :: l, k => match o.dst with
    | some x => bif Nat.beq x d then some k else KbG d l (k + 1)
    | none => KbG d l (k + 1)
def KfU : List Oper -> Bool
  | [] => true
  | o :: l => (match o.dst with
    | some x => (KbG x l 0).isNone
    | none => true) && KfU l
def KeX (o : Oper) (k : Nat) : Bool := o.after.toList.any fun e => Region.binds .any e && Nat.beq e.on k
def Kf1 (all : List Oper) (ops : Array Oper) : List Oper -> Nat -> Bool
  | [], _ => true
  | o :: l, j => (o.looksAt ops).all (fun d => match KbG d all 0 with
      | none => true
      | some k => Nat.blt k j && KeX o k) && o.after.toList.all (fun e => !Region.binds .any e || Nat.blt e.on j) && Kf1 all ops l (j + 1)
def KdL (l : List Oper) : Bool := Region.noSelect l.toArray && KfU l && Kf1 l l.toArray l 0
theorem Kfy {d : Nat} : ∀ {l : List Oper} {k : Nat}, KbG d l k = none -> ∀ o ∈ l, o.dst ≠ some d
  | [], _, _, o, ho => absurd ho List.not_mem_nil
  | x :: l, k, h, o, ho => by
    unfold KbG at h
    cases hx : x.dst with
    | none =>
      rw [hx] at h;rcases List.mem_cons.1 ho with rfl | ho
      · rw [hx]; simp
      · exact Kfy h o ho
    | some y =>
      rw [hx] at h
      cases hb : Nat.beq y d with
      | true => simp only [hb, cond_true] at h; cases h
      | false =>
        simp only [hb, cond_false] at h;rcases List.mem_cons.1 ho with rfl | ho
        · rw [hx];intro e;cases e;rw [Nat.beq_refl] at hb;cases hb
        · exact Kfy h o ho
theorem Kio {d : Nat} : ∀ {l : List Oper} {k q : Nat}, KbG d l k = some q -> ∃ i o, q = k + i /\ l[i]? = some o /\ o.dst = some d
  | [], _, _, h => by cases h
  | x :: l, k, q, h => by
    unfold KbG at h
    cases hx : x.dst with
    | none =>
      rw [hx] at h;obtain ⟨i, o, h1, h2, h3⟩ := Kio h;exact ⟨i + 1, o, by omega, h2, h3⟩
    | some y =>
      rw [hx] at h
      cases hb : Nat.beq y d with
      | true =>
        simp only [hb, cond_true] at h;cases h;exact ⟨0, x, rfl, rfl, by rw [hx, Nat.eq_of_beq_eq_true hb]⟩
      | false =>
        simp only [hb, cond_false] at h;obtain ⟨i, o, h1, h2, h3⟩ := Kio h;exact ⟨i + 1, o, by omega, h2, h3⟩
theorem KgR : ∀ {l : List Oper} (h : KfU l = true) {i j : Nat} {x y : Oper} {d : Nat}, l[i]? = some x -> l[j]? = some y -> x.dst = some d -> y.dst = some d -> i = j
  | [], _, _, _, _, _, _, hi, _, _, _ => by cases hi
  | o :: l, h, i, j, x, y, d, hi, hj, hx, hy => by
    simp only [KfU, Bool.and_eq_true] at h
    have h0 : ∀ {z : Oper}, o.dst = some d -> z ∈ l -> z.dst ≠ some d := fun {z} ho hz => by
      have h1 := h.1;rw [ho] at h1;exact Kfy (Option.isNone_iff_eq_none.1 h1) z hz
    cases i with
    | zero =>
      cases j with
      | zero => rfl
      | succ j =>
        cases hi;exact absurd hy (h0 hx (List.mem_of_getElem? (by simpa using hj)))
    | succ i =>
      cases j with
      | zero =>
        cases hj;exact absurd hx (h0 hy (List.mem_of_getElem? (by simpa using hi)))
      | succ j => exact congrArg (· + 1) (KgR h.2 (i := i) (j := j) (by simpa using hi) (by simpa using hj) hx hy)
theorem KfR {all : List Oper} {ops : Array Oper} : ∀ {l : List Oper} {j : Nat}, Kf1 all ops l j = true -> ∀ {i : Nat} {o : Oper}, l[i]? = some o ->
    (∀ d ∈ o.looksAt ops, ∀ k, KbG d all 0 = some k -> k < j + i /\ KeX o k = true) /\ (∀ e ∈ o.after.toList, Region.binds .any e = true -> e.on < j + i)
  | [], _, _, _, _, h => by cases h
  | x :: l, j, h, i, o, hi => by
    simp only [Kf1, Bool.and_eq_true] at h
    cases i with
    | zero =>
      cases hi;refine ⟨fun d hd k hk => ?_, fun e he hb => ?_⟩
      · have := List.all_eq_true.1 h.1.1 d hd;rw [hk] at this;simp only [Bool.and_eq_true, Nat.blt_eq] at this;exact ⟨by omega, this.2⟩
      · have := List.all_eq_true.1 h.1.2 e he;simp only [hb, Bool.not_true, Bool.false_or, Nat.blt_eq] at this;omega
    | succ i =>
      have := KfR h.2 (i := i) (o := o) (by simpa using hi);exact ⟨fun d hd k hk => by have h2 := this.1 d hd k hk; exact ⟨by omega, h2.2⟩, fun e he hb => by have h2 := this.2 e he hb; omega⟩
theorem KgK {n k i : Nat} {b : Bool} (hi : i < n) : (KaJ n k).getD i b = decide (i < k) := by
  simp [KaJ, Array.getD, hi]
theorem KoS {l : List Oper} (h : KdL l = true) {k : Nat} (hk : k < l.length) : (Region.ready .any l.toArray (KaJ l.length k)).contains k = true := by
  simp only [KdL, Bool.and_eq_true] at h;rw [List.contains_iff_mem];unfold Region.ready;rw [List.mem_filter];refine ⟨List.mem_range.2 (by simpa using hk), ?_⟩;obtain ⟨o, ho⟩ : ∃ o, l[k]? = some o := ⟨_, List.getElem?_eq_getElem hk⟩;have := (KfR h.2 ho).2;rw [KgK hk];simp only [Nat.lt_irrefl, decide_false, Bool.not_false, Bool.true_and];rw [List.getElem?_toArray, ho];simp only [Option.map_some, Option.getD_some];rw [<- Array.all_toList, List.all_eq_true];intro e he
  cases hb : Region.binds .any e with
  | false => rfl
  | true =>
    have h2 := this e he hb;rw [KgK (by omega)];simp; omega
theorem Kpd {l : List Oper} (h : KdL l = true) {k : Nat} (hk : k < l.length) : Region.free .any l.toArray (KaJ l.length k) k = true := by
  simp only [KdL, Bool.and_eq_true] at h;obtain ⟨o, ho⟩ : ∃ o, l[k]? = some o := ⟨_, List.getElem?_eq_getElem hk⟩;unfold Region.free;rw [List.getElem?_toArray, ho];simp only [List.all_eq_true, List.mem_range];intro j hj;have hj' : j < l.length := by simpa using hj
  obtain ⟨oj, hoj⟩ : ∃ o, l[j]? = some o := ⟨_, List.getElem?_eq_getElem hj'⟩;by_cases e : j = k
  · simp [e]
  by_cases hlt : j < k
  · rw [KgK hj']; simp [hlt]
  rw [List.getElem?_toArray, hoj];simp only [Bool.or_eq_true];refine .inr ?_
  have sl : ∀ {d : Nat} {i : Nat} {x : Oper}, l[i]? = some x -> x.dst = some d -> KbG d l 0 = some i := fun {d i x} hi hx => by
    cases hs : KbG d l 0 with
    | none => exact absurd hx (Kfy hs x (List.mem_of_getElem? hi))
    | some q =>
      obtain ⟨i', o', h1, h2, h3⟩ := Kio hs;rw [h1, Nat.zero_add, KgR h.1.2 h2 hi h3 hx]
  by_cases hw : KeX oj k = true
  · refine .inl ?_;unfold KeX at hw;rw [<- Array.any_toList];rw [List.any_eq_true] at hw ⊢;obtain ⟨e, he, hb⟩ := hw;refine ⟨e, he, ?_⟩;simp only [Bool.and_eq_true] at hb ⊢;exact ⟨hb.1, by rw [Nat.eq_of_beq_eq_true hb.2]; exact beq_self_eq_true _⟩
  · refine .inr ?_;unfold Oper.apart;rw [Bool.and_eq_true];constructor
    · cases hd : o.dst with
      | none => rfl
      | some d =>
        simp only [Bool.and_eq_true, Bool.not_eq_true', bne_iff_ne, ne_eq];refine ⟨?_, fun h2 => e (KgR h.1.2 hoj ho h2 hd)⟩
        cases hc : (oj.looksAt l.toArray).contains d with
        | false => rfl
        | true =>
          have := ((KfR h.2 hoj).1 d (List.contains_iff_mem.1 hc) k (sl ho hd)).2;exact absurd this hw
    · cases hd : oj.dst with
      | none => rfl
      | some d =>
        simp only [Bool.not_eq_true']
        cases hc : (o.looksAt l.toArray).contains d with
        | false => rfl
        | true =>
          have := ((KfR h.2 ho).1 d (List.contains_iff_mem.1 hc) j (sl hoj hd)).1;omega
def KcW (ops : Array Oper) (n : Nat) : Nat -> Nat -> Bool
  | 0, _ => true
  | m + 1, k => (Region.ready .any ops (KaJ n k)).contains k && Region.free .any ops (KaJ n k) k && KcW ops n m (k + 1)
def TV (P : Program) (N : Fr) (ops : Array Oper) (S : World -> Prop) (Q : Exit -> Act -> World -> Prop) (f n k : Nat) (l : List Oper) (E : Env) (I : World -> Prop) : Prop :=
  (∀ w, I w -> S w) -> Region.noSelect ops = true -> (∀ (j : Nat) (o : Oper), l[j]? = some o -> ops[k + j]? = some o) -> KcW ops n l.length k = true -> TH P N ops S Q (f + l.length) (KaJ n k) E I
section
variable {P : Program} {N : Fr} {Q : Exit -> Act -> World -> Prop} {E : Env} {I S : World -> Prop} {ops : Array Oper} {f n k : Nat} {l : List Oper} {o : Oper}
theorem TV.val {d : Nat} {v : Value} (hg : o.guard = none) (hd : o.dst = some d) (hN : Nat.blt d N.n = true) (hv : Kv P N o E S v) (h : TV P N ops S Q f n (k + 1) l ((d, v) :: E) I) : TV P N ops S Q f n k (o :: l) E I := fun hS hs hl hp => by
  simp only [List.length_cons, KcW, Bool.and_eq_true] at hp;have hi : ops[k]? = some o := by have := hl 0 o rfl; simpa using this
  refine TH.take (f := f + l.length) k hi hs hp.1.2 hp.1.1 (KkT n k) hg hd hN hv hS ?_;exact h hS hs (fun j o' ho' => by rw [Nat.add_assoc, Nat.add_comm 1 j]; exact hl (j + 1) o' ho') hp.2
theorem TV.call {d : Nat} {r : Value} {g : FuncId} {fn : Func} {xs : List Operand} {ts : Array TypeId} {vs : List Value} (hg : o.guard = none) (hd : o.dst = some d) (hN : Nat.blt d N.n = true) (ho : o.op = .call { callee := .value (.func g), args := xs.toArray, argTypes := ts }) (hx : evs E xs = some vs) (hfn : P.funcs[g]? = some fn) (hn : (fn.name == "runtime.NumGoroutine") = false) (hb : fn.body.isNone = false)
    (hc : ∀ w, S w -> Calls P g vs.toArray w fun e w' => e = .returned r /\ w' = w) (h : TV P N ops S Q f n (k + 1) l ((d, r) :: E) I) : TV P N ops S Q f n k (o :: l) E I := fun hS hs hl hp => by
  simp only [List.length_cons, KcW, Bool.and_eq_true] at hp;have hi : ops[k]? = some o := by have := hl 0 o rfl; simpa using this
  refine TH.takeC (f := f + l.length) k hi hs hp.1.2 hp.1.1 (KkT n k) hg hd hN ho hx hfn hn hb hc hS ?_;exact h hS hs (fun j o' ho' => by rw [Nat.add_assoc, Nat.add_comm 1 j]; exact hl (j + 1) o' ho') hp.2
theorem TV.end_ {ls : Array Bool} (hls : KaJ n k = ls) (h : TH P N ops S Q f ls E I) : TV P N ops S Q f n k [] E I := fun _ _ _ _ => by subst hls; exact h
theorem TC.pre {id : Nat} (m : Nat) (n f : Nat) (S : World -> Prop) (hm : P.follows .mixedOrders = true) (hn : l.toArray.size = n) (hI : ∀ w, I w -> I { w with drawn := w.drawn + 1 }) (hb : KdL l = true) (hf : f + m = n) (hS : ∀ w, I w -> S w)
    (h : TV P N l.toArray S Q f n 0 (l.take m) E I) : TC P N Q (.region id l.toArray true) E I := by
  have hlen : (l.take m).length = m := by rw [List.length_take]; simp at hn; omega
  have hs : Region.noSelect l.toArray = true := by simp only [KdL, Bool.and_eq_true] at hb; exact hb.1.1
  have hnl : l.length = n := by simpa using hn
  have hp : KcW l.toArray n m 0 = true := by
    have key : ∀ (q k : Nat), k + q <= l.length -> KcW l.toArray l.length q k = true := by
      intro q
      induction q with
      | zero => intro k _; rfl
      | succ q ih =>
        intro k hk;simp only [KcW, Bool.and_eq_true];exact ⟨⟨KoS hb (by omega), Kpd hb (by omega)⟩, ih (k + 1) (by omega)⟩
    rw [<- hnl];exact key m 0 (by omega)
  refine TC.held (ls := KaJ n 0) (n := n) S hm hn (KuH n) hI ?_
  have := h hS hs (fun j o ho => by
    have hj : j < m := by have := (List.getElem?_eq_some_iff.1 ho).1; omega
    rw [List.getElem?_take_of_lt hj] at ho;rw [Nat.zero_add, List.getElem?_toArray]; exact ho) (by rw [hlen]; exact hp)
  rw [hlen, hf] at this;exact this
end
def oc (n : Int) : Int := if n = 0 then 0 else (n - 1) % 65535 + 1
def raw : List Int -> Int
  | [] => 0
  | [x] => x * 256
  | x :: y :: r => x * 256 + y + raw r
def sm (l : List Int) : Int := oc (raw l)
def be (l : List Int) : Int := l.foldl (fun a x => a * 256 + x) 0
def enc (x : Int) : Nat -> List Int
  | 0 => []
  | k + 1 => (x / 256 ^ k % 256) :: enc x k
structure Rs where
  v : Int
  run : Int
  num : Int
  at_ : Int
  dst : Int
  proto : Int
  flow : Int
  ttl : Int
  ans : Bool
  dbl : Bool
  back : Int
  src : Int
  kind : Int
  code : Int
  left : Int
  id : Int
  quo : Int
deriving DecidableEq
def Rs.zero : Rs := ⟨0, 0, 0, 0, 0, 0, 0, 0, false, false, 0, 0, 0, 0, 0, 0, 0⟩
def Rs.noAns (r : Rs) : Bool := decide (r.src = 0 /\ r.kind = 0 /\ r.code = 0 /\ r.left = 0 /\ r.id = 0 /\ r.quo = 0)
def Rs.inRange (r : Rs) : Prop := 0 <= r.v /\ r.v <= 15 /\ 0 <= r.run /\ r.run <= 63 /\ 0 <= r.num /\ r.num <= 999 /\ 0 <= r.at_ /\ r.at_ <= 2251799813685248 /\ 0 <= r.back /\ r.back <= 2251799813685248 /\ r.at_ <= r.back /\ 0 <= r.flow /\ r.flow <= 1023 /\ 1 <= r.ttl /\ r.ttl <= 255
instance (r : Rs) : Decidable r.inRange := by unfold Rs.inRange; infer_instance
def Rs.ansOk (r : Rs) : Prop := 1 <= r.kind /\ r.kind <= 5 /\ 0 <= r.code /\ r.code <= 255 /\ 0 <= r.left /\ r.left <= 255 /\ 0 <= r.quo /\ r.quo <= 255 /\ 0 <= r.id /\ r.id <= 65535
instance (r : Rs) : Decidable r.ansOk := by unfold Rs.ansOk; infer_instance
def Kad (r : Rs) : Int :=
  if ¬ r.inRange then 1
  else if ¬ (r.proto = 1 \/ r.proto = 6 \/ r.proto = 17) then 16
  else if (r.dbl = true /\ r.ans = false) \/ (r.ans = false /\ r.noAns = false) then 7
  else if r.ans = true /\ ¬ r.ansOk then 1
  else 0
theorem Kne {r : Rs} (h : ¬ r.inRange) : 1 = Kad r := by rw [Kad, if_pos h]
def Rs.flags (r : Rs) : Int := (if r.ans then 1 else 0) + (if r.dbl then 2 else 0)
def Rs.pairs (r : Rs) : List (Int × Nat) := [(r.v, 1), (r.run, 1), (r.num, 2), (r.at_, 7), (r.dst, 4), (r.proto, 1), (r.flow, 2), (r.ttl, 1), (r.flags, 1), (r.back, 7), (r.src, 4), (r.kind, 1), (r.code, 1), (r.left, 1), (r.id, 2), (r.quo, 1)]
def Rs.Ok (r : Rs) : Prop := 0 <= r.dst /\ r.dst <= 4294967295 /\ 0 <= r.src /\ r.src <= 4294967295
section
variable {r : Rs} {b1 b2 b3 b4 : Bool} (h1 : b1 = true ↔ ¬ r.inRange) (h2 : b2 = true ↔ ¬ (r.proto = 1 \/ r.proto = 6 \/ r.proto = 17)) (h3 : b3 = true ↔ (r.dbl = true /\ r.ans = false) \/ (r.ans = false /\ r.noAns = false)) (h4 : b4 = true ↔ r.ans = true /\ ¬ r.ansOk)
include h1
theorem Knl (e1 : b1 = true) : 1 = Kad r := by unfold Kad; rw [if_pos (h1.1 e1)]
include h2
theorem Kq5 (e1 : b1 = false) (e2 : b2 = true) : 16 = Kad r := by
  subst e1 e2;unfold Kad; rw [if_neg (by simpa using h1), if_pos (h2.1 rfl)]
include h3
theorem Kt9 (e1 : b1 = false) (e2 : b2 = false) (e3 : b3 = true) : 7 = Kad r := by
  subst e1 e2 e3;unfold Kad; rw [if_neg (by simpa using h1), if_neg (by simpa using h2), if_pos (h3.1 rfl)]
include h4
theorem Kjy (e1 : b1 = false) (e2 : b2 = false) (e3 : b3 = false) (e4 : b4 = true) : 1 = Kad r := by
  subst e1 e2 e3 e4;unfold Kad; rw [if_neg (by simpa using h1), if_neg (by simpa using h2), if_neg (fun h => by have := h3.2 h; cases this), if_pos (h4.1 rfl)]
theorem Kt0 (e1 : b1 = false) (e2 : b2 = false) (e3 : b3 = false) (e4 : b4 = false) : 0 = Kad r := by
  subst e1 e2 e3 e4;unfold Kad; rw [if_neg (by simpa using h1), if_neg (by simpa using h2), if_neg (fun h => by have := h3.2 h; cases this), if_neg (fun h => by have := h4.2 h; cases this)]
end
end Go.Proofs.YtcicmplfmcloiaaGreat

namespace Go
set_option maxHeartbeats 1000000
def Result.Mono {α : Type} (d : Nat) : Result α -> Prop
 | .ok _ w => d <= w.drawn
 | .halt _ w => d <= w.drawn
theorem World.ask_mono {α : Type} (s : Ask α) : ∀ w : World, w.drawn <= (w.ask s).2.drawn := by
 induction s with
 | done a => intro w; simp [World.ask]
 | ask what range k ih =>
  intro w;simp only [World.ask];split
  ·exact ih _ w
  ·exact Nat.le_trans (Nat.le_succ _) (ih _ { w with drawn := w.drawn + 1 })
theorem World.sys_mono (w : World) (c : Sys) : w.drawn <= (w.sys c).2.drawn := by
 have h := World.ask_mono (Kernel.perform c w.os) w;unfold World.sys;generalize World.ask w (Kernel.perform c w.os) = x at h ⊢;split
 ·exact Nat.le_refl _
 ·exact h
theorem World.drawn_freeze (w : World) (a : Addr) (n : Nat) : (w.freeze a n).drawn = w.drawn := by
 unfold World.freeze; split <;> rfl
theorem World.drawn_viewStore {p : Program} {w : World} {at_ : Addr} {u : TypeId} {k : Addr} {v : Value} {atomic : Bool} {r : World × List Addr} (h : w.viewStore p at_ u k v atomic = .ok r) : r.1.drawn = w.drawn := by
 unfold World.viewStore at h;simp only [bind, Except.bind, pure, Except.pure] at h
 repeat' (split at h)
 all_goals first | (cases h; done) | skip
 all_goals (try (injection h with h; subst h; rfl))
theorem World.drawn_farStore {p : Program} {w : World} {a : Addr} {v : Value} {atomic : Bool} {r : World × List Addr} (h : w.farStore p a v atomic = .ok r) : r.1.drawn = w.drawn := by
 unfold World.farStore at h;split at h
 ·split at h
  ·rename_i h1; cases h; exact World.drawn_viewStore h1
  ·cases h
 ·cases h
theorem Sem.run_mono {α : Type} (p : Program) (s : Sem α) : ∀ w : World, (s.run p w).Mono w.drawn := by
 induction s with
 | pure a => intro w; exact Nat.le_refl _
 | load m a k ih =>
  intro w;simp only [Sem.run];split
  ·exact ih _ w
  ·split
   ·exact ih _ w
   ·exact Nat.le_refl _
 | store m a v k ih =>
  intro w;cases v
  case agg => exact Nat.le_refl _
  case tuple => exact Nat.le_refl _
  all_goals
   simp only [Sem.run];split
   ·split
    ·exact Nat.le_refl _
    ·exact ih (w.setCell a _)
   ·split
    ·rename_i h; have := ih ‹World›; rw [show World.drawn _ = w.drawn from World.drawn_farStore h] at this; exact this
    ·exact Nat.le_refl _
 | new o k ih => intro w; exact ih w.heap.size { w with heap := w.heap.push o }
 | shape r k ih => intro w; exact ih (w.shape? r) w
 | freeze a n k ih => intro w; have := ih (w.freeze a n); rw [World.drawn_freeze] at this; exact this
 | frozen a k ih => intro w; exact ih (w.frozen? a) w
 | getObj r k ih =>
  intro w;simp only [Sem.run];split
  ·exact Nat.le_refl _
  ·exact ih _ w
  ·exact Nat.le_refl _
 | setObj r o k ih =>
  intro w;simp only [Sem.run];split
  ·exact Nat.le_refl _
  ·exact ih { w with heap := w.heap.setIfInBounds r o }
  ·exact Nat.le_refl _
 | choose q k ih =>
  intro w;simp only [Sem.run];split
  ·exact ih 0 w
  ·have := ih (q.cut (w.tape w.drawn q)) { w with drawn := w.drawn + 1 }
   revert this
   cases Sem.run p (k (q.cut (w.tape w.drawn q))) { w with drawn := w.drawn + 1 } <;> exact fun h => Nat.le_trans (Nat.le_succ _) h
 | sys c k ih =>
  intro w;have h1 := w.sys_mono c;have := ih (w.sys c).1 (w.sys c).2;show (Sem.run p (k (w.sys c).1) (w.sys c).2).Mono w.drawn
  revert this
  cases Sem.run p (k (w.sys c).1) (w.sys c).2 <;> exact fun h => Nat.le_trans h1 h
 | program k ih => intro w; exact ih p w
 | mark m k ih => intro w; exact ih w
 | halt h => intro w; exact Nat.le_refl _
section
variable {α : Type} {p : Program} {s : Sem α} {w w' : World} {a : α} {hh : Halt} {es es' : Array Event}
theorem Sem.ok_mono (h : s.run p w = .ok a w') : w.drawn <= w'.drawn := by have := Sem.run_mono p s w; rw [h] at this; exact this
theorem Sem.halt_mono (h : s.run p w = .halt hh w') : w.drawn <= w'.drawn := by have := Sem.run_mono p s w; rw [h] at this; exact this
theorem Sem.runT_mono (p : Program) (s : Sem α) (w : World) (es : Array Event) : (s.runT p w es).1.Mono w.drawn := by rw [Sem.runT_eq]; exact Sem.run_mono p s w
theorem Sem.okT_mono (h : s.runT p w es = (.ok a w', es')) : w.drawn <= w'.drawn := by have := Sem.runT_mono p s w es; rw [h] at this; exact this
theorem Sem.haltT_mono (h : s.runT p w es = (.halt hh w', es')) : w.drawn <= w'.drawn := by have := Sem.runT_mono p s w es; rw [h] at this; exact this
end
def GStep.Mono (d : Nat) : GStep -> Prop
 | .go _ w _ => d <= w.drawn
 | .comm _ _ _ _ w _ => d <= w.drawn
 | .spawn _ _ w _ => d <= w.drawn
 | .count _ w _ => d <= w.drawn
 | .timer _ _ w _ => d <= w.drawn
 | .alone _ _ w _ => d <= w.drawn
 | .newcoro _ _ _ w _ => d <= w.drawn
 | .coroswitch _ _ _ w _ => d <= w.drawn
 | .collect _ w _ => d <= w.drawn
 | .watch _ w _ => d <= w.drawn
 | .ended _ _ _ => True
theorem GStep.Mono.after {d : Nat} {s : GStep} (es : Array Event) (h : s.Mono d) : (s.after es).Mono d := by
 cases s <;> exact h
theorem GStep.Mono.up {d d' : Nat} {s : GStep} (h : s.Mono d) (hd : d' <= d) : s.Mono d' := by
 cases s <;> first | exact Nat.le_trans hd h | trivial
theorem GStep.ite_mono {d : Nat} {c : Prop} [Decidable c] {a b : GStep} (ha : a.Mono d) (hb : b.Mono d) : (if c then a else b).Mono d := by
 split
 ·exact ha
 ·exact hb
variable {p : Program} {w : World}
theorem Kul (fd : Nat) (t : ByteArray) (o : Outcome) (d : Nat) : (endWith w fd t o).Mono d := by
 unfold endWith
 extract_lets cannot
 split
 ·split <;> trivial
 ·trivial
 ·trivial
theorem Kge (fr : Frame) (m : String) : (endThrow fr m w).Mono w.drawn := Nat.le_refl _
theorem Kk8 (fr : Frame) (v : Value) : (endPrinting p fr v w).Mono w.drawn := by
 unfold endPrinting;simp only [];split
 ·exact Kge _ _
 ·trivial
theorem Ki6 (fr : Frame) (cs : List Frame) (dy : Option Dying) (m : String) : (endFatal p fr cs dy m w).Mono w.drawn := by
 unfold endFatal
 extract_lets chain raw shown
 have h := Sem.run_mono p shown w;generalize shown.run p w = r at h ⊢
 cases r with
 | ok v w1 => exact h
 | halt hh w1 => cases hh <;> trivial
theorem Kq0 (fr : Frame) (d : Dying) (f : Fatal) : (writeOn p fr d f w).Mono w.drawn := by
 unfold writeOn
 extract_lets on
 split
 ·trivial
 ·extract_lets
  split
  all_goals first | trivial | exact Sem.okT_mono (by assumption) | exact Sem.haltT_mono (by assumption)
theorem Krl (fr : Frame) (d : Dying) : (die p fr d w).Mono w.drawn := by
 unfold die;split
 ·exact Kq0 _ _ _
 ·split
  ·split
   ·exact Nat.le_refl _
   ·exact Kul _ _ _ _
  ·extract_lets
   split
   ·exact Nat.le_refl _
   ·split
    all_goals first | trivial | exact Sem.ok_mono (by assumption)
   ·rename_i t recv name _;have h := Sem.runT_mono p (invoke (.fn (.method name) #[]) #[.iface t recv]) w #[];generalize (invoke (.fn (.method name) #[]) #[.iface t recv]).runT p w #[] = r at h ⊢;obtain ⟨r, es⟩ := r;refine GStep.Mono.after _ ?_;simp only [Result.Mono] at h;split
    all_goals first | trivial | exact h | exact (Kk8 _ _).up h
   ·trivial
theorem KgQ (main : Bool) (fr : Frame) (cs : List Frame) (dy : Option Dying) (v : Value) : (doReturn p main fr cs dy v w).Mono w.drawn := by
 unfold doReturn;split
 ·split
  all_goals exact Nat.le_refl _
 ·split
  ·exact Nat.le_refl _
  ·trivial
  ·split
   ·exact Nat.le_refl _
   ·split
    ·exact Nat.le_refl _
    ·trivial
theorem KnN (fr : Frame) (cs : List Frame) (dy : Option Dying) (d : Deferred) : (callDeferred p fr cs dy d w).Mono w.drawn := by
 unfold callDeferred;refine GStep.ite_mono trivial ?_
 ·have h := Sem.runT_mono p (invoke d.target d.args) w #[];generalize (invoke d.target d.args).runT p w #[] = r at h ⊢;obtain ⟨r, es⟩ := r;refine GStep.Mono.after _ ?_;simp only [Result.Mono] at h
  cases r with
  | ok v w1 =>
   cases v
   all_goals first | trivial | exact h | skip
   case recover =>
    dsimp only;split <;> exact h
   case alone b _ => cases b <;> first | trivial | exact h
   case coroswitch _ b => cases b <;> first | trivial | exact h
  | halt hh w1 =>
   cases hh
   all_goals first | trivial | exact h | exact (Ki6 _ _ _ _).up h | exact (Kge _ _).up h
theorem Kqn (main : Bool) (fr : Frame) (cs : List Frame) (dy : Option Dying) : (unwind p main fr cs dy w).Mono w.drawn := by
 unfold unwind;split
 ·rename_i block _ _ _;have h := Sem.runT_mono p (Instr.takeDeferred block) w #[];generalize (Instr.takeDeferred block).runT p w #[] = r at h ⊢;obtain ⟨r, es⟩ := r;refine GStep.Mono.after _ ?_;simp only [Result.Mono] at h;cases r <;> first | trivial | exact h
 ·exact KnN _ _ _ _
 ·split
  ·trivial
  ·split
   ·trivial
   ·split
    ·exact Nat.le_refl _
    ·split
     ·split
      ·exact Nat.le_refl _
      ·split
       all_goals first | trivial | exact Sem.ok_mono (by assumption)
     ·split
      ·exact Kk8 _ _
      ·trivial
  ·split
   ·exact KgQ _ _ _ _ _
   ·rename_i fn _;have h := Sem.runT_mono p (results fn fr.tmps) w #[];generalize (results fn fr.tmps).runT p w #[] = r at h ⊢;obtain ⟨r, es⟩ := r;refine GStep.Mono.after _ ?_;simp only [Result.Mono] at h
    cases r with
    | ok v w1 => exact (KgQ _ _ _ _ _).up h
    | halt hh w1 => cases hh <;> trivial
theorem Koi (fr : Frame) (cs : List Frame) (dy : Option Dying) (g : Nat) : (early p fr cs dy g w).Mono w.drawn := by
 unfold early
 extract_lets refuse notYet
 have hn : ∀ w1 : World, (notYet w1).Mono w1.drawn := fun w1 => by
  show GStep.Mono _ (match w1.heap[g]? with | some (.pending c elem) => _ | _ => _);split
  ·exact Nat.le_refl _
  ·trivial
 split
 ·exact hn w
 ·split
  ·trivial
  ·extract_lets there
   have ht : ∀ w1 : World, (there w1).Mono w1.drawn := fun w1 => Nat.le_refl _;split
   ·exact hn w
   ·split
    ·exact hn w
    ·split
     ·trivial
     ·exact ht w
     ·trivial
     ·exact hn w
     ·split
      ·exact ht w
      ·split
       ·exact hn w
       ·split
        ·exact (hn _).up (Sem.ok_mono (by assumption))
        ·exact (ht _).up (Sem.ok_mono (by assumption))
        ·trivial
theorem KeE (fr : Frame) (cs : List Frame) (dy : Option Dying) (s : Sem Next) (listen : Bool) : (stepG.apply p listen fr cs dy s w).Mono w.drawn := by
 unfold stepG.apply
 extract_lets go kind
 have h : (if listen = true then s.runT p w #[] else (s.run p w, #[])).1.Mono w.drawn := by
  split
  ·exact Sem.runT_mono p s w #[]
  ·exact Sem.run_mono p s w
 generalize (if listen = true then s.runT p w #[] else (s.run p w, #[])) = r at h ⊢;obtain ⟨r, es⟩ := r;refine GStep.Mono.after _ ?_;simp only [Result.Mono] at h
 cases r with
 | ok v w1 =>
  cases v
  all_goals first | trivial | exact h | skip
  all_goals dsimp only
  case spawn =>
   refine GStep.ite_mono ?_ ?_
   ·exact (Kge _ _).up h
   ·exact h
  all_goals (split <;> exact h)
 | halt hh w1 =>
  cases hh
  all_goals first | trivial | exact h | exact (Ki6 _ _ _ _).up h | exact (Kge _ _).up h | skip
  case unsupported u => cases u <;> first | trivial | exact (Koi _ _ _ _).up h
theorem Kp2 (fr : Frame) (cs : List Frame) (dy : Option Dying) (listen : Bool) : (stepG.oper p listen fr cs dy w).Mono w.drawn := by
 unfold stepG.oper;split
 ·trivial
 ·split
  ·exact KeE _ _ _ _ _
  ·exact KeE _ _ _ _ _
theorem KuU (main : Bool) (fr : Frame) (cs : List Frame) (dy : Option Dying) (listen : Bool) : (stepG.exec p main listen fr cs dy w).Mono w.drawn := by
 unfold stepG.exec
 extract_lets go to lost leave
 have hgo : ∀ f, (go f w).Mono w.drawn := fun f => Nat.le_refl _;have hto : ∀ f, (to f).Mono w.drawn := fun f => Nat.le_refl _
 have hleave : ∀ j, (leave j).Mono w.drawn := fun j => by
  show GStep.Mono _ (match fr.roundOf with | none => _ | some l => _)
  cases fr.roundOf with
  | none => exact GStep.ite_mono (Nat.le_refl _) trivial
  | some l =>
   refine GStep.Mono.after _ ?_;have h := Sem.runT_mono p (Instr.endRound l j) w #[];generalize ((Instr.endRound l j).runT p w #[]).1 = r at h ⊢;simp only [Result.Mono] at h
   cases r with
   | ok v w1 => exact (KgQ _ _ _ _ _).up h
   | halt hh w1 => trivial
 clear_value leave
 split
 all_goals first | exact hleave _ | exact hto _ | trivial | exact KeE _ _ _ _ _ | skip
 ·split
  ·exact hto _
  ·trivial
 ·rename_i id k _
  cases exitTo id k with
  | none => exact hleave _
  | some l => exact hto _
 ·rename_i l k _
  cases gotoIn l k with
  | none => exact hleave _
  | some l => exact hto _
 ·rename_i f params assign body k _;have h := Sem.runT_mono p (Instr.enterLoop fr.fn fr.tmps params assign body fr.roundOf) w #[];generalize (Instr.enterLoop fr.fn fr.tmps params assign body fr.roundOf).runT p w #[] = r at h ⊢;obtain ⟨r, es⟩ := r;refine GStep.Mono.after _ ?_;simp only [Result.Mono] at h
  cases r with
  | ok v w1 => exact (KeE _ _ _ _ _).up h
  | halt hh w1 => trivial
 ·rename_i l k _;have h := Sem.runT_mono p (Instr.endLoop l) w #[];generalize (Instr.endLoop l).runT p w #[] = r at h ⊢;obtain ⟨r, es⟩ := r;refine GStep.Mono.after _ ?_;simp only [Result.Mono] at h
  cases r with
  | ok v w1 => exact h
  | halt hh w1 => cases hh <;> first | trivial | exact h
 ·rename_i row args _ _
  cases Extern.next row with
  | none => trivial
  | some e => exact KeE _ _ _ _ _
 ·refine GStep.ite_mono (hto _) ?_;split
  ·exact Sem.ok_mono (by assumption)
  ·trivial
 ·refine GStep.ite_mono ?_ ?_
  ·exact Kp2 _ _ _ _
  ·exact Nat.le_refl _
theorem Kqe (main : Bool) (g : Goroutine) (listen : Bool) : (stepG p main g w listen).Mono w.drawn := by
 unfold stepG;obtain ⟨fr, cs, st, dy, of⟩ := g;dsimp only;split
 ·exact Krl _ _
 ·exact KuU _ _ _ _ _
 ·exact Kqn _ _ _ _
def Stepped.Mono (d : Nat) : Stepped -> Prop
 | .next m => d <= m.world.drawn
 | .ended _ _ => True
theorem Stepped.Mono.up {d d' : Nat} {s : Stepped} (h : s.Mono d) (hd : d' <= d) : s.Mono d' := by
 cases s <;> first | exact Nat.le_trans hd h | trivial
theorem Ksv {rest : Rest} {cases_ : Array CommCase} {w1 : World} (h : waitingAt rest cases_ w = some w1) : w.drawn <= w1.drawn := by
 unfold waitingAt at h;split at h
 ·split at h
  ·cases h; exact Nat.le_refl _
  ·cases h
 ·cases h; exact Nat.le_refl _
theorem Kq7 (rest : Rest) (gs : Array Goroutine) (i : Nat) (g : Goroutine) (cs : Array CommCase) (b : Bool) (sh : CommShape) : (communicate p rest gs i g cs b sh w).1.Mono w.drawn := by
 unfold communicate
 extract_lets put illMade me other ready pick
 split
 ·trivial
 ·split
  ·split
   ·split
    ·exact Ksv (by assumption)
    ·trivial
   ·exact Nat.le_refl _
  ·have h := Sem.run_mono p pick w;generalize pick.run p w = r at h ⊢;simp only [Result.Mono] at h
   cases r with
   | halt hh w1 => trivial
   | ok v w1 =>
    obtain ⟨k, c, way⟩ := v;dsimp only at h ⊢;split
    ·split
     ·exact Nat.le_trans h (Sem.halt_mono (by assumption))
     ·trivial
    ·exact h
    ·exact h
    ·split
     ·exact h
     ·split
      ·rename_i h2;have h3 := Sem.ok_mono h2;exact Nat.le_trans h h3
      ·trivial
    ·exact h
    ·exact h
    ·trivial
theorem KgN (gs : Array Goroutine) (rest : Rest) : (look p gs rest w).Mono w.drawn := by
 unfold look;split
 ·dsimp only;split
  ·trivial
  ·split
   ·trivial
   ·split
    ·rename_i h;have h2 := Sem.ok_mono h;exact h2
    ·trivial
    ·trivial
 ·trivial
theorem Kon (c : Nat) : (drain w c).2.drawn = w.drawn := by
 unfold drain; split <;> rfl
theorem KjT (m : Machine) (k : Nat) (t : Timer) (a b : Nat) : (retime m k t a b).2.world.drawn = m.world.drawn := by
 unfold retime
 cases t.chan with
 | none => rfl
 | some c => exact Kon c
theorem Kr1 {m : Machine} {op : TimerOp} {v : Value} {m1 : Machine} (h : timerOp m op = .ok (v, m1)) : m.world.drawn <= m1.world.drawn := by
 unfold timerOp at h;split at h
 ·split at h
  ·cases h; exact Nat.le_refl _
  ·split at h
   ·split at h
    ·cases h
    ·cases h; exact Nat.le_refl _
   ·cases h
 ·unfold timerOp.named at h;split at h
  ·injection h with h; rw [show m1 = _ from (congrArg Prod.snd h).symm, KjT]; exact Nat.le_refl _
  ·cases h
 ·split at h
  ·rename_i m2 hm;unfold timerOp.opened at hm
   have h0 : m2.world.drawn = m.world.drawn := by
    split at hm
    ·split at hm
     ·cases hm; rfl
     ·cases hm
    ·cases hm; rfl
   unfold timerOp.named at h;split at h
   ·injection h with h; rw [show m1 = _ from (congrArg Prod.snd h).symm, KjT, h0]; exact Nat.le_refl _
   ·cases h
  ·cases h
 ·cases h; exact Nat.le_refl _
theorem runT_mono (m : Machine) (i : Nat) (listen : Bool) : (runT p m i listen).1.Mono m.world.drawn := by
 unfold runT
 extract_lets rest world
 split;rename_i g gs _
 extract_lets wake fn pos s ops done
 have h : s.Mono m.world.drawn := Kqe _ _ _
 clear_value s
 cases s with
 | ended => trivial
 | comm g cs b sh w es => exact (Kq7 _ _ _ _ _ _ _).up h
 | go => exact h
 | spawn => exact h
 | count => 
  dsimp only [done];split
  ·trivial
  ·exact h
 | alone => exact h
 | collect => exact (KgN _ _).up h
 | watch => exact h
 | newcoro => exact h
 | coroswitch g c exit w es => 
  dsimp only [done];split
  ·exact h
  ·exact h
  ·trivial
 | timer g op w es =>
  dsimp only [done];split
  ·exact Nat.le_trans h (Kr1 (by assumption))
  ·exact h
  ·trivial
  ·trivial
def Move.Mono (d : Nat) : Move -> Prop
 | .goroutine m _ => d <= m.world.drawn
 | .machine s _ => s.Mono d
theorem Move.Mono.up {d d' : Nat} {s : Move} (h : Move.Mono d s) (hd : d' <= d) : s.Mono d' := by
 cases s with
 | goroutine m i => exact Nat.le_trans hd h
 | machine s ops => exact Stepped.Mono.up h hd
theorem KuK (m : Machine) (k : Nat) : (serve p m k).Mono m.world.drawn := by
 unfold serve;split
 ·trivial
 ·exact Nat.le_refl _
 ·dsimp only;split
  ·trivial
  ·exact Nat.le_refl _
theorem Khw (m : Machine) : (askOn p m).Mono m.world.drawn := by
 unfold askOn
 extract_lets mono rs ds pick
 have hp : ∀ m1 : Machine, (pick m1).Mono m1.world.drawn := fun m1 => by
  show Move.Mono _ (match (choose (.sched rs.length)).run p m1.world with | .halt _ w => _ | .ok k world => _);split
  ·trivial
  ·rename_i h;have h1 := Sem.ok_mono h;split
   ·exact h1
   ·split
    ·trivial
    ·rename_i h2;exact Nat.le_trans h1 (Sem.ok_mono h2)
 clear_value pick
 clear_value rs ds mono
 have hq : ∀ (d : Nat) (m1 : Machine), d <= m1.world.drawn -> (pick m1).Mono d := fun d m1 h => Move.Mono.up (hp m1) h;split
 ·trivial
 ·rename_i h;have h1 := Sem.ok_mono h;clear h;dsimp only;split
  ·exact (KuK _ _).up h1
  ·cases rs with
   | nil =>
    dsimp only;split
    ·exact h1
    ·split
     ·exact h1
     ·split <;> trivial
   | cons r rs =>
    dsimp only;split
    ·exact hq _ _ h1
    ·split
     ·trivial
     ·rename_i h2;have h3 := Sem.ok_mono h2;exact hq _ _ (Nat.le_trans h1 h3)
     ·rename_i h2;have h3 := Sem.ok_mono h2;exact Nat.le_trans h1 h3
     ·rename_i h2;have h3 := Sem.ok_mono h2;exact hq _ _ (Nat.le_trans h1 h3)
theorem ask_mono (m : Machine) : (ask p m).Mono m.world.drawn := by
 unfold ask;split
 ·split
  ·trivial
  ·rename_i h;have h1 := Sem.ok_mono h;split
   ·rename_i m2 h2;have h3 := KgN (p := p) (w := by assumption) m.gs m.rest;rw [h2] at h3;exact Move.Mono.up (Khw _) (Nat.le_trans h1 h3)
   ·rename_i h2;have h3 := KgN (p := p) (w := by assumption) m.gs m.rest
    revert h3
    generalize look p m.gs m.rest _ = s;intro h3;exact h3.up h1
  ·rename_i h;exact Move.Mono.up (Khw _) (Sem.ok_mono h)
 ·exact Khw m
theorem KtQ (m : Machine) : (move p m).Mono m.world.drawn := by
 unfold move;split
 ·split
  ·exact Nat.le_refl _
  ·trivial
 ·split
  ·split
   ·exact Nat.le_refl _
   ·exact ask_mono { m with rest := { m.rest with slice := none } }
  ·exact ask_mono m
theorem Kpf (m : Machine) : (step p m).Mono m.world.drawn := by
 unfold step stepT;have h := KtQ (p := p) m;generalize move p m = mv at h ⊢
 cases mv with
 | goroutine m1 i => exact (runT_mono m1 i _).up h
 | machine s ops => exact h
theorem Ks7 (n : Nat) : ∀ m m' : Machine, runN p n m = .next m' -> m.world.drawn <= m'.world.drawn := by
 induction n with
 | zero => intro m m' h; cases h; exact Nat.le_refl _
 | succ n ih =>
  intro m m' h;have h1 := Kpf (p := p) m;unfold runN at h;generalize step p m = s at h h1
  cases s with
  | next m1 => exact Nat.le_trans h1 (ih m1 m' h)
  | ended o w => cases h
theorem Calls.drawn {f : FuncId} {args : Array Value} {R : Ending -> World -> Prop} (h : Calls p f args w R) (hr : ∀ e w', R e w' -> ∃ v, e = .returned v) :
  Calls p f args w fun e w' => R e w' /\ w.drawn <= w'.drawn := fun cs => by
 obtain ⟨e, w', fr, r, s, x⟩ := h cs;refine ⟨e, w', fr, ⟨r, ?_⟩, s, x⟩;obtain ⟨v, rfl⟩ := hr e w' r;obtain ⟨n, hn⟩ := s;exact Ks7 n _ _ hn
end Go

namespace Go.Proofs.YtcicmplfmcloiaaGreat
set_option maxHeartbeats 1000000
open Go.RowKit
def RwG (e : TypeId) (size : Nat) (w : World) (g n c : Nat) (xs : List Value) : Prop := w.ownsRow g e size (.slice (some ⟨g, 0, none⟩) n c) n xs
theorem RwG.obj {e : TypeId} {size : Nat} {w : World} {g n c : Nat} {xs : List Value} (h : RwG e size w g n c xs) : (∃ o, w.heap[g]? = some o) /\ n <= c /\ c <= maxLen := by
  rcases h.2 with ⟨e1, _⟩ | ⟨g', cap, cur, a, hb, hg, hn, hm, r⟩
  · cases e1
  · cases a;exact ⟨⟨_, hg⟩, hn, hm⟩
theorem Pm.rowStartG {e : TypeId} {size : Nat} {w : World} {g n c : Nat} {xs : List Value} (h : RwG e size w g n c xs) : Pm ⟨Ka6 w g, g⟩ (.row (.slice (some ⟨g, 0, none⟩) n c) e size n xs :: KaK g w) w := by
  obtain ⟨⟨o, ho⟩, _⟩ := h.obj;have hp := Pm.mapStart ho;refine ⟨hp.bel, fun q hq => ?_, ?_, hp.oth, hp.low⟩
  · rcases List.mem_cons.1 hq with rfl | hq
    · exact h
    · exact hp.own q (List.mem_cons_of_mem _ hq)
  · have := List.pairwise_cons.1 hp.apart;exact List.Pairwise.cons (fun q hq x hx => this.1 q hq x hx) this.2
theorem Kc7 {w0 : Base} {L : List Pc} {w : World} {k g n c : Nat} {e : TypeId} {size : Nat} {xs : List Value} (h : Pm w0 L w) (hk : L[k]? = some (.row (.slice (some ⟨g, 0, none⟩) n c) e size n xs)) : RwG e size w g n c xs := by
  have h1 := h.at_ hk;refine ⟨h1.1, ?_⟩;rcases h1.2 with ⟨e1, _⟩ | ⟨g', cap, cur, a, hb, r⟩
  · cases e1
  · cases a;exact .inr ⟨g, _, cur, rfl, Nat.le_refl _, r⟩
theorem RwG.head {e : TypeId} {size : Nat} {w : World} {g n c m : Nat} {xs : List Value} (h : RwG e size w g n c xs) (hm : m <= n) : RwG e size w g m c (xs.take (m * size)) := by
  obtain ⟨h1, h2⟩ := h;refine ⟨?_, ?_⟩
  · rw [List.length_take, h1];exact Nat.min_eq_left (Nat.mul_le_mul_right _ hm)
  · rcases h2 with ⟨e1, h2⟩ | ⟨g', cap, cur, a1, hb, hgg, hn, hmx, hs1, ht1⟩
    · cases e1
    · cases a1;refine .inr ⟨g, c, cur, rfl, hb, hgg, by omega, hmx, hs1, ?_⟩;rw [<- ht1, List.take_take, Nat.min_eq_left (Nat.mul_le_mul_right _ hm)]
section
variable {P : Program} {N : Fr} {Q : Exit -> Act -> World -> Prop} {E : Env} {w0 : Base} {L : List Pc} {ops : Array Oper} {l : List Oper} {o : Oper}
end
open Go Go.RowKit Go.Shelf Go.Sort
theorem KpX {w w' : World} (h : Go.RowKit.Below w.heap.size w w') (hd : w.drawn <= w'.drawn) : ∃ q os, w' = grow (w.drewN q) os := by
  refine ⟨w'.drawn - w.drawn, w'.heap.extract w.heap.size w'.heap.size, ?_⟩
  have e1 : w'.heap = w.heap ++ w'.heap.extract w.heap.size w'.heap.size := by
    apply Array.ext_getElem?;intro i;by_cases hi : i < w.heap.size
    · rw [Array.getElem?_append_left hi]; exact h.block i hi
    · rw [Array.getElem?_append_right (by omega), Array.getElem?_extract];by_cases h2 : i < w'.heap.size
      · rw [if_pos (by omega), show w.heap.size + (i - w.heap.size) = i by omega]
      · rw [if_neg (by omega), Array.getElem?_eq_none (by omega)]
  have e2 : w.drawn + (w'.drawn - w.drawn) = w'.drawn := by omega
  have h1 := h.os; have h3 := h.tape; have h4 := h.output;obtain ⟨heap, tape, drawn, os, output⟩ := w;obtain ⟨heap', tape', drawn', os', output'⟩ := w';simp only [World.drewN, grow] at *;subst h1 h3 h4;rw [e2, <- e1]
theorem Ki4 {α : Type} [Inhabited α] {c : α -> List Value} {k : Nat} (K : Cel c k) (l : List α) : (flatK c k l.toArray).toList = Kb c l := by
  apply List.ext_getElem?;intro t;by_cases ht : t < l.length * k
  · have k0 : 0 < k := by rcases Nat.eq_zero_or_pos k with h | h; · subst h; omega
                          · exact h
    have hi : t / k < l.length := Nat.div_lt_of_lt_mul (by rwa [Nat.mul_comm] at ht);obtain ⟨x, hx⟩ : ∃ x, l[t / k]? = some x := ⟨_, List.getElem?_eq_getElem hi⟩;have h1 := Keq K hx (t % k) (Nat.mod_lt _ k0);rw [show t / k * k + t % k = t from by rw [Nat.mul_comm]; exact Nat.div_add_mod t k] at h1;rw [h1]
    have hx2 : l.toArray[t / k]! = x := by
      have := (List.getElem?_eq_some_iff.1 hx);simp [getElem!_pos, hi, this.2]
    have hm : t % k < (c x).length := by rw [K.len]; exact Nat.mod_lt _ k0
    simp [flatK, ht, hx, hm]
  · rw [List.getElem?_eq_none (by simp; omega), List.getElem?_eq_none (by rw [KR K]; omega)]
theorem KsC (cur : Array Value) (ts : Array Value) (h : ts.size <= cur.size) : (putCells id 0 ts cur).toList.take ts.size = ts.toList := by
  apply List.ext_getElem?;intro j;by_cases hj : j < ts.size
  · rw [List.getElem?_take_of_lt hj, Array.getElem?_toList];have : ts[j]! = ts[j] := getElem!_pos ts j hj;simp [putCells, hj, show j < cur.size by omega]
  · rw [List.getElem?_take_eq_none (by omega), List.getElem?_eq_none (by simp; omega)]
def Ka4 {α : Type} (cf : α -> α -> Int) (l l' : List α) : Prop := l'.Perm l /\ l'.Pairwise fun x y => ¬ cf y x < 0
theorem Kgs {P : Program} {ρ : Ren} {α : Type} [Inhabited α] (L : SlLaysF0.n6 P ρ) {c : α -> List Value} {k : Nat} (K : Cel c k) (aE : ∀ w, (isAgg (ρ.t 24)).run P w = .ok true w) (zE : ∀ w, (Go.sizeOf (ρ.t 24)).run P w = .ok k w)
    (cf : α -> α -> Int) (hO : SWO (ltOf cf)) (g : Nat) (eg : ∀ args w, (callFunc g args).run P w = .ok (.enter g args) w) (hcmp : ∀ x y w, Calls P g #[.agg (c x).toArray, .agg (c y).toArray] w fun e w' => e = .returned (.int .i64 (cf x y)) /\ Go.RowKit.Below w.heap.size w w')
    {b n cap : Nat} {e : TypeId} {A : Option Addr} {l : List α} {w : World} (hr : w.ownsRow b e k (.slice A n cap) n (Kb c l)) (hl : l.length = n) (hn : n < 4611686018427387904) :
    Calls P (ρ.f 6) #[.slice A n cap, .func (.func g) #[] #[]] w fun en w' => en = .returned (.tuple #[]) /\ ∃ l', Ka4 cf l l' /\ w'.ownsRow b e k (.slice A n cap) n (Kb c l') /\ w.grownBy w' (Value.ownBlock (.slice A n cap)) := by
  rcases hr.2 with ⟨hv, h0⟩ | ⟨q, cap', cur, hv, hb, hq, h1, h2, h3, h4⟩
  · cases hv;have : l = [] := List.eq_nil_of_length_eq_zero (by omega);subst this;refine (AnyF.slices_SortFunc_none L none 0 _ w).mono fun en w' ⟨h5, h6⟩ => ⟨h5, [], ⟨List.Perm.refl _, List.Pairwise.nil⟩, ?_, ?_⟩
    · rw [h6]; exact hr
    · rw [h6]; exact ⟨rfl, rfl, rfl, Nat.le_refl _, fun _ _ _ => rfl⟩
  · cases hv;have hqs : q < w.heap.size := (Array.getElem?_eq_some_iff.1 hq).1;have hfl : (flatK c k l.toArray).toList = Kb c l := Ki4 K l;have hsz : (flatK c k l.toArray).size = n * k := by simp [hl]
    have hH : HoldsK c k w q 0 l.toArray := by
      intro j hj;rw [hsz] at hj;refine ⟨?_, by simp [World.frozen?, hq]⟩;have h5 : (cur.toList.take (n * k))[j]? = (flatK c k l.toArray).toList[j]? := by rw [h4, hfl]
      rw [List.getElem?_take_of_lt hj, Array.getElem?_toList, Array.getElem?_toList] at h5;simp only [World.cell?, hq, Nat.zero_add, Option.isSome_none, Bool.false_eq_true, if_false];rw [h5, getElem!_pos _ j (by rw [hsz]; exact hj)];exact Array.getElem?_eq_getElem (by rw [hsz]; exact hj)
    have hcl : CmpLays P g #[] c k cf q 0 l.toArray.size w := fun m os dk hs x y =>
      ((hcmp x y _).drawn fun e w' h => ⟨_, h.1⟩).mono fun e w' ⟨⟨h5, h6⟩, h7⟩ => ⟨h5, KpX h6 h7⟩
    have hc := AnyQ.slices_SortFunc L k aE zE c K.len K.one cf hO g #[] q 0 cap l.toArray w eg hcl hH hqs (by simp only [List.size_toArray]; omega);rw [List.size_toArray, hl] at hc;refine hc.mono ?_;rintro en w' ⟨h5, d', m, os, hp, hs, hw⟩;have hds : d'.size = n := by have := hp.1; simpa [hl] using this
    refine ⟨h5, d'.toList, ⟨?_, ?_⟩, ?_, ?_⟩
    · have h6 := hp.2.2;rw [show d'.extract 0 n = d' from by rw [<- hds]; exact Array.extract_size, show l.toArray.extract 0 n = l.toArray from by rw [<- hl, <- List.size_toArray]; exact Array.extract_size] at h6
      simpa using h6
    · rw [List.pairwise_iff_getElem];intro i j hi hj hij;have hi' : i < d'.size := by simpa using hi
      have hj' : j < d'.size := by simpa using hj
      have h6 := hs i j (Nat.zero_le _) hij (by omega);rw [getElem!_pos _ i hi', getElem!_pos _ j hj'] at h6;simp only [ltOf, decide_eq_false_iff_not] at h6
      simpa using h6
    · have hsz2 : (flatK c k d').size = n * k := by simp [hds]
      have hfl2 : (flatK c k d').toList = Kb c d'.toList := by have := Ki4 K d'.toList; simpa using this
      refine ⟨by rw [KR K, Array.length_toList, hds], .inr ⟨q, cap, putCells id 0 (flatK c k d') cur, rfl, hb, ?_, h1, h2, by simp [putCells, h3], ?_⟩⟩
      · rw [hw];unfold sortWorldK putRowK;rw [heap_grow_old _ _ (by simpa using hqs)];simp [putRow, mapBlock, Sort.ahead, Array.getElem?_modify, hq, onCells]
      · have hle : n * k <= cap * k := Nat.mul_le_mul_right _ h1;rw [<- hsz2, KsC _ _ (by rw [hsz2, h3]; exact hle), hfl2]
    · rw [hw];refine ⟨rfl, rfl, rfl, by unfold sortWorldK putRowK; simp, fun i hi hne => ?_⟩;unfold sortWorldK putRowK;rw [heap_grow_old _ _ (by simpa using hi)];have : q ≠ i := fun e => hne (by rw [e]; rfl);simp [putRow, mapBlock, Sort.ahead, Array.getElem?_modify, this]
theorem Kf4 {α : Type} (key : α -> List Int) {n : Nat} (hk : ∀ x, (key x).length = n) : SWO (ltOf fun x y => KH (key x) (key y)) := by
  have hl : ∀ x y, (key x).length = (key y).length := fun x y => by rw [hk, hk]
  refine ⟨fun x => ?_, fun x y z h1 h2 => ?_, fun x y z h1 h2 => ?_⟩
  · simp [ltOf, KhM]
  · simp only [ltOf, decide_eq_true_eq] at h1 h2 ⊢;exact (Kex (hl x y) (hl y z) (by omega) (by omega)).2 (.inl h1)
  · simp only [ltOf, decide_eq_false_iff_not] at h1 h2 ⊢;have a1 : KH (key y) (key x) <= 0 := by have := @Kcg (key y) (key x) (hl y x); have := @Kcg (key x) (key y) (hl x y); omega
    have a2 : KH (key z) (key y) <= 0 := by have := @Kcg (key z) (key y) (hl z y); have := @Kcg (key y) (key z) (hl y z); omega
    have := (Kex (hl z y) (hl y x) a2 a1).1;have := @Kcg (key x) (key z) (hl x z); have := @Kcg (key z) (key x) (hl z x);omega
section
variable {P : Program} {N : Fr} {Q : Exit -> Act -> World -> Prop} {E : Env} {w0 : Base} {L : List Pc} {ops : Array Oper} {l : List Oper} {o : Oper} {α : Type} {c : α -> List Value}
theorem TL.turnRowD {d k n cap : Nat} {A : Option Addr} {e : TypeId} {size : Nat} {xs : List α} {f : FuncId} {fn : Func} {es : List Operand} {ts : Array TypeId} {vs : List Value} (M : List α -> Prop) (hg : o.guard = none) (hd : o.dst = some d) (hN : Nat.blt d N.n = true)
    (ho : o.op = .call { callee := .value (.func f), args := es.toArray, argTypes := ts }) (hx : evs E es = some vs) (hf : P.funcs[f]? = some fn) (hn : (fn.name == "runtime.NumGoroutine") = false) (hb : fn.body.isNone = false)
    (hk : L[k]? = some (.row (.slice A n cap) e size n (Kb c xs))) (hc : ∀ w, Pm w0 L w -> w.ownsRow w0.b e size (.slice A n cap) n (Kb c xs) -> Calls P f vs.toArray w fun en w' => en = .returned (.tuple #[]) /\ ∃ ys, M ys /\ w'.ownsRow w0.b e size (.slice A n cap) n (Kb c ys) /\ w.grownBy w' (Value.ownBlock (.slice A n cap)))
    (h : ∀ ys, M ys -> TL P N ops Q l ((d, .tuple #[]) :: E) (Pm w0 (L.set k (.row (.slice A n cap) e size n (Kb c ys))))) : TL P N ops Q (o :: l) E (Pm w0 L) :=
  TL.call (α := {ys : List α // M ys}) (r := fun _ => .tuple #[]) (I' := fun y => Pm w0 (L.set k (.row (.slice A n cap) e size n (Kb c y.1)))) hg hd hN ho hx hf hn hb (fun w hw => (hc w hw (hw.at_ hk)).mono fun en w' ⟨he, ys, h1, h2, h3⟩ => ⟨⟨ys, h1⟩, he, by
    cases A with
    | none =>
      have hE : w.grownBy w' none := h3;exact hw.turn hk hE h2 (fun g hg => by cases hg) (fun _ _ e => by cases e)
    | some q => exact hw.turn hk h3 h2 (fun g' hg' => .inl hg') (fun _ _ e => by cases e)⟩) (fun y => h y.1 y.2)
end
section
variable {α : Type} [DecidableEq α]
def Kw : List α -> List α
  | [] => []
  | [a] => [a]
  | a :: b :: l => if a = b then Kw (b :: l) else a :: Kw (b :: l)
theorem KkX : ∀ (l : List α) (a : α), Kw (l ++ [a]) = if l.getLast? = some a then Kw l else Kw l ++ [a]
  | [], a => by simp [Kw]
  | [b], a => by
    show Kw [b, a] = _;simp only [Kw, List.getLast?_singleton, Option.some.injEq];split
    · rename_i h; rw [h]
    · rfl
  | b :: d :: l, a => by
    have ih := KkX (d :: l) a;have e : (b :: d :: l).getLast? = (d :: l).getLast? := by rw [List.getLast?_cons_cons]
    rw [e];show Kw (b :: d :: (l ++ [a])) = _;rw [Kw];have ih' : Kw (d :: (l ++ [a])) = if (d :: l).getLast? = some a then Kw (d :: l) else Kw (d :: l) ++ [a] := ih;rw [ih', Kw];split <;> split <;> simp
theorem KfY (x : α) : ∀ l : List α, x ∈ Kw l ↔ x ∈ l
  | [] => Iff.rfl
  | [a] => Iff.rfl
  | a :: b :: l => by
    have ih := KfY x (b :: l);rw [Kw];split
    · rename_i h;rw [ih, h, List.mem_cons, List.mem_cons, List.mem_cons];constructor
      · exact fun hh => .inr hh
      · rintro (hh | hh)
        · exact .inl hh
        · exact hh
    · rw [List.mem_cons, ih, List.mem_cons, List.mem_cons];simp [List.mem_cons]
theorem KgF : ∀ l : List α, (Kw l).length <= l.length
  | [] => Nat.le_refl _
  | [a] => Nat.le_refl _
  | a :: b :: l => by
    have ih := KgF (b :: l);rw [Kw];split
    · exact Nat.le_trans ih (Nat.le_succ _)
    · simpa using ih
theorem Kck {l : List α} {k : Nat} {x y : α} (hx : l[k]? = some x) (hy : l[k - 1]? = some y) (hk : 1 <= k) : Kw (l.take (k + 1)) = if y = x then Kw (l.take k) else Kw (l.take k) ++ [x] := by
  rw [List.take_add_one, hx];show Kw (l.take k ++ [x]) = _;rw [KkX]
  have : (l.take k).getLast? = some y := by
    rw [List.getLast?_eq_getElem?, List.length_take, Nat.min_eq_left (by have := (List.getElem?_eq_some_iff.1 hx).1; omega), List.getElem?_take_of_lt (by omega), hy]
  rw [this];simp only [Option.some.injEq]
theorem Kme : ∀ l : List α, Kw (l.take 1) = l.take 1
  | [] => rfl
  | a :: l => rfl
theorem Kmt {l : List α} (h : l.length < 2) : Kw l = l := by
  match l, h with
  | [], _ => rfl
  | [a], _ => rfl
end
section
variable {P : Program} {N : Fr} {Q : Exit -> Act -> World -> Prop} {E : Env} {w0 : Base} {L : List Pc} {ops : Array Oper} {l : List Oper} {o : Oper} {α : Type} {c : α -> List Value} {k : Nat}
theorem Ksx (K : Cel c k) (z : α) (m : Nat) : (Builtin.zeroCells (c z).toArray m).toList = Kb c (List.replicate m z) := by
  apply List.ext_getElem?;intro t;by_cases ht : t < m * k
  · have k0 : 0 < k := by rcases Nat.eq_zero_or_pos k with h | h; · subst h; omega
                          · exact h
    have hi : t / k < m := Nat.div_lt_of_lt_mul (by rwa [Nat.mul_comm] at ht);have hx : (List.replicate m z)[t / k]? = some z := by rw [List.getElem?_replicate, if_pos hi]
    have h1 := Keq K hx (t % k) (Nat.mod_lt _ k0);rw [show t / k * k + t % k = t from by rw [Nat.mul_comm]; exact Nat.div_add_mod t k] at h1;rw [h1];have hm : t % k < (c z).length := by rw [K.len]; exact Nat.mod_lt _ k0
    simp [Builtin.zeroCells, K.len, ht, hm];rw [List.getElem?_eq_getElem hm, Option.getD_some]
  · rw [List.getElem?_eq_none (by simp [Builtin.zeroCells, K.len]; omega), List.getElem?_eq_none (by rw [KR K]; simp; omega)]
theorem Kgo {t : TypeId} {x lo : Operand} {I : World -> Prop} {g n cc size q : Nat} {qk : IntKind} {z : Int} (ho : o.op = .slice t x (some lo) none none) (hx : ev E x = some (.slice (some ⟨g, 0, none⟩) n cc)) (hl : ev E lo = some (.int qk z)) (hz : z = (q : Int)) (ht : P.underlying t = some (.slice (P.elem t))) (hs : ∀ w : World, (sizeOf (P.elem t)).run P w = .ok size w) (hk : q < cc) (hn : q <= n) :
    Kv P N o E I (.slice (some ⟨g, q * size, none⟩) (n - q) (cc - q)) := KtM ho hx hl fun w => by
  have h := KpR (P := P) ht hs (some ⟨g, 0, none⟩) n cc q (k := qk) hz hn w;rw [if_neg (by omega), Option.map_some] at h;have : (⟨g, 0, none⟩ : Addr).add (q * size) = ⟨g, q * size, none⟩ := by unfold Addr.add; split <;> simp_all
  rwa [this] at h
theorem KcX {t e : TypeId} {size : Nat} (ht : P.underlying t = some (.slice e)) (hs : ∀ w : World, (sizeOf e).run P w = .ok size w) (g q n cc i : Nat) (hi : i < n) {z : Int} (hz : z = (i : Int)) (w : World) :
    (Instr.indexAt t (.slice (some ⟨g, q * size, none⟩) n cc) (.int .i64 z)).run P w = .ok (.pointer (some ⟨g, 0 + (q + i) * size, none⟩)) w := by
  have := KgJ (P := P) ht hs (A := some ⟨g, q * size, none⟩) (b := g) (off := q * size) rfl n cc i hi hz w;rwa [show q * size + i * size = 0 + (q + i) * size by rw [Nat.add_mul]; omega] at this
theorem TL.clearF (K : Cel c k) {t e : TypeId} {s : Operand} {g q n cc m cc2 kk : Nat} {z : α} {xs : List α} (hg : o.guard = none) (hd : o.dst = none) (ho : o.op = .call { callee := .builtin .clear, args := #[s], argTypes := #[t] }) (hs : ev E s = some (.slice (some ⟨g, q * k, none⟩) m cc2))
    (ht : P.underlying t = some (.slice e)) (hz : ∀ w : World, (zeroValue e).run P w = .ok (.agg (c z).toArray) w) (hm : 0 < m) (hq : q + m = xs.length)
    (hk : L[kk]? = some (.row (.slice (some ⟨g, 0, none⟩) n cc) e k n (Kb c xs)))
    (h : TL P N ops Q l E (Pm w0 (L.set kk (.row (.slice (some ⟨g, 0, none⟩) n cc) e k n (Kb c (xs.take q ++ List.replicate m z)))))) : TL P N ops Q (o :: l) E (Pm w0 L) := by
  have e1 : (Kb c (List.replicate m z)).length = m * k := by rw [KR K, List.length_replicate]
  have e2 : (Kb c xs).length = q * k + m * k := by rw [KR K, <- hq, Nat.add_mul]
  refine TL.rowclear (zs := Kb c (List.replicate m z)) hg hd ho hs ht hz (Ksx K z m) (KB K _) hm hk (by rw [e1, e2]; omega) (xs' := Kb c (xs.take q ++ List.replicate m z)) ?_ h;rw [e1, List.drop_of_length_le (by rw [e2]; omega), List.append_nil, KD, Kgn K]
theorem TL.headF (K : Cel c k) {d kk n cc hi : Nat} {t e : TypeId} {x y : Operand} {k2 : IntKind} {A : Option Addr} {xs : List α} (hg : o.guard = none) (hd : o.dst = some d) (hN : Nat.blt d N.n = true)
    (ho : o.op = .slice t x none (some y) none) (hx : ev E x = some (.slice A n cc)) (hy : ev E y = some (.int k2 (hi : Int))) (ht : P.underlying t = some (.slice (P.elem t))) (hs : ∀ w : World, (sizeOf (P.elem t)).run P w = .ok k w)
    (hk : L[kk]? = some (.row (.slice A n cc) e k n (Kb c xs))) (hh : hi <= n) (hc : n <= cc)
    (h : TL P N ops Q l ((d, .slice A hi cc) :: E) (Pm w0 (L.set kk (.row (.slice A hi cc) e k hi (Kb c (xs.take hi)))))) : TL P N ops Q (o :: l) E (Pm w0 L) :=
  TL.rowhead hg hd hN ho hx hy ht hs hk hh hc (Kgn K xs hi) h
theorem TL.turnRow2 {d q n cap m : Nat} {A : Option Addr} {e : TypeId} {size : Nat} {xs ys : List α} {f : FuncId} {fn : Func} {es : List Operand} {ts : Array TypeId} {vs : List Value} (hg : o.guard = none) (hd : o.dst = some d) (hN : Nat.blt d N.n = true)
    (ho : o.op = .call { callee := .value (.func f), args := es.toArray, argTypes := ts }) (hx : evs E es = some vs) (hf : P.funcs[f]? = some fn) (hn : (fn.name == "runtime.NumGoroutine") = false) (hb : fn.body.isNone = false)
    (hk : L[q]? = some (.row (.slice A n cap) e size n (Kb c xs))) (hc : ∀ w, Pm w0 L w -> w.ownsRow w0.b e size (.slice A n cap) n (Kb c xs) -> Calls P f vs.toArray w fun en w' => en = .returned (.slice A m cap) /\ w'.ownsRow w0.b e size (.slice A m cap) m (Kb c ys) /\ w.grownBy w' (Value.ownBlock (.slice A n cap)))
    (h : TL P N ops Q l ((d, .slice A m cap) :: E) (Pm w0 (L.set q (.row (.slice A m cap) e size m (Kb c ys))))) : TL P N ops Q (o :: l) E (Pm w0 L) :=
  TL.call (α := Unit) (r := fun _ => .slice A m cap) (I' := fun _ => Pm w0 (L.set q (.row (.slice A m cap) e size m (Kb c ys)))) hg hd hN ho hx hf hn hb (fun w hw => (hc w hw (hw.at_ hk)).mono fun en w' ⟨he, hr, hgr⟩ => ⟨(), he, by
    cases A with
    | none =>
      have hE : w.grownBy w' none := hgr;exact hw.turn hk hE hr (fun g hg => by cases hg) (fun _ _ e => by cases e)
    | some a => exact hw.turn hk hgr hr (fun g' hg' => .inl hg') (fun _ _ e => by cases e)⟩) (fun _ => h)
end
section
variable {α : Type} {key : α -> List Int} {n : Nat}
def Kbc (key : α -> List Int) (l : List α) : Prop := l.Pairwise fun x y => KH (key x) (key y) < 0
theorem Kcc (x : α) : ¬ KH (key x) (key x) < 0 := by rw [KhM]; omega
theorem KmR (hk : ∀ x, (key x).length = n) {x y z : α} (h1 : KH (key x) (key y) < 0) (h2 : KH (key y) (key z) < 0) : KH (key x) (key z) < 0 :=
  (Kex (by rw [hk, hk]) (by rw [hk, hk]) (by omega) (by omega)).2 (.inl h1)
theorem KsF (hk : ∀ x, (key x).length = n) {x y : α} (h1 : KH (key x) (key y) < 0) (h2 : KH (key y) (key x) < 0) : False := Kcc x (KmR hk h1 h2)
theorem KiL (hk : ∀ x, (key x).length = n) {x y : α} : 0 < KH (key x) (key y) ↔ KH (key y) (key x) < 0 := (Kcg (by rw [hk, hk])).symm
theorem Kgt (hk : ∀ x, (key x).length = n) : ∀ {a b : List α}, Kbc key a -> Kbc key b -> (∀ x, x ∈ a ↔ x ∈ b) -> a = b
  | [], [], _, _, _ => rfl
  | [], y :: b, _, _, h => absurd ((h y).2 List.mem_cons_self) List.not_mem_nil
  | x :: a, [], _, _, h => absurd ((h x).1 List.mem_cons_self) List.not_mem_nil
  | x :: a, y :: b, ha, hb, h => by
    obtain ⟨a1, a2⟩ := List.pairwise_cons.1 ha;obtain ⟨b1, b2⟩ := List.pairwise_cons.1 hb
    have hxy : x = y := by
      rcases List.mem_cons.1 ((h x).1 List.mem_cons_self) with e | e
      · exact e
      · rcases List.mem_cons.1 ((h y).2 List.mem_cons_self) with e2 | e2
        · exact e2.symm
        · exact (KsF hk (a1 y e2) (b1 x e)).elim
    subst hxy;rw [Kgt hk a2 b2 fun z => ?_];constructor
    · intro hz;rcases List.mem_cons.1 ((h z).1 (List.mem_cons_of_mem _ hz)) with e | e
      · subst e; exact absurd (a1 z hz) (Kcc z)
      · exact e
    · intro hz;rcases List.mem_cons.1 ((h z).2 (List.mem_cons_of_mem _ hz)) with e | e
      · subst e; exact absurd (b1 z hz) (Kcc z)
      · exact e
theorem KhQ [DecidableEq α] (hk : ∀ x, (key x).length = n) : ∀ (l : List α), l.Pairwise (fun x y => ¬ KH (key y) (key x) < 0) -> (∀ x ∈ l, ∀ y ∈ l, key x = key y -> x = y) -> Kbc key (Kw l)
  | [], _, _ => List.Pairwise.nil
  | [a], _, _ => List.pairwise_singleton _ _
  | a :: b :: l, h, hi => by
    obtain ⟨h1, h2⟩ := List.pairwise_cons.1 h;have ih := KhQ hk (b :: l) h2 fun x hx y hy => hi x (List.mem_cons_of_mem _ hx) y (List.mem_cons_of_mem _ hy);rw [Kw];split
    · exact ih
    · rename_i hne;refine List.pairwise_cons.2 ⟨fun y hy => ?_, ih⟩;have hy2 := (KfY y (b :: l)).1 hy
      have hle : ∀ z, z ∈ b :: l -> KH (key a) (key z) <= 0 := fun z hz => by
        have e1 := h1 z hz;have e2 := @KiL _ key n hk a z;omega
      have hab : KH (key a) (key b) < 0 := by
        have e0 := hle b List.mem_cons_self;rcases Int.lt_or_eq_of_le e0 with e | e
        · exact e
        · exact absurd (hi a List.mem_cons_self b (List.mem_cons_of_mem _ List.mem_cons_self) ((Kgi (by rw [hk, hk])).1 e)) hne
      have hby : KH (key b) (key y) <= 0 := by
        rcases List.mem_cons.1 hy2 with e | e
        · rw [e, KhM]; exact Int.le_refl _
        · have e1 := (List.pairwise_cons.1 h2).1 y e;have e2 := @KiL _ key n hk b y;omega
      exact (Kex (by rw [hk, hk]) (by rw [hk, hk]) (by omega) hby).2 (.inl hab)
theorem Kq4 (hk : ∀ x, (key x).length = n) {o : List α} {q : Nat} {x : α} (h : Kbc key o) (h1 : ∀ y ∈ o.take q, KH (key y) (key x) < 0) (h2 : ∀ y ∈ o.drop q, KH (key x) (key y) < 0) : Kbc key (o.take q ++ x :: o.drop q) := by
  refine List.pairwise_append.2 ⟨h.sublist (List.take_sublist _ _), List.pairwise_cons.2 ⟨h2, h.sublist (List.drop_sublist _ _)⟩, fun a ha b hb => ?_⟩;rcases List.mem_cons.1 hb with e | e
  · rw [e]; exact h1 a ha
  · exact KmR hk (h1 a ha) (h2 b e)
theorem KqQ {o : List α} {q : Nat} {x z : α} : z ∈ o.take q ++ x :: o.drop q ↔ z ∈ o \/ z = x := by
  rw [List.mem_append, List.mem_cons];have : z ∈ o ↔ z ∈ o.take q \/ z ∈ o.drop q := by rw [<- List.mem_append, List.take_append_drop]
  rw [this];constructor
  · rintro (h | h | h)
    · exact .inl (.inl h)
    · exact .inr h
    · exact .inl (.inr h)
  · rintro ((h | h) | h)
    · exact .inl h
    · exact .inr (.inr h)
    · exact .inr (.inl h)
end
section
variable {P : Program} {N : Fr} {E : Env} {w0 : Base} {L : List Pc} {o : Oper} {κ : Type} {enc : κ -> Value} {Ok : κ -> Prop} {t k e : TypeId}
theorem Kiv {x y : Operand} {g : Nat} {ob : Obj} {f : κ -> Option Value} {a : κ} {z : Value} (ho : o.op = .lookup t x y true) (hx : ev E x = some (.map (some g))) (hy : ev E y = some (enc a)) (K : MKey P k enc Ok) (ht : P.underlying t = some (.map k e)) (hz : ∀ w : World, (zeroValue e).run P w = .ok z w) (hg : w0.w.heap[g]? = some ob) (hm : K8 enc Ok ob f) (ha : Ok a) {v : Value} {b : Bool} (hv : (f a).getD z = v) (hb : (f a).isSome = b) :
    Kv P N o E (Pm w0 L) (.tuple #[v, .bool b]) := fun ac w hac hw => by
  have hnc : ob.isCells = false := by obtain ⟨_, _, he, _⟩ := hm; rw [he]; rfl
  unfold execOp; rw [ho];subst hv hb;simp [hac.eval hx, hac.eval hy, hm.look K ht hz (hw.oth.same g ob hg hnc) ha true]
theorem Kc5 {α : Type} : ∀ {p F : List α}, p.Nodup -> (∀ f ∈ p, f ∈ F) -> p.length <= F.length := by
  classical
  intro p F hp hs
  induction p generalizing F with
  | nil => exact Nat.zero_le _
  | cons x p ih =>
    obtain ⟨h1, h2⟩ := List.nodup_cons.1 hp;have hx := hs x List.mem_cons_self;have h3 := ih (F := F.erase x) h2 fun f hf => (List.mem_erase_of_ne (fun (e : f = x) => h1 (e ▸ hf))).2 (hs f (List.mem_cons_of_mem _ hf));rw [List.length_erase_of_mem hx] at h3;have := List.length_pos_of_mem hx;rw [List.length_cons];omega
theorem K8.size {es : Array MapEntry} {clock : Nat} {f : κ -> Option Value} (h : K8 enc Ok (.map es clock) f) (K : MKey P k enc Ok) {ks : List κ} (hn : ks.Nodup) (hk : ∀ a, f a ≠ none ↔ a ∈ ks) : es.size = ks.length := by
  obtain ⟨es', clock', he, h1, h2, h3⟩ := h;cases he;have hl : es.size = (es.toList.map (·.key)).length := by rw [List.length_map, Array.length_toList]
  rw [hl, <- (List.length_map enc : (ks.map enc).length = ks.length)];refine Nat.le_antisymm (Kc5 h2 fun v hv => ?_) (Kc5 (List.pairwise_map.2 (hn.imp fun {a b} hab e => hab (K.inj a b e))) fun v hv => ?_)
  · obtain ⟨e, he, rfl⟩ := List.mem_map.1 hv;obtain ⟨a, ha, hea⟩ := h1 e he;exact List.mem_map.2 ⟨a, (hk a).1 (fun hn => by rw [(h3 a e.val).2 ⟨e, he, hea, rfl⟩] at hn; cases hn), hea.symm⟩
  · obtain ⟨a, ha, rfl⟩ := List.mem_map.1 hv
    cases hf : f a with
    | none => exact absurd hf ((hk a).2 ha)
    | some v =>
      obtain ⟨e, he, hea, _⟩ := (h3 a v).1 hf;exact List.mem_map.2 ⟨e, he, hea⟩
theorem KuA {x : Operand} {g i : Nat} {ob : Obj} {f : κ -> Option Value} (ho : o.op = .call { callee := .builtin .len, args := #[x], argTypes := #[t] }) (hx : ev E x = some (.map (some g))) (K : MKey P k enc Ok) (ht : P.underlying t = some (.map (P.mapKeyOf t) (P.mapElemOf t))) (hk : L[i]? = some (.oth g ob)) (hm : K8 enc Ok ob f) {ks : List κ} (hn : ks.Nodup) (hks : ∀ a, f a ≠ none ↔ a ∈ ks) :
    Kv P N o E (Pm w0 L) (.int .i64 ((ks.length : Nat) : Int)) := fun ac w hac hw => by
  obtain ⟨es, clock, he, _⟩ := id hm;subst he;have hs := hm.size K hn hks;unfold execOp; rw [ho];simp only [resolve, invoke, builtin, Sem.run_bind, Sem.run_pure, Result.andThen_ok, List.map_toArray, List.map_cons, List.map_nil, hac.eval hx];have h := run_len_map (P := P) (w := w) t o.type g es clock ht (hw.at_ hk).1;rw [hs] at h;simp only [h, Result.andThen_ok]
  rfl
end
def KM {κ : Type} (enc : κ -> Value) (Ok : κ -> Prop) (o : Obj) (f : κ -> Option Value) : Prop :=
 ∃ (es : Array MapEntry) (clock : Nat), o = .map es clock /\ K8 enc Ok o f /\ (es.toList.map (·.born)).Nodup /\ ∀ e ∈ es.toList, e.born < clock
def Kek {κ : Type} (enc : κ -> Value) (o : Obj) (a : κ) (s : Nat) : Prop := ∃ (es : Array MapEntry) (clock : Nat), o = .map es clock /\ ∃ (j : Nat) (e : MapEntry), es[j]? = some e /\ e.key = enc a /\ e.born = s
section
variable {P : Program} {t k e : TypeId} {κ : Type} {enc : κ -> Value} {Ok : κ -> Prop} {o : Obj} {g : Nat} {f : κ -> Option Value} {w : World}
theorem KiA (enc : κ -> Value) (Ok : κ -> Prop) : KM enc Ok (.map #[] 0) (fun _ => none) := ⟨#[], 0, rfl, Kgk enc Ok, List.nodup_nil, fun e h => absurd h List.not_mem_nil⟩
theorem KM.toG (h : KM enc Ok o f) : K8 enc Ok o f := by obtain ⟨_, _, _, h1, _⟩ := h; exact h1
theorem Kir (es : Array MapEntry) (j : Nat) (F : MapEntry -> MapEntry) {e : MapEntry} (h : es[j]? = some e) : (es.modify j F).toList = es.toList.set j (F e) := by
 have hjl := (Array.getElem?_eq_some_iff.1 h).1;refine List.ext_getElem? fun i => ?_;rw [Array.getElem?_toList, Array.getElem?_modify, List.getElem?_set];by_cases e1 : j = i
 ·subst e1;rw [if_pos rfl, if_pos rfl, h, if_pos (by simpa using hjl)]
  rfl
 ·rw [if_neg e1, if_neg e1, Array.getElem?_toList]
theorem Ki1 {es : Array MapEntry} {clock : Nat} (h1 : (es.toList.map (·.born)).Nodup) (h2 : ∀ e ∈ es.toList, e.born < clock) (x : Value) (v : Value) :
  (((es.push ⟨x, v, clock⟩).toList.map (·.born)).Nodup) /\ ∀ e ∈ (es.push ⟨x, v, clock⟩).toList, e.born < clock + 1 := by
 constructor
 ·simp only [Array.toList_push, List.map_append, List.map_cons, List.map_nil];refine List.nodup_append.2 ⟨h1, List.pairwise_singleton _ _, fun a ha b hb e1 => ?_⟩;rw [List.mem_singleton] at hb;obtain ⟨e2, he2, e3⟩ := List.mem_map.1 ha;have := h2 e2 he2;omega
 ·intro e he;simp only [Array.toList_push, List.mem_append, List.mem_singleton] at he;rcases he with he | he
  ·have := h2 e he; omega
  ·rw [he]; exact Nat.lt_succ_self _
theorem KlO {es : Array MapEntry} {clock j : Nat} {e : MapEntry} (h1 : (es.toList.map (·.born)).Nodup) (h2 : ∀ e ∈ es.toList, e.born < clock) (hj : es[j]? = some e) (F : MapEntry -> MapEntry) (hF : (F e).born = e.born) :
  (((es.modify j F).toList.map (·.born)).Nodup) /\ ∀ e ∈ (es.modify j F).toList, e.born < clock := by
 rw [Kir es j F hj];constructor
 ·have : (es.toList.set j (F e)).map (·.born) = es.toList.map (·.born) := by
   rw [List.map_set];refine List.ext_getElem? fun i => ?_;rw [List.getElem?_set];by_cases e1 : j = i
   ·subst e1;rw [if_pos rfl, if_pos (by rw [List.length_map, Array.length_toList]; exact (Array.getElem?_eq_some_iff.1 hj).1), List.getElem?_map, Array.getElem?_toList, hj];simp [hF]
   ·rw [if_neg e1]
  rw [this]; exact h1
 ·intro x hx;rcases List.mem_or_eq_of_mem_set hx with h3 | h3
  ·exact h2 x h3
  ·rw [h3, hF]; exact h2 e (List.mem_of_getElem? (i := j) (by rw [Array.getElem?_toList]; exact hj))
theorem KM.put (h : KM enc Ok o f) (K : MKey P k enc Ok) (ht : P.underlying t = some (.map k e)) (hb : w.heap[g]? = some o) {a : κ} (ha : Ok a) (v : Value) [DecidableEq κ] :
  ∃ o' w', (Instr.mapUpdate t (.map (some g)) (enc a) v).run P w = .ok () w' /\ w' = w.putObj g o' /\ KM enc Ok o' (fun x => if x = a then some v else f x) /\
   ∃ (es : Array MapEntry) (clock : Nat), o = .map es clock /\ ((o' = .map (es.push ⟨enc a, v, clock⟩) (clock + 1) /\ f a = none /\ (Instr.findKey k (enc a) es.toList).run P w = .ok none w) \/ ∃ j e, es[j]? = some e /\ e.key = enc a /\ f a = some e.val /\ o' = .map (es.modify j fun e => { key := enc a, val := v, born := e.born }) clock /\ (Instr.findKey k (enc a) es.toList).run P w = .ok (some (j, e.val)) w) := by
 obtain ⟨es, clock, he, hG, hn, hlt⟩ := id h;obtain ⟨o1, w1, hrun, hob, hG1, _⟩ := hG.put K ht hb ha v;subst he;obtain ⟨l, hl⟩ := K.lit a ha;have hck := K.keyed.check w false hl;have hst := K.keyed.stays w hl;have hgo : (getObj g).run P w = .ok (.map es clock) w := by simp [getObj, Sem.run, hb]
 have hgl : g < w.heap.size := (Array.getElem?_eq_some_iff.1 hb).1;have hso : ∀ ob : Obj, (setObj g ob).run P w = .ok () (w.putObj g ob) := fun ob => by simp [setObj, Sem.run, hb, World.putObj]
 have hput : ∀ ob : Obj, (w.putObj g ob).heap[g]? = some ob := fun ob => by simp [World.putObj, hgl]
 rcases hG.find K ha w with ⟨h1, h2⟩ | ⟨j, e', h1, h2, h3, h4⟩
 ·have hr : (Instr.mapUpdate t (.map (some g)) (enc a) v).run P w = .ok () (w.putObj g (.map (es.push ⟨enc a, v, clock⟩) (clock + 1))) := by
   unfold Instr.mapUpdate;simp [run_underlying ht, hgo, hck, h1, hso]
  rw [hr] at hrun;cases hrun;rw [hput] at hob;cases hob;exact ⟨_, _, hr, rfl, ⟨_, _, rfl, hG1, (Ki1 hn hlt _ _).1, (Ki1 hn hlt _ _).2⟩, es, clock, rfl, .inl ⟨rfl, h2, h1⟩⟩
 ·have hr : (Instr.mapUpdate t (.map (some g)) (enc a) v).run P w = .ok () (w.putObj g (.map (es.modify j fun e => { key := enc a, val := v, born := e.born }) clock)) := by
   unfold Instr.mapUpdate;simp [run_underlying ht, hgo, hck, h1, h2, h3, hst, hso]
  rw [hr] at hrun;cases hrun;rw [hput] at hob;cases hob;exact ⟨_, _, hr, rfl, ⟨_, _, rfl, hG1, (KlO hn hlt h2 _ rfl).1, (KlO hn hlt h2 _ rfl).2⟩, es, clock, rfl, .inr ⟨j, e', h2, h3, h4, rfl, h1⟩⟩
theorem Kk4 (es : Array MapEntry) (j : Nat) (F G : MapEntry -> MapEntry) {e : MapEntry} (h : es[j]? = some e) (hE : F e = G e) : es.modify j F = es.modify j G := by
 apply Array.toList_inj.1;rw [Kir es j F h, Kir es j G h, hE]
theorem KM.entry (h : KM enc Ok o f) (K : MKey P k enc Ok) (ht : P.underlying t = some (.map k e)) {z : Value} (hz : ∀ w : World, (zeroValue e).run P w = .ok z w) (hb : w.heap[g]? = some o) {a : κ} (ha : Ok a) [DecidableEq κ] :
  ∃ o' s, (Instr.mapEntry t (.map (some g)) (enc a)).run P w = .ok (.tuple #[(f a).getD z, .int .i64 ((s : Nat) : Int)]) (w.putObj g o') /\ KM enc Ok o' (fun x => if x = a then some ((f a).getD z) else f x) /\ Kek enc o' a s := by
 obtain ⟨o', w', _, _, hR, es, clock, he, hc⟩ := h.put K ht hb ha ((f a).getD z);subst he;obtain ⟨l, hl⟩ := K.lit a ha;have hck := K.keyed.check w false hl;have hst := K.keyed.stays w hl;have hgo : (getObj g).run P w = .ok (.map es clock) w := by simp [getObj, Sem.run, hb]
 have hso : ∀ ob : Obj, (setObj g ob).run P w = .ok () (w.putObj g ob) := fun ob => by simp [setObj, Sem.run, hb, World.putObj]
 rcases hc with ⟨h1, h2, h3⟩ | ⟨j, e', h1, h2, h3, h4, h5⟩
 ·subst h1;refine ⟨_, clock, ?_, hR, _, _, rfl, es.size, ⟨enc a, (f a).getD z, clock⟩, by simp, rfl, rfl⟩;unfold Instr.mapEntry;simp [run_underlying ht, hgo, hck, h3, hz, hso, h2]
  rfl
 ·subst h4;have hm : (es.modify j fun e => { e with key := enc a }) = es.modify j fun e => { key := enc a, val := (f a).getD z, born := e.born } := Kk4 es j _ _ h1 (by rw [h3]; rfl);refine ⟨_, e'.born, ?_, hR, _, _, rfl, j, ⟨enc a, (f a).getD z, e'.born⟩, by rw [Array.getElem?_modify, if_pos rfl, h1]; rfl, rfl, rfl⟩;unfold Instr.mapEntry;simp [run_underlying ht, hgo, hck, h5, h1, h2, hst, hso, hm];rw [h3];exact ⟨rfl, rfl⟩
theorem KM.store (h : KM enc Ok o f) (K : MKey P k enc Ok) (ht : P.underlying t = some (.map k e)) (hb : w.heap[g]? = some o) {a : κ} (ha : Ok a) {s : Nat} (hs : Kek enc o a s) (v : Value) [DecidableEq κ] :
  ∃ o', (Instr.entryStore t (.map (some g)) (.int .i64 ((s : Nat) : Int)) v).run P w = .ok () (w.putObj g o') /\ KM enc Ok o' (fun x => if x = a then some v else f x) := by
 obtain ⟨o', w', _, _, hR, es, clock, he, hc⟩ := h.put K ht hb ha v;obtain ⟨es1, clock1, he1, hG, hn, hlt⟩ := h;rw [he] at he1;cases he1;subst he;obtain ⟨es2, clock2, he2, q, e2, hq, hqk, hqs⟩ := hs;cases he2;have hgo : (getObj g).run P w = .ok (.map es clock) w := by simp [getObj, Sem.run, hb]
 have hso : ∀ ob : Obj, (setObj g ob).run P w = .ok () (w.putObj g ob) := fun ob => by simp [setObj, Sem.run, hb, World.putObj]
 rcases hc with ⟨h1, h2, h3⟩ | ⟨j, e', h1, h2, h3, h4, h5⟩
 ·obtain ⟨es3, clock3, he3, hk3, hnd3, hf3⟩ := hG;cases he3;have := (hf3 a e2.val).2 ⟨e2, List.mem_of_getElem? (i := q) (by rw [Array.getElem?_toList]; exact hq), hqk, rfl⟩;rw [h2] at this;cases this
 ·have hjq : j = q := by
   obtain ⟨es3, clock3, he3, hk3, hnd3, hf3⟩ := hG;cases he3;have hj' : j < (es.toList.map (·.key)).length := by rw [List.length_map, Array.length_toList]; exact (Array.getElem?_eq_some_iff.1 h1).1
   refine (List.getElem?_inj hj' hnd3).1 ?_;rw [List.getElem?_map, List.getElem?_map, Array.getElem?_toList, Array.getElem?_toList, h1, hq];simp [h2, hqk]
  subst hjq;rw [h1] at hq;cases hq
  have hfi : es.findIdx? (fun e => (e.born : Int) == (s : Int)) = some j := by
   rw [Array.findIdx?_eq_some_iff_getElem];obtain ⟨hjl, hje⟩ := Array.getElem?_eq_some_iff.1 h1;refine ⟨hjl, by rw [hje, hqs]; simp, fun i hi => ?_⟩;have hil : i < es.size := by omega
   simp only [beq_iff_eq];intro e9;have e9' : es[i].born = s := by omega
   have hi' : i < (es.toList.map (·.born)).length := by simpa using hil
   have : i = j := by
    refine (List.getElem?_inj hi' hn).1 ?_;rw [List.getElem?_map, List.getElem?_map, Array.getElem?_toList, Array.getElem?_toList, h1, Array.getElem?_eq_getElem hil];simp [e9', hqs]
   omega
  refine ⟨o', ?_, hR⟩;subst h4;have hm : (es.modify j fun e => { e with val := v }) = es.modify j fun e => { key := enc a, val := v, born := e.born } := Kk4 es j _ _ h1 (by rw [h2]);unfold Instr.entryStore;simp [hgo, asInt, asIntOf, hfi, hso, hm]
theorem Kl9 : ∀ {p F : List Nat}, p.Nodup -> (∀ f ∈ p, f ∈ F) -> p.length <= F.length
 | [], _, _, _ => Nat.zero_le _
 | a :: p, F, h, hs => by
  obtain ⟨h1, h2⟩ := List.nodup_cons.1 h;have := Kl9 (F := F.erase a) h2 fun f hf => (List.mem_erase_of_ne (fun e => h1 (by rw [<- e]; exact hf))).2 (hs f (List.mem_cons_of_mem _ hf));rw [List.length_erase_of_mem (hs a List.mem_cons_self)] at this;have h3 : 0 < F.length := List.length_pos_of_mem (hs a List.mem_cons_self);rw [List.length_cons];omega
def ItR {κ : Type} (enc : κ -> Value) (Ok : κ -> Prop) (g : Nat) (ob oi : Obj) (f : κ -> Option Value) (n : Nat) (ds : List (κ × Value)) : Prop :=
 ∃ (es : Array MapEntry) (clock since : Nat) (seen : Array Nat) (c0 : Nat) (des : List MapEntry), ob = .map es clock /\ oi = .mapIter (some g) since seen c0 /\ KM enc Ok ob f /\ es.size = n /\ (∀ x ∈ es.toList, x.born < since) /\ since <= c0 /\ since <= clock /\
  seen.toList = des.map (·.born) /\ (∀ x ∈ des, x ∈ es.toList) /\ seen.toList.Nodup /\ des.map (fun x => (x.key, x.val)) = ds.map (fun p => (enc p.1, p.2)) /\ (∀ p ∈ ds, Ok p.1 /\ f p.1 = some p.2) /\ (seen.size = 0 \/ c0 = clock)
variable {ob oi : Obj} {n : Nat} {ds : List (κ × Value)}
theorem ItR.start {es : Array MapEntry} {clock : Nat} (h : KM enc Ok (.map es clock) f) : ItR enc Ok g (.map es clock) (.mapIter (some g) clock #[] clock) f es.size [] := by
 refine ⟨es, clock, clock, #[], clock, [], rfl, rfl, h, rfl, ?_, Nat.le_refl _, Nat.le_refl _, rfl, fun x hx => absurd hx List.not_mem_nil, List.nodup_nil, rfl, fun p hp => absurd hp List.not_mem_nil, .inl rfl⟩;obtain ⟨es', clock', he, _, _, hlt⟩ := h;cases he;exact hlt
theorem ItR.map (h : ItR enc Ok g ob oi f n ds) : KM enc Ok ob f := by obtain ⟨_, _, _, _, _, _, _, _, h1, _⟩ := h; exact h1
theorem ItR.ok (h : ItR enc Ok g ob oi f n ds) : ∀ p ∈ ds, Ok p.1 /\ f p.1 = some p.2 := by obtain ⟨_, _, _, _, _, _, _, _, _, _, _, _, _, _, _, _, _, h1, _⟩ := h; exact h1
theorem ItR.keys {k : TypeId} (h : ItR enc Ok g ob oi f n ds) (K : MKey P k enc Ok) : (ds.map (·.1)).Nodup := by
 obtain ⟨es, clock, since, seen, c0, des, he, hi, hm, hn, hlt, h1, h2, h3, h4, h5, h6, h7, h8⟩ := h;obtain ⟨es', clock', he', hG, hnb, _⟩ := hm;subst he;cases he';obtain ⟨es3, clock3, he3, hk3, hnd3, hf3⟩ := hG;cases he3
 have hdes : (des.map (·.key)).Nodup := by
  have hnd : des.Pairwise (fun x y => x.born ≠ y.born) := by rw [h3] at h5; exact List.pairwise_map.1 h5
  have : des.Pairwise (fun x y => x.key ≠ y.key) := by
   refine hnd.imp_of_mem ?_;intro x y hx hy hxy hk;obtain ⟨i, hi⟩ := List.getElem?_of_mem (h4 x hx);obtain ⟨j, hj⟩ := List.getElem?_of_mem (h4 y hy);have hi' : i < (es.toList.map (·.key)).length := by rw [List.length_map]; exact (List.getElem?_eq_some_iff.1 hi).1
   have : i = j := (List.getElem?_inj hi' hnd3).1 (by rw [List.getElem?_map, List.getElem?_map, hi, hj]; simp [hk]);subst this;rw [hi] at hj;cases hj;exact hxy rfl
  exact List.pairwise_map.2 this
 have he : des.map (·.key) = ds.map (fun p => enc p.1) := by
  have := congrArg (List.map Prod.fst) h6
  simpa [List.map_map, Function.comp_def] using this
 rw [he] at hdes;have h9 := List.pairwise_map.1 hdes;exact List.pairwise_map.2 (h9.imp fun hne hh => hne (by rw [hh]))
theorem ItR.next {k : TypeId} (K : MKey P k enc Ok) {it : Nat} (h : ItR enc Ok g ob oi f n ds) (hob : w.heap[g]? = some ob) (hoi : w.heap[it]? = some oi) (ty : TypeId) :
  ((Instr.next (.pointer (some ⟨it, 0, none⟩)) false ty).run P w = .ok (.tuple #[.bool false]) w /\ ∀ a v, f a = some v -> (a, v) ∈ ds) \/
  ∃ a v oi' w', (Instr.next (.pointer (some ⟨it, 0, none⟩)) false ty).run P w = .ok (.tuple #[.bool true, enc a, v]) w' /\ w.grownBy w' (some it) /\ w'.heap[it]? = some oi' /\ Ok a /\ f a = some v /\ a ∉ ds.map (·.1) /\ ItR enc Ok g ob oi' f n (ds ++ [(a, v)]) /\ ds.length < n := by
 obtain ⟨es, clock, since, seen, c0, des, he, hi, hm, hn, hlt, h1, h2, h3, h4, h5, h6, h7, h8⟩ := h;have hm0 := hm;obtain ⟨es', clock', he', hG, hnb, hcl⟩ := hm;subst he;cases he';have hG0 := hG;obtain ⟨es3, clock3, he3, hk3, hnd3, hf3⟩ := hG;cases he3;subst hi
 have dec : ∀ x ∈ es.toList, ∃ a, Ok a /\ x.key = enc a /\ f a = some x.val := fun x hx => by
  obtain ⟨a, ha, hk⟩ := hk3 x hx;exact ⟨a, ha, hk, (hf3 a x.val).2 ⟨x, hx, hk, rfl⟩⟩
 have hlen : des.length = ds.length := by have := congrArg List.length h6; simpa using this
 have hseen : ∀ x ∈ es.toList, seen.contains x.born = true -> x ∈ des := fun x hx hc => by
  have hb : x.born ∈ seen.toList := by simpa using hc
  rw [h3] at hb;obtain ⟨y, hy, hyb⟩ := List.mem_map.1 hb;obtain ⟨i, hi⟩ := List.getElem?_of_mem hx;obtain ⟨j, hj⟩ := List.getElem?_of_mem (h4 y hy);have hi' : i < (es.toList.map (·.born)).length := by rw [List.length_map]; exact (List.getElem?_eq_some_iff.1 hi).1
  have : i = j := (List.getElem?_inj hi' hnb).1 (by rw [List.getElem?_map, List.getElem?_map, hi, hj]; simp [hyb]);subst this;rw [hi] at hj;cases hj;exact hy
 rcases run_next_at (P := P) w ty it g since c0 seen es clock hoi hob hlt h1 with ⟨e0, hr⟩ | ⟨x, hx, w1, hw1, hr⟩
 ·refine .inl ⟨hr, fun a v hav => ?_⟩;obtain ⟨x, hx, hxk, hxv⟩ := (hf3 a v).1 hav
  have hc : seen.contains x.born = true := by
   cases hc : seen.contains x.born with
   | true => rfl
   | false =>
    have : x ∈ (leftOf es seen) := by unfold leftOf; rw [Array.mem_filter]; exact ⟨by simpa using hx, by rw [hc]; rfl⟩
    have := Array.size_pos_of_mem this;omega
  have hxd := hseen x hx hc;have : (x.key, x.val) ∈ des.map (fun x => (x.key, x.val)) := List.mem_map.2 ⟨x, hxd, rfl⟩;rw [h6] at this;obtain ⟨p, hp, hpe⟩ := List.mem_map.1 this;have hp7 := h7 p hp;have e1 : enc p.1 = enc a := by have := congrArg Prod.fst hpe; rw [<- hxk]; exact this
  have e2 : p.2 = v := by have := congrArg Prod.snd hpe; rw [<- hxv]; exact this
  have e3 := K.inj _ _ e1;rw [<- e3, <- e2];exact hp
 ·have hx2 : x ∈ es.toList /\ seen.contains x.born = false := by
   have := Array.mem_toList_iff.1 hx;unfold leftOf at this;rw [Array.mem_filter] at this;exact ⟨by simpa using this.1, by simpa using this.2⟩
  obtain ⟨a, ha, hak, hav⟩ := dec x hx2.1
  have hnb : x.born ∉ des.map (·.born) := by
   rw [<- h3];intro hm;have : seen.contains x.born = true := by simpa using hm
   rw [hx2.2] at this;cases this
  have hw1h : w1.heap = w.heap := by rcases hw1 with rfl | rfl <;> rfl
  have hitl : it < w.heap.size := (Array.getElem?_eq_some_iff.1 hoi).1;have hseen2 : (seen.push x.born).toList = (des ++ [x]).map (·.born) := by rw [Array.toList_push, List.map_append, h3]; rfl
  have hnd2 : (seen.push x.born).toList.Nodup := by
   rw [Array.toList_push];refine List.nodup_append.2 ⟨h5, List.pairwise_singleton _ _, fun p hp q hq e => ?_⟩;rw [List.mem_singleton] at hq;rw [h3] at hp;exact hnb (by rw [<- hq, <- e]; exact hp)
  have hmem2 : ∀ y ∈ des ++ [x], y ∈ es.toList := fun y hy => by
   rcases List.mem_append.1 hy with h9 | h9
   ·exact h4 y h9
   ·rw [List.mem_singleton.1 h9]; exact hx2.1
  refine .inr ⟨a, x.val, .mapIter (some g) since (seen.push x.born) clock, _, by rw [<- hak]; exact hr, ?_, ?_, ha, hav, ?_, ?_, ?_⟩
  ·refine ⟨by rcases hw1 with rfl | rfl <;> rfl, by rcases hw1 with rfl | rfl <;> rfl, by rcases hw1 with rfl | rfl <;> rfl, by simp [ChangeMaps.setBlock, hw1h], fun i hi hne => ?_⟩;have : it ≠ i := fun e => hne (by rw [e]);simp [ChangeMaps.setBlock, hw1h, Array.getElem?_setIfInBounds, this]
  ·simp [ChangeMaps.setBlock, hw1h, hitl]
  ·intro hm;obtain ⟨p, hp, hpa⟩ := List.mem_map.1 hm;have : (enc p.1, p.2) ∈ des.map (fun x => (x.key, x.val)) := by rw [h6]; exact List.mem_map.2 ⟨p, hp, rfl⟩
   obtain ⟨y, hy, hye⟩ := List.mem_map.1 this;have hyk : y.key = x.key := by have := congrArg Prod.fst hye; rw [hak, <- hpa]; exact this
   obtain ⟨i, hi⟩ := List.getElem?_of_mem hx2.1;obtain ⟨j, hj⟩ := List.getElem?_of_mem (h4 y hy);have hi' : i < (es.toList.map (·.key)).length := by rw [List.length_map]; exact (List.getElem?_eq_some_iff.1 hi).1
   have e9 : i = j := (List.getElem?_inj hi' hnd3).1 (by rw [List.getElem?_map, List.getElem?_map, hi, hj]; simp [hyk]);subst e9;rw [hi] at hj;cases hj;exact hnb (List.mem_map.2 ⟨x, hy, rfl⟩)
  ·refine ⟨es, clock, since, seen.push x.born, clock, des ++ [x], rfl, rfl, hm0, hn, hlt, h2, h2, hseen2, hmem2, hnd2, ?_, ?_, .inr rfl⟩
   ·rw [List.map_append, List.map_append, h6];simp [hak]
   ·intro p hp;rcases List.mem_append.1 hp with h9 | h9
    ·exact h7 p h9
    ·rw [List.mem_singleton.1 h9]; exact ⟨ha, hav⟩
  ·have := Kl9 (F := es.toList.map (·.born)) hnd2 fun q hq => by
    rw [hseen2] at hq;obtain ⟨y, hy, hyb⟩ := List.mem_map.1 hq;exact List.mem_map.2 ⟨y, hmem2 y hy, hyb⟩
   have e1 : (seen.push x.born).toList.length = des.length + 1 := by rw [hseen2]; simp
   have e2 : (es.toList.map (·.born)).length = n := by rw [List.length_map, Array.length_toList, hn]
   omega
theorem ItR.entry {it : Nat} {a : κ} {v : Value} (h : ItR enc Ok g ob oi f n (ds ++ [(a, v)])) (hob : w.heap[g]? = some ob) (hoi : w.heap[it]? = some oi) : (Instr.entry (.pointer (some ⟨it, 0, none⟩))).run P w = .ok (.tuple #[enc a, v]) w := by
 obtain ⟨es, clock, since, seen, c0, des, he, hi, hm, hn, hlt, h1, h2, h3, h4, h5, h6, h7, h8⟩ := h;obtain ⟨es', clock', he', hG, hnb, hcl⟩ := hm;subst he;cases he';subst hi;have hl : des.length = ds.length + 1 := by have := congrArg List.length h6; simpa using this
 obtain ⟨des', x, rfl⟩ : ∃ d x, des = d ++ [x] := ⟨des.dropLast, des.getLast (by intro e; rw [e] at hl; simp at hl), (List.dropLast_concat_getLast _).symm⟩;rw [List.map_append, List.map_append] at h6;have hl2 : des'.length = ds.length := by simpa using hl
 obtain ⟨_, h9⟩ := List.append_inj h6 (by simp [hl2]);simp only [List.map_cons, List.map_nil, List.cons.injEq, and_true, Prod.mk.injEq] at h9;have hx := h4 x (by simp)
 have hs : seen = (des'.map (·.born)).toArray.push x.born := by
  apply Array.toList_inj.1;rw [h3]; simp
 have hc : c0 = clock := by
  rcases h8 with h8 | h8
  ·rw [hs] at h8; simp at h8
  ·exact h8
 rw [<- h9.1, <- h9.2];refine run_entry_at w it g since (des'.map (·.born)).toArray es clock x ?_ hob hx hnb;rw [hoi, hs, hc]
end
section
variable {P : Program} {N : Fr} {Q : Exit -> Act -> World -> Prop} {E : Env} {w0 : Base} {L : List Pc} {ops : Array Oper} {l : List Oper} {o : Oper} {κ : Type} {enc : κ -> Value} {Ok : κ -> Prop} {t k e : TypeId} {f : κ -> Option Value}
theorem KiD (w : World) (g : Nat) (ob : Obj) : w.grownBy (w.putObj g ob) (some g) := ⟨rfl, rfl, rfl, by simp [World.putObj], fun i hi hne => by
 have : g ≠ i := fun e => hne (by rw [e]);simp [World.putObj, Array.getElem?_setIfInBounds, this]⟩
theorem KiH {w : World} {g : Nat} {o ob : Obj} (h : w.heap[g]? = some o) : (w.putObj g ob).heap[g]? = some ob := by
 have := (Array.getElem?_eq_some_iff.1 h).1;simp [World.putObj, this]
theorem TL.mapsetR {x y z : Operand} {g i : Nat} {ob : Obj} {a : κ} {v : Value} [DecidableEq κ] (hg : o.guard = none) (hd : o.dst = none) (ho : o.op = .mapUpdate t x y z) (hx : ev E x = some (.map (some g))) (hy : ev E y = some (enc a)) (hz : ev E z = some v)
  (K : MKey P k enc Ok) (ht : P.underlying t = some (.map k e)) (hk : L[i]? = some (.oth g ob)) (hnew : Kbu w0 g) (hm : KM enc Ok ob f) (ha : Ok a)
  (h : ∀ ob', KM enc Ok ob' (fun x => if x = a then some v else f x) -> TL P N ops Q l E (Pm w0 (L.set i (.oth g ob')))) : TL P N ops Q (o :: l) E (Pm w0 L) := fun ac w hac hw =>
 wpList_plain hg fun K' hK => by
  obtain ⟨ob', w', hrun, he, hm', _⟩ := hm.put K ht (hw.at_ hk).1 ha v;subst he
  have hex : (execOp ac.eval o).run P w = .ok .skip (w.putObj g ob') := by
   unfold execOp; rw [ho];simp only [hac.eval hx, hac.eval hy, hac.eval hz, Sem.run_bind, hrun, Result.andThen_ok, Sem.run_pure]
  unfold Oper.wp;rw [hex];show K' (ac.put o.dst undef) _;rw [hd];exact hK _ _ (h ob' hm' _ _ (hac.put0 _) (hw.turnO hk hnew (KiD w g ob') (KiH (hw.at_ hk).1)))
theorem TL.mapentry {d : Nat} {x y : Operand} {g i : Nat} {ob : Obj} {a : κ} {z : Value} [DecidableEq κ] (hg : o.guard = none) (hd : o.dst = some d) (hN : Nat.blt d N.n = true) (ho : o.op = .mapEntry t x y) (hx : ev E x = some (.map (some g))) (hy : ev E y = some (enc a))
  (K : MKey P k enc Ok) (ht : P.underlying t = some (.map k e)) (hz : ∀ w : World, (zeroValue e).run P w = .ok z w) (hk : L[i]? = some (.oth g ob)) (hnew : Kbu w0 g) (hm : KM enc Ok ob f) (ha : Ok a) {v : Value} (hv : (f a).getD z = v)
  (h : ∀ ob' s, KM enc Ok ob' (fun x => if x = a then some v else f x) -> Kek enc ob' a s -> TL P N ops Q l ((d, .tuple #[v, .int .i64 ((s : Nat) : Int)]) :: E) (Pm w0 (L.set i (.oth g ob')))) : TL P N ops Q (o :: l) E (Pm w0 L) := by
 subst hv;refine TL.run (α := {p : Obj × Nat // KM enc Ok p.1 (fun x => if x = a then some ((f a).getD z) else f x) /\ Kek enc p.1 a p.2}) (r := fun p => .tuple #[(f a).getD z, .int .i64 ((p.1.2 : Nat) : Int)]) (I' := fun p => Pm w0 (L.set i (.oth g p.1.1))) hg hd hN (fun ac w hac hw => ?_) (fun p => h p.1.1 p.1.2 p.2.1 p.2.2);obtain ⟨ob', s, hrun, hm', hs⟩ := hm.entry K ht hz (hw.at_ hk).1 ha;refine ⟨⟨(ob', s), hm', hs⟩, _, ?_, hw.turnO hk hnew (KiD w g ob') (KiH (hw.at_ hk).1)⟩;unfold execOp; rw [ho];simp only [hac.eval hx, hac.eval hy, Sem.run_bind, hrun, Result.andThen_ok, Sem.run_pure]
theorem TL.entrystore {x y z : Operand} {g i s : Nat} {ob : Obj} {a : κ} {v : Value} [DecidableEq κ] (hg : o.guard = none) (hd : o.dst = none) (ho : o.op = .entryStore t x y z) (hx : ev E x = some (.map (some g))) (hy : ev E y = some (.int .i64 ((s : Nat) : Int))) (hz : ev E z = some v)
  (K : MKey P k enc Ok) (ht : P.underlying t = some (.map k e)) (hk : L[i]? = some (.oth g ob)) (hnew : Kbu w0 g) (hm : KM enc Ok ob f) (ha : Ok a) (hs : Kek enc ob a s)
  (h : ∀ ob', KM enc Ok ob' (fun x => if x = a then some v else f x) -> TL P N ops Q l E (Pm w0 (L.set i (.oth g ob')))) : TL P N ops Q (o :: l) E (Pm w0 L) := fun ac w hac hw =>
 wpList_plain hg fun K' hK => by
  obtain ⟨ob', hrun, hm'⟩ := hm.store K ht (hw.at_ hk).1 ha hs v
  have hex : (execOp ac.eval o).run P w = .ok .skip (w.putObj g ob') := by
   unfold execOp; rw [ho];simp only [hac.eval hx, hac.eval hy, hac.eval hz, Sem.run_bind, hrun, Result.andThen_ok, Sem.run_pure]
  unfold Oper.wp;rw [hex];show K' (ac.put o.dst undef) _;rw [hd];exact hK _ _ (h ob' hm' _ _ (hac.put0 _) (hw.turnO hk hnew (KiD w g ob') (KiH (hw.at_ hk).1)))
theorem KM.nc {enc : κ -> Value} {ob : Obj} (h : KM enc Ok ob f) : ob.isCells = false := by obtain ⟨_, _, he, _⟩ := h; rw [he]; rfl
theorem TL.rangeM {d : Nat} {x : Operand} {g : Nat} {ob : Obj} (hg : o.guard = none) (hd : o.dst = some d) (hN : Nat.blt d N.n = true) (ho : o.op = .range t x) (hx : ev E x = some (.map (some g))) (ht : P.underlying t = some (.map k e)) (hob : ∀ w, Pm w0 L w -> w.heap[g]? = some ob) (hm : KM enc Ok ob f)
  (h : ∀ it oi n, Kbu w0 it -> ItR enc Ok g ob oi f n [] -> TL P N ops Q l ((d, .pointer (some ⟨it, 0, none⟩)) :: E) (Pm w0 (.oth it oi :: L))) : TL P N ops Q (o :: l) E (Pm w0 L) := by
 obtain ⟨es, clock, he, hm'⟩ := id hm;subst he;refine TL.run (α := {it : Nat // w0.w.heap.size <= it}) (r := fun it => .pointer (some ⟨it.1, 0, none⟩)) (I' := fun it => Pm w0 (.oth it.1 (.mapIter (some g) clock #[] clock) :: L)) hg hd hN (fun ac w hac hw => ?_) (fun it => h it.1 _ _ (Klv it.2) (ItR.start hm));refine ⟨⟨w.heap.size, hw.oth.size⟩, w.alloc (.mapIter (some g) clock #[] clock), ?_, hw.add ((Below.refl _ _).alloc (Nat.le_refl _) _) ⟨heap_alloc_new w _, Nat.le_refl _⟩⟩;unfold execOp; rw [ho];have hgo : (getObj g).run P w = .ok (.map es clock) w := by simp [getObj, Sem.run, hob w hw]
 simp [hac.eval hx, Instr.range, run_underlying ht, hgo, newObj, Sem.run]
theorem TL.nextM (K : MKey P k enc Ok) {d : Nat} {x : Operand} {g it j n : Nat} {ob oi : Obj} {ds : List (κ × Value)} (hg : o.guard = none) (hd : o.dst = some d) (hN : Nat.blt d N.n = true) (ho : o.op = .next x false) (hx : ev E x = some (.pointer (some ⟨it, 0, none⟩)))
  (hob : ∀ w, Pm w0 L w -> w.heap[g]? = some ob) (hj : L[j]? = some (.oth it oi)) (hnew : Kbu w0 it) (hit : ItR enc Ok g ob oi f n ds)
  (h0 : (∀ a v, f a = some v -> (a, v) ∈ ds) -> TL P N ops Q l ((d, .tuple #[.bool false]) :: E) (Pm w0 L))
  (h1 : ∀ a v oi', Ok a -> f a = some v -> a ∉ ds.map (·.1) -> ItR enc Ok g ob oi' f n (ds ++ [(a, v)]) -> ds.length < n -> TL P N ops Q l ((d, .tuple #[.bool true, enc a, v]) :: E) (Pm w0 (L.set j (.oth it oi')))) : TL P N ops Q (o :: l) E (Pm w0 L) := fun ac w hac hw =>
 wpList_plain hg fun K' hK => by
  rcases hit.next (P := P) K (hob w hw) (hw.at_ hj).1 o.type with ⟨hr, hall⟩ | ⟨a, v, oi', w', hr, hgr, hoi, ha, hfa, hna, hit', hlt⟩
  ·have hex : (execOp ac.eval o).run P w = .ok (.value (.tuple #[.bool false])) w := by
    unfold execOp; rw [ho];simp only [hac.eval hx, Sem.run_bind, hr, Result.andThen_ok, Sem.run_pure]
   unfold Oper.wp;rw [hex];show K' (ac.put o.dst _) _;rw [hd];exact hK _ _ (h0 hall _ _ (hac.put d _ (by simpa [Nat.blt_eq] using hN)) hw)
  ·have hex : (execOp ac.eval o).run P w = .ok (.value (.tuple #[.bool true, enc a, v])) w' := by
    unfold execOp; rw [ho];simp only [hac.eval hx, Sem.run_bind, hr, Result.andThen_ok, Sem.run_pure]
   unfold Oper.wp;rw [hex];show K' (ac.put o.dst _) _;rw [hd];exact hK _ _ (h1 a v oi' ha hfa hna hit' hlt _ _ (hac.put d _ (by simpa [Nat.blt_eq] using hN)) (hw.turnO hj hnew hgr hoi))
theorem Kfj {x : Operand} {g it j n : Nat} {ob oi : Obj} {ds : List (κ × Value)} {a : κ} {v : Value} (ho : o.op = .entry x) (hx : ev E x = some (.pointer (some ⟨it, 0, none⟩))) (hob : ∀ w, Pm w0 L w -> w.heap[g]? = some ob) (hj : L[j]? = some (.oth it oi)) (hit : ItR enc Ok g ob oi f n (ds ++ [(a, v)])) :
  Kv P N o E (Pm w0 L) (.tuple #[enc a, v]) := fun ac w hac hw => by
 unfold execOp; rw [ho];simp only [hac.eval hx, Sem.run_bind, hit.entry (hob w hw) (hw.at_ hj).1, Result.andThen_ok, Sem.run_pure]
end
set_option linter.unusedSectionVars false
def KcO {κ α : Type} [DecidableEq κ] (sp : κ -> List α) (k : κ) (x : α) : κ -> List α := fun z => if z = k then sp z ++ [x] else sp z
section
variable {κ α : Type} [DecidableEq κ] {enc : κ -> Value} {Ok : κ -> Prop}
def Kci (ps : List (κ × Sg α)) (x : κ) : Sg α := ((ps.find? fun p => decide (p.1 = x)).map (·.2)).getD (Sg.nil α)
structure MapSG (enc : κ -> Value) (Ok : κ -> Prop) (ob : Obj) (ps : List (κ × Sg α)) (sp : κ -> List α) : Prop where
  map : ∃ fm : κ -> Option Value, KM enc Ok ob fm /\ ∀ x, fm x = (ps.find? fun p => decide (p.1 = x)).map (·.2.val)
  nd : (ps.map (·.1)).Nodup
  sp : ∀ x, (Kci ps x).l = sp x
theorem KjJ : MapSG enc Ok (.map #[] 0) [] (fun _ => ([] : List α)) := ⟨⟨fun _ => none, KiA _ _, fun _ => rfl⟩, List.nodup_nil, fun _ => rfl⟩
theorem Kgu {ps : List (κ × Sg α)} (nd : (ps.map (·.1)).Nodup) {z : κ} {p : κ × Sg α} : (ps.find? fun p => decide (p.1 = z)) = some p ↔ p ∈ ps /\ p.1 = z := by
  constructor
  · intro h;exact ⟨List.mem_of_find?_eq_some h, by have := List.find?_some h; simpa using this⟩
  · rintro ⟨h1, h2⟩
    induction ps with
    | nil => cases h1
    | cons q ps ih =>
      obtain ⟨n1, n2⟩ := List.nodup_cons.1 nd;rw [List.find?_cons];rcases List.mem_cons.1 h1 with rfl | h1
      · rw [decide_eq_true h2]
      · have : ¬ q.1 = z := fun e => n1 (List.mem_map.2 ⟨p, h1, h2.trans e.symm⟩);rw [decide_eq_false this];exact ih n2 h1
theorem Kee {ps : List (κ × Sg α)} {z : κ} {p : κ × Sg α} (h : (ps.find? fun p => decide (p.1 = z)) = some p) : ∃ (k : Nat) (s : Sg α), ps[k]? = some (z, s) /\ p = (z, s) := by
  obtain ⟨k, hk⟩ := List.getElem?_of_mem (List.mem_of_find?_eq_some h);have e : p.1 = z := by have := List.find?_some h; simpa using this
  obtain ⟨y, s⟩ := p;cases e;exact ⟨k, s, hk, rfl⟩
theorem Kdl {ps : List (κ × Sg α)} {z : κ} {s : Sg α} (h : (ps.find? fun p => decide (p.1 = z)) = some (z, s)) : Kci ps z = s := by unfold Kci; rw [h]; rfl
theorem Kj7 {ps : List (κ × Sg α)} {k : Nat} {z : κ} {s : Sg α} (h : ps[k]? = some (z, s)) : (ps.map (·.2))[k]? = some s := by rw [List.getElem?_map, h]; rfl
theorem MapSG.put {ob ob' : Obj} {ps ps' : List (κ × Sg α)} {sp : κ -> List α} {fm : κ -> Option Value} {k : κ} {s' : Sg α} {x : α} (h : MapSG enc Ok ob ps sp) (hfm : ∀ x, fm x = (ps.find? fun p => decide (p.1 = x)).map (·.2.val)) (hm : KM enc Ok ob' (fun z => if z = k then some s'.val else fm z))
    (nd : (ps'.map (·.1)).Nodup) (hp : ∀ p, p ∈ ps' ↔ p = (k, s') \/ (p ∈ ps /\ p.1 ≠ k)) (hs : s'.l = sp k ++ [x]) : MapSG enc Ok ob' ps' (KcO sp k x) := by
  have hfind : ∀ z, (ps'.find? fun p => decide (p.1 = z)) = if z = k then some (k, s') else ps.find? fun p => decide (p.1 = z) := fun z => by
    refine Option.ext fun p => ?_;rw [Kgu nd, hp];by_cases e : z = k
    · subst e;rw [if_pos rfl];constructor
      · rintro ⟨rfl | h1, h2⟩
        · rfl
        · exact absurd h2 h1.2
      · intro hh;cases hh;exact ⟨.inl rfl, rfl⟩
    · rw [if_neg e, Kgu h.nd];constructor
      · rintro ⟨rfl | h1, h2⟩
        · exact absurd h2.symm e
        · exact ⟨h1.1, h2⟩
      · rintro ⟨h1, h2⟩;exact ⟨.inr ⟨h1, fun e2 => e (h2.symm.trans e2)⟩, h2⟩
  refine ⟨⟨_, hm, fun z => ?_⟩, nd, fun z => ?_⟩
  · rw [hfind];show (if z = k then some s'.val else fm z) = _;by_cases e : z = k
    · rw [if_pos e, if_pos e]; rfl
    · rw [if_neg e, if_neg e, hfm]
  · unfold Kci KcO;rw [hfind];by_cases e : z = k
    · subst e;rw [if_pos rfl, if_pos rfl];exact hs
    · rw [if_neg e, if_neg e];exact h.sp z
theorem MapSG.new {ob ob' : Obj} {ps : List (κ × Sg α)} {sp : κ -> List α} {fm : κ -> Option Value} {k : κ} {A : Option Addr} {c : Nat} {x : α} (h : MapSG enc Ok ob ps sp) (hfi : (ps.find? fun p => decide (p.1 = k)) = none) (hfm : ∀ x, fm x = (ps.find? fun p => decide (p.1 = x)).map (·.2.val)) (hm : KM enc Ok ob' (fun z => if z = k then some (Sg.val (⟨A, c, [x]⟩ : Sg α)) else fm z)) : MapSG enc Ok ob' (ps ++ [(k, ⟨A, c, [x]⟩)]) (KcO sp k x) := by
  have hno : ∀ p ∈ ps, p.1 ≠ k := fun p hp => by
    have := List.find?_eq_none.1 hfi p hp
    simpa using this
  refine h.put hfm hm ?_ (fun p => ?_) ?_
  · rw [List.map_append];refine List.nodup_append.2 ⟨h.nd, List.pairwise_singleton _ _, fun a ha b hb e => ?_⟩;rw [List.map_singleton, List.mem_singleton] at hb;obtain ⟨p, hp, e2⟩ := List.mem_map.1 ha;exact hno p hp (e2.trans (e.trans hb))
  · rw [List.mem_append, List.mem_singleton];constructor
    · rintro (hp | hp)
      · exact .inr ⟨hp, hno p hp⟩
      · exact .inl hp
    · rintro (hp | hp)
      · exact .inr hp
      · exact .inl hp.1
  · have := h.sp k;unfold Kci at this;rw [hfi] at this;rw [<- this]
    rfl
theorem MapSG.old {ob ob' : Obj} {ps : List (κ × Sg α)} {sp : κ -> List α} {fm : κ -> Option Value} {i : Nat} {k : κ} {s : Sg α} {A : Option Addr} {c : Nat} {x : α} (h : MapSG enc Ok ob ps sp) (hfi : (ps.find? fun p => decide (p.1 = k)) = some (k, s)) (hi : ps[i]? = some (k, s)) (hfm : ∀ x, fm x = (ps.find? fun p => decide (p.1 = x)).map (·.2.val)) (hm : KM enc Ok ob' (fun z => if z = k then some (Sg.val (⟨A, c, s.l ++ [x]⟩ : Sg α)) else fm z)) : MapSG enc Ok ob' (ps.set i (k, ⟨A, c, s.l ++ [x]⟩)) (KcO sp k x) := by
  have hlt := (List.getElem?_eq_some_iff.1 hi).1
  have hkeys : (ps.set i (k, (⟨A, c, s.l ++ [x]⟩ : Sg α))).map (·.1) = ps.map (·.1) := by
    rw [List.map_set];refine List.ext_getElem? fun j => ?_;rw [List.getElem?_set];by_cases e : i = j
    · subst e;rw [if_pos rfl, if_pos (by rw [List.length_map]; exact hlt), List.getElem?_map, hi]
      rfl
    · rw [if_neg e]
  refine h.put hfm hm (by rw [hkeys]; exact h.nd) (fun p => ?_) ?_
  · have huniq : ∀ j q, ps[j]? = some q -> q.1 = k -> j = i := fun j q hj e => by
      refine (List.getElem?_inj (l := ps.map (·.1)) (by rw [List.length_map]; exact (List.getElem?_eq_some_iff.1 hj).1) h.nd).1 ?_;rw [List.getElem?_map, List.getElem?_map, hj, hi];simp [e]
    constructor
    · intro hp;obtain ⟨j, hj⟩ := List.getElem?_of_mem hp;rw [List.getElem?_set] at hj;by_cases e : i = j
      · rw [if_pos e, if_pos hlt] at hj;cases hj;exact .inl rfl
      · rw [if_neg e] at hj;exact .inr ⟨List.mem_of_getElem? hj, fun e2 => e (huniq j p hj e2).symm⟩
    · rintro (rfl | ⟨h1, h2⟩)
      · exact List.mem_set hlt _
      · obtain ⟨j, hj⟩ := List.getElem?_of_mem h1;have e : i ≠ j := fun e => by subst e; rw [hi] at hj; cases hj; exact h2 rfl
        exact List.mem_of_getElem? (i := j) (by rw [List.getElem?_set, if_neg e]; exact hj)
  · rw [<- h.sp k, Kdl hfi]
theorem Pm.segP {e : TypeId} {size : Nat} {en : List α -> List Value} {w0 : Base} {w : World} {P : List Pc} {ss ss' : List (Sg α)} {s : Sg α} (h : Pm w0 ((.row (.slice s.A s.l.length s.c) e size s.l.length (en s.l) :: P) ++ KI e size en ss) w) (hp : (s :: ss).Perm ss') : Pm w0 (P ++ KI e size en ss') w := by
  refine h.permute ?_;have h1 : (KI e size en (s :: ss)).Perm (KI e size en ss') := hp.map _;exact List.perm_middle.symm.trans (List.Perm.append_left P h1)
theorem Pm.segQ {e : TypeId} {size : Nat} {en : List α -> List Value} {w0 : Base} {w : World} {P : List Pc} {ss ss' : List (Sg α)} (h : Pm w0 (P ++ KI e size en ss) w) (hp : ss.Perm ss') : Pm w0 (P ++ KI e size en ss') w := h.permute (List.Perm.append_left P (hp.map _))
end
def adB (A : Option Addr) : Nat := match A with
  | some a => a.block
  | none => 0
def adO (A : Option Addr) : Nat := match A with
  | some a => a.off
  | none => 0
section
variable {α : Type} {c : α -> List Value} {k : Nat}
theorem Kd.addr {w : World} {B size n : Nat} {A : Option Addr} {xs : List Value} (h : Kd w B size A n xs) (hn : 0 < n) (hs : 0 < size) : A = some ⟨adB A, adO A, none⟩ := by
  obtain ⟨b, o, hA, _, _⟩ := h.ad hn hs;rw [hA]; rfl
theorem KbW (K : Cel c k) {w : World} {B n g o i : Nat} {A : Option Addr} {l : List α} {x : α} (h : Kd w B k A n (Kb c l)) (hA : A = some ⟨g, o, none⟩) (hx : l[i]? = some x) (j : Nat) (u : Value) (hu : (c x)[j]? = some u) : w.cell? ⟨g, o + i * k + j, none⟩ = some u := by
  have hk : 0 < k := by
    have := (List.getElem?_eq_some_iff.1 hu).1;rw [K.len] at this; omega
  have hn : 0 < n := by
    have h1 := h.1;have h2 := (List.getElem?_eq_some_iff.1 hx).1;rw [KR K] at h1;rcases Nat.eq_zero_or_pos n with h3 | h3
    · subst h3;rw [Nat.zero_mul] at h1;have := Nat.mul_pos (show 0 < l.length by omega) hk;omega
    · exact h3
  obtain ⟨b, o', hA', _, hc⟩ := h.ad hn hk;rw [hA] at hA';cases hA';exact KN K hx hc j u hu
end
section
variable {P : Program} {N : Fr} {Q : Exit -> Act -> World -> Prop} {E : Env} {I : World -> Prop} {i l : Nat} {c : Code}
theorem TC.scope_ (h : TC P N (Exit.noGoto Q) c E I) : TC P N Q (.scope c) E I := fun a w ha hw => wp_scope_straight (h a w ha hw)
theorem TC.label_ (h : TX N Q .normal E I) : TC P N Q (.label l) E I := fun a w ha hw => wp_label (h a w ha hw)
theorem TX.scope_r (h : TX N Q .ret E I) : TX N (Exit.noGoto Q) .ret E I := h
end
abbrev Tt : Bool := true
abbrev Ff : Bool := false
section
variable {P : Program} {N : Fr} {Q : Exit -> Act -> World -> Prop} {E : Env} {ops : Array Oper} {l : List Oper} {o : Oper} {I : World -> Prop}
theorem TL.mv {x : Operand} {d : Nat} {v : Value} (h : TL P N ops Q l ((d, v) :: E) I) (hg : o.guard = none := by rfl) (hd : o.dst = some d := by rfl) (hN : Nat.blt d N.n = true := by rfl) (ho : o.op = .move x := by rfl) (hx : ev E x = some v := by rfl) : TL P N ops Q (o :: l) E I := TL.val hg hd hN (Ky ho hx) h
theorem TL.as_ {x : Operand} {d : Nat} {v : Value} (h : TL P N ops Q l ((d, v) :: E) I) (hg : o.guard = none := by rfl) (hd : o.dst = some d := by rfl) (hN : Nat.blt d N.n = true := by rfl) (ho : o.op = .assign x := by rfl) (hx : ev E x = some v := by rfl) : TL P N ops Q (o :: l) E I := TL.val hg hd hN (KT ho hx) h
theorem TL.pk {c x y : Operand} {b : Bool} {d : Nat} {v : Value} (h : TL P N ops Q l ((d, v) :: E) I) (hg : o.guard = none := by rfl) (hd : o.dst = some d := by rfl) (hN : Nat.blt d N.n = true := by rfl) (ho : o.op = .pick c x y := by rfl) (hc : ev E c = some (.bool b) := by rfl) (hx : (if b then ev E x else ev E y) = some v := by rfl) : TL P N ops Q (o :: l) E I := TL.val hg hd hN (KhL ho hc hx) h
theorem TL.ex {x : Operand} {i : Nat} {vs : Array Value} {d : Nat} {v : Value} (h : TL P N ops Q l ((d, v) :: E) I) (hg : o.guard = none := by rfl) (hd : o.dst = some d := by rfl) (hN : Nat.blt d N.n = true := by rfl) (ho : o.op = .extract x i := by rfl) (hx : ev E x = some (.tuple vs) := by rfl) (hv : vs[i]? = some v := by rfl) : TL P N ops Q (o :: l) E I := TL.val hg hd hN (Kch ho hx hv) h
theorem TL.gu {j d : Nat} {b : Bool} (h : TL P N ops Q ({ o with guard := none } :: l) E I) (hg : o.guard = some (j, b) := by rfl) (hd : (ops[j]?).bind (·.dst) = some d := by rfl) (hE : look E d = some (.bool b) := by rfl) : TL P N ops Q (o :: l) E I := TL.on hg hd hE h
theorem TL.of {j d t : Nat} {b b' : Bool} (h : TL P N ops Q l ((t, undef) :: E) I) (hg : o.guard = some (j, b') := by rfl) (hd : (ops[j]?).bind (·.dst) = some d := by rfl) (hE : look E d = some (.bool b) := by rfl) (hne : (b == b') = false := by rfl) (ht : o.dst = some t := by rfl) (hN : Nat.blt t N.n = true := by rfl) : TL P N ops Q (o :: l) E I := TL.off hg hd hE hne ht hN h
end
section
variable {P : Program} {N : Fr} {ops : Array Oper} {S I : World -> Prop} {Q : Exit -> Act -> World -> Prop} {f : Nat} {listed : Array Bool} {E : Env}
theorem TH.tk {o : Oper} {d : Nat} {v : Value} {listed' : Array Bool} (i : Nat) (hi : ops[i]? = some o) (hg : o.guard = none) (hd : o.dst = some d) (hv : Kv P N o E S v) (hS : ∀ w, I w -> S w) (h : TH P N ops S Q f listed' ((d, v) :: E) I)
    (hs : Region.noSelect ops = true := by kernel_rfl) (hf : Region.free .any ops listed i = true := by kernel_rfl) (hr : (Region.ready .any ops listed).contains i = true := by kernel_rfl) (hl : listed.setIfInBounds i true = listed' := by rfl) (hN : Nat.blt d N.n = true := by rfl) : TH P N ops S Q (f + 1) listed E I := TH.take i hi hs hf hr hl hg hd hN hv hS h
end
set_option linter.unusedVariables false
def KeG (N : Fr) (E : Env) (o : Oper) : Option Env :=
  match o.dst with
  | none => none
  | some d => match Nat.blt d N.n with
    | false => none
    | true => match o.op with
      | .move x => match ev E x with
        | some v => some ((d, v) :: E)
        | none => none
      | .assign x => match ev E x with
        | some v => some ((d, v) :: E)
        | none => none
      | .pick c x y => match ev E c with
        | some (.bool true) => match ev E x with
          | some v => some ((d, v) :: E)
          | none => none
        | some (.bool false) => match ev E y with
          | some v => some ((d, v) :: E)
          | none => none
        | _ => none
      | .extract x i => match ev E x with
        | some (.tuple vs) => match vs[i]? with
          | some v => some ((d, v) :: E)
          | none => none
        | _ => none
      | .unOp .not _ x => match ev E x with
        | some (.bool true) => some ((d, .bool false) :: E)
        | some (.bool false) => some ((d, .bool true) :: E)
        | _ => none
      | _ => none
def Kh4 (N : Fr) (ops : Array Oper) (E : Env) (o : Oper) : Option Env :=
  match o.guard with
  | none => KeG N E o
  | some (j, true) => match (ops[j]?).bind (·.dst) with
    | none => none
    | some d => match look E d with
      | some (.bool true) => KeG N E { o with guard := none }
      | some (.bool false) => match o.dst with
        | some t => match Nat.blt t N.n with
          | true => some ((t, undef) :: E)
          | false => none
        | none => none
      | _ => none
  | some (j, false) => match (ops[j]?).bind (·.dst) with
    | none => none
    | some d => match look E d with
      | some (.bool false) => KeG N E { o with guard := none }
      | some (.bool true) => match o.dst with
        | some t => match Nat.blt t N.n with
          | true => some ((t, undef) :: E)
          | false => none
        | none => none
      | _ => none
def Kd2 (N : Fr) (ops : Array Oper) : Nat -> Env -> List Oper -> Option (Env × List Oper)
  | 0, E, l => some (E, l)
  | _ + 1, _, [] => none
  | n + 1, E, o :: l => match Kh4 N ops E o with
    | some E' => Kd2 N ops n E' l
    | none => none
section
variable {P : Program} {N : Fr} {Q : Exit -> Act -> World -> Prop} {E E' : Env} {ops : Array Oper} {l l' : List Oper} {o : Oper} {I : World -> Prop}
theorem Kg1 (h : KeG N E o = some E') : ∃ d v, E' = (d, v) :: E /\ o.dst = some d /\ Nat.blt d N.n = true /\ ∀ (P : Program) (I : World -> Prop), Kv P N o E I v := by
  unfold KeG at h;split at h
  · cases h
  · rename_i d hd;split at h
    · cases h
    · rename_i hN;split at h
      · rename_i x ho;split at h
        · rename_i v hv; cases h; exact ⟨d, v, rfl, hd, hN, fun P I => Ky ho hv⟩
        · cases h
      · rename_i x ho;split at h
        · rename_i v hv; cases h; exact ⟨d, v, rfl, hd, hN, fun P I => KT ho hv⟩
        · cases h
      · rename_i c x y ho;split at h
        · rename_i hc;split at h
          · rename_i v hv; cases h; exact ⟨d, v, rfl, hd, hN, fun P I => KhL ho hc hv⟩
          · cases h
        · rename_i hc;split at h
          · rename_i v hv; cases h; exact ⟨d, v, rfl, hd, hN, fun P I => KhL ho hc hv⟩
          · cases h
        · cases h
      · rename_i x i ho;split at h
        · rename_i vs hx;split at h
          · rename_i v hv; cases h; exact ⟨d, v, rfl, hd, hN, fun P I => Kch ho hx hv⟩
          · cases h
        · cases h
      · rename_i x ho;split at h
        · rename_i hx; cases h; exact ⟨d, _, rfl, hd, hN, fun P I => KbC ho hx⟩
        · rename_i hx; cases h; exact ⟨d, _, rfl, hd, hN, fun P I => KbC ho hx⟩
        · cases h
      · cases h
theorem Kjk (h : Kh4 N ops E o = some E') : (∃ d v, E' = (d, v) :: E /\ o.guard = none /\ o.dst = some d /\ Nat.blt d N.n = true /\ ∀ (P : Program) (I : World -> Prop), Kv P N o E I v) \/
    (∃ j d b, o.guard = some (j, b) /\ (ops[j]?).bind (·.dst) = some d /\ look E d = some (.bool b) /\ ∃ d v, E' = (d, v) :: E /\ o.dst = some d /\ Nat.blt d N.n = true /\ ∀ (P : Program) (I : World -> Prop), Kv P N { o with guard := none } E I v) \/
    ∃ j d t b b', o.guard = some (j, b') /\ (ops[j]?).bind (·.dst) = some d /\ look E d = some (.bool b) /\ (b == b') = false /\ o.dst = some t /\ Nat.blt t N.n = true /\ E' = (t, undef) :: E := by
  unfold Kh4 at h;split at h
  · rename_i hg;obtain ⟨d, v, h1, h2, h3, h4⟩ := Kg1 h;exact .inl ⟨d, v, h1, hg, h2, h3, h4⟩
  · rename_i j hg;split at h
    · cases h
    · rename_i d hd;split at h
      · rename_i hE;exact .inr (.inl ⟨j, d, true, hg, hd, hE, Kg1 h⟩)
      · rename_i hE;split at h
        · rename_i t ht;split at h
          · rename_i hN; cases h; exact .inr (.inr ⟨j, d, t, false, true, hg, hd, hE, rfl, ht, hN, rfl⟩)
          · cases h
        · cases h
      · cases h
  · rename_i j hg;split at h
    · cases h
    · rename_i d hd;split at h
      · rename_i hE;exact .inr (.inl ⟨j, d, false, hg, hd, hE, Kg1 h⟩)
      · rename_i hE;split at h
        · rename_i t ht;split at h
          · rename_i hN; cases h; exact .inr (.inr ⟨j, d, t, true, false, hg, hd, hE, rfl, ht, hN, rfl⟩)
          · cases h
        · cases h
      · cases h
theorem TL.rn : ∀ (n : Nat) {E E' : Env} {l l' : List Oper} (_ : Kd2 N ops n E l = some (E', l')) (_ : TL P N ops Q l' E' I), TL P N ops Q l E I
  | 0, E, E', l, l', hr, h => by cases hr; exact h
  | n + 1, E, E', [], l', hr, h => by cases hr
  | n + 1, E, E', o :: l, l', hr, h => by
    unfold Kd2 at hr;split at hr
    · rename_i E1 h1;have h2 := TL.rn n hr h;rcases Kjk h1 with ⟨d, v, rfl, hg, hd, hN, hv⟩ | ⟨j, d, b, hg, hd, hE, d', v, rfl, hd', hN, hv⟩ | ⟨j, d, t, b, b', hg, hd, hE, hne, ht, hN, rfl⟩
      · exact TL.val hg hd hN (hv P I) h2
      · exact TL.on hg hd hE (TL.val rfl hd' hN (hv P I) h2)
      · exact TL.off hg hd hE hne ht hN h2
    · cases hr
theorem TQ.rn {R : Act -> Prop} : ∀ (n : Nat) {E E' : Env} {l l' : List Oper} (_ : Kd2 N ops n E l = some (E', l')) (_ : TQ P N ops R l' E' I), TQ P N ops R l E I
  | 0, E, E', l, l', hr, h => by cases hr; exact h
  | n + 1, E, E', [], l', hr, h => by cases hr
  | n + 1, E, E', o :: l, l', hr, h => by
    unfold Kd2 at hr;split at hr
    · rename_i E1 h1;have h2 := TQ.rn n hr h;rcases Kjk h1 with ⟨d, v, rfl, hg, hd, hN, hv⟩ | ⟨j, d, b, hg, hd, hE, d', v, rfl, hd', hN, hv⟩ | ⟨j, d, t, b, b', hg, hd, hE, hne, ht, hN, rfl⟩
      · exact TQ.val hg hd hN (hv P I) h2
      · exact TQ.on hg hd hE (TQ.val rfl hd' hN (hv P I) h2)
      · exact TQ.off hg hd hE hne ht hN h2
    · cases hr
end
abbrev FA (P : Program) (t : TypeId) (i k : Nat) : Prop := ∀ (g off : Nat) (w : World), (Instr.fieldAt t (.pointer (some ⟨g, off, none⟩)) i).run P w = .ok (.pointer (some ⟨g, off + k, none⟩)) w
section
variable {P : Program} {N : Fr} {Q : Exit -> Act -> World -> Prop} {E E' : Env} {ops : Array Oper} {l l' : List Oper} {o : Oper} {I : World -> Prop}
variable {x y : Code} {c : Operand} {id i : Nat}
theorem zE (h : TX N Q .normal E I) : TL P N ops Q [] E I := TL.end_ h
theorem zT (h : TC P N Q y E I) : TX N (Exit.then (y.wp P Q) Q) .normal E I := TX.then_ h
theorem zET (h : TC P N Q y E I) : TL P N ops (Exit.then (y.wp P Q) Q) [] E I := TL.end_ (TX.then_ h)
theorem zS (h : TC P N (Exit.then (y.wp P Q) Q) x E I) : TC P N Q (.seq x y) E I := TC.seq_ h
theorem zG (h : TL P N l.toArray Q l E I) : TC P N Q (.region id l.toArray false) E I := TC.region h
theorem zSG (h : TL P N l.toArray (Exit.then (y.wp P Q) Q) l E I) : TC P N Q (.seq (.region id l.toArray false) y) E I := TC.seq_ (TC.region h)
theorem zc (h : TC P N Q x E I) (hc : ev E c = some (.bool true) := by rfl) : TC P N Q (.cond c x y) E I := TC.condT hc h
theorem zd (h : TC P N Q y E I) (hc : ev E c = some (.bool false) := by rfl) : TC P N Q (.cond c x y) E I := TC.condF hc h
theorem zR {J : Act -> World -> Prop} (h : TX N Q .ret E I) : TX N (Exit.then J Q) .ret E I := TX.then_ret h
theorem zRR {J : Act -> World -> Prop} (h : TX N Q .ret E I) : TX N (Exit.inBlock id (Exit.then J Q)) .ret E I := TX.in_ret (TX.then_ret h)
theorem zX {J : Act -> World -> Prop} (h : TX N Q (.exit i) E I) : TX N (Exit.then J Q) (.exit i) E I := TX.then_exit h
theorem zN (h : TX N Q .normal E I) : TX N (Exit.inBlock id Q) .normal E I := TX.in_normal h
theorem zr (h : TX N Q .ret E I) : TC P N Q .ret E I := TC.ret_ h
theorem zk (h : TX N Q .normal E I) : TC P N Q .skip E I := TC.skip_ h
theorem zB {x : Code} (h : TC P N (Exit.inBlock id Q) x E I) : TC P N Q (.block id x) E I := TC.block h
theorem zO (h : TX N Q (.exit i) E I) (hne : Nat.beq i id = false := by rfl) : TX N (Exit.inBlock id Q) (.exit i) E I := TX.in_other hne h
theorem zM (h : TX N Q .normal E I) : TX N (Exit.inBlock id Q) (.exit id) E I := TX.in_same h
theorem zx (h : TX N Q (.exit id) E I) : TC P N Q (.exit id) E I := TC.exit_ h
theorem gF {t : TypeId} {x : Operand} {i g off k : Nat} (hv : ∀ (g off : Nat) (w : World), (Instr.fieldAt t (.pointer (some ⟨g, off, none⟩)) i).run P w = .ok (.pointer (some ⟨g, off + k, none⟩)) w) (ho : o.op = .fieldAddr t x i := by rfl) (hx : ev E x = some (.pointer (some ⟨g, off, none⟩)) := by rfl) : Kv P N o E I (.pointer (some ⟨g, off + k, none⟩)) := Krv ho hx fun w => hv g off w
theorem gL {w0 : Base} {L : List Pc} {t te : TypeId} {x : Operand} {g i : Nat} (k : Nat) {v : Value} {cs : List Value} (hag : ∀ w : World, (isAgg t).run P w = .ok false w) (ho : o.op = .load t x := by rfl) (hx : ev E x = some (.pointer (some ⟨g, i, none⟩)) := by rfl) (hk : L[k]? = some (.blk g te cs) := by rfl) (hi : cs[i]? = some v := by rfl) : Kv P N o E (Pm w0 L) v := Ka7 ho hx hag hk hi
theorem gV {w0 : Base} {L : List Pc} {t te : TypeId} {x : Operand} {g i n : Nat} (k : Nat) (v : Value) {cs : List Value} (hag : ∀ w : World, (isAgg t).run P w = .ok true w) (hs : ∀ w : World, (sizeOf t).run P w = .ok n w) (ho : o.op = .load t x := by rfl) (hx : ev E x = some (.pointer (some ⟨g, i, none⟩)) := by rfl) (hk : L[k]? = some (.blk g te cs) := by rfl) (hi : Nat.ble (i + n) cs.length = true := by rfl) (hv : .agg ((cs.drop i).take n).toArray = v := by rfl) : Kv P N o E (Pm w0 L) v := hv ▸ KqE ho hx hag hs hk (Nat.le_of_ble_eq_true hi)
theorem gN {s : Operand} {t e : TypeId} {A : Option Addr} {n c : Nat} (ht : P.underlying t = some (.slice e)) (ho : o.op = .call { callee := .builtin .len, args := #[s], argTypes := #[t] } := by rfl) (hs : ev E s = some (.slice A n c) := by rfl) : Kv P N o E I (.int .i64 (n : Int)) := Kpm ho ht hs
theorem gA {t e : TypeId} {x ix : Operand} {size : Nat} {A : Option Addr} {b off n c i : Nat} {z : Int} (ht : P.underlying t = some (.slice e)) (hs : ∀ w : World, (sizeOf e).run P w = .ok size w) (ho : o.op = .indexAddr t x ix) (hx : ev E x = some (.slice A n c)) (hi : ev E ix = some (.int .i64 z)) (hz : z = (i : Int)) (hA : A = some ⟨b, off, none⟩) (hlt : i < n) : Kv P N o E I (.pointer (some ⟨b, off + i * size, none⟩)) := KaM ho hx hi fun w => KgJ ht hs hA n c i hlt hz w
section
variable {α : Type} {c : α -> List Value} {k : Nat} {l' : List α} {xx : α} {w0 : Base} {L : List Pc} {t : TypeId} {x : Operand} {b off i : Nat}
theorem gR (K : Cel c k) (hag : ∀ w : World, (isAgg t).run P w = .ok true w) (hs : ∀ w : World, (sizeOf t).run P w = .ok k w) (hb : b < w0.b) (hx : l'[i]? = some xx) (hc : ∀ (j : Nat) (u : Value), (Kb c l')[j]? = some u -> w0.w.cell? ⟨b, off + j, none⟩ = some u) (ho : o.op = .load t x := by rfl) (hE : ev E x = some (.pointer (some ⟨b, off + i * k, none⟩)) := by rfl) : Kv P N o E (Pm w0 L) (.agg (c xx).toArray) :=
  KaQ ho hE hag hs (K.len xx) fun w1 hw j u h => (hw.bel.cell hb).trans (KN K hx hc j u h)
theorem gS (q : Nat) {v : Value} (K : Cel c k) (hag : ∀ w : World, (isAgg t).run P w = .ok false w) (hb : b < w0.b) (hx : l'[i]? = some xx) (hc : ∀ (j : Nat) (u : Value), (Kb c l')[j]? = some u -> w0.w.cell? ⟨b, off + j, none⟩ = some u) (ho : o.op = .load t x := by rfl) (hE : ev E x = some (.pointer (some ⟨b, off + i * k + q, none⟩)) := by rfl) (hq : (c xx)[q]? = some v := by rfl) : Kv P N o E (Pm w0 L) v :=
  Kx ho hE hag fun w1 hw => (hw.bel.cell hb).trans (KN K hx hc q v hq)
theorem Kq {l : List α} {i : Nat} (h : i < l.length) : ∃ x, l[i]? = some x := ⟨_, List.getElem?_eq_getElem h⟩
end
theorem TL.v {d : Nat} {v : Value} (hv : Kv P N o E I v) (h : TL P N ops Q l ((d, v) :: E) I) (hg : o.guard = none := by rfl) (hd : o.dst = some d := by rfl) (hN : Nat.blt d N.n = true := by rfl) : TL P N ops Q (o :: l) E I := TL.val hg hd hN hv h
theorem TQ.v {R : Act -> Prop} {d : Nat} {v : Value} (hv : Kv P N o E I v) (h : TQ P N ops R l ((d, v) :: E) I) (hg : o.guard = none := by rfl) (hd : o.dst = some d := by rfl) (hN : Nat.blt d N.n = true := by rfl) : TQ P N ops R (o :: l) E I := TQ.val hg hd hN hv h
theorem TS.v {R : Act -> World -> Prop} {d : Nat} {v : Value} (hv : Kv P N o E I v) (h : TS P N ops R l ((d, v) :: E) I) (hg : o.guard = none := by rfl) (hd : o.dst = some d := by rfl) (hN : Nat.blt d N.n = true := by rfl) : TS P N ops R (o :: l) E I := TS.val hg hd hN hv h
theorem TL.ov {j d d' : Nat} {b : Bool} {v : Value} (hv : Kv P N { o with guard := none } E I v) (h : TL P N ops Q l ((d, v) :: E) I) (hg : o.guard = some (j, b) := by rfl) (hj : (ops[j]?).bind (·.dst) = some d' := by rfl) (hE : look E d' = some (.bool b) := by rfl) (hd : o.dst = some d := by rfl) (hN : Nat.blt d N.n = true := by rfl) : TL P N ops Q (o :: l) E I := TL.on hg hj hE (TL.val rfl hd hN hv h)
theorem TQ.ov {R : Act -> Prop} {j d d' : Nat} {b : Bool} {v : Value} (hv : Kv P N { o with guard := none } E I v) (h : TQ P N ops R l ((d, v) :: E) I) (hg : o.guard = some (j, b) := by rfl) (hj : (ops[j]?).bind (·.dst) = some d' := by rfl) (hE : look E d' = some (.bool b) := by rfl) (hd : o.dst = some d := by rfl) (hN : Nat.blt d N.n = true := by rfl) : TQ P N ops R (o :: l) E I := TQ.on hg hj hE (TQ.val rfl hd hN hv h)
theorem TL.sp {p : Prop} {dp : Decidable p} {op : BinOp} {xt yt : TypeId} {x y : Operand} {k k' : IntKind} {m n : Int} {d : Nat} (hv : ∀ w : World, (binOp op xt (.int k m) (.int k' n)).run P w = .ok (.bool (decide p)) w) (ht : p -> TL P N ops Q l ((d, .bool true) :: E) I) (hf : ¬ p -> TL P N ops Q l ((d, .bool false) :: E) I)
    (hg : o.guard = none := by rfl) (hd : o.dst = some d := by rfl) (hN : Nat.blt d N.n = true := by rfl) (ho : o.op = .binOp op xt x y yt := by rfl) (hx : ev E x = some (.int k m) := by rfl) (hy : ev E y = some (.int k' n) := by rfl) : TL P N ops Q (o :: l) E I := TL.vsplit hg hd hN (Ke ho hx hy hv) (fun h => ht (of_decide_eq_true h)) fun h => hf (of_decide_eq_false h)
theorem TQ.sp {R : Act -> Prop} {p : Prop} {dp : Decidable p} {op : BinOp} {xt yt : TypeId} {x y : Operand} {k k' : IntKind} {m n : Int} {d : Nat} (hv : ∀ w : World, (binOp op xt (.int k m) (.int k' n)).run P w = .ok (.bool (decide p)) w) (ht : p -> TQ P N ops R l ((d, .bool true) :: E) I) (hf : ¬ p -> TQ P N ops R l ((d, .bool false) :: E) I)
    (hg : o.guard = none := by rfl) (hd : o.dst = some d := by rfl) (hN : Nat.blt d N.n = true := by rfl) (ho : o.op = .binOp op xt x y yt := by rfl) (hx : ev E x = some (.int k m) := by rfl) (hy : ev E y = some (.int k' n) := by rfl) : TQ P N ops R (o :: l) E I := TQ.vsplit hg hd hN (Ke ho hx hy hv) (fun h => ht (of_decide_eq_true h)) fun h => hf (of_decide_eq_false h)
theorem gD {xt yt : TypeId} {x y : Operand} {k : IntKind} {m n : Int} (r : Int) (ho : o.op = .binOp .add xt x y yt := by rfl) (hx : ev E x = some (.int k m) := by rfl) (hy : ev E y = some (.int k n) := by rfl) (h : k.wrap (m + n) = r := by simp only [IntKind.wrap_i64]; omega) : Kv P N o E I (.int k r) := Ke ho hx hy fun w => KbL h w
end
section
variable {P : Program} {N : Fr} {ops : Array Oper} {S I : World -> Prop} {Q : Exit -> Act -> World -> Prop} {f : Nat} {listed : Array Bool} {E : Env}
theorem TX.he (hS : ∀ w, I w -> S w) (h : (∀ w, I w -> S w) -> TH P N ops S Q f listed E I) : TX N (Exit.then (Hd P ops S Q f listed) (NoPanic Q)) .normal E I := TX.held hS (h hS)
theorem TH.t {o : Oper} {d : Nat} {v : Value} {listed' : Array Bool} (i : Nat) (hi : ops[i]? = some o) (hv : Kv P N o E S v) (hS : ∀ w, I w -> S w) (h : TH P N ops S Q f listed' ((d, v) :: E) I) (hg : o.guard = none := by rfl) (hd : o.dst = some d := by rfl)
    (hs : Region.noSelect ops = true := by kernel_rfl) (hf : Region.free .any ops listed i = true := by kernel_rfl) (hr : (Region.ready .any ops listed).contains i = true := by kernel_rfl) (hl : listed.setIfInBounds i true = listed' := by rfl) (hN : Nat.blt d N.n = true := by rfl) : TH P N ops S Q (f + 1) listed E I := TH.take i hi hs hf hr hl hg hd hN hv hS h
end
def Ko (P : Program) (f : FuncId) : Prop := ∃ fn, P.funcs[f]? = some fn /\ (fn.name == "runtime.NumGoroutine") = false /\ fn.body.isNone = false
def KbN (N : Fr) (E : Env) (o : Oper) : Option (Nat × FuncId × List Value) :=
  match o.guard with
  | some _ => none
  | none => match o.dst with
    | none => none
    | some d => match Nat.blt d N.n with
      | false => none
      | true => match o.op with
        | .call c => match c.callee with
          | .value (.func f) => match evs E c.args.toList with
            | some vs => some (d, f, vs)
            | none => none
          | _ => none
        | _ => none
def Kdt (N : Fr) (o : Oper) : Option Nat :=
  match o.guard with
  | some _ => none
  | none => match o.dst with
    | none => none
    | some d => match Nat.blt d N.n with
      | true => some d
      | false => none
def fA (n : Nat) : Array Bool := Array.replicate n false
theorem lC {α : Type} {a : α} {u v : List α} : a :: u ++ v = a :: (u ++ v) := rfl
theorem lN {α : Type} {u : List α} : [] ++ u = u := rfl
section
variable {P : Program} {N : Fr} {Q : Exit -> Act -> World -> Prop} {E E' : Env} {ops : Array Oper} {l : List Oper} {o : Oper} {I : World -> Prop} {w0 : Base} {L : List Pc} {R : Act -> Prop} {d : Nat} {f : FuncId} {vs : List Value}
def Kk3 : List Nat -> Env -> Option Env
  | [], _ => some []
  | t :: ts, E => match look E t, Kk3 ts E with
    | some v, some K => some ((t, v) :: K)
    | _, _ => none
theorem TC.lp {c : Code} {α : Type} (ks : List Nat) {K : Env} (hK : Kk3 ks E = some K) (U : α -> Env) (I' : α -> World -> Prop) (m : α -> Nat) (x0 : α) (hI : ∀ w, I w -> I' x0 w)
    (step : ∀ x, TC P N (Exit.then (fun a w => ∃ y, m y < m x /\ EnvOk N (U y ++ K) a /\ I' y w) Q) c (U x ++ K) (I' x)) (hE : Has E (U x0 ++ K) := by repeat (first | exact trivial | refine And.intro rfl ?_)) : TC P N Q (.loop c) E I :=
  TC.loop_ (fun y => U y ++ K) I' m x0 hE hI step
theorem Kcy (h : KbN N E o = some (d, f, vs)) : ∃ (xs : List Operand) (ts : Array TypeId), o.guard = none /\ o.dst = some d /\ Nat.blt d N.n = true /\ o.op = .call { callee := .value (.func f), args := xs.toArray, argTypes := ts } /\ evs E xs = some vs := by
  unfold KbN at h;split at h
  · cases h
  · rename_i hg;split at h
    · cases h
    · rename_i d' hd;split at h
      · cases h
      · rename_i hN;split at h
        · rename_i c ho;obtain ⟨ce, ar, ty⟩ := c;split at h
          · rename_i f' hf;split at h
            · rename_i vs' hx;cases h;dsimp only at hf hx;subst hf;exact ⟨ar.toList, ty, hg, hd, hN, by rw [ho], hx⟩
            · cases h
          · cases h
        · cases h
theorem Kbm {d : Nat} (h : Kdt N o = some d) : o.guard = none /\ o.dst = some d /\ Nat.blt d N.n = true := by
  unfold Kdt at h;split at h
  · cases h
  · rename_i hg;split at h
    · cases h
    · rename_i d' hd;split at h
      · rename_i hN; cases h; exact ⟨hg, hd, hN⟩
      · cases h
theorem TL.w {v : Value} (h0 : Kdt N o = some d) (hv : Kv P N o E I v) (h : TL P N ops Q l ((d, v) :: E) I) : TL P N ops Q (o :: l) E I := TL.val (Kbm h0).1 (Kbm h0).2.1 (Kbm h0).2.2 hv h
theorem TQ.w {v : Value} (h0 : Kdt N o = some d) (hv : Kv P N o E I v) (h : TQ P N ops R l ((d, v) :: E) I) : TQ P N ops R (o :: l) E I := TQ.val (Kbm h0).1 (Kbm h0).2.1 (Kbm h0).2.2 hv h
theorem TL.vw {b : Bool} (h0 : Kdt N o = some d) (hv : Kv P N o E I (.bool b)) (ht : b = true -> TL P N ops Q l ((d, .bool true) :: E) I) (hf : b = false -> TL P N ops Q l ((d, .bool false) :: E) I) : TL P N ops Q (o :: l) E I := TL.vsplit (Kbm h0).1 (Kbm h0).2.1 (Kbm h0).2.2 hv ht hf
theorem TQ.vw {b : Bool} (h0 : Kdt N o = some d) (hv : Kv P N o E I (.bool b)) (ht : b = true -> TQ P N ops R l ((d, .bool true) :: E) I) (hf : b = false -> TQ P N ops R l ((d, .bool false) :: E) I) : TQ P N ops R (o :: l) E I := TQ.vsplit (Kbm h0).1 (Kbm h0).2.1 (Kbm h0).2.2 hv ht hf
theorem Pm.pk {w : World} {L' : List Pc} (h : Pm w0 L w) (ks : List Nat) (hn : ks.Nodup := by decide) (he : ks.map (fun k => L[k]?) = L'.map some := by rfl) : Pm w0 L' w := h.pick ks hn he
theorem TL.p1 {r : Value} (h0 : KbN N E o = some (d, f, vs)) (hf : Ko P f)
    (hc : ∀ w, Pm w0 L w -> Calls P f vs.toArray w fun e w' => e = .returned r /\ Below w.heap.size w w') (h : TL P N ops Q l ((d, r) :: E) (Pm w0 L)) : TL P N ops Q (o :: l) E (Pm w0 L) := by
  obtain ⟨xs, ts, hg, hd, hN, ho, hx⟩ := Kcy h0;obtain ⟨fn, h1, h2, h3⟩ := hf;exact TL.pcall1 hg hd hN ho hx h1 h2 h3 hc h
theorem TL.pM {α : Type} (r : α -> Value) (Ln : α -> List Pc) (h0 : KbN N E o = some (d, f, vs)) (hf : Ko P f)
    (hc : ∀ w, Pm w0 L w -> Calls P f vs.toArray w fun en w' => ∃ x, en = .returned (r x) /\ Pm w (Ln x) w')
    (h : ∀ x, TL P N ops Q l ((d, r x) :: E) (Pm w0 (Ln x ++ L))) (hna : ∀ x, K7 (Ln x) = true := by intro x; rfl) : TL P N ops Q (o :: l) E (Pm w0 L) := by
  obtain ⟨xs, ts, hg, hd, hN, ho, hx⟩ := Kcy h0;obtain ⟨fn, h1, h2, h3⟩ := hf;exact TL.pcallPm r Ln hg hd hN ho hx h1 h2 h3 hc h hna
theorem TL.pC {α : Type} {k cb : Nat} {p : World -> Prop} (r : α -> Value) (Ln : α -> List Pc) (h0 : KbN N E o = some (d, f, vs)) (hf : Ko P f)
    (hk : L[k]? = some (.abs cb p)) (hc : ∀ w, Pm w0 L w -> p w -> Calls P f vs.toArray w fun en w' => ∃ x, en = .returned (r x) /\ Codr p cb w (Ln x) w')
    (h : ∀ x, TL P N ops Q l ((d, r x) :: E) (Pm w0 (Ln x ++ L))) (hna : ∀ x, K7 (Ln x) = true := by intro x; rfl) : TL P N ops Q (o :: l) E (Pm w0 L) := by
  obtain ⟨xs, ts, hg, hd, hN, ho, hx⟩ := Kcy h0;obtain ⟨fn, h1, h2, h3⟩ := hf;exact TL.pcallCod r Ln hg hd hN ho hx h1 h2 h3 hk hc h hna
theorem TL.pL {α : Type} {r : α -> Value} {I' : α -> World -> Prop} (h0 : KbN N E o = some (d, f, vs)) (hf : Ko P f)
    (hc : ∀ w, I w -> Calls P f vs.toArray w fun e w' => ∃ x, e = .returned (r x) /\ I' x w') (h : ∀ x, TL P N ops Q l ((d, r x) :: E) (I' x)) : TL P N ops Q (o :: l) E I := by
  obtain ⟨xs, ts, hg, hd, hN, ho, hx⟩ := Kcy h0;obtain ⟨fn, h1, h2, h3⟩ := hf;exact TL.call hg hd hN ho hx h1 h2 h3 hc h
theorem TQ.p1 {v : Value} (h0 : KbN N E o = some (d, f, vs)) (hf : Ko P f)
    (hc : ∀ w, I w -> Calls P f vs.toArray w fun e w' => e = .returned v /\ I w') (h : TQ P N ops R l ((d, v) :: E) I) : TQ P N ops R (o :: l) E I := by
  obtain ⟨xs, ts, hg, hd, hN, ho, hx⟩ := Kcy h0;obtain ⟨fn, h1, h2, h3⟩ := hf;exact TQ.call hg hd hN ho hx h1 h2 h3 hc h
theorem TL.pS {b : Bool} (h0 : KbN N E o = some (d, f, vs)) (hf : Ko P f)
    (hc : ∀ w, Pm w0 L w -> Calls P f vs.toArray w fun e w' => e = .returned (.bool b) /\ Below w.heap.size w w') (ht : b = true -> TL P N ops Q l ((d, .bool true) :: E) (Pm w0 L)) (hf' : b = false -> TL P N ops Q l ((d, .bool false) :: E) (Pm w0 L)) : TL P N ops Q (o :: l) E (Pm w0 L) := by
  obtain ⟨xs, ts, hg, hd, hN, ho, hx⟩ := Kcy h0;obtain ⟨fn, h1, h2, h3⟩ := hf;exact TL.callsplit hg hd hN ho hx h1 h2 h3 hc ht hf'
theorem TQ.pS {b : Bool} (h0 : KbN N E o = some (d, f, vs)) (hf : Ko P f)
    (hc : ∀ w, Pm w0 L w -> Calls P f vs.toArray w fun e w' => e = .returned (.bool b) /\ Below w.heap.size w w') (ht : b = true -> TQ P N ops R l ((d, .bool true) :: E) (Pm w0 L)) (hf' : b = false -> TQ P N ops R l ((d, .bool false) :: E) (Pm w0 L)) : TQ P N ops R (o :: l) E (Pm w0 L) := by
  obtain ⟨xs, ts, hg, hd, hN, ho, hx⟩ := Kcy h0;obtain ⟨fn, h1, h2, h3⟩ := hf;exact TQ.callsplit hg hd hN ho hx h1 h2 h3 hc ht hf'
theorem TL.ps {t te : TypeId} {x y : Operand} {g off n : Nat} {v : Value} {cs ws : List Value} (k : Nat) (hs : ∀ w : World, (sizeOf t).run P w = .ok n w)
    (h : TL P N ops Q l E (Pm w0 (L.set k (.blk g te (cs.take off ++ ws ++ cs.drop (off + ws.length)))))) (hg : o.guard = none := by rfl) (hd : o.dst = none := by rfl) (ho : o.op = .store t x y := by rfl) (hx : ev E x = some (.pointer (some ⟨g, off, none⟩)) := by rfl) (hy : ev E y = some v := by rfl)
    (hk : L[k]? = some (.blk g te cs) := by rfl) (hv : v.cells = ws.toArray := by rfl) (hn : ws.length = n := by rfl) (h1 : ws.all Value.oneCell' = true := by rfl) (hl : Nat.ble (off + ws.length) cs.length = true := by rfl) : TL P N ops Q (o :: l) E (Pm w0 L) := by
  subst hn;exact TL.pstore hg hd ho hx hy hk hv hs (fun u hu => List.all_eq_true.1 h1 u hu) (Nat.le_of_ble_eq_true hl) rfl h
theorem TL.bx {t : TypeId} {x : Operand} {v : Value} {cs : List Value} (h : ∀ g, TL P N ops Q l ((d, .pointer (some ⟨g, 0, none⟩)) :: E) (Pm w0 (.blk g t cs :: L)))
    (hg : o.guard = none := by rfl) (hd : o.dst = some d := by rfl) (hN : Nat.blt d N.n = true := by rfl) (ho : o.op = .box t x := by rfl) (hx : ev E x = some v := by rfl) (hc : v.cells = cs.toArray := by rfl) : TL P N ops Q (o :: l) E (Pm w0 L) :=
  TL.pnew hg hd hN (KrR ho hx hc) h
theorem TL.al {t : TypeId} {z : Value} {cs : List Value} (hz : ∀ w : World, (zeroValue t).run P w = .ok z w) (h : ∀ g, TL P N ops Q l ((d, .pointer (some ⟨g, 0, none⟩)) :: E) (Pm w0 (.blk g t cs :: L)))
    (hg : o.guard = none := by rfl) (hd : o.dst = some d := by rfl) (hN : Nat.blt d N.n = true := by rfl) (ho : o.op = .alloc t := by rfl) (hc : z.cells = cs.toArray := by rfl) : TL P N ops Q (o :: l) E (Pm w0 L) :=
  TL.pnew hg hd hN (KoF ho hz hc) h
theorem TX.rd {α : Type} {E' : α -> Env} {I' : α -> World -> Prop} {m : α -> Nat} {b : Nat} (y : α) (hm : m y < b) (hI : ∀ w, I w -> I' y w) (hE : Has E (E' y) := by repeat (first | exact trivial | refine And.intro rfl ?_)) :
    TX N (Exit.then (fun a w => ∃ y, m y < b /\ EnvOk N (E' y) a /\ I' y w) Q) .normal E I := TX.round y hm hE hI
theorem TX.jd {α : Type} {E' : α -> Env} {I' : α -> World -> Prop} (s : α) (hI : ∀ w, I w -> I' s w) (hE : Has E (E' s) := by repeat (first | exact trivial | refine And.intro rfl ?_)) : TX N (Exit.then (fun a w => ∃ s, EnvOk N (E' s) a /\ I' s w) Q) .normal E I := TX.joined s hE hI
end
section
variable {P : Program} {N : Fr} {ops : Array Oper} {S I : World -> Prop} {Q : Exit -> Act -> World -> Prop} {f : Nat} {listed : Array Bool} {E : Env} {l : List Oper} {id : Nat}
theorem TH.o {o : Oper} {listed' : Array Bool} (i : Nat) (h : TL P N ops (Exit.then (Hd P ops S Q f listed') (NoPanic Q)) [o] E I) (hi : ops[i]? = some o := by rfl) (hr : Region.ready .any ops listed = [i] := by kernel_rfl) (hl : listed.setIfInBounds i true = listed' := by rfl) : TH P N ops S Q (f + 1) listed E I := TH.only' i hi hr hl h
theorem TH.g {o : Oper} {d j dg : Nat} {b : Bool} {v : Value} {listed' : Array Bool} (i : Nat) (hi : ops[i]? = some o) (hv : Kv P N o E S v) (hS : ∀ w, I w -> S w) (h : TH P N ops S Q f listed' ((d, v) :: E) I)
    (hs : Region.noSelect ops = true := by kernel_rfl) (hf : Region.free .any ops listed i = true := by kernel_rfl) (hr : (Region.ready .any ops listed).contains i = true := by kernel_rfl) (hl : listed.setIfInBounds i true = listed' := by rfl)
    (hg : o.guard = some (j, b) := by rfl) (hgd : (ops[j]?).bind (·.dst) = some dg := by rfl) (hgE : look E dg = some (.bool b) := by rfl) (hd : o.dst = some d := by rfl) (hN : Nat.blt d N.n = true := by rfl) : TH P N ops S Q (f + 1) listed E I := TH.takeG i hi hs hf hr hl hg hgd hgE hd hN hv hS h
theorem TC.hd (n : Nat) (S : World -> Prop) (hS : ∀ w, I w -> S w) (h : (∀ w, I w -> S w) -> TH P N l.toArray S Q n (fA n) E I) (hm : P.follows .mixedOrders = true := by kernel_rfl) (hn : l.toArray.size = n := by rfl) (hI : ∀ w, I w -> I { w with drawn := w.drawn + 1 } := by exact fun w hw => hw.drawn _) : TC P N Q (.region id l.toArray true) E I := TC.held S hm hn rfl hI (h hS)
end
theorem o17 : Ko Tryz.prog 17 := ⟨_, Tryz.func17, by decide, rfl⟩
theorem o20 : Ko Tryz.prog 20 := ⟨_, Tryz.func20, by decide, rfl⟩
theorem o21 : Ko Tryz.prog 21 := ⟨_, Tryz.func21, by decide, rfl⟩
theorem o22 : Ko Tryz.prog 22 := ⟨_, Tryz.func22, by decide, rfl⟩
theorem o25 : Ko Tryz.prog 25 := ⟨_, Tryz.func25, by decide, rfl⟩
theorem o26 : Ko Tryz.prog 26 := ⟨_, Tryz.func26, by decide, rfl⟩
theorem o27 : Ko Tryz.prog 27 := ⟨_, Tryz.func27, by decide, rfl⟩
theorem o28 : Ko Tryz.prog 28 := ⟨_, Tryz.func28, by decide, rfl⟩
theorem o29 : Ko Tryz.prog 29 := ⟨_, Tryz.func29, by decide, rfl⟩
theorem o35 : Ko Tryz.prog 35 := ⟨_, Tryz.func35, by decide, rfl⟩
theorem o37 : Ko Tryz.prog 37 := ⟨_, Tryz.func37, by decide, rfl⟩
theorem o46 : Ko Tryz.prog 46 := ⟨_, Tryz.func46, by decide, rfl⟩
theorem o48 : Ko Tryz.prog 48 := ⟨_, Tryz.func48, by decide, rfl⟩
theorem o49 : Ko Tryz.prog 49 := ⟨_, Tryz.func49, by decide, rfl⟩
theorem o50 : Ko Tryz.prog 50 := ⟨_, Tryz.func50, by decide, rfl⟩
theorem o53 : Ko Tryz.prog 53 := ⟨_, Tryz.func53, by decide, rfl⟩
theorem o54 : Ko Tryz.prog 54 := ⟨_, Tryz.func54, by decide, rfl⟩
theorem o55 : Ko Tryz.prog 55 := ⟨_, Tryz.func55, by decide, rfl⟩
theorem o56 : Ko Tryz.prog 56 := ⟨_, Tryz.func56, by decide, rfl⟩
theorem o57 : Ko Tryz.prog 57 := ⟨_, Tryz.func57, by decide, rfl⟩
theorem o58 : Ko Tryz.prog 58 := ⟨_, Tryz.func58, by decide, rfl⟩
theorem o64 : Ko Tryz.prog 64 := ⟨_, Tryz.func64, by decide, rfl⟩
theorem o65 : Ko Tryz.prog 65 := ⟨_, Tryz.func65, by decide, rfl⟩
theorem o68 : Ko Tryz.prog 68 := ⟨_, Tryz.func68, by decide, rfl⟩
theorem o70 : Ko Tryz.prog 70 := ⟨_, Tryz.func70, by decide, rfl⟩
theorem o71 : Ko Tryz.prog 71 := ⟨_, Tryz.func71, by decide, rfl⟩
theorem o72 : Ko Tryz.prog 72 := ⟨_, Tryz.func72, by decide, rfl⟩
theorem o73 : Ko Tryz.prog 73 := ⟨_, Tryz.func73, by decide, rfl⟩
theorem o74 : Ko Tryz.prog 74 := ⟨_, Tryz.func74, by decide, rfl⟩
theorem o75 : Ko Tryz.prog 75 := ⟨_, Tryz.func75, by decide, rfl⟩
theorem o76 : Ko Tryz.prog 76 := ⟨_, Tryz.func76, by decide, rfl⟩
theorem o77 : Ko Tryz.prog 77 := ⟨_, Tryz.func77, by decide, rfl⟩
theorem o78 : Ko Tryz.prog 78 := ⟨_, Tryz.func78, by decide, rfl⟩
theorem o79 : Ko Tryz.prog 79 := ⟨_, Tryz.func79, by decide, rfl⟩
theorem o80 : Ko Tryz.prog 80 := ⟨_, Tryz.func80, by decide, rfl⟩
theorem o91 : Ko Tryz.prog 91 := ⟨_, Tryz.func91, by decide, rfl⟩
theorem o93 : Ko Tryz.prog 93 := ⟨_, Tryz.func93, by decide, rfl⟩
theorem o94 : Ko Tryz.prog 94 := ⟨_, Tryz.func94, by decide, rfl⟩
theorem o95 : Ko Tryz.prog 95 := ⟨_, Tryz.func95, by decide, rfl⟩
theorem o99 : Ko Tryz.prog 99 := ⟨_, Tryz.func99, by decide, rfl⟩
theorem Kpe : Ko Tryz.prog 103 := ⟨_, Tryz.func103, by decide, rfl⟩
theorem Kkm : Ko Tryz.prog 104 := ⟨_, Tryz.func104, by decide, rfl⟩
theorem Kiy : Ko Tryz.prog 105 := ⟨_, Tryz.func105, by decide, rfl⟩
theorem Ksp : Ko Tryz.prog 106 := ⟨_, Tryz.func106, by decide, rfl⟩
theorem Kpl : Ko Tryz.prog 108 := ⟨_, Tryz.func108, by decide, rfl⟩
theorem KrL : Ko Tryz.prog 109 := ⟨_, Tryz.func109, by decide, rfl⟩
theorem KlJ : Ko Tryz.prog 110 := ⟨_, Tryz.func110, by decide, rfl⟩
theorem KmW : Ko Tryz.prog 116 := ⟨_, Tryz.func116, by decide, rfl⟩
theorem Kqw : Ko Tryz.prog 117 := ⟨_, Tryz.func117, by decide, rfl⟩
theorem Kli : Ko Tryz.prog 118 := ⟨_, Tryz.func118, by decide, rfl⟩
theorem Krf : Ko Tryz.prog 119 := ⟨_, Tryz.func119, by decide, rfl⟩
theorem KlB : Ko Tryz.prog 120 := ⟨_, Tryz.func120, by decide, rfl⟩
theorem Kr4 : Ko Tryz.prog 121 := ⟨_, Tryz.func121, by decide, rfl⟩
theorem Kdc : Ko Tryz.prog 122 := ⟨_, Tryz.func122, by decide, rfl⟩
theorem Kj9 : Ko Tryz.prog 123 := ⟨_, Tryz.func123, by decide, rfl⟩
theorem KjL : Ko Tryz.prog 124 := ⟨_, Tryz.func124, by decide, rfl⟩
theorem KeF : Ko Tryz.prog 125 := ⟨_, Tryz.func125, by decide, rfl⟩
theorem Kpk : Ko Tryz.prog 126 := ⟨_, Tryz.func126, by decide, rfl⟩
theorem KkQ : Ko Tryz.prog 127 := ⟨_, Tryz.func127, by decide, rfl⟩
theorem Kh9 : Ko Tryz.prog 128 := ⟨_, Tryz.func128, by decide, rfl⟩
theorem Kkw : Ko Tryz.prog 129 := ⟨_, Tryz.func129, by decide, rfl⟩
theorem Kkq : Ko Tryz.prog 135 := ⟨_, Tryz.func135, by decide, rfl⟩
theorem Kp6 : Ko Tryz.prog 138 := ⟨_, Tryz.func138, by decide, rfl⟩
theorem KtB : Ko Tryz.prog 139 := ⟨_, Tryz.func139, by decide, rfl⟩
theorem Ks1 : Ko Tryz.prog 157 := ⟨_, Tryz.func157, by decide, rfl⟩
theorem KnS : Ko Tryz.prog 159 := ⟨_, Tryz.func159, by decide, rfl⟩
theorem KrK : Ko Tryz.prog 160 := ⟨_, Tryz.func160, by decide, rfl⟩
theorem Krp : Ko Tryz.prog 161 := ⟨_, Tryz.func161, by decide, rfl⟩
theorem Kpj : Ko Tryz.prog 162 := ⟨_, Tryz.func162, by decide, rfl⟩
theorem KmB : Ko Tryz.prog 163 := ⟨_, Tryz.func163, by decide, rfl⟩
theorem Keo : Ko Tryz.prog 189 := ⟨_, Tryz.func189, by decide, rfl⟩
theorem Kc6 : Ko Tryz.prog 190 := ⟨_, Tryz.func190, by decide, rfl⟩
theorem Kd3 : Ko Tryz.prog 191 := ⟨_, Tryz.func191, by decide, rfl⟩
theorem Kda : Ko Tryz.prog 192 := ⟨_, Tryz.func192, by decide, rfl⟩
theorem Kb7 : Ko Tryz.prog 193 := ⟨_, Tryz.func193, by decide, rfl⟩
theorem KdT : Ko Tryz.prog 194 := ⟨_, Tryz.func194, by decide, rfl⟩
theorem Kn7 : Ko Tryz.prog 195 := ⟨_, Tryz.func195, by decide, rfl⟩
theorem Kip : Ko Tryz.prog 196 := ⟨_, Tryz.func196, by decide, rfl⟩
theorem KfD : Ko Tryz.prog 197 := ⟨_, Tryz.func197, by decide, rfl⟩
theorem KfE : Ko Tryz.prog 198 := ⟨_, Tryz.func198, by decide, rfl⟩
theorem Kga : Ko Tryz.prog 199 := ⟨_, Tryz.func199, by decide, rfl⟩
theorem Kpz : Ko Tryz.prog 200 := ⟨_, Tryz.func200, by decide, rfl⟩
theorem Khs : Ko Tryz.prog 201 := ⟨_, Tryz.func201, by decide, rfl⟩
theorem Kud : Ko Tryz.prog 206 := ⟨_, Tryz.func206, by decide, rfl⟩
theorem KbZ : Ko Tryz.prog 207 := ⟨_, Tryz.func207, by decide, rfl⟩
theorem KkK : Ko Tryz.prog 216 := ⟨_, Tryz.func216, by decide, rfl⟩
theorem KrW : Ko Tryz.prog 217 := ⟨_, Tryz.func217, by decide, rfl⟩
theorem Kq2 : Ko Tryz.prog 218 := ⟨_, Tryz.func218, by decide, rfl⟩
theorem Kb6 : Ko Tryz.prog 228 := ⟨_, Tryz.func228, by decide, rfl⟩
theorem KcH : Ko Tryz.prog 229 := ⟨_, Tryz.func229, by decide, rfl⟩
theorem Ke7 : Ko Tryz.prog 230 := ⟨_, Tryz.func230, by decide, rfl⟩
theorem Kmf : Ko Tryz.prog 231 := ⟨_, Tryz.func231, by decide, rfl⟩
theorem KjK : Ko Tryz.prog 232 := ⟨_, Tryz.func232, by decide, rfl⟩
theorem Ko1 : Ko Tryz.prog 233 := ⟨_, Tryz.func233, by decide, rfl⟩
theorem KsQ : Ko Tryz.prog 253 := ⟨_, Tryz.func253, by decide, rfl⟩
theorem Ksj : Ko Tryz.prog 254 := ⟨_, Tryz.func254, by decide, rfl⟩
open Go.ChangeShapes Go.WideShapes Go.ChangeAt Go.RowKit
theorem own : ownKnob Tryz.prog.godebug = none := by kernel_rfl
theorem laidOut : laidOutB Tryz.prog = true := by kernel_rfl
theorem Ksc {x : Int} (h : (Lit.int .u8 x).wf = true) : 0 <= x /\ x <= 255 := by simpa [Lit.wf, IntKind.min, IntKind.max, IntKind.signed, IntKind.bits] using h
theorem Kr9 {w : World} {a : Addr} {len cap : Nat} {zs : List Int} (hl : len <= cap) (hz : zs.length = cap) (hb : 0 < len -> a.block < w.heap.size) (hc : ∀ i, i < zs.length -> w.cell? (a.add i) = some (.int .u8 (zs.getD i 0)))
    (hw : ∀ n ∈ zs, (Lit.int .u8 n).wf = true) : Byt w w.heap.size (some a) len (zs.take len) := by
  refine ⟨⟨by simp [bv]; omega, fun hn => ⟨a, rfl, hb hn, fun j u hu => ?_⟩⟩, fun x hx => Ksc (hw x (List.mem_of_mem_take hx))⟩;simp only [bv, List.getElem?_map, List.getElem?_take] at hu;split at hu
  · rename_i hj;have hjl : j < zs.length := by omega
    rw [List.getElem?_eq_getElem hjl] at hu;rw [hc j hjl];simp only [Option.map_some, Option.some.injEq] at hu;rw [<- hu];simp [List.getD, List.getElem?_eq_getElem hjl]
  · simp at hu
section
variable {H : Type} {enc : TypeId × Value -> H} {P : Program} {W : World}
theorem open_byt {t e : TypeId} {base : Nat} {v : Value} {d : DataW H} {p : List MemPlace} (ht : P.underlying t = some (.slice e)) (he : P.underlying e = some (.int .u8)) (hC : P.cellsOf e = 1)
    (hok : Value.okWide P W .any base t v) (h : DataW.Trod enc P W 0 (fun _ => true) true t v d p) : ∃ A n c l, v = .slice A n c /\ n <= c /\ c <= maxLen /\ Byt W W.heap.size A n l := by
  obtain ⟨a0, len0, cap0, rfl⟩ := okWide_slice ht hok;obtain ⟨fuel, hf⟩ := h;rcases open_ints ht he hC hf with ⟨hcs, _⟩ | ⟨x, l, c, zs, hcs, _, hl, hm, hz, _, hcell, hwz⟩
  · simp [Value.cells] at hcs;obtain ⟨rfl, rfl, rfl⟩ := hcs;exact ⟨none, 0, 0, [], rfl, Nat.le_refl _, Nat.zero_le _, Byt.none_ _ _⟩
  · simp [Value.cells] at hcs;obtain ⟨rfl, rfl, rfl⟩ := hcs;have hz' : zs.length = cap0 := by simpa using hz
    refine ⟨_, len0, cap0, zs.take len0, rfl, hl, hm, Kr9 hl hz' (fun hn => ?_) hcell hwz⟩;have := World.block_lt_of_cell? W _ (hcell 0 (by omega));rwa [KiB] at this
end
set_option maxRecDepth 20000
def Cod (w : World) (cb : Nat) : Prop :=
  ∃ A m c l k, Blk w cb 175 #[.slice A m c, .int .i64 ((k : Nat) : Int)] /\ k <= m /\ m <= 1000000 /\ Byt w cb A m l
theorem Cod.lt {w : World} {cb : Nat} (h : Cod w cb) : cb < w.heap.size := by
  obtain ⟨A, m, c, l, k, hb, _⟩ := h;exact hb.lt
theorem Cod.keep {w w' : World} {cb : Nat} (h : Cod w cb) (hk : ∀ b, b <= cb -> w'.heap[b]? = w.heap[b]?) : Cod w' cb := by
  obtain ⟨A, m, c, l, k, hb, h1, h2, h3⟩ := h;exact ⟨A, m, c, l, k, (hk cb (Nat.le_refl _)).trans hb, h1, h2, h3.keep fun p hp => World.cell?_of_block (hk _ (Nat.le_of_lt hp))⟩
theorem Cod.below {w w' : World} {cb B : Nat} (h : Cod w cb) (hb : Below B w w') (hB : cb < B) : Cod w' cb := h.keep fun b hb' => hb.block b (by omega)
theorem Cod.alloc {w : World} {cb : Nat} (h : Cod w cb) (o : Obj) : Cod (w.alloc o) cb := h.keep fun b hb' => Below.heap_alloc w o b (Nat.lt_of_le_of_lt hb' h.lt)
theorem Cod.drewN {w : World} {cb : Nat} (h : Cod w cb) (n : Nat) : Cod (w.drewN n) cb := h
theorem Kqg (A : Option Addr) (n c : Nat) (l : List Int) (w : World) (mo : Int) (h : Byt w w.heap.size A n l) (hc : n <= c) (hn : (n : Int) <= 9223372036854775807) (h0 : 0 <= mo) (h1 : mo <= 1000000) :
    Calls Tryz.prog 35 #[.slice A n c, .int .i64 mo] w fun e w' => e = .returned (.pointer (some ⟨w.heap.size, 0, none⟩)) /\ Cod w' w.heap.size /\ Below w.heap.size w w' /\ w'.heap.size = w.heap.size + 1 := by
  obtain ⟨mo, rfl⟩ := Int.eq_ofNat_of_zero_le h0
  have key : ∀ (m : Nat), m <= 1000000 -> m <= n -> Cod (w.alloc (.cells #[.slice A m c, .int .i64 0] 175)) w.heap.size := fun m hm hmn =>
    ⟨A, m, c, l.take m, 0, Blk.new _ _ _, Nat.zero_le _, hm, (h.head hmn).alloc (Nat.le_refl _) _⟩
  have hb : ∀ o, Below w.heap.size w (w.alloc o) := fun o => (Below.refl _ _).alloc (Nat.le_refl _) o;by_cases hlt : mo < n
  · have k1 := Lib.hid (key mo (by omega) (by omega));clear key
    go_enter Tryz.func35, Tryz.ntmps35
    go_wp2
    go_ret
    exact ⟨rfl, k1.out, hb _, by simp⟩
  · have k1 := Lib.hid (key n (by omega) (by omega));clear key
    go_enter Tryz.func35, Tryz.ntmps35
    go_wp2
    go_ret
    exact ⟨rfl, k1.out, hb _, by simp⟩
theorem Kjp (cb : Nat) (w : World) (n : Int) (A : Option Addr) (m c : Nat) (k : Nat) (hb : Blk w cb 175 #[.slice A m c, .int .i64 k]) (hk : k <= 1000000) (h : m <= k \/ n < 1) :
    Calls Tryz.prog 37 #[.pointer (some ⟨cb, 0, none⟩), .int .i64 n] w fun e w' => e = .returned (.int .i64 0) /\ ∃ q, w' = w.drewN q := by
  have hc0 := hb.cell 0;have hc1 := hb.cell 1;simp at hc0 hc1;by_cases hm : m <= k
  · clear h
    go_enter Tryz.func37, Tryz.ntmps37
    go_wp2
    go_quiet (fail)
    go_wp2
    go_ret
    exact ⟨rfl, _, rfl⟩
  · have h : n < 1 := by omega
    go_enter Tryz.func37, Tryz.ntmps37
    go_wp2
    go_quiet (fail)
    go_wp2
    go_ret
    exact ⟨rfl, _, rfl⟩
theorem Kt7 (cb : Nat) (w : World) (n : Int) (ad : Addr) (m c : Nat) (k : Nat) (x : Int) (hb : Blk w cb 175 #[.slice (some ad) m c, .int .i64 k]) (hk : k < m) (hm : m <= 1000000) (h0 : 1 <= n) (h1 : n <= 256)
    (hx : w.cell? (ad.add k) = some (.int .u8 x)) (hx0 : 0 <= x) (hx1 : x <= 255) :
    Calls Tryz.prog 37 #[.pointer (some ⟨cb, 0, none⟩), .int .i64 n] w fun e w' => e = .returned (.int .i64 (x % n)) /\ ∃ q, w' = (w.drewN q).setCell ⟨cb, 1, none⟩ (.int .i64 ((k + 1 : Nat) : Int)) := by
  have hc0 := hb.cell 0;have hc1 := hb.cell 1;have hf0 := hb.frozen 0;have hf1 := hb.frozen 1;simp at hc0 hc1
  go_enter Tryz.func37, Tryz.ntmps37
  go_wp2
  go_quiet (fail)
  go_wp2
  go_quiet (fail)
  go_wp2
  go_ret
  exact ⟨rfl, _, rfl⟩
theorem Cod.moved {w : World} {cb : Nat} {A : Option Addr} {m c k : Nat} {l : List Int} (hb : Blk w cb 175 #[.slice A m c, .int .i64 k]) (hk : k + 1 <= m) (hm : m <= 1000000) (hl : Byt w cb A m l) (q : Nat) :
    Cod ((w.drewN q).setCell ⟨cb, 1, none⟩ (.int .i64 ((k + 1 : Nat) : Int))) cb /\ w.grownBy ((w.drewN q).setCell ⟨cb, 1, none⟩ (.int .i64 ((k + 1 : Nat) : Int))) (some cb) := by
  refine ⟨⟨A, m, c, l, k + 1, ?_, hk, hm, ?_⟩, ?_⟩
  · exact (hb.drewN q).set_ 1 _
  · exact (hl.drewN q).keep fun p hp => World.cell?_setCell_other _ _ _ _ (fun e => by subst e; simp at hp)
  · refine ⟨rfl, rfl, rfl, by simp, fun i hi hne => ?_⟩;exact (Below.heap_setCell (w.drewN q) _ _ i (fun e => hne (by rw [e])))
def KlD (n : Int) (w : World) (cb : Nat) (e : Ending) (w' : World) : Prop :=
  ∃ x : Int, e = .returned (.int .i64 x) /\ 0 <= x /\ x <= 65535 /\ (1 <= n -> x < n) /\ Cod w' cb /\ w.grownBy w' (some cb) /\ w'.heap.size <= w.heap.size
theorem KmQ (cb : Nat) (w : World) (n : Int) (h : Cod w cb) (hn : n <= 256) :
    Calls Tryz.prog 37 #[.pointer (some ⟨cb, 0, none⟩), .int .i64 n] w (KlD n w cb) := by
  obtain ⟨A, m, c, l, k, hb, hk, hm, hl⟩ := h;by_cases hd : m <= k \/ n < 1
  · refine (Kjp cb w n A m c k hb (by omega) hd).mono fun e w' ⟨he, q, hw⟩ => ?_;subst hw;refine ⟨0, he, by omega, by omega, by omega, ⟨A, m, c, l, k, hb.drewN q, hk, hm, hl.drewN q⟩, ⟨rfl, rfl, rfl, Nat.le_refl _, fun _ _ _ => rfl⟩, Nat.le_refl _⟩
  · have hkm : k < m := by omega
    obtain ⟨ad, x, rfl, _, _, hx0, hx1, hc⟩ := hl.at_ hkm;refine (Kt7 cb w n ad m c k x hb hkm hm (by omega) hn hc hx0 hx1).mono fun e w' ⟨he, q, hw⟩ => ?_;subst hw;obtain ⟨m1, m2⟩ := Cod.moved hb hkm hm hl q;have e1 : 0 <= x % n := Int.emod_nonneg _ (by omega);have e2 : x % n < n := Int.emod_lt_of_pos _ (by omega);exact ⟨x % n, he, e1, by omega, fun _ => e2, m1, m2, by simp⟩
theorem KqD (cb : Nat) (w : World) (n : Int) (ad : Addr) (m c : Nat) (k : Nat) (x : Int) (hb : Blk w cb 175 #[.slice (some ad) m c, .int .i64 k]) (hk : k < m) (hm : m <= 1000000) (h1 : 256 < n)
    (hx : w.cell? (ad.add k) = some (.int .u8 x)) (hx0 : 0 <= x) (hx1 : x <= 255) (hC : ∀ q, Cod ((w.drewN q).setCell ⟨cb, 1, none⟩ (.int .i64 ((k + 1 : Nat) : Int))) cb) :
    Calls Tryz.prog 37 #[.pointer (some ⟨cb, 0, none⟩), .int .i64 n] w fun e w' => ∃ y q, e = .returned (.int .i64 ((256 * x + y) % n)) /\ 0 <= y /\ y <= 255 /\ Cod w' cb /\ ((w.drewN q).setCell ⟨cb, 1, none⟩ (.int .i64 ((k + 1 : Nat) : Int))).grownBy w' (some cb) /\ w'.heap.size <= w.heap.size := by
  have hc0 := hb.cell 0;have hc1 := hb.cell 1;have hf0 := hb.frozen 0;have hf1 := hb.frozen 1;simp at hc0 hc1;have HC := Lib.hid hC;clear hC
  go_enter Tryz.func37, Tryz.ntmps37
  go_wp2_with fail
  go_quiet (fail)
  go_wp2_with fail
  go_quiet (fail)
  go_wp2_with fail
  refine (KmQ cb _ 256 (HC.out _) (by omega)).mono ?_;rintro e w' ⟨y, rfl, hy0, _, hy1, hy2, hy3, hy4⟩;have hy1 := hy1 (by omega)
  go_wp2_with fail
  go_ret
  exact ⟨y, _, rfl, hy0, by omega, hy2, hy3, Nat.le_trans hy4 (by simp)⟩
theorem Kot (cb : Nat) (w : World) (n : Int) (h : Cod w cb) :
    Calls Tryz.prog 37 #[.pointer (some ⟨cb, 0, none⟩), .int .i64 n] w (KlD n w cb) := by
  by_cases hn : n <= 256
  · exact KmQ cb w n h hn
  · obtain ⟨A, m, c, l, k, hb, hk, hm, hl⟩ := h;by_cases hd : m <= k
    · refine (Kjp cb w n A m c k hb (by omega) (.inl hd)).mono fun e w' ⟨he, q, hw⟩ => ?_;subst hw;refine ⟨0, he, by omega, by omega, by omega, ⟨A, m, c, l, k, hb.drewN q, hk, hm, hl.drewN q⟩, ⟨rfl, rfl, rfl, Nat.le_refl _, fun _ _ _ => rfl⟩, Nat.le_refl _⟩
    · have hkm : k < m := by omega
      obtain ⟨ad, x, rfl, _, _, hx0, hx1, hc⟩ := hl.at_ hkm;refine (KqD cb w n ad m c k x hb hkm hm (by omega) hc hx0 hx1 (fun q => (Cod.moved hb hkm hm hl q).1)).mono fun e w' ⟨y, q, he, hy0, hy1, hC, hg, hs⟩ => ?_;have g := (Cod.moved hb hkm hm hl q).2;have e1 : 0 <= (256 * x + y) % n := Int.emod_nonneg _ (by omega);have e2 : (256 * x + y) % n < n := Int.emod_lt_of_pos _ (by omega)
      have e3 : (256 * x + y) % n <= 65535 := by
        by_cases hlt : 256 * x + y < n
        · rw [Int.emod_eq_of_lt (by omega) hlt]; omega
        · omega
      refine ⟨_, he, e1, e3, fun _ => e2, hC, ⟨hg.os.trans g.os, hg.tape.trans g.tape, hg.output.trans g.output, Nat.le_trans g.size hg.size, fun i hi hne => ?_⟩, hs⟩;exact (hg.block i (Nat.lt_of_lt_of_le hi g.size) hne).trans (g.block i hi hne)
set_option maxRecDepth 20000
structure Trc where
 v : Int
 dst : Int
 proto : Int
deriving DecidableEq
def Trc.cells (r : Trc) : List Value := [.int .i64 r.v, .int .u32 r.dst, .int .i64 r.proto]
theorem KaE : Cel Trc.cells 3 := ⟨fun _ => rfl, fun r u hu => by
 simp only [Trc.cells, List.mem_cons, List.not_mem_nil, or_false] at hu;rcases hu with rfl | rfl | rfl <;> rfl⟩
structure Idn where
 v : Int
 run : Int
 num : Int
deriving DecidableEq
def Idn.cells (r : Idn) : List Value := [.int .i64 r.v, .int .i64 r.run, .int .i64 r.num]
structure Hpx where
 ttl : Int
 addr : Int
 fl : Sg Int
def Hpx.cells (r : Hpx) : List Value := [.int .i64 r.ttl, .int .u32 r.addr, .slice r.fl.A r.fl.l.length r.fl.c]
theorem KP : Cel Hpx.cells 3 := ⟨fun _ => rfl, fun r u hu => by
 simp only [Hpx.cells, List.mem_cons, List.not_mem_nil, or_false] at hu;rcases hu with rfl | rfl | rfl <;> rfl⟩
structure Ed where
 ttl : Int
 frm : Int
 to_ : Int
 fl : Sg Int
def Ed.cells (r : Ed) : List Value := [.int .i64 r.ttl, .int .u32 r.frm, .int .u32 r.to_, .slice r.fl.A r.fl.l.length r.fl.c]
theorem Kkg : Cel Ed.cells 4 := ⟨fun _ => rfl, fun r u hu => by
 simp only [Ed.cells, List.mem_cons, List.not_mem_nil, or_false] at hu;rcases hu with rfl | rfl | rfl | rfl <;> rfl⟩
def Kem (x y : Trc) : Int := orI [Kl x.v y.v, Kl x.dst y.dst, Kl x.proto y.proto]
def Kd7 (x y : Hpx) : Int := orI [Kl x.ttl y.ttl, Kl x.addr y.addr]
def Keh (x y : Ed) : Int := orI [Kl x.ttl y.ttl, Kl x.frm y.frm, Kl x.to_ y.to_]
theorem KdU (w : World) : (sizeOf 3).run Tryz.prog w = .ok 1 w := rfl
theorem Ks (w : World) : (isAgg 3).run Tryz.prog w = .ok false w := rfl
theorem KlZ : FA Tryz.prog 48 0 0 := fun g o w => by kernel_rfl
theorem Kjl : FA Tryz.prog 48 1 1 := fun g o w => by kernel_rfl
theorem Kab (w : World) : (isAgg 42).run Tryz.prog w = .ok false w := rfl
theorem Kj3 : FA Tryz.prog 48 2 2 := fun g o w => by kernel_rfl
theorem Kle (a0_0 : Int) (a1_0 : Int) (a2_0 : Int) (w : World) : (Instr.buildSlice 49 3 #[(0, .int .i64 a0_0), (1, .int .i64 a1_0), (2, .int .i64 a2_0)]).run Tryz.prog w = .ok (.slice (some ⟨w.heap.size, 0, none⟩) 3 3) (w.alloc (.cells [.int .i64 a0_0, .int .i64 a1_0, .int .i64 a2_0].toArray 3)) := by kernel_rfl
theorem Knh : FA Tryz.prog 69 0 0 := fun g o w => by kernel_rfl
theorem Knq : FA Tryz.prog 69 1 1 := fun g o w => by kernel_rfl
theorem Kqz (a0_0 : Int) (a1_0 : Int) (w : World) : (Instr.buildSlice 49 2 #[(0, .int .i64 a0_0), (1, .int .i64 a1_0)]).run Tryz.prog w = .ok (.slice (some ⟨w.heap.size, 0, none⟩) 2 2) (w.alloc (.cells [.int .i64 a0_0, .int .i64 a1_0].toArray 3)) := by kernel_rfl
theorem Kk1 : FA Tryz.prog 72 0 0 := fun g o w => by kernel_rfl
theorem KkN : FA Tryz.prog 72 1 1 := fun g o w => by kernel_rfl
theorem Kjq : FA Tryz.prog 72 2 2 := fun g o w => by kernel_rfl
theorem KkD (x : Int) (w : World) :
  Calls Tryz.prog 102 #[.int .i64 x] w fun e w' => e = .returned (.bool false) /\ w' = w := by
 refine Kj (I := fun w1 => w1 = w) Tryz.func102 rfl rfl rfl ?_ rfl;refine zSG (TL.as_ ?_);refine zET (zSG (TL.rn 2 rfl ?_));refine TL.w rfl (Ke rfl rfl rfl (fun w => KaV rfl w)) ?_;refine TL.as_ ?_;refine zET (zr ?_);exact Kg Tryz.results102 rfl (fun w1 hw => ⟨rfl, hw⟩)
theorem Kno (x : Int) (w : World) :
  Calls Tryz.prog 101 #[.int .u32 x] w fun e w' => e = .returned (.bool false) /\ w' = w := by
 refine Kj (I := fun w1 => w1 = w) Tryz.func101 rfl rfl rfl ?_ rfl;refine zSG (TL.as_ ?_);refine zET (zSG (TL.rn 2 rfl ?_));refine TL.w rfl (Ke rfl rfl rfl (fun w => KaV rfl w)) ?_;refine TL.as_ ?_;refine zET (zr ?_);exact Kg Tryz.results101 rfl (fun w1 hw => ⟨rfl, hw⟩)
theorem KcE (x y : Int) (w : World) :
  Calls Tryz.prog 48 #[.int .i64 x, .int .i64 y] w fun e w' => e = .returned (.int .i64 (Kl x y)) /\ w' = w := by
 refine Kj (I := fun w1 => w1 = w) Tryz.func48 rfl rfl rfl ?_ rfl;refine zSG (TL.as_ ?_);refine zET (zSG (TL.mv ?_));refine TL.stcall (r := .bool false) rfl rfl rfl rfl rfl Tryz.func102 (by decide) rfl (fun w1 hw => KkD x w1) ?_;refine TL.as_ ?_;refine zET (zSG (TL.mv ?_));refine TL.stcall (r := .bool false) rfl rfl rfl rfl rfl Tryz.func102 (by decide) rfl (fun w1 hw => KkD y w1) ?_;refine TL.as_ ?_;refine zET (zS (zSG (TL.mv ?_)));refine zET (zd (zk (zT (zS (zSG (TL.mv ?_))))));refine zET (zd (zk (zT (zS (zSG (TL.rn 2 rfl ?_))))));refine TL.sp Kr (fun q16 => ?_) (fun q16 => ?_)
 ·refine zET (zc (zSG (TL.as_ ?_)));refine zET (zr (zR ?_));have hE : (Kl x y) = -1 := (by simp [Kl, q16]; try omega);exact Kg Tryz.results48 rfl (fun w1 hw => ⟨by rw [hE]; try rfl, hw⟩)
 refine zET (zd (zk (zT (zS (zSG (TL.rn 2 rfl ?_))))));refine TL.sp KC (fun q19 => ?_) (fun q19 => ?_)
 ·refine zET (zc (zSG (TL.as_ ?_)));refine zET (zr (zR ?_));have hE : (Kl x y) = 1 := (by simp [Kl, q16, q19]; try omega);exact Kg Tryz.results48 rfl (fun w1 hw => ⟨by rw [hE]; try rfl, hw⟩)
 refine zET (zd (zk (zT (zSG (TL.as_ ?_)))));refine zET (zr ?_);have hE : (Kl x y) = 0 := (by simp [Kl, q16, q19]; try omega);exact Kg Tryz.results48 rfl (fun w1 hw => ⟨by rw [hE]; try rfl, hw⟩)
theorem Kgy (x y : Int) (w : World) :
  Calls Tryz.prog 47 #[.int .u32 x, .int .u32 y] w fun e w' => e = .returned (.int .i64 (Kl x y)) /\ w' = w := by
 refine Kj (I := fun w1 => w1 = w) Tryz.func47 rfl rfl rfl ?_ rfl;refine zSG (TL.as_ ?_);refine zET (zSG (TL.mv ?_));refine TL.stcall (r := .bool false) rfl rfl rfl rfl rfl Tryz.func101 (by decide) rfl (fun w1 hw => Kno x w1) ?_;refine TL.as_ ?_;refine zET (zSG (TL.mv ?_));refine TL.stcall (r := .bool false) rfl rfl rfl rfl rfl Tryz.func101 (by decide) rfl (fun w1 hw => Kno y w1) ?_;refine TL.as_ ?_;refine zET (zS (zSG (TL.mv ?_)));refine zET (zd (zk (zT (zS (zSG (TL.mv ?_))))));refine zET (zd (zk (zT (zS (zSG (TL.rn 2 rfl ?_))))));refine TL.sp Kr (fun q16 => ?_) (fun q16 => ?_)
 ·refine zET (zc (zSG (TL.as_ ?_)));refine zET (zr (zR ?_));have hE : (Kl x y) = -1 := (by simp [Kl, q16]; try omega);exact Kg Tryz.results47 rfl (fun w1 hw => ⟨by rw [hE]; try rfl, hw⟩)
 refine zET (zd (zk (zT (zS (zSG (TL.rn 2 rfl ?_))))));refine TL.sp KC (fun q19 => ?_) (fun q19 => ?_)
 ·refine zET (zc (zSG (TL.as_ ?_)));refine zET (zr (zR ?_));have hE : (Kl x y) = 1 := (by simp [Kl, q16, q19]; try omega);exact Kg Tryz.results47 rfl (fun w1 hw => ⟨by rw [hE]; try rfl, hw⟩)
 refine zET (zd (zk (zT (zSG (TL.as_ ?_)))));refine zET (zr ?_);have hE : (Kl x y) = 0 := (by simp [Kl, q16, q19]; try omega);exact Kg Tryz.results47 rfl (fun w1 hw => ⟨by rw [hE]; try rfl, hw⟩)
theorem Kib (A0 : Option Addr) (n0 c0 : Nat) (xs : List Int) (w : World) (hr : Kd w w.heap.size 1 A0 n0 (Kb (ic .i64) xs)) (hl : xs.length = n0) (hl1 : xs.length <= 100000) :
  Calls Tryz.prog 46 #[.slice A0 n0 c0] w fun e w' => e = .returned (.int .i64 (orI xs)) /\ Below w.heap.size w w' := by
 subst hl;refine Kj Tryz.func46 rfl rfl rfl ?_ (Pm.start w);refine zSG (TL.as_ ?_);refine zET (zSG (TL.as_ ?_));refine zET (zS (zSG (TL.mv ?_)));refine TL.v (gN Tryz.underlying49) ?_;refine TL.mv ?_;refine zET (zB (TC.lp (α := {i : Nat // i <= xs.length /\ orI (xs.drop i) = orI xs}) [0, 3, 6, 7] rfl (fun y => [(8, .int .i64 ((y.1 : Nat) : Int))]) (fun y => Pm w []) (fun y => xs.length - y.1) (⟨0, Nat.zero_le _, rfl⟩) (fun w1 hw => hw) ?_));rintro ⟨i, hi, ho⟩
 try dsimp only at hi ho ⊢
 refine zSG ?_;refine TL.sp Kr (fun q9 => ?_) (fun q9 => ?_)
 ·refine zET (zS (zc (zk (zT (zS (zB (zSG ?_)))))));have hi10 : i < xs.length := by omega
  obtain ⟨x10, hx10⟩ := Kq hi10;obtain ⟨b10, o10, hA10, hbb10, hc10⟩ := hr.ad (by omega) (by decide);have hdr : xs.drop i = x10 :: xs.drop (i + 1) := by obtain ⟨hlt, e⟩ := List.getElem?_eq_some_iff.1 hx10; rw [List.drop_eq_getElem_cons hlt, e]
  refine TL.w rfl (gA (i := i) Tryz.underlying49 KdU rfl rfl rfl rfl hA10 (by omega)) ?_;refine TL.w rfl (Kx (v := .int .i64 x10) rfl rfl Ks (fun w1 hw => (hw.bel.cell hbb10).trans <| KN (Kn .i64) hx10 hc10 0 _ rfl)) ?_;refine TL.as_ ?_;refine zET (zSG (TL.rn 2 rfl ?_));refine TL.sp Kau (fun q14 => ?_) (fun q14 => ?_)
  ·refine zET (zc (zSG (TL.rn 2 rfl (zET (zr (zRR (zR (zRR ?_))))))));exact Kg Tryz.results46 rfl (fun w1 hw => ⟨by rw [<- ho, hdr]; unfold orI; rw [if_neg q14], hw.bel⟩)
  have ho2 : orI (xs.drop (i + 1)) = orI xs := by rw [<- ho, hdr]; exact (if_pos (Decidable.not_not.1 q14)).symm
  refine zET (zd (zk (zN (zT (zG (TL.v (gD ((i + 1 : Nat) : Int)) ?_))))));refine TL.mv ?_;refine zE ?_;exact TX.rd (⟨i + 1, by omega, ho2⟩) (by show xs.length - (i + 1) < xs.length - i; omega) (fun w1 hw => hw)
 refine zET (zS (zd (zx (zX (zX (zM (zT (zSG (TL.rn 2 rfl (zET (zr ?_)))))))))));exact Kg Tryz.results46 rfl (fun w1 hw => ⟨by rw [<- ho, List.drop_of_length_le (by omega)]; rfl, hw.bel⟩)
theorem KtK (x y : Trc) (w : World) :
  Calls Tryz.prog 144 #[.agg x.cells.toArray, .agg y.cells.toArray] w fun e w' => e = .returned (.int .i64 (Kem x y)) /\ Below w.heap.size w w' := by
 refine Kj Tryz.func144 rfl rfl rfl ?_ (Pm.start w);refine zSG ?_;refine TL.bx fun g2 => ?_;refine TL.bx fun g3 => ?_;refine TL.as_ ?_;refine zET (zS (TC.tail 15 (by kernel_rfl) (by kernel_rfl) (fun w hw => hw.drawn _) ?_));refine TS.v (gF KlZ) ?_;refine TS.v (gL 1 Ks) ?_;refine TS.v (gF KlZ) ?_;refine TS.v (gL 0 Ks) ?_;refine TS.call (r := .int .i64 (Kl x.v y.v)) rfl rfl rfl rfl rfl Tryz.func48 (by decide) rfl (fun w1 hw => KcE x.v y.v w1) ?_;refine TS.v (gF Kjl) ?_;refine TS.v (gL 1 Kab) ?_;refine TS.v (gF Kjl) ?_;refine TS.v (gL 0 Kab) ?_;refine TS.call (r := .int .i64 (Kl x.dst y.dst)) rfl rfl rfl rfl rfl Tryz.func47 (by decide) rfl (fun w1 hw => Kgy x.dst y.dst w1) ?_;refine TS.v (gF Kj3) ?_;refine TS.v (gL 1 Ks) ?_;refine TS.v (gF Kj3) ?_;refine TS.v (gL 0 Ks) ?_;refine TS.call (r := .int .i64 (Kl x.proto y.proto)) rfl rfl rfl rfl rfl Tryz.func48 (by decide) rfl (fun w1 hw => KcE x.proto y.proto w1) ?_;refine TS.end_ ?_;refine TL.prowS (e := 3) (size := 1) (cs := Kb (ic .i64) [Kl x.v y.v, Kl x.dst y.dst, Kl x.proto y.proto]) rfl rfl rfl rfl rfl (fun w => Kle _ _ _ w) (by decide) rfl (fun g20 => ?_);refine TL.p1 rfl o46 (fun w1 hw => Kib (some ⟨g20, 0, none⟩) 3 3 ([Kl x.v y.v, Kl x.dst y.dst, Kl x.proto y.proto]) w1 (Kk hw (k := 0) rfl) rfl (by show 3 <= 100000; decide)) ?_;refine TL.as_ ?_;refine zET (zr ?_);exact Kg Tryz.results144 rfl (fun w1 hw => ⟨rfl, hw.bel⟩)
theorem Ktb (x y : Hpx) (w : World) :
  Calls Tryz.prog 61 #[.agg x.cells.toArray, .agg y.cells.toArray] w fun e w' => e = .returned (.int .i64 (Kd7 x y)) /\ Below w.heap.size w w' := by
 refine Kj Tryz.func61 rfl rfl rfl ?_ (Pm.start w);refine zSG ?_;refine TL.bx fun g2 => ?_;refine TL.bx fun g3 => ?_;refine TL.as_ ?_;refine zET (zS (TC.tail 10 (by kernel_rfl) (by kernel_rfl) (fun w hw => hw.drawn _) ?_));refine TS.v (gF Knh) ?_;refine TS.v (gL 1 Ks) ?_;refine TS.v (gF Knh) ?_;refine TS.v (gL 0 Ks) ?_;refine TS.call (r := .int .i64 (Kl x.ttl y.ttl)) rfl rfl rfl rfl rfl Tryz.func48 (by decide) rfl (fun w1 hw => KcE x.ttl y.ttl w1) ?_;refine TS.v (gF Knq) ?_;refine TS.v (gL 1 Kab) ?_;refine TS.v (gF Knq) ?_;refine TS.v (gL 0 Kab) ?_;refine TS.call (r := .int .i64 (Kl x.addr y.addr)) rfl rfl rfl rfl rfl Tryz.func47 (by decide) rfl (fun w1 hw => Kgy x.addr y.addr w1) ?_;refine TS.end_ ?_;refine TL.prowS (e := 3) (size := 1) (cs := Kb (ic .i64) [Kl x.ttl y.ttl, Kl x.addr y.addr]) rfl rfl rfl rfl rfl (fun w => Kqz _ _ w) (by decide) rfl (fun g15 => ?_);refine TL.p1 rfl o46 (fun w1 hw => Kib (some ⟨g15, 0, none⟩) 2 2 ([Kl x.ttl y.ttl, Kl x.addr y.addr]) w1 (Kk hw (k := 0) rfl) rfl (by show 2 <= 100000; decide)) ?_;refine TL.as_ ?_;refine zET (zr ?_);exact Kg Tryz.results61 rfl (fun w1 hw => ⟨rfl, hw.bel⟩)
theorem Ko0 (x y : Ed) (w : World) :
  Calls Tryz.prog 63 #[.agg x.cells.toArray, .agg y.cells.toArray] w fun e w' => e = .returned (.int .i64 (Keh x y)) /\ Below w.heap.size w w' := by
 refine Kj Tryz.func63 rfl rfl rfl ?_ (Pm.start w);refine zSG ?_;refine TL.bx fun g2 => ?_;refine TL.bx fun g3 => ?_;refine TL.as_ ?_;refine zET (zS (TC.tail 15 (by kernel_rfl) (by kernel_rfl) (fun w hw => hw.drawn _) ?_));refine TS.v (gF Kk1) ?_;refine TS.v (gL 1 Ks) ?_;refine TS.v (gF Kk1) ?_;refine TS.v (gL 0 Ks) ?_;refine TS.call (r := .int .i64 (Kl x.ttl y.ttl)) rfl rfl rfl rfl rfl Tryz.func48 (by decide) rfl (fun w1 hw => KcE x.ttl y.ttl w1) ?_;refine TS.v (gF KkN) ?_;refine TS.v (gL 1 Kab) ?_;refine TS.v (gF KkN) ?_;refine TS.v (gL 0 Kab) ?_;refine TS.call (r := .int .i64 (Kl x.frm y.frm)) rfl rfl rfl rfl rfl Tryz.func47 (by decide) rfl (fun w1 hw => Kgy x.frm y.frm w1) ?_;refine TS.v (gF Kjq) ?_;refine TS.v (gL 1 Kab) ?_;refine TS.v (gF Kjq) ?_;refine TS.v (gL 0 Kab) ?_;refine TS.call (r := .int .i64 (Kl x.to_ y.to_)) rfl rfl rfl rfl rfl Tryz.func47 (by decide) rfl (fun w1 hw => Kgy x.to_ y.to_ w1) ?_;refine TS.end_ ?_;refine TL.prowS (e := 3) (size := 1) (cs := Kb (ic .i64) [Kl x.ttl y.ttl, Kl x.frm y.frm, Kl x.to_ y.to_]) rfl rfl rfl rfl rfl (fun w => Kle _ _ _ w) (by decide) rfl (fun g20 => ?_);refine TL.p1 rfl o46 (fun w1 hw => Kib (some ⟨g20, 0, none⟩) 3 3 ([Kl x.ttl y.ttl, Kl x.frm y.frm, Kl x.to_ y.to_]) w1 (Kk hw (k := 0) rfl) rfl (by show 3 <= 100000; decide)) ?_;refine TL.as_ ?_;refine zET (zr ?_);exact Kg Tryz.results63 rfl (fun w1 hw => ⟨rfl, hw.bel⟩)
set_option maxRecDepth 20000
theorem Kbt (w : World) : (sizeOf 3).run Tryz.prog w = .ok 1 w := rfl
theorem Kdo (w : World) : (isAgg 3).run Tryz.prog w = .ok false w := rfl
theorem KsR : Elem Tryz.prog 50 3 1 8 := Elem.mk' Tryz.underlying50 (z := .int .i64 0) (by kernel_rfl) rfl (by omega) (by omega)
theorem Km5 {a0 : Int} : ∀ u ∈ [(.int .i64 a0 : Value)], u.oneCell' = true := by
 intro u hu;rw [List.mem_singleton] at hu;subst hu; rfl
theorem Kml (A0 : Option Addr) (c0 : Nat) (a : List Int) (w : World) (hr : Kd w w.heap.size 1 A0 a.length (Kb (ic .i64) a)) (hl1 : a.length <= 100000) (hac : a.length <= c0) :
  Calls Tryz.prog 229 #[.slice A0 a.length c0] w fun e w' => e = .returned (.slice A0 (Ki a).length c0) /\ Below w.heap.size w w' := by
 refine Kj Tryz.func229 rfl rfl rfl ?_ (Pm.start w);refine zSG (TL.as_ ?_);refine zET (zS (zB ?_));refine TC.loop_ (α := {k : Nat // k <= a.length /\ Ki a = Ki (a.take k)}) (fun y => [(0, .slice A0 y.1 c0)]) (fun y => Pm w []) (fun y => y.1) (⟨a.length, Nat.le_refl _, by rw [List.take_of_length_le (Nat.le_refl _)]⟩) ⟨rfl, trivial⟩ (fun w1 hw => hw) ?_;rintro ⟨k, hk, ht⟩;dsimp only at hk ht ⊢;refine zS (zSG (TL.mv ?_));refine TL.v (gN Tryz.underlying50) ?_;refine TL.sp KC (fun q5 => ?_) (fun q5 => ?_)
 ·refine TL.rn 3 rfl (TL.ov (gN Tryz.underlying50) ?_);refine TL.gu ?_;refine TL.w rfl (Ke rfl rfl rfl (fun w => KA (r := ((k - 1 : Nat) : Int)) (by simp only [IntKind.wrap_i64]; omega) w)) ?_;refine TL.gu ?_;have hi11 : k - 1 < a.length := by omega
  obtain ⟨x11, hx11⟩ := Kq hi11;obtain ⟨b11, o11, hA11, hbb11, hc11⟩ := hr.ad (by omega) (by decide);refine TL.w rfl (gA (i := (k - 1)) Tryz.underlying50 Kbt rfl rfl rfl rfl hA11 (by omega)) ?_;refine TL.gu ?_;refine TL.w rfl (Kx (v := .int .i64 x11) rfl rfl Kdo (fun w1 hw => (hw.bel.cell hbb11).trans <| KN (Kn .i64) hx11 hc11 0 _ rfl)) ?_;refine TL.gu ?_;refine TL.sp KK (fun q13 => ?_) (fun q13 => ?_)
  ·refine TL.pk ?_;refine zET (zc (zk (zT (zB (zG (TL.rn 2 rfl (TL.v (gN Tryz.underlying50) ?_)))))));refine TL.w rfl (Ke rfl rfl rfl (fun w => KA (r := ((k - 1 : Nat) : Int)) (by simp only [IntKind.wrap_i64]; omega) w)) ?_;refine TL.w rfl (Kh8 (v := .slice A0 (k - 1) c0) rfl rfl rfl (fun w => KgH Tryz.underlying50 Kbt _ _ _ (k - 1) rfl (by omega) w)) ?_;refine TL.as_ ?_;refine zE (zN ?_);exact TX.rd (⟨k - 1, by omega, KkL ht hx11 q13 (by omega)⟩) (by show k - 1 < k; omega) (fun w1 hw => hw)
  refine TL.pk ?_;refine zET (zd (zx (zX (zX (zM (zT (zSG (TL.rn 2 rfl (zET (zr ?_))))))))));exact Kg Tryz.results229 rfl (fun w1 hw => ⟨by rw [KjO ht hx11 q13 (by omega) hk], hw.bel⟩)
 refine TL.rn 9 rfl (zET (zd (zx (zX (zX (zM (zT (zSG (TL.rn 2 rfl (zET (zr ?_)))))))))));exact Kg Tryz.results229 rfl (fun w1 hw => ⟨by rw [KlC ht (by omega)], hw.bel⟩)
theorem KdI (A0 : Option Addr) (n c0 : Nat) (a : List Int) (w : World) (hr : Kd w w.heap.size 1 A0 n (Kb (ic .i64) a)) (hl : a.length = n) (hl1 : n <= 100000) (hac : n <= c0) : Calls Tryz.prog 229 #[.slice A0 n c0] w fun e w' => e = .returned (.slice A0 (Ki a).length c0) /\ Below w.heap.size w w' := by
 subst hl;exact Kml A0 c0 a w hr hl1 hac
theorem Kny (A0 : Option Addr) (c0 : Nat) (a : List Int) (w : World) (hr : Kd w w.heap.size 1 A0 a.length (Kb (ic .i64) a)) (hl1 : a.length <= 100000) (hac : a.length <= c0) (hlim : (Ki a).length <= 256) :
  Calls Tryz.prog 196 #[.slice A0 a.length c0] w fun e w' => e = .returned (.tuple #[.slice A0 (Ki a).length c0, .int .i64 0]) /\ Below w.heap.size w w' := by
 refine Kj Tryz.func196 rfl rfl rfl ?_ (Pm.start w);refine zSG (TL.rn 2 rfl (zET (zS (zSG (TL.mv ?_)))));refine TL.p1 (r := .slice A0 ((Ki a).length) c0) rfl KcH (fun w1 hw => KdI A0 a.length c0 a w1 (hr.up hw.bel) rfl (by omega) (by omega)) ?_;refine TL.as_ ?_;refine zET (zSG (TL.mv ?_));refine TL.v (gN Tryz.underlying50) ?_;refine TL.sp KC (fun q8 => ?_) (fun q8 => ?_)
 ·exfalso; omega
 refine zET (zd (zk (zT (zSG (TL.rn 3 rfl (zET (zr ?_)))))));exact K2 (v1 := .slice A0 (Ki a).length c0) (v2 := .int .i64 0) Tryz.results196 rfl rfl (fun w1 hw => ⟨rfl, hw.bel⟩)
theorem Ke6 (A0 : Option Addr) (c0 : Nat) (a : List Int) (i : Nat) (w : World) (hr : Kd w w.heap.size 1 A0 a.length (Kb (ic .i64) a)) (hl1 : a.length <= 100000) (hi : i <= 1000000) :
  Calls Tryz.prog 197 #[.slice A0 a.length c0, .int .i64 ((i : Nat) : Int)] w fun e w' => e = .returned (.int .i64 (a.getD i 0)) /\ Below w.heap.size w w' := by
 refine Kj Tryz.func197 rfl rfl rfl ?_ (Pm.start w);refine zSG (TL.as_ ?_);refine zET (zS (zSG (TL.rn 2 rfl (TL.v (gN Tryz.underlying50) ?_))));refine TL.sp Kr (fun q8 => ?_) (fun q8 => ?_)
 ·refine zET (zc (zSG (TL.rn 2 rfl ?_)));have hi11 : i < a.length := by omega
  obtain ⟨x11, hx11⟩ := Kq hi11;obtain ⟨b11, o11, hA11, hbb11, hc11⟩ := hr.ad (by omega) (by decide);refine TL.w rfl (gA (i := i) Tryz.underlying50 Kbt rfl rfl rfl rfl hA11 (by omega)) ?_;refine TL.w rfl (Kx (v := .int .i64 x11) rfl rfl Kdo (fun w1 hw => (hw.bel.cell hbb11).trans <| KN (Kn .i64) hx11 hc11 0 _ rfl)) ?_;refine TL.as_ ?_;refine zET (zr (zR ?_));exact Kg Tryz.results197 rfl (fun w1 hw => ⟨by rw [KS hx11], hw.bel⟩)
 refine zET (zd (zk (zT (zSG (TL.as_ ?_)))));refine zET (zr ?_);exact Kg Tryz.results197 rfl (fun w1 hw => ⟨by rw [Kdp (by omega)], hw.bel⟩)
theorem Kgc (A0 : Option Addr) (c0 : Nat) (a : List Int) (A1 : Option Addr) (c1 : Nat) (b : List Int) (w : World) (hr : Kd w w.heap.size 1 A0 a.length (Kb (ic .i64) a)) (hl1 : a.length <= 1000) (hr1 : Kd w w.heap.size 1 A1 b.length (Kb (ic .i64) b)) (hl2 : b.length <= 1000) (ha : Nrm a) (hb : Nrm b) :
  Calls Tryz.prog 198 #[.slice A0 a.length c0, .slice A1 b.length c1] w fun e w' => e = .returned (.int .i64 (Kl (Ka a) (Ka b))) /\ Below w.heap.size w w' := by
 refine Kj Tryz.func198 rfl rfl rfl ?_ (Pm.start w);refine zSG (TL.as_ ?_);refine zET (zS (zSG (TL.mv ?_)));refine TL.v (gN Tryz.underlying50) ?_;refine TL.mv ?_;refine TL.v (gN Tryz.underlying50) ?_;refine TL.p1 (r := .int .i64 (Kl (a.length : Nat) (b.length : Nat))) rfl o48 (fun w1 hw => Kes (KcE (a.length : Nat) (b.length : Nat) w1)) ?_;refine TL.as_ ?_;refine zET (zSG (TL.mv ?_));refine TL.sp Kau (fun q13 => ?_) (fun q13 => ?_)
 ·refine zET (zc (zSG (TL.rn 2 rfl (zET (zr (zR ?_))))));have hE : Kl (Ka a) (Ka b) = Kl (a.length : Nat) (b.length : Nat) := Kms ha hb q13;exact Kg Tryz.results198 rfl (fun w1 hw => ⟨by rw [hE], hw.bel⟩)
 have hl : a.length = b.length := by have h9 := Kbe.1 (Decidable.not_not.1 q13); omega
 refine zET (zd (zk (zT (zS (zSG (TL.mv ?_))))));refine TL.v (gN Tryz.underlying50) ?_;refine TL.w rfl (Ke rfl rfl rfl (fun w => KA (r := ((a.length : Nat) : Int) - 1) (by simp only [IntKind.wrap_i64]; omega) w)) ?_;refine TL.as_ ?_;refine zET (zB ?_);refine TC.loop_ (α := {i : Nat // i <= a.length /\ a.drop i = b.drop i}) (fun y => [(0, .slice A0 a.length c0), (1, .slice A1 b.length c1), (6, .int .i64 (((y.1 : Nat) : Int) - 1))]) (fun y => Pm w []) (fun y => y.1) (⟨a.length, Nat.le_refl _, by rw [List.drop_of_length_le (Nat.le_refl _), List.drop_of_length_le (by omega)]⟩) ⟨rfl, rfl, rfl, trivial⟩ (fun w1 hw => hw) ?_;rintro ⟨i, hi, hd⟩;dsimp only at hi hd ⊢;refine zS (zSG (TL.mv ?_));refine TL.sp KO (fun q19 => ?_) (fun q19 => ?_)
 ·refine zET (zc (zk (zT (zS (zB (zS (TC.cut [(0, .slice A0 a.length c0), (1, .slice A1 b.length c1), (6, .int .i64 (((i - 1) : Nat) : Int)), (18, .int .i64 (((i : Nat) : Int) - 1)), (19, .bool true)] (Pm w []) ⟨rfl, rfl, (by show some (Value.int .i64 (((i : Nat) : Int) - 1)) = some (Value.int .i64 (((i - 1) : Nat) : Int)); congr 2; omega), rfl, rfl, trivial⟩ (fun w1 hw => hw) ?_)))))));refine TC.quietQ (by kernel_rfl) (by kernel_rfl) (fun w hw => hw.drawn _) ?_;refine TQ.rn 2 rfl ?_;have hi24 : (i - 1) < a.length := by omega
  obtain ⟨x24, hx24⟩ := Kq hi24;obtain ⟨b24, o24, hA24, hbb24, hc24⟩ := hr.ad (by omega) (by decide);refine TQ.w rfl (gA (i := (i - 1)) Tryz.underlying50 Kbt rfl rfl rfl rfl hA24 (by omega)) ?_;refine TQ.w rfl (Kx (v := .int .i64 x24) rfl rfl Kdo (fun w1 hw => (hw.bel.cell hbb24).trans <| KN (Kn .i64) hx24 hc24 0 _ rfl)) ?_;refine TQ.rn 2 rfl ?_;have hi28 : (i - 1) < b.length := by omega
  obtain ⟨x28, hx28⟩ := Kq hi28;obtain ⟨b28, o28, hA28, hbb28, hc28⟩ := hr1.ad (by omega) (by decide);refine TQ.w rfl (gA (i := (i - 1)) Tryz.underlying50 Kbt rfl rfl rfl rfl hA28 (by omega)) ?_;refine TQ.w rfl (Kx (v := .int .i64 x28) rfl rfl Kdo (fun w1 hw => (hw.bel.cell hbb28).trans <| KN (Kn .i64) hx28 hc28 0 _ rfl)) ?_;refine TQ.sp Kau (fun q30 => ?_) (fun q30 => ?_)
  ·refine TQ.fin ?_;refine zT (zc (zS (TC.quietQ (by kernel_rfl) (by kernel_rfl) (fun w hw => hw.drawn _) ?_)));refine TQ.rn 2 rfl ?_;refine TQ.w rfl (gA (i := (i - 1)) Tryz.underlying50 Kbt rfl rfl rfl rfl hA24 (by omega)) ?_;refine TQ.w rfl (Kx (v := .int .i64 x24) rfl rfl Kdo (fun w1 hw => (hw.bel.cell hbb24).trans <| KN (Kn .i64) hx24 hc24 0 _ rfl)) ?_;refine TQ.rn 2 rfl ?_;refine TQ.w rfl (gA (i := (i - 1)) Tryz.underlying50 Kbt rfl rfl rfl rfl hA28 (by omega)) ?_;refine TQ.w rfl (Kx (v := .int .i64 x28) rfl rfl Kdo (fun w1 hw => (hw.bel.cell hbb28).trans <| KN (Kn .i64) hx28 hc28 0 _ rfl)) ?_;refine TQ.p1 (v := .int .i64 (Kl x24 x28)) rfl o48 (fun w1 hw => (Kes (KcE x24 x28 w1)).mono fun en w2 ⟨h1, h2⟩ => ⟨h1, hw.below h2⟩) ?_;refine TQ.w rfl (KT rfl rfl) ?_;refine TQ.fin ?_;refine zT (zr (zRR (zR (zRR ?_))));have hE : Kl (Ka a) (Ka b) = Kl x24 x28 := Ki2 ha hb hl (by omega) (by rw [show i - 1 + 1 = i by omega]; exact hd) hx24 hx28 q30;exact Kg Tryz.results198 rfl (fun w1 hw => ⟨by rw [hE], hw.bel⟩)
  refine TQ.fin ?_;refine zT (zd (zk (zN (zT (zG (TL.mv ?_))))));refine TL.w rfl (Ke rfl rfl rfl (fun w => KA (r := ((i - 1 : Nat) : Int) - 1) (by simp only [IntKind.wrap_i64]; omega) w)) ?_;refine TL.as_ ?_;refine zE ?_;exact TX.rd (⟨i - 1, by omega, KkO (by rw [show i - 1 + 1 = i by omega]; exact hd) hx24 hx28 (Decidable.not_not.1 q30)⟩) (by show i - 1 < i; omega) (fun w1 hw => hw)
 refine zET (zd (zx (zX (zX (zM (zT (zSG (TL.as_ ?_))))))));refine zET (zr ?_);have hE : Kl (Ka a) (Ka b) = 0 := KmE (by have h0 : i = 0 := (by omega); subst h0; exact hd);exact Kg Tryz.results198 rfl (fun w1 hw => ⟨by rw [hE], hw.bel⟩)
theorem Khe (A0 : Option Addr) (n c0 : Nat) (a : List Int) (w : World) (hr : Kd w w.heap.size 1 A0 n (Kb (ic .i64) a)) (hl : a.length = n) (hl1 : n <= 100000) (hac : n <= c0) (hlim : (Ki a).length <= 256) : Calls Tryz.prog 196 #[.slice A0 n c0] w fun e w' => e = .returned (.tuple #[.slice A0 (Ki a).length c0, .int .i64 0]) /\ Below w.heap.size w w' := by
 subst hl;exact Kny A0 c0 a w hr hl1 hac hlim
theorem Knr (A0 : Option Addr) (c0 : Nat) (a : List Int) (A1 : Option Addr) (c1 : Nat) (b : List Int) (w : World) (hr : Kd w w.heap.size 1 A0 a.length (Kb (ic .i64) a)) (hl1 : a.length <= 1000) (hr1 : Kd w w.heap.size 1 A1 b.length (Kb (ic .i64) b)) (hl2 : b.length <= 1000) (ha : Nrm a) (hb : Nrm b) (hlim : Ka a + Ka b < pB 256) :
  Calls Tryz.prog 123 #[.slice A0 a.length c0, .slice A1 b.length c1] w fun e w' => ∃ x : {y : (Option Addr × Nat) × List Int // (Nrm y.2 /\ Ka y.2 = Ka a + Ka b) /\ y.2.length <= y.1.2 /\ y.1.2 <= maxLen}, e = .returned (.tuple #[.slice x.1.1.1 x.1.2.length x.1.1.2, .int .i64 0]) /\ Pm w [.row (.slice x.1.1.1 x.1.2.length x.1.1.2) 3 1 x.1.2.length (Kb (ic .i64) x.1.2)] w' := by
 refine Kj Tryz.func123 rfl rfl rfl ?_ (Pm.start w);refine zSG (TL.rn 2 rfl (zET (zSG (TL.mv ?_))));refine TL.v (gN Tryz.underlying50) ?_;refine TL.mv ?_;refine TL.v (gN Tryz.underlying50) ?_;refine TL.w rfl (Kn6 rfl rfl rfl) ?_;refine TL.as_ ?_;refine zET (zSG (TL.mv ?_));refine TL.v (gD ((max a.length b.length + 1 : Nat) : Int)) ?_;refine TL.mkrow (m := max a.length b.length + 1) rfl rfl rfl rfl rfl rfl KsR (z := .int .i64 0) (by kernel_rfl) (zs := Kb (ic .i64) (List.replicate (max a.length b.length + 1) 0)) ((KbE _ rfl (max a.length b.length + 1)).trans (by rw [Kam, List.map_replicate])) (by show _ * 8 <= _; omega) (fun g18 => ?_);refine TL.as_ ?_;refine zET (zSG (TL.as_ ?_));refine zET (zS (zSG (TL.rn 2 rfl (zET (zB ?_)))));refine TC.lp (α := {y : Nat × Int × List Int // y.1 <= max a.length b.length /\ SumI 1 a b y.2.2 (max a.length b.length + 1) y.1 y.2.1 /\ 0 <= y.2.1 /\ y.2.1 <= 1}) [0, 1, 6, 7, 19] rfl (fun y => [(20, .int .i64 ((y.1.1 : Nat) : Int)), (8, .int .i64 y.1.2.1)]) (fun y => Pm w [.row (.slice (some ⟨g18, 0, none⟩) (max a.length b.length + 1) (max a.length b.length + 1)) 3 1 (max a.length b.length + 1) (Kb (ic .i64) y.1.2.2)]) (fun y => max a.length b.length - y.1.1) (⟨(0, 0, _), Nat.zero_le _, SumI.start 1 a b _, Int.le_refl _, by show (0 : Int) <= 1; decide⟩) (fun w1 hw => hw) ?_;rintro ⟨⟨i, c, o⟩, hi, hS, hc⟩;dsimp only at hi hS hc ⊢;have hol := hS.len;refine zSG ?_;refine TL.sp Kr (fun q21 => ?_) (fun q21 => ?_)
 ·refine zET (zS (zc (zk (zT (zS (zB (zSG (TL.rn 2 rfl (zET (zS ?_))))))))));obtain ⟨s, hs⟩ : ∃ s, s = a.getD i 0 + 1 * b.getD i 0 + c := ⟨_, rfl⟩;have hsr := SumI.carry ha.1 hb.1 hc hs;have hga := ha.1.getD i;have hgb := hb.1.getD i;refine zG (TL.rn 2 rfl ?_);refine TL.p1 rfl KfD (fun w1 hw => Ke6 A0 c0 a i w1 (hr.up hw.bel) (by omega) (by omega)) ?_;refine TL.rn 2 rfl ?_;refine TL.p1 rfl KfD (fun w1 hw => Ke6 A1 c1 b i w1 (hr1.up hw.bel) (by omega) (by omega)) ?_;refine TL.v (gD (a.getD i 0 + b.getD i 0)) ?_;refine TL.mv ?_;refine TL.v (gD s) ?_;refine TL.as_ ?_;refine zET (zG (TL.rn 3 rfl ?_));refine TL.w rfl (Ke (v := .int .i64 (s % 1073741824)) rfl rfl rfl (fun w => (KaW (by simp) w).trans (by rw [Kcr _ (by omega) (by omega)]))) ?_;refine TL.mv ?_;refine TL.w rfl (Ke (v := .int .i64 (s / 1073741824)) rfl rfl rfl (fun w => KaR 1073741824 (by decide) (by decide) rfl w)) ?_;have hi38 : i < o.length := by omega
  obtain ⟨x38, hx38⟩ := Kq hi38;refine TL.w rfl (gA (i := i) Tryz.underlying50 Kbt rfl rfl rfl rfl rfl (by omega)) ?_;refine TL.rowset (k := 0) (vs := [.int .i64 (s % 1073741824)]) (xs' := Kb (ic .i64) (o.set i (s % 1073741824))) rfl rfl rfl rfl rfl rfl rfl Kbt Km5 (by rw [KR (Kn .i64)]; show 0 + i * 1 + 1 <= _; omega) (K3 (Kn .i64) (q := 0) (y := s % 1073741824) hx38 (by show 0 + 1 <= 1; decide) rfl) ?_
  try dsimp only [List.set_cons_zero, List.set_cons_succ]
  refine TL.as_ ?_;refine zE (zN (zT (zG (TL.v (gD ((i + 1 : Nat) : Int)) ?_))));refine TL.mv ?_;refine zE ?_;exact TX.rd (⟨(i + 1, s / 1073741824, o.set i (s % 1073741824)), by dsimp only; omega, hS.step (by omega) s hs, by dsimp only; omega, by dsimp only; omega⟩) (by show max a.length b.length - (i + 1) < max a.length b.length - i; omega) (fun w1 hw => hw)
 refine zET (zS (zd (zx (zX (zX (zM (zT (zS ?_))))))));have hfu := hS.full0 (by omega) (by omega) (by omega) hc;refine zG (TL.rn 3 rfl ?_);have hi43 : max a.length b.length < o.length := by omega
 obtain ⟨x43, hx43⟩ := Kq hi43;refine TL.w rfl (gA (i := (max a.length b.length)) Tryz.underlying50 Kbt rfl rfl rfl rfl rfl (by omega)) ?_;refine TL.rowset (k := 0) (vs := [.int .i64 c]) (xs' := Kb (ic .i64) (o.set (max a.length b.length) c)) rfl rfl rfl rfl rfl rfl rfl Kbt Km5 (by rw [KR (Kn .i64)]; show 0 + (max a.length b.length) * 1 + 1 <= _; omega) (K3 (Kn .i64) (q := 0) (y := c) hx43 (by show 0 + 1 <= 1; decide) rfl) ?_
 try dsimp only [List.set_cons_zero, List.set_cons_succ]
 refine zET (zSG (TL.mv ?_));refine TL.p1 (r := .tuple #[.slice (some ⟨g18, 0, none⟩) ((Ki (o.set (max a.length b.length) c)).length) (max a.length b.length + 1), .int .i64 0]) rfl Kip (fun w1 hw => Khe (some ⟨g18, 0, none⟩) (max a.length b.length + 1) (max a.length b.length + 1) (o.set (max a.length b.length) c) w1 (Kk hw (k := 0) rfl) (by rw [List.length_set]; exact hol) (by omega) (by omega) (Khz hfu.1 hfu.2.1 hlim)) ?_;refine TL.rn 4 rfl (zET (zr ?_));exact K2 (v1 := .slice (some ⟨g18, 0, none⟩) ((Ki (o.set (max a.length b.length) c)).length) (max a.length b.length + 1)) (v2 := .int .i64 0) Tryz.results123 rfl rfl (fun w1 hw => ⟨⟨(((some ⟨g18, 0, none⟩), max a.length b.length + 1), Ki (o.set (max a.length b.length) c)), ⟨(Nrm.trim hfu.1).1, (Nrm.trim hfu.1).2.trans hfu.2.1⟩, by dsimp only; have h9 := (Kao (o.set (max a.length b.length) c)).2.1; rw [List.length_set] at h9; omega, by dsimp only; unfold maxLen; omega⟩, rfl, Pm.trimR (show Pm w [.row (.slice (some ⟨g18, 0, none⟩) (max a.length b.length + 1) (max a.length b.length + 1)) 3 1 (max a.length b.length + 1) (Kb (ic .i64) (o.set (max a.length b.length) c))] w1 from hw) (by rw [List.length_set]; exact hol)⟩)
set_option maxRecDepth 20000
theorem Kh2 : Elem Tryz.prog 50 3 1 8 := Elem.mk' Tryz.underlying50 (z := .int .i64 0) (by kernel_rfl) rfl (by omega) (by omega)
theorem Ka3 (w : World) : (sizeOf 3).run Tryz.prog w = .ok 1 w := rfl
theorem Ken (w : World) : (isAgg 3).run Tryz.prog w = .ok false w := rfl
theorem Kgp {a0 : Int} : ∀ u ∈ [(.int .i64 a0 : Value)], u.oneCell' = true := by
 intro u hu;rw [List.mem_singleton] at hu;subst hu; rfl
theorem KhR (A0 : Option Addr) (c0 : Nat) (a : List Int) (A1 : Option Addr) (c1 : Nat) (b : List Int) (w : World) (hr : Kd w w.heap.size 1 A0 a.length (Kb (ic .i64) a)) (hl1 : a.length <= 1000) (hr1 : Kd w w.heap.size 1 A1 b.length (Kb (ic .i64) b)) (hl2 : b.length <= 1000) (ha : Nrm a) (hb : Nrm b) (hlt : Ka b <= Ka a) (hlim : Ka a < pB 256) :
  Calls Tryz.prog 199 #[.slice A0 a.length c0, .slice A1 b.length c1] w fun e w' => ∃ x : {y : (Option Addr × Nat) × List Int // (Nrm y.2 /\ Ka y.2 = Ka a - Ka b) /\ y.2.length <= y.1.2 /\ y.1.2 <= maxLen}, e = .returned (.tuple #[.slice x.1.1.1 x.1.2.length x.1.1.2, .int .i64 0]) /\ Pm w [.row (.slice x.1.1.1 x.1.2.length x.1.1.2) 3 1 x.1.2.length (Kb (ic .i64) x.1.2)] w' := by
 refine Kj Tryz.func199 rfl rfl rfl ?_ (Pm.start w);refine zSG (TL.rn 2 rfl (zET (zS (zSG (TL.rn 2 rfl ?_)))));refine TL.p1 rfl KfE (fun w1 hw => Kgc A0 c0 a A1 c1 b w1 (hr.up hw.bel) (by omega) (hr1.up hw.bel) (by omega) ha hb) ?_;refine TL.sp Kr (fun q13 => ?_) (fun q13 => ?_)
 ·exfalso; have := Kax.1 q13; omega
 refine zET (zd (zk (zT (zS ?_))));have hle : Ka b <= Ka a := by have h9 : ¬ Ka a < Ka b := fun h => q13 (Kax.2 h); omega
 have hbl := Ke4 ha.1 hb hle;refine zG (TL.mv ?_);refine TL.v (gN Tryz.underlying50) ?_;refine TL.mkrow (m := a.length) rfl rfl rfl rfl rfl rfl Kh2 (z := .int .i64 0) (by kernel_rfl) (zs := Kb (ic .i64) (List.replicate a.length 0)) ((KbE _ rfl a.length).trans (by rw [Kam, List.map_replicate])) (by show _ * 8 <= _; omega) (fun g16 => ?_);refine TL.as_ ?_;refine zET (zSG (TL.as_ ?_));refine zET (zS (zSG (TL.mv ?_)));refine TL.v (gN Tryz.underlying50) ?_;refine TL.mv ?_;refine zET (zB ?_);refine TC.lp (α := {y : Nat × Int × List Int // y.1 <= a.length /\ SumI (-1) a b y.2.2 a.length y.1 y.2.1 /\ -1 <= y.2.1 /\ y.2.1 <= 0}) [0, 1, 6, 18] rfl (fun y => [(19, .int .i64 ((y.1.1 : Nat) : Int)), (7, .int .i64 y.1.2.1)]) (fun y => Pm w [.row (.slice (some ⟨g16, 0, none⟩) a.length a.length) 3 1 a.length (Kb (ic .i64) y.1.2.2)]) (fun y => a.length - y.1.1) (⟨(0, 0, _), Nat.zero_le _, SumI.start (-1) a b _, by show (-1 : Int) <= 0; decide, Int.le_refl _⟩) (fun w1 hw => hw) ?_;rintro ⟨⟨i, c, o⟩, hi, hS, hc⟩;dsimp only at hi hS hc ⊢;have hol := hS.len;refine zSG ?_;refine TL.sp Kr (fun q20 => ?_) (fun q20 => ?_)
 ·refine zET (zS (zc (zk (zT (zS (zB (zSG (TL.rn 2 rfl (zET (zS ?_))))))))));obtain ⟨s, hs⟩ : ∃ s, s = a.getD i 0 + (-1) * b.getD i 0 + c := ⟨_, rfl⟩;have hsr := SumI.borrow ha.1 hb.1 hc hs;have hga := ha.1.getD i;have hgb := hb.1.getD i;refine TC.quietQ (by kernel_rfl) (by kernel_rfl) (fun w hw => hw.drawn _) ?_;refine TQ.rn 2 rfl ?_;have hi24 : i < a.length := by omega
  obtain ⟨x24, hx24⟩ := Kq hi24;obtain ⟨b24, o24, hA24, hbb24, hc24⟩ := hr.ad (by omega) (by decide);have hax : a.getD i 0 = x24 := KS hx24;refine TQ.w rfl (gA (i := i) Tryz.underlying50 Ka3 rfl rfl rfl rfl hA24 (by omega)) ?_;refine TQ.w rfl (Kx (v := .int .i64 x24) rfl rfl Ken (fun w1 hw => (hw.bel.cell hbb24).trans <| KN (Kn .i64) hx24 hc24 0 _ rfl)) ?_;refine TQ.rn 2 rfl ?_;refine TQ.p1 (v := .int .i64 (b.getD i 0)) rfl KfD (fun w1 hw => (Ke6 A1 c1 b i w1 (hr1.up hw.bel) (by omega) (by omega)).mono fun en w2 ⟨h1, h2⟩ => ⟨h1, hw.below h2⟩) ?_;refine TQ.w rfl (Ke rfl rfl rfl (fun w => KA (r := a.getD i 0 - b.getD i 0) (by simp only [IntKind.wrap_i64]; omega) w)) ?_;refine TQ.w rfl (Ky rfl rfl) ?_;refine TQ.v (gD s) ?_;refine TQ.w rfl (KT rfl rfl) ?_;refine TQ.fin ?_;refine zT (zG (TL.rn 3 rfl ?_));refine TL.w rfl (Ke (v := .int .i64 (s % 1073741824)) rfl rfl rfl (fun w => (KaW (by simp) w).trans (by rw [Kcr _ (by omega) (by omega)]))) ?_;refine TL.mv ?_;refine TL.w rfl (Ke (v := .int .i64 (s / 1073741824)) rfl rfl rfl (fun w => KaR 1073741824 (by decide) (by decide) rfl w)) ?_;have hi38 : i < o.length := by omega
  obtain ⟨x38, hx38⟩ := Kq hi38;refine TL.w rfl (gA (i := i) Tryz.underlying50 Ka3 rfl rfl rfl rfl rfl (by omega)) ?_;refine TL.rowset (k := 0) (vs := [.int .i64 (s % 1073741824)]) (xs' := Kb (ic .i64) (o.set i (s % 1073741824))) rfl rfl rfl rfl rfl rfl rfl Ka3 Kgp (by rw [KR (Kn .i64)]; show 0 + i * 1 + 1 <= _; omega) (K3 (Kn .i64) (q := 0) (y := s % 1073741824) hx38 (by show 0 + 1 <= 1; decide) rfl) ?_
  try dsimp only [List.set_cons_zero, List.set_cons_succ]
  refine TL.as_ ?_;refine zE (zN (zT (zG (TL.v (gD ((i + 1 : Nat) : Int)) ?_))));refine TL.mv ?_;refine zE ?_;exact TX.rd (⟨(i + 1, s / 1073741824, o.set i (s % 1073741824)), by dsimp only; omega, hS.step (by omega) s hs, by dsimp only; omega, by dsimp only; omega⟩) (by show a.length - (i + 1) < a.length - i; omega) (fun w1 hw => hw)
 refine zET (zS (zd (zx (zX (zX (zM (zT (zS ?_))))))));have hfu := hS.less0 (by omega) hbl hc hle;have hlv : Ka o < pB 256 := by rw [hfu]; have := Kz hb.1; omega
 refine zG (TL.mv ?_);refine TL.p1 (r := .tuple #[.slice (some ⟨g16, 0, none⟩) ((Ki o).length) a.length, .int .i64 0]) rfl Kip (fun w1 hw => Khe (some ⟨g16, 0, none⟩) a.length a.length o w1 (Kk hw (k := 0) rfl) hol (by omega) (by omega) (Khz hS.ok rfl hlv)) ?_;refine TL.rn 4 rfl (zET (zr ?_));exact K2 (v1 := .slice (some ⟨g16, 0, none⟩) ((Ki o).length) a.length) (v2 := .int .i64 0) Tryz.results199 rfl rfl (fun w1 hw => ⟨⟨(((some ⟨g16, 0, none⟩), a.length), Ki o), ⟨(Nrm.trim hS.ok).1, (Nrm.trim hS.ok).2.trans hfu⟩, by dsimp only; have h9 := (Kao o).2.1; omega, by dsimp only; unfold maxLen; omega⟩, rfl, Pm.trimR (show Pm w [.row (.slice (some ⟨g16, 0, none⟩) a.length a.length) 3 1 a.length (Kb (ic .i64) o)] w1 from hw) hol⟩)
theorem Kc2 (A0 : Option Addr) (c0 : Nat) (a : List Int) (A1 : Option Addr) (c1 : Nat) (b : List Int) (w : World) (hr : Kd w w.heap.size 1 A0 a.length (Kb (ic .i64) a)) (hl1 : a.length <= 1000) (hr1 : Kd w w.heap.size 1 A1 b.length (Kb (ic .i64) b)) (hl2 : b.length <= 1000) (ha : Nrm a) (hb : Nrm b) (hlim : Ka a * Ka b < pB 256) :
  Calls Tryz.prog 122 #[.slice A0 a.length c0, .slice A1 b.length c1] w fun e w' => ∃ x : {y : (Option Addr × Nat) × List Int // (Nrm y.2 /\ Ka y.2 = Ka a * Ka b) /\ y.2.length <= y.1.2 /\ y.1.2 <= maxLen}, e = .returned (.tuple #[.slice x.1.1.1 x.1.2.length x.1.1.2, .int .i64 0]) /\ Pm w [.row (.slice x.1.1.1 x.1.2.length x.1.1.2) 3 1 x.1.2.length (Kb (ic .i64) x.1.2)] w' := by
 refine Kj Tryz.func122 rfl rfl rfl ?_ (Pm.start w);refine zSG (TL.rn 2 rfl (zET (zSG (TL.mv ?_))));refine TL.v (gN Tryz.underlying50) ?_;refine TL.mv ?_;refine TL.v (gN Tryz.underlying50) ?_;refine TL.v (gD ((a.length + b.length : Nat) : Int)) ?_;refine TL.mkrow (m := a.length + b.length) rfl rfl rfl rfl rfl rfl Kh2 (z := .int .i64 0) (by kernel_rfl) (zs := Kb (ic .i64) (List.replicate (a.length + b.length) 0)) ((KbE _ rfl (a.length + b.length)).trans (by rw [Kam, List.map_replicate])) (by show _ * 8 <= _; omega) (fun g18 => ?_);refine TL.as_ ?_;refine zET (zS (zSG (TL.mv ?_)));refine TL.v (gN Tryz.underlying50) ?_;refine TL.mv ?_;refine zET (zB (TC.lp (α := {y : Nat × List Int // y.1 <= a.length /\ MulI a b y.2 y.1}) [0, 1, 6, 19, 20] rfl (fun y => [(21, .int .i64 ((y.1.1 : Nat) : Int))]) (fun y => Pm w [.row (.slice (some ⟨g18, 0, none⟩) (a.length + b.length) (a.length + b.length)) 3 1 (a.length + b.length) (Kb (ic .i64) y.1.2)]) (fun y => a.length - y.1.1) (⟨(0, _), Nat.zero_le _, MulI.start a b⟩) (fun w1 hw => hw) ?_));rintro ⟨⟨i, o⟩, hi, hM⟩;dsimp only at hi hM ⊢;have hol := hM.len;refine zSG ?_;refine TL.sp Kr (fun q22 => ?_) (fun q22 => ?_)
 ·refine zET (zS (zc (zk (zT (zS (zB (zSG (TL.mv ?_))))))));have hi24 : i < a.length := by omega
  obtain ⟨x24, hx24⟩ := Kq hi24;obtain ⟨b24, o24, hA24, hbb24, hc24⟩ := hr.ad (by omega) (by decide);refine TL.w rfl (gA (i := i) Tryz.underlying50 Ka3 rfl rfl rfl rfl hA24 (by omega)) ?_;refine TL.w rfl (Kx (v := .int .i64 x24) rfl rfl Ken (fun w1 hw => (hw.bel.cell hbb24).trans <| KN (Kn .i64) hx24 hc24 0 _ rfl)) ?_;refine TL.rn 2 rfl (zET (zSG (TL.as_ ?_)));refine zET (zS (zSG (TL.mv ?_)));refine TL.v (gN Tryz.underlying50) ?_;refine TL.mv ?_;refine zET (zB (TC.lp (α := {y : Nat × Int × List Int // y.1 <= b.length /\ MulJ a b y.2.2 i y.1 y.2.1}) [0, 1, 6, 7, 8, 19, 20, 21, 26, 27] rfl (fun y => [(28, .int .i64 ((y.1.1 : Nat) : Int)), (9, .int .i64 y.1.2.1)]) (fun y => Pm w [.row (.slice (some ⟨g18, 0, none⟩) (a.length + b.length) (a.length + b.length)) 3 1 (a.length + b.length) (Kb (ic .i64) y.1.2.2)]) (fun y => b.length - y.1.1) (⟨(0, 0, o), Nat.zero_le _, hM.inner⟩) (fun w1 hw => hw) ?_));rintro ⟨⟨k, c, o2⟩, hk, hJ⟩;dsimp only at hk hJ ⊢;have hol2 := hJ.len;have hc01 := hJ.c01;refine zSG ?_;refine TL.sp Kr (fun q29 => ?_) (fun q29 => ?_)
  ·refine zET (zS (zc (zk (zT (zS (zB (zSG (TL.mv ?_))))))));have hi31 : k < b.length := by omega
   obtain ⟨x31, hx31⟩ := Kq hi31;obtain ⟨b31, o31, hA31, hbb31, hc31⟩ := hr1.ad (by omega) (by decide);refine TL.w rfl (gA (i := k) Tryz.underlying50 Ka3 rfl rfl rfl rfl hA31 (by omega)) ?_;refine TL.w rfl (Kx (v := .int .i64 x31) rfl rfl Ken (fun w1 hw => (hw.bel.cell hbb31).trans <| KN (Kn .i64) hx31 hc31 0 _ rfl)) ?_;refine TL.rn 2 rfl (zET (zS ?_));obtain ⟨z, hz⟩ : ∃ z, o2[i + k]? = some z := ⟨_, List.getElem?_eq_getElem (by have := hJ.len; omega)⟩;have hrg := hJ.rng ha.1 hb.1 hx24 hx31 hz;obtain ⟨s, hs⟩ : ∃ s, s = z + x24 * x31 + c := ⟨_, rfl⟩;refine zG (TL.rn 3 rfl (TL.v (gD ((i + k : Nat) : Int)) ?_));have hi37 : i + k < o2.length := by omega
   obtain ⟨x37, hx37⟩ := Kq hi37;have hxz : x37 = z := by rw [hz] at hx37; injection hx37 with h9; exact h9.symm
   refine TL.w rfl (gA (i := (i + k)) Tryz.underlying50 Ka3 rfl rfl rfl rfl rfl (by omega)) ?_;refine TL.w rfl (Kx (v := .int .i64 x37) rfl rfl Ken (fun w1 hw => KL (Kn .i64) hw (q := 0) rfl hx37 0 _ rfl)) ?_;refine TL.rn 2 rfl ?_;refine TL.w rfl (Ke rfl rfl rfl (fun w => Kb4 (r := x24 * x31) (by simp only [IntKind.wrap_i64]; omega) w)) ?_;refine TL.v (gD (x37 + x24 * x31)) ?_;refine TL.mv ?_;refine TL.v (gD s) ?_;refine TL.as_ ?_;refine zET (zG (TL.rn 3 rfl (TL.v (gD ((i + k : Nat) : Int)) ?_)));refine TL.mv ?_;refine TL.w rfl (Ke (v := .int .i64 (s % 1073741824)) rfl rfl rfl (fun w => (KaW (by simp) w).trans (by rw [Kcr _ (by omega) (by omega)]))) ?_;refine TL.mv ?_;refine TL.w rfl (Ke (v := .int .i64 (s / 1073741824)) rfl rfl rfl (fun w => KaR 1073741824 (by decide) (by decide) rfl w)) ?_;refine TL.w rfl (gA (i := (i + k)) Tryz.underlying50 Ka3 rfl rfl rfl rfl rfl (by omega)) ?_;refine TL.rowset (k := 0) (vs := [.int .i64 (s % 1073741824)]) (xs' := Kb (ic .i64) (o2.set (i + k) (s % 1073741824))) rfl rfl rfl rfl rfl rfl rfl Ka3 Kgp (by rw [KR (Kn .i64)]; show 0 + (i + k) * 1 + 1 <= _; omega) (K3 (Kn .i64) (q := 0) (y := s % 1073741824) hx37 (by show 0 + 1 <= 1; decide) rfl) ?_
   try dsimp only [List.set_cons_zero, List.set_cons_succ]
   refine TL.as_ ?_;refine zE (zN (zT (zG (TL.v (gD ((k + 1 : Nat) : Int)) ?_))));refine TL.mv ?_;refine zE ?_;exact TX.rd (⟨(k + 1, s / 1073741824, o2.set (i + k) (s % 1073741824)), by dsimp only; omega, hJ.step ha.1 hb.1 (by omega) (by omega) hx24 hx31 hz s hs⟩) (by show b.length - (k + 1) < b.length - k; omega) (fun w1 hw => hw)
  refine zET (zS (zd (zx (zX (zX (zM (zT ?_)))))));have hJ2 : MulJ a b o2 i b.length c := by have h9 : k = b.length := (by omega); subst h9; exact hJ
  refine zG (TL.rn 3 rfl (TL.v (gN Tryz.underlying50) ?_));refine TL.v (gD ((i + b.length : Nat) : Int)) ?_;refine TL.mv ?_;have hi61 : i + b.length < o2.length := by omega
  obtain ⟨x61, hx61⟩ := Kq hi61;refine TL.w rfl (gA (i := (i + b.length)) Tryz.underlying50 Ka3 rfl rfl rfl rfl rfl (by omega)) ?_;refine TL.rowset (k := 0) (vs := [.int .i64 c]) (xs' := Kb (ic .i64) (o2.set (i + b.length) c)) rfl rfl rfl rfl rfl rfl rfl Ka3 Kgp (by rw [KR (Kn .i64)]; show 0 + (i + b.length) * 1 + 1 <= _; omega) (K3 (Kn .i64) (q := 0) (y := c) hx61 (by show 0 + 1 <= 1; decide) rfl) ?_
  try dsimp only [List.set_cons_zero, List.set_cons_succ]
  refine zE (zN (zT (zG (TL.v (gD ((i + 1 : Nat) : Int)) ?_))));refine TL.mv ?_;refine zE ?_;exact TX.rd (⟨(i + 1, o2.set (i + b.length) c), by dsimp only; omega, hJ2.done (by omega)⟩) (by show a.length - (i + 1) < a.length - i; omega) (fun w1 hw => hw)
 refine zET (zS (zd (zx (zX (zX (zM (zT (zS ?_))))))));have hfu := hM.full (by omega);refine zG (TL.mv ?_);refine TL.p1 (r := .tuple #[.slice (some ⟨g18, 0, none⟩) ((Ki o).length) (a.length + b.length), .int .i64 0]) rfl Kip (fun w1 hw => Khe (some ⟨g18, 0, none⟩) (a.length + b.length) (a.length + b.length) o w1 (Kk hw (k := 0) rfl) hol (by omega) (by omega) (Khz hM.ok hfu hlim)) ?_;refine TL.rn 4 rfl (zET (zr ?_));exact K2 (v1 := .slice (some ⟨g18, 0, none⟩) ((Ki o).length) (a.length + b.length)) (v2 := .int .i64 0) Tryz.results122 rfl rfl (fun w1 hw => ⟨⟨(((some ⟨g18, 0, none⟩), a.length + b.length), Ki o), ⟨(Nrm.trim hM.ok).1, (Nrm.trim hM.ok).2.trans hfu⟩, by dsimp only; have h9 := (Kao o).2.1; omega, by dsimp only; unfold maxLen; omega⟩, rfl, Pm.trimR (show Pm w [.row (.slice (some ⟨g18, 0, none⟩) (a.length + b.length) (a.length + b.length)) 3 1 (a.length + b.length) (Kb (ic .i64) o)] w1 from hw) hol⟩)
theorem Kl4 (A0 : Option Addr) (c0 : Nat) (a : List Int) (b : Int) (w : World) (hr : Kd w w.heap.size 1 A0 a.length (Kb (ic .i64) a)) (hl1 : a.length <= 1000) (ha : Km a) (hb0 : 0 < b) (hb1 : b <= 1073741824) :
  Calls Tryz.prog 231 #[.slice A0 a.length c0, .int .i64 b] w fun e w' => ∃ x : {y : ((Option Addr × Nat) × List Int) × Int // (Nrm y.1.2 /\ Ka y.1.2 * b + y.2 = Ka a /\ 0 <= y.2 /\ y.2 < b) /\ y.1.2.length <= y.1.1.2 /\ y.1.1.2 <= maxLen}, e = .returned (.tuple #[.slice x.1.1.1.1 x.1.1.2.length x.1.1.1.2, .int .i64 x.1.2]) /\ Pm w [.row (.slice x.1.1.1.1 x.1.1.2.length x.1.1.1.2) 3 1 x.1.1.2.length (Kb (ic .i64) x.1.1.2)] w' := by
 refine Kj Tryz.func231 rfl rfl rfl ?_ (Pm.start w);refine zSG (TL.rn 2 rfl (zET (zSG (TL.mv ?_))));refine TL.v (gN Tryz.underlying50) ?_;refine TL.mkrow (m := a.length) rfl rfl rfl rfl rfl rfl Kh2 (z := .int .i64 0) (by kernel_rfl) (zs := Kb (ic .i64) (List.replicate a.length 0)) ((KbE _ rfl a.length).trans (by rw [Kam, List.map_replicate])) (by show _ * 8 <= _; omega) (fun g12 => ?_);refine TL.as_ ?_;refine zET (zSG (TL.as_ ?_));refine zET (zS (zSG (TL.mv ?_)));refine TL.v (gN Tryz.underlying50) ?_;refine TL.w rfl (Ke rfl rfl rfl (fun w => KA (r := ((a.length : Nat) : Int) - 1) (by simp only [IntKind.wrap_i64]; omega) w)) ?_;refine TL.as_ ?_;refine zET (zB (TC.loop_ (α := {y : Nat × Int × List Int // y.1 <= a.length /\ SmI a y.2.2 b y.1 y.2.1}) (fun y => [(0, .slice A0 a.length c0), (1, .int .i64 b), (6, .slice (some ⟨g12, 0, none⟩) a.length a.length), (7, .int .i64 y.1.2.1), (8, .int .i64 (((y.1.1 : Nat) : Int) - 1))]) (fun y => Pm w [.row (.slice (some ⟨g12, 0, none⟩) a.length a.length) 3 1 a.length (Kb (ic .i64) y.1.2.2)]) (fun y => y.1.1) (⟨(a.length, 0, _), Nat.le_refl _, SmI.start hb0⟩) ⟨rfl, rfl, rfl, rfl, rfl, trivial⟩ (fun w1 hw => hw) ?_));rintro ⟨⟨i, r, o⟩, hi, hS⟩;dsimp only at hi hS ⊢;have hol := hS.len;refine zS (zSG (TL.mv ?_));refine TL.sp KO (fun q17 => ?_) (fun q17 => ?_)
 ·refine zET (zc (zk (zT (zS (zB (zS ?_))))));obtain ⟨x, hx⟩ : ∃ x, a[i - 1]? = some x := ⟨_, List.getElem?_eq_getElem (by omega)⟩;have hS1 : SmI a o b (i - 1 + 1) r := by rw [show i - 1 + 1 = i by omega]; exact hS
  have hrg := hS1.rng ha hb1 hx;have hrx := ha.at_ hx;have hr01 := hS.r01;obtain ⟨v, hv⟩ : ∃ v, v = r * 1073741824 + x := ⟨_, rfl⟩;rw [<- hv] at hrg;refine TC.cut [(0, .slice A0 a.length c0), (1, .int .i64 b), (6, .slice (some ⟨g12, 0, none⟩) a.length a.length), (7, .int .i64 r), (8, .int .i64 (((i - 1) : Nat) : Int)), (16, .int .i64 (((i : Nat) : Int) - 1)), (17, .bool true)] (Pm w [.row (.slice (some ⟨g12, 0, none⟩) a.length a.length) 3 1 a.length (Kb (ic .i64) o)]) ⟨rfl, rfl, rfl, rfl, (by show some (Value.int .i64 (((i : Nat) : Int) - 1)) = some (Value.int .i64 (((i - 1) : Nat) : Int)); congr 2; omega), rfl, rfl, trivial⟩ (fun w1 hw => hw) ?_;refine zG (TL.mv ?_);refine TL.w rfl (Ke (v := .int .i64 (r * 1073741824)) rfl rfl rfl (fun w => by rw [KeO 1073741824 (by decide) (by decide) (by decide) w]; congr 2; simp only [IntKind.wrap_i64]; omega)) ?_;refine TL.rn 2 rfl ?_;have hi24 : (i - 1) < a.length := by omega
  obtain ⟨x24, hx24⟩ := Kq hi24;obtain ⟨b24, o24, hA24, hbb24, hc24⟩ := hr.ad (by omega) (by decide);have hxe : x24 = x := by rw [hx] at hx24; injection hx24 with h9; exact h9.symm
  refine TL.w rfl (gA (i := (i - 1)) Tryz.underlying50 Ka3 rfl rfl rfl rfl hA24 (by omega)) ?_;refine TL.w rfl (Kx (v := .int .i64 x24) rfl rfl Ken (fun w1 hw => (hw.bel.cell hbb24).trans <| KN (Kn .i64) hx24 hc24 0 _ rfl)) ?_;refine TL.w rfl (Ke (v := .int .i64 v) rfl rfl rfl (fun w => (KaW (by simp) w).trans (by rw [KfW _ _ (by omega) (by omega) (ha.at_ hx24), hv, hxe]))) ?_;refine TL.as_ ?_;refine zET (TC.hd 11 (Pm w []) (fun w1 hw => hw.pk []) fun jS => ?_);refine TH.t 0 rfl (Ky rfl rfl) jS ?_;refine TH.t 1 rfl (Ky rfl rfl) jS ?_;refine TH.t 2 rfl (Ky rfl rfl) jS ?_;refine TH.t 3 rfl (Ky rfl rfl) jS ?_;refine TH.t 4 rfl (Ke (v := .int .i64 (v / b)) rfl rfl rfl (fun w => KbQ hrg.1 (by omega) (by omega) w)) jS ?_;refine TH.t 5 rfl (Ky rfl rfl) jS ?_;refine TH.t 6 rfl (Ky rfl rfl) jS ?_;refine TH.t 7 rfl (Ke (v := .int .i64 (v % b)) rfl rfl rfl (fun w => KaL hrg.1 (by omega) w)) jS ?_;have hi35 : (i - 1) < o.length := by omega
  obtain ⟨x35, hx35⟩ := Kq hi35;refine TH.tk 8 rfl rfl rfl (gA (i := (i - 1)) Tryz.underlying50 Ka3 rfl rfl rfl rfl rfl (by omega)) (fun w1 hw => hw.pk []) ?_;refine TH.o 9 ?_;refine TL.rowset (k := 0) (vs := [.int .i64 (v / b)]) (xs' := Kb (ic .i64) (o.set (i - 1) (v / b))) rfl rfl rfl rfl rfl rfl rfl Ka3 Kgp (by rw [KR (Kn .i64)]; show 0 + (i - 1) * 1 + 1 <= _; omega) (K3 (Kn .i64) (q := 0) (y := v / b) hx35 (by show 0 + 1 <= 1; decide) rfl) ?_
  try dsimp only [List.set_cons_zero, List.set_cons_succ]
  refine zE ?_;refine TX.he (fun w1 hw => hw.pk []) fun hS => ?_;refine TH.t 10 rfl (KT rfl rfl) hS ?_;refine TH.done (by kernel_rfl) ?_;refine zN (zT (zG (TL.mv ?_)));refine TL.w rfl (Ke rfl rfl rfl (fun w => KA (r := ((i - 1 : Nat) : Int) - 1) (by simp only [IntKind.wrap_i64]; omega) w)) ?_;refine TL.as_ ?_;refine zE ?_;exact TX.rd (⟨(i - 1, v % b, o.set (i - 1) (v / b)), by dsimp only; omega, hS1.step ha hb1 hx v hv⟩) (by show i - 1 < i; omega) (fun w1 hw => hw)
 refine zET (zd (zx (zX (zX (zM (zT (zS ?_)))))));have hfu : Ka (Ki o) * b + r = Ka a /\ 0 <= r /\ r < b := by have h0 : i = 0 := (by omega); subst h0; exact ⟨by rw [(Nrm.trim hS.ok).2, <- hS.full], hS.r01⟩
 refine zG (TL.mv ?_);refine TL.p1 (r := .slice (some ⟨g12, 0, none⟩) ((Ki o).length) a.length) rfl KcH (fun w1 hw => KdI (some ⟨g12, 0, none⟩) a.length a.length o w1 (Kk hw (k := 0) rfl) hol (by omega) (by omega)) ?_;refine TL.rn 3 rfl (zET (zr ?_));exact K2 (v1 := .slice (some ⟨g12, 0, none⟩) ((Ki o).length) a.length) (v2 := .int .i64 r) Tryz.results231 rfl rfl (fun w1 hw => ⟨⟨((((some ⟨g12, 0, none⟩), a.length), Ki o), r), ⟨(Nrm.trim hS.ok).1, hfu.1, hfu.2⟩, by dsimp only; have h9 := (Kao o).2.1; omega, by dsimp only; unfold maxLen; omega⟩, rfl, Pm.trimR (show Pm w [.row (.slice (some ⟨g12, 0, none⟩) a.length a.length) 3 1 a.length (Kb (ic .i64) o)] w1 from hw) hol⟩)
set_option maxRecDepth 20000
theorem FrI.le {n m : Int} {o : List Int} (h : FrI n o m) : m <= n := by
 have h1 := h.eq;have h2 := Kz h.ok;have h3 : 1 * m <= pB o.length * m := Int.mul_le_mul_of_nonneg_right (by have := KV o.length; omega) h.m0;omega
theorem Kqv (a0_0 : Int) (w : World) : (Instr.buildSlice 50 1 #[(0, .int .i64 a0_0)]).run Tryz.prog w = .ok (.slice (some ⟨w.heap.size, 0, none⟩) 1 1) (w.alloc (.cells [.int .i64 a0_0].toArray 3)) := by kernel_rfl
theorem Khi : Elem Tryz.prog 50 3 1 8 := Elem.mk' Tryz.underlying50 (z := .int .i64 0) (by kernel_rfl) rfl (by omega) (by omega)
theorem KdA (w : World) : (sizeOf 3).run Tryz.prog w = .ok 1 w := rfl
theorem Klk (w : World) : (isAgg 3).run Tryz.prog w = .ok false w := rfl
theorem KkI {a0 : Int} : ∀ u ∈ [(.int .i64 a0 : Value)], u.oneCell' = true := by
 intro u hu;rw [List.mem_singleton] at hu;subst hu; rfl
theorem KsK  (w : World) : (Instr.buildSlice 50 0 #[]).run Tryz.prog w = .ok (.slice (some ⟨w.heap.size, 0, none⟩) 0 0) (w.alloc (.cells [].toArray 3)) := by kernel_rfl
theorem Kpp (n : Int) (w : World) (hn0 : 0 <= n) (hn1 : n <= 4611686018427387904) :
  Calls Tryz.prog 121 #[.int .i64 n] w fun e w' => ∃ x : {y : (Option Addr × Nat) × List Int // (Nrm y.2 /\ Ka y.2 = n) /\ y.2.length <= y.1.2 /\ y.1.2 <= maxLen}, e = .returned (.tuple #[.slice x.1.1.1 x.1.2.length x.1.1.2, .int .i64 0]) /\ Pm w [.row (.slice x.1.1.1 x.1.2.length x.1.1.2) 3 1 x.1.2.length (Kb (ic .i64) x.1.2)] w' := by
 refine Kj Tryz.func121 rfl rfl rfl ?_ (Pm.start w);refine zSG (TL.rn 2 rfl (zET (zS (zSG (TL.mv ?_)))));refine TL.sp Kr (fun q6 => ?_) (fun q6 => ?_)
 ·exfalso; omega
 refine zET (zd (zk (zT (zSG (TL.as_ ?_)))));refine zET (zS (zB (TC.nilrow 3 1 ?_)));refine TC.loop_ (α := {y : Int × (Option Addr × Nat) × List Int // FrI n y.2.2 y.1 /\ y.2.2.length <= y.2.1.2 /\ y.2.1.2 <= maxLen}) (fun y => [(0, .int .i64 y.1.1), (4, .slice y.1.2.1.1 y.1.2.2.length y.1.2.1.2)]) (fun y => Pm w [.row (.slice y.1.2.1.1 y.1.2.2.length y.1.2.1.2) 3 1 y.1.2.2.length (Kb (ic .i64) y.1.2.2)]) (fun y => y.1.1.toNat) (⟨(n, (none, 0), []), FrI.start hn0, Nat.le_refl _, Nat.zero_le _⟩) ⟨rfl, rfl, trivial⟩ (fun w1 hw => hw) ?_;rintro ⟨⟨m, ⟨Ao, co⟩, o⟩, hF, hoc, hom⟩;dsimp only at hF hoc hom ⊢;have hm0 := hF.m0;have hmn : m <= n := hF.le;refine zS (zSG (TL.mv ?_));refine TL.sp KC (fun q8 => ?_) (fun q8 => ?_)
 ·refine zET (zc (zk (zT (zS (zB ?_)))));have hol := hF.len q8 (by omega);refine zG (TL.rn 2 rfl ?_);refine TL.w rfl (Ke (v := .int .i64 (m % 1073741824)) rfl rfl rfl (fun w => (KaW (by simp) w).trans (by rw [Kcr _ (by omega) (by omega)]))) ?_;refine TL.prowS (e := 3) (size := 1) (cs := Kb (ic .i64) [m % 1073741824]) rfl rfl rfl rfl rfl (fun w => Kqv _ w) (by decide) rfl (fun g14 => ?_);refine TL.appendT (k := 1) rfl rfl rfl rfl Tryz.underlying50 Khi rfl rfl rfl (fun w1 hw => K1 hw (k := 0) rfl) (KB (Kn .i64) _) (by show _ * 8 <= _; omega) ((o ++ [m % 1073741824]).length) (by rw [List.length_append]; rfl) (Kb (ic .i64) (o ++ [m % 1073741824])) ((KD _ _).symm) (fun A15 c15 hA151 hA152 => ?_);refine TL.as_ ?_;refine zE (zN (zT (zG (TL.mv ?_))));refine TL.w rfl (Ke (v := .int .i64 (m / 1073741824)) rfl rfl rfl (fun w => KaR 1073741824 (by decide) (by decide) rfl w)) ?_;refine TL.as_ ?_;refine zE ?_;exact TX.rd (⟨(m / 1073741824, (A15, c15), o ++ [m % 1073741824]), hF.step q8, hA151, hA152⟩) (by show (m / 1073741824).toNat < m.toNat; omega) (fun w1 hw => hw.pk [1])
 refine zET (zd (zx (zX (zX (zM (zT (zSG (TL.rn 3 rfl (zET (zr ?_))))))))));exact K2 (v1 := .slice Ao o.length co) (v2 := .int .i64 0) Tryz.results121 rfl rfl (fun w1 hw => ⟨⟨((Ao, co), o), hF.done0 q8, hoc, hom⟩, rfl, hw⟩)
theorem Ks9 {D ru rv U V t : Int} (hi nx th ld sc : Int) (w : World) (hL : Lead hi nx th ld sc D ru rv U V t) (hldB : ld < 1073741824) :
  Calls Tryz.prog 233 #[.int .i64 hi, .int .i64 nx, .int .i64 th, .int .i64 ld, .int .i64 sc] w fun e w' => ∃ x : {g : Int // t <= g /\ g <= t + 1 /\ 0 <= g /\ g < 1073741824}, e = .returned (.int .i64 x.1) /\ Below w.heap.size w w' := by
 refine Kj Tryz.func233 rfl rfl rfl ?_ (Pm.start w);refine zSG (TL.as_ ?_);refine zET (zS ?_);have h0 := hL.hhi;have hnx := hL.hnx;have hld := hL.hld;obtain ⟨v0, hv0⟩ : ∃ v, v = hi * 1073741824 + nx := ⟨_, rfl⟩;have hin := hL.init;rw [<- hv0] at hin;refine zG (TL.mv ?_);refine TL.w rfl (Ke (v := .int .i64 (hi * 1073741824)) rfl rfl rfl (fun w => by rw [KeO 1073741824 (by decide) (by decide) (by decide) w]; congr 2; simp only [IntKind.wrap_i64]; omega)) ?_;refine TL.mv ?_;refine TL.w rfl (Ke (v := .int .i64 v0) rfl rfl rfl (fun w => (KaW (by simp) w).trans (by rw [KfW _ _ h0.1 (by omega) hL.hnx, hv0]))) ?_;refine TL.as_ ?_;refine zET (zS ?_);have hem := Int.emod_add_mul_ediv v0 ld;have hm0 : 0 <= v0 % ld := Int.emod_nonneg _ (by omega);have hm1 : v0 % ld < ld := Int.emod_lt_of_pos _ hld;have hq0 : 0 <= v0 / ld := Int.ediv_nonneg (by omega) (by omega);have hq1 : v0 / ld <= v0 := Int.ediv_le_self _ (by omega);refine TC.quietQ (by kernel_rfl) (by kernel_rfl) (fun w hw => hw.drawn _) ?_;refine TQ.rn 2 rfl ?_;refine TQ.w rfl (Ke (v := .int .i64 (v0 / ld)) rfl rfl rfl (fun w => KbQ (by omega) hL.hld (by omega) w)) ?_;refine TQ.rn 2 rfl ?_;refine TQ.w rfl (Ke (v := .int .i64 (v0 % ld)) rfl rfl rfl (fun w => KaL (by omega) hL.hld w)) ?_;refine TQ.rn 2 rfl ?_;refine TQ.fin ?_;refine zT (zS (zB ?_));refine TC.lp (α := {y : Int × Int // y.1 * ld + y.2 = v0 /\ 0 <= y.2 /\ y.2 <= 2147483647 /\ t <= y.1 /\ y.1 <= v0}) [2, 3, 4] rfl (fun y => [(12, .int .i64 y.1.1), (13, .int .i64 y.1.2)]) (fun y => Pm w []) (fun y => (2147483648 - y.1.2).toNat) (⟨(v0 / ld, v0 % ld), by dsimp only; rw [Int.mul_comm]; omega, hm0, by dsimp only; omega, hin, hq1⟩) (fun w1 hw => hw) ?_;rintro ⟨⟨q, r⟩, hqr, hr0, hr1, htq, hqv⟩;dsimp only at hqr hr0 hr1 htq hqv ⊢;have ht0 := hL.ht;have hq0 : 0 <= q := by omega
 refine zS (zSG (TL.mv ?_));refine TL.sp Kr (fun q25 => ?_) (fun q25 => ?_)
 ·refine TL.rn 2 rfl (TL.gu ?_);refine TL.sp KO (fun q28 => ?_) (fun q28 => ?_)
  ·refine TL.rn 11 rfl (zET (zc (zk (zT (zB (zG (TL.mv ?_)))))));refine TL.w rfl (Ke rfl rfl rfl (fun w => KA (r := q - 1) (by simp only [IntKind.wrap_i64]; omega) w)) ?_;refine TL.rn 2 rfl (TL.v (gD (r + ld)) ?_);refine TL.rn 2 rfl (zE (zN ?_));exact TX.rd (⟨(q - 1, r + ld), by dsimp only; rw [Int.sub_mul]; omega, by dsimp only; omega, by dsimp only; omega, hL.step (by rw [<- hv0]; exact hqr) htq (.inl q28), by dsimp only; omega⟩) (by show (2147483648 - (r + ld)).toNat < (2147483648 - r).toNat; omega) (fun w1 hw => hw)
  refine TL.rn 3 rfl ?_;have hmm := Kec ⟨hq0, (by omega : q < 1073741824)⟩ hL.hsc;refine TL.gu ?_;refine TL.w rfl (Ke rfl rfl rfl (fun w => Kb4 (r := q * sc) (by simp only [IntKind.wrap_i64]; omega) w)) ?_;refine TL.rn 1 rfl (TL.gu ?_);refine TL.w rfl (Ke (v := .int .i64 (r * 1073741824)) rfl rfl rfl (fun w => by rw [KeO 1073741824 (by decide) (by decide) (by decide) w]; congr 2; simp only [IntKind.wrap_i64]; omega)) ?_;refine TL.rn 1 rfl (TL.gu ?_);refine TL.w rfl (Ke (v := .int .i64 (r * 1073741824 + th)) rfl rfl rfl (fun w => (KaW (by simp) w).trans (by rw [KfW _ _ hr0 (by omega) hL.hth]))) ?_;refine TL.gu ?_;refine TL.sp KC (fun q37 => ?_) (fun q37 => ?_)
  ·refine TL.rn 2 rfl (zET (zc (zk (zT (zB (zG (TL.mv ?_)))))));refine TL.w rfl (Ke rfl rfl rfl (fun w => KA (r := q - 1) (by simp only [IntKind.wrap_i64]; omega) w)) ?_;refine TL.rn 2 rfl (TL.v (gD (r + ld)) ?_);refine TL.rn 2 rfl (zE (zN ?_));exact TX.rd (⟨(q - 1, r + ld), by dsimp only; rw [Int.sub_mul]; omega, by dsimp only; omega, by dsimp only; omega, hL.step (by rw [<- hv0]; exact hqr) htq (.inr q37), by dsimp only; omega⟩) (by show (2147483648 - (r + ld)).toNat < (2147483648 - r).toNat; omega) (fun w1 hw => hw)
  refine TL.rn 2 rfl (zET (zd (zx (zX (zX (zM (zT (zSG (TL.rn 2 rfl (zET (zr ?_)))))))))));have hd := hL.done (by rw [<- hv0]; exact hqr) hr0 htq (.inr (fun h9 => h9.elim q28 q37));exact Kg Tryz.results233 rfl (fun w1 hw => ⟨⟨q, htq, hd.2, hq0, hd.1⟩, rfl, hw.bel⟩)
 refine TL.rn 4 rfl ?_;refine TL.offU rfl rfl rfl rfl rfl ?_;refine TL.offU rfl rfl rfl rfl rfl ?_;refine TL.offU rfl rfl rfl rfl rfl ?_;refine TL.offU rfl rfl rfl rfl rfl ?_;refine TL.offU rfl rfl rfl rfl rfl ?_;refine TL.offU rfl rfl rfl rfl rfl ?_;refine TL.offU rfl rfl rfl rfl rfl ?_;refine TL.offU rfl rfl rfl rfl rfl ?_;refine TL.rn 2 rfl (zET (zd (zx (zX (zX (zM (zT (zSG (TL.rn 2 rfl (zET (zr ?_)))))))))));have hd := hL.done (by rw [<- hv0]; exact hqr) hr0 htq (.inl (by omega));exact Kg Tryz.results233 rfl (fun w1 hw => ⟨⟨q, htq, hd.2, hq0, hd.1⟩, rfl, hw.bel⟩)
theorem Kng (A0 : Option Addr) (c0 : Nat) (a : List Int) (b : Nat) (w : World) (hr : Kd w w.heap.size 1 A0 a.length (Kb (ic .i64) a)) (hl1 : a.length <= 1000) (ha : Km a) (hb : b <= 29) :
  Calls Tryz.prog 232 #[.slice A0 a.length c0, .int .i64 ((b : Nat) : Int)] w fun e w' => ∃ x : {y : (Option Addr × Nat) × List Int // (Km y.2 /\ Ka y.2 = Ka a * 2 ^ b /\ y.2.length = a.length + 1) /\ y.2.length <= y.1.2 /\ y.1.2 <= maxLen}, e = .returned (.slice x.1.1.1 (a.length + 1) x.1.1.2) /\ Pm w [.row (.slice x.1.1.1 (a.length + 1) x.1.1.2) 3 1 (a.length + 1) (Kb (ic .i64) x.1.2)] w' := by
 refine Kj Tryz.func232 rfl rfl rfl ?_ (Pm.start w);refine zSG (TL.as_ ?_);refine zET (zSG (TL.mv ?_));refine TL.v (gN Tryz.underlying50) ?_;refine TL.v (gD ((a.length + 1 : Nat) : Int)) ?_;refine TL.mkrow (m := (a.length + 1)) rfl rfl rfl rfl rfl rfl Khi (z := .int .i64 0) (by kernel_rfl) (zs := Kb (ic .i64) (List.replicate (a.length + 1) 0)) ((KbE _ rfl (a.length + 1)).trans (by rw [Kam, List.map_replicate])) (by show _ * 8 <= _; omega) (fun g12 => ?_);refine TL.as_ ?_;refine zET (zS (zSG (TL.mv ?_)));refine TL.v (gN Tryz.underlying50) ?_;refine TL.mv ?_;refine zET (zB (TC.lp (α := {y : Nat × List Int // y.1 <= a.length /\ ShI a y.2 (2 ^ b) y.1}) [0, 1, 5, 13, 14] rfl (fun y => [(15, .int .i64 ((y.1.1 : Nat) : Int))]) (fun y => Pm w [.row (.slice (some ⟨g12, 0, none⟩) (a.length + 1) (a.length + 1)) 3 1 (a.length + 1) (Kb (ic .i64) y.1.2)]) (fun y => a.length - y.1.1) (⟨(0, _), Nat.zero_le _, ShI.start a (Kb2 b)⟩) (fun w1 hw => hw) ?_));rintro ⟨⟨i, o⟩, hi, hS⟩;dsimp only at hi hS ⊢;have hol := hS.len;refine zSG ?_;refine TL.sp Kr (fun q16 => ?_) (fun q16 => ?_)
 ·refine zET (zS (zc (zk (zT (zS (zB (zSG (TL.mv ?_))))))));have hi18 : i < a.length := by omega
  obtain ⟨x18, hx18⟩ := Kq hi18;obtain ⟨b18, o18, hA18, hbb18, hc18⟩ := hr.ad (by omega) (by decide);refine TL.w rfl (gA (i := i) Tryz.underlying50 KdA rfl rfl rfl rfl hA18 (by omega)) ?_;refine TL.w rfl (Kx (v := .int .i64 x18) rfl rfl Klk (fun w1 hw => (hw.bel.cell hbb18).trans <| KN (Kn .i64) hx18 hc18 0 _ rfl)) ?_;refine TL.rn 2 rfl (zET (zS ?_));have hP := Kb2 b;have hQ := Kb2 (30 - b);have hPQ := Khn (show b <= 30 by omega);have hrg := hS.rng ha hPQ hP hQ hx18;obtain ⟨s, hs⟩ : ∃ s, s = x18 * 2 ^ b := ⟨_, rfl⟩;rw [<- hs] at hrg;refine zG (TL.rn 2 rfl ?_);refine TL.w rfl (Ke (v := .int .i64 s) rfl rfl rfl (fun w => by rw [KeO (2 ^ b) (by omega) (by simp only [IntKind.bits]; omega) (by rw [Int.toNat_natCast]) w]; congr 2; simp only [IntKind.wrap_i64]; omega)) ?_;refine TL.as_ ?_;refine zET (zSG (TL.rn 2 rfl ?_));have hi25 : i < o.length := by omega
  obtain ⟨x25, hx25⟩ := Kq hi25;have hxo : x25 = o.getD i 0 := (KS hx25).symm;refine TL.w rfl (gA (i := i) Tryz.underlying50 KdA rfl rfl rfl rfl rfl (by omega)) ?_;refine TL.w rfl (Kx (v := .int .i64 x25) rfl rfl Klk (fun w1 hw => KL (Kn .i64) hw (q := 0) rfl hx25 0 _ rfl)) ?_;refine TL.mv ?_;refine TL.w rfl (Ke (v := .int .i64 (s % 1073741824)) rfl rfl rfl (fun w => (KaW (by simp) w).trans (by rw [Kcr _ (by omega) (by omega)]))) ?_;refine TL.w rfl (Ke (v := .int .i64 (o.getD i 0 + s % 1073741824)) rfl rfl rfl (fun w => (KaW (by simp) w).trans (by rw [Kn1, hrg.2.2.1, Int.mul_comm (2 ^ b), Kjz b _ _ (Int.emod_nonneg _ (by omega)) (by rw [hxo]; exact (hS.ok.getD i).1) (by rw [hxo]; exact hS.top) (by rw [Int.mul_comm, <- hrg.2.2.1]; omega), Int.mul_comm, <- hrg.2.2.1, hxo]; congr 2; omega))) ?_;refine TL.w rfl (gA (i := i) Tryz.underlying50 KdA rfl rfl rfl rfl rfl (by omega)) ?_;refine TL.rowset (k := 0) (vs := [.int .i64 (o.getD i 0 + s % 1073741824)]) (xs' := Kb (ic .i64) (o.set i (o.getD i 0 + s % 1073741824))) rfl rfl rfl rfl rfl rfl rfl KdA KkI (by rw [KR (Kn .i64)]; show 0 + i * 1 + 1 <= _; omega) (K3 (Kn .i64) (q := 0) (y := o.getD i 0 + s % 1073741824) hx25 (by show 0 + 1 <= 1; decide) rfl) ?_
  try dsimp only [List.set_cons_zero, List.set_cons_succ]
  refine zET (zG (TL.rn 2 rfl (TL.v (gD ((i + 1 : Nat) : Int)) ?_)));refine TL.mv ?_;refine TL.w rfl (Ke (v := .int .i64 (s / 1073741824)) rfl rfl rfl (fun w => KaR 1073741824 (by decide) (by decide) rfl w)) ?_;have hi36 : i + 1 < (o.set i (o.getD i 0 + s % 1073741824)).length := by rw [List.length_set]; omega
  obtain ⟨x36, hx36⟩ := Kq hi36;refine TL.w rfl (gA (i := (i + 1)) Tryz.underlying50 KdA rfl rfl rfl rfl rfl (by omega)) ?_;refine TL.rowset (k := 0) (vs := [.int .i64 (s / 1073741824)]) (xs' := Kb (ic .i64) ((o.set i (o.getD i 0 + s % 1073741824)).set (i + 1) (s / 1073741824))) rfl rfl rfl rfl rfl rfl rfl KdA KkI (by rw [KR (Kn .i64)]; show 0 + (i + 1) * 1 + 1 <= _; omega) (K3 (Kn .i64) (q := 0) (y := s / 1073741824) hx36 (by show 0 + 1 <= 1; decide) rfl) ?_
  try dsimp only [List.set_cons_zero, List.set_cons_succ]
  refine zE (zN (zT (zG (TL.v (gD ((i + 1 : Nat) : Int)) ?_))));refine TL.mv ?_;refine zE ?_;exact TX.rd (⟨(i + 1, (o.set i (o.getD i 0 + s % 1073741824)).set (i + 1) (s / 1073741824)), by dsimp only; omega, hS.step ha hPQ hP hQ hx18 s hs⟩) (by show a.length - (i + 1) < a.length - i; omega) (fun w1 hw => hw)
 refine zET (zS (zd (zx (zX (zX (zM (zT (zSG (TL.rn 2 rfl (zET (zr ?_)))))))))));have hol := hS.len;have hfu := hS.full (by omega);exact Kg Tryz.results232 rfl (fun w1 hw => ⟨⟨(((some ⟨g12, 0, none⟩), a.length + 1), o), ⟨hS.ok, hfu, hol⟩, by dsimp only; omega, by dsimp only; unfold maxLen; omega⟩, rfl, hw⟩)
theorem Kph (c0 : Nat) (w : World) :
  Calls Tryz.prog 230 #[.slice none 0 c0] w fun e w' => ∃ x : {p : Option Addr × Nat // (([] : List Int)).length <= p.2 /\ p.2 <= maxLen}, e = .returned (.slice x.1.1 (([] : List Int)).length x.1.2) /\ Pm w [.row (.slice x.1.1 (([] : List Int)).length x.1.2) 3 1 (([] : List Int)).length (Kb (ic .i64) (([] : List Int)))] w' := by
 refine Kj Tryz.func230 rfl rfl rfl ?_ (Pm.start w);refine zSG (TL.as_ ?_);refine zET (zS (zSG (TL.mv ?_)));refine TL.w rfl (Ka0 (v := .bool true) rfl rfl rfl (fun w => KkH Tryz.underlying50 w)) ?_;refine zET (zc (zSG (TL.as_ ?_)));refine zET (zr (zR ?_));exact Kg Tryz.results230 rfl (fun w1 hw => ⟨⟨(none, 0), Nat.le_refl _, Nat.zero_le _⟩, rfl, (hw.pk []).nilrow _ _⟩)
theorem Kom (a9 : Addr) (c0 : Nat) (a : List Int) (w : World) (hr : Kd w w.heap.size 1 (some a9) a.length (Kb (ic .i64) a)) (hl1 : a.length <= 1000) :
  Calls Tryz.prog 230 #[.slice (some a9) a.length c0] w fun e w' => ∃ x : {p : Option Addr × Nat // (a).length <= p.2 /\ p.2 <= maxLen}, e = .returned (.slice x.1.1 (a).length x.1.2) /\ Pm w [.row (.slice x.1.1 (a).length x.1.2) 3 1 (a).length (Kb (ic .i64) (a))] w' := by
 refine Kj Tryz.func230 rfl rfl rfl ?_ (Pm.start w);refine zSG (TL.as_ ?_);refine zET (zS (zSG (TL.mv ?_)));refine TL.w rfl (Ka0 (v := .bool false) rfl rfl rfl (fun w => KkH Tryz.underlying50 w)) ?_;refine zET (zd (zk (zT (zSG ?_))));refine TL.prowS (e := 3) (size := 1) (cs := Kb (ic .i64) []) rfl rfl rfl rfl rfl (fun w => KsK  w) (by decide) rfl (fun g5 => ?_);refine TL.mv ?_;refine TL.appendT (k := 0) rfl rfl rfl rfl Tryz.underlying50 Khi rfl rfl rfl (fun w1 hw => ⟨_, (hr.up hw.bel)⟩) (KB (Kn .i64) _) (by show _ * 8 <= _; omega) (a.length) (by simp) (Kb (ic .i64) a) (rfl) (fun A7 c7 hA71 hA72 => ?_);refine TL.as_ ?_;refine zET (zr ?_);exact Kg Tryz.results230 rfl (fun w1 hw => ⟨⟨(A7, c7), hA71, hA72⟩, rfl, hw.pick [0] (by decide) rfl⟩)
theorem Kfq (A0 : Option Addr) (c0 : Nat) (a : List Int) (w : World) (hr : Kd w w.heap.size 1 A0 a.length (Kb (ic .i64) a)) (hl1 : a.length <= 1000) :
  Calls Tryz.prog 230 #[.slice A0 a.length c0] w fun e w' => ∃ x : {p : Option Addr × Nat // (a).length <= p.2 /\ p.2 <= maxLen}, e = .returned (.slice x.1.1 (a).length x.1.2) /\ Pm w [.row (.slice x.1.1 (a).length x.1.2) 3 1 (a).length (Kb (ic .i64) (a))] w' := by
 cases A0 with
 | some a9 => exact Kom a9 c0 a w hr hl1
 | none =>
  have hl : a.length = 0 := by
   rcases Nat.eq_zero_or_pos a.length with h | h
   ·exact h
   obtain ⟨ad, h1, _⟩ := hr.2 h; cases h1
  obtain rfl : a = [] := List.eq_nil_of_length_eq_zero hl;exact Kph c0 w
set_option maxRecDepth 20000
theorem KaI.up8 {x : Int} {L : Nat} (h : KaI (x / 2 ^ 16) (L + 8) /\ 0 < L) (hx : 0 < x / 2 ^ 16) : KaI x (L + 24) /\ 0 < L := by
 have h1 := (KaI.up (k := 16) h.1 hx).1;exact ⟨h1, h.2⟩
theorem KnG (x : Int) (w : World) (hx0 : 0 <= x) (hx1 : x < 1073741824) :
  Calls Tryz.prog 157 #[.int .u64 x] w fun e w' => ∃ y : {L : Nat // KaI x L}, e = .returned (.int .i64 ((y.1 : Nat) : Int)) /\ Below w.heap.size w w' := by
 refine Kj Tryz.func157 rfl rfl rfl ?_ (Pm.start w);refine zSG (TL.as_ ?_);refine zET (zS (zSG (TL.mv ?_)));refine TL.sp KO (fun q4 => ?_) (fun q4 => ?_)
 ·exfalso; omega
 refine zET (zd (zk (zT (zS (zSG (TL.mv ?_))))));refine TL.sp KO (fun q8 => ?_) (fun q8 => ?_)
 ·refine zET (zc (zSG (TL.mv ?_)));refine TL.w rfl (Ke (v := .int .u64 (x / 2 ^ 16)) rfl rfl rfl (fun w => KaR (2 ^ 16) (by decide) (by decide) rfl w)) ?_;refine TL.as_ ?_;refine zET (zG (TL.mv ?_));refine TL.v (gD 16) ?_;refine TL.as_ ?_;refine zET (zS (zSG (TL.mv ?_)));refine TL.sp KO (fun q14 => ?_) (fun q14 => ?_)
  ·refine zET (zc (zSG (TL.mv ?_)));refine TL.w rfl (Ke (v := .int .u64 (x / 2 ^ 16 / 2 ^ 8)) rfl rfl rfl (fun w => KaR (2 ^ 8) (by decide) (by decide) rfl w)) ?_;refine TL.as_ ?_;refine zET (zG (TL.mv ?_));refine TL.v (gD 24) ?_;refine TL.as_ ?_;refine zET (zSG (TL.rn 2 rfl ?_));refine TL.w rfl (KaG rfl rfl (fun w => Kbf (k := .u64) Tryz.underlying5 Tryz.underlying214 (by simp only [IntKind.wrap_u8]; omega) w)) ?_;obtain ⟨i, hi⟩ := Int.eq_ofNat_of_zero_le (show 0 <= (x / 2 ^ 16) / 2 ^ 8 by omega);obtain ⟨L, hL, hL8, hLi⟩ := KfB (show i < 256 by omega);rw [<- hi] at hLi;refine TL.w rfl (KeB (v := .int .u8 ((L : Nat) : Int)) rfl rfl rfl (fun w => by rw [hi]; exact Kfz (s := Kdm) Tryz.underlying9 hL (by omega) w)) ?_;refine TL.w rfl (KaG rfl rfl (fun w => Kbf (k := .u8) Tryz.underlying3 Tryz.underlying5 (by simp only [IntKind.wrap_i64]; omega) w)) ?_;refine TL.w rfl (Ke (v := .int .i64 (((L + 24 : Nat)) : Int)) rfl rfl rfl (fun w => KbL (r := ((L + 24 : Nat) : Int)) (by simp only [IntKind.wrap_i64]; omega) w)) ?_;refine TL.as_ ?_;refine zET (zr ?_);exact Kg Tryz.results157 rfl (fun w1 hw => ⟨⟨L + 24, (KaI.up8 (hLi.up (by omega)) (by omega)).1⟩, rfl, hw.bel⟩)
  refine zET (zd (zk (zT (zSG (TL.rn 2 rfl ?_)))));refine TL.w rfl (KaG rfl rfl (fun w => Kbf (k := .u64) Tryz.underlying5 Tryz.underlying214 (by simp only [IntKind.wrap_u8]; omega) w)) ?_;obtain ⟨i, hi⟩ := Int.eq_ofNat_of_zero_le (show 0 <= x / 2 ^ 16 by omega);obtain ⟨L, hL, hL8, hLi⟩ := KfB (show i < 256 by omega);rw [<- hi] at hLi;refine TL.w rfl (KeB (v := .int .u8 ((L : Nat) : Int)) rfl rfl rfl (fun w => by rw [hi]; exact Kfz (s := Kdm) Tryz.underlying9 hL (by omega) w)) ?_;refine TL.w rfl (KaG rfl rfl (fun w => Kbf (k := .u8) Tryz.underlying3 Tryz.underlying5 (by simp only [IntKind.wrap_i64]; omega) w)) ?_;refine TL.w rfl (Ke (v := .int .i64 (((L + 16 : Nat)) : Int)) rfl rfl rfl (fun w => KbL (r := ((L + 16 : Nat) : Int)) (by simp only [IntKind.wrap_i64]; omega) w)) ?_;refine TL.as_ ?_;refine zET (zr ?_);exact Kg Tryz.results157 rfl (fun w1 hw => ⟨⟨L + 16, (hLi.up (by omega)).1⟩, rfl, hw.bel⟩)
 refine zET (zd (zk (zT (zS (zSG (TL.mv ?_))))));refine TL.sp KO (fun q14 => ?_) (fun q14 => ?_)
 ·refine zET (zc (zSG (TL.mv ?_)));refine TL.w rfl (Ke (v := .int .u64 (x / 2 ^ 8)) rfl rfl rfl (fun w => KaR (2 ^ 8) (by decide) (by decide) rfl w)) ?_;refine TL.as_ ?_;refine zET (zG (TL.mv ?_));refine TL.v (gD 8) ?_;refine TL.as_ ?_;refine zET (zSG (TL.rn 2 rfl ?_));refine TL.w rfl (KaG rfl rfl (fun w => Kbf (k := .u64) Tryz.underlying5 Tryz.underlying214 (by simp only [IntKind.wrap_u8]; omega) w)) ?_;obtain ⟨i, hi⟩ := Int.eq_ofNat_of_zero_le (show 0 <= x / 2 ^ 8 by omega);obtain ⟨L, hL, hL8, hLi⟩ := KfB (show i < 256 by omega);rw [<- hi] at hLi;refine TL.w rfl (KeB (v := .int .u8 ((L : Nat) : Int)) rfl rfl rfl (fun w => by rw [hi]; exact Kfz (s := Kdm) Tryz.underlying9 hL (by omega) w)) ?_;refine TL.w rfl (KaG rfl rfl (fun w => Kbf (k := .u8) Tryz.underlying3 Tryz.underlying5 (by simp only [IntKind.wrap_i64]; omega) w)) ?_;refine TL.w rfl (Ke (v := .int .i64 (((L + 8 : Nat)) : Int)) rfl rfl rfl (fun w => KbL (r := ((L + 8 : Nat) : Int)) (by simp only [IntKind.wrap_i64]; omega) w)) ?_;refine TL.as_ ?_;refine zET (zr ?_);exact Kg Tryz.results157 rfl (fun w1 hw => ⟨⟨L + 8, (hLi.up (by omega)).1⟩, rfl, hw.bel⟩)
 refine zET (zd (zk (zT (zSG (TL.rn 2 rfl ?_)))));refine TL.w rfl (KaG rfl rfl (fun w => Kbf (k := .u64) Tryz.underlying5 Tryz.underlying214 (by simp only [IntKind.wrap_u8]; omega) w)) ?_;obtain ⟨i, hi⟩ := Int.eq_ofNat_of_zero_le (show 0 <= x by omega);obtain ⟨L, hL, hL8, hLi⟩ := KfB (show i < 256 by omega);rw [<- hi] at hLi;refine TL.w rfl (KeB (v := .int .u8 ((L : Nat) : Int)) rfl rfl rfl (fun w => by rw [hi]; exact Kfz (s := Kdm) Tryz.underlying9 hL (by omega) w)) ?_;refine TL.w rfl (KaG rfl rfl (fun w => Kbf (k := .u8) Tryz.underlying3 Tryz.underlying5 (by simp only [IntKind.wrap_i64]; omega) w)) ?_;refine TL.w rfl (Ke (v := .int .i64 (((L + 0 : Nat)) : Int)) rfl rfl rfl (fun w => KbL (r := ((L + 0 : Nat) : Int)) (by simp only [IntKind.wrap_i64]; omega) w)) ?_;refine TL.as_ ?_;refine zET (zr ?_);exact Kg Tryz.results157 rfl (fun w1 hw => ⟨⟨L, hLi⟩, rfl, hw.bel⟩)
theorem Kp0 (x : Int) (w : World) (hx0 : 0 <= x) (hx1 : x < 1073741824) :
  Calls Tryz.prog 99 #[.int .u64 x] w fun e w' => ∃ y : {L : Nat // KaI x L}, e = .returned (.int .i64 ((y.1 : Nat) : Int)) /\ Below w.heap.size w w' := by
 refine Kj Tryz.func99 rfl rfl rfl ?_ (Pm.start w);refine zSG (TL.as_ ?_);refine zET (zS (zd (zk (zT (zSG (TL.mv ?_))))));refine TL.pM (α := {L : Nat // KaI x L}) (fun y => .int .i64 ((y.1 : Nat) : Int)) (fun y => []) rfl Ks1 (fun w1 hw => (KnG x w1 hx0 hx1).mono fun en w2 ⟨y, h1, h2⟩ => ⟨y, h1, (Pm.start w1).below h2⟩) ?_;rintro ⟨L, hL⟩;dsimp only [lC, lN];refine TL.as_ ?_;refine zET (zr ?_);exact Kg Tryz.results99 rfl (fun w1 hw => ⟨⟨L, hL⟩, rfl, hw.bel⟩)
set_option maxRecDepth 20000
theorem Pm.restR {w0 : Base} {w : World} {n ul c : Nat} {e : TypeId} {A : Option Addr} {u rest : List Int} {R : Pc} (hw : Pm w0 [.row (.slice A ul c) e 1 ul (Kb (ic .i64) u), R] w) (hr : rest = Ki (u.take n)) (hn : n <= ul) (hl : u.length = ul) : Pm w0 [.row (.slice A rest.length c) e 1 rest.length (Kb (ic .i64) rest), R] w := by
 obtain ⟨h1, h2, _, _⟩ := Kao (u.take n);rw [<- hr] at h1 h2;rw [List.length_take] at h2;have h3 := hw.shrink (k := 0) (hi := rest.length) rfl (by omega)
 have h4 : (Kb (ic .i64) u).take (rest.length * 1) = Kb (ic .i64) rest := by
  rw [Kam, Kam, Nat.mul_one, <- List.map_take]
  congr 1
  rw [List.take_take, Nat.min_eq_left (by omega)] at h1;exact h1.symm
 rw [h4] at h3;exact h3
theorem Pm.trimAt {w0 : Base} {w : World} {n c k : Nat} {e : TypeId} {A : Option Addr} {l : List Int} {L : List Pc} (hw : Pm w0 L w) (hk : L[k]? = some (.row (.slice A n c) e 1 n (Kb (ic .i64) l))) (hl : l.length = n) : Pm w0 (L.set k (.row (.slice A (Ki l).length c) e 1 (Ki l).length (Kb (ic .i64) (Ki l)))) w := by
 obtain ⟨h1, h2, _, _⟩ := Kao l;have h3 := hw.shrink (k := k) (hi := (Ki l).length) hk (by omega)
 have h4 : (Kb (ic .i64) l).take ((Ki l).length * 1) = Kb (ic .i64) (Ki l) := by
  rw [Kam, Kam, Nat.mul_one, <- List.map_take, <- h1]
 rw [h4] at h3;exact h3
theorem Pm.trimSnd {w0 : Base} {w : World} {n c : Nat} {e : TypeId} {A : Option Addr} {l : List Int} {R : Pc} (hw : Pm w0 [R, .row (.slice A n c) e 1 n (Kb (ic .i64) l)] w) (hl : l.length = n) : Pm w0 [R, .row (.slice A (Ki l).length c) e 1 (Ki l).length (Kb (ic .i64) (Ki l))] w := hw.trimAt (k := 1) rfl hl
theorem Pm.trim2 {w0 : Base} {w : World} {n c n' c' : Nat} {e : TypeId} {A A' : Option Addr} {l l' : List Int} (hw : Pm w0 [.row (.slice A n c) e 1 n (Kb (ic .i64) l), .row (.slice A' n' c') e 1 n' (Kb (ic .i64) l')] w) (hl : l.length = n) (hl' : l'.length = n') : Pm w0 [.row (.slice A (Ki l).length c) e 1 (Ki l).length (Kb (ic .i64) (Ki l)), .row (.slice A' (Ki l').length c') e 1 (Ki l').length (Kb (ic .i64) (Ki l'))] w := (hw.trimAt (k := 0) rfl hl).trimSnd hl'
theorem Ksd (A0 : Option Addr) (c0 : Nat) (a : List Int) (w : World) (hr : Kd w w.heap.size 1 A0 a.length (Kb (ic .i64) a)) (hl1 : a.length <= 100000) (hac : a.length <= c0) (h : a.getLast? ≠ some 0) : Calls Tryz.prog 229 #[.slice A0 a.length c0] w fun e w' => e = .returned (.slice A0 a.length c0) /\ Below w.heap.size w w' := by
 have h1 := Kml A0 c0 a w hr hl1 hac;rw [KjS h] at h1;exact h1
theorem Kro {b : List Int} {x : Int} (hx : b[0]? = some x) (hl : b.length = 1) : Ka b = x := by
 match b, hl, hx with
 | [y], _, hx => injection hx with hx; subst hx; show y + 1073741824 * 0 = y; omega
theorem KpD {x : Int} {L : Nat} (h : KaI x L) (hx : 0 < x) : 0 < L := by
 rcases Nat.eq_zero_or_pos L with rfl | h1
 ·have h2 := h.1; rw [Int.pow_zero] at h2; omega
 exact h1
theorem Khj {b : List Int} {x : Int} (h : Nrm b) (hx : b[b.length - 1]? = some x) (hl : 0 < b.length) : 0 < x := by
 have h1 := h.1.at_ hx;have h2 : x ≠ 0 := fun e => h.2 (by rw [List.getLast?_eq_getElem?, hx, e]);omega
theorem K5 (w : World) : (sizeOf 3).run Tryz.prog w = .ok 1 w := rfl
theorem Kbg (w : World) : (isAgg 3).run Tryz.prog w = .ok false w := rfl
theorem KuV (a0_0 : Int) (w : World) : (Instr.buildSlice 50 1 #[(0, .int .i64 a0_0)]).run Tryz.prog w = .ok (.slice (some ⟨w.heap.size, 0, none⟩) 1 1) (w.alloc (.cells [.int .i64 a0_0].toArray 3)) := by kernel_rfl
theorem KjX : Elem Tryz.prog 50 3 1 8 := Elem.mk' Tryz.underlying50 (z := .int .i64 0) (by kernel_rfl) rfl (by omega) (by omega)
theorem Keu {a0 : Int} : ∀ u ∈ [(.int .i64 a0 : Value)], u.oneCell' = true := by
 intro u hu;rw [List.mem_singleton] at hu;subst hu; rfl
theorem KgI (A0 : Option Addr) (c0 : Nat) (a : List Int) (A1 : Option Addr) (c1 : Nat) (b : List Int) (w : World) (hr : Kd w w.heap.size 1 A0 a.length (Kb (ic .i64) a)) (hl1 : a.length <= 1000) (hr1 : Kd w w.heap.size 1 A1 b.length (Kb (ic .i64) b)) (hl2 : b.length <= 1000) (ha : Nrm a) (hb : Nrm b) (hbp : 0 < b.length) (hbc : b.length <= c1) :
  Calls Tryz.prog 201 #[.slice A0 a.length c0, .slice A1 b.length c1] w fun e w' => ∃ x : {y : ((Option Addr × Nat) × List Int) × ((Option Addr × Nat) × List Int) // Kdj a b y.1.2 y.2.2 /\ (y.1.2.length <= y.1.1.2 /\ y.1.1.2 <= maxLen) /\ y.2.2.length <= y.2.1.2 /\ y.2.1.2 <= maxLen}, e = .returned (.tuple #[.slice x.1.1.1.1 x.1.1.2.length x.1.1.1.2, .slice x.1.2.1.1 x.1.2.2.length x.1.2.1.2, .int .i64 0]) /\ Pm w [.row (.slice x.1.1.1.1 x.1.1.2.length x.1.1.1.2) 3 1 x.1.1.2.length (Kb (ic .i64) x.1.1.2), .row (.slice x.1.2.1.1 x.1.2.2.length x.1.2.1.2) 3 1 x.1.2.2.length (Kb (ic .i64) x.1.2.2)] w' := by
 refine Kj Tryz.func201 rfl rfl rfl ?_ (Pm.start w);refine zSG (TL.rn 3 rfl (zET (zSG (TL.mv ?_))));refine TL.p1 (r := .slice A1 b.length c1) rfl KcH (fun w1 hw => Ksd A1 c1 b w1 (hr1.up hw.bel) (by omega) hbc hb.2) ?_;refine TL.as_ ?_;refine zET (zSG (TL.mv ?_));refine TL.v (gN Tryz.underlying50) ?_;refine TL.as_ ?_;refine zET (zS (zB (zSG (TL.mv ?_))));refine TL.sp KK (fun q30 => ?_) (fun q30 => ?_)
 ·exfalso; omega
 refine TL.as_ ?_;refine zET (zd (zSG (TL.rn 2 rfl ?_)));refine TL.p1 rfl KfE (fun w1 hw => Kgc A0 c0 a A1 c1 b w1 (hr.up hw.bel) (by omega) (hr1.up hw.bel) (by omega) ha hb) ?_;refine TL.sp Kr (fun q35 => ?_) (fun q35 => ?_)
 ·refine TL.as_ ?_;refine zET (zc (zSG (TL.mv ?_)));refine TL.pM _ _ rfl Ke7 (fun w1 hw => Kfq A0 c0 a w1 (hr.up hw.bel) hl1) ?_;rintro ⟨⟨R37, rc37⟩, hR371, hR372⟩;dsimp only [lC, lN];refine TL.rn 3 rfl (zET (zr (zRR ?_)));exact Kic (v1 := .slice none 0 0) (v2 := .slice R37 ((a).length) rc37) (v3 := .int .i64 0) Tryz.results201 rfl rfl rfl (fun w1 hw => ⟨⟨(((none, 0), []), ((R37, rc37), a)), ⟨Nrm.nil, ha, by show Ka a = 0 * Ka b + Ka a; omega, Kz ha.1, Kax.1 q35⟩, ⟨Nat.zero_le _, Nat.zero_le _⟩, hR371, hR372⟩, rfl, Pm.nilrow (hw) _ _⟩)
 have hab : Ka b <= Ka a := by have h9 : ¬ Ka a < Ka b := fun h => q35 (Kax.2 h); omega
 have hbl := Ke4 ha.1 hb hab;refine TL.as_ ?_;refine zET (zd (zSG (TL.mv ?_)));refine TL.sp KK (fun q40 => ?_) (fun q40 => ?_)
 ·refine TL.as_ ?_;refine zET (zc (zSG (TL.rn 2 rfl ?_)));have hi44 : 0 < b.length := by omega
  obtain ⟨x44, hx44⟩ := Kq hi44;obtain ⟨b44, o44, hA44, hbb44, hc44⟩ := hr1.ad (by omega) (by decide);have hxb := hb.1.at_ hx44;have hxp := Khj hb (by rw [show b.length - 1 = 0 by omega]; exact hx44) (by omega);refine TL.w rfl (gA (i := 0) Tryz.underlying50 K5 rfl rfl rfl rfl hA44 (by omega)) ?_;refine TL.w rfl (Kx (v := .int .i64 x44) rfl rfl Kbg (fun w1 hw => (hw.bel.cell hbb44).trans <| KN (Kn .i64) hx44 hc44 0 _ rfl)) ?_;refine TL.pM _ _ rfl Kmf (fun w1 hw => Kl4 A0 c0 a x44 w1 (hr.up hw.bel) hl1 ha.1 (by omega) (by omega)) ?_;rintro ⟨⟨⟨⟨Aqs, cqs⟩, qs⟩, rs⟩, hqs, hqsc, hqsm⟩;dsimp only [lC, lN];dsimp only at hqs hqsc hqsm ⊢;refine TL.rn 5 rfl (zET (zSG (TL.rn 2 rfl ?_)));refine TL.prowS (e := 3) (size := 1) (cs := Kb (ic .i64) [rs]) rfl rfl rfl rfl rfl (fun w => KuV _ w) (by decide) rfl (fun g51 => ?_);refine TL.p1 (r := .slice (some ⟨g51, 0, none⟩) ((Ki [rs]).length) 1) rfl KcH (fun w1 hw => KdI (some ⟨g51, 0, none⟩) 1 1 [rs] w1 (Kk hw (k := 0) rfl) rfl (by omega) (by omega)) ?_;refine TL.rn 3 rfl (zET (zr (zRR ?_)));have hb1 : Ka b = x44 := by rw [Kro hx44 (by omega)]
  have htr := Nrm.trim (l := [rs]) (Km.cons (by omega) Km.nil);exact Kic (v1 := .slice Aqs qs.length cqs) (v2 := .slice (some ⟨g51, 0, none⟩) ((Ki [rs]).length) 1) (v3 := .int .i64 0) Tryz.results201 rfl rfl rfl (fun w1 hw => ⟨⟨(((Aqs, cqs), qs), (((some ⟨g51, 0, none⟩), 1), (Ki [rs]))), ⟨hqs.1, htr.1, by dsimp only; rw [htr.2, hb1]; show Ka a = _ + (rs + 1073741824 * 0); omega, Kz htr.1.1, by dsimp only; rw [htr.2, hb1]; show rs + 1073741824 * 0 < x44; omega⟩, ⟨hqsc, hqsm⟩, (by dsimp only; have h9 := (Kao [rs]).2.1; exact h9), (by dsimp only; unfold maxLen; omega)⟩, rfl, Pm.trimSnd (show Pm w [.row (.slice Aqs qs.length cqs) 3 1 qs.length (Kb (ic .i64) qs), .row (.slice (some ⟨g51, 0, none⟩) 1 1) 3 1 1 (Kb (ic .i64) [rs])] w1 from hw.pk [1, 0]) rfl⟩)
 refine TL.as_ ?_;refine zET (zd (zk (zN (zT (zS ?_)))));have hb1 : ¬ b.length = 1 := by omega
 refine zG (TL.rn 2 rfl ?_);refine TL.w rfl (Ke rfl rfl rfl (fun w => KA (r := ((b.length - 1 : Nat) : Int)) (by simp only [IntKind.wrap_i64]; omega) w)) ?_;have hi56 : b.length - 1 < b.length := by omega
 obtain ⟨x56, hx56⟩ := Kq hi56;obtain ⟨b56, o56, hA56, hbb56, hc56⟩ := hr1.ad (by omega) (by decide);have hxb := hb.1.at_ hx56;refine TL.w rfl (gA (i := (b.length - 1)) Tryz.underlying50 K5 rfl rfl rfl rfl hA56 (by omega)) ?_;refine TL.w rfl (Kx (v := .int .i64 x56) rfl rfl Kbg (fun w1 hw => (hw.bel.cell hbb56).trans <| KN (Kn .i64) hx56 hc56 0 _ rfl)) ?_;refine TL.w rfl (KaG rfl rfl (fun w => Kbf (k := .i64) Tryz.underlying194 Tryz.underlying3 (by simp only [IntKind.wrap_u64]; omega) w)) ?_;refine TL.pM (α := {L : Nat // KaI x56 L}) (fun y => .int .i64 ((y.1 : Nat) : Int)) (fun y => []) rfl o99 (fun w1 hw => (Kp0 x56 w1 (by omega) (by omega)).mono fun en w2 ⟨y, h1, h2⟩ => ⟨y, h1, (Pm.start w1).below h2⟩) ?_;rintro ⟨L, hL⟩;dsimp only [lC, lN];have hLp : 0 < L := KpD hL (by have h9 := Khj hb hx56 (by omega); omega);have hL30 := hL.le30 (by omega);obtain ⟨sb, hsb⟩ : ∃ k, k = 30 - L := ⟨_, rfl⟩;refine TL.w rfl (Ke rfl rfl rfl (fun w => KA (r := ((sb : Nat) : Int)) (by simp only [IntKind.wrap_i64]; omega) w)) ?_;refine TL.as_ ?_;refine zET (zS ?_);have htop : b.getD (b.length - 1) 0 < 2 ^ (30 - sb) := by rw [KS hx56, show 30 - sb = L by omega]; exact hL.1
 refine zG (TL.rn 2 rfl ?_);refine TL.pM _ _ rfl KjK (fun w1 hw => Kng A0 c0 a sb w1 (hr.up hw.bel) (by omega) ha.1 (by omega)) ?_;rintro ⟨⟨⟨Au0, cu0⟩, u0⟩, hu0, hu0c, hu0m⟩;dsimp only [lC, lN];dsimp only at hu0 hu0c hu0m ⊢;refine TL.rn 2 rfl ?_;refine TL.pM _ _ rfl KjK (fun w1 hw => Kng A1 c1 b sb w1 (hr1.up hw.bel) (by omega) hb.1 (by omega)) ?_;rintro ⟨⟨⟨Av, cv⟩, v⟩, hv, hvc, hvm⟩;dsimp only [lC, lN];dsimp only at hv hvc hvm ⊢;refine TL.rn 2 rfl (zET (zS (TC.fact (p := ∃ g, Au0 = some ⟨g, 0, none⟩) (fun w1 hw => KcB hw (k := 1) rfl (by omega)) ?_)));rintro ⟨gu, rfl⟩;refine TC.fact (p := ∃ g, Av = some ⟨g, 0, none⟩) (fun w1 hw => KcB hw (k := 0) rfl (by omega)) ?_;rintro ⟨gv, rfl⟩;have hvt := KoE hb rfl (by omega) hv.1 hv.2.2 hv.2.1 (by omega) htop;obtain ⟨hvB, hvn, hvp, hV0⟩ := hvt;have hP := Kb2 sb;have hQ := Kb2 (30 - sb);have hPQ := Khn (show sb <= 30 by omega);have hvlow : pB (b.length - 1) * 2 ^ sb <= Ka v := by rw [hv.2.1]; exact Int.mul_le_mul_of_nonneg_right (hb.pos (by omega)) (by omega)
 obtain ⟨n, hn⟩ : ∃ n, n = b.length := ⟨_, rfl⟩;rw [<- hn] at hvB hvn hvp hvlow;refine zG (TL.mv ?_);refine TL.v (gN Tryz.underlying50) ?_;refine TL.mv ?_;refine TL.w rfl (Ke rfl rfl rfl (fun w => KA (r := ((a.length - b.length : Nat) : Int)) (by simp only [IntKind.wrap_i64]; omega) w)) ?_;refine TL.v (gD ((a.length - n + 1 : Nat) : Int)) ?_;refine TL.mkrow (m := (a.length - n + 1)) rfl rfl rfl rfl rfl rfl KjX (z := .int .i64 0) (by kernel_rfl) (zs := Kb (ic .i64) (List.replicate (a.length - n + 1) 0)) ((KbE _ rfl (a.length - n + 1)).trans (by rw [Kam, List.map_replicate])) (by show _ * 8 <= _; omega) (fun g72 => ?_);refine TL.as_ ?_;refine zET (zS (zSG (TL.mv ?_)));refine TL.v (gN Tryz.underlying50) ?_;refine TL.mv ?_;refine TL.w rfl (Ke rfl rfl rfl (fun w => KA (r := ((a.length - n + 1 : Nat) : Int) - 1) (by simp only [IntKind.wrap_i64]; omega) w)) ?_;refine TL.as_ ?_;refine zET (zB (TC.loop_ (α := {y : Nat × List Int × List Int // y.1 <= a.length - n + 1 /\ DvI (Ka a * 2 ^ sb) v y.2.1 y.2.2 n (a.length - n) y.1}) (fun y => [(7, .int .i64 (b.length : Nat)), (10, .int .i64 ((sb : Nat) : Int)), (11, .slice (some ⟨gu, 0, none⟩) (a.length + 1) cu0), (12, .slice (some ⟨gv, 0, none⟩) (b.length + 1) cv), (13, .slice (some ⟨g72, 0, none⟩) (a.length - n + 1) (a.length - n + 1)), (14, .int .i64 (((y.1.1 : Nat) : Int) - 1))]) (fun y => Pm w [.row (.slice (some ⟨g72, 0, none⟩) (a.length - n + 1) (a.length - n + 1)) 3 1 (a.length - n + 1) (Kb (ic .i64) y.1.2.2), .row (.slice (some ⟨gv, 0, none⟩) (b.length + 1) cv) 3 1 (b.length + 1) (Kb (ic .i64) v), .row (.slice (some ⟨gu, 0, none⟩) (a.length + 1) cu0) 3 1 (a.length + 1) (Kb (ic .i64) y.1.2.1)]) (fun y => y.1.1) (⟨(a.length - n + 1, u0, _), Nat.le_refl _, DvI.start hu0.1 hu0.2.2 hu0.2.1 (by omega) ha.1 hvlow (by omega) hP⟩) ⟨rfl, rfl, rfl, rfl, rfl, rfl, trivial⟩ (fun w1 hw => hw) ?_));rintro ⟨⟨j1, u, q⟩, hj1, hD⟩;dsimp only at hj1 hD ⊢;have hul := hD.ulen;have hql := hD.qlen;refine zS (zSG (TL.mv ?_));refine TL.sp KO (fun q78 => ?_) (fun q78 => ?_)
 ·refine zET (zc (zk (zT (zS (zB (zS ?_))))));obtain ⟨j, rfl⟩ : ∃ j0, j1 = j0 + 1 := ⟨j1 - 1, by omega⟩;refine TC.cut [(7, .int .i64 (b.length : Nat)), (10, .int .i64 ((sb : Nat) : Int)), (11, .slice (some ⟨gu, 0, none⟩) (a.length + 1) cu0), (12, .slice (some ⟨gv, 0, none⟩) (b.length + 1) cv), (13, .slice (some ⟨g72, 0, none⟩) (a.length - n + 1) (a.length - n + 1)), (14, .int .i64 ((j : Nat) : Int)), (77, .int .i64 ((((j + 1) : Nat) : Int) - 1)), (78, .bool true)] (Pm w [.row (.slice (some ⟨g72, 0, none⟩) (a.length - n + 1) (a.length - n + 1)) 3 1 (a.length - n + 1) (Kb (ic .i64) q), .row (.slice (some ⟨gv, 0, none⟩) (b.length + 1) cv) 3 1 (b.length + 1) (Kb (ic .i64) v), .row (.slice (some ⟨gu, 0, none⟩) (a.length + 1) cu0) 3 1 (a.length + 1) (Kb (ic .i64) u)]) ⟨rfl, rfl, rfl, rfl, rfl, (by show some (Value.int .i64 (((j + 1 : Nat) : Int) - 1)) = some (Value.int .i64 ((j : Nat) : Int)); congr 2; omega), rfl, rfl, trivial⟩ (fun w1 hw => hw) ?_;refine TC.tail 30 (by kernel_rfl) (by kernel_rfl) (fun w hw => hw.drawn _) ?_;refine TS.val rfl rfl rfl (Ky rfl rfl) ?_;refine TS.val rfl rfl rfl (Ky rfl rfl) ?_;refine TS.val rfl rfl rfl (Ky rfl rfl) ?_;refine TS.v (gD ((j + n : Nat) : Int)) ?_;have hi85 : j + n < u.length := by omega
  obtain ⟨x85, hx85⟩ := Kq hi85;refine TS.val rfl rfl rfl (gA (i := (j + n)) Tryz.underlying50 K5 rfl rfl rfl rfl rfl (by omega)) ?_;refine TS.val rfl rfl rfl (Kx (v := .int .i64 x85) rfl rfl Kbg (fun w1 hw => KL (Kn .i64) hw (q := 2) rfl hx85 0 _ rfl)) ?_;refine TS.val rfl rfl rfl (Ky rfl rfl) ?_;refine TS.val rfl rfl rfl (Ky rfl rfl) ?_;refine TS.val rfl rfl rfl (Ky rfl rfl) ?_;refine TS.v (gD ((j + n : Nat) : Int)) ?_;refine TS.val rfl rfl rfl (Ke rfl rfl rfl (fun w => KA (r := ((j + n - 1 : Nat) : Int)) (by simp only [IntKind.wrap_i64]; omega) w)) ?_;have hi92 : j + n - 1 < u.length := by omega
  obtain ⟨x92, hx92⟩ := Kq hi92;refine TS.val rfl rfl rfl (gA (i := (j + n - 1)) Tryz.underlying50 K5 rfl rfl rfl rfl rfl (by omega)) ?_;refine TS.val rfl rfl rfl (Kx (v := .int .i64 x92) rfl rfl Kbg (fun w1 hw => KL (Kn .i64) hw (q := 2) rfl hx92 0 _ rfl)) ?_;refine TS.val rfl rfl rfl (Ky rfl rfl) ?_;refine TS.val rfl rfl rfl (Ky rfl rfl) ?_;refine TS.val rfl rfl rfl (Ky rfl rfl) ?_;refine TS.v (gD ((j + n : Nat) : Int)) ?_;refine TS.val rfl rfl rfl (Ke rfl rfl rfl (fun w => KA (r := ((j + n - 2 : Nat) : Int)) (by simp only [IntKind.wrap_i64]; omega) w)) ?_;have hi99 : j + n - 2 < u.length := by omega
  obtain ⟨x99, hx99⟩ := Kq hi99;refine TS.val rfl rfl rfl (gA (i := (j + n - 2)) Tryz.underlying50 K5 rfl rfl rfl rfl rfl (by omega)) ?_;refine TS.val rfl rfl rfl (Kx (v := .int .i64 x99) rfl rfl Kbg (fun w1 hw => KL (Kn .i64) hw (q := 2) rfl hx99 0 _ rfl)) ?_;refine TS.val rfl rfl rfl (Ky rfl rfl) ?_;refine TS.val rfl rfl rfl (Ky rfl rfl) ?_;refine TS.val rfl rfl rfl (Ke rfl rfl rfl (fun w => KA (r := ((n - 1 : Nat) : Int)) (by simp only [IntKind.wrap_i64]; omega) w)) ?_;have hi104 : n - 1 < v.length := by omega
  obtain ⟨x104, hx104⟩ := Kq hi104;refine TS.val rfl rfl rfl (gA (i := (n - 1)) Tryz.underlying50 K5 rfl rfl rfl rfl rfl (by omega)) ?_;refine TS.val rfl rfl rfl (Kx (v := .int .i64 x104) rfl rfl Kbg (fun w1 hw => KL (Kn .i64) hw (q := 1) rfl hx104 0 _ rfl)) ?_;refine TS.val rfl rfl rfl (Ky rfl rfl) ?_;refine TS.val rfl rfl rfl (Ky rfl rfl) ?_;refine TS.val rfl rfl rfl (Ke rfl rfl rfl (fun w => KA (r := ((n - 2 : Nat) : Int)) (by simp only [IntKind.wrap_i64]; omega) w)) ?_;have hi109 : n - 2 < v.length := by omega
  obtain ⟨x109, hx109⟩ := Kq hi109;refine TS.val rfl rfl rfl (gA (i := (n - 2)) Tryz.underlying50 K5 rfl rfl rfl rfl rfl (by omega)) ?_;refine TS.val rfl rfl rfl (Kx (v := .int .i64 x109) rfl rfl Kbg (fun w1 hw => KL (Kn .i64) hw (q := 1) rfl hx109 0 _ rfl)) ?_;refine TS.end_ ?_;have hLd := hD.lead (by omega) (by omega) hv.1 hvn (by omega) hvp;rw [KS hx85, KS hx92, KS hx99, KS hx104, KS hx109] at hLd;have hldB := hv.1.at_ hx104;refine TL.pM (α := {g : Int // Ka u / (Ka v * pB j) <= g /\ g <= Ka u / (Ka v * pB j) + 1 /\ 0 <= g /\ g < 1073741824}) (fun x => .int .i64 x.1) (fun x => []) rfl Ko1 (fun w1 hw => (Ks9 x85 x92 x99 x104 x109 w1 hLd (by omega)).mono fun en w2 ⟨x, h1, h2⟩ => ⟨x, h1, (Pm.start w1).below h2⟩) ?_;rintro ⟨gq, hg1, hg2, hg3, hg4⟩;dsimp only [lC, lN];refine TL.as_ ?_;refine zET (zSG (TL.as_ ?_));refine zET (zS (zSG (TL.mv ?_)));refine TL.v (gD ((n + 1 : Nat) : Int)) ?_;refine TL.mv ?_;refine zET (zB ?_);refine TC.loop_ (α := {y : Nat × Int × List Int // y.1 <= n + 1 /\ CombI u v y.2.2 (-gq) j y.1 y.2.1 /\ -1073741824 <= y.2.1 /\ y.2.1 <= 0}) (fun y => [(7, .int .i64 (b.length : Nat)), (10, .int .i64 ((sb : Nat) : Int)), (11, .slice (some ⟨gu, 0, none⟩) (a.length + 1) cu0), (12, .slice (some ⟨gv, 0, none⟩) (b.length + 1) cv), (13, .slice (some ⟨g72, 0, none⟩) (a.length - n + 1) (a.length - n + 1)), (14, .int .i64 ((j : Nat) : Int)), (15, .int .i64 gq), (113, .int .i64 ((n + 1 : Nat) : Int)), (114, .int .i64 ((y.1.1 : Nat) : Int)), (16, .int .i64 y.1.2.1)]) (fun y => Pm w [.row (.slice (some ⟨g72, 0, none⟩) (a.length - n + 1) (a.length - n + 1)) 3 1 (a.length - n + 1) (Kb (ic .i64) q), .row (.slice (some ⟨gv, 0, none⟩) (b.length + 1) cv) 3 1 (b.length + 1) (Kb (ic .i64) v), .row (.slice (some ⟨gu, 0, none⟩) (a.length + 1) cu0) 3 1 (a.length + 1) (Kb (ic .i64) y.1.2.2)]) (fun y => n + 1 - y.1.1) (⟨(0, 0, u), Nat.zero_le _, CombI.start hD.uok _ _, by show (-1073741824 : Int) <= 0; decide, Int.le_refl _⟩) ⟨rfl, rfl, rfl, rfl, rfl, rfl, rfl, rfl, rfl, rfl, trivial⟩ (fun w1 hw => hw) ?_;rintro ⟨⟨i, c, u1⟩, hi, hC, hc⟩;dsimp only at hi hC hc ⊢;have hul1 := hC.len;refine zSG ?_;refine TL.sp Kr (fun q115 => ?_) (fun q115 => ?_)
  ·refine zET (zS (zc (zk (zT (zS (zB (zSG (TL.rn 2 rfl (zET (zS ?_))))))))));obtain ⟨s, hs⟩ : ∃ s, s = u1.getD (j + i) 0 - gq * v.getD i 0 + c := ⟨_, rfl⟩;have hsb9 := KrB (hC.ok.getD (j + i)) (hv.1.getD i) ⟨hg3, hg4⟩ hc hs;have hug := hC.ok.getD (j + i);refine TC.quietQ (by kernel_rfl) (by kernel_rfl) (fun w hw => hw.drawn _) ?_;refine TQ.rn 3 rfl (TQ.v (gD ((j + i : Nat) : Int)) ?_);have hi121 : j + i < u1.length := by omega
   obtain ⟨x121, hx121⟩ := Kq hi121;have hxu : x121 = u1.getD (j + i) 0 := (KS hx121).symm;refine TQ.w rfl (gA (i := (j + i)) Tryz.underlying50 K5 rfl rfl rfl rfl rfl (by omega)) ?_;refine TQ.w rfl (Kx (v := .int .i64 x121) rfl rfl Kbg (fun w1 hw => KL (Kn .i64) hw (q := 2) rfl hx121 0 _ rfl)) ?_;refine TQ.rn 3 rfl ?_;have hi126 : i < v.length := by omega
   obtain ⟨x126, hx126⟩ := Kq hi126;have hxv : x126 = v.getD i 0 := (KS hx126).symm;refine TQ.w rfl (gA (i := i) Tryz.underlying50 K5 rfl rfl rfl rfl rfl (by omega)) ?_;refine TQ.w rfl (Kx (v := .int .i64 x126) rfl rfl Kbg (fun w1 hw => KL (Kn .i64) hw (q := 1) rfl hx126 0 _ rfl)) ?_;refine TQ.w rfl (Ke rfl rfl rfl (fun w => Kb4 (r := gq * v.getD i 0) (by rw [hxv]; simp only [IntKind.wrap_i64]; omega) w)) ?_;refine TQ.w rfl (Ke rfl rfl rfl (fun w => KA (r := u1.getD (j + i) 0 - gq * v.getD i 0) (by rw [hxu]; simp only [IntKind.wrap_i64]; omega) w)) ?_;refine TQ.w rfl (Ky rfl rfl) ?_;refine TQ.v (gD s) ?_;refine TQ.w rfl (KT rfl rfl) ?_;refine TQ.fin ?_;refine zT (zG (TL.rn 3 rfl (TL.v (gD ((j + i : Nat) : Int)) ?_)));refine TL.mv ?_;refine TL.w rfl (Ke (v := .int .i64 (s % 1073741824)) rfl rfl rfl (fun w => (KaW (by simp) w).trans (by rw [Kcr _ (by omega) (by omega)]))) ?_;refine TL.mv ?_;refine TL.w rfl (Ke (v := .int .i64 (s / 1073741824)) rfl rfl rfl (fun w => KaR 1073741824 (by decide) (by decide) rfl w)) ?_;refine TL.w rfl (gA (i := (j + i)) Tryz.underlying50 K5 rfl rfl rfl rfl rfl (by omega)) ?_;refine TL.rowset (k := 2) (vs := [.int .i64 (s % 1073741824)]) (xs' := Kb (ic .i64) (u1.set (j + i) (s % 1073741824))) rfl rfl rfl rfl rfl rfl rfl K5 Keu (by rw [KR (Kn .i64)]; show 0 + (j + i) * 1 + 1 <= _; omega) (K3 (Kn .i64) (q := 0) (y := s % 1073741824) hx121 (by show 0 + 1 <= 1; decide) rfl) ?_
   try dsimp only [List.set_cons_zero, List.set_cons_succ]
   refine TL.as_ ?_;refine zE (zN (zT (zG (TL.v (gD ((i + 1 : Nat) : Int)) ?_))));refine TL.mv ?_;refine zE ?_;exact TX.rd (⟨(i + 1, s / 1073741824, u1.set (j + i) (s % 1073741824)), by dsimp only; omega, hC.step (by omega) s (by rw [hs, Int.neg_mul]; omega), by dsimp only; omega, by dsimp only; omega⟩) (by show n + 1 - (i + 1) < n + 1 - i; omega) (fun w1 hw => hw)
  refine zET (zS (zd (zx (zX (zX (zM (zT (zS (zS ?_)))))))));have hCi : i = n + 1 := by omega
  refine zG (TL.mv ?_);refine TL.sp Kr (fun q143 => ?_) (fun q143 => ?_)
  ·refine zET (zc (zSG (TL.mv ?_)));refine TL.w rfl (Ke rfl rfl rfl (fun w => KA (r := gq - 1) (by simp only [IntKind.wrap_i64]; omega) w)) ?_;refine TL.rn 2 rfl (zET (zSG (TL.mv ?_)));refine TL.v (gD ((n + 1 : Nat) : Int)) ?_;refine TL.mv ?_;refine zET (zB ?_);refine TC.loop_ (α := {y : Nat × Int × List Int // y.1 <= n + 1 /\ CombI u1 v y.2.2 1 j y.1 y.2.1 /\ 0 <= y.2.1 /\ y.2.1 <= 1}) (fun y => [(7, .int .i64 (b.length : Nat)), (10, .int .i64 ((sb : Nat) : Int)), (11, .slice (some ⟨gu, 0, none⟩) (a.length + 1) cu0), (12, .slice (some ⟨gv, 0, none⟩) (b.length + 1) cv), (13, .slice (some ⟨g72, 0, none⟩) (a.length - n + 1) (a.length - n + 1)), (14, .int .i64 ((j : Nat) : Int)), (15, .int .i64 (gq - 1)), (147, .int .i64 ((n + 1 : Nat) : Int)), (148, .int .i64 ((y.1.1 : Nat) : Int)), (16, .int .i64 y.1.2.1)]) (fun y => Pm w [.row (.slice (some ⟨g72, 0, none⟩) (a.length - n + 1) (a.length - n + 1)) 3 1 (a.length - n + 1) (Kb (ic .i64) q), .row (.slice (some ⟨gv, 0, none⟩) (b.length + 1) cv) 3 1 (b.length + 1) (Kb (ic .i64) v), .row (.slice (some ⟨gu, 0, none⟩) (a.length + 1) cu0) 3 1 (a.length + 1) (Kb (ic .i64) y.1.2.2)]) (fun y => n + 1 - y.1.1) (⟨(0, 0, u1), Nat.zero_le _, CombI.start hC.ok _ _, Int.le_refl _, by show (0 : Int) <= 1; decide⟩) ⟨rfl, rfl, rfl, rfl, rfl, rfl, rfl, rfl, rfl, rfl, trivial⟩ (fun w1 hw => hw) ?_;rintro ⟨⟨i2, c2, u2⟩, hi2, hC2, hc2⟩;dsimp only at hi2 hC2 hc2 ⊢;have hul2 := hC2.len;refine zSG ?_;refine TL.sp Kr (fun q149 => ?_) (fun q149 => ?_)
   ·refine zET (zS (zc (zk (zT (zS (zB (zSG (TL.rn 2 rfl (zET (zS ?_))))))))));obtain ⟨s, hs⟩ : ∃ s, s = u2.getD (j + i2) 0 + 1 * v.getD i2 0 + c2 := ⟨_, rfl⟩;have hsa9 := Kqk (s := s) (hC2.ok.getD (j + i2)) (hv.1.getD i2) hc2 (by omega);have hug := hC2.ok.getD (j + i2);have hvg := hv.1.getD i2;refine TC.quietQ (by kernel_rfl) (by kernel_rfl) (fun w hw => hw.drawn _) ?_;refine TQ.rn 3 rfl (TQ.v (gD ((j + i2 : Nat) : Int)) ?_);have hi155 : j + i2 < u2.length := by omega
    obtain ⟨x155, hx155⟩ := Kq hi155;have hxu : x155 = u2.getD (j + i2) 0 := (KS hx155).symm;refine TQ.w rfl (gA (i := (j + i2)) Tryz.underlying50 K5 rfl rfl rfl rfl rfl (by omega)) ?_;refine TQ.w rfl (Kx (v := .int .i64 x155) rfl rfl Kbg (fun w1 hw => KL (Kn .i64) hw (q := 2) rfl hx155 0 _ rfl)) ?_;refine TQ.rn 2 rfl ?_;have hi159 : i2 < v.length := by omega
    obtain ⟨x159, hx159⟩ := Kq hi159;have hxv : x159 = v.getD i2 0 := (KS hx159).symm;refine TQ.w rfl (gA (i := i2) Tryz.underlying50 K5 rfl rfl rfl rfl rfl (by omega)) ?_;refine TQ.w rfl (Kx (v := .int .i64 x159) rfl rfl Kbg (fun w1 hw => KL (Kn .i64) hw (q := 1) rfl hx159 0 _ rfl)) ?_;refine TQ.w rfl (Ke rfl rfl rfl (fun w => KbL (r := u2.getD (j + i2) 0 + v.getD i2 0) (by rw [hxu, hxv]; simp only [IntKind.wrap_i64]; omega) w)) ?_;refine TQ.w rfl (Ky rfl rfl) ?_;refine TQ.v (gD s) ?_;refine TQ.w rfl (KT rfl rfl) ?_;refine TQ.fin ?_;refine zT (zG (TL.rn 3 rfl (TL.v (gD ((j + i2 : Nat) : Int)) ?_)));refine TL.mv ?_;refine TL.w rfl (Ke (v := .int .i64 (s % 1073741824)) rfl rfl rfl (fun w => (KaW (by simp) w).trans (by rw [Kcr _ (by omega) (by omega)]))) ?_;refine TL.mv ?_;refine TL.w rfl (Ke (v := .int .i64 (s / 1073741824)) rfl rfl rfl (fun w => KaR 1073741824 (by decide) (by decide) rfl w)) ?_;refine TL.w rfl (gA (i := (j + i2)) Tryz.underlying50 K5 rfl rfl rfl rfl rfl (by omega)) ?_;refine TL.rowset (k := 2) (vs := [.int .i64 (s % 1073741824)]) (xs' := Kb (ic .i64) (u2.set (j + i2) (s % 1073741824))) rfl rfl rfl rfl rfl rfl rfl K5 Keu (by rw [KR (Kn .i64)]; show 0 + (j + i2) * 1 + 1 <= _; omega) (K3 (Kn .i64) (q := 0) (y := s % 1073741824) hx155 (by show 0 + 1 <= 1; decide) rfl) ?_
    try dsimp only [List.set_cons_zero, List.set_cons_succ]
    refine TL.as_ ?_;refine zE (zN (zT (zG (TL.v (gD ((i2 + 1 : Nat) : Int)) ?_))));refine TL.mv ?_;refine zE ?_;exact TX.rd (⟨(i2 + 1, s / 1073741824, u2.set (j + i2) (s % 1073741824)), by dsimp only; omega, hC2.step (by omega) s hs, by dsimp only; omega, by dsimp only; omega⟩) (by show n + 1 - (i2 + 1) < n + 1 - i2; omega) (fun w1 hw => hw)
   refine zET (zS (zd (zx (zX (zX (zM (zT (zG (TL.rn 3 rfl ?_)))))))));have hi177 : j < q.length := by omega
   obtain ⟨x177, hx177⟩ := Kq hi177;refine TL.w rfl (gA (i := j) Tryz.underlying50 K5 rfl rfl rfl rfl rfl (by omega)) ?_;refine TL.rowset (k := 0) (vs := [.int .i64 (gq - 1)]) (xs' := Kb (ic .i64) (q.set j (gq - 1))) rfl rfl rfl rfl rfl rfl rfl K5 Keu (by rw [KR (Kn .i64)]; show 0 + j * 1 + 1 <= _; omega) (K3 (Kn .i64) (q := 0) (y := gq - 1) hx177 (by show 0 + 1 <= 1; decide) rfl) ?_
   try dsimp only [List.set_cons_zero, List.set_cons_succ]
   refine zE (zN (zT (zG (TL.mv ?_))));refine TL.w rfl (Ke rfl rfl rfl (fun w => KA (r := ((j : Nat) : Int) - 1) (by simp only [IntKind.wrap_i64]; omega) w)) ?_;refine TL.as_ ?_;refine zE ?_;exact TX.rd (⟨(j, u2, q.set j (gq - 1)), by dsimp only; omega, hD.next1 (by omega) hV0 hvB (by omega) ⟨hg1, hg2⟩ ⟨hg3, hg4⟩ hC hCi q143 hC2 (by omega)⟩) (by show j < j + 1; omega) (fun w1 hw => hw)
  refine zET (zd (zk (zT (zG (TL.rn 3 rfl ?_)))));have hi177 : j < q.length := by omega
  obtain ⟨x177, hx177⟩ := Kq hi177;refine TL.w rfl (gA (i := j) Tryz.underlying50 K5 rfl rfl rfl rfl rfl (by omega)) ?_;refine TL.rowset (k := 0) (vs := [.int .i64 gq]) (xs' := Kb (ic .i64) (q.set j gq)) rfl rfl rfl rfl rfl rfl rfl K5 Keu (by rw [KR (Kn .i64)]; show 0 + j * 1 + 1 <= _; omega) (K3 (Kn .i64) (q := 0) (y := gq) hx177 (by show 0 + 1 <= 1; decide) rfl) ?_
  try dsimp only [List.set_cons_zero, List.set_cons_succ]
  refine zE (zN (zT (zG (TL.mv ?_))));refine TL.w rfl (Ke rfl rfl rfl (fun w => KA (r := ((j : Nat) : Int) - 1) (by simp only [IntKind.wrap_i64]; omega) w)) ?_;refine TL.as_ ?_;refine zE ?_;exact TX.rd (⟨(j, u1, q.set j gq), by dsimp only; omega, hD.next0 (by omega) hV0 hvB (by omega) ⟨hg1, hg2⟩ ⟨hg3, hg4⟩ hC hCi (by omega)⟩) (by show j < j + 1; omega) (fun w1 hw => hw)
 refine zET (zd (zx (zX (zX (zM (zT (zSG (TL.rn 2 rfl ?_))))))));refine TL.w rfl (Kh8 (v := .slice (some ⟨gu, 0, none⟩) b.length cu0) rfl rfl rfl (fun w => KgH Tryz.underlying50 K5 _ _ _ b.length rfl (by omega) w)) ?_;refine TL.p1 (r := .slice (some ⟨gu, 0, none⟩) ((Ki (u.take b.length)).length) cu0) rfl KcH (fun w1 hw => KdI (some ⟨gu, 0, none⟩) b.length cu0 (u.take b.length) w1 (Kd.headF (Kn .i64) (Kk hw (k := 2) rfl) (by omega)) (by rw [List.length_take]; omega) (by omega) (by omega)) ?_;refine TL.as_ ?_;refine zET (zS ?_);obtain ⟨rest, hrest⟩ : ∃ r, r = Ki (u.take n) := ⟨_, rfl⟩;have hrn : Nrm rest := by rw [hrest]; exact (Nrm.trim (hD.uok.take n)).1
 have hrl : rest.length <= n := by rw [hrest]; have h9 := (Kao (u.take n)).2.1; rw [List.length_take] at h9; omega
 refine TC.cut [(10, .int .i64 ((sb : Nat) : Int)), (13, .slice (some ⟨g72, 0, none⟩) (a.length - n + 1) (a.length - n + 1)), (21, .slice (some ⟨gu, 0, none⟩) rest.length cu0)] (Pm w [.row (.slice (some ⟨gu, 0, none⟩) rest.length cu0) 3 1 rest.length (Kb (ic .i64) rest), .row (.slice (some ⟨g72, 0, none⟩) (a.length - n + 1) (a.length - n + 1)) 3 1 (a.length - n + 1) (Kb (ic .i64) q)]) ⟨rfl, rfl, by rw [hrest, hn]; rfl, trivial⟩ (fun w1 hw => Pm.restR (show Pm w [.row (.slice (some ⟨gu, 0, none⟩) (a.length + 1) cu0) 3 1 (a.length + 1) (Kb (ic .i64) u), .row (.slice (some ⟨g72, 0, none⟩) (a.length - n + 1) (a.length - n + 1)) 3 1 (a.length - n + 1) (Kb (ic .i64) q)] w1 from hw.pk [2, 0]) hrest (by omega) (by omega)) ?_;refine zG (TL.mv ?_);refine TL.v (gN Tryz.underlying50) ?_;refine TL.mkrow (m := rest.length) rfl rfl rfl rfl rfl rfl KjX (z := .int .i64 0) (by kernel_rfl) (zs := Kb (ic .i64) (List.replicate rest.length 0)) ((KbE _ rfl rest.length).trans (by rw [Kam, List.map_replicate])) (by show _ * 8 <= _; omega) (fun g184 => ?_);refine TL.as_ ?_;refine zET (zS (zSG (TL.mv ?_)));refine TL.v (gN Tryz.underlying50) ?_;refine TL.w rfl (Ke rfl rfl rfl (fun w => KA (r := ((rest.length : Nat) : Int) - 1) (by simp only [IntKind.wrap_i64]; omega) w)) ?_;refine TL.as_ ?_;refine zET (zB (TC.loop_ (α := {y : Nat × List Int // y.1 <= rest.length /\ ShR rest y.2 (2 ^ sb) y.1}) (fun y => [(10, .int .i64 ((sb : Nat) : Int)), (13, .slice (some ⟨g72, 0, none⟩) (a.length - n + 1) (a.length - n + 1)), (21, .slice (some ⟨gu, 0, none⟩) rest.length cu0), (22, .slice (some ⟨g184, 0, none⟩) rest.length rest.length), (23, .int .i64 (((y.1.1 : Nat) : Int) - 1))]) (fun y => Pm w [.row (.slice (some ⟨g184, 0, none⟩) rest.length rest.length) 3 1 rest.length (Kb (ic .i64) y.1.2), .row (.slice (some ⟨gu, 0, none⟩) rest.length cu0) 3 1 rest.length (Kb (ic .i64) rest), .row (.slice (some ⟨g72, 0, none⟩) (a.length - n + 1) (a.length - n + 1)) 3 1 (a.length - n + 1) (Kb (ic .i64) q)]) (fun y => y.1.1) (⟨(rest.length, _), Nat.le_refl _, ShR.start rest⟩) ⟨rfl, rfl, rfl, rfl, rfl, trivial⟩ (fun w1 hw => hw) ?_));rintro ⟨⟨i1, o⟩, hi1, hR⟩;dsimp only at hi1 hR ⊢;have hol := hR.len;refine zS (zSG (TL.mv ?_));refine TL.sp KO (fun q189 => ?_) (fun q189 => ?_)
 ·refine zET (zc (zk (zT (zS (zB ?_)))));obtain ⟨i, rfl⟩ : ∃ i0, i1 = i0 + 1 := ⟨i1 - 1, by omega⟩;refine TC.cut [(10, .int .i64 ((sb : Nat) : Int)), (13, .slice (some ⟨g72, 0, none⟩) (a.length - n + 1) (a.length - n + 1)), (21, .slice (some ⟨gu, 0, none⟩) rest.length cu0), (22, .slice (some ⟨g184, 0, none⟩) rest.length rest.length), (23, .int .i64 ((i : Nat) : Int)), (188, .int .i64 ((((i + 1) : Nat) : Int) - 1)), (189, .bool true)] (Pm w [.row (.slice (some ⟨g184, 0, none⟩) rest.length rest.length) 3 1 rest.length (Kb (ic .i64) o), .row (.slice (some ⟨gu, 0, none⟩) rest.length cu0) 3 1 rest.length (Kb (ic .i64) rest), .row (.slice (some ⟨g72, 0, none⟩) (a.length - n + 1) (a.length - n + 1)) 3 1 (a.length - n + 1) (Kb (ic .i64) q)]) ⟨rfl, rfl, rfl, rfl, (by show some (Value.int .i64 (((i + 1 : Nat) : Int) - 1)) = some (Value.int .i64 ((i : Nat) : Int)); congr 2; omega), rfl, rfl, trivial⟩ (fun w1 hw => hw) ?_;have hrg := hrn.1.getD (i + 1);refine TC.hd 17 (Pm w [.row (.slice (some ⟨gu, 0, none⟩) rest.length cu0) 3 1 rest.length (Kb (ic .i64) rest)]) (fun w1 hw => hw.pk [1]) fun jS => ?_;refine TH.t 0 rfl (Ky rfl rfl) jS ?_;refine TH.t 1 rfl (Ky rfl rfl) jS ?_;refine TH.t 2 rfl (Ky rfl rfl) jS ?_;refine TH.t 3 rfl (Ky rfl rfl) jS ?_;refine TH.t 4 rfl (gD ((i + 1 : Nat) : Int)) jS ?_;refine TH.t 7 rfl (Ky rfl rfl) jS ?_;refine TH.t 8 rfl (Ky rfl rfl) jS ?_;have hi201 : i < rest.length := by omega
  obtain ⟨x201, hx201⟩ := Kq hi201;refine TH.tk 9 rfl rfl rfl (gA (i := i) Tryz.underlying50 K5 rfl rfl rfl rfl rfl (by omega)) (fun w1 hw => hw.pk [1]) ?_;refine TH.tk 10 rfl rfl rfl (Kx (v := .int .i64 x201) rfl rfl Kbg (fun w1 hw => KL (Kn .i64) hw (q := 0) rfl hx201 0 _ rfl)) (fun w1 hw => hw.pk [1]) ?_;refine TH.tk 12 rfl rfl rfl (Ky rfl rfl) (fun w1 hw => hw.pk [1]) ?_;refine TH.o 5 ?_;refine TL.p1 rfl KfD (fun w1 hw => Ke6 (some ⟨gu, 0, none⟩) cu0 rest (i + 1) w1 (Kk hw (k := 1) rfl) (by omega) (by omega)) ?_;refine zE ?_;refine TX.he (fun w1 hw => hw.pk [1]) fun hS => ?_;refine TH.t 6 rfl (Ke (v := .int .i64 ((rest.getD (i + 1) 0) * 1073741824)) rfl rfl rfl (fun w => by rw [KeO 1073741824 (by decide) (by decide) (by decide) w]; congr 2; simp only [IntKind.wrap_i64]; omega)) hS ?_;refine TH.t 11 rfl (Ke (v := .int .i64 (rest.getD (i + 1) 0 * 1073741824 + x201)) rfl rfl rfl (fun w => (KaW (by simp) w).trans (by rw [KfW _ _ (by omega) (by omega) (hrn.1.at_ hx201)]))) hS ?_;refine TH.t 13 rfl (Ke (v := .int .i64 ((rest.getD (i + 1) 0 * 1073741824 + x201) / 2 ^ sb)) rfl rfl rfl (fun w => KaR (2 ^ sb) (by omega) (by simp only [IntKind.bits]; omega) (by rw [Int.toNat_natCast]) w)) hS ?_;refine TH.t 14 rfl (Ke (v := .int .i64 (((rest.getD (i + 1) 0 * 1073741824 + x201) / 2 ^ sb) % 1073741824)) rfl rfl rfl (fun w => (KaW (by simp) w).trans (by rw [Kcr _ (by have h9 := Kiw hPQ hP hQ (hrn.1.getD (i + 1)) (hrn.1.at_ hx201); omega) (by have h9 := Kiw hPQ hP hQ (hrn.1.getD (i + 1)) (hrn.1.at_ hx201); omega)]))) hS ?_;have hi207 : i < o.length := by omega
  obtain ⟨x207, hx207⟩ := Kq hi207;refine TH.tk 15 rfl rfl rfl (gA (i := i) Tryz.underlying50 K5 rfl rfl rfl rfl rfl (by omega)) (fun w1 hw => hw.pk [1]) ?_;refine TH.o 16 ?_;refine TL.rowset (k := 0) (vs := [.int .i64 (((rest.getD (i + 1) 0 * 1073741824 + x201) / 2 ^ sb) % 1073741824)]) (xs' := Kb (ic .i64) (o.set i (((rest.getD (i + 1) 0 * 1073741824 + x201) / 2 ^ sb) % 1073741824))) rfl rfl rfl rfl rfl rfl rfl K5 Keu (by rw [KR (Kn .i64)]; show 0 + i * 1 + 1 <= _; omega) (K3 (Kn .i64) (q := 0) (y := ((rest.getD (i + 1) 0 * 1073741824 + x201) / 2 ^ sb) % 1073741824) hx207 (by show 0 + 1 <= 1; decide) rfl) ?_
  try dsimp only [List.set_cons_zero, List.set_cons_succ]
  refine zE ?_;refine TX.held (fun w1 hw => hw.pk [1]) ?_;refine TH.done (by kernel_rfl) ?_;refine zN (zT (zG (TL.mv ?_)));refine TL.w rfl (Ke rfl rfl rfl (fun w => KA (r := ((i : Nat) : Int) - 1) (by simp only [IntKind.wrap_i64]; omega) w)) ?_;refine TL.as_ ?_;refine zE ?_;exact TX.rd (⟨(i, o.set i (((rest.getD (i + 1) 0 * 1073741824 + x201) / 2 ^ sb) % 1073741824)), by dsimp only; omega, hR.step hrn.1 hPQ hP hQ hx201⟩) (by show i < i + 1; omega) (fun w1 hw => hw)
 refine zET (zd (zx (zX (zX (zM (zT (zSG (TL.mv ?_))))))));refine TL.p1 (r := .slice (some ⟨g72, 0, none⟩) ((Ki q).length) (a.length - n + 1)) rfl KcH (fun w1 hw => KdI (some ⟨g72, 0, none⟩) (a.length - n + 1) (a.length - n + 1) q w1 (Kk hw (k := 2) rfl) (by omega) (by omega) (by omega)) ?_;refine TL.mv ?_;refine TL.p1 (r := .slice (some ⟨g184, 0, none⟩) ((Ki o).length) rest.length) rfl KcH (fun w1 hw => KdI (some ⟨g184, 0, none⟩) rest.length rest.length o w1 (Kk hw (k := 0) rfl) (by omega) (by omega) (by omega)) ?_;refine TL.rn 3 rfl (zET (zr ?_));have hdo := DvI.done (by have h9 : j1 = 0 := (by omega); rw [h9] at hD; exact hD) hv.2.1 hvB hrest (by have h9 : i1 = 0 := (by omega); rw [h9] at hR; exact hR);exact Kic (v1 := .slice (some ⟨g72, 0, none⟩) ((Ki q).length) (a.length - n + 1)) (v2 := .slice (some ⟨g184, 0, none⟩) ((Ki o).length) rest.length) (v3 := .int .i64 0) Tryz.results201 rfl rfl rfl (fun w1 hw => ⟨⟨((((some ⟨g72, 0, none⟩), (a.length - n + 1)), (Ki q)), (((some ⟨g184, 0, none⟩), rest.length), (Ki o))), hdo, ⟨by dsimp only; have h9 := (Kao q).2.1; omega, by dsimp only; unfold maxLen; omega⟩, (by dsimp only; have h9 := (Kao o).2.1; omega), (by dsimp only; unfold maxLen; omega)⟩, rfl, Pm.trim2 (show Pm w [.row (.slice (some ⟨g72, 0, none⟩) (a.length - n + 1) (a.length - n + 1)) 3 1 (a.length - n + 1) (Kb (ic .i64) q), .row (.slice (some ⟨g184, 0, none⟩) rest.length rest.length) 3 1 rest.length (Kb (ic .i64) o)] w1 from hw.pk [2, 0]) (by omega) (by omega)⟩)
set_option maxRecDepth 20000
theorem Nrm.len_lt {r y : List Int} (hr : Nrm r) (hy : Nrm y) (h : Ka r < Ka y) : r.length <= y.length := by
 refine Decidable.by_contra fun hn => ?_;have := Nrm.lt_len hy.1 hr (by omega);omega
theorem KmX (w : World) : (sizeOf 3).run Tryz.prog w = .ok 1 w := rfl
theorem Knk (w : World) : (isAgg 3).run Tryz.prog w = .ok false w := rfl
theorem KuQ (A0 : Option Addr) (c0 : Nat) (a : List Int) (A1 : Option Addr) (c1 : Nat) (b : List Int) (w : World) (hr : Kd w w.heap.size 1 A0 a.length (Kb (ic .i64) a)) (hl1 : a.length <= 1000) (hr1 : Kd w w.heap.size 1 A1 b.length (Kb (ic .i64) b)) (hl2 : b.length <= 1000) (ha : Nrm a) (hb : Nrm b) :
  Calls Tryz.prog 200 #[.slice A0 a.length c0, .slice A1 b.length c1] w fun e w' => ∃ x : {y : (Option Addr × Nat) × List Int // (Nrm y.2 /\ Ka y.2 = (Int.gcd (Ka a) (Ka b) : Int) /\ y.2.length <= 1000) /\ y.2.length <= y.1.2 /\ y.1.2 <= maxLen}, e = .returned (.slice x.1.1.1 x.1.2.length x.1.1.2) /\ Pm w [.row (.slice x.1.1.1 x.1.2.length x.1.1.2) 3 1 x.1.2.length (Kb (ic .i64) x.1.2)] w' := by
 refine Kj Tryz.func200 rfl rfl rfl ?_ (Pm.start w);refine zSG (TL.as_ ?_);refine zET (zS (zSG (TL.mv ?_)));refine TL.pM _ _ rfl Ke7 (fun w1 hw => Kfq A0 c0 a w1 (hr.up hw.bel) hl1) ?_;rintro ⟨⟨R9, rc9⟩, hR91, hR92⟩;dsimp only [lC, lN];refine TL.mv ?_;refine TL.pM _ _ rfl Ke7 (fun w1 hw => Kfq A1 c1 b w1 (hr1.up hw.bel) hl2) ?_;rintro ⟨⟨R11, rc11⟩, hR111, hR112⟩;dsimp only [lC, lN];refine TL.rn 2 rfl (zET (zB (TC.loop_ (α := {z : ((Option Addr × Nat) × List Int) × ((Option Addr × Nat) × List Int) // Kc4 a b z.1.2 z.2.2 /\ (z.1.2.length <= z.1.1.2 /\ z.1.1.2 <= maxLen /\ z.1.2.length <= 1000) /\ z.2.2.length <= z.2.1.2 /\ z.2.1.2 <= maxLen /\ z.2.2.length <= 1000}) (fun z => [(0, .slice z.1.1.1.1 z.1.1.2.length z.1.1.1.2), (1, .slice z.1.2.1.1 z.1.2.2.length z.1.2.1.2)]) (fun z => Pm w [.row (.slice z.1.2.1.1 z.1.2.2.length z.1.2.1.2) 3 1 z.1.2.2.length (Kb (ic .i64) z.1.2.2), .row (.slice z.1.1.1.1 z.1.1.2.length z.1.1.1.2) 3 1 z.1.1.2.length (Kb (ic .i64) z.1.1.2)]) (fun z => (Ka z.1.2.2).toNat) (⟨(((R9, rc9), a), ((R11, rc11), b)), ⟨ha, hb, rfl⟩, ⟨hR91, hR92, hl1⟩, hR111, hR112, hl2⟩) ⟨rfl, rfl, trivial⟩ (fun w1 hw => hw) ?_)));rintro ⟨⟨⟨⟨Ax, cx⟩, x⟩, ⟨⟨Ay, cy⟩, y⟩⟩, hG, ⟨hxc, hxm, hxl⟩, hyc, hym, hyl⟩;dsimp only at hG hxc hxm hxl hyc hym hyl ⊢;refine zS (zSG (TL.mv ?_));refine TL.v (gN Tryz.underlying50) ?_;refine TL.sp KC (fun q14 => ?_) (fun q14 => ?_)
 ·refine zET (zc (zk (zT (zB (zSG (TL.rn 2 rfl ?_))))));refine TL.pM _ _ rfl Khs (fun w1 hw => KgI Ax cx x Ay cy y w1 (Kk hw (k := 1) rfl) (by omega) (Kk hw (k := 0) rfl) (by omega) hG.1 hG.2.1 (by omega) hyc) ?_;rintro ⟨⟨⟨⟨Aq, cq⟩, q⟩, ⟨Ar, cr⟩, r⟩, hqr, ⟨hqc, hqm⟩, hrc, hrm⟩;dsimp only [lC, lN];dsimp only at hqr hqc hqm hrc hrm ⊢;have hrl := Nrm.len_lt hqr.2.1 hG.2.1 hqr.2.2.2.2;refine TL.rn 7 rfl (zET (zS (zSG (TL.mv ?_))));refine TL.w rfl (Ke rfl rfl rfl (fun w => KaV rfl w)) ?_;refine zET (zd (zk (zT (zG (TL.rn 4 rfl (zE (zN ?_)))))));exact TX.rd (⟨(((Ay, cy), y), ((Ar, cr), r)), hG.step hqr, ⟨hyc, hym, hyl⟩, hrc, hrm, by dsimp only; omega⟩) (by show (Ka r).toNat < (Ka y).toNat; have h9 := hqr.2.2.2; omega) (fun w1 hw => hw.pk [1, 2])
 refine zET (zd (zx (zX (zX (zM (zT (zSG (TL.rn 2 rfl (zET (zr ?_))))))))));have hgd := hG.done (List.eq_nil_of_length_eq_zero (by omega));exact Kg Tryz.results200 rfl (fun w1 hw => ⟨⟨((Ax, cx), x), ⟨hG.1, hgd, hxl⟩, hxc, hxm⟩, rfl, hw.pick [1] (by decide) rfl⟩)
theorem Kor (A0 : Option Addr) (c0 : Nat) (a : List Int) (w : World) (hr : Kd w w.heap.size 1 A0 a.length (Kb (ic .i64) a)) (hl1 : a.length <= 1000) (ha : Nrm a) (hlen : a.length <= 256) :
  Calls Tryz.prog 159 #[.slice A0 a.length c0] w fun e w' => e = .returned (.bool true) /\ Below w.heap.size w w' := by
 refine Kj Tryz.func159 rfl rfl rfl ?_ (Pm.start w);refine zSG (TL.as_ ?_);refine zET (zS (zSG (TL.mv ?_)));refine TL.v (gN Tryz.underlying50) ?_;refine TL.mv ?_;refine zET (zB (TC.lp (α := {i : Nat // i <= a.length}) [0, 5, 6] rfl (fun y => [(7, .int .i64 ((y.1 : Nat) : Int))]) (fun y => Pm w []) (fun y => a.length - y.1) (⟨0, Nat.zero_le _⟩) (fun w1 hw => hw) ?_));rintro ⟨i, hi⟩
 try dsimp only at hi ⊢
 refine zSG ?_;refine TL.sp Kr (fun q8 => ?_) (fun q8 => ?_)
 ·refine zET (zS (zc (zk (zT (zS (zB (zSG ?_)))))));have hi9 : i < a.length := by omega
  obtain ⟨x9, hx9⟩ := Kq hi9;obtain ⟨b9, o9, hA9, hbb9, hc9⟩ := hr.ad (by omega) (by decide);have hax := ha.1.at_ hx9;refine TL.w rfl (gA (i := i) Tryz.underlying50 KmX rfl rfl rfl rfl hA9 (by omega)) ?_;refine TL.w rfl (Kx (v := .int .i64 x9) rfl rfl Knk (fun w1 hw => (hw.bel.cell hbb9).trans <| KN (Kn .i64) hx9 hc9 0 _ rfl)) ?_;refine TL.as_ ?_;refine zET (zSG (TL.mv ?_));refine TL.sp Kr (fun q12 => ?_) (fun q12 => ?_)
  ·exfalso; omega
  refine TL.rn 2 rfl (TL.gu ?_);refine TL.sp KO (fun q15 => ?_) (fun q15 => ?_)
  ·exfalso; omega
  refine TL.pk ?_;refine zET (zd (zk (zN (zT (zG (TL.v (gD ((i + 1 : Nat) : Int)) ?_))))));refine TL.mv ?_;refine zE ?_;exact TX.rd (⟨i + 1, by omega⟩) (by show a.length - (i + 1) < a.length - i; omega) (fun w1 hw => hw)
 refine zET (zS (zd (zx (zX (zX (zM (zT (zSG (TL.mv ?_)))))))));refine TL.v (gN Tryz.underlying50) ?_;refine TL.sp KbJ (fun q20 => ?_) (fun q20 => ?_)
 ·refine TL.rn 2 rfl (TL.ov (gN Tryz.underlying50) ?_);refine TL.gu ?_;refine TL.sp KK (fun q24 => ?_) (fun q24 => ?_)
  ·refine TL.rn 11 rfl (zET (zr ?_));exact Kg Tryz.results159 rfl (fun w1 hw => ⟨rfl, hw.bel⟩)
  refine TL.rn 3 rfl (TL.ov (gN Tryz.underlying50) ?_);refine TL.gu ?_;refine TL.w rfl (Ke rfl rfl rfl (fun w => KA (r := ((a.length - 1 : Nat) : Int)) (by simp only [IntKind.wrap_i64]; omega) w)) ?_;refine TL.gu ?_;have hi30 : a.length - 1 < a.length := by omega
  obtain ⟨x30, hx30⟩ := Kq hi30;obtain ⟨b30, o30, hA30, hbb30, hc30⟩ := hr.ad (by omega) (by decide);have hax := ha.1.at_ hx30;refine TL.w rfl (gA (i := (a.length - 1)) Tryz.underlying50 KmX rfl rfl rfl rfl hA30 (by omega)) ?_;refine TL.gu ?_;refine TL.w rfl (Kx (v := .int .i64 x30) rfl rfl Knk (fun w1 hw => (hw.bel.cell hbb30).trans <| KN (Kn .i64) hx30 hc30 0 _ rfl)) ?_;refine TL.gu ?_;refine TL.sp Kau (fun q32 => ?_) (fun q32 => ?_)
  ·refine TL.rn 3 rfl (zET (zr ?_));exact Kg Tryz.results159 rfl (fun w1 hw => ⟨rfl, hw.bel⟩)
  exfalso; exact absurd (Khj ha hx30 (by omega)) (by omega)
 exfalso; omega
theorem KnJ (A0 : Option Addr) (c0 : Nat) (a : List Int) (A1 : Option Addr) (c1 : Nat) (b : List Int) (w : World) (hr : Kd w w.heap.size 1 A0 a.length (Kb (ic .i64) a)) (hl1 : a.length <= 1000) (hr1 : Kd w w.heap.size 1 A1 b.length (Kb (ic .i64) b)) (hl2 : b.length <= 1000) (ha : Nrm a) (hb : Nrm b) (hlt : Ka a < Ka b) :
  Calls Tryz.prog 199 #[.slice A0 a.length c0, .slice A1 b.length c1] w fun e w' => e = .returned (.tuple #[.slice none 0 0, .int .i64 15]) /\ Below w.heap.size w w' := by
 refine Kj Tryz.func199 rfl rfl rfl ?_ (Pm.start w);refine zSG (TL.rn 2 rfl (zET (zS (zSG (TL.rn 2 rfl ?_)))));refine TL.p1 rfl KfE (fun w1 hw => Kgc A0 c0 a A1 c1 b w1 (hr.up hw.bel) (by omega) (hr1.up hw.bel) (by omega) ha hb) ?_;refine TL.sp Kr (fun q13 => ?_) (fun q13 => ?_)
 ·refine zET (zc (zSG (TL.rn 2 rfl (zET (zr (zR ?_))))));exact K2 (v1 := .slice none 0 0) (v2 := .int .i64 15) Tryz.results199 rfl rfl (fun w1 hw => ⟨rfl, hw.bel⟩)
 exfalso; exact q13 (Kax.2 hlt)
theorem Kkv (A0 : Option Addr) (c0 : Nat) (a : List Int) (A1 : Option Addr) (c1 : Nat) (b : List Int) (w : World) (hr : Kd w w.heap.size 1 A0 a.length (Kb (ic .i64) a)) (hl1 : a.length <= 1000) (hr1 : Kd w w.heap.size 1 A1 b.length (Kb (ic .i64) b)) (hl2 : b.length <= 1000) (ha : Nrm a) (hb : Nrm b) (hlim : Ka a < pB 256) :
  Calls Tryz.prog 199 #[.slice A0 a.length c0, .slice A1 b.length c1] w fun e w' => ∃ x : {y : ((Option Addr × Nat) × List Int) × Int // (Nrm y.1.2 /\ Ka y.1.2 = if Ka b <= Ka a then Ka a - Ka b else 0) /\ y.1.2.length <= y.1.1.2 /\ y.1.1.2 <= maxLen}, e = .returned (.tuple #[.slice x.1.1.1.1 x.1.1.2.length x.1.1.1.2, .int .i64 x.1.2]) /\ Pm w [.row (.slice x.1.1.1.1 x.1.1.2.length x.1.1.1.2) 3 1 x.1.1.2.length (Kb (ic .i64) x.1.1.2)] w' := by
 by_cases h : Ka b <= Ka a
 ·exact (KhR A0 c0 a A1 c1 b w hr hl1 hr1 hl2 ha hb h hlim).mono fun e w' ⟨x, h1, h2⟩ => ⟨⟨(x.1, 0), ⟨x.2.1.1, by rw [if_pos h]; exact x.2.1.2⟩, x.2.2⟩, h1, h2⟩
 exact (KnJ A0 c0 a A1 c1 b w hr hl1 hr1 hl2 ha hb (by omega)).mono fun e w' ⟨h1, h2⟩ => ⟨⟨(((none, 0), []), 15), ⟨Nrm.nil, by rw [if_neg h]; rfl⟩, Nat.le_refl _, Nat.zero_le _⟩, h1, ((Pm.start w).below h2).nilrow _ _⟩
end Go.Proofs.YtcicmplfmcloiaaGreat
