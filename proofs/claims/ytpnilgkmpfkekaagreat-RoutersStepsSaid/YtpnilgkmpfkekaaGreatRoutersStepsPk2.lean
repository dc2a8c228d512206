/-
  Texts of the proof, joined: RtLaw, SymSoW, SymCptK, Bits, UnCell, UnTrail, SymNil, RtCls, SymSo1, SymNew, SymMapV, SymPre, SymCopy, SymShort, SymSq, SymSq3, FnFacts, Frame, Draw, RtCmp, RtSrt, RtCpt, RtVld, DcDraw, SqDraw, Us1, Us2, Us3.
-/
import Derived.Test.YtpnilgkmpfkekaaGreatRoutersStepsPk1
import Derived.Laws.BitsAllLaws
import Derived.Laws.BitsLemmas
import Derived.WalkSpells
import Derived.Laws.OwnMore
import Derived.Lib.Overlaps
import Derived.Test.YtpnilgkmpfkekaaGreatProg
import Derived.Test.YtpnilgkmpfkekaaGreatRows
import Derived.Shelf.SortM.Plain
import Derived.Shelf.SortM.SortNone
set_option linter.unusedVariables false
set_option linter.unusedSimpArgs false
namespace Go.Proofs.YtpnilgkmpfkekaaGreat
set_option maxHeartbeats 1000000
open Go.RowKit
def Kl : List Int -> List Int -> Int
  | [], [] => 0
  | [], _ :: _ => -1
  | _ :: _, [] => 1
  | x :: a, y :: b => if x < y then -1 else if y < x then 1 else Kl a b
theorem Kcq : ∀ a : List Int, Kl a a = 0
  | [] => rfl
  | x :: a => by rw [Kl, if_neg (by omega), if_neg (by omega)]; exact Kcq a
theorem KfI : ∀ {a b : List Int}, Kl a b = 0 -> a = b
  | [], [], _ => rfl
  | [], y :: b, h => by rw [Kl] at h; omega
  | x :: a, [], h => by rw [Kl] at h; omega
  | x :: a, y :: b, h => by
    rw [Kl] at h;split at h
    · omega
    · split at h
      · omega
      · rw [KfI h, show x = y by omega]
theorem Kgb : ∀ {a b : List Int}, Kl a b = - Kl b a
  | [], [] => rfl
  | [], y :: b => by rw [Kl, Kl]
  | x :: a, [] => by rw [Kl, Kl]; rfl
  | x :: a, y :: b => by
    rw [Kl, Kl];by_cases h1 : x < y
    · rw [if_pos h1, if_neg (by omega), if_pos h1]
    · by_cases h2 : y < x
      · rw [if_neg h1, if_pos h2, if_pos h2]; rfl
      · rw [if_neg h1, if_neg h2, if_neg h2, if_neg h1]; exact Kgb
theorem KcS : ∀ {a b c : List Int}, Kl a b < 0 -> Kl b c < 0 -> Kl a c < 0
  | [], [], c, h, h' => by rw [Kl] at h; omega
  | x :: a, [], c, h, h' => by rw [Kl] at h; omega
  | [], y :: b, [], h, h' => by rw [Kl] at h'; omega
  | x :: a, y :: b, [], h, h' => by rw [Kl] at h'; omega
  | [], y :: b, z :: c, h, h' => by rw [Kl]; omega
  | x :: a, y :: b, z :: c, h, h' => by
    rw [Kl] at h h' ⊢;by_cases h1 : x < y
    · by_cases h2 : y < z
      · rw [if_pos (by omega)]; omega
      · rw [if_neg h2] at h';by_cases h3 : z < y
        · rw [if_pos h3] at h'; omega
        · rw [if_pos (by omega)]; omega
    · rw [if_neg h1] at h;by_cases h4 : y < x
      · rw [if_pos h4] at h; omega
      · rw [if_neg h4] at h;obtain rfl : x = y := by omega
        by_cases h2 : x < z
        · rw [if_pos h2]; omega
        · rw [if_neg h2] at h' ⊢;by_cases h3 : z < x
          · rw [if_pos h3] at h'; omega
          · rw [if_neg h3] at h' ⊢; exact KcS h h'
theorem Kge (a b : List Int) : Kl a b < 0 \/ a = b \/ Kl b a < 0 := by
  rcases Int.lt_trichotomy (Kl a b) 0 with h | h | h
  · exact .inl h
  · exact .inr (.inl (KfI h))
  · rw [Kgb] at h; exact .inr (.inr (by omega))
section
variable {α : Type} {key : α -> List Int}
def Kb7 (key : α -> List Int) (l : List α) : Prop := l.Pairwise fun x y => Kl (key x) (key y) < 0
theorem Ki1 (hi : ∀ x y, key x = key y -> x = y) : ∀ {a b : List α}, Kb7 key a -> Kb7 key b -> (∀ x, x ∈ a ↔ x ∈ b) -> a = b
  | [], [], _, _, _ => rfl
  | [], y :: b, _, _, h => absurd ((h y).2 List.mem_cons_self) List.not_mem_nil
  | x :: a, [], _, _, h => absurd ((h x).1 List.mem_cons_self) List.not_mem_nil
  | x :: a, y :: b, h1, h2, h => by
    have h1' := List.pairwise_cons.1 h1;have h2' := List.pairwise_cons.1 h2;have irr : ∀ z : α, ¬ Kl (key z) (key z) < 0 := fun z hz => by rw [Kcq] at hz; omega
    have e : x = y := by
      rcases List.mem_cons.1 ((h x).1 List.mem_cons_self) with e | hx
      · exact e
      · rcases List.mem_cons.1 ((h y).2 List.mem_cons_self) with e | hy
        · exact e.symm
        · exact absurd (KcS (h1'.1 y hy) (h2'.1 x hx)) (irr x)
    subst e;rw [Ki1 hi h1'.2 h2'.2 fun z => ?_];constructor
    · intro hz;rcases List.mem_cons.1 ((h z).1 (List.mem_cons_of_mem _ hz)) with rfl | hz2
      · exact absurd (h1'.1 z hz) (irr z)
      · exact hz2
    · intro hz;rcases List.mem_cons.1 ((h z).2 (List.mem_cons_of_mem _ hz)) with rfl | hz2
      · exact absurd (h2'.1 z hz) (irr z)
      · exact hz2
theorem KpE {l : List α} (h : Kb7 key l) : l.Nodup := h.imp fun {a b} hab e => by subst e; rw [Kcq] at hab; omega
end
structure Idn where
  v : Int
  run : Int
  num : Int
deriving DecidableEq
def Idn.keys (i : Idn) : List Int := [i.v, i.run, i.num]
structure Exl where
  a : Int
  b : Int
  v1 : Int
  r1 : Int
  n1 : Int
  v2 : Int
  r2 : Int
  n2 : Int
deriving DecidableEq
def Exl.keys (y : Exl) : List Int := [y.a, y.b, y.v1, y.r1, y.n1, y.v2, y.r2, y.n2]
theorem Exl.inj {x y : Exl} (h : x.keys = y.keys) : x = y := by
  cases x; cases y; simpa [Exl.keys] using h
structure Ev where
  kind : Int
  a : Int
  b : Int
  res : Sg Idn
structure EvC where
  kind : Int
  a : Int
  b : Int
  ids : List Idn
deriving DecidableEq
def Ev.c (e : Ev) : EvC := ⟨e.kind, e.a, e.b, e.res.l⟩
def EvC.keys (e : EvC) : List Int := e.kind :: e.a :: e.b :: e.ids.flatMap Idn.keys
theorem KjR : ∀ {a b : List Idn}, a.flatMap Idn.keys = b.flatMap Idn.keys -> a = b
  | [], [], _ => rfl
  | [], y :: b, h => by rw [List.flatMap_cons] at h; simp [Idn.keys] at h
  | x :: a, [], h => by rw [List.flatMap_cons] at h; simp [Idn.keys] at h
  | x :: a, y :: b, h => by
    rw [List.flatMap_cons, List.flatMap_cons] at h;simp only [Idn.keys, List.cons_append, List.nil_append, List.cons.injEq] at h;have e : x = y := by cases x; cases y; simp_all
    rw [e, KjR h.2.2.2]
theorem EvC.inj (x y : EvC) (h : x.keys = y.keys) : x = y := by
  unfold EvC.keys at h;simp only [List.cons.injEq] at h;have := KjR h.2.2.2;cases x; cases y; simp_all
def KaM (x y : EvC) : Int := Kl x.keys y.keys
def Kcg (l : List Idn) : Prop := Kb7 Idn.keys l
instance (l : List Idn) : Decidable (Kcg l) := by unfold Kcg Kb7; infer_instance
def KI (e : EvC) : Bool := decide (1 <= e.kind /\ e.kind <= 3 /\ e.a ≠ 0 /\ e.a < e.b /\ e.ids ≠ [] /\ Kcg e.ids)
def KZ (l o : List EvC) : Prop := Kb7 EvC.keys o /\ ∀ x, x ∈ o ↔ x ∈ l /\ KI x = true
theorem KZ.eq {l o o' : List EvC} (h : KZ l o) (h' : KZ l o') : o = o' := Ki1 EvC.inj h.1 h'.1 fun x => by rw [h.2, h'.2]
theorem KZ.of_mem {l l' o : List EvC} (h : KZ l o) (hm : ∀ x, x ∈ l ↔ x ∈ l') : KZ l' o := ⟨h.1, fun x => by rw [h.2, hm]⟩
def Kcv (p : Exl -> Bool) (o : Option Exl) (y : Exl) : Option Exl :=
  if p y then match o with
    | none => some y
    | some m => if Kl y.keys m.keys < 0 then some y else some m
  else o
def KaO (p : Exl -> Bool) (x : List Exl) : Option Exl := x.foldl (Kcv p) none
theorem KlL (p : Exl -> Bool) (x : List Exl) (y : Exl) : KaO p (x ++ [y]) = Kcv p (KaO p x) y := by unfold KaO; rw [List.foldl_append]; rfl
def KdL (p : Exl -> Bool) (x : List Exl) : Option Exl -> Prop
  | none => ∀ y ∈ x, p y = false
  | some m => m ∈ x /\ p m = true /\ ∀ y ∈ x, p y = true -> ¬ Kl y.keys m.keys < 0
theorem KiG (p : Exl -> Bool) (x : List Exl) : KdL p x (KaO p x) := by
  have key : ∀ (x pre : List Exl) (o : Option Exl), KdL p pre o -> KdL p (pre ++ x) (x.foldl (Kcv p) o) := by
    intro x
    induction x with
    | nil => intro pre o h; rw [List.append_nil]; exact h
    | cons y x ih =>
      intro pre o h;rw [List.foldl_cons, show pre ++ y :: x = (pre ++ [y]) ++ x by rw [List.append_assoc]; rfl];refine ih _ _ ?_;unfold Kcv;have hm : ∀ {z : Exl}, z ∈ pre ++ [y] ↔ z ∈ pre \/ z = y := by intro z; rw [List.mem_append, List.mem_singleton]
      by_cases hp : p y = true
      · rw [if_pos hp]
        cases o with
        | none =>
          refine ⟨hm.2 (.inr rfl), hp, fun z hz hpz => ?_⟩;rcases hm.1 hz with h1 | rfl
          · rw [h z h1] at hpz; cases hpz
          · rw [Kcq]; omega
        | some m =>
          obtain ⟨h1, h2, h3⟩ := h;dsimp only;by_cases hl : Kl y.keys m.keys < 0
          · rw [if_pos hl];refine ⟨hm.2 (.inr rfl), hp, fun z hz hpz h4 => ?_⟩;rcases hm.1 hz with h5 | rfl
            · exact h3 z h5 hpz (KcS h4 hl)
            · rw [Kcq] at h4; omega
          · rw [if_neg hl];refine ⟨hm.2 (.inl h1), h2, fun z hz hpz => ?_⟩;rcases hm.1 hz with h5 | rfl
            · exact h3 z h5 hpz
            · exact hl
      · rw [if_neg hp]
        cases o with
        | none =>
          intro z hz;rcases hm.1 hz with h1 | rfl
          · exact h z h1
          · exact Bool.eq_false_iff.2 hp
        | some m =>
          obtain ⟨h1, h2, h3⟩ := h;refine ⟨hm.2 (.inl h1), h2, fun z hz hpz => ?_⟩;rcases hm.1 hz with h5 | rfl
          · exact h3 z h5 hpz
          · exact absurd hpz hp
  exact key x [] none (fun y hy => absurd hy List.not_mem_nil)
theorem KdL.eq {p : Exl -> Bool} {x x' : List Exl} {o o' : Option Exl} (h : KdL p x o) (h' : KdL p x' o') (hm : ∀ y, y ∈ x ↔ y ∈ x') : o = o' := by
  cases o with
  | none => cases o' with
    | none => rfl
    | some m => have := h m ((hm m).2 h'.1); rw [h'.2.1] at this; cases this
  | some m => cases o' with
    | none => have := h' m ((hm m).1 h.1); rw [h.2.1] at this; cases this
    | some m' =>
      rcases Kge m.keys m'.keys with h1 | h1 | h1
      · exact absurd h1 (h'.2.2 m ((hm m).1 h.1) h.2.1)
      · rw [Exl.inj h1]
      · exact absurd h1 (h.2.2 m' ((hm m').2 h'.1) h'.2.1)
theorem Kny {p : Exl -> Bool} {x x' : List Exl} (hm : ∀ y, y ∈ x ↔ y ∈ x') : KaO p x = KaO p x' := (KiG p x).eq (KiG p x') hm
def EvC.fc (e : EvC) : Fc := ⟨0, e.a, e.b⟩
def Ku (u : List EvC) : Int -> Int := Ko (u.map EvC.fc)
def btw (R : Int -> Int) (a b : Int) (y : Exl) : Bool := decide (y.a < y.b) && ((decide (R y.a = R a) && decide (R y.b = R b)) || (decide (R y.b = R a) && decide (R y.a = R b)))
structure BldS where
  used : List EvC
  rej : List (EvC × Exl)
def Kcc (x : List Exl) (s : BldS) (e : EvC) : BldS :=
  if Ku s.used e.a = Ku s.used e.b then s
  else match KaO (btw (Ku s.used) e.a e.b) x with
    | some y => ⟨s.used, s.rej ++ [(e, y)]⟩
    | none => ⟨s.used ++ [e], s.rej⟩
def Kaz (x : List Exl) (o : List EvC) : BldS := o.foldl (Kcc x) ⟨[], []⟩
theorem Kpr (x : List Exl) (o : List EvC) (e : EvC) : Kaz x (o ++ [e]) = Kcc x (Kaz x o) e := by unfold Kaz; rw [List.foldl_append]; rfl
theorem Khz (u : List EvC) (e : EvC) : Ku (u ++ [e]) = K4 (Ku u) e.fc := by unfold Ku; rw [List.map_append]; exact KdU _ _
theorem KoI {x x' : List Exl} (hm : ∀ y, y ∈ x ↔ y ∈ x') (s : BldS) (e : EvC) : Kcc x s e = Kcc x' s e := by unfold Kcc; rw [Kny hm]
theorem KlT {x x' : List Exl} (hm : ∀ y, y ∈ x ↔ y ∈ x') (o : List EvC) : Kaz x o = Kaz x' o := by
  unfold Kaz
  congr 1
  funext s e
  exact KoI hm s e
open Go Go.RowKit Go.Shelf Go.Sort
theorem KpP {α : Type} [Inhabited α] {c : α -> List Value} {k m q n cap : Nat} {d : Array α} {os : Array Obj} {w : World} (hqs : q < w.heap.size) : w.grownBy (sortWorldK c k w q 0 m d os) (Value.ownBlock (.slice (some ⟨q, 0, none⟩) n cap)) := by
  refine ⟨rfl, rfl, rfl, by unfold sortWorldK putRowK; simp, fun i hi hne => ?_⟩;unfold sortWorldK putRowK;rw [heap_grow_old _ _ (by simpa using hi)];have : q ≠ i := fun e => hne (by rw [e]; rfl);simp [putRow, mapBlock, Sort.ahead, Array.getElem?_modify, this]
theorem Kp1 {P : Program} {ρ : Ren} {α : Type} [Inhabited α] (L : SlLaysF0.n6 P ρ) {c : α -> List Value} {k : Nat} (K : Cel c k) (aE : ∀ w, (isAgg (ρ.t 24)).run P w = .ok true w) (zE : ∀ w, (Go.sizeOf (ρ.t 24)).run P w = .ok k w)
    (cf : α -> α -> Int) (hO : SWO (ltOf cf)) (g : Nat) (eg : ∀ args w, (callFunc g args).run P w = .ok (.enter g args) w) {b n cap : Nat} {e : TypeId} {A : Option Addr} {l : List α} {w : World} (hcmp : ∀ x y w1, w.grownBy w1 (Value.ownBlock (.slice A n cap)) -> Calls P g #[.agg (c x).toArray, .agg (c y).toArray] w1 fun e w' => e = .returned (.int .i64 (cf x y)) /\ Go.RowKit.Below w1.heap.size w1 w')
    (hr : w.ownsRow b e k (.slice A n cap) n (Ka c l)) (hl : l.length = n) (hn : n < 4611686018427387904) :
    Calls P (ρ.f 6) #[.slice A n cap, .func (.func g) #[] #[]] w fun en w' => en = .returned (.tuple #[]) /\ ∃ l', KbQ cf l l' /\ w'.ownsRow b e k (.slice A n cap) n (Ka c l') /\ w.grownBy w' (Value.ownBlock (.slice A n cap)) := by
  rcases hr.2 with ⟨hv, h0⟩ | ⟨q, cap', cur, hv, hb, hq, h1, h2, h3, h4⟩
  · cases hv;have : l = [] := List.eq_nil_of_length_eq_zero (by omega);subst this;refine (AnyF.slices_SortFunc_none L none 0 _ w).mono fun en w' ⟨h5, h6⟩ => ⟨h5, [], ⟨List.Perm.refl _, List.Pairwise.nil⟩, ?_, ?_⟩
    · rw [h6]; exact hr
    · rw [h6]; exact ⟨rfl, rfl, rfl, Nat.le_refl _, fun _ _ _ => rfl⟩
  · cases hv;have hqs : q < w.heap.size := (Array.getElem?_eq_some_iff.1 hq).1;have hfl : (flatK c k l.toArray).toList = Ka c l := Kiz K l;have hsz : (flatK c k l.toArray).size = n * k := by simp [hl]
    have hH : HoldsK c k w q 0 l.toArray := by
      intro j hj;rw [hsz] at hj;refine ⟨?_, by simp [World.frozen?, hq]⟩;have h5 : (cur.toList.take (n * k))[j]? = (flatK c k l.toArray).toList[j]? := by rw [h4, hfl]
      rw [List.getElem?_take_of_lt hj, Array.getElem?_toList, Array.getElem?_toList] at h5;simp only [World.cell?, hq, Nat.zero_add, Option.isSome_none, Bool.false_eq_true, if_false];rw [h5, getElem!_pos _ j (by rw [hsz]; exact hj)];exact Array.getElem?_eq_getElem (by rw [hsz]; exact hj)
    have hcl : CmpLays P g #[] c k cf q 0 l.toArray.size w := fun m os dk hs x y =>
      ((hcmp x y _ (KpP hqs)).drawn fun e w' h => ⟨_, h.1⟩).mono fun e w' ⟨⟨h5, h6⟩, h7⟩ => ⟨h5, KjG h6 h7⟩
    have hc := AnyQ.slices_SortFunc L k aE zE c K.len K.one cf hO g #[] q 0 cap l.toArray w eg hcl hH hqs (by simp only [List.size_toArray]; omega);rw [List.size_toArray, hl] at hc;refine hc.mono ?_;rintro en w' ⟨h5, d', m, os, hp, hs, hw⟩;have hds : d'.size = n := by have := hp.1; simpa [hl] using this
    refine ⟨h5, d'.toList, ⟨?_, ?_⟩, ?_, ?_⟩
    · have h6 := hp.2.2;rw [show d'.extract 0 n = d' from by rw [<- hds]; exact Array.extract_size, show l.toArray.extract 0 n = l.toArray from by rw [<- hl, <- List.size_toArray]; exact Array.extract_size] at h6
      simpa using h6
    · rw [List.pairwise_iff_getElem];intro i j hi hj hij;have hi' : i < d'.size := by simpa using hi
      have hj' : j < d'.size := by simpa using hj
      have h6 := hs i j (Nat.zero_le _) hij (by omega);rw [getElem!_pos _ i hi', getElem!_pos _ j hj'] at h6;simp only [ltOf, decide_eq_false_iff_not] at h6
      simpa using h6
    · have hsz2 : (flatK c k d').size = n * k := by simp [hds]
      have hfl2 : (flatK c k d').toList = Ka c d'.toList := by have := Kiz K d'.toList; simpa using this
      refine ⟨by rw [Kbk K, Array.length_toList, hds], .inr ⟨q, cap, putCells id 0 (flatK c k d') cur, rfl, hb, ?_, h1, h2, by simp [putCells, h3], ?_⟩⟩
      · rw [hw];unfold sortWorldK putRowK;rw [heap_grow_old _ _ (by simpa using hqs)];simp [putRow, mapBlock, Sort.ahead, Array.getElem?_modify, hq, onCells]
      · have hle : n * k <= cap * k := Nat.mul_le_mul_right _ h1;rw [<- hsz2, KoU _ _ (by rw [hsz2, h3]; exact hle), hfl2]
    · rw [hw];refine ⟨rfl, rfl, rfl, by unfold sortWorldK putRowK; simp, fun i hi hne => ?_⟩;unfold sortWorldK putRowK;rw [heap_grow_old _ _ (by simpa using hi)];have : q ≠ i := fun e => hne (by rw [e]; rfl);simp [putRow, mapBlock, Sort.ahead, Array.getElem?_modify, this]
theorem Kei {α : Type} {Good : α -> Prop} : ∀ (l : List α) (h : ∀ x ∈ l, Good x), (l.pmap Subtype.mk h).map (·.1) = l
  | [], _ => rfl
  | x :: l, h => by rw [List.pmap, List.map_cons, Kei l]
theorem KoG {P : Program} {ρ : Ren} {α : Type} (L : SlLaysF0.n6 P ρ) {c : α -> List Value} {k : Nat} (K : Cel c k) (aE : ∀ w, (isAgg (ρ.t 24)).run P w = .ok true w) (zE : ∀ w, (Go.sizeOf (ρ.t 24)).run P w = .ok k w)
    (cf : α -> α -> Int) (hO : SWO (ltOf cf)) (g : Nat) (eg : ∀ args w, (callFunc g args).run P w = .ok (.enter g args) w) (Good : α -> Prop) (x0 : α) (hx0 : Good x0)
    {b n cap : Nat} {e : TypeId} {A : Option Addr} {l : List α} {w : World} (hG : ∀ x ∈ l, Good x) (hcmp : ∀ x y w1, Good x -> Good y -> w.grownBy w1 (Value.ownBlock (.slice A n cap)) -> Calls P g #[.agg (c x).toArray, .agg (c y).toArray] w1 fun e w' => e = .returned (.int .i64 (cf x y)) /\ Go.RowKit.Below w1.heap.size w1 w')
    (hr : w.ownsRow b e k (.slice A n cap) n (Ka c l)) (hl : l.length = n) (hn : n < 4611686018427387904) :
    Calls P (ρ.f 6) #[.slice A n cap, .func (.func g) #[] #[]] w fun en w' => en = .returned (.tuple #[]) /\ ∃ l', KbQ cf l l' /\ w'.ownsRow b e k (.slice A n cap) n (Ka c l') /\ w.grownBy w' (Value.ownBlock (.slice A n cap)) := by
  haveI : Inhabited {x : α // Good x} := ⟨⟨x0, hx0⟩⟩
  have hfl : ∀ l' : List {x : α // Good x}, Ka (fun x => c x.1) l' = Ka c (l'.map (·.1)) := fun l' => by
    unfold Ka; rw [List.flatMap_map]
  have K' : Cel (fun x : {x : α // Good x} => c x.1) k := ⟨fun x => K.len x.1, fun x => K.one x.1⟩;have hO' : SWO (ltOf fun x y : {x : α // Good x} => cf x.1 y.1) := ⟨fun x => hO.irrefl x.1, fun x y z => hO.trans x.1 y.1 z.1, fun x y z => hO.ntrans x.1 y.1 z.1⟩;have hr' : w.ownsRow b e k (.slice A n cap) n (Ka (fun x => c x.1) (l.pmap Subtype.mk hG)) := by rw [hfl, Kei]; exact hr
  refine (Kp1 L K' aE zE (fun x y => cf x.1 y.1) hO' g eg (fun x y w1 h1 => hcmp x.1 y.1 w1 x.2 y.2 h1) hr' (by rw [List.length_pmap]; exact hl) hn).mono ?_;rintro en w' ⟨h1, l', ⟨hp, hs⟩, h2, h3⟩;refine ⟨h1, l'.map (·.1), ⟨?_, ?_⟩, by rw [<- hfl]; exact h2, h3⟩
  · have := hp.map (·.1);rwa [Kei] at this
  · rw [List.pairwise_map]; exact hs
theorem Klb {α : Type} (key : α -> List Int) : SWO (ltOf fun x y => Kl (key x) (key y)) := by
  refine ⟨fun x => ?_, fun x y z h1 h2 => ?_, fun x y z h1 h2 => ?_⟩
  · simp [ltOf, Kcq]
  · simp only [ltOf, decide_eq_true_eq] at h1 h2 ⊢;exact KcS h1 h2
  · simp only [ltOf, decide_eq_false_iff_not] at h1 h2 ⊢;intro h3;rcases Kge (key y) (key x) with h4 | h4 | h4
    · exact h2 (KcS h4 h3)
    · rw [h4] at h2; exact h2 h3
    · exact h1 h4
theorem TQ.callE {P : Program} {N : Fr} {E : Env} {I : World -> Prop} {ops : Array Oper} {l : List Oper} {o : Oper} {R : Act -> Prop} {d : Nat} {v : Value} {f : FuncId} {us : Array Value} (hg : o.guard = none) (hd : o.dst = some d) (hN : Nat.blt d N.n = true) (he : Ent P N E o f us)
    (hc : ∀ w, I w -> Calls P f us w fun e w' => e = .returned v /\ I w') (h : TQ P N ops R l ((d, v) :: E) I) : TQ P N ops R (o :: l) E I := fun a ha => by
  unfold wpQuiet;rw [if_pos (by simp [Region.wanted, hg])];refine ⟨v, fun w hw => ?_, ?_⟩
  · unfold Oper.quietAt; rw [he a w ha]; exact ⟨rfl, hc w hw⟩
  · rw [hd]; exact h _ (ha.put d v (by simpa [Nat.blt_eq] using hN))
section
variable {α β : Type} [DecidableEq β] {key : α -> β}
def Kbl (key : α -> β) (s : List α × Option β) (x : α) : List α × Option β := if s.2 = some (key x) then s else (s.1 ++ [x], some (key x))
def K9 (key : α -> β) (l : List α) : List α := (l.foldl (Kbl key) ([], none)).1
theorem Km5 (key : α -> β) : ∀ (l : List α) (x : α), ((l ++ [x]).foldl (Kbl key) ([], none)).2 = some (key x) := fun l x => by
  rw [List.foldl_append, List.foldl_cons, List.foldl_nil, Kbl];split
  · assumption
  · rfl
theorem Kfh {l : List α} {k : Nat} {x y : α} (hx : l[k]? = some x) (hy : l[k - 1]? = some y) (hk : 1 <= k) : K9 key (l.take (k + 1)) = if key y = key x then K9 key (l.take k) else K9 key (l.take k) ++ [x] := by
  have e : l.take k = l.take (k - 1) ++ [y] := by
    rw [show k = (k - 1) + 1 by omega, List.take_add_one, show k - 1 + 1 - 1 = k - 1 by omega, hy]; rfl
  have e2 := Km5 key (l.take (k - 1)) y;rw [<- e] at e2;rw [List.take_add_one, hx];unfold K9;rw [Option.toList_some, List.foldl_append, List.foldl_cons, List.foldl_nil, Kbl, e2];simp only [Option.some.injEq];split <;> rfl
theorem KlU (l : List α) : K9 key (l.take 1) = l.take 1 := by
  cases l with
  | nil => rfl
  | cons x l => rfl
theorem Klt {l : List α} (h : l.length < 2) : K9 key l = l := by
  match l, h with
  | [], _ => rfl
  | [a], _ => rfl
theorem Kic (key : α -> β) : ∀ (l : List α) (s : List α × Option β), (l.foldl (Kbl key) s).1.length <= s.1.length + l.length
  | [], s => Nat.le_refl _
  | x :: l, s => by
    rw [List.foldl_cons];refine Nat.le_trans (Kic key l _) ?_;unfold Kbl;split
    · simp
    · rw [List.length_append]; simp; omega
theorem Kl8 (l : List α) : (K9 key l).length <= l.length := by have := Kic key l ([], none); show (List.foldl (Kbl key) ([], none) l).1.length <= _; simpa using this
theorem KhH (key : α -> β) : ∀ (l : List α) (s : List α × Option β) (z : α), z ∈ (l.foldl (Kbl key) s).1 -> z ∈ s.1 \/ z ∈ l
  | [], s, z, h => .inl h
  | x :: l, s, z, h => by
    rw [List.foldl_cons] at h;rcases KhH key l _ z h with h1 | h1
    · unfold Kbl at h1;split at h1
      · exact .inl h1
      · rcases List.mem_append.1 h1 with h2 | h2
        · exact .inl h2
        · rw [List.mem_singleton] at h2; exact .inr (by rw [h2]; exact List.mem_cons_self)
    · exact .inr (List.mem_cons_of_mem _ h1)
theorem KjQ {l : List α} {z : α} (h : z ∈ K9 key l) : z ∈ l := (KhH key l _ z h).resolve_left List.not_mem_nil
theorem KjO (key : α -> β) : ∀ (l : List α) (s : List α × Option β) (z : α), (∀ k, s.2 = some k -> k ∈ s.1.map key) -> (z ∈ l \/ key z ∈ s.1.map key) -> key z ∈ (l.foldl (Kbl key) s).1.map key
  | [], s, z, _, h => h.resolve_left List.not_mem_nil
  | x :: l, s, z, hs, h => by
    rw [List.foldl_cons];refine KjO key l _ z (fun k hk => ?_) ?_
    · unfold Kbl at hk ⊢;split
      · rename_i h1; rw [if_pos h1] at hk; exact hs k hk
      · rename_i h1; rw [if_neg h1] at hk; rw [List.map_append, List.mem_append]; injection hk with hk; rw [<- hk]; exact .inr List.mem_cons_self
    · rcases h with h | h
      · rcases List.mem_cons.1 h with rfl | h
        · right
          unfold Kbl;split
          · rename_i h1; exact hs _ h1
          · rw [List.map_append, List.mem_append]; exact .inr List.mem_cons_self
        · exact .inl h
      · right
        unfold Kbl;split
        · exact h
        · rw [List.map_append, List.mem_append]; exact .inl h
theorem KnA {l : List α} {z : α} (h : z ∈ l) : key z ∈ (K9 key l).map key := KjO key l _ z (fun k hk => by cases hk) (.inl h)
theorem KgR {lt : β -> β -> Prop} (tr : ∀ a b c, lt a b -> lt b c -> lt a c) (tri : ∀ a b, ¬ lt b a -> a = b \/ lt a b) (key : α -> β) : ∀ (l : List α) (s : List α × Option β), ((s.1.map key) ++ (l.map key)).Pairwise (fun a b => ¬ lt b a) -> (s.1.map key).Pairwise lt -> (s.1.map key).getLast? = s.2 -> ((l.foldl (Kbl key) s).1.map key).Pairwise lt
  | [], s, _, h2, _ => h2
  | x :: l, s, h1, h2, h3 => by
    rw [List.foldl_cons];have hap := List.pairwise_append.1 h1;unfold Kbl;split
    · rename_i he;refine KgR tr tri key l s ?_ h2 h3;refine List.pairwise_append.2 ⟨hap.1, (List.pairwise_cons.1 hap.2.1).2, fun a ha b hb => hap.2.2 a ha b (List.mem_cons_of_mem _ hb)⟩
    · rename_i he;refine KgR tr tri key l _ ?_ ?_ ?_
      · dsimp only;rw [List.map_append, List.append_assoc];exact h1
      · dsimp only;rw [List.map_append];refine List.pairwise_append.2 ⟨h2, List.pairwise_singleton _ _, fun a ha b hb => ?_⟩;rw [List.map_singleton, List.mem_singleton] at hb;subst hb;rcases tri a (key x) (hap.2.2 a ha (key x) List.mem_cons_self) with e | e
        · subst e
          cases hl : (s.1.map key).getLast? with
          | none => rw [List.getLast?_eq_none_iff] at hl; rw [hl] at ha; cases ha
          | some z =>
            have hz : z ∈ s.1.map key := List.mem_of_getLast? hl;have hne : z ≠ key x := fun e => he (by rw [<- h3, hl, e]);rcases tri z (key x) (hap.2.2 z hz (key x) List.mem_cons_self) with e2 | e2
            · exact absurd e2 hne
            · obtain ⟨pre, hpre⟩ : ∃ pre, s.1.map key = pre ++ [z] := by
                obtain ⟨pre, hp⟩ := List.getLast?_eq_some_iff.1 hl;exact ⟨pre, hp⟩
              rw [hpre] at ha h2;rcases List.mem_append.1 ha with h4 | h4
              · exact absurd e2 ((hap.2.2 (key x) (by rw [hpre]; exact List.mem_append_left _ h4) (key x) List.mem_cons_self) |> fun _ => fun h5 => by
                  have h6 := (List.pairwise_append.1 h2).2.2 (key x) h4 z (List.mem_singleton.2 rfl);exact (hap.2.2 (key x) (by rw [hpre]; exact List.mem_append_left _ h4) (key x) List.mem_cons_self) (tr _ _ _ h6 h5))
              · rw [List.mem_singleton] at h4; exact absurd h4.symm hne
        · exact e
      · dsimp only;rw [List.map_append, List.map_singleton, List.getLast?_concat]
theorem Kmk {lt : β -> β -> Prop} (tr : ∀ a b c, lt a b -> lt b c -> lt a c) (tri : ∀ a b, ¬ lt b a -> a = b \/ lt a b) {l : List α} (h : (l.map key).Pairwise fun a b => ¬ lt b a) : ((K9 key l).map key).Pairwise lt :=
  KgR tr tri key l ([], none) (by simpa using h) .nil rfl
end
theorem Kla (a : Nat) (ha : a < 9223372036854775808) : (BitVec.ofInt 64 (a : Int)).toNat = a := by
  rw [BitVec.ofInt_natCast, BitVec.toNat_ofNat]; exact Nat.mod_eq_of_lt (by omega)
def Fc.cells (f : Fc) : List Value := [.int .i64 f.id, .int .u32 f.a, .int .u32 f.b]
def Fc.Ok (f : Fc) : Prop := 0 <= f.a /\ f.a <= 4294967295 /\ 0 <= f.b /\ f.b <= 4294967295
def Fc.zero : Fc := ⟨0, 0, 0⟩
def fcs (l : List Fc) : List Value := l.flatMap Fc.cells
theorem KaG (f : Fc) : f.cells.length = 3 := rfl
theorem KeU (l : List Fc) : (fcs l).length = l.length * 3 := by
  induction l with
  | nil => rfl
  | cons f l ih => simp only [fcs, List.flatMap_cons, List.length_append] at ih ⊢; rw [ih]; simp only [Fc.cells, List.length_cons, List.length_nil]; omega
theorem KcI (a b : List Fc) : fcs (a ++ b) = fcs a ++ fcs b := by simp [fcs]
theorem KfZ : ∀ {l : List Fc} {i : Nat} {f : Fc} (h : l[i]? = some f) (k : Nat) (hk : k < 3), (fcs l)[i * 3 + k]? = f.cells[k]?
  | [], _, _, h, _, _ => by cases h
  | x :: l, 0, f, h, k, hk => by
    obtain rfl : x = f := by simpa using h
    show (x.cells ++ fcs l)[0 * 3 + k]? = _;rw [Nat.zero_mul, Nat.zero_add, List.getElem?_append_left (by simpa [Fc.cells] using hk)]
  | x :: l, i + 1, f, h, k, hk => by
    show (x.cells ++ fcs l)[(i + 1) * 3 + k]? = _;rw [List.getElem?_append_right (by simp [Fc.cells]; omega), show (i + 1) * 3 + k - x.cells.length = i * 3 + k by simp [Fc.cells]; omega];exact KfZ (by simpa using h) k hk
theorem KJ {l : List Fc} {i : Nat} {f : Fc} (h : l[i]? = some f) {w : World} {b o : Nat} (hc : ∀ (j : Nat) (u : Value), (fcs l)[j]? = some u -> w.cell? ⟨b, o + j, none⟩ = some u) (j : Nat) (u : Value) (hu : f.cells[j]? = some u) : w.cell? ⟨b, o + i * 3 + j, none⟩ = some u := by
  have hj : j < 3 := by have := (List.getElem?_eq_some_iff.1 hu).1; simpa [Fc.cells] using this
  rw [Nat.add_assoc];exact hc _ u (by rw [KfZ h j hj]; exact hu)
theorem KbN (l : List Fc) : ∀ u ∈ fcs l, u.oneCell' = true := by
  intro u hu;simp only [fcs, List.mem_flatMap] at hu;obtain ⟨f, _, hu⟩ := hu;simp only [Fc.cells, List.mem_cons, List.not_mem_nil, or_false] at hu;rcases hu with rfl | rfl | rfl <;> rfl
theorem Kct (f : Fc) : ∀ u ∈ f.cells, u.oneCell' = true := fun u hu => KbN [f] u (by simpa [fcs] using hu)
def Kcu (l : List Fc) (k : Nat) : Prop := ∀ i, i < k -> ∀ f, l[i]? = some f -> 0 <= f.id /\ f.a ≠ f.b /\ ∀ g, 0 < i -> l[i - 1]? = some g -> g.id < f.id
def KM (l : List Fc) : Prop := l.length <= 1024 /\ Kcu l l.length
def oth (f : Fc) (x : Int) : Int := if f.a = x then f.b else f.a
def Trl (F : List Fc) : Int -> Int -> List Fc -> Int -> Prop
  | x, _, [], y => x = y
  | x, last, f :: p, y => f ∈ F /\ f.id ≠ last /\ (f.a = x \/ f.b = x) /\ Trl F (oth f x) f.id p y
structure Frs (F : List Fc) : Prop where
  ids : ∀ f ∈ F, ∀ g ∈ F, f.id = g.id -> f = g
  ne : ∀ f ∈ F, f.a ≠ f.b
  pos : ∀ f ∈ F, 0 <= f.id
  bridge : ∀ f ∈ F, ¬ Conn (F.filter fun g => decide (g ≠ f)) f.a f.b
theorem Kc9 {f : Fc} {x : Int} (h : f.a = x \/ f.b = x) : (x = f.a /\ oth f x = f.b) \/ (x = f.b /\ oth f x = f.a) := by
  unfold oth;by_cases e : f.a = x
  · rw [if_pos e]; exact .inl ⟨e.symm, rfl⟩
  · rw [if_neg e]; exact .inr ⟨(h.resolve_left e).symm, rfl⟩
theorem Kg9 {f : Fc} {x : Int} (hne : f.a ≠ f.b) (h : f.a = x \/ f.b = x) : oth f (oth f x) = x /\ (f.a = oth f x \/ f.b = oth f x) := by
  rcases Kc9 h with ⟨e1, e2⟩ | ⟨e1, e2⟩
  · rw [e2];unfold oth;rw [if_neg hne];exact ⟨e1.symm, .inr rfl⟩
  · rw [e2];unfold oth;rw [if_pos rfl];exact ⟨e1.symm, .inl rfl⟩
theorem Trl.any {F : List Fc} {x l y : Int} {p : List Fc} (h : Trl F x l p y) (hF : ∀ f ∈ F, 0 <= f.id) : Trl F x (-1) p y := by
  cases p with
  | nil => exact h
  | cons f p =>
    obtain ⟨h1, h2, h3, h4⟩ := h;exact ⟨h1, by have := hF f h1; omega, h3, h4⟩
theorem Trl.mem {F : List Fc} : ∀ {p : List Fc} {x l y : Int}, Trl F x l p y -> ∀ f ∈ p, f ∈ F
  | [], _, _, _, _, f, hf => absurd hf List.not_mem_nil
  | g :: p, x, l, y, ⟨h1, _, _, h4⟩, f, hf => by
    rcases List.mem_cons.1 hf with rfl | hf
    · exact h1
    · exact Trl.mem h4 f hf
theorem Trl.conn {F G : List Fc} : ∀ {p : List Fc} {x l y : Int}, Trl F x l p y -> (∀ f ∈ p, f ∈ G) -> Conn G x y
  | [], x, l, y, h, _ => by cases h; exact .refl _
  | f :: p, x, l, y, ⟨h1, _, h3, h4⟩, hG => by
    have hf := hG f List.mem_cons_self
    have c1 : Conn G x (oth f x) := by
      rcases Kc9 h3 with ⟨e1, e2⟩ | ⟨e1, e2⟩
      · rw [e2, e1]; exact .fact hf
      · rw [e2, e1]; exact .symm (.fact hf)
    exact c1.trans (Trl.conn h4 fun g hg => hG g (List.mem_cons_of_mem _ hg))
theorem Trl.part {F : List Fc} (f : Fc) : ∀ {p : List Fc} {x l y : Int}, Trl F x l p y -> f ∈ p -> ∃ q r z l', p = q ++ f :: r /\ f ∉ q /\ Trl F x l q z /\ Trl F z l' (f :: r) y /\ (q = [] -> l' = l)
  | [], _, _, _, _, hf => absurd hf List.not_mem_nil
  | g :: p, x, l, y, h, hf => by
    by_cases e : g = f
    · subst e;exact ⟨[], p, x, l, rfl, List.not_mem_nil, rfl, h, fun _ => rfl⟩
    · obtain ⟨h1, h2, h3, h4⟩ := h;obtain ⟨q, r, z, l', e1, e2, e3, e4, e5⟩ := Trl.part f h4 ((List.mem_cons.1 hf).resolve_left fun hh => e hh.symm);refine ⟨g :: q, r, z, l', by rw [e1]; rfl, ?_, ⟨h1, h2, h3, e3⟩, e4, fun hq => by cases hq⟩;intro hm;rcases List.mem_cons.1 hm with e6 | e6
      · exact e e6.symm
      · exact e2 e6
section
variable {F : List Fc} (hF : Frs F)
include hF
theorem Frs.need {f : Fc} (hf : f ∈ F) {x l y : Int} {p : List Fc} (h : Trl F x l p y) (hx : f.a = x \/ f.b = x) (hy : y = oth f x) : f ∈ p := by
  refine Decidable.byContradiction fun hn => hF.bridge f hf ?_;have c := h.conn (G := F.filter fun g => decide (g ≠ f)) fun g hg => List.mem_filter.2 ⟨h.mem g hg, decide_eq_true fun e => hn (e ▸ hg)⟩;rcases Kc9 hx with ⟨e1, e2⟩ | ⟨e1, e2⟩
  · rw [hy, e2, e1] at c; exact c
  · rw [hy, e2, e1] at c; exact c.symm
theorem Frs.round : ∀ (n : Nat) (p : List Fc) (x l : Int), p.length <= n -> Trl F x l p x -> p = []
  | _, [], _, _, _, _ => rfl
  | 0, g :: p, x, l, hn, _ => absurd hn (by simp)
  | n + 1, g :: p, x, l, hn, ⟨h1, h2, h3, h4⟩ => by
    exfalso;obtain ⟨h5, h6⟩ := Kg9 (hF.ne g h1) h3;have hm := hF.need h1 h4 h6 h5.symm;obtain ⟨q, r, z, l', e1, e2, e3, e4, e5⟩ := Trl.part g h4 hm;obtain ⟨_, f2, f3, _⟩ := e4
    have hz : z = x \/ z = oth g x := by
      rcases Kc9 h3 with ⟨a1, a2⟩ | ⟨a1, a2⟩
      · rcases f3 with f3 | f3
        · exact .inl (f3.symm.trans a1.symm)
        · exact .inr (f3.symm.trans a2.symm)
      · rcases f3 with f3 | f3
        · exact .inr (f3.symm.trans a2.symm)
        · exact .inl (f3.symm.trans a1.symm)
    rcases hz with rfl | rfl
    · exact e2 (hF.need h1 e3 h6 h5.symm)
    · have hq : q.length <= n := by
        have : (g :: p).length = q.length + r.length + 2 := by rw [e1]; simp; omega
        omega
      have := Frs.round n q _ _ hq e3;exact f2 (e5 this).symm
theorem Frs.nodup : ∀ (p : List Fc) (x l y : Int), Trl F x l p y -> p.Nodup
  | [], _, _, _, _ => List.nodup_nil
  | g :: p, x, l, y, ⟨h1, h2, h3, h4⟩ => by
    refine List.nodup_cons.2 ⟨fun hm => ?_, Frs.nodup p _ _ _ h4⟩;obtain ⟨h5, h6⟩ := Kg9 (hF.ne g h1) h3;obtain ⟨q, r, z, l', e1, e2, e3, e4, e5⟩ := Trl.part g h4 hm;obtain ⟨_, f2, f3, _⟩ := e4
    have hz : z = x \/ z = oth g x := by
      rcases Kc9 h3 with ⟨a1, a2⟩ | ⟨a1, a2⟩
      · rcases f3 with f3 | f3
        · exact .inl (f3.symm.trans a1.symm)
        · exact .inr (f3.symm.trans a2.symm)
      · rcases f3 with f3 | f3
        · exact .inr (f3.symm.trans a2.symm)
        · exact .inl (f3.symm.trans a1.symm)
    rcases hz with rfl | rfl
    · exact e2 (hF.need h1 e3 h6 h5.symm)
    · exact f2 (e5 (hF.round _ q _ _ (Nat.le_refl _) e3)).symm
theorem Frs.only : ∀ (p q : List Fc) (x l m y : Int), Trl F x l p y -> Trl F x m q y -> p = q
  | [], q, x, l, m, y, hp, hq => by cases hp; exact (hF.round _ q _ _ (Nat.le_refl _) hq).symm
  | f :: p, [], x, l, m, y, hp, hq => by cases hq; exact hF.round _ _ _ _ (Nat.le_refl _) hp
  | f :: p, g :: q, x, l, m, y, hp, hq => by
    by_cases e : f = g
    · subst e;obtain ⟨_, _, _, h4⟩ := hp;obtain ⟨_, _, _, k4⟩ := hq;rw [Frs.only p q _ _ _ _ h4 k4]
    · exfalso;have hnd := hF.nodup _ _ _ _ hp;obtain ⟨h1, h2, h3, h4⟩ := hp;have hfp : f ∉ p := (List.nodup_cons.1 hnd).1;have c1 : Conn (F.filter fun g => decide (g ≠ f)) (oth f x) y := h4.conn fun k hk => List.mem_filter.2 ⟨h4.mem k hk, decide_eq_true fun e2 => hfp (e2 ▸ hk)⟩
      have key : ∀ z, Conn (F.filter fun g => decide (g ≠ f)) x z -> z = y -> False := fun z c e2 => by
        subst e2;refine hF.bridge f h1 ?_;rcases Kc9 h3 with ⟨e3, e4⟩ | ⟨e3, e4⟩
        · rw [e4] at c1; rw [e3] at c; exact c.trans c1.symm
        · rw [e4] at c1; rw [e3] at c; exact c1.trans c.symm
      by_cases hm : f ∈ g :: q
      · obtain ⟨q1, r, z, l', e1, e2, e3, e4, e5⟩ := Trl.part f hq hm;obtain ⟨_, f2, f3, _⟩ := e4
        have hz : z = x \/ z = oth f x := by
          rcases Kc9 h3 with ⟨a1, a2⟩ | ⟨a1, a2⟩
          · rcases f3 with f3 | f3
            · exact .inl (f3.symm.trans a1.symm)
            · exact .inr (f3.symm.trans a2.symm)
          · rcases f3 with f3 | f3
            · exact .inr (f3.symm.trans a2.symm)
            · exact .inl (f3.symm.trans a1.symm)
        rcases hz with rfl | rfl
        · have := hF.round _ q1 _ _ (Nat.le_refl _) e3;subst this;cases e1;exact e rfl
        · exact e2 (hF.need h1 e3 h3 rfl)
      · exact key y (Trl.conn hq fun k hk => List.mem_filter.2 ⟨Trl.mem hq k hk, decide_eq_true fun e2 => hm (e2 ▸ hk)⟩) rfl
theorem Frs.front {f : Fc} (hf : f ∈ F) {x y : Int} (hx : f.a = x \/ f.b = x) {p : List Fc} (h : Trl F (oth f x) (-1) p y) : ∃ q, Trl F x (-1) q y := by
  obtain ⟨h5, h6⟩ := Kg9 (hF.ne f hf) hx
  cases p with
  | nil => exact ⟨[f], hf, by have := hF.pos f hf; omega, hx, h⟩
  | cons g p =>
    by_cases e : g = f
    · subst e;obtain ⟨_, _, _, h4⟩ := h;rw [h5] at h4;exact ⟨p, h4.any hF.pos⟩
    · obtain ⟨h1, h2, h3, h4⟩ := h;exact ⟨f :: g :: p, hf, by have := hF.pos f hf; omega, hx, h1, fun e2 => e (hF.ids g h1 f hf e2), h3, h4⟩
theorem Frs.way {x y : Int} (h : Conn F x y) : ∃ p, Trl F x (-1) p y := by
  have key : ∀ z, (∃ p, Trl F x (-1) p z) ↔ ∃ p, Trl F y (-1) p z := by
    induction h with
    | refl => exact fun z => Iff.rfl
    | fact hf =>
      rename_i f;have e1 : oth f f.a = f.b := by unfold oth; rw [if_pos rfl]
      have e2 : oth f f.b = f.a := by unfold oth; rw [if_neg (hF.ne f hf)]
      exact fun z => ⟨fun ⟨p, hp⟩ => hF.front hf (.inr rfl) (by rw [e2]; exact hp), fun ⟨p, hp⟩ => hF.front hf (.inl rfl) (by rw [e1]; exact hp)⟩
    | symm _ ih => exact fun z => (ih z).symm
    | trans _ _ ih1 ih2 => exact fun z => (ih1 z).trans (ih2 z)
  exact (key y).2 ⟨[], rfl⟩
end
theorem KbX {α : Type} [DecidableEq α] : ∀ {p F : List α}, p.Nodup -> (∀ f ∈ p, f ∈ F) -> p.length <= F.length
  | [], _, _, _ => Nat.zero_le _
  | a :: p, F, h, hs => by
    obtain ⟨h1, h2⟩ := List.nodup_cons.1 h;have := KbX (F := F.erase a) h2 fun f hf => (List.mem_erase_of_ne (fun e => h1 (by rw [<- e]; exact hf))).2 (hs f (List.mem_cons_of_mem _ hf));rw [List.length_erase_of_mem (hs a List.mem_cons_self)] at this;have h3 : 0 < F.length := List.length_pos_of_mem (hs a List.mem_cons_self);rw [List.length_cons];omega
set_option maxRecDepth 20000
section
variable {P : Program} {N : Fr} {E : Env} {I : World -> Prop} {o : Oper}
theorem Kbq {op : BinOp} {xt yt : TypeId} {x y : Operand} {vx vy v : Value} (ho : o.op = .binOp op xt x y yt) (hx : ev E x = some vx) (hy : ev E y = some vy)
    (hv : ∀ w : World, (do eqGuard op xt x y vx vy; binOp op xt vx vy : Sem Value).run P w = .ok v w) : KB P N o E I v := fun a w ha _ => by
  unfold execOp; rw [ho];simp only [ha.eval hx, ha.eval hy];have := hv w;simp only [Sem.run_bind] at this ⊢;rw [this]
  rfl
theorem KeT {xt e : TypeId} (hu : P.underlying xt = some (.slice e)) {x y : Operand} {A : Option Addr} {n c : Nat} (w : World) :
    (do eqGuard .eql xt x y (.slice A n c) (.slice none 0 0); binOp .eql xt (.slice A n c) (.slice none 0 0) : Sem Value).run P w = .ok (.bool A.isNone) w := by
  cases A <;> simp [eqGuard, binOp, go_sem, run_underlying hu, Op.equal, Op.maxDepth, Lib.run_equalIn_slice_nil w 9999 xt e _ n c 0 0 hu]
end
def Kad (u : List EvC) : List Int := Kp (u.map EvC.fc)
theorem Kf4 {u : List EvC} {x : Int} : x ∈ Kad u ↔ ∃ e ∈ u, x = e.a \/ x = e.b := by
 unfold Kad;rw [KbU];constructor
 ·rintro ⟨f, hf, h⟩;obtain ⟨e, he, rfl⟩ := List.mem_map.1 hf;exact ⟨e, he, h⟩
 ·rintro ⟨e, he, h⟩;exact ⟨e.fc, List.mem_map_of_mem he, h⟩
theorem Kc6 {u : List EvC} {e : EvC} {x : Int} : x ∈ Kad (u ++ [e]) ↔ x ∈ Kad u \/ x = e.a \/ x = e.b := by
 rw [Kf4, Kf4];constructor
 ·rintro ⟨f, hf, h⟩;rcases List.mem_append.1 hf with h1 | h1
  ·exact .inl ⟨f, h1, h⟩
  ·rw [List.mem_singleton] at h1; subst h1; exact .inr h
 ·rintro (⟨f, hf, h⟩ | h)
  ·exact ⟨f, List.mem_append_left _ hf, h⟩
  ·exact ⟨e, List.mem_append_right _ (List.mem_singleton.2 rfl), h⟩
theorem Kkb : ∀ (n : Nat) (u : List EvC), u.length = n -> ∀ x, x ∉ Kad u -> ∀ y, Ku u y = Ku u x -> y = x
 | 0, u, hn, x, hx, y, h => by
  obtain rfl : u = [] := List.eq_nil_of_length_eq_zero hn;exact h
 | n + 1, u, hn, x, hx, y, h => by
  have hne : u ≠ [] := fun e => by rw [e] at hn; cases hn
  rw [<- List.dropLast_concat_getLast hne] at hx h;generalize u.getLast hne = e at hx h;have hl : u.dropLast.length = n := by rw [List.length_dropLast]; omega
  generalize u.dropLast = v at hx h hl;have ih := Kkb n v hl;have hxv : x ∉ Kad v := fun h1 => hx (Kc6.2 (.inl h1));have hxa : x ≠ e.a := fun h1 => hx (Kc6.2 (.inr (.inl h1)));have hxb : x ≠ e.b := fun h1 => hx (Kc6.2 (.inr (.inr h1)));have ha : Ku v e.a ≠ Ku v x := fun h1 => hxa (ih x hxv e.a h1).symm;have hb : Ku v e.b ≠ Ku v x := fun h1 => hxb (ih x hxv e.b h1).symm;rw [Khz] at h;unfold K4 EvC.fc at h;dsimp only at h;split at h
  ·exact ih x hxv y h
  ·dsimp only at h;rw [show (if Ku v x = Ku v e.a then Ku v e.b else Ku v x) = Ku v x from if_neg (fun h1 => ha h1.symm)] at h;split at h
   ·exact absurd h hb
   ·exact ih x hxv y h
theorem Kdk {u : List EvC} {x y : Int} (hx : x ∉ Kad u) (h : Ku u y = Ku u x) : y = x := Kkb _ u rfl x hx y h
structure ClsP (cl : List (List Int)) (u : List EvC) : Prop where
 asc : ∀ k ∈ cl, k.Pairwise (· < ·)
 ne : ∀ k ∈ cl, k ≠ []
 same : ∀ k ∈ cl, ∀ x ∈ k, ∀ y, y ∈ k ↔ y ∈ Kad u /\ Ku u y = Ku u x
 all : ∀ x ∈ Kad u, ∃ k ∈ cl, x ∈ k
 disj : cl.Pairwise fun k m => ∀ x ∈ k, x ∉ m
theorem KnD : ClsP [] [] := ⟨fun k h => absurd h List.not_mem_nil, fun k h => absurd h List.not_mem_nil, fun k h => absurd h List.not_mem_nil, fun x h => absurd h (by simp [Kad, Kp]), .nil⟩
def KN (cl : List (List Int)) (a : Int) : List Int := match cl.findIdx? fun k => decide (a ∈ k) with
 | some i => (cl[i]?).getD [a]
 | none => [a]
def K0 (cl : List (List Int)) (a : Int) : Int := match cl.findIdx? fun k => decide (a ∈ k) with
 | some i => (i : Int)
 | none => -1
theorem KbH {cl : List (List Int)} {a : Int} {k : List Int} {i : Nat} (hk : cl[i]? = some k) (ha : a ∈ k) (hn : ∀ j k', j < i -> cl[j]? = some k' -> a ∉ k') : KN cl a = k /\ K0 cl a = i := by
 have hlt := (List.getElem?_eq_some_iff.1 hk).1
 have h1 : cl.findIdx? (fun k => decide (a ∈ k)) = some i := by
  rw [List.findIdx?_eq_some_iff_getElem];refine ⟨hlt, ?_, fun j hj => ?_⟩
  ·rw [(List.getElem?_eq_some_iff.1 hk).2]; exact decide_eq_true ha
  ·have := hn j _ hj (List.getElem?_eq_getElem (by omega)); simpa using this
 refine ⟨?_, by unfold K0; rw [h1]⟩;unfold KN;rw [h1];dsimp only;rw [hk]; rfl
theorem KbM {cl : List (List Int)} {a : Int} (hn : ∀ k ∈ cl, a ∉ k) : KN cl a = [a] /\ K0 cl a = -1 := by
 have h1 : cl.findIdx? (fun k => decide (a ∈ k)) = none := by
  rw [List.findIdx?_eq_none_iff];intro k hk; simpa using hn k hk
 exact ⟨by unfold KN; rw [h1], by unfold K0; rw [h1]⟩
section
variable {cl : List (List Int)} {u : List EvC}
theorem Kca (a : Int) : (∀ k ∈ cl, a ∉ k) \/ ∃ (i : Nat) (k : List Int), cl[i]? = some k /\ a ∈ k /\ ∀ j k', j < i -> cl[j]? = some k' -> a ∉ k' := by
 rcases h : cl.findIdx? (fun k => decide (a ∈ k)) with _ | i
 ·exact .inl fun k hk => by have := List.findIdx?_eq_none_iff.1 h k hk; simpa using this
 ·obtain ⟨h1, h2, h3⟩ := List.findIdx?_eq_some_iff_getElem.1 h;refine .inr ⟨i, cl[i], List.getElem?_eq_getElem h1, by simpa using h2, fun j k' hj hk' => ?_⟩;have := h3 j hj;rw [(List.getElem?_eq_some_iff.1 hk').2] at this
  simpa using this
theorem ClsP.at_ (h : ClsP cl u) (a y : Int) : y ∈ KN cl a ↔ Ku u y = Ku u a := by
 rcases Kca (cl := cl) a with hn | ⟨i, k, hk, ha, hn⟩
 ·rw [(KbM hn).1, List.mem_singleton];have hx : a ∉ Kad u := fun h1 => by obtain ⟨k, hk, hm⟩ := h.all a h1; exact hn k hk hm
  exact ⟨fun e => by rw [e], fun e => Kdk hx e⟩
 ·rw [(KbH hk ha hn).1, h.same k (List.mem_of_getElem? hk) a ha];have hx : a ∈ Kad u := ((h.same k (List.mem_of_getElem? hk) a ha a).1 ha).1;exact ⟨fun h1 => h1.2, fun e => ⟨Decidable.by_contra fun h1 => h1 (by rw [<- Kdk h1 e.symm]; exact hx), e⟩⟩
theorem ClsP.idx (h : ClsP cl u) {a b : Int} (hab : a ≠ b) : (0 <= K0 cl a /\ K0 cl a = K0 cl b) ↔ Ku u a = Ku u b := by
 rcases Kca (cl := cl) a with hn | ⟨i, k, hk, ha, hn⟩
 ·rw [(KbM hn).2];have hx : a ∉ Kad u := fun h1 => by obtain ⟨k, hk, hm⟩ := h.all a h1; exact hn k hk hm
  exact ⟨fun h1 => by omega, fun e => absurd (Kdk hx e.symm).symm hab⟩
 ·rw [(KbH hk ha hn).2];rcases Kca (cl := cl) b with hm | ⟨j, m, hm, hb, hmn⟩
  ·rw [(KbM hm).2];have hx : b ∉ Kad u := fun h1 => by obtain ⟨k, hk, hm2⟩ := h.all b h1; exact hm k hk hm2
   exact ⟨fun h1 => by omega, fun e => absurd (Kdk hx e) hab⟩
  ·rw [(KbH hm hb hmn).2];constructor
   ·rintro ⟨_, e⟩;obtain rfl : i = j := by omega
    rw [hk] at hm; cases hm;exact (((h.same k (List.mem_of_getElem? hk) a ha b).1 hb).2).symm
   ·intro e;have hbk : b ∈ k := (h.same k (List.mem_of_getElem? hk) a ha b).2 ⟨((h.same m (List.mem_of_getElem? hm) b hb b).1 hb).1, e.symm⟩
    have : i = j := by
     rcases Nat.lt_trichotomy i j with h1 | h1 | h1
     ·exact absurd hbk (hmn i k h1 hk)
     ·exact h1
     ·have := List.pairwise_iff_getElem.1 h.disj j i (List.getElem?_eq_some_iff.1 hm).1 (List.getElem?_eq_some_iff.1 hk).1 h1 b (by rw [(List.getElem?_eq_some_iff.1 hm).2]; exact hb);rw [(List.getElem?_eq_some_iff.1 hk).2] at this;exact absurd hbk this
    exact ⟨by omega, by rw [this]⟩
end
def Kbs (cl : List (List Int)) (i k : Int) : List (List Int) := (cl.zipIdx.filter fun p => decide ((p.2 : Int) ≠ i /\ (p.2 : Int) ≠ k)).map (·.1)
theorem Km2 (cl : List (List Int)) (c : List Int) (i k : Int) : Kbs (cl ++ [c]) i k = Kbs cl i k ++ (if (cl.length : Int) ≠ i /\ (cl.length : Int) ≠ k then [c] else []) := by
 unfold Kbs;rw [List.zipIdx_append, List.filter_append, List.map_append]
 congr 1
 simp only [List.zipIdx_cons, List.zipIdx_nil, List.filter_cons, List.filter_nil, Nat.zero_add];split
 ·rename_i h; rw [if_pos (of_decide_eq_true h)]; rfl
 ·rename_i h; rw [if_neg (fun h1 => h (decide_eq_true h1))]; rfl
theorem Koh (cl : List (List Int)) (i k : Int) : (Kbs cl i k).Sublist cl := by
 have h : ∀ (n : Nat) (cl : List (List Int)), cl.length = n -> (Kbs cl i k).Sublist cl := by
  intro n
  induction n with
  | zero => intro cl hn; rw [List.eq_nil_of_length_eq_zero hn]; exact List.Sublist.refl _
  | succ n ih =>
   intro cl hn;have hne : cl ≠ [] := fun e => by rw [e] at hn; cases hn
   rw [<- List.dropLast_concat_getLast hne, Km2];refine (ih cl.dropLast (by rw [List.length_dropLast]; omega)).append ?_;split
   ·exact List.Sublist.refl _
   ·exact List.nil_sublist _
 exact h _ cl rfl
theorem Klv {cl : List (List Int)} {i k : Int} {c : List Int} : c ∈ Kbs cl i k ↔ ∃ j : Nat, cl[j]? = some c /\ (j : Int) ≠ i /\ (j : Int) ≠ k := by
 unfold Kbs;simp only [List.mem_map, List.mem_filter, decide_eq_true_eq, Prod.exists, exists_and_right, exists_eq_right, List.mem_zipIdx_iff_getElem?]
section
variable {cl : List (List Int)} {u : List EvC} {e : EvC}
theorem ClsP.rest (h : ClsP cl u) {a b : Int} {c : List Int} : c ∈ Kbs cl (K0 cl a) (K0 cl b) ↔ c ∈ cl /\ a ∉ c /\ b ∉ c := by
 have key : ∀ (a : Int) (j : Nat), cl[j]? = some c -> ((j : Int) ≠ K0 cl a ↔ a ∉ c) := by
  intro a j hj;rcases Kca (cl := cl) a with hn | ⟨i, k, hk, ha, hn⟩
  ·rw [(KbM hn).2];exact ⟨fun _ => hn c (List.mem_of_getElem? hj), fun _ => by omega⟩
  ·rw [(KbH hk ha hn).2];constructor
   ·intro hne hac;rcases Nat.lt_trichotomy i j with h1 | h1 | h1
    ·have := List.pairwise_iff_getElem.1 h.disj i j (List.getElem?_eq_some_iff.1 hk).1 (List.getElem?_eq_some_iff.1 hj).1 h1 a (by rw [(List.getElem?_eq_some_iff.1 hk).2]; exact ha);rw [(List.getElem?_eq_some_iff.1 hj).2] at this;exact this hac
    ·omega
    ·exact hn j c h1 hj hac
   ·intro hac e;obtain rfl : j = i := by omega
    rw [hk] at hj; cases hj;exact hac ha
 rw [Klv];constructor
 ·rintro ⟨j, hj, h1, h2⟩;exact ⟨List.mem_of_getElem? hj, (key a j hj).1 h1, (key b j hj).1 h2⟩
 ·rintro ⟨hc, h1, h2⟩;obtain ⟨j, hj⟩ := List.getElem?_of_mem hc;exact ⟨j, hj, (key a j hj).2 h1, (key b j hj).2 h2⟩
theorem ClsP.join (h : ClsP cl u) (hne : Ku u e.a ≠ Ku u e.b) {joined : List Int} (hj : joined.Pairwise (· < ·)) (hm : ∀ x, x ∈ joined ↔ x ∈ KN cl e.a \/ x ∈ KN cl e.b) :
  ClsP (Kbs cl (K0 cl e.a) (K0 cl e.b) ++ [joined]) (u ++ [e]) := by
 have hm' : ∀ x, x ∈ joined ↔ Ku u x = Ku u e.a \/ Ku u x = Ku u e.b := fun x => by rw [hm, h.at_, h.at_]
 have hR : ∀ x, Ku (u ++ [e]) x = if Ku u x = Ku u e.a then Ku u e.b else Ku u x := fun x => by
  rw [Khz]; unfold K4 EvC.fc; dsimp only; rw [if_neg hne]
 have hin : ∀ {x a : Int}, x ∈ Kad u -> Ku u x = Ku u a -> a ∈ Kad u := fun {x a} hx he => Decidable.by_contra fun h1 => h1 (by rw [<- Kdk h1 he]; exact hx)
 have hcx : ∀ c ∈ Kbs cl (K0 cl e.a) (K0 cl e.b), ∀ x ∈ c, x ∈ Kad u /\ Ku u x ≠ Ku u e.a /\ Ku u x ≠ Ku u e.b := fun c hc x hx => by
  obtain ⟨h1, h2, h3⟩ := h.rest.1 hc;have hxa := ((h.same c h1 x hx x).1 hx).1;exact ⟨hxa, fun he => h2 ((h.same c h1 x hx e.a).2 ⟨hin hxa he, he.symm⟩), fun he => h3 ((h.same c h1 x hx e.b).2 ⟨hin hxa he, he.symm⟩)⟩
 have hmem : ∀ {c}, c ∈ Kbs cl (K0 cl e.a) (K0 cl e.b) ++ [joined] ↔ c ∈ Kbs cl (K0 cl e.a) (K0 cl e.b) \/ c = joined := by intro c; rw [List.mem_append, List.mem_singleton]
 refine ⟨fun c hc => ?_, fun c hc => ?_, fun c hc x hx y => ?_, fun x hx => ?_, ?_⟩
 ·rcases hmem.1 hc with h1 | rfl
  ·exact h.asc c (h.rest.1 h1).1
  ·exact hj
 ·rcases hmem.1 hc with h1 | rfl
  ·exact h.ne c (h.rest.1 h1).1
  ·exact fun e1 => by have := (hm' e.a).2 (.inl rfl); rw [e1] at this; cases this
 ·rcases hmem.1 hc with h1 | rfl
  ·obtain ⟨k1, k2, k3⟩ := hcx c h1 x hx;rw [h.same c (h.rest.1 h1).1 x hx, hR, hR, if_neg k2];constructor
   ·rintro ⟨g1, g2⟩;exact ⟨Kc6.2 (.inl g1), by rw [if_neg (by rw [g2]; exact k2)]; exact g2⟩
   ·rintro ⟨g1, g2⟩;split at g2
    ·exact absurd g2.symm k3
    ·rcases Kc6.1 g1 with g3 | rfl | rfl
     ·exact ⟨g3, g2⟩
     ·exact absurd rfl (by assumption)
     ·exact absurd g2.symm k3
  ·rw [hm', hR, hR];have hx' := (hm' x).1 hx
   have ex : (if Ku u x = Ku u e.a then Ku u e.b else Ku u x) = Ku u e.b := by
    split
    ·rfl
    ·exact hx'.resolve_left (by assumption)
   rw [ex];constructor
   ·intro g;refine ⟨Kc6.2 ?_, ?_⟩
    ·by_cases hy : y ∈ Kad u
     ·exact .inl hy
     ·rcases g with g | g
      ·exact .inr (.inl (Kdk hy g.symm).symm)
      ·exact .inr (.inr (Kdk hy g.symm).symm)
    ·split
     ·rfl
     ·exact g.resolve_left (by assumption)
   ·rintro ⟨_, g⟩;split at g
    ·exact .inl (by assumption)
    ·exact .inr g
 ·rcases Kc6.1 hx with g | rfl | rfl
  ·obtain ⟨k, hk, hxk⟩ := h.all x g;by_cases h1 : e.a ∈ k \/ e.b ∈ k
   ·refine ⟨joined, hmem.2 (.inr rfl), (hm' x).2 ?_⟩;rcases h1 with h1 | h1
    ·exact .inl (((h.same k hk e.a h1 x).1 hxk).2)
    ·exact .inr (((h.same k hk e.b h1 x).1 hxk).2)
   ·exact ⟨k, hmem.2 (.inl (h.rest.2 ⟨hk, fun h2 => h1 (.inl h2), fun h2 => h1 (.inr h2)⟩)), hxk⟩
  ·exact ⟨joined, hmem.2 (.inr rfl), (hm' _).2 (.inl rfl)⟩
  ·exact ⟨joined, hmem.2 (.inr rfl), (hm' _).2 (.inr rfl)⟩
 ·refine List.pairwise_append.2 ⟨h.disj.sublist (Koh cl _ _), List.pairwise_singleton _ _, fun c hc m hm2 x hx => ?_⟩;rw [List.mem_singleton] at hm2; subst hm2;obtain ⟨_, k2, k3⟩ := hcx c hc x hx;exact fun h1 => ((hm' x).1 h1).elim k2 k3
def KX (left right : List Int) (y : Exl) : Bool := decide (y.a < y.b) && ((decide (y.a ∈ left) && decide (y.b ∈ right)) || (decide (y.b ∈ left) && decide (y.a ∈ right)))
theorem ClsP.frb (h : ClsP cl u) (a b : Int) : KX (KN cl a) (KN cl b) = btw (Ku u) a b := by
 funext y
 unfold KX btw;simp only [h.at_]
end
def Kal (k : List Int) : Int := k.headD 0
def Kb6 (cl : List (List Int)) : Prop := cl.Pairwise fun k m => Kal k < Kal m
theorem ClsP.perm {cl cl' : List (List Int)} {u : List EvC} (h : ClsP cl u) (hp : cl'.Perm cl) : ClsP cl' u :=
 ⟨fun k hk => h.asc k (hp.mem_iff.1 hk), fun k hk => h.ne k (hp.mem_iff.1 hk), fun k hk => h.same k (hp.mem_iff.1 hk), fun x hx => by
  obtain ⟨k, hk, hx2⟩ := h.all x hx;exact ⟨k, hp.mem_iff.2 hk, hx2⟩, hp.symm.pairwise h.disj (fun {a b} h1 x hb ha => h1 x ha hb)⟩
theorem KdX {k : List Int} (h : k ≠ []) : Kal k ∈ k := by
 cases k with
 | nil => exact absurd rfl h
 | cons x k => exact List.mem_cons_self
theorem ClsP.heads {cl : List (List Int)} {u : List EvC} (h : ClsP cl u) : ∀ k ∈ cl, ∀ m ∈ cl, Kal k = Kal m -> k = m := fun k hk m hm e => by
 refine KcL _ _ (h.asc k hk) (h.asc m hm) fun x => ?_;have h1 := KdX (h.ne k hk);have h2 := KdX (h.ne m hm);rw [e] at h1;rw [h.same k hk _ h1 x, h.same m hm _ h2 x]
theorem Kp2 {u : List EvC} : ∀ {cl cl' : List (List Int)}, ClsP cl u -> ClsP cl' u -> Kb6 cl -> Kb6 cl' -> cl = cl' := by
 intro cl cl' h h' ha ha'
 have hm : ∀ {c d : List (List Int)}, ClsP c u -> ClsP d u -> ∀ k ∈ c, k ∈ d := by
  intro c d hc hd k hk;have h1 := KdX (hc.ne k hk);obtain ⟨m, hm, hx⟩ := hd.all _ ((hc.same k hk _ h1 _).1 h1).1;have : k = m := KcL _ _ (hc.asc k hk) (hd.asc m hm) fun x => by rw [hc.same k hk _ h1 x, hd.same m hm _ hx x]
  rw [this]; exact hm
 have key : ∀ (c d : List (List Int)), Kb6 c -> Kb6 d -> (∀ k, k ∈ c ↔ k ∈ d) -> c = d := by
  intro c
  induction c with
  | nil => intro d _ _ hm; cases d with
   | nil => rfl
   | cons m d => exact absurd ((hm m).2 List.mem_cons_self) List.not_mem_nil
  | cons k c ih => intro d h1 h2 hm; cases d with
   | nil => exact absurd ((hm k).1 List.mem_cons_self) List.not_mem_nil
   | cons m d =>
    have h1' := List.pairwise_cons.1 h1;have h2' := List.pairwise_cons.1 h2
    have e : k = m := by
     rcases List.mem_cons.1 ((hm k).1 List.mem_cons_self) with e | hk
     ·exact e
     ·rcases List.mem_cons.1 ((hm m).2 List.mem_cons_self) with e | hmc
      ·exact e.symm
      ·have := h1'.1 m hmc; have := h2'.1 k hk; omega
    subst e;rw [ih d h1'.2 h2'.2 fun z => ?_];constructor
    ·intro hz;rcases List.mem_cons.1 ((hm z).1 (List.mem_cons_of_mem _ hz)) with rfl | h3
     ·have := h1'.1 z hz; omega
     ·exact h3
    ·intro hz;rcases List.mem_cons.1 ((hm z).2 (List.mem_cons_of_mem _ hz)) with rfl | h3
     ·have := h2'.1 z hz; omega
     ·exact h3
 exact key cl cl' ha ha' fun k => ⟨hm h h' k, hm h' h k⟩
open Go Go.RowKit Go.Shelf Go.Sort
theorem KkB {α : Type} [Inhabited α] {enc : α -> Value} {m q n cap : Nat} {d : Array α} {os : Array Obj} {w : World} (hqs : q < w.heap.size) : w.grownBy (sortWorld enc w q 0 m d os) (Value.ownBlock (.slice (some ⟨q, 0, none⟩) n cap)) := by
  refine ⟨rfl, rfl, rfl, by unfold sortWorld; simp, fun i hi hne => ?_⟩;unfold sortWorld;rw [heap_grow_old _ _ (by simpa using hi)];have : q ≠ i := fun e => hne (by rw [e]; rfl);simp [putRow, mapBlock, Sort.ahead, Array.getElem?_modify, this]
theorem KmY {α : Type} [Inhabited α] (enc : α -> Value) (cur : Array Value) (d : Array α) (h : d.size <= cur.size) : (putCells enc 0 d cur).toList.take d.size = d.toList.map enc := by
  apply List.ext_getElem?;intro j;by_cases hj : j < d.size
  · rw [List.getElem?_take_of_lt hj, Array.getElem?_toList, List.getElem?_map, Array.getElem?_toList];have : d[j]! = d[j] := getElem!_pos d j hj;simp [putCells, hj, show j < cur.size by omega, this]
  · rw [List.getElem?_take_eq_none (by omega), List.getElem?_eq_none (by simp; omega)]
theorem Kni {α : Type} (enc : α -> Value) (l : List α) : Ka (fun x => [enc x]) l = l.map enc := by
  unfold Ka
  induction l with
  | nil => rfl
  | cons x l ih => rw [List.flatMap_cons, ih]; rfl
theorem Kp7 {P : Program} {ρ : Ren} {α : Type} [Inhabited α] (L : SlLaysF.n6 P ρ) {enc : α -> Value} (h1c : OneCell enc)
    (cf : α -> α -> Int) (hO : SWO (ltOf cf)) (g : Nat) (eg : ∀ args w, (callFunc g args).run P w = .ok (.enter g args) w) {b n cap : Nat} {e : TypeId} {A : Option Addr} {l : List α} {w : World}
    (hcmp : ∀ x y w1, w.grownBy w1 (Value.ownBlock (.slice A n cap)) -> Calls P g #[enc x, enc y] w1 fun e w' => e = .returned (.int .i64 (cf x y)) /\ Go.RowKit.Below w1.heap.size w1 w')
    (hr : w.ownsRow b e 1 (.slice A n cap) n (l.map enc)) (hl : l.length = n) (hn : n < 4611686018427387904) :
    Calls P (ρ.f 6) #[.slice A n cap, .func (.func g) #[] #[]] w fun en w' => en = .returned (.tuple #[]) /\ ∃ l', KbQ cf l l' /\ w'.ownsRow b e 1 (.slice A n cap) n (l'.map enc) /\ w.grownBy w' (Value.ownBlock (.slice A n cap)) := by
  rcases hr.2 with ⟨hv, h0⟩ | ⟨q, cap', cur, hv, hb, hq, h1, h2, h3, h4⟩
  · cases hv;have : l = [] := List.eq_nil_of_length_eq_zero (by omega);subst this;refine (AnyF.slices_SortFunc_none (P := P) (ρ := ρ) { L with } none 0 _ w).mono fun en w' ⟨h5, h6⟩ => ⟨h5, [], ⟨List.Perm.refl _, List.Pairwise.nil⟩, ?_, ?_⟩
    · rw [h6]; exact hr
    · rw [h6]; exact ⟨rfl, rfl, rfl, Nat.le_refl _, fun _ _ _ => rfl⟩
  · cases hv;rw [Nat.mul_one] at h3 h4;have hqs : q < w.heap.size := (Array.getElem?_eq_some_iff.1 hq).1;have hsz : l.toArray.size = n := by simpa using hl
    have hH : Holds enc w q 0 l.toArray := by
      intro j hj;refine ⟨?_, by simp [World.frozen?, hq]⟩;have hjl : j < l.length := by simpa using hj
      have h5 : (cur.toList.take n)[j]? = (l.map enc)[j]? := by rw [h4]
      rw [List.getElem?_take_of_lt (by omega), Array.getElem?_toList, List.getElem?_map, List.getElem?_eq_getElem hjl] at h5;simp only [World.cell?, hq, Nat.zero_add, Option.isSome_none, Bool.false_eq_true, if_false];rw [h5, getElem!_pos _ j hj];simp
    have hcl : CmpLays1 P g #[] enc cf q 0 l.toArray.size w := fun m os dk hs x y =>
      ((hcmp x y _ (KkB hqs)).drawn fun e w' h => ⟨_, h.1⟩).mono fun e w' ⟨⟨h5, h6⟩, h7⟩ => ⟨h5, KjG h6 h7⟩
    have hc := Any.slices_SortFunc L enc h1c cf hO g #[] q 0 cap l.toArray w eg hcl hH hqs (by rw [hsz]; exact hn);rw [List.size_toArray, hl] at hc;refine hc.mono ?_;rintro en w' ⟨h5, d', m, os, hp, hs, hw⟩;have hds : d'.size = n := by have := hp.1; simpa [hl] using this
    refine ⟨h5, d'.toList, ⟨?_, ?_⟩, ?_, ?_⟩
    · have h6 := hp.2.2;rw [show d'.extract 0 n = d' from by rw [<- hds]; exact Array.extract_size, show l.toArray.extract 0 n = l.toArray from by rw [<- hl, <- List.size_toArray]; exact Array.extract_size] at h6
      simpa using h6
    · rw [List.pairwise_iff_getElem];intro i j hi hj hij;have hi' : i < d'.size := by simpa using hi
      have hj' : j < d'.size := by simpa using hj
      have h6 := hs i j (Nat.zero_le _) hij (by omega);rw [getElem!_pos _ i hi', getElem!_pos _ j hj'] at h6;simp only [ltOf, decide_eq_false_iff_not] at h6
      simpa using h6
    · refine ⟨by rw [List.length_map, Array.length_toList, hds, Nat.mul_one], .inr ⟨q, cap, putCells enc 0 d' cur, rfl, hb, ?_, h1, h2, by rw [Nat.mul_one]; simp [putCells, h3], ?_⟩⟩
      · rw [hw];unfold sortWorld;rw [heap_grow_old _ _ (by simpa using hqs)];simp [putRow, mapBlock, Sort.ahead, Array.getElem?_modify, hq, onCells]
      · rw [Nat.mul_one, <- hds, KmY _ _ _ (by omega)]
    · rw [hw]; exact KkB hqs
theorem KoP {P : Program} {ρ : Ren} {α : Type} (L : SlLaysF.n6 P ρ) {enc : α -> Value} (h1c : OneCell enc)
    (cf : α -> α -> Int) (hO : SWO (ltOf cf)) (g : Nat) (eg : ∀ args w, (callFunc g args).run P w = .ok (.enter g args) w) (Good : α -> Prop)
    {b n cap : Nat} {e : TypeId} {A : Option Addr} {l : List α} {w : World} (hG : ∀ x ∈ l, Good x) (hcmp : ∀ x y w1, Good x -> Good y -> w.grownBy w1 (Value.ownBlock (.slice A n cap)) -> Calls P g #[enc x, enc y] w1 fun e w' => e = .returned (.int .i64 (cf x y)) /\ Go.RowKit.Below w1.heap.size w1 w')
    (hr : w.ownsRow b e 1 (.slice A n cap) n (l.map enc)) (hl : l.length = n) (hn : n < 4611686018427387904) :
    Calls P (ρ.f 6) #[.slice A n cap, .func (.func g) #[] #[]] w fun en w' => en = .returned (.tuple #[]) /\ ∃ l', KbQ cf l l' /\ w'.ownsRow b e 1 (.slice A n cap) n (l'.map enc) /\ w.grownBy w' (Value.ownBlock (.slice A n cap)) := by
  cases l with
  | nil =>
    obtain rfl : n = 0 := hl.symm;refine (AnyF.slices_SortFunc_none (P := P) (ρ := ρ) { L with } A cap _ w).mono fun en w' ⟨h5, h6⟩ => ⟨h5, [], ⟨List.Perm.refl _, List.Pairwise.nil⟩, ?_, ?_⟩
    · rw [h6]; exact hr
    · rw [h6]; exact ⟨rfl, rfl, rfl, Nat.le_refl _, fun _ _ _ => rfl⟩
  | cons x0 l0 =>
    haveI : Inhabited {x : α // Good x} := ⟨⟨x0, hG x0 List.mem_cons_self⟩⟩
    have hO' : SWO (ltOf fun x y : {x : α // Good x} => cf x.1 y.1) := ⟨fun x => hO.irrefl x.1, fun x y z => hO.trans x.1 y.1 z.1, fun x y z => hO.ntrans x.1 y.1 z.1⟩;have hm : ∀ l' : List {x : α // Good x}, l'.map (fun x => enc x.1) = (l'.map (·.1)).map enc := fun l' => by rw [List.map_map]; rfl
    have hr' : w.ownsRow b e 1 (.slice A n cap) n (((x0 :: l0).pmap Subtype.mk hG).map fun x => enc x.1) := by rw [hm, Kei]; exact hr
    refine (Kp7 L (enc := fun x : {x : α // Good x} => enc x.1) (fun x => h1c x.1) (fun x y => cf x.1 y.1) hO' g eg (fun x y w1 h1 => hcmp x.1 y.1 w1 x.2 y.2 h1) hr' (by rw [List.length_pmap]; exact hl) hn).mono ?_;rintro en w' ⟨h1, l', ⟨hp, hs⟩, h2, h3⟩;refine ⟨h1, l'.map (·.1), ⟨?_, ?_⟩, by rw [<- hm]; exact h2, h3⟩
    · have := hp.map (·.1);rwa [Kei] at this
    · rw [List.pairwise_map]; exact hs
section
variable {P : Program} {N : Fr} {Q : Exit -> Act -> World -> Prop} {E : Env} {w0 : Base} {L : List Pc} {ops : Array Oper} {l : List Oper} {o : Oper}
theorem TL.appendF {d : Nat} {s x : Operand} {t u e e' : TypeId} {size bytes n c m cc g : Nat} {A : Option Addr} {olds news : List Value} (hg : o.guard = none) (hd : o.dst = some d) (hN : Nat.blt d N.n = true)
    (ho : o.op = .call { callee := .builtin .append, args := #[s, x], argTypes := #[t, u] }) (hu : P.underlying u = some (.slice e')) (hE : Elem P t e size bytes) (hs : ev E s = some (.slice (some ⟨g, 0, none⟩) n c)) (hx : ev E x = some (.slice A m cc))
    (hro : ∀ w, Pm w0 L w -> ∃ B, Kh w B size (some ⟨g, 0, none⟩) n olds) (hr : ∀ w, Pm w0 L w -> ∃ B, Kh w B size A m news) (hm : 0 < m) (hc : c < n + m) (hlim : (n + m) * bytes <= 140737488355328) (M : Nat) (hM : M = n + m) (res : List Value) (hres : olds ++ news = res)
    (h : ∀ A' c', M <= c' -> c' <= maxLen -> TL P N ops Q l ((d, .slice A' M c') :: E) (Pm w0 (.row (.slice A' M c') e size M res :: L))) : TL P N ops Q (o :: l) E (Pm w0 L) := by
  subst hM hres;refine TL.run (α := { p : Option Addr × Nat // n + m <= p.2 /\ p.2 <= maxLen }) (r := fun p => .slice p.1.1 (n + m) p.1.2) (I' := fun p => Pm w0 (.row (.slice p.1.1 (n + m) p.1.2) e size (n + m) (olds ++ news) :: L)) hg hd hN (fun a w ha hw => ?_) (fun p => h p.1.1 p.1.2 p.2.1 p.2.2);obtain ⟨i, z, hi, hz, hsz, hby, hzs⟩ := hE.info;subst hsz hby;obtain ⟨B1, h1, h2⟩ := hro w hw;obtain ⟨B2, h3, h4⟩ := hr w hw;obtain ⟨ad, rfl, _, h5⟩ := h4 hm
  have hmx : n + m <= maxLen := by
    have : n + m <= (n + m) * i.bytes := Nat.le_mul_of_pos_right _ hE.big;unfold maxLen; omega
  have holds : ∀ j v, olds[j]? = some v -> w.cell? ((⟨g, 0, none⟩ : Addr).add j) = some v := by
    intro j v hv;rcases Nat.eq_zero_or_pos n with h0 | h0
    · subst h0;have : olds = [] := List.eq_nil_of_length_eq_zero (by simpa using h1);rw [this] at hv; simp at hv
    · obtain ⟨ad, he, _, h6⟩ := h2 h0
      injection he with he
      subst he;exact h6 j v hv
  have hrun := run_append_grow (P := P) w t o.type e i z hE.und hi hz ⟨g, 0, none⟩ n c olds h1 holds ad m cc news h3 h5 hc (by unfold maxLen at hmx; omega) (growslice_fits (by omega) hlim);rw [<- Kkn hE.und hu] at hrun;have hge := grownCap_ge w (n + m) c e;have hcm := grownCap_le_maxLen w (n + m) c e hmx;refine ⟨⟨(some ⟨w.heap.size, 0, none⟩, grownCap w (n + m) c e), hge, hcm⟩, _, ?_, hw.add (w' := (w.drew.alloc (.cells (olds.toArray ++ news.toArray ++ Builtin.zeroCells z.cells (grownCap w (n + m) c e - (n + m))) e))) ?_ ⟨?_, .inr ⟨w.heap.size, _, _, rfl, Nat.le_refl _, heap_alloc_new w.drew _, hge, hcm, ?_, ?_⟩⟩⟩
  · unfold execOp; rw [ho];simp only [resolve, invoke, builtin, Sem.run_bind, Sem.run_pure, Result.andThen_ok, List.map_toArray, List.map_cons, List.map_nil, ha.eval hs, ha.eval hx, hrun]
  · have hb : Below w.heap.size w w.drew := ⟨rfl, rfl, rfl, Nat.le_refl _, fun _ _ => rfl⟩;exact hb.alloc (Nat.le_refl _) _
  · rw [List.length_append, h1, h3, Nat.add_mul]
  · simp only [Array.size_append, List.size_toArray, size_zeroCells, hzs, h1, h3, <- Nat.add_mul]
    congr 1
    omega
  · have hlen : (olds ++ news).length = (n + m) * i.size := by rw [List.length_append, h1, h3, Nat.add_mul]
    simp only [Array.toList_append, List.append_assoc];rw [<- List.append_assoc, <- hlen];exact List.take_left
end
structure MKey (P : Program) (k : TypeId) {κ : Type} (enc : κ -> Value) (Ok : κ -> Prop) : Prop where
  keyed : Maps.Keyed P k
  lit : ∀ a, Ok a -> ∃ l, keyOf P k (enc a) = some l
  inj : ∀ a b, enc a = enc b -> a = b
def KaT {κ : Type} (enc : κ -> Value) (Ok : κ -> Prop) (o : Obj) (f : κ -> Option Value) : Prop :=
  ∃ (es : Array MapEntry) (clock : Nat), o = .map es clock /\ (∀ e ∈ es.toList, ∃ a, Ok a /\ e.key = enc a) /\ (es.toList.map (·.key)).Nodup /\ ∀ a v, f a = some v ↔ ∃ e ∈ es.toList, e.key = enc a /\ e.val = v
section
variable {P : Program} {t k e : TypeId} {κ : Type} {enc : κ -> Value} {Ok : κ -> Prop} {o : Obj} {g : Nat} {f : κ -> Option Value} {w : World}
theorem Knz (enc : κ -> Value) (Ok : κ -> Prop) : KaT enc Ok (.map #[] 0) (fun _ => none) :=
  ⟨#[], 0, rfl, fun e h => absurd h List.not_mem_nil, List.nodup_nil, fun a v => ⟨fun h => by (cases h), fun ⟨e, h, _⟩ => absurd h List.not_mem_nil⟩⟩
theorem KaT.find {es : Array MapEntry} {clock : Nat} (h : KaT enc Ok (.map es clock) f) (K : MKey P k enc Ok) {a : κ} (ha : Ok a) (w : World) :
    ((Instr.findKey k (enc a) es.toList).run P w = .ok none w /\ f a = none) \/ ∃ j e, (Instr.findKey k (enc a) es.toList).run P w = .ok (some (j, e.val)) w /\ es[j]? = some e /\ e.key = enc a /\ f a = some e.val := by
  obtain ⟨es', clock', he, hk, hnd, hf⟩ := h;cases he;obtain ⟨l, hl⟩ := K.lit a ha;rcases K.keyed.find w hl es.toList (fun e he => by obtain ⟨b, hb, e1⟩ := hk e he; rw [e1]; exact K.lit b hb) with ⟨h1, h2⟩ | ⟨j, e, h1, h2, h3⟩
  · refine .inl ⟨h1, ?_⟩
    cases hfa : f a with
    | none => rfl
    | some v =>
      obtain ⟨e, he, e1, _⟩ := (hf a v).1 hfa;exact absurd e1 (h2 e he)
  · refine .inr ⟨j, e, h1, by simpa using h2, h3, (hf a e.val).2 ⟨e, List.mem_of_getElem? h2, h3, rfl⟩⟩
theorem KaT.look (h : KaT enc Ok o f) (K : MKey P k enc Ok) (ht : P.underlying t = some (.map k e)) {z : Value} (hz : ∀ w : World, (zeroValue e).run P w = .ok z w) (hb : w.heap[g]? = some o) {a : κ} (ha : Ok a) (co : Bool) :
    (Instr.lookup t (.map (some g)) (enc a) co).run P w = .ok (if co then .tuple #[(f a).getD z, .bool (f a).isSome] else (f a).getD z) w := by
  obtain ⟨es, clock, he, _⟩ := id h;subst he;obtain ⟨l, hl⟩ := K.lit a ha;have hck := K.keyed.check w es.isEmpty hl;have hgo : (getObj g).run P w = .ok (.map es clock) w := by simp [getObj, Sem.run, hb]
  unfold Instr.lookup;rcases h.find K ha w with ⟨h1, h2⟩ | ⟨j, e', h1, h2, h3, h4⟩
  · simp [run_underlying ht, hgo, hck, h1, hz, h2]
  · simp [run_underlying ht, hgo, hck, h1, h4]
theorem KaT.put (h : KaT enc Ok o f) (K : MKey P k enc Ok) (ht : P.underlying t = some (.map k e)) (hb : w.heap[g]? = some o) {a : κ} (ha : Ok a) (v : Value) [DecidableEq κ] :
    ∃ o' w', (Instr.mapUpdate t (.map (some g)) (enc a) v).run P w = .ok () w' /\ w'.heap[g]? = some o' /\ KaT enc Ok o' (fun x => if x = a then some v else f x) /\ w.grownBy w' (some g) := by
  obtain ⟨es, clock, he, hk, hnd, hf⟩ := id h;subst he;obtain ⟨l, hl⟩ := K.lit a ha;have hck := K.keyed.check w false hl;have hst := K.keyed.stays w hl;have hgo : (getObj g).run P w = .ok (.map es clock) w := by simp [getObj, Sem.run, hb]
  have hlt : g < w.heap.size := (Array.getElem?_eq_some_iff.1 hb).1;have hso : ∀ ob : Obj, (setObj g ob).run P w = .ok () (w.putObj g ob) := fun ob => by simp [setObj, Sem.run, hb, World.putObj]
  rcases h.find K ha w with ⟨h1, h2⟩ | ⟨j, e', h1, h2, h3, h4⟩
  · refine ⟨.map (es.push ⟨enc a, v, clock⟩) (clock + 1), w.putObj g (.map (es.push ⟨enc a, v, clock⟩) (clock + 1)), ?_, ?_, ⟨_, _, rfl, ?_, ?_, ?_⟩, grownBy_putObj' w g _⟩
    · unfold Instr.mapUpdate;simp [run_underlying ht, hgo, hck, h1, hso]
    · simp [World.putObj, hlt]
    · intro e1 he1;simp only [Array.toList_push, List.mem_append, List.mem_singleton] at he1;rcases he1 with he1 | rfl
      · exact hk e1 he1
      · exact ⟨a, ha, rfl⟩
    · simp only [Array.toList_push, List.map_append, List.map_cons, List.map_nil];refine List.nodup_append.2 ⟨hnd, List.pairwise_singleton _ _, fun x hx y hy e1 => ?_⟩;rw [List.mem_singleton] at hy;obtain ⟨e2, he2, e3⟩ := List.mem_map.1 hx;have := (hf a e2.val).2 ⟨e2, he2, by rw [e3, e1, hy], rfl⟩;rw [h2] at this;cases this
    · intro x u;simp only [Array.toList_push, List.mem_append, List.mem_singleton];show (if x = a then some v else f x) = some u ↔ _;by_cases e1 : x = a
      · subst e1;rw [if_pos rfl];constructor
        · intro hu;cases hu;exact ⟨_, .inr rfl, rfl, rfl⟩
        · rintro ⟨e2, he2 | rfl, e3, e4⟩
          · have := (hf x e2.val).2 ⟨e2, he2, e3, rfl⟩;rw [h2] at this;cases this
          · rw [<- e4]
      · rw [if_neg e1, hf];constructor
        · rintro ⟨e2, he2, e3⟩;exact ⟨e2, .inl he2, e3⟩
        · rintro ⟨e2, he2 | rfl, e3⟩
          · exact ⟨e2, he2, e3⟩
          · exact absurd (K.inj _ _ e3.1).symm e1
  · have hjl : j < es.size := (Array.getElem?_eq_some_iff.1 h2).1;refine ⟨.map (es.modify j fun e => { key := enc a, val := v, born := e.born }) clock, w.putObj g (.map (es.modify j fun e => { key := enc a, val := v, born := e.born }) clock), ?_, ?_, ⟨_, _, rfl, ?_, ?_, ?_⟩, grownBy_putObj' w g _⟩
    · unfold Instr.mapUpdate;simp [run_underlying ht, hgo, hck, h1, h2, h3, hst, hso]
    · simp [World.putObj, hlt]
    all_goals
      have hm : (es.modify j fun e => { key := enc a, val := v, born := e.born }).toList = es.toList.set j ⟨enc a, v, e'.born⟩ := by
        refine List.ext_getElem? fun i => ?_;rw [Array.getElem?_toList, Array.getElem?_modify, List.getElem?_set];by_cases e1 : j = i
        · subst e1;rw [if_pos rfl, if_pos rfl, h2, if_pos (by simpa using hjl)]
          rfl
        · rw [if_neg e1, if_neg e1, Array.getElem?_toList]
      rw [hm]
    · intro e1 he1;rcases List.mem_or_eq_of_mem_set he1 with h5 | rfl
      · exact hk e1 h5
      · exact ⟨a, ha, rfl⟩
    · have : (es.toList.set j ⟨enc a, v, e'.born⟩).map (·.key) = es.toList.map (·.key) := by
        rw [List.map_set];refine List.ext_getElem? fun i => ?_;rw [List.getElem?_set];by_cases e1 : j = i
        · subst e1;rw [if_pos rfl, if_pos (by simpa using hjl), List.getElem?_map, Array.getElem?_toList, h2];simp [h3]
        · rw [if_neg e1]
      rw [this];exact hnd
    · have hdist : ∀ i e1, es.toList[i]? = some e1 -> e1.key = enc a -> i = j := fun i e1 hi hk1 => by
        have hi' : i < (es.toList.map (·.key)).length := by rw [List.length_map]; exact (List.getElem?_eq_some_iff.1 hi).1
        refine (List.getElem?_inj hi' hnd).1 ?_;rw [List.getElem?_map, List.getElem?_map, hi, Array.getElem?_toList, h2];simp [hk1, h3]
      intro x u;show (if x = a then some v else f x) = some u ↔ _;by_cases e1 : x = a
      · subst e1;rw [if_pos rfl];constructor
        · intro hu;cases hu;exact ⟨⟨enc x, v, e'.born⟩, List.mem_set (by rw [Array.length_toList]; exact hjl) _, rfl, rfl⟩
        · rintro ⟨e2, he2, e3, e4⟩;obtain ⟨i, hi⟩ := List.getElem?_of_mem he2;rw [List.getElem?_set] at hi;by_cases e5 : j = i
          · rw [if_pos e5, if_pos (by rw [Array.length_toList]; exact hjl)] at hi;cases hi;rw [<- e4]
          · rw [if_neg e5] at hi;exact absurd (hdist i e2 hi e3).symm e5
      · rw [if_neg e1, hf];constructor
        · rintro ⟨e2, he2, e3, e4⟩;obtain ⟨i, hi⟩ := List.getElem?_of_mem he2
          have hij : j ≠ i := fun hh => by
            subst hh;rw [Array.getElem?_toList, h2] at hi;cases hi;rw [h3] at e3;exact e1 (K.inj _ _ e3).symm
          exact ⟨e2, List.mem_of_getElem? (i := i) (by rw [List.getElem?_set, if_neg hij]; exact hi), e3, e4⟩
        · rintro ⟨e2, he2, e3, e4⟩;rcases List.mem_or_eq_of_mem_set he2 with h5 | rfl
          · exact ⟨e2, h5, e3, e4⟩
          · exact absurd (K.inj _ _ e3).symm e1
end
section
variable {P : Program} {N : Fr} {Q : Exit -> Act -> World -> Prop} {E : Env} {w0 : Base} {L : List Pc} {ops : Array Oper} {l : List Oper} {o : Oper} {κ : Type} {enc : κ -> Value} {Ok : κ -> Prop} {t k e : TypeId}
theorem KcF {x y : Operand} {g i : Nat} {ob : Obj} {f : κ -> Option Value} {a : κ} {z : Value} (ho : o.op = .lookup t x y false) (hx : ev E x = some (.map (some g))) (hy : ev E y = some (enc a)) (K : MKey P k enc Ok) (ht : P.underlying t = some (.map k e)) (hz : ∀ w : World, (zeroValue e).run P w = .ok z w) (hk : L[i]? = some (.oth g ob)) (hm : KaT enc Ok ob f) (ha : Ok a) {v : Value} (hv : (f a).getD z = v) :
    KB P N o E (Pm w0 L) v := fun ac w hac hw => by
  unfold execOp; rw [ho];subst hv;simp [hac.eval hx, hac.eval hy, hm.look K ht hz (hw.at_ hk).1 ha false]
theorem TL.mapsetG {x y z : Operand} {g i : Nat} {ob : Obj} {f : κ -> Option Value} {a : κ} {v : Value} [DecidableEq κ] (hg : o.guard = none) (hd : o.dst = none) (ho : o.op = .mapUpdate t x y z) (hx : ev E x = some (.map (some g))) (hy : ev E y = some (enc a)) (hz : ev E z = some v)
    (K : MKey P k enc Ok) (ht : P.underlying t = some (.map k e)) (hk : L[i]? = some (.oth g ob)) (hnew : Kc2 w0 g) (hm : KaT enc Ok ob f) (ha : Ok a)
    (h : ∀ ob', KaT enc Ok ob' (fun x => if x = a then some v else f x) -> TL P N ops Q l E (Pm w0 (L.set i (.oth g ob')))) : TL P N ops Q (o :: l) E (Pm w0 L) := fun ac w hac hw =>
  wpList_plain hg fun K' hK => by
    obtain ⟨ob', w', hrun, hob, hm', hgr⟩ := hm.put K ht (hw.at_ hk).1 ha v
    have hex : (execOp ac.eval o).run P w = .ok .skip w' := by
      unfold execOp; rw [ho];simp only [hac.eval hx, hac.eval hy, hac.eval hz, Sem.run_bind, hrun, Result.andThen_ok, Sem.run_pure]
    unfold Oper.wp;rw [hex];show K' (ac.put o.dst undef) _;rw [hd];exact hK _ _ (h ob' hm' _ _ (hac.put0 _) (hw.turnO hk hnew hgr hob))
end
theorem Ka3 {P : Program} {k : TypeId} {q : IntKind} (hk : P.underlying k = some (.int q)) : MKey P k (Value.int q) (fun a => (Lit.int q a).wf = true) :=
  ⟨Maps.int_keyed hk, fun a ha => ⟨_, Maps.keyOf_int_mk hk ha⟩, fun a b h => by cases h; rfl⟩
def Kbb (n k : Nat) : Array Bool := ((List.range n).map fun i => decide (i < k)).toArray
theorem Kg6 (n k : Nat) : (Kbb n k).setIfInBounds k true = Kbb n (k + 1) := by
  apply Array.ext
  · simp [Kbb]
  · intro i h1 h2;simp only [Kbb, Array.getElem_setIfInBounds, List.getElem_toArray, List.getElem_map, List.getElem_range];by_cases h : k = i
    · subst h; simp
    · have : i < k ↔ i < k + 1 := by omega
      simp [h, this]
theorem Knb (n : Nat) : Array.replicate n false = Kbb n 0 := by
  apply Array.ext
  · simp [Kbb]
  · intro i h1 h2;simp [Kbb]
def Kb8 (d : Nat) : List Oper -> Nat -> Option Nat
  | [], _ => none
  | o :: l, k => match o.dst with
    | some x => bif Nat.beq x d then some k else Kb8 d l (k + 1)
    | none => Kb8 d l (k + 1)
def Kfn : List Oper -> Bool
  | [] => true
  | o :: l => (match o.dst with
    | some x => (Kb8 x l 0).isNone
    | none => true) && Kfn l
def KfN (o : Oper) (k : Nat) : Bool := o.after.toList.any fun e => Region.binds .any e && Nat.beq e.on k
def Ke0 (all : List Oper) (ops : Array Oper) : List Oper -> Nat -> Bool
  | [], _ => true
  | o :: l, j => (o.looksAt ops).all (fun d => match Kb8 d all 0 with
      | none => true
      | some k => Nat.blt k j && KfN o k) && o.after.toList.all (fun e => !Region.binds .any e || Nat.blt e.on j) && Ke0 all ops l (j + 1)
def Kdm (l : List Oper) : Bool := Region.noSelect l.toArray && Kfn l && Ke0 l l.toArray l 0
theorem Ke7 {d : Nat} : ∀ {l : List Oper} {k : Nat}, Kb8 d l k = none -> ∀ o ∈ l, o.dst ≠ some d
  | [], _, _, o, ho => absurd ho List.not_mem_nil
  | x :: l, k, h, o, ho => by
    unfold Kb8 at h
    cases hx : x.dst with
    | none =>
      rw [hx] at h;rcases List.mem_cons.1 ho with rfl | ho
      · rw [hx]; simp
      · exact Ke7 h o ho
    | some y =>
      rw [hx] at h
      cases hb : Nat.beq y d with
      | true => simp only [hb, cond_true] at h; cases h
      | false =>
        simp only [hb, cond_false] at h;rcases List.mem_cons.1 ho with rfl | ho
        · rw [hx];intro e;cases e;rw [Nat.beq_refl] at hb;cases hb
        · exact Ke7 h o ho
theorem KgV {d : Nat} : ∀ {l : List Oper} {k q : Nat}, Kb8 d l k = some q -> ∃ i o, q = k + i /\ l[i]? = some o /\ o.dst = some d
  | [], _, _, h => by cases h
  | x :: l, k, q, h => by
    unfold Kb8 at h
    cases hx : x.dst with
    | none =>
      rw [hx] at h;obtain ⟨i, o, h1, h2, h3⟩ := KgV h;exact ⟨i + 1, o, by omega, h2, h3⟩
    | some y =>
      rw [hx] at h
      cases hb : Nat.beq y d with
      | true =>
        simp only [hb, cond_true] at h;cases h;exact ⟨0, x, rfl, rfl, by rw [hx, Nat.eq_of_beq_eq_true hb]⟩
      | false =>
        simp only [hb, cond_false] at h;obtain ⟨i, o, h1, h2, h3⟩ := KgV h;exact ⟨i + 1, o, by omega, h2, h3⟩
theorem Kgg : ∀ {l : List Oper} (h : Kfn l = true) {i j : Nat} {x y : Oper} {d : Nat}, l[i]? = some x -> l[j]? = some y -> x.dst = some d -> y.dst = some d -> i = j
  | [], _, _, _, _, _, _, hi, _, _, _ => by cases hi
  | o :: l, h, i, j, x, y, d, hi, hj, hx, hy => by
    simp only [Kfn, Bool.and_eq_true] at h
    have h0 : ∀ {z : Oper}, o.dst = some d -> z ∈ l -> z.dst ≠ some d := fun {z} ho hz => by
      have h1 := h.1;rw [ho] at h1;exact Ke7 (Option.isNone_iff_eq_none.1 h1) z hz
    cases i with
    | zero =>
      cases j with
      | zero => rfl
      | succ j =>
        cases hi;exact absurd hy (h0 hx (List.mem_of_getElem? (by simpa using hj)))
    | succ i =>
      cases j with
      | zero =>
        cases hj;exact absurd hx (h0 hy (List.mem_of_getElem? (by simpa using hi)))
      | succ j => exact congrArg (· + 1) (Kgg h.2 (i := i) (j := j) (by simpa using hi) (by simpa using hj) hx hy)
theorem KeR {all : List Oper} {ops : Array Oper} : ∀ {l : List Oper} {j : Nat}, Ke0 all ops l j = true -> ∀ {i : Nat} {o : Oper}, l[i]? = some o ->
    (∀ d ∈ o.looksAt ops, ∀ k, Kb8 d all 0 = some k -> k < j + i /\ KfN o k = true) /\ (∀ e ∈ o.after.toList, Region.binds .any e = true -> e.on < j + i)
  | [], _, _, _, _, h => by cases h
  | x :: l, j, h, i, o, hi => by
    simp only [Ke0, Bool.and_eq_true] at h
    cases i with
    | zero =>
      cases hi;refine ⟨fun d hd k hk => ?_, fun e he hb => ?_⟩
      · have := List.all_eq_true.1 h.1.1 d hd;rw [hk] at this;simp only [Bool.and_eq_true, Nat.blt_eq] at this;exact ⟨by omega, this.2⟩
      · have := List.all_eq_true.1 h.1.2 e he;simp only [hb, Bool.not_true, Bool.false_or, Nat.blt_eq] at this;omega
    | succ i =>
      have := KeR h.2 (i := i) (o := o) (by simpa using hi);exact ⟨fun d hd k hk => by have h2 := this.1 d hd k hk; exact ⟨by omega, h2.2⟩, fun e he hb => by have h2 := this.2 e he hb; omega⟩
theorem Khi {n k i : Nat} {b : Bool} (hi : i < n) : (Kbb n k).getD i b = decide (i < k) := by
  simp [Kbb, Array.getD, hi]
theorem KoH {l : List Oper} (h : Kdm l = true) {k : Nat} (hk : k < l.length) : (Region.ready .any l.toArray (Kbb l.length k)).contains k = true := by
  simp only [Kdm, Bool.and_eq_true] at h;rw [List.contains_iff_mem];unfold Region.ready;rw [List.mem_filter];refine ⟨List.mem_range.2 (by simpa using hk), ?_⟩;obtain ⟨o, ho⟩ : ∃ o, l[k]? = some o := ⟨_, List.getElem?_eq_getElem hk⟩;have := (KeR h.2 ho).2;rw [Khi hk];simp only [Nat.lt_irrefl, decide_false, Bool.not_false, Bool.true_and];rw [List.getElem?_toArray, ho];simp only [Option.map_some, Option.getD_some];rw [<- Array.all_toList, List.all_eq_true];intro e he
  cases hb : Region.binds .any e with
  | false => rfl
  | true =>
    have h2 := this e he hb;rw [Khi (by omega)];simp; omega
theorem Knq {l : List Oper} (h : Kdm l = true) {k : Nat} (hk : k < l.length) : Region.free .any l.toArray (Kbb l.length k) k = true := by
  simp only [Kdm, Bool.and_eq_true] at h;obtain ⟨o, ho⟩ : ∃ o, l[k]? = some o := ⟨_, List.getElem?_eq_getElem hk⟩;unfold Region.free;rw [List.getElem?_toArray, ho];simp only [List.all_eq_true, List.mem_range];intro j hj;have hj' : j < l.length := by simpa using hj
  obtain ⟨oj, hoj⟩ : ∃ o, l[j]? = some o := ⟨_, List.getElem?_eq_getElem hj'⟩;by_cases e : j = k
  · simp [e]
  by_cases hlt : j < k
  · rw [Khi hj']; simp [hlt]
  rw [List.getElem?_toArray, hoj];simp only [Bool.or_eq_true];refine .inr ?_
  have sl : ∀ {d : Nat} {i : Nat} {x : Oper}, l[i]? = some x -> x.dst = some d -> Kb8 d l 0 = some i := fun {d i x} hi hx => by
    cases hs : Kb8 d l 0 with
    | none => exact absurd hx (Ke7 hs x (List.mem_of_getElem? hi))
    | some q =>
      obtain ⟨i', o', h1, h2, h3⟩ := KgV hs;rw [h1, Nat.zero_add, Kgg h.1.2 h2 hi h3 hx]
  by_cases hw : KfN oj k = true
  · refine .inl ?_;unfold KfN at hw;rw [<- Array.any_toList];rw [List.any_eq_true] at hw ⊢;obtain ⟨e, he, hb⟩ := hw;refine ⟨e, he, ?_⟩;simp only [Bool.and_eq_true] at hb ⊢;exact ⟨hb.1, by rw [Nat.eq_of_beq_eq_true hb.2]; exact beq_self_eq_true _⟩
  · refine .inr ?_;unfold Oper.apart;rw [Bool.and_eq_true];constructor
    · cases hd : o.dst with
      | none => rfl
      | some d =>
        simp only [Bool.and_eq_true, Bool.not_eq_true', bne_iff_ne, ne_eq];refine ⟨?_, fun h2 => e (Kgg h.1.2 hoj ho h2 hd)⟩
        cases hc : (oj.looksAt l.toArray).contains d with
        | false => rfl
        | true =>
          have := ((KeR h.2 hoj).1 d (List.contains_iff_mem.1 hc) k (sl ho hd)).2;exact absurd this hw
    · cases hd : oj.dst with
      | none => rfl
      | some d =>
        simp only [Bool.not_eq_true']
        cases hc : (o.looksAt l.toArray).contains d with
        | false => rfl
        | true =>
          have := ((KeR h.2 ho).1 d (List.contains_iff_mem.1 hc) j (sl hoj hd)).1;omega
def KcU (ops : Array Oper) (n : Nat) : Nat -> Nat -> Bool
  | 0, _ => true
  | m + 1, k => (Region.ready .any ops (Kbb n k)).contains k && Region.free .any ops (Kbb n k) k && KcU ops n m (k + 1)
def TV (P : Program) (N : Fr) (ops : Array Oper) (S : World -> Prop) (Q : Exit -> Act -> World -> Prop) (f n k : Nat) (l : List Oper) (E : Env) (I : World -> Prop) : Prop :=
  (∀ w, I w -> S w) -> Region.noSelect ops = true -> (∀ (j : Nat) (o : Oper), l[j]? = some o -> ops[k + j]? = some o) -> KcU ops n l.length k = true -> TH P N ops S Q (f + l.length) (Kbb n k) E I
section
variable {P : Program} {N : Fr} {Q : Exit -> Act -> World -> Prop} {E : Env} {I S : World -> Prop} {ops : Array Oper} {f n k : Nat} {l : List Oper} {o : Oper}
theorem TV.val {d : Nat} {v : Value} (hg : o.guard = none) (hd : o.dst = some d) (hN : Nat.blt d N.n = true) (hv : KB P N o E S v) (h : TV P N ops S Q f n (k + 1) l ((d, v) :: E) I) : TV P N ops S Q f n k (o :: l) E I := fun hS hs hl hp => by
  simp only [List.length_cons, KcU, Bool.and_eq_true] at hp;have hi : ops[k]? = some o := by have := hl 0 o rfl; simpa using this
  refine TH.take (f := f + l.length) k hi hs hp.1.2 hp.1.1 (Kg6 n k) hg hd hN hv hS ?_;exact h hS hs (fun j o' ho' => by rw [Nat.add_assoc, Nat.add_comm 1 j]; exact hl (j + 1) o' ho') hp.2
theorem TV.call {d : Nat} {r : Value} {g : FuncId} {fn : Func} {xs : List Operand} {ts : Array TypeId} {vs : List Value} (hg : o.guard = none) (hd : o.dst = some d) (hN : Nat.blt d N.n = true) (ho : o.op = .call { callee := .value (.func g), args := xs.toArray, argTypes := ts }) (hx : evs E xs = some vs) (hfn : P.funcs[g]? = some fn) (hn : (fn.name == "runtime.NumGoroutine") = false) (hb : fn.body.isNone = false)
    (hc : ∀ w, S w -> Calls P g vs.toArray w fun e w' => e = .returned r /\ w' = w) (h : TV P N ops S Q f n (k + 1) l ((d, r) :: E) I) : TV P N ops S Q f n k (o :: l) E I := fun hS hs hl hp => by
  simp only [List.length_cons, KcU, Bool.and_eq_true] at hp;have hi : ops[k]? = some o := by have := hl 0 o rfl; simpa using this
  refine TH.takeC (f := f + l.length) k hi hs hp.1.2 hp.1.1 (Kg6 n k) hg hd hN ho hx hfn hn hb hc hS ?_;exact h hS hs (fun j o' ho' => by rw [Nat.add_assoc, Nat.add_comm 1 j]; exact hl (j + 1) o' ho') hp.2
theorem TV.end_ {ls : Array Bool} (hls : Kbb n k = ls) (h : TH P N ops S Q f ls E I) : TV P N ops S Q f n k [] E I := fun _ _ _ _ => by subst hls; exact h
theorem TC.pre {id : Nat} (m : Nat) (n f : Nat) (S : World -> Prop) (hm : P.follows .mixedOrders = true) (hn : l.toArray.size = n) (hI : ∀ w, I w -> I { w with drawn := w.drawn + 1 }) (hb : Kdm l = true) (hf : f + m = n) (hS : ∀ w, I w -> S w)
    (h : TV P N l.toArray S Q f n 0 (l.take m) E I) : TC P N Q (.region id l.toArray true) E I := by
  have hlen : (l.take m).length = m := by rw [List.length_take]; simp at hn; omega
  have hs : Region.noSelect l.toArray = true := by simp only [Kdm, Bool.and_eq_true] at hb; exact hb.1.1
  have hnl : l.length = n := by simpa using hn
  have hp : KcU l.toArray n m 0 = true := by
    have key : ∀ (q k : Nat), k + q <= l.length -> KcU l.toArray l.length q k = true := by
      intro q
      induction q with
      | zero => intro k _; rfl
      | succ q ih =>
        intro k hk;simp only [KcU, Bool.and_eq_true];exact ⟨⟨KoH hb (by omega), Knq hb (by omega)⟩, ih (k + 1) (by omega)⟩
    rw [<- hnl];exact key m 0 (by omega)
  refine TC.held (ls := Kbb n 0) (n := n) S hm hn (Knb n) hI ?_
  have := h hS hs (fun j o ho => by
    have hj : j < m := by have := (List.getElem?_eq_some_iff.1 ho).1; omega
    rw [List.getElem?_take_of_lt hj] at ho;rw [Nat.zero_add, List.getElem?_toArray]; exact ho) (by rw [hlen]; exact hp)
  rw [hlen, hf] at this;exact this
end
section
variable {P : Program}
theorem KoS (w : World) (dT sT ty elem : TypeId) (g off dLen dCap : Nat) (a : Addr) (sLen sCap size : Nat) (cur : Array Value) (t : TypeId) (cs : List Value) (hu : P.underlying dT = some (.slice elem)) (hs : ∀ w : World, (sizeOf elem).run P w = .ok size w)
    (hg : w.heap[g]? = some (.cells cur t (0, 0))) (hn : cs.length = Nat.min sLen dLen * size) (hsrc : ∀ j v, cs[j]? = some v -> w.cell? (a.add j) = some v) (hfit : off + cs.length <= cur.size) (h1 : ∀ v ∈ cs, v.oneCell' = true) :
    (Builtin.copy_ #[dT, sT] ty #[.slice (some ⟨g, off, none⟩) dLen dCap, .slice (some a) sLen sCap]).run P w =
      .ok (goInt (Nat.min sLen dLen)) (w.setRow g (cur.toList.take off ++ cs ++ cur.toList.drop (off + cs.length)).toArray) := by
  have hfo := run_firstCells_some (P := P) w size (Nat.min sLen dLen) a sLen sCap cs hn hsrc;have hst := run_storeCells_at P g off t cs 0 cur w hg (by simpa using hfit) h1;simp only [Nat.add_zero] at hst;have hmin : Nat.min sLen dLen = min sLen dLen := rfl;rw [hmin] at hfo ⊢;simp [Builtin.copy_, run_underlying hu, Builtin.lenOf, hs, hfo, hst]
variable {N : Fr} {Q : Exit -> Act -> World -> Prop} {E : Env} {w0 : Base} {L : List Pc} {ops : Array Oper} {l : List Oper} {o : Oper}
theorem TL.copyRow {d k n c g off dl dc sl sc size : Nat} {s x : Operand} {t u e : TypeId} {ad : Addr} {xs cs xs' : List Value} (hg : o.guard = none) (hd : o.dst = some d) (hN : Nat.blt d N.n = true)
    (ho : o.op = .call { callee := .builtin .copy, args := #[s, x], argTypes := #[t, u] }) (ht : P.underlying t = some (.slice e)) (hz : ∀ w : World, (sizeOf e).run P w = .ok size w) (hs : ev E s = some (.slice (some ⟨g, off, none⟩) dl dc)) (hx : ev E x = some (.slice (some ad) sl sc))
    (hk : L[k]? = some (.row (.slice (some ⟨g, 0, none⟩) n c) e size n xs)) (hsrc : ∀ w, Pm w0 L w -> ∀ j v, cs[j]? = some v -> w.cell? (ad.add j) = some v) {m : Nat} (hm : Nat.min sl dl = m) (hn : cs.length = m * size) (hl : off + cs.length <= xs.length) (h1 : ∀ v ∈ cs, v.oneCell' = true)
    (hL : xs.take off ++ cs ++ xs.drop (off + cs.length) = xs')
    (h : TL P N ops Q l ((d, .int .i64 ((m : Nat) : Int)) :: E) (Pm w0 (L.set k (.row (.slice (some ⟨g, 0, none⟩) n c) e size n xs')))) : TL P N ops Q (o :: l) E (Pm w0 L) := by
  subst hL hm;refine TL.run (α := Unit) (r := fun _ => .int .i64 ((Nat.min sl dl : Nat) : Int)) (I' := fun _ => Pm w0 (L.set k (.row (.slice (some ⟨g, 0, none⟩) n c) e size n (xs.take off ++ cs ++ xs.drop (off + cs.length))))) hg hd hN (fun a w ha hw => ?_) (fun _ => h);obtain ⟨cur, hcur, hfit, hown⟩ := KfD (hw.at_ hk) hl;have hrun := KoS (P := P) w t u o.type e g off dl dc ad sl sc size cur e cs ht hz hcur hn (hsrc w hw) hfit h1;refine ⟨(), _, ?_, hw.turn hk (Kd2 _ _) hown (fun g' hg' => .inl hg') (fun k o e => by cases e)⟩;unfold execOp; rw [ho];simp only [resolve, invoke, builtin, Sem.run_bind, Sem.run_pure, Result.andThen_ok, List.map_toArray, List.map_cons, List.map_nil, ha.eval hs, ha.eval hx, hrun]
  rfl
def KaZ {α : Type} (xs : List α) (k : Nat) : List α := xs.take (k + 1) ++ (xs.drop k).take (xs.length - (k + 1))
theorem KhX {α : Type} (xs : List α) (k : Nat) (hk : k < xs.length) : (KaZ xs k).length = xs.length := by
  simp only [KaZ, List.length_append, List.length_take, List.length_drop]; omega
theorem Kfg {α : Type} (o : List α) (y x : α) (k : Nat) (hk : k <= o.length) : (KaZ (o ++ [y]) k).set k x = o.take k ++ x :: o.drop k := by
  unfold KaZ
  have e1 : (o ++ [y]).take (k + 1) = o.take k ++ [((o ++ [y])[k]?).getD y] := by
    rw [List.take_add_one, List.take_append_of_le_length hk];have : k < (o ++ [y]).length := by simp; omega
    rw [List.getElem?_eq_getElem this]
    rfl
  have e2 : ((o ++ [y]).drop k).take ((o ++ [y]).length - (k + 1)) = o.drop k := by
    rw [List.drop_append_of_le_length hk, List.length_append, List.length_singleton, Nat.add_sub_add_right, List.take_append_of_le_length (by simp), List.take_of_length_le (by simp)]
  have e3 : (o.take k).length = k := by rw [List.length_take]; omega
  rw [e1, e2, List.append_assoc, List.set_append_right _ _ (by omega), e3, Nat.sub_self]
  rfl
theorem Kka (n k : Nat) : Nat.min (n - k) (n - (k + 1)) = n - (k + 1) := Nat.min_eq_right (by omega)
theorem TL.shiftF {α : Type} {cc : α -> List Value} {size : Nat} (K : Cel cc size) {d kk k n c g : Nat} {s x : Operand} {t u e : TypeId} {xs : List α} (hg : o.guard = none) (hd : o.dst = some d) (hN : Nat.blt d N.n = true)
    (ho : o.op = .call { callee := .builtin .copy, args := #[s, x], argTypes := #[t, u] }) (ht : P.underlying t = some (.slice e)) (hz : ∀ w : World, (sizeOf e).run P w = .ok size w)
    (hs : ev E s = some (.slice (if c = k + 1 then some ⟨g, 0, none⟩ else (some (⟨g, 0, none⟩ : Addr)).map (·.add ((k + 1) * size))) (n - (k + 1)) (c - (k + 1)))) (hx : ev E x = some (.slice (some ⟨g, k * size, none⟩) (n - k) (c - k)))
    (hk : L[kk]? = some (.row (.slice (some ⟨g, 0, none⟩) n c) e size n (Ka cc xs))) (hn : xs.length = n) (hq : k < n) (hc : n <= c)
    (h : TL P N ops Q l ((d, .int .i64 ((n - (k + 1) : Nat) : Int)) :: E) (Pm w0 (L.set kk (.row (.slice (some ⟨g, 0, none⟩) n c) e size n (Ka cc (KaZ xs k)))))) : TL P N ops Q (o :: l) E (Pm w0 L) := by
  subst hn;have hcs : (Ka cc ((xs.drop k).take (xs.length - (k + 1)))).length = (xs.length - (k + 1)) * size := by rw [Kbk K, List.length_take, List.length_drop, Nat.min_eq_left (by omega)]
  have hlen : (Ka cc xs).length = xs.length * size := Kbk K xs;have hsz : (k + 1) * size <= xs.length * size := Nat.mul_le_mul_right _ (by omega);have hsum : (k + 1) * size + (xs.length - (k + 1)) * size = xs.length * size := by rw [<- Nat.add_mul]; congr 1; omega
  have hsrc : ∀ w, Pm w0 L w -> ∀ j v, (Ka cc ((xs.drop k).take (xs.length - (k + 1))))[j]? = some v -> w.cell? ((⟨g, k * size, none⟩ : Addr).add j) = some v := fun w hw j v hj => by
    have e1 : (⟨g, k * size, none⟩ : Addr).add j = ⟨g, k * size + j, none⟩ := by unfold Addr.add; split <;> simp_all
    rw [e1];have hjl := (List.getElem?_eq_some_iff.1 hj).1;rw [hcs] at hjl;refine KcK hw hk ?_;rw [<- KdN K, List.getElem?_take_of_lt hjl, <- KoK K, List.getElem?_drop] at hj;exact hj
  by_cases e : c = k + 1
  · have hnk : xs.length = k + 1 := by omega
    rw [if_pos e] at hs;refine TL.copyRow (cs := Ka cc ((xs.drop k).take (xs.length - (k + 1)))) (m := xs.length - (k + 1)) hg hd hN ho ht hz hs hx hk hsrc (Kka _ _) hcs (by rw [hcs, hlen]; omega) (Kaa K _) (xs' := Ka cc (KaZ xs k)) ?_ h;have e0 : xs.length - (k + 1) = 0 := by omega
    have e2 : KaZ xs k = xs := by unfold KaZ; rw [e0, List.take_zero, List.append_nil, List.take_of_length_le (by omega)]
    rw [e2, e0, List.take_zero];simp [Ka]
  · rw [if_neg e] at hs
    have e1 : (some (⟨g, 0, none⟩ : Addr)).map (·.add ((k + 1) * size)) = some ⟨g, (k + 1) * size, none⟩ := by
      show some ((⟨g, 0, none⟩ : Addr).add ((k + 1) * size)) = _
      congr 1
      unfold Addr.add; split <;> simp_all
    rw [e1] at hs;refine TL.copyRow (cs := Ka cc ((xs.drop k).take (xs.length - (k + 1)))) (m := xs.length - (k + 1)) hg hd hN ho ht hz hs hx hk hsrc (Kka _ _) hcs (by rw [hcs, hlen]; omega) (Kaa K _) (xs' := Ka cc (KaZ xs k)) ?_ h;have e3 : (Ka cc xs).drop ((k + 1) * size + (Ka cc ((xs.drop k).take (xs.length - (k + 1)))).length) = [] := List.drop_of_length_le (by rw [hcs, hsum, hlen]; exact Nat.le_refl _);rw [e3, List.append_nil, KdN K, <- Kao]
    rfl
end
abbrev Tt : Bool := true
abbrev Ff : Bool := false
section
variable {P : Program} {N : Fr} {Q : Exit -> Act -> World -> Prop} {E : Env} {ops : Array Oper} {l : List Oper} {o : Oper} {I : World -> Prop}
theorem TL.mv {x : Operand} {d : Nat} {v : Value} (h : TL P N ops Q l ((d, v) :: E) I) (hg : o.guard = none := by rfl) (hd : o.dst = some d := by rfl) (hN : Nat.blt d N.n = true := by rfl) (ho : o.op = .move x := by rfl) (hx : ev E x = some v := by rfl) : TL P N ops Q (o :: l) E I := TL.val hg hd hN (Kc ho hx) h
theorem TL.as_ {x : Operand} {d : Nat} {v : Value} (h : TL P N ops Q l ((d, v) :: E) I) (hg : o.guard = none := by rfl) (hd : o.dst = some d := by rfl) (hN : Nat.blt d N.n = true := by rfl) (ho : o.op = .assign x := by rfl) (hx : ev E x = some v := by rfl) : TL P N ops Q (o :: l) E I := TL.val hg hd hN (Kbv ho hx) h
theorem TL.pk {c x y : Operand} {b : Bool} {d : Nat} {v : Value} (h : TL P N ops Q l ((d, v) :: E) I) (hg : o.guard = none := by rfl) (hd : o.dst = some d := by rfl) (hN : Nat.blt d N.n = true := by rfl) (ho : o.op = .pick c x y := by rfl) (hc : ev E c = some (.bool b) := by rfl) (hx : (if b then ev E x else ev E y) = some v := by rfl) : TL P N ops Q (o :: l) E I := TL.val hg hd hN (KP ho hc hx) h
theorem TL.ex {x : Operand} {i : Nat} {vs : Array Value} {d : Nat} {v : Value} (h : TL P N ops Q l ((d, v) :: E) I) (hg : o.guard = none := by rfl) (hd : o.dst = some d := by rfl) (hN : Nat.blt d N.n = true := by rfl) (ho : o.op = .extract x i := by rfl) (hx : ev E x = some (.tuple vs) := by rfl) (hv : vs[i]? = some v := by rfl) : TL P N ops Q (o :: l) E I := TL.val hg hd hN (Ki4 ho hx hv) h
theorem TL.gu {j d : Nat} {b : Bool} (h : TL P N ops Q ({ o with guard := none } :: l) E I) (hg : o.guard = some (j, b) := by rfl) (hd : (ops[j]?).bind (·.dst) = some d := by rfl) (hE : look E d = some (.bool b) := by rfl) : TL P N ops Q (o :: l) E I := TL.on hg hd hE h
theorem TL.of {j d t : Nat} {b b' : Bool} (h : TL P N ops Q l ((t, undef) :: E) I) (hg : o.guard = some (j, b') := by rfl) (hd : (ops[j]?).bind (·.dst) = some d := by rfl) (hE : look E d = some (.bool b) := by rfl) (hne : (b == b') = false := by rfl) (ht : o.dst = some t := by rfl) (hN : Nat.blt t N.n = true := by rfl) : TL P N ops Q (o :: l) E I := TL.off hg hd hE hne ht hN h
end
section
variable {P : Program} {N : Fr} {ops : Array Oper} {S I : World -> Prop} {Q : Exit -> Act -> World -> Prop} {f : Nat} {listed : Array Bool} {E : Env}
theorem TH.tk {o : Oper} {d : Nat} {v : Value} {listed' : Array Bool} (i : Nat) (hi : ops[i]? = some o) (hg : o.guard = none) (hd : o.dst = some d) (hv : KB P N o E S v) (hS : ∀ w, I w -> S w) (h : TH P N ops S Q f listed' ((d, v) :: E) I)
    (hs : Region.noSelect ops = true := by kernel_rfl) (hf : Region.free .any ops listed i = true := by kernel_rfl) (hr : (Region.ready .any ops listed).contains i = true := by kernel_rfl) (hl : listed.setIfInBounds i true = listed' := by rfl) (hN : Nat.blt d N.n = true := by rfl) : TH P N ops S Q (f + 1) listed E I := TH.take i hi hs hf hr hl hg hd hN hv hS h
end
set_option linter.unusedVariables false
def Kd9 (N : Fr) (E : Env) (o : Oper) : Option Env :=
  match o.dst with
  | none => none
  | some d => match Nat.blt d N.n with
    | false => none
    | true => match o.op with
      | .move x => match ev E x with
        | some v => some ((d, v) :: E)
        | none => none
      | .assign x => match ev E x with
        | some v => some ((d, v) :: E)
        | none => none
      | .pick c x y => match ev E c with
        | some (.bool true) => match ev E x with
          | some v => some ((d, v) :: E)
          | none => none
        | some (.bool false) => match ev E y with
          | some v => some ((d, v) :: E)
          | none => none
        | _ => none
      | .extract x i => match ev E x with
        | some (.tuple vs) => match vs[i]? with
          | some v => some ((d, v) :: E)
          | none => none
        | _ => none
      | .unOp .not _ x => match ev E x with
        | some (.bool true) => some ((d, .bool false) :: E)
        | some (.bool false) => some ((d, .bool true) :: E)
        | _ => none
      | _ => none
def KgF (N : Fr) (ops : Array Oper) (E : Env) (o : Oper) : Option Env :=
  match o.guard with
  | none => Kd9 N E o
  | some (j, true) => match (ops[j]?).bind (·.dst) with
    | none => none
    | some d => match look E d with
      | some (.bool true) => Kd9 N E { o with guard := none }
      | some (.bool false) => match o.dst with
        | some t => match Nat.blt t N.n with
          | true => some ((t, undef) :: E)
          | false => none
        | none => none
      | _ => none
  | some (j, false) => match (ops[j]?).bind (·.dst) with
    | none => none
    | some d => match look E d with
      | some (.bool false) => Kd9 N E { o with guard := none }
      | some (.bool true) => match o.dst with
        | some t => match Nat.blt t N.n with
          | true => some ((t, undef) :: E)
          | false => none
        | none => none
      | _ => none
def Kd1 (N : Fr) (ops : Array Oper) : Nat -> Env -> List Oper -> Option (Env × List Oper)
  | 0, E, l => some (E, l)
  | _ + 1, _, [] => none
  | n + 1, E, o :: l => match KgF N ops E o with
    | some E' => Kd1 N ops n E' l
    | none => none
section
variable {P : Program} {N : Fr} {Q : Exit -> Act -> World -> Prop} {E E' : Env} {ops : Array Oper} {l l' : List Oper} {o : Oper} {I : World -> Prop}
theorem KgP (h : Kd9 N E o = some E') : ∃ d v, E' = (d, v) :: E /\ o.dst = some d /\ Nat.blt d N.n = true /\ ∀ (P : Program) (I : World -> Prop), KB P N o E I v := by
  unfold Kd9 at h;split at h
  · cases h
  · rename_i d hd;split at h
    · cases h
    · rename_i hN;split at h
      · rename_i x ho;split at h
        · rename_i v hv; cases h; exact ⟨d, v, rfl, hd, hN, fun P I => Kc ho hv⟩
        · cases h
      · rename_i x ho;split at h
        · rename_i v hv; cases h; exact ⟨d, v, rfl, hd, hN, fun P I => Kbv ho hv⟩
        · cases h
      · rename_i c x y ho;split at h
        · rename_i hc;split at h
          · rename_i v hv; cases h; exact ⟨d, v, rfl, hd, hN, fun P I => KP ho hc hv⟩
          · cases h
        · rename_i hc;split at h
          · rename_i v hv; cases h; exact ⟨d, v, rfl, hd, hN, fun P I => KP ho hc hv⟩
          · cases h
        · cases h
      · rename_i x i ho;split at h
        · rename_i vs hx;split at h
          · rename_i v hv; cases h; exact ⟨d, v, rfl, hd, hN, fun P I => Ki4 ho hx hv⟩
          · cases h
        · cases h
      · rename_i x ho;split at h
        · rename_i hx; cases h; exact ⟨d, _, rfl, hd, hN, fun P I => KQ ho hx⟩
        · rename_i hx; cases h; exact ⟨d, _, rfl, hd, hN, fun P I => KQ ho hx⟩
        · cases h
      · cases h
theorem KkF (h : KgF N ops E o = some E') : (∃ d v, E' = (d, v) :: E /\ o.guard = none /\ o.dst = some d /\ Nat.blt d N.n = true /\ ∀ (P : Program) (I : World -> Prop), KB P N o E I v) \/
    (∃ j d b, o.guard = some (j, b) /\ (ops[j]?).bind (·.dst) = some d /\ look E d = some (.bool b) /\ ∃ d v, E' = (d, v) :: E /\ o.dst = some d /\ Nat.blt d N.n = true /\ ∀ (P : Program) (I : World -> Prop), KB P N { o with guard := none } E I v) \/
    ∃ j d t b b', o.guard = some (j, b') /\ (ops[j]?).bind (·.dst) = some d /\ look E d = some (.bool b) /\ (b == b') = false /\ o.dst = some t /\ Nat.blt t N.n = true /\ E' = (t, undef) :: E := by
  unfold KgF at h;split at h
  · rename_i hg;obtain ⟨d, v, h1, h2, h3, h4⟩ := KgP h;exact .inl ⟨d, v, h1, hg, h2, h3, h4⟩
  · rename_i j hg;split at h
    · cases h
    · rename_i d hd;split at h
      · rename_i hE;exact .inr (.inl ⟨j, d, true, hg, hd, hE, KgP h⟩)
      · rename_i hE;split at h
        · rename_i t ht;split at h
          · rename_i hN; cases h; exact .inr (.inr ⟨j, d, t, false, true, hg, hd, hE, rfl, ht, hN, rfl⟩)
          · cases h
        · cases h
      · cases h
  · rename_i j hg;split at h
    · cases h
    · rename_i d hd;split at h
      · rename_i hE;exact .inr (.inl ⟨j, d, false, hg, hd, hE, KgP h⟩)
      · rename_i hE;split at h
        · rename_i t ht;split at h
          · rename_i hN; cases h; exact .inr (.inr ⟨j, d, t, true, false, hg, hd, hE, rfl, ht, hN, rfl⟩)
          · cases h
        · cases h
      · cases h
theorem TL.rn : ∀ (n : Nat) {E E' : Env} {l l' : List Oper} (_ : Kd1 N ops n E l = some (E', l')) (_ : TL P N ops Q l' E' I), TL P N ops Q l E I
  | 0, E, E', l, l', hr, h => by cases hr; exact h
  | n + 1, E, E', [], l', hr, h => by cases hr
  | n + 1, E, E', o :: l, l', hr, h => by
    unfold Kd1 at hr;split at hr
    · rename_i E1 h1;have h2 := TL.rn n hr h;rcases KkF h1 with ⟨d, v, rfl, hg, hd, hN, hv⟩ | ⟨j, d, b, hg, hd, hE, d', v, rfl, hd', hN, hv⟩ | ⟨j, d, t, b, b', hg, hd, hE, hne, ht, hN, rfl⟩
      · exact TL.val hg hd hN (hv P I) h2
      · exact TL.on hg hd hE (TL.val rfl hd' hN (hv P I) h2)
      · exact TL.off hg hd hE hne ht hN h2
    · cases hr
theorem TQ.rn {R : Act -> Prop} : ∀ (n : Nat) {E E' : Env} {l l' : List Oper} (_ : Kd1 N ops n E l = some (E', l')) (_ : TQ P N ops R l' E' I), TQ P N ops R l E I
  | 0, E, E', l, l', hr, h => by cases hr; exact h
  | n + 1, E, E', [], l', hr, h => by cases hr
  | n + 1, E, E', o :: l, l', hr, h => by
    unfold Kd1 at hr;split at hr
    · rename_i E1 h1;have h2 := TQ.rn n hr h;rcases KkF h1 with ⟨d, v, rfl, hg, hd, hN, hv⟩ | ⟨j, d, b, hg, hd, hE, d', v, rfl, hd', hN, hv⟩ | ⟨j, d, t, b, b', hg, hd, hE, hne, ht, hN, rfl⟩
      · exact TQ.val hg hd hN (hv P I) h2
      · exact TQ.on hg hd hE (TQ.val rfl hd' hN (hv P I) h2)
      · exact TQ.off hg hd hE hne ht hN h2
    · cases hr
end
abbrev FA (P : Program) (t : TypeId) (i k : Nat) : Prop := ∀ (g off : Nat) (w : World), (Instr.fieldAt t (.pointer (some ⟨g, off, none⟩)) i).run P w = .ok (.pointer (some ⟨g, off + k, none⟩)) w
section
variable {P : Program} {N : Fr} {Q : Exit -> Act -> World -> Prop} {E E' : Env} {ops : Array Oper} {l l' : List Oper} {o : Oper} {I : World -> Prop}
variable {x y : Code} {c : Operand} {id i : Nat}
theorem zE (h : TX N Q .normal E I) : TL P N ops Q [] E I := TL.end_ h
theorem zT (h : TC P N Q y E I) : TX N (Exit.then (y.wp P Q) Q) .normal E I := TX.then_ h
theorem zET (h : TC P N Q y E I) : TL P N ops (Exit.then (y.wp P Q) Q) [] E I := TL.end_ (TX.then_ h)
theorem zS (h : TC P N (Exit.then (y.wp P Q) Q) x E I) : TC P N Q (.seq x y) E I := TC.seq_ h
theorem zG (h : TL P N l.toArray Q l E I) : TC P N Q (.region id l.toArray false) E I := TC.region h
theorem zSG (h : TL P N l.toArray (Exit.then (y.wp P Q) Q) l E I) : TC P N Q (.seq (.region id l.toArray false) y) E I := TC.seq_ (TC.region h)
theorem zc (h : TC P N Q x E I) (hc : ev E c = some (.bool true) := by rfl) : TC P N Q (.cond c x y) E I := TC.condT hc h
theorem zd (h : TC P N Q y E I) (hc : ev E c = some (.bool false) := by rfl) : TC P N Q (.cond c x y) E I := TC.condF hc h
theorem zR {J : Act -> World -> Prop} (h : TX N Q .ret E I) : TX N (Exit.then J Q) .ret E I := TX.then_ret h
theorem zRR {J : Act -> World -> Prop} (h : TX N Q .ret E I) : TX N (Exit.inBlock id (Exit.then J Q)) .ret E I := TX.in_ret (TX.then_ret h)
theorem zX {J : Act -> World -> Prop} (h : TX N Q (.exit i) E I) : TX N (Exit.then J Q) (.exit i) E I := TX.then_exit h
theorem zN (h : TX N Q .normal E I) : TX N (Exit.inBlock id Q) .normal E I := TX.in_normal h
theorem zr (h : TX N Q .ret E I) : TC P N Q .ret E I := TC.ret_ h
theorem zk (h : TX N Q .normal E I) : TC P N Q .skip E I := TC.skip_ h
theorem zB {x : Code} (h : TC P N (Exit.inBlock id Q) x E I) : TC P N Q (.block id x) E I := TC.block h
theorem zO (h : TX N Q (.exit i) E I) (hne : Nat.beq i id = false := by rfl) : TX N (Exit.inBlock id Q) (.exit i) E I := TX.in_other hne h
theorem zM (h : TX N Q .normal E I) : TX N (Exit.inBlock id Q) (.exit id) E I := TX.in_same h
theorem zx (h : TX N Q (.exit id) E I) : TC P N Q (.exit id) E I := TC.exit_ h
theorem gF {t : TypeId} {x : Operand} {i g off k : Nat} (hv : ∀ (g off : Nat) (w : World), (Instr.fieldAt t (.pointer (some ⟨g, off, none⟩)) i).run P w = .ok (.pointer (some ⟨g, off + k, none⟩)) w) (ho : o.op = .fieldAddr t x i := by rfl) (hx : ev E x = some (.pointer (some ⟨g, off, none⟩)) := by rfl) : KB P N o E I (.pointer (some ⟨g, off + k, none⟩)) := Kpt ho hx fun w => hv g off w
theorem gL {w0 : Base} {L : List Pc} {t te : TypeId} {x : Operand} {g i : Nat} (k : Nat) {v : Value} {cs : List Value} (hag : ∀ w : World, (isAgg t).run P w = .ok false w) (ho : o.op = .load t x := by rfl) (hx : ev E x = some (.pointer (some ⟨g, i, none⟩)) := by rfl) (hk : L[k]? = some (.blk g te cs) := by rfl) (hi : cs[i]? = some v := by rfl) : KB P N o E (Pm w0 L) v := KhA ho hx hag hk hi
theorem gV {w0 : Base} {L : List Pc} {t te : TypeId} {x : Operand} {g i n : Nat} (k : Nat) (v : Value) {cs : List Value} (hag : ∀ w : World, (isAgg t).run P w = .ok true w) (hs : ∀ w : World, (sizeOf t).run P w = .ok n w) (ho : o.op = .load t x := by rfl) (hx : ev E x = some (.pointer (some ⟨g, i, none⟩)) := by rfl) (hk : L[k]? = some (.blk g te cs) := by rfl) (hi : Nat.ble (i + n) cs.length = true := by rfl) (hv : .agg ((cs.drop i).take n).toArray = v := by rfl) : KB P N o E (Pm w0 L) v := hv ▸ Kmn ho hx hag hs hk (Nat.le_of_ble_eq_true hi)
theorem gN {s : Operand} {t e : TypeId} {A : Option Addr} {n c : Nat} (ht : P.underlying t = some (.slice e)) (ho : o.op = .call { callee := .builtin .len, args := #[s], argTypes := #[t] } := by rfl) (hs : ev E s = some (.slice A n c) := by rfl) : KB P N o E I (.int .i64 (n : Int)) := KpX ho ht hs
theorem gA {t e : TypeId} {x ix : Operand} {size : Nat} {A : Option Addr} {b off n c i : Nat} {z : Int} (ht : P.underlying t = some (.slice e)) (hs : ∀ w : World, (sizeOf e).run P w = .ok size w) (ho : o.op = .indexAddr t x ix) (hx : ev E x = some (.slice A n c)) (hi : ev E ix = some (.int .i64 z)) (hz : z = (i : Int)) (hA : A = some ⟨b, off, none⟩) (hlt : i < n) : KB P N o E I (.pointer (some ⟨b, off + i * size, none⟩)) := Kd ho hx hi fun w => KK ht hs hA n c i hlt hz w
section
variable {α : Type} {c : α -> List Value} {k : Nat} {l' : List α} {xx : α} {w0 : Base} {L : List Pc} {t : TypeId} {x : Operand} {b off i : Nat}
theorem gR (K : Cel c k) (hag : ∀ w : World, (isAgg t).run P w = .ok true w) (hs : ∀ w : World, (sizeOf t).run P w = .ok k w) (hb : b < w0.b) (hx : l'[i]? = some xx) (hc : ∀ (j : Nat) (u : Value), (Ka c l')[j]? = some u -> w0.w.cell? ⟨b, off + j, none⟩ = some u) (ho : o.op = .load t x := by rfl) (hE : ev E x = some (.pointer (some ⟨b, off + i * k, none⟩)) := by rfl) : KB P N o E (Pm w0 L) (.agg (c xx).toArray) :=
  KW ho hE hag hs (K.len xx) fun w1 hw j u h => (hw.bel.cell hb).trans (KbC K hx hc j u h)
theorem gS (q : Nat) {v : Value} (K : Cel c k) (hag : ∀ w : World, (isAgg t).run P w = .ok false w) (hb : b < w0.b) (hx : l'[i]? = some xx) (hc : ∀ (j : Nat) (u : Value), (Ka c l')[j]? = some u -> w0.w.cell? ⟨b, off + j, none⟩ = some u) (ho : o.op = .load t x := by rfl) (hE : ev E x = some (.pointer (some ⟨b, off + i * k + q, none⟩)) := by rfl) (hq : (c xx)[q]? = some v := by rfl) : KB P N o E (Pm w0 L) v :=
  Kt ho hE hag fun w1 hw => (hw.bel.cell hb).trans (KbC K hx hc q v hq)
theorem KA {l : List α} {i : Nat} (h : i < l.length) : ∃ x, l[i]? = some x := ⟨_, List.getElem?_eq_getElem h⟩
end
theorem TL.v {d : Nat} {v : Value} (hv : KB P N o E I v) (h : TL P N ops Q l ((d, v) :: E) I) (hg : o.guard = none := by rfl) (hd : o.dst = some d := by rfl) (hN : Nat.blt d N.n = true := by rfl) : TL P N ops Q (o :: l) E I := TL.val hg hd hN hv h
theorem TQ.v {R : Act -> Prop} {d : Nat} {v : Value} (hv : KB P N o E I v) (h : TQ P N ops R l ((d, v) :: E) I) (hg : o.guard = none := by rfl) (hd : o.dst = some d := by rfl) (hN : Nat.blt d N.n = true := by rfl) : TQ P N ops R (o :: l) E I := TQ.val hg hd hN hv h
theorem TS.v {R : Act -> World -> Prop} {d : Nat} {v : Value} (hv : KB P N o E I v) (h : TS P N ops R l ((d, v) :: E) I) (hg : o.guard = none := by rfl) (hd : o.dst = some d := by rfl) (hN : Nat.blt d N.n = true := by rfl) : TS P N ops R (o :: l) E I := TS.val hg hd hN hv h
theorem TL.ov {j d d' : Nat} {b : Bool} {v : Value} (hv : KB P N { o with guard := none } E I v) (h : TL P N ops Q l ((d, v) :: E) I) (hg : o.guard = some (j, b) := by rfl) (hj : (ops[j]?).bind (·.dst) = some d' := by rfl) (hE : look E d' = some (.bool b) := by rfl) (hd : o.dst = some d := by rfl) (hN : Nat.blt d N.n = true := by rfl) : TL P N ops Q (o :: l) E I := TL.on hg hj hE (TL.val rfl hd hN hv h)
theorem TQ.ov {R : Act -> Prop} {j d d' : Nat} {b : Bool} {v : Value} (hv : KB P N { o with guard := none } E I v) (h : TQ P N ops R l ((d, v) :: E) I) (hg : o.guard = some (j, b) := by rfl) (hj : (ops[j]?).bind (·.dst) = some d' := by rfl) (hE : look E d' = some (.bool b) := by rfl) (hd : o.dst = some d := by rfl) (hN : Nat.blt d N.n = true := by rfl) : TQ P N ops R (o :: l) E I := TQ.on hg hj hE (TQ.val rfl hd hN hv h)
theorem TL.sp {p : Prop} {dp : Decidable p} {op : BinOp} {xt yt : TypeId} {x y : Operand} {k k' : IntKind} {m n : Int} {d : Nat} (hv : ∀ w : World, (binOp op xt (.int k m) (.int k' n)).run P w = .ok (.bool (decide p)) w) (ht : p -> TL P N ops Q l ((d, .bool true) :: E) I) (hf : ¬ p -> TL P N ops Q l ((d, .bool false) :: E) I)
    (hg : o.guard = none := by rfl) (hd : o.dst = some d := by rfl) (hN : Nat.blt d N.n = true := by rfl) (ho : o.op = .binOp op xt x y yt := by rfl) (hx : ev E x = some (.int k m) := by rfl) (hy : ev E y = some (.int k' n) := by rfl) : TL P N ops Q (o :: l) E I := TL.vsplit hg hd hN (Ke ho hx hy hv) (fun h => ht (of_decide_eq_true h)) fun h => hf (of_decide_eq_false h)
theorem TQ.sp {R : Act -> Prop} {p : Prop} {dp : Decidable p} {op : BinOp} {xt yt : TypeId} {x y : Operand} {k k' : IntKind} {m n : Int} {d : Nat} (hv : ∀ w : World, (binOp op xt (.int k m) (.int k' n)).run P w = .ok (.bool (decide p)) w) (ht : p -> TQ P N ops R l ((d, .bool true) :: E) I) (hf : ¬ p -> TQ P N ops R l ((d, .bool false) :: E) I)
    (hg : o.guard = none := by rfl) (hd : o.dst = some d := by rfl) (hN : Nat.blt d N.n = true := by rfl) (ho : o.op = .binOp op xt x y yt := by rfl) (hx : ev E x = some (.int k m) := by rfl) (hy : ev E y = some (.int k' n) := by rfl) : TQ P N ops R (o :: l) E I := TQ.vsplit hg hd hN (Ke ho hx hy hv) (fun h => ht (of_decide_eq_true h)) fun h => hf (of_decide_eq_false h)
theorem gD {xt yt : TypeId} {x y : Operand} {k : IntKind} {m n : Int} (r : Int) (ho : o.op = .binOp .add xt x y yt := by rfl) (hx : ev E x = some (.int k m) := by rfl) (hy : ev E y = some (.int k n) := by rfl) (h : k.wrap (m + n) = r := by simp only [IntKind.wrap_i64]; omega) : KB P N o E I (.int k r) := Ke ho hx hy fun w => Ke3 h w
end
section
variable {P : Program} {N : Fr} {ops : Array Oper} {S I : World -> Prop} {Q : Exit -> Act -> World -> Prop} {f : Nat} {listed : Array Bool} {E : Env}
theorem TX.he (hS : ∀ w, I w -> S w) (h : (∀ w, I w -> S w) -> TH P N ops S Q f listed E I) : TX N (Exit.then (Hd P ops S Q f listed) (NoPanic Q)) .normal E I := TX.held hS (h hS)
theorem TH.t {o : Oper} {d : Nat} {v : Value} {listed' : Array Bool} (i : Nat) (hi : ops[i]? = some o) (hv : KB P N o E S v) (hS : ∀ w, I w -> S w) (h : TH P N ops S Q f listed' ((d, v) :: E) I) (hg : o.guard = none := by rfl) (hd : o.dst = some d := by rfl)
    (hs : Region.noSelect ops = true := by kernel_rfl) (hf : Region.free .any ops listed i = true := by kernel_rfl) (hr : (Region.ready .any ops listed).contains i = true := by kernel_rfl) (hl : listed.setIfInBounds i true = listed' := by rfl) (hN : Nat.blt d N.n = true := by rfl) : TH P N ops S Q (f + 1) listed E I := TH.take i hi hs hf hr hl hg hd hN hv hS h
end
def Kv (P : Program) (f : FuncId) : Prop := ∃ fn, P.funcs[f]? = some fn /\ (fn.name == "runtime.NumGoroutine") = false /\ fn.body.isNone = false
def Kcp (N : Fr) (E : Env) (o : Oper) : Option (Nat × FuncId × List Value) :=
  match o.guard with
  | some _ => none
  | none => match o.dst with
    | none => none
    | some d => match Nat.blt d N.n with
      | false => none
      | true => match o.op with
        | .call c => match c.callee with
          | .value (.func f) => match evs E c.args.toList with
            | some vs => some (d, f, vs)
            | none => none
          | _ => none
        | _ => none
def KdR (N : Fr) (o : Oper) : Option Nat :=
  match o.guard with
  | some _ => none
  | none => match o.dst with
    | none => none
    | some d => match Nat.blt d N.n with
      | true => some d
      | false => none
def fA (n : Nat) : Array Bool := Array.replicate n false
theorem lC {α : Type} {a : α} {u v : List α} : a :: u ++ v = a :: (u ++ v) := rfl
theorem lN {α : Type} {u : List α} : [] ++ u = u := rfl
section
variable {P : Program} {N : Fr} {Q : Exit -> Act -> World -> Prop} {E E' : Env} {ops : Array Oper} {l : List Oper} {o : Oper} {I : World -> Prop} {w0 : Base} {L : List Pc} {R : Act -> Prop} {d : Nat} {f : FuncId} {vs : List Value}
def Kj9 : List Nat -> Env -> Option Env
  | [], _ => some []
  | t :: ts, E => match look E t, Kj9 ts E with
    | some v, some K => some ((t, v) :: K)
    | _, _ => none
theorem TC.lp {c : Code} {α : Type} (ks : List Nat) {K : Env} (hK : Kj9 ks E = some K) (U : α -> Env) (I' : α -> World -> Prop) (m : α -> Nat) (x0 : α) (hI : ∀ w, I w -> I' x0 w)
    (step : ∀ x, TC P N (Exit.then (fun a w => ∃ y, m y < m x /\ EnvOk N (U y ++ K) a /\ I' y w) Q) c (U x ++ K) (I' x)) (hE : Has E (U x0 ++ K) := by repeat (first | exact trivial | refine And.intro rfl ?_)) : TC P N Q (.loop c) E I :=
  TC.loop_ (fun y => U y ++ K) I' m x0 hE hI step
theorem Kc5 (h : Kcp N E o = some (d, f, vs)) : ∃ (xs : List Operand) (ts : Array TypeId), o.guard = none /\ o.dst = some d /\ Nat.blt d N.n = true /\ o.op = .call { callee := .value (.func f), args := xs.toArray, argTypes := ts } /\ evs E xs = some vs := by
  unfold Kcp at h;split at h
  · cases h
  · rename_i hg;split at h
    · cases h
    · rename_i d' hd;split at h
      · cases h
      · rename_i hN;split at h
        · rename_i c ho;obtain ⟨ce, ar, ty⟩ := c;split at h
          · rename_i f' hf;split at h
            · rename_i vs' hx;cases h;dsimp only at hf hx;subst hf;exact ⟨ar.toList, ty, hg, hd, hN, by rw [ho], hx⟩
            · cases h
          · cases h
        · cases h
theorem Kb3 {d : Nat} (h : KdR N o = some d) : o.guard = none /\ o.dst = some d /\ Nat.blt d N.n = true := by
  unfold KdR at h;split at h
  · cases h
  · rename_i hg;split at h
    · cases h
    · rename_i d' hd;split at h
      · rename_i hN; cases h; exact ⟨hg, hd, hN⟩
      · cases h
theorem TL.w {v : Value} (h0 : KdR N o = some d) (hv : KB P N o E I v) (h : TL P N ops Q l ((d, v) :: E) I) : TL P N ops Q (o :: l) E I := TL.val (Kb3 h0).1 (Kb3 h0).2.1 (Kb3 h0).2.2 hv h
theorem TQ.w {v : Value} (h0 : KdR N o = some d) (hv : KB P N o E I v) (h : TQ P N ops R l ((d, v) :: E) I) : TQ P N ops R (o :: l) E I := TQ.val (Kb3 h0).1 (Kb3 h0).2.1 (Kb3 h0).2.2 hv h
theorem TL.vw {b : Bool} (h0 : KdR N o = some d) (hv : KB P N o E I (.bool b)) (ht : b = true -> TL P N ops Q l ((d, .bool true) :: E) I) (hf : b = false -> TL P N ops Q l ((d, .bool false) :: E) I) : TL P N ops Q (o :: l) E I := TL.vsplit (Kb3 h0).1 (Kb3 h0).2.1 (Kb3 h0).2.2 hv ht hf
theorem TQ.vw {b : Bool} (h0 : KdR N o = some d) (hv : KB P N o E I (.bool b)) (ht : b = true -> TQ P N ops R l ((d, .bool true) :: E) I) (hf : b = false -> TQ P N ops R l ((d, .bool false) :: E) I) : TQ P N ops R (o :: l) E I := TQ.vsplit (Kb3 h0).1 (Kb3 h0).2.1 (Kb3 h0).2.2 hv ht hf
theorem Pm.pk {w : World} {L' : List Pc} (h : Pm w0 L w) (ks : List Nat) (hn : ks.Nodup := by decide) (he : ks.map (fun k => L[k]?) = L'.map some := by rfl) : Pm w0 L' w := h.pick ks hn he
theorem TL.p1 {r : Value} (h0 : Kcp N E o = some (d, f, vs)) (hf : Kv P f)
    (hc : ∀ w, Pm w0 L w -> Calls P f vs.toArray w fun e w' => e = .returned r /\ Below w.heap.size w w') (h : TL P N ops Q l ((d, r) :: E) (Pm w0 L)) : TL P N ops Q (o :: l) E (Pm w0 L) := by
  obtain ⟨xs, ts, hg, hd, hN, ho, hx⟩ := Kc5 h0;obtain ⟨fn, h1, h2, h3⟩ := hf;exact TL.pcall1 hg hd hN ho hx h1 h2 h3 hc h
theorem TL.pM {α : Type} (r : α -> Value) (Ln : α -> List Pc) (h0 : Kcp N E o = some (d, f, vs)) (hf : Kv P f)
    (hc : ∀ w, Pm w0 L w -> Calls P f vs.toArray w fun en w' => ∃ x, en = .returned (r x) /\ Pm w (Ln x) w')
    (h : ∀ x, TL P N ops Q l ((d, r x) :: E) (Pm w0 (Ln x ++ L))) (hna : ∀ x, noAbs (Ln x) = true := by intro x; rfl) : TL P N ops Q (o :: l) E (Pm w0 L) := by
  obtain ⟨xs, ts, hg, hd, hN, ho, hx⟩ := Kc5 h0;obtain ⟨fn, h1, h2, h3⟩ := hf;exact TL.pcallPm r Ln hg hd hN ho hx h1 h2 h3 hc h hna
theorem TL.pC {α : Type} {k cb : Nat} {p : World -> Prop} (r : α -> Value) (Ln : α -> List Pc) (h0 : Kcp N E o = some (d, f, vs)) (hf : Kv P f)
    (hk : L[k]? = some (.abs cb p)) (hc : ∀ w, Pm w0 L w -> p w -> Calls P f vs.toArray w fun en w' => ∃ x, en = .returned (r x) /\ Codr p cb w (Ln x) w')
    (h : ∀ x, TL P N ops Q l ((d, r x) :: E) (Pm w0 (Ln x ++ L))) (hna : ∀ x, noAbs (Ln x) = true := by intro x; rfl) : TL P N ops Q (o :: l) E (Pm w0 L) := by
  obtain ⟨xs, ts, hg, hd, hN, ho, hx⟩ := Kc5 h0;obtain ⟨fn, h1, h2, h3⟩ := hf;exact TL.pcallCod r Ln hg hd hN ho hx h1 h2 h3 hk hc h hna
theorem TL.pL {α : Type} {r : α -> Value} {I' : α -> World -> Prop} (h0 : Kcp N E o = some (d, f, vs)) (hf : Kv P f)
    (hc : ∀ w, I w -> Calls P f vs.toArray w fun e w' => ∃ x, e = .returned (r x) /\ I' x w') (h : ∀ x, TL P N ops Q l ((d, r x) :: E) (I' x)) : TL P N ops Q (o :: l) E I := by
  obtain ⟨xs, ts, hg, hd, hN, ho, hx⟩ := Kc5 h0;obtain ⟨fn, h1, h2, h3⟩ := hf;exact TL.call hg hd hN ho hx h1 h2 h3 hc h
theorem TQ.p1 {v : Value} (h0 : Kcp N E o = some (d, f, vs)) (hf : Kv P f)
    (hc : ∀ w, I w -> Calls P f vs.toArray w fun e w' => e = .returned v /\ I w') (h : TQ P N ops R l ((d, v) :: E) I) : TQ P N ops R (o :: l) E I := by
  obtain ⟨xs, ts, hg, hd, hN, ho, hx⟩ := Kc5 h0;obtain ⟨fn, h1, h2, h3⟩ := hf;exact TQ.call hg hd hN ho hx h1 h2 h3 hc h
theorem TL.pS {b : Bool} (h0 : Kcp N E o = some (d, f, vs)) (hf : Kv P f)
    (hc : ∀ w, Pm w0 L w -> Calls P f vs.toArray w fun e w' => e = .returned (.bool b) /\ Below w.heap.size w w') (ht : b = true -> TL P N ops Q l ((d, .bool true) :: E) (Pm w0 L)) (hf' : b = false -> TL P N ops Q l ((d, .bool false) :: E) (Pm w0 L)) : TL P N ops Q (o :: l) E (Pm w0 L) := by
  obtain ⟨xs, ts, hg, hd, hN, ho, hx⟩ := Kc5 h0;obtain ⟨fn, h1, h2, h3⟩ := hf;exact TL.callsplit hg hd hN ho hx h1 h2 h3 hc ht hf'
theorem TQ.pS {b : Bool} (h0 : Kcp N E o = some (d, f, vs)) (hf : Kv P f)
    (hc : ∀ w, Pm w0 L w -> Calls P f vs.toArray w fun e w' => e = .returned (.bool b) /\ Below w.heap.size w w') (ht : b = true -> TQ P N ops R l ((d, .bool true) :: E) (Pm w0 L)) (hf' : b = false -> TQ P N ops R l ((d, .bool false) :: E) (Pm w0 L)) : TQ P N ops R (o :: l) E (Pm w0 L) := by
  obtain ⟨xs, ts, hg, hd, hN, ho, hx⟩ := Kc5 h0;obtain ⟨fn, h1, h2, h3⟩ := hf;exact TQ.callsplit hg hd hN ho hx h1 h2 h3 hc ht hf'
theorem TL.ps {t te : TypeId} {x y : Operand} {g off n : Nat} {v : Value} {cs ws : List Value} (k : Nat) (hs : ∀ w : World, (sizeOf t).run P w = .ok n w)
    (h : TL P N ops Q l E (Pm w0 (L.set k (.blk g te (cs.take off ++ ws ++ cs.drop (off + ws.length)))))) (hg : o.guard = none := by rfl) (hd : o.dst = none := by rfl) (ho : o.op = .store t x y := by rfl) (hx : ev E x = some (.pointer (some ⟨g, off, none⟩)) := by rfl) (hy : ev E y = some v := by rfl)
    (hk : L[k]? = some (.blk g te cs) := by rfl) (hv : v.cells = ws.toArray := by rfl) (hn : ws.length = n := by rfl) (h1 : ws.all Value.oneCell' = true := by rfl) (hl : Nat.ble (off + ws.length) cs.length = true := by rfl) : TL P N ops Q (o :: l) E (Pm w0 L) := by
  subst hn;exact TL.pstore hg hd ho hx hy hk hv hs (fun u hu => List.all_eq_true.1 h1 u hu) (Nat.le_of_ble_eq_true hl) rfl h
theorem TL.bx {t : TypeId} {x : Operand} {v : Value} {cs : List Value} (h : ∀ g, TL P N ops Q l ((d, .pointer (some ⟨g, 0, none⟩)) :: E) (Pm w0 (.blk g t cs :: L)))
    (hg : o.guard = none := by rfl) (hd : o.dst = some d := by rfl) (hN : Nat.blt d N.n = true := by rfl) (ho : o.op = .box t x := by rfl) (hx : ev E x = some v := by rfl) (hc : v.cells = cs.toArray := by rfl) : TL P N ops Q (o :: l) E (Pm w0 L) :=
  TL.pnew hg hd hN (KpY ho hx hc) h
theorem TL.al {t : TypeId} {z : Value} {cs : List Value} (hz : ∀ w : World, (zeroValue t).run P w = .ok z w) (h : ∀ g, TL P N ops Q l ((d, .pointer (some ⟨g, 0, none⟩)) :: E) (Pm w0 (.blk g t cs :: L)))
    (hg : o.guard = none := by rfl) (hd : o.dst = some d := by rfl) (hN : Nat.blt d N.n = true := by rfl) (ho : o.op = .alloc t := by rfl) (hc : z.cells = cs.toArray := by rfl) : TL P N ops Q (o :: l) E (Pm w0 L) :=
  TL.pnew hg hd hN (KmI ho hz hc) h
theorem TX.rd {α : Type} {E' : α -> Env} {I' : α -> World -> Prop} {m : α -> Nat} {b : Nat} (y : α) (hm : m y < b) (hI : ∀ w, I w -> I' y w) (hE : Has E (E' y) := by repeat (first | exact trivial | refine And.intro rfl ?_)) :
    TX N (Exit.then (fun a w => ∃ y, m y < b /\ EnvOk N (E' y) a /\ I' y w) Q) .normal E I := TX.round y hm hE hI
theorem TX.jd {α : Type} {E' : α -> Env} {I' : α -> World -> Prop} (s : α) (hI : ∀ w, I w -> I' s w) (hE : Has E (E' s) := by repeat (first | exact trivial | refine And.intro rfl ?_)) : TX N (Exit.then (fun a w => ∃ s, EnvOk N (E' s) a /\ I' s w) Q) .normal E I := TX.joined s hE hI
end
section
variable {P : Program} {N : Fr} {ops : Array Oper} {S I : World -> Prop} {Q : Exit -> Act -> World -> Prop} {f : Nat} {listed : Array Bool} {E : Env} {l : List Oper} {id : Nat}
theorem TH.o {o : Oper} {listed' : Array Bool} (i : Nat) (h : TL P N ops (Exit.then (Hd P ops S Q f listed') (NoPanic Q)) [o] E I) (hi : ops[i]? = some o := by rfl) (hr : Region.ready .any ops listed = [i] := by kernel_rfl) (hl : listed.setIfInBounds i true = listed' := by rfl) : TH P N ops S Q (f + 1) listed E I := TH.only' i hi hr hl h
theorem TH.g {o : Oper} {d j dg : Nat} {b : Bool} {v : Value} {listed' : Array Bool} (i : Nat) (hi : ops[i]? = some o) (hv : KB P N o E S v) (hS : ∀ w, I w -> S w) (h : TH P N ops S Q f listed' ((d, v) :: E) I)
    (hs : Region.noSelect ops = true := by kernel_rfl) (hf : Region.free .any ops listed i = true := by kernel_rfl) (hr : (Region.ready .any ops listed).contains i = true := by kernel_rfl) (hl : listed.setIfInBounds i true = listed' := by rfl)
    (hg : o.guard = some (j, b) := by rfl) (hgd : (ops[j]?).bind (·.dst) = some dg := by rfl) (hgE : look E dg = some (.bool b) := by rfl) (hd : o.dst = some d := by rfl) (hN : Nat.blt d N.n = true := by rfl) : TH P N ops S Q (f + 1) listed E I := TH.takeG i hi hs hf hr hl hg hgd hgE hd hN hv hS h
theorem TH.fo {o : Oper} {d j dg : Nat} {b b' : Bool} {listed' : Array Bool} (i : Nat) (hS : ∀ w, I w -> S w) (h : TH P N ops S Q f listed' ((d, undef) :: E) I) (hi : ops[i]? = some o := by rfl)
    (hs : Region.noSelect ops = true := by kernel_rfl) (hf : Region.free .any ops listed i = true := by kernel_rfl) (hr : (Region.ready .any ops listed).contains i = true := by kernel_rfl) (hl : listed.setIfInBounds i true = listed' := by rfl)
    (hg : o.guard = some (j, b') := by rfl) (hgd : (ops[j]?).bind (·.dst) = some dg := by rfl) (hgE : look E dg = some (.bool b) := by rfl) (hne : (b == b') = false := by rfl) (hd : o.dst = some d := by rfl) (hN : Nat.blt d N.n = true := by rfl) : TH P N ops S Q (f + 1) listed E I := TH.off i hi hs hf hr hl hg hgd hgE hne hd hN hS h
theorem TC.hd (n : Nat) (S : World -> Prop) (hS : ∀ w, I w -> S w) (h : (∀ w, I w -> S w) -> TH P N l.toArray S Q n (fA n) E I) (hm : P.follows .mixedOrders = true := by kernel_rfl) (hn : l.toArray.size = n := by rfl) (hI : ∀ w, I w -> I { w with drawn := w.drawn + 1 } := by exact fun w hw => hw.drawn _) : TC P N Q (.region id l.toArray true) E I := TC.held S hm hn rfl hI (h hS)
end
theorem o10 : Kv Tryz.prog 10 := ⟨_, Tryz.func10, by decide, rfl⟩
theorem o12 : Kv Tryz.prog 12 := ⟨_, Tryz.func12, by decide, rfl⟩
theorem o13 : Kv Tryz.prog 13 := ⟨_, Tryz.func13, by decide, rfl⟩
theorem o14 : Kv Tryz.prog 14 := ⟨_, Tryz.func14, by decide, rfl⟩
theorem o15 : Kv Tryz.prog 15 := ⟨_, Tryz.func15, by decide, rfl⟩
theorem o16 : Kv Tryz.prog 16 := ⟨_, Tryz.func16, by decide, rfl⟩
theorem o17 : Kv Tryz.prog 17 := ⟨_, Tryz.func17, by decide, rfl⟩
theorem o18 : Kv Tryz.prog 18 := ⟨_, Tryz.func18, by decide, rfl⟩
theorem o19 : Kv Tryz.prog 19 := ⟨_, Tryz.func19, by decide, rfl⟩
theorem o20 : Kv Tryz.prog 20 := ⟨_, Tryz.func20, by decide, rfl⟩
theorem o21 : Kv Tryz.prog 21 := ⟨_, Tryz.func21, by decide, rfl⟩
theorem o22 : Kv Tryz.prog 22 := ⟨_, Tryz.func22, by decide, rfl⟩
theorem o23 : Kv Tryz.prog 23 := ⟨_, Tryz.func23, by decide, rfl⟩
theorem o24 : Kv Tryz.prog 24 := ⟨_, Tryz.func24, by decide, rfl⟩
theorem o25 : Kv Tryz.prog 25 := ⟨_, Tryz.func25, by decide, rfl⟩
theorem o26 : Kv Tryz.prog 26 := ⟨_, Tryz.func26, by decide, rfl⟩
theorem o27 : Kv Tryz.prog 27 := ⟨_, Tryz.func27, by decide, rfl⟩
theorem o28 : Kv Tryz.prog 28 := ⟨_, Tryz.func28, by decide, rfl⟩
theorem o29 : Kv Tryz.prog 29 := ⟨_, Tryz.func29, by decide, rfl⟩
theorem o30 : Kv Tryz.prog 30 := ⟨_, Tryz.func30, by decide, rfl⟩
theorem o31 : Kv Tryz.prog 31 := ⟨_, Tryz.func31, by decide, rfl⟩
theorem o32 : Kv Tryz.prog 32 := ⟨_, Tryz.func32, by decide, rfl⟩
theorem o33 : Kv Tryz.prog 33 := ⟨_, Tryz.func33, by decide, rfl⟩
theorem o34 : Kv Tryz.prog 34 := ⟨_, Tryz.func34, by decide, rfl⟩
theorem o36 : Kv Tryz.prog 36 := ⟨_, Tryz.func36, by decide, rfl⟩
theorem o38 : Kv Tryz.prog 38 := ⟨_, Tryz.func38, by decide, rfl⟩
theorem o39 : Kv Tryz.prog 39 := ⟨_, Tryz.func39, by decide, rfl⟩
theorem o40 : Kv Tryz.prog 40 := ⟨_, Tryz.func40, by decide, rfl⟩
theorem o41 : Kv Tryz.prog 41 := ⟨_, Tryz.func41, by decide, rfl⟩
theorem o43 : Kv Tryz.prog 43 := ⟨_, Tryz.func43, by decide, rfl⟩
theorem o46 : Kv Tryz.prog 46 := ⟨_, Tryz.func46, by decide, rfl⟩
theorem o47 : Kv Tryz.prog 47 := ⟨_, Tryz.func47, by decide, rfl⟩
theorem o48 : Kv Tryz.prog 48 := ⟨_, Tryz.func48, by decide, rfl⟩
theorem o49 : Kv Tryz.prog 49 := ⟨_, Tryz.func49, by decide, rfl⟩
theorem o50 : Kv Tryz.prog 50 := ⟨_, Tryz.func50, by decide, rfl⟩
theorem o54 : Kv Tryz.prog 54 := ⟨_, Tryz.func54, by decide, rfl⟩
theorem o55 : Kv Tryz.prog 55 := ⟨_, Tryz.func55, by decide, rfl⟩
theorem o56 : Kv Tryz.prog 56 := ⟨_, Tryz.func56, by decide, rfl⟩
theorem o57 : Kv Tryz.prog 57 := ⟨_, Tryz.func57, by decide, rfl⟩
theorem o58 : Kv Tryz.prog 58 := ⟨_, Tryz.func58, by decide, rfl⟩
theorem o60 : Kv Tryz.prog 60 := ⟨_, Tryz.func60, by decide, rfl⟩
theorem o61 : Kv Tryz.prog 61 := ⟨_, Tryz.func61, by decide, rfl⟩
theorem o62 : Kv Tryz.prog 62 := ⟨_, Tryz.func62, by decide, rfl⟩
theorem o64 : Kv Tryz.prog 64 := ⟨_, Tryz.func64, by decide, rfl⟩
theorem o65 : Kv Tryz.prog 65 := ⟨_, Tryz.func65, by decide, rfl⟩
theorem o66 : Kv Tryz.prog 66 := ⟨_, Tryz.func66, by decide, rfl⟩
theorem o67 : Kv Tryz.prog 67 := ⟨_, Tryz.func67, by decide, rfl⟩
theorem o68 : Kv Tryz.prog 68 := ⟨_, Tryz.func68, by decide, rfl⟩
theorem o69 : Kv Tryz.prog 69 := ⟨_, Tryz.func69, by decide, rfl⟩
theorem o70 : Kv Tryz.prog 70 := ⟨_, Tryz.func70, by decide, rfl⟩
theorem o71 : Kv Tryz.prog 71 := ⟨_, Tryz.func71, by decide, rfl⟩
theorem o72 : Kv Tryz.prog 72 := ⟨_, Tryz.func72, by decide, rfl⟩
theorem o74 : Kv Tryz.prog 74 := ⟨_, Tryz.func74, by decide, rfl⟩
theorem o76 : Kv Tryz.prog 76 := ⟨_, Tryz.func76, by decide, rfl⟩
theorem o77 : Kv Tryz.prog 77 := ⟨_, Tryz.func77, by decide, rfl⟩
theorem o79 : Kv Tryz.prog 79 := ⟨_, Tryz.func79, by decide, rfl⟩
theorem o80 : Kv Tryz.prog 80 := ⟨_, Tryz.func80, by decide, rfl⟩
theorem o82 : Kv Tryz.prog 82 := ⟨_, Tryz.func82, by decide, rfl⟩
theorem o84 : Kv Tryz.prog 84 := ⟨_, Tryz.func84, by decide, rfl⟩
theorem o87 : Kv Tryz.prog 87 := ⟨_, Tryz.func87, by decide, rfl⟩
theorem o88 : Kv Tryz.prog 88 := ⟨_, Tryz.func88, by decide, rfl⟩
theorem o89 : Kv Tryz.prog 89 := ⟨_, Tryz.func89, by decide, rfl⟩
theorem o90 : Kv Tryz.prog 90 := ⟨_, Tryz.func90, by decide, rfl⟩
theorem o91 : Kv Tryz.prog 91 := ⟨_, Tryz.func91, by decide, rfl⟩
theorem o94 : Kv Tryz.prog 94 := ⟨_, Tryz.func94, by decide, rfl⟩
theorem o95 : Kv Tryz.prog 95 := ⟨_, Tryz.func95, by decide, rfl⟩
theorem o96 : Kv Tryz.prog 96 := ⟨_, Tryz.func96, by decide, rfl⟩
theorem o98 : Kv Tryz.prog 98 := ⟨_, Tryz.func98, by decide, rfl⟩
theorem KoN : Kv Tryz.prog 111 := ⟨_, Tryz.func111, by decide, rfl⟩
theorem Koz : Kv Tryz.prog 113 := ⟨_, Tryz.func113, by decide, rfl⟩
theorem KqN : Kv Tryz.prog 114 := ⟨_, Tryz.func114, by decide, rfl⟩
theorem KoZ : Kv Tryz.prog 118 := ⟨_, Tryz.func118, by decide, rfl⟩
theorem K5 : Kv Tryz.prog 121 := ⟨_, Tryz.func121, by decide, rfl⟩
theorem Kmp : Kv Tryz.prog 134 := ⟨_, Tryz.func134, by decide, rfl⟩
open Go.ChangeShapes Go.WideShapes Go.ChangeAt Go.RowKit
theorem own : ownKnob Tryz.prog.godebug = none := by kernel_rfl
theorem laidOut : laidOutB Tryz.prog = true := by kernel_rfl
theorem KqA {x : Int} (h : (Lit.int .u8 x).wf = true) : 0 <= x /\ x <= 255 := by simpa [Lit.wf, IntKind.min, IntKind.max, IntKind.signed, IntKind.bits] using h
theorem wf_u32 {x : Int} (h : (Lit.int .u32 x).wf = true) : 0 <= x /\ x <= 4294967295 := by simpa [Lit.wf, IntKind.min, IntKind.max, IntKind.signed, IntKind.bits] using h
theorem Kle {w : World} {a : Addr} {len cap : Nat} {zs : List Int} (hl : len <= cap) (hz : zs.length = cap) (hb : 0 < len -> a.block < w.heap.size) (hc : ∀ i, i < zs.length -> w.cell? (a.add i) = some (.int .u8 (zs.getD i 0)))
    (hw : ∀ n ∈ zs, (Lit.int .u8 n).wf = true) : Byt w w.heap.size (some a) len (zs.take len) := by
  refine ⟨⟨by simp [bv]; omega, fun hn => ⟨a, rfl, hb hn, fun j u hu => ?_⟩⟩, fun x hx => KqA (hw x (List.mem_of_mem_take hx))⟩;simp only [bv, List.getElem?_map, List.getElem?_take] at hu;split at hu
  · rename_i hj;have hjl : j < zs.length := by omega
    rw [List.getElem?_eq_getElem hjl] at hu;rw [hc j hjl];simp only [Option.map_some, Option.some.injEq] at hu;rw [<- hu];simp [List.getD, List.getElem?_eq_getElem hjl]
  · simp at hu
section
variable {H : Type} {enc : TypeId × Value -> H} {P : Program} {W : World}
theorem open_byt {t e : TypeId} {base : Nat} {v : Value} {d : DataW H} {p : List MemPlace} (ht : P.underlying t = some (.slice e)) (he : P.underlying e = some (.int .u8)) (hC : P.cellsOf e = 1)
    (hok : Value.okWide P W .any base t v) (h : DataW.Trod enc P W 0 (fun _ => true) true t v d p) : ∃ A n c l, v = .slice A n c /\ n <= c /\ c <= maxLen /\ Byt W W.heap.size A n l := by
  obtain ⟨a0, len0, cap0, rfl⟩ := okWide_slice ht hok;obtain ⟨fuel, hf⟩ := h;rcases open_ints ht he hC hf with ⟨hcs, _⟩ | ⟨x, l, c, zs, hcs, _, hl, hm, hz, _, hcell, hwz⟩
  · simp [Value.cells] at hcs;obtain ⟨rfl, rfl, rfl⟩ := hcs;exact ⟨none, 0, 0, [], rfl, Nat.le_refl _, Nat.zero_le _, Byt.none_ _ _⟩
  · simp [Value.cells] at hcs;obtain ⟨rfl, rfl, rfl⟩ := hcs;have hz' : zs.length = cap0 := by simpa using hz
    refine ⟨_, len0, cap0, zs.take len0, rfl, hl, hm, Kle hl hz' (fun hn => ?_) hcell hwz⟩;have := World.block_lt_of_cell? W _ (hcell 0 (by omega));rwa [Kew] at this
end
set_option maxRecDepth 20000
def Cod (w : World) (cb : Nat) : Prop :=
  ∃ A m c l k, Blk w cb 79 #[.slice A m c, .int .i64 ((k : Nat) : Int)] /\ k <= m /\ m <= 1000000 /\ Byt w cb A m l
theorem Cod.lt {w : World} {cb : Nat} (h : Cod w cb) : cb < w.heap.size := by
  obtain ⟨A, m, c, l, k, hb, _⟩ := h;exact hb.lt
theorem Cod.keep {w w' : World} {cb : Nat} (h : Cod w cb) (hk : ∀ b, b <= cb -> w'.heap[b]? = w.heap[b]?) : Cod w' cb := by
  obtain ⟨A, m, c, l, k, hb, h1, h2, h3⟩ := h;exact ⟨A, m, c, l, k, (hk cb (Nat.le_refl _)).trans hb, h1, h2, h3.keep fun p hp => World.cell?_of_block (hk _ (Nat.le_of_lt hp))⟩
theorem Cod.below {w w' : World} {cb B : Nat} (h : Cod w cb) (hb : Below B w w') (hB : cb < B) : Cod w' cb := h.keep fun b hb' => hb.block b (by omega)
theorem Cod.alloc {w : World} {cb : Nat} (h : Cod w cb) (o : Obj) : Cod (w.alloc o) cb := h.keep fun b hb' => Below.heap_alloc w o b (Nat.lt_of_le_of_lt hb' h.lt)
theorem Cod.drewN {w : World} {cb : Nat} (h : Cod w cb) (n : Nat) : Cod (w.drewN n) cb := h
theorem KmZ (A : Option Addr) (n c : Nat) (l : List Int) (w : World) (mo : Int) (h : Byt w w.heap.size A n l) (hc : n <= c) (hn : (n : Int) <= 9223372036854775807) (h0 : 0 <= mo) (h1 : mo <= 1000000) :
    Calls Tryz.prog 39 #[.slice A n c, .int .i64 mo] w fun e w' => e = .returned (.pointer (some ⟨w.heap.size, 0, none⟩)) /\ Cod w' w.heap.size /\ Below w.heap.size w w' /\ w'.heap.size = w.heap.size + 1 := by
  obtain ⟨mo, rfl⟩ := Int.eq_ofNat_of_zero_le h0
  have key : ∀ (m : Nat), m <= 1000000 -> m <= n -> Cod (w.alloc (.cells #[.slice A m c, .int .i64 0] 79)) w.heap.size := fun m hm hmn =>
    ⟨A, m, c, l.take m, 0, Blk.new _ _ _, Nat.zero_le _, hm, (h.head hmn).alloc (Nat.le_refl _) _⟩
  have hb : ∀ o, Below w.heap.size w (w.alloc o) := fun o => (Below.refl _ _).alloc (Nat.le_refl _) o;by_cases hlt : mo < n
  · have k1 := Lib.hid (key mo (by omega) (by omega));clear key
    go_enter Tryz.func39, Tryz.ntmps39
    go_wp2
    go_ret
    exact ⟨rfl, k1.out, hb _, by simp⟩
  · have k1 := Lib.hid (key n (by omega) (by omega));clear key
    go_enter Tryz.func39, Tryz.ntmps39
    go_wp2
    go_ret
    exact ⟨rfl, k1.out, hb _, by simp⟩
theorem KhF (cb : Nat) (w : World) (n : Int) (A : Option Addr) (m c : Nat) (k : Nat) (hb : Blk w cb 79 #[.slice A m c, .int .i64 k]) (hk : k <= 1000000) (h : m <= k \/ n < 1) :
    Calls Tryz.prog 14 #[.pointer (some ⟨cb, 0, none⟩), .int .i64 n] w fun e w' => e = .returned (.int .i64 0) /\ ∃ q, w' = w.drewN q := by
  have hc0 := hb.cell 0;have hc1 := hb.cell 1;simp at hc0 hc1;by_cases hm : m <= k
  · clear h
    go_enter Tryz.func14, Tryz.ntmps14
    go_wp2
    go_quiet (fail)
    go_wp2
    go_ret
    exact ⟨rfl, _, rfl⟩
  · have h : n < 1 := by omega
    go_enter Tryz.func14, Tryz.ntmps14
    go_wp2
    go_quiet (fail)
    go_wp2
    go_ret
    exact ⟨rfl, _, rfl⟩
theorem Kqi (cb : Nat) (w : World) (n : Int) (ad : Addr) (m c : Nat) (k : Nat) (x : Int) (hb : Blk w cb 79 #[.slice (some ad) m c, .int .i64 k]) (hk : k < m) (hm : m <= 1000000) (h0 : 1 <= n) (h1 : n <= 256)
    (hx : w.cell? (ad.add k) = some (.int .u8 x)) (hx0 : 0 <= x) (hx1 : x <= 255) :
    Calls Tryz.prog 14 #[.pointer (some ⟨cb, 0, none⟩), .int .i64 n] w fun e w' => e = .returned (.int .i64 (x % n)) /\ ∃ q, w' = (w.drewN q).setCell ⟨cb, 1, none⟩ (.int .i64 ((k + 1 : Nat) : Int)) := by
  have hc0 := hb.cell 0;have hc1 := hb.cell 1;have hf0 := hb.frozen 0;have hf1 := hb.frozen 1;simp at hc0 hc1
  go_enter Tryz.func14, Tryz.ntmps14
  go_wp2
  go_quiet (fail)
  go_wp2
  go_quiet (fail)
  go_wp2
  go_ret
  exact ⟨rfl, _, rfl⟩
theorem Cod.moved {w : World} {cb : Nat} {A : Option Addr} {m c k : Nat} {l : List Int} (hb : Blk w cb 79 #[.slice A m c, .int .i64 k]) (hk : k + 1 <= m) (hm : m <= 1000000) (hl : Byt w cb A m l) (q : Nat) :
    Cod ((w.drewN q).setCell ⟨cb, 1, none⟩ (.int .i64 ((k + 1 : Nat) : Int))) cb /\ w.grownBy ((w.drewN q).setCell ⟨cb, 1, none⟩ (.int .i64 ((k + 1 : Nat) : Int))) (some cb) := by
  refine ⟨⟨A, m, c, l, k + 1, ?_, hk, hm, ?_⟩, ?_⟩
  · exact (hb.drewN q).set_ 1 _
  · exact (hl.drewN q).keep fun p hp => World.cell?_setCell_other _ _ _ _ (fun e => by subst e; simp at hp)
  · refine ⟨rfl, rfl, rfl, by simp, fun i hi hne => ?_⟩;exact (Below.heap_setCell (w.drewN q) _ _ i (fun e => hne (by rw [e])))
def Kj4 (n : Int) (w : World) (cb : Nat) (e : Ending) (w' : World) : Prop :=
  ∃ x : Int, e = .returned (.int .i64 x) /\ 0 <= x /\ x <= 65535 /\ (1 <= n -> x < n) /\ Cod w' cb /\ w.grownBy w' (some cb) /\ w'.heap.size <= w.heap.size
theorem KhD (cb : Nat) (w : World) (n : Int) (h : Cod w cb) (hn : n <= 256) :
    Calls Tryz.prog 14 #[.pointer (some ⟨cb, 0, none⟩), .int .i64 n] w (Kj4 n w cb) := by
  obtain ⟨A, m, c, l, k, hb, hk, hm, hl⟩ := h;by_cases hd : m <= k \/ n < 1
  · refine (KhF cb w n A m c k hb (by omega) hd).mono fun e w' ⟨he, q, hw⟩ => ?_;subst hw;refine ⟨0, he, by omega, by omega, by omega, ⟨A, m, c, l, k, hb.drewN q, hk, hm, hl.drewN q⟩, ⟨rfl, rfl, rfl, Nat.le_refl _, fun _ _ _ => rfl⟩, Nat.le_refl _⟩
  · have hkm : k < m := by omega
    obtain ⟨ad, x, rfl, _, _, hx0, hx1, hc⟩ := hl.at_ hkm;refine (Kqi cb w n ad m c k x hb hkm hm (by omega) hn hc hx0 hx1).mono fun e w' ⟨he, q, hw⟩ => ?_;subst hw;obtain ⟨m1, m2⟩ := Cod.moved hb hkm hm hl q;have e1 : 0 <= x % n := Int.emod_nonneg _ (by omega);have e2 : x % n < n := Int.emod_lt_of_pos _ (by omega);exact ⟨x % n, he, e1, by omega, fun _ => e2, m1, m2, by simp⟩
theorem Kme (cb : Nat) (w : World) (n : Int) (ad : Addr) (m c : Nat) (k : Nat) (x : Int) (hb : Blk w cb 79 #[.slice (some ad) m c, .int .i64 k]) (hk : k < m) (hm : m <= 1000000) (h1 : 256 < n)
    (hx : w.cell? (ad.add k) = some (.int .u8 x)) (hx0 : 0 <= x) (hx1 : x <= 255) (hC : ∀ q, Cod ((w.drewN q).setCell ⟨cb, 1, none⟩ (.int .i64 ((k + 1 : Nat) : Int))) cb) :
    Calls Tryz.prog 14 #[.pointer (some ⟨cb, 0, none⟩), .int .i64 n] w fun e w' => ∃ y q, e = .returned (.int .i64 ((256 * x + y) % n)) /\ 0 <= y /\ y <= 255 /\ Cod w' cb /\ ((w.drewN q).setCell ⟨cb, 1, none⟩ (.int .i64 ((k + 1 : Nat) : Int))).grownBy w' (some cb) /\ w'.heap.size <= w.heap.size := by
  have hc0 := hb.cell 0;have hc1 := hb.cell 1;have hf0 := hb.frozen 0;have hf1 := hb.frozen 1;simp at hc0 hc1;have HC := Lib.hid hC;clear hC
  go_enter Tryz.func14, Tryz.ntmps14
  go_wp2_with fail
  go_quiet (fail)
  go_wp2_with fail
  go_quiet (fail)
  go_wp2_with fail
  refine (KhD cb _ 256 (HC.out _) (by omega)).mono ?_;rintro e w' ⟨y, rfl, hy0, _, hy1, hy2, hy3, hy4⟩;have hy1 := hy1 (by omega)
  go_wp2_with fail
  go_ret
  exact ⟨y, _, rfl, hy0, by omega, hy2, hy3, Nat.le_trans hy4 (by simp)⟩
theorem Kqr (cb : Nat) (w : World) (n : Int) (h : Cod w cb) :
    Calls Tryz.prog 14 #[.pointer (some ⟨cb, 0, none⟩), .int .i64 n] w (Kj4 n w cb) := by
  by_cases hn : n <= 256
  · exact KhD cb w n h hn
  · obtain ⟨A, m, c, l, k, hb, hk, hm, hl⟩ := h;by_cases hd : m <= k
    · refine (KhF cb w n A m c k hb (by omega) (.inl hd)).mono fun e w' ⟨he, q, hw⟩ => ?_;subst hw;refine ⟨0, he, by omega, by omega, by omega, ⟨A, m, c, l, k, hb.drewN q, hk, hm, hl.drewN q⟩, ⟨rfl, rfl, rfl, Nat.le_refl _, fun _ _ _ => rfl⟩, Nat.le_refl _⟩
    · have hkm : k < m := by omega
      obtain ⟨ad, x, rfl, _, _, hx0, hx1, hc⟩ := hl.at_ hkm;refine (Kme cb w n ad m c k x hb hkm hm (by omega) hc hx0 hx1 (fun q => (Cod.moved hb hkm hm hl q).1)).mono fun e w' ⟨y, q, he, hy0, hy1, hC, hg, hs⟩ => ?_;have g := (Cod.moved hb hkm hm hl q).2;have e1 : 0 <= (256 * x + y) % n := Int.emod_nonneg _ (by omega);have e2 : (256 * x + y) % n < n := Int.emod_lt_of_pos _ (by omega)
      have e3 : (256 * x + y) % n <= 65535 := by
        by_cases hlt : 256 * x + y < n
        · rw [Int.emod_eq_of_lt (by omega) hlt]; omega
        · omega
      refine ⟨_, he, e1, e3, fun _ => e2, hC, ⟨hg.os.trans g.os, hg.tape.trans g.tape, hg.output.trans g.output, Nat.le_trans g.size hg.size, fun i hi hne => ?_⟩, hs⟩;exact (hg.block i (Nat.lt_of_lt_of_le hi g.size) hne).trans (g.block i hi hne)
set_option maxRecDepth 20000
def Idn.cells (r : Idn) : List Value := [.int .i64 r.v, .int .i64 r.run, .int .i64 r.num]
theorem Ka6 : Cel Idn.cells 3 := ⟨fun _ => rfl, fun r u hu => by
 simp only [Idn.cells, List.mem_cons, List.not_mem_nil, or_false] at hu;rcases hu with rfl | rfl | rfl <;> rfl⟩
def Exl.cells (r : Exl) : List Value := [.int .u32 r.a, .int .u32 r.b, .int .i64 r.v1, .int .i64 r.r1, .int .i64 r.n1, .int .i64 r.v2, .int .i64 r.r2, .int .i64 r.n2]
theorem Kam : Cel Exl.cells 8 := ⟨fun _ => rfl, fun r u hu => by
 simp only [Exl.cells, List.mem_cons, List.not_mem_nil, or_false] at hu;rcases hu with rfl | rfl | rfl | rfl | rfl | rfl | rfl | rfl <;> rfl⟩
def Ev.cells (r : Ev) : List Value := [.int .i64 r.kind, .int .u32 r.a, .int .u32 r.b, .slice r.res.A r.res.l.length r.res.c]
theorem Kx : Cel Ev.cells 4 := ⟨fun _ => rfl, fun r u hu => by
 simp only [Ev.cells, List.mem_cons, List.not_mem_nil, or_false] at hu;rcases hu with rfl | rfl | rfl | rfl <;> rfl⟩
def EvR (w : World) (B : Nat) (e : Ev) : Prop := Kh w B 3 e.res.A e.res.l.length (Ka Idn.cells e.res.l) /\ e.res.l.length <= 5864062014634
theorem EvR.up {w0 w : World} {e : Ev} (h : EvR w0 w0.heap.size e) (hb : Below w0.heap.size w0 w) : EvR w w.heap.size e := ⟨h.1.up hb, h.2⟩
theorem Kco (x y : Int) (a b : List Int) : Kl (x :: a) (y :: b) = if Kw x y = 0 then Kl a b else Kw x y := by
 rw [Kl];unfold Kw;by_cases h1 : x < y
 ·rw [if_pos h1, if_pos h1, if_neg (by omega)]
 rw [if_neg h1, if_neg h1];by_cases h2 : y < x
 ·rw [if_pos h2, if_pos h2, if_neg (by omega)]
 rw [if_neg h2, if_neg h2, if_pos rfl]
theorem Ke8 : ∀ {a b r s : List Int}, a.length = b.length -> Kl (a ++ r) (b ++ s) = if Kl a b = 0 then Kl r s else Kl a b
 | [], [], r, s, _ => (if_pos rfl).symm
 | [], y :: b, r, s, h => by cases h
 | x :: a, [], r, s, h => by cases h
 | x :: a, y :: b, r, s, h => by
  rw [List.cons_append, List.cons_append, Kco, Kco];by_cases h1 : Kw x y = 0
  ·rw [if_pos h1, if_pos h1]; exact Ke8 (by simpa using h)
  rw [if_neg h1, if_neg h1, if_neg h1]
theorem Kex (x : Int) : orI [x] = x := by
 rw [Kbz];by_cases h : x = 0
 ·rw [if_pos h, h]; rfl
 rw [if_neg h]
theorem Kpi (x : Int) : (if x = 0 then 0 else x) = x := by split <;> omega
theorem Kfs (x y : Idn) : orI [Kw x.v y.v, Kw x.run y.run, Kw x.num y.num] = Kl x.keys y.keys := by
 unfold Idn.keys;rw [Kco, Kco, Kco, Kbz, Kbz, Kex, show Kl [] [] = 0 from rfl, Kpi]
theorem Khc (x y : Idn) : x.keys.length = y.keys.length := rfl
theorem KhP (x y : Ev) : KaM x.c y.c = orI [Kw x.kind y.kind, Kw x.a y.a, Kw x.b y.b, Kl (x.res.l.flatMap Idn.keys) (y.res.l.flatMap Idn.keys)] := by
 unfold KaM EvC.keys Ev.c;dsimp only;rw [Kco, Kco, Kco, Kbz, Kbz, Kbz, Kex]
theorem KoR (x y : Exl) : Kl x.keys y.keys = orI [Kw x.a y.a, Kw x.b y.b, Kl (⟨x.v1, x.r1, x.n1⟩ : Idn).keys (⟨y.v1, y.r1, y.n1⟩ : Idn).keys, Kl (⟨x.v2, x.r2, x.n2⟩ : Idn).keys (⟨y.v2, y.r2, y.n2⟩ : Idn).keys] := by
 have e : ∀ z : Exl, z.keys = z.a :: z.b :: ((⟨z.v1, z.r1, z.n1⟩ : Idn).keys ++ ((⟨z.v2, z.r2, z.n2⟩ : Idn).keys)) := fun z => rfl;rw [e x, e y, Kco, Kco, Ke8 (Khc _ _), Kbz, Kbz, Kbz, Kex]
def KcA (xs ys : List Idn) (i : Nat) : Prop := i <= ys.length /\ Kl ((xs.drop i).flatMap Idn.keys) ((ys.drop i).flatMap Idn.keys) = Kl (xs.flatMap Idn.keys) (ys.flatMap Idn.keys)
theorem Ki2 {xs ys : List Idn} : KcA xs ys 0 := ⟨Nat.zero_le _, rfl⟩
theorem KdF {xs : List Idn} {i : Nat} {x : Idn} (h : xs[i]? = some x) : (xs.drop i).flatMap Idn.keys = x.keys ++ (xs.drop (i + 1)).flatMap Idn.keys := by
 obtain ⟨hlt, rfl⟩ := List.getElem?_eq_some_iff.1 h;rw [List.drop_eq_getElem_cons hlt, List.flatMap_cons]
theorem Kib {xs ys : List Idn} {i : Nat} {x y : Idn} (h : KcA xs ys i) (hx : xs[i]? = some x) (hy : ys[i]? = some y) (he : Kl x.keys y.keys = 0) : KcA xs ys (i + 1) := by
 have := (List.getElem?_eq_some_iff.1 hy).1;refine ⟨by omega, ?_⟩;rw [<- h.2, KdF hx, KdF hy, Ke8 (Khc x y), if_pos he]
theorem Kjs {xs ys : List Idn} {i : Nat} {x y : Idn} (h : KcA xs ys i) (hx : xs[i]? = some x) (hy : ys[i]? = some y) (he : ¬ Kl x.keys y.keys = 0) : Kl (xs.flatMap Idn.keys) (ys.flatMap Idn.keys) = Kl x.keys y.keys := by
 rw [<- h.2, KdF hx, KdF hy, Ke8 (Khc x y), if_neg he]
theorem Khp {xs ys : List Idn} {i : Nat} (h : KcA xs ys i) (h1 : i < xs.length) (h2 : ys.length <= i) : Kl (xs.flatMap Idn.keys) (ys.flatMap Idn.keys) = 1 := by
 rw [<- h.2, KdF (List.getElem?_eq_getElem h1), List.drop_of_length_le h2]; rfl
theorem Kg4 {xs ys : List Idn} {i : Nat} (h : KcA xs ys i) (h1 : xs.length <= i) (h2 : i < ys.length) : Kl (xs.flatMap Idn.keys) (ys.flatMap Idn.keys) = -1 := by
 rw [<- h.2, KdF (List.getElem?_eq_getElem h2), List.drop_of_length_le h1]; rfl
theorem Kg7 {xs ys : List Idn} {i : Nat} (h : KcA xs ys i) (h1 : xs.length <= i) (h2 : ys.length <= i) : Kl (xs.flatMap Idn.keys) (ys.flatMap Idn.keys) = 0 := by
 rw [<- h.2, List.drop_of_length_le h1, List.drop_of_length_le h2]; rfl
theorem Kcj (w : World) : (sizeOf 3).run Tryz.prog w = .ok 1 w := rfl
theorem KL (w : World) : (isAgg 3).run Tryz.prog w = .ok false w := rfl
theorem Kfw : FA Tryz.prog 55 0 0 := fun g o w => by kernel_rfl
theorem Kfb : FA Tryz.prog 55 1 1 := fun g o w => by kernel_rfl
theorem KfT : FA Tryz.prog 55 2 2 := fun g o w => by kernel_rfl
theorem Kp5 (a0_0 : Int) (a1_0 : Int) (a2_0 : Int) (w : World) : (Instr.buildSlice 122 3 #[(0, .int .i64 a0_0), (1, .int .i64 a1_0), (2, .int .i64 a2_0)]).run Tryz.prog w = .ok (.slice (some ⟨w.heap.size, 0, none⟩) 3 3) (w.alloc (.cells [.int .i64 a0_0, .int .i64 a1_0, .int .i64 a2_0].toArray 3)) := by kernel_rfl
theorem KaJ (w : World) : (sizeOf 55).run Tryz.prog w = .ok 3 w := rfl
theorem KbZ (w : World) : (isAgg 55).run Tryz.prog w = .ok true w := rfl
theorem Kkv (w : World) : (zeroValue 55).run Tryz.prog w = .ok (.agg #[.int .i64 0, .int .i64 0, .int .i64 0]) w := rfl
theorem KdB : FA Tryz.prog 39 0 0 := fun g o w => by kernel_rfl
theorem Ka7 : FA Tryz.prog 39 1 1 := fun g o w => by kernel_rfl
theorem Kj (w : World) : (isAgg 30).run Tryz.prog w = .ok false w := rfl
theorem Kbm : FA Tryz.prog 39 2 2 := fun g o w => by kernel_rfl
theorem Kax : FA Tryz.prog 39 3 3 := fun g o w => by kernel_rfl
theorem KaD (w : World) : (isAgg 37).run Tryz.prog w = .ok false w := rfl
theorem Kig (a0_0 : Int) (a1_0 : Int) (a2_0 : Int) (a3_0 : Int) (w : World) : (Instr.buildSlice 122 4 #[(0, .int .i64 a0_0), (1, .int .i64 a1_0), (2, .int .i64 a2_0), (3, .int .i64 a3_0)]).run Tryz.prog w = .ok (.slice (some ⟨w.heap.size, 0, none⟩) 4 4) (w.alloc (.cells [.int .i64 a0_0, .int .i64 a1_0, .int .i64 a2_0, .int .i64 a3_0].toArray 3)) := by kernel_rfl
theorem Kdd : FA Tryz.prog 57 0 0 := fun g o w => by kernel_rfl
theorem Kc8 : FA Tryz.prog 57 1 1 := fun g o w => by kernel_rfl
theorem KiX : FA Tryz.prog 57 2 2 := fun g o w => by kernel_rfl
theorem Kj5 : FA Tryz.prog 57 3 5 := fun g o w => by kernel_rfl
theorem KkM (x : Int) (w : World) :
  Calls Tryz.prog 112 #[.int .i64 x] w fun e w' => e = .returned (.bool false) /\ w' = w := by
 refine Kn (I := fun w1 => w1 = w) Tryz.func112 rfl rfl rfl ?_ rfl;refine zSG (TL.as_ ?_);refine zET (zSG (TL.rn 2 rfl ?_));refine TL.w rfl (Ke rfl rfl rfl (fun w => KcR rfl w)) ?_;refine TL.as_ ?_;refine zET (zr ?_);exact Kf Tryz.results112 rfl (fun w1 hw => ⟨rfl, hw⟩)
theorem KhW (x : Int) (w : World) :
  Calls Tryz.prog 87 #[.int .u32 x] w fun e w' => e = .returned (.bool false) /\ w' = w := by
 refine Kn (I := fun w1 => w1 = w) Tryz.func87 rfl rfl rfl ?_ rfl;refine zSG (TL.as_ ?_);refine zET (zSG (TL.rn 2 rfl ?_));refine TL.w rfl (Ke rfl rfl rfl (fun w => KcR rfl w)) ?_;refine TL.as_ ?_;refine zET (zr ?_);exact Kf Tryz.results87 rfl (fun w1 hw => ⟨rfl, hw⟩)
theorem KeO (x y : Int) (w : World) :
  Calls Tryz.prog 78 #[.int .i64 x, .int .i64 y] w fun e w' => e = .returned (.int .i64 (Kw x y)) /\ w' = w := by
 refine Kn (I := fun w1 => w1 = w) Tryz.func78 rfl rfl rfl ?_ rfl;refine zSG (TL.as_ ?_);refine zET (zSG (TL.mv ?_));refine TL.stcall (r := .bool false) rfl rfl rfl rfl rfl Tryz.func112 (by decide) rfl (fun w1 hw => KkM x w1) ?_;refine TL.as_ ?_;refine zET (zSG (TL.mv ?_));refine TL.stcall (r := .bool false) rfl rfl rfl rfl rfl Tryz.func112 (by decide) rfl (fun w1 hw => KkM y w1) ?_;refine TL.as_ ?_;refine zET (zS (zSG (TL.mv ?_)));refine zET (zd (zk (zT (zS (zSG (TL.mv ?_))))));refine zET (zd (zk (zT (zS (zSG (TL.rn 2 rfl ?_))))));refine TL.sp Ks (fun q16 => ?_) (fun q16 => ?_)
 ·refine zET (zc (zSG (TL.as_ ?_)));refine zET (zr (zR ?_));have hE : (Kw x y) = -1 := (by simp [Kw, q16]; try omega);exact Kf Tryz.results78 rfl (fun w1 hw => ⟨by rw [hE]; try rfl, hw⟩)
 refine zET (zd (zk (zT (zS (zSG (TL.rn 2 rfl ?_))))));refine TL.sp Kag (fun q19 => ?_) (fun q19 => ?_)
 ·refine zET (zc (zSG (TL.as_ ?_)));refine zET (zr (zR ?_));have hE : (Kw x y) = 1 := (by simp [Kw, q16, q19]; try omega);exact Kf Tryz.results78 rfl (fun w1 hw => ⟨by rw [hE]; try rfl, hw⟩)
 refine zET (zd (zk (zT (zSG (TL.as_ ?_)))));refine zET (zr ?_);have hE : (Kw x y) = 0 := (by simp [Kw, q16, q19]; try omega);exact Kf Tryz.results78 rfl (fun w1 hw => ⟨by rw [hE]; try rfl, hw⟩)
theorem Keq (x y : Int) (w : World) :
  Calls Tryz.prog 54 #[.int .u32 x, .int .u32 y] w fun e w' => e = .returned (.int .i64 (Kw x y)) /\ w' = w := by
 refine Kn (I := fun w1 => w1 = w) Tryz.func54 rfl rfl rfl ?_ rfl;refine zSG (TL.as_ ?_);refine zET (zSG (TL.mv ?_));refine TL.stcall (r := .bool false) rfl rfl rfl rfl rfl Tryz.func87 (by decide) rfl (fun w1 hw => KhW x w1) ?_;refine TL.as_ ?_;refine zET (zSG (TL.mv ?_));refine TL.stcall (r := .bool false) rfl rfl rfl rfl rfl Tryz.func87 (by decide) rfl (fun w1 hw => KhW y w1) ?_;refine TL.as_ ?_;refine zET (zS (zSG (TL.mv ?_)));refine zET (zd (zk (zT (zS (zSG (TL.mv ?_))))));refine zET (zd (zk (zT (zS (zSG (TL.rn 2 rfl ?_))))));refine TL.sp Ks (fun q16 => ?_) (fun q16 => ?_)
 ·refine zET (zc (zSG (TL.as_ ?_)));refine zET (zr (zR ?_));have hE : (Kw x y) = -1 := (by simp [Kw, q16]; try omega);exact Kf Tryz.results54 rfl (fun w1 hw => ⟨by rw [hE]; try rfl, hw⟩)
 refine zET (zd (zk (zT (zS (zSG (TL.rn 2 rfl ?_))))));refine TL.sp Kag (fun q19 => ?_) (fun q19 => ?_)
 ·refine zET (zc (zSG (TL.as_ ?_)));refine zET (zr (zR ?_));have hE : (Kw x y) = 1 := (by simp [Kw, q16, q19]; try omega);exact Kf Tryz.results54 rfl (fun w1 hw => ⟨by rw [hE]; try rfl, hw⟩)
 refine zET (zd (zk (zT (zSG (TL.as_ ?_)))));refine zET (zr ?_);have hE : (Kw x y) = 0 := (by simp [Kw, q16, q19]; try omega);exact Kf Tryz.results54 rfl (fun w1 hw => ⟨by rw [hE]; try rfl, hw⟩)
theorem KgU (A0 : Option Addr) (n0 c0 : Nat) (xs : List Int) (w : World) (hr : Kh w w.heap.size 1 A0 n0 (Ka (ic .i64) xs)) (hl : xs.length = n0) (hl1 : xs.length <= 100000) :
  Calls Tryz.prog 77 #[.slice A0 n0 c0] w fun e w' => e = .returned (.int .i64 (orI xs)) /\ Below w.heap.size w w' := by
 subst hl;refine Kn Tryz.func77 rfl rfl rfl ?_ (Pm.start w);refine zSG (TL.as_ ?_);refine zET (zSG (TL.as_ ?_));refine zET (zS (zSG (TL.mv ?_)));refine TL.v (gN Tryz.underlying122) ?_;refine TL.mv ?_;refine zET (zB (TC.lp (α := {i : Nat // i <= xs.length /\ orI (xs.drop i) = orI xs}) [0, 3, 6, 7] rfl (fun y => [(8, .int .i64 ((y.1 : Nat) : Int))]) (fun y => Pm w []) (fun y => xs.length - y.1) (⟨0, Nat.zero_le _, rfl⟩) (fun w1 hw => hw) ?_));rintro ⟨i, hi, ho⟩
 try dsimp only at hi ho ⊢
 refine zSG ?_;refine TL.sp Ks (fun q9 => ?_) (fun q9 => ?_)
 ·refine zET (zS (zc (zk (zT (zS (zB (zSG ?_)))))));have hi10 : i < xs.length := by omega
  obtain ⟨x10, hx10⟩ := KA hi10;obtain ⟨b10, o10, hA10, hbb10, hc10⟩ := hr.ad (by omega) (by decide);have hdr : xs.drop i = x10 :: xs.drop (i + 1) := by obtain ⟨hlt, e⟩ := List.getElem?_eq_some_iff.1 hx10; rw [List.drop_eq_getElem_cons hlt, e]
  refine TL.w rfl (gA (i := i) Tryz.underlying122 Kcj rfl rfl rfl rfl hA10 (by omega)) ?_;refine TL.w rfl (Kt (v := .int .i64 x10) rfl rfl KL (fun w1 hw => (hw.bel.cell hbb10).trans <| KbC (KbF .i64) hx10 hc10 0 _ rfl)) ?_;refine TL.as_ ?_;refine zET (zSG (TL.rn 2 rfl ?_));refine TL.sp KY (fun q14 => ?_) (fun q14 => ?_)
  ·refine zET (zc (zSG (TL.rn 2 rfl (zET (zr (zRR (zR (zRR ?_))))))));exact Kf Tryz.results77 rfl (fun w1 hw => ⟨by rw [<- ho, hdr]; unfold orI; rw [if_neg q14], hw.bel⟩)
  have ho2 : orI (xs.drop (i + 1)) = orI xs := by rw [<- ho, hdr]; exact (if_pos (Decidable.not_not.1 q14)).symm
  refine zET (zd (zk (zN (zT (zG (TL.v (gD ((i + 1 : Nat) : Int)) ?_))))));refine TL.mv ?_;refine zE ?_;exact TX.rd (⟨i + 1, by omega, ho2⟩) (by show xs.length - (i + 1) < xs.length - i; omega) (fun w1 hw => hw)
 refine zET (zS (zd (zx (zX (zX (zM (zT (zSG (TL.rn 2 rfl (zET (zr ?_)))))))))));exact Kf Tryz.results77 rfl (fun w1 hw => ⟨by rw [<- ho, List.drop_of_length_le (by omega)]; rfl, hw.bel⟩)
theorem KfR (x y : Idn) (w : World) :
  Calls Tryz.prog 74 #[.agg x.cells.toArray, .agg y.cells.toArray] w fun e w' => e = .returned (.int .i64 (Kl x.keys y.keys)) /\ Below w.heap.size w w' := by
 refine Kn Tryz.func74 rfl rfl rfl ?_ (Pm.start w);refine zSG ?_;refine TL.bx fun g2 => ?_;refine TL.bx fun g3 => ?_;refine TL.as_ ?_;refine zET (zS (TC.tail 15 (by kernel_rfl) (by kernel_rfl) (fun w hw => hw.drawn _) ?_));refine TS.v (gF Kfw) ?_;refine TS.v (gL 1 KL) ?_;refine TS.v (gF Kfw) ?_;refine TS.v (gL 0 KL) ?_;refine TS.call (r := .int .i64 (Kw x.v y.v)) rfl rfl rfl rfl rfl Tryz.func78 (by decide) rfl (fun w1 hw => KeO x.v y.v w1) ?_;refine TS.v (gF Kfb) ?_;refine TS.v (gL 1 KL) ?_;refine TS.v (gF Kfb) ?_;refine TS.v (gL 0 KL) ?_;refine TS.call (r := .int .i64 (Kw x.run y.run)) rfl rfl rfl rfl rfl Tryz.func78 (by decide) rfl (fun w1 hw => KeO x.run y.run w1) ?_;refine TS.v (gF KfT) ?_;refine TS.v (gL 1 KL) ?_;refine TS.v (gF KfT) ?_;refine TS.v (gL 0 KL) ?_;refine TS.call (r := .int .i64 (Kw x.num y.num)) rfl rfl rfl rfl rfl Tryz.func78 (by decide) rfl (fun w1 hw => KeO x.num y.num w1) ?_;refine TS.end_ ?_;refine TL.prowS (e := 3) (size := 1) (cs := Ka (ic .i64) [Kw x.v y.v, Kw x.run y.run, Kw x.num y.num]) rfl rfl rfl rfl rfl (fun w => Kp5 _ _ _ w) (by decide) rfl (fun g20 => ?_);refine TL.p1 rfl o77 (fun w1 hw => KgU (some ⟨g20, 0, none⟩) 3 3 ([Kw x.v y.v, Kw x.run y.run, Kw x.num y.num]) w1 (Km hw (k := 0) rfl) rfl (by show 3 <= 100000; decide)) ?_;refine TL.as_ ?_;refine zET (zr ?_);exact Kf Tryz.results74 rfl (fun w1 hw => ⟨by rw [<- Kfs], hw.bel⟩)
theorem KmX (A0 A1 : Option Addr) (c0 c1 : Nat) (xs ys : List Idn) (w : World) (hr0 : Kh w w.heap.size 3 A0 xs.length (Ka Idn.cells xs)) (hl0 : xs.length <= 5864062014634) (hr1 : Kh w w.heap.size 3 A1 ys.length (Ka Idn.cells ys)) (hl1 : ys.length <= 5864062014634) :
  Calls Tryz.prog 79 #[.slice A0 xs.length c0, .slice A1 ys.length c1, .func (.func 74) #[] #[]] w fun e w' => e = .returned (.int .i64 (Kl (xs.flatMap Idn.keys) (ys.flatMap Idn.keys))) /\ Below w.heap.size w w' := by
 refine Kn Tryz.func79 rfl rfl rfl ?_ (Pm.start w);refine zSG (TL.as_ ?_);refine zET (zS (zSG (TL.mv ?_)));refine TL.v (gN Tryz.underlying37) ?_;refine TL.mv ?_;refine zET (zB (TC.lp (α := {i : Nat // i <= xs.length /\ KcA xs ys i}) [0, 1, 2, 6, 11, 12] rfl (fun y => [(13, .int .i64 ((y.1 : Nat) : Int))]) (fun y => Pm w []) (fun y => xs.length - y.1) (⟨0, Nat.zero_le _, Ki2⟩) (fun w1 hw => hw) ?_));rintro ⟨i, hi, ho⟩
 try dsimp only at hi ho ⊢
 refine zSG ?_;refine TL.sp Ks (fun q14 => ?_) (fun q14 => ?_)
 ·refine zET (zS (zc (zk (zT (zS (zB (zSG (TL.mv ?_))))))));have hi16 : i < xs.length := by omega
  obtain ⟨x16, hx16⟩ := KA hi16;obtain ⟨b16, o16, hA16, hbb16, hc16⟩ := hr0.ad (by omega) (by decide);refine TL.w rfl (gA (i := i) Tryz.underlying37 KaJ rfl rfl rfl rfl hA16 (by omega)) ?_;refine TL.v (gR Ka6 KbZ KaJ hbb16 hx16 hc16) ?_;refine TL.al Kkv fun g8 => ?_;refine TL.as_ ?_;refine TL.pstore (k := 0) (vs := x16.cells) rfl rfl rfl rfl rfl rfl rfl KaJ (Ka6.one _) (by show 3 <= 3; decide) (L' := [.blk g8 55 x16.cells]) rfl ?_;refine zET (zS (zSG (TL.rn 2 rfl (TL.v (gN Tryz.underlying37) ?_))));refine TL.sp Kaj (fun q21 => ?_) (fun q21 => ?_)
  ·refine zET (zc (zSG (TL.as_ ?_)));refine zET (zr (zR (zRR (zR (zRR ?_)))));exact Kf Tryz.results79 rfl (fun w1 hw => ⟨by rw [Khp ho (by omega) (by omega)], hw.bel⟩)
  refine zET (zd (zk (zT (zSG (TL.rn 2 rfl ?_)))));have hi24 : i < ys.length := by omega
  obtain ⟨x24, hx24⟩ := KA hi24;obtain ⟨b24, o24, hA24, hbb24, hc24⟩ := hr1.ad (by omega) (by decide);refine TL.w rfl (gA (i := i) Tryz.underlying37 KaJ rfl rfl rfl rfl hA24 (by omega)) ?_;refine TL.v (gR Ka6 KbZ KaJ hbb24 hx24 hc24) ?_;refine TL.al Kkv fun g9 => ?_;refine TL.pstore (k := 0) (vs := x24.cells) rfl rfl rfl rfl rfl rfl rfl KaJ (Ka6.one _) (by show 3 <= 3; decide) (L' := [.blk g9 55 x24.cells, .blk g8 55 x16.cells]) rfl ?_;refine zET (zSG (TL.mv ?_));refine TL.v (gV 1 (.agg (x16.cells).toArray) KbZ KaJ) ?_;refine TL.v (gV 0 (.agg (x24.cells).toArray) KbZ KaJ) ?_;refine TL.callE1 (r := .int .i64 (Kl x16.keys x24.keys)) rfl rfl rfl (Kcf rfl rfl rfl Tryz.func74 (by decide) rfl rfl) (fun w1 hw => KfR x16 x24 w1) ?_;refine TL.as_ ?_;refine zET (zSG (TL.mv ?_));refine TL.sp KY (fun q31 => ?_) (fun q31 => ?_)
  ·refine zET (zc (zSG (TL.rn 2 rfl (zET (zr (zRR (zR (zRR ?_))))))));exact Kf Tryz.results79 rfl (fun w1 hw => ⟨by rw [Kjs ho hx16 hx24 q31], hw.bel⟩)
  have ho2 := Kib ho hx16 hx24 (Decidable.not_not.1 q31);refine zET (zd (zk (zN (zT (zG (TL.v (gD ((i + 1 : Nat) : Int)) ?_))))));refine TL.mv ?_;refine zE ?_;exact TX.rd (⟨i + 1, by omega, ho2⟩) (by show xs.length - (i + 1) < xs.length - i; omega) (fun w1 hw => hw.pk [])
 refine zET (zS (zd (zx (zX (zX (zM (zT (zS (zSG (TL.mv ?_))))))))));refine TL.v (gN Tryz.underlying37) ?_;refine TL.mv ?_;refine TL.v (gN Tryz.underlying37) ?_;refine TL.sp Ks (fun q38 => ?_) (fun q38 => ?_)
 ·refine zET (zc (zSG (TL.as_ ?_)));refine zET (zr (zR ?_));exact Kf Tryz.results79 rfl (fun w1 hw => ⟨by rw [Kg4 ho (by omega) (by omega)], hw.bel⟩)
 refine zET (zd (zk (zT (zSG (TL.as_ ?_)))));refine zET (zr ?_);exact Kf Tryz.results79 rfl (fun w1 hw => ⟨by rw [Kg7 ho (by omega) (by omega)], hw.bel⟩)
theorem Kgi (x y : Ev) (w : World) (hx : EvR w w.heap.size x) (hy : EvR w w.heap.size y) :
  Calls Tryz.prog 43 #[.agg x.cells.toArray, .agg y.cells.toArray] w fun e w' => e = .returned (.int .i64 (KaM x.c y.c)) /\ Below w.heap.size w w' := by
 refine Kn Tryz.func43 rfl rfl rfl ?_ (Pm.start w);refine zSG ?_;refine TL.bx fun g2 => ?_;refine TL.bx fun g3 => ?_;refine TL.as_ ?_;refine zET (zS (TC.hd 23 (Pm w [.blk g3 39 y.cells, .blk g2 39 x.cells]) (fun w1 hw => hw) fun jS => ?_));refine TH.t 0 rfl (gF KdB) jS ?_;refine TH.t 1 rfl (gL 1 KL) jS ?_;refine TH.t 2 rfl (gF KdB) jS ?_;refine TH.t 3 rfl (gL 0 KL) jS ?_;refine TH.takeC (r := .int .i64 (Kw x.kind y.kind)) (listed' := #[Tt,Tt,Tt,Tt,Tt,Ff,Ff,Ff,Ff,Ff,Ff,Ff,Ff,Ff,Ff,Ff,Ff,Ff,Ff,Ff,Ff,Ff,Ff]) 4 rfl (by kernel_rfl) (by kernel_rfl) (by kernel_rfl) rfl rfl rfl rfl rfl rfl Tryz.func78 (by decide) rfl (fun w1 hw => KeO x.kind y.kind w1) (fun w1 hw => hw) ?_;refine TH.tk 5 rfl rfl rfl (gF Ka7) (fun w1 hw => hw) ?_;refine TH.tk 6 rfl rfl rfl (gL 1 Kj) (fun w1 hw => hw) ?_;refine TH.tk 7 rfl rfl rfl (gF Ka7) (fun w1 hw => hw) ?_;refine TH.tk 8 rfl rfl rfl (gL 0 Kj) (fun w1 hw => hw) ?_;refine TH.takeC (r := .int .i64 (Kw x.a y.a)) (listed' := #[Tt,Tt,Tt,Tt,Tt,Tt,Tt,Tt,Tt,Tt,Ff,Ff,Ff,Ff,Ff,Ff,Ff,Ff,Ff,Ff,Ff,Ff,Ff]) 9 rfl (by kernel_rfl) (by kernel_rfl) (by kernel_rfl) rfl rfl rfl rfl rfl rfl Tryz.func54 (by decide) rfl (fun w1 hw => Keq x.a y.a w1) (fun w1 hw => hw) ?_;refine TH.tk 10 rfl rfl rfl (gF Kbm) (fun w1 hw => hw) ?_;refine TH.tk 11 rfl rfl rfl (gL 1 Kj) (fun w1 hw => hw) ?_;refine TH.tk 12 rfl rfl rfl (gF Kbm) (fun w1 hw => hw) ?_;refine TH.tk 13 rfl rfl rfl (gL 0 Kj) (fun w1 hw => hw) ?_;refine TH.takeC (r := .int .i64 (Kw x.b y.b)) (listed' := #[Tt,Tt,Tt,Tt,Tt,Tt,Tt,Tt,Tt,Tt,Tt,Tt,Tt,Tt,Tt,Ff,Ff,Ff,Ff,Ff,Ff,Ff,Ff]) 14 rfl (by kernel_rfl) (by kernel_rfl) (by kernel_rfl) rfl rfl rfl rfl rfl rfl Tryz.func54 (by decide) rfl (fun w1 hw => Keq x.b y.b w1) (fun w1 hw => hw) ?_;refine TH.tk 15 rfl rfl rfl (gF Kax) (fun w1 hw => hw) ?_;refine TH.tk 16 rfl rfl rfl (gL 1 KaD) (fun w1 hw => hw) ?_;refine TH.tk 17 rfl rfl rfl (gF Kax) (fun w1 hw => hw) ?_;refine TH.tk 18 rfl rfl rfl (gL 0 KaD) (fun w1 hw => hw) ?_;refine TH.o 19 ?_;refine TL.p1 rfl o79 (fun w1 hw => KmX x.res.A y.res.A x.res.c y.res.c x.res.l y.res.l w1 (hx.1.up hw.bel) hx.2 (hy.1.up hw.bel) hy.2) ?_;refine zE ?_;refine TX.held (fun w1 hw => hw) ?_;refine TH.o 20 ?_;refine TL.prowS (e := 3) (size := 1) (cs := Ka (ic .i64) [Kw x.kind y.kind, Kw x.a y.a, Kw x.b y.b, Kl (x.res.l.flatMap Idn.keys) (y.res.l.flatMap Idn.keys)]) rfl rfl rfl rfl rfl (fun w => Kig _ _ _ _ w) (by decide) rfl (fun g25 => ?_);refine zE ?_;refine TX.held (fun w1 hw => hw.pk [1, 2]) ?_;refine TH.o 21 ?_;refine TL.p1 rfl o77 (fun w1 hw => KgU (some ⟨g25, 0, none⟩) 4 4 ([Kw x.kind y.kind, Kw x.a y.a, Kw x.b y.b, Kl (x.res.l.flatMap Idn.keys) (y.res.l.flatMap Idn.keys)]) w1 (Km hw (k := 0) rfl) rfl (by show 4 <= 100000; decide)) ?_;refine zE ?_;refine TX.he (fun w1 hw => hw.pk [1, 2]) fun hS => ?_;refine TH.t 22 rfl (Kbv rfl rfl) hS ?_;refine TH.done (by kernel_rfl) ?_;refine zT (zr ?_);exact Kf Tryz.results43 rfl (fun w1 hw => ⟨by rw [KhP], hw.bel⟩)
theorem KqK (x y : Exl) (w : World) :
  Calls Tryz.prog 68 #[.agg x.cells.toArray, .agg y.cells.toArray] w fun e w' => e = .returned (.int .i64 (Kl x.keys y.keys)) /\ Below w.heap.size w w' := by
 refine Kn Tryz.func68 rfl rfl rfl ?_ (Pm.start w);refine zSG ?_;refine TL.bx fun g2 => ?_;refine TL.bx fun g3 => ?_;refine TL.as_ ?_;refine zET (zS (TC.hd 23 (Pm w [.blk g3 57 y.cells, .blk g2 57 x.cells]) (fun w1 hw => hw) fun jS => ?_));refine TH.t 0 rfl (gF Kdd) jS ?_;refine TH.t 1 rfl (gL 1 Kj) jS ?_;refine TH.t 2 rfl (gF Kdd) jS ?_;refine TH.t 3 rfl (gL 0 Kj) jS ?_;refine TH.takeC (r := .int .i64 (Kw x.a y.a)) (listed' := #[Tt,Tt,Tt,Tt,Tt,Ff,Ff,Ff,Ff,Ff,Ff,Ff,Ff,Ff,Ff,Ff,Ff,Ff,Ff,Ff,Ff,Ff,Ff]) 4 rfl (by kernel_rfl) (by kernel_rfl) (by kernel_rfl) rfl rfl rfl rfl rfl rfl Tryz.func54 (by decide) rfl (fun w1 hw => Keq x.a y.a w1) (fun w1 hw => hw) ?_;refine TH.tk 5 rfl rfl rfl (gF Kc8) (fun w1 hw => hw) ?_;refine TH.tk 6 rfl rfl rfl (gL 1 Kj) (fun w1 hw => hw) ?_;refine TH.tk 7 rfl rfl rfl (gF Kc8) (fun w1 hw => hw) ?_;refine TH.tk 8 rfl rfl rfl (gL 0 Kj) (fun w1 hw => hw) ?_;refine TH.takeC (r := .int .i64 (Kw x.b y.b)) (listed' := #[Tt,Tt,Tt,Tt,Tt,Tt,Tt,Tt,Tt,Tt,Ff,Ff,Ff,Ff,Ff,Ff,Ff,Ff,Ff,Ff,Ff,Ff,Ff]) 9 rfl (by kernel_rfl) (by kernel_rfl) (by kernel_rfl) rfl rfl rfl rfl rfl rfl Tryz.func54 (by decide) rfl (fun w1 hw => Keq x.b y.b w1) (fun w1 hw => hw) ?_;refine TH.tk 10 rfl rfl rfl (gF KiX) (fun w1 hw => hw) ?_;refine TH.tk 11 rfl rfl rfl (gV 1 (.agg #[.int .i64 x.v1, .int .i64 x.r1, .int .i64 x.n1]) KbZ KaJ) (fun w1 hw => hw) ?_;refine TH.tk 12 rfl rfl rfl (gF KiX) (fun w1 hw => hw) ?_;refine TH.tk 13 rfl rfl rfl (gV 0 (.agg #[.int .i64 y.v1, .int .i64 y.r1, .int .i64 y.n1]) KbZ KaJ) (fun w1 hw => hw) ?_;refine TH.tk 15 rfl rfl rfl (gF Kj5) (fun w1 hw => hw) ?_;refine TH.tk 16 rfl rfl rfl (gV 1 (.agg #[.int .i64 x.v2, .int .i64 x.r2, .int .i64 x.n2]) KbZ KaJ) (fun w1 hw => hw) ?_;refine TH.tk 17 rfl rfl rfl (gF Kj5) (fun w1 hw => hw) ?_;refine TH.tk 18 rfl rfl rfl (gV 0 (.agg #[.int .i64 y.v2, .int .i64 y.r2, .int .i64 y.n2]) KbZ KaJ) (fun w1 hw => hw) ?_;refine TH.o 14 ?_;refine TL.p1 rfl o74 (fun w1 hw => KfR (⟨x.v1, x.r1, x.n1⟩ : Idn) (⟨y.v1, y.r1, y.n1⟩ : Idn) w1) ?_;refine zE ?_;refine TX.held (fun w1 hw => hw) ?_;refine TH.o 19 ?_;refine TL.p1 rfl o74 (fun w1 hw => KfR (⟨x.v2, x.r2, x.n2⟩ : Idn) (⟨y.v2, y.r2, y.n2⟩ : Idn) w1) ?_;refine zE ?_;refine TX.held (fun w1 hw => hw) ?_;refine TH.o 20 ?_;refine TL.prowS (e := 3) (size := 1) (cs := Ka (ic .i64) [Kw x.a y.a, Kw x.b y.b, Kl (⟨x.v1, x.r1, x.n1⟩ : Idn).keys (⟨y.v1, y.r1, y.n1⟩ : Idn).keys, Kl (⟨x.v2, x.r2, x.n2⟩ : Idn).keys (⟨y.v2, y.r2, y.n2⟩ : Idn).keys]) rfl rfl rfl rfl rfl (fun w => Kig _ _ _ _ w) (by decide) rfl (fun g25 => ?_);refine zE ?_;refine TX.held (fun w1 hw => hw.pk [1, 2]) ?_;refine TH.o 21 ?_;refine TL.p1 rfl o77 (fun w1 hw => KgU (some ⟨g25, 0, none⟩) 4 4 ([Kw x.a y.a, Kw x.b y.b, Kl (⟨x.v1, x.r1, x.n1⟩ : Idn).keys (⟨y.v1, y.r1, y.n1⟩ : Idn).keys, Kl (⟨x.v2, x.r2, x.n2⟩ : Idn).keys (⟨y.v2, y.r2, y.n2⟩ : Idn).keys]) w1 (Km hw (k := 0) rfl) rfl (by show 4 <= 100000; decide)) ?_;refine zE ?_;refine TX.he (fun w1 hw => hw.pk [1, 2]) fun hS => ?_;refine TH.t 22 rfl (Kbv rfl rfl) hS ?_;refine TH.done (by kernel_rfl) ?_;refine zT (zr ?_);exact Kf Tryz.results68 rfl (fun w1 hw => ⟨by rw [KoR], hw.bel⟩)
open Go.RowKit Go.Shelf Go.Sort
set_option maxRecDepth 20000
def Kks : Go.Shelf.Ren := ⟨fun | 6 => 42 | 14 => 75 | 15 => 76 | 20 => 102 | 21 => 103 | 22 => 104 | 23 => 105 | 24 => 106 | 25 => 107 | 26 => 108 | 27 => 109 | 28 => 110 | 29 => 111 | 46 => 133 | 47 => 134 | 48 => 135 | 49 => 136 | 50 => 137 | 57 => 144 | n => n, fun | 22 => 23 | 24 => 39 | 25 => 70 | 39 => 110 | 45 => 136 | 46 => 137 | 50 => 134 | 53 => 29 | 55 => 144 | 66 => 160 | 70 => 164 | 76 => 170 | 77 => 171 | n => n, fun n => n⟩
theorem Kqk : SlLaysF0.n6 Tryz.prog Kks where
  mixed := by kernel_rfl
  f6 := ⟨Tryz.f42.name, by decide, Tryz.func42.trans (by kernel_rfl)⟩
  f14 := ⟨Tryz.f75.name, by decide, Tryz.func75.trans (by kernel_rfl)⟩
  f15 := Tryz.func76.trans (by kernel_rfl)
  f20 := ⟨Tryz.f102.name, by decide, Tryz.func102.trans (by kernel_rfl)⟩
  f21 := ⟨Tryz.f103.name, by decide, Tryz.func103.trans (by kernel_rfl)⟩
  f22 := ⟨Tryz.f104.name, by decide, Tryz.func104.trans (by kernel_rfl)⟩
  f23 := ⟨Tryz.f105.name, by decide, Tryz.func105.trans (by kernel_rfl)⟩
  f24 := ⟨Tryz.f106.name, by decide, Tryz.func106.trans (by kernel_rfl)⟩
  f25 := ⟨Tryz.f107.name, by decide, Tryz.func107.trans (by kernel_rfl)⟩
  f26 := ⟨Tryz.f108.name, by decide, Tryz.func108.trans (by kernel_rfl)⟩
  f27 := ⟨Tryz.f109.name, by decide, Tryz.func109.trans (by kernel_rfl)⟩
  f28 := Tryz.func110.trans (by kernel_rfl)
  f29 := Tryz.func111.trans (by kernel_rfl)
  f46 := ⟨Tryz.f133.name, by decide, Tryz.func133.trans (by kernel_rfl)⟩
  f47 := Tryz.func134.trans (by kernel_rfl)
  f48 := Tryz.func135.trans (by kernel_rfl)
  f49 := ⟨Tryz.f136.name, by decide, Tryz.func136.trans (by kernel_rfl)⟩
  f50 := ⟨Tryz.f137.name, by decide, Tryz.func137.trans (by kernel_rfl)⟩
  f57 := ⟨Tryz.f144.name, by decide, Tryz.func144.trans (by kernel_rfl)⟩
  t0 := Tryz.underlying0
  a0 := fun w => rfl
  z0 := fun w => rfl
  v0 := fun w => rfl
  t3 := Tryz.underlying3
  a3 := fun w => rfl
  z3 := fun w => rfl
  v3 := fun w => rfl
  t4 := Tryz.underlying4
  a4 := fun w => rfl
  z4 := fun w => rfl
  v4 := fun w => rfl
  t5 := Tryz.underlying5
  a5 := fun w => rfl
  z5 := fun w => rfl
  v5 := fun w => rfl
  t9 := Tryz.underlying9
  a9 := fun w => rfl
  z9 := fun w => rfl
  v9 := fun w => rfl
  t22 := Tryz.underlying23
  a22 := fun w => rfl
  z22 := fun w => rfl
  v22 := fun w => rfl
  t25 := Tryz.underlying70
  a25 := fun w => rfl
  z25 := fun w => rfl
  v25 := fun w => rfl
  t39 := Tryz.underlying110
  a39 := fun w => rfl
  z39 := fun w => rfl
  v39 := fun w => rfl
  t45 := Tryz.underlying136
  a45 := fun w => rfl
  z45 := fun w => rfl
  v45 := fun w => rfl
  t46 := Tryz.underlying137
  a46 := fun w => rfl
  z46 := fun w => rfl
  v46 := fun w => rfl
  t50 := Tryz.underlying134
  a50 := fun w => rfl
  z50 := fun w => rfl
  v50 := fun w => rfl
  t53 := Tryz.underlying29
  a53 := fun w => rfl
  z53 := fun w => rfl
  v53 := fun w => rfl
  t55 := Tryz.underlying144
  a55 := fun w => rfl
  z55 := fun w => rfl
  v55 := fun w => rfl
  t66 := Tryz.underlying160
  a66 := fun w => rfl
  z66 := fun w => rfl
  v66 := fun w => rfl
  t70 := Tryz.underlying164
  a70 := fun w => rfl
  z70 := fun w => rfl
  v70 := fun w => rfl
  t76 := Tryz.underlying170
  a76 := fun w => rfl
  z76 := fun w => rfl
  v76 := fun w => rfl
  t77 := Tryz.underlying171
  a77 := fun w => rfl
  z77 := fun w => rfl
  v77 := fun w => rfl
theorem Kqq (w : World) (B : Nat) : EvR w B ⟨0, 0, 0, Sg.nil Idn⟩ := ⟨⟨rfl, fun h => absurd h (Nat.lt_irrefl 0)⟩, Nat.zero_le _⟩
theorem Kpo {b n cap : Nat} {A : Option Addr} {l : List Ev} {w : World} (hr : w.ownsRow b 39 4 (.slice A n cap) n (Ka Ev.cells l)) (hl : l.length = n) (hn : n <= 100000000000) (hG : ∀ x ∈ l, ∀ w1, w.grownBy w1 (Value.ownBlock (.slice A n cap)) -> EvR w1 w1.heap.size x) :
    Calls Tryz.prog 42 #[.slice A n cap, .func (.func 43) #[] #[]] w fun en w' => en = .returned (.tuple #[]) /\ ∃ l', KbQ (fun x y => KaM x.c y.c) l l' /\ w'.ownsRow b 39 4 (.slice A n cap) n (Ka Ev.cells l') /\ w.grownBy w' (Value.ownBlock (.slice A n cap)) :=
  KoG (ρ := Kks) Kqk Kx (fun w => rfl) (fun w => rfl) (fun x y => KaM x.c y.c) (Klb fun x : Ev => x.c.keys) 43 (enters_of Tryz.func43 (by kernel_rfl) rfl) (fun x => ∀ w1, w.grownBy w1 (Value.ownBlock (.slice A n cap)) -> EvR w1 w1.heap.size x) ⟨0, 0, 0, Sg.nil Idn⟩ (fun w1 _ => Kqq w1 _) hG (fun x y w1 hx hy h1 => Kgi x y w1 (hx w1 h1) (hy w1 h1)) hr hl (by omega)
set_option maxRecDepth 20000
def Ev.zero : Ev := ⟨0, 0, 0, ⟨none, 0, []⟩⟩
theorem KfJ {x y : EvC} (h : KaM x y = 0) : x = y := EvC.inj x y (KfI h)
theorem Kkq {xs ys : List Ev} {a p : Nat} {x : Ev} (hI : ∀ p, a <= p -> ys[p]? = xs[p]?) (hp : a <= p) (hx : ys[p]? = some x) : x ∈ xs := List.mem_of_getElem? ((hI p hp).symm.trans hx)
theorem K6 (w : World) : (isAgg 39).run Tryz.prog w = .ok true w := rfl
theorem KF (w : World) : (sizeOf 39).run Tryz.prog w = .ok 4 w := rfl
theorem Kcd (w : World) : (zeroValue 39).run Tryz.prog w = .ok (.agg #[.int .i64 0, .int .u32 0, .int .u32 0, .slice none 0 0]) w := rfl
theorem Kji (x y : Ev) (w : World) (hx : EvR w w.heap.size x) (hy : EvR w w.heap.size y) :
  Calls Tryz.prog 45 #[.agg x.cells.toArray, .agg y.cells.toArray] w fun e w' => e = .returned (.bool (decide (x.c = y.c))) /\ Below w.heap.size w w' := by
 refine Kn Tryz.func45 rfl rfl rfl ?_ (Pm.start w);refine zSG ?_;refine TL.bx fun g2 => ?_;refine TL.bx fun g3 => ?_;refine TL.as_ ?_;refine zET (zSG (TL.v (gV 1 (.agg (x.cells).toArray) K6 KF) ?_));refine TL.v (gV 0 (.agg (y.cells).toArray) K6 KF) ?_;refine TL.p1 rfl o43 (fun w1 hw => Kgi x y w1 (hx.up hw.bel) (hy.up hw.bel)) ?_;refine TL.sp K8 (fun q8 => ?_) (fun q8 => ?_)
 ·refine TL.as_ ?_;refine zET (zr ?_);have hE : decide (x.c = y.c) = true := decide_eq_true (KfJ q8);exact Kf Tryz.results45 rfl (fun w1 hw => ⟨by rw [hE], hw.bel⟩)
 refine TL.as_ ?_;refine zET (zr ?_);have hE : decide (x.c = y.c) = false := decide_eq_false (fun e => q8 (by rw [e]; exact Kcq _));exact Kf Tryz.results45 rfl (fun w1 hw => ⟨by rw [hE], hw.bel⟩)
theorem Knd (g n c : Nat) (xs : List Ev) (w : World) (h : RwG 39 4 w g n c (Ka Ev.cells xs)) (hl : xs.length = n) (hn : n <= 1000000000) (hG : ∀ x ∈ xs, ∀ w1, w.grownBy w1 (some g) -> EvR w1 w1.heap.size x) :
  Calls Tryz.prog 44 #[.slice (some ⟨g, 0, none⟩) n c, .func (.func 45) #[] #[]] w fun en w' => en = .returned (.slice (some ⟨g, 0, none⟩) (K9 Ev.c xs).length c) /\ RwG 39 4 w' g (K9 Ev.c xs).length c (Ka Ev.cells (K9 Ev.c xs)) /\ w.grownBy w' (some g) := by
 have hcap := h.obj.2.1;have hmax := h.obj.2.2;have gw : ∀ {R : Pc} {w1 : World}, Pm ⟨KC w g, g⟩ (R :: Kr g w) w1 -> w.grownBy w1 (some g) := fun hw => hw.mapEnd (fun q hq => by simp [hq]);refine Kn (I := Pm ⟨KC w g, g⟩ (.row (.slice (some ⟨g, 0, none⟩) n c) 39 4 n (Ka Ev.cells xs) :: Kr g w)) Tryz.func44 rfl rfl rfl ?_ (Pm.rowStartG h);refine zSG (TL.as_ ?_);refine zET (zS (zSG (TL.mv ?_)));refine TL.v (gN Tryz.underlying23) ?_;refine TL.sp Ks (fun q10 => ?_) (fun q10 => ?_)
 ·have hE : K9 Ev.c xs = xs := Klt (by omega);refine zET (zc (zSG (TL.rn 2 rfl (zET (zr (zR ?_))))));exact Kf Tryz.results44 rfl (fun w1 hw => by rw [hE, hl]; exact ⟨rfl, Key hw (k := 0) rfl, gw hw⟩)
 refine zET (zd (zk (zT (zS (zSG (TL.as_ ?_))))));refine zET (zB ?_);refine TC.lp (α := {k : Nat // 1 <= k /\ k <= n /\ K9 Ev.c (xs.take k) = xs.take k}) [0, 1] rfl (fun y => [(5, .int .i64 ((y.1 : Nat) : Int))]) (fun y => Pm ⟨KC w g, g⟩ ([.row (.slice (some ⟨g, 0, none⟩) n c) 39 4 n (Ka Ev.cells xs)] ++ Kr g w)) (fun y => n - y.1) (⟨1, Nat.le_refl _, by omega, KlU xs⟩) (fun w1 hw => hw) ?_;rintro ⟨k0, hk1, hk2, hK⟩
 try dsimp only
 refine zS (zSG (TL.rn 2 rfl (TL.v (gN Tryz.underlying23) ?_)));refine TL.sp Ks (fun q15 => ?_) (fun q15 => ?_)
 ·refine zET (zc (zk (zT (zS (zB (zS (TC.quietQ (by kernel_rfl) (by kernel_rfl) (fun w hw => hw.drawn _) ?_)))))));refine TQ.rn 3 rfl ?_;have hi21 : k0 < xs.length := by omega
  obtain ⟨x21, hx21⟩ := KA hi21;refine TQ.w rfl (gA (i := k0) Tryz.underlying23 KF rfl rfl rfl rfl rfl (by omega)) ?_;refine TQ.w rfl (KW (off := 0 + k0 * 4) rfl rfl K6 KF (Kx.len x21) (fun w1 hw j9 u9 h9 => KaC Kx hw (q := 0) rfl hx21 j9 u9 h9)) ?_;refine TQ.rn 2 rfl ?_;refine TQ.w rfl (Ke rfl rfl rfl (fun w => Kz (r := ((k0 - 1 : Nat) : Int)) (by simp only [IntKind.wrap_i64]; omega) w)) ?_;have hi26 : k0 - 1 < xs.length := by omega
  obtain ⟨x26, hx26⟩ := KA hi26;refine TQ.w rfl (gA (i := (k0 - 1)) Tryz.underlying23 KF rfl rfl rfl rfl rfl (by omega)) ?_;refine TQ.w rfl (KW (off := 0 + (k0 - 1) * 4) rfl rfl K6 KF (Kx.len x26) (fun w1 hw j9 u9 h9 => KaC Kx hw (q := 0) rfl hx26 j9 u9 h9)) ?_;obtain ⟨bv, hbv⟩ : ∃ b, decide (x21.c = x26.c) = b := ⟨_, rfl⟩;refine TQ.callE (v := .bool bv) rfl rfl rfl (Kcf rfl rfl rfl Tryz.func45 (by decide) rfl rfl) (fun w1 hw => (Kji x21 x26 w1 (hG x21 (List.mem_of_getElem? hx21) w1 (gw hw)) (hG x26 (List.mem_of_getElem? hx26) w1 (gw hw))).mono fun e w2 h9 => ⟨by rw [<- hbv]; exact h9.1, hw.below h9.2⟩) ?_;refine TQ.fin ?_;refine zT ?_;refine TC.split (t := bv) rfl (fun c28 => ?_) (fun c28 => ?_)
  ·refine zSG (TL.rn 2 rfl ?_);refine TL.w rfl (KfV (q := k0) rfl rfl rfl rfl Tryz.underlying23 KF (by omega) (by omega)) ?_;refine TL.as_ ?_;refine zET (zS (zSG (TL.as_ ?_)));refine zET (zB ?_);refine TC.lp (α := {y : Nat × Nat × List Ev // (1 <= y.2.1 /\ y.2.1 <= n - k0 /\ k0 <= y.1 /\ y.1 <= k0 + y.2.1 - 1) /\ y.2.2.length = n /\ (∀ p, k0 + y.2.1 - 1 <= p -> y.2.2[p]? = xs[p]?) /\ y.2.2.take y.1 = K9 Ev.c (xs.take (k0 + y.2.1))}) [0, 1, 6] rfl (fun y => [(5, .int .i64 ((y.1.1 : Nat) : Int)), (7, .int .i64 ((y.1.2.1 : Nat) : Int))]) (fun y => Pm ⟨KC w g, g⟩ ([.row (.slice (some ⟨g, 0, none⟩) n c) 39 4 n (Ka Ev.cells y.1.2.2)] ++ Kr g w)) (fun y => n - y.1.2.1) (⟨(k0, 1, xs), by dsimp only; omega, hl, fun p _ => rfl, by rw [Kfh hx21 hx26 hk1, if_pos (of_decide_eq_true (hbv.trans c28)).symm]; exact hK.symm⟩) (fun w1 hw => hw) ?_;rintro ⟨⟨k, j, ys⟩, ⟨hj1, hj2, hj3, hj4⟩, hly, hI, hT⟩;dsimp only at hj1 hj2 hj3 hj4 hly hI hT ⊢;refine zS (zSG (TL.rn 2 rfl (TL.v (gN Tryz.underlying23) ?_)));refine TL.sp Ks (fun q35 => ?_) (fun q35 => ?_)
   ·refine zET (zc (zk (zT (zS (zB (zS (TC.quietQ (by kernel_rfl) (by kernel_rfl) (fun w hw => hw.drawn _) ?_)))))));refine TQ.rn 3 rfl ?_;have hi41 : (k0 + j) < ys.length := by omega
    obtain ⟨x41, hx41⟩ := KA hi41;refine TQ.w rfl (Kd (v := .pointer (some ⟨g, 0 + (k0 + j) * 4, none⟩)) rfl rfl rfl (fun w => Kht Tryz.underlying23 KF g k0 _ _ j (by omega) rfl w)) ?_;refine TQ.w rfl (KW (off := 0 + (k0 + j) * 4) rfl rfl K6 KF (Kx.len x41) (fun w1 hw j9 u9 h9 => KaC Kx hw (q := 0) rfl hx41 j9 u9 h9)) ?_;refine TQ.rn 2 rfl ?_;refine TQ.w rfl (Ke rfl rfl rfl (fun w => Kz (r := ((j - 1 : Nat) : Int)) (by simp only [IntKind.wrap_i64]; omega) w)) ?_;have hi46 : (k0 + (j - 1)) < ys.length := by omega
    obtain ⟨x46, hx46⟩ := KA hi46;refine TQ.w rfl (Kd (v := .pointer (some ⟨g, 0 + (k0 + (j - 1)) * 4, none⟩)) rfl rfl rfl (fun w => Kht Tryz.underlying23 KF g k0 _ _ (j - 1) (by omega) rfl w)) ?_;refine TQ.w rfl (KW (off := 0 + (k0 + (j - 1)) * 4) rfl rfl K6 KF (Kx.len x46) (fun w1 hw j9 u9 h9 => KaC Kx hw (q := 0) rfl hx46 j9 u9 h9)) ?_;obtain ⟨bw, hbw⟩ : ∃ b, decide (x41.c = x46.c) = b := ⟨_, rfl⟩;refine TQ.callE (v := .bool bw) rfl rfl rfl (Kcf rfl rfl rfl Tryz.func45 (by decide) rfl rfl) (fun w1 hw => (Kji x41 x46 w1 (hG x41 (Kkq hI (by omega) hx41) w1 (gw hw)) (hG x46 (Kkq hI (by omega) hx46) w1 (gw hw))).mono fun e w2 h9 => ⟨by rw [<- hbw]; exact h9.1, hw.below h9.2⟩) ?_;refine TQ.w rfl (KQ (b := bw) rfl rfl) ?_;refine TQ.fin ?_;refine zT ?_;refine TC.split (t := (!bw)) rfl (fun c49 => ?_) (fun c49 => ?_)
    ·refine zSG (TL.rn 4 rfl ?_);refine TL.w rfl (Kd (v := .pointer (some ⟨g, 0 + (k0 + j) * 4, none⟩)) rfl rfl rfl (fun w => Kht Tryz.underlying23 KF g k0 _ _ j (by omega) rfl w)) ?_;refine TL.w rfl (KW (off := 0 + (k0 + j) * 4) rfl rfl K6 KF (Kx.len x41) (fun w1 hw j9 u9 h9 => KaC Kx hw (q := 0) rfl hx41 j9 u9 h9)) ?_;have hi56 : k < ys.length := by omega
     obtain ⟨x56, hx56⟩ := KA hi56;refine TL.w rfl (gA (i := k) Tryz.underlying23 KF rfl rfl rfl rfl rfl (by omega)) ?_;refine TL.rowset (k := 0) (vs := x41.cells) (xs' := Ka Ev.cells (ys.set k x41)) rfl rfl rfl rfl rfl rfl rfl KF (Kx.one _) (by rw [Kbk Kx]; show 0 + k * 4 + 4 <= _; omega) (KgD Kx (q := 0) (y := x41) hx56 (by show 0 + 4 <= 4; decide) rfl) ?_
     try dsimp only [List.set_cons_zero, List.set_cons_succ]
     refine zET (zG (TL.mv ?_));refine TL.v (gD ((k + 1 : Nat) : Int)) ?_;refine TL.as_ ?_;refine zE (zN (zT (zG (TL.mv ?_))));refine TL.v (gD ((j + 1 : Nat) : Int)) ?_;refine TL.as_ ?_;refine zE ?_;exact TX.rd (⟨(k + 1, j + 1, ys.set k x41), by dsimp only; omega, by dsimp only; rw [List.length_set]; exact hly, fun p hp => by dsimp only; rw [List.getElem?_set_ne (by dsimp only at hp; omega)]; exact hI p (by dsimp only at hp; omega), by dsimp only; rw [List.take_add_one, List.take_set_of_le (Nat.le_refl _), List.getElem?_set_self (by omega), hT, show k0 + (j + 1) = k0 + j + 1 from rfl, Kfh (by rw [<- hI _ (by omega)]; exact hx41) (by rw [<- hI _ (by omega), show k0 + j - 1 = k0 + (j - 1) by omega]; exact hx46) (by omega : 1 <= k0 + j), if_neg (fun e => of_decide_eq_false (hbw.trans (by simpa using c49)) e.symm)]; rfl⟩) (by show n - (j + 1) < n - j; omega) (fun w1 hw => hw)
    refine zk (zN (zT (zG ?_)));refine TL.mv ?_;refine TL.v (gD ((j + 1 : Nat) : Int)) ?_;refine TL.as_ ?_;refine zE ?_;exact TX.rd (⟨(k, j + 1, ys), by dsimp only; omega, hly, fun p hp => hI p (by dsimp only at hp; omega), by dsimp only; rw [hT, show k0 + (j + 1) = k0 + j + 1 from rfl, Kfh (by rw [<- hI _ (by omega)]; exact hx41) (by rw [<- hI _ (by omega), show k0 + j - 1 = k0 + (j - 1) by omega]; exact hx46) (by omega : 1 <= k0 + j), if_pos (of_decide_eq_true (hbw.trans (by simpa using c49))).symm]⟩) (by show n - (j + 1) < n - j; omega) (fun w1 hw => hw)
   obtain rfl : j = n - k0 := by omega
   have hC : ys.take k = K9 Ev.c xs := by rw [hT, List.take_of_length_le (by omega)]
   refine zET (zd (zx (zX (zX (zM (zT (zSG (TL.rn 2 rfl ?_))))))));refine TL.w rfl (KfV (q := k) rfl rfl rfl rfl Tryz.underlying23 KF (by omega) (by omega)) ?_;refine TL.clearF Kx (kk := 0) (q := k) (z := Ev.zero) rfl rfl rfl rfl Tryz.underlying23 Kcd (by omega) (by omega) rfl ?_
   try dsimp only [List.set_cons_zero]
   refine zET (zSG (TL.rn 2 rfl ?_));refine TL.headF Kx (kk := 0) (hi := k) rfl rfl rfl rfl rfl rfl Tryz.underlying23 KF rfl (by omega) (by omega) ?_
   try dsimp only [List.set_cons_zero]
   refine TL.as_ ?_;refine zET (zr (zRR (zR (zRR ?_))));have hfin : (ys.take k ++ List.replicate (n - k) Ev.zero).take k = K9 Ev.c xs := by rw [List.take_left' (by rw [List.length_take]; omega)]; exact hC
   have hkl : (K9 Ev.c xs).length = k := by rw [<- hC, List.length_take]; omega
   rw [hfin];exact Kf Tryz.results44 rfl (fun w1 hw => ⟨by rw [hkl], by rw [hkl]; exact (Key hw (k := 0) rfl), gw hw⟩)
  refine zk (zN (zT (zG ?_)));refine TL.mv ?_;refine TL.v (gD ((k0 + 1 : Nat) : Int)) ?_;refine TL.as_ ?_;refine zE ?_;exact TX.rd (⟨k0 + 1, by omega, by omega, by rw [Kfh hx21 hx26 hk1, if_neg (fun e => of_decide_eq_false (hbv.trans c28) e.symm), hK, List.take_add_one, hx21]; rfl⟩) (by show n - (k0 + 1) < n - k0; omega) (fun w1 hw => hw)
 obtain rfl : k0 = n := by omega
 have hE : K9 Ev.c xs = xs := by rw [List.take_of_length_le (by omega)] at hK; exact hK
 refine zET (zd (zx (zX (zX (zM (zT (zSG (TL.rn 2 rfl (zET (zr ?_))))))))));exact Kf Tryz.results44 rfl (fun w1 hw => by rw [hE, hl]; exact ⟨rfl, Key hw (k := 0) rfl, gw hw⟩)
theorem Kpz (w : World) : Calls Tryz.prog 44 #[.slice none 0 0, .func (.func 45) #[] #[]] w fun en w' => en = .returned (.slice none 0 0) /\ Below w.heap.size w w' := by
 refine Kn Tryz.func44 rfl rfl rfl ?_ (Pm.start w);refine zSG (TL.as_ ?_);refine zET (zS (zSG (TL.mv ?_)));refine TL.v (gN Tryz.underlying23) ?_;refine TL.w rfl (Ke rfl rfl rfl (fun w => Kbg (by decide) w)) ?_;refine zET (zc (zSG (TL.rn 2 rfl (zET (zr (zR ?_))))));exact Kf Tryz.results44 rfl (fun w1 hw => ⟨rfl, hw.bel⟩)
theorem Kqj {b n cap : Nat} {A : Option Addr} {l : List Ev} {w : World} (hr : w.ownsRow b 39 4 (.slice A n cap) n (Ka Ev.cells l)) (hl : l.length = n) (hn : n <= 1000000000) (hG : ∀ x ∈ l, ∀ w1, w.grownBy w1 (Value.ownBlock (.slice A n cap)) -> EvR w1 w1.heap.size x) :
  Calls Tryz.prog 44 #[.slice A n cap, .func (.func 45) #[] #[]] w fun en w' => en = .returned (.slice A (K9 Ev.c l).length cap) /\ w'.ownsRow b 39 4 (.slice A (K9 Ev.c l).length cap) (K9 Ev.c l).length (Ka Ev.cells (K9 Ev.c l)) /\ w.grownBy w' (Value.ownBlock (.slice A n cap)) := by
 rcases id hr.2 with ⟨hv, h0⟩ | ⟨q, cap', cur, hv, hb, hq, h1, h2, h3, h4⟩
 ·cases hv;obtain rfl : l = [] := List.eq_nil_of_length_eq_zero (by omega);refine (Kpz w).mono fun en w' ⟨h5, h6⟩ => ⟨h5, ⟨rfl, .inl ⟨rfl, rfl⟩⟩, ?_⟩;exact ⟨h6.os, h6.tape, h6.output, h6.size, fun k hk _ => h6.block k hk⟩
 cases hv;refine (Knd q n cap l w ⟨hr.1, .inr ⟨q, cap, cur, rfl, Nat.le_refl _, hq, h1, h2, h3, h4⟩⟩ hl hn hG).mono fun en w' ⟨h5, h6, h7⟩ => ⟨h5, ⟨h6.1, ?_⟩, h7⟩;rcases h6.2 with ⟨e1, _⟩ | ⟨q', c2, cur2, e1, e2, e3⟩
 ·cases e1
 cases e1;exact .inr ⟨q, cap, cur2, rfl, hb, e3⟩
set_option maxRecDepth 20000
theorem Khx (l : List Idn) : Kcg (l.take 1) := by
 cases l with
 | nil => exact .nil
 | cons x l => exact List.pairwise_singleton _ _
theorem Kkx {l : List Idn} {i : Nat} {x y : Idn} (h : Kcg (l.take i)) (hx : l[i - 1]? = some x) (hy : l[i]? = some y) (hl : Kl x.keys y.keys < 0) : Kcg (l.take (i + 1)) := by
 rw [List.take_add_one, hy];refine List.pairwise_append.2 ⟨h, List.pairwise_singleton _ _, fun z hz u hu => ?_⟩;rw [Option.toList_some, List.mem_singleton] at hu;subst hu;by_cases e : z = x
 ·rw [e]; exact hl
 refine KcS ?_ hl;obtain ⟨j, hj⟩ := List.getElem?_of_mem hz;have hji : j < i := by have := (List.getElem?_eq_some_iff.1 hj).1; rw [List.length_take] at this; omega
 rw [List.getElem?_take_of_lt hji] at hj;have hlen : i - 1 < l.length := (List.getElem?_eq_some_iff.1 hx).1;have hne : j ≠ i - 1 := fun e2 => by rw [e2, hx] at hj; cases hj; exact e rfl
 have hp := List.pairwise_iff_getElem.1 h j (i - 1) (by rw [List.length_take]; omega) (by rw [List.length_take]; omega) (by omega);rw [List.getElem_take, List.getElem_take] at hp;obtain ⟨h1, rfl⟩ := List.getElem?_eq_some_iff.1 hj;obtain ⟨h2, rfl⟩ := List.getElem?_eq_some_iff.1 hx;exact hp
theorem Kkj {x : Ev} (h1 : 1 <= x.kind) (h2 : x.kind <= 3) (h3 : x.a ≠ 0) (h4 : x.a < x.b) (h5 : 0 < x.res.l.length) {i : Nat} (h6 : x.res.l.length <= i) (h7 : Kcg (x.res.l.take i)) : KI x.c = true := by
 unfold KI Ev.c;refine decide_eq_true ⟨h1, h2, h3, h4, fun e => ?_, ?_⟩
 ·dsimp only at e; rw [e] at h5; exact absurd h5 (by decide)
 rw [List.take_of_length_le h6] at h7; exact h7
theorem Kcm {x : Ev} (h : x.kind < 1 \/ 3 < x.kind \/ x.a = 0 \/ x.b <= x.a \/ x.res.l.length = 0) : KI x.c = false := by
 unfold KI Ev.c;refine decide_eq_false fun ⟨h1, h2, h3, h4, h5, _⟩ => ?_;dsimp only at h1 h2 h3 h4 h5;rcases h with h | h | h | h | h
 ·omega
 ·omega
 ·exact h3 h
 ·omega
 exact h5 (List.eq_nil_of_length_eq_zero h)
theorem KiK {x : Ev} {i : Nat} {a b : Idn} (h0 : 1 <= i) (ha : x.res.l[i - 1]? = some a) (hb : x.res.l[i]? = some b) (h : Kl a.keys b.keys >= 0) : KI x.c = false := by
 unfold KI Ev.c;refine decide_eq_false fun ⟨_, _, _, _, _, h6⟩ => ?_;obtain ⟨h1, rfl⟩ := List.getElem?_eq_some_iff.1 ha;obtain ⟨h2, rfl⟩ := List.getElem?_eq_some_iff.1 hb;have h7 : Kl x.res.l[i - 1].keys x.res.l[i].keys < 0 := List.pairwise_iff_getElem.1 h6 (i - 1) i h1 h2 (by omega);omega
theorem Kko (x : Ev) (w : World) (hx : EvR w w.heap.size x) :
  Calls Tryz.prog 40 #[.agg x.cells.toArray] w fun e w' => e = .returned (.bool (KI x.c)) /\ Below w.heap.size w w' := by
 refine Kn Tryz.func40 rfl rfl rfl ?_ (Pm.start w);refine zSG ?_;refine TL.bx fun g1 => ?_;refine TL.as_ ?_;refine zET (zS (zSG (TL.v (gF KdB) ?_)));refine TL.v (gL 0 KL) ?_;refine TL.sp Ks (fun q6 => ?_) (fun q6 => ?_)
 ·refine TL.rn 23 rfl (zET (zc (zSG (TL.as_ ?_))));refine zET (zr (zR ?_));have hE : KI x.c = false := Kcm (by omega);exact Kf Tryz.results40 rfl (fun w1 hw => ⟨by rw [hE], hw.bel⟩)
 refine TL.mv ?_;refine TL.ov (gF KdB) ?_;refine TL.ov (gL 0 KL) ?_;refine TL.gu ?_;refine TL.sp Kag (fun q10 => ?_) (fun q10 => ?_)
 ·refine TL.rn 19 rfl (zET (zc (zSG (TL.as_ ?_))));refine zET (zr (zR ?_));have hE : KI x.c = false := Kcm (by omega);exact Kf Tryz.results40 rfl (fun w1 hw => ⟨by rw [hE], hw.bel⟩)
 refine TL.rn 2 rfl (TL.ov (gF Ka7) ?_);refine TL.ov (gL 0 Kj) ?_;refine TL.gu ?_;refine TL.sp K8 (fun q15 => ?_) (fun q15 => ?_)
 ·refine TL.rn 14 rfl (zET (zc (zSG (TL.as_ ?_))));refine zET (zr (zR ?_));have hE : KI x.c = false := Kcm (by omega);exact Kf Tryz.results40 rfl (fun w1 hw => ⟨by rw [hE], hw.bel⟩)
 refine TL.rn 2 rfl (TL.ov (gF Kbm) ?_);refine TL.ov (gL 0 Kj) ?_;refine TL.ov (gF Ka7) ?_;refine TL.ov (gL 0 Kj) ?_;refine TL.gu ?_;refine TL.sp Keb (fun q22 => ?_) (fun q22 => ?_)
 ·refine TL.rn 7 rfl (zET (zc (zSG (TL.as_ ?_))));refine zET (zr (zR ?_));have hE : KI x.c = false := Kcm (by omega);exact Kf Tryz.results40 rfl (fun w1 hw => ⟨by rw [hE], hw.bel⟩)
 refine TL.rn 2 rfl (TL.ov (gF Kax) ?_);refine TL.ov (gL 0 KaD) ?_;refine TL.ov (gN Tryz.underlying37) ?_;refine TL.gu ?_;refine TL.sp K8 (fun q28 => ?_) (fun q28 => ?_)
 ·refine TL.pk ?_;refine zET (zc (zSG (TL.as_ ?_)));refine zET (zr (zR ?_));have hE : KI x.c = false := Kcm (by omega);exact Kf Tryz.results40 rfl (fun w1 hw => ⟨by rw [hE], hw.bel⟩)
 refine TL.pk ?_;refine zET (zd (zk (zT (zS (zS ?_)))));have hlen := hx.2;refine zG (TL.as_ ?_);refine zET (zB ?_);refine TC.lp (α := {i : Nat // 1 <= i /\ i <= x.res.l.length /\ Kcg (x.res.l.take i)}) [1, 2] rfl (fun y => [(3, .int .i64 ((y.1 : Nat) : Int))]) (fun y => Pm w [.blk g1 39 x.cells]) (fun y => x.res.l.length - y.1) (⟨1, Nat.le_refl _, by omega, Khx _⟩) (fun w1 hw => hw) ?_;rintro ⟨i, hi1, hi, hasc⟩
 try dsimp only at hi1 hi hasc ⊢
 refine zS (zSG (TL.mv ?_));refine TL.v (gF Kax) ?_;refine TL.v (gL 0 KaD) ?_;refine TL.v (gN Tryz.underlying37) ?_;refine TL.sp Ks (fun q34 => ?_) (fun q34 => ?_)
 ·refine zET (zc (zk (zT (zS (zB (zS (TC.quietQ (by kernel_rfl) (by kernel_rfl) (fun w hw => hw.drawn _) ?_)))))));refine TQ.v (gF Kax) ?_;refine TQ.v (gL 0 KaD) ?_;refine TQ.w rfl (Kc rfl rfl) ?_;refine TQ.w rfl (Ke rfl rfl rfl (fun w => Kz (r := ((i - 1 : Nat) : Int)) (by simp only [IntKind.wrap_i64]; omega) w)) ?_;have hi41 : i - 1 < x.res.l.length := by omega
  obtain ⟨x41, hx41⟩ := KA hi41;obtain ⟨b41, o41, hA41, hbb41, hc41⟩ := hx.1.ad (by omega) (by decide);refine TQ.w rfl (gA (i := (i - 1)) Tryz.underlying37 KaJ rfl rfl rfl rfl hA41 (by omega)) ?_;refine TQ.w rfl (KW (off := o41 + (i - 1) * 3) rfl rfl KbZ KaJ (Ka6.len x41) (fun w1 hw j9 u9 h9 => (hw.bel.cell hbb41).trans <| KbC Ka6 hx41 hc41 j9 u9 h9)) ?_;refine TQ.v (gF Kax) ?_;refine TQ.v (gL 0 KaD) ?_;refine TQ.w rfl (Kc rfl rfl) ?_;have hi46 : i < x.res.l.length := by omega
  obtain ⟨x46, hx46⟩ := KA hi46;obtain ⟨b46, o46, hA46, hbb46, hc46⟩ := hx.1.ad (by omega) (by decide);refine TQ.w rfl (gA (i := i) Tryz.underlying37 KaJ rfl rfl rfl rfl hA46 (by omega)) ?_;refine TQ.v (gR Ka6 KbZ KaJ hbb46 hx46 hc46) ?_;refine TQ.p1 (v := .int .i64 (Kl x41.keys x46.keys)) rfl o74 (fun w1 hw => (KfR x41 x46 w1).mono fun en w2 ⟨h1, h2⟩ => ⟨h1, hw.below h2⟩) ?_;refine TQ.sp Kaj (fun q49 => ?_) (fun q49 => ?_)
  ·refine TQ.fin ?_;refine zT (zc (zSG (TL.as_ ?_)));refine zET (zr (zRR (zR (zRR ?_))));have hE : KI x.c = false := KiK (by omega) hx41 hx46 q49;exact Kf Tryz.results40 rfl (fun w1 hw => ⟨by rw [hE], hw.bel⟩)
  have hasc2 := Kkx hasc hx41 hx46 (by omega);refine TQ.fin ?_;refine zT (zd (zk (zN (zT (zG (TL.mv ?_))))));refine TL.v (gD ((i + 1 : Nat) : Int)) ?_;refine TL.as_ ?_;refine zE ?_;exact TX.rd (⟨i + 1, by omega, by omega, hasc2⟩) (by show x.res.l.length - (i + 1) < x.res.l.length - i; omega) (fun w1 hw => hw)
 refine zET (zd (zx (zX (zX (zM (zT (zSG (TL.as_ ?_))))))));refine zET (zr ?_);have hE : KI x.c = true := Kkj (by omega) (by omega) (by omega) (by omega) (by omega) (by omega) hasc;exact Kf Tryz.results40 rfl (fun w1 hw => ⟨by rw [hE], hw.bel⟩)
set_option maxRecDepth 20000
theorem KdQ (cb : Nat) : KgB cb (fun w => Cod w cb) := fun w1 w2 h hs => h.keep fun b hb => hs b (by omega)
theorem Kdg {w : World} {cb : Nat} (h : Cod w cb) : KfP w cb := by
 obtain ⟨A, m, c, l, k, hb, _⟩ := h;exact ⟨_, hb, rfl⟩
theorem Kh5 (cb : Nat) (w : World) (n : Int) (h : Cod w cb) :
  Calls Tryz.prog 14 #[.pointer (some ⟨cb, 0, none⟩), .int .i64 n] w fun e w' => ∃ x : {x : Nat // x <= 65535 /\ (1 <= n -> (x : Int) < n)}, e = .returned (.int .i64 (x.1 : Int)) /\ Codr (fun w => Cod w cb) cb w [] w' :=
 (Kqr cb w n h).mono fun e w' ⟨x, he, h0, h1, h2, hc, hg, _⟩ => by
  obtain ⟨k, rfl⟩ := Int.eq_ofNat_of_zero_le h0;exact ⟨⟨k, by omega, h2⟩, he, hc, hg, Kdg hc, (fun q hq => absurd hq List.not_mem_nil), List.Pairwise.nil⟩
theorem KnR {w w1 : World} {cb : Nat} {p : Addr} (hg : w.grownBy w1 (some cb)) (hp : p.block ≠ cb) (hl : p.block < w.heap.size) : w1.cell? p = w.cell? p :=
 World.cell?_of_block (hg.block _ hl fun e => hp (by injection e))
theorem KnQ {w0 : Base} {L : List Pc} {w : World} {q g n cc i : Nat} {e : TypeId} {k : IntKind} {l : List Int} {x : Int} (h : Pm w0 L w) (hk : L[q]? = some (.row (.slice (some ⟨g, 0, none⟩) n cc) e 1 n (Ka (ic k) l))) (hx : l[i]? = some x) : w.cell? ⟨g, i, none⟩ = some (.int k x) := by
 have := KaC (KbF k) h hk hx 0 _ rfl;rwa [show 0 + i * 1 + 0 = i by omega] at this
theorem KlX (a0_0 : Int) (a1_0 : Int) (a2_0 : Int) (a3_0 : Int) (a4_0 : Int) (a5_0 : Int) (a6_0 : Int) (a7_0 : Int) (w : World) : (Instr.buildSlice 122 8 #[(0, .int .i64 a0_0), (1, .int .i64 a1_0), (2, .int .i64 a2_0), (3, .int .i64 a3_0), (4, .int .i64 a4_0), (5, .int .i64 a5_0), (6, .int .i64 a6_0), (7, .int .i64 a7_0)]).run Tryz.prog w = .ok (.slice (some ⟨w.heap.size, 0, none⟩) 8 8) (w.alloc (.cells [.int .i64 a0_0, .int .i64 a1_0, .int .i64 a2_0, .int .i64 a3_0, .int .i64 a4_0, .int .i64 a5_0, .int .i64 a6_0, .int .i64 a7_0].toArray 3)) := by kernel_rfl
theorem Ko4 (A : Option Addr) (n c : Nat) (l : List Int) (w : World) (hb : Byt w w.heap.size A n l) (hc : n <= c) (hn : (n : Int) <= 9223372036854775807) : Calls Tryz.prog 11 #[.slice A n c] w fun e w' => e = .returned (.pointer (some ⟨w.heap.size, 0, none⟩)) /\ Cod w' w.heap.size /\ Below w.heap.size w w' := by
 refine Kn (I := fun w1 => w1 = w) Tryz.func11 rfl rfl rfl ?_ rfl;refine zSG (TL.as_ ?_);refine zET (zSG (TL.mv ?_));refine TL.pL (α := Unit) (r := fun _ => .pointer (some ⟨w.heap.size, 0, none⟩)) (I' := fun _ w2 => Cod w2 w.heap.size /\ Below w.heap.size w w2) rfl o39 (fun w1 hw => by cases hw; exact (KmZ A n c l w 400 hb hc (by omega) (by decide) (by decide)).mono fun e w2 ⟨h1, h2, h3, _⟩ => ⟨(), h1, h2, h3⟩) (fun _ => ?_);refine TL.as_ ?_;refine zET (zr ?_);exact Kf Tryz.results11 rfl (fun w1 hw => ⟨rfl, hw.1, hw.2⟩)
theorem KoM (cb : Nat) (w : World) (hC : Cod w cb) (g c : Nat) (tab : List Int) (hgc : g ≠ cb) (hgl : g < w.heap.size) (h0 : 0 < tab.length) (hcell : ∀ (i : Nat) (v : Int), tab[i]? = some v -> w.cell? ⟨g, i, none⟩ = some (.int .i64 v)) :
  Calls Tryz.prog 64 #[.pointer (some ⟨cb, 0, none⟩), .slice (some ⟨g, 0, none⟩) tab.length c] w fun e w' => ∃ x : {v : Int // v ∈ tab}, e = .returned (.int .i64 x.1) /\ Codr (fun w => Cod w cb) cb w ([]) w' := by
 refine Kn (I := Pm ⟨w, cb⟩ (.abs cb (fun w => Cod w cb) :: Kr cb w)) Tryz.func64 rfl rfl rfl ?_ (Pm.codes hC (Kdg hC) (KdQ cb));refine zSG (TL.as_ ?_);refine zET (zSG (TL.rn 3 rfl (TL.v (gN Tryz.underlying122) ?_)));refine TL.pC (k := 0) _ _ rfl o14 rfl (fun w1 hw hC1 => Kh5 cb w1 (tab.length : Nat) hC1) ?_;rintro ⟨x, hx1, hx2⟩;dsimp only [lC, lN];refine TL.w rfl (Kd (v := .pointer (some ⟨g, x, none⟩)) rfl rfl rfl (fun w => Kg Tryz.underlying122 Kcj g _ _ x (by omega) rfl w)) ?_;obtain ⟨v, hv, hvt⟩ : ∃ v, tab[x]? = some v /\ v ∈ tab := ⟨_, List.getElem?_eq_getElem (by omega), List.getElem_mem _⟩;refine TL.w rfl (Kt (v := .int .i64 v) rfl rfl KL (fun w1 hw => (KnR (hw.kept (fun q hq => by simp [hq])) (by show g ≠ cb; exact hgc) (by show g < _; exact hgl)).trans (hcell x v hv))) ?_;refine TL.as_ ?_;refine zET (zr ?_);exact Kf Tryz.results64 rfl (fun w1 hw => ⟨⟨v, hvt⟩, rfl, Pm.codr [] (hw) rfl⟩)
theorem Kfu (cb : Nat) (w : World) (hC : Cod w cb) :
  Calls Tryz.prog 24 #[.pointer (some ⟨cb, 0, none⟩)] w fun e w' => ∃ x : {a : Int // 167772161 <= a /\ a <= 167772173}, e = .returned (.int .u32 x.1) /\ Codr (fun w => Cod w cb) cb w ([]) w' := by
 refine Kn (I := Pm ⟨w, cb⟩ (.abs cb (fun w => Cod w cb) :: Kr cb w)) Tryz.func24 rfl rfl rfl ?_ (Pm.codes hC (Kdg hC) (KdQ cb));refine zSG (TL.as_ ?_);refine zET (zSG (TL.mv ?_));refine TL.prowS (e := 3) (size := 1) (cs := Ka (ic .i64) [1, 2, 5, 6, 9, 10, 12, 13]) rfl rfl rfl rfl rfl (fun w => KlX _ _ _ _ _ _ _ _ w) (by decide) rfl (fun g4 => ?_);refine TL.pC (k := 1) _ _ rfl o64 rfl (fun w1 hw hC1 => KoM cb w1 hC1 g4 8 ([1, 2, 5, 6, 9, 10, 12, 13]) (hw.neq (i := 0) (j := 1) rfl rfl (by decide) g4 rfl <| congrArg some ·.symm) (Pc.lt (hw.at_ (k := 0) rfl) g4 rfl).2 (by show 0 < ([1, 2, 5, 6, 9, 10, 12, 13] : List Int).length; simp) (fun i v hi => KnQ hw (q := 0) rfl hi)) ?_;rintro ⟨v, hv⟩;dsimp only [lC, lN];have hvb : 1 <= v /\ v <= 13 := by simp only [List.mem_cons, List.not_mem_nil, or_false] at hv; omega
 refine TL.v (gD (167772160 + v)) ?_;refine TL.w rfl (Kbe rfl rfl (fun w => KbW (k := .i64) Tryz.underlying30 Tryz.underlying3 (by simp only [IntKind.wrap_u32]; omega) w)) ?_;refine TL.as_ ?_;refine zET (zr ?_);exact Kf Tryz.results24 rfl (fun w1 hw => ⟨⟨167772160 + v, by omega⟩, rfl, Pm.codr [] (hw.sel (.cons _ (.cons_cons _ (List.Sublist.refl _)))) rfl⟩)
theorem Knv : Kv Tryz.prog 14 := ⟨_, Tryz.func14, by decide, rfl⟩
theorem TL.nx {N : Fr} {Q : Exit -> Act -> World -> Prop} {E : Env} {ops : Array Oper} {l : List Oper} {o : Oper} {w0 : Base} {L : List Pc} {d cb : Nat} {n : Int} (k : Nat) (h0 : Kcp N E o = some (d, 14, [.pointer (some ⟨cb, 0, none⟩), .int .i64 n]))
    (hk : L[k]? = some (.abs cb fun w => Cod w cb)) (h : ∀ q : Nat, q <= 65535 -> (1 <= n -> (q : Int) < n) -> TL Tryz.prog N ops Q l ((d, .int .i64 ((q : Nat) : Int)) :: E) (Pm w0 L)) : TL Tryz.prog N ops Q (o :: l) E (Pm w0 L) :=
  TL.pC (α := {q : Nat // q <= 65535 /\ (1 <= n -> (q : Int) < n)}) (fun q => .int .i64 ((q.1 : Nat) : Int)) (fun _ => []) h0 Knv hk (fun w1 hw hC1 => Kh5 cb w1 n hC1) (fun ⟨q, h1, h2⟩ => h q h1 h2)
set_option maxRecDepth 20000
def RC {α : Type} (r : α -> Value) (M : α -> List Int -> Prop) (e : TypeId) (g n c : Nat) (w : World) : Ending -> World -> Prop := fun en w' => ∃ x ys, en = .returned (r x) /\ M x ys /\ Rw e w' g n c ys /\ w.grownBy w' (some g)
theorem Kbx (w : World) : (sizeOf 30).run Tryz.prog w = .ok 1 w := rfl
theorem KcH (w : World) : (isAgg 30).run Tryz.prog w = .ok false w := rfl
theorem Kkw (x : Int) (w : World) : Calls Tryz.prog 87 #[.int .u32 x] w fun e w' => e = .returned (.bool false) /\ Below w.heap.size w w' := by
 refine Kn Tryz.func87 rfl rfl rfl ?_ (Pm.start w);refine zSG (TL.as_ ?_);refine zET (zSG (TL.rn 2 rfl ?_));refine TL.w rfl (Ke rfl rfl rfl (fun w => KcR (rfl) w)) ?_;refine TL.as_ ?_;refine zET (zr ?_);exact Kf Tryz.results87 rfl (fun w1 hw => ⟨rfl, hw.bel⟩)
theorem Ka5 (x y : Int) (hlt : x < y) (w : World) : Calls Tryz.prog 121 #[.int .u32 x, .int .u32 y] w fun e w' => e = .returned (.bool true) /\ Below w.heap.size w w' := by
 refine Kn Tryz.func121 rfl rfl rfl ?_ (Pm.start w);refine zSG (TL.as_ ?_);refine zET (zSG (TL.mv ?_));refine TL.p1 rfl o87 (fun w1 hw => Kkw _ w1) ?_;refine TL.rn 8 rfl (TL.gu ?_);refine TL.w rfl (Ke rfl rfl rfl (fun w => Kbg (hlt) w)) ?_;refine TL.rn 2 rfl (zET (zr ?_));exact Kf Tryz.results121 rfl (fun w1 hw => ⟨rfl, hw.bel⟩)
theorem Kbd (x y : Int) (hlt : ¬ x < y) (w : World) : Calls Tryz.prog 121 #[.int .u32 x, .int .u32 y] w fun e w' => e = .returned (.bool false) /\ Below w.heap.size w w' := by
 refine Kn Tryz.func121 rfl rfl rfl ?_ (Pm.start w);refine zSG (TL.as_ ?_);refine zET (zSG (TL.mv ?_));refine TL.p1 rfl o87 (fun w1 hw => Kkw _ w1) ?_;refine TL.rn 8 rfl (TL.gu ?_);refine TL.w rfl (Ke rfl rfl rfl (fun w => KaY (hlt) w)) ?_;refine TL.rn 2 rfl (zET (zr ?_));exact Kf Tryz.results121 rfl (fun w1 hw => ⟨rfl, hw.bel⟩)
theorem KkQ (g n c : Nat) (xs : List Int) (w : World) (h : Rw 30 w g n c xs) (hn : n <= 1000000) (a b : Nat) (hab : a <= b) (hb : b <= n) :
  Calls Tryz.prog 115 #[.slice (some ⟨g, 0, none⟩) n c, .int .i64 (a : Nat), .int .i64 (b : Nat)] w (RC (α := Unit) (fun _ => .tuple #[]) (fun _ ys => Pin a b xs ys /\ Srt a b ys) 30 g n c w) := by
 have hl := h.len;refine Kn (I := Pm ⟨KC w g, g⟩ (.row (.slice (some ⟨g, 0, none⟩) n c) 30 1 n (uv xs) :: Kr g w)) Tryz.func115 rfl rfl rfl ?_ (Pm.rowStart h);refine zSG (TL.mv ?_);refine TL.v (gD ((a + 1 : Nat) : Int)) ?_;refine TL.as_ ?_;refine zET (zB ?_);refine TC.lp (α := {y : Nat × List Int // a + 1 <= y.1 /\ y.1 <= b + 1 /\ Pin a b xs y.2 /\ Srt a y.1 y.2 /\ y.2.length = n}) [0, 1, 2] rfl (fun y => [(6, .int .i64 ((y.1.1 : Nat) : Int))]) (fun y => Pm ⟨KC w g, g⟩ ([.row (.slice (some ⟨g, 0, none⟩) n c) 30 1 n (uv y.1.2)] ++ Kr g w)) (fun y => b + 1 - y.1.1) (⟨(a + 1, xs), Nat.le_refl _, by dsimp only; omega, Pin.refl _ _ _, Srt.one (Nat.le_refl _), hl⟩) (fun w1 hw => hw) ?_;rintro ⟨⟨i, ys⟩, hi1, hi2, hP, hS0, hly⟩;dsimp only at hi1 hi2 hP hS0 hly ⊢;refine zS (zSG (TL.rn 2 rfl ?_));refine TL.sp Ks (fun q12 => ?_) (fun q12 => ?_)
 ·refine zET (zc (zk (zT (zS (zB (zSG (TL.rn 2 rfl (zET (zB ?_)))))))));refine TC.lp (α := {y : Nat × List Int // a <= y.1 /\ y.1 <= i /\ Pin a b xs y.2 /\ Ins a i y.1 y.2 /\ y.2.length = n}) [0, 1, 2, 6] rfl (fun y => [(7, .int .i64 ((y.1.1 : Nat) : Int))]) (fun y => Pm ⟨KC w g, g⟩ ([.row (.slice (some ⟨g, 0, none⟩) n c) 30 1 n (uv y.1.2)] ++ Kr g w)) (fun y => y.1.1) (⟨(i, ys), by dsimp only; omega, Nat.le_refl _, hP, Ins.start hS0, hly⟩) (fun w1 hw => hw) ?_;rintro ⟨⟨j, zs⟩, hj1, hj2, hQ, hI, hlz⟩;dsimp only at hj1 hj2 hQ hI hlz ⊢;refine zS (zS ?_);rcases (by omega : ¬ a < j \/ (a < j /\ dx zs j < dx zs (j - 1)) \/ (a < j /\ ¬ dx zs j < dx zs (j - 1))) with p1 | ⟨p1, p2⟩ | ⟨p1, p2⟩
  ·have hS : Srt a (i + 1) zs := hI.stop (fun hh => by omega);refine TC.quiet_ (E' := ?_) (by kernel_rfl) (by kernel_rfl) (fun w hw => hw.drawn _) ?_ ?_
   rotate_left
   ·refine TQ.rn 2 rfl ?_;refine TQ.w rfl (Ke rfl rfl rfl (fun w => KeE (by omega) w)) ?_;refine TQ.rn 12 rfl ?_;exact TQ.end_
   refine zT (zd (zx (zX (zX (zM (zN (zT (zG (TL.mv ?_)))))))));refine TL.v (gD ((i + 1 : Nat) : Int)) ?_;refine TL.as_ ?_;refine zE ?_;exact TX.rd (⟨(i + 1, zs), by dsimp only; omega, by dsimp only; omega, hQ, hS, hlz⟩) (by show b + 1 - (i + 1) < b + 1 - i; omega) (fun w1 hw => hw)
  ·refine TC.quiet_ (E' := ?_) (by kernel_rfl) (by kernel_rfl) (fun w hw => hw.drawn _) ?_ ?_
   rotate_left
   ·refine TQ.rn 2 rfl ?_;refine TQ.w rfl (Ke rfl rfl rfl (fun w => KcW (by omega) w)) ?_;refine TQ.rn 3 rfl ?_;refine TQ.on rfl rfl rfl ?_;refine TQ.w rfl (Kd (v := .pointer (some ⟨g, j, none⟩)) rfl rfl rfl (fun w => Kg Tryz.underlying61 Kbx g _ _ j (by omega) rfl w)) ?_;refine TQ.on rfl rfl rfl ?_;refine TQ.w rfl (Kk (k := 0) (i := j) rfl rfl KcH rfl (by omega)) ?_;refine TQ.rn 2 rfl ?_;refine TQ.on rfl rfl rfl ?_;refine TQ.w rfl (Ke rfl rfl rfl (fun w => Kz (r := ((j - 1 : Nat) : Int)) (by simp only [IntKind.wrap_i64]; omega) w)) ?_;refine TQ.on rfl rfl rfl ?_;refine TQ.w rfl (Kd (v := .pointer (some ⟨g, j - 1, none⟩)) rfl rfl rfl (fun w => Kg Tryz.underlying61 Kbx g _ _ (j - 1) (by omega) rfl w)) ?_;refine TQ.on rfl rfl rfl ?_;refine TQ.w rfl (Kk (k := 0) (i := j - 1) rfl rfl KcH rfl (by omega)) ?_;refine TQ.on rfl rfl rfl ?_;refine TQ.p1 (v := .bool true) rfl K5 (fun w1 hw => (Ka5 _ _ p2 w1).mono fun en w2 ⟨h1, h2⟩ => ⟨h1, hw.below h2⟩) ?_;refine TQ.w rfl (KP rfl rfl rfl) ?_;exact TQ.end_
   refine zT (zc (zk (zT (zS (zB (TC.held (ls := fA 18) (fun _ => True) (by kernel_rfl) rfl rfl (fun w hw => hw.drawn _) ?_))))));refine TH.tk 0 rfl rfl rfl (Kc rfl rfl) (fun _ _ => trivial) ?_;refine TH.tk 1 rfl rfl rfl (Kc rfl rfl) (fun _ _ => trivial) ?_;refine TH.tk 2 rfl rfl rfl (Kc rfl rfl) (fun _ _ => trivial) ?_;refine TH.tk 3 rfl rfl rfl (Kc rfl rfl) (fun _ _ => trivial) ?_;refine TH.tk 4 rfl rfl rfl (Ke rfl rfl rfl (fun w => Kz (r := ((j - 1 : Nat) : Int)) (by simp only [IntKind.wrap_i64]; omega) w)) (fun _ _ => trivial) ?_;refine TH.tk 5 rfl rfl rfl (Kc rfl rfl) (fun _ _ => trivial) ?_;refine TH.tk 6 rfl rfl rfl (Kc rfl rfl) (fun _ _ => trivial) ?_;refine TH.tk 7 rfl rfl rfl (Ke rfl rfl rfl (fun w => Kz (r := ((j - 1 : Nat) : Int)) (by simp only [IntKind.wrap_i64]; omega) w)) (fun _ _ => trivial) ?_;refine TH.tk 8 rfl rfl rfl (Kd (v := .pointer (some ⟨g, j - 1, none⟩)) rfl rfl rfl (fun w => Kg Tryz.underlying61 Kbx g _ _ (j - 1) (by omega) rfl w)) (fun _ _ => trivial) ?_;refine TH.tk 10 rfl rfl rfl (Kc rfl rfl) (fun _ _ => trivial) ?_;refine TH.tk 11 rfl rfl rfl (Kc rfl rfl) (fun _ _ => trivial) ?_;refine TH.tk 12 rfl rfl rfl (Kd (v := .pointer (some ⟨g, j, none⟩)) rfl rfl rfl (fun w => Kg Tryz.underlying61 Kbx g _ _ j (by omega) rfl w)) (fun _ _ => trivial) ?_;refine TH.two' 9 13 rfl rfl (by kernel_rfl) rfl rfl ?_ ?_
   ·refine TL.w rfl (Kk (k := 0) (i := j - 1) rfl rfl KcH rfl (by omega)) ?_;refine zE ?_;refine TX.held (fun _ _ => trivial) ?_;refine TH.o 13 ?_;refine TL.w rfl (Kk (k := 0) (i := j) rfl rfl KcH rfl (by omega)) ?_;refine zE ?_;refine TX.held (fun _ _ => trivial) ?_;refine TH.tk 14 rfl rfl rfl (Kd (v := .pointer (some ⟨g, j, none⟩)) rfl rfl rfl (fun w => Kg Tryz.underlying61 Kbx g _ _ j (by omega) rfl w)) (fun _ _ => trivial) ?_;refine TH.o 15 ?_;refine TL.uset (k := 0) (i := j) rfl rfl rfl rfl rfl rfl Kbx (by omega) ?_;refine zE ?_;refine TX.held (fun _ _ => trivial) ?_;refine TH.tk 16 rfl rfl rfl (Kd (v := .pointer (some ⟨g, j - 1, none⟩)) rfl rfl rfl (fun w => Kg Tryz.underlying61 Kbx g _ _ (j - 1) (by omega) rfl w)) (fun _ _ => trivial) ?_;refine TH.o 17 ?_;refine TL.uset (k := 0) (i := j - 1) rfl rfl rfl rfl rfl rfl Kbx (by rw [List.length_set]; omega) ?_;refine zE ?_;refine TX.held (fun _ _ => trivial) ?_;refine TH.done (by kernel_rfl) ?_;refine zN (zT (zG (TL.mv ?_)));refine TL.w rfl (Ke rfl rfl rfl (fun w => Kz (r := ((j - 1 : Nat) : Int)) (by simp only [IntKind.wrap_i64]; omega) w)) ?_;refine TL.as_ ?_;refine zE ?_;exact TX.rd (⟨(j - 1, swp zs j (j - 1)), by dsimp only; omega, by dsimp only; omega, hQ.swap (by omega) (by omega) (by omega) (by omega) (by omega), hI.down p1 hj2 (by omega) p2, by rw [Kaf]; exact hlz⟩) (by show j - 1 < j; omega) (fun w1 hw => hw)
   refine TL.w rfl (Kk (k := 0) (i := j) rfl rfl KcH rfl (by omega)) ?_;refine zE ?_;refine TX.held (fun _ _ => trivial) ?_;refine TH.o 9 ?_;refine TL.w rfl (Kk (k := 0) (i := j - 1) rfl rfl KcH rfl (by omega)) ?_;refine zE ?_;refine TX.held (fun _ _ => trivial) ?_;refine TH.tk 14 rfl rfl rfl (Kd (v := .pointer (some ⟨g, j, none⟩)) rfl rfl rfl (fun w => Kg Tryz.underlying61 Kbx g _ _ j (by omega) rfl w)) (fun _ _ => trivial) ?_;refine TH.o 15 ?_;refine TL.uset (k := 0) (i := j) rfl rfl rfl rfl rfl rfl Kbx (by omega) ?_;refine zE ?_;refine TX.held (fun _ _ => trivial) ?_;refine TH.tk 16 rfl rfl rfl (Kd (v := .pointer (some ⟨g, j - 1, none⟩)) rfl rfl rfl (fun w => Kg Tryz.underlying61 Kbx g _ _ (j - 1) (by omega) rfl w)) (fun _ _ => trivial) ?_;refine TH.o 17 ?_;refine TL.uset (k := 0) (i := j - 1) rfl rfl rfl rfl rfl rfl Kbx (by rw [List.length_set]; omega) ?_;refine zE ?_;refine TX.held (fun _ _ => trivial) ?_;refine TH.done (by kernel_rfl) ?_;refine zN (zT (zG (TL.mv ?_)));refine TL.w rfl (Ke rfl rfl rfl (fun w => Kz (r := ((j - 1 : Nat) : Int)) (by simp only [IntKind.wrap_i64]; omega) w)) ?_;refine TL.as_ ?_;refine zE ?_;exact TX.rd (⟨(j - 1, swp zs j (j - 1)), by dsimp only; omega, by dsimp only; omega, hQ.swap (by omega) (by omega) (by omega) (by omega) (by omega), hI.down p1 hj2 (by omega) p2, by rw [Kaf]; exact hlz⟩) (by show j - 1 < j; omega) (fun w1 hw => hw)
  have hS : Srt a (i + 1) zs := hI.stop (fun hh => by omega);refine TC.quiet_ (E' := ?_) (by kernel_rfl) (by kernel_rfl) (fun w hw => hw.drawn _) ?_ ?_
  rotate_left
  ·refine TQ.rn 2 rfl ?_;refine TQ.w rfl (Ke rfl rfl rfl (fun w => KcW (by omega) w)) ?_;refine TQ.rn 3 rfl ?_;refine TQ.on rfl rfl rfl ?_;refine TQ.w rfl (Kd (v := .pointer (some ⟨g, j, none⟩)) rfl rfl rfl (fun w => Kg Tryz.underlying61 Kbx g _ _ j (by omega) rfl w)) ?_;refine TQ.on rfl rfl rfl ?_;refine TQ.w rfl (Kk (k := 0) (i := j) rfl rfl KcH rfl (by omega)) ?_;refine TQ.rn 2 rfl ?_;refine TQ.on rfl rfl rfl ?_;refine TQ.w rfl (Ke rfl rfl rfl (fun w => Kz (r := ((j - 1 : Nat) : Int)) (by simp only [IntKind.wrap_i64]; omega) w)) ?_;refine TQ.on rfl rfl rfl ?_;refine TQ.w rfl (Kd (v := .pointer (some ⟨g, j - 1, none⟩)) rfl rfl rfl (fun w => Kg Tryz.underlying61 Kbx g _ _ (j - 1) (by omega) rfl w)) ?_;refine TQ.on rfl rfl rfl ?_;refine TQ.w rfl (Kk (k := 0) (i := j - 1) rfl rfl KcH rfl (by omega)) ?_;refine TQ.on rfl rfl rfl ?_;refine TQ.p1 (v := .bool false) rfl K5 (fun w1 hw => (Kbd _ _ p2 w1).mono fun en w2 ⟨h1, h2⟩ => ⟨h1, hw.below h2⟩) ?_;refine TQ.w rfl (KP rfl rfl rfl) ?_;exact TQ.end_
  refine zT (zd (zx (zX (zX (zM (zN (zT (zG (TL.mv ?_)))))))));refine TL.v (gD ((i + 1 : Nat) : Int)) ?_;refine TL.as_ ?_;refine zE ?_;exact TX.rd (⟨(i + 1, zs), by dsimp only; omega, by dsimp only; omega, hQ, hS, hlz⟩) (by show b + 1 - (i + 1) < b + 1 - i; omega) (fun w1 hw => hw)
 refine zET (zd (zx (zX (zX (zM ?_)))));exact KcD Tryz.results115 (fun w1 hw => ⟨(), ys, rfl, ⟨hP, hS0.less (by omega)⟩, Kay hw (k := 0) rfl, hw.mapEnd (fun q hq => by simp [hq])⟩)
set_option maxRecDepth 20000
theorem KD (w : World) : (sizeOf 30).run Tryz.prog w = .ok 1 w := rfl
theorem KT (w : World) : (isAgg 30).run Tryz.prog w = .ok false w := rfl
theorem Khu : (Tryz.f138.name == "runtime.NumGoroutine") = false := by decide
theorem KgX : Tryz.f138.body.isNone = false := rfl
theorem Khl (g n c : Nat) (xs : List Int) (w : World) (h : Rw 30 w g n c xs) (hn : n <= 1000000) (lo hi f : Nat) (hlo : lo <= hi) (hf : f + hi <= n) (hh : Hp f (lo + 1) hi xs) :
  Calls Tryz.prog 138 #[.slice (some ⟨g, 0, none⟩) n c, .int .i64 ((lo : Nat) : Int), .int .i64 ((hi : Nat) : Int), .int .i64 ((f : Nat) : Int)] w (RC (α := Unit) (fun _ => .tuple #[]) (fun _ ys => Pin f (f + hi) xs ys /\ Hp f lo hi ys) 30 g n c w) := by
 have hl := h.len;refine Kn (I := Pm ⟨KC w g, g⟩ (.row (.slice (some ⟨g, 0, none⟩) n c) 30 1 n (uv xs) :: Kr g w)) Tryz.func138 rfl rfl rfl ?_ (Pm.rowStart h);refine zSG (TL.rn 2 rfl (zET (zB (TC.lp (α := {y : Nat × List Int // Sft f lo hi y.1 y.2 /\ y.1 <= hi /\ Pin f (f + hi) xs y.2 /\ y.2.length = n}) [0, 2, 3] rfl (fun y => [(8, .int .i64 ((y.1.1 : Nat) : Int))]) (fun y => Pm ⟨KC w g, g⟩ ([.row (.slice (some ⟨g, 0, none⟩) n c) 30 1 n (uv y.1.2)] ++ Kr g w)) (fun y => hi - y.1.1) (⟨(lo, xs), Sft.start hh, hlo, Pin.refl _ _ _, hl⟩) (fun w1 hw => hw) ?_))));rintro ⟨⟨r, ys⟩, hS, hr, hP, hly⟩;dsimp only at hS hr hP hly ⊢;have hlr := hS.at_;refine zB (zSG (TL.mv ?_));refine TL.w rfl (Ke rfl rfl rfl (fun w => KdO (r := ((2 * r : Nat) : Int)) (by simp only [IntKind.wrap_i64]; omega) w)) ?_;refine TL.v (gD ((2 * r + 1 : Nat) : Int)) ?_;refine TL.as_ ?_;refine zET (zS (zSG (TL.rn 2 rfl ?_)));refine TL.sp Kaj (fun q16 => ?_) (fun q16 => ?_)
 ·refine zET (zc (zx (zX (zO (zX (zM ?_))))));have hH : Hp f lo hi ys := hS.stop (fun d hd hdh => by omega);exact KcD Tryz.results138 (fun w1 hw => ⟨(), ys, rfl, ⟨hP, hH⟩, Kay hw (k := 0) rfl, hw.mapEnd (fun q hq => by simp [hq])⟩)
 refine zET (zd (zk (zT (zS (zS ?_)))));have hway : ¬ 2 * r + 1 + 1 < hi \/ (2 * r + 1 + 1 < hi /\ dx ys (f + (2 * r + 1)) < dx ys (f + (2 * r + 1) + 1)) \/ (2 * r + 1 + 1 < hi /\ ¬ dx ys (f + (2 * r + 1)) < dx ys (f + (2 * r + 1) + 1)) := by omega
 rcases hway with p1 | ⟨p1, p2⟩ | ⟨p1, p2⟩
 ·refine TC.quiet_ (E' := ?_) (by kernel_rfl) (by kernel_rfl) (fun w hw => hw.drawn _) ?_ ?_
  rotate_left
  ·refine TQ.w rfl (Kc rfl rfl) ?_;refine TQ.v (gD ((2 * r + 1 + 1 : Nat) : Int)) ?_;refine TQ.w rfl (Kc rfl rfl) ?_;refine TQ.w rfl (Ke rfl rfl rfl (fun w => KaY (by omega) w)) ?_;refine TQ.rn 16 rfl ?_;exact TQ.end_
  refine zT (zd (zk (zT (zS (zS ?_)))));rcases Classical.em (dx ys (f + r) < dx ys (f + (2 * r + 1))) with p4 | p4
  ·have hmx : ∀ d, (d = 2 * r + 1 \/ d = 2 * r + 2) -> d < hi -> dx ys (f + d) <= dx ys (f + (2 * r + 1)) := fun d hd hdh => by rcases hd with rfl | rfl <;> omega
   refine TC.quiet_ (E' := ?_) (by kernel_rfl) (by kernel_rfl) (fun w hw => hw.drawn _) ?_ ?_
   rotate_left
   ·refine TQ.rn 3 rfl (TQ.v (gD ((f + r : Nat) : Int)) ?_);refine TQ.w rfl (Kd (v := .pointer (some ⟨g, f + r, none⟩)) rfl rfl rfl (fun w => Kg Tryz.underlying61 KD g _ _ (f + r) (by omega) rfl w)) ?_;refine TQ.w rfl (Kk (k := 0) (i := f + r) rfl rfl KT rfl (by omega)) ?_;refine TQ.rn 3 rfl (TQ.v (gD ((f + (2 * r + 1) : Nat) : Int)) ?_);refine TQ.w rfl (Kd (v := .pointer (some ⟨g, f + (2 * r + 1), none⟩)) rfl rfl rfl (fun w => Kg Tryz.underlying61 KD g _ _ (f + (2 * r + 1)) (by omega) rfl w)) ?_;refine TQ.w rfl (Kk (k := 0) (i := f + (2 * r + 1)) rfl rfl KT rfl (by omega)) ?_;refine TQ.p1 (v := .bool true) rfl K5 (fun w1 hw => (Ka5 _ _ p4 w1).mono fun en w2 ⟨h1, h2⟩ => ⟨h1, hw.below h2⟩) ?_;refine TQ.w rfl (KQ rfl rfl) ?_;exact TQ.end_
   refine zT (zd (zk (zT (zS (TC.held (ls := fA 24) (fun _ => True) (by kernel_rfl) rfl rfl (fun w hw => hw.drawn _) ?_)))));refine TH.tk 0 rfl rfl rfl (Kc rfl rfl) (fun _ _ => trivial) ?_;refine TH.tk 1 rfl rfl rfl (Kc rfl rfl) (fun _ _ => trivial) ?_;refine TH.tk 2 rfl rfl rfl (Kc rfl rfl) (fun _ _ => trivial) ?_;refine TH.tk 3 rfl rfl rfl (gD ((f + r : Nat) : Int)) (fun _ _ => trivial) ?_;refine TH.tk 4 rfl rfl rfl (Kc rfl rfl) (fun _ _ => trivial) ?_;refine TH.tk 5 rfl rfl rfl (Kc rfl rfl) (fun _ _ => trivial) ?_;refine TH.tk 6 rfl rfl rfl (Kc rfl rfl) (fun _ _ => trivial) ?_;refine TH.tk 7 rfl rfl rfl (gD ((f + (2 * r + 1) : Nat) : Int)) (fun _ _ => trivial) ?_;refine TH.tk 8 rfl rfl rfl (Kc rfl rfl) (fun _ _ => trivial) ?_;refine TH.tk 9 rfl rfl rfl (Kc rfl rfl) (fun _ _ => trivial) ?_;refine TH.tk 10 rfl rfl rfl (Kc rfl rfl) (fun _ _ => trivial) ?_;refine TH.tk 11 rfl rfl rfl (gD ((f + (2 * r + 1) : Nat) : Int)) (fun _ _ => trivial) ?_;refine TH.tk 12 rfl rfl rfl (Kd (v := .pointer (some ⟨g, f + (2 * r + 1), none⟩)) rfl rfl rfl (fun w => Kg Tryz.underlying61 KD g _ _ (f + (2 * r + 1)) (by omega) rfl w)) (fun _ _ => trivial) ?_;refine TH.tk 14 rfl rfl rfl (Kc rfl rfl) (fun _ _ => trivial) ?_;refine TH.tk 15 rfl rfl rfl (Kc rfl rfl) (fun _ _ => trivial) ?_;refine TH.tk 16 rfl rfl rfl (Kc rfl rfl) (fun _ _ => trivial) ?_;refine TH.tk 17 rfl rfl rfl (gD ((f + r : Nat) : Int)) (fun _ _ => trivial) ?_;refine TH.tk 18 rfl rfl rfl (Kd (v := .pointer (some ⟨g, f + r, none⟩)) rfl rfl rfl (fun w => Kg Tryz.underlying61 KD g _ _ (f + r) (by omega) rfl w)) (fun _ _ => trivial) ?_;refine TH.two' 13 19 rfl rfl (by kernel_rfl) rfl rfl ?_ ?_
   ·refine TL.w rfl (Kk (k := 0) (i := f + (2 * r + 1)) rfl rfl KT rfl (by omega)) ?_;refine zE ?_;refine TX.held (fun _ _ => trivial) ?_;refine TH.o 19 ?_;refine TL.w rfl (Kk (k := 0) (i := f + r) rfl rfl KT rfl (by omega)) ?_;refine zE ?_;refine TX.held (fun _ _ => trivial) ?_;refine TH.tk 20 rfl rfl rfl (Kd (v := .pointer (some ⟨g, f + r, none⟩)) rfl rfl rfl (fun w => Kg Tryz.underlying61 KD g _ _ (f + r) (by omega) rfl w)) (fun _ _ => trivial) ?_;refine TH.o 21 ?_;refine TL.uset (k := 0) (i := f + r) rfl rfl rfl rfl rfl rfl KD (by omega) ?_;refine zE ?_;refine TX.held (fun _ _ => trivial) ?_;refine TH.tk 22 rfl rfl rfl (Kd (v := .pointer (some ⟨g, f + (2 * r + 1), none⟩)) rfl rfl rfl (fun w => Kg Tryz.underlying61 KD g _ _ (f + (2 * r + 1)) (by omega) rfl w)) (fun _ _ => trivial) ?_;refine TH.o 23 ?_;refine TL.uset (k := 0) (i := f + (2 * r + 1)) rfl rfl rfl rfl rfl rfl KD (by rw [List.length_set]; omega) ?_;refine zE ?_;refine TX.held (fun _ _ => trivial) ?_;refine TH.done (by kernel_rfl) ?_;refine zT (zG (TL.rn 2 rfl (zE (zN ?_))));exact TX.rd (⟨(2 * r + 1, swp ys (f + r) (f + (2 * r + 1))), hS.down (by omega) (by omega) (by omega) p4 hmx, by dsimp only; omega, hP.swap (by omega) (by omega) (by omega) (by omega) (by omega), by rw [Kaf]; exact hly⟩) (by dsimp only; omega) (fun w1 hw => hw)
   refine TL.w rfl (Kk (k := 0) (i := f + r) rfl rfl KT rfl (by omega)) ?_;refine zE ?_;refine TX.held (fun _ _ => trivial) ?_;refine TH.o 13 ?_;refine TL.w rfl (Kk (k := 0) (i := f + (2 * r + 1)) rfl rfl KT rfl (by omega)) ?_;refine zE ?_;refine TX.held (fun _ _ => trivial) ?_;refine TH.tk 20 rfl rfl rfl (Kd (v := .pointer (some ⟨g, f + r, none⟩)) rfl rfl rfl (fun w => Kg Tryz.underlying61 KD g _ _ (f + r) (by omega) rfl w)) (fun _ _ => trivial) ?_;refine TH.o 21 ?_;refine TL.uset (k := 0) (i := f + r) rfl rfl rfl rfl rfl rfl KD (by omega) ?_;refine zE ?_;refine TX.held (fun _ _ => trivial) ?_;refine TH.tk 22 rfl rfl rfl (Kd (v := .pointer (some ⟨g, f + (2 * r + 1), none⟩)) rfl rfl rfl (fun w => Kg Tryz.underlying61 KD g _ _ (f + (2 * r + 1)) (by omega) rfl w)) (fun _ _ => trivial) ?_;refine TH.o 23 ?_;refine TL.uset (k := 0) (i := f + (2 * r + 1)) rfl rfl rfl rfl rfl rfl KD (by rw [List.length_set]; omega) ?_;refine zE ?_;refine TX.held (fun _ _ => trivial) ?_;refine TH.done (by kernel_rfl) ?_;refine zT (zG (TL.rn 2 rfl (zE (zN ?_))));exact TX.rd (⟨(2 * r + 1, swp ys (f + r) (f + (2 * r + 1))), hS.down (by omega) (by omega) (by omega) p4 hmx, by dsimp only; omega, hP.swap (by omega) (by omega) (by omega) (by omega) (by omega), by rw [Kaf]; exact hly⟩) (by dsimp only; omega) (fun w1 hw => hw)
  have hH : Hp f lo hi ys := hS.stop (fun d hd hdh => by rcases hd with rfl | rfl <;> omega);refine TC.quiet_ (E' := ?_) (by kernel_rfl) (by kernel_rfl) (fun w hw => hw.drawn _) ?_ ?_
  rotate_left
  ·refine TQ.rn 3 rfl (TQ.v (gD ((f + r : Nat) : Int)) ?_);refine TQ.w rfl (Kd (v := .pointer (some ⟨g, f + r, none⟩)) rfl rfl rfl (fun w => Kg Tryz.underlying61 KD g _ _ (f + r) (by omega) rfl w)) ?_;refine TQ.w rfl (Kk (k := 0) (i := f + r) rfl rfl KT rfl (by omega)) ?_;refine TQ.rn 3 rfl (TQ.v (gD ((f + (2 * r + 1) : Nat) : Int)) ?_);refine TQ.w rfl (Kd (v := .pointer (some ⟨g, f + (2 * r + 1), none⟩)) rfl rfl rfl (fun w => Kg Tryz.underlying61 KD g _ _ (f + (2 * r + 1)) (by omega) rfl w)) ?_;refine TQ.w rfl (Kk (k := 0) (i := f + (2 * r + 1)) rfl rfl KT rfl (by omega)) ?_;refine TQ.p1 (v := .bool false) rfl K5 (fun w1 hw => (Kbd _ _ p4 w1).mono fun en w2 ⟨h1, h2⟩ => ⟨h1, hw.below h2⟩) ?_;refine TQ.w rfl (KQ rfl rfl) ?_;exact TQ.end_
  refine zT (zc (zr (zR (zRR (TX.in_ret ?_)))));exact KdP Tryz.results138 (fun w1 hw => ⟨(), ys, rfl, ⟨hP, hH⟩, Kay hw (k := 0) rfl, hw.mapEnd (fun q hq => by simp [hq])⟩)
 ·have p3 : dx ys (f + (2 * r + 1)) < dx ys (f + (2 * r + 1 + 1)) := p2;have p5 : dx ys (f + (2 * r + 2)) = dx ys (f + (2 * r + 1 + 1)) := rfl;refine TC.quiet_ (E' := ?_) (by kernel_rfl) (by kernel_rfl) (fun w hw => hw.drawn _) ?_ ?_
  rotate_left
  ·refine TQ.w rfl (Kc rfl rfl) ?_;refine TQ.v (gD ((2 * r + 1 + 1 : Nat) : Int)) ?_;refine TQ.w rfl (Kc rfl rfl) ?_;refine TQ.w rfl (Ke rfl rfl rfl (fun w => Kbg (by omega) w)) ?_;refine TQ.rn 4 rfl (TQ.ov (gD ((f + (2 * r + 1) : Nat) : Int)) ?_);refine TQ.on rfl rfl rfl ?_;refine TQ.w rfl (Kd (v := .pointer (some ⟨g, f + (2 * r + 1), none⟩)) rfl rfl rfl (fun w => Kg Tryz.underlying61 KD g _ _ (f + (2 * r + 1)) (by omega) rfl w)) ?_;refine TQ.on rfl rfl rfl ?_;refine TQ.w rfl (Kk (k := 0) (i := f + (2 * r + 1)) rfl rfl KT rfl (by omega)) ?_;refine TQ.rn 3 rfl (TQ.ov (gD ((f + (2 * r + 1) : Nat) : Int)) ?_);refine TQ.ov (gD ((f + (2 * r + 1) + 1 : Nat) : Int)) ?_;refine TQ.on rfl rfl rfl ?_;refine TQ.w rfl (Kd (v := .pointer (some ⟨g, f + (2 * r + 1) + 1, none⟩)) rfl rfl rfl (fun w => Kg Tryz.underlying61 KD g _ _ (f + (2 * r + 1) + 1) (by omega) rfl w)) ?_;refine TQ.on rfl rfl rfl ?_;refine TQ.w rfl (Kk (k := 0) (i := f + (2 * r + 1) + 1) rfl rfl KT rfl (by omega)) ?_;refine TQ.on rfl rfl rfl ?_;refine TQ.p1 (v := .bool true) rfl K5 (fun w1 hw => (Ka5 _ _ p2 w1).mono fun en w2 ⟨h1, h2⟩ => ⟨h1, hw.below h2⟩) ?_;refine TQ.w rfl (KP rfl rfl rfl) ?_;exact TQ.end_
  refine zT (zc (zG (TL.mv ?_)));refine TL.v (gD ((2 * r + 1 + 1 : Nat) : Int)) ?_;refine TL.as_ ?_;refine zET (zS (zS ?_));rcases Classical.em (dx ys (f + r) < dx ys (f + (2 * r + 1 + 1))) with p4 | p4
  ·have hmx : ∀ d, (d = 2 * r + 1 \/ d = 2 * r + 2) -> d < hi -> dx ys (f + d) <= dx ys (f + (2 * r + 1 + 1)) := fun d hd hdh => by rcases hd with rfl | rfl <;> omega
   refine TC.quiet_ (E' := ?_) (by kernel_rfl) (by kernel_rfl) (fun w hw => hw.drawn _) ?_ ?_
   rotate_left
   ·refine TQ.rn 3 rfl (TQ.v (gD ((f + r : Nat) : Int)) ?_);refine TQ.w rfl (Kd (v := .pointer (some ⟨g, f + r, none⟩)) rfl rfl rfl (fun w => Kg Tryz.underlying61 KD g _ _ (f + r) (by omega) rfl w)) ?_;refine TQ.w rfl (Kk (k := 0) (i := f + r) rfl rfl KT rfl (by omega)) ?_;refine TQ.rn 3 rfl (TQ.v (gD ((f + (2 * r + 1 + 1) : Nat) : Int)) ?_);refine TQ.w rfl (Kd (v := .pointer (some ⟨g, f + (2 * r + 1 + 1), none⟩)) rfl rfl rfl (fun w => Kg Tryz.underlying61 KD g _ _ (f + (2 * r + 1 + 1)) (by omega) rfl w)) ?_;refine TQ.w rfl (Kk (k := 0) (i := f + (2 * r + 1 + 1)) rfl rfl KT rfl (by omega)) ?_;refine TQ.p1 (v := .bool true) rfl K5 (fun w1 hw => (Ka5 _ _ p4 w1).mono fun en w2 ⟨h1, h2⟩ => ⟨h1, hw.below h2⟩) ?_;refine TQ.w rfl (KQ rfl rfl) ?_;exact TQ.end_
   refine zT (zd (zk (zT (zS (TC.held (ls := fA 24) (fun _ => True) (by kernel_rfl) rfl rfl (fun w hw => hw.drawn _) ?_)))));refine TH.tk 0 rfl rfl rfl (Kc rfl rfl) (fun _ _ => trivial) ?_;refine TH.tk 1 rfl rfl rfl (Kc rfl rfl) (fun _ _ => trivial) ?_;refine TH.tk 2 rfl rfl rfl (Kc rfl rfl) (fun _ _ => trivial) ?_;refine TH.tk 3 rfl rfl rfl (gD ((f + r : Nat) : Int)) (fun _ _ => trivial) ?_;refine TH.tk 4 rfl rfl rfl (Kc rfl rfl) (fun _ _ => trivial) ?_;refine TH.tk 5 rfl rfl rfl (Kc rfl rfl) (fun _ _ => trivial) ?_;refine TH.tk 6 rfl rfl rfl (Kc rfl rfl) (fun _ _ => trivial) ?_;refine TH.tk 7 rfl rfl rfl (gD ((f + (2 * r + 1 + 1) : Nat) : Int)) (fun _ _ => trivial) ?_;refine TH.tk 8 rfl rfl rfl (Kc rfl rfl) (fun _ _ => trivial) ?_;refine TH.tk 9 rfl rfl rfl (Kc rfl rfl) (fun _ _ => trivial) ?_;refine TH.tk 10 rfl rfl rfl (Kc rfl rfl) (fun _ _ => trivial) ?_;refine TH.tk 11 rfl rfl rfl (gD ((f + (2 * r + 1 + 1) : Nat) : Int)) (fun _ _ => trivial) ?_;refine TH.tk 12 rfl rfl rfl (Kd (v := .pointer (some ⟨g, f + (2 * r + 1 + 1), none⟩)) rfl rfl rfl (fun w => Kg Tryz.underlying61 KD g _ _ (f + (2 * r + 1 + 1)) (by omega) rfl w)) (fun _ _ => trivial) ?_;refine TH.tk 14 rfl rfl rfl (Kc rfl rfl) (fun _ _ => trivial) ?_;refine TH.tk 15 rfl rfl rfl (Kc rfl rfl) (fun _ _ => trivial) ?_;refine TH.tk 16 rfl rfl rfl (Kc rfl rfl) (fun _ _ => trivial) ?_;refine TH.tk 17 rfl rfl rfl (gD ((f + r : Nat) : Int)) (fun _ _ => trivial) ?_;refine TH.tk 18 rfl rfl rfl (Kd (v := .pointer (some ⟨g, f + r, none⟩)) rfl rfl rfl (fun w => Kg Tryz.underlying61 KD g _ _ (f + r) (by omega) rfl w)) (fun _ _ => trivial) ?_;refine TH.two' 13 19 rfl rfl (by kernel_rfl) rfl rfl ?_ ?_
   ·refine TL.w rfl (Kk (k := 0) (i := f + (2 * r + 1 + 1)) rfl rfl KT rfl (by omega)) ?_;refine zE ?_;refine TX.held (fun _ _ => trivial) ?_;refine TH.o 19 ?_;refine TL.w rfl (Kk (k := 0) (i := f + r) rfl rfl KT rfl (by omega)) ?_;refine zE ?_;refine TX.held (fun _ _ => trivial) ?_;refine TH.tk 20 rfl rfl rfl (Kd (v := .pointer (some ⟨g, f + r, none⟩)) rfl rfl rfl (fun w => Kg Tryz.underlying61 KD g _ _ (f + r) (by omega) rfl w)) (fun _ _ => trivial) ?_;refine TH.o 21 ?_;refine TL.uset (k := 0) (i := f + r) rfl rfl rfl rfl rfl rfl KD (by omega) ?_;refine zE ?_;refine TX.held (fun _ _ => trivial) ?_;refine TH.tk 22 rfl rfl rfl (Kd (v := .pointer (some ⟨g, f + (2 * r + 1 + 1), none⟩)) rfl rfl rfl (fun w => Kg Tryz.underlying61 KD g _ _ (f + (2 * r + 1 + 1)) (by omega) rfl w)) (fun _ _ => trivial) ?_;refine TH.o 23 ?_;refine TL.uset (k := 0) (i := f + (2 * r + 1 + 1)) rfl rfl rfl rfl rfl rfl KD (by rw [List.length_set]; omega) ?_;refine zE ?_;refine TX.held (fun _ _ => trivial) ?_;refine TH.done (by kernel_rfl) ?_;refine zT (zG (TL.rn 2 rfl (zE (zN ?_))));exact TX.rd (⟨(2 * r + 1 + 1, swp ys (f + r) (f + (2 * r + 1 + 1))), hS.down (by omega) (by omega) (by omega) p4 hmx, by dsimp only; omega, hP.swap (by omega) (by omega) (by omega) (by omega) (by omega), by rw [Kaf]; exact hly⟩) (by dsimp only; omega) (fun w1 hw => hw)
   refine TL.w rfl (Kk (k := 0) (i := f + r) rfl rfl KT rfl (by omega)) ?_;refine zE ?_;refine TX.held (fun _ _ => trivial) ?_;refine TH.o 13 ?_;refine TL.w rfl (Kk (k := 0) (i := f + (2 * r + 1 + 1)) rfl rfl KT rfl (by omega)) ?_;refine zE ?_;refine TX.held (fun _ _ => trivial) ?_;refine TH.tk 20 rfl rfl rfl (Kd (v := .pointer (some ⟨g, f + r, none⟩)) rfl rfl rfl (fun w => Kg Tryz.underlying61 KD g _ _ (f + r) (by omega) rfl w)) (fun _ _ => trivial) ?_;refine TH.o 21 ?_;refine TL.uset (k := 0) (i := f + r) rfl rfl rfl rfl rfl rfl KD (by omega) ?_;refine zE ?_;refine TX.held (fun _ _ => trivial) ?_;refine TH.tk 22 rfl rfl rfl (Kd (v := .pointer (some ⟨g, f + (2 * r + 1 + 1), none⟩)) rfl rfl rfl (fun w => Kg Tryz.underlying61 KD g _ _ (f + (2 * r + 1 + 1)) (by omega) rfl w)) (fun _ _ => trivial) ?_;refine TH.o 23 ?_;refine TL.uset (k := 0) (i := f + (2 * r + 1 + 1)) rfl rfl rfl rfl rfl rfl KD (by rw [List.length_set]; omega) ?_;refine zE ?_;refine TX.held (fun _ _ => trivial) ?_;refine TH.done (by kernel_rfl) ?_;refine zT (zG (TL.rn 2 rfl (zE (zN ?_))));exact TX.rd (⟨(2 * r + 1 + 1, swp ys (f + r) (f + (2 * r + 1 + 1))), hS.down (by omega) (by omega) (by omega) p4 hmx, by dsimp only; omega, hP.swap (by omega) (by omega) (by omega) (by omega) (by omega), by rw [Kaf]; exact hly⟩) (by dsimp only; omega) (fun w1 hw => hw)
  have hH : Hp f lo hi ys := hS.stop (fun d hd hdh => by rcases hd with rfl | rfl <;> omega);refine TC.quiet_ (E' := ?_) (by kernel_rfl) (by kernel_rfl) (fun w hw => hw.drawn _) ?_ ?_
  rotate_left
  ·refine TQ.rn 3 rfl (TQ.v (gD ((f + r : Nat) : Int)) ?_);refine TQ.w rfl (Kd (v := .pointer (some ⟨g, f + r, none⟩)) rfl rfl rfl (fun w => Kg Tryz.underlying61 KD g _ _ (f + r) (by omega) rfl w)) ?_;refine TQ.w rfl (Kk (k := 0) (i := f + r) rfl rfl KT rfl (by omega)) ?_;refine TQ.rn 3 rfl (TQ.v (gD ((f + (2 * r + 1 + 1) : Nat) : Int)) ?_);refine TQ.w rfl (Kd (v := .pointer (some ⟨g, f + (2 * r + 1 + 1), none⟩)) rfl rfl rfl (fun w => Kg Tryz.underlying61 KD g _ _ (f + (2 * r + 1 + 1)) (by omega) rfl w)) ?_;refine TQ.w rfl (Kk (k := 0) (i := f + (2 * r + 1 + 1)) rfl rfl KT rfl (by omega)) ?_;refine TQ.p1 (v := .bool false) rfl K5 (fun w1 hw => (Kbd _ _ p4 w1).mono fun en w2 ⟨h1, h2⟩ => ⟨h1, hw.below h2⟩) ?_;refine TQ.w rfl (KQ rfl rfl) ?_;exact TQ.end_
  refine zT (zc (zr (zR (zRR (TX.in_ret ?_)))));exact KdP Tryz.results138 (fun w1 hw => ⟨(), ys, rfl, ⟨hP, hH⟩, Kay hw (k := 0) rfl, hw.mapEnd (fun q hq => by simp [hq])⟩)
 have p3 : ¬ dx ys (f + (2 * r + 1)) < dx ys (f + (2 * r + 2)) := p2;refine TC.quiet_ (E' := ?_) (by kernel_rfl) (by kernel_rfl) (fun w hw => hw.drawn _) ?_ ?_
 rotate_left
 ·refine TQ.w rfl (Kc rfl rfl) ?_;refine TQ.v (gD ((2 * r + 1 + 1 : Nat) : Int)) ?_;refine TQ.w rfl (Kc rfl rfl) ?_;refine TQ.w rfl (Ke rfl rfl rfl (fun w => Kbg (by omega) w)) ?_;refine TQ.rn 4 rfl (TQ.ov (gD ((f + (2 * r + 1) : Nat) : Int)) ?_);refine TQ.on rfl rfl rfl ?_;refine TQ.w rfl (Kd (v := .pointer (some ⟨g, f + (2 * r + 1), none⟩)) rfl rfl rfl (fun w => Kg Tryz.underlying61 KD g _ _ (f + (2 * r + 1)) (by omega) rfl w)) ?_;refine TQ.on rfl rfl rfl ?_;refine TQ.w rfl (Kk (k := 0) (i := f + (2 * r + 1)) rfl rfl KT rfl (by omega)) ?_;refine TQ.rn 3 rfl (TQ.ov (gD ((f + (2 * r + 1) : Nat) : Int)) ?_);refine TQ.ov (gD ((f + (2 * r + 1) + 1 : Nat) : Int)) ?_;refine TQ.on rfl rfl rfl ?_;refine TQ.w rfl (Kd (v := .pointer (some ⟨g, f + (2 * r + 1) + 1, none⟩)) rfl rfl rfl (fun w => Kg Tryz.underlying61 KD g _ _ (f + (2 * r + 1) + 1) (by omega) rfl w)) ?_;refine TQ.on rfl rfl rfl ?_;refine TQ.w rfl (Kk (k := 0) (i := f + (2 * r + 1) + 1) rfl rfl KT rfl (by omega)) ?_;refine TQ.on rfl rfl rfl ?_;refine TQ.p1 (v := .bool false) rfl K5 (fun w1 hw => (Kbd _ _ p2 w1).mono fun en w2 ⟨h1, h2⟩ => ⟨h1, hw.below h2⟩) ?_;refine TQ.w rfl (KP rfl rfl rfl) ?_;exact TQ.end_
 refine zT (zd (zk (zT (zS (zS ?_)))));rcases Classical.em (dx ys (f + r) < dx ys (f + (2 * r + 1))) with p4 | p4
 ·have hmx : ∀ d, (d = 2 * r + 1 \/ d = 2 * r + 2) -> d < hi -> dx ys (f + d) <= dx ys (f + (2 * r + 1)) := fun d hd hdh => by rcases hd with rfl | rfl <;> omega
  refine TC.quiet_ (E' := ?_) (by kernel_rfl) (by kernel_rfl) (fun w hw => hw.drawn _) ?_ ?_
  rotate_left
  ·refine TQ.rn 3 rfl (TQ.v (gD ((f + r : Nat) : Int)) ?_);refine TQ.w rfl (Kd (v := .pointer (some ⟨g, f + r, none⟩)) rfl rfl rfl (fun w => Kg Tryz.underlying61 KD g _ _ (f + r) (by omega) rfl w)) ?_;refine TQ.w rfl (Kk (k := 0) (i := f + r) rfl rfl KT rfl (by omega)) ?_;refine TQ.rn 3 rfl (TQ.v (gD ((f + (2 * r + 1) : Nat) : Int)) ?_);refine TQ.w rfl (Kd (v := .pointer (some ⟨g, f + (2 * r + 1), none⟩)) rfl rfl rfl (fun w => Kg Tryz.underlying61 KD g _ _ (f + (2 * r + 1)) (by omega) rfl w)) ?_;refine TQ.w rfl (Kk (k := 0) (i := f + (2 * r + 1)) rfl rfl KT rfl (by omega)) ?_;refine TQ.p1 (v := .bool true) rfl K5 (fun w1 hw => (Ka5 _ _ p4 w1).mono fun en w2 ⟨h1, h2⟩ => ⟨h1, hw.below h2⟩) ?_;refine TQ.w rfl (KQ rfl rfl) ?_;exact TQ.end_
  refine zT (zd (zk (zT (zS (TC.held (ls := fA 24) (fun _ => True) (by kernel_rfl) rfl rfl (fun w hw => hw.drawn _) ?_)))));refine TH.tk 0 rfl rfl rfl (Kc rfl rfl) (fun _ _ => trivial) ?_;refine TH.tk 1 rfl rfl rfl (Kc rfl rfl) (fun _ _ => trivial) ?_;refine TH.tk 2 rfl rfl rfl (Kc rfl rfl) (fun _ _ => trivial) ?_;refine TH.tk 3 rfl rfl rfl (gD ((f + r : Nat) : Int)) (fun _ _ => trivial) ?_;refine TH.tk 4 rfl rfl rfl (Kc rfl rfl) (fun _ _ => trivial) ?_;refine TH.tk 5 rfl rfl rfl (Kc rfl rfl) (fun _ _ => trivial) ?_;refine TH.tk 6 rfl rfl rfl (Kc rfl rfl) (fun _ _ => trivial) ?_;refine TH.tk 7 rfl rfl rfl (gD ((f + (2 * r + 1) : Nat) : Int)) (fun _ _ => trivial) ?_;refine TH.tk 8 rfl rfl rfl (Kc rfl rfl) (fun _ _ => trivial) ?_;refine TH.tk 9 rfl rfl rfl (Kc rfl rfl) (fun _ _ => trivial) ?_;refine TH.tk 10 rfl rfl rfl (Kc rfl rfl) (fun _ _ => trivial) ?_;refine TH.tk 11 rfl rfl rfl (gD ((f + (2 * r + 1) : Nat) : Int)) (fun _ _ => trivial) ?_;refine TH.tk 12 rfl rfl rfl (Kd (v := .pointer (some ⟨g, f + (2 * r + 1), none⟩)) rfl rfl rfl (fun w => Kg Tryz.underlying61 KD g _ _ (f + (2 * r + 1)) (by omega) rfl w)) (fun _ _ => trivial) ?_;refine TH.tk 14 rfl rfl rfl (Kc rfl rfl) (fun _ _ => trivial) ?_;refine TH.tk 15 rfl rfl rfl (Kc rfl rfl) (fun _ _ => trivial) ?_;refine TH.tk 16 rfl rfl rfl (Kc rfl rfl) (fun _ _ => trivial) ?_;refine TH.tk 17 rfl rfl rfl (gD ((f + r : Nat) : Int)) (fun _ _ => trivial) ?_;refine TH.tk 18 rfl rfl rfl (Kd (v := .pointer (some ⟨g, f + r, none⟩)) rfl rfl rfl (fun w => Kg Tryz.underlying61 KD g _ _ (f + r) (by omega) rfl w)) (fun _ _ => trivial) ?_;refine TH.two' 13 19 rfl rfl (by kernel_rfl) rfl rfl ?_ ?_
  ·refine TL.w rfl (Kk (k := 0) (i := f + (2 * r + 1)) rfl rfl KT rfl (by omega)) ?_;refine zE ?_;refine TX.held (fun _ _ => trivial) ?_;refine TH.o 19 ?_;refine TL.w rfl (Kk (k := 0) (i := f + r) rfl rfl KT rfl (by omega)) ?_;refine zE ?_;refine TX.held (fun _ _ => trivial) ?_;refine TH.tk 20 rfl rfl rfl (Kd (v := .pointer (some ⟨g, f + r, none⟩)) rfl rfl rfl (fun w => Kg Tryz.underlying61 KD g _ _ (f + r) (by omega) rfl w)) (fun _ _ => trivial) ?_;refine TH.o 21 ?_;refine TL.uset (k := 0) (i := f + r) rfl rfl rfl rfl rfl rfl KD (by omega) ?_;refine zE ?_;refine TX.held (fun _ _ => trivial) ?_;refine TH.tk 22 rfl rfl rfl (Kd (v := .pointer (some ⟨g, f + (2 * r + 1), none⟩)) rfl rfl rfl (fun w => Kg Tryz.underlying61 KD g _ _ (f + (2 * r + 1)) (by omega) rfl w)) (fun _ _ => trivial) ?_;refine TH.o 23 ?_;refine TL.uset (k := 0) (i := f + (2 * r + 1)) rfl rfl rfl rfl rfl rfl KD (by rw [List.length_set]; omega) ?_;refine zE ?_;refine TX.held (fun _ _ => trivial) ?_;refine TH.done (by kernel_rfl) ?_;refine zT (zG (TL.rn 2 rfl (zE (zN ?_))));exact TX.rd (⟨(2 * r + 1, swp ys (f + r) (f + (2 * r + 1))), hS.down (by omega) (by omega) (by omega) p4 hmx, by dsimp only; omega, hP.swap (by omega) (by omega) (by omega) (by omega) (by omega), by rw [Kaf]; exact hly⟩) (by dsimp only; omega) (fun w1 hw => hw)
  refine TL.w rfl (Kk (k := 0) (i := f + r) rfl rfl KT rfl (by omega)) ?_;refine zE ?_;refine TX.held (fun _ _ => trivial) ?_;refine TH.o 13 ?_;refine TL.w rfl (Kk (k := 0) (i := f + (2 * r + 1)) rfl rfl KT rfl (by omega)) ?_;refine zE ?_;refine TX.held (fun _ _ => trivial) ?_;refine TH.tk 20 rfl rfl rfl (Kd (v := .pointer (some ⟨g, f + r, none⟩)) rfl rfl rfl (fun w => Kg Tryz.underlying61 KD g _ _ (f + r) (by omega) rfl w)) (fun _ _ => trivial) ?_;refine TH.o 21 ?_;refine TL.uset (k := 0) (i := f + r) rfl rfl rfl rfl rfl rfl KD (by omega) ?_;refine zE ?_;refine TX.held (fun _ _ => trivial) ?_;refine TH.tk 22 rfl rfl rfl (Kd (v := .pointer (some ⟨g, f + (2 * r + 1), none⟩)) rfl rfl rfl (fun w => Kg Tryz.underlying61 KD g _ _ (f + (2 * r + 1)) (by omega) rfl w)) (fun _ _ => trivial) ?_;refine TH.o 23 ?_;refine TL.uset (k := 0) (i := f + (2 * r + 1)) rfl rfl rfl rfl rfl rfl KD (by rw [List.length_set]; omega) ?_;refine zE ?_;refine TX.held (fun _ _ => trivial) ?_;refine TH.done (by kernel_rfl) ?_;refine zT (zG (TL.rn 2 rfl (zE (zN ?_))));exact TX.rd (⟨(2 * r + 1, swp ys (f + r) (f + (2 * r + 1))), hS.down (by omega) (by omega) (by omega) p4 hmx, by dsimp only; omega, hP.swap (by omega) (by omega) (by omega) (by omega) (by omega), by rw [Kaf]; exact hly⟩) (by dsimp only; omega) (fun w1 hw => hw)
 have hH : Hp f lo hi ys := hS.stop (fun d hd hdh => by rcases hd with rfl | rfl <;> omega);refine TC.quiet_ (E' := ?_) (by kernel_rfl) (by kernel_rfl) (fun w hw => hw.drawn _) ?_ ?_
 rotate_left
 ·refine TQ.rn 3 rfl (TQ.v (gD ((f + r : Nat) : Int)) ?_);refine TQ.w rfl (Kd (v := .pointer (some ⟨g, f + r, none⟩)) rfl rfl rfl (fun w => Kg Tryz.underlying61 KD g _ _ (f + r) (by omega) rfl w)) ?_;refine TQ.w rfl (Kk (k := 0) (i := f + r) rfl rfl KT rfl (by omega)) ?_;refine TQ.rn 3 rfl (TQ.v (gD ((f + (2 * r + 1) : Nat) : Int)) ?_);refine TQ.w rfl (Kd (v := .pointer (some ⟨g, f + (2 * r + 1), none⟩)) rfl rfl rfl (fun w => Kg Tryz.underlying61 KD g _ _ (f + (2 * r + 1)) (by omega) rfl w)) ?_;refine TQ.w rfl (Kk (k := 0) (i := f + (2 * r + 1)) rfl rfl KT rfl (by omega)) ?_;refine TQ.p1 (v := .bool false) rfl K5 (fun w1 hw => (Kbd _ _ p4 w1).mono fun en w2 ⟨h1, h2⟩ => ⟨h1, hw.below h2⟩) ?_;refine TQ.w rfl (KQ rfl rfl) ?_;exact TQ.end_
 refine zT (zc (zr (zR (zRR (TX.in_ret ?_)))));exact KdP Tryz.results138 (fun w1 hw => ⟨(), ys, rfl, ⟨hP, hH⟩, Kay hw (k := 0) rfl, hw.mapEnd (fun q hq => by simp [hq])⟩)
theorem KpH (g n c : Nat) (xs : List Int) (w : World) (h : Rw 30 w g n c xs) (hn : n <= 1000000) (a b : Nat) (hab : a < b) (hb : b <= n) :
  Calls Tryz.prog 116 #[.slice (some ⟨g, 0, none⟩) n c, .int .i64 ((a : Nat) : Int), .int .i64 ((b : Nat) : Int)] w (RC (α := Unit) (fun _ => .tuple #[]) (fun _ ys => Pin a b xs ys /\ Srt a b ys) 30 g n c w) := by
 have hl := h.len;refine Kn (I := Pm ⟨KC w g, g⟩ (.row (.slice (some ⟨g, 0, none⟩) n c) 30 1 n (uv xs) :: Kr g w)) Tryz.func116 rfl rfl rfl ?_ (Pm.rowStart h);refine zSG (TL.rn 2 rfl (zET (zSG (TL.as_ ?_))));refine zET (zSG (TL.rn 2 rfl ?_));refine TL.w rfl (Ke rfl rfl rfl (fun w => Kz (r := ((b - a : Nat) : Int)) (by simp only [IntKind.wrap_i64]; omega) w)) ?_;refine TL.as_ ?_;refine zET (zS (zSG (TL.mv ?_)));refine TL.w rfl (Ke rfl rfl rfl (fun w => Kz (r := (((b - a) - 1 : Nat) : Int)) (by simp only [IntKind.wrap_i64]; omega) w)) ?_;refine TL.w rfl (Ke rfl rfl rfl (fun w => Kc0 (r := ((((b - a) - 1) / 2 : Nat) : Int)) (by omega) (by omega) (by omega) (by omega) w)) ?_;refine TL.as_ ?_;refine zET (zB ?_);refine TC.loop_ (α := {y : Nat × List Int // y.1 <= b - a /\ Hp a y.1 (b - a) y.2 /\ Pin a b xs y.2 /\ y.2.length = n}) (fun y => [(0, .slice (some ⟨g, 0, none⟩) n c), (6, .int .i64 ((a : Nat) : Int)), (7, .int .i64 0), (8, .int .i64 ((b - a : Nat) : Int)), (9, .int .i64 (((y.1.1 : Nat) : Int) - 1))]) (fun y => Pm ⟨KC w g, g⟩ ([.row (.slice (some ⟨g, 0, none⟩) n c) 30 1 n (uv y.1.2)] ++ Kr g w)) (fun y => y.1.1) (⟨((b - a - 1) / 2 + 1, xs), by dsimp only; omega, fun i c h1 h2 h3 => by dsimp only at h1; omega, Pin.refl _ _ _, hl⟩) ⟨rfl, rfl, rfl, rfl, congrArg (fun z => some (Value.int .i64 z)) (by (try dsimp only); omega), trivial⟩ (fun w1 hw => hw) ?_;rintro ⟨⟨k, ys⟩, hk, hH, hP, hly⟩;dsimp only at hk hH hP hly ⊢;refine zS (zSG (TL.mv ?_));refine TL.sp Kaj (fun q19 => ?_) (fun q19 => ?_)
 ·refine zET (zc (zk (zT (zS (zB (TC.cut [(0, .slice (some ⟨g, 0, none⟩) n c), (6, .int .i64 ((a : Nat) : Int)), (7, .int .i64 0), (8, .int .i64 ((b - a : Nat) : Int)), (9, .int .i64 ((k - 1 : Nat) : Int)), (18, .int .i64 (((k : Nat) : Int) - 1)), (19, .bool true)] (Pm ⟨KC w g, g⟩ ([.row (.slice (some ⟨g, 0, none⟩) n c) 30 1 n (uv ys)] ++ Kr g w)) ⟨rfl, rfl, rfl, rfl, congrArg (fun z => some (Value.int .i64 z)) (by (try dsimp only); omega), rfl, rfl, trivial⟩ (fun w1 hw => hw) ?_))))));refine zG (TL.rn 4 rfl ?_);refine TL.pcallRw (k := 0) (α := Unit) (fun _ => .tuple #[]) (fun _ zs => Pin a (a + (b - a)) ys zs /\ Hp a (k - 1) (b - a) zs) rfl rfl rfl rfl rfl Tryz.func138 Khu KgX rfl (fun w1 hw hr1 => Khl g n c ys w1 hr1 hn (k - 1) (b - a) a (by omega) (by omega) (by rw [show k - 1 + 1 = k by omega]; exact hH)) ?_;rintro ⟨⟩ zs ⟨hQ, hH2⟩
  try dsimp only [List.set_cons_zero, List.set_cons_succ]
  rw [show a + (b - a) = b by omega] at hQ;have hlz : zs.length = n := hQ.len.trans hly;refine zE (zN (zT (zG (TL.mv ?_))));refine TL.w rfl (Ke rfl rfl rfl (fun w => Kz (r := ((k - 1 : Nat) : Int) - 1) (by simp only [IntKind.wrap_i64]; omega) w)) ?_;refine TL.as_ ?_;refine zE ?_;exact TX.rd (⟨(k - 1, zs), by dsimp only; omega, hH2, hP.trans hQ, hlz⟩) (by show k - 1 < k; omega) (fun w1 hw => hw)
 refine zET (zd (zx (zX (zX (zM (zT (zSG (TL.mv ?_))))))));refine TL.w rfl (Ke rfl rfl rfl (fun w => Kz (r := (((b - a) - 1 : Nat) : Int)) (by simp only [IntKind.wrap_i64]; omega) w)) ?_;refine TL.as_ ?_;refine zET (zB ?_);refine TC.loop_ (α := {y : Nat × List Int // y.1 <= b - a /\ Hsr a y.1 (b - a) y.2 /\ Pin a b xs y.2 /\ y.2.length = n}) (fun y => [(0, .slice (some ⟨g, 0, none⟩) n c), (6, .int .i64 ((a : Nat) : Int)), (7, .int .i64 0), (8, .int .i64 ((b - a : Nat) : Int)), (10, .int .i64 (((y.1.1 : Nat) : Int) - 1))]) (fun y => Pm ⟨KC w g, g⟩ ([.row (.slice (some ⟨g, 0, none⟩) n c) 30 1 n (uv y.1.2)] ++ Kr g w)) (fun y => y.1.1) (⟨(b - a, ys), Nat.le_refl _, ⟨by dsimp only; rw [show k = 0 by omega] at hH; exact hH, fun j k h1 h2 h3 => by dsimp only at h3; omega⟩, hP, hly⟩) ⟨rfl, rfl, rfl, rfl, congrArg (fun z => some (Value.int .i64 z)) (by (try dsimp only); omega), trivial⟩ (fun w1 hw => hw) ?_;rintro ⟨⟨k, ys⟩, hk, hH, hP, hly⟩;dsimp only at hk hH hP hly ⊢;refine zS (zSG (TL.mv ?_));refine TL.sp Kaj (fun q30 => ?_) (fun q30 => ?_)
 ·refine zET (zc (zk (zT (zS (zB (zS (TC.cut [(0, .slice (some ⟨g, 0, none⟩) n c), (6, .int .i64 ((a : Nat) : Int)), (7, .int .i64 0), (8, .int .i64 ((b - a : Nat) : Int)), (10, .int .i64 ((k - 1 : Nat) : Int)), (29, .int .i64 (((k : Nat) : Int) - 1)), (30, .bool true)] (Pm ⟨KC w g, g⟩ ([.row (.slice (some ⟨g, 0, none⟩) n c) 30 1 n (uv ys)] ++ Kr g w)) ⟨rfl, rfl, rfl, rfl, congrArg (fun z => some (Value.int .i64 z)) (by (try dsimp only); omega), rfl, rfl, trivial⟩ (fun w1 hw => hw) ?_)))))));refine TC.held (ls := fA 20) (fun _ => True) (by kernel_rfl) rfl rfl (fun w hw => hw.drawn _) ?_;refine TH.tk 0 rfl rfl rfl (Kc rfl rfl) (fun _ _ => trivial) ?_;refine TH.tk 1 rfl rfl rfl (Kc rfl rfl) (fun _ _ => trivial) ?_;refine TH.tk 2 rfl rfl rfl (Kc rfl rfl) (fun _ _ => trivial) ?_;refine TH.tk 3 rfl rfl rfl (Kc rfl rfl) (fun _ _ => trivial) ?_;refine TH.tk 4 rfl rfl rfl (Kc rfl rfl) (fun _ _ => trivial) ?_;refine TH.tk 5 rfl rfl rfl (gD ((a + (k - 1) : Nat) : Int)) (fun _ _ => trivial) ?_;refine TH.tk 6 rfl rfl rfl (Kc rfl rfl) (fun _ _ => trivial) ?_;refine TH.tk 7 rfl rfl rfl (Kc rfl rfl) (fun _ _ => trivial) ?_;refine TH.tk 8 rfl rfl rfl (Kc rfl rfl) (fun _ _ => trivial) ?_;refine TH.tk 9 rfl rfl rfl (gD ((a + (k - 1) : Nat) : Int)) (fun _ _ => trivial) ?_;refine TH.tk 10 rfl rfl rfl (Kd (v := .pointer (some ⟨g, a + (k - 1), none⟩)) rfl rfl rfl (fun w => Kg Tryz.underlying61 KD g _ _ (a + (k - 1)) (by omega) rfl w)) (fun _ _ => trivial) ?_;refine TH.tk 12 rfl rfl rfl (Kc rfl rfl) (fun _ _ => trivial) ?_;refine TH.tk 13 rfl rfl rfl (Kc rfl rfl) (fun _ _ => trivial) ?_;refine TH.tk 14 rfl rfl rfl (Kd (v := .pointer (some ⟨g, a, none⟩)) rfl rfl rfl (fun w => Kg Tryz.underlying61 KD g _ _ a (by omega) rfl w)) (fun _ _ => trivial) ?_;refine TH.two' 11 15 rfl rfl (by kernel_rfl) rfl rfl ?_ ?_
  ·refine TL.w rfl (Kk (k := 0) (i := a + (k - 1)) rfl rfl KT rfl (by omega)) ?_;refine zE ?_;refine TX.held (fun _ _ => trivial) ?_;refine TH.o 15 ?_;refine TL.w rfl (Kk (k := 0) (i := a) rfl rfl KT rfl (by omega)) ?_;refine zE ?_;refine TX.held (fun _ _ => trivial) ?_;refine TH.tk 16 rfl rfl rfl (Kd (v := .pointer (some ⟨g, a, none⟩)) rfl rfl rfl (fun w => Kg Tryz.underlying61 KD g _ _ a (by omega) rfl w)) (fun _ _ => trivial) ?_;refine TH.o 17 ?_;refine TL.uset (k := 0) (i := a) rfl rfl rfl rfl rfl rfl KD (by omega) ?_;refine zE ?_;refine TX.held (fun _ _ => trivial) ?_;refine TH.tk 18 rfl rfl rfl (Kd (v := .pointer (some ⟨g, a + (k - 1), none⟩)) rfl rfl rfl (fun w => Kg Tryz.underlying61 KD g _ _ (a + (k - 1)) (by omega) rfl w)) (fun _ _ => trivial) ?_;refine TH.o 19 ?_;refine TL.uset (k := 0) (i := a + (k - 1)) rfl rfl rfl rfl rfl rfl KD (by rw [List.length_set]; omega) ?_;refine zE ?_;refine TX.held (fun _ _ => trivial) ?_;refine TH.done (by kernel_rfl) ?_;refine zT (zG (TL.rn 4 rfl ?_));refine TL.pcallRw (k := 0) (α := Unit) (fun _ => .tuple #[]) (fun _ zs => Pin a (a + (k - 1)) (swp ys a (a + (k - 1))) zs /\ Hp a 0 (k - 1) zs) rfl rfl rfl rfl rfl Tryz.func138 Khu KgX rfl (fun w1 hw hr1 => Khl g n c (swp ys a (a + (k - 1))) w1 hr1 hn 0 (k - 1) a (by omega) (by omega) (Hp.swap0 (by rw [show k - 1 + 1 = k by omega]; exact hH.heap) (by omega))) ?_;rintro ⟨⟩ zs ⟨hQ, hH2⟩
   try dsimp only [List.set_cons_zero, List.set_cons_succ]
   have hlz : zs.length = n := by rw [hQ.len, Kaf]; exact hly
   have hP2 : Pin a b xs zs := (hP.swap (by omega) (by omega) (by omega) (by omega) (by omega)).trans (hQ.mono (Nat.le_refl _) (by omega));have hH3 : Hsr a (k - 1) (b - a) zs := Hsr.step (i := k - 1) (by rw [show k - 1 + 1 = k by omega]; exact hH) (by omega) (by omega) hQ hH2;refine zE (zN (zT (zG (TL.mv ?_))));refine TL.w rfl (Ke rfl rfl rfl (fun w => Kz (r := ((k - 1 : Nat) : Int) - 1) (by simp only [IntKind.wrap_i64]; omega) w)) ?_;refine TL.as_ ?_;refine zE ?_;exact TX.rd (⟨(k - 1, zs), by dsimp only; omega, hH3, hP2, hlz⟩) (by show k - 1 < k; omega) (fun w1 hw => hw)
  refine TL.w rfl (Kk (k := 0) (i := a) rfl rfl KT rfl (by omega)) ?_;refine zE ?_;refine TX.held (fun _ _ => trivial) ?_;refine TH.o 11 ?_;refine TL.w rfl (Kk (k := 0) (i := a + (k - 1)) rfl rfl KT rfl (by omega)) ?_;refine zE ?_;refine TX.held (fun _ _ => trivial) ?_;refine TH.tk 16 rfl rfl rfl (Kd (v := .pointer (some ⟨g, a, none⟩)) rfl rfl rfl (fun w => Kg Tryz.underlying61 KD g _ _ a (by omega) rfl w)) (fun _ _ => trivial) ?_;refine TH.o 17 ?_;refine TL.uset (k := 0) (i := a) rfl rfl rfl rfl rfl rfl KD (by omega) ?_;refine zE ?_;refine TX.held (fun _ _ => trivial) ?_;refine TH.tk 18 rfl rfl rfl (Kd (v := .pointer (some ⟨g, a + (k - 1), none⟩)) rfl rfl rfl (fun w => Kg Tryz.underlying61 KD g _ _ (a + (k - 1)) (by omega) rfl w)) (fun _ _ => trivial) ?_;refine TH.o 19 ?_;refine TL.uset (k := 0) (i := a + (k - 1)) rfl rfl rfl rfl rfl rfl KD (by rw [List.length_set]; omega) ?_;refine zE ?_;refine TX.held (fun _ _ => trivial) ?_;refine TH.done (by kernel_rfl) ?_;refine zT (zG (TL.rn 4 rfl ?_));refine TL.pcallRw (k := 0) (α := Unit) (fun _ => .tuple #[]) (fun _ zs => Pin a (a + (k - 1)) (swp ys a (a + (k - 1))) zs /\ Hp a 0 (k - 1) zs) rfl rfl rfl rfl rfl Tryz.func138 Khu KgX rfl (fun w1 hw hr1 => Khl g n c (swp ys a (a + (k - 1))) w1 hr1 hn 0 (k - 1) a (by omega) (by omega) (Hp.swap0 (by rw [show k - 1 + 1 = k by omega]; exact hH.heap) (by omega))) ?_;rintro ⟨⟩ zs ⟨hQ, hH2⟩
  try dsimp only [List.set_cons_zero, List.set_cons_succ]
  have hlz : zs.length = n := by rw [hQ.len, Kaf]; exact hly
  have hP2 : Pin a b xs zs := (hP.swap (by omega) (by omega) (by omega) (by omega) (by omega)).trans (hQ.mono (Nat.le_refl _) (by omega));have hH3 : Hsr a (k - 1) (b - a) zs := Hsr.step (i := k - 1) (by rw [show k - 1 + 1 = k by omega]; exact hH) (by omega) (by omega) hQ hH2;refine zE (zN (zT (zG (TL.mv ?_))));refine TL.w rfl (Ke rfl rfl rfl (fun w => Kz (r := ((k - 1 : Nat) : Int) - 1) (by simp only [IntKind.wrap_i64]; omega) w)) ?_;refine TL.as_ ?_;refine zE ?_;exact TX.rd (⟨(k - 1, zs), by dsimp only; omega, hH3, hP2, hlz⟩) (by show k - 1 < k; omega) (fun w1 hw => hw)
 refine zET (zd (zx (zX (zX (zM ?_)))));obtain rfl : k = 0 := by omega
 have hS : Srt a b ys := by have := hH.done; rwa [show a + (b - a) = b by omega] at this
 exact KcD Tryz.results116 (fun w1 hw => ⟨(), ys, rfl, ⟨hP, hS⟩, Kay hw (k := 0) rfl, hw.mapEnd (fun q hq => by simp [hq])⟩)
theorem Kmm (g n c : Nat) (xs : List Int) (w : World) (h : Rw 30 w g n c xs) (hn : n <= 1000000) (a b : Nat) (hab : a < b) (hb : b <= n) :
  Calls Tryz.prog 119 #[.slice (some ⟨g, 0, none⟩) n c, .int .i64 ((a : Nat) : Int), .int .i64 ((b : Nat) : Int)] w (RC (α := Unit) (fun _ => .tuple #[]) (fun _ ys => Pin a b xs ys) 30 g n c w) := by
 have hl := h.len;refine Kn (I := Pm ⟨KC w g, g⟩ (.row (.slice (some ⟨g, 0, none⟩) n c) 30 1 n (uv xs) :: Kr g w)) Tryz.func119 rfl rfl rfl ?_ (Pm.rowStart h);refine zSG (TL.rn 2 rfl (zET (zSG (TL.mv ?_))));refine TL.w rfl (Ke rfl rfl rfl (fun w => Kz (r := ((b - 1 : Nat) : Int)) (by simp only [IntKind.wrap_i64]; omega) w)) ?_;refine TL.as_ ?_;refine zET (zB ?_);refine TC.lp (α := {y : Nat × Nat × List Int // a <= y.1 /\ y.2.1 < b /\ Pin a b xs y.2.2 /\ y.2.2.length = n}) [0] rfl (fun y => [(6, .int .i64 ((y.1.1 : Nat) : Int)), (7, .int .i64 ((y.1.2.1 : Nat) : Int))]) (fun y => Pm ⟨KC w g, g⟩ ([.row (.slice (some ⟨g, 0, none⟩) n c) 30 1 n (uv y.1.2.2)] ++ Kr g w)) (fun y => y.1.2.1) (⟨(a, b - 1, xs), Nat.le_refl _, by dsimp only; omega, Pin.refl _ _ _, hl⟩) (fun w1 hw => hw) ?_;rintro ⟨⟨i, j, ys⟩, hi, hj, hP, hly⟩;dsimp only at hi hj hP hly ⊢;refine zS (zSG (TL.rn 2 rfl ?_));refine TL.sp Ks (fun q13 => ?_) (fun q13 => ?_)
 ·refine zET (zc (zk (zT (zB (zS (TC.held (ls := fA 16) (fun _ => True) (by kernel_rfl) rfl rfl (fun w hw => hw.drawn _) ?_))))));refine TH.tk 0 rfl rfl rfl (Kc rfl rfl) (fun _ _ => trivial) ?_;refine TH.tk 1 rfl rfl rfl (Kc rfl rfl) (fun _ _ => trivial) ?_;refine TH.tk 2 rfl rfl rfl (Kc rfl rfl) (fun _ _ => trivial) ?_;refine TH.tk 3 rfl rfl rfl (Kc rfl rfl) (fun _ _ => trivial) ?_;refine TH.tk 4 rfl rfl rfl (Kc rfl rfl) (fun _ _ => trivial) ?_;refine TH.tk 5 rfl rfl rfl (Kc rfl rfl) (fun _ _ => trivial) ?_;refine TH.tk 6 rfl rfl rfl (Kd (v := .pointer (some ⟨g, j, none⟩)) rfl rfl rfl (fun w => Kg Tryz.underlying61 KD g _ _ j (by omega) rfl w)) (fun _ _ => trivial) ?_;refine TH.tk 8 rfl rfl rfl (Kc rfl rfl) (fun _ _ => trivial) ?_;refine TH.tk 9 rfl rfl rfl (Kc rfl rfl) (fun _ _ => trivial) ?_;refine TH.tk 10 rfl rfl rfl (Kd (v := .pointer (some ⟨g, i, none⟩)) rfl rfl rfl (fun w => Kg Tryz.underlying61 KD g _ _ i (by omega) rfl w)) (fun _ _ => trivial) ?_;refine TH.two' 7 11 rfl rfl (by kernel_rfl) rfl rfl ?_ ?_
  ·refine TL.w rfl (Kk (k := 0) (i := j) rfl rfl KT rfl (by omega)) ?_;refine zE ?_;refine TX.held (fun _ _ => trivial) ?_;refine TH.o 11 ?_;refine TL.w rfl (Kk (k := 0) (i := i) rfl rfl KT rfl (by omega)) ?_;refine zE ?_;refine TX.held (fun _ _ => trivial) ?_;refine TH.tk 12 rfl rfl rfl (Kd (v := .pointer (some ⟨g, i, none⟩)) rfl rfl rfl (fun w => Kg Tryz.underlying61 KD g _ _ i (by omega) rfl w)) (fun _ _ => trivial) ?_;refine TH.o 13 ?_;refine TL.uset (k := 0) (i := i) rfl rfl rfl rfl rfl rfl KD (by omega) ?_;refine zE ?_;refine TX.held (fun _ _ => trivial) ?_;refine TH.tk 14 rfl rfl rfl (Kd (v := .pointer (some ⟨g, j, none⟩)) rfl rfl rfl (fun w => Kg Tryz.underlying61 KD g _ _ j (by omega) rfl w)) (fun _ _ => trivial) ?_;refine TH.o 15 ?_;refine TL.uset (k := 0) (i := j) rfl rfl rfl rfl rfl rfl KD (by rw [List.length_set]; omega) ?_;refine zE ?_;refine TX.held (fun _ _ => trivial) ?_;refine TH.done (by kernel_rfl) ?_;refine zT (zSG (TL.mv ?_));refine TL.v (gD ((i + 1 : Nat) : Int)) ?_;refine TL.as_ ?_;refine zET (zG (TL.mv ?_));refine TL.w rfl (Ke rfl rfl rfl (fun w => Kz (r := ((j - 1 : Nat) : Int)) (by simp only [IntKind.wrap_i64]; omega) w)) ?_;refine TL.as_ ?_;refine zE (zN ?_);exact TX.rd (⟨(i + 1, j - 1, swp ys i j), by dsimp only; omega, by dsimp only; omega, hP.swap (by omega) (by omega) (by omega) (by omega) (by omega), by rw [Kaf]; exact hly⟩) (by show j - 1 < j; omega) (fun w1 hw => hw)
  refine TL.w rfl (Kk (k := 0) (i := i) rfl rfl KT rfl (by omega)) ?_;refine zE ?_;refine TX.held (fun _ _ => trivial) ?_;refine TH.o 7 ?_;refine TL.w rfl (Kk (k := 0) (i := j) rfl rfl KT rfl (by omega)) ?_;refine zE ?_;refine TX.held (fun _ _ => trivial) ?_;refine TH.tk 12 rfl rfl rfl (Kd (v := .pointer (some ⟨g, i, none⟩)) rfl rfl rfl (fun w => Kg Tryz.underlying61 KD g _ _ i (by omega) rfl w)) (fun _ _ => trivial) ?_;refine TH.o 13 ?_;refine TL.uset (k := 0) (i := i) rfl rfl rfl rfl rfl rfl KD (by omega) ?_;refine zE ?_;refine TX.held (fun _ _ => trivial) ?_;refine TH.tk 14 rfl rfl rfl (Kd (v := .pointer (some ⟨g, j, none⟩)) rfl rfl rfl (fun w => Kg Tryz.underlying61 KD g _ _ j (by omega) rfl w)) (fun _ _ => trivial) ?_;refine TH.o 15 ?_;refine TL.uset (k := 0) (i := j) rfl rfl rfl rfl rfl rfl KD (by rw [List.length_set]; omega) ?_;refine zE ?_;refine TX.held (fun _ _ => trivial) ?_;refine TH.done (by kernel_rfl) ?_;refine zT (zSG (TL.mv ?_));refine TL.v (gD ((i + 1 : Nat) : Int)) ?_;refine TL.as_ ?_;refine zET (zG (TL.mv ?_));refine TL.w rfl (Ke rfl rfl rfl (fun w => Kz (r := ((j - 1 : Nat) : Int)) (by simp only [IntKind.wrap_i64]; omega) w)) ?_;refine TL.as_ ?_;refine zE (zN ?_);exact TX.rd (⟨(i + 1, j - 1, swp ys i j), by dsimp only; omega, by dsimp only; omega, hP.swap (by omega) (by omega) (by omega) (by omega) (by omega), by rw [Kaf]; exact hly⟩) (by show j - 1 < j; omega) (fun w1 hw => hw)
 refine zET (zd (zx (zX (zX (zM ?_)))));exact KcD Tryz.results119 (fun w1 hw => ⟨(), ys, rfl, hP, Kay hw (k := 0) rfl, hw.mapEnd (fun q hq => by simp [hq])⟩)
set_option maxRecDepth 20000
theorem KO (w : World) : (sizeOf 30).run Tryz.prog w = .ok 1 w := rfl
theorem Kaw (w : World) : (isAgg 30).run Tryz.prog w = .ok false w := rfl
theorem Kog (g n c : Nat) (xs : List Int) (w : World) (h : Rw 30 w g n c xs) (hn : n <= 1000000) (a b : Nat) (hab : a < b) (hb : b <= n) (hL : Low a b xs) :
  Calls Tryz.prog 120 #[.slice (some ⟨g, 0, none⟩) n c, .int .i64 ((a : Nat) : Int), .int .i64 ((b : Nat) : Int)] w (RC (α := Bool) (fun x => .bool x) (fun x ys => Pin a b xs ys /\ (x = true -> Srt a b ys)) 30 g n c w) := by
 have hl := h.len;refine Kn (I := Pm ⟨KC w g, g⟩ (.row (.slice (some ⟨g, 0, none⟩) n c) 30 1 n (uv xs) :: Kr g w)) Tryz.func120 rfl rfl rfl ?_ (Pm.rowStart h);refine zSG (TL.as_ ?_);refine zET (zSG (TL.mv ?_));refine TL.v (gD ((a + 1 : Nat) : Int)) ?_;refine TL.as_ ?_;refine zET (zS (zSG (TL.as_ ?_)));refine zET (zB ?_);refine TC.lp (α := {y : Nat × Nat × List Int // y.1 <= 5 /\ a < y.2.1 /\ y.2.1 <= b /\ Pin a b xs y.2.2 /\ Srt a y.2.1 y.2.2 /\ y.2.2.length = n}) [0, 1, 2] rfl (fun y => [(7, .int .i64 ((y.1.2.1 : Nat) : Int)), (8, .int .i64 ((y.1.1 : Nat) : Int))]) (fun y => Pm ⟨KC w g, g⟩ ([.row (.slice (some ⟨g, 0, none⟩) n c) 30 1 n (uv y.1.2.2)] ++ Kr g w)) (fun y => 5 - y.1.1) (⟨(0, a + 1, xs), by dsimp only; omega, by dsimp only; omega, by dsimp only; omega, Pin.refl _ _ _, Srt.one (Nat.le_refl _), hl⟩) (fun w1 hw => hw) ?_;rintro ⟨⟨t, i0, ys⟩, ht, hi1, hi2, hP, hS0, hly⟩;dsimp only at ht hi1 hi2 hP hS0 hly ⊢;refine zS (zSG (TL.mv ?_));refine TL.sp Ks (fun q14 => ?_) (fun q14 => ?_)
 ·refine zET (zc (zk (zT (zS (zB (zS (zB (TC.lp (α := {y : Nat // a < y /\ y <= b /\ Srt a y ys}) [0, 1, 2, 8] rfl (fun y => [(7, .int .i64 ((y.1 : Nat) : Int))]) (fun y => Pm ⟨KC w g, g⟩ ([.row (.slice (some ⟨g, 0, none⟩) n c) 30 1 n (uv ys)] ++ Kr g w)) (fun y => b - y.1) (⟨i0, hi1, hi2, hS0⟩) (fun w1 hw => hw) ?_))))))));rintro ⟨i, hi3, hi4, hS⟩
  try dsimp only
  refine zS (zS ?_);have hway : ¬ i < b \/ (i < b /\ dx ys i < dx ys (i - 1)) \/ (i < b /\ ¬ dx ys i < dx ys (i - 1)) := by omega
  rcases hway with p1 | ⟨p1, p2⟩ | ⟨p1, p2⟩
  ·refine TC.quiet_ (E' := ?_) (by kernel_rfl) (by kernel_rfl) (fun w hw => hw.drawn _) ?_ ?_
   rotate_left
   ·refine TQ.rn 2 rfl ?_;refine TQ.w rfl (Ke rfl rfl rfl (fun w => KaY (by omega) w)) ?_;refine TQ.rn 13 rfl ?_;exact TQ.end_
   refine zT (zd (zx (zX (zX (zM (zT (zS (zSG (TL.rn 2 rfl ?_)))))))));refine TL.w rfl (Ke rfl rfl rfl (fun w => KaP (by omega) w)) ?_;refine zET (zc (zSG (TL.as_ ?_)));refine zET (zr (zR (zRR (zR (zRR ?_)))));exact Kf Tryz.results120 rfl (fun w1 hw => ⟨true, ys, rfl, ⟨hP, fun _ => hS.less (by omega)⟩, Kay hw (k := 0) rfl, hw.mapEnd (fun q hq => by simp [hq])⟩)
  ·refine TC.quiet_ (E' := ?_) (by kernel_rfl) (by kernel_rfl) (fun w hw => hw.drawn _) ?_ ?_
   rotate_left
   ·refine TQ.rn 2 rfl ?_;refine TQ.w rfl (Ke rfl rfl rfl (fun w => Kbg (by omega) w)) ?_;refine TQ.rn 3 rfl ?_;refine TQ.on rfl rfl rfl ?_;refine TQ.w rfl (Kd (v := .pointer (some ⟨g, i, none⟩)) rfl rfl rfl (fun w => Kg Tryz.underlying61 KO g _ _ i (by omega) rfl w)) ?_;refine TQ.on rfl rfl rfl ?_;refine TQ.w rfl (Kk (k := 0) (i := i) rfl rfl Kaw rfl (by omega)) ?_;refine TQ.rn 2 rfl ?_;refine TQ.on rfl rfl rfl ?_;refine TQ.w rfl (Ke rfl rfl rfl (fun w => Kz (r := ((i - 1 : Nat) : Int)) (by simp only [IntKind.wrap_i64]; omega) w)) ?_;refine TQ.on rfl rfl rfl ?_;refine TQ.w rfl (Kd (v := .pointer (some ⟨g, i - 1, none⟩)) rfl rfl rfl (fun w => Kg Tryz.underlying61 KO g _ _ (i - 1) (by omega) rfl w)) ?_;refine TQ.on rfl rfl rfl ?_;refine TQ.w rfl (Kk (k := 0) (i := i - 1) rfl rfl Kaw rfl (by omega)) ?_;refine TQ.on rfl rfl rfl ?_;refine TQ.p1 (v := .bool true) rfl K5 (fun w1 hw => (Ka5 _ _ p2 w1).mono fun en w2 ⟨h1, h2⟩ => ⟨h1, hw.below h2⟩) ?_;refine TQ.rn 2 rfl ?_;exact TQ.end_
   refine zT (zd (zx (zX (zX (zM (zT (zS (zSG (TL.rn 2 rfl ?_)))))))));refine TL.w rfl (Ke rfl rfl rfl (fun w => Ka4 (by omega) w)) ?_;refine zET (zd (zk (zT (zS (zSG (TL.rn 2 rfl ?_))))));refine TL.w rfl (Ke rfl rfl rfl (fun w => Kz (r := ((b - a : Nat) : Int)) (by simp only [IntKind.wrap_i64]; omega) w)) ?_;refine TL.sp Ks (fun q41 => ?_) (fun q41 => ?_)
   ·refine zET (zc (zSG (TL.as_ ?_)));refine zET (zr (zR (zRR (zR (zRR ?_)))));exact Kf Tryz.results120 rfl (fun w1 hw => ⟨false, ys, rfl, ⟨hP, fun e => by cases e⟩, Kay hw (k := 0) rfl, hw.mapEnd (fun q hq => by simp [hq])⟩)
   refine zET (zd (zk (zT ?_)));refine TC.join (α := Unit) (fun y => [(0, .slice (some ⟨g, 0, none⟩) n c), (1, .int .i64 ((a : Nat) : Int)), (2, .int .i64 ((b : Nat) : Int)), (7, .int .i64 ((i : Nat) : Int)), (8, .int .i64 ((t : Nat) : Int))]) (fun y => Pm ⟨KC w g, g⟩ ([.row (.slice (some ⟨g, 0, none⟩) n c) 30 1 n (uv (swp ys i (i - 1)))] ++ Kr g w)) ?_ ?_
   ·refine TC.held (ls := fA 18) (fun _ => True) (by kernel_rfl) rfl rfl (fun w hw => hw.drawn _) ?_;refine TH.tk 0 rfl rfl rfl (Kc rfl rfl) (fun _ _ => trivial) ?_;refine TH.tk 1 rfl rfl rfl (Kc rfl rfl) (fun _ _ => trivial) ?_;refine TH.tk 2 rfl rfl rfl (Kc rfl rfl) (fun _ _ => trivial) ?_;refine TH.tk 3 rfl rfl rfl (Kc rfl rfl) (fun _ _ => trivial) ?_;refine TH.tk 4 rfl rfl rfl (Ke rfl rfl rfl (fun w => Kz (r := ((i - 1 : Nat) : Int)) (by simp only [IntKind.wrap_i64]; omega) w)) (fun _ _ => trivial) ?_;refine TH.tk 5 rfl rfl rfl (Kc rfl rfl) (fun _ _ => trivial) ?_;refine TH.tk 6 rfl rfl rfl (Kc rfl rfl) (fun _ _ => trivial) ?_;refine TH.tk 7 rfl rfl rfl (Ke rfl rfl rfl (fun w => Kz (r := ((i - 1 : Nat) : Int)) (by simp only [IntKind.wrap_i64]; omega) w)) (fun _ _ => trivial) ?_;refine TH.tk 8 rfl rfl rfl (Kd (v := .pointer (some ⟨g, i - 1, none⟩)) rfl rfl rfl (fun w => Kg Tryz.underlying61 KO g _ _ (i - 1) (by omega) rfl w)) (fun _ _ => trivial) ?_;refine TH.tk 10 rfl rfl rfl (Kc rfl rfl) (fun _ _ => trivial) ?_;refine TH.tk 11 rfl rfl rfl (Kc rfl rfl) (fun _ _ => trivial) ?_;refine TH.tk 12 rfl rfl rfl (Kd (v := .pointer (some ⟨g, i, none⟩)) rfl rfl rfl (fun w => Kg Tryz.underlying61 KO g _ _ i (by omega) rfl w)) (fun _ _ => trivial) ?_;refine TH.two' 9 13 rfl rfl (by kernel_rfl) rfl rfl ?_ ?_
    ·refine TL.w rfl (Kk (k := 0) (i := i - 1) rfl rfl Kaw rfl (by omega)) ?_;refine zE ?_;refine TX.held (fun _ _ => trivial) ?_;refine TH.o 13 ?_;refine TL.w rfl (Kk (k := 0) (i := i) rfl rfl Kaw rfl (by omega)) ?_;refine zE ?_;refine TX.held (fun _ _ => trivial) ?_;refine TH.tk 14 rfl rfl rfl (Kd (v := .pointer (some ⟨g, i, none⟩)) rfl rfl rfl (fun w => Kg Tryz.underlying61 KO g _ _ i (by omega) rfl w)) (fun _ _ => trivial) ?_;refine TH.o 15 ?_;refine TL.uset (k := 0) (i := i) rfl rfl rfl rfl rfl rfl KO (by omega) ?_;refine zE ?_;refine TX.held (fun _ _ => trivial) ?_;refine TH.tk 16 rfl rfl rfl (Kd (v := .pointer (some ⟨g, i - 1, none⟩)) rfl rfl rfl (fun w => Kg Tryz.underlying61 KO g _ _ (i - 1) (by omega) rfl w)) (fun _ _ => trivial) ?_;refine TH.o 17 ?_;refine TL.uset (k := 0) (i := i - 1) rfl rfl rfl rfl rfl rfl KO (by rw [List.length_set]; omega) ?_;refine zE ?_;refine TX.held (fun _ _ => trivial) ?_;refine TH.done (by kernel_rfl) ?_;exact TX.jd (()) (fun w1 hw => hw)
    refine TL.w rfl (Kk (k := 0) (i := i) rfl rfl Kaw rfl (by omega)) ?_;refine zE ?_;refine TX.held (fun _ _ => trivial) ?_;refine TH.o 9 ?_;refine TL.w rfl (Kk (k := 0) (i := i - 1) rfl rfl Kaw rfl (by omega)) ?_;refine zE ?_;refine TX.held (fun _ _ => trivial) ?_;refine TH.tk 14 rfl rfl rfl (Kd (v := .pointer (some ⟨g, i, none⟩)) rfl rfl rfl (fun w => Kg Tryz.underlying61 KO g _ _ i (by omega) rfl w)) (fun _ _ => trivial) ?_;refine TH.o 15 ?_;refine TL.uset (k := 0) (i := i) rfl rfl rfl rfl rfl rfl KO (by omega) ?_;refine zE ?_;refine TX.held (fun _ _ => trivial) ?_;refine TH.tk 16 rfl rfl rfl (Kd (v := .pointer (some ⟨g, i - 1, none⟩)) rfl rfl rfl (fun w => Kg Tryz.underlying61 KO g _ _ (i - 1) (by omega) rfl w)) (fun _ _ => trivial) ?_;refine TH.o 17 ?_;refine TL.uset (k := 0) (i := i - 1) rfl rfl rfl rfl rfl rfl KO (by rw [List.length_set]; omega) ?_;refine zE ?_;refine TX.held (fun _ _ => trivial) ?_;refine TH.done (by kernel_rfl) ?_;exact TX.jd (()) (fun w1 hw => hw)
   rintro u;have hQ : Pin a b xs (swp ys i (i - 1)) := hP.swap (by omega) (by omega) (by omega) (by omega) (by omega);have hlq : (swp ys i (i - 1)).length = n := by rw [Kaf]; exact hly
   have hSq : Srt a (i - 1) (swp ys i (i - 1)) := (hS.less (by omega)).same (fun k k1 k2 => by rw [Kak (by omega) (by omega), if_neg (by omega), if_neg (by omega)]);refine TC.join (α := {zs : List Int // Pin a b xs zs /\ Srt a i zs /\ zs.length = n}) (fun y => [(0, .slice (some ⟨g, 0, none⟩) n c), (1, .int .i64 ((a : Nat) : Int)), (2, .int .i64 ((b : Nat) : Int)), (7, .int .i64 ((i : Nat) : Int)), (8, .int .i64 ((t : Nat) : Int))]) (fun y => Pm ⟨KC w g, g⟩ ([.row (.slice (some ⟨g, 0, none⟩) n c) 30 1 n (uv y.1)] ++ Kr g w)) ?_ ?_
   ·refine zSG (TL.rn 2 rfl ?_);refine TL.w rfl (Ke rfl rfl rfl (fun w => Kz (r := ((i - a : Nat) : Int)) (by simp only [IntKind.wrap_i64]; omega) w)) ?_;refine TL.sp Kaj (fun q61 => ?_) (fun q61 => ?_)
    ·refine zET (zc (zSG (TL.mv ?_)));refine TL.w rfl (Ke rfl rfl rfl (fun w => Kz (r := ((i - 1 : Nat) : Int)) (by simp only [IntKind.wrap_i64]; omega) w)) ?_;refine TL.as_ ?_;refine zET (zB ?_);refine TC.lp (α := {y : Nat × List Int // a <= y.1 /\ y.1 <= i - 1 /\ Pin a b xs y.2 /\ Ins a (i - 1) y.1 y.2 /\ y.2.length = n}) [0, 1, 2, 7, 8] rfl (fun y => [(9, .int .i64 ((y.1.1 : Nat) : Int))]) (fun y => Pm ⟨KC w g, g⟩ ([.row (.slice (some ⟨g, 0, none⟩) n c) 30 1 n (uv y.1.2)] ++ Kr g w)) (fun y => y.1.1) (⟨(i - 1, swp ys i (i - 1)), by dsimp only; omega, Nat.le_refl _, hQ, Ins.start hSq, hlq⟩) (fun w1 hw => hw) ?_;rintro ⟨⟨j, zs⟩, hj1, hj2, hR, hI, hlz⟩;dsimp only at hj1 hj2 hR hI hlz ⊢;refine zS (zSG (TL.mv ?_));refine TL.sp Kaj (fun q65 => ?_) (fun q65 => ?_)
     ·refine zET (zc (zk (zT (zS (zB (zS (zS ?_)))))));rcases Classical.em (dx zs j < dx zs (j - 1)) with p4 | p4
      ·have haj : a < j := Nat.lt_of_not_le fun hh => by have := (hL.pin hR) (j - 1) j (by omega) (by omega) (by omega); omega
       refine TC.quiet_ (E' := ?_) (by kernel_rfl) (by kernel_rfl) (fun w hw => hw.drawn _) ?_ ?_
       rotate_left
       ·refine TQ.rn 2 rfl ?_;refine TQ.w rfl (Kd (v := .pointer (some ⟨g, j, none⟩)) rfl rfl rfl (fun w => Kg Tryz.underlying61 KO g _ _ j (by omega) rfl w)) ?_;refine TQ.w rfl (Kk (k := 0) (i := j) rfl rfl Kaw rfl (by omega)) ?_;refine TQ.rn 2 rfl ?_;refine TQ.w rfl (Ke rfl rfl rfl (fun w => Kz (r := ((j - 1 : Nat) : Int)) (by simp only [IntKind.wrap_i64]; omega) w)) ?_;refine TQ.w rfl (Kd (v := .pointer (some ⟨g, j - 1, none⟩)) rfl rfl rfl (fun w => Kg Tryz.underlying61 KO g _ _ (j - 1) (by omega) rfl w)) ?_;refine TQ.w rfl (Kk (k := 0) (i := j - 1) rfl rfl Kaw rfl (by omega)) ?_;refine TQ.p1 (v := .bool true) rfl K5 (fun w1 hw => (Ka5 _ _ p4 w1).mono fun en w2 ⟨h1, h2⟩ => ⟨h1, hw.below h2⟩) ?_;refine TQ.w rfl (KQ rfl rfl) ?_;exact TQ.end_
       refine zT (zd (zk (zT (TC.held (ls := fA 18) (fun _ => True) (by kernel_rfl) rfl rfl (fun w hw => hw.drawn _) ?_))));refine TH.tk 0 rfl rfl rfl (Kc rfl rfl) (fun _ _ => trivial) ?_;refine TH.tk 1 rfl rfl rfl (Kc rfl rfl) (fun _ _ => trivial) ?_;refine TH.tk 2 rfl rfl rfl (Kc rfl rfl) (fun _ _ => trivial) ?_;refine TH.tk 3 rfl rfl rfl (Kc rfl rfl) (fun _ _ => trivial) ?_;refine TH.tk 4 rfl rfl rfl (Ke rfl rfl rfl (fun w => Kz (r := ((j - 1 : Nat) : Int)) (by simp only [IntKind.wrap_i64]; omega) w)) (fun _ _ => trivial) ?_;refine TH.tk 5 rfl rfl rfl (Kc rfl rfl) (fun _ _ => trivial) ?_;refine TH.tk 6 rfl rfl rfl (Kc rfl rfl) (fun _ _ => trivial) ?_;refine TH.tk 7 rfl rfl rfl (Ke rfl rfl rfl (fun w => Kz (r := ((j - 1 : Nat) : Int)) (by simp only [IntKind.wrap_i64]; omega) w)) (fun _ _ => trivial) ?_;refine TH.tk 8 rfl rfl rfl (Kd (v := .pointer (some ⟨g, j - 1, none⟩)) rfl rfl rfl (fun w => Kg Tryz.underlying61 KO g _ _ (j - 1) (by omega) rfl w)) (fun _ _ => trivial) ?_;refine TH.tk 10 rfl rfl rfl (Kc rfl rfl) (fun _ _ => trivial) ?_;refine TH.tk 11 rfl rfl rfl (Kc rfl rfl) (fun _ _ => trivial) ?_;refine TH.tk 12 rfl rfl rfl (Kd (v := .pointer (some ⟨g, j, none⟩)) rfl rfl rfl (fun w => Kg Tryz.underlying61 KO g _ _ j (by omega) rfl w)) (fun _ _ => trivial) ?_;refine TH.two' 9 13 rfl rfl (by kernel_rfl) rfl rfl ?_ ?_
       ·refine TL.w rfl (Kk (k := 0) (i := j - 1) rfl rfl Kaw rfl (by omega)) ?_;refine zE ?_;refine TX.held (fun _ _ => trivial) ?_;refine TH.o 13 ?_;refine TL.w rfl (Kk (k := 0) (i := j) rfl rfl Kaw rfl (by omega)) ?_;refine zE ?_;refine TX.held (fun _ _ => trivial) ?_;refine TH.tk 14 rfl rfl rfl (Kd (v := .pointer (some ⟨g, j, none⟩)) rfl rfl rfl (fun w => Kg Tryz.underlying61 KO g _ _ j (by omega) rfl w)) (fun _ _ => trivial) ?_;refine TH.o 15 ?_;refine TL.uset (k := 0) (i := j) rfl rfl rfl rfl rfl rfl KO (by omega) ?_;refine zE ?_;refine TX.held (fun _ _ => trivial) ?_;refine TH.tk 16 rfl rfl rfl (Kd (v := .pointer (some ⟨g, j - 1, none⟩)) rfl rfl rfl (fun w => Kg Tryz.underlying61 KO g _ _ (j - 1) (by omega) rfl w)) (fun _ _ => trivial) ?_;refine TH.o 17 ?_;refine TL.uset (k := 0) (i := j - 1) rfl rfl rfl rfl rfl rfl KO (by rw [List.length_set]; omega) ?_;refine zE ?_;refine TX.held (fun _ _ => trivial) ?_;refine TH.done (by kernel_rfl) ?_;refine zN (zT (zG (TL.mv ?_)));refine TL.w rfl (Ke rfl rfl rfl (fun w => Kz (r := ((j - 1 : Nat) : Int)) (by simp only [IntKind.wrap_i64]; omega) w)) ?_;refine TL.as_ ?_;refine zE ?_;exact TX.rd (⟨(j - 1, swp zs j (j - 1)), by dsimp only; omega, by dsimp only; omega, hR.swap (by omega) (by omega) (by omega) (by omega) (by omega), hI.down haj hj2 (by omega) p4, by rw [Kaf]; exact hlz⟩) (by show j - 1 < j; omega) (fun w1 hw => hw)
       refine TL.w rfl (Kk (k := 0) (i := j) rfl rfl Kaw rfl (by omega)) ?_;refine zE ?_;refine TX.held (fun _ _ => trivial) ?_;refine TH.o 9 ?_;refine TL.w rfl (Kk (k := 0) (i := j - 1) rfl rfl Kaw rfl (by omega)) ?_;refine zE ?_;refine TX.held (fun _ _ => trivial) ?_;refine TH.tk 14 rfl rfl rfl (Kd (v := .pointer (some ⟨g, j, none⟩)) rfl rfl rfl (fun w => Kg Tryz.underlying61 KO g _ _ j (by omega) rfl w)) (fun _ _ => trivial) ?_;refine TH.o 15 ?_;refine TL.uset (k := 0) (i := j) rfl rfl rfl rfl rfl rfl KO (by omega) ?_;refine zE ?_;refine TX.held (fun _ _ => trivial) ?_;refine TH.tk 16 rfl rfl rfl (Kd (v := .pointer (some ⟨g, j - 1, none⟩)) rfl rfl rfl (fun w => Kg Tryz.underlying61 KO g _ _ (j - 1) (by omega) rfl w)) (fun _ _ => trivial) ?_;refine TH.o 17 ?_;refine TL.uset (k := 0) (i := j - 1) rfl rfl rfl rfl rfl rfl KO (by rw [List.length_set]; omega) ?_;refine zE ?_;refine TX.held (fun _ _ => trivial) ?_;refine TH.done (by kernel_rfl) ?_;refine zN (zT (zG (TL.mv ?_)));refine TL.w rfl (Ke rfl rfl rfl (fun w => Kz (r := ((j - 1 : Nat) : Int)) (by simp only [IntKind.wrap_i64]; omega) w)) ?_;refine TL.as_ ?_;refine zE ?_;exact TX.rd (⟨(j - 1, swp zs j (j - 1)), by dsimp only; omega, by dsimp only; omega, hR.swap (by omega) (by omega) (by omega) (by omega) (by omega), hI.down haj hj2 (by omega) p4, by rw [Kaf]; exact hlz⟩) (by show j - 1 < j; omega) (fun w1 hw => hw)
      have hSr : Srt a i zs := by have := hI.stop (fun _ => by omega); rwa [show i - 1 + 1 = i by omega] at this
      refine TC.quiet_ (E' := ?_) (by kernel_rfl) (by kernel_rfl) (fun w hw => hw.drawn _) ?_ ?_
      rotate_left
      ·refine TQ.rn 2 rfl ?_;refine TQ.w rfl (Kd (v := .pointer (some ⟨g, j, none⟩)) rfl rfl rfl (fun w => Kg Tryz.underlying61 KO g _ _ j (by omega) rfl w)) ?_;refine TQ.w rfl (Kk (k := 0) (i := j) rfl rfl Kaw rfl (by omega)) ?_;refine TQ.rn 2 rfl ?_;refine TQ.w rfl (Ke rfl rfl rfl (fun w => Kz (r := ((j - 1 : Nat) : Int)) (by simp only [IntKind.wrap_i64]; omega) w)) ?_;refine TQ.w rfl (Kd (v := .pointer (some ⟨g, j - 1, none⟩)) rfl rfl rfl (fun w => Kg Tryz.underlying61 KO g _ _ (j - 1) (by omega) rfl w)) ?_;refine TQ.w rfl (Kk (k := 0) (i := j - 1) rfl rfl Kaw rfl (by omega)) ?_;refine TQ.p1 (v := .bool false) rfl K5 (fun w1 hw => (Kbd _ _ p4 w1).mono fun en w2 ⟨h1, h2⟩ => ⟨h1, hw.below h2⟩) ?_;refine TQ.w rfl (KQ rfl rfl) ?_;exact TQ.end_
      refine zT (zc (zx (zX (zO (zX (zX (zM ?_)))))));exact TX.jd (⟨zs, hR, hSr, hlz⟩) (fun w1 hw => hw)
     have hSr : Srt a i zs := by have := hI.stop (fun hh => by omega); rwa [show i - 1 + 1 = i by omega] at this
     refine zET (zd (zx (zX (zX (zM ?_)))));exact TX.jd (⟨zs, hR, hSr, hlz⟩) (fun w1 hw => hw)
    refine zET (zd (zk ?_));exact TX.jd (⟨swp ys i (i - 1), hQ, Srt.one (by omega), hlq⟩) (fun w1 hw => hw)
   rintro ⟨us, hU, hSu, hlu⟩
   try dsimp only
   refine zSG (TL.rn 2 rfl ?_);refine TL.w rfl (Ke rfl rfl rfl (fun w => Kz (r := ((b - i : Nat) : Int)) (by simp only [IntKind.wrap_i64]; omega) w)) ?_;refine TL.sp Kaj (fun q98 => ?_) (fun q98 => ?_)
   ·refine zET (zc (zSG (TL.mv ?_)));refine TL.v (gD ((i + 1 : Nat) : Int)) ?_;refine TL.as_ ?_;refine zET (zB ?_);refine TC.lp (α := {y : Nat × List Int // i < y.1 /\ y.1 <= b /\ Pin a b xs y.2 /\ Srt a i y.2 /\ y.2.length = n}) [0, 1, 2, 7, 8] rfl (fun y => [(10, .int .i64 ((y.1.1 : Nat) : Int))]) (fun y => Pm ⟨KC w g, g⟩ ([.row (.slice (some ⟨g, 0, none⟩) n c) 30 1 n (uv y.1.2)] ++ Kr g w)) (fun y => b - y.1.1) (⟨(i + 1, us), by dsimp only; omega, by dsimp only; omega, hU, hSu, hlu⟩) (fun w1 hw => hw) ?_;rintro ⟨⟨j, vs⟩, hj1, hj2, hV, hSv, hlv⟩;dsimp only at hj1 hj2 hV hSv hlv ⊢;refine zS (zSG (TL.rn 2 rfl ?_));refine TL.sp Ks (fun q103 => ?_) (fun q103 => ?_)
    ·refine zET (zc (zk (zT (zS (zB (zS (zS ?_)))))));rcases Classical.em (dx vs j < dx vs (j - 1)) with p5 | p5
     ·refine TC.quiet_ (E' := ?_) (by kernel_rfl) (by kernel_rfl) (fun w hw => hw.drawn _) ?_ ?_
      rotate_left
      ·refine TQ.rn 2 rfl ?_;refine TQ.w rfl (Kd (v := .pointer (some ⟨g, j, none⟩)) rfl rfl rfl (fun w => Kg Tryz.underlying61 KO g _ _ j (by omega) rfl w)) ?_;refine TQ.w rfl (Kk (k := 0) (i := j) rfl rfl Kaw rfl (by omega)) ?_;refine TQ.rn 2 rfl ?_;refine TQ.w rfl (Ke rfl rfl rfl (fun w => Kz (r := ((j - 1 : Nat) : Int)) (by simp only [IntKind.wrap_i64]; omega) w)) ?_;refine TQ.w rfl (Kd (v := .pointer (some ⟨g, j - 1, none⟩)) rfl rfl rfl (fun w => Kg Tryz.underlying61 KO g _ _ (j - 1) (by omega) rfl w)) ?_;refine TQ.w rfl (Kk (k := 0) (i := j - 1) rfl rfl Kaw rfl (by omega)) ?_;refine TQ.p1 (v := .bool true) rfl K5 (fun w1 hw => (Ka5 _ _ p5 w1).mono fun en w2 ⟨h1, h2⟩ => ⟨h1, hw.below h2⟩) ?_;refine TQ.w rfl (KQ rfl rfl) ?_;exact TQ.end_
      refine zT (zd (zk (zT (TC.held (ls := fA 18) (fun _ => True) (by kernel_rfl) rfl rfl (fun w hw => hw.drawn _) ?_))));refine TH.tk 0 rfl rfl rfl (Kc rfl rfl) (fun _ _ => trivial) ?_;refine TH.tk 1 rfl rfl rfl (Kc rfl rfl) (fun _ _ => trivial) ?_;refine TH.tk 2 rfl rfl rfl (Kc rfl rfl) (fun _ _ => trivial) ?_;refine TH.tk 3 rfl rfl rfl (Kc rfl rfl) (fun _ _ => trivial) ?_;refine TH.tk 4 rfl rfl rfl (Ke rfl rfl rfl (fun w => Kz (r := ((j - 1 : Nat) : Int)) (by simp only [IntKind.wrap_i64]; omega) w)) (fun _ _ => trivial) ?_;refine TH.tk 5 rfl rfl rfl (Kc rfl rfl) (fun _ _ => trivial) ?_;refine TH.tk 6 rfl rfl rfl (Kc rfl rfl) (fun _ _ => trivial) ?_;refine TH.tk 7 rfl rfl rfl (Ke rfl rfl rfl (fun w => Kz (r := ((j - 1 : Nat) : Int)) (by simp only [IntKind.wrap_i64]; omega) w)) (fun _ _ => trivial) ?_;refine TH.tk 8 rfl rfl rfl (Kd (v := .pointer (some ⟨g, j - 1, none⟩)) rfl rfl rfl (fun w => Kg Tryz.underlying61 KO g _ _ (j - 1) (by omega) rfl w)) (fun _ _ => trivial) ?_;refine TH.tk 10 rfl rfl rfl (Kc rfl rfl) (fun _ _ => trivial) ?_;refine TH.tk 11 rfl rfl rfl (Kc rfl rfl) (fun _ _ => trivial) ?_;refine TH.tk 12 rfl rfl rfl (Kd (v := .pointer (some ⟨g, j, none⟩)) rfl rfl rfl (fun w => Kg Tryz.underlying61 KO g _ _ j (by omega) rfl w)) (fun _ _ => trivial) ?_;refine TH.two' 9 13 rfl rfl (by kernel_rfl) rfl rfl ?_ ?_
      ·refine TL.w rfl (Kk (k := 0) (i := j - 1) rfl rfl Kaw rfl (by omega)) ?_;refine zE ?_;refine TX.held (fun _ _ => trivial) ?_;refine TH.o 13 ?_;refine TL.w rfl (Kk (k := 0) (i := j) rfl rfl Kaw rfl (by omega)) ?_;refine zE ?_;refine TX.held (fun _ _ => trivial) ?_;refine TH.tk 14 rfl rfl rfl (Kd (v := .pointer (some ⟨g, j, none⟩)) rfl rfl rfl (fun w => Kg Tryz.underlying61 KO g _ _ j (by omega) rfl w)) (fun _ _ => trivial) ?_;refine TH.o 15 ?_;refine TL.uset (k := 0) (i := j) rfl rfl rfl rfl rfl rfl KO (by omega) ?_;refine zE ?_;refine TX.held (fun _ _ => trivial) ?_;refine TH.tk 16 rfl rfl rfl (Kd (v := .pointer (some ⟨g, j - 1, none⟩)) rfl rfl rfl (fun w => Kg Tryz.underlying61 KO g _ _ (j - 1) (by omega) rfl w)) (fun _ _ => trivial) ?_;refine TH.o 17 ?_;refine TL.uset (k := 0) (i := j - 1) rfl rfl rfl rfl rfl rfl KO (by rw [List.length_set]; omega) ?_;refine zE ?_;refine TX.held (fun _ _ => trivial) ?_;refine TH.done (by kernel_rfl) ?_;refine zN (zT (zG (TL.mv ?_)));refine TL.v (gD ((j + 1 : Nat) : Int)) ?_;refine TL.as_ ?_;refine zE ?_;exact TX.rd (⟨(j + 1, swp vs j (j - 1)), by dsimp only; omega, by dsimp only; omega, hV.swap (by omega) (by omega) (by omega) (by omega) (by omega), hSv.same (fun k k1 k2 => by rw [Kak (by omega) (by omega), if_neg (by omega), if_neg (by omega)]), by rw [Kaf]; exact hlv⟩) (by show b - (j + 1) < b - j; omega) (fun w1 hw => hw)
      refine TL.w rfl (Kk (k := 0) (i := j) rfl rfl Kaw rfl (by omega)) ?_;refine zE ?_;refine TX.held (fun _ _ => trivial) ?_;refine TH.o 9 ?_;refine TL.w rfl (Kk (k := 0) (i := j - 1) rfl rfl Kaw rfl (by omega)) ?_;refine zE ?_;refine TX.held (fun _ _ => trivial) ?_;refine TH.tk 14 rfl rfl rfl (Kd (v := .pointer (some ⟨g, j, none⟩)) rfl rfl rfl (fun w => Kg Tryz.underlying61 KO g _ _ j (by omega) rfl w)) (fun _ _ => trivial) ?_;refine TH.o 15 ?_;refine TL.uset (k := 0) (i := j) rfl rfl rfl rfl rfl rfl KO (by omega) ?_;refine zE ?_;refine TX.held (fun _ _ => trivial) ?_;refine TH.tk 16 rfl rfl rfl (Kd (v := .pointer (some ⟨g, j - 1, none⟩)) rfl rfl rfl (fun w => Kg Tryz.underlying61 KO g _ _ (j - 1) (by omega) rfl w)) (fun _ _ => trivial) ?_;refine TH.o 17 ?_;refine TL.uset (k := 0) (i := j - 1) rfl rfl rfl rfl rfl rfl KO (by rw [List.length_set]; omega) ?_;refine zE ?_;refine TX.held (fun _ _ => trivial) ?_;refine TH.done (by kernel_rfl) ?_;refine zN (zT (zG (TL.mv ?_)));refine TL.v (gD ((j + 1 : Nat) : Int)) ?_;refine TL.as_ ?_;refine zE ?_;exact TX.rd (⟨(j + 1, swp vs j (j - 1)), by dsimp only; omega, by dsimp only; omega, hV.swap (by omega) (by omega) (by omega) (by omega) (by omega), hSv.same (fun k k1 k2 => by rw [Kak (by omega) (by omega), if_neg (by omega), if_neg (by omega)]), by rw [Kaf]; exact hlv⟩) (by show b - (j + 1) < b - j; omega) (fun w1 hw => hw)
     refine TC.quiet_ (E' := ?_) (by kernel_rfl) (by kernel_rfl) (fun w hw => hw.drawn _) ?_ ?_
     rotate_left
     ·refine TQ.rn 2 rfl ?_;refine TQ.w rfl (Kd (v := .pointer (some ⟨g, j, none⟩)) rfl rfl rfl (fun w => Kg Tryz.underlying61 KO g _ _ j (by omega) rfl w)) ?_;refine TQ.w rfl (Kk (k := 0) (i := j) rfl rfl Kaw rfl (by omega)) ?_;refine TQ.rn 2 rfl ?_;refine TQ.w rfl (Ke rfl rfl rfl (fun w => Kz (r := ((j - 1 : Nat) : Int)) (by simp only [IntKind.wrap_i64]; omega) w)) ?_;refine TQ.w rfl (Kd (v := .pointer (some ⟨g, j - 1, none⟩)) rfl rfl rfl (fun w => Kg Tryz.underlying61 KO g _ _ (j - 1) (by omega) rfl w)) ?_;refine TQ.w rfl (Kk (k := 0) (i := j - 1) rfl rfl Kaw rfl (by omega)) ?_;refine TQ.p1 (v := .bool false) rfl K5 (fun w1 hw => (Kbd _ _ p5 w1).mono fun en w2 ⟨h1, h2⟩ => ⟨h1, hw.below h2⟩) ?_;refine TQ.w rfl (KQ rfl rfl) ?_;exact TQ.end_
     refine zT (zc (zx (zX (zO (zX (zX (zM (zN (zT (zG (TL.mv ?_)))))))))));refine TL.v (gD ((t + 1 : Nat) : Int)) ?_;refine TL.as_ ?_;refine zE ?_;exact TX.rd (⟨(t + 1, i, vs), by dsimp only; omega, by dsimp only; omega, by dsimp only; omega, hV, hSv, hlv⟩) (by show 5 - (t + 1) < 5 - t; omega) (fun w1 hw => hw)
    refine zET (zd (zx (zX (zX (zM (zN (zT (zG (TL.mv ?_)))))))));refine TL.v (gD ((t + 1 : Nat) : Int)) ?_;refine TL.as_ ?_;refine zE ?_;exact TX.rd (⟨(t + 1, i, vs), by dsimp only; omega, by dsimp only; omega, by dsimp only; omega, hV, hSv, hlv⟩) (by show 5 - (t + 1) < 5 - t; omega) (fun w1 hw => hw)
   refine zET (zd (zk (zN (zT (zG (TL.mv ?_))))));refine TL.v (gD ((t + 1 : Nat) : Int)) ?_;refine TL.as_ ?_;refine zE ?_;exact TX.rd (⟨(t + 1, i, us), by dsimp only; omega, by dsimp only; omega, by dsimp only; omega, hU, hSu, hlu⟩) (by show 5 - (t + 1) < 5 - t; omega) (fun w1 hw => hw)
  have hS2 : Srt a (i + 1) ys := hS.snoc (fun hh => by omega);refine TC.quiet_ (E' := ?_) (by kernel_rfl) (by kernel_rfl) (fun w hw => hw.drawn _) ?_ ?_
  rotate_left
  ·refine TQ.rn 2 rfl ?_;refine TQ.w rfl (Ke rfl rfl rfl (fun w => Kbg (by omega) w)) ?_;refine TQ.rn 3 rfl ?_;refine TQ.on rfl rfl rfl ?_;refine TQ.w rfl (Kd (v := .pointer (some ⟨g, i, none⟩)) rfl rfl rfl (fun w => Kg Tryz.underlying61 KO g _ _ i (by omega) rfl w)) ?_;refine TQ.on rfl rfl rfl ?_;refine TQ.w rfl (Kk (k := 0) (i := i) rfl rfl Kaw rfl (by omega)) ?_;refine TQ.rn 2 rfl ?_;refine TQ.on rfl rfl rfl ?_;refine TQ.w rfl (Ke rfl rfl rfl (fun w => Kz (r := ((i - 1 : Nat) : Int)) (by simp only [IntKind.wrap_i64]; omega) w)) ?_;refine TQ.on rfl rfl rfl ?_;refine TQ.w rfl (Kd (v := .pointer (some ⟨g, i - 1, none⟩)) rfl rfl rfl (fun w => Kg Tryz.underlying61 KO g _ _ (i - 1) (by omega) rfl w)) ?_;refine TQ.on rfl rfl rfl ?_;refine TQ.w rfl (Kk (k := 0) (i := i - 1) rfl rfl Kaw rfl (by omega)) ?_;refine TQ.on rfl rfl rfl ?_;refine TQ.p1 (v := .bool false) rfl K5 (fun w1 hw => (Kbd _ _ p2 w1).mono fun en w2 ⟨h1, h2⟩ => ⟨h1, hw.below h2⟩) ?_;refine TQ.rn 2 rfl ?_;exact TQ.end_
  refine zT (zc (zk (zT (zB (zG (TL.mv ?_))))));refine TL.v (gD ((i + 1 : Nat) : Int)) ?_;refine TL.as_ ?_;refine zE (zN ?_);exact TX.rd (⟨i + 1, by omega, by omega, hS2⟩) (by show b - (i + 1) < b - i; omega) (fun w1 hw => hw)
 refine zET (zd (zx (zX (zX (zM (zT (zSG (TL.as_ ?_))))))));refine zET (zr ?_);exact Kf Tryz.results120 rfl (fun w1 hw => ⟨false, ys, rfl, ⟨hP, fun e => by cases e⟩, Kay hw (k := 0) rfl, hw.mapEnd (fun q hq => by simp [hq])⟩)
end Go.Proofs.YtpnilgkmpfkekaaGreat
