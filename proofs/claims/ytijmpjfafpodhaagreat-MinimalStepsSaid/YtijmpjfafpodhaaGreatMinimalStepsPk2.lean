/-
  Texts of the proof, joined: SymYld, SymRg3, SymRdA, Bits, SymFld, SymNew, SymShort, SymSq, SymSq3, FnFacts, Frame, Draw, PtCmp, JrEq, JrSmall, JrCheck, JrRCheck, PtRes, AnRep, PtSort, PtEq, PtCpt, PtOrd, PtROrd, PtTrc.
-/
import Derived.Test.YtijmpjfafpodhaaGreatMinimalStepsPk1
import Derived.RangeFuncSeq
import Derived.Laws.BitsAllLaws
import Derived.Laws.BitsLemmas
import Derived.Laws.OwnMore
import Derived.Test.YtijmpjfafpodhaaGreatProg
import Derived.Test.YtijmpjfafpodhaaGreatRows
import Derived.Laws.StructEq
import Derived.Laws.Tables
import Derived.Laws.Small
import Derived.Laws.Pointers
import Derived.Laws.Cover2
import Derived.WalkKit
import Derived.KernelRfl
import Derived.Shelf.SortM.Plain
import Derived.Shelf.SortM.SortNone
set_option linter.unusedVariables false
set_option linter.unusedSimpArgs false
namespace Go.Proofs.YtijmpjfafpodhaaGreat
set_option maxHeartbeats 1000000
open Go.RowKit
section
variable {P : Program} {N : Fr} {n : Nat} {ops : Array Oper} {Q : Exit -> Act -> World -> Prop} {l : List Oper} {o : Oper} {E : Env} {I : World -> Prop}
def TLI (P : Program) (N : Fr) (n : Nat) (ops : Array Oper) (Q : Exit -> Act -> World -> Prop) (l : List Oper) (E : Env) (I : World -> Prop) : Prop := ∀ a w, EnvOk N E a -> I w -> wpListIn Fence.wide n P ops Q l a w
theorem TC.regionY {id : Nat} {l : List Oper} (n : Nat) (h : TLI P N n l.toArray Q l E I) : TC P N Q (.region id l.toArray false) E I := fun a w ha hw => (wpIn_wide (n := n)).1 (wpIn_region_lit (h a w ha hw))
theorem TLI.end_ (h : TX N Q .normal E I) : TLI P N n ops Q [] E I := fun a w ha hw => h a w ha hw
theorem TLI.val {d : Nat} {v : Value} (hg : o.guard = none) (hd : o.dst = some d) (hN : Nat.blt d N.n = true) (hv : KB P N o E I v) (h : TLI P N n ops Q l ((d, v) :: E) I) : TLI P N n ops Q (o :: l) E I := fun a w ha hw => by
  unfold wpListIn;rw [if_pos (by simp [Region.wanted, hg])];refine ⟨fun f _ => trivial, ?_⟩;rw [show Fence.wide.round = none from rfl, Oper.semAt_none, hv a w ha hw];have := h (a.put o.dst v) w (hd ▸ ha.put d v (by simpa [Nat.blt_eq] using hN)) hw;exact this
theorem TLI.yield {d lr : Nat} {x : Operand} {xs : List Operand} {ts : Array TypeId} {vs : List Value} {I1 I2 : World -> Prop} (hg : o.guard = none) (hd : o.dst = some d) (hN : Nat.blt d N.n = true) (ho : o.op = .call { callee := .value x, args := xs.toArray, argTypes := ts }) (hx : ev E x = some (.func (.yield lr) #[] #[])) (hvs : evs E xs = some vs) (hn : 1 <= n)
    (hY : ∀ w, I w -> YieldAt Fence.wide (n - 1) P lr vs.toArray w fun e w' => (e = .returned (.bool true) /\ I1 w') \/ (e = .returned (.bool false) /\ I2 w'))
    (h : ∀ b : Bool, TLI P N n ops Q l ((d, .bool b) :: E) (fun w => (b = true -> I1 w) /\ (b = false -> I2 w))) : TLI P N n ops Q (o :: l) E I := fun a w ha hw => by
  unfold wpListIn;rw [if_pos (by simp [Region.wanted, hg])];refine ⟨fun f _ => trivial, ?_⟩;obtain ⟨fn, tmps, assign, body, hy, hR⟩ := hY w hw;have harr : xs.toArray.map a.eval = vs.toArray := by rw [List.map_toArray, ha.evals hvs]
  have hex : (execOp a.eval o).run P w = .ok (.round lr fn tmps assign body) w := by
    unfold execOp; rw [ho];simp only [resolve, harr, ha.eval hx, Deferred.ofValue];simp [invoke, hy]
  rw [show Fence.wide.round = none from rfl, Oper.semAt_none, hex];refine ⟨fun _ => hn, hR.mono ?_⟩;rintro e w3 (⟨rfl, h3⟩ | ⟨rfl, h3⟩)
  · exact h true (a.put o.dst (.bool true)) w3 (hd ▸ ha.put d _ (by simpa [Nat.blt_eq] using hN)) ⟨fun _ => h3, fun h => by cases h⟩
  · exact h false (a.put o.dst (.bool false)) w3 (hd ▸ ha.put d _ (by simpa [Nat.blt_eq] using hN)) ⟨fun h => (by cases h), fun _ => h3⟩
end
def Ki5 {α : Type} (n : Nat) (P : Program) (g : Nat) (lb : Array Value) (encs : α -> Array Value) (Nx : List α -> α -> Prop) (Kp : World -> World -> Prop) (S : List α -> Prop) (w : World) : Prop :=
  ∀ (l : Nat) (J : List α -> World -> Prop) (W : World), Below w.heap.size w W ->
    (∀ pre x W1, J pre W1 -> Nx pre x -> YieldAt Fence.wide (n - 1) P l (encs x) W1 fun e W' => e = .returned (.bool true) /\ J (pre ++ [x]) W' /\ Kp W1 W') ->
    J [] W -> CallsIn Fence.wide n P g (#[.func (.yield l) #[] #[]] ++ lb) W fun e W' => (∃ v, e = .returned v) /\ ∃ xs, S xs /\ J xs W'
section
variable {P : Program} {N : Fr} {E : Env} {Q : Exit -> Act -> World -> Prop} {w0 : Base}
theorem TC.rangeF3 {α σ : Type} {g : Operand} {p q id : Nat} {la : List Oper} {body : Code} {gf : Nat} {lb : Array Value} {fn : Func} (n : Nat) (h1 : 1 <= n)
    (hg : ev E g = some (.func (.func gf) #[] lb)) (hf : P.funcs[gf]? = some fn) (hn : (fn.name == "runtime.NumGoroutine") = false) (hb : fn.body.isNone = false) (hp : Nat.blt p N.n = true) (hq : Nat.blt q N.n = true)
    (enc1 enc2 : α -> Value) (Nx : List α -> α -> Prop) (Kp : World -> World -> Prop) (S : List α -> Prop) (Inv : List α -> σ -> Prop) (L : σ -> List Pc) (hoth : ∀ s, KdU (L s) = true) (s0 : σ) (hs0 : Inv [] s0)
    (hseq : ∀ w, Pm w0 (L s0) w -> Ki5 (n - 1) P gf lb (fun x => #[enc1 x, enc2 x]) Nx Kp S w)
    (hKt : ∀ {A B C : World}, Kp A B -> Kp B C -> Kp A C) (hKb : ∀ (W : World) (l : Nat) (o o' : Obj), W.heap[l]? = some o -> o.isCells = false -> Kp W (W.putObj l o'))
    (hKp : ∀ s s' b W W', Pm ⟨W, b⟩ (L s) W -> Pm ⟨W, b⟩ (L s') W' -> Kp W W')
    (E' : α -> Env) (hd : Key la = true)
    (hassign : ∀ (x : α) (Q' : Exit -> Act -> World -> Prop) (I : World -> Prop), TX ⟨N.n, []⟩ Q' .normal (E' x) I -> TL P ⟨N.n, []⟩ la.toArray Q' la ((q, enc2 x) :: (p, enc1 x) :: E) I)
    (hbody : ∀ (lr : Nat) (pre : List α) (s : σ) (x : α) (W : World), Inv pre s -> Nx pre x -> Pm w0 (L s) W -> TR P ⟨N.n, []⟩ lr (n - 1 - 1) (Khu (fun W' => ∃ s2, Inv (pre ++ [x]) s2 /\ Pm ⟨W, w0.b⟩ (L s2) W')) body (E' x) (Pm ⟨W, w0.b⟩ (L s)))
    (hdone : ∀ (D : Nat) (xs : List α) (s : σ), S xs -> Inv xs s -> TX ⟨N.n, { target := .collected D, args := #[] } :: N.ds⟩ Q .normal E (Pm w0 (.oth D (.deferred (some [])) :: L s))) :
    TC P N Q (.rangeFunc g #[p, q] (.region id la.toArray false) body) E (Pm w0 (L s0)) := fun a w ha hw => by
  have hn' : ¬ fn.name = "runtime.NumGoroutine" := by simpa using hn
  have hb' : ¬ fn.body = none := by intro e; rw [e] at hb; simp at hb
  refine (wpIn_wide (n := n)).1 (wpIn_rangeFunc fun fc _ => ?_);obtain ⟨R, hR⟩ : ∃ R : LoopState -> Loop, R = fun st => { state := st, pending := none, fn := fc, tmps := a.tmps, params := #[p, q], assign := .region id la.toArray false, body, defers := w.heap.size } := ⟨_, rfl⟩;obtain ⟨V, hV⟩ : ∃ V, (w.alloc (.deferred (some []))).alloc (.loop (R .ready)) = V := ⟨_, rfl⟩;have own : OwnFrom w.heap.size (fun (pre : List α) W => ∃ s, Inv pre s /\ Pm w0 (L s) W) := fun pre W W' row ⟨s, h4, h5⟩ h6 h7 => ⟨s, h4, KpB (β := σ) hw.base hw.bel.size hoth s W W' row h5 h6 h7⟩
  have v1 : V.heap[w.heap.size + 1]? = some (.loop (R .ready)) := by
    have := World.alloc_heap_new (w.alloc (.deferred (some []))) (.loop (R .ready));rw [World.size_alloc] at this;rw [<- hV]; exact this
  have v0 : V.heap[w.heap.size]? = some (.deferred (some [])) := by
    rw [<- hV]; exact (Below.heap_alloc _ _ _ (by simp)).trans (World.alloc_heap_new w _)
  have vI : ∃ s, Inv [] s /\ Pm w0 (L s) V := hV ▸ own.alloc (s := []) _ (own.alloc (s := []) _ ⟨s0, hs0, hw⟩)
  have vB : Below w.heap.size w V := by
    rw [<- hV]; exact ((Below.refl _ w).alloc (Nat.le_refl _) _).alloc (by simp) _
  refine ⟨w.heap.size + 1, [{ target := .collected w.heap.size, args := #[] }], V, { target := .fn (.func gf) lb, args := #[.func (.yield (w.heap.size + 1)) #[] #[]] }, V, gf, #[.func (.yield (w.heap.size + 1)) #[] #[]] ++ lb, V, ?_, ?_, fun _ _ => trivial, ?_, fun _ => h1, ?_⟩
  · rw [<- hV, hR]; exact run_enterLoop_outer _ _ _ _ _
  · simp only [resolve, ha.eval hg];simp [go_sem]
  · simp [invoke, callFunc, hf, hn', hb', go_sem]
  · refine (hseq w hw (w.heap.size + 1) (fun pre W => (∃ s, Inv pre s /\ Pm w0 (L s) W) /\ W.heap[w.heap.size + 1]? = some (.loop (R .ready)) /\ W.heap[w.heap.size]? = some (.deferred (some []))) V vB ?_ ⟨vI, v1, v0⟩).mono ?_
    · rintro pre x W ⟨⟨s, hs, hI⟩, hl, hk⟩ hx;have hlt : w.heap.size + 1 < W.heap.size := (Array.getElem?_eq_some_iff.1 hl).1;have hy := run_yield (P := P) (args := #[enc1 x, enc2 x]) hl (by rw [hR]; rfl);rw [hR] at hy;refine ⟨fc, _, _, body, hy, roundIn_of_wpIn trivial ?_⟩;refine wpIn_region_lit (KfG (fun ⟨a, w, h⟩ => h) la (KgN hd) _ W (hassign x _ (fun W' => W' = W) (fun a' W' ha' hW => ?_) _ W ?_ rfl))
      · subst hW;refine ⟨_, run_beginRound hl (by rw [hR]), ?_⟩;obtain ⟨B, hB⟩ : ∃ B, W'.putObj (w.heap.size + 1) (.loop { R .ready with state := .busy }) = B := ⟨_, rfl⟩;have b1 : B.heap[w.heap.size + 1]? = some (.loop { R .ready with state := .busy }) := by rw [<- hB]; exact World.putObj_heap_same hlt
        have b0 : B.heap[w.heap.size]? = some (.deferred (some [])) := by rw [<- hB]; exact (World.putObj_heap_other (by omega)).trans hk
        have bK : Kp W' B := hB ▸ hKb _ _ _ _ hl rfl;obtain ⟨sb, hsb, hIb⟩ : ∃ s, Inv pre s /\ Pm w0 (L s) B := hB ▸ own.putObj (s := pre) _ ⟨s, hs, hI⟩ (by omega) hl rfl;rw [hB];refine wpIn_mono (hbody _ pre sb x B hsb hx hIb a' B ha' hIb.from_) ?_;rintro e a3 C ⟨rfl, s2, hs2, hJ⟩;have kf := hJ.oth;have c1 := kf.same _ _ b1 rfl;have c0 := kf.same _ _ b0 rfl;have hend := run_endRound (P := P) none c1;have hlc := (Array.getElem?_eq_some_iff.1 c1).1;have eR : (Obj.loop { { R .ready with state := .busy } with state := if (none : Option Code).isNone then .ready else .done, pending := none }) = .loop (R .ready) := by rw [hR]; rfl
        rw [eR] at hend;refine ⟨_, _, hend, rfl, ⟨own.putObj (s := pre ++ [x]) _ ⟨s2, hs2, hIb.trans hJ⟩ (by omega) c1 rfl, World.putObj_heap_same hlc, (World.putObj_heap_other (by omega)).trans c0⟩, hKt bK (hKt (hKp sb s2 _ B C hIb.from_ hJ) (hKb _ _ _ _ c1 rfl))⟩
      · have h0 : EnvOk ⟨N.n, []⟩ E { a with defers := [] } := ⟨rfl, ha.size, ha.slot⟩;have := (h0.put p (enc1 x) (by simpa [Nat.blt_eq] using hp)).put q (enc2 x) (by simpa [Nat.blt_eq] using hq)
        simpa [Act.put] using this
    · rintro e W2 ⟨⟨v, rfl⟩, xs, hS, hJ, hl, hk⟩;have hend := run_endLoop (P := P) hl (by rw [hR]; simp);obtain ⟨s, hs, hI⟩ := own.putObj (s := xs) (.loop { R .ready with state := .exhausted }) hJ (by omega) hl rfl;have hk2 : (W2.putObj (w.heap.size + 1) (.loop { R .ready with state := .exhausted })).heap[w.heap.size]? = some (.deferred (some [])) := (World.putObj_heap_other (by omega)).trans hk;refine ⟨none, _, by rw [show (none : Option Code) = (R .ready).pending by rw [hR]]; exact hend, ?_⟩;refine hdone w.heap.size xs s hS hs _ _ ⟨by simp [ha.defers], ha.size, ha.slot⟩ ⟨hI.bel, fun q hq => ?_, List.Pairwise.cons (fun q hq g hg he => ?_) hI.apart, hI.oth, hI.low⟩
      · rcases List.mem_cons.1 hq with rfl | hq
        · exact ⟨hk2, hw.base⟩
        · exact hI.own q hq
      · simp only [Pc.key, Option.some.injEq] at hg;subst hg;obtain ⟨o, ho, hc⟩ := Pc.cells (hI.own q hq) (Kjn (hoth s) q hq) _ he;rw [hk2] at ho;cases ho;cases hc
end
def adB (A : Option Addr) : Nat := match A with
  | some a => a.block
  | none => 0
def adO (A : Option Addr) : Nat := match A with
  | some a => a.off
  | none => 0
section
variable {α : Type} {c : α -> List Value} {k : Nat}
theorem Kg.addr {w : World} {B size n : Nat} {A : Option Addr} {xs : List Value} (h : Kg w B size A n xs) (hn : 0 < n) (hs : 0 < size) : A = some ⟨adB A, adO A, none⟩ := by
  obtain ⟨b, o, hA, _, _⟩ := h.ad hn hs;rw [hA]; rfl
theorem KdS (K : Cel c k) {w : World} {B n g o i : Nat} {A : Option Addr} {l : List α} {x : α} (h : Kg w B k A n (Ka c l)) (hA : A = some ⟨g, o, none⟩) (hx : l[i]? = some x) (j : Nat) (u : Value) (hu : (c x)[j]? = some u) : w.cell? ⟨g, o + i * k + j, none⟩ = some u := by
  have hk : 0 < k := by
    have := (List.getElem?_eq_some_iff.1 hu).1;rw [K.len] at this; omega
  have hn : 0 < n := by
    have h1 := h.1;have h2 := (List.getElem?_eq_some_iff.1 hx).1;rw [K2 K] at h1;rcases Nat.eq_zero_or_pos n with h3 | h3
    · subst h3;rw [Nat.zero_mul] at h1;have := Nat.mul_pos (show 0 < l.length by omega) hk;omega
    · exact h3
  obtain ⟨b, o', hA', _, hc⟩ := h.ad hn hk;rw [hA] at hA';cases hA';exact Kcr K hx hc j u hu
end
section
variable {P : Program} {N : Fr} {E : Env} {o : Oper} {I : World -> Prop}
theorem Kn4 {t : TypeId} {x : Operand} {i : Nat} {vx v : Value} (ho : o.op = .field t x i) (hx : ev E x = some vx) (hv : ∀ w : World, (Instr.field t vx i).run P w = .ok v w) : KB P N o E I v := fun a w ha _ => by
  unfold execOp; rw [ho];simp only [ha.eval hx, Sem.run_bind, hv, Result.andThen_ok, Sem.run_pure]
end
section
variable {P : Program} {N : Fr} {Q : Exit -> Act -> World -> Prop} {E : Env} {w0 : Base} {L : List Pc} {ops : Array Oper} {l : List Oper} {o : Oper}
end
abbrev Tt : Bool := true
abbrev Ff : Bool := false
section
variable {P : Program} {N : Fr} {Q : Exit -> Act -> World -> Prop} {E : Env} {ops : Array Oper} {l : List Oper} {o : Oper} {I : World -> Prop}
theorem TL.mv {x : Operand} {d : Nat} {v : Value} (h : TL P N ops Q l ((d, v) :: E) I) (hg : o.guard = none := by rfl) (hd : o.dst = some d := by rfl) (hN : Nat.blt d N.n = true := by rfl) (ho : o.op = .move x := by rfl) (hx : ev E x = some v := by rfl) : TL P N ops Q (o :: l) E I := TL.val hg hd hN (Ki ho hx) h
theorem TL.as_ {x : Operand} {d : Nat} {v : Value} (h : TL P N ops Q l ((d, v) :: E) I) (hg : o.guard = none := by rfl) (hd : o.dst = some d := by rfl) (hN : Nat.blt d N.n = true := by rfl) (ho : o.op = .assign x := by rfl) (hx : ev E x = some v := by rfl) : TL P N ops Q (o :: l) E I := TL.val hg hd hN (K6 ho hx) h
theorem TL.pk {c x y : Operand} {b : Bool} {d : Nat} {v : Value} (h : TL P N ops Q l ((d, v) :: E) I) (hg : o.guard = none := by rfl) (hd : o.dst = some d := by rfl) (hN : Nat.blt d N.n = true := by rfl) (ho : o.op = .pick c x y := by rfl) (hc : ev E c = some (.bool b) := by rfl) (hx : (if b then ev E x else ev E y) = some v := by rfl) : TL P N ops Q (o :: l) E I := TL.val hg hd hN (K4 ho hc hx) h
theorem TL.ex {x : Operand} {i : Nat} {vs : Array Value} {d : Nat} {v : Value} (h : TL P N ops Q l ((d, v) :: E) I) (hg : o.guard = none := by rfl) (hd : o.dst = some d := by rfl) (hN : Nat.blt d N.n = true := by rfl) (ho : o.op = .extract x i := by rfl) (hx : ev E x = some (.tuple vs) := by rfl) (hv : vs[i]? = some v := by rfl) : TL P N ops Q (o :: l) E I := TL.val hg hd hN (Kck ho hx hv) h
theorem TL.gu {j d : Nat} {b : Bool} (h : TL P N ops Q ({ o with guard := none } :: l) E I) (hg : o.guard = some (j, b) := by rfl) (hd : (ops[j]?).bind (·.dst) = some d := by rfl) (hE : look E d = some (.bool b) := by rfl) : TL P N ops Q (o :: l) E I := TL.on hg hd hE h
theorem TL.of {j d t : Nat} {b b' : Bool} (h : TL P N ops Q l ((t, undef) :: E) I) (hg : o.guard = some (j, b') := by rfl) (hd : (ops[j]?).bind (·.dst) = some d := by rfl) (hE : look E d = some (.bool b) := by rfl) (hne : (b == b') = false := by rfl) (ht : o.dst = some t := by rfl) (hN : Nat.blt t N.n = true := by rfl) : TL P N ops Q (o :: l) E I := TL.off hg hd hE hne ht hN h
end
section
variable {P : Program} {N : Fr} {ops : Array Oper} {S I : World -> Prop} {Q : Exit -> Act -> World -> Prop} {f : Nat} {listed : Array Bool} {E : Env}
theorem TH.tk {o : Oper} {d : Nat} {v : Value} {listed' : Array Bool} (i : Nat) (hi : ops[i]? = some o) (hg : o.guard = none) (hd : o.dst = some d) (hv : KB P N o E S v) (hS : ∀ w, I w -> S w) (h : TH P N ops S Q f listed' ((d, v) :: E) I)
    (hs : Region.noSelect ops = true := by kernel_rfl) (hf : Region.free .any ops listed i = true := by kernel_rfl) (hr : (Region.ready .any ops listed).contains i = true := by kernel_rfl) (hl : listed.setIfInBounds i true = listed' := by rfl) (hN : Nat.blt d N.n = true := by rfl) : TH P N ops S Q (f + 1) listed E I := TH.take i hi hs hf hr hl hg hd hN hv hS h
end
set_option linter.unusedVariables false
def Kd6 (N : Fr) (E : Env) (o : Oper) : Option Env :=
  match o.dst with
  | none => none
  | some d => match Nat.blt d N.n with
    | false => none
    | true => match o.op with
      | .move x => match ev E x with
        | some v => some ((d, v) :: E)
        | none => none
      | .assign x => match ev E x with
        | some v => some ((d, v) :: E)
        | none => none
      | .pick c x y => match ev E c with
        | some (.bool true) => match ev E x with
          | some v => some ((d, v) :: E)
          | none => none
        | some (.bool false) => match ev E y with
          | some v => some ((d, v) :: E)
          | none => none
        | _ => none
      | .extract x i => match ev E x with
        | some (.tuple vs) => match vs[i]? with
          | some v => some ((d, v) :: E)
          | none => none
        | _ => none
      | .unOp .not _ x => match ev E x with
        | some (.bool true) => some ((d, .bool false) :: E)
        | some (.bool false) => some ((d, .bool true) :: E)
        | _ => none
      | _ => none
def Kgr (N : Fr) (ops : Array Oper) (E : Env) (o : Oper) : Option Env :=
  match o.guard with
  | none => Kd6 N E o
  | some (j, true) => match (ops[j]?).bind (·.dst) with
    | none => none
    | some d => match look E d with
      | some (.bool true) => Kd6 N E { o with guard := none }
      | some (.bool false) => match o.dst with
        | some t => match Nat.blt t N.n with
          | true => some ((t, undef) :: E)
          | false => none
        | none => none
      | _ => none
  | some (j, false) => match (ops[j]?).bind (·.dst) with
    | none => none
    | some d => match look E d with
      | some (.bool false) => Kd6 N E { o with guard := none }
      | some (.bool true) => match o.dst with
        | some t => match Nat.blt t N.n with
          | true => some ((t, undef) :: E)
          | false => none
        | none => none
      | _ => none
def Keg (N : Fr) (ops : Array Oper) : Nat -> Env -> List Oper -> Option (Env × List Oper)
  | 0, E, l => some (E, l)
  | _ + 1, _, [] => none
  | n + 1, E, o :: l => match Kgr N ops E o with
    | some E' => Keg N ops n E' l
    | none => none
section
variable {P : Program} {N : Fr} {Q : Exit -> Act -> World -> Prop} {E E' : Env} {ops : Array Oper} {l l' : List Oper} {o : Oper} {I : World -> Prop}
theorem KgP (h : Kd6 N E o = some E') : ∃ d v, E' = (d, v) :: E /\ o.dst = some d /\ Nat.blt d N.n = true /\ ∀ (P : Program) (I : World -> Prop), KB P N o E I v := by
  unfold Kd6 at h;split at h
  · cases h
  · rename_i d hd;split at h
    · cases h
    · rename_i hN;split at h
      · rename_i x ho;split at h
        · rename_i v hv; cases h; exact ⟨d, v, rfl, hd, hN, fun P I => Ki ho hv⟩
        · cases h
      · rename_i x ho;split at h
        · rename_i v hv; cases h; exact ⟨d, v, rfl, hd, hN, fun P I => K6 ho hv⟩
        · cases h
      · rename_i c x y ho;split at h
        · rename_i hc;split at h
          · rename_i v hv; cases h; exact ⟨d, v, rfl, hd, hN, fun P I => K4 ho hc hv⟩
          · cases h
        · rename_i hc;split at h
          · rename_i v hv; cases h; exact ⟨d, v, rfl, hd, hN, fun P I => K4 ho hc hv⟩
          · cases h
        · cases h
      · rename_i x i ho;split at h
        · rename_i vs hx;split at h
          · rename_i v hv; cases h; exact ⟨d, v, rfl, hd, hN, fun P I => Kck ho hx hv⟩
          · cases h
        · cases h
      · rename_i x ho;split at h
        · rename_i hx; cases h; exact ⟨d, _, rfl, hd, hN, fun P I => K7 ho hx⟩
        · rename_i hx; cases h; exact ⟨d, _, rfl, hd, hN, fun P I => K7 ho hx⟩
        · cases h
      · cases h
theorem Kic (h : Kgr N ops E o = some E') : (∃ d v, E' = (d, v) :: E /\ o.guard = none /\ o.dst = some d /\ Nat.blt d N.n = true /\ ∀ (P : Program) (I : World -> Prop), KB P N o E I v) \/
    (∃ j d b, o.guard = some (j, b) /\ (ops[j]?).bind (·.dst) = some d /\ look E d = some (.bool b) /\ ∃ d v, E' = (d, v) :: E /\ o.dst = some d /\ Nat.blt d N.n = true /\ ∀ (P : Program) (I : World -> Prop), KB P N { o with guard := none } E I v) \/
    ∃ j d t b b', o.guard = some (j, b') /\ (ops[j]?).bind (·.dst) = some d /\ look E d = some (.bool b) /\ (b == b') = false /\ o.dst = some t /\ Nat.blt t N.n = true /\ E' = (t, undef) :: E := by
  unfold Kgr at h;split at h
  · rename_i hg;obtain ⟨d, v, h1, h2, h3, h4⟩ := KgP h;exact .inl ⟨d, v, h1, hg, h2, h3, h4⟩
  · rename_i j hg;split at h
    · cases h
    · rename_i d hd;split at h
      · rename_i hE;exact .inr (.inl ⟨j, d, true, hg, hd, hE, KgP h⟩)
      · rename_i hE;split at h
        · rename_i t ht;split at h
          · rename_i hN; cases h; exact .inr (.inr ⟨j, d, t, false, true, hg, hd, hE, rfl, ht, hN, rfl⟩)
          · cases h
        · cases h
      · cases h
  · rename_i j hg;split at h
    · cases h
    · rename_i d hd;split at h
      · rename_i hE;exact .inr (.inl ⟨j, d, false, hg, hd, hE, KgP h⟩)
      · rename_i hE;split at h
        · rename_i t ht;split at h
          · rename_i hN; cases h; exact .inr (.inr ⟨j, d, t, true, false, hg, hd, hE, rfl, ht, hN, rfl⟩)
          · cases h
        · cases h
      · cases h
theorem TL.rn : ∀ (n : Nat) {E E' : Env} {l l' : List Oper} (_ : Keg N ops n E l = some (E', l')) (_ : TL P N ops Q l' E' I), TL P N ops Q l E I
  | 0, E, E', l, l', hr, h => by cases hr; exact h
  | n + 1, E, E', [], l', hr, h => by cases hr
  | n + 1, E, E', o :: l, l', hr, h => by
    unfold Keg at hr;split at hr
    · rename_i E1 h1;have h2 := TL.rn n hr h;rcases Kic h1 with ⟨d, v, rfl, hg, hd, hN, hv⟩ | ⟨j, d, b, hg, hd, hE, d', v, rfl, hd', hN, hv⟩ | ⟨j, d, t, b, b', hg, hd, hE, hne, ht, hN, rfl⟩
      · exact TL.val hg hd hN (hv P I) h2
      · exact TL.on hg hd hE (TL.val rfl hd' hN (hv P I) h2)
      · exact TL.off hg hd hE hne ht hN h2
    · cases hr
theorem TQ.rn {R : Act -> Prop} : ∀ (n : Nat) {E E' : Env} {l l' : List Oper} (_ : Keg N ops n E l = some (E', l')) (_ : TQ P N ops R l' E' I), TQ P N ops R l E I
  | 0, E, E', l, l', hr, h => by cases hr; exact h
  | n + 1, E, E', [], l', hr, h => by cases hr
  | n + 1, E, E', o :: l, l', hr, h => by
    unfold Keg at hr;split at hr
    · rename_i E1 h1;have h2 := TQ.rn n hr h;rcases Kic h1 with ⟨d, v, rfl, hg, hd, hN, hv⟩ | ⟨j, d, b, hg, hd, hE, d', v, rfl, hd', hN, hv⟩ | ⟨j, d, t, b, b', hg, hd, hE, hne, ht, hN, rfl⟩
      · exact TQ.val hg hd hN (hv P I) h2
      · exact TQ.on hg hd hE (TQ.val rfl hd' hN (hv P I) h2)
      · exact TQ.off hg hd hE hne ht hN h2
    · cases hr
end
abbrev FA (P : Program) (t : TypeId) (i k : Nat) : Prop := ∀ (g off : Nat) (w : World), (Instr.fieldAt t (.pointer (some ⟨g, off, none⟩)) i).run P w = .ok (.pointer (some ⟨g, off + k, none⟩)) w
section
variable {P : Program} {N : Fr} {Q : Exit -> Act -> World -> Prop} {E E' : Env} {ops : Array Oper} {l l' : List Oper} {o : Oper} {I : World -> Prop}
variable {x y : Code} {c : Operand} {id i : Nat}
theorem zE (h : TX N Q .normal E I) : TL P N ops Q [] E I := TL.end_ h
theorem zT (h : TC P N Q y E I) : TX N (Exit.then (y.wp P Q) Q) .normal E I := TX.then_ h
theorem zET (h : TC P N Q y E I) : TL P N ops (Exit.then (y.wp P Q) Q) [] E I := TL.end_ (TX.then_ h)
theorem zS (h : TC P N (Exit.then (y.wp P Q) Q) x E I) : TC P N Q (.seq x y) E I := TC.seq_ h
theorem zG (h : TL P N l.toArray Q l E I) : TC P N Q (.region id l.toArray false) E I := TC.region h
theorem zSG (h : TL P N l.toArray (Exit.then (y.wp P Q) Q) l E I) : TC P N Q (.seq (.region id l.toArray false) y) E I := TC.seq_ (TC.region h)
theorem zc (h : TC P N Q x E I) (hc : ev E c = some (.bool true) := by rfl) : TC P N Q (.cond c x y) E I := TC.condT hc h
theorem zd (h : TC P N Q y E I) (hc : ev E c = some (.bool false) := by rfl) : TC P N Q (.cond c x y) E I := TC.condF hc h
theorem zR {J : Act -> World -> Prop} (h : TX N Q .ret E I) : TX N (Exit.then J Q) .ret E I := TX.then_ret h
theorem zRR {J : Act -> World -> Prop} (h : TX N Q .ret E I) : TX N (Exit.inBlock id (Exit.then J Q)) .ret E I := TX.in_ret (TX.then_ret h)
theorem zX {J : Act -> World -> Prop} (h : TX N Q (.exit i) E I) : TX N (Exit.then J Q) (.exit i) E I := TX.then_exit h
theorem zN (h : TX N Q .normal E I) : TX N (Exit.inBlock id Q) .normal E I := TX.in_normal h
theorem zr (h : TX N Q .ret E I) : TC P N Q .ret E I := TC.ret_ h
theorem zk (h : TX N Q .normal E I) : TC P N Q .skip E I := TC.skip_ h
theorem zB {x : Code} (h : TC P N (Exit.inBlock id Q) x E I) : TC P N Q (.block id x) E I := TC.block h
theorem zO (h : TX N Q (.exit i) E I) (hne : Nat.beq i id = false := by rfl) : TX N (Exit.inBlock id Q) (.exit i) E I := TX.in_other hne h
theorem zM (h : TX N Q .normal E I) : TX N (Exit.inBlock id Q) (.exit id) E I := TX.in_same h
theorem zx (h : TX N Q (.exit id) E I) : TC P N Q (.exit id) E I := TC.exit_ h
theorem gF {t : TypeId} {x : Operand} {i g off k : Nat} (hv : ∀ (g off : Nat) (w : World), (Instr.fieldAt t (.pointer (some ⟨g, off, none⟩)) i).run P w = .ok (.pointer (some ⟨g, off + k, none⟩)) w) (ho : o.op = .fieldAddr t x i := by rfl) (hx : ev E x = some (.pointer (some ⟨g, off, none⟩)) := by rfl) : KB P N o E I (.pointer (some ⟨g, off + k, none⟩)) := Kmp ho hx fun w => hv g off w
theorem gL {w0 : Base} {L : List Pc} {t te : TypeId} {x : Operand} {g i : Nat} (k : Nat) {v : Value} {cs : List Value} (hag : ∀ w : World, (isAgg t).run P w = .ok false w) (ho : o.op = .load t x := by rfl) (hx : ev E x = some (.pointer (some ⟨g, i, none⟩)) := by rfl) (hk : L[k]? = some (.blk g te cs) := by rfl) (hi : cs[i]? = some v := by rfl) : KB P N o E (Pm w0 L) v := Kex ho hx hag hk hi
theorem gV {w0 : Base} {L : List Pc} {t te : TypeId} {x : Operand} {g i n : Nat} (k : Nat) (v : Value) {cs : List Value} (hag : ∀ w : World, (isAgg t).run P w = .ok true w) (hs : ∀ w : World, (sizeOf t).run P w = .ok n w) (ho : o.op = .load t x := by rfl) (hx : ev E x = some (.pointer (some ⟨g, i, none⟩)) := by rfl) (hk : L[k]? = some (.blk g te cs) := by rfl) (hi : Nat.ble (i + n) cs.length = true := by rfl) (hv : .agg ((cs.drop i).take n).toArray = v := by rfl) : KB P N o E (Pm w0 L) v := hv ▸ KpK ho hx hag hs hk (Nat.le_of_ble_eq_true hi)
theorem gN {s : Operand} {t e : TypeId} {A : Option Addr} {n c : Nat} (ht : P.underlying t = some (.slice e)) (ho : o.op = .call { callee := .builtin .len, args := #[s], argTypes := #[t] } := by rfl) (hs : ev E s = some (.slice A n c) := by rfl) : KB P N o E I (.int .i64 (n : Int)) := Klq ho ht hs
theorem gA {t e : TypeId} {x ix : Operand} {size : Nat} {A : Option Addr} {b off n c i : Nat} {z : Int} (ht : P.underlying t = some (.slice e)) (hs : ∀ w : World, (sizeOf e).run P w = .ok size w) (ho : o.op = .indexAddr t x ix) (hx : ev E x = some (.slice A n c)) (hi : ev E ix = some (.int .i64 z)) (hz : z = (i : Int)) (hA : A = some ⟨b, off, none⟩) (hlt : i < n) : KB P N o E I (.pointer (some ⟨b, off + i * size, none⟩)) := Kai ho hx hi fun w => Ker ht hs hA n c i hlt hz w
section
variable {α : Type} {c : α -> List Value} {k : Nat} {l' : List α} {xx : α} {w0 : Base} {L : List Pc} {t : TypeId} {x : Operand} {b off i : Nat}
theorem gR (K : Cel c k) (hag : ∀ w : World, (isAgg t).run P w = .ok true w) (hs : ∀ w : World, (sizeOf t).run P w = .ok k w) (hb : b < w0.b) (hx : l'[i]? = some xx) (hc : ∀ (j : Nat) (u : Value), (Ka c l')[j]? = some u -> w0.w.cell? ⟨b, off + j, none⟩ = some u) (ho : o.op = .load t x := by rfl) (hE : ev E x = some (.pointer (some ⟨b, off + i * k, none⟩)) := by rfl) : KB P N o E (Pm w0 L) (.agg (c xx).toArray) :=
  KS ho hE hag hs (K.len xx) fun w1 hw j u h => (hw.bel.cell hb).trans (Kcr K hx hc j u h)
theorem gS (q : Nat) {v : Value} (K : Cel c k) (hag : ∀ w : World, (isAgg t).run P w = .ok false w) (hb : b < w0.b) (hx : l'[i]? = some xx) (hc : ∀ (j : Nat) (u : Value), (Ka c l')[j]? = some u -> w0.w.cell? ⟨b, off + j, none⟩ = some u) (ho : o.op = .load t x := by rfl) (hE : ev E x = some (.pointer (some ⟨b, off + i * k + q, none⟩)) := by rfl) (hq : (c xx)[q]? = some v := by rfl) : KB P N o E (Pm w0 L) v :=
  Kw ho hE hag fun w1 hw => (hw.bel.cell hb).trans (Kcr K hx hc q v hq)
theorem Ko {l : List α} {i : Nat} (h : i < l.length) : ∃ x, l[i]? = some x := ⟨_, List.getElem?_eq_getElem h⟩
end
theorem TL.v {d : Nat} {v : Value} (hv : KB P N o E I v) (h : TL P N ops Q l ((d, v) :: E) I) (hg : o.guard = none := by rfl) (hd : o.dst = some d := by rfl) (hN : Nat.blt d N.n = true := by rfl) : TL P N ops Q (o :: l) E I := TL.val hg hd hN hv h
theorem TQ.v {R : Act -> Prop} {d : Nat} {v : Value} (hv : KB P N o E I v) (h : TQ P N ops R l ((d, v) :: E) I) (hg : o.guard = none := by rfl) (hd : o.dst = some d := by rfl) (hN : Nat.blt d N.n = true := by rfl) : TQ P N ops R (o :: l) E I := TQ.val hg hd hN hv h
theorem TS.v {R : Act -> World -> Prop} {d : Nat} {v : Value} (hv : KB P N o E I v) (h : TS P N ops R l ((d, v) :: E) I) (hg : o.guard = none := by rfl) (hd : o.dst = some d := by rfl) (hN : Nat.blt d N.n = true := by rfl) : TS P N ops R (o :: l) E I := TS.val hg hd hN hv h
theorem TL.ov {j d d' : Nat} {b : Bool} {v : Value} (hv : KB P N { o with guard := none } E I v) (h : TL P N ops Q l ((d, v) :: E) I) (hg : o.guard = some (j, b) := by rfl) (hj : (ops[j]?).bind (·.dst) = some d' := by rfl) (hE : look E d' = some (.bool b) := by rfl) (hd : o.dst = some d := by rfl) (hN : Nat.blt d N.n = true := by rfl) : TL P N ops Q (o :: l) E I := TL.on hg hj hE (TL.val rfl hd hN hv h)
theorem TQ.ov {R : Act -> Prop} {j d d' : Nat} {b : Bool} {v : Value} (hv : KB P N { o with guard := none } E I v) (h : TQ P N ops R l ((d, v) :: E) I) (hg : o.guard = some (j, b) := by rfl) (hj : (ops[j]?).bind (·.dst) = some d' := by rfl) (hE : look E d' = some (.bool b) := by rfl) (hd : o.dst = some d := by rfl) (hN : Nat.blt d N.n = true := by rfl) : TQ P N ops R (o :: l) E I := TQ.on hg hj hE (TQ.val rfl hd hN hv h)
theorem TL.sp {p : Prop} {dp : Decidable p} {op : BinOp} {xt yt : TypeId} {x y : Operand} {k k' : IntKind} {m n : Int} {d : Nat} (hv : ∀ w : World, (binOp op xt (.int k m) (.int k' n)).run P w = .ok (.bool (decide p)) w) (ht : p -> TL P N ops Q l ((d, .bool true) :: E) I) (hf : ¬ p -> TL P N ops Q l ((d, .bool false) :: E) I)
    (hg : o.guard = none := by rfl) (hd : o.dst = some d := by rfl) (hN : Nat.blt d N.n = true := by rfl) (ho : o.op = .binOp op xt x y yt := by rfl) (hx : ev E x = some (.int k m) := by rfl) (hy : ev E y = some (.int k' n) := by rfl) : TL P N ops Q (o :: l) E I := TL.vsplit hg hd hN (Ks ho hx hy hv) (fun h => ht (of_decide_eq_true h)) fun h => hf (of_decide_eq_false h)
theorem TQ.sp {R : Act -> Prop} {p : Prop} {dp : Decidable p} {op : BinOp} {xt yt : TypeId} {x y : Operand} {k k' : IntKind} {m n : Int} {d : Nat} (hv : ∀ w : World, (binOp op xt (.int k m) (.int k' n)).run P w = .ok (.bool (decide p)) w) (ht : p -> TQ P N ops R l ((d, .bool true) :: E) I) (hf : ¬ p -> TQ P N ops R l ((d, .bool false) :: E) I)
    (hg : o.guard = none := by rfl) (hd : o.dst = some d := by rfl) (hN : Nat.blt d N.n = true := by rfl) (ho : o.op = .binOp op xt x y yt := by rfl) (hx : ev E x = some (.int k m) := by rfl) (hy : ev E y = some (.int k' n) := by rfl) : TQ P N ops R (o :: l) E I := TQ.vsplit hg hd hN (Ks ho hx hy hv) (fun h => ht (of_decide_eq_true h)) fun h => hf (of_decide_eq_false h)
theorem gD {xt yt : TypeId} {x y : Operand} {k : IntKind} {m n : Int} (r : Int) (ho : o.op = .binOp .add xt x y yt := by rfl) (hx : ev E x = some (.int k m) := by rfl) (hy : ev E y = some (.int k n) := by rfl) (h : k.wrap (m + n) = r := by simp only [IntKind.wrap_i64]; omega) : KB P N o E I (.int k r) := Ks ho hx hy fun w => Kdd h w
end
section
variable {P : Program} {N : Fr} {ops : Array Oper} {S I : World -> Prop} {Q : Exit -> Act -> World -> Prop} {f : Nat} {listed : Array Bool} {E : Env}
theorem TX.he (hS : ∀ w, I w -> S w) (h : (∀ w, I w -> S w) -> TH P N ops S Q f listed E I) : TX N (Exit.then (Hd P ops S Q f listed) (NoPanic Q)) .normal E I := TX.held hS (h hS)
theorem TH.t {o : Oper} {d : Nat} {v : Value} {listed' : Array Bool} (i : Nat) (hi : ops[i]? = some o) (hv : KB P N o E S v) (hS : ∀ w, I w -> S w) (h : TH P N ops S Q f listed' ((d, v) :: E) I) (hg : o.guard = none := by rfl) (hd : o.dst = some d := by rfl)
    (hs : Region.noSelect ops = true := by kernel_rfl) (hf : Region.free .any ops listed i = true := by kernel_rfl) (hr : (Region.ready .any ops listed).contains i = true := by kernel_rfl) (hl : listed.setIfInBounds i true = listed' := by rfl) (hN : Nat.blt d N.n = true := by rfl) : TH P N ops S Q (f + 1) listed E I := TH.take i hi hs hf hr hl hg hd hN hv hS h
end
def Kj (P : Program) (f : FuncId) : Prop := ∃ fn, P.funcs[f]? = some fn /\ (fn.name == "runtime.NumGoroutine") = false /\ fn.body.isNone = false
def Kcm (N : Fr) (E : Env) (o : Oper) : Option (Nat × FuncId × List Value) :=
  match o.guard with
  | some _ => none
  | none => match o.dst with
    | none => none
    | some d => match Nat.blt d N.n with
      | false => none
      | true => match o.op with
        | .call c => match c.callee with
          | .value (.func f) => match evs E c.args.toList with
            | some vs => some (d, f, vs)
            | none => none
          | _ => none
        | _ => none
def KdN (N : Fr) (o : Oper) : Option Nat :=
  match o.guard with
  | some _ => none
  | none => match o.dst with
    | none => none
    | some d => match Nat.blt d N.n with
      | true => some d
      | false => none
def fA (n : Nat) : Array Bool := Array.replicate n false
theorem lC {α : Type} {a : α} {u v : List α} : a :: u ++ v = a :: (u ++ v) := rfl
theorem lN {α : Type} {u : List α} : [] ++ u = u := rfl
section
variable {P : Program} {N : Fr} {Q : Exit -> Act -> World -> Prop} {E E' : Env} {ops : Array Oper} {l : List Oper} {o : Oper} {I : World -> Prop} {w0 : Base} {L : List Pc} {R : Act -> Prop} {d : Nat} {f : FuncId} {vs : List Value}
def KjY : List Nat -> Env -> Option Env
  | [], _ => some []
  | t :: ts, E => match look E t, KjY ts E with
    | some v, some K => some ((t, v) :: K)
    | _, _ => none
theorem TC.lp {c : Code} {α : Type} (ks : List Nat) {K : Env} (hK : KjY ks E = some K) (U : α -> Env) (I' : α -> World -> Prop) (m : α -> Nat) (x0 : α) (hI : ∀ w, I w -> I' x0 w)
    (step : ∀ x, TC P N (Exit.then (fun a w => ∃ y, m y < m x /\ EnvOk N (U y ++ K) a /\ I' y w) Q) c (U x ++ K) (I' x)) (hE : Has E (U x0 ++ K) := by repeat (first | exact trivial | refine And.intro rfl ?_)) : TC P N Q (.loop c) E I :=
  TC.loop_ (fun y => U y ++ K) I' m x0 hE hI step
theorem Kdc (h : Kcm N E o = some (d, f, vs)) : ∃ (xs : List Operand) (ts : Array TypeId), o.guard = none /\ o.dst = some d /\ Nat.blt d N.n = true /\ o.op = .call { callee := .value (.func f), args := xs.toArray, argTypes := ts } /\ evs E xs = some vs := by
  unfold Kcm at h;split at h
  · cases h
  · rename_i hg;split at h
    · cases h
    · rename_i d' hd;split at h
      · cases h
      · rename_i hN;split at h
        · rename_i c ho;obtain ⟨ce, ar, ty⟩ := c;split at h
          · rename_i f' hf;split at h
            · rename_i vs' hx;cases h;dsimp only at hf hx;subst hf;exact ⟨ar.toList, ty, hg, hd, hN, by rw [ho], hx⟩
            · cases h
          · cases h
        · cases h
theorem KbS {d : Nat} (h : KdN N o = some d) : o.guard = none /\ o.dst = some d /\ Nat.blt d N.n = true := by
  unfold KdN at h;split at h
  · cases h
  · rename_i hg;split at h
    · cases h
    · rename_i d' hd;split at h
      · rename_i hN; cases h; exact ⟨hg, hd, hN⟩
      · cases h
theorem TL.w {v : Value} (h0 : KdN N o = some d) (hv : KB P N o E I v) (h : TL P N ops Q l ((d, v) :: E) I) : TL P N ops Q (o :: l) E I := TL.val (KbS h0).1 (KbS h0).2.1 (KbS h0).2.2 hv h
theorem TQ.w {v : Value} (h0 : KdN N o = some d) (hv : KB P N o E I v) (h : TQ P N ops R l ((d, v) :: E) I) : TQ P N ops R (o :: l) E I := TQ.val (KbS h0).1 (KbS h0).2.1 (KbS h0).2.2 hv h
theorem TL.vw {b : Bool} (h0 : KdN N o = some d) (hv : KB P N o E I (.bool b)) (ht : b = true -> TL P N ops Q l ((d, .bool true) :: E) I) (hf : b = false -> TL P N ops Q l ((d, .bool false) :: E) I) : TL P N ops Q (o :: l) E I := TL.vsplit (KbS h0).1 (KbS h0).2.1 (KbS h0).2.2 hv ht hf
theorem TQ.vw {b : Bool} (h0 : KdN N o = some d) (hv : KB P N o E I (.bool b)) (ht : b = true -> TQ P N ops R l ((d, .bool true) :: E) I) (hf : b = false -> TQ P N ops R l ((d, .bool false) :: E) I) : TQ P N ops R (o :: l) E I := TQ.vsplit (KbS h0).1 (KbS h0).2.1 (KbS h0).2.2 hv ht hf
theorem Pm.pk {w : World} {L' : List Pc} (h : Pm w0 L w) (ks : List Nat) (hn : ks.Nodup := by decide) (he : ks.map (fun k => L[k]?) = L'.map some := by rfl) : Pm w0 L' w := h.pick ks hn he
theorem TL.p1 {r : Value} (h0 : Kcm N E o = some (d, f, vs)) (hf : Kj P f)
    (hc : ∀ w, Pm w0 L w -> Calls P f vs.toArray w fun e w' => e = .returned r /\ Below w.heap.size w w') (h : TL P N ops Q l ((d, r) :: E) (Pm w0 L)) : TL P N ops Q (o :: l) E (Pm w0 L) := by
  obtain ⟨xs, ts, hg, hd, hN, ho, hx⟩ := Kdc h0;obtain ⟨fn, h1, h2, h3⟩ := hf;exact TL.pcall1 hg hd hN ho hx h1 h2 h3 hc h
theorem TL.pM {α : Type} (r : α -> Value) (Ln : α -> List Pc) (h0 : Kcm N E o = some (d, f, vs)) (hf : Kj P f)
    (hc : ∀ w, Pm w0 L w -> Calls P f vs.toArray w fun en w' => ∃ x, en = .returned (r x) /\ Pm w (Ln x) w')
    (h : ∀ x, TL P N ops Q l ((d, r x) :: E) (Pm w0 (Ln x ++ L))) (hna : ∀ x, Kbw (Ln x) = true := by intro x; rfl) : TL P N ops Q (o :: l) E (Pm w0 L) := by
  obtain ⟨xs, ts, hg, hd, hN, ho, hx⟩ := Kdc h0;obtain ⟨fn, h1, h2, h3⟩ := hf;exact TL.pcallPm r Ln hg hd hN ho hx h1 h2 h3 hc h hna
theorem TL.pC {α : Type} {k cb : Nat} {p : World -> Prop} (r : α -> Value) (Ln : α -> List Pc) (h0 : Kcm N E o = some (d, f, vs)) (hf : Kj P f)
    (hk : L[k]? = some (.abs cb p)) (hc : ∀ w, Pm w0 L w -> p w -> Calls P f vs.toArray w fun en w' => ∃ x, en = .returned (r x) /\ Codr p cb w (Ln x) w')
    (h : ∀ x, TL P N ops Q l ((d, r x) :: E) (Pm w0 (Ln x ++ L))) (hna : ∀ x, Kbw (Ln x) = true := by intro x; rfl) : TL P N ops Q (o :: l) E (Pm w0 L) := by
  obtain ⟨xs, ts, hg, hd, hN, ho, hx⟩ := Kdc h0;obtain ⟨fn, h1, h2, h3⟩ := hf;exact TL.pcallCod r Ln hg hd hN ho hx h1 h2 h3 hk hc h hna
theorem TL.pL {α : Type} {r : α -> Value} {I' : α -> World -> Prop} (h0 : Kcm N E o = some (d, f, vs)) (hf : Kj P f)
    (hc : ∀ w, I w -> Calls P f vs.toArray w fun e w' => ∃ x, e = .returned (r x) /\ I' x w') (h : ∀ x, TL P N ops Q l ((d, r x) :: E) (I' x)) : TL P N ops Q (o :: l) E I := by
  obtain ⟨xs, ts, hg, hd, hN, ho, hx⟩ := Kdc h0;obtain ⟨fn, h1, h2, h3⟩ := hf;exact TL.call hg hd hN ho hx h1 h2 h3 hc h
theorem TQ.p1 {v : Value} (h0 : Kcm N E o = some (d, f, vs)) (hf : Kj P f)
    (hc : ∀ w, I w -> Calls P f vs.toArray w fun e w' => e = .returned v /\ I w') (h : TQ P N ops R l ((d, v) :: E) I) : TQ P N ops R (o :: l) E I := by
  obtain ⟨xs, ts, hg, hd, hN, ho, hx⟩ := Kdc h0;obtain ⟨fn, h1, h2, h3⟩ := hf;exact TQ.call hg hd hN ho hx h1 h2 h3 hc h
theorem TL.pS {b : Bool} (h0 : Kcm N E o = some (d, f, vs)) (hf : Kj P f)
    (hc : ∀ w, Pm w0 L w -> Calls P f vs.toArray w fun e w' => e = .returned (.bool b) /\ Below w.heap.size w w') (ht : b = true -> TL P N ops Q l ((d, .bool true) :: E) (Pm w0 L)) (hf' : b = false -> TL P N ops Q l ((d, .bool false) :: E) (Pm w0 L)) : TL P N ops Q (o :: l) E (Pm w0 L) := by
  obtain ⟨xs, ts, hg, hd, hN, ho, hx⟩ := Kdc h0;obtain ⟨fn, h1, h2, h3⟩ := hf;exact TL.callsplit hg hd hN ho hx h1 h2 h3 hc ht hf'
theorem TQ.pS {b : Bool} (h0 : Kcm N E o = some (d, f, vs)) (hf : Kj P f)
    (hc : ∀ w, Pm w0 L w -> Calls P f vs.toArray w fun e w' => e = .returned (.bool b) /\ Below w.heap.size w w') (ht : b = true -> TQ P N ops R l ((d, .bool true) :: E) (Pm w0 L)) (hf' : b = false -> TQ P N ops R l ((d, .bool false) :: E) (Pm w0 L)) : TQ P N ops R (o :: l) E (Pm w0 L) := by
  obtain ⟨xs, ts, hg, hd, hN, ho, hx⟩ := Kdc h0;obtain ⟨fn, h1, h2, h3⟩ := hf;exact TQ.callsplit hg hd hN ho hx h1 h2 h3 hc ht hf'
theorem TL.ps {t te : TypeId} {x y : Operand} {g off n : Nat} {v : Value} {cs ws : List Value} (k : Nat) (hs : ∀ w : World, (sizeOf t).run P w = .ok n w)
    (h : TL P N ops Q l E (Pm w0 (L.set k (.blk g te (cs.take off ++ ws ++ cs.drop (off + ws.length)))))) (hg : o.guard = none := by rfl) (hd : o.dst = none := by rfl) (ho : o.op = .store t x y := by rfl) (hx : ev E x = some (.pointer (some ⟨g, off, none⟩)) := by rfl) (hy : ev E y = some v := by rfl)
    (hk : L[k]? = some (.blk g te cs) := by rfl) (hv : v.cells = ws.toArray := by rfl) (hn : ws.length = n := by rfl) (h1 : ws.all Value.oneCell' = true := by rfl) (hl : Nat.ble (off + ws.length) cs.length = true := by rfl) : TL P N ops Q (o :: l) E (Pm w0 L) := by
  subst hn;exact TL.pstore hg hd ho hx hy hk hv hs (fun u hu => List.all_eq_true.1 h1 u hu) (Nat.le_of_ble_eq_true hl) rfl h
theorem TL.bx {t : TypeId} {x : Operand} {v : Value} {cs : List Value} (h : ∀ g, TL P N ops Q l ((d, .pointer (some ⟨g, 0, none⟩)) :: E) (Pm w0 (.blk g t cs :: L)))
    (hg : o.guard = none := by rfl) (hd : o.dst = some d := by rfl) (hN : Nat.blt d N.n = true := by rfl) (ho : o.op = .box t x := by rfl) (hx : ev E x = some v := by rfl) (hc : v.cells = cs.toArray := by rfl) : TL P N ops Q (o :: l) E (Pm w0 L) :=
  TL.pnew hg hd hN (KmM ho hx hc) h
theorem TL.al {t : TypeId} {z : Value} {cs : List Value} (hz : ∀ w : World, (zeroValue t).run P w = .ok z w) (h : ∀ g, TL P N ops Q l ((d, .pointer (some ⟨g, 0, none⟩)) :: E) (Pm w0 (.blk g t cs :: L)))
    (hg : o.guard = none := by rfl) (hd : o.dst = some d := by rfl) (hN : Nat.blt d N.n = true := by rfl) (ho : o.op = .alloc t := by rfl) (hc : z.cells = cs.toArray := by rfl) : TL P N ops Q (o :: l) E (Pm w0 L) :=
  TL.pnew hg hd hN (Kqu ho hz hc) h
theorem TX.rd {α : Type} {E' : α -> Env} {I' : α -> World -> Prop} {m : α -> Nat} {b : Nat} (y : α) (hm : m y < b) (hI : ∀ w, I w -> I' y w) (hE : Has E (E' y) := by repeat (first | exact trivial | refine And.intro rfl ?_)) :
    TX N (Exit.then (fun a w => ∃ y, m y < b /\ EnvOk N (E' y) a /\ I' y w) Q) .normal E I := TX.round y hm hE hI
theorem TX.jd {α : Type} {E' : α -> Env} {I' : α -> World -> Prop} (s : α) (hI : ∀ w, I w -> I' s w) (hE : Has E (E' s) := by repeat (first | exact trivial | refine And.intro rfl ?_)) : TX N (Exit.then (fun a w => ∃ s, EnvOk N (E' s) a /\ I' s w) Q) .normal E I := TX.joined s hE hI
end
section
variable {P : Program} {N : Fr} {ops : Array Oper} {S I : World -> Prop} {Q : Exit -> Act -> World -> Prop} {f : Nat} {listed : Array Bool} {E : Env} {l : List Oper} {id : Nat}
theorem TH.o {o : Oper} {listed' : Array Bool} (i : Nat) (h : TL P N ops (Exit.then (Hd P ops S Q f listed') (NoPanic Q)) [o] E I) (hi : ops[i]? = some o := by rfl) (hr : Region.ready .any ops listed = [i] := by kernel_rfl) (hl : listed.setIfInBounds i true = listed' := by rfl) : TH P N ops S Q (f + 1) listed E I := TH.only' i hi hr hl h
theorem TH.g {o : Oper} {d j dg : Nat} {b : Bool} {v : Value} {listed' : Array Bool} (i : Nat) (hi : ops[i]? = some o) (hv : KB P N o E S v) (hS : ∀ w, I w -> S w) (h : TH P N ops S Q f listed' ((d, v) :: E) I)
    (hs : Region.noSelect ops = true := by kernel_rfl) (hf : Region.free .any ops listed i = true := by kernel_rfl) (hr : (Region.ready .any ops listed).contains i = true := by kernel_rfl) (hl : listed.setIfInBounds i true = listed' := by rfl)
    (hg : o.guard = some (j, b) := by rfl) (hgd : (ops[j]?).bind (·.dst) = some dg := by rfl) (hgE : look E dg = some (.bool b) := by rfl) (hd : o.dst = some d := by rfl) (hN : Nat.blt d N.n = true := by rfl) : TH P N ops S Q (f + 1) listed E I := TH.takeG i hi hs hf hr hl hg hgd hgE hd hN hv hS h
theorem TH.fo {o : Oper} {d j dg : Nat} {b b' : Bool} {listed' : Array Bool} (i : Nat) (hS : ∀ w, I w -> S w) (h : TH P N ops S Q f listed' ((d, undef) :: E) I) (hi : ops[i]? = some o := by rfl)
    (hs : Region.noSelect ops = true := by kernel_rfl) (hf : Region.free .any ops listed i = true := by kernel_rfl) (hr : (Region.ready .any ops listed).contains i = true := by kernel_rfl) (hl : listed.setIfInBounds i true = listed' := by rfl)
    (hg : o.guard = some (j, b') := by rfl) (hgd : (ops[j]?).bind (·.dst) = some dg := by rfl) (hgE : look E dg = some (.bool b) := by rfl) (hne : (b == b') = false := by rfl) (hd : o.dst = some d := by rfl) (hN : Nat.blt d N.n = true := by rfl) : TH P N ops S Q (f + 1) listed E I := TH.off i hi hs hf hr hl hg hgd hgE hne hd hN hS h
theorem TC.hd (n : Nat) (S : World -> Prop) (hS : ∀ w, I w -> S w) (h : (∀ w, I w -> S w) -> TH P N l.toArray S Q n (fA n) E I) (hm : P.follows .mixedOrders = true := by kernel_rfl) (hn : l.toArray.size = n := by rfl) (hI : ∀ w, I w -> I { w with drawn := w.drawn + 1 } := by exact fun w hw => hw.drawn _) : TC P N Q (.region id l.toArray true) E I := TC.held S hm hn rfl hI (h hS)
end
theorem o17 : Kj Tryz.prog 17 := ⟨_, Tryz.func17, by decide, rfl⟩
theorem o18 : Kj Tryz.prog 18 := ⟨_, Tryz.func18, by decide, rfl⟩
theorem o19 : Kj Tryz.prog 19 := ⟨_, Tryz.func19, by decide, rfl⟩
theorem o20 : Kj Tryz.prog 20 := ⟨_, Tryz.func20, by decide, rfl⟩
theorem o21 : Kj Tryz.prog 21 := ⟨_, Tryz.func21, by decide, rfl⟩
theorem o22 : Kj Tryz.prog 22 := ⟨_, Tryz.func22, by decide, rfl⟩
theorem o23 : Kj Tryz.prog 23 := ⟨_, Tryz.func23, by decide, rfl⟩
theorem o24 : Kj Tryz.prog 24 := ⟨_, Tryz.func24, by decide, rfl⟩
theorem o25 : Kj Tryz.prog 25 := ⟨_, Tryz.func25, by decide, rfl⟩
theorem o26 : Kj Tryz.prog 26 := ⟨_, Tryz.func26, by decide, rfl⟩
theorem o27 : Kj Tryz.prog 27 := ⟨_, Tryz.func27, by decide, rfl⟩
theorem o28 : Kj Tryz.prog 28 := ⟨_, Tryz.func28, by decide, rfl⟩
theorem o29 : Kj Tryz.prog 29 := ⟨_, Tryz.func29, by decide, rfl⟩
theorem o30 : Kj Tryz.prog 30 := ⟨_, Tryz.func30, by decide, rfl⟩
theorem o31 : Kj Tryz.prog 31 := ⟨_, Tryz.func31, by decide, rfl⟩
theorem o32 : Kj Tryz.prog 32 := ⟨_, Tryz.func32, by decide, rfl⟩
theorem o35 : Kj Tryz.prog 35 := ⟨_, Tryz.func35, by decide, rfl⟩
theorem o36 : Kj Tryz.prog 36 := ⟨_, Tryz.func36, by decide, rfl⟩
theorem o37 : Kj Tryz.prog 37 := ⟨_, Tryz.func37, by decide, rfl⟩
theorem o38 : Kj Tryz.prog 38 := ⟨_, Tryz.func38, by decide, rfl⟩
theorem o39 : Kj Tryz.prog 39 := ⟨_, Tryz.func39, by decide, rfl⟩
theorem o43 : Kj Tryz.prog 43 := ⟨_, Tryz.func43, by decide, rfl⟩
theorem o44 : Kj Tryz.prog 44 := ⟨_, Tryz.func44, by decide, rfl⟩
theorem o45 : Kj Tryz.prog 45 := ⟨_, Tryz.func45, by decide, rfl⟩
theorem o46 : Kj Tryz.prog 46 := ⟨_, Tryz.func46, by decide, rfl⟩
theorem o47 : Kj Tryz.prog 47 := ⟨_, Tryz.func47, by decide, rfl⟩
theorem o48 : Kj Tryz.prog 48 := ⟨_, Tryz.func48, by decide, rfl⟩
theorem o49 : Kj Tryz.prog 49 := ⟨_, Tryz.func49, by decide, rfl⟩
theorem o50 : Kj Tryz.prog 50 := ⟨_, Tryz.func50, by decide, rfl⟩
theorem o51 : Kj Tryz.prog 51 := ⟨_, Tryz.func51, by decide, rfl⟩
theorem o52 : Kj Tryz.prog 52 := ⟨_, Tryz.func52, by decide, rfl⟩
theorem o53 : Kj Tryz.prog 53 := ⟨_, Tryz.func53, by decide, rfl⟩
theorem o54 : Kj Tryz.prog 54 := ⟨_, Tryz.func54, by decide, rfl⟩
theorem o55 : Kj Tryz.prog 55 := ⟨_, Tryz.func55, by decide, rfl⟩
theorem o56 : Kj Tryz.prog 56 := ⟨_, Tryz.func56, by decide, rfl⟩
theorem o57 : Kj Tryz.prog 57 := ⟨_, Tryz.func57, by decide, rfl⟩
theorem o58 : Kj Tryz.prog 58 := ⟨_, Tryz.func58, by decide, rfl⟩
theorem o60 : Kj Tryz.prog 60 := ⟨_, Tryz.func60, by decide, rfl⟩
theorem o62 : Kj Tryz.prog 62 := ⟨_, Tryz.func62, by decide, rfl⟩
theorem o63 : Kj Tryz.prog 63 := ⟨_, Tryz.func63, by decide, rfl⟩
theorem o64 : Kj Tryz.prog 64 := ⟨_, Tryz.func64, by decide, rfl⟩
theorem o65 : Kj Tryz.prog 65 := ⟨_, Tryz.func65, by decide, rfl⟩
theorem o66 : Kj Tryz.prog 66 := ⟨_, Tryz.func66, by decide, rfl⟩
theorem o67 : Kj Tryz.prog 67 := ⟨_, Tryz.func67, by decide, rfl⟩
theorem o68 : Kj Tryz.prog 68 := ⟨_, Tryz.func68, by decide, rfl⟩
theorem o69 : Kj Tryz.prog 69 := ⟨_, Tryz.func69, by decide, rfl⟩
theorem o70 : Kj Tryz.prog 70 := ⟨_, Tryz.func70, by decide, rfl⟩
theorem o71 : Kj Tryz.prog 71 := ⟨_, Tryz.func71, by decide, rfl⟩
theorem o72 : Kj Tryz.prog 72 := ⟨_, Tryz.func72, by decide, rfl⟩
theorem o73 : Kj Tryz.prog 73 := ⟨_, Tryz.func73, by decide, rfl⟩
theorem o74 : Kj Tryz.prog 74 := ⟨_, Tryz.func74, by decide, rfl⟩
theorem o75 : Kj Tryz.prog 75 := ⟨_, Tryz.func75, by decide, rfl⟩
theorem o76 : Kj Tryz.prog 76 := ⟨_, Tryz.func76, by decide, rfl⟩
theorem o77 : Kj Tryz.prog 77 := ⟨_, Tryz.func77, by decide, rfl⟩
theorem o78 : Kj Tryz.prog 78 := ⟨_, Tryz.func78, by decide, rfl⟩
theorem o79 : Kj Tryz.prog 79 := ⟨_, Tryz.func79, by decide, rfl⟩
theorem o81 : Kj Tryz.prog 81 := ⟨_, Tryz.func81, by decide, rfl⟩
theorem o82 : Kj Tryz.prog 82 := ⟨_, Tryz.func82, by decide, rfl⟩
theorem o83 : Kj Tryz.prog 83 := ⟨_, Tryz.func83, by decide, rfl⟩
theorem o84 : Kj Tryz.prog 84 := ⟨_, Tryz.func84, by decide, rfl⟩
theorem o85 : Kj Tryz.prog 85 := ⟨_, Tryz.func85, by decide, rfl⟩
theorem o86 : Kj Tryz.prog 86 := ⟨_, Tryz.func86, by decide, rfl⟩
theorem o88 : Kj Tryz.prog 88 := ⟨_, Tryz.func88, by decide, rfl⟩
theorem o89 : Kj Tryz.prog 89 := ⟨_, Tryz.func89, by decide, rfl⟩
theorem o90 : Kj Tryz.prog 90 := ⟨_, Tryz.func90, by decide, rfl⟩
theorem o91 : Kj Tryz.prog 91 := ⟨_, Tryz.func91, by decide, rfl⟩
theorem o92 : Kj Tryz.prog 92 := ⟨_, Tryz.func92, by decide, rfl⟩
theorem o95 : Kj Tryz.prog 95 := ⟨_, Tryz.func95, by decide, rfl⟩
theorem o96 : Kj Tryz.prog 96 := ⟨_, Tryz.func96, by decide, rfl⟩
theorem o99 : Kj Tryz.prog 99 := ⟨_, Tryz.func99, by decide, rfl⟩
theorem Kkb : Kj Tryz.prog 101 := ⟨_, Tryz.func101, by decide, rfl⟩
theorem KpG : Kj Tryz.prog 102 := ⟨_, Tryz.func102, by decide, rfl⟩
theorem Kh5 : Kj Tryz.prog 103 := ⟨_, Tryz.func103, by decide, rfl⟩
theorem Kd4 : Kj Tryz.prog 104 := ⟨_, Tryz.func104, by decide, rfl⟩
theorem Knx : Kj Tryz.prog 105 := ⟨_, Tryz.func105, by decide, rfl⟩
theorem KjN : Kj Tryz.prog 106 := ⟨_, Tryz.func106, by decide, rfl⟩
theorem Ko1 : Kj Tryz.prog 107 := ⟨_, Tryz.func107, by decide, rfl⟩
theorem KgT : Kj Tryz.prog 108 := ⟨_, Tryz.func108, by decide, rfl⟩
theorem KkL : Kj Tryz.prog 110 := ⟨_, Tryz.func110, by decide, rfl⟩
theorem Kjs : Kj Tryz.prog 113 := ⟨_, Tryz.func113, by decide, rfl⟩
theorem Kgp : Kj Tryz.prog 114 := ⟨_, Tryz.func114, by decide, rfl⟩
theorem KgZ : Kj Tryz.prog 115 := ⟨_, Tryz.func115, by decide, rfl⟩
theorem Kf3 : Kj Tryz.prog 116 := ⟨_, Tryz.func116, by decide, rfl⟩
theorem Kqm : Kj Tryz.prog 117 := ⟨_, Tryz.func117, by decide, rfl⟩
theorem Kco : Kj Tryz.prog 118 := ⟨_, Tryz.func118, by decide, rfl⟩
theorem Knw : Kj Tryz.prog 119 := ⟨_, Tryz.func119, by decide, rfl⟩
theorem Kov : Kj Tryz.prog 120 := ⟨_, Tryz.func120, by decide, rfl⟩
theorem KnG : Kj Tryz.prog 121 := ⟨_, Tryz.func121, by decide, rfl⟩
theorem KpW : Kj Tryz.prog 122 := ⟨_, Tryz.func122, by decide, rfl⟩
theorem Klc : Kj Tryz.prog 127 := ⟨_, Tryz.func127, by decide, rfl⟩
theorem Koo : Kj Tryz.prog 128 := ⟨_, Tryz.func128, by decide, rfl⟩
theorem KlB : Kj Tryz.prog 129 := ⟨_, Tryz.func129, by decide, rfl⟩
theorem KqF : Kj Tryz.prog 130 := ⟨_, Tryz.func130, by decide, rfl⟩
theorem Kgo : Kj Tryz.prog 131 := ⟨_, Tryz.func131, by decide, rfl⟩
theorem Klm : Kj Tryz.prog 133 := ⟨_, Tryz.func133, by decide, rfl⟩
theorem Kfj : Kj Tryz.prog 135 := ⟨_, Tryz.func135, by decide, rfl⟩
theorem KfI : Kj Tryz.prog 140 := ⟨_, Tryz.func140, by decide, rfl⟩
theorem Kl7 : Kj Tryz.prog 143 := ⟨_, Tryz.func143, by decide, rfl⟩
theorem Kjf : Kj Tryz.prog 147 := ⟨_, Tryz.func147, by decide, rfl⟩
theorem KoQ : Kj Tryz.prog 151 := ⟨_, Tryz.func151, by decide, rfl⟩
theorem Kk9 : Kj Tryz.prog 152 := ⟨_, Tryz.func152, by decide, rfl⟩
theorem Kj4 : Kj Tryz.prog 154 := ⟨_, Tryz.func154, by decide, rfl⟩
theorem Kib : Kj Tryz.prog 155 := ⟨_, Tryz.func155, by decide, rfl⟩
theorem Knb : Kj Tryz.prog 156 := ⟨_, Tryz.func156, by decide, rfl⟩
theorem Kcq : Kj Tryz.prog 157 := ⟨_, Tryz.func157, by decide, rfl⟩
theorem Kpq : Kj Tryz.prog 158 := ⟨_, Tryz.func158, by decide, rfl⟩
theorem KgE : Kj Tryz.prog 159 := ⟨_, Tryz.func159, by decide, rfl⟩
theorem KpL : Kj Tryz.prog 161 := ⟨_, Tryz.func161, by decide, rfl⟩
theorem KmC : Kj Tryz.prog 162 := ⟨_, Tryz.func162, by decide, rfl⟩
theorem Kkn : Kj Tryz.prog 163 := ⟨_, Tryz.func163, by decide, rfl⟩
theorem KfC : Kj Tryz.prog 177 := ⟨_, Tryz.func177, by decide, rfl⟩
theorem KjV : Kj Tryz.prog 178 := ⟨_, Tryz.func178, by decide, rfl⟩
theorem Kka : Kj Tryz.prog 179 := ⟨_, Tryz.func179, by decide, rfl⟩
theorem KpH : Kj Tryz.prog 189 := ⟨_, Tryz.func189, by decide, rfl⟩
theorem Kke : Kj Tryz.prog 190 := ⟨_, Tryz.func190, by decide, rfl⟩
theorem KiI : Kj Tryz.prog 191 := ⟨_, Tryz.func191, by decide, rfl⟩
theorem Ki2 : Kj Tryz.prog 216 := ⟨_, Tryz.func216, by decide, rfl⟩
theorem Kor : Kj Tryz.prog 217 := ⟨_, Tryz.func217, by decide, rfl⟩
open Go.ChangeShapes Go.WideShapes Go.ChangeAt Go.RowKit
theorem own : ownKnob Tryz.prog.godebug = none := by kernel_rfl
theorem laidOut : laidOutB Tryz.prog = true := by kernel_rfl
theorem Knp {x : Int} (h : (Lit.int .u8 x).wf = true) : 0 <= x /\ x <= 255 := by simpa [Lit.wf, IntKind.min, IntKind.max, IntKind.signed, IntKind.bits] using h
theorem KeS {x : Int} (h : (Lit.int .u32 x).wf = true) : 0 <= x /\ x <= 4294967295 := by simpa [Lit.wf, IntKind.min, IntKind.max, IntKind.signed, IntKind.bits] using h
theorem Kmv {w : World} {a : Addr} {len cap : Nat} {zs : List Int} (hl : len <= cap) (hz : zs.length = cap) (hb : 0 < len -> a.block < w.heap.size) (hc : ∀ i, i < zs.length -> w.cell? (a.add i) = some (.int .u8 (zs.getD i 0)))
    (hw : ∀ n ∈ zs, (Lit.int .u8 n).wf = true) : Byt w w.heap.size (some a) len (zs.take len) := by
  refine ⟨⟨by simp [bv]; omega, fun hn => ⟨a, rfl, hb hn, fun j u hu => ?_⟩⟩, fun x hx => Knp (hw x (List.mem_of_mem_take hx))⟩;simp only [bv, List.getElem?_map, List.getElem?_take] at hu;split at hu
  · rename_i hj;have hjl : j < zs.length := by omega
    rw [List.getElem?_eq_getElem hjl] at hu;rw [hc j hjl];simp only [Option.map_some, Option.some.injEq] at hu;rw [<- hu];simp [List.getD, List.getElem?_eq_getElem hjl]
  · simp at hu
section
variable {H : Type} {enc : TypeId × Value -> H} {P : Program} {W : World}
theorem open_byt {t e : TypeId} {base : Nat} {v : Value} {d : DataW H} {p : List MemPlace} (ht : P.underlying t = some (.slice e)) (he : P.underlying e = some (.int .u8)) (hC : P.cellsOf e = 1)
    (hok : Value.okWide P W .any base t v) (h : DataW.Trod enc P W 0 (fun _ => true) true t v d p) : ∃ A n c l, v = .slice A n c /\ n <= c /\ c <= maxLen /\ Byt W W.heap.size A n l := by
  obtain ⟨a0, len0, cap0, rfl⟩ := okWide_slice ht hok;obtain ⟨fuel, hf⟩ := h;rcases open_ints ht he hC hf with ⟨hcs, _⟩ | ⟨x, l, c, zs, hcs, _, hl, hm, hz, _, hcell, hwz⟩
  · simp [Value.cells] at hcs;obtain ⟨rfl, rfl, rfl⟩ := hcs;exact ⟨none, 0, 0, [], rfl, Nat.le_refl _, Nat.zero_le _, Byt.none_ _ _⟩
  · simp [Value.cells] at hcs;obtain ⟨rfl, rfl, rfl⟩ := hcs;have hz' : zs.length = cap0 := by simpa using hz
    refine ⟨_, len0, cap0, zs.take len0, rfl, hl, hm, Kmv hl hz' (fun hn => ?_) hcell hwz⟩;have := World.block_lt_of_cell? W _ (hcell 0 (by omega));rwa [Kct] at this
end
set_option maxRecDepth 20000
def Cod (w : World) (cb : Nat) : Prop :=
  ∃ A m c l k, Blk w cb 105 #[.slice A m c, .int .i64 ((k : Nat) : Int)] /\ k <= m /\ m <= 1000000 /\ Byt w cb A m l
theorem Cod.lt {w : World} {cb : Nat} (h : Cod w cb) : cb < w.heap.size := by
  obtain ⟨A, m, c, l, k, hb, _⟩ := h;exact hb.lt
theorem Cod.keep {w w' : World} {cb : Nat} (h : Cod w cb) (hk : ∀ b, b <= cb -> w'.heap[b]? = w.heap[b]?) : Cod w' cb := by
  obtain ⟨A, m, c, l, k, hb, h1, h2, h3⟩ := h;exact ⟨A, m, c, l, k, (hk cb (Nat.le_refl _)).trans hb, h1, h2, h3.keep fun p hp => World.cell?_of_block (hk _ (Nat.le_of_lt hp))⟩
theorem Cod.below {w w' : World} {cb B : Nat} (h : Cod w cb) (hb : Below B w w') (hB : cb < B) : Cod w' cb := h.keep fun b hb' => hb.block b (by omega)
theorem Cod.alloc {w : World} {cb : Nat} (h : Cod w cb) (o : Obj) : Cod (w.alloc o) cb := h.keep fun b hb' => Below.heap_alloc w o b (Nat.lt_of_le_of_lt hb' h.lt)
theorem Cod.drewN {w : World} {cb : Nat} (h : Cod w cb) (n : Nat) : Cod (w.drewN n) cb := h
theorem KmW (A : Option Addr) (n c : Nat) (l : List Int) (w : World) (mo : Int) (h : Byt w w.heap.size A n l) (hc : n <= c) (hn : (n : Int) <= 9223372036854775807) (h0 : 0 <= mo) (h1 : mo <= 1000000) :
    Calls Tryz.prog 62 #[.slice A n c, .int .i64 mo] w fun e w' => e = .returned (.pointer (some ⟨w.heap.size, 0, none⟩)) /\ Cod w' w.heap.size /\ Below w.heap.size w w' /\ w'.heap.size = w.heap.size + 1 := by
  obtain ⟨mo, rfl⟩ := Int.eq_ofNat_of_zero_le h0
  have key : ∀ (m : Nat), m <= 1000000 -> m <= n -> Cod (w.alloc (.cells #[.slice A m c, .int .i64 0] 105)) w.heap.size := fun m hm hmn =>
    ⟨A, m, c, l.take m, 0, Blk.new _ _ _, Nat.zero_le _, hm, (h.head hmn).alloc (Nat.le_refl _) _⟩
  have hb : ∀ o, Below w.heap.size w (w.alloc o) := fun o => (Below.refl _ _).alloc (Nat.le_refl _) o;by_cases hlt : mo < n
  · have k1 := Lib.hid (key mo (by omega) (by omega));clear key
    go_enter Tryz.func62, Tryz.ntmps62
    go_wp2
    go_ret
    exact ⟨rfl, k1.out, hb _, by simp⟩
  · have k1 := Lib.hid (key n (by omega) (by omega));clear key
    go_enter Tryz.func62, Tryz.ntmps62
    go_wp2
    go_ret
    exact ⟨rfl, k1.out, hb _, by simp⟩
theorem KhC (cb : Nat) (w : World) (n : Int) (A : Option Addr) (m c : Nat) (k : Nat) (hb : Blk w cb 105 #[.slice A m c, .int .i64 k]) (hk : k <= 1000000) (h : m <= k \/ n < 1) :
    Calls Tryz.prog 21 #[.pointer (some ⟨cb, 0, none⟩), .int .i64 n] w fun e w' => e = .returned (.int .i64 0) /\ ∃ q, w' = w.drewN q := by
  have hc0 := hb.cell 0;have hc1 := hb.cell 1;simp at hc0 hc1;by_cases hm : m <= k
  · clear h
    go_enter Tryz.func21, Tryz.ntmps21
    go_wp2
    go_quiet (fail)
    go_wp2
    go_ret
    exact ⟨rfl, _, rfl⟩
  · have h : n < 1 := by omega
    go_enter Tryz.func21, Tryz.ntmps21
    go_wp2
    go_quiet (fail)
    go_wp2
    go_ret
    exact ⟨rfl, _, rfl⟩
theorem KpY (cb : Nat) (w : World) (n : Int) (ad : Addr) (m c : Nat) (k : Nat) (x : Int) (hb : Blk w cb 105 #[.slice (some ad) m c, .int .i64 k]) (hk : k < m) (hm : m <= 1000000) (h0 : 1 <= n) (h1 : n <= 256)
    (hx : w.cell? (ad.add k) = some (.int .u8 x)) (hx0 : 0 <= x) (hx1 : x <= 255) :
    Calls Tryz.prog 21 #[.pointer (some ⟨cb, 0, none⟩), .int .i64 n] w fun e w' => e = .returned (.int .i64 (x % n)) /\ ∃ q, w' = (w.drewN q).setCell ⟨cb, 1, none⟩ (.int .i64 ((k + 1 : Nat) : Int)) := by
  have hc0 := hb.cell 0;have hc1 := hb.cell 1;have hf0 := hb.frozen 0;have hf1 := hb.frozen 1;simp at hc0 hc1
  go_enter Tryz.func21, Tryz.ntmps21
  go_wp2
  go_quiet (fail)
  go_wp2
  go_quiet (fail)
  go_wp2
  go_ret
  exact ⟨rfl, _, rfl⟩
theorem Cod.moved {w : World} {cb : Nat} {A : Option Addr} {m c k : Nat} {l : List Int} (hb : Blk w cb 105 #[.slice A m c, .int .i64 k]) (hk : k + 1 <= m) (hm : m <= 1000000) (hl : Byt w cb A m l) (q : Nat) :
    Cod ((w.drewN q).setCell ⟨cb, 1, none⟩ (.int .i64 ((k + 1 : Nat) : Int))) cb /\ w.grownBy ((w.drewN q).setCell ⟨cb, 1, none⟩ (.int .i64 ((k + 1 : Nat) : Int))) (some cb) := by
  refine ⟨⟨A, m, c, l, k + 1, ?_, hk, hm, ?_⟩, ?_⟩
  · exact (hb.drewN q).set_ 1 _
  · exact (hl.drewN q).keep fun p hp => World.cell?_setCell_other _ _ _ _ (fun e => by subst e; simp at hp)
  · refine ⟨rfl, rfl, rfl, by simp, fun i hi hne => ?_⟩;exact (Below.heap_setCell (w.drewN q) _ _ i (fun e => hne (by rw [e])))
def Kh9 (n : Int) (w : World) (cb : Nat) (e : Ending) (w' : World) : Prop :=
  ∃ x : Int, e = .returned (.int .i64 x) /\ 0 <= x /\ x <= 65535 /\ (1 <= n -> x < n) /\ Cod w' cb /\ w.grownBy w' (some cb) /\ w'.heap.size <= w.heap.size
theorem KhQ (cb : Nat) (w : World) (n : Int) (h : Cod w cb) (hn : n <= 256) :
    Calls Tryz.prog 21 #[.pointer (some ⟨cb, 0, none⟩), .int .i64 n] w (Kh9 n w cb) := by
  obtain ⟨A, m, c, l, k, hb, hk, hm, hl⟩ := h;by_cases hd : m <= k \/ n < 1
  · refine (KhC cb w n A m c k hb (by omega) hd).mono fun e w' ⟨he, q, hw⟩ => ?_;subst hw;refine ⟨0, he, by omega, by omega, by omega, ⟨A, m, c, l, k, hb.drewN q, hk, hm, hl.drewN q⟩, ⟨rfl, rfl, rfl, Nat.le_refl _, fun _ _ _ => rfl⟩, Nat.le_refl _⟩
  · have hkm : k < m := by omega
    obtain ⟨ad, x, rfl, _, _, hx0, hx1, hc⟩ := hl.at_ hkm;refine (KpY cb w n ad m c k x hb hkm hm (by omega) hn hc hx0 hx1).mono fun e w' ⟨he, q, hw⟩ => ?_;subst hw;obtain ⟨m1, m2⟩ := Cod.moved hb hkm hm hl q;have e1 : 0 <= x % n := Int.emod_nonneg _ (by omega);have e2 : x % n < n := Int.emod_lt_of_pos _ (by omega);exact ⟨x % n, he, e1, by omega, fun _ => e2, m1, m2, by simp⟩
theorem Koe (cb : Nat) (w : World) (n : Int) (ad : Addr) (m c : Nat) (k : Nat) (x : Int) (hb : Blk w cb 105 #[.slice (some ad) m c, .int .i64 k]) (hk : k < m) (hm : m <= 1000000) (h1 : 256 < n)
    (hx : w.cell? (ad.add k) = some (.int .u8 x)) (hx0 : 0 <= x) (hx1 : x <= 255) (hC : ∀ q, Cod ((w.drewN q).setCell ⟨cb, 1, none⟩ (.int .i64 ((k + 1 : Nat) : Int))) cb) :
    Calls Tryz.prog 21 #[.pointer (some ⟨cb, 0, none⟩), .int .i64 n] w fun e w' => ∃ y q, e = .returned (.int .i64 ((256 * x + y) % n)) /\ 0 <= y /\ y <= 255 /\ Cod w' cb /\ ((w.drewN q).setCell ⟨cb, 1, none⟩ (.int .i64 ((k + 1 : Nat) : Int))).grownBy w' (some cb) /\ w'.heap.size <= w.heap.size := by
  have hc0 := hb.cell 0;have hc1 := hb.cell 1;have hf0 := hb.frozen 0;have hf1 := hb.frozen 1;simp at hc0 hc1;have HC := Lib.hid hC;clear hC
  go_enter Tryz.func21, Tryz.ntmps21
  go_wp2_with fail
  go_quiet (fail)
  go_wp2_with fail
  go_quiet (fail)
  go_wp2_with fail
  refine (KhQ cb _ 256 (HC.out _) (by omega)).mono ?_;rintro e w' ⟨y, rfl, hy0, _, hy1, hy2, hy3, hy4⟩;have hy1 := hy1 (by omega)
  go_wp2_with fail
  go_ret
  exact ⟨y, _, rfl, hy0, by omega, hy2, hy3, Nat.le_trans hy4 (by simp)⟩
theorem KkS (cb : Nat) (w : World) (n : Int) (h : Cod w cb) :
    Calls Tryz.prog 21 #[.pointer (some ⟨cb, 0, none⟩), .int .i64 n] w (Kh9 n w cb) := by
  by_cases hn : n <= 256
  · exact KhQ cb w n h hn
  · obtain ⟨A, m, c, l, k, hb, hk, hm, hl⟩ := h;by_cases hd : m <= k
    · refine (KhC cb w n A m c k hb (by omega) (.inl hd)).mono fun e w' ⟨he, q, hw⟩ => ?_;subst hw;refine ⟨0, he, by omega, by omega, by omega, ⟨A, m, c, l, k, hb.drewN q, hk, hm, hl.drewN q⟩, ⟨rfl, rfl, rfl, Nat.le_refl _, fun _ _ _ => rfl⟩, Nat.le_refl _⟩
    · have hkm : k < m := by omega
      obtain ⟨ad, x, rfl, _, _, hx0, hx1, hc⟩ := hl.at_ hkm;refine (Koe cb w n ad m c k x hb hkm hm (by omega) hc hx0 hx1 (fun q => (Cod.moved hb hkm hm hl q).1)).mono fun e w' ⟨y, q, he, hy0, hy1, hC, hg, hs⟩ => ?_;have g := (Cod.moved hb hkm hm hl q).2;have e1 : 0 <= (256 * x + y) % n := Int.emod_nonneg _ (by omega);have e2 : (256 * x + y) % n < n := Int.emod_lt_of_pos _ (by omega)
      have e3 : (256 * x + y) % n <= 65535 := by
        by_cases hlt : 256 * x + y < n
        · rw [Int.emod_eq_of_lt (by omega) hlt]; omega
        · omega
      refine ⟨_, he, e1, e3, fun _ => e2, hC, ⟨hg.os.trans g.os, hg.tape.trans g.tape, hg.output.trans g.output, Nat.le_trans g.size hg.size, fun i hi hne => ?_⟩, hs⟩;exact (hg.block i (Nat.lt_of_lt_of_le hi g.size) hne).trans (g.block i hi hne)
set_option maxRecDepth 20000
structure Trc where
 v : Int
 dst : Int
 proto : Int
deriving DecidableEq
def Trc.cells (r : Trc) : List Value := [.int .i64 r.v, .int .u32 r.dst, .int .i64 r.proto]
theorem KaF : Cel Trc.cells 3 := ⟨fun _ => rfl, fun r u hu => by
 simp only [Trc.cells, List.mem_cons, List.not_mem_nil, or_false] at hu;rcases hu with rfl | rfl | rfl <;> rfl⟩
structure Idn where
 v : Int
 run : Int
 num : Int
deriving DecidableEq
def Idn.cells (r : Idn) : List Value := [.int .i64 r.v, .int .i64 r.run, .int .i64 r.num]
theorem Kaz : Cel Idn.cells 3 := ⟨fun _ => rfl, fun r u hu => by
 simp only [Idn.cells, List.mem_cons, List.not_mem_nil, or_false] at hu;rcases hu with rfl | rfl | rfl <;> rfl⟩
def Kec (x y : Trc) : Int := orI [Kl x.v y.v, Kl x.dst y.dst, Kl x.proto y.proto]
theorem Ky (w : World) : (sizeOf 3).run Tryz.prog w = .ok 1 w := rfl
theorem Kb (w : World) : (isAgg 3).run Tryz.prog w = .ok false w := rfl
theorem Kbo : FA Tryz.prog 32 0 0 := fun g o w => by kernel_rfl
theorem KbR : FA Tryz.prog 32 1 1 := fun g o w => by kernel_rfl
theorem KO (w : World) : (isAgg 30).run Tryz.prog w = .ok false w := rfl
theorem KbT : FA Tryz.prog 32 2 2 := fun g o w => by kernel_rfl
theorem KdH (a0_0 : Int) (a1_0 : Int) (a2_0 : Int) (w : World) : (Instr.buildSlice 106 3 #[(0, .int .i64 a0_0), (1, .int .i64 a1_0), (2, .int .i64 a2_0)]).run Tryz.prog w = .ok (.slice (some ⟨w.heap.size, 0, none⟩) 3 3) (w.alloc (.cells [.int .i64 a0_0, .int .i64 a1_0, .int .i64 a2_0].toArray 3)) := by kernel_rfl
theorem Kjm (x : Int) (w : World) :
  Calls Tryz.prog 125 #[.int .i64 x] w fun e w' => e = .returned (.bool false) /\ w' = w := by
 refine Kh (I := fun w1 => w1 = w) Tryz.func125 rfl rfl rfl ?_ rfl;refine zSG (TL.as_ ?_);refine zET (zSG (TL.rn 2 rfl ?_));refine TL.w rfl (Ks rfl rfl rfl (fun w => KdM rfl w)) ?_;refine TL.as_ ?_;refine zET (zr ?_);exact Kc Tryz.results125 rfl (fun w1 hw => ⟨rfl, hw⟩)
theorem Kio (x : Int) (w : World) :
  Calls Tryz.prog 126 #[.int .u32 x] w fun e w' => e = .returned (.bool false) /\ w' = w := by
 refine Kh (I := fun w1 => w1 = w) Tryz.func126 rfl rfl rfl ?_ rfl;refine zSG (TL.as_ ?_);refine zET (zSG (TL.rn 2 rfl ?_));refine TL.w rfl (Ks rfl rfl rfl (fun w => KdM rfl w)) ?_;refine TL.as_ ?_;refine zET (zr ?_);exact Kc Tryz.results126 rfl (fun w1 hw => ⟨rfl, hw⟩)
theorem KbY (x y : Int) (w : World) :
  Calls Tryz.prog 79 #[.int .i64 x, .int .i64 y] w fun e w' => e = .returned (.int .i64 (Kl x y)) /\ w' = w := by
 refine Kh (I := fun w1 => w1 = w) Tryz.func79 rfl rfl rfl ?_ rfl;refine zSG (TL.as_ ?_);refine zET (zSG (TL.mv ?_));refine TL.stcall (r := .bool false) rfl rfl rfl rfl rfl Tryz.func125 (by decide) rfl (fun w1 hw => Kjm x w1) ?_;refine TL.as_ ?_;refine zET (zSG (TL.mv ?_));refine TL.stcall (r := .bool false) rfl rfl rfl rfl rfl Tryz.func125 (by decide) rfl (fun w1 hw => Kjm y w1) ?_;refine TL.as_ ?_;refine zET (zS (zSG (TL.mv ?_)));refine zET (zd (zk (zT (zS (zSG (TL.mv ?_))))));refine zET (zd (zk (zT (zS (zSG (TL.rn 2 rfl ?_))))));refine TL.sp Kk (fun q16 => ?_) (fun q16 => ?_)
 ·refine zET (zc (zSG (TL.as_ ?_)));refine zET (zr (zR ?_));have hE : (Kl x y) = -1 := (by simp [Kl, q16]; try omega);exact Kc Tryz.results79 rfl (fun w1 hw => ⟨by rw [hE]; try rfl, hw⟩)
 refine zET (zd (zk (zT (zS (zSG (TL.rn 2 rfl ?_))))));refine TL.sp KK (fun q19 => ?_) (fun q19 => ?_)
 ·refine zET (zc (zSG (TL.as_ ?_)));refine zET (zr (zR ?_));have hE : (Kl x y) = 1 := (by simp [Kl, q16, q19]; try omega);exact Kc Tryz.results79 rfl (fun w1 hw => ⟨by rw [hE]; try rfl, hw⟩)
 refine zET (zd (zk (zT (zSG (TL.as_ ?_)))));refine zET (zr ?_);have hE : (Kl x y) = 0 := (by simp [Kl, q16, q19]; try omega);exact Kc Tryz.results79 rfl (fun w1 hw => ⟨by rw [hE]; try rfl, hw⟩)
theorem KgS (x y : Int) (w : World) :
  Calls Tryz.prog 80 #[.int .u32 x, .int .u32 y] w fun e w' => e = .returned (.int .i64 (Kl x y)) /\ w' = w := by
 refine Kh (I := fun w1 => w1 = w) Tryz.func80 rfl rfl rfl ?_ rfl;refine zSG (TL.as_ ?_);refine zET (zSG (TL.mv ?_));refine TL.stcall (r := .bool false) rfl rfl rfl rfl rfl Tryz.func126 (by decide) rfl (fun w1 hw => Kio x w1) ?_;refine TL.as_ ?_;refine zET (zSG (TL.mv ?_));refine TL.stcall (r := .bool false) rfl rfl rfl rfl rfl Tryz.func126 (by decide) rfl (fun w1 hw => Kio y w1) ?_;refine TL.as_ ?_;refine zET (zS (zSG (TL.mv ?_)));refine zET (zd (zk (zT (zS (zSG (TL.mv ?_))))));refine zET (zd (zk (zT (zS (zSG (TL.rn 2 rfl ?_))))));refine TL.sp Kk (fun q16 => ?_) (fun q16 => ?_)
 ·refine zET (zc (zSG (TL.as_ ?_)));refine zET (zr (zR ?_));have hE : (Kl x y) = -1 := (by simp [Kl, q16]; try omega);exact Kc Tryz.results80 rfl (fun w1 hw => ⟨by rw [hE]; try rfl, hw⟩)
 refine zET (zd (zk (zT (zS (zSG (TL.rn 2 rfl ?_))))));refine TL.sp KK (fun q19 => ?_) (fun q19 => ?_)
 ·refine zET (zc (zSG (TL.as_ ?_)));refine zET (zr (zR ?_));have hE : (Kl x y) = 1 := (by simp [Kl, q16, q19]; try omega);exact Kc Tryz.results80 rfl (fun w1 hw => ⟨by rw [hE]; try rfl, hw⟩)
 refine zET (zd (zk (zT (zSG (TL.as_ ?_)))));refine zET (zr ?_);have hE : (Kl x y) = 0 := (by simp [Kl, q16, q19]; try omega);exact Kc Tryz.results80 rfl (fun w1 hw => ⟨by rw [hE]; try rfl, hw⟩)
theorem KgW (A0 : Option Addr) (n0 c0 : Nat) (xs : List Int) (w : World) (hr : Kg w w.heap.size 1 A0 n0 (Ka (ic .i64) xs)) (hl : xs.length = n0) (hl1 : xs.length <= 100000) :
  Calls Tryz.prog 78 #[.slice A0 n0 c0] w fun e w' => e = .returned (.int .i64 (orI xs)) /\ Below w.heap.size w w' := by
 subst hl;refine Kh Tryz.func78 rfl rfl rfl ?_ (Pm.start w);refine zSG (TL.as_ ?_);refine zET (zSG (TL.as_ ?_));refine zET (zS (zSG (TL.mv ?_)));refine TL.v (gN Tryz.underlying106) ?_;refine TL.mv ?_;refine zET (zB (TC.lp (α := {i : Nat // i <= xs.length /\ orI (xs.drop i) = orI xs}) [0, 3, 6, 7] rfl (fun y => [(8, .int .i64 ((y.1 : Nat) : Int))]) (fun y => Pm w []) (fun y => xs.length - y.1) (⟨0, Nat.zero_le _, rfl⟩) (fun w1 hw => hw) ?_));rintro ⟨i, hi, ho⟩
 try dsimp only at hi ho ⊢
 refine zSG ?_;refine TL.sp Kk (fun q9 => ?_) (fun q9 => ?_)
 ·refine zET (zS (zc (zk (zT (zS (zB (zSG ?_)))))));have hi10 : i < xs.length := by omega
  obtain ⟨x10, hx10⟩ := Ko hi10;obtain ⟨b10, o10, hA10, hbb10, hc10⟩ := hr.ad (by omega) (by decide);have hdr : xs.drop i = x10 :: xs.drop (i + 1) := by obtain ⟨hlt, e⟩ := List.getElem?_eq_some_iff.1 hx10; rw [List.drop_eq_getElem_cons hlt, e]
  refine TL.w rfl (gA (i := i) Tryz.underlying106 Ky rfl rfl rfl rfl hA10 (by omega)) ?_;refine TL.w rfl (Kw (v := .int .i64 x10) rfl rfl Kb (fun w1 hw => (hw.bel.cell hbb10).trans <| Kcr (KQ .i64) hx10 hc10 0 _ rfl)) ?_;refine TL.as_ ?_;refine zET (zSG (TL.rn 2 rfl ?_));refine TL.sp K5 (fun q14 => ?_) (fun q14 => ?_)
  ·refine zET (zc (zSG (TL.rn 2 rfl (zET (zr (zRR (zR (zRR ?_))))))));exact Kc Tryz.results78 rfl (fun w1 hw => ⟨by rw [<- ho, hdr]; unfold orI; rw [if_neg q14], hw.bel⟩)
  have ho2 : orI (xs.drop (i + 1)) = orI xs := by rw [<- ho, hdr]; exact (if_pos (Decidable.not_not.1 q14)).symm
  refine zET (zd (zk (zN (zT (zG (TL.v (gD ((i + 1 : Nat) : Int)) ?_))))));refine TL.mv ?_;refine zE ?_;exact TX.rd (⟨i + 1, by omega, ho2⟩) (by show xs.length - (i + 1) < xs.length - i; omega) (fun w1 hw => hw)
 refine zET (zS (zd (zx (zX (zX (zM (zT (zSG (TL.rn 2 rfl (zET (zr ?_)))))))))));exact Kc Tryz.results78 rfl (fun w1 hw => ⟨by rw [<- ho, List.drop_of_length_le (by omega)]; rfl, hw.bel⟩)
theorem KoD (x y : Trc) (w : World) :
  Calls Tryz.prog 137 #[.agg x.cells.toArray, .agg y.cells.toArray] w fun e w' => e = .returned (.int .i64 (Kec x y)) /\ Below w.heap.size w w' := by
 refine Kh Tryz.func137 rfl rfl rfl ?_ (Pm.start w);refine zSG ?_;refine TL.bx fun g2 => ?_;refine TL.bx fun g3 => ?_;refine TL.as_ ?_;refine zET (zS (TC.tail 15 (by kernel_rfl) (by kernel_rfl) (fun w hw => hw.drawn _) ?_));refine TS.v (gF Kbo) ?_;refine TS.v (gL 1 Kb) ?_;refine TS.v (gF Kbo) ?_;refine TS.v (gL 0 Kb) ?_;refine TS.call (r := .int .i64 (Kl x.v y.v)) rfl rfl rfl rfl rfl Tryz.func79 (by decide) rfl (fun w1 hw => KbY x.v y.v w1) ?_;refine TS.v (gF KbR) ?_;refine TS.v (gL 1 KO) ?_;refine TS.v (gF KbR) ?_;refine TS.v (gL 0 KO) ?_;refine TS.call (r := .int .i64 (Kl x.dst y.dst)) rfl rfl rfl rfl rfl Tryz.func80 (by decide) rfl (fun w1 hw => KgS x.dst y.dst w1) ?_;refine TS.v (gF KbT) ?_;refine TS.v (gL 1 Kb) ?_;refine TS.v (gF KbT) ?_;refine TS.v (gL 0 Kb) ?_;refine TS.call (r := .int .i64 (Kl x.proto y.proto)) rfl rfl rfl rfl rfl Tryz.func79 (by decide) rfl (fun w1 hw => KbY x.proto y.proto w1) ?_;refine TS.end_ ?_;refine TL.prowS (e := 3) (size := 1) (cs := Ka (ic .i64) [Kl x.v y.v, Kl x.dst y.dst, Kl x.proto y.proto]) rfl rfl rfl rfl rfl (fun w => KdH _ _ _ w) (by decide) rfl (fun g20 => ?_);refine TL.p1 rfl o78 (fun w1 hw => KgW (some ⟨g20, 0, none⟩) 3 3 ([Kl x.v y.v, Kl x.dst y.dst, Kl x.proto y.proto]) w1 (KD hw (k := 0) rfl) rfl (by show 3 <= 100000; decide)) ?_;refine TL.as_ ?_;refine zET (zr ?_);exact Kc Tryz.results137 rfl (fun w1 hw => ⟨rfl, hw.bel⟩)
set_option maxRecDepth 20000
theorem eqA (d : Nat) (s1 k1 c1 l1 i1 q1 s2 k2 c2 l2 i2 q2 : Int) (w : World) : (Op.equalIn (d + 2) 63 (.agg #[.int .u32 s1, .int .i64 k1, .int .i64 c1, .int .i64 l1, .int .i64 i1, .int .i64 q1]) (.agg #[.int .u32 s2, .int .i64 k2, .int .i64 c2, .int .i64 l2, .int .i64 i2, .int .i64 q2])).run Tryz.prog w = .ok (decide (s1 = s2 /\ k1 = k2 /\ c1 = c2 /\ l1 = l2 /\ i1 = i2 /\ q1 = q2)) w := by
  have hS : Tryz.prog.underlying 63 = some (.struct (Tryz.prog.fieldsOf 63)) := by kernel_rfl
  have hp : Tryz.prog.stoodInHeld 63 = false := by kernel_rfl
  rw [run_equalIn_agg w (d + 1) 63 _ _ hS hp];simp only [Program.fieldsOf, Tryz.underlying63];have u3 := Tryz.underlying3;have u23 := Tryz.underlying30;have a3 := Tryz.isAgg3;have z3 := Tryz.sizeOf3;have a23 := Tryz.isAgg30;have z23 := Tryz.sizeOf30
  go_simp
  by_cases h1 : s1 = s2 <;> by_cases h2 : k1 = k2 <;> by_cases h3 : c1 = c2 <;> by_cases h4 : l1 = l2 <;> by_cases h5 : i1 = i2 <;> by_cases h6 : q1 = q2 <;> simp [h1, h2, h3, h4, h5, h6]
theorem eqR (v1 r1 n1 t1 d1 p1 f1 l1 k1 s1 x1 c1 y1 i1 q1 v2 r2 n2 t2 d2 p2 f2 l2 k2 s2 x2 c2 y2 i2 q2 : Int) (a1 b1 a2 b2 : Bool) (w : World) : (Op.equalIn 10000 65 (.agg #[.int .i64 v1, .int .i64 r1, .int .i64 n1, .int .i64 t1, .int .u32 d1, .int .i64 p1, .int .i64 f1, .int .i64 l1, .bool a1, .bool b1, .int .i64 k1, .int .u32 s1, .int .i64 x1, .int .i64 c1, .int .i64 y1, .int .i64 i1, .int .i64 q1]) (.agg #[.int .i64 v2, .int .i64 r2, .int .i64 n2, .int .i64 t2, .int .u32 d2, .int .i64 p2, .int .i64 f2, .int .i64 l2, .bool a2, .bool b2, .int .i64 k2, .int .u32 s2, .int .i64 x2, .int .i64 c2, .int .i64 y2, .int .i64 i2, .int .i64 q2])).run Tryz.prog w = .ok (decide (v1 = v2 /\ r1 = r2 /\ n1 = n2 /\ t1 = t2 /\ d1 = d2 /\ p1 = p2 /\ f1 = f2 /\ l1 = l2 /\ a1 = a2 /\ b1 = b2 /\ k1 = k2 /\ s1 = s2 /\ x1 = x2 /\ c1 = c2 /\ y1 = y2 /\ i1 = i2 /\ q1 = q2)) w := by
  have hS : Tryz.prog.underlying 65 = some (.struct (Tryz.prog.fieldsOf 65)) := by kernel_rfl
  have hp : Tryz.prog.stoodInHeld 65 = false := by kernel_rfl
  rw [show (10000 : Nat) = 9999 + 1 from rfl, run_equalIn_agg w 9999 65 _ _ hS hp];simp only [Program.fieldsOf, Tryz.underlying65];have u3 := Tryz.underlying3;have u4 := Tryz.underlying4;have u23 := Tryz.underlying30;have a3 := Tryz.isAgg3;have a4 := Tryz.isAgg4;have z3 := Tryz.sizeOf3;have z4 := Tryz.sizeOf4;have a23 := Tryz.isAgg30;have z23 := Tryz.sizeOf30;have a25 := Tryz.isAgg63;have z25 := Tryz.sizeOf63;have eqA' := eqA 9997
  go_simp
  by_cases h0 : v1 = v2
  rotate_left
  · simp [h0]
  subst h0;by_cases h1 : r1 = r2
  rotate_left
  · simp [h1]
  subst h1;by_cases h2 : n1 = n2
  rotate_left
  · simp [h2]
  subst h2;by_cases h3 : t1 = t2
  rotate_left
  · simp [h3]
  subst h3;by_cases h4 : d1 = d2
  rotate_left
  · simp [h4]
  subst h4;by_cases h5 : p1 = p2
  rotate_left
  · simp [h5]
  subst h5;by_cases h6 : f1 = f2
  rotate_left
  · simp [h6]
  subst h6;by_cases h7 : l1 = l2
  rotate_left
  · simp [h7]
  subst h7;by_cases h8 : a1 = a2
  rotate_left
  · simp [h8]
  subst h8;by_cases h9 : b1 = b2
  rotate_left
  · simp [h9]
  subst h9;by_cases h10 : k1 = k2
  rotate_left
  · simp [h10]
  subst h10;by_cases e1 : s1 = s2 <;> by_cases e2 : x1 = x2 <;> by_cases e3 : c1 = c2 <;> by_cases e4 : y1 = y2 <;> by_cases e5 : i1 = i2 <;> by_cases e6 : q1 = q2 <;> simp [e1, e2, e3, e4, e5, e6]
theorem KgI (s1 k1 c1 l1 i1 q1 s2 k2 c2 l2 i2 q2 : Int) {x y : Operand} (w : World) : (do eqGuard .neq 63 x y (.agg #[.int .u32 s1, .int .i64 k1, .int .i64 c1, .int .i64 l1, .int .i64 i1, .int .i64 q1]) (.agg #[.int .u32 s2, .int .i64 k2, .int .i64 c2, .int .i64 l2, .int .i64 i2, .int .i64 q2]); binOp .neq 63 (.agg #[.int .u32 s1, .int .i64 k1, .int .i64 c1, .int .i64 l1, .int .i64 i1, .int .i64 q1]) (.agg #[.int .u32 s2, .int .i64 k2, .int .i64 c2, .int .i64 l2, .int .i64 i2, .int .i64 q2]) : Sem Value).run Tryz.prog w = .ok (.bool (!decide (s1 = s2 /\ k1 = k2 /\ c1 = c2 /\ l1 = l2 /\ i1 = i2 /\ q1 = q2))) w := by
  have hm : Tryz.prog.eqGuardType Tryz.prog.depth 63 = false := by kernel_rfl
  simp only [Sem.run_bind, run_eqGuard_agg w .neq 63 x y _ _ hm, Result.andThen_ok, run_neq_struct, show (10000 : Nat) = 9998 + 2 from rfl, eqA 9998]
set_option maxRecDepth 20000
def Rs.cells (r : Rs) : List Value := [.int .i64 r.v, .int .i64 r.run, .int .i64 r.num, .int .i64 r.at_, .int .u32 r.dst, .int .i64 r.proto, .int .i64 r.flow, .int .i64 r.ttl, .bool r.ans, .bool r.dbl, .int .i64 r.back, .int .u32 r.src, .int .i64 r.kind, .int .i64 r.code, .int .i64 r.left, .int .i64 r.id, .int .i64 r.quo]
theorem Kcg (n m : Int) (w : World) :
  Calls Tryz.prog 157 #[.int .i64 n, .int .i64 m] w fun e w' => e = .returned (.bool (decide (0 <= n /\ n <= m))) /\ Below w.heap.size w w' := by
 refine Kh Tryz.func157 rfl rfl rfl ?_ (Pm.start w);refine zSG (TL.as_ ?_);refine zET (zSG (TL.mv ?_));refine TL.vw rfl (Ks rfl rfl rfl (fun w => K3 w)) (fun h6 => ?_) (fun h6 => ?_)
 ·refine TL.rn 3 rfl (TL.gu ?_);refine TL.vw rfl (Ks rfl rfl rfl (fun w => KaB w)) (fun h10 => ?_) (fun h10 => ?_)
  ·refine TL.rn 2 rfl (zET (zr ?_));exact Kc Tryz.results157 rfl (fun w1 hw => ⟨KeG (by simp only [decide_eq_true_eq, decide_eq_false_iff_not] at *; omega), hw.bel⟩)
  refine TL.rn 2 rfl (zET (zr ?_));exact Kc Tryz.results157 rfl (fun w1 hw => ⟨Kce (by simp only [decide_eq_true_eq, decide_eq_false_iff_not] at *; omega), hw.bel⟩)
 refine TL.rn 6 rfl (zET (zr ?_));exact Kc Tryz.results157 rfl (fun w1 hw => ⟨Kce (by simp only [decide_eq_true_eq, decide_eq_false_iff_not] at *; omega), hw.bel⟩)
theorem Kle (v r : Int) (w : World) :
  Calls Tryz.prog 156 #[.int .i64 v, .int .i64 r] w fun e w' => e = .returned (.bool (decide (0 <= v /\ v <= 15 /\ 0 <= r /\ r <= 63))) /\ Below w.heap.size w w' := by
 refine Kh Tryz.func156 rfl rfl rfl ?_ (Pm.start w);refine zSG (TL.as_ ?_);refine zET (zSG (TL.mv ?_));refine TL.pS rfl Kcq (fun w1 hw => Kcg (v) (15) w1) (fun h6 => ?_) (fun h6 => ?_)
 ·refine TL.rn 2 rfl (TL.gu ?_);refine TL.pS rfl Kcq (fun w1 hw => Kcg (r) (63) w1) (fun h9 => ?_) (fun h9 => ?_)
  ·refine TL.rn 2 rfl (zET (zr ?_));exact Kc Tryz.results156 rfl (fun w1 hw => ⟨KeG (by simp only [decide_eq_true_eq, decide_eq_false_iff_not] at *; omega), hw.bel⟩)
  refine TL.rn 2 rfl (zET (zr ?_));exact Kc Tryz.results156 rfl (fun w1 hw => ⟨Kce (by simp only [decide_eq_true_eq, decide_eq_false_iff_not] at *; omega), hw.bel⟩)
 refine TL.rn 5 rfl (zET (zr ?_));exact Kc Tryz.results156 rfl (fun w1 hw => ⟨Kce (by simp only [decide_eq_true_eq, decide_eq_false_iff_not] at *; omega), hw.bel⟩)
theorem Kk3 (v r : Int) (w : World) :
  Calls Tryz.prog 158 #[.int .i64 v, .int .i64 r] w fun e w' => e = .returned (.bool (decide (0 <= v /\ v <= 15 /\ 0 <= r /\ r <= 63))) /\ Below w.heap.size w w' := by
 refine Kh Tryz.func158 rfl rfl rfl ?_ (Pm.start w);refine zSG (TL.as_ ?_);refine zET (zSG (TL.mv ?_));refine TL.vw rfl (Ks rfl rfl rfl (fun w => K3 w)) (fun h6 => ?_) (fun h6 => ?_)
 ·refine TL.rn 2 rfl (TL.gu ?_);refine TL.vw rfl (Ks rfl rfl rfl (fun w => Kk w)) (fun h9 => ?_) (fun h9 => ?_)
  ·refine TL.rn 3 rfl (TL.gu ?_);refine TL.vw rfl (Ks rfl rfl rfl (fun w => K3 w)) (fun h13 => ?_) (fun h13 => ?_)
   ·refine TL.rn 3 rfl (TL.gu ?_);refine TL.vw rfl (Ks rfl rfl rfl (fun w => Kk w)) (fun h17 => ?_) (fun h17 => ?_)
    ·refine TL.rn 2 rfl (zET (zr ?_));exact Kc Tryz.results158 rfl (fun w1 hw => ⟨KeG (by simp only [decide_eq_true_eq, decide_eq_false_iff_not] at *; omega), hw.bel⟩)
    refine TL.rn 2 rfl (zET (zr ?_));exact Kc Tryz.results158 rfl (fun w1 hw => ⟨Kce (by simp only [decide_eq_true_eq, decide_eq_false_iff_not] at *; omega), hw.bel⟩)
   refine TL.rn 6 rfl (zET (zr ?_));exact Kc Tryz.results158 rfl (fun w1 hw => ⟨Kce (by simp only [decide_eq_true_eq, decide_eq_false_iff_not] at *; omega), hw.bel⟩)
  refine TL.rn 10 rfl (zET (zr ?_));exact Kc Tryz.results158 rfl (fun w1 hw => ⟨Kce (by simp only [decide_eq_true_eq, decide_eq_false_iff_not] at *; omega), hw.bel⟩)
 refine TL.rn 13 rfl (zET (zr ?_));exact Kc Tryz.results158 rfl (fun w1 hw => ⟨Kce (by simp only [decide_eq_true_eq, decide_eq_false_iff_not] at *; omega), hw.bel⟩)
theorem KfS (n : Int) (w : World) :
  Calls Tryz.prog 159 #[.int .i64 n] w fun e w' => e = .returned (.bool (decide (0 <= n /\ n <= 255))) /\ Below w.heap.size w w' := by
 refine Kh Tryz.func159 rfl rfl rfl ?_ (Pm.start w);refine zSG (TL.as_ ?_);refine zET (zSG (TL.mv ?_));refine TL.vw rfl (Ks rfl rfl rfl (fun w => K3 w)) (fun h4 => ?_) (fun h4 => ?_)
 ·refine TL.rn 2 rfl (TL.gu ?_);refine TL.vw rfl (Ks rfl rfl rfl (fun w => KaB w)) (fun h7 => ?_) (fun h7 => ?_)
  ·refine TL.rn 2 rfl (zET (zr ?_));exact Kc Tryz.results159 rfl (fun w1 hw => ⟨KeG (by simp only [decide_eq_true_eq, decide_eq_false_iff_not] at *; omega), hw.bel⟩)
  refine TL.rn 2 rfl (zET (zr ?_));exact Kc Tryz.results159 rfl (fun w1 hw => ⟨Kce (by simp only [decide_eq_true_eq, decide_eq_false_iff_not] at *; omega), hw.bel⟩)
 refine TL.rn 5 rfl (zET (zr ?_));exact Kc Tryz.results159 rfl (fun w1 hw => ⟨Kce (by simp only [decide_eq_true_eq, decide_eq_false_iff_not] at *; omega), hw.bel⟩)
set_option maxRecDepth 20000
theorem KP : FA Tryz.prog 65 11 11 := fun g o w => by kernel_rfl
theorem Kd3 (w : World) : (isAgg 63).run Tryz.prog w = .ok true w := rfl
theorem Kcp (w : World) : (sizeOf 63).run Tryz.prog w = .ok 6 w := rfl
theorem Kkv (w : World) : (zeroValue 63).run Tryz.prog w = .ok (.agg #[.int .u32 0, .int .i64 0, .int .i64 0, .int .i64 0, .int .i64 0, .int .i64 0]) w := rfl
theorem Kb0 : FA Tryz.prog 65 0 0 := fun g o w => by kernel_rfl
theorem Kcx : FA Tryz.prog 65 1 1 := fun g o w => by kernel_rfl
theorem KbQ : FA Tryz.prog 65 2 2 := fun g o w => by kernel_rfl
theorem Kal : FA Tryz.prog 65 3 3 := fun g o w => by kernel_rfl
theorem Kao : FA Tryz.prog 65 10 10 := fun g o w => by kernel_rfl
theorem Kbq : FA Tryz.prog 65 6 6 := fun g o w => by kernel_rfl
theorem Kas : FA Tryz.prog 65 7 7 := fun g o w => by kernel_rfl
theorem KbI : FA Tryz.prog 65 5 5 := fun g o w => by kernel_rfl
theorem KbA : FA Tryz.prog 65 9 9 := fun g o w => by kernel_rfl
theorem Kaf (w : World) : (isAgg 4).run Tryz.prog w = .ok false w := rfl
theorem Kar : FA Tryz.prog 65 8 8 := fun g o w => by kernel_rfl
theorem Kgd  (w : World) : (Instr.build 63 #[]).run Tryz.prog w = .ok (.agg #[.int .u32 0, .int .i64 0, .int .i64 0, .int .i64 0, .int .i64 0, .int .i64 0]) w := by kernel_rfl
theorem KbG : FA Tryz.prog 63 1 1 := fun g o w => by kernel_rfl
theorem Kdx : FA Tryz.prog 63 2 2 := fun g o w => by kernel_rfl
theorem KdE : FA Tryz.prog 63 3 3 := fun g o w => by kernel_rfl
theorem Kdy : FA Tryz.prog 63 5 5 := fun g o w => by kernel_rfl
theorem Kb8 : FA Tryz.prog 63 4 4 := fun g o w => by kernel_rfl
theorem Koq (r : Rs) (w : World) :
  Calls Tryz.prog 120 #[.agg r.cells.toArray] w fun e w' => e = .returned (.int .i64 (KaL r)) /\ Below w.heap.size w w' := by
 refine Kh Tryz.func120 rfl rfl rfl ?_ (Pm.start w);refine zSG ?_;refine TL.bx fun g1 => ?_;refine TL.as_ ?_;refine zET (zSG (TL.v (gF KP) ?_));refine TL.v (gV 0 (.agg #[.int .u32 r.src, .int .i64 r.kind, .int .i64 r.code, .int .i64 r.left, .int .i64 r.id, .int .i64 r.quo]) Kd3 Kcp) ?_;refine TL.al Kkv fun g3 => ?_;refine TL.ps 0 Kcp ?_;refine zET (zS (zB ?_));refine TC.join (α := {b : Bool // b = true ↔ ¬ r.inRange}) (fun y => [(1, .pointer (some ⟨g1, 0, none⟩)), (2, .int .i64 0), (3, .pointer (some ⟨g3, 0, none⟩)), (6, .bool y.1)]) (fun y => Pm w [.blk g3 63 [.int .u32 r.src, .int .i64 r.kind, .int .i64 r.code, .int .i64 r.left, .int .i64 r.id, .int .i64 r.quo], .blk g1 65 r.cells]) ?_ ?_
 ·refine zSG (TL.v (gF Kb0) ?_);refine TL.v (gL 1 Kb) ?_;refine TL.v (gF Kcx) ?_;refine TL.v (gL 1 Kb) ?_;refine TL.pS rfl Knb (fun w1 hw => Kle r.v r.run w1) (fun h11 => ?_) (fun h11 => ?_)
  ·have q11 := of_decide_eq_true h11;refine TL.rn 2 rfl (zET (zd (zSG (TL.v (gF KbQ) ?_))));refine TL.v (gL 1 Kb) ?_;refine TL.pS rfl Kcq (fun w1 hw => Kcg r.num 999 w1) (fun h15 => ?_) (fun h15 => ?_)
   ·have q15 := of_decide_eq_true h15;refine TL.rn 2 rfl (zET (zd (zSG (TL.v (gF Kal) ?_))));refine TL.v (gL 1 Kb) ?_;refine TL.pS rfl Kcq (fun w1 hw => Kcg r.at_ 2251799813685248 w1) (fun h19 => ?_) (fun h19 => ?_)
    ·have q19 := of_decide_eq_true h19;refine TL.rn 2 rfl (zET (zd (zSG (TL.v (gF Kao) ?_))));refine TL.v (gL 1 Kb) ?_;refine TL.pS rfl Kcq (fun w1 hw => Kcg r.back 2251799813685248 w1) (fun h23 => ?_) (fun h23 => ?_)
     ·have q23 := of_decide_eq_true h23;refine TL.rn 2 rfl (zET (zd (zSG (TL.v (gF Kao) ?_))));refine TL.v (gL 1 Kb) ?_;refine TL.v (gF Kal) ?_;refine TL.v (gL 1 Kb) ?_;refine TL.sp Kk (fun q29 => ?_) (fun q29 => ?_)
      ·refine TL.as_ ?_;refine zET (zc (zk ?_));exact TX.jd (⟨true, ⟨fun _ => by unfold Rs.inRange; omega, fun _ => rfl⟩⟩) (fun w1 hw => hw)
      refine TL.as_ ?_;refine zET (zd (zSG (TL.v (gF Kbq) ?_)));refine TL.v (gL 1 Kb) ?_;refine TL.pS rfl Kcq (fun w1 hw => Kcg r.flow 1023 w1) (fun h32 => ?_) (fun h32 => ?_)
      ·have q32 := of_decide_eq_true h32;refine TL.rn 2 rfl (zET (zd (zG (TL.v (gF Kas) ?_))));refine TL.v (gL 1 Kb) ?_;refine TL.sp Kk (fun q36 => ?_) (fun q36 => ?_)
       ·refine TL.rn 6 rfl (zE ?_);exact TX.jd (⟨true, ⟨fun _ => by unfold Rs.inRange; omega, fun _ => rfl⟩⟩) (fun w1 hw => hw)
       refine TL.mv ?_;refine TL.ov (gF Kas) ?_;refine TL.ov (gL 1 Kb) ?_;refine TL.gu ?_;refine TL.sp KK (fun q40 => ?_) (fun q40 => ?_)
       ·refine TL.rn 2 rfl (zE ?_);exact TX.jd (⟨true, ⟨fun _ => by unfold Rs.inRange; omega, fun _ => rfl⟩⟩) (fun w1 hw => hw)
       refine TL.rn 2 rfl (zE ?_);exact TX.jd (⟨false, ⟨fun h => (by cases h), fun h => absurd h (by unfold Rs.inRange; omega)⟩⟩) (fun w1 hw => hw)
      have q32 := of_decide_eq_false h32;refine TL.rn 2 rfl (zET (zc (zk ?_)));exact TX.jd (⟨true, ⟨fun _ => by unfold Rs.inRange; omega, fun _ => rfl⟩⟩) (fun w1 hw => hw)
     have q23 := of_decide_eq_false h23;refine TL.rn 2 rfl (zET (zc (zk ?_)));exact TX.jd (⟨true, ⟨fun _ => by unfold Rs.inRange; omega, fun _ => rfl⟩⟩) (fun w1 hw => hw)
    have q19 := of_decide_eq_false h19;refine TL.rn 2 rfl (zET (zc (zk ?_)));exact TX.jd (⟨true, ⟨fun _ => by unfold Rs.inRange; omega, fun _ => rfl⟩⟩) (fun w1 hw => hw)
   have q15 := of_decide_eq_false h15;refine TL.rn 2 rfl (zET (zc (zk ?_)));exact TX.jd (⟨true, ⟨fun _ => by unfold Rs.inRange; omega, fun _ => rfl⟩⟩) (fun w1 hw => hw)
  have q11 := of_decide_eq_false h11;refine TL.rn 2 rfl (zET (zc (zk ?_)));exact TX.jd (⟨true, ⟨fun _ => by unfold Rs.inRange; omega, fun _ => rfl⟩⟩) (fun w1 hw => hw)
 rintro ⟨b1, hb1⟩;dsimp only at hb1 ⊢;refine TC.split (t := b1) rfl (fun c6 => ?_) (fun c6 => ?_)
 ·refine zSG (TL.as_ ?_);refine zET (zr (zRR ?_));exact Kc Tryz.results120 rfl (fun w1 hw => ⟨congrArg (fun z : Int => Ending.returned (Value.int .i64 z)) ((by first | exact KfD hb1 hb2 hb3 hb4 (by assumption) (by assumption) (by assumption) (by assumption) | exact KeQ hb1 (by assumption))), hw.bel⟩)
 refine TC.join (α := {b : Bool // b = true ↔ ¬ (r.proto = 1 \/ r.proto = 6 \/ r.proto = 17)}) (fun y => [(1, .pointer (some ⟨g1, 0, none⟩)), (2, .int .i64 0), (3, .pointer (some ⟨g3, 0, none⟩)), (42, .bool y.1)]) (fun y => Pm w [.blk g3 63 [.int .u32 r.src, .int .i64 r.kind, .int .i64 r.code, .int .i64 r.left, .int .i64 r.id, .int .i64 r.quo], .blk g1 65 r.cells]) ?_ ?_
 ·refine zG (TL.v (gF KbI) ?_);refine TL.v (gL 1 Kb) ?_;refine TL.sp K5 (fun q45 => ?_) (fun q45 => ?_)
  ·refine TL.mv ?_;refine TL.ov (gF KbI) ?_;refine TL.ov (gL 1 Kb) ?_;refine TL.gu ?_;refine TL.sp K5 (fun q49 => ?_) (fun q49 => ?_)
   ·refine TL.rn 2 rfl (TL.ov (gF KbI) ?_);refine TL.ov (gL 1 Kb) ?_;refine TL.gu ?_;refine TL.sp K5 (fun q54 => ?_) (fun q54 => ?_)
    ·refine TL.rn 2 rfl (zE ?_);exact TX.jd (⟨true, ⟨fun _ => by omega, fun _ => rfl⟩⟩) (fun w1 hw => hw)
    refine TL.rn 2 rfl (zE ?_);exact TX.jd (⟨false, ⟨fun h => (by cases h), fun h => absurd h (by omega)⟩⟩) (fun w1 hw => hw)
   refine TL.rn 7 rfl (zE ?_);exact TX.jd (⟨false, ⟨fun h => (by cases h), fun h => absurd h (by omega)⟩⟩) (fun w1 hw => hw)
  refine TL.rn 11 rfl (zE ?_);exact TX.jd (⟨false, ⟨fun h => (by cases h), fun h => absurd h (by omega)⟩⟩) (fun w1 hw => hw)
 rintro ⟨b2, hb2⟩;dsimp only at hb2 ⊢;refine TC.split (t := b2) rfl (fun c42 => ?_) (fun c42 => ?_)
 ·refine zSG (TL.as_ ?_);refine zET (zr (zRR ?_));exact Kc Tryz.results120 rfl (fun w1 hw => ⟨congrArg (fun z : Int => Ending.returned (Value.int .i64 z)) (KhV hb1 hb2 (by assumption) (by assumption)), hw.bel⟩)
 refine TC.join (α := {b : Bool // b = true ↔ (r.dbl = true /\ r.ans = false) \/ (r.ans = false /\ r.noAns = false)}) (fun y => [(1, .pointer (some ⟨g1, 0, none⟩)), (2, .int .i64 0), (3, .pointer (some ⟨g3, 0, none⟩)), (56, .bool y.1)]) (fun y => Pm w [.blk g3 63 [.int .u32 r.src, .int .i64 r.kind, .int .i64 r.code, .int .i64 r.left, .int .i64 r.id, .int .i64 r.quo], .blk g1 65 r.cells]) ?_ ?_
 ·refine zSG (TL.v (gF KbA) ?_);refine TL.vw rfl (gL 1 Kaf) (fun h58 => ?_) (fun h58 => ?_)
  ·refine TL.mv ?_;refine TL.ov (gF Kar) ?_;refine TL.gu ?_;refine TL.vw rfl (gL 1 Kaf) (fun h61 => ?_) (fun h61 => ?_)
   ·refine TL.rn 3 rfl (zET (zd (zG (TL.v (gF Kar) ?_))));refine TL.vw rfl (gL 1 Kaf) (fun h65 => ?_) (fun h65 => ?_)
    ·refine TL.rn 7 rfl (zE ?_);exact TX.jd (⟨false, by simp_all⟩) (fun w1 hw => hw)
    refine TL.rn 2 rfl (TL.ov (gV 0 (.agg #[.int .u32 r.src, .int .i64 r.kind, .int .i64 r.code, .int .i64 r.left, .int .i64 r.id, .int .i64 r.quo]) Kd3 Kcp) ?_);refine TL.gu ?_;refine TL.w rfl (Kt (v := .agg #[.int .u32 0, .int .i64 0, .int .i64 0, .int .i64 0, .int .i64 0, .int .i64 0]) rfl rfl (fun w => Kgd  w)) ?_;refine TL.gu ?_;refine TL.vw rfl ((Kac (v := .bool (!r.noAns)) rfl rfl rfl (fun w => (KgI _ _ _ _ _ _ _ _ _ _ _ _ w).trans (by unfold Rs.noAns; rfl)))) (fun h70 => ?_) (fun h70 => ?_)
    ·refine TL.rn 2 rfl (zE ?_);exact TX.jd (⟨true, by simp_all⟩) (fun w1 hw => hw)
    refine TL.rn 2 rfl (zE ?_);exact TX.jd (⟨false, by simp_all⟩) (fun w1 hw => hw)
   refine TL.rn 3 rfl (zET (zc (zk ?_)));exact TX.jd (⟨true, by simp_all⟩) (fun w1 hw => hw)
  refine TL.rn 6 rfl (zET (zd (zG (TL.v (gF Kar) ?_))));refine TL.vw rfl (gL 1 Kaf) (fun h65 => ?_) (fun h65 => ?_)
  ·refine TL.rn 7 rfl (zE ?_);exact TX.jd (⟨false, by simp_all⟩) (fun w1 hw => hw)
  refine TL.rn 2 rfl (TL.ov (gV 0 (.agg #[.int .u32 r.src, .int .i64 r.kind, .int .i64 r.code, .int .i64 r.left, .int .i64 r.id, .int .i64 r.quo]) Kd3 Kcp) ?_);refine TL.gu ?_;refine TL.w rfl (Kt (v := .agg #[.int .u32 0, .int .i64 0, .int .i64 0, .int .i64 0, .int .i64 0, .int .i64 0]) rfl rfl (fun w => Kgd  w)) ?_;refine TL.gu ?_;refine TL.vw rfl ((Kac (v := .bool (!r.noAns)) rfl rfl rfl (fun w => (KgI _ _ _ _ _ _ _ _ _ _ _ _ w).trans (by unfold Rs.noAns; rfl)))) (fun h70 => ?_) (fun h70 => ?_)
  ·refine TL.rn 2 rfl (zE ?_);exact TX.jd (⟨true, by simp_all⟩) (fun w1 hw => hw)
  refine TL.rn 2 rfl (zE ?_);exact TX.jd (⟨false, by simp_all⟩) (fun w1 hw => hw)
 rintro ⟨b3, hb3⟩;dsimp only at hb3 ⊢;refine TC.split (t := b3) rfl (fun c56 => ?_) (fun c56 => ?_)
 ·refine zSG (TL.as_ ?_);refine zET (zr (zRR ?_));exact Kc Tryz.results120 rfl (fun w1 hw => ⟨congrArg (fun z : Int => Ending.returned (Value.int .i64 z)) (KiF hb1 hb2 hb3 (by assumption) (by assumption) (by assumption)), hw.bel⟩)
 refine TC.join (α := {b : Bool // b = true ↔ r.ans = true /\ ¬ r.ansOk}) (fun y => [(1, .pointer (some ⟨g1, 0, none⟩)), (2, .int .i64 0), (3, .pointer (some ⟨g3, 0, none⟩)), (72, .bool y.1)]) (fun y => Pm w [.blk g3 63 [.int .u32 r.src, .int .i64 r.kind, .int .i64 r.code, .int .i64 r.left, .int .i64 r.id, .int .i64 r.quo], .blk g1 65 r.cells]) ?_ ?_
 ·refine zG (TL.v (gF Kar) ?_);refine TL.vw rfl (gL 1 Kaf) (fun h74 => ?_) (fun h74 => ?_)
  ·refine TL.mv ?_;refine TL.ov (gF KbG) ?_;refine TL.ov (gL 0 Kb) ?_;refine TL.gu ?_;refine TL.sp Kk (fun q78 => ?_) (fun q78 => ?_)
   ·refine TL.rn 31 rfl (zE ?_);exact TX.jd (⟨true, ⟨fun _ => ⟨by assumption, by unfold Rs.ansOk; omega⟩, fun _ => rfl⟩⟩) (fun w1 hw => hw)
   refine TL.rn 1 rfl (TL.ov (gF KbG) ?_);refine TL.ov (gL 0 Kb) ?_;refine TL.gu ?_;refine TL.sp KK (fun q82 => ?_) (fun q82 => ?_)
   ·refine TL.rn 27 rfl (zE ?_);exact TX.jd (⟨true, ⟨fun _ => ⟨by assumption, by unfold Rs.ansOk; omega⟩, fun _ => rfl⟩⟩) (fun w1 hw => hw)
   refine TL.rn 2 rfl (TL.ov (gF Kdx) ?_);refine TL.ov (gL 0 Kb) ?_;refine TL.gu ?_;refine TL.pS rfl Kcq (fun w1 hw => Kcg r.code 255 w1) (fun h87 => ?_) (fun h87 => ?_)
   ·have q87 := of_decide_eq_true h87;refine TL.rn 3 rfl (TL.ov (gF KdE) ?_);refine TL.ov (gL 0 Kb) ?_;refine TL.gu ?_;refine TL.pS rfl Kcq (fun w1 hw => Kcg r.left 255 w1) (fun h93 => ?_) (fun h93 => ?_)
    ·have q93 := of_decide_eq_true h93;refine TL.rn 3 rfl (TL.ov (gF Kdy) ?_);refine TL.ov (gL 0 Kb) ?_;refine TL.gu ?_;refine TL.pS rfl Kcq (fun w1 hw => Kcg r.quo 255 w1) (fun h99 => ?_) (fun h99 => ?_)
     ·have q99 := of_decide_eq_true h99;refine TL.rn 3 rfl (TL.ov (gF Kb8) ?_);refine TL.ov (gL 0 Kb) ?_;refine TL.gu ?_;refine TL.pS rfl Kcq (fun w1 hw => Kcg r.id 65535 w1) (fun h105 => ?_) (fun h105 => ?_)
      ·have q105 := of_decide_eq_true h105;refine TL.rn 4 rfl (zE ?_);exact TX.jd (⟨false, ⟨fun h => (by cases h), fun h => absurd (show r.ansOk from by unfold Rs.ansOk; omega) h.2⟩⟩) (fun w1 hw => hw)
      have q105 := of_decide_eq_false h105;refine TL.rn 4 rfl (zE ?_);exact TX.jd (⟨true, ⟨fun _ => ⟨by assumption, by unfold Rs.ansOk; omega⟩, fun _ => rfl⟩⟩) (fun w1 hw => hw)
     have q99 := of_decide_eq_false h99;refine TL.rn 10 rfl (zE ?_);exact TX.jd (⟨true, ⟨fun _ => ⟨by assumption, by unfold Rs.ansOk; omega⟩, fun _ => rfl⟩⟩) (fun w1 hw => hw)
    have q93 := of_decide_eq_false h93;refine TL.rn 16 rfl (zE ?_);exact TX.jd (⟨true, ⟨fun _ => ⟨by assumption, by unfold Rs.ansOk; omega⟩, fun _ => rfl⟩⟩) (fun w1 hw => hw)
   have q87 := of_decide_eq_false h87;refine TL.rn 22 rfl (zE ?_);exact TX.jd (⟨true, ⟨fun _ => ⟨by assumption, by unfold Rs.ansOk; omega⟩, fun _ => rfl⟩⟩) (fun w1 hw => hw)
  refine TL.rn 5 rfl ?_;refine TL.offU rfl rfl rfl rfl rfl ?_;refine TL.offU rfl rfl rfl rfl rfl ?_;refine TL.offU rfl rfl rfl rfl rfl ?_;refine TL.rn 2 rfl ?_;refine TL.offU rfl rfl rfl rfl rfl ?_;refine TL.offU rfl rfl rfl rfl rfl ?_;refine TL.offU rfl rfl rfl rfl rfl ?_;refine TL.offU rfl rfl rfl rfl rfl ?_;refine TL.rn 2 rfl ?_;refine TL.offU rfl rfl rfl rfl rfl ?_;refine TL.offU rfl rfl rfl rfl rfl ?_;refine TL.offU rfl rfl rfl rfl rfl ?_;refine TL.offU rfl rfl rfl rfl rfl ?_;refine TL.rn 2 rfl ?_;refine TL.offU rfl rfl rfl rfl rfl ?_;refine TL.offU rfl rfl rfl rfl rfl ?_;refine TL.offU rfl rfl rfl rfl rfl ?_;refine TL.offU rfl rfl rfl rfl rfl ?_;refine TL.rn 2 rfl ?_;refine TL.offU rfl rfl rfl rfl rfl ?_;refine TL.offU rfl rfl rfl rfl rfl ?_;refine TL.offU rfl rfl rfl rfl rfl ?_;refine TL.offU rfl rfl rfl rfl rfl ?_;refine TL.rn 3 rfl (zE ?_);exact TX.jd (⟨false, ⟨fun h => (by cases h), fun h => (by simp_all)⟩⟩) (fun w1 hw => hw)
 rintro ⟨b4, hb4⟩;dsimp only at hb4 ⊢;refine TC.split (t := b4) rfl (fun c72 => ?_) (fun c72 => ?_)
 ·refine zSG (TL.as_ ?_);refine zET (zr (zRR ?_));exact Kc Tryz.results120 rfl (fun w1 hw => ⟨congrArg (fun z : Int => Ending.returned (Value.int .i64 z)) ((by first | exact KfD hb1 hb2 hb3 hb4 (by assumption) (by assumption) (by assumption) (by assumption) | exact KeQ hb1 (by assumption))), hw.bel⟩)
 refine zk (zN (zT (zSG ?_)));refine TL.as_ ?_;refine zET (zr ?_);exact Kc Tryz.results120 rfl (fun w1 hw => ⟨congrArg (fun z : Int => Ending.returned (Value.int .i64 z)) (Kj7 hb1 hb2 hb3 hb4 (by assumption) (by assumption) (by assumption) (by assumption)), hw.bel⟩)
set_option maxRecDepth 20000
theorem Kmy (r : Rs) (w : World) :
  Calls Tryz.prog 121 #[.agg r.cells.toArray] w fun e w' => e = .returned (.int .i64 (KaL r)) /\ Below w.heap.size w w' := by
 refine Kh Tryz.func121 rfl rfl rfl ?_ (Pm.start w);refine zSG ?_;refine TL.bx fun g1 => ?_;refine TL.as_ ?_;refine zET (zS ?_);refine TC.join (α := {b : Bool // b = true ↔ ¬ r.inRange}) (fun y => [(1, .pointer (some ⟨g1, 0, none⟩)), (2, .int .i64 0), (61, .bool y.1)]) (fun y => Pm w [.blk g1 65 r.cells]) ?_ ?_
 ·refine zG (TL.v (gF Kb0) ?_);refine TL.v (gL 0 Kb) ?_;refine TL.v (gF Kcx) ?_;refine TL.v (gL 0 Kb) ?_;refine TL.pS rfl Kpq (fun w1 hw => Kk3 r.v r.run w1) (fun h8 => ?_) (fun h8 => ?_)
  ·have q8 := of_decide_eq_true h8;refine TL.rn 2 rfl (TL.ov (gF KbQ) ?_);refine TL.ov (gL 0 Kb) ?_;refine TL.gu ?_;refine TL.sp Kk (fun q13 => ?_) (fun q13 => ?_)
   ·refine TL.rn 48 rfl (zE ?_);exact TX.jd (⟨true, ⟨fun _ => by unfold Rs.inRange; omega, fun _ => rfl⟩⟩) (fun w1 hw => hw)
   refine TL.rn 2 rfl (TL.ov (gF KbQ) ?_);refine TL.ov (gL 0 Kb) ?_;refine TL.gu ?_;refine TL.sp K3 (fun q18 => ?_) (fun q18 => ?_)
   ·refine TL.rn 43 rfl (zE ?_);exact TX.jd (⟨true, ⟨fun _ => by unfold Rs.inRange; omega, fun _ => rfl⟩⟩) (fun w1 hw => hw)
   refine TL.rn 2 rfl (TL.ov (gF Kal) ?_);refine TL.ov (gL 0 Kb) ?_;refine TL.gu ?_;refine TL.sp Kk (fun q23 => ?_) (fun q23 => ?_)
   ·refine TL.rn 38 rfl (zE ?_);exact TX.jd (⟨true, ⟨fun _ => by unfold Rs.inRange; omega, fun _ => rfl⟩⟩) (fun w1 hw => hw)
   refine TL.rn 2 rfl (TL.ov (gF Kal) ?_);refine TL.ov (gL 0 Kb) ?_;refine TL.gu ?_;refine TL.sp KK (fun q28 => ?_) (fun q28 => ?_)
   ·refine TL.rn 33 rfl (zE ?_);exact TX.jd (⟨true, ⟨fun _ => by unfold Rs.inRange; omega, fun _ => rfl⟩⟩) (fun w1 hw => hw)
   refine TL.rn 2 rfl (TL.ov (gF Kao) ?_);refine TL.ov (gL 0 Kb) ?_;refine TL.ov (gF Kal) ?_;refine TL.ov (gL 0 Kb) ?_;refine TL.gu ?_;refine TL.sp Kk (fun q35 => ?_) (fun q35 => ?_)
   ·refine TL.rn 26 rfl (zE ?_);exact TX.jd (⟨true, ⟨fun _ => by unfold Rs.inRange; omega, fun _ => rfl⟩⟩) (fun w1 hw => hw)
   refine TL.rn 2 rfl (TL.ov (gF Kao) ?_);refine TL.ov (gL 0 Kb) ?_;refine TL.gu ?_;refine TL.sp KK (fun q40 => ?_) (fun q40 => ?_)
   ·refine TL.rn 21 rfl (zE ?_);exact TX.jd (⟨true, ⟨fun _ => by unfold Rs.inRange; omega, fun _ => rfl⟩⟩) (fun w1 hw => hw)
   refine TL.rn 2 rfl (TL.ov (gF Kbq) ?_);refine TL.ov (gL 0 Kb) ?_;refine TL.gu ?_;refine TL.sp Kk (fun q45 => ?_) (fun q45 => ?_)
   ·refine TL.rn 16 rfl (zE ?_);exact TX.jd (⟨true, ⟨fun _ => by unfold Rs.inRange; omega, fun _ => rfl⟩⟩) (fun w1 hw => hw)
   refine TL.rn 2 rfl (TL.ov (gF Kbq) ?_);refine TL.ov (gL 0 Kb) ?_;refine TL.gu ?_;refine TL.sp KK (fun q50 => ?_) (fun q50 => ?_)
   ·refine TL.rn 11 rfl (zE ?_);exact TX.jd (⟨true, ⟨fun _ => by unfold Rs.inRange; omega, fun _ => rfl⟩⟩) (fun w1 hw => hw)
   refine TL.rn 2 rfl (TL.ov (gF Kas) ?_);refine TL.ov (gL 0 Kb) ?_;refine TL.gu ?_;refine TL.sp Kk (fun q55 => ?_) (fun q55 => ?_)
   ·refine TL.rn 6 rfl (zE ?_);exact TX.jd (⟨true, ⟨fun _ => by unfold Rs.inRange; omega, fun _ => rfl⟩⟩) (fun w1 hw => hw)
   refine TL.rn 2 rfl (TL.ov (gF Kas) ?_);refine TL.ov (gL 0 Kb) ?_;refine TL.gu ?_;refine TL.sp KK (fun q60 => ?_) (fun q60 => ?_)
   ·refine TL.pk ?_;refine zE ?_;exact TX.jd (⟨true, ⟨fun _ => by unfold Rs.inRange; omega, fun _ => rfl⟩⟩) (fun w1 hw => hw)
   refine TL.pk ?_;refine zE ?_;exact TX.jd (⟨false, ⟨fun h => (by cases h), fun h => absurd h (by unfold Rs.inRange; omega)⟩⟩) (fun w1 hw => hw)
  have q8 := of_decide_eq_false h8;refine TL.rn 53 rfl (zE ?_);exact TX.jd (⟨true, ⟨fun _ => by unfold Rs.inRange; omega, fun _ => rfl⟩⟩) (fun w1 hw => hw)
 rintro ⟨b1, hb1⟩;dsimp only at hb1 ⊢;refine TC.split (t := b1) rfl (fun c61 => ?_) (fun c61 => ?_)
 ·refine zSG (TL.as_ ?_);refine zET (zr (zR ?_));exact Kc Tryz.results121 rfl (fun w1 hw => ⟨congrArg (fun z : Int => Ending.returned (Value.int .i64 z)) ((by first | exact KfD hb1 hb2 hb3 hb4 (by assumption) (by assumption) (by assumption) (by assumption) | exact KeQ hb1 (by assumption))), hw.bel⟩)
 refine zk (zT (zS ?_));refine TC.join (α := {b : Bool // b = true ↔ ¬ (r.proto = 1 \/ r.proto = 6 \/ r.proto = 17)}) (fun y => [(1, .pointer (some ⟨g1, 0, none⟩)), (2, .int .i64 0), (74, .bool y.1)]) (fun y => Pm w [.blk g1 65 r.cells]) ?_ ?_
 ·refine zG (TL.v (gF KbI) ?_);refine TL.v (gL 0 Kb) ?_;refine TL.sp K5 (fun q64 => ?_) (fun q64 => ?_)
  ·refine TL.mv ?_;refine TL.ov (gF KbI) ?_;refine TL.ov (gL 0 Kb) ?_;refine TL.gu ?_;refine TL.sp K5 (fun q68 => ?_) (fun q68 => ?_)
   ·refine TL.rn 2 rfl (TL.ov (gF KbI) ?_);refine TL.ov (gL 0 Kb) ?_;refine TL.gu ?_;refine TL.sp K5 (fun q73 => ?_) (fun q73 => ?_)
    ·refine TL.pk ?_;refine zE ?_;exact TX.jd (⟨true, ⟨fun _ => by omega, fun _ => rfl⟩⟩) (fun w1 hw => hw)
    refine TL.pk ?_;refine zE ?_;exact TX.jd (⟨false, ⟨fun h => (by cases h), fun h => absurd h (by omega)⟩⟩) (fun w1 hw => hw)
   refine TL.rn 6 rfl (zE ?_);exact TX.jd (⟨false, ⟨fun h => (by cases h), fun h => absurd h (by omega)⟩⟩) (fun w1 hw => hw)
  refine TL.rn 10 rfl (zE ?_);exact TX.jd (⟨false, ⟨fun h => (by cases h), fun h => absurd h (by omega)⟩⟩) (fun w1 hw => hw)
 rintro ⟨b2, hb2⟩;dsimp only at hb2 ⊢;refine TC.split (t := b2) rfl (fun c74 => ?_) (fun c74 => ?_)
 ·refine zSG (TL.as_ ?_);refine zET (zr (zR ?_));exact Kc Tryz.results121 rfl (fun w1 hw => ⟨congrArg (fun z : Int => Ending.returned (Value.int .i64 z)) (KhV hb1 hb2 (by assumption) (by assumption)), hw.bel⟩)
 refine zk (zT (zSG ?_));refine TL.v (gF KP) ?_;refine TL.v (gV 0 (.agg #[.int .u32 r.src, .int .i64 r.kind, .int .i64 r.code, .int .i64 r.left, .int .i64 r.id, .int .i64 r.quo]) Kd3 Kcp) ?_;refine TL.al Kkv fun g3 => ?_;refine TL.ps 0 Kcp ?_;refine zET (zS ?_);refine TC.join (α := {b : Bool // b = true ↔ (r.dbl = true /\ r.ans = false) \/ (r.ans = false /\ r.noAns = false)}) (fun y => [(1, .pointer (some ⟨g1, 0, none⟩)), (2, .int .i64 0), (3, .pointer (some ⟨g3, 0, none⟩)), (88, .bool y.1)]) (fun y => Pm w [.blk g3 63 [.int .u32 r.src, .int .i64 r.kind, .int .i64 r.code, .int .i64 r.left, .int .i64 r.id, .int .i64 r.quo], .blk g1 65 r.cells]) ?_ ?_
 ·refine zG (TL.v (gF Kar) ?_);refine TL.vw rfl (gL 1 Kaf) (fun h78 => ?_) (fun h78 => ?_)
  ·refine TL.rn 5 rfl ?_;refine TL.offU rfl rfl rfl rfl rfl ?_;refine TL.offU rfl rfl rfl rfl rfl ?_;refine TL.offU rfl rfl rfl rfl rfl ?_;refine TL.rn 2 rfl (zE ?_);exact TX.jd (⟨false, by simp_all⟩) (fun w1 hw => hw)
  refine TL.rn 2 rfl (TL.ov (gF KbA) ?_);refine TL.gu ?_;refine TL.vw rfl (gL 1 Kaf) (fun h82 => ?_) (fun h82 => ?_)
  ·refine TL.rn 6 rfl (zE ?_);exact TX.jd (⟨true, by simp_all⟩) (fun w1 hw => hw)
  refine TL.rn 1 rfl (TL.ov (gV 0 (.agg #[.int .u32 r.src, .int .i64 r.kind, .int .i64 r.code, .int .i64 r.left, .int .i64 r.id, .int .i64 r.quo]) Kd3 Kcp) ?_);refine TL.gu ?_;refine TL.w rfl (Kt (v := .agg #[.int .u32 0, .int .i64 0, .int .i64 0, .int .i64 0, .int .i64 0, .int .i64 0]) rfl rfl (fun w => Kgd  w)) ?_;refine TL.gu ?_;refine TL.vw rfl ((Kac (v := .bool (!r.noAns)) rfl rfl rfl (fun w => (KgI _ _ _ _ _ _ _ _ _ _ _ _ w).trans (by unfold Rs.noAns; rfl)))) (fun h86 => ?_) (fun h86 => ?_)
  ·refine TL.rn 2 rfl (zE ?_);exact TX.jd (⟨true, by simp_all⟩) (fun w1 hw => hw)
  refine TL.rn 2 rfl (zE ?_);exact TX.jd (⟨false, by simp_all⟩) (fun w1 hw => hw)
 rintro ⟨b3, hb3⟩;dsimp only at hb3 ⊢;refine TC.split (t := b3) rfl (fun c88 => ?_) (fun c88 => ?_)
 ·refine zSG (TL.as_ ?_);refine zET (zr (zR ?_));exact Kc Tryz.results121 rfl (fun w1 hw => ⟨congrArg (fun z : Int => Ending.returned (Value.int .i64 z)) (KiF hb1 hb2 hb3 (by assumption) (by assumption) (by assumption)), hw.bel⟩)
 refine zk (zT (zS ?_));refine TC.join (α := {b : Bool // b = true ↔ r.ans = true /\ ¬ r.ansOk}) (fun y => [(1, .pointer (some ⟨g1, 0, none⟩)), (2, .int .i64 0), (3, .pointer (some ⟨g3, 0, none⟩)), (128, .bool y.1)]) (fun y => Pm w [.blk g3 63 [.int .u32 r.src, .int .i64 r.kind, .int .i64 r.code, .int .i64 r.left, .int .i64 r.id, .int .i64 r.quo], .blk g1 65 r.cells]) ?_ ?_
 ·refine zG (TL.v (gF Kar) ?_);refine TL.vw rfl (gL 1 Kaf) (fun h90 => ?_) (fun h90 => ?_)
  ·refine TL.mv ?_;refine TL.ov (gF KbG) ?_;refine TL.ov (gL 0 Kb) ?_;refine TL.gu ?_;refine TL.sp Kk (fun q94 => ?_) (fun q94 => ?_)
   ·refine TL.rn 34 rfl (zE ?_);exact TX.jd (⟨true, ⟨fun _ => ⟨by assumption, by unfold Rs.ansOk; omega⟩, fun _ => rfl⟩⟩) (fun w1 hw => hw)
   refine TL.rn 1 rfl (TL.ov (gF KbG) ?_);refine TL.ov (gL 0 Kb) ?_;refine TL.gu ?_;refine TL.sp KK (fun q98 => ?_) (fun q98 => ?_)
   ·refine TL.rn 30 rfl (zE ?_);exact TX.jd (⟨true, ⟨fun _ => ⟨by assumption, by unfold Rs.ansOk; omega⟩, fun _ => rfl⟩⟩) (fun w1 hw => hw)
   refine TL.rn 2 rfl (TL.ov (gF Kdx) ?_);refine TL.ov (gL 0 Kb) ?_;refine TL.gu ?_;refine TL.pS rfl KgE (fun w1 hw => KfS r.code w1) (fun h103 => ?_) (fun h103 => ?_)
   ·have q103 := of_decide_eq_true h103;refine TL.rn 3 rfl (TL.ov (gF KdE) ?_);refine TL.ov (gL 0 Kb) ?_;refine TL.gu ?_;refine TL.pS rfl KgE (fun w1 hw => KfS r.left w1) (fun h109 => ?_) (fun h109 => ?_)
    ·have q109 := of_decide_eq_true h109;refine TL.rn 3 rfl (TL.ov (gF Kdy) ?_);refine TL.ov (gL 0 Kb) ?_;refine TL.gu ?_;refine TL.pS rfl KgE (fun w1 hw => KfS r.quo w1) (fun h115 => ?_) (fun h115 => ?_)
     ·have q115 := of_decide_eq_true h115;refine TL.rn 3 rfl (TL.ov (gF Kb8) ?_);refine TL.ov (gL 0 Kb) ?_;refine TL.gu ?_;refine TL.sp Kk (fun q121 => ?_) (fun q121 => ?_)
      ·refine TL.rn 7 rfl (zE ?_);exact TX.jd (⟨true, ⟨fun _ => ⟨by assumption, by unfold Rs.ansOk; omega⟩, fun _ => rfl⟩⟩) (fun w1 hw => hw)
      refine TL.rn 2 rfl (TL.ov (gF Kb8) ?_);refine TL.ov (gL 0 Kb) ?_;refine TL.gu ?_;refine TL.sp KK (fun q126 => ?_) (fun q126 => ?_)
      ·refine TL.rn 2 rfl (zE ?_);exact TX.jd (⟨true, ⟨fun _ => ⟨by assumption, by unfold Rs.ansOk; omega⟩, fun _ => rfl⟩⟩) (fun w1 hw => hw)
      refine TL.rn 2 rfl (zE ?_);exact TX.jd (⟨false, ⟨fun h => (by cases h), fun h => absurd (show r.ansOk from by unfold Rs.ansOk; omega) h.2⟩⟩) (fun w1 hw => hw)
     have q115 := of_decide_eq_false h115;refine TL.rn 13 rfl (zE ?_);exact TX.jd (⟨true, ⟨fun _ => ⟨by assumption, by unfold Rs.ansOk; omega⟩, fun _ => rfl⟩⟩) (fun w1 hw => hw)
    have q109 := of_decide_eq_false h109;refine TL.rn 19 rfl (zE ?_);exact TX.jd (⟨true, ⟨fun _ => ⟨by assumption, by unfold Rs.ansOk; omega⟩, fun _ => rfl⟩⟩) (fun w1 hw => hw)
   have q103 := of_decide_eq_false h103;refine TL.rn 25 rfl (zE ?_);exact TX.jd (⟨true, ⟨fun _ => ⟨by assumption, by unfold Rs.ansOk; omega⟩, fun _ => rfl⟩⟩) (fun w1 hw => hw)
  refine TL.rn 5 rfl ?_;refine TL.offU rfl rfl rfl rfl rfl ?_;refine TL.offU rfl rfl rfl rfl rfl ?_;refine TL.offU rfl rfl rfl rfl rfl ?_;refine TL.rn 2 rfl ?_;refine TL.offU rfl rfl rfl rfl rfl ?_;refine TL.offU rfl rfl rfl rfl rfl ?_;refine TL.offU rfl rfl rfl rfl rfl ?_;refine TL.offU rfl rfl rfl rfl rfl ?_;refine TL.rn 2 rfl ?_;refine TL.offU rfl rfl rfl rfl rfl ?_;refine TL.offU rfl rfl rfl rfl rfl ?_;refine TL.offU rfl rfl rfl rfl rfl ?_;refine TL.offU rfl rfl rfl rfl rfl ?_;refine TL.rn 2 rfl ?_;refine TL.offU rfl rfl rfl rfl rfl ?_;refine TL.offU rfl rfl rfl rfl rfl ?_;refine TL.offU rfl rfl rfl rfl rfl ?_;refine TL.offU rfl rfl rfl rfl rfl ?_;refine TL.rn 2 rfl ?_;refine TL.offU rfl rfl rfl rfl rfl ?_;refine TL.offU rfl rfl rfl rfl rfl ?_;refine TL.offU rfl rfl rfl rfl rfl ?_;refine TL.rn 2 rfl ?_;refine TL.offU rfl rfl rfl rfl rfl ?_;refine TL.offU rfl rfl rfl rfl rfl ?_;refine TL.offU rfl rfl rfl rfl rfl ?_;refine TL.rn 2 rfl (zE ?_);exact TX.jd (⟨false, ⟨fun h => (by cases h), fun h => (by simp_all)⟩⟩) (fun w1 hw => hw)
 rintro ⟨b4, hb4⟩;dsimp only at hb4 ⊢;refine TC.split (t := b4) rfl (fun c128 => ?_) (fun c128 => ?_)
 ·refine zSG (TL.as_ ?_);refine zET (zr (zR ?_));exact Kc Tryz.results121 rfl (fun w1 hw => ⟨congrArg (fun z : Int => Ending.returned (Value.int .i64 z)) ((by first | exact KfD hb1 hb2 hb3 hb4 (by assumption) (by assumption) (by assumption) (by assumption) | exact KeQ hb1 (by assumption))), hw.bel⟩)
 refine zk (zT (zSG ?_));refine TL.as_ ?_;refine zET (zr ?_);exact Kc Tryz.results121 rfl (fun w1 hw => ⟨congrArg (fun z : Int => Ending.returned (Value.int .i64 z)) (Kj7 hb1 hb2 hb3 hb4 (by assumption) (by assumption) (by assumption) (by assumption)), hw.bel⟩)
set_option maxRecDepth 20000
theorem Ke : Cel Rs.cells 17 := ⟨fun _ => rfl, fun x u hu => by
 simp only [Rs.cells, List.mem_cons, List.not_mem_nil, or_false] at hu;rcases hu with rfl | rfl | rfl | rfl | rfl | rfl | rfl | rfl | rfl | rfl | rfl | rfl | rfl | rfl | rfl | rfl | rfl <;> rfl⟩
def Km (r : Rs) : Bool := decide (KaL r = 0) && decide (r.dst ≠ 0) && (!r.ans || decide (r.src ≠ 0))
def KM (r : Rs) : Bool := !r.dbl && Km r
def Kan (r : Rs) : Bool := r.ans && decide (r.kind ≠ 1) && KM r
def b2i (b : Bool) : Int := if b then 1 else 0
def Rs.keys (a : Rs) : List Int := [a.at_, a.v, a.run, a.num, IntKind.i64.wrap a.dst, a.proto, a.flow, a.ttl, b2i a.ans, b2i a.dbl, a.back, IntKind.i64.wrap a.src, a.kind, a.code, a.left, a.id, a.quo]
def Ka4 (a b : Rs) : Int := KI a.keys b.keys
def Kbm (a b : Rs) : List (Int × Int) := [(a.at_, b.at_), (a.v, b.v), (a.run, b.run), (a.num, b.num), (IntKind.i64.wrap a.dst, IntKind.i64.wrap b.dst), (a.proto, b.proto), (a.flow, b.flow), (a.ttl, b.ttl), (b2i a.ans, b2i b.ans), (b2i a.dbl, b2i b.dbl), (a.back, b.back), (IntKind.i64.wrap a.src, IntKind.i64.wrap b.src), (a.kind, b.kind), (a.code, b.code), (a.left, b.left), (a.id, b.id), (a.quo, b.quo)]
def Kbx (a b : Rs) : List (Int × Int) := [(a.at_, b.at_), (a.v, b.v), (a.run, b.run), (a.num, b.num), (IntKind.i64.wrap a.dst, IntKind.i64.wrap b.dst), (a.proto, b.proto), (a.flow, b.flow), (a.ttl, b.ttl), (b2i a.ans, b2i b.ans), (b2i a.dbl, b2i b.dbl), (a.back, b.back), (IntKind.i64.wrap a.src, IntKind.i64.wrap b.src), (a.kind, b.kind), (a.code, b.code), (a.left, b.left), (a.id, b.id)]
def orP (l : List (Int × Int)) : Int := orI (l.map fun p => Kl p.1 p.2)
theorem KdP (p : Int × Int) (l : List (Int × Int)) : orP (p :: l) = if Kl p.1 p.2 = 0 then orP l else Kl p.1 p.2 := rfl
theorem KgF (a b : Rs) : Ka4 a b = orP (Kbm a b) := rfl
theorem Kj6 (a b : Rs) : Ka4 a b = if orP (Kbx a b) = 0 then Kl a.quo b.quo else orP (Kbx a b) := by
 rw [KgF, show Kbm a b = Kbx a b ++ [(a.quo, b.quo)] from rfl, orP, List.map_append];exact KlX _ _
theorem Km2 (a b : Rs) (h : orP (Kbx a b) ≠ 0) : Ka4 a b = orP (Kbx a b) := by rw [Kj6, if_neg h]
theorem Kl8 (a b : Rs) (h : orP (Kbx a b) = 0) : Ka4 a b = Kl a.quo b.quo := by rw [Kj6, if_pos h]
def Kq (r : Rs) : Idn := ⟨r.v, r.run, r.num⟩
def KC (r : Rs) : Trc := ⟨r.v, r.dst, r.proto⟩
theorem Kis (w : World) : (isAgg 120).run Tryz.prog w = .ok true w := rfl
theorem Kei (w : World) : (sizeOf 120).run Tryz.prog w = .ok 2 w := rfl
theorem Ku (w : World) : (isAgg 65).run Tryz.prog w = .ok true w := rfl
theorem Kd (w : World) : (sizeOf 65).run Tryz.prog w = .ok 17 w := rfl
theorem Kcs : FA Tryz.prog 65 4 4 := fun g o w => by kernel_rfl
theorem KbC : FA Tryz.prog 63 0 0 := fun g o w => by kernel_rfl
theorem K8 (a0_0 : Int) (a1_0 : Int) (w : World) : (Instr.build 120 #[(0, .int .i64 a0_0), (1, .int .i64 a1_0)]).run Tryz.prog w = .ok (.agg #[.int .i64 a0_0, .int .i64 a1_0]) w := by kernel_rfl
theorem Kos (a0_0 : Int) (a0_1 : Int) (a1_0 : Int) (a1_1 : Int) (a2_0 : Int) (a2_1 : Int) (a3_0 : Int) (a3_1 : Int) (a4_0 : Int) (a4_1 : Int) (a5_0 : Int) (a5_1 : Int) (a6_0 : Int) (a6_1 : Int) (a7_0 : Int) (a7_1 : Int) (a8_0 : Int) (a8_1 : Int) (a9_0 : Int) (a9_1 : Int) (a10_0 : Int) (a10_1 : Int) (a11_0 : Int) (a11_1 : Int) (a12_0 : Int) (a12_1 : Int) (a13_0 : Int) (a13_1 : Int) (a14_0 : Int) (a14_1 : Int) (a15_0 : Int) (a15_1 : Int) (a16_0 : Int) (a16_1 : Int) (w : World) : (Instr.build 188 #[(0, .agg #[.int .i64 a0_0, .int .i64 a0_1]), (1, .agg #[.int .i64 a1_0, .int .i64 a1_1]), (2, .agg #[.int .i64 a2_0, .int .i64 a2_1]), (3, .agg #[.int .i64 a3_0, .int .i64 a3_1]), (4, .agg #[.int .i64 a4_0, .int .i64 a4_1]), (5, .agg #[.int .i64 a5_0, .int .i64 a5_1]), (6, .agg #[.int .i64 a6_0, .int .i64 a6_1]), (7, .agg #[.int .i64 a7_0, .int .i64 a7_1]), (8, .agg #[.int .i64 a8_0, .int .i64 a8_1]), (9, .agg #[.int .i64 a9_0, .int .i64 a9_1]), (10, .agg #[.int .i64 a10_0, .int .i64 a10_1]), (11, .agg #[.int .i64 a11_0, .int .i64 a11_1]), (12, .agg #[.int .i64 a12_0, .int .i64 a12_1]), (13, .agg #[.int .i64 a13_0, .int .i64 a13_1]), (14, .agg #[.int .i64 a14_0, .int .i64 a14_1]), (15, .agg #[.int .i64 a15_0, .int .i64 a15_1]), (16, .agg #[.int .i64 a16_0, .int .i64 a16_1])]).run Tryz.prog w = .ok (.agg #[.int .i64 a0_0, .int .i64 a0_1, .int .i64 a1_0, .int .i64 a1_1, .int .i64 a2_0, .int .i64 a2_1, .int .i64 a3_0, .int .i64 a3_1, .int .i64 a4_0, .int .i64 a4_1, .int .i64 a5_0, .int .i64 a5_1, .int .i64 a6_0, .int .i64 a6_1, .int .i64 a7_0, .int .i64 a7_1, .int .i64 a8_0, .int .i64 a8_1, .int .i64 a9_0, .int .i64 a9_1, .int .i64 a10_0, .int .i64 a10_1, .int .i64 a11_0, .int .i64 a11_1, .int .i64 a12_0, .int .i64 a12_1, .int .i64 a13_0, .int .i64 a13_1, .int .i64 a14_0, .int .i64 a14_1, .int .i64 a15_0, .int .i64 a15_1, .int .i64 a16_0, .int .i64 a16_1]) w := by kernel_rfl
theorem Knl (w : World) : (zeroValue 188).run Tryz.prog w = .ok (.agg #[.int .i64 0, .int .i64 0, .int .i64 0, .int .i64 0, .int .i64 0, .int .i64 0, .int .i64 0, .int .i64 0, .int .i64 0, .int .i64 0, .int .i64 0, .int .i64 0, .int .i64 0, .int .i64 0, .int .i64 0, .int .i64 0, .int .i64 0, .int .i64 0, .int .i64 0, .int .i64 0, .int .i64 0, .int .i64 0, .int .i64 0, .int .i64 0, .int .i64 0, .int .i64 0, .int .i64 0, .int .i64 0, .int .i64 0, .int .i64 0, .int .i64 0, .int .i64 0, .int .i64 0, .int .i64 0]) w := rfl
theorem Kkc (w : World) : (sizeOf 188).run Tryz.prog w = .ok 34 w := rfl
theorem KmO (w : World) : (isAgg 188).run Tryz.prog w = .ok true w := rfl
theorem KfY (w : World) : (zeroValue 120).run Tryz.prog w = .ok (.agg #[.int .i64 0, .int .i64 0]) w := rfl
theorem Km3 (a0_0 : Int) (a0_1 : Int) (a1_0 : Int) (a1_1 : Int) (a2_0 : Int) (a2_1 : Int) (a3_0 : Int) (a3_1 : Int) (a4_0 : Int) (a4_1 : Int) (a5_0 : Int) (a5_1 : Int) (a6_0 : Int) (a6_1 : Int) (a7_0 : Int) (a7_1 : Int) (a8_0 : Int) (a8_1 : Int) (a9_0 : Int) (a9_1 : Int) (a10_0 : Int) (a10_1 : Int) (a11_0 : Int) (a11_1 : Int) (a12_0 : Int) (a12_1 : Int) (a13_0 : Int) (a13_1 : Int) (a14_0 : Int) (a14_1 : Int) (a15_0 : Int) (a15_1 : Int) (w : World) : (Instr.build 201 #[(0, .agg #[.int .i64 a0_0, .int .i64 a0_1]), (1, .agg #[.int .i64 a1_0, .int .i64 a1_1]), (2, .agg #[.int .i64 a2_0, .int .i64 a2_1]), (3, .agg #[.int .i64 a3_0, .int .i64 a3_1]), (4, .agg #[.int .i64 a4_0, .int .i64 a4_1]), (5, .agg #[.int .i64 a5_0, .int .i64 a5_1]), (6, .agg #[.int .i64 a6_0, .int .i64 a6_1]), (7, .agg #[.int .i64 a7_0, .int .i64 a7_1]), (8, .agg #[.int .i64 a8_0, .int .i64 a8_1]), (9, .agg #[.int .i64 a9_0, .int .i64 a9_1]), (10, .agg #[.int .i64 a10_0, .int .i64 a10_1]), (11, .agg #[.int .i64 a11_0, .int .i64 a11_1]), (12, .agg #[.int .i64 a12_0, .int .i64 a12_1]), (13, .agg #[.int .i64 a13_0, .int .i64 a13_1]), (14, .agg #[.int .i64 a14_0, .int .i64 a14_1]), (15, .agg #[.int .i64 a15_0, .int .i64 a15_1])]).run Tryz.prog w = .ok (.agg #[.int .i64 a0_0, .int .i64 a0_1, .int .i64 a1_0, .int .i64 a1_1, .int .i64 a2_0, .int .i64 a2_1, .int .i64 a3_0, .int .i64 a3_1, .int .i64 a4_0, .int .i64 a4_1, .int .i64 a5_0, .int .i64 a5_1, .int .i64 a6_0, .int .i64 a6_1, .int .i64 a7_0, .int .i64 a7_1, .int .i64 a8_0, .int .i64 a8_1, .int .i64 a9_0, .int .i64 a9_1, .int .i64 a10_0, .int .i64 a10_1, .int .i64 a11_0, .int .i64 a11_1, .int .i64 a12_0, .int .i64 a12_1, .int .i64 a13_0, .int .i64 a13_1, .int .i64 a14_0, .int .i64 a14_1, .int .i64 a15_0, .int .i64 a15_1]) w := by kernel_rfl
theorem Kep (w : World) : (zeroValue 73).run Tryz.prog w = .ok (.agg #[.int .i64 0, .int .i64 0, .int .i64 0]) w := rfl
theorem KeV (a0_0 : Int) (a1_0 : Int) (a2_0 : Int) (w : World) : (Instr.build 73 #[(0, .int .i64 a0_0), (1, .int .i64 a1_0), (2, .int .i64 a2_0)]).run Tryz.prog w = .ok (.agg #[.int .i64 a0_0, .int .i64 a1_0, .int .i64 a2_0]) w := by kernel_rfl
theorem K9 (w : World) : (sizeOf 73).run Tryz.prog w = .ok 3 w := rfl
theorem Keq (w : World) : (zeroValue 32).run Tryz.prog w = .ok (.agg #[.int .i64 0, .int .u32 0, .int .i64 0]) w := rfl
theorem Kgb (a0_0 : Int) (a1_0 : Int) (a2_0 : Int) (w : World) : (Instr.build 32 #[(0, .int .i64 a0_0), (1, .int .u32 a1_0), (2, .int .i64 a2_0)]).run Tryz.prog w = .ok (.agg #[.int .i64 a0_0, .int .u32 a1_0, .int .i64 a2_0]) w := by kernel_rfl
theorem Kaj (w : World) : (sizeOf 32).run Tryz.prog w = .ok 3 w := rfl
theorem KcY (r : Rs) (w : World) :
  Calls Tryz.prog 70 #[.agg r.cells.toArray] w fun e w' => e = .returned (.bool (Km r)) /\ Below w.heap.size w w' := by
 refine Kh Tryz.func70 rfl rfl rfl ?_ (Pm.start w);refine zSG ?_;refine TL.bx fun g1 => ?_;refine TL.as_ ?_;refine zET (zSG (TL.v (gV 0 (.agg (r.cells).toArray) Ku Kd) ?_));refine TL.p1 rfl Kov (fun w1 hw => Koq r w1) ?_;refine TL.sp Kx (fun q5 => ?_) (fun q5 => ?_)
 ·refine TL.mv ?_;refine TL.ov (gF Kcs) ?_;refine TL.ov (gL 0 KO) ?_;refine TL.gu ?_;refine TL.sp K5 (fun q9 => ?_) (fun q9 => ?_)
  ·refine TL.rn 2 rfl (TL.ov (gF Kar) ?_);refine TL.gu ?_;refine TL.vw rfl (gL 0 Kaf) (fun h13 => ?_) (fun h13 => ?_)
   ·refine TL.rn 2 rfl (TL.ov (gF KP) ?_);refine TL.ov (gF KbC) ?_;refine TL.ov (gL 0 KO) ?_;refine TL.gu ?_;refine TL.sp K5 (fun q19 => ?_) (fun q19 => ?_)
    ·refine TL.rn 3 rfl (zET (zr ?_));have hE : (Km r) = true := (by simp [Km, q5, q9, h13, q19]);exact Kc Tryz.results70 rfl (fun w1 hw => ⟨by rw [hE]; try rfl, hw.bel⟩)
    refine TL.rn 3 rfl (zET (zr ?_));have hE : (Km r) = false := (by simp [Km, q5, q9, h13, q19]);exact Kc Tryz.results70 rfl (fun w1 hw => ⟨by rw [hE]; try rfl, hw.bel⟩)
   refine TL.rn 9 rfl (zET (zr ?_));have hE : (Km r) = true := (by simp [Km, q5, q9, h13]);exact Kc Tryz.results70 rfl (fun w1 hw => ⟨by rw [hE]; try rfl, hw.bel⟩)
  refine TL.rn 6 rfl ?_;refine TL.offU rfl rfl rfl rfl rfl ?_;refine TL.offU rfl rfl rfl rfl rfl ?_;refine TL.offU rfl rfl rfl rfl rfl ?_;refine TL.offU rfl rfl rfl rfl rfl ?_;refine TL.rn 3 rfl (zET (zr ?_));have hE : (Km r) = false := (by simp [Km, q5, q9]);exact Kc Tryz.results70 rfl (fun w1 hw => ⟨by rw [hE]; try rfl, hw.bel⟩)
 refine TL.rn 10 rfl ?_;refine TL.offU rfl rfl rfl rfl rfl ?_;refine TL.offU rfl rfl rfl rfl rfl ?_;refine TL.offU rfl rfl rfl rfl rfl ?_;refine TL.offU rfl rfl rfl rfl rfl ?_;refine TL.rn 3 rfl (zET (zr ?_));have hE : (Km r) = false := (by simp [Km, q5]);exact Kc Tryz.results70 rfl (fun w1 hw => ⟨by rw [hE]; try rfl, hw.bel⟩)
theorem KgX (r : Rs) (w : World) :
  Calls Tryz.prog 91 #[.agg r.cells.toArray] w fun e w' => e = .returned (.bool (KM r)) /\ Below w.heap.size w w' := by
 refine Kh Tryz.func91 rfl rfl rfl ?_ (Pm.start w);refine zSG ?_;refine TL.bx fun g1 => ?_;refine TL.as_ ?_;refine zET (zSG (TL.v (gF KbA) ?_));refine TL.vw rfl (gL 0 Kaf) (fun h4 => ?_) (fun h4 => ?_)
 ·refine TL.rn 6 rfl (zET (zr ?_));have hE : (KM r) = false := (by simp [KM, h4]);exact Kc Tryz.results91 rfl (fun w1 hw => ⟨by rw [hE]; try rfl, hw.bel⟩)
 refine TL.rn 2 rfl (TL.ov (gV 0 (.agg (r.cells).toArray) Ku Kd) ?_);refine TL.gu ?_;refine TL.pS rfl o70 (fun w1 hw => KcY r w1) (fun h8 => ?_) (fun h8 => ?_)
 ·refine TL.rn 2 rfl (zET (zr ?_));have hE : (KM r) = true := (by simp [KM, h4, h8]);exact Kc Tryz.results91 rfl (fun w1 hw => ⟨by rw [hE]; try rfl, hw.bel⟩)
 refine TL.rn 2 rfl (zET (zr ?_));have hE : (KM r) = false := (by simp [KM, h4, h8]);exact Kc Tryz.results91 rfl (fun w1 hw => ⟨by rw [hE]; try rfl, hw.bel⟩)
theorem Kpc (r : Rs) (w : World) :
  Calls Tryz.prog 122 #[.agg r.cells.toArray] w fun e w' => e = .returned (.bool (Kan r)) /\ Below w.heap.size w w' := by
 refine Kh Tryz.func122 rfl rfl rfl ?_ (Pm.start w);refine zSG ?_;refine TL.bx fun g1 => ?_;refine TL.as_ ?_;refine zET (zSG (TL.v (gF Kar) ?_));refine TL.vw rfl (gL 0 Kaf) (fun h4 => ?_) (fun h4 => ?_)
 ·refine TL.mv ?_;refine TL.ov (gF KP) ?_;refine TL.ov (gF KbG) ?_;refine TL.ov (gL 0 Kb) ?_;refine TL.gu ?_;refine TL.sp K5 (fun q9 => ?_) (fun q9 => ?_)
  ·refine TL.rn 2 rfl (TL.ov (gV 0 (.agg (r.cells).toArray) Ku Kd) ?_);refine TL.gu ?_;refine TL.pS rfl o91 (fun w1 hw => KgX r w1) (fun h13 => ?_) (fun h13 => ?_)
   ·refine TL.rn 2 rfl (zET (zr ?_));have hE : (Kan r) = true := (by simp [Kan, h4, q9, h13]);exact Kc Tryz.results122 rfl (fun w1 hw => ⟨by rw [hE]; try rfl, hw.bel⟩)
   refine TL.rn 2 rfl (zET (zr ?_));have hE : (Kan r) = false := (by simp [Kan, h4, q9, h13]);exact Kc Tryz.results122 rfl (fun w1 hw => ⟨by rw [hE]; try rfl, hw.bel⟩)
  refine TL.rn 6 rfl (zET (zr ?_));have hE : (Kan r) = false := (by simp [Kan, h4, q9]);exact Kc Tryz.results122 rfl (fun w1 hw => ⟨by rw [hE]; try rfl, hw.bel⟩)
 refine TL.rn 11 rfl (zET (zr ?_));have hE : (Kan r) = false := (by simp [Kan, h4]);exact Kc Tryz.results122 rfl (fun w1 hw => ⟨by rw [hE]; try rfl, hw.bel⟩)
theorem Kdl (r : Rs) (w : World) :
  Calls Tryz.prog 71 #[.agg r.cells.toArray] w fun e w' => e = .returned (.bool (Km r)) /\ Below w.heap.size w w' := by
 refine Kh Tryz.func71 rfl rfl rfl ?_ (Pm.start w);refine zSG ?_;refine TL.bx fun g1 => ?_;refine TL.as_ ?_;refine zET (zSG (TL.v (gV 0 (.agg (r.cells).toArray) Ku Kd) ?_));refine TL.p1 rfl KnG (fun w1 hw => Kmy r w1) ?_;refine TL.sp Kx (fun q5 => ?_) (fun q5 => ?_)
 ·refine TL.mv ?_;refine TL.ov (gF Kcs) ?_;refine TL.ov (gL 0 KO) ?_;refine TL.gu ?_;refine TL.sp K5 (fun q9 => ?_) (fun q9 => ?_)
  ·refine TL.rn 2 rfl (TL.ov (gF Kar) ?_);refine TL.gu ?_;refine TL.vw rfl (gL 0 Kaf) (fun h13 => ?_) (fun h13 => ?_)
   ·refine TL.rn 2 rfl (TL.ov (gF KP) ?_);refine TL.ov (gF KbC) ?_;refine TL.ov (gL 0 KO) ?_;refine TL.gu ?_;refine TL.sp K5 (fun q19 => ?_) (fun q19 => ?_)
    ·refine TL.rn 3 rfl (zET (zr ?_));have hE : (Km r) = true := (by simp [Km, q5, q9, h13, q19]);exact Kc Tryz.results71 rfl (fun w1 hw => ⟨by rw [hE]; try rfl, hw.bel⟩)
    refine TL.rn 3 rfl (zET (zr ?_));have hE : (Km r) = false := (by simp [Km, q5, q9, h13, q19]);exact Kc Tryz.results71 rfl (fun w1 hw => ⟨by rw [hE]; try rfl, hw.bel⟩)
   refine TL.rn 9 rfl (zET (zr ?_));have hE : (Km r) = true := (by simp [Km, q5, q9, h13]);exact Kc Tryz.results71 rfl (fun w1 hw => ⟨by rw [hE]; try rfl, hw.bel⟩)
  refine TL.rn 6 rfl ?_;refine TL.offU rfl rfl rfl rfl rfl ?_;refine TL.offU rfl rfl rfl rfl rfl ?_;refine TL.offU rfl rfl rfl rfl rfl ?_;refine TL.offU rfl rfl rfl rfl rfl ?_;refine TL.rn 3 rfl (zET (zr ?_));have hE : (Km r) = false := (by simp [Km, q5, q9]);exact Kc Tryz.results71 rfl (fun w1 hw => ⟨by rw [hE]; try rfl, hw.bel⟩)
 refine TL.rn 10 rfl ?_;refine TL.offU rfl rfl rfl rfl rfl ?_;refine TL.offU rfl rfl rfl rfl rfl ?_;refine TL.offU rfl rfl rfl rfl rfl ?_;refine TL.offU rfl rfl rfl rfl rfl ?_;refine TL.rn 3 rfl (zET (zr ?_));have hE : (Km r) = false := (by simp [Km, q5]);exact Kc Tryz.results71 rfl (fun w1 hw => ⟨by rw [hE]; try rfl, hw.bel⟩)
theorem KjG (r : Rs) (w : World) :
  Calls Tryz.prog 96 #[.agg r.cells.toArray] w fun e w' => e = .returned (.bool (KM r)) /\ Below w.heap.size w w' := by
 refine Kh Tryz.func96 rfl rfl rfl ?_ (Pm.start w);refine zSG ?_;refine TL.bx fun g1 => ?_;refine TL.as_ ?_;refine zET (zSG (TL.v (gV 0 (.agg (r.cells).toArray) Ku Kd) ?_));refine TL.pS rfl o71 (fun w1 hw => Kdl r w1) (fun h4 => ?_) (fun h4 => ?_)
 ·refine TL.mv ?_;refine TL.ov (gF KbA) ?_;refine TL.gu ?_;refine TL.vw rfl (gL 0 Kaf) (fun h7 => ?_) (fun h7 => ?_)
  ·refine TL.rn 3 rfl (zET (zr ?_));have hE : (KM r) = false := (by simp [KM, h4, h7]);exact Kc Tryz.results96 rfl (fun w1 hw => ⟨by rw [hE]; try rfl, hw.bel⟩)
  refine TL.rn 3 rfl (zET (zr ?_));have hE : (KM r) = true := (by simp [KM, h4, h7]);exact Kc Tryz.results96 rfl (fun w1 hw => ⟨by rw [hE]; try rfl, hw.bel⟩)
 refine TL.rn 6 rfl (zET (zr ?_));have hE : (KM r) = false := (by simp [KM, h4]);exact Kc Tryz.results96 rfl (fun w1 hw => ⟨by rw [hE]; try rfl, hw.bel⟩)
theorem Kmo (r : Rs) (w : World) :
  Calls Tryz.prog 75 #[.agg r.cells.toArray] w fun e w' => e = .returned (.bool (Kan r)) /\ Below w.heap.size w w' := by
 refine Kh Tryz.func75 rfl rfl rfl ?_ (Pm.start w);refine zSG ?_;refine TL.bx fun g1 => ?_;refine TL.as_ ?_;refine zET (zSG (TL.v (gV 0 (.agg (r.cells).toArray) Ku Kd) ?_));refine TL.pS rfl o96 (fun w1 hw => KjG r w1) (fun h4 => ?_) (fun h4 => ?_)
 ·refine TL.mv ?_;refine TL.ov (gF Kar) ?_;refine TL.gu ?_;refine TL.vw rfl (gL 0 Kaf) (fun h7 => ?_) (fun h7 => ?_)
  ·refine TL.rn 2 rfl (TL.ov (gF KP) ?_);refine TL.ov (gF KbG) ?_;refine TL.ov (gL 0 Kb) ?_;refine TL.gu ?_;refine TL.sp K5 (fun q13 => ?_) (fun q13 => ?_)
   ·refine TL.rn 2 rfl (zET (zr ?_));have hE : (Kan r) = true := (by simp [Kan, h4, h7, q13]);exact Kc Tryz.results75 rfl (fun w1 hw => ⟨by rw [hE]; try rfl, hw.bel⟩)
   refine TL.rn 2 rfl (zET (zr ?_));have hE : (Kan r) = false := (by simp [Kan, h4, h7, q13]);exact Kc Tryz.results75 rfl (fun w1 hw => ⟨by rw [hE]; try rfl, hw.bel⟩)
  refine TL.rn 8 rfl (zET (zr ?_));have hE : (Kan r) = false := (by simp [Kan, h4, h7]);exact Kc Tryz.results75 rfl (fun w1 hw => ⟨by rw [hE]; try rfl, hw.bel⟩)
 refine TL.rn 11 rfl (zET (zr ?_));have hE : (Kan r) = false := (by simp [Kan, h4]);exact Kc Tryz.results75 rfl (fun w1 hw => ⟨by rw [hE]; try rfl, hw.bel⟩)
theorem KeW (b : Bool) (w : World) :
  Calls Tryz.prog 165 #[.bool b] w fun e w' => e = .returned (.int .i64 (b2i b)) /\ w' = w := by
 refine Kh (I := fun w1 => w1 = w) Tryz.func165 rfl rfl rfl ?_ rfl;refine zSG (TL.as_ ?_);refine zET (zS (zS ?_))
 cases b with
 | true =>
  refine zG (TL.mv ?_);refine zET (zc (zSG (TL.as_ ?_)));refine zET (zr (zR ?_));exact Kc Tryz.results165 rfl (fun w1 hw => ⟨rfl, hw⟩)
 | false =>
  refine zG (TL.mv ?_);refine zET (zd (zk (zT (zSG (TL.as_ ?_)))));refine zET (zr ?_);exact Kc Tryz.results165 rfl (fun w1 hw => ⟨rfl, hw⟩)
theorem KeZ (b : Bool) (w : World) :
  Calls Tryz.prog 177 #[.bool b] w fun e w' => e = .returned (.int .i64 (b2i b)) /\ w' = w := by
 refine Kh (I := fun w1 => w1 = w) Tryz.func177 rfl rfl rfl ?_ rfl;refine zSG (TL.as_ ?_);refine zET (zS (zS ?_))
 cases b with
 | true =>
  refine zG (TL.mv ?_);refine zET (zc (zSG (TL.as_ ?_)));refine zET (zr (zR ?_));exact Kc Tryz.results177 rfl (fun w1 hw => ⟨rfl, hw⟩)
 | false =>
  refine zG (TL.mv ?_);refine zET (zd (zk (zT (zSG (TL.as_ ?_)))));refine zET (zr ?_);exact Kc Tryz.results177 rfl (fun w1 hw => ⟨rfl, hw⟩)
theorem Kht (x y : Int) (w : World) :
  Calls Tryz.prog 178 #[.int .i64 x, .int .i64 y] w fun e w' => e = .returned (.int .i64 (Kl x y)) /\ w' = w := by
 refine Kh (I := fun w1 => w1 = w) Tryz.func178 rfl rfl rfl ?_ rfl;refine zSG (TL.as_ ?_);refine zET (zS (zB (zSG (TL.rn 2 rfl ?_))));refine TL.sp Kk (fun q8 => ?_) (fun q8 => ?_)
 ·refine TL.as_ ?_;refine zET (zc (zSG (TL.as_ ?_)));refine zET (zr (zRR ?_));have hE : (Kl x y) = -1 := (by simp [Kl, q8]; try omega);exact Kc Tryz.results178 rfl (fun w1 hw => ⟨by rw [hE]; try rfl, hw⟩)
 refine TL.as_ ?_;refine zET (zd (zSG (TL.rn 2 rfl ?_)));refine TL.sp KK (fun q12 => ?_) (fun q12 => ?_)
 ·refine TL.as_ ?_;refine zET (zc (zSG (TL.as_ ?_)));refine zET (zr (zRR ?_));have hE : (Kl x y) = 1 := (by simp [Kl, q8, q12]; try omega);exact Kc Tryz.results178 rfl (fun w1 hw => ⟨by rw [hE]; try rfl, hw⟩)
 refine TL.as_ ?_;refine zET (zd (zk (zN (zT (zSG (TL.as_ ?_))))));refine zET (zr ?_);have hE : (Kl x y) = 0 := (by simp [Kl, q8, q12]; try omega);exact Kc Tryz.results178 rfl (fun w1 hw => ⟨by rw [hE]; try rfl, hw⟩)
theorem Khy (a b : Rs) (w : World) :
  Calls Tryz.prog 133 #[.agg a.cells.toArray, .agg b.cells.toArray] w fun e w' => e = .returned (.int .i64 (Ka4 a b)) /\ Below w.heap.size w w' := by
 refine Kh Tryz.func133 rfl rfl rfl ?_ (Pm.start w);refine zSG ?_;refine TL.bx fun g2 => ?_;refine TL.bx fun g3 => ?_;refine TL.as_ ?_;refine zET (zS (TC.pre 106 108 2 (Pm w [.blk g3 65 b.cells, .blk g2 65 a.cells]) (by kernel_rfl) rfl (fun w hw => hw.drawn _) (by kernel_rfl) rfl (fun w1 hw => hw) ?_));refine TV.val rfl rfl rfl (gF Kal) ?_;refine TV.val rfl rfl rfl (gL 1 Kb) ?_;refine TV.val rfl rfl rfl (gF Kal) ?_;refine TV.val rfl rfl rfl (gL 0 Kb) ?_;refine TV.val rfl rfl rfl (Kt (v := .agg #[.int .i64 a.at_, .int .i64 b.at_]) rfl rfl (fun w => K8 _ _ w)) ?_;refine TV.val rfl rfl rfl (gF Kb0) ?_;refine TV.val rfl rfl rfl (gL 1 Kb) ?_;refine TV.val rfl rfl rfl (gF Kb0) ?_;refine TV.val rfl rfl rfl (gL 0 Kb) ?_;refine TV.val rfl rfl rfl (Kt (v := .agg #[.int .i64 a.v, .int .i64 b.v]) rfl rfl (fun w => K8 _ _ w)) ?_;refine TV.val rfl rfl rfl (gF Kcx) ?_;refine TV.val rfl rfl rfl (gL 1 Kb) ?_;refine TV.val rfl rfl rfl (gF Kcx) ?_;refine TV.val rfl rfl rfl (gL 0 Kb) ?_;refine TV.val rfl rfl rfl (Kt (v := .agg #[.int .i64 a.run, .int .i64 b.run]) rfl rfl (fun w => K8 _ _ w)) ?_;refine TV.val rfl rfl rfl (gF KbQ) ?_;refine TV.val rfl rfl rfl (gL 1 Kb) ?_;refine TV.val rfl rfl rfl (gF KbQ) ?_;refine TV.val rfl rfl rfl (gL 0 Kb) ?_;refine TV.val rfl rfl rfl (Kt (v := .agg #[.int .i64 a.num, .int .i64 b.num]) rfl rfl (fun w => K8 _ _ w)) ?_;refine TV.val rfl rfl rfl (gF Kcs) ?_;refine TV.val rfl rfl rfl (gL 1 KO) ?_;refine TV.val rfl rfl rfl (KaW rfl rfl (fun w => KcX Tryz.underlying3 Tryz.underlying30 w)) ?_;refine TV.val rfl rfl rfl (gF Kcs) ?_;refine TV.val rfl rfl rfl (gL 0 KO) ?_;refine TV.val rfl rfl rfl (KaW rfl rfl (fun w => KcX Tryz.underlying3 Tryz.underlying30 w)) ?_;refine TV.val rfl rfl rfl (Kt (v := .agg #[.int .i64 (IntKind.i64.wrap a.dst), .int .i64 (IntKind.i64.wrap b.dst)]) rfl rfl (fun w => K8 _ _ w)) ?_;refine TV.val rfl rfl rfl (gF KbI) ?_;refine TV.val rfl rfl rfl (gL 1 Kb) ?_;refine TV.val rfl rfl rfl (gF KbI) ?_;refine TV.val rfl rfl rfl (gL 0 Kb) ?_;refine TV.val rfl rfl rfl (Kt (v := .agg #[.int .i64 a.proto, .int .i64 b.proto]) rfl rfl (fun w => K8 _ _ w)) ?_;refine TV.val rfl rfl rfl (gF Kbq) ?_;refine TV.val rfl rfl rfl (gL 1 Kb) ?_;refine TV.val rfl rfl rfl (gF Kbq) ?_;refine TV.val rfl rfl rfl (gL 0 Kb) ?_;refine TV.val rfl rfl rfl (Kt (v := .agg #[.int .i64 a.flow, .int .i64 b.flow]) rfl rfl (fun w => K8 _ _ w)) ?_;refine TV.val rfl rfl rfl (gF Kas) ?_;refine TV.val rfl rfl rfl (gL 1 Kb) ?_;refine TV.val rfl rfl rfl (gF Kas) ?_;refine TV.val rfl rfl rfl (gL 0 Kb) ?_;refine TV.val rfl rfl rfl (Kt (v := .agg #[.int .i64 a.ttl, .int .i64 b.ttl]) rfl rfl (fun w => K8 _ _ w)) ?_;refine TV.val rfl rfl rfl (gF Kar) ?_;refine TV.val rfl rfl rfl (gL 1 Kaf) ?_;refine TV.call (r := .int .i64 (b2i a.ans)) rfl rfl rfl rfl rfl Tryz.func165 (by decide) rfl (fun w1 hw => KeW a.ans w1) ?_;refine TV.val rfl rfl rfl (gF Kar) ?_;refine TV.val rfl rfl rfl (gL 0 Kaf) ?_;refine TV.call (r := .int .i64 (b2i b.ans)) rfl rfl rfl rfl rfl Tryz.func165 (by decide) rfl (fun w1 hw => KeW b.ans w1) ?_;refine TV.val rfl rfl rfl (Kt (v := .agg #[.int .i64 (b2i a.ans), .int .i64 (b2i b.ans)]) rfl rfl (fun w => K8 _ _ w)) ?_;refine TV.val rfl rfl rfl (gF KbA) ?_;refine TV.val rfl rfl rfl (gL 1 Kaf) ?_;refine TV.call (r := .int .i64 (b2i a.dbl)) rfl rfl rfl rfl rfl Tryz.func165 (by decide) rfl (fun w1 hw => KeW a.dbl w1) ?_;refine TV.val rfl rfl rfl (gF KbA) ?_;refine TV.val rfl rfl rfl (gL 0 Kaf) ?_;refine TV.call (r := .int .i64 (b2i b.dbl)) rfl rfl rfl rfl rfl Tryz.func165 (by decide) rfl (fun w1 hw => KeW b.dbl w1) ?_
 refine TV.val rfl rfl rfl (Kt (v := .agg #[.int .i64 (b2i a.dbl), .int .i64 (b2i b.dbl)]) rfl rfl (fun w => K8 _ _ w)) ?_;refine TV.val rfl rfl rfl (gF Kao) ?_;refine TV.val rfl rfl rfl (gL 1 Kb) ?_;refine TV.val rfl rfl rfl (gF Kao) ?_;refine TV.val rfl rfl rfl (gL 0 Kb) ?_;refine TV.val rfl rfl rfl (Kt (v := .agg #[.int .i64 a.back, .int .i64 b.back]) rfl rfl (fun w => K8 _ _ w)) ?_;refine TV.val rfl rfl rfl (gF KP) ?_;refine TV.val rfl rfl rfl (gF KbC) ?_;refine TV.val rfl rfl rfl (gL 1 KO) ?_;refine TV.val rfl rfl rfl (KaW rfl rfl (fun w => KcX Tryz.underlying3 Tryz.underlying30 w)) ?_;refine TV.val rfl rfl rfl (gF KP) ?_;refine TV.val rfl rfl rfl (gF KbC) ?_;refine TV.val rfl rfl rfl (gL 0 KO) ?_;refine TV.val rfl rfl rfl (KaW rfl rfl (fun w => KcX Tryz.underlying3 Tryz.underlying30 w)) ?_;refine TV.val rfl rfl rfl (Kt (v := .agg #[.int .i64 (IntKind.i64.wrap a.src), .int .i64 (IntKind.i64.wrap b.src)]) rfl rfl (fun w => K8 _ _ w)) ?_;refine TV.val rfl rfl rfl (gF KP) ?_;refine TV.val rfl rfl rfl (gF KbG) ?_;refine TV.val rfl rfl rfl (gL 1 Kb) ?_;refine TV.val rfl rfl rfl (gF KP) ?_;refine TV.val rfl rfl rfl (gF KbG) ?_;refine TV.val rfl rfl rfl (gL 0 Kb) ?_;refine TV.val rfl rfl rfl (Kt (v := .agg #[.int .i64 a.kind, .int .i64 b.kind]) rfl rfl (fun w => K8 _ _ w)) ?_;refine TV.val rfl rfl rfl (gF KP) ?_;refine TV.val rfl rfl rfl (gF Kdx) ?_;refine TV.val rfl rfl rfl (gL 1 Kb) ?_;refine TV.val rfl rfl rfl (gF KP) ?_;refine TV.val rfl rfl rfl (gF Kdx) ?_;refine TV.val rfl rfl rfl (gL 0 Kb) ?_;refine TV.val rfl rfl rfl (Kt (v := .agg #[.int .i64 a.code, .int .i64 b.code]) rfl rfl (fun w => K8 _ _ w)) ?_;refine TV.val rfl rfl rfl (gF KP) ?_;refine TV.val rfl rfl rfl (gF KdE) ?_;refine TV.val rfl rfl rfl (gL 1 Kb) ?_;refine TV.val rfl rfl rfl (gF KP) ?_;refine TV.val rfl rfl rfl (gF KdE) ?_;refine TV.val rfl rfl rfl (gL 0 Kb) ?_;refine TV.val rfl rfl rfl (Kt (v := .agg #[.int .i64 a.left, .int .i64 b.left]) rfl rfl (fun w => K8 _ _ w)) ?_;refine TV.val rfl rfl rfl (gF KP) ?_;refine TV.val rfl rfl rfl (gF Kb8) ?_;refine TV.val rfl rfl rfl (gL 1 Kb) ?_;refine TV.val rfl rfl rfl (gF KP) ?_;refine TV.val rfl rfl rfl (gF Kb8) ?_;refine TV.val rfl rfl rfl (gL 0 Kb) ?_;refine TV.val rfl rfl rfl (Kt (v := .agg #[.int .i64 a.id, .int .i64 b.id]) rfl rfl (fun w => K8 _ _ w)) ?_;refine TV.val rfl rfl rfl (gF KP) ?_;refine TV.val rfl rfl rfl (gF Kdy) ?_;refine TV.val rfl rfl rfl (gL 1 Kb) ?_;refine TV.val rfl rfl rfl (gF KP) ?_;refine TV.val rfl rfl rfl (gF Kdy) ?_;refine TV.val rfl rfl rfl (gL 0 Kb) ?_;refine TV.val rfl rfl rfl (Kt (v := .agg #[.int .i64 a.quo, .int .i64 b.quo]) rfl rfl (fun w => K8 _ _ w)) ?_;refine TV.val rfl rfl rfl (Kt (v := .agg ((Ka pc2 (Kbm a b))).toArray) rfl rfl (fun w => Kos _ _ _ _ _ _ _ _ _ _ _ _ _ _ _ _ _ _ _ _ _ _ _ _ _ _ _ _ _ _ _ _ _ _ w)) ?_;refine TV.end_ (ls := #[Tt,Tt,Tt,Tt,Tt,Tt,Tt,Tt,Tt,Tt,Tt,Tt,Tt,Tt,Tt,Tt,Tt,Tt,Tt,Tt,Tt,Tt,Tt,Tt,Tt,Tt,Tt,Tt,Tt,Tt,Tt,Tt,Tt,Tt,Tt,Tt,Tt,Tt,Tt,Tt,Tt,Tt,Tt,Tt,Tt,Tt,Tt,Tt,Tt,Tt,Tt,Tt,Tt,Tt,Tt,Tt,Tt,Tt,Tt,Tt,Tt,Tt,Tt,Tt,Tt,Tt,Tt,Tt,Tt,Tt,Tt,Tt,Tt,Tt,Tt,Tt,Tt,Tt,Tt,Tt,Tt,Tt,Tt,Tt,Tt,Tt,Tt,Tt,Tt,Tt,Tt,Tt,Tt,Tt,Tt,Tt,Tt,Tt,Tt,Tt,Tt,Tt,Tt,Tt,Tt,Tt,Ff,Ff]) (by kernel_rfl) ?_;refine TH.o 106 ?_;refine TL.al Knl fun g5 => ?_;refine zE ?_;refine TX.held (fun w1 hw => hw.pk [1, 2]) ?_;refine TH.o 107 ?_;refine TL.pstore (k := 0) (vs := (Ka pc2 (Kbm a b))) rfl rfl rfl rfl rfl rfl rfl Kkc (KA KdQ _) (by show 34 <= 34; decide) (L' := [.blk g5 188 (Ka pc2 (Kbm a b)), .blk g3 65 b.cells, .blk g2 65 a.cells]) rfl ?_
 refine zE ?_;refine TX.held (fun w1 hw => hw.pk [1, 2]) ?_;refine TH.done (by kernel_rfl) ?_;refine zT (zS (zSG (TL.v (gV 0 (.agg ((Ka pc2 (Kbm a b))).toArray) KmO Kkc) ?_)));refine TL.mv ?_;refine zET (zB (TC.lp (α := {i : Nat // i <= 17 /\ orP ((Kbm a b).drop i) = orP (Kbm a b)}) [2, 3, 115, 4] rfl (fun y => [(116, .int .i64 ((y.1 : Nat) : Int))]) (fun y => Pm w [.blk g5 188 (Ka pc2 (Kbm a b)), .blk g3 65 b.cells, .blk g2 65 a.cells]) (fun y => 17 - y.1) (⟨0, Nat.zero_le _, rfl⟩) (fun w1 hw => hw) ?_));rintro ⟨i, hi, ho⟩
 try dsimp only at hi ho ⊢
 refine zSG ?_;refine TL.sp Kk (fun q117 => ?_) (fun q117 => ?_)
 ·refine zET (zS (zc (zk (zT (zS (zB (zSG ?_)))))));obtain ⟨x118, hx118⟩ : ∃ x, (Kbm a b)[i]? = some x := ⟨_, List.getElem?_eq_getElem (by show i < 17; omega)⟩;have hdr : (Kbm a b).drop i = x118 :: (Kbm a b).drop (i + 1) := by obtain ⟨hlt, e⟩ := List.getElem?_eq_some_iff.1 hx118; rw [List.drop_eq_getElem_cons hlt, e]
  refine TL.w rfl (KgB (v := .agg (pc2 x118).toArray) rfl rfl rfl (fun w => Khp KdQ Tryz.underlying188 Kis Kei hx118 rfl rfl w)) ?_;refine TL.al KfY fun g7 => ?_;refine TL.pstore (k := 0) (vs := (pc2 x118)) rfl rfl rfl rfl rfl rfl rfl Kei (KdQ.one _) (by show 2 <= 2; decide) (L' := [.blk g7 120 (pc2 x118), .blk g5 188 (Ka pc2 (Kbm a b)), .blk g3 65 b.cells, .blk g2 65 a.cells]) rfl ?_;refine zET (zSG ?_);refine TL.w rfl (Kai (v := .pointer (some ⟨g7, 0, none⟩)) rfl rfl rfl (fun w => Kbg Tryz.underlying120 Ky g7 0 _ 0 (by decide) w)) ?_;refine TL.v (gL 0 Kb) ?_;refine TL.w rfl (Kai (v := .pointer (some ⟨g7, 1, none⟩)) rfl rfl rfl (fun w => Kbg Tryz.underlying120 Ky g7 0 _ 1 (by decide) w)) ?_;refine TL.v (gL 0 Kb) ?_;refine TL.p1 (r := .int .i64 (Kl x118.1 x118.2)) rfl o79 (fun w1 hw => KbD (KbY x118.1 x118.2 w1)) ?_;refine TL.as_ ?_;refine zET (zSG (TL.mv ?_));refine TL.sp K5 (fun q125 => ?_) (fun q125 => ?_)
  ·refine zET (zc (zSG (TL.rn 2 rfl (zET (zr (zRR (zR (zRR ?_))))))));exact Kc Tryz.results133 rfl (fun w1 hw => ⟨by rw [KgF, <- ho, hdr, KdP, if_neg q125], hw.bel⟩)
  have ho2 : orP ((Kbm a b).drop (i + 1)) = orP (Kbm a b) := by rw [<- ho, hdr, KdP, if_pos (Decidable.not_not.1 q125)]
  refine zET (zd (zk (zN (zT (zG (TL.v (gD ((i + 1 : Nat) : Int)) ?_))))));refine TL.mv ?_;refine zE ?_;exact TX.rd (⟨i + 1, by omega, ho2⟩) (by show 17 - (i + 1) < 17 - i; omega) (fun w1 hw => hw.pk [1, 2, 3])
 refine zET (zS (zd (zx (zX (zX (zM (zT (zSG (TL.as_ ?_)))))))));refine zET (zr ?_);exact Kc Tryz.results133 rfl (fun w1 hw => ⟨by rw [KgF, <- ho, List.drop_of_length_le (by show 17 <= i; omega)]; rfl, hw.bel⟩)
theorem KhF (a b : Rs) (w : World) :
  Calls Tryz.prog 147 #[.agg a.cells.toArray, .agg b.cells.toArray] w fun e w' => e = .returned (.int .i64 (Ka4 a b)) /\ Below w.heap.size w w' := by
 refine Kh Tryz.func147 rfl rfl rfl ?_ (Pm.start w);refine zSG ?_;refine TL.bx fun g2 => ?_;refine TL.bx fun g3 => ?_;refine TL.as_ ?_;refine zET (zS (zS (TC.quietP (by kernel_rfl) (by kernel_rfl) (fun w hw => hw.drawn _) ?_)));refine TQ.v (gF Kal) ?_;refine TQ.v (gL 1 Kb) ?_;refine TQ.v (gF Kal) ?_;refine TQ.v (gL 0 Kb) ?_;refine TQ.w rfl (Kt (v := .agg #[.int .i64 a.at_, .int .i64 b.at_]) rfl rfl (fun w => K8 _ _ w)) ?_;refine TQ.v (gF Kb0) ?_;refine TQ.v (gL 1 Kb) ?_;refine TQ.v (gF Kb0) ?_;refine TQ.v (gL 0 Kb) ?_;refine TQ.w rfl (Kt (v := .agg #[.int .i64 a.v, .int .i64 b.v]) rfl rfl (fun w => K8 _ _ w)) ?_;refine TQ.v (gF Kcx) ?_;refine TQ.v (gL 1 Kb) ?_;refine TQ.v (gF Kcx) ?_;refine TQ.v (gL 0 Kb) ?_;refine TQ.w rfl (Kt (v := .agg #[.int .i64 a.run, .int .i64 b.run]) rfl rfl (fun w => K8 _ _ w)) ?_;refine TQ.v (gF KbQ) ?_;refine TQ.v (gL 1 Kb) ?_;refine TQ.v (gF KbQ) ?_;refine TQ.v (gL 0 Kb) ?_;refine TQ.w rfl (Kt (v := .agg #[.int .i64 a.num, .int .i64 b.num]) rfl rfl (fun w => K8 _ _ w)) ?_;refine TQ.v (gF Kcs) ?_;refine TQ.v (gL 1 KO) ?_;refine TQ.w rfl (KaW rfl rfl (fun w => KcX Tryz.underlying3 Tryz.underlying30 w)) ?_;refine TQ.v (gF Kcs) ?_;refine TQ.v (gL 0 KO) ?_;refine TQ.w rfl (KaW rfl rfl (fun w => KcX Tryz.underlying3 Tryz.underlying30 w)) ?_;refine TQ.w rfl (Kt (v := .agg #[.int .i64 (IntKind.i64.wrap a.dst), .int .i64 (IntKind.i64.wrap b.dst)]) rfl rfl (fun w => K8 _ _ w)) ?_;refine TQ.v (gF KbI) ?_;refine TQ.v (gL 1 Kb) ?_;refine TQ.v (gF KbI) ?_;refine TQ.v (gL 0 Kb) ?_;refine TQ.w rfl (Kt (v := .agg #[.int .i64 a.proto, .int .i64 b.proto]) rfl rfl (fun w => K8 _ _ w)) ?_;refine TQ.v (gF Kbq) ?_;refine TQ.v (gL 1 Kb) ?_;refine TQ.v (gF Kbq) ?_;refine TQ.v (gL 0 Kb) ?_;refine TQ.w rfl (Kt (v := .agg #[.int .i64 a.flow, .int .i64 b.flow]) rfl rfl (fun w => K8 _ _ w)) ?_;refine TQ.v (gF Kas) ?_;refine TQ.v (gL 1 Kb) ?_;refine TQ.v (gF Kas) ?_;refine TQ.v (gL 0 Kb) ?_;refine TQ.w rfl (Kt (v := .agg #[.int .i64 a.ttl, .int .i64 b.ttl]) rfl rfl (fun w => K8 _ _ w)) ?_;refine TQ.v (gF Kar) ?_;refine TQ.v (gL 1 Kaf) ?_;refine TQ.p1 (v := .int .i64 (b2i a.ans)) rfl KfC (fun w1 hw => (KbD (KeZ a.ans w1)).mono fun en w2 ⟨h1, h2⟩ => ⟨h1, hw.below h2⟩) ?_;refine TQ.v (gF Kar) ?_;refine TQ.v (gL 0 Kaf) ?_;refine TQ.p1 (v := .int .i64 (b2i b.ans)) rfl KfC (fun w1 hw => (KbD (KeZ b.ans w1)).mono fun en w2 ⟨h1, h2⟩ => ⟨h1, hw.below h2⟩) ?_;refine TQ.w rfl (Kt (v := .agg #[.int .i64 (b2i a.ans), .int .i64 (b2i b.ans)]) rfl rfl (fun w => K8 _ _ w)) ?_;refine TQ.v (gF KbA) ?_;refine TQ.v (gL 1 Kaf) ?_;refine TQ.p1 (v := .int .i64 (b2i a.dbl)) rfl KfC (fun w1 hw => (KbD (KeZ a.dbl w1)).mono fun en w2 ⟨h1, h2⟩ => ⟨h1, hw.below h2⟩) ?_;refine TQ.v (gF KbA) ?_;refine TQ.v (gL 0 Kaf) ?_;refine TQ.p1 (v := .int .i64 (b2i b.dbl)) rfl KfC (fun w1 hw => (KbD (KeZ b.dbl w1)).mono fun en w2 ⟨h1, h2⟩ => ⟨h1, hw.below h2⟩) ?_;refine TQ.w rfl (Kt (v := .agg #[.int .i64 (b2i a.dbl), .int .i64 (b2i b.dbl)]) rfl rfl (fun w => K8 _ _ w)) ?_;refine TQ.v (gF Kao) ?_;refine TQ.v (gL 1 Kb) ?_;refine TQ.v (gF Kao) ?_;refine TQ.v (gL 0 Kb) ?_;refine TQ.w rfl (Kt (v := .agg #[.int .i64 a.back, .int .i64 b.back]) rfl rfl (fun w => K8 _ _ w)) ?_;refine TQ.v (gF KP) ?_;refine TQ.v (gF KbC) ?_;refine TQ.v (gL 1 KO) ?_;refine TQ.w rfl (KaW rfl rfl (fun w => KcX Tryz.underlying3 Tryz.underlying30 w)) ?_;refine TQ.v (gF KP) ?_;refine TQ.v (gF KbC) ?_;refine TQ.v (gL 0 KO) ?_
 refine TQ.w rfl (KaW rfl rfl (fun w => KcX Tryz.underlying3 Tryz.underlying30 w)) ?_;refine TQ.w rfl (Kt (v := .agg #[.int .i64 (IntKind.i64.wrap a.src), .int .i64 (IntKind.i64.wrap b.src)]) rfl rfl (fun w => K8 _ _ w)) ?_;refine TQ.v (gF KP) ?_;refine TQ.v (gF KbG) ?_;refine TQ.v (gL 1 Kb) ?_;refine TQ.v (gF KP) ?_;refine TQ.v (gF KbG) ?_;refine TQ.v (gL 0 Kb) ?_;refine TQ.w rfl (Kt (v := .agg #[.int .i64 a.kind, .int .i64 b.kind]) rfl rfl (fun w => K8 _ _ w)) ?_;refine TQ.v (gF KP) ?_;refine TQ.v (gF Kdx) ?_;refine TQ.v (gL 1 Kb) ?_;refine TQ.v (gF KP) ?_;refine TQ.v (gF Kdx) ?_;refine TQ.v (gL 0 Kb) ?_;refine TQ.w rfl (Kt (v := .agg #[.int .i64 a.code, .int .i64 b.code]) rfl rfl (fun w => K8 _ _ w)) ?_;refine TQ.v (gF KP) ?_;refine TQ.v (gF KdE) ?_;refine TQ.v (gL 1 Kb) ?_;refine TQ.v (gF KP) ?_;refine TQ.v (gF KdE) ?_;refine TQ.v (gL 0 Kb) ?_;refine TQ.w rfl (Kt (v := .agg #[.int .i64 a.left, .int .i64 b.left]) rfl rfl (fun w => K8 _ _ w)) ?_;refine TQ.v (gF KP) ?_;refine TQ.v (gF Kb8) ?_;refine TQ.v (gL 1 Kb) ?_;refine TQ.v (gF KP) ?_;refine TQ.v (gF Kb8) ?_;refine TQ.v (gL 0 Kb) ?_;refine TQ.w rfl (Kt (v := .agg #[.int .i64 a.id, .int .i64 b.id]) rfl rfl (fun w => K8 _ _ w)) ?_;refine TQ.w rfl (Kt (v := .agg ((Ka pc2 (Kbx a b))).toArray) rfl rfl (fun w => Km3 _ _ _ _ _ _ _ _ _ _ _ _ _ _ _ _ _ _ _ _ _ _ _ _ _ _ _ _ _ _ _ _ w)) ?_;refine TQ.w rfl (Ki rfl rfl) ?_;refine TQ.fin ?_;refine zT (zB (TC.lp (α := {i : Nat // i <= 16 /\ orP ((Kbx a b).drop i) = orP (Kbx a b)}) [2, 3, 105, 4] rfl (fun y => [(106, .int .i64 ((y.1 : Nat) : Int))]) (fun y => Pm w [.blk g3 65 b.cells, .blk g2 65 a.cells]) (fun y => 16 - y.1) (⟨0, Nat.zero_le _, rfl⟩) (fun w1 hw => hw) ?_));rintro ⟨i, hi, ho⟩
 try dsimp only at hi ho ⊢
 refine zSG ?_;refine TL.sp Kk (fun q107 => ?_) (fun q107 => ?_)
 ·refine zET (zS (zc (zk (zT (zS (zB (zSG ?_)))))));obtain ⟨x108, hx108⟩ : ∃ x, (Kbx a b)[i]? = some x := ⟨_, List.getElem?_eq_getElem (by show i < 16; omega)⟩;have hdr : (Kbx a b).drop i = x108 :: (Kbx a b).drop (i + 1) := by obtain ⟨hlt, e⟩ := List.getElem?_eq_some_iff.1 hx108; rw [List.drop_eq_getElem_cons hlt, e]
  refine TL.w rfl (KgB (v := .agg (pc2 x108).toArray) rfl rfl rfl (fun w => Khp KdQ Tryz.underlying201 Kis Kei hx108 rfl rfl w)) ?_;refine TL.al KfY fun g6 => ?_;refine TL.pstore (k := 0) (vs := (pc2 x108)) rfl rfl rfl rfl rfl rfl rfl Kei (KdQ.one _) (by show 2 <= 2; decide) (L' := [.blk g6 120 (pc2 x108), .blk g3 65 b.cells, .blk g2 65 a.cells]) rfl ?_;refine zET (zSG ?_);refine TL.w rfl (Kai (v := .pointer (some ⟨g6, 0, none⟩)) rfl rfl rfl (fun w => Kbg Tryz.underlying120 Ky g6 0 _ 0 (by decide) w)) ?_;refine TL.v (gL 0 Kb) ?_;refine TL.w rfl (Kai (v := .pointer (some ⟨g6, 1, none⟩)) rfl rfl rfl (fun w => Kbg Tryz.underlying120 Ky g6 0 _ 1 (by decide) w)) ?_;refine TL.v (gL 0 Kb) ?_;refine TL.sp K5 (fun q113 => ?_) (fun q113 => ?_)
  ·refine zET (zc (zSG ?_));refine TL.w rfl (Kai (v := .pointer (some ⟨g6, 0, none⟩)) rfl rfl rfl (fun w => Kbg Tryz.underlying120 Ky g6 0 _ 0 (by decide) w)) ?_;refine TL.v (gL 0 Kb) ?_;refine TL.w rfl (Kai (v := .pointer (some ⟨g6, 1, none⟩)) rfl rfl rfl (fun w => Kbg Tryz.underlying120 Ky g6 0 _ 1 (by decide) w)) ?_;refine TL.v (gL 0 Kb) ?_;refine TL.p1 (r := .int .i64 (Kl x108.1 x108.2)) rfl KjV (fun w1 hw => KbD (Kht x108.1 x108.2 w1)) ?_;refine TL.as_ ?_;refine zET (zr (zRR (zR (zRR ?_))));exact Kc Tryz.results147 rfl (fun w1 hw => ⟨by rw [Km2 a b (by rw [<- ho, hdr, KdP, if_neg (fun h => q113 (KbE.1 h))]; exact fun h => q113 (KbE.1 h)), <- ho, hdr, KdP, if_neg (fun h => q113 (KbE.1 h))], hw.bel⟩)
  have ho2 : orP ((Kbx a b).drop (i + 1)) = orP (Kbx a b) := by rw [<- ho, hdr, KdP, if_pos (KbE.2 (Decidable.not_not.1 q113))]
  refine zET (zd (zk (zN (zT (zG (TL.v (gD ((i + 1 : Nat) : Int)) ?_))))));refine TL.mv ?_;refine zE ?_;exact TX.rd (⟨i + 1, by omega, ho2⟩) (by show 16 - (i + 1) < 16 - i; omega) (fun w1 hw => hw.pk [1, 2])
 refine zET (zS (zd (zx (zX (zX (zM (zT (zSG (TL.v (gF KP) ?_)))))))));refine TL.v (gF Kdy) ?_;refine TL.v (gL 1 Kb) ?_;refine TL.v (gF KP) ?_;refine TL.v (gF Kdy) ?_;refine TL.v (gL 0 Kb) ?_;refine TL.p1 (r := .int .i64 (Kl a.quo b.quo)) rfl KjV (fun w1 hw => KbD (Kht a.quo b.quo w1)) ?_;refine TL.as_ ?_;refine zET (zr ?_);exact Kc Tryz.results147 rfl (fun w1 hw => ⟨by rw [Kl8 a b (by rw [<- ho, List.drop_of_length_le (by show 16 <= i; omega)]; rfl)], hw.bel⟩)
theorem Kea (r : Rs) (w : World) :
  Calls Tryz.prog 104 #[.agg r.cells.toArray] w fun e w' => e = .returned (.agg (Kq r).cells.toArray) /\ Below w.heap.size w w' := by
 refine Kh Tryz.func104 rfl rfl rfl ?_ (Pm.start w);refine zSG ?_;refine TL.bx fun g1 => ?_;refine TL.al Kep fun g2 => ?_;refine zET (zSG (TL.v (gF Kb0) ?_));refine TL.v (gL 1 Kb) ?_;refine TL.v (gF Kcx) ?_;refine TL.v (gL 1 Kb) ?_;refine TL.v (gF KbQ) ?_;refine TL.v (gL 1 Kb) ?_;refine TL.w rfl (Kt (v := .agg #[.int .i64 r.v, .int .i64 r.run, .int .i64 r.num]) rfl rfl (fun w => KeV _ _ _ w)) ?_;refine TL.ps 0 K9 ?_;refine zET (zr ?_);exact KaN (k := 0) Tryz.results104 rfl rfl Tryz.underlying73 rfl rfl (fun w1 hw => ⟨rfl, hw.bel⟩)
theorem Kfr (r : Rs) (w : World) :
  Calls Tryz.prog 135 #[.agg r.cells.toArray] w fun e w' => e = .returned (.agg (KC r).cells.toArray) /\ Below w.heap.size w w' := by
 refine Kh Tryz.func135 rfl rfl rfl ?_ (Pm.start w);refine zSG ?_;refine TL.bx fun g1 => ?_;refine TL.al Keq fun g2 => ?_;refine zET (zSG (TL.v (gF Kb0) ?_));refine TL.v (gL 1 Kb) ?_;refine TL.v (gF Kcs) ?_;refine TL.v (gL 1 KO) ?_;refine TL.v (gF KbI) ?_;refine TL.v (gL 1 Kb) ?_;refine TL.w rfl (Kt (v := .agg #[.int .i64 r.v, .int .u32 r.dst, .int .i64 r.proto]) rfl rfl (fun w => Kgb _ _ _ w)) ?_;refine TL.ps 0 Kaj ?_;refine zET (zr ?_);exact KaN (k := 0) Tryz.results135 rfl rfl Tryz.underlying32 rfl rfl (fun w1 hw => ⟨rfl, hw.bel⟩)
theorem KdG (r : Rs) (w : World) :
  Calls Tryz.prog 47 #[.agg r.cells.toArray] w fun e w' => e = .returned (.agg (Kq r).cells.toArray) /\ Below w.heap.size w w' := by
 refine Kh Tryz.func47 rfl rfl rfl ?_ (Pm.start w);refine zSG ?_;refine TL.bx fun g1 => ?_;refine TL.al Kep fun g2 => ?_;refine zET (zSG (TL.v (gF Kb0) ?_));refine TL.v (gL 1 Kb) ?_;refine TL.v (gF Kcx) ?_;refine TL.v (gL 1 Kb) ?_;refine TL.v (gF KbQ) ?_;refine TL.v (gL 1 Kb) ?_;refine TL.w rfl (Kt (v := .agg #[.int .i64 r.v, .int .i64 r.run, .int .i64 r.num]) rfl rfl (fun w => KeV _ _ _ w)) ?_;refine TL.ps 0 K9 ?_;refine zET (zr ?_);exact KaN (k := 0) Tryz.results47 rfl rfl Tryz.underlying73 rfl rfl (fun w1 hw => ⟨rfl, hw.bel⟩)
theorem Kho (r : Rs) (w : World) :
  Calls Tryz.prog 69 #[.agg r.cells.toArray] w fun e w' => e = .returned (.agg (KC r).cells.toArray) /\ Below w.heap.size w w' := by
 refine Kh Tryz.func69 rfl rfl rfl ?_ (Pm.start w);refine zSG ?_;refine TL.bx fun g1 => ?_;refine TL.al Keq fun g2 => ?_;refine zET (zSG (TL.v (gF Kb0) ?_));refine TL.v (gL 1 Kb) ?_;refine TL.v (gF Kcs) ?_;refine TL.v (gL 1 KO) ?_;refine TL.v (gF KbI) ?_;refine TL.v (gL 1 Kb) ?_;refine TL.w rfl (Kt (v := .agg #[.int .i64 r.v, .int .u32 r.dst, .int .i64 r.proto]) rfl rfl (fun w => Kgb _ _ _ w)) ?_;refine TL.ps 0 Kaj ?_;refine zET (zr ?_);exact KaN (k := 0) Tryz.results69 rfl rfl Tryz.underlying32 rfl rfl (fun w1 hw => ⟨rfl, hw.bel⟩)
set_option maxRecDepth 20000
structure Rp where
 kind : Int
 v : Int
 dst : Int
 proto : Int
 flow : Int
 ttl : Int
 at_ : Int
 prov : Int
deriving DecidableEq
def Rp.cells (r : Rp) : List Value := [.int .i64 r.kind, .int .i64 r.v, .int .u32 r.dst, .int .i64 r.proto, .int .i64 r.flow, .int .i64 r.ttl, .int .i64 r.at_, .int .i64 r.prov]
theorem Kcd : Cel Rp.cells 8 := ⟨fun _ => rfl, fun r u hu => by
 simp only [Rp.cells, List.mem_cons, List.not_mem_nil, or_false] at hu;rcases hu with rfl | rfl | rfl | rfl | rfl | rfl | rfl | rfl <;> rfl⟩
structure Ru where
 los : Int
 gro : Int
 prb : Int
deriving DecidableEq
def Ru.cells (r : Ru) : List Value := [.int .i64 r.los, .int .i64 r.gro, .int .i64 r.prb]
theorem KcU : Cel Ru.cells 3 := ⟨fun _ => rfl, fun r u hu => by
 simp only [Ru.cells, List.mem_cons, List.not_mem_nil, or_false] at hu;rcases hu with rfl | rfl | rfl <;> rfl⟩
def KW (u : Ru) : Bool := decide (1 <= u.los /\ u.los <= 64 /\ 1 <= u.prb /\ u.prb <= 64 /\ 1 <= u.gro /\ u.gro <= 1125899906842624)
def Rp.rs (p : Rp) : Rs := ⟨p.v, 0, 0, 0, p.dst, p.proto, p.flow, 1, false, false, 0, 0, 0, 0, 0, 0, 0⟩
def Kr (p : Rp) : Bool := Km p.rs && decide (0 <= p.ttl /\ p.ttl <= 255 /\ 0 <= p.at_ /\ p.at_ <= 2251799813685248 /\ 0 <= p.prov /\ p.prov <= 2147483647 /\ ((p.kind = 1 /\ p.ttl = 0 /\ p.prov = 0) \/ (p.kind = 2 /\ 0 < p.ttl /\ 0 < p.prov) \/ (p.kind = 3 /\ 0 < p.ttl /\ p.prov = 0)))
def Rp.keys (p : Rp) : List Int := [p.kind, p.v, p.dst, p.proto, p.flow, p.ttl, p.at_, p.prov]
def Kdp (x y : Rp) : Int := orI [Kl x.kind y.kind, Kl x.v y.v, Kl x.dst y.dst, Kl x.proto y.proto, Kl x.flow y.flow, Kl x.ttl y.ttl, Kl x.at_ y.at_, Kl x.prov y.prov]
def Rp.Ok (p : Rp) : Prop := 0 <= p.dst /\ p.dst <= 4294967295
theorem Kin {P : Program} {N : Fr} {E : Env} {o : Oper} {I : World -> Prop} {x y : Operand} {ts : Array TypeId} {a b : Int} (ho : o.op = .call { callee := .builtin .min, args := #[x, y], argTypes := ts }) (hx : ev E x = some (.int .i64 a)) (hy : ev E y = some (.int .i64 b)) : KB P N o E I (.int .i64 (min a b)) := fun ac w ha _ => by
 unfold execOp; rw [ho];simp only [resolve, invoke, builtin, Sem.run_bind, Sem.run_pure, Result.andThen_ok, List.map_toArray, List.map_cons, List.map_nil, ha.eval hx, ha.eval hy];simp [go_sem, Builtin.min_, Builtin.min2]
 try omega
theorem KcF : FA Tryz.prog 28 0 0 := fun g o w => by kernel_rfl
theorem Kbt : FA Tryz.prog 28 2 2 := fun g o w => by kernel_rfl
theorem Kds : FA Tryz.prog 28 1 1 := fun g o w => by kernel_rfl
theorem Kay : FA Tryz.prog 34 1 1 := fun g o w => by kernel_rfl
theorem Kci : FA Tryz.prog 34 2 4 := fun g o w => by kernel_rfl
theorem Keh (a0_0 : Int) (a4_0 : Int) (a5_0 : Int) (a6_0 : Int) (a7_0 : Int) (w : World) : (Instr.build 65 #[(0, .int .i64 a0_0), (4, .int .u32 a4_0), (5, .int .i64 a5_0), (6, .int .i64 a6_0), (7, .int .i64 a7_0)]).run Tryz.prog w = .ok (.agg #[.int .i64 a0_0, .int .i64 0, .int .i64 0, .int .i64 0, .int .u32 a4_0, .int .i64 a5_0, .int .i64 a6_0, .int .i64 a7_0, .bool false, .bool false, .int .i64 0, .int .u32 0, .int .i64 0, .int .i64 0, .int .i64 0, .int .i64 0, .int .i64 0]) w := by kernel_rfl
theorem Kab (w : World) : (zeroValue 65).run Tryz.prog w = .ok (.agg #[.int .i64 0, .int .i64 0, .int .i64 0, .int .i64 0, .int .u32 0, .int .i64 0, .int .i64 0, .int .i64 0, .bool false, .bool false, .int .i64 0, .int .u32 0, .int .i64 0, .int .i64 0, .int .i64 0, .int .i64 0, .int .i64 0]) w := rfl
theorem Knr {a0 : Int} {a1 : Int} {a2 : Int} {a3 : Int} {a4 : Int} {a5 : Int} {a6 : Int} {a7 : Int} {a8 : Bool} {a9 : Bool} {a10 : Int} {a11 : Int} {a12 : Int} {a13 : Int} {a14 : Int} {a15 : Int} {a16 : Int} : ∀ u ∈ [(.int .i64 a0 : Value), .int .i64 a1, .int .i64 a2, .int .i64 a3, .int .u32 a4, .int .i64 a5, .int .i64 a6, .int .i64 a7, .bool a8, .bool a9, .int .i64 a10, .int .u32 a11, .int .i64 a12, .int .i64 a13, .int .i64 a14, .int .i64 a15, .int .i64 a16], u.oneCell' = true := by
 intro u hu;simp only [List.mem_cons, List.not_mem_nil, or_false] at hu;rcases hu with rfl | rfl | rfl | rfl | rfl | rfl | rfl | rfl | rfl | rfl | rfl | rfl | rfl | rfl | rfl | rfl | rfl <;> rfl
theorem Kbd : FA Tryz.prog 34 3 5 := fun g o w => by kernel_rfl
theorem KaS : FA Tryz.prog 34 4 6 := fun g o w => by kernel_rfl
theorem KaE : FA Tryz.prog 34 5 7 := fun g o w => by kernel_rfl
theorem Kat : FA Tryz.prog 34 0 0 := fun g o w => by kernel_rfl
theorem Kf7 (a0_0 : Int) (a1_0 : Int) (a2_0 : Int) (a3_0 : Int) (a4_0 : Int) (a5_0 : Int) (a6_0 : Int) (a7_0 : Int) (w : World) : (Instr.buildSlice 106 8 #[(0, .int .i64 a0_0), (1, .int .i64 a1_0), (2, .int .i64 a2_0), (3, .int .i64 a3_0), (4, .int .i64 a4_0), (5, .int .i64 a5_0), (6, .int .i64 a6_0), (7, .int .i64 a7_0)]).run Tryz.prog w = .ok (.slice (some ⟨w.heap.size, 0, none⟩) 8 8) (w.alloc (.cells [.int .i64 a0_0, .int .i64 a1_0, .int .i64 a2_0, .int .i64 a3_0, .int .i64 a4_0, .int .i64 a5_0, .int .i64 a6_0, .int .i64 a7_0].toArray 3)) := by kernel_rfl
theorem KeB (u : Ru) (w : World) :
  Calls Tryz.prog 24 #[.agg u.cells.toArray] w fun e w' => e = .returned (.bool (KW u)) /\ Below w.heap.size w w' := by
 refine Kh Tryz.func24 rfl rfl rfl ?_ (Pm.start w);refine zSG ?_;refine TL.bx fun g1 => ?_;refine TL.as_ ?_;refine zET (zSG (TL.v (gF KcF) ?_));refine TL.v (gL 0 Kb) ?_;refine TL.v (gF Kbt) ?_;refine TL.v (gL 0 Kb) ?_;refine TL.w rfl (Kin rfl rfl rfl) ?_;refine TL.sp K3 (fun q8 => ?_) (fun q8 => ?_)
 ·refine TL.mv ?_;refine TL.ov (gF KcF) ?_;refine TL.ov (gL 0 Kb) ?_;refine TL.ov (gF Kbt) ?_;refine TL.ov (gL 0 Kb) ?_;refine TL.gu ?_;refine TL.w rfl (Kk8 rfl rfl rfl) ?_;refine TL.gu ?_;refine TL.sp KaB (fun q15 => ?_) (fun q15 => ?_)
  ·refine TL.rn 2 rfl (TL.ov (gF Kds) ?_);refine TL.ov (gL 0 Kb) ?_;refine TL.gu ?_;refine TL.sp K3 (fun q20 => ?_) (fun q20 => ?_)
   ·refine TL.rn 2 rfl (TL.ov (gF Kds) ?_);refine TL.ov (gL 0 Kb) ?_;refine TL.gu ?_;refine TL.sp KaB (fun q25 => ?_) (fun q25 => ?_)
    ·refine TL.rn 2 rfl (zET (zr ?_));have hE : KW u = true := by unfold KW; exact decide_eq_true (by omega)
     exact Kc Tryz.results24 rfl (fun w1 hw => ⟨by rw [hE], hw.bel⟩)
    refine TL.rn 2 rfl (zET (zr ?_));have hE : KW u = false := by unfold KW; exact decide_eq_false (by omega)
    exact Kc Tryz.results24 rfl (fun w1 hw => ⟨by rw [hE], hw.bel⟩)
   refine TL.rn 7 rfl (zET (zr ?_));have hE : KW u = false := by unfold KW; exact decide_eq_false (by omega)
   exact Kc Tryz.results24 rfl (fun w1 hw => ⟨by rw [hE], hw.bel⟩)
  refine TL.rn 12 rfl (zET (zr ?_));have hE : KW u = false := by unfold KW; exact decide_eq_false (by omega)
  exact Kc Tryz.results24 rfl (fun w1 hw => ⟨by rw [hE], hw.bel⟩)
 refine TL.rn 19 rfl (zET (zr ?_));have hE : KW u = false := by unfold KW; exact decide_eq_false (by omega)
 exact Kc Tryz.results24 rfl (fun w1 hw => ⟨by rw [hE], hw.bel⟩)
theorem Kga (u : Ru) (w : World) :
  Calls Tryz.prog 25 #[.agg u.cells.toArray] w fun e w' => e = .returned (.bool (KW u)) /\ Below w.heap.size w w' := by
 refine Kh Tryz.func25 rfl rfl rfl ?_ (Pm.start w);refine zSG ?_;refine TL.bx fun g1 => ?_;refine TL.as_ ?_;refine zET (zSG (TL.v (gF KcF) ?_));refine TL.v (gL 0 Kb) ?_;refine TL.sp K3 (fun q5 => ?_) (fun q5 => ?_)
 ·refine TL.mv ?_;refine TL.ov (gF KcF) ?_;refine TL.ov (gL 0 Kb) ?_;refine TL.gu ?_;refine TL.sp KaB (fun q9 => ?_) (fun q9 => ?_)
  ·refine TL.rn 2 rfl (TL.ov (gF Kbt) ?_);refine TL.ov (gL 0 Kb) ?_;refine TL.gu ?_;refine TL.sp K3 (fun q14 => ?_) (fun q14 => ?_)
   ·refine TL.rn 2 rfl (TL.ov (gF Kbt) ?_);refine TL.ov (gL 0 Kb) ?_;refine TL.gu ?_;refine TL.sp KaB (fun q19 => ?_) (fun q19 => ?_)
    ·refine TL.rn 2 rfl (TL.ov (gF Kds) ?_);refine TL.ov (gL 0 Kb) ?_;refine TL.gu ?_;refine TL.sp K3 (fun q24 => ?_) (fun q24 => ?_)
     ·refine TL.rn 2 rfl (TL.ov (gF Kds) ?_);refine TL.ov (gL 0 Kb) ?_;refine TL.gu ?_;refine TL.sp KaB (fun q29 => ?_) (fun q29 => ?_)
      ·refine TL.rn 2 rfl (zET (zr ?_));have hE : KW u = true := by unfold KW; exact decide_eq_true (by omega)
       exact Kc Tryz.results25 rfl (fun w1 hw => ⟨by rw [hE], hw.bel⟩)
      refine TL.rn 2 rfl (zET (zr ?_));have hE : KW u = false := by unfold KW; exact decide_eq_false (by omega)
      exact Kc Tryz.results25 rfl (fun w1 hw => ⟨by rw [hE], hw.bel⟩)
     refine TL.rn 7 rfl (zET (zr ?_));have hE : KW u = false := by unfold KW; exact decide_eq_false (by omega)
     exact Kc Tryz.results25 rfl (fun w1 hw => ⟨by rw [hE], hw.bel⟩)
    refine TL.rn 12 rfl (zET (zr ?_));have hE : KW u = false := by unfold KW; exact decide_eq_false (by omega)
    exact Kc Tryz.results25 rfl (fun w1 hw => ⟨by rw [hE], hw.bel⟩)
   refine TL.rn 17 rfl (zET (zr ?_));have hE : KW u = false := by unfold KW; exact decide_eq_false (by omega)
   exact Kc Tryz.results25 rfl (fun w1 hw => ⟨by rw [hE], hw.bel⟩)
  refine TL.rn 22 rfl (zET (zr ?_));have hE : KW u = false := by unfold KW; exact decide_eq_false (by omega)
  exact Kc Tryz.results25 rfl (fun w1 hw => ⟨by rw [hE], hw.bel⟩)
 refine TL.rn 26 rfl (zET (zr ?_));have hE : KW u = false := by unfold KW; exact decide_eq_false (by omega)
 exact Kc Tryz.results25 rfl (fun w1 hw => ⟨by rw [hE], hw.bel⟩)
theorem Kgw (p : Rp) (w : World) :
  Calls Tryz.prog 27 #[.agg p.cells.toArray] w fun e w' => e = .returned (.bool (Kr p)) /\ Below w.heap.size w w' := by
 refine Kh Tryz.func27 rfl rfl rfl ?_ (Pm.start w);refine zSG ?_;refine TL.bx fun g1 => ?_;refine TL.as_ ?_;refine zET (zSG (TL.v (gF Kay) ?_));refine TL.v (gF Kbo) ?_;refine TL.v (gL 0 Kb) ?_;refine TL.v (gF Kay) ?_;refine TL.v (gF KbR) ?_;refine TL.v (gL 0 KO) ?_;refine TL.v (gF Kay) ?_;refine TL.v (gF KbT) ?_;refine TL.v (gL 0 Kb) ?_;refine TL.v (gF Kci) ?_;refine TL.v (gL 0 Kb) ?_;refine TL.w rfl (Kt (v := .agg #[.int .i64 p.v, .int .i64 0, .int .i64 0, .int .i64 0, .int .u32 p.dst, .int .i64 p.proto, .int .i64 p.flow, .int .i64 1, .bool false, .bool false, .int .i64 0, .int .u32 0, .int .i64 0, .int .i64 0, .int .i64 0, .int .i64 0, .int .i64 0]) rfl rfl (fun w => Keh _ _ _ _ _ w)) ?_;refine TL.al Kab fun g3 => ?_;refine TL.ps 0 Kd ?_;refine zET (zS (zSG (TL.v (gV 0 (.agg #[.int .i64 p.v, .int .i64 0, .int .i64 0, .int .i64 0, .int .u32 p.dst, .int .i64 p.proto, .int .i64 p.flow, .int .i64 1, .bool false, .bool false, .int .i64 0, .int .u32 0, .int .i64 0, .int .i64 0, .int .i64 0, .int .i64 0, .int .i64 0]) Ku Kd) ?_)));refine TL.pS rfl o70 (fun w1 hw => KcY (⟨p.v, 0, 0, 0, p.dst, p.proto, p.flow, 1, false, false, 0, 0, 0, 0, 0, 0, 0⟩ : Rs) w1) (fun h18 => ?_) (fun h18 => ?_)
 ·refine TL.rn 2 rfl (TL.ov (gF Kbd) ?_);refine TL.ov (gL 1 Kb) ?_;refine TL.gu ?_;refine TL.sp Kk (fun q23 => ?_) (fun q23 => ?_)
  ·refine TL.rn 26 rfl (zET (zc (zSG (TL.as_ ?_))));refine zET (zr (zR ?_));have hE : Kr p = false := by unfold Kr; rw [show Km p.rs = true from h18, Bool.true_and]; exact decide_eq_false (by omega)
   exact Kc Tryz.results27 rfl (fun w1 hw => ⟨by rw [hE], hw.bel⟩)
  refine TL.rn 2 rfl (TL.ov (gF Kbd) ?_);refine TL.ov (gL 1 Kb) ?_;refine TL.gu ?_;refine TL.sp KK (fun q28 => ?_) (fun q28 => ?_)
  ·refine TL.rn 21 rfl (zET (zc (zSG (TL.as_ ?_))));refine zET (zr (zR ?_));have hE : Kr p = false := by unfold Kr; rw [show Km p.rs = true from h18, Bool.true_and]; exact decide_eq_false (by omega)
   exact Kc Tryz.results27 rfl (fun w1 hw => ⟨by rw [hE], hw.bel⟩)
  refine TL.rn 2 rfl (TL.ov (gF KaS) ?_);refine TL.ov (gL 1 Kb) ?_;refine TL.gu ?_;refine TL.sp Kk (fun q33 => ?_) (fun q33 => ?_)
  ·refine TL.rn 16 rfl (zET (zc (zSG (TL.as_ ?_))));refine zET (zr (zR ?_));have hE : Kr p = false := by unfold Kr; rw [show Km p.rs = true from h18, Bool.true_and]; exact decide_eq_false (by omega)
   exact Kc Tryz.results27 rfl (fun w1 hw => ⟨by rw [hE], hw.bel⟩)
  refine TL.rn 2 rfl (TL.ov (gF KaS) ?_);refine TL.ov (gL 1 Kb) ?_;refine TL.gu ?_;refine TL.sp KK (fun q38 => ?_) (fun q38 => ?_)
  ·refine TL.rn 11 rfl (zET (zc (zSG (TL.as_ ?_))));refine zET (zr (zR ?_));have hE : Kr p = false := by unfold Kr; rw [show Km p.rs = true from h18, Bool.true_and]; exact decide_eq_false (by omega)
   exact Kc Tryz.results27 rfl (fun w1 hw => ⟨by rw [hE], hw.bel⟩)
  refine TL.rn 2 rfl (TL.ov (gF KaE) ?_);refine TL.ov (gL 1 Kb) ?_;refine TL.gu ?_;refine TL.sp Kk (fun q43 => ?_) (fun q43 => ?_)
  ·refine TL.rn 6 rfl (zET (zc (zSG (TL.as_ ?_))));refine zET (zr (zR ?_));have hE : Kr p = false := by unfold Kr; rw [show Km p.rs = true from h18, Bool.true_and]; exact decide_eq_false (by omega)
   exact Kc Tryz.results27 rfl (fun w1 hw => ⟨by rw [hE], hw.bel⟩)
  refine TL.rn 2 rfl (TL.ov (gF KaE) ?_);refine TL.ov (gL 1 Kb) ?_;refine TL.gu ?_;refine TL.sp KK (fun q48 => ?_) (fun q48 => ?_)
  ·refine TL.pk ?_;refine zET (zc (zSG (TL.as_ ?_)));refine zET (zr (zR ?_));have hE : Kr p = false := by unfold Kr; rw [show Km p.rs = true from h18, Bool.true_and]; exact decide_eq_false (by omega)
   exact Kc Tryz.results27 rfl (fun w1 hw => ⟨by rw [hE], hw.bel⟩)
  refine TL.pk ?_;refine zET (zd (zk (zT (zSG (TL.v (gF Kbd) ?_)))));refine TL.v (gL 1 Kb) ?_;refine TL.sp KK (fun q52 => ?_) (fun q52 => ?_)
  ·refine TL.as_ ?_;refine zET (zS (zSG (TL.v (gF Kat) ?_)));refine TL.v (gL 1 Kb) ?_;refine zET (zB (zS (zB (zS (zB (zS (zB (zS (zS (zSG ?_))))))))));refine TL.sp Kx (fun q56 => ?_) (fun q56 => ?_)
   ·refine TL.as_ ?_;refine zET (zc (zx (zX (zX (zM (zT (zG (TL.v (gF Kbd) ?_))))))));refine TL.v (gL 1 Kb) ?_;refine TL.sp Kx (fun q63 => ?_) (fun q63 => ?_)
    ·refine TL.as_ ?_;refine zE (zN (zT (zS (zSG (TL.rn 2 rfl (TL.ov (gF KaE) ?_))))));refine TL.ov (gL 1 Kb) ?_;refine TL.gu ?_;refine TL.sp Kx (fun q68 => ?_) (fun q68 => ?_)
     ·refine TL.rn 2 rfl (zET (zr (zR (zRR (zRR ?_)))));have hE : Kr p = true := by unfold Kr; rw [show Km p.rs = true from h18, Bool.true_and]; exact decide_eq_true (by omega)
      exact Kc Tryz.results27 rfl (fun w1 hw => ⟨by rw [hE], hw.bel⟩)
     refine TL.rn 2 rfl (zET (zr (zR (zRR (zRR ?_)))));have hE : Kr p = false := by unfold Kr; rw [show Km p.rs = true from h18, Bool.true_and]; exact decide_eq_false (by omega)
     exact Kc Tryz.results27 rfl (fun w1 hw => ⟨by rw [hE], hw.bel⟩)
    refine TL.as_ ?_;refine zE (zN (zT (zS (zSG (TL.rn 7 rfl (zET (zr (zR (zRR (zRR ?_))))))))));have hE : Kr p = false := by unfold Kr; rw [show Km p.rs = true from h18, Bool.true_and]; exact decide_eq_false (by omega)
    exact Kc Tryz.results27 rfl (fun w1 hw => ⟨by rw [hE], hw.bel⟩)
   refine TL.as_ ?_;refine zET (zd (zk (zT (zS (zSG ?_)))));refine TL.sp Kx (fun q58 => ?_) (fun q58 => ?_)
   ·refine TL.as_ ?_;refine zET (zc (zx (zX (zX (zO (zX (zM (zT (zS (zSG (TL.rn 2 rfl (TL.ov (gF KaE) ?_))))))))))));refine TL.ov (gL 1 Kb) ?_;refine TL.gu ?_;refine TL.sp Kx (fun q68 => ?_) (fun q68 => ?_)
    ·refine TL.rn 2 rfl (zET (zr (zR (zRR (zRR ?_)))));have hE : Kr p = true := by unfold Kr; rw [show Km p.rs = true from h18, Bool.true_and]; exact decide_eq_true (by omega)
     exact Kc Tryz.results27 rfl (fun w1 hw => ⟨by rw [hE], hw.bel⟩)
    refine TL.rn 2 rfl (zET (zr (zR (zRR (zRR ?_)))));have hE : Kr p = false := by unfold Kr; rw [show Km p.rs = true from h18, Bool.true_and]; exact decide_eq_false (by omega)
    exact Kc Tryz.results27 rfl (fun w1 hw => ⟨by rw [hE], hw.bel⟩)
   refine TL.as_ ?_;refine zET (zd (zk (zT (zSG ?_))));refine TL.sp Kx (fun q60 => ?_) (fun q60 => ?_)
   ·refine TL.as_ ?_;refine zET (zc (zx (zX (zO (zX (zO (zX (zM (zT (zS (zSG (TL.rn 2 rfl (TL.ov (gF KaE) ?_)))))))))))));refine TL.ov (gL 1 Kb) ?_;refine TL.gu ?_;refine TL.sp KK (fun q74 => ?_) (fun q74 => ?_)
    ·refine TL.rn 2 rfl (zET (zr (zR (zRR ?_))));have hE : Kr p = true := by unfold Kr; rw [show Km p.rs = true from h18, Bool.true_and]; exact decide_eq_true (by omega)
     exact Kc Tryz.results27 rfl (fun w1 hw => ⟨by rw [hE], hw.bel⟩)
    refine TL.rn 2 rfl (zET (zr (zR (zRR ?_))));have hE : Kr p = false := by unfold Kr; rw [show Km p.rs = true from h18, Bool.true_and]; exact decide_eq_false (by omega)
    exact Kc Tryz.results27 rfl (fun w1 hw => ⟨by rw [hE], hw.bel⟩)
   refine TL.as_ ?_;refine zET (zd (zk (zT (zx (zO (zX (zO (zX (zO (zX (zM (zT (zSG (TL.as_ ?_))))))))))))));refine zET (zr ?_);have hE : Kr p = false := by unfold Kr; rw [show Km p.rs = true from h18, Bool.true_and]; exact decide_eq_false (by omega)
   exact Kc Tryz.results27 rfl (fun w1 hw => ⟨by rw [hE], hw.bel⟩)
  refine TL.as_ ?_;refine zET (zS (zSG (TL.v (gF Kat) ?_)));refine TL.v (gL 1 Kb) ?_;refine zET (zB (zS (zB (zS (zB (zS (zB (zS (zS (zSG ?_))))))))));refine TL.sp Kx (fun q56 => ?_) (fun q56 => ?_)
  ·refine TL.as_ ?_;refine zET (zc (zx (zX (zX (zM (zT (zG (TL.v (gF Kbd) ?_))))))));refine TL.v (gL 1 Kb) ?_;refine TL.sp Kx (fun q63 => ?_) (fun q63 => ?_)
   ·refine TL.as_ ?_;refine zE (zN (zT (zS (zSG (TL.rn 2 rfl (TL.ov (gF KaE) ?_))))));refine TL.ov (gL 1 Kb) ?_;refine TL.gu ?_;refine TL.sp Kx (fun q68 => ?_) (fun q68 => ?_)
    ·refine TL.rn 2 rfl (zET (zr (zR (zRR (zRR ?_)))));have hE : Kr p = true := by unfold Kr; rw [show Km p.rs = true from h18, Bool.true_and]; exact decide_eq_true (by omega)
     exact Kc Tryz.results27 rfl (fun w1 hw => ⟨by rw [hE], hw.bel⟩)
    refine TL.rn 2 rfl (zET (zr (zR (zRR (zRR ?_)))));have hE : Kr p = false := by unfold Kr; rw [show Km p.rs = true from h18, Bool.true_and]; exact decide_eq_false (by omega)
    exact Kc Tryz.results27 rfl (fun w1 hw => ⟨by rw [hE], hw.bel⟩)
   refine TL.as_ ?_;refine zE (zN (zT (zS (zSG (TL.rn 7 rfl (zET (zr (zR (zRR (zRR ?_))))))))));have hE : Kr p = false := by unfold Kr; rw [show Km p.rs = true from h18, Bool.true_and]; exact decide_eq_false (by omega)
   exact Kc Tryz.results27 rfl (fun w1 hw => ⟨by rw [hE], hw.bel⟩)
  refine TL.as_ ?_;refine zET (zd (zk (zT (zS (zSG ?_)))));refine TL.sp Kx (fun q58 => ?_) (fun q58 => ?_)
  ·refine TL.as_ ?_;refine zET (zc (zx (zX (zX (zO (zX (zM (zT (zS (zSG (TL.rn 7 rfl (zET (zr (zR (zRR (zRR ?_))))))))))))))));have hE : Kr p = false := by unfold Kr; rw [show Km p.rs = true from h18, Bool.true_and]; exact decide_eq_false (by omega)
   exact Kc Tryz.results27 rfl (fun w1 hw => ⟨by rw [hE], hw.bel⟩)
  refine TL.as_ ?_;refine zET (zd (zk (zT (zSG ?_))));refine TL.sp Kx (fun q60 => ?_) (fun q60 => ?_)
  ·refine TL.as_ ?_;refine zET (zc (zx (zX (zO (zX (zO (zX (zM (zT (zS (zSG (TL.rn 7 rfl (zET (zr (zR (zRR ?_))))))))))))))));have hE : Kr p = false := by unfold Kr; rw [show Km p.rs = true from h18, Bool.true_and]; exact decide_eq_false (by omega)
   exact Kc Tryz.results27 rfl (fun w1 hw => ⟨by rw [hE], hw.bel⟩)
  refine TL.as_ ?_;refine zET (zd (zk (zT (zx (zO (zX (zO (zX (zO (zX (zM (zT (zSG (TL.as_ ?_))))))))))))));refine zET (zr ?_);have hE : Kr p = false := by unfold Kr; rw [show Km p.rs = true from h18, Bool.true_and]; exact decide_eq_false (by omega)
  exact Kc Tryz.results27 rfl (fun w1 hw => ⟨by rw [hE], hw.bel⟩)
 refine TL.rn 31 rfl (zET (zc (zSG (TL.as_ ?_))));refine zET (zr (zR ?_));have hE : Kr p = false := by unfold Kr; rw [show Km p.rs = false from h18]; rfl
 exact Kc Tryz.results27 rfl (fun w1 hw => ⟨by rw [hE], hw.bel⟩)
theorem Kgf (p : Rp) (w : World) :
  Calls Tryz.prog 28 #[.agg p.cells.toArray] w fun e w' => e = .returned (.bool (Kr p)) /\ Below w.heap.size w w' := by
 refine Kh Tryz.func28 rfl rfl rfl ?_ (Pm.start w);refine zSG ?_;refine TL.bx fun g1 => ?_;refine TL.as_ ?_;refine zET (zS (zSG (TL.v (gF Kat) ?_)));refine TL.v (gL 0 Kb) ?_;refine TL.sp Kk (fun q5 => ?_) (fun q5 => ?_)
 ·refine TL.rn 53 rfl (zET (zc (zSG (TL.as_ ?_))));refine zET (zr (zR ?_));have hE : Kr p = false := by unfold Kr; rw [Bool.and_eq_false_iff]; exact .inr (decide_eq_false (by omega))
  exact Kc Tryz.results28 rfl (fun w1 hw => ⟨by rw [hE], hw.bel⟩)
 refine TL.mv ?_;refine TL.ov (gF Kat) ?_;refine TL.ov (gL 0 Kb) ?_;refine TL.gu ?_;refine TL.sp KK (fun q9 => ?_) (fun q9 => ?_)
 ·refine TL.rn 49 rfl (zET (zc (zSG (TL.as_ ?_))));refine zET (zr (zR ?_));have hE : Kr p = false := by unfold Kr; rw [Bool.and_eq_false_iff]; exact .inr (decide_eq_false (by omega))
  exact Kc Tryz.results28 rfl (fun w1 hw => ⟨by rw [hE], hw.bel⟩)
 refine TL.rn 2 rfl (TL.ov (gF Kbd) ?_);refine TL.ov (gL 0 Kb) ?_;refine TL.gu ?_;refine TL.sp Kk (fun q14 => ?_) (fun q14 => ?_)
 ·refine TL.rn 44 rfl (zET (zc (zSG (TL.as_ ?_))));refine zET (zr (zR ?_));have hE : Kr p = false := by unfold Kr; rw [Bool.and_eq_false_iff]; exact .inr (decide_eq_false (by omega))
  exact Kc Tryz.results28 rfl (fun w1 hw => ⟨by rw [hE], hw.bel⟩)
 refine TL.rn 2 rfl (TL.ov (gF Kbd) ?_);refine TL.ov (gL 0 Kb) ?_;refine TL.gu ?_;refine TL.sp KK (fun q19 => ?_) (fun q19 => ?_)
 ·refine TL.rn 39 rfl (zET (zc (zSG (TL.as_ ?_))));refine zET (zr (zR ?_));have hE : Kr p = false := by unfold Kr; rw [Bool.and_eq_false_iff]; exact .inr (decide_eq_false (by omega))
  exact Kc Tryz.results28 rfl (fun w1 hw => ⟨by rw [hE], hw.bel⟩)
 refine TL.rn 2 rfl (TL.ov (gF Kbd) ?_);refine TL.ov (gL 0 Kb) ?_;refine TL.gu ?_;refine TL.sp Kx (fun q24 => ?_) (fun q24 => ?_)
 ·refine TL.ov (gF Kat) ?_;refine TL.ov (gL 0 Kb) ?_;refine TL.gu ?_;refine TL.sp Kx (fun q27 => ?_) (fun q27 => ?_)
  ·refine TL.gu ?_;refine TL.w rfl (Kac (v := .bool false) rfl rfl rfl (fun w => KbK Tryz.underlying4 true true w)) ?_;refine TL.rn 2 rfl (TL.ov (gF KaS) ?_);refine TL.ov (gL 0 Kb) ?_;refine TL.gu ?_;refine TL.sp Kk (fun q33 => ?_) (fun q33 => ?_)
   ·refine TL.rn 25 rfl (zET (zc (zSG (TL.as_ ?_))));refine zET (zr (zR ?_));have hE : Kr p = false := by unfold Kr; rw [Bool.and_eq_false_iff]; exact .inr (decide_eq_false (by omega))
    exact Kc Tryz.results28 rfl (fun w1 hw => ⟨by rw [hE], hw.bel⟩)
   refine TL.rn 2 rfl (TL.ov (gF KaS) ?_);refine TL.ov (gL 0 Kb) ?_;refine TL.gu ?_;refine TL.sp KK (fun q38 => ?_) (fun q38 => ?_)
   ·refine TL.rn 20 rfl (zET (zc (zSG (TL.as_ ?_))));refine zET (zr (zR ?_));have hE : Kr p = false := by unfold Kr; rw [Bool.and_eq_false_iff]; exact .inr (decide_eq_false (by omega))
    exact Kc Tryz.results28 rfl (fun w1 hw => ⟨by rw [hE], hw.bel⟩)
   refine TL.rn 2 rfl (TL.ov (gF KaE) ?_);refine TL.ov (gL 0 Kb) ?_;refine TL.gu ?_;refine TL.sp Kk (fun q43 => ?_) (fun q43 => ?_)
   ·refine TL.rn 15 rfl (zET (zc (zSG (TL.as_ ?_))));refine zET (zr (zR ?_));have hE : Kr p = false := by unfold Kr; rw [Bool.and_eq_false_iff]; exact .inr (decide_eq_false (by omega))
    exact Kc Tryz.results28 rfl (fun w1 hw => ⟨by rw [hE], hw.bel⟩)
   refine TL.rn 2 rfl (TL.ov (gF KaE) ?_);refine TL.ov (gL 0 Kb) ?_;refine TL.gu ?_;refine TL.sp KK (fun q48 => ?_) (fun q48 => ?_)
   ·refine TL.rn 10 rfl (zET (zc (zSG (TL.as_ ?_))));refine zET (zr (zR ?_));have hE : Kr p = false := by unfold Kr; rw [Bool.and_eq_false_iff]; exact .inr (decide_eq_false (by omega))
    exact Kc Tryz.results28 rfl (fun w1 hw => ⟨by rw [hE], hw.bel⟩)
   refine TL.rn 2 rfl (TL.ov (gF KaE) ?_);refine TL.ov (gL 0 Kb) ?_;refine TL.gu ?_;refine TL.sp K5 (fun q53 => ?_) (fun q53 => ?_)
   ·refine TL.ov (gF Kat) ?_;refine TL.ov (gL 0 Kb) ?_;refine TL.gu ?_;refine TL.sp Kx (fun q56 => ?_) (fun q56 => ?_)
    ·refine TL.gu ?_;refine TL.w rfl (Kac (v := .bool false) rfl rfl rfl (fun w => KbK Tryz.underlying4 true true w)) ?_;refine TL.pk ?_;refine zET (zd (zk (zT (zSG (TL.v (gF Kay) ?_)))));refine TL.v (gF Kbo) ?_;refine TL.v (gL 0 Kb) ?_;refine TL.v (gF Kay) ?_;refine TL.v (gF KbR) ?_;refine TL.v (gL 0 KO) ?_;refine TL.v (gF Kay) ?_;refine TL.v (gF KbT) ?_;refine TL.v (gL 0 Kb) ?_;refine TL.v (gF Kci) ?_;refine TL.v (gL 0 Kb) ?_;refine TL.w rfl (Kt (v := .agg #[.int .i64 p.v, .int .i64 0, .int .i64 0, .int .i64 0, .int .u32 p.dst, .int .i64 p.proto, .int .i64 p.flow, .int .i64 1, .bool false, .bool false, .int .i64 0, .int .u32 0, .int .i64 0, .int .i64 0, .int .i64 0, .int .i64 0, .int .i64 0]) rfl rfl (fun w => Keh _ _ _ _ _ w)) ?_;refine TL.pS rfl o71 (fun w1 hw => Kdl (⟨p.v, 0, 0, 0, p.dst, p.proto, p.flow, 1, false, false, 0, 0, 0, 0, 0, 0, 0⟩ : Rs) w1) (fun h71 => ?_) (fun h71 => ?_)
     ·refine TL.as_ ?_;refine zET (zr ?_);have hE : Kr p = true := by unfold Kr; rw [show Km p.rs = true from h71, Bool.true_and]; exact decide_eq_true (by omega)
      exact Kc Tryz.results28 rfl (fun w1 hw => ⟨by rw [hE], hw.bel⟩)
     refine TL.as_ ?_;refine zET (zr ?_);have hE : Kr p = false := by unfold Kr; rw [show Km p.rs = false from h71]; rfl
     exact Kc Tryz.results28 rfl (fun w1 hw => ⟨by rw [hE], hw.bel⟩)
    refine TL.gu ?_;refine TL.w rfl (Kac (v := .bool true) rfl rfl rfl (fun w => KbK Tryz.underlying4 true false w)) ?_;refine TL.pk ?_;refine zET (zc (zSG (TL.as_ ?_)));refine zET (zr (zR ?_));have hE : Kr p = false := by unfold Kr; rw [Bool.and_eq_false_iff]; exact .inr (decide_eq_false (by omega))
    exact Kc Tryz.results28 rfl (fun w1 hw => ⟨by rw [hE], hw.bel⟩)
   refine TL.ov (gF Kat) ?_;refine TL.ov (gL 0 Kb) ?_;refine TL.gu ?_;refine TL.sp Kx (fun q56 => ?_) (fun q56 => ?_)
   ·refine TL.gu ?_;refine TL.w rfl (Kac (v := .bool true) rfl rfl rfl (fun w => KbK Tryz.underlying4 false true w)) ?_;refine TL.pk ?_;refine zET (zc (zSG (TL.as_ ?_)));refine zET (zr (zR ?_));have hE : Kr p = false := by unfold Kr; rw [Bool.and_eq_false_iff]; exact .inr (decide_eq_false (by omega))
    exact Kc Tryz.results28 rfl (fun w1 hw => ⟨by rw [hE], hw.bel⟩)
   refine TL.gu ?_;refine TL.w rfl (Kac (v := .bool false) rfl rfl rfl (fun w => KbK Tryz.underlying4 false false w)) ?_;refine TL.pk ?_;refine zET (zd (zk (zT (zSG (TL.v (gF Kay) ?_)))));refine TL.v (gF Kbo) ?_;refine TL.v (gL 0 Kb) ?_;refine TL.v (gF Kay) ?_;refine TL.v (gF KbR) ?_;refine TL.v (gL 0 KO) ?_;refine TL.v (gF Kay) ?_;refine TL.v (gF KbT) ?_;refine TL.v (gL 0 Kb) ?_;refine TL.v (gF Kci) ?_;refine TL.v (gL 0 Kb) ?_;refine TL.w rfl (Kt (v := .agg #[.int .i64 p.v, .int .i64 0, .int .i64 0, .int .i64 0, .int .u32 p.dst, .int .i64 p.proto, .int .i64 p.flow, .int .i64 1, .bool false, .bool false, .int .i64 0, .int .u32 0, .int .i64 0, .int .i64 0, .int .i64 0, .int .i64 0, .int .i64 0]) rfl rfl (fun w => Keh _ _ _ _ _ w)) ?_;refine TL.pS rfl o71 (fun w1 hw => Kdl (⟨p.v, 0, 0, 0, p.dst, p.proto, p.flow, 1, false, false, 0, 0, 0, 0, 0, 0, 0⟩ : Rs) w1) (fun h71 => ?_) (fun h71 => ?_)
   ·refine TL.as_ ?_;refine zET (zr ?_);have hE : Kr p = true := by unfold Kr; rw [show Km p.rs = true from h71, Bool.true_and]; exact decide_eq_true (by omega)
    exact Kc Tryz.results28 rfl (fun w1 hw => ⟨by rw [hE], hw.bel⟩)
   refine TL.as_ ?_;refine zET (zr ?_);have hE : Kr p = false := by unfold Kr; rw [show Km p.rs = false from h71]; rfl
   exact Kc Tryz.results28 rfl (fun w1 hw => ⟨by rw [hE], hw.bel⟩)
  refine TL.gu ?_;refine TL.w rfl (Kac (v := .bool true) rfl rfl rfl (fun w => KbK Tryz.underlying4 true false w)) ?_;refine TL.rn 30 rfl (zET (zc (zSG (TL.as_ ?_))));refine zET (zr (zR ?_));have hE : Kr p = false := by unfold Kr; rw [Bool.and_eq_false_iff]; exact .inr (decide_eq_false (by omega))
  exact Kc Tryz.results28 rfl (fun w1 hw => ⟨by rw [hE], hw.bel⟩)
 refine TL.ov (gF Kat) ?_;refine TL.ov (gL 0 Kb) ?_;refine TL.gu ?_;refine TL.sp Kx (fun q27 => ?_) (fun q27 => ?_)
 ·refine TL.gu ?_;refine TL.w rfl (Kac (v := .bool true) rfl rfl rfl (fun w => KbK Tryz.underlying4 false true w)) ?_;refine TL.rn 30 rfl (zET (zc (zSG (TL.as_ ?_))));refine zET (zr (zR ?_));have hE : Kr p = false := by unfold Kr; rw [Bool.and_eq_false_iff]; exact .inr (decide_eq_false (by omega))
  exact Kc Tryz.results28 rfl (fun w1 hw => ⟨by rw [hE], hw.bel⟩)
 refine TL.gu ?_;refine TL.w rfl (Kac (v := .bool false) rfl rfl rfl (fun w => KbK Tryz.underlying4 false false w)) ?_;refine TL.rn 2 rfl (TL.ov (gF KaS) ?_);refine TL.ov (gL 0 Kb) ?_;refine TL.gu ?_;refine TL.sp Kk (fun q33 => ?_) (fun q33 => ?_)
 ·refine TL.rn 25 rfl (zET (zc (zSG (TL.as_ ?_))));refine zET (zr (zR ?_));have hE : Kr p = false := by unfold Kr; rw [Bool.and_eq_false_iff]; exact .inr (decide_eq_false (by omega))
  exact Kc Tryz.results28 rfl (fun w1 hw => ⟨by rw [hE], hw.bel⟩)
 refine TL.rn 2 rfl (TL.ov (gF KaS) ?_);refine TL.ov (gL 0 Kb) ?_;refine TL.gu ?_;refine TL.sp KK (fun q38 => ?_) (fun q38 => ?_)
 ·refine TL.rn 20 rfl (zET (zc (zSG (TL.as_ ?_))));refine zET (zr (zR ?_));have hE : Kr p = false := by unfold Kr; rw [Bool.and_eq_false_iff]; exact .inr (decide_eq_false (by omega))
  exact Kc Tryz.results28 rfl (fun w1 hw => ⟨by rw [hE], hw.bel⟩)
 refine TL.rn 2 rfl (TL.ov (gF KaE) ?_);refine TL.ov (gL 0 Kb) ?_;refine TL.gu ?_;refine TL.sp Kk (fun q43 => ?_) (fun q43 => ?_)
 ·refine TL.rn 15 rfl (zET (zc (zSG (TL.as_ ?_))));refine zET (zr (zR ?_));have hE : Kr p = false := by unfold Kr; rw [Bool.and_eq_false_iff]; exact .inr (decide_eq_false (by omega))
  exact Kc Tryz.results28 rfl (fun w1 hw => ⟨by rw [hE], hw.bel⟩)
 refine TL.rn 2 rfl (TL.ov (gF KaE) ?_);refine TL.ov (gL 0 Kb) ?_;refine TL.gu ?_;refine TL.sp KK (fun q48 => ?_) (fun q48 => ?_)
 ·refine TL.rn 10 rfl (zET (zc (zSG (TL.as_ ?_))));refine zET (zr (zR ?_));have hE : Kr p = false := by unfold Kr; rw [Bool.and_eq_false_iff]; exact .inr (decide_eq_false (by omega))
  exact Kc Tryz.results28 rfl (fun w1 hw => ⟨by rw [hE], hw.bel⟩)
 refine TL.rn 2 rfl (TL.ov (gF KaE) ?_);refine TL.ov (gL 0 Kb) ?_;refine TL.gu ?_;refine TL.sp K5 (fun q53 => ?_) (fun q53 => ?_)
 ·refine TL.ov (gF Kat) ?_;refine TL.ov (gL 0 Kb) ?_;refine TL.gu ?_;refine TL.sp Kx (fun q56 => ?_) (fun q56 => ?_)
  ·refine TL.gu ?_;refine TL.w rfl (Kac (v := .bool false) rfl rfl rfl (fun w => KbK Tryz.underlying4 true true w)) ?_;refine TL.pk ?_;refine zET (zd (zk (zT (zSG (TL.v (gF Kay) ?_)))));refine TL.v (gF Kbo) ?_;refine TL.v (gL 0 Kb) ?_;refine TL.v (gF Kay) ?_;refine TL.v (gF KbR) ?_;refine TL.v (gL 0 KO) ?_;refine TL.v (gF Kay) ?_;refine TL.v (gF KbT) ?_;refine TL.v (gL 0 Kb) ?_;refine TL.v (gF Kci) ?_;refine TL.v (gL 0 Kb) ?_;refine TL.w rfl (Kt (v := .agg #[.int .i64 p.v, .int .i64 0, .int .i64 0, .int .i64 0, .int .u32 p.dst, .int .i64 p.proto, .int .i64 p.flow, .int .i64 1, .bool false, .bool false, .int .i64 0, .int .u32 0, .int .i64 0, .int .i64 0, .int .i64 0, .int .i64 0, .int .i64 0]) rfl rfl (fun w => Keh _ _ _ _ _ w)) ?_;refine TL.pS rfl o71 (fun w1 hw => Kdl (⟨p.v, 0, 0, 0, p.dst, p.proto, p.flow, 1, false, false, 0, 0, 0, 0, 0, 0, 0⟩ : Rs) w1) (fun h71 => ?_) (fun h71 => ?_)
   ·refine TL.as_ ?_;refine zET (zr ?_);have hE : Kr p = true := by unfold Kr; rw [show Km p.rs = true from h71, Bool.true_and]; exact decide_eq_true (by omega)
    exact Kc Tryz.results28 rfl (fun w1 hw => ⟨by rw [hE], hw.bel⟩)
   refine TL.as_ ?_;refine zET (zr ?_);have hE : Kr p = false := by unfold Kr; rw [show Km p.rs = false from h71]; rfl
   exact Kc Tryz.results28 rfl (fun w1 hw => ⟨by rw [hE], hw.bel⟩)
  refine TL.gu ?_;refine TL.w rfl (Kac (v := .bool true) rfl rfl rfl (fun w => KbK Tryz.underlying4 true false w)) ?_;refine TL.pk ?_;refine zET (zc (zSG (TL.as_ ?_)));refine zET (zr (zR ?_));have hE : Kr p = false := by unfold Kr; rw [Bool.and_eq_false_iff]; exact .inr (decide_eq_false (by omega))
  exact Kc Tryz.results28 rfl (fun w1 hw => ⟨by rw [hE], hw.bel⟩)
 refine TL.ov (gF Kat) ?_;refine TL.ov (gL 0 Kb) ?_;refine TL.gu ?_;refine TL.sp Kx (fun q56 => ?_) (fun q56 => ?_)
 ·refine TL.gu ?_;refine TL.w rfl (Kac (v := .bool true) rfl rfl rfl (fun w => KbK Tryz.underlying4 false true w)) ?_;refine TL.pk ?_;refine zET (zc (zSG (TL.as_ ?_)));refine zET (zr (zR ?_));have hE : Kr p = false := by unfold Kr; rw [Bool.and_eq_false_iff]; exact .inr (decide_eq_false (by omega))
  exact Kc Tryz.results28 rfl (fun w1 hw => ⟨by rw [hE], hw.bel⟩)
 refine TL.gu ?_;refine TL.w rfl (Kac (v := .bool false) rfl rfl rfl (fun w => KbK Tryz.underlying4 false false w)) ?_;refine TL.pk ?_;refine zET (zd (zk (zT (zSG (TL.v (gF Kay) ?_)))));refine TL.v (gF Kbo) ?_;refine TL.v (gL 0 Kb) ?_;refine TL.v (gF Kay) ?_;refine TL.v (gF KbR) ?_;refine TL.v (gL 0 KO) ?_;refine TL.v (gF Kay) ?_;refine TL.v (gF KbT) ?_;refine TL.v (gL 0 Kb) ?_;refine TL.v (gF Kci) ?_;refine TL.v (gL 0 Kb) ?_;refine TL.w rfl (Kt (v := .agg #[.int .i64 p.v, .int .i64 0, .int .i64 0, .int .i64 0, .int .u32 p.dst, .int .i64 p.proto, .int .i64 p.flow, .int .i64 1, .bool false, .bool false, .int .i64 0, .int .u32 0, .int .i64 0, .int .i64 0, .int .i64 0, .int .i64 0, .int .i64 0]) rfl rfl (fun w => Keh _ _ _ _ _ w)) ?_;refine TL.pS rfl o71 (fun w1 hw => Kdl (⟨p.v, 0, 0, 0, p.dst, p.proto, p.flow, 1, false, false, 0, 0, 0, 0, 0, 0, 0⟩ : Rs) w1) (fun h71 => ?_) (fun h71 => ?_)
 ·refine TL.as_ ?_;refine zET (zr ?_);have hE : Kr p = true := by unfold Kr; rw [show Km p.rs = true from h71, Bool.true_and]; exact decide_eq_true (by omega)
  exact Kc Tryz.results28 rfl (fun w1 hw => ⟨by rw [hE], hw.bel⟩)
 refine TL.as_ ?_;refine zET (zr ?_);have hE : Kr p = false := by unfold Kr; rw [show Km p.rs = false from h71]; rfl
 exact Kc Tryz.results28 rfl (fun w1 hw => ⟨by rw [hE], hw.bel⟩)
theorem KnA (x y : Rp) (w : World) :
  Calls Tryz.prog 33 #[.agg x.cells.toArray, .agg y.cells.toArray] w fun e w' => e = .returned (.int .i64 (Kdp x y)) /\ Below w.heap.size w w' := by
 refine Kh Tryz.func33 rfl rfl rfl ?_ (Pm.start w);refine zSG ?_;refine TL.bx fun g2 => ?_;refine TL.bx fun g3 => ?_;refine TL.as_ ?_;refine zET (zS (TC.tail 46 (by kernel_rfl) (by kernel_rfl) (fun w hw => hw.drawn _) ?_));refine TS.v (gF Kat) ?_;refine TS.v (gL 1 Kb) ?_;refine TS.v (gF Kat) ?_;refine TS.v (gL 0 Kb) ?_;refine TS.call (r := .int .i64 (Kl x.kind y.kind)) rfl rfl rfl rfl rfl Tryz.func79 (by decide) rfl (fun w1 hw => KbY x.kind y.kind w1) ?_;refine TS.v (gF Kay) ?_;refine TS.v (gF Kbo) ?_;refine TS.v (gL 1 Kb) ?_;refine TS.v (gF Kay) ?_;refine TS.v (gF Kbo) ?_;refine TS.v (gL 0 Kb) ?_;refine TS.call (r := .int .i64 (Kl x.v y.v)) rfl rfl rfl rfl rfl Tryz.func79 (by decide) rfl (fun w1 hw => KbY x.v y.v w1) ?_;refine TS.v (gF Kay) ?_;refine TS.v (gF KbR) ?_;refine TS.v (gL 1 KO) ?_;refine TS.v (gF Kay) ?_;refine TS.v (gF KbR) ?_;refine TS.v (gL 0 KO) ?_;refine TS.call (r := .int .i64 (Kl x.dst y.dst)) rfl rfl rfl rfl rfl Tryz.func80 (by decide) rfl (fun w1 hw => KgS x.dst y.dst w1) ?_;refine TS.v (gF Kay) ?_;refine TS.v (gF KbT) ?_;refine TS.v (gL 1 Kb) ?_;refine TS.v (gF Kay) ?_;refine TS.v (gF KbT) ?_;refine TS.v (gL 0 Kb) ?_;refine TS.call (r := .int .i64 (Kl x.proto y.proto)) rfl rfl rfl rfl rfl Tryz.func79 (by decide) rfl (fun w1 hw => KbY x.proto y.proto w1) ?_;refine TS.v (gF Kci) ?_;refine TS.v (gL 1 Kb) ?_;refine TS.v (gF Kci) ?_;refine TS.v (gL 0 Kb) ?_;refine TS.call (r := .int .i64 (Kl x.flow y.flow)) rfl rfl rfl rfl rfl Tryz.func79 (by decide) rfl (fun w1 hw => KbY x.flow y.flow w1) ?_;refine TS.v (gF Kbd) ?_;refine TS.v (gL 1 Kb) ?_;refine TS.v (gF Kbd) ?_;refine TS.v (gL 0 Kb) ?_;refine TS.call (r := .int .i64 (Kl x.ttl y.ttl)) rfl rfl rfl rfl rfl Tryz.func79 (by decide) rfl (fun w1 hw => KbY x.ttl y.ttl w1) ?_;refine TS.v (gF KaS) ?_;refine TS.v (gL 1 Kb) ?_;refine TS.v (gF KaS) ?_;refine TS.v (gL 0 Kb) ?_;refine TS.call (r := .int .i64 (Kl x.at_ y.at_)) rfl rfl rfl rfl rfl Tryz.func79 (by decide) rfl (fun w1 hw => KbY x.at_ y.at_ w1) ?_;refine TS.v (gF KaE) ?_;refine TS.v (gL 1 Kb) ?_;refine TS.v (gF KaE) ?_;refine TS.v (gL 0 Kb) ?_;refine TS.call (r := .int .i64 (Kl x.prov y.prov)) rfl rfl rfl rfl rfl Tryz.func79 (by decide) rfl (fun w1 hw => KbY x.prov y.prov w1) ?_;refine TS.end_ ?_;refine TL.prowS (e := 3) (size := 1) (cs := Ka (ic .i64) [Kl x.kind y.kind, Kl x.v y.v, Kl x.dst y.dst, Kl x.proto y.proto, Kl x.flow y.flow, Kl x.ttl y.ttl, Kl x.at_ y.at_, Kl x.prov y.prov]) rfl rfl rfl rfl rfl (fun w => Kf7 _ _ _ _ _ _ _ _ w) (by decide) rfl (fun g51 => ?_);refine TL.p1 rfl o78 (fun w1 hw => KgW (some ⟨g51, 0, none⟩) 8 8 ([Kl x.kind y.kind, Kl x.v y.v, Kl x.dst y.dst, Kl x.proto y.proto, Kl x.flow y.flow, Kl x.ttl y.ttl, Kl x.at_ y.at_, Kl x.prov y.prov]) w1 (KD hw (k := 0) rfl) rfl (by show 8 <= 100000; decide)) ?_;refine TL.as_ ?_;refine zET (zr ?_);exact Kc Tryz.results33 rfl (fun w1 hw => ⟨rfl, hw.bel⟩)
open Go.RowKit Go.Shelf Go.Sort
set_option maxRecDepth 20000
def Kj0 : Go.Shelf.Ren := ⟨fun | 6 => 132 | 14 => 164 | 15 => 146 | 20 => 192 | 21 => 193 | 22 => 194 | 23 => 195 | 24 => 196 | 25 => 197 | 26 => 198 | 27 => 199 | 28 => 175 | 29 => 176 | 46 => 218 | 47 => 209 | 48 => 210 | 49 => 219 | 50 => 220 | 57 => 226 | n => n, fun | 22 => 23 | 24 => 65 | 25 => 166 | 39 => 174 | 45 => 191 | 46 => 192 | 50 => 196 | 53 => 29 | 55 => 200 | 66 => 219 | 70 => 223 | 76 => 235 | 77 => 236 | n => n, fun n => n⟩
theorem Kme : SlLaysF0.n6 Tryz.prog Kj0 where
  mixed := by kernel_rfl
  f6 := ⟨Tryz.f132.name, by decide, Tryz.func132.trans (by kernel_rfl)⟩
  f14 := ⟨Tryz.f164.name, by decide, Tryz.func164.trans (by kernel_rfl)⟩
  f15 := Tryz.func146.trans (by kernel_rfl)
  f20 := ⟨Tryz.f192.name, by decide, Tryz.func192.trans (by kernel_rfl)⟩
  f21 := ⟨Tryz.f193.name, by decide, Tryz.func193.trans (by kernel_rfl)⟩
  f22 := ⟨Tryz.f194.name, by decide, Tryz.func194.trans (by kernel_rfl)⟩
  f23 := ⟨Tryz.f195.name, by decide, Tryz.func195.trans (by kernel_rfl)⟩
  f24 := ⟨Tryz.f196.name, by decide, Tryz.func196.trans (by kernel_rfl)⟩
  f25 := ⟨Tryz.f197.name, by decide, Tryz.func197.trans (by kernel_rfl)⟩
  f26 := ⟨Tryz.f198.name, by decide, Tryz.func198.trans (by kernel_rfl)⟩
  f27 := ⟨Tryz.f199.name, by decide, Tryz.func199.trans (by kernel_rfl)⟩
  f28 := Tryz.func175.trans (by kernel_rfl)
  f29 := Tryz.func176.trans (by kernel_rfl)
  f46 := ⟨Tryz.f218.name, by decide, Tryz.func218.trans (by kernel_rfl)⟩
  f47 := Tryz.func209.trans (by kernel_rfl)
  f48 := Tryz.func210.trans (by kernel_rfl)
  f49 := ⟨Tryz.f219.name, by decide, Tryz.func219.trans (by kernel_rfl)⟩
  f50 := ⟨Tryz.f220.name, by decide, Tryz.func220.trans (by kernel_rfl)⟩
  f57 := ⟨Tryz.f226.name, by decide, Tryz.func226.trans (by kernel_rfl)⟩
  t0 := Tryz.underlying0
  a0 := fun w => rfl
  z0 := fun w => rfl
  v0 := fun w => rfl
  t3 := Tryz.underlying3
  a3 := fun w => rfl
  z3 := fun w => rfl
  v3 := fun w => rfl
  t4 := Tryz.underlying4
  a4 := fun w => rfl
  z4 := fun w => rfl
  v4 := fun w => rfl
  t5 := Tryz.underlying5
  a5 := fun w => rfl
  z5 := fun w => rfl
  v5 := fun w => rfl
  t9 := Tryz.underlying9
  a9 := fun w => rfl
  z9 := fun w => rfl
  v9 := fun w => rfl
  t22 := Tryz.underlying23
  a22 := fun w => rfl
  z22 := fun w => rfl
  v22 := fun w => rfl
  t25 := Tryz.underlying166
  a25 := fun w => rfl
  z25 := fun w => rfl
  v25 := fun w => rfl
  t39 := Tryz.underlying174
  a39 := fun w => rfl
  z39 := fun w => rfl
  v39 := fun w => rfl
  t45 := Tryz.underlying191
  a45 := fun w => rfl
  z45 := fun w => rfl
  v45 := fun w => rfl
  t46 := Tryz.underlying192
  a46 := fun w => rfl
  z46 := fun w => rfl
  v46 := fun w => rfl
  t50 := Tryz.underlying196
  a50 := fun w => rfl
  z50 := fun w => rfl
  v50 := fun w => rfl
  t53 := Tryz.underlying29
  a53 := fun w => rfl
  z53 := fun w => rfl
  v53 := fun w => rfl
  t55 := Tryz.underlying200
  a55 := fun w => rfl
  z55 := fun w => rfl
  v55 := fun w => rfl
  t66 := Tryz.underlying219
  a66 := fun w => rfl
  z66 := fun w => rfl
  v66 := fun w => rfl
  t70 := Tryz.underlying223
  a70 := fun w => rfl
  z70 := fun w => rfl
  v70 := fun w => rfl
  t76 := Tryz.underlying235
  a76 := fun w => rfl
  z76 := fun w => rfl
  v76 := fun w => rfl
  t77 := Tryz.underlying236
  a77 := fun w => rfl
  z77 := fun w => rfl
  v77 := fun w => rfl
instance : Inhabited Rs := ⟨⟨0, 0, 0, 0, 0, 0, 0, 0, false, false, 0, 0, 0, 0, 0, 0, 0⟩⟩
theorem KpI {b n cap : Nat} {A : Option Addr} {l : List Rs} {w : World} (hr : w.ownsRow b 65 17 (.slice A n cap) n (Ka Rs.cells l)) (hl : l.length = n) (hn : n <= 1000000) :
    Calls Tryz.prog 132 #[.slice A n cap, .func (.func 133) #[] #[]] w fun en w' => en = .returned (.tuple #[]) /\ ∃ l', KbU Ka4 l l' /\ w'.ownsRow b 65 17 (.slice A n cap) n (Ka Rs.cells l') /\ w.grownBy w' (Value.ownBlock (.slice A n cap)) :=
  KfO (ρ := Kj0) Kme Ke (fun w => rfl) (fun w => rfl) Ka4 (Kgx (n := 17) (Rs.keys) fun _ => rfl) 133 (enters_of Tryz.func133 (by kernel_rfl) rfl) Khy hr hl (by omega)
def KiZ : Go.Shelf.Ren := ⟨fun | 6 => 136 | 14 => 166 | 15 => 146 | 20 => 200 | 21 => 201 | 22 => 202 | 23 => 203 | 24 => 204 | 25 => 205 | 26 => 206 | 27 => 207 | 28 => 175 | 29 => 176 | 46 => 221 | 47 => 209 | 48 => 210 | 49 => 222 | 50 => 223 | 57 => 227 | n => n, fun | 22 => 128 | 24 => 32 | 25 => 168 | 39 => 174 | 45 => 191 | 46 => 192 | 50 => 196 | 53 => 29 | 55 => 200 | 66 => 219 | 70 => 223 | 76 => 235 | 77 => 236 | n => n, fun n => n⟩
theorem KpP : SlLaysF0.n6 Tryz.prog KiZ where
  mixed := by kernel_rfl
  f6 := ⟨Tryz.f136.name, by decide, Tryz.func136.trans (by kernel_rfl)⟩
  f14 := ⟨Tryz.f166.name, by decide, Tryz.func166.trans (by kernel_rfl)⟩
  f15 := Tryz.func146.trans (by kernel_rfl)
  f20 := ⟨Tryz.f200.name, by decide, Tryz.func200.trans (by kernel_rfl)⟩
  f21 := ⟨Tryz.f201.name, by decide, Tryz.func201.trans (by kernel_rfl)⟩
  f22 := ⟨Tryz.f202.name, by decide, Tryz.func202.trans (by kernel_rfl)⟩
  f23 := ⟨Tryz.f203.name, by decide, Tryz.func203.trans (by kernel_rfl)⟩
  f24 := ⟨Tryz.f204.name, by decide, Tryz.func204.trans (by kernel_rfl)⟩
  f25 := ⟨Tryz.f205.name, by decide, Tryz.func205.trans (by kernel_rfl)⟩
  f26 := ⟨Tryz.f206.name, by decide, Tryz.func206.trans (by kernel_rfl)⟩
  f27 := ⟨Tryz.f207.name, by decide, Tryz.func207.trans (by kernel_rfl)⟩
  f28 := Tryz.func175.trans (by kernel_rfl)
  f29 := Tryz.func176.trans (by kernel_rfl)
  f46 := ⟨Tryz.f221.name, by decide, Tryz.func221.trans (by kernel_rfl)⟩
  f47 := Tryz.func209.trans (by kernel_rfl)
  f48 := Tryz.func210.trans (by kernel_rfl)
  f49 := ⟨Tryz.f222.name, by decide, Tryz.func222.trans (by kernel_rfl)⟩
  f50 := ⟨Tryz.f223.name, by decide, Tryz.func223.trans (by kernel_rfl)⟩
  f57 := ⟨Tryz.f227.name, by decide, Tryz.func227.trans (by kernel_rfl)⟩
  t0 := Tryz.underlying0
  a0 := fun w => rfl
  z0 := fun w => rfl
  v0 := fun w => rfl
  t3 := Tryz.underlying3
  a3 := fun w => rfl
  z3 := fun w => rfl
  v3 := fun w => rfl
  t4 := Tryz.underlying4
  a4 := fun w => rfl
  z4 := fun w => rfl
  v4 := fun w => rfl
  t5 := Tryz.underlying5
  a5 := fun w => rfl
  z5 := fun w => rfl
  v5 := fun w => rfl
  t9 := Tryz.underlying9
  a9 := fun w => rfl
  z9 := fun w => rfl
  v9 := fun w => rfl
  t22 := Tryz.underlying128
  a22 := fun w => rfl
  z22 := fun w => rfl
  v22 := fun w => rfl
  t25 := Tryz.underlying168
  a25 := fun w => rfl
  z25 := fun w => rfl
  v25 := fun w => rfl
  t39 := Tryz.underlying174
  a39 := fun w => rfl
  z39 := fun w => rfl
  v39 := fun w => rfl
  t45 := Tryz.underlying191
  a45 := fun w => rfl
  z45 := fun w => rfl
  v45 := fun w => rfl
  t46 := Tryz.underlying192
  a46 := fun w => rfl
  z46 := fun w => rfl
  v46 := fun w => rfl
  t50 := Tryz.underlying196
  a50 := fun w => rfl
  z50 := fun w => rfl
  v50 := fun w => rfl
  t53 := Tryz.underlying29
  a53 := fun w => rfl
  z53 := fun w => rfl
  v53 := fun w => rfl
  t55 := Tryz.underlying200
  a55 := fun w => rfl
  z55 := fun w => rfl
  v55 := fun w => rfl
  t66 := Tryz.underlying219
  a66 := fun w => rfl
  z66 := fun w => rfl
  v66 := fun w => rfl
  t70 := Tryz.underlying223
  a70 := fun w => rfl
  z70 := fun w => rfl
  v70 := fun w => rfl
  t76 := Tryz.underlying235
  a76 := fun w => rfl
  z76 := fun w => rfl
  v76 := fun w => rfl
  t77 := Tryz.underlying236
  a77 := fun w => rfl
  z77 := fun w => rfl
  v77 := fun w => rfl
instance : Inhabited Trc := ⟨⟨0, 0, 0⟩⟩
theorem Kod {b n cap : Nat} {A : Option Addr} {l : List Trc} {w : World} (hr : w.ownsRow b 32 3 (.slice A n cap) n (Ka Trc.cells l)) (hl : l.length = n) (hn : n <= 1000000) :
    Calls Tryz.prog 136 #[.slice A n cap, .func (.func 137) #[] #[]] w fun en w' => en = .returned (.tuple #[]) /\ ∃ l', KbU Kec l l' /\ w'.ownsRow b 32 3 (.slice A n cap) n (Ka Trc.cells l') /\ w.grownBy w' (Value.ownBlock (.slice A n cap)) :=
  KfO (ρ := KiZ) KpP KaF (fun w => rfl) (fun w => rfl) Kec (Kgx (n := 3) (fun t : Trc => [t.v, t.dst, t.proto]) fun _ => rfl) 137 (enters_of Tryz.func137 (by kernel_rfl) rfl) KoD hr hl (by omega)
def Kol : Go.Shelf.Ren := ⟨fun | 5 => 124 | 7 => 160 | 8 => 146 | 10 => 180 | 11 => 181 | 12 => 182 | 13 => 183 | 14 => 184 | 15 => 185 | 16 => 186 | 17 => 187 | 18 => 188 | 19 => 175 | 20 => 176 | 30 => 213 | 31 => 209 | 32 => 210 | 33 => 214 | 34 => 215 | 35 => 125 | 40 => 225 | n => n, fun | 22 => 106 | 23 => 106 | 25 => 3 | 32 => 174 | 35 => 191 | 36 => 192 | 41 => 196 | 44 => 29 | 46 => 200 | 53 => 219 | 57 => 223 | 63 => 235 | 64 => 236 | n => n, fun n => n⟩
theorem KkA : SlLaysM.n5 Tryz.prog Kol where
  mixed := by kernel_rfl
  f5 := ⟨Tryz.f124.name, by decide, Tryz.func124.trans (by kernel_rfl)⟩
  f7 := ⟨Tryz.f160.name, by decide, Tryz.func160.trans (by kernel_rfl)⟩
  f8 := Tryz.func146.trans (by kernel_rfl)
  f10 := ⟨Tryz.f180.name, by decide, Tryz.func180.trans (by kernel_rfl)⟩
  f11 := ⟨Tryz.f181.name, by decide, Tryz.func181.trans (by kernel_rfl)⟩
  f12 := ⟨Tryz.f182.name, by decide, Tryz.func182.trans (by kernel_rfl)⟩
  f13 := ⟨Tryz.f183.name, by decide, Tryz.func183.trans (by kernel_rfl)⟩
  f14 := ⟨Tryz.f184.name, by decide, Tryz.func184.trans (by kernel_rfl)⟩
  f15 := ⟨Tryz.f185.name, by decide, Tryz.func185.trans (by kernel_rfl)⟩
  f16 := ⟨Tryz.f186.name, by decide, Tryz.func186.trans (by kernel_rfl)⟩
  f17 := ⟨Tryz.f187.name, by decide, Tryz.func187.trans (by kernel_rfl)⟩
  f18 := ⟨Tryz.f188.name, by decide, Tryz.func188.trans (by kernel_rfl)⟩
  f19 := Tryz.func175.trans (by kernel_rfl)
  f20 := Tryz.func176.trans (by kernel_rfl)
  f30 := ⟨Tryz.f213.name, by decide, Tryz.func213.trans (by kernel_rfl)⟩
  f31 := Tryz.func209.trans (by kernel_rfl)
  f32 := Tryz.func210.trans (by kernel_rfl)
  f33 := ⟨Tryz.f214.name, by decide, Tryz.func214.trans (by kernel_rfl)⟩
  f34 := ⟨Tryz.f215.name, by decide, Tryz.func215.trans (by kernel_rfl)⟩
  f35 := ⟨Tryz.f125.name, by decide, Tryz.func125.trans (by kernel_rfl)⟩
  f40 := ⟨Tryz.f225.name, by decide, Tryz.func225.trans (by kernel_rfl)⟩
  t0 := Tryz.underlying0
  a0 := fun w => rfl
  z0 := fun w => rfl
  v0 := fun w => rfl
  t3 := Tryz.underlying3
  a3 := fun w => rfl
  z3 := fun w => rfl
  v3 := fun w => rfl
  t4 := Tryz.underlying4
  a4 := fun w => rfl
  z4 := fun w => rfl
  v4 := fun w => rfl
  t5 := Tryz.underlying5
  a5 := fun w => rfl
  z5 := fun w => rfl
  v5 := fun w => rfl
  t9 := Tryz.underlying9
  a9 := fun w => rfl
  z9 := fun w => rfl
  v9 := fun w => rfl
  t22 := Tryz.underlying106
  a22 := fun w => rfl
  z22 := fun w => rfl
  v22 := fun w => rfl
  t23 := Tryz.underlying106
  a23 := fun w => rfl
  z23 := fun w => rfl
  v23 := fun w => rfl
  t25 := Tryz.underlying3
  a25 := fun w => rfl
  z25 := fun w => rfl
  v25 := fun w => rfl
  t32 := Tryz.underlying174
  a32 := fun w => rfl
  z32 := fun w => rfl
  v32 := fun w => rfl
  t35 := Tryz.underlying191
  a35 := fun w => rfl
  z35 := fun w => rfl
  v35 := fun w => rfl
  t36 := Tryz.underlying192
  a36 := fun w => rfl
  z36 := fun w => rfl
  v36 := fun w => rfl
  t41 := Tryz.underlying196
  a41 := fun w => rfl
  z41 := fun w => rfl
  v41 := fun w => rfl
  t44 := Tryz.underlying29
  a44 := fun w => rfl
  z44 := fun w => rfl
  v44 := fun w => rfl
  t46 := Tryz.underlying200
  a46 := fun w => rfl
  z46 := fun w => rfl
  v46 := fun w => rfl
  t53 := Tryz.underlying219
  a53 := fun w => rfl
  z53 := fun w => rfl
  v53 := fun w => rfl
  t57 := Tryz.underlying223
  a57 := fun w => rfl
  z57 := fun w => rfl
  v57 := fun w => rfl
  t63 := Tryz.underlying235
  a63 := fun w => rfl
  z63 := fun w => rfl
  v63 := fun w => rfl
  t64 := Tryz.underlying236
  a64 := fun w => rfl
  z64 := fun w => rfl
  v64 := fun w => rfl
set_option maxRecDepth 20000
theorem Kh7 (x y : Rs) : (x = y) ↔ x.v = y.v /\ x.run = y.run /\ x.num = y.num /\ x.at_ = y.at_ /\ x.dst = y.dst /\ x.proto = y.proto /\ x.flow = y.flow /\ x.ttl = y.ttl /\ x.ans = y.ans /\ x.dbl = y.dbl /\ x.back = y.back /\ x.src = y.src /\ x.kind = y.kind /\ x.code = y.code /\ x.left = y.left /\ x.id = y.id /\ x.quo = y.quo := by
  cases x; cases y; simp
theorem KlR (x y : Rs) (ox oy : Operand) (w : World) : (do eqGuard .eql 65 ox oy (.agg x.cells.toArray) (.agg y.cells.toArray); binOp .eql 65 (.agg x.cells.toArray) (.agg y.cells.toArray) : Sem Value).run Tryz.prog w = .ok (.bool (decide (x = y))) w := by
  rw [Sem.run_bind, run_eqGuard_agg w .eql 65 ox oy _ _ (by kernel_rfl), Result.andThen_ok, run_eql_struct];have h2 : (Op.equalIn 10000 65 (.agg x.cells.toArray) (.agg y.cells.toArray)).run Tryz.prog w = .ok (decide (x.v = y.v /\ x.run = y.run /\ x.num = y.num /\ x.at_ = y.at_ /\ x.dst = y.dst /\ x.proto = y.proto /\ x.flow = y.flow /\ x.ttl = y.ttl /\ x.ans = y.ans /\ x.dbl = y.dbl /\ x.back = y.back /\ x.src = y.src /\ x.kind = y.kind /\ x.code = y.code /\ x.left = y.left /\ x.id = y.id /\ x.quo = y.quo)) w := eqR x.v x.run x.num x.at_ x.dst x.proto x.flow x.ttl x.back x.src x.kind x.code x.left x.id x.quo y.v y.run y.num y.at_ y.dst y.proto y.flow y.ttl y.back y.src y.kind y.code y.left y.id y.quo x.ans x.dbl y.ans y.dbl w;rw [h2, Result.andThen_ok, decide_eq_decide.2 (Kh7 x y)]
theorem Kpx (x y : Rs) (ox oy : Operand) (w : World) : (do eqGuard .neq 65 ox oy (.agg x.cells.toArray) (.agg y.cells.toArray); binOp .neq 65 (.agg x.cells.toArray) (.agg y.cells.toArray) : Sem Value).run Tryz.prog w = .ok (.bool (!decide (x = y))) w := by
  rw [Sem.run_bind, run_eqGuard_agg w .neq 65 ox oy _ _ (by kernel_rfl), Result.andThen_ok, run_neq_struct];have h2 : (Op.equalIn 10000 65 (.agg x.cells.toArray) (.agg y.cells.toArray)).run Tryz.prog w = .ok (decide (x.v = y.v /\ x.run = y.run /\ x.num = y.num /\ x.at_ = y.at_ /\ x.dst = y.dst /\ x.proto = y.proto /\ x.flow = y.flow /\ x.ttl = y.ttl /\ x.ans = y.ans /\ x.dbl = y.dbl /\ x.back = y.back /\ x.src = y.src /\ x.kind = y.kind /\ x.code = y.code /\ x.left = y.left /\ x.id = y.id /\ x.quo = y.quo)) w := eqR x.v x.run x.num x.at_ x.dst x.proto x.flow x.ttl x.back x.src x.kind x.code x.left x.id x.quo y.v y.run y.num y.at_ y.dst y.proto y.flow y.ttl y.back y.src y.kind y.code y.left y.id y.quo x.ans x.dbl y.ans y.dbl w;rw [h2, Result.andThen_ok, decide_eq_decide.2 (Kh7 x y)]
theorem Kji (x y : Rs) (ox oy : Operand) (w : World) : (do eqGuard .neq 65 ox oy (.agg x.cells.toArray) (.agg y.cells.toArray); binOp .neq 65 (.agg x.cells.toArray) (.agg y.cells.toArray) : Sem Value).run Tryz.prog w = .ok (.bool (decide (x ≠ y))) w := by
  rw [decide_not]; exact Kpx x y ox oy w
theorem Khs : Tryz.prog.fieldsOf 32 = (match Tryz.prog.underlying 32 with | some (.struct fs) => fs | _ => #[]) := rfl
theorem KiX (a0 b0 : Int) (a1 b1 : Int) (a2 b2 : Int) (d : Nat) (w : World) : (Op.equalIn (d + 2) 32 (.agg #[.int .i64 a0, .int .u32 a1, .int .i64 a2]) (.agg #[.int .i64 b0, .int .u32 b1, .int .i64 b2])).run Tryz.prog w = .ok (decide (a0 = b0 /\ a1 = b1 /\ a2 = b2)) w := by
  rw [run_equalIn_agg w (d + 1) 32 _ _ (by rw [Khs, Tryz.underlying32]) (by kernel_rfl), Khs, Tryz.underlying32];show (Op.eqFields (d + 1) _ _ [_, _, _]).run _ _ = _;have i0 : Tryz.prog.underlying 3 = some (.int .i64) := rfl;have i1 : Tryz.prog.underlying 30 = some (.int .u32) := rfl;simp [Op.eqFields, go_sem];by_cases e0 : a0 = b0
  · by_cases e1 : a1 = b1
    · by_cases e2 : a2 = b2 <;> simp [e0, e1, e2]
    · simp [e0, e1]
  · simp [e0]
theorem Kid (x y : Trc) : (x = y) ↔ x.v = y.v /\ x.dst = y.dst /\ x.proto = y.proto := by
  cases x; cases y; simp
theorem Kgv (x y : Trc) (ox oy : Operand) (w : World) : (do eqGuard .eql 32 ox oy (.agg x.cells.toArray) (.agg y.cells.toArray); binOp .eql 32 (.agg x.cells.toArray) (.agg y.cells.toArray) : Sem Value).run Tryz.prog w = .ok (.bool (decide (x = y))) w := by
  rw [Sem.run_bind, run_eqGuard_agg w .eql 32 ox oy _ _ (by kernel_rfl), Result.andThen_ok, run_eql_struct];have h := KiX x.v y.v x.dst y.dst x.proto y.proto 9998 w;have h2 : (Op.equalIn 10000 32 (.agg x.cells.toArray) (.agg y.cells.toArray)).run Tryz.prog w = .ok (decide (x.v = y.v /\ x.dst = y.dst /\ x.proto = y.proto)) w := h;rw [h2, Result.andThen_ok, decide_eq_decide.2 (Kid x y)]
theorem Kmh (x y : Trc) (ox oy : Operand) (w : World) : (do eqGuard .neq 32 ox oy (.agg x.cells.toArray) (.agg y.cells.toArray); binOp .neq 32 (.agg x.cells.toArray) (.agg y.cells.toArray) : Sem Value).run Tryz.prog w = .ok (.bool (!decide (x = y))) w := by
  rw [Sem.run_bind, run_eqGuard_agg w .neq 32 ox oy _ _ (by kernel_rfl), Result.andThen_ok, run_neq_struct];have h := KiX x.v y.v x.dst y.dst x.proto y.proto 9998 w;have h2 : (Op.equalIn 10000 32 (.agg x.cells.toArray) (.agg y.cells.toArray)).run Tryz.prog w = .ok (decide (x.v = y.v /\ x.dst = y.dst /\ x.proto = y.proto)) w := h;rw [h2, Result.andThen_ok, decide_eq_decide.2 (Kid x y)]
theorem Kop (x y : Trc) (ox oy : Operand) (w : World) : (do eqGuard .neq 32 ox oy (.agg x.cells.toArray) (.agg y.cells.toArray); binOp .neq 32 (.agg x.cells.toArray) (.agg y.cells.toArray) : Sem Value).run Tryz.prog w = .ok (.bool (decide (x ≠ y))) w := by
  rw [decide_not]; exact Kmh x y ox oy w
theorem Kh2 : Tryz.prog.fieldsOf 73 = (match Tryz.prog.underlying 73 with | some (.struct fs) => fs | _ => #[]) := rfl
theorem KiP (a0 b0 : Int) (a1 b1 : Int) (a2 b2 : Int) (d : Nat) (w : World) : (Op.equalIn (d + 2) 73 (.agg #[.int .i64 a0, .int .i64 a1, .int .i64 a2]) (.agg #[.int .i64 b0, .int .i64 b1, .int .i64 b2])).run Tryz.prog w = .ok (decide (a0 = b0 /\ a1 = b1 /\ a2 = b2)) w := by
  rw [run_equalIn_agg w (d + 1) 73 _ _ (by rw [Kh2, Tryz.underlying73]) (by kernel_rfl), Kh2, Tryz.underlying73];show (Op.eqFields (d + 1) _ _ [_, _, _]).run _ _ = _;have i0 : Tryz.prog.underlying 3 = some (.int .i64) := rfl;simp [Op.eqFields, go_sem];by_cases e0 : a0 = b0
  · by_cases e1 : a1 = b1
    · by_cases e2 : a2 = b2 <;> simp [e0, e1, e2]
    · simp [e0, e1]
  · simp [e0]
theorem Kjx (x y : Idn) : (x = y) ↔ x.v = y.v /\ x.run = y.run /\ x.num = y.num := by
  cases x; cases y; simp
theorem KdD (x y : Idn) (ox oy : Operand) (w : World) : (do eqGuard .eql 73 ox oy (.agg x.cells.toArray) (.agg y.cells.toArray); binOp .eql 73 (.agg x.cells.toArray) (.agg y.cells.toArray) : Sem Value).run Tryz.prog w = .ok (.bool (decide (x = y))) w := by
  rw [Sem.run_bind, run_eqGuard_agg w .eql 73 ox oy _ _ (by kernel_rfl), Result.andThen_ok, run_eql_struct];have h := KiP x.v y.v x.run y.run x.num y.num 9998 w;have h2 : (Op.equalIn 10000 73 (.agg x.cells.toArray) (.agg y.cells.toArray)).run Tryz.prog w = .ok (decide (x.v = y.v /\ x.run = y.run /\ x.num = y.num)) w := h;rw [h2, Result.andThen_ok, decide_eq_decide.2 (Kjx x y)]
theorem KlT (x y : Idn) (ox oy : Operand) (w : World) : (do eqGuard .neq 73 ox oy (.agg x.cells.toArray) (.agg y.cells.toArray); binOp .neq 73 (.agg x.cells.toArray) (.agg y.cells.toArray) : Sem Value).run Tryz.prog w = .ok (.bool (!decide (x = y))) w := by
  rw [Sem.run_bind, run_eqGuard_agg w .neq 73 ox oy _ _ (by kernel_rfl), Result.andThen_ok, run_neq_struct];have h := KiP x.v y.v x.run y.run x.num y.num 9998 w;have h2 : (Op.equalIn 10000 73 (.agg x.cells.toArray) (.agg y.cells.toArray)).run Tryz.prog w = .ok (decide (x.v = y.v /\ x.run = y.run /\ x.num = y.num)) w := h;rw [h2, Result.andThen_ok, decide_eq_decide.2 (Kjx x y)]
theorem KhX (x y : Idn) (ox oy : Operand) (w : World) : (do eqGuard .neq 73 ox oy (.agg x.cells.toArray) (.agg y.cells.toArray); binOp .neq 73 (.agg x.cells.toArray) (.agg y.cells.toArray) : Sem Value).run Tryz.prog w = .ok (.bool (decide (x ≠ y))) w := by
  rw [decide_not]; exact KlT x y ox oy w
set_option maxRecDepth 20000
def Trc.zero : Trc := ⟨0, 0, 0⟩
theorem KbJ (w : World) : (isAgg 32).run Tryz.prog w = .ok true w := rfl
theorem Klv (g n c : Nat) (xs : List Rs) (w : World) (h : RwG 65 17 w g n c (Ka Rs.cells xs)) (hl : xs.length = n) (hn : n <= 1000000) :
  Calls Tryz.prog 134 #[.slice (some ⟨g, 0, none⟩) n c] w fun en w' => en = .returned (.slice (some ⟨g, 0, none⟩) (Kf xs).length c) /\ RwG 65 17 w' g (Kf xs).length c (Ka Rs.cells (Kf xs)) /\ w.grownBy w' (some g) := by
 have hcap := h.obj.2.1;have hmax := h.obj.2.2;refine Kh (I := Pm ⟨Kbe w g, g⟩ (.row (.slice (some ⟨g, 0, none⟩) n c) 65 17 n (Ka Rs.cells xs) :: KE g w)) Tryz.func134 rfl rfl rfl ?_ (Pm.rowStartG h);refine zSG (TL.as_ ?_);refine zET (zS (zSG (TL.mv ?_)));refine TL.v (gN Tryz.underlying23) ?_;refine TL.sp Kk (fun q8 => ?_) (fun q8 => ?_)
 ·have hE : Kf xs = xs := KfW (by omega);refine zET (zc (zSG (TL.rn 2 rfl (zET (zr (zR ?_))))));exact Kc Tryz.results134 rfl (fun w1 hw => by rw [hE, hl]; exact ⟨rfl, KcA hw (k := 0) rfl, hw.mapEnd (fun q hq => by simp [hq])⟩)
 refine zET (zd (zk (zT (zS (zSG (TL.as_ ?_))))));refine zET (zB ?_);refine TC.lp (α := {k : Nat // 1 <= k /\ k <= n /\ Kf (xs.take k) = xs.take k}) [0] rfl (fun y => [(3, .int .i64 ((y.1 : Nat) : Int))]) (fun y => Pm ⟨Kbe w g, g⟩ ([.row (.slice (some ⟨g, 0, none⟩) n c) 65 17 n (Ka Rs.cells xs)] ++ KE g w)) (fun y => n - y.1) (⟨1, Nat.le_refl _, by omega, KfH xs⟩) (fun w1 hw => hw) ?_;rintro ⟨k0, hk1, hk2, hK⟩
 try dsimp only
 refine zS (zSG (TL.rn 2 rfl (TL.v (gN Tryz.underlying23) ?_)));refine TL.sp Kk (fun q13 => ?_) (fun q13 => ?_)
 ·refine zET (zc (zk (zT (zS (zB (zS (TC.quietQ (by kernel_rfl) (by kernel_rfl) (fun w hw => hw.drawn _) ?_)))))));refine TQ.rn 2 rfl ?_;have hi18 : k0 < xs.length := by omega
  obtain ⟨x18, hx18⟩ := Ko hi18;refine TQ.w rfl (gA (i := k0) Tryz.underlying23 Kd rfl rfl rfl rfl rfl (by omega)) ?_;refine TQ.w rfl (KS (off := 0 + k0 * 17) rfl rfl Ku Kd (Ke.len x18) (fun w1 hw j9 u9 h9 => Kv Ke hw (q := 0) rfl hx18 j9 u9 h9)) ?_;refine TQ.rn 2 rfl ?_;refine TQ.w rfl (Ks rfl rfl rfl (fun w => K0 (r := ((k0 - 1 : Nat) : Int)) (by simp only [IntKind.wrap_i64]; omega) w)) ?_;have hi23 : k0 - 1 < xs.length := by omega
  obtain ⟨x23, hx23⟩ := Ko hi23;refine TQ.w rfl (gA (i := (k0 - 1)) Tryz.underlying23 Kd rfl rfl rfl rfl rfl (by omega)) ?_;refine TQ.w rfl (KS (off := 0 + (k0 - 1) * 17) rfl rfl Ku Kd (Ke.len x23) (fun w1 hw j9 u9 h9 => Kv Ke hw (q := 0) rfl hx23 j9 u9 h9)) ?_;refine TQ.vw rfl (Kac rfl rfl rfl (fun w => KlR x18 x23 _ _ w)) (fun h25 => ?_) (fun h25 => ?_)
  ·have q25 := of_decide_eq_true h25;have hst := KbO hx18 hx23 hk1;have hK2 : Kf (xs.take (k0 + 1)) = xs.take k0 := by rw [hst, if_pos q25.symm]; exact hK
   refine TQ.fin ?_;refine zT (zc (zSG (TL.rn 2 rfl ?_)));refine TL.w rfl (Kca (q := k0) rfl rfl rfl rfl Tryz.underlying23 Kd (by omega) (by omega)) ?_;refine TL.as_ ?_;refine zET (zS (zSG (TL.as_ ?_)));refine zET (zB ?_);refine TC.lp (α := {y : Nat × Nat × List Rs // (1 <= y.2.1 /\ y.2.1 <= n - k0 /\ k0 <= y.1 /\ y.1 <= k0 + y.2.1 - 1) /\ y.2.2.length = n /\ (∀ p, k0 + y.2.1 - 1 <= p -> y.2.2[p]? = xs[p]?) /\ y.2.2.take y.1 = Kf (xs.take (k0 + y.2.1))}) [0, 4] rfl (fun y => [(3, .int .i64 ((y.1.1 : Nat) : Int)), (5, .int .i64 ((y.1.2.1 : Nat) : Int))]) (fun y => Pm ⟨Kbe w g, g⟩ ([.row (.slice (some ⟨g, 0, none⟩) n c) 65 17 n (Ka Rs.cells y.1.2.2)] ++ KE g w)) (fun y => n - y.1.2.1) (⟨(k0, 1, xs), by dsimp only; omega, hl, fun p _ => rfl, hK2.symm⟩) (fun w1 hw => hw) ?_;rintro ⟨⟨k, j, ys⟩, ⟨hj1, hj2, hj3, hj4⟩, hly, hI, hT⟩;dsimp only at hj1 hj2 hj3 hj4 hly hI hT ⊢;refine zS (zSG (TL.rn 2 rfl (TL.v (gN Tryz.underlying23) ?_)));refine TL.sp Kk (fun q32 => ?_) (fun q32 => ?_)
   ·refine zET (zc (zk (zT (zS (zB (zS (TC.quietQ (by kernel_rfl) (by kernel_rfl) (fun w hw => hw.drawn _) ?_)))))));refine TQ.rn 2 rfl ?_;have hi37 : (k0 + j) < ys.length := by omega
    obtain ⟨x37, hx37⟩ := Ko hi37;refine TQ.w rfl (Kai (v := .pointer (some ⟨g, 0 + (k0 + j) * 17, none⟩)) rfl rfl rfl (fun w => Kcz Tryz.underlying23 Kd g k0 _ _ j (by omega) rfl w)) ?_;refine TQ.w rfl (KS (off := 0 + (k0 + j) * 17) rfl rfl Ku Kd (Ke.len x37) (fun w1 hw j9 u9 h9 => Kv Ke hw (q := 0) rfl hx37 j9 u9 h9)) ?_;refine TQ.rn 2 rfl ?_;refine TQ.w rfl (Ks rfl rfl rfl (fun w => K0 (r := ((j - 1 : Nat) : Int)) (by simp only [IntKind.wrap_i64]; omega) w)) ?_;have hi42 : (k0 + (j - 1)) < ys.length := by omega
    obtain ⟨x42, hx42⟩ := Ko hi42;refine TQ.w rfl (Kai (v := .pointer (some ⟨g, 0 + (k0 + (j - 1)) * 17, none⟩)) rfl rfl rfl (fun w => Kcz Tryz.underlying23 Kd g k0 _ _ (j - 1) (by omega) rfl w)) ?_;refine TQ.w rfl (KS (off := 0 + (k0 + (j - 1)) * 17) rfl rfl Ku Kd (Ke.len x42) (fun w1 hw j9 u9 h9 => Kv Ke hw (q := 0) rfl hx42 j9 u9 h9)) ?_;refine TQ.vw rfl (Kac rfl rfl rfl (fun w => Kji x37 x42 _ _ w)) (fun h44 => ?_) (fun h44 => ?_)
    ·have q44 := of_decide_eq_true h44;have hst := KbO (by rw [<- hI _ (by omega)]; exact hx37) (by rw [<- hI _ (by omega), show k0 + j - 1 = k0 + (j - 1) by omega]; exact hx42) (by omega : 1 <= k0 + j);have hc1 : ∀ p, k0 + (j + 1) - 1 <= p -> (ys.set k x37)[p]? = xs[p]? := fun p hp => by rw [List.getElem?_set_ne (by omega)]; exact hI p (by omega)
     have hc2 : (ys.set k x37).take (k + 1) = Kf (xs.take (k0 + (j + 1))) := by
      rw [List.take_add_one, List.take_set_of_le (Nat.le_refl _), List.getElem?_set_self (by omega), hT, show k0 + (j + 1) = k0 + j + 1 from rfl, hst, if_neg (fun hh => q44 hh.symm)]; rfl
     refine TQ.fin ?_;refine zT (zc (zSG (TL.rn 4 rfl ?_)));refine TL.w rfl (Kai (v := .pointer (some ⟨g, 0 + (k0 + j) * 17, none⟩)) rfl rfl rfl (fun w => Kcz Tryz.underlying23 Kd g k0 _ _ j (by omega) rfl w)) ?_;refine TL.w rfl (KS (off := 0 + (k0 + j) * 17) rfl rfl Ku Kd (Ke.len x37) (fun w1 hw j9 u9 h9 => Kv Ke hw (q := 0) rfl hx37 j9 u9 h9)) ?_;have hi51 : k < ys.length := by omega
     obtain ⟨x51, hx51⟩ := Ko hi51;refine TL.w rfl (gA (i := k) Tryz.underlying23 Kd rfl rfl rfl rfl rfl (by omega)) ?_;refine TL.rowset (k := 0) (vs := x37.cells) (xs' := Ka Rs.cells (ys.set k x37)) rfl rfl rfl rfl rfl rfl rfl Kd (Ke.one _) (by rw [K2 Ke]; show 0 + k * 17 + 17 <= _; omega) (KaQ Ke (q := 0) (y := x37) hx51 (by show 0 + 17 <= 17; decide) rfl) ?_
     try dsimp only [List.set_cons_zero, List.set_cons_succ]
     refine zET (zG (TL.mv ?_));refine TL.v (gD ((k + 1 : Nat) : Int)) ?_;refine TL.as_ ?_;refine zE (zN (zT (zG (TL.mv ?_))));refine TL.v (gD ((j + 1 : Nat) : Int)) ?_;refine TL.as_ ?_;refine zE ?_;exact TX.rd (⟨(k + 1, j + 1, ys.set k x37), by dsimp only; omega, by rw [List.length_set]; exact hly, hc1, hc2⟩) (by show n - (j + 1) < n - j; omega) (fun w1 hw => hw)
    have q44 := of_decide_eq_false h44;have hst := KbO (by rw [<- hI _ (by omega)]; exact hx37) (by rw [<- hI _ (by omega), show k0 + j - 1 = k0 + (j - 1) by omega]; exact hx42) (by omega : 1 <= k0 + j);have hd1 : ∀ p, k0 + (j + 1) - 1 <= p -> ys[p]? = xs[p]? := fun p hp => hI p (by omega);have hd2 : ys.take k = Kf (xs.take (k0 + (j + 1))) := by rw [hT, show k0 + (j + 1) = k0 + j + 1 from rfl, hst, if_pos (Decidable.not_not.1 q44).symm]
    refine TQ.fin ?_;refine zT (zd (zk (zN (zT (zG (TL.mv ?_))))));refine TL.v (gD ((j + 1 : Nat) : Int)) ?_;refine TL.as_ ?_;refine zE ?_;exact TX.rd (⟨(k, j + 1, ys), by dsimp only; omega, hly, hd1, hd2⟩) (by show n - (j + 1) < n - j; omega) (fun w1 hw => hw)
   obtain rfl : j = n - k0 := by omega
   have hC : ys.take k = Kf xs := by rw [hT, List.take_of_length_le (by omega)]
   refine zET (zd (zx (zX (zX (zM (zT (zSG (TL.rn 2 rfl ?_))))))));refine TL.w rfl (Kca (q := k) rfl rfl rfl rfl Tryz.underlying23 Kd (by omega) (by omega)) ?_;refine TL.clearF Ke (kk := 0) (q := k) (z := Rs.zero) rfl rfl rfl rfl Tryz.underlying23 Kab (by omega) (by omega) rfl ?_
   try dsimp only [List.set_cons_zero]
   refine zET (zSG (TL.rn 2 rfl ?_));refine TL.headF Ke (kk := 0) (hi := k) rfl rfl rfl rfl rfl rfl Tryz.underlying23 Kd rfl (by omega) (by omega) ?_
   try dsimp only [List.set_cons_zero]
   refine TL.as_ ?_;refine zET (zr (zRR (zR (zRR ?_))));have hfin : (ys.take k ++ List.replicate (n - k) Rs.zero).take k = Kf xs := by rw [List.take_left' (by rw [List.length_take]; omega)]; exact hC
   have hkl : (Kf xs).length = k := by rw [<- hC, List.length_take]; omega
   rw [hfin];exact Kc Tryz.results134 rfl (fun w1 hw => ⟨by rw [hkl], by rw [hkl]; exact (KcA hw (k := 0) rfl), hw.mapEnd (fun q hq => by simp [hq])⟩)
  have q25 := of_decide_eq_false h25;have hst := KbO hx18 hx23 hk1;have hK2 : Kf (xs.take (k0 + 1)) = xs.take (k0 + 1) := by rw [hst, if_neg (fun hh => q25 hh.symm), hK, List.take_add_one, hx18]; rfl
  refine TQ.fin ?_;refine zT (zd (zk (zN (zT (zG (TL.mv ?_))))));refine TL.v (gD ((k0 + 1 : Nat) : Int)) ?_;refine TL.as_ ?_;refine zE ?_;exact TX.rd (⟨k0 + 1, by omega, by omega, hK2⟩) (by show n - (k0 + 1) < n - k0; omega) (fun w1 hw => hw)
 obtain rfl : k0 = n := by omega
 have hE : Kf xs = xs := by rw [List.take_of_length_le (by omega)] at hK; exact hK
 refine zET (zd (zx (zX (zX (zM (zT (zSG (TL.rn 2 rfl (zET (zr ?_))))))))));exact Kc Tryz.results134 rfl (fun w1 hw => by rw [hE, hl]; exact ⟨rfl, KcA hw (k := 0) rfl, hw.mapEnd (fun q hq => by simp [hq])⟩)
theorem Kqs (w : World) : Calls Tryz.prog 134 #[.slice none 0 0] w fun en w' => en = .returned (.slice none 0 0) /\ Below w.heap.size w w' := by
 refine Kh Tryz.func134 rfl rfl rfl ?_ (Pm.start w);refine zSG (TL.as_ ?_);refine zET (zS (zSG (TL.mv ?_)));refine TL.v (gN Tryz.underlying23) ?_;refine TL.w rfl (Ks rfl rfl rfl (fun w => KfX (by decide) w)) ?_;refine zET (zc (zSG (TL.rn 2 rfl (zET (zr (zR ?_))))));exact Kc Tryz.results134 rfl (fun w1 hw => ⟨rfl, hw.bel⟩)
theorem KmR {b n cap : Nat} {A : Option Addr} {l : List Rs} {w : World} (hr : w.ownsRow b 65 17 (.slice A n cap) n (Ka Rs.cells l)) (hl : l.length = n) (hn : n <= 1000000) :
  Calls Tryz.prog 134 #[.slice A n cap] w fun en w' => en = .returned (.slice A (Kf l).length cap) /\ w'.ownsRow b 65 17 (.slice A (Kf l).length cap) (Kf l).length (Ka Rs.cells (Kf l)) /\ w.grownBy w' (Value.ownBlock (.slice A n cap)) := by
 rcases id hr.2 with ⟨hv, h0⟩ | ⟨q, cap', cur, hv, hb, hq, h1, h2, h3, h4⟩
 ·cases hv;obtain rfl : l = [] := List.eq_nil_of_length_eq_zero (by omega);refine (Kqs w).mono fun en w' ⟨h5, h6⟩ => ⟨h5, ⟨rfl, .inl ⟨rfl, rfl⟩⟩, ?_⟩;exact ⟨h6.os, h6.tape, h6.output, h6.size, fun k hk _ => h6.block k hk⟩
 cases hv;refine (Klv q n cap l w ⟨hr.1, .inr ⟨q, cap, cur, rfl, Nat.le_refl _, hq, h1, h2, h3, h4⟩⟩ hl hn).mono fun en w' ⟨h5, h6, h7⟩ => ⟨h5, ⟨h6.1, ?_⟩, h7⟩;rcases h6.2 with ⟨e1, _⟩ | ⟨q', c2, cur2, e1, e2, e3⟩
 ·cases e1
 cases e1;exact .inr ⟨q, cap, cur2, rfl, hb, e3⟩
theorem Kpi (g n c : Nat) (xs : List Trc) (w : World) (h : RwG 32 3 w g n c (Ka Trc.cells xs)) (hl : xs.length = n) (hn : n <= 1000000) :
  Calls Tryz.prog 138 #[.slice (some ⟨g, 0, none⟩) n c] w fun en w' => en = .returned (.slice (some ⟨g, 0, none⟩) (Kf xs).length c) /\ RwG 32 3 w' g (Kf xs).length c (Ka Trc.cells (Kf xs)) /\ w.grownBy w' (some g) := by
 have hcap := h.obj.2.1;have hmax := h.obj.2.2;refine Kh (I := Pm ⟨Kbe w g, g⟩ (.row (.slice (some ⟨g, 0, none⟩) n c) 32 3 n (Ka Trc.cells xs) :: KE g w)) Tryz.func138 rfl rfl rfl ?_ (Pm.rowStartG h);refine zSG (TL.as_ ?_);refine zET (zS (zSG (TL.mv ?_)));refine TL.v (gN Tryz.underlying128) ?_;refine TL.sp Kk (fun q8 => ?_) (fun q8 => ?_)
 ·have hE : Kf xs = xs := KfW (by omega);refine zET (zc (zSG (TL.rn 2 rfl (zET (zr (zR ?_))))));exact Kc Tryz.results138 rfl (fun w1 hw => by rw [hE, hl]; exact ⟨rfl, KcA hw (k := 0) rfl, hw.mapEnd (fun q hq => by simp [hq])⟩)
 refine zET (zd (zk (zT (zS (zSG (TL.as_ ?_))))));refine zET (zB ?_);refine TC.lp (α := {k : Nat // 1 <= k /\ k <= n /\ Kf (xs.take k) = xs.take k}) [0] rfl (fun y => [(3, .int .i64 ((y.1 : Nat) : Int))]) (fun y => Pm ⟨Kbe w g, g⟩ ([.row (.slice (some ⟨g, 0, none⟩) n c) 32 3 n (Ka Trc.cells xs)] ++ KE g w)) (fun y => n - y.1) (⟨1, Nat.le_refl _, by omega, KfH xs⟩) (fun w1 hw => hw) ?_;rintro ⟨k0, hk1, hk2, hK⟩
 try dsimp only
 refine zS (zSG (TL.rn 2 rfl (TL.v (gN Tryz.underlying128) ?_)));refine TL.sp Kk (fun q13 => ?_) (fun q13 => ?_)
 ·refine zET (zc (zk (zT (zS (zB (zS (TC.quietQ (by kernel_rfl) (by kernel_rfl) (fun w hw => hw.drawn _) ?_)))))));refine TQ.rn 2 rfl ?_;have hi18 : k0 < xs.length := by omega
  obtain ⟨x18, hx18⟩ := Ko hi18;refine TQ.w rfl (gA (i := k0) Tryz.underlying128 Kaj rfl rfl rfl rfl rfl (by omega)) ?_;refine TQ.w rfl (KS (off := 0 + k0 * 3) rfl rfl KbJ Kaj (KaF.len x18) (fun w1 hw j9 u9 h9 => Kv KaF hw (q := 0) rfl hx18 j9 u9 h9)) ?_;refine TQ.rn 2 rfl ?_;refine TQ.w rfl (Ks rfl rfl rfl (fun w => K0 (r := ((k0 - 1 : Nat) : Int)) (by simp only [IntKind.wrap_i64]; omega) w)) ?_;have hi23 : k0 - 1 < xs.length := by omega
  obtain ⟨x23, hx23⟩ := Ko hi23;refine TQ.w rfl (gA (i := (k0 - 1)) Tryz.underlying128 Kaj rfl rfl rfl rfl rfl (by omega)) ?_;refine TQ.w rfl (KS (off := 0 + (k0 - 1) * 3) rfl rfl KbJ Kaj (KaF.len x23) (fun w1 hw j9 u9 h9 => Kv KaF hw (q := 0) rfl hx23 j9 u9 h9)) ?_;refine TQ.vw rfl (Kac rfl rfl rfl (fun w => Kgv x18 x23 _ _ w)) (fun h25 => ?_) (fun h25 => ?_)
  ·have q25 := of_decide_eq_true h25;have hst := KbO hx18 hx23 hk1;have hK2 : Kf (xs.take (k0 + 1)) = xs.take k0 := by rw [hst, if_pos q25.symm]; exact hK
   refine TQ.fin ?_;refine zT (zc (zSG (TL.rn 2 rfl ?_)));refine TL.w rfl (Kca (q := k0) rfl rfl rfl rfl Tryz.underlying128 Kaj (by omega) (by omega)) ?_;refine TL.as_ ?_;refine zET (zS (zSG (TL.as_ ?_)));refine zET (zB ?_);refine TC.lp (α := {y : Nat × Nat × List Trc // (1 <= y.2.1 /\ y.2.1 <= n - k0 /\ k0 <= y.1 /\ y.1 <= k0 + y.2.1 - 1) /\ y.2.2.length = n /\ (∀ p, k0 + y.2.1 - 1 <= p -> y.2.2[p]? = xs[p]?) /\ y.2.2.take y.1 = Kf (xs.take (k0 + y.2.1))}) [0, 4] rfl (fun y => [(3, .int .i64 ((y.1.1 : Nat) : Int)), (5, .int .i64 ((y.1.2.1 : Nat) : Int))]) (fun y => Pm ⟨Kbe w g, g⟩ ([.row (.slice (some ⟨g, 0, none⟩) n c) 32 3 n (Ka Trc.cells y.1.2.2)] ++ KE g w)) (fun y => n - y.1.2.1) (⟨(k0, 1, xs), by dsimp only; omega, hl, fun p _ => rfl, hK2.symm⟩) (fun w1 hw => hw) ?_;rintro ⟨⟨k, j, ys⟩, ⟨hj1, hj2, hj3, hj4⟩, hly, hI, hT⟩;dsimp only at hj1 hj2 hj3 hj4 hly hI hT ⊢;refine zS (zSG (TL.rn 2 rfl (TL.v (gN Tryz.underlying128) ?_)));refine TL.sp Kk (fun q32 => ?_) (fun q32 => ?_)
   ·refine zET (zc (zk (zT (zS (zB (zS (TC.quietQ (by kernel_rfl) (by kernel_rfl) (fun w hw => hw.drawn _) ?_)))))));refine TQ.rn 2 rfl ?_;have hi37 : (k0 + j) < ys.length := by omega
    obtain ⟨x37, hx37⟩ := Ko hi37;refine TQ.w rfl (Kai (v := .pointer (some ⟨g, 0 + (k0 + j) * 3, none⟩)) rfl rfl rfl (fun w => Kcz Tryz.underlying128 Kaj g k0 _ _ j (by omega) rfl w)) ?_;refine TQ.w rfl (KS (off := 0 + (k0 + j) * 3) rfl rfl KbJ Kaj (KaF.len x37) (fun w1 hw j9 u9 h9 => Kv KaF hw (q := 0) rfl hx37 j9 u9 h9)) ?_;refine TQ.rn 2 rfl ?_;refine TQ.w rfl (Ks rfl rfl rfl (fun w => K0 (r := ((j - 1 : Nat) : Int)) (by simp only [IntKind.wrap_i64]; omega) w)) ?_;have hi42 : (k0 + (j - 1)) < ys.length := by omega
    obtain ⟨x42, hx42⟩ := Ko hi42;refine TQ.w rfl (Kai (v := .pointer (some ⟨g, 0 + (k0 + (j - 1)) * 3, none⟩)) rfl rfl rfl (fun w => Kcz Tryz.underlying128 Kaj g k0 _ _ (j - 1) (by omega) rfl w)) ?_;refine TQ.w rfl (KS (off := 0 + (k0 + (j - 1)) * 3) rfl rfl KbJ Kaj (KaF.len x42) (fun w1 hw j9 u9 h9 => Kv KaF hw (q := 0) rfl hx42 j9 u9 h9)) ?_;refine TQ.vw rfl (Kac rfl rfl rfl (fun w => Kop x37 x42 _ _ w)) (fun h44 => ?_) (fun h44 => ?_)
    ·have q44 := of_decide_eq_true h44;have hst := KbO (by rw [<- hI _ (by omega)]; exact hx37) (by rw [<- hI _ (by omega), show k0 + j - 1 = k0 + (j - 1) by omega]; exact hx42) (by omega : 1 <= k0 + j);have hc1 : ∀ p, k0 + (j + 1) - 1 <= p -> (ys.set k x37)[p]? = xs[p]? := fun p hp => by rw [List.getElem?_set_ne (by omega)]; exact hI p (by omega)
     have hc2 : (ys.set k x37).take (k + 1) = Kf (xs.take (k0 + (j + 1))) := by
      rw [List.take_add_one, List.take_set_of_le (Nat.le_refl _), List.getElem?_set_self (by omega), hT, show k0 + (j + 1) = k0 + j + 1 from rfl, hst, if_neg (fun hh => q44 hh.symm)]; rfl
     refine TQ.fin ?_;refine zT (zc (zSG (TL.rn 4 rfl ?_)));refine TL.w rfl (Kai (v := .pointer (some ⟨g, 0 + (k0 + j) * 3, none⟩)) rfl rfl rfl (fun w => Kcz Tryz.underlying128 Kaj g k0 _ _ j (by omega) rfl w)) ?_;refine TL.w rfl (KS (off := 0 + (k0 + j) * 3) rfl rfl KbJ Kaj (KaF.len x37) (fun w1 hw j9 u9 h9 => Kv KaF hw (q := 0) rfl hx37 j9 u9 h9)) ?_;have hi51 : k < ys.length := by omega
     obtain ⟨x51, hx51⟩ := Ko hi51;refine TL.w rfl (gA (i := k) Tryz.underlying128 Kaj rfl rfl rfl rfl rfl (by omega)) ?_;refine TL.rowset (k := 0) (vs := x37.cells) (xs' := Ka Trc.cells (ys.set k x37)) rfl rfl rfl rfl rfl rfl rfl Kaj (KaF.one _) (by rw [K2 KaF]; show 0 + k * 3 + 3 <= _; omega) (KaQ KaF (q := 0) (y := x37) hx51 (by show 0 + 3 <= 3; decide) rfl) ?_
     try dsimp only [List.set_cons_zero, List.set_cons_succ]
     refine zET (zG (TL.mv ?_));refine TL.v (gD ((k + 1 : Nat) : Int)) ?_;refine TL.as_ ?_;refine zE (zN (zT (zG (TL.mv ?_))));refine TL.v (gD ((j + 1 : Nat) : Int)) ?_;refine TL.as_ ?_;refine zE ?_;exact TX.rd (⟨(k + 1, j + 1, ys.set k x37), by dsimp only; omega, by rw [List.length_set]; exact hly, hc1, hc2⟩) (by show n - (j + 1) < n - j; omega) (fun w1 hw => hw)
    have q44 := of_decide_eq_false h44;have hst := KbO (by rw [<- hI _ (by omega)]; exact hx37) (by rw [<- hI _ (by omega), show k0 + j - 1 = k0 + (j - 1) by omega]; exact hx42) (by omega : 1 <= k0 + j);have hd1 : ∀ p, k0 + (j + 1) - 1 <= p -> ys[p]? = xs[p]? := fun p hp => hI p (by omega);have hd2 : ys.take k = Kf (xs.take (k0 + (j + 1))) := by rw [hT, show k0 + (j + 1) = k0 + j + 1 from rfl, hst, if_pos (Decidable.not_not.1 q44).symm]
    refine TQ.fin ?_;refine zT (zd (zk (zN (zT (zG (TL.mv ?_))))));refine TL.v (gD ((j + 1 : Nat) : Int)) ?_;refine TL.as_ ?_;refine zE ?_;exact TX.rd (⟨(k, j + 1, ys), by dsimp only; omega, hly, hd1, hd2⟩) (by show n - (j + 1) < n - j; omega) (fun w1 hw => hw)
   obtain rfl : j = n - k0 := by omega
   have hC : ys.take k = Kf xs := by rw [hT, List.take_of_length_le (by omega)]
   refine zET (zd (zx (zX (zX (zM (zT (zSG (TL.rn 2 rfl ?_))))))));refine TL.w rfl (Kca (q := k) rfl rfl rfl rfl Tryz.underlying128 Kaj (by omega) (by omega)) ?_;refine TL.clearF KaF (kk := 0) (q := k) (z := Trc.zero) rfl rfl rfl rfl Tryz.underlying128 Keq (by omega) (by omega) rfl ?_
   try dsimp only [List.set_cons_zero]
   refine zET (zSG (TL.rn 2 rfl ?_));refine TL.headF KaF (kk := 0) (hi := k) rfl rfl rfl rfl rfl rfl Tryz.underlying128 Kaj rfl (by omega) (by omega) ?_
   try dsimp only [List.set_cons_zero]
   refine TL.as_ ?_;refine zET (zr (zRR (zR (zRR ?_))));have hfin : (ys.take k ++ List.replicate (n - k) Trc.zero).take k = Kf xs := by rw [List.take_left' (by rw [List.length_take]; omega)]; exact hC
   have hkl : (Kf xs).length = k := by rw [<- hC, List.length_take]; omega
   rw [hfin];exact Kc Tryz.results138 rfl (fun w1 hw => ⟨by rw [hkl], by rw [hkl]; exact (KcA hw (k := 0) rfl), hw.mapEnd (fun q hq => by simp [hq])⟩)
  have q25 := of_decide_eq_false h25;have hst := KbO hx18 hx23 hk1;have hK2 : Kf (xs.take (k0 + 1)) = xs.take (k0 + 1) := by rw [hst, if_neg (fun hh => q25 hh.symm), hK, List.take_add_one, hx18]; rfl
  refine TQ.fin ?_;refine zT (zd (zk (zN (zT (zG (TL.mv ?_))))));refine TL.v (gD ((k0 + 1 : Nat) : Int)) ?_;refine TL.as_ ?_;refine zE ?_;exact TX.rd (⟨k0 + 1, by omega, by omega, hK2⟩) (by show n - (k0 + 1) < n - k0; omega) (fun w1 hw => hw)
 obtain rfl : k0 = n := by omega
 have hE : Kf xs = xs := by rw [List.take_of_length_le (by omega)] at hK; exact hK
 refine zET (zd (zx (zX (zX (zM (zT (zSG (TL.rn 2 rfl (zET (zr ?_))))))))));exact Kc Tryz.results138 rfl (fun w1 hw => by rw [hE, hl]; exact ⟨rfl, KcA hw (k := 0) rfl, hw.mapEnd (fun q hq => by simp [hq])⟩)
theorem Knj (w : World) : Calls Tryz.prog 138 #[.slice none 0 0] w fun en w' => en = .returned (.slice none 0 0) /\ Below w.heap.size w w' := by
 refine Kh Tryz.func138 rfl rfl rfl ?_ (Pm.start w);refine zSG (TL.as_ ?_);refine zET (zS (zSG (TL.mv ?_)));refine TL.v (gN Tryz.underlying128) ?_;refine TL.w rfl (Ks rfl rfl rfl (fun w => KfX (by decide) w)) ?_;refine zET (zc (zSG (TL.rn 2 rfl (zET (zr (zR ?_))))));exact Kc Tryz.results138 rfl (fun w1 hw => ⟨rfl, hw.bel⟩)
theorem Klk {b n cap : Nat} {A : Option Addr} {l : List Trc} {w : World} (hr : w.ownsRow b 32 3 (.slice A n cap) n (Ka Trc.cells l)) (hl : l.length = n) (hn : n <= 1000000) :
  Calls Tryz.prog 138 #[.slice A n cap] w fun en w' => en = .returned (.slice A (Kf l).length cap) /\ w'.ownsRow b 32 3 (.slice A (Kf l).length cap) (Kf l).length (Ka Trc.cells (Kf l)) /\ w.grownBy w' (Value.ownBlock (.slice A n cap)) := by
 rcases id hr.2 with ⟨hv, h0⟩ | ⟨q, cap', cur, hv, hb, hq, h1, h2, h3, h4⟩
 ·cases hv;obtain rfl : l = [] := List.eq_nil_of_length_eq_zero (by omega);refine (Knj w).mono fun en w' ⟨h5, h6⟩ => ⟨h5, ⟨rfl, .inl ⟨rfl, rfl⟩⟩, ?_⟩;exact ⟨h6.os, h6.tape, h6.output, h6.size, fun k hk _ => h6.block k hk⟩
 cases hv;refine (Kpi q n cap l w ⟨hr.1, .inr ⟨q, cap, cur, rfl, Nat.le_refl _, hq, h1, h2, h3, h4⟩⟩ hl hn).mono fun en w' ⟨h5, h6, h7⟩ => ⟨h5, ⟨h6.1, ?_⟩, h7⟩;rcases h6.2 with ⟨e1, _⟩ | ⟨q', c2, cur2, e1, e2, e3⟩
 ·cases e1
 cases e1;exact .inr ⟨q, cap, cur2, rfl, hb, e3⟩
set_option maxRecDepth 20000
theorem Kem {α : Type} {p : α -> Bool} {l out : List α} {i : Nat} {x : α} (hx : l[i]? = some x) (h : p x = true) (ho : (l.take i).filter p = out) : (l.take (i + 1)).filter p = out ++ [x] := by
 rw [List.take_add_one, hx, List.filter_append, ho];simp [h]
theorem Kde {α : Type} {p : α -> Bool} {l out : List α} {i : Nat} {x : α} (hx : l[i]? = some x) (h : p x = false) (ho : (l.take i).filter p = out) : (l.take (i + 1)).filter p = out := by
 rw [List.take_add_one, hx, List.filter_append, ho];simp [h]
def Kad (l o : List Rs) : Prop := Kbb Rs.keys o /\ ∀ x, x ∈ o ↔ x ∈ l /\ Km x = true
theorem Kcu (x : Rs) : x.keys.length = 17 := rfl
theorem Kad.eq {l o o' : List Rs} (h : Kad l o) (h' : Kad l o') : o = o' := KeE Kcu h.1 h'.1 fun x => by rw [h.2, h'.2]
theorem Kgq {x y : Rs} (hx : x.Ok) (hy : y.Ok) (h : x.keys = y.keys) : x = y := by
 obtain ⟨a1, a2, a3, a4⟩ := hx;obtain ⟨b1, b2, b3, b4⟩ := hy;have w1 : ∀ z : Int, 0 <= z -> z <= 4294967295 -> IntKind.i64.wrap z = z := fun z h0 h1 => by simp only [IntKind.wrap_i64]; omega
 have hb : ∀ p q : Bool, b2i p = b2i q -> p = q := fun p q => by cases p <;> cases q <;> decide
 simp only [Rs.keys, List.cons.injEq, and_true] at h;rw [w1 _ a1 a2, w1 _ b1 b2, w1 _ a3 a4, w1 _ b3 b4] at h;obtain ⟨v, run, num, at_, dst, proto, flow, ttl, ans, dbl, back, src, kind, code, left, id, quo⟩ := x;obtain ⟨v', run', num', at', dst', proto', flow', ttl', ans', dbl', back', src', kind', code', left', id', quo'⟩ := y;simp only at h;obtain ⟨h1, h2, h3, h4, h5, h6, h7, h8, h9, h10, h11, h12, h13, h14, h15, h16, h17⟩ := h;have h9 := hb _ _ h9;have h10 := hb _ _ h10;subst h1 h2 h3 h4 h5 h6 h7 h8 h9 h10 h11 h12 h13 h14 h15 h16 h17
 rfl
theorem KlC {l o s : List Rs} (hok : ∀ r ∈ l, r.Ok) (ho : l.filter Km = o) (hs : KbU Ka4 o s) : Kad l (Kf s) := by
 have hm : ∀ x, x ∈ s ↔ x ∈ l /\ Km x = true := fun x => by rw [hs.1.mem_iff, <- ho, List.mem_filter]
 refine ⟨Kgz Kcu s hs.2 fun x hx y hy h => Kgq (hok x ((hm x).1 hx).1) (hok y ((hm y).1 hy).1) h, fun x => by rw [Kdt, hm]⟩
theorem KbF (a0_0 : Int) (a0_1 : Int) (a0_2 : Int) (a0_3 : Int) (a0_4 : Int) (a0_5 : Int) (a0_6 : Int) (a0_7 : Int) (a0_8 : Bool) (a0_9 : Bool) (a0_10 : Int) (a0_11 : Int) (a0_12 : Int) (a0_13 : Int) (a0_14 : Int) (a0_15 : Int) (a0_16 : Int) (w : World) : (Instr.buildSlice 23 1 #[(0, .agg #[.int .i64 a0_0, .int .i64 a0_1, .int .i64 a0_2, .int .i64 a0_3, .int .u32 a0_4, .int .i64 a0_5, .int .i64 a0_6, .int .i64 a0_7, .bool a0_8, .bool a0_9, .int .i64 a0_10, .int .u32 a0_11, .int .i64 a0_12, .int .i64 a0_13, .int .i64 a0_14, .int .i64 a0_15, .int .i64 a0_16])]).run Tryz.prog w = .ok (.slice (some ⟨w.heap.size, 0, none⟩) 1 1) (w.alloc (.cells [.int .i64 a0_0, .int .i64 a0_1, .int .i64 a0_2, .int .i64 a0_3, .int .u32 a0_4, .int .i64 a0_5, .int .i64 a0_6, .int .i64 a0_7, .bool a0_8, .bool a0_9, .int .i64 a0_10, .int .u32 a0_11, .int .i64 a0_12, .int .i64 a0_13, .int .i64 a0_14, .int .i64 a0_15, .int .i64 a0_16].toArray 65)) := by kernel_rfl
theorem KaK : Elem Tryz.prog 23 65 17 128 := Elem.mk' Tryz.underlying23 (z := .agg #[.int .i64 0, .int .i64 0, .int .i64 0, .int .i64 0, .int .u32 0, .int .i64 0, .int .i64 0, .int .i64 0, .bool false, .bool false, .int .i64 0, .int .u32 0, .int .i64 0, .int .i64 0, .int .i64 0, .int .i64 0, .int .i64 0]) (by kernel_rfl) rfl (by omega) (by omega)
theorem KfK (A0 : Option Addr) (c0 : Nat) (l : List Rs) (w : World) (hr : Kg w w.heap.size 17 A0 l.length (Ka Rs.cells l)) (hl1 : l.length <= 100000) (hok : ∀ r ∈ l, r.Ok) :
  Calls Tryz.prog 88 #[.slice A0 l.length c0] w fun e w' => ∃ x : {y : (Option Addr × Nat) × List Rs // Kad l y.2 /\ y.2.length <= y.1.2 /\ y.1.2 <= maxLen}, e = .returned (.slice x.1.1.1 x.1.2.length x.1.1.2) /\ Pm w [.row (.slice x.1.1.1 x.1.2.length x.1.1.2) 65 17 x.1.2.length (Ka Rs.cells x.1.2)] w' := by
 refine Kh Tryz.func88 rfl rfl rfl ?_ (Pm.start w);refine zSG (TL.as_ ?_);refine zET (zSG (TL.as_ ?_));refine zET (zS (zSG (TL.mv ?_)));refine TL.v (gN Tryz.underlying23) ?_;refine TL.mv ?_;refine zET (zB (TC.nilrow 65 17 ?_));refine TC.lp (α := {y : Nat × (Option Addr × Nat) × List Rs // y.1 <= l.length /\ ((l.take y.1).filter Km = y.2.2) /\ y.2.2.length <= y.1 /\ y.2.2.length <= y.2.1.2 /\ y.2.1.2 <= maxLen}) [2, 6, 7] rfl (fun y => [(8, .int .i64 ((y.1.1 : Nat) : Int)), (3, .slice y.1.2.1.1 y.1.2.2.length y.1.2.1.2)]) (fun y => Pm w [.row (.slice y.1.2.1.1 y.1.2.2.length y.1.2.1.2) 65 17 y.1.2.2.length (Ka Rs.cells y.1.2.2)]) (fun y => l.length - y.1.1) (⟨(0, (none, 0), []), Nat.zero_le _, rfl, Nat.le_refl _, Nat.le_refl _, Nat.zero_le _⟩) (fun w1 hw => hw) ?_;rintro ⟨⟨i, ⟨Ao, co⟩, out⟩, hi, hout, houtl, houtc, houtm⟩;dsimp only at hi hout houtl houtc houtm ⊢;refine zSG ?_;refine TL.vw rfl (Ks rfl rfl rfl (fun w => Kk w)) (fun h9 => ?_) (fun h9 => ?_)
 ·have q9 := of_decide_eq_true h9;refine zET (zS (zc (zk (zT (zS (zB (zSG ?_)))))));have hi10 : i < l.length := by omega
  obtain ⟨x10, hx10⟩ := Ko hi10;obtain ⟨b10, o10, hA10, hbb10, hc10⟩ := hr.ad (by omega) (by decide);refine TL.w rfl (gA (i := i) Tryz.underlying23 Kd rfl rfl rfl rfl hA10 (by omega)) ?_;refine TL.v (gR Ke Ku Kd hbb10 hx10 hc10) ?_;refine TL.al Kab fun g5 => ?_;refine TL.pstore (k := 0) (vs := x10.cells) rfl rfl rfl rfl rfl rfl rfl Kd (Ke.one _) (by show 17 <= 17; decide) (L' := [.blk g5 65 x10.cells, .row (.slice Ao out.length co) 65 17 out.length (Ka Rs.cells out)]) rfl ?_;refine zET (zSG (TL.v (gV 0 (.agg (x10.cells).toArray) Ku Kd) ?_));refine TL.pS rfl o70 (fun w1 hw => KcY x10 w1) (fun h13 => ?_) (fun h13 => ?_)
  ·refine zET (zc (zG (TL.mv ?_)));refine TL.v (gV 0 (.agg (x10.cells).toArray) Ku Kd) ?_;refine TL.prowS (e := 65) (size := 17) (cs := Ka Rs.cells [x10]) rfl rfl rfl rfl rfl (fun w => KbF _ _ _ _ _ _ _ _ _ _ _ _ _ _ _ _ _ w) (by decide) rfl (fun g16 => ?_);refine TL.appendT (k := 2) rfl rfl rfl rfl Tryz.underlying23 KaK rfl rfl rfl (fun w1 hw => KN hw (k := 0) rfl) (KA Ke _) (by show _ * 128 <= _; omega) ((out ++ [x10]).length) (by rw [List.length_append]; rfl) (Ka Rs.cells (out ++ [x10])) ((KF _ _).symm) (fun A17 c17 hA171 hA172 => ?_);refine TL.as_ ?_;refine zE (zN (zT (zG (TL.v (gD ((i + 1 : Nat) : Int)) ?_))));refine TL.mv ?_;refine zE ?_;exact TX.rd (⟨(i + 1, (A17, c17), out ++ [x10]), by dsimp only; omega, Kem hx10 h13 hout, by dsimp only; rw [List.length_append]; show out.length + 1 <= _; omega, hA171, hA172⟩) (by show l.length - (i + 1) < l.length - i; omega) (fun w1 hw => hw.pk [2])
  refine zET (zd (zk (zN (zT (zG (TL.v (gD ((i + 1 : Nat) : Int)) ?_))))));refine TL.mv ?_;refine zE ?_;exact TX.rd (⟨(i + 1, (Ao, co), out), by dsimp only; omega, Kde hx10 h13 hout, by dsimp only; omega, houtc, houtm⟩) (by show l.length - (i + 1) < l.length - i; omega) (fun w1 hw => hw.pk [1])
 have q9 := of_decide_eq_false h9;refine zET (zS (zd (zx (zX (zX (zM (zT (zSG (TL.mv ?_)))))))));refine TL.turnRowD (k := 0) (fun ys => KbU Ka4 out ys) rfl rfl rfl rfl rfl Tryz.func132 (by decide) rfl rfl (fun w1 hw hr9 => KpI hr9 (rfl) (by omega)) (fun srt20 hS20 => ?_)
 try dsimp only [List.set_cons_zero, List.set_cons_succ]
 refine zET (zSG (TL.mv ?_));refine TL.turnRow2 (q := 0) (ys := Kf srt20) rfl rfl rfl rfl rfl Tryz.func134 (by decide) rfl rfl (fun w1 hw hr9 => KmR hr9 (hS20.1.length_eq) (by omega)) ?_
 try dsimp only [List.set_cons_zero, List.set_cons_succ]
 refine TL.as_ ?_;refine zET (zr ?_);have hle : (Kf srt20).length <= out.length := Nat.le_trans (KdC _) (Nat.le_of_eq hS20.1.length_eq);exact Kc Tryz.results88 rfl (fun w1 hw => ⟨⟨((Ao, co), Kf srt20), KlC hok (by rw [List.take_of_length_le (by omega)] at hout; exact hout) hS20, by dsimp only; omega, houtm⟩, rfl, hw.pick [0] (by decide) rfl⟩)
set_option maxRecDepth 20000
theorem Kad.nil : Kad [] [] := ⟨List.Pairwise.nil, fun x => by simp⟩
theorem KaG {α : Type} {l : List α} {i : Nat} {x z : α} (hx : l[i]? = some x) : z ∈ l.take (i + 1) ↔ z ∈ l.take i \/ z = x := by
 rw [List.take_add_one, hx, List.mem_append];simp
theorem Kad.skip {l o : List Rs} {i : Nat} {x : Rs} (h : Kad (l.take i) o) (hx : l[i]? = some x) (hv : Km x = false) : Kad (l.take (i + 1)) o := ⟨h.1, fun z => by
 rw [h.2, KaG hx];constructor
 ·exact fun hh => ⟨.inl hh.1, hh.2⟩
 rintro ⟨h1 | h1, h2⟩
 ·exact ⟨h1, h2⟩
 subst h1; rw [hv] at h2; cases h2⟩
theorem Kad.dup {l o : List Rs} {i q : Nat} {x y : Rs} (h : Kad (l.take i) o) (hx : l[i]? = some x) (hv : Km x = true) (hok : ∀ r ∈ l, r.Ok) (hy : o[q]? = some y) (hc : Ka4 y x = 0) : Kad (l.take (i + 1)) o := by
 have hym := List.mem_of_getElem? hy;have e : y = x := Kgq (hok y (List.mem_of_mem_take ((h.2 y).1 hym).1)) (hok x (List.mem_of_getElem? hx)) ((KdO (a := y.keys) (b := x.keys) rfl).1 hc);subst e;refine ⟨h.1, fun z => ?_⟩;rw [h.2, KaG hx];constructor
 ·exact fun hh => ⟨.inl hh.1, hh.2⟩
 rintro ⟨h1 | h1, h2⟩
 ·exact ⟨h1, h2⟩
 rw [h1]; exact (h.2 y).1 hym
theorem Kad.put {l o : List Rs} {i q : Nat} {x : Rs} (h : Kad (l.take i) o) (hx : l[i]? = some x) (hv : Km x = true) (h1 : ∀ y ∈ o.take q, KI y.keys x.keys < 0) (h2 : ∀ y ∈ o.drop q, KI x.keys y.keys < 0) : Kad (l.take (i + 1)) (o.take q ++ x :: o.drop q) := by
 refine ⟨Kgk Kcu h.1 h1 h2, fun z => ?_⟩;rw [Kgm, h.2, KaG hx];constructor
 ·rintro (hh | hh)
  ·exact ⟨.inl hh.1, hh.2⟩
  rw [hh]; exact ⟨.inr rfl, hv⟩
 rintro ⟨h3 | h3, h4⟩
 ·exact .inl ⟨h3, h4⟩
 exact .inr h3
theorem Khl (A0 : Option Addr) (c0 : Nat) (l : List Rs) (w : World) (hr : Kg w w.heap.size 17 A0 l.length (Ka Rs.cells l)) (hl1 : l.length <= 100000) (hok : ∀ r ∈ l, r.Ok) :
  Calls Tryz.prog 95 #[.slice A0 l.length c0] w fun e w' => ∃ x : {y : (Option Addr × Nat) × List Rs // Kad l y.2 /\ y.2.length <= y.1.2 /\ y.1.2 <= maxLen}, e = .returned (.slice x.1.1.1 x.1.2.length x.1.1.2) /\ Pm w [.row (.slice x.1.1.1 x.1.2.length x.1.1.2) 65 17 x.1.2.length (Ka Rs.cells x.1.2)] w' := by
 refine Kh Tryz.func95 rfl rfl rfl ?_ (Pm.start w);refine zSG (TL.as_ ?_);refine zET (zSG (TL.as_ ?_));refine zET (zS (zSG (TL.as_ ?_)));refine zET (zB (TC.nilrow 65 17 ?_));refine TC.lp (α := {y : Nat × (Option Addr × Nat) × Nat × List Rs // y.1 <= l.length /\ (Kad (l.take y.1) y.2.2.2) /\ y.2.2.1 <= y.1 /\ y.2.2.1 <= y.2.1.2 /\ y.2.1.2 <= maxLen /\ y.2.2.2.length = y.2.2.1}) [0, 2] rfl (fun y => [(4, .int .i64 ((y.1.1 : Nat) : Int)), (3, .slice y.1.2.1.1 y.1.2.2.1 y.1.2.1.2)]) (fun y => Pm w [.row (.slice y.1.2.1.1 y.1.2.2.1 y.1.2.1.2) 65 17 y.1.2.2.1 (Ka Rs.cells y.1.2.2.2)]) (fun y => l.length - y.1.1) (⟨(0, (none, 0), 0, []), Nat.zero_le _, Kad.nil, Nat.le_refl _, Nat.le_refl _, Nat.zero_le _, rfl⟩) (fun w1 hw => hw) ?_;rintro ⟨⟨i, ⟨Ao, co⟩, m, out⟩, hi, hout, houtl, houtc, houtm, houtn⟩;dsimp only at hi hout houtl houtc houtm houtn ⊢;refine zS (zSG (TL.rn 2 rfl (TL.v (gN Tryz.underlying23) ?_)));refine TL.vw rfl (Ks rfl rfl rfl (fun w => Kk w)) (fun h9 => ?_) (fun h9 => ?_)
 ·have q9 := of_decide_eq_true h9;refine zET (zc (zk (zT (zS (zB (zS (zSG (TL.rn 2 rfl ?_))))))));have hi14 : i < l.length := by omega
  obtain ⟨x14, hx14⟩ := Ko hi14;obtain ⟨b14, o14, hA14, hbb14, hc14⟩ := hr.ad (by omega) (by decide);refine TL.w rfl (gA (i := i) Tryz.underlying23 Kd rfl rfl rfl rfl hA14 (by omega)) ?_;refine TL.v (gR Ke Ku Kd hbb14 hx14 hc14) ?_;refine TL.pS rfl o71 (fun w1 hw => Kdl x14 w1) (fun h16 => ?_) (fun h16 => ?_)
  ·refine TL.w rfl (K7 rfl rfl) ?_;refine zET (zd (zk (zT (zSG (TL.mv ?_)))));refine TL.v (gN Tryz.underlying23) ?_;refine TL.as_ ?_;refine zET (zS (zB ?_));refine TC.lp (α := {k : Nat // k <= out.length /\ ∀ z ∈ out.drop k, KI x14.keys z.keys < 0}) [0, 2, 3, 4] rfl (fun y => [(5, .int .i64 ((y.1 : Nat) : Int))]) (fun y => Pm w [.row (.slice Ao m co) 65 17 m (Ka Rs.cells out)]) (fun y => y.1) (⟨m, by omega, fun z hz => by rw [List.drop_of_length_le (by omega)] at hz; cases hz⟩) (fun w1 hw => hw) ?_;rintro ⟨k, hk, hgt⟩
   try dsimp only at hk hgt ⊢
   refine zS (zS ?_);by_cases hk0 : k = 0
   ·refine TC.quietQ (by kernel_rfl) (by kernel_rfl) (fun w hw => hw.drawn _) ?_;refine TQ.w rfl (Ki rfl rfl) ?_;refine TQ.w rfl (Ks rfl rfl rfl (fun w => KiU (by omega) w)) ?_;refine TQ.rn 13 rfl ?_;refine TQ.fin ?_;refine zT (zd (zx (zX (zX (zM (zT (zS (zS ?_))))))))
    ·refine TC.quietQ (by kernel_rfl) (by kernel_rfl) (fun w hw => hw.drawn _) ?_;refine TQ.w rfl (Ki rfl rfl) ?_;refine TQ.w rfl (Ks rfl rfl rfl (fun w => KiU (by omega) w)) ?_;refine TQ.rn 13 rfl ?_;refine TQ.fin ?_;refine zT (zd (zk (zT (zSG (TL.rn 3 rfl ?_)))));refine TL.w rfl (gA (i := i) Tryz.underlying23 Kd rfl rfl rfl rfl hA14 (by omega)) ?_;refine TL.v (gR Ke Ku Kd hbb14 hx14 hc14) ?_;refine TL.prowS (e := 65) (size := 17) (cs := Ka Rs.cells [x14]) rfl rfl rfl rfl rfl (fun w => KbF _ _ _ _ _ _ _ _ _ _ _ _ _ _ _ _ _ w) (by decide) rfl (fun g57 => ?_);refine TL.appendT (k := 1) rfl rfl rfl rfl Tryz.underlying23 KaK rfl rfl rfl (fun w1 hw => KN hw (k := 0) rfl) (KA Ke _) (by show _ * 128 <= _; omega) (m + 1) (rfl) (Ka Rs.cells (out ++ [x14])) ((KF _ _).symm) (fun A58 c58 hA581 hA582 => ?_);refine TL.as_ ?_;refine zET (zS ?_);have hn1 : (out ++ [x14]).length = out.length + 1 := by simp
     have hn2 : (Ka9 (out ++ [x14]) k).length = out.length + 1 := by rw [Kir _ _ (by omega), hn1]
     refine TC.fact (p := ∃ g, A58 = some ⟨g, 0, none⟩) (fun w1 hw => KL hw (k := 1) rfl (by simp)) ?_;rintro ⟨g_A58, rfl⟩;refine TC.tail 7 (by kernel_rfl) (by kernel_rfl) (fun w hw => hw.drawn _) ?_;refine TS.val rfl rfl rfl (Ki rfl rfl) ?_;refine TS.val rfl rfl rfl (Ki rfl rfl) ?_;refine TS.v (gD ((k + 1 : Nat) : Int)) ?_;refine TS.val rfl rfl rfl (Kc0 (v := .slice (if c58 = k + 1 then some ⟨g_A58, 0, none⟩ else (some (⟨g_A58, 0, none⟩ : Addr)).map (·.add ((k + 1) * 17))) ((m + 1) - (k + 1)) (c58 - (k + 1))) rfl rfl rfl (fun w => KcM Tryz.underlying23 Kd _ _ _ (k + 1) rfl (by omega) w)) ?_;refine TS.val rfl rfl rfl (Ki rfl rfl) ?_;refine TS.val rfl rfl rfl (Ki rfl rfl) ?_;refine TS.val rfl rfl rfl (Kca (q := k) rfl rfl rfl rfl Tryz.underlying23 Kd (by omega) (by omega)) ?_;refine TS.end_ ?_;refine TL.shiftF Ke (kk := 1) (k := k) rfl rfl rfl rfl Tryz.underlying23 Kd rfl rfl rfl (by omega) (by omega) (by omega) ?_
     try dsimp only [List.set_cons_zero, List.set_cons_succ]
     refine zET (zG (TL.rn 4 rfl ?_));refine TL.w rfl (gA (i := i) Tryz.underlying23 Kd rfl rfl rfl rfl hA14 (by omega)) ?_;refine TL.v (gR Ke Ku Kd hbb14 hx14 hc14) ?_;have hi73 : k < (Ka9 (out ++ [x14]) k).length := by omega
     obtain ⟨x73, hx73⟩ := Ko hi73;refine TL.w rfl (gA (i := k) Tryz.underlying23 Kd rfl rfl rfl rfl rfl (by omega)) ?_;refine TL.rowset (k := 1) (vs := x14.cells) (xs' := Ka Rs.cells ((Ka9 (out ++ [x14]) k).set k x14)) rfl rfl rfl rfl rfl rfl rfl Kd (Ke.one _) (by rw [K2 Ke]; show 0 + k * 17 + 17 <= _; omega) (KaQ Ke (q := 0) (y := x14) hx73 (by show 0 + 17 <= 17; decide) rfl) ?_
     try dsimp only [List.set_cons_zero, List.set_cons_succ]
     refine zE (zN (zT (zG (TL.mv ?_))));refine TL.v (gD ((i + 1 : Nat) : Int)) ?_;refine TL.as_ ?_;refine zE ?_;exact TX.rd (⟨(i + 1, ((some ⟨g_A58, 0, none⟩), c58), m + 1, (Ka9 (out ++ [x14]) k).set k x14), by dsimp only; omega, by dsimp only; rw [Kjt _ _ _ _ (by omega)]; exact hout.put hx14 h16 (fun z hz => by rw [hk0, List.take_zero] at hz; cases hz) hgt, by dsimp only; omega, hA581, hA582, by dsimp only; rw [List.length_set]; omega⟩) (by show l.length - (i + 1) < l.length - i; omega) (fun w1 hw => hw.pk [1])
   refine TC.fact (p := ∃ g, Ao = some ⟨g, 0, none⟩) (fun w1 hw => KL hw (k := 0) rfl (by omega)) ?_;rintro ⟨g_Ao, rfl⟩;refine TC.quietQ (by kernel_rfl) (by kernel_rfl) (fun w hw => hw.drawn _) ?_;refine TQ.w rfl (Ki rfl rfl) ?_;refine TQ.w rfl (Ks rfl rfl rfl (fun w => Kij (by omega) w)) ?_;refine TQ.rn 3 rfl ?_;refine TQ.on rfl rfl rfl ?_;refine TQ.w rfl (Ks rfl rfl rfl (fun w => K0 (r := ((k - 1 : Nat) : Int)) (by simp only [IntKind.wrap_i64]; omega) w)) ?_;refine TQ.on rfl rfl rfl ?_;have hi26 : k - 1 < out.length := by omega
   obtain ⟨x26, hx26⟩ := Ko hi26;refine TQ.w rfl (gA (i := (k - 1)) Tryz.underlying23 Kd rfl rfl rfl rfl rfl (by omega)) ?_;refine TQ.on rfl rfl rfl ?_;refine TQ.w rfl (KS (off := 0 + (k - 1) * 17) rfl rfl Ku Kd (Ke.len x26) (fun w1 hw j9 u9 h9 => Kv Ke hw (q := 0) rfl hx26 j9 u9 h9)) ?_;refine TQ.rn 2 rfl ?_;refine TQ.on rfl rfl rfl ?_;refine TQ.w rfl (gA (i := i) Tryz.underlying23 Kd rfl rfl rfl rfl hA14 (by omega)) ?_;refine TQ.ov (gR Ke Ku Kd hbb14 hx14 hc14) ?_;refine TQ.on rfl rfl rfl ?_;refine TQ.p1 (v := .int .i64 (Ka4 x26 x14)) rfl Kjf (fun w1 hw => (KhF x26 x14 w1).mono fun en w2 ⟨h1, h2⟩ => ⟨h1, hw.below h2⟩) ?_;refine TQ.on rfl rfl rfl ?_;refine TQ.sp KK (fun q33 => ?_) (fun q33 => ?_)
   ·have hgt2 : ∀ z ∈ out.drop (k - 1), KI x14.keys z.keys < 0 := Kls Kcu hout.1 hx26 ((Kft Kcu).1 q33);refine TQ.w rfl (K4 rfl rfl rfl) ?_;refine TQ.fin ?_;refine zT (zc (zk (zT (zB (zG (TL.mv ?_))))));refine TL.w rfl (Ks rfl rfl rfl (fun w => K0 (r := ((k - 1 : Nat) : Int)) (by simp only [IntKind.wrap_i64]; omega) w)) ?_;refine TL.as_ ?_;refine zE (zN ?_);exact TX.rd (⟨k - 1, by omega, hgt2⟩) (by show k - 1 < k; omega) (fun w1 hw => hw)
   refine TQ.w rfl (K4 rfl rfl rfl) ?_;refine TQ.fin ?_;refine zT (zd (zx (zX (zX (zM (zT (zS (zS ?_))))))))
   ·refine TC.quietQ (by kernel_rfl) (by kernel_rfl) (fun w hw => hw.drawn _) ?_;refine TQ.w rfl (Ki rfl rfl) ?_;refine TQ.w rfl (Ks rfl rfl rfl (fun w => Kij (by omega) w)) ?_;refine TQ.rn 3 rfl ?_;refine TQ.on rfl rfl rfl ?_;refine TQ.w rfl (Ks rfl rfl rfl (fun w => K0 (r := ((k - 1 : Nat) : Int)) (by simp only [IntKind.wrap_i64]; omega) w)) ?_;refine TQ.on rfl rfl rfl ?_;refine TQ.w rfl (gA (i := (k - 1)) Tryz.underlying23 Kd rfl rfl rfl rfl rfl (by omega)) ?_;refine TQ.on rfl rfl rfl ?_;refine TQ.w rfl (KS (off := 0 + (k - 1) * 17) rfl rfl Ku Kd (Ke.len x26) (fun w1 hw j9 u9 h9 => Kv Ke hw (q := 0) rfl hx26 j9 u9 h9)) ?_;refine TQ.rn 2 rfl ?_;refine TQ.on rfl rfl rfl ?_;refine TQ.w rfl (gA (i := i) Tryz.underlying23 Kd rfl rfl rfl rfl hA14 (by omega)) ?_;refine TQ.ov (gR Ke Ku Kd hbb14 hx14 hc14) ?_;refine TQ.on rfl rfl rfl ?_;refine TQ.p1 (v := .int .i64 (Ka4 x26 x14)) rfl Kjf (fun w1 hw => (KhF x26 x14 w1).mono fun en w2 ⟨h1, h2⟩ => ⟨h1, hw.below h2⟩) ?_;refine TQ.on rfl rfl rfl ?_;refine TQ.sp Kx (fun q50 => ?_) (fun q50 => ?_)
    ·refine TQ.w rfl (K4 rfl rfl rfl) ?_;refine TQ.fin ?_;refine zT (zc (zx (zX (zM (zT (zG (TL.mv ?_)))))));refine TL.v (gD ((i + 1 : Nat) : Int)) ?_;refine TL.as_ ?_;refine zE ?_;exact TX.rd (⟨(i + 1, ((some ⟨g_Ao, 0, none⟩), co), m, out), by dsimp only; omega, hout.dup hx14 h16 hok hx26 (by exact q50), by dsimp only; omega, houtc, houtm, houtn⟩) (by show l.length - (i + 1) < l.length - i; omega) (fun w1 hw => hw)
    refine TQ.w rfl (K4 rfl rfl rfl) ?_;refine TQ.fin ?_;refine zT (zd (zk (zT (zSG (TL.rn 3 rfl ?_)))));refine TL.w rfl (gA (i := i) Tryz.underlying23 Kd rfl rfl rfl rfl hA14 (by omega)) ?_;refine TL.v (gR Ke Ku Kd hbb14 hx14 hc14) ?_;refine TL.prowS (e := 65) (size := 17) (cs := Ka Rs.cells [x14]) rfl rfl rfl rfl rfl (fun w => KbF _ _ _ _ _ _ _ _ _ _ _ _ _ _ _ _ _ w) (by decide) rfl (fun g57 => ?_);refine TL.appendT (k := 1) rfl rfl rfl rfl Tryz.underlying23 KaK rfl rfl rfl (fun w1 hw => KN hw (k := 0) rfl) (KA Ke _) (by show _ * 128 <= _; omega) (m + 1) (rfl) (Ka Rs.cells (out ++ [x14])) ((KF _ _).symm) (fun A58 c58 hA581 hA582 => ?_);refine TL.as_ ?_;refine zET (zS ?_);have hn1 : (out ++ [x14]).length = out.length + 1 := by simp
    have hn2 : (Ka9 (out ++ [x14]) k).length = out.length + 1 := by rw [Kir _ _ (by omega), hn1]
    refine TC.fact (p := ∃ g, A58 = some ⟨g, 0, none⟩) (fun w1 hw => KL hw (k := 1) rfl (by simp)) ?_;rintro ⟨g_A58, rfl⟩;refine TC.tail 7 (by kernel_rfl) (by kernel_rfl) (fun w hw => hw.drawn _) ?_;refine TS.val rfl rfl rfl (Ki rfl rfl) ?_;refine TS.val rfl rfl rfl (Ki rfl rfl) ?_;refine TS.v (gD ((k + 1 : Nat) : Int)) ?_;refine TS.val rfl rfl rfl (Kc0 (v := .slice (if c58 = k + 1 then some ⟨g_A58, 0, none⟩ else (some (⟨g_A58, 0, none⟩ : Addr)).map (·.add ((k + 1) * 17))) ((m + 1) - (k + 1)) (c58 - (k + 1))) rfl rfl rfl (fun w => KcM Tryz.underlying23 Kd _ _ _ (k + 1) rfl (by omega) w)) ?_;refine TS.val rfl rfl rfl (Ki rfl rfl) ?_;refine TS.val rfl rfl rfl (Ki rfl rfl) ?_;refine TS.val rfl rfl rfl (Kca (q := k) rfl rfl rfl rfl Tryz.underlying23 Kd (by omega) (by omega)) ?_;refine TS.end_ ?_;refine TL.shiftF Ke (kk := 1) (k := k) rfl rfl rfl rfl Tryz.underlying23 Kd rfl rfl rfl (by omega) (by omega) (by omega) ?_
    try dsimp only [List.set_cons_zero, List.set_cons_succ]
    refine zET (zG (TL.rn 4 rfl ?_));refine TL.w rfl (gA (i := i) Tryz.underlying23 Kd rfl rfl rfl rfl hA14 (by omega)) ?_;refine TL.v (gR Ke Ku Kd hbb14 hx14 hc14) ?_;have hi73 : k < (Ka9 (out ++ [x14]) k).length := by omega
    obtain ⟨x73, hx73⟩ := Ko hi73;refine TL.w rfl (gA (i := k) Tryz.underlying23 Kd rfl rfl rfl rfl rfl (by omega)) ?_;refine TL.rowset (k := 1) (vs := x14.cells) (xs' := Ka Rs.cells ((Ka9 (out ++ [x14]) k).set k x14)) rfl rfl rfl rfl rfl rfl rfl Kd (Ke.one _) (by rw [K2 Ke]; show 0 + k * 17 + 17 <= _; omega) (KaQ Ke (q := 0) (y := x14) hx73 (by show 0 + 17 <= 17; decide) rfl) ?_
    try dsimp only [List.set_cons_zero, List.set_cons_succ]
    refine zE (zN (zT (zG (TL.mv ?_))));refine TL.v (gD ((i + 1 : Nat) : Int)) ?_;refine TL.as_ ?_;refine zE ?_;exact TX.rd (⟨(i + 1, ((some ⟨g_A58, 0, none⟩), c58), m + 1, (Ka9 (out ++ [x14]) k).set k x14), by dsimp only; omega, by dsimp only; rw [Kjt _ _ _ _ (by omega)]; exact hout.put hx14 h16 (fun z hz => Kqd Kcu hout.1 hx26 (by have := q33; have := q50; show Ka4 _ _ < 0; omega) z (by rwa [Nat.sub_add_cancel (by omega)])) hgt, by dsimp only; omega, hA581, hA582, by dsimp only; rw [List.length_set]; omega⟩) (by show l.length - (i + 1) < l.length - i; omega) (fun w1 hw => hw.pk [1])
  refine TL.w rfl (K7 rfl rfl) ?_;refine zET (zc (zx (zX (zM (zT (zG (TL.mv ?_)))))));refine TL.v (gD ((i + 1 : Nat) : Int)) ?_;refine TL.as_ ?_;refine zE ?_;exact TX.rd (⟨(i + 1, (Ao, co), m, out), by dsimp only; omega, hout.skip hx14 h16, by dsimp only; omega, houtc, houtm, houtn⟩) (by show l.length - (i + 1) < l.length - i; omega) (fun w1 hw => hw)
 have q9 := of_decide_eq_false h9;refine zET (zd (zx (zX (zX (zM (zT (zSG (TL.rn 2 rfl (zET (zr ?_))))))))));subst houtn;exact Kc Tryz.results95 rfl (fun w1 hw => ⟨⟨((Ao, co), out), by rw [List.take_of_length_le (by omega)] at hout; exact hout, by dsimp only; omega, houtm⟩, rfl, hw.pick [0] (by decide) rfl⟩)
set_option maxRecDepth 20000
theorem Ko9 {α β : Type} {p : α -> Bool} {f : α -> β} {l : List α} {out : List β} {i : Nat} {x : α} (hx : l[i]? = some x) (h : p x = true) (ho : ((l.take i).filter p).map f = out) : ((l.take (i + 1)).filter p).map f = out ++ [f x] := by
 rw [List.take_add_one, hx, List.filter_append, List.map_append, ho];simp [h]
theorem KlS {α β : Type} {p : α -> Bool} {f : α -> β} {l : List α} {out : List β} {i : Nat} {x : α} (hx : l[i]? = some x) (h : p x = false) (ho : ((l.take i).filter p).map f = out) : ((l.take (i + 1)).filter p).map f = out := by
 rw [List.take_add_one, hx, List.filter_append, List.map_append, ho];simp [h]
def trk (t : Trc) : List Int := [t.v, t.dst, t.proto]
theorem KgR (t : Trc) : (trk t).length = 3 := rfl
theorem Kql {x y : Trc} (h : trk x = trk y) : x = y := by
 obtain ⟨a, b, c⟩ := x;obtain ⟨a', b', c'⟩ := y;simp only [trk, List.cons.injEq, and_true] at h;obtain ⟨h1, h2, h3⟩ := h;subst h1 h2 h3
 rfl
def Kax (l : List Rs) (o : List Trc) : Prop := Kbb trk o /\ ∀ t, t ∈ o ↔ ∃ r ∈ l, Km r = true /\ KC r = t
theorem Kax.eq {l : List Rs} {o o' : List Trc} (h : Kax l o) (h' : Kax l o') : o = o' := KeE KgR h.1 h'.1 fun x => by rw [h.2, h'.2]
theorem Klo {l : List Rs} {o s : List Trc} (ho : (l.filter Km).map KC = o) (hs : KbU Kec o s) : Kax l (Kf s) := by
 refine ⟨Kgz KgR s hs.2 fun x hx y hy h => Kql h, fun t => ?_⟩;rw [Kdt, hs.1.mem_iff, <- ho, List.mem_map];constructor
 ·rintro ⟨r, hr, e⟩;have := List.mem_filter.1 hr;exact ⟨r, this.1, this.2, e⟩
 rintro ⟨r, h1, h2, e⟩;exact ⟨r, List.mem_filter.2 ⟨h1, h2⟩, e⟩
def KjS (a b : Trc) : List (Int × Int) := [(a.v, b.v), (IntKind.i64.wrap a.dst, IntKind.i64.wrap b.dst), (a.proto, b.proto)]
def Kfe (a b : Trc) : Int := orP (KjS a b)
theorem KlL {a b : Trc} (h1 : 0 <= a.dst) (h2 : a.dst <= 4294967295) (h3 : 0 <= b.dst) (h4 : b.dst <= 4294967295) : Kfe a b = KI (trk a) (trk b) := by
 have w1 : ∀ z : Int, 0 <= z -> z <= 4294967295 -> IntKind.i64.wrap z = z := fun z h0 h1 => by simp only [IntKind.wrap_i64]; omega
 rw [Kfe, KjS, w1 _ h1 h2, w1 _ h3 h4]
 rfl
theorem Kax.nil : Kax [] [] := ⟨List.Pairwise.nil, fun x => by simp⟩
section
variable {l : List Rs} {o : List Trc} {i q : Nat} {x : Rs}
theorem Kax.skip (h : Kax (l.take i) o) (hx : l[i]? = some x) (hv : Km x = false) : Kax (l.take (i + 1)) o := ⟨h.1, fun t => by
 rw [h.2];constructor
 ·rintro ⟨r, h1, h2⟩;exact ⟨r, (KaG hx).2 (.inl h1), h2⟩
 rintro ⟨r, h1, h2, h3⟩;rcases (KaG hx).1 h1 with h4 | h4
 ·exact ⟨r, h4, h2, h3⟩
 rw [h4, hv] at h2; cases h2⟩
theorem Kax.dup (h : Kax (l.take i) o) (hx : l[i]? = some x) (hv : Km x = true) (hm : KC x ∈ o) : Kax (l.take (i + 1)) o := ⟨h.1, fun t => by
 constructor
 ·intro ht;obtain ⟨r, h1, h2⟩ := (h.2 t).1 ht;exact ⟨r, (KaG hx).2 (.inl h1), h2⟩
 rintro ⟨r, h1, h2, h3⟩;rcases (KaG hx).1 h1 with h4 | h4
 ·exact (h.2 t).2 ⟨r, h4, h2, h3⟩
 rw [<- h3, h4]; exact hm⟩
theorem Kax.put (h : Kax (l.take i) o) (hx : l[i]? = some x) (hv : Km x = true) (h1 : ∀ y ∈ o.take q, KI (trk y) (trk (KC x)) < 0) (h2 : ∀ y ∈ o.drop q, KI (trk (KC x)) (trk y) < 0) : Kax (l.take (i + 1)) (o.take q ++ KC x :: o.drop q) := by
 refine ⟨Kgk KgR h.1 h1 h2, fun t => ?_⟩;rw [Kgm, h.2];constructor
 ·rintro (⟨r, h3, h4⟩ | hh)
  ·exact ⟨r, (KaG hx).2 (.inl h3), h4⟩
  exact ⟨x, (KaG hx).2 (.inr rfl), hv, hh.symm⟩
 rintro ⟨r, h3, h4, h5⟩;rcases (KaG hx).1 h3 with h6 | h6
 ·exact .inl ⟨r, h6, h4, h5⟩
 rw [h6] at h5; exact .inr h5.symm
theorem Kax.rng (h : Kax (l.take i) o) (hok : ∀ r ∈ l, r.Ok) {y : Trc} (hy : y ∈ o) : 0 <= y.dst /\ y.dst <= 4294967295 := by
 obtain ⟨r, h1, _, h3⟩ := (h.2 y).1 hy;have := hok r (List.mem_of_mem_take h1);rw [<- h3];exact ⟨this.1, this.2.1⟩
theorem Kax.cmp (h : Kax (l.take i) o) (hx : l[i]? = some x) (hok : ∀ r ∈ l, r.Ok) {y : Trc} (hy : y ∈ o) : Kfe y (KC x) = KI (trk y) (trk (KC x)) := by
 have h1 := h.rng hok hy;have h2 := hok x (List.mem_of_getElem? hx);exact KlL h1.1 h1.2 h2.1 h2.2.1
theorem Kax.lt (h : Kax (l.take i) o) (hx : l[i]? = some x) (hok : ∀ r ∈ l, r.Ok) {y : Trc} (hy : y ∈ o) (hc : Kfe y (KC x) < 0) : KI (trk y) (trk (KC x)) < 0 := by rw [<- h.cmp hx hok hy]; exact hc
end
theorem Kn3 (a0_0 : Int) (a0_1 : Int) (a0_2 : Int) (w : World) : (Instr.buildSlice 128 1 #[(0, .agg #[.int .i64 a0_0, .int .u32 a0_1, .int .i64 a0_2])]).run Tryz.prog w = .ok (.slice (some ⟨w.heap.size, 0, none⟩) 1 1) (w.alloc (.cells [.int .i64 a0_0, .int .u32 a0_1, .int .i64 a0_2].toArray 32)) := by kernel_rfl
theorem KpZ : Elem Tryz.prog 128 32 3 24 := Elem.mk' Tryz.underlying128 (z := .agg #[.int .i64 0, .int .u32 0, .int .i64 0]) (by kernel_rfl) rfl (by omega) (by omega)
theorem Kpb (A0 : Option Addr) (c0 : Nat) (l : List Rs) (w : World) (hr : Kg w w.heap.size 17 A0 l.length (Ka Rs.cells l)) (hl1 : l.length <= 100000) :
  Calls Tryz.prog 89 #[.slice A0 l.length c0] w fun e w' => ∃ x : {y : (Option Addr × Nat) × List Trc // Kax l y.2 /\ y.2.length <= y.1.2 /\ y.1.2 <= maxLen}, e = .returned (.slice x.1.1.1 x.1.2.length x.1.1.2) /\ Pm w [.row (.slice x.1.1.1 x.1.2.length x.1.1.2) 32 3 x.1.2.length (Ka Trc.cells x.1.2)] w' := by
 refine Kh Tryz.func89 rfl rfl rfl ?_ (Pm.start w);refine zSG (TL.as_ ?_);refine zET (zSG (TL.as_ ?_));refine zET (zS (zSG (TL.mv ?_)));refine TL.v (gN Tryz.underlying23) ?_;refine TL.mv ?_;refine zET (zB (TC.nilrow 32 3 ?_));refine TC.lp (α := {y : Nat × (Option Addr × Nat) × List Trc // y.1 <= l.length /\ (((l.take y.1).filter Km).map KC = y.2.2) /\ y.2.2.length <= y.1 /\ y.2.2.length <= y.2.1.2 /\ y.2.1.2 <= maxLen}) [2, 6, 7] rfl (fun y => [(8, .int .i64 ((y.1.1 : Nat) : Int)), (3, .slice y.1.2.1.1 y.1.2.2.length y.1.2.1.2)]) (fun y => Pm w [.row (.slice y.1.2.1.1 y.1.2.2.length y.1.2.1.2) 32 3 y.1.2.2.length (Ka Trc.cells y.1.2.2)]) (fun y => l.length - y.1.1) (⟨(0, (none, 0), []), Nat.zero_le _, rfl, Nat.le_refl _, Nat.le_refl _, Nat.zero_le _⟩) (fun w1 hw => hw) ?_;rintro ⟨⟨i, ⟨Ao, co⟩, out⟩, hi, hout, houtl, houtc, houtm⟩;dsimp only at hi hout houtl houtc houtm ⊢;refine zSG ?_;refine TL.vw rfl (Ks rfl rfl rfl (fun w => Kk w)) (fun h9 => ?_) (fun h9 => ?_)
 ·have q9 := of_decide_eq_true h9;refine zET (zS (zc (zk (zT (zS (zB (zSG ?_)))))));have hi10 : i < l.length := by omega
  obtain ⟨x10, hx10⟩ := Ko hi10;obtain ⟨b10, o10, hA10, hbb10, hc10⟩ := hr.ad (by omega) (by decide);refine TL.w rfl (gA (i := i) Tryz.underlying23 Kd rfl rfl rfl rfl hA10 (by omega)) ?_;refine TL.v (gR Ke Ku Kd hbb10 hx10 hc10) ?_;refine TL.al Kab fun g5 => ?_;refine TL.pstore (k := 0) (vs := x10.cells) rfl rfl rfl rfl rfl rfl rfl Kd (Ke.one _) (by show 17 <= 17; decide) (L' := [.blk g5 65 x10.cells, .row (.slice Ao out.length co) 32 3 out.length (Ka Trc.cells out)]) rfl ?_;refine zET (zSG (TL.v (gV 0 (.agg (x10.cells).toArray) Ku Kd) ?_));refine TL.pS rfl o70 (fun w1 hw => KcY x10 w1) (fun h13 => ?_) (fun h13 => ?_)
  ·refine zET (zc (zG (TL.mv ?_)));refine TL.v (gV 0 (.agg (x10.cells).toArray) Ku Kd) ?_;refine TL.p1 rfl Kfj (fun w1 hw => Kfr x10 w1) ?_;refine TL.prowS (e := 32) (size := 3) (cs := Ka Trc.cells [KC x10]) rfl rfl rfl rfl rfl (fun w => Kn3 _ _ _ w) (by decide) rfl (fun g17 => ?_);refine TL.appendT (k := 2) rfl rfl rfl rfl Tryz.underlying128 KpZ rfl rfl rfl (fun w1 hw => KN hw (k := 0) rfl) (KA KaF _) (by show _ * 24 <= _; omega) ((out ++ [KC x10]).length) (by rw [List.length_append]; rfl) (Ka Trc.cells (out ++ [KC x10])) ((KF _ _).symm) (fun A18 c18 hA181 hA182 => ?_);refine TL.as_ ?_;refine zE (zN (zT (zG (TL.v (gD ((i + 1 : Nat) : Int)) ?_))));refine TL.mv ?_;refine zE ?_;exact TX.rd (⟨(i + 1, (A18, c18), out ++ [KC x10]), by dsimp only; omega, Ko9 hx10 h13 hout, by dsimp only; rw [List.length_append]; show out.length + 1 <= _; omega, hA181, hA182⟩) (by show l.length - (i + 1) < l.length - i; omega) (fun w1 hw => hw.pk [2])
  refine zET (zd (zk (zN (zT (zG (TL.v (gD ((i + 1 : Nat) : Int)) ?_))))));refine TL.mv ?_;refine zE ?_;exact TX.rd (⟨(i + 1, (Ao, co), out), by dsimp only; omega, KlS hx10 h13 hout, by dsimp only; omega, houtc, houtm⟩) (by show l.length - (i + 1) < l.length - i; omega) (fun w1 hw => hw.pk [1])
 have q9 := of_decide_eq_false h9;refine zET (zS (zd (zx (zX (zX (zM (zT (zSG (TL.mv ?_)))))))));refine TL.turnRowD (k := 0) (fun ys => KbU Kec out ys) rfl rfl rfl rfl rfl Tryz.func136 (by decide) rfl rfl (fun w1 hw hr9 => Kod hr9 (rfl) (by omega)) (fun srt21 hS21 => ?_)
 try dsimp only [List.set_cons_zero, List.set_cons_succ]
 refine zET (zSG (TL.mv ?_));refine TL.turnRow2 (q := 0) (ys := Kf srt21) rfl rfl rfl rfl rfl Tryz.func138 (by decide) rfl rfl (fun w1 hw hr9 => Klk hr9 (hS21.1.length_eq) (by omega)) ?_
 try dsimp only [List.set_cons_zero, List.set_cons_succ]
 refine TL.as_ ?_;refine zET (zr ?_);have hle : (Kf srt21).length <= out.length := Nat.le_trans (KdC _) (Nat.le_of_eq hS21.1.length_eq);exact Kc Tryz.results89 rfl (fun w1 hw => ⟨⟨((Ao, co), Kf srt21), Klo (by rw [List.take_of_length_le (by omega)] at hout; exact hout) hS21, by dsimp only; omega, houtm⟩, rfl, hw.pick [0] (by decide) rfl⟩)
end Go.Proofs.YtijmpjfafpodhaaGreat
