/-
  The votes (chapter 33).
-/
import Derived.Test.YtmbcclgnjobikaaBdKeys
namespace Go.Proofs.Ytmbcclgnjobikaa
open Go.RowKit
set_option linter.unusedVariables false
set_option linter.unusedSimpArgs false
set_option maxRecDepth 20000
theorem concat2 (A0 : Option Addr) (c0 : Nat) (A1 : Option Addr) (c1 : Nat) (a : List Int) (A2 : Option Addr) (c2 : Nat) (b : List Int) (w : World) (hr : Reads w w.heap.size 1 A0 2 (flat sgc [(⟨A1, c1, a⟩ : Sg Int), ⟨A2, c2, b⟩])) (hr1 : Reads w w.heap.size 1 A1 a.length (flat (ic .u32) a)) (hr2 : Reads w w.heap.size 1 A2 b.length (flat (ic .u32) b)) (hl1 : a.length ≤ 10000) (hl2 : b.length ≤ 10000) :
    Calls Try.prog 24 #[.slice A0 2 c0] w fun e w' => ∃ x : {p : Option Addr × Nat // (a ++ b).length ≤ p.2 ∧ p.2 ≤ maxLen}, e = .returned (.slice x.1.1 (a ++ b).length x.1.2) ∧ Pm w [.row (.slice x.1.1 (a ++ b).length x.1.2) 29 1 (a ++ b).length (flat (ic .u32) (a ++ b))] w' := by
  have hE : catS [(⟨A1, c1, a⟩ : Sg Int), ⟨A2, c2, b⟩] = a ++ b := by simp [catS]
  have h := concat_any A0 c0 [(⟨A1, c1, a⟩ : Sg Int), ⟨A2, c2, b⟩] w hr (by show 2 ≤ 100000; decide) (by unfold sumL; rw [hE, List.length_append]; omega) (fun s hs => by
    simp only [List.mem_cons, List.not_mem_nil, or_false] at hs
    rcases hs with rfl | rfl
    · exact hr1
    · exact hr2)
  rw [hE] at h
  exact h
/-- the providers of addresses -/
def pvS (es : List En) (t : Int) (l : List Int) : List Int := l.map fun a => provR es a t
theorem pvS_len (es : List En) (t : Int) (l : List Int) : (pvS es t l).length = l.length := List.length_map ..
theorem pvS_snoc {es : List En} {t : Int} {l : List Int} {i : Nat} {x : Int} (hx : l[i]? = some x) : pvS es t (l.take (i + 1)) = pvS es t (l.take i) ++ [provR es x t] := by
  unfold pvS
  rw [List.take_add_one, hx, List.map_append]
  rfl
/-- how many votes a provider has -/
def vcnt (ps : List Int) (p : Int) : Nat := if p = 0 then 0 else cntI ps p
theorem vcnt_le (ps : List Int) (p : Int) : vcnt ps p ≤ ps.length := by
  unfold vcnt
  split
  · exact Nat.zero_le _
  · exact cntI_le _ _
theorem cntI_app (a b : List Int) (p : Int) : cntI (a ++ b) p = cntI a p + cntI b p := List.countP_append
theorem vcnt_snoc (ps : List Int) (q p : Int) : vcnt (ps ++ [q]) p = vcnt ps p + if p ≠ 0 ∧ q = p then 1 else 0 := by
  unfold vcnt
  by_cases h : p = 0
  · simp [h]
  · rw [if_neg h, if_neg h, cntI_app]
    by_cases hq : q = p <;> simp [cntI, h, hq]
/-- the map of votes -/
def VM (f : Int → Option Int) (ps : List Int) : Prop := ∀ p, f p = if vcnt ps p = 0 then none else some ((vcnt ps p : Nat) : Int)
theorem VM.nil : VM (fun _ => none) [] := fun p => by simp [vcnt, cntI]
theorem VM.get {f : Int → Option Int} {ps : List Int} (h : VM f ps) (p : Int) : (f p).getD 0 = ((vcnt ps p : Nat) : Int) := by
  rw [h p]
  split
  · rename_i e; rw [e]; rfl
  · rfl
theorem VM.step {f : Int → Option Int} {ps : List Int} (h : VM f ps) {p : Int} (hp : p ≠ 0) : VM (fun v => if v = p then some ((vcnt ps p + 1 : Nat) : Int) else f v) (ps ++ [p]) := fun v => by
  dsimp only
  rw [vcnt_snoc]
  by_cases e : v = p
  · subst e; simp [hp]
  · have e0 : (if v ≠ 0 ∧ p = v then 1 else 0) = 0 := if_neg (by rintro ⟨_, e2⟩; exact e e2.symm)
    rw [if_neg e, e0, Nat.add_zero]; exact h v
theorem VM.skip {f : Int → Option Int} {ps : List Int} (h : VM f ps) : VM f (ps ++ [0]) := fun v => by
  have e0 : (if v ≠ 0 ∧ 0 = v then 1 else 0) = 0 := if_neg (by rintro ⟨e1, e2⟩; exact e1 e2.symm)
  rw [vcnt_snoc, e0, Nat.add_zero]; exact h v
theorem lookR_or (es : List En) (a t : Int) : (lookR es a t).1 = En.zero ∨ (lookR es a t).1 ∈ es := by
  unfold lookR
  have key : ∀ (l : List En) (p : En × Bool), (p.1 = En.zero ∨ p.1 ∈ es) → (∀ e ∈ l, e ∈ es) → (l.foldl (stepL a t) p).1 = En.zero ∨ (l.foldl (stepL a t) p).1 ∈ es := by
    intro l
    induction l with
    | nil => exact fun p hp _ => hp
    | cons x l ih =>
      intro p hp hl
      refine ih _ ?_ fun e he => hl e (List.mem_cons_of_mem _ he)
      unfold stepL
      split
      · exact .inr (hl x List.mem_cons_self)
      · exact hp
  exact key es _ (.inl rfl) fun e he => he
theorem validR_mem {es : List En} (h : validR es = true) {e : En} (he : e ∈ es) : validE e = true := by
  simp only [validR, Bool.and_eq_true, decide_eq_true_eq, List.all_eq_true, List.mem_range] at h
  obtain ⟨i, hi⟩ := List.getElem?_of_mem he
  have := h.2 i (List.getElem?_eq_some_iff.1 hi).1
  simp only [okAt, hi, Bool.and_eq_true] at this
  exact this.1
/-- a provider is 0, or that of a valid entry -/
theorem provR_or (es : List En) (a t : Int) : provR es a t = 0 ∨ ∃ e ∈ es, validE e = true ∧ provR es a t = e.prov := by
  unfold provR lookV
  split
  · rename_i hv
    rcases lookR_or es a t with h | h
    · rw [h]; exact .inl rfl
    · exact .inr ⟨_, h, validR_mem hv h, rfl⟩
  · exact .inl rfl
theorem provR_rng (es : List En) (a t : Int) : 0 ≤ provR es a t ∧ provR es a t ≤ 2147483647 := by
  rcases provR_or es a t with h | ⟨e, _, h2, h3⟩
  · omega
  · simp [validE] at h2
    omega
theorem wf_rng {x : Int} (h0 : 0 ≤ x) (h1 : x ≤ 9223372036854775807) : (Lit.int .i64 x).wf = true := by
  simp [Lit.wf, IntKind.min, IntKind.max, IntKind.signed, IntKind.bits]; omega
theorem wf_prov (es : List En) (a t : Int) : (Lit.int .i64 (provR es a t)).wf = true := by
  have := provR_rng es a t
  exact wf_rng this.1 (by omega)
theorem wf_nat {k : Nat} (h : k ≤ 9223372036854775807) : (Lit.int .i64 ((k : Nat) : Int)).wf = true := wf_rng (by omega) (by omega)
theorem wf_pvS (es : List En) (t : Int) (l : List Int) (p : Int) (h : vcnt (pvS es t l) p ≠ 0) : (Lit.int .i64 p).wf = true := by
  unfold vcnt at h
  split at h
  · exact absurd rfl h
  · have h1 : 0 < cntI (pvS es t l) p := by omega
    obtain ⟨x, hx, e⟩ := List.countP_pos_iff.1 h1
    have e := of_decide_eq_true e
    subst e
    obtain ⟨a, _, rfl⟩ := List.mem_map.1 hx
    exact wf_prov es a t
theorem VM.mem {f : Int → Option Int} {ps ks : List Int} (h : VM f ps) (hk : ∀ a, a ∈ ks ↔ ((Lit.int .i64 a).wf = true ∧ f a ≠ none)) (p : Int) (hw : vcnt ps p ≠ 0 → (Lit.int .i64 p).wf = true) : p ∈ ks ↔ vcnt ps p ≠ 0 := by
  rw [hk p, h p]
  constructor
  · rintro ⟨_, h2⟩ h3
    exact h2 (if_pos h3)
  · intro h2
    exact ⟨hw h2, by rw [if_neg h2]; simp⟩
/-- the first key with the most votes -/
def bestK (ps ks : List Int) : Int := ks.foldl (fun b p => if vcnt ps p > vcnt ps b then p else b) 0
theorem bestK_snoc {ps ks : List Int} {i : Nat} {x : Int} (hx : ks[i]? = some x) : bestK ps (ks.take (i + 1)) = if vcnt ps x > vcnt ps (bestK ps (ks.take i)) then x else bestK ps (ks.take i) := by
  unfold bestK
  rw [List.take_add_one, hx, List.foldl_append]
  rfl
theorem bestK_app (ps ks : List Int) (x : Int) : bestK ps (ks ++ [x]) = if vcnt ps x > vcnt ps (bestK ps ks) then x else bestK ps ks := by
  unfold bestK
  rw [List.foldl_append]
  rfl
theorem bestK_in (ps : List Int) : ∀ ks : List Int, bestK ps ks = 0 ∨ bestK ps ks ∈ ks := by
  intro ks
  obtain ⟨r, rfl⟩ : ∃ r : List Int, ks = r.reverse := ⟨ks.reverse, by simp⟩
  induction r with
  | nil => exact .inl rfl
  | cons x r ih =>
    rw [List.reverse_cons, bestK_app]
    split
    · exact .inr (by simp)
    · exact ih.imp id fun h => List.mem_append_left _ h
theorem wf_best {ps ks : List Int} {j : Nat} {bst : Int} {f : Int → Option Int} (hk : ∀ a, a ∈ ks ↔ ((Lit.int .i64 a).wf = true ∧ f a ≠ none)) (h : bestK ps (ks.take j) = bst) : (Lit.int .i64 bst).wf = true := by
  rcases bestK_in ps (ks.take j) with h1 | h1
  · rw [← h, h1]; decide
  · rw [← h]; exact ((hk _).1 (List.mem_of_mem_take h1)).1
/-- the provider with the most votes, the least of several -/
def BestOk (ps : List Int) (b : Int) : Prop := (∀ q, vcnt ps q ≤ vcnt ps b) ∧ ((b = 0 ∧ ∀ q, vcnt ps q = 0) ∨ (vcnt ps b ≠ 0 ∧ ∀ q, vcnt ps q = vcnt ps b → b ≤ q))
theorem bestK_spec (ps : List Int) {ks : List Int} (hs : ks.Pairwise (· ≤ ·)) (hk : ∀ p, p ∈ ks ↔ vcnt ps p ≠ 0) : BestOk ps (bestK ps ks) := by
  have key : ∀ r : List Int, r.reverse.Pairwise (· ≤ ·) → (∀ p ∈ r, vcnt ps p ≠ 0) → (r = [] ∧ bestK ps r.reverse = 0) ∨ (bestK ps r.reverse ∈ r ∧ (∀ q ∈ r, vcnt ps q ≤ vcnt ps (bestK ps r.reverse)) ∧ ∀ q ∈ r, vcnt ps q = vcnt ps (bestK ps r.reverse) → bestK ps r.reverse ≤ q) := by
    intro r
    induction r with
    | nil => exact fun _ _ => .inl ⟨rfl, rfl⟩
    | cons x r ih =>
      intro hp hv
      rw [List.reverse_cons] at hp ⊢
      have hp1 := (List.pairwise_append.1 hp).1
      have hpx : ∀ y ∈ r, y ≤ x := fun y hy => (List.pairwise_append.1 hp).2.2 y (by simpa using hy) x (by simp)
      have hvx := hv x List.mem_cons_self
      rw [bestK_app]
      rcases ih hp1 fun p h => hv p (List.mem_cons_of_mem _ h) with ⟨h1, h2⟩ | ⟨h1, h2, h3⟩
      · subst h1
        have h0 : vcnt ps (bestK ps ([] : List Int).reverse) = 0 := by rw [h2]; rfl
        rw [if_pos (by omega)]
        exact .inr ⟨List.mem_cons_self, fun q hq => by rw [List.mem_singleton.1 hq]; exact Nat.le_refl _, fun q hq _ => by rw [List.mem_singleton.1 hq]; exact Int.le_refl _⟩
      · right
        split
        · rename_i hgt
          refine ⟨List.mem_cons_self, fun q hq => ?_, fun q hq he => ?_⟩
          · rcases List.mem_cons.1 hq with rfl | hq
            · exact Nat.le_refl _
            · have := h2 q hq; omega
          · rcases List.mem_cons.1 hq with rfl | hq
            · exact Int.le_refl _
            · have := h2 q hq; omega
        · rename_i hgt
          refine ⟨List.mem_cons_of_mem _ h1, fun q hq => ?_, fun q hq he => ?_⟩
          · rcases List.mem_cons.1 hq with rfl | hq
            · omega
            · exact h2 q hq
          · rcases List.mem_cons.1 hq with rfl | hq
            · exact hpx _ h1
            · exact h3 q hq he
  have h := key ks.reverse (by rw [List.reverse_reverse]; exact hs) fun p hp => (hk p).1 (List.mem_reverse.1 hp)
  rw [List.reverse_reverse] at h
  rcases h with ⟨h1, h2⟩ | ⟨h1, h2, h3⟩
  · have hn : ∀ q, vcnt ps q = 0 := fun q => by
      cases hq : vcnt ps q with
      | zero => rfl
      | succ m =>
        have := (hk q).2 (by omega)
        rw [← List.mem_reverse, h1] at this
        exact absurd this List.not_mem_nil
    exact ⟨fun q => by rw [hn q]; exact Nat.zero_le _, .inl ⟨h2, hn⟩⟩
  · refine ⟨fun q => ?_, .inr ⟨(hk _).1 (List.mem_reverse.1 h1), fun q he => ?_⟩⟩
    · rcases Nat.eq_zero_or_pos (vcnt ps q) with h0 | h0
      · omega
      · exact h2 q (List.mem_reverse.2 ((hk q).2 (by omega)))
    · have h0 : vcnt ps q ≠ 0 := by rw [he]; exact (hk _).1 (List.mem_reverse.1 h1)
      exact h3 q (List.mem_reverse.2 ((hk q).2 h0)) he
/-- the provider of the first address -/
def firstP (es : List En) (t : Int) (a : List Int) : Int := match a with
  | [] => 0
  | x :: _ => provR es x t
theorem first1 {es : List En} {t : Int} {a : List Int} {x : Int} (h : a[0]? = some x) : firstP es t a = provR es x t := by
  cases a with
  | nil => cases h
  | cons y l => cases h; rfl
theorem first0 {es : List En} {t : Int} {a : List Int} (h : a.length = 0) : firstP es t a = 0 := by
  cases a with
  | nil => rfl
  | cons y l => cases h
theorem vcnt_mem {es : List En} {t x : Int} {l : List Int} (h : provR es x t ≠ 0) (hx : x ∈ l) : vcnt (pvS es t l) (provR es x t) ≠ 0 := by
  unfold vcnt
  rw [if_neg h]
  have : 0 < cntI (pvS es t l) (provR es x t) := List.countP_pos_iff.2 ⟨_, List.mem_map.2 ⟨x, hx, rfl⟩, decide_eq_true rfl⟩
  omega
/-- what Votes hands back -/
def VotesOk (ps : List Int) (first n : Int) : Prop := (∀ q, vcnt ps q ≤ vcnt ps n) ∧ ((n = 0 ∧ ∀ q, vcnt ps q = 0) ∨ (vcnt ps n ≠ 0 ∧ (n = first ∨ (¬ (first ≠ 0 ∧ vcnt ps first = vcnt ps n) ∧ ∀ q, vcnt ps q = vcnt ps n → n ≤ q))))
theorem VotesOk.pick {ps : List Int} {first bst : Int} (hB : BestOk ps bst) (h1 : vcnt ps first ≠ 0) (h2 : vcnt ps first = vcnt ps bst) : VotesOk ps first first :=
  ⟨fun q => by rw [h2]; exact hB.1 q, .inr ⟨h1, .inl rfl⟩⟩
theorem VotesOk.best {ps : List Int} {first bst : Int} (hB : BestOk ps bst) (h : ¬ (first ≠ 0 ∧ vcnt ps first = vcnt ps bst)) : VotesOk ps first bst :=
  ⟨hB.1, hB.2.imp id fun h2 => ⟨h2.1, .inr ⟨h, h2.2⟩⟩⟩
theorem VotesOk.uniq {ps qs : List Int} {f n m : Int} (h : VotesOk ps f n) (g : VotesOk qs f m) (he : ∀ q, vcnt ps q = vcnt qs q) : n = m := by
  obtain ⟨h1, h2⟩ := h
  obtain ⟨g1, g2⟩ := g
  simp only [he] at h1 h2
  have e : vcnt qs n = vcnt qs m := Nat.le_antisymm (g1 n) (h1 m)
  rcases h2 with ⟨rfl, h3⟩ | ⟨h3, h4⟩ <;> rcases g2 with ⟨rfl, g3⟩ | ⟨g3, g4⟩
  · rfl
  · exact absurd (h3 m) g3
  · exact absurd (g3 n) h3
  · have nz : ∀ q, vcnt qs q ≠ 0 → q ≠ 0 := fun q hq e0 => by subst e0; exact hq rfl
    rcases h4 with rfl | ⟨h5, h6⟩ <;> rcases g4 with rfl | ⟨g5, g6⟩
    · rfl
    · exact absurd ⟨nz _ h3, e⟩ g5
    · exact absurd ⟨nz _ g3, e.symm⟩ h5
    · exact Int.le_antisymm (h6 m e.symm) (g6 n e)
section
variable {P : Program} {N : Fr} {E : Env} {w0 : Base} {L : List Pc} {o : Oper}
theorem gives_lookV {x y : Operand} {t k e : TypeId} {g i n : Nat} {ob : Obj} {f : Int → Option Int} {ps : List Int} {a : Int} (ho : o.op = .lookup t x y false) (hx : ev E x = some (.map (some g))) (hy : ev E y = some (.int .i64 a)) (T : IMap P t k e .i64 .i64) (hk : L[i]? = some (.oth g ob)) (hm : MapII P k e .i64 .i64 ob n f) (hv : VM f ps) (ha : (Lit.int .i64 a).wf = true) :
    Gives P N o E (Pm w0 L) (.int .i64 ((vcnt ps a : Nat) : Int)) := by
  rw [← hv.get a]
  exact gives_look ho hx hy T hk hm ha
end
theorem bvobs73_2_32575 (a0_0 : Option Addr) (a0_0n a0_0c : Nat) (a1_0 : Option Addr) (a1_0n a1_0c : Nat) (w : World) : (Instr.buildSlice 73 2 #[(0, .slice a0_0 a0_0n a0_0c), (1, .slice a1_0 a1_0n a1_0c)]).run Try.prog w = .ok (.slice (some ⟨w.heap.size, 0, none⟩) 2 2) (w.alloc (.cells [.slice a0_0 a0_0n a0_0c, .slice a1_0 a1_0n a1_0c].toArray 26)) := by kernel_rfl
theorem bvonm24 : (Try.f24.name == "runtime.NumGoroutine") = false := by decide
theorem bvobd24 : Try.f24.body.isNone = false := rfl
theorem bvosz29 (w : World) : (sizeOf 29).run Try.prog w = .ok 1 w := rfl
theorem bvoag29 (w : World) : (isAgg 29).run Try.prog w = .ok false w := rfl
theorem bvoag34 (w : World) : (isAgg 34).run Try.prog w = .ok true w := rfl
theorem bvosz34 (w : World) : (sizeOf 34).run Try.prog w = .ok 1 w := rfl
theorem bvonm20 : (Try.f20.name == "runtime.NumGoroutine") = false := by decide
theorem bvobd20 : Try.f20.body.isNone = false := rfl
theorem bvonm26 : (Try.f26.name == "runtime.NumGoroutine") = false := by decide
theorem bvobd26 : Try.f26.body.isNone = false := rfl
theorem bvonm25 : (Try.f25.name == "runtime.NumGoroutine") = false := by decide
theorem bvobd25 : Try.f25.body.isNone = false := rfl
theorem bvosz3 (w : World) : (sizeOf 3).run Try.prog w = .ok 1 w := rfl
theorem bvoag3 (w : World) : (isAgg 3).run Try.prog w = .ok false w := rfl
set_option maxHeartbeats 1000000 in
theorem votes_any (A1 : Option Addr) (c1 : Nat) (a : List Int) (A2 : Option Addr) (c2 : Nat) (b : List Int) (A0 : Option Addr) (c0 : Nat) (es : List En) (t : Int) (w : World) (hr1 : Reads w w.heap.size 1 A1 a.length (flat (ic .u32) a)) (hr2 : Reads w w.heap.size 1 A2 b.length (flat (ic .u32) b)) (hr : Reads w w.heap.size 5 A0 es.length (flat En.cells es)) (hl1 : a.length ≤ 10000) (hl2 : b.length ≤ 10000) :
    Calls Try.prog 15 #[.slice A1 a.length c1, .slice A2 b.length c2, .agg #[.slice A0 es.length c0], .int .i64 t] w fun e w' => ∃ x : {n : Int // VotesOk (pvS es t (a ++ b)) (firstP es t a) n}, e = .returned (.int .i64 x.1) ∧ Below w.heap.size w w' := by
  refine begin_ (vs := [.slice A1 a.length c1, .slice A2 b.length c2, .agg #[.slice A0 es.length c0], .int .i64 t]) Try.func15 rfl rfl rfl ?_ (Pm.start w)
  refine TC.seq_ ?_
  refine TC.region ?_
  refine TL.pnew rfl rfl rfl (exec_box (cs := [.slice A0 es.length c0]) rfl rfl rfl) (fun g6 => ?_)
  refine TL.val rfl rfl rfl (gives_assign rfl rfl) ?_
  refine TL.end_ ?_
  refine TX.then_ ?_
  refine TC.seq_ ?_
  refine TC.region ?_
  refine TL.mkmap rfl rfl rfl rfl (fun gm hgm => ?_)
  refine TL.val rfl rfl rfl (gives_assign rfl rfl) ?_
  refine TL.end_ ?_
  refine TX.then_ ?_
  refine TC.seq_ ?_
  refine TC.seq_ ?_
  refine TC.region ?_
  refine TL.val rfl rfl rfl (gives_move rfl rfl) ?_
  refine TL.val rfl rfl rfl (gives_move rfl rfl) ?_
  refine TL.prowS (e := 26) (size := 1) (cs := flat sgc [(⟨A1, c1, a⟩ : Sg Int), ⟨A2, c2, b⟩]) rfl rfl rfl rfl rfl (fun w => bvobs73_2_32575 _ _ _ _ _ _ w) (by decide) rfl (fun g20 => ?_)
  refine TL.pcallPm (α := {p : Option Addr × Nat // (a ++ b).length ≤ p.2 ∧ p.2 ≤ maxLen}) (fun x => .slice x.1.1 ((a ++ b).length) x.1.2) (fun x => [.row (.slice x.1.1 ((a ++ b).length) x.1.2) 29 1 ((a ++ b).length) (flat (ic .u32) (a ++ b))]) rfl rfl rfl rfl rfl Try.func24 bvonm24 bvobd24 (fun w1 hw => concat2 (some ⟨g20, 0, none⟩) 2 A1 c1 a A2 c2 b w1 (pm_rd hw (k := 0) rfl) (hr1.up hw.bel) (hr2.up hw.bel) (by omega) (by omega)) ?_
  rintro ⟨⟨Ac, cc⟩, hc1, hc2⟩
  dsimp only [List.cons_append, List.nil_append]
  refine TL.val rfl rfl rfl (gives_len rfl Try.underlying26 rfl) ?_
  refine TL.val rfl rfl rfl (gives_move rfl rfl) ?_
  refine TL.end_ ?_
  refine TX.then_ ?_
  refine TC.block ?_
  have hal0 : (a ++ b).length = a.length + b.length := List.length_append
  refine TC.loop_ (α := {y : Nat × Obj // y.1 ≤ (a ++ b).length ∧ ∃ n f, MapII Try.prog 3 3 .i64 .i64 y.2 n f ∧ VM f (pvS es t ((a ++ b).take y.1)) ∧ n ≤ y.1}) (fun y => [(0, .slice A1 a.length c1), (3, .int .i64 t), (6, .pointer (some ⟨g6, 0, none⟩)), (9, .map (some gm)), (21, .slice Ac ((a ++ b).length) cc), (22, .int .i64 ((a ++ b).length : Nat)), (23, .int .i64 ((y.1.1 : Nat) : Int))]) (fun y => Pm w [.row (.slice Ac ((a ++ b).length) cc) 29 1 ((a ++ b).length) (flat (ic .u32) (a ++ b)), .row (.slice (some ⟨g20, 0, none⟩) 2 2) 26 1 2 (flat sgc [(⟨A1, c1, a⟩ : Sg Int), ⟨A2, c2, b⟩]), .oth gm y.1.2, .blk g6 34 [.slice A0 es.length c0]]) (fun y => (a ++ b).length - y.1.1) (⟨(0, .map #[] 0), Nat.zero_le _, 0, fun _ => none, mapII_new _ _ _ _ _, VM.nil, Nat.le_refl _⟩) ⟨rfl, rfl, rfl, rfl, rfl, rfl, rfl, trivial⟩ (fun w1 hw => hw) ?_
  rintro ⟨⟨i, ob⟩, hi, n, f, hmf, hvm, hn⟩
  dsimp only at hi hmf hvm hn ⊢
  refine TC.seq_ ?_
  refine TC.region ?_
  refine TL.vsplit rfl rfl rfl (gives_bin rfl rfl rfl (fun w => bin_lss w)) (fun h24 => ?_) (fun h24 => ?_)
  · have q24 := of_decide_eq_true h24
    refine TL.end_ ?_
    refine TX.then_ ?_
    refine TC.seq_ ?_
    refine TC.condT rfl ?_
    refine TC.skip_ ?_
    refine TX.then_ ?_
    refine TC.seq_ ?_
    refine TC.block ?_
    refine TC.seq_ ?_
    refine TC.region ?_
    refine TL.fact (p := ∃ g, Ac = some ⟨g, 0, none⟩) (fun w1 hw => rowA hw (k := 0) rfl (by omega)) ?_
    rintro ⟨g_Ac, rfl⟩
    have hi25 : i < (a ++ b).length := by omega
    obtain ⟨x25, hx25⟩ : ∃ x25, (a ++ b)[i]? = some x25 := ⟨_, List.getElem?_eq_getElem hi25⟩
    refine TL.val rfl rfl rfl (gives_at (v := .pointer (some ⟨g_Ac, 0 + i * 1, none⟩)) rfl rfl rfl (fun w => at_el Try.underlying26 bvosz29 rfl _ _ i (by omega) rfl w)) ?_
    refine TL.val rfl rfl rfl (gives_load (v := .int .u32 x25) rfl rfl bvoag29 (fun w1 hw => flat_row (ic_cel .u32) hw (q := 0) rfl hx25 0 _ rfl)) ?_
    refine TL.val rfl rfl rfl (gives_assign rfl rfl) ?_
    refine TL.end_ ?_
    refine TX.then_ ?_
    refine TC.seq_ ?_
    refine TC.region ?_
    refine TL.val rfl rfl rfl (pm_loadV (k := 3) (i := 0) (n := 1) (v := .agg #[.slice A0 es.length c0]) rfl rfl bvoag34 bvosz34 rfl (by show 1 ≤ 1; decide) rfl) ?_
    refine TL.val rfl rfl rfl (gives_move rfl rfl) ?_
    refine TL.val rfl rfl rfl (gives_move rfl rfl) ?_
    refine TL.pcall1 (r := .int .i64 (provR es x25 t)) rfl rfl rfl rfl rfl Try.func20 bvonm20 bvobd20 (fun w1 hw => prov_any A0 c0 es x25 t w1 (hr.up hw.bel)) ?_
    refine TL.val rfl rfl rfl (gives_assign rfl rfl) ?_
    refine TL.end_ ?_
    refine TX.then_ ?_
    refine TC.seq_ ?_
    refine TC.region ?_
    refine TL.val rfl rfl rfl (gives_move rfl rfl) ?_
    refine TL.vsplit rfl rfl rfl (gives_bin rfl rfl rfl (fun w => bin_neq w)) (fun h32 => ?_) (fun h32 => ?_)
    · have q32 := of_decide_eq_true h32
      refine TL.end_ ?_
      refine TX.then_ ?_
      refine TC.condT rfl ?_
      have hvl := vcnt_le (pvS es t ((a ++ b).take i)) (provR es x25 t)
      have hpl := pvS_len es t ((a ++ b).take i)
      have htl := List.length_take (l := a ++ b) (i := i)
      have hal : (a ++ b).length = a.length + b.length := List.length_append
      refine TC.region ?_
      refine TL.val rfl rfl rfl (gives_move rfl rfl) ?_
      refine TL.val rfl rfl rfl (gives_move rfl rfl) ?_
      refine TL.val rfl rfl rfl (gives_lookV rfl rfl rfl imI (i := 2) rfl hmf hvm (wf_prov es x25 t)) ?_
      refine TL.val rfl rfl rfl (gives_bin rfl rfl rfl (fun w => bin_add_ (r := ((vcnt (pvS es t ((a ++ b).take i)) (provR es x25 t) + 1 : Nat) : Int)) (by simp only [IntKind.wrap_i64]; omega) w)) ?_
      refine TL.mapset (i := 2) rfl rfl rfl rfl rfl rfl imI rfl hgm hmf (by unfold maxLen; omega) (wf_prov es x25 t) (wf_nat (by omega)) (fun ob2 hm2 => ?_)
      try dsimp only [List.set_cons_zero, List.set_cons_succ]
      refine TL.end_ ?_
      refine TX.in_normal ?_
      refine TX.then_ ?_
      refine TC.region ?_
      refine TL.val rfl rfl rfl (gives_bin rfl rfl rfl (fun w => bin_add_ (r := ((i + 1 : Nat) : Int)) (by simp only [IntKind.wrap_i64]; omega) w)) ?_
      refine TL.val rfl rfl rfl (gives_move rfl rfl) ?_
      refine TL.end_ ?_
      exact TX.round (⟨(i + 1, ob2), by dsimp only; omega, _, _, hm2, by rw [pvS_snoc hx25]; exact hvm.step q32, by dsimp only; split <;> omega⟩) (by show (a ++ b).length - (i + 1) < (a ++ b).length - i; omega) ⟨rfl, rfl, rfl, rfl, rfl, rfl, rfl, trivial⟩ (fun w1 hw => hw)
    · have q32 := of_decide_eq_false h32
      refine TL.end_ ?_
      refine TX.then_ ?_
      refine TC.condF rfl ?_
      refine TC.skip_ ?_
      refine TX.in_normal ?_
      refine TX.then_ ?_
      refine TC.region ?_
      refine TL.val rfl rfl rfl (gives_bin rfl rfl rfl (fun w => bin_add_ (r := ((i + 1 : Nat) : Int)) (by simp only [IntKind.wrap_i64]; omega) w)) ?_
      refine TL.val rfl rfl rfl (gives_move rfl rfl) ?_
      refine TL.end_ ?_
      exact TX.round (⟨(i + 1, ob), by dsimp only; omega, n, f, hmf, by rw [pvS_snoc hx25, Decidable.not_not.1 q32]; exact hvm.skip, by dsimp only; omega⟩) (by show (a ++ b).length - (i + 1) < (a ++ b).length - i; omega) ⟨rfl, rfl, rfl, rfl, rfl, rfl, rfl, trivial⟩ (fun w1 hw => hw)
  · have q24 := of_decide_eq_false h24
    refine TL.end_ ?_
    refine TX.then_ ?_
    refine TC.seq_ ?_
    refine TC.condF rfl ?_
    refine TC.exit_ ?_
    refine TX.then_exit ?_
    refine TX.then_exit ?_
    refine TX.in_same ?_
    refine TX.then_ ?_
    refine TC.seq_ ?_
    have e9 : (a ++ b).take i = a ++ b := List.take_of_length_le (by omega)
    rw [e9] at hvm
    clear e9
    refine TC.region ?_
    refine TL.val rfl rfl rfl (gives_assign rfl rfl) ?_
    refine TL.end_ ?_
    refine TX.then_ ?_
    refine TC.seq_ ?_
    refine TC.seq_ ?_
    refine TC.region ?_
    refine TL.val rfl rfl rfl (gives_move rfl rfl) ?_
    refine TL.pcallPm (α := Nat) (fun x => .func (.func 35) #[] #[.pointer (some ⟨x, 0, none⟩)]) (fun x => [.blk x 61 [.map (some gm)]]) rfl rfl rfl rfl rfl Try.func26 bvonm26 bvobd26 (fun w1 hw => keys_any gm w1) ?_
    rintro gk
    dsimp only [List.cons_append, List.nil_append]
    refine TL.pcallPm (α := {y : (Option Addr × Nat) × List Int // (y.2.Pairwise (· ≤ ·) ∧ ∀ a, a ∈ y.2 ↔ ((Lit.int .i64 a).wf = true ∧ f a ≠ none)) ∧ y.2.length ≤ 100000 ∧ y.2.length ≤ y.1.2 ∧ y.1.2 ≤ maxLen}) (fun x => .slice x.1.1.1 x.1.2.length x.1.1.2) (fun x => [.row (.slice x.1.1.1 x.1.2.length x.1.1.2) 3 1 x.1.2.length (flat (ic .i64) x.1.2)]) rfl rfl rfl rfl rfl Try.func25 bvonm25 bvobd25 (fun w1 hw => skeys_any gk gm n ob f w1 (Pc.lt (hw.at_ (k := 0) rfl) gk rfl).2 (hw.cell (k := 0) rfl 0) (hw.at_ (k := 3) rfl).1 hmf (by omega)) ?_
    rintro ⟨⟨⟨Ak, ck⟩, ks⟩, ⟨hks, hkm⟩, hkl, hkc, hkd⟩
    dsimp only [List.cons_append, List.nil_append]
    dsimp only at hks hkm hkl hkc hkd ⊢
    refine TL.val rfl rfl rfl (gives_len rfl Try.underlying30 rfl) ?_
    refine TL.val rfl rfl rfl (gives_move rfl rfl) ?_
    refine TL.end_ ?_
    refine TX.then_ ?_
    refine TC.block ?_
    refine TC.loop_ (α := {y : Nat × Int // y.1 ≤ ks.length ∧ bestK (pvS es t (a ++ b)) (ks.take y.1) = y.2}) (fun y => [(0, .slice A1 a.length c1), (3, .int .i64 t), (6, .pointer (some ⟨g6, 0, none⟩)), (9, .map (some gm)), (40, .slice Ak ks.length ck), (41, .int .i64 (ks.length : Nat)), (42, .int .i64 ((y.1.1 : Nat) : Int)), (13, .int .i64 y.1.2)]) (fun y => Pm w [.row (.slice Ak ks.length ck) 3 1 ks.length (flat (ic .i64) ks), .blk gk 61 [.map (some gm)], .row (.slice Ac ((a ++ b).length) cc) 29 1 ((a ++ b).length) (flat (ic .u32) (a ++ b)), .row (.slice (some ⟨g20, 0, none⟩) 2 2) 26 1 2 (flat sgc [(⟨A1, c1, a⟩ : Sg Int), ⟨A2, c2, b⟩]), .oth gm ob, .blk g6 34 [.slice A0 es.length c0]]) (fun y => ks.length - y.1.1) (⟨(0, 0), Nat.zero_le _, rfl⟩) ⟨rfl, rfl, rfl, rfl, rfl, rfl, rfl, rfl, trivial⟩ (fun w1 hw => hw) ?_
    rintro ⟨⟨j, bst⟩, hj, hbk⟩
    dsimp only at hj hbk ⊢
    refine TC.seq_ ?_
    have hbw := wf_best (ps := pvS es t (a ++ b)) hkm hbk
    refine TC.region ?_
    refine TL.vsplit rfl rfl rfl (gives_bin rfl rfl rfl (fun w => bin_lss w)) (fun h43 => ?_) (fun h43 => ?_)
    · have q43 := of_decide_eq_true h43
      refine TL.end_ ?_
      refine TX.then_ ?_
      refine TC.seq_ ?_
      refine TC.condT rfl ?_
      refine TC.skip_ ?_
      refine TX.then_ ?_
      refine TC.seq_ ?_
      refine TC.block ?_
      refine TC.seq_ ?_
      refine TC.region ?_
      refine TL.fact (p := ∃ g, Ak = some ⟨g, 0, none⟩) (fun w1 hw => rowA hw (k := 0) rfl (by omega)) ?_
      rintro ⟨g_Ak, rfl⟩
      have hi44 : j < ks.length := by omega
      obtain ⟨x44, hx44⟩ : ∃ x44, ks[j]? = some x44 := ⟨_, List.getElem?_eq_getElem hi44⟩
      refine TL.val rfl rfl rfl (gives_at (v := .pointer (some ⟨g_Ak, 0 + j * 1, none⟩)) rfl rfl rfl (fun w => at_el Try.underlying30 bvosz3 rfl _ _ j (by omega) rfl w)) ?_
      refine TL.val rfl rfl rfl (gives_load (v := .int .i64 x44) rfl rfl bvoag3 (fun w1 hw => flat_row (ic_cel .i64) hw (q := 0) rfl hx44 0 _ rfl)) ?_
      refine TL.val rfl rfl rfl (gives_assign rfl rfl) ?_
      refine TL.end_ ?_
      refine TX.then_ ?_
      refine TC.seq_ ?_
      refine TC.region ?_
      refine TL.val rfl rfl rfl (gives_move rfl rfl) ?_
      refine TL.val rfl rfl rfl (gives_move rfl rfl) ?_
      refine TL.val rfl rfl rfl (gives_lookV rfl rfl rfl imI (i := 4) rfl hmf hvm (((hkm x44).1 (List.mem_of_getElem? hx44)).1)) ?_
      refine TL.val rfl rfl rfl (gives_move rfl rfl) ?_
      refine TL.val rfl rfl rfl (gives_move rfl rfl) ?_
      refine TL.val rfl rfl rfl (gives_lookV rfl rfl rfl imI (i := 4) rfl hmf hvm (hbw)) ?_
      refine TL.vsplit rfl rfl rfl (gives_bin rfl rfl rfl (fun w => bin_gtr w)) (fun h52 => ?_) (fun h52 => ?_)
      · have q52 := of_decide_eq_true h52
        refine TL.end_ ?_
        refine TX.then_ ?_
        refine TC.condT rfl ?_
        refine TC.region ?_
        refine TL.val rfl rfl rfl (gives_move rfl rfl) ?_
        refine TL.val rfl rfl rfl (gives_assign rfl rfl) ?_
        refine TL.end_ ?_
        refine TX.in_normal ?_
        refine TX.then_ ?_
        refine TC.region ?_
        refine TL.val rfl rfl rfl (gives_bin rfl rfl rfl (fun w => bin_add_ (r := ((j + 1 : Nat) : Int)) (by simp only [IntKind.wrap_i64]; omega) w)) ?_
        refine TL.val rfl rfl rfl (gives_move rfl rfl) ?_
        refine TL.end_ ?_
        exact TX.round (⟨(j + 1, x44), by dsimp only; omega, by rw [bestK_snoc hx44, hbk]; exact if_pos (by omega)⟩) (by show ks.length - (j + 1) < ks.length - j; omega) ⟨rfl, rfl, rfl, rfl, rfl, rfl, rfl, rfl, trivial⟩ (fun w1 hw => hw)
      · have q52 := of_decide_eq_false h52
        refine TL.end_ ?_
        refine TX.then_ ?_
        refine TC.condF rfl ?_
        refine TC.skip_ ?_
        refine TX.in_normal ?_
        refine TX.then_ ?_
        refine TC.region ?_
        refine TL.val rfl rfl rfl (gives_bin rfl rfl rfl (fun w => bin_add_ (r := ((j + 1 : Nat) : Int)) (by simp only [IntKind.wrap_i64]; omega) w)) ?_
        refine TL.val rfl rfl rfl (gives_move rfl rfl) ?_
        refine TL.end_ ?_
        exact TX.round (⟨(j + 1, bst), by dsimp only; omega, by rw [bestK_snoc hx44, hbk]; exact if_neg (by omega)⟩) (by show ks.length - (j + 1) < ks.length - j; omega) ⟨rfl, rfl, rfl, rfl, rfl, rfl, rfl, rfl, trivial⟩ (fun w1 hw => hw)
    · have q43 := of_decide_eq_false h43
      have hbk2 : bestK (pvS es t (a ++ b)) ks = bst := by rw [List.take_of_length_le (by omega)] at hbk; exact hbk
      refine TL.end_ ?_
      refine TX.then_ ?_
      refine TC.seq_ ?_
      refine TC.condF rfl ?_
      refine TC.exit_ ?_
      refine TX.then_exit ?_
      refine TX.then_exit ?_
      refine TX.in_same ?_
      refine TX.then_ ?_
      refine TC.seq_ ?_
      refine TC.seq_ ?_
      refine TC.region ?_
      refine TL.val rfl rfl rfl (gives_move rfl rfl) ?_
      refine TL.val rfl rfl rfl (gives_len rfl Try.underlying26 rfl) ?_
      refine TL.vsplit rfl rfl rfl (gives_bin rfl rfl rfl (fun w => bin_gtr w)) (fun h57 => ?_) (fun h57 => ?_)
      · have q57 := of_decide_eq_true h57
        refine TL.end_ ?_
        refine TX.then_ ?_
        refine TC.condT rfl ?_
        refine TC.seq_ ?_
        refine TC.quietQ (by kernel_rfl) (by kernel_rfl) (fun w hw => hw.drawn _) ?_
        refine TQ.val rfl rfl rfl (pm_loadV (k := 5) (i := 0) (n := 1) (v := .agg #[.slice A0 es.length c0]) rfl rfl bvoag34 bvosz34 rfl (by show 1 ≤ 1; decide) rfl) ?_
        refine TQ.val rfl rfl rfl (gives_move rfl rfl) ?_
        have hi60 : 0 < a.length := by omega
        obtain ⟨x60, hx60⟩ : ∃ x60, a[0]? = some x60 := ⟨_, List.getElem?_eq_getElem hi60⟩
        obtain ⟨b60, o60, hA60, hbb60, hc60⟩ := hr1.ad (by omega) (by decide)
        refine TQ.val rfl rfl rfl (gives_at (v := .pointer (some ⟨b60, o60 + 0 * 1, none⟩)) rfl rfl rfl (fun w => at_el Try.underlying26 bvosz29 hA60 _ _ 0 (by omega) rfl w)) ?_
        refine TQ.val rfl rfl rfl (gives_load (v := .int .u32 x60) rfl rfl bvoag29 (fun w1 hw => (hw.bel.cell hbb60).trans <| flat_cell (ic_cel .u32) hx60 hc60 0 _ rfl)) ?_
        refine TQ.val rfl rfl rfl (gives_move rfl rfl) ?_
        refine TQ.call (v := .int .i64 (provR es x60 t)) rfl rfl rfl rfl rfl Try.func20 bvonm20 bvobd20 (fun w1 hw => (prov_any A0 c0 es x60 t w1 (hr.up hw.bel)).mono fun en w2 ⟨h1, h2⟩ => ⟨h1, hw.below h2⟩) ?_
        refine TQ.val rfl rfl rfl (gives_assign rfl rfl) ?_
        refine TQ.fin ?_
        refine TX.then_ ?_
        refine TC.seq_ ?_
        have hbw := wf_best (ps := pvS es t (a ++ b)) hkm hbk
        refine TC.region ?_
        refine TL.val rfl rfl rfl (gives_move rfl rfl) ?_
        refine TL.vsplit rfl rfl rfl (gives_bin rfl rfl rfl (fun w => bin_neq w)) (fun h65 => ?_) (fun h65 => ?_)
        · have q65 := of_decide_eq_true h65
          refine TL.val rfl rfl rfl (gives_move rfl rfl) ?_
          refine TL.on rfl rfl rfl ?_
          refine TL.val rfl rfl rfl (gives_move rfl rfl) ?_
          refine TL.on rfl rfl rfl ?_
          refine TL.val rfl rfl rfl (gives_move rfl rfl) ?_
          refine TL.on rfl rfl rfl ?_
          refine TL.val rfl rfl rfl (gives_lookV rfl rfl rfl imI (i := 4) rfl hmf hvm (wf_prov es x60 t)) ?_
          refine TL.on rfl rfl rfl ?_
          refine TL.val rfl rfl rfl (gives_move rfl rfl) ?_
          refine TL.on rfl rfl rfl ?_
          refine TL.val rfl rfl rfl (gives_move rfl rfl) ?_
          refine TL.on rfl rfl rfl ?_
          refine TL.val rfl rfl rfl (gives_lookV rfl rfl rfl imI (i := 4) rfl hmf hvm (hbw)) ?_
          refine TL.on rfl rfl rfl ?_
          refine TL.vsplit rfl rfl rfl (gives_bin rfl rfl rfl (fun w => bin_eql w)) (fun h73 => ?_) (fun h73 => ?_)
          · have q73 := of_decide_eq_true h73
            refine TL.val rfl rfl rfl (gives_pick rfl rfl rfl) ?_
            refine TL.end_ ?_
            refine TX.then_ ?_
            refine TC.condT rfl ?_
            refine TC.region ?_
            refine TL.val rfl rfl rfl (gives_move rfl rfl) ?_
            refine TL.val rfl rfl rfl (gives_assign rfl rfl) ?_
            refine TL.end_ ?_
            refine TX.then_ ?_
            refine TC.seq_ ?_
            refine TC.region ?_
            refine TL.val rfl rfl rfl (gives_move rfl rfl) ?_
            refine TL.val rfl rfl rfl (gives_assign rfl rfl) ?_
            refine TL.end_ ?_
            refine TX.then_ ?_
            refine TC.ret_ ?_
            have hB := bestK_spec (pvS es t (a ++ b)) hks (fun p => hvm.mem hkm p (wf_pvS _ _ _ p))
            rw [hbk2] at hB
            exact ret_tmp Try.results15 rfl (fun w1 hw => ⟨⟨provR es x60 t, by rw [(first1 hx60)]; exact VotesOk.pick hB (vcnt_mem q65 (List.mem_append_left _ (List.mem_of_getElem? hx60))) (by omega)⟩, rfl, hw.bel⟩)
          · have q73 := of_decide_eq_false h73
            refine TL.val rfl rfl rfl (gives_pick rfl rfl rfl) ?_
            refine TL.end_ ?_
            refine TX.then_ ?_
            refine TC.condF rfl ?_
            refine TC.skip_ ?_
            refine TX.then_ ?_
            refine TC.seq_ ?_
            refine TC.region ?_
            refine TL.val rfl rfl rfl (gives_move rfl rfl) ?_
            refine TL.val rfl rfl rfl (gives_assign rfl rfl) ?_
            refine TL.end_ ?_
            refine TX.then_ ?_
            refine TC.ret_ ?_
            have hB := bestK_spec (pvS es t (a ++ b)) hks (fun p => hvm.mem hkm p (wf_pvS _ _ _ p))
            rw [hbk2] at hB
            exact ret_tmp Try.results15 rfl (fun w1 hw => ⟨⟨bst, by rw [(first1 hx60)]; exact VotesOk.best hB (by intro hh; exact q73 (by rw [hh.2]))⟩, rfl, hw.bel⟩)
        · have q65 := of_decide_eq_false h65
          refine TL.val rfl rfl rfl (gives_move rfl rfl) ?_
          refine TL.off rfl rfl rfl rfl rfl rfl ?_
          refine TL.off rfl rfl rfl rfl rfl rfl ?_
          refine TL.off rfl rfl rfl rfl rfl rfl ?_
          refine TL.off rfl rfl rfl rfl rfl rfl ?_
          refine TL.off rfl rfl rfl rfl rfl rfl ?_
          refine TL.off rfl rfl rfl rfl rfl rfl ?_
          refine TL.off rfl rfl rfl rfl rfl rfl ?_
          refine TL.val rfl rfl rfl (gives_pick rfl rfl rfl) ?_
          refine TL.end_ ?_
          refine TX.then_ ?_
          refine TC.condF rfl ?_
          refine TC.skip_ ?_
          refine TX.then_ ?_
          refine TC.seq_ ?_
          refine TC.region ?_
          refine TL.val rfl rfl rfl (gives_move rfl rfl) ?_
          refine TL.val rfl rfl rfl (gives_assign rfl rfl) ?_
          refine TL.end_ ?_
          refine TX.then_ ?_
          refine TC.ret_ ?_
          have hB := bestK_spec (pvS es t (a ++ b)) hks (fun p => hvm.mem hkm p (wf_pvS _ _ _ p))
          rw [hbk2] at hB
          exact ret_tmp Try.results15 rfl (fun w1 hw => ⟨⟨bst, by rw [(first1 hx60)]; exact VotesOk.best hB (by intro hh; exact q65 hh.1)⟩, rfl, hw.bel⟩)
      · have q57 := of_decide_eq_false h57
        refine TL.end_ ?_
        refine TX.then_ ?_
        refine TC.condF rfl ?_
        refine TC.skip_ ?_
        refine TX.then_ ?_
        refine TC.seq_ ?_
        refine TC.region ?_
        refine TL.val rfl rfl rfl (gives_move rfl rfl) ?_
        refine TL.val rfl rfl rfl (gives_assign rfl rfl) ?_
        refine TL.end_ ?_
        refine TX.then_ ?_
        refine TC.ret_ ?_
        have hB := bestK_spec (pvS es t (a ++ b)) hks (fun p => hvm.mem hkm p (wf_pvS _ _ _ p))
        rw [hbk2] at hB
        exact ret_tmp Try.results15 rfl (fun w1 hw => ⟨⟨bst, by rw [(first0 (by omega))]; exact VotesOk.best hB (by intro hh; exact hh.1 rfl)⟩, rfl, hw.bel⟩)
end Go.Proofs.Ytmbcclgnjobikaa
