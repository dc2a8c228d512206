/-
  A walk by rules: the operators on numbers, and pieces of memory that come and go. No program is imported.
-/
import Derived.Test.YtmbcclgnjobikaaSymTx
namespace Go.Proofs.Ytmbcclgnjobikaa
open Go.RowKit
set_option linter.unusedVariables false
set_option linter.unusedSimpArgs false
section
variable {P : Program} {N : Fr} {Q : Exit → Act → World → Prop} {E : Env} {w0 : Base} {L : List Pc} {ops : Array Oper} {l : List Oper} {o : Oper} {xt : TypeId} {k k' : IntKind} {m n : Int}
theorem bin_sub (w : World) : (binOp .sub xt (.int k m) (.int k n)).run P w = .ok (.int k (k.wrap (m - n))) w := by simp [binOp, go_sem]
theorem bin_mul (w : World) : (binOp .mul xt (.int k m) (.int k n)).run P w = .ok (.int k (k.wrap (m * n))) w := by simp [binOp, go_sem]
theorem bin_leq (w : World) : (binOp .leq xt (.int k m) (.int k n)).run P w = .ok (.bool (decide (m ≤ n))) w := by simp [binOp, go_sem]
theorem bin_gtr (w : World) : (binOp .gtr xt (.int k m) (.int k n)).run P w = .ok (.bool (decide (m > n))) w := by simp [binOp, go_sem]
theorem bin_geq (w : World) : (binOp .geq xt (.int k m) (.int k n)).run P w = .ok (.bool (decide (m ≥ n))) w := by simp [binOp, go_sem]
theorem bin_eql (w : World) : (binOp .eql xt (.int k m) (.int k n)).run P w = .ok (.bool (decide (m = n))) w := by
  have : (m == n) = decide (m = n) := by by_cases h : m = n <;> simp [h]
  simp [binOp, go_sem, this]
theorem bin_neq (w : World) : (binOp .neq xt (.int k m) (.int k n)).run P w = .ok (.bool (decide (m ≠ n))) w := by
  have : (m != n) = decide (m ≠ n) := by by_cases h : m = n <;> simp [h]
  simp only [binOp, go_sem, this]
  simp [go_sem, this]
theorem bin_shr (q : Int) (h0 : 0 ≤ n) (h1 : n ≤ k.bits) (hq : (2 : Int) ^ n.toNat = q) (w : World) : (binOp .shr xt (.int k m) (.int k' n)).run P w = .ok (.int k (m / q)) w := by
  subst hq
  have h2 := shift_shr k k' m n h0 h1
  show (Op.shift .shr k m k' n).run P w = _
  rw [h2]; rfl
theorem bin_shl (q : Int) (h0 : 0 ≤ n) (h1 : n ≤ k.bits) (hq : (2 : Int) ^ n.toNat = q) (w : World) : (binOp .shl xt (.int k m) (.int k' n)).run P w = .ok (.int k (k.wrap (m * q))) w := by
  subst hq
  show (Op.shift .shl k m k' n).run P w = _
  unfold Op.shift
  rw [if_neg (by omega)]
  have : min n.toNat k.bits = n.toNat := by omega
  rw [this]; rfl
theorem bin_remi {m n : Int} (h0 : 0 ≤ m) (h1 : 0 < n) (w : World) : (binOp .rem xt (.int .i64 m) (.int .i64 n)).run P w = .ok (.int .i64 (m % n)) w := by
  have hz : n ≠ 0 := by omega
  have := Int.tmod_eq_emod_of_nonneg (a := m) (b := n) h0
  simp [binOp, go_sem, Op.intDiv, hz, this]
theorem conv_int {t u : TypeId} (hu : P.underlying u = some (.int k')) {d : TypeDesc} (ht : P.underlying t = some d) (w : World) : (convert t u (.int k m)).run P w = .ok (.int k' (k'.wrap m)) w := by
  simp [convert, run_underlying hu, run_underlying ht, go_sem]
theorem bin_sub_ {r : Int} (h : k.wrap (m - n) = r) (w : World) : (binOp .sub xt (.int k m) (.int k n)).run P w = .ok (.int k r) w := h ▸ bin_sub w
theorem bin_add_ {r : Int} (h : k.wrap (m + n) = r) (w : World) : (binOp .add xt (.int k m) (.int k n)).run P w = .ok (.int k r) w := h ▸ bin_add w
theorem bin_mul_ {r : Int} (h : k.wrap (m * n) = r) (w : World) : (binOp .mul xt (.int k m) (.int k n)).run P w = .ok (.int k r) w := h ▸ bin_mul w
theorem conv_fit {t u : TypeId} (hu : P.underlying u = some (.int k')) {d : TypeDesc} (ht : P.underlying t = some d) (h : k'.wrap m = m) (w : World) : (convert t u (.int k m)).run P w = .ok (.int k' m) w := by
  have := conv_int (k := k) (m := m) hu ht w
  rwa [h] at this
theorem gives_slice {t : TypeId} {x lo hi : Operand} {vx vl vh v : Value} {I : World → Prop} (ho : o.op = .slice t x (some lo) (some hi) none) (hx : ev E x = some vx) (hl : ev E lo = some vl) (hh : ev E hi = some vh) (hv : ∀ w : World, (Instr.sliceAt t vx (some vl) (some vh) none).run P w = .ok v w) : Gives P N o E I v := fun a w ha _ => by
  unfold execOp; rw [ho]
  simp only [Option.map_some, Option.map_none, ha.eval hx, ha.eval hl, ha.eval hh, Sem.run_bind, hv, Result.andThen_ok, Sem.run_pure]
theorem cut_lh {t : TypeId} {size : Nat} (ht : P.underlying t = some (.slice (P.elem t))) (hs : ∀ w : World, (sizeOf (P.elem t)).run P w = .ok size w) (A : Option Addr) (n c lo hi : Nat) {a b : Int} (ha : a = (lo : Int)) (hb : b = (hi : Int)) (h : lo ≤ hi) (h2 : hi ≤ c) (w : World) :
    (Instr.sliceAt t (.slice A n c) (some (.int .i64 a)) (some (.int .i64 b)) none).run P w = .ok (.slice (if c = lo then A else A.map (·.add (lo * size))) (hi - lo) (c - lo)) w := by
  subst ha hb
  rw [run_sliceAt_slice w t _ _ _ _ ht, run_slice_lh w t A n c ht .i64 .i64 lo ((hi : Nat) : Int) (by omega) (by omega) (by omega)]
  simp only [hs, Result.andThen, sliced, Int.toNat_natCast]
theorem Pm.tail {w : World} {p : Pc} (h : Pm w0 (p :: L) w) : Pm w0 L w := ⟨h.bel, fun q hq => h.own q (List.mem_cons_of_mem _ hq), (List.pairwise_cons.1 h.apart).2, h.oth, h.low⟩
theorem Pm.nilrow {w : World} (h : Pm w0 L w) (e : TypeId) (size : Nat) : Pm w0 (.row (.slice none 0 0) e size 0 [] :: L) w :=
  h.add (Below.refl _ _) (World.ownsRow_nil w _ e size)
theorem TL.nilrow (e : TypeId) (size : Nat) (h : TL P N ops Q l E (Pm w0 (.row (.slice none 0 0) e size 0 [] :: L))) : TL P N ops Q l E (Pm w0 L) := fun a w ha hw => h a w ha (hw.nilrow e size)
theorem TC.nilrow {c : Code} (e : TypeId) (size : Nat) (h : TC P N Q c E (Pm w0 (.row (.slice none 0 0) e size 0 [] :: L))) : TC P N Q c E (Pm w0 L) := fun a w ha hw => h a w ha (hw.nilrow e size)
/-- less is known of the memory -/
theorem TL.mem {I I' : World → Prop} (hI : ∀ w, I w → I' w) (h : TL P N ops Q l E I') : TL P N ops Q l E I := fun a w ha hw => h a w ha (hI w hw)
theorem TC.mem {c : Code} {I I' : World → Prop} (hI : ∀ w, I w → I' w) (h : TC P N Q c E I') : TC P N Q c E I := fun a w ha hw => h a w ha (hI w hw)
/-- a row as what is read -/
theorem pm_reads {w : World} {k : Nat} {A : Option Addr} {e : TypeId} {size n c : Nat} {xs : List Value} (h : Pm w0 L w) (hk : L[k]? = some (.row (.slice A n c) e size n xs)) : ∃ B, Reads w B size A n xs := ⟨_, Reads.of_own (h.at_ hk)⟩
theorem pm_byt {w : World} {A : Option Addr} {n : Nat} {l : List Int} (h : Pm w0 L w) (hb : Byt w0.w w0.b A n l) : ∃ B, Reads w B 1 A n (bv l) := ⟨_, (hb.below h.bel).1⟩
/-- a function hands back a row of its own -/
theorem pm_ret_row {fn : Func} {t : Tmp} {A : Option Addr} {e : TypeId} {size n c k : Nat} {xs : List Value} {R : Ending → World → Prop} (hr : fn.results = #[.tmp t]) (hv : look E t = some (.slice A n c)) (hk : L[k]? = some (.row (.slice A n c) e size n xs))
    (hR : ∀ w, w.ownsRow w0.b e size (.slice A n c) n xs → Below w0.b w0.w w → R (.returned (.slice A n c)) w) (hD : N.ds = [] := by rfl) : TX N (bodyPost P fn R) .ret E (Pm w0 L) :=
  ret_tmp hr hv (fun w hw => hR w (hw.at_ hk) hw.bel) hD
end
end Go.Proofs.Ytmbcclgnjobikaa
