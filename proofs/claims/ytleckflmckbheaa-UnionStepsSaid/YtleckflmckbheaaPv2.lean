/-
  Texts of the proof, joined: SymShort, Draw, SymMax, UnVal, SortLaw, SymSrt, SymClr, SymFn, SymSeg, UnTrail, Bits, UnFcs, UnFind, SymNil, UnRem, Us1.
-/
import Derived.Test.YtleckflmckbheaaPv1
import Derived.Test.YtleckflmckbheaaRows
import Derived.BigFrame
import Derived.Laws.Small
import Derived.Laws.BitsAllLaws
import Derived.Laws.BitsLemmas
import Derived.WalkSpells
set_option linter.unusedVariables false
set_option linter.unusedSimpArgs false
namespace Go.Proofs.Ytleckflmckbheaa
open Go.RowKit
abbrev Tt : Bool := true
abbrev Ff : Bool := false
section
variable {P : Program} {N : Fr} {Q : Exit → Act → World → Prop} {E : Env} {ops : Array Oper} {l : List Oper} {o : Oper} {I : World → Prop}
theorem TL.mv {x : Operand} {d : Nat} {v : Value} (h : TL P N ops Q l ((d, v) :: E) I) (hg : o.guard = none := by rfl) (hd : o.dst = some d := by rfl) (hN : Nat.blt d N.n = true := by rfl) (ho : o.op = .move x := by rfl) (hx : ev E x = some v := by rfl) : TL P N ops Q (o :: l) E I := TL.val hg hd hN (gives_move ho hx) h
theorem TL.as_ {x : Operand} {d : Nat} {v : Value} (h : TL P N ops Q l ((d, v) :: E) I) (hg : o.guard = none := by rfl) (hd : o.dst = some d := by rfl) (hN : Nat.blt d N.n = true := by rfl) (ho : o.op = .assign x := by rfl) (hx : ev E x = some v := by rfl) : TL P N ops Q (o :: l) E I := TL.val hg hd hN (gives_assign ho hx) h
theorem TL.pk {c x y : Operand} {b : Bool} {d : Nat} {v : Value} (h : TL P N ops Q l ((d, v) :: E) I) (hg : o.guard = none := by rfl) (hd : o.dst = some d := by rfl) (hN : Nat.blt d N.n = true := by rfl) (ho : o.op = .pick c x y := by rfl) (hc : ev E c = some (.bool b) := by rfl) (hx : (if b then ev E x else ev E y) = some v := by rfl) : TL P N ops Q (o :: l) E I := TL.val hg hd hN (gives_pick ho hc hx) h
theorem TL.ex {x : Operand} {i : Nat} {vs : Array Value} {d : Nat} {v : Value} (h : TL P N ops Q l ((d, v) :: E) I) (hg : o.guard = none := by rfl) (hd : o.dst = some d := by rfl) (hN : Nat.blt d N.n = true := by rfl) (ho : o.op = .extract x i := by rfl) (hx : ev E x = some (.tuple vs) := by rfl) (hv : vs[i]? = some v := by rfl) : TL P N ops Q (o :: l) E I := TL.val hg hd hN (gives_extract ho hx hv) h
theorem TL.gu {j d : Nat} {b : Bool} (h : TL P N ops Q ({ o with guard := none } :: l) E I) (hg : o.guard = some (j, b) := by rfl) (hd : (ops[j]?).bind (·.dst) = some d := by rfl) (hE : look E d = some (.bool b) := by rfl) : TL P N ops Q (o :: l) E I := TL.on hg hd hE h
theorem TL.of {j d t : Nat} {b b' : Bool} (h : TL P N ops Q l ((t, undef) :: E) I) (hg : o.guard = some (j, b') := by rfl) (hd : (ops[j]?).bind (·.dst) = some d := by rfl) (hE : look E d = some (.bool b) := by rfl) (hne : (b == b') = false := by rfl) (ht : o.dst = some t := by rfl) (hN : Nat.blt t N.n = true := by rfl) : TL P N ops Q (o :: l) E I := TL.off hg hd hE hne ht hN h
end
section
variable {P : Program} {N : Fr} {ops : Array Oper} {S I : World → Prop} {Q : Exit → Act → World → Prop} {f : Nat} {listed : Array Bool} {E : Env}
theorem TH.tk {o : Oper} {d : Nat} {v : Value} {listed' : Array Bool} (i : Nat) (hi : ops[i]? = some o) (hg : o.guard = none) (hd : o.dst = some d) (hv : Gives P N o E S v) (hS : ∀ w, I w → S w) (h : TH P N ops S Q f listed' ((d, v) :: E) I)
    (hs : Region.noSelect ops = true := by kernel_rfl) (hf : Region.free .any ops listed i = true := by kernel_rfl) (hr : (Region.ready .any ops listed).contains i = true := by kernel_rfl) (hl : listed.setIfInBounds i true = listed' := by rfl) (hN : Nat.blt d N.n = true := by rfl) : TH P N ops S Q (f + 1) listed E I := TH.take i hi hs hf hr hl hg hd hN hv hS h
end
end Go.Proofs.Ytleckflmckbheaa

namespace Go.Proofs.Ytleckflmckbheaa
open Go.RowKit
set_option maxRecDepth 20000
def Cod (w : World) (cb : Nat) : Prop :=
  ∃ A m c l k, Blk w cb 71 #[.slice A m c, .int .i64 ((k : Nat) : Int)] ∧ k ≤ m ∧ m ≤ 1000000 ∧ Byt w cb A m l
theorem Cod.lt {w : World} {cb : Nat} (h : Cod w cb) : cb < w.heap.size := by
  obtain ⟨A, m, c, l, k, hb, _⟩ := h
  exact hb.lt
theorem Cod.keep {w w' : World} {cb : Nat} (h : Cod w cb) (hk : ∀ b, b ≤ cb → w'.heap[b]? = w.heap[b]?) : Cod w' cb := by
  obtain ⟨A, m, c, l, k, hb, h1, h2, h3⟩ := h
  exact ⟨A, m, c, l, k, (hk cb (Nat.le_refl _)).trans hb, h1, h2, h3.keep fun p hp => World.cell?_of_block (hk _ (Nat.le_of_lt hp))⟩
theorem Cod.below {w w' : World} {cb B : Nat} (h : Cod w cb) (hb : Below B w w') (hB : cb < B) : Cod w' cb := h.keep fun b hb' => hb.block b (by omega)
theorem Cod.alloc {w : World} {cb : Nat} (h : Cod w cb) (o : Obj) : Cod (w.alloc o) cb := h.keep fun b hb' => Below.heap_alloc w o b (Nat.lt_of_le_of_lt hb' h.lt)
theorem Cod.drewN {w : World} {cb : Nat} (h : Cod w cb) (n : Nat) : Cod (w.drewN n) cb := h
theorem new_any (A : Option Addr) (n c : Nat) (l : List Int) (w : World) (mo : Int) (h : Byt w w.heap.size A n l) (hc : n ≤ c) (hn : (n : Int) ≤ 9223372036854775807) (h0 : 0 ≤ mo) (h1 : mo ≤ 1000000) :
    Calls Try.prog 34 #[.slice A n c, .int .i64 mo] w fun e w' => e = .returned (.pointer (some ⟨w.heap.size, 0, none⟩)) ∧ Cod w' w.heap.size ∧ Below w.heap.size w w' ∧ w'.heap.size = w.heap.size + 1 := by
  obtain ⟨mo, rfl⟩ := Int.eq_ofNat_of_zero_le h0
  have key : ∀ (m : Nat), m ≤ 1000000 → m ≤ n → Cod (w.alloc (.cells #[.slice A m c, .int .i64 0] 71)) w.heap.size := fun m hm hmn =>
    ⟨A, m, c, l.take m, 0, Blk.new _ _ _, Nat.zero_le _, hm, (h.head hmn).alloc (Nat.le_refl _) _⟩
  have hb : ∀ o, Below w.heap.size w (w.alloc o) := fun o => (Below.refl _ _).alloc (Nat.le_refl _) o
  by_cases hlt : mo < n
  · have k1 := Lib.hid (key mo (by omega) (by omega))
    clear key
    go_enter Try.func34, Try.ntmps34
    go_wp2
    go_ret
    exact ⟨rfl, k1.out, hb _, by simp⟩
  · have k1 := Lib.hid (key n (by omega) (by omega))
    clear key
    go_enter Try.func34, Try.ntmps34
    go_wp2
    go_ret
    exact ⟨rfl, k1.out, hb _, by simp⟩
theorem next_end (cb : Nat) (w : World) (n : Int) (A : Option Addr) (m c : Nat) (k : Nat) (hb : Blk w cb 71 #[.slice A m c, .int .i64 k]) (hk : k ≤ 1000000) (h : m ≤ k ∨ n < 1) :
    Calls Try.prog 21 #[.pointer (some ⟨cb, 0, none⟩), .int .i64 n] w fun e w' => e = .returned (.int .i64 0) ∧ ∃ q, w' = w.drewN q := by
  have hc0 := hb.cell 0
  have hc1 := hb.cell 1
  simp at hc0 hc1
  by_cases hm : m ≤ k
  · clear h
    go_enter Try.func21, Try.ntmps21
    go_wp2
    go_quiet (fail)
    go_wp2
    go_ret
    exact ⟨rfl, _, rfl⟩
  · have h : n < 1 := by omega
    go_enter Try.func21, Try.ntmps21
    go_wp2
    go_quiet (fail)
    go_wp2
    go_ret
    exact ⟨rfl, _, rfl⟩
theorem next_small (cb : Nat) (w : World) (n : Int) (ad : Addr) (m c : Nat) (k : Nat) (x : Int) (hb : Blk w cb 71 #[.slice (some ad) m c, .int .i64 k]) (hk : k < m) (hm : m ≤ 1000000) (h0 : 1 ≤ n) (h1 : n ≤ 256)
    (hx : w.cell? (ad.add k) = some (.int .u8 x)) (hx0 : 0 ≤ x) (hx1 : x ≤ 255) :
    Calls Try.prog 21 #[.pointer (some ⟨cb, 0, none⟩), .int .i64 n] w fun e w' => e = .returned (.int .i64 (x % n)) ∧ ∃ q, w' = (w.drewN q).setCell ⟨cb, 1, none⟩ (.int .i64 ((k + 1 : Nat) : Int)) := by
  have hc0 := hb.cell 0
  have hc1 := hb.cell 1
  have hf0 := hb.frozen 0
  have hf1 := hb.frozen 1
  simp at hc0 hc1
  go_enter Try.func21, Try.ntmps21
  go_wp2
  go_quiet (fail)
  go_wp2
  go_quiet (fail)
  go_wp2
  go_ret
  exact ⟨rfl, _, rfl⟩
theorem Cod.moved {w : World} {cb : Nat} {A : Option Addr} {m c k : Nat} {l : List Int} (hb : Blk w cb 71 #[.slice A m c, .int .i64 k]) (hk : k + 1 ≤ m) (hm : m ≤ 1000000) (hl : Byt w cb A m l) (q : Nat) :
    Cod ((w.drewN q).setCell ⟨cb, 1, none⟩ (.int .i64 ((k + 1 : Nat) : Int))) cb ∧ w.grownBy ((w.drewN q).setCell ⟨cb, 1, none⟩ (.int .i64 ((k + 1 : Nat) : Int))) (some cb) := by
  refine ⟨⟨A, m, c, l, k + 1, ?_, hk, hm, ?_⟩, ?_⟩
  · exact (hb.drewN q).set_ 1 _
  · exact (hl.drewN q).keep fun p hp => World.cell?_setCell_other _ _ _ _ (fun e => by subst e; simp at hp)
  · refine ⟨rfl, rfl, rfl, by simp, fun i hi hne => ?_⟩
    exact (Below.heap_setCell (w.drewN q) _ _ i (fun e => hne (by rw [e])))
def Chosen (n : Int) (w : World) (cb : Nat) (e : Ending) (w' : World) : Prop :=
  ∃ x : Int, e = .returned (.int .i64 x) ∧ 0 ≤ x ∧ x ≤ 65535 ∧ (1 ≤ n → x < n) ∧ Cod w' cb ∧ w.grownBy w' (some cb) ∧ w'.heap.size ≤ w.heap.size
theorem next_256 (cb : Nat) (w : World) (n : Int) (h : Cod w cb) (hn : n ≤ 256) :
    Calls Try.prog 21 #[.pointer (some ⟨cb, 0, none⟩), .int .i64 n] w (Chosen n w cb) := by
  obtain ⟨A, m, c, l, k, hb, hk, hm, hl⟩ := h
  by_cases hd : m ≤ k ∨ n < 1
  · refine (next_end cb w n A m c k hb (by omega) hd).mono fun e w' ⟨he, q, hw⟩ => ?_
    subst hw
    refine ⟨0, he, by omega, by omega, by omega, ⟨A, m, c, l, k, hb.drewN q, hk, hm, hl.drewN q⟩, ⟨rfl, rfl, rfl, Nat.le_refl _, fun _ _ _ => rfl⟩, Nat.le_refl _⟩
  · have hkm : k < m := by omega
    obtain ⟨ad, x, rfl, _, _, hx0, hx1, hc⟩ := hl.at_ hkm
    refine (next_small cb w n ad m c k x hb hkm hm (by omega) hn hc hx0 hx1).mono fun e w' ⟨he, q, hw⟩ => ?_
    subst hw
    obtain ⟨m1, m2⟩ := Cod.moved hb hkm hm hl q
    have e1 : 0 ≤ x % n := Int.emod_nonneg _ (by omega)
    have e2 : x % n < n := Int.emod_lt_of_pos _ (by omega)
    exact ⟨x % n, he, e1, by omega, fun _ => e2, m1, m2, by simp⟩
theorem next_big (cb : Nat) (w : World) (n : Int) (ad : Addr) (m c : Nat) (k : Nat) (x : Int) (hb : Blk w cb 71 #[.slice (some ad) m c, .int .i64 k]) (hk : k < m) (hm : m ≤ 1000000) (h1 : 256 < n)
    (hx : w.cell? (ad.add k) = some (.int .u8 x)) (hx0 : 0 ≤ x) (hx1 : x ≤ 255) (hC : ∀ q, Cod ((w.drewN q).setCell ⟨cb, 1, none⟩ (.int .i64 ((k + 1 : Nat) : Int))) cb) :
    Calls Try.prog 21 #[.pointer (some ⟨cb, 0, none⟩), .int .i64 n] w fun e w' => ∃ y q, e = .returned (.int .i64 ((256 * x + y) % n)) ∧ 0 ≤ y ∧ y ≤ 255 ∧ Cod w' cb ∧ ((w.drewN q).setCell ⟨cb, 1, none⟩ (.int .i64 ((k + 1 : Nat) : Int))).grownBy w' (some cb) ∧ w'.heap.size ≤ w.heap.size := by
  have hc0 := hb.cell 0
  have hc1 := hb.cell 1
  have hf0 := hb.frozen 0
  have hf1 := hb.frozen 1
  simp at hc0 hc1
  have HC := Lib.hid hC
  clear hC
  go_enter Try.func21, Try.ntmps21
  go_wp2_with fail
  go_quiet (fail)
  go_wp2_with fail
  go_quiet (fail)
  go_wp2_with fail
  refine (next_256 cb _ 256 (HC.out _) (by omega)).mono ?_
  rintro e w' ⟨y, rfl, hy0, _, hy1, hy2, hy3, hy4⟩
  have hy1 := hy1 (by omega)
  go_wp2_with fail
  go_ret
  exact ⟨y, _, rfl, hy0, by omega, hy2, hy3, Nat.le_trans hy4 (by simp)⟩
theorem next_any (cb : Nat) (w : World) (n : Int) (h : Cod w cb) :
    Calls Try.prog 21 #[.pointer (some ⟨cb, 0, none⟩), .int .i64 n] w (Chosen n w cb) := by
  by_cases hn : n ≤ 256
  · exact next_256 cb w n h hn
  · obtain ⟨A, m, c, l, k, hb, hk, hm, hl⟩ := h
    by_cases hd : m ≤ k
    · refine (next_end cb w n A m c k hb (by omega) (.inl hd)).mono fun e w' ⟨he, q, hw⟩ => ?_
      subst hw
      refine ⟨0, he, by omega, by omega, by omega, ⟨A, m, c, l, k, hb.drewN q, hk, hm, hl.drewN q⟩, ⟨rfl, rfl, rfl, Nat.le_refl _, fun _ _ _ => rfl⟩, Nat.le_refl _⟩
    · have hkm : k < m := by omega
      obtain ⟨ad, x, rfl, _, _, hx0, hx1, hc⟩ := hl.at_ hkm
      refine (next_big cb w n ad m c k x hb hkm hm (by omega) hc hx0 hx1 (fun q => (Cod.moved hb hkm hm hl q).1)).mono fun e w' ⟨y, q, he, hy0, hy1, hC, hg, hs⟩ => ?_
      have g := (Cod.moved hb hkm hm hl q).2
      have e1 : 0 ≤ (256 * x + y) % n := Int.emod_nonneg _ (by omega)
      have e2 : (256 * x + y) % n < n := Int.emod_lt_of_pos _ (by omega)
      have e3 : (256 * x + y) % n ≤ 65535 := by
        by_cases hlt : 256 * x + y < n
        · rw [Int.emod_eq_of_lt (by omega) hlt]; omega
        · omega
      refine ⟨_, he, e1, e3, fun _ => e2, hC, ⟨hg.os.trans g.os, hg.tape.trans g.tape, hg.output.trans g.output, Nat.le_trans g.size hg.size, fun i hi hne => ?_⟩, hs⟩
      exact (hg.block i (Nat.lt_of_lt_of_le hi g.size) hne).trans (g.block i hi hne)
end Go.Proofs.Ytleckflmckbheaa

namespace Go.Proofs.Ytleckflmckbheaa
open Go.RowKit
section
variable {P : Program} {N : Fr} {Q : Exit → Act → World → Prop} {E : Env} {ops : Array Oper} {l : List Oper} {o : Oper} {I : World → Prop}
theorem gives_max0 {x y : Operand} {ts : Array TypeId} {m : Nat} (ho : o.op = .call { callee := .builtin .max, args := #[x, y], argTypes := ts }) (hx : ev E x = some (.int .i64 0)) (hy : ev E y = some (.int .i64 (m : Int))) : Gives P N o E I (.int .i64 (m : Int)) := fun a w ha _ => by
  unfold execOp; rw [ho]
  simp only [resolve, invoke, builtin, Sem.run_bind, Sem.run_pure, Result.andThen_ok, List.map_toArray, List.map_cons, List.map_nil, ha.eval hx, ha.eval hy]
  simp [go_sem, Builtin.max_, Builtin.max2]
  try omega
theorem bin_eqb {t : TypeId} (ht : P.underlying t = some .bool) {x y : Operand} (a b : Bool) (w : World) : (do eqGuard .eql t x y (.bool a) (.bool b); binOp .eql t (.bool a) (.bool b) : Sem Value).run P w = .ok (.bool (a == b)) w := by
  have h : (eqGuard .eql t x y (.bool a) (.bool b) : Sem Unit).run P w = .ok () w := by simp [eqGuard, go_sem]
  have h2 : (binOp .eql t (.bool a) (.bool b) : Sem Value).run P w = .ok (.bool (a == b)) w := by
    have e : (Op.equalIn Op.maxDepth t (.bool a) (.bool b)).run P w = .ok (a == b) w := by
      rw [show Op.maxDepth = 9999 + 1 from rfl]
      exact run_equalIn_bool w 9999 t a b ht
    simp [binOp, Op.equal, go_sem, e]
  simp only [Sem.run_bind, h, Result.andThen_ok, h2]
theorem bin_geq_t {xt : TypeId} {k : IntKind} {m n : Int} (h : m ≥ n) (w : World) : (binOp .geq xt (.int k m) (.int k n)).run P w = .ok (.bool true) w := by rw [bin_geq, decide_eq_true h]
theorem bin_geq_f {xt : TypeId} {k : IntKind} {m n : Int} (h : ¬ m ≥ n) (w : World) : (binOp .geq xt (.int k m) (.int k n)).run P w = .ok (.bool false) w := by rw [bin_geq, decide_eq_false h]
theorem bin_leq_t {xt : TypeId} {k : IntKind} {m n : Int} (h : m ≤ n) (w : World) : (binOp .leq xt (.int k m) (.int k n)).run P w = .ok (.bool true) w := by rw [bin_leq, decide_eq_true h]
theorem bin_leq_f {xt : TypeId} {k : IntKind} {m n : Int} (h : ¬ m ≤ n) (w : World) : (binOp .leq xt (.int k m) (.int k n)).run P w = .ok (.bool false) w := by rw [bin_leq, decide_eq_false h]
end
end Go.Proofs.Ytleckflmckbheaa

namespace Go.Proofs.Ytleckflmckbheaa
open Go.RowKit
set_option maxRecDepth 20000
noncomputable instance (l : List Fc) : Decidable (validF l) := Classical.propDecidable _
theorem valid_next {l : List Fc} {i : Nat} {x : Fc} (h : validN l i) (hx : l[i]? = some x) (h1 : 0 ≤ x.id) (h2 : ¬ x.a = x.b) (h3 : ∀ y, 0 < i → l[i - 1]? = some y → y.id < x.id) : validN l (i + 1) := by
 intro j hj f hf
 rcases Nat.lt_or_ge j i with h4 | h4
 ·exact h j h4 f hf
 ·obtain rfl : j = i := by omega
  rw [hx] at hf
  cases hf
  exact ⟨h1, h2, h3⟩
theorem unvsz42 (w : World) : (sizeOf 42).run Try.prog w = .ok 3 w := rfl
theorem unvag42 (w : World) : (isAgg 42).run Try.prog w = .ok true w := rfl
theorem unvzv42 (w : World) : (zeroValue 42).run Try.prog w = .ok (.agg #[.int .i64 0, .int .u32 0, .int .u32 0]) w := rfl
theorem unvfld42_0 (g o : Nat) (w : World) : (Instr.fieldAt 42 (.pointer (some ⟨g, o, none⟩)) 0).run Try.prog w = .ok (.pointer (some ⟨g, o + 0, none⟩)) w := by kernel_rfl
theorem unvag3 (w : World) : (isAgg 3).run Try.prog w = .ok false w := rfl
theorem unvfld42_1 (g o : Nat) (w : World) : (Instr.fieldAt 42 (.pointer (some ⟨g, o, none⟩)) 1).run Try.prog w = .ok (.pointer (some ⟨g, o + 1, none⟩)) w := by kernel_rfl
theorem unvag35 (w : World) : (isAgg 35).run Try.prog w = .ok false w := rfl
theorem unvfld42_2 (g o : Nat) (w : World) : (Instr.fieldAt 42 (.pointer (some ⟨g, o, none⟩)) 2).run Try.prog w = .ok (.pointer (some ⟨g, o + 2, none⟩)) w := by kernel_rfl
set_option maxHeartbeats 1000000 in
theorem valid_any (A : Option Addr) (n c : Nat) (l : List Fc) (w : World) (hr : Reads w w.heap.size 3 A n (fcs l)) (hl : l.length = n) :
  Calls Try.prog 22 #[.slice A n c] w fun e w' => e = .returned (.bool (decide (validF l))) ∧ Below w.heap.size w w' := by
 subst hl
 refine begin_ (vs := [.slice A l.length c]) Try.func22 rfl rfl rfl ?_ (Pm.start w)
 refine TC.seq_ (TC.region ?_)
 refine TL.as_ ?_
 refine TL.end_ (TX.then_ (TC.seq_ (TC.seq_ (TC.region ?_))))
 refine TL.mv ?_
 refine TL.val rfl rfl rfl (gives_len rfl Try.underlying26 rfl) ?_
 refine TL.vsplit rfl rfl rfl (gives_bin rfl rfl rfl (fun w => bin_gtr w)) (fun h7 => ?_) (fun h7 => ?_)
 ·have q7 := of_decide_eq_true h7
  have hR : ¬ validF l := fun hh => by have := hh.1; omega
  refine TL.end_ (TX.then_ (TC.condT rfl (TC.seq_ (TC.region ?_))))
  refine TL.as_ ?_
  refine TL.end_ (TX.then_ (TC.ret_ (TX.then_ret ?_)))
  exact ret_tmp Try.results22 rfl (fun w1 hw => ⟨by rw [decide_eq_false hR], hw.bel⟩)
 ·have q7 := of_decide_eq_false h7
  refine TL.end_ (TX.then_ (TC.condF rfl (TC.skip_ (TX.then_ (TC.seq_ (TC.seq_ (TC.region ?_)))))))
  refine TL.mv ?_
  refine TL.val rfl rfl rfl (gives_len rfl Try.underlying26 rfl) ?_
  refine TL.mv ?_
  refine TL.end_ (TX.then_ (TC.block ?_))
  refine TC.loop_ (α := {i : Nat // i ≤ l.length ∧ validN l i}) (fun y => [(0, .slice A l.length c), (8, .slice A l.length c), (9, .int .i64 (l.length : Nat)), (10, .int .i64 (y.1 : Nat))]) (fun y => Pm w []) (fun y => l.length - y.1) (⟨0, Nat.zero_le _, fun j hj => absurd hj (Nat.not_lt_zero j)⟩) ⟨rfl, rfl, rfl, rfl, trivial⟩ (fun w1 hw => hw) ?_
  rintro ⟨i, hi, hv⟩
  dsimp only at hi hv ⊢
  refine TC.seq_ (TC.region ?_)
  refine TL.vsplit rfl rfl rfl (gives_bin rfl rfl rfl (fun w => bin_lss w)) (fun h11 => ?_) (fun h11 => ?_)
  ·have q11 := of_decide_eq_true h11
   have hi2 : i < l.length := by omega
   obtain ⟨x, hx⟩ : ∃ x, l[i]? = some x := ⟨_, List.getElem?_eq_getElem hi2⟩
   obtain ⟨b2, o2, hA2, hbb2, hc2⟩ := hr.ad (by omega) (by decide)
   refine TL.end_ (TX.then_ (TC.seq_ (TC.condT rfl (TC.skip_ (TX.then_ (TC.seq_ (TC.block (TC.seq_ (TC.region ?_)))))))))
   refine TL.mv ?_
   refine TL.val rfl rfl rfl (gives_at (v := .pointer (some ⟨b2, o2 + i * 3, none⟩)) rfl rfl rfl (fun w => at_el Try.underlying26 unvsz42 hA2 _ _ i hi2 rfl w)) ?_
   refine TL.val rfl rfl rfl (gives_loadR rfl rfl unvag42 unvsz42 (fc_cells_len x) (fun w1 hw j u hu => (hw.bel.cell hbb2).trans (fcs_cell hx hc2 j u hu))) ?_
   refine TL.pnew rfl rfl rfl (exec_alloc (cs := [.int .i64 0, .int .u32 0, .int .u32 0]) rfl unvzv42 rfl) (fun g4 => ?_)
   refine TL.as_ ?_
   refine TL.pstore (k := 0) (vs := x.cells) rfl rfl rfl rfl rfl rfl rfl unvsz42 (fc_one x) (by show 3 ≤ 3; decide) (L' := [.blk g4 42 x.cells]) rfl ?_
   refine TL.end_ (TX.then_ (TC.seq_ ?_))
   have hway : x.id < 0 ∨ (¬ x.id < 0 ∧ x.a = x.b) ∨ (¬ x.id < 0 ∧ ¬ x.a = x.b ∧ ¬ 0 < i) ∨ (¬ x.id < 0 ∧ ¬ x.a = x.b ∧ 0 < i ∧ ∀ y, l[i - 1]? = some y → y.id < x.id) ∨ (¬ x.id < 0 ∧ ¬ x.a = x.b ∧ 0 < i ∧ ¬ ∀ y, l[i - 1]? = some y → y.id < x.id) := by
    by_cases p1 : x.id < 0
    ·exact .inl p1
    ·by_cases p2 : x.a = x.b
     ·exact .inr (.inl ⟨p1, p2⟩)
     ·by_cases p3 : 0 < i
      ·by_cases p4 : ∀ y, l[i - 1]? = some y → y.id < x.id
       ·exact .inr (.inr (.inr (.inl ⟨p1, p2, p3, p4⟩)))
       ·exact .inr (.inr (.inr (.inr ⟨p1, p2, p3, p4⟩)))
      ·exact .inr (.inr (.inl ⟨p1, p2, p3⟩))
   rcases hway with p1 | ⟨p1, p2⟩ | ⟨p1, p2, p3⟩ | ⟨p1, p2, p3, p5⟩ | ⟨p1, p2, p3, p5⟩
   ·have hR : ¬ validF l := fun hh => by obtain ⟨v1, v2, v3⟩ := hh.2 i hi2 x hx; omega
    refine TC.quiet_ (E' := ?_) (by kernel_rfl) (by kernel_rfl) (fun w hw => hw.drawn _) ?_ ?_
    rotate_left
    ·refine TQ.val rfl rfl rfl (gives_field (v := .pointer (some ⟨g4, 0, none⟩)) rfl rfl (fun w => unvfld42_0 _ _ w)) ?_
     refine TQ.val rfl rfl rfl (pm_load (k := 0) (i := 0) rfl rfl unvag3 rfl rfl) ?_
     refine TQ.val rfl rfl rfl (gives_bin rfl rfl rfl (fun w => bin_lss_t (p1) w)) ?_
     iterate 11 (first | refine TQ.off rfl rfl rfl rfl rfl rfl ?_ | refine TQ.val rfl rfl rfl (gives_move rfl rfl) ?_ | refine TQ.val rfl rfl rfl (gives_pick rfl rfl rfl) ?_)
     refine TQ.offU rfl rfl rfl rfl rfl ?_
     refine TQ.offU rfl rfl rfl rfl rfl ?_
     refine TQ.offU rfl rfl rfl rfl rfl ?_
     refine TQ.offU rfl rfl rfl rfl rfl ?_
     refine TQ.offU rfl rfl rfl rfl rfl ?_
     refine TQ.offU rfl rfl rfl rfl rfl ?_
     refine TQ.offU rfl rfl rfl rfl rfl ?_
     refine TQ.offU rfl rfl rfl rfl rfl ?_
     refine TQ.offU rfl rfl rfl rfl rfl ?_
     refine TQ.off rfl rfl rfl rfl rfl rfl ?_
     refine TQ.val rfl rfl rfl (gives_pick rfl rfl rfl) ?_
     exact TQ.end_
    refine TX.then_ (TC.condT rfl (TC.seq_ (TC.region ?_)))
    refine TL.as_ ?_
    refine TL.end_ (TX.then_ (TC.ret_ (TX.in_ret (TX.then_ret (TX.then_ret (TX.in_ret (TX.then_ret ?_)))))))
    exact ret_tmp Try.results22 rfl (fun w1 hw => ⟨by rw [decide_eq_false hR], hw.bel⟩)
   ·have hR : ¬ validF l := fun hh => by obtain ⟨v1, v2, v3⟩ := hh.2 i hi2 x hx; exact v2 p2
    refine TC.quiet_ (E' := ?_) (by kernel_rfl) (by kernel_rfl) (fun w hw => hw.drawn _) ?_ ?_
    rotate_left
    ·refine TQ.val rfl rfl rfl (gives_field (v := .pointer (some ⟨g4, 0, none⟩)) rfl rfl (fun w => unvfld42_0 _ _ w)) ?_
     refine TQ.val rfl rfl rfl (pm_load (k := 0) (i := 0) rfl rfl unvag3 rfl rfl) ?_
     refine TQ.val rfl rfl rfl (gives_bin rfl rfl rfl (fun w => bin_lss_f (p1) w)) ?_
     refine TQ.val rfl rfl rfl (gives_move rfl rfl) ?_
     refine TQ.on rfl rfl rfl ?_
     refine TQ.val rfl rfl rfl (gives_field (v := .pointer (some ⟨g4, 1, none⟩)) rfl rfl (fun w => unvfld42_1 _ _ w)) ?_
     refine TQ.on rfl rfl rfl ?_
     refine TQ.val rfl rfl rfl (pm_load (k := 0) (i := 1) rfl rfl unvag35 rfl rfl) ?_
     refine TQ.on rfl rfl rfl ?_
     refine TQ.val rfl rfl rfl (gives_field (v := .pointer (some ⟨g4, 2, none⟩)) rfl rfl (fun w => unvfld42_2 _ _ w)) ?_
     refine TQ.on rfl rfl rfl ?_
     refine TQ.val rfl rfl rfl (pm_load (k := 0) (i := 2) rfl rfl unvag35 rfl rfl) ?_
     refine TQ.on rfl rfl rfl ?_
     refine TQ.val rfl rfl rfl (gives_bin rfl rfl rfl (fun w => bin_eql_t (p2) w)) ?_
     iterate 5 (first | refine TQ.off rfl rfl rfl rfl rfl rfl ?_ | refine TQ.val rfl rfl rfl (gives_move rfl rfl) ?_ | refine TQ.val rfl rfl rfl (gives_pick rfl rfl rfl) ?_)
     refine TQ.offU rfl rfl rfl rfl rfl ?_
     refine TQ.offU rfl rfl rfl rfl rfl ?_
     refine TQ.offU rfl rfl rfl rfl rfl ?_
     refine TQ.offU rfl rfl rfl rfl rfl ?_
     refine TQ.offU rfl rfl rfl rfl rfl ?_
     refine TQ.offU rfl rfl rfl rfl rfl ?_
     refine TQ.offU rfl rfl rfl rfl rfl ?_
     refine TQ.offU rfl rfl rfl rfl rfl ?_
     refine TQ.offU rfl rfl rfl rfl rfl ?_
     refine TQ.off rfl rfl rfl rfl rfl rfl ?_
     refine TQ.val rfl rfl rfl (gives_pick rfl rfl rfl) ?_
     exact TQ.end_
    refine TX.then_ (TC.condT rfl (TC.seq_ (TC.region ?_)))
    refine TL.as_ ?_
    refine TL.end_ (TX.then_ (TC.ret_ (TX.in_ret (TX.then_ret (TX.then_ret (TX.in_ret (TX.then_ret ?_)))))))
    exact ret_tmp Try.results22 rfl (fun w1 hw => ⟨by rw [decide_eq_false hR], hw.bel⟩)
   ·have hst : validN l (i + 1) := valid_next hv hx (by omega) p2 (fun y h0 => absurd h0 p3)
    refine TC.quiet_ (E' := ?_) (by kernel_rfl) (by kernel_rfl) (fun w hw => hw.drawn _) ?_ ?_
    rotate_left
    ·refine TQ.val rfl rfl rfl (gives_field (v := .pointer (some ⟨g4, 0, none⟩)) rfl rfl (fun w => unvfld42_0 _ _ w)) ?_
     refine TQ.val rfl rfl rfl (pm_load (k := 0) (i := 0) rfl rfl unvag3 rfl rfl) ?_
     refine TQ.val rfl rfl rfl (gives_bin rfl rfl rfl (fun w => bin_lss_f (p1) w)) ?_
     refine TQ.val rfl rfl rfl (gives_move rfl rfl) ?_
     refine TQ.on rfl rfl rfl ?_
     refine TQ.val rfl rfl rfl (gives_field (v := .pointer (some ⟨g4, 1, none⟩)) rfl rfl (fun w => unvfld42_1 _ _ w)) ?_
     refine TQ.on rfl rfl rfl ?_
     refine TQ.val rfl rfl rfl (pm_load (k := 0) (i := 1) rfl rfl unvag35 rfl rfl) ?_
     refine TQ.on rfl rfl rfl ?_
     refine TQ.val rfl rfl rfl (gives_field (v := .pointer (some ⟨g4, 2, none⟩)) rfl rfl (fun w => unvfld42_2 _ _ w)) ?_
     refine TQ.on rfl rfl rfl ?_
     refine TQ.val rfl rfl rfl (pm_load (k := 0) (i := 2) rfl rfl unvag35 rfl rfl) ?_
     refine TQ.on rfl rfl rfl ?_
     refine TQ.val rfl rfl rfl (gives_bin rfl rfl rfl (fun w => bin_eql_f (p2) w)) ?_
     iterate 5 (first | refine TQ.val rfl rfl rfl (gives_move rfl rfl) ?_ | refine TQ.on rfl rfl rfl ?_ | refine TQ.val rfl rfl rfl (gives_pick rfl rfl rfl) ?_)
     refine TQ.val rfl rfl rfl (gives_bin rfl rfl rfl (fun w => bin_gtr_f (by omega) w)) ?_
     iterate 14 (first | refine TQ.off rfl rfl rfl rfl rfl rfl ?_ | refine TQ.on rfl rfl rfl ?_ | refine TQ.val rfl rfl rfl (gives_pick rfl rfl rfl) ?_ | refine TQ.val rfl rfl rfl (gives_move rfl rfl) ?_)
     exact TQ.end_
    refine TX.then_ (TC.condF rfl (TC.skip_ (TX.in_normal (TX.then_ (TC.region ?_)))))
    refine TL.val rfl rfl rfl (gives_bin rfl rfl rfl (fun w => bin_add_ (r := ((i + 1 : Nat) : Int)) (by simp only [IntKind.wrap_i64]; omega) w)) ?_
    refine TL.mv ?_
    refine TL.end_ ?_
    exact TX.round (⟨i + 1, hi2, hst⟩) (by show l.length - (i + 1) < l.length - i; omega) ⟨rfl, rfl, rfl, rfl, trivial⟩ (fun w1 hw => hw.pick [] (by decide) rfl)
   ·have hi0 : 0 < i := p3
    obtain ⟨y, hy⟩ : ∃ y, l[i - 1]? = some y := ⟨_, List.getElem?_eq_getElem (by omega)⟩
    have p4 := p5 y hy
    have hst : validN l (i + 1) := valid_next hv hx (by omega) p2 (fun z _ hz => by rw [hy] at hz; cases hz; exact p4)
    refine TC.quiet_ (E' := ?_) (by kernel_rfl) (by kernel_rfl) (fun w hw => hw.drawn _) ?_ ?_
    rotate_left
    ·refine TQ.val rfl rfl rfl (gives_field (v := .pointer (some ⟨g4, 0, none⟩)) rfl rfl (fun w => unvfld42_0 _ _ w)) ?_
     refine TQ.val rfl rfl rfl (pm_load (k := 0) (i := 0) rfl rfl unvag3 rfl rfl) ?_
     refine TQ.val rfl rfl rfl (gives_bin rfl rfl rfl (fun w => bin_lss_f (p1) w)) ?_
     refine TQ.val rfl rfl rfl (gives_move rfl rfl) ?_
     refine TQ.on rfl rfl rfl ?_
     refine TQ.val rfl rfl rfl (gives_field (v := .pointer (some ⟨g4, 1, none⟩)) rfl rfl (fun w => unvfld42_1 _ _ w)) ?_
     refine TQ.on rfl rfl rfl ?_
     refine TQ.val rfl rfl rfl (pm_load (k := 0) (i := 1) rfl rfl unvag35 rfl rfl) ?_
     refine TQ.on rfl rfl rfl ?_
     refine TQ.val rfl rfl rfl (gives_field (v := .pointer (some ⟨g4, 2, none⟩)) rfl rfl (fun w => unvfld42_2 _ _ w)) ?_
     refine TQ.on rfl rfl rfl ?_
     refine TQ.val rfl rfl rfl (pm_load (k := 0) (i := 2) rfl rfl unvag35 rfl rfl) ?_
     refine TQ.on rfl rfl rfl ?_
     refine TQ.val rfl rfl rfl (gives_bin rfl rfl rfl (fun w => bin_eql_f (p2) w)) ?_
     iterate 5 (first | refine TQ.val rfl rfl rfl (gives_move rfl rfl) ?_ | refine TQ.on rfl rfl rfl ?_ | refine TQ.val rfl rfl rfl (gives_pick rfl rfl rfl) ?_)
     refine TQ.val rfl rfl rfl (gives_bin rfl rfl rfl (fun w => bin_gtr_t (by omega) w)) ?_
     iterate 7 (first | refine TQ.on rfl rfl rfl ?_ | refine TQ.val rfl rfl rfl (gives_move rfl rfl) ?_)
     refine TQ.val rfl rfl rfl (gives_bin rfl rfl rfl (fun w => bin_sub_ (r := ((i - 1 : Nat) : Int)) (by simp only [IntKind.wrap_i64]; omega) w)) ?_
     refine TQ.on rfl rfl rfl ?_
     refine TQ.val rfl rfl rfl (gives_at (v := .pointer (some ⟨b2, o2 + (i - 1) * 3, none⟩)) rfl rfl rfl (fun w => at_el Try.underlying26 unvsz42 hA2 _ _ (i - 1) (by omega) rfl w)) ?_
     refine TQ.on rfl rfl rfl ?_
     refine TQ.val rfl rfl rfl (gives_field (v := .pointer (some ⟨b2, o2 + (i - 1) * 3 + 0, none⟩)) rfl rfl (fun w => unvfld42_0 _ _ w)) ?_
     refine TQ.on rfl rfl rfl ?_
     refine TQ.val rfl rfl rfl (gives_load (v := .int .i64 y.id) rfl rfl (fun w => rfl) (fun w1 hw => (hw.bel.cell hbb2).trans (fcs_cell hy hc2 0 _ rfl))) ?_
     refine TQ.on rfl rfl rfl ?_
     refine TQ.val rfl rfl rfl (gives_field (v := .pointer (some ⟨g4, 0, none⟩)) rfl rfl (fun w => unvfld42_0 _ _ w)) ?_
     refine TQ.on rfl rfl rfl ?_
     refine TQ.val rfl rfl rfl (pm_load (k := 0) (i := 0) rfl rfl unvag3 rfl rfl) ?_
     refine TQ.on rfl rfl rfl ?_
     refine TQ.val rfl rfl rfl (gives_bin rfl rfl rfl (fun w => bin_geq_f (by omega) w)) ?_
     refine TQ.on rfl rfl rfl ?_
     refine TQ.val rfl rfl rfl (gives_pick rfl rfl rfl) ?_
     refine TQ.val rfl rfl rfl (gives_pick rfl rfl rfl) ?_
     exact TQ.end_
    refine TX.then_ (TC.condF rfl (TC.skip_ (TX.in_normal (TX.then_ (TC.region ?_)))))
    refine TL.val rfl rfl rfl (gives_bin rfl rfl rfl (fun w => bin_add_ (r := ((i + 1 : Nat) : Int)) (by simp only [IntKind.wrap_i64]; omega) w)) ?_
    refine TL.mv ?_
    refine TL.end_ ?_
    exact TX.round (⟨i + 1, hi2, hst⟩) (by show l.length - (i + 1) < l.length - i; omega) ⟨rfl, rfl, rfl, rfl, trivial⟩ (fun w1 hw => hw.pick [] (by decide) rfl)
   ·have hi0 : 0 < i := p3
    obtain ⟨y, hy⟩ : ∃ y, l[i - 1]? = some y := ⟨_, List.getElem?_eq_getElem (by omega)⟩
    have p4 : ¬ y.id < x.id := fun hh => p5 fun z hz => by rw [hy] at hz; cases hz; exact hh
    have hR : ¬ validF l := fun hh => by obtain ⟨v1, v2, v3⟩ := hh.2 i hi2 x hx; have := v3 y hi0 hy; omega
    refine TC.quiet_ (E' := ?_) (by kernel_rfl) (by kernel_rfl) (fun w hw => hw.drawn _) ?_ ?_
    rotate_left
    ·refine TQ.val rfl rfl rfl (gives_field (v := .pointer (some ⟨g4, 0, none⟩)) rfl rfl (fun w => unvfld42_0 _ _ w)) ?_
     refine TQ.val rfl rfl rfl (pm_load (k := 0) (i := 0) rfl rfl unvag3 rfl rfl) ?_
     refine TQ.val rfl rfl rfl (gives_bin rfl rfl rfl (fun w => bin_lss_f (p1) w)) ?_
     refine TQ.val rfl rfl rfl (gives_move rfl rfl) ?_
     refine TQ.on rfl rfl rfl ?_
     refine TQ.val rfl rfl rfl (gives_field (v := .pointer (some ⟨g4, 1, none⟩)) rfl rfl (fun w => unvfld42_1 _ _ w)) ?_
     refine TQ.on rfl rfl rfl ?_
     refine TQ.val rfl rfl rfl (pm_load (k := 0) (i := 1) rfl rfl unvag35 rfl rfl) ?_
     refine TQ.on rfl rfl rfl ?_
     refine TQ.val rfl rfl rfl (gives_field (v := .pointer (some ⟨g4, 2, none⟩)) rfl rfl (fun w => unvfld42_2 _ _ w)) ?_
     refine TQ.on rfl rfl rfl ?_
     refine TQ.val rfl rfl rfl (pm_load (k := 0) (i := 2) rfl rfl unvag35 rfl rfl) ?_
     refine TQ.on rfl rfl rfl ?_
     refine TQ.val rfl rfl rfl (gives_bin rfl rfl rfl (fun w => bin_eql_f (p2) w)) ?_
     iterate 5 (first | refine TQ.val rfl rfl rfl (gives_move rfl rfl) ?_ | refine TQ.on rfl rfl rfl ?_ | refine TQ.val rfl rfl rfl (gives_pick rfl rfl rfl) ?_)
     refine TQ.val rfl rfl rfl (gives_bin rfl rfl rfl (fun w => bin_gtr_t (by omega) w)) ?_
     iterate 7 (first | refine TQ.on rfl rfl rfl ?_ | refine TQ.val rfl rfl rfl (gives_move rfl rfl) ?_)
     refine TQ.val rfl rfl rfl (gives_bin rfl rfl rfl (fun w => bin_sub_ (r := ((i - 1 : Nat) : Int)) (by simp only [IntKind.wrap_i64]; omega) w)) ?_
     refine TQ.on rfl rfl rfl ?_
     refine TQ.val rfl rfl rfl (gives_at (v := .pointer (some ⟨b2, o2 + (i - 1) * 3, none⟩)) rfl rfl rfl (fun w => at_el Try.underlying26 unvsz42 hA2 _ _ (i - 1) (by omega) rfl w)) ?_
     refine TQ.on rfl rfl rfl ?_
     refine TQ.val rfl rfl rfl (gives_field (v := .pointer (some ⟨b2, o2 + (i - 1) * 3 + 0, none⟩)) rfl rfl (fun w => unvfld42_0 _ _ w)) ?_
     refine TQ.on rfl rfl rfl ?_
     refine TQ.val rfl rfl rfl (gives_load (v := .int .i64 y.id) rfl rfl (fun w => rfl) (fun w1 hw => (hw.bel.cell hbb2).trans (fcs_cell hy hc2 0 _ rfl))) ?_
     refine TQ.on rfl rfl rfl ?_
     refine TQ.val rfl rfl rfl (gives_field (v := .pointer (some ⟨g4, 0, none⟩)) rfl rfl (fun w => unvfld42_0 _ _ w)) ?_
     refine TQ.on rfl rfl rfl ?_
     refine TQ.val rfl rfl rfl (pm_load (k := 0) (i := 0) rfl rfl unvag3 rfl rfl) ?_
     refine TQ.on rfl rfl rfl ?_
     refine TQ.val rfl rfl rfl (gives_bin rfl rfl rfl (fun w => bin_geq_t (by omega) w)) ?_
     refine TQ.on rfl rfl rfl ?_
     refine TQ.val rfl rfl rfl (gives_pick rfl rfl rfl) ?_
     refine TQ.val rfl rfl rfl (gives_pick rfl rfl rfl) ?_
     exact TQ.end_
    refine TX.then_ (TC.condT rfl (TC.seq_ (TC.region ?_)))
    refine TL.as_ ?_
    refine TL.end_ (TX.then_ (TC.ret_ (TX.in_ret (TX.then_ret (TX.then_ret (TX.in_ret (TX.then_ret ?_)))))))
    exact ret_tmp Try.results22 rfl (fun w1 hw => ⟨by rw [decide_eq_false hR], hw.bel⟩)
  ·have q11 := of_decide_eq_false h11
   have hi2 : i = l.length := by omega
   subst hi2
   have hR : validF l := ⟨by omega, hv⟩
   refine TL.end_ (TX.then_ (TC.seq_ (TC.condF rfl (TC.exit_ (TX.then_exit (TX.then_exit (TX.in_same (TX.then_ (TC.seq_ (TC.region ?_))))))))))
   refine TL.as_ ?_
   refine TL.end_ (TX.then_ (TC.ret_ ?_))
   exact ret_tmp Try.results22 rfl (fun w1 hw => ⟨by rw [decide_eq_true hR], hw.bel⟩)
end Go.Proofs.Ytleckflmckbheaa

namespace Go.Proofs.Ytleckflmckbheaa
abbrev dx (xs : List Int) (i : Nat) : Int := xs.getD i 0
def swp (xs : List Int) (i j : Nat) : List Int := (xs.set i (dx xs j)).set j (dx xs i)
theorem swp_len (xs : List Int) (i j : Nat) : (swp xs i j).length = xs.length := by simp [swp]
theorem dx_set {xs : List Int} {i : Nat} (h : i < xs.length) (v : Int) (k : Nat) : dx (xs.set i v) k = if k = i then v else dx xs k := by
 unfold dx
 rw [List.getD_eq_getElem?_getD, List.getD_eq_getElem?_getD, List.getElem?_set]
 by_cases e : i = k
 ·subst e; simp [h]
 ·rw [if_neg e, if_neg (fun e2 => e e2.symm)]
theorem swp_dx {xs : List Int} {i j : Nat} (hi : i < xs.length) (hj : j < xs.length) (k : Nat) : dx (swp xs i j) k = if k = j then dx xs i else if k = i then dx xs j else dx xs k := by
 unfold swp
 rw [dx_set (by simpa using hj), dx_set hi]
theorem swp_perm {xs : List Int} {i j : Nat} (hi : i < xs.length) (hj : j < xs.length) : (swp xs i j).Perm xs := by
 have h := List.set_set_perm hi hj
 unfold swp dx
 rw [List.getD_eq_getElem?_getD, List.getD_eq_getElem?_getD, List.getElem?_eq_getElem hi, List.getElem?_eq_getElem hj]
 exact h
structure Pin (a b : Nat) (xs ys : List Int) : Prop where
 len : ys.length = xs.length
 perm : ys.Perm xs
 out : ∀ i, i < a ∨ b ≤ i → dx ys i = dx xs i
 ins : ∀ i, a ≤ i → i < b → ∃ j, a ≤ j ∧ j < b ∧ dx ys i = dx xs j
theorem Pin.refl (a b : Nat) (xs : List Int) : Pin a b xs xs := ⟨rfl, List.Perm.refl _, fun _ _ => rfl, fun i h1 h2 => ⟨i, h1, h2, rfl⟩⟩
theorem Pin.trans {a b : Nat} {xs ys zs : List Int} (h : Pin a b xs ys) (h2 : Pin a b ys zs) : Pin a b xs zs :=
 ⟨h2.len.trans h.len, h2.perm.trans h.perm, fun i hi => (h2.out i hi).trans (h.out i hi), fun i h3 h4 => by
  obtain ⟨j, a1, a2, a3⟩ := h2.ins i h3 h4
  obtain ⟨k, b1, b2, b3⟩ := h.ins j a1 a2
  exact ⟨k, b1, b2, a3.trans b3⟩⟩
theorem Pin.mono {a b a' b' : Nat} {xs ys : List Int} (h : Pin a b xs ys) (ha : a' ≤ a) (hb : b ≤ b') : Pin a' b' xs ys :=
 ⟨h.len, h.perm, fun i hi => h.out i (by omega), fun i h1 h2 => by
  by_cases e : a ≤ i ∧ i < b
  ·obtain ⟨j, c1, c2, c3⟩ := h.ins i e.1 e.2
   exact ⟨j, by omega, by omega, c3⟩
  ·exact ⟨i, h1, h2, h.out i (by omega)⟩⟩
theorem Pin.swp1 {a b i j : Nat} {xs : List Int} (hb : b ≤ xs.length) (h1 : a ≤ i) (h2 : i < b) (h3 : a ≤ j) (h4 : j < b) : Pin a b xs (swp xs i j) := by
 have hi : i < xs.length := by omega
 have hj : j < xs.length := by omega
 refine ⟨swp_len _ _ _, swp_perm hi hj, fun k hk => ?_, fun k hk1 hk2 => ?_⟩
 ·rw [swp_dx hi hj, if_neg (by omega), if_neg (by omega)]
 ·by_cases e : k = j
  ·exact ⟨i, h1, h2, by rw [swp_dx hi hj, if_pos e]⟩
  ·by_cases e2 : k = i
   ·exact ⟨j, h3, h4, by rw [swp_dx hi hj, if_neg e, if_pos e2]⟩
   ·exact ⟨k, hk1, hk2, by rw [swp_dx hi hj, if_neg e, if_neg e2]⟩
theorem Pin.swap {a b i j : Nat} {xs ys : List Int} (h : Pin a b xs ys) (hb : b ≤ xs.length) (h1 : a ≤ i) (h2 : i < b) (h3 : a ≤ j) (h4 : j < b) : Pin a b xs (swp ys i j) :=
 h.trans (Pin.swp1 (by rw [h.len]; exact hb) h1 h2 h3 h4)
def Srt (a b : Nat) (xs : List Int) : Prop := ∀ p q, a ≤ p → p < q → q < b → dx xs p ≤ dx xs q
def Low (a b : Nat) (xs : List Int) : Prop := ∀ p q, p + 1 = a → a ≤ q → q < b → dx xs p ≤ dx xs q
theorem Low.pin {a b : Nat} {xs ys : List Int} (h : Low a b xs) (hp : Pin a b xs ys) : Low a b ys := fun p q h1 h2 h3 => by
 obtain ⟨j, a1, a2, a3⟩ := hp.ins q h2 h3
 rw [hp.out p (by omega), a3]
 exact h p j h1 a1 a2
/-! ### Insertion -/
def Ins (a i j : Nat) (xs : List Int) : Prop := ∀ p q, a ≤ p → p < q → q ≤ i → q ≠ j → dx xs p ≤ dx xs q
theorem Ins.start {a i : Nat} {xs : List Int} (h : Srt a i xs) : Ins a i i xs := fun p q h1 h2 h3 h4 => h p q h1 h2 (by omega)
theorem Ins.stop {a i j : Nat} {xs : List Int} (h : Ins a i j xs) (hs : a < j → dx xs (j - 1) ≤ dx xs j) : Srt a (i + 1) xs := fun p q h1 h2 h3 => by
 by_cases e : q = j
 ·subst e
  refine Int.le_trans ?_ (hs (by omega))
  by_cases e2 : p = q - 1
  ·rw [e2]; exact Int.le_refl _
  ·exact h p (q - 1) h1 (by omega) (by omega) (by omega)
 ·exact h p q h1 h2 (by omega) e
theorem Ins.down {a i j : Nat} {xs : List Int} (h : Ins a i j xs) (h1 : a < j) (h2 : j ≤ i) (hl : i < xs.length) (hlt : dx xs j < dx xs (j - 1)) : Ins a i (j - 1) (swp xs j (j - 1)) := fun p q a1 a2 a3 a4 => by
 rw [swp_dx (by omega) (by omega), swp_dx (by omega) (by omega)]
 by_cases c1 : q = j - 1
 ·exact absurd c1 a4
 ·rw [if_neg c1]
  by_cases c2 : q = j
  ·rw [if_pos c2]
   by_cases c3 : p = j - 1
   ·rw [if_pos c3]; omega
   ·rw [if_neg c3, if_neg (by omega)]
    exact h p (j - 1) a1 (by omega) (by omega) (by omega)
  ·rw [if_neg c2]
   by_cases c3 : p = j - 1
   ·rw [if_pos c3]
    exact h j q (by omega) (by omega) a3 c2
   ·rw [if_neg c3]
    by_cases c4 : p = j
    ·rw [if_pos c4]
     exact h (j - 1) q (by omega) (by omega) a3 c2
    ·rw [if_neg c4]
     exact h p q a1 a2 a3 c2
theorem Srt.one {a b : Nat} {xs : List Int} (h : b ≤ a + 1) : Srt a b xs := fun p q h1 h2 h3 => by omega
theorem Srt.less {a b c : Nat} {xs : List Int} (h : Srt a b xs) (hc : c ≤ b) : Srt a c xs := fun p q h1 h2 h3 => h p q h1 h2 (by omega)
theorem Srt.snoc {a i : Nat} {xs : List Int} (h : Srt a i xs) (h1 : a < i → dx xs (i - 1) ≤ dx xs i) : Srt a (i + 1) xs := (Ins.start h).stop h1
theorem Srt.same {a b : Nat} {xs ys : List Int} (h : Srt a b xs) (he : ∀ k, a ≤ k → k < b → dx ys k = dx xs k) : Srt a b ys := fun p q h1 h2 h3 => by
 rw [he p h1 (by omega), he q (by omega) h3]
 exact h p q h1 h2 h3
/-! ### Sifting -/
def Hp (f lo hi : Nat) (xs : List Int) : Prop := ∀ i c, lo ≤ i → (c = 2 * i + 1 ∨ c = 2 * i + 2) → c < hi → dx xs (f + c) ≤ dx xs (f + i)
structure Sft (f lo hi r : Nat) (xs : List Int) : Prop where
 at_ : lo ≤ r
 heap : ∀ i c, lo ≤ i → i ≠ r → (c = 2 * i + 1 ∨ c = 2 * i + 2) → c < hi → dx xs (f + c) ≤ dx xs (f + i)
 up : ∀ i c, lo ≤ i → (r = 2 * i + 1 ∨ r = 2 * i + 2) → (c = 2 * r + 1 ∨ c = 2 * r + 2) → c < hi → dx xs (f + c) ≤ dx xs (f + i)
theorem Sft.start {f lo hi : Nat} {xs : List Int} (h : Hp f (lo + 1) hi xs) : Sft f lo hi lo xs := ⟨Nat.le_refl _, fun i c h1 h2 h3 h4 => h i c (by omega) h3 h4, fun i c h1 h2 _ _ => by omega⟩
theorem Sft.stop {f lo hi r : Nat} {xs : List Int} (h : Sft f lo hi r xs) (hs : ∀ c, (c = 2 * r + 1 ∨ c = 2 * r + 2) → c < hi → dx xs (f + c) ≤ dx xs (f + r)) : Hp f lo hi xs := fun i c h1 h2 h3 => by
 by_cases e : i = r
 ·subst e; exact hs c h2 h3
 ·exact h.heap i c h1 e h2 h3
theorem Sft.down {f lo hi r c : Nat} {xs : List Int} (h : Sft f lo hi r xs) (hl : f + hi ≤ xs.length) (hc : c = 2 * r + 1 ∨ c = 2 * r + 2) (hch : c < hi) (hlt : dx xs (f + r) < dx xs (f + c)) (hmax : ∀ d, (d = 2 * r + 1 ∨ d = 2 * r + 2) → d < hi → dx xs (f + d) ≤ dx xs (f + c)) :
  Sft f lo hi c (swp xs (f + r) (f + c)) := by
 have hlo := h.at_
 have e1 : f + r < xs.length := by omega
 have e2 : f + c < xs.length := by omega
 refine ⟨by omega, fun i d h1 h2 h3 h4 => ?_, fun i d h1 h2 h3 h4 => ?_⟩
 ·rw [swp_dx e1 e2, swp_dx e1 e2]
  by_cases c1 : i = r
  ·subst c1
   by_cases c2 : d = c
   ·subst c2
    rw [if_pos rfl, if_neg (by omega), if_pos rfl]; omega
   ·rw [if_neg (by omega), if_neg (by omega), if_neg (by omega), if_pos rfl]
    exact hmax d h3 h4
  ·by_cases c2 : d = r
   ·subst c2
    rw [if_neg (by omega), if_pos rfl, if_neg (by omega), if_neg (by omega)]
    exact h.up i c h1 h3 hc hch
   ·rw [if_neg (by omega), if_neg (by omega), if_neg (by omega), if_neg (by omega)]
    exact h.heap i d h1 c1 h3 h4
 ·have hi : i = r := by omega
  subst hi
  rw [swp_dx e1 e2, swp_dx e1 e2, if_neg (by omega), if_neg (by omega), if_neg (by omega), if_pos rfl]
  exact h.heap c d (by omega) (by omega) h3 h4
theorem Hp.top {f hi : Nat} {xs : List Int} (h : Hp f 0 hi xs) : ∀ j, j < hi → dx xs (f + j) ≤ dx xs f
 | j, hj => by
  rcases Nat.eq_zero_or_pos j with h0 | h0
  ·subst h0; exact Int.le_refl _
  ·exact Int.le_trans (h ((j - 1) / 2) j (Nat.zero_le _) (by omega) hj) (Hp.top h ((j - 1) / 2) (by omega))
structure Hsr (f m hi : Nat) (xs : List Int) : Prop where
 heap : Hp f 0 m xs
 tail : ∀ j k, j < k → k < hi → m ≤ k → dx xs (f + j) ≤ dx xs (f + k)
theorem Hsr.step {f i hi : Nat} {xs ys : List Int} (h : Hsr f (i + 1) hi xs) (hi' : i < hi) (hl : f + hi ≤ xs.length) (hp : Pin f (f + i) (swp xs f (f + i)) ys) (hh : Hp f 0 i ys) : Hsr f i hi ys := by
 have e1 : f < xs.length := by omega
 have e2 : f + i < xs.length := by omega
 refine ⟨hh, fun j k h1 h2 h3 => ?_⟩
 have key : ∀ j, j < i → ∃ z, z < i + 1 ∧ dx ys (f + j) = dx xs (f + z) := fun j hj => by
  obtain ⟨z, z1, z2, z3⟩ := hp.ins (f + j) (by omega) (by omega)
  rw [z3, swp_dx e1 e2]
  by_cases c1 : z = f + i
  ·omega
  ·rw [if_neg c1]
   by_cases c2 : z = f
   ·exact ⟨i, by omega, by rw [if_pos c2]⟩
   ·exact ⟨z - f, by omega, by rw [if_neg c2]; congr 1; omega⟩
 have top : dx ys (f + i) = dx xs f := by rw [hp.out (f + i) (by omega), swp_dx e1 e2, if_pos rfl]
 have rest : ∀ k, i < k → dx ys (f + k) = dx xs (f + k) := fun k hk => by rw [hp.out (f + k) (by omega), swp_dx e1 e2, if_neg (by omega), if_neg (by omega)]
 by_cases c1 : k = i
 ·subst c1
  obtain ⟨z, z1, z2⟩ := key j h1
  rw [z2, top]
  exact h.heap.top z z1
 ·rw [rest k (by omega)]
  by_cases c2 : j < i
  ·obtain ⟨z, z1, z2⟩ := key j c2
   rw [z2]
   exact h.tail z k (by omega) h2 (by omega)
  ·by_cases c3 : j = i
   ·subst c3
    rw [top]
    exact h.tail 0 k (by omega) h2 (by omega)
   ·rw [rest j (by omega)]
    exact h.tail j k h1 h2 (by omega)
theorem Hp.swap0 {f i : Nat} {xs : List Int} (h : Hp f 0 (i + 1) xs) (hl : f + i < xs.length) : Hp f 1 i (swp xs f (f + i)) := fun j c h1 h2 h3 => by
 rw [swp_dx (by omega) hl, swp_dx (by omega) hl, if_neg (by omega), if_neg (by omega), if_neg (by omega), if_neg (by omega)]
 exact h j c (by omega) h2 (by omega)
theorem Hsr.done {f hi : Nat} {xs : List Int} (h : Hsr f 0 hi xs) : Srt f (f + hi) xs := fun p q h1 h2 h3 => by
 have := h.tail (p - f) (q - f) (by omega) (by omega) (by omega)
 rwa [show f + (p - f) = p by omega, show f + (q - f) = q by omega] at this
/-! ### Parting -/
structure Prt (a b i j : Nat) (xs : List Int) : Prop where
 hi : a + 1 ≤ i
 hj : j < b
 ij : i ≤ j + 1
 lo : ∀ k, a < k → k < i → dx xs k ≤ dx xs a
 up : ∀ k, j < k → k < b → dx xs a ≤ dx xs k
theorem Prt.start {a b : Nat} {xs : List Int} (h : a < b) : Prt a b (a + 1) (b - 1) xs := ⟨Nat.le_refl _, by omega, by omega, fun k h1 h2 => by omega, fun k h1 h2 => by omega⟩
theorem Prt.inc {a b i j : Nat} {xs : List Int} (h : Prt a b i j xs) (hij : i ≤ j) (hl : dx xs i ≤ dx xs a) : Prt a b (i + 1) j xs :=
 ⟨by have := h.hi; omega, h.hj, by omega, fun k h1 h2 => by
  by_cases e : k = i
  ·rw [e]; exact hl
  ·exact h.lo k h1 (by omega), h.up⟩
theorem Prt.dec {a b i j : Nat} {xs : List Int} (h : Prt a b i j xs) (hij : i ≤ j) (hl : dx xs a ≤ dx xs j) : Prt a b i (j - 1) xs :=
 ⟨h.hi, by have := h.hj; omega, by have := h.hi; omega, h.lo, fun k h1 h2 => by
  by_cases e : k = j
  ·rw [e]; exact hl
  ·exact h.up k (by omega) h2⟩
theorem Prt.swap {a b i j : Nat} {xs : List Int} (h : Prt a b i j xs) (hb : b ≤ xs.length) (hij : i < j) (h1 : dx xs j ≤ dx xs a) (h2 : dx xs a ≤ dx xs i) : Prt a b (i + 1) (j - 1) (swp xs i j) := by
 have hi := h.hi
 have hj := h.hj
 have ea : dx (swp xs i j) a = dx xs a := by rw [swp_dx (by omega) (by omega), if_neg (by omega), if_neg (by omega)]
 refine ⟨by omega, by omega, by omega, fun k k1 k2 => ?_, fun k k1 k2 => ?_⟩
 ·rw [ea, swp_dx (by omega) (by omega), if_neg (by omega)]
  by_cases e : k = i
  ·rw [if_pos e]; exact h1
  ·rw [if_neg e]; exact h.lo k k1 (by omega)
 ·rw [ea, swp_dx (by omega) (by omega)]
  by_cases e : k = j
  ·rw [if_pos e]; exact h2
  ·rw [if_neg e, if_neg (by omega)]; exact h.up k (by omega) k2
structure Mid (a b m : Nat) (xs : List Int) : Prop where
 hm : a ≤ m ∧ m < b
 lo : ∀ k, a ≤ k → k < m → dx xs k ≤ dx xs m
 up : ∀ k, m < k → k < b → dx xs m ≤ dx xs k
theorem Prt.mid {a b i j : Nat} {xs : List Int} (h : Prt a b i j xs) (hb : b ≤ xs.length) (hij : j < i) : Mid a b j (swp xs j a) := by
 have hi := h.hi
 have hj := h.hj
 have hij2 := h.ij
 have ej : dx (swp xs j a) j = dx xs a := by
  rw [swp_dx (by omega) (by omega)]
  by_cases e : j = a
  ·rw [if_pos e, e]
  ·rw [if_neg e, if_pos rfl]
 refine ⟨by omega, fun k k1 k2 => ?_, fun k k1 k2 => ?_⟩
 ·rw [ej, swp_dx (by omega) (by omega)]
  by_cases e : k = a
  ·rw [if_pos e]; exact h.lo j (by omega) (by omega)
  ·rw [if_neg e, if_neg (by omega)]; exact h.lo k (by omega) (by omega)
 ·rw [ej, swp_dx (by omega) (by omega), if_neg (by omega), if_neg (by omega)]
  exact h.up k k1 k2
/-! ### The whole -/
def Out (a0 b0 a b : Nat) (xs : List Int) : Prop := ∀ p q, a0 ≤ p → p < q → q < b0 → (p < a ∨ b ≤ q) → dx xs p ≤ dx xs q
theorem Out.start (a b : Nat) (xs : List Int) : Out a b a b xs := fun p q h1 h2 h3 h4 => by omega
theorem Out.pin {a0 b0 a b : Nat} {xs ys : List Int} (h : Out a0 b0 a b xs) (ha : a0 ≤ a) (hb : b ≤ b0) (hp : Pin a b xs ys) : Out a0 b0 a b ys := fun p q h1 h2 h3 h4 => by
 by_cases c1 : a ≤ p ∧ p < b
 ·obtain ⟨j, j1, j2, j3⟩ := hp.ins p c1.1 c1.2
  rw [j3, hp.out q (by omega)]
  exact h j q (by omega) (by omega) h3 (by omega)
 ·by_cases c2 : a ≤ q ∧ q < b
  ·obtain ⟨j, j1, j2, j3⟩ := hp.ins q c2.1 c2.2
   rw [j3, hp.out p (by omega)]
   exact h p j h1 (by omega) (by omega) (by omega)
  ·rw [hp.out p (by omega), hp.out q (by omega)]
   exact h p q h1 h2 h3 h4
theorem Out.done {a0 b0 a b : Nat} {xs : List Int} (h : Out a0 b0 a b xs) (hs : Srt a b xs) : Srt a0 b0 xs := fun p q h1 h2 h3 => by
 by_cases c : p < a ∨ b ≤ q
 ·exact h p q h1 h2 h3 c
 ·exact hs p q (by omega) h2 (by omega)
theorem Out.left {a0 b0 a b m : Nat} {xs ys : List Int} (h : Out a0 b0 a b xs) (ha : a0 ≤ a) (hb : b ≤ b0) (hm : Mid a b m xs) (hp : Pin a m xs ys) (hs : Srt a m ys) : Out a0 b0 (m + 1) b ys := fun p q h1 h2 h3 h4 => by
 have hab := hm.hm
 have h' := h.pin ha hb (hp.mono (Nat.le_refl _) (by omega))
 by_cases c : p < a ∨ b ≤ q
 ·exact h' p q h1 h2 h3 c
 ·by_cases c1 : q < m
  ·exact hs p q (by omega) h2 c1
  ·have hpm : dx ys p ≤ dx ys m := by
    by_cases e : p = m
    ·rw [e]; exact Int.le_refl _
    ·obtain ⟨j, j1, j2, j3⟩ := hp.ins p (by omega) (by omega)
     rw [j3, hp.out m (by omega)]
     exact hm.lo j j1 j2
   by_cases e : q = m
   ·rw [e]; exact hpm
   ·refine Int.le_trans hpm ?_
    rw [hp.out m (by omega), hp.out q (by omega)]
    exact hm.up q (by omega) (by omega)
theorem Out.right {a0 b0 a b m : Nat} {xs ys : List Int} (h : Out a0 b0 a b xs) (ha : a0 ≤ a) (hb : b ≤ b0) (hm : Mid a b m xs) (hp : Pin (m + 1) b xs ys) (hs : Srt (m + 1) b ys) : Out a0 b0 a m ys := fun p q h1 h2 h3 h4 => by
 have hab := hm.hm
 have h' := h.pin ha hb (hp.mono (by omega) (Nat.le_refl _))
 by_cases c : p < a ∨ b ≤ q
 ·exact h' p q h1 h2 h3 c
 ·by_cases c1 : m < p
  ·exact hs p q (by omega) h2 (by omega)
  ·have hmq : dx ys m ≤ dx ys q := by
    by_cases e : q = m
    ·rw [e]; exact Int.le_refl _
    ·obtain ⟨j, j1, j2, j3⟩ := hp.ins q (by omega) (by omega)
     rw [j3, hp.out m (by omega)]
     exact hm.up j (by omega) j2
   by_cases e : p = m
   ·rw [e]; exact hmq
   ·refine Int.le_trans ?_ hmq
    rw [hp.out m (by omega), hp.out p (by omega)]
    exact hm.lo p (by omega) (by omega)
theorem Low.right {a b m : Nat} {xs ys : List Int} (hm : Mid a b m xs) (hp : Pin a m xs ys) : Low (m + 1) b ys := fun p q h1 h2 h3 => by
 rw [hp.out p (by omega), hp.out q (by omega), show p = m by omega]
 exact hm.up q (by omega) h3
theorem Low.right0 {a b m : Nat} {xs : List Int} (hm : Mid a b m xs) : Low (m + 1) b xs := Low.right hm (Pin.refl a m xs)
theorem Low.left {a b m : Nat} {xs ys : List Int} (h : Low a b xs) (hm : m ≤ b) (hp : Pin (m + 1) b xs ys) (ham : a ≤ m) : Low a m ys := fun p q h1 h2 h3 => by
 rw [hp.out p (by omega), hp.out q (by omega)]
 exact h p q h1 h2 (by omega)
structure Eqs (a b m : Nat) (xs : List Int) : Prop where
 hm : a < m ∧ m ≤ b
 lo : ∀ k, a ≤ k → k < m → dx xs k ≤ dx xs a
 up : ∀ k, m ≤ k → k < b → dx xs a ≤ dx xs k
theorem Prt.eqs {a b i j : Nat} {xs : List Int} (h : Prt a b i j xs) (hij : j < i) : Eqs a b i xs := by
 have hi := h.hi
 have hj := h.hj
 have hij2 := h.ij
 refine ⟨by omega, fun k k1 k2 => ?_, fun k k1 k2 => h.up k (by omega) k2⟩
 by_cases e : k = a
 ·rw [e]; exact Int.le_refl _
 ·exact h.lo k (by omega) k2
theorem Out.eqs {a0 b0 a b m : Nat} {xs : List Int} (h : Out a0 b0 a b xs) (he : Eqs a b m xs) (hmin : ∀ k, a ≤ k → k < b → dx xs a ≤ dx xs k) : Out a0 b0 m b xs := fun p q h1 h2 h3 h4 => by
 have := he.hm
 by_cases c : p < a ∨ b ≤ q
 ·exact h p q h1 h2 h3 c
 ·exact Int.le_trans (he.lo p (by omega) (by omega)) (hmin q (by omega) (by omega))
theorem Eqs.low {a b m : Nat} {xs : List Int} (he : Eqs a b m xs) : Low m b xs := fun p q h1 h2 h3 => by
 have := he.hm
 exact Int.le_trans (he.lo p (by omega) (by omega)) (he.up q h2 h3)
end Go.Proofs.Ytleckflmckbheaa

namespace Go.Proofs.Ytleckflmckbheaa
open Go.RowKit
def uv (xs : List Int) : List Value := xs.map (Value.int .u32)
theorem uv_len (xs : List Int) : (uv xs).length = xs.length := by simp [uv]
theorem uv_at {xs : List Int} {i : Nat} (h : i < xs.length) : (uv xs)[i]? = some (.int .u32 (dx xs i)) := by
  unfold uv dx
  rw [List.getElem?_map, List.getD_eq_getElem?_getD, List.getElem?_eq_getElem h]
  rfl
theorem uv_set {xs : List Int} {i : Nat} (h : i < xs.length) (v : Int) : (uv xs).take i ++ [Value.int .u32 v] ++ (uv xs).drop (i + 1) = uv (xs.set i v) := by
  unfold uv
  rw [← List.map_take, ← List.map_drop, List.set_eq_take_append_cons_drop, if_pos h]
  simp
theorem uv_one (xs : List Int) : ∀ u ∈ uv xs, u.oneCell' = true := fun u hu => by
  obtain ⟨a, _, rfl⟩ := List.mem_map.1 hu
  rfl
def Rw (e : TypeId) (w : World) (g n c : Nat) (xs : List Int) : Prop := w.ownsRow g e 1 (.slice (some ⟨g, 0, none⟩) n c) n (uv xs)
theorem Rw.len {e : TypeId} {w : World} {g n c : Nat} {xs : List Int} (h : Rw e w g n c xs) : xs.length = n := by
  have := h.1
  rw [uv_len] at this
  omega
theorem Rw.obj {e : TypeId} {w : World} {g n c : Nat} {xs : List Int} (h : Rw e w g n c xs) : (∃ o, w.heap[g]? = some o) ∧ n ≤ c ∧ c ≤ maxLen := by
  rcases h.2 with ⟨e1, _⟩ | ⟨g', cap, cur, a, hb, hg, hn, hm, r⟩
  · cases e1
  · cases a
    exact ⟨⟨_, hg⟩, hn, hm⟩
theorem Pm.rowStart {e : TypeId} {w : World} {g n c : Nat} {xs : List Int} (h : Rw e w g n c xs) : Pm ⟨wbut w g, g⟩ (.row (.slice (some ⟨g, 0, none⟩) n c) e 1 n (uv xs) :: oths g w) w := by
  obtain ⟨⟨o, ho⟩, _⟩ := h.obj
  have hp := Pm.mapStart ho
  refine ⟨hp.bel, fun q hq => ?_, ?_, hp.oth, hp.low⟩
  · rcases List.mem_cons.1 hq with rfl | hq
    · exact h
    · exact hp.own q (List.mem_cons_of_mem _ hq)
  · have := List.pairwise_cons.1 hp.apart
    exact List.Pairwise.cons (fun q hq x hx => this.1 q hq x hx) this.2
section
variable {P : Program} {N : Fr} {Q : Exit → Act → World → Prop} {E : Env} {w0 : Base} {L : List Pc} {ops : Array Oper} {l : List Oper} {o : Oper}
theorem at_row {t e : TypeId} (ht : P.underlying t = some (.slice e)) (hs : ∀ w : World, (sizeOf e).run P w = .ok 1 w) (g n c i : Nat) (hi : i < n) {z : Int} (hz : z = (i : Int)) (w : World) :
    (Instr.indexAt t (.slice (some ⟨g, 0, none⟩) n c) (.int .i64 z)).run P w = .ok (.pointer (some ⟨g, i, none⟩)) w := by
  have := at_el (P := P) ht hs (A := some ⟨g, 0, none⟩) (b := g) (off := 0) rfl n c i hi hz w
  rwa [Nat.zero_add, Nat.mul_one] at this
theorem pm_rowAt {w : World} {k g n c : Nat} {e : TypeId} {xs : List Int} (h : Pm w0 L w) (hk : L[k]? = some (.row (.slice (some ⟨g, 0, none⟩) n c) e 1 n (uv xs))) : Rw e w g n c xs := by
  have h1 := h.at_ hk
  refine ⟨h1.1, ?_⟩
  rcases h1.2 with ⟨e1, _⟩ | ⟨g', cap, cur, a, hb, r⟩
  · cases e1
  · cases a
    exact .inr ⟨g, _, cur, rfl, Nat.le_refl _, r⟩
theorem Pm.rowTurn {w w' : World} {k g n c : Nat} {e : TypeId} {xs ys : List Int} (h : Pm w0 L w) (hk : L[k]? = some (.row (.slice (some ⟨g, 0, none⟩) n c) e 1 n (uv xs))) (hr : Rw e w' g n c ys) (hg : w.grownBy w' (some g)) : Pm w0 (L.set k (.row (.slice (some ⟨g, 0, none⟩) n c) e 1 n (uv ys))) w' := by
  have h1 := h.at_ hk
  have hb : w0.b ≤ g := (Pc.lt h1 g rfl).1
  exact h.turn hk hg (own_base hr hb) (fun g' hg' => .inl hg') (fun _ _ e => by cases e)
theorem TL.uset {t e : TypeId} {x y : Operand} {g i k n c : Nat} {v : Int} {xs : List Int} (hg : o.guard = none) (hd : o.dst = none) (ho : o.op = .store t x y) (hx : ev E x = some (.pointer (some ⟨g, i, none⟩))) (hy : ev E y = some (.int .u32 v))
    (hk : L[k]? = some (.row (.slice (some ⟨g, 0, none⟩) n c) e 1 n (uv xs))) (hs : ∀ w : World, (sizeOf t).run P w = .ok 1 w) (hi : i < xs.length)
    (h : TL P N ops Q l E (Pm w0 (L.set k (.row (.slice (some ⟨g, 0, none⟩) n c) e 1 n (uv (xs.set i v)))))) : TL P N ops Q (o :: l) E (Pm w0 L) :=
  TL.rowset (vs := [.int .u32 v]) hg hd ho hx hy hk rfl hs (by intro u hu; rw [List.mem_singleton] at hu; subst hu; rfl) (by rw [uv_len]; exact hi) (uv_set hi v) h
theorem pm_loadU {t e : TypeId} {x : Operand} {g i k n c : Nat} {xs : List Int} (ho : o.op = .load t x) (hx : ev E x = some (.pointer (some ⟨g, i, none⟩))) (hag : ∀ w : World, (isAgg t).run P w = .ok false w)
    (hk : L[k]? = some (.row (.slice (some ⟨g, 0, none⟩) n c) e 1 n (uv xs))) (hi : i < xs.length) : Gives P N o E (Pm w0 L) (.int .u32 (dx xs i)) := pm_loadRow ho hx hag hk (uv_at hi)
theorem TL.pcallRw {α : Type} {d k g n c : Nat} {e : TypeId} {xs : List Int} {f : FuncId} {fn : Func} {es : List Operand} {ts : Array TypeId} {vs : List Value} (r : α → Value) (M : α → List Int → Prop) (hg : o.guard = none) (hd : o.dst = some d) (hN : Nat.blt d N.n = true)
    (ho : o.op = .call { callee := .value (.func f), args := es.toArray, argTypes := ts }) (hx : evs E es = some vs) (hf : P.funcs[f]? = some fn) (hn : (fn.name == "runtime.NumGoroutine") = false) (hb : fn.body.isNone = false)
    (hk : L[k]? = some (.row (.slice (some ⟨g, 0, none⟩) n c) e 1 n (uv xs))) (hc : ∀ w, Pm w0 L w → Rw e w g n c xs → Calls P f vs.toArray w fun en w' => ∃ x ys, en = .returned (r x) ∧ M x ys ∧ Rw e w' g n c ys ∧ w.grownBy w' (some g))
    (h : ∀ x ys, M x ys → TL P N ops Q l ((d, r x) :: E) (Pm w0 (L.set k (.row (.slice (some ⟨g, 0, none⟩) n c) e 1 n (uv ys))))) : TL P N ops Q (o :: l) E (Pm w0 L) :=
  TL.call (α := {y : α × List Int // M y.1 y.2}) (r := fun y => r y.1.1) (I' := fun y => Pm w0 (L.set k (.row (.slice (some ⟨g, 0, none⟩) n c) e 1 n (uv y.1.2)))) hg hd hN ho hx hf hn hb (fun w hw => (hc w hw (pm_rowAt hw hk)).mono fun en w' ⟨x, ys, he, hM, hr, hgr⟩ => ⟨⟨(x, ys), hM⟩, he, hw.rowTurn hk hr hgr⟩) (fun y => h y.1.1 y.1.2 y.2)
theorem TL.pcallRw0 {α : Type} {k g n c : Nat} {e : TypeId} {xs : List Int} {f : FuncId} {fn : Func} {es : List Operand} {ts : Array TypeId} {vs : List Value} (M : List Int → Prop) (hg : o.guard = none) (hd : o.dst = none)
    (ho : o.op = .call { callee := .value (.func f), args := es.toArray, argTypes := ts }) (hx : evs E es = some vs) (hf : P.funcs[f]? = some fn) (hn : (fn.name == "runtime.NumGoroutine") = false) (hb : fn.body.isNone = false)
    (hk : L[k]? = some (.row (.slice (some ⟨g, 0, none⟩) n c) e 1 n (uv xs))) (hc : ∀ w, Pm w0 L w → Rw e w g n c xs → Calls P f vs.toArray w fun en w' => ∃ ys, en = .returned (.tuple #[]) ∧ M ys ∧ Rw e w' g n c ys ∧ w.grownBy w' (some g))
    (h : ∀ ys, M ys → TL P N ops Q l E (Pm w0 (L.set k (.row (.slice (some ⟨g, 0, none⟩) n c) e 1 n (uv ys))))) : TL P N ops Q (o :: l) E (Pm w0 L) := fun a w ha hw =>
  wpList_plain hg fun K hK => by
    unfold Oper.wp
    rw [enters ha ho hx hf hn hb, Oper.upon_enter]
    refine (hc w hw (pm_rowAt hw hk)).mono ?_
    rintro e w' ⟨ys, rfl, h1, h2, h3⟩
    show K (a.put o.dst _) w'
    rw [hd]
    exact hK _ _ (h ys h1 _ _ (ha.put0 _) (hw.rowTurn hk h2 h3))
theorem bin_quoi {m n : Int} {xt : TypeId} (h0 : 0 ≤ m) (h1 : 0 < n) (hm : m < 9223372036854775808) (w : World) : (binOp .quo xt (.int .i64 m) (.int .i64 n)).run P w = .ok (.int .i64 (m / n)) w := by
  have hne : n ≠ 0 := by omega
  have hd : m / n ≤ m := Int.ediv_le_self _ h0
  have hd0 : 0 ≤ m / n := Int.ediv_nonneg h0 (by omega)
  have : IntKind.wrap .i64 (m.tdiv n) = m / n := by
    rw [Int.tdiv_eq_ediv_of_nonneg h0]
    simp only [IntKind.wrap_i64]; omega
  simp [binOp, go_sem, hne, this]
end
end Go.Proofs.Ytleckflmckbheaa

namespace Go.Proofs.Ytleckflmckbheaa
open Go.RowKit
section
variable {P : Program} {N : Fr} {Q : Exit → Act → World → Prop} {E : Env} {w0 : Base} {L : List Pc} {ops : Array Oper} {l : List Oper} {o : Oper}
theorem TL.rowclear {t e : TypeId} {s : Operand} {g off k n c m cc size : Nat} {z : Value} {xs zs : List Value} (hg : o.guard = none) (hd : o.dst = none) (ho : o.op = .call { callee := .builtin .clear, args := #[s], argTypes := #[t] }) (hs : ev E s = some (.slice (some ⟨g, off, none⟩) m cc))
    (ht : P.underlying t = some (.slice e)) (hz : ∀ w : World, (zeroValue e).run P w = .ok z w) (hzs : (Builtin.zeroCells z.cells m).toList = zs) (h1 : ∀ u ∈ zs, u.oneCell' = true) (hm : 0 < m)
    (hk : L[k]? = some (.row (.slice (some ⟨g, 0, none⟩) n c) e size n xs)) (hl : off + zs.length ≤ xs.length) {xs' : List Value} (hL : xs.take off ++ zs ++ xs.drop (off + zs.length) = xs')
    (h : TL P N ops Q l E (Pm w0 (L.set k (.row (.slice (some ⟨g, 0, none⟩) n c) e size n xs')))) : TL P N ops Q (o :: l) E (Pm w0 L) := fun a w ha hw =>
  wpList_plain hg fun K hK => by
    subst hL
    obtain ⟨cur, hcur, hfit, hown⟩ := row_put (hw.at_ hk) hl
    have hrun : (execOp a.eval o).run P w = .ok (.value (.tuple #[])) (w.setRow g (cur.toList.take off ++ zs ++ cur.toList.drop (off + zs.length)).toArray) := by
      unfold execOp; rw [ho]
      have hst := run_storeCells_at (P := P) g off e zs 0 cur w hcur (by simpa using hfit) h1
      simp only [Nat.add_zero] at hst
      obtain ⟨m', rfl⟩ : ∃ m', m = m' + 1 := ⟨m - 1, by omega⟩
      simp only [resolve, invoke, builtin, Sem.run_bind, Sem.run_pure, Result.andThen_ok, List.map_toArray, List.map_cons, List.map_nil, ha.eval hs]
      unfold Builtin.clear_
      simp [go_sem, run_underlying ht, hz]
      show ((Sem.run P (storeCells _ (Builtin.zeroCells z.cells (m' + 1)).toList) w).andThen _).andThen _ = _
      rw [hzs, hst, List.append_assoc]
      rfl
    unfold Oper.wp
    rw [hrun]
    show K (a.put o.dst _) _
    rw [hd]
    exact hK _ _ (h _ _ (ha.put0 _) (hw.turn hk (grown_setRow _ _) hown (fun g' hg' => .inl hg') (fun k o e => by cases e)))
theorem zeroCells_one (v : Value) (m : Nat) : (Builtin.zeroCells #[v] m).toList = List.replicate m v := by
  refine List.ext_getElem? fun i => ?_
  unfold Builtin.zeroCells
  simp [List.getElem?_replicate, Nat.mod_one]
  by_cases h : i < m
  · rw [if_pos h, List.getElem?_range h]; rfl
  · rw [if_neg h, List.getElem?_eq_none (by simpa using h)]; rfl
theorem at_rowO {t e : TypeId} (ht : P.underlying t = some (.slice e)) (hs : ∀ w : World, (sizeOf e).run P w = .ok 1 w) (g o n c i : Nat) (hi : i < n) {z : Int} (hz : z = (i : Int)) (w : World) :
    (Instr.indexAt t (.slice (some ⟨g, o, none⟩) n c) (.int .i64 z)).run P w = .ok (.pointer (some ⟨g, o + i, none⟩)) w := by
  have := at_el (P := P) ht hs (A := some ⟨g, o, none⟩) (b := g) (off := o) rfl n c i hi hz w
  rwa [Nat.mul_one] at this
theorem gives_tail {t : TypeId} {x lo : Operand} {I : World → Prop} {g n c k : Nat} {q : IntKind} {z : Int} (ho : o.op = .slice t x (some lo) none none) (hx : ev E x = some (.slice (some ⟨g, 0, none⟩) n c)) (hl : ev E lo = some (.int q z)) (hz : z = (k : Int)) (ht : P.underlying t = some (.slice (P.elem t))) (hs : ∀ w : World, (sizeOf (P.elem t)).run P w = .ok 1 w) (hk : k < c) (hn : k ≤ n) :
    Gives P N o E I (.slice (some ⟨g, k, none⟩) (n - k) (c - k)) := gives_sliceL ho hx hl fun w => by
  have h := cut_lo1 (P := P) ht hs (some ⟨g, 0, none⟩) n c k (k := q) hz hn w
  rw [if_neg (by omega), Option.map_some] at h
  have : (⟨g, 0, none⟩ : Addr).add k = ⟨g, k, none⟩ := by unfold Addr.add; split <;> simp_all
  rwa [this] at h
end
end Go.Proofs.Ytleckflmckbheaa

namespace Go.Proofs.Ytleckflmckbheaa
open Go.RowKit
section
variable {P : Program} {N : Fr} {Q : Exit → Act → World → Prop} {E : Env} {I : World → Prop} {ops : Array Oper} {l : List Oper} {o : Oper}
def Ent (P : Program) (N : Fr) (E : Env) (o : Oper) (f : FuncId) (us : Array Value) : Prop := ∀ a w, EnvOk N E a → (execOp a.eval o).run P w = .ok (.enter f us) w
theorem ent_val {x : Operand} {xs : List Operand} {ts : Array TypeId} {vs : List Value} {f : FuncId} {fn : Func} {first cap us : Array Value} (ho : o.op = .call { callee := .value x, args := xs.toArray, argTypes := ts }) (hv : ev E x = some (.func (.func f) first cap)) (hx : evs E xs = some vs)
    (hf : P.funcs[f]? = some fn) (hn : (fn.name == "runtime.NumGoroutine") = false) (hb : fn.body.isNone = false) (hu : first ++ vs.toArray ++ cap = us) : Ent P N E o f us := fun a w ha => by
  unfold execOp; rw [ho]
  have harr : xs.toArray.map a.eval = vs.toArray := by rw [List.map_toArray, ha.evals hx]
  subst hu
  simp only [resolve, harr, ha.eval hv, Deferred.ofValue]
  have hn' : ¬ fn.name = "runtime.NumGoroutine" := by simpa using hn
  have hb' : ¬ fn.body = none := by intro e; rw [e] at hb; simp at hb
  simp [invoke, callFunc, hf, hn', hb', go_sem]
theorem TL.callE {α : Type} {d : Nat} {f : FuncId} {us : Array Value} {r : α → Value} {I' : α → World → Prop} (hg : o.guard = none) (hd : o.dst = some d) (hN : Nat.blt d N.n = true) (he : Ent P N E o f us)
    (hc : ∀ w, I w → Calls P f us w fun e w' => ∃ x, e = .returned (r x) ∧ I' x w') (h : ∀ x, TL P N ops Q l ((d, r x) :: E) (I' x)) : TL P N ops Q (o :: l) E I := fun a w ha hw =>
  wpList_plain hg fun K hK => by
    unfold Oper.wp
    rw [he a w ha, Oper.upon_enter]
    refine (hc w hw).mono ?_
    rintro e w' ⟨x, rfl, hI⟩
    show K (a.put o.dst (r x)) w'
    rw [hd]
    exact hK _ _ (h x _ _ (ha.put d _ (by simpa [Nat.blt_eq] using hN)) hI)
theorem TL.callE1 {w0 : Base} {L : List Pc} {d : Nat} {f : FuncId} {us : Array Value} {r : Value} (hg : o.guard = none) (hd : o.dst = some d) (hN : Nat.blt d N.n = true) (he : Ent P N E o f us)
    (hc : ∀ w, Pm w0 L w → Calls P f us w fun e w' => e = .returned r ∧ Below w.heap.size w w') (h : TL P N ops Q l ((d, r) :: E) (Pm w0 L)) : TL P N ops Q (o :: l) E (Pm w0 L) :=
  TL.callE (α := Unit) (r := fun _ => r) (I' := fun _ => Pm w0 L) hg hd hN he (fun w hw => (hc w hw).mono fun e w' ⟨he, hb⟩ => ⟨(), he, hw.below hb⟩) (fun _ => h)
theorem TL.callEPm {w0 : Base} {α : Type} {L : List Pc} {d : Nat} {f : FuncId} {us : Array Value} (r : α → Value) (Ln : α → List Pc) (hg : o.guard = none) (hd : o.dst = some d) (hN : Nat.blt d N.n = true) (he : Ent P N E o f us)
    (hc : ∀ w, Pm w0 L w → Calls P f us w fun en w' => ∃ x, en = .returned (r x) ∧ Pm w (Ln x) w')
    (h : ∀ x, TL P N ops Q l ((d, r x) :: E) (Pm w0 (Ln x ++ L))) (hna : ∀ x, noAbs (Ln x) = true := by intro x; rfl) : TL P N ops Q (o :: l) E (Pm w0 L) :=
  TL.callE (α := α) (r := r) (I' := fun x => Pm w0 (Ln x ++ L)) hg hd hN he (fun w hw => (hc w hw).mono fun en w' ⟨x, he, h2⟩ => ⟨x, he, hw.addAll h2 (hna x)⟩) h
theorem gives_makeFunc {f : Fn} {xs ys : List Operand} {us vs : List Value} (ho : o.op = .makeFunc f xs.toArray ys.toArray) (hx : evs E xs = some us) (hy : evs E ys = some vs) : Gives P N o E I (.func f us.toArray vs.toArray) := fun a w ha _ => by
  unfold execOp; rw [ho]
  have h1 : xs.toArray.map a.eval = us.toArray := by rw [List.map_toArray, ha.evals hx]
  have h2 : ys.toArray.map a.eval = vs.toArray := by rw [List.map_toArray, ha.evals hy]
  simp [h1, h2, Instr.makeFunc, go_sem]
end
section
variable {P : Program} {N : Fr} {Q : Exit → Act → World → Prop} {E : Env} {w0 : Base} {L : List Pc} {ops : Array Oper} {l : List Oper} {o : Oper}
theorem TL.shift {d k g n c cc i j size bytes : Nat} {t e : TypeId} {s x : Operand} {A : Option Addr} {xs : List Value} (hg : o.guard = none) (hd : o.dst = some d) (hN : Nat.blt d N.n = true)
    (ho : o.op = .call { callee := .builtin .append, args := #[s, x], argTypes := #[t, t] }) (hE : Elem P t e size bytes) (hs : ev E s = some (.slice (some ⟨g, 0, none⟩) i c)) (hx : ev E x = some (.slice A (n - j) cc))
    (hk : L[k]? = some (.row (.slice (some ⟨g, 0, none⟩) n c) e size n xs)) (hA : j < n → A = some ⟨g, j * size, none⟩) (hA0 : A ≠ none) (hij : i ≤ j) (hj : j ≤ n) (hnc : n ≤ c) (h1 : ∀ u ∈ xs, u.oneCell' = true) {xs' : List Value}
    (hL : xs.take (i * size) ++ xs.drop (j * size) ++ xs.drop (i * size + (xs.drop (j * size)).length) = xs') {M : Nat} (hM : M = i + (n - j))
    (h : TL P N ops Q l ((d, .slice (some ⟨g, 0, none⟩) M c) :: E) (Pm w0 (L.set k (.row (.slice (some ⟨g, 0, none⟩) n c) e size n xs')))) : TL P N ops Q (o :: l) E (Pm w0 L) := by
  subst hL hM
  refine TL.run (α := Unit) (r := fun _ => .slice (some ⟨g, 0, none⟩) (i + (n - j)) c) (I' := fun _ => Pm w0 (L.set k (.row (.slice (some ⟨g, 0, none⟩) n c) e size n (xs.take (i * size) ++ xs.drop (j * size) ++ xs.drop (i * size + (xs.drop (j * size)).length))))) hg hd hN (fun a w ha hw => ?_) (fun _ => h)
  obtain ⟨ti, z, hi, hz, hsz, hby, hzs⟩ := hE.info
  have hrow := hw.at_ hk
  have hlen : xs.length = n * size := hrow.1
  have hdl : (xs.drop (j * size)).length = (n - j) * size := by rw [List.length_drop, hlen, Nat.sub_mul]
  have hfit : i * size + (xs.drop (j * size)).length ≤ xs.length := by
    rw [hdl, hlen, ← Nat.add_mul]
    exact Nat.mul_le_mul_right _ (by omega)
  obtain ⟨cur, hcur, hfc, hown⟩ := row_put hrow hfit
  obtain ⟨ad, rfl⟩ : ∃ ad, A = some ad := by
    cases A with
    | none => exact absurd rfl hA0
    | some ad => exact ⟨ad, rfl⟩
  refine ⟨(), w.setRow g (cur.toList.take (i * size) ++ xs.drop (j * size) ++ cur.toList.drop (i * size + (xs.drop (j * size)).length)).toArray, ?_, hw.turn hk (grown_setRow _ _) hown (fun g' hg' => .inl hg') (fun k o e => by cases e)⟩
  unfold execOp; rw [ho]
  have hrun := run_append_room (P := P) w t o.type e ti hE.und hi g i c cur hcur ad (n - j) cc (xs.drop (j * size)) (by rw [hdl, hsz]) (fun q u hu => by
    have hjn : j < n := by
      rcases Nat.lt_or_ge j n with hh | hh
      · exact hh
      · have : (xs.drop (j * size)).length = 0 := by rw [hdl, Nat.sub_eq_zero_of_le hh, Nat.zero_mul]
        rw [List.eq_nil_of_length_eq_zero this] at hu
        cases hu
    have := hA hjn
    cases this
    rw [List.getElem?_drop] at hu
    have h3 := pm_row hw hk hu
    rw [← h3]
    congr 1
    unfold Addr.add; split <;> simp_all) (fun u hu => h1 u (List.mem_of_mem_drop hu)) (by omega) (by rw [hsz]; exact hfc)
  rw [hsz] at hrun
  simp only [resolve, invoke, builtin, Sem.run_bind, Sem.run_pure, Result.andThen_ok, List.map_toArray, List.map_cons, List.map_nil, ha.eval hs, ha.eval hx, hrun]
theorem gives_slice3 {t : TypeId} {size : Nat} {x lo hi mx : Operand} {A : Option Addr} {n c i j m : Nat} {I : World → Prop} (ho : o.op = .slice t x (some lo) (some hi) (some mx)) (hx : ev E x = some (.slice A n c)) (hl : ev E lo = some (.int .i64 ((i : Nat) : Int))) (hh : ev E hi = some (.int .i64 ((j : Nat) : Int))) (hm : ev E mx = some (.int .i64 ((m : Nat) : Int)))
    (ht : P.underlying t = some (.slice (P.elem t))) (hs : ∀ w : World, (sizeOf (P.elem t)).run P w = .ok size w) (h1 : i ≤ j) (h2 : j ≤ m) (h3 : m ≤ c) : Gives P N o E I (.slice (if m = i then A else A.map (·.add (i * size))) (j - i) (m - i)) := fun a w ha _ => by
  unfold execOp; rw [ho]
  simp only [Option.map_some, ha.eval hx, ha.eval hl, ha.eval hh, ha.eval hm, run_sliceAt_slice w t _ _ _ _ ht, run_slice_lhm w t A n c ht .i64 .i64 .i64 ((i : Nat) : Int) ((j : Nat) : Int) ((m : Nat) : Int) (by omega) (by omega) (by omega) (by omega), hs, Result.andThen_ok, Sem.run_bind, Sem.run_pure, sliced, Int.toNat_natCast]
end
end Go.Proofs.Ytleckflmckbheaa

namespace Go.Proofs.Ytleckflmckbheaa
open Go.RowKit
theorem Pm.permute {w0 : Base} {w : World} {L L' : List Pc} (h : Pm w0 L w) (hp : L.Perm L') : Pm w0 L' w :=
  ⟨h.bel, fun q hq => h.own q (hp.mem_iff.2 hq), (hp.pairwise_iff (fun {p q} hpq g hg he => hpq g he hg)).1 h.apart, h.oth, h.low⟩
theorem erase_perm {α : Type} {ss : List α} {k : Nat} {s : α} (h : ss[k]? = some s) : ss.Perm (s :: ss.eraseIdx k) := by
  obtain ⟨hlt, rfl⟩ := List.getElem?_eq_some_iff.1 h
  have e : ss = ss.take k ++ ss[k] :: ss.drop (k + 1) := by rw [List.getElem_cons_drop, List.take_append_drop]
  rw [List.eraseIdx_eq_take_drop_succ]
  exact (List.Perm.of_eq e).trans List.perm_middle
theorem set_perm {α : Type} {ss : List α} {k : Nat} (h : k < ss.length) (s : α) : (ss.set k s).Perm (s :: ss.eraseIdx k) := by
  rw [List.set_eq_take_append_cons_drop, if_pos h, List.eraseIdx_eq_take_drop_succ]
  exact List.perm_middle
structure Sg (α : Type) where
  A : Option Addr
  c : Nat
  l : List α
def Sg.val {α : Type} (s : Sg α) : Value := .slice s.A s.l.length s.c
def Sg.nil (α : Type) : Sg α := ⟨none, 0, []⟩
def Sg.pc {α : Type} (e : TypeId) (size : Nat) (enc : List α → List Value) (s : Sg α) : Pc := .row (.slice s.A s.l.length s.c) e size s.l.length (enc s.l)
def segG {α : Type} (e : TypeId) (size : Nat) (enc : List α → List Value) (ss : List (Sg α)) : List Pc := ss.map (Sg.pc e size enc)
section
variable {α : Type} {e : TypeId} {size : Nat} {enc : List α → List Value} {w0 : Base} {w : World} {P : List Pc} {ss : List (Sg α)} {s : Sg α} {k : Nat}
theorem segG_noAbs (ss : List (Sg α)) : noAbs (segG e size enc ss) = true := by
  simp only [noAbs, segG, List.all_map, List.all_eq_true]
  intro s _
  rfl
theorem segG_get (h : ss[k]? = some s) : (segG e size enc ss)[k]? = some (s.pc e size enc) := by
  unfold segG
  rw [List.getElem?_map, h]
  rfl
theorem Pm.segOut (h : Pm w0 (P ++ segG e size enc ss) w) (hk : ss[k]? = some s) : Pm w0 ((.row (.slice s.A s.l.length s.c) e size s.l.length (enc s.l) :: P) ++ segG e size enc (ss.eraseIdx k)) w := by
  refine h.permute ?_
  have h1 : (segG e size enc ss).Perm (segG e size enc (s :: ss.eraseIdx k)) := (erase_perm hk).map _
  exact (List.Perm.append_left P h1).trans List.perm_middle
theorem Pm.segIn {s' : Sg α} (h : Pm w0 ((.row (.slice s'.A s'.l.length s'.c) e size s'.l.length (enc s'.l) :: P) ++ segG e size enc (ss.eraseIdx k)) w) (hk : k < ss.length) : Pm w0 (P ++ segG e size enc (ss.set k s')) w := by
  refine h.permute ?_
  have h1 : (segG e size enc (ss.set k s')).Perm (segG e size enc (s' :: ss.eraseIdx k)) := (set_perm hk s').map _
  exact List.perm_middle.symm.trans (List.Perm.append_left P h1.symm)
theorem Pm.segNil (h : Pm w0 (P ++ segG e size enc ss) w) (hn : enc [] = []) : Pm w0 (P ++ segG e size enc (ss ++ [Sg.nil α])) w := by
  refine (h.nilrow e size).permute ?_
  have h1 : segG e size enc (ss ++ [Sg.nil α]) = segG e size enc ss ++ [.row (.slice none 0 0) e size 0 []] := by
    unfold segG
    rw [List.map_append]
    show _ ++ [Pc.row (.slice none 0 0) e size 0 (enc [])] = _
    rw [hn]
  rw [h1, ← List.append_assoc]
  exact (List.perm_append_singleton _ _).symm
theorem Pm.head {w0 : Base} {w : World} {P Q : List Pc} (h : Pm w0 (P ++ Q) w) : Pm w0 P w := h.sel (List.sublist_append_left _ _)
theorem rowA {w0 : Base} {L : List Pc} {A : Option Addr} {n c : Nat} {xs : List Value} {e : TypeId} {size : Nat} (h : Pm w0 L w) (hk : L[k]? = some (.row (.slice A n c) e size n xs)) (hn : 0 < n) : ∃ g, A = some ⟨g, 0, none⟩ := by
  rcases (h.at_ hk).2 with ⟨e1, h2⟩ | ⟨g, cap, cur, a, r⟩
  · cases e1; omega
  · cases a; exact ⟨g, rfl⟩
theorem vals_set (ss : List (Sg α)) (k : Nat) (s : Sg α) (hk : k < ss.length) : (ss.map Sg.val).take k ++ [s.val] ++ (ss.map Sg.val).drop (k + 1) = (ss.set k s).map Sg.val := by
  rw [List.map_set, List.set_eq_take_append_cons_drop, if_pos (by simpa using hk)]
  simp
end
end Go.Proofs.Ytleckflmckbheaa

namespace Go.Proofs.Ytleckflmckbheaa
def oth (f : Fc) (x : Int) : Int := if f.a = x then f.b else f.a
def Trl (F : List Fc) : Int → Int → List Fc → Int → Prop
  | x, _, [], y => x = y
  | x, last, f :: p, y => f ∈ F ∧ f.id ≠ last ∧ (f.a = x ∨ f.b = x) ∧ Trl F (oth f x) f.id p y
structure Frs (F : List Fc) : Prop where
  ids : ∀ f ∈ F, ∀ g ∈ F, f.id = g.id → f = g
  ne : ∀ f ∈ F, f.a ≠ f.b
  pos : ∀ f ∈ F, 0 ≤ f.id
  bridge : ∀ f ∈ F, ¬ Conn (F.filter fun g => decide (g ≠ f)) f.a f.b
theorem oth_ends {f : Fc} {x : Int} (h : f.a = x ∨ f.b = x) : (x = f.a ∧ oth f x = f.b) ∨ (x = f.b ∧ oth f x = f.a) := by
  unfold oth
  by_cases e : f.a = x
  · rw [if_pos e]; exact .inl ⟨e.symm, rfl⟩
  · rw [if_neg e]; exact .inr ⟨(h.resolve_left e).symm, rfl⟩
theorem oth_oth {f : Fc} {x : Int} (hne : f.a ≠ f.b) (h : f.a = x ∨ f.b = x) : oth f (oth f x) = x ∧ (f.a = oth f x ∨ f.b = oth f x) := by
  rcases oth_ends h with ⟨e1, e2⟩ | ⟨e1, e2⟩
  · rw [e2]
    unfold oth
    rw [if_neg hne]
    exact ⟨e1.symm, .inr rfl⟩
  · rw [e2]
    unfold oth
    rw [if_pos rfl]
    exact ⟨e1.symm, .inl rfl⟩
theorem Trl.any {F : List Fc} {x l y : Int} {p : List Fc} (h : Trl F x l p y) (hF : ∀ f ∈ F, 0 ≤ f.id) : Trl F x (-1) p y := by
  cases p with
  | nil => exact h
  | cons f p =>
    obtain ⟨h1, h2, h3, h4⟩ := h
    exact ⟨h1, by have := hF f h1; omega, h3, h4⟩
theorem Trl.mem {F : List Fc} : ∀ {p : List Fc} {x l y : Int}, Trl F x l p y → ∀ f ∈ p, f ∈ F
  | [], _, _, _, _, f, hf => absurd hf List.not_mem_nil
  | g :: p, x, l, y, ⟨h1, _, _, h4⟩, f, hf => by
    rcases List.mem_cons.1 hf with rfl | hf
    · exact h1
    · exact Trl.mem h4 f hf
theorem Trl.conn {F G : List Fc} : ∀ {p : List Fc} {x l y : Int}, Trl F x l p y → (∀ f ∈ p, f ∈ G) → Conn G x y
  | [], x, l, y, h, _ => by cases h; exact .refl _
  | f :: p, x, l, y, ⟨h1, _, h3, h4⟩, hG => by
    have hf := hG f List.mem_cons_self
    have c1 : Conn G x (oth f x) := by
      rcases oth_ends h3 with ⟨e1, e2⟩ | ⟨e1, e2⟩
      · rw [e2, e1]; exact .fact hf
      · rw [e2, e1]; exact .symm (.fact hf)
    exact c1.trans (Trl.conn h4 fun g hg => hG g (List.mem_cons_of_mem _ hg))
theorem Trl.part {F : List Fc} (f : Fc) : ∀ {p : List Fc} {x l y : Int}, Trl F x l p y → f ∈ p → ∃ q r z l', p = q ++ f :: r ∧ f ∉ q ∧ Trl F x l q z ∧ Trl F z l' (f :: r) y ∧ (q = [] → l' = l)
  | [], _, _, _, _, hf => absurd hf List.not_mem_nil
  | g :: p, x, l, y, h, hf => by
    by_cases e : g = f
    · subst e
      exact ⟨[], p, x, l, rfl, List.not_mem_nil, rfl, h, fun _ => rfl⟩
    · obtain ⟨h1, h2, h3, h4⟩ := h
      obtain ⟨q, r, z, l', e1, e2, e3, e4, e5⟩ := Trl.part f h4 ((List.mem_cons.1 hf).resolve_left fun hh => e hh.symm)
      refine ⟨g :: q, r, z, l', by rw [e1]; rfl, ?_, ⟨h1, h2, h3, e3⟩, e4, fun hq => by cases hq⟩
      intro hm
      rcases List.mem_cons.1 hm with e6 | e6
      · exact e e6.symm
      · exact e2 e6
section
variable {F : List Fc} (hF : Frs F)
include hF
theorem Frs.need {f : Fc} (hf : f ∈ F) {x l y : Int} {p : List Fc} (h : Trl F x l p y) (hx : f.a = x ∨ f.b = x) (hy : y = oth f x) : f ∈ p := by
  refine Decidable.byContradiction fun hn => hF.bridge f hf ?_
  have c := h.conn (G := F.filter fun g => decide (g ≠ f)) fun g hg => List.mem_filter.2 ⟨h.mem g hg, decide_eq_true fun e => hn (e ▸ hg)⟩
  rcases oth_ends hx with ⟨e1, e2⟩ | ⟨e1, e2⟩
  · rw [hy, e2, e1] at c; exact c
  · rw [hy, e2, e1] at c; exact c.symm
theorem Frs.round : ∀ (n : Nat) (p : List Fc) (x l : Int), p.length ≤ n → Trl F x l p x → p = []
  | _, [], _, _, _, _ => rfl
  | 0, g :: p, x, l, hn, _ => absurd hn (by simp)
  | n + 1, g :: p, x, l, hn, ⟨h1, h2, h3, h4⟩ => by
    exfalso
    obtain ⟨h5, h6⟩ := oth_oth (hF.ne g h1) h3
    have hm := hF.need h1 h4 h6 h5.symm
    obtain ⟨q, r, z, l', e1, e2, e3, e4, e5⟩ := Trl.part g h4 hm
    obtain ⟨_, f2, f3, _⟩ := e4
    have hz : z = x ∨ z = oth g x := by
      rcases oth_ends h3 with ⟨a1, a2⟩ | ⟨a1, a2⟩
      · rcases f3 with f3 | f3
        · exact .inl (f3.symm.trans a1.symm)
        · exact .inr (f3.symm.trans a2.symm)
      · rcases f3 with f3 | f3
        · exact .inr (f3.symm.trans a2.symm)
        · exact .inl (f3.symm.trans a1.symm)
    rcases hz with rfl | rfl
    · exact e2 (hF.need h1 e3 h6 h5.symm)
    · have hq : q.length ≤ n := by
        have : (g :: p).length = q.length + r.length + 2 := by rw [e1]; simp; omega
        omega
      have := Frs.round n q _ _ hq e3
      exact f2 (e5 this).symm
theorem Frs.nodup : ∀ (p : List Fc) (x l y : Int), Trl F x l p y → p.Nodup
  | [], _, _, _, _ => List.nodup_nil
  | g :: p, x, l, y, ⟨h1, h2, h3, h4⟩ => by
    refine List.nodup_cons.2 ⟨fun hm => ?_, Frs.nodup p _ _ _ h4⟩
    obtain ⟨h5, h6⟩ := oth_oth (hF.ne g h1) h3
    obtain ⟨q, r, z, l', e1, e2, e3, e4, e5⟩ := Trl.part g h4 hm
    obtain ⟨_, f2, f3, _⟩ := e4
    have hz : z = x ∨ z = oth g x := by
      rcases oth_ends h3 with ⟨a1, a2⟩ | ⟨a1, a2⟩
      · rcases f3 with f3 | f3
        · exact .inl (f3.symm.trans a1.symm)
        · exact .inr (f3.symm.trans a2.symm)
      · rcases f3 with f3 | f3
        · exact .inr (f3.symm.trans a2.symm)
        · exact .inl (f3.symm.trans a1.symm)
    rcases hz with rfl | rfl
    · exact e2 (hF.need h1 e3 h6 h5.symm)
    · exact f2 (e5 (hF.round _ q _ _ (Nat.le_refl _) e3)).symm
theorem Frs.only : ∀ (p q : List Fc) (x l m y : Int), Trl F x l p y → Trl F x m q y → p = q
  | [], q, x, l, m, y, hp, hq => by cases hp; exact (hF.round _ q _ _ (Nat.le_refl _) hq).symm
  | f :: p, [], x, l, m, y, hp, hq => by cases hq; exact hF.round _ _ _ _ (Nat.le_refl _) hp
  | f :: p, g :: q, x, l, m, y, hp, hq => by
    by_cases e : f = g
    · subst e
      obtain ⟨_, _, _, h4⟩ := hp
      obtain ⟨_, _, _, k4⟩ := hq
      rw [Frs.only p q _ _ _ _ h4 k4]
    · exfalso
      have hnd := hF.nodup _ _ _ _ hp
      obtain ⟨h1, h2, h3, h4⟩ := hp
      have hfp : f ∉ p := (List.nodup_cons.1 hnd).1
      have c1 : Conn (F.filter fun g => decide (g ≠ f)) (oth f x) y := h4.conn fun k hk => List.mem_filter.2 ⟨h4.mem k hk, decide_eq_true fun e2 => hfp (e2 ▸ hk)⟩
      have key : ∀ z, Conn (F.filter fun g => decide (g ≠ f)) x z → z = y → False := fun z c e2 => by
        subst e2
        refine hF.bridge f h1 ?_
        rcases oth_ends h3 with ⟨e3, e4⟩ | ⟨e3, e4⟩
        · rw [e4] at c1; rw [e3] at c; exact c.trans c1.symm
        · rw [e4] at c1; rw [e3] at c; exact c1.trans c.symm
      by_cases hm : f ∈ g :: q
      · obtain ⟨q1, r, z, l', e1, e2, e3, e4, e5⟩ := Trl.part f hq hm
        obtain ⟨_, f2, f3, _⟩ := e4
        have hz : z = x ∨ z = oth f x := by
          rcases oth_ends h3 with ⟨a1, a2⟩ | ⟨a1, a2⟩
          · rcases f3 with f3 | f3
            · exact .inl (f3.symm.trans a1.symm)
            · exact .inr (f3.symm.trans a2.symm)
          · rcases f3 with f3 | f3
            · exact .inr (f3.symm.trans a2.symm)
            · exact .inl (f3.symm.trans a1.symm)
        rcases hz with rfl | rfl
        · have := hF.round _ q1 _ _ (Nat.le_refl _) e3
          subst this
          cases e1
          exact e rfl
        · exact e2 (hF.need h1 e3 h3 rfl)
      · exact key y (Trl.conn hq fun k hk => List.mem_filter.2 ⟨Trl.mem hq k hk, decide_eq_true fun e2 => hm (e2 ▸ hk)⟩) rfl
theorem Frs.front {f : Fc} (hf : f ∈ F) {x y : Int} (hx : f.a = x ∨ f.b = x) {p : List Fc} (h : Trl F (oth f x) (-1) p y) : ∃ q, Trl F x (-1) q y := by
  obtain ⟨h5, h6⟩ := oth_oth (hF.ne f hf) hx
  cases p with
  | nil => exact ⟨[f], hf, by have := hF.pos f hf; omega, hx, h⟩
  | cons g p =>
    by_cases e : g = f
    · subst e
      obtain ⟨_, _, _, h4⟩ := h
      rw [h5] at h4
      exact ⟨p, h4.any hF.pos⟩
    · obtain ⟨h1, h2, h3, h4⟩ := h
      exact ⟨f :: g :: p, hf, by have := hF.pos f hf; omega, hx, h1, fun e2 => e (hF.ids g h1 f hf e2), h3, h4⟩
theorem Frs.way {x y : Int} (h : Conn F x y) : ∃ p, Trl F x (-1) p y := by
  have key : ∀ z, (∃ p, Trl F x (-1) p z) ↔ ∃ p, Trl F y (-1) p z := by
    induction h with
    | refl => exact fun z => Iff.rfl
    | fact hf =>
      rename_i f
      have e1 : oth f f.a = f.b := by unfold oth; rw [if_pos rfl]
      have e2 : oth f f.b = f.a := by unfold oth; rw [if_neg (hF.ne f hf)]
      exact fun z => ⟨fun ⟨p, hp⟩ => hF.front hf (.inr rfl) (by rw [e2]; exact hp), fun ⟨p, hp⟩ => hF.front hf (.inl rfl) (by rw [e1]; exact hp)⟩
    | symm _ ih => exact fun z => (ih z).symm
    | trans _ _ ih1 ih2 => exact fun z => (ih1 z).trans (ih2 z)
  exact (key y).2 ⟨[], rfl⟩
end
theorem nodup_len {α : Type} [DecidableEq α] : ∀ {p F : List α}, p.Nodup → (∀ f ∈ p, f ∈ F) → p.length ≤ F.length
  | [], _, _, _ => Nat.zero_le _
  | a :: p, F, h, hs => by
    obtain ⟨h1, h2⟩ := List.nodup_cons.1 h
    have := nodup_len (F := F.erase a) h2 fun f hf => (List.mem_erase_of_ne (fun e => h1 (by rw [← e]; exact hf))).2 (hs f (List.mem_cons_of_mem _ hf))
    rw [List.length_erase_of_mem (hs a List.mem_cons_self)] at this
    have h3 : 0 < F.length := List.length_pos_of_mem (hs a List.mem_cons_self)
    rw [List.length_cons]
    omega
end Go.Proofs.Ytleckflmckbheaa

namespace Go.Proofs.Ytleckflmckbheaa
theorem ofInt_i64 (a : Nat) (ha : a < 9223372036854775808) : (BitVec.ofInt 64 (a : Int)).toNat = a := by
  rw [BitVec.ofInt_natCast, BitVec.toNat_ofNat]; exact Nat.mod_eq_of_lt (by omega)
theorem i64_and_nat (a b : Nat) (ha : a < 9223372036854775808) (hb : b < 9223372036854775808) : bits .and .i64 (a : Int) (b : Int) = ((a &&& b : Nat) : Int) := by
  have hx : a &&& b < 2 ^ 63 := Nat.and_lt_two_pow _ (by omega)
  show IntKind.i64.wrap ((BitVec.ofInt 64 (a : Int) &&& BitVec.ofInt 64 (b : Int)).toNat : Int) = _
  rw [BitVec.toNat_and, ofInt_i64 a ha, ofInt_i64 b hb, IntKind.wrap_i64]
  omega
theorem i64_or_nat (a b : Nat) (ha : a < 9223372036854775808) (hb : b < 9223372036854775808) : bits .or .i64 (a : Int) (b : Int) = ((a ||| b : Nat) : Int) := by
  have hx : a ||| b < 2 ^ 63 := Nat.or_lt_two_pow (by omega) (by omega)
  show IntKind.i64.wrap ((BitVec.ofInt 64 (a : Int) ||| BitVec.ofInt 64 (b : Int)).toNat : Int) = _
  rw [BitVec.toNat_or, ofInt_i64 a ha, ofInt_i64 b hb, IntKind.wrap_i64]
  omega
theorem and_65535 (m : Int) (h0 : 0 ≤ m) (h1 : m ≤ 9223372036854775807) : bits .and .i64 m 65535 = m % 65536 := by
  obtain ⟨n, rfl⟩ := Int.eq_ofNat_of_zero_le h0
  have h := i64_and_nat n 65535 (by omega) (by omega)
  have e : n &&& 65535 = n % 65536 := Nat.and_two_pow_sub_one_eq_mod n 16
  show bits .and .i64 (n : Int) ((65535 : Nat) : Int) = _
  rw [h, e]; omega
theorem and_1 (m : Int) (h0 : 0 ≤ m) (h1 : m ≤ 9223372036854775807) : bits .and .i64 m 1 = m % 2 := by
  obtain ⟨n, rfl⟩ := Int.eq_ofNat_of_zero_le h0
  have h := i64_and_nat n 1 (by omega) (by omega)
  have e := Nat.and_one_is_mod n
  show bits .and .i64 (n : Int) ((1 : Nat) : Int) = _
  rw [h, e]; omega
theorem or_256 (m x : Int) (h0 : 0 ≤ m) (h1 : m ≤ 281474976710655) (hx : 0 ≤ x) (hx1 : x ≤ 255) : bits .or .i64 (m * 256) x = m * 256 + x := by
  obtain ⟨a, rfl⟩ := Int.eq_ofNat_of_zero_le h0
  obtain ⟨b, rfl⟩ := Int.eq_ofNat_of_zero_le hx
  have h := i64_or_nat (a * 256) b (by omega) (by omega)
  have e : 2 ^ 8 * a + b = 2 ^ 8 * a ||| b := Nat.two_pow_add_eq_or_of_lt (i := 8) (by omega) a
  show bits .or .i64 (((a * 256 : Nat) : Int)) (b : Int) = _
  rw [h, show a * 256 = 2 ^ 8 * a from by omega, ← e]; omega
end Go.Proofs.Ytleckflmckbheaa

namespace Go.Proofs.Ytleckflmckbheaa
open Go.RowKit
def cmp3 (x y : Int) : Int := if x < y then -1 else if y < x then 1 else 0
theorem cmp3_neg {x y : Int} : cmp3 x y < 0 ↔ x < y := by unfold cmp3; split <;> (try split) <;> omega
theorem cmp3_zero {x y : Int} : cmp3 x y = 0 ↔ x = y := by unfold cmp3; split <;> (try split) <;> omega
def Asc (l : List Fc) : Prop := ∀ (p q : Nat) (x y : Fc), p < q → l[p]? = some x → l[q]? = some y → x.id < y.id
theorem validF.asc {l : List Fc} (h : validF l) : Asc l := by
  intro p q x y hpq hx hy
  obtain ⟨k, rfl⟩ : ∃ k, q = p + 1 + k := ⟨q - (p + 1), by omega⟩
  induction k generalizing y with
  | zero =>
    have hlt : p + 1 < l.length := (List.getElem?_eq_some_iff.1 hy).1
    exact (h.2 (p + 1) hlt y hy).2.2 x (by omega) hx
  | succ k ih =>
    have hlt : p + 1 + (k + 1) < l.length := (List.getElem?_eq_some_iff.1 hy).1
    obtain ⟨z, hz⟩ : ∃ z, l[p + 1 + k]? = some z := ⟨_, List.getElem?_eq_getElem (by omega)⟩
    have h1 := ih z (by omega) hz
    have h2 := (h.2 _ hlt y hy).2.2 z (by omega) (by rw [show p + 1 + (k + 1) - 1 = p + 1 + k by omega]; exact hz)
    omega
def Lb (l : List Fc) (id : Int) (i : Nat) : Prop := i ≤ l.length ∧ ∀ (p : Nat) (x : Fc), l[p]? = some x → (p < i ↔ x.id < id)
def FindOk (l : List Fc) (id : Int) (y : Nat × Bool) : Prop := Lb l id y.1 ∧ (y.2 = true ↔ ∃ x, l[y.1]? = some x ∧ x.id = id)
def ixF (l : List Fc) (id : Int) : Option Nat := l.findIdx? fun f => decide (f.id = id)
theorem FindOk.some {l : List Fc} {id : Int} {i : Nat} (h : FindOk l id (i, true)) (ha : Asc l) : ixF l id = some i ∧ ∃ x, l[i]? = some x ∧ x.id = id := by
  obtain ⟨x, hx, e⟩ := h.2.1 rfl
  refine ⟨?_, x, hx, e⟩
  obtain ⟨hlt, e2⟩ := List.getElem?_eq_some_iff.1 hx
  unfold ixF
  rw [List.findIdx?_eq_some_iff_getElem]
  refine ⟨hlt, by rw [e2]; exact decide_eq_true e, fun j hj hjd => ?_⟩
  have h3 := of_decide_eq_true hjd
  have := ha j i _ x hj (List.getElem?_eq_getElem (by omega)) hx
  omega
theorem FindOk.none {l : List Fc} {id : Int} {i : Nat} (h : FindOk l id (i, false)) (ha : Asc l) : ixF l id = Option.none := by
  unfold ixF
  rw [List.findIdx?_eq_none_iff]
  intro x hx
  refine decide_eq_false fun e => ?_
  obtain ⟨p, hp⟩ := List.getElem?_of_mem hx
  have h1 := h.1.2 p x hp
  dsimp only at h1
  have hpi : i ≤ p := Nat.le_of_not_lt fun hh => by have := h1.1 hh; omega
  have hlt : p < l.length := (List.getElem?_eq_some_iff.1 hp).1
  obtain ⟨y, hy⟩ : ∃ y, l[i]? = Option.some y := ⟨_, List.getElem?_eq_getElem (by omega)⟩
  have h2 := h.1.2 i y hy
  dsimp only at h2
  have h3 : ¬ y.id < id := fun hh => by have := h2.2 hh; omega
  have e2 : y.id ≠ id := fun e2 => by have := h.2.2 ⟨y, hy, e2⟩; simp at this
  rcases Nat.lt_or_ge i p with hh | hh
  · have := ha i p y x hh hy hp
    omega
  · obtain rfl : i = p := by omega
    rw [hp] at hy
    cases hy
    exact e2 e
noncomputable def remP (l : List Fc) (id : Int) : List Fc × Int := if validF l then (match ixF l id with | some i => (l.eraseIdx i, 0) | Option.none => ([], 8)) else ([], 1)
theorem fcs_take (l : List Fc) (i : Nat) : (fcs l).take (i * 3) = fcs (l.take i) := by
  induction l generalizing i with
  | nil => simp [fcs]
  | cons f l ih =>
    cases i with
    | zero => rw [Nat.zero_mul]; rfl
    | succ i =>
      show (f.cells ++ fcs l).take ((i + 1) * 3) = f.cells ++ fcs (l.take i)
      rw [List.take_append, List.take_of_length_le (by rw [fc_cells_len]; omega), fc_cells_len, show (i + 1) * 3 - 3 = i * 3 by omega, ih]
theorem fcs_drop (l : List Fc) (i : Nat) : (fcs l).drop (i * 3) = fcs (l.drop i) := by
  induction l generalizing i with
  | nil => simp [fcs]
  | cons f l ih =>
    cases i with
    | zero => rw [Nat.zero_mul]; rfl
    | succ i =>
      show (f.cells ++ fcs l).drop ((i + 1) * 3) = fcs (l.drop i)
      rw [List.drop_append, List.drop_of_length_le (by rw [fc_cells_len]; omega), fc_cells_len, show (i + 1) * 3 - 3 = i * 3 by omega, ih, List.nil_append]
def chkF : List Fc → Int → Option Int
  | [], x => some x
  | f :: l, x => if f.a = f.b ∨ (f.a ≠ x ∧ f.b ≠ x) then Option.none else chkF l (oth f x)
theorem xor_back {a b : Int} (ha : 0 ≤ a ∧ a ≤ 4294967295) (hb : 0 ≤ b ∧ b ≤ 4294967295) : bits .xor .u32 a (bits .xor .u32 a b) = b ∧ bits .xor .u32 b (bits .xor .u32 a b) = a := by
  obtain ⟨m, rfl⟩ := Int.eq_ofNat_of_zero_le ha.1
  obtain ⟨n, rfl⟩ := Int.eq_ofNat_of_zero_le hb.1
  have e1 : ∀ k : Nat, k ≤ 4294967295 → (BitVec.ofInt 32 (k : Int)).toNat = k := fun k hk => by rw [BitVec.toNat_ofInt]; omega
  have key : ∀ p q : Nat, p ≤ 4294967295 → q ≤ 4294967295 → bits .xor .u32 (p : Int) (q : Int) = ((p ^^^ q : Nat) : Int) ∧ p ^^^ q ≤ 4294967295 := fun p q hp hq => by
    have hx : p ^^^ q < 2 ^ 32 := Nat.xor_lt_two_pow (by omega) (by omega)
    refine ⟨?_, by omega⟩
    show IntKind.u32.wrap ((BitVec.ofInt 32 (p : Int) ^^^ BitVec.ofInt 32 (q : Int)).toNat : Int) = _
    rw [BitVec.toNat_xor, e1 p hp, e1 q hq, IntKind.wrap_u32]
    omega
  have hm : m ≤ 4294967295 := by omega
  have hn : n ≤ 4294967295 := by omega
  obtain ⟨k1, k2⟩ := key m n hm hn
  refine ⟨?_, ?_⟩
  · rw [k1, (key m _ hm k2).1, ← Nat.xor_assoc, Nat.xor_self, Nat.zero_xor]
  · rw [k1, (key n _ hn k2).1, Nat.xor_comm m n, ← Nat.xor_assoc, Nat.xor_self, Nat.zero_xor]
theorem oth_range {f : Fc} (h : f.Ok) (x : Int) : 0 ≤ oth f x ∧ oth f x ≤ 4294967295 := by
  unfold oth
  split
  · exact ⟨h.2.2.1, h.2.2.2⟩
  · exact ⟨h.1, h.2.1⟩
def RwG (e : TypeId) (size : Nat) (w : World) (g n c : Nat) (xs : List Value) : Prop := w.ownsRow g e size (.slice (some ⟨g, 0, none⟩) n c) n xs
theorem RwG.obj {e : TypeId} {size : Nat} {w : World} {g n c : Nat} {xs : List Value} (h : RwG e size w g n c xs) : (∃ o, w.heap[g]? = some o) ∧ n ≤ c ∧ c ≤ maxLen := by
  rcases h.2 with ⟨e1, _⟩ | ⟨g', cap, cur, a, hb, hg, hn, hm, r⟩
  · cases e1
  · cases a
    exact ⟨⟨_, hg⟩, hn, hm⟩
theorem Pm.rowStartG {e : TypeId} {size : Nat} {w : World} {g n c : Nat} {xs : List Value} (h : RwG e size w g n c xs) : Pm ⟨wbut w g, g⟩ (.row (.slice (some ⟨g, 0, none⟩) n c) e size n xs :: oths g w) w := by
  obtain ⟨⟨o, ho⟩, _⟩ := h.obj
  have hp := Pm.mapStart ho
  refine ⟨hp.bel, fun q hq => ?_, ?_, hp.oth, hp.low⟩
  · rcases List.mem_cons.1 hq with rfl | hq
    · exact h
    · exact hp.own q (List.mem_cons_of_mem _ hq)
  · have := List.pairwise_cons.1 hp.apart
    exact List.Pairwise.cons (fun q hq x hx => this.1 q hq x hx) this.2
theorem pm_rowAtG {w0 : Base} {L : List Pc} {w : World} {k g n c : Nat} {e : TypeId} {size : Nat} {xs : List Value} (h : Pm w0 L w) (hk : L[k]? = some (.row (.slice (some ⟨g, 0, none⟩) n c) e size n xs)) : RwG e size w g n c xs := by
  have h1 := h.at_ hk
  refine ⟨h1.1, ?_⟩
  rcases h1.2 with ⟨e1, _⟩ | ⟨g', cap, cur, a, hb, r⟩
  · cases e1
  · cases a
    exact .inr ⟨g, _, cur, rfl, Nat.le_refl _, r⟩
theorem RwG.head {e : TypeId} {size : Nat} {w : World} {g n c m : Nat} {xs : List Value} (h : RwG e size w g n c xs) (hm : m ≤ n) : RwG e size w g m c (xs.take (m * size)) := by
  obtain ⟨h1, h2⟩ := h
  refine ⟨?_, ?_⟩
  · rw [List.length_take, h1]
    exact Nat.min_eq_left (Nat.mul_le_mul_right _ hm)
  · rcases h2 with ⟨e1, h2⟩ | ⟨g', cap, cur, a1, hb, hgg, hn, hmx, hs1, ht1⟩
    · cases e1
    · cases a1
      refine .inr ⟨g, c, cur, rfl, hb, hgg, by omega, hmx, hs1, ?_⟩
      rw [← ht1, List.take_take, Nat.min_eq_left (Nat.mul_le_mul_right _ hm)]
section
variable {P : Program} {N : Fr} {Q : Exit → Act → World → Prop} {E : Env} {w0 : Base} {L : List Pc} {ops : Array Oper} {l : List Oper} {o : Oper}
theorem TL.pcallRwG {α : Type} {d k g n c : Nat} {e : TypeId} {size : Nat} {xs : List Value} {f : FuncId} {fn : Func} {es : List Operand} {ts : Array TypeId} {vs : List Value} (r : α → Value) (m : α → Nat) (ys : α → List Value) (hg : o.guard = none) (hd : o.dst = some d) (hN : Nat.blt d N.n = true)
    (ho : o.op = .call { callee := .value (.func f), args := es.toArray, argTypes := ts }) (hx : evs E es = some vs) (hf : P.funcs[f]? = some fn) (hn : (fn.name == "runtime.NumGoroutine") = false) (hb : fn.body.isNone = false)
    (hk : L[k]? = some (.row (.slice (some ⟨g, 0, none⟩) n c) e size n xs)) (hc : ∀ w, Pm w0 L w → RwG e size w g n c xs → Calls P f vs.toArray w fun en w' => ∃ x, en = .returned (r x) ∧ RwG e size w' g (m x) c (ys x) ∧ w.grownBy w' (some g))
    (h : ∀ x, TL P N ops Q l ((d, r x) :: E) (Pm w0 (L.set k (.row (.slice (some ⟨g, 0, none⟩) (m x) c) e size (m x) (ys x))))) : TL P N ops Q (o :: l) E (Pm w0 L) :=
  TL.call (α := α) (r := r) (I' := fun x => Pm w0 (L.set k (.row (.slice (some ⟨g, 0, none⟩) (m x) c) e size (m x) (ys x)))) hg hd hN ho hx hf hn hb (fun w hw => (hc w hw (pm_rowAtG hw hk)).mono fun en w' ⟨x, he, hr, hgr⟩ => ⟨x, he, by
    have h1 := hw.at_ hk
    have hbg : w0.b ≤ g := (Pc.lt h1 g rfl).1
    exact hw.turn hk hgr (own_base hr hbg) (fun g' hg' => .inl hg') (fun _ _ e => by cases e)⟩) h
end
end Go.Proofs.Ytleckflmckbheaa

namespace Go.Proofs.Ytleckflmckbheaa
open Go.RowKit
set_option maxRecDepth 20000
theorem ufinm60 : (Try.f60.name == "runtime.NumGoroutine") = false := by decide
theorem ufibd60 : Try.f60.body.isNone = false := rfl
theorem ufifld42_0 (g o : Nat) (w : World) : (Instr.fieldAt 42 (.pointer (some ⟨g, o, none⟩)) 0).run Try.prog w = .ok (.pointer (some ⟨g, o + 0, none⟩)) w := by kernel_rfl
theorem ufiag3 (w : World) : (isAgg 3).run Try.prog w = .ok false w := rfl
theorem ufinm54 : (Try.f54.name == "runtime.NumGoroutine") = false := by decide
theorem ufibd54 : Try.f54.body.isNone = false := rfl
theorem ufisz42 (w : World) : (sizeOf 42).run Try.prog w = .ok 3 w := rfl
theorem ufiag42 (w : World) : (isAgg 42).run Try.prog w = .ok true w := rfl
theorem ufinm53 : (Try.f53.name == "runtime.NumGoroutine") = false := by decide
theorem ufibd53 : Try.f53.body.isNone = false := rfl
theorem ufinm52 : (Try.f52.name == "runtime.NumGoroutine") = false := by decide
theorem ufibd52 : Try.f52.body.isNone = false := rfl
set_option maxHeartbeats 1000000 in
theorem isnani_any (x : Int) (w : World) : Calls Try.prog 60 #[.int .i64 x] w fun e w' => e = .returned (.bool false) ∧ Below w.heap.size w w' := by
 refine begin_ (vs := [.int .i64 x]) Try.func60 rfl rfl rfl ?_ (Pm.start w)
 refine TC.seq_ (TC.region ?_)
 refine TL.as_ ?_
 refine TL.end_ (TX.then_ (TC.seq_ (TC.region ?_)))
 refine TL.mv ?_
 refine TL.mv ?_
 refine TL.val rfl rfl rfl (gives_bin rfl rfl rfl (fun w => bin_neq_f (rfl) w)) ?_
 refine TL.as_ ?_
 refine TL.end_ (TX.then_ (TC.ret_ ?_))
 exact ret_tmp Try.results60 rfl (fun w1 hw => ⟨rfl, hw.bel⟩)
set_option maxHeartbeats 1000000 in
theorem cmpi_any (x y : Int) (w : World) : Calls Try.prog 54 #[.int .i64 x, .int .i64 y] w fun e w' => e = .returned (.int .i64 (cmp3 x y)) ∧ Below w.heap.size w w' := by
 refine begin_ (vs := [.int .i64 x, .int .i64 y]) Try.func54 rfl rfl rfl ?_ (Pm.start w)
 refine TC.seq_ (TC.region ?_)
 refine TL.as_ ?_
 refine TL.end_ (TX.then_ (TC.seq_ (TC.region ?_)))
 refine TL.mv ?_
 refine TL.pcall1 (r := .bool false) rfl rfl rfl rfl rfl Try.func60 ufinm60 ufibd60 (fun w1 hw => isnani_any _ w1) ?_
 refine TL.as_ ?_
 refine TL.end_ (TX.then_ (TC.seq_ (TC.region ?_)))
 refine TL.mv ?_
 refine TL.pcall1 (r := .bool false) rfl rfl rfl rfl rfl Try.func60 ufinm60 ufibd60 (fun w1 hw => isnani_any _ w1) ?_
 refine TL.as_ ?_
 refine TL.end_ (TX.then_ (TC.seq_ (TC.seq_ (TC.region ?_))))
 refine TL.mv ?_
 refine TL.end_ (TX.then_ (TC.condF rfl (TC.skip_ (TX.then_ (TC.seq_ (TC.seq_ (TC.region ?_)))))))
 refine TL.mv ?_
 refine TL.end_ (TX.then_ (TC.condF rfl (TC.skip_ (TX.then_ (TC.seq_ (TC.seq_ (TC.region ?_)))))))
 refine TL.mv ?_
 refine TL.mv ?_
 refine TL.vsplit rfl rfl rfl (gives_bin rfl rfl rfl (fun w => bin_lss w)) (fun h16 => ?_) (fun h16 => ?_)
 ·have q16 := of_decide_eq_true h16
  refine TL.end_ (TX.then_ (TC.condT rfl (TC.seq_ (TC.region ?_))))
  refine TL.as_ ?_
  refine TL.end_ (TX.then_ (TC.ret_ (TX.then_ret ?_)))
  exact ret_tmp Try.results54 rfl (fun w1 hw => ⟨by unfold cmp3; rw [if_pos q16], hw.bel⟩)
 ·have q16 := of_decide_eq_false h16
  refine TL.end_ (TX.then_ (TC.condF rfl (TC.skip_ (TX.then_ (TC.seq_ (TC.seq_ (TC.region ?_)))))))
  refine TL.mv ?_
  refine TL.mv ?_
  refine TL.vsplit rfl rfl rfl (gives_bin rfl rfl rfl (fun w => bin_gtr w)) (fun h19 => ?_) (fun h19 => ?_)
  ·have q19 := of_decide_eq_true h19
   refine TL.end_ (TX.then_ (TC.condT rfl (TC.seq_ (TC.region ?_))))
   refine TL.as_ ?_
   refine TL.end_ (TX.then_ (TC.ret_ (TX.then_ret ?_)))
   exact ret_tmp Try.results54 rfl (fun w1 hw => ⟨by unfold cmp3; rw [if_neg q16, if_pos q19], hw.bel⟩)
  ·have q19 := of_decide_eq_false h19
   refine TL.end_ (TX.then_ (TC.condF rfl (TC.skip_ (TX.then_ (TC.seq_ (TC.region ?_))))))
   refine TL.as_ ?_
   refine TL.end_ (TX.then_ (TC.ret_ ?_))
   exact ret_tmp Try.results54 rfl (fun w1 hw => ⟨by unfold cmp3; rw [if_neg q16, if_neg q19], hw.bel⟩)
set_option maxHeartbeats 1000000 in
theorem findf_any (x : Fc) (id : Int) (w : World) : Calls Try.prog 53 #[.agg x.cells.toArray, .int .i64 id] w fun e w' => e = .returned (.int .i64 (cmp3 x.id id)) ∧ Below w.heap.size w w' := by
 refine begin_ (vs := [.agg x.cells.toArray, .int .i64 id]) Try.func53 rfl rfl rfl ?_ (Pm.start w)
 refine TC.seq_ (TC.region ?_)
 refine TL.pnew rfl rfl rfl (exec_box (cs := x.cells) rfl rfl rfl) (fun g2 => ?_)
 refine TL.as_ ?_
 refine TL.end_ (TX.then_ (TC.seq_ (TC.region ?_)))
 refine TL.val rfl rfl rfl (gives_field (v := .pointer (some ⟨g2, 0, none⟩)) rfl rfl (fun w => ufifld42_0 _ _ w)) ?_
 refine TL.val rfl rfl rfl (pm_load (k := 0) (i := 0) rfl rfl ufiag3 rfl rfl) ?_
 refine TL.mv ?_
 refine TL.pcall1 (r := .int .i64 (cmp3 x.id id)) rfl rfl rfl rfl rfl Try.func54 ufinm54 ufibd54 (fun w1 hw => cmpi_any _ _ w1) ?_
 refine TL.as_ ?_
 refine TL.end_ (TX.then_ (TC.ret_ ?_))
 exact ret_tmp Try.results53 rfl (fun w1 hw => ⟨rfl, hw.bel⟩)
set_option maxHeartbeats 1000000 in
theorem bsf_any (A0 : Option Addr) (n0 c0 : Nat) (l : List Fc) (w : World) (hr : Reads w w.heap.size 3 A0 n0 (fcs l)) (hl : l.length = n0) (hl1 : l.length ≤ 100000) (ha : Asc l) (id : Int) :
  Calls Try.prog 52 #[.slice A0 n0 c0, .int .i64 id, .func (.func 53) #[] #[]] w fun e w' => ∃ x : {y : Nat × Bool // FindOk l id y}, e = .returned (.tuple #[.int .i64 ((x.1.1 : Nat) : Int), .bool x.1.2]) ∧ Below w.heap.size w w' := by
 subst hl
 refine begin_ (vs := [.slice A0 l.length c0, .int .i64 id, .func (.func 53) #[] #[]]) Try.func52 rfl rfl rfl ?_ (Pm.start w)
 refine TC.seq_ (TC.region ?_)
 refine TL.as_ ?_
 refine TL.as_ ?_
 refine TL.end_ (TX.then_ (TC.seq_ (TC.region ?_)))
 refine TL.mv ?_
 refine TL.val rfl rfl rfl (gives_len rfl Try.underlying26 rfl) ?_
 refine TL.as_ ?_
 refine TL.end_ (TX.then_ (TC.seq_ (TC.region ?_)))
 refine TL.mv ?_
 refine TL.as_ ?_
 refine TL.as_ ?_
 refine TL.end_ (TX.then_ (TC.seq_ (TC.block ?_)))
 refine TC.loop_ (α := {y : Nat × Nat // y.1 ≤ y.2 ∧ y.2 ≤ l.length ∧ (∀ p x, l[p]? = some x → p < y.1 → x.id < id) ∧ ∀ p x, l[p]? = some x → y.2 ≤ p → ¬ x.id < id}) (fun y => [(0, .slice A0 l.length c0), (1, .int .i64 id), (2, .func (.func 53) #[] #[]), (8, .int .i64 ((l.length : Nat) : Int)), (9, .int .i64 ((y.1.1 : Nat) : Int)), (10, .int .i64 ((y.1.2 : Nat) : Int))]) (fun y => Pm w []) (fun y => y.1.2 - y.1.1) (⟨(0, l.length), Nat.zero_le _, Nat.le_refl _, fun p x _ h => absurd h (Nat.not_lt_zero _), fun p x h1 h2 => absurd (List.getElem?_eq_some_iff.1 h1).1 (Nat.not_lt_of_le h2)⟩) ⟨rfl, rfl, rfl, rfl, rfl, rfl, trivial⟩ (fun w1 hw => hw) ?_
 rintro ⟨⟨i, j⟩, hij, hj2, h1, h2⟩
 dsimp only at hij hj2 h1 h2 ⊢
 refine TC.seq_ (TC.seq_ (TC.region ?_))
 refine TL.mv ?_
 refine TL.mv ?_
 refine TL.vsplit rfl rfl rfl (gives_bin rfl rfl rfl (fun w => bin_lss w)) (fun h17 => ?_) (fun h17 => ?_)
 ·have q17 := of_decide_eq_true h17
  have hi2 : (i + j) / 2 < l.length := by omega
  obtain ⟨x, hx⟩ : ∃ x, l[(i + j) / 2]? = some x := ⟨_, List.getElem?_eq_getElem hi2⟩
  obtain ⟨b2, o2, hA2, hbb2, hc2⟩ := hr.ad (by omega) (by decide)
  refine TL.end_ (TX.then_ (TC.condT rfl (TC.skip_ (TX.then_ (TC.block (TC.seq_ (TC.region ?_)))))))
  refine TL.mv ?_
  refine TL.mv ?_
  refine TL.val rfl rfl rfl (gives_bin rfl rfl rfl (fun w => bin_add_ (r := ((i + j : Nat) : Int)) (by simp only [IntKind.wrap_i64]; omega) w)) ?_
  refine TL.val rfl rfl rfl (gives_conv rfl rfl (fun w => conv_fit (k := .i64) Try.underlying88 Try.underlying3 (by simp only [IntKind.wrap_u64]; omega) w)) ?_
  refine TL.val rfl rfl rfl (gives_bin (v := .int .u64 (((i + j) / 2 : Nat) : Int)) rfl rfl rfl (fun w => bin_shr 2 (by decide) (by decide) (by decide) w)) ?_
  refine TL.val rfl rfl rfl (gives_conv rfl rfl (fun w => conv_fit (k := .u64) Try.underlying3 Try.underlying88 (by simp only [IntKind.wrap_i64]; omega) w)) ?_
  refine TL.as_ ?_
  refine TL.end_ (TX.then_ (TC.seq_ (TC.region ?_)))
  refine TL.mv ?_
  refine TL.mv ?_
  refine TL.mv ?_
  refine TL.val rfl rfl rfl (gives_at (v := .pointer (some ⟨b2, o2 + ((i + j) / 2) * 3, none⟩)) rfl rfl rfl (fun w => at_el Try.underlying26 ufisz42 hA2 _ _ ((i + j) / 2) hi2 rfl w)) ?_
  refine TL.val rfl rfl rfl (gives_loadR rfl rfl ufiag42 ufisz42 (fc_cells_len x) (fun w1 hw j u hu => (hw.bel.cell hbb2).trans (fcs_cell hx hc2 j u hu))) ?_
  refine TL.mv ?_
  refine TL.callE1 (r := .int .i64 (cmp3 x.id id)) rfl rfl rfl (ent_val rfl rfl rfl Try.func53 ufinm53 ufibd53 rfl) (fun w1 hw => findf_any x id w1) ?_
  refine TL.vsplit rfl rfl rfl (gives_bin rfl rfl rfl (fun w => bin_lss w)) (fun h31 => ?_) (fun h31 => ?_)
  ·have q31 := of_decide_eq_true h31
   have h3 := cmp3_neg.1 q31
   refine TL.end_ (TX.then_ (TC.condT rfl (TC.region ?_)))
   refine TL.mv ?_
   refine TL.val rfl rfl rfl (gives_bin rfl rfl rfl (fun w => bin_add_ (r := (((i + j) / 2 + 1 : Nat) : Int)) (by simp only [IntKind.wrap_i64]; omega) w)) ?_
   refine TL.as_ ?_
   refine TL.end_ (TX.in_normal ?_)
   exact TX.round (⟨((i + j) / 2 + 1, j), by dsimp only; omega, hj2, fun p y hp hlt => (by dsimp only at hlt; rcases Nat.lt_or_ge p ((i + j) / 2) with hh | hh; (exact Int.lt_trans (ha p _ y x hh hp hx) h3); (obtain rfl : p = (i + j) / 2 := by omega); have hxy := hx.symm.trans hp; cases hxy; exact h3), h2⟩) (by dsimp only; omega) ⟨rfl, rfl, rfl, rfl, rfl, rfl, trivial⟩ (fun w1 hw => hw)
  ·have q31 := of_decide_eq_false h31
   have h3 : ¬ x.id < id := fun hh => q31 (cmp3_neg.2 hh)
   refine TL.end_ (TX.then_ (TC.condF rfl (TC.region ?_)))
   refine TL.mv ?_
   refine TL.as_ ?_
   refine TL.end_ (TX.in_normal ?_)
   exact TX.round (⟨(i, (i + j) / 2), by dsimp only; omega, by dsimp only; omega, h1, fun p y hp hle => (by dsimp only at hle; rcases Nat.lt_or_ge ((i + j) / 2) p with hh | hh; (have := ha _ p x y hh hx hp; omega); (obtain rfl : p = (i + j) / 2 := by omega); have hxy := hx.symm.trans hp; cases hxy; exact h3)⟩) (by dsimp only; omega) ⟨rfl, rfl, rfl, rfl, rfl, rfl, trivial⟩ (fun w1 hw => hw)
 ·have q17 := of_decide_eq_false h17
  refine TL.end_ (TX.then_ (TC.condF rfl (TC.exit_ (TX.then_exit (TX.then_exit (TX.in_same (TX.then_ (TC.seq_ (TC.region ?_)))))))))
  refine TL.mv ?_
  refine TL.mv ?_
  refine TL.mv ?_
  refine TL.vsplit rfl rfl rfl (gives_bin rfl rfl rfl (fun w => bin_lss w)) (fun h38 => ?_) (fun h38 => ?_)
  ·have q38 := of_decide_eq_true h38
   have hi2 : i < l.length := by omega
   obtain ⟨x, hx⟩ : ∃ x, l[i]? = some x := ⟨_, List.getElem?_eq_getElem hi2⟩
   obtain ⟨b2, o2, hA2, hbb2, hc2⟩ := hr.ad (by omega) (by decide)
   iterate 8 (first | refine TL.gu ?_ | refine TL.mv ?_)
   refine TL.val rfl rfl rfl (gives_at (v := .pointer (some ⟨b2, o2 + i * 3, none⟩)) rfl rfl rfl (fun w => at_el Try.underlying26 ufisz42 hA2 _ _ i hi2 rfl w)) ?_
   refine TL.gu ?_
   refine TL.val rfl rfl rfl (gives_loadR rfl rfl ufiag42 ufisz42 (fc_cells_len x) (fun w1 hw j u hu => (hw.bel.cell hbb2).trans (fcs_cell hx hc2 j u hu))) ?_
   refine TL.gu ?_
   refine TL.mv ?_
   refine TL.gu ?_
   refine TL.callE1 (r := .int .i64 (cmp3 x.id id)) rfl rfl rfl (ent_val rfl rfl rfl Try.func53 ufinm53 ufibd53 rfl) (fun w1 hw => findf_any x id w1) ?_
   refine TL.gu ?_
   refine TL.vsplit rfl rfl rfl (gives_bin rfl rfl rfl (fun w => bin_eql w)) (fun h47 => ?_) (fun h47 => ?_)
   ·have q47 := of_decide_eq_true h47
    refine TL.pk ?_
    refine TL.as_ ?_
    refine TL.as_ ?_
    refine TL.end_ (TX.then_ (TC.ret_ ?_))
    obtain rfl : i = j := by omega
    exact ret_pair Try.results52 rfl rfl (fun w1 hw => ⟨⟨(i, true), ⟨⟨hj2, fun p x hp => ⟨fun hlt => h1 p x hp hlt, fun hlt => Nat.lt_of_not_le fun hh => by have := h2 p x hp hh; omega⟩⟩, fun _ => ⟨x, hx, cmp3_zero.1 q47⟩, fun _ => rfl⟩⟩, rfl, hw.bel⟩)
   ·have q47 := of_decide_eq_false h47
    refine TL.pk ?_
    refine TL.as_ ?_
    refine TL.as_ ?_
    refine TL.end_ (TX.then_ (TC.ret_ ?_))
    obtain rfl : i = j := by omega
    exact ret_pair Try.results52 rfl rfl (fun w1 hw => ⟨⟨(i, false), ⟨⟨hj2, fun p x hp => ⟨fun hlt => h1 p x hp hlt, fun hlt => Nat.lt_of_not_le fun hh => by have := h2 p x hp hh; omega⟩⟩, fun hh => (by cases hh), fun ⟨y, hy, e⟩ => absurd (cmp3_zero.2 (by have hxy := hx.symm.trans hy; cases hxy; exact e)) q47⟩⟩, rfl, hw.bel⟩)
  ·have q38 := of_decide_eq_false h38
   iterate 12 (first | refine TL.of ?_ | refine TL.as_ ?_ | refine TL.mv ?_ | refine TL.pk ?_)
   refine TL.end_ (TX.then_ (TC.ret_ ?_))
   obtain rfl : i = j := by omega
   exact ret_pair Try.results52 rfl rfl (fun w1 hw => ⟨⟨(i, false), ⟨⟨hj2, fun p x hp => ⟨fun hlt => h1 p x hp hlt, fun hlt => Nat.lt_of_not_le fun hh => by have := h2 p x hp hh; omega⟩⟩, fun hh => (by cases hh), fun ⟨y, hy, _⟩ => absurd (List.getElem?_eq_some_iff.1 hy).1 (by dsimp only; omega)⟩⟩, rfl, hw.bel⟩)
set_option maxHeartbeats 1000000 in
theorem find_any (A0 : Option Addr) (n0 c0 : Nat) (l : List Fc) (w : World) (hr : Reads w w.heap.size 3 A0 n0 (fcs l)) (hl : l.length = n0) (hl1 : l.length ≤ 100000) (ha : Asc l) (id : Int) :
  Calls Try.prog 41 #[.slice A0 n0 c0, .int .i64 id] w fun e w' => ∃ x : {y : Nat × Bool // FindOk l id y}, e = .returned (.tuple #[.int .i64 ((x.1.1 : Nat) : Int), .bool x.1.2]) ∧ Below w.heap.size w w' := by
 subst hl
 refine begin_ (vs := [.slice A0 l.length c0, .int .i64 id]) Try.func41 rfl rfl rfl ?_ (Pm.start w)
 refine TC.seq_ (TC.region ?_)
 refine TL.as_ ?_
 refine TL.as_ ?_
 refine TL.end_ (TX.then_ (TC.seq_ (TC.region ?_)))
 refine TL.mv ?_
 refine TL.mv ?_
 refine TL.pcallPm (α := {y : Nat × Bool // FindOk l id y}) (fun y => .tuple #[.int .i64 ((y.1.1 : Nat) : Int), .bool y.1.2]) (fun y => []) rfl rfl rfl rfl rfl Try.func52 ufinm52 ufibd52 (fun w1 hw => (bsf_any A0 _ c0 l w1 ((hr.below hw.bel).more hw.bel.size) rfl (by omega) ha id).mono fun e w2 ⟨x, h1, h2⟩ => ⟨x, h1, (Pm.start w1).below h2⟩) ?_
 rintro ⟨⟨i, b⟩, hib⟩
 dsimp only [List.cons_append, List.nil_append]
 iterate 4 (first | refine TL.as_ ?_ | refine TL.ex ?_)
 refine TL.end_ (TX.then_ (TC.ret_ ?_))
 exact ret_pair Try.results41 rfl rfl (fun w1 hw => ⟨⟨(i, b), hib⟩, rfl, hw.bel⟩)
end Go.Proofs.Ytleckflmckbheaa

namespace Go.Proofs.Ytleckflmckbheaa
open Go.RowKit
set_option maxRecDepth 20000
section
variable {P : Program} {N : Fr} {E : Env} {I : World → Prop} {o : Oper}
theorem gives_bin2 {op : BinOp} {xt yt : TypeId} {x y : Operand} {vx vy v : Value} (ho : o.op = .binOp op xt x y yt) (hx : ev E x = some vx) (hy : ev E y = some vy)
    (hv : ∀ w : World, (do eqGuard op xt x y vx vy; binOp op xt vx vy : Sem Value).run P w = .ok v w) : Gives P N o E I v := fun a w ha _ => by
  unfold execOp; rw [ho]
  simp only [ha.eval hx, ha.eval hy]
  have := hv w
  simp only [Sem.run_bind] at this ⊢
  rw [this]
  rfl
theorem slice_nil {xt e : TypeId} (hu : P.underlying xt = some (.slice e)) {x y : Operand} {A : Option Addr} {n c : Nat} (w : World) :
    (do eqGuard .eql xt x y (.slice A n c) (.slice none 0 0); binOp .eql xt (.slice A n c) (.slice none 0 0) : Sem Value).run P w = .ok (.bool A.isNone) w := by
  cases A <;> simp [eqGuard, binOp, go_sem, run_underlying hu, Op.equal, Op.maxDepth, Lib.run_equalIn_slice_nil w 9999 xt e _ n c 0 0 hu]
end
end Go.Proofs.Ytleckflmckbheaa

namespace Go.Proofs.Ytleckflmckbheaa
open Go.RowKit
set_option maxRecDepth 20000
theorem fcs_clear (q r : List Fc) (m : Nat) (hm : q.length = m) (hr : r.length = 1) : (fcs (q ++ r)).take (m * 3) ++ Fc.zero.cells ++ (fcs (q ++ r)).drop (m * 3 + Fc.zero.cells.length) = fcs (q ++ [Fc.zero]) := by
 subst hm
 rw [fcs_take, List.take_left, List.drop_eq_nil_of_le (by rw [fcs_len, List.length_append, hr, fc_cells_len]; omega), List.append_nil, fcs_app]
 rfl
theorem urebs26_0_0  (w : World) : (Instr.buildSlice 26 0 #[]).run Try.prog w = .ok (.slice (some ⟨w.heap.size, 0, none⟩) 0 0) (w.alloc (.cells [].toArray 42)) := by kernel_rfl
theorem ureel26 : Elem Try.prog 26 42 3 16 := Elem.mk' Try.underlying26 (z := .agg #[.int .i64 0, .int .u32 0, .int .u32 0]) (by kernel_rfl) rfl (by omega) (by omega)
theorem uresz42 (w : World) : (sizeOf 42).run Try.prog w = .ok 3 w := rfl
theorem urezv42 (w : World) : (zeroValue 42).run Try.prog w = .ok (.agg #[.int .i64 0, .int .u32 0, .int .u32 0]) w := rfl
theorem urenm22 : (Try.f22.name == "runtime.NumGoroutine") = false := by decide
theorem urebd22 : Try.f22.body.isNone = false := rfl
theorem urenm41 : (Try.f41.name == "runtime.NumGoroutine") = false := by decide
theorem urebd41 : Try.f41.body.isNone = false := rfl
theorem urenm43 : (Try.f43.name == "runtime.NumGoroutine") = false := by decide
theorem urebd43 : Try.f43.body.isNone = false := rfl
theorem urenm42 : (Try.f42.name == "runtime.NumGoroutine") = false := by decide
theorem urebd42 : Try.f42.body.isNone = false := rfl
set_option maxHeartbeats 1000000 in
theorem fclone_nil (n0 c0 : Nat) (w : World) : Calls Try.prog 43 #[.slice none n0 c0] w fun e w' => e = .returned (.slice none 0 0) ∧ Below w.heap.size w w' := by
 refine begin_ (vs := [.slice none n0 c0]) Try.func43 rfl rfl rfl ?_ (Pm.start w)
 refine TC.seq_ (TC.region ?_)
 refine TL.as_ ?_
 refine TL.end_ (TX.then_ (TC.seq_ (TC.seq_ (TC.region ?_))))
 refine TL.mv ?_
 refine TL.val rfl rfl rfl (gives_bin2 (v := .bool true) rfl rfl rfl (fun w => slice_nil Try.underlying26 w)) ?_
 refine TL.end_ (TX.then_ (TC.condT rfl (TC.seq_ (TC.region ?_))))
 refine TL.as_ ?_
 refine TL.end_ (TX.then_ (TC.ret_ (TX.then_ret ?_)))
 exact ret_tmp Try.results43 rfl (fun w1 hw => ⟨rfl, hw.bel⟩)
set_option maxHeartbeats 1000000 in
theorem fclone_some (ad : Addr) (c0 : Nat) (l : List Fc) (w : World) (hr : Reads w w.heap.size 3 (some ad) l.length (fcs l)) (hl1 : l.length ≤ 100000) : Calls Try.prog 43 #[.slice (some ad) l.length c0] w fun e w' => ∃ x : {p : Option Addr × Nat // l.length ≤ p.2 ∧ p.2 ≤ maxLen}, e = .returned (.slice x.1.1 l.length x.1.2) ∧ Pm w [.row (.slice x.1.1 l.length x.1.2) 42 3 l.length (fcs l)] w' := by
 refine begin_ (vs := [.slice (some ad) l.length c0]) Try.func43 rfl rfl rfl ?_ (Pm.start w)
 refine TC.seq_ (TC.region ?_)
 refine TL.as_ ?_
 refine TL.end_ (TX.then_ (TC.seq_ (TC.seq_ (TC.region ?_))))
 refine TL.mv ?_
 refine TL.val rfl rfl rfl (gives_bin2 (v := .bool false) rfl rfl rfl (fun w => slice_nil Try.underlying26 w)) ?_
 refine TL.end_ (TX.then_ (TC.condF rfl (TC.skip_ (TX.then_ (TC.seq_ (TC.region ?_))))))
 refine TL.prowS (e := 42) (size := 3) (cs := fcs []) rfl rfl rfl rfl rfl (fun w => urebs26_0_0  w) (by decide) rfl (fun g5 => ?_)
 refine TL.mv ?_
 refine TL.appendT (k := 0) rfl rfl rfl rfl Try.underlying26 ureel26 rfl rfl rfl (fun w1 hw => ⟨_, hr.below hw.bel⟩) (fcs_one _) (by show _ * 16 ≤ _; omega) (l.length) ((Nat.zero_add _).symm) (fcs l) (rfl) (fun A7 c7 hA71 hA72 => ?_)
 refine TL.as_ ?_
 refine TL.end_ (TX.then_ (TC.ret_ ?_))
 exact ret_tmp Try.results43 rfl (fun w1 hw => ⟨⟨(A7, c7), hA71, hA72⟩, rfl, hw.pick [0] (by decide) rfl⟩)
theorem fclone_any (A0 : Option Addr) (n0 c0 : Nat) (l : List Fc) (w : World) (hr : Reads w w.heap.size 3 A0 n0 (fcs l)) (hl : l.length = n0) (hl1 : l.length ≤ 100000) : Calls Try.prog 43 #[.slice A0 n0 c0] w fun e w' => ∃ x : {p : Option Addr × Nat // l.length ≤ p.2 ∧ p.2 ≤ maxLen}, e = .returned (.slice x.1.1 l.length x.1.2) ∧ Pm w [.row (.slice x.1.1 l.length x.1.2) 42 3 l.length (fcs l)] w' := by
 subst hl
 cases A0 with
 | none =>
  have h0 : l = [] := by
   rcases Nat.eq_zero_or_pos l.length with h0 | h0
   ·exact List.eq_nil_of_length_eq_zero h0
   ·obtain ⟨_, _, e, _⟩ := hr.ad h0 (by decide); cases e
  subst h0
  exact (fclone_nil _ c0 w).mono fun e w1 ⟨h1, h2⟩ => ⟨⟨(none, 0), Nat.le_refl _, Nat.zero_le _⟩, h1, ((Pm.start w).below h2).nilrow _ _⟩
 | some ad => exact fclone_some ad c0 l w hr hl1
set_option maxHeartbeats 1000000 in
theorem del_any (g c i : Nat) (l : List Fc) (w : World) (h : RwG 42 3 w g l.length c (fcs l)) (hi : i < l.length) (hl1 : l.length ≤ 100000) : Calls Try.prog 42 #[.slice (some ⟨g, 0, none⟩) l.length c, .int .i64 ((i : Nat) : Int), .int .i64 ((i + 1 : Nat) : Int)] w fun e w' => e = .returned (.slice (some ⟨g, 0, none⟩) (l.length - 1) c) ∧ RwG 42 3 w' g (l.length - 1) c (fcs (l.eraseIdx i)) ∧ w.grownBy w' (some g) := by
 obtain ⟨_, hnc, hcm⟩ := h.obj
 refine begin_ (vs := [.slice (some ⟨g, 0, none⟩) l.length c, .int .i64 ((i : Nat) : Int), .int .i64 ((i + 1 : Nat) : Int)]) (I := Pm ⟨wbut w g, g⟩ (.row (.slice (some ⟨g, 0, none⟩) l.length c) 42 3 l.length (fcs l) :: oths g w)) Try.func42 rfl rfl rfl ?_ (Pm.rowStartG h)
 refine TC.seq_ (TC.region ?_)
 refine TL.as_ ?_
 refine TL.end_ (TX.then_ (TC.seq_ (TC.region ?_)))
 iterate 4 (first | refine TL.mv ?_)
 refine TL.val rfl rfl rfl (gives_len rfl Try.underlying26 rfl) ?_
 refine TL.val rfl rfl rfl (gives_slice3 (i := i) (j := i + 1) (m := l.length) rfl rfl rfl rfl rfl Try.underlying26 uresz42 (by omega) (by omega) hnc) ?_
 refine TL.end_ (TX.then_ (TC.seq_ (TC.seq_ (TC.region ?_))))
 refine TL.mv ?_
 refine TL.mv ?_
 refine TL.val rfl rfl rfl (gives_bin rfl rfl rfl (fun w => bin_eql_f (by omega) w)) ?_
 refine TL.end_ (TX.then_ (TC.condF rfl (TC.skip_ (TX.then_ (TC.seq_ (TC.region ?_))))))
 refine TL.mv ?_
 refine TL.val rfl rfl rfl (gives_len rfl Try.underlying26 rfl) ?_
 refine TL.as_ ?_
 refine TL.end_ (TX.then_ (TC.seq_ ?_))
 refine TC.tail 6 (by kernel_rfl) (by kernel_rfl) (fun w hw => hw.drawn _) ?_
 refine TS.val rfl rfl rfl (gives_move rfl rfl) ?_
 refine TS.val rfl rfl rfl (gives_move rfl rfl) ?_
 refine TS.val rfl rfl rfl (gives_sliceH (v := .slice (some ⟨g, 0, none⟩) i c) rfl rfl rfl (fun w => cut_hi Try.underlying26 uresz42 _ _ _ i rfl (by omega) w)) ?_
 refine TS.val rfl rfl rfl (gives_move rfl rfl) ?_
 refine TS.val rfl rfl rfl (gives_move rfl rfl) ?_
 refine TS.val rfl rfl rfl (gives_sliceL (v := .slice (if c = i + 1 then (some ⟨g, 0, none⟩ : Option Addr) else (some ⟨g, 0, none⟩ : Option Addr).map (·.add ((i + 1) * 3))) (l.length - (i + 1)) (c - (i + 1))) rfl rfl rfl (fun w => cut_lo Try.underlying26 uresz42 _ _ _ (i + 1) rfl (by omega) w)) ?_
 refine TS.end_ ?_
 refine TL.shift (k := 0) (i := i) (j := i + 1) (M := l.length - 1) (xs' := fcs (l.take i ++ l.drop (i + 1) ++ l.drop (l.length - 1))) rfl rfl rfl rfl ureel26 rfl rfl rfl (fun hh => by rw [if_neg (by omega), Option.map_some]; congr 1; unfold Addr.add; split <;> simp_all) (by split <;> simp) (by omega) (by omega) hnc (fcs_one l) (by rw [fcs_take, fcs_drop, fcs_app, fcs_app, fcs_len, List.length_drop, ← Nat.add_mul, fcs_drop, show i + (l.length - (i + 1)) = l.length - 1 by omega]) (by omega) ?_
 try dsimp only [List.set_cons_zero]
 refine TL.as_ ?_
 refine TL.end_ (TX.then_ (TC.seq_ (TC.region ?_)))
 refine TL.mv ?_
 refine TL.mv ?_
 refine TL.val rfl rfl rfl (gives_len rfl Try.underlying26 rfl) ?_
 refine TL.mv ?_
 refine TL.val rfl rfl rfl (gives_slice (v := .slice (some ⟨g, (l.length - 1) * 3, none⟩) 1 (c - (l.length - 1))) rfl rfl rfl rfl (fun w => by rw [cut_lh Try.underlying26 uresz42 _ _ _ (l.length - 1) l.length rfl rfl (by omega) hnc w, if_neg (by omega), show l.length - (l.length - 1) = 1 by omega, Option.map_some, show (⟨g, 0, none⟩ : Addr).add ((l.length - 1) * 3) = ⟨g, (l.length - 1) * 3, none⟩ by unfold Addr.add; split <;> simp_all])) ?_
 refine TL.rowclear (k := 0) (z := .agg #[.int .i64 0, .int .u32 0, .int .u32 0]) (zs := Fc.zero.cells) rfl rfl rfl rfl Try.underlying26 urezv42 (by kernel_rfl) (fc_one _) (by decide) rfl (by rw [fcs_len]; simp only [List.length_append, List.length_take, List.length_drop, fc_cells_len]; omega) (fcs_clear _ _ _ (by simp only [List.length_append, List.length_take, List.length_drop]; omega) (by rw [List.length_drop]; omega)) ?_
 try dsimp only [List.set_cons_zero]
 refine TL.end_ (TX.then_ (TC.seq_ (TC.region ?_)))
 refine TL.mv ?_
 refine TL.as_ ?_
 refine TL.end_ (TX.then_ (TC.ret_ ?_))
 exact ret_tmp Try.results42 rfl (fun w1 hw => ⟨rfl, by have h2 := RwG.head (pm_rowAtG hw (k := 0) rfl) (show l.length - 1 ≤ l.length by omega); rw [fcs_take, List.take_left' (by simp only [List.length_append, List.length_take, List.length_drop]; omega), ← List.eraseIdx_eq_take_drop_succ] at h2; exact h2, hw.mapEnd (fun q hq => by simp [hq])⟩)
set_option maxHeartbeats 1000000 in
theorem rem_any (A0 : Option Addr) (n0 c0 : Nat) (l : List Fc) (w : World) (hr : Reads w w.heap.size 3 A0 n0 (fcs l)) (hl : l.length = n0) (id : Int) :
  Calls Try.prog 20 #[.slice A0 n0 c0, .int .i64 id] w fun e w' => ∃ x : {y : (Option Addr × Nat) × List Fc × Int // y.2 = remP l id ∧ y.2.1.length ≤ y.1.2 ∧ y.1.2 ≤ maxLen}, e = .returned (.tuple #[.slice x.1.1.1 x.1.2.1.length x.1.1.2, .int .i64 x.1.2.2]) ∧ Pm w [.row (.slice x.1.1.1 x.1.2.1.length x.1.1.2) 42 3 x.1.2.1.length (fcs x.1.2.1)] w' := by
 subst hl
 refine begin_ (vs := [.slice A0 l.length c0, .int .i64 id]) Try.func20 rfl rfl rfl ?_ (Pm.start w)
 refine TC.seq_ (TC.region ?_)
 refine TL.as_ ?_
 refine TL.as_ ?_
 refine TL.end_ (TX.then_ (TC.seq_ (TC.seq_ (TC.region ?_))))
 refine TL.mv ?_
 refine TL.callsplit rfl rfl rfl rfl rfl Try.func22 urenm22 urebd22 (fun w1 hw => valid_any A0 _ c0 l w1 ((hr.below hw.bel).more hw.bel.size) rfl) (fun h9 => ?_) (fun h9 => ?_)
 ·have hV : validF l := of_decide_eq_true h9
  have hl1 : l.length ≤ 1024 := hV.1
  refine TL.val rfl rfl rfl (gives_boolnot rfl rfl) ?_
  refine TL.end_ (TX.then_ (TC.condF rfl (TC.skip_ (TX.then_ (TC.seq_ (TC.region ?_))))))
  refine TL.mv ?_
  refine TL.mv ?_
  refine TL.pcallPm (α := {y : Nat × Bool // FindOk l id y}) (fun y => .tuple #[.int .i64 ((y.1.1 : Nat) : Int), .bool y.1.2]) (fun y => []) rfl rfl rfl rfl rfl Try.func41 urenm41 urebd41 (fun w1 hw => (find_any A0 _ c0 l w1 ((hr.below hw.bel).more hw.bel.size) rfl (by omega) hV.asc id).mono fun e w2 ⟨x, h1, h2⟩ => ⟨x, h1, (Pm.start w1).below h2⟩) ?_
  rintro ⟨⟨i, b⟩, hib⟩
  dsimp only [List.cons_append, List.nil_append]
  try dsimp only at hib
  iterate 5 (first | refine TL.as_ ?_ | refine TL.ex ?_ | refine TL.mv ?_)
  refine TL.end_ (TX.then_ (TC.seq_ (TC.seq_ (TC.region ?_))))
  refine TL.vsplit rfl rfl rfl (gives_move rfl rfl) (fun h17 => ?_) (fun h17 => ?_)
  ·subst h17
   obtain ⟨hix, x, hx, hxi⟩ := hib.some hV.asc
   have hil := (List.getElem?_eq_some_iff.1 hx).1
   refine TL.val rfl rfl rfl (gives_boolnot rfl rfl) ?_
   refine TL.end_ (TX.then_ (TC.condF rfl (TC.skip_ (TX.then_ (TC.seq_ (TC.region ?_))))))
   refine TL.mv ?_
   refine TL.pcallPm (α := {p : Option Addr × Nat // l.length ≤ p.2 ∧ p.2 ≤ maxLen}) (fun y => .slice y.1.1 l.length y.1.2) (fun y => [.row (.slice y.1.1 l.length y.1.2) 42 3 l.length (fcs l)]) rfl rfl rfl rfl rfl Try.func43 urenm43 urebd43 (fun w1 hw => fclone_any A0 _ c0 l w1 ((hr.below hw.bel).more hw.bel.size) rfl (by omega)) ?_
   rintro ⟨⟨AA, cc⟩, hcc1, hcc2⟩
   dsimp only [List.cons_append, List.nil_append]
   refine TL.fact (p := ∃ g, AA = some ⟨g, 0, none⟩) (fun w1 hw => rowA hw (k := 0) rfl (by omega)) ?_
   rintro ⟨g, rfl⟩
   refine TL.mv ?_
   refine TL.mv ?_
   refine TL.val rfl rfl rfl (gives_bin rfl rfl rfl (fun w => bin_add_ (r := ((i + 1 : Nat) : Int)) (by simp only [IntKind.wrap_i64]; omega) w)) ?_
   refine TL.pcallRwG (k := 0) (α := Unit) (fun _ => .slice (some ⟨g, 0, none⟩) (l.length - 1) cc) (fun _ => l.length - 1) (fun _ => fcs (l.eraseIdx i)) rfl rfl rfl rfl rfl Try.func42 urenm42 urebd42 rfl (fun w1 hw hr1 => (del_any g cc i l w1 hr1 hil (by omega)).mono fun e w2 ⟨h1, h2, h3⟩ => ⟨(), h1, h2, h3⟩) ?_
   rintro ⟨⟩
   try dsimp only [List.set_cons_zero]
   refine TL.as_ ?_
   refine TL.as_ ?_
   refine TL.end_ (TX.then_ (TC.ret_ ?_))
   have hle : (l.eraseIdx i).length = l.length - 1 := by rw [List.length_eraseIdx]; rw [if_pos hil]
   exact ret_pair Try.results20 rfl rfl (fun w1 hw => ⟨⟨((some ⟨g, 0, none⟩, cc), (l.eraseIdx i, 0)), by unfold remP; rw [if_pos hV, hix], by dsimp only; omega, hcc2⟩, by dsimp only; rw [hle], by dsimp only; rw [hle]; exact hw⟩)
  ·subst h17
   refine TL.val rfl rfl rfl (gives_boolnot rfl rfl) ?_
   refine TL.end_ (TX.then_ (TC.condT rfl (TC.seq_ (TC.region ?_))))
   refine TL.as_ ?_
   refine TL.as_ ?_
   refine TL.end_ (TX.then_ (TC.ret_ (TX.then_ret ?_)))
   exact ret_pair Try.results20 rfl rfl (fun w1 hw => ⟨⟨((none, 0), ([], 8)), by unfold remP; rw [if_pos hV, hib.none hV.asc], Nat.le_refl _, Nat.zero_le _⟩, rfl, hw.nilrow _ _⟩)
 ·have hV : ¬ validF l := of_decide_eq_false h9
  refine TL.val rfl rfl rfl (gives_boolnot rfl rfl) ?_
  refine TL.end_ (TX.then_ (TC.condT rfl (TC.seq_ (TC.region ?_))))
  refine TL.as_ ?_
  refine TL.as_ ?_
  refine TL.end_ (TX.then_ (TC.ret_ (TX.then_ret ?_)))
  exact ret_pair Try.results20 rfl rfl (fun w1 hw => ⟨⟨((none, 0), ([], 1)), by unfold remP; rw [if_neg hV], Nat.le_refl _, Nat.zero_le _⟩, rfl, hw.nilrow _ _⟩)
end Go.Proofs.Ytleckflmckbheaa

namespace Go.Proofs.Ytleckflmckbheaa
open Go.RowKit
set_option maxRecDepth 20000
def RC {α : Type} (r : α → Value) (M : α → List Int → Prop) (e : TypeId) (g n c : Nat) (w : World) : Ending → World → Prop := fun en w' => ∃ x ys, en = .returned (r x) ∧ M x ys ∧ Rw e w' g n c ys ∧ w.grownBy w' (some g)
theorem bin_quoi_ {P : Program} {m n r : Int} {xt : TypeId} (h0 : 0 ≤ m) (h1 : 0 < n) (hm : m < 9223372036854775808) (hr : m / n = r) (w : World) : (binOp .quo xt (.int .i64 m) (.int .i64 n)).run P w = .ok (.int .i64 r) w := by rw [← hr]; exact bin_quoi h0 h1 hm w
theorem us1nm78 : (Try.f78.name == "runtime.NumGoroutine") = false := by decide
theorem us1bd78 : Try.f78.body.isNone = false := rfl
theorem us1sz35 (w : World) : (sizeOf 35).run Try.prog w = .ok 1 w := rfl
theorem us1ag35 (w : World) : (isAgg 35).run Try.prog w = .ok false w := rfl
theorem us1nm68 : (Try.f68.name == "runtime.NumGoroutine") = false := by decide
theorem us1bd68 : Try.f68.body.isNone = false := rfl
set_option maxHeartbeats 1000000 in
theorem isnan_any (x : Int) (w : World) : Calls Try.prog 78 #[.int .u32 x] w fun e w' => e = .returned (.bool false) ∧ Below w.heap.size w w' := by
 refine begin_ (vs := [.int .u32 x]) Try.func78 rfl rfl rfl ?_ (Pm.start w)
 refine TC.seq_ (TC.region ?_)
 refine TL.as_ ?_
 refine TL.end_ (TX.then_ (TC.seq_ (TC.region ?_)))
 refine TL.mv ?_
 refine TL.mv ?_
 refine TL.val rfl rfl rfl (gives_bin rfl rfl rfl (fun w => bin_neq_f (rfl) w)) ?_
 refine TL.as_ ?_
 refine TL.end_ (TX.then_ (TC.ret_ ?_))
 exact ret_tmp Try.results78 rfl (fun w1 hw => ⟨rfl, hw.bel⟩)
set_option maxHeartbeats 1000000 in
theorem less_t (x y : Int) (hlt : x < y) (w : World) : Calls Try.prog 68 #[.int .u32 x, .int .u32 y] w fun e w' => e = .returned (.bool true) ∧ Below w.heap.size w w' := by
 refine begin_ (vs := [.int .u32 x, .int .u32 y]) Try.func68 rfl rfl rfl ?_ (Pm.start w)
 refine TC.seq_ (TC.region ?_)
 refine TL.as_ ?_
 refine TL.end_ (TX.then_ (TC.seq_ (TC.region ?_)))
 refine TL.mv ?_
 refine TL.pcall1 (r := .bool false) rfl rfl rfl rfl rfl Try.func78 us1nm78 us1bd78 (fun w1 hw => isnan_any _ w1) ?_
 iterate 11 (first | refine TL.mv ?_ | refine TL.of ?_ | refine TL.gu ?_ | refine TL.pk ?_)
 refine TL.val rfl rfl rfl (gives_bin rfl rfl rfl (fun w => bin_lss_t (hlt) w)) ?_
 refine TL.pk ?_
 refine TL.as_ ?_
 refine TL.end_ (TX.then_ (TC.ret_ ?_))
 exact ret_tmp Try.results68 rfl (fun w1 hw => ⟨rfl, hw.bel⟩)
set_option maxHeartbeats 1000000 in
theorem less_f (x y : Int) (hlt : ¬ x < y) (w : World) : Calls Try.prog 68 #[.int .u32 x, .int .u32 y] w fun e w' => e = .returned (.bool false) ∧ Below w.heap.size w w' := by
 refine begin_ (vs := [.int .u32 x, .int .u32 y]) Try.func68 rfl rfl rfl ?_ (Pm.start w)
 refine TC.seq_ (TC.region ?_)
 refine TL.as_ ?_
 refine TL.end_ (TX.then_ (TC.seq_ (TC.region ?_)))
 refine TL.mv ?_
 refine TL.pcall1 (r := .bool false) rfl rfl rfl rfl rfl Try.func78 us1nm78 us1bd78 (fun w1 hw => isnan_any _ w1) ?_
 iterate 11 (first | refine TL.mv ?_ | refine TL.of ?_ | refine TL.gu ?_ | refine TL.pk ?_)
 refine TL.val rfl rfl rfl (gives_bin rfl rfl rfl (fun w => bin_lss_f (hlt) w)) ?_
 refine TL.pk ?_
 refine TL.as_ ?_
 refine TL.end_ (TX.then_ (TC.ret_ ?_))
 exact ret_tmp Try.results68 rfl (fun w1 hw => ⟨rfl, hw.bel⟩)
set_option maxHeartbeats 1000000 in
theorem ins_any (g n c : Nat) (xs : List Int) (w : World) (h : Rw 35 w g n c xs) (hn : n ≤ 1000000) (a b : Nat) (hab : a ≤ b) (hb : b ≤ n) :
  Calls Try.prog 62 #[.slice (some ⟨g, 0, none⟩) n c, .int .i64 (a : Nat), .int .i64 (b : Nat)] w (RC (α := Unit) (fun _ => .tuple #[]) (fun _ ys => Pin a b xs ys ∧ Srt a b ys) 35 g n c w) := by
 have hl := h.len
 refine begin_ (vs := [.slice (some ⟨g, 0, none⟩) n c, .int .i64 (a : Nat), .int .i64 (b : Nat)]) (I := Pm ⟨wbut w g, g⟩ (.row (.slice (some ⟨g, 0, none⟩) n c) 35 1 n (uv xs) :: oths g w)) Try.func62 rfl rfl rfl ?_ (Pm.rowStart h)
 refine TC.seq_ (TC.region ?_)
 refine TL.mv ?_
 refine TL.val rfl rfl rfl (gives_bin rfl rfl rfl (fun w => bin_add_ (r := ((a + 1 : Nat) : Int)) (by simp only [IntKind.wrap_i64]; omega) w)) ?_
 refine TL.as_ ?_
 refine TL.end_ (TX.then_ (TC.block ?_))
 refine TC.loop_ (α := {y : Nat × List Int // a + 1 ≤ y.1 ∧ y.1 ≤ b + 1 ∧ Pin a b xs y.2 ∧ Srt a y.1 y.2 ∧ y.2.length = n}) (fun y => [(0, .slice (some ⟨g, 0, none⟩) n c), (1, .int .i64 ((a : Nat) : Int)), (2, .int .i64 ((b : Nat) : Int)), (6, .int .i64 ((y.1.1 : Nat) : Int))]) (fun y => Pm ⟨wbut w g, g⟩ ([.row (.slice (some ⟨g, 0, none⟩) n c) 35 1 n (uv y.1.2)] ++ oths g w)) (fun y => b + 1 - y.1.1) (⟨(a + 1, xs), Nat.le_refl _, by dsimp only; omega, Pin.refl _ _ _, Srt.one (Nat.le_refl _), hl⟩) ⟨rfl, rfl, rfl, rfl, trivial⟩ (fun w1 hw => hw) ?_
 rintro ⟨⟨i, ys⟩, hi1, hi2, hP, hS0, hly⟩
 dsimp only at hi1 hi2 hP hS0 hly ⊢
 refine TC.seq_ (TC.seq_ (TC.region ?_))
 refine TL.mv ?_
 refine TL.mv ?_
 refine TL.vsplit rfl rfl rfl (gives_bin rfl rfl rfl (fun w => bin_lss w)) (fun h12 => ?_) (fun h12 => ?_)
 ·have q12 := of_decide_eq_true h12
  refine TL.end_ (TX.then_ (TC.condT rfl (TC.skip_ (TX.then_ (TC.seq_ (TC.block (TC.seq_ (TC.region ?_))))))))
  refine TL.mv ?_
  refine TL.as_ ?_
  refine TL.end_ (TX.then_ (TC.block ?_))
  refine TC.loop_ (α := {y : Nat × List Int // a ≤ y.1 ∧ y.1 ≤ i ∧ Pin a b xs y.2 ∧ Ins a i y.1 y.2 ∧ y.2.length = n}) (fun y => [(0, .slice (some ⟨g, 0, none⟩) n c), (1, .int .i64 ((a : Nat) : Int)), (2, .int .i64 ((b : Nat) : Int)), (6, .int .i64 ((i : Nat) : Int)), (7, .int .i64 ((y.1.1 : Nat) : Int))]) (fun y => Pm ⟨wbut w g, g⟩ ([.row (.slice (some ⟨g, 0, none⟩) n c) 35 1 n (uv y.1.2)] ++ oths g w)) (fun y => y.1.1) (⟨(i, ys), by dsimp only; omega, Nat.le_refl _, hP, Ins.start hS0, hly⟩) ⟨rfl, rfl, rfl, rfl, rfl, trivial⟩ (fun w1 hw => hw) ?_
  rintro ⟨⟨j, zs⟩, hj1, hj2, hQ, hI, hlz⟩
  dsimp only at hj1 hj2 hQ hI hlz ⊢
  refine TC.seq_ (TC.seq_ ?_)
  rcases (by omega : ¬ a < j ∨ (a < j ∧ dx zs j < dx zs (j - 1)) ∨ (a < j ∧ ¬ dx zs j < dx zs (j - 1))) with p1 | ⟨p1, p2⟩ | ⟨p1, p2⟩
  ·have hS : Srt a (i + 1) zs := hI.stop (fun hh => by omega)
   refine TC.quiet_ (E' := ?_) (by kernel_rfl) (by kernel_rfl) (fun w hw => hw.drawn _) ?_ ?_
   rotate_left
   ·refine TQ.val rfl rfl rfl (gives_move rfl rfl) ?_
    refine TQ.val rfl rfl rfl (gives_move rfl rfl) ?_
    refine TQ.val rfl rfl rfl (gives_bin rfl rfl rfl (fun w => bin_gtr_f (by omega) w)) ?_
    iterate 12 (first | refine TQ.off rfl rfl rfl rfl rfl rfl ?_ | refine TQ.val rfl rfl rfl (gives_move rfl rfl) ?_ | refine TQ.val rfl rfl rfl (gives_pick rfl rfl rfl) ?_)
    exact TQ.end_
   refine TX.then_ (TC.condF rfl (TC.exit_ (TX.then_exit (TX.then_exit (TX.in_same (TX.in_normal (TX.then_ (TC.region ?_))))))))
   refine TL.mv ?_
   refine TL.val rfl rfl rfl (gives_bin rfl rfl rfl (fun w => bin_add_ (r := ((i + 1 : Nat) : Int)) (by simp only [IntKind.wrap_i64]; omega) w)) ?_
   refine TL.as_ ?_
   refine TL.end_ ?_
   exact TX.round (⟨(i + 1, zs), by dsimp only; omega, by dsimp only; omega, hQ, hS, hlz⟩) (by show b + 1 - (i + 1) < b + 1 - i; omega) ⟨rfl, rfl, rfl, rfl, trivial⟩ (fun w1 hw => hw)
  ·refine TC.quiet_ (E' := ?_) (by kernel_rfl) (by kernel_rfl) (fun w hw => hw.drawn _) ?_ ?_
   rotate_left
   ·refine TQ.val rfl rfl rfl (gives_move rfl rfl) ?_
    refine TQ.val rfl rfl rfl (gives_move rfl rfl) ?_
    refine TQ.val rfl rfl rfl (gives_bin rfl rfl rfl (fun w => bin_gtr_t (by omega) w)) ?_
    iterate 6 (first | refine TQ.val rfl rfl rfl (gives_move rfl rfl) ?_ | refine TQ.on rfl rfl rfl ?_)
    refine TQ.val rfl rfl rfl (gives_at (v := .pointer (some ⟨g, j, none⟩)) rfl rfl rfl (fun w => at_row Try.underlying31 us1sz35 g _ _ j (by omega) rfl w)) ?_
    refine TQ.on rfl rfl rfl ?_
    refine TQ.val rfl rfl rfl (pm_loadU (k := 0) (i := j) rfl rfl us1ag35 rfl (by omega)) ?_
    iterate 5 (first | refine TQ.on rfl rfl rfl ?_ | refine TQ.val rfl rfl rfl (gives_move rfl rfl) ?_)
    refine TQ.val rfl rfl rfl (gives_bin rfl rfl rfl (fun w => bin_sub_ (r := ((j - 1 : Nat) : Int)) (by simp only [IntKind.wrap_i64]; omega) w)) ?_
    refine TQ.on rfl rfl rfl ?_
    refine TQ.val rfl rfl rfl (gives_at (v := .pointer (some ⟨g, j - 1, none⟩)) rfl rfl rfl (fun w => at_row Try.underlying31 us1sz35 g _ _ (j - 1) (by omega) rfl w)) ?_
    refine TQ.on rfl rfl rfl ?_
    refine TQ.val rfl rfl rfl (pm_loadU (k := 0) (i := j - 1) rfl rfl us1ag35 rfl (by omega)) ?_
    refine TQ.on rfl rfl rfl ?_
    refine TQ.call (v := .bool true) rfl rfl rfl rfl rfl Try.func68 us1nm68 us1bd68 (fun w1 hw => (less_t _ _ p2 w1).mono fun en w2 ⟨h1, h2⟩ => ⟨h1, hw.below h2⟩) ?_
    refine TQ.val rfl rfl rfl (gives_pick rfl rfl rfl) ?_
    exact TQ.end_
   refine TX.then_ (TC.condT rfl (TC.skip_ (TX.then_ (TC.seq_ (TC.block ?_)))))
   refine TC.held (ls := #[Ff,Ff,Ff,Ff,Ff,Ff,Ff,Ff,Ff,Ff,Ff,Ff,Ff,Ff,Ff,Ff,Ff,Ff]) (fun _ => True) (by kernel_rfl) rfl rfl (fun w hw => hw.drawn _) ?_
   refine TH.tk (listed' := #[Tt,Ff,Ff,Ff,Ff,Ff,Ff,Ff,Ff,Ff,Ff,Ff,Ff,Ff,Ff,Ff,Ff,Ff]) 0 rfl rfl rfl (gives_move rfl rfl) (fun _ _ => trivial) ?_
   refine TH.tk (listed' := #[Tt,Tt,Ff,Ff,Ff,Ff,Ff,Ff,Ff,Ff,Ff,Ff,Ff,Ff,Ff,Ff,Ff,Ff]) 1 rfl rfl rfl (gives_move rfl rfl) (fun _ _ => trivial) ?_
   refine TH.tk (listed' := #[Tt,Tt,Tt,Ff,Ff,Ff,Ff,Ff,Ff,Ff,Ff,Ff,Ff,Ff,Ff,Ff,Ff,Ff]) 2 rfl rfl rfl (gives_move rfl rfl) (fun _ _ => trivial) ?_
   refine TH.tk (listed' := #[Tt,Tt,Tt,Tt,Ff,Ff,Ff,Ff,Ff,Ff,Ff,Ff,Ff,Ff,Ff,Ff,Ff,Ff]) 3 rfl rfl rfl (gives_move rfl rfl) (fun _ _ => trivial) ?_
   refine TH.tk (listed' := #[Tt,Tt,Tt,Tt,Tt,Ff,Ff,Ff,Ff,Ff,Ff,Ff,Ff,Ff,Ff,Ff,Ff,Ff]) 4 rfl rfl rfl (gives_bin rfl rfl rfl (fun w => bin_sub_ (r := ((j - 1 : Nat) : Int)) (by simp only [IntKind.wrap_i64]; omega) w)) (fun _ _ => trivial) ?_
   refine TH.tk (listed' := #[Tt,Tt,Tt,Tt,Tt,Tt,Ff,Ff,Ff,Ff,Ff,Ff,Ff,Ff,Ff,Ff,Ff,Ff]) 5 rfl rfl rfl (gives_move rfl rfl) (fun _ _ => trivial) ?_
   refine TH.tk (listed' := #[Tt,Tt,Tt,Tt,Tt,Tt,Tt,Ff,Ff,Ff,Ff,Ff,Ff,Ff,Ff,Ff,Ff,Ff]) 6 rfl rfl rfl (gives_move rfl rfl) (fun _ _ => trivial) ?_
   refine TH.tk (listed' := #[Tt,Tt,Tt,Tt,Tt,Tt,Tt,Tt,Ff,Ff,Ff,Ff,Ff,Ff,Ff,Ff,Ff,Ff]) 7 rfl rfl rfl (gives_bin rfl rfl rfl (fun w => bin_sub_ (r := ((j - 1 : Nat) : Int)) (by simp only [IntKind.wrap_i64]; omega) w)) (fun _ _ => trivial) ?_
   refine TH.tk (listed' := #[Tt,Tt,Tt,Tt,Tt,Tt,Tt,Tt,Tt,Ff,Ff,Ff,Ff,Ff,Ff,Ff,Ff,Ff]) 8 rfl rfl rfl (gives_at (v := .pointer (some ⟨g, j - 1, none⟩)) rfl rfl rfl (fun w => at_row Try.underlying31 us1sz35 g _ _ (j - 1) (by omega) rfl w)) (fun _ _ => trivial) ?_
   refine TH.tk (listed' := #[Tt,Tt,Tt,Tt,Tt,Tt,Tt,Tt,Tt,Ff,Tt,Ff,Ff,Ff,Ff,Ff,Ff,Ff]) 10 rfl rfl rfl (gives_move rfl rfl) (fun _ _ => trivial) ?_
   refine TH.tk (listed' := #[Tt,Tt,Tt,Tt,Tt,Tt,Tt,Tt,Tt,Ff,Tt,Tt,Ff,Ff,Ff,Ff,Ff,Ff]) 11 rfl rfl rfl (gives_move rfl rfl) (fun _ _ => trivial) ?_
   refine TH.tk (listed' := #[Tt,Tt,Tt,Tt,Tt,Tt,Tt,Tt,Tt,Ff,Tt,Tt,Tt,Ff,Ff,Ff,Ff,Ff]) 12 rfl rfl rfl (gives_at (v := .pointer (some ⟨g, j, none⟩)) rfl rfl rfl (fun w => at_row Try.underlying31 us1sz35 g _ _ j (by omega) rfl w)) (fun _ _ => trivial) ?_
   refine TH.two' (listed1 := #[Tt,Tt,Tt,Tt,Tt,Tt,Tt,Tt,Tt,Tt,Tt,Tt,Tt,Ff,Ff,Ff,Ff,Ff]) (listed2 := #[Tt,Tt,Tt,Tt,Tt,Tt,Tt,Tt,Tt,Ff,Tt,Tt,Tt,Tt,Ff,Ff,Ff,Ff]) 9 13 rfl rfl (by kernel_rfl) rfl rfl ?_ ?_
   ·refine TL.val rfl rfl rfl (pm_loadU (k := 0) (i := j - 1) rfl rfl us1ag35 rfl (by omega)) ?_
    refine TL.end_ ?_
    refine TX.held (fun _ _ => trivial) ?_
    refine TH.only' (listed' := #[Tt,Tt,Tt,Tt,Tt,Tt,Tt,Tt,Tt,Tt,Tt,Tt,Tt,Tt,Ff,Ff,Ff,Ff]) 13 rfl (by kernel_rfl) rfl ?_
    refine TL.val rfl rfl rfl (pm_loadU (k := 0) (i := j) rfl rfl us1ag35 rfl (by omega)) ?_
    refine TL.end_ ?_
    refine TX.held (fun _ _ => trivial) ?_
    refine TH.tk (listed' := #[Tt,Tt,Tt,Tt,Tt,Tt,Tt,Tt,Tt,Tt,Tt,Tt,Tt,Tt,Tt,Ff,Ff,Ff]) 14 rfl rfl rfl (gives_at (v := .pointer (some ⟨g, j, none⟩)) rfl rfl rfl (fun w => at_row Try.underlying31 us1sz35 g _ _ j (by omega) rfl w)) (fun _ _ => trivial) ?_
    refine TH.only' (listed' := #[Tt,Tt,Tt,Tt,Tt,Tt,Tt,Tt,Tt,Tt,Tt,Tt,Tt,Tt,Tt,Tt,Ff,Ff]) 15 rfl (by kernel_rfl) rfl ?_
    refine TL.uset (k := 0) (i := j) rfl rfl rfl rfl rfl rfl us1sz35 (by omega) ?_
    refine TL.end_ ?_
    refine TX.held (fun _ _ => trivial) ?_
    refine TH.tk (listed' := #[Tt,Tt,Tt,Tt,Tt,Tt,Tt,Tt,Tt,Tt,Tt,Tt,Tt,Tt,Tt,Tt,Tt,Ff]) 16 rfl rfl rfl (gives_at (v := .pointer (some ⟨g, j - 1, none⟩)) rfl rfl rfl (fun w => at_row Try.underlying31 us1sz35 g _ _ (j - 1) (by omega) rfl w)) (fun _ _ => trivial) ?_
    refine TH.only' (listed' := #[Tt,Tt,Tt,Tt,Tt,Tt,Tt,Tt,Tt,Tt,Tt,Tt,Tt,Tt,Tt,Tt,Tt,Tt]) 17 rfl (by kernel_rfl) rfl ?_
    refine TL.uset (k := 0) (i := j - 1) rfl rfl rfl rfl rfl rfl us1sz35 (by rw [List.length_set]; omega) ?_
    refine TL.end_ ?_
    refine TX.held (fun _ _ => trivial) ?_
    refine TH.done (by kernel_rfl) ?_
    refine TX.in_normal (TX.then_ (TC.region ?_))
    refine TL.mv ?_
    refine TL.val rfl rfl rfl (gives_bin rfl rfl rfl (fun w => bin_sub_ (r := ((j - 1 : Nat) : Int)) (by simp only [IntKind.wrap_i64]; omega) w)) ?_
    refine TL.as_ ?_
    refine TL.end_ ?_
    exact TX.round (⟨(j - 1, swp zs j (j - 1)), by dsimp only; omega, by dsimp only; omega, hQ.swap (by omega) (by omega) (by omega) (by omega) (by omega), hI.down p1 hj2 (by omega) p2, by rw [swp_len]; exact hlz⟩) (by show j - 1 < j; omega) ⟨rfl, rfl, rfl, rfl, rfl, trivial⟩ (fun w1 hw => hw)
   ·refine TL.val rfl rfl rfl (pm_loadU (k := 0) (i := j) rfl rfl us1ag35 rfl (by omega)) ?_
    refine TL.end_ ?_
    refine TX.held (fun _ _ => trivial) ?_
    refine TH.only' (listed' := #[Tt,Tt,Tt,Tt,Tt,Tt,Tt,Tt,Tt,Tt,Tt,Tt,Tt,Tt,Ff,Ff,Ff,Ff]) 9 rfl (by kernel_rfl) rfl ?_
    refine TL.val rfl rfl rfl (pm_loadU (k := 0) (i := j - 1) rfl rfl us1ag35 rfl (by omega)) ?_
    refine TL.end_ ?_
    refine TX.held (fun _ _ => trivial) ?_
    refine TH.tk (listed' := #[Tt,Tt,Tt,Tt,Tt,Tt,Tt,Tt,Tt,Tt,Tt,Tt,Tt,Tt,Tt,Ff,Ff,Ff]) 14 rfl rfl rfl (gives_at (v := .pointer (some ⟨g, j, none⟩)) rfl rfl rfl (fun w => at_row Try.underlying31 us1sz35 g _ _ j (by omega) rfl w)) (fun _ _ => trivial) ?_
    refine TH.only' (listed' := #[Tt,Tt,Tt,Tt,Tt,Tt,Tt,Tt,Tt,Tt,Tt,Tt,Tt,Tt,Tt,Tt,Ff,Ff]) 15 rfl (by kernel_rfl) rfl ?_
    refine TL.uset (k := 0) (i := j) rfl rfl rfl rfl rfl rfl us1sz35 (by omega) ?_
    refine TL.end_ ?_
    refine TX.held (fun _ _ => trivial) ?_
    refine TH.tk (listed' := #[Tt,Tt,Tt,Tt,Tt,Tt,Tt,Tt,Tt,Tt,Tt,Tt,Tt,Tt,Tt,Tt,Tt,Ff]) 16 rfl rfl rfl (gives_at (v := .pointer (some ⟨g, j - 1, none⟩)) rfl rfl rfl (fun w => at_row Try.underlying31 us1sz35 g _ _ (j - 1) (by omega) rfl w)) (fun _ _ => trivial) ?_
    refine TH.only' (listed' := #[Tt,Tt,Tt,Tt,Tt,Tt,Tt,Tt,Tt,Tt,Tt,Tt,Tt,Tt,Tt,Tt,Tt,Tt]) 17 rfl (by kernel_rfl) rfl ?_
    refine TL.uset (k := 0) (i := j - 1) rfl rfl rfl rfl rfl rfl us1sz35 (by rw [List.length_set]; omega) ?_
    refine TL.end_ ?_
    refine TX.held (fun _ _ => trivial) ?_
    refine TH.done (by kernel_rfl) ?_
    refine TX.in_normal (TX.then_ (TC.region ?_))
    refine TL.mv ?_
    refine TL.val rfl rfl rfl (gives_bin rfl rfl rfl (fun w => bin_sub_ (r := ((j - 1 : Nat) : Int)) (by simp only [IntKind.wrap_i64]; omega) w)) ?_
    refine TL.as_ ?_
    refine TL.end_ ?_
    exact TX.round (⟨(j - 1, swp zs j (j - 1)), by dsimp only; omega, by dsimp only; omega, hQ.swap (by omega) (by omega) (by omega) (by omega) (by omega), hI.down p1 hj2 (by omega) p2, by rw [swp_len]; exact hlz⟩) (by show j - 1 < j; omega) ⟨rfl, rfl, rfl, rfl, rfl, trivial⟩ (fun w1 hw => hw)
  ·have hS : Srt a (i + 1) zs := hI.stop (fun hh => by omega)
   refine TC.quiet_ (E' := ?_) (by kernel_rfl) (by kernel_rfl) (fun w hw => hw.drawn _) ?_ ?_
   rotate_left
   ·refine TQ.val rfl rfl rfl (gives_move rfl rfl) ?_
    refine TQ.val rfl rfl rfl (gives_move rfl rfl) ?_
    refine TQ.val rfl rfl rfl (gives_bin rfl rfl rfl (fun w => bin_gtr_t (by omega) w)) ?_
    iterate 6 (first | refine TQ.val rfl rfl rfl (gives_move rfl rfl) ?_ | refine TQ.on rfl rfl rfl ?_)
    refine TQ.val rfl rfl rfl (gives_at (v := .pointer (some ⟨g, j, none⟩)) rfl rfl rfl (fun w => at_row Try.underlying31 us1sz35 g _ _ j (by omega) rfl w)) ?_
    refine TQ.on rfl rfl rfl ?_
    refine TQ.val rfl rfl rfl (pm_loadU (k := 0) (i := j) rfl rfl us1ag35 rfl (by omega)) ?_
    iterate 5 (first | refine TQ.on rfl rfl rfl ?_ | refine TQ.val rfl rfl rfl (gives_move rfl rfl) ?_)
    refine TQ.val rfl rfl rfl (gives_bin rfl rfl rfl (fun w => bin_sub_ (r := ((j - 1 : Nat) : Int)) (by simp only [IntKind.wrap_i64]; omega) w)) ?_
    refine TQ.on rfl rfl rfl ?_
    refine TQ.val rfl rfl rfl (gives_at (v := .pointer (some ⟨g, j - 1, none⟩)) rfl rfl rfl (fun w => at_row Try.underlying31 us1sz35 g _ _ (j - 1) (by omega) rfl w)) ?_
    refine TQ.on rfl rfl rfl ?_
    refine TQ.val rfl rfl rfl (pm_loadU (k := 0) (i := j - 1) rfl rfl us1ag35 rfl (by omega)) ?_
    refine TQ.on rfl rfl rfl ?_
    refine TQ.call (v := .bool false) rfl rfl rfl rfl rfl Try.func68 us1nm68 us1bd68 (fun w1 hw => (less_f _ _ p2 w1).mono fun en w2 ⟨h1, h2⟩ => ⟨h1, hw.below h2⟩) ?_
    refine TQ.val rfl rfl rfl (gives_pick rfl rfl rfl) ?_
    exact TQ.end_
   refine TX.then_ (TC.condF rfl (TC.exit_ (TX.then_exit (TX.then_exit (TX.in_same (TX.in_normal (TX.then_ (TC.region ?_))))))))
   refine TL.mv ?_
   refine TL.val rfl rfl rfl (gives_bin rfl rfl rfl (fun w => bin_add_ (r := ((i + 1 : Nat) : Int)) (by simp only [IntKind.wrap_i64]; omega) w)) ?_
   refine TL.as_ ?_
   refine TL.end_ ?_
   exact TX.round (⟨(i + 1, zs), by dsimp only; omega, by dsimp only; omega, hQ, hS, hlz⟩) (by show b + 1 - (i + 1) < b + 1 - i; omega) ⟨rfl, rfl, rfl, rfl, trivial⟩ (fun w1 hw => hw)
 ·have q12 := of_decide_eq_false h12
  refine TL.end_ (TX.then_ (TC.condF rfl (TC.exit_ (TX.then_exit (TX.then_exit (TX.in_same ?_))))))
  exact end_none Try.results62 (fun w1 hw => ⟨(), ys, rfl, ⟨hP, hS0.less (by omega)⟩, pm_rowAt hw (k := 0) rfl, hw.mapEnd (fun q hq => by simp [hq])⟩)
end Go.Proofs.Ytleckflmckbheaa
