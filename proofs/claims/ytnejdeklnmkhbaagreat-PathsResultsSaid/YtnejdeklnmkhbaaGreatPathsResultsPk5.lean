/-
  Texts of the proof, joined: DcRs, DcOne, DcShu, DmLaw, PtDia, PtRs, PtAwk, OneLaw, PtMpa, DcRes, SymRdA, DcOdd.
-/
import Derived.Test.YtnejdeklnmkhbaaGreatPathsResultsPk4
import Derived.Test.YtnejdeklnmkhbaaGreatPathsResultsPk3
import Derived.Test.YtnejdeklnmkhbaaGreatPathsResultsPk1
import Derived.Test.YtnejdeklnmkhbaaGreatPathsResultsPk2
set_option linter.unusedVariables false
set_option linter.unusedSimpArgs false
namespace Go.Proofs.YtnejdeklnmkhbaaGreat
open Go.RowKit
set_option maxRecDepth 20000
def NetsOk (ns : List Nt) (PP : List (Sg (Sg Int))) : Prop := 1 ≤ ns.length ∧ ns.length ≤ 2 ∧ ∀ n ∈ ns, NtOk n ∧ n.ps ∈ PP
def netsP (PP : List (Sg (Sg Int))) : List Pc := segG 64 1 (flat sgc) PP ++ segG 30 1 (flat (ic .u32)) (PP.flatMap (·.l))
theorem Pm.netIn {w0 : Base} {w : World} {p : Sg (Sg Int)} {P O : List Pc} {PP : List (Sg (Sg Int))} (h : Pm w0 (netP p ++ (P ++ (netsP PP ++ O))) w) : Pm w0 (P ++ (netsP (p :: PP) ++ O)) w := by
 refine h.permute ?_
 have e : netsP (p :: PP) = .row (.slice p.A p.l.length p.c) 64 1 p.l.length (flat sgc p.l) :: (segG 64 1 (flat sgc) PP ++ (segG 30 1 (flat (ic .u32)) p.l ++ segG 30 1 (flat (ic .u32)) (PP.flatMap (·.l)))) := by
  unfold netsP segG
  rw [List.flatMap_cons, List.map_append]
  rfl
 have h1 : (netP p ++ netsP PP).Perm (netsP (p :: PP)) := by
  rw [e]
  unfold netP netsP
  rw [List.cons_append]
  refine List.Perm.cons _ ?_
  rw [← List.append_assoc, ← List.append_assoc]
  exact List.Perm.append_right _ List.perm_append_comm
 have h2 : (netP p ++ (P ++ (netsP PP ++ O))).Perm (P ++ ((netP p ++ netsP PP) ++ O)) := by
  rw [← List.append_assoc, List.append_assoc (netP p) (netsP PP) O, ← List.append_assoc P]
  exact List.Perm.append_right _ List.perm_append_comm
 exact h2.trans (List.Perm.append_left P (List.Perm.append_right O h1))
theorem nets_mem1 {p : Sg (Sg Int)} {PP : List (Sg (Sg Int))} {T : List Pc} (h : p ∈ PP) : Pc.row (.slice p.A p.l.length p.c) 64 1 p.l.length (flat sgc p.l) ∈ netsP PP ++ T :=
 List.mem_append_left _ (List.mem_append_left _ (List.mem_map_of_mem (f := Sg.pc 64 1 (flat sgc)) h))
theorem nets_mem2 {p : Sg (Sg Int)} {s : Sg Int} {PP : List (Sg (Sg Int))} {T : List Pc} (h : p ∈ PP) (hs : s ∈ p.l) : Pc.row (.slice s.A s.l.length s.c) 30 1 s.l.length (flat (ic .u32) s.l) ∈ netsP PP ++ T :=
 List.mem_append_left _ (List.mem_append_right _ (List.mem_map_of_mem (f := Sg.pc 30 1 (flat (ic .u32))) (List.mem_flatMap.2 ⟨p, h, hs⟩)))
theorem nets_one {n : Nt} (h : NtOk n) : NetsOk [n] [n.ps] := ⟨Nat.le_refl _, by show 1 ≤ 2; decide, fun x hx => by rw [List.mem_singleton.1 hx]; exact ⟨h, List.mem_cons_self⟩⟩
theorem nets_two {n n' : Nt} (h : NtOk n) (h' : NtOk n') : NetsOk ([n] ++ [n']) [n'.ps, n.ps] := ⟨by show 1 ≤ 2; decide, Nat.le_refl _, fun x hx => by
 rcases List.mem_append.1 hx with hx | hx
 ·rw [List.mem_singleton.1 hx]; exact ⟨h, List.mem_cons_of_mem _ List.mem_cons_self⟩
 ·rw [List.mem_singleton.1 hx]; exact ⟨h', List.mem_cons_self⟩⟩
theorem nets_set {ns : List Nt} {PP : List (Sg (Sg Int))} {x y : Nt} {i : Nat} (h : NetsOk ns PP) (hx : ns[i]? = some x) (hy : NtOk y) : NetsOk (ns.set i ⟨x.v, x.dst, x.proto, y.ps, x.last⟩) (y.ps :: PP) := by
 refine ⟨by rw [List.length_set]; exact h.1, by rw [List.length_set]; exact h.2.1, fun z hz => ?_⟩
 rcases List.mem_or_eq_of_mem_set hz with h1 | h1
 ·exact ⟨(h.2.2 z h1).1, List.mem_cons_of_mem _ (h.2.2 z h1).2⟩
 ·rw [h1]
  obtain ⟨⟨h2, h3, _⟩, _⟩ := h.2.2 x (List.mem_of_getElem? hx)
  exact ⟨⟨h2, h3, hy.2.2⟩, List.mem_cons_self⟩
def AnsP (ans dbl : Bool) (src kind left id quo : Int) : Prop := (ans = false ∧ dbl = false ∧ src = 0 ∧ kind = 0 ∧ left = 0 ∧ id = 0 ∧ quo = 0) ∨ (ans = true ∧ 1 ≤ src ∧ src ≤ 167774466 ∧ 1 ≤ kind ∧ kind ≤ 3 ∧ left = 60 ∧ 0 ≤ id ∧ id ≤ 65535 ∧ quo = 1)
def DrR (r : Rs) : Prop := vldRs r = true ∧ r.Ok ∧ r.run = 0 ∧ TrOk ⟨r.v, r.dst, r.proto⟩ ∧ (0 ≤ r.num ∧ r.num ≤ 99) ∧ (0 ≤ r.flow ∧ r.flow ≤ 2) ∧ (1 ≤ r.ttl ∧ r.ttl ≤ 4) ∧ (0 ≤ r.at_ ∧ r.back ≤ 20000) ∧ AnsP r.ans r.dbl r.src r.kind r.left r.id r.quo ∧ r.code = 0
def DrOrd (a b : Rs) : Prop := a.back < b.at_ ∧ (a.v = b.v → a.num < b.num)
def DrawnOk (m : Nat) (l : List Rs) : Prop := (∀ r ∈ l, DrR r) ∧ l.Pairwise DrOrd ∧ l.length ≤ m
def OutOk (l : List Rs) (at_ n0 n1 : Nat) : Prop := (∀ r ∈ l, DrR r ∧ r.back ≤ (at_ : Int) ∧ (r.v = 0 → r.num < (n0 : Int)) ∧ (r.v = 1 → r.num < (n1 : Int))) ∧ l.Pairwise DrOrd ∧ n0 + n1 = l.length
theorem OutOk.nil (a : Nat) : OutOk [] a 0 0 := ⟨fun r hr => absurd hr List.not_mem_nil, .nil, rfl⟩
theorem OutOk.ok {l : List Rs} {a n0 n1 m : Nat} (h : OutOk l a n0 n1) (hm : l.length ≤ m) : DrawnOk m l := ⟨fun r hr => (h.1 r hr).1, h.2.1, hm⟩
theorem ans_vld {r : Rs} (h : r.inRange) (hd : r.dst ≠ 0) (hp : r.proto = 17 ∨ r.proto = 1 ∨ r.proto = 6) (ha : AnsP r.ans r.dbl r.src r.kind r.left r.id r.quo) (hc : r.code = 0) : vldRs r = true := by
 have h1 : chkR r = 0 := by
  unfold chkR
  rw [if_neg (fun h1 => h1 h), if_neg (fun h1 => h1 (by omega))]
  rcases ha with ⟨a1, a2, a3, a4, a5, a6, a7⟩ | ⟨a1, a2, a3, a4, a5, a6, a7, a8, a9⟩
  ·have hn : r.noAns = true := by unfold Rs.noAns; simp [a3, a4, a5, a6, a7, hc]
   rw [if_neg (by rw [a1, a2, hn]; simp), if_neg (by rw [a1]; simp)]
  ·have ho : r.ansOk := by unfold Rs.ansOk; omega
   rw [if_neg (by rw [a1]; simp), if_neg (fun h2 => h2.2 ho)]
 unfold vldRs
 simp only [h1, decide_true, Bool.true_and, Bool.and_eq_true, decide_eq_true_eq, Bool.or_eq_true, Bool.not_eq_true']
 refine ⟨hd, ?_⟩
 rcases ha with ⟨a1, _⟩ | ⟨a1, a2, _⟩
 ·exact .inl a1
 ·exact .inr (by omega)
theorem OutOk.snoc {l : List Rs} {at0 at1 n0 n1 n2 n3 num f tq bq : Nat} {v dst proto : Int} {an db : Bool} {sr kd lf ie qu : Int} (h : OutOk l at0 n0 n1) (ht : TrOk ⟨v, dst, proto⟩)
  (hnum : (v = 0 ∧ num = n0) ∨ (v = 1 ∧ num = n1)) (hn : (v = 0 ∧ n2 = n0 + 1 ∧ n3 = n1) ∨ (v = 1 ∧ n2 = n0 ∧ n3 = n1 + 1)) (ha : AnsP an db sr kd lf ie qu) (hat : at0 < at1) (hf : f ≤ 2) (htq : tq ≤ 3) (hb : bq ≤ 3) (hbd : at1 ≤ 19000 ∧ l.length ≤ 99) :
  OutOk (l ++ [⟨v, 0, (num : Int), (at1 : Int), dst, proto, (f : Int), ((1 + tq : Nat) : Int), an, db, ((at1 + 5 * (1 + tq) + bq : Nat) : Int), sr, kd, 0, lf, ie, qu⟩]) (at1 + 5 * (1 + tq) + bq) n2 n3 := by
 have ht2 := ht
 unfold TrOk at ht2
 dsimp only at ht2
 have hl := h.2.2
 have hso : 0 ≤ sr ∧ sr ≤ 4294967295 := by
  rcases ha with ⟨_, _, a3, _⟩ | ⟨_, a2, a3, _⟩ <;> omega
 have hnew : DrR ⟨v, 0, (num : Int), (at1 : Int), dst, proto, (f : Int), ((1 + tq : Nat) : Int), an, db, ((at1 + 5 * (1 + tq) + bq : Nat) : Int), sr, kd, 0, lf, ie, qu⟩ := by
  refine ⟨ans_vld ?_ (by dsimp only; omega) (by dsimp only; omega) ha rfl, ?_, rfl, ht, ?_, ?_, ?_, ?_, ha, rfl⟩
  ·unfold Rs.inRange; dsimp only; omega
  ·unfold Rs.Ok; dsimp only; omega
  ·dsimp only; omega
  ·dsimp only; omega
  ·dsimp only; omega
  ·dsimp only; omega
 refine ⟨fun r hr => ?_, List.pairwise_append.2 ⟨h.2.1, List.pairwise_singleton _ _, fun a ha2 b hb2 => ?_⟩, by rw [List.length_append]; show n2 + n3 = l.length + 1; omega⟩
 ·rcases List.mem_append.1 hr with hr | hr
  ·obtain ⟨h1, h2, h3, h4⟩ := h.1 r hr
   exact ⟨h1, by omega, fun e => by have := h3 e; omega, fun e => by have := h4 e; omega⟩
  ·rw [List.mem_singleton.1 hr]
   refine ⟨hnew, Int.le_refl _, fun e => ?_, fun e => ?_⟩
   ·dsimp only at e ⊢; omega
   ·dsimp only at e ⊢; omega
 ·rw [List.mem_singleton.1 hb2]
  obtain ⟨h1, h2, h3, h4⟩ := h.1 a ha2
  refine ⟨by dsimp only; omega, fun e => ?_⟩
  dsimp only at e ⊢
  rcases hnum with ⟨e1, e2⟩ | ⟨e1, e2⟩
  ·have := h3 (by omega); omega
  ·have := h4 (by omega); omega
theorem drenm74 : (Tryz.f74.name == "runtime.NumGoroutine") = false := by decide
theorem drebd74 : Tryz.f74.body.isNone = false := rfl
theorem drebs121_1_73147 (a0_0 : Int) (a0_1 : Int) (a0_2 : Int) (a0_3 : Option Addr) (a0_3n a0_3c : Nat) (a0_4 : Int) (w : World) : (Instr.buildSlice 121 1 #[(0, .agg #[.int .i64 a0_0, .int .u32 a0_1, .int .i64 a0_2, .slice a0_3 a0_3n a0_3c, .int .u32 a0_4])]).run Tryz.prog w = .ok (.slice (some ⟨w.heap.size, 0, none⟩) 1 1) (w.alloc (.cells [.int .i64 a0_0, .int .u32 a0_1, .int .i64 a0_2, .slice a0_3 a0_3n a0_3c, .int .u32 a0_4].toArray 119)) := by kernel_rfl
theorem dreel121 : Elem Tryz.prog 121 119 5 56 := Elem.mk' Tryz.underlying121 (z := .agg #[.int .i64 0, .int .u32 0, .int .i64 0, .slice none 0 0, .int .u32 0]) (by kernel_rfl) rfl (by omega) (by omega)
theorem drezv122 (w : World) : (zeroValue 122).run Tryz.prog w = .ok (.agg #[.int .i64 0, .int .i64 0, .int .i64 0, .int .i64 0, .int .i64 0, .int .i64 0, .int .i64 0, .int .i64 0, .int .i64 0, .int .i64 0, .int .i64 0, .int .i64 0, .int .i64 0, .int .i64 0, .int .i64 0, .int .i64 0]) w := rfl
theorem drefv119_1_92971 (a0 : Int) (a1 : Int) (a2 : Int) (a3 : Option Addr) (a3n a3c : Nat) (a4 : Int) (w : World) : (Instr.field 119 (.agg #[.int .i64 a0, .int .u32 a1, .int .i64 a2, .slice a3 a3n a3c, .int .u32 a4]) 1).run Tryz.prog w = .ok (.slice a3 a3n a3c) w := by kernel_rfl
theorem drebld47_74773 (a0_0 : Int) (a1_0 : Int) (a2_0 : Int) (a3_0 : Int) (a4_0 : Int) (a5_0 : Int) (a6_0 : Int) (a7_0 : Int) (w : World) : (Instr.build 47 #[(0, .int .i64 a0_0), (1, .int .i64 a1_0), (2, .int .i64 a2_0), (3, .int .i64 a3_0), (4, .int .u32 a4_0), (5, .int .i64 a5_0), (6, .int .i64 a6_0), (7, .int .i64 a7_0)]).run Tryz.prog w = .ok (.agg #[.int .i64 a0_0, .int .i64 a1_0, .int .i64 a2_0, .int .i64 a3_0, .int .u32 a4_0, .int .i64 a5_0, .int .i64 a6_0, .int .i64 a7_0, .bool false, .bool false, .int .i64 0, .int .u32 0, .int .i64 0, .int .i64 0, .int .i64 0, .int .i64 0, .int .i64 0]) w := by kernel_rfl
theorem dreone_i64i64i64i64u32i64i64i64bbi64u32i64i64i64i64i64 {a0 : Int} {a1 : Int} {a2 : Int} {a3 : Int} {a4 : Int} {a5 : Int} {a6 : Int} {a7 : Int} {a8 : Bool} {a9 : Bool} {a10 : Int} {a11 : Int} {a12 : Int} {a13 : Int} {a14 : Int} {a15 : Int} {a16 : Int} : ∀ u ∈ [(.int .i64 a0 : Value), .int .i64 a1, .int .i64 a2, .int .i64 a3, .int .u32 a4, .int .i64 a5, .int .i64 a6, .int .i64 a7, .bool a8, .bool a9, .int .i64 a10, .int .u32 a11, .int .i64 a12, .int .i64 a13, .int .i64 a14, .int .i64 a15, .int .i64 a16], u.oneCell' = true := by
 intro u hu
 simp only [List.mem_cons, List.not_mem_nil, or_false] at hu
 rcases hu with rfl | rfl | rfl | rfl | rfl | rfl | rfl | rfl | rfl | rfl | rfl | rfl | rfl | rfl | rfl | rfl | rfl <;> rfl
theorem dreone_i64 {a0 : Int} : ∀ u ∈ [(.int .i64 a0 : Value)], u.oneCell' = true := by
 intro u hu
 rw [List.mem_singleton] at hu
 subst hu; rfl
theorem dresz4 (w : World) : (sizeOf 4).run Tryz.prog w = .ok 1 w := rfl
theorem dreone_b {a0 : Bool} : ∀ u ∈ [(.bool a0 : Value)], u.oneCell' = true := by
 intro u hu
 rw [List.mem_singleton] at hu
 subst hu; rfl
theorem drebld45_50928 (a0_0 : Int) (a1_0 : Int) (a3_0 : Int) (a4_0 : Int) (a5_0 : Int) (w : World) : (Instr.build 45 #[(0, .int .u32 a0_0), (1, .int .i64 a1_0), (3, .int .i64 a3_0), (4, .int .i64 a4_0), (5, .int .i64 a5_0)]).run Tryz.prog w = .ok (.agg #[.int .u32 a0_0, .int .i64 a1_0, .int .i64 0, .int .i64 a3_0, .int .i64 a4_0, .int .i64 a5_0]) w := by kernel_rfl
theorem dresz45 (w : World) : (sizeOf 45).run Tryz.prog w = .ok 6 w := rfl
theorem dreone_u32i64i64i64i64i64 {a0 : Int} {a1 : Int} {a2 : Int} {a3 : Int} {a4 : Int} {a5 : Int} : ∀ u ∈ [(.int .u32 a0 : Value), .int .i64 a1, .int .i64 a2, .int .i64 a3, .int .i64 a4, .int .i64 a5], u.oneCell' = true := by
 intro u hu
 simp only [List.mem_cons, List.not_mem_nil, or_false] at hu
 rcases hu with rfl | rfl | rfl | rfl | rfl | rfl <;> rfl
set_option maxHeartbeats 1000000 in
theorem results_cod (cb : Nat) (w : World) (hC : Cod w cb) (m : Nat) (stb : Bool) (hm : m ≤ 100) :
  Calls Tryz.prog 23 #[.pointer (some ⟨cb, 0, none⟩), .int .i64 ((m : Nat) : Int), .bool stb] w fun e w' => ∃ x : {y : (Option Addr × Nat) × List Rs // DrawnOk m y.2 ∧ y.2.length ≤ y.1.2 ∧ y.1.2 ≤ maxLen}, e = .returned (.slice x.1.1.1 x.1.2.length x.1.1.2) ∧ Codr (fun w => Cod w cb) cb w ([.row (.slice x.1.1.1 x.1.2.length x.1.1.2) 47 17 x.1.2.length (flat Rs.cells x.1.2)]) w' := by
 refine begin_ (vs := [.pointer (some ⟨cb, 0, none⟩), .int .i64 ((m : Nat) : Int), .bool stb]) (I := Pm ⟨w, cb⟩ (.abs cb (fun w => Cod w cb) :: oths cb w)) Tryz.func23 rfl rfl rfl ?_ (Pm.codes hC (cod_cells hC) (cod_stab cb))
 refine TC.seq_ (TC.region ?_)
 refine TL.as_ ?_
 refine TL.end_ (TX.then_ (TC.seq_ (TC.region ?_)))
 refine TL.mv ?_
 refine TL.call (α := {y : Nt // NtOk y}) (r := fun x => .agg x.1.cells.toArray) (I' := fun x => Pm ⟨w, cb⟩ ([.abs cb (fun w => Cod w cb)] ++ (netsP (x.1.ps :: ([])) ++ oths cb w))) rfl rfl rfl rfl rfl Tryz.func74 drenm74 drebd74 (fun w1 hw => (scene_cod cb w1 (hw.at_ (k := 0) rfl).1).mono fun e w2 ⟨x, h1, h2⟩ => ⟨x, h1, Pm.netIn (P := [.abs cb (fun w => Cod w cb)]) (PP := ([])) (O := oths cb w) (hw.cods (k := 0) rfl h2 (netP_noAbs _))⟩) ?_
 rintro ⟨sc0, hsc0⟩
 dsimp only
 refine TL.prowS (e := 119) (size := 5) (cs := flat Nt.cells [sc0]) rfl rfl rfl rfl rfl (fun w => drebs121_1_73147 _ _ _ _ _ _ _ w) (by decide) rfl (fun g21 => ?_)
 refine TL.as_ ?_
 refine TL.end_ (TX.then_ ?_)
 refine TC.join (α := {y : (Option Addr × Nat) × List Nt × List (Sg (Sg Int)) // NetsOk y.2.1 y.2.2 ∧ y.2.1.length ≤ y.1.2 ∧ y.1.2 ≤ maxLen}) (fun y => [(0, .pointer (some ⟨cb, 0, none⟩)), (1, .int .i64 ((m : Nat) : Int)), (2, .bool stb), (6, .slice none 0 0), (7, .slice y.1.1.1 y.1.2.1.length y.1.1.2)]) (fun y => Pm ⟨w, cb⟩ ([.row (.slice y.1.1.1 y.1.2.1.length y.1.1.2) 119 5 y.1.2.1.length (flat Nt.cells y.1.2.1), .abs cb (fun w => Cod w cb)] ++ (netsP y.1.2.2 ++ oths cb w))) ?_ ?_
 ·refine TC.seq_ (TC.region ?_)
  refine TL.mv ?_
  refine TL.pcallCod (k := 1) (α := Bool) (fun x => .bool x) (fun x => []) rfl rfl rfl rfl rfl Tryz.func13 dntnm13 dntbd13 rfl (fun w1 hw hC1 => dbool_cod cb w1 hC1 3 (by decide)) ?_
  rintro b0
  dsimp only [List.cons_append, List.nil_append]
  refine TL.end_ (TX.then_ ?_)
  refine TC.split (t := b0) rfl (fun c23 => ?_) (fun c23 => ?_)
  ·refine TC.region ?_
   refine TL.mv ?_
   refine TL.mv ?_
   refine TL.call (α := {y : Nt // NtOk y}) (r := fun x => .agg x.1.cells.toArray) (I' := fun x => Pm ⟨w, cb⟩ ([.row (.slice (some ⟨g21, 0, none⟩) 1 1) 119 5 1 (flat Nt.cells [sc0]), .abs cb (fun w => Cod w cb)] ++ (netsP (x.1.ps :: (sc0.ps :: ([]))) ++ oths cb w))) rfl rfl rfl rfl rfl Tryz.func74 drenm74 drebd74 (fun w1 hw => (scene_cod cb w1 (hw.at_ (k := 1) rfl).1).mono fun e w2 ⟨x, h1, h2⟩ => ⟨x, h1, Pm.netIn (P := [.row (.slice (some ⟨g21, 0, none⟩) 1 1) 119 5 1 (flat Nt.cells [sc0]), .abs cb (fun w => Cod w cb)]) (PP := (sc0.ps :: ([]))) (O := oths cb w) (hw.cods (k := 1) rfl h2 (netP_noAbs _))⟩) ?_
   rintro ⟨sc1, hsc1⟩
   dsimp only
   refine TL.prowS (e := 119) (size := 5) (cs := flat Nt.cells [sc1]) rfl rfl rfl rfl rfl (fun w => drebs121_1_73147 _ _ _ _ _ _ _ w) (by decide) rfl (fun g27 => ?_)
   refine TL.appendT (k := 1) rfl rfl rfl rfl Tryz.underlying121 dreel121 rfl rfl rfl (fun w1 hw => pm_reads hw (k := 0) rfl) (flat_one nt_cel _) (by show _ * 56 ≤ _; omega) (1 + 1) (rfl) (flat Nt.cells (([sc0]) ++ [sc1])) ((flat_app _ _).symm) (fun A28 c28 hA281 hA282 => ?_)
   refine TL.as_ ?_
   refine TL.end_ ?_
   exact TX.joined (⟨((A28, c28), ([sc0]) ++ [sc1], (sc1.ps :: (sc0.ps :: ([])))), nets_two hsc0 hsc1, hA281, hA282⟩) (⟨rfl, rfl, rfl, rfl, rfl, trivial⟩) (fun w1 hw => hw.sel (.cons _ (.cons_cons _ (.cons_cons _ (List.Sublist.refl _)))))
  ·refine TC.skip_ ?_
   exact TX.joined (⟨(((some ⟨g21, 0, none⟩), 1), [sc0], (sc0.ps :: ([]))), nets_one hsc0, by show 1 ≤ 1; decide, by show 1 ≤ maxLen; unfold maxLen; decide⟩) (⟨rfl, rfl, rfl, rfl, rfl, trivial⟩) (fun w1 hw => hw)
 ·rintro ⟨⟨⟨An, cn⟩, ns, PP⟩, hns, hnc, hnm⟩
  dsimp only at hns hnc hnm ⊢
  have hn1 := hns.1
  have hn2 := hns.2.1
  refine TC.seq_ ?_
  refine TC.fact (p := ∃ g, An = some ⟨g, 0, none⟩) (fun w1 hw => rowA hw (k := 0) rfl (by omega)) ?_
  rintro ⟨g_An, rfl⟩
  refine TC.region ?_
  refine TL.as_ ?_
  refine TL.end_ (TX.then_ (TC.seq_ (TC.region ?_)))
  refine TL.mv ?_
  refine TL.pcallCod (k := 1) (α := {q9 : Nat // q9 ≤ 65535 ∧ (1 ≤ (50 : Int) → (q9 : Int) < 50)}) (fun q9 => .int .i64 ((q9.1 : Nat) : Int)) (fun q9 => []) rfl rfl rfl rfl rfl Tryz.func25 ddrnm25 ddrbd25 rfl (fun w1 hw hC1 => next_cod cb w1 50 hC1) ?_
  rintro ⟨a0, ha01, ha02⟩
  dsimp only [List.cons_append, List.nil_append]
  refine TL.mv ?_
  refine TL.pcallCod (k := 1) (α := {q9 : Nat // q9 ≤ 65535 ∧ (1 ≤ (700 : Int) → (q9 : Int) < 700)}) (fun q9 => .int .i64 ((q9.1 : Nat) : Int)) (fun q9 => []) rfl rfl rfl rfl rfl Tryz.func25 ddrnm25 ddrbd25 rfl (fun w1 hw hC1 => next_cod cb w1 700 hC1) ?_
  rintro ⟨i0, hi01, hi02⟩
  dsimp only [List.cons_append, List.nil_append]
  refine TL.val rfl rfl rfl (gives_bin rfl rfl rfl (fun w => bin_mul_ (r := ((100 * i0 : Nat) : Int)) (by simp only [IntKind.wrap_i64]; omega) w)) ?_
  refine TL.as_ ?_
  refine TL.as_ ?_
  refine TL.end_ (TX.then_ (TC.seq_ (TC.region ?_)))
  refine TL.pnew rfl rfl rfl (exec_alloc (cs := [.int .i64 0, .int .i64 0, .int .i64 0, .int .i64 0, .int .i64 0, .int .i64 0, .int .i64 0, .int .i64 0, .int .i64 0, .int .i64 0, .int .i64 0, .int .i64 0, .int .i64 0, .int .i64 0, .int .i64 0, .int .i64 0]) rfl drezv122 rfl) (fun g11 => ?_)
  refine TL.end_ (TX.then_ (TC.seq_ (TC.seq_ (TC.region ?_))))
  refine TL.mv ?_
  refine TL.mv ?_
  refine TL.val rfl rfl rfl (gives_bin rfl rfl rfl (fun w => bin_add_ (r := ((m + 1 : Nat) : Int)) (by simp only [IntKind.wrap_i64]; omega) w)) ?_
  refine TL.pcallCod (k := 2) (α := {q9 : Nat // q9 ≤ 65535 ∧ (1 ≤ (((m + 1 : Nat) : Int) : Int) → (q9 : Int) < ((m + 1 : Nat) : Int))}) (fun q9 => .int .i64 ((q9.1 : Nat) : Int)) (fun q9 => []) rfl rfl rfl rfl rfl Tryz.func25 ddrnm25 ddrbd25 rfl (fun w1 hw hC1 => next_cod cb w1 ((m + 1 : Nat) : Int) hC1) ?_
  rintro ⟨k0, hk01, hk02⟩
  dsimp only [List.cons_append, List.nil_append]
  refine TL.as_ ?_
  refine TL.end_ (TX.then_ (TC.block ?_))
  refine TC.nilrow 47 17 ?_
  refine TC.loop_ (α := {y : Nat × Nat × Nat × (Nat × Nat) × (Option Addr × Nat) × List Rs × List Nt × List (Sg (Sg Int)) // (y.1 + y.2.2.2.2.2.1.length ≤ m ∧ y.2.1 ≤ 100 + 100 * y.2.2.2.2.2.1.length ∧ y.2.2.1 ≤ 70000 + 100 * y.2.2.2.2.2.1.length) ∧ OutOk y.2.2.2.2.2.1 y.2.1 y.2.2.2.1.1 y.2.2.2.1.2 ∧ NetsOk y.2.2.2.2.2.2.1 y.2.2.2.2.2.2.2 ∧ y.2.2.2.2.2.2.1.length = ns.length ∧ y.2.2.2.2.2.1.length ≤ y.2.2.2.2.1.2 ∧ y.2.2.2.2.1.2 ≤ maxLen}) (fun y => [(0, .pointer (some ⟨cb, 0, none⟩)), (2, .bool stb), (7, .slice (some ⟨g_An, 0, none⟩) ns.length cn), (8, .slice y.1.2.2.2.2.1.1 y.1.2.2.2.2.2.1.length y.1.2.2.2.2.1.2), (9, .int .i64 ((y.1.2.1 : Nat) : Int)), (10, .int .i64 ((y.1.2.2.1 : Nat) : Int)), (12, .int .i64 ((y.1.1 : Nat) : Int)), (11, .pointer (some ⟨g11, 0, none⟩))]) (fun y => Pm ⟨w, cb⟩ ([.row (.slice y.1.2.2.2.2.1.1 y.1.2.2.2.2.2.1.length y.1.2.2.2.2.1.2) 47 17 y.1.2.2.2.2.2.1.length (flat Rs.cells y.1.2.2.2.2.2.1), .blk g11 122 [.int .i64 ((y.1.2.2.2.1.1 : Nat) : Int), .int .i64 ((y.1.2.2.2.1.2 : Nat) : Int), .int .i64 0, .int .i64 0, .int .i64 0, .int .i64 0, .int .i64 0, .int .i64 0, .int .i64 0, .int .i64 0, .int .i64 0, .int .i64 0, .int .i64 0, .int .i64 0, .int .i64 0, .int .i64 0], .row (.slice (some ⟨g_An, 0, none⟩) ns.length cn) 119 5 ns.length (flat Nt.cells y.1.2.2.2.2.2.2.1), .abs cb (fun w => Cod w cb)] ++ (netsP y.1.2.2.2.2.2.2.2 ++ oths cb w))) (fun y => y.1.1) (⟨(k0, a0, 100 * i0, (0, 0), (none, 0), [], ns, PP), ⟨by dsimp only [List.length_nil]; omega, by dsimp only [List.length_nil]; omega, by dsimp only [List.length_nil]; omega⟩, OutOk.nil _, hns, rfl, Nat.le_refl _, Nat.zero_le _⟩) ⟨rfl, rfl, rfl, rfl, rfl, rfl, rfl, rfl, trivial⟩ (fun w1 hw => hw) ?_
  rintro ⟨⟨k, at0, idn, ⟨n0, n1⟩, ⟨Ar, cr⟩, out, ns1, P1⟩, ⟨hk, hat, hid⟩, hout, hns1, hnl1, hrc, hrm⟩
  dsimp only at hk hat hid hout hns1 hnl1 hrc hrm ⊢
  refine TC.seq_ (TC.seq_ (TC.region ?_))
  refine TL.mv ?_
  refine TL.vsplit rfl rfl rfl (gives_bin rfl rfl rfl (fun w => bin_gtr w)) (fun h39 => ?_) (fun h39 => ?_)
  ·have q39 := of_decide_eq_true h39
   refine TL.end_ (TX.then_ (TC.condT rfl (TC.skip_ (TX.then_ (TC.seq_ (TC.block (TC.seq_ (TC.region ?_))))))))
   refine TL.mv ?_
   refine TL.mv ?_
   refine TL.val rfl rfl rfl (gives_len rfl Tryz.underlying121 rfl) ?_
   refine TL.pcallCod (k := 3) (α := {q9 : Nat // q9 ≤ 65535 ∧ (1 ≤ ((ns.length : Nat) : Int) → (q9 : Int) < (ns.length : Nat))}) (fun q9 => .int .i64 ((q9.1 : Nat) : Int)) (fun q9 => []) rfl rfl rfl rfl rfl Tryz.func25 ddrnm25 ddrbd25 rfl (fun w1 hw hC1 => next_cod cb w1 (ns.length : Nat) hC1) ?_
   rintro ⟨ix, hix1, hix2⟩
   dsimp only [List.cons_append, List.nil_append]
   refine TL.as_ ?_
   refine TL.end_ (TX.then_ ?_)
   refine TC.join (α := {y : List Nt × List (Sg (Sg Int)) // NetsOk y.1 y.2 ∧ y.1.length = ns.length}) (fun y => [(0, .pointer (some ⟨cb, 0, none⟩)), (2, .bool stb), (7, .slice (some ⟨g_An, 0, none⟩) ns.length cn), (8, .slice Ar out.length cr), (9, .int .i64 ((at0 : Nat) : Int)), (10, .int .i64 ((idn : Nat) : Int)), (11, .pointer (some ⟨g11, 0, none⟩)), (12, .int .i64 ((k : Nat) : Int)), (13, .int .i64 ((ix : Nat) : Int))]) (fun y => Pm ⟨w, cb⟩ ([.row (.slice Ar out.length cr) 47 17 out.length (flat Rs.cells out), .blk g11 122 [.int .i64 ((n0 : Nat) : Int), .int .i64 ((n1 : Nat) : Int), .int .i64 0, .int .i64 0, .int .i64 0, .int .i64 0, .int .i64 0, .int .i64 0, .int .i64 0, .int .i64 0, .int .i64 0, .int .i64 0, .int .i64 0, .int .i64 0, .int .i64 0, .int .i64 0], .row (.slice (some ⟨g_An, 0, none⟩) ns.length cn) 119 5 ns.length (flat Nt.cells y.1.1), .abs cb (fun w => Cod w cb)] ++ (netsP y.1.2 ++ oths cb w))) ?_ ?_
   ·refine TC.seq_ (TC.region ?_)
    refine TL.mv ?_
    cases stb with
    | true =>
     iterate 5 (first | refine TL.of ?_ | refine TL.mv ?_ | refine TL.pk ?_ | refine TL.val rfl rfl rfl (gives_boolnot rfl rfl) ?_)
     refine TL.end_ (TX.then_ (TC.condF rfl (TC.skip_ ?_)))
     exact TX.joined (⟨(ns1, P1), hns1, hnl1⟩) (⟨rfl, rfl, rfl, rfl, rfl, rfl, rfl, rfl, rfl, trivial⟩) (fun w1 hw => hw)
    | false =>
     iterate 5 (first | refine TL.gu ?_ | refine TL.mv ?_ | refine TL.val rfl rfl rfl (gives_boolnot rfl rfl) ?_)
     refine TL.pcallCod (k := 3) (α := Bool) (fun x => .bool x) (fun x => []) rfl rfl rfl rfl rfl Tryz.func13 dntnm13 dntbd13 rfl (fun w1 hw hC1 => dbool_cod cb w1 hC1 12 (by decide)) ?_
     rintro b1
     dsimp only [List.cons_append, List.nil_append]
     refine TL.pk ?_
     refine TL.end_ (TX.then_ ?_)
     refine TC.split (t := b1) rfl (fun c51 => ?_) (fun c51 => ?_)
     ·refine TC.region ?_
      refine TL.mv ?_
      refine TL.mv ?_
      refine TL.mv ?_
      refine TL.call (α := {y : Nt // NtOk y}) (r := fun x => .agg x.1.cells.toArray) (I' := fun x => Pm ⟨w, cb⟩ ([.row (.slice Ar out.length cr) 47 17 out.length (flat Rs.cells out), .blk g11 122 [.int .i64 ((n0 : Nat) : Int), .int .i64 ((n1 : Nat) : Int), .int .i64 0, .int .i64 0, .int .i64 0, .int .i64 0, .int .i64 0, .int .i64 0, .int .i64 0, .int .i64 0, .int .i64 0, .int .i64 0, .int .i64 0, .int .i64 0, .int .i64 0, .int .i64 0], .row (.slice (some ⟨g_An, 0, none⟩) ns.length cn) 119 5 ns.length (flat Nt.cells ns1), .abs cb (fun w => Cod w cb)] ++ (netsP (x.1.ps :: P1) ++ oths cb w))) rfl rfl rfl rfl rfl Tryz.func74 drenm74 drebd74 (fun w1 hw => (scene_cod cb w1 (hw.at_ (k := 3) rfl).1).mono fun e w2 ⟨x, h1, h2⟩ => ⟨x, h1, Pm.netIn (P := [.row (.slice Ar out.length cr) 47 17 out.length (flat Rs.cells out), .blk g11 122 [.int .i64 ((n0 : Nat) : Int), .int .i64 ((n1 : Nat) : Int), .int .i64 0, .int .i64 0, .int .i64 0, .int .i64 0, .int .i64 0, .int .i64 0, .int .i64 0, .int .i64 0, .int .i64 0, .int .i64 0, .int .i64 0, .int .i64 0, .int .i64 0, .int .i64 0], .row (.slice (some ⟨g_An, 0, none⟩) ns.length cn) 119 5 ns.length (flat Nt.cells ns1), .abs cb (fun w => Cod w cb)]) (PP := P1) (O := oths cb w) (hw.cods (k := 3) rfl h2 (netP_noAbs _))⟩) ?_
      rintro ⟨sc2, hsc2⟩
      dsimp only
      refine TL.val rfl rfl rfl (gives_fieldV (v := .slice sc2.ps.A sc2.ps.l.length sc2.ps.c) rfl rfl (fun w => drefv119_1_92971 _ _ _ _ _ _ _ w)) ?_
      have hi57 : ix < ns1.length := by omega
      obtain ⟨x57, hx57⟩ : ∃ x57, ns1[ix]? = some x57 := ⟨_, List.getElem?_eq_getElem hi57⟩
      refine TL.val rfl rfl rfl (gives_at (v := .pointer (some ⟨g_An, 0 + ix * 5, none⟩)) rfl rfl rfl (fun w => at_el Tryz.underlying121 dntsz119 rfl _ _ ix (by omega) rfl w)) ?_
      refine TL.val rfl rfl rfl (gives_field (v := .pointer (some ⟨g_An, 0 + ix * 5 + 3, none⟩)) rfl rfl (fun w => dntfld119_1 _ _ w)) ?_
      refine TL.rowset (k := 2) (vs := [.slice sc2.ps.A sc2.ps.l.length sc2.ps.c]) (xs' := flat Nt.cells (ns1.set ix (⟨x57.v, x57.dst, x57.proto, sc2.ps, x57.last⟩ : Nt))) rfl rfl rfl rfl rfl rfl rfl dntsz117 pbdone_s (by rw [flat_len nt_cel]; show 0 + ix * 5 + 3 + 1 ≤ _; omega) (flat_put nt_cel (q := 3) (y := (⟨x57.v, x57.dst, x57.proto, sc2.ps, x57.last⟩ : Nt)) hx57 (by show 3 + 1 ≤ 5; decide) rfl) ?_
      try dsimp only [List.set_cons_zero, List.set_cons_succ]
      refine TL.end_ ?_
      exact TX.joined (⟨(ns1.set ix (⟨x57.v, x57.dst, x57.proto, sc2.ps, x57.last⟩ : Nt), (sc2.ps :: P1)), nets_set hns1 hx57 hsc2, by dsimp only; rw [List.length_set]; exact hnl1⟩) (⟨rfl, rfl, rfl, rfl, rfl, rfl, rfl, rfl, rfl, trivial⟩) (fun w1 hw => hw)
     ·refine TC.skip_ ?_
      exact TX.joined (⟨(ns1, P1), hns1, hnl1⟩) (⟨rfl, rfl, rfl, rfl, rfl, rfl, rfl, rfl, rfl, trivial⟩) (fun w1 hw => hw)
   ·rintro ⟨⟨ns2, P2⟩, hns2, hnl2⟩
    dsimp only at hns2 hnl2 ⊢
    refine TC.seq_ (TC.region ?_)
    refine TL.mv ?_
    refine TL.mv ?_
    have hi61 : ix < ns2.length := by omega
    obtain ⟨x61, hx61⟩ : ∃ x61, ns2[ix]? = some x61 := ⟨_, List.getElem?_eq_getElem hi61⟩
    refine TL.val rfl rfl rfl (gives_at (v := .pointer (some ⟨g_An, 0 + ix * 5, none⟩)) rfl rfl rfl (fun w => at_el Tryz.underlying121 dntsz119 rfl _ _ ix (by omega) rfl w)) ?_
    refine TL.val rfl rfl rfl (gives_loadR (off := 0 + ix * 5) rfl rfl dntag119 dntsz119 (nt_cel.len x61) (fun w1 hw j9 u9 h9 => flat_row nt_cel hw (q := 2) rfl hx61 j9 u9 h9)) ?_
    refine TL.pnew rfl rfl rfl (exec_alloc (cs := [.int .i64 0, .int .u32 0, .int .i64 0, .slice none 0 0, .int .u32 0]) rfl dntzv119 rfl) (fun g14 => ?_)
    refine TL.pstore (k := 0) (vs := x61.cells) rfl rfl rfl rfl rfl rfl rfl dntsz119 (nt_cel.one _) (by show 5 ≤ 5; decide) (L' := ([.blk g14 119 x61.cells, .row (.slice Ar out.length cr) 47 17 out.length (flat Rs.cells out), .blk g11 122 [.int .i64 ((n0 : Nat) : Int), .int .i64 ((n1 : Nat) : Int), .int .i64 0, .int .i64 0, .int .i64 0, .int .i64 0, .int .i64 0, .int .i64 0, .int .i64 0, .int .i64 0, .int .i64 0, .int .i64 0, .int .i64 0, .int .i64 0, .int .i64 0, .int .i64 0], .row (.slice (some ⟨g_An, 0, none⟩) ns.length cn) 119 5 ns.length (flat Nt.cells ns2), .abs cb (fun w => Cod w cb)] ++ (netsP P2 ++ oths cb w))) rfl ?_
    refine TL.end_ (TX.then_ (TC.seq_ ?_))
    have hnn := hout.2.2
    obtain ⟨hx61k, hx61p⟩ := hns2.2.2 x61 (List.mem_of_getElem? hx61)
    obtain ⟨hx61t, hx61l, lg, hlg1, hlg3, hps1, hps3, hlgw⟩ := hx61k
    have hx61t2 := hx61t
    unfold TrOk at hx61t2
    dsimp only at hx61t2
    have hv61 : x61.v = 0 ∨ x61.v = 1 := by omega
    refine TC.region ?_
    refine TL.mv ?_
    refine TL.val rfl rfl rfl (gives_field (v := .pointer (some ⟨g14, 3, none⟩)) rfl rfl (fun w => dntfld119_1 _ _ w)) ?_
    refine TL.val rfl rfl rfl (pm_load (k := 0) (i := 3) rfl rfl dntag117 rfl rfl) ?_
    refine TL.val rfl rfl rfl (gives_len rfl Tryz.underlying117 rfl) ?_
    refine TL.pcallCod (k := 4) (α := {q9 : Nat // q9 ≤ 65535 ∧ (1 ≤ ((x61.ps.l.length : Nat) : Int) → (q9 : Int) < (x61.ps.l.length : Nat))}) (fun q9 => .int .i64 ((q9.1 : Nat) : Int)) (fun q9 => []) rfl rfl rfl rfl rfl Tryz.func25 ddrnm25 ddrbd25 rfl (fun w1 hw hC1 => next_cod cb w1 (x61.ps.l.length : Nat) hC1) ?_
    rintro ⟨f, hf1, hf2⟩
    dsimp only [List.cons_append, List.nil_append]
    refine TL.as_ ?_
    refine TL.end_ (TX.then_ (TC.seq_ (TC.region ?_)))
    refine TL.val rfl rfl rfl (gives_field (v := .pointer (some ⟨g14, 3, none⟩)) rfl rfl (fun w => dntfld119_1 _ _ w)) ?_
    refine TL.val rfl rfl rfl (pm_load (k := 0) (i := 3) rfl rfl dntag117 rfl rfl) ?_
    refine TL.mv ?_
    have hmm71 := nets_mem1 (T := oths cb w) hx61p
    refine TL.fact (p := ∃ g, x61.ps.A = some ⟨g, 0, none⟩) (fun w1 hw => segA hw (List.mem_of_mem_drop (i := 5) (by exact hmm71)) (by omega)) ?_
    rintro ⟨gx71, hgx71⟩
    obtain ⟨p71, hp71⟩ : ∃ z, x61.ps.l[f]? = some z := ⟨_, List.getElem?_eq_getElem (by omega)⟩
    refine TL.val rfl rfl rfl (gives_at (v := .pointer (some ⟨gx71, 0 + f * 1, none⟩)) rfl rfl rfl (fun w => at_el Tryz.underlying117 dntsz64 hgx71 _ _ f (by omega) rfl w)) ?_
    refine TL.val rfl rfl rfl (gives_load (v := .slice p71.A p71.l.length p71.c) rfl rfl dntag64 (fun w1 hw => seg_cell sgc_cel hw (List.mem_of_mem_drop (i := 5) (by exact hmm71)) hgx71 hp71 0 _ rfl)) ?_
    have hpw71 := hlgw p71 (List.mem_of_getElem? hp71)
    have hp71l := hpw71.1
    refine TL.as_ ?_
    refine TL.end_ (TX.then_ (TC.seq_ (TC.region ?_)))
    refine TL.mv ?_
    refine TL.mv ?_
    refine TL.pcallCod (k := 4) (α := {q9 : Nat // q9 ≤ 65535 ∧ (1 ≤ (40 : Int) → (q9 : Int) < 40)}) (fun q9 => .int .i64 ((q9.1 : Nat) : Int)) (fun q9 => []) rfl rfl rfl rfl rfl Tryz.func25 ddrnm25 ddrbd25 rfl (fun w1 hw hC1 => next_cod cb w1 40 hC1) ?_
    rintro ⟨dq, hdq1, hdq2⟩
    dsimp only [List.cons_append, List.nil_append]
    refine TL.val rfl rfl rfl (gives_bin rfl rfl rfl (fun w => bin_add_ (r := ((1 + dq : Nat) : Int)) (by simp only [IntKind.wrap_i64]; omega) w)) ?_
    refine TL.val rfl rfl rfl (gives_bin rfl rfl rfl (fun w => bin_add_ (r := ((at0 + (1 + dq) : Nat) : Int)) (by simp only [IntKind.wrap_i64]; omega) w)) ?_
    refine TL.as_ ?_
    refine TL.end_ (TX.then_ ?_)
    refine TC.join (α := {y : (Nat × Nat) × Nat // ((x61.v = 0 ∧ y.1.2 = n0) ∨ (x61.v = 1 ∧ y.1.2 = n1)) ∧ y.2 ≤ p71.l.length}) (fun y => [(0, .pointer (some ⟨cb, 0, none⟩)), (2, .bool stb), (7, .slice (some ⟨g_An, 0, none⟩) ns.length cn), (8, .slice Ar out.length cr), (9, .int .i64 ((at0 + (1 + dq) : Nat) : Int)), (10, .int .i64 ((idn : Nat) : Int)), (11, .pointer (some ⟨g11, 0, none⟩)), (12, .int .i64 ((k : Nat) : Int)), (14, .pointer (some ⟨g14, 0, none⟩)), (15, .int .i64 ((f : Nat) : Int)), (16, .slice p71.A p71.l.length p71.c), (17, .pointer (some ⟨y.1.1.1, 0, none⟩))]) (fun y => Pm ⟨w, cb⟩ ([.blk y.1.1.1 47 [.int .i64 x61.v, .int .i64 0, .int .i64 ((y.1.1.2 : Nat) : Int), .int .i64 ((at0 + (1 + dq) : Nat) : Int), .int .u32 x61.dst, .int .i64 x61.proto, .int .i64 ((f : Nat) : Int), .int .i64 ((1 + y.1.2 : Nat) : Int), .bool false, .bool false, .int .i64 0, .int .u32 0, .int .i64 0, .int .i64 0, .int .i64 0, .int .i64 0, .int .i64 0], .blk g14 119 x61.cells, .row (.slice Ar out.length cr) 47 17 out.length (flat Rs.cells out), .blk g11 122 [.int .i64 ((n0 : Nat) : Int), .int .i64 ((n1 : Nat) : Int), .int .i64 0, .int .i64 0, .int .i64 0, .int .i64 0, .int .i64 0, .int .i64 0, .int .i64 0, .int .i64 0, .int .i64 0, .int .i64 0, .int .i64 0, .int .i64 0, .int .i64 0, .int .i64 0], .row (.slice (some ⟨g_An, 0, none⟩) ns.length cn) 119 5 ns.length (flat Nt.cells ns2), .abs cb (fun w => Cod w cb)] ++ (netsP P2 ++ oths cb w))) ?_ ?_
    ·rcases hv61 with hv0 | hv1
     ·refine TC.cut [(0, .pointer (some ⟨cb, 0, none⟩)), (2, .bool stb), (7, .slice (some ⟨g_An, 0, none⟩) ns.length cn), (8, .slice Ar out.length cr), (9, .int .i64 ((at0 + (1 + dq) : Nat) : Int)), (10, .int .i64 ((idn : Nat) : Int)), (11, .pointer (some ⟨g11, 0, none⟩)), (12, .int .i64 ((k : Nat) : Int)), (13, .int .i64 ((ix : Nat) : Int)), (59, .slice (some ⟨g_An, 0, none⟩) ns.length cn), (60, .int .i64 ((ix : Nat) : Int)), (61, .pointer (some ⟨g_An, 0 + ix * 5, none⟩)), (62, .agg (x61.cells).toArray), (14, .pointer (some ⟨g14, 0, none⟩)), (63, .pointer (some ⟨cb, 0, none⟩)), (64, .pointer (some ⟨g14, 3, none⟩)), (65, .slice x61.ps.A x61.ps.l.length x61.ps.c), (66, .int .i64 (x61.ps.l.length : Nat)), (67, .int .i64 ((f : Nat) : Int)), (15, .int .i64 ((f : Nat) : Int)), (68, .pointer (some ⟨g14, 3, none⟩)), (69, .slice x61.ps.A x61.ps.l.length x61.ps.c), (70, .int .i64 ((f : Nat) : Int)), (71, .pointer (some ⟨gx71, 0 + f * 1, none⟩)), (72, .slice p71.A p71.l.length p71.c), (16, .slice p71.A p71.l.length p71.c), (73, .int .i64 ((at0 : Nat) : Int)), (74, .pointer (some ⟨cb, 0, none⟩)), (75, .int .i64 ((dq : Nat) : Int)), (76, .int .i64 ((1 + dq : Nat) : Int)), (77, .int .i64 ((at0 + (1 + dq) : Nat) : Int))] (Pm ⟨w, cb⟩ ([.blk g14 119 x61.cells, .row (.slice Ar out.length cr) 47 17 out.length (flat Rs.cells out), .blk g11 122 [.int .i64 ((n0 : Nat) : Int), .int .i64 ((n1 : Nat) : Int), .int .i64 0, .int .i64 0, .int .i64 0, .int .i64 0, .int .i64 0, .int .i64 0, .int .i64 0, .int .i64 0, .int .i64 0, .int .i64 0, .int .i64 0, .int .i64 0, .int .i64 0, .int .i64 0], .row (.slice (some ⟨g_An, 0, none⟩) ns.length cn) 119 5 ns.length (flat Nt.cells ns2), .abs cb (fun w => Cod w cb)] ++ (netsP P2 ++ oths cb w))) ⟨rfl, rfl, rfl, rfl, rfl, rfl, rfl, rfl, rfl, rfl, rfl, rfl, rfl, rfl, rfl, rfl, rfl, rfl, rfl, rfl, rfl, rfl, rfl, rfl, rfl, rfl, rfl, rfl, rfl, rfl, rfl, trivial⟩ (fun w1 hw => hw) ?_
      refine TC.held (ls := #[Ff,Ff,Ff,Ff,Ff,Ff,Ff,Ff,Ff,Ff,Ff,Ff,Ff,Ff,Ff,Ff,Ff,Ff,Ff,Ff,Ff,Ff,Ff,Ff,Ff]) (Pm ⟨w, cb⟩ [.blk g14 119 x61.cells, .blk g11 122 [.int .i64 ((n0 : Nat) : Int), .int .i64 ((n1 : Nat) : Int), .int .i64 0, .int .i64 0, .int .i64 0, .int .i64 0, .int .i64 0, .int .i64 0, .int .i64 0, .int .i64 0, .int .i64 0, .int .i64 0, .int .i64 0, .int .i64 0, .int .i64 0, .int .i64 0]]) (by kernel_rfl) rfl rfl (fun w hw => hw.drawn _) ?_
      refine TH.tk (listed' := #[Tt,Ff,Ff,Ff,Ff,Ff,Ff,Ff,Ff,Ff,Ff,Ff,Ff,Ff,Ff,Ff,Ff,Ff,Ff,Ff,Ff,Ff,Ff,Ff,Ff]) 0 rfl rfl rfl (gives_field (v := .pointer (some ⟨g14, 0, none⟩)) rfl rfl (fun w => dntfld119_0 _ _ w)) (fun w1 hw => hw.pick [0, 2] (by decide) rfl) ?_
      refine TH.tk (listed' := #[Tt,Tt,Ff,Ff,Ff,Ff,Ff,Ff,Ff,Ff,Ff,Ff,Ff,Ff,Ff,Ff,Ff,Ff,Ff,Ff,Ff,Ff,Ff,Ff,Ff]) 1 rfl rfl rfl (gives_field (v := .pointer (some ⟨g14, 0, none⟩)) rfl rfl (fun w => pcmfld32_0 _ _ w)) (fun w1 hw => hw.pick [0, 2] (by decide) rfl) ?_
      refine TH.tk (listed' := #[Tt,Tt,Tt,Ff,Ff,Ff,Ff,Ff,Ff,Ff,Ff,Ff,Ff,Ff,Ff,Ff,Ff,Ff,Ff,Ff,Ff,Ff,Ff,Ff,Ff]) 2 rfl rfl rfl (pm_load (k := 0) (i := 0) rfl rfl pcmag3 rfl rfl) (fun w1 hw => hw.pick [0, 2] (by decide) rfl) ?_
      refine TH.tk (listed' := #[Tt,Tt,Tt,Tt,Ff,Ff,Ff,Ff,Ff,Ff,Ff,Ff,Ff,Ff,Ff,Ff,Ff,Ff,Ff,Ff,Ff,Ff,Ff,Ff,Ff]) 3 rfl rfl rfl (gives_field (v := .pointer (some ⟨g14, 0, none⟩)) rfl rfl (fun w => dntfld119_0 _ _ w)) (fun w1 hw => hw.pick [0, 2] (by decide) rfl) ?_
      refine TH.tk (listed' := #[Tt,Tt,Tt,Tt,Tt,Ff,Ff,Ff,Ff,Ff,Ff,Ff,Ff,Ff,Ff,Ff,Ff,Ff,Ff,Ff,Ff,Ff,Ff,Ff,Ff]) 4 rfl rfl rfl (gives_field (v := .pointer (some ⟨g14, 0, none⟩)) rfl rfl (fun w => pcmfld32_0 _ _ w)) (fun w1 hw => hw.pick [0, 2] (by decide) rfl) ?_
      refine TH.tk (listed' := #[Tt,Tt,Tt,Tt,Tt,Tt,Ff,Ff,Ff,Ff,Ff,Ff,Ff,Ff,Ff,Ff,Ff,Ff,Ff,Ff,Ff,Ff,Ff,Ff,Ff]) 5 rfl rfl rfl (show Gives _ _ _ _ _ (Value.int .i64 0) from by rw [show (Value.int .i64 0) = .int .i64 x61.v by rw [hv0]]; exact pm_load (k := 0) (i := 0) rfl rfl pcmag3 rfl rfl) (fun w1 hw => hw.pick [0, 2] (by decide) rfl) ?_
      refine TH.tk (listed' := #[Tt,Tt,Tt,Tt,Tt,Tt,Tt,Ff,Ff,Ff,Ff,Ff,Ff,Ff,Ff,Ff,Ff,Ff,Ff,Ff,Ff,Ff,Ff,Ff,Ff]) 6 rfl rfl rfl (gives_at (v := .pointer (some ⟨g11, 0, none⟩)) rfl rfl rfl (fun w => at_arr Tryz.underlying122 pcmsz3 g11 0 _ 0 (by decide) w)) (fun w1 hw => hw.pick [0, 2] (by decide) rfl) ?_
      refine TH.tk (listed' := #[Tt,Tt,Tt,Tt,Tt,Tt,Tt,Tt,Ff,Ff,Ff,Ff,Ff,Ff,Ff,Ff,Ff,Ff,Ff,Ff,Ff,Ff,Ff,Ff,Ff]) 7 rfl rfl rfl (pm_load (k := 1) (i := 0) rfl rfl pcmag3 rfl rfl) (fun w1 hw => hw.pick [0, 2] (by decide) rfl) ?_
      refine TH.tk (listed' := #[Tt,Tt,Tt,Tt,Tt,Tt,Tt,Tt,Tt,Ff,Ff,Ff,Ff,Ff,Ff,Ff,Ff,Ff,Ff,Ff,Ff,Ff,Ff,Ff,Ff]) 8 rfl rfl rfl (gives_move rfl rfl) (fun w1 hw => hw.pick [0, 2] (by decide) rfl) ?_
      refine TH.tk (listed' := #[Tt,Tt,Tt,Tt,Tt,Tt,Tt,Tt,Tt,Tt,Ff,Ff,Ff,Ff,Ff,Ff,Ff,Ff,Ff,Ff,Ff,Ff,Ff,Ff,Ff]) 9 rfl rfl rfl (gives_field (v := .pointer (some ⟨g14, 0, none⟩)) rfl rfl (fun w => dntfld119_0 _ _ w)) (fun w1 hw => hw.pick [0, 2] (by decide) rfl) ?_
      refine TH.tk (listed' := #[Tt,Tt,Tt,Tt,Tt,Tt,Tt,Tt,Tt,Tt,Tt,Ff,Ff,Ff,Ff,Ff,Ff,Ff,Ff,Ff,Ff,Ff,Ff,Ff,Ff]) 10 rfl rfl rfl (gives_field (v := .pointer (some ⟨g14, 1, none⟩)) rfl rfl (fun w => pcmfld32_1 _ _ w)) (fun w1 hw => hw.pick [0, 2] (by decide) rfl) ?_
      refine TH.tk (listed' := #[Tt,Tt,Tt,Tt,Tt,Tt,Tt,Tt,Tt,Tt,Tt,Tt,Ff,Ff,Ff,Ff,Ff,Ff,Ff,Ff,Ff,Ff,Ff,Ff,Ff]) 11 rfl rfl rfl (pm_load (k := 0) (i := 1) rfl rfl pcmag30 rfl rfl) (fun w1 hw => hw.pick [0, 2] (by decide) rfl) ?_
      refine TH.tk (listed' := #[Tt,Tt,Tt,Tt,Tt,Tt,Tt,Tt,Tt,Tt,Tt,Tt,Tt,Ff,Ff,Ff,Ff,Ff,Ff,Ff,Ff,Ff,Ff,Ff,Ff]) 12 rfl rfl rfl (gives_field (v := .pointer (some ⟨g14, 0, none⟩)) rfl rfl (fun w => dntfld119_0 _ _ w)) (fun w1 hw => hw.pick [0, 2] (by decide) rfl) ?_
      refine TH.tk (listed' := #[Tt,Tt,Tt,Tt,Tt,Tt,Tt,Tt,Tt,Tt,Tt,Tt,Tt,Tt,Ff,Ff,Ff,Ff,Ff,Ff,Ff,Ff,Ff,Ff,Ff]) 13 rfl rfl rfl (gives_field (v := .pointer (some ⟨g14, 2, none⟩)) rfl rfl (fun w => pcmfld32_2 _ _ w)) (fun w1 hw => hw.pick [0, 2] (by decide) rfl) ?_
      refine TH.tk (listed' := #[Tt,Tt,Tt,Tt,Tt,Tt,Tt,Tt,Tt,Tt,Tt,Tt,Tt,Tt,Tt,Ff,Ff,Ff,Ff,Ff,Ff,Ff,Ff,Ff,Ff]) 14 rfl rfl rfl (pm_load (k := 0) (i := 2) rfl rfl pcmag3 rfl rfl) (fun w1 hw => hw.pick [0, 2] (by decide) rfl) ?_
      refine TH.tk (listed' := #[Tt,Tt,Tt,Tt,Tt,Tt,Tt,Tt,Tt,Tt,Tt,Tt,Tt,Tt,Tt,Tt,Ff,Ff,Ff,Ff,Ff,Ff,Ff,Ff,Ff]) 15 rfl rfl rfl (gives_move rfl rfl) (fun w1 hw => hw.pick [0, 2] (by decide) rfl) ?_
      refine TH.tk (listed' := #[Tt,Tt,Tt,Tt,Tt,Tt,Tt,Tt,Tt,Tt,Tt,Tt,Tt,Tt,Tt,Tt,Tt,Ff,Ff,Ff,Ff,Ff,Ff,Ff,Ff]) 16 rfl rfl rfl (gives_move rfl rfl) (fun w1 hw => hw.pick [0, 2] (by decide) rfl) ?_
      refine TH.tk (listed' := #[Tt,Tt,Tt,Tt,Tt,Tt,Tt,Tt,Tt,Tt,Tt,Tt,Tt,Tt,Tt,Tt,Tt,Tt,Ff,Ff,Ff,Ff,Ff,Ff,Ff]) 17 rfl rfl rfl (gives_move rfl rfl) (fun w1 hw => hw.pick [0, 2] (by decide) rfl) ?_
      refine TH.tk (listed' := #[Tt,Tt,Tt,Tt,Tt,Tt,Tt,Tt,Tt,Tt,Tt,Tt,Tt,Tt,Tt,Tt,Tt,Tt,Tt,Ff,Ff,Ff,Ff,Ff,Ff]) 18 rfl rfl rfl (gives_len rfl Tryz.underlying64 rfl) (fun w1 hw => hw.pick [0, 2] (by decide) rfl) ?_
      refine TH.tk (listed' := #[Tt,Tt,Tt,Tt,Tt,Tt,Tt,Tt,Tt,Tt,Tt,Tt,Tt,Tt,Tt,Tt,Tt,Tt,Tt,Tt,Ff,Ff,Ff,Ff,Ff]) 19 rfl rfl rfl (gives_bin rfl rfl rfl (fun w => bin_add_ (r := ((p71.l.length + 1 : Nat) : Int)) (by simp only [IntKind.wrap_i64]; omega) w)) (fun w1 hw => hw.pick [0, 2] (by decide) rfl) ?_
      refine TH.two' (listed1 := #[Tt,Tt,Tt,Tt,Tt,Tt,Tt,Tt,Tt,Tt,Tt,Tt,Tt,Tt,Tt,Tt,Tt,Tt,Tt,Tt,Tt,Ff,Ff,Ff,Ff]) (listed2 := #[Tt,Tt,Tt,Tt,Tt,Tt,Tt,Tt,Tt,Tt,Tt,Tt,Tt,Tt,Tt,Tt,Tt,Tt,Tt,Tt,Ff,Ff,Ff,Tt,Ff]) 20 23 rfl rfl (by kernel_rfl) rfl rfl ?_ ?_
      ·refine TL.pcallCod (k := 4) (α := {q9 : Nat // q9 ≤ 65535 ∧ (1 ≤ (((p71.l.length + 1 : Nat) : Int) : Int) → (q9 : Int) < ((p71.l.length + 1 : Nat) : Int))}) (fun q9 => .int .i64 ((q9.1 : Nat) : Int)) (fun q9 => []) rfl rfl rfl rfl rfl Tryz.func25 ddrnm25 ddrbd25 rfl (fun w1 hw hC1 => next_cod cb w1 ((p71.l.length + 1 : Nat) : Int) hC1) ?_
       rintro ⟨tq, htq1, htq2⟩
       dsimp only [List.cons_append, List.nil_append]
       refine TL.end_ ?_
       refine TX.held (fun w1 hw => hw.pick [0, 2] (by decide) rfl) ?_
       refine TH.tk (listed' := #[Tt,Tt,Tt,Tt,Tt,Tt,Tt,Tt,Tt,Tt,Tt,Tt,Tt,Tt,Tt,Tt,Tt,Tt,Tt,Tt,Tt,Tt,Ff,Ff,Ff]) 21 rfl rfl rfl (gives_bin rfl rfl rfl (fun w => bin_add_ (r := ((1 + tq : Nat) : Int)) (by simp only [IntKind.wrap_i64]; omega) w)) (fun w1 hw => hw.pick [0, 2] (by decide) rfl) ?_
       refine TH.tk (listed' := #[Tt,Tt,Tt,Tt,Tt,Tt,Tt,Tt,Tt,Tt,Tt,Tt,Tt,Tt,Tt,Tt,Tt,Tt,Tt,Tt,Tt,Tt,Tt,Ff,Ff]) 22 rfl rfl rfl (gives_build (v := .agg #[.int .i64 x61.v, .int .i64 0, .int .i64 ((n0 : Nat) : Int), .int .i64 ((at0 + (1 + dq) : Nat) : Int), .int .u32 x61.dst, .int .i64 x61.proto, .int .i64 ((f : Nat) : Int), .int .i64 ((1 + tq : Nat) : Int), .bool false, .bool false, .int .i64 0, .int .u32 0, .int .i64 0, .int .i64 0, .int .i64 0, .int .i64 0, .int .i64 0]) rfl rfl (fun w => drebld47_74773 _ _ _ _ _ _ _ _ w)) (fun w1 hw => hw.pick [0, 2] (by decide) rfl) ?_
       refine TH.only' (listed' := #[Tt,Tt,Tt,Tt,Tt,Tt,Tt,Tt,Tt,Tt,Tt,Tt,Tt,Tt,Tt,Tt,Tt,Tt,Tt,Tt,Tt,Tt,Tt,Tt,Ff]) 23 rfl (by kernel_rfl) rfl ?_
       refine TL.pnew rfl rfl rfl (exec_alloc (cs := [.int .i64 0, .int .i64 0, .int .i64 0, .int .i64 0, .int .u32 0, .int .i64 0, .int .i64 0, .int .i64 0, .bool false, .bool false, .int .i64 0, .int .u32 0, .int .i64 0, .int .i64 0, .int .i64 0, .int .i64 0, .int .i64 0]) rfl pcpzv47 rfl) (fun g17 => ?_)
       refine TL.end_ ?_
       refine TX.held (fun w1 hw => hw.pick [1, 3] (by decide) rfl) ?_
       refine TH.only' (listed' := #[Tt,Tt,Tt,Tt,Tt,Tt,Tt,Tt,Tt,Tt,Tt,Tt,Tt,Tt,Tt,Tt,Tt,Tt,Tt,Tt,Tt,Tt,Tt,Tt,Tt]) 24 rfl (by kernel_rfl) rfl ?_
       refine TL.pstore (k := 0) (vs := [.int .i64 x61.v, .int .i64 0, .int .i64 ((n0 : Nat) : Int), .int .i64 ((at0 + (1 + dq) : Nat) : Int), .int .u32 x61.dst, .int .i64 x61.proto, .int .i64 ((f : Nat) : Int), .int .i64 ((1 + tq : Nat) : Int), .bool false, .bool false, .int .i64 0, .int .u32 0, .int .i64 0, .int .i64 0, .int .i64 0, .int .i64 0, .int .i64 0]) rfl rfl rfl rfl rfl rfl rfl prssz47 dreone_i64i64i64i64u32i64i64i64bbi64u32i64i64i64i64i64 (by show 17 ≤ 17; decide) rfl ?_
       refine TL.end_ ?_
       refine TX.held (fun w1 hw => hw.pick [1, 3] (by decide) rfl) ?_
       refine TH.done (by kernel_rfl) ?_
       exact TX.joined (⟨((g17, n0), tq), by dsimp only; omega, by dsimp only; omega⟩) (⟨rfl, rfl, rfl, rfl, rfl, rfl, rfl, rfl, rfl, rfl, rfl, rfl, trivial⟩) (fun w1 hw => hw)
      ·refine TL.pnew rfl rfl rfl (exec_alloc (cs := [.int .i64 0, .int .i64 0, .int .i64 0, .int .i64 0, .int .u32 0, .int .i64 0, .int .i64 0, .int .i64 0, .bool false, .bool false, .int .i64 0, .int .u32 0, .int .i64 0, .int .i64 0, .int .i64 0, .int .i64 0, .int .i64 0]) rfl pcpzv47 rfl) (fun g17 => ?_)
       refine TL.end_ ?_
       refine TX.held (fun w1 hw => hw.pick [1, 3] (by decide) rfl) ?_
       refine TH.only' (listed' := #[Tt,Tt,Tt,Tt,Tt,Tt,Tt,Tt,Tt,Tt,Tt,Tt,Tt,Tt,Tt,Tt,Tt,Tt,Tt,Tt,Tt,Ff,Ff,Tt,Ff]) 20 rfl (by kernel_rfl) rfl ?_
       refine TL.pcallCod (k := 5) (α := {q9 : Nat // q9 ≤ 65535 ∧ (1 ≤ (((p71.l.length + 1 : Nat) : Int) : Int) → (q9 : Int) < ((p71.l.length + 1 : Nat) : Int))}) (fun q9 => .int .i64 ((q9.1 : Nat) : Int)) (fun q9 => []) rfl rfl rfl rfl rfl Tryz.func25 ddrnm25 ddrbd25 rfl (fun w1 hw hC1 => next_cod cb w1 ((p71.l.length + 1 : Nat) : Int) hC1) ?_
       rintro ⟨tq, htq1, htq2⟩
       dsimp only [List.cons_append, List.nil_append]
       refine TL.end_ ?_
       refine TX.held (fun w1 hw => hw.pick [1, 3] (by decide) rfl) ?_
       refine TH.tk (listed' := #[Tt,Tt,Tt,Tt,Tt,Tt,Tt,Tt,Tt,Tt,Tt,Tt,Tt,Tt,Tt,Tt,Tt,Tt,Tt,Tt,Tt,Tt,Ff,Tt,Ff]) 21 rfl rfl rfl (gives_bin rfl rfl rfl (fun w => bin_add_ (r := ((1 + tq : Nat) : Int)) (by simp only [IntKind.wrap_i64]; omega) w)) (fun w1 hw => hw.pick [1, 3] (by decide) rfl) ?_
       refine TH.tk (listed' := #[Tt,Tt,Tt,Tt,Tt,Tt,Tt,Tt,Tt,Tt,Tt,Tt,Tt,Tt,Tt,Tt,Tt,Tt,Tt,Tt,Tt,Tt,Tt,Tt,Ff]) 22 rfl rfl rfl (gives_build (v := .agg #[.int .i64 x61.v, .int .i64 0, .int .i64 ((n0 : Nat) : Int), .int .i64 ((at0 + (1 + dq) : Nat) : Int), .int .u32 x61.dst, .int .i64 x61.proto, .int .i64 ((f : Nat) : Int), .int .i64 ((1 + tq : Nat) : Int), .bool false, .bool false, .int .i64 0, .int .u32 0, .int .i64 0, .int .i64 0, .int .i64 0, .int .i64 0, .int .i64 0]) rfl rfl (fun w => drebld47_74773 _ _ _ _ _ _ _ _ w)) (fun w1 hw => hw.pick [1, 3] (by decide) rfl) ?_
       refine TH.only' (listed' := #[Tt,Tt,Tt,Tt,Tt,Tt,Tt,Tt,Tt,Tt,Tt,Tt,Tt,Tt,Tt,Tt,Tt,Tt,Tt,Tt,Tt,Tt,Tt,Tt,Tt]) 24 rfl (by kernel_rfl) rfl ?_
       refine TL.pstore (k := 0) (vs := [.int .i64 x61.v, .int .i64 0, .int .i64 ((n0 : Nat) : Int), .int .i64 ((at0 + (1 + dq) : Nat) : Int), .int .u32 x61.dst, .int .i64 x61.proto, .int .i64 ((f : Nat) : Int), .int .i64 ((1 + tq : Nat) : Int), .bool false, .bool false, .int .i64 0, .int .u32 0, .int .i64 0, .int .i64 0, .int .i64 0, .int .i64 0, .int .i64 0]) rfl rfl rfl rfl rfl rfl rfl prssz47 dreone_i64i64i64i64u32i64i64i64bbi64u32i64i64i64i64i64 (by show 17 ≤ 17; decide) rfl ?_
       refine TL.end_ ?_
       refine TX.held (fun w1 hw => hw.pick [1, 3] (by decide) rfl) ?_
       refine TH.done (by kernel_rfl) ?_
       exact TX.joined (⟨((g17, n0), tq), by dsimp only; omega, by dsimp only; omega⟩) (⟨rfl, rfl, rfl, rfl, rfl, rfl, rfl, rfl, rfl, rfl, rfl, rfl, trivial⟩) (fun w1 hw => hw)
     ·refine TC.cut [(0, .pointer (some ⟨cb, 0, none⟩)), (2, .bool stb), (7, .slice (some ⟨g_An, 0, none⟩) ns.length cn), (8, .slice Ar out.length cr), (9, .int .i64 ((at0 + (1 + dq) : Nat) : Int)), (10, .int .i64 ((idn : Nat) : Int)), (11, .pointer (some ⟨g11, 0, none⟩)), (12, .int .i64 ((k : Nat) : Int)), (13, .int .i64 ((ix : Nat) : Int)), (59, .slice (some ⟨g_An, 0, none⟩) ns.length cn), (60, .int .i64 ((ix : Nat) : Int)), (61, .pointer (some ⟨g_An, 0 + ix * 5, none⟩)), (62, .agg (x61.cells).toArray), (14, .pointer (some ⟨g14, 0, none⟩)), (63, .pointer (some ⟨cb, 0, none⟩)), (64, .pointer (some ⟨g14, 3, none⟩)), (65, .slice x61.ps.A x61.ps.l.length x61.ps.c), (66, .int .i64 (x61.ps.l.length : Nat)), (67, .int .i64 ((f : Nat) : Int)), (15, .int .i64 ((f : Nat) : Int)), (68, .pointer (some ⟨g14, 3, none⟩)), (69, .slice x61.ps.A x61.ps.l.length x61.ps.c), (70, .int .i64 ((f : Nat) : Int)), (71, .pointer (some ⟨gx71, 0 + f * 1, none⟩)), (72, .slice p71.A p71.l.length p71.c), (16, .slice p71.A p71.l.length p71.c), (73, .int .i64 ((at0 : Nat) : Int)), (74, .pointer (some ⟨cb, 0, none⟩)), (75, .int .i64 ((dq : Nat) : Int)), (76, .int .i64 ((1 + dq : Nat) : Int)), (77, .int .i64 ((at0 + (1 + dq) : Nat) : Int))] (Pm ⟨w, cb⟩ ([.blk g14 119 x61.cells, .row (.slice Ar out.length cr) 47 17 out.length (flat Rs.cells out), .blk g11 122 [.int .i64 ((n0 : Nat) : Int), .int .i64 ((n1 : Nat) : Int), .int .i64 0, .int .i64 0, .int .i64 0, .int .i64 0, .int .i64 0, .int .i64 0, .int .i64 0, .int .i64 0, .int .i64 0, .int .i64 0, .int .i64 0, .int .i64 0, .int .i64 0, .int .i64 0], .row (.slice (some ⟨g_An, 0, none⟩) ns.length cn) 119 5 ns.length (flat Nt.cells ns2), .abs cb (fun w => Cod w cb)] ++ (netsP P2 ++ oths cb w))) ⟨rfl, rfl, rfl, rfl, rfl, rfl, rfl, rfl, rfl, rfl, rfl, rfl, rfl, rfl, rfl, rfl, rfl, rfl, rfl, rfl, rfl, rfl, rfl, rfl, rfl, rfl, rfl, rfl, rfl, rfl, rfl, trivial⟩ (fun w1 hw => hw) ?_
      refine TC.held (ls := #[Ff,Ff,Ff,Ff,Ff,Ff,Ff,Ff,Ff,Ff,Ff,Ff,Ff,Ff,Ff,Ff,Ff,Ff,Ff,Ff,Ff,Ff,Ff,Ff,Ff]) (Pm ⟨w, cb⟩ [.blk g14 119 x61.cells, .blk g11 122 [.int .i64 ((n0 : Nat) : Int), .int .i64 ((n1 : Nat) : Int), .int .i64 0, .int .i64 0, .int .i64 0, .int .i64 0, .int .i64 0, .int .i64 0, .int .i64 0, .int .i64 0, .int .i64 0, .int .i64 0, .int .i64 0, .int .i64 0, .int .i64 0, .int .i64 0]]) (by kernel_rfl) rfl rfl (fun w hw => hw.drawn _) ?_
      refine TH.tk (listed' := #[Tt,Ff,Ff,Ff,Ff,Ff,Ff,Ff,Ff,Ff,Ff,Ff,Ff,Ff,Ff,Ff,Ff,Ff,Ff,Ff,Ff,Ff,Ff,Ff,Ff]) 0 rfl rfl rfl (gives_field (v := .pointer (some ⟨g14, 0, none⟩)) rfl rfl (fun w => dntfld119_0 _ _ w)) (fun w1 hw => hw.pick [0, 2] (by decide) rfl) ?_
      refine TH.tk (listed' := #[Tt,Tt,Ff,Ff,Ff,Ff,Ff,Ff,Ff,Ff,Ff,Ff,Ff,Ff,Ff,Ff,Ff,Ff,Ff,Ff,Ff,Ff,Ff,Ff,Ff]) 1 rfl rfl rfl (gives_field (v := .pointer (some ⟨g14, 0, none⟩)) rfl rfl (fun w => pcmfld32_0 _ _ w)) (fun w1 hw => hw.pick [0, 2] (by decide) rfl) ?_
      refine TH.tk (listed' := #[Tt,Tt,Tt,Ff,Ff,Ff,Ff,Ff,Ff,Ff,Ff,Ff,Ff,Ff,Ff,Ff,Ff,Ff,Ff,Ff,Ff,Ff,Ff,Ff,Ff]) 2 rfl rfl rfl (pm_load (k := 0) (i := 0) rfl rfl pcmag3 rfl rfl) (fun w1 hw => hw.pick [0, 2] (by decide) rfl) ?_
      refine TH.tk (listed' := #[Tt,Tt,Tt,Tt,Ff,Ff,Ff,Ff,Ff,Ff,Ff,Ff,Ff,Ff,Ff,Ff,Ff,Ff,Ff,Ff,Ff,Ff,Ff,Ff,Ff]) 3 rfl rfl rfl (gives_field (v := .pointer (some ⟨g14, 0, none⟩)) rfl rfl (fun w => dntfld119_0 _ _ w)) (fun w1 hw => hw.pick [0, 2] (by decide) rfl) ?_
      refine TH.tk (listed' := #[Tt,Tt,Tt,Tt,Tt,Ff,Ff,Ff,Ff,Ff,Ff,Ff,Ff,Ff,Ff,Ff,Ff,Ff,Ff,Ff,Ff,Ff,Ff,Ff,Ff]) 4 rfl rfl rfl (gives_field (v := .pointer (some ⟨g14, 0, none⟩)) rfl rfl (fun w => pcmfld32_0 _ _ w)) (fun w1 hw => hw.pick [0, 2] (by decide) rfl) ?_
      refine TH.tk (listed' := #[Tt,Tt,Tt,Tt,Tt,Tt,Ff,Ff,Ff,Ff,Ff,Ff,Ff,Ff,Ff,Ff,Ff,Ff,Ff,Ff,Ff,Ff,Ff,Ff,Ff]) 5 rfl rfl rfl (show Gives _ _ _ _ _ (Value.int .i64 1) from by rw [show (Value.int .i64 1) = .int .i64 x61.v by rw [hv1]]; exact pm_load (k := 0) (i := 0) rfl rfl pcmag3 rfl rfl) (fun w1 hw => hw.pick [0, 2] (by decide) rfl) ?_
      refine TH.tk (listed' := #[Tt,Tt,Tt,Tt,Tt,Tt,Tt,Ff,Ff,Ff,Ff,Ff,Ff,Ff,Ff,Ff,Ff,Ff,Ff,Ff,Ff,Ff,Ff,Ff,Ff]) 6 rfl rfl rfl (gives_at (v := .pointer (some ⟨g11, 1, none⟩)) rfl rfl rfl (fun w => at_arr Tryz.underlying122 pcmsz3 g11 0 _ 1 (by decide) w)) (fun w1 hw => hw.pick [0, 2] (by decide) rfl) ?_
      refine TH.tk (listed' := #[Tt,Tt,Tt,Tt,Tt,Tt,Tt,Tt,Ff,Ff,Ff,Ff,Ff,Ff,Ff,Ff,Ff,Ff,Ff,Ff,Ff,Ff,Ff,Ff,Ff]) 7 rfl rfl rfl (pm_load (k := 1) (i := 1) rfl rfl pcmag3 rfl rfl) (fun w1 hw => hw.pick [0, 2] (by decide) rfl) ?_
      refine TH.tk (listed' := #[Tt,Tt,Tt,Tt,Tt,Tt,Tt,Tt,Tt,Ff,Ff,Ff,Ff,Ff,Ff,Ff,Ff,Ff,Ff,Ff,Ff,Ff,Ff,Ff,Ff]) 8 rfl rfl rfl (gives_move rfl rfl) (fun w1 hw => hw.pick [0, 2] (by decide) rfl) ?_
      refine TH.tk (listed' := #[Tt,Tt,Tt,Tt,Tt,Tt,Tt,Tt,Tt,Tt,Ff,Ff,Ff,Ff,Ff,Ff,Ff,Ff,Ff,Ff,Ff,Ff,Ff,Ff,Ff]) 9 rfl rfl rfl (gives_field (v := .pointer (some ⟨g14, 0, none⟩)) rfl rfl (fun w => dntfld119_0 _ _ w)) (fun w1 hw => hw.pick [0, 2] (by decide) rfl) ?_
      refine TH.tk (listed' := #[Tt,Tt,Tt,Tt,Tt,Tt,Tt,Tt,Tt,Tt,Tt,Ff,Ff,Ff,Ff,Ff,Ff,Ff,Ff,Ff,Ff,Ff,Ff,Ff,Ff]) 10 rfl rfl rfl (gives_field (v := .pointer (some ⟨g14, 1, none⟩)) rfl rfl (fun w => pcmfld32_1 _ _ w)) (fun w1 hw => hw.pick [0, 2] (by decide) rfl) ?_
      refine TH.tk (listed' := #[Tt,Tt,Tt,Tt,Tt,Tt,Tt,Tt,Tt,Tt,Tt,Tt,Ff,Ff,Ff,Ff,Ff,Ff,Ff,Ff,Ff,Ff,Ff,Ff,Ff]) 11 rfl rfl rfl (pm_load (k := 0) (i := 1) rfl rfl pcmag30 rfl rfl) (fun w1 hw => hw.pick [0, 2] (by decide) rfl) ?_
      refine TH.tk (listed' := #[Tt,Tt,Tt,Tt,Tt,Tt,Tt,Tt,Tt,Tt,Tt,Tt,Tt,Ff,Ff,Ff,Ff,Ff,Ff,Ff,Ff,Ff,Ff,Ff,Ff]) 12 rfl rfl rfl (gives_field (v := .pointer (some ⟨g14, 0, none⟩)) rfl rfl (fun w => dntfld119_0 _ _ w)) (fun w1 hw => hw.pick [0, 2] (by decide) rfl) ?_
      refine TH.tk (listed' := #[Tt,Tt,Tt,Tt,Tt,Tt,Tt,Tt,Tt,Tt,Tt,Tt,Tt,Tt,Ff,Ff,Ff,Ff,Ff,Ff,Ff,Ff,Ff,Ff,Ff]) 13 rfl rfl rfl (gives_field (v := .pointer (some ⟨g14, 2, none⟩)) rfl rfl (fun w => pcmfld32_2 _ _ w)) (fun w1 hw => hw.pick [0, 2] (by decide) rfl) ?_
      refine TH.tk (listed' := #[Tt,Tt,Tt,Tt,Tt,Tt,Tt,Tt,Tt,Tt,Tt,Tt,Tt,Tt,Tt,Ff,Ff,Ff,Ff,Ff,Ff,Ff,Ff,Ff,Ff]) 14 rfl rfl rfl (pm_load (k := 0) (i := 2) rfl rfl pcmag3 rfl rfl) (fun w1 hw => hw.pick [0, 2] (by decide) rfl) ?_
      refine TH.tk (listed' := #[Tt,Tt,Tt,Tt,Tt,Tt,Tt,Tt,Tt,Tt,Tt,Tt,Tt,Tt,Tt,Tt,Ff,Ff,Ff,Ff,Ff,Ff,Ff,Ff,Ff]) 15 rfl rfl rfl (gives_move rfl rfl) (fun w1 hw => hw.pick [0, 2] (by decide) rfl) ?_
      refine TH.tk (listed' := #[Tt,Tt,Tt,Tt,Tt,Tt,Tt,Tt,Tt,Tt,Tt,Tt,Tt,Tt,Tt,Tt,Tt,Ff,Ff,Ff,Ff,Ff,Ff,Ff,Ff]) 16 rfl rfl rfl (gives_move rfl rfl) (fun w1 hw => hw.pick [0, 2] (by decide) rfl) ?_
      refine TH.tk (listed' := #[Tt,Tt,Tt,Tt,Tt,Tt,Tt,Tt,Tt,Tt,Tt,Tt,Tt,Tt,Tt,Tt,Tt,Tt,Ff,Ff,Ff,Ff,Ff,Ff,Ff]) 17 rfl rfl rfl (gives_move rfl rfl) (fun w1 hw => hw.pick [0, 2] (by decide) rfl) ?_
      refine TH.tk (listed' := #[Tt,Tt,Tt,Tt,Tt,Tt,Tt,Tt,Tt,Tt,Tt,Tt,Tt,Tt,Tt,Tt,Tt,Tt,Tt,Ff,Ff,Ff,Ff,Ff,Ff]) 18 rfl rfl rfl (gives_len rfl Tryz.underlying64 rfl) (fun w1 hw => hw.pick [0, 2] (by decide) rfl) ?_
      refine TH.tk (listed' := #[Tt,Tt,Tt,Tt,Tt,Tt,Tt,Tt,Tt,Tt,Tt,Tt,Tt,Tt,Tt,Tt,Tt,Tt,Tt,Tt,Ff,Ff,Ff,Ff,Ff]) 19 rfl rfl rfl (gives_bin rfl rfl rfl (fun w => bin_add_ (r := ((p71.l.length + 1 : Nat) : Int)) (by simp only [IntKind.wrap_i64]; omega) w)) (fun w1 hw => hw.pick [0, 2] (by decide) rfl) ?_
      refine TH.two' (listed1 := #[Tt,Tt,Tt,Tt,Tt,Tt,Tt,Tt,Tt,Tt,Tt,Tt,Tt,Tt,Tt,Tt,Tt,Tt,Tt,Tt,Tt,Ff,Ff,Ff,Ff]) (listed2 := #[Tt,Tt,Tt,Tt,Tt,Tt,Tt,Tt,Tt,Tt,Tt,Tt,Tt,Tt,Tt,Tt,Tt,Tt,Tt,Tt,Ff,Ff,Ff,Tt,Ff]) 20 23 rfl rfl (by kernel_rfl) rfl rfl ?_ ?_
      ·refine TL.pcallCod (k := 4) (α := {q9 : Nat // q9 ≤ 65535 ∧ (1 ≤ (((p71.l.length + 1 : Nat) : Int) : Int) → (q9 : Int) < ((p71.l.length + 1 : Nat) : Int))}) (fun q9 => .int .i64 ((q9.1 : Nat) : Int)) (fun q9 => []) rfl rfl rfl rfl rfl Tryz.func25 ddrnm25 ddrbd25 rfl (fun w1 hw hC1 => next_cod cb w1 ((p71.l.length + 1 : Nat) : Int) hC1) ?_
       rintro ⟨tq, htq1, htq2⟩
       dsimp only [List.cons_append, List.nil_append]
       refine TL.end_ ?_
       refine TX.held (fun w1 hw => hw.pick [0, 2] (by decide) rfl) ?_
       refine TH.tk (listed' := #[Tt,Tt,Tt,Tt,Tt,Tt,Tt,Tt,Tt,Tt,Tt,Tt,Tt,Tt,Tt,Tt,Tt,Tt,Tt,Tt,Tt,Tt,Ff,Ff,Ff]) 21 rfl rfl rfl (gives_bin rfl rfl rfl (fun w => bin_add_ (r := ((1 + tq : Nat) : Int)) (by simp only [IntKind.wrap_i64]; omega) w)) (fun w1 hw => hw.pick [0, 2] (by decide) rfl) ?_
       refine TH.tk (listed' := #[Tt,Tt,Tt,Tt,Tt,Tt,Tt,Tt,Tt,Tt,Tt,Tt,Tt,Tt,Tt,Tt,Tt,Tt,Tt,Tt,Tt,Tt,Tt,Ff,Ff]) 22 rfl rfl rfl (gives_build (v := .agg #[.int .i64 x61.v, .int .i64 0, .int .i64 ((n1 : Nat) : Int), .int .i64 ((at0 + (1 + dq) : Nat) : Int), .int .u32 x61.dst, .int .i64 x61.proto, .int .i64 ((f : Nat) : Int), .int .i64 ((1 + tq : Nat) : Int), .bool false, .bool false, .int .i64 0, .int .u32 0, .int .i64 0, .int .i64 0, .int .i64 0, .int .i64 0, .int .i64 0]) rfl rfl (fun w => drebld47_74773 _ _ _ _ _ _ _ _ w)) (fun w1 hw => hw.pick [0, 2] (by decide) rfl) ?_
       refine TH.only' (listed' := #[Tt,Tt,Tt,Tt,Tt,Tt,Tt,Tt,Tt,Tt,Tt,Tt,Tt,Tt,Tt,Tt,Tt,Tt,Tt,Tt,Tt,Tt,Tt,Tt,Ff]) 23 rfl (by kernel_rfl) rfl ?_
       refine TL.pnew rfl rfl rfl (exec_alloc (cs := [.int .i64 0, .int .i64 0, .int .i64 0, .int .i64 0, .int .u32 0, .int .i64 0, .int .i64 0, .int .i64 0, .bool false, .bool false, .int .i64 0, .int .u32 0, .int .i64 0, .int .i64 0, .int .i64 0, .int .i64 0, .int .i64 0]) rfl pcpzv47 rfl) (fun g17 => ?_)
       refine TL.end_ ?_
       refine TX.held (fun w1 hw => hw.pick [1, 3] (by decide) rfl) ?_
       refine TH.only' (listed' := #[Tt,Tt,Tt,Tt,Tt,Tt,Tt,Tt,Tt,Tt,Tt,Tt,Tt,Tt,Tt,Tt,Tt,Tt,Tt,Tt,Tt,Tt,Tt,Tt,Tt]) 24 rfl (by kernel_rfl) rfl ?_
       refine TL.pstore (k := 0) (vs := [.int .i64 x61.v, .int .i64 0, .int .i64 ((n1 : Nat) : Int), .int .i64 ((at0 + (1 + dq) : Nat) : Int), .int .u32 x61.dst, .int .i64 x61.proto, .int .i64 ((f : Nat) : Int), .int .i64 ((1 + tq : Nat) : Int), .bool false, .bool false, .int .i64 0, .int .u32 0, .int .i64 0, .int .i64 0, .int .i64 0, .int .i64 0, .int .i64 0]) rfl rfl rfl rfl rfl rfl rfl prssz47 dreone_i64i64i64i64u32i64i64i64bbi64u32i64i64i64i64i64 (by show 17 ≤ 17; decide) rfl ?_
       refine TL.end_ ?_
       refine TX.held (fun w1 hw => hw.pick [1, 3] (by decide) rfl) ?_
       refine TH.done (by kernel_rfl) ?_
       exact TX.joined (⟨((g17, n1), tq), by dsimp only; omega, by dsimp only; omega⟩) (⟨rfl, rfl, rfl, rfl, rfl, rfl, rfl, rfl, rfl, rfl, rfl, rfl, trivial⟩) (fun w1 hw => hw)
      ·refine TL.pnew rfl rfl rfl (exec_alloc (cs := [.int .i64 0, .int .i64 0, .int .i64 0, .int .i64 0, .int .u32 0, .int .i64 0, .int .i64 0, .int .i64 0, .bool false, .bool false, .int .i64 0, .int .u32 0, .int .i64 0, .int .i64 0, .int .i64 0, .int .i64 0, .int .i64 0]) rfl pcpzv47 rfl) (fun g17 => ?_)
       refine TL.end_ ?_
       refine TX.held (fun w1 hw => hw.pick [1, 3] (by decide) rfl) ?_
       refine TH.only' (listed' := #[Tt,Tt,Tt,Tt,Tt,Tt,Tt,Tt,Tt,Tt,Tt,Tt,Tt,Tt,Tt,Tt,Tt,Tt,Tt,Tt,Tt,Ff,Ff,Tt,Ff]) 20 rfl (by kernel_rfl) rfl ?_
       refine TL.pcallCod (k := 5) (α := {q9 : Nat // q9 ≤ 65535 ∧ (1 ≤ (((p71.l.length + 1 : Nat) : Int) : Int) → (q9 : Int) < ((p71.l.length + 1 : Nat) : Int))}) (fun q9 => .int .i64 ((q9.1 : Nat) : Int)) (fun q9 => []) rfl rfl rfl rfl rfl Tryz.func25 ddrnm25 ddrbd25 rfl (fun w1 hw hC1 => next_cod cb w1 ((p71.l.length + 1 : Nat) : Int) hC1) ?_
       rintro ⟨tq, htq1, htq2⟩
       dsimp only [List.cons_append, List.nil_append]
       refine TL.end_ ?_
       refine TX.held (fun w1 hw => hw.pick [1, 3] (by decide) rfl) ?_
       refine TH.tk (listed' := #[Tt,Tt,Tt,Tt,Tt,Tt,Tt,Tt,Tt,Tt,Tt,Tt,Tt,Tt,Tt,Tt,Tt,Tt,Tt,Tt,Tt,Tt,Ff,Tt,Ff]) 21 rfl rfl rfl (gives_bin rfl rfl rfl (fun w => bin_add_ (r := ((1 + tq : Nat) : Int)) (by simp only [IntKind.wrap_i64]; omega) w)) (fun w1 hw => hw.pick [1, 3] (by decide) rfl) ?_
       refine TH.tk (listed' := #[Tt,Tt,Tt,Tt,Tt,Tt,Tt,Tt,Tt,Tt,Tt,Tt,Tt,Tt,Tt,Tt,Tt,Tt,Tt,Tt,Tt,Tt,Tt,Tt,Ff]) 22 rfl rfl rfl (gives_build (v := .agg #[.int .i64 x61.v, .int .i64 0, .int .i64 ((n1 : Nat) : Int), .int .i64 ((at0 + (1 + dq) : Nat) : Int), .int .u32 x61.dst, .int .i64 x61.proto, .int .i64 ((f : Nat) : Int), .int .i64 ((1 + tq : Nat) : Int), .bool false, .bool false, .int .i64 0, .int .u32 0, .int .i64 0, .int .i64 0, .int .i64 0, .int .i64 0, .int .i64 0]) rfl rfl (fun w => drebld47_74773 _ _ _ _ _ _ _ _ w)) (fun w1 hw => hw.pick [1, 3] (by decide) rfl) ?_
       refine TH.only' (listed' := #[Tt,Tt,Tt,Tt,Tt,Tt,Tt,Tt,Tt,Tt,Tt,Tt,Tt,Tt,Tt,Tt,Tt,Tt,Tt,Tt,Tt,Tt,Tt,Tt,Tt]) 24 rfl (by kernel_rfl) rfl ?_
       refine TL.pstore (k := 0) (vs := [.int .i64 x61.v, .int .i64 0, .int .i64 ((n1 : Nat) : Int), .int .i64 ((at0 + (1 + dq) : Nat) : Int), .int .u32 x61.dst, .int .i64 x61.proto, .int .i64 ((f : Nat) : Int), .int .i64 ((1 + tq : Nat) : Int), .bool false, .bool false, .int .i64 0, .int .u32 0, .int .i64 0, .int .i64 0, .int .i64 0, .int .i64 0, .int .i64 0]) rfl rfl rfl rfl rfl rfl rfl prssz47 dreone_i64i64i64i64u32i64i64i64bbi64u32i64i64i64i64i64 (by show 17 ≤ 17; decide) rfl ?_
       refine TL.end_ ?_
       refine TX.held (fun w1 hw => hw.pick [1, 3] (by decide) rfl) ?_
       refine TH.done (by kernel_rfl) ?_
       exact TX.joined (⟨((g17, n1), tq), by dsimp only; omega, by dsimp only; omega⟩) (⟨rfl, rfl, rfl, rfl, rfl, rfl, rfl, rfl, rfl, rfl, rfl, rfl, trivial⟩) (fun w1 hw => hw)
    ·rintro ⟨⟨⟨gR, num⟩, tq⟩, hnum, htq⟩
     dsimp only at hnum htq ⊢
     refine TC.join (α := {y : Nat × Nat // (x61.v = 0 ∧ y.1 = n0 + 1 ∧ y.2 = n1) ∨ (x61.v = 1 ∧ y.1 = n0 ∧ y.2 = n1 + 1)}) (fun y => [(0, .pointer (some ⟨cb, 0, none⟩)), (2, .bool stb), (7, .slice (some ⟨g_An, 0, none⟩) ns.length cn), (8, .slice Ar out.length cr), (9, .int .i64 ((at0 + (1 + dq) : Nat) : Int)), (10, .int .i64 ((idn : Nat) : Int)), (11, .pointer (some ⟨g11, 0, none⟩)), (12, .int .i64 ((k : Nat) : Int)), (14, .pointer (some ⟨g14, 0, none⟩)), (15, .int .i64 ((f : Nat) : Int)), (16, .slice p71.A p71.l.length p71.c), (17, .pointer (some ⟨gR, 0, none⟩))]) (fun y => Pm ⟨w, cb⟩ ([.blk gR 47 [.int .i64 x61.v, .int .i64 0, .int .i64 ((num : Nat) : Int), .int .i64 ((at0 + (1 + dq) : Nat) : Int), .int .u32 x61.dst, .int .i64 x61.proto, .int .i64 ((f : Nat) : Int), .int .i64 ((1 + tq : Nat) : Int), .bool false, .bool false, .int .i64 0, .int .u32 0, .int .i64 0, .int .i64 0, .int .i64 0, .int .i64 0, .int .i64 0], .blk g14 119 x61.cells, .row (.slice Ar out.length cr) 47 17 out.length (flat Rs.cells out), .blk g11 122 [.int .i64 ((y.1.1 : Nat) : Int), .int .i64 ((y.1.2 : Nat) : Int), .int .i64 0, .int .i64 0, .int .i64 0, .int .i64 0, .int .i64 0, .int .i64 0, .int .i64 0, .int .i64 0, .int .i64 0, .int .i64 0, .int .i64 0, .int .i64 0, .int .i64 0, .int .i64 0], .row (.slice (some ⟨g_An, 0, none⟩) ns.length cn) 119 5 ns.length (flat Nt.cells ns2), .abs cb (fun w => Cod w cb)] ++ (netsP P2 ++ oths cb w))) ?_ ?_
     ·rcases hv61 with hv0 | hv1
      ·refine TC.region ?_
       refine TL.val rfl rfl rfl (gives_field (v := .pointer (some ⟨g14, 0, none⟩)) rfl rfl (fun w => dntfld119_0 _ _ w)) ?_
       refine TL.val rfl rfl rfl (gives_field (v := .pointer (some ⟨g14, 0, none⟩)) rfl rfl (fun w => pcmfld32_0 _ _ w)) ?_
       refine TL.val rfl rfl rfl (show Gives _ _ _ _ _ (Value.int .i64 0) from by rw [show (Value.int .i64 0) = .int .i64 x61.v by rw [hv0]]; exact pm_load (k := 1) (i := 0) rfl rfl pcmag3 rfl rfl) ?_
       refine TL.val rfl rfl rfl (gives_at (v := .pointer (some ⟨g11, 0, none⟩)) rfl rfl rfl (fun w => at_arr Tryz.underlying122 pcmsz3 g11 0 _ 0 (by decide) w)) ?_
       refine TL.val rfl rfl rfl (pm_load (k := 3) (i := 0) rfl rfl pcmag3 rfl rfl) ?_
       refine TL.val rfl rfl rfl (gives_bin rfl rfl rfl (fun w => bin_add_ (r := ((n0 + 1 : Nat) : Int)) (by simp only [IntKind.wrap_i64]; omega) w)) ?_
       refine TL.val rfl rfl rfl (gives_at (v := .pointer (some ⟨g11, 0, none⟩)) rfl rfl rfl (fun w => at_arr Tryz.underlying122 pcmsz3 g11 0 _ 0 (by decide) w)) ?_
       refine TL.pstore (k := 3) (vs := [.int .i64 ((n0 + 1 : Nat) : Int)]) rfl rfl rfl rfl rfl rfl rfl pcmsz3 dreone_i64 (by show 1 ≤ 16; decide) rfl ?_
       refine TL.end_ ?_
       exact TX.joined (⟨(n0 + 1, n1), by dsimp only; omega⟩) (⟨rfl, rfl, rfl, rfl, rfl, rfl, rfl, rfl, rfl, rfl, rfl, rfl, trivial⟩) (fun w1 hw => hw)
      ·refine TC.region ?_
       refine TL.val rfl rfl rfl (gives_field (v := .pointer (some ⟨g14, 0, none⟩)) rfl rfl (fun w => dntfld119_0 _ _ w)) ?_
       refine TL.val rfl rfl rfl (gives_field (v := .pointer (some ⟨g14, 0, none⟩)) rfl rfl (fun w => pcmfld32_0 _ _ w)) ?_
       refine TL.val rfl rfl rfl (show Gives _ _ _ _ _ (Value.int .i64 1) from by rw [show (Value.int .i64 1) = .int .i64 x61.v by rw [hv1]]; exact pm_load (k := 1) (i := 0) rfl rfl pcmag3 rfl rfl) ?_
       refine TL.val rfl rfl rfl (gives_at (v := .pointer (some ⟨g11, 1, none⟩)) rfl rfl rfl (fun w => at_arr Tryz.underlying122 pcmsz3 g11 0 _ 1 (by decide) w)) ?_
       refine TL.val rfl rfl rfl (pm_load (k := 3) (i := 1) rfl rfl pcmag3 rfl rfl) ?_
       refine TL.val rfl rfl rfl (gives_bin rfl rfl rfl (fun w => bin_add_ (r := ((n1 + 1 : Nat) : Int)) (by simp only [IntKind.wrap_i64]; omega) w)) ?_
       refine TL.val rfl rfl rfl (gives_at (v := .pointer (some ⟨g11, 1, none⟩)) rfl rfl rfl (fun w => at_arr Tryz.underlying122 pcmsz3 g11 0 _ 1 (by decide) w)) ?_
       refine TL.pstore (k := 3) (vs := [.int .i64 ((n1 + 1 : Nat) : Int)]) rfl rfl rfl rfl rfl rfl rfl pcmsz3 dreone_i64 (by show 2 ≤ 16; decide) rfl ?_
       refine TL.end_ ?_
       exact TX.joined (⟨(n0, n1 + 1), by dsimp only; omega⟩) (⟨rfl, rfl, rfl, rfl, rfl, rfl, rfl, rfl, rfl, rfl, rfl, rfl, trivial⟩) (fun w1 hw => hw)
     ·rintro ⟨⟨n2, n3⟩, hn23⟩
      dsimp only at hn23 ⊢
      refine TC.seq_ ?_
      refine TC.held (ls := #[Ff,Ff,Ff,Ff,Ff,Ff,Ff,Ff,Ff,Ff,Ff]) (fun w1 => ∃ b : Int, Pm ⟨w, cb⟩ [.blk gR 47 [.int .i64 x61.v, .int .i64 0, .int .i64 ((num : Nat) : Int), .int .i64 ((at0 + (1 + dq) : Nat) : Int), .int .u32 x61.dst, .int .i64 x61.proto, .int .i64 ((f : Nat) : Int), .int .i64 ((1 + tq : Nat) : Int), .bool false, .bool false, .int .i64 b, .int .u32 0, .int .i64 0, .int .i64 0, .int .i64 0, .int .i64 0, .int .i64 0]] w1) (by kernel_rfl) rfl rfl (fun w hw => hw.drawn _) ?_
      refine TH.tk (listed' := #[Tt,Ff,Ff,Ff,Ff,Ff,Ff,Ff,Ff,Ff,Ff]) 0 rfl rfl rfl (gives_field (v := .pointer (some ⟨gR, 3, none⟩)) rfl rfl (fun w => prsfld47_3 _ _ w)) (fun w1 hw => ⟨_, hw.pick [0] (by decide) rfl⟩) ?_
      refine TH.tk (listed' := #[Tt,Tt,Ff,Ff,Ff,Ff,Ff,Ff,Ff,Ff,Ff]) 1 rfl rfl rfl (gives_load (v := .int .i64 ((at0 + (1 + dq) : Nat) : Int)) rfl rfl pcmag3 (fun w1 hw => by obtain ⟨b, hw⟩ := hw; exact (hw.cell (k := 0) rfl 3).trans rfl)) (fun w1 hw => ⟨_, hw.pick [0] (by decide) rfl⟩) ?_
      refine TH.tk (listed' := #[Tt,Tt,Tt,Ff,Ff,Ff,Ff,Ff,Ff,Ff,Ff]) 2 rfl rfl rfl (gives_field (v := .pointer (some ⟨gR, 7, none⟩)) rfl rfl (fun w => prsfld47_7 _ _ w)) (fun w1 hw => ⟨_, hw.pick [0] (by decide) rfl⟩) ?_
      refine TH.tk (listed' := #[Tt,Tt,Tt,Tt,Ff,Ff,Ff,Ff,Ff,Ff,Ff]) 3 rfl rfl rfl (gives_load (v := .int .i64 ((1 + tq : Nat) : Int)) rfl rfl pcmag3 (fun w1 hw => by obtain ⟨b, hw⟩ := hw; exact (hw.cell (k := 0) rfl 7).trans rfl)) (fun w1 hw => ⟨_, hw.pick [0] (by decide) rfl⟩) ?_
      refine TH.tk (listed' := #[Tt,Tt,Tt,Tt,Tt,Ff,Ff,Ff,Ff,Ff,Ff]) 4 rfl rfl rfl (gives_bin rfl rfl rfl (fun w => bin_mul_ (r := ((5 * (1 + tq) : Nat) : Int)) (by simp only [IntKind.wrap_i64]; omega) w)) (fun w1 hw => ⟨_, hw.pick [0] (by decide) rfl⟩) ?_
      refine TH.tk (listed' := #[Tt,Tt,Tt,Tt,Tt,Tt,Ff,Ff,Ff,Ff,Ff]) 5 rfl rfl rfl (gives_bin rfl rfl rfl (fun w => bin_add_ (r := ((at0 + (1 + dq) + 5 * (1 + tq) : Nat) : Int)) (by simp only [IntKind.wrap_i64]; omega) w)) (fun w1 hw => ⟨_, hw.pick [0] (by decide) rfl⟩) ?_
      refine TH.tk (listed' := #[Tt,Tt,Tt,Tt,Tt,Tt,Tt,Ff,Ff,Ff,Ff]) 6 rfl rfl rfl (gives_move rfl rfl) (fun w1 hw => ⟨_, hw.pick [0] (by decide) rfl⟩) ?_
      refine TH.only' (listed' := #[Tt,Tt,Tt,Tt,Tt,Tt,Tt,Tt,Ff,Ff,Ff]) 7 rfl (by kernel_rfl) rfl ?_
      refine TL.pcallCod (k := 5) (α := {q9 : Nat // q9 ≤ 65535 ∧ (1 ≤ (4 : Int) → (q9 : Int) < 4)}) (fun q9 => .int .i64 ((q9.1 : Nat) : Int)) (fun q9 => []) rfl rfl rfl rfl rfl Tryz.func25 ddrnm25 ddrbd25 rfl (fun w1 hw hC1 => next_cod cb w1 4 hC1) ?_
      rintro ⟨bq, hbq1, hbq2⟩
      dsimp only [List.cons_append, List.nil_append]
      refine TL.end_ ?_
      refine TX.held (fun w1 hw => ⟨_, hw.pick [0] (by decide) rfl⟩) ?_
      refine TH.tk (listed' := #[Tt,Tt,Tt,Tt,Tt,Tt,Tt,Tt,Tt,Ff,Ff]) 8 rfl rfl rfl (gives_bin rfl rfl rfl (fun w => bin_add_ (r := ((at0 + (1 + dq) + 5 * (1 + tq) + bq : Nat) : Int)) (by simp only [IntKind.wrap_i64]; omega) w)) (fun w1 hw => ⟨_, hw.pick [0] (by decide) rfl⟩) ?_
      refine TH.tk (listed' := #[Tt,Tt,Tt,Tt,Tt,Tt,Tt,Tt,Tt,Tt,Ff]) 9 rfl rfl rfl (gives_field (v := .pointer (some ⟨gR, 10, none⟩)) rfl rfl (fun w => prsfld47_10 _ _ w)) (fun w1 hw => ⟨_, hw.pick [0] (by decide) rfl⟩) ?_
      refine TH.only' (listed' := #[Tt,Tt,Tt,Tt,Tt,Tt,Tt,Tt,Tt,Tt,Tt]) 10 rfl (by kernel_rfl) rfl ?_
      refine TL.pstore (k := 0) (vs := [.int .i64 ((at0 + (1 + dq) + 5 * (1 + tq) + bq : Nat) : Int)]) rfl rfl rfl rfl rfl rfl rfl pcmsz3 dreone_i64 (by show 11 ≤ 17; decide) rfl ?_
      refine TL.end_ ?_
      refine TX.held (fun w1 hw => ⟨_, hw.pick [0] (by decide) rfl⟩) ?_
      refine TH.done (by kernel_rfl) ?_
      refine TX.then_ (TC.seq_ (TC.region ?_))
      refine TL.mv ?_
      refine TL.mv ?_
      refine TL.pcallCod (k := 5) (α := {q9 : Nat // q9 ≤ 65535 ∧ (1 ≤ (5 : Int) → (q9 : Int) < 5)}) (fun q9 => .int .i64 ((q9.1 : Nat) : Int)) (fun q9 => []) rfl rfl rfl rfl rfl Tryz.func25 ddrnm25 ddrbd25 rfl (fun w1 hw hC1 => next_cod cb w1 5 hC1) ?_
      rintro ⟨ec, hec1, hec2⟩
      dsimp only [List.cons_append, List.nil_append]
      refine TL.val rfl rfl rfl (gives_bin rfl rfl rfl (fun w => bin_add_ (r := ((1 + ec : Nat) : Int)) (by simp only [IntKind.wrap_i64]; omega) w)) ?_
      refine TL.val rfl rfl rfl (gives_bin rfl rfl rfl (fun w => bin_add_ (r := ((idn + (1 + ec) : Nat) : Int)) (by simp only [IntKind.wrap_i64]; omega) w)) ?_
      refine TL.as_ ?_
      refine TL.end_ (TX.then_ (TC.seq_ (TC.region ?_)))
      refine TL.val rfl rfl rfl (gives_field (v := .pointer (some ⟨g14, 4, none⟩)) rfl rfl (fun w => dntfld119_2 _ _ w)) ?_
      refine TL.val rfl rfl rfl (pm_load (k := 1) (i := 4) rfl rfl pcmag30 rfl rfl) ?_
      refine TL.as_ ?_
      refine TL.end_ (TX.then_ ?_)
      refine TC.join (α := {a : Int // 0 ≤ a ∧ a ≤ 167774466}) (fun y => [(0, .pointer (some ⟨cb, 0, none⟩)), (2, .bool stb), (7, .slice (some ⟨g_An, 0, none⟩) ns.length cn), (8, .slice Ar out.length cr), (9, .int .i64 ((at0 + (1 + dq) : Nat) : Int)), (10, .int .i64 ((idn + (1 + ec) : Nat) : Int)), (11, .pointer (some ⟨g11, 0, none⟩)), (12, .int .i64 ((k : Nat) : Int)), (16, .slice p71.A p71.l.length p71.c), (17, .pointer (some ⟨gR, 0, none⟩)), (18, .int .u32 y.1)]) (fun y => Pm ⟨w, cb⟩ ([.blk gR 47 [.int .i64 x61.v, .int .i64 0, .int .i64 ((num : Nat) : Int), .int .i64 ((at0 + (1 + dq) : Nat) : Int), .int .u32 x61.dst, .int .i64 x61.proto, .int .i64 ((f : Nat) : Int), .int .i64 ((1 + tq : Nat) : Int), .bool false, .bool false, .int .i64 ((at0 + (1 + dq) + 5 * (1 + tq) + bq : Nat) : Int), .int .u32 0, .int .i64 0, .int .i64 0, .int .i64 0, .int .i64 0, .int .i64 0], .blk g14 119 x61.cells, .row (.slice Ar out.length cr) 47 17 out.length (flat Rs.cells out), .blk g11 122 [.int .i64 ((n2 : Nat) : Int), .int .i64 ((n3 : Nat) : Int), .int .i64 0, .int .i64 0, .int .i64 0, .int .i64 0, .int .i64 0, .int .i64 0, .int .i64 0, .int .i64 0, .int .i64 0, .int .i64 0, .int .i64 0, .int .i64 0, .int .i64 0, .int .i64 0], .row (.slice (some ⟨g_An, 0, none⟩) ns.length cn) 119 5 ns.length (flat Nt.cells ns2), .abs cb (fun w => Cod w cb)] ++ (netsP P2 ++ oths cb w))) ?_ ?_
      ·refine TC.seq_ (TC.region ?_)
       refine TL.val rfl rfl rfl (gives_field (v := .pointer (some ⟨gR, 7, none⟩)) rfl rfl (fun w => prsfld47_7 _ _ w)) ?_
       refine TL.val rfl rfl rfl (pm_load (k := 0) (i := 7) rfl rfl pcmag3 rfl rfl) ?_
       refine TL.mv ?_
       refine TL.val rfl rfl rfl (gives_len rfl Tryz.underlying64 rfl) ?_
       refine TL.vsplit rfl rfl rfl (gives_bin rfl rfl rfl (fun w => bin_leq w)) (fun h129 => ?_) (fun h129 => ?_)
       ·have q129 := of_decide_eq_true h129
        refine TL.end_ (TX.then_ (TC.condT rfl (TC.region ?_)))
        refine TL.mv ?_
        refine TL.val rfl rfl rfl (gives_field (v := .pointer (some ⟨gR, 7, none⟩)) rfl rfl (fun w => prsfld47_7 _ _ w)) ?_
        refine TL.val rfl rfl rfl (pm_load (k := 0) (i := 7) rfl rfl pcmag3 rfl rfl) ?_
        refine TL.val rfl rfl rfl (gives_bin rfl rfl rfl (fun w => bin_sub_ (r := ((tq : Nat) : Int)) (by simp only [IntKind.wrap_i64]; omega) w)) ?_
        have hmm134 := nets_mem2 (T := oths cb w) hx61p (List.mem_of_getElem? hp71)
        refine TL.fact (p := ∃ g, p71.A = some ⟨g, 0, none⟩) (fun w1 hw => segA hw (List.mem_of_mem_drop (i := 6) (by exact hmm134)) (by omega)) ?_
        rintro ⟨gx134, hgx134⟩
        obtain ⟨z134, hz134⟩ : ∃ z, p71.l[tq]? = some z := ⟨_, List.getElem?_eq_getElem (by omega)⟩
        refine TL.val rfl rfl rfl (gives_at (v := .pointer (some ⟨gx134, 0 + tq * 1, none⟩)) rfl rfl rfl (fun w => at_el Tryz.underlying64 dntsz30 hgx134 _ _ tq (by omega) rfl w)) ?_
        refine TL.val rfl rfl rfl (gives_load (v := .int .u32 z134) rfl rfl pcmag30 (fun w1 hw => seg_cell (ic_cel .u32) hw (List.mem_of_mem_drop (i := 6) (by exact hmm134)) hgx134 hz134 0 _ rfl)) ?_
        have hz134r := hpw71.2 z134 (List.mem_of_getElem? hz134)
        refine TL.as_ ?_
        refine TL.end_ ?_
        exact TX.joined (⟨z134, by omega⟩) (⟨rfl, rfl, rfl, rfl, rfl, rfl, rfl, rfl, rfl, rfl, rfl, trivial⟩) (fun w1 hw => hw)
       ·have q129 := of_decide_eq_false h129
        refine TL.end_ (TX.then_ (TC.condF rfl (TC.skip_ ?_)))
        exact TX.joined (⟨x61.last, by omega⟩) (⟨rfl, rfl, rfl, rfl, rfl, rfl, rfl, rfl, rfl, rfl, rfl, trivial⟩) (fun w1 hw => hw)
      ·rintro ⟨fa, hfa⟩
       dsimp only at hfa ⊢
       refine TC.join (α := {y : (Bool × Bool) × (Int × Int) × (Int × Int × Int) // AnsP y.1.1 y.1.2 y.2.1.1 y.2.1.2 y.2.2.1 y.2.2.2.1 y.2.2.2.2}) (fun y => [(0, .pointer (some ⟨cb, 0, none⟩)), (2, .bool stb), (7, .slice (some ⟨g_An, 0, none⟩) ns.length cn), (8, .slice Ar out.length cr), (9, .int .i64 ((at0 + (1 + dq) : Nat) : Int)), (10, .int .i64 ((idn + (1 + ec) : Nat) : Int)), (11, .pointer (some ⟨g11, 0, none⟩)), (12, .int .i64 ((k : Nat) : Int)), (16, .slice p71.A p71.l.length p71.c), (17, .pointer (some ⟨gR, 0, none⟩))]) (fun y => Pm ⟨w, cb⟩ ([.blk gR 47 [.int .i64 x61.v, .int .i64 0, .int .i64 ((num : Nat) : Int), .int .i64 ((at0 + (1 + dq) : Nat) : Int), .int .u32 x61.dst, .int .i64 x61.proto, .int .i64 ((f : Nat) : Int), .int .i64 ((1 + tq : Nat) : Int), .bool y.1.1.1, .bool y.1.1.2, .int .i64 ((at0 + (1 + dq) + 5 * (1 + tq) + bq : Nat) : Int), .int .u32 y.1.2.1.1, .int .i64 y.1.2.1.2, .int .i64 0, .int .i64 y.1.2.2.1, .int .i64 y.1.2.2.2.1, .int .i64 y.1.2.2.2.2], .blk g14 119 x61.cells, .row (.slice Ar out.length cr) 47 17 out.length (flat Rs.cells out), .blk g11 122 [.int .i64 ((n2 : Nat) : Int), .int .i64 ((n3 : Nat) : Int), .int .i64 0, .int .i64 0, .int .i64 0, .int .i64 0, .int .i64 0, .int .i64 0, .int .i64 0, .int .i64 0, .int .i64 0, .int .i64 0, .int .i64 0, .int .i64 0, .int .i64 0, .int .i64 0], .row (.slice (some ⟨g_An, 0, none⟩) ns.length cn) 119 5 ns.length (flat Nt.cells ns2), .abs cb (fun w => Cod w cb)] ++ (netsP P2 ++ oths cb w))) ?_ ?_
       ·refine TC.seq_ (TC.region ?_)
        refine TL.mv ?_
        refine TL.vsplit rfl rfl rfl (gives_bin rfl rfl rfl (fun w => bin_neq w)) (fun h137 => ?_) (fun h137 => ?_)
        ·have q137 := of_decide_eq_true h137
         iterate 4 (first | refine TL.gu ?_ | refine TL.mv ?_)
         refine TL.pcallCod (k := 5) (α := Bool) (fun x => .bool x) (fun x => []) rfl rfl rfl rfl rfl Tryz.func13 dntnm13 dntbd13 rfl (fun w1 hw hC1 => dbool_cod cb w1 hC1 5 (by decide)) ?_
         rintro b2
         dsimp only [List.cons_append, List.nil_append]
         cases b2 with
         | true =>
          refine TL.gu ?_
          refine TL.val rfl rfl rfl (gives_boolnot rfl rfl) ?_
          refine TL.pk ?_
          refine TL.end_ (TX.then_ (TC.condF rfl (TC.skip_ ?_)))
          exact TX.joined (⟨((false, false), (0, 0), (0, 0, 0)), .inl ⟨rfl, rfl, rfl, rfl, rfl, rfl, rfl⟩⟩) (⟨rfl, rfl, rfl, rfl, rfl, rfl, rfl, rfl, rfl, rfl, trivial⟩) (fun w1 hw => hw)
         | false =>
          refine TL.gu ?_
          refine TL.val rfl rfl rfl (gives_boolnot rfl rfl) ?_
          refine TL.pk ?_
          refine TL.end_ (TX.then_ (TC.condT rfl (TC.seq_ (TC.region ?_))))
          refine TL.mv ?_
          refine TL.pcallCod (k := 5) (α := Bool) (fun x => .bool x) (fun x => []) rfl rfl rfl rfl rfl Tryz.func13 dntnm13 dntbd13 rfl (fun w1 hw hC1 => dbool_cod cb w1 hC1 30 (by decide)) ?_
          rintro b3
          dsimp only [List.cons_append, List.nil_append]
          refine TL.val rfl rfl rfl (gives_field (v := .pointer (some ⟨gR, 8, none⟩)) rfl rfl (fun w => prsfld47_8 _ _ w)) ?_
          refine TL.pstore (k := 0) (vs := [.bool true]) rfl rfl rfl rfl rfl rfl rfl dresz4 dreone_b (by show 9 ≤ 17; decide) rfl ?_
          refine TL.val rfl rfl rfl (gives_field (v := .pointer (some ⟨gR, 9, none⟩)) rfl rfl (fun w => prsfld47_9 _ _ w)) ?_
          refine TL.pstore (k := 0) (vs := [.bool b3]) rfl rfl rfl rfl rfl rfl rfl dresz4 dreone_b (by show 10 ≤ 17; decide) rfl ?_
          refine TL.end_ (TX.then_ (TC.seq_ (TC.region ?_)))
          refine TL.mv ?_
          refine TL.mv ?_
          refine TL.val rfl rfl rfl (gives_bin (v := .int .i64 ((((idn + (1 + ec)) % 65536 : Nat) : Nat) : Int)) rfl rfl rfl (fun w => by rw [bin_remk (by omega) (by decide) w]; rfl)) ?_
          refine TL.val rfl rfl rfl (gives_build (v := .agg #[.int .u32 fa, .int .i64 1, .int .i64 0, .int .i64 60, .int .i64 (((idn + (1 + ec)) % 65536 : Nat) : Int), .int .i64 1]) rfl rfl (fun w => drebld45_50928 _ _ _ _ _ w)) ?_
          refine TL.val rfl rfl rfl (gives_field (v := .pointer (some ⟨gR, 11, none⟩)) rfl rfl (fun w => prsfld47_11 _ _ w)) ?_
          refine TL.pstore (k := 0) (vs := [.int .u32 fa, .int .i64 1, .int .i64 0, .int .i64 60, .int .i64 (((idn + (1 + ec)) % 65536 : Nat) : Int), .int .i64 1]) rfl rfl rfl rfl rfl rfl rfl dresz45 dreone_u32i64i64i64i64i64 (by show 17 ≤ 17; decide) rfl ?_
          refine TL.end_ (TX.then_ (TC.seq_ (TC.seq_ (TC.region ?_))))
          refine TL.val rfl rfl rfl (gives_field (v := .pointer (some ⟨gR, 7, none⟩)) rfl rfl (fun w => prsfld47_7 _ _ w)) ?_
          refine TL.val rfl rfl rfl (pm_load (k := 0) (i := 7) rfl rfl pcmag3 rfl rfl) ?_
          refine TL.mv ?_
          refine TL.val rfl rfl rfl (gives_len rfl Tryz.underlying64 rfl) ?_
          refine TL.vsplit rfl rfl rfl (gives_bin rfl rfl rfl (fun w => bin_gtr w)) (fun h156 => ?_) (fun h156 => ?_)
          ·have q156 := of_decide_eq_true h156
           refine TL.end_ (TX.then_ (TC.condT rfl (TC.region ?_)))
           refine TL.mv ?_
           refine TL.prowS (e := 3) (size := 1) (cs := flat (ic .i64) [3, 3, 2]) rfl rfl rfl rfl rfl (fun w => pcmbs48_3_44640 _ _ _ w) (by decide) rfl (fun g158 => ?_)
           refine TL.pcallCod (k := 6) (α := {v : Int // v ∈ ([3, 3, 2] : List Int)}) (fun x => .int .i64 x.1) (fun x => []) rfl rfl rfl rfl rfl Tryz.func75 ddrnm75 ddrbd75 rfl (fun w1 hw hC1 => pick_cod cb w1 hC1 g158 3 ([3, 3, 2]) (hw.neq (i := 0) (j := 6) rfl rfl (by decide) g158 rfl <| congrArg some ·.symm) (Pc.lt (hw.at_ (k := 0) rfl) g158 rfl).2 (by show 0 < ([3, 3, 2] : List Int).length; simp) (fun i v hi => flat_row1 hw (q := 0) rfl hi)) ?_
           rintro ⟨pk, hpk⟩
           dsimp only [List.cons_append, List.nil_append]
           have hpkb : pk = 3 ∨ pk = 2 := by simp only [List.mem_cons, List.not_mem_nil, or_false] at hpk; omega
           refine TL.val rfl rfl rfl (gives_field (v := .pointer (some ⟨gR, 11, none⟩)) rfl rfl (fun w => prsfld47_11 _ _ w)) ?_
           refine TL.val rfl rfl rfl (gives_field (v := .pointer (some ⟨gR, 12, none⟩)) rfl rfl (fun w => prsfld45_1 _ _ w)) ?_
           refine TL.pstore (k := 1) (vs := [.int .i64 pk]) rfl rfl rfl rfl rfl rfl rfl pcmsz3 dreone_i64 (by show 13 ≤ 17; decide) rfl ?_
           refine TL.end_ (TX.then_ (TC.seq_ (TC.region ?_)))
           refine TL.mv ?_
           refine TL.pcallCod (k := 6) (α := Bool) (fun x => .bool x) (fun x => []) rfl rfl rfl rfl rfl Tryz.func13 dntnm13 dntbd13 rfl (fun w1 hw hC1 => dbool_cod cb w1 hC1 5 (by decide)) ?_
           rintro b4
           dsimp only [List.cons_append, List.nil_append]
           refine TL.end_ (TX.then_ ?_)
           refine TC.split (t := b4) rfl (fun c163 => ?_) (fun c163 => ?_)
           ·refine TC.region ?_
            refine TL.mv ?_
            refine TL.pcallCod (k := 6) (α := {q9 : Nat // q9 ≤ 65535 ∧ (1 ≤ (65536 : Int) → (q9 : Int) < 65536)}) (fun q9 => .int .i64 ((q9.1 : Nat) : Int)) (fun q9 => []) rfl rfl rfl rfl rfl Tryz.func25 ddrnm25 ddrbd25 rfl (fun w1 hw hC1 => next_cod cb w1 65536 hC1) ?_
            rintro ⟨ie0, hie01, hie02⟩
            dsimp only [List.cons_append, List.nil_append]
            refine TL.val rfl rfl rfl (gives_field (v := .pointer (some ⟨gR, 11, none⟩)) rfl rfl (fun w => prsfld47_11 _ _ w)) ?_
            refine TL.val rfl rfl rfl (gives_field (v := .pointer (some ⟨gR, 15, none⟩)) rfl rfl (fun w => prsfld45_4 _ _ w)) ?_
            refine TL.pstore (k := 1) (vs := [.int .i64 ((ie0 : Nat) : Int)]) rfl rfl rfl rfl rfl rfl rfl pcmsz3 dreone_i64 (by show 16 ≤ 17; decide) rfl ?_
            refine TL.end_ ?_
            exact TX.joined (⟨((true, b3), (fa, pk), (60, ((ie0 : Nat) : Int), 1)), .inr ⟨rfl, by dsimp only; omega, by dsimp only; omega, by dsimp only; omega, by dsimp only; omega, rfl, by dsimp only; omega, by dsimp only; omega, rfl⟩⟩) (⟨rfl, rfl, rfl, rfl, rfl, rfl, rfl, rfl, rfl, rfl, trivial⟩) (fun w1 hw => hw.sel (.cons _ (.cons_cons _ (.cons_cons _ (.cons_cons _ (.cons_cons _ (.cons_cons _ (.cons_cons _ (List.Sublist.refl _)))))))))
           ·refine TC.skip_ ?_
            exact TX.joined (⟨((true, b3), (fa, pk), (60, (((idn + (1 + ec)) % 65536 : Nat) : Int), 1)), .inr ⟨rfl, by dsimp only; omega, by dsimp only; omega, by dsimp only; omega, by dsimp only; omega, rfl, by dsimp only; omega, by dsimp only; omega, rfl⟩⟩) (⟨rfl, rfl, rfl, rfl, rfl, rfl, rfl, rfl, rfl, rfl, trivial⟩) (fun w1 hw => hw.sel (.cons _ (.cons_cons _ (.cons_cons _ (.cons_cons _ (.cons_cons _ (.cons_cons _ (.cons_cons _ (List.Sublist.refl _)))))))))
          ·have q156 := of_decide_eq_false h156
           refine TL.end_ (TX.then_ (TC.condF rfl (TC.skip_ (TX.then_ (TC.seq_ (TC.region ?_))))))
           refine TL.mv ?_
           refine TL.pcallCod (k := 5) (α := Bool) (fun x => .bool x) (fun x => []) rfl rfl rfl rfl rfl Tryz.func13 dntnm13 dntbd13 rfl (fun w1 hw hC1 => dbool_cod cb w1 hC1 5 (by decide)) ?_
           rintro b4
           dsimp only [List.cons_append, List.nil_append]
           refine TL.end_ (TX.then_ ?_)
           refine TC.split (t := b4) rfl (fun c163 => ?_) (fun c163 => ?_)
           ·refine TC.region ?_
            refine TL.mv ?_
            refine TL.pcallCod (k := 5) (α := {q9 : Nat // q9 ≤ 65535 ∧ (1 ≤ (65536 : Int) → (q9 : Int) < 65536)}) (fun q9 => .int .i64 ((q9.1 : Nat) : Int)) (fun q9 => []) rfl rfl rfl rfl rfl Tryz.func25 ddrnm25 ddrbd25 rfl (fun w1 hw hC1 => next_cod cb w1 65536 hC1) ?_
            rintro ⟨ie0, hie01, hie02⟩
            dsimp only [List.cons_append, List.nil_append]
            refine TL.val rfl rfl rfl (gives_field (v := .pointer (some ⟨gR, 11, none⟩)) rfl rfl (fun w => prsfld47_11 _ _ w)) ?_
            refine TL.val rfl rfl rfl (gives_field (v := .pointer (some ⟨gR, 15, none⟩)) rfl rfl (fun w => prsfld45_4 _ _ w)) ?_
            refine TL.pstore (k := 0) (vs := [.int .i64 ((ie0 : Nat) : Int)]) rfl rfl rfl rfl rfl rfl rfl pcmsz3 dreone_i64 (by show 16 ≤ 17; decide) rfl ?_
            refine TL.end_ ?_
            exact TX.joined (⟨((true, b3), (fa, 1), (60, ((ie0 : Nat) : Int), 1)), .inr ⟨rfl, by dsimp only; omega, by dsimp only; omega, by dsimp only; omega, by dsimp only; omega, rfl, by dsimp only; omega, by dsimp only; omega, rfl⟩⟩) (⟨rfl, rfl, rfl, rfl, rfl, rfl, rfl, rfl, rfl, rfl, trivial⟩) (fun w1 hw => hw)
           ·refine TC.skip_ ?_
            exact TX.joined (⟨((true, b3), (fa, 1), (60, (((idn + (1 + ec)) % 65536 : Nat) : Int), 1)), .inr ⟨rfl, by dsimp only; omega, by dsimp only; omega, by dsimp only; omega, by dsimp only; omega, rfl, by dsimp only; omega, by dsimp only; omega, rfl⟩⟩) (⟨rfl, rfl, rfl, rfl, rfl, rfl, rfl, rfl, rfl, rfl, trivial⟩) (fun w1 hw => hw)
        ·have q137 := of_decide_eq_false h137
         iterate 5 (first | refine TL.of ?_ | refine TL.mv ?_ | refine TL.pk ?_)
         refine TL.end_ (TX.then_ (TC.condF rfl (TC.skip_ ?_)))
         exact TX.joined (⟨((false, false), (0, 0), (0, 0, 0)), .inl ⟨rfl, rfl, rfl, rfl, rfl, rfl, rfl⟩⟩) (⟨rfl, rfl, rfl, rfl, rfl, rfl, rfl, rfl, rfl, rfl, trivial⟩) (fun w1 hw => hw)
       ·rintro ⟨⟨⟨an, db⟩, ⟨sr, kd⟩, lf, ie, qu⟩, han⟩
        dsimp only at han ⊢
        refine TC.seq_ ?_
        have hout2 := hout.snoc hx61t hnum hn23 han (by omega : at0 < at0 + (1 + dq)) (show f ≤ 2 by omega) (show tq ≤ 3 by omega) (show bq ≤ 3 by omega) (by omega)
        refine TC.region ?_
        refine TL.val rfl rfl rfl (gives_field (v := .pointer (some ⟨gR, 10, none⟩)) rfl rfl (fun w => prsfld47_10 _ _ w)) ?_
        refine TL.val rfl rfl rfl (pm_load (k := 0) (i := 10) rfl rfl pcmag3 rfl rfl) ?_
        refine TL.as_ ?_
        refine TL.end_ (TX.then_ (TC.region ?_))
        refine TL.mv ?_
        refine TL.val rfl rfl rfl (pm_loadV (k := 0) (i := 0) (n := 17) (v := .agg #[.int .i64 x61.v, .int .i64 0, .int .i64 ((num : Nat) : Int), .int .i64 ((at0 + (1 + dq) : Nat) : Int), .int .u32 x61.dst, .int .i64 x61.proto, .int .i64 ((f : Nat) : Int), .int .i64 ((1 + tq : Nat) : Int), .bool an, .bool db, .int .i64 ((at0 + (1 + dq) + 5 * (1 + tq) + bq : Nat) : Int), .int .u32 sr, .int .i64 kd, .int .i64 0, .int .i64 lf, .int .i64 ie, .int .i64 qu]) rfl rfl prsag47 prssz47 rfl (by show 17 ≤ 17; decide) rfl) ?_
        refine TL.prowS (e := 47) (size := 17) (cs := flat Rs.cells [(⟨x61.v, 0, ((num : Nat) : Int), ((at0 + (1 + dq) : Nat) : Int), x61.dst, x61.proto, ((f : Nat) : Int), ((1 + tq : Nat) : Int), an, db, ((at0 + (1 + dq) + 5 * (1 + tq) + bq : Nat) : Int), sr, kd, 0, lf, ie, qu⟩ : Rs)]) rfl rfl rfl rfl rfl (fun w => porbs26_1_99505 _ _ _ _ _ _ _ _ _ _ _ _ _ _ _ _ _ w) (by decide) rfl (fun g172 => ?_)
        refine TL.appendT (k := 3) rfl rfl rfl rfl Tryz.underlying26 porel26 rfl rfl rfl (fun w1 hw => pm_reads hw (k := 0) rfl) (flat_one rs_cel _) (by show _ * 128 ≤ _; omega) ((out ++ [(⟨x61.v, 0, ((num : Nat) : Int), ((at0 + (1 + dq) : Nat) : Int), x61.dst, x61.proto, ((f : Nat) : Int), ((1 + tq : Nat) : Int), an, db, ((at0 + (1 + dq) + 5 * (1 + tq) + bq : Nat) : Int), sr, kd, 0, lf, ie, qu⟩ : Rs)]).length) (by rw [List.length_append]; rfl) (flat Rs.cells (out ++ [(⟨x61.v, 0, ((num : Nat) : Int), ((at0 + (1 + dq) : Nat) : Int), x61.dst, x61.proto, ((f : Nat) : Int), ((1 + tq : Nat) : Int), an, db, ((at0 + (1 + dq) + 5 * (1 + tq) + bq : Nat) : Int), sr, kd, 0, lf, ie, qu⟩ : Rs)])) ((flat_app _ _).symm) (fun A173 c173 hA1731 hA1732 => ?_)
        refine TL.as_ ?_
        refine TL.end_ (TX.in_normal (TX.then_ (TC.region ?_)))
        refine TL.mv ?_
        refine TL.val rfl rfl rfl (gives_bin rfl rfl rfl (fun w => bin_sub_ (r := ((k - 1 : Nat) : Int)) (by simp only [IntKind.wrap_i64]; omega) w)) ?_
        refine TL.as_ ?_
        refine TL.end_ ?_
        exact TX.round (⟨(k - 1, at0 + (1 + dq) + 5 * (1 + tq) + bq, idn + (1 + ec), (n2, n3), (A173, c173), out ++ [(⟨x61.v, 0, ((num : Nat) : Int), ((at0 + (1 + dq) : Nat) : Int), x61.dst, x61.proto, ((f : Nat) : Int), ((1 + tq : Nat) : Int), an, db, ((at0 + (1 + dq) + 5 * (1 + tq) + bq : Nat) : Int), sr, kd, 0, lf, ie, qu⟩ : Rs)], ns2, P2), ⟨by dsimp only; rw [List.length_append]; show k - 1 + (out.length + 1) ≤ m; omega, by dsimp only; rw [List.length_append]; show _ ≤ 100 + 100 * (out.length + 1); omega, by dsimp only; rw [List.length_append]; show _ ≤ 70000 + 100 * (out.length + 1); omega⟩, hout2, hns2, by dsimp only; omega, hA1731, hA1732⟩) (by show k - 1 < k; omega) ⟨rfl, rfl, rfl, rfl, rfl, rfl, rfl, rfl, trivial⟩ (fun w1 hw => hw.sel (.cons _ (.cons _ (.cons _ (.cons_cons _ (.cons_cons _ (.cons_cons _ (.cons_cons _ (List.Sublist.refl _)))))))))
  ·have q39 := of_decide_eq_false h39
   refine TL.end_ (TX.then_ (TC.condF rfl (TC.exit_ (TX.then_exit (TX.then_exit (TX.in_same (TX.then_ (TC.seq_ (TC.region ?_)))))))))
   refine TL.mv ?_
   refine TL.as_ ?_
   refine TL.end_ (TX.then_ (TC.ret_ ?_))
   exact ret_tmp Tryz.results23 rfl (fun w1 hw => ⟨⟨((Ar, cr), out), hout.ok (by omega), hrc, hrm⟩, rfl, Pm.codr [_] ((hw.sel (.cons_cons _ (.cons _ (.cons _ (.cons_cons _ (List.Sublist.refl _)))))).sel (.cons_cons _ (.cons_cons _ (List.sublist_append_right _ _)))) rfl⟩)
set_option maxRecDepth 20000
def ctrR (a b : Rs) : Bool := usbRs a && usbRs b && a.ans && b.ans && decide (trcR a = trcR b) && decide (a.flow = b.flow) && decide (a.ttl = b.ttl) && decide (a.src ≠ b.src)
def ConL (l : List Rs) : Prop := ∀ (j i : Nat) (x y : Rs), j < i → l[j]? = some x → l[i]? = some y → ctrR x y = false
def OneOk (m : Nat) (stb : Bool) (l : List Rs) : Prop := (∀ r ∈ l, DrR r) ∧ AscK Rs.keys l ∧ (∃ t, ∀ r ∈ l, trcR r = t) ∧ l.length ≤ m ∧ l.Pairwise DrOrd ∧ (stb = true → ConL l)
theorem OneOk.nil {m : Nat} {stb : Bool} : OneOk m stb [] := ⟨fun r hr => absurd hr List.not_mem_nil, .nil, ⟨Trc.zero, fun r hr => absurd hr List.not_mem_nil⟩, Nat.zero_le _, .nil, fun _ j i x y _ hx => by cases hx⟩
theorem of_mem {l y : List Rs} {t : Trc} (h : IsOf l t y) {r : Rs} : r ∈ y ↔ (r ∈ l ∧ vldRs r = true) ∧ trcR r = t := by
  obtain ⟨o, h1, rfl⟩ := h
  rw [List.mem_filter, h1.2, decide_eq_true_eq]
theorem of_asc {l y : List Rs} {t : Trc} (h : IsOf l t y) : AscK Rs.keys y := by
  obtain ⟨o, h1, rfl⟩ := h
  exact h1.1.sublist List.filter_sublist
theorem asc_nodup {y : List Rs} (h : AscK Rs.keys y) : y.Nodup := h.imp fun {a b} hab e => by rw [e] at hab; exact ltK_irrefl _ hab
theorem IsOf.len {l y : List Rs} {t : Trc} (h : IsOf l t y) : y.length ≤ l.length := nodup_len (asc_nodup (of_asc h)) fun r hr => ((of_mem h).1 hr).1.1
theorem drawn_asc {m : Nat} {l y : List Rs} (h : DrawnOk m l) (ha : AscK Rs.keys y) (hs : ∀ r ∈ y, r ∈ l) : y.Pairwise DrOrd := by
  refine List.Pairwise.imp_of_mem ?_ ha
  intro a b hma hmb hab
  have key : ∀ x ∈ l, ∀ z ∈ l, x = z ∨ DrOrd x z ∨ DrOrd z x := by
    intro x hx z hz
    obtain ⟨i, hi⟩ := List.getElem?_of_mem hx
    obtain ⟨j, hj⟩ := List.getElem?_of_mem hz
    obtain ⟨i1, i2⟩ := List.getElem?_eq_some_iff.1 hi
    obtain ⟨j1, j2⟩ := List.getElem?_eq_some_iff.1 hj
    rcases Nat.lt_trichotomy i j with h1 | h1 | h1
    · right; left
      have := List.pairwise_iff_getElem.1 h.2.1 i j i1 j1 h1
      rw [i2, j2] at this; exact this
    · left
      subst h1; rw [hi] at hj; exact Option.some.inj hj
    · right; right
      have := List.pairwise_iff_getElem.1 h.2.1 j i j1 i1 h1
      rw [i2, j2] at this; exact this
  rcases key a (hs a hma) b (hs b hmb) with e | e | e
  · rw [e] at hab; exact absurd hab (ltK_irrefl _)
  · exact e
  · exfalso
    have hb := (h.1 b (hs b hmb)).1
    have hr : b.inRange := by
      have : chkR b = 0 := by unfold vldRs at hb; simp only [Bool.and_eq_true, decide_eq_true_eq] at hb; exact hb.1.1
      exact Decidable.by_contra fun h => by have := chk_range h; omega
    obtain ⟨b1, b2, b3, b4, b5, b6, b7, b8, b9, b10, b11, _⟩ := hr
    have h1 : b.at_ < a.at_ := by have := e.1; omega
    have h2 : lexI a.keys b.keys = if cmpI a.at_ b.at_ = 0 then lexI a.keys.tail b.keys.tail else cmpI a.at_ b.at_ := rfl
    have h3 : cmpI a.at_ b.at_ = 1 := by unfold cmpI; rw [if_neg (by omega), if_pos h1]
    rw [h2, h3] at hab
    simp at hab
theorem OneOk.all {m : Nat} {l y : List Rs} {t : Trc} {stb : Bool} (h : DrawnOk m l) (ho : IsOf l t y) (hs : stb = false) : OneOk m stb y :=
  ⟨fun r hr => h.1 r ((of_mem ho).1 hr).1.1, of_asc ho, ⟨t, fun r hr => ((of_mem ho).1 hr).2⟩, Nat.le_trans ho.len h.2.2, drawn_asc h (of_asc ho) (fun r hr => ((of_mem ho).1 hr).1.1), fun e => by rw [hs] at e; cases e⟩
def OneI (m : Nat) (l : List Rs) (t : Trc) (x : List Rs) (i : Nat) (o : List Rs) : Prop := DrawnOk m l ∧ IsOf l t x ∧ o.Sublist (x.take i) ∧ ConL o
theorem OneI.start {m : Nat} {l x : List Rs} {t : Trc} (h : DrawnOk m l) (ho : IsOf l t x) : OneI m l t x 0 [] := ⟨h, ho, List.nil_sublist _, fun j i x y _ hx => by cases hx⟩
theorem OneI.skip {m i : Nat} {l x o : List Rs} {t : Trc} (h : OneI m l t x i o) : OneI m l t x (i + 1) o := ⟨h.1, h.2.1, h.2.2.1.trans (List.take_sublist_take_left (by omega)), h.2.2.2⟩
theorem OneI.snoc {m i : Nat} {l x o : List Rs} {t : Trc} {r : Rs} (h : OneI m l t x i o) (hx : x[i]? = some r) (hc : ConL (o ++ [r])) : OneI m l t x (i + 1) (o ++ [r]) := ⟨h.1, h.2.1, by
  rw [List.take_add_one, hx]
  exact List.Sublist.append h.2.2.1 (List.Sublist.refl _), hc⟩
theorem OneI.done {m i : Nat} {l x o : List Rs} {t : Trc} {stb : Bool} (h : OneI m l t x i o) (hi : x.length ≤ i) : OneOk m stb o := by
  obtain ⟨h1, h2, h3, h4⟩ := h
  rw [List.take_of_length_le hi] at h3
  have h5 : OneOk m false x := OneOk.all h1 h2 rfl
  exact ⟨fun r hr => h5.1 r (h3.subset hr), h5.2.1.sublist h3, ⟨t, fun r hr => ((of_mem h2).1 (h3.subset hr)).2⟩, Nat.le_trans h3.length_le h5.2.2.2.1, h5.2.2.2.2.1.sublist h3, fun _ => h4⟩
section
variable {w0 : Base} {w : World} {L : List Pc}
end
set_option maxRecDepth 20000
def ShufOk (l o : List Rs) : Prop := (∀ r, r ∈ o ↔ r ∈ l) ∧ o.length ≤ 2 * l.length
theorem ShufOk.nil {l : List Rs} : ShufOk (l.take 0) [] := ⟨fun r => by rw [List.take_zero], Nat.zero_le _⟩
theorem put_len {o : List Rs} {k : Nat} {x : Rs} : (o.take k ++ x :: o.drop k).length = o.length + 1 := by
  have e : (o.take k ++ o.drop k).length = o.length := by rw [List.take_append_drop]
  rw [List.length_append] at e
  rw [List.length_append, List.length_cons]; omega
theorem shuf_put {l o : List Rs} {i k : Nat} {x : Rs} (h : ShufOk (l.take i) o) (hx : l[i]? = some x) : ShufOk (l.take (i + 1)) (o.take k ++ x :: o.drop k) := by
  have hlt := (List.getElem?_eq_some_iff.1 hx).1
  refine ⟨fun r => by rw [mem_put, mem_take_snoc hx, h.1], ?_⟩
  have h2 := h.2
  rw [List.length_take] at h2 ⊢
  rw [put_len]
  omega
theorem shuf_two {l o : List Rs} {i k : Nat} {x y : Rs} (h : ShufOk (l.take i) o) (hx : l[i]? = some x) (hy : l[i]? = some y) : ShufOk (l.take (i + 1)) (o.take k ++ x :: o.drop k ++ [y]) := by
  have hlt := (List.getElem?_eq_some_iff.1 hx).1
  rw [hx] at hy; cases hy
  refine ⟨fun r => ?_, ?_⟩
  · rw [List.mem_append, List.mem_singleton, (shuf_put (k := k) h hx).1, mem_take_snoc hx]
    constructor
    · rintro ((h1 | h1) | h1)
      · exact .inl h1
      · exact .inr h1
      · exact .inr h1
    · exact fun h1 => .inl h1
  · have h2 := h.2
    rw [List.length_append, put_len]
    rw [List.length_take] at h2 ⊢
    show o.length + 1 + 1 ≤ _
    omega
set_option maxHeartbeats 1000000 in
theorem shuf_fr (w0 : Base) (F : List Pc) (cb : Nat) (A0 : Option Addr) (m c0 : Nat) (l : List Rs) (w : World) (hw0 : Pm w0 ([.abs cb (fun w => Cod w cb), .row (.slice A0 m c0) 47 17 m (flat Rs.cells l)] ++ F) w) (hm : l.length = m) (hm1 : m ≤ 10000) :
    Calls Tryz.prog 15 #[.pointer (some ⟨cb, 0, none⟩), .slice A0 m c0] w fun e w' => ∃ x : {y : (Option Addr × Nat) × List Rs // ShufOk l y.2 ∧ y.2.length ≤ y.1.2 ∧ y.1.2 ≤ maxLen}, e = .returned (.slice x.1.1.1 x.1.2.length x.1.1.2) ∧ Pm w0 (.row (.slice x.1.1.1 x.1.2.length x.1.1.2) 47 17 x.1.2.length (flat Rs.cells x.1.2) :: [.abs cb (fun w => Cod w cb), .row (.slice A0 m c0) 47 17 m (flat Rs.cells l)] ++ F) w' := by
  refine begin_ (vs := [.pointer (some ⟨cb, 0, none⟩), .slice A0 m c0]) (I := Pm w0 ([.abs cb (fun w => Cod w cb), .row (.slice A0 m c0) 47 17 m (flat Rs.cells l)] ++ F)) Tryz.func15 rfl rfl rfl ?_ hw0
  refine TC.seq_ ?_
  refine TC.region ?_
  refine TL.val rfl rfl rfl (gives_assign rfl rfl) ?_
  refine TL.end_ ?_
  refine TX.then_ ?_
  refine TC.seq_ ?_
  refine TC.region ?_
  refine TL.val rfl rfl rfl (gives_assign rfl rfl) ?_
  refine TL.end_ ?_
  refine TX.then_ ?_
  refine TC.seq_ ?_
  refine TC.seq_ ?_
  refine TC.region ?_
  refine TL.val rfl rfl rfl (gives_assign rfl rfl) ?_
  refine TL.end_ ?_
  refine TX.then_ ?_
  refine TC.block ?_
  refine TC.nilrow 47 17 ?_
  refine TC.loop_ (α := {y : Nat × (Option Addr × Nat) × Nat × List Rs // y.1 ≤ m ∧ ShufOk (l.take y.1) y.2.2.2 ∧ y.2.2.1 ≤ y.2.1.2 ∧ y.2.1.2 ≤ maxLen ∧ y.2.2.2.length = y.2.2.1}) (fun y => [(0, .pointer (some ⟨cb, 0, none⟩)), (1, .slice A0 m c0), (6, .int .i64 ((y.1.1 : Nat) : Int)), (5, .slice y.1.2.1.1 y.1.2.2.1 y.1.2.1.2)]) (fun y => Pm w0 ([.row (.slice y.1.2.1.1 y.1.2.2.1 y.1.2.1.2) 47 17 y.1.2.2.1 (flat Rs.cells y.1.2.2.2), .abs cb (fun w => Cod w cb), .row (.slice A0 m c0) 47 17 m (flat Rs.cells l)] ++ F)) (fun y => m - y.1.1) (⟨(0, (none, 0), 0, []), Nat.zero_le _, ShufOk.nil, Nat.le_refl _, Nat.zero_le _, rfl⟩) ⟨rfl, rfl, rfl, rfl, trivial⟩ (fun w1 hw => hw) ?_
  rintro ⟨⟨i, ⟨Ao, co⟩, mo, out⟩, hi, hout, houtc, houtm, hon⟩
  dsimp only at hi hout houtc houtm hon ⊢
  have hsl := hout.2
  have htl : (l.take i).length ≤ m := by rw [List.length_take]; omega
  refine TC.seq_ ?_
  refine TC.seq_ ?_
  refine TC.region ?_
  refine TL.val rfl rfl rfl (gives_move rfl rfl) ?_
  refine TL.val rfl rfl rfl (gives_move rfl rfl) ?_
  refine TL.val rfl rfl rfl (gives_len rfl Tryz.underlying26 rfl) ?_
  refine TL.vsplit rfl rfl rfl (gives_bin rfl rfl rfl (fun w => bin_lss w)) (fun h11 => ?_) (fun h11 => ?_)
  · have q11 := of_decide_eq_true h11
    refine TL.end_ ?_
    refine TX.then_ ?_
    refine TC.condT rfl ?_
    refine TC.skip_ ?_
    refine TX.then_ ?_
    refine TC.seq_ ?_
    refine TC.block ?_
    refine TC.seq_ ?_
    refine TC.region ?_
    refine TL.val rfl rfl rfl (gives_move rfl rfl) ?_
    refine TL.val rfl rfl rfl (gives_move rfl rfl) ?_
    refine TL.val rfl rfl rfl (gives_len rfl Tryz.underlying26 rfl) ?_
    refine TL.val rfl rfl rfl (gives_bin rfl rfl rfl (fun w => bin_add_ (r := ((mo + 1 : Nat) : Int)) (by simp only [IntKind.wrap_i64]; omega) w)) ?_
    refine TL.pcallCod (k := 1) (α := {q9 : Nat // q9 ≤ 65535 ∧ (1 ≤ (((mo + 1 : Nat) : Int) : Int) → (q9 : Int) < ((mo + 1 : Nat) : Int))}) (fun q9 => .int .i64 ((q9.1 : Nat) : Int)) (fun q9 => []) rfl rfl rfl rfl rfl Tryz.func25 ddrnm25 ddrbd25 rfl (fun w1 hw hC1 => next_cod cb w1 ((mo + 1 : Nat) : Int) hC1) ?_
    rintro ⟨k, hk1, hk2⟩
    dsimp only [List.cons_append, List.nil_append]
    refine TL.val rfl rfl rfl (gives_assign rfl rfl) ?_
    refine TL.end_ ?_
    refine TX.then_ ?_
    refine TC.seq_ ?_
    refine TC.region ?_
    refine TL.val rfl rfl rfl (gives_move rfl rfl) ?_
    refine TL.val rfl rfl rfl (gives_build (v := .agg (Rs.zero.cells).toArray) rfl rfl (fun w => pofbld47_534  w)) ?_
    refine TL.prowS (e := 47) (size := 17) (cs := flat Rs.cells [Rs.zero]) rfl rfl rfl rfl rfl (fun w => porbs26_1_99505 _ _ _ _ _ _ _ _ _ _ _ _ _ _ _ _ _ w) (by decide) rfl (fun g21 => ?_)
    refine TL.appendT (k := 1) rfl rfl rfl rfl Tryz.underlying26 porel26 rfl rfl rfl (fun w1 hw => pm_reads hw (k := 0) rfl) (flat_one rs_cel _) (by show _ * 128 ≤ _; omega) (mo + 1) (rfl) (flat Rs.cells (out ++ [Rs.zero])) ((flat_app _ _).symm) (fun A22 c22 hA221 hA222 => ?_)
    refine TL.val rfl rfl rfl (gives_assign rfl rfl) ?_
    refine TL.end_ ?_
    refine TX.then_ ?_
    refine TC.seq_ ?_
    have hkm : k ≤ mo := by omega
    have hn1 : (out ++ [Rs.zero]).length = out.length + 1 := by simp
    have hn2 : (shiftL (out ++ [Rs.zero]) k).length = out.length + 1 := by rw [shiftL_len _ _ (by omega), hn1]
    refine TC.fact (p := ∃ g, A22 = some ⟨g, 0, none⟩) (fun w1 hw => rowA hw (k := 1) rfl (by omega)) ?_
    rintro ⟨g_A22, rfl⟩
    refine TC.tail 7 (by kernel_rfl) (by kernel_rfl) (fun w hw => hw.drawn _) ?_
    refine TS.val rfl rfl rfl (gives_move rfl rfl) ?_
    refine TS.val rfl rfl rfl (gives_move rfl rfl) ?_
    refine TS.val rfl rfl rfl (gives_bin rfl rfl rfl (fun w => bin_add_ (r := ((k + 1 : Nat) : Int)) (by simp only [IntKind.wrap_i64]; omega) w)) ?_
    refine TS.val rfl rfl rfl (gives_sliceL (v := .slice (if c22 = k + 1 then some ⟨g_A22, 0, none⟩ else (some (⟨g_A22, 0, none⟩ : Addr)).map (·.add ((k + 1) * 17))) ((mo + 1) - (k + 1)) (c22 - (k + 1))) rfl rfl rfl (fun w => cut_lo Tryz.underlying26 prssz47 _ _ _ (k + 1) rfl (by omega) w)) ?_
    refine TS.val rfl rfl rfl (gives_move rfl rfl) ?_
    refine TS.val rfl rfl rfl (gives_move rfl rfl) ?_
    refine TS.val rfl rfl rfl (gives_tailF (q := k) rfl rfl rfl rfl Tryz.underlying26 prssz47 (by omega) (by omega)) ?_
    refine TS.end_ ?_
    refine TL.shiftF rs_cel (kk := 1) (k := k) rfl rfl rfl rfl Tryz.underlying26 prssz47 rfl rfl rfl (by omega) (by omega) (by omega) ?_
    try dsimp only [List.set_cons_zero, List.set_cons_succ]
    refine TL.end_ ?_
    refine TX.then_ ?_
    refine TC.seq_ ?_
    refine TC.region ?_
    refine TL.val rfl rfl rfl (gives_move rfl rfl) ?_
    refine TL.val rfl rfl rfl (gives_move rfl rfl) ?_
    refine TL.val rfl rfl rfl (gives_move rfl rfl) ?_
    refine TL.val rfl rfl rfl (gives_move rfl rfl) ?_
    refine TL.fact (p := ∃ g, A0 = some ⟨g, 0, none⟩) (fun w1 hw => rowA hw (k := 3) rfl (by omega)) ?_
    rintro ⟨g_A0, rfl⟩
    have hi35 : i < l.length := by omega
    obtain ⟨x35, hx35⟩ : ∃ x35, l[i]? = some x35 := ⟨_, List.getElem?_eq_getElem hi35⟩
    refine TL.val rfl rfl rfl (gives_at (v := .pointer (some ⟨g_A0, 0 + i * 17, none⟩)) rfl rfl rfl (fun w => at_el Tryz.underlying26 prssz47 rfl _ _ i (by omega) rfl w)) ?_
    refine TL.val rfl rfl rfl (gives_loadR (off := 0 + i * 17) rfl rfl prsag47 prssz47 (rs_cel.len x35) (fun w1 hw j9 u9 h9 => flat_row rs_cel hw (q := 3) rfl hx35 j9 u9 h9)) ?_
    have hi37 : k < (shiftL (out ++ [Rs.zero]) k).length := by omega
    obtain ⟨x37, hx37⟩ : ∃ x37, (shiftL (out ++ [Rs.zero]) k)[k]? = some x37 := ⟨_, List.getElem?_eq_getElem hi37⟩
    refine TL.val rfl rfl rfl (gives_at (v := .pointer (some ⟨g_A22, 0 + k * 17, none⟩)) rfl rfl rfl (fun w => at_el Tryz.underlying26 prssz47 rfl _ _ k (by omega) rfl w)) ?_
    refine TL.rowset (k := 1) (vs := x35.cells) (xs' := flat Rs.cells ((shiftL (out ++ [Rs.zero]) k).set k x35)) rfl rfl rfl rfl rfl rfl rfl prssz47 (rs_cel.one _) (by rw [flat_len rs_cel]; show 0 + k * 17 + 17 ≤ _; omega) (flat_put rs_cel (q := 0) (y := x35) hx37 (by show 0 + 17 ≤ 17; decide) rfl) ?_
    try dsimp only [List.set_cons_zero, List.set_cons_succ]
    refine TL.end_ ?_
    refine TX.then_ ?_
    refine TC.seq_ ?_
    refine TC.region ?_
    refine TL.val rfl rfl rfl (gives_move rfl rfl) ?_
    refine TL.pcallCod (k := 2) (α := Bool) (fun x => .bool x) (fun x => []) rfl rfl rfl rfl rfl Tryz.func13 dntnm13 dntbd13 rfl (fun w1 hw hC1 => dbool_cod cb w1 hC1 8 (by decide)) ?_
    rintro b1
    dsimp only [List.cons_append, List.nil_append]
    refine TL.end_ ?_
    refine TX.then_ ?_
    refine TC.split (t := b1) rfl (fun c39 => ?_) (fun c39 => ?_)
    · refine TC.region ?_
      refine TL.val rfl rfl rfl (gives_move rfl rfl) ?_
      refine TL.val rfl rfl rfl (gives_move rfl rfl) ?_
      refine TL.val rfl rfl rfl (gives_move rfl rfl) ?_
      have hi43 : i < l.length := by omega
      obtain ⟨x43, hx43⟩ : ∃ x43, l[i]? = some x43 := ⟨_, List.getElem?_eq_getElem hi43⟩
      refine TL.val rfl rfl rfl (gives_at (v := .pointer (some ⟨g_A0, 0 + i * 17, none⟩)) rfl rfl rfl (fun w => at_el Tryz.underlying26 prssz47 rfl _ _ i (by omega) rfl w)) ?_
      refine TL.val rfl rfl rfl (gives_loadR (off := 0 + i * 17) rfl rfl prsag47 prssz47 (rs_cel.len x43) (fun w1 hw j9 u9 h9 => flat_row rs_cel hw (q := 3) rfl hx43 j9 u9 h9)) ?_
      refine TL.prowS (e := 47) (size := 17) (cs := flat Rs.cells [x43]) rfl rfl rfl rfl rfl (fun w => porbs26_1_99505 _ _ _ _ _ _ _ _ _ _ _ _ _ _ _ _ _ w) (by decide) rfl (fun g45 => ?_)
      refine TL.appendT (k := 2) rfl rfl rfl rfl Tryz.underlying26 porel26 rfl rfl rfl (fun w1 hw => pm_reads hw (k := 0) rfl) (flat_one rs_cel _) (by show _ * 128 ≤ _; omega) (mo + 1 + 1) (rfl) (flat Rs.cells (((shiftL (out ++ [Rs.zero]) k).set k x35) ++ [x43])) ((flat_app _ _).symm) (fun A46 c46 hA461 hA462 => ?_)
      refine TL.val rfl rfl rfl (gives_assign rfl rfl) ?_
      refine TL.end_ ?_
      refine TX.in_normal ?_
      refine TX.then_ ?_
      refine TC.region ?_
      refine TL.val rfl rfl rfl (gives_move rfl rfl) ?_
      refine TL.val rfl rfl rfl (gives_bin rfl rfl rfl (fun w => bin_add_ (r := ((i + 1 : Nat) : Int)) (by simp only [IntKind.wrap_i64]; omega) w)) ?_
      refine TL.val rfl rfl rfl (gives_assign rfl rfl) ?_
      refine TL.end_ ?_
      exact TX.round (⟨(i + 1, (A46, c46), mo + 1 + 1, ((shiftL (out ++ [Rs.zero]) k).set k x35) ++ [x43]), by dsimp only; omega, by dsimp only; rw [shiftL_at _ _ _ _ (by omega)]; exact shuf_two hout hx35 hx43, hA461, hA462, by dsimp only; simp only [List.length_append, List.length_set, hn2, hon, List.length_singleton]⟩) (by show m - (i + 1) < m - i; omega) ⟨rfl, rfl, rfl, rfl, trivial⟩ (fun w1 hw => hw.sel (.cons _ (.cons _ (.cons_cons _ (.cons_cons _ (.cons_cons _ (List.Sublist.refl _)))))))
    · refine TC.skip_ ?_
      refine TX.in_normal ?_
      refine TX.then_ ?_
      refine TC.region ?_
      refine TL.val rfl rfl rfl (gives_move rfl rfl) ?_
      refine TL.val rfl rfl rfl (gives_bin rfl rfl rfl (fun w => bin_add_ (r := ((i + 1 : Nat) : Int)) (by simp only [IntKind.wrap_i64]; omega) w)) ?_
      refine TL.val rfl rfl rfl (gives_assign rfl rfl) ?_
      refine TL.end_ ?_
      exact TX.round (⟨(i + 1, ((some ⟨g_A22, 0, none⟩), c22), mo + 1, (shiftL (out ++ [Rs.zero]) k).set k x35), by dsimp only; omega, by dsimp only; rw [shiftL_at _ _ _ _ (by omega)]; exact shuf_put hout hx35, hA221, hA222, by dsimp only; simp only [List.length_append, List.length_set, hn2, hon, List.length_singleton]⟩) (by show m - (i + 1) < m - i; omega) ⟨rfl, rfl, rfl, rfl, trivial⟩ (fun w1 hw => hw.sel (.cons _ (.cons_cons _ (.cons_cons _ (.cons_cons _ (List.Sublist.refl _))))))
  · have q11 := of_decide_eq_false h11
    refine TL.end_ ?_
    refine TX.then_ ?_
    refine TC.condF rfl ?_
    refine TC.exit_ ?_
    refine TX.then_exit ?_
    refine TX.then_exit ?_
    refine TX.in_same ?_
    refine TX.then_ ?_
    refine TC.seq_ ?_
    refine TC.region ?_
    refine TL.val rfl rfl rfl (gives_move rfl rfl) ?_
    refine TL.val rfl rfl rfl (gives_assign rfl rfl) ?_
    refine TL.end_ ?_
    refine TX.then_ ?_
    refine TC.ret_ ?_
    subst hon
    exact ret_tmp Tryz.results15 rfl (fun w1 hw => ⟨⟨((Ao, co), out), by rw [List.take_of_length_le (by omega)] at hout; exact hout, by dsimp only; omega, houtm⟩, rfl, hw⟩)
def mxn (W : Int → Nat) (b : Int) : Nat → Nat
  | 0 => 0
  | n + 1 => max (mxn W b n) (W (b + n + 1))
def IsD (W : Int → Nat) (d : Dm) : Prop := ∃ n : Nat, 0 < n ∧ W d.frm = 1 ∧ d.to_ = d.frm + n + 1 ∧ (∀ j : Nat, 1 ≤ j → j ≤ n → 1 < W (d.frm + j)) ∧ W d.to_ = 1 ∧ d.wid = mxn W d.frm n
def IsDm (W : Int → Nat) (ds : List Dm) : Prop := ds.Pairwise (fun x y => x.frm < y.frm) ∧ ∀ d, d ∈ ds ↔ IsD W d
theorem pair_eq {ds ds' : List Dm} (h : ds.Pairwise fun x y => x.frm < y.frm) (h' : ds'.Pairwise fun x y => x.frm < y.frm) (hm : ∀ d, d ∈ ds ↔ d ∈ ds') : ds = ds' := by
  induction ds generalizing ds' with
  | nil =>
    cases ds' with
    | nil => rfl
    | cons y t => exact absurd ((hm y).2 List.mem_cons_self) List.not_mem_nil
  | cons x t ih =>
    cases ds' with
    | nil => exact absurd ((hm x).1 List.mem_cons_self) List.not_mem_nil
    | cons y t' =>
      obtain ⟨h1, h2⟩ := List.pairwise_cons.1 h
      obtain ⟨h3, h4⟩ := List.pairwise_cons.1 h'
      have e : x = y := by
        rcases List.mem_cons.1 ((hm x).1 List.mem_cons_self) with e | e
        · exact e
        · rcases List.mem_cons.1 ((hm y).2 List.mem_cons_self) with e2 | e2
          · exact e2.symm
          · have := h1 y e2; have := h3 x e; omega
      subst e
      rw [ih h2 h4 fun d => ?_]
      constructor
      · intro hd
        rcases List.mem_cons.1 ((hm d).1 (List.mem_cons_of_mem _ hd)) with e | e
        · subst e; have := h1 d hd; omega
        · exact e
      · intro hd
        rcases List.mem_cons.1 ((hm d).2 (List.mem_cons_of_mem _ hd)) with e | e
        · subst e; have := h3 d hd; omega
        · exact e
theorem IsDm.eq {W : Int → Nat} {ds ds' : List Dm} (h : IsDm W ds) (h' : IsDm W ds') : ds = ds' := pair_eq h.1 h'.1 fun d => by rw [h.2, h'.2]
theorem mxn_pos {W : Int → Nat} {b : Int} {n : Nat} (h : ∀ j : Nat, 1 ≤ j → j ≤ n → 1 < W (b + j)) : 1 < mxn W b n ↔ 0 < n := by
  cases n with
  | zero => simp [mxn]
  | succ n =>
    have := h (n + 1) (by omega) (by omega)
    have e : b + ((n + 1 : Nat) : Int) = b + n + 1 := by omega
    rw [e] at this
    simp only [mxn]; omega
theorem isD_to {W : Int → Nat} {d : Dm} {b : Int} {n : Nat} (hd : IsD W d) (hw : ∀ j : Nat, 1 ≤ j → j ≤ n → 1 < W (b + j)) (hb : W b ≤ 1) (ht : d.to_ = b + n + 1) : d.frm = b ∧ W b = 1 ∧ 0 < n ∧ d.wid = mxn W b n := by
  obtain ⟨m, h0, h1, h2, h3, h4, h5⟩ := hd
  have hmn : m = n := by
    rcases Nat.lt_trichotomy m n with h | h | h
    · have := hw (n - m) (by omega) (by omega)
      have e : b + ((n - m : Nat) : Int) = d.frm := by omega
      rw [e] at this; omega
    · exact h
    · have := h3 (m - n) (by omega) (by omega)
      have e : d.frm + ((m - n : Nat) : Int) = b := by omega
      rw [e] at this; omega
  subst hmn
  obtain e : d.frm = b := by omega
  rw [e] at h1 h5
  exact ⟨e, h1, h0, h5⟩
structure DmI (W : Int → Nat) (T : List Int) (i : Nat) (f : Int) (wd : Nat) (out : List Dm) : Prop where
  mem : ∀ d, d ∈ out ↔ IsD W d ∧ d.to_ ∈ T.take i
  asc : out.Pairwise fun x y => x.frm < y.frm
  zero : i = 0 → f = -1
  top : 0 < i → ∃ (b : Int) (n : Nat), T[i - 1]? = some (b + n) ∧ (∀ j : Nat, 1 ≤ j → j ≤ n → 1 < W (b + j)) ∧ ((f = -1 ∧ W b = 0) ∨ ∃ k : Nat, f = (k : Int) ∧ k < i ∧ T[k]? = some b ∧ W b = 1 ∧ wd = mxn W b n)
def DmJ (W : Int → Nat) (T : List Int) (i : Nat) (f : Int) (wd : Nat) (t : Int) : Prop := ∃ (b : Int) (n : Nat), t = b + n + 1 ∧ (∀ j : Nat, 1 ≤ j → j ≤ n → 1 < W (b + j)) ∧ ((f = -1 ∧ W b = 0) ∨ ∃ k : Nat, f = (k : Int) ∧ k < i ∧ T[k]? = some b ∧ W b = 1 ∧ wd = mxn W b n)
section
variable {W : Int → Nat} {T : List Int} {i : Nat} {f f0 : Int} {wd wd0 : Nat} {out : List Dm} {t s : Int}
theorem DmI.start : DmI W T 0 (-1) 0 [] := ⟨fun d => by simp, .nil, fun _ => rfl, fun h => absurd h (Nat.lt_irrefl _)⟩
theorem asc_lt (ha : T.Pairwise (· < ·)) {i j : Nat} {x y : Int} (hx : T[i]? = some x) (hy : T[j]? = some y) (h : i < j) : x < y := by
  obtain ⟨h1, rfl⟩ := List.getElem?_eq_some_iff.1 hx
  obtain ⟨h2, rfl⟩ := List.getElem?_eq_some_iff.1 hy
  exact List.pairwise_iff_getElem.1 ha i j h1 h2 h
theorem gap_zero (ha : T.Pairwise (· < ·)) (hm : ∀ t, t ∈ T ↔ 0 < W t) (hx : T[i]? = some t) {u : Int} (hu : u < t) (hp : 0 < i → ∃ s, T[i - 1]? = some s ∧ s < u) : W u = 0 := by
  rcases Nat.eq_zero_or_pos (W u) with h | h
  · exact h
  · obtain ⟨j, hj⟩ := List.mem_iff_getElem?.1 ((hm u).2 h)
    exfalso
    rcases Nat.lt_trichotomy j i with h1 | h1 | h1
    · obtain ⟨s, hs, hsu⟩ := hp (by omega)
      rcases Nat.lt_or_ge j (i - 1) with h2 | h2
      · have := asc_lt ha hj hs h2; omega
      · obtain rfl : j = i - 1 := by omega
        rw [hj] at hs; cases hs; omega
    · subst h1; rw [hj] at hx; cases hx; omega
    · have := asc_lt ha hx hj h1; omega
theorem DmI.gap (ha : T.Pairwise (· < ·)) (hm : ∀ t, t ∈ T ↔ 0 < W t) (hx : T[i]? = some t) (h : i = 0 ∨ ∃ s, T[i - 1]? = some s ∧ t - 1 ≠ s) (wd : Nat) : DmJ W T i (-1) wd t := by
  refine ⟨t - 1, 0, by omega, fun j h1 h2 => by omega, .inl ⟨rfl, ?_⟩⟩
  refine gap_zero ha hm hx (by omega) fun h0 => ?_
  rcases h with h | ⟨s, hs, hne⟩
  · omega
  · exact ⟨s, hs, by have := asc_lt ha hs hx (by omega); omega⟩
theorem DmI.on (h : DmI W T i f wd out) (h0 : 0 < i) (hs : T[i - 1]? = some s) (e : t - 1 = s) : DmJ W T i f wd t := by
  obtain ⟨b, n, h1, h2, h3⟩ := h.top h0
  rw [hs] at h1; cases h1
  exact ⟨b, n, by omega, h2, h3⟩
theorem DmI.wide (h : DmI W T i f0 wd0 out) (hJ : DmJ W T i f wd t) (hx : T[i]? = some t) (hw : 1 < W t) : DmI W T (i + 1) f (max wd (W t)) out := by
  obtain ⟨b, n, h1, h2, h3⟩ := hJ
  refine ⟨fun d => ?_, h.asc, fun h0 => by omega, fun _ => ⟨b, n + 1, ?_, fun j hj1 hj2 => ?_, ?_⟩⟩
  · rw [h.mem, mem_take_snoc hx]
    constructor
    · rintro ⟨h4, h5⟩; exact ⟨h4, .inl h5⟩
    · rintro ⟨h4, h5 | h5⟩
      · exact ⟨h4, h5⟩
      · obtain ⟨m, _, _, _, _, h6, _⟩ := h4
        rw [h5] at h6; omega
  · show T[i]? = _
    rw [hx, h1]; congr 1; omega
  · rcases Nat.lt_or_ge n j with h4 | h4
    · obtain rfl : j = n + 1 := by omega
      have e : b + ((n + 1 : Nat) : Int) = t := by omega
      rw [e]; exact hw
    · exact h2 j hj1 h4
  · rcases h3 with h3 | ⟨k, hk, hki, hkb, hb1, hwd⟩
    · exact .inl h3
    · refine .inr ⟨k, hk, by omega, hkb, hb1, ?_⟩
      have e : b + (n : Int) + 1 = t := by omega
      simp only [mxn]; rw [e, hwd]
theorem DmI.close (h : DmI W T i f0 wd0 out) (ha : T.Pairwise (· < ·)) (hJ : DmJ W T i f wd t) (hx : T[i]? = some t) (hw : W t = 1) {k : Nat} {b : Int} (hk : f = (k : Int)) (hb : T[k]? = some b) (h1 : 1 < wd) : DmI W T (i + 1) (i : Int) 0 (out ++ [⟨b, t, (wd : Int)⟩]) := by
  obtain ⟨b', n, h2, h3, h4⟩ := hJ
  rcases h4 with ⟨h4, _⟩ | ⟨k', hk', hki, hkb, hb1, hwd⟩
  · omega
  obtain rfl : k = k' := by omega
  rw [hb] at hkb; cases hkb
  have hn : 0 < n := (mxn_pos h3).1 (by omega)
  have hD : IsD W ⟨b, t, (wd : Int)⟩ := ⟨n, hn, hb1, h2, h3, hw, by rw [hwd]⟩
  refine ⟨fun d => ?_, List.pairwise_append.2 ⟨h.asc, by simp, fun x hx2 y hy => ?_⟩, fun h0 => by omega, fun _ => ⟨t, 0, by rw [Nat.add_sub_cancel, hx]; simp, fun j h5 h6 => by omega, .inr ⟨i, rfl, by omega, hx, hw, rfl⟩⟩⟩
  · rw [List.mem_append, h.mem, mem_take_snoc hx, List.mem_singleton]
    constructor
    · rintro (⟨h5, h6⟩ | rfl)
      · exact ⟨h5, .inl h6⟩
      · exact ⟨hD, .inr rfl⟩
    · rintro ⟨h5, h6 | h6⟩
      · exact .inl ⟨h5, h6⟩
      · obtain ⟨e1, _, _, e2⟩ := isD_to h5 h3 (by omega) (by omega)
        obtain ⟨d1, d2, d3⟩ := d
        simp only at e1 e2 h6
        subst e1 e2 h6
        exact .inr (by rw [hwd])
  · rw [List.mem_singleton] at hy; subst hy
    obtain ⟨h5, h6⟩ := (h.mem x).1 hx2
    obtain ⟨m, h7, h8, h9, h10, h11, _⟩ := h5
    have h12 : x.to_ < t := by
      obtain ⟨j, hj⟩ := List.mem_iff_getElem?.1 h6
      have hji : j < i := by
        have := (List.getElem?_eq_some_iff.1 hj).1
        rw [List.length_take] at this; omega
      rw [List.getElem?_take_of_lt hji] at hj
      exact asc_lt ha hj hx hji
    show x.frm < b
    by_cases h13 : x.to_ ≤ b
    · omega
    · have := h3 (x.to_ - b).toNat (by omega) (by omega)
      have e : b + ((x.to_ - b).toNat : Int) = x.to_ := by omega
      rw [e] at this; omega
theorem DmI.lone (h : DmI W T i f0 wd0 out) (hJ : DmJ W T i f wd t) (hx : T[i]? = some t) (hw : W t = 1) (h1 : f < 0 ∨ ¬ 1 < wd) : DmI W T (i + 1) (i : Int) 0 out := by
  obtain ⟨b, n, h2, h3, h4⟩ := hJ
  refine ⟨fun d => ?_, h.asc, fun h0 => by omega, fun _ => ⟨t, 0, by rw [Nat.add_sub_cancel, hx]; simp, fun j h5 h6 => by omega, .inr ⟨i, rfl, by omega, hx, hw, rfl⟩⟩⟩
  rw [h.mem, mem_take_snoc hx]
  constructor
  · rintro ⟨h5, h6⟩; exact ⟨h5, .inl h6⟩
  · rintro ⟨h5, h6 | h6⟩
    · exact ⟨h5, h6⟩
    · exfalso
      have hb1 : W b ≤ 1 := by rcases h4 with ⟨_, h4⟩ | ⟨k, _, _, _, h4, _⟩ <;> omega
      obtain ⟨e1, e2, e3, e4⟩ := isD_to h5 h3 hb1 (by omega)
      rcases h4 with ⟨_, h4⟩ | ⟨k, hk, _, _, _, hwd⟩
      · omega
      · have := (mxn_pos h3).2 e3; omega
theorem DmI.dm (h : DmI W T i f wd out) (hm : ∀ t, t ∈ T ↔ 0 < W t) (hi : T.length ≤ i) : IsDm W out := ⟨h.asc, fun d => by
  rw [h.mem, List.take_of_length_le hi, hm]
  constructor
  · exact fun h1 => h1.1
  · intro h1
    refine ⟨h1, ?_⟩
    obtain ⟨_, _, _, _, _, h2, _⟩ := h1
    omega⟩
end
structure DmR (W : Int → Nat) (ts : List Int) (i : Nat) (out : List Dm) : Prop where
  mem : ∀ d, d ∈ out ↔ IsD W d ∧ d.frm ∈ ts.take i
  asc : out.Pairwise fun x y => x.frm < y.frm
section
variable {W : Int → Nat} {ts : List Int} {i n : Nat} {out : List Dm} {t : Int}
theorem DmR.start : DmR W ts 0 [] := ⟨fun d => by simp, .nil⟩
theorem DmR.skip (h : DmR W ts i out) (hx : ts[i]? = some t) (hn : ∀ d, IsD W d → d.frm ≠ t) : DmR W ts (i + 1) out := ⟨fun d => by
  rw [h.mem, mem_take_snoc hx]
  constructor
  · rintro ⟨h1, h2⟩; exact ⟨h1, .inl h2⟩
  · rintro ⟨h1, h2 | h2⟩
    · exact ⟨h1, h2⟩
    · exact absurd h2 (hn d h1), h.asc⟩
theorem DmR.wide (h : DmR W ts i out) (hx : ts[i]? = some t) (hw : W t ≠ 1) : DmR W ts (i + 1) out := h.skip hx fun d ⟨_, _, h1, _⟩ e => hw (e ▸ h1)
theorem DmR.dm (h : DmR W ts i out) (hW : ∀ t, W t = (ts.filter fun x => decide (x = t)).length) (hi : ts.length ≤ i) : IsDm W out := ⟨h.asc, fun d => by
  rw [h.mem, List.take_of_length_le hi]
  constructor
  · exact fun h1 => h1.1
  · intro h1
    refine ⟨h1, ?_⟩
    obtain ⟨_, _, h2, _⟩ := h1
    rw [hW] at h2
    obtain ⟨x, hx⟩ := List.exists_mem_of_length_pos (l := ts.filter fun x => decide (x = d.frm)) (by omega)
    have h3 := List.mem_filter.1 hx
    rw [← of_decide_eq_true h3.2]; exact h3.1⟩
end
set_option maxRecDepth 20000
def wid (hs : List Hpx) (t : Int) : Nat := (hs.filter fun h => decide (h.ttl = t)).length
def cnt (ts : List Int) (t : Int) : Nat := (ts.filter fun x => decide (x = t)).length
def tlH (hs : List Hpx) : List Int := hs.map (·.ttl)
theorem tlH_len (hs : List Hpx) : (tlH hs).length = hs.length := List.length_map _
theorem tlH_at {hs : List Hpx} {i : Nat} {x : Hpx} (h : hs[i]? = some x) : (tlH hs)[i]? = some x.ttl := by unfold tlH; rw [List.getElem?_map, h]; rfl
theorem wid_cnt (hs : List Hpx) (t : Int) : wid hs t = cnt (tlH hs) t := by
 unfold wid cnt tlH
 rw [List.filter_map, List.length_map]; rfl
theorem cnt_pos {ts : List Int} {t : Int} : 0 < cnt ts t ↔ t ∈ ts := by
 unfold cnt
 constructor
 ·intro h
  obtain ⟨x, hx⟩ := List.exists_mem_of_length_pos h
  have h2 := List.mem_filter.1 hx
  rw [← of_decide_eq_true h2.2]; exact h2.1
 ·intro h; exact List.length_pos_of_mem (List.mem_filter.2 ⟨h, decide_eq_true rfl⟩)
theorem cnt_le (ts : List Int) (t : Int) : cnt ts t ≤ ts.length := List.length_filter_le _ _
theorem wid_le (hs : List Hpx) (t : Int) : wid hs t ≤ hs.length := List.length_filter_le _ _
theorem wid_rng {hs : List Hpx} (hob : ∀ h ∈ hs, 1 ≤ h.ttl ∧ h.ttl ≤ 255) {t : Int} (h : 0 < wid hs t) : 1 ≤ t ∧ t ≤ 255 := by
 obtain ⟨x, hx⟩ := List.exists_mem_of_length_pos h
 have h2 := List.mem_filter.1 hx
 rw [← of_decide_eq_true h2.2]; exact hob x h2.1
theorem wf_ttl {t : Int} (h : 1 ≤ t ∧ t ≤ 255) : (Lit.int .i64 t).wf = true := by simp [Lit.wf, IntKind.min, IntKind.max, IntKind.signed, IntKind.bits]; omega
theorem wf_natI {k : Nat} (h : k ≤ 9223372036854775807) : (Lit.int .i64 ((k : Nat) : Int)).wf = true := by simp [Lit.wf, IntKind.min, IntKind.max, IntKind.signed, IntKind.bits]; omega
def WM (f : Int → Option Int) (c : Int → Nat) : Prop := ∀ t, (f t).getD 0 = ((c t : Nat) : Int)
theorem wm_step {f : Int → Option Int} {hs : List Hpx} {i : Nat} {x : Hpx} (hx : hs[i]? = some x) (h : WM f (cnt ((tlH hs).take i))) : WM (fun v => if v = x.ttl then some ((cnt ((tlH hs).take i) x.ttl + 1 : Nat) : Int) else f v) (cnt ((tlH hs).take (i + 1))) := fun t => by
 have e : cnt ((tlH hs).take (i + 1)) t = cnt ((tlH hs).take i) t + if x.ttl = t then 1 else 0 := by
  unfold cnt
  rw [List.take_add_one, tlH_at hx, List.filter_append, List.length_append]
  by_cases h0 : x.ttl = t <;> simp [h0]
 rw [e]
 by_cases h0 : t = x.ttl
 ·subst h0; simp
 ·show ((if t = x.ttl then some _ else f t) : Option Int).getD 0 = _
  rw [if_neg h0, if_neg (fun e => h0 e.symm), h t]; rfl
def TOk (T l : List Int) : Prop := T.Nodup ∧ ∀ t, t ∈ T ↔ t ∈ l
theorem tok_mem {hs : List Hpx} {i : Nat} {x : Hpx} (hx : hs[i]? = some x) (t : Int) : t ∈ (tlH hs).take (i + 1) ↔ t ∈ (tlH hs).take i ∨ t = x.ttl := mem_take_snoc (tlH_at hx)
theorem tok_t {hs : List Hpx} {T : List Int} {i : Nat} {x : Hpx} (hx : hs[i]? = some x) (h : TOk T ((tlH hs).take i)) (h0 : cnt ((tlH hs).take i) x.ttl = 0) : TOk (T ++ [x.ttl]) ((tlH hs).take (i + 1)) := by
 have hn : x.ttl ∉ T := fun h1 => by have := cnt_pos.2 ((h.2 _).1 h1); omega
 refine ⟨List.nodup_append.2 ⟨h.1, by simp, fun a ha b hb => ?_⟩, fun t => ?_⟩
 ·rw [List.mem_singleton.1 hb]; rintro rfl; exact hn ha
 ·rw [List.mem_append, List.mem_singleton, tok_mem hx, h.2]
theorem tok_f {hs : List Hpx} {T : List Int} {i : Nat} {x : Hpx} (hx : hs[i]? = some x) (h : TOk T ((tlH hs).take i)) (h0 : cnt ((tlH hs).take i) x.ttl ≠ 0) : TOk T ((tlH hs).take (i + 1)) := by
 refine ⟨h.1, fun t => ?_⟩
 rw [h.2, tok_mem hx]
 refine ⟨.inl, fun h1 => h1.elim id fun e => ?_⟩
 rw [e]; exact cnt_pos.1 (by omega)
theorem gives_lookW {P : Program} {N : Fr} {E : Env} {o : Oper} {w0 : Base} {L : List Pc} {x y : Operand} {t k e : TypeId} {g i n : Nat} {ob : Obj} {f : Int → Option Int} {c : Int → Nat} {a : Int} (ho : o.op = .lookup t x y false) (hx : ev E x = some (.map (some g))) (hy : ev E y = some (.int .i64 a)) (T : IMap P t k e .i64 .i64) (hk : L[i]? = some (.oth g ob)) (hm : MapII P k e .i64 .i64 ob n f) (hv : WM f c) (ha : (Lit.int .i64 a).wf = true) :
  Gives P N o E (Pm w0 L) (.int .i64 ((c a : Nat) : Int)) := by
 rw [← hv]
 exact gives_look ho hx hy T hk hm ha
theorem gives_maxN {P : Program} {N : Fr} {E : Env} {o : Oper} {I : World → Prop} {x y : Operand} {ts : Array TypeId} {a b : Nat} (ho : o.op = .call { callee := .builtin .max, args := #[x, y], argTypes := ts }) (hx : ev E x = some (.int .i64 ((a : Nat) : Int))) (hy : ev E y = some (.int .i64 ((b : Nat) : Int))) : Gives P N o E I (.int .i64 ((max a b : Nat) : Int)) := by
 have := @gives_maxI P N E o I x y ts a b ho hx hy
 rwa [show max (a : Int) (b : Int) = ((max a b : Nat) : Int) by omega] at this
theorem imI : IMap Tryz.prog 116 3 3 .i64 .i64 := ⟨Tryz.underlying116, Tryz.underlying3, Tryz.underlying3, fun w => rfl⟩
theorem DmJ.at_ {W : Int → Nat} {T : List Int} {i wd : Nat} {f t : Int} (h : DmJ W T i f wd t) (h0 : f ≥ 0) : ∃ k : Nat, f = (k : Int) ∧ k < i := by
 obtain ⟨b, n, _, _, ⟨h1, _⟩ | ⟨k, h1, h2, _⟩⟩ := h
 ·omega
 ·exact ⟨k, h1, h2⟩
theorem pdisz50 (w : World) : (sizeOf 50).run Tryz.prog w = .ok 3 w := rfl
theorem pdiag50 (w : World) : (isAgg 50).run Tryz.prog w = .ok true w := rfl
theorem pdizv50 (w : World) : (zeroValue 50).run Tryz.prog w = .ok (.agg #[.int .i64 0, .int .u32 0, .slice none 0 0]) w := rfl
theorem pdibld58_57326 (a0_0 : Int) (a1_0 : Int) (a2_0 : Int) (w : World) : (Instr.build 58 #[(0, .int .i64 a0_0), (1, .int .i64 a1_0), (2, .int .i64 a2_0)]).run Tryz.prog w = .ok (.agg #[.int .i64 a0_0, .int .i64 a1_0, .int .i64 a2_0]) w := by kernel_rfl
theorem pdibs55_1_44646 (a0_0 : Int) (a0_1 : Int) (a0_2 : Int) (w : World) : (Instr.buildSlice 55 1 #[(0, .agg #[.int .i64 a0_0, .int .i64 a0_1, .int .i64 a0_2])]).run Tryz.prog w = .ok (.slice (some ⟨w.heap.size, 0, none⟩) 1 1) (w.alloc (.cells [.int .i64 a0_0, .int .i64 a0_1, .int .i64 a0_2].toArray 58)) := by kernel_rfl
theorem pdiel55 : Elem Tryz.prog 55 58 3 24 := Elem.mk' Tryz.underlying55 (z := .agg #[.int .i64 0, .int .i64 0, .int .i64 0]) (by kernel_rfl) rfl (by omega) (by omega)
set_option maxHeartbeats 1000000 in
theorem diamonds_any (m : Mp) (w : World) (hr : Reads w w.heap.size 3 m.hops.A m.hops.l.length (flat Hpx.cells m.hops.l)) (hl1 : m.hops.l.length ≤ 100000) (hob : ∀ h ∈ m.hops.l, 1 ≤ h.ttl ∧ h.ttl ≤ 255) :
  Calls Tryz.prog 19 #[.agg m.cells.toArray] w fun e w' => ∃ x : {y : (Option Addr × Nat) × List Dm // IsDm (wid m.hops.l) y.2 ∧ y.2.length ≤ y.1.2 ∧ y.1.2 ≤ maxLen}, e = .returned (.slice x.1.1.1 x.1.2.length x.1.1.2) ∧ Pm w [.row (.slice x.1.1.1 x.1.2.length x.1.1.2) 58 3 x.1.2.length (flat Dm.cells x.1.2)] w' := by
 refine begin_ (vs := [.agg m.cells.toArray]) Tryz.func19 rfl rfl rfl ?_ (Pm.start w)
 refine TC.seq_ (TC.region ?_)
 refine TL.pnew rfl rfl rfl (exec_box (cs := m.cells) rfl rfl rfl) (fun g1 => ?_)
 refine TL.as_ ?_
 refine TL.end_ (TX.then_ (TC.seq_ (TC.region ?_)))
 refine TL.mkmap rfl rfl rfl rfl (fun gm hgm => ?_)
 refine TL.as_ ?_
 refine TL.end_ (TX.then_ (TC.seq_ (TC.region ?_)))
 refine TL.as_ ?_
 refine TL.end_ (TX.then_ (TC.seq_ (TC.seq_ (TC.region ?_))))
 refine TL.val rfl rfl rfl (gives_field (v := .pointer (some ⟨g1, 4, none⟩)) rfl rfl (fun w => pbdfld36_2 _ _ w)) ?_
 refine TL.val rfl rfl rfl (pm_load (k := 1) (i := 4) rfl rfl pbdag33 rfl rfl) ?_
 refine TL.val rfl rfl rfl (gives_len rfl Tryz.underlying33 rfl) ?_
 refine TL.mv ?_
 refine TL.end_ (TX.then_ (TC.block ?_))
 refine TC.nilrow 3 1 ?_
 refine TC.loop_ (α := {y : Nat × Obj × (Option Addr × Nat) × List Int // y.1 ≤ m.hops.l.length ∧ (∃ n f, MapII Tryz.prog 3 3 .i64 .i64 y.2.1 n f ∧ WM f (cnt ((tlH m.hops.l).take y.1)) ∧ n ≤ y.1) ∧ TOk y.2.2.2 ((tlH m.hops.l).take y.1) ∧ y.2.2.2.length ≤ y.1 ∧ y.2.2.2.length ≤ y.2.2.1.2 ∧ y.2.2.1.2 ≤ maxLen}) (fun y => [(3, .map (some gm)), (14, .slice m.hops.A m.hops.l.length m.hops.c), (15, .int .i64 (m.hops.l.length : Nat)), (16, .int .i64 ((y.1.1 : Nat) : Int)), (4, .slice y.1.2.2.1.1 y.1.2.2.2.length y.1.2.2.1.2)]) (fun y => Pm w [.row (.slice y.1.2.2.1.1 y.1.2.2.2.length y.1.2.2.1.2) 3 1 y.1.2.2.2.length (flat (ic .i64) y.1.2.2.2), .oth gm y.1.2.1, .blk g1 36 m.cells]) (fun y => m.hops.l.length - y.1.1) (⟨(0, .map #[] 0, (none, 0), []), Nat.zero_le _, ⟨0, fun _ => none, mapII_new _ _ _ _ _, fun t => rfl, Nat.le_refl _⟩, ⟨List.nodup_nil, fun t => by rw [List.take_zero]⟩, Nat.le_refl _, Nat.le_refl _, Nat.zero_le _⟩) ⟨rfl, rfl, rfl, rfl, rfl, trivial⟩ (fun w1 hw => hw) ?_
 rintro ⟨⟨i, ob, ⟨At, ct⟩, tt⟩, hi, ⟨n, f, hmf, hwm, hn⟩, htok, htl0, htc, htm⟩
 dsimp only at hi hmf hwm hn htok htl0 htc htm ⊢
 refine TC.seq_ (TC.region ?_)
 refine TL.vsplit rfl rfl rfl (gives_bin rfl rfl rfl (fun w => bin_lss w)) (fun h17 => ?_) (fun h17 => ?_)
 ·have q17 := of_decide_eq_true h17
  refine TL.end_ (TX.then_ (TC.seq_ (TC.condT rfl (TC.skip_ (TX.then_ (TC.seq_ (TC.block (TC.seq_ (TC.region ?_)))))))))
  have hi18 : i < m.hops.l.length := by omega
  obtain ⟨x18, hx18⟩ : ∃ x18, m.hops.l[i]? = some x18 := ⟨_, List.getElem?_eq_getElem hi18⟩
  obtain ⟨b18, o18, hA18, hbb18, hc18⟩ := hr.ad (by omega) (by decide)
  have hxb := hob x18 (List.mem_of_getElem? hx18)
  have hcl := cnt_le ((tlH m.hops.l).take i) x18.ttl
  have htl : ((tlH m.hops.l).take i).length ≤ i := by rw [List.length_take]; omega
  refine TL.val rfl rfl rfl (gives_at (v := .pointer (some ⟨b18, o18 + i * 3, none⟩)) rfl rfl rfl (fun w => at_el Tryz.underlying33 pdisz50 hA18 _ _ i (by omega) rfl w)) ?_
  refine TL.val rfl rfl rfl (gives_loadR (off := o18 + i * 3) rfl rfl pdiag50 pdisz50 (hp_cel.len x18) (fun w1 hw j9 u9 h9 => (hw.bel.cell hbb18).trans <| flat_cell hp_cel hx18 hc18 j9 u9 h9)) ?_
  refine TL.pnew rfl rfl rfl (exec_alloc (cs := [.int .i64 0, .int .u32 0, .slice none 0 0]) rfl pdizv50 rfl) (fun g6 => ?_)
  refine TL.pstore (k := 0) (vs := x18.cells) rfl rfl rfl rfl rfl rfl rfl pdisz50 (hp_cel.one _) (by show 3 ≤ 3; decide) (L' := [.blk g6 50 x18.cells, .row (.slice At tt.length ct) 3 1 tt.length (flat (ic .i64) tt), .oth gm ob, .blk g1 36 m.cells]) rfl ?_
  refine TL.end_ (TX.then_ (TC.seq_ (TC.seq_ (TC.region ?_))))
  refine TL.mv ?_
  refine TL.val rfl rfl rfl (gives_field (v := .pointer (some ⟨g6, 0, none⟩)) rfl rfl (fun w => pcmfld50_0 _ _ w)) ?_
  refine TL.val rfl rfl rfl (pm_load (k := 0) (i := 0) rfl rfl pcmag3 rfl rfl) ?_
  refine TL.val rfl rfl rfl (gives_lookW rfl rfl rfl imI (i := 2) rfl hmf hwm (wf_ttl (hxb))) ?_
  refine TL.vsplit rfl rfl rfl (gives_bin rfl rfl rfl (fun w => bin_eql w)) (fun h24 => ?_) (fun h24 => ?_)
  ·have q24 := of_decide_eq_true h24
   refine TL.end_ (TX.then_ (TC.condT rfl (TC.region ?_)))
   refine TL.mv ?_
   refine TL.val rfl rfl rfl (gives_field (v := .pointer (some ⟨g6, 0, none⟩)) rfl rfl (fun w => pcmfld50_0 _ _ w)) ?_
   refine TL.val rfl rfl rfl (pm_load (k := 0) (i := 0) rfl rfl pcmag3 rfl rfl) ?_
   refine TL.prowS (e := 3) (size := 1) (cs := flat (ic .i64) [x18.ttl]) rfl rfl rfl rfl rfl (fun w => pbdbs48_1_5377 _ w) (by decide) rfl (fun g28 => ?_)
   refine TL.appendT (k := 2) rfl rfl rfl rfl Tryz.underlying48 pbdel48 rfl rfl rfl (fun w1 hw => pm_reads hw (k := 0) rfl) (flat_one (ic_cel .i64) _) (by show _ * 8 ≤ _; omega) ((tt ++ [x18.ttl]).length) (by rw [List.length_append]; rfl) (flat (ic .i64) (tt ++ [x18.ttl])) ((flat_app _ _).symm) (fun A29 c29 hA291 hA292 => ?_)
   refine TL.as_ ?_
   refine TL.end_ (TX.then_ (TC.region ?_))
   refine TL.mv ?_
   refine TL.val rfl rfl rfl (gives_field (v := .pointer (some ⟨g6, 0, none⟩)) rfl rfl (fun w => pcmfld50_0 _ _ w)) ?_
   refine TL.val rfl rfl rfl (pm_load (k := 1) (i := 0) rfl rfl pcmag3 rfl rfl) ?_
   refine TL.val rfl rfl rfl (gives_lookW rfl rfl rfl imI (i := 3) rfl hmf hwm (wf_ttl (hxb))) ?_
   refine TL.val rfl rfl rfl (gives_bin rfl rfl rfl (fun w => bin_add_ (r := ((cnt ((tlH m.hops.l).take i) x18.ttl + 1 : Nat) : Int)) (by simp only [IntKind.wrap_i64]; omega) w)) ?_
   refine TL.mapset (i := 3) rfl rfl rfl rfl rfl rfl imI rfl hgm hmf (by unfold maxLen; omega) (wf_ttl hxb) (wf_natI (by omega)) (fun ob2 hm2 => ?_)
   try dsimp only [List.set_cons_zero, List.set_cons_succ]
   refine TL.end_ (TX.in_normal (TX.then_ (TC.region ?_)))
   refine TL.val rfl rfl rfl (gives_bin rfl rfl rfl (fun w => bin_add_ (r := ((i + 1 : Nat) : Int)) (by simp only [IntKind.wrap_i64]; omega) w)) ?_
   refine TL.mv ?_
   refine TL.end_ ?_
   exact TX.round (⟨(i + 1, ob2, (A29, c29), tt ++ [x18.ttl]), by dsimp only; omega, ⟨_, _, hm2, wm_step hx18 hwm, by split <;> omega⟩, tok_t hx18 htok (by omega), by dsimp only; rw [List.length_append]; show tt.length + 1 ≤ _; omega, hA291, hA292⟩) (by show m.hops.l.length - (i + 1) < m.hops.l.length - i; omega) ⟨rfl, rfl, rfl, rfl, rfl, trivial⟩ (fun w1 hw => hw.pick [2, 3, 4] (by decide) rfl)
  ·have q24 := of_decide_eq_false h24
   refine TL.end_ (TX.then_ (TC.condF rfl (TC.skip_ (TX.then_ (TC.region ?_)))))
   refine TL.mv ?_
   refine TL.val rfl rfl rfl (gives_field (v := .pointer (some ⟨g6, 0, none⟩)) rfl rfl (fun w => pcmfld50_0 _ _ w)) ?_
   refine TL.val rfl rfl rfl (pm_load (k := 0) (i := 0) rfl rfl pcmag3 rfl rfl) ?_
   refine TL.val rfl rfl rfl (gives_lookW rfl rfl rfl imI (i := 2) rfl hmf hwm (wf_ttl (hxb))) ?_
   refine TL.val rfl rfl rfl (gives_bin rfl rfl rfl (fun w => bin_add_ (r := ((cnt ((tlH m.hops.l).take i) x18.ttl + 1 : Nat) : Int)) (by simp only [IntKind.wrap_i64]; omega) w)) ?_
   refine TL.mapset (i := 2) rfl rfl rfl rfl rfl rfl imI rfl hgm hmf (by unfold maxLen; omega) (wf_ttl hxb) (wf_natI (by omega)) (fun ob2 hm2 => ?_)
   try dsimp only [List.set_cons_zero, List.set_cons_succ]
   refine TL.end_ (TX.in_normal (TX.then_ (TC.region ?_)))
   refine TL.val rfl rfl rfl (gives_bin rfl rfl rfl (fun w => bin_add_ (r := ((i + 1 : Nat) : Int)) (by simp only [IntKind.wrap_i64]; omega) w)) ?_
   refine TL.mv ?_
   refine TL.end_ ?_
   exact TX.round (⟨(i + 1, ob2, (At, ct), tt), by dsimp only; omega, ⟨_, _, hm2, wm_step hx18 hwm, by split <;> omega⟩, tok_f hx18 htok (by omega), by dsimp only; omega, htc, htm⟩) (by show m.hops.l.length - (i + 1) < m.hops.l.length - i; omega) ⟨rfl, rfl, rfl, rfl, rfl, trivial⟩ (fun w1 hw => hw.pick [1, 2, 3] (by decide) rfl)
 ·have q17 := of_decide_eq_false h17
  refine TL.end_ (TX.then_ (TC.seq_ (TC.condF rfl (TC.exit_ (TX.then_exit (TX.then_exit (TX.in_same (TX.then_ (TC.seq_ (TC.region ?_))))))))))
  refine TL.mv ?_
  refine TL.turnRowD (k := 0) (fun ys => SortedI tt ys) rfl rfl rfl rfl rfl Tryz.func61 pbdnm61 pbdbd61 rfl (fun w1 hw hr9 => sortInt hr9 rfl (by omega)) (fun srt hS37 => ?_)
  try dsimp only [List.set_cons_zero, List.set_cons_succ]
  have hsl : srt.length = tt.length := hS37.1.length_eq
  rw [← hsl]
  rw [List.take_of_length_le (by rw [tlH_len]; omega)] at htok hwm
  have hTm : ∀ t, t ∈ srt ↔ 0 < wid m.hops.l t := fun t => by rw [hS37.1.mem_iff, htok.2, wid_cnt]; exact cnt_pos.symm
  have hTa : srt.Pairwise (· < ·) := asc_of hS37 htok.1
  replace hwm : WM f (wid m.hops.l) := fun t => by rw [wid_cnt]; exact hwm t
  refine TL.end_ (TX.then_ (TC.seq_ (TC.region ?_)))
  refine TL.as_ ?_
  refine TL.end_ (TX.then_ (TC.seq_ (TC.region ?_)))
  refine TL.as_ ?_
  refine TL.as_ ?_
  refine TL.end_ (TX.then_ (TC.seq_ (TC.seq_ (TC.region ?_))))
  refine TL.mv ?_
  refine TL.val rfl rfl rfl (gives_len rfl Tryz.underlying48 rfl) ?_
  refine TL.mv ?_
  refine TL.end_ (TX.then_ (TC.block ?_))
  refine TC.nilrow 58 3 ?_
  refine TC.loop_ (α := {y : Nat × Int × Nat × (Option Addr × Nat) × List Dm // y.1 ≤ srt.length ∧ DmI (wid m.hops.l) srt y.1 y.2.1 y.2.2.1 y.2.2.2.2 ∧ y.2.2.2.2.length ≤ y.1 ∧ y.2.2.2.2.length ≤ y.2.2.2.1.2 ∧ y.2.2.2.1.2 ≤ maxLen}) (fun y => [(3, .map (some gm)), (4, .slice At srt.length ct), (38, .slice At srt.length ct), (39, .int .i64 (srt.length : Nat)), (40, .int .i64 ((y.1.1 : Nat) : Int)), (8, .int .i64 y.1.2.1), (9, .int .i64 ((y.1.2.2.1 : Nat) : Int)), (7, .slice y.1.2.2.2.1.1 y.1.2.2.2.2.length y.1.2.2.2.1.2)]) (fun y => Pm w [.row (.slice y.1.2.2.2.1.1 y.1.2.2.2.2.length y.1.2.2.2.1.2) 58 3 y.1.2.2.2.2.length (flat Dm.cells y.1.2.2.2.2), .row (.slice At srt.length ct) 3 1 srt.length (flat (ic .i64) srt), .oth gm ob, .blk g1 36 m.cells]) (fun y => srt.length - y.1.1) (⟨(0, -1, 0, (none, 0), []), Nat.zero_le _, DmI.start, Nat.le_refl _, Nat.le_refl _, Nat.zero_le _⟩) ⟨rfl, rfl, rfl, rfl, rfl, rfl, rfl, rfl, trivial⟩ (fun w1 hw => hw) ?_
  rintro ⟨⟨j, fr, wd, ⟨Ao, co⟩, out⟩, hj, hD, hol, hoc, hom⟩
  dsimp only at hj hD hol hoc hom ⊢
  refine TC.seq_ (TC.region ?_)
  refine TL.vsplit rfl rfl rfl (gives_bin rfl rfl rfl (fun w => bin_lss w)) (fun h41 => ?_) (fun h41 => ?_)
  ·have q41 := of_decide_eq_true h41
   refine TL.end_ (TX.then_ (TC.seq_ (TC.condT rfl (TC.skip_ (TX.then_ (TC.seq_ (TC.block (TC.seq_ (TC.region ?_)))))))))
   refine TL.mv ?_
   refine TL.fact (p := ∃ g, At = some ⟨g, 0, none⟩) (fun w1 hw => rowA hw (k := 1) rfl (by omega)) ?_
   rintro ⟨g_At, rfl⟩
   have hi43 : j < srt.length := by omega
   obtain ⟨x43, hx43⟩ : ∃ x43, srt[j]? = some x43 := ⟨_, List.getElem?_eq_getElem hi43⟩
   have hxw := (hTm x43).1 (List.mem_of_getElem? hx43)
   have hxb := wid_rng hob hxw
   have hwl := wid_le m.hops.l x43
   refine TL.val rfl rfl rfl (gives_at (v := .pointer (some ⟨g_At, 0 + j * 1, none⟩)) rfl rfl rfl (fun w => at_el Tryz.underlying48 pcmsz3 rfl _ _ j (by omega) rfl w)) ?_
   refine TL.val rfl rfl rfl (gives_load (v := .int .i64 x43) rfl rfl pcmag3 (fun w1 hw => flat_row (ic_cel .i64) hw (q := 1) rfl hx43 0 _ rfl)) ?_
   refine TL.as_ ?_
   refine TL.as_ ?_
   refine TL.end_ (TX.then_ (TC.seq_ (TC.seq_ (TC.region ?_))))
   refine TL.mv ?_
   refine TL.vsplit rfl rfl rfl (gives_bin rfl rfl rfl (fun w => bin_gtr w)) (fun h46 => ?_) (fun h46 => ?_)
   ·have q46 := of_decide_eq_true h46
    iterate 4 (first | refine TL.gu ?_ | refine TL.mv ?_)
    refine TL.val rfl rfl rfl (gives_bin rfl rfl rfl (fun w => bin_sub_ (r := x43 - 1) (by simp only [IntKind.wrap_i64]; omega) w)) ?_
    iterate 5 (first | refine TL.gu ?_ | refine TL.mv ?_)
    refine TL.val rfl rfl rfl (gives_bin rfl rfl rfl (fun w => bin_sub_ (r := ((j - 1 : Nat) : Int)) (by simp only [IntKind.wrap_i64]; omega) w)) ?_
    refine TL.gu ?_
    have hi53 : j - 1 < srt.length := by omega
    obtain ⟨x53, hx53⟩ : ∃ x53, srt[j - 1]? = some x53 := ⟨_, List.getElem?_eq_getElem hi53⟩
    refine TL.val rfl rfl rfl (gives_at (v := .pointer (some ⟨g_At, 0 + (j - 1) * 1, none⟩)) rfl rfl rfl (fun w => at_el Tryz.underlying48 pcmsz3 rfl _ _ (j - 1) (by omega) rfl w)) ?_
    refine TL.gu ?_
    refine TL.val rfl rfl rfl (gives_load (v := .int .i64 x53) rfl rfl pcmag3 (fun w1 hw => flat_row (ic_cel .i64) hw (q := 1) rfl hx53 0 _ rfl)) ?_
    refine TL.gu ?_
    refine TL.vsplit rfl rfl rfl (gives_bin rfl rfl rfl (fun w => bin_neq w)) (fun h55 => ?_) (fun h55 => ?_)
    ·have q55 := of_decide_eq_true h55
     refine TL.pk ?_
     refine TL.end_ (TX.then_ (TC.condT rfl (TC.region ?_)))
     refine TL.as_ ?_
     refine TL.end_ (TX.then_ (TC.seq_ (TC.seq_ ?_)))
     have hJ := DmI.gap hTa hTm hx43 (.inr ⟨_, hx53, q55⟩) wd
     refine TC.region ?_
     refine TL.mv ?_
     refine TL.mv ?_
     refine TL.val rfl rfl rfl (gives_lookW rfl rfl rfl imI (i := 2) rfl hmf hwm (wf_ttl hxb)) ?_
     refine TL.vsplit rfl rfl rfl (gives_bin rfl rfl rfl (fun w => bin_gtr w)) (fun h60 => ?_) (fun h60 => ?_)
     ·have q60 := of_decide_eq_true h60
      refine TL.end_ (TX.then_ (TC.condT rfl (TC.seq_ (TC.region ?_))))
      refine TL.mv ?_
      refine TL.mv ?_
      refine TL.mv ?_
      refine TL.val rfl rfl rfl (gives_lookW rfl rfl rfl imI (i := 2) rfl hmf hwm (wf_ttl hxb)) ?_
      refine TL.val rfl rfl rfl (gives_maxN rfl rfl rfl) ?_
      refine TL.as_ ?_
      refine TL.end_ (TX.then_ (TC.exit_ (TX.then_exit (TX.in_same (TX.then_ (TC.region ?_))))))
      refine TL.val rfl rfl rfl (gives_bin rfl rfl rfl (fun w => bin_add_ (r := ((j + 1 : Nat) : Int)) (by simp only [IntKind.wrap_i64]; omega) w)) ?_
      refine TL.mv ?_
      refine TL.end_ ?_
      exact TX.round (⟨(j + 1, -1, max wd (wid m.hops.l x43), (Ao, co), out), by dsimp only; omega, hD.wide hJ hx43 (by omega), by dsimp only; omega, hoc, hom⟩) (by show srt.length - (j + 1) < srt.length - j; omega) ⟨rfl, rfl, rfl, rfl, rfl, rfl, rfl, rfl, trivial⟩ (fun w1 hw => hw)
     ·have q60 := of_decide_eq_false h60
      refine TL.end_ (TX.then_ (TC.condF rfl (TC.skip_ (TX.then_ (TC.seq_ (TC.seq_ ?_))))))
      have hw1 : wid m.hops.l x43 = 1 := by omega
      refine TC.region ?_
      refine TL.mv ?_
      refine TL.vsplit rfl rfl rfl (gives_bin rfl rfl rfl (fun w => bin_geq w)) (fun h67 => ?_) (fun h67 => ?_)
      ·have q67 := of_decide_eq_true h67
       exfalso; omega
      ·have q67 := of_decide_eq_false h67
       iterate 4 (first | refine TL.of ?_ | refine TL.mv ?_ | refine TL.pk ?_)
       refine TL.end_ (TX.then_ (TC.condF rfl (TC.skip_ (TX.then_ (TC.region ?_)))))
       refine TL.mv ?_
       refine TL.as_ ?_
       refine TL.as_ ?_
       refine TL.end_ (TX.in_normal (TX.then_ (TC.region ?_)))
       refine TL.val rfl rfl rfl (gives_bin rfl rfl rfl (fun w => bin_add_ (r := ((j + 1 : Nat) : Int)) (by simp only [IntKind.wrap_i64]; omega) w)) ?_
       refine TL.mv ?_
       refine TL.end_ ?_
       exact TX.round (⟨(j + 1, ((j : Nat) : Int), 0, (Ao, co), out), by dsimp only; omega, hD.lone hJ hx43 hw1 (by omega), by dsimp only; omega, hoc, hom⟩) (by show srt.length - (j + 1) < srt.length - j; omega) ⟨rfl, rfl, rfl, rfl, rfl, rfl, rfl, rfl, trivial⟩ (fun w1 hw => hw)
    ·have q55 := of_decide_eq_false h55
     refine TL.pk ?_
     refine TL.end_ (TX.then_ (TC.condF rfl (TC.skip_ (TX.then_ (TC.seq_ (TC.seq_ ?_))))))
     have hJ := DmI.on (t := x43) hD (by omega) hx53 (Decidable.not_not.1 q55)
     refine TC.region ?_
     refine TL.mv ?_
     refine TL.mv ?_
     refine TL.val rfl rfl rfl (gives_lookW rfl rfl rfl imI (i := 2) rfl hmf hwm (wf_ttl hxb)) ?_
     refine TL.vsplit rfl rfl rfl (gives_bin rfl rfl rfl (fun w => bin_gtr w)) (fun h60 => ?_) (fun h60 => ?_)
     ·have q60 := of_decide_eq_true h60
      refine TL.end_ (TX.then_ (TC.condT rfl (TC.seq_ (TC.region ?_))))
      refine TL.mv ?_
      refine TL.mv ?_
      refine TL.mv ?_
      refine TL.val rfl rfl rfl (gives_lookW rfl rfl rfl imI (i := 2) rfl hmf hwm (wf_ttl hxb)) ?_
      refine TL.val rfl rfl rfl (gives_maxN rfl rfl rfl) ?_
      refine TL.as_ ?_
      refine TL.end_ (TX.then_ (TC.exit_ (TX.then_exit (TX.in_same (TX.then_ (TC.region ?_))))))
      refine TL.val rfl rfl rfl (gives_bin rfl rfl rfl (fun w => bin_add_ (r := ((j + 1 : Nat) : Int)) (by simp only [IntKind.wrap_i64]; omega) w)) ?_
      refine TL.mv ?_
      refine TL.end_ ?_
      exact TX.round (⟨(j + 1, fr, max wd (wid m.hops.l x43), (Ao, co), out), by dsimp only; omega, hD.wide hJ hx43 (by omega), by dsimp only; omega, hoc, hom⟩) (by show srt.length - (j + 1) < srt.length - j; omega) ⟨rfl, rfl, rfl, rfl, rfl, rfl, rfl, rfl, trivial⟩ (fun w1 hw => hw)
     ·have q60 := of_decide_eq_false h60
      refine TL.end_ (TX.then_ (TC.condF rfl (TC.skip_ (TX.then_ (TC.seq_ (TC.seq_ ?_))))))
      have hw1 : wid m.hops.l x43 = 1 := by omega
      refine TC.region ?_
      refine TL.mv ?_
      refine TL.vsplit rfl rfl rfl (gives_bin rfl rfl rfl (fun w => bin_geq w)) (fun h67 => ?_) (fun h67 => ?_)
      ·have q67 := of_decide_eq_true h67
       obtain ⟨kf, rfl, hkf⟩ := hJ.at_ q67
       iterate 4 (first | refine TL.gu ?_ | refine TL.mv ?_)
       refine TL.vsplit rfl rfl rfl (gives_bin rfl rfl rfl (fun w => bin_gtr w)) (fun h70 => ?_) (fun h70 => ?_)
       ·have q70 := of_decide_eq_true h70
        refine TL.pk ?_
        refine TL.end_ (TX.then_ (TC.condT rfl (TC.region ?_)))
        refine TL.mv ?_
        refine TL.mv ?_
        refine TL.mv ?_
        have hi75 : kf < srt.length := by omega
        obtain ⟨x75, hx75⟩ : ∃ x75, srt[kf]? = some x75 := ⟨_, List.getElem?_eq_getElem hi75⟩
        refine TL.val rfl rfl rfl (gives_at (v := .pointer (some ⟨g_At, 0 + kf * 1, none⟩)) rfl rfl rfl (fun w => at_el Tryz.underlying48 pcmsz3 rfl _ _ kf (by omega) rfl w)) ?_
        refine TL.val rfl rfl rfl (gives_load (v := .int .i64 x75) rfl rfl pcmag3 (fun w1 hw => flat_row (ic_cel .i64) hw (q := 1) rfl hx75 0 _ rfl)) ?_
        refine TL.mv ?_
        refine TL.mv ?_
        refine TL.val rfl rfl rfl (gives_build (v := .agg #[.int .i64 x75, .int .i64 x43, .int .i64 ((wd : Nat) : Int)]) rfl rfl (fun w => pdibld58_57326 _ _ _ w)) ?_
        refine TL.prowS (e := 58) (size := 3) (cs := flat Dm.cells [(⟨x75, x43, ((wd : Nat) : Int)⟩ : Dm)]) rfl rfl rfl rfl rfl (fun w => pdibs55_1_44646 _ _ _ w) (by decide) rfl (fun g80 => ?_)
        refine TL.appendT (k := 1) rfl rfl rfl rfl Tryz.underlying55 pdiel55 rfl rfl rfl (fun w1 hw => pm_reads hw (k := 0) rfl) (flat_one dm_cel _) (by show _ * 24 ≤ _; omega) ((out ++ [(⟨x75, x43, ((wd : Nat) : Int)⟩ : Dm)]).length) (by rw [List.length_append]; rfl) (flat Dm.cells (out ++ [(⟨x75, x43, ((wd : Nat) : Int)⟩ : Dm)])) ((flat_app _ _).symm) (fun A81 c81 hA811 hA812 => ?_)
        refine TL.as_ ?_
        refine TL.end_ (TX.then_ (TC.region ?_))
        refine TL.mv ?_
        refine TL.as_ ?_
        refine TL.as_ ?_
        refine TL.end_ (TX.in_normal (TX.then_ (TC.region ?_)))
        refine TL.val rfl rfl rfl (gives_bin rfl rfl rfl (fun w => bin_add_ (r := ((j + 1 : Nat) : Int)) (by simp only [IntKind.wrap_i64]; omega) w)) ?_
        refine TL.mv ?_
        refine TL.end_ ?_
        exact TX.round (⟨(j + 1, ((j : Nat) : Int), 0, (A81, c81), out ++ [(⟨x75, x43, ((wd : Nat) : Int)⟩ : Dm)]), by dsimp only; omega, hD.close hTa hJ hx43 hw1 rfl hx75 (by omega), by dsimp only; rw [List.length_append]; show out.length + 1 ≤ _; omega, hA811, hA812⟩) (by show srt.length - (j + 1) < srt.length - j; omega) ⟨rfl, rfl, rfl, rfl, rfl, rfl, rfl, rfl, trivial⟩ (fun w1 hw => hw.pick [1, 2, 3, 4] (by decide) rfl)
       ·have q70 := of_decide_eq_false h70
        refine TL.pk ?_
        refine TL.end_ (TX.then_ (TC.condF rfl (TC.skip_ (TX.then_ (TC.region ?_)))))
        refine TL.mv ?_
        refine TL.as_ ?_
        refine TL.as_ ?_
        refine TL.end_ (TX.in_normal (TX.then_ (TC.region ?_)))
        refine TL.val rfl rfl rfl (gives_bin rfl rfl rfl (fun w => bin_add_ (r := ((j + 1 : Nat) : Int)) (by simp only [IntKind.wrap_i64]; omega) w)) ?_
        refine TL.mv ?_
        refine TL.end_ ?_
        exact TX.round (⟨(j + 1, ((j : Nat) : Int), 0, (Ao, co), out), by dsimp only; omega, hD.lone hJ hx43 hw1 (by omega), by dsimp only; omega, hoc, hom⟩) (by show srt.length - (j + 1) < srt.length - j; omega) ⟨rfl, rfl, rfl, rfl, rfl, rfl, rfl, rfl, trivial⟩ (fun w1 hw => hw)
      ·have q67 := of_decide_eq_false h67
       iterate 4 (first | refine TL.of ?_ | refine TL.mv ?_ | refine TL.pk ?_)
       refine TL.end_ (TX.then_ (TC.condF rfl (TC.skip_ (TX.then_ (TC.region ?_)))))
       refine TL.mv ?_
       refine TL.as_ ?_
       refine TL.as_ ?_
       refine TL.end_ (TX.in_normal (TX.then_ (TC.region ?_)))
       refine TL.val rfl rfl rfl (gives_bin rfl rfl rfl (fun w => bin_add_ (r := ((j + 1 : Nat) : Int)) (by simp only [IntKind.wrap_i64]; omega) w)) ?_
       refine TL.mv ?_
       refine TL.end_ ?_
       exact TX.round (⟨(j + 1, ((j : Nat) : Int), 0, (Ao, co), out), by dsimp only; omega, hD.lone hJ hx43 hw1 (by omega), by dsimp only; omega, hoc, hom⟩) (by show srt.length - (j + 1) < srt.length - j; omega) ⟨rfl, rfl, rfl, rfl, rfl, rfl, rfl, rfl, trivial⟩ (fun w1 hw => hw)
   ·have q46 := of_decide_eq_false h46
    iterate 10 (first | refine TL.of ?_ | refine TL.mv ?_ | refine TL.pk ?_)
    refine TL.end_ (TX.then_ (TC.condF rfl (TC.skip_ (TX.then_ (TC.seq_ (TC.seq_ ?_))))))
    have hf0 := hD.zero (by omega)
    have hJ : DmJ (wid m.hops.l) srt j fr wd x43 := by rw [hf0]; exact DmI.gap hTa hTm hx43 (.inl (by omega)) wd
    refine TC.region ?_
    refine TL.mv ?_
    refine TL.mv ?_
    refine TL.val rfl rfl rfl (gives_lookW rfl rfl rfl imI (i := 2) rfl hmf hwm (wf_ttl hxb)) ?_
    refine TL.vsplit rfl rfl rfl (gives_bin rfl rfl rfl (fun w => bin_gtr w)) (fun h60 => ?_) (fun h60 => ?_)
    ·have q60 := of_decide_eq_true h60
     refine TL.end_ (TX.then_ (TC.condT rfl (TC.seq_ (TC.region ?_))))
     refine TL.mv ?_
     refine TL.mv ?_
     refine TL.mv ?_
     refine TL.val rfl rfl rfl (gives_lookW rfl rfl rfl imI (i := 2) rfl hmf hwm (wf_ttl hxb)) ?_
     refine TL.val rfl rfl rfl (gives_maxN rfl rfl rfl) ?_
     refine TL.as_ ?_
     refine TL.end_ (TX.then_ (TC.exit_ (TX.then_exit (TX.in_same (TX.then_ (TC.region ?_))))))
     refine TL.val rfl rfl rfl (gives_bin rfl rfl rfl (fun w => bin_add_ (r := ((j + 1 : Nat) : Int)) (by simp only [IntKind.wrap_i64]; omega) w)) ?_
     refine TL.mv ?_
     refine TL.end_ ?_
     exact TX.round (⟨(j + 1, fr, max wd (wid m.hops.l x43), (Ao, co), out), by dsimp only; omega, hD.wide hJ hx43 (by omega), by dsimp only; omega, hoc, hom⟩) (by show srt.length - (j + 1) < srt.length - j; omega) ⟨rfl, rfl, rfl, rfl, rfl, rfl, rfl, rfl, trivial⟩ (fun w1 hw => hw)
    ·have q60 := of_decide_eq_false h60
     refine TL.end_ (TX.then_ (TC.condF rfl (TC.skip_ (TX.then_ (TC.seq_ (TC.seq_ ?_))))))
     have hw1 : wid m.hops.l x43 = 1 := by omega
     refine TC.region ?_
     refine TL.mv ?_
     refine TL.vsplit rfl rfl rfl (gives_bin rfl rfl rfl (fun w => bin_geq w)) (fun h67 => ?_) (fun h67 => ?_)
     ·have q67 := of_decide_eq_true h67
      obtain ⟨kf, rfl, hkf⟩ := hJ.at_ q67
      iterate 4 (first | refine TL.gu ?_ | refine TL.mv ?_)
      refine TL.vsplit rfl rfl rfl (gives_bin rfl rfl rfl (fun w => bin_gtr w)) (fun h70 => ?_) (fun h70 => ?_)
      ·have q70 := of_decide_eq_true h70
       refine TL.pk ?_
       refine TL.end_ (TX.then_ (TC.condT rfl (TC.region ?_)))
       refine TL.mv ?_
       refine TL.mv ?_
       refine TL.mv ?_
       have hi75 : kf < srt.length := by omega
       obtain ⟨x75, hx75⟩ : ∃ x75, srt[kf]? = some x75 := ⟨_, List.getElem?_eq_getElem hi75⟩
       refine TL.val rfl rfl rfl (gives_at (v := .pointer (some ⟨g_At, 0 + kf * 1, none⟩)) rfl rfl rfl (fun w => at_el Tryz.underlying48 pcmsz3 rfl _ _ kf (by omega) rfl w)) ?_
       refine TL.val rfl rfl rfl (gives_load (v := .int .i64 x75) rfl rfl pcmag3 (fun w1 hw => flat_row (ic_cel .i64) hw (q := 1) rfl hx75 0 _ rfl)) ?_
       refine TL.mv ?_
       refine TL.mv ?_
       refine TL.val rfl rfl rfl (gives_build (v := .agg #[.int .i64 x75, .int .i64 x43, .int .i64 ((wd : Nat) : Int)]) rfl rfl (fun w => pdibld58_57326 _ _ _ w)) ?_
       refine TL.prowS (e := 58) (size := 3) (cs := flat Dm.cells [(⟨x75, x43, ((wd : Nat) : Int)⟩ : Dm)]) rfl rfl rfl rfl rfl (fun w => pdibs55_1_44646 _ _ _ w) (by decide) rfl (fun g80 => ?_)
       refine TL.appendT (k := 1) rfl rfl rfl rfl Tryz.underlying55 pdiel55 rfl rfl rfl (fun w1 hw => pm_reads hw (k := 0) rfl) (flat_one dm_cel _) (by show _ * 24 ≤ _; omega) ((out ++ [(⟨x75, x43, ((wd : Nat) : Int)⟩ : Dm)]).length) (by rw [List.length_append]; rfl) (flat Dm.cells (out ++ [(⟨x75, x43, ((wd : Nat) : Int)⟩ : Dm)])) ((flat_app _ _).symm) (fun A81 c81 hA811 hA812 => ?_)
       refine TL.as_ ?_
       refine TL.end_ (TX.then_ (TC.region ?_))
       refine TL.mv ?_
       refine TL.as_ ?_
       refine TL.as_ ?_
       refine TL.end_ (TX.in_normal (TX.then_ (TC.region ?_)))
       refine TL.val rfl rfl rfl (gives_bin rfl rfl rfl (fun w => bin_add_ (r := ((j + 1 : Nat) : Int)) (by simp only [IntKind.wrap_i64]; omega) w)) ?_
       refine TL.mv ?_
       refine TL.end_ ?_
       exact TX.round (⟨(j + 1, ((j : Nat) : Int), 0, (A81, c81), out ++ [(⟨x75, x43, ((wd : Nat) : Int)⟩ : Dm)]), by dsimp only; omega, hD.close hTa hJ hx43 hw1 rfl hx75 (by omega), by dsimp only; rw [List.length_append]; show out.length + 1 ≤ _; omega, hA811, hA812⟩) (by show srt.length - (j + 1) < srt.length - j; omega) ⟨rfl, rfl, rfl, rfl, rfl, rfl, rfl, rfl, trivial⟩ (fun w1 hw => hw.pick [1, 2, 3, 4] (by decide) rfl)
      ·have q70 := of_decide_eq_false h70
       refine TL.pk ?_
       refine TL.end_ (TX.then_ (TC.condF rfl (TC.skip_ (TX.then_ (TC.region ?_)))))
       refine TL.mv ?_
       refine TL.as_ ?_
       refine TL.as_ ?_
       refine TL.end_ (TX.in_normal (TX.then_ (TC.region ?_)))
       refine TL.val rfl rfl rfl (gives_bin rfl rfl rfl (fun w => bin_add_ (r := ((j + 1 : Nat) : Int)) (by simp only [IntKind.wrap_i64]; omega) w)) ?_
       refine TL.mv ?_
       refine TL.end_ ?_
       exact TX.round (⟨(j + 1, ((j : Nat) : Int), 0, (Ao, co), out), by dsimp only; omega, hD.lone hJ hx43 hw1 (by omega), by dsimp only; omega, hoc, hom⟩) (by show srt.length - (j + 1) < srt.length - j; omega) ⟨rfl, rfl, rfl, rfl, rfl, rfl, rfl, rfl, trivial⟩ (fun w1 hw => hw)
     ·have q67 := of_decide_eq_false h67
      iterate 4 (first | refine TL.of ?_ | refine TL.mv ?_ | refine TL.pk ?_)
      refine TL.end_ (TX.then_ (TC.condF rfl (TC.skip_ (TX.then_ (TC.region ?_)))))
      refine TL.mv ?_
      refine TL.as_ ?_
      refine TL.as_ ?_
      refine TL.end_ (TX.in_normal (TX.then_ (TC.region ?_)))
      refine TL.val rfl rfl rfl (gives_bin rfl rfl rfl (fun w => bin_add_ (r := ((j + 1 : Nat) : Int)) (by simp only [IntKind.wrap_i64]; omega) w)) ?_
      refine TL.mv ?_
      refine TL.end_ ?_
      exact TX.round (⟨(j + 1, ((j : Nat) : Int), 0, (Ao, co), out), by dsimp only; omega, hD.lone hJ hx43 hw1 (by omega), by dsimp only; omega, hoc, hom⟩) (by show srt.length - (j + 1) < srt.length - j; omega) ⟨rfl, rfl, rfl, rfl, rfl, rfl, rfl, rfl, trivial⟩ (fun w1 hw => hw)
  ·have q41 := of_decide_eq_false h41
   refine TL.end_ (TX.then_ (TC.seq_ (TC.condF rfl (TC.exit_ (TX.then_exit (TX.then_exit (TX.in_same (TX.then_ (TC.seq_ (TC.region ?_))))))))))
   refine TL.mv ?_
   refine TL.as_ ?_
   refine TL.end_ (TX.then_ (TC.ret_ ?_))
   exact ret_tmp Tryz.results19 rfl (fun w1 hw => ⟨⟨((Ao, co), out), hD.dm hTm (by omega), hoc, hom⟩, rfl, hw.pick [0] (by decide) rfl⟩)
set_option maxRecDepth 20000
section
variable {m z : Mp}
end
set_option maxRecDepth 20000
/-! ### graphs in the tail of the pieces -/
def mpsP (ms : List Mp) : List Pc := ms.flatMap Mp.pcs
theorem pcs_noAbs (m : Mp) : noAbs m.pcs = true := by
 have h := segG_noAbs (e := 3) (size := 1) (enc := flat (ic .i64)) (m.hops.l.map (·.fl) ++ m.edges.l.map (·.fl))
 simp only [noAbs, Mp.pcs, List.cons_append, List.nil_append, List.all_cons, Bool.and_eq_true] at h ⊢
 exact ⟨rfl, rfl, h⟩
theorem Pm.mpsIn {w0 : Base} {w : World} {m : Mp} {P : List Pc} {ms : List Mp} (h : Pm w0 (m.pcs ++ (P ++ mpsP ms)) w) : Pm w0 (P ++ mpsP (m :: ms)) w := by
 refine h.permute ?_
 have e : mpsP (m :: ms) = m.pcs ++ mpsP ms := List.flatMap_cons
 rw [e, ← List.append_assoc, ← List.append_assoc]
 exact List.Perm.append_right _ List.perm_append_comm
theorem mps_mem {m : Mp} {ms : List Mp} (h : m ∈ ms) {q : Pc} (hq : q ∈ m.pcs) : q ∈ mpsP ms := List.mem_flatMap.2 ⟨m, h, hq⟩
theorem pm_rdM {w0 : Base} {L : List Pc} {w : World} {A : Option Addr} {e : TypeId} {size n c : Nat} {xs : List Value} (h : Pm w0 L w) (hm : Pc.row (.slice A n c) e size n xs ∈ L) : Reads w w.heap.size size A n xs := by
 obtain ⟨k, hk⟩ := List.getElem?_of_mem hm
 exact pm_rd h hk
theorem MpR.of {w0 : Base} {w : World} {m : Mp} {L : List Pc} {n : Nat} (hl : MpLen m n) (hn : n ≤ 100000) (h : Pm w0 L w) (hs : ∀ q ∈ m.pcs, q ∈ L) : MpR w m := by
 have hseg : ∀ s ∈ m.hops.l.map (·.fl) ++ m.edges.l.map (·.fl), Pc.row (.slice s.A s.l.length s.c) 3 1 s.l.length (flat (ic .i64) s.l) ∈ L := fun s h9 =>
  hs _ (List.mem_append_right _ (List.mem_map_of_mem (f := Sg.pc 3 1 (flat (ic .i64))) h9))
 refine ⟨pm_rdM h (hs _ List.mem_cons_self), pm_rdM h (hs _ (List.mem_cons_of_mem _ List.mem_cons_self)), Nat.le_trans hl.hops hn, Nat.le_trans hl.edges hn, fun x hx => ⟨pm_rdM h (hseg _ (List.mem_append_left _ (List.mem_map_of_mem hx))), Nat.le_trans (hl.fh x hx).1 hn⟩, fun x hx => ⟨pm_rdM h (hseg _ (List.mem_append_right _ (List.mem_map_of_mem hx))), Nat.le_trans (hl.fe x hx).1 hn⟩⟩
/-! ### the example -/
def rpl (n flow ttl from_ : Int) : Rs := ⟨0, 0, n, n, 9, 17, flow, ttl, true, false, n + 1, from_, 1, 0, 0, 0, 0⟩
def awL : List Rs := [rpl 0 0 1 1, rpl 1 0 2 2, rpl 2 0 3 4, rpl 3 1 1 1, rpl 4 1 2 3, rpl 5 1 3 4]
def awH : List (List Int) := [[1, 1], [2, 2], [2, 3], [3, 4]]
def awE : List (List Int) := [[1, 1, 2], [1, 1, 3], [2, 2, 4], [2, 3, 4]]
theorem awL_ok : ∀ r ∈ awL, r.Ok := by
 intro r hr
 simp only [awL, List.mem_cons, List.not_mem_nil, or_false] at hr
 rcases hr with rfl | rfl | rfl | rfl | rfl | rfl <;> exact ⟨by decide, by decide, by decide, by decide⟩
theorem aw_val : ∀ r ∈ awL, vwS (endT awL) awL (spotR r) = (r.src, 2) := by decide +kernel
theorem aw_src : ∀ x ∈ awL, ∀ y ∈ awL, spotR x = spotR y → x.src = y.src := by decide +kernel
theorem aw_err {e : Int} (h : ErrOk awL (lookS awL).2 e) : e = 0 := by
 rcases h with ⟨_, h2⟩ | ⟨_, o, ho, h3⟩
 ·exact absurd h2 (by decide +kernel)
 ·have hol : o.length ≤ awL.length := nodup_len (asc_nodup ho.1) fun r hr => ((ho.2 r).1 hr).1
  rcases h3 with ⟨_, h3⟩ | ⟨_, t, ht, h5⟩
  ·have : awL.length = 6 := rfl
   omega
  ·have htl : t.length ≤ [(⟨0, 9, 17⟩ : Trc)].length := nodup_len (ht.1.imp fun {a b} hab e => by rw [e] at hab; exact absurd hab (ltK_irrefl b)) fun x hx => by
    obtain ⟨r, hr, _, e⟩ := (ht.2 x).1 hx
    have h9 : ∀ r ∈ awL, trcR r = ⟨0, 9, 17⟩ := by decide +kernel
    rw [← e, h9 r hr]; exact List.mem_singleton.2 rfl
   rcases h5 with ⟨_, h5⟩ | ⟨_, ⟨_, s, hs⟩ | ⟨h7, _⟩⟩
   ·have : [(⟨0, 9, 17⟩ : Trc)].length = 1 := rfl
    omega
   ·exfalso
    have h3 := st_three.1 hs
    rcases vinv (endT awL) awL s with ⟨e, _⟩ | ⟨e, _⟩ | ⟨a, e, _⟩ | ⟨_, x, hx, y, hy, _, _, hn⟩
    ·rw [e] at h3; exact absurd h3 (show ¬ ((0 : Int) = 3) by decide)
    ·rw [e] at h3; exact absurd h3 (show ¬ ((1 : Int) = 3) by decide)
    ·rw [e] at h3; exact absurd h3 (show ¬ ((2 : Int) = 3) by decide)
    ·have hx2 := List.mem_filter.1 hx
     have hy2 := List.mem_filter.1 hy
     have e1 : spotR x = s := by have := hx2.2; unfold hitS at this; simp only [Bool.and_eq_true, decide_eq_true_eq] at this; exact this.2
     have e2 : spotR y = s := by have := hy2.2; unfold hitS at this; simp only [Bool.and_eq_true, decide_eq_true_eq] at this; exact this.2
     exact hn (aw_src x hx2.1 y hy2.1 (e1.trans e2.symm))
   ·exact h7
theorem aw_keys {α : Type} {key : α → List Int} {fl : α → List Int} {n : Nat} {P : List Int → Int → Prop} {hs : List α} {lit : List (List Int)} (hk : ∀ x, (key x).length = n) (g : GrOk key fl P hs) (hn : ∀ x ∈ lit, x.length = n) (ha : AscK (fun k : List Int => k) lit) (h1 : ∀ k f, P k f → k ∈ lit) (h2 : ∀ k ∈ lit, ∃ f, P k f) : hs.map key = lit := by
 refine pairs_asc_eq (key := fun k : List Int => k) (n := n) (fun x hx => ?_) hn (List.pairwise_map.2 g.1) ha fun k => ?_
 ·obtain ⟨y, _, rfl⟩ := List.mem_map.1 hx
  exact hk y
 ·constructor
  ·intro h
   obtain ⟨x, hx, rfl⟩ := List.mem_map.1 h
   obtain ⟨f, hf⟩ := List.exists_mem_of_ne_nil _ (g.2.1 x hx).2
   exact h1 _ f ((gr_flows hk g hx f).1 hf)
  ·intro h
   obtain ⟨f, hf⟩ := h2 k h
   obtain ⟨x, hx, e, _⟩ := (g.2.2 k f).2 hf
   exact List.mem_map.2 ⟨x, hx, e⟩
theorem aw_hops {hs : List Hpx} (h : HopsOk (lookS awL).1 (lookS awL).2 hs) : hs.map hpk = awH := by
 refine aw_keys hpk_len (hops_gr h) (by decide) (by unfold AscK; decide) (fun k f hP => ?_) fun k hk => ?_
 ·obtain ⟨t, a, rfl, h1, h2⟩ := hP
  obtain ⟨r, hr, _, hs⟩ := vw_used h1
  rw [← hs, aw_val r hr] at h2
  have h3 : ∀ r ∈ awL, [r.ttl, r.src] ∈ awH := by decide +kernel
  have := h3 r hr
  rwa [show r.ttl = t from congrArg Spot.ttl hs, show r.src = a from h2] at this
 ·have h3 : ∀ k ∈ awH, ∃ r ∈ awL, k = [r.ttl, r.src] := by decide +kernel
  obtain ⟨r, hr, e⟩ := h3 k hk
  exact ⟨r.flow, r.ttl, r.src, e, by rw [show (⟨r.flow, r.ttl⟩ : Spot) = spotR r from rfl, aw_val r hr]; exact (show (2 : Int) ≠ 0 by decide), by rw [show (⟨r.flow, r.ttl⟩ : Spot) = spotR r from rfl, aw_val r hr]⟩
theorem aw_edges {es : List Ed} (h : EdgesOk (lookS awL).1 (lookS awL).2 es) : es.map edk = awE := by
 refine aw_keys edk_len (edges_gr h) (by decide) (by unfold AscK; decide) (fun k f hP => ?_) fun k hk => ?_
 ·obtain ⟨t, a, b, rfl, h1, h2, h4, h5⟩ := hP
  obtain ⟨r, hr, _, hs⟩ := vw_used h1
  obtain ⟨r', hr', _, hs'⟩ := vw_used (l := awL) (s := ⟨f, t + 1⟩) (by rcases h2 with h2 | h2 <;> rw [h2] <;> decide)
  rw [← hs, aw_val r hr] at h4
  rw [← hs', aw_val r' hr'] at h5
  have h3 : ∀ r ∈ awL, ∀ r' ∈ awL, r'.flow = r.flow → r'.ttl = r.ttl + 1 → [r.ttl, r.src, r'.src] ∈ awE := by decide +kernel
  have e1 : r.ttl = t := congrArg Spot.ttl hs
  have e2 : r.flow = f := congrArg Spot.flow hs
  have e3 : r'.ttl = t + 1 := congrArg Spot.ttl hs'
  have e4 : r'.flow = f := congrArg Spot.flow hs'
  have := h3 r hr r' hr' (by rw [e4, e2]) (by rw [e3, e1])
  rwa [e1, show r.src = a from h4, show r'.src = b from h5] at this
 ·have h3 : ∀ k ∈ awE, ∃ r ∈ awL, ∃ r' ∈ awL, k = [r.ttl, r.src, r'.src] ∧ r'.flow = r.flow ∧ r'.ttl = r.ttl + 1 := by decide +kernel
  obtain ⟨r, hr, r', hr', e, e1, e2⟩ := h3 k hk
  have e3 : (⟨r.flow, r.ttl + 1⟩ : Spot) = spotR r' := by unfold spotR; rw [e1, e2]
  refine ⟨r.flow, r.ttl, r.src, r'.src, e, ?_, ?_, ?_, ?_⟩
  ·rw [show (⟨r.flow, r.ttl⟩ : Spot) = spotR r from rfl, aw_val r hr]; exact (show (2 : Int) ≠ 0 by decide)
  ·unfold hasV; rw [e3, aw_val r' hr']; exact .inl rfl
  ·rw [show (⟨r.flow, r.ttl⟩ : Spot) = spotR r from rfl, aw_val r hr]
  ·rw [e3, aw_val r' hr']
def kw (ks : List (List Int)) (t : Int) : Nat := (ks.filter fun k => decide (k.headD 0 = t)).length
theorem wid_kw (hs : List Hpx) : wid hs = kw (hs.map hpk) := by
 funext t
 unfold wid kw
 rw [List.filter_map, List.length_map]; rfl
theorem kw_pos {t : Int} (h : 0 < kw awH t) : t = 1 ∨ t = 2 ∨ t = 3 := by
 obtain ⟨k, hk⟩ := List.exists_mem_of_length_pos h
 have h1 := List.mem_filter.1 hk
 have h2 : ∀ k ∈ awH, k.headD 0 = 1 ∨ k.headD 0 = 2 ∨ k.headD 0 = 3 := by decide
 have := h2 k h1.1
 rwa [of_decide_eq_true h1.2] at this
theorem aw_dm : IsDm (kw awH) [⟨1, 3, 2⟩] := by
 have w1 : kw awH 1 = 1 := by decide
 have w2 : kw awH 2 = 2 := by decide
 have w3 : kw awH 3 = 1 := by decide
 refine ⟨List.pairwise_singleton _ _, fun d => ?_⟩
 rw [List.mem_singleton]
 constructor
 ·rintro rfl
  refine ⟨1, by decide, w1, rfl, fun j h1 h2 => ?_, w3, by decide⟩
  obtain rfl : j = 1 := by omega
  show 1 < kw awH 2
  omega
 ·rintro ⟨n, h0, h1, h2, h3, h4, h5⟩
  obtain ⟨d1, d2, d3⟩ := d
  simp only at h1 h2 h3 h4 h5
  have a1 := kw_pos (t := d1) (by omega)
  have a2 := h3 1 (by omega) (by omega)
  have a3 := kw_pos (t := d1 + 1) (by have e : d1 + ((1 : Nat) : Int) = d1 + 1 := rfl; rw [e] at a2; omega)
  have a4 := kw_pos (t := d2) (by omega)
  have a5 : d1 = 1 := by
   rcases a1 with e | e | e
   ·exact e
   ·subst e; omega
   ·subst e; omega
  subst a5
  have a6 : d2 = 3 := by
   rcases a4 with e | e | e
   ·subst e; omega
   ·subst e; omega
   ·exact e
  subst a6
  obtain rfl : n = 1 := by omega
  have a7 : mxn (kw awH) 1 1 = 2 := by decide
  rw [h5, a7]; rfl
theorem aw_graph {m : Mp} {e : Int} (h : BuildOk awL m e) : e = 0 ∧ m.hops.l.length = 4 ∧ m.edges.l.length = 4 ∧ (∀ d, IsDm (wid m.hops.l) d → d = [⟨1, 3, 2⟩]) ∧ ∀ o, IsWr m.edges.l o → o.length = 4 := by
 have he := aw_err h.1
 obtain ⟨_, _, g3, g4⟩ := h.2.2 he (by intro h; cases h)
 have k3 := aw_hops g3
 have k4 := aw_edges g4
 refine ⟨he, ?_, ?_, fun d hd => ?_, fun o ho => ?_⟩
 ·have := congrArg List.length k3; rwa [List.length_map] at this
 ·have := congrArg List.length k4; rwa [List.length_map] at this
 ·rw [wid_kw, k3] at hd
  exact hd.eq aw_dm
 ·have : IsWr m.edges.l [⟨1, 2⟩, ⟨1, 3⟩, ⟨2, 4⟩, ⟨3, 4⟩] := by
   refine ⟨by unfold AscK; decide, fun x => ?_⟩
   constructor
   ·intro hx
    have h1 : ∀ x ∈ ([⟨1, 2⟩, ⟨1, 3⟩, ⟨2, 4⟩, ⟨3, 4⟩] : List Wre), ∃ k ∈ awE, k.tail = wrk x ∧ x.frm ≠ 0 ∧ x.to_ ≠ 0 := by decide
    obtain ⟨k, hk, e1, e2, e3⟩ := h1 x hx
    rw [← k4] at hk
    obtain ⟨y, hy, rfl⟩ := List.mem_map.1 hk
    simp only [edk, wrk, List.tail_cons, List.cons.injEq, and_true] at e1
    refine ⟨y, hy, by simp [wireE, e1.1, e1.2, e2, e3], ?_⟩
    unfold edW; rw [e1.1, e1.2]
   ·rintro ⟨y, hy, _, rfl⟩
    have h1 : ∀ k ∈ awE, ∃ x ∈ ([⟨1, 2⟩, ⟨1, 3⟩, ⟨2, 4⟩, ⟨3, 4⟩] : List Wre), k.tail = wrk x := by decide
    have h2 : edk y ∈ awE := by rw [← k4]; exact List.mem_map.2 ⟨y, hy, rfl⟩
    obtain ⟨x, hx, e⟩ := h1 _ h2
    have e2 : wrk (edW y) = wrk x := e
    rw [wrk_inj e2]; exact hx
  rw [ho.eq this]; rfl
theorem pawbld45_27257 (a0_0 : Int) (a1_0 : Int) (w : World) : (Instr.build 45 #[(0, .int .u32 a0_0), (1, .int .i64 a1_0)]).run Tryz.prog w = .ok (.agg #[.int .u32 a0_0, .int .i64 a1_0, .int .i64 0, .int .i64 0, .int .i64 0, .int .i64 0]) w := by kernel_rfl
theorem pawbld47_6431 (a2_0 : Int) (a3_0 : Int) (a4_0 : Int) (a5_0 : Int) (a6_0 : Int) (a7_0 : Int) (a8_0 : Bool) (a10_0 : Int) (a11_0 : Int) (a11_1 : Int) (a11_2 : Int) (a11_3 : Int) (a11_4 : Int) (a11_5 : Int) (w : World) : (Instr.build 47 #[(2, .int .i64 a2_0), (3, .int .i64 a3_0), (4, .int .u32 a4_0), (5, .int .i64 a5_0), (6, .int .i64 a6_0), (7, .int .i64 a7_0), (8, .bool a8_0), (10, .int .i64 a10_0), (11, .agg #[.int .u32 a11_0, .int .i64 a11_1, .int .i64 a11_2, .int .i64 a11_3, .int .i64 a11_4, .int .i64 a11_5])]).run Tryz.prog w = .ok (.agg #[.int .i64 0, .int .i64 0, .int .i64 a2_0, .int .i64 a3_0, .int .u32 a4_0, .int .i64 a5_0, .int .i64 a6_0, .int .i64 a7_0, .bool a8_0, .bool false, .int .i64 a10_0, .int .u32 a11_0, .int .i64 a11_1, .int .i64 a11_2, .int .i64 a11_3, .int .i64 a11_4, .int .i64 a11_5]) w := by kernel_rfl
theorem pawnm55 : (Tryz.f55.name == "runtime.NumGoroutine") = false := by decide
theorem pawbd55 : Tryz.f55.body.isNone = false := rfl
theorem pawbs26_6_57405 (a0_0 : Int) (a0_1 : Int) (a0_2 : Int) (a0_3 : Int) (a0_4 : Int) (a0_5 : Int) (a0_6 : Int) (a0_7 : Int) (a0_8 : Bool) (a0_9 : Bool) (a0_10 : Int) (a0_11 : Int) (a0_12 : Int) (a0_13 : Int) (a0_14 : Int) (a0_15 : Int) (a0_16 : Int) (a1_0 : Int) (a1_1 : Int) (a1_2 : Int) (a1_3 : Int) (a1_4 : Int) (a1_5 : Int) (a1_6 : Int) (a1_7 : Int) (a1_8 : Bool) (a1_9 : Bool) (a1_10 : Int) (a1_11 : Int) (a1_12 : Int) (a1_13 : Int) (a1_14 : Int) (a1_15 : Int) (a1_16 : Int) (a2_0 : Int) (a2_1 : Int) (a2_2 : Int) (a2_3 : Int) (a2_4 : Int) (a2_5 : Int) (a2_6 : Int) (a2_7 : Int) (a2_8 : Bool) (a2_9 : Bool) (a2_10 : Int) (a2_11 : Int) (a2_12 : Int) (a2_13 : Int) (a2_14 : Int) (a2_15 : Int) (a2_16 : Int) (a3_0 : Int) (a3_1 : Int) (a3_2 : Int) (a3_3 : Int) (a3_4 : Int) (a3_5 : Int) (a3_6 : Int) (a3_7 : Int) (a3_8 : Bool) (a3_9 : Bool) (a3_10 : Int) (a3_11 : Int) (a3_12 : Int) (a3_13 : Int) (a3_14 : Int) (a3_15 : Int) (a3_16 : Int) (a4_0 : Int) (a4_1 : Int) (a4_2 : Int) (a4_3 : Int) (a4_4 : Int) (a4_5 : Int) (a4_6 : Int) (a4_7 : Int) (a4_8 : Bool) (a4_9 : Bool) (a4_10 : Int) (a4_11 : Int) (a4_12 : Int) (a4_13 : Int) (a4_14 : Int) (a4_15 : Int) (a4_16 : Int) (a5_0 : Int) (a5_1 : Int) (a5_2 : Int) (a5_3 : Int) (a5_4 : Int) (a5_5 : Int) (a5_6 : Int) (a5_7 : Int) (a5_8 : Bool) (a5_9 : Bool) (a5_10 : Int) (a5_11 : Int) (a5_12 : Int) (a5_13 : Int) (a5_14 : Int) (a5_15 : Int) (a5_16 : Int) (w : World) : (Instr.buildSlice 26 6 #[(0, .agg #[.int .i64 a0_0, .int .i64 a0_1, .int .i64 a0_2, .int .i64 a0_3, .int .u32 a0_4, .int .i64 a0_5, .int .i64 a0_6, .int .i64 a0_7, .bool a0_8, .bool a0_9, .int .i64 a0_10, .int .u32 a0_11, .int .i64 a0_12, .int .i64 a0_13, .int .i64 a0_14, .int .i64 a0_15, .int .i64 a0_16]), (1, .agg #[.int .i64 a1_0, .int .i64 a1_1, .int .i64 a1_2, .int .i64 a1_3, .int .u32 a1_4, .int .i64 a1_5, .int .i64 a1_6, .int .i64 a1_7, .bool a1_8, .bool a1_9, .int .i64 a1_10, .int .u32 a1_11, .int .i64 a1_12, .int .i64 a1_13, .int .i64 a1_14, .int .i64 a1_15, .int .i64 a1_16]), (2, .agg #[.int .i64 a2_0, .int .i64 a2_1, .int .i64 a2_2, .int .i64 a2_3, .int .u32 a2_4, .int .i64 a2_5, .int .i64 a2_6, .int .i64 a2_7, .bool a2_8, .bool a2_9, .int .i64 a2_10, .int .u32 a2_11, .int .i64 a2_12, .int .i64 a2_13, .int .i64 a2_14, .int .i64 a2_15, .int .i64 a2_16]), (3, .agg #[.int .i64 a3_0, .int .i64 a3_1, .int .i64 a3_2, .int .i64 a3_3, .int .u32 a3_4, .int .i64 a3_5, .int .i64 a3_6, .int .i64 a3_7, .bool a3_8, .bool a3_9, .int .i64 a3_10, .int .u32 a3_11, .int .i64 a3_12, .int .i64 a3_13, .int .i64 a3_14, .int .i64 a3_15, .int .i64 a3_16]), (4, .agg #[.int .i64 a4_0, .int .i64 a4_1, .int .i64 a4_2, .int .i64 a4_3, .int .u32 a4_4, .int .i64 a4_5, .int .i64 a4_6, .int .i64 a4_7, .bool a4_8, .bool a4_9, .int .i64 a4_10, .int .u32 a4_11, .int .i64 a4_12, .int .i64 a4_13, .int .i64 a4_14, .int .i64 a4_15, .int .i64 a4_16]), (5, .agg #[.int .i64 a5_0, .int .i64 a5_1, .int .i64 a5_2, .int .i64 a5_3, .int .u32 a5_4, .int .i64 a5_5, .int .i64 a5_6, .int .i64 a5_7, .bool a5_8, .bool a5_9, .int .i64 a5_10, .int .u32 a5_11, .int .i64 a5_12, .int .i64 a5_13, .int .i64 a5_14, .int .i64 a5_15, .int .i64 a5_16])]).run Tryz.prog w = .ok (.slice (some ⟨w.heap.size, 0, none⟩) 6 6) (w.alloc (.cells [.int .i64 a0_0, .int .i64 a0_1, .int .i64 a0_2, .int .i64 a0_3, .int .u32 a0_4, .int .i64 a0_5, .int .i64 a0_6, .int .i64 a0_7, .bool a0_8, .bool a0_9, .int .i64 a0_10, .int .u32 a0_11, .int .i64 a0_12, .int .i64 a0_13, .int .i64 a0_14, .int .i64 a0_15, .int .i64 a0_16, .int .i64 a1_0, .int .i64 a1_1, .int .i64 a1_2, .int .i64 a1_3, .int .u32 a1_4, .int .i64 a1_5, .int .i64 a1_6, .int .i64 a1_7, .bool a1_8, .bool a1_9, .int .i64 a1_10, .int .u32 a1_11, .int .i64 a1_12, .int .i64 a1_13, .int .i64 a1_14, .int .i64 a1_15, .int .i64 a1_16, .int .i64 a2_0, .int .i64 a2_1, .int .i64 a2_2, .int .i64 a2_3, .int .u32 a2_4, .int .i64 a2_5, .int .i64 a2_6, .int .i64 a2_7, .bool a2_8, .bool a2_9, .int .i64 a2_10, .int .u32 a2_11, .int .i64 a2_12, .int .i64 a2_13, .int .i64 a2_14, .int .i64 a2_15, .int .i64 a2_16, .int .i64 a3_0, .int .i64 a3_1, .int .i64 a3_2, .int .i64 a3_3, .int .u32 a3_4, .int .i64 a3_5, .int .i64 a3_6, .int .i64 a3_7, .bool a3_8, .bool a3_9, .int .i64 a3_10, .int .u32 a3_11, .int .i64 a3_12, .int .i64 a3_13, .int .i64 a3_14, .int .i64 a3_15, .int .i64 a3_16, .int .i64 a4_0, .int .i64 a4_1, .int .i64 a4_2, .int .i64 a4_3, .int .u32 a4_4, .int .i64 a4_5, .int .i64 a4_6, .int .i64 a4_7, .bool a4_8, .bool a4_9, .int .i64 a4_10, .int .u32 a4_11, .int .i64 a4_12, .int .i64 a4_13, .int .i64 a4_14, .int .i64 a4_15, .int .i64 a4_16, .int .i64 a5_0, .int .i64 a5_1, .int .i64 a5_2, .int .i64 a5_3, .int .u32 a5_4, .int .i64 a5_5, .int .i64 a5_6, .int .i64 a5_7, .bool a5_8, .bool a5_9, .int .i64 a5_10, .int .u32 a5_11, .int .i64 a5_12, .int .i64 a5_13, .int .i64 a5_14, .int .i64 a5_15, .int .i64 a5_16].toArray 47)) := by kernel_rfl
theorem pawnm14 : (Tryz.f14.name == "runtime.NumGoroutine") = false := by decide
theorem pawbd14 : Tryz.f14.body.isNone = false := rfl
theorem pawnm19 : (Tryz.f19.name == "runtime.NumGoroutine") = false := by decide
theorem pawbd19 : Tryz.f19.body.isNone = false := rfl
theorem pawsz58 (w : World) : (sizeOf 58).run Tryz.prog w = .ok 3 w := rfl
theorem pawag58 (w : World) : (isAgg 58).run Tryz.prog w = .ok true w := rfl
theorem pawnm18 : (Tryz.f18.name == "runtime.NumGoroutine") = false := by decide
theorem pawbd18 : Tryz.f18.body.isNone = false := rfl
set_option maxHeartbeats 1000000 in
theorem reply_any (n flow ttl from_ : Int) (w : World) (hn : 0 ≤ n ∧ n ≤ 1000) :
  Calls Tryz.prog 55 #[.int .i64 n, .int .i64 flow, .int .i64 ttl, .int .u32 from_] w fun e w' => e = .returned (.agg (rpl n flow ttl from_).cells.toArray) ∧ Below w.heap.size w w' := by
 refine begin_ (vs := [.int .i64 n, .int .i64 flow, .int .i64 ttl, .int .u32 from_]) Tryz.func55 rfl rfl rfl ?_ (Pm.start w)
 refine TC.seq_ (TC.region ?_)
 refine TL.pnew rfl rfl rfl (exec_alloc (cs := [.int .i64 0, .int .i64 0, .int .i64 0, .int .i64 0, .int .u32 0, .int .i64 0, .int .i64 0, .int .i64 0, .bool false, .bool false, .int .i64 0, .int .u32 0, .int .i64 0, .int .i64 0, .int .i64 0, .int .i64 0, .int .i64 0]) rfl pcpzv47 rfl) (fun g8 => ?_)
 refine TL.end_ (TX.then_ (TC.seq_ (TC.region ?_)))
 iterate 5 (first | refine TL.mv ?_)
 refine TL.val rfl rfl rfl (gives_bin rfl rfl rfl (fun w => bin_add_ (r := n + 1) (by simp only [IntKind.wrap_i64]; omega) w)) ?_
 refine TL.mv ?_
 refine TL.val rfl rfl rfl (gives_build (v := .agg #[.int .u32 from_, .int .i64 1, .int .i64 0, .int .i64 0, .int .i64 0, .int .i64 0]) rfl rfl (fun w => pawbld45_27257 _ _ w)) ?_
 refine TL.val rfl rfl rfl (gives_build (v := .agg #[.int .i64 0, .int .i64 0, .int .i64 n, .int .i64 n, .int .u32 9, .int .i64 17, .int .i64 flow, .int .i64 ttl, .bool true, .bool false, .int .i64 (n + 1), .int .u32 from_, .int .i64 1, .int .i64 0, .int .i64 0, .int .i64 0, .int .i64 0]) rfl rfl (fun w => pawbld47_6431 _ _ _ _ _ _ _ _ _ _ _ _ _ _ w)) ?_
 refine TL.pstore (k := 0) (vs := [.int .i64 0, .int .i64 0, .int .i64 n, .int .i64 n, .int .u32 9, .int .i64 17, .int .i64 flow, .int .i64 ttl, .bool true, .bool false, .int .i64 (n + 1), .int .u32 from_, .int .i64 1, .int .i64 0, .int .i64 0, .int .i64 0, .int .i64 0]) rfl rfl rfl rfl rfl rfl rfl prssz47 dreone_i64i64i64i64u32i64i64i64bbi64u32i64i64i64i64i64 (by show 17 ≤ 17; decide) rfl ?_
 refine TL.end_ (TX.then_ (TC.ret_ ?_))
 exact pm_ret_cell (k := 0) Tryz.results55 rfl rfl Tryz.underlying47 rfl rfl (fun w1 hw => ⟨rfl, hw.bel⟩)
set_option maxHeartbeats 1000000 in
theorem awake_true  (w : World) :
  Calls Tryz.prog 10 #[] w fun e w' => e = .returned (.bool true) ∧ Below w.heap.size w w' := by
 refine begin_ (vs := []) Tryz.func10 rfl rfl rfl ?_ (Pm.start w)
 refine TC.seq_ (TC.region ?_)
 refine TL.as_ ?_
 refine TL.end_ (TX.then_ (TC.seq_ (TC.region ?_)))
 refine TL.pcall1 (r := .agg ((rpl 0 0 1 1).cells).toArray) rfl rfl rfl rfl rfl Tryz.func55 pawnm55 pawbd55 (fun w1 hw => reply_any 0 0 1 1 w1 (by decide)) ?_
 refine TL.pcall1 (r := .agg ((rpl 1 0 2 2).cells).toArray) rfl rfl rfl rfl rfl Tryz.func55 pawnm55 pawbd55 (fun w1 hw => reply_any 1 0 2 2 w1 (by decide)) ?_
 refine TL.pcall1 (r := .agg ((rpl 2 0 3 4).cells).toArray) rfl rfl rfl rfl rfl Tryz.func55 pawnm55 pawbd55 (fun w1 hw => reply_any 2 0 3 4 w1 (by decide)) ?_
 refine TL.pcall1 (r := .agg ((rpl 3 1 1 1).cells).toArray) rfl rfl rfl rfl rfl Tryz.func55 pawnm55 pawbd55 (fun w1 hw => reply_any 3 1 1 1 w1 (by decide)) ?_
 refine TL.pcall1 (r := .agg ((rpl 4 1 2 3).cells).toArray) rfl rfl rfl rfl rfl Tryz.func55 pawnm55 pawbd55 (fun w1 hw => reply_any 4 1 2 3 w1 (by decide)) ?_
 refine TL.pcall1 (r := .agg ((rpl 5 1 3 4).cells).toArray) rfl rfl rfl rfl rfl Tryz.func55 pawnm55 pawbd55 (fun w1 hw => reply_any 5 1 3 4 w1 (by decide)) ?_
 refine TL.prowS (e := 47) (size := 17) (cs := flat Rs.cells [rpl 0 0 1 1, rpl 1 0 2 2, rpl 2 0 3 4, rpl 3 1 1 1, rpl 4 1 2 3, rpl 5 1 3 4]) rfl rfl rfl rfl rfl (fun w => pawbs26_6_57405 _ _ _ _ _ _ _ _ _ _ _ _ _ _ _ _ _ _ _ _ _ _ _ _ _ _ _ _ _ _ _ _ _ _ _ _ _ _ _ _ _ _ _ _ _ _ _ _ _ _ _ _ _ _ _ _ _ _ _ _ _ _ _ _ _ _ _ _ _ _ _ _ _ _ _ _ _ _ _ _ _ _ _ _ _ _ _ _ _ _ _ _ _ _ _ _ _ _ _ _ _ _ w) (by decide) rfl (fun g11 => ?_)
 refine TL.as_ ?_
 refine TL.end_ (TX.then_ (TC.seq_ (TC.region ?_)))
 refine TL.mv ?_
 refine TL.call (α := {y : Mp × Int // BuildOk ([rpl 0 0 1 1, rpl 1 0 2 2, rpl 2 0 3 4, rpl 3 1 1 1, rpl 4 1 2 3, rpl 5 1 3 4]) y.1 y.2}) (r := fun x => .tuple #[.agg x.1.1.cells.toArray, .int .i64 x.1.2]) (I' := fun x => Pm w ([.row (.slice (some ⟨g11, 0, none⟩) 6 6) 47 17 6 (flat Rs.cells [rpl 0 0 1 1, rpl 1 0 2 2, rpl 2 0 3 4, rpl 3 1 1 1, rpl 4 1 2 3, rpl 5 1 3 4])] ++ mpsP (x.1.1 :: []))) rfl rfl rfl rfl rfl Tryz.func14 pawnm14 pawbd14 (fun w1 hw => (build_any (some ⟨g11, 0, none⟩) 6 ([rpl 0 0 1 1, rpl 1 0 2 2, rpl 2 0 3 4, rpl 3 1 1 1, rpl 4 1 2 3, rpl 5 1 3 4]) w1 (pm_rd hw (k := 0) rfl) (by decide) awL_ok).mono fun e w2 ⟨x, h1, h2⟩ => ⟨x, h1, Pm.mpsIn (P := [.row (.slice (some ⟨g11, 0, none⟩) 6 6) 47 17 6 (flat Rs.cells [rpl 0 0 1 1, rpl 1 0 2 2, rpl 2 0 3 4, rpl 3 1 1 1, rpl 4 1 2 3, rpl 5 1 3 4])]) (ms := []) (hw.addAll h2 (pcs_noAbs _))⟩) ?_
 rintro ⟨⟨m, em⟩, hbm⟩
 dsimp only at hbm ⊢
 have hml := build_len awL_ok hbm
 refine TL.mv ?_
 refine TL.ex ?_
 refine TL.ex ?_
 refine TL.pnew rfl rfl rfl (exec_alloc (cs := [.int .i64 0, .int .u32 0, .int .i64 0, .int .i64 0, .slice none 0 0, .slice none 0 0]) rfl pbdzv36 rfl) (fun g2 => ?_)
 refine TL.pstore (k := 0) (vs := m.cells) rfl rfl rfl rfl rfl rfl rfl pbdsz36 pbdone_i64u32i64i64ss (by show 6 ≤ 6; decide) (L' := ([.blk g2 36 m.cells, .row (.slice (some ⟨g11, 0, none⟩) 6 6) 47 17 6 (flat Rs.cells [rpl 0 0 1 1, rpl 1 0 2 2, rpl 2 0 3 4, rpl 3 1 1 1, rpl 4 1 2 3, rpl 5 1 3 4])] ++ mpsP [m])) rfl ?_
 refine TL.as_ ?_
 refine TL.end_ (TX.then_ (TC.seq_ ?_))
 replace hml : MpLen m 6 := hml
 obtain ⟨rfl, hmh, hme, hmd, hmw⟩ := aw_graph hbm
 refine TC.region ?_
 refine TL.val rfl rfl rfl (pm_loadV (k := 0) (i := 0) (n := 6) (v := .agg (m.cells).toArray) rfl rfl pbdag36 pbdsz36 rfl (by show 6 ≤ 6; decide) rfl) ?_
 refine TL.pcallPm (α := {y : (Option Addr × Nat) × List Dm // IsDm (wid m.hops.l) y.2 ∧ y.2.length ≤ y.1.2 ∧ y.1.2 ≤ maxLen}) (fun x => .slice x.1.1.1 x.1.2.length x.1.1.2) (fun x => [.row (.slice x.1.1.1 x.1.2.length x.1.1.2) 58 3 x.1.2.length (flat Dm.cells x.1.2)]) rfl rfl rfl rfl rfl Tryz.func19 pawnm19 pawbd19 (fun w1 hw => diamonds_any m w1 ((MpR.of (hml) (by omega) hw (fun q hq => List.mem_of_mem_drop (i := 2) (by exact mps_mem (by simp) hq)))).hops ((MpR.of (hml) (by omega) hw (fun q hq => List.mem_of_mem_drop (i := 2) (by exact mps_mem (by simp) hq)))).nhops (fun x hx => ⟨(hml.fh x hx).2.1, (hml.fh x hx).2.2.1⟩)) ?_
 rintro ⟨⟨⟨R18, rc18⟩, dm18⟩, hP18, hR181, hR182⟩
 dsimp only [List.cons_append, List.nil_append]
 dsimp only at hP18 hR181 hR182 ⊢
 refine TL.as_ ?_
 refine TL.end_ (TX.then_ (TC.seq_ ?_))
 have hd18 := hmd dm18 hP18
 have hd18l : dm18.length = 1 := by rw [hd18]; rfl
 refine TC.region ?_
 refine TL.mv ?_
 refine TL.val rfl rfl rfl (gives_bin rfl rfl rfl (fun w => bin_eql_t (rfl) w)) ?_
 refine TL.mv ?_
 refine TL.gu ?_
 refine TL.val rfl rfl rfl (gives_field (v := .pointer (some ⟨g2, 4, none⟩)) rfl rfl (fun w => pbdfld36_2 _ _ w)) ?_
 refine TL.gu ?_
 refine TL.val rfl rfl rfl (pm_load (k := 1) (i := 4) rfl rfl pbdag33 rfl rfl) ?_
 refine TL.gu ?_
 refine TL.val rfl rfl rfl (gives_len rfl Tryz.underlying33 rfl) ?_
 refine TL.gu ?_
 refine TL.val rfl rfl rfl (gives_bin rfl rfl rfl (fun w => bin_eql_t (by rw [hmh]; rfl) w)) ?_
 refine TL.pk ?_
 refine TL.mv ?_
 refine TL.gu ?_
 refine TL.val rfl rfl rfl (gives_field (v := .pointer (some ⟨g2, 5, none⟩)) rfl rfl (fun w => pbdfld36_3 _ _ w)) ?_
 refine TL.gu ?_
 refine TL.val rfl rfl rfl (pm_load (k := 1) (i := 5) rfl rfl pbdag34 rfl rfl) ?_
 refine TL.gu ?_
 refine TL.val rfl rfl rfl (gives_len rfl Tryz.underlying34 rfl) ?_
 refine TL.gu ?_
 refine TL.val rfl rfl rfl (gives_bin rfl rfl rfl (fun w => bin_eql_t (by rw [hme]; rfl) w)) ?_
 iterate 5 (first | refine TL.gu ?_ | refine TL.mv ?_ | refine TL.pk ?_)
 refine TL.val rfl rfl rfl (gives_len rfl Tryz.underlying55 rfl) ?_
 refine TL.gu ?_
 refine TL.val rfl rfl rfl (gives_bin rfl rfl rfl (fun w => bin_eql_t (by rw [hd18]; rfl) w)) ?_
 iterate 5 (first | refine TL.gu ?_ | refine TL.mv ?_ | refine TL.pk ?_)
 refine TL.fact (p := ∃ g, R18 = some ⟨g, 0, none⟩) (fun w1 hw => rowA hw (k := 0) rfl (by omega)) ?_
 rintro ⟨g_R18, rfl⟩
 have hi40 : 0 < dm18.length := by omega
 obtain ⟨x40, hx40⟩ : ∃ x40, dm18[0]? = some x40 := ⟨_, List.getElem?_eq_getElem hi40⟩
 have hx40e : x40 = ⟨1, 3, 2⟩ := by rw [hd18] at hx40; simpa using hx40.symm
 refine TL.val rfl rfl rfl (gives_at (v := .pointer (some ⟨g_R18, 0 + 0 * 3, none⟩)) rfl rfl rfl (fun w => at_el Tryz.underlying55 pawsz58 rfl _ _ 0 (by omega) rfl w)) ?_
 refine TL.gu ?_
 refine TL.val rfl rfl rfl (gives_loadR (off := 0 + 0 * 3) rfl rfl pawag58 pawsz58 (dm_cel.len x40) (fun w1 hw j9 u9 h9 => flat_row dm_cel hw (q := 0) rfl hx40 j9 u9 h9)) ?_
 refine TL.gu ?_
 refine TL.val rfl rfl rfl (gives_build (v := .agg #[.int .i64 1, .int .i64 3, .int .i64 2]) rfl rfl (fun w => pdibld58_57326 _ _ _ w)) ?_
 refine TL.gu ?_
 refine TL.val rfl rfl rfl (gives_bin2 (v := .bool true) rfl rfl rfl (fun w => dm_eql_is (y := ⟨1, 3, 2⟩) (by rw [hx40e]; rfl) _ _ w)) ?_
 iterate 5 (first | refine TL.gu ?_ | refine TL.mv ?_ | refine TL.pk ?_)
 have hi47 : 0 < ([rpl 0 0 1 1, rpl 1 0 2 2, rpl 2 0 3 4, rpl 3 1 1 1, rpl 4 1 2 3, rpl 5 1 3 4]).length := by simp
 obtain ⟨x47, hx47⟩ : ∃ x47, ([rpl 0 0 1 1, rpl 1 0 2 2, rpl 2 0 3 4, rpl 3 1 1 1, rpl 4 1 2 3, rpl 5 1 3 4])[0]? = some x47 := ⟨_, List.getElem?_eq_getElem hi47⟩
 have hx47v : vldRs x47 = true := by have h9 := Option.some.inj hx47; rw [← h9]; decide +kernel
 refine TL.val rfl rfl rfl (gives_at (v := .pointer (some ⟨g11, 0 + 0 * 17, none⟩)) rfl rfl rfl (fun w => at_el Tryz.underlying26 prssz47 rfl _ _ 0 (by omega) rfl w)) ?_
 refine TL.gu ?_
 refine TL.val rfl rfl rfl (gives_loadR (off := 0 + 0 * 17) rfl rfl prsag47 prssz47 (rs_cel.len x47) (fun w1 hw j9 u9 h9 => flat_row rs_cel hw (q := 2) rfl hx47 j9 u9 h9)) ?_
 refine TL.gu ?_
 refine TL.pcall1 (r := .bool true) rfl rfl rfl rfl rfl Tryz.func26 prsnm26 prsbd26 (fun w1 hw => (by have h9 := vldRs_any x47 w1; rw [hx47v] at h9; exact h9)) ?_
 refine TL.pk ?_
 refine TL.mv ?_
 refine TL.gu ?_
 refine TL.val rfl rfl rfl (pm_loadV (k := 1) (i := 0) (n := 6) (v := .agg (m.cells).toArray) rfl rfl pbdag36 pbdsz36 rfl (by show 6 ≤ 6; decide) rfl) ?_
 refine TL.gu ?_
 refine TL.pcallPm (α := {y : (Option Addr × Nat) × List Wre // IsWr m.edges.l y.2 ∧ y.2.length ≤ y.1.2 ∧ y.1.2 ≤ maxLen}) (fun x => .slice x.1.1.1 x.1.2.length x.1.1.2) (fun x => [.row (.slice x.1.1.1 x.1.2.length x.1.1.2) 54 2 x.1.2.length (flat Wre.cells x.1.2)]) rfl rfl rfl rfl rfl Tryz.func18 pawnm18 pawbd18 (fun w1 hw => wires_any m w1 ((MpR.of (hml) (by omega) hw (fun q hq => List.mem_of_mem_drop (i := 3) (by exact mps_mem (by simp) hq)))).edges ((MpR.of (hml) (by omega) hw (fun q hq => List.mem_of_mem_drop (i := 3) (by exact mps_mem (by simp) hq)))).nedges) ?_
 rintro ⟨⟨⟨R53, rc53⟩, wr53⟩, hP53, hR531, hR532⟩
 dsimp only [List.cons_append, List.nil_append]
 dsimp only at hP53 hR531 hR532 ⊢
 refine TL.gu ?_
 refine TL.val rfl rfl rfl (gives_len rfl Tryz.underlying51 rfl) ?_
 refine TL.gu ?_
 refine TL.val rfl rfl rfl (gives_bin rfl rfl rfl (fun w => bin_eql_t (by rw [hmw wr53 hP53]; rfl) w)) ?_
 refine TL.pk ?_
 refine TL.as_ ?_
 refine TL.end_ (TX.then_ (TC.ret_ ?_))
 exact ret_tmp Tryz.results10 rfl (fun w1 hw => ⟨rfl, hw.bel⟩)
def blkOf (A : Option Addr) : Nat := match A with
  | some a => a.block
  | none => 0
theorem blkOf_row {w0 : Base} {L : List Pc} {w : World} {A : Option Addr} {n c size : Nat} {e : TypeId} {xs : List Value} (h : Pm w0 L w) (hm : Pc.row (.slice A n c) e size n xs ∈ L) (hn : 0 < n) : A = some ⟨blkOf A, 0, none⟩ := by
  obtain ⟨g, hg⟩ := segA h hm hn
  rw [hg]; rfl
section
variable {m : Mp} {ms : List Mp}
theorem mps_hops (h : m ∈ ms) : Pc.row (.slice m.hops.A m.hops.l.length m.hops.c) 50 3 m.hops.l.length (flat Hpx.cells m.hops.l) ∈ mpsP ms := mps_mem h List.mem_cons_self
theorem mps_edges (h : m ∈ ms) : Pc.row (.slice m.edges.A m.edges.l.length m.edges.c) 63 4 m.edges.l.length (flat Ed.cells m.edges.l) ∈ mpsP ms := mps_mem h (List.mem_cons_of_mem _ List.mem_cons_self)
theorem mps_flh (h : m ∈ ms) {x : Hpx} (hx : x ∈ m.hops.l) : Pc.row (.slice x.fl.A x.fl.l.length x.fl.c) 3 1 x.fl.l.length (flat (ic .i64) x.fl.l) ∈ mpsP ms :=
  mps_mem h (List.mem_append_right _ (List.mem_map_of_mem (f := Sg.pc 3 1 (flat (ic .i64))) (List.mem_append_left _ (List.mem_map_of_mem (f := Hpx.fl) hx))))
theorem mps_fle (h : m ∈ ms) {x : Ed} (hx : x ∈ m.edges.l) : Pc.row (.slice x.fl.A x.fl.l.length x.fl.c) 3 1 x.fl.l.length (flat (ic .i64) x.fl.l) ∈ mpsP ms :=
  mps_mem h (List.mem_append_right _ (List.mem_map_of_mem (f := Sg.pc 3 1 (flat (ic .i64))) (List.mem_append_right _ (List.mem_map_of_mem (f := Ed.fl) hx))))
end
structure MpA (m : Mp) : Prop where
  hops : 0 < m.hops.l.length → m.hops.A = some ⟨blkOf m.hops.A, 0, none⟩
  edges : 0 < m.edges.l.length → m.edges.A = some ⟨blkOf m.edges.A, 0, none⟩
  fh : ∀ x ∈ m.hops.l, 0 < x.fl.l.length → x.fl.A = some ⟨blkOf x.fl.A, 0, none⟩
  fe : ∀ x ∈ m.edges.l, 0 < x.fl.l.length → x.fl.A = some ⟨blkOf x.fl.A, 0, none⟩
theorem MpA.of {w0 : Base} {w : World} {m : Mp} {L : List Pc} (h : Pm w0 L w) (hs : ∀ q ∈ m.pcs, q ∈ L) : MpA m := by
  have e : mpsP [m] = m.pcs := by unfold mpsP; rw [List.flatMap_cons, List.flatMap_nil, List.append_nil]
  have hs2 : ∀ q ∈ mpsP [m], q ∈ L := by rw [e]; exact hs
  have hm : m ∈ [m] := List.mem_singleton.2 rfl
  exact ⟨fun hn => blkOf_row h (hs2 _ (mps_hops hm)) hn, fun hn => blkOf_row h (hs2 _ (mps_edges hm)) hn, fun x hx hn => blkOf_row h (hs2 _ (mps_flh hm hx)) hn, fun x hx hn => blkOf_row h (hs2 _ (mps_fle hm hx)) hn⟩
set_option maxRecDepth 20000
def tabV (l : List Int) : List Value := l.map (Value.int .i64)
def tab14 : List Int := [9223372036854775807, -9223372036854775808, 1125899906842624, 1125899906842625, 65535, 65536, 255, 256, 1023, 1024, 65534, 65535, 4294967296, 4611686018427387905]
def tab3 : List Int := [17, 1, 6]
theorem tab_at (l : List Int) (x : Nat) (h : x < l.length) : ∃ v, (tabV l)[0 + x * 1]? = some (.int .i64 v) := ⟨l[x], by rw [Nat.zero_add, Nat.mul_one]; simp [tabV, h]⟩
theorem jdrbs76_14_77721 (a0_0 : Int) (a1_0 : Int) (a2_0 : Int) (a3_0 : Int) (a4_0 : Int) (a5_0 : Int) (a6_0 : Int) (a7_0 : Int) (a8_0 : Int) (a9_0 : Int) (a10_0 : Int) (a11_0 : Int) (a12_0 : Int) (a13_0 : Int) (w : World) : (Instr.buildSlice 48 14 #[(0, .int .i64 a0_0), (1, .int .i64 a1_0), (2, .int .i64 a2_0), (3, .int .i64 a3_0), (4, .int .i64 a4_0), (5, .int .i64 a5_0), (6, .int .i64 a6_0), (7, .int .i64 a7_0), (8, .int .i64 a8_0), (9, .int .i64 a9_0), (10, .int .i64 a10_0), (11, .int .i64 a11_0), (12, .int .i64 a12_0), (13, .int .i64 a13_0)]).run Tryz.prog w = .ok (.slice (some ⟨w.heap.size, 0, none⟩) 14 14) (w.alloc (.cells [.int .i64 a0_0, .int .i64 a1_0, .int .i64 a2_0, .int .i64 a3_0, .int .i64 a4_0, .int .i64 a5_0, .int .i64 a6_0, .int .i64 a7_0, .int .i64 a8_0, .int .i64 a9_0, .int .i64 a10_0, .int .i64 a11_0, .int .i64 a12_0, .int .i64 a13_0].toArray 3)) := by kernel_rfl
theorem jdrnm40 : (Tryz.f112.name == "runtime.NumGoroutine") = false := by decide
theorem jdrbd40 : Tryz.f112.body.isNone = false := rfl
theorem jdrnm41 : (Tryz.f113.name == "runtime.NumGoroutine") = false := by decide
theorem jdrbd41 : Tryz.f113.body.isNone = false := rfl
theorem jdrbld25_14255 (a0_0 : Int) (a1_0 : Int) (a2_0 : Int) (a3_0 : Int) (a4_0 : Int) (a5_0 : Int) (w : World) : (Instr.build 45 #[(0, .int .u32 a0_0), (1, .int .i64 a1_0), (2, .int .i64 a2_0), (3, .int .i64 a3_0), (4, .int .i64 a4_0), (5, .int .i64 a5_0)]).run Tryz.prog w = .ok (.agg #[.int .u32 a0_0, .int .i64 a1_0, .int .i64 a2_0, .int .i64 a3_0, .int .i64 a4_0, .int .i64 a5_0]) w := by kernel_rfl
theorem jdrnm42 : (Tryz.f114.name == "runtime.NumGoroutine") = false := by decide
theorem jdrbd42 : Tryz.f114.body.isNone = false := rfl
theorem int_cod (cb : Nat) (w : World) (hC : Cod w cb) :
  Calls Tryz.prog 114 #[.pointer (some ⟨cb, 0, none⟩)] w fun e w' => ∃ x : Int, e = .returned (.int .i64 x) ∧ Codr (fun w => Cod w cb) cb w [] w' := by
 refine begin_ (vs := [.pointer (some ⟨cb, 0, none⟩)]) (I := Pm ⟨w, cb⟩ (.abs cb (fun w => Cod w cb) :: oths cb w)) Tryz.func114 rfl rfl rfl ?_ (Pm.codes hC (cod_cells hC) (cod_stab cb))
 refine TC.seq_ (TC.region ?_)
 refine TL.as_ ?_
 refine TL.end_ (TX.then_ (TC.seq_ (TC.seq_ (TC.region ?_))))
 refine TL.mv ?_
 refine TL.pcallCod (k := 0) (α := {x : Nat // x ≤ 65535 ∧ (1 ≤ (10 : Int) → (x : Int) < 10)}) (fun y => .int .i64 (y.1 : Int)) (fun y => []) rfl rfl rfl rfl rfl Tryz.func25 ddrnm25 ddrbd25 rfl (fun w1 hw hC1 => next_cod cb w1 10 hC1) ?_
 rintro ⟨x4, hx41, hx42⟩
 dsimp only [List.cons_append, List.nil_append] at hx41 hx42 ⊢
 replace hx42 := hx42 (by omega)
 refine TL.end_ (TX.then_ (TC.block (TC.seq_ (TC.region ?_))))
 refine TL.vsplit rfl rfl rfl (gives_bin rfl rfl rfl (fun w => bin_eql w)) (fun h6 => ?_) (fun h6 => ?_)
 ·have q6 := of_decide_eq_true h6
  refine TL.as_ ?_
  refine TL.end_ (TX.then_ (TC.condT rfl (TC.seq_ (TC.region ?_))))
  refine TL.mv ?_
  refine TL.pcallCod (k := 0) (α := {x : Nat // x ≤ 65535 ∧ (1 ≤ (3 : Int) → (x : Int) < 3)}) (fun y => .int .i64 (y.1 : Int)) (fun y => []) rfl rfl rfl rfl rfl Tryz.func25 ddrnm25 ddrbd25 rfl (fun w1 hw hC1 => next_cod cb w1 3 hC1) ?_
  rintro ⟨x8, hx81, hx82⟩
  dsimp only [List.cons_append, List.nil_append] at hx81 hx82 ⊢
  replace hx82 := hx82 (by omega)
  refine TL.val rfl rfl rfl (gives_bin rfl rfl rfl (fun w => bin_sub_ (r := (-1) - ((x8 : Nat) : Int)) (by simp only [IntKind.wrap_i64]; omega) w)) ?_
  refine TL.as_ ?_
  refine TL.end_ (TX.then_ (TC.ret_ (TX.in_ret (TX.then_ret ?_))))
  exact ret_tmp Tryz.results114 rfl (fun w1 hw => ⟨(-1) - ((x8 : Nat) : Int), rfl, Pm.codr [] (hw) rfl⟩)
 ·have q6 := of_decide_eq_false h6
  refine TL.as_ ?_
  refine TL.end_ (TX.then_ (TC.condF rfl (TC.seq_ (TC.region ?_))))
  refine TL.vsplit rfl rfl rfl (gives_bin rfl rfl rfl (fun w => bin_eql w)) (fun h11 => ?_) (fun h11 => ?_)
  ·have q11 := of_decide_eq_true h11
   refine TL.as_ ?_
   refine TL.end_ (TX.then_ (TC.condT rfl (TC.seq_ (TC.region ?_))))
   refine TL.prowS (e := 3) (size := 1) (cs := tabV tab14) rfl rfl rfl rfl rfl (fun w => jdrbs76_14_77721 _ _ _ _ _ _ _ _ _ _ _ _ _ _ w) (by decide) rfl (fun g12 => ?_)
   refine TL.mv ?_
   refine TL.pcallCod (k := 1) (α := {x : Nat // x ≤ 65535 ∧ (1 ≤ (14 : Int) → (x : Int) < 14)}) (fun y => .int .i64 (y.1 : Int)) (fun y => []) rfl rfl rfl rfl rfl Tryz.func25 ddrnm25 ddrbd25 rfl (fun w1 hw hC1 => next_cod cb w1 14 hC1) ?_
   rintro ⟨x14, hx141, hx142⟩
   dsimp only [List.cons_append, List.nil_append] at hx141 hx142 ⊢
   replace hx142 := hx142 (by omega)
   refine TL.val rfl rfl rfl (gives_at (v := .pointer (some ⟨g12, 0 + x14 * 1, none⟩)) rfl rfl rfl (fun w => at_el Tryz.underlying48 (fun w => rfl) rfl 14 14 x14 (by omega) rfl w)) ?_
   obtain ⟨t16, ht16⟩ := tab_at tab14 x14 (show x14 < tab14.length by simpa [tab14] using (by omega : x14 < 14))
   refine TL.val rfl rfl rfl (pm_loadRow (k := 0) (v := .int .i64 t16) rfl rfl (fun w => rfl) rfl ht16) ?_
   refine TL.as_ ?_
   refine TL.end_ (TX.then_ (TC.ret_ (TX.in_ret (TX.then_ret ?_))))
   exact ret_tmp Tryz.results114 rfl (fun w1 hw => ⟨t16, rfl, Pm.codr [] (hw.sel (.cons _ (.cons_cons _ (List.Sublist.refl _)))) rfl⟩)
  ·have q11 := of_decide_eq_false h11
   refine TL.as_ ?_
   refine TL.end_ (TX.then_ (TC.condF rfl (TC.seq_ (TC.region ?_))))
   refine TL.vsplit rfl rfl rfl (gives_bin rfl rfl rfl (fun w => bin_eql w)) (fun h18 => ?_) (fun h18 => ?_)
   ·have q18 := of_decide_eq_true h18
    refine TL.as_ ?_
    refine TL.end_ (TX.then_ (TC.condT rfl (TC.seq_ (TC.region ?_))))
    refine TL.mv ?_
    refine TL.pcallCod (k := 0) (α := {x : Nat // x ≤ 65535 ∧ (1 ≤ (256 : Int) → (x : Int) < 256)}) (fun y => .int .i64 (y.1 : Int)) (fun y => []) rfl rfl rfl rfl rfl Tryz.func25 ddrnm25 ddrbd25 rfl (fun w1 hw hC1 => next_cod cb w1 256 hC1) ?_
    rintro ⟨x20, hx201, hx202⟩
    dsimp only [List.cons_append, List.nil_append] at hx201 hx202 ⊢
    replace hx202 := hx202 (by omega)
    refine TL.val rfl rfl rfl (gives_bin rfl rfl rfl (fun w => bin_mul_ (r := 256 * ((x20 : Nat) : Int)) (by simp only [IntKind.wrap_i64]; omega) w)) ?_
    refine TL.mv ?_
    refine TL.pcallCod (k := 0) (α := {x : Nat // x ≤ 65535 ∧ (1 ≤ (256 : Int) → (x : Int) < 256)}) (fun y => .int .i64 (y.1 : Int)) (fun y => []) rfl rfl rfl rfl rfl Tryz.func25 ddrnm25 ddrbd25 rfl (fun w1 hw hC1 => next_cod cb w1 256 hC1) ?_
    rintro ⟨x23, hx231, hx232⟩
    dsimp only [List.cons_append, List.nil_append] at hx231 hx232 ⊢
    replace hx232 := hx232 (by omega)
    refine TL.val rfl rfl rfl (gives_bin rfl rfl rfl (fun w => bin_add_ (r := (256 * ((x20 : Nat) : Int)) + ((x23 : Nat) : Int)) (by simp only [IntKind.wrap_i64]; omega) w)) ?_
    refine TL.as_ ?_
    refine TL.end_ (TX.then_ (TC.ret_ (TX.in_ret (TX.then_ret ?_))))
    exact ret_tmp Tryz.results114 rfl (fun w1 hw => ⟨(256 * ((x20 : Nat) : Int)) + ((x23 : Nat) : Int), rfl, Pm.codr [] (hw) rfl⟩)
   ·have q18 := of_decide_eq_false h18
    refine TL.as_ ?_
    refine TL.end_ (TX.then_ (TC.condF rfl (TC.skip_ (TX.in_normal (TX.then_ (TC.seq_ (TC.region ?_)))))))
    refine TL.mv ?_
    refine TL.pcallCod (k := 0) (α := {x : Nat // x ≤ 65535 ∧ (1 ≤ (40 : Int) → (x : Int) < 40)}) (fun y => .int .i64 (y.1 : Int)) (fun y => []) rfl rfl rfl rfl rfl Tryz.func25 ddrnm25 ddrbd25 rfl (fun w1 hw hC1 => next_cod cb w1 40 hC1) ?_
    rintro ⟨x26, hx261, hx262⟩
    dsimp only [List.cons_append, List.nil_append] at hx261 hx262 ⊢
    replace hx262 := hx262 (by omega)
    refine TL.as_ ?_
    refine TL.end_ (TX.then_ (TC.ret_ ?_))
    exact ret_tmp Tryz.results114 rfl (fun w1 hw => ⟨((x26 : Nat) : Int), rfl, Pm.codr [] (hw) rfl⟩)
theorem proto_cod (cb : Nat) (w : World) (hC : Cod w cb) :
  Calls Tryz.prog 113 #[.pointer (some ⟨cb, 0, none⟩)] w fun e w' => ∃ x : Int, e = .returned (.int .i64 x) ∧ Codr (fun w => Cod w cb) cb w [] w' := by
 refine begin_ (vs := [.pointer (some ⟨cb, 0, none⟩)]) (I := Pm ⟨w, cb⟩ (.abs cb (fun w => Cod w cb) :: oths cb w)) Tryz.func113 rfl rfl rfl ?_ (Pm.codes hC (cod_cells hC) (cod_stab cb))
 refine TC.seq_ (TC.region ?_)
 refine TL.as_ ?_
 refine TL.end_ (TX.then_ (TC.seq_ (TC.region ?_)))
 refine TL.prowS (e := 3) (size := 1) (cs := tabV tab3) rfl rfl rfl rfl rfl (fun w => pcmbs48_3_44640 _ _ _ w) (by decide) rfl (fun g3 => ?_)
 refine TL.mv ?_
 refine TL.pcallCod (k := 1) (α := {x : Nat // x ≤ 65535 ∧ (1 ≤ (3 : Int) → (x : Int) < 3)}) (fun y => .int .i64 (y.1 : Int)) (fun y => []) rfl rfl rfl rfl rfl Tryz.func25 ddrnm25 ddrbd25 rfl (fun w1 hw hC1 => next_cod cb w1 3 hC1) ?_
 rintro ⟨x5, hx51, hx52⟩
 dsimp only [List.cons_append, List.nil_append] at hx51 hx52 ⊢
 replace hx52 := hx52 (by omega)
 refine TL.val rfl rfl rfl (gives_at (v := .pointer (some ⟨g3, 0 + x5 * 1, none⟩)) rfl rfl rfl (fun w => at_el Tryz.underlying48 (fun w => rfl) rfl 3 3 x5 (by omega) rfl w)) ?_
 obtain ⟨t7, ht7⟩ := tab_at tab3 x5 (show x5 < tab3.length by simpa [tab3] using (by omega : x5 < 3))
 refine TL.val rfl rfl rfl (pm_loadRow (k := 0) (v := .int .i64 t7) rfl rfl (fun w => rfl) rfl ht7) ?_
 refine TL.as_ ?_
 refine TL.end_ (TX.then_ (TC.ret_ ?_))
 exact ret_tmp Tryz.results113 rfl (fun w1 hw => ⟨t7, rfl, Pm.codr [] (hw.sel (.cons _ (.cons_cons _ (List.Sublist.refl _)))) rfl⟩)
theorem addr_cod (cb : Nat) (w : World) (hC : Cod w cb) :
  Calls Tryz.prog 112 #[.pointer (some ⟨cb, 0, none⟩)] w fun e w' => ∃ x : {x : Int // 0 ≤ x ∧ x ≤ 4294967295}, e = .returned (.int .u32 x.1) ∧ Codr (fun w => Cod w cb) cb w [] w' := by
 refine begin_ (vs := [.pointer (some ⟨cb, 0, none⟩)]) (I := Pm ⟨w, cb⟩ (.abs cb (fun w => Cod w cb) :: oths cb w)) Tryz.func112 rfl rfl rfl ?_ (Pm.codes hC (cod_cells hC) (cod_stab cb))
 refine TC.seq_ (TC.region ?_)
 refine TL.as_ ?_
 refine TL.end_ (TX.then_ (TC.seq_ (TC.seq_ (TC.region ?_))))
 refine TL.mv ?_
 refine TL.pcallCod (k := 0) (α := {x : Nat // x ≤ 65535 ∧ (1 ≤ (12 : Int) → (x : Int) < 12)}) (fun y => .int .i64 (y.1 : Int)) (fun y => []) rfl rfl rfl rfl rfl Tryz.func25 ddrnm25 ddrbd25 rfl (fun w1 hw hC1 => next_cod cb w1 12 hC1) ?_
 rintro ⟨x4, hx41, hx42⟩
 dsimp only [List.cons_append, List.nil_append] at hx41 hx42 ⊢
 replace hx42 := hx42 (by omega)
 refine TL.vsplit rfl rfl rfl (gives_bin rfl rfl rfl (fun w => bin_eql w)) (fun h5 => ?_) (fun h5 => ?_)
 ·have q5 := of_decide_eq_true h5
  refine TL.end_ (TX.then_ (TC.condT rfl (TC.seq_ (TC.region ?_))))
  refine TL.mv ?_
  refine TL.pcallCod (k := 0) (α := {x : Nat // x ≤ 65535 ∧ (1 ≤ (65536 : Int) → (x : Int) < 65536)}) (fun y => .int .i64 (y.1 : Int)) (fun y => []) rfl rfl rfl rfl rfl Tryz.func25 ddrnm25 ddrbd25 rfl (fun w1 hw hC1 => next_cod cb w1 65536 hC1) ?_
  rintro ⟨x7, hx71, hx72⟩
  dsimp only [List.cons_append, List.nil_append] at hx71 hx72 ⊢
  replace hx72 := hx72 (by omega)
  refine TL.val rfl rfl rfl (gives_bin (v := .int .i64 (((x7 : Nat) : Int) * 65536)) rfl rfl rfl (fun w => by rw [bin_shl 65536 (by decide) (by decide) (by decide) w]; congr 2; simp only [IntKind.wrap_i64]; omega)) ?_
  refine TL.mv ?_
  refine TL.pcallCod (k := 0) (α := {x : Nat // x ≤ 65535 ∧ (1 ≤ (65536 : Int) → (x : Int) < 65536)}) (fun y => .int .i64 (y.1 : Int)) (fun y => []) rfl rfl rfl rfl rfl Tryz.func25 ddrnm25 ddrbd25 rfl (fun w1 hw hC1 => next_cod cb w1 65536 hC1) ?_
  rintro ⟨x10, hx101, hx102⟩
  dsimp only [List.cons_append, List.nil_append] at hx101 hx102 ⊢
  replace hx102 := hx102 (by omega)
  refine TL.val rfl rfl rfl (gives_bin rfl rfl rfl (fun w => bin_add_ (r := (((x7 : Nat) : Int) * 65536) + ((x10 : Nat) : Int)) (by simp only [IntKind.wrap_i64]; omega) w)) ?_
  refine TL.val rfl rfl rfl (gives_conv rfl rfl (fun w => conv_fit (k := .i64) Tryz.underlying30 Tryz.underlying3 (by simp only [IntKind.wrap_u32]; omega) w)) ?_
  refine TL.as_ ?_
  refine TL.end_ (TX.then_ (TC.ret_ (TX.then_ret ?_)))
  exact ret_tmp Tryz.results112 rfl (fun w1 hw => ⟨⟨(((x7 : Nat) : Int) * 65536) + ((x10 : Nat) : Int), by omega, by omega⟩, rfl, Pm.codr [] (hw) rfl⟩)
 ·have q5 := of_decide_eq_false h5
  refine TL.end_ (TX.then_ (TC.condF rfl (TC.skip_ (TX.then_ (TC.seq_ (TC.region ?_))))))
  refine TL.mv ?_
  refine TL.pcallCod (k := 0) (α := {x : Nat // x ≤ 65535 ∧ (1 ≤ (3 : Int) → (x : Int) < 3)}) (fun y => .int .i64 (y.1 : Int)) (fun y => []) rfl rfl rfl rfl rfl Tryz.func25 ddrnm25 ddrbd25 rfl (fun w1 hw hC1 => next_cod cb w1 3 hC1) ?_
  rintro ⟨x14, hx141, hx142⟩
  dsimp only [List.cons_append, List.nil_append] at hx141 hx142 ⊢
  replace hx142 := hx142 (by omega)
  refine TL.val rfl rfl rfl (gives_bin (v := .int .i64 (((x14 : Nat) : Int) * 65536)) rfl rfl rfl (fun w => by rw [bin_shl 65536 (by decide) (by decide) (by decide) w]; congr 2; simp only [IntKind.wrap_i64]; omega)) ?_
  refine TL.val rfl rfl rfl (gives_bin rfl rfl rfl (fun w => bin_add_ (r := 167772160 + (((x14 : Nat) : Int) * 65536)) (by simp only [IntKind.wrap_i64]; omega) w)) ?_
  refine TL.mv ?_
  refine TL.pcallCod (k := 0) (α := {x : Nat // x ≤ 65535 ∧ (1 ≤ (8 : Int) → (x : Int) < 8)}) (fun y => .int .i64 (y.1 : Int)) (fun y => []) rfl rfl rfl rfl rfl Tryz.func25 ddrnm25 ddrbd25 rfl (fun w1 hw hC1 => next_cod cb w1 8 hC1) ?_
  rintro ⟨x18, hx181, hx182⟩
  dsimp only [List.cons_append, List.nil_append] at hx181 hx182 ⊢
  replace hx182 := hx182 (by omega)
  refine TL.val rfl rfl rfl (gives_bin rfl rfl rfl (fun w => bin_add_ (r := (167772160 + (((x14 : Nat) : Int) * 65536)) + ((x18 : Nat) : Int)) (by simp only [IntKind.wrap_i64]; omega) w)) ?_
  refine TL.val rfl rfl rfl (gives_conv rfl rfl (fun w => conv_fit (k := .i64) Tryz.underlying30 Tryz.underlying3 (by simp only [IntKind.wrap_u32]; omega) w)) ?_
  refine TL.as_ ?_
  refine TL.end_ (TX.then_ (TC.ret_ ?_))
  exact ret_tmp Tryz.results112 rfl (fun w1 hw => ⟨⟨(167772160 + (((x14 : Nat) : Int) * 65536)) + ((x18 : Nat) : Int), by omega, by omega⟩, rfl, Pm.codr [] (hw) rfl⟩)
set_option maxHeartbeats 4000000 in
theorem result_cod (cb : Nat) (w : World) (hC : Cod w cb) :
  Calls Tryz.prog 76 #[.pointer (some ⟨cb, 0, none⟩)] w fun e w' => ∃ x : {x : Rs // x.Ok}, e = .returned (.agg x.1.cells.toArray) ∧ Codr (fun w => Cod w cb) cb w [] w' := by
 refine begin_ (vs := [.pointer (some ⟨cb, 0, none⟩)]) (I := Pm ⟨w, cb⟩ (.abs cb (fun w => Cod w cb) :: oths cb w)) Tryz.func76 rfl rfl rfl ?_ (Pm.codes hC (cod_cells hC) (cod_stab cb))
 refine TC.seq_ (TC.region ?_)
 refine TL.pnew rfl rfl rfl (exec_alloc (cs := Rs.zero.cells) rfl pcpzv47 rfl) (fun g2 => ?_)
 refine TL.end_ (TX.then_ (TC.seq_ (TC.region ?_)))
 refine TL.mv ?_
 refine TL.pcallCod (k := 1) (α := {x : Nat // x ≤ 65535 ∧ (1 ≤ (2 : Int) → (x : Int) < 2)}) (fun y => .int .i64 (y.1 : Int)) (fun y => []) rfl rfl rfl rfl rfl Tryz.func25 ddrnm25 ddrbd25 rfl (fun w1 hw hC1 => next_cod cb w1 2 hC1) ?_
 rintro ⟨x5, hx51, hx52⟩
 dsimp only [List.cons_append, List.nil_append] at hx51 hx52 ⊢
 replace hx52 := hx52 (by omega)
 refine TL.mv ?_
 refine TL.pcallCod (k := 1) (α := {x : Nat // x ≤ 65535 ∧ (1 ≤ (2 : Int) → (x : Int) < 2)}) (fun y => .int .i64 (y.1 : Int)) (fun y => []) rfl rfl rfl rfl rfl Tryz.func25 ddrnm25 ddrbd25 rfl (fun w1 hw hC1 => next_cod cb w1 2 hC1) ?_
 rintro ⟨x7, hx71, hx72⟩
 dsimp only [List.cons_append, List.nil_append] at hx71 hx72 ⊢
 replace hx72 := hx72 (by omega)
 refine TL.mv ?_
 refine TL.pcallCod (k := 1) (α := {x : Nat // x ≤ 65535 ∧ (1 ≤ (4 : Int) → (x : Int) < 4)}) (fun y => .int .i64 (y.1 : Int)) (fun y => []) rfl rfl rfl rfl rfl Tryz.func25 ddrnm25 ddrbd25 rfl (fun w1 hw hC1 => next_cod cb w1 4 hC1) ?_
 rintro ⟨x9, hx91, hx92⟩
 dsimp only [List.cons_append, List.nil_append] at hx91 hx92 ⊢
 replace hx92 := hx92 (by omega)
 refine TL.mv ?_
 refine TL.pcallCod (k := 1) (α := {x : Nat // x ≤ 65535 ∧ (1 ≤ (50 : Int) → (x : Int) < 50)}) (fun y => .int .i64 (y.1 : Int)) (fun y => []) rfl rfl rfl rfl rfl Tryz.func25 ddrnm25 ddrbd25 rfl (fun w1 hw hC1 => next_cod cb w1 50 hC1) ?_
 rintro ⟨x11, hx111, hx112⟩
 dsimp only [List.cons_append, List.nil_append] at hx111 hx112 ⊢
 replace hx112 := hx112 (by omega)
 refine TL.mv ?_
 refine TL.pcallCod (k := 1) (α := {x : Int // 0 ≤ x ∧ x ≤ 4294967295}) (fun y => .int .u32 y.1) (fun y => []) rfl rfl rfl rfl rfl Tryz.func112 jdrnm40 jdrbd40 rfl (fun w1 hw hC1 => addr_cod cb w1 hC1) ?_
 rintro ⟨z13, hz131, hz132⟩
 dsimp only [List.cons_append, List.nil_append] at hz131 hz132 ⊢
 refine TL.mv ?_
 refine TL.pcallCod (k := 1) (α := Int) (fun y => .int .i64 y) (fun y => []) rfl rfl rfl rfl rfl Tryz.func113 jdrnm41 jdrbd41 rfl (fun w1 hw hC1 => proto_cod cb w1 hC1) ?_
 rintro z15
 dsimp only [List.cons_append, List.nil_append]
 refine TL.mv ?_
 refine TL.pcallCod (k := 1) (α := {x : Nat // x ≤ 65535 ∧ (1 ≤ (3 : Int) → (x : Int) < 3)}) (fun y => .int .i64 (y.1 : Int)) (fun y => []) rfl rfl rfl rfl rfl Tryz.func25 ddrnm25 ddrbd25 rfl (fun w1 hw hC1 => next_cod cb w1 3 hC1) ?_
 rintro ⟨x17, hx171, hx172⟩
 dsimp only [List.cons_append, List.nil_append] at hx171 hx172 ⊢
 replace hx172 := hx172 (by omega)
 refine TL.mv ?_
 refine TL.pcallCod (k := 1) (α := {x : Nat // x ≤ 65535 ∧ (1 ≤ (4 : Int) → (x : Int) < 4)}) (fun y => .int .i64 (y.1 : Int)) (fun y => []) rfl rfl rfl rfl rfl Tryz.func25 ddrnm25 ddrbd25 rfl (fun w1 hw hC1 => next_cod cb w1 4 hC1) ?_
 rintro ⟨x19, hx191, hx192⟩
 dsimp only [List.cons_append, List.nil_append] at hx191 hx192 ⊢
 replace hx192 := hx192 (by omega)
 refine TL.val rfl rfl rfl (gives_bin rfl rfl rfl (fun w => bin_add_ (r := 1 + ((x19 : Nat) : Int)) (by simp only [IntKind.wrap_i64]; omega) w)) ?_
 refine TL.val rfl rfl rfl (gives_build (v := .agg #[.int .i64 ((x5 : Nat) : Int), .int .i64 ((x7 : Nat) : Int), .int .i64 ((x9 : Nat) : Int), .int .i64 ((x11 : Nat) : Int), .int .u32 z13, .int .i64 z15, .int .i64 ((x17 : Nat) : Int), .int .i64 (1 + ((x19 : Nat) : Int)), .bool false, .bool false, .int .i64 0, .int .u32 0, .int .i64 0, .int .i64 0, .int .i64 0, .int .i64 0, .int .i64 0]) rfl rfl (fun w => drebld47_74773 _ _ _ _ _ _ _ _ w)) ?_
 refine TL.pnew rfl rfl rfl (exec_alloc (cs := Rs.zero.cells) rfl pcpzv47 rfl) (fun g3 => ?_)
 refine TL.pstore (k := 0) (vs := [.int .i64 ((x5 : Nat) : Int), .int .i64 ((x7 : Nat) : Int), .int .i64 ((x9 : Nat) : Int), .int .i64 ((x11 : Nat) : Int), .int .u32 z13, .int .i64 z15, .int .i64 ((x17 : Nat) : Int), .int .i64 (1 + ((x19 : Nat) : Int)), .bool false, .bool false, .int .i64 0, .int .u32 0, .int .i64 0, .int .i64 0, .int .i64 0, .int .i64 0, .int .i64 0]) rfl rfl rfl rfl rfl rfl rfl prssz47 dreone_i64i64i64i64u32i64i64i64bbi64u32i64i64i64i64i64 (by show 17 ≤ 17; decide) rfl ?_
 refine TL.end_ (TX.then_ (TC.seq_ ?_))
 refine TC.held (ls := #[Ff,Ff,Ff,Ff,Ff,Ff,Ff]) (fun w1 => ∃ b : Int, Pm ⟨w, cb⟩ ([.blk g3 47 [.int .i64 ((x5 : Nat) : Int), .int .i64 ((x7 : Nat) : Int), .int .i64 ((x9 : Nat) : Int), .int .i64 ((x11 : Nat) : Int), .int .u32 z13, .int .i64 z15, .int .i64 ((x17 : Nat) : Int), .int .i64 (1 + ((x19 : Nat) : Int)), .bool false, .bool false, .int .i64 b, .int .u32 0, .int .i64 0, .int .i64 0, .int .i64 0, .int .i64 0, .int .i64 0], .blk g2 47 Rs.zero.cells, .abs cb (fun w => Cod w cb)] ++ oths cb w) w1) (by kernel_rfl) rfl rfl (fun w hw => hw.drawn _) ?_
 refine TH.tk (listed' := #[Tt,Ff,Ff,Ff,Ff,Ff,Ff]) 0 rfl rfl rfl (gives_field (v := .pointer (some ⟨g3, 3, none⟩)) rfl rfl (fun w => prsfld47_3 _ _ w)) (fun w1 hw => ⟨_, hw⟩) ?_
 refine TH.tk (listed' := #[Tt,Tt,Ff,Ff,Ff,Ff,Ff]) 1 rfl rfl rfl (gives_load (v := .int .i64 ((x11 : Nat) : Int)) rfl rfl pcmag3 (fun w1 hw => by obtain ⟨b, hw⟩ := hw; exact (hw.cell (k := 0) rfl 3).trans rfl)) (fun w1 hw => ⟨_, hw⟩) ?_
 refine TH.tk (listed' := #[Tt,Tt,Tt,Ff,Ff,Ff,Ff]) 2 rfl rfl rfl (gives_move rfl rfl) (fun w1 hw => ⟨_, hw⟩) ?_
 refine TH.only' (listed' := #[Tt,Tt,Tt,Tt,Ff,Ff,Ff]) 3 rfl (by kernel_rfl) rfl ?_
 refine TL.pcallCod (k := 2) (α := {x : Nat // x ≤ 65535 ∧ (1 ≤ (30 : Int) → (x : Int) < 30)}) (fun y => .int .i64 (y.1 : Int)) (fun y => []) rfl rfl rfl rfl rfl Tryz.func25 ddrnm25 ddrbd25 rfl (fun w1 hw hC1 => next_cod cb w1 30 hC1) ?_
 rintro ⟨x25, hx251, hx252⟩
 dsimp only [List.cons_append, List.nil_append] at hx251 hx252 ⊢
 replace hx252 := hx252 (by omega)
 refine TL.end_ ?_
 refine TX.held (fun w1 hw => ⟨_, hw⟩) ?_
 refine TH.tk (listed' := #[Tt,Tt,Tt,Tt,Tt,Ff,Ff]) 4 rfl rfl rfl (gives_bin rfl rfl rfl (fun w => bin_add_ (r := ((x11 : Nat) : Int) + ((x25 : Nat) : Int)) (by simp only [IntKind.wrap_i64]; omega) w)) (fun w1 hw => ⟨_, hw⟩) ?_
 refine TH.tk (listed' := #[Tt,Tt,Tt,Tt,Tt,Tt,Ff]) 5 rfl rfl rfl (gives_field (v := .pointer (some ⟨g3, 10, none⟩)) rfl rfl (fun w => prsfld47_10 _ _ w)) (fun w1 hw => ⟨_, hw⟩) ?_
 refine TH.only' (listed' := #[Tt,Tt,Tt,Tt,Tt,Tt,Tt]) 6 rfl (by kernel_rfl) rfl ?_
 refine TL.pstore (k := 0) (vs := [.int .i64 (((x11 : Nat) : Int) + ((x25 : Nat) : Int))]) rfl rfl rfl rfl rfl rfl rfl pcmsz3 dreone_i64 (by show 11 ≤ 17; decide) rfl ?_
 refine TL.end_ ?_
 refine TX.held (fun w1 hw => ⟨_, hw⟩) ?_
 refine TH.done (by kernel_rfl) ?_
 refine TX.then_ ?_
 refine TC.join (α := {r : Rs // r.Ok}) (fun y => [(0, .pointer (some ⟨cb, 0, none⟩)), (2, .pointer (some ⟨g2, 0, none⟩)), (3, .pointer (some ⟨g3, 0, none⟩))]) (fun y => Pm ⟨w, cb⟩ ([.blk g3 47 y.1.cells, .blk g2 47 Rs.zero.cells, .abs cb (fun w => Cod w cb)] ++ oths cb w)) ?_ ?_
 ·refine TC.seq_ (TC.region ?_)
  refine TL.mv ?_
  refine TL.pcallCod (k := 2) (α := {x : Nat // x ≤ 65535 ∧ (1 ≤ (3 : Int) → (x : Int) < 3)}) (fun y => .int .i64 (y.1 : Int)) (fun y => []) rfl rfl rfl rfl rfl Tryz.func25 ddrnm25 ddrbd25 rfl (fun w1 hw hC1 => next_cod cb w1 3 hC1) ?_
  rintro ⟨x29, hx291, hx292⟩
  dsimp only [List.cons_append, List.nil_append] at hx291 hx292 ⊢
  replace hx292 := hx292 (by omega)
  refine TL.vsplit rfl rfl rfl (gives_bin rfl rfl rfl (fun w => bin_gtr w)) (fun h30 => ?_) (fun h30 => ?_)
  ·have q30 := of_decide_eq_true h30
   refine TL.end_ (TX.then_ (TC.condT rfl (TC.seq_ (TC.region ?_))))
   refine TL.mv ?_
   refine TL.pcallCod (k := 2) (α := {x : Nat // x ≤ 65535 ∧ (1 ≤ (6 : Int) → (x : Int) < 6)}) (fun y => .int .i64 (y.1 : Int)) (fun y => []) rfl rfl rfl rfl rfl Tryz.func25 ddrnm25 ddrbd25 rfl (fun w1 hw hC1 => next_cod cb w1 6 hC1) ?_
   rintro ⟨x32, hx321, hx322⟩
   dsimp only [List.cons_append, List.nil_append] at hx321 hx322 ⊢
   replace hx322 := hx322 (by omega)
   refine TL.vsplit rfl rfl rfl (gives_bin rfl rfl rfl (fun w => bin_eql w)) (fun h33 => ?_) (fun h33 => ?_)
   ·have q33 := of_decide_eq_true h33
    refine TL.val rfl rfl rfl (gives_field (v := .pointer (some ⟨g3, 8, none⟩)) rfl rfl (fun w => prsfld47_8 _ _ w)) ?_
    refine TL.pstore (k := 0) (vs := [.bool true]) rfl rfl rfl rfl rfl rfl rfl dresz4 dreone_b (by show 9 ≤ 17; decide) rfl ?_
    refine TL.val rfl rfl rfl (gives_field (v := .pointer (some ⟨g3, 9, none⟩)) rfl rfl (fun w => prsfld47_9 _ _ w)) ?_
    refine TL.pstore (k := 0) (vs := [.bool true]) rfl rfl rfl rfl rfl rfl rfl dresz4 dreone_b (by show 10 ≤ 17; decide) rfl ?_
    refine TL.end_ (TX.then_ (TC.region ?_))
    refine TL.mv ?_
    refine TL.pcallCod (k := 2) (α := {x : Int // 0 ≤ x ∧ x ≤ 4294967295}) (fun y => .int .u32 y.1) (fun y => []) rfl rfl rfl rfl rfl Tryz.func112 jdrnm40 jdrbd40 rfl (fun w1 hw hC1 => addr_cod cb w1 hC1) ?_
    rintro ⟨z37, hz371, hz372⟩
    dsimp only [List.cons_append, List.nil_append] at hz371 hz372 ⊢
    refine TL.mv ?_
    refine TL.pcallCod (k := 2) (α := {x : Nat // x ≤ 65535 ∧ (1 ≤ (5 : Int) → (x : Int) < 5)}) (fun y => .int .i64 (y.1 : Int)) (fun y => []) rfl rfl rfl rfl rfl Tryz.func25 ddrnm25 ddrbd25 rfl (fun w1 hw hC1 => next_cod cb w1 5 hC1) ?_
    rintro ⟨x39, hx391, hx392⟩
    dsimp only [List.cons_append, List.nil_append] at hx391 hx392 ⊢
    replace hx392 := hx392 (by omega)
    refine TL.val rfl rfl rfl (gives_bin rfl rfl rfl (fun w => bin_add_ (r := 1 + ((x39 : Nat) : Int)) (by simp only [IntKind.wrap_i64]; omega) w)) ?_
    refine TL.mv ?_
    refine TL.pcallCod (k := 2) (α := {x : Nat // x ≤ 65535 ∧ (1 ≤ (4 : Int) → (x : Int) < 4)}) (fun y => .int .i64 (y.1 : Int)) (fun y => []) rfl rfl rfl rfl rfl Tryz.func25 ddrnm25 ddrbd25 rfl (fun w1 hw hC1 => next_cod cb w1 4 hC1) ?_
    rintro ⟨x42, hx421, hx422⟩
    dsimp only [List.cons_append, List.nil_append] at hx421 hx422 ⊢
    replace hx422 := hx422 (by omega)
    refine TL.mv ?_
    refine TL.pcallCod (k := 2) (α := {x : Nat // x ≤ 65535 ∧ (1 ≤ (5 : Int) → (x : Int) < 5)}) (fun y => .int .i64 (y.1 : Int)) (fun y => []) rfl rfl rfl rfl rfl Tryz.func25 ddrnm25 ddrbd25 rfl (fun w1 hw hC1 => next_cod cb w1 5 hC1) ?_
    rintro ⟨x44, hx441, hx442⟩
    dsimp only [List.cons_append, List.nil_append] at hx441 hx442 ⊢
    replace hx442 := hx442 (by omega)
    refine TL.val rfl rfl rfl (gives_bin rfl rfl rfl (fun w => bin_add_ (r := 60 + ((x44 : Nat) : Int)) (by simp only [IntKind.wrap_i64]; omega) w)) ?_
    refine TL.mv ?_
    refine TL.pcallCod (k := 2) (α := {x : Nat // x ≤ 65535 ∧ (1 ≤ (300 : Int) → (x : Int) < 300)}) (fun y => .int .i64 (y.1 : Int)) (fun y => []) rfl rfl rfl rfl rfl Tryz.func25 ddrnm25 ddrbd25 rfl (fun w1 hw hC1 => next_cod cb w1 300 hC1) ?_
    rintro ⟨x47, hx471, hx472⟩
    dsimp only [List.cons_append, List.nil_append] at hx471 hx472 ⊢
    replace hx472 := hx472 (by omega)
    refine TL.mv ?_
    refine TL.pcallCod (k := 2) (α := {x : Nat // x ≤ 65535 ∧ (1 ≤ (2 : Int) → (x : Int) < 2)}) (fun y => .int .i64 (y.1 : Int)) (fun y => []) rfl rfl rfl rfl rfl Tryz.func25 ddrnm25 ddrbd25 rfl (fun w1 hw hC1 => next_cod cb w1 2 hC1) ?_
    rintro ⟨x49, hx491, hx492⟩
    dsimp only [List.cons_append, List.nil_append] at hx491 hx492 ⊢
    replace hx492 := hx492 (by omega)
    refine TL.val rfl rfl rfl (gives_bin rfl rfl rfl (fun w => bin_add_ (r := 1 + ((x49 : Nat) : Int)) (by simp only [IntKind.wrap_i64]; omega) w)) ?_
    refine TL.val rfl rfl rfl (gives_build (v := .agg #[.int .u32 z37, .int .i64 (1 + ((x39 : Nat) : Int)), .int .i64 ((x42 : Nat) : Int), .int .i64 (60 + ((x44 : Nat) : Int)), .int .i64 ((x47 : Nat) : Int), .int .i64 (1 + ((x49 : Nat) : Int))]) rfl rfl (fun w => jdrbld25_14255 _ _ _ _ _ _ w)) ?_
    refine TL.val rfl rfl rfl (gives_field (v := .pointer (some ⟨g3, 11, none⟩)) rfl rfl (fun w => prsfld47_11 _ _ w)) ?_
    refine TL.pstore (k := 0) (vs := [.int .u32 z37, .int .i64 (1 + ((x39 : Nat) : Int)), .int .i64 ((x42 : Nat) : Int), .int .i64 (60 + ((x44 : Nat) : Int)), .int .i64 ((x47 : Nat) : Int), .int .i64 (1 + ((x49 : Nat) : Int))]) rfl rfl rfl rfl rfl rfl rfl dresz45 dreone_u32i64i64i64i64i64 (by show 17 ≤ 17; decide) rfl ?_
    refine TL.end_ ?_
    exact TX.joined (⟨⟨((x5 : Nat) : Int), ((x7 : Nat) : Int), ((x9 : Nat) : Int), ((x11 : Nat) : Int), z13, z15, ((x17 : Nat) : Int), 1 + ((x19 : Nat) : Int), true, true, ((x11 : Nat) : Int) + ((x25 : Nat) : Int), z37, 1 + ((x39 : Nat) : Int), ((x42 : Nat) : Int), 60 + ((x44 : Nat) : Int), ((x47 : Nat) : Int), 1 + ((x49 : Nat) : Int)⟩, by unfold Rs.Ok; dsimp only; omega⟩) (⟨rfl, rfl, rfl, trivial⟩) (fun w1 hw => hw)
   ·have q33 := of_decide_eq_false h33
    refine TL.val rfl rfl rfl (gives_field (v := .pointer (some ⟨g3, 8, none⟩)) rfl rfl (fun w => prsfld47_8 _ _ w)) ?_
    refine TL.pstore (k := 0) (vs := [.bool true]) rfl rfl rfl rfl rfl rfl rfl dresz4 dreone_b (by show 9 ≤ 17; decide) rfl ?_
    refine TL.val rfl rfl rfl (gives_field (v := .pointer (some ⟨g3, 9, none⟩)) rfl rfl (fun w => prsfld47_9 _ _ w)) ?_
    refine TL.pstore (k := 0) (vs := [.bool false]) rfl rfl rfl rfl rfl rfl rfl dresz4 dreone_b (by show 10 ≤ 17; decide) rfl ?_
    refine TL.end_ (TX.then_ (TC.region ?_))
    refine TL.mv ?_
    refine TL.pcallCod (k := 2) (α := {x : Int // 0 ≤ x ∧ x ≤ 4294967295}) (fun y => .int .u32 y.1) (fun y => []) rfl rfl rfl rfl rfl Tryz.func112 jdrnm40 jdrbd40 rfl (fun w1 hw hC1 => addr_cod cb w1 hC1) ?_
    rintro ⟨z37, hz371, hz372⟩
    dsimp only [List.cons_append, List.nil_append] at hz371 hz372 ⊢
    refine TL.mv ?_
    refine TL.pcallCod (k := 2) (α := {x : Nat // x ≤ 65535 ∧ (1 ≤ (5 : Int) → (x : Int) < 5)}) (fun y => .int .i64 (y.1 : Int)) (fun y => []) rfl rfl rfl rfl rfl Tryz.func25 ddrnm25 ddrbd25 rfl (fun w1 hw hC1 => next_cod cb w1 5 hC1) ?_
    rintro ⟨x39, hx391, hx392⟩
    dsimp only [List.cons_append, List.nil_append] at hx391 hx392 ⊢
    replace hx392 := hx392 (by omega)
    refine TL.val rfl rfl rfl (gives_bin rfl rfl rfl (fun w => bin_add_ (r := 1 + ((x39 : Nat) : Int)) (by simp only [IntKind.wrap_i64]; omega) w)) ?_
    refine TL.mv ?_
    refine TL.pcallCod (k := 2) (α := {x : Nat // x ≤ 65535 ∧ (1 ≤ (4 : Int) → (x : Int) < 4)}) (fun y => .int .i64 (y.1 : Int)) (fun y => []) rfl rfl rfl rfl rfl Tryz.func25 ddrnm25 ddrbd25 rfl (fun w1 hw hC1 => next_cod cb w1 4 hC1) ?_
    rintro ⟨x42, hx421, hx422⟩
    dsimp only [List.cons_append, List.nil_append] at hx421 hx422 ⊢
    replace hx422 := hx422 (by omega)
    refine TL.mv ?_
    refine TL.pcallCod (k := 2) (α := {x : Nat // x ≤ 65535 ∧ (1 ≤ (5 : Int) → (x : Int) < 5)}) (fun y => .int .i64 (y.1 : Int)) (fun y => []) rfl rfl rfl rfl rfl Tryz.func25 ddrnm25 ddrbd25 rfl (fun w1 hw hC1 => next_cod cb w1 5 hC1) ?_
    rintro ⟨x44, hx441, hx442⟩
    dsimp only [List.cons_append, List.nil_append] at hx441 hx442 ⊢
    replace hx442 := hx442 (by omega)
    refine TL.val rfl rfl rfl (gives_bin rfl rfl rfl (fun w => bin_add_ (r := 60 + ((x44 : Nat) : Int)) (by simp only [IntKind.wrap_i64]; omega) w)) ?_
    refine TL.mv ?_
    refine TL.pcallCod (k := 2) (α := {x : Nat // x ≤ 65535 ∧ (1 ≤ (300 : Int) → (x : Int) < 300)}) (fun y => .int .i64 (y.1 : Int)) (fun y => []) rfl rfl rfl rfl rfl Tryz.func25 ddrnm25 ddrbd25 rfl (fun w1 hw hC1 => next_cod cb w1 300 hC1) ?_
    rintro ⟨x47, hx471, hx472⟩
    dsimp only [List.cons_append, List.nil_append] at hx471 hx472 ⊢
    replace hx472 := hx472 (by omega)
    refine TL.mv ?_
    refine TL.pcallCod (k := 2) (α := {x : Nat // x ≤ 65535 ∧ (1 ≤ (2 : Int) → (x : Int) < 2)}) (fun y => .int .i64 (y.1 : Int)) (fun y => []) rfl rfl rfl rfl rfl Tryz.func25 ddrnm25 ddrbd25 rfl (fun w1 hw hC1 => next_cod cb w1 2 hC1) ?_
    rintro ⟨x49, hx491, hx492⟩
    dsimp only [List.cons_append, List.nil_append] at hx491 hx492 ⊢
    replace hx492 := hx492 (by omega)
    refine TL.val rfl rfl rfl (gives_bin rfl rfl rfl (fun w => bin_add_ (r := 1 + ((x49 : Nat) : Int)) (by simp only [IntKind.wrap_i64]; omega) w)) ?_
    refine TL.val rfl rfl rfl (gives_build (v := .agg #[.int .u32 z37, .int .i64 (1 + ((x39 : Nat) : Int)), .int .i64 ((x42 : Nat) : Int), .int .i64 (60 + ((x44 : Nat) : Int)), .int .i64 ((x47 : Nat) : Int), .int .i64 (1 + ((x49 : Nat) : Int))]) rfl rfl (fun w => jdrbld25_14255 _ _ _ _ _ _ w)) ?_
    refine TL.val rfl rfl rfl (gives_field (v := .pointer (some ⟨g3, 11, none⟩)) rfl rfl (fun w => prsfld47_11 _ _ w)) ?_
    refine TL.pstore (k := 0) (vs := [.int .u32 z37, .int .i64 (1 + ((x39 : Nat) : Int)), .int .i64 ((x42 : Nat) : Int), .int .i64 (60 + ((x44 : Nat) : Int)), .int .i64 ((x47 : Nat) : Int), .int .i64 (1 + ((x49 : Nat) : Int))]) rfl rfl rfl rfl rfl rfl rfl dresz45 dreone_u32i64i64i64i64i64 (by show 17 ≤ 17; decide) rfl ?_
    refine TL.end_ ?_
    exact TX.joined (⟨⟨((x5 : Nat) : Int), ((x7 : Nat) : Int), ((x9 : Nat) : Int), ((x11 : Nat) : Int), z13, z15, ((x17 : Nat) : Int), 1 + ((x19 : Nat) : Int), true, false, ((x11 : Nat) : Int) + ((x25 : Nat) : Int), z37, 1 + ((x39 : Nat) : Int), ((x42 : Nat) : Int), 60 + ((x44 : Nat) : Int), ((x47 : Nat) : Int), 1 + ((x49 : Nat) : Int)⟩, by unfold Rs.Ok; dsimp only; omega⟩) (⟨rfl, rfl, rfl, trivial⟩) (fun w1 hw => hw)
  ·have q30 := of_decide_eq_false h30
   refine TL.end_ (TX.then_ (TC.condF rfl (TC.skip_ ?_)))
   exact TX.joined (⟨⟨((x5 : Nat) : Int), ((x7 : Nat) : Int), ((x9 : Nat) : Int), ((x11 : Nat) : Int), z13, z15, ((x17 : Nat) : Int), 1 + ((x19 : Nat) : Int), false, false, ((x11 : Nat) : Int) + ((x25 : Nat) : Int), 0, 0, 0, 0, 0, 0⟩, by unfold Rs.Ok; dsimp only; omega⟩) (⟨rfl, rfl, rfl, trivial⟩) (fun w1 hw => hw)
 ·rintro ⟨r, hr⟩
  unfold Rs.Ok at hr
  dsimp only at hr ⊢
  refine TC.seq_ (TC.seq_ (TC.region ?_))
  refine TL.mv ?_
  refine TL.pcallCod (k := 2) (α := {x : Nat // x ≤ 65535 ∧ (1 ≤ (16 : Int) → (x : Int) < 16)}) (fun y => .int .i64 (y.1 : Int)) (fun y => []) rfl rfl rfl rfl rfl Tryz.func25 ddrnm25 ddrbd25 rfl (fun w1 hw hC1 => next_cod cb w1 16 hC1) ?_
  rintro ⟨x54, hx541, hx542⟩
  dsimp only [List.cons_append, List.nil_append] at hx541 hx542 ⊢
  replace hx542 := hx542 (by omega)
  refine TL.end_ (TX.then_ (TC.block (TC.seq_ (TC.region ?_))))
  refine TL.vsplit rfl rfl rfl (gives_bin rfl rfl rfl (fun w => bin_eql w)) (fun h56 => ?_) (fun h56 => ?_)
  ·have q56 := of_decide_eq_true h56
   refine TL.as_ ?_
   refine TL.end_ (TX.then_ (TC.condT rfl (TC.region ?_)))
   refine TL.mv ?_
   refine TL.pcallCod (k := 2) (α := Int) (fun y => .int .i64 y) (fun y => []) rfl rfl rfl rfl rfl Tryz.func114 jdrnm42 jdrbd42 rfl (fun w1 hw hC1 => int_cod cb w1 hC1) ?_
   rintro z58
   dsimp only [List.cons_append, List.nil_append]
   refine TL.mv ?_
   refine TL.pcallCod (k := 2) (α := Int) (fun y => .int .i64 y) (fun y => []) rfl rfl rfl rfl rfl Tryz.func114 jdrnm42 jdrbd42 rfl (fun w1 hw hC1 => int_cod cb w1 hC1) ?_
   rintro z60
   dsimp only [List.cons_append, List.nil_append]
   refine TL.val rfl rfl rfl (gives_field (v := .pointer (some ⟨g3, 3, none⟩)) rfl rfl (fun w => prsfld47_3 _ _ w)) ?_
   refine TL.pstore (k := 0) (vs := [.int .i64 z58]) rfl rfl rfl rfl rfl rfl rfl pcmsz3 dreone_i64 (by show 4 ≤ 17; decide) rfl ?_
   refine TL.val rfl rfl rfl (gives_field (v := .pointer (some ⟨g3, 10, none⟩)) rfl rfl (fun w => prsfld47_10 _ _ w)) ?_
   refine TL.pstore (k := 0) (vs := [.int .i64 z60]) rfl rfl rfl rfl rfl rfl rfl pcmsz3 dreone_i64 (by show 11 ≤ 17; decide) rfl ?_
   refine TL.end_ (TX.in_normal (TX.then_ (TC.seq_ (TC.region ?_))))
   refine TL.val rfl rfl rfl (pm_loadV (k := 0) (i := 0) (n := 17) (v := .agg #[.int .i64 r.v, .int .i64 r.run, .int .i64 r.num, .int .i64 z58, .int .u32 r.dst, .int .i64 r.proto, .int .i64 r.flow, .int .i64 r.ttl, .bool r.ans, .bool r.dbl, .int .i64 z60, .int .u32 r.src, .int .i64 r.kind, .int .i64 r.code, .int .i64 r.left, .int .i64 r.id, .int .i64 r.quo]) rfl rfl prsag47 prssz47 rfl (by show 17 ≤ 17; decide) rfl) ?_
   refine TL.pstore (k := 1) (vs := [.int .i64 r.v, .int .i64 r.run, .int .i64 r.num, .int .i64 z58, .int .u32 r.dst, .int .i64 r.proto, .int .i64 r.flow, .int .i64 r.ttl, .bool r.ans, .bool r.dbl, .int .i64 z60, .int .u32 r.src, .int .i64 r.kind, .int .i64 r.code, .int .i64 r.left, .int .i64 r.id, .int .i64 r.quo]) rfl rfl rfl rfl rfl rfl rfl prssz47 dreone_i64i64i64i64u32i64i64i64bbi64u32i64i64i64i64i64 (by show 17 ≤ 17; decide) rfl ?_
   refine TL.end_ (TX.then_ (TC.ret_ ?_))
   exact pm_ret_cell (k := 1) Tryz.results76 rfl rfl Tryz.underlying47 rfl rfl (fun w1 hw => ⟨⟨⟨r.v, r.run, r.num, z58, r.dst, r.proto, r.flow, r.ttl, r.ans, r.dbl, z60, r.src, r.kind, r.code, r.left, r.id, r.quo⟩, by unfold Rs.Ok; dsimp only; omega⟩, rfl, Pm.codr [] (hw.sel (.cons _ (.cons _ (.cons_cons _ (List.Sublist.refl _))))) rfl⟩)
  ·have q56 := of_decide_eq_false h56
   refine TL.as_ ?_
   refine TL.end_ (TX.then_ (TC.condF rfl (TC.seq_ (TC.region ?_))))
   refine TL.vsplit rfl rfl rfl (gives_bin rfl rfl rfl (fun w => bin_eql w)) (fun h64 => ?_) (fun h64 => ?_)
   ·have q64 := of_decide_eq_true h64
    refine TL.as_ ?_
    refine TL.end_ (TX.then_ (TC.condT rfl (TC.region ?_)))
    refine TL.mv ?_
    refine TL.pcallCod (k := 2) (α := Int) (fun y => .int .i64 y) (fun y => []) rfl rfl rfl rfl rfl Tryz.func114 jdrnm42 jdrbd42 rfl (fun w1 hw hC1 => int_cod cb w1 hC1) ?_
    rintro z66
    dsimp only [List.cons_append, List.nil_append]
    refine TL.mv ?_
    refine TL.pcallCod (k := 2) (α := Int) (fun y => .int .i64 y) (fun y => []) rfl rfl rfl rfl rfl Tryz.func114 jdrnm42 jdrbd42 rfl (fun w1 hw hC1 => int_cod cb w1 hC1) ?_
    rintro z68
    dsimp only [List.cons_append, List.nil_append]
    refine TL.mv ?_
    refine TL.pcallCod (k := 2) (α := Int) (fun y => .int .i64 y) (fun y => []) rfl rfl rfl rfl rfl Tryz.func114 jdrnm42 jdrbd42 rfl (fun w1 hw hC1 => int_cod cb w1 hC1) ?_
    rintro z70
    dsimp only [List.cons_append, List.nil_append]
    refine TL.val rfl rfl rfl (gives_field (v := .pointer (some ⟨g3, 6, none⟩)) rfl rfl (fun w => prsfld47_6 _ _ w)) ?_
    refine TL.pstore (k := 0) (vs := [.int .i64 z66]) rfl rfl rfl rfl rfl rfl rfl pcmsz3 dreone_i64 (by show 7 ≤ 17; decide) rfl ?_
    refine TL.val rfl rfl rfl (gives_field (v := .pointer (some ⟨g3, 7, none⟩)) rfl rfl (fun w => prsfld47_7 _ _ w)) ?_
    refine TL.pstore (k := 0) (vs := [.int .i64 z68]) rfl rfl rfl rfl rfl rfl rfl pcmsz3 dreone_i64 (by show 8 ≤ 17; decide) rfl ?_
    refine TL.val rfl rfl rfl (gives_field (v := .pointer (some ⟨g3, 5, none⟩)) rfl rfl (fun w => prsfld47_5 _ _ w)) ?_
    refine TL.pstore (k := 0) (vs := [.int .i64 z70]) rfl rfl rfl rfl rfl rfl rfl pcmsz3 dreone_i64 (by show 6 ≤ 17; decide) rfl ?_
    refine TL.end_ (TX.in_normal (TX.then_ (TC.seq_ (TC.region ?_))))
    refine TL.val rfl rfl rfl (pm_loadV (k := 0) (i := 0) (n := 17) (v := .agg #[.int .i64 r.v, .int .i64 r.run, .int .i64 r.num, .int .i64 r.at_, .int .u32 r.dst, .int .i64 z70, .int .i64 z66, .int .i64 z68, .bool r.ans, .bool r.dbl, .int .i64 r.back, .int .u32 r.src, .int .i64 r.kind, .int .i64 r.code, .int .i64 r.left, .int .i64 r.id, .int .i64 r.quo]) rfl rfl prsag47 prssz47 rfl (by show 17 ≤ 17; decide) rfl) ?_
    refine TL.pstore (k := 1) (vs := [.int .i64 r.v, .int .i64 r.run, .int .i64 r.num, .int .i64 r.at_, .int .u32 r.dst, .int .i64 z70, .int .i64 z66, .int .i64 z68, .bool r.ans, .bool r.dbl, .int .i64 r.back, .int .u32 r.src, .int .i64 r.kind, .int .i64 r.code, .int .i64 r.left, .int .i64 r.id, .int .i64 r.quo]) rfl rfl rfl rfl rfl rfl rfl prssz47 dreone_i64i64i64i64u32i64i64i64bbi64u32i64i64i64i64i64 (by show 17 ≤ 17; decide) rfl ?_
    refine TL.end_ (TX.then_ (TC.ret_ ?_))
    exact pm_ret_cell (k := 1) Tryz.results76 rfl rfl Tryz.underlying47 rfl rfl (fun w1 hw => ⟨⟨⟨r.v, r.run, r.num, r.at_, r.dst, z70, z66, z68, r.ans, r.dbl, r.back, r.src, r.kind, r.code, r.left, r.id, r.quo⟩, by unfold Rs.Ok; dsimp only; omega⟩, rfl, Pm.codr [] (hw.sel (.cons _ (.cons _ (.cons_cons _ (List.Sublist.refl _))))) rfl⟩)
   ·have q64 := of_decide_eq_false h64
    refine TL.as_ ?_
    refine TL.end_ (TX.then_ (TC.condF rfl (TC.seq_ (TC.region ?_))))
    refine TL.vsplit rfl rfl rfl (gives_bin rfl rfl rfl (fun w => bin_eql w)) (fun h75 => ?_) (fun h75 => ?_)
    ·have q75 := of_decide_eq_true h75
     refine TL.as_ ?_
     refine TL.end_ (TX.then_ (TC.condT rfl (TC.region ?_)))
     refine TL.mv ?_
     refine TL.pcallCod (k := 2) (α := Int) (fun y => .int .i64 y) (fun y => []) rfl rfl rfl rfl rfl Tryz.func114 jdrnm42 jdrbd42 rfl (fun w1 hw hC1 => int_cod cb w1 hC1) ?_
     rintro z77
     dsimp only [List.cons_append, List.nil_append]
     refine TL.mv ?_
     refine TL.pcallCod (k := 2) (α := Int) (fun y => .int .i64 y) (fun y => []) rfl rfl rfl rfl rfl Tryz.func114 jdrnm42 jdrbd42 rfl (fun w1 hw hC1 => int_cod cb w1 hC1) ?_
     rintro z79
     dsimp only [List.cons_append, List.nil_append]
     refine TL.val rfl rfl rfl (gives_field (v := .pointer (some ⟨g3, 11, none⟩)) rfl rfl (fun w => prsfld47_11 _ _ w)) ?_
     refine TL.val rfl rfl rfl (gives_field (v := .pointer (some ⟨g3, 12, none⟩)) rfl rfl (fun w => prsfld45_1 _ _ w)) ?_
     refine TL.pstore (k := 0) (vs := [.int .i64 z77]) rfl rfl rfl rfl rfl rfl rfl pcmsz3 dreone_i64 (by show 13 ≤ 17; decide) rfl ?_
     refine TL.val rfl rfl rfl (gives_field (v := .pointer (some ⟨g3, 11, none⟩)) rfl rfl (fun w => prsfld47_11 _ _ w)) ?_
     refine TL.val rfl rfl rfl (gives_field (v := .pointer (some ⟨g3, 15, none⟩)) rfl rfl (fun w => prsfld45_4 _ _ w)) ?_
     refine TL.pstore (k := 0) (vs := [.int .i64 z79]) rfl rfl rfl rfl rfl rfl rfl pcmsz3 dreone_i64 (by show 16 ≤ 17; decide) rfl ?_
     refine TL.end_ (TX.in_normal (TX.then_ (TC.seq_ (TC.region ?_))))
     refine TL.val rfl rfl rfl (pm_loadV (k := 0) (i := 0) (n := 17) (v := .agg #[.int .i64 r.v, .int .i64 r.run, .int .i64 r.num, .int .i64 r.at_, .int .u32 r.dst, .int .i64 r.proto, .int .i64 r.flow, .int .i64 r.ttl, .bool r.ans, .bool r.dbl, .int .i64 r.back, .int .u32 r.src, .int .i64 z77, .int .i64 r.code, .int .i64 r.left, .int .i64 z79, .int .i64 r.quo]) rfl rfl prsag47 prssz47 rfl (by show 17 ≤ 17; decide) rfl) ?_
     refine TL.pstore (k := 1) (vs := [.int .i64 r.v, .int .i64 r.run, .int .i64 r.num, .int .i64 r.at_, .int .u32 r.dst, .int .i64 r.proto, .int .i64 r.flow, .int .i64 r.ttl, .bool r.ans, .bool r.dbl, .int .i64 r.back, .int .u32 r.src, .int .i64 z77, .int .i64 r.code, .int .i64 r.left, .int .i64 z79, .int .i64 r.quo]) rfl rfl rfl rfl rfl rfl rfl prssz47 dreone_i64i64i64i64u32i64i64i64bbi64u32i64i64i64i64i64 (by show 17 ≤ 17; decide) rfl ?_
     refine TL.end_ (TX.then_ (TC.ret_ ?_))
     exact pm_ret_cell (k := 1) Tryz.results76 rfl rfl Tryz.underlying47 rfl rfl (fun w1 hw => ⟨⟨⟨r.v, r.run, r.num, r.at_, r.dst, r.proto, r.flow, r.ttl, r.ans, r.dbl, r.back, r.src, z77, r.code, r.left, z79, r.quo⟩, by unfold Rs.Ok; dsimp only; omega⟩, rfl, Pm.codr [] (hw.sel (.cons _ (.cons _ (.cons_cons _ (List.Sublist.refl _))))) rfl⟩)
    ·have q75 := of_decide_eq_false h75
     refine TL.as_ ?_
     refine TL.end_ (TX.then_ (TC.condF rfl (TC.seq_ (TC.region ?_))))
     refine TL.vsplit rfl rfl rfl (gives_bin rfl rfl rfl (fun w => bin_eql w)) (fun h85 => ?_) (fun h85 => ?_)
     ·have q85 := of_decide_eq_true h85
      refine TL.as_ ?_
      refine TL.end_ (TX.then_ (TC.condT rfl (TC.region ?_)))
      refine TL.mv ?_
      refine TL.pcallCod (k := 2) (α := Int) (fun y => .int .i64 y) (fun y => []) rfl rfl rfl rfl rfl Tryz.func114 jdrnm42 jdrbd42 rfl (fun w1 hw hC1 => int_cod cb w1 hC1) ?_
      rintro z87
      dsimp only [List.cons_append, List.nil_append]
      refine TL.mv ?_
      refine TL.pcallCod (k := 2) (α := Int) (fun y => .int .i64 y) (fun y => []) rfl rfl rfl rfl rfl Tryz.func114 jdrnm42 jdrbd42 rfl (fun w1 hw hC1 => int_cod cb w1 hC1) ?_
      rintro z89
      dsimp only [List.cons_append, List.nil_append]
      refine TL.mv ?_
      refine TL.pcallCod (k := 2) (α := Int) (fun y => .int .i64 y) (fun y => []) rfl rfl rfl rfl rfl Tryz.func114 jdrnm42 jdrbd42 rfl (fun w1 hw hC1 => int_cod cb w1 hC1) ?_
      rintro z91
      dsimp only [List.cons_append, List.nil_append]
      refine TL.val rfl rfl rfl (gives_field (v := .pointer (some ⟨g3, 0, none⟩)) rfl rfl (fun w => prsfld47_0 _ _ w)) ?_
      refine TL.pstore (k := 0) (vs := [.int .i64 z87]) rfl rfl rfl rfl rfl rfl rfl pcmsz3 dreone_i64 (by show 1 ≤ 17; decide) rfl ?_
      refine TL.val rfl rfl rfl (gives_field (v := .pointer (some ⟨g3, 1, none⟩)) rfl rfl (fun w => prsfld47_1 _ _ w)) ?_
      refine TL.pstore (k := 0) (vs := [.int .i64 z89]) rfl rfl rfl rfl rfl rfl rfl pcmsz3 dreone_i64 (by show 2 ≤ 17; decide) rfl ?_
      refine TL.val rfl rfl rfl (gives_field (v := .pointer (some ⟨g3, 2, none⟩)) rfl rfl (fun w => prsfld47_2 _ _ w)) ?_
      refine TL.pstore (k := 0) (vs := [.int .i64 z91]) rfl rfl rfl rfl rfl rfl rfl pcmsz3 dreone_i64 (by show 3 ≤ 17; decide) rfl ?_
      refine TL.end_ (TX.in_normal (TX.then_ (TC.seq_ (TC.region ?_))))
      refine TL.val rfl rfl rfl (pm_loadV (k := 0) (i := 0) (n := 17) (v := .agg #[.int .i64 z87, .int .i64 z89, .int .i64 z91, .int .i64 r.at_, .int .u32 r.dst, .int .i64 r.proto, .int .i64 r.flow, .int .i64 r.ttl, .bool r.ans, .bool r.dbl, .int .i64 r.back, .int .u32 r.src, .int .i64 r.kind, .int .i64 r.code, .int .i64 r.left, .int .i64 r.id, .int .i64 r.quo]) rfl rfl prsag47 prssz47 rfl (by show 17 ≤ 17; decide) rfl) ?_
      refine TL.pstore (k := 1) (vs := [.int .i64 z87, .int .i64 z89, .int .i64 z91, .int .i64 r.at_, .int .u32 r.dst, .int .i64 r.proto, .int .i64 r.flow, .int .i64 r.ttl, .bool r.ans, .bool r.dbl, .int .i64 r.back, .int .u32 r.src, .int .i64 r.kind, .int .i64 r.code, .int .i64 r.left, .int .i64 r.id, .int .i64 r.quo]) rfl rfl rfl rfl rfl rfl rfl prssz47 dreone_i64i64i64i64u32i64i64i64bbi64u32i64i64i64i64i64 (by show 17 ≤ 17; decide) rfl ?_
      refine TL.end_ (TX.then_ (TC.ret_ ?_))
      exact pm_ret_cell (k := 1) Tryz.results76 rfl rfl Tryz.underlying47 rfl rfl (fun w1 hw => ⟨⟨⟨z87, z89, z91, r.at_, r.dst, r.proto, r.flow, r.ttl, r.ans, r.dbl, r.back, r.src, r.kind, r.code, r.left, r.id, r.quo⟩, by unfold Rs.Ok; dsimp only; omega⟩, rfl, Pm.codr [] (hw.sel (.cons _ (.cons _ (.cons_cons _ (List.Sublist.refl _))))) rfl⟩)
     ·have q85 := of_decide_eq_false h85
      refine TL.as_ ?_
      refine TL.end_ (TX.then_ (TC.condF rfl (TC.skip_ (TX.in_normal (TX.then_ (TC.seq_ (TC.region ?_)))))))
      refine TL.val rfl rfl rfl (pm_loadV (k := 0) (i := 0) (n := 17) (v := .agg (r.cells).toArray) rfl rfl prsag47 prssz47 rfl (by show 17 ≤ 17; decide) rfl) ?_
      refine TL.pstore (k := 1) (vs := r.cells) rfl rfl rfl rfl rfl rfl rfl prssz47 dreone_i64i64i64i64u32i64i64i64bbi64u32i64i64i64i64i64 (by show 17 ≤ 17; decide) (L' := ([.blk g3 47 r.cells, .blk g2 47 r.cells, .abs cb (fun w => Cod w cb)] ++ oths cb w)) rfl ?_
      refine TL.end_ (TX.then_ (TC.ret_ ?_))
      exact pm_ret_cell (k := 1) Tryz.results76 rfl rfl Tryz.underlying47 rfl rfl (fun w1 hw => ⟨⟨⟨r.v, r.run, r.num, r.at_, r.dst, r.proto, r.flow, r.ttl, r.ans, r.dbl, r.back, r.src, r.kind, r.code, r.left, r.id, r.quo⟩, by unfold Rs.Ok; dsimp only; omega⟩, rfl, Pm.codr [] (hw.sel (.cons _ (.cons _ (.cons_cons _ (List.Sublist.refl _))))) rfl⟩)
def adB (A : Option Addr) : Nat := match A with
  | some a => a.block
  | none => 0
def adO (A : Option Addr) : Nat := match A with
  | some a => a.off
  | none => 0
section
variable {α : Type} {c : α → List Value} {k : Nat}
theorem Reads.addr {w : World} {B size n : Nat} {A : Option Addr} {xs : List Value} (h : Reads w B size A n xs) (hn : 0 < n) (hs : 0 < size) : A = some ⟨adB A, adO A, none⟩ := by
  obtain ⟨b, o, hA, _, _⟩ := h.ad hn hs
  rw [hA]; rfl
theorem reads_cell (K : Cel c k) {w : World} {B n g o i : Nat} {A : Option Addr} {l : List α} {x : α} (h : Reads w B k A n (flat c l)) (hA : A = some ⟨g, o, none⟩) (hx : l[i]? = some x) (j : Nat) (u : Value) (hu : (c x)[j]? = some u) : w.cell? ⟨g, o + i * k + j, none⟩ = some u := by
  have hk : 0 < k := by
    have := (List.getElem?_eq_some_iff.1 hu).1
    rw [K.len] at this; omega
  have hn : 0 < n := by
    have h1 := h.1
    have h2 := (List.getElem?_eq_some_iff.1 hx).1
    rw [flat_len K] at h1
    rcases Nat.eq_zero_or_pos n with h3 | h3
    · subst h3
      rw [Nat.zero_mul] at h1
      have := Nat.mul_pos (show 0 < l.length by omega) hk
      omega
    · exact h3
  obtain ⟨b, o', hA', _, hc⟩ := h.ad hn hk
  rw [hA] at hA'
  cases hA'
  exact flat_cell K hx hc j u hu
end
set_option maxRecDepth 20000
theorem set_at {α : Type} {l : List α} {i : Nat} {x y : α} (h : l[i]? = some x) : (l.set i y)[i]? = some y := List.getElem?_set_self (List.getElem?_eq_some_iff.1 h).1
theorem set_self {l : List Rs} {i : Nat} {x : Rs} (h : l[i]? = some x) : l.set i ⟨x.v, x.run, x.num, x.at_, x.dst, x.proto, x.flow, x.ttl, x.ans, x.dbl, x.back, x.src, x.kind, x.code, x.left, x.id, x.quo⟩ = l := by
 obtain ⟨h1, rfl⟩ := List.getElem?_eq_some_iff.1 h
 exact List.set_getElem_self h1
theorem ok_set {l : List Rs} {i : Nat} {y : Rs} (h : ∀ r ∈ l, r.Ok) (hy : y.Ok) : ∀ r ∈ l.set i y, r.Ok := fun r hr => by
 rcases List.mem_or_eq_of_mem_set hr with h1 | h1
 ·exact h r h1
 ·rw [h1]; exact hy
theorem ok_one {l : List Rs} {x : Rs} (h : l.length = 0) (hx : x.Ok) : ∀ r ∈ l ++ [x], r.Ok := fun r hr => by
 rw [List.eq_nil_of_length_eq_zero h, List.nil_append, List.mem_singleton] at hr
 rw [hr]; exact hx
theorem dodnm76 : (Tryz.f76.name == "runtime.NumGoroutine") = false := by decide
theorem dodbd76 : Tryz.f76.body.isNone = false := rfl
theorem dodbs48_5_22075 (a0_0 : Int) (a1_0 : Int) (a2_0 : Int) (a3_0 : Int) (a4_0 : Int) (w : World) : (Instr.buildSlice 48 5 #[(0, .int .i64 a0_0), (1, .int .i64 a1_0), (2, .int .i64 a2_0), (3, .int .i64 a3_0), (4, .int .i64 a4_0)]).run Tryz.prog w = .ok (.slice (some ⟨w.heap.size, 0, none⟩) 5 5) (w.alloc (.cells [.int .i64 a0_0, .int .i64 a1_0, .int .i64 a2_0, .int .i64 a3_0, .int .i64 a4_0].toArray 3)) := by kernel_rfl
theorem dodbs48_4_78574 (a0_0 : Int) (a1_0 : Int) (a2_0 : Int) (a3_0 : Int) (w : World) : (Instr.buildSlice 48 4 #[(0, .int .i64 a0_0), (1, .int .i64 a1_0), (2, .int .i64 a2_0), (3, .int .i64 a3_0)]).run Tryz.prog w = .ok (.slice (some ⟨w.heap.size, 0, none⟩) 4 4) (w.alloc (.cells [.int .i64 a0_0, .int .i64 a1_0, .int .i64 a2_0, .int .i64 a3_0].toArray 3)) := by kernel_rfl
set_option maxHeartbeats 1000000 in
theorem odd_fr (w0 : Base) (F : List Pc) (cb : Nat) (A0 : Option Addr) (c0 : Nat) (l : List Rs) (w : World) (hw0 : Pm w0 ([.abs cb (fun w => Cod w cb), .row (.slice A0 l.length c0) 47 17 l.length (flat Rs.cells l)] ++ F) w) (hm1 : l.length ≤ 10000) (hok : ∀ r ∈ l, r.Ok) :
  Calls Tryz.prog 24 #[.pointer (some ⟨cb, 0, none⟩), .slice A0 l.length c0] w fun e w' => ∃ x : {y : (Option Addr × Nat) × List Rs // (∀ r ∈ y.2, r.Ok) ∧ y.2.length ≤ l.length + 1 ∧ y.2.length ≤ y.1.2 ∧ y.1.2 ≤ maxLen}, e = .returned (.slice x.1.1.1 x.1.2.length x.1.1.2) ∧ Pm w0 (.row (.slice x.1.1.1 x.1.2.length x.1.1.2) 47 17 x.1.2.length (flat Rs.cells x.1.2) :: [.abs cb (fun w => Cod w cb), .row (.slice A0 l.length c0) 47 17 l.length (flat Rs.cells l)] ++ F) w' := by
 refine begin_ (vs := [.pointer (some ⟨cb, 0, none⟩), .slice A0 l.length c0]) (I := Pm w0 ([.abs cb (fun w => Cod w cb), .row (.slice A0 l.length c0) 47 17 l.length (flat Rs.cells l)] ++ F)) Tryz.func24 rfl rfl rfl ?_ hw0
 refine TC.seq_ (TC.region ?_)
 refine TL.as_ ?_
 refine TL.end_ (TX.then_ (TC.seq_ (TC.region ?_)))
 refine TL.mv ?_
 refine TL.nilrow 47 17 ?_
 refine TL.appendT (k := 0) rfl rfl rfl rfl Tryz.underlying26 porel26 rfl rfl rfl (fun w1 hw => pm_reads hw (k := 2) rfl) (flat_one rs_cel _) (by show _ * 128 ≤ _; omega) (l.length) (by simp) (flat Rs.cells l) (rfl) (fun A8 c8 hA81 hA82 => ?_)
 refine TL.as_ ?_
 refine TL.end_ (TX.then_ (TC.seq_ (TC.seq_ (TC.region ?_))))
 refine TL.mv ?_
 refine TL.val rfl rfl rfl (gives_len rfl Tryz.underlying26 rfl) ?_
 refine TL.vsplit rfl rfl rfl (gives_bin rfl rfl rfl (fun w => bin_eql w)) (fun h11 => ?_) (fun h11 => ?_)
 ·have q11 := of_decide_eq_true h11
  refine TL.end_ (TX.then_ (TC.condT rfl (TC.seq_ (TC.region ?_))))
  refine TL.mv ?_
  refine TL.mv ?_
  refine TL.pcallCod (k := 1) (α := {z : Rs // z.Ok}) (fun q9 => .agg (q9.1.cells).toArray) (fun q9 => []) rfl rfl rfl rfl rfl Tryz.func76 dodnm76 dodbd76 rfl (fun w1 hw hC1 => result_cod cb w1 hC1) ?_
  rintro ⟨rs, hrs⟩
  dsimp only [List.cons_append, List.nil_append]
  refine TL.prowS (e := 47) (size := 17) (cs := flat Rs.cells [rs]) rfl rfl rfl rfl rfl (fun w => porbs26_1_99505 _ _ _ _ _ _ _ _ _ _ _ _ _ _ _ _ _ w) (by decide) rfl (fun g15 => ?_)
  refine TL.appendT (k := 1) rfl rfl rfl rfl Tryz.underlying26 porel26 rfl rfl rfl (fun w1 hw => pm_reads hw (k := 0) rfl) (flat_one rs_cel _) (by show _ * 128 ≤ _; omega) ((l ++ [rs]).length) (by rw [List.length_append]; rfl) (flat Rs.cells (l ++ [rs])) ((flat_app _ _).symm) (fun A16 c16 hA161 hA162 => ?_)
  refine TL.as_ ?_
  refine TL.end_ (TX.then_ (TC.ret_ (TX.then_ret ?_)))
  exact ret_tmp Tryz.results24 rfl (fun w1 hw => ⟨⟨((A16, c16), l ++ [rs]), ok_one (by omega) hrs, by dsimp only; rw [List.length_append]; show l.length + 1 ≤ _; omega, hA161, hA162⟩, rfl, hw.sel (.cons _ (.cons_cons _ (.cons_cons _ (.cons_cons _ (List.Sublist.refl _)))))⟩)
 ·have q11 := of_decide_eq_false h11
  refine TL.end_ (TX.then_ (TC.condF rfl (TC.skip_ (TX.then_ (TC.seq_ (TC.region ?_))))))
  refine TL.mv ?_
  refine TL.mv ?_
  refine TL.val rfl rfl rfl (gives_len rfl Tryz.underlying26 rfl) ?_
  refine TL.pcallCod (k := 1) (α := {q9 : Nat // q9 ≤ 65535 ∧ (1 ≤ ((l.length : Nat) : Int) → (q9 : Int) < (l.length : Nat))}) (fun q9 => .int .i64 ((q9.1 : Nat) : Int)) (fun q9 => []) rfl rfl rfl rfl rfl Tryz.func25 ddrnm25 ddrbd25 rfl (fun w1 hw hC1 => next_cod cb w1 (l.length : Nat) hC1) ?_
  rintro ⟨i, hi1, hi2⟩
  dsimp only [List.cons_append, List.nil_append]
  refine TL.as_ ?_
  refine TL.end_ (TX.then_ (TC.seq_ (TC.seq_ (TC.region ?_))))
  refine TL.mv ?_
  refine TL.pcallCod (k := 1) (α := {q9 : Nat // q9 ≤ 65535 ∧ (1 ≤ (9 : Int) → (q9 : Int) < 9)}) (fun q9 => .int .i64 ((q9.1 : Nat) : Int)) (fun q9 => []) rfl rfl rfl rfl rfl Tryz.func25 ddrnm25 ddrbd25 rfl (fun w1 hw hC1 => next_cod cb w1 9 hC1) ?_
  rintro ⟨sel, hsel1, hsel2⟩
  dsimp only [List.cons_append, List.nil_append]
  refine TL.end_ (TX.then_ (TC.block (TC.seq_ (TC.region ?_))))
  refine TL.vsplit rfl rfl rfl (gives_bin rfl rfl rfl (fun w => bin_eql w)) (fun h24 => ?_) (fun h24 => ?_)
  ·have q24 := of_decide_eq_true h24
   refine TL.as_ ?_
   refine TL.end_ (TX.then_ (TC.condT rfl (TC.region ?_)))
   refine TL.mv ?_
   refine TL.mv ?_
   refine TL.mv ?_
   refine TL.pcallCod (k := 1) (α := {z : Rs // z.Ok}) (fun q9 => .agg (q9.1.cells).toArray) (fun q9 => []) rfl rfl rfl rfl rfl Tryz.func76 dodnm76 dodbd76 rfl (fun w1 hw hC1 => result_cod cb w1 hC1) ?_
   rintro ⟨rs2, hrs2⟩
   dsimp only [List.cons_append, List.nil_append]
   refine TL.fact (p := ∃ g, A8 = some ⟨g, 0, none⟩) (fun w1 hw => rowA hw (k := 0) rfl (by omega)) ?_
   rintro ⟨g_A8, rfl⟩
   have hi29 : i < l.length := by omega
   obtain ⟨x29, hx29⟩ : ∃ x29, l[i]? = some x29 := ⟨_, List.getElem?_eq_getElem hi29⟩
   have hokx29 := hok x29 (List.mem_of_getElem? hx29)
   unfold Rs.Ok at hokx29
   refine TL.val rfl rfl rfl (gives_at (v := .pointer (some ⟨g_A8, 0 + i * 17, none⟩)) rfl rfl rfl (fun w => at_el Tryz.underlying26 prssz47 rfl _ _ i (by omega) rfl w)) ?_
   refine TL.rowset (k := 0) (vs := rs2.cells) (xs' := flat Rs.cells (l.set i rs2)) rfl rfl rfl rfl rfl rfl rfl prssz47 (rs_cel.one _) (by rw [flat_len rs_cel]; show 0 + i * 17 + 17 ≤ _; omega) (flat_put rs_cel (q := 0) (y := rs2) hx29 (by show 0 + 17 ≤ 17; decide) rfl) ?_
   try dsimp only [List.set_cons_zero, List.set_cons_succ]
   refine TL.end_ (TX.in_normal (TX.then_ (TC.seq_ (TC.region ?_))))
   refine TL.mv ?_
   refine TL.as_ ?_
   refine TL.end_ (TX.then_ (TC.ret_ ?_))
   exact ret_tmp Tryz.results24 rfl (fun w1 hw => ⟨⟨(((some ⟨g_A8, 0, none⟩), c8), l.set i rs2), ok_set hok (by first | exact hrs2 | (have h9 := hok _ (List.mem_of_getElem? (by assumption)); unfold Rs.Ok at h9 ⊢; dsimp only; omega)), by dsimp only; rw [List.length_set]; omega, by dsimp only; rw [List.length_set]; exact hA81, hA82⟩, by dsimp only; try rw [List.length_set], by dsimp only; try rw [List.length_set]; exact hw⟩)
  ·have q24 := of_decide_eq_false h24
   refine TL.as_ ?_
   refine TL.end_ (TX.then_ (TC.condF rfl (TC.seq_ (TC.region ?_))))
   refine TL.vsplit rfl rfl rfl (gives_bin rfl rfl rfl (fun w => bin_eql w)) (fun h31 => ?_) (fun h31 => ?_)
   ·have q31 := of_decide_eq_true h31
    refine TL.as_ ?_
    refine TL.end_ (TX.then_ (TC.condT rfl (TC.region ?_)))
    refine TL.mv ?_
    refine TL.mv ?_
    refine TL.mv ?_
    refine TL.pcallCod (k := 1) (α := {a : Int // 167772161 ≤ a ∧ a ≤ 167772173}) (fun x => .int .u32 x.1) (fun x => []) rfl rfl rfl rfl rfl Tryz.func77 dntnm77 dntbd77 rfl (fun w1 hw hC1 => daddr_cod cb w1 hC1) ?_
    rintro ⟨ad, had1, had2⟩
    dsimp only [List.cons_append, List.nil_append]
    refine TL.fact (p := ∃ g, A8 = some ⟨g, 0, none⟩) (fun w1 hw => rowA hw (k := 0) rfl (by omega)) ?_
    rintro ⟨g_A8, rfl⟩
    have hi36 : i < l.length := by omega
    obtain ⟨x36, hx36⟩ : ∃ x36, l[i]? = some x36 := ⟨_, List.getElem?_eq_getElem hi36⟩
    have hokx36 := hok x36 (List.mem_of_getElem? hx36)
    unfold Rs.Ok at hokx36
    refine TL.val rfl rfl rfl (gives_at (v := .pointer (some ⟨g_A8, 0 + i * 17, none⟩)) rfl rfl rfl (fun w => at_el Tryz.underlying26 prssz47 rfl _ _ i (by omega) rfl w)) ?_
    refine TL.val rfl rfl rfl (gives_field (v := .pointer (some ⟨g_A8, 0 + i * 17 + 11, none⟩)) rfl rfl (fun w => prsfld47_11 _ _ w)) ?_
    refine TL.val rfl rfl rfl (gives_field (v := .pointer (some ⟨g_A8, 0 + i * 17 + 11, none⟩)) rfl rfl (fun w => prsfld45_0 _ _ w)) ?_
    refine TL.rowset (k := 0) (vs := [.int .u32 ad]) (xs' := flat Rs.cells (l.set i (⟨x36.v, x36.run, x36.num, x36.at_, x36.dst, x36.proto, x36.flow, x36.ttl, x36.ans, x36.dbl, x36.back, ad, x36.kind, x36.code, x36.left, x36.id, x36.quo⟩ : Rs))) rfl rfl rfl rfl rfl rfl rfl dntsz30 dntone_u32 (by rw [flat_len rs_cel]; show 0 + i * 17 + 11 + 1 ≤ _; omega) (flat_put rs_cel (q := 11) (y := (⟨x36.v, x36.run, x36.num, x36.at_, x36.dst, x36.proto, x36.flow, x36.ttl, x36.ans, x36.dbl, x36.back, ad, x36.kind, x36.code, x36.left, x36.id, x36.quo⟩ : Rs)) hx36 (by show 11 + 1 ≤ 17; decide) rfl) ?_
    try dsimp only [List.set_cons_zero, List.set_cons_succ]
    refine TL.end_ (TX.in_normal (TX.then_ (TC.seq_ (TC.region ?_))))
    refine TL.mv ?_
    refine TL.as_ ?_
    refine TL.end_ (TX.then_ (TC.ret_ ?_))
    exact ret_tmp Tryz.results24 rfl (fun w1 hw => ⟨⟨(((some ⟨g_A8, 0, none⟩), c8), l.set i (⟨x36.v, x36.run, x36.num, x36.at_, x36.dst, x36.proto, x36.flow, x36.ttl, x36.ans, x36.dbl, x36.back, ad, x36.kind, x36.code, x36.left, x36.id, x36.quo⟩ : Rs)), ok_set hok (by first | exact hrs2 | (have h9 := hok _ (List.mem_of_getElem? (by assumption)); unfold Rs.Ok at h9 ⊢; dsimp only; omega)), by dsimp only; rw [List.length_set]; omega, by dsimp only; rw [List.length_set]; exact hA81, hA82⟩, by dsimp only; try rw [List.length_set], by dsimp only; try rw [List.length_set]; exact hw⟩)
   ·have q31 := of_decide_eq_false h31
    refine TL.as_ ?_
    refine TL.end_ (TX.then_ (TC.condF rfl (TC.seq_ (TC.region ?_))))
    refine TL.vsplit rfl rfl rfl (gives_bin rfl rfl rfl (fun w => bin_eql w)) (fun h40 => ?_) (fun h40 => ?_)
    ·have q40 := of_decide_eq_true h40
     refine TL.as_ ?_
     refine TL.end_ (TX.then_ (TC.condT rfl (TC.region ?_)))
     iterate 4 (first | refine TL.mv ?_)
     refine TL.fact (p := ∃ g, A8 = some ⟨g, 0, none⟩) (fun w1 hw => rowA hw (k := 0) rfl (by omega)) ?_
     rintro ⟨g_A8, rfl⟩
     have hi45 : i < l.length := by omega
     obtain ⟨x45, hx45⟩ : ∃ x45, l[i]? = some x45 := ⟨_, List.getElem?_eq_getElem hi45⟩
     have hokx45 := hok x45 (List.mem_of_getElem? hx45)
     unfold Rs.Ok at hokx45
     refine TL.val rfl rfl rfl (gives_at (v := .pointer (some ⟨g_A8, 0 + i * 17, none⟩)) rfl rfl rfl (fun w => at_el Tryz.underlying26 prssz47 rfl _ _ i (by omega) rfl w)) ?_
     refine TL.val rfl rfl rfl (gives_field (v := .pointer (some ⟨g_A8, 0 + i * 17 + 8, none⟩)) rfl rfl (fun w => prsfld47_8 _ _ w)) ?_
     refine TL.vsplit rfl rfl rfl (gives_load (v := .bool x45.ans) rfl rfl prsag4 (fun w1 hw => flat_row rs_cel hw (q := 0) rfl hx45 8 _ rfl)) (fun h47 => ?_) (fun h47 => ?_)
     ·refine TL.val rfl rfl rfl (gives_boolnot rfl rfl) ?_
      refine TL.val rfl rfl rfl (gives_at (v := .pointer (some ⟨g_A8, 0 + i * 17, none⟩)) rfl rfl rfl (fun w => at_el Tryz.underlying26 prssz47 rfl _ _ i (by omega) rfl w)) ?_
      refine TL.val rfl rfl rfl (gives_field (v := .pointer (some ⟨g_A8, 0 + i * 17 + 8, none⟩)) rfl rfl (fun w => prsfld47_8 _ _ w)) ?_
      refine TL.rowset (k := 0) (vs := [.bool false]) (xs' := flat Rs.cells (l.set i (⟨x45.v, x45.run, x45.num, x45.at_, x45.dst, x45.proto, x45.flow, x45.ttl, false, x45.dbl, x45.back, x45.src, x45.kind, x45.code, x45.left, x45.id, x45.quo⟩ : Rs))) rfl rfl rfl rfl rfl rfl rfl dresz4 dreone_b (by rw [flat_len rs_cel]; show 0 + i * 17 + 8 + 1 ≤ _; omega) (flat_put rs_cel (q := 8) (y := (⟨x45.v, x45.run, x45.num, x45.at_, x45.dst, x45.proto, x45.flow, x45.ttl, false, x45.dbl, x45.back, x45.src, x45.kind, x45.code, x45.left, x45.id, x45.quo⟩ : Rs)) hx45 (by show 8 + 1 ≤ 17; decide) rfl) ?_
      try dsimp only [List.set_cons_zero, List.set_cons_succ]
      refine TL.end_ (TX.in_normal (TX.then_ (TC.seq_ (TC.region ?_))))
      refine TL.mv ?_
      refine TL.as_ ?_
      refine TL.end_ (TX.then_ (TC.ret_ ?_))
      exact ret_tmp Tryz.results24 rfl (fun w1 hw => ⟨⟨(((some ⟨g_A8, 0, none⟩), c8), l.set i (⟨x45.v, x45.run, x45.num, x45.at_, x45.dst, x45.proto, x45.flow, x45.ttl, false, x45.dbl, x45.back, x45.src, x45.kind, x45.code, x45.left, x45.id, x45.quo⟩ : Rs)), ok_set hok (by first | exact hrs2 | (have h9 := hok _ (List.mem_of_getElem? (by assumption)); unfold Rs.Ok at h9 ⊢; dsimp only; omega)), by dsimp only; rw [List.length_set]; omega, by dsimp only; rw [List.length_set]; exact hA81, hA82⟩, by dsimp only; try rw [List.length_set], by dsimp only; try rw [List.length_set]; exact hw⟩)
     ·refine TL.val rfl rfl rfl (gives_boolnot rfl rfl) ?_
      refine TL.val rfl rfl rfl (gives_at (v := .pointer (some ⟨g_A8, 0 + i * 17, none⟩)) rfl rfl rfl (fun w => at_el Tryz.underlying26 prssz47 rfl _ _ i (by omega) rfl w)) ?_
      refine TL.val rfl rfl rfl (gives_field (v := .pointer (some ⟨g_A8, 0 + i * 17 + 8, none⟩)) rfl rfl (fun w => prsfld47_8 _ _ w)) ?_
      refine TL.rowset (k := 0) (vs := [.bool true]) (xs' := flat Rs.cells (l.set i (⟨x45.v, x45.run, x45.num, x45.at_, x45.dst, x45.proto, x45.flow, x45.ttl, true, x45.dbl, x45.back, x45.src, x45.kind, x45.code, x45.left, x45.id, x45.quo⟩ : Rs))) rfl rfl rfl rfl rfl rfl rfl dresz4 dreone_b (by rw [flat_len rs_cel]; show 0 + i * 17 + 8 + 1 ≤ _; omega) (flat_put rs_cel (q := 8) (y := (⟨x45.v, x45.run, x45.num, x45.at_, x45.dst, x45.proto, x45.flow, x45.ttl, true, x45.dbl, x45.back, x45.src, x45.kind, x45.code, x45.left, x45.id, x45.quo⟩ : Rs)) hx45 (by show 8 + 1 ≤ 17; decide) rfl) ?_
      try dsimp only [List.set_cons_zero, List.set_cons_succ]
      refine TL.end_ (TX.in_normal (TX.then_ (TC.seq_ (TC.region ?_))))
      refine TL.mv ?_
      refine TL.as_ ?_
      refine TL.end_ (TX.then_ (TC.ret_ ?_))
      exact ret_tmp Tryz.results24 rfl (fun w1 hw => ⟨⟨(((some ⟨g_A8, 0, none⟩), c8), l.set i (⟨x45.v, x45.run, x45.num, x45.at_, x45.dst, x45.proto, x45.flow, x45.ttl, true, x45.dbl, x45.back, x45.src, x45.kind, x45.code, x45.left, x45.id, x45.quo⟩ : Rs)), ok_set hok (by first | exact hrs2 | (have h9 := hok _ (List.mem_of_getElem? (by assumption)); unfold Rs.Ok at h9 ⊢; dsimp only; omega)), by dsimp only; rw [List.length_set]; omega, by dsimp only; rw [List.length_set]; exact hA81, hA82⟩, by dsimp only; try rw [List.length_set], by dsimp only; try rw [List.length_set]; exact hw⟩)
    ·have q40 := of_decide_eq_false h40
     refine TL.as_ ?_
     refine TL.end_ (TX.then_ (TC.condF rfl (TC.seq_ (TC.region ?_))))
     refine TL.vsplit rfl rfl rfl (gives_bin rfl rfl rfl (fun w => bin_eql w)) (fun h52 => ?_) (fun h52 => ?_)
     ·have q52 := of_decide_eq_true h52
      refine TL.as_ ?_
      refine TL.end_ (TX.then_ (TC.condT rfl (TC.region ?_)))
      refine TL.mv ?_
      refine TL.mv ?_
      refine TL.mv ?_
      refine TL.prowS (e := 3) (size := 1) (cs := flat (ic .i64) [0, 1, 2, 255, 256]) rfl rfl rfl rfl rfl (fun w => dodbs48_5_22075 _ _ _ _ _ w) (by decide) rfl (fun g56 => ?_)
      refine TL.pcallCod (k := 2) (α := {v : Int // v ∈ ([0, 1, 2, 255, 256] : List Int)}) (fun x => .int .i64 x.1) (fun x => []) rfl rfl rfl rfl rfl Tryz.func75 ddrnm75 ddrbd75 rfl (fun w1 hw hC1 => pick_cod cb w1 hC1 g56 5 ([0, 1, 2, 255, 256]) (hw.neq (i := 0) (j := 2) rfl rfl (by decide) g56 rfl <| congrArg some ·.symm) (Pc.lt (hw.at_ (k := 0) rfl) g56 rfl).2 (by show 0 < ([0, 1, 2, 255, 256] : List Int).length; simp) (fun i v hi => flat_row1 hw (q := 0) rfl hi)) ?_
      rintro ⟨pk, hpk⟩
      dsimp only [List.cons_append, List.nil_append]
      refine TL.fact (p := ∃ g, A8 = some ⟨g, 0, none⟩) (fun w1 hw => rowA hw (k := 1) rfl (by omega)) ?_
      rintro ⟨g_A8, rfl⟩
      have hi58 : i < l.length := by omega
      obtain ⟨x58, hx58⟩ : ∃ x58, l[i]? = some x58 := ⟨_, List.getElem?_eq_getElem hi58⟩
      have hokx58 := hok x58 (List.mem_of_getElem? hx58)
      unfold Rs.Ok at hokx58
      refine TL.val rfl rfl rfl (gives_at (v := .pointer (some ⟨g_A8, 0 + i * 17, none⟩)) rfl rfl rfl (fun w => at_el Tryz.underlying26 prssz47 rfl _ _ i (by omega) rfl w)) ?_
      refine TL.val rfl rfl rfl (gives_field (v := .pointer (some ⟨g_A8, 0 + i * 17 + 7, none⟩)) rfl rfl (fun w => prsfld47_7 _ _ w)) ?_
      refine TL.rowset (k := 1) (vs := [.int .i64 pk]) (xs' := flat Rs.cells (l.set i (⟨x58.v, x58.run, x58.num, x58.at_, x58.dst, x58.proto, x58.flow, pk, x58.ans, x58.dbl, x58.back, x58.src, x58.kind, x58.code, x58.left, x58.id, x58.quo⟩ : Rs))) rfl rfl rfl rfl rfl rfl rfl pcmsz3 dreone_i64 (by rw [flat_len rs_cel]; show 0 + i * 17 + 7 + 1 ≤ _; omega) (flat_put rs_cel (q := 7) (y := (⟨x58.v, x58.run, x58.num, x58.at_, x58.dst, x58.proto, x58.flow, pk, x58.ans, x58.dbl, x58.back, x58.src, x58.kind, x58.code, x58.left, x58.id, x58.quo⟩ : Rs)) hx58 (by show 7 + 1 ≤ 17; decide) rfl) ?_
      try dsimp only [List.set_cons_zero, List.set_cons_succ]
      refine TL.end_ (TX.in_normal (TX.then_ (TC.seq_ (TC.region ?_))))
      refine TL.mv ?_
      refine TL.as_ ?_
      refine TL.end_ (TX.then_ (TC.ret_ ?_))
      exact ret_tmp Tryz.results24 rfl (fun w1 hw => ⟨⟨(((some ⟨g_A8, 0, none⟩), c8), l.set i (⟨x58.v, x58.run, x58.num, x58.at_, x58.dst, x58.proto, x58.flow, pk, x58.ans, x58.dbl, x58.back, x58.src, x58.kind, x58.code, x58.left, x58.id, x58.quo⟩ : Rs)), ok_set hok (by first | exact hrs2 | (have h9 := hok _ (List.mem_of_getElem? (by assumption)); unfold Rs.Ok at h9 ⊢; dsimp only; omega)), by dsimp only; rw [List.length_set]; omega, by dsimp only; rw [List.length_set]; exact hA81, hA82⟩, by dsimp only; try rw [List.length_set], by dsimp only; try rw [List.length_set]; exact hw.sel (.cons _ (.cons_cons _ (.cons_cons _ (.cons_cons _ (List.Sublist.refl _)))))⟩)
     ·have q52 := of_decide_eq_false h52
      refine TL.as_ ?_
      refine TL.end_ (TX.then_ (TC.condF rfl (TC.seq_ (TC.region ?_))))
      refine TL.vsplit rfl rfl rfl (gives_bin rfl rfl rfl (fun w => bin_eql w)) (fun h61 => ?_) (fun h61 => ?_)
      ·have q61 := of_decide_eq_true h61
       refine TL.as_ ?_
       refine TL.end_ (TX.then_ (TC.condT rfl ?_))
       refine TC.fact (p := ∃ g, A8 = some ⟨g, 0, none⟩) (fun w1 hw => rowA hw (k := 0) rfl (by omega)) ?_
       rintro ⟨g_A8, rfl⟩
       have hi67 : i < l.length := by omega
       obtain ⟨x67, hx67⟩ : ∃ x67, l[i]? = some x67 := ⟨_, List.getElem?_eq_getElem hi67⟩
       have hokx67 := hok x67 (List.mem_of_getElem? hx67)
       unfold Rs.Ok at hokx67
       refine TC.held (ls := #[Ff,Ff,Ff,Ff,Ff,Ff,Ff,Ff,Ff,Ff,Ff,Ff,Ff,Ff,Ff,Ff,Ff,Ff,Ff]) (fun w1 => ∃ b : Int, Pm w0 [.row (.slice (some ⟨g_A8, 0, none⟩) l.length c8) 47 17 l.length (flat Rs.cells (l.set i (⟨x67.v, x67.run, x67.num, x67.at_, x67.dst, x67.proto, x67.flow, x67.ttl, x67.ans, x67.dbl, b, x67.src, x67.kind, x67.code, x67.left, x67.id, x67.quo⟩ : Rs)))] w1) (by kernel_rfl) rfl rfl (fun w hw => hw.drawn _) ?_
       refine TH.tk (listed' := #[Tt,Ff,Ff,Ff,Ff,Ff,Ff,Ff,Ff,Ff,Ff,Ff,Ff,Ff,Ff,Ff,Ff,Ff,Ff]) 0 rfl rfl rfl (gives_move rfl rfl) (fun w1 hw => ⟨x67.back, by rw [set_self hx67]; exact hw.pick [0] (by decide) rfl⟩) ?_
       refine TH.tk (listed' := #[Tt,Tt,Ff,Ff,Ff,Ff,Ff,Ff,Ff,Ff,Ff,Ff,Ff,Ff,Ff,Ff,Ff,Ff,Ff]) 1 rfl rfl rfl (gives_move rfl rfl) (fun w1 hw => ⟨x67.back, by rw [set_self hx67]; exact hw.pick [0] (by decide) rfl⟩) ?_
       refine TH.tk (listed' := #[Tt,Tt,Tt,Ff,Ff,Ff,Ff,Ff,Ff,Ff,Ff,Ff,Ff,Ff,Ff,Ff,Ff,Ff,Ff]) 2 rfl rfl rfl (gives_move rfl rfl) (fun w1 hw => ⟨x67.back, by rw [set_self hx67]; exact hw.pick [0] (by decide) rfl⟩) ?_
       refine TH.tk (listed' := #[Tt,Tt,Tt,Tt,Ff,Ff,Ff,Ff,Ff,Ff,Ff,Ff,Ff,Ff,Ff,Ff,Ff,Ff,Ff]) 3 rfl rfl rfl (gives_move rfl rfl) (fun w1 hw => ⟨x67.back, by rw [set_self hx67]; exact hw.pick [0] (by decide) rfl⟩) ?_
       refine TH.tk (listed' := #[Tt,Tt,Tt,Tt,Tt,Ff,Ff,Ff,Ff,Ff,Ff,Ff,Ff,Ff,Ff,Ff,Ff,Ff,Ff]) 4 rfl rfl rfl (gives_move rfl rfl) (fun w1 hw => ⟨x67.back, by rw [set_self hx67]; exact hw.pick [0] (by decide) rfl⟩) ?_
       refine TH.tk (listed' := #[Tt,Tt,Tt,Tt,Tt,Tt,Ff,Ff,Ff,Ff,Ff,Ff,Ff,Ff,Ff,Ff,Ff,Ff,Ff]) 5 rfl rfl rfl (gives_at (v := .pointer (some ⟨g_A8, 0 + i * 17, none⟩)) rfl rfl rfl (fun w => at_el Tryz.underlying26 prssz47 rfl _ _ i (by omega) rfl w)) (fun w1 hw => ⟨x67.back, by rw [set_self hx67]; exact hw.pick [0] (by decide) rfl⟩) ?_
       refine TH.tk (listed' := #[Tt,Tt,Tt,Tt,Tt,Tt,Tt,Ff,Ff,Ff,Ff,Ff,Ff,Ff,Ff,Ff,Ff,Ff,Ff]) 6 rfl rfl rfl (gives_field (v := .pointer (some ⟨g_A8, 0 + i * 17 + 3, none⟩)) rfl rfl (fun w => prsfld47_3 _ _ w)) (fun w1 hw => ⟨x67.back, by rw [set_self hx67]; exact hw.pick [0] (by decide) rfl⟩) ?_
       refine TH.tk (listed' := #[Tt,Tt,Tt,Tt,Tt,Tt,Tt,Tt,Ff,Ff,Ff,Ff,Ff,Ff,Ff,Ff,Ff,Ff,Ff]) 7 rfl rfl rfl (gives_load (v := .int .i64 x67.at_) rfl rfl pcmag3 (fun w1 hw => by obtain ⟨b, hw⟩ := hw; exact flat_row rs_cel hw (q := 0) rfl (set_at hx67) 3 _ rfl)) (fun w1 hw => ⟨x67.back, by rw [set_self hx67]; exact hw.pick [0] (by decide) rfl⟩) ?_
       refine TH.tk (listed' := #[Tt,Tt,Tt,Tt,Tt,Tt,Tt,Tt,Tt,Ff,Ff,Ff,Ff,Ff,Ff,Ff,Ff,Ff,Ff]) 8 rfl rfl rfl (gives_move rfl rfl) (fun w1 hw => ⟨x67.back, by rw [set_self hx67]; exact hw.pick [0] (by decide) rfl⟩) ?_
       refine TH.tk (listed' := #[Tt,Tt,Tt,Tt,Tt,Tt,Tt,Tt,Tt,Tt,Ff,Ff,Ff,Ff,Ff,Ff,Ff,Ff,Ff]) 9 rfl rfl rfl (gives_move rfl rfl) (fun w1 hw => ⟨x67.back, by rw [set_self hx67]; exact hw.pick [0] (by decide) rfl⟩) ?_
       refine TH.tk (listed' := #[Tt,Tt,Tt,Tt,Tt,Tt,Tt,Tt,Tt,Tt,Tt,Ff,Ff,Ff,Ff,Ff,Ff,Ff,Ff]) 10 rfl rfl rfl (gives_at (v := .pointer (some ⟨g_A8, 0 + i * 17, none⟩)) rfl rfl rfl (fun w => at_el Tryz.underlying26 prssz47 rfl _ _ i (by omega) rfl w)) (fun w1 hw => ⟨x67.back, by rw [set_self hx67]; exact hw.pick [0] (by decide) rfl⟩) ?_
       refine TH.tk (listed' := #[Tt,Tt,Tt,Tt,Tt,Tt,Tt,Tt,Tt,Tt,Tt,Tt,Ff,Ff,Ff,Ff,Ff,Ff,Ff]) 11 rfl rfl rfl (gives_field (v := .pointer (some ⟨g_A8, 0 + i * 17 + 3, none⟩)) rfl rfl (fun w => prsfld47_3 _ _ w)) (fun w1 hw => ⟨x67.back, by rw [set_self hx67]; exact hw.pick [0] (by decide) rfl⟩) ?_
       refine TH.tk (listed' := #[Tt,Tt,Tt,Tt,Tt,Tt,Tt,Tt,Tt,Tt,Tt,Tt,Tt,Ff,Ff,Ff,Ff,Ff,Ff]) 12 rfl rfl rfl (gives_load (v := .int .i64 x67.at_) rfl rfl pcmag3 (fun w1 hw => by obtain ⟨b, hw⟩ := hw; exact flat_row rs_cel hw (q := 0) rfl (set_at hx67) 3 _ rfl)) (fun w1 hw => ⟨x67.back, by rw [set_self hx67]; exact hw.pick [0] (by decide) rfl⟩) ?_
       refine TH.tk (listed' := #[Tt,Tt,Tt,Tt,Tt,Tt,Tt,Tt,Tt,Tt,Tt,Tt,Tt,Tt,Ff,Ff,Ff,Ff,Ff]) 13 rfl rfl rfl (gives_bin rfl rfl rfl (fun w => bin_sub_ (r := IntKind.i64.wrap (x67.at_ - 1)) (rfl) w)) (fun w1 hw => ⟨x67.back, by rw [set_self hx67]; exact hw.pick [0] (by decide) rfl⟩) ?_
       refine TH.only' (listed' := #[Tt,Tt,Tt,Tt,Tt,Tt,Tt,Tt,Tt,Tt,Tt,Tt,Tt,Tt,Tt,Ff,Ff,Ff,Ff]) 14 rfl (by kernel_rfl) rfl ?_
       refine TL.prowS (e := 3) (size := 1) (cs := flat (ic .i64) [x67.at_, IntKind.i64.wrap (x67.at_ - 1), 2251799813685248, 2251799813685249]) rfl rfl rfl rfl rfl (fun w => dodbs48_4_78574 _ _ _ _ w) (by decide) rfl (fun g76 => ?_)
       refine TL.end_ ?_
       refine TX.held (fun w1 hw => ⟨x67.back, by rw [set_self hx67]; exact hw.pick [1] (by decide) rfl⟩) ?_
       refine TH.only' (listed' := #[Tt,Tt,Tt,Tt,Tt,Tt,Tt,Tt,Tt,Tt,Tt,Tt,Tt,Tt,Tt,Tt,Ff,Ff,Ff]) 15 rfl (by kernel_rfl) rfl ?_
       refine TL.pcallCod (k := 2) (α := {v : Int // v ∈ ([x67.at_, IntKind.i64.wrap (x67.at_ - 1), 2251799813685248, 2251799813685249] : List Int)}) (fun x => .int .i64 x.1) (fun x => []) rfl rfl rfl rfl rfl Tryz.func75 ddrnm75 ddrbd75 rfl (fun w1 hw hC1 => pick_cod cb w1 hC1 g76 4 ([x67.at_, IntKind.i64.wrap (x67.at_ - 1), 2251799813685248, 2251799813685249]) (hw.neq (i := 0) (j := 2) rfl rfl (by decide) g76 rfl <| congrArg some ·.symm) (Pc.lt (hw.at_ (k := 0) rfl) g76 rfl).2 (by show 0 < ([x67.at_, IntKind.i64.wrap (x67.at_ - 1), 2251799813685248, 2251799813685249] : List Int).length; simp) (fun i v hi => flat_row1 hw (q := 0) rfl hi)) ?_
       rintro ⟨pk, hpk⟩
       dsimp only [List.cons_append, List.nil_append]
       refine TL.end_ ?_
       refine TX.held (fun w1 hw => ⟨x67.back, by rw [set_self hx67]; exact hw.pick [1] (by decide) rfl⟩) ?_
       refine TH.tk (listed' := #[Tt,Tt,Tt,Tt,Tt,Tt,Tt,Tt,Tt,Tt,Tt,Tt,Tt,Tt,Tt,Tt,Tt,Ff,Ff]) 16 rfl rfl rfl (gives_at (v := .pointer (some ⟨g_A8, 0 + i * 17, none⟩)) rfl rfl rfl (fun w => at_el Tryz.underlying26 prssz47 rfl _ _ i (by omega) rfl w)) (fun w1 hw => ⟨x67.back, by rw [set_self hx67]; exact hw.pick [1] (by decide) rfl⟩) ?_
       refine TH.tk (listed' := #[Tt,Tt,Tt,Tt,Tt,Tt,Tt,Tt,Tt,Tt,Tt,Tt,Tt,Tt,Tt,Tt,Tt,Tt,Ff]) 17 rfl rfl rfl (gives_field (v := .pointer (some ⟨g_A8, 0 + i * 17 + 10, none⟩)) rfl rfl (fun w => prsfld47_10 _ _ w)) (fun w1 hw => ⟨x67.back, by rw [set_self hx67]; exact hw.pick [1] (by decide) rfl⟩) ?_
       refine TH.only' (listed' := #[Tt,Tt,Tt,Tt,Tt,Tt,Tt,Tt,Tt,Tt,Tt,Tt,Tt,Tt,Tt,Tt,Tt,Tt,Tt]) 18 rfl (by kernel_rfl) rfl ?_
       refine TL.rowset (k := 1) (vs := [.int .i64 pk]) (xs' := flat Rs.cells (l.set i (⟨x67.v, x67.run, x67.num, x67.at_, x67.dst, x67.proto, x67.flow, x67.ttl, x67.ans, x67.dbl, pk, x67.src, x67.kind, x67.code, x67.left, x67.id, x67.quo⟩ : Rs))) rfl rfl rfl rfl rfl rfl rfl pcmsz3 dreone_i64 (by rw [flat_len rs_cel]; show 0 + i * 17 + 10 + 1 ≤ _; omega) (flat_put rs_cel (q := 10) (y := (⟨x67.v, x67.run, x67.num, x67.at_, x67.dst, x67.proto, x67.flow, x67.ttl, x67.ans, x67.dbl, pk, x67.src, x67.kind, x67.code, x67.left, x67.id, x67.quo⟩ : Rs)) hx67 (by show 10 + 1 ≤ 17; decide) rfl) ?_
       try dsimp only [List.set_cons_zero, List.set_cons_succ]
       refine TL.end_ ?_
       refine TX.held (fun w1 hw => ⟨pk, hw.pick [1] (by decide) rfl⟩) ?_
       refine TH.done (by kernel_rfl) ?_
       refine TX.in_normal (TX.then_ (TC.seq_ (TC.region ?_)))
       refine TL.mv ?_
       refine TL.as_ ?_
       refine TL.end_ (TX.then_ (TC.ret_ ?_))
       exact ret_tmp Tryz.results24 rfl (fun w1 hw => ⟨⟨(((some ⟨g_A8, 0, none⟩), c8), l.set i (⟨x67.v, x67.run, x67.num, x67.at_, x67.dst, x67.proto, x67.flow, x67.ttl, x67.ans, x67.dbl, pk, x67.src, x67.kind, x67.code, x67.left, x67.id, x67.quo⟩ : Rs)), ok_set hok (by first | exact hrs2 | (have h9 := hok _ (List.mem_of_getElem? (by assumption)); unfold Rs.Ok at h9 ⊢; dsimp only; omega)), by dsimp only; rw [List.length_set]; omega, by dsimp only; rw [List.length_set]; exact hA81, hA82⟩, by dsimp only; try rw [List.length_set], by dsimp only; try rw [List.length_set]; exact hw.sel (.cons _ (.cons_cons _ (.cons_cons _ (.cons_cons _ (List.Sublist.refl _)))))⟩)
      ·have q61 := of_decide_eq_false h61
       refine TL.as_ ?_
       refine TL.end_ (TX.then_ (TC.condF rfl (TC.seq_ (TC.region ?_))))
       refine TL.vsplit rfl rfl rfl (gives_bin rfl rfl rfl (fun w => bin_eql w)) (fun h81 => ?_) (fun h81 => ?_)
       ·have q81 := of_decide_eq_true h81
        refine TL.as_ ?_
        refine TL.end_ (TX.then_ (TC.condT rfl (TC.region ?_)))
        iterate 5 (first | refine TL.mv ?_)
        refine TL.val rfl rfl rfl (gives_len rfl Tryz.underlying26 rfl) ?_
        refine TL.pcallCod (k := 1) (α := {q9 : Nat // q9 ≤ 65535 ∧ (1 ≤ ((l.length : Nat) : Int) → (q9 : Int) < (l.length : Nat))}) (fun q9 => .int .i64 ((q9.1 : Nat) : Int)) (fun q9 => []) rfl rfl rfl rfl rfl Tryz.func25 ddrnm25 ddrbd25 rfl (fun w1 hw hC1 => next_cod cb w1 (l.length : Nat) hC1) ?_
        rintro ⟨j, hj1, hj2⟩
        dsimp only [List.cons_append, List.nil_append]
        refine TL.fact (p := ∃ g, A8 = some ⟨g, 0, none⟩) (fun w1 hw => rowA hw (k := 0) rfl (by omega)) ?_
        rintro ⟨g_A8, rfl⟩
        have hi89 : j < l.length := by omega
        obtain ⟨x89, hx89⟩ : ∃ x89, l[j]? = some x89 := ⟨_, List.getElem?_eq_getElem hi89⟩
        have hokx89 := hok x89 (List.mem_of_getElem? hx89)
        unfold Rs.Ok at hokx89
        refine TL.val rfl rfl rfl (gives_at (v := .pointer (some ⟨g_A8, 0 + j * 17, none⟩)) rfl rfl rfl (fun w => at_el Tryz.underlying26 prssz47 rfl _ _ j (by omega) rfl w)) ?_
        refine TL.val rfl rfl rfl (gives_field (v := .pointer (some ⟨g_A8, 0 + j * 17 + 2, none⟩)) rfl rfl (fun w => prsfld47_2 _ _ w)) ?_
        refine TL.val rfl rfl rfl (gives_load (v := .int .i64 x89.num) rfl rfl pcmag3 (fun w1 hw => flat_row rs_cel hw (q := 0) rfl hx89 2 _ rfl)) ?_
        have hi92 : i < l.length := by omega
        obtain ⟨x92, hx92⟩ : ∃ x92, l[i]? = some x92 := ⟨_, List.getElem?_eq_getElem hi92⟩
        have hokx92 := hok x92 (List.mem_of_getElem? hx92)
        unfold Rs.Ok at hokx92
        refine TL.val rfl rfl rfl (gives_at (v := .pointer (some ⟨g_A8, 0 + i * 17, none⟩)) rfl rfl rfl (fun w => at_el Tryz.underlying26 prssz47 rfl _ _ i (by omega) rfl w)) ?_
        refine TL.val rfl rfl rfl (gives_field (v := .pointer (some ⟨g_A8, 0 + i * 17 + 2, none⟩)) rfl rfl (fun w => prsfld47_2 _ _ w)) ?_
        refine TL.rowset (k := 0) (vs := [.int .i64 x89.num]) (xs' := flat Rs.cells (l.set i (⟨x92.v, x92.run, x89.num, x92.at_, x92.dst, x92.proto, x92.flow, x92.ttl, x92.ans, x92.dbl, x92.back, x92.src, x92.kind, x92.code, x92.left, x92.id, x92.quo⟩ : Rs))) rfl rfl rfl rfl rfl rfl rfl pcmsz3 dreone_i64 (by rw [flat_len rs_cel]; show 0 + i * 17 + 2 + 1 ≤ _; omega) (flat_put rs_cel (q := 2) (y := (⟨x92.v, x92.run, x89.num, x92.at_, x92.dst, x92.proto, x92.flow, x92.ttl, x92.ans, x92.dbl, x92.back, x92.src, x92.kind, x92.code, x92.left, x92.id, x92.quo⟩ : Rs)) hx92 (by show 2 + 1 ≤ 17; decide) rfl) ?_
        try dsimp only [List.set_cons_zero, List.set_cons_succ]
        refine TL.end_ (TX.in_normal (TX.then_ (TC.seq_ (TC.region ?_))))
        refine TL.mv ?_
        refine TL.as_ ?_
        refine TL.end_ (TX.then_ (TC.ret_ ?_))
        exact ret_tmp Tryz.results24 rfl (fun w1 hw => ⟨⟨(((some ⟨g_A8, 0, none⟩), c8), l.set i (⟨x92.v, x92.run, x89.num, x92.at_, x92.dst, x92.proto, x92.flow, x92.ttl, x92.ans, x92.dbl, x92.back, x92.src, x92.kind, x92.code, x92.left, x92.id, x92.quo⟩ : Rs)), ok_set hok (by first | exact hrs2 | (have h9 := hok _ (List.mem_of_getElem? (by assumption)); unfold Rs.Ok at h9 ⊢; dsimp only; omega)), by dsimp only; rw [List.length_set]; omega, by dsimp only; rw [List.length_set]; exact hA81, hA82⟩, by dsimp only; try rw [List.length_set], by dsimp only; try rw [List.length_set]; exact hw⟩)
       ·have q81 := of_decide_eq_false h81
        refine TL.as_ ?_
        refine TL.end_ (TX.then_ (TC.condF rfl (TC.seq_ (TC.region ?_))))
        refine TL.vsplit rfl rfl rfl (gives_bin rfl rfl rfl (fun w => bin_eql w)) (fun h95 => ?_) (fun h95 => ?_)
        ·have q95 := of_decide_eq_true h95
         refine TL.as_ ?_
         refine TL.end_ (TX.then_ (TC.condT rfl (TC.region ?_)))
         refine TL.mv ?_
         refine TL.mv ?_
         refine TL.mv ?_
         refine TL.pcallCod (k := 1) (α := {q9 : Nat // q9 ≤ 65535 ∧ (1 ≤ (2 : Int) → (q9 : Int) < 2)}) (fun q9 => .int .i64 ((q9.1 : Nat) : Int)) (fun q9 => []) rfl rfl rfl rfl rfl Tryz.func25 ddrnm25 ddrbd25 rfl (fun w1 hw hC1 => next_cod cb w1 2 hC1) ?_
         rintro ⟨dz, hdz1, hdz2⟩
         dsimp only [List.cons_append, List.nil_append]
         refine TL.val rfl rfl rfl (gives_conv rfl rfl (fun w => conv_fit (k := .i64) Tryz.underlying30 Tryz.underlying3 (by simp only [IntKind.wrap_u32]; omega) w)) ?_
         refine TL.fact (p := ∃ g, A8 = some ⟨g, 0, none⟩) (fun w1 hw => rowA hw (k := 0) rfl (by omega)) ?_
         rintro ⟨g_A8, rfl⟩
         have hi101 : i < l.length := by omega
         obtain ⟨x101, hx101⟩ : ∃ x101, l[i]? = some x101 := ⟨_, List.getElem?_eq_getElem hi101⟩
         have hokx101 := hok x101 (List.mem_of_getElem? hx101)
         unfold Rs.Ok at hokx101
         refine TL.val rfl rfl rfl (gives_at (v := .pointer (some ⟨g_A8, 0 + i * 17, none⟩)) rfl rfl rfl (fun w => at_el Tryz.underlying26 prssz47 rfl _ _ i (by omega) rfl w)) ?_
         refine TL.val rfl rfl rfl (gives_field (v := .pointer (some ⟨g_A8, 0 + i * 17 + 4, none⟩)) rfl rfl (fun w => prsfld47_4 _ _ w)) ?_
         refine TL.rowset (k := 0) (vs := [.int .u32 ((dz : Nat) : Int)]) (xs' := flat Rs.cells (l.set i (⟨x101.v, x101.run, x101.num, x101.at_, ((dz : Nat) : Int), x101.proto, x101.flow, x101.ttl, x101.ans, x101.dbl, x101.back, x101.src, x101.kind, x101.code, x101.left, x101.id, x101.quo⟩ : Rs))) rfl rfl rfl rfl rfl rfl rfl dntsz30 dntone_u32 (by rw [flat_len rs_cel]; show 0 + i * 17 + 4 + 1 ≤ _; omega) (flat_put rs_cel (q := 4) (y := (⟨x101.v, x101.run, x101.num, x101.at_, ((dz : Nat) : Int), x101.proto, x101.flow, x101.ttl, x101.ans, x101.dbl, x101.back, x101.src, x101.kind, x101.code, x101.left, x101.id, x101.quo⟩ : Rs)) hx101 (by show 4 + 1 ≤ 17; decide) rfl) ?_
         try dsimp only [List.set_cons_zero, List.set_cons_succ]
         refine TL.end_ (TX.in_normal (TX.then_ (TC.seq_ (TC.region ?_))))
         refine TL.mv ?_
         refine TL.as_ ?_
         refine TL.end_ (TX.then_ (TC.ret_ ?_))
         exact ret_tmp Tryz.results24 rfl (fun w1 hw => ⟨⟨(((some ⟨g_A8, 0, none⟩), c8), l.set i (⟨x101.v, x101.run, x101.num, x101.at_, ((dz : Nat) : Int), x101.proto, x101.flow, x101.ttl, x101.ans, x101.dbl, x101.back, x101.src, x101.kind, x101.code, x101.left, x101.id, x101.quo⟩ : Rs)), ok_set hok (by first | exact hrs2 | (have h9 := hok _ (List.mem_of_getElem? (by assumption)); unfold Rs.Ok at h9 ⊢; dsimp only; omega)), by dsimp only; rw [List.length_set]; omega, by dsimp only; rw [List.length_set]; exact hA81, hA82⟩, by dsimp only; try rw [List.length_set], by dsimp only; try rw [List.length_set]; exact hw⟩)
        ·have q95 := of_decide_eq_false h95
         refine TL.as_ ?_
         refine TL.end_ (TX.then_ (TC.condF rfl (TC.seq_ (TC.region ?_))))
         refine TL.vsplit rfl rfl rfl (gives_bin rfl rfl rfl (fun w => bin_eql w)) (fun h104 => ?_) (fun h104 => ?_)
         ·have q104 := of_decide_eq_true h104
          refine TL.as_ ?_
          refine TL.end_ (TX.then_ (TC.condT rfl (TC.region ?_)))
          iterate 4 (first | refine TL.mv ?_)
          refine TL.fact (p := ∃ g, A8 = some ⟨g, 0, none⟩) (fun w1 hw => rowA hw (k := 0) rfl (by omega)) ?_
          rintro ⟨g_A8, rfl⟩
          have hi109 : i < l.length := by omega
          obtain ⟨x109, hx109⟩ : ∃ x109, l[i]? = some x109 := ⟨_, List.getElem?_eq_getElem hi109⟩
          have hokx109 := hok x109 (List.mem_of_getElem? hx109)
          unfold Rs.Ok at hokx109
          refine TL.val rfl rfl rfl (gives_at (v := .pointer (some ⟨g_A8, 0 + i * 17, none⟩)) rfl rfl rfl (fun w => at_el Tryz.underlying26 prssz47 rfl _ _ i (by omega) rfl w)) ?_
          refine TL.val rfl rfl rfl (gives_field (v := .pointer (some ⟨g_A8, 0 + i * 17 + 9, none⟩)) rfl rfl (fun w => prsfld47_9 _ _ w)) ?_
          refine TL.vsplit rfl rfl rfl (gives_load (v := .bool x109.dbl) rfl rfl prsag4 (fun w1 hw => flat_row rs_cel hw (q := 0) rfl hx109 9 _ rfl)) (fun h111 => ?_) (fun h111 => ?_)
          ·refine TL.val rfl rfl rfl (gives_boolnot rfl rfl) ?_
           refine TL.val rfl rfl rfl (gives_at (v := .pointer (some ⟨g_A8, 0 + i * 17, none⟩)) rfl rfl rfl (fun w => at_el Tryz.underlying26 prssz47 rfl _ _ i (by omega) rfl w)) ?_
           refine TL.val rfl rfl rfl (gives_field (v := .pointer (some ⟨g_A8, 0 + i * 17 + 9, none⟩)) rfl rfl (fun w => prsfld47_9 _ _ w)) ?_
           refine TL.rowset (k := 0) (vs := [.bool false]) (xs' := flat Rs.cells (l.set i (⟨x109.v, x109.run, x109.num, x109.at_, x109.dst, x109.proto, x109.flow, x109.ttl, x109.ans, false, x109.back, x109.src, x109.kind, x109.code, x109.left, x109.id, x109.quo⟩ : Rs))) rfl rfl rfl rfl rfl rfl rfl dresz4 dreone_b (by rw [flat_len rs_cel]; show 0 + i * 17 + 9 + 1 ≤ _; omega) (flat_put rs_cel (q := 9) (y := (⟨x109.v, x109.run, x109.num, x109.at_, x109.dst, x109.proto, x109.flow, x109.ttl, x109.ans, false, x109.back, x109.src, x109.kind, x109.code, x109.left, x109.id, x109.quo⟩ : Rs)) hx109 (by show 9 + 1 ≤ 17; decide) rfl) ?_
           try dsimp only [List.set_cons_zero, List.set_cons_succ]
           refine TL.end_ (TX.in_normal (TX.then_ (TC.seq_ (TC.region ?_))))
           refine TL.mv ?_
           refine TL.as_ ?_
           refine TL.end_ (TX.then_ (TC.ret_ ?_))
           exact ret_tmp Tryz.results24 rfl (fun w1 hw => ⟨⟨(((some ⟨g_A8, 0, none⟩), c8), l.set i (⟨x109.v, x109.run, x109.num, x109.at_, x109.dst, x109.proto, x109.flow, x109.ttl, x109.ans, false, x109.back, x109.src, x109.kind, x109.code, x109.left, x109.id, x109.quo⟩ : Rs)), ok_set hok (by first | exact hrs2 | (have h9 := hok _ (List.mem_of_getElem? (by assumption)); unfold Rs.Ok at h9 ⊢; dsimp only; omega)), by dsimp only; rw [List.length_set]; omega, by dsimp only; rw [List.length_set]; exact hA81, hA82⟩, by dsimp only; try rw [List.length_set], by dsimp only; try rw [List.length_set]; exact hw⟩)
          ·refine TL.val rfl rfl rfl (gives_boolnot rfl rfl) ?_
           refine TL.val rfl rfl rfl (gives_at (v := .pointer (some ⟨g_A8, 0 + i * 17, none⟩)) rfl rfl rfl (fun w => at_el Tryz.underlying26 prssz47 rfl _ _ i (by omega) rfl w)) ?_
           refine TL.val rfl rfl rfl (gives_field (v := .pointer (some ⟨g_A8, 0 + i * 17 + 9, none⟩)) rfl rfl (fun w => prsfld47_9 _ _ w)) ?_
           refine TL.rowset (k := 0) (vs := [.bool true]) (xs' := flat Rs.cells (l.set i (⟨x109.v, x109.run, x109.num, x109.at_, x109.dst, x109.proto, x109.flow, x109.ttl, x109.ans, true, x109.back, x109.src, x109.kind, x109.code, x109.left, x109.id, x109.quo⟩ : Rs))) rfl rfl rfl rfl rfl rfl rfl dresz4 dreone_b (by rw [flat_len rs_cel]; show 0 + i * 17 + 9 + 1 ≤ _; omega) (flat_put rs_cel (q := 9) (y := (⟨x109.v, x109.run, x109.num, x109.at_, x109.dst, x109.proto, x109.flow, x109.ttl, x109.ans, true, x109.back, x109.src, x109.kind, x109.code, x109.left, x109.id, x109.quo⟩ : Rs)) hx109 (by show 9 + 1 ≤ 17; decide) rfl) ?_
           try dsimp only [List.set_cons_zero, List.set_cons_succ]
           refine TL.end_ (TX.in_normal (TX.then_ (TC.seq_ (TC.region ?_))))
           refine TL.mv ?_
           refine TL.as_ ?_
           refine TL.end_ (TX.then_ (TC.ret_ ?_))
           exact ret_tmp Tryz.results24 rfl (fun w1 hw => ⟨⟨(((some ⟨g_A8, 0, none⟩), c8), l.set i (⟨x109.v, x109.run, x109.num, x109.at_, x109.dst, x109.proto, x109.flow, x109.ttl, x109.ans, true, x109.back, x109.src, x109.kind, x109.code, x109.left, x109.id, x109.quo⟩ : Rs)), ok_set hok (by first | exact hrs2 | (have h9 := hok _ (List.mem_of_getElem? (by assumption)); unfold Rs.Ok at h9 ⊢; dsimp only; omega)), by dsimp only; rw [List.length_set]; omega, by dsimp only; rw [List.length_set]; exact hA81, hA82⟩, by dsimp only; try rw [List.length_set], by dsimp only; try rw [List.length_set]; exact hw⟩)
         ·have q104 := of_decide_eq_false h104
          refine TL.as_ ?_
          refine TL.end_ (TX.then_ (TC.condF rfl (TC.seq_ (TC.region ?_))))
          refine TL.vsplit rfl rfl rfl (gives_bin rfl rfl rfl (fun w => bin_eql w)) (fun h116 => ?_) (fun h116 => ?_)
          ·have q116 := of_decide_eq_true h116
           refine TL.as_ ?_
           refine TL.end_ (TX.then_ (TC.condT rfl (TC.region ?_)))
           refine TL.mv ?_
           refine TL.mv ?_
           refine TL.mv ?_
           refine TL.pcallCod (k := 1) (α := {q9 : Nat // q9 ≤ 65535 ∧ (1 ≤ (7 : Int) → (q9 : Int) < 7)}) (fun q9 => .int .i64 ((q9.1 : Nat) : Int)) (fun q9 => []) rfl rfl rfl rfl rfl Tryz.func25 ddrnm25 ddrbd25 rfl (fun w1 hw hC1 => next_cod cb w1 7 hC1) ?_
           rintro ⟨kd, hkd1, hkd2⟩
           dsimp only [List.cons_append, List.nil_append]
           refine TL.fact (p := ∃ g, A8 = some ⟨g, 0, none⟩) (fun w1 hw => rowA hw (k := 0) rfl (by omega)) ?_
           rintro ⟨g_A8, rfl⟩
           have hi121 : i < l.length := by omega
           obtain ⟨x121, hx121⟩ : ∃ x121, l[i]? = some x121 := ⟨_, List.getElem?_eq_getElem hi121⟩
           have hokx121 := hok x121 (List.mem_of_getElem? hx121)
           unfold Rs.Ok at hokx121
           refine TL.val rfl rfl rfl (gives_at (v := .pointer (some ⟨g_A8, 0 + i * 17, none⟩)) rfl rfl rfl (fun w => at_el Tryz.underlying26 prssz47 rfl _ _ i (by omega) rfl w)) ?_
           refine TL.val rfl rfl rfl (gives_field (v := .pointer (some ⟨g_A8, 0 + i * 17 + 11, none⟩)) rfl rfl (fun w => prsfld47_11 _ _ w)) ?_
           refine TL.val rfl rfl rfl (gives_field (v := .pointer (some ⟨g_A8, 0 + i * 17 + 12, none⟩)) rfl rfl (fun w => prsfld45_1 _ _ w)) ?_
           refine TL.rowset (k := 0) (vs := [.int .i64 ((kd : Nat) : Int)]) (xs' := flat Rs.cells (l.set i (⟨x121.v, x121.run, x121.num, x121.at_, x121.dst, x121.proto, x121.flow, x121.ttl, x121.ans, x121.dbl, x121.back, x121.src, ((kd : Nat) : Int), x121.code, x121.left, x121.id, x121.quo⟩ : Rs))) rfl rfl rfl rfl rfl rfl rfl pcmsz3 dreone_i64 (by rw [flat_len rs_cel]; show 0 + i * 17 + 12 + 1 ≤ _; omega) (flat_put rs_cel (q := 12) (y := (⟨x121.v, x121.run, x121.num, x121.at_, x121.dst, x121.proto, x121.flow, x121.ttl, x121.ans, x121.dbl, x121.back, x121.src, ((kd : Nat) : Int), x121.code, x121.left, x121.id, x121.quo⟩ : Rs)) hx121 (by show 12 + 1 ≤ 17; decide) rfl) ?_
           try dsimp only [List.set_cons_zero, List.set_cons_succ]
           refine TL.end_ (TX.in_normal (TX.then_ (TC.seq_ (TC.region ?_))))
           refine TL.mv ?_
           refine TL.as_ ?_
           refine TL.end_ (TX.then_ (TC.ret_ ?_))
           exact ret_tmp Tryz.results24 rfl (fun w1 hw => ⟨⟨(((some ⟨g_A8, 0, none⟩), c8), l.set i (⟨x121.v, x121.run, x121.num, x121.at_, x121.dst, x121.proto, x121.flow, x121.ttl, x121.ans, x121.dbl, x121.back, x121.src, ((kd : Nat) : Int), x121.code, x121.left, x121.id, x121.quo⟩ : Rs)), ok_set hok (by first | exact hrs2 | (have h9 := hok _ (List.mem_of_getElem? (by assumption)); unfold Rs.Ok at h9 ⊢; dsimp only; omega)), by dsimp only; rw [List.length_set]; omega, by dsimp only; rw [List.length_set]; exact hA81, hA82⟩, by dsimp only; try rw [List.length_set], by dsimp only; try rw [List.length_set]; exact hw⟩)
          ·have q116 := of_decide_eq_false h116
           refine TL.as_ ?_
           refine TL.end_ (TX.then_ (TC.condF rfl (TC.skip_ (TX.in_normal (TX.then_ (TC.seq_ (TC.region ?_)))))))
           refine TL.mv ?_
           refine TL.as_ ?_
           refine TL.end_ (TX.then_ (TC.ret_ ?_))
           exact ret_tmp Tryz.results24 rfl (fun w1 hw => ⟨⟨((A8, c8), l), hok, by dsimp only; omega, hA81, hA82⟩, rfl, hw⟩)
end Go.Proofs.YtnejdeklnmkhbaaGreat
