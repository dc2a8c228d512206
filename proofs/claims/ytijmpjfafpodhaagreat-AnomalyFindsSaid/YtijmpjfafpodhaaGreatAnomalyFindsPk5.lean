/-
  Texts of the proof, joined: DcRs, DcShu, DcRes, SymRdA, DcRep, AnAwk, AnRC, AnRP, AnEq, SymNew, AnLk, AnPut, AnFR.
-/
import Derived.Test.YtijmpjfafpodhaaGreatAnomalyFindsPk3
import Derived.Test.YtijmpjfafpodhaaGreatAnomalyFindsPk4
import Derived.Test.YtijmpjfafpodhaaGreatAnomalyFindsPk2
import Derived.Test.YtijmpjfafpodhaaGreatAnomalyFindsPk1
import Derived.Laws.StructEq
import Derived.Laws.Tables
import Derived.Laws.Small
import Derived.Laws.Pointers
import Derived.Laws.Cover2
import Derived.WalkKit
import Derived.KernelRfl
import Derived.Laws.OwnMore
set_option linter.unusedVariables false
set_option linter.unusedSimpArgs false
namespace Go.Proofs.YtijmpjfafpodhaaGreat
set_option maxHeartbeats 1000000
open Go.RowKit
set_option maxRecDepth 20000
def NetsOk (ns : List Nt) (PP : List (Sg (Sg Int))) : Prop := 1 ≤ ns.length ∧ ns.length ≤ 2 ∧ ∀ n ∈ ns, NtOk n ∧ n.ps ∈ PP
def netsP (PP : List (Sg (Sg Int))) : List Pc := segG 96 1 (flat sgc) PP ++ segG 30 1 (flat (ic .u32)) (PP.flatMap (·.l))
theorem Pm.netIn {w0 : Base} {w : World} {p : Sg (Sg Int)} {P O : List Pc} {PP : List (Sg (Sg Int))} (h : Pm w0 (netP p ++ (P ++ (netsP PP ++ O))) w) : Pm w0 (P ++ (netsP (p :: PP) ++ O)) w := by
 refine h.permute ?_
 have e : netsP (p :: PP) = .row (.slice p.A p.l.length p.c) 96 1 p.l.length (flat sgc p.l) :: (segG 96 1 (flat sgc) PP ++ (segG 30 1 (flat (ic .u32)) p.l ++ segG 30 1 (flat (ic .u32)) (PP.flatMap (·.l)))) := by
  unfold netsP segG
  rw [List.flatMap_cons, List.map_append]
  rfl
 have h1 : (netP p ++ netsP PP).Perm (netsP (p :: PP)) := by
  rw [e]
  unfold netP netsP
  rw [List.cons_append]
  refine List.Perm.cons _ ?_
  rw [← List.append_assoc, ← List.append_assoc]
  exact List.Perm.append_right _ List.perm_append_comm
 have h2 : (netP p ++ (P ++ (netsP PP ++ O))).Perm (P ++ ((netP p ++ netsP PP) ++ O)) := by
  rw [← List.append_assoc, List.append_assoc (netP p) (netsP PP) O, ← List.append_assoc P]
  exact List.Perm.append_right _ List.perm_append_comm
 exact h2.trans (List.Perm.append_left P (List.Perm.append_right O h1))
theorem nets_mem1 {p : Sg (Sg Int)} {PP : List (Sg (Sg Int))} {T : List Pc} (h : p ∈ PP) : Pc.row (.slice p.A p.l.length p.c) 96 1 p.l.length (flat sgc p.l) ∈ netsP PP ++ T :=
 List.mem_append_left _ (List.mem_append_left _ (List.mem_map_of_mem (f := Sg.pc 96 1 (flat sgc)) h))
theorem nets_mem2 {p : Sg (Sg Int)} {s : Sg Int} {PP : List (Sg (Sg Int))} {T : List Pc} (h : p ∈ PP) (hs : s ∈ p.l) : Pc.row (.slice s.A s.l.length s.c) 30 1 s.l.length (flat (ic .u32) s.l) ∈ netsP PP ++ T :=
 List.mem_append_left _ (List.mem_append_right _ (List.mem_map_of_mem (f := Sg.pc 30 1 (flat (ic .u32))) (List.mem_flatMap.2 ⟨p, h, hs⟩)))
theorem nets_one {n : Nt} (h : NtOk n) : NetsOk [n] [n.ps] := ⟨Nat.le_refl _, by show 1 ≤ 2; decide, fun x hx => by rw [List.mem_singleton.1 hx]; exact ⟨h, List.mem_cons_self⟩⟩
theorem nets_two {n n' : Nt} (h : NtOk n) (h' : NtOk n') : NetsOk ([n] ++ [n']) [n'.ps, n.ps] := ⟨by show 1 ≤ 2; decide, Nat.le_refl _, fun x hx => by
 rcases List.mem_append.1 hx with hx | hx
 ·rw [List.mem_singleton.1 hx]; exact ⟨h, List.mem_cons_of_mem _ List.mem_cons_self⟩
 rw [List.mem_singleton.1 hx]; exact ⟨h', List.mem_cons_self⟩⟩
theorem nets_set {ns : List Nt} {PP : List (Sg (Sg Int))} {x y : Nt} {i : Nat} (h : NetsOk ns PP) (hx : ns[i]? = some x) (hy : NtOk y) : NetsOk (ns.set i ⟨x.v, x.dst, x.proto, y.ps, x.last⟩) (y.ps :: PP) := by
 refine ⟨by rw [List.length_set]; exact h.1, by rw [List.length_set]; exact h.2.1, fun z hz => ?_⟩
 rcases List.mem_or_eq_of_mem_set hz with h1 | h1
 ·exact ⟨(h.2.2 z h1).1, List.mem_cons_of_mem _ (h.2.2 z h1).2⟩
 rw [h1]
 obtain ⟨⟨h2, h3, _⟩, _⟩ := h.2.2 x (List.mem_of_getElem? hx)
 exact ⟨⟨h2, h3, hy.2.2⟩, List.mem_cons_self⟩
def AnsP (ans dbl : Bool) (src kind left id quo : Int) : Prop := (ans = false ∧ dbl = false ∧ src = 0 ∧ kind = 0 ∧ left = 0 ∧ id = 0 ∧ quo = 0) ∨ (ans = true ∧ 1 ≤ src ∧ src ≤ 167774466 ∧ 1 ≤ kind ∧ kind ≤ 3 ∧ left = 60 ∧ 0 ≤ id ∧ id ≤ 65535 ∧ quo = 1)
def DrR (r : Rs) : Prop := vldRs r = true ∧ r.Ok ∧ r.run = 0 ∧ TrOk ⟨r.v, r.dst, r.proto⟩ ∧ (0 ≤ r.num ∧ r.num ≤ 99) ∧ (0 ≤ r.flow ∧ r.flow ≤ 2) ∧ (1 ≤ r.ttl ∧ r.ttl ≤ 4) ∧ (0 ≤ r.at_ ∧ r.back ≤ 20000) ∧ AnsP r.ans r.dbl r.src r.kind r.left r.id r.quo ∧ r.code = 0
def DrOrd (a b : Rs) : Prop := a.back < b.at_ ∧ (a.v = b.v → a.num < b.num)
def DrawnOk (m : Nat) (l : List Rs) : Prop := (∀ r ∈ l, DrR r) ∧ l.Pairwise DrOrd ∧ l.length ≤ m
def OutOk (l : List Rs) (at_ n0 n1 : Nat) : Prop := (∀ r ∈ l, DrR r ∧ r.back ≤ (at_ : Int) ∧ (r.v = 0 → r.num < (n0 : Int)) ∧ (r.v = 1 → r.num < (n1 : Int))) ∧ l.Pairwise DrOrd ∧ n0 + n1 = l.length
theorem OutOk.nil (a : Nat) : OutOk [] a 0 0 := ⟨fun r hr => absurd hr List.not_mem_nil, .nil, rfl⟩
theorem OutOk.ok {l : List Rs} {a n0 n1 m : Nat} (h : OutOk l a n0 n1) (hm : l.length ≤ m) : DrawnOk m l := ⟨fun r hr => (h.1 r hr).1, h.2.1, hm⟩
theorem ans_vld {r : Rs} (h : r.inRange) (hd : r.dst ≠ 0) (hp : r.proto = 17 ∨ r.proto = 1 ∨ r.proto = 6) (ha : AnsP r.ans r.dbl r.src r.kind r.left r.id r.quo) (hc : r.code = 0) : vldRs r = true := by
 have h1 : chkR r = 0 := by
  unfold chkR
  rw [if_neg (fun h1 => h1 h), if_neg (fun h1 => h1 (by omega))]
  rcases ha with ⟨a1, a2, a3, a4, a5, a6, a7⟩ | ⟨a1, a2, a3, a4, a5, a6, a7, a8, a9⟩
  ·have hn : r.noAns = true := by unfold Rs.noAns; simp [a3, a4, a5, a6, a7, hc]
   rw [if_neg (by rw [a1, a2, hn]; simp), if_neg (by rw [a1]; simp)]
  have ho : r.ansOk := by unfold Rs.ansOk; omega
  rw [if_neg (by rw [a1]; simp), if_neg (fun h2 => h2.2 ho)]
 unfold vldRs
 simp only [h1, decide_true, Bool.true_and, Bool.and_eq_true, decide_eq_true_eq, Bool.or_eq_true, Bool.not_eq_true']
 refine ⟨hd, ?_⟩
 rcases ha with ⟨a1, _⟩ | ⟨a1, a2, _⟩
 ·exact .inl a1
 exact .inr (by omega)
theorem OutOk.snoc {l : List Rs} {at0 at1 n0 n1 n2 n3 num f tq bq : Nat} {v dst proto : Int} {an db : Bool} {sr kd lf ie qu : Int} (h : OutOk l at0 n0 n1) (ht : TrOk ⟨v, dst, proto⟩)
  (hnum : (v = 0 ∧ num = n0) ∨ (v = 1 ∧ num = n1)) (hn : (v = 0 ∧ n2 = n0 + 1 ∧ n3 = n1) ∨ (v = 1 ∧ n2 = n0 ∧ n3 = n1 + 1)) (ha : AnsP an db sr kd lf ie qu) (hat : at0 < at1) (hf : f ≤ 2) (htq : tq ≤ 3) (hb : bq ≤ 3) (hbd : at1 ≤ 19000 ∧ l.length ≤ 99) :
  OutOk (l ++ [⟨v, 0, (num : Int), (at1 : Int), dst, proto, (f : Int), ((1 + tq : Nat) : Int), an, db, ((at1 + 5 * (1 + tq) + bq : Nat) : Int), sr, kd, 0, lf, ie, qu⟩]) (at1 + 5 * (1 + tq) + bq) n2 n3 := by
 have ht2 := ht
 unfold TrOk at ht2
 dsimp only at ht2
 have hl := h.2.2
 have hso : 0 ≤ sr ∧ sr ≤ 4294967295 := by
  rcases ha with ⟨_, _, a3, _⟩ | ⟨_, a2, a3, _⟩ <;> omega
 have hnew : DrR ⟨v, 0, (num : Int), (at1 : Int), dst, proto, (f : Int), ((1 + tq : Nat) : Int), an, db, ((at1 + 5 * (1 + tq) + bq : Nat) : Int), sr, kd, 0, lf, ie, qu⟩ := by
  refine ⟨ans_vld ?_ (by dsimp only; omega) (by dsimp only; omega) ha rfl, ?_, rfl, ht, ?_, ?_, ?_, ?_, ha, rfl⟩
  ·unfold Rs.inRange; dsimp only; omega
  ·unfold Rs.Ok; dsimp only; omega
  ·dsimp only; omega
  ·dsimp only; omega
  ·dsimp only; omega
  dsimp only; omega
 refine ⟨fun r hr => ?_, List.pairwise_append.2 ⟨h.2.1, List.pairwise_singleton _ _, fun a ha2 b hb2 => ?_⟩, by rw [List.length_append]; show n2 + n3 = l.length + 1; omega⟩
 ·rcases List.mem_append.1 hr with hr | hr
  ·obtain ⟨h1, h2, h3, h4⟩ := h.1 r hr
   exact ⟨h1, by omega, fun e => by have := h3 e; omega, fun e => by have := h4 e; omega⟩
  rw [List.mem_singleton.1 hr]
  refine ⟨hnew, Int.le_refl _, fun e => ?_, fun e => ?_⟩
  ·dsimp only at e ⊢; omega
  dsimp only at e ⊢; omega
 rw [List.mem_singleton.1 hb2]
 obtain ⟨h1, h2, h3, h4⟩ := h.1 a ha2
 refine ⟨by dsimp only; omega, fun e => ?_⟩
 dsimp only at e ⊢
 rcases hnum with ⟨e1, e2⟩ | ⟨e1, e2⟩
 ·have := h3 (by omega); omega
 have := h4 (by omega); omega
theorem drebs121_1_73147 (a0_0 : Int) (a0_1 : Int) (a0_2 : Int) (a0_3 : Option Addr) (a0_3n a0_3c : Nat) (a0_4 : Int) (w : World) : (Instr.buildSlice 94 1 #[(0, .agg #[.int .i64 a0_0, .int .u32 a0_1, .int .i64 a0_2, .slice a0_3 a0_3n a0_3c, .int .u32 a0_4])]).run Tryz.prog w = .ok (.slice (some ⟨w.heap.size, 0, none⟩) 1 1) (w.alloc (.cells [.int .i64 a0_0, .int .u32 a0_1, .int .i64 a0_2, .slice a0_3 a0_3n a0_3c, .int .u32 a0_4].toArray 92)) := by kernel_rfl
theorem dreel121 : Elem Tryz.prog 94 92 5 56 := Elem.mk' Tryz.underlying94 (z := .agg #[.int .i64 0, .int .u32 0, .int .i64 0, .slice none 0 0, .int .u32 0]) (by kernel_rfl) rfl (by omega) (by omega)
theorem drezv122 (w : World) : (zeroValue 95).run Tryz.prog w = .ok (.agg #[.int .i64 0, .int .i64 0, .int .i64 0, .int .i64 0, .int .i64 0, .int .i64 0, .int .i64 0, .int .i64 0, .int .i64 0, .int .i64 0, .int .i64 0, .int .i64 0, .int .i64 0, .int .i64 0, .int .i64 0, .int .i64 0]) w := rfl
theorem drefv119_1_92971 (a0 : Int) (a1 : Int) (a2 : Int) (a3 : Option Addr) (a3n a3c : Nat) (a4 : Int) (w : World) : (Instr.field 92 (.agg #[.int .i64 a0, .int .u32 a1, .int .i64 a2, .slice a3 a3n a3c, .int .u32 a4]) 1).run Tryz.prog w = .ok (.slice a3 a3n a3c) w := by kernel_rfl
theorem drebld47_74773 (a0_0 : Int) (a1_0 : Int) (a2_0 : Int) (a3_0 : Int) (a4_0 : Int) (a5_0 : Int) (a6_0 : Int) (a7_0 : Int) (w : World) : (Instr.build 65 #[(0, .int .i64 a0_0), (1, .int .i64 a1_0), (2, .int .i64 a2_0), (3, .int .i64 a3_0), (4, .int .u32 a4_0), (5, .int .i64 a5_0), (6, .int .i64 a6_0), (7, .int .i64 a7_0)]).run Tryz.prog w = .ok (.agg #[.int .i64 a0_0, .int .i64 a1_0, .int .i64 a2_0, .int .i64 a3_0, .int .u32 a4_0, .int .i64 a5_0, .int .i64 a6_0, .int .i64 a7_0, .bool false, .bool false, .int .i64 0, .int .u32 0, .int .i64 0, .int .i64 0, .int .i64 0, .int .i64 0, .int .i64 0]) w := by kernel_rfl
theorem dresz4 (w : World) : (sizeOf 4).run Tryz.prog w = .ok 1 w := rfl
theorem dreone_b {a0 : Bool} : ∀ u ∈ [(.bool a0 : Value)], u.oneCell' = true := by
 intro u hu
 rw [List.mem_singleton] at hu
 subst hu; rfl
theorem drebld45_50928 (a0_0 : Int) (a1_0 : Int) (a3_0 : Int) (a4_0 : Int) (a5_0 : Int) (w : World) : (Instr.build 63 #[(0, .int .u32 a0_0), (1, .int .i64 a1_0), (3, .int .i64 a3_0), (4, .int .i64 a4_0), (5, .int .i64 a5_0)]).run Tryz.prog w = .ok (.agg #[.int .u32 a0_0, .int .i64 a1_0, .int .i64 0, .int .i64 a3_0, .int .i64 a4_0, .int .i64 a5_0]) w := by kernel_rfl
theorem dresz45 (w : World) : (sizeOf 63).run Tryz.prog w = .ok 6 w := rfl
theorem dreone_u32i64i64i64i64i64 {a0 : Int} {a1 : Int} {a2 : Int} {a3 : Int} {a4 : Int} {a5 : Int} : ∀ u ∈ [(.int .u32 a0 : Value), .int .i64 a1, .int .i64 a2, .int .i64 a3, .int .i64 a4, .int .i64 a5], u.oneCell' = true := by
 intro u hu
 simp only [List.mem_cons, List.not_mem_nil, or_false] at hu
 rcases hu with rfl | rfl | rfl | rfl | rfl | rfl <;> rfl
theorem results_cod (cb : Nat) (w : World) (hC : Cod w cb) (m : Nat) (stb : Bool) (hm : m ≤ 100) :
  Calls Tryz.prog 17 #[.pointer (some ⟨cb, 0, none⟩), .int .i64 ((m : Nat) : Int), .bool stb] w fun e w' => ∃ x : {y : (Option Addr × Nat) × List Rs // DrawnOk m y.2 ∧ y.2.length ≤ y.1.2 ∧ y.1.2 ≤ maxLen}, e = .returned (.slice x.1.1.1 x.1.2.length x.1.1.2) ∧ Codr (fun w => Cod w cb) cb w ([.row (.slice x.1.1.1 x.1.2.length x.1.1.2) 65 17 x.1.2.length (flat Rs.cells x.1.2)]) w' := by
 refine begin_ (vs := [.pointer (some ⟨cb, 0, none⟩), .int .i64 ((m : Nat) : Int), .bool stb]) (I := Pm ⟨w, cb⟩ (.abs cb (fun w => Cod w cb) :: oths cb w)) Tryz.func17 rfl rfl rfl ?_ (Pm.codes hC (cod_cells hC) (cod_stab cb))
 refine zSG (TL.as_ ?_)
 refine zET (zSG (TL.mv ?_))
 refine TL.call (α := {y : Nt // NtOk y}) (r := fun x => .agg x.1.cells.toArray) (I' := fun x => Pm ⟨w, cb⟩ ([.abs cb (fun w => Cod w cb)] ++ (netsP (x.1.ps :: ([])) ++ oths cb w))) rfl rfl rfl rfl rfl Tryz.func63 (by decide) rfl (fun w1 hw => (scene_cod cb w1 (hw.at_ (k := 0) rfl).1).mono fun e w2 ⟨x, h1, h2⟩ => ⟨x, h1, Pm.netIn (P := [.abs cb (fun w => Cod w cb)]) (PP := ([])) (O := oths cb w) (hw.cods (k := 0) rfl h2 (netP_noAbs _))⟩) ?_
 rintro ⟨sc0, hsc0⟩
 dsimp only
 refine TL.prowS (e := 92) (size := 5) (cs := flat Nt.cells [sc0]) rfl rfl rfl rfl rfl (fun w => drebs121_1_73147 _ _ _ _ _ _ _ w) (by decide) rfl (fun g21 => ?_)
 refine TL.as_ ?_
 refine zET ?_
 refine TC.join (α := {y : (Option Addr × Nat) × List Nt × List (Sg (Sg Int)) // NetsOk y.2.1 y.2.2 ∧ y.2.1.length ≤ y.1.2 ∧ y.1.2 ≤ maxLen}) (fun y => [(0, .pointer (some ⟨cb, 0, none⟩)), (1, .int .i64 ((m : Nat) : Int)), (2, .bool stb), (6, .slice none 0 0), (7, .slice y.1.1.1 y.1.2.1.length y.1.1.2)]) (fun y => Pm ⟨w, cb⟩ ([.row (.slice y.1.1.1 y.1.2.1.length y.1.1.2) 92 5 y.1.2.1.length (flat Nt.cells y.1.2.1), .abs cb (fun w => Cod w cb)] ++ (netsP y.1.2.2 ++ oths cb w))) ?_ ?_
 ·refine zSG (TL.mv ?_)
  refine TL.pcallCod (k := 1) (α := Bool) (fun x => .bool x) (fun x => []) rfl rfl rfl rfl rfl Tryz.func18 (by decide) rfl rfl (fun w1 hw hC1 => dbool_cod cb w1 hC1 3 (by decide)) ?_
  rintro b0
  dsimp only [List.cons_append, List.nil_append]
  refine zET ?_
  refine TC.split (t := b0) rfl (fun c23 => ?_) (fun c23 => ?_)
  ·refine zG (TL.rn 2 rfl ?_)
   refine TL.call (α := {y : Nt // NtOk y}) (r := fun x => .agg x.1.cells.toArray) (I' := fun x => Pm ⟨w, cb⟩ ([.row (.slice (some ⟨g21, 0, none⟩) 1 1) 92 5 1 (flat Nt.cells [sc0]), .abs cb (fun w => Cod w cb)] ++ (netsP (x.1.ps :: (sc0.ps :: ([]))) ++ oths cb w))) rfl rfl rfl rfl rfl Tryz.func63 (by decide) rfl (fun w1 hw => (scene_cod cb w1 (hw.at_ (k := 1) rfl).1).mono fun e w2 ⟨x, h1, h2⟩ => ⟨x, h1, Pm.netIn (P := [.row (.slice (some ⟨g21, 0, none⟩) 1 1) 92 5 1 (flat Nt.cells [sc0]), .abs cb (fun w => Cod w cb)]) (PP := (sc0.ps :: ([]))) (O := oths cb w) (hw.cods (k := 1) rfl h2 (netP_noAbs _))⟩) ?_
   rintro ⟨sc1, hsc1⟩
   dsimp only
   refine TL.prowS (e := 92) (size := 5) (cs := flat Nt.cells [sc1]) rfl rfl rfl rfl rfl (fun w => drebs121_1_73147 _ _ _ _ _ _ _ w) (by decide) rfl (fun g27 => ?_)
   refine TL.appendT (k := 1) rfl rfl rfl rfl Tryz.underlying94 dreel121 rfl rfl rfl (fun w1 hw => pm_reads hw (k := 0) rfl) (flat_one nt_cel _) (by show _ * 56 ≤ _; omega) (1 + 1) (rfl) (flat Nt.cells (([sc0]) ++ [sc1])) ((flat_app _ _).symm) (fun A28 c28 hA281 hA282 => ?_)
   refine TL.as_ ?_
   refine zE ?_
   exact TX.joined (⟨((A28, c28), ([sc0]) ++ [sc1], (sc1.ps :: (sc0.ps :: ([])))), nets_two hsc0 hsc1, hA281, hA282⟩) (⟨rfl, rfl, rfl, rfl, rfl, trivial⟩) (fun w1 hw => hw.sel (.cons _ (.cons_cons _ (.cons_cons _ (List.Sublist.refl _)))))
  refine zk ?_
  exact TX.joined (⟨(((some ⟨g21, 0, none⟩), 1), [sc0], (sc0.ps :: ([]))), nets_one hsc0, by show 1 ≤ 1; decide, by show 1 ≤ maxLen; unfold maxLen; decide⟩) (⟨rfl, rfl, rfl, rfl, rfl, trivial⟩) (fun w1 hw => hw)
 rintro ⟨⟨⟨An, cn⟩, ns, PP⟩, hns, hnc, hnm⟩
 dsimp only at hns hnc hnm ⊢
 have hn1 := hns.1
 have hn2 := hns.2.1
 refine zS (TC.fact (p := ∃ g, An = some ⟨g, 0, none⟩) (fun w1 hw => rowA hw (k := 0) rfl (by omega)) ?_)
 rintro ⟨g_An, rfl⟩
 refine zG (TL.as_ ?_)
 refine zET (zSG (TL.mv ?_))
 refine TL.pcallCod (k := 1) (α := {q9 : Nat // q9 ≤ 65535 ∧ (1 ≤ (50 : Int) → (q9 : Int) < 50)}) (fun q9 => .int .i64 ((q9.1 : Nat) : Int)) (fun q9 => []) rfl rfl rfl rfl rfl Tryz.func21 (by decide) rfl rfl (fun w1 hw hC1 => next_cod cb w1 50 hC1) ?_
 rintro ⟨a0, ha01, ha02⟩
 dsimp only [List.cons_append, List.nil_append]
 refine TL.mv ?_
 refine TL.pcallCod (k := 1) (α := {q9 : Nat // q9 ≤ 65535 ∧ (1 ≤ (700 : Int) → (q9 : Int) < 700)}) (fun q9 => .int .i64 ((q9.1 : Nat) : Int)) (fun q9 => []) rfl rfl rfl rfl rfl Tryz.func21 (by decide) rfl rfl (fun w1 hw hC1 => next_cod cb w1 700 hC1) ?_
 rintro ⟨i0, hi01, hi02⟩
 dsimp only [List.cons_append, List.nil_append]
 refine TL.val rfl rfl rfl (gives_bin rfl rfl rfl (fun w => bin_mul_ (r := ((100 * i0 : Nat) : Int)) (by simp only [IntKind.wrap_i64]; omega) w)) ?_
 refine TL.rn 2 rfl (zET (zSG ?_))
 refine TL.pnew rfl rfl rfl (exec_alloc (cs := [.int .i64 0, .int .i64 0, .int .i64 0, .int .i64 0, .int .i64 0, .int .i64 0, .int .i64 0, .int .i64 0, .int .i64 0, .int .i64 0, .int .i64 0, .int .i64 0, .int .i64 0, .int .i64 0, .int .i64 0, .int .i64 0]) rfl drezv122 rfl) (fun g11 => ?_)
 refine zET (zS (zSG (TL.rn 2 rfl (TL.v (gD ((m + 1 : Nat) : Int)) ?_))))
 refine TL.pcallCod (k := 2) (α := {q9 : Nat // q9 ≤ 65535 ∧ (1 ≤ (((m + 1 : Nat) : Int) : Int) → (q9 : Int) < ((m + 1 : Nat) : Int))}) (fun q9 => .int .i64 ((q9.1 : Nat) : Int)) (fun q9 => []) rfl rfl rfl rfl rfl Tryz.func21 (by decide) rfl rfl (fun w1 hw hC1 => next_cod cb w1 ((m + 1 : Nat) : Int) hC1) ?_
 rintro ⟨k0, hk01, hk02⟩
 dsimp only [List.cons_append, List.nil_append]
 refine TL.as_ ?_
 refine zET (zB (TC.nilrow 65 17 ?_))
 refine TC.loop_ (α := {y : Nat × Nat × Nat × (Nat × Nat) × (Option Addr × Nat) × List Rs × List Nt × List (Sg (Sg Int)) // (y.1 + y.2.2.2.2.2.1.length ≤ m ∧ y.2.1 ≤ 100 + 100 * y.2.2.2.2.2.1.length ∧ y.2.2.1 ≤ 70000 + 100 * y.2.2.2.2.2.1.length) ∧ OutOk y.2.2.2.2.2.1 y.2.1 y.2.2.2.1.1 y.2.2.2.1.2 ∧ NetsOk y.2.2.2.2.2.2.1 y.2.2.2.2.2.2.2 ∧ y.2.2.2.2.2.2.1.length = ns.length ∧ y.2.2.2.2.2.1.length ≤ y.2.2.2.2.1.2 ∧ y.2.2.2.2.1.2 ≤ maxLen}) (fun y => [(0, .pointer (some ⟨cb, 0, none⟩)), (2, .bool stb), (7, .slice (some ⟨g_An, 0, none⟩) ns.length cn), (8, .slice y.1.2.2.2.2.1.1 y.1.2.2.2.2.2.1.length y.1.2.2.2.2.1.2), (9, .int .i64 ((y.1.2.1 : Nat) : Int)), (10, .int .i64 ((y.1.2.2.1 : Nat) : Int)), (12, .int .i64 ((y.1.1 : Nat) : Int)), (11, .pointer (some ⟨g11, 0, none⟩))]) (fun y => Pm ⟨w, cb⟩ ([.row (.slice y.1.2.2.2.2.1.1 y.1.2.2.2.2.2.1.length y.1.2.2.2.2.1.2) 65 17 y.1.2.2.2.2.2.1.length (flat Rs.cells y.1.2.2.2.2.2.1), .blk g11 95 [.int .i64 ((y.1.2.2.2.1.1 : Nat) : Int), .int .i64 ((y.1.2.2.2.1.2 : Nat) : Int), .int .i64 0, .int .i64 0, .int .i64 0, .int .i64 0, .int .i64 0, .int .i64 0, .int .i64 0, .int .i64 0, .int .i64 0, .int .i64 0, .int .i64 0, .int .i64 0, .int .i64 0, .int .i64 0], .row (.slice (some ⟨g_An, 0, none⟩) ns.length cn) 92 5 ns.length (flat Nt.cells y.1.2.2.2.2.2.2.1), .abs cb (fun w => Cod w cb)] ++ (netsP y.1.2.2.2.2.2.2.2 ++ oths cb w))) (fun y => y.1.1) (⟨(k0, a0, 100 * i0, (0, 0), (none, 0), [], ns, PP), ⟨by dsimp only [List.length_nil]; omega, by dsimp only [List.length_nil]; omega, by dsimp only [List.length_nil]; omega⟩, OutOk.nil _, hns, rfl, Nat.le_refl _, Nat.zero_le _⟩) ⟨rfl, rfl, rfl, rfl, rfl, rfl, rfl, rfl, trivial⟩ (fun w1 hw => hw) ?_
 rintro ⟨⟨k, at0, idn, ⟨n0, n1⟩, ⟨Ar, cr⟩, out, ns1, P1⟩, ⟨hk, hat, hid⟩, hout, hns1, hnl1, hrc, hrm⟩
 dsimp only at hk hat hid hout hns1 hnl1 hrc hrm ⊢
 refine zS (zSG (TL.mv ?_))
 refine TL.sp bin_gtr (fun q39 => ?_) (fun q39 => ?_)
 ·refine zET (zc (zk (zT (zS (zB (zSG (TL.rn 2 rfl (TL.v (gN Tryz.underlying94) ?_))))))))
  refine TL.pcallCod (k := 3) (α := {q9 : Nat // q9 ≤ 65535 ∧ (1 ≤ ((ns.length : Nat) : Int) → (q9 : Int) < (ns.length : Nat))}) (fun q9 => .int .i64 ((q9.1 : Nat) : Int)) (fun q9 => []) rfl rfl rfl rfl rfl Tryz.func21 (by decide) rfl rfl (fun w1 hw hC1 => next_cod cb w1 (ns.length : Nat) hC1) ?_
  rintro ⟨ix, hix1, hix2⟩
  dsimp only [List.cons_append, List.nil_append]
  refine TL.as_ ?_
  refine zET ?_
  refine TC.join (α := {y : List Nt × List (Sg (Sg Int)) // NetsOk y.1 y.2 ∧ y.1.length = ns.length}) (fun y => [(0, .pointer (some ⟨cb, 0, none⟩)), (2, .bool stb), (7, .slice (some ⟨g_An, 0, none⟩) ns.length cn), (8, .slice Ar out.length cr), (9, .int .i64 ((at0 : Nat) : Int)), (10, .int .i64 ((idn : Nat) : Int)), (11, .pointer (some ⟨g11, 0, none⟩)), (12, .int .i64 ((k : Nat) : Int)), (13, .int .i64 ((ix : Nat) : Int))]) (fun y => Pm ⟨w, cb⟩ ([.row (.slice Ar out.length cr) 65 17 out.length (flat Rs.cells out), .blk g11 95 [.int .i64 ((n0 : Nat) : Int), .int .i64 ((n1 : Nat) : Int), .int .i64 0, .int .i64 0, .int .i64 0, .int .i64 0, .int .i64 0, .int .i64 0, .int .i64 0, .int .i64 0, .int .i64 0, .int .i64 0, .int .i64 0, .int .i64 0, .int .i64 0, .int .i64 0], .row (.slice (some ⟨g_An, 0, none⟩) ns.length cn) 92 5 ns.length (flat Nt.cells y.1.1), .abs cb (fun w => Cod w cb)] ++ (netsP y.1.2 ++ oths cb w))) ?_ ?_
  ·refine zSG (TL.mv ?_)
   cases stb with
   | true =>
    refine TL.rn 5 rfl (zET (zd (zk ?_)))
    exact TX.joined (⟨(ns1, P1), hns1, hnl1⟩) (⟨rfl, rfl, rfl, rfl, rfl, rfl, rfl, rfl, rfl, trivial⟩) (fun w1 hw => hw)
   | false =>
    refine TL.rn 3 rfl (TL.gu ?_)
    refine TL.pcallCod (k := 3) (α := Bool) (fun x => .bool x) (fun x => []) rfl rfl rfl rfl rfl Tryz.func18 (by decide) rfl rfl (fun w1 hw hC1 => dbool_cod cb w1 hC1 12 (by decide)) ?_
    rintro b1
    dsimp only [List.cons_append, List.nil_append]
    refine TL.pk ?_
    refine zET ?_
    refine TC.split (t := b1) rfl (fun c51 => ?_) (fun c51 => ?_)
    ·refine zG (TL.rn 3 rfl ?_)
     refine TL.call (α := {y : Nt // NtOk y}) (r := fun x => .agg x.1.cells.toArray) (I' := fun x => Pm ⟨w, cb⟩ ([.row (.slice Ar out.length cr) 65 17 out.length (flat Rs.cells out), .blk g11 95 [.int .i64 ((n0 : Nat) : Int), .int .i64 ((n1 : Nat) : Int), .int .i64 0, .int .i64 0, .int .i64 0, .int .i64 0, .int .i64 0, .int .i64 0, .int .i64 0, .int .i64 0, .int .i64 0, .int .i64 0, .int .i64 0, .int .i64 0, .int .i64 0, .int .i64 0], .row (.slice (some ⟨g_An, 0, none⟩) ns.length cn) 92 5 ns.length (flat Nt.cells ns1), .abs cb (fun w => Cod w cb)] ++ (netsP (x.1.ps :: P1) ++ oths cb w))) rfl rfl rfl rfl rfl Tryz.func63 (by decide) rfl (fun w1 hw => (scene_cod cb w1 (hw.at_ (k := 3) rfl).1).mono fun e w2 ⟨x, h1, h2⟩ => ⟨x, h1, Pm.netIn (P := [.row (.slice Ar out.length cr) 65 17 out.length (flat Rs.cells out), .blk g11 95 [.int .i64 ((n0 : Nat) : Int), .int .i64 ((n1 : Nat) : Int), .int .i64 0, .int .i64 0, .int .i64 0, .int .i64 0, .int .i64 0, .int .i64 0, .int .i64 0, .int .i64 0, .int .i64 0, .int .i64 0, .int .i64 0, .int .i64 0, .int .i64 0, .int .i64 0], .row (.slice (some ⟨g_An, 0, none⟩) ns.length cn) 92 5 ns.length (flat Nt.cells ns1), .abs cb (fun w => Cod w cb)]) (PP := P1) (O := oths cb w) (hw.cods (k := 3) rfl h2 (netP_noAbs _))⟩) ?_
     rintro ⟨sc2, hsc2⟩
     dsimp only
     refine TL.val rfl rfl rfl (gives_fieldV (v := .slice sc2.ps.A sc2.ps.l.length sc2.ps.c) rfl rfl (fun w => drefv119_1_92971 _ _ _ _ _ _ _ w)) ?_
     have hi57 : ix < ns1.length := by omega
     obtain ⟨x57, hx57⟩ := ex_at hi57
     refine TL.val rfl rfl rfl (gA (i := ix) Tryz.underlying94 dntsz119 rfl rfl rfl rfl rfl (by omega)) ?_
     refine TL.v (gF dntfld119_1) ?_
     refine TL.rowset (k := 2) (vs := [.slice sc2.ps.A sc2.ps.l.length sc2.ps.c]) (xs' := flat Nt.cells (ns1.set ix (⟨x57.v, x57.dst, x57.proto, sc2.ps, x57.last⟩ : Nt))) rfl rfl rfl rfl rfl rfl rfl dntsz117 dntone_s (by rw [flat_len nt_cel]; show 0 + ix * 5 + 3 + 1 ≤ _; omega) (flat_put nt_cel (q := 3) (y := (⟨x57.v, x57.dst, x57.proto, sc2.ps, x57.last⟩ : Nt)) hx57 (by show 3 + 1 ≤ 5; decide) rfl) ?_
     try dsimp only [List.set_cons_zero, List.set_cons_succ]
     refine zE ?_
     exact TX.joined (⟨(ns1.set ix (⟨x57.v, x57.dst, x57.proto, sc2.ps, x57.last⟩ : Nt), (sc2.ps :: P1)), nets_set hns1 hx57 hsc2, by dsimp only; rw [List.length_set]; exact hnl1⟩) (⟨rfl, rfl, rfl, rfl, rfl, rfl, rfl, rfl, rfl, trivial⟩) (fun w1 hw => hw)
    refine zk ?_
    exact TX.joined (⟨(ns1, P1), hns1, hnl1⟩) (⟨rfl, rfl, rfl, rfl, rfl, rfl, rfl, rfl, rfl, trivial⟩) (fun w1 hw => hw)
  rintro ⟨⟨ns2, P2⟩, hns2, hnl2⟩
  dsimp only at hns2 hnl2 ⊢
  refine zSG (TL.rn 2 rfl ?_)
  have hi61 : ix < ns2.length := by omega
  obtain ⟨x61, hx61⟩ := ex_at hi61
  refine TL.val rfl rfl rfl (gA (i := ix) Tryz.underlying94 dntsz119 rfl rfl rfl rfl rfl (by omega)) ?_
  refine TL.val rfl rfl rfl (gives_loadR (off := 0 + ix * 5) rfl rfl dntag119 dntsz119 (nt_cel.len x61) (fun w1 hw j9 u9 h9 => flat_row nt_cel hw (q := 2) rfl hx61 j9 u9 h9)) ?_
  refine TL.pnew rfl rfl rfl (exec_alloc (cs := [.int .i64 0, .int .u32 0, .int .i64 0, .slice none 0 0, .int .u32 0]) rfl dntzv119 rfl) (fun g14 => ?_)
  refine TL.pstore (k := 0) (vs := x61.cells) rfl rfl rfl rfl rfl rfl rfl dntsz119 (nt_cel.one _) (by show 5 ≤ 5; decide) (L' := ([.blk g14 92 x61.cells, .row (.slice Ar out.length cr) 65 17 out.length (flat Rs.cells out), .blk g11 95 [.int .i64 ((n0 : Nat) : Int), .int .i64 ((n1 : Nat) : Int), .int .i64 0, .int .i64 0, .int .i64 0, .int .i64 0, .int .i64 0, .int .i64 0, .int .i64 0, .int .i64 0, .int .i64 0, .int .i64 0, .int .i64 0, .int .i64 0, .int .i64 0, .int .i64 0], .row (.slice (some ⟨g_An, 0, none⟩) ns.length cn) 92 5 ns.length (flat Nt.cells ns2), .abs cb (fun w => Cod w cb)] ++ (netsP P2 ++ oths cb w))) rfl ?_
  refine zET (zS ?_)
  have hnn := hout.2.2
  obtain ⟨hx61k, hx61p⟩ := hns2.2.2 x61 (List.mem_of_getElem? hx61)
  obtain ⟨hx61t, hx61l, lg, hlg1, hlg3, hps1, hps3, hlgw⟩ := hx61k
  have hx61t2 := hx61t
  unfold TrOk at hx61t2
  dsimp only at hx61t2
  have hv61 : x61.v = 0 ∨ x61.v = 1 := by omega
  refine zG (TL.mv ?_)
  refine TL.v (gF dntfld119_1) ?_
  refine TL.v (gL 0 dntag117) ?_
  refine TL.v (gN Tryz.underlying90) ?_
  refine TL.pcallCod (k := 4) (α := {q9 : Nat // q9 ≤ 65535 ∧ (1 ≤ ((x61.ps.l.length : Nat) : Int) → (q9 : Int) < (x61.ps.l.length : Nat))}) (fun q9 => .int .i64 ((q9.1 : Nat) : Int)) (fun q9 => []) rfl rfl rfl rfl rfl Tryz.func21 (by decide) rfl rfl (fun w1 hw hC1 => next_cod cb w1 (x61.ps.l.length : Nat) hC1) ?_
  rintro ⟨f, hf1, hf2⟩
  dsimp only [List.cons_append, List.nil_append]
  refine TL.as_ ?_
  refine zET (zSG (TL.v (gF dntfld119_1) ?_))
  refine TL.v (gL 0 dntag117) ?_
  refine TL.mv ?_
  have hmm71 := nets_mem1 (T := oths cb w) hx61p
  refine TL.fact (p := ∃ g, x61.ps.A = some ⟨g, 0, none⟩) (fun w1 hw => segA hw (List.mem_of_mem_drop (i := 5) (by exact hmm71)) (by omega)) ?_
  rintro ⟨gx71, hgx71⟩
  obtain ⟨p71, hp71⟩ : ∃ z, x61.ps.l[f]? = some z := ⟨_, List.getElem?_eq_getElem (by omega)⟩
  refine TL.val rfl rfl rfl (gA (i := f) Tryz.underlying90 dntsz64 rfl rfl rfl rfl hgx71 (by omega)) ?_
  refine TL.val rfl rfl rfl (gives_load (v := .slice p71.A p71.l.length p71.c) rfl rfl dntag64 (fun w1 hw => seg_cell sgc_cel hw (List.mem_of_mem_drop (i := 5) (by exact hmm71)) hgx71 hp71 0 _ rfl)) ?_
  have hpw71 := hlgw p71 (List.mem_of_getElem? hp71)
  have hp71l := hpw71.1
  refine TL.as_ ?_
  refine zET (zSG (TL.rn 2 rfl ?_))
  refine TL.pcallCod (k := 4) (α := {q9 : Nat // q9 ≤ 65535 ∧ (1 ≤ (40 : Int) → (q9 : Int) < 40)}) (fun q9 => .int .i64 ((q9.1 : Nat) : Int)) (fun q9 => []) rfl rfl rfl rfl rfl Tryz.func21 (by decide) rfl rfl (fun w1 hw hC1 => next_cod cb w1 40 hC1) ?_
  rintro ⟨dq, hdq1, hdq2⟩
  dsimp only [List.cons_append, List.nil_append]
  refine TL.v (gD ((1 + dq : Nat) : Int)) ?_
  refine TL.v (gD ((at0 + (1 + dq) : Nat) : Int)) ?_
  refine TL.as_ ?_
  refine zET ?_
  refine TC.join (α := {y : (Nat × Nat) × Nat // ((x61.v = 0 ∧ y.1.2 = n0) ∨ (x61.v = 1 ∧ y.1.2 = n1)) ∧ y.2 ≤ p71.l.length}) (fun y => [(0, .pointer (some ⟨cb, 0, none⟩)), (2, .bool stb), (7, .slice (some ⟨g_An, 0, none⟩) ns.length cn), (8, .slice Ar out.length cr), (9, .int .i64 ((at0 + (1 + dq) : Nat) : Int)), (10, .int .i64 ((idn : Nat) : Int)), (11, .pointer (some ⟨g11, 0, none⟩)), (12, .int .i64 ((k : Nat) : Int)), (14, .pointer (some ⟨g14, 0, none⟩)), (15, .int .i64 ((f : Nat) : Int)), (16, .slice p71.A p71.l.length p71.c), (17, .pointer (some ⟨y.1.1.1, 0, none⟩))]) (fun y => Pm ⟨w, cb⟩ ([.blk y.1.1.1 65 [.int .i64 x61.v, .int .i64 0, .int .i64 ((y.1.1.2 : Nat) : Int), .int .i64 ((at0 + (1 + dq) : Nat) : Int), .int .u32 x61.dst, .int .i64 x61.proto, .int .i64 ((f : Nat) : Int), .int .i64 ((1 + y.1.2 : Nat) : Int), .bool false, .bool false, .int .i64 0, .int .u32 0, .int .i64 0, .int .i64 0, .int .i64 0, .int .i64 0, .int .i64 0], .blk g14 92 x61.cells, .row (.slice Ar out.length cr) 65 17 out.length (flat Rs.cells out), .blk g11 95 [.int .i64 ((n0 : Nat) : Int), .int .i64 ((n1 : Nat) : Int), .int .i64 0, .int .i64 0, .int .i64 0, .int .i64 0, .int .i64 0, .int .i64 0, .int .i64 0, .int .i64 0, .int .i64 0, .int .i64 0, .int .i64 0, .int .i64 0, .int .i64 0, .int .i64 0], .row (.slice (some ⟨g_An, 0, none⟩) ns.length cn) 92 5 ns.length (flat Nt.cells ns2), .abs cb (fun w => Cod w cb)] ++ (netsP P2 ++ oths cb w))) ?_ ?_
  ·rcases hv61 with hv0 | hv1
   ·refine TC.cut [(0, .pointer (some ⟨cb, 0, none⟩)), (2, .bool stb), (7, .slice (some ⟨g_An, 0, none⟩) ns.length cn), (8, .slice Ar out.length cr), (9, .int .i64 ((at0 + (1 + dq) : Nat) : Int)), (10, .int .i64 ((idn : Nat) : Int)), (11, .pointer (some ⟨g11, 0, none⟩)), (12, .int .i64 ((k : Nat) : Int)), (13, .int .i64 ((ix : Nat) : Int)), (59, .slice (some ⟨g_An, 0, none⟩) ns.length cn), (60, .int .i64 ((ix : Nat) : Int)), (61, .pointer (some ⟨g_An, 0 + ix * 5, none⟩)), (62, .agg (x61.cells).toArray), (14, .pointer (some ⟨g14, 0, none⟩)), (63, .pointer (some ⟨cb, 0, none⟩)), (64, .pointer (some ⟨g14, 3, none⟩)), (65, .slice x61.ps.A x61.ps.l.length x61.ps.c), (66, .int .i64 (x61.ps.l.length : Nat)), (67, .int .i64 ((f : Nat) : Int)), (15, .int .i64 ((f : Nat) : Int)), (68, .pointer (some ⟨g14, 3, none⟩)), (69, .slice x61.ps.A x61.ps.l.length x61.ps.c), (70, .int .i64 ((f : Nat) : Int)), (71, .pointer (some ⟨gx71, 0 + f * 1, none⟩)), (72, .slice p71.A p71.l.length p71.c), (16, .slice p71.A p71.l.length p71.c), (73, .int .i64 ((at0 : Nat) : Int)), (74, .pointer (some ⟨cb, 0, none⟩)), (75, .int .i64 ((dq : Nat) : Int)), (76, .int .i64 ((1 + dq : Nat) : Int)), (77, .int .i64 ((at0 + (1 + dq) : Nat) : Int))] (Pm ⟨w, cb⟩ ([.blk g14 92 x61.cells, .row (.slice Ar out.length cr) 65 17 out.length (flat Rs.cells out), .blk g11 95 [.int .i64 ((n0 : Nat) : Int), .int .i64 ((n1 : Nat) : Int), .int .i64 0, .int .i64 0, .int .i64 0, .int .i64 0, .int .i64 0, .int .i64 0, .int .i64 0, .int .i64 0, .int .i64 0, .int .i64 0, .int .i64 0, .int .i64 0, .int .i64 0, .int .i64 0], .row (.slice (some ⟨g_An, 0, none⟩) ns.length cn) 92 5 ns.length (flat Nt.cells ns2), .abs cb (fun w => Cod w cb)] ++ (netsP P2 ++ oths cb w))) ⟨rfl, rfl, rfl, rfl, rfl, rfl, rfl, rfl, rfl, rfl, rfl, rfl, rfl, rfl, rfl, rfl, rfl, rfl, rfl, rfl, rfl, rfl, rfl, rfl, rfl, rfl, rfl, rfl, rfl, rfl, rfl, trivial⟩ (fun w1 hw => hw) ?_
    refine TC.held (ls := #[Ff,Ff,Ff,Ff,Ff,Ff,Ff,Ff,Ff,Ff,Ff,Ff,Ff,Ff,Ff,Ff,Ff,Ff,Ff,Ff,Ff,Ff,Ff,Ff,Ff]) (Pm ⟨w, cb⟩ [.blk g14 92 x61.cells, .blk g11 95 [.int .i64 ((n0 : Nat) : Int), .int .i64 ((n1 : Nat) : Int), .int .i64 0, .int .i64 0, .int .i64 0, .int .i64 0, .int .i64 0, .int .i64 0, .int .i64 0, .int .i64 0, .int .i64 0, .int .i64 0, .int .i64 0, .int .i64 0, .int .i64 0, .int .i64 0]]) (by kernel_rfl) rfl rfl (fun w hw => hw.drawn _) ?_
    refine TH.tk 0 rfl rfl rfl (gF dntfld119_0) (fun w1 hw => hw.pick [0, 2] (by decide) rfl) ?_
    refine TH.tk 1 rfl rfl rfl (gF pcmfld32_0) (fun w1 hw => hw.pick [0, 2] (by decide) rfl) ?_
    refine TH.tk 2 rfl rfl rfl (gL 0 pcmag3) (fun w1 hw => hw.pick [0, 2] (by decide) rfl) ?_
    refine TH.tk 3 rfl rfl rfl (gF dntfld119_0) (fun w1 hw => hw.pick [0, 2] (by decide) rfl) ?_
    refine TH.tk 4 rfl rfl rfl (gF pcmfld32_0) (fun w1 hw => hw.pick [0, 2] (by decide) rfl) ?_
    refine TH.tk 5 rfl rfl rfl (show Gives _ _ _ _ _ (Value.int .i64 0) from by rw [show (Value.int .i64 0) = .int .i64 x61.v by rw [hv0]]; exact pm_load (k := 0) (i := 0) rfl rfl pcmag3 rfl rfl) (fun w1 hw => hw.pick [0, 2] (by decide) rfl) ?_
    refine TH.tk 6 rfl rfl rfl (gives_at (v := .pointer (some ⟨g11, 0, none⟩)) rfl rfl rfl (fun w => at_arr Tryz.underlying95 pcmsz3 g11 0 _ 0 (by decide) w)) (fun w1 hw => hw.pick [0, 2] (by decide) rfl) ?_
    refine TH.tk 7 rfl rfl rfl (gL 1 pcmag3) (fun w1 hw => hw.pick [0, 2] (by decide) rfl) ?_
    refine TH.tk 8 rfl rfl rfl (gives_move rfl rfl) (fun w1 hw => hw.pick [0, 2] (by decide) rfl) ?_
    refine TH.tk 9 rfl rfl rfl (gF dntfld119_0) (fun w1 hw => hw.pick [0, 2] (by decide) rfl) ?_
    refine TH.tk 10 rfl rfl rfl (gF pcmfld32_1) (fun w1 hw => hw.pick [0, 2] (by decide) rfl) ?_
    refine TH.tk 11 rfl rfl rfl (gL 0 pcmag30) (fun w1 hw => hw.pick [0, 2] (by decide) rfl) ?_
    refine TH.tk 12 rfl rfl rfl (gF dntfld119_0) (fun w1 hw => hw.pick [0, 2] (by decide) rfl) ?_
    refine TH.tk 13 rfl rfl rfl (gF pcmfld32_2) (fun w1 hw => hw.pick [0, 2] (by decide) rfl) ?_
    refine TH.tk 14 rfl rfl rfl (gL 0 pcmag3) (fun w1 hw => hw.pick [0, 2] (by decide) rfl) ?_
    refine TH.tk 15 rfl rfl rfl (gives_move rfl rfl) (fun w1 hw => hw.pick [0, 2] (by decide) rfl) ?_
    refine TH.tk 16 rfl rfl rfl (gives_move rfl rfl) (fun w1 hw => hw.pick [0, 2] (by decide) rfl) ?_
    refine TH.tk 17 rfl rfl rfl (gives_move rfl rfl) (fun w1 hw => hw.pick [0, 2] (by decide) rfl) ?_
    refine TH.tk 18 rfl rfl rfl (gN Tryz.underlying96) (fun w1 hw => hw.pick [0, 2] (by decide) rfl) ?_
    refine TH.tk 19 rfl rfl rfl (gD ((p71.l.length + 1 : Nat) : Int)) (fun w1 hw => hw.pick [0, 2] (by decide) rfl) ?_
    refine TH.two' (listed1 := #[Tt,Tt,Tt,Tt,Tt,Tt,Tt,Tt,Tt,Tt,Tt,Tt,Tt,Tt,Tt,Tt,Tt,Tt,Tt,Tt,Tt,Ff,Ff,Ff,Ff]) (listed2 := #[Tt,Tt,Tt,Tt,Tt,Tt,Tt,Tt,Tt,Tt,Tt,Tt,Tt,Tt,Tt,Tt,Tt,Tt,Tt,Tt,Ff,Ff,Ff,Tt,Ff]) 20 23 rfl rfl (by kernel_rfl) rfl rfl ?_ ?_
    ·refine TL.pcallCod (k := 4) (α := {q9 : Nat // q9 ≤ 65535 ∧ (1 ≤ (((p71.l.length + 1 : Nat) : Int) : Int) → (q9 : Int) < ((p71.l.length + 1 : Nat) : Int))}) (fun q9 => .int .i64 ((q9.1 : Nat) : Int)) (fun q9 => []) rfl rfl rfl rfl rfl Tryz.func21 (by decide) rfl rfl (fun w1 hw hC1 => next_cod cb w1 ((p71.l.length + 1 : Nat) : Int) hC1) ?_
     rintro ⟨tq, htq1, htq2⟩
     dsimp only [List.cons_append, List.nil_append]
     refine zE ?_
     refine TX.he (fun w1 hw => hw.pick [0, 2] (by decide) rfl) fun hS => ?_
     refine TH.t 21 rfl (gD ((1 + tq : Nat) : Int)) hS ?_
     refine TH.t 22 rfl (gives_build (v := .agg #[.int .i64 x61.v, .int .i64 0, .int .i64 ((n0 : Nat) : Int), .int .i64 ((at0 + (1 + dq) : Nat) : Int), .int .u32 x61.dst, .int .i64 x61.proto, .int .i64 ((f : Nat) : Int), .int .i64 ((1 + tq : Nat) : Int), .bool false, .bool false, .int .i64 0, .int .u32 0, .int .i64 0, .int .i64 0, .int .i64 0, .int .i64 0, .int .i64 0]) rfl rfl (fun w => drebld47_74773 _ _ _ _ _ _ _ _ w)) hS ?_
     refine TH.only' 23 rfl (by kernel_rfl) rfl ?_
     refine TL.pnew rfl rfl rfl (exec_alloc (cs := [.int .i64 0, .int .i64 0, .int .i64 0, .int .i64 0, .int .u32 0, .int .i64 0, .int .i64 0, .int .i64 0, .bool false, .bool false, .int .i64 0, .int .u32 0, .int .i64 0, .int .i64 0, .int .i64 0, .int .i64 0, .int .i64 0]) rfl arpzv65 rfl) (fun g17 => ?_)
     refine zE ?_
     refine TX.held (fun w1 hw => hw.pick [1, 3] (by decide) rfl) ?_
     refine TH.only' 24 rfl (by kernel_rfl) rfl ?_
     refine TL.pstore (k := 0) (vs := [.int .i64 x61.v, .int .i64 0, .int .i64 ((n0 : Nat) : Int), .int .i64 ((at0 + (1 + dq) : Nat) : Int), .int .u32 x61.dst, .int .i64 x61.proto, .int .i64 ((f : Nat) : Int), .int .i64 ((1 + tq : Nat) : Int), .bool false, .bool false, .int .i64 0, .int .u32 0, .int .i64 0, .int .i64 0, .int .i64 0, .int .i64 0, .int .i64 0]) rfl rfl rfl rfl rfl rfl rfl prssz65 arpone_i64i64i64i64u32i64i64i64bbi64u32i64i64i64i64i64 (by show 17 ≤ 17; decide) rfl ?_
     refine zE ?_
     refine TX.held (fun w1 hw => hw.pick [1, 3] (by decide) rfl) ?_
     refine TH.done (by kernel_rfl) ?_
     exact TX.joined (⟨((g17, n0), tq), by dsimp only; omega, by dsimp only; omega⟩) (⟨rfl, rfl, rfl, rfl, rfl, rfl, rfl, rfl, rfl, rfl, rfl, rfl, trivial⟩) (fun w1 hw => hw)
    refine TL.pnew rfl rfl rfl (exec_alloc (cs := [.int .i64 0, .int .i64 0, .int .i64 0, .int .i64 0, .int .u32 0, .int .i64 0, .int .i64 0, .int .i64 0, .bool false, .bool false, .int .i64 0, .int .u32 0, .int .i64 0, .int .i64 0, .int .i64 0, .int .i64 0, .int .i64 0]) rfl arpzv65 rfl) (fun g17 => ?_)
    refine zE ?_
    refine TX.held (fun w1 hw => hw.pick [1, 3] (by decide) rfl) ?_
    refine TH.only' 20 rfl (by kernel_rfl) rfl ?_
    refine TL.pcallCod (k := 5) (α := {q9 : Nat // q9 ≤ 65535 ∧ (1 ≤ (((p71.l.length + 1 : Nat) : Int) : Int) → (q9 : Int) < ((p71.l.length + 1 : Nat) : Int))}) (fun q9 => .int .i64 ((q9.1 : Nat) : Int)) (fun q9 => []) rfl rfl rfl rfl rfl Tryz.func21 (by decide) rfl rfl (fun w1 hw hC1 => next_cod cb w1 ((p71.l.length + 1 : Nat) : Int) hC1) ?_
    rintro ⟨tq, htq1, htq2⟩
    dsimp only [List.cons_append, List.nil_append]
    refine zE ?_
    refine TX.he (fun w1 hw => hw.pick [1, 3] (by decide) rfl) fun hS => ?_
    refine TH.t 21 rfl (gD ((1 + tq : Nat) : Int)) hS ?_
    refine TH.t 22 rfl (gives_build (v := .agg #[.int .i64 x61.v, .int .i64 0, .int .i64 ((n0 : Nat) : Int), .int .i64 ((at0 + (1 + dq) : Nat) : Int), .int .u32 x61.dst, .int .i64 x61.proto, .int .i64 ((f : Nat) : Int), .int .i64 ((1 + tq : Nat) : Int), .bool false, .bool false, .int .i64 0, .int .u32 0, .int .i64 0, .int .i64 0, .int .i64 0, .int .i64 0, .int .i64 0]) rfl rfl (fun w => drebld47_74773 _ _ _ _ _ _ _ _ w)) hS ?_
    refine TH.only' 24 rfl (by kernel_rfl) rfl ?_
    refine TL.pstore (k := 0) (vs := [.int .i64 x61.v, .int .i64 0, .int .i64 ((n0 : Nat) : Int), .int .i64 ((at0 + (1 + dq) : Nat) : Int), .int .u32 x61.dst, .int .i64 x61.proto, .int .i64 ((f : Nat) : Int), .int .i64 ((1 + tq : Nat) : Int), .bool false, .bool false, .int .i64 0, .int .u32 0, .int .i64 0, .int .i64 0, .int .i64 0, .int .i64 0, .int .i64 0]) rfl rfl rfl rfl rfl rfl rfl prssz65 arpone_i64i64i64i64u32i64i64i64bbi64u32i64i64i64i64i64 (by show 17 ≤ 17; decide) rfl ?_
    refine zE ?_
    refine TX.held (fun w1 hw => hw.pick [1, 3] (by decide) rfl) ?_
    refine TH.done (by kernel_rfl) ?_
    exact TX.joined (⟨((g17, n0), tq), by dsimp only; omega, by dsimp only; omega⟩) (⟨rfl, rfl, rfl, rfl, rfl, rfl, rfl, rfl, rfl, rfl, rfl, rfl, trivial⟩) (fun w1 hw => hw)
   refine TC.cut [(0, .pointer (some ⟨cb, 0, none⟩)), (2, .bool stb), (7, .slice (some ⟨g_An, 0, none⟩) ns.length cn), (8, .slice Ar out.length cr), (9, .int .i64 ((at0 + (1 + dq) : Nat) : Int)), (10, .int .i64 ((idn : Nat) : Int)), (11, .pointer (some ⟨g11, 0, none⟩)), (12, .int .i64 ((k : Nat) : Int)), (13, .int .i64 ((ix : Nat) : Int)), (59, .slice (some ⟨g_An, 0, none⟩) ns.length cn), (60, .int .i64 ((ix : Nat) : Int)), (61, .pointer (some ⟨g_An, 0 + ix * 5, none⟩)), (62, .agg (x61.cells).toArray), (14, .pointer (some ⟨g14, 0, none⟩)), (63, .pointer (some ⟨cb, 0, none⟩)), (64, .pointer (some ⟨g14, 3, none⟩)), (65, .slice x61.ps.A x61.ps.l.length x61.ps.c), (66, .int .i64 (x61.ps.l.length : Nat)), (67, .int .i64 ((f : Nat) : Int)), (15, .int .i64 ((f : Nat) : Int)), (68, .pointer (some ⟨g14, 3, none⟩)), (69, .slice x61.ps.A x61.ps.l.length x61.ps.c), (70, .int .i64 ((f : Nat) : Int)), (71, .pointer (some ⟨gx71, 0 + f * 1, none⟩)), (72, .slice p71.A p71.l.length p71.c), (16, .slice p71.A p71.l.length p71.c), (73, .int .i64 ((at0 : Nat) : Int)), (74, .pointer (some ⟨cb, 0, none⟩)), (75, .int .i64 ((dq : Nat) : Int)), (76, .int .i64 ((1 + dq : Nat) : Int)), (77, .int .i64 ((at0 + (1 + dq) : Nat) : Int))] (Pm ⟨w, cb⟩ ([.blk g14 92 x61.cells, .row (.slice Ar out.length cr) 65 17 out.length (flat Rs.cells out), .blk g11 95 [.int .i64 ((n0 : Nat) : Int), .int .i64 ((n1 : Nat) : Int), .int .i64 0, .int .i64 0, .int .i64 0, .int .i64 0, .int .i64 0, .int .i64 0, .int .i64 0, .int .i64 0, .int .i64 0, .int .i64 0, .int .i64 0, .int .i64 0, .int .i64 0, .int .i64 0], .row (.slice (some ⟨g_An, 0, none⟩) ns.length cn) 92 5 ns.length (flat Nt.cells ns2), .abs cb (fun w => Cod w cb)] ++ (netsP P2 ++ oths cb w))) ⟨rfl, rfl, rfl, rfl, rfl, rfl, rfl, rfl, rfl, rfl, rfl, rfl, rfl, rfl, rfl, rfl, rfl, rfl, rfl, rfl, rfl, rfl, rfl, rfl, rfl, rfl, rfl, rfl, rfl, rfl, rfl, trivial⟩ (fun w1 hw => hw) ?_
   refine TC.held (ls := #[Ff,Ff,Ff,Ff,Ff,Ff,Ff,Ff,Ff,Ff,Ff,Ff,Ff,Ff,Ff,Ff,Ff,Ff,Ff,Ff,Ff,Ff,Ff,Ff,Ff]) (Pm ⟨w, cb⟩ [.blk g14 92 x61.cells, .blk g11 95 [.int .i64 ((n0 : Nat) : Int), .int .i64 ((n1 : Nat) : Int), .int .i64 0, .int .i64 0, .int .i64 0, .int .i64 0, .int .i64 0, .int .i64 0, .int .i64 0, .int .i64 0, .int .i64 0, .int .i64 0, .int .i64 0, .int .i64 0, .int .i64 0, .int .i64 0]]) (by kernel_rfl) rfl rfl (fun w hw => hw.drawn _) ?_
   refine TH.tk 0 rfl rfl rfl (gF dntfld119_0) (fun w1 hw => hw.pick [0, 2] (by decide) rfl) ?_
   refine TH.tk 1 rfl rfl rfl (gF pcmfld32_0) (fun w1 hw => hw.pick [0, 2] (by decide) rfl) ?_
   refine TH.tk 2 rfl rfl rfl (gL 0 pcmag3) (fun w1 hw => hw.pick [0, 2] (by decide) rfl) ?_
   refine TH.tk 3 rfl rfl rfl (gF dntfld119_0) (fun w1 hw => hw.pick [0, 2] (by decide) rfl) ?_
   refine TH.tk 4 rfl rfl rfl (gF pcmfld32_0) (fun w1 hw => hw.pick [0, 2] (by decide) rfl) ?_
   refine TH.tk 5 rfl rfl rfl (show Gives _ _ _ _ _ (Value.int .i64 1) from by rw [show (Value.int .i64 1) = .int .i64 x61.v by rw [hv1]]; exact pm_load (k := 0) (i := 0) rfl rfl pcmag3 rfl rfl) (fun w1 hw => hw.pick [0, 2] (by decide) rfl) ?_
   refine TH.tk 6 rfl rfl rfl (gives_at (v := .pointer (some ⟨g11, 1, none⟩)) rfl rfl rfl (fun w => at_arr Tryz.underlying95 pcmsz3 g11 0 _ 1 (by decide) w)) (fun w1 hw => hw.pick [0, 2] (by decide) rfl) ?_
   refine TH.tk 7 rfl rfl rfl (gL 1 pcmag3) (fun w1 hw => hw.pick [0, 2] (by decide) rfl) ?_
   refine TH.tk 8 rfl rfl rfl (gives_move rfl rfl) (fun w1 hw => hw.pick [0, 2] (by decide) rfl) ?_
   refine TH.tk 9 rfl rfl rfl (gF dntfld119_0) (fun w1 hw => hw.pick [0, 2] (by decide) rfl) ?_
   refine TH.tk 10 rfl rfl rfl (gF pcmfld32_1) (fun w1 hw => hw.pick [0, 2] (by decide) rfl) ?_
   refine TH.tk 11 rfl rfl rfl (gL 0 pcmag30) (fun w1 hw => hw.pick [0, 2] (by decide) rfl) ?_
   refine TH.tk 12 rfl rfl rfl (gF dntfld119_0) (fun w1 hw => hw.pick [0, 2] (by decide) rfl) ?_
   refine TH.tk 13 rfl rfl rfl (gF pcmfld32_2) (fun w1 hw => hw.pick [0, 2] (by decide) rfl) ?_
   refine TH.tk 14 rfl rfl rfl (gL 0 pcmag3) (fun w1 hw => hw.pick [0, 2] (by decide) rfl) ?_
   refine TH.tk 15 rfl rfl rfl (gives_move rfl rfl) (fun w1 hw => hw.pick [0, 2] (by decide) rfl) ?_
   refine TH.tk 16 rfl rfl rfl (gives_move rfl rfl) (fun w1 hw => hw.pick [0, 2] (by decide) rfl) ?_
   refine TH.tk 17 rfl rfl rfl (gives_move rfl rfl) (fun w1 hw => hw.pick [0, 2] (by decide) rfl) ?_
   refine TH.tk 18 rfl rfl rfl (gN Tryz.underlying96) (fun w1 hw => hw.pick [0, 2] (by decide) rfl) ?_
   refine TH.tk 19 rfl rfl rfl (gD ((p71.l.length + 1 : Nat) : Int)) (fun w1 hw => hw.pick [0, 2] (by decide) rfl) ?_
   refine TH.two' (listed1 := #[Tt,Tt,Tt,Tt,Tt,Tt,Tt,Tt,Tt,Tt,Tt,Tt,Tt,Tt,Tt,Tt,Tt,Tt,Tt,Tt,Tt,Ff,Ff,Ff,Ff]) (listed2 := #[Tt,Tt,Tt,Tt,Tt,Tt,Tt,Tt,Tt,Tt,Tt,Tt,Tt,Tt,Tt,Tt,Tt,Tt,Tt,Tt,Ff,Ff,Ff,Tt,Ff]) 20 23 rfl rfl (by kernel_rfl) rfl rfl ?_ ?_
   ·refine TL.pcallCod (k := 4) (α := {q9 : Nat // q9 ≤ 65535 ∧ (1 ≤ (((p71.l.length + 1 : Nat) : Int) : Int) → (q9 : Int) < ((p71.l.length + 1 : Nat) : Int))}) (fun q9 => .int .i64 ((q9.1 : Nat) : Int)) (fun q9 => []) rfl rfl rfl rfl rfl Tryz.func21 (by decide) rfl rfl (fun w1 hw hC1 => next_cod cb w1 ((p71.l.length + 1 : Nat) : Int) hC1) ?_
    rintro ⟨tq, htq1, htq2⟩
    dsimp only [List.cons_append, List.nil_append]
    refine zE ?_
    refine TX.he (fun w1 hw => hw.pick [0, 2] (by decide) rfl) fun hS => ?_
    refine TH.t 21 rfl (gD ((1 + tq : Nat) : Int)) hS ?_
    refine TH.t 22 rfl (gives_build (v := .agg #[.int .i64 x61.v, .int .i64 0, .int .i64 ((n1 : Nat) : Int), .int .i64 ((at0 + (1 + dq) : Nat) : Int), .int .u32 x61.dst, .int .i64 x61.proto, .int .i64 ((f : Nat) : Int), .int .i64 ((1 + tq : Nat) : Int), .bool false, .bool false, .int .i64 0, .int .u32 0, .int .i64 0, .int .i64 0, .int .i64 0, .int .i64 0, .int .i64 0]) rfl rfl (fun w => drebld47_74773 _ _ _ _ _ _ _ _ w)) hS ?_
    refine TH.only' 23 rfl (by kernel_rfl) rfl ?_
    refine TL.pnew rfl rfl rfl (exec_alloc (cs := [.int .i64 0, .int .i64 0, .int .i64 0, .int .i64 0, .int .u32 0, .int .i64 0, .int .i64 0, .int .i64 0, .bool false, .bool false, .int .i64 0, .int .u32 0, .int .i64 0, .int .i64 0, .int .i64 0, .int .i64 0, .int .i64 0]) rfl arpzv65 rfl) (fun g17 => ?_)
    refine zE ?_
    refine TX.held (fun w1 hw => hw.pick [1, 3] (by decide) rfl) ?_
    refine TH.only' 24 rfl (by kernel_rfl) rfl ?_
    refine TL.pstore (k := 0) (vs := [.int .i64 x61.v, .int .i64 0, .int .i64 ((n1 : Nat) : Int), .int .i64 ((at0 + (1 + dq) : Nat) : Int), .int .u32 x61.dst, .int .i64 x61.proto, .int .i64 ((f : Nat) : Int), .int .i64 ((1 + tq : Nat) : Int), .bool false, .bool false, .int .i64 0, .int .u32 0, .int .i64 0, .int .i64 0, .int .i64 0, .int .i64 0, .int .i64 0]) rfl rfl rfl rfl rfl rfl rfl prssz65 arpone_i64i64i64i64u32i64i64i64bbi64u32i64i64i64i64i64 (by show 17 ≤ 17; decide) rfl ?_
    refine zE ?_
    refine TX.held (fun w1 hw => hw.pick [1, 3] (by decide) rfl) ?_
    refine TH.done (by kernel_rfl) ?_
    exact TX.joined (⟨((g17, n1), tq), by dsimp only; omega, by dsimp only; omega⟩) (⟨rfl, rfl, rfl, rfl, rfl, rfl, rfl, rfl, rfl, rfl, rfl, rfl, trivial⟩) (fun w1 hw => hw)
   refine TL.pnew rfl rfl rfl (exec_alloc (cs := [.int .i64 0, .int .i64 0, .int .i64 0, .int .i64 0, .int .u32 0, .int .i64 0, .int .i64 0, .int .i64 0, .bool false, .bool false, .int .i64 0, .int .u32 0, .int .i64 0, .int .i64 0, .int .i64 0, .int .i64 0, .int .i64 0]) rfl arpzv65 rfl) (fun g17 => ?_)
   refine zE ?_
   refine TX.held (fun w1 hw => hw.pick [1, 3] (by decide) rfl) ?_
   refine TH.only' 20 rfl (by kernel_rfl) rfl ?_
   refine TL.pcallCod (k := 5) (α := {q9 : Nat // q9 ≤ 65535 ∧ (1 ≤ (((p71.l.length + 1 : Nat) : Int) : Int) → (q9 : Int) < ((p71.l.length + 1 : Nat) : Int))}) (fun q9 => .int .i64 ((q9.1 : Nat) : Int)) (fun q9 => []) rfl rfl rfl rfl rfl Tryz.func21 (by decide) rfl rfl (fun w1 hw hC1 => next_cod cb w1 ((p71.l.length + 1 : Nat) : Int) hC1) ?_
   rintro ⟨tq, htq1, htq2⟩
   dsimp only [List.cons_append, List.nil_append]
   refine zE ?_
   refine TX.he (fun w1 hw => hw.pick [1, 3] (by decide) rfl) fun hS => ?_
   refine TH.t 21 rfl (gD ((1 + tq : Nat) : Int)) hS ?_
   refine TH.t 22 rfl (gives_build (v := .agg #[.int .i64 x61.v, .int .i64 0, .int .i64 ((n1 : Nat) : Int), .int .i64 ((at0 + (1 + dq) : Nat) : Int), .int .u32 x61.dst, .int .i64 x61.proto, .int .i64 ((f : Nat) : Int), .int .i64 ((1 + tq : Nat) : Int), .bool false, .bool false, .int .i64 0, .int .u32 0, .int .i64 0, .int .i64 0, .int .i64 0, .int .i64 0, .int .i64 0]) rfl rfl (fun w => drebld47_74773 _ _ _ _ _ _ _ _ w)) hS ?_
   refine TH.only' 24 rfl (by kernel_rfl) rfl ?_
   refine TL.pstore (k := 0) (vs := [.int .i64 x61.v, .int .i64 0, .int .i64 ((n1 : Nat) : Int), .int .i64 ((at0 + (1 + dq) : Nat) : Int), .int .u32 x61.dst, .int .i64 x61.proto, .int .i64 ((f : Nat) : Int), .int .i64 ((1 + tq : Nat) : Int), .bool false, .bool false, .int .i64 0, .int .u32 0, .int .i64 0, .int .i64 0, .int .i64 0, .int .i64 0, .int .i64 0]) rfl rfl rfl rfl rfl rfl rfl prssz65 arpone_i64i64i64i64u32i64i64i64bbi64u32i64i64i64i64i64 (by show 17 ≤ 17; decide) rfl ?_
   refine zE ?_
   refine TX.held (fun w1 hw => hw.pick [1, 3] (by decide) rfl) ?_
   refine TH.done (by kernel_rfl) ?_
   exact TX.joined (⟨((g17, n1), tq), by dsimp only; omega, by dsimp only; omega⟩) (⟨rfl, rfl, rfl, rfl, rfl, rfl, rfl, rfl, rfl, rfl, rfl, rfl, trivial⟩) (fun w1 hw => hw)
  rintro ⟨⟨⟨gR, num⟩, tq⟩, hnum, htq⟩
  dsimp only at hnum htq ⊢
  refine TC.join (α := {y : Nat × Nat // (x61.v = 0 ∧ y.1 = n0 + 1 ∧ y.2 = n1) ∨ (x61.v = 1 ∧ y.1 = n0 ∧ y.2 = n1 + 1)}) (fun y => [(0, .pointer (some ⟨cb, 0, none⟩)), (2, .bool stb), (7, .slice (some ⟨g_An, 0, none⟩) ns.length cn), (8, .slice Ar out.length cr), (9, .int .i64 ((at0 + (1 + dq) : Nat) : Int)), (10, .int .i64 ((idn : Nat) : Int)), (11, .pointer (some ⟨g11, 0, none⟩)), (12, .int .i64 ((k : Nat) : Int)), (14, .pointer (some ⟨g14, 0, none⟩)), (15, .int .i64 ((f : Nat) : Int)), (16, .slice p71.A p71.l.length p71.c), (17, .pointer (some ⟨gR, 0, none⟩))]) (fun y => Pm ⟨w, cb⟩ ([.blk gR 65 [.int .i64 x61.v, .int .i64 0, .int .i64 ((num : Nat) : Int), .int .i64 ((at0 + (1 + dq) : Nat) : Int), .int .u32 x61.dst, .int .i64 x61.proto, .int .i64 ((f : Nat) : Int), .int .i64 ((1 + tq : Nat) : Int), .bool false, .bool false, .int .i64 0, .int .u32 0, .int .i64 0, .int .i64 0, .int .i64 0, .int .i64 0, .int .i64 0], .blk g14 92 x61.cells, .row (.slice Ar out.length cr) 65 17 out.length (flat Rs.cells out), .blk g11 95 [.int .i64 ((y.1.1 : Nat) : Int), .int .i64 ((y.1.2 : Nat) : Int), .int .i64 0, .int .i64 0, .int .i64 0, .int .i64 0, .int .i64 0, .int .i64 0, .int .i64 0, .int .i64 0, .int .i64 0, .int .i64 0, .int .i64 0, .int .i64 0, .int .i64 0, .int .i64 0], .row (.slice (some ⟨g_An, 0, none⟩) ns.length cn) 92 5 ns.length (flat Nt.cells ns2), .abs cb (fun w => Cod w cb)] ++ (netsP P2 ++ oths cb w))) ?_ ?_
  ·rcases hv61 with hv0 | hv1
   ·refine zG (TL.v (gF dntfld119_0) ?_)
    refine TL.v (gF pcmfld32_0) ?_
    refine TL.val rfl rfl rfl (show Gives _ _ _ _ _ (Value.int .i64 0) from by rw [show (Value.int .i64 0) = .int .i64 x61.v by rw [hv0]]; exact pm_load (k := 1) (i := 0) rfl rfl pcmag3 rfl rfl) ?_
    refine TL.val rfl rfl rfl (gives_at (v := .pointer (some ⟨g11, 0, none⟩)) rfl rfl rfl (fun w => at_arr Tryz.underlying95 pcmsz3 g11 0 _ 0 (by decide) w)) ?_
    refine TL.v (gL 3 pcmag3) ?_
    refine TL.v (gD ((n0 + 1 : Nat) : Int)) ?_
    refine TL.val rfl rfl rfl (gives_at (v := .pointer (some ⟨g11, 0, none⟩)) rfl rfl rfl (fun w => at_arr Tryz.underlying95 pcmsz3 g11 0 _ 0 (by decide) w)) ?_
    refine TL.pstore (k := 3) (vs := [.int .i64 ((n0 + 1 : Nat) : Int)]) rfl rfl rfl rfl rfl rfl rfl pcmsz3 aeaone_i64 (by show 1 ≤ 16; decide) rfl ?_
    refine zE ?_
    exact TX.joined (⟨(n0 + 1, n1), by dsimp only; omega⟩) (⟨rfl, rfl, rfl, rfl, rfl, rfl, rfl, rfl, rfl, rfl, rfl, rfl, trivial⟩) (fun w1 hw => hw)
   refine zG (TL.v (gF dntfld119_0) ?_)
   refine TL.v (gF pcmfld32_0) ?_
   refine TL.val rfl rfl rfl (show Gives _ _ _ _ _ (Value.int .i64 1) from by rw [show (Value.int .i64 1) = .int .i64 x61.v by rw [hv1]]; exact pm_load (k := 1) (i := 0) rfl rfl pcmag3 rfl rfl) ?_
   refine TL.val rfl rfl rfl (gives_at (v := .pointer (some ⟨g11, 1, none⟩)) rfl rfl rfl (fun w => at_arr Tryz.underlying95 pcmsz3 g11 0 _ 1 (by decide) w)) ?_
   refine TL.v (gL 3 pcmag3) ?_
   refine TL.v (gD ((n1 + 1 : Nat) : Int)) ?_
   refine TL.val rfl rfl rfl (gives_at (v := .pointer (some ⟨g11, 1, none⟩)) rfl rfl rfl (fun w => at_arr Tryz.underlying95 pcmsz3 g11 0 _ 1 (by decide) w)) ?_
   refine TL.pstore (k := 3) (vs := [.int .i64 ((n1 + 1 : Nat) : Int)]) rfl rfl rfl rfl rfl rfl rfl pcmsz3 aeaone_i64 (by show 2 ≤ 16; decide) rfl ?_
   refine zE ?_
   exact TX.joined (⟨(n0, n1 + 1), by dsimp only; omega⟩) (⟨rfl, rfl, rfl, rfl, rfl, rfl, rfl, rfl, rfl, rfl, rfl, rfl, trivial⟩) (fun w1 hw => hw)
  rintro ⟨⟨n2, n3⟩, hn23⟩
  dsimp only at hn23 ⊢
  refine zS (TC.held (ls := #[Ff,Ff,Ff,Ff,Ff,Ff,Ff,Ff,Ff,Ff,Ff]) (fun w1 => ∃ b : Int, Pm ⟨w, cb⟩ [.blk gR 65 [.int .i64 x61.v, .int .i64 0, .int .i64 ((num : Nat) : Int), .int .i64 ((at0 + (1 + dq) : Nat) : Int), .int .u32 x61.dst, .int .i64 x61.proto, .int .i64 ((f : Nat) : Int), .int .i64 ((1 + tq : Nat) : Int), .bool false, .bool false, .int .i64 b, .int .u32 0, .int .i64 0, .int .i64 0, .int .i64 0, .int .i64 0, .int .i64 0]] w1) (by kernel_rfl) rfl rfl (fun w hw => hw.drawn _) ?_)
  refine TH.tk 0 rfl rfl rfl (gF prsfld65_3) (fun w1 hw => ⟨_, hw.pick [0] (by decide) rfl⟩) ?_
  refine TH.tk 1 rfl rfl rfl (gives_load (v := .int .i64 ((at0 + (1 + dq) : Nat) : Int)) rfl rfl pcmag3 (fun w1 hw => by obtain ⟨b, hw⟩ := hw; exact (hw.cell (k := 0) rfl 3).trans rfl)) (fun w1 hw => ⟨_, hw.pick [0] (by decide) rfl⟩) ?_
  refine TH.tk 2 rfl rfl rfl (gF prsfld65_7) (fun w1 hw => ⟨_, hw.pick [0] (by decide) rfl⟩) ?_
  refine TH.tk 3 rfl rfl rfl (gives_load (v := .int .i64 ((1 + tq : Nat) : Int)) rfl rfl pcmag3 (fun w1 hw => by obtain ⟨b, hw⟩ := hw; exact (hw.cell (k := 0) rfl 7).trans rfl)) (fun w1 hw => ⟨_, hw.pick [0] (by decide) rfl⟩) ?_
  refine TH.tk 4 rfl rfl rfl (gives_bin rfl rfl rfl (fun w => bin_mul_ (r := ((5 * (1 + tq) : Nat) : Int)) (by simp only [IntKind.wrap_i64]; omega) w)) (fun w1 hw => ⟨_, hw.pick [0] (by decide) rfl⟩) ?_
  refine TH.tk 5 rfl rfl rfl (gD ((at0 + (1 + dq) + 5 * (1 + tq) : Nat) : Int)) (fun w1 hw => ⟨_, hw.pick [0] (by decide) rfl⟩) ?_
  refine TH.tk 6 rfl rfl rfl (gives_move rfl rfl) (fun w1 hw => ⟨_, hw.pick [0] (by decide) rfl⟩) ?_
  refine TH.only' 7 rfl (by kernel_rfl) rfl ?_
  refine TL.pcallCod (k := 5) (α := {q9 : Nat // q9 ≤ 65535 ∧ (1 ≤ (4 : Int) → (q9 : Int) < 4)}) (fun q9 => .int .i64 ((q9.1 : Nat) : Int)) (fun q9 => []) rfl rfl rfl rfl rfl Tryz.func21 (by decide) rfl rfl (fun w1 hw hC1 => next_cod cb w1 4 hC1) ?_
  rintro ⟨bq, hbq1, hbq2⟩
  dsimp only [List.cons_append, List.nil_append]
  refine zE ?_
  refine TX.he (fun w1 hw => ⟨_, hw.pick [0] (by decide) rfl⟩) fun hS => ?_
  refine TH.t 8 rfl (gD ((at0 + (1 + dq) + 5 * (1 + tq) + bq : Nat) : Int)) hS ?_
  refine TH.t 9 rfl (gF prsfld65_10) hS ?_
  refine TH.only' 10 rfl (by kernel_rfl) rfl ?_
  refine TL.pstore (k := 0) (vs := [.int .i64 ((at0 + (1 + dq) + 5 * (1 + tq) + bq : Nat) : Int)]) rfl rfl rfl rfl rfl rfl rfl pcmsz3 aeaone_i64 (by show 11 ≤ 17; decide) rfl ?_
  refine zE ?_
  refine TX.held (fun w1 hw => ⟨_, hw.pick [0] (by decide) rfl⟩) ?_
  refine TH.done (by kernel_rfl) ?_
  refine zT (zSG (TL.rn 2 rfl ?_))
  refine TL.pcallCod (k := 5) (α := {q9 : Nat // q9 ≤ 65535 ∧ (1 ≤ (5 : Int) → (q9 : Int) < 5)}) (fun q9 => .int .i64 ((q9.1 : Nat) : Int)) (fun q9 => []) rfl rfl rfl rfl rfl Tryz.func21 (by decide) rfl rfl (fun w1 hw hC1 => next_cod cb w1 5 hC1) ?_
  rintro ⟨ec, hec1, hec2⟩
  dsimp only [List.cons_append, List.nil_append]
  refine TL.v (gD ((1 + ec : Nat) : Int)) ?_
  refine TL.v (gD ((idn + (1 + ec) : Nat) : Int)) ?_
  refine TL.as_ ?_
  refine zET (zSG (TL.v (gF dntfld119_2) ?_))
  refine TL.v (gL 1 pcmag30) ?_
  refine TL.as_ ?_
  refine zET ?_
  refine TC.join (α := {a : Int // 0 ≤ a ∧ a ≤ 167774466}) (fun y => [(0, .pointer (some ⟨cb, 0, none⟩)), (2, .bool stb), (7, .slice (some ⟨g_An, 0, none⟩) ns.length cn), (8, .slice Ar out.length cr), (9, .int .i64 ((at0 + (1 + dq) : Nat) : Int)), (10, .int .i64 ((idn + (1 + ec) : Nat) : Int)), (11, .pointer (some ⟨g11, 0, none⟩)), (12, .int .i64 ((k : Nat) : Int)), (16, .slice p71.A p71.l.length p71.c), (17, .pointer (some ⟨gR, 0, none⟩)), (18, .int .u32 y.1)]) (fun y => Pm ⟨w, cb⟩ ([.blk gR 65 [.int .i64 x61.v, .int .i64 0, .int .i64 ((num : Nat) : Int), .int .i64 ((at0 + (1 + dq) : Nat) : Int), .int .u32 x61.dst, .int .i64 x61.proto, .int .i64 ((f : Nat) : Int), .int .i64 ((1 + tq : Nat) : Int), .bool false, .bool false, .int .i64 ((at0 + (1 + dq) + 5 * (1 + tq) + bq : Nat) : Int), .int .u32 0, .int .i64 0, .int .i64 0, .int .i64 0, .int .i64 0, .int .i64 0], .blk g14 92 x61.cells, .row (.slice Ar out.length cr) 65 17 out.length (flat Rs.cells out), .blk g11 95 [.int .i64 ((n2 : Nat) : Int), .int .i64 ((n3 : Nat) : Int), .int .i64 0, .int .i64 0, .int .i64 0, .int .i64 0, .int .i64 0, .int .i64 0, .int .i64 0, .int .i64 0, .int .i64 0, .int .i64 0, .int .i64 0, .int .i64 0, .int .i64 0, .int .i64 0], .row (.slice (some ⟨g_An, 0, none⟩) ns.length cn) 92 5 ns.length (flat Nt.cells ns2), .abs cb (fun w => Cod w cb)] ++ (netsP P2 ++ oths cb w))) ?_ ?_
  ·refine zSG (TL.v (gF prsfld65_7) ?_)
   refine TL.v (gL 0 pcmag3) ?_
   refine TL.mv ?_
   refine TL.v (gN Tryz.underlying96) ?_
   refine TL.sp bin_leq (fun q129 => ?_) (fun q129 => ?_)
   ·refine zET (zc (zG (TL.mv ?_)))
    refine TL.v (gF prsfld65_7) ?_
    refine TL.v (gL 0 pcmag3) ?_
    refine TL.val rfl rfl rfl (gives_bin rfl rfl rfl (fun w => bin_sub_ (r := ((tq : Nat) : Int)) (by simp only [IntKind.wrap_i64]; omega) w)) ?_
    have hmm134 := nets_mem2 (T := oths cb w) hx61p (List.mem_of_getElem? hp71)
    refine TL.fact (p := ∃ g, p71.A = some ⟨g, 0, none⟩) (fun w1 hw => segA hw (List.mem_of_mem_drop (i := 6) (by exact hmm134)) (by omega)) ?_
    rintro ⟨gx134, hgx134⟩
    obtain ⟨z134, hz134⟩ : ∃ z, p71.l[tq]? = some z := ⟨_, List.getElem?_eq_getElem (by omega)⟩
    refine TL.val rfl rfl rfl (gA (i := tq) Tryz.underlying96 dntsz30 rfl rfl rfl rfl hgx134 (by omega)) ?_
    refine TL.val rfl rfl rfl (gives_load (v := .int .u32 z134) rfl rfl pcmag30 (fun w1 hw => seg_cell (ic_cel .u32) hw (List.mem_of_mem_drop (i := 6) (by exact hmm134)) hgx134 hz134 0 _ rfl)) ?_
    have hz134r := hpw71.2 z134 (List.mem_of_getElem? hz134)
    refine TL.as_ ?_
    refine zE ?_
    exact TX.joined (⟨z134, by omega⟩) (⟨rfl, rfl, rfl, rfl, rfl, rfl, rfl, rfl, rfl, rfl, rfl, trivial⟩) (fun w1 hw => hw)
   refine zET (zd (zk ?_))
   exact TX.joined (⟨x61.last, by omega⟩) (⟨rfl, rfl, rfl, rfl, rfl, rfl, rfl, rfl, rfl, rfl, rfl, trivial⟩) (fun w1 hw => hw)
  rintro ⟨fa, hfa⟩
  dsimp only at hfa ⊢
  refine TC.join (α := {y : (Bool × Bool) × (Int × Int) × (Int × Int × Int) // AnsP y.1.1 y.1.2 y.2.1.1 y.2.1.2 y.2.2.1 y.2.2.2.1 y.2.2.2.2}) (fun y => [(0, .pointer (some ⟨cb, 0, none⟩)), (2, .bool stb), (7, .slice (some ⟨g_An, 0, none⟩) ns.length cn), (8, .slice Ar out.length cr), (9, .int .i64 ((at0 + (1 + dq) : Nat) : Int)), (10, .int .i64 ((idn + (1 + ec) : Nat) : Int)), (11, .pointer (some ⟨g11, 0, none⟩)), (12, .int .i64 ((k : Nat) : Int)), (16, .slice p71.A p71.l.length p71.c), (17, .pointer (some ⟨gR, 0, none⟩))]) (fun y => Pm ⟨w, cb⟩ ([.blk gR 65 [.int .i64 x61.v, .int .i64 0, .int .i64 ((num : Nat) : Int), .int .i64 ((at0 + (1 + dq) : Nat) : Int), .int .u32 x61.dst, .int .i64 x61.proto, .int .i64 ((f : Nat) : Int), .int .i64 ((1 + tq : Nat) : Int), .bool y.1.1.1, .bool y.1.1.2, .int .i64 ((at0 + (1 + dq) + 5 * (1 + tq) + bq : Nat) : Int), .int .u32 y.1.2.1.1, .int .i64 y.1.2.1.2, .int .i64 0, .int .i64 y.1.2.2.1, .int .i64 y.1.2.2.2.1, .int .i64 y.1.2.2.2.2], .blk g14 92 x61.cells, .row (.slice Ar out.length cr) 65 17 out.length (flat Rs.cells out), .blk g11 95 [.int .i64 ((n2 : Nat) : Int), .int .i64 ((n3 : Nat) : Int), .int .i64 0, .int .i64 0, .int .i64 0, .int .i64 0, .int .i64 0, .int .i64 0, .int .i64 0, .int .i64 0, .int .i64 0, .int .i64 0, .int .i64 0, .int .i64 0, .int .i64 0, .int .i64 0], .row (.slice (some ⟨g_An, 0, none⟩) ns.length cn) 92 5 ns.length (flat Nt.cells ns2), .abs cb (fun w => Cod w cb)] ++ (netsP P2 ++ oths cb w))) ?_ ?_
  ·refine zSG (TL.mv ?_)
   refine TL.sp bin_neq (fun q137 => ?_) (fun q137 => ?_)
   ·refine TL.rn 2 rfl (TL.gu ?_)
    refine TL.pcallCod (k := 5) (α := Bool) (fun x => .bool x) (fun x => []) rfl rfl rfl rfl rfl Tryz.func18 (by decide) rfl rfl (fun w1 hw hC1 => dbool_cod cb w1 hC1 5 (by decide)) ?_
    rintro b2
    dsimp only [List.cons_append, List.nil_append]
    cases b2 with
    | true =>
     refine TL.rn 2 rfl (zET (zd (zk ?_)))
     exact TX.joined (⟨((false, false), (0, 0), (0, 0, 0)), .inl ⟨rfl, rfl, rfl, rfl, rfl, rfl, rfl⟩⟩) (⟨rfl, rfl, rfl, rfl, rfl, rfl, rfl, rfl, rfl, rfl, trivial⟩) (fun w1 hw => hw)
    | false =>
     refine TL.rn 2 rfl (zET (zc (zSG (TL.mv ?_))))
     refine TL.pcallCod (k := 5) (α := Bool) (fun x => .bool x) (fun x => []) rfl rfl rfl rfl rfl Tryz.func18 (by decide) rfl rfl (fun w1 hw hC1 => dbool_cod cb w1 hC1 30 (by decide)) ?_
     rintro b3
     dsimp only [List.cons_append, List.nil_append]
     refine TL.v (gF prsfld65_8) ?_
     refine TL.pstore (k := 0) (vs := [.bool true]) rfl rfl rfl rfl rfl rfl rfl dresz4 dreone_b (by show 9 ≤ 17; decide) rfl ?_
     refine TL.v (gF prsfld65_9) ?_
     refine TL.pstore (k := 0) (vs := [.bool b3]) rfl rfl rfl rfl rfl rfl rfl dresz4 dreone_b (by show 10 ≤ 17; decide) rfl ?_
     refine zET (zSG (TL.rn 2 rfl ?_))
     refine TL.val rfl rfl rfl (gives_bin (v := .int .i64 ((((idn + (1 + ec)) % 65536 : Nat) : Nat) : Int)) rfl rfl rfl (fun w => by rw [bin_remk (by omega) (by decide) w]; rfl)) ?_
     refine TL.val rfl rfl rfl (gives_build (v := .agg #[.int .u32 fa, .int .i64 1, .int .i64 0, .int .i64 60, .int .i64 (((idn + (1 + ec)) % 65536 : Nat) : Int), .int .i64 1]) rfl rfl (fun w => drebld45_50928 _ _ _ _ _ w)) ?_
     refine TL.v (gF prsfld65_11) ?_
     refine TL.pstore (k := 0) (vs := [.int .u32 fa, .int .i64 1, .int .i64 0, .int .i64 60, .int .i64 (((idn + (1 + ec)) % 65536 : Nat) : Int), .int .i64 1]) rfl rfl rfl rfl rfl rfl rfl dresz45 dreone_u32i64i64i64i64i64 (by show 17 ≤ 17; decide) rfl ?_
     refine zET (zS (zSG (TL.v (gF prsfld65_7) ?_)))
     refine TL.v (gL 0 pcmag3) ?_
     refine TL.mv ?_
     refine TL.v (gN Tryz.underlying96) ?_
     refine TL.sp bin_gtr (fun q156 => ?_) (fun q156 => ?_)
     ·refine zET (zc (zG (TL.mv ?_)))
      refine TL.prowS (e := 3) (size := 1) (cs := flat (ic .i64) [3, 3, 2]) rfl rfl rfl rfl rfl (fun w => pcmbs106_3_44640 _ _ _ w) (by decide) rfl (fun g158 => ?_)
      refine TL.pcallCod (k := 6) (α := {v : Int // v ∈ ([3, 3, 2] : List Int)}) (fun x => .int .i64 x.1) (fun x => []) rfl rfl rfl rfl rfl Tryz.func22 (by decide) rfl rfl (fun w1 hw hC1 => pick_cod cb w1 hC1 g158 3 ([3, 3, 2]) (hw.neq (i := 0) (j := 6) rfl rfl (by decide) g158 rfl <| congrArg some ·.symm) (Pc.lt (hw.at_ (k := 0) rfl) g158 rfl).2 (by show 0 < ([3, 3, 2] : List Int).length; simp) (fun i v hi => flat_row1 hw (q := 0) rfl hi)) ?_
      rintro ⟨pk, hpk⟩
      dsimp only [List.cons_append, List.nil_append]
      have hpkb : pk = 3 ∨ pk = 2 := by simp only [List.mem_cons, List.not_mem_nil, or_false] at hpk; omega
      refine TL.v (gF prsfld65_11) ?_
      refine TL.v (gF prsfld63_1) ?_
      refine TL.pstore (k := 1) (vs := [.int .i64 pk]) rfl rfl rfl rfl rfl rfl rfl pcmsz3 aeaone_i64 (by show 13 ≤ 17; decide) rfl ?_
      refine zET (zSG (TL.mv ?_))
      refine TL.pcallCod (k := 6) (α := Bool) (fun x => .bool x) (fun x => []) rfl rfl rfl rfl rfl Tryz.func18 (by decide) rfl rfl (fun w1 hw hC1 => dbool_cod cb w1 hC1 5 (by decide)) ?_
      rintro b4
      dsimp only [List.cons_append, List.nil_append]
      refine zET ?_
      refine TC.split (t := b4) rfl (fun c163 => ?_) (fun c163 => ?_)
      ·refine zG (TL.mv ?_)
       refine TL.pcallCod (k := 6) (α := {q9 : Nat // q9 ≤ 65535 ∧ (1 ≤ (65536 : Int) → (q9 : Int) < 65536)}) (fun q9 => .int .i64 ((q9.1 : Nat) : Int)) (fun q9 => []) rfl rfl rfl rfl rfl Tryz.func21 (by decide) rfl rfl (fun w1 hw hC1 => next_cod cb w1 65536 hC1) ?_
       rintro ⟨ie0, hie01, hie02⟩
       dsimp only [List.cons_append, List.nil_append]
       refine TL.v (gF prsfld65_11) ?_
       refine TL.v (gF prsfld63_4) ?_
       refine TL.pstore (k := 1) (vs := [.int .i64 ((ie0 : Nat) : Int)]) rfl rfl rfl rfl rfl rfl rfl pcmsz3 aeaone_i64 (by show 16 ≤ 17; decide) rfl ?_
       refine zE ?_
       exact TX.joined (⟨((true, b3), (fa, pk), (60, ((ie0 : Nat) : Int), 1)), .inr ⟨rfl, by dsimp only; omega, by dsimp only; omega, by dsimp only; omega, by dsimp only; omega, rfl, by dsimp only; omega, by dsimp only; omega, rfl⟩⟩) (⟨rfl, rfl, rfl, rfl, rfl, rfl, rfl, rfl, rfl, rfl, trivial⟩) (fun w1 hw => hw.sel (.cons _ (.cons_cons _ (.cons_cons _ (.cons_cons _ (.cons_cons _ (.cons_cons _ (.cons_cons _ (List.Sublist.refl _)))))))))
      refine zk ?_
      exact TX.joined (⟨((true, b3), (fa, pk), (60, (((idn + (1 + ec)) % 65536 : Nat) : Int), 1)), .inr ⟨rfl, by dsimp only; omega, by dsimp only; omega, by dsimp only; omega, by dsimp only; omega, rfl, by dsimp only; omega, by dsimp only; omega, rfl⟩⟩) (⟨rfl, rfl, rfl, rfl, rfl, rfl, rfl, rfl, rfl, rfl, trivial⟩) (fun w1 hw => hw.sel (.cons _ (.cons_cons _ (.cons_cons _ (.cons_cons _ (.cons_cons _ (.cons_cons _ (.cons_cons _ (List.Sublist.refl _)))))))))
     refine zET (zd (zk (zT (zSG (TL.mv ?_)))))
     refine TL.pcallCod (k := 5) (α := Bool) (fun x => .bool x) (fun x => []) rfl rfl rfl rfl rfl Tryz.func18 (by decide) rfl rfl (fun w1 hw hC1 => dbool_cod cb w1 hC1 5 (by decide)) ?_
     rintro b4
     dsimp only [List.cons_append, List.nil_append]
     refine zET ?_
     refine TC.split (t := b4) rfl (fun c163 => ?_) (fun c163 => ?_)
     ·refine zG (TL.mv ?_)
      refine TL.pcallCod (k := 5) (α := {q9 : Nat // q9 ≤ 65535 ∧ (1 ≤ (65536 : Int) → (q9 : Int) < 65536)}) (fun q9 => .int .i64 ((q9.1 : Nat) : Int)) (fun q9 => []) rfl rfl rfl rfl rfl Tryz.func21 (by decide) rfl rfl (fun w1 hw hC1 => next_cod cb w1 65536 hC1) ?_
      rintro ⟨ie0, hie01, hie02⟩
      dsimp only [List.cons_append, List.nil_append]
      refine TL.v (gF prsfld65_11) ?_
      refine TL.v (gF prsfld63_4) ?_
      refine TL.pstore (k := 0) (vs := [.int .i64 ((ie0 : Nat) : Int)]) rfl rfl rfl rfl rfl rfl rfl pcmsz3 aeaone_i64 (by show 16 ≤ 17; decide) rfl ?_
      refine zE ?_
      exact TX.joined (⟨((true, b3), (fa, 1), (60, ((ie0 : Nat) : Int), 1)), .inr ⟨rfl, by dsimp only; omega, by dsimp only; omega, by dsimp only; omega, by dsimp only; omega, rfl, by dsimp only; omega, by dsimp only; omega, rfl⟩⟩) (⟨rfl, rfl, rfl, rfl, rfl, rfl, rfl, rfl, rfl, rfl, trivial⟩) (fun w1 hw => hw)
     refine zk ?_
     exact TX.joined (⟨((true, b3), (fa, 1), (60, (((idn + (1 + ec)) % 65536 : Nat) : Int), 1)), .inr ⟨rfl, by dsimp only; omega, by dsimp only; omega, by dsimp only; omega, by dsimp only; omega, rfl, by dsimp only; omega, by dsimp only; omega, rfl⟩⟩) (⟨rfl, rfl, rfl, rfl, rfl, rfl, rfl, rfl, rfl, rfl, trivial⟩) (fun w1 hw => hw)
   refine TL.rn 5 rfl (zET (zd (zk ?_)))
   exact TX.joined (⟨((false, false), (0, 0), (0, 0, 0)), .inl ⟨rfl, rfl, rfl, rfl, rfl, rfl, rfl⟩⟩) (⟨rfl, rfl, rfl, rfl, rfl, rfl, rfl, rfl, rfl, rfl, trivial⟩) (fun w1 hw => hw)
  rintro ⟨⟨⟨an, db⟩, ⟨sr, kd⟩, lf, ie, qu⟩, han⟩
  dsimp only at han ⊢
  refine zS ?_
  have hout2 := hout.snoc hx61t hnum hn23 han (by omega : at0 < at0 + (1 + dq)) (show f ≤ 2 by omega) (show tq ≤ 3 by omega) (show bq ≤ 3 by omega) (by omega)
  refine zG (TL.v (gF prsfld65_10) ?_)
  refine TL.v (gL 0 pcmag3) ?_
  refine TL.as_ ?_
  refine zET (zG (TL.mv ?_))
  refine TL.v (gV 0 (.agg #[.int .i64 x61.v, .int .i64 0, .int .i64 ((num : Nat) : Int), .int .i64 ((at0 + (1 + dq) : Nat) : Int), .int .u32 x61.dst, .int .i64 x61.proto, .int .i64 ((f : Nat) : Int), .int .i64 ((1 + tq : Nat) : Int), .bool an, .bool db, .int .i64 ((at0 + (1 + dq) + 5 * (1 + tq) + bq : Nat) : Int), .int .u32 sr, .int .i64 kd, .int .i64 0, .int .i64 lf, .int .i64 ie, .int .i64 qu]) prsag65 prssz65) ?_
  refine TL.prowS (e := 65) (size := 17) (cs := flat Rs.cells [(⟨x61.v, 0, ((num : Nat) : Int), ((at0 + (1 + dq) : Nat) : Int), x61.dst, x61.proto, ((f : Nat) : Int), ((1 + tq : Nat) : Int), an, db, ((at0 + (1 + dq) + 5 * (1 + tq) + bq : Nat) : Int), sr, kd, 0, lf, ie, qu⟩ : Rs)]) rfl rfl rfl rfl rfl (fun w => porbs23_1_99505 _ _ _ _ _ _ _ _ _ _ _ _ _ _ _ _ _ w) (by decide) rfl (fun g172 => ?_)
  refine TL.appendT (k := 3) rfl rfl rfl rfl Tryz.underlying23 porel23 rfl rfl rfl (fun w1 hw => pm_reads hw (k := 0) rfl) (flat_one rs_cel _) (by show _ * 128 ≤ _; omega) ((out ++ [(⟨x61.v, 0, ((num : Nat) : Int), ((at0 + (1 + dq) : Nat) : Int), x61.dst, x61.proto, ((f : Nat) : Int), ((1 + tq : Nat) : Int), an, db, ((at0 + (1 + dq) + 5 * (1 + tq) + bq : Nat) : Int), sr, kd, 0, lf, ie, qu⟩ : Rs)]).length) (by rw [List.length_append]; rfl) (flat Rs.cells (out ++ [(⟨x61.v, 0, ((num : Nat) : Int), ((at0 + (1 + dq) : Nat) : Int), x61.dst, x61.proto, ((f : Nat) : Int), ((1 + tq : Nat) : Int), an, db, ((at0 + (1 + dq) + 5 * (1 + tq) + bq : Nat) : Int), sr, kd, 0, lf, ie, qu⟩ : Rs)])) ((flat_app _ _).symm) (fun A173 c173 hA1731 hA1732 => ?_)
  refine TL.as_ ?_
  refine zE (zN (zT (zG (TL.mv ?_))))
  refine TL.val rfl rfl rfl (gives_bin rfl rfl rfl (fun w => bin_sub_ (r := ((k - 1 : Nat) : Int)) (by simp only [IntKind.wrap_i64]; omega) w)) ?_
  refine TL.as_ ?_
  refine zE ?_
  exact TX.round (⟨(k - 1, at0 + (1 + dq) + 5 * (1 + tq) + bq, idn + (1 + ec), (n2, n3), (A173, c173), out ++ [(⟨x61.v, 0, ((num : Nat) : Int), ((at0 + (1 + dq) : Nat) : Int), x61.dst, x61.proto, ((f : Nat) : Int), ((1 + tq : Nat) : Int), an, db, ((at0 + (1 + dq) + 5 * (1 + tq) + bq : Nat) : Int), sr, kd, 0, lf, ie, qu⟩ : Rs)], ns2, P2), ⟨by dsimp only; rw [List.length_append]; show k - 1 + (out.length + 1) ≤ m; omega, by dsimp only; rw [List.length_append]; show _ ≤ 100 + 100 * (out.length + 1); omega, by dsimp only; rw [List.length_append]; show _ ≤ 70000 + 100 * (out.length + 1); omega⟩, hout2, hns2, by dsimp only; omega, hA1731, hA1732⟩) (by show k - 1 < k; omega) ⟨rfl, rfl, rfl, rfl, rfl, rfl, rfl, rfl, trivial⟩ (fun w1 hw => hw.sel (.cons _ (.cons _ (.cons _ (.cons_cons _ (.cons_cons _ (.cons_cons _ (.cons_cons _ (List.Sublist.refl _)))))))))
 refine zET (zd (zx (zX (zX (zM (zT (zSG (TL.rn 2 rfl (zET (zr ?_))))))))))
 exact ret_tmp Tryz.results17 rfl (fun w1 hw => ⟨⟨((Ar, cr), out), hout.ok (by omega), hrc, hrm⟩, rfl, Pm.codr [_] ((hw.sel (.cons_cons _ (.cons _ (.cons _ (.cons_cons _ (List.Sublist.refl _)))))).sel (.cons_cons _ (.cons_cons _ (List.sublist_append_right _ _)))) rfl⟩)
set_option maxRecDepth 20000
def ShufOk (l o : List Rs) : Prop := (∀ r, r ∈ o ↔ r ∈ l) ∧ o.length ≤ 2 * l.length
theorem ShufOk.nil {l : List Rs} : ShufOk (l.take 0) [] := ⟨fun r => by rw [List.take_zero], Nat.zero_le _⟩
set_option maxRecDepth 20000
def tabV (l : List Int) : List Value := l.map (Value.int .i64)
def tab14 : List Int := [9223372036854775807, -9223372036854775808, 1125899906842624, 1125899906842625, 65535, 65536, 255, 256, 1023, 1024, 65534, 65535, 4294967296, 4611686018427387905]
def tab3 : List Int := [17, 1, 6]
theorem tab_at (l : List Int) (x : Nat) (h : x < l.length) : ∃ v, (tabV l)[0 + x * 1]? = some (.int .i64 v) := ⟨l[x], by rw [Nat.zero_add, Nat.mul_one]; simp [tabV, h]⟩
theorem jdrbs76_14_77721 (a0_0 : Int) (a1_0 : Int) (a2_0 : Int) (a3_0 : Int) (a4_0 : Int) (a5_0 : Int) (a6_0 : Int) (a7_0 : Int) (a8_0 : Int) (a9_0 : Int) (a10_0 : Int) (a11_0 : Int) (a12_0 : Int) (a13_0 : Int) (w : World) : (Instr.buildSlice 106 14 #[(0, .int .i64 a0_0), (1, .int .i64 a1_0), (2, .int .i64 a2_0), (3, .int .i64 a3_0), (4, .int .i64 a4_0), (5, .int .i64 a5_0), (6, .int .i64 a6_0), (7, .int .i64 a7_0), (8, .int .i64 a8_0), (9, .int .i64 a9_0), (10, .int .i64 a10_0), (11, .int .i64 a11_0), (12, .int .i64 a12_0), (13, .int .i64 a13_0)]).run Tryz.prog w = .ok (.slice (some ⟨w.heap.size, 0, none⟩) 14 14) (w.alloc (.cells [.int .i64 a0_0, .int .i64 a1_0, .int .i64 a2_0, .int .i64 a3_0, .int .i64 a4_0, .int .i64 a5_0, .int .i64 a6_0, .int .i64 a7_0, .int .i64 a8_0, .int .i64 a9_0, .int .i64 a10_0, .int .i64 a11_0, .int .i64 a12_0, .int .i64 a13_0].toArray 3)) := by kernel_rfl
theorem jdrbld25_14255 (a0_0 : Int) (a1_0 : Int) (a2_0 : Int) (a3_0 : Int) (a4_0 : Int) (a5_0 : Int) (w : World) : (Instr.build 63 #[(0, .int .u32 a0_0), (1, .int .i64 a1_0), (2, .int .i64 a2_0), (3, .int .i64 a3_0), (4, .int .i64 a4_0), (5, .int .i64 a5_0)]).run Tryz.prog w = .ok (.agg #[.int .u32 a0_0, .int .i64 a1_0, .int .i64 a2_0, .int .i64 a3_0, .int .i64 a4_0, .int .i64 a5_0]) w := by kernel_rfl
theorem int_cod (cb : Nat) (w : World) (hC : Cod w cb) :
  Calls Tryz.prog 118 #[.pointer (some ⟨cb, 0, none⟩)] w fun e w' => ∃ x : Int, e = .returned (.int .i64 x) ∧ Codr (fun w => Cod w cb) cb w [] w' := by
 refine begin_ (vs := [.pointer (some ⟨cb, 0, none⟩)]) (I := Pm ⟨w, cb⟩ (.abs cb (fun w => Cod w cb) :: oths cb w)) Tryz.func118 rfl rfl rfl ?_ (Pm.codes hC (cod_cells hC) (cod_stab cb))
 refine zSG (TL.as_ ?_)
 refine zET (zS (zSG (TL.mv ?_)))
 refine TL.pcallCod (k := 0) (α := {x : Nat // x ≤ 65535 ∧ (1 ≤ (10 : Int) → (x : Int) < 10)}) (fun y => .int .i64 (y.1 : Int)) (fun y => []) rfl rfl rfl rfl rfl Tryz.func21 (by decide) rfl rfl (fun w1 hw hC1 => next_cod cb w1 10 hC1) ?_
 rintro ⟨x4, hx41, hx42⟩
 dsimp only [List.cons_append, List.nil_append] at hx41 hx42 ⊢
 replace hx42 := hx42 (by omega)
 refine zET (zB (zSG ?_))
 refine TL.sp bin_eql (fun q6 => ?_) (fun q6 => ?_)
 ·refine TL.as_ ?_
  refine zET (zc (zSG (TL.mv ?_)))
  refine TL.pcallCod (k := 0) (α := {x : Nat // x ≤ 65535 ∧ (1 ≤ (3 : Int) → (x : Int) < 3)}) (fun y => .int .i64 (y.1 : Int)) (fun y => []) rfl rfl rfl rfl rfl Tryz.func21 (by decide) rfl rfl (fun w1 hw hC1 => next_cod cb w1 3 hC1) ?_
  rintro ⟨x8, hx81, hx82⟩
  dsimp only [List.cons_append, List.nil_append] at hx81 hx82 ⊢
  replace hx82 := hx82 (by omega)
  refine TL.val rfl rfl rfl (gives_bin rfl rfl rfl (fun w => bin_sub_ (r := (-1) - ((x8 : Nat) : Int)) (by simp only [IntKind.wrap_i64]; omega) w)) ?_
  refine TL.as_ ?_
  refine zET (zr (zRR ?_))
  exact ret_tmp Tryz.results118 rfl (fun w1 hw => ⟨(-1) - ((x8 : Nat) : Int), rfl, Pm.codr [] (hw) rfl⟩)
 refine TL.as_ ?_
 refine zET (zd (zSG ?_))
 refine TL.sp bin_eql (fun q11 => ?_) (fun q11 => ?_)
 ·refine TL.as_ ?_
  refine zET (zc (zSG ?_))
  refine TL.prowS (e := 3) (size := 1) (cs := tabV tab14) rfl rfl rfl rfl rfl (fun w => jdrbs76_14_77721 _ _ _ _ _ _ _ _ _ _ _ _ _ _ w) (by decide) rfl (fun g12 => ?_)
  refine TL.mv ?_
  refine TL.pcallCod (k := 1) (α := {x : Nat // x ≤ 65535 ∧ (1 ≤ (14 : Int) → (x : Int) < 14)}) (fun y => .int .i64 (y.1 : Int)) (fun y => []) rfl rfl rfl rfl rfl Tryz.func21 (by decide) rfl rfl (fun w1 hw hC1 => next_cod cb w1 14 hC1) ?_
  rintro ⟨x14, hx141, hx142⟩
  dsimp only [List.cons_append, List.nil_append] at hx141 hx142 ⊢
  replace hx142 := hx142 (by omega)
  refine TL.val rfl rfl rfl (gives_at (v := .pointer (some ⟨g12, 0 + x14 * 1, none⟩)) rfl rfl rfl (fun w => at_el Tryz.underlying106 (fun w => rfl) rfl 14 14 x14 (by omega) rfl w)) ?_
  obtain ⟨t16, ht16⟩ := tab_at tab14 x14 (show x14 < tab14.length by simpa [tab14] using (by omega : x14 < 14))
  refine TL.val rfl rfl rfl (pm_loadRow (k := 0) (v := .int .i64 t16) rfl rfl (fun w => rfl) rfl ht16) ?_
  refine TL.as_ ?_
  refine zET (zr (zRR ?_))
  exact ret_tmp Tryz.results118 rfl (fun w1 hw => ⟨t16, rfl, Pm.codr [] (hw.sel (.cons _ (.cons_cons _ (List.Sublist.refl _)))) rfl⟩)
 refine TL.as_ ?_
 refine zET (zd (zSG ?_))
 refine TL.sp bin_eql (fun q18 => ?_) (fun q18 => ?_)
 ·refine TL.as_ ?_
  refine zET (zc (zSG (TL.mv ?_)))
  refine TL.pcallCod (k := 0) (α := {x : Nat // x ≤ 65535 ∧ (1 ≤ (256 : Int) → (x : Int) < 256)}) (fun y => .int .i64 (y.1 : Int)) (fun y => []) rfl rfl rfl rfl rfl Tryz.func21 (by decide) rfl rfl (fun w1 hw hC1 => next_cod cb w1 256 hC1) ?_
  rintro ⟨x20, hx201, hx202⟩
  dsimp only [List.cons_append, List.nil_append] at hx201 hx202 ⊢
  replace hx202 := hx202 (by omega)
  refine TL.val rfl rfl rfl (gives_bin rfl rfl rfl (fun w => bin_mul_ (r := 256 * ((x20 : Nat) : Int)) (by simp only [IntKind.wrap_i64]; omega) w)) ?_
  refine TL.mv ?_
  refine TL.pcallCod (k := 0) (α := {x : Nat // x ≤ 65535 ∧ (1 ≤ (256 : Int) → (x : Int) < 256)}) (fun y => .int .i64 (y.1 : Int)) (fun y => []) rfl rfl rfl rfl rfl Tryz.func21 (by decide) rfl rfl (fun w1 hw hC1 => next_cod cb w1 256 hC1) ?_
  rintro ⟨x23, hx231, hx232⟩
  dsimp only [List.cons_append, List.nil_append] at hx231 hx232 ⊢
  replace hx232 := hx232 (by omega)
  refine TL.v (gD ((256 * ((x20 : Nat) : Int)) + ((x23 : Nat) : Int))) ?_
  refine TL.as_ ?_
  refine zET (zr (zRR ?_))
  exact ret_tmp Tryz.results118 rfl (fun w1 hw => ⟨(256 * ((x20 : Nat) : Int)) + ((x23 : Nat) : Int), rfl, Pm.codr [] (hw) rfl⟩)
 refine TL.as_ ?_
 refine zET (zd (zk (zN (zT (zSG (TL.mv ?_))))))
 refine TL.pcallCod (k := 0) (α := {x : Nat // x ≤ 65535 ∧ (1 ≤ (40 : Int) → (x : Int) < 40)}) (fun y => .int .i64 (y.1 : Int)) (fun y => []) rfl rfl rfl rfl rfl Tryz.func21 (by decide) rfl rfl (fun w1 hw hC1 => next_cod cb w1 40 hC1) ?_
 rintro ⟨x26, hx261, hx262⟩
 dsimp only [List.cons_append, List.nil_append] at hx261 hx262 ⊢
 replace hx262 := hx262 (by omega)
 refine TL.as_ ?_
 refine zET (zr ?_)
 exact ret_tmp Tryz.results118 rfl (fun w1 hw => ⟨((x26 : Nat) : Int), rfl, Pm.codr [] (hw) rfl⟩)
theorem proto_cod (cb : Nat) (w : World) (hC : Cod w cb) :
  Calls Tryz.prog 117 #[.pointer (some ⟨cb, 0, none⟩)] w fun e w' => ∃ x : Int, e = .returned (.int .i64 x) ∧ Codr (fun w => Cod w cb) cb w [] w' := by
 refine begin_ (vs := [.pointer (some ⟨cb, 0, none⟩)]) (I := Pm ⟨w, cb⟩ (.abs cb (fun w => Cod w cb) :: oths cb w)) Tryz.func117 rfl rfl rfl ?_ (Pm.codes hC (cod_cells hC) (cod_stab cb))
 refine zSG (TL.as_ ?_)
 refine zET (zSG ?_)
 refine TL.prowS (e := 3) (size := 1) (cs := tabV tab3) rfl rfl rfl rfl rfl (fun w => pcmbs106_3_44640 _ _ _ w) (by decide) rfl (fun g3 => ?_)
 refine TL.mv ?_
 refine TL.pcallCod (k := 1) (α := {x : Nat // x ≤ 65535 ∧ (1 ≤ (3 : Int) → (x : Int) < 3)}) (fun y => .int .i64 (y.1 : Int)) (fun y => []) rfl rfl rfl rfl rfl Tryz.func21 (by decide) rfl rfl (fun w1 hw hC1 => next_cod cb w1 3 hC1) ?_
 rintro ⟨x5, hx51, hx52⟩
 dsimp only [List.cons_append, List.nil_append] at hx51 hx52 ⊢
 replace hx52 := hx52 (by omega)
 refine TL.val rfl rfl rfl (gives_at (v := .pointer (some ⟨g3, 0 + x5 * 1, none⟩)) rfl rfl rfl (fun w => at_el Tryz.underlying106 (fun w => rfl) rfl 3 3 x5 (by omega) rfl w)) ?_
 obtain ⟨t7, ht7⟩ := tab_at tab3 x5 (show x5 < tab3.length by simpa [tab3] using (by omega : x5 < 3))
 refine TL.val rfl rfl rfl (pm_loadRow (k := 0) (v := .int .i64 t7) rfl rfl (fun w => rfl) rfl ht7) ?_
 refine TL.as_ ?_
 refine zET (zr ?_)
 exact ret_tmp Tryz.results117 rfl (fun w1 hw => ⟨t7, rfl, Pm.codr [] (hw.sel (.cons _ (.cons_cons _ (List.Sublist.refl _)))) rfl⟩)
theorem addr_cod (cb : Nat) (w : World) (hC : Cod w cb) :
  Calls Tryz.prog 116 #[.pointer (some ⟨cb, 0, none⟩)] w fun e w' => ∃ x : {x : Int // 0 ≤ x ∧ x ≤ 4294967295}, e = .returned (.int .u32 x.1) ∧ Codr (fun w => Cod w cb) cb w [] w' := by
 refine begin_ (vs := [.pointer (some ⟨cb, 0, none⟩)]) (I := Pm ⟨w, cb⟩ (.abs cb (fun w => Cod w cb) :: oths cb w)) Tryz.func116 rfl rfl rfl ?_ (Pm.codes hC (cod_cells hC) (cod_stab cb))
 refine zSG (TL.as_ ?_)
 refine zET (zS (zSG (TL.mv ?_)))
 refine TL.pcallCod (k := 0) (α := {x : Nat // x ≤ 65535 ∧ (1 ≤ (12 : Int) → (x : Int) < 12)}) (fun y => .int .i64 (y.1 : Int)) (fun y => []) rfl rfl rfl rfl rfl Tryz.func21 (by decide) rfl rfl (fun w1 hw hC1 => next_cod cb w1 12 hC1) ?_
 rintro ⟨x4, hx41, hx42⟩
 dsimp only [List.cons_append, List.nil_append] at hx41 hx42 ⊢
 replace hx42 := hx42 (by omega)
 refine TL.sp bin_eql (fun q5 => ?_) (fun q5 => ?_)
 ·refine zET (zc (zSG (TL.mv ?_)))
  refine TL.pcallCod (k := 0) (α := {x : Nat // x ≤ 65535 ∧ (1 ≤ (65536 : Int) → (x : Int) < 65536)}) (fun y => .int .i64 (y.1 : Int)) (fun y => []) rfl rfl rfl rfl rfl Tryz.func21 (by decide) rfl rfl (fun w1 hw hC1 => next_cod cb w1 65536 hC1) ?_
  rintro ⟨x7, hx71, hx72⟩
  dsimp only [List.cons_append, List.nil_append] at hx71 hx72 ⊢
  replace hx72 := hx72 (by omega)
  refine TL.val rfl rfl rfl (gives_bin (v := .int .i64 (((x7 : Nat) : Int) * 65536)) rfl rfl rfl (fun w => by rw [bin_shl 65536 (by decide) (by decide) (by decide) w]; congr 2; simp only [IntKind.wrap_i64]; omega)) ?_
  refine TL.mv ?_
  refine TL.pcallCod (k := 0) (α := {x : Nat // x ≤ 65535 ∧ (1 ≤ (65536 : Int) → (x : Int) < 65536)}) (fun y => .int .i64 (y.1 : Int)) (fun y => []) rfl rfl rfl rfl rfl Tryz.func21 (by decide) rfl rfl (fun w1 hw hC1 => next_cod cb w1 65536 hC1) ?_
  rintro ⟨x10, hx101, hx102⟩
  dsimp only [List.cons_append, List.nil_append] at hx101 hx102 ⊢
  replace hx102 := hx102 (by omega)
  refine TL.v (gD ((((x7 : Nat) : Int) * 65536) + ((x10 : Nat) : Int))) ?_
  refine TL.val rfl rfl rfl (gives_conv rfl rfl (fun w => conv_fit (k := .i64) Tryz.underlying30 Tryz.underlying3 (by simp only [IntKind.wrap_u32]; omega) w)) ?_
  refine TL.as_ ?_
  refine zET (zr (zR ?_))
  exact ret_tmp Tryz.results116 rfl (fun w1 hw => ⟨⟨(((x7 : Nat) : Int) * 65536) + ((x10 : Nat) : Int), by omega, by omega⟩, rfl, Pm.codr [] (hw) rfl⟩)
 refine zET (zd (zk (zT (zSG (TL.mv ?_)))))
 refine TL.pcallCod (k := 0) (α := {x : Nat // x ≤ 65535 ∧ (1 ≤ (3 : Int) → (x : Int) < 3)}) (fun y => .int .i64 (y.1 : Int)) (fun y => []) rfl rfl rfl rfl rfl Tryz.func21 (by decide) rfl rfl (fun w1 hw hC1 => next_cod cb w1 3 hC1) ?_
 rintro ⟨x14, hx141, hx142⟩
 dsimp only [List.cons_append, List.nil_append] at hx141 hx142 ⊢
 replace hx142 := hx142 (by omega)
 refine TL.val rfl rfl rfl (gives_bin (v := .int .i64 (((x14 : Nat) : Int) * 65536)) rfl rfl rfl (fun w => by rw [bin_shl 65536 (by decide) (by decide) (by decide) w]; congr 2; simp only [IntKind.wrap_i64]; omega)) ?_
 refine TL.v (gD (167772160 + (((x14 : Nat) : Int) * 65536))) ?_
 refine TL.mv ?_
 refine TL.pcallCod (k := 0) (α := {x : Nat // x ≤ 65535 ∧ (1 ≤ (8 : Int) → (x : Int) < 8)}) (fun y => .int .i64 (y.1 : Int)) (fun y => []) rfl rfl rfl rfl rfl Tryz.func21 (by decide) rfl rfl (fun w1 hw hC1 => next_cod cb w1 8 hC1) ?_
 rintro ⟨x18, hx181, hx182⟩
 dsimp only [List.cons_append, List.nil_append] at hx181 hx182 ⊢
 replace hx182 := hx182 (by omega)
 refine TL.v (gD ((167772160 + (((x14 : Nat) : Int) * 65536)) + ((x18 : Nat) : Int))) ?_
 refine TL.val rfl rfl rfl (gives_conv rfl rfl (fun w => conv_fit (k := .i64) Tryz.underlying30 Tryz.underlying3 (by simp only [IntKind.wrap_u32]; omega) w)) ?_
 refine TL.as_ ?_
 refine zET (zr ?_)
 exact ret_tmp Tryz.results116 rfl (fun w1 hw => ⟨⟨(167772160 + (((x14 : Nat) : Int) * 65536)) + ((x18 : Nat) : Int), by omega, by omega⟩, rfl, Pm.codr [] (hw) rfl⟩)
set_option maxHeartbeats 4000000 in
theorem result_cod (cb : Nat) (w : World) (hC : Cod w cb) :
  Calls Tryz.prog 66 #[.pointer (some ⟨cb, 0, none⟩)] w fun e w' => ∃ x : {x : Rs // x.Ok}, e = .returned (.agg x.1.cells.toArray) ∧ Codr (fun w => Cod w cb) cb w [] w' := by
 refine begin_ (vs := [.pointer (some ⟨cb, 0, none⟩)]) (I := Pm ⟨w, cb⟩ (.abs cb (fun w => Cod w cb) :: oths cb w)) Tryz.func66 rfl rfl rfl ?_ (Pm.codes hC (cod_cells hC) (cod_stab cb))
 refine zSG ?_
 refine TL.pnew rfl rfl rfl (exec_alloc (cs := Rs.zero.cells) rfl arpzv65 rfl) (fun g2 => ?_)
 refine zET (zSG (TL.mv ?_))
 refine TL.pcallCod (k := 1) (α := {x : Nat // x ≤ 65535 ∧ (1 ≤ (2 : Int) → (x : Int) < 2)}) (fun y => .int .i64 (y.1 : Int)) (fun y => []) rfl rfl rfl rfl rfl Tryz.func21 (by decide) rfl rfl (fun w1 hw hC1 => next_cod cb w1 2 hC1) ?_
 rintro ⟨x5, hx51, hx52⟩
 dsimp only [List.cons_append, List.nil_append] at hx51 hx52 ⊢
 replace hx52 := hx52 (by omega)
 refine TL.mv ?_
 refine TL.pcallCod (k := 1) (α := {x : Nat // x ≤ 65535 ∧ (1 ≤ (2 : Int) → (x : Int) < 2)}) (fun y => .int .i64 (y.1 : Int)) (fun y => []) rfl rfl rfl rfl rfl Tryz.func21 (by decide) rfl rfl (fun w1 hw hC1 => next_cod cb w1 2 hC1) ?_
 rintro ⟨x7, hx71, hx72⟩
 dsimp only [List.cons_append, List.nil_append] at hx71 hx72 ⊢
 replace hx72 := hx72 (by omega)
 refine TL.mv ?_
 refine TL.pcallCod (k := 1) (α := {x : Nat // x ≤ 65535 ∧ (1 ≤ (4 : Int) → (x : Int) < 4)}) (fun y => .int .i64 (y.1 : Int)) (fun y => []) rfl rfl rfl rfl rfl Tryz.func21 (by decide) rfl rfl (fun w1 hw hC1 => next_cod cb w1 4 hC1) ?_
 rintro ⟨x9, hx91, hx92⟩
 dsimp only [List.cons_append, List.nil_append] at hx91 hx92 ⊢
 replace hx92 := hx92 (by omega)
 refine TL.mv ?_
 refine TL.pcallCod (k := 1) (α := {x : Nat // x ≤ 65535 ∧ (1 ≤ (50 : Int) → (x : Int) < 50)}) (fun y => .int .i64 (y.1 : Int)) (fun y => []) rfl rfl rfl rfl rfl Tryz.func21 (by decide) rfl rfl (fun w1 hw hC1 => next_cod cb w1 50 hC1) ?_
 rintro ⟨x11, hx111, hx112⟩
 dsimp only [List.cons_append, List.nil_append] at hx111 hx112 ⊢
 replace hx112 := hx112 (by omega)
 refine TL.mv ?_
 refine TL.pcallCod (k := 1) (α := {x : Int // 0 ≤ x ∧ x ≤ 4294967295}) (fun y => .int .u32 y.1) (fun y => []) rfl rfl rfl rfl rfl Tryz.func116 (by decide) rfl rfl (fun w1 hw hC1 => addr_cod cb w1 hC1) ?_
 rintro ⟨z13, hz131, hz132⟩
 dsimp only [List.cons_append, List.nil_append] at hz131 hz132 ⊢
 refine TL.mv ?_
 refine TL.pcallCod (k := 1) (α := Int) (fun y => .int .i64 y) (fun y => []) rfl rfl rfl rfl rfl Tryz.func117 (by decide) rfl rfl (fun w1 hw hC1 => proto_cod cb w1 hC1) ?_
 rintro z15
 dsimp only [List.cons_append, List.nil_append]
 refine TL.mv ?_
 refine TL.pcallCod (k := 1) (α := {x : Nat // x ≤ 65535 ∧ (1 ≤ (3 : Int) → (x : Int) < 3)}) (fun y => .int .i64 (y.1 : Int)) (fun y => []) rfl rfl rfl rfl rfl Tryz.func21 (by decide) rfl rfl (fun w1 hw hC1 => next_cod cb w1 3 hC1) ?_
 rintro ⟨x17, hx171, hx172⟩
 dsimp only [List.cons_append, List.nil_append] at hx171 hx172 ⊢
 replace hx172 := hx172 (by omega)
 refine TL.mv ?_
 refine TL.pcallCod (k := 1) (α := {x : Nat // x ≤ 65535 ∧ (1 ≤ (4 : Int) → (x : Int) < 4)}) (fun y => .int .i64 (y.1 : Int)) (fun y => []) rfl rfl rfl rfl rfl Tryz.func21 (by decide) rfl rfl (fun w1 hw hC1 => next_cod cb w1 4 hC1) ?_
 rintro ⟨x19, hx191, hx192⟩
 dsimp only [List.cons_append, List.nil_append] at hx191 hx192 ⊢
 replace hx192 := hx192 (by omega)
 refine TL.v (gD (1 + ((x19 : Nat) : Int))) ?_
 refine TL.val rfl rfl rfl (gives_build (v := .agg #[.int .i64 ((x5 : Nat) : Int), .int .i64 ((x7 : Nat) : Int), .int .i64 ((x9 : Nat) : Int), .int .i64 ((x11 : Nat) : Int), .int .u32 z13, .int .i64 z15, .int .i64 ((x17 : Nat) : Int), .int .i64 (1 + ((x19 : Nat) : Int)), .bool false, .bool false, .int .i64 0, .int .u32 0, .int .i64 0, .int .i64 0, .int .i64 0, .int .i64 0, .int .i64 0]) rfl rfl (fun w => drebld47_74773 _ _ _ _ _ _ _ _ w)) ?_
 refine TL.pnew rfl rfl rfl (exec_alloc (cs := Rs.zero.cells) rfl arpzv65 rfl) (fun g3 => ?_)
 refine TL.pstore (k := 0) (vs := [.int .i64 ((x5 : Nat) : Int), .int .i64 ((x7 : Nat) : Int), .int .i64 ((x9 : Nat) : Int), .int .i64 ((x11 : Nat) : Int), .int .u32 z13, .int .i64 z15, .int .i64 ((x17 : Nat) : Int), .int .i64 (1 + ((x19 : Nat) : Int)), .bool false, .bool false, .int .i64 0, .int .u32 0, .int .i64 0, .int .i64 0, .int .i64 0, .int .i64 0, .int .i64 0]) rfl rfl rfl rfl rfl rfl rfl prssz65 arpone_i64i64i64i64u32i64i64i64bbi64u32i64i64i64i64i64 (by show 17 ≤ 17; decide) rfl ?_
 refine zET (zS (TC.held (ls := #[Ff,Ff,Ff,Ff,Ff,Ff,Ff]) (fun w1 => ∃ b : Int, Pm ⟨w, cb⟩ ([.blk g3 65 [.int .i64 ((x5 : Nat) : Int), .int .i64 ((x7 : Nat) : Int), .int .i64 ((x9 : Nat) : Int), .int .i64 ((x11 : Nat) : Int), .int .u32 z13, .int .i64 z15, .int .i64 ((x17 : Nat) : Int), .int .i64 (1 + ((x19 : Nat) : Int)), .bool false, .bool false, .int .i64 b, .int .u32 0, .int .i64 0, .int .i64 0, .int .i64 0, .int .i64 0, .int .i64 0], .blk g2 65 Rs.zero.cells, .abs cb (fun w => Cod w cb)] ++ oths cb w) w1) (by kernel_rfl) rfl rfl (fun w hw => hw.drawn _) ?_))
 refine TH.tk 0 rfl rfl rfl (gF prsfld65_3) (fun w1 hw => ⟨_, hw⟩) ?_
 refine TH.tk 1 rfl rfl rfl (gives_load (v := .int .i64 ((x11 : Nat) : Int)) rfl rfl pcmag3 (fun w1 hw => by obtain ⟨b, hw⟩ := hw; exact (hw.cell (k := 0) rfl 3).trans rfl)) (fun w1 hw => ⟨_, hw⟩) ?_
 refine TH.tk 2 rfl rfl rfl (gives_move rfl rfl) (fun w1 hw => ⟨_, hw⟩) ?_
 refine TH.only' 3 rfl (by kernel_rfl) rfl ?_
 refine TL.pcallCod (k := 2) (α := {x : Nat // x ≤ 65535 ∧ (1 ≤ (30 : Int) → (x : Int) < 30)}) (fun y => .int .i64 (y.1 : Int)) (fun y => []) rfl rfl rfl rfl rfl Tryz.func21 (by decide) rfl rfl (fun w1 hw hC1 => next_cod cb w1 30 hC1) ?_
 rintro ⟨x25, hx251, hx252⟩
 dsimp only [List.cons_append, List.nil_append] at hx251 hx252 ⊢
 replace hx252 := hx252 (by omega)
 refine zE ?_
 refine TX.he (fun w1 hw => ⟨_, hw⟩) fun hS => ?_
 refine TH.t 4 rfl (gD (((x11 : Nat) : Int) + ((x25 : Nat) : Int))) hS ?_
 refine TH.t 5 rfl (gF prsfld65_10) hS ?_
 refine TH.only' 6 rfl (by kernel_rfl) rfl ?_
 refine TL.pstore (k := 0) (vs := [.int .i64 (((x11 : Nat) : Int) + ((x25 : Nat) : Int))]) rfl rfl rfl rfl rfl rfl rfl pcmsz3 aeaone_i64 (by show 11 ≤ 17; decide) rfl ?_
 refine zE ?_
 refine TX.held (fun w1 hw => ⟨_, hw⟩) ?_
 refine TH.done (by kernel_rfl) ?_
 refine zT ?_
 refine TC.join (α := {r : Rs // r.Ok}) (fun y => [(0, .pointer (some ⟨cb, 0, none⟩)), (2, .pointer (some ⟨g2, 0, none⟩)), (3, .pointer (some ⟨g3, 0, none⟩))]) (fun y => Pm ⟨w, cb⟩ ([.blk g3 65 y.1.cells, .blk g2 65 Rs.zero.cells, .abs cb (fun w => Cod w cb)] ++ oths cb w)) ?_ ?_
 ·refine zSG (TL.mv ?_)
  refine TL.pcallCod (k := 2) (α := {x : Nat // x ≤ 65535 ∧ (1 ≤ (3 : Int) → (x : Int) < 3)}) (fun y => .int .i64 (y.1 : Int)) (fun y => []) rfl rfl rfl rfl rfl Tryz.func21 (by decide) rfl rfl (fun w1 hw hC1 => next_cod cb w1 3 hC1) ?_
  rintro ⟨x29, hx291, hx292⟩
  dsimp only [List.cons_append, List.nil_append] at hx291 hx292 ⊢
  replace hx292 := hx292 (by omega)
  refine TL.sp bin_gtr (fun q30 => ?_) (fun q30 => ?_)
  ·refine zET (zc (zSG (TL.mv ?_)))
   refine TL.pcallCod (k := 2) (α := {x : Nat // x ≤ 65535 ∧ (1 ≤ (6 : Int) → (x : Int) < 6)}) (fun y => .int .i64 (y.1 : Int)) (fun y => []) rfl rfl rfl rfl rfl Tryz.func21 (by decide) rfl rfl (fun w1 hw hC1 => next_cod cb w1 6 hC1) ?_
   rintro ⟨x32, hx321, hx322⟩
   dsimp only [List.cons_append, List.nil_append] at hx321 hx322 ⊢
   replace hx322 := hx322 (by omega)
   refine TL.sp bin_eql (fun q33 => ?_) (fun q33 => ?_)
   ·refine TL.v (gF prsfld65_8) ?_
    refine TL.pstore (k := 0) (vs := [.bool true]) rfl rfl rfl rfl rfl rfl rfl dresz4 dreone_b (by show 9 ≤ 17; decide) rfl ?_
    refine TL.v (gF prsfld65_9) ?_
    refine TL.pstore (k := 0) (vs := [.bool true]) rfl rfl rfl rfl rfl rfl rfl dresz4 dreone_b (by show 10 ≤ 17; decide) rfl ?_
    refine zET (zG (TL.mv ?_))
    refine TL.pcallCod (k := 2) (α := {x : Int // 0 ≤ x ∧ x ≤ 4294967295}) (fun y => .int .u32 y.1) (fun y => []) rfl rfl rfl rfl rfl Tryz.func116 (by decide) rfl rfl (fun w1 hw hC1 => addr_cod cb w1 hC1) ?_
    rintro ⟨z37, hz371, hz372⟩
    dsimp only [List.cons_append, List.nil_append] at hz371 hz372 ⊢
    refine TL.mv ?_
    refine TL.pcallCod (k := 2) (α := {x : Nat // x ≤ 65535 ∧ (1 ≤ (5 : Int) → (x : Int) < 5)}) (fun y => .int .i64 (y.1 : Int)) (fun y => []) rfl rfl rfl rfl rfl Tryz.func21 (by decide) rfl rfl (fun w1 hw hC1 => next_cod cb w1 5 hC1) ?_
    rintro ⟨x39, hx391, hx392⟩
    dsimp only [List.cons_append, List.nil_append] at hx391 hx392 ⊢
    replace hx392 := hx392 (by omega)
    refine TL.v (gD (1 + ((x39 : Nat) : Int))) ?_
    refine TL.mv ?_
    refine TL.pcallCod (k := 2) (α := {x : Nat // x ≤ 65535 ∧ (1 ≤ (4 : Int) → (x : Int) < 4)}) (fun y => .int .i64 (y.1 : Int)) (fun y => []) rfl rfl rfl rfl rfl Tryz.func21 (by decide) rfl rfl (fun w1 hw hC1 => next_cod cb w1 4 hC1) ?_
    rintro ⟨x42, hx421, hx422⟩
    dsimp only [List.cons_append, List.nil_append] at hx421 hx422 ⊢
    replace hx422 := hx422 (by omega)
    refine TL.mv ?_
    refine TL.pcallCod (k := 2) (α := {x : Nat // x ≤ 65535 ∧ (1 ≤ (5 : Int) → (x : Int) < 5)}) (fun y => .int .i64 (y.1 : Int)) (fun y => []) rfl rfl rfl rfl rfl Tryz.func21 (by decide) rfl rfl (fun w1 hw hC1 => next_cod cb w1 5 hC1) ?_
    rintro ⟨x44, hx441, hx442⟩
    dsimp only [List.cons_append, List.nil_append] at hx441 hx442 ⊢
    replace hx442 := hx442 (by omega)
    refine TL.v (gD (60 + ((x44 : Nat) : Int))) ?_
    refine TL.mv ?_
    refine TL.pcallCod (k := 2) (α := {x : Nat // x ≤ 65535 ∧ (1 ≤ (300 : Int) → (x : Int) < 300)}) (fun y => .int .i64 (y.1 : Int)) (fun y => []) rfl rfl rfl rfl rfl Tryz.func21 (by decide) rfl rfl (fun w1 hw hC1 => next_cod cb w1 300 hC1) ?_
    rintro ⟨x47, hx471, hx472⟩
    dsimp only [List.cons_append, List.nil_append] at hx471 hx472 ⊢
    replace hx472 := hx472 (by omega)
    refine TL.mv ?_
    refine TL.pcallCod (k := 2) (α := {x : Nat // x ≤ 65535 ∧ (1 ≤ (2 : Int) → (x : Int) < 2)}) (fun y => .int .i64 (y.1 : Int)) (fun y => []) rfl rfl rfl rfl rfl Tryz.func21 (by decide) rfl rfl (fun w1 hw hC1 => next_cod cb w1 2 hC1) ?_
    rintro ⟨x49, hx491, hx492⟩
    dsimp only [List.cons_append, List.nil_append] at hx491 hx492 ⊢
    replace hx492 := hx492 (by omega)
    refine TL.v (gD (1 + ((x49 : Nat) : Int))) ?_
    refine TL.val rfl rfl rfl (gives_build (v := .agg #[.int .u32 z37, .int .i64 (1 + ((x39 : Nat) : Int)), .int .i64 ((x42 : Nat) : Int), .int .i64 (60 + ((x44 : Nat) : Int)), .int .i64 ((x47 : Nat) : Int), .int .i64 (1 + ((x49 : Nat) : Int))]) rfl rfl (fun w => jdrbld25_14255 _ _ _ _ _ _ w)) ?_
    refine TL.v (gF prsfld65_11) ?_
    refine TL.pstore (k := 0) (vs := [.int .u32 z37, .int .i64 (1 + ((x39 : Nat) : Int)), .int .i64 ((x42 : Nat) : Int), .int .i64 (60 + ((x44 : Nat) : Int)), .int .i64 ((x47 : Nat) : Int), .int .i64 (1 + ((x49 : Nat) : Int))]) rfl rfl rfl rfl rfl rfl rfl dresz45 dreone_u32i64i64i64i64i64 (by show 17 ≤ 17; decide) rfl ?_
    refine zE ?_
    exact TX.joined (⟨⟨((x5 : Nat) : Int), ((x7 : Nat) : Int), ((x9 : Nat) : Int), ((x11 : Nat) : Int), z13, z15, ((x17 : Nat) : Int), 1 + ((x19 : Nat) : Int), true, true, ((x11 : Nat) : Int) + ((x25 : Nat) : Int), z37, 1 + ((x39 : Nat) : Int), ((x42 : Nat) : Int), 60 + ((x44 : Nat) : Int), ((x47 : Nat) : Int), 1 + ((x49 : Nat) : Int)⟩, by unfold Rs.Ok; dsimp only; omega⟩) (⟨rfl, rfl, rfl, trivial⟩) (fun w1 hw => hw)
   refine TL.v (gF prsfld65_8) ?_
   refine TL.pstore (k := 0) (vs := [.bool true]) rfl rfl rfl rfl rfl rfl rfl dresz4 dreone_b (by show 9 ≤ 17; decide) rfl ?_
   refine TL.v (gF prsfld65_9) ?_
   refine TL.pstore (k := 0) (vs := [.bool false]) rfl rfl rfl rfl rfl rfl rfl dresz4 dreone_b (by show 10 ≤ 17; decide) rfl ?_
   refine zET (zG (TL.mv ?_))
   refine TL.pcallCod (k := 2) (α := {x : Int // 0 ≤ x ∧ x ≤ 4294967295}) (fun y => .int .u32 y.1) (fun y => []) rfl rfl rfl rfl rfl Tryz.func116 (by decide) rfl rfl (fun w1 hw hC1 => addr_cod cb w1 hC1) ?_
   rintro ⟨z37, hz371, hz372⟩
   dsimp only [List.cons_append, List.nil_append] at hz371 hz372 ⊢
   refine TL.mv ?_
   refine TL.pcallCod (k := 2) (α := {x : Nat // x ≤ 65535 ∧ (1 ≤ (5 : Int) → (x : Int) < 5)}) (fun y => .int .i64 (y.1 : Int)) (fun y => []) rfl rfl rfl rfl rfl Tryz.func21 (by decide) rfl rfl (fun w1 hw hC1 => next_cod cb w1 5 hC1) ?_
   rintro ⟨x39, hx391, hx392⟩
   dsimp only [List.cons_append, List.nil_append] at hx391 hx392 ⊢
   replace hx392 := hx392 (by omega)
   refine TL.v (gD (1 + ((x39 : Nat) : Int))) ?_
   refine TL.mv ?_
   refine TL.pcallCod (k := 2) (α := {x : Nat // x ≤ 65535 ∧ (1 ≤ (4 : Int) → (x : Int) < 4)}) (fun y => .int .i64 (y.1 : Int)) (fun y => []) rfl rfl rfl rfl rfl Tryz.func21 (by decide) rfl rfl (fun w1 hw hC1 => next_cod cb w1 4 hC1) ?_
   rintro ⟨x42, hx421, hx422⟩
   dsimp only [List.cons_append, List.nil_append] at hx421 hx422 ⊢
   replace hx422 := hx422 (by omega)
   refine TL.mv ?_
   refine TL.pcallCod (k := 2) (α := {x : Nat // x ≤ 65535 ∧ (1 ≤ (5 : Int) → (x : Int) < 5)}) (fun y => .int .i64 (y.1 : Int)) (fun y => []) rfl rfl rfl rfl rfl Tryz.func21 (by decide) rfl rfl (fun w1 hw hC1 => next_cod cb w1 5 hC1) ?_
   rintro ⟨x44, hx441, hx442⟩
   dsimp only [List.cons_append, List.nil_append] at hx441 hx442 ⊢
   replace hx442 := hx442 (by omega)
   refine TL.v (gD (60 + ((x44 : Nat) : Int))) ?_
   refine TL.mv ?_
   refine TL.pcallCod (k := 2) (α := {x : Nat // x ≤ 65535 ∧ (1 ≤ (300 : Int) → (x : Int) < 300)}) (fun y => .int .i64 (y.1 : Int)) (fun y => []) rfl rfl rfl rfl rfl Tryz.func21 (by decide) rfl rfl (fun w1 hw hC1 => next_cod cb w1 300 hC1) ?_
   rintro ⟨x47, hx471, hx472⟩
   dsimp only [List.cons_append, List.nil_append] at hx471 hx472 ⊢
   replace hx472 := hx472 (by omega)
   refine TL.mv ?_
   refine TL.pcallCod (k := 2) (α := {x : Nat // x ≤ 65535 ∧ (1 ≤ (2 : Int) → (x : Int) < 2)}) (fun y => .int .i64 (y.1 : Int)) (fun y => []) rfl rfl rfl rfl rfl Tryz.func21 (by decide) rfl rfl (fun w1 hw hC1 => next_cod cb w1 2 hC1) ?_
   rintro ⟨x49, hx491, hx492⟩
   dsimp only [List.cons_append, List.nil_append] at hx491 hx492 ⊢
   replace hx492 := hx492 (by omega)
   refine TL.v (gD (1 + ((x49 : Nat) : Int))) ?_
   refine TL.val rfl rfl rfl (gives_build (v := .agg #[.int .u32 z37, .int .i64 (1 + ((x39 : Nat) : Int)), .int .i64 ((x42 : Nat) : Int), .int .i64 (60 + ((x44 : Nat) : Int)), .int .i64 ((x47 : Nat) : Int), .int .i64 (1 + ((x49 : Nat) : Int))]) rfl rfl (fun w => jdrbld25_14255 _ _ _ _ _ _ w)) ?_
   refine TL.v (gF prsfld65_11) ?_
   refine TL.pstore (k := 0) (vs := [.int .u32 z37, .int .i64 (1 + ((x39 : Nat) : Int)), .int .i64 ((x42 : Nat) : Int), .int .i64 (60 + ((x44 : Nat) : Int)), .int .i64 ((x47 : Nat) : Int), .int .i64 (1 + ((x49 : Nat) : Int))]) rfl rfl rfl rfl rfl rfl rfl dresz45 dreone_u32i64i64i64i64i64 (by show 17 ≤ 17; decide) rfl ?_
   refine zE ?_
   exact TX.joined (⟨⟨((x5 : Nat) : Int), ((x7 : Nat) : Int), ((x9 : Nat) : Int), ((x11 : Nat) : Int), z13, z15, ((x17 : Nat) : Int), 1 + ((x19 : Nat) : Int), true, false, ((x11 : Nat) : Int) + ((x25 : Nat) : Int), z37, 1 + ((x39 : Nat) : Int), ((x42 : Nat) : Int), 60 + ((x44 : Nat) : Int), ((x47 : Nat) : Int), 1 + ((x49 : Nat) : Int)⟩, by unfold Rs.Ok; dsimp only; omega⟩) (⟨rfl, rfl, rfl, trivial⟩) (fun w1 hw => hw)
  refine zET (zd (zk ?_))
  exact TX.joined (⟨⟨((x5 : Nat) : Int), ((x7 : Nat) : Int), ((x9 : Nat) : Int), ((x11 : Nat) : Int), z13, z15, ((x17 : Nat) : Int), 1 + ((x19 : Nat) : Int), false, false, ((x11 : Nat) : Int) + ((x25 : Nat) : Int), 0, 0, 0, 0, 0, 0⟩, by unfold Rs.Ok; dsimp only; omega⟩) (⟨rfl, rfl, rfl, trivial⟩) (fun w1 hw => hw)
 rintro ⟨r, hr⟩
 unfold Rs.Ok at hr
 dsimp only at hr ⊢
 refine zS (zSG (TL.mv ?_))
 refine TL.pcallCod (k := 2) (α := {x : Nat // x ≤ 65535 ∧ (1 ≤ (16 : Int) → (x : Int) < 16)}) (fun y => .int .i64 (y.1 : Int)) (fun y => []) rfl rfl rfl rfl rfl Tryz.func21 (by decide) rfl rfl (fun w1 hw hC1 => next_cod cb w1 16 hC1) ?_
 rintro ⟨x54, hx541, hx542⟩
 dsimp only [List.cons_append, List.nil_append] at hx541 hx542 ⊢
 replace hx542 := hx542 (by omega)
 refine zET (zB (zSG ?_))
 refine TL.sp bin_eql (fun q56 => ?_) (fun q56 => ?_)
 ·refine TL.as_ ?_
  refine zET (zc (zG (TL.mv ?_)))
  refine TL.pcallCod (k := 2) (α := Int) (fun y => .int .i64 y) (fun y => []) rfl rfl rfl rfl rfl Tryz.func118 (by decide) rfl rfl (fun w1 hw hC1 => int_cod cb w1 hC1) ?_
  rintro z58
  dsimp only [List.cons_append, List.nil_append]
  refine TL.mv ?_
  refine TL.pcallCod (k := 2) (α := Int) (fun y => .int .i64 y) (fun y => []) rfl rfl rfl rfl rfl Tryz.func118 (by decide) rfl rfl (fun w1 hw hC1 => int_cod cb w1 hC1) ?_
  rintro z60
  dsimp only [List.cons_append, List.nil_append]
  refine TL.v (gF prsfld65_3) ?_
  refine TL.pstore (k := 0) (vs := [.int .i64 z58]) rfl rfl rfl rfl rfl rfl rfl pcmsz3 aeaone_i64 (by show 4 ≤ 17; decide) rfl ?_
  refine TL.v (gF prsfld65_10) ?_
  refine TL.pstore (k := 0) (vs := [.int .i64 z60]) rfl rfl rfl rfl rfl rfl rfl pcmsz3 aeaone_i64 (by show 11 ≤ 17; decide) rfl ?_
  refine zE (zN (zT (zSG (TL.v (gV 0 (.agg #[.int .i64 r.v, .int .i64 r.run, .int .i64 r.num, .int .i64 z58, .int .u32 r.dst, .int .i64 r.proto, .int .i64 r.flow, .int .i64 r.ttl, .bool r.ans, .bool r.dbl, .int .i64 z60, .int .u32 r.src, .int .i64 r.kind, .int .i64 r.code, .int .i64 r.left, .int .i64 r.id, .int .i64 r.quo]) prsag65 prssz65) ?_))))
  refine TL.pstore (k := 1) (vs := [.int .i64 r.v, .int .i64 r.run, .int .i64 r.num, .int .i64 z58, .int .u32 r.dst, .int .i64 r.proto, .int .i64 r.flow, .int .i64 r.ttl, .bool r.ans, .bool r.dbl, .int .i64 z60, .int .u32 r.src, .int .i64 r.kind, .int .i64 r.code, .int .i64 r.left, .int .i64 r.id, .int .i64 r.quo]) rfl rfl rfl rfl rfl rfl rfl prssz65 arpone_i64i64i64i64u32i64i64i64bbi64u32i64i64i64i64i64 (by show 17 ≤ 17; decide) rfl ?_
  refine zET (zr ?_)
  exact pm_ret_cell (k := 1) Tryz.results66 rfl rfl Tryz.underlying65 rfl rfl (fun w1 hw => ⟨⟨⟨r.v, r.run, r.num, z58, r.dst, r.proto, r.flow, r.ttl, r.ans, r.dbl, z60, r.src, r.kind, r.code, r.left, r.id, r.quo⟩, by unfold Rs.Ok; dsimp only; omega⟩, rfl, Pm.codr [] (hw.sel (.cons _ (.cons _ (.cons_cons _ (List.Sublist.refl _))))) rfl⟩)
 refine TL.as_ ?_
 refine zET (zd (zSG ?_))
 refine TL.sp bin_eql (fun q64 => ?_) (fun q64 => ?_)
 ·refine TL.as_ ?_
  refine zET (zc (zG (TL.mv ?_)))
  refine TL.pcallCod (k := 2) (α := Int) (fun y => .int .i64 y) (fun y => []) rfl rfl rfl rfl rfl Tryz.func118 (by decide) rfl rfl (fun w1 hw hC1 => int_cod cb w1 hC1) ?_
  rintro z66
  dsimp only [List.cons_append, List.nil_append]
  refine TL.mv ?_
  refine TL.pcallCod (k := 2) (α := Int) (fun y => .int .i64 y) (fun y => []) rfl rfl rfl rfl rfl Tryz.func118 (by decide) rfl rfl (fun w1 hw hC1 => int_cod cb w1 hC1) ?_
  rintro z68
  dsimp only [List.cons_append, List.nil_append]
  refine TL.mv ?_
  refine TL.pcallCod (k := 2) (α := Int) (fun y => .int .i64 y) (fun y => []) rfl rfl rfl rfl rfl Tryz.func118 (by decide) rfl rfl (fun w1 hw hC1 => int_cod cb w1 hC1) ?_
  rintro z70
  dsimp only [List.cons_append, List.nil_append]
  refine TL.v (gF prsfld65_6) ?_
  refine TL.pstore (k := 0) (vs := [.int .i64 z66]) rfl rfl rfl rfl rfl rfl rfl pcmsz3 aeaone_i64 (by show 7 ≤ 17; decide) rfl ?_
  refine TL.v (gF prsfld65_7) ?_
  refine TL.pstore (k := 0) (vs := [.int .i64 z68]) rfl rfl rfl rfl rfl rfl rfl pcmsz3 aeaone_i64 (by show 8 ≤ 17; decide) rfl ?_
  refine TL.v (gF prsfld65_5) ?_
  refine TL.pstore (k := 0) (vs := [.int .i64 z70]) rfl rfl rfl rfl rfl rfl rfl pcmsz3 aeaone_i64 (by show 6 ≤ 17; decide) rfl ?_
  refine zE (zN (zT (zSG (TL.v (gV 0 (.agg #[.int .i64 r.v, .int .i64 r.run, .int .i64 r.num, .int .i64 r.at_, .int .u32 r.dst, .int .i64 z70, .int .i64 z66, .int .i64 z68, .bool r.ans, .bool r.dbl, .int .i64 r.back, .int .u32 r.src, .int .i64 r.kind, .int .i64 r.code, .int .i64 r.left, .int .i64 r.id, .int .i64 r.quo]) prsag65 prssz65) ?_))))
  refine TL.pstore (k := 1) (vs := [.int .i64 r.v, .int .i64 r.run, .int .i64 r.num, .int .i64 r.at_, .int .u32 r.dst, .int .i64 z70, .int .i64 z66, .int .i64 z68, .bool r.ans, .bool r.dbl, .int .i64 r.back, .int .u32 r.src, .int .i64 r.kind, .int .i64 r.code, .int .i64 r.left, .int .i64 r.id, .int .i64 r.quo]) rfl rfl rfl rfl rfl rfl rfl prssz65 arpone_i64i64i64i64u32i64i64i64bbi64u32i64i64i64i64i64 (by show 17 ≤ 17; decide) rfl ?_
  refine zET (zr ?_)
  exact pm_ret_cell (k := 1) Tryz.results66 rfl rfl Tryz.underlying65 rfl rfl (fun w1 hw => ⟨⟨⟨r.v, r.run, r.num, r.at_, r.dst, z70, z66, z68, r.ans, r.dbl, r.back, r.src, r.kind, r.code, r.left, r.id, r.quo⟩, by unfold Rs.Ok; dsimp only; omega⟩, rfl, Pm.codr [] (hw.sel (.cons _ (.cons _ (.cons_cons _ (List.Sublist.refl _))))) rfl⟩)
 refine TL.as_ ?_
 refine zET (zd (zSG ?_))
 refine TL.sp bin_eql (fun q75 => ?_) (fun q75 => ?_)
 ·refine TL.as_ ?_
  refine zET (zc (zG (TL.mv ?_)))
  refine TL.pcallCod (k := 2) (α := Int) (fun y => .int .i64 y) (fun y => []) rfl rfl rfl rfl rfl Tryz.func118 (by decide) rfl rfl (fun w1 hw hC1 => int_cod cb w1 hC1) ?_
  rintro z77
  dsimp only [List.cons_append, List.nil_append]
  refine TL.mv ?_
  refine TL.pcallCod (k := 2) (α := Int) (fun y => .int .i64 y) (fun y => []) rfl rfl rfl rfl rfl Tryz.func118 (by decide) rfl rfl (fun w1 hw hC1 => int_cod cb w1 hC1) ?_
  rintro z79
  dsimp only [List.cons_append, List.nil_append]
  refine TL.v (gF prsfld65_11) ?_
  refine TL.v (gF prsfld63_1) ?_
  refine TL.pstore (k := 0) (vs := [.int .i64 z77]) rfl rfl rfl rfl rfl rfl rfl pcmsz3 aeaone_i64 (by show 13 ≤ 17; decide) rfl ?_
  refine TL.v (gF prsfld65_11) ?_
  refine TL.v (gF prsfld63_4) ?_
  refine TL.pstore (k := 0) (vs := [.int .i64 z79]) rfl rfl rfl rfl rfl rfl rfl pcmsz3 aeaone_i64 (by show 16 ≤ 17; decide) rfl ?_
  refine zE (zN (zT (zSG (TL.v (gV 0 (.agg #[.int .i64 r.v, .int .i64 r.run, .int .i64 r.num, .int .i64 r.at_, .int .u32 r.dst, .int .i64 r.proto, .int .i64 r.flow, .int .i64 r.ttl, .bool r.ans, .bool r.dbl, .int .i64 r.back, .int .u32 r.src, .int .i64 z77, .int .i64 r.code, .int .i64 r.left, .int .i64 z79, .int .i64 r.quo]) prsag65 prssz65) ?_))))
  refine TL.pstore (k := 1) (vs := [.int .i64 r.v, .int .i64 r.run, .int .i64 r.num, .int .i64 r.at_, .int .u32 r.dst, .int .i64 r.proto, .int .i64 r.flow, .int .i64 r.ttl, .bool r.ans, .bool r.dbl, .int .i64 r.back, .int .u32 r.src, .int .i64 z77, .int .i64 r.code, .int .i64 r.left, .int .i64 z79, .int .i64 r.quo]) rfl rfl rfl rfl rfl rfl rfl prssz65 arpone_i64i64i64i64u32i64i64i64bbi64u32i64i64i64i64i64 (by show 17 ≤ 17; decide) rfl ?_
  refine zET (zr ?_)
  exact pm_ret_cell (k := 1) Tryz.results66 rfl rfl Tryz.underlying65 rfl rfl (fun w1 hw => ⟨⟨⟨r.v, r.run, r.num, r.at_, r.dst, r.proto, r.flow, r.ttl, r.ans, r.dbl, r.back, r.src, z77, r.code, r.left, z79, r.quo⟩, by unfold Rs.Ok; dsimp only; omega⟩, rfl, Pm.codr [] (hw.sel (.cons _ (.cons _ (.cons_cons _ (List.Sublist.refl _))))) rfl⟩)
 refine TL.as_ ?_
 refine zET (zd (zSG ?_))
 refine TL.sp bin_eql (fun q85 => ?_) (fun q85 => ?_)
 ·refine TL.as_ ?_
  refine zET (zc (zG (TL.mv ?_)))
  refine TL.pcallCod (k := 2) (α := Int) (fun y => .int .i64 y) (fun y => []) rfl rfl rfl rfl rfl Tryz.func118 (by decide) rfl rfl (fun w1 hw hC1 => int_cod cb w1 hC1) ?_
  rintro z87
  dsimp only [List.cons_append, List.nil_append]
  refine TL.mv ?_
  refine TL.pcallCod (k := 2) (α := Int) (fun y => .int .i64 y) (fun y => []) rfl rfl rfl rfl rfl Tryz.func118 (by decide) rfl rfl (fun w1 hw hC1 => int_cod cb w1 hC1) ?_
  rintro z89
  dsimp only [List.cons_append, List.nil_append]
  refine TL.mv ?_
  refine TL.pcallCod (k := 2) (α := Int) (fun y => .int .i64 y) (fun y => []) rfl rfl rfl rfl rfl Tryz.func118 (by decide) rfl rfl (fun w1 hw hC1 => int_cod cb w1 hC1) ?_
  rintro z91
  dsimp only [List.cons_append, List.nil_append]
  refine TL.v (gF prsfld65_0) ?_
  refine TL.pstore (k := 0) (vs := [.int .i64 z87]) rfl rfl rfl rfl rfl rfl rfl pcmsz3 aeaone_i64 (by show 1 ≤ 17; decide) rfl ?_
  refine TL.v (gF prsfld65_1) ?_
  refine TL.pstore (k := 0) (vs := [.int .i64 z89]) rfl rfl rfl rfl rfl rfl rfl pcmsz3 aeaone_i64 (by show 2 ≤ 17; decide) rfl ?_
  refine TL.v (gF prsfld65_2) ?_
  refine TL.pstore (k := 0) (vs := [.int .i64 z91]) rfl rfl rfl rfl rfl rfl rfl pcmsz3 aeaone_i64 (by show 3 ≤ 17; decide) rfl ?_
  refine zE (zN (zT (zSG (TL.v (gV 0 (.agg #[.int .i64 z87, .int .i64 z89, .int .i64 z91, .int .i64 r.at_, .int .u32 r.dst, .int .i64 r.proto, .int .i64 r.flow, .int .i64 r.ttl, .bool r.ans, .bool r.dbl, .int .i64 r.back, .int .u32 r.src, .int .i64 r.kind, .int .i64 r.code, .int .i64 r.left, .int .i64 r.id, .int .i64 r.quo]) prsag65 prssz65) ?_))))
  refine TL.pstore (k := 1) (vs := [.int .i64 z87, .int .i64 z89, .int .i64 z91, .int .i64 r.at_, .int .u32 r.dst, .int .i64 r.proto, .int .i64 r.flow, .int .i64 r.ttl, .bool r.ans, .bool r.dbl, .int .i64 r.back, .int .u32 r.src, .int .i64 r.kind, .int .i64 r.code, .int .i64 r.left, .int .i64 r.id, .int .i64 r.quo]) rfl rfl rfl rfl rfl rfl rfl prssz65 arpone_i64i64i64i64u32i64i64i64bbi64u32i64i64i64i64i64 (by show 17 ≤ 17; decide) rfl ?_
  refine zET (zr ?_)
  exact pm_ret_cell (k := 1) Tryz.results66 rfl rfl Tryz.underlying65 rfl rfl (fun w1 hw => ⟨⟨⟨z87, z89, z91, r.at_, r.dst, r.proto, r.flow, r.ttl, r.ans, r.dbl, r.back, r.src, r.kind, r.code, r.left, r.id, r.quo⟩, by unfold Rs.Ok; dsimp only; omega⟩, rfl, Pm.codr [] (hw.sel (.cons _ (.cons _ (.cons_cons _ (List.Sublist.refl _))))) rfl⟩)
 refine TL.as_ ?_
 refine zET (zd (zk (zN (zT (zSG (TL.v (gV 0 (.agg (r.cells).toArray) prsag65 prssz65) ?_))))))
 refine TL.pstore (k := 1) (vs := r.cells) rfl rfl rfl rfl rfl rfl rfl prssz65 arpone_i64i64i64i64u32i64i64i64bbi64u32i64i64i64i64i64 (by show 17 ≤ 17; decide) (L' := ([.blk g3 65 r.cells, .blk g2 65 r.cells, .abs cb (fun w => Cod w cb)] ++ oths cb w)) rfl ?_
 refine zET (zr ?_)
 exact pm_ret_cell (k := 1) Tryz.results66 rfl rfl Tryz.underlying65 rfl rfl (fun w1 hw => ⟨⟨⟨r.v, r.run, r.num, r.at_, r.dst, r.proto, r.flow, r.ttl, r.ans, r.dbl, r.back, r.src, r.kind, r.code, r.left, r.id, r.quo⟩, by unfold Rs.Ok; dsimp only; omega⟩, rfl, Pm.codr [] (hw.sel (.cons _ (.cons _ (.cons_cons _ (List.Sublist.refl _))))) rfl⟩)
def adB (A : Option Addr) : Nat := match A with
  | some a => a.block
  | none => 0
def adO (A : Option Addr) : Nat := match A with
  | some a => a.off
  | none => 0
section
variable {α : Type} {c : α → List Value} {k : Nat}
theorem Reads.addr {w : World} {B size n : Nat} {A : Option Addr} {xs : List Value} (h : Reads w B size A n xs) (hn : 0 < n) (hs : 0 < size) : A = some ⟨adB A, adO A, none⟩ := by
  obtain ⟨b, o, hA, _, _⟩ := h.ad hn hs
  rw [hA]; rfl
end
set_option maxRecDepth 20000
set_option maxRecDepth 20000
theorem aawbld63_27255 (a0_0 : Int) (a1_0 : Int) (w : World) : (Instr.build 63 #[(0, .int .u32 a0_0), (1, .int .i64 a1_0)]).run Tryz.prog w = .ok (.agg #[.int .u32 a0_0, .int .i64 a1_0, .int .i64 0, .int .i64 0, .int .i64 0, .int .i64 0]) w := by kernel_rfl
theorem aawbld65_66110 (a4_0 : Int) (a5_0 : Int) (a7_0 : Int) (a8_0 : Bool) (a10_0 : Int) (a11_0 : Int) (a11_1 : Int) (a11_2 : Int) (a11_3 : Int) (a11_4 : Int) (a11_5 : Int) (w : World) : (Instr.build 65 #[(4, .int .u32 a4_0), (5, .int .i64 a5_0), (7, .int .i64 a7_0), (8, .bool a8_0), (10, .int .i64 a10_0), (11, .agg #[.int .u32 a11_0, .int .i64 a11_1, .int .i64 a11_2, .int .i64 a11_3, .int .i64 a11_4, .int .i64 a11_5])]).run Tryz.prog w = .ok (.agg #[.int .i64 0, .int .i64 0, .int .i64 0, .int .i64 0, .int .u32 a4_0, .int .i64 a5_0, .int .i64 0, .int .i64 a7_0, .bool a8_0, .bool false, .int .i64 a10_0, .int .u32 a11_0, .int .i64 a11_1, .int .i64 a11_2, .int .i64 a11_3, .int .i64 a11_4, .int .i64 a11_5]) w := by kernel_rfl
theorem aawbld65_18414 (a2_0 : Int) (a3_0 : Int) (a4_0 : Int) (a5_0 : Int) (a7_0 : Int) (a10_0 : Int) (w : World) : (Instr.build 65 #[(2, .int .i64 a2_0), (3, .int .i64 a3_0), (4, .int .u32 a4_0), (5, .int .i64 a5_0), (7, .int .i64 a7_0), (10, .int .i64 a10_0)]).run Tryz.prog w = .ok (.agg #[.int .i64 0, .int .i64 0, .int .i64 a2_0, .int .i64 a3_0, .int .u32 a4_0, .int .i64 a5_0, .int .i64 0, .int .i64 a7_0, .bool false, .bool false, .int .i64 a10_0, .int .u32 0, .int .i64 0, .int .i64 0, .int .i64 0, .int .i64 0, .int .i64 0]) w := by kernel_rfl
theorem aawbs23_3_88864 (a0_0 : Int) (a0_1 : Int) (a0_2 : Int) (a0_3 : Int) (a0_4 : Int) (a0_5 : Int) (a0_6 : Int) (a0_7 : Int) (a0_8 : Bool) (a0_9 : Bool) (a0_10 : Int) (a0_11 : Int) (a0_12 : Int) (a0_13 : Int) (a0_14 : Int) (a0_15 : Int) (a0_16 : Int) (a1_0 : Int) (a1_1 : Int) (a1_2 : Int) (a1_3 : Int) (a1_4 : Int) (a1_5 : Int) (a1_6 : Int) (a1_7 : Int) (a1_8 : Bool) (a1_9 : Bool) (a1_10 : Int) (a1_11 : Int) (a1_12 : Int) (a1_13 : Int) (a1_14 : Int) (a1_15 : Int) (a1_16 : Int) (a2_0 : Int) (a2_1 : Int) (a2_2 : Int) (a2_3 : Int) (a2_4 : Int) (a2_5 : Int) (a2_6 : Int) (a2_7 : Int) (a2_8 : Bool) (a2_9 : Bool) (a2_10 : Int) (a2_11 : Int) (a2_12 : Int) (a2_13 : Int) (a2_14 : Int) (a2_15 : Int) (a2_16 : Int) (w : World) : (Instr.buildSlice 23 3 #[(0, .agg #[.int .i64 a0_0, .int .i64 a0_1, .int .i64 a0_2, .int .i64 a0_3, .int .u32 a0_4, .int .i64 a0_5, .int .i64 a0_6, .int .i64 a0_7, .bool a0_8, .bool a0_9, .int .i64 a0_10, .int .u32 a0_11, .int .i64 a0_12, .int .i64 a0_13, .int .i64 a0_14, .int .i64 a0_15, .int .i64 a0_16]), (1, .agg #[.int .i64 a1_0, .int .i64 a1_1, .int .i64 a1_2, .int .i64 a1_3, .int .u32 a1_4, .int .i64 a1_5, .int .i64 a1_6, .int .i64 a1_7, .bool a1_8, .bool a1_9, .int .i64 a1_10, .int .u32 a1_11, .int .i64 a1_12, .int .i64 a1_13, .int .i64 a1_14, .int .i64 a1_15, .int .i64 a1_16]), (2, .agg #[.int .i64 a2_0, .int .i64 a2_1, .int .i64 a2_2, .int .i64 a2_3, .int .u32 a2_4, .int .i64 a2_5, .int .i64 a2_6, .int .i64 a2_7, .bool a2_8, .bool a2_9, .int .i64 a2_10, .int .u32 a2_11, .int .i64 a2_12, .int .i64 a2_13, .int .i64 a2_14, .int .i64 a2_15, .int .i64 a2_16])]).run Tryz.prog w = .ok (.slice (some ⟨w.heap.size, 0, none⟩) 3 3) (w.alloc (.cells [.int .i64 a0_0, .int .i64 a0_1, .int .i64 a0_2, .int .i64 a0_3, .int .u32 a0_4, .int .i64 a0_5, .int .i64 a0_6, .int .i64 a0_7, .bool a0_8, .bool a0_9, .int .i64 a0_10, .int .u32 a0_11, .int .i64 a0_12, .int .i64 a0_13, .int .i64 a0_14, .int .i64 a0_15, .int .i64 a0_16, .int .i64 a1_0, .int .i64 a1_1, .int .i64 a1_2, .int .i64 a1_3, .int .u32 a1_4, .int .i64 a1_5, .int .i64 a1_6, .int .i64 a1_7, .bool a1_8, .bool a1_9, .int .i64 a1_10, .int .u32 a1_11, .int .i64 a1_12, .int .i64 a1_13, .int .i64 a1_14, .int .i64 a1_15, .int .i64 a1_16, .int .i64 a2_0, .int .i64 a2_1, .int .i64 a2_2, .int .i64 a2_3, .int .u32 a2_4, .int .i64 a2_5, .int .i64 a2_6, .int .i64 a2_7, .bool a2_8, .bool a2_9, .int .i64 a2_10, .int .u32 a2_11, .int .i64 a2_12, .int .i64 a2_13, .int .i64 a2_14, .int .i64 a2_15, .int .i64 a2_16].toArray 65)) := by kernel_rfl
theorem aawbld28_57323 (a0_0 : Int) (a1_0 : Int) (a2_0 : Int) (w : World) : (Instr.build 28 #[(0, .int .i64 a0_0), (1, .int .i64 a1_0), (2, .int .i64 a2_0)]).run Tryz.prog w = .ok (.agg #[.int .i64 a0_0, .int .i64 a1_0, .int .i64 a2_0]) w := by kernel_rfl
theorem aawbld26_530  (w : World) : (Instr.build 26 #[]).run Tryz.prog w = .ok (.agg #[.slice none 0 0]) w := by kernel_rfl
theorem awake_true  (w : World) :
  Calls Tryz.prog 15 #[] w fun e w' => e = .returned (.bool true) ∧ Below w.heap.size w w' := by
 refine begin_ (vs := []) Tryz.func15 rfl rfl rfl ?_ (Pm.start w)
 refine zSG (TL.as_ ?_)
 refine zET (zSG ?_)
 refine TL.val rfl rfl rfl (gives_build (v := .agg #[.int .u32 9, .int .i64 3, .int .i64 0, .int .i64 0, .int .i64 0, .int .i64 0]) rfl rfl (fun w => aawbld63_27255 _ _ w)) ?_
 refine TL.val rfl rfl rfl (gives_build (v := .agg #[.int .i64 0, .int .i64 0, .int .i64 0, .int .i64 0, .int .u32 9, .int .i64 17, .int .i64 0, .int .i64 3, .bool true, .bool false, .int .i64 50, .int .u32 9, .int .i64 3, .int .i64 0, .int .i64 0, .int .i64 0, .int .i64 0]) rfl rfl (fun w => aawbld65_66110 _ _ _ _ _ _ _ _ _ _ _ w)) ?_
 refine TL.val rfl rfl rfl (gives_build (v := .agg #[.int .i64 0, .int .i64 0, .int .i64 1, .int .i64 60, .int .u32 9, .int .i64 17, .int .i64 0, .int .i64 3, .bool false, .bool false, .int .i64 70, .int .u32 0, .int .i64 0, .int .i64 0, .int .i64 0, .int .i64 0, .int .i64 0]) rfl rfl (fun w => aawbld65_18414 _ _ _ _ _ _ w)) ?_
 refine TL.val rfl rfl rfl (gives_build (v := .agg #[.int .i64 0, .int .i64 0, .int .i64 2, .int .i64 80, .int .u32 9, .int .i64 17, .int .i64 0, .int .i64 3, .bool false, .bool false, .int .i64 90, .int .u32 0, .int .i64 0, .int .i64 0, .int .i64 0, .int .i64 0, .int .i64 0]) rfl rfl (fun w => aawbld65_18414 _ _ _ _ _ _ w)) ?_
 refine TL.prowS (e := 65) (size := 17) (cs := flat Rs.cells awL) rfl rfl rfl rfl rfl (fun w => aawbs23_3_88864 _ _ _ _ _ _ _ _ _ _ _ _ _ _ _ _ _ _ _ _ _ _ _ _ _ _ _ _ _ _ _ _ _ _ _ _ _ _ _ _ _ _ _ _ _ _ _ _ _ _ _ w) (by decide) rfl (fun g9 => ?_)
 refine TL.as_ ?_
 refine zET (zSG ?_)
 refine TL.val rfl rfl rfl (gives_build (v := .agg #[.int .i64 2, .int .i64 1, .int .i64 1]) rfl rfl (fun w => aawbld28_57323 _ _ _ w)) ?_
 refine TL.pnew rfl rfl rfl (exec_alloc (cs := [.int .i64 0, .int .i64 0, .int .i64 0]) rfl adrzv28 rfl) (fun g2 => ?_)
 refine TL.pstore (k := 0) (vs := [.int .i64 2, .int .i64 1, .int .i64 1]) rfl rfl rfl rfl rfl rfl rfl aprsz28 adrone_i64i64i64 (by show 3 ≤ 3; decide) rfl ?_
 refine zET (zSG (TL.mv ?_))
 refine TL.val rfl rfl rfl (gives_build (v := .agg #[.slice none 0 0]) rfl rfl (fun w => aawbld26_530  w)) ?_
 refine TL.v (gV 0 (.agg #[.int .i64 2, .int .i64 1, .int .i64 1]) aprag28 aprsz28) ?_
 refine TL.pcallPm (α := {y : ((Option Addr × Nat) × List Rp) × Int // FndOk ([] : List En) awL (⟨2, 1, 1⟩ : Ru) y.1.2 y.2 ∧ y.1.2.length ≤ 100000000000 ∧ y.1.2.length ≤ y.1.1.2 ∧ y.1.1.2 ≤ maxLen}) (fun x => .tuple #[.slice x.1.1.1.1 x.1.1.2.length x.1.1.1.2, .int .i64 x.1.2]) (fun x => [.row (.slice x.1.1.1.1 x.1.1.2.length x.1.1.1.2) 34 8 x.1.1.2.length (flat Rp.cells x.1.1.2)]) rfl rfl rfl rfl rfl Tryz.func39 (by decide) rfl (fun w1 hw => fnd_any (some ⟨g9, 0, none⟩) 3 awL none 0 ([] : List En) (⟨2, 1, 1⟩ : Ru) w1 (pm_rd hw (k := 1) rfl) (by decide) awL_ok Reads.none_) ?_
 rintro ⟨⟨⟨⟨Afo, cfo⟩, fo⟩, efo⟩, hfo, hfol, hfoc, hfom⟩
 dsimp only [List.cons_append, List.nil_append]
 dsimp only at hfo hfol hfoc hfom ⊢
 obtain ⟨rfl, rfl⟩ := aw_fnd hfo
 have hlp : [awP].length = 1 := rfl
 have hlw : awL.length = 3 := rfl
 have hlt : (awL.take 2).length = 2 := rfl
 refine TL.rn 5 rfl (zET (zS (TC.fact (p := ∃ g, Afo = some ⟨g, 0, none⟩) (fun w1 hw => rowA hw (k := 0) rfl (by omega)) ?_)))
 rintro ⟨g_Afo, rfl⟩
 refine TC.quietP (by kernel_rfl) (by kernel_rfl) (fun w hw => hw.drawn _) ?_
 refine TQ.val rfl rfl rfl (gives_move rfl rfl) ?_
 refine TQ.val rfl rfl rfl (gives_bin rfl rfl rfl (fun w => bin_eql_t (rfl) w)) ?_
 refine TQ.rn 2 rfl (TQ.ov (gN Tryz.underlying49) ?_)
 refine TQ.on rfl rfl rfl ?_
 refine TQ.val rfl rfl rfl (gives_bin rfl rfl rfl (fun w => bin_eql_t (rfl) w)) ?_
 refine TQ.rn 3 rfl ?_
 refine TQ.on rfl rfl rfl ?_
 have hi27 : 0 < ([awP]).length := by simp
 obtain ⟨x27, hx27⟩ := ex_at hi27
 have hx27e : x27 = awP := (Option.some.inj hx27).symm
 refine TQ.val rfl rfl rfl (gA (i := 0) Tryz.underlying49 abrsz34 rfl rfl rfl rfl rfl (by omega)) ?_
 refine TQ.ov (gF arpfld34_0) ?_
 refine TQ.on rfl rfl rfl ?_
 refine TQ.val rfl rfl rfl (gives_load (v := .int .i64 x27.kind) rfl rfl pcmag3 (fun w1 hw => flat_row rp_cel hw (q := 0) rfl hx27 0 _ rfl)) ?_
 refine TQ.on rfl rfl rfl ?_
 refine TQ.val rfl rfl rfl (gives_bin rfl rfl rfl (fun w => bin_eql_t (by rw [hx27e]; rfl) w)) ?_
 refine TQ.rn 3 rfl ?_
 refine TQ.on rfl rfl rfl ?_
 refine TQ.val rfl rfl rfl (gA (i := 0) Tryz.underlying49 abrsz34 rfl rfl rfl rfl rfl (by omega)) ?_
 refine TQ.ov (gF arpfld34_4) ?_
 refine TQ.on rfl rfl rfl ?_
 refine TQ.val rfl rfl rfl (gives_load (v := .int .i64 x27.at_) rfl rfl pcmag3 (fun w1 hw => flat_row rp_cel hw (q := 0) rfl hx27 6 _ rfl)) ?_
 refine TQ.on rfl rfl rfl ?_
 refine TQ.val rfl rfl rfl (gives_bin rfl rfl rfl (fun w => bin_eql_t (by rw [hx27e]; rfl) w)) ?_
 refine TQ.rn 3 rfl ?_
 refine TQ.on rfl rfl rfl ?_
 refine TQ.val rfl rfl rfl (gA (i := 0) Tryz.underlying49 abrsz34 rfl rfl rfl rfl rfl (by omega)) ?_
 refine TQ.on rfl rfl rfl ?_
 refine TQ.val rfl rfl rfl (gives_loadR (off := 0 + 0 * 8) rfl rfl abrag34 abrsz34 (rp_cel.len x27) (fun w1 hw j9 u9 h9 => flat_row rp_cel hw (q := 0) rfl hx27 j9 u9 h9)) ?_
 refine TQ.on rfl rfl rfl ?_
 refine TQ.call (v := .bool true) rfl rfl rfl rfl rfl Tryz.func27 (by decide) rfl (fun w1 hw => (calls_b (vldRp_any x27 w1) (by rw [hx27e]; decide +kernel)).mono fun en w2 ⟨h1, h2⟩ => ⟨h1, hw.below h2⟩) ?_
 refine TQ.rn 3 rfl ?_
 refine TQ.on rfl rfl rfl ?_
 refine TQ.val rfl rfl rfl (gives_build (v := .agg #[.slice none 0 0]) rfl rfl (fun w => aawbld26_530  w)) ?_
 refine TQ.ov (gV 1 (.agg #[.int .i64 2, .int .i64 1, .int .i64 1]) aprag28 aprsz28) ?_
 refine TQ.rn 1 rfl ?_
 refine TQ.on rfl rfl rfl ?_
 refine TQ.val rfl rfl rfl (gA (i := 0) Tryz.underlying49 abrsz34 rfl rfl rfl rfl rfl (by omega)) ?_
 refine TQ.on rfl rfl rfl ?_
 refine TQ.val rfl rfl rfl (gives_loadR (off := 0 + 0 * 8) rfl rfl abrag34 abrsz34 (rp_cel.len x27) (fun w1 hw j9 u9 h9 => flat_row rp_cel hw (q := 0) rfl hx27 j9 u9 h9)) ?_
 refine TQ.on rfl rfl rfl ?_
 refine TQ.call (v := .bool true) rfl rfl rfl rfl rfl Tryz.func37 (by decide) rfl (fun w1 hw => (calls_t (proves_any (some ⟨g9, 0, none⟩) 3 awL none 0 ([] : List En) (⟨2, 1, 1⟩ : Ru) x27 w1 (pm_rd hw (k := 2) rfl) (by decide) awL_ok Reads.none_) (by rw [hx27e]; exact aw_pr)).mono fun en w2 ⟨h1, h2⟩ => ⟨h1, hw.below h2⟩) ?_
 refine TQ.rn 3 rfl ?_
 refine TQ.on rfl rfl rfl ?_
 refine TQ.val rfl rfl rfl (gives_sliceH (v := .slice (some ⟨g9, 0, none⟩) 2 3) rfl rfl rfl (fun w => cut_hi Tryz.underlying23 prssz65 _ _ _ 2 rfl (by omega) w)) ?_
 refine TQ.on rfl rfl rfl ?_
 refine TQ.val rfl rfl rfl (gives_build (v := .agg #[.slice none 0 0]) rfl rfl (fun w => aawbld26_530  w)) ?_
 refine TQ.ov (gV 1 (.agg #[.int .i64 2, .int .i64 1, .int .i64 1]) aprag28 aprsz28) ?_
 refine TQ.rn 1 rfl ?_
 refine TQ.on rfl rfl rfl ?_
 refine TQ.val rfl rfl rfl (gA (i := 0) Tryz.underlying49 abrsz34 rfl rfl rfl rfl rfl (by omega)) ?_
 refine TQ.on rfl rfl rfl ?_
 refine TQ.val rfl rfl rfl (gives_loadR (off := 0 + 0 * 8) rfl rfl abrag34 abrsz34 (rp_cel.len x27) (fun w1 hw j9 u9 h9 => flat_row rp_cel hw (q := 0) rfl hx27 j9 u9 h9)) ?_
 refine TQ.on rfl rfl rfl ?_
 refine TQ.call (v := .bool false) rfl rfl rfl rfl rfl Tryz.func37 (by decide) rfl (fun w1 hw => (calls_f (proves_any (some ⟨g9, 0, none⟩) 3 (awL.take 2) none 0 ([] : List En) (⟨2, 1, 1⟩ : Ru) x27 w1 (Reads.headF rs_cel (pm_rd hw (k := 2) rfl) (by omega)) (by decide) awT_ok Reads.none_) (by rw [hx27e]; exact aw_pr2)).mono fun en w2 ⟨h1, h2⟩ => ⟨h1, hw.below h2⟩) ?_
 refine TQ.rn 3 rfl (TQ.ov (gV 1 (.agg #[.int .i64 2, .int .i64 1, .int .i64 1]) aprag28 aprsz28) ?_)
 refine TQ.on rfl rfl rfl ?_
 refine TQ.call (v := .bool true) rfl rfl rfl rfl rfl Tryz.func24 (by decide) rfl (fun w1 hw => (calls_b (vldRu_any awU w1) (by decide +kernel)).mono fun en w2 ⟨h1, h2⟩ => ⟨h1, hw.below h2⟩) ?_
 refine TQ.rn 2 rfl ?_
 refine TQ.fin ?_
 refine zT (zr ?_)
 exact ret_tmp Tryz.results15 rfl (fun w1 hw => ⟨rfl, hw.bel⟩)
set_option maxRecDepth 20000
section
variable {y : List Rs} {t ttl : Int} {i : Nat} {x : Rs} {o : List Int}
theorem atL_take (hx : y[i]? = some x) : atL (y.take (i + 1)) ttl = if x.ans = true ∧ x.ttl = ttl then atL (y.take i) ttl ++ [x] else atL (y.take i) ttl := by
 unfold atL
 rw [List.take_add_one, hx, List.filter_append]
 by_cases h : x.ans = true ∧ x.ttl = ttl
 ·rw [if_pos h]; simp [h]
 rw [if_neg h]
 have : (x.ans && decide (x.ttl = ttl)) = false := by simpa using h
 simp [this]
theorem eaL_snoc (l : List Rs) (x : Rs) (t : Int) : eaL (l ++ [x]) t = if x.back < t then eaL l t ++ [x.back - x.at_] else eaL l t := by
 unfold eaL
 rw [List.filter_append, List.map_append]
 split
 ·rename_i h; simp [h]
 rename_i h; simp [h]
theorem laL_snoc (l : List Rs) (x : Rs) (t : Int) : laL (l ++ [x]) t = if ¬ x.back < t ∧ t ≤ x.at_ then laL l t ++ [x.back - x.at_] else laL l t := by
 unfold laL
 rw [List.filter_append, List.map_append]
 split
 ·rename_i h; simp [h]
 rename_i h
 have : (!decide (x.back < t) && decide (t ≤ x.at_)) = false := by simpa using h
 simp [this]
theorem ear_skip (hx : y[i]? = some x) (h : ¬ (x.ans = true ∧ x.ttl = ttl)) (ho : eaL (atL (y.take i) ttl) t = o) : eaL (atL (y.take (i + 1)) ttl) t = o := by rw [atL_take hx, if_neg h]; exact ho
theorem lar_skip (hx : y[i]? = some x) (h : ¬ (x.ans = true ∧ x.ttl = ttl)) (ho : laL (atL (y.take i) ttl) t = o) : laL (atL (y.take (i + 1)) ttl) t = o := by rw [atL_take hx, if_neg h]; exact ho
theorem ear_t (hx : y[i]? = some x) (h : x.ans = true ∧ x.ttl = ttl) (h1 : x.back < t) (ho : eaL (atL (y.take i) ttl) t = o) : eaL (atL (y.take (i + 1)) ttl) t = o ++ [x.back - x.at_] := by rw [atL_take hx, if_pos h, eaL_snoc, if_pos h1, ho]
theorem ear_f (hx : y[i]? = some x) (h : x.ans = true ∧ x.ttl = ttl) (h1 : ¬ x.back < t) (ho : eaL (atL (y.take i) ttl) t = o) : eaL (atL (y.take (i + 1)) ttl) t = o := by rw [atL_take hx, if_pos h, eaL_snoc, if_neg h1, ho]
theorem lar_t (hx : y[i]? = some x) (h : x.ans = true ∧ x.ttl = ttl) (hr : x.at_ ≤ x.back) (h1 : x.at_ ≥ t) (ho : laL (atL (y.take i) ttl) t = o) : laL (atL (y.take (i + 1)) ttl) t = o ++ [x.back - x.at_] := by rw [atL_take hx, if_pos h, laL_snoc, if_pos ⟨by omega, h1⟩, ho]
theorem lar_f (hx : y[i]? = some x) (h : x.ans = true ∧ x.ttl = ttl) (h1 : ¬ x.at_ ≥ t) (ho : laL (atL (y.take i) ttl) t = o) : laL (atL (y.take (i + 1)) ttl) t = o := by rw [atL_take hx, if_pos h, laL_snoc, if_neg (fun h2 => h1 h2.2), ho]
end
theorem fcnt_t {p : Int → Bool} {l : List Int} {i c : Nat} {x : Int} (hx : l[i]? = some x) (h : p x = true) (hc : ((l.take i).filter p).length = c) : ((l.take (i + 1)).filter p).length = c + 1 := by
 rw [List.take_add_one, hx, List.filter_append, List.length_append, hc]
 simp [h]
theorem fcnt_f {p : Int → Bool} {l : List Int} {i c : Nat} {x : Int} (hx : l[i]? = some x) (h : p x = false) (hc : ((l.take i).filter p).length = c) : ((l.take (i + 1)).filter p).length = c := by
 rw [List.take_add_one, hx, List.filter_append, List.length_append, hc]
 simp [h]
theorem usb_in {r : Rs} (h : usbRs r = true) : r.inRange := by
 unfold usbRs at h
 simp only [Bool.and_eq_true] at h
 exact vld_in h.2
theorem rcongestion_any (A0 : Option Addr) (c0 : Nat) (l : List Rs) (u : Ru) (p : Rp) (w : World) (hr : Reads w w.heap.size 17 A0 l.length (flat Rs.cells l)) (hl1 : l.length ≤ 100000) (hok : ∀ r ∈ l, r.Ok) :
  Calls Tryz.prog 32 #[.slice A0 l.length c0, .agg u.cells.toArray, .agg p.cells.toArray] w fun e w' => ∃ x : {b : Bool // b = true ↔ CgP l u p}, e = .returned (.bool x.1) ∧ Below w.heap.size w w' := by
 refine begin_ (vs := [.slice A0 l.length c0, .agg u.cells.toArray, .agg p.cells.toArray]) Tryz.func32 rfl rfl rfl ?_ (Pm.start w)
 refine zSG ?_
 refine TL.pnew rfl rfl rfl (exec_box (cs := u.cells) rfl rfl rfl) (fun g4 => ?_)
 refine TL.pnew rfl rfl rfl (exec_box (cs := p.cells) rfl rfl rfl) (fun g5 => ?_)
 refine TL.as_ ?_
 refine zET (zS (zSG (TL.v (gF arpfld34_0) ?_)))
 refine TL.v (gL 0 pcmag3) ?_
 refine TL.sp bin_neq (fun q18 => ?_) (fun q18 => ?_)
 ·refine zET (zc (zSG (TL.as_ ?_)))
  refine zET (zr (zR ?_))
  have hres : false = true ↔ CgP l u p := ⟨fun h => (by cases h), fun h => absurd h.1 q18⟩
  exact ret_tmp Tryz.results32 rfl (fun w1 hw => ⟨⟨false, hres⟩, rfl, hw.bel⟩)
 refine zET (zd (zk (zT (zS (zSG (TL.v (gF arpfld28_2) ?_))))))
 refine TL.v (gL 1 pcmag3) ?_
 refine TL.sp bin_lss (fun q21 => ?_) (fun q21 => ?_)
 ·refine zET (zc (zSG (TL.as_ ?_)))
  refine zET (zr (zR ?_))
  have hres : true = true ↔ CgP l u p := ⟨fun _ => ⟨Decidable.not_not.1 q18, .inl q21⟩, fun _ => rfl⟩
  exact ret_tmp Tryz.results32 rfl (fun w1 hw => ⟨⟨true, hres⟩, rfl, hw.bel⟩)
 refine zET (zd (zk (zT (zSG (TL.rn 2 rfl (zET (zSG (TL.mv ?_))))))))
 refine TL.v (gV 0 (.agg (p.cells).toArray) abrag34 abrsz34) ?_
 refine TL.pcallPm (α := {y : (Option Addr × Nat) × List Rs // IsSt l p.trc p.flow y.2 ∧ y.2.length ≤ y.1.2 ∧ y.1.2 ≤ maxLen}) (fun x => .slice x.1.1.1 x.1.2.length x.1.1.2) (fun x => [.row (.slice x.1.1.1 x.1.2.length x.1.1.2) 65 17 x.1.2.length (flat Rs.cells x.1.2)]) rfl rfl rfl rfl rfl Tryz.func74 (by decide) rfl (fun w1 hw => about_any A0 c0 l p w1 (hr.up hw.bel) hl1 hok) ?_
 rintro ⟨⟨⟨R24, rc24⟩, st24⟩, hP24, hR241, hR242⟩
 dsimp only [List.cons_append, List.nil_append]
 dsimp only at hP24 hR241 hR242 ⊢
 refine TL.as_ ?_
 refine zET (zS (zS ?_))
 have hol := hP24.le
 refine zG (TL.as_ ?_)
 refine zET (zB (TC.nilrow 3 1 ?_))
 refine TC.nilrow 3 1 ?_
 refine TC.loop_ (α := {y : Nat × (Option Addr × Nat) × (Option Addr × Nat) × List Int × List Int // y.1 ≤ st24.length ∧ eaL (atL (st24.take y.1) p.ttl) p.at_ = y.2.2.2.1 ∧ laL (atL (st24.take y.1) p.ttl) p.at_ = y.2.2.2.2 ∧ y.2.2.2.1.length ≤ y.1 ∧ y.2.2.2.2.length ≤ y.1 ∧ y.2.2.2.1.length ≤ y.2.1.2 ∧ y.2.1.2 ≤ maxLen ∧ y.2.2.2.2.length ≤ y.2.2.1.2 ∧ y.2.2.1.2 ≤ maxLen}) (fun y => [(4, .pointer (some ⟨g4, 0, none⟩)), (5, .pointer (some ⟨g5, 0, none⟩)), (6, .bool false), (9, .slice R24 st24.length rc24), (10, .int .i64 ((y.1.1 : Nat) : Int)), (7, .slice y.1.2.1.1 y.1.2.2.2.1.length y.1.2.1.2), (8, .slice y.1.2.2.1.1 y.1.2.2.2.2.length y.1.2.2.1.2)]) (fun y => Pm w [.row (.slice y.1.2.1.1 y.1.2.2.2.1.length y.1.2.1.2) 3 1 y.1.2.2.2.1.length (flat (ic .i64) y.1.2.2.2.1), .row (.slice y.1.2.2.1.1 y.1.2.2.2.2.length y.1.2.2.1.2) 3 1 y.1.2.2.2.2.length (flat (ic .i64) y.1.2.2.2.2), .row (.slice R24 st24.length rc24) 65 17 st24.length (flat Rs.cells st24), .blk g5 34 p.cells, .blk g4 28 u.cells]) (fun y => st24.length - y.1.1) (⟨(0, (none, 0), (none, 0), [], []), Nat.zero_le _, rfl, rfl, Nat.le_refl _, Nat.le_refl _, Nat.le_refl _, Nat.zero_le _, Nat.le_refl _, Nat.zero_le _⟩) ⟨rfl, rfl, rfl, rfl, rfl, rfl, rfl, trivial⟩ (fun w1 hw => hw) ?_
 rintro ⟨⟨i, ⟨Ae, ce⟩, ⟨Al, cl⟩, ea, la⟩, hi, hE, hL, hel, hll, hc1, hc2, hc3, hc4⟩
 dsimp only at hi hE hL hel hll hc1 hc2 hc3 hc4 ⊢
 refine zS (zSG (TL.rn 2 rfl (TL.v (gN Tryz.underlying23) ?_)))
 refine TL.sp bin_lss (fun q28 => ?_) (fun q28 => ?_)
 ·refine zET (zc (zk (zT (zS (zB (zS (zS (TC.fact (p := ∃ g, R24 = some ⟨g, 0, none⟩) (fun w1 hw => rowA hw (k := 2) rfl (by omega)) ?_))))))))
  rintro ⟨g_R24, rfl⟩
  refine TC.quietQ (by kernel_rfl) (by kernel_rfl) (fun w hw => hw.drawn _) ?_
  refine TQ.rn 2 rfl ?_
  have hi33 : i < st24.length := by omega
  obtain ⟨x33, hx33⟩ := ex_at hi33
  have hin33 := usb_in ((hP24.mem x33).1 (List.mem_of_getElem? hx33)).2.2.1
  unfold Rs.inRange at hin33
  refine TQ.val rfl rfl rfl (gA (i := i) Tryz.underlying23 prssz65 rfl rfl rfl rfl rfl (by omega)) ?_
  refine TQ.v (gF prsfld65_8) ?_
  refine TQ.vsplit rfl rfl rfl (gives_load (v := .bool x33.ans) rfl rfl prsag4 (fun w1 hw => flat_row rs_cel hw (q := 2) rfl hx33 8 _ rfl)) (fun h35 => ?_) (fun h35 => ?_)
  ·refine TQ.rn 4 rfl ?_
   refine TQ.on rfl rfl rfl ?_
   refine TQ.val rfl rfl rfl (gA (i := i) Tryz.underlying23 prssz65 rfl rfl rfl rfl rfl (by omega)) ?_
   refine TQ.ov (gF prsfld65_7) ?_
   refine TQ.on rfl rfl rfl ?_
   refine TQ.val rfl rfl rfl (gives_load (v := .int .i64 x33.ttl) rfl rfl pcmag3 (fun w1 hw => flat_row rs_cel hw (q := 2) rfl hx33 7 _ rfl)) ?_
   refine TQ.ov (gF arpfld34_3) ?_
   refine TQ.ov (gL 3 pcmag3) ?_
   refine TQ.on rfl rfl rfl ?_
   refine TQ.sp bin_neq (fun q45 => ?_) (fun q45 => ?_)
   ·refine TQ.val rfl rfl rfl (gives_pick rfl rfl rfl) ?_
    refine TQ.fin ?_
    refine zT (zc (zx (zX (zM (zT (zG (TL.mv ?_)))))))
    refine TL.v (gD ((i + 1 : Nat) : Int)) ?_
    refine TL.as_ ?_
    refine zE ?_
    exact TX.round (⟨(i + 1, (Ae, ce), (Al, cl), ea, la), by dsimp only; omega, ear_skip hx33 (fun h => q45 h.2) hE, lar_skip hx33 (fun h => q45 h.2) hL, by dsimp only; omega, by dsimp only; omega, hc1, hc2, hc3, hc4⟩) (by show st24.length - (i + 1) < st24.length - i; omega) ⟨rfl, rfl, rfl, rfl, rfl, rfl, rfl, trivial⟩ (fun w1 hw => hw)
   refine TQ.val rfl rfl rfl (gives_pick rfl rfl rfl) ?_
   refine TQ.fin ?_
   refine zT (zd (zk (zT (zS (zS (TC.quietQ (by kernel_rfl) (by kernel_rfl) (fun w hw => hw.drawn _) ?_))))))
   refine TQ.rn 2 rfl ?_
   refine TQ.val rfl rfl rfl (gA (i := i) Tryz.underlying23 prssz65 rfl rfl rfl rfl rfl (by omega)) ?_
   refine TQ.v (gF prsfld65_10) ?_
   refine TQ.val rfl rfl rfl (gives_load (v := .int .i64 x33.back) rfl rfl pcmag3 (fun w1 hw => flat_row rs_cel hw (q := 2) rfl hx33 10 _ rfl)) ?_
   refine TQ.v (gF arpfld34_4) ?_
   refine TQ.v (gL 3 pcmag3) ?_
   refine TQ.sp bin_lss (fun q54 => ?_) (fun q54 => ?_)
   ·refine TQ.fin ?_
    refine zT (zc (TC.held (ls := #[Ff,Ff,Ff,Ff,Ff,Ff,Ff,Ff,Ff,Ff,Ff,Ff,Ff,Ff,Ff]) (Pm w [.row (.slice (some ⟨g_R24, 0, none⟩) st24.length rc24) 65 17 st24.length (flat Rs.cells st24), .blk g5 34 p.cells, .blk g4 28 u.cells]) (by kernel_rfl) rfl rfl (fun w hw => hw.drawn _) ?_))
    refine TH.tk 0 rfl rfl rfl (gives_move rfl rfl) (fun w1 hw => hw.pick [2, 3, 4] (by decide) rfl) ?_
    refine TH.tk 1 rfl rfl rfl (gives_move rfl rfl) (fun w1 hw => hw.pick [2, 3, 4] (by decide) rfl) ?_
    refine TH.tk 2 rfl rfl rfl (gives_move rfl rfl) (fun w1 hw => hw.pick [2, 3, 4] (by decide) rfl) ?_
    refine TH.tk 3 rfl rfl rfl (gA (i := i) Tryz.underlying23 prssz65 rfl rfl rfl rfl rfl (by omega)) (fun w1 hw => hw.pick [2, 3, 4] (by decide) rfl) ?_
    refine TH.tk 4 rfl rfl rfl (gF prsfld65_10) (fun w1 hw => hw.pick [2, 3, 4] (by decide) rfl) ?_
    refine TH.tk 5 rfl rfl rfl (gives_load (v := .int .i64 x33.back) rfl rfl pcmag3 (fun w1 hw => flat_row rs_cel hw (q := 0) rfl hx33 10 _ rfl)) (fun w1 hw => hw.pick [2, 3, 4] (by decide) rfl) ?_
    refine TH.tk 6 rfl rfl rfl (gives_move rfl rfl) (fun w1 hw => hw.pick [2, 3, 4] (by decide) rfl) ?_
    refine TH.tk 7 rfl rfl rfl (gives_move rfl rfl) (fun w1 hw => hw.pick [2, 3, 4] (by decide) rfl) ?_
    refine TH.tk 8 rfl rfl rfl (gA (i := i) Tryz.underlying23 prssz65 rfl rfl rfl rfl rfl (by omega)) (fun w1 hw => hw.pick [2, 3, 4] (by decide) rfl) ?_
    refine TH.tk 9 rfl rfl rfl (gF prsfld65_3) (fun w1 hw => hw.pick [2, 3, 4] (by decide) rfl) ?_
    refine TH.tk 10 rfl rfl rfl (gives_load (v := .int .i64 x33.at_) rfl rfl pcmag3 (fun w1 hw => flat_row rs_cel hw (q := 0) rfl hx33 3 _ rfl)) (fun w1 hw => hw.pick [2, 3, 4] (by decide) rfl) ?_
    refine TH.tk 11 rfl rfl rfl (gives_bin rfl rfl rfl (fun w => bin_sub_ (r := x33.back - x33.at_) (by simp only [IntKind.wrap_i64]; omega) w)) (fun w1 hw => hw.pick [2, 3, 4] (by decide) rfl) ?_
    refine TH.only' 12 rfl (by kernel_rfl) rfl ?_
    refine TL.prowS (e := 3) (size := 1) (cs := flat (ic .i64) [x33.back - x33.at_]) rfl rfl rfl rfl rfl (fun w => adtbs106_1_5377 _ w) (by decide) rfl (fun g67 => ?_)
    refine zE ?_
    refine TX.held (fun w1 hw => hw.pick [3, 4, 5] (by decide) rfl) ?_
    refine TH.only' 13 rfl (by kernel_rfl) rfl ?_
    refine TL.appendT (k := 1) rfl rfl rfl rfl Tryz.underlying106 adtel106 rfl rfl rfl (fun w1 hw => pm_reads hw (k := 0) rfl) (flat_one (ic_cel .i64) _) (by show _ * 8 ≤ _; omega) ((ea ++ [x33.back - x33.at_]).length) (by rw [List.length_append]; rfl) (flat (ic .i64) (ea ++ [x33.back - x33.at_])) ((flat_app _ _).symm) (fun A68 c68 hA681 hA682 => ?_)
    refine zE ?_
    refine TX.he (fun w1 hw => hw.pick [3, 4, 5] (by decide) rfl) fun hS => ?_
    refine TH.t 14 rfl (gives_assign rfl rfl) hS ?_
    refine TH.done (by kernel_rfl) ?_
    refine zT (zS (TC.quietQ (by kernel_rfl) (by kernel_rfl) (fun w hw => hw.drawn _) ?_))
    refine TQ.rn 2 rfl ?_
    refine TQ.val rfl rfl rfl (gA (i := i) Tryz.underlying23 prssz65 rfl rfl rfl rfl rfl (by omega)) ?_
    refine TQ.v (gF prsfld65_3) ?_
    refine TQ.val rfl rfl rfl (gives_load (v := .int .i64 x33.at_) rfl rfl pcmag3 (fun w1 hw => flat_row rs_cel hw (q := 3) rfl hx33 3 _ rfl)) ?_
    refine TQ.v (gF arpfld34_4) ?_
    refine TQ.v (gL 4 pcmag3) ?_
    refine TQ.sp bin_geq (fun q76 => ?_) (fun q76 => ?_)
    ·refine TQ.fin ?_
     refine zT (zc (TC.held (ls := #[Ff,Ff,Ff,Ff,Ff,Ff,Ff,Ff,Ff,Ff,Ff,Ff,Ff,Ff,Ff]) (Pm w [.row (.slice (some ⟨g_R24, 0, none⟩) st24.length rc24) 65 17 st24.length (flat Rs.cells st24), .blk g5 34 p.cells, .blk g4 28 u.cells]) (by kernel_rfl) rfl rfl (fun w hw => hw.drawn _) ?_))
     refine TH.tk 0 rfl rfl rfl (gives_move rfl rfl) (fun w1 hw => hw.pick [3, 4, 5] (by decide) rfl) ?_
     refine TH.tk 1 rfl rfl rfl (gives_move rfl rfl) (fun w1 hw => hw.pick [3, 4, 5] (by decide) rfl) ?_
     refine TH.tk 2 rfl rfl rfl (gives_move rfl rfl) (fun w1 hw => hw.pick [3, 4, 5] (by decide) rfl) ?_
     refine TH.tk 3 rfl rfl rfl (gA (i := i) Tryz.underlying23 prssz65 rfl rfl rfl rfl rfl (by omega)) (fun w1 hw => hw.pick [3, 4, 5] (by decide) rfl) ?_
     refine TH.tk 4 rfl rfl rfl (gF prsfld65_10) (fun w1 hw => hw.pick [3, 4, 5] (by decide) rfl) ?_
     refine TH.tk 5 rfl rfl rfl (gives_load (v := .int .i64 x33.back) rfl rfl pcmag3 (fun w1 hw => flat_row rs_cel hw (q := 0) rfl hx33 10 _ rfl)) (fun w1 hw => hw.pick [3, 4, 5] (by decide) rfl) ?_
     refine TH.tk 6 rfl rfl rfl (gives_move rfl rfl) (fun w1 hw => hw.pick [3, 4, 5] (by decide) rfl) ?_
     refine TH.tk 7 rfl rfl rfl (gives_move rfl rfl) (fun w1 hw => hw.pick [3, 4, 5] (by decide) rfl) ?_
     refine TH.tk 8 rfl rfl rfl (gA (i := i) Tryz.underlying23 prssz65 rfl rfl rfl rfl rfl (by omega)) (fun w1 hw => hw.pick [3, 4, 5] (by decide) rfl) ?_
     refine TH.tk 9 rfl rfl rfl (gF prsfld65_3) (fun w1 hw => hw.pick [3, 4, 5] (by decide) rfl) ?_
     refine TH.tk 10 rfl rfl rfl (gives_load (v := .int .i64 x33.at_) rfl rfl pcmag3 (fun w1 hw => flat_row rs_cel hw (q := 0) rfl hx33 3 _ rfl)) (fun w1 hw => hw.pick [3, 4, 5] (by decide) rfl) ?_
     refine TH.tk 11 rfl rfl rfl (gives_bin rfl rfl rfl (fun w => bin_sub_ (r := x33.back - x33.at_) (by simp only [IntKind.wrap_i64]; omega) w)) (fun w1 hw => hw.pick [3, 4, 5] (by decide) rfl) ?_
     refine TH.only' 12 rfl (by kernel_rfl) rfl ?_
     refine TL.prowS (e := 3) (size := 1) (cs := flat (ic .i64) [x33.back - x33.at_]) rfl rfl rfl rfl rfl (fun w => adtbs106_1_5377 _ w) (by decide) rfl (fun g89 => ?_)
     refine zE ?_
     refine TX.held (fun w1 hw => hw.pick [4, 5, 6] (by decide) rfl) ?_
     refine TH.only' 13 rfl (by kernel_rfl) rfl ?_
     refine TL.appendT (k := 3) rfl rfl rfl rfl Tryz.underlying106 adtel106 rfl rfl rfl (fun w1 hw => pm_reads hw (k := 0) rfl) (flat_one (ic_cel .i64) _) (by show _ * 8 ≤ _; omega) ((la ++ [x33.back - x33.at_]).length) (by rw [List.length_append]; rfl) (flat (ic .i64) (la ++ [x33.back - x33.at_])) ((flat_app _ _).symm) (fun A90 c90 hA901 hA902 => ?_)
     refine zE ?_
     refine TX.he (fun w1 hw => hw.pick [4, 5, 6] (by decide) rfl) fun hS => ?_
     refine TH.t 14 rfl (gives_assign rfl rfl) hS ?_
     refine TH.done (by kernel_rfl) ?_
     refine zN (zT (zG (TL.mv ?_)))
     refine TL.v (gD ((i + 1 : Nat) : Int)) ?_
     refine TL.as_ ?_
     refine zE ?_
     exact TX.round (⟨(i + 1, (A68, c68), (A90, c90), ea ++ [x33.back - x33.at_], la ++ [x33.back - x33.at_]), by dsimp only; omega, ear_t hx33 ⟨h35, by omega⟩ q54 hE, lar_t hx33 ⟨h35, by omega⟩ (by omega) q76 hL, by dsimp only; rw [List.length_append]; show ea.length + 1 ≤ _; omega, by dsimp only; rw [List.length_append]; show la.length + 1 ≤ _; omega, hA681, hA682, hA901, hA902⟩) (by show st24.length - (i + 1) < st24.length - i; omega) ⟨rfl, rfl, rfl, rfl, rfl, rfl, rfl, trivial⟩ (fun w1 hw => hw.pick [2, 3, 4, 5, 6] (by decide) rfl)
    refine TQ.fin ?_
    refine zT (zd (zk (zN (zT (zG (TL.mv ?_))))))
    refine TL.v (gD ((i + 1 : Nat) : Int)) ?_
    refine TL.as_ ?_
    refine zE ?_
    exact TX.round (⟨(i + 1, (A68, c68), (Al, cl), ea ++ [x33.back - x33.at_], la), by dsimp only; omega, ear_t hx33 ⟨h35, by omega⟩ q54 hE, lar_f hx33 ⟨h35, by omega⟩ q76 hL, by dsimp only; rw [List.length_append]; show ea.length + 1 ≤ _; omega, by dsimp only; omega, hA681, hA682, hc3, hc4⟩) (by show st24.length - (i + 1) < st24.length - i; omega) ⟨rfl, rfl, rfl, rfl, rfl, rfl, rfl, trivial⟩ (fun w1 hw => hw.pick [1, 2, 3, 4, 5] (by decide) rfl)
   refine TQ.fin ?_
   refine zT (zd (zk (zT (zS (TC.quietQ (by kernel_rfl) (by kernel_rfl) (fun w hw => hw.drawn _) ?_)))))
   refine TQ.rn 2 rfl ?_
   refine TQ.val rfl rfl rfl (gA (i := i) Tryz.underlying23 prssz65 rfl rfl rfl rfl rfl (by omega)) ?_
   refine TQ.v (gF prsfld65_3) ?_
   refine TQ.val rfl rfl rfl (gives_load (v := .int .i64 x33.at_) rfl rfl pcmag3 (fun w1 hw => flat_row rs_cel hw (q := 2) rfl hx33 3 _ rfl)) ?_
   refine TQ.v (gF arpfld34_4) ?_
   refine TQ.v (gL 3 pcmag3) ?_
   refine TQ.sp bin_geq (fun q76 => ?_) (fun q76 => ?_)
   ·refine TQ.fin ?_
    refine zT (zc (TC.held (ls := #[Ff,Ff,Ff,Ff,Ff,Ff,Ff,Ff,Ff,Ff,Ff,Ff,Ff,Ff,Ff]) (Pm w [.row (.slice (some ⟨g_R24, 0, none⟩) st24.length rc24) 65 17 st24.length (flat Rs.cells st24), .blk g5 34 p.cells, .blk g4 28 u.cells]) (by kernel_rfl) rfl rfl (fun w hw => hw.drawn _) ?_))
    refine TH.tk 0 rfl rfl rfl (gives_move rfl rfl) (fun w1 hw => hw.pick [2, 3, 4] (by decide) rfl) ?_
    refine TH.tk 1 rfl rfl rfl (gives_move rfl rfl) (fun w1 hw => hw.pick [2, 3, 4] (by decide) rfl) ?_
    refine TH.tk 2 rfl rfl rfl (gives_move rfl rfl) (fun w1 hw => hw.pick [2, 3, 4] (by decide) rfl) ?_
    refine TH.tk 3 rfl rfl rfl (gA (i := i) Tryz.underlying23 prssz65 rfl rfl rfl rfl rfl (by omega)) (fun w1 hw => hw.pick [2, 3, 4] (by decide) rfl) ?_
    refine TH.tk 4 rfl rfl rfl (gF prsfld65_10) (fun w1 hw => hw.pick [2, 3, 4] (by decide) rfl) ?_
    refine TH.tk 5 rfl rfl rfl (gives_load (v := .int .i64 x33.back) rfl rfl pcmag3 (fun w1 hw => flat_row rs_cel hw (q := 0) rfl hx33 10 _ rfl)) (fun w1 hw => hw.pick [2, 3, 4] (by decide) rfl) ?_
    refine TH.tk 6 rfl rfl rfl (gives_move rfl rfl) (fun w1 hw => hw.pick [2, 3, 4] (by decide) rfl) ?_
    refine TH.tk 7 rfl rfl rfl (gives_move rfl rfl) (fun w1 hw => hw.pick [2, 3, 4] (by decide) rfl) ?_
    refine TH.tk 8 rfl rfl rfl (gA (i := i) Tryz.underlying23 prssz65 rfl rfl rfl rfl rfl (by omega)) (fun w1 hw => hw.pick [2, 3, 4] (by decide) rfl) ?_
    refine TH.tk 9 rfl rfl rfl (gF prsfld65_3) (fun w1 hw => hw.pick [2, 3, 4] (by decide) rfl) ?_
    refine TH.tk 10 rfl rfl rfl (gives_load (v := .int .i64 x33.at_) rfl rfl pcmag3 (fun w1 hw => flat_row rs_cel hw (q := 0) rfl hx33 3 _ rfl)) (fun w1 hw => hw.pick [2, 3, 4] (by decide) rfl) ?_
    refine TH.tk 11 rfl rfl rfl (gives_bin rfl rfl rfl (fun w => bin_sub_ (r := x33.back - x33.at_) (by simp only [IntKind.wrap_i64]; omega) w)) (fun w1 hw => hw.pick [2, 3, 4] (by decide) rfl) ?_
    refine TH.only' 12 rfl (by kernel_rfl) rfl ?_
    refine TL.prowS (e := 3) (size := 1) (cs := flat (ic .i64) [x33.back - x33.at_]) rfl rfl rfl rfl rfl (fun w => adtbs106_1_5377 _ w) (by decide) rfl (fun g89 => ?_)
    refine zE ?_
    refine TX.held (fun w1 hw => hw.pick [3, 4, 5] (by decide) rfl) ?_
    refine TH.only' 13 rfl (by kernel_rfl) rfl ?_
    refine TL.appendT (k := 2) rfl rfl rfl rfl Tryz.underlying106 adtel106 rfl rfl rfl (fun w1 hw => pm_reads hw (k := 0) rfl) (flat_one (ic_cel .i64) _) (by show _ * 8 ≤ _; omega) ((la ++ [x33.back - x33.at_]).length) (by rw [List.length_append]; rfl) (flat (ic .i64) (la ++ [x33.back - x33.at_])) ((flat_app _ _).symm) (fun A90 c90 hA901 hA902 => ?_)
    refine zE ?_
    refine TX.he (fun w1 hw => hw.pick [3, 4, 5] (by decide) rfl) fun hS => ?_
    refine TH.t 14 rfl (gives_assign rfl rfl) hS ?_
    refine TH.done (by kernel_rfl) ?_
    refine zN (zT (zG (TL.mv ?_)))
    refine TL.v (gD ((i + 1 : Nat) : Int)) ?_
    refine TL.as_ ?_
    refine zE ?_
    exact TX.round (⟨(i + 1, (Ae, ce), (A90, c90), ea, la ++ [x33.back - x33.at_]), by dsimp only; omega, ear_f hx33 ⟨h35, by omega⟩ q54 hE, lar_t hx33 ⟨h35, by omega⟩ (by omega) q76 hL, by dsimp only; omega, by dsimp only; rw [List.length_append]; show la.length + 1 ≤ _; omega, hc1, hc2, hA901, hA902⟩) (by show st24.length - (i + 1) < st24.length - i; omega) ⟨rfl, rfl, rfl, rfl, rfl, rfl, rfl, trivial⟩ (fun w1 hw => hw.pick [1, 2, 3, 4, 5] (by decide) rfl)
   refine TQ.fin ?_
   refine zT (zd (zk (zN (zT (zG (TL.mv ?_))))))
   refine TL.v (gD ((i + 1 : Nat) : Int)) ?_
   refine TL.as_ ?_
   refine zE ?_
   exact TX.round (⟨(i + 1, (Ae, ce), (Al, cl), ea, la), by dsimp only; omega, ear_f hx33 ⟨h35, by omega⟩ q54 hE, lar_f hx33 ⟨h35, by omega⟩ q76 hL, by dsimp only; omega, by dsimp only; omega, hc1, hc2, hc3, hc4⟩) (by show st24.length - (i + 1) < st24.length - i; omega) ⟨rfl, rfl, rfl, rfl, rfl, rfl, rfl, trivial⟩ (fun w1 hw => hw)
  refine TQ.rn 11 rfl ?_
  refine TQ.fin ?_
  refine zT (zc (zx (zX (zM (zT (zG (TL.mv ?_)))))))
  refine TL.v (gD ((i + 1 : Nat) : Int)) ?_
  refine TL.as_ ?_
  refine zE ?_
  exact TX.round (⟨(i + 1, (Ae, ce), (Al, cl), ea, la), by dsimp only; omega, ear_skip hx33 (fun h => by rw [h.1] at h35; cases h35) hE, lar_skip hx33 (fun h => by rw [h.1] at h35; cases h35) hL, by dsimp only; omega, by dsimp only; omega, hc1, hc2, hc3, hc4⟩) (by show st24.length - (i + 1) < st24.length - i; omega) ⟨rfl, rfl, rfl, rfl, rfl, rfl, rfl, trivial⟩ (fun w1 hw => hw)
 refine zET (zd (zx (zX (zX (zM (zT (zS (zS ?_))))))))
 have hE2 : eaL (atL st24 p.ttl) p.at_ = ea := by rw [List.take_of_length_le (by omega)] at hE; exact hE
 have hL2 : laL (atL st24 p.ttl) p.at_ = la := by rw [List.take_of_length_le (by omega)] at hL; exact hL
 have hbE : ∀ z ∈ ea, 0 ≤ z ∧ z ≤ 2251799813685248 := fun z hz => by
  obtain ⟨r, hr1, rfl⟩ := ea_mem (by rw [hE2]; exact hz)
  have := hP24.in_ _ r hr1
  unfold Rs.inRange at this
  omega
 have hbL : ∀ z ∈ la, 0 ≤ z ∧ z ≤ 2251799813685248 := fun z hz => by
  obtain ⟨r, hr1, rfl⟩ := la_mem (by rw [hL2]; exact hz)
  have := hP24.in_ _ r hr1
  unfold Rs.inRange at this
  omega
 refine zG (TL.as_ ?_)
 refine zET (zB ?_)
 refine TC.loop_ (α := {j : Nat // j ≤ ea.length ∧ ∀ z ∈ ea.take j, ¬ (u.prb ≤ (((ea).filter fun z_ => decide (z_ ≤ z)).length : Int) ∧ u.prb ≤ (((la).filter fun z_ => decide (u.gro ≤ z_ - z)).length : Int))}) (fun y => [(4, .pointer (some ⟨g4, 0, none⟩)), (5, .pointer (some ⟨g5, 0, none⟩)), (6, .bool false), (7, .slice Ae ea.length ce), (8, .slice Al la.length cl), (9, .slice R24 st24.length rc24), (11, .int .i64 ((y.1 : Nat) : Int))]) (fun y => Pm w [.row (.slice Ae ea.length ce) 3 1 ea.length (flat (ic .i64) ea), .row (.slice Al la.length cl) 3 1 la.length (flat (ic .i64) la), .row (.slice R24 st24.length rc24) 65 17 st24.length (flat Rs.cells st24), .blk g5 34 p.cells, .blk g4 28 u.cells]) (fun y => ea.length - y.1) (⟨0, Nat.zero_le _, fun z hz => by rw [List.take_zero] at hz; cases hz⟩) ⟨rfl, rfl, rfl, rfl, rfl, rfl, rfl, trivial⟩ (fun w1 hw => hw) ?_
 rintro ⟨j, hj, hmj⟩
 try dsimp only at hj hmj ⊢
 refine zS (zSG (TL.rn 2 rfl (TL.v (gN Tryz.underlying106) ?_)))
 refine TL.sp bin_lss (fun q94 => ?_) (fun q94 => ?_)
 ·refine zET (zc (zk (zT (zS (zB (zS ?_))))))
  obtain ⟨ej, hej⟩ : ∃ ej, ea[j]? = some ej := ⟨_, List.getElem?_eq_getElem (by omega)⟩
  refine zG (TL.rn 2 rfl (zET (zS (zSG (TL.as_ ?_)))))
  refine zET (zB (TC.loop_ (α := {y : Nat × Nat // y.1 ≤ ea.length ∧ ((ea.take y.1).filter fun z => decide (z ≤ ej)).length = y.2 ∧ y.2 ≤ y.1}) (fun y => [(4, .pointer (some ⟨g4, 0, none⟩)), (5, .pointer (some ⟨g5, 0, none⟩)), (6, .bool false), (7, .slice Ae ea.length ce), (8, .slice Al la.length cl), (9, .slice R24 st24.length rc24), (11, .int .i64 ((j : Nat) : Int)), (13, .int .i64 0), (14, .int .i64 ((y.1.1 : Nat) : Int)), (12, .int .i64 ((y.1.2 : Nat) : Int))]) (fun y => Pm w [.row (.slice Ae ea.length ce) 3 1 ea.length (flat (ic .i64) ea), .row (.slice Al la.length cl) 3 1 la.length (flat (ic .i64) la), .row (.slice R24 st24.length rc24) 65 17 st24.length (flat Rs.cells st24), .blk g5 34 p.cells, .blk g4 28 u.cells]) (fun y => ea.length - y.1.1) (⟨(0, 0), Nat.zero_le _, rfl, Nat.le_refl _⟩) ⟨rfl, rfl, rfl, rfl, rfl, rfl, rfl, rfl, rfl, rfl, trivial⟩ (fun w1 hw => hw) ?_))
  rintro ⟨⟨a, ca⟩, ha, hca, hcaa⟩
  dsimp only at ha hca hcaa ⊢
  refine zS (zSG (TL.rn 2 rfl (TL.v (gN Tryz.underlying106) ?_)))
  refine TL.sp bin_lss (fun q100 => ?_) (fun q100 => ?_)
  ·refine zET (zc (zk (zT (zS (zB (zS (TC.fact (p := ∃ g, Ae = some ⟨g, 0, none⟩) (fun w1 hw => rowA hw (k := 0) rfl (by omega)) ?_)))))))
   rintro ⟨g_Ae, rfl⟩
   refine TC.quietQ (by kernel_rfl) (by kernel_rfl) (fun w hw => hw.drawn _) ?_
   refine TQ.rn 2 rfl ?_
   have hi105 : a < ea.length := by omega
   obtain ⟨x105, hx105⟩ := ex_at hi105
   have hvx105 := hbE x105 (List.mem_of_getElem? hx105)
   refine TQ.val rfl rfl rfl (gA (i := a) Tryz.underlying106 pcmsz3 rfl rfl rfl rfl rfl (by omega)) ?_
   refine TQ.val rfl rfl rfl (gives_load (v := .int .i64 x105) rfl rfl pcmag3 (fun w1 hw => flat_row (ic_cel .i64) hw (q := 0) rfl hx105 0 _ rfl)) ?_
   refine TQ.rn 2 rfl ?_
   have hi109 : j < ea.length := by omega
   obtain ⟨x109, hx109⟩ := ex_at hi109
   have hvx109 := hbE x109 (List.mem_of_getElem? hx109)
   have hex109 : x109 = ej := Option.some.inj (hx109.symm.trans hej)
   refine TQ.val rfl rfl rfl (gA (i := j) Tryz.underlying106 pcmsz3 rfl rfl rfl rfl rfl (by omega)) ?_
   refine TQ.val rfl rfl rfl (gives_load (v := .int .i64 x109) rfl rfl pcmag3 (fun w1 hw => flat_row (ic_cel .i64) hw (q := 0) rfl hx109 0 _ rfl)) ?_
   refine TQ.sp bin_leq (fun q111 => ?_) (fun q111 => ?_)
   ·refine TQ.fin ?_
    refine zT (zc (zG (TL.mv ?_)))
    refine TL.v (gD ((ca + 1 : Nat) : Int)) ?_
    refine TL.as_ ?_
    refine zE (zN (zT (zG (TL.mv ?_))))
    refine TL.v (gD ((a + 1 : Nat) : Int)) ?_
    refine TL.as_ ?_
    refine zE ?_
    exact TX.round (⟨(a + 1, ca + 1), by dsimp only; omega, fcnt_t (p := fun z => decide (z ≤ ej)) hx105 (by simp only [decide_eq_true_eq]; omega) hca, by dsimp only; omega⟩) (by show ea.length - (a + 1) < ea.length - a; omega) ⟨rfl, rfl, rfl, rfl, rfl, rfl, rfl, rfl, rfl, rfl, trivial⟩ (fun w1 hw => hw)
   refine TQ.fin ?_
   refine zT (zd (zk (zN (zT (zG (TL.mv ?_))))))
   refine TL.v (gD ((a + 1 : Nat) : Int)) ?_
   refine TL.as_ ?_
   refine zE ?_
   exact TX.round (⟨(a + 1, ca), by dsimp only; omega, fcnt_f (p := fun z => decide (z ≤ ej)) hx105 (by simp only [decide_eq_false_iff_not]; omega) hca, by dsimp only; omega⟩) (by show ea.length - (a + 1) < ea.length - a; omega) ⟨rfl, rfl, rfl, rfl, rfl, rfl, rfl, rfl, rfl, rfl, trivial⟩ (fun w1 hw => hw)
  refine zET (zd (zx (zX (zX (zM (zT (zS (zS ?_))))))))
  have hca2 : ((ea).filter fun z => decide (z ≤ ej)).length = ca := by rw [List.take_of_length_le (by omega)] at hca; exact hca
  refine zG (TL.as_ ?_)
  refine zET (zB (TC.loop_ (α := {y : Nat × Nat // y.1 ≤ la.length ∧ ((la.take y.1).filter fun z => decide (u.gro ≤ z - ej)).length = y.2 ∧ y.2 ≤ y.1}) (fun y => [(4, .pointer (some ⟨g4, 0, none⟩)), (5, .pointer (some ⟨g5, 0, none⟩)), (6, .bool false), (7, .slice Ae ea.length ce), (8, .slice Al la.length cl), (9, .slice R24 st24.length rc24), (11, .int .i64 ((j : Nat) : Int)), (12, .int .i64 ((ca : Nat) : Int)), (15, .int .i64 ((y.1.1 : Nat) : Int)), (13, .int .i64 ((y.1.2 : Nat) : Int))]) (fun y => Pm w [.row (.slice Ae ea.length ce) 3 1 ea.length (flat (ic .i64) ea), .row (.slice Al la.length cl) 3 1 la.length (flat (ic .i64) la), .row (.slice R24 st24.length rc24) 65 17 st24.length (flat Rs.cells st24), .blk g5 34 p.cells, .blk g4 28 u.cells]) (fun y => la.length - y.1.1) (⟨(0, 0), Nat.zero_le _, rfl, Nat.le_refl _⟩) ⟨rfl, rfl, rfl, rfl, rfl, rfl, rfl, rfl, rfl, rfl, trivial⟩ (fun w1 hw => hw) ?_))
  rintro ⟨⟨b, cb⟩, hb, hcb, hcbb⟩
  dsimp only at hb hcb hcbb ⊢
  refine zS (zSG (TL.rn 2 rfl (TL.v (gN Tryz.underlying106) ?_)))
  refine TL.sp bin_lss (fun q117 => ?_) (fun q117 => ?_)
  ·refine zET (zc (zk (zT (zS (zB (zS (TC.fact (p := ∃ g, Al = some ⟨g, 0, none⟩) (fun w1 hw => rowA hw (k := 1) rfl (by omega)) ?_)))))))
   rintro ⟨g_Al, rfl⟩
   refine TC.fact (p := ∃ g, Ae = some ⟨g, 0, none⟩) (fun w1 hw => rowA hw (k := 0) rfl (by omega)) ?_
   rintro ⟨g_Ae, rfl⟩
   refine TC.quietQ (by kernel_rfl) (by kernel_rfl) (fun w hw => hw.drawn _) ?_
   refine TQ.rn 2 rfl ?_
   have hi122 : b < la.length := by omega
   obtain ⟨x122, hx122⟩ := ex_at hi122
   have hvx122 := hbL x122 (List.mem_of_getElem? hx122)
   refine TQ.val rfl rfl rfl (gA (i := b) Tryz.underlying106 pcmsz3 rfl rfl rfl rfl rfl (by omega)) ?_
   refine TQ.val rfl rfl rfl (gives_load (v := .int .i64 x122) rfl rfl pcmag3 (fun w1 hw => flat_row (ic_cel .i64) hw (q := 1) rfl hx122 0 _ rfl)) ?_
   refine TQ.rn 2 rfl ?_
   have hi126 : j < ea.length := by omega
   obtain ⟨x126, hx126⟩ := ex_at hi126
   have hvx126 := hbE x126 (List.mem_of_getElem? hx126)
   have hex126 : x126 = ej := Option.some.inj (hx126.symm.trans hej)
   refine TQ.val rfl rfl rfl (gA (i := j) Tryz.underlying106 pcmsz3 rfl rfl rfl rfl rfl (by omega)) ?_
   refine TQ.val rfl rfl rfl (gives_load (v := .int .i64 x126) rfl rfl pcmag3 (fun w1 hw => flat_row (ic_cel .i64) hw (q := 0) rfl hx126 0 _ rfl)) ?_
   refine TQ.val rfl rfl rfl (gives_bin rfl rfl rfl (fun w => bin_sub_ (r := x122 - x126) (by simp only [IntKind.wrap_i64]; omega) w)) ?_
   refine TQ.v (gF arpfld28_1) ?_
   refine TQ.v (gL 4 pcmag3) ?_
   refine TQ.sp bin_geq (fun q131 => ?_) (fun q131 => ?_)
   ·refine TQ.fin ?_
    refine zT (zc (zG (TL.mv ?_)))
    refine TL.v (gD ((cb + 1 : Nat) : Int)) ?_
    refine TL.as_ ?_
    refine zE (zN (zT (zG (TL.mv ?_))))
    refine TL.v (gD ((b + 1 : Nat) : Int)) ?_
    refine TL.as_ ?_
    refine zE ?_
    exact TX.round (⟨(b + 1, cb + 1), by dsimp only; omega, fcnt_t (p := fun z => decide (u.gro ≤ z - ej)) hx122 (by simp only [decide_eq_true_eq]; omega) hcb, by dsimp only; omega⟩) (by show la.length - (b + 1) < la.length - b; omega) ⟨rfl, rfl, rfl, rfl, rfl, rfl, rfl, rfl, rfl, rfl, trivial⟩ (fun w1 hw => hw)
   refine TQ.fin ?_
   refine zT (zd (zk (zN (zT (zG (TL.mv ?_))))))
   refine TL.v (gD ((b + 1 : Nat) : Int)) ?_
   refine TL.as_ ?_
   refine zE ?_
   exact TX.round (⟨(b + 1, cb), by dsimp only; omega, fcnt_f (p := fun z => decide (u.gro ≤ z - ej)) hx122 (by simp only [decide_eq_false_iff_not]; omega) hcb, by dsimp only; omega⟩) (by show la.length - (b + 1) < la.length - b; omega) ⟨rfl, rfl, rfl, rfl, rfl, rfl, rfl, rfl, rfl, rfl, trivial⟩ (fun w1 hw => hw)
  refine zET (zd (zx (zX (zX (zM (zT (zS ?_)))))))
  have hcb2 : ((la).filter fun z => decide (u.gro ≤ z - ej)).length = cb := by rw [List.take_of_length_le (by omega)] at hcb; exact hcb
  refine zG (TL.mv ?_)
  refine TL.v (gF arpfld28_2) ?_
  refine TL.v (gL 4 pcmag3) ?_
  refine TL.sp bin_geq (fun q137 => ?_) (fun q137 => ?_)
  ·refine TL.rn 2 rfl (TL.ov (gF arpfld28_2) ?_)
   refine TL.ov (gL 4 pcmag3) ?_
   refine TL.gu ?_
   refine TL.sp bin_geq (fun q142 => ?_) (fun q142 => ?_)
   ·refine TL.pk ?_
    refine zET (zc (zSG (TL.as_ ?_)))
    refine zET (zr (zRR (zR (zRR ?_))))
    have hres : true = true ↔ CgP l u p := ⟨fun _ => ⟨Decidable.not_not.1 q18, .inr ⟨st24, hP24, by rw [hE2, hL2]; exact ⟨ej, List.mem_of_getElem? hej, by omega, by omega⟩⟩⟩, fun _ => rfl⟩
    exact ret_tmp Tryz.results32 rfl (fun w1 hw => ⟨⟨true, hres⟩, rfl, hw.bel⟩)
   refine TL.pk ?_
   refine zET (zd (zk (zN (zT (zG (TL.mv ?_))))))
   refine TL.v (gD ((j + 1 : Nat) : Int)) ?_
   refine TL.as_ ?_
   refine zE ?_
   exact TX.round (⟨j + 1, by omega, not_snoc hmj hej (fun h => by omega)⟩) (by show ea.length - (j + 1) < ea.length - j; omega) ⟨rfl, rfl, rfl, rfl, rfl, rfl, rfl, trivial⟩ (fun w1 hw => hw)
  refine TL.rn 6 rfl (zET (zd (zk (zN (zT (zG (TL.mv ?_)))))))
  refine TL.v (gD ((j + 1 : Nat) : Int)) ?_
  refine TL.as_ ?_
  refine zE ?_
  exact TX.round (⟨j + 1, by omega, not_snoc hmj hej (fun h => by omega)⟩) (by show ea.length - (j + 1) < ea.length - j; omega) ⟨rfl, rfl, rfl, rfl, rfl, rfl, rfl, trivial⟩ (fun w1 hw => hw)
 refine zET (zd (zx (zX (zX (zM (zT (zSG (TL.as_ ?_))))))))
 refine zET (zr ?_)
 have hres : false = true ↔ CgP l u p := ⟨fun h => (by cases h), fun ⟨_, h⟩ => absurd h (by rintro (h | ⟨y, h1, h2⟩); exact q21 h; rw [← hP24.eq h1, hE2, hL2] at h2; obtain ⟨e0, h3, h4⟩ := h2; rw [List.take_of_length_le (by omega)] at hmj; exact hmj e0 h3 h4)⟩
 exact ret_tmp Tryz.results32 rfl (fun w1 hw => ⟨⟨false, hres⟩, rfl, hw.bel⟩)
set_option maxRecDepth 20000
theorem rproves_any (A0 : Option Addr) (c0 : Nat) (l : List Rs) (A1 : Option Addr) (c1 : Nat) (es : List En) (u : Ru) (p : Rp) (w : World) (hr : Reads w w.heap.size 17 A0 l.length (flat Rs.cells l)) (hl1 : l.length ≤ 100000) (hok : ∀ r ∈ l, r.Ok) (hr1 : Reads w w.heap.size 5 A1 es.length (flat En.cells es)) (hel1 : es.length ≤ 100000) (heo : ∀ z ∈ es, z.Ok) :
  Calls Tryz.prog 38 #[.slice A0 l.length c0, .agg #[.slice A1 es.length c1], .agg u.cells.toArray, .agg p.cells.toArray] w fun e w' => ∃ x : {b : Bool // b = true ↔ PrP es l u p}, e = .returned (.bool x.1) ∧ Below w.heap.size w w' := by
 refine begin_ (vs := [.slice A0 l.length c0, .agg #[.slice A1 es.length c1], .agg u.cells.toArray, .agg p.cells.toArray]) Tryz.func38 rfl rfl rfl ?_ (Pm.start w)
 refine zSG ?_
 refine TL.pnew rfl rfl rfl (exec_box (cs := [.slice A1 es.length c1]) rfl rfl rfl) (fun g5 => ?_)
 refine TL.pnew rfl rfl rfl (exec_box (cs := u.cells) rfl rfl rfl) (fun g6 => ?_)
 refine TL.pnew rfl rfl rfl (exec_box (cs := p.cells) rfl rfl rfl) (fun g7 => ?_)
 refine TL.as_ ?_
 refine zET (zSG (TL.v (gV 1 (.agg (u.cells).toArray) aprag28 aprsz28) ?_))
 refine TL.callsplit rfl rfl rfl rfl rfl Tryz.func25 (by decide) rfl (fun w1 hw => rvldRu_any u w1) (fun h10 => ?_) (fun h10 => ?_)
 ·refine TL.mv ?_
  refine TL.ov (gV 0 (.agg (p.cells).toArray) abrag34 abrsz34) ?_
  refine TL.gu ?_
  refine TL.callsplit rfl rfl rfl rfl rfl Tryz.func28 (by decide) rfl (fun w1 hw => rvldRp_any p w1) (fun h13 => ?_) (fun h13 => ?_)
  ·refine TL.rn 2 rfl (TL.ov (gV 2 (.agg #[.slice A1 es.length c1]) breag26 bresz26) ?_)
   refine TL.gu ?_
   refine TL.callsplit rfl rfl rfl rfl rfl Tryz.func85 (by decide) rfl (fun w1 hw => rvalX_any A1 c1 es w1 (hr1.up hw.bel) hel1 heo) (fun h17 => ?_) (fun h17 => ?_)
   ·refine TL.rn 3 rfl (TL.ov (gV 1 (.agg (u.cells).toArray) aprag28 aprsz28) ?_)
    refine TL.ov (gV 0 (.agg (p.cells).toArray) abrag34 abrsz34) ?_
    refine TL.gu ?_
    refine TL.pcallPm (α := {b : Bool // b = true ↔ BhP l u p}) (fun x => .bool x.1) (fun x => []) rfl rfl rfl rfl rfl Tryz.func30 (by decide) rfl (fun w1 hw => (rblackhole_any A0 c0 l u p w1 (hr.up hw.bel) hl1 hok).mono fun en w2 ⟨x, h1, h2⟩ => ⟨x, h1, (Pm.start w1).below h2⟩) ?_
    rintro ⟨bd23, hbd23⟩
    dsimp only [List.cons_append, List.nil_append]
    cases bd23 with
    | true =>
     refine TL.rn 14 rfl (zET (zr ?_))
     exact ret_tmp Tryz.results38 rfl (fun w1 hw => ⟨⟨true, fun _ => ⟨h10, h13, h17, .inl (hbd23.1 rfl)⟩, fun _ => rfl⟩, rfl, hw.bel⟩)
    | false =>
     refine TL.rn 2 rfl (TL.ov (gV 2 (.agg #[.slice A1 es.length c1]) breag26 bresz26) ?_)
     refine TL.ov (gV 0 (.agg (p.cells).toArray) abrag34 abrsz34) ?_
     refine TL.gu ?_
     refine TL.pcallPm (α := {b : Bool // b = true ↔ DtP es l p}) (fun x => .bool x.1) (fun x => []) rfl rfl rfl rfl rfl Tryz.func36 (by decide) rfl (fun w1 hw => (rdetour_any A0 c0 l A1 c1 es p w1 (hr.up hw.bel) hl1 hok (hr1.up hw.bel) hel1 heo).mono fun en w2 ⟨x, h1, h2⟩ => ⟨x, h1, (Pm.start w1).below h2⟩) ?_
     rintro ⟨bd28, hbd28⟩
     dsimp only [List.cons_append, List.nil_append]
     refine TL.rn 1 rfl ?_
     cases bd28 with
     | true =>
      refine TL.rn 8 rfl (zET (zr ?_))
      exact ret_tmp Tryz.results38 rfl (fun w1 hw => ⟨⟨true, fun _ => ⟨h10, h13, h17, .inr (.inl (hbd28.1 rfl))⟩, fun _ => rfl⟩, rfl, hw.bel⟩)
     | false =>
      refine TL.rn 2 rfl (TL.ov (gV 1 (.agg (u.cells).toArray) aprag28 aprsz28) ?_)
      refine TL.ov (gV 0 (.agg (p.cells).toArray) abrag34 abrsz34) ?_
      refine TL.gu ?_
      refine TL.pcallPm (α := {b : Bool // b = true ↔ CgP l u p}) (fun x => .bool x.1) (fun x => []) rfl rfl rfl rfl rfl Tryz.func32 (by decide) rfl (fun w1 hw => (rcongestion_any A0 c0 l u p w1 (hr.up hw.bel) hl1 hok).mono fun en w2 ⟨x, h1, h2⟩ => ⟨x, h1, (Pm.start w1).below h2⟩) ?_
      rintro ⟨bd34, hbd34⟩
      dsimp only [List.cons_append, List.nil_append]
      refine TL.rn 3 rfl (zET (zr ?_))
      exact ret_tmp Tryz.results38 rfl (fun w1 hw => ⟨⟨bd34, fun h => ⟨h10, h13, h17, .inr (.inr (hbd34.1 h))⟩, fun ⟨_, _, _, h4⟩ => h4.elim (fun h => absurd (hbd23.2 h) (by decide)) fun h5 => h5.elim (fun h => absurd (hbd28.2 h) (by decide)) hbd34.2⟩, rfl, hw.bel⟩)
   refine TL.rn 7 rfl ?_
   refine TL.offU rfl rfl rfl rfl rfl ?_
   refine TL.offU rfl rfl rfl rfl rfl ?_
   refine TL.offU rfl rfl rfl rfl rfl ?_
   refine TL.offU rfl rfl rfl rfl rfl ?_
   refine TL.rn 2 rfl ?_
   refine TL.offU rfl rfl rfl rfl rfl ?_
   refine TL.offU rfl rfl rfl rfl rfl ?_
   refine TL.offU rfl rfl rfl rfl rfl ?_
   refine TL.offU rfl rfl rfl rfl rfl ?_
   refine TL.rn 3 rfl (zET (zr ?_))
   exact ret_tmp Tryz.results38 rfl (fun w1 hw => ⟨⟨false, fun h => (by cases h), fun h => (by have h2 := h.2.2.1; rw [h17] at h2; cases h2)⟩, rfl, hw.bel⟩)
  refine TL.rn 11 rfl ?_
  refine TL.offU rfl rfl rfl rfl rfl ?_
  refine TL.offU rfl rfl rfl rfl rfl ?_
  refine TL.offU rfl rfl rfl rfl rfl ?_
  refine TL.offU rfl rfl rfl rfl rfl ?_
  refine TL.rn 2 rfl ?_
  refine TL.offU rfl rfl rfl rfl rfl ?_
  refine TL.offU rfl rfl rfl rfl rfl ?_
  refine TL.offU rfl rfl rfl rfl rfl ?_
  refine TL.offU rfl rfl rfl rfl rfl ?_
  refine TL.rn 3 rfl (zET (zr ?_))
  exact ret_tmp Tryz.results38 rfl (fun w1 hw => ⟨⟨false, fun h => (by cases h), fun h => (by have h2 := h.2.1; rw [h13] at h2; cases h2)⟩, rfl, hw.bel⟩)
 refine TL.rn 14 rfl ?_
 refine TL.offU rfl rfl rfl rfl rfl ?_
 refine TL.offU rfl rfl rfl rfl rfl ?_
 refine TL.offU rfl rfl rfl rfl rfl ?_
 refine TL.offU rfl rfl rfl rfl rfl ?_
 refine TL.rn 2 rfl ?_
 refine TL.offU rfl rfl rfl rfl rfl ?_
 refine TL.offU rfl rfl rfl rfl rfl ?_
 refine TL.offU rfl rfl rfl rfl rfl ?_
 refine TL.offU rfl rfl rfl rfl rfl ?_
 refine TL.rn 3 rfl (zET (zr ?_))
 exact ret_tmp Tryz.results38 rfl (fun w1 hw => ⟨⟨false, fun h => (by cases h), fun h => (by have h2 := h.1; rw [h10] at h2; cases h2)⟩, rfl, hw.bel⟩)
set_option maxRecDepth 20000
theorem rp_eqn (a0 b0 : Int) (a1 b1 : Int) (a2 b2 : Int) (a3 b3 : Int) (a4 b4 : Int) (a5 b5 : Int) (a6 b6 : Int) (a7 b7 : Int) (w : World) : (Op.equalIn 10000 34 (.agg #[.int .i64 a0, .int .i64 a1, .int .u32 a2, .int .i64 a3, .int .i64 a4, .int .i64 a5, .int .i64 a6, .int .i64 a7]) (.agg #[.int .i64 b0, .int .i64 b1, .int .u32 b2, .int .i64 b3, .int .i64 b4, .int .i64 b5, .int .i64 b6, .int .i64 b7])).run Tryz.prog w = .ok (decide (a0 = b0 ∧ a1 = b1 ∧ a2 = b2 ∧ a3 = b3 ∧ a4 = b4 ∧ a5 = b5 ∧ a6 = b6 ∧ a7 = b7)) w := by
  have hS : Tryz.prog.underlying 34 = some (.struct (Tryz.prog.fieldsOf 34)) := by kernel_rfl
  have hp : Tryz.prog.stoodInHeld 34 = false := by kernel_rfl
  rw [show (10000 : Nat) = 9999 + 1 from rfl, run_equalIn_agg w 9999 34 _ _ hS hp]
  simp only [Program.fieldsOf, Tryz.underlying34]
  have uI := Tryz.underlying3
  have aI := Tryz.isAgg3
  have zI := Tryz.sizeOf3
  have aT := Tryz.isAgg32
  have zT := Tryz.sizeOf32
  have eT := fun x y x1 y1 x2 y2 => trc_eqn x y x1 y1 x2 y2 9997
  go_simp
  by_cases h0 : a0 = b0
  rotate_left
  · simp [h0]
  subst h0
  by_cases h4 : a4 = b4
  rotate_left
  · simp [h4]
  subst h4
  by_cases h5 : a5 = b5
  rotate_left
  · simp [h5]
  subst h5
  by_cases h6 : a6 = b6
  rotate_left
  · simp [h6]
  subst h6
  by_cases h1 : a1 = b1 <;> by_cases h2 : a2 = b2 <;> by_cases h3 : a3 = b3 <;> by_cases h7 : a7 = b7 <;> simp [h1, h2, h3, h7]
theorem rp_eq (x y : Rp) : (x = y) ↔ x.kind = y.kind ∧ x.v = y.v ∧ x.dst = y.dst ∧ x.proto = y.proto ∧ x.flow = y.flow ∧ x.ttl = y.ttl ∧ x.at_ = y.at_ ∧ x.prov = y.prov := by
  cases x; cases y; simp
theorem rp_eql (x y : Rp) (ox oy : Operand) (w : World) : (do eqGuard .eql 34 ox oy (.agg x.cells.toArray) (.agg y.cells.toArray); binOp .eql 34 (.agg x.cells.toArray) (.agg y.cells.toArray) : Sem Value).run Tryz.prog w = .ok (.bool (decide (x = y))) w := by
  rw [Sem.run_bind, run_eqGuard_agg w .eql 34 ox oy _ _ (by kernel_rfl), Result.andThen_ok, run_eql_struct]
  have h := rp_eqn x.kind y.kind x.v y.v x.dst y.dst x.proto y.proto x.flow y.flow x.ttl y.ttl x.at_ y.at_ x.prov y.prov w
  have h2 : (Op.equalIn 10000 34 (.agg x.cells.toArray) (.agg y.cells.toArray)).run Tryz.prog w = .ok (decide (x.kind = y.kind ∧ x.v = y.v ∧ x.dst = y.dst ∧ x.proto = y.proto ∧ x.flow = y.flow ∧ x.ttl = y.ttl ∧ x.at_ = y.at_ ∧ x.prov = y.prov)) w := h
  rw [h2, Result.andThen_ok, decide_eq_decide.2 (rp_eq x y)]
theorem rp_neq (x y : Rp) (ox oy : Operand) (w : World) : (do eqGuard .neq 34 ox oy (.agg x.cells.toArray) (.agg y.cells.toArray); binOp .neq 34 (.agg x.cells.toArray) (.agg y.cells.toArray) : Sem Value).run Tryz.prog w = .ok (.bool (!decide (x = y))) w := by
  rw [Sem.run_bind, run_eqGuard_agg w .neq 34 ox oy _ _ (by kernel_rfl), Result.andThen_ok, run_neq_struct]
  have h := rp_eqn x.kind y.kind x.v y.v x.dst y.dst x.proto y.proto x.flow y.flow x.ttl y.ttl x.at_ y.at_ x.prov y.prov w
  have h2 : (Op.equalIn 10000 34 (.agg x.cells.toArray) (.agg y.cells.toArray)).run Tryz.prog w = .ok (decide (x.kind = y.kind ∧ x.v = y.v ∧ x.dst = y.dst ∧ x.proto = y.proto ∧ x.flow = y.flow ∧ x.ttl = y.ttl ∧ x.at_ = y.at_ ∧ x.prov = y.prov)) w := h
  rw [h2, Result.andThen_ok, decide_eq_decide.2 (rp_eq x y)]
theorem rp_neqd (x y : Rp) (ox oy : Operand) (w : World) : (do eqGuard .neq 34 ox oy (.agg x.cells.toArray) (.agg y.cells.toArray); binOp .neq 34 (.agg x.cells.toArray) (.agg y.cells.toArray) : Sem Value).run Tryz.prog w = .ok (.bool (decide (x ≠ y))) w := by
  rw [decide_not]; exact rp_neq x y ox oy w
section
variable {P : Program} {N : Fr} {Q : Exit → Act → World → Prop} {E : Env} {w0 : Base} {L : List Pc} {ops : Array Oper} {l : List Oper} {o : Oper}
theorem TL.appendF {d : Nat} {s x : Operand} {t u e e' : TypeId} {size bytes n c m cc g : Nat} {A : Option Addr} {olds news : List Value} (hg : o.guard = none) (hd : o.dst = some d) (hN : Nat.blt d N.n = true)
    (ho : o.op = .call { callee := .builtin .append, args := #[s, x], argTypes := #[t, u] }) (hu : P.underlying u = some (.slice e')) (hE : Elem P t e size bytes) (hs : ev E s = some (.slice (some ⟨g, 0, none⟩) n c)) (hx : ev E x = some (.slice A m cc))
    (hro : ∀ w, Pm w0 L w → ∃ B, Reads w B size (some ⟨g, 0, none⟩) n olds) (hr : ∀ w, Pm w0 L w → ∃ B, Reads w B size A m news) (hm : 0 < m) (hc : c < n + m) (hlim : (n + m) * bytes ≤ 140737488355328) (M : Nat) (hM : M = n + m) (res : List Value) (hres : olds ++ news = res)
    (h : ∀ A' c', M ≤ c' → c' ≤ maxLen → TL P N ops Q l ((d, .slice A' M c') :: E) (Pm w0 (.row (.slice A' M c') e size M res :: L))) : TL P N ops Q (o :: l) E (Pm w0 L) := by
  subst hM hres
  refine TL.run (α := { p : Option Addr × Nat // n + m ≤ p.2 ∧ p.2 ≤ maxLen }) (r := fun p => .slice p.1.1 (n + m) p.1.2) (I' := fun p => Pm w0 (.row (.slice p.1.1 (n + m) p.1.2) e size (n + m) (olds ++ news) :: L)) hg hd hN (fun a w ha hw => ?_) (fun p => h p.1.1 p.1.2 p.2.1 p.2.2)
  obtain ⟨i, z, hi, hz, hsz, hby, hzs⟩ := hE.info
  subst hsz hby
  obtain ⟨B1, h1, h2⟩ := hro w hw
  obtain ⟨B2, h3, h4⟩ := hr w hw
  obtain ⟨ad, rfl, _, h5⟩ := h4 hm
  have hmx : n + m ≤ maxLen := by
    have : n + m ≤ (n + m) * i.bytes := Nat.le_mul_of_pos_right _ hE.big
    unfold maxLen; omega
  have holds : ∀ j v, olds[j]? = some v → w.cell? ((⟨g, 0, none⟩ : Addr).add j) = some v := by
    intro j v hv
    rcases Nat.eq_zero_or_pos n with h0 | h0
    · subst h0
      have : olds = [] := List.eq_nil_of_length_eq_zero (by simpa using h1)
      rw [this] at hv; simp at hv
    · obtain ⟨ad, he, _, h6⟩ := h2 h0
      injection he with he
      subst he
      exact h6 j v hv
  have hrun := run_append_grow (P := P) w t o.type e i z hE.und hi hz ⟨g, 0, none⟩ n c olds h1 holds ad m cc news h3 h5 hc (by unfold maxLen at hmx; omega) (growslice_fits (by omega) hlim)
  rw [← append_types hE.und hu] at hrun
  have hge := grownCap_ge w (n + m) c e
  have hcm := grownCap_le_maxLen w (n + m) c e hmx
  refine ⟨⟨(some ⟨w.heap.size, 0, none⟩, grownCap w (n + m) c e), hge, hcm⟩, _, ?_, hw.add (w' := (w.drew.alloc (.cells (olds.toArray ++ news.toArray ++ Builtin.zeroCells z.cells (grownCap w (n + m) c e - (n + m))) e))) ?_ ⟨?_, .inr ⟨w.heap.size, _, _, rfl, Nat.le_refl _, heap_alloc_new w.drew _, hge, hcm, ?_, ?_⟩⟩⟩
  · unfold execOp; rw [ho]
    simp only [resolve, invoke, builtin, Sem.run_bind, Sem.run_pure, Result.andThen_ok, List.map_toArray, List.map_cons, List.map_nil, ha.eval hs, ha.eval hx, hrun]
  · have hb : Below w.heap.size w w.drew := ⟨rfl, rfl, rfl, Nat.le_refl _, fun _ _ => rfl⟩
    exact hb.alloc (Nat.le_refl _) _
  · rw [List.length_append, h1, h3, Nat.add_mul]
  · simp only [Array.size_append, List.size_toArray, size_zeroCells, hzs, h1, h3, ← Nat.add_mul]
    congr 1
    omega
  · have hlen : (olds ++ news).length = (n + m) * i.size := by rw [List.length_append, h1, h3, Nat.add_mul]
    simp only [Array.toList_append, List.append_assoc]
    rw [← List.append_assoc, ← hlen]
    exact List.take_left
theorem gives_appZ {s x : Operand} {t u e e' : TypeId} {size bytes n c cc : Nat} {g : Addr} {A : Option Addr} {I : World → Prop}
    (ho : o.op = .call { callee := .builtin .append, args := #[s, x], argTypes := #[t, u] }) (hu : P.underlying u = some (.slice e')) (hE : Elem P t e size bytes) (hs : ev E s = some (.slice (some g) n c)) {q : Nat} (hx : ev E x = some (.slice A q cc)) (hq : q = 0) (hnc : n ≤ c) : Gives P N o E I (.slice (some g) n c) := fun a w ha _ => by
  subst hq
  obtain ⟨i, z, hi, hz, hsz, hby, hzs⟩ := hE.info
  have hrun : (Builtin.append_ #[t, t] o.type #[.slice (some g) n c, .slice A 0 cc]).run P w = .ok (.slice (some g) n c) w := by
    rcases A with _ | ad <;> simp [Builtin.append_, run_underlying hE.und, sizeOf, typeInfo, hi, Builtin.lenOf, hnc, Builtin.firstCells, loadCells, loadCellsFrom, storeCells]
  rw [← append_types hE.und hu] at hrun
  unfold execOp; rw [ho]
  simp only [resolve, invoke, builtin, Sem.run_bind, Sem.run_pure, Result.andThen_ok, List.map_toArray, List.map_cons, List.map_nil, ha.eval hs, ha.eval hx, hrun]
theorem gives_sliceHM {t : TypeId} {size : Nat} {x hi mx : Operand} {A : Option Addr} {n c j m : Nat} {I : World → Prop} (ho : o.op = .slice t x none (some hi) (some mx)) (hx : ev E x = some (.slice A n c)) (hh : ev E hi = some (.int .i64 ((j : Nat) : Int))) (hm : ev E mx = some (.int .i64 ((m : Nat) : Int)))
    (ht : P.underlying t = some (.slice (P.elem t))) (hs : ∀ w : World, (sizeOf (P.elem t)).run P w = .ok size w) (h2 : j ≤ m) (h3 : m ≤ c) : Gives P N o E I (.slice A j m) := fun a w ha _ => by
  unfold execOp; rw [ho]
  simp only [Option.map_some, Option.map_none, ha.eval hx, ha.eval hh, ha.eval hm, run_sliceAt_slice w t _ _ _ _ ht, run_slice_hm w t A n c ht .i64 .i64 ((j : Nat) : Int) ((m : Nat) : Int) (by omega) (by omega) (by omega), hs, Result.andThen_ok, Sem.run_bind, Sem.run_pure, sliced, Int.toNat_natCast, Nat.sub_zero, Nat.zero_mul]
  cases A with
  | none => simp
  | some a => simp [addr_zero]
end
set_option maxRecDepth 20000
def HasP (l : List Rp) (p : Rp) : Prop := ∃ q ∈ l, q.cand = p.cand ∧ q.at_ ≤ p.at_
def PutOk (o : List Rp) (p : Rp) (y : List Rp) : Prop := ∃ (o1 : List Rp) (k : Nat), AscK Rp.keys o1 ∧ (∀ x, x ∈ o1 ↔ x ∈ o ∧ x.cand ≠ p.cand) ∧ (∀ z ∈ o1.take k, lexI z.keys p.keys < 0) ∧ (∀ z ∈ o1.drop k, lexI p.keys z.keys < 0) ∧ y = o1.take k ++ p :: o1.drop k
theorem IsMin.putOk {P S : Rp → Prop} {o y : List Rp} {p : Rp} (h : IsMin P S o) (h0 : ∀ p, P p → 0 ≤ p.at_) (hP : P p) (hn : ∀ q ∈ o, q.cand = p.cand → p.at_ < q.at_) (hy : PutOk o p y) : IsMin P (fun x => S x ∨ x = p) y := by
 obtain ⟨o1, k, h1, h2, h3, h4, rfl⟩ := hy
 exact h.put h0 hP hn h1 h2 h3 h4
section
variable {o : List Rp} {p z : Rp} {i k : Nat}
theorem erase_asc (ho : AscK Rp.keys o) (i : Nat) : AscK Rp.keys (o.take i ++ o.drop (i + 1)) := by
 have h : (o.take i ++ o.drop (i + 1)).Sublist o := by
  have := (List.Sublist.refl (o.take i)).append (List.drop_sublist 1 (o.drop i))
  rw [List.drop_drop, List.take_append_drop] at this
  exact this
 exact List.Pairwise.sublist h ho
theorem erase_like (ho : AscK Rp.keys o) (huq : ∀ x ∈ o, ∀ y ∈ o, x.cand = y.cand → x = y) (hx : o[i]? = some z) (hc : z.cand = p.cand) : ∀ x, x ∈ o.take i ++ o.drop (i + 1) ↔ x ∈ o ∧ x.cand ≠ p.cand := by
 have hd : o.drop i = z :: o.drop (i + 1) := by obtain ⟨hlt, e⟩ := List.getElem?_eq_some_iff.1 hx; rw [List.drop_eq_getElem_cons hlt, e]
 have hs : o = o.take i ++ z :: o.drop (i + 1) := by rw [← hd, List.take_append_drop]
 have ho' := ho
 unfold AscK at ho'
 rw [hs] at ho'
 obtain ⟨h1, h2, h3⟩ := List.pairwise_append.1 ho'
 have hz : z ∈ o := List.mem_of_getElem? hx
 have key : ∀ x, x ∈ o.take i ++ o.drop (i + 1) → x ∈ o ∧ x ≠ z := fun x hx => by
  rcases List.mem_append.1 hx with h | h
  ·exact ⟨List.mem_of_mem_take h, fun e => by subst e; exact absurd (h3 x h x List.mem_cons_self) (ltK_irrefl _)⟩
  exact ⟨List.mem_of_mem_drop h, fun e => by subst e; exact absurd ((List.pairwise_cons.1 h2).1 x h) (ltK_irrefl _)⟩
 intro x
 constructor
 ·intro h
  obtain ⟨h4, h5⟩ := key x h
  exact ⟨h4, fun h6 => h5 (huq x h4 z hz (h6.trans hc.symm))⟩
 rintro ⟨h4, h5⟩
 rw [hs] at h4
 rcases List.mem_append.1 h4 with h | h
 ·exact List.mem_append_left _ h
 rcases List.mem_cons.1 h with h | h
 ·subst h; exact absurd hc h5
 exact List.mem_append_right _ h
theorem all_unlike (h : ∀ z ∈ o, z.cand ≠ p.cand) : ∀ x, x ∈ o ↔ x ∈ o ∧ x.cand ≠ p.cand := fun x => ⟨fun h1 => ⟨h1, h x h1⟩, fun h1 => h1.1⟩
theorem rp_lt (hz : z.Ok) (hp : p.Ok) (h : orP (pairsP z p) < 0) : lexI z.keys p.keys < 0 := by rw [pairsP_cmp hz hp] at h; exact h
theorem rp_gt (hz : z.Ok) (hp : p.Ok) (h : ¬ orP (pairsP z p) < 0) (hne : z.cand ≠ p.cand) : lexI p.keys z.keys < 0 := by
 rw [pairsP_cmp hz hp] at h
 have h1 : lexI z.keys p.keys ≠ 0 := fun h0 => hne (by rw [rpk_inj ((lexI_zero (a := z.keys) (b := p.keys) rfl).1 h0)])
 have h2 : ¬ lexI z.keys p.keys < 0 := h
 exact (posK rpk_len).1 (by omega)
theorem put_done (y : List Rp) {o1 : List Rp} (h1 : AscK Rp.keys o1) (h2 : ∀ x, x ∈ o1 ↔ x ∈ o ∧ x.cand ≠ p.cand) (h3 : ∀ z ∈ o1.take k, lexI z.keys p.keys < 0) (h4 : ∀ z ∈ o1.drop k, lexI p.keys z.keys < 0) (hy : y = o1.take k ++ p :: o1.drop k) : PutOk o p y := ⟨o1, k, h1, h2, h3, h4, hy⟩
end
theorem like_any (p q : Rp) (w : World) :
  Calls Tryz.prog 148 #[.agg p.cells.toArray, .agg q.cells.toArray] w fun e w' => e = .returned (.bool (decide (p.when q.at_ = q))) ∧ Below w.heap.size w w' := by
 refine begin_ (vs := [.agg p.cells.toArray, .agg q.cells.toArray]) Tryz.func148 rfl rfl rfl ?_ (Pm.start w)
 refine zSG ?_
 refine TL.pnew rfl rfl rfl (exec_box (cs := p.cells) rfl rfl rfl) (fun g2 => ?_)
 refine TL.pnew rfl rfl rfl (exec_box (cs := q.cells) rfl rfl rfl) (fun g3 => ?_)
 refine TL.as_ ?_
 refine zET (zSG (TL.v (gF arpfld34_4) ?_))
 refine TL.v (gL 0 pcmag3) ?_
 refine TL.v (gF arpfld34_4) ?_
 refine TL.pstore (k := 1) (vs := [.int .i64 q.at_]) rfl rfl rfl rfl rfl rfl rfl pcmsz3 aeaone_i64 (by show 7 ≤ 8; decide) rfl ?_
 refine zET (zSG (TL.v (gV 1 (.agg #[.int .i64 p.kind, .int .i64 p.v, .int .u32 p.dst, .int .i64 p.proto, .int .i64 p.flow, .int .i64 p.ttl, .int .i64 q.at_, .int .i64 p.prov]) abrag34 abrsz34) ?_))
 refine TL.v (gV 0 (.agg (q.cells).toArray) abrag34 abrsz34) ?_
 refine TL.vsplit rfl rfl rfl (gives_bin2 rfl rfl rfl (fun w => rp_eql (⟨p.kind, p.v, p.dst, p.proto, p.flow, p.ttl, q.at_, p.prov⟩ : Rp) q _ _ w)) (fun h10 => ?_) (fun h10 => ?_)
 ·have q10 := of_decide_eq_true h10
  refine TL.as_ ?_
  refine zET (zr ?_)
  have hE : (decide (p.when q.at_ = q)) = true := (by simp [Rp.when, q10])
  exact ret_tmp Tryz.results148 rfl (fun w1 hw => ⟨by rw [hE]; try rfl, hw.bel⟩)
 have q10 := of_decide_eq_false h10
 refine TL.as_ ?_
 refine zET (zr ?_)
 have hE : (decide (p.when q.at_ = q)) = false := (by simp [Rp.when, q10])
 exact ret_tmp Tryz.results148 rfl (fun w1 hw => ⟨by rw [hE]; try rfl, hw.bel⟩)
theorem not_snocP {α : Type} {y : List α} {P : α → Prop} {i : Nat} {x : α} (h : ∀ z ∈ y.take i, ¬ P z) (hx : y[i]? = some x) (hn : ¬ P x) : ∀ z ∈ y.take (i + 1), ¬ P z := fun z hz => by
 rw [List.take_add_one, hx, List.mem_append] at hz
 rcases hz with h1 | h1
 ·exact h z h1
 rw [show z = x by simpa using h1]; exact hn
theorem has_any (A0 : Option Addr) (c0 : Nat) (l : List Rp) (p : Rp) (w : World) (hr : Reads w w.heap.size 8 A0 l.length (flat Rp.cells l)) (hl1 : l.length ≤ 1000000) :
  Calls Tryz.prog 97 #[.slice A0 l.length c0, .agg p.cells.toArray] w fun e w' => ∃ x : {b : Bool // b = true ↔ HasP l p}, e = .returned (.bool x.1) ∧ Below w.heap.size w w' := by
 refine begin_ (vs := [.slice A0 l.length c0, .agg p.cells.toArray]) Tryz.func97 rfl rfl rfl ?_ (Pm.start w)
 refine zSG ?_
 refine TL.pnew rfl rfl rfl (exec_box (cs := p.cells) rfl rfl rfl) (fun g3 => ?_)
 refine TL.as_ ?_
 refine zET (zS (zSG (TL.as_ ?_)))
 refine zET (zB ?_)
 refine TC.loop_ (α := {i : Nat // i ≤ l.length ∧ ∀ z ∈ l.take i, ¬ (z.cand = p.cand ∧ z.at_ ≤ p.at_)}) (fun y => [(0, .slice A0 l.length c0), (3, .pointer (some ⟨g3, 0, none⟩)), (4, .bool false), (5, .int .i64 ((y.1 : Nat) : Int))]) (fun y => Pm w [.blk g3 34 p.cells]) (fun y => l.length - y.1) (⟨0, Nat.zero_le _, fun z hz => by rw [List.take_zero] at hz; cases hz⟩) ⟨rfl, rfl, rfl, rfl, trivial⟩ (fun w1 hw => hw) ?_
 rintro ⟨i, hi, hma⟩
 try dsimp only at hi hma ⊢
 refine zS (zSG (TL.rn 2 rfl (TL.v (gN Tryz.underlying49) ?_)))
 refine TL.vsplit rfl rfl rfl (gives_bin rfl rfl rfl (fun w => bin_lss w)) (fun h9 => ?_) (fun h9 => ?_)
 ·have q9 := of_decide_eq_true h9
  refine zET (zc (zk (zT (zS (zB (zS (TC.quietQ (by kernel_rfl) (by kernel_rfl) (fun w hw => hw.drawn _) ?_)))))))
  refine TQ.rn 2 rfl ?_
  have hi14 : i < l.length := by omega
  obtain ⟨x14, hx14⟩ := ex_at hi14
  obtain ⟨b14, o14, hA14, hbb14, hc14⟩ := hr.ad (by omega) (by decide)
  refine TQ.val rfl rfl rfl (gA (i := i) Tryz.underlying49 abrsz34 rfl rfl rfl rfl hA14 (by omega)) ?_
  refine TQ.v (gR rp_cel abrag34 abrsz34 hbb14 hx14 hc14) ?_
  refine TQ.v (gV 0 (.agg (p.cells).toArray) abrag34 abrsz34) ?_
  refine TQ.callsplit rfl rfl rfl rfl rfl Tryz.func148 (by decide) rfl (fun w1 hw => like_any x14 p w1) (fun h17 => ?_) (fun h17 => ?_)
  ·refine TQ.rn 3 rfl ?_
   refine TQ.on rfl rfl rfl ?_
   refine TQ.val rfl rfl rfl (gA (i := i) Tryz.underlying49 abrsz34 rfl rfl rfl rfl hA14 (by omega)) ?_
   refine TQ.ov (gF arpfld34_4) ?_
   refine TQ.ov (gS 6 rp_cel pcmag3 hbb14 hx14 hc14) ?_
   refine TQ.ov (gF arpfld34_4) ?_
   refine TQ.ov (gL 0 pcmag3) ?_
   refine TQ.on rfl rfl rfl ?_
   refine TQ.sp bin_leq (fun q26 => ?_) (fun q26 => ?_)
   ·refine TQ.val rfl rfl rfl (gives_pick rfl rfl rfl) ?_
    refine TQ.fin ?_
    refine zT (zc (zSG (TL.as_ ?_)))
    refine zET (zr (zRR (zR (zRR ?_))))
    exact ret_tmp Tryz.results97 rfl (fun w1 hw => ⟨⟨true, fun _ => ⟨x14, List.mem_of_getElem? hx14, like_iff.1 (of_decide_eq_true h17), by omega⟩, fun _ => rfl⟩, rfl, hw.bel⟩)
   refine TQ.val rfl rfl rfl (gives_pick rfl rfl rfl) ?_
   refine TQ.fin ?_
   refine zT (zd (zk (zN (zT (zG (TL.mv ?_))))))
   refine TL.v (gD ((i + 1 : Nat) : Int)) ?_
   refine TL.as_ ?_
   refine zE ?_
   exact TX.round (⟨i + 1, by omega, not_snocP hma hx14 (fun h => q26 h.2)⟩) (by show l.length - (i + 1) < l.length - i; omega) ⟨rfl, rfl, rfl, rfl, trivial⟩ (fun w1 hw => hw)
  refine TQ.rn 10 rfl ?_
  refine TQ.fin ?_
  refine zT (zd (zk (zN (zT (zG (TL.mv ?_))))))
  refine TL.v (gD ((i + 1 : Nat) : Int)) ?_
  refine TL.as_ ?_
  refine zE ?_
  exact TX.round (⟨i + 1, by omega, not_snocP hma hx14 (fun h => absurd (like_iff.2 h.1) (of_decide_eq_false h17))⟩) (by show l.length - (i + 1) < l.length - i; omega) ⟨rfl, rfl, rfl, rfl, trivial⟩ (fun w1 hw => hw)
 have q9 := of_decide_eq_false h9
 refine zET (zd (zx (zX (zX (zM (zT (zSG (TL.as_ ?_))))))))
 refine zET (zr ?_)
 rw [List.take_of_length_le (by omega)] at hma
 exact ret_tmp Tryz.results97 rfl (fun w1 hw => ⟨⟨false, fun h => (by cases h), fun ⟨q, h1, h2⟩ => absurd h2 (hma q h1)⟩, rfl, hw.bel⟩)
theorem sameRp_any (A0 : Option Addr) (c0 : Nat) (l : List Rp) (A1 : Option Addr) (c1 : Nat) (m : List Rp) (w : World) (hr : Reads w w.heap.size 8 A0 l.length (flat Rp.cells l)) (hl1 : l.length ≤ 1000000) (hr1 : Reads w w.heap.size 8 A1 m.length (flat Rp.cells m)) (hl2 : m.length ≤ 1000000) :
  Calls Tryz.prog 41 #[.slice A0 l.length c0, .slice A1 m.length c1] w fun e w' => ∃ x : {b : Bool // b = true ↔ l = m}, e = .returned (.bool x.1) ∧ Below w.heap.size w w' := by
 refine begin_ (vs := [.slice A0 l.length c0, .slice A1 m.length c1]) Tryz.func41 rfl rfl rfl ?_ (Pm.start w)
 refine zSG (TL.as_ ?_)
 refine zET (zS (zSG (TL.mv ?_)))
 refine TL.v (gN Tryz.underlying49) ?_
 refine TL.mv ?_
 refine TL.v (gN Tryz.underlying49) ?_
 refine TL.sp bin_neq (fun q10 => ?_) (fun q10 => ?_)
 ·refine zET (zc (zSG (TL.as_ ?_)))
  refine zET (zr (zR ?_))
  exact ret_tmp Tryz.results41 rfl (fun w1 hw => ⟨⟨false, by constructor; intro h; cases h; intro h; exact absurd (by rw [h]) q10⟩, rfl, hw.bel⟩)
 refine zET (zd (zk (zT (zS (zSG (TL.as_ ?_))))))
 refine zET (zB ?_)
 refine TC.loop_ (α := {i : Nat // i ≤ l.length ∧ l.take i = m.take i}) (fun y => [(0, .slice A0 l.length c0), (1, .slice A1 m.length c1), (4, .bool false), (5, .int .i64 ((y.1 : Nat) : Int))]) (fun y => Pm w []) (fun y => l.length - y.1) (⟨0, Nat.zero_le _, by rw [List.take_zero, List.take_zero]⟩) ⟨rfl, rfl, rfl, rfl, trivial⟩ (fun w1 hw => hw) ?_
 rintro ⟨i, hi, hma⟩
 try dsimp only at hi hma ⊢
 refine zS (zSG (TL.rn 2 rfl (TL.v (gN Tryz.underlying49) ?_)))
 refine TL.sp bin_lss (fun q14 => ?_) (fun q14 => ?_)
 ·refine zET (zc (zk (zT (zS (zB (zS (TC.quietQ (by kernel_rfl) (by kernel_rfl) (fun w hw => hw.drawn _) ?_)))))))
  refine TQ.rn 2 rfl ?_
  have hi19 : i < l.length := by omega
  obtain ⟨x19, hx19⟩ := ex_at hi19
  obtain ⟨b19, o19, hA19, hbb19, hc19⟩ := hr.ad (by omega) (by decide)
  refine TQ.val rfl rfl rfl (gA (i := i) Tryz.underlying49 abrsz34 rfl rfl rfl rfl hA19 (by omega)) ?_
  refine TQ.v (gR rp_cel abrag34 abrsz34 hbb19 hx19 hc19) ?_
  refine TQ.rn 2 rfl ?_
  have hi23 : i < m.length := by omega
  obtain ⟨x23, hx23⟩ := ex_at hi23
  obtain ⟨b23, o23, hA23, hbb23, hc23⟩ := hr1.ad (by omega) (by decide)
  refine TQ.val rfl rfl rfl (gA (i := i) Tryz.underlying49 abrsz34 rfl rfl rfl rfl hA23 (by omega)) ?_
  refine TQ.v (gR rp_cel abrag34 abrsz34 hbb23 hx23 hc23) ?_
  refine TQ.vsplit rfl rfl rfl (gives_bin2 rfl rfl rfl (fun w => rp_neqd x19 x23 _ _ w)) (fun h25 => ?_) (fun h25 => ?_)
  ·have q25 := of_decide_eq_true h25
   refine TQ.fin ?_
   refine zT (zc (zSG (TL.as_ ?_)))
   refine zET (zr (zRR (zR (zRR ?_))))
   exact ret_tmp Tryz.results41 rfl (fun w1 hw => ⟨⟨false, by constructor; intro h; cases h; intro h; subst h; exact absurd (Option.some.inj (hx19.symm.trans hx23)) q25⟩, rfl, hw.bel⟩)
  have q25 := of_decide_eq_false h25
  refine TQ.fin ?_
  refine zT (zd (zk (zN (zT (zG (TL.mv ?_))))))
  refine TL.v (gD ((i + 1 : Nat) : Int)) ?_
  refine TL.as_ ?_
  refine zE ?_
  exact TX.round (⟨i + 1, by omega, by rw [List.take_add_one, List.take_add_one, hma, hx19, hx23, Decidable.not_not.1 q25]⟩) (by show l.length - (i + 1) < l.length - i; omega) ⟨rfl, rfl, rfl, rfl, trivial⟩ (fun w1 hw => hw)
 refine zET (zd (zx (zX (zX (zM (zT (zSG (TL.as_ ?_))))))))
 refine zET (zr ?_)
 exact ret_tmp Tryz.results41 rfl (fun w1 hw => ⟨⟨true, by constructor; intro _; rw [List.take_of_length_le (by omega), List.take_of_length_le (by omega)] at hma; exact hma; intro _; rfl⟩, rfl, hw.bel⟩)
set_option maxRecDepth 20000
theorem mem_take_of {α : Type} {l : List α} {k i : Nat} {x : α} (h : l[k]? = some x) (hk : k < i) : x ∈ l.take i := by
 apply List.mem_of_getElem? (i := k)
 rw [List.getElem?_take_of_lt hk]; exact h
theorem drop_take_sub {α : Type} {l : List α} {k i : Nat} {z : α} (h : z ∈ (l.take i).drop k) : z ∈ l.drop k := by
 rw [List.drop_take] at h
 exact List.mem_of_mem_take h
theorem put_any (w0 : Base) (F : List Pc) (A0 : Option Addr) (m c0 : Nat) (o : List Rp) (p : Rp) (w : World) (hw0 : Pm w0 ([.row (.slice A0 m c0) 34 8 m (flat Rp.cells o)] ++ F) w) (hm : o.length = m) (hm1 : m ≤ 1000000) (hmc : m ≤ c0) (hcm : c0 ≤ maxLen) (ho : AscK Rp.keys o) (huq : ∀ x ∈ o, ∀ y ∈ o, x.cand = y.cand → x = y) (hok : ∀ z ∈ o, z.Ok) (hp : p.Ok) (hlate : ∀ q ∈ o, q.cand = p.cand → p.at_ < q.at_) :
  Calls Tryz.prog 98 #[.slice A0 m c0, .agg p.cells.toArray] w fun e w' => ∃ y : {y : (Option Addr × Nat) × List Rp // PutOk o p y.2 ∧ y.2.length ≤ m + 1 ∧ y.2.length ≤ y.1.2 ∧ y.1.2 ≤ maxLen}, e = .returned (.slice y.1.1.1 y.1.2.length y.1.1.2) ∧ Pm w0 ([.row (.slice y.1.1.1 y.1.2.length y.1.1.2) 34 8 y.1.2.length (flat Rp.cells y.1.2)] ++ F) w' := by
 refine begin_ (vs := [.slice A0 m c0, .agg p.cells.toArray]) (I := Pm w0 ([.row (.slice A0 m c0) 34 8 m (flat Rp.cells o)] ++ F)) Tryz.func98 rfl rfl rfl ?_ hw0
 refine zSG ?_
 refine TL.pnew rfl rfl rfl (exec_box (cs := p.cells) rfl rfl rfl) (fun g3 => ?_)
 refine TL.as_ ?_
 refine zET (zS (zSG (TL.as_ ?_)))
 refine zET (zB ?_)
 refine TC.loop_ (α := {i : Nat // i ≤ m ∧ ∀ z ∈ o.take i, ¬ z.cand = p.cand}) (fun y => [(0, .slice A0 m c0), (3, .pointer (some ⟨g3, 0, none⟩)), (5, .int .i64 ((y.1 : Nat) : Int))]) (fun y => Pm w0 ([.blk g3 34 p.cells, .row (.slice A0 m c0) 34 8 m (flat Rp.cells o)] ++ F)) (fun y => m - y.1) (⟨0, Nat.zero_le _, fun z hz => by rw [List.take_zero] at hz; cases hz⟩) ⟨rfl, rfl, rfl, trivial⟩ (fun w1 hw => hw) ?_
 rintro ⟨i, hi, hma⟩
 try dsimp only at hi hma ⊢
 refine zS (zSG (TL.rn 2 rfl (TL.v (gN Tryz.underlying49) ?_)))
 refine TL.sp bin_lss (fun q10 => ?_) (fun q10 => ?_)
 ·refine zET (zc (zk (zT (zS (zB (zS (zS (TC.fact (p := ∃ g, A0 = some ⟨g, 0, none⟩) (fun w1 hw => rowA hw (k := 1) rfl (by omega)) ?_))))))))
  rintro ⟨g_A0, rfl⟩
  refine TC.quietQ (by kernel_rfl) (by kernel_rfl) (fun w hw => hw.drawn _) ?_
  refine TQ.rn 2 rfl ?_
  have hi15 : i < o.length := by omega
  obtain ⟨x15, hx15⟩ := ex_at hi15
  refine TQ.val rfl rfl rfl (gA (i := i) Tryz.underlying49 abrsz34 rfl rfl rfl rfl rfl (by omega)) ?_
  refine TQ.val rfl rfl rfl (gives_loadR (off := 0 + i * 8) rfl rfl abrag34 abrsz34 (rp_cel.len x15) (fun w1 hw j9 u9 h9 => flat_row rp_cel hw (q := 1) rfl hx15 j9 u9 h9)) ?_
  refine TQ.v (gV 0 (.agg (p.cells).toArray) abrag34 abrsz34) ?_
  refine TQ.callsplit rfl rfl rfl rfl rfl Tryz.func148 (by decide) rfl (fun w1 hw => like_any x15 p w1) (fun h18 => ?_) (fun h18 => ?_)
  ·refine TQ.val rfl rfl rfl (gives_boolnot rfl rfl) ?_
   refine TQ.fin ?_
   refine zT (zd (zk (zT (zS (zS ?_)))))
   have hlk : x15.cand = p.cand := like_iff.1 (of_decide_eq_true h18)
   refine TC.quietQ (by kernel_rfl) (by kernel_rfl) (fun w hw => hw.drawn _) ?_
   refine TQ.rn 2 rfl ?_
   refine TQ.val rfl rfl rfl (gA (i := i) Tryz.underlying49 abrsz34 rfl rfl rfl rfl rfl (by omega)) ?_
   refine TQ.v (gF arpfld34_4) ?_
   refine TQ.val rfl rfl rfl (gives_load (v := .int .i64 x15.at_) rfl rfl pcmag3 (fun w1 hw => flat_row rp_cel hw (q := 1) rfl hx15 6 _ rfl)) ?_
   refine TQ.v (gF arpfld34_4) ?_
   refine TQ.v (gL 0 pcmag3) ?_
   refine TQ.sp bin_leq (fun q27 => ?_) (fun q27 => ?_)
   ·refine TQ.fin ?_
    refine zT (zc (zSG (TL.rn 2 rfl (zET (zr (zR (zRR (zR (zRR ?_)))))))))
    exact absurd q27 (by have := hlate x15 (List.mem_of_getElem? hx15) hlk; omega)
   refine TQ.fin ?_
   refine zT (zd (zk (zT (zS ?_))))
   by_cases hlast : i + 1 = m
   ·refine TC.tail 8 (by kernel_rfl) (by kernel_rfl) (fun w hw => hw.drawn _) ?_
    refine TS.val rfl rfl rfl (gives_move rfl rfl) ?_
    refine TS.val rfl rfl rfl (gives_move rfl rfl) ?_
    refine TS.val rfl rfl rfl (gives_move rfl rfl) ?_
    refine TS.val rfl rfl rfl (gives_sliceHM (j := i) (m := i) rfl rfl rfl rfl Tryz.underlying49 abrsz34 (by omega) (by omega)) ?_
    refine TS.val rfl rfl rfl (gives_move rfl rfl) ?_
    refine TS.val rfl rfl rfl (gives_move rfl rfl) ?_
    refine TS.v (gD ((i + 1 : Nat) : Int)) ?_
    refine TS.val rfl rfl rfl (gives_sliceL (v := .slice (if c0 = i + 1 then some ⟨g_A0, 0, none⟩ else (some (⟨g_A0, 0, none⟩ : Addr)).map (·.add ((i + 1) * 8))) (m - (i + 1)) (c0 - (i + 1))) rfl rfl rfl (fun w => cut_lo Tryz.underlying49 abrsz34 _ _ _ (i + 1) rfl (by omega) w)) ?_
    refine TS.end_ ?_
    refine TL.val rfl rfl rfl (gives_appZ rfl Tryz.underlying49 aseel49 rfl (q := (m - (i + 1))) rfl (by omega) (by omega)) ?_
    refine TL.as_ ?_
    refine zET (zx (zO (zX (zX (zM (zT (zSG (TL.as_ ?_))))))))
    refine zET (zS (zB ?_))
    refine TC.loop_ (α := {k : Nat // k ≤ i ∧ ∀ z ∈ o.take k, lexI z.keys p.keys < 0}) (fun y => [(0, .slice (some ⟨g_A0, 0, none⟩) i i), (3, .pointer (some ⟨g3, 0, none⟩)), (6, .int .i64 ((y.1 : Nat) : Int))]) (fun y => Pm w0 ([.blk g3 34 p.cells, .row (.slice (some ⟨g_A0, 0, none⟩) m c0) 34 8 m (flat Rp.cells o)] ++ F)) (fun y => i - y.1) (⟨0, Nat.zero_le _, fun z hz => by rw [List.take_zero] at hz; cases hz⟩) ⟨rfl, rfl, rfl, trivial⟩ (fun w1 hw => hw) ?_
    rintro ⟨k, hk, hlt⟩
    try dsimp only at hk hlt ⊢
    refine zS (zS ?_)
    by_cases hk0 : k = i
    ·refine TC.quietQ (by kernel_rfl) (by kernel_rfl) (fun w hw => hw.drawn _) ?_
     refine TQ.rn 2 rfl (TQ.v (gN Tryz.underlying49) ?_)
     refine TQ.val rfl rfl rfl (gives_bin rfl rfl rfl (fun w => bin_lss_f (by omega) w)) ?_
     refine TQ.rn 9 rfl ?_
     refine TQ.fin ?_
     refine zT (zd (zx (zX (zX (zM (zT (zSG (TL.mv ?_))))))))
     refine TL.v (gV 0 (.agg (p.cells).toArray) abrag34 abrsz34) ?_
     refine TL.prowS (e := 34) (size := 8) (cs := flat Rp.cells [p]) rfl rfl rfl rfl rfl (fun w => aeabs49_1_10276 _ _ _ _ _ _ _ _ w) (by decide) rfl (fun g55 => ?_)
     refine TL.appendF rfl rfl rfl rfl Tryz.underlying49 aseel49 rfl rfl (fun w1 hw => ⟨_, (Reads.headF rp_cel (pm_rd hw (k := 2) rfl) (by omega))⟩) (fun w1 hw => pm_reads hw (k := 0) rfl) (by omega) (by omega) (by show _ * 64 ≤ _; omega) (i + 1) rfl (flat Rp.cells (o.take i ++ [p])) (flat_app _ _).symm (fun A56 c56 hA561 hA562 => ?_)
     refine TL.as_ ?_
     refine zET (zS ?_)
     have hn0 : (o.take i).length = i := by rw [List.length_take]; omega
     have hn1 : ((o.take i) ++ [p]).length = i + 1 := by rw [List.length_append, hn0]; rfl
     have hn2 : (shiftL ((o.take i) ++ [p]) k).length = i + 1 := by rw [shiftL_len _ _ (by omega), hn1]
     refine TC.fact (p := ∃ g, A56 = some ⟨g, 0, none⟩) (fun w1 hw => rowA hw (k := 0) rfl (by omega)) ?_
     rintro ⟨g_A56, rfl⟩
     refine TC.tail 7 (by kernel_rfl) (by kernel_rfl) (fun w hw => hw.drawn _) ?_
     refine TS.val rfl rfl rfl (gives_move rfl rfl) ?_
     refine TS.val rfl rfl rfl (gives_move rfl rfl) ?_
     refine TS.v (gD ((k + 1 : Nat) : Int)) ?_
     refine TS.val rfl rfl rfl (gives_sliceL (v := .slice (if c56 = k + 1 then some ⟨g_A56, 0, none⟩ else (some (⟨g_A56, 0, none⟩ : Addr)).map (·.add ((k + 1) * 8))) ((i + 1) - (k + 1)) (c56 - (k + 1))) rfl rfl rfl (fun w => cut_lo Tryz.underlying49 abrsz34 _ _ _ (k + 1) rfl (by omega) w)) ?_
     refine TS.val rfl rfl rfl (gives_move rfl rfl) ?_
     refine TS.val rfl rfl rfl (gives_move rfl rfl) ?_
     refine TS.val rfl rfl rfl (gives_tailF (q := k) rfl rfl rfl rfl Tryz.underlying49 abrsz34 (by omega) (by omega)) ?_
     refine TS.end_ ?_
     refine TL.shiftF rp_cel (kk := 0) (k := k) rfl rfl rfl rfl Tryz.underlying49 abrsz34 rfl rfl rfl (by omega) (by omega) (by omega) ?_
     try dsimp only [List.set_cons_zero, List.set_cons_succ]
     refine zET (zSG (TL.rn 2 rfl (TL.v (gV 2 (.agg (p.cells).toArray) abrag34 abrsz34) ?_)))
     have hi68 : k < (shiftL (o.take i ++ [p]) k).length := by omega
     obtain ⟨x68, hx68⟩ := ex_at hi68
     refine TL.val rfl rfl rfl (gA (i := k) Tryz.underlying49 abrsz34 rfl rfl rfl rfl rfl (by omega)) ?_
     refine TL.rowset (k := 0) (vs := p.cells) (xs' := flat Rp.cells ((shiftL (o.take i ++ [p]) k).set k p)) rfl rfl rfl rfl rfl rfl rfl abrsz34 (rp_cel.one _) (by rw [flat_len rp_cel]; show 0 + k * 8 + 8 ≤ _; omega) (flat_put rp_cel (q := 0) (y := p) hx68 (by show 0 + 8 ≤ 8; decide) rfl) ?_
     try dsimp only [List.set_cons_zero, List.set_cons_succ]
     refine zET (zSG (TL.rn 2 rfl (zET (zr ?_))))
     rw [shiftL_at _ _ _ _ (by first | omega | (rw [List.length_take]; omega))]
     have hln : ((o.take i).take k ++ p :: (o.take i).drop k).length = i + 1 := by simp only [List.length_append, List.length_take, List.length_cons, List.length_drop]; omega
     exact ret_tmp Tryz.results98 rfl (fun w1 hw => ⟨⟨(((some ⟨g_A56, 0, none⟩), c56), (o.take i).take k ++ p :: (o.take i).drop k), put_done _ (List.Pairwise.sublist (List.take_sublist _ _) ho) (by have h9 := erase_like ho huq hx15 hlk; rw [List.drop_of_length_le (by omega), List.append_nil] at h9; exact h9) (by rw [List.take_take, Nat.min_eq_left (by omega)]; exact hlt) (fun z hz => by rw [List.drop_of_length_le (by rw [List.length_take]; omega)] at hz; cases hz) rfl, by dsimp only; omega, by dsimp only; omega, hA562⟩, by dsimp only; rw [hln], by dsimp only; rw [hln]; exact hw.sel (.cons_cons _ (.cons _ (.cons _ (.cons _ (List.Sublist.refl _)))))⟩)
    refine TC.quietQ (by kernel_rfl) (by kernel_rfl) (fun w hw => hw.drawn _) ?_
    refine TQ.rn 2 rfl (TQ.v (gN Tryz.underlying49) ?_)
    refine TQ.val rfl rfl rfl (gives_bin rfl rfl rfl (fun w => bin_lss_t (by omega) w)) ?_
    refine TQ.rn 3 rfl ?_
    refine TQ.on rfl rfl rfl ?_
    have hi45 : k < o.length := by omega
    obtain ⟨x45, hx45⟩ := ex_at hi45
    refine TQ.val rfl rfl rfl (gA (i := k) Tryz.underlying49 abrsz34 rfl rfl rfl rfl rfl (by omega)) ?_
    refine TQ.on rfl rfl rfl ?_
    refine TQ.val rfl rfl rfl (gives_loadR (off := 0 + k * 8) rfl rfl abrag34 abrsz34 (rp_cel.len x45) (fun w1 hw j9 u9 h9 => flat_row rp_cel hw (q := 1) rfl hx45 j9 u9 h9)) ?_
    refine TQ.ov (gV 0 (.agg (p.cells).toArray) abrag34 abrsz34) ?_
    refine TQ.on rfl rfl rfl ?_
    refine TQ.call (v := .int .i64 (orP (pairsP x45 p))) rfl rfl rfl rfl rfl Tryz.func34 (by decide) rfl (fun w1 hw => (rcmpRp_any x45 p w1).mono fun en w2 ⟨h1, h2⟩ => ⟨h1, hw.below h2⟩) ?_
    refine TQ.on rfl rfl rfl ?_
    refine TQ.sp bin_lss (fun q49 => ?_) (fun q49 => ?_)
    ·refine TQ.val rfl rfl rfl (gives_pick rfl rfl rfl) ?_
     refine TQ.fin ?_
     refine zT (zc (zk (zT (zB ?_))))
     have hlt2 : ∀ z ∈ o.take (k + 1), lexI z.keys p.keys < 0 := ascK_ahead rpk_len ho hx45 (rp_lt (hok _ (List.mem_of_getElem? hx45)) hp q49)
     refine zG (TL.mv ?_)
     refine TL.v (gD ((k + 1 : Nat) : Int)) ?_
     refine TL.as_ ?_
     refine zE (zN ?_)
     exact TX.round (⟨k + 1, by omega, hlt2⟩) (by show i - (k + 1) < i - k; omega) ⟨rfl, rfl, rfl, trivial⟩ (fun w1 hw => hw)
    refine TQ.val rfl rfl rfl (gives_pick rfl rfl rfl) ?_
    refine TQ.fin ?_
    refine zT (zd (zx (zX (zX (zM (zT (zSG (TL.mv ?_))))))))
    refine TL.v (gV 0 (.agg (p.cells).toArray) abrag34 abrsz34) ?_
    refine TL.prowS (e := 34) (size := 8) (cs := flat Rp.cells [p]) rfl rfl rfl rfl rfl (fun w => aeabs49_1_10276 _ _ _ _ _ _ _ _ w) (by decide) rfl (fun g55 => ?_)
    refine TL.appendF rfl rfl rfl rfl Tryz.underlying49 aseel49 rfl rfl (fun w1 hw => ⟨_, (Reads.headF rp_cel (pm_rd hw (k := 2) rfl) (by omega))⟩) (fun w1 hw => pm_reads hw (k := 0) rfl) (by omega) (by omega) (by show _ * 64 ≤ _; omega) (i + 1) rfl (flat Rp.cells (o.take i ++ [p])) (flat_app _ _).symm (fun A56 c56 hA561 hA562 => ?_)
    refine TL.as_ ?_
    refine zET (zS ?_)
    have hn0 : (o.take i).length = i := by rw [List.length_take]; omega
    have hn1 : ((o.take i) ++ [p]).length = i + 1 := by rw [List.length_append, hn0]; rfl
    have hn2 : (shiftL ((o.take i) ++ [p]) k).length = i + 1 := by rw [shiftL_len _ _ (by omega), hn1]
    refine TC.fact (p := ∃ g, A56 = some ⟨g, 0, none⟩) (fun w1 hw => rowA hw (k := 0) rfl (by omega)) ?_
    rintro ⟨g_A56, rfl⟩
    refine TC.tail 7 (by kernel_rfl) (by kernel_rfl) (fun w hw => hw.drawn _) ?_
    refine TS.val rfl rfl rfl (gives_move rfl rfl) ?_
    refine TS.val rfl rfl rfl (gives_move rfl rfl) ?_
    refine TS.v (gD ((k + 1 : Nat) : Int)) ?_
    refine TS.val rfl rfl rfl (gives_sliceL (v := .slice (if c56 = k + 1 then some ⟨g_A56, 0, none⟩ else (some (⟨g_A56, 0, none⟩ : Addr)).map (·.add ((k + 1) * 8))) ((i + 1) - (k + 1)) (c56 - (k + 1))) rfl rfl rfl (fun w => cut_lo Tryz.underlying49 abrsz34 _ _ _ (k + 1) rfl (by omega) w)) ?_
    refine TS.val rfl rfl rfl (gives_move rfl rfl) ?_
    refine TS.val rfl rfl rfl (gives_move rfl rfl) ?_
    refine TS.val rfl rfl rfl (gives_tailF (q := k) rfl rfl rfl rfl Tryz.underlying49 abrsz34 (by omega) (by omega)) ?_
    refine TS.end_ ?_
    refine TL.shiftF rp_cel (kk := 0) (k := k) rfl rfl rfl rfl Tryz.underlying49 abrsz34 rfl rfl rfl (by omega) (by omega) (by omega) ?_
    try dsimp only [List.set_cons_zero, List.set_cons_succ]
    refine zET (zSG (TL.rn 2 rfl (TL.v (gV 2 (.agg (p.cells).toArray) abrag34 abrsz34) ?_)))
    have hi68 : k < (shiftL (o.take i ++ [p]) k).length := by omega
    obtain ⟨x68, hx68⟩ := ex_at hi68
    refine TL.val rfl rfl rfl (gA (i := k) Tryz.underlying49 abrsz34 rfl rfl rfl rfl rfl (by omega)) ?_
    refine TL.rowset (k := 0) (vs := p.cells) (xs' := flat Rp.cells ((shiftL (o.take i ++ [p]) k).set k p)) rfl rfl rfl rfl rfl rfl rfl abrsz34 (rp_cel.one _) (by rw [flat_len rp_cel]; show 0 + k * 8 + 8 ≤ _; omega) (flat_put rp_cel (q := 0) (y := p) hx68 (by show 0 + 8 ≤ 8; decide) rfl) ?_
    try dsimp only [List.set_cons_zero, List.set_cons_succ]
    refine zET (zSG (TL.rn 2 rfl (zET (zr ?_))))
    rw [shiftL_at _ _ _ _ (by first | omega | (rw [List.length_take]; omega))]
    have hln : ((o.take i).take k ++ p :: (o.take i).drop k).length = i + 1 := by simp only [List.length_append, List.length_take, List.length_cons, List.length_drop]; omega
    exact ret_tmp Tryz.results98 rfl (fun w1 hw => ⟨⟨(((some ⟨g_A56, 0, none⟩), c56), (o.take i).take k ++ p :: (o.take i).drop k), put_done _ (List.Pairwise.sublist (List.take_sublist _ _) ho) (by have h9 := erase_like ho huq hx15 hlk; rw [List.drop_of_length_le (by omega), List.append_nil] at h9; exact h9) (by rw [List.take_take, Nat.min_eq_left (by omega)]; exact hlt) (fun z hz => (ascK_behind rpk_len ho hx45 (rp_gt (hok _ (List.mem_of_getElem? hx45)) hp q49 (hma _ (mem_take_of hx45 (by omega))))) z (drop_take_sub hz)) rfl, by dsimp only; omega, by dsimp only; omega, hA562⟩, by dsimp only; rw [hln], by dsimp only; rw [hln]; exact hw.sel (.cons_cons _ (.cons _ (.cons _ (.cons _ (List.Sublist.refl _)))))⟩)
   obtain ⟨m1, hm1e⟩ : ∃ m1, m1 = m - 1 := ⟨_, rfl⟩
   obtain ⟨o1, ho1e⟩ : ∃ o1, o1 = o.take i ++ o.drop (i + 1) := ⟨_, rfl⟩
   have ho1 : AscK Rp.keys o1 := by rw [ho1e]; exact erase_asc ho i
   have ho1m : ∀ x, x ∈ o1 ↔ x ∈ o ∧ x.cand ≠ p.cand := by rw [ho1e]; exact erase_like ho huq hx15 hlk
   have ho1l : o1.length = m1 := by rw [ho1e, List.length_append, List.length_take, List.length_drop]; omega
   refine TC.tail 8 (by kernel_rfl) (by kernel_rfl) (fun w hw => hw.drawn _) ?_
   refine TS.val rfl rfl rfl (gives_move rfl rfl) ?_
   refine TS.val rfl rfl rfl (gives_move rfl rfl) ?_
   refine TS.val rfl rfl rfl (gives_move rfl rfl) ?_
   refine TS.val rfl rfl rfl (gives_sliceHM (j := i) (m := i) rfl rfl rfl rfl Tryz.underlying49 abrsz34 (by omega) (by omega)) ?_
   refine TS.val rfl rfl rfl (gives_move rfl rfl) ?_
   refine TS.val rfl rfl rfl (gives_move rfl rfl) ?_
   refine TS.v (gD ((i + 1 : Nat) : Int)) ?_
   refine TS.val rfl rfl rfl (gives_sliceL (v := .slice (if c0 = i + 1 then some ⟨g_A0, 0, none⟩ else (some (⟨g_A0, 0, none⟩ : Addr)).map (·.add ((i + 1) * 8))) (m - (i + 1)) (c0 - (i + 1))) rfl rfl rfl (fun w => cut_lo Tryz.underlying49 abrsz34 _ _ _ (i + 1) rfl (by omega) w)) ?_
   refine TS.end_ ?_
   refine TL.appendF rfl rfl rfl rfl Tryz.underlying49 aseel49 rfl rfl (fun w1 hw => ⟨_, (Reads.headF rp_cel (pm_rd hw (k := 1) rfl) (by omega))⟩) (fun w1 hw => ⟨_, (Reads.tailF rp_cel (pm_rd hw (k := 1) rfl) (by omega) (by omega))⟩) (by omega) (by omega) (by show _ * 64 ≤ _; omega) m1 (by omega) (flat Rp.cells o1) (by rw [ho1e]; exact (flat_app _ _).symm) (fun A37 c37 hA371 hA372 => ?_)
   refine TL.as_ ?_
   refine zET (zx (zO (zX (zX (zM (zT (zSG (TL.as_ ?_))))))))
   refine zET (zS (zB ?_))
   refine TC.loop_ (α := {k : Nat // k ≤ m1 ∧ ∀ z ∈ o1.take k, lexI z.keys p.keys < 0}) (fun y => [(0, .slice A37 m1 c37), (3, .pointer (some ⟨g3, 0, none⟩)), (6, .int .i64 ((y.1 : Nat) : Int))]) (fun y => Pm w0 ([.row (.slice A37 m1 c37) 34 8 m1 (flat Rp.cells o1), .blk g3 34 p.cells, .row (.slice (some ⟨g_A0, 0, none⟩) m c0) 34 8 m (flat Rp.cells o)] ++ F)) (fun y => m1 - y.1) (⟨0, Nat.zero_le _, fun z hz => by rw [List.take_zero] at hz; cases hz⟩) ⟨rfl, rfl, rfl, trivial⟩ (fun w1 hw => hw) ?_
   rintro ⟨k, hk, hlt⟩
   try dsimp only at hk hlt ⊢
   refine zS (zS ?_)
   by_cases hk0 : k = m1
   ·refine TC.quietQ (by kernel_rfl) (by kernel_rfl) (fun w hw => hw.drawn _) ?_
    refine TQ.rn 2 rfl (TQ.v (gN Tryz.underlying49) ?_)
    refine TQ.val rfl rfl rfl (gives_bin rfl rfl rfl (fun w => bin_lss_f (by omega) w)) ?_
    refine TQ.rn 9 rfl ?_
    refine TQ.fin ?_
    refine zT (zd (zx (zX (zX (zM (zT (zSG (TL.mv ?_))))))))
    refine TL.v (gV 1 (.agg (p.cells).toArray) abrag34 abrsz34) ?_
    refine TL.prowS (e := 34) (size := 8) (cs := flat Rp.cells [p]) rfl rfl rfl rfl rfl (fun w => aeabs49_1_10276 _ _ _ _ _ _ _ _ w) (by decide) rfl (fun g55 => ?_)
    refine TL.appendT (k := 1) rfl rfl rfl rfl Tryz.underlying49 aseel49 rfl rfl rfl (fun w1 hw => pm_reads hw (k := 0) rfl) (flat_one rp_cel _) (by show _ * 64 ≤ _; omega) (m1 + 1) (rfl) (flat Rp.cells (o1 ++ [p])) ((flat_app _ _).symm) (fun A56 c56 hA561 hA562 => ?_)
    refine TL.as_ ?_
    refine zET (zS ?_)
    have hn0 : (o1).length = m1 := by omega
    have hn1 : (o1 ++ [p]).length = m1 + 1 := by rw [List.length_append, hn0]; rfl
    have hn2 : (shiftL (o1 ++ [p]) k).length = m1 + 1 := by rw [shiftL_len _ _ (by omega), hn1]
    refine TC.fact (p := ∃ g, A56 = some ⟨g, 0, none⟩) (fun w1 hw => rowA hw (k := 1) rfl (by omega)) ?_
    rintro ⟨g_A56, rfl⟩
    refine TC.tail 7 (by kernel_rfl) (by kernel_rfl) (fun w hw => hw.drawn _) ?_
    refine TS.val rfl rfl rfl (gives_move rfl rfl) ?_
    refine TS.val rfl rfl rfl (gives_move rfl rfl) ?_
    refine TS.v (gD ((k + 1 : Nat) : Int)) ?_
    refine TS.val rfl rfl rfl (gives_sliceL (v := .slice (if c56 = k + 1 then some ⟨g_A56, 0, none⟩ else (some (⟨g_A56, 0, none⟩ : Addr)).map (·.add ((k + 1) * 8))) ((m1 + 1) - (k + 1)) (c56 - (k + 1))) rfl rfl rfl (fun w => cut_lo Tryz.underlying49 abrsz34 _ _ _ (k + 1) rfl (by omega) w)) ?_
    refine TS.val rfl rfl rfl (gives_move rfl rfl) ?_
    refine TS.val rfl rfl rfl (gives_move rfl rfl) ?_
    refine TS.val rfl rfl rfl (gives_tailF (q := k) rfl rfl rfl rfl Tryz.underlying49 abrsz34 (by omega) (by omega)) ?_
    refine TS.end_ ?_
    refine TL.shiftF rp_cel (kk := 1) (k := k) rfl rfl rfl rfl Tryz.underlying49 abrsz34 rfl rfl rfl (by omega) (by omega) (by omega) ?_
    try dsimp only [List.set_cons_zero, List.set_cons_succ]
    refine zET (zSG (TL.rn 2 rfl (TL.v (gV 2 (.agg (p.cells).toArray) abrag34 abrsz34) ?_)))
    have hi68 : k < (shiftL (o1 ++ [p]) k).length := by omega
    obtain ⟨x68, hx68⟩ := ex_at hi68
    refine TL.val rfl rfl rfl (gA (i := k) Tryz.underlying49 abrsz34 rfl rfl rfl rfl rfl (by omega)) ?_
    refine TL.rowset (k := 1) (vs := p.cells) (xs' := flat Rp.cells ((shiftL (o1 ++ [p]) k).set k p)) rfl rfl rfl rfl rfl rfl rfl abrsz34 (rp_cel.one _) (by rw [flat_len rp_cel]; show 0 + k * 8 + 8 ≤ _; omega) (flat_put rp_cel (q := 0) (y := p) hx68 (by show 0 + 8 ≤ 8; decide) rfl) ?_
    try dsimp only [List.set_cons_zero, List.set_cons_succ]
    refine zET (zSG (TL.rn 2 rfl (zET (zr ?_))))
    rw [shiftL_at _ _ _ _ (by first | omega | (rw [List.length_take]; omega))]
    have hln : (o1.take k ++ p :: o1.drop k).length = m1 + 1 := by simp only [List.length_append, List.length_take, List.length_cons, List.length_drop]; omega
    exact ret_tmp Tryz.results98 rfl (fun w1 hw => ⟨⟨(((some ⟨g_A56, 0, none⟩), c56), o1.take k ++ p :: o1.drop k), put_done _ ho1 ho1m hlt (fun z hz => by rw [List.drop_of_length_le (by omega)] at hz; cases hz) rfl, by dsimp only; omega, by dsimp only; omega, hA562⟩, by dsimp only; rw [hln], by dsimp only; rw [hln]; exact hw.sel (.cons _ (.cons_cons _ (.cons _ (.cons _ (List.Sublist.refl _)))))⟩)
   refine TC.fact (p := ∃ g, A37 = some ⟨g, 0, none⟩) (fun w1 hw => rowA hw (k := 0) rfl (by omega)) ?_
   rintro ⟨g_A37, rfl⟩
   refine TC.quietQ (by kernel_rfl) (by kernel_rfl) (fun w hw => hw.drawn _) ?_
   refine TQ.rn 2 rfl (TQ.v (gN Tryz.underlying49) ?_)
   refine TQ.val rfl rfl rfl (gives_bin rfl rfl rfl (fun w => bin_lss_t (by omega) w)) ?_
   refine TQ.rn 3 rfl ?_
   refine TQ.on rfl rfl rfl ?_
   have hi45 : k < o1.length := by omega
   obtain ⟨x45, hx45⟩ := ex_at hi45
   refine TQ.val rfl rfl rfl (gA (i := k) Tryz.underlying49 abrsz34 rfl rfl rfl rfl rfl (by omega)) ?_
   refine TQ.on rfl rfl rfl ?_
   refine TQ.val rfl rfl rfl (gives_loadR (off := 0 + k * 8) rfl rfl abrag34 abrsz34 (rp_cel.len x45) (fun w1 hw j9 u9 h9 => flat_row rp_cel hw (q := 0) rfl hx45 j9 u9 h9)) ?_
   refine TQ.ov (gV 1 (.agg (p.cells).toArray) abrag34 abrsz34) ?_
   refine TQ.on rfl rfl rfl ?_
   refine TQ.call (v := .int .i64 (orP (pairsP x45 p))) rfl rfl rfl rfl rfl Tryz.func34 (by decide) rfl (fun w1 hw => (rcmpRp_any x45 p w1).mono fun en w2 ⟨h1, h2⟩ => ⟨h1, hw.below h2⟩) ?_
   refine TQ.on rfl rfl rfl ?_
   refine TQ.sp bin_lss (fun q49 => ?_) (fun q49 => ?_)
   ·refine TQ.val rfl rfl rfl (gives_pick rfl rfl rfl) ?_
    refine TQ.fin ?_
    refine zT (zc (zk (zT (zB ?_))))
    have hlt2 : ∀ z ∈ o1.take (k + 1), lexI z.keys p.keys < 0 := ascK_ahead rpk_len ho1 hx45 (rp_lt (hok _ (((ho1m _).1 (List.mem_of_getElem? hx45)).1)) hp q49)
    refine zG (TL.mv ?_)
    refine TL.v (gD ((k + 1 : Nat) : Int)) ?_
    refine TL.as_ ?_
    refine zE (zN ?_)
    exact TX.round (⟨k + 1, by omega, hlt2⟩) (by show m1 - (k + 1) < m1 - k; omega) ⟨rfl, rfl, rfl, trivial⟩ (fun w1 hw => hw)
   refine TQ.val rfl rfl rfl (gives_pick rfl rfl rfl) ?_
   refine TQ.fin ?_
   refine zT (zd (zx (zX (zX (zM (zT (zSG (TL.mv ?_))))))))
   refine TL.v (gV 1 (.agg (p.cells).toArray) abrag34 abrsz34) ?_
   refine TL.prowS (e := 34) (size := 8) (cs := flat Rp.cells [p]) rfl rfl rfl rfl rfl (fun w => aeabs49_1_10276 _ _ _ _ _ _ _ _ w) (by decide) rfl (fun g55 => ?_)
   refine TL.appendT (k := 1) rfl rfl rfl rfl Tryz.underlying49 aseel49 rfl rfl rfl (fun w1 hw => pm_reads hw (k := 0) rfl) (flat_one rp_cel _) (by show _ * 64 ≤ _; omega) (m1 + 1) (rfl) (flat Rp.cells (o1 ++ [p])) ((flat_app _ _).symm) (fun A56 c56 hA561 hA562 => ?_)
   refine TL.as_ ?_
   refine zET (zS ?_)
   have hn0 : (o1).length = m1 := by omega
   have hn1 : (o1 ++ [p]).length = m1 + 1 := by rw [List.length_append, hn0]; rfl
   have hn2 : (shiftL (o1 ++ [p]) k).length = m1 + 1 := by rw [shiftL_len _ _ (by omega), hn1]
   refine TC.fact (p := ∃ g, A56 = some ⟨g, 0, none⟩) (fun w1 hw => rowA hw (k := 1) rfl (by omega)) ?_
   rintro ⟨g_A56, rfl⟩
   refine TC.tail 7 (by kernel_rfl) (by kernel_rfl) (fun w hw => hw.drawn _) ?_
   refine TS.val rfl rfl rfl (gives_move rfl rfl) ?_
   refine TS.val rfl rfl rfl (gives_move rfl rfl) ?_
   refine TS.v (gD ((k + 1 : Nat) : Int)) ?_
   refine TS.val rfl rfl rfl (gives_sliceL (v := .slice (if c56 = k + 1 then some ⟨g_A56, 0, none⟩ else (some (⟨g_A56, 0, none⟩ : Addr)).map (·.add ((k + 1) * 8))) ((m1 + 1) - (k + 1)) (c56 - (k + 1))) rfl rfl rfl (fun w => cut_lo Tryz.underlying49 abrsz34 _ _ _ (k + 1) rfl (by omega) w)) ?_
   refine TS.val rfl rfl rfl (gives_move rfl rfl) ?_
   refine TS.val rfl rfl rfl (gives_move rfl rfl) ?_
   refine TS.val rfl rfl rfl (gives_tailF (q := k) rfl rfl rfl rfl Tryz.underlying49 abrsz34 (by omega) (by omega)) ?_
   refine TS.end_ ?_
   refine TL.shiftF rp_cel (kk := 1) (k := k) rfl rfl rfl rfl Tryz.underlying49 abrsz34 rfl rfl rfl (by omega) (by omega) (by omega) ?_
   try dsimp only [List.set_cons_zero, List.set_cons_succ]
   refine zET (zSG (TL.rn 2 rfl (TL.v (gV 2 (.agg (p.cells).toArray) abrag34 abrsz34) ?_)))
   have hi68 : k < (shiftL (o1 ++ [p]) k).length := by omega
   obtain ⟨x68, hx68⟩ := ex_at hi68
   refine TL.val rfl rfl rfl (gA (i := k) Tryz.underlying49 abrsz34 rfl rfl rfl rfl rfl (by omega)) ?_
   refine TL.rowset (k := 1) (vs := p.cells) (xs' := flat Rp.cells ((shiftL (o1 ++ [p]) k).set k p)) rfl rfl rfl rfl rfl rfl rfl abrsz34 (rp_cel.one _) (by rw [flat_len rp_cel]; show 0 + k * 8 + 8 ≤ _; omega) (flat_put rp_cel (q := 0) (y := p) hx68 (by show 0 + 8 ≤ 8; decide) rfl) ?_
   try dsimp only [List.set_cons_zero, List.set_cons_succ]
   refine zET (zSG (TL.rn 2 rfl (zET (zr ?_))))
   rw [shiftL_at _ _ _ _ (by first | omega | (rw [List.length_take]; omega))]
   have hln : (o1.take k ++ p :: o1.drop k).length = m1 + 1 := by simp only [List.length_append, List.length_take, List.length_cons, List.length_drop]; omega
   exact ret_tmp Tryz.results98 rfl (fun w1 hw => ⟨⟨(((some ⟨g_A56, 0, none⟩), c56), o1.take k ++ p :: o1.drop k), put_done _ ho1 ho1m hlt (ascK_behind rpk_len ho1 hx45 (rp_gt (hok _ (((ho1m _).1 (List.mem_of_getElem? hx45)).1)) hp q49 ((ho1m _).1 (List.mem_of_getElem? hx45)).2)) rfl, by dsimp only; omega, by dsimp only; omega, hA562⟩, by dsimp only; rw [hln], by dsimp only; rw [hln]; exact hw.sel (.cons _ (.cons_cons _ (.cons _ (.cons _ (List.Sublist.refl _)))))⟩)
  refine TQ.val rfl rfl rfl (gives_boolnot rfl rfl) ?_
  refine TQ.fin ?_
  refine zT (zc (zx (zX (zM (zT (zG (TL.mv ?_)))))))
  refine TL.v (gD ((i + 1 : Nat) : Int)) ?_
  refine TL.as_ ?_
  refine zE ?_
  exact TX.round (⟨i + 1, by omega, not_snocP hma hx15 (fun h => absurd (like_iff.2 h) (of_decide_eq_false h18))⟩) (by show m - (i + 1) < m - i; omega) ⟨rfl, rfl, rfl, trivial⟩ (fun w1 hw => hw)
 refine zET (zd (zx (zX (zX (zM (zT (zSG (TL.as_ ?_))))))))
 refine zET (zS (zB ?_))
 refine TC.loop_ (α := {k : Nat // k ≤ m ∧ ∀ z ∈ o.take k, lexI z.keys p.keys < 0}) (fun y => [(0, .slice A0 m c0), (3, .pointer (some ⟨g3, 0, none⟩)), (6, .int .i64 ((y.1 : Nat) : Int))]) (fun y => Pm w0 ([.blk g3 34 p.cells, .row (.slice A0 m c0) 34 8 m (flat Rp.cells o)] ++ F)) (fun y => m - y.1) (⟨0, Nat.zero_le _, fun z hz => by rw [List.take_zero] at hz; cases hz⟩) ⟨rfl, rfl, rfl, trivial⟩ (fun w1 hw => hw) ?_
 rintro ⟨k, hk, hlt⟩
 try dsimp only at hk hlt ⊢
 refine zS (zS ?_)
 by_cases hk0 : k = m
 ·refine TC.quietQ (by kernel_rfl) (by kernel_rfl) (fun w hw => hw.drawn _) ?_
  refine TQ.rn 2 rfl (TQ.v (gN Tryz.underlying49) ?_)
  refine TQ.val rfl rfl rfl (gives_bin rfl rfl rfl (fun w => bin_lss_f (by omega) w)) ?_
  refine TQ.rn 9 rfl ?_
  refine TQ.fin ?_
  refine zT (zd (zx (zX (zX (zM (zT (zSG (TL.mv ?_))))))))
  refine TL.v (gV 0 (.agg (p.cells).toArray) abrag34 abrsz34) ?_
  refine TL.prowS (e := 34) (size := 8) (cs := flat Rp.cells [p]) rfl rfl rfl rfl rfl (fun w => aeabs49_1_10276 _ _ _ _ _ _ _ _ w) (by decide) rfl (fun g55 => ?_)
  refine TL.appendT (k := 2) rfl rfl rfl rfl Tryz.underlying49 aseel49 rfl rfl rfl (fun w1 hw => pm_reads hw (k := 0) rfl) (flat_one rp_cel _) (by show _ * 64 ≤ _; omega) (m + 1) (rfl) (flat Rp.cells (o ++ [p])) ((flat_app _ _).symm) (fun A56 c56 hA561 hA562 => ?_)
  refine TL.as_ ?_
  refine zET (zS ?_)
  have hn0 : (o).length = m := by omega
  have hn1 : (o ++ [p]).length = m + 1 := by rw [List.length_append, hn0]; rfl
  have hn2 : (shiftL (o ++ [p]) k).length = m + 1 := by rw [shiftL_len _ _ (by omega), hn1]
  refine TC.fact (p := ∃ g, A56 = some ⟨g, 0, none⟩) (fun w1 hw => rowA hw (k := 2) rfl (by omega)) ?_
  rintro ⟨g_A56, rfl⟩
  refine TC.tail 7 (by kernel_rfl) (by kernel_rfl) (fun w hw => hw.drawn _) ?_
  refine TS.val rfl rfl rfl (gives_move rfl rfl) ?_
  refine TS.val rfl rfl rfl (gives_move rfl rfl) ?_
  refine TS.v (gD ((k + 1 : Nat) : Int)) ?_
  refine TS.val rfl rfl rfl (gives_sliceL (v := .slice (if c56 = k + 1 then some ⟨g_A56, 0, none⟩ else (some (⟨g_A56, 0, none⟩ : Addr)).map (·.add ((k + 1) * 8))) ((m + 1) - (k + 1)) (c56 - (k + 1))) rfl rfl rfl (fun w => cut_lo Tryz.underlying49 abrsz34 _ _ _ (k + 1) rfl (by omega) w)) ?_
  refine TS.val rfl rfl rfl (gives_move rfl rfl) ?_
  refine TS.val rfl rfl rfl (gives_move rfl rfl) ?_
  refine TS.val rfl rfl rfl (gives_tailF (q := k) rfl rfl rfl rfl Tryz.underlying49 abrsz34 (by omega) (by omega)) ?_
  refine TS.end_ ?_
  refine TL.shiftF rp_cel (kk := 2) (k := k) rfl rfl rfl rfl Tryz.underlying49 abrsz34 rfl rfl rfl (by omega) (by omega) (by omega) ?_
  try dsimp only [List.set_cons_zero, List.set_cons_succ]
  refine zET (zSG (TL.rn 2 rfl (TL.v (gV 1 (.agg (p.cells).toArray) abrag34 abrsz34) ?_)))
  have hi68 : k < (shiftL (o ++ [p]) k).length := by omega
  obtain ⟨x68, hx68⟩ := ex_at hi68
  refine TL.val rfl rfl rfl (gA (i := k) Tryz.underlying49 abrsz34 rfl rfl rfl rfl rfl (by omega)) ?_
  refine TL.rowset (k := 2) (vs := p.cells) (xs' := flat Rp.cells ((shiftL (o ++ [p]) k).set k p)) rfl rfl rfl rfl rfl rfl rfl abrsz34 (rp_cel.one _) (by rw [flat_len rp_cel]; show 0 + k * 8 + 8 ≤ _; omega) (flat_put rp_cel (q := 0) (y := p) hx68 (by show 0 + 8 ≤ 8; decide) rfl) ?_
  try dsimp only [List.set_cons_zero, List.set_cons_succ]
  refine zET (zSG (TL.rn 2 rfl (zET (zr ?_))))
  have hma2 : ∀ z ∈ o, z.cand ≠ p.cand := by rw [List.take_of_length_le (by omega)] at hma; exact hma
  rw [shiftL_at _ _ _ _ (by first | omega | (rw [List.length_take]; omega))]
  have hln : (o.take k ++ p :: o.drop k).length = m + 1 := by simp only [List.length_append, List.length_take, List.length_cons, List.length_drop]; omega
  exact ret_tmp Tryz.results98 rfl (fun w1 hw => ⟨⟨(((some ⟨g_A56, 0, none⟩), c56), o.take k ++ p :: o.drop k), put_done _ ho (all_unlike hma2) hlt (fun z hz => by rw [List.drop_of_length_le (by omega)] at hz; cases hz) rfl, by dsimp only; omega, by dsimp only; omega, hA562⟩, by dsimp only; rw [hln], by dsimp only; rw [hln]; exact hw.sel (.cons _ (.cons _ (.cons_cons _ (List.Sublist.refl _))))⟩)
 refine TC.fact (p := ∃ g, A0 = some ⟨g, 0, none⟩) (fun w1 hw => rowA hw (k := 1) rfl (by omega)) ?_
 rintro ⟨g_A0, rfl⟩
 refine TC.quietQ (by kernel_rfl) (by kernel_rfl) (fun w hw => hw.drawn _) ?_
 refine TQ.rn 2 rfl (TQ.v (gN Tryz.underlying49) ?_)
 refine TQ.val rfl rfl rfl (gives_bin rfl rfl rfl (fun w => bin_lss_t (by omega) w)) ?_
 refine TQ.rn 3 rfl ?_
 refine TQ.on rfl rfl rfl ?_
 have hi45 : k < o.length := by omega
 obtain ⟨x45, hx45⟩ := ex_at hi45
 refine TQ.val rfl rfl rfl (gA (i := k) Tryz.underlying49 abrsz34 rfl rfl rfl rfl rfl (by omega)) ?_
 refine TQ.on rfl rfl rfl ?_
 refine TQ.val rfl rfl rfl (gives_loadR (off := 0 + k * 8) rfl rfl abrag34 abrsz34 (rp_cel.len x45) (fun w1 hw j9 u9 h9 => flat_row rp_cel hw (q := 1) rfl hx45 j9 u9 h9)) ?_
 refine TQ.ov (gV 0 (.agg (p.cells).toArray) abrag34 abrsz34) ?_
 refine TQ.on rfl rfl rfl ?_
 refine TQ.call (v := .int .i64 (orP (pairsP x45 p))) rfl rfl rfl rfl rfl Tryz.func34 (by decide) rfl (fun w1 hw => (rcmpRp_any x45 p w1).mono fun en w2 ⟨h1, h2⟩ => ⟨h1, hw.below h2⟩) ?_
 refine TQ.on rfl rfl rfl ?_
 refine TQ.sp bin_lss (fun q49 => ?_) (fun q49 => ?_)
 ·refine TQ.val rfl rfl rfl (gives_pick rfl rfl rfl) ?_
  refine TQ.fin ?_
  refine zT (zc (zk (zT (zB ?_))))
  have hlt2 : ∀ z ∈ o.take (k + 1), lexI z.keys p.keys < 0 := ascK_ahead rpk_len ho hx45 (rp_lt (hok _ (List.mem_of_getElem? hx45)) hp q49)
  refine zG (TL.mv ?_)
  refine TL.v (gD ((k + 1 : Nat) : Int)) ?_
  refine TL.as_ ?_
  refine zE (zN ?_)
  exact TX.round (⟨k + 1, by omega, hlt2⟩) (by show m - (k + 1) < m - k; omega) ⟨rfl, rfl, rfl, trivial⟩ (fun w1 hw => hw)
 refine TQ.val rfl rfl rfl (gives_pick rfl rfl rfl) ?_
 refine TQ.fin ?_
 refine zT (zd (zx (zX (zX (zM (zT (zSG (TL.mv ?_))))))))
 refine TL.v (gV 0 (.agg (p.cells).toArray) abrag34 abrsz34) ?_
 refine TL.prowS (e := 34) (size := 8) (cs := flat Rp.cells [p]) rfl rfl rfl rfl rfl (fun w => aeabs49_1_10276 _ _ _ _ _ _ _ _ w) (by decide) rfl (fun g55 => ?_)
 refine TL.appendT (k := 2) rfl rfl rfl rfl Tryz.underlying49 aseel49 rfl rfl rfl (fun w1 hw => pm_reads hw (k := 0) rfl) (flat_one rp_cel _) (by show _ * 64 ≤ _; omega) (m + 1) (rfl) (flat Rp.cells (o ++ [p])) ((flat_app _ _).symm) (fun A56 c56 hA561 hA562 => ?_)
 refine TL.as_ ?_
 refine zET (zS ?_)
 have hn0 : (o).length = m := by omega
 have hn1 : (o ++ [p]).length = m + 1 := by rw [List.length_append, hn0]; rfl
 have hn2 : (shiftL (o ++ [p]) k).length = m + 1 := by rw [shiftL_len _ _ (by omega), hn1]
 refine TC.fact (p := ∃ g, A56 = some ⟨g, 0, none⟩) (fun w1 hw => rowA hw (k := 2) rfl (by omega)) ?_
 rintro ⟨g_A56, rfl⟩
 refine TC.tail 7 (by kernel_rfl) (by kernel_rfl) (fun w hw => hw.drawn _) ?_
 refine TS.val rfl rfl rfl (gives_move rfl rfl) ?_
 refine TS.val rfl rfl rfl (gives_move rfl rfl) ?_
 refine TS.v (gD ((k + 1 : Nat) : Int)) ?_
 refine TS.val rfl rfl rfl (gives_sliceL (v := .slice (if c56 = k + 1 then some ⟨g_A56, 0, none⟩ else (some (⟨g_A56, 0, none⟩ : Addr)).map (·.add ((k + 1) * 8))) ((m + 1) - (k + 1)) (c56 - (k + 1))) rfl rfl rfl (fun w => cut_lo Tryz.underlying49 abrsz34 _ _ _ (k + 1) rfl (by omega) w)) ?_
 refine TS.val rfl rfl rfl (gives_move rfl rfl) ?_
 refine TS.val rfl rfl rfl (gives_move rfl rfl) ?_
 refine TS.val rfl rfl rfl (gives_tailF (q := k) rfl rfl rfl rfl Tryz.underlying49 abrsz34 (by omega) (by omega)) ?_
 refine TS.end_ ?_
 refine TL.shiftF rp_cel (kk := 2) (k := k) rfl rfl rfl rfl Tryz.underlying49 abrsz34 rfl rfl rfl (by omega) (by omega) (by omega) ?_
 try dsimp only [List.set_cons_zero, List.set_cons_succ]
 refine zET (zSG (TL.rn 2 rfl (TL.v (gV 1 (.agg (p.cells).toArray) abrag34 abrsz34) ?_)))
 have hi68 : k < (shiftL (o ++ [p]) k).length := by omega
 obtain ⟨x68, hx68⟩ := ex_at hi68
 refine TL.val rfl rfl rfl (gA (i := k) Tryz.underlying49 abrsz34 rfl rfl rfl rfl rfl (by omega)) ?_
 refine TL.rowset (k := 2) (vs := p.cells) (xs' := flat Rp.cells ((shiftL (o ++ [p]) k).set k p)) rfl rfl rfl rfl rfl rfl rfl abrsz34 (rp_cel.one _) (by rw [flat_len rp_cel]; show 0 + k * 8 + 8 ≤ _; omega) (flat_put rp_cel (q := 0) (y := p) hx68 (by show 0 + 8 ≤ 8; decide) rfl) ?_
 try dsimp only [List.set_cons_zero, List.set_cons_succ]
 refine zET (zSG (TL.rn 2 rfl (zET (zr ?_))))
 have hma2 : ∀ z ∈ o, z.cand ≠ p.cand := by rw [List.take_of_length_le (by omega)] at hma; exact hma
 rw [shiftL_at _ _ _ _ (by first | omega | (rw [List.length_take]; omega))]
 have hln : (o.take k ++ p :: o.drop k).length = m + 1 := by simp only [List.length_append, List.length_take, List.length_cons, List.length_drop]; omega
 exact ret_tmp Tryz.results98 rfl (fun w1 hw => ⟨⟨(((some ⟨g_A56, 0, none⟩), c56), o.take k ++ p :: o.drop k), put_done _ ho (all_unlike hma2) hlt (ascK_behind rpk_len ho hx45 (rp_gt (hok _ (List.mem_of_getElem? hx45)) hp q49 (hma2 _ (List.mem_of_getElem? hx45)))) rfl, by dsimp only; omega, by dsimp only; omega, hA562⟩, by dsimp only; rw [hln], by dsimp only; rw [hln]; exact hw.sel (.cons _ (.cons _ (.cons_cons _ (List.Sublist.refl _))))⟩)
set_option maxRecDepth 20000
theorem afrbld34_98504 (a1_0 : Int) (a1_1 : Int) (a1_2 : Int) (a2_0 : Int) (w : World) : (Instr.build 34 #[(1, .agg #[.int .i64 a1_0, .int .u32 a1_1, .int .i64 a1_2]), (2, .int .i64 a2_0)]).run Tryz.prog w = .ok (.agg #[.int .i64 0, .int .i64 a1_0, .int .u32 a1_1, .int .i64 a1_2, .int .i64 a2_0, .int .i64 0, .int .i64 0, .int .i64 0]) w := by kernel_rfl
theorem afrbld34_14002 (a0_0 : Int) (a1_0 : Int) (a1_1 : Int) (a1_2 : Int) (a2_0 : Int) (a3_0 : Int) (w : World) : (Instr.build 34 #[(0, .int .i64 a0_0), (1, .agg #[.int .i64 a1_0, .int .u32 a1_1, .int .i64 a1_2]), (2, .int .i64 a2_0), (3, .int .i64 a3_0)]).run Tryz.prog w = .ok (.agg #[.int .i64 a0_0, .int .i64 a1_0, .int .u32 a1_1, .int .i64 a1_2, .int .i64 a2_0, .int .i64 a3_0, .int .i64 0, .int .i64 0]) w := by kernel_rfl
theorem afrbs49_2_31088 (a0_0 : Int) (a0_1 : Int) (a0_2 : Int) (a0_3 : Int) (a0_4 : Int) (a0_5 : Int) (a0_6 : Int) (a0_7 : Int) (a1_0 : Int) (a1_1 : Int) (a1_2 : Int) (a1_3 : Int) (a1_4 : Int) (a1_5 : Int) (a1_6 : Int) (a1_7 : Int) (w : World) : (Instr.buildSlice 49 2 #[(0, .agg #[.int .i64 a0_0, .int .i64 a0_1, .int .u32 a0_2, .int .i64 a0_3, .int .i64 a0_4, .int .i64 a0_5, .int .i64 a0_6, .int .i64 a0_7]), (1, .agg #[.int .i64 a1_0, .int .i64 a1_1, .int .u32 a1_2, .int .i64 a1_3, .int .i64 a1_4, .int .i64 a1_5, .int .i64 a1_6, .int .i64 a1_7])]).run Tryz.prog w = .ok (.slice (some ⟨w.heap.size, 0, none⟩) 2 2) (w.alloc (.cells [.int .i64 a0_0, .int .i64 a0_1, .int .u32 a0_2, .int .i64 a0_3, .int .i64 a0_4, .int .i64 a0_5, .int .i64 a0_6, .int .i64 a0_7, .int .i64 a1_0, .int .i64 a1_1, .int .u32 a1_2, .int .i64 a1_3, .int .i64 a1_4, .int .i64 a1_5, .int .i64 a1_6, .int .i64 a1_7].toArray 34)) := by kernel_rfl
theorem afrbld34_88568 (a0_0 : Int) (a1_0 : Int) (a1_1 : Int) (a1_2 : Int) (a2_0 : Int) (a3_0 : Int) (a5_0 : Int) (w : World) : (Instr.build 34 #[(0, .int .i64 a0_0), (1, .agg #[.int .i64 a1_0, .int .u32 a1_1, .int .i64 a1_2]), (2, .int .i64 a2_0), (3, .int .i64 a3_0), (5, .int .i64 a5_0)]).run Tryz.prog w = .ok (.agg #[.int .i64 a0_0, .int .i64 a1_0, .int .u32 a1_1, .int .i64 a1_2, .int .i64 a2_0, .int .i64 a3_0, .int .i64 0, .int .i64 a5_0]) w := by kernel_rfl
theorem lim_le {l o : List Rs} {z : Int} (h : LimOk l z) (hz : z = 0) (ho : IsOrd l o) : o.length ≤ 512 := by
 rcases h with ⟨h1, _⟩ | ⟨h1, _⟩ | ⟨h1, _, o2, h2, h3⟩
 ·omega
 ·omega
 rw [ho.eq h2]; exact h3
theorem rfnd_any (A0 : Option Addr) (c0 : Nat) (l : List Rs) (A1 : Option Addr) (c1 : Nat) (es : List En) (u : Ru) (w : World) (hr : Reads w w.heap.size 17 A0 l.length (flat Rs.cells l)) (hl1 : l.length ≤ 100000) (hok : ∀ r ∈ l, r.Ok) (hr1 : Reads w w.heap.size 5 A1 es.length (flat En.cells es)) (hel1 : es.length ≤ 100000) (heo : ∀ z ∈ es, z.Ok) :
  Calls Tryz.prog 40 #[.slice A0 l.length c0, .agg #[.slice A1 es.length c1], .agg u.cells.toArray] w fun e w' => ∃ y : {y : ((Option Addr × Nat) × List Rp) × Int // FndOk es l u y.1.2 y.2 ∧ y.1.2.length ≤ 1000000 ∧ y.1.2.length ≤ y.1.1.2 ∧ y.1.1.2 ≤ maxLen}, e = .returned (.tuple #[.slice y.1.1.1.1 y.1.1.2.length y.1.1.1.2, .int .i64 y.1.2]) ∧ Pm w [.row (.slice y.1.1.1.1 y.1.1.2.length y.1.1.1.2) 34 8 y.1.1.2.length (flat Rp.cells y.1.1.2)] w' := by
 refine begin_ (vs := [.slice A0 l.length c0, .agg #[.slice A1 es.length c1], .agg u.cells.toArray]) Tryz.func40 rfl rfl rfl ?_ (Pm.start w)
 refine zSG ?_
 refine TL.pnew rfl rfl rfl (exec_box (cs := [.slice A1 es.length c1]) rfl rfl rfl) (fun g4 => ?_)
 refine TL.pnew rfl rfl rfl (exec_box (cs := u.cells) rfl rfl rfl) (fun g5 => ?_)
 refine TL.rn 2 rfl (zET (zS (zSG (TL.as_ ?_))))
 refine zET (zB ?_)
 refine TC.loop_ (α := {i : Nat // i ≤ l.length ∧ ∀ z ∈ l.take i, ¬ vldRs z = false}) (fun y => [(0, .slice A0 l.length c0), (4, .pointer (some ⟨g4, 0, none⟩)), (5, .pointer (some ⟨g5, 0, none⟩)), (8, .int .i64 ((y.1 : Nat) : Int))]) (fun y => Pm w [.blk g5 28 u.cells, .blk g4 26 [.slice A1 es.length c1]]) (fun y => l.length - y.1) (⟨0, Nat.zero_le _, fun z hz => by rw [List.take_zero] at hz; cases hz⟩) ⟨rfl, rfl, rfl, rfl, trivial⟩ (fun w1 hw => hw) ?_
 rintro ⟨i0, hi0, hma⟩
 try dsimp only at hi0 hma ⊢
 refine zS (zSG (TL.rn 2 rfl (TL.v (gN Tryz.underlying23) ?_)))
 refine TL.sp bin_lss (fun q22 => ?_) (fun q22 => ?_)
 ·refine zET (zc (zk (zT (zS (zB (zSG (TL.rn 2 rfl ?_)))))))
  have hi27 : i0 < l.length := by omega
  obtain ⟨x27, hx27⟩ := ex_at hi27
  obtain ⟨b27, o27, hA27, hbb27, hc27⟩ := hr.ad (by omega) (by decide)
  refine TL.val rfl rfl rfl (gA (i := i0) Tryz.underlying23 prssz65 rfl rfl rfl rfl hA27 (by omega)) ?_
  refine TL.v (gR rs_cel prsag65 prssz65 hbb27 hx27 hc27) ?_
  refine TL.callsplit rfl rfl rfl rfl rfl Tryz.func71 (by decide) rfl (fun w1 hw => rvldRs_any x27 w1) (fun h29 => ?_) (fun h29 => ?_)
  ·refine TL.val rfl rfl rfl (gives_boolnot rfl rfl) ?_
   refine zET (zd (zk (zN (zT (zG (TL.mv ?_))))))
   refine TL.v (gD ((i0 + 1 : Nat) : Int)) ?_
   refine TL.as_ ?_
   refine zE ?_
   exact TX.round (⟨i0 + 1, by omega, not_snoc hma hx27 (by rw [h29]; decide)⟩) (by show l.length - (i0 + 1) < l.length - i0; omega) ⟨rfl, rfl, rfl, rfl, trivial⟩ (fun w1 hw => hw)
  refine TL.val rfl rfl rfl (gives_boolnot rfl rfl) ?_
  refine zET (zc (zSG (TL.rn 2 rfl (zET (zr (zRR (zR (zRR ?_))))))))
  exact ret_pair (v1 := .slice none 0 0) (v2 := .int .i64 1) Tryz.results40 rfl rfl (fun w1 hw => ⟨⟨(((none, 0), []), 1), .inl ⟨rfl, rfl, fun h => by have h9 := h.1 x27 (List.mem_of_getElem? hx27); rw [h29] at h9; cases h9⟩, Nat.zero_le _, Nat.le_refl _, Nat.zero_le _⟩, rfl, (hw.pick [] (by decide) rfl).nilrow _ _⟩)
 refine zET (zd (zx (zX (zX (zM (zT (zS (zS ?_))))))))
 have hva : ∀ r ∈ l, vldRs r = true := fun r hr => by rw [List.take_of_length_le (by omega)] at hma; simpa using hma r hr
 refine zG (TL.v (gV 1 (.agg #[.slice A1 es.length c1]) breag26 bresz26) ?_)
 refine TL.callsplit rfl rfl rfl rfl rfl Tryz.func85 (by decide) rfl (fun w1 hw => rvalX_any A1 c1 es w1 (hr1.up hw.bel) hel1 heo) (fun h32 => ?_) (fun h32 => ?_)
 ·refine TL.rn 2 rfl (TL.ov (gV 0 (.agg (u.cells).toArray) aprag28 aprsz28) ?_)
  refine TL.gu ?_
  refine TL.callsplit rfl rfl rfl rfl rfl Tryz.func25 (by decide) rfl (fun w1 hw => rvldRu_any u w1) (fun h36 => ?_) (fun h36 => ?_)
  ·refine TL.rn 2 rfl (zET (zd (zk (zT (zS (zSG (TL.mv ?_)))))))
   refine TL.pcallPm (α := {z : Int // LimOk l z}) (fun x => .int .i64 x.1) (fun x => []) rfl rfl rfl rfl rfl Tryz.func94 (by decide) rfl (fun w1 hw => (rlimited_any A0 c0 l w1 (hr.up hw.bel) hl1 hok).mono fun en w2 ⟨x, h1, h2⟩ => ⟨x, h1, (Pm.start w1).below h2⟩) ?_
   rintro ⟨z40, hz40⟩
   dsimp only [List.cons_append, List.nil_append]
   refine TL.as_ ?_
   refine zET (zSG (TL.mv ?_))
   refine TL.sp bin_neq (fun q42 => ?_) (fun q42 => ?_)
   ·refine zET (zc (zSG (TL.rn 3 rfl (zET (zr (zR ?_))))))
    exact ret_pair (v1 := .slice none 0 0) (v2 := .int .i64 z40) Tryz.results40 rfl rfl (fun w1 hw => ⟨⟨(((none, 0), []), z40), hz40.elim (fun ⟨_, r, hr, h2⟩ => by rw [hva r hr] at h2; cases h2) (fun h => h.elim (fun ⟨h1, _, o, h3, h4⟩ => .inr (.inl ⟨h1, rfl, ⟨hva, h32, h36⟩, o, h3, h4⟩)) (fun ⟨h1, _⟩ => absurd h1 q42)), Nat.zero_le _, Nat.le_refl _, Nat.zero_le _⟩, rfl, (hw.pick [] (by decide) rfl).nilrow _ _⟩)
   refine zET (zd (zk (zT (zSG (TL.as_ ?_)))))
   refine zET (zSG (TL.mv ?_))
   refine TL.pcallPm (α := {y : (Option Addr × Nat) × List Rs // IsOrd l y.2 ∧ y.2.length ≤ y.1.2 ∧ y.1.2 ≤ maxLen}) (fun x => .slice x.1.1.1 x.1.2.length x.1.1.2) (fun x => [.row (.slice x.1.1.1 x.1.2.length x.1.1.2) 65 17 x.1.2.length (flat Rs.cells x.1.2)]) rfl rfl rfl rfl rfl Tryz.func95 (by decide) rfl (fun w1 hw => rord_any A0 c0 l w1 (hr.up hw.bel) hl1 hok) ?_
   rintro ⟨⟨⟨R45, rc45⟩, o45⟩, hP45, hR451, hR452⟩
   dsimp only [List.cons_append, List.nil_append]
   dsimp only at hP45 hR451 hR452 ⊢
   refine TL.as_ ?_
   refine zET (zS (zS ?_))
   have hol : o45.length ≤ 512 := lim_le hz40 (by omega) hP45
   refine zG (TL.as_ ?_)
   refine zET (zB (TC.nilrow 34 8 ?_))
   refine TC.loop_ (α := {y : Nat × (Option Addr × Nat) × List Rp // y.1 ≤ o45.length ∧ IsMin (PrP es l u) (Seen es l o45 y.1) y.2.2 ∧ y.2.2.length ≤ 1536 * y.1 ∧ y.2.2.length ≤ y.2.1.2 ∧ y.2.1.2 ≤ maxLen}) (fun y => [(0, .slice A0 l.length c0), (4, .pointer (some ⟨g4, 0, none⟩)), (5, .pointer (some ⟨g5, 0, none⟩)), (11, .slice R45 o45.length rc45), (12, .int .i64 ((y.1.1 : Nat) : Int)), (10, .slice y.1.2.1.1 y.1.2.2.length y.1.2.1.2)]) (fun y => Pm w [.row (.slice y.1.2.1.1 y.1.2.2.length y.1.2.1.2) 34 8 y.1.2.2.length (flat Rp.cells y.1.2.2), .row (.slice R45 o45.length rc45) 65 17 o45.length (flat Rs.cells o45), .blk g5 28 u.cells, .blk g4 26 [.slice A1 es.length c1]]) (fun y => o45.length - y.1.1) (⟨(0, (none, 0), []), Nat.zero_le _, seen_zero, Nat.zero_le _, Nat.le_refl _, Nat.zero_le _⟩) ⟨rfl, rfl, rfl, rfl, rfl, rfl, trivial⟩ (fun w1 hw => hw) ?_
   rintro ⟨⟨i, ⟨Ao, co⟩, out⟩, hi, hM, hol2, hoc, hom⟩
   dsimp only at hi hM hol2 hoc hom ⊢
   refine zS (zSG (TL.rn 2 rfl (TL.v (gN Tryz.underlying23) ?_)))
   refine TL.sp bin_lss (fun q49 => ?_) (fun q49 => ?_)
   ·refine zET (zc (zk (zT (zS (zB (zS (zSG (TL.rn 2 rfl ?_))))))))
    refine TL.fact (p := ∃ g, R45 = some ⟨g, 0, none⟩) (fun w1 hw => rowA hw (k := 1) rfl (by omega)) ?_
    rintro ⟨g_R45, rfl⟩
    have hi54 : i < o45.length := by omega
    obtain ⟨x54, hx54⟩ := ex_at hi54
    refine TL.val rfl rfl rfl (gA (i := i) Tryz.underlying23 prssz65 rfl rfl rfl rfl rfl (by omega)) ?_
    refine TL.val rfl rfl rfl (gives_loadR (off := 0 + i * 17) rfl rfl prsag65 prssz65 (rs_cel.len x54) (fun w1 hw j9 u9 h9 => flat_row rs_cel hw (q := 1) rfl hx54 j9 u9 h9)) ?_
    refine TL.callsplit rfl rfl rfl rfl rfl Tryz.func96 (by decide) rfl (fun w1 hw => rusbRs_any x54 w1) (fun h56 => ?_) (fun h56 => ?_)
    ·refine TL.val rfl rfl rfl (gives_boolnot rfl rfl) ?_
     refine zET (zd (zk (zT ?_)))
     refine TC.join (α := Nat) (fun y => [(0, .slice A0 l.length c0), (4, .pointer (some ⟨g4, 0, none⟩)), (5, .pointer (some ⟨g5, 0, none⟩)), (11, .slice (some ⟨g_R45, 0, none⟩) o45.length rc45), (12, .int .i64 ((i : Nat) : Int)), (10, .slice Ao out.length co), (13, .pointer (some ⟨y, 0, none⟩))]) (fun y => Pm w [.blk y 34 [.int .i64 0, .int .i64 x54.v, .int .u32 x54.dst, .int .i64 x54.proto, .int .i64 x54.flow, .int .i64 0, .int .i64 0, .int .i64 0], .row (.slice Ao out.length co) 34 8 out.length (flat Rp.cells out), .row (.slice (some ⟨g_R45, 0, none⟩) o45.length rc45) 65 17 o45.length (flat Rs.cells o45), .blk g5 28 u.cells, .blk g4 26 [.slice A1 es.length c1]]) ?_ ?_
     ·refine TC.held (ls := #[Ff,Ff,Ff,Ff,Ff,Ff,Ff,Ff,Ff,Ff,Ff,Ff,Ff]) (Pm w [.row (.slice Ao out.length co) 34 8 out.length (flat Rp.cells out), .row (.slice (some ⟨g_R45, 0, none⟩) o45.length rc45) 65 17 o45.length (flat Rs.cells o45), .blk g5 28 u.cells, .blk g4 26 [.slice A1 es.length c1]]) (by kernel_rfl) rfl rfl (fun w hw => hw.drawn _) ?_
      refine TH.tk 0 rfl rfl rfl (gives_move rfl rfl) (fun w1 hw => hw) ?_
      refine TH.tk 1 rfl rfl rfl (gives_move rfl rfl) (fun w1 hw => hw) ?_
      refine TH.tk 2 rfl rfl rfl (gA (i := i) Tryz.underlying23 prssz65 rfl rfl rfl rfl rfl (by omega)) (fun w1 hw => hw) ?_
      refine TH.tk 3 rfl rfl rfl (gives_loadR (off := 0 + i * 17) rfl rfl prsag65 prssz65 (rs_cel.len x54) (fun w1 hw j9 u9 h9 => flat_row rs_cel hw (q := 1) rfl hx54 j9 u9 h9)) (fun w1 hw => hw) ?_
      refine TH.tk 5 rfl rfl rfl (gives_move rfl rfl) (fun w1 hw => hw) ?_
      refine TH.tk 6 rfl rfl rfl (gives_move rfl rfl) (fun w1 hw => hw) ?_
      refine TH.tk 7 rfl rfl rfl (gA (i := i) Tryz.underlying23 prssz65 rfl rfl rfl rfl rfl (by omega)) (fun w1 hw => hw) ?_
      refine TH.tk 8 rfl rfl rfl (gF prsfld65_6) (fun w1 hw => hw) ?_
      refine TH.tk 9 rfl rfl rfl (gives_load (v := .int .i64 x54.flow) rfl rfl pcmag3 (fun w1 hw => flat_row rs_cel hw (q := 1) rfl hx54 6 _ rfl)) (fun w1 hw => hw) ?_
      refine TH.two' (listed1 := #[Tt,Tt,Tt,Tt,Tt,Tt,Tt,Tt,Tt,Tt,Ff,Ff,Ff]) (listed2 := #[Tt,Tt,Tt,Tt,Ff,Tt,Tt,Tt,Tt,Tt,Ff,Tt,Ff]) 4 11 rfl rfl (by kernel_rfl) rfl rfl ?_ ?_
      ·refine TL.pcall1 (r := .agg ((trcR x54).cells).toArray) rfl rfl rfl rfl rfl Tryz.func69 (by decide) rfl (fun w1 hw => rtrc_any x54 w1) ?_
       refine zE ?_
       refine TX.he (fun w1 hw => hw) fun hS => ?_
       refine TH.t 10 rfl (gives_build (v := .agg #[.int .i64 0, .int .i64 ((trcR x54).v), .int .u32 ((trcR x54).dst), .int .i64 ((trcR x54).proto), .int .i64 x54.flow, .int .i64 0, .int .i64 0, .int .i64 0]) rfl rfl (fun w => afrbld34_98504 _ _ _ _ w)) hS ?_
       refine TH.only' 11 rfl (by kernel_rfl) rfl ?_
       refine TL.pnew rfl rfl rfl (exec_alloc (cs := [.int .i64 0, .int .i64 0, .int .u32 0, .int .i64 0, .int .i64 0, .int .i64 0, .int .i64 0, .int .i64 0]) rfl asezv34 rfl) (fun g13 => ?_)
       refine zE ?_
       refine TX.held (fun w1 hw => hw.pick [1, 2, 3, 4] (by decide) rfl) ?_
       refine TH.only' 12 rfl (by kernel_rfl) rfl ?_
       refine TL.pstore (k := 0) (vs := [.int .i64 0, .int .i64 ((trcR x54).v), .int .u32 ((trcR x54).dst), .int .i64 ((trcR x54).proto), .int .i64 x54.flow, .int .i64 0, .int .i64 0, .int .i64 0]) rfl rfl rfl rfl rfl rfl rfl abrsz34 aseone_i64i64u32i64i64i64i64i64 (by show 8 ≤ 8; decide) rfl ?_
       refine zE ?_
       refine TX.held (fun w1 hw => hw.pick [1, 2, 3, 4] (by decide) rfl) ?_
       refine TH.done (by kernel_rfl) ?_
       exact TX.joined (g13) (⟨rfl, rfl, rfl, rfl, rfl, rfl, rfl, trivial⟩) (fun w1 hw => hw)
      refine TL.pnew rfl rfl rfl (exec_alloc (cs := [.int .i64 0, .int .i64 0, .int .u32 0, .int .i64 0, .int .i64 0, .int .i64 0, .int .i64 0, .int .i64 0]) rfl asezv34 rfl) (fun g13 => ?_)
      refine zE ?_
      refine TX.held (fun w1 hw => hw.pick [1, 2, 3, 4] (by decide) rfl) ?_
      refine TH.only' 4 rfl (by kernel_rfl) rfl ?_
      refine TL.pcall1 (r := .agg ((trcR x54).cells).toArray) rfl rfl rfl rfl rfl Tryz.func69 (by decide) rfl (fun w1 hw => rtrc_any x54 w1) ?_
      refine zE ?_
      refine TX.he (fun w1 hw => hw.pick [1, 2, 3, 4] (by decide) rfl) fun hS => ?_
      refine TH.t 10 rfl (gives_build (v := .agg #[.int .i64 0, .int .i64 ((trcR x54).v), .int .u32 ((trcR x54).dst), .int .i64 ((trcR x54).proto), .int .i64 x54.flow, .int .i64 0, .int .i64 0, .int .i64 0]) rfl rfl (fun w => afrbld34_98504 _ _ _ _ w)) hS ?_
      refine TH.only' 12 rfl (by kernel_rfl) rfl ?_
      refine TL.pstore (k := 0) (vs := [.int .i64 0, .int .i64 ((trcR x54).v), .int .u32 ((trcR x54).dst), .int .i64 ((trcR x54).proto), .int .i64 x54.flow, .int .i64 0, .int .i64 0, .int .i64 0]) rfl rfl rfl rfl rfl rfl rfl abrsz34 aseone_i64i64u32i64i64i64i64i64 (by show 8 ≤ 8; decide) rfl ?_
      refine zE ?_
      refine TX.held (fun w1 hw => hw.pick [1, 2, 3, 4] (by decide) rfl) ?_
      refine TH.done (by kernel_rfl) ?_
      exact TX.joined (g13) (⟨rfl, rfl, rfl, rfl, rfl, rfl, rfl, trivial⟩) (fun w1 hw => hw)
     rintro g13
     refine zS (TC.tail 15 (by kernel_rfl) (by kernel_rfl) (fun w hw => hw.drawn _) ?_)
     refine TS.v (gF arpfld34_1) ?_
     refine TS.v (gV 0 (.agg #[.int .i64 x54.v, .int .u32 x54.dst, .int .i64 x54.proto]) pcpag32 prssz32) ?_
     refine TS.v (gF arpfld34_2) ?_
     refine TS.v (gL 0 pcmag3) ?_
     refine TS.val rfl rfl rfl (gives_build (v := .agg #[.int .i64 1, .int .i64 x54.v, .int .u32 x54.dst, .int .i64 x54.proto, .int .i64 x54.flow, .int .i64 0, .int .i64 0, .int .i64 0]) rfl rfl (fun w => asebld34_50680 _ _ _ _ _ w)) ?_
     refine TS.v (gF arpfld34_1) ?_
     refine TS.v (gV 0 (.agg #[.int .i64 x54.v, .int .u32 x54.dst, .int .i64 x54.proto]) pcpag32 prssz32) ?_
     refine TS.v (gF arpfld34_2) ?_
     refine TS.v (gL 0 pcmag3) ?_
     refine TS.val rfl rfl rfl (gives_move rfl rfl) ?_
     refine TS.val rfl rfl rfl (gives_move rfl rfl) ?_
     refine TS.val rfl rfl rfl (gA (i := i) Tryz.underlying23 prssz65 rfl rfl rfl rfl rfl (by omega)) ?_
     refine TS.v (gF prsfld65_7) ?_
     refine TS.val rfl rfl rfl (gives_load (v := .int .i64 x54.ttl) rfl rfl pcmag3 (fun w1 hw => flat_row rs_cel hw (q := 2) rfl hx54 7 _ rfl)) ?_
     refine TS.val rfl rfl rfl (gives_build (v := .agg #[.int .i64 3, .int .i64 x54.v, .int .u32 x54.dst, .int .i64 x54.proto, .int .i64 x54.flow, .int .i64 x54.ttl, .int .i64 0, .int .i64 0]) rfl rfl (fun w => afrbld34_14002 _ _ _ _ _ _ w)) ?_
     refine TS.end_ ?_
     refine TL.prowS (e := 34) (size := 8) (cs := flat Rp.cells [(⟨1, x54.v, x54.dst, x54.proto, x54.flow, 0, 0, 0⟩ : Rp), (⟨3, x54.v, x54.dst, x54.proto, x54.flow, x54.ttl, 0, 0⟩ : Rp)]) rfl rfl rfl rfl rfl (fun w => afrbs49_2_31088 _ _ _ _ _ _ _ _ _ _ _ _ _ _ _ _ w) (by decide) rfl (fun g84 => ?_)
     refine TL.as_ ?_
     refine zET ?_
     refine TC.join (α := {y : (Option Addr × Nat) × List Rp // y.2 = allC es x54 ∧ y.2.length ≤ y.1.2 ∧ y.1.2 ≤ maxLen}) (fun y => [(0, .slice A0 l.length c0), (4, .pointer (some ⟨g4, 0, none⟩)), (5, .pointer (some ⟨g5, 0, none⟩)), (11, .slice (some ⟨g_R45, 0, none⟩) o45.length rc45), (12, .int .i64 ((i : Nat) : Int)), (10, .slice Ao out.length co), (13, .pointer (some ⟨g13, 0, none⟩)), (14, .slice y.1.1.1 y.1.2.length y.1.1.2)]) (fun y => Pm w [.row (.slice y.1.1.1 y.1.2.length y.1.1.2) 34 8 y.1.2.length (flat Rp.cells y.1.2), .blk g13 34 [.int .i64 0, .int .i64 x54.v, .int .u32 x54.dst, .int .i64 x54.proto, .int .i64 x54.flow, .int .i64 0, .int .i64 0, .int .i64 0], .row (.slice Ao out.length co) 34 8 out.length (flat Rp.cells out), .row (.slice (some ⟨g_R45, 0, none⟩) o45.length rc45) 65 17 o45.length (flat Rs.cells o45), .blk g5 28 u.cells, .blk g4 26 [.slice A1 es.length c1]]) ?_ ?_
     ·refine zSG (TL.rn 2 rfl ?_)
      refine TL.val rfl rfl rfl (gA (i := i) Tryz.underlying23 prssz65 rfl rfl rfl rfl rfl (by omega)) ?_
      refine TL.v (gF prsfld65_8) ?_
      refine TL.vsplit rfl rfl rfl (gives_load (v := .bool x54.ans) rfl rfl prsag4 (fun w1 hw => flat_row rs_cel hw (q := 3) rfl hx54 8 _ rfl)) (fun h89 => ?_) (fun h89 => ?_)
      ·refine zET (zc (TC.held (ls := #[Ff,Ff,Ff,Ff,Ff,Ff,Ff,Ff,Ff,Ff,Ff,Ff,Ff,Ff,Ff,Ff,Ff,Ff,Ff,Ff,Ff,Ff,Ff,Ff,Ff,Ff,Ff]) (Pm w [.blk g13 34 [.int .i64 0, .int .i64 x54.v, .int .u32 x54.dst, .int .i64 x54.proto, .int .i64 x54.flow, .int .i64 0, .int .i64 0, .int .i64 0], .row (.slice Ao out.length co) 34 8 out.length (flat Rp.cells out), .row (.slice (some ⟨g_R45, 0, none⟩) o45.length rc45) 65 17 o45.length (flat Rs.cells o45), .blk g5 28 u.cells, .blk g4 26 [.slice A1 es.length c1]]) (by kernel_rfl) rfl rfl (fun w hw => hw.drawn _) ?_))
       refine TH.tk 0 rfl rfl rfl (gives_move rfl rfl) (fun w1 hw => hw.pick [1, 2, 3, 4, 5] (by decide) rfl) ?_
       refine TH.tk 1 rfl rfl rfl (gF arpfld34_1) (fun w1 hw => hw.pick [1, 2, 3, 4, 5] (by decide) rfl) ?_
       refine TH.tk 2 rfl rfl rfl (gV 0 (.agg #[.int .i64 x54.v, .int .u32 x54.dst, .int .i64 x54.proto]) pcpag32 prssz32) (fun w1 hw => hw.pick [1, 2, 3, 4, 5] (by decide) rfl) ?_
       refine TH.tk 3 rfl rfl rfl (gF arpfld34_2) (fun w1 hw => hw.pick [1, 2, 3, 4, 5] (by decide) rfl) ?_
       refine TH.tk 4 rfl rfl rfl (gL 0 pcmag3) (fun w1 hw => hw.pick [1, 2, 3, 4, 5] (by decide) rfl) ?_
       refine TH.tk 5 rfl rfl rfl (gives_move rfl rfl) (fun w1 hw => hw.pick [1, 2, 3, 4, 5] (by decide) rfl) ?_
       refine TH.tk 6 rfl rfl rfl (gives_move rfl rfl) (fun w1 hw => hw.pick [1, 2, 3, 4, 5] (by decide) rfl) ?_
       refine TH.tk 7 rfl rfl rfl (gA (i := i) Tryz.underlying23 prssz65 rfl rfl rfl rfl rfl (by omega)) (fun w1 hw => hw.pick [1, 2, 3, 4, 5] (by decide) rfl) ?_
       refine TH.tk 8 rfl rfl rfl (gF prsfld65_7) (fun w1 hw => hw.pick [1, 2, 3, 4, 5] (by decide) rfl) ?_
       refine TH.tk 9 rfl rfl rfl (gives_load (v := .int .i64 x54.ttl) rfl rfl pcmag3 (fun w1 hw => flat_row rs_cel hw (q := 2) rfl hx54 7 _ rfl)) (fun w1 hw => hw.pick [1, 2, 3, 4, 5] (by decide) rfl) ?_
       refine TH.tk 10 rfl rfl rfl (gV 4 (.agg #[.slice A1 es.length c1]) breag26 bresz26) (fun w1 hw => hw.pick [1, 2, 3, 4, 5] (by decide) rfl) ?_
       refine TH.tk 11 rfl rfl rfl (gives_move rfl rfl) (fun w1 hw => hw.pick [1, 2, 3, 4, 5] (by decide) rfl) ?_
       refine TH.tk 12 rfl rfl rfl (gives_move rfl rfl) (fun w1 hw => hw.pick [1, 2, 3, 4, 5] (by decide) rfl) ?_
       refine TH.tk 13 rfl rfl rfl (gA (i := i) Tryz.underlying23 prssz65 rfl rfl rfl rfl rfl (by omega)) (fun w1 hw => hw.pick [1, 2, 3, 4, 5] (by decide) rfl) ?_
       refine TH.tk 14 rfl rfl rfl (gF prsfld65_11) (fun w1 hw => hw.pick [1, 2, 3, 4, 5] (by decide) rfl) ?_
       refine TH.tk 15 rfl rfl rfl (gF prsfld63_0) (fun w1 hw => hw.pick [1, 2, 3, 4, 5] (by decide) rfl) ?_
       refine TH.tk 16 rfl rfl rfl (gives_load (v := .int .u32 x54.src) rfl rfl pcmag30 (fun w1 hw => flat_row rs_cel hw (q := 2) rfl hx54 11 _ rfl)) (fun w1 hw => hw.pick [1, 2, 3, 4, 5] (by decide) rfl) ?_
       refine TH.tk 17 rfl rfl rfl (gives_move rfl rfl) (fun w1 hw => hw.pick [1, 2, 3, 4, 5] (by decide) rfl) ?_
       refine TH.tk 18 rfl rfl rfl (gives_move rfl rfl) (fun w1 hw => hw.pick [1, 2, 3, 4, 5] (by decide) rfl) ?_
       refine TH.tk 19 rfl rfl rfl (gA (i := i) Tryz.underlying23 prssz65 rfl rfl rfl rfl rfl (by omega)) (fun w1 hw => hw.pick [1, 2, 3, 4, 5] (by decide) rfl) ?_
       refine TH.tk 20 rfl rfl rfl (gF prsfld65_10) (fun w1 hw => hw.pick [1, 2, 3, 4, 5] (by decide) rfl) ?_
       refine TH.tk 21 rfl rfl rfl (gives_load (v := .int .i64 x54.back) rfl rfl pcmag3 (fun w1 hw => flat_row rs_cel hw (q := 2) rfl hx54 10 _ rfl)) (fun w1 hw => hw.pick [1, 2, 3, 4, 5] (by decide) rfl) ?_
       refine TH.only' 22 rfl (by kernel_rfl) rfl ?_
       refine TL.pcall1 (r := .int .i64 (provR es x54.src x54.back)) rfl rfl rfl rfl rfl Tryz.func83 (by decide) rfl (fun w1 hw => rprov_any A1 c1 es x54.src x54.back (by have := hok x54 ((hP45.2 x54).1 (List.mem_of_getElem? hx54)).1; exact ⟨this.2.2.1, this.2.2.2⟩) w1 (hr1.up hw.bel) hel1 heo) ?_
       refine zE ?_
       refine TX.he (fun w1 hw => hw.pick [1, 2, 3, 4, 5] (by decide) rfl) fun hS => ?_
       refine TH.t 23 rfl (gives_build (v := .agg #[.int .i64 2, .int .i64 x54.v, .int .u32 x54.dst, .int .i64 x54.proto, .int .i64 x54.flow, .int .i64 x54.ttl, .int .i64 0, .int .i64 (provR es x54.src x54.back)]) rfl rfl (fun w => afrbld34_88568 _ _ _ _ _ _ _ w)) hS ?_
       refine TH.only' 24 rfl (by kernel_rfl) rfl ?_
       refine TL.prowS (e := 34) (size := 8) (cs := flat Rp.cells [(⟨2, x54.v, x54.dst, x54.proto, x54.flow, x54.ttl, 0, provR es x54.src x54.back⟩ : Rp)]) rfl rfl rfl rfl rfl (fun w => aeabs49_1_10276 _ _ _ _ _ _ _ _ w) (by decide) rfl (fun g114 => ?_)
       refine zE ?_
       refine TX.held (fun w1 hw => hw.pick [2, 3, 4, 5, 6] (by decide) rfl) ?_
       refine TH.only' 25 rfl (by kernel_rfl) rfl ?_
       refine TL.appendT (k := 1) rfl rfl rfl rfl Tryz.underlying49 aseel49 rfl rfl rfl (fun w1 hw => pm_reads hw (k := 0) rfl) (flat_one rp_cel _) (by show _ * 64 ≤ _; omega) (2 + 1) (rfl) (flat Rp.cells (([(⟨1, x54.v, x54.dst, x54.proto, x54.flow, 0, 0, 0⟩ : Rp), (⟨3, x54.v, x54.dst, x54.proto, x54.flow, x54.ttl, 0, 0⟩ : Rp)]) ++ [(⟨2, x54.v, x54.dst, x54.proto, x54.flow, x54.ttl, 0, provR es x54.src x54.back⟩ : Rp)])) ((flat_app _ _).symm) (fun A115 c115 hA1151 hA1152 => ?_)
       refine zE ?_
       refine TX.he (fun w1 hw => hw.pick [2, 3, 4, 5, 6] (by decide) rfl) fun hS => ?_
       refine TH.t 26 rfl (gives_assign rfl rfl) hS ?_
       refine TH.done (by kernel_rfl) ?_
       exact TX.joined (⟨((A115, c115), ([(⟨1, x54.v, x54.dst, x54.proto, x54.flow, 0, 0, 0⟩ : Rp), (⟨3, x54.v, x54.dst, x54.proto, x54.flow, x54.ttl, 0, 0⟩ : Rp)]) ++ [(⟨2, x54.v, x54.dst, x54.proto, x54.flow, x54.ttl, 0, provR es x54.src x54.back⟩ : Rp)]), by unfold allC; rw [if_pos (by rw [h89])]; try rfl, hA1151, hA1152⟩) (⟨rfl, rfl, rfl, rfl, rfl, rfl, rfl, rfl, trivial⟩) (fun w1 hw => hw.pick [1, 2, 3, 4, 5, 6] (by decide) rfl)
      refine zET (zd (zk ?_))
      exact TX.joined (⟨(((some ⟨g84, 0, none⟩), 2), [(⟨1, x54.v, x54.dst, x54.proto, x54.flow, 0, 0, 0⟩ : Rp), (⟨3, x54.v, x54.dst, x54.proto, x54.flow, x54.ttl, 0, 0⟩ : Rp)]), by unfold allC; rw [if_neg (by rw [h89]; decide)]; try rfl, Nat.le_refl 2, (by show 2 ≤ maxLen; decide)⟩) (⟨rfl, rfl, rfl, rfl, rfl, rfl, rfl, rfl, trivial⟩) (fun w1 hw => hw)
     rintro ⟨⟨⟨Aa, ca⟩, al⟩, hal, hac, ham⟩
     dsimp only at hal hac ham ⊢
     have hal3 : al.length ≤ 3 := by rw [hal]; exact allC_len es x54
     refine zSG (TL.mv ?_)
     refine TL.v (gV 1 (.agg #[.int .i64 0, .int .i64 x54.v, .int .u32 x54.dst, .int .i64 x54.proto, .int .i64 x54.flow, .int .i64 0, .int .i64 0, .int .i64 0]) abrag34 abrsz34) ?_
     refine TL.pcallPm (α := {y : (Option Addr × Nat) × List Rs // IsSt l (trcR x54) x54.flow y.2 ∧ y.2.length ≤ y.1.2 ∧ y.1.2 ≤ maxLen}) (fun x => .slice x.1.1.1 x.1.2.length x.1.1.2) (fun x => [.row (.slice x.1.1.1 x.1.2.length x.1.1.2) 65 17 x.1.2.length (flat Rs.cells x.1.2)]) rfl rfl rfl rfl rfl Tryz.func74 (by decide) rfl (fun w1 hw => about_any A0 c0 l (⟨0, x54.v, x54.dst, x54.proto, x54.flow, 0, 0, 0⟩ : Rp) w1 (hr.up hw.bel) hl1 hok) ?_
     rintro ⟨⟨⟨R118, rc118⟩, st118⟩, hP118, hR1181, hR1182⟩
     dsimp only [List.cons_append, List.nil_append]
     dsimp only at hP118 hR1181 hR1182 ⊢
     refine TL.as_ ?_
     refine zET (zS ?_)
     have hown : st118.length ≤ 512 := Nat.le_trans (hP118.leo hP45) hol
     refine zG (TL.as_ ?_)
     refine zET (zB ?_)
     refine TC.loop_ (α := {y : Nat × (Option Addr × Nat) × List Rp // y.1 ≤ st118.length ∧ IsMin (PrP es l u) (Seen2 es l o45 i x54 st118 y.1) y.2.2 ∧ y.2.2.length ≤ 1536 * i + 3 * y.1 ∧ y.2.2.length ≤ y.2.1.2 ∧ y.2.1.2 ≤ maxLen}) (fun y => [(0, .slice A0 l.length c0), (4, .pointer (some ⟨g4, 0, none⟩)), (5, .pointer (some ⟨g5, 0, none⟩)), (11, .slice (some ⟨g_R45, 0, none⟩) o45.length rc45), (12, .int .i64 ((i : Nat) : Int)), (13, .pointer (some ⟨g13, 0, none⟩)), (14, .slice Aa al.length ca), (15, .slice R118 st118.length rc118), (16, .int .i64 ((y.1.1 : Nat) : Int)), (10, .slice y.1.2.1.1 y.1.2.2.length y.1.2.1.2)]) (fun y => Pm w [.row (.slice R118 st118.length rc118) 65 17 st118.length (flat Rs.cells st118), .row (.slice Aa al.length ca) 34 8 al.length (flat Rp.cells al), .blk g13 34 [.int .i64 0, .int .i64 x54.v, .int .u32 x54.dst, .int .i64 x54.proto, .int .i64 x54.flow, .int .i64 0, .int .i64 0, .int .i64 0], .row (.slice y.1.2.1.1 y.1.2.2.length y.1.2.1.2) 34 8 y.1.2.2.length (flat Rp.cells y.1.2.2), .row (.slice (some ⟨g_R45, 0, none⟩) o45.length rc45) 65 17 o45.length (flat Rs.cells o45), .blk g5 28 u.cells, .blk g4 26 [.slice A1 es.length c1]]) (fun y => st118.length - y.1.1) (⟨(0, (Ao, co), out), Nat.zero_le _, seen2_start hM, by dsimp only; omega, hoc, hom⟩) ⟨rfl, rfl, rfl, rfl, rfl, rfl, rfl, rfl, rfl, rfl, trivial⟩ (fun w1 hw => hw) ?_
     rintro ⟨⟨k, ⟨Ao2, co2⟩, out2⟩, hk, hM2, hol3, hoc2, hom2⟩
     dsimp only at hk hM2 hol3 hoc2 hom2 ⊢
     refine zS (zSG (TL.rn 2 rfl (TL.v (gN Tryz.underlying23) ?_)))
     refine TL.sp bin_lss (fun q122 => ?_) (fun q122 => ?_)
     ·refine zET (zc (zk (zT (zS (zB (zS ?_))))))
      obtain ⟨xk, hxk⟩ : ∃ xk, st118[k]? = some xk := ⟨_, List.getElem?_eq_getElem (by omega)⟩
      refine zG (TL.as_ ?_)
      refine zET (zB ?_)
      refine TC.loop_ (α := {y : Nat × (Option Addr × Nat) × List Rp // y.1 ≤ al.length ∧ IsMin (PrP es l u) (Seen3 es l o45 i x54 st118 k al y.1 xk.at_) y.2.2 ∧ y.2.2.length ≤ 1536 * i + 3 * k + y.1 ∧ y.2.2.length ≤ y.2.1.2 ∧ y.2.1.2 ≤ maxLen}) (fun y => [(0, .slice A0 l.length c0), (4, .pointer (some ⟨g4, 0, none⟩)), (5, .pointer (some ⟨g5, 0, none⟩)), (11, .slice (some ⟨g_R45, 0, none⟩) o45.length rc45), (12, .int .i64 ((i : Nat) : Int)), (13, .pointer (some ⟨g13, 0, none⟩)), (14, .slice Aa al.length ca), (15, .slice R118 st118.length rc118), (16, .int .i64 ((k : Nat) : Int)), (17, .int .i64 ((y.1.1 : Nat) : Int)), (10, .slice y.1.2.1.1 y.1.2.2.length y.1.2.1.2)]) (fun y => Pm w [.row (.slice R118 st118.length rc118) 65 17 st118.length (flat Rs.cells st118), .row (.slice Aa al.length ca) 34 8 al.length (flat Rp.cells al), .blk g13 34 [.int .i64 0, .int .i64 x54.v, .int .u32 x54.dst, .int .i64 x54.proto, .int .i64 x54.flow, .int .i64 0, .int .i64 0, .int .i64 0], .row (.slice y.1.2.1.1 y.1.2.2.length y.1.2.1.2) 34 8 y.1.2.2.length (flat Rp.cells y.1.2.2), .row (.slice (some ⟨g_R45, 0, none⟩) o45.length rc45) 65 17 o45.length (flat Rs.cells o45), .blk g5 28 u.cells, .blk g4 26 [.slice A1 es.length c1]]) (fun y => al.length - y.1.1) (⟨(0, (Ao2, co2), out2), Nat.zero_le _, seen3_start hM2, by dsimp only; omega, hoc2, hom2⟩) ⟨rfl, rfl, rfl, rfl, rfl, rfl, rfl, rfl, rfl, rfl, rfl, trivial⟩ (fun w1 hw => hw) ?_
      rintro ⟨⟨n, ⟨Ao3, co3⟩, out3⟩, hn, hM3, hol4, hoc3, hom3⟩
      dsimp only at hn hM3 hol4 hoc3 hom3 ⊢
      refine zS (zSG (TL.rn 2 rfl (TL.v (gN Tryz.underlying49) ?_)))
      refine TL.sp bin_lss (fun q128 => ?_) (fun q128 => ?_)
      ·refine zET (zc (zk (zT (zS (zB (zSG (TL.rn 2 rfl ?_)))))))
       refine TL.fact (p := ∃ g, Aa = some ⟨g, 0, none⟩) (fun w1 hw => rowA hw (k := 1) rfl (by omega)) ?_
       rintro ⟨g_Aa, rfl⟩
       have hi133 : n < al.length := by omega
       obtain ⟨x133, hx133⟩ := ex_at hi133
       refine TL.val rfl rfl rfl (gA (i := n) Tryz.underlying49 abrsz34 rfl rfl rfl rfl rfl (by omega)) ?_
       refine TL.val rfl rfl rfl (gives_loadR (off := 0 + n * 8) rfl rfl abrag34 abrsz34 (rp_cel.len x133) (fun w1 hw j9 u9 h9 => flat_row rp_cel hw (q := 1) rfl hx133 j9 u9 h9)) ?_
       refine TL.pnew rfl rfl rfl (exec_alloc (cs := [.int .i64 0, .int .i64 0, .int .u32 0, .int .i64 0, .int .i64 0, .int .i64 0, .int .i64 0, .int .i64 0]) rfl asezv34 rfl) (fun g18 => ?_)
       refine TL.pstore (k := 0) (vs := x133.cells) rfl rfl rfl rfl rfl rfl rfl abrsz34 (rp_cel.one _) (by show 8 ≤ 8; decide) (L' := [.blk g18 34 x133.cells, .row (.slice R118 st118.length rc118) 65 17 st118.length (flat Rs.cells st118), .row (.slice (some ⟨g_Aa, 0, none⟩) al.length ca) 34 8 al.length (flat Rp.cells al), .blk g13 34 [.int .i64 0, .int .i64 x54.v, .int .u32 x54.dst, .int .i64 x54.proto, .int .i64 x54.flow, .int .i64 0, .int .i64 0, .int .i64 0], .row (.slice Ao3 out3.length co3) 34 8 out3.length (flat Rp.cells out3), .row (.slice (some ⟨g_R45, 0, none⟩) o45.length rc45) 65 17 o45.length (flat Rs.cells o45), .blk g5 28 u.cells, .blk g4 26 [.slice A1 es.length c1]]) rfl ?_
       refine zET (zSG (TL.rn 2 rfl ?_))
       refine TL.fact (p := ∃ g, R118 = some ⟨g, 0, none⟩) (fun w1 hw => rowA hw (k := 1) rfl (by omega)) ?_
       rintro ⟨g_R118, rfl⟩
       have hi137 : k < st118.length := by omega
       obtain ⟨x137, hx137⟩ := ex_at hi137
       refine TL.val rfl rfl rfl (gA (i := k) Tryz.underlying23 prssz65 rfl rfl rfl rfl rfl (by omega)) ?_
       refine TL.v (gF prsfld65_3) ?_
       refine TL.val rfl rfl rfl (gives_load (v := .int .i64 x137.at_) rfl rfl pcmag3 (fun w1 hw => flat_row rs_cel hw (q := 1) rfl hx137 3 _ rfl)) ?_
       refine TL.v (gF arpfld34_4) ?_
       refine TL.pstore (k := 0) (vs := [.int .i64 x137.at_]) rfl rfl rfl rfl rfl rfl rfl pcmsz3 aeaone_i64 (by show 7 ≤ 8; decide) rfl ?_
       refine zET (zS ?_)
       have hxe : x137 = xk := Option.some.inj (hx137.symm.trans hxk)
       subst hxe
       have hc133 : CandOf es x54 (x133.when x137.at_) := allC_when (by rw [← hal]; exact hx133)
       have hstp : IsSt l (Rp.trc (x133.when x137.at_)) (Rp.flow (x133.when x137.at_)) st118 := by rw [hc133.1, hc133.2.1]; exact hP118
       refine zG (TL.mv ?_)
       refine TL.v (gV 0 (.agg #[.int .i64 x133.kind, .int .i64 x133.v, .int .u32 x133.dst, .int .i64 x133.proto, .int .i64 x133.flow, .int .i64 x133.ttl, .int .i64 x137.at_, .int .i64 x133.prov]) abrag34 abrsz34) ?_
       refine TL.pcallPm (α := {b : Bool // b = true ↔ HasP out3 (x133.when x137.at_)}) (fun x => .bool x.1) (fun x => []) rfl rfl rfl rfl rfl Tryz.func97 (by decide) rfl (fun w1 hw => (has_any Ao3 co3 out3 (x133.when x137.at_) w1 (pm_rd hw (k := 4) rfl) (by omega)).mono fun en w2 ⟨x, h1, h2⟩ => ⟨x, h1, (Pm.start w1).below h2⟩) ?_
       rintro ⟨bd143, hbd143⟩
       dsimp only [List.cons_append, List.nil_append]
       cases bd143 with
       | true =>
        refine TL.rn 8 rfl (zET (zd (zk (zN (zT (zG (TL.mv ?_)))))))
        refine TL.v (gD ((n + 1 : Nat) : Int)) ?_
        refine TL.as_ ?_
        refine zE ?_
        exact TX.round (⟨(n + 1, (Ao3, co3), out3), by dsimp only; omega, seen3_step (hM3.skip (fun _ => hbd143.1 rfl)) hx133, by dsimp only; omega, hoc3, hom3⟩) (by show al.length - (n + 1) < al.length - n; omega) ⟨rfl, rfl, rfl, rfl, rfl, rfl, rfl, rfl, rfl, rfl, rfl, trivial⟩ (fun w1 hw => hw.pick [1, 2, 3, 4, 5, 6, 7] (by decide) rfl)
       | false =>
        refine TL.rn 3 rfl (TL.ov (gV 7 (.agg #[.slice A1 es.length c1]) breag26 bresz26) ?_)
        refine TL.ov (gV 6 (.agg (u.cells).toArray) aprag28 aprsz28) ?_
        refine TL.ov (gV 0 (.agg #[.int .i64 x133.kind, .int .i64 x133.v, .int .u32 x133.dst, .int .i64 x133.proto, .int .i64 x133.flow, .int .i64 x133.ttl, .int .i64 x137.at_, .int .i64 x133.prov]) abrag34 abrsz34) ?_
        refine TL.gu ?_
        refine TL.pcallPm (α := {b : Bool // b = true ↔ PrP es st118 u (x133.when x137.at_)}) (fun x => .bool x.1) (fun x => []) rfl rfl rfl rfl rfl Tryz.func38 (by decide) rfl (fun w1 hw => (rproves_any (some ⟨g_R118, 0, none⟩) rc118 st118 A1 c1 es u (x133.when x137.at_) w1 (pm_rd hw (k := 1) rfl) (by omega) (fun r hr => hok r ((hP118.mem r).1 hr).1) (hr1.up hw.bel) hel1 heo).mono fun en w2 ⟨x, h1, h2⟩ => ⟨x, h1, (Pm.start w1).below h2⟩) ?_
        rintro ⟨bd150, hbd150⟩
        dsimp only [List.cons_append, List.nil_append]
        cases bd150 with
        | true =>
         refine TL.pk ?_
         refine zET (zc ?_)
         have hlate : ∀ q ∈ out3, q.cand = Rp.cand (x133.when x137.at_) → Rp.at_ (x133.when x137.at_) < q.at_ := fun q hq hc => Int.not_le.1 fun h => absurd (hbd143.2 ⟨q, hq, hc, h⟩) (by decide)
         refine zG (TL.mv ?_)
         refine TL.v (gV 0 (.agg #[.int .i64 x133.kind, .int .i64 x133.v, .int .u32 x133.dst, .int .i64 x133.proto, .int .i64 x133.flow, .int .i64 x133.ttl, .int .i64 x137.at_, .int .i64 x133.prov]) abrag34 abrsz34) ?_
         refine TL.call (α := {y : (Option Addr × Nat) × List Rp // PutOk out3 (x133.when x137.at_) y.2 ∧ y.2.length ≤ out3.length + 1 ∧ y.2.length ≤ y.1.2 ∧ y.1.2 ≤ maxLen}) (r := fun y => .slice y.1.1.1 y.1.2.length y.1.1.2) (I' := fun y => Pm w [.row (.slice y.1.1.1 y.1.2.length y.1.1.2) 34 8 y.1.2.length (flat Rp.cells y.1.2), .blk g18 34 [.int .i64 x133.kind, .int .i64 x133.v, .int .u32 x133.dst, .int .i64 x133.proto, .int .i64 x133.flow, .int .i64 x133.ttl, .int .i64 x137.at_, .int .i64 x133.prov], .row (.slice (some ⟨g_R118, 0, none⟩) st118.length rc118) 65 17 st118.length (flat Rs.cells st118), .row (.slice (some ⟨g_Aa, 0, none⟩) al.length ca) 34 8 al.length (flat Rp.cells al), .blk g13 34 [.int .i64 0, .int .i64 x54.v, .int .u32 x54.dst, .int .i64 x54.proto, .int .i64 x54.flow, .int .i64 0, .int .i64 0, .int .i64 0], .row (.slice (some ⟨g_R45, 0, none⟩) o45.length rc45) 65 17 o45.length (flat Rs.cells o45), .blk g5 28 u.cells, .blk g4 26 [.slice A1 es.length c1]]) rfl rfl rfl rfl rfl Tryz.func98 (by decide) rfl (fun w1 hw => put_any w [.blk g18 34 [.int .i64 x133.kind, .int .i64 x133.v, .int .u32 x133.dst, .int .i64 x133.proto, .int .i64 x133.flow, .int .i64 x133.ttl, .int .i64 x137.at_, .int .i64 x133.prov], .row (.slice (some ⟨g_R118, 0, none⟩) st118.length rc118) 65 17 st118.length (flat Rs.cells st118), .row (.slice (some ⟨g_Aa, 0, none⟩) al.length ca) 34 8 al.length (flat Rp.cells al), .blk g13 34 [.int .i64 0, .int .i64 x54.v, .int .u32 x54.dst, .int .i64 x54.proto, .int .i64 x54.flow, .int .i64 0, .int .i64 0, .int .i64 0], .row (.slice (some ⟨g_R45, 0, none⟩) o45.length rc45) 65 17 o45.length (flat Rs.cells o45), .blk g5 28 u.cells, .blk g4 26 [.slice A1 es.length c1]] Ao3 out3.length co3 out3 (x133.when x137.at_) w1 (hw.pick [4, 0, 1, 2, 3, 5, 6, 7] (by decide) rfl) rfl (by omega) (by omega) (by omega) hM3.1 (fun x hx y hy => hM3.uniq hx hy) (seen3_ok hM3 hok (fun r hr => hok r ((hP45.2 r).1 hr).1) (hok x54 ((hP45.2 x54).1 (List.mem_of_getElem? hx54)).1) hal) (hc133.ok (hok x54 ((hP45.2 x54).1 (List.mem_of_getElem? hx54)).1)) hlate) ?_
         rintro ⟨⟨⟨R154, rc154⟩, o154⟩, hP154, hl154, hc154, hm154⟩
         dsimp only at hP154 hl154 hc154 hm154 ⊢
         refine TL.as_ ?_
         refine zE (zN (zT (zG (TL.mv ?_))))
         refine TL.v (gD ((n + 1 : Nat) : Int)) ?_
         refine TL.as_ ?_
         refine zE ?_
         exact TX.round (⟨(n + 1, (R154, rc154), o154), by dsimp only; omega, seen3_step (hM3.putOk (fun p h => h.at0) ((prP_self hstp).1 (hbd150.1 rfl)) hlate hP154) hx133, by dsimp only; omega, hc154, hm154⟩) (by show al.length - (n + 1) < al.length - n; omega) ⟨rfl, rfl, rfl, rfl, rfl, rfl, rfl, rfl, rfl, rfl, rfl, trivial⟩ (fun w1 hw => hw.pick [2, 3, 4, 0, 5, 6, 7] (by decide) rfl)
        | false =>
         refine TL.pk ?_
         refine zET (zd (zk (zN (zT (zG (TL.mv ?_))))))
         refine TL.v (gD ((n + 1 : Nat) : Int)) ?_
         refine TL.as_ ?_
         refine zE ?_
         exact TX.round (⟨(n + 1, (Ao3, co3), out3), by dsimp only; omega, seen3_step (hM3.skip (fun hP => absurd (hbd150.2 ((prP_self hstp).2 hP)) (by decide))) hx133, by dsimp only; omega, hoc3, hom3⟩) (by show al.length - (n + 1) < al.length - n; omega) ⟨rfl, rfl, rfl, rfl, rfl, rfl, rfl, rfl, rfl, rfl, rfl, trivial⟩ (fun w1 hw => hw.pick [1, 2, 3, 4, 5, 6, 7] (by decide) rfl)
      refine zET (zd (zx (zX (zX (zM (zN (zT (zG (TL.mv ?_)))))))))
      refine TL.v (gD ((k + 1 : Nat) : Int)) ?_
      refine TL.as_ ?_
      refine zE ?_
      exact TX.round (⟨(k + 1, (Ao3, co3), out3), by dsimp only; omega, seen3_end hM3 (by omega) hal hxk, by dsimp only; omega, hoc3, hom3⟩) (by show st118.length - (k + 1) < st118.length - k; omega) ⟨rfl, rfl, rfl, rfl, rfl, rfl, rfl, rfl, rfl, rfl, trivial⟩ (fun w1 hw => hw)
     refine zET (zd (zx (zX (zX (zM (zN (zT (zG (TL.mv ?_)))))))))
     refine TL.v (gD ((i + 1 : Nat) : Int)) ?_
     refine TL.as_ ?_
     refine zE ?_
     exact TX.round (⟨(i + 1, (Ao2, co2), out2), by dsimp only; omega, seen2_end hM2 (by omega) hP118 hx54 h56, by dsimp only; omega, hoc2, hom2⟩) (by show o45.length - (i + 1) < o45.length - i; omega) ⟨rfl, rfl, rfl, rfl, rfl, rfl, trivial⟩ (fun w1 hw => hw.pick [3, 4, 5, 6] (by decide) rfl)
    refine TL.val rfl rfl rfl (gives_boolnot rfl rfl) ?_
    refine zET (zc (zx (zX (zM (zT (zG (TL.mv ?_)))))))
    refine TL.v (gD ((i + 1 : Nat) : Int)) ?_
    refine TL.as_ ?_
    refine zE ?_
    exact TX.round (⟨(i + 1, (Ao, co), out), by dsimp only; omega, seen_skip hM hx54 h56, by dsimp only; omega, hoc, hom⟩) (by show o45.length - (i + 1) < o45.length - i; omega) ⟨rfl, rfl, rfl, rfl, rfl, rfl, trivial⟩ (fun w1 hw => hw)
   refine zET (zd (zx (zX (zX (zM (zT (zSG (TL.rn 3 rfl (zET (zr ?_))))))))))
   exact ret_pair (v1 := .slice Ao out.length co) (v2 := .int .i64 0) Tryz.results40 rfl rfl (fun w1 hw => ⟨⟨(((Ao, co), out), 0), .inr (.inr ⟨rfl, seen_end hM (by omega) hP45, ⟨hva, h32, h36⟩, o45, hP45, hol⟩), by dsimp only; omega, hoc, hom⟩, rfl, hw.pick [0] (by decide) rfl⟩)
  refine TL.rn 2 rfl (zET (zc (zSG (TL.rn 2 rfl (zET (zr (zR ?_)))))))
  exact ret_pair (v1 := .slice none 0 0) (v2 := .int .i64 1) Tryz.results40 rfl rfl (fun w1 hw => ⟨⟨(((none, 0), []), 1), .inl ⟨rfl, rfl, fun h => by have h9 := h.2.2; rw [h36] at h9; cases h9⟩, Nat.zero_le _, Nat.le_refl _, Nat.zero_le _⟩, rfl, (hw.pick [] (by decide) rfl).nilrow _ _⟩)
 refine TL.rn 6 rfl (zET (zc (zSG (TL.rn 2 rfl (zET (zr (zR ?_)))))))
 exact ret_pair (v1 := .slice none 0 0) (v2 := .int .i64 1) Tryz.results40 rfl rfl (fun w1 hw => ⟨⟨(((none, 0), []), 1), .inl ⟨rfl, rfl, fun h => by have h9 := h.2.1; rw [h32] at h9; cases h9⟩, Nat.zero_le _, Nat.le_refl _, Nat.zero_le _⟩, rfl, (hw.pick [] (by decide) rfl).nilrow _ _⟩)
end Go.Proofs.YtijmpjfafpodhaaGreat
