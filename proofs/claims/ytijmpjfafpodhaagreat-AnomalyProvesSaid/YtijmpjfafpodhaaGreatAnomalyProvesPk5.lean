/-
  Texts of the proof, joined: DcRs, DcShu, DcRes, SymRdA, DcRep, AnAwk, AnRC, AnRP, DcOdd.
-/
import Derived.Test.YtijmpjfafpodhaaGreatAnomalyProvesPk3
import Derived.Test.YtijmpjfafpodhaaGreatAnomalyProvesPk4
import Derived.Test.YtijmpjfafpodhaaGreatAnomalyProvesPk2
import Derived.Test.YtijmpjfafpodhaaGreatAnomalyProvesPk1
set_option linter.unusedVariables false
set_option linter.unusedSimpArgs false
namespace Go.Proofs.YtijmpjfafpodhaaGreat
set_option maxHeartbeats 1000000
open Go.RowKit
set_option maxRecDepth 20000
def NetsOk (ns : List Nt) (PP : List (Sg (Sg Int))) : Prop := 1 ≤ ns.length ∧ ns.length ≤ 2 ∧ ∀ n ∈ ns, NtOk n ∧ n.ps ∈ PP
def netsP (PP : List (Sg (Sg Int))) : List Pc := segG 96 1 (flat sgc) PP ++ segG 30 1 (flat (ic .u32)) (PP.flatMap (·.l))
theorem Pm.netIn {w0 : Base} {w : World} {p : Sg (Sg Int)} {P O : List Pc} {PP : List (Sg (Sg Int))} (h : Pm w0 (netP p ++ (P ++ (netsP PP ++ O))) w) : Pm w0 (P ++ (netsP (p :: PP) ++ O)) w := by
 refine h.permute ?_
 have e : netsP (p :: PP) = .row (.slice p.A p.l.length p.c) 96 1 p.l.length (flat sgc p.l) :: (segG 96 1 (flat sgc) PP ++ (segG 30 1 (flat (ic .u32)) p.l ++ segG 30 1 (flat (ic .u32)) (PP.flatMap (·.l)))) := by
  unfold netsP segG
  rw [List.flatMap_cons, List.map_append]
  rfl
 have h1 : (netP p ++ netsP PP).Perm (netsP (p :: PP)) := by
  rw [e]
  unfold netP netsP
  rw [List.cons_append]
  refine List.Perm.cons _ ?_
  rw [← List.append_assoc, ← List.append_assoc]
  exact List.Perm.append_right _ List.perm_append_comm
 have h2 : (netP p ++ (P ++ (netsP PP ++ O))).Perm (P ++ ((netP p ++ netsP PP) ++ O)) := by
  rw [← List.append_assoc, List.append_assoc (netP p) (netsP PP) O, ← List.append_assoc P]
  exact List.Perm.append_right _ List.perm_append_comm
 exact h2.trans (List.Perm.append_left P (List.Perm.append_right O h1))
theorem nets_mem1 {p : Sg (Sg Int)} {PP : List (Sg (Sg Int))} {T : List Pc} (h : p ∈ PP) : Pc.row (.slice p.A p.l.length p.c) 96 1 p.l.length (flat sgc p.l) ∈ netsP PP ++ T :=
 List.mem_append_left _ (List.mem_append_left _ (List.mem_map_of_mem (f := Sg.pc 96 1 (flat sgc)) h))
theorem nets_mem2 {p : Sg (Sg Int)} {s : Sg Int} {PP : List (Sg (Sg Int))} {T : List Pc} (h : p ∈ PP) (hs : s ∈ p.l) : Pc.row (.slice s.A s.l.length s.c) 30 1 s.l.length (flat (ic .u32) s.l) ∈ netsP PP ++ T :=
 List.mem_append_left _ (List.mem_append_right _ (List.mem_map_of_mem (f := Sg.pc 30 1 (flat (ic .u32))) (List.mem_flatMap.2 ⟨p, h, hs⟩)))
theorem nets_one {n : Nt} (h : NtOk n) : NetsOk [n] [n.ps] := ⟨Nat.le_refl _, by show 1 ≤ 2; decide, fun x hx => by rw [List.mem_singleton.1 hx]; exact ⟨h, List.mem_cons_self⟩⟩
theorem nets_two {n n' : Nt} (h : NtOk n) (h' : NtOk n') : NetsOk ([n] ++ [n']) [n'.ps, n.ps] := ⟨by show 1 ≤ 2; decide, Nat.le_refl _, fun x hx => by
 rcases List.mem_append.1 hx with hx | hx
 ·rw [List.mem_singleton.1 hx]; exact ⟨h, List.mem_cons_of_mem _ List.mem_cons_self⟩
 rw [List.mem_singleton.1 hx]; exact ⟨h', List.mem_cons_self⟩⟩
theorem nets_set {ns : List Nt} {PP : List (Sg (Sg Int))} {x y : Nt} {i : Nat} (h : NetsOk ns PP) (hx : ns[i]? = some x) (hy : NtOk y) : NetsOk (ns.set i ⟨x.v, x.dst, x.proto, y.ps, x.last⟩) (y.ps :: PP) := by
 refine ⟨by rw [List.length_set]; exact h.1, by rw [List.length_set]; exact h.2.1, fun z hz => ?_⟩
 rcases List.mem_or_eq_of_mem_set hz with h1 | h1
 ·exact ⟨(h.2.2 z h1).1, List.mem_cons_of_mem _ (h.2.2 z h1).2⟩
 rw [h1]
 obtain ⟨⟨h2, h3, _⟩, _⟩ := h.2.2 x (List.mem_of_getElem? hx)
 exact ⟨⟨h2, h3, hy.2.2⟩, List.mem_cons_self⟩
def AnsP (ans dbl : Bool) (src kind left id quo : Int) : Prop := (ans = false ∧ dbl = false ∧ src = 0 ∧ kind = 0 ∧ left = 0 ∧ id = 0 ∧ quo = 0) ∨ (ans = true ∧ 1 ≤ src ∧ src ≤ 167774466 ∧ 1 ≤ kind ∧ kind ≤ 3 ∧ left = 60 ∧ 0 ≤ id ∧ id ≤ 65535 ∧ quo = 1)
def DrR (r : Rs) : Prop := vldRs r = true ∧ r.Ok ∧ r.run = 0 ∧ TrOk ⟨r.v, r.dst, r.proto⟩ ∧ (0 ≤ r.num ∧ r.num ≤ 99) ∧ (0 ≤ r.flow ∧ r.flow ≤ 2) ∧ (1 ≤ r.ttl ∧ r.ttl ≤ 4) ∧ (0 ≤ r.at_ ∧ r.back ≤ 20000) ∧ AnsP r.ans r.dbl r.src r.kind r.left r.id r.quo ∧ r.code = 0
def DrOrd (a b : Rs) : Prop := a.back < b.at_ ∧ (a.v = b.v → a.num < b.num)
def DrawnOk (m : Nat) (l : List Rs) : Prop := (∀ r ∈ l, DrR r) ∧ l.Pairwise DrOrd ∧ l.length ≤ m
def OutOk (l : List Rs) (at_ n0 n1 : Nat) : Prop := (∀ r ∈ l, DrR r ∧ r.back ≤ (at_ : Int) ∧ (r.v = 0 → r.num < (n0 : Int)) ∧ (r.v = 1 → r.num < (n1 : Int))) ∧ l.Pairwise DrOrd ∧ n0 + n1 = l.length
theorem OutOk.nil (a : Nat) : OutOk [] a 0 0 := ⟨fun r hr => absurd hr List.not_mem_nil, .nil, rfl⟩
theorem OutOk.ok {l : List Rs} {a n0 n1 m : Nat} (h : OutOk l a n0 n1) (hm : l.length ≤ m) : DrawnOk m l := ⟨fun r hr => (h.1 r hr).1, h.2.1, hm⟩
theorem ans_vld {r : Rs} (h : r.inRange) (hd : r.dst ≠ 0) (hp : r.proto = 17 ∨ r.proto = 1 ∨ r.proto = 6) (ha : AnsP r.ans r.dbl r.src r.kind r.left r.id r.quo) (hc : r.code = 0) : vldRs r = true := by
 have h1 : chkR r = 0 := by
  unfold chkR
  rw [if_neg (fun h1 => h1 h), if_neg (fun h1 => h1 (by omega))]
  rcases ha with ⟨a1, a2, a3, a4, a5, a6, a7⟩ | ⟨a1, a2, a3, a4, a5, a6, a7, a8, a9⟩
  ·have hn : r.noAns = true := by unfold Rs.noAns; simp [a3, a4, a5, a6, a7, hc]
   rw [if_neg (by rw [a1, a2, hn]; simp), if_neg (by rw [a1]; simp)]
  have ho : r.ansOk := by unfold Rs.ansOk; omega
  rw [if_neg (by rw [a1]; simp), if_neg (fun h2 => h2.2 ho)]
 unfold vldRs
 simp only [h1, decide_true, Bool.true_and, Bool.and_eq_true, decide_eq_true_eq, Bool.or_eq_true, Bool.not_eq_true']
 refine ⟨hd, ?_⟩
 rcases ha with ⟨a1, _⟩ | ⟨a1, a2, _⟩
 ·exact .inl a1
 exact .inr (by omega)
theorem OutOk.snoc {l : List Rs} {at0 at1 n0 n1 n2 n3 num f tq bq : Nat} {v dst proto : Int} {an db : Bool} {sr kd lf ie qu : Int} (h : OutOk l at0 n0 n1) (ht : TrOk ⟨v, dst, proto⟩)
  (hnum : (v = 0 ∧ num = n0) ∨ (v = 1 ∧ num = n1)) (hn : (v = 0 ∧ n2 = n0 + 1 ∧ n3 = n1) ∨ (v = 1 ∧ n2 = n0 ∧ n3 = n1 + 1)) (ha : AnsP an db sr kd lf ie qu) (hat : at0 < at1) (hf : f ≤ 2) (htq : tq ≤ 3) (hb : bq ≤ 3) (hbd : at1 ≤ 19000 ∧ l.length ≤ 99) :
  OutOk (l ++ [⟨v, 0, (num : Int), (at1 : Int), dst, proto, (f : Int), ((1 + tq : Nat) : Int), an, db, ((at1 + 5 * (1 + tq) + bq : Nat) : Int), sr, kd, 0, lf, ie, qu⟩]) (at1 + 5 * (1 + tq) + bq) n2 n3 := by
 have ht2 := ht
 unfold TrOk at ht2
 dsimp only at ht2
 have hl := h.2.2
 have hso : 0 ≤ sr ∧ sr ≤ 4294967295 := by
  rcases ha with ⟨_, _, a3, _⟩ | ⟨_, a2, a3, _⟩ <;> omega
 have hnew : DrR ⟨v, 0, (num : Int), (at1 : Int), dst, proto, (f : Int), ((1 + tq : Nat) : Int), an, db, ((at1 + 5 * (1 + tq) + bq : Nat) : Int), sr, kd, 0, lf, ie, qu⟩ := by
  refine ⟨ans_vld ?_ (by dsimp only; omega) (by dsimp only; omega) ha rfl, ?_, rfl, ht, ?_, ?_, ?_, ?_, ha, rfl⟩
  ·unfold Rs.inRange; dsimp only; omega
  ·unfold Rs.Ok; dsimp only; omega
  ·dsimp only; omega
  ·dsimp only; omega
  ·dsimp only; omega
  dsimp only; omega
 refine ⟨fun r hr => ?_, List.pairwise_append.2 ⟨h.2.1, List.pairwise_singleton _ _, fun a ha2 b hb2 => ?_⟩, by rw [List.length_append]; show n2 + n3 = l.length + 1; omega⟩
 ·rcases List.mem_append.1 hr with hr | hr
  ·obtain ⟨h1, h2, h3, h4⟩ := h.1 r hr
   exact ⟨h1, by omega, fun e => by have := h3 e; omega, fun e => by have := h4 e; omega⟩
  rw [List.mem_singleton.1 hr]
  refine ⟨hnew, Int.le_refl _, fun e => ?_, fun e => ?_⟩
  ·dsimp only at e ⊢; omega
  dsimp only at e ⊢; omega
 rw [List.mem_singleton.1 hb2]
 obtain ⟨h1, h2, h3, h4⟩ := h.1 a ha2
 refine ⟨by dsimp only; omega, fun e => ?_⟩
 dsimp only at e ⊢
 rcases hnum with ⟨e1, e2⟩ | ⟨e1, e2⟩
 ·have := h3 (by omega); omega
 have := h4 (by omega); omega
theorem drebs121_1_73147 (a0_0 : Int) (a0_1 : Int) (a0_2 : Int) (a0_3 : Option Addr) (a0_3n a0_3c : Nat) (a0_4 : Int) (w : World) : (Instr.buildSlice 94 1 #[(0, .agg #[.int .i64 a0_0, .int .u32 a0_1, .int .i64 a0_2, .slice a0_3 a0_3n a0_3c, .int .u32 a0_4])]).run Tryz.prog w = .ok (.slice (some ⟨w.heap.size, 0, none⟩) 1 1) (w.alloc (.cells [.int .i64 a0_0, .int .u32 a0_1, .int .i64 a0_2, .slice a0_3 a0_3n a0_3c, .int .u32 a0_4].toArray 92)) := by kernel_rfl
theorem dreel121 : Elem Tryz.prog 94 92 5 56 := Elem.mk' Tryz.underlying94 (z := .agg #[.int .i64 0, .int .u32 0, .int .i64 0, .slice none 0 0, .int .u32 0]) (by kernel_rfl) rfl (by omega) (by omega)
theorem drezv122 (w : World) : (zeroValue 95).run Tryz.prog w = .ok (.agg #[.int .i64 0, .int .i64 0, .int .i64 0, .int .i64 0, .int .i64 0, .int .i64 0, .int .i64 0, .int .i64 0, .int .i64 0, .int .i64 0, .int .i64 0, .int .i64 0, .int .i64 0, .int .i64 0, .int .i64 0, .int .i64 0]) w := rfl
theorem drefv119_1_92971 (a0 : Int) (a1 : Int) (a2 : Int) (a3 : Option Addr) (a3n a3c : Nat) (a4 : Int) (w : World) : (Instr.field 92 (.agg #[.int .i64 a0, .int .u32 a1, .int .i64 a2, .slice a3 a3n a3c, .int .u32 a4]) 1).run Tryz.prog w = .ok (.slice a3 a3n a3c) w := by kernel_rfl
theorem drebld47_74773 (a0_0 : Int) (a1_0 : Int) (a2_0 : Int) (a3_0 : Int) (a4_0 : Int) (a5_0 : Int) (a6_0 : Int) (a7_0 : Int) (w : World) : (Instr.build 65 #[(0, .int .i64 a0_0), (1, .int .i64 a1_0), (2, .int .i64 a2_0), (3, .int .i64 a3_0), (4, .int .u32 a4_0), (5, .int .i64 a5_0), (6, .int .i64 a6_0), (7, .int .i64 a7_0)]).run Tryz.prog w = .ok (.agg #[.int .i64 a0_0, .int .i64 a1_0, .int .i64 a2_0, .int .i64 a3_0, .int .u32 a4_0, .int .i64 a5_0, .int .i64 a6_0, .int .i64 a7_0, .bool false, .bool false, .int .i64 0, .int .u32 0, .int .i64 0, .int .i64 0, .int .i64 0, .int .i64 0, .int .i64 0]) w := by kernel_rfl
theorem dresz4 (w : World) : (sizeOf 4).run Tryz.prog w = .ok 1 w := rfl
theorem dreone_b {a0 : Bool} : ∀ u ∈ [(.bool a0 : Value)], u.oneCell' = true := by
 intro u hu
 rw [List.mem_singleton] at hu
 subst hu; rfl
theorem drebld45_50928 (a0_0 : Int) (a1_0 : Int) (a3_0 : Int) (a4_0 : Int) (a5_0 : Int) (w : World) : (Instr.build 63 #[(0, .int .u32 a0_0), (1, .int .i64 a1_0), (3, .int .i64 a3_0), (4, .int .i64 a4_0), (5, .int .i64 a5_0)]).run Tryz.prog w = .ok (.agg #[.int .u32 a0_0, .int .i64 a1_0, .int .i64 0, .int .i64 a3_0, .int .i64 a4_0, .int .i64 a5_0]) w := by kernel_rfl
theorem dresz45 (w : World) : (sizeOf 63).run Tryz.prog w = .ok 6 w := rfl
theorem dreone_u32i64i64i64i64i64 {a0 : Int} {a1 : Int} {a2 : Int} {a3 : Int} {a4 : Int} {a5 : Int} : ∀ u ∈ [(.int .u32 a0 : Value), .int .i64 a1, .int .i64 a2, .int .i64 a3, .int .i64 a4, .int .i64 a5], u.oneCell' = true := by
 intro u hu
 simp only [List.mem_cons, List.not_mem_nil, or_false] at hu
 rcases hu with rfl | rfl | rfl | rfl | rfl | rfl <;> rfl
theorem results_cod (cb : Nat) (w : World) (hC : Cod w cb) (m : Nat) (stb : Bool) (hm : m ≤ 100) :
  Calls Tryz.prog 17 #[.pointer (some ⟨cb, 0, none⟩), .int .i64 ((m : Nat) : Int), .bool stb] w fun e w' => ∃ x : {y : (Option Addr × Nat) × List Rs // DrawnOk m y.2 ∧ y.2.length ≤ y.1.2 ∧ y.1.2 ≤ maxLen}, e = .returned (.slice x.1.1.1 x.1.2.length x.1.1.2) ∧ Codr (fun w => Cod w cb) cb w ([.row (.slice x.1.1.1 x.1.2.length x.1.1.2) 65 17 x.1.2.length (flat Rs.cells x.1.2)]) w' := by
 refine begin_ (vs := [.pointer (some ⟨cb, 0, none⟩), .int .i64 ((m : Nat) : Int), .bool stb]) (I := Pm ⟨w, cb⟩ (.abs cb (fun w => Cod w cb) :: oths cb w)) Tryz.func17 rfl rfl rfl ?_ (Pm.codes hC (cod_cells hC) (cod_stab cb))
 refine zSG (TL.as_ ?_)
 refine zET (zSG (TL.mv ?_))
 refine TL.call (α := {y : Nt // NtOk y}) (r := fun x => .agg x.1.cells.toArray) (I' := fun x => Pm ⟨w, cb⟩ ([.abs cb (fun w => Cod w cb)] ++ (netsP (x.1.ps :: ([])) ++ oths cb w))) rfl rfl rfl rfl rfl Tryz.func63 (by decide) rfl (fun w1 hw => (scene_cod cb w1 (hw.at_ (k := 0) rfl).1).mono fun e w2 ⟨x, h1, h2⟩ => ⟨x, h1, Pm.netIn (P := [.abs cb (fun w => Cod w cb)]) (PP := ([])) (O := oths cb w) (hw.cods (k := 0) rfl h2 (netP_noAbs _))⟩) ?_
 rintro ⟨sc0, hsc0⟩
 dsimp only
 refine TL.prowS (e := 92) (size := 5) (cs := flat Nt.cells [sc0]) rfl rfl rfl rfl rfl (fun w => drebs121_1_73147 _ _ _ _ _ _ _ w) (by decide) rfl (fun g21 => ?_)
 refine TL.as_ ?_
 refine zET ?_
 refine TC.join (α := {y : (Option Addr × Nat) × List Nt × List (Sg (Sg Int)) // NetsOk y.2.1 y.2.2 ∧ y.2.1.length ≤ y.1.2 ∧ y.1.2 ≤ maxLen}) (fun y => [(0, .pointer (some ⟨cb, 0, none⟩)), (1, .int .i64 ((m : Nat) : Int)), (2, .bool stb), (6, .slice none 0 0), (7, .slice y.1.1.1 y.1.2.1.length y.1.1.2)]) (fun y => Pm ⟨w, cb⟩ ([.row (.slice y.1.1.1 y.1.2.1.length y.1.1.2) 92 5 y.1.2.1.length (flat Nt.cells y.1.2.1), .abs cb (fun w => Cod w cb)] ++ (netsP y.1.2.2 ++ oths cb w))) ?_ ?_
 ·refine zSG (TL.mv ?_)
  refine TL.pcallCod (k := 1) (α := Bool) (fun x => .bool x) (fun x => []) rfl rfl rfl rfl rfl Tryz.func18 (by decide) rfl rfl (fun w1 hw hC1 => dbool_cod cb w1 hC1 3 (by decide)) ?_
  rintro b0
  dsimp only [List.cons_append, List.nil_append]
  refine zET ?_
  refine TC.split (t := b0) rfl (fun c23 => ?_) (fun c23 => ?_)
  ·refine zG (TL.rn 2 rfl ?_)
   refine TL.call (α := {y : Nt // NtOk y}) (r := fun x => .agg x.1.cells.toArray) (I' := fun x => Pm ⟨w, cb⟩ ([.row (.slice (some ⟨g21, 0, none⟩) 1 1) 92 5 1 (flat Nt.cells [sc0]), .abs cb (fun w => Cod w cb)] ++ (netsP (x.1.ps :: (sc0.ps :: ([]))) ++ oths cb w))) rfl rfl rfl rfl rfl Tryz.func63 (by decide) rfl (fun w1 hw => (scene_cod cb w1 (hw.at_ (k := 1) rfl).1).mono fun e w2 ⟨x, h1, h2⟩ => ⟨x, h1, Pm.netIn (P := [.row (.slice (some ⟨g21, 0, none⟩) 1 1) 92 5 1 (flat Nt.cells [sc0]), .abs cb (fun w => Cod w cb)]) (PP := (sc0.ps :: ([]))) (O := oths cb w) (hw.cods (k := 1) rfl h2 (netP_noAbs _))⟩) ?_
   rintro ⟨sc1, hsc1⟩
   dsimp only
   refine TL.prowS (e := 92) (size := 5) (cs := flat Nt.cells [sc1]) rfl rfl rfl rfl rfl (fun w => drebs121_1_73147 _ _ _ _ _ _ _ w) (by decide) rfl (fun g27 => ?_)
   refine TL.appendT (k := 1) rfl rfl rfl rfl Tryz.underlying94 dreel121 rfl rfl rfl (fun w1 hw => pm_reads hw (k := 0) rfl) (flat_one nt_cel _) (by show _ * 56 ≤ _; omega) (1 + 1) (rfl) (flat Nt.cells (([sc0]) ++ [sc1])) ((flat_app _ _).symm) (fun A28 c28 hA281 hA282 => ?_)
   refine TL.as_ ?_
   refine zE ?_
   exact TX.joined (⟨((A28, c28), ([sc0]) ++ [sc1], (sc1.ps :: (sc0.ps :: ([])))), nets_two hsc0 hsc1, hA281, hA282⟩) (⟨rfl, rfl, rfl, rfl, rfl, trivial⟩) (fun w1 hw => hw.sel (.cons _ (.cons_cons _ (.cons_cons _ (List.Sublist.refl _)))))
  refine zk ?_
  exact TX.joined (⟨(((some ⟨g21, 0, none⟩), 1), [sc0], (sc0.ps :: ([]))), nets_one hsc0, by show 1 ≤ 1; decide, by show 1 ≤ maxLen; unfold maxLen; decide⟩) (⟨rfl, rfl, rfl, rfl, rfl, trivial⟩) (fun w1 hw => hw)
 rintro ⟨⟨⟨An, cn⟩, ns, PP⟩, hns, hnc, hnm⟩
 dsimp only at hns hnc hnm ⊢
 have hn1 := hns.1
 have hn2 := hns.2.1
 refine zS (TC.fact (p := ∃ g, An = some ⟨g, 0, none⟩) (fun w1 hw => rowA hw (k := 0) rfl (by omega)) ?_)
 rintro ⟨g_An, rfl⟩
 refine zG (TL.as_ ?_)
 refine zET (zSG (TL.mv ?_))
 refine TL.pcallCod (k := 1) (α := {q9 : Nat // q9 ≤ 65535 ∧ (1 ≤ (50 : Int) → (q9 : Int) < 50)}) (fun q9 => .int .i64 ((q9.1 : Nat) : Int)) (fun q9 => []) rfl rfl rfl rfl rfl Tryz.func21 (by decide) rfl rfl (fun w1 hw hC1 => next_cod cb w1 50 hC1) ?_
 rintro ⟨a0, ha01, ha02⟩
 dsimp only [List.cons_append, List.nil_append]
 refine TL.mv ?_
 refine TL.pcallCod (k := 1) (α := {q9 : Nat // q9 ≤ 65535 ∧ (1 ≤ (700 : Int) → (q9 : Int) < 700)}) (fun q9 => .int .i64 ((q9.1 : Nat) : Int)) (fun q9 => []) rfl rfl rfl rfl rfl Tryz.func21 (by decide) rfl rfl (fun w1 hw hC1 => next_cod cb w1 700 hC1) ?_
 rintro ⟨i0, hi01, hi02⟩
 dsimp only [List.cons_append, List.nil_append]
 refine TL.val rfl rfl rfl (gives_bin rfl rfl rfl (fun w => bin_mul_ (r := ((100 * i0 : Nat) : Int)) (by simp only [IntKind.wrap_i64]; omega) w)) ?_
 refine TL.rn 2 rfl (zET (zSG ?_))
 refine TL.pnew rfl rfl rfl (exec_alloc (cs := [.int .i64 0, .int .i64 0, .int .i64 0, .int .i64 0, .int .i64 0, .int .i64 0, .int .i64 0, .int .i64 0, .int .i64 0, .int .i64 0, .int .i64 0, .int .i64 0, .int .i64 0, .int .i64 0, .int .i64 0, .int .i64 0]) rfl drezv122 rfl) (fun g11 => ?_)
 refine zET (zS (zSG (TL.rn 2 rfl (TL.v (gD ((m + 1 : Nat) : Int)) ?_))))
 refine TL.pcallCod (k := 2) (α := {q9 : Nat // q9 ≤ 65535 ∧ (1 ≤ (((m + 1 : Nat) : Int) : Int) → (q9 : Int) < ((m + 1 : Nat) : Int))}) (fun q9 => .int .i64 ((q9.1 : Nat) : Int)) (fun q9 => []) rfl rfl rfl rfl rfl Tryz.func21 (by decide) rfl rfl (fun w1 hw hC1 => next_cod cb w1 ((m + 1 : Nat) : Int) hC1) ?_
 rintro ⟨k0, hk01, hk02⟩
 dsimp only [List.cons_append, List.nil_append]
 refine TL.as_ ?_
 refine zET (zB (TC.nilrow 65 17 ?_))
 refine TC.loop_ (α := {y : Nat × Nat × Nat × (Nat × Nat) × (Option Addr × Nat) × List Rs × List Nt × List (Sg (Sg Int)) // (y.1 + y.2.2.2.2.2.1.length ≤ m ∧ y.2.1 ≤ 100 + 100 * y.2.2.2.2.2.1.length ∧ y.2.2.1 ≤ 70000 + 100 * y.2.2.2.2.2.1.length) ∧ OutOk y.2.2.2.2.2.1 y.2.1 y.2.2.2.1.1 y.2.2.2.1.2 ∧ NetsOk y.2.2.2.2.2.2.1 y.2.2.2.2.2.2.2 ∧ y.2.2.2.2.2.2.1.length = ns.length ∧ y.2.2.2.2.2.1.length ≤ y.2.2.2.2.1.2 ∧ y.2.2.2.2.1.2 ≤ maxLen}) (fun y => [(0, .pointer (some ⟨cb, 0, none⟩)), (2, .bool stb), (7, .slice (some ⟨g_An, 0, none⟩) ns.length cn), (8, .slice y.1.2.2.2.2.1.1 y.1.2.2.2.2.2.1.length y.1.2.2.2.2.1.2), (9, .int .i64 ((y.1.2.1 : Nat) : Int)), (10, .int .i64 ((y.1.2.2.1 : Nat) : Int)), (12, .int .i64 ((y.1.1 : Nat) : Int)), (11, .pointer (some ⟨g11, 0, none⟩))]) (fun y => Pm ⟨w, cb⟩ ([.row (.slice y.1.2.2.2.2.1.1 y.1.2.2.2.2.2.1.length y.1.2.2.2.2.1.2) 65 17 y.1.2.2.2.2.2.1.length (flat Rs.cells y.1.2.2.2.2.2.1), .blk g11 95 [.int .i64 ((y.1.2.2.2.1.1 : Nat) : Int), .int .i64 ((y.1.2.2.2.1.2 : Nat) : Int), .int .i64 0, .int .i64 0, .int .i64 0, .int .i64 0, .int .i64 0, .int .i64 0, .int .i64 0, .int .i64 0, .int .i64 0, .int .i64 0, .int .i64 0, .int .i64 0, .int .i64 0, .int .i64 0], .row (.slice (some ⟨g_An, 0, none⟩) ns.length cn) 92 5 ns.length (flat Nt.cells y.1.2.2.2.2.2.2.1), .abs cb (fun w => Cod w cb)] ++ (netsP y.1.2.2.2.2.2.2.2 ++ oths cb w))) (fun y => y.1.1) (⟨(k0, a0, 100 * i0, (0, 0), (none, 0), [], ns, PP), ⟨by dsimp only [List.length_nil]; omega, by dsimp only [List.length_nil]; omega, by dsimp only [List.length_nil]; omega⟩, OutOk.nil _, hns, rfl, Nat.le_refl _, Nat.zero_le _⟩) ⟨rfl, rfl, rfl, rfl, rfl, rfl, rfl, rfl, trivial⟩ (fun w1 hw => hw) ?_
 rintro ⟨⟨k, at0, idn, ⟨n0, n1⟩, ⟨Ar, cr⟩, out, ns1, P1⟩, ⟨hk, hat, hid⟩, hout, hns1, hnl1, hrc, hrm⟩
 dsimp only at hk hat hid hout hns1 hnl1 hrc hrm ⊢
 refine zS (zSG (TL.mv ?_))
 refine TL.sp bin_gtr (fun q39 => ?_) (fun q39 => ?_)
 ·refine zET (zc (zk (zT (zS (zB (zSG (TL.rn 2 rfl (TL.v (gN Tryz.underlying94) ?_))))))))
  refine TL.pcallCod (k := 3) (α := {q9 : Nat // q9 ≤ 65535 ∧ (1 ≤ ((ns.length : Nat) : Int) → (q9 : Int) < (ns.length : Nat))}) (fun q9 => .int .i64 ((q9.1 : Nat) : Int)) (fun q9 => []) rfl rfl rfl rfl rfl Tryz.func21 (by decide) rfl rfl (fun w1 hw hC1 => next_cod cb w1 (ns.length : Nat) hC1) ?_
  rintro ⟨ix, hix1, hix2⟩
  dsimp only [List.cons_append, List.nil_append]
  refine TL.as_ ?_
  refine zET ?_
  refine TC.join (α := {y : List Nt × List (Sg (Sg Int)) // NetsOk y.1 y.2 ∧ y.1.length = ns.length}) (fun y => [(0, .pointer (some ⟨cb, 0, none⟩)), (2, .bool stb), (7, .slice (some ⟨g_An, 0, none⟩) ns.length cn), (8, .slice Ar out.length cr), (9, .int .i64 ((at0 : Nat) : Int)), (10, .int .i64 ((idn : Nat) : Int)), (11, .pointer (some ⟨g11, 0, none⟩)), (12, .int .i64 ((k : Nat) : Int)), (13, .int .i64 ((ix : Nat) : Int))]) (fun y => Pm ⟨w, cb⟩ ([.row (.slice Ar out.length cr) 65 17 out.length (flat Rs.cells out), .blk g11 95 [.int .i64 ((n0 : Nat) : Int), .int .i64 ((n1 : Nat) : Int), .int .i64 0, .int .i64 0, .int .i64 0, .int .i64 0, .int .i64 0, .int .i64 0, .int .i64 0, .int .i64 0, .int .i64 0, .int .i64 0, .int .i64 0, .int .i64 0, .int .i64 0, .int .i64 0], .row (.slice (some ⟨g_An, 0, none⟩) ns.length cn) 92 5 ns.length (flat Nt.cells y.1.1), .abs cb (fun w => Cod w cb)] ++ (netsP y.1.2 ++ oths cb w))) ?_ ?_
  ·refine zSG (TL.mv ?_)
   cases stb with
   | true =>
    refine TL.rn 5 rfl (zET (zd (zk ?_)))
    exact TX.joined (⟨(ns1, P1), hns1, hnl1⟩) (⟨rfl, rfl, rfl, rfl, rfl, rfl, rfl, rfl, rfl, trivial⟩) (fun w1 hw => hw)
   | false =>
    refine TL.rn 3 rfl (TL.gu ?_)
    refine TL.pcallCod (k := 3) (α := Bool) (fun x => .bool x) (fun x => []) rfl rfl rfl rfl rfl Tryz.func18 (by decide) rfl rfl (fun w1 hw hC1 => dbool_cod cb w1 hC1 12 (by decide)) ?_
    rintro b1
    dsimp only [List.cons_append, List.nil_append]
    refine TL.pk ?_
    refine zET ?_
    refine TC.split (t := b1) rfl (fun c51 => ?_) (fun c51 => ?_)
    ·refine zG (TL.rn 3 rfl ?_)
     refine TL.call (α := {y : Nt // NtOk y}) (r := fun x => .agg x.1.cells.toArray) (I' := fun x => Pm ⟨w, cb⟩ ([.row (.slice Ar out.length cr) 65 17 out.length (flat Rs.cells out), .blk g11 95 [.int .i64 ((n0 : Nat) : Int), .int .i64 ((n1 : Nat) : Int), .int .i64 0, .int .i64 0, .int .i64 0, .int .i64 0, .int .i64 0, .int .i64 0, .int .i64 0, .int .i64 0, .int .i64 0, .int .i64 0, .int .i64 0, .int .i64 0, .int .i64 0, .int .i64 0], .row (.slice (some ⟨g_An, 0, none⟩) ns.length cn) 92 5 ns.length (flat Nt.cells ns1), .abs cb (fun w => Cod w cb)] ++ (netsP (x.1.ps :: P1) ++ oths cb w))) rfl rfl rfl rfl rfl Tryz.func63 (by decide) rfl (fun w1 hw => (scene_cod cb w1 (hw.at_ (k := 3) rfl).1).mono fun e w2 ⟨x, h1, h2⟩ => ⟨x, h1, Pm.netIn (P := [.row (.slice Ar out.length cr) 65 17 out.length (flat Rs.cells out), .blk g11 95 [.int .i64 ((n0 : Nat) : Int), .int .i64 ((n1 : Nat) : Int), .int .i64 0, .int .i64 0, .int .i64 0, .int .i64 0, .int .i64 0, .int .i64 0, .int .i64 0, .int .i64 0, .int .i64 0, .int .i64 0, .int .i64 0, .int .i64 0, .int .i64 0, .int .i64 0], .row (.slice (some ⟨g_An, 0, none⟩) ns.length cn) 92 5 ns.length (flat Nt.cells ns1), .abs cb (fun w => Cod w cb)]) (PP := P1) (O := oths cb w) (hw.cods (k := 3) rfl h2 (netP_noAbs _))⟩) ?_
     rintro ⟨sc2, hsc2⟩
     dsimp only
     refine TL.val rfl rfl rfl (gives_fieldV (v := .slice sc2.ps.A sc2.ps.l.length sc2.ps.c) rfl rfl (fun w => drefv119_1_92971 _ _ _ _ _ _ _ w)) ?_
     have hi57 : ix < ns1.length := by omega
     obtain ⟨x57, hx57⟩ := ex_at hi57
     refine TL.val rfl rfl rfl (gA (i := ix) Tryz.underlying94 dntsz119 rfl rfl rfl rfl rfl (by omega)) ?_
     refine TL.v (gF dntfld119_1) ?_
     refine TL.rowset (k := 2) (vs := [.slice sc2.ps.A sc2.ps.l.length sc2.ps.c]) (xs' := flat Nt.cells (ns1.set ix (⟨x57.v, x57.dst, x57.proto, sc2.ps, x57.last⟩ : Nt))) rfl rfl rfl rfl rfl rfl rfl dntsz117 dntone_s (by rw [flat_len nt_cel]; show 0 + ix * 5 + 3 + 1 ≤ _; omega) (flat_put nt_cel (q := 3) (y := (⟨x57.v, x57.dst, x57.proto, sc2.ps, x57.last⟩ : Nt)) hx57 (by show 3 + 1 ≤ 5; decide) rfl) ?_
     try dsimp only [List.set_cons_zero, List.set_cons_succ]
     refine zE ?_
     exact TX.joined (⟨(ns1.set ix (⟨x57.v, x57.dst, x57.proto, sc2.ps, x57.last⟩ : Nt), (sc2.ps :: P1)), nets_set hns1 hx57 hsc2, by dsimp only; rw [List.length_set]; exact hnl1⟩) (⟨rfl, rfl, rfl, rfl, rfl, rfl, rfl, rfl, rfl, trivial⟩) (fun w1 hw => hw)
    refine zk ?_
    exact TX.joined (⟨(ns1, P1), hns1, hnl1⟩) (⟨rfl, rfl, rfl, rfl, rfl, rfl, rfl, rfl, rfl, trivial⟩) (fun w1 hw => hw)
  rintro ⟨⟨ns2, P2⟩, hns2, hnl2⟩
  dsimp only at hns2 hnl2 ⊢
  refine zSG (TL.rn 2 rfl ?_)
  have hi61 : ix < ns2.length := by omega
  obtain ⟨x61, hx61⟩ := ex_at hi61
  refine TL.val rfl rfl rfl (gA (i := ix) Tryz.underlying94 dntsz119 rfl rfl rfl rfl rfl (by omega)) ?_
  refine TL.val rfl rfl rfl (gives_loadR (off := 0 + ix * 5) rfl rfl dntag119 dntsz119 (nt_cel.len x61) (fun w1 hw j9 u9 h9 => flat_row nt_cel hw (q := 2) rfl hx61 j9 u9 h9)) ?_
  refine TL.pnew rfl rfl rfl (exec_alloc (cs := [.int .i64 0, .int .u32 0, .int .i64 0, .slice none 0 0, .int .u32 0]) rfl dntzv119 rfl) (fun g14 => ?_)
  refine TL.pstore (k := 0) (vs := x61.cells) rfl rfl rfl rfl rfl rfl rfl dntsz119 (nt_cel.one _) (by show 5 ≤ 5; decide) (L' := ([.blk g14 92 x61.cells, .row (.slice Ar out.length cr) 65 17 out.length (flat Rs.cells out), .blk g11 95 [.int .i64 ((n0 : Nat) : Int), .int .i64 ((n1 : Nat) : Int), .int .i64 0, .int .i64 0, .int .i64 0, .int .i64 0, .int .i64 0, .int .i64 0, .int .i64 0, .int .i64 0, .int .i64 0, .int .i64 0, .int .i64 0, .int .i64 0, .int .i64 0, .int .i64 0], .row (.slice (some ⟨g_An, 0, none⟩) ns.length cn) 92 5 ns.length (flat Nt.cells ns2), .abs cb (fun w => Cod w cb)] ++ (netsP P2 ++ oths cb w))) rfl ?_
  refine zET (zS ?_)
  have hnn := hout.2.2
  obtain ⟨hx61k, hx61p⟩ := hns2.2.2 x61 (List.mem_of_getElem? hx61)
  obtain ⟨hx61t, hx61l, lg, hlg1, hlg3, hps1, hps3, hlgw⟩ := hx61k
  have hx61t2 := hx61t
  unfold TrOk at hx61t2
  dsimp only at hx61t2
  have hv61 : x61.v = 0 ∨ x61.v = 1 := by omega
  refine zG (TL.mv ?_)
  refine TL.v (gF dntfld119_1) ?_
  refine TL.v (gL 0 dntag117) ?_
  refine TL.v (gN Tryz.underlying90) ?_
  refine TL.pcallCod (k := 4) (α := {q9 : Nat // q9 ≤ 65535 ∧ (1 ≤ ((x61.ps.l.length : Nat) : Int) → (q9 : Int) < (x61.ps.l.length : Nat))}) (fun q9 => .int .i64 ((q9.1 : Nat) : Int)) (fun q9 => []) rfl rfl rfl rfl rfl Tryz.func21 (by decide) rfl rfl (fun w1 hw hC1 => next_cod cb w1 (x61.ps.l.length : Nat) hC1) ?_
  rintro ⟨f, hf1, hf2⟩
  dsimp only [List.cons_append, List.nil_append]
  refine TL.as_ ?_
  refine zET (zSG (TL.v (gF dntfld119_1) ?_))
  refine TL.v (gL 0 dntag117) ?_
  refine TL.mv ?_
  have hmm71 := nets_mem1 (T := oths cb w) hx61p
  refine TL.fact (p := ∃ g, x61.ps.A = some ⟨g, 0, none⟩) (fun w1 hw => segA hw (List.mem_of_mem_drop (i := 5) (by exact hmm71)) (by omega)) ?_
  rintro ⟨gx71, hgx71⟩
  obtain ⟨p71, hp71⟩ : ∃ z, x61.ps.l[f]? = some z := ⟨_, List.getElem?_eq_getElem (by omega)⟩
  refine TL.val rfl rfl rfl (gA (i := f) Tryz.underlying90 dntsz64 rfl rfl rfl rfl hgx71 (by omega)) ?_
  refine TL.val rfl rfl rfl (gives_load (v := .slice p71.A p71.l.length p71.c) rfl rfl dntag64 (fun w1 hw => seg_cell sgc_cel hw (List.mem_of_mem_drop (i := 5) (by exact hmm71)) hgx71 hp71 0 _ rfl)) ?_
  have hpw71 := hlgw p71 (List.mem_of_getElem? hp71)
  have hp71l := hpw71.1
  refine TL.as_ ?_
  refine zET (zSG (TL.rn 2 rfl ?_))
  refine TL.pcallCod (k := 4) (α := {q9 : Nat // q9 ≤ 65535 ∧ (1 ≤ (40 : Int) → (q9 : Int) < 40)}) (fun q9 => .int .i64 ((q9.1 : Nat) : Int)) (fun q9 => []) rfl rfl rfl rfl rfl Tryz.func21 (by decide) rfl rfl (fun w1 hw hC1 => next_cod cb w1 40 hC1) ?_
  rintro ⟨dq, hdq1, hdq2⟩
  dsimp only [List.cons_append, List.nil_append]
  refine TL.v (gD ((1 + dq : Nat) : Int)) ?_
  refine TL.v (gD ((at0 + (1 + dq) : Nat) : Int)) ?_
  refine TL.as_ ?_
  refine zET ?_
  refine TC.join (α := {y : (Nat × Nat) × Nat // ((x61.v = 0 ∧ y.1.2 = n0) ∨ (x61.v = 1 ∧ y.1.2 = n1)) ∧ y.2 ≤ p71.l.length}) (fun y => [(0, .pointer (some ⟨cb, 0, none⟩)), (2, .bool stb), (7, .slice (some ⟨g_An, 0, none⟩) ns.length cn), (8, .slice Ar out.length cr), (9, .int .i64 ((at0 + (1 + dq) : Nat) : Int)), (10, .int .i64 ((idn : Nat) : Int)), (11, .pointer (some ⟨g11, 0, none⟩)), (12, .int .i64 ((k : Nat) : Int)), (14, .pointer (some ⟨g14, 0, none⟩)), (15, .int .i64 ((f : Nat) : Int)), (16, .slice p71.A p71.l.length p71.c), (17, .pointer (some ⟨y.1.1.1, 0, none⟩))]) (fun y => Pm ⟨w, cb⟩ ([.blk y.1.1.1 65 [.int .i64 x61.v, .int .i64 0, .int .i64 ((y.1.1.2 : Nat) : Int), .int .i64 ((at0 + (1 + dq) : Nat) : Int), .int .u32 x61.dst, .int .i64 x61.proto, .int .i64 ((f : Nat) : Int), .int .i64 ((1 + y.1.2 : Nat) : Int), .bool false, .bool false, .int .i64 0, .int .u32 0, .int .i64 0, .int .i64 0, .int .i64 0, .int .i64 0, .int .i64 0], .blk g14 92 x61.cells, .row (.slice Ar out.length cr) 65 17 out.length (flat Rs.cells out), .blk g11 95 [.int .i64 ((n0 : Nat) : Int), .int .i64 ((n1 : Nat) : Int), .int .i64 0, .int .i64 0, .int .i64 0, .int .i64 0, .int .i64 0, .int .i64 0, .int .i64 0, .int .i64 0, .int .i64 0, .int .i64 0, .int .i64 0, .int .i64 0, .int .i64 0, .int .i64 0], .row (.slice (some ⟨g_An, 0, none⟩) ns.length cn) 92 5 ns.length (flat Nt.cells ns2), .abs cb (fun w => Cod w cb)] ++ (netsP P2 ++ oths cb w))) ?_ ?_
  ·rcases hv61 with hv0 | hv1
   ·refine TC.cut [(0, .pointer (some ⟨cb, 0, none⟩)), (2, .bool stb), (7, .slice (some ⟨g_An, 0, none⟩) ns.length cn), (8, .slice Ar out.length cr), (9, .int .i64 ((at0 + (1 + dq) : Nat) : Int)), (10, .int .i64 ((idn : Nat) : Int)), (11, .pointer (some ⟨g11, 0, none⟩)), (12, .int .i64 ((k : Nat) : Int)), (13, .int .i64 ((ix : Nat) : Int)), (59, .slice (some ⟨g_An, 0, none⟩) ns.length cn), (60, .int .i64 ((ix : Nat) : Int)), (61, .pointer (some ⟨g_An, 0 + ix * 5, none⟩)), (62, .agg (x61.cells).toArray), (14, .pointer (some ⟨g14, 0, none⟩)), (63, .pointer (some ⟨cb, 0, none⟩)), (64, .pointer (some ⟨g14, 3, none⟩)), (65, .slice x61.ps.A x61.ps.l.length x61.ps.c), (66, .int .i64 (x61.ps.l.length : Nat)), (67, .int .i64 ((f : Nat) : Int)), (15, .int .i64 ((f : Nat) : Int)), (68, .pointer (some ⟨g14, 3, none⟩)), (69, .slice x61.ps.A x61.ps.l.length x61.ps.c), (70, .int .i64 ((f : Nat) : Int)), (71, .pointer (some ⟨gx71, 0 + f * 1, none⟩)), (72, .slice p71.A p71.l.length p71.c), (16, .slice p71.A p71.l.length p71.c), (73, .int .i64 ((at0 : Nat) : Int)), (74, .pointer (some ⟨cb, 0, none⟩)), (75, .int .i64 ((dq : Nat) : Int)), (76, .int .i64 ((1 + dq : Nat) : Int)), (77, .int .i64 ((at0 + (1 + dq) : Nat) : Int))] (Pm ⟨w, cb⟩ ([.blk g14 92 x61.cells, .row (.slice Ar out.length cr) 65 17 out.length (flat Rs.cells out), .blk g11 95 [.int .i64 ((n0 : Nat) : Int), .int .i64 ((n1 : Nat) : Int), .int .i64 0, .int .i64 0, .int .i64 0, .int .i64 0, .int .i64 0, .int .i64 0, .int .i64 0, .int .i64 0, .int .i64 0, .int .i64 0, .int .i64 0, .int .i64 0, .int .i64 0, .int .i64 0], .row (.slice (some ⟨g_An, 0, none⟩) ns.length cn) 92 5 ns.length (flat Nt.cells ns2), .abs cb (fun w => Cod w cb)] ++ (netsP P2 ++ oths cb w))) ⟨rfl, rfl, rfl, rfl, rfl, rfl, rfl, rfl, rfl, rfl, rfl, rfl, rfl, rfl, rfl, rfl, rfl, rfl, rfl, rfl, rfl, rfl, rfl, rfl, rfl, rfl, rfl, rfl, rfl, rfl, rfl, trivial⟩ (fun w1 hw => hw) ?_
    refine TC.held (ls := #[Ff,Ff,Ff,Ff,Ff,Ff,Ff,Ff,Ff,Ff,Ff,Ff,Ff,Ff,Ff,Ff,Ff,Ff,Ff,Ff,Ff,Ff,Ff,Ff,Ff]) (Pm ⟨w, cb⟩ [.blk g14 92 x61.cells, .blk g11 95 [.int .i64 ((n0 : Nat) : Int), .int .i64 ((n1 : Nat) : Int), .int .i64 0, .int .i64 0, .int .i64 0, .int .i64 0, .int .i64 0, .int .i64 0, .int .i64 0, .int .i64 0, .int .i64 0, .int .i64 0, .int .i64 0, .int .i64 0, .int .i64 0, .int .i64 0]]) (by kernel_rfl) rfl rfl (fun w hw => hw.drawn _) ?_
    refine TH.tk 0 rfl rfl rfl (gF dntfld119_0) (fun w1 hw => hw.pick [0, 2] (by decide) rfl) ?_
    refine TH.tk 1 rfl rfl rfl (gF pcmfld32_0) (fun w1 hw => hw.pick [0, 2] (by decide) rfl) ?_
    refine TH.tk 2 rfl rfl rfl (gL 0 pcmag3) (fun w1 hw => hw.pick [0, 2] (by decide) rfl) ?_
    refine TH.tk 3 rfl rfl rfl (gF dntfld119_0) (fun w1 hw => hw.pick [0, 2] (by decide) rfl) ?_
    refine TH.tk 4 rfl rfl rfl (gF pcmfld32_0) (fun w1 hw => hw.pick [0, 2] (by decide) rfl) ?_
    refine TH.tk 5 rfl rfl rfl (show Gives _ _ _ _ _ (Value.int .i64 0) from by rw [show (Value.int .i64 0) = .int .i64 x61.v by rw [hv0]]; exact pm_load (k := 0) (i := 0) rfl rfl pcmag3 rfl rfl) (fun w1 hw => hw.pick [0, 2] (by decide) rfl) ?_
    refine TH.tk 6 rfl rfl rfl (gives_at (v := .pointer (some ⟨g11, 0, none⟩)) rfl rfl rfl (fun w => at_arr Tryz.underlying95 pcmsz3 g11 0 _ 0 (by decide) w)) (fun w1 hw => hw.pick [0, 2] (by decide) rfl) ?_
    refine TH.tk 7 rfl rfl rfl (gL 1 pcmag3) (fun w1 hw => hw.pick [0, 2] (by decide) rfl) ?_
    refine TH.tk 8 rfl rfl rfl (gives_move rfl rfl) (fun w1 hw => hw.pick [0, 2] (by decide) rfl) ?_
    refine TH.tk 9 rfl rfl rfl (gF dntfld119_0) (fun w1 hw => hw.pick [0, 2] (by decide) rfl) ?_
    refine TH.tk 10 rfl rfl rfl (gF pcmfld32_1) (fun w1 hw => hw.pick [0, 2] (by decide) rfl) ?_
    refine TH.tk 11 rfl rfl rfl (gL 0 pcmag30) (fun w1 hw => hw.pick [0, 2] (by decide) rfl) ?_
    refine TH.tk 12 rfl rfl rfl (gF dntfld119_0) (fun w1 hw => hw.pick [0, 2] (by decide) rfl) ?_
    refine TH.tk 13 rfl rfl rfl (gF pcmfld32_2) (fun w1 hw => hw.pick [0, 2] (by decide) rfl) ?_
    refine TH.tk 14 rfl rfl rfl (gL 0 pcmag3) (fun w1 hw => hw.pick [0, 2] (by decide) rfl) ?_
    refine TH.tk 15 rfl rfl rfl (gives_move rfl rfl) (fun w1 hw => hw.pick [0, 2] (by decide) rfl) ?_
    refine TH.tk 16 rfl rfl rfl (gives_move rfl rfl) (fun w1 hw => hw.pick [0, 2] (by decide) rfl) ?_
    refine TH.tk 17 rfl rfl rfl (gives_move rfl rfl) (fun w1 hw => hw.pick [0, 2] (by decide) rfl) ?_
    refine TH.tk 18 rfl rfl rfl (gN Tryz.underlying96) (fun w1 hw => hw.pick [0, 2] (by decide) rfl) ?_
    refine TH.tk 19 rfl rfl rfl (gD ((p71.l.length + 1 : Nat) : Int)) (fun w1 hw => hw.pick [0, 2] (by decide) rfl) ?_
    refine TH.two' (listed1 := #[Tt,Tt,Tt,Tt,Tt,Tt,Tt,Tt,Tt,Tt,Tt,Tt,Tt,Tt,Tt,Tt,Tt,Tt,Tt,Tt,Tt,Ff,Ff,Ff,Ff]) (listed2 := #[Tt,Tt,Tt,Tt,Tt,Tt,Tt,Tt,Tt,Tt,Tt,Tt,Tt,Tt,Tt,Tt,Tt,Tt,Tt,Tt,Ff,Ff,Ff,Tt,Ff]) 20 23 rfl rfl (by kernel_rfl) rfl rfl ?_ ?_
    ·refine TL.pcallCod (k := 4) (α := {q9 : Nat // q9 ≤ 65535 ∧ (1 ≤ (((p71.l.length + 1 : Nat) : Int) : Int) → (q9 : Int) < ((p71.l.length + 1 : Nat) : Int))}) (fun q9 => .int .i64 ((q9.1 : Nat) : Int)) (fun q9 => []) rfl rfl rfl rfl rfl Tryz.func21 (by decide) rfl rfl (fun w1 hw hC1 => next_cod cb w1 ((p71.l.length + 1 : Nat) : Int) hC1) ?_
     rintro ⟨tq, htq1, htq2⟩
     dsimp only [List.cons_append, List.nil_append]
     refine zE ?_
     refine TX.he (fun w1 hw => hw.pick [0, 2] (by decide) rfl) fun hS => ?_
     refine TH.t 21 rfl (gD ((1 + tq : Nat) : Int)) hS ?_
     refine TH.t 22 rfl (gives_build (v := .agg #[.int .i64 x61.v, .int .i64 0, .int .i64 ((n0 : Nat) : Int), .int .i64 ((at0 + (1 + dq) : Nat) : Int), .int .u32 x61.dst, .int .i64 x61.proto, .int .i64 ((f : Nat) : Int), .int .i64 ((1 + tq : Nat) : Int), .bool false, .bool false, .int .i64 0, .int .u32 0, .int .i64 0, .int .i64 0, .int .i64 0, .int .i64 0, .int .i64 0]) rfl rfl (fun w => drebld47_74773 _ _ _ _ _ _ _ _ w)) hS ?_
     refine TH.only' 23 rfl (by kernel_rfl) rfl ?_
     refine TL.pnew rfl rfl rfl (exec_alloc (cs := [.int .i64 0, .int .i64 0, .int .i64 0, .int .i64 0, .int .u32 0, .int .i64 0, .int .i64 0, .int .i64 0, .bool false, .bool false, .int .i64 0, .int .u32 0, .int .i64 0, .int .i64 0, .int .i64 0, .int .i64 0, .int .i64 0]) rfl arpzv65 rfl) (fun g17 => ?_)
     refine zE ?_
     refine TX.held (fun w1 hw => hw.pick [1, 3] (by decide) rfl) ?_
     refine TH.only' 24 rfl (by kernel_rfl) rfl ?_
     refine TL.pstore (k := 0) (vs := [.int .i64 x61.v, .int .i64 0, .int .i64 ((n0 : Nat) : Int), .int .i64 ((at0 + (1 + dq) : Nat) : Int), .int .u32 x61.dst, .int .i64 x61.proto, .int .i64 ((f : Nat) : Int), .int .i64 ((1 + tq : Nat) : Int), .bool false, .bool false, .int .i64 0, .int .u32 0, .int .i64 0, .int .i64 0, .int .i64 0, .int .i64 0, .int .i64 0]) rfl rfl rfl rfl rfl rfl rfl prssz65 arpone_i64i64i64i64u32i64i64i64bbi64u32i64i64i64i64i64 (by show 17 ≤ 17; decide) rfl ?_
     refine zE ?_
     refine TX.held (fun w1 hw => hw.pick [1, 3] (by decide) rfl) ?_
     refine TH.done (by kernel_rfl) ?_
     exact TX.joined (⟨((g17, n0), tq), by dsimp only; omega, by dsimp only; omega⟩) (⟨rfl, rfl, rfl, rfl, rfl, rfl, rfl, rfl, rfl, rfl, rfl, rfl, trivial⟩) (fun w1 hw => hw)
    refine TL.pnew rfl rfl rfl (exec_alloc (cs := [.int .i64 0, .int .i64 0, .int .i64 0, .int .i64 0, .int .u32 0, .int .i64 0, .int .i64 0, .int .i64 0, .bool false, .bool false, .int .i64 0, .int .u32 0, .int .i64 0, .int .i64 0, .int .i64 0, .int .i64 0, .int .i64 0]) rfl arpzv65 rfl) (fun g17 => ?_)
    refine zE ?_
    refine TX.held (fun w1 hw => hw.pick [1, 3] (by decide) rfl) ?_
    refine TH.only' 20 rfl (by kernel_rfl) rfl ?_
    refine TL.pcallCod (k := 5) (α := {q9 : Nat // q9 ≤ 65535 ∧ (1 ≤ (((p71.l.length + 1 : Nat) : Int) : Int) → (q9 : Int) < ((p71.l.length + 1 : Nat) : Int))}) (fun q9 => .int .i64 ((q9.1 : Nat) : Int)) (fun q9 => []) rfl rfl rfl rfl rfl Tryz.func21 (by decide) rfl rfl (fun w1 hw hC1 => next_cod cb w1 ((p71.l.length + 1 : Nat) : Int) hC1) ?_
    rintro ⟨tq, htq1, htq2⟩
    dsimp only [List.cons_append, List.nil_append]
    refine zE ?_
    refine TX.he (fun w1 hw => hw.pick [1, 3] (by decide) rfl) fun hS => ?_
    refine TH.t 21 rfl (gD ((1 + tq : Nat) : Int)) hS ?_
    refine TH.t 22 rfl (gives_build (v := .agg #[.int .i64 x61.v, .int .i64 0, .int .i64 ((n0 : Nat) : Int), .int .i64 ((at0 + (1 + dq) : Nat) : Int), .int .u32 x61.dst, .int .i64 x61.proto, .int .i64 ((f : Nat) : Int), .int .i64 ((1 + tq : Nat) : Int), .bool false, .bool false, .int .i64 0, .int .u32 0, .int .i64 0, .int .i64 0, .int .i64 0, .int .i64 0, .int .i64 0]) rfl rfl (fun w => drebld47_74773 _ _ _ _ _ _ _ _ w)) hS ?_
    refine TH.only' 24 rfl (by kernel_rfl) rfl ?_
    refine TL.pstore (k := 0) (vs := [.int .i64 x61.v, .int .i64 0, .int .i64 ((n0 : Nat) : Int), .int .i64 ((at0 + (1 + dq) : Nat) : Int), .int .u32 x61.dst, .int .i64 x61.proto, .int .i64 ((f : Nat) : Int), .int .i64 ((1 + tq : Nat) : Int), .bool false, .bool false, .int .i64 0, .int .u32 0, .int .i64 0, .int .i64 0, .int .i64 0, .int .i64 0, .int .i64 0]) rfl rfl rfl rfl rfl rfl rfl prssz65 arpone_i64i64i64i64u32i64i64i64bbi64u32i64i64i64i64i64 (by show 17 ≤ 17; decide) rfl ?_
    refine zE ?_
    refine TX.held (fun w1 hw => hw.pick [1, 3] (by decide) rfl) ?_
    refine TH.done (by kernel_rfl) ?_
    exact TX.joined (⟨((g17, n0), tq), by dsimp only; omega, by dsimp only; omega⟩) (⟨rfl, rfl, rfl, rfl, rfl, rfl, rfl, rfl, rfl, rfl, rfl, rfl, trivial⟩) (fun w1 hw => hw)
   refine TC.cut [(0, .pointer (some ⟨cb, 0, none⟩)), (2, .bool stb), (7, .slice (some ⟨g_An, 0, none⟩) ns.length cn), (8, .slice Ar out.length cr), (9, .int .i64 ((at0 + (1 + dq) : Nat) : Int)), (10, .int .i64 ((idn : Nat) : Int)), (11, .pointer (some ⟨g11, 0, none⟩)), (12, .int .i64 ((k : Nat) : Int)), (13, .int .i64 ((ix : Nat) : Int)), (59, .slice (some ⟨g_An, 0, none⟩) ns.length cn), (60, .int .i64 ((ix : Nat) : Int)), (61, .pointer (some ⟨g_An, 0 + ix * 5, none⟩)), (62, .agg (x61.cells).toArray), (14, .pointer (some ⟨g14, 0, none⟩)), (63, .pointer (some ⟨cb, 0, none⟩)), (64, .pointer (some ⟨g14, 3, none⟩)), (65, .slice x61.ps.A x61.ps.l.length x61.ps.c), (66, .int .i64 (x61.ps.l.length : Nat)), (67, .int .i64 ((f : Nat) : Int)), (15, .int .i64 ((f : Nat) : Int)), (68, .pointer (some ⟨g14, 3, none⟩)), (69, .slice x61.ps.A x61.ps.l.length x61.ps.c), (70, .int .i64 ((f : Nat) : Int)), (71, .pointer (some ⟨gx71, 0 + f * 1, none⟩)), (72, .slice p71.A p71.l.length p71.c), (16, .slice p71.A p71.l.length p71.c), (73, .int .i64 ((at0 : Nat) : Int)), (74, .pointer (some ⟨cb, 0, none⟩)), (75, .int .i64 ((dq : Nat) : Int)), (76, .int .i64 ((1 + dq : Nat) : Int)), (77, .int .i64 ((at0 + (1 + dq) : Nat) : Int))] (Pm ⟨w, cb⟩ ([.blk g14 92 x61.cells, .row (.slice Ar out.length cr) 65 17 out.length (flat Rs.cells out), .blk g11 95 [.int .i64 ((n0 : Nat) : Int), .int .i64 ((n1 : Nat) : Int), .int .i64 0, .int .i64 0, .int .i64 0, .int .i64 0, .int .i64 0, .int .i64 0, .int .i64 0, .int .i64 0, .int .i64 0, .int .i64 0, .int .i64 0, .int .i64 0, .int .i64 0, .int .i64 0], .row (.slice (some ⟨g_An, 0, none⟩) ns.length cn) 92 5 ns.length (flat Nt.cells ns2), .abs cb (fun w => Cod w cb)] ++ (netsP P2 ++ oths cb w))) ⟨rfl, rfl, rfl, rfl, rfl, rfl, rfl, rfl, rfl, rfl, rfl, rfl, rfl, rfl, rfl, rfl, rfl, rfl, rfl, rfl, rfl, rfl, rfl, rfl, rfl, rfl, rfl, rfl, rfl, rfl, rfl, trivial⟩ (fun w1 hw => hw) ?_
   refine TC.held (ls := #[Ff,Ff,Ff,Ff,Ff,Ff,Ff,Ff,Ff,Ff,Ff,Ff,Ff,Ff,Ff,Ff,Ff,Ff,Ff,Ff,Ff,Ff,Ff,Ff,Ff]) (Pm ⟨w, cb⟩ [.blk g14 92 x61.cells, .blk g11 95 [.int .i64 ((n0 : Nat) : Int), .int .i64 ((n1 : Nat) : Int), .int .i64 0, .int .i64 0, .int .i64 0, .int .i64 0, .int .i64 0, .int .i64 0, .int .i64 0, .int .i64 0, .int .i64 0, .int .i64 0, .int .i64 0, .int .i64 0, .int .i64 0, .int .i64 0]]) (by kernel_rfl) rfl rfl (fun w hw => hw.drawn _) ?_
   refine TH.tk 0 rfl rfl rfl (gF dntfld119_0) (fun w1 hw => hw.pick [0, 2] (by decide) rfl) ?_
   refine TH.tk 1 rfl rfl rfl (gF pcmfld32_0) (fun w1 hw => hw.pick [0, 2] (by decide) rfl) ?_
   refine TH.tk 2 rfl rfl rfl (gL 0 pcmag3) (fun w1 hw => hw.pick [0, 2] (by decide) rfl) ?_
   refine TH.tk 3 rfl rfl rfl (gF dntfld119_0) (fun w1 hw => hw.pick [0, 2] (by decide) rfl) ?_
   refine TH.tk 4 rfl rfl rfl (gF pcmfld32_0) (fun w1 hw => hw.pick [0, 2] (by decide) rfl) ?_
   refine TH.tk 5 rfl rfl rfl (show Gives _ _ _ _ _ (Value.int .i64 1) from by rw [show (Value.int .i64 1) = .int .i64 x61.v by rw [hv1]]; exact pm_load (k := 0) (i := 0) rfl rfl pcmag3 rfl rfl) (fun w1 hw => hw.pick [0, 2] (by decide) rfl) ?_
   refine TH.tk 6 rfl rfl rfl (gives_at (v := .pointer (some ⟨g11, 1, none⟩)) rfl rfl rfl (fun w => at_arr Tryz.underlying95 pcmsz3 g11 0 _ 1 (by decide) w)) (fun w1 hw => hw.pick [0, 2] (by decide) rfl) ?_
   refine TH.tk 7 rfl rfl rfl (gL 1 pcmag3) (fun w1 hw => hw.pick [0, 2] (by decide) rfl) ?_
   refine TH.tk 8 rfl rfl rfl (gives_move rfl rfl) (fun w1 hw => hw.pick [0, 2] (by decide) rfl) ?_
   refine TH.tk 9 rfl rfl rfl (gF dntfld119_0) (fun w1 hw => hw.pick [0, 2] (by decide) rfl) ?_
   refine TH.tk 10 rfl rfl rfl (gF pcmfld32_1) (fun w1 hw => hw.pick [0, 2] (by decide) rfl) ?_
   refine TH.tk 11 rfl rfl rfl (gL 0 pcmag30) (fun w1 hw => hw.pick [0, 2] (by decide) rfl) ?_
   refine TH.tk 12 rfl rfl rfl (gF dntfld119_0) (fun w1 hw => hw.pick [0, 2] (by decide) rfl) ?_
   refine TH.tk 13 rfl rfl rfl (gF pcmfld32_2) (fun w1 hw => hw.pick [0, 2] (by decide) rfl) ?_
   refine TH.tk 14 rfl rfl rfl (gL 0 pcmag3) (fun w1 hw => hw.pick [0, 2] (by decide) rfl) ?_
   refine TH.tk 15 rfl rfl rfl (gives_move rfl rfl) (fun w1 hw => hw.pick [0, 2] (by decide) rfl) ?_
   refine TH.tk 16 rfl rfl rfl (gives_move rfl rfl) (fun w1 hw => hw.pick [0, 2] (by decide) rfl) ?_
   refine TH.tk 17 rfl rfl rfl (gives_move rfl rfl) (fun w1 hw => hw.pick [0, 2] (by decide) rfl) ?_
   refine TH.tk 18 rfl rfl rfl (gN Tryz.underlying96) (fun w1 hw => hw.pick [0, 2] (by decide) rfl) ?_
   refine TH.tk 19 rfl rfl rfl (gD ((p71.l.length + 1 : Nat) : Int)) (fun w1 hw => hw.pick [0, 2] (by decide) rfl) ?_
   refine TH.two' (listed1 := #[Tt,Tt,Tt,Tt,Tt,Tt,Tt,Tt,Tt,Tt,Tt,Tt,Tt,Tt,Tt,Tt,Tt,Tt,Tt,Tt,Tt,Ff,Ff,Ff,Ff]) (listed2 := #[Tt,Tt,Tt,Tt,Tt,Tt,Tt,Tt,Tt,Tt,Tt,Tt,Tt,Tt,Tt,Tt,Tt,Tt,Tt,Tt,Ff,Ff,Ff,Tt,Ff]) 20 23 rfl rfl (by kernel_rfl) rfl rfl ?_ ?_
   ·refine TL.pcallCod (k := 4) (α := {q9 : Nat // q9 ≤ 65535 ∧ (1 ≤ (((p71.l.length + 1 : Nat) : Int) : Int) → (q9 : Int) < ((p71.l.length + 1 : Nat) : Int))}) (fun q9 => .int .i64 ((q9.1 : Nat) : Int)) (fun q9 => []) rfl rfl rfl rfl rfl Tryz.func21 (by decide) rfl rfl (fun w1 hw hC1 => next_cod cb w1 ((p71.l.length + 1 : Nat) : Int) hC1) ?_
    rintro ⟨tq, htq1, htq2⟩
    dsimp only [List.cons_append, List.nil_append]
    refine zE ?_
    refine TX.he (fun w1 hw => hw.pick [0, 2] (by decide) rfl) fun hS => ?_
    refine TH.t 21 rfl (gD ((1 + tq : Nat) : Int)) hS ?_
    refine TH.t 22 rfl (gives_build (v := .agg #[.int .i64 x61.v, .int .i64 0, .int .i64 ((n1 : Nat) : Int), .int .i64 ((at0 + (1 + dq) : Nat) : Int), .int .u32 x61.dst, .int .i64 x61.proto, .int .i64 ((f : Nat) : Int), .int .i64 ((1 + tq : Nat) : Int), .bool false, .bool false, .int .i64 0, .int .u32 0, .int .i64 0, .int .i64 0, .int .i64 0, .int .i64 0, .int .i64 0]) rfl rfl (fun w => drebld47_74773 _ _ _ _ _ _ _ _ w)) hS ?_
    refine TH.only' 23 rfl (by kernel_rfl) rfl ?_
    refine TL.pnew rfl rfl rfl (exec_alloc (cs := [.int .i64 0, .int .i64 0, .int .i64 0, .int .i64 0, .int .u32 0, .int .i64 0, .int .i64 0, .int .i64 0, .bool false, .bool false, .int .i64 0, .int .u32 0, .int .i64 0, .int .i64 0, .int .i64 0, .int .i64 0, .int .i64 0]) rfl arpzv65 rfl) (fun g17 => ?_)
    refine zE ?_
    refine TX.held (fun w1 hw => hw.pick [1, 3] (by decide) rfl) ?_
    refine TH.only' 24 rfl (by kernel_rfl) rfl ?_
    refine TL.pstore (k := 0) (vs := [.int .i64 x61.v, .int .i64 0, .int .i64 ((n1 : Nat) : Int), .int .i64 ((at0 + (1 + dq) : Nat) : Int), .int .u32 x61.dst, .int .i64 x61.proto, .int .i64 ((f : Nat) : Int), .int .i64 ((1 + tq : Nat) : Int), .bool false, .bool false, .int .i64 0, .int .u32 0, .int .i64 0, .int .i64 0, .int .i64 0, .int .i64 0, .int .i64 0]) rfl rfl rfl rfl rfl rfl rfl prssz65 arpone_i64i64i64i64u32i64i64i64bbi64u32i64i64i64i64i64 (by show 17 ≤ 17; decide) rfl ?_
    refine zE ?_
    refine TX.held (fun w1 hw => hw.pick [1, 3] (by decide) rfl) ?_
    refine TH.done (by kernel_rfl) ?_
    exact TX.joined (⟨((g17, n1), tq), by dsimp only; omega, by dsimp only; omega⟩) (⟨rfl, rfl, rfl, rfl, rfl, rfl, rfl, rfl, rfl, rfl, rfl, rfl, trivial⟩) (fun w1 hw => hw)
   refine TL.pnew rfl rfl rfl (exec_alloc (cs := [.int .i64 0, .int .i64 0, .int .i64 0, .int .i64 0, .int .u32 0, .int .i64 0, .int .i64 0, .int .i64 0, .bool false, .bool false, .int .i64 0, .int .u32 0, .int .i64 0, .int .i64 0, .int .i64 0, .int .i64 0, .int .i64 0]) rfl arpzv65 rfl) (fun g17 => ?_)
   refine zE ?_
   refine TX.held (fun w1 hw => hw.pick [1, 3] (by decide) rfl) ?_
   refine TH.only' 20 rfl (by kernel_rfl) rfl ?_
   refine TL.pcallCod (k := 5) (α := {q9 : Nat // q9 ≤ 65535 ∧ (1 ≤ (((p71.l.length + 1 : Nat) : Int) : Int) → (q9 : Int) < ((p71.l.length + 1 : Nat) : Int))}) (fun q9 => .int .i64 ((q9.1 : Nat) : Int)) (fun q9 => []) rfl rfl rfl rfl rfl Tryz.func21 (by decide) rfl rfl (fun w1 hw hC1 => next_cod cb w1 ((p71.l.length + 1 : Nat) : Int) hC1) ?_
   rintro ⟨tq, htq1, htq2⟩
   dsimp only [List.cons_append, List.nil_append]
   refine zE ?_
   refine TX.he (fun w1 hw => hw.pick [1, 3] (by decide) rfl) fun hS => ?_
   refine TH.t 21 rfl (gD ((1 + tq : Nat) : Int)) hS ?_
   refine TH.t 22 rfl (gives_build (v := .agg #[.int .i64 x61.v, .int .i64 0, .int .i64 ((n1 : Nat) : Int), .int .i64 ((at0 + (1 + dq) : Nat) : Int), .int .u32 x61.dst, .int .i64 x61.proto, .int .i64 ((f : Nat) : Int), .int .i64 ((1 + tq : Nat) : Int), .bool false, .bool false, .int .i64 0, .int .u32 0, .int .i64 0, .int .i64 0, .int .i64 0, .int .i64 0, .int .i64 0]) rfl rfl (fun w => drebld47_74773 _ _ _ _ _ _ _ _ w)) hS ?_
   refine TH.only' 24 rfl (by kernel_rfl) rfl ?_
   refine TL.pstore (k := 0) (vs := [.int .i64 x61.v, .int .i64 0, .int .i64 ((n1 : Nat) : Int), .int .i64 ((at0 + (1 + dq) : Nat) : Int), .int .u32 x61.dst, .int .i64 x61.proto, .int .i64 ((f : Nat) : Int), .int .i64 ((1 + tq : Nat) : Int), .bool false, .bool false, .int .i64 0, .int .u32 0, .int .i64 0, .int .i64 0, .int .i64 0, .int .i64 0, .int .i64 0]) rfl rfl rfl rfl rfl rfl rfl prssz65 arpone_i64i64i64i64u32i64i64i64bbi64u32i64i64i64i64i64 (by show 17 ≤ 17; decide) rfl ?_
   refine zE ?_
   refine TX.held (fun w1 hw => hw.pick [1, 3] (by decide) rfl) ?_
   refine TH.done (by kernel_rfl) ?_
   exact TX.joined (⟨((g17, n1), tq), by dsimp only; omega, by dsimp only; omega⟩) (⟨rfl, rfl, rfl, rfl, rfl, rfl, rfl, rfl, rfl, rfl, rfl, rfl, trivial⟩) (fun w1 hw => hw)
  rintro ⟨⟨⟨gR, num⟩, tq⟩, hnum, htq⟩
  dsimp only at hnum htq ⊢
  refine TC.join (α := {y : Nat × Nat // (x61.v = 0 ∧ y.1 = n0 + 1 ∧ y.2 = n1) ∨ (x61.v = 1 ∧ y.1 = n0 ∧ y.2 = n1 + 1)}) (fun y => [(0, .pointer (some ⟨cb, 0, none⟩)), (2, .bool stb), (7, .slice (some ⟨g_An, 0, none⟩) ns.length cn), (8, .slice Ar out.length cr), (9, .int .i64 ((at0 + (1 + dq) : Nat) : Int)), (10, .int .i64 ((idn : Nat) : Int)), (11, .pointer (some ⟨g11, 0, none⟩)), (12, .int .i64 ((k : Nat) : Int)), (14, .pointer (some ⟨g14, 0, none⟩)), (15, .int .i64 ((f : Nat) : Int)), (16, .slice p71.A p71.l.length p71.c), (17, .pointer (some ⟨gR, 0, none⟩))]) (fun y => Pm ⟨w, cb⟩ ([.blk gR 65 [.int .i64 x61.v, .int .i64 0, .int .i64 ((num : Nat) : Int), .int .i64 ((at0 + (1 + dq) : Nat) : Int), .int .u32 x61.dst, .int .i64 x61.proto, .int .i64 ((f : Nat) : Int), .int .i64 ((1 + tq : Nat) : Int), .bool false, .bool false, .int .i64 0, .int .u32 0, .int .i64 0, .int .i64 0, .int .i64 0, .int .i64 0, .int .i64 0], .blk g14 92 x61.cells, .row (.slice Ar out.length cr) 65 17 out.length (flat Rs.cells out), .blk g11 95 [.int .i64 ((y.1.1 : Nat) : Int), .int .i64 ((y.1.2 : Nat) : Int), .int .i64 0, .int .i64 0, .int .i64 0, .int .i64 0, .int .i64 0, .int .i64 0, .int .i64 0, .int .i64 0, .int .i64 0, .int .i64 0, .int .i64 0, .int .i64 0, .int .i64 0, .int .i64 0], .row (.slice (some ⟨g_An, 0, none⟩) ns.length cn) 92 5 ns.length (flat Nt.cells ns2), .abs cb (fun w => Cod w cb)] ++ (netsP P2 ++ oths cb w))) ?_ ?_
  ·rcases hv61 with hv0 | hv1
   ·refine zG (TL.v (gF dntfld119_0) ?_)
    refine TL.v (gF pcmfld32_0) ?_
    refine TL.val rfl rfl rfl (show Gives _ _ _ _ _ (Value.int .i64 0) from by rw [show (Value.int .i64 0) = .int .i64 x61.v by rw [hv0]]; exact pm_load (k := 1) (i := 0) rfl rfl pcmag3 rfl rfl) ?_
    refine TL.val rfl rfl rfl (gives_at (v := .pointer (some ⟨g11, 0, none⟩)) rfl rfl rfl (fun w => at_arr Tryz.underlying95 pcmsz3 g11 0 _ 0 (by decide) w)) ?_
    refine TL.v (gL 3 pcmag3) ?_
    refine TL.v (gD ((n0 + 1 : Nat) : Int)) ?_
    refine TL.val rfl rfl rfl (gives_at (v := .pointer (some ⟨g11, 0, none⟩)) rfl rfl rfl (fun w => at_arr Tryz.underlying95 pcmsz3 g11 0 _ 0 (by decide) w)) ?_
    refine TL.pstore (k := 3) (vs := [.int .i64 ((n0 + 1 : Nat) : Int)]) rfl rfl rfl rfl rfl rfl rfl pcmsz3 aeaone_i64 (by show 1 ≤ 16; decide) rfl ?_
    refine zE ?_
    exact TX.joined (⟨(n0 + 1, n1), by dsimp only; omega⟩) (⟨rfl, rfl, rfl, rfl, rfl, rfl, rfl, rfl, rfl, rfl, rfl, rfl, trivial⟩) (fun w1 hw => hw)
   refine zG (TL.v (gF dntfld119_0) ?_)
   refine TL.v (gF pcmfld32_0) ?_
   refine TL.val rfl rfl rfl (show Gives _ _ _ _ _ (Value.int .i64 1) from by rw [show (Value.int .i64 1) = .int .i64 x61.v by rw [hv1]]; exact pm_load (k := 1) (i := 0) rfl rfl pcmag3 rfl rfl) ?_
   refine TL.val rfl rfl rfl (gives_at (v := .pointer (some ⟨g11, 1, none⟩)) rfl rfl rfl (fun w => at_arr Tryz.underlying95 pcmsz3 g11 0 _ 1 (by decide) w)) ?_
   refine TL.v (gL 3 pcmag3) ?_
   refine TL.v (gD ((n1 + 1 : Nat) : Int)) ?_
   refine TL.val rfl rfl rfl (gives_at (v := .pointer (some ⟨g11, 1, none⟩)) rfl rfl rfl (fun w => at_arr Tryz.underlying95 pcmsz3 g11 0 _ 1 (by decide) w)) ?_
   refine TL.pstore (k := 3) (vs := [.int .i64 ((n1 + 1 : Nat) : Int)]) rfl rfl rfl rfl rfl rfl rfl pcmsz3 aeaone_i64 (by show 2 ≤ 16; decide) rfl ?_
   refine zE ?_
   exact TX.joined (⟨(n0, n1 + 1), by dsimp only; omega⟩) (⟨rfl, rfl, rfl, rfl, rfl, rfl, rfl, rfl, rfl, rfl, rfl, rfl, trivial⟩) (fun w1 hw => hw)
  rintro ⟨⟨n2, n3⟩, hn23⟩
  dsimp only at hn23 ⊢
  refine zS (TC.held (ls := #[Ff,Ff,Ff,Ff,Ff,Ff,Ff,Ff,Ff,Ff,Ff]) (fun w1 => ∃ b : Int, Pm ⟨w, cb⟩ [.blk gR 65 [.int .i64 x61.v, .int .i64 0, .int .i64 ((num : Nat) : Int), .int .i64 ((at0 + (1 + dq) : Nat) : Int), .int .u32 x61.dst, .int .i64 x61.proto, .int .i64 ((f : Nat) : Int), .int .i64 ((1 + tq : Nat) : Int), .bool false, .bool false, .int .i64 b, .int .u32 0, .int .i64 0, .int .i64 0, .int .i64 0, .int .i64 0, .int .i64 0]] w1) (by kernel_rfl) rfl rfl (fun w hw => hw.drawn _) ?_)
  refine TH.tk 0 rfl rfl rfl (gF prsfld65_3) (fun w1 hw => ⟨_, hw.pick [0] (by decide) rfl⟩) ?_
  refine TH.tk 1 rfl rfl rfl (gives_load (v := .int .i64 ((at0 + (1 + dq) : Nat) : Int)) rfl rfl pcmag3 (fun w1 hw => by obtain ⟨b, hw⟩ := hw; exact (hw.cell (k := 0) rfl 3).trans rfl)) (fun w1 hw => ⟨_, hw.pick [0] (by decide) rfl⟩) ?_
  refine TH.tk 2 rfl rfl rfl (gF prsfld65_7) (fun w1 hw => ⟨_, hw.pick [0] (by decide) rfl⟩) ?_
  refine TH.tk 3 rfl rfl rfl (gives_load (v := .int .i64 ((1 + tq : Nat) : Int)) rfl rfl pcmag3 (fun w1 hw => by obtain ⟨b, hw⟩ := hw; exact (hw.cell (k := 0) rfl 7).trans rfl)) (fun w1 hw => ⟨_, hw.pick [0] (by decide) rfl⟩) ?_
  refine TH.tk 4 rfl rfl rfl (gives_bin rfl rfl rfl (fun w => bin_mul_ (r := ((5 * (1 + tq) : Nat) : Int)) (by simp only [IntKind.wrap_i64]; omega) w)) (fun w1 hw => ⟨_, hw.pick [0] (by decide) rfl⟩) ?_
  refine TH.tk 5 rfl rfl rfl (gD ((at0 + (1 + dq) + 5 * (1 + tq) : Nat) : Int)) (fun w1 hw => ⟨_, hw.pick [0] (by decide) rfl⟩) ?_
  refine TH.tk 6 rfl rfl rfl (gives_move rfl rfl) (fun w1 hw => ⟨_, hw.pick [0] (by decide) rfl⟩) ?_
  refine TH.only' 7 rfl (by kernel_rfl) rfl ?_
  refine TL.pcallCod (k := 5) (α := {q9 : Nat // q9 ≤ 65535 ∧ (1 ≤ (4 : Int) → (q9 : Int) < 4)}) (fun q9 => .int .i64 ((q9.1 : Nat) : Int)) (fun q9 => []) rfl rfl rfl rfl rfl Tryz.func21 (by decide) rfl rfl (fun w1 hw hC1 => next_cod cb w1 4 hC1) ?_
  rintro ⟨bq, hbq1, hbq2⟩
  dsimp only [List.cons_append, List.nil_append]
  refine zE ?_
  refine TX.he (fun w1 hw => ⟨_, hw.pick [0] (by decide) rfl⟩) fun hS => ?_
  refine TH.t 8 rfl (gD ((at0 + (1 + dq) + 5 * (1 + tq) + bq : Nat) : Int)) hS ?_
  refine TH.t 9 rfl (gF prsfld65_10) hS ?_
  refine TH.only' 10 rfl (by kernel_rfl) rfl ?_
  refine TL.pstore (k := 0) (vs := [.int .i64 ((at0 + (1 + dq) + 5 * (1 + tq) + bq : Nat) : Int)]) rfl rfl rfl rfl rfl rfl rfl pcmsz3 aeaone_i64 (by show 11 ≤ 17; decide) rfl ?_
  refine zE ?_
  refine TX.held (fun w1 hw => ⟨_, hw.pick [0] (by decide) rfl⟩) ?_
  refine TH.done (by kernel_rfl) ?_
  refine zT (zSG (TL.rn 2 rfl ?_))
  refine TL.pcallCod (k := 5) (α := {q9 : Nat // q9 ≤ 65535 ∧ (1 ≤ (5 : Int) → (q9 : Int) < 5)}) (fun q9 => .int .i64 ((q9.1 : Nat) : Int)) (fun q9 => []) rfl rfl rfl rfl rfl Tryz.func21 (by decide) rfl rfl (fun w1 hw hC1 => next_cod cb w1 5 hC1) ?_
  rintro ⟨ec, hec1, hec2⟩
  dsimp only [List.cons_append, List.nil_append]
  refine TL.v (gD ((1 + ec : Nat) : Int)) ?_
  refine TL.v (gD ((idn + (1 + ec) : Nat) : Int)) ?_
  refine TL.as_ ?_
  refine zET (zSG (TL.v (gF dntfld119_2) ?_))
  refine TL.v (gL 1 pcmag30) ?_
  refine TL.as_ ?_
  refine zET ?_
  refine TC.join (α := {a : Int // 0 ≤ a ∧ a ≤ 167774466}) (fun y => [(0, .pointer (some ⟨cb, 0, none⟩)), (2, .bool stb), (7, .slice (some ⟨g_An, 0, none⟩) ns.length cn), (8, .slice Ar out.length cr), (9, .int .i64 ((at0 + (1 + dq) : Nat) : Int)), (10, .int .i64 ((idn + (1 + ec) : Nat) : Int)), (11, .pointer (some ⟨g11, 0, none⟩)), (12, .int .i64 ((k : Nat) : Int)), (16, .slice p71.A p71.l.length p71.c), (17, .pointer (some ⟨gR, 0, none⟩)), (18, .int .u32 y.1)]) (fun y => Pm ⟨w, cb⟩ ([.blk gR 65 [.int .i64 x61.v, .int .i64 0, .int .i64 ((num : Nat) : Int), .int .i64 ((at0 + (1 + dq) : Nat) : Int), .int .u32 x61.dst, .int .i64 x61.proto, .int .i64 ((f : Nat) : Int), .int .i64 ((1 + tq : Nat) : Int), .bool false, .bool false, .int .i64 ((at0 + (1 + dq) + 5 * (1 + tq) + bq : Nat) : Int), .int .u32 0, .int .i64 0, .int .i64 0, .int .i64 0, .int .i64 0, .int .i64 0], .blk g14 92 x61.cells, .row (.slice Ar out.length cr) 65 17 out.length (flat Rs.cells out), .blk g11 95 [.int .i64 ((n2 : Nat) : Int), .int .i64 ((n3 : Nat) : Int), .int .i64 0, .int .i64 0, .int .i64 0, .int .i64 0, .int .i64 0, .int .i64 0, .int .i64 0, .int .i64 0, .int .i64 0, .int .i64 0, .int .i64 0, .int .i64 0, .int .i64 0, .int .i64 0], .row (.slice (some ⟨g_An, 0, none⟩) ns.length cn) 92 5 ns.length (flat Nt.cells ns2), .abs cb (fun w => Cod w cb)] ++ (netsP P2 ++ oths cb w))) ?_ ?_
  ·refine zSG (TL.v (gF prsfld65_7) ?_)
   refine TL.v (gL 0 pcmag3) ?_
   refine TL.mv ?_
   refine TL.v (gN Tryz.underlying96) ?_
   refine TL.sp bin_leq (fun q129 => ?_) (fun q129 => ?_)
   ·refine zET (zc (zG (TL.mv ?_)))
    refine TL.v (gF prsfld65_7) ?_
    refine TL.v (gL 0 pcmag3) ?_
    refine TL.val rfl rfl rfl (gives_bin rfl rfl rfl (fun w => bin_sub_ (r := ((tq : Nat) : Int)) (by simp only [IntKind.wrap_i64]; omega) w)) ?_
    have hmm134 := nets_mem2 (T := oths cb w) hx61p (List.mem_of_getElem? hp71)
    refine TL.fact (p := ∃ g, p71.A = some ⟨g, 0, none⟩) (fun w1 hw => segA hw (List.mem_of_mem_drop (i := 6) (by exact hmm134)) (by omega)) ?_
    rintro ⟨gx134, hgx134⟩
    obtain ⟨z134, hz134⟩ : ∃ z, p71.l[tq]? = some z := ⟨_, List.getElem?_eq_getElem (by omega)⟩
    refine TL.val rfl rfl rfl (gA (i := tq) Tryz.underlying96 dntsz30 rfl rfl rfl rfl hgx134 (by omega)) ?_
    refine TL.val rfl rfl rfl (gives_load (v := .int .u32 z134) rfl rfl pcmag30 (fun w1 hw => seg_cell (ic_cel .u32) hw (List.mem_of_mem_drop (i := 6) (by exact hmm134)) hgx134 hz134 0 _ rfl)) ?_
    have hz134r := hpw71.2 z134 (List.mem_of_getElem? hz134)
    refine TL.as_ ?_
    refine zE ?_
    exact TX.joined (⟨z134, by omega⟩) (⟨rfl, rfl, rfl, rfl, rfl, rfl, rfl, rfl, rfl, rfl, rfl, trivial⟩) (fun w1 hw => hw)
   refine zET (zd (zk ?_))
   exact TX.joined (⟨x61.last, by omega⟩) (⟨rfl, rfl, rfl, rfl, rfl, rfl, rfl, rfl, rfl, rfl, rfl, trivial⟩) (fun w1 hw => hw)
  rintro ⟨fa, hfa⟩
  dsimp only at hfa ⊢
  refine TC.join (α := {y : (Bool × Bool) × (Int × Int) × (Int × Int × Int) // AnsP y.1.1 y.1.2 y.2.1.1 y.2.1.2 y.2.2.1 y.2.2.2.1 y.2.2.2.2}) (fun y => [(0, .pointer (some ⟨cb, 0, none⟩)), (2, .bool stb), (7, .slice (some ⟨g_An, 0, none⟩) ns.length cn), (8, .slice Ar out.length cr), (9, .int .i64 ((at0 + (1 + dq) : Nat) : Int)), (10, .int .i64 ((idn + (1 + ec) : Nat) : Int)), (11, .pointer (some ⟨g11, 0, none⟩)), (12, .int .i64 ((k : Nat) : Int)), (16, .slice p71.A p71.l.length p71.c), (17, .pointer (some ⟨gR, 0, none⟩))]) (fun y => Pm ⟨w, cb⟩ ([.blk gR 65 [.int .i64 x61.v, .int .i64 0, .int .i64 ((num : Nat) : Int), .int .i64 ((at0 + (1 + dq) : Nat) : Int), .int .u32 x61.dst, .int .i64 x61.proto, .int .i64 ((f : Nat) : Int), .int .i64 ((1 + tq : Nat) : Int), .bool y.1.1.1, .bool y.1.1.2, .int .i64 ((at0 + (1 + dq) + 5 * (1 + tq) + bq : Nat) : Int), .int .u32 y.1.2.1.1, .int .i64 y.1.2.1.2, .int .i64 0, .int .i64 y.1.2.2.1, .int .i64 y.1.2.2.2.1, .int .i64 y.1.2.2.2.2], .blk g14 92 x61.cells, .row (.slice Ar out.length cr) 65 17 out.length (flat Rs.cells out), .blk g11 95 [.int .i64 ((n2 : Nat) : Int), .int .i64 ((n3 : Nat) : Int), .int .i64 0, .int .i64 0, .int .i64 0, .int .i64 0, .int .i64 0, .int .i64 0, .int .i64 0, .int .i64 0, .int .i64 0, .int .i64 0, .int .i64 0, .int .i64 0, .int .i64 0, .int .i64 0], .row (.slice (some ⟨g_An, 0, none⟩) ns.length cn) 92 5 ns.length (flat Nt.cells ns2), .abs cb (fun w => Cod w cb)] ++ (netsP P2 ++ oths cb w))) ?_ ?_
  ·refine zSG (TL.mv ?_)
   refine TL.sp bin_neq (fun q137 => ?_) (fun q137 => ?_)
   ·refine TL.rn 2 rfl (TL.gu ?_)
    refine TL.pcallCod (k := 5) (α := Bool) (fun x => .bool x) (fun x => []) rfl rfl rfl rfl rfl Tryz.func18 (by decide) rfl rfl (fun w1 hw hC1 => dbool_cod cb w1 hC1 5 (by decide)) ?_
    rintro b2
    dsimp only [List.cons_append, List.nil_append]
    cases b2 with
    | true =>
     refine TL.rn 2 rfl (zET (zd (zk ?_)))
     exact TX.joined (⟨((false, false), (0, 0), (0, 0, 0)), .inl ⟨rfl, rfl, rfl, rfl, rfl, rfl, rfl⟩⟩) (⟨rfl, rfl, rfl, rfl, rfl, rfl, rfl, rfl, rfl, rfl, trivial⟩) (fun w1 hw => hw)
    | false =>
     refine TL.rn 2 rfl (zET (zc (zSG (TL.mv ?_))))
     refine TL.pcallCod (k := 5) (α := Bool) (fun x => .bool x) (fun x => []) rfl rfl rfl rfl rfl Tryz.func18 (by decide) rfl rfl (fun w1 hw hC1 => dbool_cod cb w1 hC1 30 (by decide)) ?_
     rintro b3
     dsimp only [List.cons_append, List.nil_append]
     refine TL.v (gF prsfld65_8) ?_
     refine TL.pstore (k := 0) (vs := [.bool true]) rfl rfl rfl rfl rfl rfl rfl dresz4 dreone_b (by show 9 ≤ 17; decide) rfl ?_
     refine TL.v (gF prsfld65_9) ?_
     refine TL.pstore (k := 0) (vs := [.bool b3]) rfl rfl rfl rfl rfl rfl rfl dresz4 dreone_b (by show 10 ≤ 17; decide) rfl ?_
     refine zET (zSG (TL.rn 2 rfl ?_))
     refine TL.val rfl rfl rfl (gives_bin (v := .int .i64 ((((idn + (1 + ec)) % 65536 : Nat) : Nat) : Int)) rfl rfl rfl (fun w => by rw [bin_remk (by omega) (by decide) w]; rfl)) ?_
     refine TL.val rfl rfl rfl (gives_build (v := .agg #[.int .u32 fa, .int .i64 1, .int .i64 0, .int .i64 60, .int .i64 (((idn + (1 + ec)) % 65536 : Nat) : Int), .int .i64 1]) rfl rfl (fun w => drebld45_50928 _ _ _ _ _ w)) ?_
     refine TL.v (gF prsfld65_11) ?_
     refine TL.pstore (k := 0) (vs := [.int .u32 fa, .int .i64 1, .int .i64 0, .int .i64 60, .int .i64 (((idn + (1 + ec)) % 65536 : Nat) : Int), .int .i64 1]) rfl rfl rfl rfl rfl rfl rfl dresz45 dreone_u32i64i64i64i64i64 (by show 17 ≤ 17; decide) rfl ?_
     refine zET (zS (zSG (TL.v (gF prsfld65_7) ?_)))
     refine TL.v (gL 0 pcmag3) ?_
     refine TL.mv ?_
     refine TL.v (gN Tryz.underlying96) ?_
     refine TL.sp bin_gtr (fun q156 => ?_) (fun q156 => ?_)
     ·refine zET (zc (zG (TL.mv ?_)))
      refine TL.prowS (e := 3) (size := 1) (cs := flat (ic .i64) [3, 3, 2]) rfl rfl rfl rfl rfl (fun w => pcmbs106_3_44640 _ _ _ w) (by decide) rfl (fun g158 => ?_)
      refine TL.pcallCod (k := 6) (α := {v : Int // v ∈ ([3, 3, 2] : List Int)}) (fun x => .int .i64 x.1) (fun x => []) rfl rfl rfl rfl rfl Tryz.func22 (by decide) rfl rfl (fun w1 hw hC1 => pick_cod cb w1 hC1 g158 3 ([3, 3, 2]) (hw.neq (i := 0) (j := 6) rfl rfl (by decide) g158 rfl <| congrArg some ·.symm) (Pc.lt (hw.at_ (k := 0) rfl) g158 rfl).2 (by show 0 < ([3, 3, 2] : List Int).length; simp) (fun i v hi => flat_row1 hw (q := 0) rfl hi)) ?_
      rintro ⟨pk, hpk⟩
      dsimp only [List.cons_append, List.nil_append]
      have hpkb : pk = 3 ∨ pk = 2 := by simp only [List.mem_cons, List.not_mem_nil, or_false] at hpk; omega
      refine TL.v (gF prsfld65_11) ?_
      refine TL.v (gF prsfld63_1) ?_
      refine TL.pstore (k := 1) (vs := [.int .i64 pk]) rfl rfl rfl rfl rfl rfl rfl pcmsz3 aeaone_i64 (by show 13 ≤ 17; decide) rfl ?_
      refine zET (zSG (TL.mv ?_))
      refine TL.pcallCod (k := 6) (α := Bool) (fun x => .bool x) (fun x => []) rfl rfl rfl rfl rfl Tryz.func18 (by decide) rfl rfl (fun w1 hw hC1 => dbool_cod cb w1 hC1 5 (by decide)) ?_
      rintro b4
      dsimp only [List.cons_append, List.nil_append]
      refine zET ?_
      refine TC.split (t := b4) rfl (fun c163 => ?_) (fun c163 => ?_)
      ·refine zG (TL.mv ?_)
       refine TL.pcallCod (k := 6) (α := {q9 : Nat // q9 ≤ 65535 ∧ (1 ≤ (65536 : Int) → (q9 : Int) < 65536)}) (fun q9 => .int .i64 ((q9.1 : Nat) : Int)) (fun q9 => []) rfl rfl rfl rfl rfl Tryz.func21 (by decide) rfl rfl (fun w1 hw hC1 => next_cod cb w1 65536 hC1) ?_
       rintro ⟨ie0, hie01, hie02⟩
       dsimp only [List.cons_append, List.nil_append]
       refine TL.v (gF prsfld65_11) ?_
       refine TL.v (gF prsfld63_4) ?_
       refine TL.pstore (k := 1) (vs := [.int .i64 ((ie0 : Nat) : Int)]) rfl rfl rfl rfl rfl rfl rfl pcmsz3 aeaone_i64 (by show 16 ≤ 17; decide) rfl ?_
       refine zE ?_
       exact TX.joined (⟨((true, b3), (fa, pk), (60, ((ie0 : Nat) : Int), 1)), .inr ⟨rfl, by dsimp only; omega, by dsimp only; omega, by dsimp only; omega, by dsimp only; omega, rfl, by dsimp only; omega, by dsimp only; omega, rfl⟩⟩) (⟨rfl, rfl, rfl, rfl, rfl, rfl, rfl, rfl, rfl, rfl, trivial⟩) (fun w1 hw => hw.sel (.cons _ (.cons_cons _ (.cons_cons _ (.cons_cons _ (.cons_cons _ (.cons_cons _ (.cons_cons _ (List.Sublist.refl _)))))))))
      refine zk ?_
      exact TX.joined (⟨((true, b3), (fa, pk), (60, (((idn + (1 + ec)) % 65536 : Nat) : Int), 1)), .inr ⟨rfl, by dsimp only; omega, by dsimp only; omega, by dsimp only; omega, by dsimp only; omega, rfl, by dsimp only; omega, by dsimp only; omega, rfl⟩⟩) (⟨rfl, rfl, rfl, rfl, rfl, rfl, rfl, rfl, rfl, rfl, trivial⟩) (fun w1 hw => hw.sel (.cons _ (.cons_cons _ (.cons_cons _ (.cons_cons _ (.cons_cons _ (.cons_cons _ (.cons_cons _ (List.Sublist.refl _)))))))))
     refine zET (zd (zk (zT (zSG (TL.mv ?_)))))
     refine TL.pcallCod (k := 5) (α := Bool) (fun x => .bool x) (fun x => []) rfl rfl rfl rfl rfl Tryz.func18 (by decide) rfl rfl (fun w1 hw hC1 => dbool_cod cb w1 hC1 5 (by decide)) ?_
     rintro b4
     dsimp only [List.cons_append, List.nil_append]
     refine zET ?_
     refine TC.split (t := b4) rfl (fun c163 => ?_) (fun c163 => ?_)
     ·refine zG (TL.mv ?_)
      refine TL.pcallCod (k := 5) (α := {q9 : Nat // q9 ≤ 65535 ∧ (1 ≤ (65536 : Int) → (q9 : Int) < 65536)}) (fun q9 => .int .i64 ((q9.1 : Nat) : Int)) (fun q9 => []) rfl rfl rfl rfl rfl Tryz.func21 (by decide) rfl rfl (fun w1 hw hC1 => next_cod cb w1 65536 hC1) ?_
      rintro ⟨ie0, hie01, hie02⟩
      dsimp only [List.cons_append, List.nil_append]
      refine TL.v (gF prsfld65_11) ?_
      refine TL.v (gF prsfld63_4) ?_
      refine TL.pstore (k := 0) (vs := [.int .i64 ((ie0 : Nat) : Int)]) rfl rfl rfl rfl rfl rfl rfl pcmsz3 aeaone_i64 (by show 16 ≤ 17; decide) rfl ?_
      refine zE ?_
      exact TX.joined (⟨((true, b3), (fa, 1), (60, ((ie0 : Nat) : Int), 1)), .inr ⟨rfl, by dsimp only; omega, by dsimp only; omega, by dsimp only; omega, by dsimp only; omega, rfl, by dsimp only; omega, by dsimp only; omega, rfl⟩⟩) (⟨rfl, rfl, rfl, rfl, rfl, rfl, rfl, rfl, rfl, rfl, trivial⟩) (fun w1 hw => hw)
     refine zk ?_
     exact TX.joined (⟨((true, b3), (fa, 1), (60, (((idn + (1 + ec)) % 65536 : Nat) : Int), 1)), .inr ⟨rfl, by dsimp only; omega, by dsimp only; omega, by dsimp only; omega, by dsimp only; omega, rfl, by dsimp only; omega, by dsimp only; omega, rfl⟩⟩) (⟨rfl, rfl, rfl, rfl, rfl, rfl, rfl, rfl, rfl, rfl, trivial⟩) (fun w1 hw => hw)
   refine TL.rn 5 rfl (zET (zd (zk ?_)))
   exact TX.joined (⟨((false, false), (0, 0), (0, 0, 0)), .inl ⟨rfl, rfl, rfl, rfl, rfl, rfl, rfl⟩⟩) (⟨rfl, rfl, rfl, rfl, rfl, rfl, rfl, rfl, rfl, rfl, trivial⟩) (fun w1 hw => hw)
  rintro ⟨⟨⟨an, db⟩, ⟨sr, kd⟩, lf, ie, qu⟩, han⟩
  dsimp only at han ⊢
  refine zS ?_
  have hout2 := hout.snoc hx61t hnum hn23 han (by omega : at0 < at0 + (1 + dq)) (show f ≤ 2 by omega) (show tq ≤ 3 by omega) (show bq ≤ 3 by omega) (by omega)
  refine zG (TL.v (gF prsfld65_10) ?_)
  refine TL.v (gL 0 pcmag3) ?_
  refine TL.as_ ?_
  refine zET (zG (TL.mv ?_))
  refine TL.v (gV 0 (.agg #[.int .i64 x61.v, .int .i64 0, .int .i64 ((num : Nat) : Int), .int .i64 ((at0 + (1 + dq) : Nat) : Int), .int .u32 x61.dst, .int .i64 x61.proto, .int .i64 ((f : Nat) : Int), .int .i64 ((1 + tq : Nat) : Int), .bool an, .bool db, .int .i64 ((at0 + (1 + dq) + 5 * (1 + tq) + bq : Nat) : Int), .int .u32 sr, .int .i64 kd, .int .i64 0, .int .i64 lf, .int .i64 ie, .int .i64 qu]) prsag65 prssz65) ?_
  refine TL.prowS (e := 65) (size := 17) (cs := flat Rs.cells [(⟨x61.v, 0, ((num : Nat) : Int), ((at0 + (1 + dq) : Nat) : Int), x61.dst, x61.proto, ((f : Nat) : Int), ((1 + tq : Nat) : Int), an, db, ((at0 + (1 + dq) + 5 * (1 + tq) + bq : Nat) : Int), sr, kd, 0, lf, ie, qu⟩ : Rs)]) rfl rfl rfl rfl rfl (fun w => porbs23_1_99505 _ _ _ _ _ _ _ _ _ _ _ _ _ _ _ _ _ w) (by decide) rfl (fun g172 => ?_)
  refine TL.appendT (k := 3) rfl rfl rfl rfl Tryz.underlying23 porel23 rfl rfl rfl (fun w1 hw => pm_reads hw (k := 0) rfl) (flat_one rs_cel _) (by show _ * 128 ≤ _; omega) ((out ++ [(⟨x61.v, 0, ((num : Nat) : Int), ((at0 + (1 + dq) : Nat) : Int), x61.dst, x61.proto, ((f : Nat) : Int), ((1 + tq : Nat) : Int), an, db, ((at0 + (1 + dq) + 5 * (1 + tq) + bq : Nat) : Int), sr, kd, 0, lf, ie, qu⟩ : Rs)]).length) (by rw [List.length_append]; rfl) (flat Rs.cells (out ++ [(⟨x61.v, 0, ((num : Nat) : Int), ((at0 + (1 + dq) : Nat) : Int), x61.dst, x61.proto, ((f : Nat) : Int), ((1 + tq : Nat) : Int), an, db, ((at0 + (1 + dq) + 5 * (1 + tq) + bq : Nat) : Int), sr, kd, 0, lf, ie, qu⟩ : Rs)])) ((flat_app _ _).symm) (fun A173 c173 hA1731 hA1732 => ?_)
  refine TL.as_ ?_
  refine zE (zN (zT (zG (TL.mv ?_))))
  refine TL.val rfl rfl rfl (gives_bin rfl rfl rfl (fun w => bin_sub_ (r := ((k - 1 : Nat) : Int)) (by simp only [IntKind.wrap_i64]; omega) w)) ?_
  refine TL.as_ ?_
  refine zE ?_
  exact TX.round (⟨(k - 1, at0 + (1 + dq) + 5 * (1 + tq) + bq, idn + (1 + ec), (n2, n3), (A173, c173), out ++ [(⟨x61.v, 0, ((num : Nat) : Int), ((at0 + (1 + dq) : Nat) : Int), x61.dst, x61.proto, ((f : Nat) : Int), ((1 + tq : Nat) : Int), an, db, ((at0 + (1 + dq) + 5 * (1 + tq) + bq : Nat) : Int), sr, kd, 0, lf, ie, qu⟩ : Rs)], ns2, P2), ⟨by dsimp only; rw [List.length_append]; show k - 1 + (out.length + 1) ≤ m; omega, by dsimp only; rw [List.length_append]; show _ ≤ 100 + 100 * (out.length + 1); omega, by dsimp only; rw [List.length_append]; show _ ≤ 70000 + 100 * (out.length + 1); omega⟩, hout2, hns2, by dsimp only; omega, hA1731, hA1732⟩) (by show k - 1 < k; omega) ⟨rfl, rfl, rfl, rfl, rfl, rfl, rfl, rfl, trivial⟩ (fun w1 hw => hw.sel (.cons _ (.cons _ (.cons _ (.cons_cons _ (.cons_cons _ (.cons_cons _ (.cons_cons _ (List.Sublist.refl _)))))))))
 refine zET (zd (zx (zX (zX (zM (zT (zSG (TL.rn 2 rfl (zET (zr ?_))))))))))
 exact ret_tmp Tryz.results17 rfl (fun w1 hw => ⟨⟨((Ar, cr), out), hout.ok (by omega), hrc, hrm⟩, rfl, Pm.codr [_] ((hw.sel (.cons_cons _ (.cons _ (.cons _ (.cons_cons _ (List.Sublist.refl _)))))).sel (.cons_cons _ (.cons_cons _ (List.sublist_append_right _ _)))) rfl⟩)
set_option maxRecDepth 20000
def ShufOk (l o : List Rs) : Prop := (∀ r, r ∈ o ↔ r ∈ l) ∧ o.length ≤ 2 * l.length
theorem ShufOk.nil {l : List Rs} : ShufOk (l.take 0) [] := ⟨fun r => by rw [List.take_zero], Nat.zero_le _⟩
set_option maxRecDepth 20000
def tabV (l : List Int) : List Value := l.map (Value.int .i64)
def tab14 : List Int := [9223372036854775807, -9223372036854775808, 1125899906842624, 1125899906842625, 65535, 65536, 255, 256, 1023, 1024, 65534, 65535, 4294967296, 4611686018427387905]
def tab3 : List Int := [17, 1, 6]
theorem tab_at (l : List Int) (x : Nat) (h : x < l.length) : ∃ v, (tabV l)[0 + x * 1]? = some (.int .i64 v) := ⟨l[x], by rw [Nat.zero_add, Nat.mul_one]; simp [tabV, h]⟩
theorem jdrbs76_14_77721 (a0_0 : Int) (a1_0 : Int) (a2_0 : Int) (a3_0 : Int) (a4_0 : Int) (a5_0 : Int) (a6_0 : Int) (a7_0 : Int) (a8_0 : Int) (a9_0 : Int) (a10_0 : Int) (a11_0 : Int) (a12_0 : Int) (a13_0 : Int) (w : World) : (Instr.buildSlice 106 14 #[(0, .int .i64 a0_0), (1, .int .i64 a1_0), (2, .int .i64 a2_0), (3, .int .i64 a3_0), (4, .int .i64 a4_0), (5, .int .i64 a5_0), (6, .int .i64 a6_0), (7, .int .i64 a7_0), (8, .int .i64 a8_0), (9, .int .i64 a9_0), (10, .int .i64 a10_0), (11, .int .i64 a11_0), (12, .int .i64 a12_0), (13, .int .i64 a13_0)]).run Tryz.prog w = .ok (.slice (some ⟨w.heap.size, 0, none⟩) 14 14) (w.alloc (.cells [.int .i64 a0_0, .int .i64 a1_0, .int .i64 a2_0, .int .i64 a3_0, .int .i64 a4_0, .int .i64 a5_0, .int .i64 a6_0, .int .i64 a7_0, .int .i64 a8_0, .int .i64 a9_0, .int .i64 a10_0, .int .i64 a11_0, .int .i64 a12_0, .int .i64 a13_0].toArray 3)) := by kernel_rfl
theorem jdrbld25_14255 (a0_0 : Int) (a1_0 : Int) (a2_0 : Int) (a3_0 : Int) (a4_0 : Int) (a5_0 : Int) (w : World) : (Instr.build 63 #[(0, .int .u32 a0_0), (1, .int .i64 a1_0), (2, .int .i64 a2_0), (3, .int .i64 a3_0), (4, .int .i64 a4_0), (5, .int .i64 a5_0)]).run Tryz.prog w = .ok (.agg #[.int .u32 a0_0, .int .i64 a1_0, .int .i64 a2_0, .int .i64 a3_0, .int .i64 a4_0, .int .i64 a5_0]) w := by kernel_rfl
theorem int_cod (cb : Nat) (w : World) (hC : Cod w cb) :
  Calls Tryz.prog 118 #[.pointer (some ⟨cb, 0, none⟩)] w fun e w' => ∃ x : Int, e = .returned (.int .i64 x) ∧ Codr (fun w => Cod w cb) cb w [] w' := by
 refine begin_ (vs := [.pointer (some ⟨cb, 0, none⟩)]) (I := Pm ⟨w, cb⟩ (.abs cb (fun w => Cod w cb) :: oths cb w)) Tryz.func118 rfl rfl rfl ?_ (Pm.codes hC (cod_cells hC) (cod_stab cb))
 refine zSG (TL.as_ ?_)
 refine zET (zS (zSG (TL.mv ?_)))
 refine TL.pcallCod (k := 0) (α := {x : Nat // x ≤ 65535 ∧ (1 ≤ (10 : Int) → (x : Int) < 10)}) (fun y => .int .i64 (y.1 : Int)) (fun y => []) rfl rfl rfl rfl rfl Tryz.func21 (by decide) rfl rfl (fun w1 hw hC1 => next_cod cb w1 10 hC1) ?_
 rintro ⟨x4, hx41, hx42⟩
 dsimp only [List.cons_append, List.nil_append] at hx41 hx42 ⊢
 replace hx42 := hx42 (by omega)
 refine zET (zB (zSG ?_))
 refine TL.sp bin_eql (fun q6 => ?_) (fun q6 => ?_)
 ·refine TL.as_ ?_
  refine zET (zc (zSG (TL.mv ?_)))
  refine TL.pcallCod (k := 0) (α := {x : Nat // x ≤ 65535 ∧ (1 ≤ (3 : Int) → (x : Int) < 3)}) (fun y => .int .i64 (y.1 : Int)) (fun y => []) rfl rfl rfl rfl rfl Tryz.func21 (by decide) rfl rfl (fun w1 hw hC1 => next_cod cb w1 3 hC1) ?_
  rintro ⟨x8, hx81, hx82⟩
  dsimp only [List.cons_append, List.nil_append] at hx81 hx82 ⊢
  replace hx82 := hx82 (by omega)
  refine TL.val rfl rfl rfl (gives_bin rfl rfl rfl (fun w => bin_sub_ (r := (-1) - ((x8 : Nat) : Int)) (by simp only [IntKind.wrap_i64]; omega) w)) ?_
  refine TL.as_ ?_
  refine zET (zr (zRR ?_))
  exact ret_tmp Tryz.results118 rfl (fun w1 hw => ⟨(-1) - ((x8 : Nat) : Int), rfl, Pm.codr [] (hw) rfl⟩)
 refine TL.as_ ?_
 refine zET (zd (zSG ?_))
 refine TL.sp bin_eql (fun q11 => ?_) (fun q11 => ?_)
 ·refine TL.as_ ?_
  refine zET (zc (zSG ?_))
  refine TL.prowS (e := 3) (size := 1) (cs := tabV tab14) rfl rfl rfl rfl rfl (fun w => jdrbs76_14_77721 _ _ _ _ _ _ _ _ _ _ _ _ _ _ w) (by decide) rfl (fun g12 => ?_)
  refine TL.mv ?_
  refine TL.pcallCod (k := 1) (α := {x : Nat // x ≤ 65535 ∧ (1 ≤ (14 : Int) → (x : Int) < 14)}) (fun y => .int .i64 (y.1 : Int)) (fun y => []) rfl rfl rfl rfl rfl Tryz.func21 (by decide) rfl rfl (fun w1 hw hC1 => next_cod cb w1 14 hC1) ?_
  rintro ⟨x14, hx141, hx142⟩
  dsimp only [List.cons_append, List.nil_append] at hx141 hx142 ⊢
  replace hx142 := hx142 (by omega)
  refine TL.val rfl rfl rfl (gives_at (v := .pointer (some ⟨g12, 0 + x14 * 1, none⟩)) rfl rfl rfl (fun w => at_el Tryz.underlying106 (fun w => rfl) rfl 14 14 x14 (by omega) rfl w)) ?_
  obtain ⟨t16, ht16⟩ := tab_at tab14 x14 (show x14 < tab14.length by simpa [tab14] using (by omega : x14 < 14))
  refine TL.val rfl rfl rfl (pm_loadRow (k := 0) (v := .int .i64 t16) rfl rfl (fun w => rfl) rfl ht16) ?_
  refine TL.as_ ?_
  refine zET (zr (zRR ?_))
  exact ret_tmp Tryz.results118 rfl (fun w1 hw => ⟨t16, rfl, Pm.codr [] (hw.sel (.cons _ (.cons_cons _ (List.Sublist.refl _)))) rfl⟩)
 refine TL.as_ ?_
 refine zET (zd (zSG ?_))
 refine TL.sp bin_eql (fun q18 => ?_) (fun q18 => ?_)
 ·refine TL.as_ ?_
  refine zET (zc (zSG (TL.mv ?_)))
  refine TL.pcallCod (k := 0) (α := {x : Nat // x ≤ 65535 ∧ (1 ≤ (256 : Int) → (x : Int) < 256)}) (fun y => .int .i64 (y.1 : Int)) (fun y => []) rfl rfl rfl rfl rfl Tryz.func21 (by decide) rfl rfl (fun w1 hw hC1 => next_cod cb w1 256 hC1) ?_
  rintro ⟨x20, hx201, hx202⟩
  dsimp only [List.cons_append, List.nil_append] at hx201 hx202 ⊢
  replace hx202 := hx202 (by omega)
  refine TL.val rfl rfl rfl (gives_bin rfl rfl rfl (fun w => bin_mul_ (r := 256 * ((x20 : Nat) : Int)) (by simp only [IntKind.wrap_i64]; omega) w)) ?_
  refine TL.mv ?_
  refine TL.pcallCod (k := 0) (α := {x : Nat // x ≤ 65535 ∧ (1 ≤ (256 : Int) → (x : Int) < 256)}) (fun y => .int .i64 (y.1 : Int)) (fun y => []) rfl rfl rfl rfl rfl Tryz.func21 (by decide) rfl rfl (fun w1 hw hC1 => next_cod cb w1 256 hC1) ?_
  rintro ⟨x23, hx231, hx232⟩
  dsimp only [List.cons_append, List.nil_append] at hx231 hx232 ⊢
  replace hx232 := hx232 (by omega)
  refine TL.v (gD ((256 * ((x20 : Nat) : Int)) + ((x23 : Nat) : Int))) ?_
  refine TL.as_ ?_
  refine zET (zr (zRR ?_))
  exact ret_tmp Tryz.results118 rfl (fun w1 hw => ⟨(256 * ((x20 : Nat) : Int)) + ((x23 : Nat) : Int), rfl, Pm.codr [] (hw) rfl⟩)
 refine TL.as_ ?_
 refine zET (zd (zk (zN (zT (zSG (TL.mv ?_))))))
 refine TL.pcallCod (k := 0) (α := {x : Nat // x ≤ 65535 ∧ (1 ≤ (40 : Int) → (x : Int) < 40)}) (fun y => .int .i64 (y.1 : Int)) (fun y => []) rfl rfl rfl rfl rfl Tryz.func21 (by decide) rfl rfl (fun w1 hw hC1 => next_cod cb w1 40 hC1) ?_
 rintro ⟨x26, hx261, hx262⟩
 dsimp only [List.cons_append, List.nil_append] at hx261 hx262 ⊢
 replace hx262 := hx262 (by omega)
 refine TL.as_ ?_
 refine zET (zr ?_)
 exact ret_tmp Tryz.results118 rfl (fun w1 hw => ⟨((x26 : Nat) : Int), rfl, Pm.codr [] (hw) rfl⟩)
theorem proto_cod (cb : Nat) (w : World) (hC : Cod w cb) :
  Calls Tryz.prog 117 #[.pointer (some ⟨cb, 0, none⟩)] w fun e w' => ∃ x : Int, e = .returned (.int .i64 x) ∧ Codr (fun w => Cod w cb) cb w [] w' := by
 refine begin_ (vs := [.pointer (some ⟨cb, 0, none⟩)]) (I := Pm ⟨w, cb⟩ (.abs cb (fun w => Cod w cb) :: oths cb w)) Tryz.func117 rfl rfl rfl ?_ (Pm.codes hC (cod_cells hC) (cod_stab cb))
 refine zSG (TL.as_ ?_)
 refine zET (zSG ?_)
 refine TL.prowS (e := 3) (size := 1) (cs := tabV tab3) rfl rfl rfl rfl rfl (fun w => pcmbs106_3_44640 _ _ _ w) (by decide) rfl (fun g3 => ?_)
 refine TL.mv ?_
 refine TL.pcallCod (k := 1) (α := {x : Nat // x ≤ 65535 ∧ (1 ≤ (3 : Int) → (x : Int) < 3)}) (fun y => .int .i64 (y.1 : Int)) (fun y => []) rfl rfl rfl rfl rfl Tryz.func21 (by decide) rfl rfl (fun w1 hw hC1 => next_cod cb w1 3 hC1) ?_
 rintro ⟨x5, hx51, hx52⟩
 dsimp only [List.cons_append, List.nil_append] at hx51 hx52 ⊢
 replace hx52 := hx52 (by omega)
 refine TL.val rfl rfl rfl (gives_at (v := .pointer (some ⟨g3, 0 + x5 * 1, none⟩)) rfl rfl rfl (fun w => at_el Tryz.underlying106 (fun w => rfl) rfl 3 3 x5 (by omega) rfl w)) ?_
 obtain ⟨t7, ht7⟩ := tab_at tab3 x5 (show x5 < tab3.length by simpa [tab3] using (by omega : x5 < 3))
 refine TL.val rfl rfl rfl (pm_loadRow (k := 0) (v := .int .i64 t7) rfl rfl (fun w => rfl) rfl ht7) ?_
 refine TL.as_ ?_
 refine zET (zr ?_)
 exact ret_tmp Tryz.results117 rfl (fun w1 hw => ⟨t7, rfl, Pm.codr [] (hw.sel (.cons _ (.cons_cons _ (List.Sublist.refl _)))) rfl⟩)
theorem addr_cod (cb : Nat) (w : World) (hC : Cod w cb) :
  Calls Tryz.prog 116 #[.pointer (some ⟨cb, 0, none⟩)] w fun e w' => ∃ x : {x : Int // 0 ≤ x ∧ x ≤ 4294967295}, e = .returned (.int .u32 x.1) ∧ Codr (fun w => Cod w cb) cb w [] w' := by
 refine begin_ (vs := [.pointer (some ⟨cb, 0, none⟩)]) (I := Pm ⟨w, cb⟩ (.abs cb (fun w => Cod w cb) :: oths cb w)) Tryz.func116 rfl rfl rfl ?_ (Pm.codes hC (cod_cells hC) (cod_stab cb))
 refine zSG (TL.as_ ?_)
 refine zET (zS (zSG (TL.mv ?_)))
 refine TL.pcallCod (k := 0) (α := {x : Nat // x ≤ 65535 ∧ (1 ≤ (12 : Int) → (x : Int) < 12)}) (fun y => .int .i64 (y.1 : Int)) (fun y => []) rfl rfl rfl rfl rfl Tryz.func21 (by decide) rfl rfl (fun w1 hw hC1 => next_cod cb w1 12 hC1) ?_
 rintro ⟨x4, hx41, hx42⟩
 dsimp only [List.cons_append, List.nil_append] at hx41 hx42 ⊢
 replace hx42 := hx42 (by omega)
 refine TL.sp bin_eql (fun q5 => ?_) (fun q5 => ?_)
 ·refine zET (zc (zSG (TL.mv ?_)))
  refine TL.pcallCod (k := 0) (α := {x : Nat // x ≤ 65535 ∧ (1 ≤ (65536 : Int) → (x : Int) < 65536)}) (fun y => .int .i64 (y.1 : Int)) (fun y => []) rfl rfl rfl rfl rfl Tryz.func21 (by decide) rfl rfl (fun w1 hw hC1 => next_cod cb w1 65536 hC1) ?_
  rintro ⟨x7, hx71, hx72⟩
  dsimp only [List.cons_append, List.nil_append] at hx71 hx72 ⊢
  replace hx72 := hx72 (by omega)
  refine TL.val rfl rfl rfl (gives_bin (v := .int .i64 (((x7 : Nat) : Int) * 65536)) rfl rfl rfl (fun w => by rw [bin_shl 65536 (by decide) (by decide) (by decide) w]; congr 2; simp only [IntKind.wrap_i64]; omega)) ?_
  refine TL.mv ?_
  refine TL.pcallCod (k := 0) (α := {x : Nat // x ≤ 65535 ∧ (1 ≤ (65536 : Int) → (x : Int) < 65536)}) (fun y => .int .i64 (y.1 : Int)) (fun y => []) rfl rfl rfl rfl rfl Tryz.func21 (by decide) rfl rfl (fun w1 hw hC1 => next_cod cb w1 65536 hC1) ?_
  rintro ⟨x10, hx101, hx102⟩
  dsimp only [List.cons_append, List.nil_append] at hx101 hx102 ⊢
  replace hx102 := hx102 (by omega)
  refine TL.v (gD ((((x7 : Nat) : Int) * 65536) + ((x10 : Nat) : Int))) ?_
  refine TL.val rfl rfl rfl (gives_conv rfl rfl (fun w => conv_fit (k := .i64) Tryz.underlying30 Tryz.underlying3 (by simp only [IntKind.wrap_u32]; omega) w)) ?_
  refine TL.as_ ?_
  refine zET (zr (zR ?_))
  exact ret_tmp Tryz.results116 rfl (fun w1 hw => ⟨⟨(((x7 : Nat) : Int) * 65536) + ((x10 : Nat) : Int), by omega, by omega⟩, rfl, Pm.codr [] (hw) rfl⟩)
 refine zET (zd (zk (zT (zSG (TL.mv ?_)))))
 refine TL.pcallCod (k := 0) (α := {x : Nat // x ≤ 65535 ∧ (1 ≤ (3 : Int) → (x : Int) < 3)}) (fun y => .int .i64 (y.1 : Int)) (fun y => []) rfl rfl rfl rfl rfl Tryz.func21 (by decide) rfl rfl (fun w1 hw hC1 => next_cod cb w1 3 hC1) ?_
 rintro ⟨x14, hx141, hx142⟩
 dsimp only [List.cons_append, List.nil_append] at hx141 hx142 ⊢
 replace hx142 := hx142 (by omega)
 refine TL.val rfl rfl rfl (gives_bin (v := .int .i64 (((x14 : Nat) : Int) * 65536)) rfl rfl rfl (fun w => by rw [bin_shl 65536 (by decide) (by decide) (by decide) w]; congr 2; simp only [IntKind.wrap_i64]; omega)) ?_
 refine TL.v (gD (167772160 + (((x14 : Nat) : Int) * 65536))) ?_
 refine TL.mv ?_
 refine TL.pcallCod (k := 0) (α := {x : Nat // x ≤ 65535 ∧ (1 ≤ (8 : Int) → (x : Int) < 8)}) (fun y => .int .i64 (y.1 : Int)) (fun y => []) rfl rfl rfl rfl rfl Tryz.func21 (by decide) rfl rfl (fun w1 hw hC1 => next_cod cb w1 8 hC1) ?_
 rintro ⟨x18, hx181, hx182⟩
 dsimp only [List.cons_append, List.nil_append] at hx181 hx182 ⊢
 replace hx182 := hx182 (by omega)
 refine TL.v (gD ((167772160 + (((x14 : Nat) : Int) * 65536)) + ((x18 : Nat) : Int))) ?_
 refine TL.val rfl rfl rfl (gives_conv rfl rfl (fun w => conv_fit (k := .i64) Tryz.underlying30 Tryz.underlying3 (by simp only [IntKind.wrap_u32]; omega) w)) ?_
 refine TL.as_ ?_
 refine zET (zr ?_)
 exact ret_tmp Tryz.results116 rfl (fun w1 hw => ⟨⟨(167772160 + (((x14 : Nat) : Int) * 65536)) + ((x18 : Nat) : Int), by omega, by omega⟩, rfl, Pm.codr [] (hw) rfl⟩)
set_option maxHeartbeats 4000000 in
theorem result_cod (cb : Nat) (w : World) (hC : Cod w cb) :
  Calls Tryz.prog 66 #[.pointer (some ⟨cb, 0, none⟩)] w fun e w' => ∃ x : {x : Rs // x.Ok}, e = .returned (.agg x.1.cells.toArray) ∧ Codr (fun w => Cod w cb) cb w [] w' := by
 refine begin_ (vs := [.pointer (some ⟨cb, 0, none⟩)]) (I := Pm ⟨w, cb⟩ (.abs cb (fun w => Cod w cb) :: oths cb w)) Tryz.func66 rfl rfl rfl ?_ (Pm.codes hC (cod_cells hC) (cod_stab cb))
 refine zSG ?_
 refine TL.pnew rfl rfl rfl (exec_alloc (cs := Rs.zero.cells) rfl arpzv65 rfl) (fun g2 => ?_)
 refine zET (zSG (TL.mv ?_))
 refine TL.pcallCod (k := 1) (α := {x : Nat // x ≤ 65535 ∧ (1 ≤ (2 : Int) → (x : Int) < 2)}) (fun y => .int .i64 (y.1 : Int)) (fun y => []) rfl rfl rfl rfl rfl Tryz.func21 (by decide) rfl rfl (fun w1 hw hC1 => next_cod cb w1 2 hC1) ?_
 rintro ⟨x5, hx51, hx52⟩
 dsimp only [List.cons_append, List.nil_append] at hx51 hx52 ⊢
 replace hx52 := hx52 (by omega)
 refine TL.mv ?_
 refine TL.pcallCod (k := 1) (α := {x : Nat // x ≤ 65535 ∧ (1 ≤ (2 : Int) → (x : Int) < 2)}) (fun y => .int .i64 (y.1 : Int)) (fun y => []) rfl rfl rfl rfl rfl Tryz.func21 (by decide) rfl rfl (fun w1 hw hC1 => next_cod cb w1 2 hC1) ?_
 rintro ⟨x7, hx71, hx72⟩
 dsimp only [List.cons_append, List.nil_append] at hx71 hx72 ⊢
 replace hx72 := hx72 (by omega)
 refine TL.mv ?_
 refine TL.pcallCod (k := 1) (α := {x : Nat // x ≤ 65535 ∧ (1 ≤ (4 : Int) → (x : Int) < 4)}) (fun y => .int .i64 (y.1 : Int)) (fun y => []) rfl rfl rfl rfl rfl Tryz.func21 (by decide) rfl rfl (fun w1 hw hC1 => next_cod cb w1 4 hC1) ?_
 rintro ⟨x9, hx91, hx92⟩
 dsimp only [List.cons_append, List.nil_append] at hx91 hx92 ⊢
 replace hx92 := hx92 (by omega)
 refine TL.mv ?_
 refine TL.pcallCod (k := 1) (α := {x : Nat // x ≤ 65535 ∧ (1 ≤ (50 : Int) → (x : Int) < 50)}) (fun y => .int .i64 (y.1 : Int)) (fun y => []) rfl rfl rfl rfl rfl Tryz.func21 (by decide) rfl rfl (fun w1 hw hC1 => next_cod cb w1 50 hC1) ?_
 rintro ⟨x11, hx111, hx112⟩
 dsimp only [List.cons_append, List.nil_append] at hx111 hx112 ⊢
 replace hx112 := hx112 (by omega)
 refine TL.mv ?_
 refine TL.pcallCod (k := 1) (α := {x : Int // 0 ≤ x ∧ x ≤ 4294967295}) (fun y => .int .u32 y.1) (fun y => []) rfl rfl rfl rfl rfl Tryz.func116 (by decide) rfl rfl (fun w1 hw hC1 => addr_cod cb w1 hC1) ?_
 rintro ⟨z13, hz131, hz132⟩
 dsimp only [List.cons_append, List.nil_append] at hz131 hz132 ⊢
 refine TL.mv ?_
 refine TL.pcallCod (k := 1) (α := Int) (fun y => .int .i64 y) (fun y => []) rfl rfl rfl rfl rfl Tryz.func117 (by decide) rfl rfl (fun w1 hw hC1 => proto_cod cb w1 hC1) ?_
 rintro z15
 dsimp only [List.cons_append, List.nil_append]
 refine TL.mv ?_
 refine TL.pcallCod (k := 1) (α := {x : Nat // x ≤ 65535 ∧ (1 ≤ (3 : Int) → (x : Int) < 3)}) (fun y => .int .i64 (y.1 : Int)) (fun y => []) rfl rfl rfl rfl rfl Tryz.func21 (by decide) rfl rfl (fun w1 hw hC1 => next_cod cb w1 3 hC1) ?_
 rintro ⟨x17, hx171, hx172⟩
 dsimp only [List.cons_append, List.nil_append] at hx171 hx172 ⊢
 replace hx172 := hx172 (by omega)
 refine TL.mv ?_
 refine TL.pcallCod (k := 1) (α := {x : Nat // x ≤ 65535 ∧ (1 ≤ (4 : Int) → (x : Int) < 4)}) (fun y => .int .i64 (y.1 : Int)) (fun y => []) rfl rfl rfl rfl rfl Tryz.func21 (by decide) rfl rfl (fun w1 hw hC1 => next_cod cb w1 4 hC1) ?_
 rintro ⟨x19, hx191, hx192⟩
 dsimp only [List.cons_append, List.nil_append] at hx191 hx192 ⊢
 replace hx192 := hx192 (by omega)
 refine TL.v (gD (1 + ((x19 : Nat) : Int))) ?_
 refine TL.val rfl rfl rfl (gives_build (v := .agg #[.int .i64 ((x5 : Nat) : Int), .int .i64 ((x7 : Nat) : Int), .int .i64 ((x9 : Nat) : Int), .int .i64 ((x11 : Nat) : Int), .int .u32 z13, .int .i64 z15, .int .i64 ((x17 : Nat) : Int), .int .i64 (1 + ((x19 : Nat) : Int)), .bool false, .bool false, .int .i64 0, .int .u32 0, .int .i64 0, .int .i64 0, .int .i64 0, .int .i64 0, .int .i64 0]) rfl rfl (fun w => drebld47_74773 _ _ _ _ _ _ _ _ w)) ?_
 refine TL.pnew rfl rfl rfl (exec_alloc (cs := Rs.zero.cells) rfl arpzv65 rfl) (fun g3 => ?_)
 refine TL.pstore (k := 0) (vs := [.int .i64 ((x5 : Nat) : Int), .int .i64 ((x7 : Nat) : Int), .int .i64 ((x9 : Nat) : Int), .int .i64 ((x11 : Nat) : Int), .int .u32 z13, .int .i64 z15, .int .i64 ((x17 : Nat) : Int), .int .i64 (1 + ((x19 : Nat) : Int)), .bool false, .bool false, .int .i64 0, .int .u32 0, .int .i64 0, .int .i64 0, .int .i64 0, .int .i64 0, .int .i64 0]) rfl rfl rfl rfl rfl rfl rfl prssz65 arpone_i64i64i64i64u32i64i64i64bbi64u32i64i64i64i64i64 (by show 17 ≤ 17; decide) rfl ?_
 refine zET (zS (TC.held (ls := #[Ff,Ff,Ff,Ff,Ff,Ff,Ff]) (fun w1 => ∃ b : Int, Pm ⟨w, cb⟩ ([.blk g3 65 [.int .i64 ((x5 : Nat) : Int), .int .i64 ((x7 : Nat) : Int), .int .i64 ((x9 : Nat) : Int), .int .i64 ((x11 : Nat) : Int), .int .u32 z13, .int .i64 z15, .int .i64 ((x17 : Nat) : Int), .int .i64 (1 + ((x19 : Nat) : Int)), .bool false, .bool false, .int .i64 b, .int .u32 0, .int .i64 0, .int .i64 0, .int .i64 0, .int .i64 0, .int .i64 0], .blk g2 65 Rs.zero.cells, .abs cb (fun w => Cod w cb)] ++ oths cb w) w1) (by kernel_rfl) rfl rfl (fun w hw => hw.drawn _) ?_))
 refine TH.tk 0 rfl rfl rfl (gF prsfld65_3) (fun w1 hw => ⟨_, hw⟩) ?_
 refine TH.tk 1 rfl rfl rfl (gives_load (v := .int .i64 ((x11 : Nat) : Int)) rfl rfl pcmag3 (fun w1 hw => by obtain ⟨b, hw⟩ := hw; exact (hw.cell (k := 0) rfl 3).trans rfl)) (fun w1 hw => ⟨_, hw⟩) ?_
 refine TH.tk 2 rfl rfl rfl (gives_move rfl rfl) (fun w1 hw => ⟨_, hw⟩) ?_
 refine TH.only' 3 rfl (by kernel_rfl) rfl ?_
 refine TL.pcallCod (k := 2) (α := {x : Nat // x ≤ 65535 ∧ (1 ≤ (30 : Int) → (x : Int) < 30)}) (fun y => .int .i64 (y.1 : Int)) (fun y => []) rfl rfl rfl rfl rfl Tryz.func21 (by decide) rfl rfl (fun w1 hw hC1 => next_cod cb w1 30 hC1) ?_
 rintro ⟨x25, hx251, hx252⟩
 dsimp only [List.cons_append, List.nil_append] at hx251 hx252 ⊢
 replace hx252 := hx252 (by omega)
 refine zE ?_
 refine TX.he (fun w1 hw => ⟨_, hw⟩) fun hS => ?_
 refine TH.t 4 rfl (gD (((x11 : Nat) : Int) + ((x25 : Nat) : Int))) hS ?_
 refine TH.t 5 rfl (gF prsfld65_10) hS ?_
 refine TH.only' 6 rfl (by kernel_rfl) rfl ?_
 refine TL.pstore (k := 0) (vs := [.int .i64 (((x11 : Nat) : Int) + ((x25 : Nat) : Int))]) rfl rfl rfl rfl rfl rfl rfl pcmsz3 aeaone_i64 (by show 11 ≤ 17; decide) rfl ?_
 refine zE ?_
 refine TX.held (fun w1 hw => ⟨_, hw⟩) ?_
 refine TH.done (by kernel_rfl) ?_
 refine zT ?_
 refine TC.join (α := {r : Rs // r.Ok}) (fun y => [(0, .pointer (some ⟨cb, 0, none⟩)), (2, .pointer (some ⟨g2, 0, none⟩)), (3, .pointer (some ⟨g3, 0, none⟩))]) (fun y => Pm ⟨w, cb⟩ ([.blk g3 65 y.1.cells, .blk g2 65 Rs.zero.cells, .abs cb (fun w => Cod w cb)] ++ oths cb w)) ?_ ?_
 ·refine zSG (TL.mv ?_)
  refine TL.pcallCod (k := 2) (α := {x : Nat // x ≤ 65535 ∧ (1 ≤ (3 : Int) → (x : Int) < 3)}) (fun y => .int .i64 (y.1 : Int)) (fun y => []) rfl rfl rfl rfl rfl Tryz.func21 (by decide) rfl rfl (fun w1 hw hC1 => next_cod cb w1 3 hC1) ?_
  rintro ⟨x29, hx291, hx292⟩
  dsimp only [List.cons_append, List.nil_append] at hx291 hx292 ⊢
  replace hx292 := hx292 (by omega)
  refine TL.sp bin_gtr (fun q30 => ?_) (fun q30 => ?_)
  ·refine zET (zc (zSG (TL.mv ?_)))
   refine TL.pcallCod (k := 2) (α := {x : Nat // x ≤ 65535 ∧ (1 ≤ (6 : Int) → (x : Int) < 6)}) (fun y => .int .i64 (y.1 : Int)) (fun y => []) rfl rfl rfl rfl rfl Tryz.func21 (by decide) rfl rfl (fun w1 hw hC1 => next_cod cb w1 6 hC1) ?_
   rintro ⟨x32, hx321, hx322⟩
   dsimp only [List.cons_append, List.nil_append] at hx321 hx322 ⊢
   replace hx322 := hx322 (by omega)
   refine TL.sp bin_eql (fun q33 => ?_) (fun q33 => ?_)
   ·refine TL.v (gF prsfld65_8) ?_
    refine TL.pstore (k := 0) (vs := [.bool true]) rfl rfl rfl rfl rfl rfl rfl dresz4 dreone_b (by show 9 ≤ 17; decide) rfl ?_
    refine TL.v (gF prsfld65_9) ?_
    refine TL.pstore (k := 0) (vs := [.bool true]) rfl rfl rfl rfl rfl rfl rfl dresz4 dreone_b (by show 10 ≤ 17; decide) rfl ?_
    refine zET (zG (TL.mv ?_))
    refine TL.pcallCod (k := 2) (α := {x : Int // 0 ≤ x ∧ x ≤ 4294967295}) (fun y => .int .u32 y.1) (fun y => []) rfl rfl rfl rfl rfl Tryz.func116 (by decide) rfl rfl (fun w1 hw hC1 => addr_cod cb w1 hC1) ?_
    rintro ⟨z37, hz371, hz372⟩
    dsimp only [List.cons_append, List.nil_append] at hz371 hz372 ⊢
    refine TL.mv ?_
    refine TL.pcallCod (k := 2) (α := {x : Nat // x ≤ 65535 ∧ (1 ≤ (5 : Int) → (x : Int) < 5)}) (fun y => .int .i64 (y.1 : Int)) (fun y => []) rfl rfl rfl rfl rfl Tryz.func21 (by decide) rfl rfl (fun w1 hw hC1 => next_cod cb w1 5 hC1) ?_
    rintro ⟨x39, hx391, hx392⟩
    dsimp only [List.cons_append, List.nil_append] at hx391 hx392 ⊢
    replace hx392 := hx392 (by omega)
    refine TL.v (gD (1 + ((x39 : Nat) : Int))) ?_
    refine TL.mv ?_
    refine TL.pcallCod (k := 2) (α := {x : Nat // x ≤ 65535 ∧ (1 ≤ (4 : Int) → (x : Int) < 4)}) (fun y => .int .i64 (y.1 : Int)) (fun y => []) rfl rfl rfl rfl rfl Tryz.func21 (by decide) rfl rfl (fun w1 hw hC1 => next_cod cb w1 4 hC1) ?_
    rintro ⟨x42, hx421, hx422⟩
    dsimp only [List.cons_append, List.nil_append] at hx421 hx422 ⊢
    replace hx422 := hx422 (by omega)
    refine TL.mv ?_
    refine TL.pcallCod (k := 2) (α := {x : Nat // x ≤ 65535 ∧ (1 ≤ (5 : Int) → (x : Int) < 5)}) (fun y => .int .i64 (y.1 : Int)) (fun y => []) rfl rfl rfl rfl rfl Tryz.func21 (by decide) rfl rfl (fun w1 hw hC1 => next_cod cb w1 5 hC1) ?_
    rintro ⟨x44, hx441, hx442⟩
    dsimp only [List.cons_append, List.nil_append] at hx441 hx442 ⊢
    replace hx442 := hx442 (by omega)
    refine TL.v (gD (60 + ((x44 : Nat) : Int))) ?_
    refine TL.mv ?_
    refine TL.pcallCod (k := 2) (α := {x : Nat // x ≤ 65535 ∧ (1 ≤ (300 : Int) → (x : Int) < 300)}) (fun y => .int .i64 (y.1 : Int)) (fun y => []) rfl rfl rfl rfl rfl Tryz.func21 (by decide) rfl rfl (fun w1 hw hC1 => next_cod cb w1 300 hC1) ?_
    rintro ⟨x47, hx471, hx472⟩
    dsimp only [List.cons_append, List.nil_append] at hx471 hx472 ⊢
    replace hx472 := hx472 (by omega)
    refine TL.mv ?_
    refine TL.pcallCod (k := 2) (α := {x : Nat // x ≤ 65535 ∧ (1 ≤ (2 : Int) → (x : Int) < 2)}) (fun y => .int .i64 (y.1 : Int)) (fun y => []) rfl rfl rfl rfl rfl Tryz.func21 (by decide) rfl rfl (fun w1 hw hC1 => next_cod cb w1 2 hC1) ?_
    rintro ⟨x49, hx491, hx492⟩
    dsimp only [List.cons_append, List.nil_append] at hx491 hx492 ⊢
    replace hx492 := hx492 (by omega)
    refine TL.v (gD (1 + ((x49 : Nat) : Int))) ?_
    refine TL.val rfl rfl rfl (gives_build (v := .agg #[.int .u32 z37, .int .i64 (1 + ((x39 : Nat) : Int)), .int .i64 ((x42 : Nat) : Int), .int .i64 (60 + ((x44 : Nat) : Int)), .int .i64 ((x47 : Nat) : Int), .int .i64 (1 + ((x49 : Nat) : Int))]) rfl rfl (fun w => jdrbld25_14255 _ _ _ _ _ _ w)) ?_
    refine TL.v (gF prsfld65_11) ?_
    refine TL.pstore (k := 0) (vs := [.int .u32 z37, .int .i64 (1 + ((x39 : Nat) : Int)), .int .i64 ((x42 : Nat) : Int), .int .i64 (60 + ((x44 : Nat) : Int)), .int .i64 ((x47 : Nat) : Int), .int .i64 (1 + ((x49 : Nat) : Int))]) rfl rfl rfl rfl rfl rfl rfl dresz45 dreone_u32i64i64i64i64i64 (by show 17 ≤ 17; decide) rfl ?_
    refine zE ?_
    exact TX.joined (⟨⟨((x5 : Nat) : Int), ((x7 : Nat) : Int), ((x9 : Nat) : Int), ((x11 : Nat) : Int), z13, z15, ((x17 : Nat) : Int), 1 + ((x19 : Nat) : Int), true, true, ((x11 : Nat) : Int) + ((x25 : Nat) : Int), z37, 1 + ((x39 : Nat) : Int), ((x42 : Nat) : Int), 60 + ((x44 : Nat) : Int), ((x47 : Nat) : Int), 1 + ((x49 : Nat) : Int)⟩, by unfold Rs.Ok; dsimp only; omega⟩) (⟨rfl, rfl, rfl, trivial⟩) (fun w1 hw => hw)
   refine TL.v (gF prsfld65_8) ?_
   refine TL.pstore (k := 0) (vs := [.bool true]) rfl rfl rfl rfl rfl rfl rfl dresz4 dreone_b (by show 9 ≤ 17; decide) rfl ?_
   refine TL.v (gF prsfld65_9) ?_
   refine TL.pstore (k := 0) (vs := [.bool false]) rfl rfl rfl rfl rfl rfl rfl dresz4 dreone_b (by show 10 ≤ 17; decide) rfl ?_
   refine zET (zG (TL.mv ?_))
   refine TL.pcallCod (k := 2) (α := {x : Int // 0 ≤ x ∧ x ≤ 4294967295}) (fun y => .int .u32 y.1) (fun y => []) rfl rfl rfl rfl rfl Tryz.func116 (by decide) rfl rfl (fun w1 hw hC1 => addr_cod cb w1 hC1) ?_
   rintro ⟨z37, hz371, hz372⟩
   dsimp only [List.cons_append, List.nil_append] at hz371 hz372 ⊢
   refine TL.mv ?_
   refine TL.pcallCod (k := 2) (α := {x : Nat // x ≤ 65535 ∧ (1 ≤ (5 : Int) → (x : Int) < 5)}) (fun y => .int .i64 (y.1 : Int)) (fun y => []) rfl rfl rfl rfl rfl Tryz.func21 (by decide) rfl rfl (fun w1 hw hC1 => next_cod cb w1 5 hC1) ?_
   rintro ⟨x39, hx391, hx392⟩
   dsimp only [List.cons_append, List.nil_append] at hx391 hx392 ⊢
   replace hx392 := hx392 (by omega)
   refine TL.v (gD (1 + ((x39 : Nat) : Int))) ?_
   refine TL.mv ?_
   refine TL.pcallCod (k := 2) (α := {x : Nat // x ≤ 65535 ∧ (1 ≤ (4 : Int) → (x : Int) < 4)}) (fun y => .int .i64 (y.1 : Int)) (fun y => []) rfl rfl rfl rfl rfl Tryz.func21 (by decide) rfl rfl (fun w1 hw hC1 => next_cod cb w1 4 hC1) ?_
   rintro ⟨x42, hx421, hx422⟩
   dsimp only [List.cons_append, List.nil_append] at hx421 hx422 ⊢
   replace hx422 := hx422 (by omega)
   refine TL.mv ?_
   refine TL.pcallCod (k := 2) (α := {x : Nat // x ≤ 65535 ∧ (1 ≤ (5 : Int) → (x : Int) < 5)}) (fun y => .int .i64 (y.1 : Int)) (fun y => []) rfl rfl rfl rfl rfl Tryz.func21 (by decide) rfl rfl (fun w1 hw hC1 => next_cod cb w1 5 hC1) ?_
   rintro ⟨x44, hx441, hx442⟩
   dsimp only [List.cons_append, List.nil_append] at hx441 hx442 ⊢
   replace hx442 := hx442 (by omega)
   refine TL.v (gD (60 + ((x44 : Nat) : Int))) ?_
   refine TL.mv ?_
   refine TL.pcallCod (k := 2) (α := {x : Nat // x ≤ 65535 ∧ (1 ≤ (300 : Int) → (x : Int) < 300)}) (fun y => .int .i64 (y.1 : Int)) (fun y => []) rfl rfl rfl rfl rfl Tryz.func21 (by decide) rfl rfl (fun w1 hw hC1 => next_cod cb w1 300 hC1) ?_
   rintro ⟨x47, hx471, hx472⟩
   dsimp only [List.cons_append, List.nil_append] at hx471 hx472 ⊢
   replace hx472 := hx472 (by omega)
   refine TL.mv ?_
   refine TL.pcallCod (k := 2) (α := {x : Nat // x ≤ 65535 ∧ (1 ≤ (2 : Int) → (x : Int) < 2)}) (fun y => .int .i64 (y.1 : Int)) (fun y => []) rfl rfl rfl rfl rfl Tryz.func21 (by decide) rfl rfl (fun w1 hw hC1 => next_cod cb w1 2 hC1) ?_
   rintro ⟨x49, hx491, hx492⟩
   dsimp only [List.cons_append, List.nil_append] at hx491 hx492 ⊢
   replace hx492 := hx492 (by omega)
   refine TL.v (gD (1 + ((x49 : Nat) : Int))) ?_
   refine TL.val rfl rfl rfl (gives_build (v := .agg #[.int .u32 z37, .int .i64 (1 + ((x39 : Nat) : Int)), .int .i64 ((x42 : Nat) : Int), .int .i64 (60 + ((x44 : Nat) : Int)), .int .i64 ((x47 : Nat) : Int), .int .i64 (1 + ((x49 : Nat) : Int))]) rfl rfl (fun w => jdrbld25_14255 _ _ _ _ _ _ w)) ?_
   refine TL.v (gF prsfld65_11) ?_
   refine TL.pstore (k := 0) (vs := [.int .u32 z37, .int .i64 (1 + ((x39 : Nat) : Int)), .int .i64 ((x42 : Nat) : Int), .int .i64 (60 + ((x44 : Nat) : Int)), .int .i64 ((x47 : Nat) : Int), .int .i64 (1 + ((x49 : Nat) : Int))]) rfl rfl rfl rfl rfl rfl rfl dresz45 dreone_u32i64i64i64i64i64 (by show 17 ≤ 17; decide) rfl ?_
   refine zE ?_
   exact TX.joined (⟨⟨((x5 : Nat) : Int), ((x7 : Nat) : Int), ((x9 : Nat) : Int), ((x11 : Nat) : Int), z13, z15, ((x17 : Nat) : Int), 1 + ((x19 : Nat) : Int), true, false, ((x11 : Nat) : Int) + ((x25 : Nat) : Int), z37, 1 + ((x39 : Nat) : Int), ((x42 : Nat) : Int), 60 + ((x44 : Nat) : Int), ((x47 : Nat) : Int), 1 + ((x49 : Nat) : Int)⟩, by unfold Rs.Ok; dsimp only; omega⟩) (⟨rfl, rfl, rfl, trivial⟩) (fun w1 hw => hw)
  refine zET (zd (zk ?_))
  exact TX.joined (⟨⟨((x5 : Nat) : Int), ((x7 : Nat) : Int), ((x9 : Nat) : Int), ((x11 : Nat) : Int), z13, z15, ((x17 : Nat) : Int), 1 + ((x19 : Nat) : Int), false, false, ((x11 : Nat) : Int) + ((x25 : Nat) : Int), 0, 0, 0, 0, 0, 0⟩, by unfold Rs.Ok; dsimp only; omega⟩) (⟨rfl, rfl, rfl, trivial⟩) (fun w1 hw => hw)
 rintro ⟨r, hr⟩
 unfold Rs.Ok at hr
 dsimp only at hr ⊢
 refine zS (zSG (TL.mv ?_))
 refine TL.pcallCod (k := 2) (α := {x : Nat // x ≤ 65535 ∧ (1 ≤ (16 : Int) → (x : Int) < 16)}) (fun y => .int .i64 (y.1 : Int)) (fun y => []) rfl rfl rfl rfl rfl Tryz.func21 (by decide) rfl rfl (fun w1 hw hC1 => next_cod cb w1 16 hC1) ?_
 rintro ⟨x54, hx541, hx542⟩
 dsimp only [List.cons_append, List.nil_append] at hx541 hx542 ⊢
 replace hx542 := hx542 (by omega)
 refine zET (zB (zSG ?_))
 refine TL.sp bin_eql (fun q56 => ?_) (fun q56 => ?_)
 ·refine TL.as_ ?_
  refine zET (zc (zG (TL.mv ?_)))
  refine TL.pcallCod (k := 2) (α := Int) (fun y => .int .i64 y) (fun y => []) rfl rfl rfl rfl rfl Tryz.func118 (by decide) rfl rfl (fun w1 hw hC1 => int_cod cb w1 hC1) ?_
  rintro z58
  dsimp only [List.cons_append, List.nil_append]
  refine TL.mv ?_
  refine TL.pcallCod (k := 2) (α := Int) (fun y => .int .i64 y) (fun y => []) rfl rfl rfl rfl rfl Tryz.func118 (by decide) rfl rfl (fun w1 hw hC1 => int_cod cb w1 hC1) ?_
  rintro z60
  dsimp only [List.cons_append, List.nil_append]
  refine TL.v (gF prsfld65_3) ?_
  refine TL.pstore (k := 0) (vs := [.int .i64 z58]) rfl rfl rfl rfl rfl rfl rfl pcmsz3 aeaone_i64 (by show 4 ≤ 17; decide) rfl ?_
  refine TL.v (gF prsfld65_10) ?_
  refine TL.pstore (k := 0) (vs := [.int .i64 z60]) rfl rfl rfl rfl rfl rfl rfl pcmsz3 aeaone_i64 (by show 11 ≤ 17; decide) rfl ?_
  refine zE (zN (zT (zSG (TL.v (gV 0 (.agg #[.int .i64 r.v, .int .i64 r.run, .int .i64 r.num, .int .i64 z58, .int .u32 r.dst, .int .i64 r.proto, .int .i64 r.flow, .int .i64 r.ttl, .bool r.ans, .bool r.dbl, .int .i64 z60, .int .u32 r.src, .int .i64 r.kind, .int .i64 r.code, .int .i64 r.left, .int .i64 r.id, .int .i64 r.quo]) prsag65 prssz65) ?_))))
  refine TL.pstore (k := 1) (vs := [.int .i64 r.v, .int .i64 r.run, .int .i64 r.num, .int .i64 z58, .int .u32 r.dst, .int .i64 r.proto, .int .i64 r.flow, .int .i64 r.ttl, .bool r.ans, .bool r.dbl, .int .i64 z60, .int .u32 r.src, .int .i64 r.kind, .int .i64 r.code, .int .i64 r.left, .int .i64 r.id, .int .i64 r.quo]) rfl rfl rfl rfl rfl rfl rfl prssz65 arpone_i64i64i64i64u32i64i64i64bbi64u32i64i64i64i64i64 (by show 17 ≤ 17; decide) rfl ?_
  refine zET (zr ?_)
  exact pm_ret_cell (k := 1) Tryz.results66 rfl rfl Tryz.underlying65 rfl rfl (fun w1 hw => ⟨⟨⟨r.v, r.run, r.num, z58, r.dst, r.proto, r.flow, r.ttl, r.ans, r.dbl, z60, r.src, r.kind, r.code, r.left, r.id, r.quo⟩, by unfold Rs.Ok; dsimp only; omega⟩, rfl, Pm.codr [] (hw.sel (.cons _ (.cons _ (.cons_cons _ (List.Sublist.refl _))))) rfl⟩)
 refine TL.as_ ?_
 refine zET (zd (zSG ?_))
 refine TL.sp bin_eql (fun q64 => ?_) (fun q64 => ?_)
 ·refine TL.as_ ?_
  refine zET (zc (zG (TL.mv ?_)))
  refine TL.pcallCod (k := 2) (α := Int) (fun y => .int .i64 y) (fun y => []) rfl rfl rfl rfl rfl Tryz.func118 (by decide) rfl rfl (fun w1 hw hC1 => int_cod cb w1 hC1) ?_
  rintro z66
  dsimp only [List.cons_append, List.nil_append]
  refine TL.mv ?_
  refine TL.pcallCod (k := 2) (α := Int) (fun y => .int .i64 y) (fun y => []) rfl rfl rfl rfl rfl Tryz.func118 (by decide) rfl rfl (fun w1 hw hC1 => int_cod cb w1 hC1) ?_
  rintro z68
  dsimp only [List.cons_append, List.nil_append]
  refine TL.mv ?_
  refine TL.pcallCod (k := 2) (α := Int) (fun y => .int .i64 y) (fun y => []) rfl rfl rfl rfl rfl Tryz.func118 (by decide) rfl rfl (fun w1 hw hC1 => int_cod cb w1 hC1) ?_
  rintro z70
  dsimp only [List.cons_append, List.nil_append]
  refine TL.v (gF prsfld65_6) ?_
  refine TL.pstore (k := 0) (vs := [.int .i64 z66]) rfl rfl rfl rfl rfl rfl rfl pcmsz3 aeaone_i64 (by show 7 ≤ 17; decide) rfl ?_
  refine TL.v (gF prsfld65_7) ?_
  refine TL.pstore (k := 0) (vs := [.int .i64 z68]) rfl rfl rfl rfl rfl rfl rfl pcmsz3 aeaone_i64 (by show 8 ≤ 17; decide) rfl ?_
  refine TL.v (gF prsfld65_5) ?_
  refine TL.pstore (k := 0) (vs := [.int .i64 z70]) rfl rfl rfl rfl rfl rfl rfl pcmsz3 aeaone_i64 (by show 6 ≤ 17; decide) rfl ?_
  refine zE (zN (zT (zSG (TL.v (gV 0 (.agg #[.int .i64 r.v, .int .i64 r.run, .int .i64 r.num, .int .i64 r.at_, .int .u32 r.dst, .int .i64 z70, .int .i64 z66, .int .i64 z68, .bool r.ans, .bool r.dbl, .int .i64 r.back, .int .u32 r.src, .int .i64 r.kind, .int .i64 r.code, .int .i64 r.left, .int .i64 r.id, .int .i64 r.quo]) prsag65 prssz65) ?_))))
  refine TL.pstore (k := 1) (vs := [.int .i64 r.v, .int .i64 r.run, .int .i64 r.num, .int .i64 r.at_, .int .u32 r.dst, .int .i64 z70, .int .i64 z66, .int .i64 z68, .bool r.ans, .bool r.dbl, .int .i64 r.back, .int .u32 r.src, .int .i64 r.kind, .int .i64 r.code, .int .i64 r.left, .int .i64 r.id, .int .i64 r.quo]) rfl rfl rfl rfl rfl rfl rfl prssz65 arpone_i64i64i64i64u32i64i64i64bbi64u32i64i64i64i64i64 (by show 17 ≤ 17; decide) rfl ?_
  refine zET (zr ?_)
  exact pm_ret_cell (k := 1) Tryz.results66 rfl rfl Tryz.underlying65 rfl rfl (fun w1 hw => ⟨⟨⟨r.v, r.run, r.num, r.at_, r.dst, z70, z66, z68, r.ans, r.dbl, r.back, r.src, r.kind, r.code, r.left, r.id, r.quo⟩, by unfold Rs.Ok; dsimp only; omega⟩, rfl, Pm.codr [] (hw.sel (.cons _ (.cons _ (.cons_cons _ (List.Sublist.refl _))))) rfl⟩)
 refine TL.as_ ?_
 refine zET (zd (zSG ?_))
 refine TL.sp bin_eql (fun q75 => ?_) (fun q75 => ?_)
 ·refine TL.as_ ?_
  refine zET (zc (zG (TL.mv ?_)))
  refine TL.pcallCod (k := 2) (α := Int) (fun y => .int .i64 y) (fun y => []) rfl rfl rfl rfl rfl Tryz.func118 (by decide) rfl rfl (fun w1 hw hC1 => int_cod cb w1 hC1) ?_
  rintro z77
  dsimp only [List.cons_append, List.nil_append]
  refine TL.mv ?_
  refine TL.pcallCod (k := 2) (α := Int) (fun y => .int .i64 y) (fun y => []) rfl rfl rfl rfl rfl Tryz.func118 (by decide) rfl rfl (fun w1 hw hC1 => int_cod cb w1 hC1) ?_
  rintro z79
  dsimp only [List.cons_append, List.nil_append]
  refine TL.v (gF prsfld65_11) ?_
  refine TL.v (gF prsfld63_1) ?_
  refine TL.pstore (k := 0) (vs := [.int .i64 z77]) rfl rfl rfl rfl rfl rfl rfl pcmsz3 aeaone_i64 (by show 13 ≤ 17; decide) rfl ?_
  refine TL.v (gF prsfld65_11) ?_
  refine TL.v (gF prsfld63_4) ?_
  refine TL.pstore (k := 0) (vs := [.int .i64 z79]) rfl rfl rfl rfl rfl rfl rfl pcmsz3 aeaone_i64 (by show 16 ≤ 17; decide) rfl ?_
  refine zE (zN (zT (zSG (TL.v (gV 0 (.agg #[.int .i64 r.v, .int .i64 r.run, .int .i64 r.num, .int .i64 r.at_, .int .u32 r.dst, .int .i64 r.proto, .int .i64 r.flow, .int .i64 r.ttl, .bool r.ans, .bool r.dbl, .int .i64 r.back, .int .u32 r.src, .int .i64 z77, .int .i64 r.code, .int .i64 r.left, .int .i64 z79, .int .i64 r.quo]) prsag65 prssz65) ?_))))
  refine TL.pstore (k := 1) (vs := [.int .i64 r.v, .int .i64 r.run, .int .i64 r.num, .int .i64 r.at_, .int .u32 r.dst, .int .i64 r.proto, .int .i64 r.flow, .int .i64 r.ttl, .bool r.ans, .bool r.dbl, .int .i64 r.back, .int .u32 r.src, .int .i64 z77, .int .i64 r.code, .int .i64 r.left, .int .i64 z79, .int .i64 r.quo]) rfl rfl rfl rfl rfl rfl rfl prssz65 arpone_i64i64i64i64u32i64i64i64bbi64u32i64i64i64i64i64 (by show 17 ≤ 17; decide) rfl ?_
  refine zET (zr ?_)
  exact pm_ret_cell (k := 1) Tryz.results66 rfl rfl Tryz.underlying65 rfl rfl (fun w1 hw => ⟨⟨⟨r.v, r.run, r.num, r.at_, r.dst, r.proto, r.flow, r.ttl, r.ans, r.dbl, r.back, r.src, z77, r.code, r.left, z79, r.quo⟩, by unfold Rs.Ok; dsimp only; omega⟩, rfl, Pm.codr [] (hw.sel (.cons _ (.cons _ (.cons_cons _ (List.Sublist.refl _))))) rfl⟩)
 refine TL.as_ ?_
 refine zET (zd (zSG ?_))
 refine TL.sp bin_eql (fun q85 => ?_) (fun q85 => ?_)
 ·refine TL.as_ ?_
  refine zET (zc (zG (TL.mv ?_)))
  refine TL.pcallCod (k := 2) (α := Int) (fun y => .int .i64 y) (fun y => []) rfl rfl rfl rfl rfl Tryz.func118 (by decide) rfl rfl (fun w1 hw hC1 => int_cod cb w1 hC1) ?_
  rintro z87
  dsimp only [List.cons_append, List.nil_append]
  refine TL.mv ?_
  refine TL.pcallCod (k := 2) (α := Int) (fun y => .int .i64 y) (fun y => []) rfl rfl rfl rfl rfl Tryz.func118 (by decide) rfl rfl (fun w1 hw hC1 => int_cod cb w1 hC1) ?_
  rintro z89
  dsimp only [List.cons_append, List.nil_append]
  refine TL.mv ?_
  refine TL.pcallCod (k := 2) (α := Int) (fun y => .int .i64 y) (fun y => []) rfl rfl rfl rfl rfl Tryz.func118 (by decide) rfl rfl (fun w1 hw hC1 => int_cod cb w1 hC1) ?_
  rintro z91
  dsimp only [List.cons_append, List.nil_append]
  refine TL.v (gF prsfld65_0) ?_
  refine TL.pstore (k := 0) (vs := [.int .i64 z87]) rfl rfl rfl rfl rfl rfl rfl pcmsz3 aeaone_i64 (by show 1 ≤ 17; decide) rfl ?_
  refine TL.v (gF prsfld65_1) ?_
  refine TL.pstore (k := 0) (vs := [.int .i64 z89]) rfl rfl rfl rfl rfl rfl rfl pcmsz3 aeaone_i64 (by show 2 ≤ 17; decide) rfl ?_
  refine TL.v (gF prsfld65_2) ?_
  refine TL.pstore (k := 0) (vs := [.int .i64 z91]) rfl rfl rfl rfl rfl rfl rfl pcmsz3 aeaone_i64 (by show 3 ≤ 17; decide) rfl ?_
  refine zE (zN (zT (zSG (TL.v (gV 0 (.agg #[.int .i64 z87, .int .i64 z89, .int .i64 z91, .int .i64 r.at_, .int .u32 r.dst, .int .i64 r.proto, .int .i64 r.flow, .int .i64 r.ttl, .bool r.ans, .bool r.dbl, .int .i64 r.back, .int .u32 r.src, .int .i64 r.kind, .int .i64 r.code, .int .i64 r.left, .int .i64 r.id, .int .i64 r.quo]) prsag65 prssz65) ?_))))
  refine TL.pstore (k := 1) (vs := [.int .i64 z87, .int .i64 z89, .int .i64 z91, .int .i64 r.at_, .int .u32 r.dst, .int .i64 r.proto, .int .i64 r.flow, .int .i64 r.ttl, .bool r.ans, .bool r.dbl, .int .i64 r.back, .int .u32 r.src, .int .i64 r.kind, .int .i64 r.code, .int .i64 r.left, .int .i64 r.id, .int .i64 r.quo]) rfl rfl rfl rfl rfl rfl rfl prssz65 arpone_i64i64i64i64u32i64i64i64bbi64u32i64i64i64i64i64 (by show 17 ≤ 17; decide) rfl ?_
  refine zET (zr ?_)
  exact pm_ret_cell (k := 1) Tryz.results66 rfl rfl Tryz.underlying65 rfl rfl (fun w1 hw => ⟨⟨⟨z87, z89, z91, r.at_, r.dst, r.proto, r.flow, r.ttl, r.ans, r.dbl, r.back, r.src, r.kind, r.code, r.left, r.id, r.quo⟩, by unfold Rs.Ok; dsimp only; omega⟩, rfl, Pm.codr [] (hw.sel (.cons _ (.cons _ (.cons_cons _ (List.Sublist.refl _))))) rfl⟩)
 refine TL.as_ ?_
 refine zET (zd (zk (zN (zT (zSG (TL.v (gV 0 (.agg (r.cells).toArray) prsag65 prssz65) ?_))))))
 refine TL.pstore (k := 1) (vs := r.cells) rfl rfl rfl rfl rfl rfl rfl prssz65 arpone_i64i64i64i64u32i64i64i64bbi64u32i64i64i64i64i64 (by show 17 ≤ 17; decide) (L' := ([.blk g3 65 r.cells, .blk g2 65 r.cells, .abs cb (fun w => Cod w cb)] ++ oths cb w)) rfl ?_
 refine zET (zr ?_)
 exact pm_ret_cell (k := 1) Tryz.results66 rfl rfl Tryz.underlying65 rfl rfl (fun w1 hw => ⟨⟨⟨r.v, r.run, r.num, r.at_, r.dst, r.proto, r.flow, r.ttl, r.ans, r.dbl, r.back, r.src, r.kind, r.code, r.left, r.id, r.quo⟩, by unfold Rs.Ok; dsimp only; omega⟩, rfl, Pm.codr [] (hw.sel (.cons _ (.cons _ (.cons_cons _ (List.Sublist.refl _))))) rfl⟩)
def adB (A : Option Addr) : Nat := match A with
  | some a => a.block
  | none => 0
def adO (A : Option Addr) : Nat := match A with
  | some a => a.off
  | none => 0
section
variable {α : Type} {c : α → List Value} {k : Nat}
theorem Reads.addr {w : World} {B size n : Nat} {A : Option Addr} {xs : List Value} (h : Reads w B size A n xs) (hn : 0 < n) (hs : 0 < size) : A = some ⟨adB A, adO A, none⟩ := by
  obtain ⟨b, o, hA, _, _⟩ := h.ad hn hs
  rw [hA]; rfl
theorem reads_cell (K : Cel c k) {w : World} {B n g o i : Nat} {A : Option Addr} {l : List α} {x : α} (h : Reads w B k A n (flat c l)) (hA : A = some ⟨g, o, none⟩) (hx : l[i]? = some x) (j : Nat) (u : Value) (hu : (c x)[j]? = some u) : w.cell? ⟨g, o + i * k + j, none⟩ = some u := by
  have hk : 0 < k := by
    have := (List.getElem?_eq_some_iff.1 hu).1
    rw [K.len] at this; omega
  have hn : 0 < n := by
    have h1 := h.1
    have h2 := (List.getElem?_eq_some_iff.1 hx).1
    rw [flat_len K] at h1
    rcases Nat.eq_zero_or_pos n with h3 | h3
    · subst h3
      rw [Nat.zero_mul] at h1
      have := Nat.mul_pos (show 0 < l.length by omega) hk
      omega
    · exact h3
  obtain ⟨b, o', hA', _, hc⟩ := h.ad hn hk
  rw [hA] at hA'
  cases hA'
  exact flat_cell K hx hc j u hu
end
set_option maxRecDepth 20000
theorem drpbld34_74152 (a0_0 : Int) (a1_0 : Int) (a1_1 : Int) (a1_2 : Int) (a2_0 : Int) (a3_0 : Int) (a4_0 : Int) (a5_0 : Int) (w : World) : (Instr.build 34 #[(0, .int .i64 a0_0), (1, .agg #[.int .i64 a1_0, .int .u32 a1_1, .int .i64 a1_2]), (2, .int .i64 a2_0), (3, .int .i64 a3_0), (4, .int .i64 a4_0), (5, .int .i64 a5_0)]).run Tryz.prog w = .ok (.agg #[.int .i64 a0_0, .int .i64 a1_0, .int .u32 a1_1, .int .i64 a1_2, .int .i64 a2_0, .int .i64 a3_0, .int .i64 a4_0, .int .i64 a5_0]) w := by kernel_rfl
theorem drpbs106_5_22075 (a0_0 : Int) (a1_0 : Int) (a2_0 : Int) (a3_0 : Int) (a4_0 : Int) (w : World) : (Instr.buildSlice 106 5 #[(0, .int .i64 a0_0), (1, .int .i64 a1_0), (2, .int .i64 a2_0), (3, .int .i64 a3_0), (4, .int .i64 a4_0)]).run Tryz.prog w = .ok (.slice (some ⟨w.heap.size, 0, none⟩) 5 5) (w.alloc (.cells [.int .i64 a0_0, .int .i64 a1_0, .int .i64 a2_0, .int .i64 a3_0, .int .i64 a4_0].toArray 3)) := by kernel_rfl
theorem rep_fr (w0 : Base) (F : List Pc) (cb : Nat) (A0 : Option Addr) (c0 : Nat) (l : List Rs) (hR : ∀ w1, Pm w0 ([.abs cb (fun w => Cod w cb)] ++ F) w1 → Reads w1 w1.heap.size 17 A0 l.length (flat Rs.cells l)) (hl : l.length ≤ 10000) (hok : ∀ r ∈ l, r.Ok) (w : World) (hw0 : Pm w0 ([.abs cb (fun w => Cod w cb)] ++ F) w) :
  Calls Tryz.prog 26 #[.pointer (some ⟨cb, 0, none⟩), .slice A0 l.length c0] w fun e w' => ∃ x : {y : Rp // y.Ok}, e = .returned (.agg x.1.cells.toArray) ∧ Pm w0 ([.abs cb (fun w => Cod w cb)] ++ F) w' := by
 have hA0 : 0 < l.length → A0 = some ⟨adB A0, adO A0, none⟩ := fun h => (hR w hw0).addr h (by decide)
 refine begin_ (vs := [.pointer (some ⟨cb, 0, none⟩), .slice A0 l.length c0]) (I := Pm w0 ([.abs cb (fun w => Cod w cb)] ++ F)) Tryz.func26 rfl rfl rfl ?_ hw0
 refine zSG ?_
 refine TL.pnew rfl rfl rfl (exec_alloc (cs := [.int .i64 0, .int .i64 0, .int .u32 0, .int .i64 0, .int .i64 0, .int .i64 0, .int .i64 0, .int .i64 0]) rfl asezv34 rfl) (fun g4 => ?_)
 refine zET (zSG (TL.mv ?_))
 refine TL.pcallCod (k := 1) (α := {q9 : Nat // q9 ≤ 65535 ∧ (1 ≤ (3 : Int) → (q9 : Int) < 3)}) (fun q9 => .int .i64 ((q9.1 : Nat) : Int)) (fun q9 => []) rfl rfl rfl rfl rfl Tryz.func21 (by decide) rfl rfl (fun w1 hw hC1 => next_cod cb w1 3 hC1) ?_
 rintro ⟨k0, hk01, hk02⟩
 dsimp only [List.cons_append, List.nil_append]
 refine TL.v (gD ((1 + k0 : Nat) : Int)) ?_
 refine TL.mv ?_
 refine TL.pcallCod (k := 1) (α := {t : Trc // TrOk t}) (fun x => .agg (x.1.cells).toArray) (fun x => []) rfl rfl rfl rfl rfl Tryz.func68 (by decide) rfl rfl (fun w1 hw hC1 => dtrace_cod cb w1 hC1) ?_
 rintro ⟨tr, htr⟩
 dsimp only [List.cons_append, List.nil_append]
 refine TL.mv ?_
 refine TL.pcallCod (k := 1) (α := {q9 : Nat // q9 ≤ 65535 ∧ (1 ≤ (3 : Int) → (q9 : Int) < 3)}) (fun q9 => .int .i64 ((q9.1 : Nat) : Int)) (fun q9 => []) rfl rfl rfl rfl rfl Tryz.func21 (by decide) rfl rfl (fun w1 hw hC1 => next_cod cb w1 3 hC1) ?_
 rintro ⟨fl, hfl1, hfl2⟩
 dsimp only [List.cons_append, List.nil_append]
 refine TL.mv ?_
 refine TL.pcallCod (k := 1) (α := {q9 : Nat // q9 ≤ 65535 ∧ (1 ≤ (3 : Int) → (q9 : Int) < 3)}) (fun q9 => .int .i64 ((q9.1 : Nat) : Int)) (fun q9 => []) rfl rfl rfl rfl rfl Tryz.func21 (by decide) rfl rfl (fun w1 hw hC1 => next_cod cb w1 3 hC1) ?_
 rintro ⟨tt, htt1, htt2⟩
 dsimp only [List.cons_append, List.nil_append]
 refine TL.v (gD ((1 + tt : Nat) : Int)) ?_
 refine TL.mv ?_
 refine TL.pcallCod (k := 1) (α := {q9 : Nat // q9 ≤ 65535 ∧ (1 ≤ (400 : Int) → (q9 : Int) < 400)}) (fun q9 => .int .i64 ((q9.1 : Nat) : Int)) (fun q9 => []) rfl rfl rfl rfl rfl Tryz.func21 (by decide) rfl rfl (fun w1 hw hC1 => next_cod cb w1 400 hC1) ?_
 rintro ⟨at0, hat01, hat02⟩
 dsimp only [List.cons_append, List.nil_append]
 refine TL.mv ?_
 refine TL.pcallCod (k := 1) (α := {q9 : Nat // q9 ≤ 65535 ∧ (1 ≤ (4 : Int) → (q9 : Int) < 4)}) (fun q9 => .int .i64 ((q9.1 : Nat) : Int)) (fun q9 => []) rfl rfl rfl rfl rfl Tryz.func21 (by decide) rfl rfl (fun w1 hw hC1 => next_cod cb w1 4 hC1) ?_
 rintro ⟨pv, hpv1, hpv2⟩
 dsimp only [List.cons_append, List.nil_append]
 refine TL.v (gD ((1 + pv : Nat) : Int)) ?_
 refine TL.val rfl rfl rfl (gives_build (v := .agg #[.int .i64 ((1 + k0 : Nat) : Int), .int .i64 tr.v, .int .u32 tr.dst, .int .i64 tr.proto, .int .i64 ((fl : Nat) : Int), .int .i64 ((1 + tt : Nat) : Int), .int .i64 ((at0 : Nat) : Int), .int .i64 ((1 + pv : Nat) : Int)]) rfl rfl (fun w => drpbld34_74152 _ _ _ _ _ _ _ _ w)) ?_
 refine TL.pnew rfl rfl rfl (exec_alloc (cs := [.int .i64 0, .int .i64 0, .int .u32 0, .int .i64 0, .int .i64 0, .int .i64 0, .int .i64 0, .int .i64 0]) rfl asezv34 rfl) (fun g5 => ?_)
 refine TL.pstore (k := 0) (vs := [.int .i64 ((1 + k0 : Nat) : Int), .int .i64 tr.v, .int .u32 tr.dst, .int .i64 tr.proto, .int .i64 ((fl : Nat) : Int), .int .i64 ((1 + tt : Nat) : Int), .int .i64 ((at0 : Nat) : Int), .int .i64 ((1 + pv : Nat) : Int)]) rfl rfl rfl rfl rfl rfl rfl abrsz34 aseone_i64i64u32i64i64i64i64i64 (by show 8 ≤ 8; decide) rfl ?_
 refine zET (zS (zS ?_))
 have htr0 := htr
 unfold TrOk at htr0
 refine zG (TL.mv ?_)
 refine TL.v (gN Tryz.underlying23) ?_
 refine TL.sp bin_gtr (fun q25 => ?_) (fun q25 => ?_)
 ·refine zET (zc (zSG (TL.rn 3 rfl (TL.v (gN Tryz.underlying23) ?_))))
  refine TL.pcallCod (k := 2) (α := {q9 : Nat // q9 ≤ 65535 ∧ (1 ≤ ((l.length : Nat) : Int) → (q9 : Int) < (l.length : Nat))}) (fun q9 => .int .i64 ((q9.1 : Nat) : Int)) (fun q9 => []) rfl rfl rfl rfl rfl Tryz.func21 (by decide) rfl rfl (fun w1 hw hC1 => next_cod cb w1 (l.length : Nat) hC1) ?_
  rintro ⟨i, hi1, hi2⟩
  dsimp only [List.cons_append, List.nil_append]
  have hi31 : i < l.length := by omega
  obtain ⟨x31, hx31⟩ := ex_at hi31
  have hA31 := hA0 (by omega)
  have hokx31 := hok x31 (List.mem_of_getElem? hx31)
  unfold Rs.Ok at hokx31
  refine TL.val rfl rfl rfl (gA (i := i) Tryz.underlying23 prssz65 rfl rfl rfl rfl hA31 (by omega)) ?_
  refine TL.val rfl rfl rfl (gives_loadR (off := (adO A0) + i * 17) rfl rfl prsag65 prssz65 (rs_cel.len x31) (fun w1 hw j9 u9 h9 => reads_cell rs_cel (hR w1 (hw.sel (.cons _ (.cons _ (.cons_cons _ (List.Sublist.refl _)))))) hA31 hx31 j9 u9 h9)) ?_
  refine TL.pnew rfl rfl rfl (exec_alloc (cs := [.int .i64 0, .int .i64 0, .int .i64 0, .int .i64 0, .int .u32 0, .int .i64 0, .int .i64 0, .int .i64 0, .bool false, .bool false, .int .i64 0, .int .u32 0, .int .i64 0, .int .i64 0, .int .i64 0, .int .i64 0, .int .i64 0]) rfl arpzv65 rfl) (fun g6 => ?_)
  refine TL.pstore (k := 0) (vs := x31.cells) rfl rfl rfl rfl rfl rfl rfl prssz65 (rs_cel.one _) (by show 17 ≤ 17; decide) (L' := ([.blk g6 65 x31.cells, .blk g5 34 [.int .i64 ((1 + k0 : Nat) : Int), .int .i64 tr.v, .int .u32 tr.dst, .int .i64 tr.proto, .int .i64 ((fl : Nat) : Int), .int .i64 ((1 + tt : Nat) : Int), .int .i64 ((at0 : Nat) : Int), .int .i64 ((1 + pv : Nat) : Int)], .blk g4 34 [.int .i64 0, .int .i64 0, .int .u32 0, .int .i64 0, .int .i64 0, .int .i64 0, .int .i64 0, .int .i64 0], .abs cb (fun w => Cod w cb)] ++ F)) rfl ?_
  refine zET (TC.held (ls := #[Ff,Ff,Ff,Ff,Ff,Ff,Ff,Ff,Ff,Ff,Ff,Ff,Ff,Ff,Ff,Ff,Ff,Ff,Ff,Ff,Ff,Ff,Ff,Ff,Ff]) (Pm w0 ([.blk g6 65 x31.cells, .abs cb (fun w => Cod w cb)] ++ F)) (by kernel_rfl) rfl rfl (fun w hw => hw.drawn _) ?_)
  refine TH.tk 0 rfl rfl rfl (gV 0 (.agg (x31.cells).toArray) prsag65 prssz65) (fun w1 hw => hw.sel (.cons_cons _ (.cons _ (.cons _ (.cons_cons _ (List.Sublist.refl _)))))) ?_
  refine TH.tk 2 rfl rfl rfl (gF prsfld65_6) (fun w1 hw => hw.sel (.cons_cons _ (.cons _ (.cons _ (.cons_cons _ (List.Sublist.refl _)))))) ?_
  refine TH.tk 3 rfl rfl rfl (gL 0 pcmag3) (fun w1 hw => hw.sel (.cons_cons _ (.cons _ (.cons _ (.cons_cons _ (List.Sublist.refl _)))))) ?_
  refine TH.tk 4 rfl rfl rfl (gF prsfld65_7) (fun w1 hw => hw.sel (.cons_cons _ (.cons _ (.cons _ (.cons_cons _ (List.Sublist.refl _)))))) ?_
  refine TH.tk 5 rfl rfl rfl (gL 0 pcmag3) (fun w1 hw => hw.sel (.cons_cons _ (.cons _ (.cons _ (.cons_cons _ (List.Sublist.refl _)))))) ?_
  refine TH.tk 6 rfl rfl rfl (gives_move rfl rfl) (fun w1 hw => hw.sel (.cons_cons _ (.cons _ (.cons _ (.cons_cons _ (List.Sublist.refl _)))))) ?_
  refine TH.tk 7 rfl rfl rfl (gives_move rfl rfl) (fun w1 hw => hw.sel (.cons_cons _ (.cons _ (.cons _ (.cons_cons _ (List.Sublist.refl _)))))) ?_
  refine TH.tk 8 rfl rfl rfl (gives_move rfl rfl) (fun w1 hw => hw.sel (.cons_cons _ (.cons _ (.cons _ (.cons_cons _ (List.Sublist.refl _)))))) ?_
  refine TH.tk 9 rfl rfl rfl (gN Tryz.underlying23) (fun w1 hw => hw.sel (.cons_cons _ (.cons _ (.cons _ (.cons_cons _ (List.Sublist.refl _)))))) ?_
  refine TH.tk 14 rfl rfl rfl (gives_move rfl rfl) (fun w1 hw => hw.sel (.cons_cons _ (.cons _ (.cons _ (.cons_cons _ (List.Sublist.refl _)))))) ?_
  refine TH.only' 1 rfl (by kernel_rfl) rfl ?_
  refine TL.pcall1 (r := .agg ((trcR x31).cells).toArray) rfl rfl rfl rfl rfl Tryz.func69 (by decide) rfl (fun w1 hw => rtrc_any x31 w1) ?_
  refine zE ?_
  refine TX.he (fun w1 hw => hw.sel (.cons_cons _ (.cons _ (.cons _ (.cons_cons _ (List.Sublist.refl _)))))) fun hS => ?_
  refine TH.t 17 rfl (gF arpfld34_1) hS ?_
  refine TH.only' 10 rfl (by kernel_rfl) rfl ?_
  refine TL.pcallCod (k := 3) (α := {q9 : Nat // q9 ≤ 65535 ∧ (1 ≤ ((l.length : Nat) : Int) → (q9 : Int) < (l.length : Nat))}) (fun q9 => .int .i64 ((q9.1 : Nat) : Int)) (fun q9 => []) rfl rfl rfl rfl rfl Tryz.func21 (by decide) rfl rfl (fun w1 hw hC1 => next_cod cb w1 (l.length : Nat) hC1) ?_
  rintro ⟨k, hk1, hk2⟩
  dsimp only [List.cons_append, List.nil_append]
  refine zE ?_
  refine TX.held (fun w1 hw => hw.sel (.cons_cons _ (.cons _ (.cons _ (.cons_cons _ (List.Sublist.refl _)))))) ?_
  have hi44 : k < l.length := by omega
  obtain ⟨x44, hx44⟩ := ex_at hi44
  have hA44 := hA0 (by omega)
  have hokx44 := hok x44 (List.mem_of_getElem? hx44)
  unfold Rs.Ok at hokx44
  refine TH.tk 11 rfl rfl rfl (gA (i := k) Tryz.underlying23 prssz65 rfl rfl rfl rfl hA44 (by omega)) (fun w1 hw => hw.sel (.cons_cons _ (.cons _ (.cons _ (.cons_cons _ (List.Sublist.refl _)))))) ?_
  refine TH.tk 12 rfl rfl rfl (gF prsfld65_3) (fun w1 hw => hw.sel (.cons_cons _ (.cons _ (.cons _ (.cons_cons _ (List.Sublist.refl _)))))) ?_
  refine TH.tk 13 rfl rfl rfl (gives_load (v := .int .i64 x44.at_) rfl rfl pcmag3 (fun w1 hw => reads_cell rs_cel (hR w1 (hw.sel (.cons _ (.cons_cons _ (List.Sublist.refl _))))) hA44 hx44 3 _ rfl)) (fun w1 hw => hw.sel (.cons_cons _ (.cons _ (.cons _ (.cons_cons _ (List.Sublist.refl _)))))) ?_
  refine TH.only' 15 rfl (by kernel_rfl) rfl ?_
  refine TL.pcallCod (k := 3) (α := {q9 : Nat // q9 ≤ 65535 ∧ (1 ≤ (2 : Int) → (q9 : Int) < 2)}) (fun q9 => .int .i64 ((q9.1 : Nat) : Int)) (fun q9 => []) rfl rfl rfl rfl rfl Tryz.func21 (by decide) rfl rfl (fun w1 hw hC1 => next_cod cb w1 2 hC1) ?_
  rintro ⟨b, hb1, hb2⟩
  dsimp only [List.cons_append, List.nil_append]
  refine zE ?_
  refine TX.he (fun w1 hw => hw.sel (.cons_cons _ (.cons _ (.cons _ (.cons_cons _ (List.Sublist.refl _)))))) fun hS => ?_
  refine TH.t 16 rfl (gives_bin rfl rfl rfl (fun w => bin_add_ (r := IntKind.i64.wrap (x44.at_ + ((b : Nat) : Int))) (rfl) w)) hS ?_
  refine TH.only' 18 rfl (by kernel_rfl) rfl ?_
  refine TL.pstore (k := 1) (vs := (trcR x31).cells) rfl rfl rfl rfl rfl rfl rfl prssz32 (trc_cel.one _) (by show 4 ≤ 8; decide) (L' := ([.blk g6 65 x31.cells, .blk g5 34 [.int .i64 ((1 + k0 : Nat) : Int), .int .i64 ((trcR x31).v), .int .u32 ((trcR x31).dst), .int .i64 ((trcR x31).proto), .int .i64 ((fl : Nat) : Int), .int .i64 ((1 + tt : Nat) : Int), .int .i64 ((at0 : Nat) : Int), .int .i64 ((1 + pv : Nat) : Int)], .blk g4 34 [.int .i64 0, .int .i64 0, .int .u32 0, .int .i64 0, .int .i64 0, .int .i64 0, .int .i64 0, .int .i64 0], .abs cb (fun w => Cod w cb)] ++ F)) rfl ?_
  refine zE ?_
  refine TX.he (fun w1 hw => hw.sel (.cons_cons _ (.cons _ (.cons _ (.cons_cons _ (List.Sublist.refl _)))))) fun hS => ?_
  refine TH.t 19 rfl (gF arpfld34_2) hS ?_
  refine TH.only' 20 rfl (by kernel_rfl) rfl ?_
  refine TL.pstore (k := 1) (vs := [.int .i64 x31.flow]) rfl rfl rfl rfl rfl rfl rfl pcmsz3 aeaone_i64 (by show 5 ≤ 8; decide) rfl ?_
  refine zE ?_
  refine TX.he (fun w1 hw => hw.sel (.cons_cons _ (.cons _ (.cons _ (.cons_cons _ (List.Sublist.refl _)))))) fun hS => ?_
  refine TH.t 21 rfl (gF arpfld34_3) hS ?_
  refine TH.only' 22 rfl (by kernel_rfl) rfl ?_
  refine TL.pstore (k := 1) (vs := [.int .i64 x31.ttl]) rfl rfl rfl rfl rfl rfl rfl pcmsz3 aeaone_i64 (by show 6 ≤ 8; decide) rfl ?_
  refine zE ?_
  refine TX.he (fun w1 hw => hw.sel (.cons_cons _ (.cons _ (.cons _ (.cons_cons _ (List.Sublist.refl _)))))) fun hS => ?_
  refine TH.t 23 rfl (gF arpfld34_4) hS ?_
  refine TH.only' 24 rfl (by kernel_rfl) rfl ?_
  refine TL.pstore (k := 1) (vs := [.int .i64 (IntKind.i64.wrap (x44.at_ + ((b : Nat) : Int)))]) rfl rfl rfl rfl rfl rfl rfl pcmsz3 aeaone_i64 (by show 7 ≤ 8; decide) rfl ?_
  refine zE ?_
  refine TX.held (fun w1 hw => hw.sel (.cons_cons _ (.cons _ (.cons _ (.cons_cons _ (List.Sublist.refl _)))))) ?_
  refine TH.done (by kernel_rfl) ?_
  refine zT (zS (zSG (TL.v (gF arpfld34_0) ?_)))
  refine TL.v (gL 1 pcmag3) ?_
  refine TL.sp bin_eql (fun q56 => ?_) (fun q56 => ?_)
  ·refine zET (zc (zG (TL.v (gF arpfld34_3) ?_)))
   refine TL.pstore (k := 1) (vs := [.int .i64 0]) rfl rfl rfl rfl rfl rfl rfl pcmsz3 aeaone_i64 (by show 6 ≤ 8; decide) rfl ?_
   refine zET (zS (zSG (TL.v (gF arpfld34_0) ?_)))
   refine TL.v (gL 1 pcmag3) ?_
   refine TL.sp bin_neq (fun q60 => ?_) (fun q60 => ?_)
   ·refine zET (zc (zG (TL.v (gF arpfld34_5) ?_)))
    refine TL.pstore (k := 1) (vs := [.int .i64 0]) rfl rfl rfl rfl rfl rfl rfl pcmsz3 aeaone_i64 (by show 8 ≤ 8; decide) rfl ?_
    refine zET (zS (zSG (TL.mv ?_)))
    refine TL.pcallCod (k := 3) (α := {q9 : Nat // q9 ≤ 65535 ∧ (1 ≤ (12 : Int) → (q9 : Int) < 12)}) (fun q9 => .int .i64 ((q9.1 : Nat) : Int)) (fun q9 => []) rfl rfl rfl rfl rfl Tryz.func21 (by decide) rfl rfl (fun w1 hw hC1 => next_cod cb w1 12 hC1) ?_
    rintro ⟨sw, hsw1, hsw2⟩
    dsimp only [List.cons_append, List.nil_append]
    refine zET (zB (zSG ?_))
    refine TL.sp bin_eql (fun q65 => ?_) (fun q65 => ?_)
    ·refine TL.as_ ?_
     refine zET (zc (zG (TL.mv ?_)))
     refine TL.prowS (e := 3) (size := 1) (cs := flat (ic .i64) [0, 4, -1]) rfl rfl rfl rfl rfl (fun w => pcmbs106_3_44640 _ _ _ w) (by decide) rfl (fun g67 => ?_)
     refine TL.pcallCod (k := 4) (α := {v : Int // v ∈ ([0, 4, -1] : List Int)}) (fun x => .int .i64 x.1) (fun x => []) rfl rfl rfl rfl rfl Tryz.func22 (by decide) rfl rfl (fun w1 hw hC1 => pick_cod cb w1 hC1 g67 3 ([0, 4, -1]) (hw.neq (i := 0) (j := 4) rfl rfl (by decide) g67 rfl <| congrArg some ·.symm) (Pc.lt (hw.at_ (k := 0) rfl) g67 rfl).2 (by show 0 < ([0, 4, -1] : List Int).length; simp) (fun i v hi => flat_row1 hw (q := 0) rfl hi)) ?_
     rintro ⟨pk, hpk⟩
     dsimp only [List.cons_append, List.nil_append]
     refine TL.v (gF arpfld34_0) ?_
     refine TL.pstore (k := 2) (vs := [.int .i64 pk]) rfl rfl rfl rfl rfl rfl rfl pcmsz3 aeaone_i64 (by show 1 ≤ 8; decide) rfl ?_
     refine zE (zN (zT (zSG (TL.v (gV 2 (.agg #[.int .i64 pk, .int .i64 ((trcR x31).v), .int .u32 ((trcR x31).dst), .int .i64 ((trcR x31).proto), .int .i64 x31.flow, .int .i64 0, .int .i64 (IntKind.i64.wrap (x44.at_ + ((b : Nat) : Int))), .int .i64 0]) abrag34 abrsz34) ?_))))
     refine TL.pstore (k := 3) (vs := [.int .i64 pk, .int .i64 ((trcR x31).v), .int .u32 ((trcR x31).dst), .int .i64 ((trcR x31).proto), .int .i64 x31.flow, .int .i64 0, .int .i64 (IntKind.i64.wrap (x44.at_ + ((b : Nat) : Int))), .int .i64 0]) rfl rfl rfl rfl rfl rfl rfl abrsz34 aseone_i64i64u32i64i64i64i64i64 (by show 8 ≤ 8; decide) rfl ?_
     refine zET (zr ?_)
     exact pm_ret_cell (k := 3) Tryz.results26 rfl rfl Tryz.underlying34 rfl rfl (fun w1 hw => ⟨⟨⟨pk, (trcR x31).v, (trcR x31).dst, (trcR x31).proto, x31.flow, 0, IntKind.i64.wrap (x44.at_ + ((b : Nat) : Int)), 0⟩, (by unfold Rp.Ok; dsimp only [trcR]; omega)⟩, rfl, hw.sel (.cons _ (.cons _ (.cons _ (.cons _ (.cons_cons _ (List.Sublist.refl _))))))⟩)
    refine TL.as_ ?_
    refine zET (zd (zSG ?_))
    refine TL.sp bin_eql (fun q71 => ?_) (fun q71 => ?_)
    ·refine TL.as_ ?_
     refine zET (zc (zG (TL.mv ?_)))
     refine TL.prowS (e := 3) (size := 1) (cs := flat (ic .i64) [-1, 0, 1, 255, 256]) rfl rfl rfl rfl rfl (fun w => drpbs106_5_22075 _ _ _ _ _ w) (by decide) rfl (fun g73 => ?_)
     refine TL.pcallCod (k := 4) (α := {v : Int // v ∈ ([-1, 0, 1, 255, 256] : List Int)}) (fun x => .int .i64 x.1) (fun x => []) rfl rfl rfl rfl rfl Tryz.func22 (by decide) rfl rfl (fun w1 hw hC1 => pick_cod cb w1 hC1 g73 5 ([-1, 0, 1, 255, 256]) (hw.neq (i := 0) (j := 4) rfl rfl (by decide) g73 rfl <| congrArg some ·.symm) (Pc.lt (hw.at_ (k := 0) rfl) g73 rfl).2 (by show 0 < ([-1, 0, 1, 255, 256] : List Int).length; simp) (fun i v hi => flat_row1 hw (q := 0) rfl hi)) ?_
     rintro ⟨pk, hpk⟩
     dsimp only [List.cons_append, List.nil_append]
     refine TL.v (gF arpfld34_3) ?_
     refine TL.pstore (k := 2) (vs := [.int .i64 pk]) rfl rfl rfl rfl rfl rfl rfl pcmsz3 aeaone_i64 (by show 6 ≤ 8; decide) rfl ?_
     refine zE (zN (zT (zSG (TL.v (gV 2 (.agg #[.int .i64 ((1 + k0 : Nat) : Int), .int .i64 ((trcR x31).v), .int .u32 ((trcR x31).dst), .int .i64 ((trcR x31).proto), .int .i64 x31.flow, .int .i64 pk, .int .i64 (IntKind.i64.wrap (x44.at_ + ((b : Nat) : Int))), .int .i64 0]) abrag34 abrsz34) ?_))))
     refine TL.pstore (k := 3) (vs := [.int .i64 ((1 + k0 : Nat) : Int), .int .i64 ((trcR x31).v), .int .u32 ((trcR x31).dst), .int .i64 ((trcR x31).proto), .int .i64 x31.flow, .int .i64 pk, .int .i64 (IntKind.i64.wrap (x44.at_ + ((b : Nat) : Int))), .int .i64 0]) rfl rfl rfl rfl rfl rfl rfl abrsz34 aseone_i64i64u32i64i64i64i64i64 (by show 8 ≤ 8; decide) rfl ?_
     refine zET (zr ?_)
     exact pm_ret_cell (k := 3) Tryz.results26 rfl rfl Tryz.underlying34 rfl rfl (fun w1 hw => ⟨⟨⟨((1 + k0 : Nat) : Int), (trcR x31).v, (trcR x31).dst, (trcR x31).proto, x31.flow, pk, IntKind.i64.wrap (x44.at_ + ((b : Nat) : Int)), 0⟩, (by unfold Rp.Ok; dsimp only [trcR]; omega)⟩, rfl, hw.sel (.cons _ (.cons _ (.cons _ (.cons _ (.cons_cons _ (List.Sublist.refl _))))))⟩)
    refine TL.as_ ?_
    refine zET (zd (zSG ?_))
    refine TL.sp bin_eql (fun q77 => ?_) (fun q77 => ?_)
    ·refine TL.as_ ?_
     refine zET (zc (zG (TL.mv ?_)))
     refine TL.prowS (e := 3) (size := 1) (cs := flat (ic .i64) [-1, 2251799813685248, 2251799813685249]) rfl rfl rfl rfl rfl (fun w => pcmbs106_3_44640 _ _ _ w) (by decide) rfl (fun g79 => ?_)
     refine TL.pcallCod (k := 4) (α := {v : Int // v ∈ ([-1, 2251799813685248, 2251799813685249] : List Int)}) (fun x => .int .i64 x.1) (fun x => []) rfl rfl rfl rfl rfl Tryz.func22 (by decide) rfl rfl (fun w1 hw hC1 => pick_cod cb w1 hC1 g79 3 ([-1, 2251799813685248, 2251799813685249]) (hw.neq (i := 0) (j := 4) rfl rfl (by decide) g79 rfl <| congrArg some ·.symm) (Pc.lt (hw.at_ (k := 0) rfl) g79 rfl).2 (by show 0 < ([-1, 2251799813685248, 2251799813685249] : List Int).length; simp) (fun i v hi => flat_row1 hw (q := 0) rfl hi)) ?_
     rintro ⟨pk, hpk⟩
     dsimp only [List.cons_append, List.nil_append]
     refine TL.v (gF arpfld34_4) ?_
     refine TL.pstore (k := 2) (vs := [.int .i64 pk]) rfl rfl rfl rfl rfl rfl rfl pcmsz3 aeaone_i64 (by show 7 ≤ 8; decide) rfl ?_
     refine zE (zN (zT (zSG (TL.v (gV 2 (.agg #[.int .i64 ((1 + k0 : Nat) : Int), .int .i64 ((trcR x31).v), .int .u32 ((trcR x31).dst), .int .i64 ((trcR x31).proto), .int .i64 x31.flow, .int .i64 0, .int .i64 pk, .int .i64 0]) abrag34 abrsz34) ?_))))
     refine TL.pstore (k := 3) (vs := [.int .i64 ((1 + k0 : Nat) : Int), .int .i64 ((trcR x31).v), .int .u32 ((trcR x31).dst), .int .i64 ((trcR x31).proto), .int .i64 x31.flow, .int .i64 0, .int .i64 pk, .int .i64 0]) rfl rfl rfl rfl rfl rfl rfl abrsz34 aseone_i64i64u32i64i64i64i64i64 (by show 8 ≤ 8; decide) rfl ?_
     refine zET (zr ?_)
     exact pm_ret_cell (k := 3) Tryz.results26 rfl rfl Tryz.underlying34 rfl rfl (fun w1 hw => ⟨⟨⟨((1 + k0 : Nat) : Int), (trcR x31).v, (trcR x31).dst, (trcR x31).proto, x31.flow, 0, pk, 0⟩, (by unfold Rp.Ok; dsimp only [trcR]; omega)⟩, rfl, hw.sel (.cons _ (.cons _ (.cons _ (.cons _ (.cons_cons _ (List.Sublist.refl _))))))⟩)
    refine TL.as_ ?_
    refine zET (zd (zk (zN (zT (zSG (TL.v (gV 1 (.agg #[.int .i64 ((1 + k0 : Nat) : Int), .int .i64 ((trcR x31).v), .int .u32 ((trcR x31).dst), .int .i64 ((trcR x31).proto), .int .i64 x31.flow, .int .i64 0, .int .i64 (IntKind.i64.wrap (x44.at_ + ((b : Nat) : Int))), .int .i64 0]) abrag34 abrsz34) ?_))))))
    refine TL.pstore (k := 2) (vs := [.int .i64 ((1 + k0 : Nat) : Int), .int .i64 ((trcR x31).v), .int .u32 ((trcR x31).dst), .int .i64 ((trcR x31).proto), .int .i64 x31.flow, .int .i64 0, .int .i64 (IntKind.i64.wrap (x44.at_ + ((b : Nat) : Int))), .int .i64 0]) rfl rfl rfl rfl rfl rfl rfl abrsz34 aseone_i64i64u32i64i64i64i64i64 (by show 8 ≤ 8; decide) rfl ?_
    refine zET (zr ?_)
    exact pm_ret_cell (k := 2) Tryz.results26 rfl rfl Tryz.underlying34 rfl rfl (fun w1 hw => ⟨⟨⟨((1 + k0 : Nat) : Int), (trcR x31).v, (trcR x31).dst, (trcR x31).proto, x31.flow, 0, IntKind.i64.wrap (x44.at_ + ((b : Nat) : Int)), 0⟩, (by unfold Rp.Ok; dsimp only [trcR]; omega)⟩, rfl, hw.sel (.cons _ (.cons _ (.cons _ (.cons_cons _ (List.Sublist.refl _)))))⟩)
   refine zET (zd (zk (zT (zS (zSG (TL.mv ?_))))))
   refine TL.pcallCod (k := 3) (α := {q9 : Nat // q9 ≤ 65535 ∧ (1 ≤ (12 : Int) → (q9 : Int) < 12)}) (fun q9 => .int .i64 ((q9.1 : Nat) : Int)) (fun q9 => []) rfl rfl rfl rfl rfl Tryz.func21 (by decide) rfl rfl (fun w1 hw hC1 => next_cod cb w1 12 hC1) ?_
   rintro ⟨sw, hsw1, hsw2⟩
   dsimp only [List.cons_append, List.nil_append]
   refine zET (zB (zSG ?_))
   refine TL.sp bin_eql (fun q65 => ?_) (fun q65 => ?_)
   ·refine TL.as_ ?_
    refine zET (zc (zG (TL.mv ?_)))
    refine TL.prowS (e := 3) (size := 1) (cs := flat (ic .i64) [0, 4, -1]) rfl rfl rfl rfl rfl (fun w => pcmbs106_3_44640 _ _ _ w) (by decide) rfl (fun g67 => ?_)
    refine TL.pcallCod (k := 4) (α := {v : Int // v ∈ ([0, 4, -1] : List Int)}) (fun x => .int .i64 x.1) (fun x => []) rfl rfl rfl rfl rfl Tryz.func22 (by decide) rfl rfl (fun w1 hw hC1 => pick_cod cb w1 hC1 g67 3 ([0, 4, -1]) (hw.neq (i := 0) (j := 4) rfl rfl (by decide) g67 rfl <| congrArg some ·.symm) (Pc.lt (hw.at_ (k := 0) rfl) g67 rfl).2 (by show 0 < ([0, 4, -1] : List Int).length; simp) (fun i v hi => flat_row1 hw (q := 0) rfl hi)) ?_
    rintro ⟨pk, hpk⟩
    dsimp only [List.cons_append, List.nil_append]
    refine TL.v (gF arpfld34_0) ?_
    refine TL.pstore (k := 2) (vs := [.int .i64 pk]) rfl rfl rfl rfl rfl rfl rfl pcmsz3 aeaone_i64 (by show 1 ≤ 8; decide) rfl ?_
    refine zE (zN (zT (zSG (TL.v (gV 2 (.agg #[.int .i64 pk, .int .i64 ((trcR x31).v), .int .u32 ((trcR x31).dst), .int .i64 ((trcR x31).proto), .int .i64 x31.flow, .int .i64 0, .int .i64 (IntKind.i64.wrap (x44.at_ + ((b : Nat) : Int))), .int .i64 ((1 + pv : Nat) : Int)]) abrag34 abrsz34) ?_))))
    refine TL.pstore (k := 3) (vs := [.int .i64 pk, .int .i64 ((trcR x31).v), .int .u32 ((trcR x31).dst), .int .i64 ((trcR x31).proto), .int .i64 x31.flow, .int .i64 0, .int .i64 (IntKind.i64.wrap (x44.at_ + ((b : Nat) : Int))), .int .i64 ((1 + pv : Nat) : Int)]) rfl rfl rfl rfl rfl rfl rfl abrsz34 aseone_i64i64u32i64i64i64i64i64 (by show 8 ≤ 8; decide) rfl ?_
    refine zET (zr ?_)
    exact pm_ret_cell (k := 3) Tryz.results26 rfl rfl Tryz.underlying34 rfl rfl (fun w1 hw => ⟨⟨⟨pk, (trcR x31).v, (trcR x31).dst, (trcR x31).proto, x31.flow, 0, IntKind.i64.wrap (x44.at_ + ((b : Nat) : Int)), ((1 + pv : Nat) : Int)⟩, (by unfold Rp.Ok; dsimp only [trcR]; omega)⟩, rfl, hw.sel (.cons _ (.cons _ (.cons _ (.cons _ (.cons_cons _ (List.Sublist.refl _))))))⟩)
   refine TL.as_ ?_
   refine zET (zd (zSG ?_))
   refine TL.sp bin_eql (fun q71 => ?_) (fun q71 => ?_)
   ·refine TL.as_ ?_
    refine zET (zc (zG (TL.mv ?_)))
    refine TL.prowS (e := 3) (size := 1) (cs := flat (ic .i64) [-1, 0, 1, 255, 256]) rfl rfl rfl rfl rfl (fun w => drpbs106_5_22075 _ _ _ _ _ w) (by decide) rfl (fun g73 => ?_)
    refine TL.pcallCod (k := 4) (α := {v : Int // v ∈ ([-1, 0, 1, 255, 256] : List Int)}) (fun x => .int .i64 x.1) (fun x => []) rfl rfl rfl rfl rfl Tryz.func22 (by decide) rfl rfl (fun w1 hw hC1 => pick_cod cb w1 hC1 g73 5 ([-1, 0, 1, 255, 256]) (hw.neq (i := 0) (j := 4) rfl rfl (by decide) g73 rfl <| congrArg some ·.symm) (Pc.lt (hw.at_ (k := 0) rfl) g73 rfl).2 (by show 0 < ([-1, 0, 1, 255, 256] : List Int).length; simp) (fun i v hi => flat_row1 hw (q := 0) rfl hi)) ?_
    rintro ⟨pk, hpk⟩
    dsimp only [List.cons_append, List.nil_append]
    refine TL.v (gF arpfld34_3) ?_
    refine TL.pstore (k := 2) (vs := [.int .i64 pk]) rfl rfl rfl rfl rfl rfl rfl pcmsz3 aeaone_i64 (by show 6 ≤ 8; decide) rfl ?_
    refine zE (zN (zT (zSG (TL.v (gV 2 (.agg #[.int .i64 ((1 + k0 : Nat) : Int), .int .i64 ((trcR x31).v), .int .u32 ((trcR x31).dst), .int .i64 ((trcR x31).proto), .int .i64 x31.flow, .int .i64 pk, .int .i64 (IntKind.i64.wrap (x44.at_ + ((b : Nat) : Int))), .int .i64 ((1 + pv : Nat) : Int)]) abrag34 abrsz34) ?_))))
    refine TL.pstore (k := 3) (vs := [.int .i64 ((1 + k0 : Nat) : Int), .int .i64 ((trcR x31).v), .int .u32 ((trcR x31).dst), .int .i64 ((trcR x31).proto), .int .i64 x31.flow, .int .i64 pk, .int .i64 (IntKind.i64.wrap (x44.at_ + ((b : Nat) : Int))), .int .i64 ((1 + pv : Nat) : Int)]) rfl rfl rfl rfl rfl rfl rfl abrsz34 aseone_i64i64u32i64i64i64i64i64 (by show 8 ≤ 8; decide) rfl ?_
    refine zET (zr ?_)
    exact pm_ret_cell (k := 3) Tryz.results26 rfl rfl Tryz.underlying34 rfl rfl (fun w1 hw => ⟨⟨⟨((1 + k0 : Nat) : Int), (trcR x31).v, (trcR x31).dst, (trcR x31).proto, x31.flow, pk, IntKind.i64.wrap (x44.at_ + ((b : Nat) : Int)), ((1 + pv : Nat) : Int)⟩, (by unfold Rp.Ok; dsimp only [trcR]; omega)⟩, rfl, hw.sel (.cons _ (.cons _ (.cons _ (.cons _ (.cons_cons _ (List.Sublist.refl _))))))⟩)
   refine TL.as_ ?_
   refine zET (zd (zSG ?_))
   refine TL.sp bin_eql (fun q77 => ?_) (fun q77 => ?_)
   ·refine TL.as_ ?_
    refine zET (zc (zG (TL.mv ?_)))
    refine TL.prowS (e := 3) (size := 1) (cs := flat (ic .i64) [-1, 2251799813685248, 2251799813685249]) rfl rfl rfl rfl rfl (fun w => pcmbs106_3_44640 _ _ _ w) (by decide) rfl (fun g79 => ?_)
    refine TL.pcallCod (k := 4) (α := {v : Int // v ∈ ([-1, 2251799813685248, 2251799813685249] : List Int)}) (fun x => .int .i64 x.1) (fun x => []) rfl rfl rfl rfl rfl Tryz.func22 (by decide) rfl rfl (fun w1 hw hC1 => pick_cod cb w1 hC1 g79 3 ([-1, 2251799813685248, 2251799813685249]) (hw.neq (i := 0) (j := 4) rfl rfl (by decide) g79 rfl <| congrArg some ·.symm) (Pc.lt (hw.at_ (k := 0) rfl) g79 rfl).2 (by show 0 < ([-1, 2251799813685248, 2251799813685249] : List Int).length; simp) (fun i v hi => flat_row1 hw (q := 0) rfl hi)) ?_
    rintro ⟨pk, hpk⟩
    dsimp only [List.cons_append, List.nil_append]
    refine TL.v (gF arpfld34_4) ?_
    refine TL.pstore (k := 2) (vs := [.int .i64 pk]) rfl rfl rfl rfl rfl rfl rfl pcmsz3 aeaone_i64 (by show 7 ≤ 8; decide) rfl ?_
    refine zE (zN (zT (zSG (TL.v (gV 2 (.agg #[.int .i64 ((1 + k0 : Nat) : Int), .int .i64 ((trcR x31).v), .int .u32 ((trcR x31).dst), .int .i64 ((trcR x31).proto), .int .i64 x31.flow, .int .i64 0, .int .i64 pk, .int .i64 ((1 + pv : Nat) : Int)]) abrag34 abrsz34) ?_))))
    refine TL.pstore (k := 3) (vs := [.int .i64 ((1 + k0 : Nat) : Int), .int .i64 ((trcR x31).v), .int .u32 ((trcR x31).dst), .int .i64 ((trcR x31).proto), .int .i64 x31.flow, .int .i64 0, .int .i64 pk, .int .i64 ((1 + pv : Nat) : Int)]) rfl rfl rfl rfl rfl rfl rfl abrsz34 aseone_i64i64u32i64i64i64i64i64 (by show 8 ≤ 8; decide) rfl ?_
    refine zET (zr ?_)
    exact pm_ret_cell (k := 3) Tryz.results26 rfl rfl Tryz.underlying34 rfl rfl (fun w1 hw => ⟨⟨⟨((1 + k0 : Nat) : Int), (trcR x31).v, (trcR x31).dst, (trcR x31).proto, x31.flow, 0, pk, ((1 + pv : Nat) : Int)⟩, (by unfold Rp.Ok; dsimp only [trcR]; omega)⟩, rfl, hw.sel (.cons _ (.cons _ (.cons _ (.cons _ (.cons_cons _ (List.Sublist.refl _))))))⟩)
   refine TL.as_ ?_
   refine zET (zd (zk (zN (zT (zSG (TL.v (gV 1 (.agg #[.int .i64 ((1 + k0 : Nat) : Int), .int .i64 ((trcR x31).v), .int .u32 ((trcR x31).dst), .int .i64 ((trcR x31).proto), .int .i64 x31.flow, .int .i64 0, .int .i64 (IntKind.i64.wrap (x44.at_ + ((b : Nat) : Int))), .int .i64 ((1 + pv : Nat) : Int)]) abrag34 abrsz34) ?_))))))
   refine TL.pstore (k := 2) (vs := [.int .i64 ((1 + k0 : Nat) : Int), .int .i64 ((trcR x31).v), .int .u32 ((trcR x31).dst), .int .i64 ((trcR x31).proto), .int .i64 x31.flow, .int .i64 0, .int .i64 (IntKind.i64.wrap (x44.at_ + ((b : Nat) : Int))), .int .i64 ((1 + pv : Nat) : Int)]) rfl rfl rfl rfl rfl rfl rfl abrsz34 aseone_i64i64u32i64i64i64i64i64 (by show 8 ≤ 8; decide) rfl ?_
   refine zET (zr ?_)
   exact pm_ret_cell (k := 2) Tryz.results26 rfl rfl Tryz.underlying34 rfl rfl (fun w1 hw => ⟨⟨⟨((1 + k0 : Nat) : Int), (trcR x31).v, (trcR x31).dst, (trcR x31).proto, x31.flow, 0, IntKind.i64.wrap (x44.at_ + ((b : Nat) : Int)), ((1 + pv : Nat) : Int)⟩, (by unfold Rp.Ok; dsimp only [trcR]; omega)⟩, rfl, hw.sel (.cons _ (.cons _ (.cons _ (.cons_cons _ (List.Sublist.refl _)))))⟩)
  refine zET (zd (zk (zT (zS (zSG (TL.v (gF arpfld34_0) ?_))))))
  refine TL.v (gL 1 pcmag3) ?_
  refine TL.sp bin_neq (fun q60 => ?_) (fun q60 => ?_)
  ·refine zET (zc (zG (TL.v (gF arpfld34_5) ?_)))
   refine TL.pstore (k := 1) (vs := [.int .i64 0]) rfl rfl rfl rfl rfl rfl rfl pcmsz3 aeaone_i64 (by show 8 ≤ 8; decide) rfl ?_
   refine zET (zS (zSG (TL.mv ?_)))
   refine TL.pcallCod (k := 3) (α := {q9 : Nat // q9 ≤ 65535 ∧ (1 ≤ (12 : Int) → (q9 : Int) < 12)}) (fun q9 => .int .i64 ((q9.1 : Nat) : Int)) (fun q9 => []) rfl rfl rfl rfl rfl Tryz.func21 (by decide) rfl rfl (fun w1 hw hC1 => next_cod cb w1 12 hC1) ?_
   rintro ⟨sw, hsw1, hsw2⟩
   dsimp only [List.cons_append, List.nil_append]
   refine zET (zB (zSG ?_))
   refine TL.sp bin_eql (fun q65 => ?_) (fun q65 => ?_)
   ·refine TL.as_ ?_
    refine zET (zc (zG (TL.mv ?_)))
    refine TL.prowS (e := 3) (size := 1) (cs := flat (ic .i64) [0, 4, -1]) rfl rfl rfl rfl rfl (fun w => pcmbs106_3_44640 _ _ _ w) (by decide) rfl (fun g67 => ?_)
    refine TL.pcallCod (k := 4) (α := {v : Int // v ∈ ([0, 4, -1] : List Int)}) (fun x => .int .i64 x.1) (fun x => []) rfl rfl rfl rfl rfl Tryz.func22 (by decide) rfl rfl (fun w1 hw hC1 => pick_cod cb w1 hC1 g67 3 ([0, 4, -1]) (hw.neq (i := 0) (j := 4) rfl rfl (by decide) g67 rfl <| congrArg some ·.symm) (Pc.lt (hw.at_ (k := 0) rfl) g67 rfl).2 (by show 0 < ([0, 4, -1] : List Int).length; simp) (fun i v hi => flat_row1 hw (q := 0) rfl hi)) ?_
    rintro ⟨pk, hpk⟩
    dsimp only [List.cons_append, List.nil_append]
    refine TL.v (gF arpfld34_0) ?_
    refine TL.pstore (k := 2) (vs := [.int .i64 pk]) rfl rfl rfl rfl rfl rfl rfl pcmsz3 aeaone_i64 (by show 1 ≤ 8; decide) rfl ?_
    refine zE (zN (zT (zSG (TL.v (gV 2 (.agg #[.int .i64 pk, .int .i64 ((trcR x31).v), .int .u32 ((trcR x31).dst), .int .i64 ((trcR x31).proto), .int .i64 x31.flow, .int .i64 x31.ttl, .int .i64 (IntKind.i64.wrap (x44.at_ + ((b : Nat) : Int))), .int .i64 0]) abrag34 abrsz34) ?_))))
    refine TL.pstore (k := 3) (vs := [.int .i64 pk, .int .i64 ((trcR x31).v), .int .u32 ((trcR x31).dst), .int .i64 ((trcR x31).proto), .int .i64 x31.flow, .int .i64 x31.ttl, .int .i64 (IntKind.i64.wrap (x44.at_ + ((b : Nat) : Int))), .int .i64 0]) rfl rfl rfl rfl rfl rfl rfl abrsz34 aseone_i64i64u32i64i64i64i64i64 (by show 8 ≤ 8; decide) rfl ?_
    refine zET (zr ?_)
    exact pm_ret_cell (k := 3) Tryz.results26 rfl rfl Tryz.underlying34 rfl rfl (fun w1 hw => ⟨⟨⟨pk, (trcR x31).v, (trcR x31).dst, (trcR x31).proto, x31.flow, x31.ttl, IntKind.i64.wrap (x44.at_ + ((b : Nat) : Int)), 0⟩, (by unfold Rp.Ok; dsimp only [trcR]; omega)⟩, rfl, hw.sel (.cons _ (.cons _ (.cons _ (.cons _ (.cons_cons _ (List.Sublist.refl _))))))⟩)
   refine TL.as_ ?_
   refine zET (zd (zSG ?_))
   refine TL.sp bin_eql (fun q71 => ?_) (fun q71 => ?_)
   ·refine TL.as_ ?_
    refine zET (zc (zG (TL.mv ?_)))
    refine TL.prowS (e := 3) (size := 1) (cs := flat (ic .i64) [-1, 0, 1, 255, 256]) rfl rfl rfl rfl rfl (fun w => drpbs106_5_22075 _ _ _ _ _ w) (by decide) rfl (fun g73 => ?_)
    refine TL.pcallCod (k := 4) (α := {v : Int // v ∈ ([-1, 0, 1, 255, 256] : List Int)}) (fun x => .int .i64 x.1) (fun x => []) rfl rfl rfl rfl rfl Tryz.func22 (by decide) rfl rfl (fun w1 hw hC1 => pick_cod cb w1 hC1 g73 5 ([-1, 0, 1, 255, 256]) (hw.neq (i := 0) (j := 4) rfl rfl (by decide) g73 rfl <| congrArg some ·.symm) (Pc.lt (hw.at_ (k := 0) rfl) g73 rfl).2 (by show 0 < ([-1, 0, 1, 255, 256] : List Int).length; simp) (fun i v hi => flat_row1 hw (q := 0) rfl hi)) ?_
    rintro ⟨pk, hpk⟩
    dsimp only [List.cons_append, List.nil_append]
    refine TL.v (gF arpfld34_3) ?_
    refine TL.pstore (k := 2) (vs := [.int .i64 pk]) rfl rfl rfl rfl rfl rfl rfl pcmsz3 aeaone_i64 (by show 6 ≤ 8; decide) rfl ?_
    refine zE (zN (zT (zSG (TL.v (gV 2 (.agg #[.int .i64 ((1 + k0 : Nat) : Int), .int .i64 ((trcR x31).v), .int .u32 ((trcR x31).dst), .int .i64 ((trcR x31).proto), .int .i64 x31.flow, .int .i64 pk, .int .i64 (IntKind.i64.wrap (x44.at_ + ((b : Nat) : Int))), .int .i64 0]) abrag34 abrsz34) ?_))))
    refine TL.pstore (k := 3) (vs := [.int .i64 ((1 + k0 : Nat) : Int), .int .i64 ((trcR x31).v), .int .u32 ((trcR x31).dst), .int .i64 ((trcR x31).proto), .int .i64 x31.flow, .int .i64 pk, .int .i64 (IntKind.i64.wrap (x44.at_ + ((b : Nat) : Int))), .int .i64 0]) rfl rfl rfl rfl rfl rfl rfl abrsz34 aseone_i64i64u32i64i64i64i64i64 (by show 8 ≤ 8; decide) rfl ?_
    refine zET (zr ?_)
    exact pm_ret_cell (k := 3) Tryz.results26 rfl rfl Tryz.underlying34 rfl rfl (fun w1 hw => ⟨⟨⟨((1 + k0 : Nat) : Int), (trcR x31).v, (trcR x31).dst, (trcR x31).proto, x31.flow, pk, IntKind.i64.wrap (x44.at_ + ((b : Nat) : Int)), 0⟩, (by unfold Rp.Ok; dsimp only [trcR]; omega)⟩, rfl, hw.sel (.cons _ (.cons _ (.cons _ (.cons _ (.cons_cons _ (List.Sublist.refl _))))))⟩)
   refine TL.as_ ?_
   refine zET (zd (zSG ?_))
   refine TL.sp bin_eql (fun q77 => ?_) (fun q77 => ?_)
   ·refine TL.as_ ?_
    refine zET (zc (zG (TL.mv ?_)))
    refine TL.prowS (e := 3) (size := 1) (cs := flat (ic .i64) [-1, 2251799813685248, 2251799813685249]) rfl rfl rfl rfl rfl (fun w => pcmbs106_3_44640 _ _ _ w) (by decide) rfl (fun g79 => ?_)
    refine TL.pcallCod (k := 4) (α := {v : Int // v ∈ ([-1, 2251799813685248, 2251799813685249] : List Int)}) (fun x => .int .i64 x.1) (fun x => []) rfl rfl rfl rfl rfl Tryz.func22 (by decide) rfl rfl (fun w1 hw hC1 => pick_cod cb w1 hC1 g79 3 ([-1, 2251799813685248, 2251799813685249]) (hw.neq (i := 0) (j := 4) rfl rfl (by decide) g79 rfl <| congrArg some ·.symm) (Pc.lt (hw.at_ (k := 0) rfl) g79 rfl).2 (by show 0 < ([-1, 2251799813685248, 2251799813685249] : List Int).length; simp) (fun i v hi => flat_row1 hw (q := 0) rfl hi)) ?_
    rintro ⟨pk, hpk⟩
    dsimp only [List.cons_append, List.nil_append]
    refine TL.v (gF arpfld34_4) ?_
    refine TL.pstore (k := 2) (vs := [.int .i64 pk]) rfl rfl rfl rfl rfl rfl rfl pcmsz3 aeaone_i64 (by show 7 ≤ 8; decide) rfl ?_
    refine zE (zN (zT (zSG (TL.v (gV 2 (.agg #[.int .i64 ((1 + k0 : Nat) : Int), .int .i64 ((trcR x31).v), .int .u32 ((trcR x31).dst), .int .i64 ((trcR x31).proto), .int .i64 x31.flow, .int .i64 x31.ttl, .int .i64 pk, .int .i64 0]) abrag34 abrsz34) ?_))))
    refine TL.pstore (k := 3) (vs := [.int .i64 ((1 + k0 : Nat) : Int), .int .i64 ((trcR x31).v), .int .u32 ((trcR x31).dst), .int .i64 ((trcR x31).proto), .int .i64 x31.flow, .int .i64 x31.ttl, .int .i64 pk, .int .i64 0]) rfl rfl rfl rfl rfl rfl rfl abrsz34 aseone_i64i64u32i64i64i64i64i64 (by show 8 ≤ 8; decide) rfl ?_
    refine zET (zr ?_)
    exact pm_ret_cell (k := 3) Tryz.results26 rfl rfl Tryz.underlying34 rfl rfl (fun w1 hw => ⟨⟨⟨((1 + k0 : Nat) : Int), (trcR x31).v, (trcR x31).dst, (trcR x31).proto, x31.flow, x31.ttl, pk, 0⟩, (by unfold Rp.Ok; dsimp only [trcR]; omega)⟩, rfl, hw.sel (.cons _ (.cons _ (.cons _ (.cons _ (.cons_cons _ (List.Sublist.refl _))))))⟩)
   refine TL.as_ ?_
   refine zET (zd (zk (zN (zT (zSG (TL.v (gV 1 (.agg #[.int .i64 ((1 + k0 : Nat) : Int), .int .i64 ((trcR x31).v), .int .u32 ((trcR x31).dst), .int .i64 ((trcR x31).proto), .int .i64 x31.flow, .int .i64 x31.ttl, .int .i64 (IntKind.i64.wrap (x44.at_ + ((b : Nat) : Int))), .int .i64 0]) abrag34 abrsz34) ?_))))))
   refine TL.pstore (k := 2) (vs := [.int .i64 ((1 + k0 : Nat) : Int), .int .i64 ((trcR x31).v), .int .u32 ((trcR x31).dst), .int .i64 ((trcR x31).proto), .int .i64 x31.flow, .int .i64 x31.ttl, .int .i64 (IntKind.i64.wrap (x44.at_ + ((b : Nat) : Int))), .int .i64 0]) rfl rfl rfl rfl rfl rfl rfl abrsz34 aseone_i64i64u32i64i64i64i64i64 (by show 8 ≤ 8; decide) rfl ?_
   refine zET (zr ?_)
   exact pm_ret_cell (k := 2) Tryz.results26 rfl rfl Tryz.underlying34 rfl rfl (fun w1 hw => ⟨⟨⟨((1 + k0 : Nat) : Int), (trcR x31).v, (trcR x31).dst, (trcR x31).proto, x31.flow, x31.ttl, IntKind.i64.wrap (x44.at_ + ((b : Nat) : Int)), 0⟩, (by unfold Rp.Ok; dsimp only [trcR]; omega)⟩, rfl, hw.sel (.cons _ (.cons _ (.cons _ (.cons_cons _ (List.Sublist.refl _)))))⟩)
  refine zET (zd (zk (zT (zS (zSG (TL.mv ?_))))))
  refine TL.pcallCod (k := 3) (α := {q9 : Nat // q9 ≤ 65535 ∧ (1 ≤ (12 : Int) → (q9 : Int) < 12)}) (fun q9 => .int .i64 ((q9.1 : Nat) : Int)) (fun q9 => []) rfl rfl rfl rfl rfl Tryz.func21 (by decide) rfl rfl (fun w1 hw hC1 => next_cod cb w1 12 hC1) ?_
  rintro ⟨sw, hsw1, hsw2⟩
  dsimp only [List.cons_append, List.nil_append]
  refine zET (zB (zSG ?_))
  refine TL.sp bin_eql (fun q65 => ?_) (fun q65 => ?_)
  ·refine TL.as_ ?_
   refine zET (zc (zG (TL.mv ?_)))
   refine TL.prowS (e := 3) (size := 1) (cs := flat (ic .i64) [0, 4, -1]) rfl rfl rfl rfl rfl (fun w => pcmbs106_3_44640 _ _ _ w) (by decide) rfl (fun g67 => ?_)
   refine TL.pcallCod (k := 4) (α := {v : Int // v ∈ ([0, 4, -1] : List Int)}) (fun x => .int .i64 x.1) (fun x => []) rfl rfl rfl rfl rfl Tryz.func22 (by decide) rfl rfl (fun w1 hw hC1 => pick_cod cb w1 hC1 g67 3 ([0, 4, -1]) (hw.neq (i := 0) (j := 4) rfl rfl (by decide) g67 rfl <| congrArg some ·.symm) (Pc.lt (hw.at_ (k := 0) rfl) g67 rfl).2 (by show 0 < ([0, 4, -1] : List Int).length; simp) (fun i v hi => flat_row1 hw (q := 0) rfl hi)) ?_
   rintro ⟨pk, hpk⟩
   dsimp only [List.cons_append, List.nil_append]
   refine TL.v (gF arpfld34_0) ?_
   refine TL.pstore (k := 2) (vs := [.int .i64 pk]) rfl rfl rfl rfl rfl rfl rfl pcmsz3 aeaone_i64 (by show 1 ≤ 8; decide) rfl ?_
   refine zE (zN (zT (zSG (TL.v (gV 2 (.agg #[.int .i64 pk, .int .i64 ((trcR x31).v), .int .u32 ((trcR x31).dst), .int .i64 ((trcR x31).proto), .int .i64 x31.flow, .int .i64 x31.ttl, .int .i64 (IntKind.i64.wrap (x44.at_ + ((b : Nat) : Int))), .int .i64 ((1 + pv : Nat) : Int)]) abrag34 abrsz34) ?_))))
   refine TL.pstore (k := 3) (vs := [.int .i64 pk, .int .i64 ((trcR x31).v), .int .u32 ((trcR x31).dst), .int .i64 ((trcR x31).proto), .int .i64 x31.flow, .int .i64 x31.ttl, .int .i64 (IntKind.i64.wrap (x44.at_ + ((b : Nat) : Int))), .int .i64 ((1 + pv : Nat) : Int)]) rfl rfl rfl rfl rfl rfl rfl abrsz34 aseone_i64i64u32i64i64i64i64i64 (by show 8 ≤ 8; decide) rfl ?_
   refine zET (zr ?_)
   exact pm_ret_cell (k := 3) Tryz.results26 rfl rfl Tryz.underlying34 rfl rfl (fun w1 hw => ⟨⟨⟨pk, (trcR x31).v, (trcR x31).dst, (trcR x31).proto, x31.flow, x31.ttl, IntKind.i64.wrap (x44.at_ + ((b : Nat) : Int)), ((1 + pv : Nat) : Int)⟩, (by unfold Rp.Ok; dsimp only [trcR]; omega)⟩, rfl, hw.sel (.cons _ (.cons _ (.cons _ (.cons _ (.cons_cons _ (List.Sublist.refl _))))))⟩)
  refine TL.as_ ?_
  refine zET (zd (zSG ?_))
  refine TL.sp bin_eql (fun q71 => ?_) (fun q71 => ?_)
  ·refine TL.as_ ?_
   refine zET (zc (zG (TL.mv ?_)))
   refine TL.prowS (e := 3) (size := 1) (cs := flat (ic .i64) [-1, 0, 1, 255, 256]) rfl rfl rfl rfl rfl (fun w => drpbs106_5_22075 _ _ _ _ _ w) (by decide) rfl (fun g73 => ?_)
   refine TL.pcallCod (k := 4) (α := {v : Int // v ∈ ([-1, 0, 1, 255, 256] : List Int)}) (fun x => .int .i64 x.1) (fun x => []) rfl rfl rfl rfl rfl Tryz.func22 (by decide) rfl rfl (fun w1 hw hC1 => pick_cod cb w1 hC1 g73 5 ([-1, 0, 1, 255, 256]) (hw.neq (i := 0) (j := 4) rfl rfl (by decide) g73 rfl <| congrArg some ·.symm) (Pc.lt (hw.at_ (k := 0) rfl) g73 rfl).2 (by show 0 < ([-1, 0, 1, 255, 256] : List Int).length; simp) (fun i v hi => flat_row1 hw (q := 0) rfl hi)) ?_
   rintro ⟨pk, hpk⟩
   dsimp only [List.cons_append, List.nil_append]
   refine TL.v (gF arpfld34_3) ?_
   refine TL.pstore (k := 2) (vs := [.int .i64 pk]) rfl rfl rfl rfl rfl rfl rfl pcmsz3 aeaone_i64 (by show 6 ≤ 8; decide) rfl ?_
   refine zE (zN (zT (zSG (TL.v (gV 2 (.agg #[.int .i64 ((1 + k0 : Nat) : Int), .int .i64 ((trcR x31).v), .int .u32 ((trcR x31).dst), .int .i64 ((trcR x31).proto), .int .i64 x31.flow, .int .i64 pk, .int .i64 (IntKind.i64.wrap (x44.at_ + ((b : Nat) : Int))), .int .i64 ((1 + pv : Nat) : Int)]) abrag34 abrsz34) ?_))))
   refine TL.pstore (k := 3) (vs := [.int .i64 ((1 + k0 : Nat) : Int), .int .i64 ((trcR x31).v), .int .u32 ((trcR x31).dst), .int .i64 ((trcR x31).proto), .int .i64 x31.flow, .int .i64 pk, .int .i64 (IntKind.i64.wrap (x44.at_ + ((b : Nat) : Int))), .int .i64 ((1 + pv : Nat) : Int)]) rfl rfl rfl rfl rfl rfl rfl abrsz34 aseone_i64i64u32i64i64i64i64i64 (by show 8 ≤ 8; decide) rfl ?_
   refine zET (zr ?_)
   exact pm_ret_cell (k := 3) Tryz.results26 rfl rfl Tryz.underlying34 rfl rfl (fun w1 hw => ⟨⟨⟨((1 + k0 : Nat) : Int), (trcR x31).v, (trcR x31).dst, (trcR x31).proto, x31.flow, pk, IntKind.i64.wrap (x44.at_ + ((b : Nat) : Int)), ((1 + pv : Nat) : Int)⟩, (by unfold Rp.Ok; dsimp only [trcR]; omega)⟩, rfl, hw.sel (.cons _ (.cons _ (.cons _ (.cons _ (.cons_cons _ (List.Sublist.refl _))))))⟩)
  refine TL.as_ ?_
  refine zET (zd (zSG ?_))
  refine TL.sp bin_eql (fun q77 => ?_) (fun q77 => ?_)
  ·refine TL.as_ ?_
   refine zET (zc (zG (TL.mv ?_)))
   refine TL.prowS (e := 3) (size := 1) (cs := flat (ic .i64) [-1, 2251799813685248, 2251799813685249]) rfl rfl rfl rfl rfl (fun w => pcmbs106_3_44640 _ _ _ w) (by decide) rfl (fun g79 => ?_)
   refine TL.pcallCod (k := 4) (α := {v : Int // v ∈ ([-1, 2251799813685248, 2251799813685249] : List Int)}) (fun x => .int .i64 x.1) (fun x => []) rfl rfl rfl rfl rfl Tryz.func22 (by decide) rfl rfl (fun w1 hw hC1 => pick_cod cb w1 hC1 g79 3 ([-1, 2251799813685248, 2251799813685249]) (hw.neq (i := 0) (j := 4) rfl rfl (by decide) g79 rfl <| congrArg some ·.symm) (Pc.lt (hw.at_ (k := 0) rfl) g79 rfl).2 (by show 0 < ([-1, 2251799813685248, 2251799813685249] : List Int).length; simp) (fun i v hi => flat_row1 hw (q := 0) rfl hi)) ?_
   rintro ⟨pk, hpk⟩
   dsimp only [List.cons_append, List.nil_append]
   refine TL.v (gF arpfld34_4) ?_
   refine TL.pstore (k := 2) (vs := [.int .i64 pk]) rfl rfl rfl rfl rfl rfl rfl pcmsz3 aeaone_i64 (by show 7 ≤ 8; decide) rfl ?_
   refine zE (zN (zT (zSG (TL.v (gV 2 (.agg #[.int .i64 ((1 + k0 : Nat) : Int), .int .i64 ((trcR x31).v), .int .u32 ((trcR x31).dst), .int .i64 ((trcR x31).proto), .int .i64 x31.flow, .int .i64 x31.ttl, .int .i64 pk, .int .i64 ((1 + pv : Nat) : Int)]) abrag34 abrsz34) ?_))))
   refine TL.pstore (k := 3) (vs := [.int .i64 ((1 + k0 : Nat) : Int), .int .i64 ((trcR x31).v), .int .u32 ((trcR x31).dst), .int .i64 ((trcR x31).proto), .int .i64 x31.flow, .int .i64 x31.ttl, .int .i64 pk, .int .i64 ((1 + pv : Nat) : Int)]) rfl rfl rfl rfl rfl rfl rfl abrsz34 aseone_i64i64u32i64i64i64i64i64 (by show 8 ≤ 8; decide) rfl ?_
   refine zET (zr ?_)
   exact pm_ret_cell (k := 3) Tryz.results26 rfl rfl Tryz.underlying34 rfl rfl (fun w1 hw => ⟨⟨⟨((1 + k0 : Nat) : Int), (trcR x31).v, (trcR x31).dst, (trcR x31).proto, x31.flow, x31.ttl, pk, ((1 + pv : Nat) : Int)⟩, (by unfold Rp.Ok; dsimp only [trcR]; omega)⟩, rfl, hw.sel (.cons _ (.cons _ (.cons _ (.cons _ (.cons_cons _ (List.Sublist.refl _))))))⟩)
  refine TL.as_ ?_
  refine zET (zd (zk (zN (zT (zSG (TL.v (gV 1 (.agg #[.int .i64 ((1 + k0 : Nat) : Int), .int .i64 ((trcR x31).v), .int .u32 ((trcR x31).dst), .int .i64 ((trcR x31).proto), .int .i64 x31.flow, .int .i64 x31.ttl, .int .i64 (IntKind.i64.wrap (x44.at_ + ((b : Nat) : Int))), .int .i64 ((1 + pv : Nat) : Int)]) abrag34 abrsz34) ?_))))))
  refine TL.pstore (k := 2) (vs := [.int .i64 ((1 + k0 : Nat) : Int), .int .i64 ((trcR x31).v), .int .u32 ((trcR x31).dst), .int .i64 ((trcR x31).proto), .int .i64 x31.flow, .int .i64 x31.ttl, .int .i64 (IntKind.i64.wrap (x44.at_ + ((b : Nat) : Int))), .int .i64 ((1 + pv : Nat) : Int)]) rfl rfl rfl rfl rfl rfl rfl abrsz34 aseone_i64i64u32i64i64i64i64i64 (by show 8 ≤ 8; decide) rfl ?_
  refine zET (zr ?_)
  exact pm_ret_cell (k := 2) Tryz.results26 rfl rfl Tryz.underlying34 rfl rfl (fun w1 hw => ⟨⟨⟨((1 + k0 : Nat) : Int), (trcR x31).v, (trcR x31).dst, (trcR x31).proto, x31.flow, x31.ttl, IntKind.i64.wrap (x44.at_ + ((b : Nat) : Int)), ((1 + pv : Nat) : Int)⟩, (by unfold Rp.Ok; dsimp only [trcR]; omega)⟩, rfl, hw.sel (.cons _ (.cons _ (.cons _ (.cons_cons _ (List.Sublist.refl _)))))⟩)
 refine zET (zd (zk (zT (zS (zSG (TL.v (gF arpfld34_0) ?_))))))
 refine TL.v (gL 0 pcmag3) ?_
 refine TL.sp bin_eql (fun q56 => ?_) (fun q56 => ?_)
 ·refine zET (zc (zG (TL.v (gF arpfld34_3) ?_)))
  refine TL.pstore (k := 0) (vs := [.int .i64 0]) rfl rfl rfl rfl rfl rfl rfl pcmsz3 aeaone_i64 (by show 6 ≤ 8; decide) rfl ?_
  refine zET (zS (zSG (TL.v (gF arpfld34_0) ?_)))
  refine TL.v (gL 0 pcmag3) ?_
  refine TL.sp bin_neq (fun q60 => ?_) (fun q60 => ?_)
  ·refine zET (zc (zG (TL.v (gF arpfld34_5) ?_)))
   refine TL.pstore (k := 0) (vs := [.int .i64 0]) rfl rfl rfl rfl rfl rfl rfl pcmsz3 aeaone_i64 (by show 8 ≤ 8; decide) rfl ?_
   refine zET (zS (zSG (TL.mv ?_)))
   refine TL.pcallCod (k := 2) (α := {q9 : Nat // q9 ≤ 65535 ∧ (1 ≤ (12 : Int) → (q9 : Int) < 12)}) (fun q9 => .int .i64 ((q9.1 : Nat) : Int)) (fun q9 => []) rfl rfl rfl rfl rfl Tryz.func21 (by decide) rfl rfl (fun w1 hw hC1 => next_cod cb w1 12 hC1) ?_
   rintro ⟨sw, hsw1, hsw2⟩
   dsimp only [List.cons_append, List.nil_append]
   refine zET (zB (zSG ?_))
   refine TL.sp bin_eql (fun q65 => ?_) (fun q65 => ?_)
   ·refine TL.as_ ?_
    refine zET (zc (zG (TL.mv ?_)))
    refine TL.prowS (e := 3) (size := 1) (cs := flat (ic .i64) [0, 4, -1]) rfl rfl rfl rfl rfl (fun w => pcmbs106_3_44640 _ _ _ w) (by decide) rfl (fun g67 => ?_)
    refine TL.pcallCod (k := 3) (α := {v : Int // v ∈ ([0, 4, -1] : List Int)}) (fun x => .int .i64 x.1) (fun x => []) rfl rfl rfl rfl rfl Tryz.func22 (by decide) rfl rfl (fun w1 hw hC1 => pick_cod cb w1 hC1 g67 3 ([0, 4, -1]) (hw.neq (i := 0) (j := 3) rfl rfl (by decide) g67 rfl <| congrArg some ·.symm) (Pc.lt (hw.at_ (k := 0) rfl) g67 rfl).2 (by show 0 < ([0, 4, -1] : List Int).length; simp) (fun i v hi => flat_row1 hw (q := 0) rfl hi)) ?_
    rintro ⟨pk, hpk⟩
    dsimp only [List.cons_append, List.nil_append]
    refine TL.v (gF arpfld34_0) ?_
    refine TL.pstore (k := 1) (vs := [.int .i64 pk]) rfl rfl rfl rfl rfl rfl rfl pcmsz3 aeaone_i64 (by show 1 ≤ 8; decide) rfl ?_
    refine zE (zN (zT (zSG (TL.v (gV 1 (.agg #[.int .i64 pk, .int .i64 tr.v, .int .u32 tr.dst, .int .i64 tr.proto, .int .i64 ((fl : Nat) : Int), .int .i64 0, .int .i64 ((at0 : Nat) : Int), .int .i64 0]) abrag34 abrsz34) ?_))))
    refine TL.pstore (k := 2) (vs := [.int .i64 pk, .int .i64 tr.v, .int .u32 tr.dst, .int .i64 tr.proto, .int .i64 ((fl : Nat) : Int), .int .i64 0, .int .i64 ((at0 : Nat) : Int), .int .i64 0]) rfl rfl rfl rfl rfl rfl rfl abrsz34 aseone_i64i64u32i64i64i64i64i64 (by show 8 ≤ 8; decide) rfl ?_
    refine zET (zr ?_)
    exact pm_ret_cell (k := 2) Tryz.results26 rfl rfl Tryz.underlying34 rfl rfl (fun w1 hw => ⟨⟨⟨pk, tr.v, tr.dst, tr.proto, ((fl : Nat) : Int), 0, ((at0 : Nat) : Int), 0⟩, (by unfold Rp.Ok; dsimp only [trcR]; omega)⟩, rfl, hw.sel (.cons _ (.cons _ (.cons _ (.cons_cons _ (List.Sublist.refl _)))))⟩)
   refine TL.as_ ?_
   refine zET (zd (zSG ?_))
   refine TL.sp bin_eql (fun q71 => ?_) (fun q71 => ?_)
   ·refine TL.as_ ?_
    refine zET (zc (zG (TL.mv ?_)))
    refine TL.prowS (e := 3) (size := 1) (cs := flat (ic .i64) [-1, 0, 1, 255, 256]) rfl rfl rfl rfl rfl (fun w => drpbs106_5_22075 _ _ _ _ _ w) (by decide) rfl (fun g73 => ?_)
    refine TL.pcallCod (k := 3) (α := {v : Int // v ∈ ([-1, 0, 1, 255, 256] : List Int)}) (fun x => .int .i64 x.1) (fun x => []) rfl rfl rfl rfl rfl Tryz.func22 (by decide) rfl rfl (fun w1 hw hC1 => pick_cod cb w1 hC1 g73 5 ([-1, 0, 1, 255, 256]) (hw.neq (i := 0) (j := 3) rfl rfl (by decide) g73 rfl <| congrArg some ·.symm) (Pc.lt (hw.at_ (k := 0) rfl) g73 rfl).2 (by show 0 < ([-1, 0, 1, 255, 256] : List Int).length; simp) (fun i v hi => flat_row1 hw (q := 0) rfl hi)) ?_
    rintro ⟨pk, hpk⟩
    dsimp only [List.cons_append, List.nil_append]
    refine TL.v (gF arpfld34_3) ?_
    refine TL.pstore (k := 1) (vs := [.int .i64 pk]) rfl rfl rfl rfl rfl rfl rfl pcmsz3 aeaone_i64 (by show 6 ≤ 8; decide) rfl ?_
    refine zE (zN (zT (zSG (TL.v (gV 1 (.agg #[.int .i64 ((1 + k0 : Nat) : Int), .int .i64 tr.v, .int .u32 tr.dst, .int .i64 tr.proto, .int .i64 ((fl : Nat) : Int), .int .i64 pk, .int .i64 ((at0 : Nat) : Int), .int .i64 0]) abrag34 abrsz34) ?_))))
    refine TL.pstore (k := 2) (vs := [.int .i64 ((1 + k0 : Nat) : Int), .int .i64 tr.v, .int .u32 tr.dst, .int .i64 tr.proto, .int .i64 ((fl : Nat) : Int), .int .i64 pk, .int .i64 ((at0 : Nat) : Int), .int .i64 0]) rfl rfl rfl rfl rfl rfl rfl abrsz34 aseone_i64i64u32i64i64i64i64i64 (by show 8 ≤ 8; decide) rfl ?_
    refine zET (zr ?_)
    exact pm_ret_cell (k := 2) Tryz.results26 rfl rfl Tryz.underlying34 rfl rfl (fun w1 hw => ⟨⟨⟨((1 + k0 : Nat) : Int), tr.v, tr.dst, tr.proto, ((fl : Nat) : Int), pk, ((at0 : Nat) : Int), 0⟩, (by unfold Rp.Ok; dsimp only [trcR]; omega)⟩, rfl, hw.sel (.cons _ (.cons _ (.cons _ (.cons_cons _ (List.Sublist.refl _)))))⟩)
   refine TL.as_ ?_
   refine zET (zd (zSG ?_))
   refine TL.sp bin_eql (fun q77 => ?_) (fun q77 => ?_)
   ·refine TL.as_ ?_
    refine zET (zc (zG (TL.mv ?_)))
    refine TL.prowS (e := 3) (size := 1) (cs := flat (ic .i64) [-1, 2251799813685248, 2251799813685249]) rfl rfl rfl rfl rfl (fun w => pcmbs106_3_44640 _ _ _ w) (by decide) rfl (fun g79 => ?_)
    refine TL.pcallCod (k := 3) (α := {v : Int // v ∈ ([-1, 2251799813685248, 2251799813685249] : List Int)}) (fun x => .int .i64 x.1) (fun x => []) rfl rfl rfl rfl rfl Tryz.func22 (by decide) rfl rfl (fun w1 hw hC1 => pick_cod cb w1 hC1 g79 3 ([-1, 2251799813685248, 2251799813685249]) (hw.neq (i := 0) (j := 3) rfl rfl (by decide) g79 rfl <| congrArg some ·.symm) (Pc.lt (hw.at_ (k := 0) rfl) g79 rfl).2 (by show 0 < ([-1, 2251799813685248, 2251799813685249] : List Int).length; simp) (fun i v hi => flat_row1 hw (q := 0) rfl hi)) ?_
    rintro ⟨pk, hpk⟩
    dsimp only [List.cons_append, List.nil_append]
    refine TL.v (gF arpfld34_4) ?_
    refine TL.pstore (k := 1) (vs := [.int .i64 pk]) rfl rfl rfl rfl rfl rfl rfl pcmsz3 aeaone_i64 (by show 7 ≤ 8; decide) rfl ?_
    refine zE (zN (zT (zSG (TL.v (gV 1 (.agg #[.int .i64 ((1 + k0 : Nat) : Int), .int .i64 tr.v, .int .u32 tr.dst, .int .i64 tr.proto, .int .i64 ((fl : Nat) : Int), .int .i64 0, .int .i64 pk, .int .i64 0]) abrag34 abrsz34) ?_))))
    refine TL.pstore (k := 2) (vs := [.int .i64 ((1 + k0 : Nat) : Int), .int .i64 tr.v, .int .u32 tr.dst, .int .i64 tr.proto, .int .i64 ((fl : Nat) : Int), .int .i64 0, .int .i64 pk, .int .i64 0]) rfl rfl rfl rfl rfl rfl rfl abrsz34 aseone_i64i64u32i64i64i64i64i64 (by show 8 ≤ 8; decide) rfl ?_
    refine zET (zr ?_)
    exact pm_ret_cell (k := 2) Tryz.results26 rfl rfl Tryz.underlying34 rfl rfl (fun w1 hw => ⟨⟨⟨((1 + k0 : Nat) : Int), tr.v, tr.dst, tr.proto, ((fl : Nat) : Int), 0, pk, 0⟩, (by unfold Rp.Ok; dsimp only [trcR]; omega)⟩, rfl, hw.sel (.cons _ (.cons _ (.cons _ (.cons_cons _ (List.Sublist.refl _)))))⟩)
   refine TL.as_ ?_
   refine zET (zd (zk (zN (zT (zSG (TL.v (gV 0 (.agg #[.int .i64 ((1 + k0 : Nat) : Int), .int .i64 tr.v, .int .u32 tr.dst, .int .i64 tr.proto, .int .i64 ((fl : Nat) : Int), .int .i64 0, .int .i64 ((at0 : Nat) : Int), .int .i64 0]) abrag34 abrsz34) ?_))))))
   refine TL.pstore (k := 1) (vs := [.int .i64 ((1 + k0 : Nat) : Int), .int .i64 tr.v, .int .u32 tr.dst, .int .i64 tr.proto, .int .i64 ((fl : Nat) : Int), .int .i64 0, .int .i64 ((at0 : Nat) : Int), .int .i64 0]) rfl rfl rfl rfl rfl rfl rfl abrsz34 aseone_i64i64u32i64i64i64i64i64 (by show 8 ≤ 8; decide) rfl ?_
   refine zET (zr ?_)
   exact pm_ret_cell (k := 1) Tryz.results26 rfl rfl Tryz.underlying34 rfl rfl (fun w1 hw => ⟨⟨⟨((1 + k0 : Nat) : Int), tr.v, tr.dst, tr.proto, ((fl : Nat) : Int), 0, ((at0 : Nat) : Int), 0⟩, (by unfold Rp.Ok; dsimp only [trcR]; omega)⟩, rfl, hw.sel (.cons _ (.cons _ (.cons_cons _ (List.Sublist.refl _))))⟩)
  refine zET (zd (zk (zT (zS (zSG (TL.mv ?_))))))
  refine TL.pcallCod (k := 2) (α := {q9 : Nat // q9 ≤ 65535 ∧ (1 ≤ (12 : Int) → (q9 : Int) < 12)}) (fun q9 => .int .i64 ((q9.1 : Nat) : Int)) (fun q9 => []) rfl rfl rfl rfl rfl Tryz.func21 (by decide) rfl rfl (fun w1 hw hC1 => next_cod cb w1 12 hC1) ?_
  rintro ⟨sw, hsw1, hsw2⟩
  dsimp only [List.cons_append, List.nil_append]
  refine zET (zB (zSG ?_))
  refine TL.sp bin_eql (fun q65 => ?_) (fun q65 => ?_)
  ·refine TL.as_ ?_
   refine zET (zc (zG (TL.mv ?_)))
   refine TL.prowS (e := 3) (size := 1) (cs := flat (ic .i64) [0, 4, -1]) rfl rfl rfl rfl rfl (fun w => pcmbs106_3_44640 _ _ _ w) (by decide) rfl (fun g67 => ?_)
   refine TL.pcallCod (k := 3) (α := {v : Int // v ∈ ([0, 4, -1] : List Int)}) (fun x => .int .i64 x.1) (fun x => []) rfl rfl rfl rfl rfl Tryz.func22 (by decide) rfl rfl (fun w1 hw hC1 => pick_cod cb w1 hC1 g67 3 ([0, 4, -1]) (hw.neq (i := 0) (j := 3) rfl rfl (by decide) g67 rfl <| congrArg some ·.symm) (Pc.lt (hw.at_ (k := 0) rfl) g67 rfl).2 (by show 0 < ([0, 4, -1] : List Int).length; simp) (fun i v hi => flat_row1 hw (q := 0) rfl hi)) ?_
   rintro ⟨pk, hpk⟩
   dsimp only [List.cons_append, List.nil_append]
   refine TL.v (gF arpfld34_0) ?_
   refine TL.pstore (k := 1) (vs := [.int .i64 pk]) rfl rfl rfl rfl rfl rfl rfl pcmsz3 aeaone_i64 (by show 1 ≤ 8; decide) rfl ?_
   refine zE (zN (zT (zSG (TL.v (gV 1 (.agg #[.int .i64 pk, .int .i64 tr.v, .int .u32 tr.dst, .int .i64 tr.proto, .int .i64 ((fl : Nat) : Int), .int .i64 0, .int .i64 ((at0 : Nat) : Int), .int .i64 ((1 + pv : Nat) : Int)]) abrag34 abrsz34) ?_))))
   refine TL.pstore (k := 2) (vs := [.int .i64 pk, .int .i64 tr.v, .int .u32 tr.dst, .int .i64 tr.proto, .int .i64 ((fl : Nat) : Int), .int .i64 0, .int .i64 ((at0 : Nat) : Int), .int .i64 ((1 + pv : Nat) : Int)]) rfl rfl rfl rfl rfl rfl rfl abrsz34 aseone_i64i64u32i64i64i64i64i64 (by show 8 ≤ 8; decide) rfl ?_
   refine zET (zr ?_)
   exact pm_ret_cell (k := 2) Tryz.results26 rfl rfl Tryz.underlying34 rfl rfl (fun w1 hw => ⟨⟨⟨pk, tr.v, tr.dst, tr.proto, ((fl : Nat) : Int), 0, ((at0 : Nat) : Int), ((1 + pv : Nat) : Int)⟩, (by unfold Rp.Ok; dsimp only [trcR]; omega)⟩, rfl, hw.sel (.cons _ (.cons _ (.cons _ (.cons_cons _ (List.Sublist.refl _)))))⟩)
  refine TL.as_ ?_
  refine zET (zd (zSG ?_))
  refine TL.sp bin_eql (fun q71 => ?_) (fun q71 => ?_)
  ·refine TL.as_ ?_
   refine zET (zc (zG (TL.mv ?_)))
   refine TL.prowS (e := 3) (size := 1) (cs := flat (ic .i64) [-1, 0, 1, 255, 256]) rfl rfl rfl rfl rfl (fun w => drpbs106_5_22075 _ _ _ _ _ w) (by decide) rfl (fun g73 => ?_)
   refine TL.pcallCod (k := 3) (α := {v : Int // v ∈ ([-1, 0, 1, 255, 256] : List Int)}) (fun x => .int .i64 x.1) (fun x => []) rfl rfl rfl rfl rfl Tryz.func22 (by decide) rfl rfl (fun w1 hw hC1 => pick_cod cb w1 hC1 g73 5 ([-1, 0, 1, 255, 256]) (hw.neq (i := 0) (j := 3) rfl rfl (by decide) g73 rfl <| congrArg some ·.symm) (Pc.lt (hw.at_ (k := 0) rfl) g73 rfl).2 (by show 0 < ([-1, 0, 1, 255, 256] : List Int).length; simp) (fun i v hi => flat_row1 hw (q := 0) rfl hi)) ?_
   rintro ⟨pk, hpk⟩
   dsimp only [List.cons_append, List.nil_append]
   refine TL.v (gF arpfld34_3) ?_
   refine TL.pstore (k := 1) (vs := [.int .i64 pk]) rfl rfl rfl rfl rfl rfl rfl pcmsz3 aeaone_i64 (by show 6 ≤ 8; decide) rfl ?_
   refine zE (zN (zT (zSG (TL.v (gV 1 (.agg #[.int .i64 ((1 + k0 : Nat) : Int), .int .i64 tr.v, .int .u32 tr.dst, .int .i64 tr.proto, .int .i64 ((fl : Nat) : Int), .int .i64 pk, .int .i64 ((at0 : Nat) : Int), .int .i64 ((1 + pv : Nat) : Int)]) abrag34 abrsz34) ?_))))
   refine TL.pstore (k := 2) (vs := [.int .i64 ((1 + k0 : Nat) : Int), .int .i64 tr.v, .int .u32 tr.dst, .int .i64 tr.proto, .int .i64 ((fl : Nat) : Int), .int .i64 pk, .int .i64 ((at0 : Nat) : Int), .int .i64 ((1 + pv : Nat) : Int)]) rfl rfl rfl rfl rfl rfl rfl abrsz34 aseone_i64i64u32i64i64i64i64i64 (by show 8 ≤ 8; decide) rfl ?_
   refine zET (zr ?_)
   exact pm_ret_cell (k := 2) Tryz.results26 rfl rfl Tryz.underlying34 rfl rfl (fun w1 hw => ⟨⟨⟨((1 + k0 : Nat) : Int), tr.v, tr.dst, tr.proto, ((fl : Nat) : Int), pk, ((at0 : Nat) : Int), ((1 + pv : Nat) : Int)⟩, (by unfold Rp.Ok; dsimp only [trcR]; omega)⟩, rfl, hw.sel (.cons _ (.cons _ (.cons _ (.cons_cons _ (List.Sublist.refl _)))))⟩)
  refine TL.as_ ?_
  refine zET (zd (zSG ?_))
  refine TL.sp bin_eql (fun q77 => ?_) (fun q77 => ?_)
  ·refine TL.as_ ?_
   refine zET (zc (zG (TL.mv ?_)))
   refine TL.prowS (e := 3) (size := 1) (cs := flat (ic .i64) [-1, 2251799813685248, 2251799813685249]) rfl rfl rfl rfl rfl (fun w => pcmbs106_3_44640 _ _ _ w) (by decide) rfl (fun g79 => ?_)
   refine TL.pcallCod (k := 3) (α := {v : Int // v ∈ ([-1, 2251799813685248, 2251799813685249] : List Int)}) (fun x => .int .i64 x.1) (fun x => []) rfl rfl rfl rfl rfl Tryz.func22 (by decide) rfl rfl (fun w1 hw hC1 => pick_cod cb w1 hC1 g79 3 ([-1, 2251799813685248, 2251799813685249]) (hw.neq (i := 0) (j := 3) rfl rfl (by decide) g79 rfl <| congrArg some ·.symm) (Pc.lt (hw.at_ (k := 0) rfl) g79 rfl).2 (by show 0 < ([-1, 2251799813685248, 2251799813685249] : List Int).length; simp) (fun i v hi => flat_row1 hw (q := 0) rfl hi)) ?_
   rintro ⟨pk, hpk⟩
   dsimp only [List.cons_append, List.nil_append]
   refine TL.v (gF arpfld34_4) ?_
   refine TL.pstore (k := 1) (vs := [.int .i64 pk]) rfl rfl rfl rfl rfl rfl rfl pcmsz3 aeaone_i64 (by show 7 ≤ 8; decide) rfl ?_
   refine zE (zN (zT (zSG (TL.v (gV 1 (.agg #[.int .i64 ((1 + k0 : Nat) : Int), .int .i64 tr.v, .int .u32 tr.dst, .int .i64 tr.proto, .int .i64 ((fl : Nat) : Int), .int .i64 0, .int .i64 pk, .int .i64 ((1 + pv : Nat) : Int)]) abrag34 abrsz34) ?_))))
   refine TL.pstore (k := 2) (vs := [.int .i64 ((1 + k0 : Nat) : Int), .int .i64 tr.v, .int .u32 tr.dst, .int .i64 tr.proto, .int .i64 ((fl : Nat) : Int), .int .i64 0, .int .i64 pk, .int .i64 ((1 + pv : Nat) : Int)]) rfl rfl rfl rfl rfl rfl rfl abrsz34 aseone_i64i64u32i64i64i64i64i64 (by show 8 ≤ 8; decide) rfl ?_
   refine zET (zr ?_)
   exact pm_ret_cell (k := 2) Tryz.results26 rfl rfl Tryz.underlying34 rfl rfl (fun w1 hw => ⟨⟨⟨((1 + k0 : Nat) : Int), tr.v, tr.dst, tr.proto, ((fl : Nat) : Int), 0, pk, ((1 + pv : Nat) : Int)⟩, (by unfold Rp.Ok; dsimp only [trcR]; omega)⟩, rfl, hw.sel (.cons _ (.cons _ (.cons _ (.cons_cons _ (List.Sublist.refl _)))))⟩)
  refine TL.as_ ?_
  refine zET (zd (zk (zN (zT (zSG (TL.v (gV 0 (.agg #[.int .i64 ((1 + k0 : Nat) : Int), .int .i64 tr.v, .int .u32 tr.dst, .int .i64 tr.proto, .int .i64 ((fl : Nat) : Int), .int .i64 0, .int .i64 ((at0 : Nat) : Int), .int .i64 ((1 + pv : Nat) : Int)]) abrag34 abrsz34) ?_))))))
  refine TL.pstore (k := 1) (vs := [.int .i64 ((1 + k0 : Nat) : Int), .int .i64 tr.v, .int .u32 tr.dst, .int .i64 tr.proto, .int .i64 ((fl : Nat) : Int), .int .i64 0, .int .i64 ((at0 : Nat) : Int), .int .i64 ((1 + pv : Nat) : Int)]) rfl rfl rfl rfl rfl rfl rfl abrsz34 aseone_i64i64u32i64i64i64i64i64 (by show 8 ≤ 8; decide) rfl ?_
  refine zET (zr ?_)
  exact pm_ret_cell (k := 1) Tryz.results26 rfl rfl Tryz.underlying34 rfl rfl (fun w1 hw => ⟨⟨⟨((1 + k0 : Nat) : Int), tr.v, tr.dst, tr.proto, ((fl : Nat) : Int), 0, ((at0 : Nat) : Int), ((1 + pv : Nat) : Int)⟩, (by unfold Rp.Ok; dsimp only [trcR]; omega)⟩, rfl, hw.sel (.cons _ (.cons _ (.cons_cons _ (List.Sublist.refl _))))⟩)
 refine zET (zd (zk (zT (zS (zSG (TL.v (gF arpfld34_0) ?_))))))
 refine TL.v (gL 0 pcmag3) ?_
 refine TL.sp bin_neq (fun q60 => ?_) (fun q60 => ?_)
 ·refine zET (zc (zG (TL.v (gF arpfld34_5) ?_)))
  refine TL.pstore (k := 0) (vs := [.int .i64 0]) rfl rfl rfl rfl rfl rfl rfl pcmsz3 aeaone_i64 (by show 8 ≤ 8; decide) rfl ?_
  refine zET (zS (zSG (TL.mv ?_)))
  refine TL.pcallCod (k := 2) (α := {q9 : Nat // q9 ≤ 65535 ∧ (1 ≤ (12 : Int) → (q9 : Int) < 12)}) (fun q9 => .int .i64 ((q9.1 : Nat) : Int)) (fun q9 => []) rfl rfl rfl rfl rfl Tryz.func21 (by decide) rfl rfl (fun w1 hw hC1 => next_cod cb w1 12 hC1) ?_
  rintro ⟨sw, hsw1, hsw2⟩
  dsimp only [List.cons_append, List.nil_append]
  refine zET (zB (zSG ?_))
  refine TL.sp bin_eql (fun q65 => ?_) (fun q65 => ?_)
  ·refine TL.as_ ?_
   refine zET (zc (zG (TL.mv ?_)))
   refine TL.prowS (e := 3) (size := 1) (cs := flat (ic .i64) [0, 4, -1]) rfl rfl rfl rfl rfl (fun w => pcmbs106_3_44640 _ _ _ w) (by decide) rfl (fun g67 => ?_)
   refine TL.pcallCod (k := 3) (α := {v : Int // v ∈ ([0, 4, -1] : List Int)}) (fun x => .int .i64 x.1) (fun x => []) rfl rfl rfl rfl rfl Tryz.func22 (by decide) rfl rfl (fun w1 hw hC1 => pick_cod cb w1 hC1 g67 3 ([0, 4, -1]) (hw.neq (i := 0) (j := 3) rfl rfl (by decide) g67 rfl <| congrArg some ·.symm) (Pc.lt (hw.at_ (k := 0) rfl) g67 rfl).2 (by show 0 < ([0, 4, -1] : List Int).length; simp) (fun i v hi => flat_row1 hw (q := 0) rfl hi)) ?_
   rintro ⟨pk, hpk⟩
   dsimp only [List.cons_append, List.nil_append]
   refine TL.v (gF arpfld34_0) ?_
   refine TL.pstore (k := 1) (vs := [.int .i64 pk]) rfl rfl rfl rfl rfl rfl rfl pcmsz3 aeaone_i64 (by show 1 ≤ 8; decide) rfl ?_
   refine zE (zN (zT (zSG (TL.v (gV 1 (.agg #[.int .i64 pk, .int .i64 tr.v, .int .u32 tr.dst, .int .i64 tr.proto, .int .i64 ((fl : Nat) : Int), .int .i64 ((1 + tt : Nat) : Int), .int .i64 ((at0 : Nat) : Int), .int .i64 0]) abrag34 abrsz34) ?_))))
   refine TL.pstore (k := 2) (vs := [.int .i64 pk, .int .i64 tr.v, .int .u32 tr.dst, .int .i64 tr.proto, .int .i64 ((fl : Nat) : Int), .int .i64 ((1 + tt : Nat) : Int), .int .i64 ((at0 : Nat) : Int), .int .i64 0]) rfl rfl rfl rfl rfl rfl rfl abrsz34 aseone_i64i64u32i64i64i64i64i64 (by show 8 ≤ 8; decide) rfl ?_
   refine zET (zr ?_)
   exact pm_ret_cell (k := 2) Tryz.results26 rfl rfl Tryz.underlying34 rfl rfl (fun w1 hw => ⟨⟨⟨pk, tr.v, tr.dst, tr.proto, ((fl : Nat) : Int), ((1 + tt : Nat) : Int), ((at0 : Nat) : Int), 0⟩, (by unfold Rp.Ok; dsimp only [trcR]; omega)⟩, rfl, hw.sel (.cons _ (.cons _ (.cons _ (.cons_cons _ (List.Sublist.refl _)))))⟩)
  refine TL.as_ ?_
  refine zET (zd (zSG ?_))
  refine TL.sp bin_eql (fun q71 => ?_) (fun q71 => ?_)
  ·refine TL.as_ ?_
   refine zET (zc (zG (TL.mv ?_)))
   refine TL.prowS (e := 3) (size := 1) (cs := flat (ic .i64) [-1, 0, 1, 255, 256]) rfl rfl rfl rfl rfl (fun w => drpbs106_5_22075 _ _ _ _ _ w) (by decide) rfl (fun g73 => ?_)
   refine TL.pcallCod (k := 3) (α := {v : Int // v ∈ ([-1, 0, 1, 255, 256] : List Int)}) (fun x => .int .i64 x.1) (fun x => []) rfl rfl rfl rfl rfl Tryz.func22 (by decide) rfl rfl (fun w1 hw hC1 => pick_cod cb w1 hC1 g73 5 ([-1, 0, 1, 255, 256]) (hw.neq (i := 0) (j := 3) rfl rfl (by decide) g73 rfl <| congrArg some ·.symm) (Pc.lt (hw.at_ (k := 0) rfl) g73 rfl).2 (by show 0 < ([-1, 0, 1, 255, 256] : List Int).length; simp) (fun i v hi => flat_row1 hw (q := 0) rfl hi)) ?_
   rintro ⟨pk, hpk⟩
   dsimp only [List.cons_append, List.nil_append]
   refine TL.v (gF arpfld34_3) ?_
   refine TL.pstore (k := 1) (vs := [.int .i64 pk]) rfl rfl rfl rfl rfl rfl rfl pcmsz3 aeaone_i64 (by show 6 ≤ 8; decide) rfl ?_
   refine zE (zN (zT (zSG (TL.v (gV 1 (.agg #[.int .i64 ((1 + k0 : Nat) : Int), .int .i64 tr.v, .int .u32 tr.dst, .int .i64 tr.proto, .int .i64 ((fl : Nat) : Int), .int .i64 pk, .int .i64 ((at0 : Nat) : Int), .int .i64 0]) abrag34 abrsz34) ?_))))
   refine TL.pstore (k := 2) (vs := [.int .i64 ((1 + k0 : Nat) : Int), .int .i64 tr.v, .int .u32 tr.dst, .int .i64 tr.proto, .int .i64 ((fl : Nat) : Int), .int .i64 pk, .int .i64 ((at0 : Nat) : Int), .int .i64 0]) rfl rfl rfl rfl rfl rfl rfl abrsz34 aseone_i64i64u32i64i64i64i64i64 (by show 8 ≤ 8; decide) rfl ?_
   refine zET (zr ?_)
   exact pm_ret_cell (k := 2) Tryz.results26 rfl rfl Tryz.underlying34 rfl rfl (fun w1 hw => ⟨⟨⟨((1 + k0 : Nat) : Int), tr.v, tr.dst, tr.proto, ((fl : Nat) : Int), pk, ((at0 : Nat) : Int), 0⟩, (by unfold Rp.Ok; dsimp only [trcR]; omega)⟩, rfl, hw.sel (.cons _ (.cons _ (.cons _ (.cons_cons _ (List.Sublist.refl _)))))⟩)
  refine TL.as_ ?_
  refine zET (zd (zSG ?_))
  refine TL.sp bin_eql (fun q77 => ?_) (fun q77 => ?_)
  ·refine TL.as_ ?_
   refine zET (zc (zG (TL.mv ?_)))
   refine TL.prowS (e := 3) (size := 1) (cs := flat (ic .i64) [-1, 2251799813685248, 2251799813685249]) rfl rfl rfl rfl rfl (fun w => pcmbs106_3_44640 _ _ _ w) (by decide) rfl (fun g79 => ?_)
   refine TL.pcallCod (k := 3) (α := {v : Int // v ∈ ([-1, 2251799813685248, 2251799813685249] : List Int)}) (fun x => .int .i64 x.1) (fun x => []) rfl rfl rfl rfl rfl Tryz.func22 (by decide) rfl rfl (fun w1 hw hC1 => pick_cod cb w1 hC1 g79 3 ([-1, 2251799813685248, 2251799813685249]) (hw.neq (i := 0) (j := 3) rfl rfl (by decide) g79 rfl <| congrArg some ·.symm) (Pc.lt (hw.at_ (k := 0) rfl) g79 rfl).2 (by show 0 < ([-1, 2251799813685248, 2251799813685249] : List Int).length; simp) (fun i v hi => flat_row1 hw (q := 0) rfl hi)) ?_
   rintro ⟨pk, hpk⟩
   dsimp only [List.cons_append, List.nil_append]
   refine TL.v (gF arpfld34_4) ?_
   refine TL.pstore (k := 1) (vs := [.int .i64 pk]) rfl rfl rfl rfl rfl rfl rfl pcmsz3 aeaone_i64 (by show 7 ≤ 8; decide) rfl ?_
   refine zE (zN (zT (zSG (TL.v (gV 1 (.agg #[.int .i64 ((1 + k0 : Nat) : Int), .int .i64 tr.v, .int .u32 tr.dst, .int .i64 tr.proto, .int .i64 ((fl : Nat) : Int), .int .i64 ((1 + tt : Nat) : Int), .int .i64 pk, .int .i64 0]) abrag34 abrsz34) ?_))))
   refine TL.pstore (k := 2) (vs := [.int .i64 ((1 + k0 : Nat) : Int), .int .i64 tr.v, .int .u32 tr.dst, .int .i64 tr.proto, .int .i64 ((fl : Nat) : Int), .int .i64 ((1 + tt : Nat) : Int), .int .i64 pk, .int .i64 0]) rfl rfl rfl rfl rfl rfl rfl abrsz34 aseone_i64i64u32i64i64i64i64i64 (by show 8 ≤ 8; decide) rfl ?_
   refine zET (zr ?_)
   exact pm_ret_cell (k := 2) Tryz.results26 rfl rfl Tryz.underlying34 rfl rfl (fun w1 hw => ⟨⟨⟨((1 + k0 : Nat) : Int), tr.v, tr.dst, tr.proto, ((fl : Nat) : Int), ((1 + tt : Nat) : Int), pk, 0⟩, (by unfold Rp.Ok; dsimp only [trcR]; omega)⟩, rfl, hw.sel (.cons _ (.cons _ (.cons _ (.cons_cons _ (List.Sublist.refl _)))))⟩)
  refine TL.as_ ?_
  refine zET (zd (zk (zN (zT (zSG (TL.v (gV 0 (.agg #[.int .i64 ((1 + k0 : Nat) : Int), .int .i64 tr.v, .int .u32 tr.dst, .int .i64 tr.proto, .int .i64 ((fl : Nat) : Int), .int .i64 ((1 + tt : Nat) : Int), .int .i64 ((at0 : Nat) : Int), .int .i64 0]) abrag34 abrsz34) ?_))))))
  refine TL.pstore (k := 1) (vs := [.int .i64 ((1 + k0 : Nat) : Int), .int .i64 tr.v, .int .u32 tr.dst, .int .i64 tr.proto, .int .i64 ((fl : Nat) : Int), .int .i64 ((1 + tt : Nat) : Int), .int .i64 ((at0 : Nat) : Int), .int .i64 0]) rfl rfl rfl rfl rfl rfl rfl abrsz34 aseone_i64i64u32i64i64i64i64i64 (by show 8 ≤ 8; decide) rfl ?_
  refine zET (zr ?_)
  exact pm_ret_cell (k := 1) Tryz.results26 rfl rfl Tryz.underlying34 rfl rfl (fun w1 hw => ⟨⟨⟨((1 + k0 : Nat) : Int), tr.v, tr.dst, tr.proto, ((fl : Nat) : Int), ((1 + tt : Nat) : Int), ((at0 : Nat) : Int), 0⟩, (by unfold Rp.Ok; dsimp only [trcR]; omega)⟩, rfl, hw.sel (.cons _ (.cons _ (.cons_cons _ (List.Sublist.refl _))))⟩)
 refine zET (zd (zk (zT (zS (zSG (TL.mv ?_))))))
 refine TL.pcallCod (k := 2) (α := {q9 : Nat // q9 ≤ 65535 ∧ (1 ≤ (12 : Int) → (q9 : Int) < 12)}) (fun q9 => .int .i64 ((q9.1 : Nat) : Int)) (fun q9 => []) rfl rfl rfl rfl rfl Tryz.func21 (by decide) rfl rfl (fun w1 hw hC1 => next_cod cb w1 12 hC1) ?_
 rintro ⟨sw, hsw1, hsw2⟩
 dsimp only [List.cons_append, List.nil_append]
 refine zET (zB (zSG ?_))
 refine TL.sp bin_eql (fun q65 => ?_) (fun q65 => ?_)
 ·refine TL.as_ ?_
  refine zET (zc (zG (TL.mv ?_)))
  refine TL.prowS (e := 3) (size := 1) (cs := flat (ic .i64) [0, 4, -1]) rfl rfl rfl rfl rfl (fun w => pcmbs106_3_44640 _ _ _ w) (by decide) rfl (fun g67 => ?_)
  refine TL.pcallCod (k := 3) (α := {v : Int // v ∈ ([0, 4, -1] : List Int)}) (fun x => .int .i64 x.1) (fun x => []) rfl rfl rfl rfl rfl Tryz.func22 (by decide) rfl rfl (fun w1 hw hC1 => pick_cod cb w1 hC1 g67 3 ([0, 4, -1]) (hw.neq (i := 0) (j := 3) rfl rfl (by decide) g67 rfl <| congrArg some ·.symm) (Pc.lt (hw.at_ (k := 0) rfl) g67 rfl).2 (by show 0 < ([0, 4, -1] : List Int).length; simp) (fun i v hi => flat_row1 hw (q := 0) rfl hi)) ?_
  rintro ⟨pk, hpk⟩
  dsimp only [List.cons_append, List.nil_append]
  refine TL.v (gF arpfld34_0) ?_
  refine TL.pstore (k := 1) (vs := [.int .i64 pk]) rfl rfl rfl rfl rfl rfl rfl pcmsz3 aeaone_i64 (by show 1 ≤ 8; decide) rfl ?_
  refine zE (zN (zT (zSG (TL.v (gV 1 (.agg #[.int .i64 pk, .int .i64 tr.v, .int .u32 tr.dst, .int .i64 tr.proto, .int .i64 ((fl : Nat) : Int), .int .i64 ((1 + tt : Nat) : Int), .int .i64 ((at0 : Nat) : Int), .int .i64 ((1 + pv : Nat) : Int)]) abrag34 abrsz34) ?_))))
  refine TL.pstore (k := 2) (vs := [.int .i64 pk, .int .i64 tr.v, .int .u32 tr.dst, .int .i64 tr.proto, .int .i64 ((fl : Nat) : Int), .int .i64 ((1 + tt : Nat) : Int), .int .i64 ((at0 : Nat) : Int), .int .i64 ((1 + pv : Nat) : Int)]) rfl rfl rfl rfl rfl rfl rfl abrsz34 aseone_i64i64u32i64i64i64i64i64 (by show 8 ≤ 8; decide) rfl ?_
  refine zET (zr ?_)
  exact pm_ret_cell (k := 2) Tryz.results26 rfl rfl Tryz.underlying34 rfl rfl (fun w1 hw => ⟨⟨⟨pk, tr.v, tr.dst, tr.proto, ((fl : Nat) : Int), ((1 + tt : Nat) : Int), ((at0 : Nat) : Int), ((1 + pv : Nat) : Int)⟩, (by unfold Rp.Ok; dsimp only [trcR]; omega)⟩, rfl, hw.sel (.cons _ (.cons _ (.cons _ (.cons_cons _ (List.Sublist.refl _)))))⟩)
 refine TL.as_ ?_
 refine zET (zd (zSG ?_))
 refine TL.sp bin_eql (fun q71 => ?_) (fun q71 => ?_)
 ·refine TL.as_ ?_
  refine zET (zc (zG (TL.mv ?_)))
  refine TL.prowS (e := 3) (size := 1) (cs := flat (ic .i64) [-1, 0, 1, 255, 256]) rfl rfl rfl rfl rfl (fun w => drpbs106_5_22075 _ _ _ _ _ w) (by decide) rfl (fun g73 => ?_)
  refine TL.pcallCod (k := 3) (α := {v : Int // v ∈ ([-1, 0, 1, 255, 256] : List Int)}) (fun x => .int .i64 x.1) (fun x => []) rfl rfl rfl rfl rfl Tryz.func22 (by decide) rfl rfl (fun w1 hw hC1 => pick_cod cb w1 hC1 g73 5 ([-1, 0, 1, 255, 256]) (hw.neq (i := 0) (j := 3) rfl rfl (by decide) g73 rfl <| congrArg some ·.symm) (Pc.lt (hw.at_ (k := 0) rfl) g73 rfl).2 (by show 0 < ([-1, 0, 1, 255, 256] : List Int).length; simp) (fun i v hi => flat_row1 hw (q := 0) rfl hi)) ?_
  rintro ⟨pk, hpk⟩
  dsimp only [List.cons_append, List.nil_append]
  refine TL.v (gF arpfld34_3) ?_
  refine TL.pstore (k := 1) (vs := [.int .i64 pk]) rfl rfl rfl rfl rfl rfl rfl pcmsz3 aeaone_i64 (by show 6 ≤ 8; decide) rfl ?_
  refine zE (zN (zT (zSG (TL.v (gV 1 (.agg #[.int .i64 ((1 + k0 : Nat) : Int), .int .i64 tr.v, .int .u32 tr.dst, .int .i64 tr.proto, .int .i64 ((fl : Nat) : Int), .int .i64 pk, .int .i64 ((at0 : Nat) : Int), .int .i64 ((1 + pv : Nat) : Int)]) abrag34 abrsz34) ?_))))
  refine TL.pstore (k := 2) (vs := [.int .i64 ((1 + k0 : Nat) : Int), .int .i64 tr.v, .int .u32 tr.dst, .int .i64 tr.proto, .int .i64 ((fl : Nat) : Int), .int .i64 pk, .int .i64 ((at0 : Nat) : Int), .int .i64 ((1 + pv : Nat) : Int)]) rfl rfl rfl rfl rfl rfl rfl abrsz34 aseone_i64i64u32i64i64i64i64i64 (by show 8 ≤ 8; decide) rfl ?_
  refine zET (zr ?_)
  exact pm_ret_cell (k := 2) Tryz.results26 rfl rfl Tryz.underlying34 rfl rfl (fun w1 hw => ⟨⟨⟨((1 + k0 : Nat) : Int), tr.v, tr.dst, tr.proto, ((fl : Nat) : Int), pk, ((at0 : Nat) : Int), ((1 + pv : Nat) : Int)⟩, (by unfold Rp.Ok; dsimp only [trcR]; omega)⟩, rfl, hw.sel (.cons _ (.cons _ (.cons _ (.cons_cons _ (List.Sublist.refl _)))))⟩)
 refine TL.as_ ?_
 refine zET (zd (zSG ?_))
 refine TL.sp bin_eql (fun q77 => ?_) (fun q77 => ?_)
 ·refine TL.as_ ?_
  refine zET (zc (zG (TL.mv ?_)))
  refine TL.prowS (e := 3) (size := 1) (cs := flat (ic .i64) [-1, 2251799813685248, 2251799813685249]) rfl rfl rfl rfl rfl (fun w => pcmbs106_3_44640 _ _ _ w) (by decide) rfl (fun g79 => ?_)
  refine TL.pcallCod (k := 3) (α := {v : Int // v ∈ ([-1, 2251799813685248, 2251799813685249] : List Int)}) (fun x => .int .i64 x.1) (fun x => []) rfl rfl rfl rfl rfl Tryz.func22 (by decide) rfl rfl (fun w1 hw hC1 => pick_cod cb w1 hC1 g79 3 ([-1, 2251799813685248, 2251799813685249]) (hw.neq (i := 0) (j := 3) rfl rfl (by decide) g79 rfl <| congrArg some ·.symm) (Pc.lt (hw.at_ (k := 0) rfl) g79 rfl).2 (by show 0 < ([-1, 2251799813685248, 2251799813685249] : List Int).length; simp) (fun i v hi => flat_row1 hw (q := 0) rfl hi)) ?_
  rintro ⟨pk, hpk⟩
  dsimp only [List.cons_append, List.nil_append]
  refine TL.v (gF arpfld34_4) ?_
  refine TL.pstore (k := 1) (vs := [.int .i64 pk]) rfl rfl rfl rfl rfl rfl rfl pcmsz3 aeaone_i64 (by show 7 ≤ 8; decide) rfl ?_
  refine zE (zN (zT (zSG (TL.v (gV 1 (.agg #[.int .i64 ((1 + k0 : Nat) : Int), .int .i64 tr.v, .int .u32 tr.dst, .int .i64 tr.proto, .int .i64 ((fl : Nat) : Int), .int .i64 ((1 + tt : Nat) : Int), .int .i64 pk, .int .i64 ((1 + pv : Nat) : Int)]) abrag34 abrsz34) ?_))))
  refine TL.pstore (k := 2) (vs := [.int .i64 ((1 + k0 : Nat) : Int), .int .i64 tr.v, .int .u32 tr.dst, .int .i64 tr.proto, .int .i64 ((fl : Nat) : Int), .int .i64 ((1 + tt : Nat) : Int), .int .i64 pk, .int .i64 ((1 + pv : Nat) : Int)]) rfl rfl rfl rfl rfl rfl rfl abrsz34 aseone_i64i64u32i64i64i64i64i64 (by show 8 ≤ 8; decide) rfl ?_
  refine zET (zr ?_)
  exact pm_ret_cell (k := 2) Tryz.results26 rfl rfl Tryz.underlying34 rfl rfl (fun w1 hw => ⟨⟨⟨((1 + k0 : Nat) : Int), tr.v, tr.dst, tr.proto, ((fl : Nat) : Int), ((1 + tt : Nat) : Int), pk, ((1 + pv : Nat) : Int)⟩, (by unfold Rp.Ok; dsimp only [trcR]; omega)⟩, rfl, hw.sel (.cons _ (.cons _ (.cons _ (.cons_cons _ (List.Sublist.refl _)))))⟩)
 refine TL.as_ ?_
 refine zET (zd (zk (zN (zT (zSG (TL.v (gV 0 (.agg #[.int .i64 ((1 + k0 : Nat) : Int), .int .i64 tr.v, .int .u32 tr.dst, .int .i64 tr.proto, .int .i64 ((fl : Nat) : Int), .int .i64 ((1 + tt : Nat) : Int), .int .i64 ((at0 : Nat) : Int), .int .i64 ((1 + pv : Nat) : Int)]) abrag34 abrsz34) ?_))))))
 refine TL.pstore (k := 1) (vs := [.int .i64 ((1 + k0 : Nat) : Int), .int .i64 tr.v, .int .u32 tr.dst, .int .i64 tr.proto, .int .i64 ((fl : Nat) : Int), .int .i64 ((1 + tt : Nat) : Int), .int .i64 ((at0 : Nat) : Int), .int .i64 ((1 + pv : Nat) : Int)]) rfl rfl rfl rfl rfl rfl rfl abrsz34 aseone_i64i64u32i64i64i64i64i64 (by show 8 ≤ 8; decide) rfl ?_
 refine zET (zr ?_)
 exact pm_ret_cell (k := 1) Tryz.results26 rfl rfl Tryz.underlying34 rfl rfl (fun w1 hw => ⟨⟨⟨((1 + k0 : Nat) : Int), tr.v, tr.dst, tr.proto, ((fl : Nat) : Int), ((1 + tt : Nat) : Int), ((at0 : Nat) : Int), ((1 + pv : Nat) : Int)⟩, (by unfold Rp.Ok; dsimp only [trcR]; omega)⟩, rfl, hw.sel (.cons _ (.cons _ (.cons_cons _ (List.Sublist.refl _))))⟩)
set_option maxRecDepth 20000
theorem aawbld63_27255 (a0_0 : Int) (a1_0 : Int) (w : World) : (Instr.build 63 #[(0, .int .u32 a0_0), (1, .int .i64 a1_0)]).run Tryz.prog w = .ok (.agg #[.int .u32 a0_0, .int .i64 a1_0, .int .i64 0, .int .i64 0, .int .i64 0, .int .i64 0]) w := by kernel_rfl
theorem aawbld65_66110 (a4_0 : Int) (a5_0 : Int) (a7_0 : Int) (a8_0 : Bool) (a10_0 : Int) (a11_0 : Int) (a11_1 : Int) (a11_2 : Int) (a11_3 : Int) (a11_4 : Int) (a11_5 : Int) (w : World) : (Instr.build 65 #[(4, .int .u32 a4_0), (5, .int .i64 a5_0), (7, .int .i64 a7_0), (8, .bool a8_0), (10, .int .i64 a10_0), (11, .agg #[.int .u32 a11_0, .int .i64 a11_1, .int .i64 a11_2, .int .i64 a11_3, .int .i64 a11_4, .int .i64 a11_5])]).run Tryz.prog w = .ok (.agg #[.int .i64 0, .int .i64 0, .int .i64 0, .int .i64 0, .int .u32 a4_0, .int .i64 a5_0, .int .i64 0, .int .i64 a7_0, .bool a8_0, .bool false, .int .i64 a10_0, .int .u32 a11_0, .int .i64 a11_1, .int .i64 a11_2, .int .i64 a11_3, .int .i64 a11_4, .int .i64 a11_5]) w := by kernel_rfl
theorem aawbld65_18414 (a2_0 : Int) (a3_0 : Int) (a4_0 : Int) (a5_0 : Int) (a7_0 : Int) (a10_0 : Int) (w : World) : (Instr.build 65 #[(2, .int .i64 a2_0), (3, .int .i64 a3_0), (4, .int .u32 a4_0), (5, .int .i64 a5_0), (7, .int .i64 a7_0), (10, .int .i64 a10_0)]).run Tryz.prog w = .ok (.agg #[.int .i64 0, .int .i64 0, .int .i64 a2_0, .int .i64 a3_0, .int .u32 a4_0, .int .i64 a5_0, .int .i64 0, .int .i64 a7_0, .bool false, .bool false, .int .i64 a10_0, .int .u32 0, .int .i64 0, .int .i64 0, .int .i64 0, .int .i64 0, .int .i64 0]) w := by kernel_rfl
theorem aawbs23_3_88864 (a0_0 : Int) (a0_1 : Int) (a0_2 : Int) (a0_3 : Int) (a0_4 : Int) (a0_5 : Int) (a0_6 : Int) (a0_7 : Int) (a0_8 : Bool) (a0_9 : Bool) (a0_10 : Int) (a0_11 : Int) (a0_12 : Int) (a0_13 : Int) (a0_14 : Int) (a0_15 : Int) (a0_16 : Int) (a1_0 : Int) (a1_1 : Int) (a1_2 : Int) (a1_3 : Int) (a1_4 : Int) (a1_5 : Int) (a1_6 : Int) (a1_7 : Int) (a1_8 : Bool) (a1_9 : Bool) (a1_10 : Int) (a1_11 : Int) (a1_12 : Int) (a1_13 : Int) (a1_14 : Int) (a1_15 : Int) (a1_16 : Int) (a2_0 : Int) (a2_1 : Int) (a2_2 : Int) (a2_3 : Int) (a2_4 : Int) (a2_5 : Int) (a2_6 : Int) (a2_7 : Int) (a2_8 : Bool) (a2_9 : Bool) (a2_10 : Int) (a2_11 : Int) (a2_12 : Int) (a2_13 : Int) (a2_14 : Int) (a2_15 : Int) (a2_16 : Int) (w : World) : (Instr.buildSlice 23 3 #[(0, .agg #[.int .i64 a0_0, .int .i64 a0_1, .int .i64 a0_2, .int .i64 a0_3, .int .u32 a0_4, .int .i64 a0_5, .int .i64 a0_6, .int .i64 a0_7, .bool a0_8, .bool a0_9, .int .i64 a0_10, .int .u32 a0_11, .int .i64 a0_12, .int .i64 a0_13, .int .i64 a0_14, .int .i64 a0_15, .int .i64 a0_16]), (1, .agg #[.int .i64 a1_0, .int .i64 a1_1, .int .i64 a1_2, .int .i64 a1_3, .int .u32 a1_4, .int .i64 a1_5, .int .i64 a1_6, .int .i64 a1_7, .bool a1_8, .bool a1_9, .int .i64 a1_10, .int .u32 a1_11, .int .i64 a1_12, .int .i64 a1_13, .int .i64 a1_14, .int .i64 a1_15, .int .i64 a1_16]), (2, .agg #[.int .i64 a2_0, .int .i64 a2_1, .int .i64 a2_2, .int .i64 a2_3, .int .u32 a2_4, .int .i64 a2_5, .int .i64 a2_6, .int .i64 a2_7, .bool a2_8, .bool a2_9, .int .i64 a2_10, .int .u32 a2_11, .int .i64 a2_12, .int .i64 a2_13, .int .i64 a2_14, .int .i64 a2_15, .int .i64 a2_16])]).run Tryz.prog w = .ok (.slice (some ⟨w.heap.size, 0, none⟩) 3 3) (w.alloc (.cells [.int .i64 a0_0, .int .i64 a0_1, .int .i64 a0_2, .int .i64 a0_3, .int .u32 a0_4, .int .i64 a0_5, .int .i64 a0_6, .int .i64 a0_7, .bool a0_8, .bool a0_9, .int .i64 a0_10, .int .u32 a0_11, .int .i64 a0_12, .int .i64 a0_13, .int .i64 a0_14, .int .i64 a0_15, .int .i64 a0_16, .int .i64 a1_0, .int .i64 a1_1, .int .i64 a1_2, .int .i64 a1_3, .int .u32 a1_4, .int .i64 a1_5, .int .i64 a1_6, .int .i64 a1_7, .bool a1_8, .bool a1_9, .int .i64 a1_10, .int .u32 a1_11, .int .i64 a1_12, .int .i64 a1_13, .int .i64 a1_14, .int .i64 a1_15, .int .i64 a1_16, .int .i64 a2_0, .int .i64 a2_1, .int .i64 a2_2, .int .i64 a2_3, .int .u32 a2_4, .int .i64 a2_5, .int .i64 a2_6, .int .i64 a2_7, .bool a2_8, .bool a2_9, .int .i64 a2_10, .int .u32 a2_11, .int .i64 a2_12, .int .i64 a2_13, .int .i64 a2_14, .int .i64 a2_15, .int .i64 a2_16].toArray 65)) := by kernel_rfl
theorem aawbld28_57323 (a0_0 : Int) (a1_0 : Int) (a2_0 : Int) (w : World) : (Instr.build 28 #[(0, .int .i64 a0_0), (1, .int .i64 a1_0), (2, .int .i64 a2_0)]).run Tryz.prog w = .ok (.agg #[.int .i64 a0_0, .int .i64 a1_0, .int .i64 a2_0]) w := by kernel_rfl
theorem aawbld26_530  (w : World) : (Instr.build 26 #[]).run Tryz.prog w = .ok (.agg #[.slice none 0 0]) w := by kernel_rfl
theorem awake_true  (w : World) :
  Calls Tryz.prog 15 #[] w fun e w' => e = .returned (.bool true) ∧ Below w.heap.size w w' := by
 refine begin_ (vs := []) Tryz.func15 rfl rfl rfl ?_ (Pm.start w)
 refine zSG (TL.as_ ?_)
 refine zET (zSG ?_)
 refine TL.val rfl rfl rfl (gives_build (v := .agg #[.int .u32 9, .int .i64 3, .int .i64 0, .int .i64 0, .int .i64 0, .int .i64 0]) rfl rfl (fun w => aawbld63_27255 _ _ w)) ?_
 refine TL.val rfl rfl rfl (gives_build (v := .agg #[.int .i64 0, .int .i64 0, .int .i64 0, .int .i64 0, .int .u32 9, .int .i64 17, .int .i64 0, .int .i64 3, .bool true, .bool false, .int .i64 50, .int .u32 9, .int .i64 3, .int .i64 0, .int .i64 0, .int .i64 0, .int .i64 0]) rfl rfl (fun w => aawbld65_66110 _ _ _ _ _ _ _ _ _ _ _ w)) ?_
 refine TL.val rfl rfl rfl (gives_build (v := .agg #[.int .i64 0, .int .i64 0, .int .i64 1, .int .i64 60, .int .u32 9, .int .i64 17, .int .i64 0, .int .i64 3, .bool false, .bool false, .int .i64 70, .int .u32 0, .int .i64 0, .int .i64 0, .int .i64 0, .int .i64 0, .int .i64 0]) rfl rfl (fun w => aawbld65_18414 _ _ _ _ _ _ w)) ?_
 refine TL.val rfl rfl rfl (gives_build (v := .agg #[.int .i64 0, .int .i64 0, .int .i64 2, .int .i64 80, .int .u32 9, .int .i64 17, .int .i64 0, .int .i64 3, .bool false, .bool false, .int .i64 90, .int .u32 0, .int .i64 0, .int .i64 0, .int .i64 0, .int .i64 0, .int .i64 0]) rfl rfl (fun w => aawbld65_18414 _ _ _ _ _ _ w)) ?_
 refine TL.prowS (e := 65) (size := 17) (cs := flat Rs.cells awL) rfl rfl rfl rfl rfl (fun w => aawbs23_3_88864 _ _ _ _ _ _ _ _ _ _ _ _ _ _ _ _ _ _ _ _ _ _ _ _ _ _ _ _ _ _ _ _ _ _ _ _ _ _ _ _ _ _ _ _ _ _ _ _ _ _ _ w) (by decide) rfl (fun g9 => ?_)
 refine TL.as_ ?_
 refine zET (zSG ?_)
 refine TL.val rfl rfl rfl (gives_build (v := .agg #[.int .i64 2, .int .i64 1, .int .i64 1]) rfl rfl (fun w => aawbld28_57323 _ _ _ w)) ?_
 refine TL.pnew rfl rfl rfl (exec_alloc (cs := [.int .i64 0, .int .i64 0, .int .i64 0]) rfl adrzv28 rfl) (fun g2 => ?_)
 refine TL.pstore (k := 0) (vs := [.int .i64 2, .int .i64 1, .int .i64 1]) rfl rfl rfl rfl rfl rfl rfl aprsz28 adrone_i64i64i64 (by show 3 ≤ 3; decide) rfl ?_
 refine zET (zSG (TL.mv ?_))
 refine TL.val rfl rfl rfl (gives_build (v := .agg #[.slice none 0 0]) rfl rfl (fun w => aawbld26_530  w)) ?_
 refine TL.v (gV 0 (.agg #[.int .i64 2, .int .i64 1, .int .i64 1]) aprag28 aprsz28) ?_
 refine TL.pcallPm (α := {y : ((Option Addr × Nat) × List Rp) × Int // FndOk ([] : List En) awL (⟨2, 1, 1⟩ : Ru) y.1.2 y.2 ∧ y.1.2.length ≤ 100000000000 ∧ y.1.2.length ≤ y.1.1.2 ∧ y.1.1.2 ≤ maxLen}) (fun x => .tuple #[.slice x.1.1.1.1 x.1.1.2.length x.1.1.1.2, .int .i64 x.1.2]) (fun x => [.row (.slice x.1.1.1.1 x.1.1.2.length x.1.1.1.2) 34 8 x.1.1.2.length (flat Rp.cells x.1.1.2)]) rfl rfl rfl rfl rfl Tryz.func39 (by decide) rfl (fun w1 hw => fnd_any (some ⟨g9, 0, none⟩) 3 awL none 0 ([] : List En) (⟨2, 1, 1⟩ : Ru) w1 (pm_rd hw (k := 1) rfl) (by decide) awL_ok Reads.none_) ?_
 rintro ⟨⟨⟨⟨Afo, cfo⟩, fo⟩, efo⟩, hfo, hfol, hfoc, hfom⟩
 dsimp only [List.cons_append, List.nil_append]
 dsimp only at hfo hfol hfoc hfom ⊢
 obtain ⟨rfl, rfl⟩ := aw_fnd hfo
 have hlp : [awP].length = 1 := rfl
 have hlw : awL.length = 3 := rfl
 have hlt : (awL.take 2).length = 2 := rfl
 refine TL.rn 5 rfl (zET (zS (TC.fact (p := ∃ g, Afo = some ⟨g, 0, none⟩) (fun w1 hw => rowA hw (k := 0) rfl (by omega)) ?_)))
 rintro ⟨g_Afo, rfl⟩
 refine TC.quietP (by kernel_rfl) (by kernel_rfl) (fun w hw => hw.drawn _) ?_
 refine TQ.val rfl rfl rfl (gives_move rfl rfl) ?_
 refine TQ.val rfl rfl rfl (gives_bin rfl rfl rfl (fun w => bin_eql_t (rfl) w)) ?_
 refine TQ.rn 2 rfl (TQ.ov (gN Tryz.underlying49) ?_)
 refine TQ.on rfl rfl rfl ?_
 refine TQ.val rfl rfl rfl (gives_bin rfl rfl rfl (fun w => bin_eql_t (rfl) w)) ?_
 refine TQ.rn 3 rfl ?_
 refine TQ.on rfl rfl rfl ?_
 have hi27 : 0 < ([awP]).length := by simp
 obtain ⟨x27, hx27⟩ := ex_at hi27
 have hx27e : x27 = awP := (Option.some.inj hx27).symm
 refine TQ.val rfl rfl rfl (gA (i := 0) Tryz.underlying49 abrsz34 rfl rfl rfl rfl rfl (by omega)) ?_
 refine TQ.ov (gF arpfld34_0) ?_
 refine TQ.on rfl rfl rfl ?_
 refine TQ.val rfl rfl rfl (gives_load (v := .int .i64 x27.kind) rfl rfl pcmag3 (fun w1 hw => flat_row rp_cel hw (q := 0) rfl hx27 0 _ rfl)) ?_
 refine TQ.on rfl rfl rfl ?_
 refine TQ.val rfl rfl rfl (gives_bin rfl rfl rfl (fun w => bin_eql_t (by rw [hx27e]; rfl) w)) ?_
 refine TQ.rn 3 rfl ?_
 refine TQ.on rfl rfl rfl ?_
 refine TQ.val rfl rfl rfl (gA (i := 0) Tryz.underlying49 abrsz34 rfl rfl rfl rfl rfl (by omega)) ?_
 refine TQ.ov (gF arpfld34_4) ?_
 refine TQ.on rfl rfl rfl ?_
 refine TQ.val rfl rfl rfl (gives_load (v := .int .i64 x27.at_) rfl rfl pcmag3 (fun w1 hw => flat_row rp_cel hw (q := 0) rfl hx27 6 _ rfl)) ?_
 refine TQ.on rfl rfl rfl ?_
 refine TQ.val rfl rfl rfl (gives_bin rfl rfl rfl (fun w => bin_eql_t (by rw [hx27e]; rfl) w)) ?_
 refine TQ.rn 3 rfl ?_
 refine TQ.on rfl rfl rfl ?_
 refine TQ.val rfl rfl rfl (gA (i := 0) Tryz.underlying49 abrsz34 rfl rfl rfl rfl rfl (by omega)) ?_
 refine TQ.on rfl rfl rfl ?_
 refine TQ.val rfl rfl rfl (gives_loadR (off := 0 + 0 * 8) rfl rfl abrag34 abrsz34 (rp_cel.len x27) (fun w1 hw j9 u9 h9 => flat_row rp_cel hw (q := 0) rfl hx27 j9 u9 h9)) ?_
 refine TQ.on rfl rfl rfl ?_
 refine TQ.call (v := .bool true) rfl rfl rfl rfl rfl Tryz.func27 (by decide) rfl (fun w1 hw => (calls_b (vldRp_any x27 w1) (by rw [hx27e]; decide +kernel)).mono fun en w2 ⟨h1, h2⟩ => ⟨h1, hw.below h2⟩) ?_
 refine TQ.rn 3 rfl ?_
 refine TQ.on rfl rfl rfl ?_
 refine TQ.val rfl rfl rfl (gives_build (v := .agg #[.slice none 0 0]) rfl rfl (fun w => aawbld26_530  w)) ?_
 refine TQ.ov (gV 1 (.agg #[.int .i64 2, .int .i64 1, .int .i64 1]) aprag28 aprsz28) ?_
 refine TQ.rn 1 rfl ?_
 refine TQ.on rfl rfl rfl ?_
 refine TQ.val rfl rfl rfl (gA (i := 0) Tryz.underlying49 abrsz34 rfl rfl rfl rfl rfl (by omega)) ?_
 refine TQ.on rfl rfl rfl ?_
 refine TQ.val rfl rfl rfl (gives_loadR (off := 0 + 0 * 8) rfl rfl abrag34 abrsz34 (rp_cel.len x27) (fun w1 hw j9 u9 h9 => flat_row rp_cel hw (q := 0) rfl hx27 j9 u9 h9)) ?_
 refine TQ.on rfl rfl rfl ?_
 refine TQ.call (v := .bool true) rfl rfl rfl rfl rfl Tryz.func37 (by decide) rfl (fun w1 hw => (calls_t (proves_any (some ⟨g9, 0, none⟩) 3 awL none 0 ([] : List En) (⟨2, 1, 1⟩ : Ru) x27 w1 (pm_rd hw (k := 2) rfl) (by decide) awL_ok Reads.none_) (by rw [hx27e]; exact aw_pr)).mono fun en w2 ⟨h1, h2⟩ => ⟨h1, hw.below h2⟩) ?_
 refine TQ.rn 3 rfl ?_
 refine TQ.on rfl rfl rfl ?_
 refine TQ.val rfl rfl rfl (gives_sliceH (v := .slice (some ⟨g9, 0, none⟩) 2 3) rfl rfl rfl (fun w => cut_hi Tryz.underlying23 prssz65 _ _ _ 2 rfl (by omega) w)) ?_
 refine TQ.on rfl rfl rfl ?_
 refine TQ.val rfl rfl rfl (gives_build (v := .agg #[.slice none 0 0]) rfl rfl (fun w => aawbld26_530  w)) ?_
 refine TQ.ov (gV 1 (.agg #[.int .i64 2, .int .i64 1, .int .i64 1]) aprag28 aprsz28) ?_
 refine TQ.rn 1 rfl ?_
 refine TQ.on rfl rfl rfl ?_
 refine TQ.val rfl rfl rfl (gA (i := 0) Tryz.underlying49 abrsz34 rfl rfl rfl rfl rfl (by omega)) ?_
 refine TQ.on rfl rfl rfl ?_
 refine TQ.val rfl rfl rfl (gives_loadR (off := 0 + 0 * 8) rfl rfl abrag34 abrsz34 (rp_cel.len x27) (fun w1 hw j9 u9 h9 => flat_row rp_cel hw (q := 0) rfl hx27 j9 u9 h9)) ?_
 refine TQ.on rfl rfl rfl ?_
 refine TQ.call (v := .bool false) rfl rfl rfl rfl rfl Tryz.func37 (by decide) rfl (fun w1 hw => (calls_f (proves_any (some ⟨g9, 0, none⟩) 3 (awL.take 2) none 0 ([] : List En) (⟨2, 1, 1⟩ : Ru) x27 w1 (Reads.headF rs_cel (pm_rd hw (k := 2) rfl) (by omega)) (by decide) awT_ok Reads.none_) (by rw [hx27e]; exact aw_pr2)).mono fun en w2 ⟨h1, h2⟩ => ⟨h1, hw.below h2⟩) ?_
 refine TQ.rn 3 rfl (TQ.ov (gV 1 (.agg #[.int .i64 2, .int .i64 1, .int .i64 1]) aprag28 aprsz28) ?_)
 refine TQ.on rfl rfl rfl ?_
 refine TQ.call (v := .bool true) rfl rfl rfl rfl rfl Tryz.func24 (by decide) rfl (fun w1 hw => (calls_b (vldRu_any awU w1) (by decide +kernel)).mono fun en w2 ⟨h1, h2⟩ => ⟨h1, hw.below h2⟩) ?_
 refine TQ.rn 2 rfl ?_
 refine TQ.fin ?_
 refine zT (zr ?_)
 exact ret_tmp Tryz.results15 rfl (fun w1 hw => ⟨rfl, hw.bel⟩)
set_option maxRecDepth 20000
section
variable {y : List Rs} {t ttl : Int} {i : Nat} {x : Rs} {o : List Int}
theorem atL_take (hx : y[i]? = some x) : atL (y.take (i + 1)) ttl = if x.ans = true ∧ x.ttl = ttl then atL (y.take i) ttl ++ [x] else atL (y.take i) ttl := by
 unfold atL
 rw [List.take_add_one, hx, List.filter_append]
 by_cases h : x.ans = true ∧ x.ttl = ttl
 ·rw [if_pos h]; simp [h]
 rw [if_neg h]
 have : (x.ans && decide (x.ttl = ttl)) = false := by simpa using h
 simp [this]
theorem eaL_snoc (l : List Rs) (x : Rs) (t : Int) : eaL (l ++ [x]) t = if x.back < t then eaL l t ++ [x.back - x.at_] else eaL l t := by
 unfold eaL
 rw [List.filter_append, List.map_append]
 split
 ·rename_i h; simp [h]
 rename_i h; simp [h]
theorem laL_snoc (l : List Rs) (x : Rs) (t : Int) : laL (l ++ [x]) t = if ¬ x.back < t ∧ t ≤ x.at_ then laL l t ++ [x.back - x.at_] else laL l t := by
 unfold laL
 rw [List.filter_append, List.map_append]
 split
 ·rename_i h; simp [h]
 rename_i h
 have : (!decide (x.back < t) && decide (t ≤ x.at_)) = false := by simpa using h
 simp [this]
theorem ear_skip (hx : y[i]? = some x) (h : ¬ (x.ans = true ∧ x.ttl = ttl)) (ho : eaL (atL (y.take i) ttl) t = o) : eaL (atL (y.take (i + 1)) ttl) t = o := by rw [atL_take hx, if_neg h]; exact ho
theorem lar_skip (hx : y[i]? = some x) (h : ¬ (x.ans = true ∧ x.ttl = ttl)) (ho : laL (atL (y.take i) ttl) t = o) : laL (atL (y.take (i + 1)) ttl) t = o := by rw [atL_take hx, if_neg h]; exact ho
theorem ear_t (hx : y[i]? = some x) (h : x.ans = true ∧ x.ttl = ttl) (h1 : x.back < t) (ho : eaL (atL (y.take i) ttl) t = o) : eaL (atL (y.take (i + 1)) ttl) t = o ++ [x.back - x.at_] := by rw [atL_take hx, if_pos h, eaL_snoc, if_pos h1, ho]
theorem ear_f (hx : y[i]? = some x) (h : x.ans = true ∧ x.ttl = ttl) (h1 : ¬ x.back < t) (ho : eaL (atL (y.take i) ttl) t = o) : eaL (atL (y.take (i + 1)) ttl) t = o := by rw [atL_take hx, if_pos h, eaL_snoc, if_neg h1, ho]
theorem lar_t (hx : y[i]? = some x) (h : x.ans = true ∧ x.ttl = ttl) (hr : x.at_ ≤ x.back) (h1 : x.at_ ≥ t) (ho : laL (atL (y.take i) ttl) t = o) : laL (atL (y.take (i + 1)) ttl) t = o ++ [x.back - x.at_] := by rw [atL_take hx, if_pos h, laL_snoc, if_pos ⟨by omega, h1⟩, ho]
theorem lar_f (hx : y[i]? = some x) (h : x.ans = true ∧ x.ttl = ttl) (h1 : ¬ x.at_ ≥ t) (ho : laL (atL (y.take i) ttl) t = o) : laL (atL (y.take (i + 1)) ttl) t = o := by rw [atL_take hx, if_pos h, laL_snoc, if_neg (fun h2 => h1 h2.2), ho]
end
theorem fcnt_t {p : Int → Bool} {l : List Int} {i c : Nat} {x : Int} (hx : l[i]? = some x) (h : p x = true) (hc : ((l.take i).filter p).length = c) : ((l.take (i + 1)).filter p).length = c + 1 := by
 rw [List.take_add_one, hx, List.filter_append, List.length_append, hc]
 simp [h]
theorem fcnt_f {p : Int → Bool} {l : List Int} {i c : Nat} {x : Int} (hx : l[i]? = some x) (h : p x = false) (hc : ((l.take i).filter p).length = c) : ((l.take (i + 1)).filter p).length = c := by
 rw [List.take_add_one, hx, List.filter_append, List.length_append, hc]
 simp [h]
theorem usb_in {r : Rs} (h : usbRs r = true) : r.inRange := by
 unfold usbRs at h
 simp only [Bool.and_eq_true] at h
 exact vld_in h.2
theorem rcongestion_any (A0 : Option Addr) (c0 : Nat) (l : List Rs) (u : Ru) (p : Rp) (w : World) (hr : Reads w w.heap.size 17 A0 l.length (flat Rs.cells l)) (hl1 : l.length ≤ 100000) (hok : ∀ r ∈ l, r.Ok) :
  Calls Tryz.prog 32 #[.slice A0 l.length c0, .agg u.cells.toArray, .agg p.cells.toArray] w fun e w' => ∃ x : {b : Bool // b = true ↔ CgP l u p}, e = .returned (.bool x.1) ∧ Below w.heap.size w w' := by
 refine begin_ (vs := [.slice A0 l.length c0, .agg u.cells.toArray, .agg p.cells.toArray]) Tryz.func32 rfl rfl rfl ?_ (Pm.start w)
 refine zSG ?_
 refine TL.pnew rfl rfl rfl (exec_box (cs := u.cells) rfl rfl rfl) (fun g4 => ?_)
 refine TL.pnew rfl rfl rfl (exec_box (cs := p.cells) rfl rfl rfl) (fun g5 => ?_)
 refine TL.as_ ?_
 refine zET (zS (zSG (TL.v (gF arpfld34_0) ?_)))
 refine TL.v (gL 0 pcmag3) ?_
 refine TL.sp bin_neq (fun q18 => ?_) (fun q18 => ?_)
 ·refine zET (zc (zSG (TL.as_ ?_)))
  refine zET (zr (zR ?_))
  have hres : false = true ↔ CgP l u p := ⟨fun h => (by cases h), fun h => absurd h.1 q18⟩
  exact ret_tmp Tryz.results32 rfl (fun w1 hw => ⟨⟨false, hres⟩, rfl, hw.bel⟩)
 refine zET (zd (zk (zT (zS (zSG (TL.v (gF arpfld28_2) ?_))))))
 refine TL.v (gL 1 pcmag3) ?_
 refine TL.sp bin_lss (fun q21 => ?_) (fun q21 => ?_)
 ·refine zET (zc (zSG (TL.as_ ?_)))
  refine zET (zr (zR ?_))
  have hres : true = true ↔ CgP l u p := ⟨fun _ => ⟨Decidable.not_not.1 q18, .inl q21⟩, fun _ => rfl⟩
  exact ret_tmp Tryz.results32 rfl (fun w1 hw => ⟨⟨true, hres⟩, rfl, hw.bel⟩)
 refine zET (zd (zk (zT (zSG (TL.rn 2 rfl (zET (zSG (TL.mv ?_))))))))
 refine TL.v (gV 0 (.agg (p.cells).toArray) abrag34 abrsz34) ?_
 refine TL.pcallPm (α := {y : (Option Addr × Nat) × List Rs // IsSt l p.trc p.flow y.2 ∧ y.2.length ≤ y.1.2 ∧ y.1.2 ≤ maxLen}) (fun x => .slice x.1.1.1 x.1.2.length x.1.1.2) (fun x => [.row (.slice x.1.1.1 x.1.2.length x.1.1.2) 65 17 x.1.2.length (flat Rs.cells x.1.2)]) rfl rfl rfl rfl rfl Tryz.func74 (by decide) rfl (fun w1 hw => about_any A0 c0 l p w1 (hr.up hw.bel) hl1 hok) ?_
 rintro ⟨⟨⟨R24, rc24⟩, st24⟩, hP24, hR241, hR242⟩
 dsimp only [List.cons_append, List.nil_append]
 dsimp only at hP24 hR241 hR242 ⊢
 refine TL.as_ ?_
 refine zET (zS (zS ?_))
 have hol := hP24.le
 refine zG (TL.as_ ?_)
 refine zET (zB (TC.nilrow 3 1 ?_))
 refine TC.nilrow 3 1 ?_
 refine TC.loop_ (α := {y : Nat × (Option Addr × Nat) × (Option Addr × Nat) × List Int × List Int // y.1 ≤ st24.length ∧ eaL (atL (st24.take y.1) p.ttl) p.at_ = y.2.2.2.1 ∧ laL (atL (st24.take y.1) p.ttl) p.at_ = y.2.2.2.2 ∧ y.2.2.2.1.length ≤ y.1 ∧ y.2.2.2.2.length ≤ y.1 ∧ y.2.2.2.1.length ≤ y.2.1.2 ∧ y.2.1.2 ≤ maxLen ∧ y.2.2.2.2.length ≤ y.2.2.1.2 ∧ y.2.2.1.2 ≤ maxLen}) (fun y => [(4, .pointer (some ⟨g4, 0, none⟩)), (5, .pointer (some ⟨g5, 0, none⟩)), (6, .bool false), (9, .slice R24 st24.length rc24), (10, .int .i64 ((y.1.1 : Nat) : Int)), (7, .slice y.1.2.1.1 y.1.2.2.2.1.length y.1.2.1.2), (8, .slice y.1.2.2.1.1 y.1.2.2.2.2.length y.1.2.2.1.2)]) (fun y => Pm w [.row (.slice y.1.2.1.1 y.1.2.2.2.1.length y.1.2.1.2) 3 1 y.1.2.2.2.1.length (flat (ic .i64) y.1.2.2.2.1), .row (.slice y.1.2.2.1.1 y.1.2.2.2.2.length y.1.2.2.1.2) 3 1 y.1.2.2.2.2.length (flat (ic .i64) y.1.2.2.2.2), .row (.slice R24 st24.length rc24) 65 17 st24.length (flat Rs.cells st24), .blk g5 34 p.cells, .blk g4 28 u.cells]) (fun y => st24.length - y.1.1) (⟨(0, (none, 0), (none, 0), [], []), Nat.zero_le _, rfl, rfl, Nat.le_refl _, Nat.le_refl _, Nat.le_refl _, Nat.zero_le _, Nat.le_refl _, Nat.zero_le _⟩) ⟨rfl, rfl, rfl, rfl, rfl, rfl, rfl, trivial⟩ (fun w1 hw => hw) ?_
 rintro ⟨⟨i, ⟨Ae, ce⟩, ⟨Al, cl⟩, ea, la⟩, hi, hE, hL, hel, hll, hc1, hc2, hc3, hc4⟩
 dsimp only at hi hE hL hel hll hc1 hc2 hc3 hc4 ⊢
 refine zS (zSG (TL.rn 2 rfl (TL.v (gN Tryz.underlying23) ?_)))
 refine TL.sp bin_lss (fun q28 => ?_) (fun q28 => ?_)
 ·refine zET (zc (zk (zT (zS (zB (zS (zS (TC.fact (p := ∃ g, R24 = some ⟨g, 0, none⟩) (fun w1 hw => rowA hw (k := 2) rfl (by omega)) ?_))))))))
  rintro ⟨g_R24, rfl⟩
  refine TC.quietQ (by kernel_rfl) (by kernel_rfl) (fun w hw => hw.drawn _) ?_
  refine TQ.rn 2 rfl ?_
  have hi33 : i < st24.length := by omega
  obtain ⟨x33, hx33⟩ := ex_at hi33
  have hin33 := usb_in ((hP24.mem x33).1 (List.mem_of_getElem? hx33)).2.2.1
  unfold Rs.inRange at hin33
  refine TQ.val rfl rfl rfl (gA (i := i) Tryz.underlying23 prssz65 rfl rfl rfl rfl rfl (by omega)) ?_
  refine TQ.v (gF prsfld65_8) ?_
  refine TQ.vsplit rfl rfl rfl (gives_load (v := .bool x33.ans) rfl rfl prsag4 (fun w1 hw => flat_row rs_cel hw (q := 2) rfl hx33 8 _ rfl)) (fun h35 => ?_) (fun h35 => ?_)
  ·refine TQ.rn 4 rfl ?_
   refine TQ.on rfl rfl rfl ?_
   refine TQ.val rfl rfl rfl (gA (i := i) Tryz.underlying23 prssz65 rfl rfl rfl rfl rfl (by omega)) ?_
   refine TQ.ov (gF prsfld65_7) ?_
   refine TQ.on rfl rfl rfl ?_
   refine TQ.val rfl rfl rfl (gives_load (v := .int .i64 x33.ttl) rfl rfl pcmag3 (fun w1 hw => flat_row rs_cel hw (q := 2) rfl hx33 7 _ rfl)) ?_
   refine TQ.ov (gF arpfld34_3) ?_
   refine TQ.ov (gL 3 pcmag3) ?_
   refine TQ.on rfl rfl rfl ?_
   refine TQ.sp bin_neq (fun q45 => ?_) (fun q45 => ?_)
   ·refine TQ.val rfl rfl rfl (gives_pick rfl rfl rfl) ?_
    refine TQ.fin ?_
    refine zT (zc (zx (zX (zM (zT (zG (TL.mv ?_)))))))
    refine TL.v (gD ((i + 1 : Nat) : Int)) ?_
    refine TL.as_ ?_
    refine zE ?_
    exact TX.round (⟨(i + 1, (Ae, ce), (Al, cl), ea, la), by dsimp only; omega, ear_skip hx33 (fun h => q45 h.2) hE, lar_skip hx33 (fun h => q45 h.2) hL, by dsimp only; omega, by dsimp only; omega, hc1, hc2, hc3, hc4⟩) (by show st24.length - (i + 1) < st24.length - i; omega) ⟨rfl, rfl, rfl, rfl, rfl, rfl, rfl, trivial⟩ (fun w1 hw => hw)
   refine TQ.val rfl rfl rfl (gives_pick rfl rfl rfl) ?_
   refine TQ.fin ?_
   refine zT (zd (zk (zT (zS (zS (TC.quietQ (by kernel_rfl) (by kernel_rfl) (fun w hw => hw.drawn _) ?_))))))
   refine TQ.rn 2 rfl ?_
   refine TQ.val rfl rfl rfl (gA (i := i) Tryz.underlying23 prssz65 rfl rfl rfl rfl rfl (by omega)) ?_
   refine TQ.v (gF prsfld65_10) ?_
   refine TQ.val rfl rfl rfl (gives_load (v := .int .i64 x33.back) rfl rfl pcmag3 (fun w1 hw => flat_row rs_cel hw (q := 2) rfl hx33 10 _ rfl)) ?_
   refine TQ.v (gF arpfld34_4) ?_
   refine TQ.v (gL 3 pcmag3) ?_
   refine TQ.sp bin_lss (fun q54 => ?_) (fun q54 => ?_)
   ·refine TQ.fin ?_
    refine zT (zc (TC.held (ls := #[Ff,Ff,Ff,Ff,Ff,Ff,Ff,Ff,Ff,Ff,Ff,Ff,Ff,Ff,Ff]) (Pm w [.row (.slice (some ⟨g_R24, 0, none⟩) st24.length rc24) 65 17 st24.length (flat Rs.cells st24), .blk g5 34 p.cells, .blk g4 28 u.cells]) (by kernel_rfl) rfl rfl (fun w hw => hw.drawn _) ?_))
    refine TH.tk 0 rfl rfl rfl (gives_move rfl rfl) (fun w1 hw => hw.pick [2, 3, 4] (by decide) rfl) ?_
    refine TH.tk 1 rfl rfl rfl (gives_move rfl rfl) (fun w1 hw => hw.pick [2, 3, 4] (by decide) rfl) ?_
    refine TH.tk 2 rfl rfl rfl (gives_move rfl rfl) (fun w1 hw => hw.pick [2, 3, 4] (by decide) rfl) ?_
    refine TH.tk 3 rfl rfl rfl (gA (i := i) Tryz.underlying23 prssz65 rfl rfl rfl rfl rfl (by omega)) (fun w1 hw => hw.pick [2, 3, 4] (by decide) rfl) ?_
    refine TH.tk 4 rfl rfl rfl (gF prsfld65_10) (fun w1 hw => hw.pick [2, 3, 4] (by decide) rfl) ?_
    refine TH.tk 5 rfl rfl rfl (gives_load (v := .int .i64 x33.back) rfl rfl pcmag3 (fun w1 hw => flat_row rs_cel hw (q := 0) rfl hx33 10 _ rfl)) (fun w1 hw => hw.pick [2, 3, 4] (by decide) rfl) ?_
    refine TH.tk 6 rfl rfl rfl (gives_move rfl rfl) (fun w1 hw => hw.pick [2, 3, 4] (by decide) rfl) ?_
    refine TH.tk 7 rfl rfl rfl (gives_move rfl rfl) (fun w1 hw => hw.pick [2, 3, 4] (by decide) rfl) ?_
    refine TH.tk 8 rfl rfl rfl (gA (i := i) Tryz.underlying23 prssz65 rfl rfl rfl rfl rfl (by omega)) (fun w1 hw => hw.pick [2, 3, 4] (by decide) rfl) ?_
    refine TH.tk 9 rfl rfl rfl (gF prsfld65_3) (fun w1 hw => hw.pick [2, 3, 4] (by decide) rfl) ?_
    refine TH.tk 10 rfl rfl rfl (gives_load (v := .int .i64 x33.at_) rfl rfl pcmag3 (fun w1 hw => flat_row rs_cel hw (q := 0) rfl hx33 3 _ rfl)) (fun w1 hw => hw.pick [2, 3, 4] (by decide) rfl) ?_
    refine TH.tk 11 rfl rfl rfl (gives_bin rfl rfl rfl (fun w => bin_sub_ (r := x33.back - x33.at_) (by simp only [IntKind.wrap_i64]; omega) w)) (fun w1 hw => hw.pick [2, 3, 4] (by decide) rfl) ?_
    refine TH.only' 12 rfl (by kernel_rfl) rfl ?_
    refine TL.prowS (e := 3) (size := 1) (cs := flat (ic .i64) [x33.back - x33.at_]) rfl rfl rfl rfl rfl (fun w => adtbs106_1_5377 _ w) (by decide) rfl (fun g67 => ?_)
    refine zE ?_
    refine TX.held (fun w1 hw => hw.pick [3, 4, 5] (by decide) rfl) ?_
    refine TH.only' 13 rfl (by kernel_rfl) rfl ?_
    refine TL.appendT (k := 1) rfl rfl rfl rfl Tryz.underlying106 adtel106 rfl rfl rfl (fun w1 hw => pm_reads hw (k := 0) rfl) (flat_one (ic_cel .i64) _) (by show _ * 8 ≤ _; omega) ((ea ++ [x33.back - x33.at_]).length) (by rw [List.length_append]; rfl) (flat (ic .i64) (ea ++ [x33.back - x33.at_])) ((flat_app _ _).symm) (fun A68 c68 hA681 hA682 => ?_)
    refine zE ?_
    refine TX.he (fun w1 hw => hw.pick [3, 4, 5] (by decide) rfl) fun hS => ?_
    refine TH.t 14 rfl (gives_assign rfl rfl) hS ?_
    refine TH.done (by kernel_rfl) ?_
    refine zT (zS (TC.quietQ (by kernel_rfl) (by kernel_rfl) (fun w hw => hw.drawn _) ?_))
    refine TQ.rn 2 rfl ?_
    refine TQ.val rfl rfl rfl (gA (i := i) Tryz.underlying23 prssz65 rfl rfl rfl rfl rfl (by omega)) ?_
    refine TQ.v (gF prsfld65_3) ?_
    refine TQ.val rfl rfl rfl (gives_load (v := .int .i64 x33.at_) rfl rfl pcmag3 (fun w1 hw => flat_row rs_cel hw (q := 3) rfl hx33 3 _ rfl)) ?_
    refine TQ.v (gF arpfld34_4) ?_
    refine TQ.v (gL 4 pcmag3) ?_
    refine TQ.sp bin_geq (fun q76 => ?_) (fun q76 => ?_)
    ·refine TQ.fin ?_
     refine zT (zc (TC.held (ls := #[Ff,Ff,Ff,Ff,Ff,Ff,Ff,Ff,Ff,Ff,Ff,Ff,Ff,Ff,Ff]) (Pm w [.row (.slice (some ⟨g_R24, 0, none⟩) st24.length rc24) 65 17 st24.length (flat Rs.cells st24), .blk g5 34 p.cells, .blk g4 28 u.cells]) (by kernel_rfl) rfl rfl (fun w hw => hw.drawn _) ?_))
     refine TH.tk 0 rfl rfl rfl (gives_move rfl rfl) (fun w1 hw => hw.pick [3, 4, 5] (by decide) rfl) ?_
     refine TH.tk 1 rfl rfl rfl (gives_move rfl rfl) (fun w1 hw => hw.pick [3, 4, 5] (by decide) rfl) ?_
     refine TH.tk 2 rfl rfl rfl (gives_move rfl rfl) (fun w1 hw => hw.pick [3, 4, 5] (by decide) rfl) ?_
     refine TH.tk 3 rfl rfl rfl (gA (i := i) Tryz.underlying23 prssz65 rfl rfl rfl rfl rfl (by omega)) (fun w1 hw => hw.pick [3, 4, 5] (by decide) rfl) ?_
     refine TH.tk 4 rfl rfl rfl (gF prsfld65_10) (fun w1 hw => hw.pick [3, 4, 5] (by decide) rfl) ?_
     refine TH.tk 5 rfl rfl rfl (gives_load (v := .int .i64 x33.back) rfl rfl pcmag3 (fun w1 hw => flat_row rs_cel hw (q := 0) rfl hx33 10 _ rfl)) (fun w1 hw => hw.pick [3, 4, 5] (by decide) rfl) ?_
     refine TH.tk 6 rfl rfl rfl (gives_move rfl rfl) (fun w1 hw => hw.pick [3, 4, 5] (by decide) rfl) ?_
     refine TH.tk 7 rfl rfl rfl (gives_move rfl rfl) (fun w1 hw => hw.pick [3, 4, 5] (by decide) rfl) ?_
     refine TH.tk 8 rfl rfl rfl (gA (i := i) Tryz.underlying23 prssz65 rfl rfl rfl rfl rfl (by omega)) (fun w1 hw => hw.pick [3, 4, 5] (by decide) rfl) ?_
     refine TH.tk 9 rfl rfl rfl (gF prsfld65_3) (fun w1 hw => hw.pick [3, 4, 5] (by decide) rfl) ?_
     refine TH.tk 10 rfl rfl rfl (gives_load (v := .int .i64 x33.at_) rfl rfl pcmag3 (fun w1 hw => flat_row rs_cel hw (q := 0) rfl hx33 3 _ rfl)) (fun w1 hw => hw.pick [3, 4, 5] (by decide) rfl) ?_
     refine TH.tk 11 rfl rfl rfl (gives_bin rfl rfl rfl (fun w => bin_sub_ (r := x33.back - x33.at_) (by simp only [IntKind.wrap_i64]; omega) w)) (fun w1 hw => hw.pick [3, 4, 5] (by decide) rfl) ?_
     refine TH.only' 12 rfl (by kernel_rfl) rfl ?_
     refine TL.prowS (e := 3) (size := 1) (cs := flat (ic .i64) [x33.back - x33.at_]) rfl rfl rfl rfl rfl (fun w => adtbs106_1_5377 _ w) (by decide) rfl (fun g89 => ?_)
     refine zE ?_
     refine TX.held (fun w1 hw => hw.pick [4, 5, 6] (by decide) rfl) ?_
     refine TH.only' 13 rfl (by kernel_rfl) rfl ?_
     refine TL.appendT (k := 3) rfl rfl rfl rfl Tryz.underlying106 adtel106 rfl rfl rfl (fun w1 hw => pm_reads hw (k := 0) rfl) (flat_one (ic_cel .i64) _) (by show _ * 8 ≤ _; omega) ((la ++ [x33.back - x33.at_]).length) (by rw [List.length_append]; rfl) (flat (ic .i64) (la ++ [x33.back - x33.at_])) ((flat_app _ _).symm) (fun A90 c90 hA901 hA902 => ?_)
     refine zE ?_
     refine TX.he (fun w1 hw => hw.pick [4, 5, 6] (by decide) rfl) fun hS => ?_
     refine TH.t 14 rfl (gives_assign rfl rfl) hS ?_
     refine TH.done (by kernel_rfl) ?_
     refine zN (zT (zG (TL.mv ?_)))
     refine TL.v (gD ((i + 1 : Nat) : Int)) ?_
     refine TL.as_ ?_
     refine zE ?_
     exact TX.round (⟨(i + 1, (A68, c68), (A90, c90), ea ++ [x33.back - x33.at_], la ++ [x33.back - x33.at_]), by dsimp only; omega, ear_t hx33 ⟨h35, by omega⟩ q54 hE, lar_t hx33 ⟨h35, by omega⟩ (by omega) q76 hL, by dsimp only; rw [List.length_append]; show ea.length + 1 ≤ _; omega, by dsimp only; rw [List.length_append]; show la.length + 1 ≤ _; omega, hA681, hA682, hA901, hA902⟩) (by show st24.length - (i + 1) < st24.length - i; omega) ⟨rfl, rfl, rfl, rfl, rfl, rfl, rfl, trivial⟩ (fun w1 hw => hw.pick [2, 3, 4, 5, 6] (by decide) rfl)
    refine TQ.fin ?_
    refine zT (zd (zk (zN (zT (zG (TL.mv ?_))))))
    refine TL.v (gD ((i + 1 : Nat) : Int)) ?_
    refine TL.as_ ?_
    refine zE ?_
    exact TX.round (⟨(i + 1, (A68, c68), (Al, cl), ea ++ [x33.back - x33.at_], la), by dsimp only; omega, ear_t hx33 ⟨h35, by omega⟩ q54 hE, lar_f hx33 ⟨h35, by omega⟩ q76 hL, by dsimp only; rw [List.length_append]; show ea.length + 1 ≤ _; omega, by dsimp only; omega, hA681, hA682, hc3, hc4⟩) (by show st24.length - (i + 1) < st24.length - i; omega) ⟨rfl, rfl, rfl, rfl, rfl, rfl, rfl, trivial⟩ (fun w1 hw => hw.pick [1, 2, 3, 4, 5] (by decide) rfl)
   refine TQ.fin ?_
   refine zT (zd (zk (zT (zS (TC.quietQ (by kernel_rfl) (by kernel_rfl) (fun w hw => hw.drawn _) ?_)))))
   refine TQ.rn 2 rfl ?_
   refine TQ.val rfl rfl rfl (gA (i := i) Tryz.underlying23 prssz65 rfl rfl rfl rfl rfl (by omega)) ?_
   refine TQ.v (gF prsfld65_3) ?_
   refine TQ.val rfl rfl rfl (gives_load (v := .int .i64 x33.at_) rfl rfl pcmag3 (fun w1 hw => flat_row rs_cel hw (q := 2) rfl hx33 3 _ rfl)) ?_
   refine TQ.v (gF arpfld34_4) ?_
   refine TQ.v (gL 3 pcmag3) ?_
   refine TQ.sp bin_geq (fun q76 => ?_) (fun q76 => ?_)
   ·refine TQ.fin ?_
    refine zT (zc (TC.held (ls := #[Ff,Ff,Ff,Ff,Ff,Ff,Ff,Ff,Ff,Ff,Ff,Ff,Ff,Ff,Ff]) (Pm w [.row (.slice (some ⟨g_R24, 0, none⟩) st24.length rc24) 65 17 st24.length (flat Rs.cells st24), .blk g5 34 p.cells, .blk g4 28 u.cells]) (by kernel_rfl) rfl rfl (fun w hw => hw.drawn _) ?_))
    refine TH.tk 0 rfl rfl rfl (gives_move rfl rfl) (fun w1 hw => hw.pick [2, 3, 4] (by decide) rfl) ?_
    refine TH.tk 1 rfl rfl rfl (gives_move rfl rfl) (fun w1 hw => hw.pick [2, 3, 4] (by decide) rfl) ?_
    refine TH.tk 2 rfl rfl rfl (gives_move rfl rfl) (fun w1 hw => hw.pick [2, 3, 4] (by decide) rfl) ?_
    refine TH.tk 3 rfl rfl rfl (gA (i := i) Tryz.underlying23 prssz65 rfl rfl rfl rfl rfl (by omega)) (fun w1 hw => hw.pick [2, 3, 4] (by decide) rfl) ?_
    refine TH.tk 4 rfl rfl rfl (gF prsfld65_10) (fun w1 hw => hw.pick [2, 3, 4] (by decide) rfl) ?_
    refine TH.tk 5 rfl rfl rfl (gives_load (v := .int .i64 x33.back) rfl rfl pcmag3 (fun w1 hw => flat_row rs_cel hw (q := 0) rfl hx33 10 _ rfl)) (fun w1 hw => hw.pick [2, 3, 4] (by decide) rfl) ?_
    refine TH.tk 6 rfl rfl rfl (gives_move rfl rfl) (fun w1 hw => hw.pick [2, 3, 4] (by decide) rfl) ?_
    refine TH.tk 7 rfl rfl rfl (gives_move rfl rfl) (fun w1 hw => hw.pick [2, 3, 4] (by decide) rfl) ?_
    refine TH.tk 8 rfl rfl rfl (gA (i := i) Tryz.underlying23 prssz65 rfl rfl rfl rfl rfl (by omega)) (fun w1 hw => hw.pick [2, 3, 4] (by decide) rfl) ?_
    refine TH.tk 9 rfl rfl rfl (gF prsfld65_3) (fun w1 hw => hw.pick [2, 3, 4] (by decide) rfl) ?_
    refine TH.tk 10 rfl rfl rfl (gives_load (v := .int .i64 x33.at_) rfl rfl pcmag3 (fun w1 hw => flat_row rs_cel hw (q := 0) rfl hx33 3 _ rfl)) (fun w1 hw => hw.pick [2, 3, 4] (by decide) rfl) ?_
    refine TH.tk 11 rfl rfl rfl (gives_bin rfl rfl rfl (fun w => bin_sub_ (r := x33.back - x33.at_) (by simp only [IntKind.wrap_i64]; omega) w)) (fun w1 hw => hw.pick [2, 3, 4] (by decide) rfl) ?_
    refine TH.only' 12 rfl (by kernel_rfl) rfl ?_
    refine TL.prowS (e := 3) (size := 1) (cs := flat (ic .i64) [x33.back - x33.at_]) rfl rfl rfl rfl rfl (fun w => adtbs106_1_5377 _ w) (by decide) rfl (fun g89 => ?_)
    refine zE ?_
    refine TX.held (fun w1 hw => hw.pick [3, 4, 5] (by decide) rfl) ?_
    refine TH.only' 13 rfl (by kernel_rfl) rfl ?_
    refine TL.appendT (k := 2) rfl rfl rfl rfl Tryz.underlying106 adtel106 rfl rfl rfl (fun w1 hw => pm_reads hw (k := 0) rfl) (flat_one (ic_cel .i64) _) (by show _ * 8 ≤ _; omega) ((la ++ [x33.back - x33.at_]).length) (by rw [List.length_append]; rfl) (flat (ic .i64) (la ++ [x33.back - x33.at_])) ((flat_app _ _).symm) (fun A90 c90 hA901 hA902 => ?_)
    refine zE ?_
    refine TX.he (fun w1 hw => hw.pick [3, 4, 5] (by decide) rfl) fun hS => ?_
    refine TH.t 14 rfl (gives_assign rfl rfl) hS ?_
    refine TH.done (by kernel_rfl) ?_
    refine zN (zT (zG (TL.mv ?_)))
    refine TL.v (gD ((i + 1 : Nat) : Int)) ?_
    refine TL.as_ ?_
    refine zE ?_
    exact TX.round (⟨(i + 1, (Ae, ce), (A90, c90), ea, la ++ [x33.back - x33.at_]), by dsimp only; omega, ear_f hx33 ⟨h35, by omega⟩ q54 hE, lar_t hx33 ⟨h35, by omega⟩ (by omega) q76 hL, by dsimp only; omega, by dsimp only; rw [List.length_append]; show la.length + 1 ≤ _; omega, hc1, hc2, hA901, hA902⟩) (by show st24.length - (i + 1) < st24.length - i; omega) ⟨rfl, rfl, rfl, rfl, rfl, rfl, rfl, trivial⟩ (fun w1 hw => hw.pick [1, 2, 3, 4, 5] (by decide) rfl)
   refine TQ.fin ?_
   refine zT (zd (zk (zN (zT (zG (TL.mv ?_))))))
   refine TL.v (gD ((i + 1 : Nat) : Int)) ?_
   refine TL.as_ ?_
   refine zE ?_
   exact TX.round (⟨(i + 1, (Ae, ce), (Al, cl), ea, la), by dsimp only; omega, ear_f hx33 ⟨h35, by omega⟩ q54 hE, lar_f hx33 ⟨h35, by omega⟩ q76 hL, by dsimp only; omega, by dsimp only; omega, hc1, hc2, hc3, hc4⟩) (by show st24.length - (i + 1) < st24.length - i; omega) ⟨rfl, rfl, rfl, rfl, rfl, rfl, rfl, trivial⟩ (fun w1 hw => hw)
  refine TQ.rn 11 rfl ?_
  refine TQ.fin ?_
  refine zT (zc (zx (zX (zM (zT (zG (TL.mv ?_)))))))
  refine TL.v (gD ((i + 1 : Nat) : Int)) ?_
  refine TL.as_ ?_
  refine zE ?_
  exact TX.round (⟨(i + 1, (Ae, ce), (Al, cl), ea, la), by dsimp only; omega, ear_skip hx33 (fun h => by rw [h.1] at h35; cases h35) hE, lar_skip hx33 (fun h => by rw [h.1] at h35; cases h35) hL, by dsimp only; omega, by dsimp only; omega, hc1, hc2, hc3, hc4⟩) (by show st24.length - (i + 1) < st24.length - i; omega) ⟨rfl, rfl, rfl, rfl, rfl, rfl, rfl, trivial⟩ (fun w1 hw => hw)
 refine zET (zd (zx (zX (zX (zM (zT (zS (zS ?_))))))))
 have hE2 : eaL (atL st24 p.ttl) p.at_ = ea := by rw [List.take_of_length_le (by omega)] at hE; exact hE
 have hL2 : laL (atL st24 p.ttl) p.at_ = la := by rw [List.take_of_length_le (by omega)] at hL; exact hL
 have hbE : ∀ z ∈ ea, 0 ≤ z ∧ z ≤ 2251799813685248 := fun z hz => by
  obtain ⟨r, hr1, rfl⟩ := ea_mem (by rw [hE2]; exact hz)
  have := hP24.in_ _ r hr1
  unfold Rs.inRange at this
  omega
 have hbL : ∀ z ∈ la, 0 ≤ z ∧ z ≤ 2251799813685248 := fun z hz => by
  obtain ⟨r, hr1, rfl⟩ := la_mem (by rw [hL2]; exact hz)
  have := hP24.in_ _ r hr1
  unfold Rs.inRange at this
  omega
 refine zG (TL.as_ ?_)
 refine zET (zB ?_)
 refine TC.loop_ (α := {j : Nat // j ≤ ea.length ∧ ∀ z ∈ ea.take j, ¬ (u.prb ≤ (((ea).filter fun z_ => decide (z_ ≤ z)).length : Int) ∧ u.prb ≤ (((la).filter fun z_ => decide (u.gro ≤ z_ - z)).length : Int))}) (fun y => [(4, .pointer (some ⟨g4, 0, none⟩)), (5, .pointer (some ⟨g5, 0, none⟩)), (6, .bool false), (7, .slice Ae ea.length ce), (8, .slice Al la.length cl), (9, .slice R24 st24.length rc24), (11, .int .i64 ((y.1 : Nat) : Int))]) (fun y => Pm w [.row (.slice Ae ea.length ce) 3 1 ea.length (flat (ic .i64) ea), .row (.slice Al la.length cl) 3 1 la.length (flat (ic .i64) la), .row (.slice R24 st24.length rc24) 65 17 st24.length (flat Rs.cells st24), .blk g5 34 p.cells, .blk g4 28 u.cells]) (fun y => ea.length - y.1) (⟨0, Nat.zero_le _, fun z hz => by rw [List.take_zero] at hz; cases hz⟩) ⟨rfl, rfl, rfl, rfl, rfl, rfl, rfl, trivial⟩ (fun w1 hw => hw) ?_
 rintro ⟨j, hj, hmj⟩
 try dsimp only at hj hmj ⊢
 refine zS (zSG (TL.rn 2 rfl (TL.v (gN Tryz.underlying106) ?_)))
 refine TL.sp bin_lss (fun q94 => ?_) (fun q94 => ?_)
 ·refine zET (zc (zk (zT (zS (zB (zS ?_))))))
  obtain ⟨ej, hej⟩ : ∃ ej, ea[j]? = some ej := ⟨_, List.getElem?_eq_getElem (by omega)⟩
  refine zG (TL.rn 2 rfl (zET (zS (zSG (TL.as_ ?_)))))
  refine zET (zB (TC.loop_ (α := {y : Nat × Nat // y.1 ≤ ea.length ∧ ((ea.take y.1).filter fun z => decide (z ≤ ej)).length = y.2 ∧ y.2 ≤ y.1}) (fun y => [(4, .pointer (some ⟨g4, 0, none⟩)), (5, .pointer (some ⟨g5, 0, none⟩)), (6, .bool false), (7, .slice Ae ea.length ce), (8, .slice Al la.length cl), (9, .slice R24 st24.length rc24), (11, .int .i64 ((j : Nat) : Int)), (13, .int .i64 0), (14, .int .i64 ((y.1.1 : Nat) : Int)), (12, .int .i64 ((y.1.2 : Nat) : Int))]) (fun y => Pm w [.row (.slice Ae ea.length ce) 3 1 ea.length (flat (ic .i64) ea), .row (.slice Al la.length cl) 3 1 la.length (flat (ic .i64) la), .row (.slice R24 st24.length rc24) 65 17 st24.length (flat Rs.cells st24), .blk g5 34 p.cells, .blk g4 28 u.cells]) (fun y => ea.length - y.1.1) (⟨(0, 0), Nat.zero_le _, rfl, Nat.le_refl _⟩) ⟨rfl, rfl, rfl, rfl, rfl, rfl, rfl, rfl, rfl, rfl, trivial⟩ (fun w1 hw => hw) ?_))
  rintro ⟨⟨a, ca⟩, ha, hca, hcaa⟩
  dsimp only at ha hca hcaa ⊢
  refine zS (zSG (TL.rn 2 rfl (TL.v (gN Tryz.underlying106) ?_)))
  refine TL.sp bin_lss (fun q100 => ?_) (fun q100 => ?_)
  ·refine zET (zc (zk (zT (zS (zB (zS (TC.fact (p := ∃ g, Ae = some ⟨g, 0, none⟩) (fun w1 hw => rowA hw (k := 0) rfl (by omega)) ?_)))))))
   rintro ⟨g_Ae, rfl⟩
   refine TC.quietQ (by kernel_rfl) (by kernel_rfl) (fun w hw => hw.drawn _) ?_
   refine TQ.rn 2 rfl ?_
   have hi105 : a < ea.length := by omega
   obtain ⟨x105, hx105⟩ := ex_at hi105
   have hvx105 := hbE x105 (List.mem_of_getElem? hx105)
   refine TQ.val rfl rfl rfl (gA (i := a) Tryz.underlying106 pcmsz3 rfl rfl rfl rfl rfl (by omega)) ?_
   refine TQ.val rfl rfl rfl (gives_load (v := .int .i64 x105) rfl rfl pcmag3 (fun w1 hw => flat_row (ic_cel .i64) hw (q := 0) rfl hx105 0 _ rfl)) ?_
   refine TQ.rn 2 rfl ?_
   have hi109 : j < ea.length := by omega
   obtain ⟨x109, hx109⟩ := ex_at hi109
   have hvx109 := hbE x109 (List.mem_of_getElem? hx109)
   have hex109 : x109 = ej := Option.some.inj (hx109.symm.trans hej)
   refine TQ.val rfl rfl rfl (gA (i := j) Tryz.underlying106 pcmsz3 rfl rfl rfl rfl rfl (by omega)) ?_
   refine TQ.val rfl rfl rfl (gives_load (v := .int .i64 x109) rfl rfl pcmag3 (fun w1 hw => flat_row (ic_cel .i64) hw (q := 0) rfl hx109 0 _ rfl)) ?_
   refine TQ.sp bin_leq (fun q111 => ?_) (fun q111 => ?_)
   ·refine TQ.fin ?_
    refine zT (zc (zG (TL.mv ?_)))
    refine TL.v (gD ((ca + 1 : Nat) : Int)) ?_
    refine TL.as_ ?_
    refine zE (zN (zT (zG (TL.mv ?_))))
    refine TL.v (gD ((a + 1 : Nat) : Int)) ?_
    refine TL.as_ ?_
    refine zE ?_
    exact TX.round (⟨(a + 1, ca + 1), by dsimp only; omega, fcnt_t (p := fun z => decide (z ≤ ej)) hx105 (by simp only [decide_eq_true_eq]; omega) hca, by dsimp only; omega⟩) (by show ea.length - (a + 1) < ea.length - a; omega) ⟨rfl, rfl, rfl, rfl, rfl, rfl, rfl, rfl, rfl, rfl, trivial⟩ (fun w1 hw => hw)
   refine TQ.fin ?_
   refine zT (zd (zk (zN (zT (zG (TL.mv ?_))))))
   refine TL.v (gD ((a + 1 : Nat) : Int)) ?_
   refine TL.as_ ?_
   refine zE ?_
   exact TX.round (⟨(a + 1, ca), by dsimp only; omega, fcnt_f (p := fun z => decide (z ≤ ej)) hx105 (by simp only [decide_eq_false_iff_not]; omega) hca, by dsimp only; omega⟩) (by show ea.length - (a + 1) < ea.length - a; omega) ⟨rfl, rfl, rfl, rfl, rfl, rfl, rfl, rfl, rfl, rfl, trivial⟩ (fun w1 hw => hw)
  refine zET (zd (zx (zX (zX (zM (zT (zS (zS ?_))))))))
  have hca2 : ((ea).filter fun z => decide (z ≤ ej)).length = ca := by rw [List.take_of_length_le (by omega)] at hca; exact hca
  refine zG (TL.as_ ?_)
  refine zET (zB (TC.loop_ (α := {y : Nat × Nat // y.1 ≤ la.length ∧ ((la.take y.1).filter fun z => decide (u.gro ≤ z - ej)).length = y.2 ∧ y.2 ≤ y.1}) (fun y => [(4, .pointer (some ⟨g4, 0, none⟩)), (5, .pointer (some ⟨g5, 0, none⟩)), (6, .bool false), (7, .slice Ae ea.length ce), (8, .slice Al la.length cl), (9, .slice R24 st24.length rc24), (11, .int .i64 ((j : Nat) : Int)), (12, .int .i64 ((ca : Nat) : Int)), (15, .int .i64 ((y.1.1 : Nat) : Int)), (13, .int .i64 ((y.1.2 : Nat) : Int))]) (fun y => Pm w [.row (.slice Ae ea.length ce) 3 1 ea.length (flat (ic .i64) ea), .row (.slice Al la.length cl) 3 1 la.length (flat (ic .i64) la), .row (.slice R24 st24.length rc24) 65 17 st24.length (flat Rs.cells st24), .blk g5 34 p.cells, .blk g4 28 u.cells]) (fun y => la.length - y.1.1) (⟨(0, 0), Nat.zero_le _, rfl, Nat.le_refl _⟩) ⟨rfl, rfl, rfl, rfl, rfl, rfl, rfl, rfl, rfl, rfl, trivial⟩ (fun w1 hw => hw) ?_))
  rintro ⟨⟨b, cb⟩, hb, hcb, hcbb⟩
  dsimp only at hb hcb hcbb ⊢
  refine zS (zSG (TL.rn 2 rfl (TL.v (gN Tryz.underlying106) ?_)))
  refine TL.sp bin_lss (fun q117 => ?_) (fun q117 => ?_)
  ·refine zET (zc (zk (zT (zS (zB (zS (TC.fact (p := ∃ g, Al = some ⟨g, 0, none⟩) (fun w1 hw => rowA hw (k := 1) rfl (by omega)) ?_)))))))
   rintro ⟨g_Al, rfl⟩
   refine TC.fact (p := ∃ g, Ae = some ⟨g, 0, none⟩) (fun w1 hw => rowA hw (k := 0) rfl (by omega)) ?_
   rintro ⟨g_Ae, rfl⟩
   refine TC.quietQ (by kernel_rfl) (by kernel_rfl) (fun w hw => hw.drawn _) ?_
   refine TQ.rn 2 rfl ?_
   have hi122 : b < la.length := by omega
   obtain ⟨x122, hx122⟩ := ex_at hi122
   have hvx122 := hbL x122 (List.mem_of_getElem? hx122)
   refine TQ.val rfl rfl rfl (gA (i := b) Tryz.underlying106 pcmsz3 rfl rfl rfl rfl rfl (by omega)) ?_
   refine TQ.val rfl rfl rfl (gives_load (v := .int .i64 x122) rfl rfl pcmag3 (fun w1 hw => flat_row (ic_cel .i64) hw (q := 1) rfl hx122 0 _ rfl)) ?_
   refine TQ.rn 2 rfl ?_
   have hi126 : j < ea.length := by omega
   obtain ⟨x126, hx126⟩ := ex_at hi126
   have hvx126 := hbE x126 (List.mem_of_getElem? hx126)
   have hex126 : x126 = ej := Option.some.inj (hx126.symm.trans hej)
   refine TQ.val rfl rfl rfl (gA (i := j) Tryz.underlying106 pcmsz3 rfl rfl rfl rfl rfl (by omega)) ?_
   refine TQ.val rfl rfl rfl (gives_load (v := .int .i64 x126) rfl rfl pcmag3 (fun w1 hw => flat_row (ic_cel .i64) hw (q := 0) rfl hx126 0 _ rfl)) ?_
   refine TQ.val rfl rfl rfl (gives_bin rfl rfl rfl (fun w => bin_sub_ (r := x122 - x126) (by simp only [IntKind.wrap_i64]; omega) w)) ?_
   refine TQ.v (gF arpfld28_1) ?_
   refine TQ.v (gL 4 pcmag3) ?_
   refine TQ.sp bin_geq (fun q131 => ?_) (fun q131 => ?_)
   ·refine TQ.fin ?_
    refine zT (zc (zG (TL.mv ?_)))
    refine TL.v (gD ((cb + 1 : Nat) : Int)) ?_
    refine TL.as_ ?_
    refine zE (zN (zT (zG (TL.mv ?_))))
    refine TL.v (gD ((b + 1 : Nat) : Int)) ?_
    refine TL.as_ ?_
    refine zE ?_
    exact TX.round (⟨(b + 1, cb + 1), by dsimp only; omega, fcnt_t (p := fun z => decide (u.gro ≤ z - ej)) hx122 (by simp only [decide_eq_true_eq]; omega) hcb, by dsimp only; omega⟩) (by show la.length - (b + 1) < la.length - b; omega) ⟨rfl, rfl, rfl, rfl, rfl, rfl, rfl, rfl, rfl, rfl, trivial⟩ (fun w1 hw => hw)
   refine TQ.fin ?_
   refine zT (zd (zk (zN (zT (zG (TL.mv ?_))))))
   refine TL.v (gD ((b + 1 : Nat) : Int)) ?_
   refine TL.as_ ?_
   refine zE ?_
   exact TX.round (⟨(b + 1, cb), by dsimp only; omega, fcnt_f (p := fun z => decide (u.gro ≤ z - ej)) hx122 (by simp only [decide_eq_false_iff_not]; omega) hcb, by dsimp only; omega⟩) (by show la.length - (b + 1) < la.length - b; omega) ⟨rfl, rfl, rfl, rfl, rfl, rfl, rfl, rfl, rfl, rfl, trivial⟩ (fun w1 hw => hw)
  refine zET (zd (zx (zX (zX (zM (zT (zS ?_)))))))
  have hcb2 : ((la).filter fun z => decide (u.gro ≤ z - ej)).length = cb := by rw [List.take_of_length_le (by omega)] at hcb; exact hcb
  refine zG (TL.mv ?_)
  refine TL.v (gF arpfld28_2) ?_
  refine TL.v (gL 4 pcmag3) ?_
  refine TL.sp bin_geq (fun q137 => ?_) (fun q137 => ?_)
  ·refine TL.rn 2 rfl (TL.ov (gF arpfld28_2) ?_)
   refine TL.ov (gL 4 pcmag3) ?_
   refine TL.gu ?_
   refine TL.sp bin_geq (fun q142 => ?_) (fun q142 => ?_)
   ·refine TL.pk ?_
    refine zET (zc (zSG (TL.as_ ?_)))
    refine zET (zr (zRR (zR (zRR ?_))))
    have hres : true = true ↔ CgP l u p := ⟨fun _ => ⟨Decidable.not_not.1 q18, .inr ⟨st24, hP24, by rw [hE2, hL2]; exact ⟨ej, List.mem_of_getElem? hej, by omega, by omega⟩⟩⟩, fun _ => rfl⟩
    exact ret_tmp Tryz.results32 rfl (fun w1 hw => ⟨⟨true, hres⟩, rfl, hw.bel⟩)
   refine TL.pk ?_
   refine zET (zd (zk (zN (zT (zG (TL.mv ?_))))))
   refine TL.v (gD ((j + 1 : Nat) : Int)) ?_
   refine TL.as_ ?_
   refine zE ?_
   exact TX.round (⟨j + 1, by omega, not_snoc hmj hej (fun h => by omega)⟩) (by show ea.length - (j + 1) < ea.length - j; omega) ⟨rfl, rfl, rfl, rfl, rfl, rfl, rfl, trivial⟩ (fun w1 hw => hw)
  refine TL.rn 6 rfl (zET (zd (zk (zN (zT (zG (TL.mv ?_)))))))
  refine TL.v (gD ((j + 1 : Nat) : Int)) ?_
  refine TL.as_ ?_
  refine zE ?_
  exact TX.round (⟨j + 1, by omega, not_snoc hmj hej (fun h => by omega)⟩) (by show ea.length - (j + 1) < ea.length - j; omega) ⟨rfl, rfl, rfl, rfl, rfl, rfl, rfl, trivial⟩ (fun w1 hw => hw)
 refine zET (zd (zx (zX (zX (zM (zT (zSG (TL.as_ ?_))))))))
 refine zET (zr ?_)
 have hres : false = true ↔ CgP l u p := ⟨fun h => (by cases h), fun ⟨_, h⟩ => absurd h (by rintro (h | ⟨y, h1, h2⟩); exact q21 h; rw [← hP24.eq h1, hE2, hL2] at h2; obtain ⟨e0, h3, h4⟩ := h2; rw [List.take_of_length_le (by omega)] at hmj; exact hmj e0 h3 h4)⟩
 exact ret_tmp Tryz.results32 rfl (fun w1 hw => ⟨⟨false, hres⟩, rfl, hw.bel⟩)
set_option maxRecDepth 20000
theorem rproves_any (A0 : Option Addr) (c0 : Nat) (l : List Rs) (A1 : Option Addr) (c1 : Nat) (es : List En) (u : Ru) (p : Rp) (w : World) (hr : Reads w w.heap.size 17 A0 l.length (flat Rs.cells l)) (hl1 : l.length ≤ 100000) (hok : ∀ r ∈ l, r.Ok) (hr1 : Reads w w.heap.size 5 A1 es.length (flat En.cells es)) (hel1 : es.length ≤ 100000) (heo : ∀ z ∈ es, z.Ok) :
  Calls Tryz.prog 38 #[.slice A0 l.length c0, .agg #[.slice A1 es.length c1], .agg u.cells.toArray, .agg p.cells.toArray] w fun e w' => ∃ x : {b : Bool // b = true ↔ PrP es l u p}, e = .returned (.bool x.1) ∧ Below w.heap.size w w' := by
 refine begin_ (vs := [.slice A0 l.length c0, .agg #[.slice A1 es.length c1], .agg u.cells.toArray, .agg p.cells.toArray]) Tryz.func38 rfl rfl rfl ?_ (Pm.start w)
 refine zSG ?_
 refine TL.pnew rfl rfl rfl (exec_box (cs := [.slice A1 es.length c1]) rfl rfl rfl) (fun g5 => ?_)
 refine TL.pnew rfl rfl rfl (exec_box (cs := u.cells) rfl rfl rfl) (fun g6 => ?_)
 refine TL.pnew rfl rfl rfl (exec_box (cs := p.cells) rfl rfl rfl) (fun g7 => ?_)
 refine TL.as_ ?_
 refine zET (zSG (TL.v (gV 1 (.agg (u.cells).toArray) aprag28 aprsz28) ?_))
 refine TL.callsplit rfl rfl rfl rfl rfl Tryz.func25 (by decide) rfl (fun w1 hw => rvldRu_any u w1) (fun h10 => ?_) (fun h10 => ?_)
 ·refine TL.mv ?_
  refine TL.ov (gV 0 (.agg (p.cells).toArray) abrag34 abrsz34) ?_
  refine TL.gu ?_
  refine TL.callsplit rfl rfl rfl rfl rfl Tryz.func28 (by decide) rfl (fun w1 hw => rvldRp_any p w1) (fun h13 => ?_) (fun h13 => ?_)
  ·refine TL.rn 2 rfl (TL.ov (gV 2 (.agg #[.slice A1 es.length c1]) breag26 bresz26) ?_)
   refine TL.gu ?_
   refine TL.callsplit rfl rfl rfl rfl rfl Tryz.func85 (by decide) rfl (fun w1 hw => rvalX_any A1 c1 es w1 (hr1.up hw.bel) hel1 heo) (fun h17 => ?_) (fun h17 => ?_)
   ·refine TL.rn 3 rfl (TL.ov (gV 1 (.agg (u.cells).toArray) aprag28 aprsz28) ?_)
    refine TL.ov (gV 0 (.agg (p.cells).toArray) abrag34 abrsz34) ?_
    refine TL.gu ?_
    refine TL.pcallPm (α := {b : Bool // b = true ↔ BhP l u p}) (fun x => .bool x.1) (fun x => []) rfl rfl rfl rfl rfl Tryz.func30 (by decide) rfl (fun w1 hw => (rblackhole_any A0 c0 l u p w1 (hr.up hw.bel) hl1 hok).mono fun en w2 ⟨x, h1, h2⟩ => ⟨x, h1, (Pm.start w1).below h2⟩) ?_
    rintro ⟨bd23, hbd23⟩
    dsimp only [List.cons_append, List.nil_append]
    cases bd23 with
    | true =>
     refine TL.rn 14 rfl (zET (zr ?_))
     exact ret_tmp Tryz.results38 rfl (fun w1 hw => ⟨⟨true, fun _ => ⟨h10, h13, h17, .inl (hbd23.1 rfl)⟩, fun _ => rfl⟩, rfl, hw.bel⟩)
    | false =>
     refine TL.rn 2 rfl (TL.ov (gV 2 (.agg #[.slice A1 es.length c1]) breag26 bresz26) ?_)
     refine TL.ov (gV 0 (.agg (p.cells).toArray) abrag34 abrsz34) ?_
     refine TL.gu ?_
     refine TL.pcallPm (α := {b : Bool // b = true ↔ DtP es l p}) (fun x => .bool x.1) (fun x => []) rfl rfl rfl rfl rfl Tryz.func36 (by decide) rfl (fun w1 hw => (rdetour_any A0 c0 l A1 c1 es p w1 (hr.up hw.bel) hl1 hok (hr1.up hw.bel) hel1 heo).mono fun en w2 ⟨x, h1, h2⟩ => ⟨x, h1, (Pm.start w1).below h2⟩) ?_
     rintro ⟨bd28, hbd28⟩
     dsimp only [List.cons_append, List.nil_append]
     refine TL.rn 1 rfl ?_
     cases bd28 with
     | true =>
      refine TL.rn 8 rfl (zET (zr ?_))
      exact ret_tmp Tryz.results38 rfl (fun w1 hw => ⟨⟨true, fun _ => ⟨h10, h13, h17, .inr (.inl (hbd28.1 rfl))⟩, fun _ => rfl⟩, rfl, hw.bel⟩)
     | false =>
      refine TL.rn 2 rfl (TL.ov (gV 1 (.agg (u.cells).toArray) aprag28 aprsz28) ?_)
      refine TL.ov (gV 0 (.agg (p.cells).toArray) abrag34 abrsz34) ?_
      refine TL.gu ?_
      refine TL.pcallPm (α := {b : Bool // b = true ↔ CgP l u p}) (fun x => .bool x.1) (fun x => []) rfl rfl rfl rfl rfl Tryz.func32 (by decide) rfl (fun w1 hw => (rcongestion_any A0 c0 l u p w1 (hr.up hw.bel) hl1 hok).mono fun en w2 ⟨x, h1, h2⟩ => ⟨x, h1, (Pm.start w1).below h2⟩) ?_
      rintro ⟨bd34, hbd34⟩
      dsimp only [List.cons_append, List.nil_append]
      refine TL.rn 3 rfl (zET (zr ?_))
      exact ret_tmp Tryz.results38 rfl (fun w1 hw => ⟨⟨bd34, fun h => ⟨h10, h13, h17, .inr (.inr (hbd34.1 h))⟩, fun ⟨_, _, _, h4⟩ => h4.elim (fun h => absurd (hbd23.2 h) (by decide)) fun h5 => h5.elim (fun h => absurd (hbd28.2 h) (by decide)) hbd34.2⟩, rfl, hw.bel⟩)
   refine TL.rn 7 rfl ?_
   refine TL.offU rfl rfl rfl rfl rfl ?_
   refine TL.offU rfl rfl rfl rfl rfl ?_
   refine TL.offU rfl rfl rfl rfl rfl ?_
   refine TL.offU rfl rfl rfl rfl rfl ?_
   refine TL.rn 2 rfl ?_
   refine TL.offU rfl rfl rfl rfl rfl ?_
   refine TL.offU rfl rfl rfl rfl rfl ?_
   refine TL.offU rfl rfl rfl rfl rfl ?_
   refine TL.offU rfl rfl rfl rfl rfl ?_
   refine TL.rn 3 rfl (zET (zr ?_))
   exact ret_tmp Tryz.results38 rfl (fun w1 hw => ⟨⟨false, fun h => (by cases h), fun h => (by have h2 := h.2.2.1; rw [h17] at h2; cases h2)⟩, rfl, hw.bel⟩)
  refine TL.rn 11 rfl ?_
  refine TL.offU rfl rfl rfl rfl rfl ?_
  refine TL.offU rfl rfl rfl rfl rfl ?_
  refine TL.offU rfl rfl rfl rfl rfl ?_
  refine TL.offU rfl rfl rfl rfl rfl ?_
  refine TL.rn 2 rfl ?_
  refine TL.offU rfl rfl rfl rfl rfl ?_
  refine TL.offU rfl rfl rfl rfl rfl ?_
  refine TL.offU rfl rfl rfl rfl rfl ?_
  refine TL.offU rfl rfl rfl rfl rfl ?_
  refine TL.rn 3 rfl (zET (zr ?_))
  exact ret_tmp Tryz.results38 rfl (fun w1 hw => ⟨⟨false, fun h => (by cases h), fun h => (by have h2 := h.2.1; rw [h13] at h2; cases h2)⟩, rfl, hw.bel⟩)
 refine TL.rn 14 rfl ?_
 refine TL.offU rfl rfl rfl rfl rfl ?_
 refine TL.offU rfl rfl rfl rfl rfl ?_
 refine TL.offU rfl rfl rfl rfl rfl ?_
 refine TL.offU rfl rfl rfl rfl rfl ?_
 refine TL.rn 2 rfl ?_
 refine TL.offU rfl rfl rfl rfl rfl ?_
 refine TL.offU rfl rfl rfl rfl rfl ?_
 refine TL.offU rfl rfl rfl rfl rfl ?_
 refine TL.offU rfl rfl rfl rfl rfl ?_
 refine TL.rn 3 rfl (zET (zr ?_))
 exact ret_tmp Tryz.results38 rfl (fun w1 hw => ⟨⟨false, fun h => (by cases h), fun h => (by have h2 := h.1; rw [h10] at h2; cases h2)⟩, rfl, hw.bel⟩)
set_option maxRecDepth 20000
theorem set_at {α : Type} {l : List α} {i : Nat} {x y : α} (h : l[i]? = some x) : (l.set i y)[i]? = some y := List.getElem?_set_self (List.getElem?_eq_some_iff.1 h).1
theorem set_self {l : List Rs} {i : Nat} {x : Rs} (h : l[i]? = some x) : l.set i ⟨x.v, x.run, x.num, x.at_, x.dst, x.proto, x.flow, x.ttl, x.ans, x.dbl, x.back, x.src, x.kind, x.code, x.left, x.id, x.quo⟩ = l := by
 obtain ⟨h1, rfl⟩ := List.getElem?_eq_some_iff.1 h
 exact List.set_getElem_self h1
theorem ok_set {l : List Rs} {i : Nat} {y : Rs} (h : ∀ r ∈ l, r.Ok) (hy : y.Ok) : ∀ r ∈ l.set i y, r.Ok := fun r hr => by
 rcases List.mem_or_eq_of_mem_set hr with h1 | h1
 ·exact h r h1
 rw [h1]; exact hy
theorem ok_one {l : List Rs} {x : Rs} (h : l.length = 0) (hx : x.Ok) : ∀ r ∈ l ++ [x], r.Ok := fun r hr => by
 rw [List.eq_nil_of_length_eq_zero h, List.nil_append, List.mem_singleton] at hr
 rw [hr]; exact hx
theorem dodbs106_4_78574 (a0_0 : Int) (a1_0 : Int) (a2_0 : Int) (a3_0 : Int) (w : World) : (Instr.buildSlice 106 4 #[(0, .int .i64 a0_0), (1, .int .i64 a1_0), (2, .int .i64 a2_0), (3, .int .i64 a3_0)]).run Tryz.prog w = .ok (.slice (some ⟨w.heap.size, 0, none⟩) 4 4) (w.alloc (.cells [.int .i64 a0_0, .int .i64 a1_0, .int .i64 a2_0, .int .i64 a3_0].toArray 3)) := by kernel_rfl
theorem odd_fr (w0 : Base) (F : List Pc) (cb : Nat) (A0 : Option Addr) (c0 : Nat) (l : List Rs) (w : World) (hw0 : Pm w0 ([.abs cb (fun w => Cod w cb), .row (.slice A0 l.length c0) 65 17 l.length (flat Rs.cells l)] ++ F) w) (hm1 : l.length ≤ 10000) (hok : ∀ r ∈ l, r.Ok) :
  Calls Tryz.prog 23 #[.pointer (some ⟨cb, 0, none⟩), .slice A0 l.length c0] w fun e w' => ∃ x : {y : (Option Addr × Nat) × List Rs // (∀ r ∈ y.2, r.Ok) ∧ y.2.length ≤ l.length + 1 ∧ y.2.length ≤ y.1.2 ∧ y.1.2 ≤ maxLen}, e = .returned (.slice x.1.1.1 x.1.2.length x.1.1.2) ∧ Pm w0 (.row (.slice x.1.1.1 x.1.2.length x.1.1.2) 65 17 x.1.2.length (flat Rs.cells x.1.2) :: [.abs cb (fun w => Cod w cb), .row (.slice A0 l.length c0) 65 17 l.length (flat Rs.cells l)] ++ F) w' := by
 refine begin_ (vs := [.pointer (some ⟨cb, 0, none⟩), .slice A0 l.length c0]) (I := Pm w0 ([.abs cb (fun w => Cod w cb), .row (.slice A0 l.length c0) 65 17 l.length (flat Rs.cells l)] ++ F)) Tryz.func23 rfl rfl rfl ?_ hw0
 refine zSG (TL.as_ ?_)
 refine zET (zSG (TL.mv ?_))
 refine TL.nilrow 65 17 ?_
 refine TL.appendT (k := 0) rfl rfl rfl rfl Tryz.underlying23 porel23 rfl rfl rfl (fun w1 hw => pm_reads hw (k := 2) rfl) (flat_one rs_cel _) (by show _ * 128 ≤ _; omega) (l.length) (by simp) (flat Rs.cells l) (rfl) (fun A8 c8 hA81 hA82 => ?_)
 refine TL.as_ ?_
 refine zET (zS (zSG (TL.mv ?_)))
 refine TL.v (gN Tryz.underlying23) ?_
 refine TL.sp bin_eql (fun q11 => ?_) (fun q11 => ?_)
 ·refine zET (zc (zSG (TL.rn 2 rfl ?_)))
  refine TL.pcallCod (k := 1) (α := {z : Rs // z.Ok}) (fun q9 => .agg (q9.1.cells).toArray) (fun q9 => []) rfl rfl rfl rfl rfl Tryz.func66 (by decide) rfl rfl (fun w1 hw hC1 => result_cod cb w1 hC1) ?_
  rintro ⟨rs, hrs⟩
  dsimp only [List.cons_append, List.nil_append]
  refine TL.prowS (e := 65) (size := 17) (cs := flat Rs.cells [rs]) rfl rfl rfl rfl rfl (fun w => porbs23_1_99505 _ _ _ _ _ _ _ _ _ _ _ _ _ _ _ _ _ w) (by decide) rfl (fun g15 => ?_)
  refine TL.appendT (k := 1) rfl rfl rfl rfl Tryz.underlying23 porel23 rfl rfl rfl (fun w1 hw => pm_reads hw (k := 0) rfl) (flat_one rs_cel _) (by show _ * 128 ≤ _; omega) ((l ++ [rs]).length) (by rw [List.length_append]; rfl) (flat Rs.cells (l ++ [rs])) ((flat_app _ _).symm) (fun A16 c16 hA161 hA162 => ?_)
  refine TL.as_ ?_
  refine zET (zr (zR ?_))
  exact ret_tmp Tryz.results23 rfl (fun w1 hw => ⟨⟨((A16, c16), l ++ [rs]), ok_one (by omega) hrs, by dsimp only; rw [List.length_append]; show l.length + 1 ≤ _; omega, hA161, hA162⟩, rfl, hw.sel (.cons _ (.cons_cons _ (.cons_cons _ (.cons_cons _ (List.Sublist.refl _)))))⟩)
 refine zET (zd (zk (zT (zSG (TL.rn 2 rfl (TL.v (gN Tryz.underlying23) ?_))))))
 refine TL.pcallCod (k := 1) (α := {q9 : Nat // q9 ≤ 65535 ∧ (1 ≤ ((l.length : Nat) : Int) → (q9 : Int) < (l.length : Nat))}) (fun q9 => .int .i64 ((q9.1 : Nat) : Int)) (fun q9 => []) rfl rfl rfl rfl rfl Tryz.func21 (by decide) rfl rfl (fun w1 hw hC1 => next_cod cb w1 (l.length : Nat) hC1) ?_
 rintro ⟨i, hi1, hi2⟩
 dsimp only [List.cons_append, List.nil_append]
 refine TL.as_ ?_
 refine zET (zS (zSG (TL.mv ?_)))
 refine TL.pcallCod (k := 1) (α := {q9 : Nat // q9 ≤ 65535 ∧ (1 ≤ (9 : Int) → (q9 : Int) < 9)}) (fun q9 => .int .i64 ((q9.1 : Nat) : Int)) (fun q9 => []) rfl rfl rfl rfl rfl Tryz.func21 (by decide) rfl rfl (fun w1 hw hC1 => next_cod cb w1 9 hC1) ?_
 rintro ⟨sel, hsel1, hsel2⟩
 dsimp only [List.cons_append, List.nil_append]
 refine zET (zB (zSG ?_))
 refine TL.sp bin_eql (fun q24 => ?_) (fun q24 => ?_)
 ·refine TL.as_ ?_
  refine zET (zc (zG (TL.rn 3 rfl ?_)))
  refine TL.pcallCod (k := 1) (α := {z : Rs // z.Ok}) (fun q9 => .agg (q9.1.cells).toArray) (fun q9 => []) rfl rfl rfl rfl rfl Tryz.func66 (by decide) rfl rfl (fun w1 hw hC1 => result_cod cb w1 hC1) ?_
  rintro ⟨rs2, hrs2⟩
  dsimp only [List.cons_append, List.nil_append]
  refine TL.fact (p := ∃ g, A8 = some ⟨g, 0, none⟩) (fun w1 hw => rowA hw (k := 0) rfl (by omega)) ?_
  rintro ⟨g_A8, rfl⟩
  have hi29 : i < l.length := by omega
  obtain ⟨x29, hx29⟩ := ex_at hi29
  have hokx29 := hok x29 (List.mem_of_getElem? hx29)
  unfold Rs.Ok at hokx29
  refine TL.val rfl rfl rfl (gA (i := i) Tryz.underlying23 prssz65 rfl rfl rfl rfl rfl (by omega)) ?_
  refine TL.rowset (k := 0) (vs := rs2.cells) (xs' := flat Rs.cells (l.set i rs2)) rfl rfl rfl rfl rfl rfl rfl prssz65 (rs_cel.one _) (by rw [flat_len rs_cel]; show 0 + i * 17 + 17 ≤ _; omega) (flat_put rs_cel (q := 0) (y := rs2) hx29 (by show 0 + 17 ≤ 17; decide) rfl) ?_
  try dsimp only [List.set_cons_zero, List.set_cons_succ]
  refine zE (zN (zT (zSG (TL.rn 2 rfl (zET (zr ?_))))))
  exact ret_tmp Tryz.results23 rfl (fun w1 hw => ⟨⟨(((some ⟨g_A8, 0, none⟩), c8), l.set i rs2), ok_set hok (by first | exact hrs2 | (have h9 := hok _ (List.mem_of_getElem? (by assumption)); unfold Rs.Ok at h9 ⊢; dsimp only; omega)), by dsimp only; rw [List.length_set]; omega, by dsimp only; rw [List.length_set]; exact hA81, hA82⟩, by dsimp only; try rw [List.length_set], by dsimp only; try rw [List.length_set]; exact hw⟩)
 refine TL.as_ ?_
 refine zET (zd (zSG ?_))
 refine TL.sp bin_eql (fun q31 => ?_) (fun q31 => ?_)
 ·refine TL.as_ ?_
  refine zET (zc (zG (TL.rn 3 rfl ?_)))
  refine TL.pcallCod (k := 1) (α := {a : Int // 167772161 ≤ a ∧ a ≤ 167772173}) (fun x => .int .u32 x.1) (fun x => []) rfl rfl rfl rfl rfl Tryz.func67 (by decide) rfl rfl (fun w1 hw hC1 => daddr_cod cb w1 hC1) ?_
  rintro ⟨ad, had1, had2⟩
  dsimp only [List.cons_append, List.nil_append]
  refine TL.fact (p := ∃ g, A8 = some ⟨g, 0, none⟩) (fun w1 hw => rowA hw (k := 0) rfl (by omega)) ?_
  rintro ⟨g_A8, rfl⟩
  have hi36 : i < l.length := by omega
  obtain ⟨x36, hx36⟩ := ex_at hi36
  have hokx36 := hok x36 (List.mem_of_getElem? hx36)
  unfold Rs.Ok at hokx36
  refine TL.val rfl rfl rfl (gA (i := i) Tryz.underlying23 prssz65 rfl rfl rfl rfl rfl (by omega)) ?_
  refine TL.v (gF prsfld65_11) ?_
  refine TL.v (gF prsfld63_0) ?_
  refine TL.rowset (k := 0) (vs := [.int .u32 ad]) (xs' := flat Rs.cells (l.set i (⟨x36.v, x36.run, x36.num, x36.at_, x36.dst, x36.proto, x36.flow, x36.ttl, x36.ans, x36.dbl, x36.back, ad, x36.kind, x36.code, x36.left, x36.id, x36.quo⟩ : Rs))) rfl rfl rfl rfl rfl rfl rfl dntsz30 dntone_u32 (by rw [flat_len rs_cel]; show 0 + i * 17 + 11 + 1 ≤ _; omega) (flat_put rs_cel (q := 11) (y := (⟨x36.v, x36.run, x36.num, x36.at_, x36.dst, x36.proto, x36.flow, x36.ttl, x36.ans, x36.dbl, x36.back, ad, x36.kind, x36.code, x36.left, x36.id, x36.quo⟩ : Rs)) hx36 (by show 11 + 1 ≤ 17; decide) rfl) ?_
  try dsimp only [List.set_cons_zero, List.set_cons_succ]
  refine zE (zN (zT (zSG (TL.rn 2 rfl (zET (zr ?_))))))
  exact ret_tmp Tryz.results23 rfl (fun w1 hw => ⟨⟨(((some ⟨g_A8, 0, none⟩), c8), l.set i (⟨x36.v, x36.run, x36.num, x36.at_, x36.dst, x36.proto, x36.flow, x36.ttl, x36.ans, x36.dbl, x36.back, ad, x36.kind, x36.code, x36.left, x36.id, x36.quo⟩ : Rs)), ok_set hok (by first | exact hrs2 | (have h9 := hok _ (List.mem_of_getElem? (by assumption)); unfold Rs.Ok at h9 ⊢; dsimp only; omega)), by dsimp only; rw [List.length_set]; omega, by dsimp only; rw [List.length_set]; exact hA81, hA82⟩, by dsimp only; try rw [List.length_set], by dsimp only; try rw [List.length_set]; exact hw⟩)
 refine TL.as_ ?_
 refine zET (zd (zSG ?_))
 refine TL.sp bin_eql (fun q40 => ?_) (fun q40 => ?_)
 ·refine TL.as_ ?_
  refine zET (zc (zG (TL.rn 4 rfl ?_)))
  refine TL.fact (p := ∃ g, A8 = some ⟨g, 0, none⟩) (fun w1 hw => rowA hw (k := 0) rfl (by omega)) ?_
  rintro ⟨g_A8, rfl⟩
  have hi45 : i < l.length := by omega
  obtain ⟨x45, hx45⟩ := ex_at hi45
  have hokx45 := hok x45 (List.mem_of_getElem? hx45)
  unfold Rs.Ok at hokx45
  refine TL.val rfl rfl rfl (gA (i := i) Tryz.underlying23 prssz65 rfl rfl rfl rfl rfl (by omega)) ?_
  refine TL.v (gF prsfld65_8) ?_
  refine TL.vsplit rfl rfl rfl (gives_load (v := .bool x45.ans) rfl rfl prsag4 (fun w1 hw => flat_row rs_cel hw (q := 0) rfl hx45 8 _ rfl)) (fun h47 => ?_) (fun h47 => ?_)
  ·refine TL.val rfl rfl rfl (gives_boolnot rfl rfl) ?_
   refine TL.val rfl rfl rfl (gA (i := i) Tryz.underlying23 prssz65 rfl rfl rfl rfl rfl (by omega)) ?_
   refine TL.v (gF prsfld65_8) ?_
   refine TL.rowset (k := 0) (vs := [.bool false]) (xs' := flat Rs.cells (l.set i (⟨x45.v, x45.run, x45.num, x45.at_, x45.dst, x45.proto, x45.flow, x45.ttl, false, x45.dbl, x45.back, x45.src, x45.kind, x45.code, x45.left, x45.id, x45.quo⟩ : Rs))) rfl rfl rfl rfl rfl rfl rfl dresz4 dreone_b (by rw [flat_len rs_cel]; show 0 + i * 17 + 8 + 1 ≤ _; omega) (flat_put rs_cel (q := 8) (y := (⟨x45.v, x45.run, x45.num, x45.at_, x45.dst, x45.proto, x45.flow, x45.ttl, false, x45.dbl, x45.back, x45.src, x45.kind, x45.code, x45.left, x45.id, x45.quo⟩ : Rs)) hx45 (by show 8 + 1 ≤ 17; decide) rfl) ?_
   try dsimp only [List.set_cons_zero, List.set_cons_succ]
   refine zE (zN (zT (zSG (TL.rn 2 rfl (zET (zr ?_))))))
   exact ret_tmp Tryz.results23 rfl (fun w1 hw => ⟨⟨(((some ⟨g_A8, 0, none⟩), c8), l.set i (⟨x45.v, x45.run, x45.num, x45.at_, x45.dst, x45.proto, x45.flow, x45.ttl, false, x45.dbl, x45.back, x45.src, x45.kind, x45.code, x45.left, x45.id, x45.quo⟩ : Rs)), ok_set hok (by first | exact hrs2 | (have h9 := hok _ (List.mem_of_getElem? (by assumption)); unfold Rs.Ok at h9 ⊢; dsimp only; omega)), by dsimp only; rw [List.length_set]; omega, by dsimp only; rw [List.length_set]; exact hA81, hA82⟩, by dsimp only; try rw [List.length_set], by dsimp only; try rw [List.length_set]; exact hw⟩)
  refine TL.val rfl rfl rfl (gives_boolnot rfl rfl) ?_
  refine TL.val rfl rfl rfl (gA (i := i) Tryz.underlying23 prssz65 rfl rfl rfl rfl rfl (by omega)) ?_
  refine TL.v (gF prsfld65_8) ?_
  refine TL.rowset (k := 0) (vs := [.bool true]) (xs' := flat Rs.cells (l.set i (⟨x45.v, x45.run, x45.num, x45.at_, x45.dst, x45.proto, x45.flow, x45.ttl, true, x45.dbl, x45.back, x45.src, x45.kind, x45.code, x45.left, x45.id, x45.quo⟩ : Rs))) rfl rfl rfl rfl rfl rfl rfl dresz4 dreone_b (by rw [flat_len rs_cel]; show 0 + i * 17 + 8 + 1 ≤ _; omega) (flat_put rs_cel (q := 8) (y := (⟨x45.v, x45.run, x45.num, x45.at_, x45.dst, x45.proto, x45.flow, x45.ttl, true, x45.dbl, x45.back, x45.src, x45.kind, x45.code, x45.left, x45.id, x45.quo⟩ : Rs)) hx45 (by show 8 + 1 ≤ 17; decide) rfl) ?_
  try dsimp only [List.set_cons_zero, List.set_cons_succ]
  refine zE (zN (zT (zSG (TL.rn 2 rfl (zET (zr ?_))))))
  exact ret_tmp Tryz.results23 rfl (fun w1 hw => ⟨⟨(((some ⟨g_A8, 0, none⟩), c8), l.set i (⟨x45.v, x45.run, x45.num, x45.at_, x45.dst, x45.proto, x45.flow, x45.ttl, true, x45.dbl, x45.back, x45.src, x45.kind, x45.code, x45.left, x45.id, x45.quo⟩ : Rs)), ok_set hok (by first | exact hrs2 | (have h9 := hok _ (List.mem_of_getElem? (by assumption)); unfold Rs.Ok at h9 ⊢; dsimp only; omega)), by dsimp only; rw [List.length_set]; omega, by dsimp only; rw [List.length_set]; exact hA81, hA82⟩, by dsimp only; try rw [List.length_set], by dsimp only; try rw [List.length_set]; exact hw⟩)
 refine TL.as_ ?_
 refine zET (zd (zSG ?_))
 refine TL.sp bin_eql (fun q52 => ?_) (fun q52 => ?_)
 ·refine TL.as_ ?_
  refine zET (zc (zG (TL.rn 3 rfl ?_)))
  refine TL.prowS (e := 3) (size := 1) (cs := flat (ic .i64) [0, 1, 2, 255, 256]) rfl rfl rfl rfl rfl (fun w => drpbs106_5_22075 _ _ _ _ _ w) (by decide) rfl (fun g56 => ?_)
  refine TL.pcallCod (k := 2) (α := {v : Int // v ∈ ([0, 1, 2, 255, 256] : List Int)}) (fun x => .int .i64 x.1) (fun x => []) rfl rfl rfl rfl rfl Tryz.func22 (by decide) rfl rfl (fun w1 hw hC1 => pick_cod cb w1 hC1 g56 5 ([0, 1, 2, 255, 256]) (hw.neq (i := 0) (j := 2) rfl rfl (by decide) g56 rfl <| congrArg some ·.symm) (Pc.lt (hw.at_ (k := 0) rfl) g56 rfl).2 (by show 0 < ([0, 1, 2, 255, 256] : List Int).length; simp) (fun i v hi => flat_row1 hw (q := 0) rfl hi)) ?_
  rintro ⟨pk, hpk⟩
  dsimp only [List.cons_append, List.nil_append]
  refine TL.fact (p := ∃ g, A8 = some ⟨g, 0, none⟩) (fun w1 hw => rowA hw (k := 1) rfl (by omega)) ?_
  rintro ⟨g_A8, rfl⟩
  have hi58 : i < l.length := by omega
  obtain ⟨x58, hx58⟩ := ex_at hi58
  have hokx58 := hok x58 (List.mem_of_getElem? hx58)
  unfold Rs.Ok at hokx58
  refine TL.val rfl rfl rfl (gA (i := i) Tryz.underlying23 prssz65 rfl rfl rfl rfl rfl (by omega)) ?_
  refine TL.v (gF prsfld65_7) ?_
  refine TL.rowset (k := 1) (vs := [.int .i64 pk]) (xs' := flat Rs.cells (l.set i (⟨x58.v, x58.run, x58.num, x58.at_, x58.dst, x58.proto, x58.flow, pk, x58.ans, x58.dbl, x58.back, x58.src, x58.kind, x58.code, x58.left, x58.id, x58.quo⟩ : Rs))) rfl rfl rfl rfl rfl rfl rfl pcmsz3 aeaone_i64 (by rw [flat_len rs_cel]; show 0 + i * 17 + 7 + 1 ≤ _; omega) (flat_put rs_cel (q := 7) (y := (⟨x58.v, x58.run, x58.num, x58.at_, x58.dst, x58.proto, x58.flow, pk, x58.ans, x58.dbl, x58.back, x58.src, x58.kind, x58.code, x58.left, x58.id, x58.quo⟩ : Rs)) hx58 (by show 7 + 1 ≤ 17; decide) rfl) ?_
  try dsimp only [List.set_cons_zero, List.set_cons_succ]
  refine zE (zN (zT (zSG (TL.rn 2 rfl (zET (zr ?_))))))
  exact ret_tmp Tryz.results23 rfl (fun w1 hw => ⟨⟨(((some ⟨g_A8, 0, none⟩), c8), l.set i (⟨x58.v, x58.run, x58.num, x58.at_, x58.dst, x58.proto, x58.flow, pk, x58.ans, x58.dbl, x58.back, x58.src, x58.kind, x58.code, x58.left, x58.id, x58.quo⟩ : Rs)), ok_set hok (by first | exact hrs2 | (have h9 := hok _ (List.mem_of_getElem? (by assumption)); unfold Rs.Ok at h9 ⊢; dsimp only; omega)), by dsimp only; rw [List.length_set]; omega, by dsimp only; rw [List.length_set]; exact hA81, hA82⟩, by dsimp only; try rw [List.length_set], by dsimp only; try rw [List.length_set]; exact hw.sel (.cons _ (.cons_cons _ (.cons_cons _ (.cons_cons _ (List.Sublist.refl _)))))⟩)
 refine TL.as_ ?_
 refine zET (zd (zSG ?_))
 refine TL.sp bin_eql (fun q61 => ?_) (fun q61 => ?_)
 ·refine TL.as_ ?_
  refine zET (zc (TC.fact (p := ∃ g, A8 = some ⟨g, 0, none⟩) (fun w1 hw => rowA hw (k := 0) rfl (by omega)) ?_))
  rintro ⟨g_A8, rfl⟩
  have hi67 : i < l.length := by omega
  obtain ⟨x67, hx67⟩ := ex_at hi67
  have hokx67 := hok x67 (List.mem_of_getElem? hx67)
  unfold Rs.Ok at hokx67
  refine TC.held (ls := #[Ff,Ff,Ff,Ff,Ff,Ff,Ff,Ff,Ff,Ff,Ff,Ff,Ff,Ff,Ff,Ff,Ff,Ff,Ff]) (fun w1 => ∃ b : Int, Pm w0 [.row (.slice (some ⟨g_A8, 0, none⟩) l.length c8) 65 17 l.length (flat Rs.cells (l.set i (⟨x67.v, x67.run, x67.num, x67.at_, x67.dst, x67.proto, x67.flow, x67.ttl, x67.ans, x67.dbl, b, x67.src, x67.kind, x67.code, x67.left, x67.id, x67.quo⟩ : Rs)))] w1) (by kernel_rfl) rfl rfl (fun w hw => hw.drawn _) ?_
  refine TH.tk 0 rfl rfl rfl (gives_move rfl rfl) (fun w1 hw => ⟨x67.back, by rw [set_self hx67]; exact hw.pick [0] (by decide) rfl⟩) ?_
  refine TH.tk 1 rfl rfl rfl (gives_move rfl rfl) (fun w1 hw => ⟨x67.back, by rw [set_self hx67]; exact hw.pick [0] (by decide) rfl⟩) ?_
  refine TH.tk 2 rfl rfl rfl (gives_move rfl rfl) (fun w1 hw => ⟨x67.back, by rw [set_self hx67]; exact hw.pick [0] (by decide) rfl⟩) ?_
  refine TH.tk 3 rfl rfl rfl (gives_move rfl rfl) (fun w1 hw => ⟨x67.back, by rw [set_self hx67]; exact hw.pick [0] (by decide) rfl⟩) ?_
  refine TH.tk 4 rfl rfl rfl (gives_move rfl rfl) (fun w1 hw => ⟨x67.back, by rw [set_self hx67]; exact hw.pick [0] (by decide) rfl⟩) ?_
  refine TH.tk 5 rfl rfl rfl (gA (i := i) Tryz.underlying23 prssz65 rfl rfl rfl rfl rfl (by omega)) (fun w1 hw => ⟨x67.back, by rw [set_self hx67]; exact hw.pick [0] (by decide) rfl⟩) ?_
  refine TH.tk 6 rfl rfl rfl (gF prsfld65_3) (fun w1 hw => ⟨x67.back, by rw [set_self hx67]; exact hw.pick [0] (by decide) rfl⟩) ?_
  refine TH.tk 7 rfl rfl rfl (gives_load (v := .int .i64 x67.at_) rfl rfl pcmag3 (fun w1 hw => by obtain ⟨b, hw⟩ := hw; exact flat_row rs_cel hw (q := 0) rfl (set_at hx67) 3 _ rfl)) (fun w1 hw => ⟨x67.back, by rw [set_self hx67]; exact hw.pick [0] (by decide) rfl⟩) ?_
  refine TH.tk 8 rfl rfl rfl (gives_move rfl rfl) (fun w1 hw => ⟨x67.back, by rw [set_self hx67]; exact hw.pick [0] (by decide) rfl⟩) ?_
  refine TH.tk 9 rfl rfl rfl (gives_move rfl rfl) (fun w1 hw => ⟨x67.back, by rw [set_self hx67]; exact hw.pick [0] (by decide) rfl⟩) ?_
  refine TH.tk 10 rfl rfl rfl (gA (i := i) Tryz.underlying23 prssz65 rfl rfl rfl rfl rfl (by omega)) (fun w1 hw => ⟨x67.back, by rw [set_self hx67]; exact hw.pick [0] (by decide) rfl⟩) ?_
  refine TH.tk 11 rfl rfl rfl (gF prsfld65_3) (fun w1 hw => ⟨x67.back, by rw [set_self hx67]; exact hw.pick [0] (by decide) rfl⟩) ?_
  refine TH.tk 12 rfl rfl rfl (gives_load (v := .int .i64 x67.at_) rfl rfl pcmag3 (fun w1 hw => by obtain ⟨b, hw⟩ := hw; exact flat_row rs_cel hw (q := 0) rfl (set_at hx67) 3 _ rfl)) (fun w1 hw => ⟨x67.back, by rw [set_self hx67]; exact hw.pick [0] (by decide) rfl⟩) ?_
  refine TH.tk 13 rfl rfl rfl (gives_bin rfl rfl rfl (fun w => bin_sub_ (r := IntKind.i64.wrap (x67.at_ - 1)) (rfl) w)) (fun w1 hw => ⟨x67.back, by rw [set_self hx67]; exact hw.pick [0] (by decide) rfl⟩) ?_
  refine TH.only' 14 rfl (by kernel_rfl) rfl ?_
  refine TL.prowS (e := 3) (size := 1) (cs := flat (ic .i64) [x67.at_, IntKind.i64.wrap (x67.at_ - 1), 2251799813685248, 2251799813685249]) rfl rfl rfl rfl rfl (fun w => dodbs106_4_78574 _ _ _ _ w) (by decide) rfl (fun g76 => ?_)
  refine zE ?_
  refine TX.held (fun w1 hw => ⟨x67.back, by rw [set_self hx67]; exact hw.pick [1] (by decide) rfl⟩) ?_
  refine TH.only' 15 rfl (by kernel_rfl) rfl ?_
  refine TL.pcallCod (k := 2) (α := {v : Int // v ∈ ([x67.at_, IntKind.i64.wrap (x67.at_ - 1), 2251799813685248, 2251799813685249] : List Int)}) (fun x => .int .i64 x.1) (fun x => []) rfl rfl rfl rfl rfl Tryz.func22 (by decide) rfl rfl (fun w1 hw hC1 => pick_cod cb w1 hC1 g76 4 ([x67.at_, IntKind.i64.wrap (x67.at_ - 1), 2251799813685248, 2251799813685249]) (hw.neq (i := 0) (j := 2) rfl rfl (by decide) g76 rfl <| congrArg some ·.symm) (Pc.lt (hw.at_ (k := 0) rfl) g76 rfl).2 (by show 0 < ([x67.at_, IntKind.i64.wrap (x67.at_ - 1), 2251799813685248, 2251799813685249] : List Int).length; simp) (fun i v hi => flat_row1 hw (q := 0) rfl hi)) ?_
  rintro ⟨pk, hpk⟩
  dsimp only [List.cons_append, List.nil_append]
  refine zE ?_
  refine TX.he (fun w1 hw => ⟨x67.back, by rw [set_self hx67]; exact hw.pick [1] (by decide) rfl⟩) fun hS => ?_
  refine TH.t 16 rfl (gA (i := i) Tryz.underlying23 prssz65 rfl rfl rfl rfl rfl (by omega)) hS ?_
  refine TH.t 17 rfl (gF prsfld65_10) hS ?_
  refine TH.only' 18 rfl (by kernel_rfl) rfl ?_
  refine TL.rowset (k := 1) (vs := [.int .i64 pk]) (xs' := flat Rs.cells (l.set i (⟨x67.v, x67.run, x67.num, x67.at_, x67.dst, x67.proto, x67.flow, x67.ttl, x67.ans, x67.dbl, pk, x67.src, x67.kind, x67.code, x67.left, x67.id, x67.quo⟩ : Rs))) rfl rfl rfl rfl rfl rfl rfl pcmsz3 aeaone_i64 (by rw [flat_len rs_cel]; show 0 + i * 17 + 10 + 1 ≤ _; omega) (flat_put rs_cel (q := 10) (y := (⟨x67.v, x67.run, x67.num, x67.at_, x67.dst, x67.proto, x67.flow, x67.ttl, x67.ans, x67.dbl, pk, x67.src, x67.kind, x67.code, x67.left, x67.id, x67.quo⟩ : Rs)) hx67 (by show 10 + 1 ≤ 17; decide) rfl) ?_
  try dsimp only [List.set_cons_zero, List.set_cons_succ]
  refine zE ?_
  refine TX.held (fun w1 hw => ⟨pk, hw.pick [1] (by decide) rfl⟩) ?_
  refine TH.done (by kernel_rfl) ?_
  refine zN (zT (zSG (TL.rn 2 rfl (zET (zr ?_)))))
  exact ret_tmp Tryz.results23 rfl (fun w1 hw => ⟨⟨(((some ⟨g_A8, 0, none⟩), c8), l.set i (⟨x67.v, x67.run, x67.num, x67.at_, x67.dst, x67.proto, x67.flow, x67.ttl, x67.ans, x67.dbl, pk, x67.src, x67.kind, x67.code, x67.left, x67.id, x67.quo⟩ : Rs)), ok_set hok (by first | exact hrs2 | (have h9 := hok _ (List.mem_of_getElem? (by assumption)); unfold Rs.Ok at h9 ⊢; dsimp only; omega)), by dsimp only; rw [List.length_set]; omega, by dsimp only; rw [List.length_set]; exact hA81, hA82⟩, by dsimp only; try rw [List.length_set], by dsimp only; try rw [List.length_set]; exact hw.sel (.cons _ (.cons_cons _ (.cons_cons _ (.cons_cons _ (List.Sublist.refl _)))))⟩)
 refine TL.as_ ?_
 refine zET (zd (zSG ?_))
 refine TL.sp bin_eql (fun q81 => ?_) (fun q81 => ?_)
 ·refine TL.as_ ?_
  refine zET (zc (zG (TL.rn 5 rfl (TL.v (gN Tryz.underlying23) ?_))))
  refine TL.pcallCod (k := 1) (α := {q9 : Nat // q9 ≤ 65535 ∧ (1 ≤ ((l.length : Nat) : Int) → (q9 : Int) < (l.length : Nat))}) (fun q9 => .int .i64 ((q9.1 : Nat) : Int)) (fun q9 => []) rfl rfl rfl rfl rfl Tryz.func21 (by decide) rfl rfl (fun w1 hw hC1 => next_cod cb w1 (l.length : Nat) hC1) ?_
  rintro ⟨j, hj1, hj2⟩
  dsimp only [List.cons_append, List.nil_append]
  refine TL.fact (p := ∃ g, A8 = some ⟨g, 0, none⟩) (fun w1 hw => rowA hw (k := 0) rfl (by omega)) ?_
  rintro ⟨g_A8, rfl⟩
  have hi89 : j < l.length := by omega
  obtain ⟨x89, hx89⟩ := ex_at hi89
  have hokx89 := hok x89 (List.mem_of_getElem? hx89)
  unfold Rs.Ok at hokx89
  refine TL.val rfl rfl rfl (gA (i := j) Tryz.underlying23 prssz65 rfl rfl rfl rfl rfl (by omega)) ?_
  refine TL.v (gF prsfld65_2) ?_
  refine TL.val rfl rfl rfl (gives_load (v := .int .i64 x89.num) rfl rfl pcmag3 (fun w1 hw => flat_row rs_cel hw (q := 0) rfl hx89 2 _ rfl)) ?_
  have hi92 : i < l.length := by omega
  obtain ⟨x92, hx92⟩ := ex_at hi92
  have hokx92 := hok x92 (List.mem_of_getElem? hx92)
  unfold Rs.Ok at hokx92
  refine TL.val rfl rfl rfl (gA (i := i) Tryz.underlying23 prssz65 rfl rfl rfl rfl rfl (by omega)) ?_
  refine TL.v (gF prsfld65_2) ?_
  refine TL.rowset (k := 0) (vs := [.int .i64 x89.num]) (xs' := flat Rs.cells (l.set i (⟨x92.v, x92.run, x89.num, x92.at_, x92.dst, x92.proto, x92.flow, x92.ttl, x92.ans, x92.dbl, x92.back, x92.src, x92.kind, x92.code, x92.left, x92.id, x92.quo⟩ : Rs))) rfl rfl rfl rfl rfl rfl rfl pcmsz3 aeaone_i64 (by rw [flat_len rs_cel]; show 0 + i * 17 + 2 + 1 ≤ _; omega) (flat_put rs_cel (q := 2) (y := (⟨x92.v, x92.run, x89.num, x92.at_, x92.dst, x92.proto, x92.flow, x92.ttl, x92.ans, x92.dbl, x92.back, x92.src, x92.kind, x92.code, x92.left, x92.id, x92.quo⟩ : Rs)) hx92 (by show 2 + 1 ≤ 17; decide) rfl) ?_
  try dsimp only [List.set_cons_zero, List.set_cons_succ]
  refine zE (zN (zT (zSG (TL.rn 2 rfl (zET (zr ?_))))))
  exact ret_tmp Tryz.results23 rfl (fun w1 hw => ⟨⟨(((some ⟨g_A8, 0, none⟩), c8), l.set i (⟨x92.v, x92.run, x89.num, x92.at_, x92.dst, x92.proto, x92.flow, x92.ttl, x92.ans, x92.dbl, x92.back, x92.src, x92.kind, x92.code, x92.left, x92.id, x92.quo⟩ : Rs)), ok_set hok (by first | exact hrs2 | (have h9 := hok _ (List.mem_of_getElem? (by assumption)); unfold Rs.Ok at h9 ⊢; dsimp only; omega)), by dsimp only; rw [List.length_set]; omega, by dsimp only; rw [List.length_set]; exact hA81, hA82⟩, by dsimp only; try rw [List.length_set], by dsimp only; try rw [List.length_set]; exact hw⟩)
 refine TL.as_ ?_
 refine zET (zd (zSG ?_))
 refine TL.sp bin_eql (fun q95 => ?_) (fun q95 => ?_)
 ·refine TL.as_ ?_
  refine zET (zc (zG (TL.rn 3 rfl ?_)))
  refine TL.pcallCod (k := 1) (α := {q9 : Nat // q9 ≤ 65535 ∧ (1 ≤ (2 : Int) → (q9 : Int) < 2)}) (fun q9 => .int .i64 ((q9.1 : Nat) : Int)) (fun q9 => []) rfl rfl rfl rfl rfl Tryz.func21 (by decide) rfl rfl (fun w1 hw hC1 => next_cod cb w1 2 hC1) ?_
  rintro ⟨dz, hdz1, hdz2⟩
  dsimp only [List.cons_append, List.nil_append]
  refine TL.val rfl rfl rfl (gives_conv rfl rfl (fun w => conv_fit (k := .i64) Tryz.underlying30 Tryz.underlying3 (by simp only [IntKind.wrap_u32]; omega) w)) ?_
  refine TL.fact (p := ∃ g, A8 = some ⟨g, 0, none⟩) (fun w1 hw => rowA hw (k := 0) rfl (by omega)) ?_
  rintro ⟨g_A8, rfl⟩
  have hi101 : i < l.length := by omega
  obtain ⟨x101, hx101⟩ := ex_at hi101
  have hokx101 := hok x101 (List.mem_of_getElem? hx101)
  unfold Rs.Ok at hokx101
  refine TL.val rfl rfl rfl (gA (i := i) Tryz.underlying23 prssz65 rfl rfl rfl rfl rfl (by omega)) ?_
  refine TL.v (gF prsfld65_4) ?_
  refine TL.rowset (k := 0) (vs := [.int .u32 ((dz : Nat) : Int)]) (xs' := flat Rs.cells (l.set i (⟨x101.v, x101.run, x101.num, x101.at_, ((dz : Nat) : Int), x101.proto, x101.flow, x101.ttl, x101.ans, x101.dbl, x101.back, x101.src, x101.kind, x101.code, x101.left, x101.id, x101.quo⟩ : Rs))) rfl rfl rfl rfl rfl rfl rfl dntsz30 dntone_u32 (by rw [flat_len rs_cel]; show 0 + i * 17 + 4 + 1 ≤ _; omega) (flat_put rs_cel (q := 4) (y := (⟨x101.v, x101.run, x101.num, x101.at_, ((dz : Nat) : Int), x101.proto, x101.flow, x101.ttl, x101.ans, x101.dbl, x101.back, x101.src, x101.kind, x101.code, x101.left, x101.id, x101.quo⟩ : Rs)) hx101 (by show 4 + 1 ≤ 17; decide) rfl) ?_
  try dsimp only [List.set_cons_zero, List.set_cons_succ]
  refine zE (zN (zT (zSG (TL.rn 2 rfl (zET (zr ?_))))))
  exact ret_tmp Tryz.results23 rfl (fun w1 hw => ⟨⟨(((some ⟨g_A8, 0, none⟩), c8), l.set i (⟨x101.v, x101.run, x101.num, x101.at_, ((dz : Nat) : Int), x101.proto, x101.flow, x101.ttl, x101.ans, x101.dbl, x101.back, x101.src, x101.kind, x101.code, x101.left, x101.id, x101.quo⟩ : Rs)), ok_set hok (by first | exact hrs2 | (have h9 := hok _ (List.mem_of_getElem? (by assumption)); unfold Rs.Ok at h9 ⊢; dsimp only; omega)), by dsimp only; rw [List.length_set]; omega, by dsimp only; rw [List.length_set]; exact hA81, hA82⟩, by dsimp only; try rw [List.length_set], by dsimp only; try rw [List.length_set]; exact hw⟩)
 refine TL.as_ ?_
 refine zET (zd (zSG ?_))
 refine TL.sp bin_eql (fun q104 => ?_) (fun q104 => ?_)
 ·refine TL.as_ ?_
  refine zET (zc (zG (TL.rn 4 rfl ?_)))
  refine TL.fact (p := ∃ g, A8 = some ⟨g, 0, none⟩) (fun w1 hw => rowA hw (k := 0) rfl (by omega)) ?_
  rintro ⟨g_A8, rfl⟩
  have hi109 : i < l.length := by omega
  obtain ⟨x109, hx109⟩ := ex_at hi109
  have hokx109 := hok x109 (List.mem_of_getElem? hx109)
  unfold Rs.Ok at hokx109
  refine TL.val rfl rfl rfl (gA (i := i) Tryz.underlying23 prssz65 rfl rfl rfl rfl rfl (by omega)) ?_
  refine TL.v (gF prsfld65_9) ?_
  refine TL.vsplit rfl rfl rfl (gives_load (v := .bool x109.dbl) rfl rfl prsag4 (fun w1 hw => flat_row rs_cel hw (q := 0) rfl hx109 9 _ rfl)) (fun h111 => ?_) (fun h111 => ?_)
  ·refine TL.val rfl rfl rfl (gives_boolnot rfl rfl) ?_
   refine TL.val rfl rfl rfl (gA (i := i) Tryz.underlying23 prssz65 rfl rfl rfl rfl rfl (by omega)) ?_
   refine TL.v (gF prsfld65_9) ?_
   refine TL.rowset (k := 0) (vs := [.bool false]) (xs' := flat Rs.cells (l.set i (⟨x109.v, x109.run, x109.num, x109.at_, x109.dst, x109.proto, x109.flow, x109.ttl, x109.ans, false, x109.back, x109.src, x109.kind, x109.code, x109.left, x109.id, x109.quo⟩ : Rs))) rfl rfl rfl rfl rfl rfl rfl dresz4 dreone_b (by rw [flat_len rs_cel]; show 0 + i * 17 + 9 + 1 ≤ _; omega) (flat_put rs_cel (q := 9) (y := (⟨x109.v, x109.run, x109.num, x109.at_, x109.dst, x109.proto, x109.flow, x109.ttl, x109.ans, false, x109.back, x109.src, x109.kind, x109.code, x109.left, x109.id, x109.quo⟩ : Rs)) hx109 (by show 9 + 1 ≤ 17; decide) rfl) ?_
   try dsimp only [List.set_cons_zero, List.set_cons_succ]
   refine zE (zN (zT (zSG (TL.rn 2 rfl (zET (zr ?_))))))
   exact ret_tmp Tryz.results23 rfl (fun w1 hw => ⟨⟨(((some ⟨g_A8, 0, none⟩), c8), l.set i (⟨x109.v, x109.run, x109.num, x109.at_, x109.dst, x109.proto, x109.flow, x109.ttl, x109.ans, false, x109.back, x109.src, x109.kind, x109.code, x109.left, x109.id, x109.quo⟩ : Rs)), ok_set hok (by first | exact hrs2 | (have h9 := hok _ (List.mem_of_getElem? (by assumption)); unfold Rs.Ok at h9 ⊢; dsimp only; omega)), by dsimp only; rw [List.length_set]; omega, by dsimp only; rw [List.length_set]; exact hA81, hA82⟩, by dsimp only; try rw [List.length_set], by dsimp only; try rw [List.length_set]; exact hw⟩)
  refine TL.val rfl rfl rfl (gives_boolnot rfl rfl) ?_
  refine TL.val rfl rfl rfl (gA (i := i) Tryz.underlying23 prssz65 rfl rfl rfl rfl rfl (by omega)) ?_
  refine TL.v (gF prsfld65_9) ?_
  refine TL.rowset (k := 0) (vs := [.bool true]) (xs' := flat Rs.cells (l.set i (⟨x109.v, x109.run, x109.num, x109.at_, x109.dst, x109.proto, x109.flow, x109.ttl, x109.ans, true, x109.back, x109.src, x109.kind, x109.code, x109.left, x109.id, x109.quo⟩ : Rs))) rfl rfl rfl rfl rfl rfl rfl dresz4 dreone_b (by rw [flat_len rs_cel]; show 0 + i * 17 + 9 + 1 ≤ _; omega) (flat_put rs_cel (q := 9) (y := (⟨x109.v, x109.run, x109.num, x109.at_, x109.dst, x109.proto, x109.flow, x109.ttl, x109.ans, true, x109.back, x109.src, x109.kind, x109.code, x109.left, x109.id, x109.quo⟩ : Rs)) hx109 (by show 9 + 1 ≤ 17; decide) rfl) ?_
  try dsimp only [List.set_cons_zero, List.set_cons_succ]
  refine zE (zN (zT (zSG (TL.rn 2 rfl (zET (zr ?_))))))
  exact ret_tmp Tryz.results23 rfl (fun w1 hw => ⟨⟨(((some ⟨g_A8, 0, none⟩), c8), l.set i (⟨x109.v, x109.run, x109.num, x109.at_, x109.dst, x109.proto, x109.flow, x109.ttl, x109.ans, true, x109.back, x109.src, x109.kind, x109.code, x109.left, x109.id, x109.quo⟩ : Rs)), ok_set hok (by first | exact hrs2 | (have h9 := hok _ (List.mem_of_getElem? (by assumption)); unfold Rs.Ok at h9 ⊢; dsimp only; omega)), by dsimp only; rw [List.length_set]; omega, by dsimp only; rw [List.length_set]; exact hA81, hA82⟩, by dsimp only; try rw [List.length_set], by dsimp only; try rw [List.length_set]; exact hw⟩)
 refine TL.as_ ?_
 refine zET (zd (zSG ?_))
 refine TL.sp bin_eql (fun q116 => ?_) (fun q116 => ?_)
 ·refine TL.as_ ?_
  refine zET (zc (zG (TL.rn 3 rfl ?_)))
  refine TL.pcallCod (k := 1) (α := {q9 : Nat // q9 ≤ 65535 ∧ (1 ≤ (7 : Int) → (q9 : Int) < 7)}) (fun q9 => .int .i64 ((q9.1 : Nat) : Int)) (fun q9 => []) rfl rfl rfl rfl rfl Tryz.func21 (by decide) rfl rfl (fun w1 hw hC1 => next_cod cb w1 7 hC1) ?_
  rintro ⟨kd, hkd1, hkd2⟩
  dsimp only [List.cons_append, List.nil_append]
  refine TL.fact (p := ∃ g, A8 = some ⟨g, 0, none⟩) (fun w1 hw => rowA hw (k := 0) rfl (by omega)) ?_
  rintro ⟨g_A8, rfl⟩
  have hi121 : i < l.length := by omega
  obtain ⟨x121, hx121⟩ := ex_at hi121
  have hokx121 := hok x121 (List.mem_of_getElem? hx121)
  unfold Rs.Ok at hokx121
  refine TL.val rfl rfl rfl (gA (i := i) Tryz.underlying23 prssz65 rfl rfl rfl rfl rfl (by omega)) ?_
  refine TL.v (gF prsfld65_11) ?_
  refine TL.v (gF prsfld63_1) ?_
  refine TL.rowset (k := 0) (vs := [.int .i64 ((kd : Nat) : Int)]) (xs' := flat Rs.cells (l.set i (⟨x121.v, x121.run, x121.num, x121.at_, x121.dst, x121.proto, x121.flow, x121.ttl, x121.ans, x121.dbl, x121.back, x121.src, ((kd : Nat) : Int), x121.code, x121.left, x121.id, x121.quo⟩ : Rs))) rfl rfl rfl rfl rfl rfl rfl pcmsz3 aeaone_i64 (by rw [flat_len rs_cel]; show 0 + i * 17 + 12 + 1 ≤ _; omega) (flat_put rs_cel (q := 12) (y := (⟨x121.v, x121.run, x121.num, x121.at_, x121.dst, x121.proto, x121.flow, x121.ttl, x121.ans, x121.dbl, x121.back, x121.src, ((kd : Nat) : Int), x121.code, x121.left, x121.id, x121.quo⟩ : Rs)) hx121 (by show 12 + 1 ≤ 17; decide) rfl) ?_
  try dsimp only [List.set_cons_zero, List.set_cons_succ]
  refine zE (zN (zT (zSG (TL.rn 2 rfl (zET (zr ?_))))))
  exact ret_tmp Tryz.results23 rfl (fun w1 hw => ⟨⟨(((some ⟨g_A8, 0, none⟩), c8), l.set i (⟨x121.v, x121.run, x121.num, x121.at_, x121.dst, x121.proto, x121.flow, x121.ttl, x121.ans, x121.dbl, x121.back, x121.src, ((kd : Nat) : Int), x121.code, x121.left, x121.id, x121.quo⟩ : Rs)), ok_set hok (by first | exact hrs2 | (have h9 := hok _ (List.mem_of_getElem? (by assumption)); unfold Rs.Ok at h9 ⊢; dsimp only; omega)), by dsimp only; rw [List.length_set]; omega, by dsimp only; rw [List.length_set]; exact hA81, hA82⟩, by dsimp only; try rw [List.length_set], by dsimp only; try rw [List.length_set]; exact hw⟩)
 refine TL.as_ ?_
 refine zET (zd (zk (zN (zT (zSG (TL.rn 2 rfl (zET (zr ?_))))))))
 exact ret_tmp Tryz.results23 rfl (fun w1 hw => ⟨⟨((A8, c8), l), hok, by dsimp only; omega, hA81, hA82⟩, rfl, hw⟩)
end Go.Proofs.YtijmpjfafpodhaaGreat
