/-
  Texts of the proof, joined: DcNet, AnDr, AnMin, FnLaw, FnLaw2, AnEa, AnSrt, FnLaw3, BdRef, Bits, BdBit, BdRR, AnRD, FnLaw4, AnCl, PtCpI, AnSe, AnFd, MnMin, MnWo, MnCh, MnSz, AnLaw, AwLaw, Aw2Law.
-/
import Derived.Test.YtijmpjfafpodhaaGreatMinimalContradictsPk3
import Derived.Test.YtijmpjfafpodhaaGreatMinimalContradictsPk2
import Derived.Shelf.SortM.Plain
import Derived.Shelf.SortM.SortNone
import Derived.Test.YtijmpjfafpodhaaGreatMinimalContradictsPk1
import Derived.Laws.BitsAllLaws
import Derived.Laws.BitsLemmas
set_option linter.unusedVariables false
set_option linter.unusedSimpArgs false
namespace Go.Proofs.YtijmpjfafpodhaaGreat
set_option maxHeartbeats 1000000
open Go.RowKit
set_option maxRecDepth 20000
def TrOk (t : Trc) : Prop := (0 ≤ t.v ∧ t.v ≤ 1) ∧ (167774464 ≤ t.dst ∧ t.dst ≤ 167774466) ∧ (t.proto = 17 ∨ t.proto = 1 ∨ t.proto = 6)
structure Nt where
 v : Int
 dst : Int
 proto : Int
 ps : Sg (Sg Int)
 last : Int
def Nt.cells (n : Nt) : List Value := [.int .i64 n.v, .int .u32 n.dst, .int .i64 n.proto, .slice n.ps.A n.ps.l.length n.ps.c, .int .u32 n.last]
theorem nt_cel : Cel Nt.cells 5 := ⟨fun _ => rfl, fun r u hu => by
 simp only [Nt.cells, List.mem_cons, List.not_mem_nil, or_false] at hu
 rcases hu with rfl | rfl | rfl | rfl | rfl <;> rfl⟩
def PathW (n : Nat) (l : List Int) : Prop := l.length = n ∧ ∀ a ∈ l, 0 ≤ a ∧ a ≤ 167772173
def NtOk (n : Nt) : Prop := TrOk ⟨n.v, n.dst, n.proto⟩ ∧ (1 ≤ n.last ∧ n.last ≤ 167774466) ∧ ∃ lg, 1 ≤ lg ∧ lg ≤ 3 ∧ 1 ≤ n.ps.l.length ∧ n.ps.l.length ≤ 3 ∧ ∀ s ∈ n.ps.l, PathW lg s.l
theorem ad_snoc {p : List Int} {x : Int} (h : ∀ a ∈ p, 0 ≤ a ∧ a ≤ 167772173) (hx : 0 ≤ x ∧ x ≤ 167772173) : ∀ a ∈ p ++ [x], 0 ≤ a ∧ a ≤ 167772173 := fun a ha => by
 rcases List.mem_append.1 ha with ha | ha
 ·exact h a ha
 rw [List.mem_singleton.1 ha]; exact hx
theorem pw_snoc {pp : List (Sg Int)} {s : Sg Int} {n : Nat} (h : ∀ s ∈ pp, PathW n s.l) (hs : PathW n s.l) : ∀ x ∈ pp ++ [s], PathW n x.l := fun a ha => by
 rcases List.mem_append.1 ha with ha | ha
 ·exact h a ha
 rw [List.mem_singleton.1 ha]; exact hs
def netP (p : Sg (Sg Int)) : List Pc := .row (.slice p.A p.l.length p.c) 96 1 p.l.length (flat sgc p.l) :: segG 30 1 (flat (ic .u32)) p.l
theorem netP_noAbs (p : Sg (Sg Int)) : noAbs (netP p) = true := by
 have h := segG_noAbs (e := 30) (size := 1) (enc := flat (ic .u32)) p.l
 simp only [noAbs, netP, List.all_cons, Bool.and_eq_true] at h ⊢
 exact ⟨rfl, h⟩
section
variable {w0 : Base} {w : World} {α : Type} {e : TypeId} {size : Nat} {enc : List α → List Value} {L P O : List Pc} {ss : List (Sg α)} {s : Sg α}
theorem Pm.tuckEnd (h : Pm w0 (.row (.slice s.A s.l.length s.c) e size s.l.length (enc s.l) :: (P ++ (segG e size enc ss ++ O))) w) : Pm w0 (P ++ (segG e size enc (ss ++ [s]) ++ O)) w := by
 refine h.permute ?_
 have h1 : segG e size enc (ss ++ [s]) = segG e size enc ss ++ [.row (.slice s.A s.l.length s.c) e size s.l.length (enc s.l)] := List.map_append
 rw [h1, List.append_assoc]
 refine List.perm_middle.symm.trans (List.Perm.append_left P ?_)
 exact List.perm_middle.symm
theorem Pm.netOut {p : Sg (Sg Int)} {a : Pc} (h : Pm w0 (.row (.slice p.A p.l.length p.c) 96 1 p.l.length (flat sgc p.l) :: a :: (segG 30 1 (flat (ic .u32)) p.l ++ O)) w) : Pm w0 (netP p ++ a :: O) w := by
 refine h.permute (List.Perm.cons _ ?_)
 exact List.perm_middle.symm
theorem seg_mem {T : List Pc} (h : s ∈ ss) : Pc.row (.slice s.A s.l.length s.c) e size s.l.length (enc s.l) ∈ segG e size enc ss ++ T := List.mem_append_left _ (List.mem_map_of_mem (f := Sg.pc e size enc) h)
theorem segA {A : Option Addr} {n c : Nat} {xs : List Value} (h : Pm w0 L w) (hm : Pc.row (.slice A n c) e size n xs ∈ L) (hn : 0 < n) : ∃ g, A = some ⟨g, 0, none⟩ := by
 obtain ⟨k, hk⟩ := List.getElem?_of_mem hm
 exact rowA h hk hn
theorem seg_cell {c : α → List Value} {k g i : Nat} {x : α} (K : Cel c k) (h : Pm w0 L w) (hm : Pc.row (.slice s.A s.l.length s.c) e k s.l.length (flat c s.l) ∈ L) (hA : s.A = some ⟨g, 0, none⟩) (hx : s.l[i]? = some x) (j : Nat) (u : Value) (hu : (c x)[j]? = some u) : w.cell? ⟨g, 0 + i * k + j, none⟩ = some u := by
 obtain ⟨q, hq⟩ := List.getElem?_of_mem hm
 rw [hA] at hq
 exact flat_row K h hq hx j u hu
end
theorem dntzv119 (w : World) : (zeroValue 92).run Tryz.prog w = .ok (.agg #[.int .i64 0, .int .u32 0, .int .i64 0, .slice none 0 0, .int .u32 0]) w := rfl
theorem dntbld119_60100 (a0_0 : Int) (a0_1 : Int) (a0_2 : Int) (w : World) : (Instr.build 92 #[(0, .agg #[.int .i64 a0_0, .int .u32 a0_1, .int .i64 a0_2])]).run Tryz.prog w = .ok (.agg #[.int .i64 a0_0, .int .u32 a0_1, .int .i64 a0_2, .slice none 0 0, .int .u32 0]) w := by kernel_rfl
theorem dntsz119 (w : World) : (sizeOf 92).run Tryz.prog w = .ok 5 w := rfl
theorem dntone_i64u32i64su32 {a0 : Int} {a1 : Int} {a2 : Int} {a3 : Option Addr} {n3 c3 : Nat} {a4 : Int} : ∀ u ∈ [(.int .i64 a0 : Value), .int .u32 a1, .int .i64 a2, .slice a3 n3 c3, .int .u32 a4], u.oneCell' = true := by
 intro u hu
 simp only [List.mem_cons, List.not_mem_nil, or_false] at hu
 rcases hu with rfl | rfl | rfl | rfl | rfl <;> rfl
theorem dntfld119_0 : FA Tryz.prog 92 0 0 := fun g o w => by kernel_rfl
theorem dntfld119_2 : FA Tryz.prog 92 2 4 := fun g o w => by kernel_rfl
theorem dntsz30 (w : World) : (sizeOf 30).run Tryz.prog w = .ok 1 w := rfl
theorem dntone_u32 {a0 : Int} : ∀ u ∈ [(.int .u32 a0 : Value)], u.oneCell' = true := by
 intro u hu
 rw [List.mem_singleton] at hu
 subst hu; rfl
theorem dntfld119_1 : FA Tryz.prog 92 1 3 := fun g o w => by kernel_rfl
theorem dntag117 (w : World) : (isAgg 90).run Tryz.prog w = .ok false w := rfl
theorem dntsz64 (w : World) : (sizeOf 96).run Tryz.prog w = .ok 1 w := rfl
theorem dntag64 (w : World) : (isAgg 96).run Tryz.prog w = .ok false w := rfl
theorem dntbs64_1_5377 (a0_0 : Int) (w : World) : (Instr.buildSlice 96 1 #[(0, .int .u32 a0_0)]).run Tryz.prog w = .ok (.slice (some ⟨w.heap.size, 0, none⟩) 1 1) (w.alloc (.cells [.int .u32 a0_0].toArray 30)) := by kernel_rfl
theorem dntel64 : Elem Tryz.prog 96 30 1 4 := Elem.mk' Tryz.underlying96 (z := .int .u32 0) (by kernel_rfl) rfl (by omega) (by omega)
theorem dntbs117_1_58639 (a0_0 : Option Addr) (a0_0n a0_0c : Nat) (w : World) : (Instr.buildSlice 90 1 #[(0, .slice a0_0 a0_0n a0_0c)]).run Tryz.prog w = .ok (.slice (some ⟨w.heap.size, 0, none⟩) 1 1) (w.alloc (.cells [.slice a0_0 a0_0n a0_0c].toArray 96)) := by kernel_rfl
theorem dntel117 : Elem Tryz.prog 90 96 1 24 := Elem.mk' Tryz.underlying90 (z := .slice none 0 0) (by kernel_rfl) rfl (by omega) (by omega)
theorem dntsz117 (w : World) : (sizeOf 90).run Tryz.prog w = .ok 1 w := rfl
theorem dntone_s {a0 : Option Addr} {n0 c0 : Nat} : ∀ u ∈ [(.slice a0 n0 c0 : Value)], u.oneCell' = true := by
 intro u hu
 rw [List.mem_singleton] at hu
 subst hu; rfl
theorem dntag119 (w : World) : (isAgg 92).run Tryz.prog w = .ok true w := rfl
theorem dproto_cod (cb : Nat) (w : World) (hC : Cod w cb) :
  Calls Tryz.prog 119 #[.pointer (some ⟨cb, 0, none⟩)] w fun e w' => ∃ x : {v : Int // v = 17 ∨ v = 1 ∨ v = 6}, e = .returned (.int .i64 x.1) ∧ Codr (fun w => Cod w cb) cb w ([]) w' := by
 refine begin_ (vs := [.pointer (some ⟨cb, 0, none⟩)]) (I := Pm ⟨w, cb⟩ (.abs cb (fun w => Cod w cb) :: oths cb w)) Tryz.func119 rfl rfl rfl ?_ (Pm.codes hC (cod_cells hC) (cod_stab cb))
 refine zSG (TL.as_ ?_)
 refine zET (zSG (TL.mv ?_))
 refine TL.prowS (e := 3) (size := 1) (cs := flat (ic .i64) [17, 1, 6]) rfl rfl rfl rfl rfl (fun w => pcmbs106_3_44640 _ _ _ w) (by decide) rfl (fun g4 => ?_)
 refine TL.pcallCod (k := 1) (α := {v : Int // v ∈ ([17, 1, 6] : List Int)}) (fun x => .int .i64 x.1) (fun x => []) rfl rfl rfl rfl rfl Tryz.func22 (by decide) rfl rfl (fun w1 hw hC1 => pick_cod cb w1 hC1 g4 3 ([17, 1, 6]) (hw.neq (i := 0) (j := 1) rfl rfl (by decide) g4 rfl <| congrArg some ·.symm) (Pc.lt (hw.at_ (k := 0) rfl) g4 rfl).2 (by show 0 < ([17, 1, 6] : List Int).length; simp) (fun i v hi => flat_row1 hw (q := 0) rfl hi)) ?_
 rintro ⟨v, hv⟩
 dsimp only [List.cons_append, List.nil_append]
 have hvb : v = 17 ∨ v = 1 ∨ v = 6 := by simpa using hv
 refine TL.as_ ?_
 refine zET (zr ?_)
 exact ret_tmp Tryz.results119 rfl (fun w1 hw => ⟨⟨v, hvb⟩, rfl, Pm.codr [] (hw.sel (.cons _ (.cons_cons _ (List.Sublist.refl _)))) rfl⟩)
theorem dtrace_cod (cb : Nat) (w : World) (hC : Cod w cb) :
  Calls Tryz.prog 68 #[.pointer (some ⟨cb, 0, none⟩)] w fun e w' => ∃ x : {t : Trc // TrOk t}, e = .returned (.agg x.1.cells.toArray) ∧ Codr (fun w => Cod w cb) cb w ([]) w' := by
 refine begin_ (vs := [.pointer (some ⟨cb, 0, none⟩)]) (I := Pm ⟨w, cb⟩ (.abs cb (fun w => Cod w cb) :: oths cb w)) Tryz.func68 rfl rfl rfl ?_ (Pm.codes hC (cod_cells hC) (cod_stab cb))
 refine zSG ?_
 refine TL.pnew rfl rfl rfl (exec_alloc (cs := [.int .i64 0, .int .u32 0, .int .i64 0]) rfl prszv32 rfl) (fun g2 => ?_)
 refine zET (zSG (TL.mv ?_))
 refine TL.pcallCod (k := 1) (α := {q9 : Nat // q9 ≤ 65535 ∧ (1 ≤ (2 : Int) → (q9 : Int) < 2)}) (fun q9 => .int .i64 ((q9.1 : Nat) : Int)) (fun q9 => []) rfl rfl rfl rfl rfl Tryz.func21 (by decide) rfl rfl (fun w1 hw hC1 => next_cod cb w1 2 hC1) ?_
 rintro ⟨a0, ha01, ha02⟩
 dsimp only [List.cons_append, List.nil_append]
 refine TL.mv ?_
 refine TL.pcallCod (k := 1) (α := {q9 : Nat // q9 ≤ 65535 ∧ (1 ≤ (3 : Int) → (q9 : Int) < 3)}) (fun q9 => .int .i64 ((q9.1 : Nat) : Int)) (fun q9 => []) rfl rfl rfl rfl rfl Tryz.func21 (by decide) rfl rfl (fun w1 hw hC1 => next_cod cb w1 3 hC1) ?_
 rintro ⟨a1, ha11, ha12⟩
 dsimp only [List.cons_append, List.nil_append]
 refine TL.v (gD ((167774464 + a1 : Nat) : Int)) ?_
 refine TL.val rfl rfl rfl (gives_conv rfl rfl (fun w => conv_fit (k := .i64) Tryz.underlying30 Tryz.underlying3 (by simp only [IntKind.wrap_u32]; omega) w)) ?_
 refine TL.mv ?_
 refine TL.pcallCod (k := 1) (α := {v : Int // v = 17 ∨ v = 1 ∨ v = 6}) (fun x => .int .i64 x.1) (fun x => []) rfl rfl rfl rfl rfl Tryz.func119 (by decide) rfl rfl (fun w1 hw hC1 => dproto_cod cb w1 hC1) ?_
 rintro ⟨pp, hpp⟩
 dsimp only [List.cons_append, List.nil_append]
 refine TL.val rfl rfl rfl (gives_build (v := .agg #[.int .i64 ((a0 : Nat) : Int), .int .u32 ((167774464 + a1 : Nat) : Int), .int .i64 pp]) rfl rfl (fun w => prsbld32_57312 _ _ _ w)) ?_
 refine TL.pstore (k := 0) (vs := [.int .i64 ((a0 : Nat) : Int), .int .u32 ((167774464 + a1 : Nat) : Int), .int .i64 pp]) rfl rfl rfl rfl rfl rfl rfl prssz32 prsone_i64u32i64 (by show 3 ≤ 3; decide) rfl ?_
 refine zET (zr ?_)
 exact pm_ret_cell (k := 0) Tryz.results68 rfl rfl Tryz.underlying32 rfl rfl (fun w1 hw => ⟨⟨⟨((a0 : Nat) : Int), ((167774464 + a1 : Nat) : Int), pp⟩, by unfold TrOk; dsimp only; omega⟩, rfl, Pm.codr [] (hw.sel (.cons _ (.cons_cons _ (List.Sublist.refl _)))) rfl⟩)
theorem scene_cod (cb : Nat) (w : World) (hC : Cod w cb) :
  Calls Tryz.prog 63 #[.pointer (some ⟨cb, 0, none⟩)] w fun e w' => ∃ x : {y : Nt // NtOk y}, e = .returned (.agg x.1.cells.toArray) ∧ Codr (fun w => Cod w cb) cb w (netP x.1.ps) w' := by
 refine begin_ (vs := [.pointer (some ⟨cb, 0, none⟩)]) (I := Pm ⟨w, cb⟩ (.abs cb (fun w => Cod w cb) :: oths cb w)) Tryz.func63 rfl rfl rfl ?_ (Pm.codes hC (cod_cells hC) (cod_stab cb))
 refine zSG ?_
 refine TL.pnew rfl rfl rfl (exec_alloc (cs := [.int .i64 0, .int .u32 0, .int .i64 0, .slice none 0 0, .int .u32 0]) rfl dntzv119 rfl) (fun g2 => ?_)
 refine zET (zSG (TL.mv ?_))
 refine TL.pcallCod (k := 1) (α := {t : Trc // TrOk t}) (fun x => .agg (x.1.cells).toArray) (fun x => []) rfl rfl rfl rfl rfl Tryz.func68 (by decide) rfl rfl (fun w1 hw hC1 => dtrace_cod cb w1 hC1) ?_
 rintro ⟨tr, htr⟩
 dsimp only [List.cons_append, List.nil_append]
 refine TL.val rfl rfl rfl (gives_build (v := .agg #[.int .i64 tr.v, .int .u32 tr.dst, .int .i64 tr.proto, .slice none 0 0, .int .u32 0]) rfl rfl (fun w => dntbld119_60100 _ _ _ w)) ?_
 refine TL.pnew rfl rfl rfl (exec_alloc (cs := [.int .i64 0, .int .u32 0, .int .i64 0, .slice none 0 0, .int .u32 0]) rfl dntzv119 rfl) (fun g3 => ?_)
 refine TL.pstore (k := 0) (vs := [.int .i64 tr.v, .int .u32 tr.dst, .int .i64 tr.proto, .slice none 0 0, .int .u32 0]) rfl rfl rfl rfl rfl rfl rfl dntsz119 dntone_i64u32i64su32 (by show 5 ≤ 5; decide) rfl ?_
 refine zET (zS ?_)
 have htr2 := htr
 unfold TrOk at htr2
 refine zG (TL.v (gF dntfld119_0) ?_)
 refine TL.v (gF pcmfld32_1) ?_
 refine TL.v (gL 0 pcmag30) ?_
 refine TL.v (gF dntfld119_2) ?_
 refine TL.pstore (k := 0) (vs := [.int .u32 tr.dst]) rfl rfl rfl rfl rfl rfl rfl dntsz30 dntone_u32 (by show 5 ≤ 5; decide) rfl ?_
 refine zET ?_
 refine TC.join (α := {a : Int // 1 ≤ a ∧ a ≤ 167774466}) (fun y => [(0, .pointer (some ⟨cb, 0, none⟩)), (2, .pointer (some ⟨g2, 0, none⟩)), (3, .pointer (some ⟨g3, 0, none⟩))]) (fun y => Pm ⟨w, cb⟩ ([.blk g3 92 [.int .i64 tr.v, .int .u32 tr.dst, .int .i64 tr.proto, .slice none 0 0, .int .u32 y.1], .blk g2 92 [.int .i64 0, .int .u32 0, .int .i64 0, .slice none 0 0, .int .u32 0], .abs cb (fun w => Cod w cb)] ++ oths cb w)) ?_ ?_
 ·refine zSG (TL.mv ?_)
  refine TL.pcallCod (k := 2) (α := Bool) (fun x => .bool x) (fun x => []) rfl rfl rfl rfl rfl Tryz.func18 (by decide) rfl rfl (fun w1 hw hC1 => dbool_cod cb w1 hC1 4 (by decide)) ?_
  rintro b0
  dsimp only [List.cons_append, List.nil_append]
  refine zET ?_
  refine TC.split (t := b0) rfl (fun c17 => ?_) (fun c17 => ?_)
  ·refine zG (TL.mv ?_)
   refine TL.pcallCod (k := 2) (α := {a : Int // 167772161 ≤ a ∧ a ≤ 167772173}) (fun x => .int .u32 x.1) (fun x => []) rfl rfl rfl rfl rfl Tryz.func67 (by decide) rfl rfl (fun w1 hw hC1 => daddr_cod cb w1 hC1) ?_
   rintro ⟨ad, had1, had2⟩
   dsimp only [List.cons_append, List.nil_append]
   refine TL.v (gF dntfld119_2) ?_
   refine TL.pstore (k := 0) (vs := [.int .u32 ad]) rfl rfl rfl rfl rfl rfl rfl dntsz30 dntone_u32 (by show 5 ≤ 5; decide) rfl ?_
   refine zE ?_
   exact TX.joined (⟨ad, by omega⟩) (⟨rfl, rfl, rfl, trivial⟩) (fun w1 hw => hw)
  refine zk ?_
  exact TX.joined (⟨tr.dst, by omega⟩) (⟨rfl, rfl, rfl, trivial⟩) (fun w1 hw => hw)
 rintro ⟨la, hla⟩
 dsimp only at hla ⊢
 refine zSG (TL.mv ?_)
 refine TL.pcallCod (k := 2) (α := {q9 : Nat // q9 ≤ 65535 ∧ (1 ≤ (3 : Int) → (q9 : Int) < 3)}) (fun q9 => .int .i64 ((q9.1 : Nat) : Int)) (fun q9 => []) rfl rfl rfl rfl rfl Tryz.func21 (by decide) rfl rfl (fun w1 hw hC1 => next_cod cb w1 3 hC1) ?_
 rintro ⟨lg, hlg1, hlg2⟩
 dsimp only [List.cons_append, List.nil_append]
 refine TL.v (gD ((lg + 1 : Nat) : Int)) ?_
 refine TL.as_ ?_
 refine zET (zS (zSG (TL.as_ ?_)))
 refine zET (zB (TC.nilrow 96 1 ?_))
 refine TC.loop_ (α := {y : Nat × (Option Addr × Nat) × List (Sg Int) // y.1 ≤ 3 ∧ y.2.2.length = y.1 ∧ (∀ s ∈ y.2.2, PathW (lg + 1) s.l) ∧ y.2.2.length ≤ y.2.1.2 ∧ y.2.1.2 ≤ maxLen}) (fun y => [(0, .pointer (some ⟨cb, 0, none⟩)), (2, .pointer (some ⟨g2, 0, none⟩)), (3, .pointer (some ⟨g3, 0, none⟩)), (4, .int .i64 ((lg + 1 : Nat) : Int)), (5, .int .i64 ((y.1.1 : Nat) : Int))]) (fun y => Pm ⟨w, cb⟩ ([.row (.slice y.1.2.1.1 y.1.2.2.length y.1.2.1.2) 96 1 y.1.2.2.length (flat sgc y.1.2.2), .blk g3 92 [.int .i64 tr.v, .int .u32 tr.dst, .int .i64 tr.proto, .slice y.1.2.1.1 y.1.2.2.length y.1.2.1.2, .int .u32 la], .blk g2 92 [.int .i64 0, .int .u32 0, .int .i64 0, .slice none 0 0, .int .u32 0], .abs cb (fun w => Cod w cb)] ++ (segG 30 1 (flat (ic .u32)) y.1.2.2 ++ oths cb w))) (fun y => 3 - y.1.1) (⟨(0, (none, 0), []), Nat.zero_le _, rfl, fun s hs => absurd hs List.not_mem_nil, Nat.le_refl _, Nat.zero_le _⟩) ⟨rfl, rfl, rfl, rfl, rfl, trivial⟩ (fun w1 hw => hw) ?_
 rintro ⟨⟨f, ⟨Ap, cp⟩, pp⟩, hf, hfl, hpw, hpc, hpm⟩
 dsimp only at hf hfl hpw hpc hpm ⊢
 refine zS (zSG (TL.rn 2 rfl ?_))
 refine TL.pcallCod (k := 3) (α := {q9 : Nat // q9 ≤ 65535 ∧ (1 ≤ (3 : Int) → (q9 : Int) < 3)}) (fun q9 => .int .i64 ((q9.1 : Nat) : Int)) (fun q9 => []) rfl rfl rfl rfl rfl Tryz.func21 (by decide) rfl rfl (fun w1 hw hC1 => next_cod cb w1 3 hC1) ?_
 rintro ⟨nf, hnf1, hnf2⟩
 dsimp only [List.cons_append, List.nil_append]
 refine TL.v (gD ((1 + nf : Nat) : Int)) ?_
 refine TL.sp bin_lss (fun q28 => ?_) (fun q28 => ?_)
 ·refine zET (zc (zk (zT (zS (zB (zSG (TL.as_ ?_)))))))
  refine zET (zS (zSG (TL.as_ ?_)))
  refine zET (zB (TC.nilrow 30 1 ?_))
  refine TC.loop_ (α := {y : Nat × (Option Addr × Nat) × List Int // y.1 ≤ lg + 1 ∧ y.2.2.length = y.1 ∧ (∀ a ∈ y.2.2, 0 ≤ a ∧ a ≤ 167772173) ∧ y.2.2.length ≤ y.2.1.2 ∧ y.2.1.2 ≤ maxLen}) (fun y => [(0, .pointer (some ⟨cb, 0, none⟩)), (2, .pointer (some ⟨g2, 0, none⟩)), (3, .pointer (some ⟨g3, 0, none⟩)), (4, .int .i64 ((lg + 1 : Nat) : Int)), (5, .int .i64 ((f : Nat) : Int)), (7, .int .i64 ((y.1.1 : Nat) : Int)), (6, .slice y.1.2.1.1 y.1.2.2.length y.1.2.1.2)]) (fun y => Pm ⟨w, cb⟩ ([.row (.slice y.1.2.1.1 y.1.2.2.length y.1.2.1.2) 30 1 y.1.2.2.length (flat (ic .u32) y.1.2.2), .row (.slice Ap pp.length cp) 96 1 pp.length (flat sgc pp), .blk g3 92 [.int .i64 tr.v, .int .u32 tr.dst, .int .i64 tr.proto, .slice Ap pp.length cp, .int .u32 la], .blk g2 92 [.int .i64 0, .int .u32 0, .int .i64 0, .slice none 0 0, .int .u32 0], .abs cb (fun w => Cod w cb)] ++ (segG 30 1 (flat (ic .u32)) pp ++ oths cb w))) (fun y => lg + 1 - y.1.1) (⟨(0, (none, 0), []), Nat.zero_le _, rfl, fun s hs => absurd hs List.not_mem_nil, Nat.le_refl _, Nat.zero_le _⟩) ⟨rfl, rfl, rfl, rfl, rfl, rfl, rfl, trivial⟩ (fun w1 hw => hw) ?_
  rintro ⟨⟨i, ⟨Aq, cq⟩, p⟩, hi, hil, hpr, hqc, hqm⟩
  dsimp only at hi hil hpr hqc hqm ⊢
  refine zS (zSG (TL.rn 2 rfl ?_))
  refine TL.sp bin_lss (fun q33 => ?_) (fun q33 => ?_)
  ·refine zET (zc (zk (zT (zS (zB (zSG (TL.mv ?_)))))))
   refine TL.pcallCod (k := 4) (α := {a : Int // 167772161 ≤ a ∧ a ≤ 167772173}) (fun x => .int .u32 x.1) (fun x => []) rfl rfl rfl rfl rfl Tryz.func67 (by decide) rfl rfl (fun w1 hw hC1 => daddr_cod cb w1 hC1) ?_
   rintro ⟨ad, had1, had2⟩
   dsimp only [List.cons_append, List.nil_append]
   refine TL.as_ ?_
   refine zET (zS (zSG (TL.mv ?_)))
   refine TL.pcallCod (k := 4) (α := Bool) (fun x => .bool x) (fun x => []) rfl rfl rfl rfl rfl Tryz.func18 (by decide) rfl rfl (fun w1 hw hC1 => dbool_cod cb w1 hC1 6 (by decide)) ?_
   rintro b1
   dsimp only [List.cons_append, List.nil_append]
   refine zET ?_
   refine TC.split (t := b1) rfl (fun c39 => ?_) (fun c39 => ?_)
   ·refine zG (TL.as_ ?_)
    refine zET (zS (zSG (TL.mv ?_)))
    refine TL.sp bin_gtr (fun q41 => ?_) (fun q41 => ?_)
    ·refine TL.rn 2 rfl (TL.ov (gF dntfld119_1) ?_)
     refine TL.ov (gL 2 dntag117) ?_
     refine TL.gu ?_
     refine TL.fact (p := ∃ g, Ap = some ⟨g, 0, none⟩) (fun w1 hw => rowA hw (k := 1) rfl (by omega)) ?_
     rintro ⟨g_Ap, rfl⟩
     have hi46 : 0 < pp.length := by omega
     obtain ⟨x46, hx46⟩ := ex_at hi46
     refine TL.val rfl rfl rfl (gA (i := 0) Tryz.underlying90 dntsz64 rfl rfl rfl rfl rfl (by omega)) ?_
     refine TL.gu ?_
     refine TL.val rfl rfl rfl (gives_load (v := .slice x46.A x46.l.length x46.c) rfl rfl dntag64 (fun w1 hw => flat_row sgc_cel hw (q := 1) rfl hx46 0 _ rfl)) ?_
     refine TL.ov (gN Tryz.underlying96) ?_
     refine TL.gu ?_
     refine TL.sp bin_lss (fun q49 => ?_) (fun q49 => ?_)
     ·refine TL.rn 3 rfl (TL.gu ?_)
      refine TL.pcallCod (k := 4) (α := Bool) (fun x => .bool x) (fun x => []) rfl rfl rfl rfl rfl Tryz.func18 (by decide) rfl rfl (fun w1 hw hC1 => dbool_cod cb w1 hC1 3 (by decide)) ?_
      rintro b2
      dsimp only [List.cons_append, List.nil_append]
      cases b2 with
      | true =>
       refine TL.rn 2 rfl (zET (zd (zk (zT (zG (TL.rn 2 rfl ?_))))))
       refine TL.prowS (e := 30) (size := 1) (cs := flat (ic .u32) [0]) rfl rfl rfl rfl rfl (fun w => dntbs64_1_5377 _ w) (by decide) rfl (fun g65 => ?_)
       refine TL.appendT (k := 1) rfl rfl rfl rfl Tryz.underlying96 dntel64 rfl rfl rfl (fun w1 hw => pm_reads hw (k := 0) rfl) (flat_one (ic_cel .u32) _) (by show _ * 4 ≤ _; omega) ((p ++ [0]).length) (by rw [List.length_append]; rfl) (flat (ic .u32) (p ++ [0])) ((flat_app _ _).symm) (fun A66 c66 hA661 hA662 => ?_)
       refine TL.as_ ?_
       refine zE (zN (zT (zG (TL.mv ?_))))
       refine TL.v (gD ((i + 1 : Nat) : Int)) ?_
       refine TL.as_ ?_
       refine zE ?_
       exact TX.round (⟨(i + 1, (A66, c66), p ++ [0]), by dsimp only; omega, by dsimp only; rw [List.length_append]; show p.length + 1 = i + 1; omega, ad_snoc hpr (by omega), hA661, hA662⟩) (by show lg + 1 - (i + 1) < lg + 1 - i; omega) ⟨rfl, rfl, rfl, rfl, rfl, rfl, rfl, trivial⟩ (fun w1 hw => hw.sel (.cons _ (.cons_cons _ (.cons_cons _ (.cons_cons _ (.cons_cons _ (.cons_cons _ (List.Sublist.refl _))))))))
      | false =>
       refine TL.rn 2 rfl (zET (zc (zG (TL.v (gF dntfld119_1) ?_))))
       refine TL.v (gL 2 dntag117) ?_
       refine TL.val rfl rfl rfl (gA (i := 0) Tryz.underlying90 dntsz64 rfl rfl rfl rfl rfl (by omega)) ?_
       refine TL.val rfl rfl rfl (gives_load (v := .slice x46.A x46.l.length x46.c) rfl rfl dntag64 (fun w1 hw => flat_row sgc_cel hw (q := 1) rfl hx46 0 _ rfl)) ?_
       refine TL.mv ?_
       have hmm61 := seg_mem (e := 30) (size := 1) (enc := flat (ic .u32)) (T := oths cb w) (List.mem_of_getElem? hx46)
       refine TL.fact (p := ∃ g, x46.A = some ⟨g, 0, none⟩) (fun w1 hw => segA hw (List.mem_of_mem_drop (i := 5) (by exact hmm61)) (by omega)) ?_
       rintro ⟨gx61, hgx61⟩
       obtain ⟨z61, hz61⟩ : ∃ z, x46.l[i]? = some z := ⟨_, List.getElem?_eq_getElem (by omega)⟩
       refine TL.val rfl rfl rfl (gA (i := i) Tryz.underlying96 dntsz30 rfl rfl rfl rfl hgx61 (by omega)) ?_
       refine TL.val rfl rfl rfl (gives_load (v := .int .u32 z61) rfl rfl pcmag30 (fun w1 hw => seg_cell (ic_cel .u32) hw (List.mem_of_mem_drop (i := 5) (by exact hmm61)) hgx61 hz61 0 _ rfl)) ?_
       have hzr := (hpw x46 (List.mem_of_getElem? hx46)).2 z61 (List.mem_of_getElem? hz61)
       refine TL.as_ ?_
       refine zET (zG (TL.rn 2 rfl ?_))
       refine TL.prowS (e := 30) (size := 1) (cs := flat (ic .u32) [z61]) rfl rfl rfl rfl rfl (fun w => dntbs64_1_5377 _ w) (by decide) rfl (fun g65 => ?_)
       refine TL.appendT (k := 1) rfl rfl rfl rfl Tryz.underlying96 dntel64 rfl rfl rfl (fun w1 hw => pm_reads hw (k := 0) rfl) (flat_one (ic_cel .u32) _) (by show _ * 4 ≤ _; omega) ((p ++ [z61]).length) (by rw [List.length_append]; rfl) (flat (ic .u32) (p ++ [z61])) ((flat_app _ _).symm) (fun A66 c66 hA661 hA662 => ?_)
       refine TL.as_ ?_
       refine zE (zN (zT (zG (TL.mv ?_))))
       refine TL.v (gD ((i + 1 : Nat) : Int)) ?_
       refine TL.as_ ?_
       refine zE ?_
       exact TX.round (⟨(i + 1, (A66, c66), p ++ [z61]), by dsimp only; omega, by dsimp only; rw [List.length_append]; show p.length + 1 = i + 1; omega, ad_snoc hpr (by exact hzr), hA661, hA662⟩) (by show lg + 1 - (i + 1) < lg + 1 - i; omega) ⟨rfl, rfl, rfl, rfl, rfl, rfl, rfl, trivial⟩ (fun w1 hw => hw.sel (.cons _ (.cons_cons _ (.cons_cons _ (.cons_cons _ (.cons_cons _ (.cons_cons _ (List.Sublist.refl _))))))))
     refine TL.rn 6 rfl (zET (zd (zk (zT (zG (TL.rn 2 rfl ?_))))))
     refine TL.prowS (e := 30) (size := 1) (cs := flat (ic .u32) [0]) rfl rfl rfl rfl rfl (fun w => dntbs64_1_5377 _ w) (by decide) rfl (fun g65 => ?_)
     refine TL.appendT (k := 1) rfl rfl rfl rfl Tryz.underlying96 dntel64 rfl rfl rfl (fun w1 hw => pm_reads hw (k := 0) rfl) (flat_one (ic_cel .u32) _) (by show _ * 4 ≤ _; omega) ((p ++ [0]).length) (by rw [List.length_append]; rfl) (flat (ic .u32) (p ++ [0])) ((flat_app _ _).symm) (fun A66 c66 hA661 hA662 => ?_)
     refine TL.as_ ?_
     refine zE (zN (zT (zG (TL.mv ?_))))
     refine TL.v (gD ((i + 1 : Nat) : Int)) ?_
     refine TL.as_ ?_
     refine zE ?_
     exact TX.round (⟨(i + 1, (A66, c66), p ++ [0]), by dsimp only; omega, by dsimp only; rw [List.length_append]; show p.length + 1 = i + 1; omega, ad_snoc hpr (by omega), hA661, hA662⟩) (by show lg + 1 - (i + 1) < lg + 1 - i; omega) ⟨rfl, rfl, rfl, rfl, rfl, rfl, rfl, trivial⟩ (fun w1 hw => hw.sel (.cons _ (.cons_cons _ (.cons_cons _ (.cons_cons _ (.cons_cons _ (.cons_cons _ (List.Sublist.refl _))))))))
    refine TL.rn 14 rfl (zET (zd (zk (zT (zG (TL.rn 2 rfl ?_))))))
    refine TL.prowS (e := 30) (size := 1) (cs := flat (ic .u32) [0]) rfl rfl rfl rfl rfl (fun w => dntbs64_1_5377 _ w) (by decide) rfl (fun g65 => ?_)
    refine TL.appendT (k := 1) rfl rfl rfl rfl Tryz.underlying96 dntel64 rfl rfl rfl (fun w1 hw => pm_reads hw (k := 0) rfl) (flat_one (ic_cel .u32) _) (by show _ * 4 ≤ _; omega) ((p ++ [0]).length) (by rw [List.length_append]; rfl) (flat (ic .u32) (p ++ [0])) ((flat_app _ _).symm) (fun A66 c66 hA661 hA662 => ?_)
    refine TL.as_ ?_
    refine zE (zN (zT (zG (TL.mv ?_))))
    refine TL.v (gD ((i + 1 : Nat) : Int)) ?_
    refine TL.as_ ?_
    refine zE ?_
    exact TX.round (⟨(i + 1, (A66, c66), p ++ [0]), by dsimp only; omega, by dsimp only; rw [List.length_append]; show p.length + 1 = i + 1; omega, ad_snoc hpr (by omega), hA661, hA662⟩) (by show lg + 1 - (i + 1) < lg + 1 - i; omega) ⟨rfl, rfl, rfl, rfl, rfl, rfl, rfl, trivial⟩ (fun w1 hw => hw.sel (.cons _ (.cons_cons _ (.cons_cons _ (.cons_cons _ (.cons_cons _ (.cons_cons _ (List.Sublist.refl _))))))))
   refine zk (zT (zS (zSG ?_)))
   refine TL.mv ?_
   refine TL.sp bin_gtr (fun q41 => ?_) (fun q41 => ?_)
   ·refine TL.rn 2 rfl (TL.ov (gF dntfld119_1) ?_)
    refine TL.ov (gL 2 dntag117) ?_
    refine TL.gu ?_
    refine TL.fact (p := ∃ g, Ap = some ⟨g, 0, none⟩) (fun w1 hw => rowA hw (k := 1) rfl (by omega)) ?_
    rintro ⟨g_Ap, rfl⟩
    have hi46 : 0 < pp.length := by omega
    obtain ⟨x46, hx46⟩ := ex_at hi46
    refine TL.val rfl rfl rfl (gA (i := 0) Tryz.underlying90 dntsz64 rfl rfl rfl rfl rfl (by omega)) ?_
    refine TL.gu ?_
    refine TL.val rfl rfl rfl (gives_load (v := .slice x46.A x46.l.length x46.c) rfl rfl dntag64 (fun w1 hw => flat_row sgc_cel hw (q := 1) rfl hx46 0 _ rfl)) ?_
    refine TL.ov (gN Tryz.underlying96) ?_
    refine TL.gu ?_
    refine TL.sp bin_lss (fun q49 => ?_) (fun q49 => ?_)
    ·refine TL.rn 3 rfl (TL.gu ?_)
     refine TL.pcallCod (k := 4) (α := Bool) (fun x => .bool x) (fun x => []) rfl rfl rfl rfl rfl Tryz.func18 (by decide) rfl rfl (fun w1 hw hC1 => dbool_cod cb w1 hC1 3 (by decide)) ?_
     rintro b2
     dsimp only [List.cons_append, List.nil_append]
     cases b2 with
     | true =>
      refine TL.rn 2 rfl (zET (zd (zk (zT (zG (TL.rn 2 rfl ?_))))))
      refine TL.prowS (e := 30) (size := 1) (cs := flat (ic .u32) [ad]) rfl rfl rfl rfl rfl (fun w => dntbs64_1_5377 _ w) (by decide) rfl (fun g65 => ?_)
      refine TL.appendT (k := 1) rfl rfl rfl rfl Tryz.underlying96 dntel64 rfl rfl rfl (fun w1 hw => pm_reads hw (k := 0) rfl) (flat_one (ic_cel .u32) _) (by show _ * 4 ≤ _; omega) ((p ++ [ad]).length) (by rw [List.length_append]; rfl) (flat (ic .u32) (p ++ [ad])) ((flat_app _ _).symm) (fun A66 c66 hA661 hA662 => ?_)
      refine TL.as_ ?_
      refine zE (zN (zT (zG (TL.mv ?_))))
      refine TL.v (gD ((i + 1 : Nat) : Int)) ?_
      refine TL.as_ ?_
      refine zE ?_
      exact TX.round (⟨(i + 1, (A66, c66), p ++ [ad]), by dsimp only; omega, by dsimp only; rw [List.length_append]; show p.length + 1 = i + 1; omega, ad_snoc hpr (by omega), hA661, hA662⟩) (by show lg + 1 - (i + 1) < lg + 1 - i; omega) ⟨rfl, rfl, rfl, rfl, rfl, rfl, rfl, trivial⟩ (fun w1 hw => hw.sel (.cons _ (.cons_cons _ (.cons_cons _ (.cons_cons _ (.cons_cons _ (.cons_cons _ (List.Sublist.refl _))))))))
     | false =>
      refine TL.rn 2 rfl (zET (zc (zG (TL.v (gF dntfld119_1) ?_))))
      refine TL.v (gL 2 dntag117) ?_
      refine TL.val rfl rfl rfl (gA (i := 0) Tryz.underlying90 dntsz64 rfl rfl rfl rfl rfl (by omega)) ?_
      refine TL.val rfl rfl rfl (gives_load (v := .slice x46.A x46.l.length x46.c) rfl rfl dntag64 (fun w1 hw => flat_row sgc_cel hw (q := 1) rfl hx46 0 _ rfl)) ?_
      refine TL.mv ?_
      have hmm61 := seg_mem (e := 30) (size := 1) (enc := flat (ic .u32)) (T := oths cb w) (List.mem_of_getElem? hx46)
      refine TL.fact (p := ∃ g, x46.A = some ⟨g, 0, none⟩) (fun w1 hw => segA hw (List.mem_of_mem_drop (i := 5) (by exact hmm61)) (by omega)) ?_
      rintro ⟨gx61, hgx61⟩
      obtain ⟨z61, hz61⟩ : ∃ z, x46.l[i]? = some z := ⟨_, List.getElem?_eq_getElem (by omega)⟩
      refine TL.val rfl rfl rfl (gA (i := i) Tryz.underlying96 dntsz30 rfl rfl rfl rfl hgx61 (by omega)) ?_
      refine TL.val rfl rfl rfl (gives_load (v := .int .u32 z61) rfl rfl pcmag30 (fun w1 hw => seg_cell (ic_cel .u32) hw (List.mem_of_mem_drop (i := 5) (by exact hmm61)) hgx61 hz61 0 _ rfl)) ?_
      have hzr := (hpw x46 (List.mem_of_getElem? hx46)).2 z61 (List.mem_of_getElem? hz61)
      refine TL.as_ ?_
      refine zET (zG (TL.rn 2 rfl ?_))
      refine TL.prowS (e := 30) (size := 1) (cs := flat (ic .u32) [z61]) rfl rfl rfl rfl rfl (fun w => dntbs64_1_5377 _ w) (by decide) rfl (fun g65 => ?_)
      refine TL.appendT (k := 1) rfl rfl rfl rfl Tryz.underlying96 dntel64 rfl rfl rfl (fun w1 hw => pm_reads hw (k := 0) rfl) (flat_one (ic_cel .u32) _) (by show _ * 4 ≤ _; omega) ((p ++ [z61]).length) (by rw [List.length_append]; rfl) (flat (ic .u32) (p ++ [z61])) ((flat_app _ _).symm) (fun A66 c66 hA661 hA662 => ?_)
      refine TL.as_ ?_
      refine zE (zN (zT (zG (TL.mv ?_))))
      refine TL.v (gD ((i + 1 : Nat) : Int)) ?_
      refine TL.as_ ?_
      refine zE ?_
      exact TX.round (⟨(i + 1, (A66, c66), p ++ [z61]), by dsimp only; omega, by dsimp only; rw [List.length_append]; show p.length + 1 = i + 1; omega, ad_snoc hpr (by exact hzr), hA661, hA662⟩) (by show lg + 1 - (i + 1) < lg + 1 - i; omega) ⟨rfl, rfl, rfl, rfl, rfl, rfl, rfl, trivial⟩ (fun w1 hw => hw.sel (.cons _ (.cons_cons _ (.cons_cons _ (.cons_cons _ (.cons_cons _ (.cons_cons _ (List.Sublist.refl _))))))))
    refine TL.rn 6 rfl (zET (zd (zk (zT (zG (TL.rn 2 rfl ?_))))))
    refine TL.prowS (e := 30) (size := 1) (cs := flat (ic .u32) [ad]) rfl rfl rfl rfl rfl (fun w => dntbs64_1_5377 _ w) (by decide) rfl (fun g65 => ?_)
    refine TL.appendT (k := 1) rfl rfl rfl rfl Tryz.underlying96 dntel64 rfl rfl rfl (fun w1 hw => pm_reads hw (k := 0) rfl) (flat_one (ic_cel .u32) _) (by show _ * 4 ≤ _; omega) ((p ++ [ad]).length) (by rw [List.length_append]; rfl) (flat (ic .u32) (p ++ [ad])) ((flat_app _ _).symm) (fun A66 c66 hA661 hA662 => ?_)
    refine TL.as_ ?_
    refine zE (zN (zT (zG (TL.mv ?_))))
    refine TL.v (gD ((i + 1 : Nat) : Int)) ?_
    refine TL.as_ ?_
    refine zE ?_
    exact TX.round (⟨(i + 1, (A66, c66), p ++ [ad]), by dsimp only; omega, by dsimp only; rw [List.length_append]; show p.length + 1 = i + 1; omega, ad_snoc hpr (by omega), hA661, hA662⟩) (by show lg + 1 - (i + 1) < lg + 1 - i; omega) ⟨rfl, rfl, rfl, rfl, rfl, rfl, rfl, trivial⟩ (fun w1 hw => hw.sel (.cons _ (.cons_cons _ (.cons_cons _ (.cons_cons _ (.cons_cons _ (.cons_cons _ (List.Sublist.refl _))))))))
   refine TL.rn 14 rfl (zET (zd (zk (zT (zG (TL.rn 2 rfl ?_))))))
   refine TL.prowS (e := 30) (size := 1) (cs := flat (ic .u32) [ad]) rfl rfl rfl rfl rfl (fun w => dntbs64_1_5377 _ w) (by decide) rfl (fun g65 => ?_)
   refine TL.appendT (k := 1) rfl rfl rfl rfl Tryz.underlying96 dntel64 rfl rfl rfl (fun w1 hw => pm_reads hw (k := 0) rfl) (flat_one (ic_cel .u32) _) (by show _ * 4 ≤ _; omega) ((p ++ [ad]).length) (by rw [List.length_append]; rfl) (flat (ic .u32) (p ++ [ad])) ((flat_app _ _).symm) (fun A66 c66 hA661 hA662 => ?_)
   refine TL.as_ ?_
   refine zE (zN (zT (zG (TL.mv ?_))))
   refine TL.v (gD ((i + 1 : Nat) : Int)) ?_
   refine TL.as_ ?_
   refine zE ?_
   exact TX.round (⟨(i + 1, (A66, c66), p ++ [ad]), by dsimp only; omega, by dsimp only; rw [List.length_append]; show p.length + 1 = i + 1; omega, ad_snoc hpr (by omega), hA661, hA662⟩) (by show lg + 1 - (i + 1) < lg + 1 - i; omega) ⟨rfl, rfl, rfl, rfl, rfl, rfl, rfl, trivial⟩ (fun w1 hw => hw.sel (.cons _ (.cons_cons _ (.cons_cons _ (.cons_cons _ (.cons_cons _ (.cons_cons _ (List.Sublist.refl _))))))))
  refine zET (zd (zx (zX (zX (zM (zT (zG (TL.v (gF dntfld119_1) ?_))))))))
  refine TL.v (gL 2 dntag117) ?_
  refine TL.mv ?_
  refine TL.prowS (e := 96) (size := 1) (cs := flat sgc [(⟨Aq, cq, p⟩ : Sg Int)]) rfl rfl rfl rfl rfl (fun w => dntbs117_1_58639 _ _ _ w) (by decide) rfl (fun g70 => ?_)
  refine TL.appendT (k := 2) rfl rfl rfl rfl Tryz.underlying90 dntel117 rfl rfl rfl (fun w1 hw => pm_reads hw (k := 0) rfl) (flat_one sgc_cel _) (by show _ * 24 ≤ _; omega) ((pp ++ [(⟨Aq, cq, p⟩ : Sg Int)]).length) (by rw [List.length_append]; rfl) (flat sgc (pp ++ [(⟨Aq, cq, p⟩ : Sg Int)])) ((flat_app _ _).symm) (fun A71 c71 hA711 hA712 => ?_)
  refine TL.v (gF dntfld119_1) ?_
  refine TL.pstore (k := 3) (vs := [.slice A71 ((pp ++ [(⟨Aq, cq, p⟩ : Sg Int)]).length) c71]) rfl rfl rfl rfl rfl rfl rfl dntsz117 dntone_s (by show 4 ≤ 5; decide) rfl ?_
  refine zE (zN (zT (zG (TL.mv ?_))))
  refine TL.v (gD ((f + 1 : Nat) : Int)) ?_
  refine TL.as_ ?_
  refine zE ?_
  exact TX.round (⟨(f + 1, (A71, c71), pp ++ [(⟨Aq, cq, p⟩ : Sg Int)]), by dsimp only; omega, by dsimp only; rw [List.length_append]; show pp.length + 1 = f + 1; omega, pw_snoc hpw ⟨by show p.length = _; omega, hpr⟩, hA711, hA712⟩) (by show 3 - (f + 1) < 3 - f; omega) ⟨rfl, rfl, rfl, rfl, rfl, trivial⟩ (fun w1 hw => Pm.tuckEnd (s := ⟨Aq, cq, p⟩) (P := [.row (.slice A71 ((pp ++ [(⟨Aq, cq, p⟩ : Sg Int)]).length) c71) 96 1 ((pp ++ [(⟨Aq, cq, p⟩ : Sg Int)]).length) (flat sgc (pp ++ [(⟨Aq, cq, p⟩ : Sg Int)])), .blk g3 92 [.int .i64 tr.v, .int .u32 tr.dst, .int .i64 tr.proto, .slice A71 ((pp ++ [(⟨Aq, cq, p⟩ : Sg Int)]).length) c71, .int .u32 la], .blk g2 92 [.int .i64 0, .int .u32 0, .int .i64 0, .slice none 0 0, .int .u32 0], .abs cb (fun w => Cod w cb)]) (hw.sel (.cons _ (.cons_cons _ (.cons_cons _ (.cons_cons _ (.cons_cons _ (.cons_cons _ (List.Sublist.refl _)))))))))
 refine zET (zd (zx (zX (zX (zM (zT (zSG (TL.v (gV 1 (.agg #[.int .i64 tr.v, .int .u32 tr.dst, .int .i64 tr.proto, .slice Ap pp.length cp, .int .u32 la]) dntag119 dntsz119) ?_))))))))
 refine TL.pstore (k := 2) (vs := [.int .i64 tr.v, .int .u32 tr.dst, .int .i64 tr.proto, .slice Ap pp.length cp, .int .u32 la]) rfl rfl rfl rfl rfl rfl rfl dntsz119 dntone_i64u32i64su32 (by show 5 ≤ 5; decide) rfl ?_
 refine zET (zr ?_)
 exact pm_ret_cell (k := 2) Tryz.results63 rfl rfl Tryz.underlying92 rfl rfl (fun w1 hw => ⟨⟨⟨tr.v, tr.dst, tr.proto, ⟨Ap, cp, pp⟩, la⟩, ⟨htr, hla, lg + 1, by omega, by omega, by show 1 ≤ pp.length; omega, by show pp.length ≤ 3; omega, hpw⟩⟩, rfl, Pm.codr (netP ⟨Ap, cp, pp⟩) (Pm.netOut (p := ⟨Ap, cp, pp⟩) (hw.sel (.cons_cons _ (.cons _ (.cons _ (.cons_cons _ (List.Sublist.refl _))))))) (netP_noAbs _)⟩)
set_option maxRecDepth 20000
def RuG (u : Ru) : Prop := (1 ≤ u.los ∧ u.los ≤ 3) ∧ (1 ≤ u.gro ∧ u.gro ≤ 6) ∧ 1 ≤ u.prb ∧ u.prb ≤ 2
theorem RuG.vld {u : Ru} (h : RuG u) : vldRu u = true := by unfold RuG at h; unfold vldRu; exact decide_eq_true (by omega)
theorem adrzv28 (w : World) : (zeroValue 28).run Tryz.prog w = .ok (.agg #[.int .i64 0, .int .i64 0, .int .i64 0]) w := rfl
theorem adrbld28_57310 (a0_0 : Int) (a2_0 : Int) (a1_0 : Int) (w : World) : (Instr.build 28 #[(0, .int .i64 a0_0), (2, .int .i64 a2_0), (1, .int .i64 a1_0)]).run Tryz.prog w = .ok (.agg #[.int .i64 a0_0, .int .i64 a1_0, .int .i64 a2_0]) w := by kernel_rfl
theorem drule_cod (cb : Nat) (w : World) (hC : Cod w cb) :
  Calls Tryz.prog 20 #[.pointer (some ⟨cb, 0, none⟩)] w fun e w' => ∃ x : {u : Ru // RuG u}, e = .returned (.agg x.1.cells.toArray) ∧ Codr (fun w => Cod w cb) cb w ([]) w' := by
 refine begin_ (vs := [.pointer (some ⟨cb, 0, none⟩)]) (I := Pm ⟨w, cb⟩ (.abs cb (fun w => Cod w cb) :: oths cb w)) Tryz.func20 rfl rfl rfl ?_ (Pm.codes hC (cod_cells hC) (cod_stab cb))
 refine zSG ?_
 refine TL.pnew rfl rfl rfl (exec_alloc (cs := [.int .i64 0, .int .i64 0, .int .i64 0]) rfl adrzv28 rfl) (fun g2 => ?_)
 refine zET (zSG (TL.mv ?_))
 refine TL.pcallCod (k := 1) (α := {q9 : Nat // q9 ≤ 65535 ∧ (1 ≤ (3 : Int) → (q9 : Int) < 3)}) (fun q9 => .int .i64 ((q9.1 : Nat) : Int)) (fun q9 => []) rfl rfl rfl rfl rfl Tryz.func21 (by decide) rfl rfl (fun w1 hw hC1 => next_cod cb w1 3 hC1) ?_
 rintro ⟨a0, ha01, ha02⟩
 dsimp only [List.cons_append, List.nil_append]
 refine TL.v (gD ((1 + a0 : Nat) : Int)) ?_
 refine TL.mv ?_
 refine TL.pcallCod (k := 1) (α := {q9 : Nat // q9 ≤ 65535 ∧ (1 ≤ (2 : Int) → (q9 : Int) < 2)}) (fun q9 => .int .i64 ((q9.1 : Nat) : Int)) (fun q9 => []) rfl rfl rfl rfl rfl Tryz.func21 (by decide) rfl rfl (fun w1 hw hC1 => next_cod cb w1 2 hC1) ?_
 rintro ⟨a1, ha11, ha12⟩
 dsimp only [List.cons_append, List.nil_append]
 refine TL.v (gD ((1 + a1 : Nat) : Int)) ?_
 refine TL.mv ?_
 refine TL.pcallCod (k := 1) (α := {q9 : Nat // q9 ≤ 65535 ∧ (1 ≤ (6 : Int) → (q9 : Int) < 6)}) (fun q9 => .int .i64 ((q9.1 : Nat) : Int)) (fun q9 => []) rfl rfl rfl rfl rfl Tryz.func21 (by decide) rfl rfl (fun w1 hw hC1 => next_cod cb w1 6 hC1) ?_
 rintro ⟨a2, ha21, ha22⟩
 dsimp only [List.cons_append, List.nil_append]
 refine TL.v (gD ((1 + a2 : Nat) : Int)) ?_
 refine TL.val rfl rfl rfl (gives_build (v := .agg #[.int .i64 ((1 + a0 : Nat) : Int), .int .i64 ((1 + a2 : Nat) : Int), .int .i64 ((1 + a1 : Nat) : Int)]) rfl rfl (fun w => adrbld28_57310 _ _ _ w)) ?_
 refine TL.pstore (k := 0) (vs := [.int .i64 ((1 + a0 : Nat) : Int), .int .i64 ((1 + a2 : Nat) : Int), .int .i64 ((1 + a1 : Nat) : Int)]) rfl rfl rfl rfl rfl rfl rfl aprsz28 prsone_i64i64i64 (by show 3 ≤ 3; decide) rfl ?_
 refine zET (zr ?_)
 exact pm_ret_cell (k := 0) Tryz.results20 rfl rfl Tryz.underlying28 rfl rfl (fun w1 hw => ⟨⟨⟨((1 + a0 : Nat) : Int), ((1 + a2 : Nat) : Int), ((1 + a1 : Nat) : Int)⟩, by unfold RuG; dsimp only; omega⟩, rfl, Pm.codr [] (hw.sel (.cons _ (.cons_cons _ (List.Sublist.refl _)))) rfl⟩)
open Go.RowKit Go.Shelf
theorem rpk_len (x : Rp) : x.keys.length = 8 := rfl
theorem rpk_inj {x y : Rp} (h : x.keys = y.keys) : x = y := by
  cases x; cases y
  simp only [Rp.keys, List.cons.injEq, and_true] at h
  simp only [Rp.mk.injEq]
  exact h
def Rp.cand (p : Rp) : Rp := { p with at_ := 0 }
def Rp.when (p : Rp) (t : Int) : Rp := { p with at_ := t }
theorem like_iff {p q : Rp} : p.when q.at_ = q ↔ p.cand = q.cand := by
  cases p; cases q; simp [Rp.when, Rp.cand]
theorem cand_eq {p q : Rp} (h : p.cand = q.cand) (ha : p.at_ = q.at_) : p = q := by
  rw [← like_iff, ← ha] at h; exact h
def IsMin (P S : Rp → Prop) (out : List Rp) : Prop := AscK Rp.keys out ∧ ∀ p, p ∈ out ↔ S p ∧ P p ∧ ∀ q, S q → q.cand = p.cand → P q → p.at_ ≤ q.at_
section
variable {P S S' : Rp → Prop} {out o1 : List Rp} {p : Rp}
theorem IsMin.eq {a b : List Rp} (h : IsMin P S a) (h' : IsMin P S b) : a = b := ascK_eq rpk_len h.1 h'.1 fun x => by rw [h.2, h'.2]
theorem IsMin.congr (h : IsMin P S out) (hS : ∀ p, S p ↔ S' p) : IsMin P S' out := by
  have : S = S' := funext fun p => propext (hS p)
  rw [← this]; exact h
theorem IsMin.nil (hS : ∀ p, ¬ S p) : IsMin P S [] := ⟨List.Pairwise.nil, fun p => ⟨fun h => absurd h List.not_mem_nil, fun h => absurd h.1 (hS p)⟩⟩
theorem least {R : Rp → Prop} (h0 : ∀ p, R p → 0 ≤ p.at_) : ∀ (n : Nat) {q : Rp}, R q → q.at_ ≤ n → ∃ m, R m ∧ ∀ x, R x → m.at_ ≤ x.at_
  | 0, q, hq, hn => ⟨q, hq, fun x hx => by have := h0 x hx; have := h0 q hq; omega⟩
  | n + 1, q, hq, hn => by
    by_cases h : ∃ x, R x ∧ x.at_ ≤ n
    · obtain ⟨x, hx, h1⟩ := h
      exact least h0 n hx h1
    · exact ⟨q, hq, fun x hx => by
        have : ¬ x.at_ ≤ n := fun h1 => h ⟨x, hx, h1⟩
        omega⟩
theorem IsMin.ex (h : IsMin P S out) (h0 : ∀ p, P p → 0 ≤ p.at_) {q : Rp} (hS : S q) (hP : P q) : ∃ m ∈ out, m.cand = q.cand ∧ m.at_ ≤ q.at_ := by
  obtain ⟨m, ⟨h1, h2, h3⟩, h4⟩ := least (R := fun x => S x ∧ P x ∧ x.cand = q.cand) (fun x hx => h0 x hx.2.1) q.at_.toNat ⟨hS, hP, rfl⟩ (by have := h0 q hP; omega)
  exact ⟨m, (h.2 m).2 ⟨h1, h2, fun x hx hc hp => h4 x ⟨hx, hp, hc.trans h3⟩⟩, h3, h4 q ⟨hS, hP, rfl⟩⟩
theorem IsMin.skip (h : IsMin P S out) (hn : P p → ∃ q ∈ out, q.cand = p.cand ∧ q.at_ ≤ p.at_) : IsMin P (fun x => S x ∨ x = p) out := by
  refine ⟨h.1, fun x => ?_⟩
  rw [h.2]
  constructor
  · rintro ⟨h1, h2, h3⟩
    refine ⟨.inl h1, h2, fun q hq hc hP => ?_⟩
    rcases hq with hq | rfl
    · exact h3 q hq hc hP
    · obtain ⟨m, hm, hmc, hma⟩ := hn hP
      obtain ⟨m1, m2, m3⟩ := (h.2 m).1 hm
      have := h3 m m1 (hmc.trans hc) m2
      omega
  · rintro ⟨h1, h2, h3⟩
    rcases h1 with h1 | rfl
    · exact ⟨h1, h2, fun q hq => h3 q (.inl hq)⟩
    · obtain ⟨m, hm, hmc, hma⟩ := hn h2
      obtain ⟨m1, m2, m3⟩ := (h.2 m).1 hm
      have := h3 m (.inl m1) hmc m2
      have e : m = x := cand_eq hmc (by omega)
      subst e
      exact ⟨m1, m2, m3⟩
theorem IsMin.put (h : IsMin P S out) (h0 : ∀ p, P p → 0 ≤ p.at_) (hP : P p) (hn : ∀ q ∈ out, q.cand = p.cand → p.at_ < q.at_) (ho : AscK Rp.keys o1) (hm : ∀ x, x ∈ o1 ↔ x ∈ out ∧ x.cand ≠ p.cand) {k : Nat} (h1 : ∀ y ∈ o1.take k, lexI y.keys p.keys < 0) (h2 : ∀ y ∈ o1.drop k, lexI p.keys y.keys < 0) : IsMin P (fun x => S x ∨ x = p) (o1.take k ++ p :: o1.drop k) := by
  refine ⟨ascK_put rpk_len ho h1 h2, fun x => ?_⟩
  rw [mem_put, hm, h.2]
  constructor
  · rintro (⟨⟨a1, a2, a3⟩, a4⟩ | rfl)
    · refine ⟨.inl a1, a2, fun q hq hc hP => ?_⟩
      rcases hq with hq | rfl
      · exact a3 q hq hc hP
      · exact absurd hc.symm a4
    · refine ⟨.inr rfl, hP, fun q hq hc hQ => ?_⟩
      rcases hq with hq | rfl
      · obtain ⟨m, hm1, hmc, hma⟩ := h.ex h0 hq hQ
        have := hn m hm1 (hmc.trans hc)
        omega
      · exact Int.le_refl _
  · rintro ⟨a1, a2, a3⟩
    rcases a1 with a1 | rfl
    · by_cases hc : x.cand = p.cand
      · have b1 := a3 p (.inr rfl) hc.symm hP
        have hx : x ∈ out := (h.2 x).2 ⟨a1, a2, fun q hq => a3 q (.inl hq)⟩
        have := hn x hx hc
        omega
      · exact .inl ⟨⟨a1, a2, fun q hq => a3 q (.inl hq)⟩, hc⟩
    · exact .inr rfl
end
open Go.RowKit Go.Shelf
def IsTm (l : List Rs) (p : Rp) : Prop := ∃ y, IsSt l p.trc p.flow y ∧ ∃ r ∈ y, r.at_ = p.at_
def IsFnd (es : List En) (l : List Rs) (u : Ru) (out : List Rp) : Prop := IsMin (PrP es l u) (IsTm l) out
theorem IsFnd.eq {es : List En} {l : List Rs} {u : Ru} {a b : List Rp} (h : IsFnd es l u a) (h' : IsFnd es l u b) : a = b := IsMin.eq h h'
theorem PrP.at0 {es : List En} {l : List Rs} {u : Ru} {p : Rp} (h : PrP es l u p) : 0 ≤ p.at_ := by
  have := h.2.1
  unfold vldRp at this
  simp only [Bool.and_eq_true, decide_eq_true_eq] at this
  omega
def CandOf (es : List En) (r : Rs) (p : Rp) : Prop := p.trc = trcR r ∧ p.flow = r.flow ∧ ((p.kind = 1 ∧ p.ttl = 0 ∧ p.prov = 0) ∨ (p.kind = 3 ∧ p.ttl = r.ttl ∧ p.prov = 0) ∨ (p.kind = 2 ∧ r.ans = true ∧ p.ttl = r.ttl ∧ p.prov = provR es r.src r.back))
theorem IsSt.mem {l y : List Rs} {t : Trc} {flow : Int} (h : IsSt l t flow y) (r : Rs) : r ∈ y ↔ r ∈ l ∧ trcR r = t ∧ usbRs r = true ∧ r.flow = flow := by
  obtain ⟨x, ⟨o, h1, rfl⟩, rfl⟩ := h
  rw [List.mem_filter, List.mem_filter, h1.2]
  simp only [Bool.and_eq_true, decide_eq_true_eq, usbRs]
  exact ⟨fun ⟨⟨⟨a, b⟩, c⟩, d, e⟩ => ⟨a, c, d, e⟩, fun ⟨a, c, d, e⟩ => ⟨⟨⟨a, d.2⟩, c⟩, d, e⟩⟩
theorem CandOf.like {es : List En} {r : Rs} {p q : Rp} (h : CandOf es r p) (hc : q.cand = p.cand) : CandOf es r q := by
  have h2 := (like_iff (p := p) (q := q)).2 hc.symm
  rw [← h2]
  exact h
def PrS (es : List En) (y : List Rs) (u : Ru) (p : Rp) : Prop :=
  (p.kind = 1 ∧ p.ttl = 0 ∧ p.prov = 0 ∧ bhF y u.los p.at_ = true) ∨
  (p.kind = 3 ∧ p.prov = 0 ∧ CgF (eaL (atL y p.ttl) p.at_) (laL (atL y p.ttl) p.at_) u.prb u.gro) ∨
  (p.kind = 2 ∧ p.prov ≠ 0 ∧ DtF (fun r : Rs => provR es r.src r.back) (atL y p.ttl) p.prov p.at_)
theorem lookR_mem (a t : Int) : ∀ (es : List En) (q : En × Bool), (es.foldl (stepL a t) q).1 ∈ es ∨ (es.foldl (stepL a t) q) = q
  | [], q => .inr rfl
  | e :: es, q => by
    rw [List.foldl_cons]
    rcases lookR_mem a t es (stepL a t q e) with h | h
    · exact .inl (List.mem_cons_of_mem _ h)
    · rw [h]
      unfold stepL
      split
      · exact .inl List.mem_cons_self
      · exact .inr rfl
theorem provR_range {es : List En} (a t : Int) : 0 ≤ provR es a t ∧ provR es a t ≤ 2147483647 := by
  unfold provR lookV
  split
  · rename_i hv
    rcases lookR_mem a t es (En.zero, false) with h | h
    · unfold lookR
      obtain ⟨i, hi⟩ := List.getElem?_of_mem h
      have hv2 := hv
      simp only [validR, Bool.and_eq_true, decide_eq_true_eq, List.all_eq_true, List.mem_range] at hv2
      have h3 := hv2.2 i (List.getElem?_eq_some_iff.1 hi).1
      unfold okAt at h3
      rw [hi] at h3
      simp only [validE, Bool.and_eq_true, decide_eq_true_eq] at h3
      omega
    · unfold lookR; rw [h]; exact ⟨by decide, by decide⟩
  · exact ⟨by decide, by decide⟩
theorem chk_probe {r : Rs} (h : chkR r = 0) : chkR ⟨r.v, 0, 0, 0, r.dst, r.proto, r.flow, 1, false, false, 0, 0, 0, 0, 0, 0, 0⟩ = 0 := by
  have hr : r.inRange := Decidable.by_contra fun h1 => by have := chk_range h1; omega
  unfold Rs.inRange at hr
  unfold chkR at h ⊢
  rw [if_neg (by rw [Decidable.not_not]; unfold Rs.inRange; omega)] at h
  split at h
  · cases h
  · rename_i hp
    rw [if_neg (by rw [Decidable.not_not]; unfold Rs.inRange; dsimp only; omega), if_neg (by dsimp only; exact hp)]
    simp [Rs.noAns]
theorem vld_probe {r : Rs} {p : Rp} (h : vldRs r = true) (ht : p.trc = trcR r) (hf : p.flow = r.flow) : vldRs p.rs = true := by
  unfold Rp.trc trcR at ht
  injection ht with h1 h2 h3
  unfold vldRs at h ⊢
  simp only [Bool.and_eq_true, decide_eq_true_eq] at h ⊢
  unfold Rp.rs
  rw [h1, h2, h3, hf]
  exact ⟨⟨chk_probe h.1.1, h.1.2⟩, rfl⟩
theorem prS_iff {es : List En} {l y : List Rs} {u : Ru} {p : Rp} (hu : vldRu u = true) (he : validR es = true) (hy : IsSt l p.trc p.flow y) {r : Rs} (hr : r ∈ y) (ha : r.at_ = p.at_) : PrS es y u p ↔ PrP es l u p := by
  have hm := (hy.mem r).1 hr
  have hv : vldRs r = true := by have := hm.2.2.1; unfold usbRs at this; simp only [Bool.and_eq_true] at this; exact this.2
  have hin := vld_in hv
  unfold Rs.inRange at hin
  have hprb : 1 ≤ u.prb := by unfold vldRu at hu; have := of_decide_eq_true hu; omega
  have hvp := vld_probe hv hm.2.1.symm hm.2.2.2.symm
  have httl : ∀ r ∈ y, 1 ≤ r.ttl ∧ r.ttl ≤ 255 := fun r hr => by
    have h1 := ((hy.mem r).1 hr).2.2.1
    unfold usbRs at h1
    simp only [Bool.and_eq_true] at h1
    have := vld_in h1.2
    unfold Rs.inRange at this
    omega
  constructor
  · rintro (⟨a1, a2, a3, a4⟩ | ⟨a1, a2, a3⟩ | ⟨a1, a2, a3⟩)
    · refine ⟨hu, ?_, he, .inl ⟨a1, y, hy, a4⟩⟩
      unfold vldRp; rw [hvp, Bool.true_and]; exact decide_eq_true (by omega)
    · refine ⟨hu, ?_, he, .inr (.inr ⟨a1, .inr ⟨y, hy, a3⟩⟩)⟩
      obtain ⟨e, h1, _⟩ := a3
      obtain ⟨s, hs, _⟩ := ea_mem h1
      have h8 := List.mem_filter.1 hs
      simp only [Bool.and_eq_true, decide_eq_true_eq] at h8
      have := httl s h8.1
      unfold vldRp; rw [hvp, Bool.true_and]; exact decide_eq_true (by omega)
    · refine ⟨hu, ?_, he, .inr (.inl ⟨a1, y, hy, a3⟩)⟩
      obtain ⟨a, ha, _, b, hb, hb1, hb2, hb3⟩ := a3
      have h8 := List.mem_filter.1 hb
      simp only [Bool.and_eq_true, decide_eq_true_eq] at h8
      have := httl b h8.1
      have h9 := provR_range (es := es) b.src b.back
      dsimp only at hb2
      rw [hb2] at h9
      unfold vldRp; rw [hvp, Bool.true_and]; exact decide_eq_true (by omega)
  · rintro ⟨_, h2, _, h4⟩
    unfold vldRp at h2
    simp only [Bool.and_eq_true, decide_eq_true_eq] at h2
    rcases h4 with ⟨a1, y', a2, a3⟩ | ⟨a1, y', a2, a3⟩ | ⟨a1, a2⟩
    · rw [← hy.eq a2] at a3; exact .inl ⟨a1, by omega, by omega, a3⟩
    · rw [← hy.eq a2] at a3; exact .inr (.inr ⟨a1, by omega, a3⟩)
    · rcases a2 with a2 | ⟨y', a2, a3⟩
      · omega
      · rw [← hy.eq a2] at a3; exact .inr (.inl ⟨a1, by omega, a3⟩)
open Go.RowKit Go.Shelf
theorem CandOf.ok {es : List En} {x : Rs} {p : Rp} (h : CandOf es x p) (hx : x.Ok) : p.Ok := by
  have h1 := h.1
  unfold Rp.trc trcR at h1
  injection h1 with a b c
  unfold Rp.Ok
  rw [b]
  exact ⟨hx.1, hx.2.1⟩
theorem IsSt.leo {l y o : List Rs} {t : Trc} {flow : Int} (h : IsSt l t flow y) (ho : IsOrd l o) : y.length ≤ o.length := by
  obtain ⟨x, ⟨o', h1, rfl⟩, rfl⟩ := h
  rw [ho.eq h1]
  exact Nat.le_trans (List.length_filter_le _ _) (List.length_filter_le _ _)
def FndOk (es : List En) (l : List Rs) (u : Ru) (out : List Rp) (z : Int) : Prop :=
  (z = 1 ∧ out = [] ∧ ¬ ((∀ r ∈ l, vldRs r = true) ∧ validR es = true ∧ vldRu u = true)) ∨
  (z = 5 ∧ out = [] ∧ ((∀ r ∈ l, vldRs r = true) ∧ validR es = true ∧ vldRu u = true) ∧ ∃ o, IsOrd l o ∧ 512 < o.length) ∨
  (z = 0 ∧ IsFnd es l u out ∧ ((∀ r ∈ l, vldRs r = true) ∧ validR es = true ∧ vldRu u = true) ∧ ∃ o, IsOrd l o ∧ o.length ≤ 512)
theorem FndOk.eq {es : List En} {l : List Rs} {u : Ru} {out out' : List Rp} {z z' : Int} (h : FndOk es l u out z) (h' : FndOk es l u out' z') : out = out' ∧ z = z' := by
  rcases h with ⟨rfl, h1, h2⟩ | ⟨rfl, h1, h2, o, h3, h4⟩ | ⟨rfl, h1, h2, o, h3, h4⟩ <;> rcases h' with ⟨rfl, g1, g2⟩ | ⟨rfl, g1, g2, o', g3, g4⟩ | ⟨rfl, g1, g2, o', g3, g4⟩
  · exact ⟨h1.trans g1.symm, rfl⟩
  · exact absurd g2 h2
  · exact absurd g2 h2
  · exact absurd h2 g2
  · exact ⟨h1.trans g1.symm, rfl⟩
  · rw [h3.eq g3] at h4; omega
  · exact absurd h2 g2
  · rw [h3.eq g3] at h4; omega
  · exact ⟨h1.eq g1, rfl⟩
section
variable {es : List En} {l o own : List Rs} {i k n : Nat} {x s : Rs} {al : List Rp} {c : Rp} {u : Ru} {out : List Rp} {P : Rp → Prop} {t : Int}
end
set_option maxRecDepth 20000
def EarB (P : Int → Bool) (p : Rp) (ts : List Int) (o : List Rp) : Prop := (o = [] ∧ ∀ t ∈ ts, P t = false) ∨ ∃ (i : Nat) (t : Int), ts[i]? = some t ∧ (∀ s ∈ ts.take i, P s = false) ∧ P t = true ∧ o = [p.when t]
theorem aeaag106 (w : World) : (isAgg 106).run Tryz.prog w = .ok false w := rfl
theorem aeaone_i64 {a0 : Int} : ∀ u ∈ [(.int .i64 a0 : Value)], u.oneCell' = true := by
 intro u hu
 rw [List.mem_singleton] at hu
 subst hu; rfl
theorem aeabs49_1_10276 (a0_0 : Int) (a0_1 : Int) (a0_2 : Int) (a0_3 : Int) (a0_4 : Int) (a0_5 : Int) (a0_6 : Int) (a0_7 : Int) (w : World) : (Instr.buildSlice 49 1 #[(0, .agg #[.int .i64 a0_0, .int .i64 a0_1, .int .u32 a0_2, .int .i64 a0_3, .int .i64 a0_4, .int .i64 a0_5, .int .i64 a0_6, .int .i64 a0_7])]).run Tryz.prog w = .ok (.slice (some ⟨w.heap.size, 0, none⟩) 1 1) (w.alloc (.cells [.int .i64 a0_0, .int .i64 a0_1, .int .u32 a0_2, .int .i64 a0_3, .int .i64 a0_4, .int .i64 a0_5, .int .i64 a0_6, .int .i64 a0_7].toArray 34)) := by kernel_rfl
theorem srch1_any (A0 : Option Addr) (c0 : Nat) (l : List Rs) (u : Ru) (t : Int) (g1 g2 : Nat) (w : World) (hr : Reads w w.heap.size 17 A0 l.length (flat Rs.cells l)) (hl1 : l.length ≤ 100000) (hg1 : g1 < w.heap.size) (hc1 : w.cell? ⟨g1, 0, none⟩ = some (.slice A0 l.length c0)) (hg2 : g2 < w.heap.size) (hc2 : w.cell? ⟨g2, 0, none⟩ = some (.int .i64 u.los)) :
  Calls Tryz.prog 141 #[.int .i64 t, .pointer (some ⟨g1, 0, none⟩), .pointer (some ⟨g2, 0, none⟩)] w fun e w' => e = .returned (.bool (bhF l u.los t)) ∧ Below w.heap.size w w' := by
 refine begin_ (vs := [.int .i64 t, .pointer (some ⟨g1, 0, none⟩), .pointer (some ⟨g2, 0, none⟩)]) Tryz.func141 rfl rfl rfl ?_ (Pm.start w)
 refine zSG (TL.as_ ?_)
 refine zET (zSG ?_)
 refine TL.val rfl rfl rfl (gives_load (v := .slice A0 l.length c0) rfl rfl mcoag23 (fun w1 hw => (hw.bel.cell hg1).trans hc1)) ?_
 refine TL.v (gF arpfld28_0) ?_
 refine TL.val rfl rfl rfl (gives_load (v := .int .i64 u.los) rfl rfl pcmag3 (fun w1 hw => (hw.bel.cell hg2).trans hc2)) ?_
 refine TL.mv ?_
 refine TL.pcall1 (r := .bool (bhF l u.los t)) rfl rfl rfl rfl rfl Tryz.func72 (by decide) rfl (fun w1 hw => blackhole_l A0 c0 l u.los t w1 (hr.up hw.bel) hl1) ?_
 refine TL.as_ ?_
 refine zET (zr ?_)
 exact ret_tmp Tryz.results141 rfl (fun w1 hw => ⟨rfl, hw.bel⟩)
theorem srch2_any (A0 : Option Addr) (c0 : Nat) (l : List Rs) (u : Ru) (t : Int) (g1 g2 : Nat) (w : World) (hr : Reads w w.heap.size 17 A0 l.length (flat Rs.cells l)) (hl1 : l.length ≤ 100000) (hin : ∀ r ∈ l, r.inRange) (hg1 : g1 < w.heap.size) (hc1 : w.cell? ⟨g1, 0, none⟩ = some (.slice A0 l.length c0)) (hg2 : g2 < w.heap.size) (hc2 : ∀ (j : Nat) (v : Value), u.cells[j]? = some v → w.cell? ⟨g2, 0 + j, none⟩ = some v) :
  Calls Tryz.prog 142 #[.int .i64 t, .pointer (some ⟨g1, 0, none⟩), .pointer (some ⟨g2, 0, none⟩)] w fun e w' => ∃ x : {b : Bool // b = true ↔ u.prb < 1 ∨ CgF (eaL l t) (laL l t) u.prb u.gro}, e = .returned (.bool x.1) ∧ Below w.heap.size w w' := by
 refine begin_ (vs := [.int .i64 t, .pointer (some ⟨g1, 0, none⟩), .pointer (some ⟨g2, 0, none⟩)]) Tryz.func142 rfl rfl rfl ?_ (Pm.start w)
 refine zSG (TL.as_ ?_)
 refine zET (zSG ?_)
 refine TL.val rfl rfl rfl (gives_load (v := .slice A0 l.length c0) rfl rfl mcoag23 (fun w1 hw => (hw.bel.cell hg1).trans hc1)) ?_
 refine TL.val rfl rfl rfl (gives_loadR (off := 0) rfl rfl aprag28 aprsz28 (ru_cel.len u) (fun w1 hw j9 u9 h9 => (hw.bel.cell hg2).trans (hc2 j9 u9 h9))) ?_
 refine TL.mv ?_
 refine TL.pcallPm (α := {b : Bool // b = true ↔ u.prb < 1 ∨ CgF (eaL l t) (laL l t) u.prb u.gro}) (fun x => .bool x.1) (fun x => []) rfl rfl rfl rfl rfl Tryz.func76 (by decide) rfl (fun w1 hw => (congestion_l A0 c0 l u t w1 (hr.up hw.bel) hl1 hin).mono fun en w2 ⟨x, h1, h2⟩ => ⟨x, h1, (Pm.start w1).below h2⟩) ?_
 rintro ⟨bd, hbd⟩
 dsimp only [List.cons_append, List.nil_append]
 refine TL.as_ ?_
 refine zET (zr ?_)
 exact ret_tmp Tryz.results142 rfl (fun w1 hw => ⟨⟨bd, hbd⟩, rfl, hw.bel⟩)
theorem srch3_any (A0 : Option Addr) (c0 : Nat) (l : List Rs) (A1 : Option Addr) (c1 : Nat) (ps : List Int) (f : Rs → Int) (prov t : Int) (g1 g2 g3 : Nat) (w : World) (hr : Reads w w.heap.size 17 A0 l.length (flat Rs.cells l)) (hl1 : l.length ≤ 100000) (hr1 : Reads w w.heap.size 1 A1 ps.length (flat (ic .i64) ps)) (hps : ps = l.map f) (hg1 : g1 < w.heap.size) (hc1_ : w.cell? ⟨g1, 0, none⟩ = some (.slice A0 l.length c0)) (hg2 : g2 < w.heap.size) (hc2_ : w.cell? ⟨g2, 0, none⟩ = some (.slice A1 ps.length c1)) (hg3 : g3 < w.heap.size) (hc3_ : w.cell? ⟨g3, 7, none⟩ = some (.int .i64 prov)) :
  Calls Tryz.prog 144 #[.int .i64 t, .pointer (some ⟨g1, 0, none⟩), .pointer (some ⟨g2, 0, none⟩), .pointer (some ⟨g3, 0, none⟩)] w fun e w' => ∃ x : {b : Bool // b = true ↔ DtF f l prov t}, e = .returned (.bool x.1) ∧ Below w.heap.size w w' := by
 refine begin_ (vs := [.int .i64 t, .pointer (some ⟨g1, 0, none⟩), .pointer (some ⟨g2, 0, none⟩), .pointer (some ⟨g3, 0, none⟩)]) Tryz.func144 rfl rfl rfl ?_ (Pm.start w)
 refine zSG (TL.as_ ?_)
 refine zET (zSG ?_)
 refine TL.val rfl rfl rfl (gives_load (v := .slice A0 l.length c0) rfl rfl mcoag23 (fun w1 hw => (hw.bel.cell hg1).trans hc1_)) ?_
 refine TL.val rfl rfl rfl (gives_load (v := .slice A1 ps.length c1) rfl rfl aeaag106 (fun w1 hw => (hw.bel.cell hg2).trans hc2_)) ?_
 refine TL.v (gF arpfld34_5) ?_
 refine TL.val rfl rfl rfl (gives_load (v := .int .i64 prov) rfl rfl pcmag3 (fun w1 hw => (hw.bel.cell hg3).trans hc3_)) ?_
 refine TL.mv ?_
 refine TL.pcallPm (α := {b : Bool // b = true ↔ DtF f l prov t}) (fun x => .bool x.1) (fun x => []) rfl rfl rfl rfl rfl Tryz.func81 (by decide) rfl (fun w1 hw => (detour_l A0 c0 l A1 c1 ps f prov t w1 (hr.up hw.bel) hl1 (hr1.up hw.bel) hps).mono fun en w2 ⟨x, h1, h2⟩ => ⟨x, h1, (Pm.start w1).below h2⟩) ?_
 rintro ⟨bd, hbd⟩
 dsimp only [List.cons_append, List.nil_append]
 refine TL.as_ ?_
 refine zET (zr ?_)
 exact ret_tmp Tryz.results144 rfl (fun w1 hw => ⟨⟨bd, hbd⟩, rfl, hw.bel⟩)
theorem earliest_any (w0 : Base) (F : List Pc) (A0 : Option Addr) (c0 : Nat) (ts : List Int) (p : Rp) (P : Int → Bool) (f : FuncId) (fn : Func) (cap : Array Value) (w : World) (hw0 : Pm w0 ([.row (.slice A0 ts.length c0) 3 1 ts.length (flat (ic .i64) ts)] ++ F) w) (hl1 : ts.length ≤ 1000000) (hfn : Tryz.prog.funcs[f]? = some fn) (hnm : (fn.name == "runtime.NumGoroutine") = false) (hbd : fn.body.isNone = false) (hf : ∀ (t : Int) (w1 : World), (∃ L1, Pm w0 (L1 ++ F) w1) → Calls Tryz.prog f (#[] ++ [Value.int .i64 t].toArray ++ cap) w1 fun e w' => e = .returned (.bool (P t)) ∧ Below w1.heap.size w1 w') :
  Calls Tryz.prog 140 #[.agg p.cells.toArray, .slice A0 ts.length c0, .func (.func f) #[] cap] w fun e w' => ∃ y : {y : (Option Addr × Nat) × List Rp // EarB P p ts y.2 ∧ y.2.length ≤ 1 ∧ y.2.length ≤ y.1.2 ∧ y.1.2 ≤ maxLen}, e = .returned (.slice y.1.1.1 y.1.2.length y.1.1.2) ∧ Pm w0 ([.row (.slice y.1.1.1 y.1.2.length y.1.1.2) 34 8 y.1.2.length (flat Rp.cells y.1.2), .row (.slice A0 ts.length c0) 3 1 ts.length (flat (ic .i64) ts)] ++ F) w' := by
 refine begin_ (vs := [.agg p.cells.toArray, .slice A0 ts.length c0, .func (.func f) #[] cap]) (I := Pm w0 ([.row (.slice A0 ts.length c0) 3 1 ts.length (flat (ic .i64) ts)] ++ F)) Tryz.func140 rfl rfl rfl ?_ hw0
 refine zSG ?_
 refine TL.pnew rfl rfl rfl (exec_box (cs := p.cells) rfl rfl rfl) (fun g3 => ?_)
 refine TL.as_ ?_
 refine zET (zS (zSG (TL.mv ?_)))
 refine TL.v (gN Tryz.underlying106) ?_
 refine TL.mv ?_
 refine zET (zB ?_)
 refine TC.loop_ (α := {i : Nat // i ≤ ts.length ∧ ∀ t ∈ ts.take i, P t = false}) (fun y => [(2, .func (.func f) #[] cap), (3, .pointer (some ⟨g3, 0, none⟩)), (9, .slice A0 ts.length c0), (10, .int .i64 (ts.length : Nat)), (11, .int .i64 ((y.1 : Nat) : Int))]) (fun y => Pm w0 ([.blk g3 34 p.cells, .row (.slice A0 ts.length c0) 3 1 ts.length (flat (ic .i64) ts)] ++ F)) (fun y => ts.length - y.1) (⟨0, Nat.zero_le _, fun r hr => by rw [List.take_zero] at hr; cases hr⟩) ⟨rfl, rfl, rfl, rfl, rfl, trivial⟩ (fun w1 hw => hw) ?_
 rintro ⟨i, hi, hall⟩
 try dsimp only at hi hall ⊢
 refine zSG ?_
 refine TL.sp bin_lss (fun q12 => ?_) (fun q12 => ?_)
 ·refine zET (zS (zc (zk (zT (zS (zB (zSG ?_)))))))
  refine TL.fact (p := ∃ g, A0 = some ⟨g, 0, none⟩) (fun w1 hw => rowA hw (k := 1) rfl (by omega)) ?_
  rintro ⟨g_A0, rfl⟩
  have hi13 : i < ts.length := by omega
  obtain ⟨x13, hx13⟩ := ex_at hi13
  refine TL.val rfl rfl rfl (gA (i := i) Tryz.underlying106 pcmsz3 rfl rfl rfl rfl rfl (by omega)) ?_
  refine TL.val rfl rfl rfl (gives_load (v := .int .i64 x13) rfl rfl pcmag3 (fun w1 hw => flat_row (ic_cel .i64) hw (q := 1) rfl hx13 0 _ rfl)) ?_
  refine TL.as_ ?_
  refine zET (zSG (TL.rn 2 rfl ?_))
  obtain ⟨bv, hbv⟩ : ∃ b, P x13 = b := ⟨_, rfl⟩
  refine TL.callE1 (r := .bool bv) rfl rfl rfl (ent_val rfl rfl rfl hfn hnm hbd rfl) (fun w1 hw => by rw [← hbv]; exact hf x13 w1 ⟨_, hw⟩) ?_
  refine zET ?_
  refine TC.split (t := bv) rfl (fun c17 => ?_) (fun c17 => ?_)
  ·refine zSG (TL.mv ?_)
   refine TL.v (gF arpfld34_4) ?_
   refine TL.pstore (k := 0) (vs := [.int .i64 x13]) rfl rfl rfl rfl rfl rfl rfl pcmsz3 aeaone_i64 (by show 7 ≤ 8; decide) rfl ?_
   refine zET (zSG (TL.v (gV 0 (.agg #[.int .i64 p.kind, .int .i64 p.v, .int .u32 p.dst, .int .i64 p.proto, .int .i64 p.flow, .int .i64 p.ttl, .int .i64 x13, .int .i64 p.prov]) aprag34 aprsz34) ?_))
   refine TL.prowS (e := 34) (size := 8) (cs := flat Rp.cells [(⟨p.kind, p.v, p.dst, p.proto, p.flow, p.ttl, x13, p.prov⟩ : Rp)]) rfl rfl rfl rfl rfl (fun w => aeabs49_1_10276 _ _ _ _ _ _ _ _ w) (by decide) rfl (fun g21 => ?_)
   refine TL.as_ ?_
   refine zET (zr (zRR (zR (zRR ?_))))
   exact ret_tmp Tryz.results140 rfl (fun w1 hw => ⟨⟨(((some ⟨g21, 0, none⟩), 1), [p.when x13]), .inr ⟨i, x13, hx13, hall, by rw [hbv, c17], rfl⟩, Nat.le_refl _, Nat.le_refl _, by show 1 ≤ maxLen; decide⟩, rfl, hw.sel (.cons_cons _ (.cons _ (.cons_cons _ (List.Sublist.refl _))))⟩)
  refine zk (zN (zT (zG ?_)))
  refine TL.v (gD ((i + 1 : Nat) : Int)) ?_
  refine TL.mv ?_
  refine zE ?_
  exact TX.round (⟨i + 1, by omega, fun r hr => by rcases (mem_take_snoc hx13).1 hr with h9 | h9; exact hall r h9; rw [h9, hbv, c17]⟩) (by show ts.length - (i + 1) < ts.length - i; omega) ⟨rfl, rfl, rfl, rfl, rfl, trivial⟩ (fun w1 hw => hw)
 refine zET (zS (zd (zx (zX (zX (zM (zT (zSG (TL.as_ ?_)))))))))
 refine zET (zr ?_)
 rw [List.take_of_length_le (by omega)] at hall
 exact ret_tmp Tryz.results140 rfl (fun w1 hw => ⟨⟨((none, 0), []), .inl ⟨rfl, hall⟩, Nat.zero_le _, Nat.le_refl _, Nat.zero_le _⟩, rfl, Pm.nilrow (hw.sel (.cons _ (.cons_cons _ (List.Sublist.refl _)))) _ _⟩)
open Go.RowKit Go.Shelf Go.Sort
set_option maxRecDepth 20000
def sFRpRen : Go.Shelf.Ren := ⟨fun | 6 => 93 | 14 => 145 | 15 => 146 | 20 => 167 | 21 => 168 | 22 => 169 | 23 => 170 | 24 => 171 | 25 => 172 | 26 => 173 | 27 => 174 | 28 => 175 | 29 => 176 | 46 => 208 | 47 => 209 | 48 => 210 | 49 => 211 | 50 => 212 | 57 => 224 | n => n, fun | 22 => 49 | 24 => 34 | 25 => 52 | 39 => 174 | 45 => 191 | 46 => 192 | 50 => 196 | 53 => 29 | 55 => 200 | 66 => 219 | 70 => 223 | 76 => 235 | 77 => 236 | n => n, fun n => n⟩
theorem sFRp : SlLaysF0.n6 Tryz.prog sFRpRen where
  mixed := by kernel_rfl
  f6 := ⟨Tryz.f93.name, by decide, Tryz.func93.trans (by kernel_rfl)⟩
  f14 := ⟨Tryz.f145.name, by decide, Tryz.func145.trans (by kernel_rfl)⟩
  f15 := Tryz.func146.trans (by kernel_rfl)
  f20 := ⟨Tryz.f167.name, by decide, Tryz.func167.trans (by kernel_rfl)⟩
  f21 := ⟨Tryz.f168.name, by decide, Tryz.func168.trans (by kernel_rfl)⟩
  f22 := ⟨Tryz.f169.name, by decide, Tryz.func169.trans (by kernel_rfl)⟩
  f23 := ⟨Tryz.f170.name, by decide, Tryz.func170.trans (by kernel_rfl)⟩
  f24 := ⟨Tryz.f171.name, by decide, Tryz.func171.trans (by kernel_rfl)⟩
  f25 := ⟨Tryz.f172.name, by decide, Tryz.func172.trans (by kernel_rfl)⟩
  f26 := ⟨Tryz.f173.name, by decide, Tryz.func173.trans (by kernel_rfl)⟩
  f27 := ⟨Tryz.f174.name, by decide, Tryz.func174.trans (by kernel_rfl)⟩
  f28 := Tryz.func175.trans (by kernel_rfl)
  f29 := Tryz.func176.trans (by kernel_rfl)
  f46 := ⟨Tryz.f208.name, by decide, Tryz.func208.trans (by kernel_rfl)⟩
  f47 := Tryz.func209.trans (by kernel_rfl)
  f48 := Tryz.func210.trans (by kernel_rfl)
  f49 := ⟨Tryz.f211.name, by decide, Tryz.func211.trans (by kernel_rfl)⟩
  f50 := ⟨Tryz.f212.name, by decide, Tryz.func212.trans (by kernel_rfl)⟩
  f57 := ⟨Tryz.f224.name, by decide, Tryz.func224.trans (by kernel_rfl)⟩
  t0 := Tryz.underlying0
  a0 := fun w => rfl
  z0 := fun w => rfl
  v0 := fun w => rfl
  t3 := Tryz.underlying3
  a3 := fun w => rfl
  z3 := fun w => rfl
  v3 := fun w => rfl
  t4 := Tryz.underlying4
  a4 := fun w => rfl
  z4 := fun w => rfl
  v4 := fun w => rfl
  t5 := Tryz.underlying5
  a5 := fun w => rfl
  z5 := fun w => rfl
  v5 := fun w => rfl
  t9 := Tryz.underlying9
  a9 := fun w => rfl
  z9 := fun w => rfl
  v9 := fun w => rfl
  t22 := Tryz.underlying49
  a22 := fun w => rfl
  z22 := fun w => rfl
  v22 := fun w => rfl
  t25 := Tryz.underlying52
  a25 := fun w => rfl
  z25 := fun w => rfl
  v25 := fun w => rfl
  t39 := Tryz.underlying174
  a39 := fun w => rfl
  z39 := fun w => rfl
  v39 := fun w => rfl
  t45 := Tryz.underlying191
  a45 := fun w => rfl
  z45 := fun w => rfl
  v45 := fun w => rfl
  t46 := Tryz.underlying192
  a46 := fun w => rfl
  z46 := fun w => rfl
  v46 := fun w => rfl
  t50 := Tryz.underlying196
  a50 := fun w => rfl
  z50 := fun w => rfl
  v50 := fun w => rfl
  t53 := Tryz.underlying29
  a53 := fun w => rfl
  z53 := fun w => rfl
  v53 := fun w => rfl
  t55 := Tryz.underlying200
  a55 := fun w => rfl
  z55 := fun w => rfl
  v55 := fun w => rfl
  t66 := Tryz.underlying219
  a66 := fun w => rfl
  z66 := fun w => rfl
  v66 := fun w => rfl
  t70 := Tryz.underlying223
  a70 := fun w => rfl
  z70 := fun w => rfl
  v70 := fun w => rfl
  t76 := Tryz.underlying235
  a76 := fun w => rfl
  z76 := fun w => rfl
  v76 := fun w => rfl
  t77 := Tryz.underlying236
  a77 := fun w => rfl
  z77 := fun w => rfl
  v77 := fun w => rfl
instance : Inhabited Rp := ⟨⟨0, 0, 0, 0, 0, 0, 0, 0⟩⟩
theorem sortRp {b n cap : Nat} {A : Option Addr} {l : List Rp} {w : World} (hr : w.ownsRow b 34 8 (.slice A n cap) n (flat Rp.cells l)) (hl : l.length = n) (hn : n ≤ 100000000000) :
    Calls Tryz.prog 93 #[.slice A n cap, .func (.func 33) #[] #[]] w fun en w' => en = .returned (.tuple #[]) ∧ ∃ l', Sorted cmpRp l l' ∧ w'.ownsRow b 34 8 (.slice A n cap) n (flat Rp.cells l') ∧ w.grownBy w' (Value.ownBlock (.slice A n cap)) :=
  sortF_row (ρ := sFRpRen) sFRp rp_cel (fun w => rfl) (fun w => rfl) cmpRp (swo_keys (n := 8) (Rp.keys) fun _ => rfl) 33 (enters_of Tryz.func33 (by kernel_rfl) rfl) cmpRp_any hr hl (by omega)
open Go.RowKit Go.Shelf
def MinU (P S : Rp → Prop) (out : List Rp) : Prop := out.Pairwise (fun a b => a.cand ≠ b.cand) ∧ ∀ p, p ∈ out ↔ S p ∧ P p ∧ ∀ q, S q → q.cand = p.cand → P q → p.at_ ≤ q.at_
section
variable {P P' S S' : Rp → Prop} {a b out : List Rp}
theorem MinU.congr (h : MinU P S out) (hS : ∀ p, P p → (S p ↔ S' p)) : MinU P S' out := ⟨h.1, fun p => by
  rw [h.2]
  constructor
  · rintro ⟨h1, h2, h3⟩; exact ⟨(hS p h2).1 h1, h2, fun q hq hc hP => h3 q ((hS q hP).2 hq) hc hP⟩
  · rintro ⟨h1, h2, h3⟩; exact ⟨(hS p h2).2 h1, h2, fun q hq hc hP => h3 q ((hS q hP).1 hq) hc hP⟩⟩
theorem MinU.congrP (h : MinU P S out) (hP : ∀ p, S p → (P p ↔ P' p)) : MinU P' S out := ⟨h.1, fun p => by
  rw [h.2]
  constructor
  · rintro ⟨h1, h2, h3⟩; exact ⟨h1, (hP p h1).1 h2, fun q hq hc hp => h3 q hq hc ((hP q hq).2 hp)⟩
  · rintro ⟨h1, h2, h3⟩; exact ⟨h1, (hP p h1).2 h2, fun q hq hc hp => h3 q hq hc ((hP q hq).1 hp)⟩⟩
theorem MinU.nil (hS : ∀ p, ¬ S p) : MinU P S [] := ⟨List.Pairwise.nil, fun p => ⟨fun h => absurd h List.not_mem_nil, fun h => absurd h.1 (hS p)⟩⟩
theorem MinU.app (h : MinU P S a) (h' : MinU P S' b) (hd : ∀ p q, S p → S' q → p.cand ≠ q.cand) : MinU P (fun p => S p ∨ S' p) (a ++ b) := by
  refine ⟨List.pairwise_append.2 ⟨h.1, h'.1, fun x hx y hy => hd x y ((h.2 x).1 hx).1 ((h'.2 y).1 hy).1⟩, fun p => ?_⟩
  rw [List.mem_append, h.2, h'.2]
  constructor
  · rintro (⟨h1, h2, h3⟩ | ⟨h1, h2, h3⟩)
    · exact ⟨.inl h1, h2, fun q hq hc hP => hq.elim (fun hq => h3 q hq hc hP) fun hq => absurd hc.symm (hd p q h1 hq)⟩
    · exact ⟨.inr h1, h2, fun q hq hc hP => hq.elim (fun hq => absurd hc (hd q p hq h1)) fun hq => h3 q hq hc hP⟩
  · rintro ⟨h1 | h1, h2, h3⟩
    · exact .inl ⟨h1, h2, fun q hq => h3 q (.inl hq)⟩
    · exact .inr ⟨h1, h2, fun q hq => h3 q (.inr hq)⟩
theorem MinU.sorted (h : MinU P S a) (hs : Sorted cmpRp a b) : IsMin P S b := by
  refine ⟨?_, fun p => by rw [hs.1.mem_iff, h.2]⟩
  have hn : b.Pairwise fun x y => x.cand ≠ y.cand := (hs.1.pairwise_iff (fun {x y} h1 h2 => h1 h2.symm)).2 h.1
  refine (hs.2.and hn).imp fun {x y} ⟨h1, h2⟩ => ?_
  have h3 : lexI x.keys y.keys ≠ 0 := fun h0 => h2 (by rw [rpk_inj ((lexI_zero (a := x.keys) (b := y.keys) rfl).1 h0)])
  have h4 : ¬ lexI y.keys x.keys < 0 := h1
  have h5 := (posK rpk_len (x := x) (y := y)).1
  have h6 : ¬ 0 < lexI x.keys y.keys := fun h => h4 (h5 h)
  omega
theorem EarB.minU {B : Int → Bool} {p : Rp} {ts : List Int} (h : EarB B p ts a) (ht : ts.Pairwise (· < ·)) (hB : ∀ t, B t = true ↔ P (p.when t)) : MinU P (fun q => q.cand = p.cand ∧ q.at_ ∈ ts) a := by
  have key : ∀ q : Rp, q.cand = p.cand → q = p.when q.at_ := fun q hq => ((like_iff (p := p) (q := q)).2 hq.symm).symm
  rcases h with ⟨rfl, h1⟩ | ⟨i, t, h1, h2, h3, rfl⟩
  · refine ⟨List.Pairwise.nil, fun q => ⟨fun h => absurd h List.not_mem_nil, ?_⟩⟩
    rintro ⟨⟨h3, h4⟩, h5, _⟩
    rw [key q h3, ← hB, h1 _ h4] at h5; cases h5
  · have hlt : ∀ s ∈ ts, s < t → s ∈ ts.take i := fun s hs hst => by
      obtain ⟨j, hj⟩ := List.getElem?_of_mem hs
      refine List.mem_of_getElem? (i := j) ?_
      obtain ⟨hi, e1⟩ := List.getElem?_eq_some_iff.1 h1
      obtain ⟨hj', e2⟩ := List.getElem?_eq_some_iff.1 hj
      have : j < i := by
        rcases Nat.lt_trichotomy j i with h | h | h
        · exact h
        · subst h; rw [e1] at e2; omega
        · have := (List.pairwise_iff_getElem.1 ht) i j hi hj' h
          rw [e1, e2] at this; omega
      rw [List.getElem?_take_of_lt this]; exact hj
    refine ⟨List.pairwise_singleton _ _, fun q => ?_⟩
    rw [List.mem_singleton]
    constructor
    · rintro rfl
      refine ⟨⟨rfl, List.mem_of_getElem? h1⟩, (hB t).1 h3, ?_⟩
      rintro q ⟨h4, h5⟩ _ h6
      refine Int.not_lt.1 fun h7 => ?_
      have := h2 _ (hlt _ h5 h7)
      rw [key q h4, ← hB, this] at h6; cases h6
    · rintro ⟨⟨h4, h5⟩, h6, h7⟩
      have h8 := h7 (p.when t) ⟨rfl, List.mem_of_getElem? h1⟩ h4.symm ((hB t).1 h3)
      have h9 : ¬ q.at_ < t := fun h => by
        have := h2 _ (hlt _ h5 h)
        rw [key q h4, ← hB, this] at h6; cases h6
      rw [key q h4]
      congr 1
      have : (p.when t).at_ = t := rfl
      omega
end
def IsNum (l o : List Int) : Prop := o.Pairwise (· < ·) ∧ ∀ t, t ∈ o ↔ t ∈ l
theorem isNum_of {l s : List Int} (hs : SortedI l s) : IsNum l (cptG s) := by
  refine ⟨?_, fun t => by rw [mem_cptG, hs.1.mem_iff]⟩
  have h := hs.2
  clear hs
  induction s with
  | nil => exact List.Pairwise.nil
  | cons x s ih =>
    cases s with
    | nil => exact List.pairwise_singleton _ _
    | cons y s =>
      have ih := ih (List.pairwise_cons.1 h).2
      have h1 := (List.pairwise_cons.1 h).1
      have h2 := (List.pairwise_cons.1 (List.pairwise_cons.1 h).2).1
      rw [cptG]
      split
      · exact ih
      · rename_i hne
        refine List.pairwise_cons.2 ⟨fun z hz => ?_, ih⟩
        rw [mem_cptG] at hz
        have h3 := h1 y List.mem_cons_self
        rcases List.mem_cons.1 hz with e | e
        · subst e; omega
        · have := h2 z e; omega
def cB (r : Rs) : Rp := ⟨1, r.v, r.dst, r.proto, r.flow, 0, 0, 0⟩
def cC (r : Rs) (ttl : Int) : Rp := ⟨3, r.v, r.dst, r.proto, r.flow, ttl, 0, 0⟩
def cD (r : Rs) (ttl v : Int) : Rp := ⟨2, r.v, r.dst, r.proto, r.flow, ttl, 0, v⟩
section
variable {es : List En} {y : List Rs} {u : Ru} {r : Rs} {t ttl v : Int}
theorem prS_c1 : bhF y u.los t = true ↔ PrS es y u ((cB r).when t) := by
  unfold PrS cB Rp.when
  simp
theorem prS_c3 (hu : 1 ≤ u.prb) : (u.prb < 1 ∨ CgF (eaL (atL y ttl) t) (laL (atL y ttl) t) u.prb u.gro) ↔ PrS es y u ((cC r ttl).when t) := by
  unfold PrS cC Rp.when
  have : ¬ u.prb < 1 := by omega
  simp [this]
theorem prS_c2 (hv : v ≠ 0) : DtF (fun r : Rs => provR es r.src r.back) (atL y ttl) v t ↔ PrS es y u ((cD r ttl v).when t) := by
  unfold PrS cD Rp.when
  simp [hv]
end
def SA (es : List En) (r : Rs) (own : List Rs) (tm ttls : List Int) (p : Rp) : Prop := p.at_ ∈ tm ∧ (p.cand = cB r ∨ ∃ ttl ∈ ttls, p.cand = cC r ttl ∨ ∃ v ∈ (atL own ttl).map (fun r => provR es r.src r.back), v ≠ 0 ∧ p.cand = cD r ttl v)
def SB (es : List En) (r : Rs) (own : List Rs) (tm ttls : List Int) (ttl : Int) (vs : List Int) (p : Rp) : Prop := SA es r own tm ttls p ∨ (p.at_ ∈ tm ∧ (p.cand = cC r ttl ∨ ∃ v ∈ vs, v ≠ 0 ∧ p.cand = cD r ttl v))
def TmS (r : Rs) (own : List Rs) (p : Rp) : Prop := p.trc = trcR r ∧ p.flow = r.flow ∧ ∃ s ∈ own, s.at_ = p.at_
section
variable {es : List En} {own : List Rs} {u : Ru} {r : Rs} {tm ttls ow vs : List Int} {i j : Nat} {ttl v : Int} {out o : List Rp} {P : Rp → Prop} {B : Int → Bool}
theorem sa_start (h : EarB B (cB r) tm o) (ht : tm.Pairwise (· < ·)) (hB : ∀ t, B t = bhF own u.los t) : MinU (PrS es own u) (SA es r own tm []) o :=
  (h.minU ht fun t => by rw [hB]; exact prS_c1).congr fun p _ => ⟨fun ⟨h1, h2⟩ => ⟨h2, .inl h1⟩, fun ⟨h1, h2⟩ => ⟨h2.elim id fun ⟨t, ht, _⟩ => absurd ht List.not_mem_nil, h1⟩⟩
theorem sb_start (h : MinU (PrS es own u) (SA es r own tm (ttls.take i)) out) (hx : ttls[i]? = some ttl) (hn : ttls.Pairwise (· < ·)) (he : EarB B (cC r ttl) tm o) (ht : tm.Pairwise (· < ·)) (hu : 1 ≤ u.prb) (hB : ∀ t, B t = true ↔ u.prb < 1 ∨ CgF (eaL (atL own ttl) t) (laL (atL own ttl) t) u.prb u.gro) : MinU (PrS es own u) (SB es r own tm (ttls.take i) ttl []) (out ++ o) := by
  have hnot : ttl ∉ ttls.take i := fun hm => by
    obtain ⟨j, hj⟩ := List.getElem?_of_mem hm
    have hj2 : j < i := by have := (List.getElem?_eq_some_iff.1 hj).1; rw [List.length_take] at this; omega
    rw [List.getElem?_take_of_lt hj2] at hj
    obtain ⟨h1, e1⟩ := List.getElem?_eq_some_iff.1 hj
    obtain ⟨h2, e2⟩ := List.getElem?_eq_some_iff.1 hx
    have := (List.pairwise_iff_getElem.1 hn) j i h1 h2 hj2
    omega
  refine (h.app (he.minU ht fun t => by rw [hB]; exact prS_c3 hu) ?_).congr fun p _ => ?_
  · rintro p q ⟨_, h1⟩ ⟨h2, _⟩ h3
    have h4 : p.cand = cC r ttl := h3.trans h2
    rcases h1 with h1 | ⟨t, ht, h1 | ⟨v, _, _, h1⟩⟩
    · rw [h1] at h4; simp [cB, cC] at h4
    · rw [h1] at h4; simp only [cC, Rp.mk.injEq] at h4; exact hnot (h4.2.2.2.2.2.1 ▸ ht)
    · rw [h1] at h4; simp [cD, cC] at h4
  · unfold SB
    exact ⟨fun h => h.imp id fun ⟨h1, h2⟩ => ⟨h2, .inl h1⟩, fun h => h.imp id fun ⟨h1, h2⟩ => ⟨h2.elim id fun ⟨t, ht, _⟩ => absurd ht List.not_mem_nil, h1⟩⟩
theorem sb_zero (h : MinU P (SB es r own tm ttls ttl (ow.take j)) out) (hx : ow[j]? = some v) (hv : v = 0) : MinU P (SB es r own tm ttls ttl (ow.take (j + 1))) out := h.congr fun p _ => by
  unfold SB
  rw [List.take_add_one, hx]
  constructor
  · rintro (h | ⟨h1, h2 | ⟨w, h2, h3⟩⟩)
    · exact .inl h
    · exact .inr ⟨h1, .inl h2⟩
    · exact .inr ⟨h1, .inr ⟨w, List.mem_append_left _ h2, h3⟩⟩
  · rintro (h | ⟨h1, h2 | ⟨w, h2, h3⟩⟩)
    · exact .inl h
    · exact .inr ⟨h1, .inl h2⟩
    · rcases List.mem_append.1 h2 with h4 | h4
      · exact .inr ⟨h1, .inr ⟨w, h4, h3⟩⟩
      · exact absurd ((show w = v by simpa using h4).trans hv) h3.1
theorem sb_next (h : MinU (PrS es own u) (SB es r own tm (ttls.take i) ttl (ow.take j)) out) (ht : ttls[i]? = some ttl) (hn : ttls.Pairwise (· < ·)) (hx : ow[j]? = some v) (ho : ow.Pairwise (· < ·)) (hv : v ≠ 0) (he : EarB B (cD r ttl v) tm o) (htm : tm.Pairwise (· < ·)) (hB : ∀ t, B t = true ↔ DtF (fun r : Rs => provR es r.src r.back) (atL own ttl) v t) : MinU (PrS es own u) (SB es r own tm (ttls.take i) ttl (ow.take (j + 1))) (out ++ o) := by
  have nin : ∀ {l : List Int} {k : Nat} {z : Int}, l.Pairwise (· < ·) → l[k]? = some z → z ∉ l.take k := fun {l k z} hp hz hm => by
    obtain ⟨j, hj⟩ := List.getElem?_of_mem hm
    have hj2 : j < k := by have := (List.getElem?_eq_some_iff.1 hj).1; rw [List.length_take] at this; omega
    rw [List.getElem?_take_of_lt hj2] at hj
    obtain ⟨h1, e1⟩ := List.getElem?_eq_some_iff.1 hj
    obtain ⟨h2, e2⟩ := List.getElem?_eq_some_iff.1 hz
    have := (List.pairwise_iff_getElem.1 hp) j k h1 h2 hj2
    omega
  refine (h.app (he.minU htm fun t => by rw [hB]; exact prS_c2 hv) ?_).congr fun p _ => ?_
  · rintro p q h1 ⟨h2, _⟩ h3
    have h4 : p.cand = cD r ttl v := h3.trans h2
    rcases h1 with ⟨_, h1 | ⟨t, ht', h1 | ⟨w, _, _, h1⟩⟩⟩ | ⟨_, h1 | ⟨w, h5, _, h1⟩⟩
    · rw [h1] at h4; simp [cB, cD] at h4
    · rw [h1] at h4; simp [cC, cD] at h4
    · rw [h1] at h4; simp only [cD, Rp.mk.injEq] at h4; exact nin hn ht (h4.2.2.2.2.2.1 ▸ ht')
    · rw [h1] at h4; simp [cC, cD] at h4
    · rw [h1] at h4; simp only [cD, Rp.mk.injEq] at h4; exact nin ho hx (h4.2.2.2.2.2.2.2 ▸ h5)
  · unfold SB
    rw [List.take_add_one, hx]
    constructor
    · rintro ((h | ⟨h1, h2 | ⟨w, h2, h3⟩⟩) | ⟨h1, h2⟩)
      · exact .inl h
      · exact .inr ⟨h1, .inl h2⟩
      · exact .inr ⟨h1, .inr ⟨w, List.mem_append_left _ h2, h3⟩⟩
      · exact .inr ⟨h2, .inr ⟨v, List.mem_append_right _ (List.mem_singleton.2 rfl), hv, h1⟩⟩
    · rintro (h | ⟨h1, h2 | ⟨w, h2, h3⟩⟩)
      · exact .inl (.inl h)
      · exact .inl (.inr ⟨h1, .inl h2⟩)
      · rcases List.mem_append.1 h2 with h4 | h4
        · exact .inl (.inr ⟨h1, .inr ⟨w, h4, h3⟩⟩)
        · rw [show w = v by simpa using h4] at h3
          exact .inr ⟨h3.2, h1⟩
theorem sb_end (h : MinU P (SB es r own tm (ttls.take i) ttl (ow.take j)) out) (hj : ow.length ≤ j) (ho : IsNum ((atL own ttl).map (fun r => provR es r.src r.back)) ow) (hx : ttls[i]? = some ttl) : MinU P (SA es r own tm (ttls.take (i + 1))) out := h.congr fun p _ => by
  unfold SB SA
  rw [List.take_of_length_le hj, List.take_add_one, hx]
  constructor
  · rintro (⟨h1, h2 | ⟨t, h2, h3⟩⟩ | ⟨h1, h2⟩)
    · exact ⟨h1, .inl h2⟩
    · exact ⟨h1, .inr ⟨t, List.mem_append_left _ h2, h3⟩⟩
    · exact ⟨h1, .inr ⟨ttl, List.mem_append_right _ (List.mem_singleton.2 rfl), h2.imp id fun ⟨v, h3, h4⟩ => ⟨v, (ho.2 v).1 h3, h4⟩⟩⟩
  · rintro ⟨h1, h2 | ⟨t, h2, h3⟩⟩
    · exact .inl ⟨h1, .inl h2⟩
    · rcases List.mem_append.1 h2 with h4 | h4
      · exact .inl ⟨h1, .inr ⟨t, h4, h3⟩⟩
      · rw [show t = ttl by simpa using h4] at h3
        exact .inr ⟨h1, h3.imp id fun ⟨v, h3, h4⟩ => ⟨v, (ho.2 v).2 h3, h4⟩⟩
theorem sa_end (h : MinU (PrS es own u) (SA es r own tm (ttls.take i)) out) (hi : ttls.length ≤ i) (htm : IsNum (own.map fun s => s.at_) tm) (htt : IsNum (own.map fun s => s.ttl) ttls) (hu : 1 ≤ u.prb) : MinU (PrS es own u) (TmS r own) out := h.congr fun p hP => by
  unfold SA TmS
  rw [List.take_of_length_le hi, htm.2, List.mem_map]
  have hc : ∀ {a b c d e f g k : Int}, (⟨a, b, c, d, e, f, g, k⟩ : Rp) = p.cand ↔ a = p.kind ∧ b = p.v ∧ c = p.dst ∧ d = p.proto ∧ e = p.flow ∧ f = p.ttl ∧ g = 0 ∧ k = p.prov := by
    intro a b c d e f g k; unfold Rp.cand; rw [Rp.mk.injEq]
  constructor
  · rintro ⟨⟨s, h1, h2⟩, h3⟩
    have key : p.trc = trcR r ∧ p.flow = r.flow := by
      unfold Rp.trc trcR
      rcases h3 with h3 | ⟨t, _, h3 | ⟨v, _, _, h3⟩⟩ <;> (have h4 := hc.1 h3.symm; exact ⟨by rw [h4.2.1, h4.2.2.1, h4.2.2.2.1], h4.2.2.2.2.1.symm⟩)
    exact ⟨key.1, key.2, s, h1, h2⟩
  · rintro ⟨h1, h2, s, h3, h4⟩
    refine ⟨⟨s, h3, h4⟩, ?_⟩
    unfold Rp.trc trcR at h1
    injection h1 with e1 e2 e3
    rcases hP with ⟨a1, a2, a3, _⟩ | ⟨a1, a2, a3⟩ | ⟨a1, a2, a3⟩
    · exact .inl (hc.2 ⟨a1.symm, e1.symm, e2.symm, e3.symm, h2.symm, a2.symm, rfl, a3.symm⟩).symm
    · obtain ⟨e, h5, _⟩ := a3
      obtain ⟨z, hz, _⟩ := ea_mem h5
      have hz2 := List.mem_filter.1 hz
      simp only [Bool.and_eq_true, decide_eq_true_eq] at hz2
      exact .inr ⟨p.ttl, (htt.2 _).2 (List.mem_map.2 ⟨z, hz2.1, hz2.2.2⟩), .inl (hc.2 ⟨a1.symm, e1.symm, e2.symm, e3.symm, h2.symm, rfl, rfl, a2.symm⟩).symm⟩
    · obtain ⟨a, _, _, b, hb, _, hb2, _⟩ := a3
      have hz2 := List.mem_filter.1 hb
      simp only [Bool.and_eq_true, decide_eq_true_eq] at hz2
      exact .inr ⟨p.ttl, (htt.2 _).2 (List.mem_map.2 ⟨b, hz2.1, hz2.2.2⟩), .inr ⟨p.prov, List.mem_map.2 ⟨b, hb, hb2⟩, a2, (hc.2 ⟨a1.symm, e1.symm, e2.symm, e3.symm, h2.symm, rfl, rfl, rfl⟩).symm⟩⟩
end
set_option maxRecDepth 20000
def En.Ok (e : En) : Prop := 0 ≤ e.addr ∧ e.addr ≤ 4294967295
def sizeF (n : Int) : Int := IntKind.i64.wrap (1 * 2 ^ (32 - n).toNat)
def rvldP (a n : Int) : Bool := decide (0 ≤ n) && decide (n ≤ 32) && decide (a % sizeF n = 0)
def rvalidE (e : En) : Bool := rvldP e.addr e.len && decide (1 ≤ e.prov) && decide (e.prov ≤ 2147483647) && decide (0 ≤ e.frm) && decide (e.frm < e.to_) && decide (e.to_ ≤ 1125899906842624)
theorem sizeF_pos (n : Int) (h0 : 0 ≤ n := by omega) (h1 : n ≤ 32 := by omega) : 0 < sizeF n := by
 have key : ∀ k : Fin 33, 0 < IntKind.i64.wrap (1 * 2 ^ k.val) := by decide
 have hk : (32 - n).toNat < 33 := by omega
 exact key ⟨(32 - n).toNat, hk⟩
theorem size_any (n : Int) (h0 : 0 ≤ n) (h1 : n ≤ 32) (w : World) :
  Calls Tryz.prog 179 #[.int .i64 n] w fun e w' => e = .returned (.int .i64 (sizeF n)) ∧ w' = w := by
 refine begin_ (vs := [.int .i64 n]) (I := fun w1 => w1 = w) Tryz.func179 rfl rfl rfl ?_ rfl
 refine zSG (TL.as_ ?_)
 refine zET (zSG (TL.mv ?_))
 refine TL.val rfl rfl rfl (gives_bin rfl rfl rfl (fun w => bin_sub_ (r := 32 - n) (by simp only [IntKind.wrap_i64]; omega) w)) ?_
 refine TL.val rfl rfl rfl (gives_bin (v := .int .i64 (sizeF n)) rfl rfl rfl (fun w => bin_shl (2 ^ (32 - n).toNat) (by omega) (by simp only [IntKind.bits]; omega) rfl w)) ?_
 refine TL.as_ ?_
 refine zET (zr ?_)
 exact ret_tmp Tryz.results179 rfl (fun w1 hw => ⟨rfl, hw⟩)
theorem order_any (x y : Int) (w : World) :
  Calls Tryz.prog 155 #[.int .i64 x, .int .i64 y] w fun e w' => e = .returned (.int .i64 (cmpI x y)) ∧ w' = w := by
 refine begin_ (vs := [.int .i64 x, .int .i64 y]) (I := fun w1 => w1 = w) Tryz.func155 rfl rfl rfl ?_ rfl
 refine zSG (TL.as_ ?_)
 refine zET (zS (zSG (TL.rn 2 rfl ?_)))
 refine TL.sp bin_lss (fun q7 => ?_) (fun q7 => ?_)
 ·refine zET (zc (zSG (TL.as_ ?_)))
  refine zET (zr (zR ?_))
  have hE : (cmpI x y) = -1 := (by simp [cmpI, q7]; try omega)
  exact ret_tmp Tryz.results155 rfl (fun w1 hw => ⟨by rw [hE]; try rfl, hw⟩)
 refine zET (zd (zk (zT (zS (zSG (TL.rn 2 rfl ?_))))))
 refine TL.sp bin_gtr (fun q10 => ?_) (fun q10 => ?_)
 ·refine zET (zc (zSG (TL.as_ ?_)))
  refine zET (zr (zR ?_))
  have hE : (cmpI x y) = 1 := (by simp [cmpI, q7, q10]; try omega)
  exact ret_tmp Tryz.results155 rfl (fun w1 hw => ⟨by rw [hE]; try rfl, hw⟩)
 refine zET (zd (zk (zT (zSG (TL.as_ ?_)))))
 refine zET (zr ?_)
 have hE : (cmpI x y) = 0 := (by simp [cmpI, q7, q10]; try omega)
 exact ret_tmp Tryz.results155 rfl (fun w1 hw => ⟨by rw [hE]; try rfl, hw⟩)
theorem rvld_any (a n : Int) (har : 0 ≤ a ∧ a ≤ 4294967295) (w : World) :
  Calls Tryz.prog 154 #[.agg #[.int .u32 a, .int .i64 n]] w fun e w' => e = .returned (.bool (rvldP a n)) ∧ Below w.heap.size w w' := by
 refine begin_ (vs := [.agg #[.int .u32 a, .int .i64 n]]) Tryz.func154 rfl rfl rfl ?_ (Pm.start w)
 refine zSG ?_
 refine TL.pnew rfl rfl rfl (exec_box (cs := [.int .u32 a, .int .i64 n]) rfl rfl rfl) (fun g1 => ?_)
 refine TL.as_ ?_
 refine zET (zS (TC.quietQ (by kernel_rfl) (by kernel_rfl) (fun w hw => hw.drawn _) ?_))
 refine TQ.v (gF badfld100_1) ?_
 refine TQ.v (gL 0 pcmag3) ?_
 refine TQ.sp bin_geq (fun q5 => ?_) (fun q5 => ?_)
 ·refine TQ.val rfl rfl rfl (gives_move rfl rfl) ?_
  refine TQ.ov (gF badfld100_1) ?_
  refine TQ.ov (gL 0 pcmag3) ?_
  refine TQ.on rfl rfl rfl ?_
  refine TQ.sp bin_leq (fun q9 => ?_) (fun q9 => ?_)
  ·refine TQ.rn 2 rfl (TQ.ov (gF badfld100_0) ?_)
   refine TQ.ov (gL 0 pcmag30) ?_
   refine TQ.on rfl rfl rfl ?_
   refine TQ.val rfl rfl rfl (gives_conv rfl rfl (fun w => conv_fit (k := .u32) Tryz.underlying3 Tryz.underlying30 (by simp only [IntKind.wrap_i64]; omega) w)) ?_
   refine TQ.ov (gF badfld100_1) ?_
   refine TQ.ov (gL 0 pcmag3) ?_
   refine TQ.on rfl rfl rfl ?_
   refine TQ.call (v := .int .i64 (sizeF n)) rfl rfl rfl rfl rfl Tryz.func179 (by decide) rfl (fun w1 hw => (still_bel (size_any n (by omega) (by omega) w1)).mono fun en w2 ⟨h1, h2⟩ => ⟨h1, hw.below h2⟩) ?_
   refine TQ.on rfl rfl rfl ?_
   refine TQ.val rfl rfl rfl (gives_bin rfl rfl rfl (fun w => bin_remk (m := a) (n := sizeF n) (by omega) (by have := sizeF_pos n; omega) w)) ?_
   refine TQ.on rfl rfl rfl ?_
   refine TQ.sp bin_eql (fun q19 => ?_) (fun q19 => ?_)
   ·refine TQ.rn 2 rfl ?_
    refine TQ.fin ?_
    refine zT (zr ?_)
    have hE : (rvldP a n) = true := (by simp [rvldP, q5, q9, q19]; try omega)
    exact ret_tmp Tryz.results154 rfl (fun w1 hw => ⟨by rw [hE]; try rfl, hw.bel⟩)
   refine TQ.rn 2 rfl ?_
   refine TQ.fin ?_
   refine zT (zr ?_)
   have hE : (rvldP a n) = false := (by simp [rvldP, q5, q9, q19]; try omega)
   exact ret_tmp Tryz.results154 rfl (fun w1 hw => ⟨by rw [hE]; try rfl, hw.bel⟩)
  refine TQ.rn 12 rfl ?_
  refine TQ.fin ?_
  refine zT (zr ?_)
  have hE : (rvldP a n) = false := (by simp [rvldP, q5, q9]; try omega)
  exact ret_tmp Tryz.results154 rfl (fun w1 hw => ⟨by rw [hE]; try rfl, hw.bel⟩)
 refine TQ.rn 16 rfl ?_
 refine TQ.fin ?_
 refine zT (zr ?_)
 have hE : (rvldP a n) = false := (by simp [rvldP, q5]; try omega)
 exact ret_tmp Tryz.results154 rfl (fun w1 hw => ⟨by rw [hE]; try rfl, hw.bel⟩)
theorem rcmpP_any (a n b m : Int) (har : 0 ≤ a ∧ a ≤ 4294967295) (hbr : 0 ≤ b ∧ b ≤ 4294967295) (w : World) :
  Calls Tryz.prog 114 #[.agg #[.int .u32 a, .int .i64 n], .agg #[.int .u32 b, .int .i64 m]] w fun e w' => e = .returned (.int .i64 (cmpP a n b m)) ∧ Below w.heap.size w w' := by
 refine begin_ (vs := [.agg #[.int .u32 a, .int .i64 n], .agg #[.int .u32 b, .int .i64 m]]) Tryz.func114 rfl rfl rfl ?_ (Pm.start w)
 refine zSG ?_
 refine TL.pnew rfl rfl rfl (exec_box (cs := [.int .u32 a, .int .i64 n]) rfl rfl rfl) (fun g2 => ?_)
 refine TL.pnew rfl rfl rfl (exec_box (cs := [.int .u32 b, .int .i64 m]) rfl rfl rfl) (fun g3 => ?_)
 refine TL.as_ ?_
 refine zET (zS (zSG (TL.v (gF badfld100_0) ?_)))
 refine TL.v (gL 1 pcmag30) ?_
 refine TL.v (gF badfld100_0) ?_
 refine TL.v (gL 0 pcmag30) ?_
 refine TL.sp bin_neq (fun q9 => ?_) (fun q9 => ?_)
 ·refine zET (zc (zSG (TL.v (gF badfld100_0) ?_)))
  refine TL.v (gL 1 pcmag30) ?_
  refine TL.val rfl rfl rfl (gives_conv rfl rfl (fun w => conv_fit (k := .u32) Tryz.underlying3 Tryz.underlying30 (by simp only [IntKind.wrap_i64]; omega) w)) ?_
  refine TL.v (gF badfld100_0) ?_
  refine TL.v (gL 0 pcmag30) ?_
  refine TL.val rfl rfl rfl (gives_conv rfl rfl (fun w => conv_fit (k := .u32) Tryz.underlying3 Tryz.underlying30 (by simp only [IntKind.wrap_i64]; omega) w)) ?_
  refine TL.pcall1 (r := .int .i64 (cmpI a b)) rfl rfl rfl rfl rfl Tryz.func155 (by decide) rfl (fun w1 hw => still_bel (order_any a b w1)) ?_
  refine TL.as_ ?_
  refine zET (zr (zR ?_))
  have hE : (cmpP a n b m) = cmpI a b := (by simp [cmpP, cmpI_zero, q9]; try omega)
  exact ret_tmp Tryz.results114 rfl (fun w1 hw => ⟨by rw [hE]; try rfl, hw.bel⟩)
 refine zET (zd (zk (zT (zSG (TL.v (gF badfld100_1) ?_)))))
 refine TL.v (gL 1 pcmag3) ?_
 refine TL.v (gF badfld100_1) ?_
 refine TL.v (gL 0 pcmag3) ?_
 refine TL.pcall1 (r := .int .i64 (cmpI n m)) rfl rfl rfl rfl rfl Tryz.func155 (by decide) rfl (fun w1 hw => still_bel (order_any n m w1)) ?_
 refine TL.as_ ?_
 refine zET (zr ?_)
 have hE : (cmpP a n b m) = cmpI n m := (by simp [cmpP, cmpI_zero, q9]; try omega)
 exact ret_tmp Tryz.results114 rfl (fun w1 hw => ⟨by rw [hE]; try rfl, hw.bel⟩)
theorem rvalE_any (x : En) (hx : x.Ok) (w : World) :
  Calls Tryz.prog 113 #[.agg x.cells.toArray] w fun e w' => e = .returned (.bool (rvalidE x)) ∧ Below w.heap.size w w' := by
 refine begin_ (vs := [.agg x.cells.toArray]) Tryz.func113 rfl rfl rfl ?_ (Pm.start w)
 refine zSG ?_
 refine TL.pnew rfl rfl rfl (exec_box (cs := x.cells) rfl rfl rfl) (fun g1 => ?_)
 refine TL.as_ ?_
 refine zET (zSG (TL.v (gF brefld102_0) ?_))
 refine TL.v (gV 0 (.agg #[.int .u32 x.addr, .int .i64 x.len]) badag100 badsz100) ?_
 refine TL.callsplit rfl rfl rfl rfl rfl Tryz.func154 (by decide) rfl (fun w1 hw => rvld_any x.addr x.len hx w1) (fun h5 => ?_) (fun h5 => ?_)
 ·refine TL.mv ?_
  refine TL.ov (gF brefld102_1) ?_
  refine TL.ov (gL 0 pcmag3) ?_
  refine TL.gu ?_
  refine TL.sp bin_geq (fun q9 => ?_) (fun q9 => ?_)
  ·refine TL.rn 2 rfl (TL.ov (gF brefld102_1) ?_)
   refine TL.ov (gL 0 pcmag3) ?_
   refine TL.gu ?_
   refine TL.sp bin_leq (fun q14 => ?_) (fun q14 => ?_)
   ·refine TL.rn 2 rfl (TL.ov (gF brefld102_2) ?_)
    refine TL.ov (gL 0 pcmag3) ?_
    refine TL.gu ?_
    refine TL.sp bin_geq (fun q19 => ?_) (fun q19 => ?_)
    ·refine TL.rn 2 rfl (TL.ov (gF brefld102_2) ?_)
     refine TL.ov (gL 0 pcmag3) ?_
     refine TL.ov (gF brefld102_3) ?_
     refine TL.ov (gL 0 pcmag3) ?_
     refine TL.gu ?_
     refine TL.sp bin_lss (fun q26 => ?_) (fun q26 => ?_)
     ·refine TL.rn 2 rfl (TL.ov (gF brefld102_3) ?_)
      refine TL.ov (gL 0 pcmag3) ?_
      refine TL.gu ?_
      refine TL.sp bin_leq (fun q31 => ?_) (fun q31 => ?_)
      ·refine TL.rn 2 rfl (zET (zr ?_))
       have hE : (rvalidE x) = true := (by simp [rvalidE, h5, q9, q14, q19, q26, q31]; try omega)
       exact ret_tmp Tryz.results113 rfl (fun w1 hw => ⟨by rw [hE]; try rfl, hw.bel⟩)
      refine TL.rn 2 rfl (zET (zr ?_))
      have hE : (rvalidE x) = false := (by simp [rvalidE, h5, q9, q14, q19, q26, q31]; try omega)
      exact ret_tmp Tryz.results113 rfl (fun w1 hw => ⟨by rw [hE]; try rfl, hw.bel⟩)
     refine TL.rn 7 rfl (zET (zr ?_))
     have hE : (rvalidE x) = false := (by simp [rvalidE, h5, q9, q14, q19, q26]; try omega)
     exact ret_tmp Tryz.results113 rfl (fun w1 hw => ⟨by rw [hE]; try rfl, hw.bel⟩)
    refine TL.rn 14 rfl (zET (zr ?_))
    have hE : (rvalidE x) = false := (by simp [rvalidE, h5, q9, q14, q19]; try omega)
    exact ret_tmp Tryz.results113 rfl (fun w1 hw => ⟨by rw [hE]; try rfl, hw.bel⟩)
   refine TL.rn 19 rfl (zET (zr ?_))
   have hE : (rvalidE x) = false := (by simp [rvalidE, h5, q9, q14]; try omega)
   exact ret_tmp Tryz.results113 rfl (fun w1 hw => ⟨by rw [hE]; try rfl, hw.bel⟩)
  refine TL.rn 24 rfl (zET (zr ?_))
  have hE : (rvalidE x) = false := (by simp [rvalidE, h5, q9]; try omega)
  exact ret_tmp Tryz.results113 rfl (fun w1 hw => ⟨by rw [hE]; try rfl, hw.bel⟩)
 refine TL.rn 28 rfl (zET (zr ?_))
 have hE : (rvalidE x) = false := (by simp [rvalidE, h5]; try omega)
 exact ret_tmp Tryz.results113 rfl (fun w1 hw => ⟨by rw [hE]; try rfl, hw.bel⟩)
theorem pow_nat (k : Nat) : (2 : Int) ^ k = ((2 ^ k : Nat) : Int) := by simp
theorem pow_bounds (k : Nat) (hk : k ≤ 32) : 0 < 2 ^ k ∧ 2 ^ k ≤ 4294967296 := ⟨Nat.two_pow_pos k, by rw [show 4294967296 = 2 ^ 32 by rfl]; exact Nat.pow_le_pow_right (by decide) hk⟩
theorem sizeF_eq {n : Int} (h0 : 0 ≤ n) (h1 : n ≤ 32) : sizeF n = ((2 ^ (32 - n).toNat : Nat) : Int) := by
  have h2 := pow_bounds (32 - n).toNat (by omega)
  unfold sizeF
  rw [Int.one_mul, pow_nat, IntKind.wrap_i64]
  omega
theorem maskF_eq {n : Int} (h0 : 0 ≤ n) (h1 : n ≤ 32) : maskF n = ((4294967296 - 2 ^ (32 - n).toNat : Nat) : Int) := by
  have h2 := pow_bounds (32 - n).toNat (by omega)
  unfold maskF
  rw [pow_nat, IntKind.wrap_u32]
  omega
theorem vldP_eq {a n : Int} (ha : 0 ≤ a ∧ a ≤ 4294967295) : vldP a n = rvldP a n := by
  unfold vldP rvldP
  by_cases h : 0 ≤ n ∧ n ≤ 32
  · have h2 := pow_bounds (32 - n).toNat (by omega)
    obtain ⟨x, rfl⟩ := Int.eq_ofNat_of_zero_le ha.1
    rw [maskF_eq h.1 h.2, sizeF_eq h.1 h.2, u32_andNot_nat _ _ (by omega) (by omega)]
    rw [show 4294967295 - (4294967296 - 2 ^ (32 - n).toNat) = 2 ^ (32 - n).toNat - 1 by omega, Nat.and_two_pow_sub_one_eq_mod]
    congr 1
  · have : (decide (0 ≤ n) && decide (n ≤ 32)) = false := by
      by_cases h3 : 0 ≤ n
      · have : ¬ n ≤ 32 := fun h4 => h ⟨h3, h4⟩
        simp [this]
      · simp [h3]
    rw [this, Bool.false_and, Bool.false_and]
theorem rvalidE_eq {e : En} (h : e.Ok) : rvalidE e = validE e := by unfold rvalidE validE; rw [vldP_eq h]
set_option maxRecDepth 20000
theorem rvalX_any (A0 : Option Addr) (c0 : Nat) (es : List En) (w : World) (hr : Reads w w.heap.size 5 A0 es.length (flat En.cells es)) (hl1 : es.length ≤ 100000) (hok : ∀ z ∈ es, z.Ok) :
  Calls Tryz.prog 85 #[.agg #[.slice A0 es.length c0]] w fun e w' => e = .returned (.bool (validR es)) ∧ Below w.heap.size w w' := by
 refine begin_ (vs := [.agg #[.slice A0 es.length c0]]) Tryz.func85 rfl rfl rfl ?_ (Pm.start w)
 refine zSG ?_
 refine TL.pnew rfl rfl rfl (exec_box (cs := [.slice A0 es.length c0]) rfl rfl rfl) (fun g1 => ?_)
 refine TL.as_ ?_
 refine zET (zS (zSG (TL.v (gF brefld26_0) ?_)))
 refine TL.v (gL 0 breag24) ?_
 refine TL.v (gN Tryz.underlying24) ?_
 refine TL.sp bin_gtr (fun q10 => ?_) (fun q10 => ?_)
 ·refine zET (zc (zSG (TL.as_ ?_)))
  refine zET (zr (zR ?_))
  have hE : validR es = false := by simp only [validR, decide_eq_false (show ¬ es.length ≤ 1024 by omega), Bool.false_and]
  exact ret_tmp Tryz.results85 rfl (fun w1 hw => ⟨by rw [hE], hw.bel⟩)
 refine zET (zd (zk (zT (zS (zSG (TL.as_ ?_))))))
 refine zET (zB (TC.loop_ (α := {i : Nat // i ≤ es.length ∧ ∀ j, j < i → okAt es j = true}) (fun y => [(1, .pointer (some ⟨g1, 0, none⟩)), (3, .int .i64 ((y.1 : Nat) : Int))]) (fun y => Pm w [.blk g1 26 [.slice A0 es.length c0]]) (fun y => es.length - y.1) (⟨0, Nat.zero_le _, fun j hj => absurd hj (Nat.not_lt_zero _)⟩) ⟨rfl, rfl, trivial⟩ (fun w1 hw => hw) ?_))
 rintro ⟨i, hi, hok2⟩
 try dsimp only at hi hok2 ⊢
 refine zS (zSG (TL.mv ?_))
 refine TL.v (gF brefld26_0) ?_
 refine TL.v (gL 0 breag24) ?_
 refine TL.v (gN Tryz.underlying24) ?_
 refine TL.sp bin_lss (fun q15 => ?_) (fun q15 => ?_)
 ·refine zET (zc (zk (zT (zS (zB (zS (zSG (TL.v (gF brefld26_0) ?_))))))))
  refine TL.v (gL 0 breag24) ?_
  refine TL.mv ?_
  have hi21 : i < es.length := by omega
  obtain ⟨x21, hx21⟩ := ex_at hi21
  obtain ⟨b21, o21, hA21, hbb21, hc21⟩ := hr.ad (by omega) (by decide)
  refine TL.val rfl rfl rfl (gA (i := i) Tryz.underlying24 bresz102 rfl rfl rfl rfl hA21 (by omega)) ?_
  refine TL.v (gR en_cel breag102 bresz102 hbb21 hx21 hc21) ?_
  refine TL.callsplit rfl rfl rfl rfl rfl Tryz.func113 (by decide) rfl (fun w1 hw => rvalE_any x21 (hok x21 (List.mem_of_getElem? hx21)) w1) (fun h23 => ?_) (fun h23 => ?_)
  ·refine TL.val rfl rfl rfl (gives_boolnot rfl rfl) ?_
   refine zET (zd (zk (zT (zS (zS ?_)))))
   have hv21 : validE x21 = true := by rw [← rvalidE_eq (hok x21 (List.mem_of_getElem? hx21))]; exact h23
   refine zG (TL.mv ?_)
   refine TL.sp bin_eql (fun q26 => ?_) (fun q26 => ?_)
   ·refine zET (zc (zx (zX (zM (zT (zG (TL.mv ?_)))))))
    refine TL.v (gD ((i + 1 : Nat) : Int)) ?_
    refine TL.as_ ?_
    refine zE ?_
    exact TX.round (⟨i + 1, by omega, okN hok2 (okAt_zero (by omega) hx21 hv21)⟩) (by show es.length - (i + 1) < es.length - i; omega) ⟨rfl, rfl, trivial⟩ (fun w1 hw => hw)
   refine zET (zd (zk (zT ?_)))
   have hi0 : ¬ i = 0 := by omega
   have hi31 : i - 1 < es.length := by omega
   obtain ⟨x31, hx31⟩ := ex_at hi31
   have hi36 : i < es.length := by omega
   obtain ⟨x36, hx36⟩ := ex_at hi36
   have e36 : x21 = x36 := by rw [hx21] at hx36; exact Option.some.inj hx36
   rw [e36] at hv21
   obtain ⟨b31, o31, hA31, hbb31, hc31⟩ := hr.ad (by omega) (by decide)
   refine TC.join (α := Nat × Nat) (fun y => [(1, .pointer (some ⟨g1, 0, none⟩)), (3, .int .i64 ((i : Nat) : Int)), (4, .pointer (some ⟨y.1, 0, none⟩)), (5, .pointer (some ⟨y.2, 0, none⟩))]) (fun y => Pm w [.blk y.1 102 x31.cells, .blk y.2 102 x36.cells, .blk g1 26 [.slice A0 es.length c0]]) ?_ ?_
   ·refine TC.held (ls := #[Ff,Ff,Ff,Ff,Ff,Ff,Ff,Ff,Ff,Ff,Ff,Ff,Ff,Ff,Ff]) (Pm w [.blk g1 26 [.slice A0 es.length c0]]) (by kernel_rfl) rfl rfl (fun w hw => hw.drawn _) ?_
    refine TH.tk 0 rfl rfl rfl (gF brefld26_0) (fun w1 hw => hw) ?_
    refine TH.tk 1 rfl rfl rfl (gL 0 breag24) (fun w1 hw => hw) ?_
    refine TH.tk 2 rfl rfl rfl (gives_move rfl rfl) (fun w1 hw => hw) ?_
    refine TH.tk 3 rfl rfl rfl (gives_bin rfl rfl rfl (fun w => bin_sub_ (r := ((i - 1 : Nat) : Int)) (by simp only [IntKind.wrap_i64]; omega) w)) (fun w1 hw => hw) ?_
    refine TH.tk 4 rfl rfl rfl (gA (i := (i - 1)) Tryz.underlying24 bresz102 rfl rfl rfl rfl hA31 (by omega)) (fun w1 hw => hw) ?_
    refine TH.tk 5 rfl rfl rfl (gives_loadR (off := o31 + (i - 1) * 5) rfl rfl breag102 bresz102 (en_cel.len x31) (fun w1 hw j9 u9 h9 => (hw.bel.cell hbb31).trans <| flat_cell en_cel hx31 hc31 j9 u9 h9)) (fun w1 hw => hw) ?_
    refine TH.tk 6 rfl rfl rfl (gF brefld26_0) (fun w1 hw => hw) ?_
    refine TH.tk 7 rfl rfl rfl (gL 0 breag24) (fun w1 hw => hw) ?_
    refine TH.tk 8 rfl rfl rfl (gives_move rfl rfl) (fun w1 hw => hw) ?_
    refine TH.tk 9 rfl rfl rfl (gA (i := i) Tryz.underlying24 bresz102 rfl rfl rfl rfl hA31 (by omega)) (fun w1 hw => hw) ?_
    refine TH.tk 10 rfl rfl rfl (gR en_cel breag102 bresz102 hbb31 hx36 hc31) (fun w1 hw => hw) ?_
    refine TH.two' (listed1 := #[Tt,Tt,Tt,Tt,Tt,Tt,Tt,Tt,Tt,Tt,Tt,Tt,Ff,Ff,Ff]) (listed2 := #[Tt,Tt,Tt,Tt,Tt,Tt,Tt,Tt,Tt,Tt,Tt,Ff,Tt,Ff,Ff]) 11 12 rfl rfl (by kernel_rfl) rfl rfl ?_ ?_
    ·refine TL.pnew rfl rfl rfl (exec_alloc (cs := [.int .u32 0, .int .i64 0, .int .i64 0, .int .i64 0, .int .i64 0]) rfl brezv102 rfl) (fun g4 => ?_)
     refine zE ?_
     refine TX.held (fun w1 hw => hw.pick [1] (by decide) rfl) ?_
     refine TH.only' 12 rfl (by kernel_rfl) rfl ?_
     refine TL.pnew rfl rfl rfl (exec_alloc (cs := [.int .u32 0, .int .i64 0, .int .i64 0, .int .i64 0, .int .i64 0]) rfl brezv102 rfl) (fun g5 => ?_)
     refine zE ?_
     refine TX.held (fun w1 hw => hw.pick [2] (by decide) rfl) ?_
     refine TH.only' 13 rfl (by kernel_rfl) rfl ?_
     refine TL.pstore (k := 1) (vs := x31.cells) rfl rfl rfl rfl rfl rfl rfl bresz102 (en_cel.one _) (by show 5 ≤ 5; decide) (L' := [.blk g5 102 [.int .u32 0, .int .i64 0, .int .i64 0, .int .i64 0, .int .i64 0], .blk g4 102 x31.cells, .blk g1 26 [.slice A0 es.length c0]]) rfl ?_
     refine zE ?_
     refine TX.held (fun w1 hw => hw.pick [2] (by decide) rfl) ?_
     refine TH.only' 14 rfl (by kernel_rfl) rfl ?_
     refine TL.pstore (k := 0) (vs := x36.cells) rfl rfl rfl rfl rfl rfl rfl bresz102 (en_cel.one _) (by show 5 ≤ 5; decide) (L' := [.blk g5 102 x36.cells, .blk g4 102 x31.cells, .blk g1 26 [.slice A0 es.length c0]]) rfl ?_
     refine zE ?_
     refine TX.held (fun w1 hw => hw.pick [2] (by decide) rfl) ?_
     refine TH.done (by kernel_rfl) ?_
     exact TX.joined ((g4, g5)) (⟨rfl, rfl, rfl, rfl, trivial⟩) (fun w1 hw => hw.pick [1, 0, 2] (by decide) rfl)
    refine TL.pnew rfl rfl rfl (exec_alloc (cs := [.int .u32 0, .int .i64 0, .int .i64 0, .int .i64 0, .int .i64 0]) rfl brezv102 rfl) (fun g5 => ?_)
    refine zE ?_
    refine TX.held (fun w1 hw => hw.pick [1] (by decide) rfl) ?_
    refine TH.only' 11 rfl (by kernel_rfl) rfl ?_
    refine TL.pnew rfl rfl rfl (exec_alloc (cs := [.int .u32 0, .int .i64 0, .int .i64 0, .int .i64 0, .int .i64 0]) rfl brezv102 rfl) (fun g4 => ?_)
    refine zE ?_
    refine TX.held (fun w1 hw => hw.pick [2] (by decide) rfl) ?_
    refine TH.only' 13 rfl (by kernel_rfl) rfl ?_
    refine TL.pstore (k := 0) (vs := x31.cells) rfl rfl rfl rfl rfl rfl rfl bresz102 (en_cel.one _) (by show 5 ≤ 5; decide) (L' := [.blk g4 102 x31.cells, .blk g5 102 [.int .u32 0, .int .i64 0, .int .i64 0, .int .i64 0, .int .i64 0], .blk g1 26 [.slice A0 es.length c0]]) rfl ?_
    refine zE ?_
    refine TX.held (fun w1 hw => hw.pick [2] (by decide) rfl) ?_
    refine TH.only' 14 rfl (by kernel_rfl) rfl ?_
    refine TL.pstore (k := 1) (vs := x36.cells) rfl rfl rfl rfl rfl rfl rfl bresz102 (en_cel.one _) (by show 5 ≤ 5; decide) (L' := [.blk g4 102 x31.cells, .blk g5 102 x36.cells, .blk g1 26 [.slice A0 es.length c0]]) rfl ?_
    refine zE ?_
    refine TX.held (fun w1 hw => hw.pick [2] (by decide) rfl) ?_
    refine TH.done (by kernel_rfl) ?_
    exact TX.joined ((g4, g5)) (⟨rfl, rfl, rfl, rfl, trivial⟩) (fun w1 hw => hw)
   rintro ⟨ga, gb⟩
   try dsimp only
   refine zSG (TL.v (gF brefld102_0) ?_)
   refine TL.v (gV 0 (.agg #[.int .u32 x31.addr, .int .i64 x31.len]) badag100 badsz100) ?_
   refine TL.v (gF brefld102_0) ?_
   refine TL.v (gV 1 (.agg #[.int .u32 x36.addr, .int .i64 x36.len]) badag100 badsz100) ?_
   refine TL.pcall1 (r := .int .i64 (cmpP x31.addr x31.len x36.addr x36.len)) rfl rfl rfl rfl rfl Tryz.func114 (by decide) rfl (fun w1 hw => rcmpP_any x31.addr x31.len x36.addr x36.len (hok x31 (List.mem_of_getElem? hx31)) (hok x36 (List.mem_of_getElem? hx36)) w1) ?_
   refine TL.as_ ?_
   refine zET (zSG (TL.mv ?_))
   refine TL.sp bin_gtr (fun q44 => ?_) (fun q44 => ?_)
   ·refine TL.rn 4 rfl ?_
    refine TL.offU rfl rfl rfl rfl rfl ?_
    refine TL.offU rfl rfl rfl rfl rfl ?_
    refine TL.offU rfl rfl rfl rfl rfl ?_
    refine TL.offU rfl rfl rfl rfl rfl ?_
    refine TL.offU rfl rfl rfl rfl rfl ?_
    refine TL.rn 2 rfl (zET (zc (zSG (TL.as_ ?_))))
    refine zET (zr (zRR (zR (zRR ?_))))
    have hE : validR es = false := validR_false hi36 (okAt_pair (t := false) (by omega) hx36 hx31 hv21 (by simp [badP, q44]))
    exact ret_tmp Tryz.results85 rfl (fun w1 hw => ⟨by rw [hE], hw.bel⟩)
   refine TL.rn 2 rfl (TL.gu ?_)
   refine TL.sp bin_eql (fun q47 => ?_) (fun q47 => ?_)
   ·refine TL.rn 1 rfl (TL.ov (gF brefld102_2) ?_)
    refine TL.ov (gL 1 pcmag3) ?_
    refine TL.ov (gF brefld102_3) ?_
    refine TL.ov (gL 0 pcmag3) ?_
    refine TL.gu ?_
    refine TL.sp bin_lss (fun q53 => ?_) (fun q53 => ?_)
    ·refine TL.rn 2 rfl (zET (zc (zSG (TL.as_ ?_))))
     refine zET (zr (zRR (zR (zRR ?_))))
     have hE : validR es = false := validR_false hi36 (okAt_pair (t := false) (by omega) hx36 hx31 hv21 (by simp [badP, q44, q47, q53]))
     exact ret_tmp Tryz.results85 rfl (fun w1 hw => ⟨by rw [hE], hw.bel⟩)
    refine TL.rn 2 rfl (zET (zd (zk (zN (zT (zG (TL.mv ?_)))))))
    refine TL.v (gD ((i + 1 : Nat) : Int)) ?_
    refine TL.as_ ?_
    refine zE ?_
    exact TX.round (⟨i + 1, by omega, okN hok2 (okAt_pair (t := true) (by omega) hx36 hx31 hv21 (by simp [badP, q44, q47, q53]))⟩) (by show es.length - (i + 1) < es.length - i; omega) ⟨rfl, rfl, trivial⟩ (fun w1 hw => hw.pick [2] (by decide) rfl)
   refine TL.rn 8 rfl (zET (zd (zk (zN (zT (zG (TL.mv ?_)))))))
   refine TL.v (gD ((i + 1 : Nat) : Int)) ?_
   refine TL.as_ ?_
   refine zE ?_
   exact TX.round (⟨i + 1, by omega, okN hok2 (okAt_pair (t := true) (by omega) hx36 hx31 hv21 (by simp [badP, q44, q47]))⟩) (by show es.length - (i + 1) < es.length - i; omega) ⟨rfl, rfl, trivial⟩ (fun w1 hw => hw.pick [2] (by decide) rfl)
  refine TL.val rfl rfl rfl (gives_boolnot rfl rfl) ?_
  refine zET (zc (zSG (TL.as_ ?_)))
  refine zET (zr (zR (zRR (zR (zRR ?_)))))
  have hE : validR es = false := validR_false hi21 (okAt_bad hx21 (by rw [← rvalidE_eq (hok x21 (List.mem_of_getElem? hx21))]; exact h23))
  exact ret_tmp Tryz.results85 rfl (fun w1 hw => ⟨by rw [hE], hw.bel⟩)
 refine zET (zd (zx (zX (zX (zM (zT (zSG (TL.as_ ?_))))))))
 refine zET (zr ?_)
 have hE : validR es = true := validR_true (by omega) (fun j hj => hok2 j (by omega))
 exact ret_tmp Tryz.results85 rfl (fun w1 hw => ⟨by rw [hE], hw.bel⟩)
set_option maxRecDepth 20000
def LimOk (l : List Rs) (z : Int) : Prop := (z = 1 ∧ ∃ r ∈ l, vldRs r = false) ∨ (z = 5 ∧ (∀ r ∈ l, vldRs r = true) ∧ ∃ o, IsOrd l o ∧ 512 < o.length) ∨ (z = 0 ∧ (∀ r ∈ l, vldRs r = true) ∧ ∃ o, IsOrd l o ∧ o.length ≤ 512)
theorem LimOk.eq {l : List Rs} {z z' : Int} (h : LimOk l z) (h' : LimOk l z') : z = z' := by
  rcases h with ⟨rfl, r, hr, h1⟩ | ⟨rfl, h1, o, h2, h3⟩ | ⟨rfl, h1, o, h2, h3⟩ <;> rcases h' with ⟨rfl, r', hr', h1'⟩ | ⟨rfl, h1', o', h2', h3'⟩ | ⟨rfl, h1', o', h2', h3'⟩ <;> first | rfl | (rw [h1' r hr] at h1; cases h1) | (rw [h1 r' hr'] at h1'; cases h1') | (rw [h2.eq h2'] at h3; omega)
theorem mem_atL {y : List Rs} {t : Int} {z : Rs} : z ∈ atL y t ↔ z ∈ y ∧ z.ans = true ∧ z.ttl = t := by
  unfold atL
  rw [List.mem_filter]
  simp only [Bool.and_eq_true, decide_eq_true_eq]
open Go.RowKit Go.Shelf
def fls (l : List Rs) : List Int := (l.filter usbRs).map fun r => r.flow
def FlM (ob : Obj) (fs : List Int) : Prop := ∃ f : Int → Option Value, MapG (Value.int .i64) (fun a => (Lit.int .i64 a).wf = true) ob f ∧ ∀ a, (Lit.int .i64 a).wf = true → (f a).getD (.bool false) = .bool (decide (a ∈ fs))
theorem FlM.new : FlM (.map #[] 0) [] := ⟨_, mapG_new _ _, fun a _ => rfl⟩
theorem fls_snoc_f {of : List Rs} {j : Nat} {x : Rs} (hx : of[j]? = some x) (h : usbRs x = false) : fls (of.take (j + 1)) = fls (of.take j) := by
  unfold fls
  rw [List.take_add_one, hx, List.filter_append]
  simp [h]
theorem fls_snoc_t {of : List Rs} {j : Nat} {x : Rs} (hx : of[j]? = some x) (h : usbRs x = true) : fls (of.take (j + 1)) = fls (of.take j) ++ [x.flow] := by
  unfold fls
  rw [List.take_add_one, hx, List.filter_append, List.map_append]
  simp [h]
theorem FlM.same {ob : Obj} {a b : List Int} (h : FlM ob a) (hm : ∀ z, z ∈ a ↔ z ∈ b) : FlM ob b := by
  obtain ⟨f, h1, h2⟩ := h
  exact ⟨f, h1, fun z hz => by rw [h2 z hz, decide_eq_decide.2 (hm z)]⟩
theorem FlM.set {ob : Obj} {fs : List Int} {x : Int} {f : Int → Option Value} (h2 : ∀ a, (Lit.int .i64 a).wf = true → (f a).getD (.bool false) = .bool (decide (a ∈ fs))) (hm : MapG (Value.int .i64) (fun a => (Lit.int .i64 a).wf = true) ob (fun z => if z = x then some (.bool true) else f z)) : FlM ob (fs ++ [x]) :=
  ⟨_, hm, fun a ha => by
    by_cases e : a = x
    · simp [e]
    · simp [e, h2 a ha]⟩
def FSA (l : List Rs) (ts : List Trc) (p : Rp) : Prop := p.trc ∈ ts ∧ IsTm l p
def FSB (l : List Rs) (ts : List Trc) (t : Trc) (fs : List Int) (p : Rp) : Prop := FSA l ts p ∨ (p.trc = t ∧ p.flow ∈ fs ∧ IsTm l p)
section
variable {es : List En} {l of y ts : List Rs} {tr : List Trc} {u : Ru} {i j : Nat} {x r0 : Rs} {t : Trc} {out o : List Rp} {P : Rp → Prop}
theorem fb_start (h : MinU P (FSA l (tr.take i)) out) : MinU P (FSB l (tr.take i) t (fls (of.take 0))) out := h.congr fun p _ => by
  unfold FSB
  rw [List.take_zero]
  exact ⟨.inl, fun h => h.elim id fun ⟨_, h1, _⟩ => absurd h1 List.not_mem_nil⟩
theorem fb_skip (h : MinU P (FSB l (tr.take i) t (fls (of.take j))) out) (hx : of[j]? = some x) (hs : x.flow ∈ fls (of.take j) ∨ usbRs x = false) : (∀ z, z ∈ fls (of.take j) ↔ z ∈ fls (of.take (j + 1))) ∧ MinU P (FSB l (tr.take i) t (fls (of.take (j + 1)))) out := by
  have key : ∀ z, z ∈ fls (of.take j) ↔ z ∈ fls (of.take (j + 1)) := fun z => by
    by_cases hu : usbRs x = true
    · rw [fls_snoc_t hx hu, List.mem_append, List.mem_singleton]
      rcases hs with hs | hs
      · exact ⟨.inl, fun h => h.elim id fun h => h ▸ hs⟩
      · rw [hs] at hu; cases hu
    · rw [fls_snoc_f hx (by simpa using hu)]
  refine ⟨key, h.congr fun p _ => ?_⟩
  unfold FSB
  rw [key]
theorem stream_ne (hof : IsOf l t of) (hx : of[j]? = some x) (hu : usbRs x = true) (hy : IsSt l t x.flow y) : x ∈ y := by
  obtain ⟨o, h1, rfl⟩ := hof
  have h2 := List.mem_filter.1 (List.mem_of_getElem? hx)
  exact (hy.mem x).2 ⟨((h1.2 x).1 h2.1).1, by simpa using h2.2, hu, rfl⟩
theorem fb_step (h : MinU (PrP es l u) (FSB l (tr.take i) t (fls (of.take j))) out) (ht : tr[i]? = some t) (htr : IsTrc l tr) (hx : of[j]? = some x) (hu : usbRs x = true) (hn : x.flow ∉ fls (of.take j)) (hy : IsSt l t x.flow y) (h0 : y[0]? = some r0) (hvu : vldRu u = true) (hve : validR es = true) (ho : MinU (PrS es y u) (TmS r0 y) o) : MinU (PrP es l u) (FSB l (tr.take i) t (fls (of.take (j + 1)))) (out ++ o) := by
  have hr0 := (hy.mem r0).1 (List.mem_of_getElem? h0)
  have e1 : trcR r0 = t := hr0.2.1
  have e2 : r0.flow = x.flow := hr0.2.2.2
  have hnt : t ∉ tr.take i := fun hm => by
    obtain ⟨q, hq⟩ := List.getElem?_of_mem hm
    have hq2 : q < i := by have := (List.getElem?_eq_some_iff.1 hq).1; rw [List.length_take] at this; omega
    rw [List.getElem?_take_of_lt hq2] at hq
    obtain ⟨h1, g1⟩ := List.getElem?_eq_some_iff.1 hq
    obtain ⟨h2, g2⟩ := List.getElem?_eq_some_iff.1 ht
    have := (List.pairwise_iff_getElem.1 htr.1) q i h1 h2 hq2
    rw [g1, g2] at this
    exact ltK_irrefl _ this
  have htm : ∀ p, TmS r0 y p ↔ p.trc = t ∧ p.flow = x.flow ∧ IsTm l p := fun p => by
    unfold TmS IsTm
    rw [e1, e2]
    constructor
    · rintro ⟨h1, h2, s, h3, h4⟩
      rw [h1, h2]
      exact ⟨rfl, rfl, y, hy, s, h3, h4⟩
    · rintro ⟨h1, h2, y', h3, s, h4, h5⟩
      rw [h1, h2] at h3
      rw [hy.eq h3]
      exact ⟨h1, h2, s, h4, h5⟩
  have ho2 : MinU (PrP es l u) (fun p => p.trc = t ∧ p.flow = x.flow ∧ IsTm l p) o := (ho.congrP (P' := PrP es l u) fun p hp => by
    obtain ⟨h1, h2, s, h3, h4⟩ := hp
    exact prS_iff hvu hve (by rw [h1, h2, e1, e2]; exact hy) h3 h4).congr fun p _ => htm p
  refine (h.app ho2 ?_).congr fun p _ => ?_
  · rintro p q h1 ⟨h2, h3, _⟩ h4
    have h5 := congrArg Rp.trc h4
    have h6 := congrArg Rp.flow h4
    have h7 : p.trc = q.trc := h5
    have h8 : p.flow = q.flow := h6
    rcases h1 with ⟨h1, _⟩ | ⟨_, h1, _⟩
    · rw [h7, h2] at h1; exact hnt h1
    · rw [h8, h3] at h1; exact hn h1
  · unfold FSB
    rw [fls_snoc_t hx hu]
    constructor
    · rintro ((h1 | ⟨h1, h2, h3⟩) | ⟨h1, h2, h3⟩)
      · exact .inl h1
      · exact .inr ⟨h1, List.mem_append_left _ h2, h3⟩
      · exact .inr ⟨h1, List.mem_append_right _ (List.mem_singleton.2 h2), h3⟩
    · rintro (h1 | ⟨h1, h2, h3⟩)
      · exact .inl (.inl h1)
      · rcases List.mem_append.1 h2 with h4 | h4
        · exact .inl (.inr ⟨h1, h4, h3⟩)
        · exact .inr ⟨h1, List.mem_singleton.1 h4, h3⟩
theorem fb_end (h : MinU P (FSB l (tr.take i) t (fls (of.take j))) out) (hj : of.length ≤ j) (hof : IsOf l t of) (ht : tr[i]? = some t) : MinU P (FSA l (tr.take (i + 1))) out := h.congr fun p _ => by
  unfold FSB FSA
  rw [List.take_of_length_le hj, List.take_add_one, ht]
  constructor
  · rintro (⟨h1, h2⟩ | ⟨h1, _, h3⟩)
    · exact ⟨List.mem_append_left _ h1, h2⟩
    · exact ⟨List.mem_append_right _ (by rw [h1]; exact List.mem_singleton.2 rfl), h3⟩
  · rintro ⟨h1, h2⟩
    rcases List.mem_append.1 h1 with h3 | h3
    · exact .inl ⟨h3, h2⟩
    · have h4 : p.trc = t := by simpa using h3
      refine .inr ⟨h4, ?_, h2⟩
      obtain ⟨y, hy, s, hs, _⟩ := h2
      have h5 := (hy.mem s).1 hs
      obtain ⟨o, h6, rfl⟩ := hof
      have hv : vldRs s = true := by have := h5.2.2.1; unfold usbRs at this; simp only [Bool.and_eq_true] at this; exact this.2
      exact List.mem_map.2 ⟨s, List.mem_filter.2 ⟨List.mem_filter.2 ⟨(h6.2 s).2 ⟨h5.1, hv⟩, by rw [← h4]; exact decide_eq_true h5.2.1⟩, h5.2.2.1⟩, h5.2.2.2⟩
theorem fa_end (h : MinU (PrP es l u) (FSA l (tr.take i)) out) (hi : tr.length ≤ i) (htr : IsTrc l tr) (hs : Sorted cmpRp out o) : IsFnd es l u o := (h.congr (S' := IsTm l) fun p _ => by
  unfold FSA
  rw [List.take_of_length_le hi, htr.2]
  refine ⟨fun h => h.2, fun h => ⟨?_, h⟩⟩
  obtain ⟨y, hy, s, hs, _⟩ := h
  have h5 := (hy.mem s).1 hs
  have hv : vldRs s = true := by have := h5.2.2.1; unfold usbRs at this; simp only [Bool.and_eq_true] at this; exact this.2
  exact ⟨s, h5.1, hv, h5.2.1⟩).sorted hs
theorem fa_zero : MinU P (FSA l (tr.take 0)) [] := MinU.nil fun p h => by
  have := h.1; rw [List.take_zero] at this; cases this
theorem trc_le {o : List Rs} (htr : IsTrc l tr) (ho : IsOrd l o) : tr.length ≤ o.length := by
  have hn : tr.Nodup := htr.1.imp fun {a b} hab e => by subst e; exact ltK_irrefl _ hab
  have := nodup_len (F := o.map trcR) hn fun t ht => by
    obtain ⟨r, h1, h2, h3⟩ := (htr.2 t).1 ht
    exact List.mem_map.2 ⟨r, (ho.2 r).2 ⟨h1, h2⟩, h3⟩
  rwa [List.length_map] at this
theorem of_le {o : List Rs} (hof : IsOf l t of) (ho : IsOrd l o) : of.length ≤ o.length := by
  obtain ⟨o', h1, rfl⟩ := hof
  rw [ho.eq h1]
  exact List.length_filter_le _ _
end
theorem wf_flow {r : Rs} (h : vldRs r = true) : (Lit.int .i64 r.flow).wf = true := by
  have := vld_in h
  unfold Rs.inRange at this
  simp [Lit.wf, IntKind.min, IntKind.max, IntKind.signed, IntKind.bits]; omega
set_option maxRecDepth 20000
theorem aclbs106_0_0  (w : World) : (Instr.buildSlice 106 0 #[]).run Tryz.prog w = .ok (.slice (some ⟨w.heap.size, 0, none⟩) 0 0) (w.alloc (.cells [].toArray 3)) := by kernel_rfl
theorem cloneI_none (c0 : Nat) (w : World) :
  Calls Tryz.prog 143 #[.slice none 0 c0] w fun e w' => ∃ x : {p : Option Addr × Nat // (([] : List Int)).length ≤ p.2 ∧ p.2 ≤ maxLen}, e = .returned (.slice x.1.1 (([] : List Int)).length x.1.2) ∧ Pm w [.row (.slice x.1.1 (([] : List Int)).length x.1.2) 3 1 (([] : List Int)).length (flat (ic .i64) (([] : List Int)))] w' := by
 refine begin_ (vs := [.slice none 0 c0]) Tryz.func143 rfl rfl rfl ?_ (Pm.start w)
 refine zSG (TL.as_ ?_)
 refine zET (zS (zSG (TL.mv ?_)))
 refine TL.val rfl rfl rfl (gives_bin2 (v := .bool true) rfl rfl rfl (fun w => slice_nil Tryz.underlying106 w)) ?_
 refine zET (zc (zSG (TL.as_ ?_)))
 refine zET (zr (zR ?_))
 exact ret_tmp Tryz.results143 rfl (fun w1 hw => ⟨⟨(none, 0), Nat.le_refl _, Nat.zero_le _⟩, rfl, (hw.pick [] (by decide) rfl).nilrow _ _⟩)
theorem cloneI_some (a : Addr) (c0 : Nat) (l : List Int) (w : World) (hr : Reads w w.heap.size 1 (some a) l.length (flat (ic .i64) l)) (hl1 : l.length ≤ 1000000) :
  Calls Tryz.prog 143 #[.slice (some a) l.length c0] w fun e w' => ∃ x : {p : Option Addr × Nat // (l).length ≤ p.2 ∧ p.2 ≤ maxLen}, e = .returned (.slice x.1.1 (l).length x.1.2) ∧ Pm w [.row (.slice x.1.1 (l).length x.1.2) 3 1 (l).length (flat (ic .i64) (l))] w' := by
 refine begin_ (vs := [.slice (some a) l.length c0]) Tryz.func143 rfl rfl rfl ?_ (Pm.start w)
 refine zSG (TL.as_ ?_)
 refine zET (zS (zSG (TL.mv ?_)))
 refine TL.val rfl rfl rfl (gives_bin2 (v := .bool false) rfl rfl rfl (fun w => slice_nil Tryz.underlying106 w)) ?_
 refine zET (zd (zk (zT (zSG ?_))))
 refine TL.prowS (e := 3) (size := 1) (cs := flat (ic .i64) []) rfl rfl rfl rfl rfl (fun w => aclbs106_0_0  w) (by decide) rfl (fun g5 => ?_)
 refine TL.mv ?_
 refine TL.appendT (k := 0) rfl rfl rfl rfl Tryz.underlying106 adtel106 rfl rfl rfl (fun w1 hw => ⟨_, (hr.up hw.bel)⟩) (flat_one (ic_cel .i64) _) (by show _ * 8 ≤ _; omega) (l.length) (by simp) (flat (ic .i64) l) (rfl) (fun A7 c7 hA71 hA72 => ?_)
 refine TL.as_ ?_
 refine zET (zr ?_)
 exact ret_tmp Tryz.results143 rfl (fun w1 hw => ⟨⟨(A7, c7), hA71, hA72⟩, rfl, hw.pick [0] (by decide) rfl⟩)
theorem cloneI_any (A0 : Option Addr) (c0 : Nat) (l : List Int) (w : World) (hr : Reads w w.heap.size 1 A0 l.length (flat (ic .i64) l)) (hl1 : l.length ≤ 1000000) :
  Calls Tryz.prog 143 #[.slice A0 l.length c0] w fun e w' => ∃ x : {p : Option Addr × Nat // (l).length ≤ p.2 ∧ p.2 ≤ maxLen}, e = .returned (.slice x.1.1 (l).length x.1.2) ∧ Pm w [.row (.slice x.1.1 (l).length x.1.2) 3 1 (l).length (flat (ic .i64) (l))] w' := by
 cases A0 with
 | some a => exact cloneI_some a c0 l w hr hl1
 | none =>
  have hl : l.length = 0 := by
   rcases Nat.eq_zero_or_pos l.length with h | h
   ·exact h
   obtain ⟨ad, h1, _⟩ := hr.2 h; cases h1
  obtain rfl : l = [] := List.eq_nil_of_length_eq_zero hl
  exact cloneI_none c0 w
set_option maxRecDepth 20000
section
variable {P : Program} {N : Fr} {Q : Exit → Act → World → Prop} {E : Env} {w0 : Base} {L : List Pc} {ops : Array Oper} {l : List Oper} {o : Oper}
theorem TL.clearI {ik : IntKind} {t e : TypeId} {s : Operand} {g q n cc m cc2 kk : Nat} {z : Int} {xs : List Int} (hg : o.guard = none) (hd : o.dst = none) (ho : o.op = .call { callee := .builtin .clear, args := #[s], argTypes := #[t] }) (hs : ev E s = some (.slice (some ⟨g, q * 1, none⟩) m cc2))
  (ht : P.underlying t = some (.slice e)) (hz : ∀ w : World, (zeroValue e).run P w = .ok (.int ik z) w) (hm : 0 < m) (hq : q + m = xs.length)
  (hk : L[kk]? = some (.row (.slice (some ⟨g, 0, none⟩) n cc) e 1 n (flat (ic ik) xs)))
  (h : TL P N ops Q l E (Pm w0 (L.set kk (.row (.slice (some ⟨g, 0, none⟩) n cc) e 1 n (flat (ic ik) (xs.take q ++ List.replicate m z)))))) : TL P N ops Q (o :: l) E (Pm w0 L) := by
 have K := ic_cel ik
 have e1 : (flat (ic ik) (List.replicate m z)).length = m * 1 := by rw [flat_len K, List.length_replicate]
 have e2 : (flat (ic ik) xs).length = q * 1 + m * 1 := by rw [flat_len K, ← hq, Nat.add_mul]
 refine TL.rowclear (zs := flat (ic ik) (List.replicate m z)) hg hd ho hs ht hz (by rw [show (Value.int ik z).cells = #[.int ik z] from rfl, zeroCells_one, flat_ic, List.map_replicate]) (flat_one K _) hm hk (by rw [e1, e2]; omega) (xs' := flat (ic ik) (xs.take q ++ List.replicate m z)) ?_ h
 rw [e1, List.drop_of_length_le (by rw [e2]; omega), List.append_nil, flat_app, flat_take K]
end
theorem pcizv3 (w : World) : (zeroValue 3).run Tryz.prog w = .ok (.int .i64 0) w := rfl
theorem compactInt_g (g n c : Nat) (xs : List Int) (w : World) (h : RwG 3 1 w g n c (flat (ic .i64) xs)) (hl : xs.length = n) (hn : n ≤ 1000000) :
  Calls Tryz.prog 139 #[.slice (some ⟨g, 0, none⟩) n c] w fun en w' => en = .returned (.slice (some ⟨g, 0, none⟩) (cptG xs).length c) ∧ RwG 3 1 w' g (cptG xs).length c (flat (ic .i64) (cptG xs)) ∧ w.grownBy w' (some g) := by
 have hcap := h.obj.2.1
 have hmax := h.obj.2.2
 refine begin_ (vs := [.slice (some ⟨g, 0, none⟩) n c]) (I := Pm ⟨wbut w g, g⟩ (.row (.slice (some ⟨g, 0, none⟩) n c) 3 1 n (flat (ic .i64) xs) :: oths g w)) Tryz.func139 rfl rfl rfl ?_ (Pm.rowStartG h)
 refine zSG (TL.as_ ?_)
 refine zET (zS (zSG (TL.mv ?_)))
 refine TL.v (gN Tryz.underlying106) ?_
 refine TL.sp bin_lss (fun q8 => ?_) (fun q8 => ?_)
 ·have hE : cptG xs = xs := cptG_short (by omega)
  refine zET (zc (zSG (TL.rn 2 rfl (zET (zr (zR ?_))))))
  exact ret_tmp Tryz.results139 rfl (fun w1 hw => by rw [hE, hl]; exact ⟨rfl, pm_rowAtG hw (k := 0) rfl, hw.mapEnd (fun q hq => by simp [hq])⟩)
 refine zET (zd (zk (zT (zS (zSG (TL.as_ ?_))))))
 refine zET (zB ?_)
 refine TC.loop_ (α := {k : Nat // 1 ≤ k ∧ k ≤ n ∧ cptG (xs.take k) = xs.take k}) (fun y => [(0, .slice (some ⟨g, 0, none⟩) n c), (3, .int .i64 ((y.1 : Nat) : Int))]) (fun y => Pm ⟨wbut w g, g⟩ ([.row (.slice (some ⟨g, 0, none⟩) n c) 3 1 n (flat (ic .i64) xs)] ++ oths g w)) (fun y => n - y.1) (⟨1, Nat.le_refl _, by omega, cptG_take1 xs⟩) ⟨rfl, rfl, trivial⟩ (fun w1 hw => hw) ?_
 rintro ⟨k0, hk1, hk2, hK⟩
 try dsimp only
 refine zS (zSG (TL.rn 2 rfl (TL.v (gN Tryz.underlying106) ?_)))
 refine TL.sp bin_lss (fun q13 => ?_) (fun q13 => ?_)
 ·refine zET (zc (zk (zT (zS (zB (zS (TC.quietQ (by kernel_rfl) (by kernel_rfl) (fun w hw => hw.drawn _) ?_)))))))
  refine TQ.rn 2 rfl ?_
  have hi18 : k0 < xs.length := by omega
  obtain ⟨x18, hx18⟩ := ex_at hi18
  refine TQ.val rfl rfl rfl (gA (i := k0) Tryz.underlying106 pcmsz3 rfl rfl rfl rfl rfl (by omega)) ?_
  refine TQ.val rfl rfl rfl (gives_load (v := .int .i64 x18) rfl rfl pcmag3 (fun w1 hw => flat_row (ic_cel .i64) hw (q := 0) rfl hx18 0 _ rfl)) ?_
  refine TQ.rn 2 rfl ?_
  refine TQ.val rfl rfl rfl (gives_bin rfl rfl rfl (fun w => bin_sub_ (r := ((k0 - 1 : Nat) : Int)) (by simp only [IntKind.wrap_i64]; omega) w)) ?_
  have hi23 : k0 - 1 < xs.length := by omega
  obtain ⟨x23, hx23⟩ := ex_at hi23
  refine TQ.val rfl rfl rfl (gA (i := (k0 - 1)) Tryz.underlying106 pcmsz3 rfl rfl rfl rfl rfl (by omega)) ?_
  refine TQ.val rfl rfl rfl (gives_load (v := .int .i64 x23) rfl rfl pcmag3 (fun w1 hw => flat_row (ic_cel .i64) hw (q := 0) rfl hx23 0 _ rfl)) ?_
  refine TQ.sp bin_eql (fun q25 => ?_) (fun q25 => ?_)
  ·have hst := cptG_step hx18 hx23 hk1
   have hK2 : cptG (xs.take (k0 + 1)) = xs.take k0 := by rw [hst, if_pos q25.symm]; exact hK
   refine TQ.fin ?_
   refine zT (zc (zSG (TL.rn 2 rfl ?_)))
   refine TL.val rfl rfl rfl (gives_tailF (q := k0) rfl rfl rfl rfl Tryz.underlying106 pcmsz3 (by omega) (by omega)) ?_
   refine TL.as_ ?_
   refine zET (zS (zSG (TL.as_ ?_)))
   refine zET (zB ?_)
   refine TC.loop_ (α := {y : Nat × Nat × List Int // (1 ≤ y.2.1 ∧ y.2.1 ≤ n - k0 ∧ k0 ≤ y.1 ∧ y.1 ≤ k0 + y.2.1 - 1) ∧ y.2.2.length = n ∧ (∀ p, k0 + y.2.1 - 1 ≤ p → y.2.2[p]? = xs[p]?) ∧ y.2.2.take y.1 = cptG (xs.take (k0 + y.2.1))}) (fun y => [(0, .slice (some ⟨g, 0, none⟩) n c), (3, .int .i64 ((y.1.1 : Nat) : Int)), (4, .slice (some ⟨g, k0 * 1, none⟩) (n - k0) (c - k0)), (5, .int .i64 ((y.1.2.1 : Nat) : Int))]) (fun y => Pm ⟨wbut w g, g⟩ ([.row (.slice (some ⟨g, 0, none⟩) n c) 3 1 n (flat (ic .i64) y.1.2.2)] ++ oths g w)) (fun y => n - y.1.2.1) (⟨(k0, 1, xs), by dsimp only; omega, hl, fun p _ => rfl, hK2.symm⟩) ⟨rfl, rfl, rfl, rfl, trivial⟩ (fun w1 hw => hw) ?_
   rintro ⟨⟨k, j, ys⟩, ⟨hj1, hj2, hj3, hj4⟩, hly, hI, hT⟩
   dsimp only at hj1 hj2 hj3 hj4 hly hI hT ⊢
   refine zS (zSG (TL.rn 2 rfl (TL.v (gN Tryz.underlying106) ?_)))
   refine TL.sp bin_lss (fun q32 => ?_) (fun q32 => ?_)
   ·refine zET (zc (zk (zT (zS (zB (zS (TC.quietQ (by kernel_rfl) (by kernel_rfl) (fun w hw => hw.drawn _) ?_)))))))
    refine TQ.rn 2 rfl ?_
    have hi37 : (k0 + j) < ys.length := by omega
    obtain ⟨x37, hx37⟩ := ex_at hi37
    refine TQ.val rfl rfl rfl (gives_at (v := .pointer (some ⟨g, 0 + (k0 + j) * 1, none⟩)) rfl rfl rfl (fun w => at_elT Tryz.underlying106 pcmsz3 g k0 _ _ j (by omega) rfl w)) ?_
    refine TQ.val rfl rfl rfl (gives_load (v := .int .i64 x37) rfl rfl pcmag3 (fun w1 hw => flat_row (ic_cel .i64) hw (q := 0) rfl hx37 0 _ rfl)) ?_
    refine TQ.rn 2 rfl ?_
    refine TQ.val rfl rfl rfl (gives_bin rfl rfl rfl (fun w => bin_sub_ (r := ((j - 1 : Nat) : Int)) (by simp only [IntKind.wrap_i64]; omega) w)) ?_
    have hi42 : (k0 + (j - 1)) < ys.length := by omega
    obtain ⟨x42, hx42⟩ := ex_at hi42
    refine TQ.val rfl rfl rfl (gives_at (v := .pointer (some ⟨g, 0 + (k0 + (j - 1)) * 1, none⟩)) rfl rfl rfl (fun w => at_elT Tryz.underlying106 pcmsz3 g k0 _ _ (j - 1) (by omega) rfl w)) ?_
    refine TQ.val rfl rfl rfl (gives_load (v := .int .i64 x42) rfl rfl pcmag3 (fun w1 hw => flat_row (ic_cel .i64) hw (q := 0) rfl hx42 0 _ rfl)) ?_
    refine TQ.sp bin_neq (fun q44 => ?_) (fun q44 => ?_)
    ·have hst := cptG_step (by rw [← hI _ (by omega)]; exact hx37) (by rw [← hI _ (by omega), show k0 + j - 1 = k0 + (j - 1) by omega]; exact hx42) (by omega : 1 ≤ k0 + j)
     have hc1 : ∀ p, k0 + (j + 1) - 1 ≤ p → (ys.set k x37)[p]? = xs[p]? := fun p hp => by rw [List.getElem?_set_ne (by omega)]; exact hI p (by omega)
     have hc2 : (ys.set k x37).take (k + 1) = cptG (xs.take (k0 + (j + 1))) := by
      rw [List.take_add_one, List.take_set_of_le (Nat.le_refl _), List.getElem?_set_self (by omega), hT, show k0 + (j + 1) = k0 + j + 1 from rfl, hst, if_neg (fun hh => q44 hh.symm)]; rfl
     refine TQ.fin ?_
     refine zT (zc (zSG (TL.rn 4 rfl ?_)))
     refine TL.val rfl rfl rfl (gives_at (v := .pointer (some ⟨g, 0 + (k0 + j) * 1, none⟩)) rfl rfl rfl (fun w => at_elT Tryz.underlying106 pcmsz3 g k0 _ _ j (by omega) rfl w)) ?_
     refine TL.val rfl rfl rfl (gives_load (v := .int .i64 x37) rfl rfl pcmag3 (fun w1 hw => flat_row (ic_cel .i64) hw (q := 0) rfl hx37 0 _ rfl)) ?_
     have hi51 : k < ys.length := by omega
     obtain ⟨x51, hx51⟩ := ex_at hi51
     refine TL.val rfl rfl rfl (gA (i := k) Tryz.underlying106 pcmsz3 rfl rfl rfl rfl rfl (by omega)) ?_
     refine TL.rowset (k := 0) (vs := [.int .i64 x37]) (xs' := flat (ic .i64) (ys.set k x37)) rfl rfl rfl rfl rfl rfl rfl pcmsz3 aeaone_i64 (by rw [flat_len (ic_cel .i64)]; show 0 + k * 1 + 1 ≤ _; omega) (flat_put (ic_cel .i64) (q := 0) (y := x37) hx51 (by show 0 + 1 ≤ 1; decide) rfl) ?_
     try dsimp only [List.set_cons_zero, List.set_cons_succ]
     refine zET (zG (TL.mv ?_))
     refine TL.v (gD ((k + 1 : Nat) : Int)) ?_
     refine TL.as_ ?_
     refine zE (zN (zT (zG (TL.mv ?_))))
     refine TL.v (gD ((j + 1 : Nat) : Int)) ?_
     refine TL.as_ ?_
     refine zE ?_
     exact TX.round (⟨(k + 1, j + 1, ys.set k x37), by dsimp only; omega, by rw [List.length_set]; exact hly, hc1, hc2⟩) (by show n - (j + 1) < n - j; omega) ⟨rfl, rfl, rfl, rfl, trivial⟩ (fun w1 hw => hw)
    have hst := cptG_step (by rw [← hI _ (by omega)]; exact hx37) (by rw [← hI _ (by omega), show k0 + j - 1 = k0 + (j - 1) by omega]; exact hx42) (by omega : 1 ≤ k0 + j)
    have hd1 : ∀ p, k0 + (j + 1) - 1 ≤ p → ys[p]? = xs[p]? := fun p hp => hI p (by omega)
    have hd2 : ys.take k = cptG (xs.take (k0 + (j + 1))) := by rw [hT, show k0 + (j + 1) = k0 + j + 1 from rfl, hst, if_pos (Decidable.not_not.1 q44).symm]
    refine TQ.fin ?_
    refine zT (zd (zk (zN (zT (zG (TL.mv ?_))))))
    refine TL.v (gD ((j + 1 : Nat) : Int)) ?_
    refine TL.as_ ?_
    refine zE ?_
    exact TX.round (⟨(k, j + 1, ys), by dsimp only; omega, hly, hd1, hd2⟩) (by show n - (j + 1) < n - j; omega) ⟨rfl, rfl, rfl, rfl, trivial⟩ (fun w1 hw => hw)
   obtain rfl : j = n - k0 := by omega
   have hC : ys.take k = cptG xs := by rw [hT, List.take_of_length_le (by omega)]
   refine zET (zd (zx (zX (zX (zM (zT (zSG (TL.rn 2 rfl ?_))))))))
   refine TL.val rfl rfl rfl (gives_tailF (q := k) rfl rfl rfl rfl Tryz.underlying106 pcmsz3 (by omega) (by omega)) ?_
   refine TL.clearI (kk := 0) (q := k) (z := 0) rfl rfl rfl rfl Tryz.underlying106 pcizv3 (by omega) (by omega) rfl ?_
   try dsimp only [List.set_cons_zero]
   refine zET (zSG (TL.rn 2 rfl ?_))
   refine TL.headF (ic_cel .i64) (kk := 0) (hi := k) rfl rfl rfl rfl rfl rfl Tryz.underlying106 pcmsz3 rfl (by omega) (by omega) ?_
   try dsimp only [List.set_cons_zero]
   refine TL.as_ ?_
   refine zET (zr (zRR (zR (zRR ?_))))
   have hfin : (ys.take k ++ List.replicate (n - k) 0).take k = cptG xs := by rw [List.take_left' (by rw [List.length_take]; omega)]; exact hC
   have hkl : (cptG xs).length = k := by rw [← hC, List.length_take]; omega
   rw [hfin]
   exact ret_tmp Tryz.results139 rfl (fun w1 hw => ⟨by rw [hkl], by rw [hkl]; exact (pm_rowAtG hw (k := 0) rfl), hw.mapEnd (fun q hq => by simp [hq])⟩)
  have hst := cptG_step hx18 hx23 hk1
  have hK2 : cptG (xs.take (k0 + 1)) = xs.take (k0 + 1) := by rw [hst, if_neg (fun hh => q25 hh.symm), hK, List.take_add_one, hx18]; rfl
  refine TQ.fin ?_
  refine zT (zd (zk (zN (zT (zG (TL.mv ?_))))))
  refine TL.v (gD ((k0 + 1 : Nat) : Int)) ?_
  refine TL.as_ ?_
  refine zE ?_
  exact TX.round (⟨k0 + 1, by omega, by omega, hK2⟩) (by show n - (k0 + 1) < n - k0; omega) ⟨rfl, rfl, trivial⟩ (fun w1 hw => hw)
 obtain rfl : k0 = n := by omega
 have hE : cptG xs = xs := by rw [List.take_of_length_le (by omega)] at hK; exact hK
 refine zET (zd (zx (zX (zX (zM (zT (zSG (TL.rn 2 rfl (zET (zr ?_))))))))))
 exact ret_tmp Tryz.results139 rfl (fun w1 hw => by rw [hE, hl]; exact ⟨rfl, pm_rowAtG hw (k := 0) rfl, hw.mapEnd (fun q hq => by simp [hq])⟩)
theorem compactInt_nil (w : World) : Calls Tryz.prog 139 #[.slice none 0 0] w fun en w' => en = .returned (.slice none 0 0) ∧ Below w.heap.size w w' := by
 refine begin_ (vs := [.slice none 0 0]) Tryz.func139 rfl rfl rfl ?_ (Pm.start w)
 refine zSG (TL.as_ ?_)
 refine zET (zS (zSG (TL.mv ?_)))
 refine TL.v (gN Tryz.underlying106) ?_
 refine TL.val rfl rfl rfl (gives_bin rfl rfl rfl (fun w => bin_lss_t (by decide) w)) ?_
 refine zET (zc (zSG (TL.rn 2 rfl (zET (zr (zR ?_))))))
 exact ret_tmp Tryz.results139 rfl (fun w1 hw => ⟨rfl, hw.bel⟩)
theorem compactInt {b n cap : Nat} {A : Option Addr} {l : List Int} {w : World} (hr : w.ownsRow b 3 1 (.slice A n cap) n (flat (ic .i64) l)) (hl : l.length = n) (hn : n ≤ 1000000) :
  Calls Tryz.prog 139 #[.slice A n cap] w fun en w' => en = .returned (.slice A (cptG l).length cap) ∧ w'.ownsRow b 3 1 (.slice A (cptG l).length cap) (cptG l).length (flat (ic .i64) (cptG l)) ∧ w.grownBy w' (Value.ownBlock (.slice A n cap)) := by
 rcases id hr.2 with ⟨hv, h0⟩ | ⟨q, cap', cur, hv, hb, hq, h1, h2, h3, h4⟩
 ·cases hv
  obtain rfl : l = [] := List.eq_nil_of_length_eq_zero (by omega)
  refine (compactInt_nil w).mono fun en w' ⟨h5, h6⟩ => ⟨h5, ⟨rfl, .inl ⟨rfl, rfl⟩⟩, ?_⟩
  exact ⟨h6.os, h6.tape, h6.output, h6.size, fun k hk _ => h6.block k hk⟩
 cases hv
 refine (compactInt_g q n cap l w ⟨hr.1, .inr ⟨q, cap, cur, rfl, Nat.le_refl _, hq, h1, h2, h3, h4⟩⟩ hl hn).mono fun en w' ⟨h5, h6, h7⟩ => ⟨h5, ⟨h6.1, ?_⟩, h7⟩
 rcases h6.2 with ⟨e1, _⟩ | ⟨q', c2, cur2, e1, e2, e3⟩
 ·cases e1
 cases e1
 exact .inr ⟨q, cap, cur2, rfl, hb, e3⟩
set_option maxRecDepth 20000
noncomputable def pdec (Q : Prop) : Bool := @decide Q (Classical.propDecidable Q)
theorem pdec_iff {Q : Prop} : pdec Q = true ↔ Q := by unfold pdec; exact @decide_eq_true_iff Q (Classical.propDecidable Q)
theorem pdec_of {Q : Prop} {b : Bool} (h : b = true ↔ Q) : b = pdec Q := by
 rw [Bool.eq_iff_iff, h, pdec_iff]
theorem asebld34_50680 (a0_0 : Int) (a1_0 : Int) (a1_1 : Int) (a1_2 : Int) (a2_0 : Int) (w : World) : (Instr.build 34 #[(0, .int .i64 a0_0), (1, .agg #[.int .i64 a1_0, .int .u32 a1_1, .int .i64 a1_2]), (2, .int .i64 a2_0)]).run Tryz.prog w = .ok (.agg #[.int .i64 a0_0, .int .i64 a1_0, .int .u32 a1_1, .int .i64 a1_2, .int .i64 a2_0, .int .i64 0, .int .i64 0, .int .i64 0]) w := by kernel_rfl
theorem asezv34 (w : World) : (zeroValue 34).run Tryz.prog w = .ok (.agg #[.int .i64 0, .int .i64 0, .int .u32 0, .int .i64 0, .int .i64 0, .int .i64 0, .int .i64 0, .int .i64 0]) w := rfl
theorem aseone_i64i64u32i64i64i64i64i64 {a0 : Int} {a1 : Int} {a2 : Int} {a3 : Int} {a4 : Int} {a5 : Int} {a6 : Int} {a7 : Int} : ∀ u ∈ [(.int .i64 a0 : Value), .int .i64 a1, .int .u32 a2, .int .i64 a3, .int .i64 a4, .int .i64 a5, .int .i64 a6, .int .i64 a7], u.oneCell' = true := by
 intro u hu
 simp only [List.mem_cons, List.not_mem_nil, or_false] at hu
 rcases hu with rfl | rfl | rfl | rfl | rfl | rfl | rfl | rfl <;> rfl
theorem asezv23 (w : World) : (zeroValue 23).run Tryz.prog w = .ok (.slice none 0 0) w := rfl
theorem aseel49 : Elem Tryz.prog 49 34 8 64 := Elem.mk' Tryz.underlying49 (z := .agg #[.int .i64 0, .int .i64 0, .int .u32 0, .int .i64 0, .int .i64 0, .int .i64 0, .int .i64 0, .int .i64 0]) (by kernel_rfl) rfl (by omega) (by omega)
theorem asezv106 (w : World) : (zeroValue 106).run Tryz.prog w = .ok (.slice none 0 0) w := rfl
theorem asesz106 (w : World) : (sizeOf 106).run Tryz.prog w = .ok 1 w := rfl
theorem search_any (A0 : Option Addr) (c0 : Nat) (l : List Rs) (A1 : Option Addr) (c1 : Nat) (es : List En) (u : Ru) (r0 : Rs) (w : World) (hr : Reads w w.heap.size 17 A0 l.length (flat Rs.cells l)) (hl1 : l.length ≤ 100000) (hr1 : Reads w w.heap.size 5 A1 es.length (flat En.cells es)) (hl5 : l.length ≤ 512) (h0 : l[0]? = some r0) (hin : ∀ r ∈ l, r.inRange) (hu : 1 ≤ u.prb) :
  Calls Tryz.prog 92 #[.slice A0 l.length c0, .agg #[.slice A1 es.length c1], .agg u.cells.toArray] w fun e w' => ∃ x : {y : (Option Addr × Nat) × List Rp // (MinU (PrS es l u) (TmS r0 l) y.2 ∧ y.2.length ≤ 262657) ∧ y.2.length ≤ y.1.2 ∧ y.1.2 ≤ maxLen}, e = .returned (.slice x.1.1.1 x.1.2.length x.1.1.2) ∧ Pm w [.row (.slice x.1.1.1 x.1.2.length x.1.1.2) 34 8 x.1.2.length (flat Rp.cells x.1.2)] w' := by
 have hl0 : 0 < l.length := (List.getElem?_eq_some_iff.1 h0).1
 refine begin_ (vs := [.slice A0 l.length c0, .agg #[.slice A1 es.length c1], .agg u.cells.toArray]) Tryz.func92 rfl rfl rfl ?_ (Pm.start w)
 refine zSG ?_
 refine TL.pnew rfl rfl rfl (exec_box (cs := [.slice A0 l.length c0]) rfl rfl rfl) (fun g3 => ?_)
 refine TL.pnew rfl rfl rfl (exec_box (cs := [.slice A1 es.length c1]) rfl rfl rfl) (fun g4 => ?_)
 refine TL.pnew rfl rfl rfl (exec_box (cs := u.cells) rfl rfl rfl) (fun g5 => ?_)
 refine TL.as_ ?_
 refine zET (zSG (TL.rn 2 rfl (zET (zS (zSG (TL.v (gL 2 mcoag23) ?_))))))
 refine TL.v (gN Tryz.underlying23) ?_
 refine TL.mv ?_
 refine zET (zB (TC.nilrow 3 1 ?_))
 refine TC.nilrow 3 1 ?_
 refine TC.loop_ (α := {y : Nat × (Option Addr × Nat) × (Option Addr × Nat) × List Int × List Int // y.1 ≤ l.length ∧ (l.take y.1).map (fun s : Rs => s.at_) = y.2.2.2.1 ∧ (l.take y.1).map (fun s : Rs => s.ttl) = y.2.2.2.2 ∧ y.2.2.2.1.length ≤ y.2.1.2 ∧ y.2.1.2 ≤ maxLen ∧ y.2.2.2.2.length ≤ y.2.2.1.2 ∧ y.2.2.1.2 ≤ maxLen}) (fun y => [(3, .pointer (some ⟨g3, 0, none⟩)), (4, .pointer (some ⟨g4, 0, none⟩)), (5, .pointer (some ⟨g5, 0, none⟩)), (18, .slice A0 l.length c0), (19, .int .i64 (l.length : Nat)), (20, .int .i64 ((y.1.1 : Nat) : Int)), (7, .slice y.1.2.1.1 y.1.2.2.2.1.length y.1.2.1.2), (8, .slice y.1.2.2.1.1 y.1.2.2.2.2.length y.1.2.2.1.2)]) (fun y => Pm w [.row (.slice y.1.2.1.1 y.1.2.2.2.1.length y.1.2.1.2) 3 1 y.1.2.2.2.1.length (flat (ic .i64) y.1.2.2.2.1), .row (.slice y.1.2.2.1.1 y.1.2.2.2.2.length y.1.2.2.1.2) 3 1 y.1.2.2.2.2.length (flat (ic .i64) y.1.2.2.2.2), .blk g5 28 u.cells, .blk g4 26 [.slice A1 es.length c1], .blk g3 23 [.slice A0 l.length c0]]) (fun y => l.length - y.1.1) (⟨(0, (none, 0), (none, 0), [], []), Nat.zero_le _, rfl, rfl, Nat.le_refl _, Nat.zero_le _, Nat.le_refl _, Nat.zero_le _⟩) ⟨rfl, rfl, rfl, rfl, rfl, rfl, rfl, rfl, trivial⟩ (fun w1 hw => hw) ?_
 rintro ⟨⟨i, ⟨At, ct⟩, ⟨Al, cl⟩, tm, tt⟩, hi, hT, hL, hc1, hc2, hc3, hc4⟩
 dsimp only at hi hT hL hc1 hc2 hc3 hc4 ⊢
 have htl : tm.length ≤ 512 := by rw [← hT, List.length_map, List.length_take]; omega
 have hll : tt.length ≤ 512 := by rw [← hL, List.length_map, List.length_take]; omega
 refine zSG ?_
 refine TL.sp bin_lss (fun q21 => ?_) (fun q21 => ?_)
 ·refine zET (zS (zc (zk (zT (zS (zB (zSG ?_)))))))
  have hi22 : i < l.length := by omega
  obtain ⟨x22, hx22⟩ := ex_at hi22
  obtain ⟨b22, o22, hA22, hbb22, hc22⟩ := hr.ad (by omega) (by decide)
  refine TL.val rfl rfl rfl (gA (i := i) Tryz.underlying23 prssz65 rfl rfl rfl rfl hA22 (by omega)) ?_
  refine TL.v (gR rs_cel prsag65 prssz65 hbb22 hx22 hc22) ?_
  refine TL.pnew rfl rfl rfl (exec_alloc (cs := [.int .i64 0, .int .i64 0, .int .i64 0, .int .i64 0, .int .u32 0, .int .i64 0, .int .i64 0, .int .i64 0, .bool false, .bool false, .int .i64 0, .int .u32 0, .int .i64 0, .int .i64 0, .int .i64 0, .int .i64 0, .int .i64 0]) rfl arpzv65 rfl) (fun g10 => ?_)
  refine TL.pstore (k := 0) (vs := x22.cells) rfl rfl rfl rfl rfl rfl rfl prssz65 (rs_cel.one _) (by show 17 ≤ 17; decide) (L' := [.blk g10 65 x22.cells, .row (.slice At tm.length ct) 3 1 tm.length (flat (ic .i64) tm), .row (.slice Al tt.length cl) 3 1 tt.length (flat (ic .i64) tt), .blk g5 28 u.cells, .blk g4 26 [.slice A1 es.length c1], .blk g3 23 [.slice A0 l.length c0]]) rfl ?_
  refine zET (TC.held (ls := #[Ff,Ff,Ff,Ff,Ff,Ff,Ff,Ff,Ff,Ff,Ff,Ff]) (Pm w [.blk g10 65 x22.cells]) (by kernel_rfl) rfl rfl (fun w hw => hw.drawn _) ?_)
  refine TH.tk 0 rfl rfl rfl (gives_move rfl rfl) (fun w1 hw => hw.pick [0] (by decide) rfl) ?_
  refine TH.tk 1 rfl rfl rfl (gF prsfld65_3) (fun w1 hw => hw.pick [0] (by decide) rfl) ?_
  refine TH.tk 2 rfl rfl rfl (gL 0 pcmag3) (fun w1 hw => hw.pick [0] (by decide) rfl) ?_
  refine TH.tk 5 rfl rfl rfl (gives_move rfl rfl) (fun w1 hw => hw.pick [0] (by decide) rfl) ?_
  refine TH.tk 6 rfl rfl rfl (gF prsfld65_7) (fun w1 hw => hw.pick [0] (by decide) rfl) ?_
  refine TH.tk 7 rfl rfl rfl (gL 0 pcmag3) (fun w1 hw => hw.pick [0] (by decide) rfl) ?_
  refine TH.two' (listed1 := #[Tt,Tt,Tt,Tt,Ff,Tt,Tt,Tt,Ff,Ff,Ff,Ff]) (listed2 := #[Tt,Tt,Tt,Ff,Ff,Tt,Tt,Tt,Tt,Ff,Ff,Ff]) 3 8 rfl rfl (by kernel_rfl) rfl rfl ?_ ?_
  ·refine TL.prowS (e := 3) (size := 1) (cs := flat (ic .i64) [x22.at_]) rfl rfl rfl rfl rfl (fun w => adtbs106_1_5377 _ w) (by decide) rfl (fun g27 => ?_)
   refine zE ?_
   refine TX.held (fun w1 hw => hw.pick [1] (by decide) rfl) ?_
   refine TH.two' (listed1 := #[Tt,Tt,Tt,Tt,Tt,Tt,Tt,Tt,Ff,Ff,Ff,Ff]) (listed2 := #[Tt,Tt,Tt,Tt,Ff,Tt,Tt,Tt,Tt,Ff,Ff,Ff]) 4 8 rfl rfl (by kernel_rfl) rfl rfl ?_ ?_
   ·refine TL.appendT (k := 2) rfl rfl rfl rfl Tryz.underlying106 adtel106 rfl rfl rfl (fun w1 hw => pm_reads hw (k := 0) rfl) (flat_one (ic_cel .i64) _) (by show _ * 8 ≤ _; omega) ((tm ++ [x22.at_]).length) (by rw [List.length_append]; rfl) (flat (ic .i64) (tm ++ [x22.at_])) ((flat_app _ _).symm) (fun A28 c28 hA281 hA282 => ?_)
    refine zE ?_
    refine TX.held (fun w1 hw => hw.pick [1] (by decide) rfl) ?_
    refine TH.only' 8 rfl (by kernel_rfl) rfl ?_
    refine TL.prowS (e := 3) (size := 1) (cs := flat (ic .i64) [x22.ttl]) rfl rfl rfl rfl rfl (fun w => adtbs106_1_5377 _ w) (by decide) rfl (fun g32 => ?_)
    refine zE ?_
    refine TX.held (fun w1 hw => hw.pick [2] (by decide) rfl) ?_
    refine TH.only' 9 rfl (by kernel_rfl) rfl ?_
    refine TL.appendT (k := 4) rfl rfl rfl rfl Tryz.underlying106 adtel106 rfl rfl rfl (fun w1 hw => pm_reads hw (k := 0) rfl) (flat_one (ic_cel .i64) _) (by show _ * 8 ≤ _; omega) ((tt ++ [x22.ttl]).length) (by rw [List.length_append]; rfl) (flat (ic .i64) (tt ++ [x22.ttl])) ((flat_app _ _).symm) (fun A33 c33 hA331 hA332 => ?_)
    refine zE ?_
    refine TX.he (fun w1 hw => hw.pick [2] (by decide) rfl) fun hS => ?_
    refine TH.t 10 rfl (gives_assign rfl rfl) hS ?_
    refine TH.t 11 rfl (gives_assign rfl rfl) hS ?_
    refine TH.done (by kernel_rfl) ?_
    refine zN (zT (zG (TL.v (gD ((i + 1 : Nat) : Int)) ?_)))
    refine TL.mv ?_
    refine zE ?_
    exact TX.round (⟨(i + 1, (A28, c28), (A33, c33), tm ++ [x22.at_], tt ++ [x22.ttl]), by dsimp only; omega, mapt_snoc (f := fun s : Rs => s.at_) hx22 hT, mapt_snoc (f := fun s : Rs => s.ttl) hx22 hL, hA281, hA282, hA331, hA332⟩) (by show l.length - (i + 1) < l.length - i; omega) ⟨rfl, rfl, rfl, rfl, rfl, rfl, rfl, rfl, trivial⟩ (fun w1 hw => hw.pick [3, 4, 5, 6, 7] (by decide) rfl)
   refine TL.prowS (e := 3) (size := 1) (cs := flat (ic .i64) [x22.ttl]) rfl rfl rfl rfl rfl (fun w => adtbs106_1_5377 _ w) (by decide) rfl (fun g32 => ?_)
   refine zE ?_
   refine TX.held (fun w1 hw => hw.pick [2] (by decide) rfl) ?_
   refine TH.only' 4 rfl (by kernel_rfl) rfl ?_
   refine TL.appendT (k := 3) rfl rfl rfl rfl Tryz.underlying106 adtel106 rfl rfl rfl (fun w1 hw => pm_reads hw (k := 1) rfl) (flat_one (ic_cel .i64) _) (by show _ * 8 ≤ _; omega) ((tm ++ [x22.at_]).length) (by rw [List.length_append]; rfl) (flat (ic .i64) (tm ++ [x22.at_])) ((flat_app _ _).symm) (fun A28 c28 hA281 hA282 => ?_)
   refine zE ?_
   refine TX.held (fun w1 hw => hw.pick [2] (by decide) rfl) ?_
   refine TH.only' 9 rfl (by kernel_rfl) rfl ?_
   refine TL.appendT (k := 4) rfl rfl rfl rfl Tryz.underlying106 adtel106 rfl rfl rfl (fun w1 hw => pm_reads hw (k := 0) rfl) (flat_one (ic_cel .i64) _) (by show _ * 8 ≤ _; omega) ((tt ++ [x22.ttl]).length) (by rw [List.length_append]; rfl) (flat (ic .i64) (tt ++ [x22.ttl])) ((flat_app _ _).symm) (fun A33 c33 hA331 hA332 => ?_)
   refine zE ?_
   refine TX.he (fun w1 hw => hw.pick [2] (by decide) rfl) fun hS => ?_
   refine TH.t 10 rfl (gives_assign rfl rfl) hS ?_
   refine TH.t 11 rfl (gives_assign rfl rfl) hS ?_
   refine TH.done (by kernel_rfl) ?_
   refine zN (zT (zG (TL.v (gD ((i + 1 : Nat) : Int)) ?_)))
   refine TL.mv ?_
   refine zE ?_
   exact TX.round (⟨(i + 1, (A28, c28), (A33, c33), tm ++ [x22.at_], tt ++ [x22.ttl]), by dsimp only; omega, mapt_snoc (f := fun s : Rs => s.at_) hx22 hT, mapt_snoc (f := fun s : Rs => s.ttl) hx22 hL, hA281, hA282, hA331, hA332⟩) (by show l.length - (i + 1) < l.length - i; omega) ⟨rfl, rfl, rfl, rfl, rfl, rfl, rfl, rfl, trivial⟩ (fun w1 hw => hw.pick [3, 4, 5, 6, 7] (by decide) rfl)
  refine TL.prowS (e := 3) (size := 1) (cs := flat (ic .i64) [x22.ttl]) rfl rfl rfl rfl rfl (fun w => adtbs106_1_5377 _ w) (by decide) rfl (fun g32 => ?_)
  refine zE ?_
  refine TX.held (fun w1 hw => hw.pick [1] (by decide) rfl) ?_
  refine TH.only' 3 rfl (by kernel_rfl) rfl ?_
  refine TL.prowS (e := 3) (size := 1) (cs := flat (ic .i64) [x22.at_]) rfl rfl rfl rfl rfl (fun w => adtbs106_1_5377 _ w) (by decide) rfl (fun g27 => ?_)
  refine zE ?_
  refine TX.held (fun w1 hw => hw.pick [2] (by decide) rfl) ?_
  refine TH.only' 4 rfl (by kernel_rfl) rfl ?_
  refine TL.appendT (k := 3) rfl rfl rfl rfl Tryz.underlying106 adtel106 rfl rfl rfl (fun w1 hw => pm_reads hw (k := 0) rfl) (flat_one (ic_cel .i64) _) (by show _ * 8 ≤ _; omega) ((tm ++ [x22.at_]).length) (by rw [List.length_append]; rfl) (flat (ic .i64) (tm ++ [x22.at_])) ((flat_app _ _).symm) (fun A28 c28 hA281 hA282 => ?_)
  refine zE ?_
  refine TX.held (fun w1 hw => hw.pick [2] (by decide) rfl) ?_
  refine TH.only' 9 rfl (by kernel_rfl) rfl ?_
  refine TL.appendT (k := 4) rfl rfl rfl rfl Tryz.underlying106 adtel106 rfl rfl rfl (fun w1 hw => pm_reads hw (k := 1) rfl) (flat_one (ic_cel .i64) _) (by show _ * 8 ≤ _; omega) ((tt ++ [x22.ttl]).length) (by rw [List.length_append]; rfl) (flat (ic .i64) (tt ++ [x22.ttl])) ((flat_app _ _).symm) (fun A33 c33 hA331 hA332 => ?_)
  refine zE ?_
  refine TX.he (fun w1 hw => hw.pick [2] (by decide) rfl) fun hS => ?_
  refine TH.t 10 rfl (gives_assign rfl rfl) hS ?_
  refine TH.t 11 rfl (gives_assign rfl rfl) hS ?_
  refine TH.done (by kernel_rfl) ?_
  refine zN (zT (zG (TL.v (gD ((i + 1 : Nat) : Int)) ?_)))
  refine TL.mv ?_
  refine zE ?_
  exact TX.round (⟨(i + 1, (A28, c28), (A33, c33), tm ++ [x22.at_], tt ++ [x22.ttl]), by dsimp only; omega, mapt_snoc (f := fun s : Rs => s.at_) hx22 hT, mapt_snoc (f := fun s : Rs => s.ttl) hx22 hL, hA281, hA282, hA331, hA332⟩) (by show l.length - (i + 1) < l.length - i; omega) ⟨rfl, rfl, rfl, rfl, rfl, rfl, rfl, rfl, trivial⟩ (fun w1 hw => hw.pick [3, 4, 5, 6, 7] (by decide) rfl)
 refine zET (zS (zd (zx (zX (zX (zM (zT (zS ?_))))))))
 have hT2 : l.map (fun s : Rs => s.at_) = tm := by rw [List.take_of_length_le (by omega)] at hT; exact hT
 have hL2 : l.map (fun s : Rs => s.ttl) = tt := by rw [List.take_of_length_le (by omega)] at hL; exact hL
 have html : tm.length = l.length := by rw [← hT2, List.length_map]
 have httl : tt.length = l.length := by rw [← hL2, List.length_map]
 refine zG (TL.mv ?_)
 refine TL.turnRowD (k := 0) (fun ys => SortedI tm ys) rfl rfl rfl rfl rfl Tryz.func124 (by decide) rfl rfl (fun w1 hw hr9 => sortInt hr9 rfl (by omega)) (fun sT hsT => ?_)
 try dsimp only [List.set_cons_zero, List.set_cons_succ]
 have hsTl : sT.length = tm.length := hsT.1.length_eq
 have hsTc : (cptG sT).length ≤ sT.length := cptG_le sT
 refine zET (zSG (TL.mv ?_))
 refine TL.turnRowD (k := 1) (fun ys => SortedI tt ys) rfl rfl rfl rfl rfl Tryz.func124 (by decide) rfl rfl (fun w1 hw hr9 => sortInt hr9 rfl (by omega)) (fun sL hsL => ?_)
 try dsimp only [List.set_cons_zero, List.set_cons_succ]
 have hsLl : sL.length = tt.length := hsL.1.length_eq
 have hsLc : (cptG sL).length ≤ sL.length := cptG_le sL
 refine zET (zS ?_)
 have hnT : IsNum (l.map (fun s : Rs => s.at_)) (cptG sT) := by rw [hT2]; exact isNum_of hsT
 have hnL : IsNum (l.map (fun s : Rs => s.ttl)) (cptG sL) := by rw [hL2]; exact isNum_of hsL
 refine zG (TL.mv ?_)
 refine TL.turnRow2 (q := 0) (ys := cptG sT) rfl rfl rfl rfl rfl Tryz.func139 (by decide) rfl rfl (fun w1 hw hr9 => compactInt hr9 (hsTl) (by omega)) ?_
 try dsimp only [List.set_cons_zero, List.set_cons_succ]
 refine TL.mv ?_
 refine TL.turnRow2 (q := 1) (ys := cptG sL) rfl rfl rfl rfl rfl Tryz.func139 (by decide) rfl rfl (fun w1 hw hr9 => compactInt hr9 (hsLl) (by omega)) ?_
 try dsimp only [List.set_cons_zero, List.set_cons_succ]
 refine TL.rn 2 rfl (zET ?_)
 obtain ⟨b44, o44, hA44, hbb44, hc44⟩ := hr.ad (by omega) (by decide)
 have hx44 := h0
 refine TC.join (α := Nat) (fun y => [(3, .pointer (some ⟨g3, 0, none⟩)), (4, .pointer (some ⟨g4, 0, none⟩)), (5, .pointer (some ⟨g5, 0, none⟩)), (7, .slice At ((cptG sT).length) ct), (8, .slice Al ((cptG sL).length) cl), (11, .pointer (some ⟨y, 0, none⟩))]) (fun y => Pm w [.blk y 34 [.int .i64 1, .int .i64 r0.v, .int .u32 r0.dst, .int .i64 r0.proto, .int .i64 r0.flow, .int .i64 0, .int .i64 0, .int .i64 0], .row (.slice At ((cptG sT).length) ct) 3 1 ((cptG sT).length) (flat (ic .i64) (cptG sT)), .row (.slice Al ((cptG sL).length) cl) 3 1 ((cptG sL).length) (flat (ic .i64) (cptG sL)), .blk g5 28 u.cells, .blk g4 26 [.slice A1 es.length c1], .blk g3 23 [.slice A0 l.length c0]]) ?_ ?_
 ·refine TC.held (ls := #[Ff,Ff,Ff,Ff,Ff,Ff,Ff,Ff,Ff,Ff,Ff]) (Pm w [.blk g3 23 [.slice A0 l.length c0]]) (by kernel_rfl) rfl rfl (fun w hw => hw.drawn _) ?_
  refine TH.tk 0 rfl rfl rfl (gL 0 mcoag23) (fun w1 hw => hw.pick [4] (by decide) rfl) ?_
  refine TH.tk 1 rfl rfl rfl (gA (i := 0) Tryz.underlying23 prssz65 rfl rfl rfl rfl hA44 (by omega)) (fun w1 hw => hw.pick [4] (by decide) rfl) ?_
  refine TH.tk 2 rfl rfl rfl (gR rs_cel prsag65 prssz65 hbb44 hx44 hc44) (fun w1 hw => hw.pick [4] (by decide) rfl) ?_
  refine TH.tk 4 rfl rfl rfl (gL 0 mcoag23) (fun w1 hw => hw.pick [4] (by decide) rfl) ?_
  refine TH.tk 5 rfl rfl rfl (gA (i := 0) Tryz.underlying23 prssz65 rfl rfl rfl rfl hA44 (by omega)) (fun w1 hw => hw.pick [4] (by decide) rfl) ?_
  refine TH.tk 6 rfl rfl rfl (gF prsfld65_6) (fun w1 hw => hw.pick [4] (by decide) rfl) ?_
  refine TH.tk 7 rfl rfl rfl (gS 6 rs_cel pcmag3 hbb44 hx44 hc44) (fun w1 hw => hw.pick [4] (by decide) rfl) ?_
  refine TH.two' (listed1 := #[Tt,Tt,Tt,Tt,Tt,Tt,Tt,Tt,Ff,Ff,Ff]) (listed2 := #[Tt,Tt,Tt,Ff,Tt,Tt,Tt,Tt,Ff,Tt,Ff]) 3 9 rfl rfl (by kernel_rfl) rfl rfl ?_ ?_
  ·refine TL.pcall1 (r := .agg ((trcR r0).cells).toArray) rfl rfl rfl rfl rfl Tryz.func135 (by decide) rfl (fun w1 hw => trc_any r0 w1) ?_
   refine zE ?_
   refine TX.he (fun w1 hw => hw.pick [4] (by decide) rfl) fun hS => ?_
   refine TH.t 8 rfl (gives_build (v := .agg #[.int .i64 1, .int .i64 ((trcR r0).v), .int .u32 ((trcR r0).dst), .int .i64 ((trcR r0).proto), .int .i64 r0.flow, .int .i64 0, .int .i64 0, .int .i64 0]) rfl rfl (fun w => asebld34_50680 _ _ _ _ _ w)) hS ?_
   refine TH.only' 9 rfl (by kernel_rfl) rfl ?_
   refine TL.pnew rfl rfl rfl (exec_alloc (cs := [.int .i64 0, .int .i64 0, .int .u32 0, .int .i64 0, .int .i64 0, .int .i64 0, .int .i64 0, .int .i64 0]) rfl asezv34 rfl) (fun g11 => ?_)
   refine zE ?_
   refine TX.held (fun w1 hw => hw.pick [5] (by decide) rfl) ?_
   refine TH.only' 10 rfl (by kernel_rfl) rfl ?_
   refine TL.pstore (k := 0) (vs := [.int .i64 1, .int .i64 ((trcR r0).v), .int .u32 ((trcR r0).dst), .int .i64 ((trcR r0).proto), .int .i64 r0.flow, .int .i64 0, .int .i64 0, .int .i64 0]) rfl rfl rfl rfl rfl rfl rfl aprsz34 aseone_i64i64u32i64i64i64i64i64 (by show 8 ≤ 8; decide) rfl ?_
   refine zE ?_
   refine TX.held (fun w1 hw => hw.pick [5] (by decide) rfl) ?_
   refine TH.done (by kernel_rfl) ?_
   exact TX.joined (g11) (⟨rfl, rfl, rfl, rfl, rfl, rfl, trivial⟩) (fun w1 hw => hw)
  refine TL.pnew rfl rfl rfl (exec_alloc (cs := [.int .i64 0, .int .i64 0, .int .u32 0, .int .i64 0, .int .i64 0, .int .i64 0, .int .i64 0, .int .i64 0]) rfl asezv34 rfl) (fun g11 => ?_)
  refine zE ?_
  refine TX.held (fun w1 hw => hw.pick [5] (by decide) rfl) ?_
  refine TH.only' 3 rfl (by kernel_rfl) rfl ?_
  refine TL.pcall1 (r := .agg ((trcR r0).cells).toArray) rfl rfl rfl rfl rfl Tryz.func135 (by decide) rfl (fun w1 hw => trc_any r0 w1) ?_
  refine zE ?_
  refine TX.he (fun w1 hw => hw.pick [5] (by decide) rfl) fun hS => ?_
  refine TH.t 8 rfl (gives_build (v := .agg #[.int .i64 1, .int .i64 ((trcR r0).v), .int .u32 ((trcR r0).dst), .int .i64 ((trcR r0).proto), .int .i64 r0.flow, .int .i64 0, .int .i64 0, .int .i64 0]) rfl rfl (fun w => asebld34_50680 _ _ _ _ _ w)) hS ?_
  refine TH.only' 10 rfl (by kernel_rfl) rfl ?_
  refine TL.pstore (k := 0) (vs := [.int .i64 1, .int .i64 ((trcR r0).v), .int .u32 ((trcR r0).dst), .int .i64 ((trcR r0).proto), .int .i64 r0.flow, .int .i64 0, .int .i64 0, .int .i64 0]) rfl rfl rfl rfl rfl rfl rfl aprsz34 aseone_i64i64u32i64i64i64i64i64 (by show 8 ≤ 8; decide) rfl ?_
  refine zE ?_
  refine TX.held (fun w1 hw => hw.pick [5] (by decide) rfl) ?_
  refine TH.done (by kernel_rfl) ?_
  exact TX.joined (g11) (⟨rfl, rfl, rfl, rfl, rfl, rfl, trivial⟩) (fun w1 hw => hw)
 rintro g11
 refine zSG (TL.v (gV 0 (.agg #[.int .i64 1, .int .i64 r0.v, .int .u32 r0.dst, .int .i64 r0.proto, .int .i64 r0.flow, .int .i64 0, .int .i64 0, .int .i64 0]) aprag34 aprsz34) ?_)
 refine TL.mv ?_
 refine TL.val rfl rfl rfl (gives_makeFunc rfl rfl rfl) ?_
 refine TL.call (α := {y : (Option Addr × Nat) × List Rp // EarB (fun t => bhF l u.los t) (cB r0) (cptG sT) y.2 ∧ y.2.length ≤ 1 ∧ y.2.length ≤ y.1.2 ∧ y.1.2 ≤ maxLen}) (r := fun y => .slice y.1.1.1 y.1.2.length y.1.1.2) (I' := fun y => Pm w [.row (.slice y.1.1.1 y.1.2.length y.1.1.2) 34 8 y.1.2.length (flat Rp.cells y.1.2), .row (.slice At ((cptG sT).length) ct) 3 1 ((cptG sT).length) (flat (ic .i64) (cptG sT)), .blk g11 34 [.int .i64 1, .int .i64 r0.v, .int .u32 r0.dst, .int .i64 r0.proto, .int .i64 r0.flow, .int .i64 0, .int .i64 0, .int .i64 0], .row (.slice Al ((cptG sL).length) cl) 3 1 ((cptG sL).length) (flat (ic .i64) (cptG sL)), .blk g5 28 u.cells, .blk g4 26 [.slice A1 es.length c1], .blk g3 23 [.slice A0 l.length c0]]) rfl rfl rfl rfl rfl Tryz.func140 (by decide) rfl (fun w1 hw => earliest_any w [.blk g11 34 [.int .i64 1, .int .i64 r0.v, .int .u32 r0.dst, .int .i64 r0.proto, .int .i64 r0.flow, .int .i64 0, .int .i64 0, .int .i64 0], .row (.slice Al ((cptG sL).length) cl) 3 1 ((cptG sL).length) (flat (ic .i64) (cptG sL)), .blk g5 28 u.cells, .blk g4 26 [.slice A1 es.length c1], .blk g3 23 [.slice A0 l.length c0]] At ct (cptG sT) (cB r0) (fun t => bhF l u.los t) 141 _ #[.pointer (some ⟨g3, 0, none⟩), .pointer (some ⟨g5, 0, none⟩)] w1 (hw.pick [1, 0, 2, 3, 4, 5] (by decide) rfl) (by omega) Tryz.func141 (by decide) rfl (fun t w1 ⟨L1, h9⟩ => by have h8 : Pm w [.blk g11 34 [.int .i64 1, .int .i64 r0.v, .int .u32 r0.dst, .int .i64 r0.proto, .int .i64 r0.flow, .int .i64 0, .int .i64 0, .int .i64 0], .row (.slice Al ((cptG sL).length) cl) 3 1 ((cptG sL).length) (flat (ic .i64) (cptG sL)), .blk g5 28 u.cells, .blk g4 26 [.slice A1 es.length c1], .blk g3 23 [.slice A0 l.length c0]] w1 := h9.sel (List.sublist_append_right L1 _); exact srch1_any A0 c0 l u t g3 g5 w1 (hr.up h8.bel) hl1 (Pc.lt (h8.at_ (k := 4) rfl) g3 rfl).2 (h8.cell (k := 4) rfl 0) (Pc.lt (h8.at_ (k := 2) rfl) g5 rfl).2 (h8.cell (k := 2) rfl 0))) ?_
 rintro ⟨⟨⟨R55, rc55⟩, o55⟩, hP55, hl55, hc55, hm55⟩
 dsimp only at hP55 hl55 hc55 hm55 ⊢
 refine TL.as_ ?_
 refine zET (zS (zS ?_))
 have hM0 := sa_start hP55 hnT.1 (fun t => rfl) (es := es)
 refine zG (TL.mv ?_)
 refine TL.v (gN Tryz.underlying106) ?_
 refine TL.mv ?_
 refine zET (zB ?_)
 refine TC.loop_ (α := {y : Nat × (Option Addr × Nat) × List Rp × Int × Int × Int // y.1 ≤ (cptG sL).length ∧ MinU (PrS es l u) (SA es r0 l (cptG sT) ((cptG sL).take y.1)) y.2.2.1 ∧ y.2.2.1.length ≤ 1 + 513 * y.1 ∧ y.2.2.1.length ≤ y.2.1.2 ∧ y.2.1.2 ≤ maxLen}) (fun y => [(3, .pointer (some ⟨g3, 0, none⟩)), (4, .pointer (some ⟨g4, 0, none⟩)), (5, .pointer (some ⟨g5, 0, none⟩)), (7, .slice At ((cptG sT).length) ct), (8, .slice Al ((cptG sL).length) cl), (11, .pointer (some ⟨g11, 0, none⟩)), (56, .slice Al ((cptG sL).length) cl), (57, .int .i64 ((cptG sL).length : Nat)), (58, .int .i64 ((y.1.1 : Nat) : Int)), (12, .slice y.1.2.1.1 y.1.2.2.1.length y.1.2.1.2)]) (fun y => Pm w [.row (.slice y.1.2.1.1 y.1.2.2.1.length y.1.2.1.2) 34 8 y.1.2.2.1.length (flat Rp.cells y.1.2.2.1), .row (.slice At ((cptG sT).length) ct) 3 1 ((cptG sT).length) (flat (ic .i64) (cptG sT)), .blk g11 34 [.int .i64 y.1.2.2.2.1, .int .i64 r0.v, .int .u32 r0.dst, .int .i64 r0.proto, .int .i64 r0.flow, .int .i64 y.1.2.2.2.2.1, .int .i64 0, .int .i64 y.1.2.2.2.2.2], .row (.slice Al ((cptG sL).length) cl) 3 1 ((cptG sL).length) (flat (ic .i64) (cptG sL)), .blk g5 28 u.cells, .blk g4 26 [.slice A1 es.length c1], .blk g3 23 [.slice A0 l.length c0]]) (fun y => (cptG sL).length - y.1.1) (⟨(0, (R55, rc55), o55, 1, 0, 0), Nat.zero_le _, by rw [List.take_zero]; exact hM0, by dsimp only; omega, hc55, hm55⟩) ⟨rfl, rfl, rfl, rfl, rfl, rfl, rfl, rfl, rfl, rfl, trivial⟩ (fun w1 hw => hw) ?_
 rintro ⟨⟨i2, ⟨Ao, co⟩, out, kd, tl, pv⟩, hi2, hM, hol, hoc, hom⟩
 dsimp only at hi2 hM hol hoc hom ⊢
 refine zSG ?_
 refine TL.sp bin_lss (fun q59 => ?_) (fun q59 => ?_)
 ·refine zET (zS (zc (zk (zT (zS (zB (zSG ?_)))))))
  refine TL.fact (p := ∃ g, Al = some ⟨g, 0, none⟩) (fun w1 hw => rowA hw (k := 3) rfl (by omega)) ?_
  rintro ⟨g_Al, rfl⟩
  have hi60 : i2 < (cptG sL).length := by omega
  obtain ⟨x60, hx60⟩ := ex_at hi60
  refine TL.val rfl rfl rfl (gA (i := i2) Tryz.underlying106 pcmsz3 rfl rfl rfl rfl rfl (by omega)) ?_
  refine TL.val rfl rfl rfl (gives_load (v := .int .i64 x60) rfl rfl pcmag3 (fun w1 hw => flat_row (ic_cel .i64) hw (q := 3) rfl hx60 0 _ rfl)) ?_
  refine TL.as_ ?_
  refine zET (zSG (TL.mv ?_))
  refine TL.v (gF arpfld34_3) ?_
  refine TL.pstore (k := 2) (vs := [.int .i64 x60]) rfl rfl rfl rfl rfl rfl rfl pcmsz3 aeaone_i64 (by show 6 ≤ 8; decide) rfl ?_
  refine TL.v (gF arpfld34_5) ?_
  refine TL.pstore (k := 2) (vs := [.int .i64 0]) rfl rfl rfl rfl rfl rfl rfl pcmsz3 aeaone_i64 (by show 8 ≤ 8; decide) rfl ?_
  refine TL.v (gF arpfld34_0) ?_
  refine TL.pstore (k := 2) (vs := [.int .i64 3]) rfl rfl rfl rfl rfl rfl rfl pcmsz3 aeaone_i64 (by show 1 ≤ 8; decide) rfl ?_
  refine zET (zSG (TL.v (gL 6 mcoag23) ?_))
  refine TL.mv ?_
  refine TL.pcallPm (α := {y : (Option Addr × Nat) × List Rs // y.2 = atL l x60 ∧ y.2.length ≤ y.1.2 ∧ y.1.2 ≤ maxLen}) (fun x => .slice x.1.1.1 x.1.2.length x.1.1.2) (fun x => [.row (.slice x.1.1.1 x.1.2.length x.1.1.2) 65 17 x.1.2.length (flat Rs.cells x.1.2)]) rfl rfl rfl rfl rfl Tryz.func77 (by decide) rfl (fun w1 hw => atl_any A0 c0 l x60 w1 (hr.up hw.bel) hl1) ?_
  rintro ⟨⟨⟨R68, rc68⟩, at68⟩, hP68, hR681, hR682⟩
  dsimp only [List.cons_append, List.nil_append]
  dsimp only at hP68 hR681 hR682 ⊢
  refine TL.pnew rfl rfl rfl (exec_alloc (cs := [.slice none 0 0]) rfl asezv23 rfl) (fun g15 => ?_)
  refine TL.pstore (k := 0) (vs := [.slice R68 at68.length rc68]) rfl rfl rfl rfl rfl rfl rfl mcosz23 dntone_s (by show 1 ≤ 1; decide) rfl ?_
  refine zET (zS ?_)
  have hat : at68.length ≤ l.length := by rw [hP68]; exact List.length_filter_le _ _
  refine zG (TL.mv ?_)
  refine TL.v (gV 4 (.agg #[.int .i64 3, .int .i64 r0.v, .int .u32 r0.dst, .int .i64 r0.proto, .int .i64 r0.flow, .int .i64 x60, .int .i64 0, .int .i64 0]) aprag34 aprsz34) ?_
  refine TL.mv ?_
  refine TL.val rfl rfl rfl (gives_makeFunc rfl rfl rfl) ?_
  refine TL.call (α := {y : (Option Addr × Nat) × List Rp // EarB (fun t => pdec (u.prb < 1 ∨ CgF (eaL (atL l x60) t) (laL (atL l x60) t) u.prb u.gro)) (cC r0 x60) (cptG sT) y.2 ∧ y.2.length ≤ 1 ∧ y.2.length ≤ y.1.2 ∧ y.1.2 ≤ maxLen}) (r := fun y => .slice y.1.1.1 y.1.2.length y.1.1.2) (I' := fun y => Pm w [.row (.slice y.1.1.1 y.1.2.length y.1.1.2) 34 8 y.1.2.length (flat Rp.cells y.1.2), .row (.slice At ((cptG sT).length) ct) 3 1 ((cptG sT).length) (flat (ic .i64) (cptG sT)), .blk g15 23 [.slice R68 at68.length rc68], .row (.slice R68 at68.length rc68) 65 17 at68.length (flat Rs.cells at68), .row (.slice Ao out.length co) 34 8 out.length (flat Rp.cells out), .blk g11 34 [.int .i64 3, .int .i64 r0.v, .int .u32 r0.dst, .int .i64 r0.proto, .int .i64 r0.flow, .int .i64 x60, .int .i64 0, .int .i64 0], .row (.slice (some ⟨g_Al, 0, none⟩) ((cptG sL).length) cl) 3 1 ((cptG sL).length) (flat (ic .i64) (cptG sL)), .blk g5 28 u.cells, .blk g4 26 [.slice A1 es.length c1], .blk g3 23 [.slice A0 l.length c0]]) rfl rfl rfl rfl rfl Tryz.func140 (by decide) rfl (fun w1 hw => earliest_any w [.blk g15 23 [.slice R68 at68.length rc68], .row (.slice R68 at68.length rc68) 65 17 at68.length (flat Rs.cells at68), .row (.slice Ao out.length co) 34 8 out.length (flat Rp.cells out), .blk g11 34 [.int .i64 3, .int .i64 r0.v, .int .u32 r0.dst, .int .i64 r0.proto, .int .i64 r0.flow, .int .i64 x60, .int .i64 0, .int .i64 0], .row (.slice (some ⟨g_Al, 0, none⟩) ((cptG sL).length) cl) 3 1 ((cptG sL).length) (flat (ic .i64) (cptG sL)), .blk g5 28 u.cells, .blk g4 26 [.slice A1 es.length c1], .blk g3 23 [.slice A0 l.length c0]] At ct (cptG sT) (cC r0 x60) (fun t => pdec (u.prb < 1 ∨ CgF (eaL (atL l x60) t) (laL (atL l x60) t) u.prb u.gro)) 142 _ #[.pointer (some ⟨g15, 0, none⟩), .pointer (some ⟨g5, 0, none⟩)] w1 (hw.pick [3, 0, 1, 2, 4, 5, 6, 7, 8] (by decide) rfl) (by omega) Tryz.func142 (by decide) rfl (fun t w1 ⟨L1, h9⟩ => by have h8 : Pm w [.blk g15 23 [.slice R68 at68.length rc68], .row (.slice R68 at68.length rc68) 65 17 at68.length (flat Rs.cells at68), .row (.slice Ao out.length co) 34 8 out.length (flat Rp.cells out), .blk g11 34 [.int .i64 3, .int .i64 r0.v, .int .u32 r0.dst, .int .i64 r0.proto, .int .i64 r0.flow, .int .i64 x60, .int .i64 0, .int .i64 0], .row (.slice (some ⟨g_Al, 0, none⟩) ((cptG sL).length) cl) 3 1 ((cptG sL).length) (flat (ic .i64) (cptG sL)), .blk g5 28 u.cells, .blk g4 26 [.slice A1 es.length c1], .blk g3 23 [.slice A0 l.length c0]] w1 := h9.sel (List.sublist_append_right L1 _); exact (srch2_any R68 rc68 at68 u t g15 g5 w1 (pm_rd h8 (k := 1) rfl) (by omega) (fun r hr => hin r (mem_atL.1 (hP68 ▸ hr)).1) (Pc.lt (h8.at_ (k := 0) rfl) g15 rfl).2 (h8.cell (k := 0) rfl 0) (Pc.lt (h8.at_ (k := 5) rfl) g5 rfl).2 (fun j v hv => by rw [Nat.zero_add, h8.cell (k := 5) rfl j]; exact hv)).mono fun en w2 ⟨x, h1, h2⟩ => ⟨by rw [h1, pdec_of x.2, hP68], h2⟩)) ?_
  rintro ⟨⟨⟨R73, rc73⟩, o73⟩, hP73, hl73, hc73, hm73⟩
  dsimp only at hP73 hl73 hc73 hm73 ⊢
  refine TL.appendT (k := 4) rfl rfl rfl rfl Tryz.underlying49 aseel49 rfl rfl rfl (fun w1 hw => pm_reads hw (k := 0) rfl) (flat_one rp_cel _) (by show _ * 64 ≤ _; omega) ((out ++ o73).length) (List.length_append) (flat Rp.cells (out ++ o73)) ((flat_app _ _).symm) (fun A74 c74 hA741 hA742 => ?_)
  refine TL.as_ ?_
  refine zET (zS ?_)
  have hM1 := sb_start hM hx60 hnL.1 hP73 hnT.1 hu (fun t => pdec_iff)
  refine zG (TL.v (gL 2 mcoag23) ?_)
  refine TL.v (gV 8 (.agg #[.slice A1 es.length c1]) breag26 bresz26) ?_
  refine TL.pcallPm (α := {y : (Option Addr × Nat) × List Int // y.2 = at68.map (fun r : Rs => provR es r.src r.back) ∧ y.2.length ≤ y.1.2 ∧ y.1.2 ≤ maxLen}) (fun x => .slice x.1.1.1 x.1.2.length x.1.1.2) (fun x => [.row (.slice x.1.1.1 x.1.2.length x.1.1.2) 3 1 x.1.2.length (flat (ic .i64) x.1.2)]) rfl rfl rfl rfl rfl Tryz.func82 (by decide) rfl (fun w1 hw => providers_any R68 rc68 at68 A1 c1 es w1 (pm_rd hw (k := 3) rfl) (by omega) (hr1.up hw.bel)) ?_
  rintro ⟨⟨⟨R77, rc77⟩, pv77⟩, hP77, hR771, hR772⟩
  dsimp only [List.cons_append, List.nil_append]
  dsimp only at hP77 hR771 hR772 ⊢
  refine TL.pnew rfl rfl rfl (exec_alloc (cs := [.slice none 0 0]) rfl asezv106 rfl) (fun g16 => ?_)
  refine TL.pstore (k := 0) (vs := [.slice R77 pv77.length rc77]) rfl rfl rfl rfl rfl rfl rfl asesz106 dntone_s (by show 1 ≤ 1; decide) rfl ?_
  refine zET (zS ?_)
  have hpv : pv77.length = at68.length := by rw [hP77, List.length_map]
  refine zG (TL.v (gL 0 aeaag106) ?_)
  refine TL.pcallPm (α := {p : Option Addr × Nat // (pv77).length ≤ p.2 ∧ p.2 ≤ maxLen}) (fun x => .slice x.1.1 ((pv77).length) x.1.2) (fun x => [.row (.slice x.1.1 ((pv77).length) x.1.2) 3 1 ((pv77).length) (flat (ic .i64) pv77)]) rfl rfl rfl rfl rfl Tryz.func143 (by decide) rfl (fun w1 hw => cloneI_any R77 rc77 pv77 w1 (pm_rd hw (k := 1) rfl) (by omega)) ?_
  rintro ⟨⟨R79, rc79⟩, hR791, hR792⟩
  dsimp only [List.cons_append, List.nil_append]
  refine TL.as_ ?_
  refine zET (zSG (TL.mv ?_))
  refine TL.turnRowD (k := 0) (fun ys => SortedI pv77 ys) rfl rfl rfl rfl rfl Tryz.func124 (by decide) rfl rfl (fun w1 hw hr9 => sortInt hr9 rfl (by omega)) (fun sO hsO => ?_)
  try dsimp only [List.set_cons_zero, List.set_cons_succ]
  have hsOl : sO.length = pv77.length := hsO.1.length_eq
  have hsOc : (cptG sO).length ≤ sO.length := cptG_le sO
  refine zET (zS ?_)
  have hnO : IsNum ((atL l x60).map (fun r : Rs => provR es r.src r.back)) (cptG sO) := by rw [← hP68, ← hP77]; exact isNum_of hsO
  refine zG (TL.mv ?_)
  refine TL.turnRow2 (q := 0) (ys := cptG sO) rfl rfl rfl rfl rfl Tryz.func139 (by decide) rfl rfl (fun w1 hw hr9 => compactInt hr9 (hsOl) (by omega)) ?_
  try dsimp only [List.set_cons_zero, List.set_cons_succ]
  refine TL.v (gN Tryz.underlying106) ?_
  refine TL.mv ?_
  refine zET (zB ?_)
  refine TC.loop_ (α := {y : Nat × (Option Addr × Nat) × List Rp × Int × Int // y.1 ≤ (cptG sO).length ∧ MinU (PrS es l u) (SB es r0 l (cptG sT) ((cptG sL).take i2) x60 ((cptG sO).take y.1)) y.2.2.1 ∧ y.2.2.1.length ≤ 2 + 513 * i2 + y.1 ∧ y.2.2.1.length ≤ y.2.1.2 ∧ y.2.1.2 ≤ maxLen}) (fun y => [(3, .pointer (some ⟨g3, 0, none⟩)), (4, .pointer (some ⟨g4, 0, none⟩)), (5, .pointer (some ⟨g5, 0, none⟩)), (7, .slice At ((cptG sT).length) ct), (8, .slice (some ⟨g_Al, 0, none⟩) ((cptG sL).length) cl), (11, .pointer (some ⟨g11, 0, none⟩)), (56, .slice (some ⟨g_Al, 0, none⟩) ((cptG sL).length) cl), (57, .int .i64 ((cptG sL).length : Nat)), (58, .int .i64 ((i2 : Nat) : Int)), (14, .int .i64 x60), (15, .pointer (some ⟨g15, 0, none⟩)), (16, .pointer (some ⟨g16, 0, none⟩)), (83, .slice R79 ((cptG sO).length) rc79), (84, .int .i64 ((cptG sO).length : Nat)), (85, .int .i64 ((y.1.1 : Nat) : Int)), (12, .slice y.1.2.1.1 y.1.2.2.1.length y.1.2.1.2)]) (fun y => Pm w [.row (.slice R79 ((cptG sO).length) rc79) 3 1 ((cptG sO).length) (flat (ic .i64) (cptG sO)), .blk g16 106 [.slice R77 pv77.length rc77], .row (.slice R77 pv77.length rc77) 3 1 pv77.length (flat (ic .i64) pv77), .row (.slice R73 o73.length rc73) 34 8 o73.length (flat Rp.cells o73), .row (.slice At ((cptG sT).length) ct) 3 1 ((cptG sT).length) (flat (ic .i64) (cptG sT)), .blk g15 23 [.slice R68 at68.length rc68], .row (.slice R68 at68.length rc68) 65 17 at68.length (flat Rs.cells at68), .row (.slice y.1.2.1.1 y.1.2.2.1.length y.1.2.1.2) 34 8 y.1.2.2.1.length (flat Rp.cells y.1.2.2.1), .blk g11 34 [.int .i64 y.1.2.2.2.1, .int .i64 r0.v, .int .u32 r0.dst, .int .i64 r0.proto, .int .i64 r0.flow, .int .i64 x60, .int .i64 0, .int .i64 y.1.2.2.2.2], .row (.slice (some ⟨g_Al, 0, none⟩) ((cptG sL).length) cl) 3 1 ((cptG sL).length) (flat (ic .i64) (cptG sL)), .blk g5 28 u.cells, .blk g4 26 [.slice A1 es.length c1], .blk g3 23 [.slice A0 l.length c0]]) (fun y => (cptG sO).length - y.1.1) (⟨(0, (A74, c74), out ++ o73, 3, 0), Nat.zero_le _, by rw [List.take_zero]; exact hM1, by dsimp only; rw [List.length_append]; omega, hA741, hA742⟩) ⟨rfl, rfl, rfl, rfl, rfl, rfl, rfl, rfl, rfl, rfl, rfl, rfl, rfl, rfl, rfl, rfl, trivial⟩ (fun w1 hw => hw) ?_
  rintro ⟨⟨j, ⟨Ao2, co2⟩, out2, kd2, pv2⟩, hj, hM2, hol2, hoc2, hom2⟩
  dsimp only at hj hM2 hol2 hoc2 hom2 ⊢
  refine zSG ?_
  refine TL.sp bin_lss (fun q86 => ?_) (fun q86 => ?_)
  ·refine zET (zS (zc (zk (zT (zS (zB (zSG ?_)))))))
   refine TL.fact (p := ∃ g, R79 = some ⟨g, 0, none⟩) (fun w1 hw => rowA hw (k := 0) rfl (by omega)) ?_
   rintro ⟨g_R79, rfl⟩
   have hi87 : j < (cptG sO).length := by omega
   obtain ⟨x87, hx87⟩ := ex_at hi87
   refine TL.val rfl rfl rfl (gA (i := j) Tryz.underlying106 pcmsz3 rfl rfl rfl rfl rfl (by omega)) ?_
   refine TL.val rfl rfl rfl (gives_load (v := .int .i64 x87) rfl rfl pcmag3 (fun w1 hw => flat_row (ic_cel .i64) hw (q := 0) rfl hx87 0 _ rfl)) ?_
   refine TL.v (gF arpfld34_5) ?_
   refine TL.pstore (k := 8) (vs := [.int .i64 x87]) rfl rfl rfl rfl rfl rfl rfl pcmsz3 aeaone_i64 (by show 8 ≤ 8; decide) rfl ?_
   refine zET (zS (zSG (TL.v (gF arpfld34_5) ?_)))
   refine TL.v (gL 8 pcmag3) ?_
   refine TL.sp bin_eql (fun q92 => ?_) (fun q92 => ?_)
   ·refine zET (zc (zx (zX (zM (zT (zG (TL.v (gD ((j + 1 : Nat) : Int)) ?_)))))))
    refine TL.mv ?_
    refine zE ?_
    exact TX.round (⟨(j + 1, (Ao2, co2), out2, kd2, x87), by dsimp only; omega, sb_zero hM2 hx87 q92, by dsimp only; omega, hoc2, hom2⟩) (by show (cptG sO).length - (j + 1) < (cptG sO).length - j; omega) ⟨rfl, rfl, rfl, rfl, rfl, rfl, rfl, rfl, rfl, rfl, rfl, rfl, rfl, rfl, rfl, rfl, trivial⟩ (fun w1 hw => hw)
   refine zET (zd (zk (zT (zSG (TL.v (gF arpfld34_0) ?_)))))
   refine TL.pstore (k := 8) (vs := [.int .i64 2]) rfl rfl rfl rfl rfl rfl rfl pcmsz3 aeaone_i64 (by show 1 ≤ 8; decide) rfl ?_
   refine zET (zG (TL.mv ?_))
   refine TL.v (gV 8 (.agg #[.int .i64 2, .int .i64 r0.v, .int .u32 r0.dst, .int .i64 r0.proto, .int .i64 r0.flow, .int .i64 x60, .int .i64 0, .int .i64 x87]) aprag34 aprsz34) ?_
   refine TL.mv ?_
   refine TL.val rfl rfl rfl (gives_makeFunc rfl rfl rfl) ?_
   refine TL.call (α := {y : (Option Addr × Nat) × List Rp // EarB (fun t => pdec (DtF (fun r : Rs => provR es r.src r.back) (atL l x60) x87 t)) (cD r0 x60 x87) (cptG sT) y.2 ∧ y.2.length ≤ 1 ∧ y.2.length ≤ y.1.2 ∧ y.1.2 ≤ maxLen}) (r := fun y => .slice y.1.1.1 y.1.2.length y.1.1.2) (I' := fun y => Pm w [.row (.slice y.1.1.1 y.1.2.length y.1.1.2) 34 8 y.1.2.length (flat Rp.cells y.1.2), .row (.slice At ((cptG sT).length) ct) 3 1 ((cptG sT).length) (flat (ic .i64) (cptG sT)), .row (.slice (some ⟨g_R79, 0, none⟩) ((cptG sO).length) rc79) 3 1 ((cptG sO).length) (flat (ic .i64) (cptG sO)), .blk g16 106 [.slice R77 pv77.length rc77], .row (.slice R77 pv77.length rc77) 3 1 pv77.length (flat (ic .i64) pv77), .row (.slice R73 o73.length rc73) 34 8 o73.length (flat Rp.cells o73), .blk g15 23 [.slice R68 at68.length rc68], .row (.slice R68 at68.length rc68) 65 17 at68.length (flat Rs.cells at68), .row (.slice Ao2 out2.length co2) 34 8 out2.length (flat Rp.cells out2), .blk g11 34 [.int .i64 2, .int .i64 r0.v, .int .u32 r0.dst, .int .i64 r0.proto, .int .i64 r0.flow, .int .i64 x60, .int .i64 0, .int .i64 x87], .row (.slice (some ⟨g_Al, 0, none⟩) ((cptG sL).length) cl) 3 1 ((cptG sL).length) (flat (ic .i64) (cptG sL)), .blk g5 28 u.cells, .blk g4 26 [.slice A1 es.length c1], .blk g3 23 [.slice A0 l.length c0]]) rfl rfl rfl rfl rfl Tryz.func140 (by decide) rfl (fun w1 hw => earliest_any w [.row (.slice (some ⟨g_R79, 0, none⟩) ((cptG sO).length) rc79) 3 1 ((cptG sO).length) (flat (ic .i64) (cptG sO)), .blk g16 106 [.slice R77 pv77.length rc77], .row (.slice R77 pv77.length rc77) 3 1 pv77.length (flat (ic .i64) pv77), .row (.slice R73 o73.length rc73) 34 8 o73.length (flat Rp.cells o73), .blk g15 23 [.slice R68 at68.length rc68], .row (.slice R68 at68.length rc68) 65 17 at68.length (flat Rs.cells at68), .row (.slice Ao2 out2.length co2) 34 8 out2.length (flat Rp.cells out2), .blk g11 34 [.int .i64 2, .int .i64 r0.v, .int .u32 r0.dst, .int .i64 r0.proto, .int .i64 r0.flow, .int .i64 x60, .int .i64 0, .int .i64 x87], .row (.slice (some ⟨g_Al, 0, none⟩) ((cptG sL).length) cl) 3 1 ((cptG sL).length) (flat (ic .i64) (cptG sL)), .blk g5 28 u.cells, .blk g4 26 [.slice A1 es.length c1], .blk g3 23 [.slice A0 l.length c0]] At ct (cptG sT) (cD r0 x60 x87) (fun t => pdec (DtF (fun r : Rs => provR es r.src r.back) (atL l x60) x87 t)) 144 _ #[.pointer (some ⟨g15, 0, none⟩), .pointer (some ⟨g16, 0, none⟩), .pointer (some ⟨g11, 0, none⟩)] w1 (hw.pick [4, 0, 1, 2, 3, 5, 6, 7, 8, 9, 10, 11, 12] (by decide) rfl) (by omega) Tryz.func144 (by decide) rfl (fun t w1 ⟨L1, h9⟩ => by have h8 : Pm w [.row (.slice (some ⟨g_R79, 0, none⟩) ((cptG sO).length) rc79) 3 1 ((cptG sO).length) (flat (ic .i64) (cptG sO)), .blk g16 106 [.slice R77 pv77.length rc77], .row (.slice R77 pv77.length rc77) 3 1 pv77.length (flat (ic .i64) pv77), .row (.slice R73 o73.length rc73) 34 8 o73.length (flat Rp.cells o73), .blk g15 23 [.slice R68 at68.length rc68], .row (.slice R68 at68.length rc68) 65 17 at68.length (flat Rs.cells at68), .row (.slice Ao2 out2.length co2) 34 8 out2.length (flat Rp.cells out2), .blk g11 34 [.int .i64 2, .int .i64 r0.v, .int .u32 r0.dst, .int .i64 r0.proto, .int .i64 r0.flow, .int .i64 x60, .int .i64 0, .int .i64 x87], .row (.slice (some ⟨g_Al, 0, none⟩) ((cptG sL).length) cl) 3 1 ((cptG sL).length) (flat (ic .i64) (cptG sL)), .blk g5 28 u.cells, .blk g4 26 [.slice A1 es.length c1], .blk g3 23 [.slice A0 l.length c0]] w1 := h9.sel (List.sublist_append_right L1 _); exact (srch3_any R68 rc68 at68 R77 rc77 pv77 (fun r : Rs => provR es r.src r.back) x87 t g15 g16 g11 w1 (pm_rd h8 (k := 5) rfl) (by omega) (pm_rd h8 (k := 2) rfl) hP77 (Pc.lt (h8.at_ (k := 4) rfl) g15 rfl).2 (h8.cell (k := 4) rfl 0) (Pc.lt (h8.at_ (k := 1) rfl) g16 rfl).2 (h8.cell (k := 1) rfl 0) (Pc.lt (h8.at_ (k := 7) rfl) g11 rfl).2 (h8.cell (k := 7) rfl 7)).mono fun en w2 ⟨x, h1, h2⟩ => ⟨by rw [h1, pdec_of x.2, hP68], h2⟩)) ?_
   rintro ⟨⟨⟨R98, rc98⟩, o98⟩, hP98, hl98, hc98, hm98⟩
   dsimp only at hP98 hl98 hc98 hm98 ⊢
   refine TL.appendT (k := 8) rfl rfl rfl rfl Tryz.underlying49 aseel49 rfl rfl rfl (fun w1 hw => pm_reads hw (k := 0) rfl) (flat_one rp_cel _) (by show _ * 64 ≤ _; omega) ((out2 ++ o98).length) (List.length_append) (flat Rp.cells (out2 ++ o98)) ((flat_app _ _).symm) (fun A99 c99 hA991 hA992 => ?_)
   refine TL.as_ ?_
   refine zE (zN (zT (zG (TL.v (gD ((j + 1 : Nat) : Int)) ?_))))
   refine TL.mv ?_
   refine zE ?_
   exact TX.round (⟨(j + 1, (A99, c99), out2 ++ o98, 2, x87), by dsimp only; omega, sb_next hM2 hx60 hnL.1 hx87 hnO.1 q92 hP98 hnT.1 (fun t => pdec_iff), by dsimp only; rw [List.length_append]; omega, hA991, hA992⟩) (by show (cptG sO).length - (j + 1) < (cptG sO).length - j; omega) ⟨rfl, rfl, rfl, rfl, rfl, rfl, rfl, rfl, rfl, rfl, rfl, rfl, rfl, rfl, rfl, rfl, trivial⟩ (fun w1 hw => hw.pick [2, 3, 4, 5, 1, 6, 7, 8, 9, 10, 11, 12, 13] (by decide) rfl)
  refine zET (zS (zd (zx (zX (zX (zM (zN (zT (zG (TL.v (gD ((i2 + 1 : Nat) : Int)) ?_))))))))))
  refine TL.mv ?_
  refine zE ?_
  exact TX.round (⟨(i2 + 1, (Ao2, co2), out2, kd2, x60, pv2), by dsimp only; omega, sb_end hM2 (by omega) hnO hx60, by dsimp only; omega, hoc2, hom2⟩) (by show (cptG sL).length - (i2 + 1) < (cptG sL).length - i2; omega) ⟨rfl, rfl, rfl, rfl, rfl, rfl, rfl, rfl, rfl, rfl, trivial⟩ (fun w1 hw => hw.pick [7, 4, 8, 9, 10, 11, 12] (by decide) rfl)
 refine zET (zS (zd (zx (zX (zX (zM (zT (zSG (TL.rn 2 rfl (zET (zr ?_)))))))))))
 exact ret_tmp Tryz.results92 rfl (fun w1 hw => ⟨⟨((Ao, co), out), ⟨sa_end hM (by omega) hnT hnL hu, by dsimp only; omega⟩, hoc, hom⟩, rfl, hw.pick [0] (by decide) rfl⟩)
set_option maxRecDepth 20000
theorem ix_any {p : Rs → Bool} {l : List Rs} {z : Int} (h : IxOk p l z) : l.any p = decide (z ≥ 0) := by
 rcases h with ⟨rfl, h⟩ | ⟨i, rfl, _, _, y, hy, hp⟩
 ·rw [List.any_eq_false.2 fun r hr => by rw [h r hr]; decide]; rfl
 rw [List.any_eq_true.2 ⟨y, List.mem_of_getElem? hy, hp⟩]; exact (decide_eq_true (by omega)).symm
theorem fnd1_any (r : Rs) (w : World) :
  Calls Tryz.prog 87 #[.agg r.cells.toArray] w fun e w' => e = .returned (.bool (!vldRs r)) ∧ Below w.heap.size w w' := by
 refine begin_ (vs := [.agg r.cells.toArray]) Tryz.func87 rfl rfl rfl ?_ (Pm.start w)
 refine zSG ?_
 refine TL.pnew rfl rfl rfl (exec_box (cs := r.cells) rfl rfl rfl) (fun g1 => ?_)
 refine TL.as_ ?_
 refine zET (zSG (TL.v (gV 0 (.agg (r.cells).toArray) prsag65 prssz65) ?_))
 refine TL.callsplit rfl rfl rfl rfl rfl Tryz.func70 (by decide) rfl (fun w1 hw => vldRs_any r w1) (fun h4 => ?_) (fun h4 => ?_)
 ·refine TL.rn 2 rfl (zET (zr ?_))
  have hE : (!vldRs r) = false := (by simp [Bool.not_eq_true, h4])
  exact ret_tmp Tryz.results87 rfl (fun w1 hw => ⟨by rw [hE]; try rfl, hw.bel⟩)
 refine TL.rn 2 rfl (zET (zr ?_))
 have hE : (!vldRs r) = true := (by simp [Bool.not_eq_true, h4])
 exact ret_tmp Tryz.results87 rfl (fun w1 hw => ⟨by rw [hE]; try rfl, hw.bel⟩)
theorem ctG_any (A0 : Option Addr) (c0 : Nat) (l : List Rs) (p : Rs → Bool) (f : FuncId) (fn : Func) (cap : Array Value) (w : World) (hr : Reads w w.heap.size 17 A0 l.length (flat Rs.cells l)) (hl1 : l.length ≤ 100000) (hfn : Tryz.prog.funcs[f]? = some fn) (hnm : (fn.name == "runtime.NumGoroutine") = false) (hbd : fn.body.isNone = false) (hf : ∀ (x : Rs) (w1 : World), Below w.heap.size w w1 → Calls Tryz.prog f (#[] ++ [Value.agg x.cells.toArray].toArray ++ cap) w1 fun e w' => e = .returned (.bool (p x)) ∧ Below w1.heap.size w1 w') :
  Calls Tryz.prog 86 #[.slice A0 l.length c0, .func (.func f) #[] cap] w fun e w' => e = .returned (.bool (l.any p)) ∧ Below w.heap.size w w' := by
 refine begin_ (vs := [.slice A0 l.length c0, .func (.func f) #[] cap]) Tryz.func86 rfl rfl rfl ?_ (Pm.start w)
 refine zSG (TL.as_ ?_)
 refine zET (zSG (TL.rn 2 rfl ?_))
 refine TL.pcallPm (α := {z : Int // IxOk p l z}) (fun x => .int .i64 x.1) (fun x => []) rfl rfl rfl rfl rfl Tryz.func131 (by decide) rfl (fun w1 hw => (ixG_any A0 c0 l p f fn cap w1 (hr.up hw.bel) hl1 hfn hnm hbd (fun x w2 hb => hf x w2 (hw.bel.trans (hb.mono hw.bel.size)))).mono fun en w2 ⟨x, h1, h2⟩ => ⟨x, h1, (Pm.start w1).below h2⟩) ?_
 rintro ⟨z, hz⟩
 dsimp only [List.cons_append, List.nil_append]
 refine TL.sp bin_geq (fun q8 => ?_) (fun q8 => ?_)
 ·refine TL.as_ ?_
  refine zET (zr ?_)
  exact ret_tmp Tryz.results86 rfl (fun w1 hw => ⟨by rw [ix_any hz, decide_eq_true q8], hw.bel⟩)
 refine TL.as_ ?_
 refine zET (zr ?_)
 exact ret_tmp Tryz.results86 rfl (fun w1 hw => ⟨by rw [ix_any hz, decide_eq_false q8], hw.bel⟩)
theorem fnd_any (A0 : Option Addr) (c0 : Nat) (l : List Rs) (A1 : Option Addr) (c1 : Nat) (es : List En) (u : Ru) (w : World) (hr : Reads w w.heap.size 17 A0 l.length (flat Rs.cells l)) (hl1 : l.length ≤ 100000) (hok : ∀ r ∈ l, r.Ok) (hr1 : Reads w w.heap.size 5 A1 es.length (flat En.cells es)) :
  Calls Tryz.prog 39 #[.slice A0 l.length c0, .agg #[.slice A1 es.length c1], .agg u.cells.toArray] w fun e w' => ∃ y : {y : ((Option Addr × Nat) × List Rp) × Int // FndOk es l u y.1.2 y.2 ∧ y.1.2.length ≤ 100000000000 ∧ y.1.2.length ≤ y.1.1.2 ∧ y.1.1.2 ≤ maxLen}, e = .returned (.tuple #[.slice y.1.1.1.1 y.1.1.2.length y.1.1.1.2, .int .i64 y.1.2]) ∧ Pm w [.row (.slice y.1.1.1.1 y.1.1.2.length y.1.1.1.2) 34 8 y.1.1.2.length (flat Rp.cells y.1.1.2)] w' := by
 refine begin_ (vs := [.slice A0 l.length c0, .agg #[.slice A1 es.length c1], .agg u.cells.toArray]) Tryz.func39 rfl rfl rfl ?_ (Pm.start w)
 refine zSG ?_
 refine TL.pnew rfl rfl rfl (exec_box (cs := [.slice A1 es.length c1]) rfl rfl rfl) (fun g4 => ?_)
 refine TL.pnew rfl rfl rfl (exec_box (cs := u.cells) rfl rfl rfl) (fun g5 => ?_)
 refine TL.rn 2 rfl (zET (zS (zSG (TL.v (gV 0 (.agg (u.cells).toArray) aprag28 aprsz28) ?_))))
 refine TL.callsplit rfl rfl rfl rfl rfl Tryz.func24 (by decide) rfl (fun w1 hw => vldRu_any u w1) (fun h15 => ?_) (fun h15 => ?_)
 ·refine TL.rn 2 rfl (TL.ov (gV 1 (.agg #[.slice A1 es.length c1]) breag26 bresz26) ?_)
  refine TL.gu ?_
  refine TL.callsplit rfl rfl rfl rfl rfl Tryz.func84 (by decide) rfl (fun w1 hw => validR_any A1 c1 es w1 (hr1.up hw.bel)) (fun h19 => ?_) (fun h19 => ?_)
  ·refine TL.rn 4 rfl (TL.gu ?_)
   refine TL.callsplit rfl rfl rfl rfl rfl Tryz.func86 (by decide) rfl (fun w1 hw => ctG_any A0 c0 l (fun r : Rs => !vldRs r) 87 _ #[] w1 (hr.up hw.bel) hl1 Tryz.func87 (by decide) rfl (fun x w2 hb => fnd1_any x w2)) (fun h24 => ?_) (fun h24 => ?_)
   ·refine TL.pk ?_
    refine zET (zc (zSG (TL.rn 2 rfl (zET (zr (zR ?_))))))
    exact ret_pair (v1 := .slice none 0 0) (v2 := .int .i64 1) Tryz.results39 rfl rfl (fun w1 hw => ⟨⟨(((none, 0), []), 1), .inl ⟨rfl, rfl, fun h => by rw [List.any_eq_true] at h24; obtain ⟨r, hr, h9⟩ := h24; rw [h.1 r hr] at h9; cases h9⟩, Nat.zero_le _, Nat.le_refl _, Nat.zero_le _⟩, rfl, (hw.pick [] (by decide) rfl).nilrow _ _⟩)
   refine TL.pk ?_
   refine zET (zd (zk (zT (zS (zS ?_)))))
   have hva : ∀ r ∈ l, vldRs r = true := fun r hr => by rw [List.any_eq_false] at h24; have := h24 r hr; simpa using this
   have hprb : 1 ≤ u.prb := by have h9 := h15; unfold vldRu at h9; exact (of_decide_eq_true h9).2.2.1
   refine zG (TL.mv ?_)
   refine TL.pcallPm (α := {y : (Option Addr × Nat) × List Rs // IsOrd l y.2 ∧ y.2.length ≤ y.1.2 ∧ y.1.2 ≤ maxLen}) (fun x => .slice x.1.1.1 x.1.2.length x.1.1.2) (fun x => [.row (.slice x.1.1.1 x.1.2.length x.1.1.2) 65 17 x.1.2.length (flat Rs.cells x.1.2)]) rfl rfl rfl rfl rfl Tryz.func88 (by decide) rfl (fun w1 hw => ord_any A0 c0 l w1 (hr.up hw.bel) hl1 hok) ?_
   rintro ⟨⟨⟨R27, rc27⟩, o27⟩, hP27, hR271, hR272⟩
   dsimp only [List.cons_append, List.nil_append]
   dsimp only at hP27 hR271 hR272 ⊢
   refine TL.v (gN Tryz.underlying23) ?_
   refine TL.sp bin_gtr (fun q29 => ?_) (fun q29 => ?_)
   ·refine zET (zc (zSG (TL.rn 2 rfl (zET (zr (zR ?_))))))
    exact ret_pair (v1 := .slice none 0 0) (v2 := .int .i64 5) Tryz.results39 rfl rfl (fun w1 hw => ⟨⟨(((none, 0), []), 5), .inr (.inl ⟨rfl, rfl, ⟨hva, h19, h15⟩, o27, hP27, by omega⟩), Nat.zero_le _, Nat.le_refl _, Nat.zero_le _⟩, rfl, (hw.pick [] (by decide) rfl).nilrow _ _⟩)
   refine zET (zd (zk (zT (zS ?_))))
   have hol : o27.length ≤ 512 := by omega
   refine zG (TL.as_ ?_)
   refine zET (zS (zSG (TL.mv ?_)))
   refine TL.pcallPm (α := {y : (Option Addr × Nat) × List Trc // IsTrc l y.2 ∧ y.2.length ≤ y.1.2 ∧ y.1.2 ≤ maxLen}) (fun x => .slice x.1.1.1 x.1.2.length x.1.1.2) (fun x => [.row (.slice x.1.1.1 x.1.2.length x.1.1.2) 32 3 x.1.2.length (flat Trc.cells x.1.2)]) rfl rfl rfl rfl rfl Tryz.func89 (by decide) rfl (fun w1 hw => trs_any A0 c0 l w1 (hr.up hw.bel) hl1) ?_
   rintro ⟨⟨⟨R31, rc31⟩, tr31⟩, hP31, hR311, hR312⟩
   dsimp only [List.cons_append, List.nil_append]
   dsimp only at hP31 hR311 hR312 ⊢
   refine TL.v (gN Tryz.underlying128) ?_
   refine TL.mv ?_
   refine zET (zB (TC.nilrow 34 8 ?_))
   refine TC.loop_ (α := {y : Nat × (Option Addr × Nat) × List Rp // y.1 ≤ tr31.length ∧ MinU (PrP es l u) (FSA l (tr31.take y.1)) y.2.2 ∧ y.2.2.length ≤ 134480384 * y.1 ∧ y.2.2.length ≤ y.2.1.2 ∧ y.2.1.2 ≤ maxLen}) (fun y => [(0, .slice A0 l.length c0), (4, .pointer (some ⟨g4, 0, none⟩)), (5, .pointer (some ⟨g5, 0, none⟩)), (31, .slice R31 tr31.length rc31), (32, .int .i64 (tr31.length : Nat)), (33, .int .i64 ((y.1.1 : Nat) : Int)), (8, .slice y.1.2.1.1 y.1.2.2.length y.1.2.1.2)]) (fun y => Pm w [.row (.slice y.1.2.1.1 y.1.2.2.length y.1.2.1.2) 34 8 y.1.2.2.length (flat Rp.cells y.1.2.2), .row (.slice R31 tr31.length rc31) 32 3 tr31.length (flat Trc.cells tr31), .row (.slice R27 o27.length rc27) 65 17 o27.length (flat Rs.cells o27), .blk g5 28 u.cells, .blk g4 26 [.slice A1 es.length c1]]) (fun y => tr31.length - y.1.1) (⟨(0, (none, 0), []), Nat.zero_le _, fa_zero, Nat.zero_le _, Nat.le_refl _, Nat.zero_le _⟩) ⟨rfl, rfl, rfl, rfl, rfl, rfl, rfl, trivial⟩ (fun w1 hw => hw) ?_
   rintro ⟨⟨i, ⟨Ao, co⟩, out⟩, hi, hM, hos, hoc, hom⟩
   dsimp only at hi hM hos hoc hom ⊢
   have htl31 : tr31.length ≤ 512 := Nat.le_trans (trc_le hP31 hP27) hol
   refine zSG ?_
   refine TL.sp bin_lss (fun q34 => ?_) (fun q34 => ?_)
   ·refine zET (zS (zc (zk (zT (zS (zB (zSG ?_)))))))
    refine TL.fact (p := ∃ g, R31 = some ⟨g, 0, none⟩) (fun w1 hw => rowA hw (k := 1) rfl (by omega)) ?_
    rintro ⟨g_R31, rfl⟩
    have hi35 : i < tr31.length := by omega
    obtain ⟨x35, hx35⟩ := ex_at hi35
    refine TL.val rfl rfl rfl (gA (i := i) Tryz.underlying128 prssz32 rfl rfl rfl rfl rfl (by omega)) ?_
    refine TL.val rfl rfl rfl (gives_loadR (off := 0 + i * 3) rfl rfl pcpag32 prssz32 (trc_cel.len x35) (fun w1 hw j9 u9 h9 => flat_row trc_cel hw (q := 1) rfl hx35 j9 u9 h9)) ?_
    refine TL.pnew rfl rfl rfl (exec_alloc (cs := [.int .i64 0, .int .u32 0, .int .i64 0]) rfl prszv32 rfl) (fun g10 => ?_)
    refine TL.pstore (k := 0) (vs := x35.cells) rfl rfl rfl rfl rfl rfl rfl prssz32 (trc_cel.one _) (by show 3 ≤ 3; decide) (L' := [.blk g10 32 x35.cells, .row (.slice Ao out.length co) 34 8 out.length (flat Rp.cells out), .row (.slice (some ⟨g_R31, 0, none⟩) tr31.length rc31) 32 3 tr31.length (flat Trc.cells tr31), .row (.slice R27 o27.length rc27) 65 17 o27.length (flat Rs.cells o27), .blk g5 28 u.cells, .blk g4 26 [.slice A1 es.length c1]]) rfl ?_
    refine zET (zSG ?_)
    refine TL.mkmap rfl rfl rfl rfl (fun gm hgm => ?_)
    refine TL.as_ ?_
    refine zET (zSG (TL.mv ?_))
    refine TL.v (gV 1 (.agg (x35.cells).toArray) pcpag32 prssz32) ?_
    refine TL.pcallPm (α := {y : (Option Addr × Nat) × List Rs // IsOf l x35 y.2 ∧ y.2.length ≤ y.1.2 ∧ y.1.2 ≤ maxLen}) (fun x => .slice x.1.1.1 x.1.2.length x.1.1.2) (fun x => [.row (.slice x.1.1.1 x.1.2.length x.1.1.2) 65 17 x.1.2.length (flat Rs.cells x.1.2)]) rfl rfl rfl rfl rfl Tryz.func90 (by decide) rfl (fun w1 hw => of_any A0 c0 l x35 w1 (hr.up hw.bel) hl1 hok) ?_
    rintro ⟨⟨⟨R40, rc40⟩, of40⟩, hP40, hR401, hR402⟩
    dsimp only [List.cons_append, List.nil_append]
    dsimp only at hP40 hR401 hR402 ⊢
    refine TL.v (gN Tryz.underlying23) ?_
    refine TL.mv ?_
    refine zET (zB ?_)
    refine TC.loop_ (α := {y : Nat × (Option Addr × Nat) × List Rp × Obj // y.1 ≤ of40.length ∧ MinU (PrP es l u) (FSB l (tr31.take i) x35 (fls (of40.take y.1))) y.2.2.1 ∧ FlM y.2.2.2 (fls (of40.take y.1)) ∧ y.2.2.1.length ≤ 134480384 * i + 262657 * y.1 ∧ y.2.2.1.length ≤ y.2.1.2 ∧ y.2.1.2 ≤ maxLen}) (fun y => [(0, .slice A0 l.length c0), (4, .pointer (some ⟨g4, 0, none⟩)), (5, .pointer (some ⟨g5, 0, none⟩)), (10, .pointer (some ⟨g10, 0, none⟩)), (11, .map (some gm)), (31, .slice (some ⟨g_R31, 0, none⟩) tr31.length rc31), (32, .int .i64 (tr31.length : Nat)), (33, .int .i64 ((i : Nat) : Int)), (40, .slice R40 of40.length rc40), (41, .int .i64 (of40.length : Nat)), (42, .int .i64 ((y.1.1 : Nat) : Int)), (8, .slice y.1.2.1.1 y.1.2.2.1.length y.1.2.1.2)]) (fun y => Pm w [.row (.slice R40 of40.length rc40) 65 17 of40.length (flat Rs.cells of40), .oth gm y.1.2.2.2, .blk g10 32 x35.cells, .row (.slice y.1.2.1.1 y.1.2.2.1.length y.1.2.1.2) 34 8 y.1.2.2.1.length (flat Rp.cells y.1.2.2.1), .row (.slice (some ⟨g_R31, 0, none⟩) tr31.length rc31) 32 3 tr31.length (flat Trc.cells tr31), .row (.slice R27 o27.length rc27) 65 17 o27.length (flat Rs.cells o27), .blk g5 28 u.cells, .blk g4 26 [.slice A1 es.length c1]]) (fun y => of40.length - y.1.1) (⟨(0, (Ao, co), out, .map #[] 0), Nat.zero_le _, fb_start hM, by dsimp only; rw [List.take_zero]; exact FlM.new, by dsimp only; omega, hoc, hom⟩) ⟨rfl, rfl, rfl, rfl, rfl, rfl, rfl, rfl, rfl, rfl, rfl, rfl, trivial⟩ (fun w1 hw => hw) ?_
    rintro ⟨⟨j, ⟨Ao2, co2⟩, out2, om⟩, hj, hM2, hFl, hos2, hoc2, hom2⟩
    dsimp only at hj hM2 hFl hos2 hoc2 hom2 ⊢
    obtain ⟨fm, hmf, hff⟩ := id hFl
    have hofl : of40.length ≤ 512 := Nat.le_trans (of_le hP40 hP27) hol
    refine zSG ?_
    refine TL.sp bin_lss (fun q43 => ?_) (fun q43 => ?_)
    ·refine zET (zS (zc (zk (zT (zS (zB (zSG ?_)))))))
     refine TL.fact (p := ∃ g, R40 = some ⟨g, 0, none⟩) (fun w1 hw => rowA hw (k := 0) rfl (by omega)) ?_
     rintro ⟨g_R40, rfl⟩
     have hi44 : j < of40.length := by omega
     obtain ⟨x44, hx44⟩ := ex_at hi44
     refine TL.val rfl rfl rfl (gA (i := j) Tryz.underlying23 prssz65 rfl rfl rfl rfl rfl (by omega)) ?_
     refine TL.val rfl rfl rfl (gives_loadR (off := 0 + j * 17) rfl rfl prsag65 prssz65 (rs_cel.len x44) (fun w1 hw j9 u9 h9 => flat_row rs_cel hw (q := 0) rfl hx44 j9 u9 h9)) ?_
     refine TL.pnew rfl rfl rfl (exec_alloc (cs := [.int .i64 0, .int .i64 0, .int .i64 0, .int .i64 0, .int .u32 0, .int .i64 0, .int .i64 0, .int .i64 0, .bool false, .bool false, .int .i64 0, .int .u32 0, .int .i64 0, .int .i64 0, .int .i64 0, .int .i64 0, .int .i64 0]) rfl arpzv65 rfl) (fun g13 => ?_)
     refine TL.pstore (k := 0) (vs := x44.cells) rfl rfl rfl rfl rfl rfl rfl prssz65 (rs_cel.one _) (by show 17 ≤ 17; decide) (L' := [.blk g13 65 x44.cells, .row (.slice (some ⟨g_R40, 0, none⟩) of40.length rc40) 65 17 of40.length (flat Rs.cells of40), .oth gm om, .blk g10 32 x35.cells, .row (.slice Ao2 out2.length co2) 34 8 out2.length (flat Rp.cells out2), .row (.slice (some ⟨g_R31, 0, none⟩) tr31.length rc31) 32 3 tr31.length (flat Trc.cells tr31), .row (.slice R27 o27.length rc27) 65 17 o27.length (flat Rs.cells o27), .blk g5 28 u.cells, .blk g4 26 [.slice A1 es.length c1]]) rfl ?_
     refine zET (zS (zS ?_))
     have hv44 : vldRs x44 = true := by have h9 := List.mem_of_getElem? hx44; obtain ⟨o9, h10, rfl⟩ := hP40; exact ((h10.2 x44).1 (List.mem_filter.1 h9).1).2
     obtain ⟨mb, hmb⟩ : ∃ b, decide (x44.flow ∈ fls (of40.take j)) = b := ⟨_, rfl⟩
     refine zG (TL.mv ?_)
     refine TL.v (gF prsfld65_6) ?_
     refine TL.v (gL 0 pcmag3) ?_
     refine TL.val rfl rfl rfl (gives_lookG (i := 2) (a := x44.flow) (v := .bool mb) rfl rfl rfl (mkey_int Tryz.underlying3) Tryz.underlying130 (fun w => rfl) rfl hmf (wf_flow hv44) (by rw [hff _ (wf_flow hv44), hmb])) ?_
     refine TL.mv ?_
     cases mb with
     | true =>
      refine TL.rn 4 rfl (zET (zc (zx (zX (zM (zT (zG (TL.v (gD ((j + 1 : Nat) : Int)) ?_))))))))
      refine TL.mv ?_
      refine zE ?_
      exact TX.round (⟨(j + 1, (Ao2, co2), out2, om), by dsimp only; omega, (fb_skip hM2 hx44 (.inl (of_decide_eq_true hmb))).2, hFl.same (fb_skip hM2 hx44 (.inl (of_decide_eq_true hmb))).1, by dsimp only; omega, hoc2, hom2⟩) (by show of40.length - (j + 1) < of40.length - j; omega) ⟨rfl, rfl, rfl, rfl, rfl, rfl, rfl, rfl, rfl, rfl, rfl, rfl, trivial⟩ (fun w1 hw => hw.pick [1, 2, 3, 4, 5, 6, 7, 8] (by decide) rfl)
     | false =>
      refine TL.ov (gV 0 (.agg (x44.cells).toArray) prsag65 prssz65) ?_
      refine TL.gu ?_
      refine TL.callsplit rfl rfl rfl rfl rfl Tryz.func91 (by decide) rfl (fun w1 hw => usbRs_any x44 w1) (fun h52 => ?_) (fun h52 => ?_)
      ·refine TL.rn 2 rfl (zET (zd (zk (zT (zS ?_)))))
       have hu44 : usbRs x44 = true := h52
       have hnm44 : x44.flow ∉ fls (of40.take j) := of_decide_eq_false hmb
       refine zG (TL.mv ?_)
       refine TL.v (gF prsfld65_6) ?_
       refine TL.v (gL 0 pcmag3) ?_
       refine TL.mapsetG (i := 2) rfl rfl rfl rfl rfl rfl (mkey_int Tryz.underlying3) Tryz.underlying130 rfl hgm hmf (wf_flow hv44) (fun ob2 hm2 => ?_)
       try dsimp only [List.set_cons_zero, List.set_cons_succ]
       have hFl2 := FlM.set hff hm2
       refine zET (TC.held (ls := #[Ff,Ff,Ff,Ff,Ff,Ff,Ff,Ff,Ff,Ff,Ff]) (Pm w [.blk g13 65 x44.cells, .blk g10 32 x35.cells, .blk g5 28 u.cells, .blk g4 26 [.slice A1 es.length c1]]) (by kernel_rfl) rfl rfl (fun w hw => hw.drawn _) ?_)
       refine TH.tk 0 rfl rfl rfl (gives_move rfl rfl) (fun w1 hw => hw.pick [0, 3, 7, 8] (by decide) rfl) ?_
       refine TH.tk 1 rfl rfl rfl (gives_move rfl rfl) (fun w1 hw => hw.pick [0, 3, 7, 8] (by decide) rfl) ?_
       refine TH.tk 2 rfl rfl rfl (gV 1 (.agg (x35.cells).toArray) pcpag32 prssz32) (fun w1 hw => hw.pick [0, 3, 7, 8] (by decide) rfl) ?_
       refine TH.tk 3 rfl rfl rfl (gF prsfld65_6) (fun w1 hw => hw.pick [0, 3, 7, 8] (by decide) rfl) ?_
       refine TH.tk 4 rfl rfl rfl (gL 0 pcmag3) (fun w1 hw => hw.pick [0, 3, 7, 8] (by decide) rfl) ?_
       refine TH.tk 6 rfl rfl rfl (gV 3 (.agg #[.slice A1 es.length c1]) breag26 bresz26) (fun w1 hw => hw.pick [0, 3, 7, 8] (by decide) rfl) ?_
       refine TH.tk 7 rfl rfl rfl (gV 2 (.agg (u.cells).toArray) aprag28 aprsz28) (fun w1 hw => hw.pick [0, 3, 7, 8] (by decide) rfl) ?_
       refine TH.only' 5 rfl (by kernel_rfl) rfl ?_
       refine TL.pcallPm (α := {y : (Option Addr × Nat) × List Rs // IsSt l x35 x44.flow y.2 ∧ y.2.length ≤ y.1.2 ∧ y.1.2 ≤ maxLen}) (fun x => .slice x.1.1.1 x.1.2.length x.1.1.2) (fun x => [.row (.slice x.1.1.1 x.1.2.length x.1.1.2) 65 17 x.1.2.length (flat Rs.cells x.1.2)]) rfl rfl rfl rfl rfl Tryz.func73 (by decide) rfl (fun w1 hw => stream_any A0 c0 l x35 x44.flow w1 (hr.up hw.bel) hl1 hok) ?_
       rintro ⟨⟨⟨R63, rc63⟩, st63⟩, hP63, hR631, hR632⟩
       dsimp only [List.cons_append, List.nil_append]
       dsimp only at hP63 hR631 hR632 ⊢
       have hstl : st63.length ≤ 512 := Nat.le_trans (hP63.leo hP27) hol
       have hin63 := stream_ne hP40 hx44 hu44 hP63
       obtain ⟨r0, hr0⟩ : ∃ r0, st63[0]? = some r0 := ⟨_, List.getElem?_eq_getElem (List.length_pos_of_mem hin63)⟩
       refine zE ?_
       refine TX.held (fun w1 hw => hw.pick [1, 4, 8, 9] (by decide) rfl) ?_
       refine TH.only' 8 rfl (by kernel_rfl) rfl ?_
       refine TL.pcallPm (α := {y : (Option Addr × Nat) × List Rp // (MinU (PrS es st63 u) (TmS r0 st63) y.2 ∧ y.2.length ≤ 262657) ∧ y.2.length ≤ y.1.2 ∧ y.1.2 ≤ maxLen}) (fun x => .slice x.1.1.1 x.1.2.length x.1.1.2) (fun x => [.row (.slice x.1.1.1 x.1.2.length x.1.1.2) 34 8 x.1.2.length (flat Rp.cells x.1.2)]) rfl rfl rfl rfl rfl Tryz.func92 (by decide) rfl (fun w1 hw => search_any R63 rc63 st63 A1 c1 es u r0 w1 (pm_rd hw (k := 0) rfl) (by omega) (hr1.up hw.bel) hstl hr0 (fun r hr => vld_in (hva r ((hP63.mem r).1 hr).1)) hprb) ?_
       rintro ⟨⟨⟨R66, rc66⟩, o66⟩, hP66, hR661, hR662⟩
       dsimp only [List.cons_append, List.nil_append]
       dsimp only at hP66 hR661 hR662 ⊢
       refine zE ?_
       refine TX.held (fun w1 hw => hw.pick [2, 5, 9, 10] (by decide) rfl) ?_
       refine TH.only' 9 rfl (by kernel_rfl) rfl ?_
       refine TL.appendT (k := 6) rfl rfl rfl rfl Tryz.underlying49 aseel49 rfl rfl rfl (fun w1 hw => pm_reads hw (k := 0) rfl) (flat_one rp_cel _) (by show _ * 64 ≤ _; omega) ((out2 ++ o66).length) (List.length_append) (flat Rp.cells (out2 ++ o66)) ((flat_app _ _).symm) (fun A67 c67 hA671 hA672 => ?_)
       refine zE ?_
       refine TX.he (fun w1 hw => hw.pick [2, 5, 9, 10] (by decide) rfl) fun hS => ?_
       refine TH.t 10 rfl (gives_assign rfl rfl) hS ?_
       refine TH.done (by kernel_rfl) ?_
       refine zN (zT (zG (TL.v (gD ((j + 1 : Nat) : Int)) ?_)))
       refine TL.mv ?_
       refine zE ?_
       exact TX.round (⟨(j + 1, (A67, c67), out2 ++ o66, ob2), by dsimp only; omega, fb_step hM2 hx35 hP31 hx44 hu44 hnm44 hP63 hr0 h15 h19 hP66.1, by dsimp only; rw [fls_snoc_t hx44 hu44]; exact hFl2, by dsimp only; rw [List.length_append]; omega, hA671, hA672⟩) (by show of40.length - (j + 1) < of40.length - j; omega) ⟨rfl, rfl, rfl, rfl, rfl, rfl, rfl, rfl, rfl, rfl, rfl, rfl, trivial⟩ (fun w1 hw => hw.pick [3, 4, 5, 6, 7, 8, 9, 10] (by decide) rfl)
      refine TL.rn 2 rfl (zET (zc (zx (zX (zM (zT (zG (TL.v (gD ((j + 1 : Nat) : Int)) ?_))))))))
      refine TL.mv ?_
      refine zE ?_
      exact TX.round (⟨(j + 1, (Ao2, co2), out2, om), by dsimp only; omega, (fb_skip hM2 hx44 (.inr h52)).2, hFl.same (fb_skip hM2 hx44 (.inr h52)).1, by dsimp only; omega, hoc2, hom2⟩) (by show of40.length - (j + 1) < of40.length - j; omega) ⟨rfl, rfl, rfl, rfl, rfl, rfl, rfl, rfl, rfl, rfl, rfl, rfl, trivial⟩ (fun w1 hw => hw.pick [1, 2, 3, 4, 5, 6, 7, 8] (by decide) rfl)
    refine zET (zS (zd (zx (zX (zX (zM (zN (zT (zG (TL.v (gD ((i + 1 : Nat) : Int)) ?_))))))))))
    refine TL.mv ?_
    refine zE ?_
    exact TX.round (⟨(i + 1, (Ao2, co2), out2), by dsimp only; omega, fb_end hM2 (by omega) hP40 hx35, by dsimp only; omega, hoc2, hom2⟩) (by show tr31.length - (i + 1) < tr31.length - i; omega) ⟨rfl, rfl, rfl, rfl, rfl, rfl, rfl, trivial⟩ (fun w1 hw => hw.pick [3, 4, 5, 6, 7] (by decide) rfl)
   refine zET (zS (zd (zx (zX (zX (zM (zT (zSG (TL.mv ?_)))))))))
   refine TL.turnRowD (k := 0) (fun ys => Sorted cmpRp out ys) rfl rfl rfl rfl rfl Tryz.func93 (by decide) rfl rfl (fun w1 hw hr9 => sortRp hr9 (rfl) (by omega)) (fun srt71 hS71 => ?_)
   try dsimp only [List.set_cons_zero, List.set_cons_succ]
   refine zET (zSG (TL.rn 3 rfl (zET (zr ?_))))
   have hfe := fa_end hM (by omega) hP31 hS71
   have hsl := hS71.1.length_eq
   exact ret_pair (v1 := .slice Ao out.length co) (v2 := .int .i64 0) Tryz.results39 rfl rfl (fun w1 hw => ⟨⟨(((Ao, co), srt71), 0), .inr (.inr ⟨rfl, hfe, ⟨hva, h19, h15⟩, o27, hP27, hol⟩), by dsimp only; omega, by dsimp only; omega, hom⟩, (by dsimp only; rw [hsl]), (by dsimp only; rw [hsl]; exact hw.pick [0] (by decide) rfl)⟩)
  refine TL.rn 6 rfl (zET (zc (zSG (TL.rn 2 rfl (zET (zr (zR ?_)))))))
  exact ret_pair (v1 := .slice none 0 0) (v2 := .int .i64 1) Tryz.results39 rfl rfl (fun w1 hw => ⟨⟨(((none, 0), []), 1), .inl ⟨rfl, rfl, fun h => by have h9 := h.2.1; rw [h19] at h9; cases h9⟩, Nat.zero_le _, Nat.le_refl _, Nat.zero_le _⟩, rfl, (hw.pick [] (by decide) rfl).nilrow _ _⟩)
 refine TL.rn 10 rfl (zET (zc (zSG (TL.rn 2 rfl (zET (zr (zR ?_)))))))
 exact ret_pair (v1 := .slice none 0 0) (v2 := .int .i64 1) Tryz.results39 rfl rfl (fun w1 hw => ⟨⟨(((none, 0), []), 1), .inl ⟨rfl, rfl, fun h => by have h9 := h.2.2; rw [h15] at h9; cases h9⟩, Nat.zero_le _, Nat.le_refl _, Nat.zero_le _⟩, rfl, (hw.pick [] (by decide) rfl).nilrow _ _⟩)
set_option maxRecDepth 20000
theorem calls_p {f : FuncId} {vs : Array Value} {w : World} {P : Prop} (h : Calls Tryz.prog f vs w fun e w' => ∃ x : {b : Bool // b = true ↔ P}, e = .returned (.bool x.1) ∧ Below w.heap.size w w') : Calls Tryz.prog f vs w fun e w' => e = .returned (.bool (pdec P)) ∧ Below w.heap.size w w' :=
 h.mono fun e w' ⟨x, h1, h2⟩ => ⟨by rw [h1, pdec_of x.2], h2⟩
theorem calls_i {f : FuncId} {vs : Array Value} {w : World} {a b : Int} (h : Calls Tryz.prog f vs w fun e w' => e = .returned (.int .i64 a) ∧ Below w.heap.size w w') (hb : a = b) : Calls Tryz.prog f vs w fun e w' => e = .returned (.int .i64 b) ∧ Below w.heap.size w w' := hb ▸ h
theorem pm_dfr {w w1 : World} {L : List Pc} {k D : Nat} (h : Pm w L w1) (hk : L[k]? = some (.oth D (.deferred (some [])))) : Pm w (L.set k (.oth D (.deferred none))) (w1.putObj D (.deferred none)) :=
 h.turnO hk (mine_new (h.at_ hk).2) (grownBy_putObj' w1 D (.deferred none)) (World.putObj_heap_same (Array.getElem?_eq_some_iff.1 (h.at_ hk).1).1)
theorem onc_mem {l y : List Rs} (h : OncP l y) {r : Rs} (hr : r ∈ y) : r ∈ l ∧ vldRs r = true := by
 obtain ⟨o, h1, rfl⟩ := h
 exact (h1.2 r).1 (onF_sub _ hr)
def remI (y : List Rs) (i : Nat) : List Rs := y.take i ++ y.drop (i + 1)
theorem remI_len {y : List Rs} {i : Nat} (h : i < y.length) : (remI y i).length + 1 = y.length := by unfold remI; rw [List.length_append, List.length_take, List.length_drop]; omega
theorem remI_mem {y : List Rs} {i : Nat} {r : Rs} (h : r ∈ remI y i) : r ∈ y := by
 unfold remI at h
 rcases List.mem_append.1 h with h | h
 ·exact List.mem_of_mem_take h
 exact List.mem_of_mem_drop h
noncomputable def mstep (es : List En) (u : Ru) (p : Rp) (y : List Rs) (i : Nat) : List Rs := if pdec (PrP es (remI y i) u p) = true then remI y i else y
noncomputable def minS (es : List En) (u : Ru) (p : Rp) (o : List Rs) : List Rs := (List.finRange o.length).reverse.foldl (fun y i => mstep es u p y i.1) o
def MinOk (es : List En) (l : List Rs) (u : Ru) (p : Rp) (ids : List Idn) (z : Int) : Prop :=
 (z = 1 ∧ ids = [] ∧ ¬ ((∀ r ∈ l, vldRs r = true) ∧ validR es = true ∧ vldRu u = true ∧ vldRp p = true)) ∨
 (((∀ r ∈ l, vldRs r = true) ∧ validR es = true ∧ vldRu u = true ∧ vldRp p = true) ∧ ∃ o, OncP l o ∧
  ((z = 5 ∧ ids = [] ∧ 512 < o.length) ∨ (o.length ≤ 512 ∧ ((z = 8 ∧ ids = [] ∧ ¬ PrP es o u p) ∨ (z = 0 ∧ PrP es o u p ∧ ids = (minS es u p o).map idnR)))))
theorem MinOk.eq {es : List En} {l : List Rs} {u : Ru} {p : Rp} {a b : List Idn} {z z' : Int} (h : MinOk es l u p a z) (h' : MinOk es l u p b z') : a = b ∧ z = z' := by
 rcases h with ⟨rfl, rfl, h1⟩ | ⟨h1, o, ho, h2⟩ <;> rcases h' with ⟨rfl, rfl, g1⟩ | ⟨g1, o', ho', g2⟩
 ·exact ⟨rfl, rfl⟩
 ·exact absurd g1 h1
 ·exact absurd h1 g1
 obtain rfl := ho.eq ho'
 rcases h2 with ⟨rfl, rfl, h3⟩ | ⟨h3, ⟨rfl, rfl, h4⟩ | ⟨rfl, h4, rfl⟩⟩ <;> rcases g2 with ⟨rfl, rfl, g3⟩ | ⟨g3, ⟨rfl, rfl, g4⟩ | ⟨rfl, g4, rfl⟩⟩ <;> first | exact ⟨rfl, rfl⟩ | omega | contradiction
theorem conc2_any (g cc : Nat) (A1 A2 : Option Addr) (n1 c1 n2 c2 : Nat) (l1 l2 : List Rs) (e1 : l1.length = n1) (e2 : l2.length = n2) (w : World) (hs : Reads w w.heap.size 1 (some ⟨g, 0, none⟩) 2 [.slice A1 n1 c1, .slice A2 n2 c2]) (h1 : Reads w w.heap.size 17 A1 n1 (flat Rs.cells l1)) (h2 : Reads w w.heap.size 17 A2 n2 (flat Rs.cells l2)) (hl : l1.length + l2.length ≤ 1000000) :
  Calls Tryz.prog 103 #[.slice (some ⟨g, 0, none⟩) 2 cc] w fun e w' => ∃ x : {y : (Option Addr × Nat) × List Rs // (y.2 = l1 ++ l2) ∧ y.2.length ≤ y.1.2 ∧ y.1.2 ≤ maxLen}, e = .returned (.slice x.1.1.1 x.1.2.length x.1.1.2) ∧ Pm w [.row (.slice x.1.1.1 x.1.2.length x.1.1.2) 65 17 x.1.2.length (flat Rs.cells x.1.2)] w' := by
 subst e1 e2
 have hc : catL [⟨A1, c1, l1⟩, ⟨A2, c2, l2⟩] = l1 ++ l2 := by simp [catL]
 have h := concR_any (some ⟨g, 0, none⟩) cc [⟨A1, c1, l1⟩, ⟨A2, c2, l2⟩] w hs (fun s h => by
  rcases List.mem_cons.1 h with rfl | h
  ·exact h1
  rw [List.mem_singleton.1 h]; exact h2) (by show 2 ≤ 1000; omega) (by rw [hc, List.length_append]; exact hl)
 rw [hc] at h
 exact h
theorem mmibs45_2_32575 (a0_0 : Option Addr) (a0_0n a0_0c : Nat) (a1_0 : Option Addr) (a1_0n a1_0c : Nat) (w : World) : (Instr.buildSlice 45 2 #[(0, .slice a0_0 a0_0n a0_0c), (1, .slice a1_0 a1_0n a1_0c)]).run Tryz.prog w = .ok (.slice (some ⟨w.heap.size, 0, none⟩) 2 2) (w.alloc (.cells [.slice a0_0 a0_0n a0_0c, .slice a1_0 a1_0n a1_0c].toArray 23)) := by kernel_rfl
theorem mmibs67_1_44646 (a0_0 : Int) (a0_1 : Int) (a0_2 : Int) (w : World) : (Instr.buildSlice 67 1 #[(0, .agg #[.int .i64 a0_0, .int .i64 a0_1, .int .i64 a0_2])]).run Tryz.prog w = .ok (.slice (some ⟨w.heap.size, 0, none⟩) 1 1) (w.alloc (.cells [.int .i64 a0_0, .int .i64 a0_1, .int .i64 a0_2].toArray 73)) := by kernel_rfl
theorem mmiel67 : Elem Tryz.prog 67 73 3 24 := Elem.mk' Tryz.underlying67 (z := .agg #[.int .i64 0, .int .i64 0, .int .i64 0]) (by kernel_rfl) rfl (by omega) (by omega)
theorem min1_any (r : Rs) (w : World) :
  Calls Tryz.prog 100 #[.agg r.cells.toArray] w fun e w' => e = .returned (.bool (!vldRs r)) ∧ Below w.heap.size w w' := by
 refine begin_ (vs := [.agg r.cells.toArray]) Tryz.func100 rfl rfl rfl ?_ (Pm.start w)
 refine zSG ?_
 refine TL.pnew rfl rfl rfl (exec_box (cs := r.cells) rfl rfl rfl) (fun g1 => ?_)
 refine TL.as_ ?_
 refine zET (zSG (TL.v (gV 0 (.agg (r.cells).toArray) prsag65 prssz65) ?_))
 refine TL.callsplit rfl rfl rfl rfl rfl Tryz.func70 (by decide) rfl (fun w1 hw => vldRs_any r w1) (fun h4 => ?_) (fun h4 => ?_)
 ·refine TL.rn 2 rfl (zET (zr ?_))
  have hE : (!vldRs r) = false := (by simp [Bool.not_eq_true, h4])
  exact ret_tmp Tryz.results100 rfl (fun w1 hw => ⟨by rw [hE]; try rfl, hw.bel⟩)
 refine TL.rn 2 rfl (zET (zr ?_))
 have hE : (!vldRs r) = true := (by simp [Bool.not_eq_true, h4])
 exact ret_tmp Tryz.results100 rfl (fun w1 hw => ⟨by rw [hE]; try rfl, hw.bel⟩)
theorem min_any (A0 : Option Addr) (c0 : Nat) (l : List Rs) (A1 : Option Addr) (c1 : Nat) (es : List En) (u : Ru) (p : Rp) (w : World) (hr : Reads w w.heap.size 17 A0 l.length (flat Rs.cells l)) (hl1 : l.length ≤ 100000) (hok : ∀ r ∈ l, r.Ok) (hr1 : Reads w w.heap.size 5 A1 es.length (flat En.cells es)) :
  Calls Tryz.prog 44 #[.slice A0 l.length c0, .agg #[.slice A1 es.length c1], .agg u.cells.toArray, .agg p.cells.toArray] w fun e w' => ∃ y : {y : ((Option Addr × Nat) × List Idn) × Int // MinOk es l u p y.1.2 y.2 ∧ y.1.2.length ≤ 512 ∧ y.1.2.length ≤ y.1.1.2 ∧ y.1.1.2 ≤ maxLen}, e = .returned (.tuple #[.slice y.1.1.1.1 y.1.1.2.length y.1.1.1.2, .int .i64 y.1.2]) ∧ Pm w [.row (.slice y.1.1.1.1 y.1.1.2.length y.1.1.1.2) 73 3 y.1.1.2.length (flat Idn.cells y.1.1.2)] w' := by
 refine beginM_ (vs := [.slice A0 l.length c0, .agg #[.slice A1 es.length c1], .agg u.cells.toArray, .agg p.cells.toArray]) 2 Tryz.func44 rfl rfl rfl ?_ (Pm.start w)
 refine zSG ?_
 refine TL.pnew rfl rfl rfl (exec_box (cs := [.slice A1 es.length c1]) rfl rfl rfl) (fun g5 => ?_)
 refine TL.pnew rfl rfl rfl (exec_box (cs := u.cells) rfl rfl rfl) (fun g6 => ?_)
 refine TL.pnew rfl rfl rfl (exec_box (cs := p.cells) rfl rfl rfl) (fun g7 => ?_)
 refine TL.rn 2 rfl (zET (zS (zSG (TL.v (gV 1 (.agg (u.cells).toArray) aprag28 aprsz28) ?_))))
 refine TL.callsplit rfl rfl rfl rfl rfl Tryz.func24 (by decide) rfl (fun w1 hw => vldRu_any u w1) (fun h17 => ?_) (fun h17 => ?_)
 ·refine TL.rn 2 rfl (TL.ov (gV 0 (.agg (p.cells).toArray) aprag34 aprsz34) ?_)
  refine TL.gu ?_
  refine TL.callsplit rfl rfl rfl rfl rfl Tryz.func27 (by decide) rfl (fun w1 hw => vldRp_any p w1) (fun h21 => ?_) (fun h21 => ?_)
  ·refine TL.rn 3 rfl (TL.ov (gV 2 (.agg #[.slice A1 es.length c1]) breag26 bresz26) ?_)
   refine TL.gu ?_
   refine TL.callsplit rfl rfl rfl rfl rfl Tryz.func84 (by decide) rfl (fun w1 hw => validR_any A1 c1 es w1 (hr1.up hw.bel)) (fun h26 => ?_) (fun h26 => ?_)
   ·refine TL.rn 4 rfl (TL.gu ?_)
    refine TL.callsplit rfl rfl rfl rfl rfl Tryz.func86 (by decide) rfl (fun w1 hw => ctG_any A0 c0 l (fun r : Rs => !vldRs r) 100 _ #[] w1 (hr.up hw.bel) hl1 Tryz.func100 (by decide) rfl (fun x w2 hb => min1_any x w2)) (fun h31 => ?_) (fun h31 => ?_)
    ·refine TL.pk ?_
     refine zET (zc (zSG (TL.rn 2 rfl (zET (zr (zR ?_))))))
     exact retM0_pair (v1 := .slice none 0 0) (v2 := .int .i64 1) Tryz.results44 rfl rfl (fun w1 hw => ⟨⟨(((none, 0), []), 1), .inl ⟨rfl, rfl, fun h => by rw [List.any_eq_true] at h31; obtain ⟨r, hr, h9⟩ := h31; rw [h.1 r hr] at h9; cases h9⟩, Nat.zero_le _, Nat.le_refl _, Nat.zero_le _⟩, rfl, (hw.pick [] (by decide) rfl).nilrow _ _⟩)
    refine TL.pk ?_
    refine zET (zd (zk (zT (zS ?_))))
    have hva : ∀ r ∈ l, vldRs r = true := fun r hr => by rw [List.any_eq_false] at h31; have := h31 r hr; simpa using this
    refine zG (TL.mv ?_)
    refine TL.pcallPm (α := {y : (Option Addr × Nat) × List Rs // OncP l y.2 ∧ y.2.length ≤ y.1.2 ∧ y.1.2 ≤ maxLen}) (fun x => .slice x.1.1.1 x.1.2.length x.1.1.2) (fun x => [.row (.slice x.1.1.1 x.1.2.length x.1.1.2) 65 17 x.1.2.length (flat Rs.cells x.1.2)]) rfl rfl rfl rfl rfl Tryz.func101 (by decide) rfl (fun w1 hw => results_any A0 c0 l w1 (hr.up hw.bel) hl1 hok) ?_
    rintro ⟨⟨⟨R34, rc34⟩, y34⟩, hP34, hR341, hR342⟩
    dsimp only [List.cons_append, List.nil_append]
    dsimp only at hP34 hR341 hR342 ⊢
    refine TL.pnew rfl rfl rfl (exec_alloc (cs := [.slice none 0 0]) rfl asezv23 rfl) (fun g10 => ?_)
    refine TL.pstore (k := 0) (vs := [.slice R34 y34.length rc34]) rfl rfl rfl rfl rfl rfl rfl mcosz23 dntone_s (by show 1 ≤ 1; decide) rfl ?_
    refine zET (zS (zSG (TL.v (gL 0 mcoag23) ?_)))
    refine TL.v (gN Tryz.underlying23) ?_
    refine TL.sp bin_gtr (fun q37 => ?_) (fun q37 => ?_)
    ·refine zET (zc (zSG (TL.rn 2 rfl (zET (zr (zR ?_))))))
     exact retM0_pair (v1 := .slice none 0 0) (v2 := .int .i64 5) Tryz.results44 rfl rfl (fun w1 hw => ⟨⟨(((none, 0), []), 5), .inr ⟨⟨hva, h26, h17, h21⟩, y34, hP34, .inl ⟨rfl, rfl, by omega⟩⟩, Nat.zero_le _, Nat.le_refl _, Nat.zero_le _⟩, rfl, (hw.pick [] (by decide) rfl).nilrow _ _⟩)
    refine zET (zd (zk (zT (zS (zSG (TL.v (gL 0 mcoag23) ?_))))))
    refine TL.v (gV 4 (.agg #[.slice A1 es.length c1]) breag26 bresz26) ?_
    refine TL.v (gV 3 (.agg (u.cells).toArray) aprag28 aprsz28) ?_
    refine TL.v (gV 2 (.agg (p.cells).toArray) aprag34 aprsz34) ?_
    refine TL.callsplit rfl rfl rfl rfl rfl Tryz.func37 (by decide) rfl (fun w1 hw => calls_p (proves_any R34 rc34 y34 A1 c1 es u p w1 (pm_rd hw (k := 1) rfl) (by omega) (fun r hr => hok r (onc_mem hP34 hr).1) (hr1.up hw.bel))) (fun h42 => ?_) (fun h42 => ?_)
    ·refine TL.val rfl rfl rfl (gives_boolnot rfl rfl) ?_
     refine zET (zd (zk (zT (zS (zSG (TL.v (gL 0 mcoag23) ?_))))))
     refine TL.pcallPm (α := Nat) (fun x => .func (.func 150) #[] #[.pointer (some ⟨x, 0, none⟩)]) (fun x => [.blk x 23 [.slice R34 y34.length rc34]]) rfl rfl rfl rfl rfl Tryz.func102 (by decide) rfl (fun w1 hw => backward_any R34 rc34 y34.length w1) ?_
     rintro gb
     dsimp only [List.cons_append, List.nil_append]
     refine zET (zB (TC.cut [(0, .slice A0 l.length c0), (5, .pointer (some ⟨g5, 0, none⟩)), (6, .pointer (some ⟨g6, 0, none⟩)), (7, .pointer (some ⟨g7, 0, none⟩)), (10, .pointer (some ⟨g10, 0, none⟩)), (45, .func (.func 150) #[] #[.pointer (some ⟨gb, 0, none⟩)])] (Pm w [.blk g10 23 [.slice R34 y34.length rc34], .row (.slice R34 y34.length rc34) 65 17 y34.length (flat Rs.cells y34), .blk gb 23 [.slice R34 y34.length rc34], .blk g7 34 p.cells, .blk g6 28 u.cells, .blk g5 26 [.slice A1 es.length c1]]) ⟨rfl, rfl, rfl, rfl, rfl, rfl, trivial⟩ (fun w1 hw => hw.pick [1, 2, 0, 3, 4, 5] (by decide) rfl) ?_))
     refine TC.rangeF3 (α := Fin y34.length) (σ := {z : Sg Rs × List Pc // noOth z.2 = true}) (lb := #[.pointer (some ⟨gb, 0, none⟩)]) 2 (by decide) ?_ Tryz.func150 (by decide) ?_ ?_ ?_ (fun x => .int .i64 ((x.1 : Nat) : Int)) (fun x => .agg (y34[x]).cells.toArray) (fun pre x => x.1 + pre.length + 1 = y34.length) (BkK gb R34 y34) (fun ys => ys = (List.finRange y34.length).reverse) (fun (pre : List (Fin y34.length)) (s : {z : Sg Rs × List Pc // noOth z.2 = true}) => s.1.1.l = pre.foldl (fun y i => mstep es u p y i.1) y34 ∧ y34.length ≤ s.1.1.l.length + pre.length ∧ s.1.1.l.length ≤ y34.length ∧ (∀ r ∈ s.1.1.l, r ∈ y34) ∧ s.1.1.l.length ≤ s.1.1.c ∧ s.1.1.c ≤ maxLen ∧ ∀ (B : Base) (w1 : World), Pm B ([.blk g10 23 [.slice s.1.1.A s.1.1.l.length s.1.1.c], .row (.slice R34 y34.length rc34) 65 17 y34.length (flat Rs.cells y34), .blk gb 23 [.slice R34 y34.length rc34], .blk g7 34 p.cells, .blk g6 28 u.cells, .blk g5 26 [.slice A1 es.length c1]] ++ s.1.2) w1 → Reads w1 w1.heap.size 17 s.1.1.A s.1.1.l.length (flat Rs.cells s.1.1.l)) (fun s => ([.blk g10 23 [.slice s.1.1.A s.1.1.l.length s.1.1.c], .row (.slice R34 y34.length rc34) 65 17 y34.length (flat Rs.cells y34), .blk gb 23 [.slice R34 y34.length rc34], .blk g7 34 p.cells, .blk g6 28 u.cells, .blk g5 26 [.slice A1 es.length c1]] ++ s.1.2)) ?_ ⟨(⟨R34, rc34, y34⟩, []), rfl⟩ ?_ ?_ (fun h1 h2 => h1.trans h2) (fun W q o o2 h1 h2 => BkK.put W q o o2 h1 h2) ?_ (fun x => (11, .int .i64 ((x.1 : Nat) : Int)) :: (47, .agg (y34[x]).cells.toArray) :: (46, .int .i64 ((x.1 : Nat) : Int)) :: [(0, .slice A0 l.length c0), (5, .pointer (some ⟨g5, 0, none⟩)), (6, .pointer (some ⟨g6, 0, none⟩)), (7, .pointer (some ⟨g7, 0, none⟩)), (10, .pointer (some ⟨g10, 0, none⟩)), (45, .func (.func 150) #[] #[.pointer (some ⟨gb, 0, none⟩)])]) ?_ ?_ ?_ ?_
     ·rfl
     ·rfl
     ·rfl
     ·rfl
     ·rintro ⟨⟨z, rows⟩, hno⟩
      exact hno
     ·exact ⟨rfl, Nat.le_refl _, Nat.le_refl _, fun r hr => hr, hR341, hR342, fun B w1 h9 => pm_rd h9 (k := 1) rfl⟩
     ·exact fun w1 hw => back_next 1 (Nat.le_refl _) gb R34 rc34 y34 (by omega) w1 (Pc.lt (hw.at_ (k := 2) rfl) gb rfl).2 (hw.cell (k := 2) rfl 0) (pm_rd hw (k := 1) rfl)
     ·intro s1 s2 b W1 W2 h1 h2
      exact ⟨fun v h3 => by
        have h4 := h1.cell (k := 2) rfl 0
        have h5 := h2.cell (k := 2) rfl 0
        have h6 : W1.cell? ⟨gb, 0, none⟩ = some (.slice R34 y34.length rc34) := h4
        rw [h6] at h3
        rw [← h3]; exact h5, fun _ => pm_rd h2 (k := 1) rfl⟩
     ·rfl
     ·exact fun x Q9 I9 h9 => TL.val rfl rfl rfl (gives_assign rfl rfl) (TL.end_ h9)
     ·rintro lr pre ⟨⟨z, rows⟩, hno⟩ x W ⟨hzf, hzn, hzo, hzm, hzc, hzx, hrd⟩ hx hWz
      dsimp only at hzf hzn hzo hzm hzc hzx hrd hx ⊢
      obtain ⟨i, hi⟩ := x
      dsimp only at hx ⊢
      have hzA : 0 < z.l.length → z.A = some ⟨adB z.A, adO z.A, none⟩ := fun h => (hrd _ _ hWz).addr h (by decide)
      have hWb : Below w.heap.size w W := hWz.bel
      refine TR.block ?_
      refine TR.seq_ ?_
      refine TR.held (ls := #[Ff,Ff,Ff,Ff,Ff,Ff,Ff,Ff,Ff,Ff]) (Pm ⟨W, w.heap.size⟩ ([.blk g10 23 [.slice z.A z.l.length z.c], .row (.slice R34 y34.length rc34) 65 17 y34.length (flat Rs.cells y34), .blk gb 23 [.slice R34 y34.length rc34], .blk g7 34 p.cells, .blk g6 28 u.cells, .blk g5 26 [.slice A1 es.length c1]] ++ rows)) (by kernel_rfl) rfl rfl (fun w hw => hw.drawn _) ?_
      refine TH.tk 0 rfl rfl rfl (gL 0 mcoag23) (fun w1 hw => hw) ?_
      refine TH.tk 1 rfl rfl rfl (gives_move rfl rfl) (fun w1 hw => hw) ?_
      refine TH.tk 2 rfl rfl rfl (gives_sliceH (v := .slice z.A i z.c) rfl rfl rfl (fun w => cut_hi Tryz.underlying23 prssz65 _ _ _ i rfl (by omega) w)) (fun w1 hw => hw) ?_
      refine TH.tk 3 rfl rfl rfl (gL 0 mcoag23) (fun w1 hw => hw) ?_
      refine TH.tk 4 rfl rfl rfl (gives_move rfl rfl) (fun w1 hw => hw) ?_
      refine TH.tk 5 rfl rfl rfl (gD ((i + 1 : Nat) : Int)) (fun w1 hw => hw) ?_
      refine TH.tk 6 rfl rfl rfl (gives_sliceL (v := .slice (if z.c = i + 1 then z.A else z.A.map (·.add ((i + 1) * 17))) (z.l.length - (i + 1)) (z.c - (i + 1))) rfl rfl rfl (fun w => cut_lo Tryz.underlying23 prssz65 _ _ _ (i + 1) rfl (by omega) w)) (fun w1 hw => hw) ?_
      refine TH.only' 7 rfl (by kernel_rfl) rfl ?_
      refine TL.prowS (e := 23) (size := 1) (cs := [.slice z.A i z.c, .slice (if z.c = i + 1 then z.A else z.A.map (·.add ((i + 1) * 17))) (z.l.length - (i + 1)) (z.c - (i + 1))]) rfl rfl rfl rfl rfl (fun w => mmibs45_2_32575 _ _ _ _ _ _ w) (by decide) rfl (fun g55 => ?_)
      refine zE ?_
      refine TX.held (fun w1 hw => hw.sel (.cons _ (.cons_cons _ (.cons_cons _ (.cons_cons _ (.cons_cons _ (.cons_cons _ (.cons_cons _ (List.Sublist.refl _))))))))) ?_
      refine TH.only' 8 rfl (by kernel_rfl) rfl ?_
      refine TL.pcallPm (α := {y : (Option Addr × Nat) × List Rs // y.2 = z.l.take i ++ z.l.drop (i + 1) ∧ y.2.length ≤ y.1.2 ∧ y.1.2 ≤ maxLen}) (fun x => .slice x.1.1.1 x.1.2.length x.1.1.2) (fun x => [.row (.slice x.1.1.1 x.1.2.length x.1.1.2) 65 17 x.1.2.length (flat Rs.cells x.1.2)]) rfl rfl rfl rfl rfl Tryz.func103 (by decide) rfl (fun w1 hw => conc2_any g55 2 z.A (if z.c = i + 1 then z.A else z.A.map (·.add ((i + 1) * 17))) i z.c (z.l.length - (i + 1)) (z.c - (i + 1)) (z.l.take i) (z.l.drop (i + 1)) (by rw [List.length_take]; omega) (by rw [List.length_drop]) w1 (pm_rd hw (k := 0) rfl) (Reads.headF rs_cel (hrd _ w1 (hw.sel (.cons _ (.cons_cons _ (.cons_cons _ (.cons_cons _ (.cons_cons _ (.cons_cons _ (.cons_cons _ (List.Sublist.refl _)))))))))) (by omega)) (Reads.tailF rs_cel (hrd _ w1 (hw.sel (.cons _ (.cons_cons _ (.cons_cons _ (.cons_cons _ (.cons_cons _ (.cons_cons _ (.cons_cons _ (List.Sublist.refl _)))))))))) (by omega) (by omega)) (by rw [List.length_take, List.length_drop]; omega)) ?_
      rintro ⟨⟨⟨R56, rc56⟩, cc56⟩, hP56, hR561, hR562⟩
      dsimp only [List.cons_append, List.nil_append]
      dsimp only at hP56 hR561 hR562 ⊢
      have R56l : cc56.length + 1 = z.l.length := by rw [hP56]; exact remI_len (by omega)
      refine zE ?_
      refine TX.he (fun w1 hw => hw.sel (.cons _ (.cons _ (.cons_cons _ (.cons_cons _ (.cons_cons _ (.cons_cons _ (.cons_cons _ (.cons_cons _ (List.Sublist.refl _)))))))))) fun hS => ?_
      refine TH.t 9 rfl (gives_assign rfl rfl) hS ?_
      refine TH.done (by kernel_rfl) ?_
      refine TX.thenR ?_
      refine TR.seq_ ?_
      refine TR.region_ ?_
      refine TL.mv ?_
      refine TL.v (gV 7 (.agg #[.slice A1 es.length c1]) breag26 bresz26) ?_
      refine TL.v (gV 6 (.agg (u.cells).toArray) aprag28 aprsz28) ?_
      refine TL.v (gV 5 (.agg (p.cells).toArray) aprag34 aprsz34) ?_
      refine TL.callsplit rfl rfl rfl rfl rfl Tryz.func37 (by decide) rfl (fun w1 hw => calls_p (proves_any R56 rc56 cc56 A1 c1 es u p w1 (pm_rd hw (k := 0) rfl) (by omega) (fun r hr => hok r (onc_mem hP34 (hzm r (remI_mem (by unfold remI; rw [← hP56]; exact hr)))).1) (hr1.up (hWb.trans hw.bel)))) (fun h61 => ?_) (fun h61 => ?_)
      ·refine zE ?_
       refine TX.thenR ?_
       refine TR.condT rfl ?_
       refine TR.region_ ?_
       refine TL.mv ?_
       refine TL.pstore (k := 2) (vs := [.slice R56 cc56.length rc56]) rfl rfl rfl rfl rfl rfl rfl mcosz23 dntone_s (by show 1 ≤ 1; decide) rfl ?_
       refine zE (zN ?_)
       exact TX.roundQ (fun w1 hw => ⟨⟨(⟨R56, rc56, cc56⟩, [.row (.slice R56 cc56.length rc56) 65 17 cc56.length (flat Rs.cells cc56)]), rfl⟩, ⟨by dsimp only; rw [List.foldl_append, ← hzf, hP56]; show _ = mstep es u p z.l i; unfold mstep; rw [if_pos (by unfold remI; rw [← hP56]; exact h61)]; rfl, by dsimp only; rw [List.length_append]; show _ ≤ _ + (pre.length + 1); omega, by dsimp only; omega, fun r hr => hzm r (remI_mem (by unfold remI; rw [← hP56]; exact hr)), hR561, hR562, fun B w1 h9 => pm_rd h9 (k := 6) rfl⟩, hw.pick [2, 3, 4, 5, 6, 7, 0] (by decide) rfl⟩)
      refine zE ?_
      refine TX.thenR ?_
      refine TR.condF rfl ?_
      refine TR.skip_ ?_
      refine zN ?_
      exact TX.roundQ (fun w1 hw => ⟨⟨(z, rows), hno⟩, ⟨by dsimp only; rw [List.foldl_append, ← hzf]; show _ = mstep es u p z.l i; unfold mstep; rw [if_neg (by rw [show remI z.l i = cc56 from hP56.symm, h61]; decide)], by dsimp only; rw [List.length_append]; show _ ≤ _ + (pre.length + 1); omega, hzo, hzm, hzc, hzx, hrd⟩, hw.sel (.cons _ (.cons _ (.cons_cons _ (.cons_cons _ (.cons_cons _ (.cons_cons _ (.cons_cons _ (.cons_cons _ (List.Sublist.refl _)))))))))⟩)
     rintro D ys ⟨⟨z, rows⟩, hno⟩ rfl ⟨hzf, hzn, hzo, hzm, hzc, hzx, hrd⟩
     dsimp only at hzf hzn hzo hzm hzc hzx hrd ⊢
     refine zN (zT (zSG (TL.as_ ?_)))
     refine zET (zS (zS (TC.fact (p := 0 < z.l.length → z.A = some ⟨adB z.A, adO z.A, none⟩) (fun w1 hw h => (hrd _ w1 (hw.sel (.cons _ (.cons_cons _ (.cons_cons _ (.cons_cons _ (.cons_cons _ (.cons_cons _ (.cons_cons _ (List.Sublist.refl _)))))))))).addr h (by decide)) (fun hzA => ?_))))
     refine zG (TL.v (gL 1 mcoag23) ?_)
     refine TL.v (gN Tryz.underlying23) ?_
     refine TL.mv ?_
     refine zET (zB (TC.nilrow 73 3 ?_))
     refine TC.loop_ (α := {y : Nat × (Option Addr × Nat) × List Idn // y.1 ≤ z.l.length ∧ (z.l.take y.1).map idnR = y.2.2 ∧ y.2.2.length ≤ y.2.1.2 ∧ y.2.1.2 ≤ maxLen}) (fun y => [(10, .pointer (some ⟨g10, 0, none⟩)), (63, .slice z.A z.l.length z.c), (64, .int .i64 (z.l.length : Nat)), (65, .int .i64 ((y.1.1 : Nat) : Int)), (13, .slice y.1.2.1.1 y.1.2.2.length y.1.2.1.2)]) (fun y => Pm w ([.row (.slice y.1.2.1.1 y.1.2.2.length y.1.2.1.2) 73 3 y.1.2.2.length (flat Idn.cells y.1.2.2), .oth D (.deferred (some [])), .blk g10 23 [.slice z.A z.l.length z.c], .row (.slice R34 y34.length rc34) 65 17 y34.length (flat Rs.cells y34), .blk gb 23 [.slice R34 y34.length rc34], .blk g7 34 p.cells, .blk g6 28 u.cells, .blk g5 26 [.slice A1 es.length c1]] ++ rows)) (fun y => z.l.length - y.1.1) (⟨(0, (none, 0), []), Nat.zero_le _, rfl, Nat.le_refl _, Nat.zero_le _⟩) ⟨rfl, rfl, rfl, rfl, rfl, trivial⟩ (fun w1 hw => hw) ?_
     rintro ⟨⟨i, ⟨Ai, ci⟩, ids⟩, hi, hids, hic, him⟩
     dsimp only at hi hids hic him ⊢
     have hil : ids.length ≤ 512 := by rw [← hids, List.length_map, List.length_take]; omega
     refine zSG ?_
     refine TL.sp bin_lss (fun q66 => ?_) (fun q66 => ?_)
     ·refine zET (zS (zc (zk (zT (zS (zB (zSG ?_)))))))
      have hi67 : i < z.l.length := by omega
      obtain ⟨x67, hx67⟩ := ex_at hi67
      have hA67 := hzA (by omega)
      refine TL.val rfl rfl rfl (gA (i := i) Tryz.underlying23 prssz65 rfl rfl rfl rfl hA67 (by omega)) ?_
      refine TL.val rfl rfl rfl (gives_loadR (off := (adO z.A) + i * 17) rfl rfl prsag65 prssz65 (rs_cel.len x67) (fun w1 hw j9 u9 h9 => reads_cell rs_cel (hrd _ w1 (hw.sel (.cons _ (.cons _ (.cons_cons _ (.cons_cons _ (.cons_cons _ (.cons_cons _ (.cons_cons _ (.cons_cons _ (List.Sublist.refl _))))))))))) hA67 hx67 j9 u9 h9)) ?_
      refine TL.pnew rfl rfl rfl (exec_alloc (cs := [.int .i64 0, .int .i64 0, .int .i64 0, .int .i64 0, .int .u32 0, .int .i64 0, .int .i64 0, .int .i64 0, .bool false, .bool false, .int .i64 0, .int .u32 0, .int .i64 0, .int .i64 0, .int .i64 0, .int .i64 0, .int .i64 0]) rfl arpzv65 rfl) (fun g15 => ?_)
      refine TL.pstore (k := 0) (vs := x67.cells) rfl rfl rfl rfl rfl rfl rfl prssz65 (rs_cel.one _) (by show 17 ≤ 17; decide) (L' := ([.blk g15 65 x67.cells, .row (.slice Ai ids.length ci) 73 3 ids.length (flat Idn.cells ids), .oth D (.deferred (some [])), .blk g10 23 [.slice z.A z.l.length z.c], .row (.slice R34 y34.length rc34) 65 17 y34.length (flat Rs.cells y34), .blk gb 23 [.slice R34 y34.length rc34], .blk g7 34 p.cells, .blk g6 28 u.cells, .blk g5 26 [.slice A1 es.length c1]] ++ rows)) rfl ?_
      refine zET (zG (TL.mv ?_))
      refine TL.v (gV 0 (.agg (x67.cells).toArray) prsag65 prssz65) ?_
      refine TL.pcall1 (r := .agg ((idnR x67).cells).toArray) rfl rfl rfl rfl rfl Tryz.func104 (by decide) rfl (fun w1 hw => idn_any x67 w1) ?_
      refine TL.prowS (e := 73) (size := 3) (cs := flat Idn.cells [idnR x67]) rfl rfl rfl rfl rfl (fun w => mmibs67_1_44646 _ _ _ w) (by decide) rfl (fun g72 => ?_)
      refine TL.appendT (k := 2) rfl rfl rfl rfl Tryz.underlying67 mmiel67 rfl rfl rfl (fun w1 hw => pm_reads hw (k := 0) rfl) (flat_one idn_cel _) (by show _ * 24 ≤ _; omega) ((ids ++ [idnR x67]).length) (by rw [List.length_append]; rfl) (flat Idn.cells (ids ++ [idnR x67])) ((flat_app _ _).symm) (fun A73 c73 hA731 hA732 => ?_)
      refine TL.as_ ?_
      refine zE (zN (zT (zG (TL.v (gD ((i + 1 : Nat) : Int)) ?_))))
      refine TL.mv ?_
      refine zE ?_
      exact TX.round (⟨(i + 1, (A73, c73), ids ++ [idnR x67]), by dsimp only; omega, mapt_snoc (f := idnR) hx67 hids, hA731, hA732⟩) (by show z.l.length - (i + 1) < z.l.length - i; omega) ⟨rfl, rfl, rfl, rfl, rfl, trivial⟩ (fun w1 hw => hw.sel (.cons _ (.cons _ (.cons_cons _ (.cons_cons _ (.cons_cons _ (.cons_cons _ (.cons_cons _ (.cons_cons _ (.cons_cons _ (.cons_cons _ (List.Sublist.refl _))))))))))))
     refine zET (zS (zd (zx (zX (zX (zM (zT (zS ?_))))))))
     have hidf : ids = (minS es u p y34).map idnR := by rw [List.take_of_length_le (by omega)] at hids; rw [← hids, hzf]; rfl
     refine zG (TL.rn 3 rfl (zET (zr ?_)))
     exact retM_pair (v1 := .slice Ai ids.length ci) (v2 := .int .i64 0) (D := D) Tryz.results44 rfl rfl rfl (fun w1 hw => (hw.at_ (k := 1) rfl).1) (fun w1 hw => ⟨⟨(((Ai, ci), ids), 0), .inr ⟨⟨hva, h26, h17, h21⟩, y34, hP34, .inr ⟨by omega, .inr ⟨rfl, pdec_iff.1 h42, hidf⟩⟩⟩, by dsimp only; omega, hic, him⟩, rfl, (pm_dfr hw (k := 1) rfl).pick [0] (by decide) rfl⟩)
    refine TL.val rfl rfl rfl (gives_boolnot rfl rfl) ?_
    refine zET (zc (zSG (TL.rn 2 rfl (zET (zr (zR ?_))))))
    exact retM0_pair (v1 := .slice none 0 0) (v2 := .int .i64 8) Tryz.results44 rfl rfl (fun w1 hw => ⟨⟨(((none, 0), []), 8), .inr ⟨⟨hva, h26, h17, h21⟩, y34, hP34, .inr ⟨by omega, .inl ⟨rfl, rfl, fun h => by rw [pdec_iff.2 h] at h42; cases h42⟩⟩⟩, Nat.zero_le _, Nat.le_refl _, Nat.zero_le _⟩, rfl, (hw.pick [] (by decide) rfl).nilrow _ _⟩)
   refine TL.rn 6 rfl (zET (zc (zSG (TL.rn 2 rfl (zET (zr (zR ?_)))))))
   exact retM0_pair (v1 := .slice none 0 0) (v2 := .int .i64 1) Tryz.results44 rfl rfl (fun w1 hw => ⟨⟨(((none, 0), []), 1), .inl ⟨rfl, rfl, fun h => by have h9 := h.2.1; rw [h26] at h9; cases h9⟩, Nat.zero_le _, Nat.le_refl _, Nat.zero_le _⟩, rfl, (hw.pick [] (by decide) rfl).nilrow _ _⟩)
  refine TL.rn 11 rfl (zET (zc (zSG (TL.rn 2 rfl (zET (zr (zR ?_)))))))
  exact retM0_pair (v1 := .slice none 0 0) (v2 := .int .i64 1) Tryz.results44 rfl rfl (fun w1 hw => ⟨⟨(((none, 0), []), 1), .inl ⟨rfl, rfl, fun h => by have h9 := h.2.2.2; rw [h21] at h9; cases h9⟩, Nat.zero_le _, Nat.le_refl _, Nat.zero_le _⟩, rfl, (hw.pick [] (by decide) rfl).nilrow _ _⟩)
 refine TL.rn 15 rfl (zET (zc (zSG (TL.rn 2 rfl (zET (zr (zR ?_)))))))
 exact retM0_pair (v1 := .slice none 0 0) (v2 := .int .i64 1) Tryz.results44 rfl rfl (fun w1 hw => ⟨⟨(((none, 0), []), 1), .inl ⟨rfl, rfl, fun h => by have h9 := h.2.2.1; rw [h17] at h9; cases h9⟩, Nat.zero_le _, Nat.le_refl _, Nat.zero_le _⟩, rfl, (hw.pick [] (by decide) rfl).nilrow _ _⟩)
set_option maxRecDepth 20000
def WoP (l : List Rs) (ids : List Idn) (y : List Rs) : Prop := ∃ o, OncP l o ∧ y = o.filter fun r => decide (idnR r ∉ ids)
theorem onc_le {l y : List Rs} (h : OncP l y) : y.length ≤ l.length := by
 obtain ⟨o, h1, rfl⟩ := h
 exact Nat.le_trans (onF_le o) h1.le
theorem mwoag67 (w : World) : (isAgg 67).run Tryz.prog w = .ok false w := rfl
theorem idxI_any (A1 : Option Addr) (c1 : Nat) (ids : List Idn) (a : Idn) (w : World) (hr1 : Reads w w.heap.size 3 A1 ids.length (flat Idn.cells ids)) (hi1 : ids.length ≤ 100000) :
  Calls Tryz.prog 152 #[.slice A1 ids.length c1, .agg a.cells.toArray] w fun e w' => ∃ x : {z : Int // (z = -1 ∧ a ∉ ids) ∨ (0 ≤ z ∧ a ∈ ids)}, e = .returned (.int .i64 x.1) ∧ Below w.heap.size w w' := by
 refine begin_ (vs := [.slice A1 ids.length c1, .agg a.cells.toArray]) Tryz.func152 rfl rfl rfl ?_ (Pm.start w)
 refine zSG ?_
 refine TL.pnew rfl rfl rfl (exec_box (cs := a.cells) rfl rfl rfl) (fun g3 => ?_)
 refine TL.as_ ?_
 refine zET (zS (zSG (TL.mv ?_)))
 refine TL.v (gN Tryz.underlying67) ?_
 refine TL.mv ?_
 refine zET (zB ?_)
 refine TC.loop_ (α := {i : Nat // i ≤ ids.length ∧ ∀ z ∈ ids.take i, ¬ z = a}) (fun y => [(0, .slice A1 ids.length c1), (3, .pointer (some ⟨g3, 0, none⟩)), (7, .int .i64 (ids.length : Nat)), (8, .int .i64 ((y.1 : Nat) : Int))]) (fun y => Pm w [.blk g3 73 a.cells]) (fun y => ids.length - y.1) (⟨0, Nat.zero_le _, fun z hz => by rw [List.take_zero] at hz; cases hz⟩) ⟨rfl, rfl, rfl, rfl, trivial⟩ (fun w1 hw => hw) ?_
 rintro ⟨i, hi, hall⟩
 try dsimp only at hi hall ⊢
 refine zSG ?_
 refine TL.vsplit rfl rfl rfl (gives_bin rfl rfl rfl (fun w => bin_lss w)) (fun h9 => ?_) (fun h9 => ?_)
 ·have q9 := of_decide_eq_true h9
  refine zET (zS (zc (zk (zT (zS (zB (zSG (TL.rn 2 rfl (zET (zS (TC.quietQ (by kernel_rfl) (by kernel_rfl) (fun w hw => hw.drawn _) ?_)))))))))))
  refine TQ.v (gV 0 (.agg (a.cells).toArray) pofag73 prssz73) ?_
  refine TQ.rn 2 rfl ?_
  have hi14 : i < ids.length := by omega
  obtain ⟨x14, hx14⟩ := ex_at hi14
  obtain ⟨b14, o14, hA14, hbb14, hc14⟩ := hr1.ad (by omega) (by decide)
  refine TQ.val rfl rfl rfl (gA (i := i) Tryz.underlying67 prssz73 rfl rfl rfl rfl hA14 (by omega)) ?_
  refine TQ.v (gR idn_cel pofag73 prssz73 hbb14 hx14 hc14) ?_
  refine TQ.vsplit rfl rfl rfl (gives_bin2 rfl rfl rfl (fun w => idn_eql a x14 _ _ w)) (fun h16 => ?_) (fun h16 => ?_)
  ·have q16 := of_decide_eq_true h16
   refine TQ.fin ?_
   refine zT (zc (zSG (TL.rn 2 rfl (zET (zr (zRR (zR (zRR ?_))))))))
   exact ret_tmp Tryz.results152 rfl (fun w1 hw => ⟨⟨(i : Int), .inr ⟨by omega, by rw [q16]; exact List.mem_of_getElem? hx14⟩⟩, rfl, hw.bel⟩)
  have q16 := of_decide_eq_false h16
  refine TQ.fin ?_
  refine zT (zd (zk (zN (zT (zG (TL.v (gD ((i + 1 : Nat) : Int)) ?_))))))
  refine TL.mv ?_
  refine zE ?_
  exact TX.round (⟨i + 1, by omega, not_snoc hall hx14 (fun h => q16 h.symm)⟩) (by show ids.length - (i + 1) < ids.length - i; omega) ⟨rfl, rfl, rfl, rfl, trivial⟩ (fun w1 hw => hw)
 have q9 := of_decide_eq_false h9
 refine zET (zS (zd (zx (zX (zX (zM (zT (zSG (TL.as_ ?_)))))))))
 refine zET (zr ?_)
 exact ret_tmp Tryz.results152 rfl (fun w1 hw => ⟨⟨-1, .inl ⟨rfl, fun h => by rw [List.take_of_length_le (by omega)] at hall; exact hall a h rfl⟩⟩, rfl, hw.bel⟩)
theorem contI_any (A1 : Option Addr) (c1 : Nat) (ids : List Idn) (a : Idn) (w : World) (hr1 : Reads w w.heap.size 3 A1 ids.length (flat Idn.cells ids)) (hi1 : ids.length ≤ 100000) :
  Calls Tryz.prog 110 #[.slice A1 ids.length c1, .agg a.cells.toArray] w fun e w' => e = .returned (.bool (decide (a ∈ ids))) ∧ Below w.heap.size w w' := by
 refine begin_ (vs := [.slice A1 ids.length c1, .agg a.cells.toArray]) Tryz.func110 rfl rfl rfl ?_ (Pm.start w)
 refine zSG ?_
 refine TL.pnew rfl rfl rfl (exec_box (cs := a.cells) rfl rfl rfl) (fun g3 => ?_)
 refine TL.as_ ?_
 refine zET (zSG (TL.mv ?_))
 refine TL.v (gV 0 (.agg (a.cells).toArray) pofag73 prssz73) ?_
 refine TL.pcallPm (α := {z : Int // (z = -1 ∧ a ∉ ids) ∨ (0 ≤ z ∧ a ∈ ids)}) (fun x => .int .i64 x.1) (fun x => []) rfl rfl rfl rfl rfl Tryz.func152 (by decide) rfl (fun w1 hw => (idxI_any A1 c1 ids a w1 (hr1.up hw.bel) hi1).mono fun en w2 ⟨x, h1, h2⟩ => ⟨x, h1, (Pm.start w1).below h2⟩) ?_
 rintro ⟨z, hz⟩
 dsimp only [List.cons_append, List.nil_append]
 refine TL.sp bin_geq (fun q8 => ?_) (fun q8 => ?_)
 ·refine TL.as_ ?_
  refine zET (zr ?_)
  exact ret_tmp Tryz.results110 rfl (fun w1 hw => ⟨by rw [decide_eq_true (hz.elim (fun h => absurd h.1 (by omega)) (fun h => h.2))], hw.bel⟩)
 refine TL.as_ ?_
 refine zET (zr ?_)
 exact ret_tmp Tryz.results110 rfl (fun w1 hw => ⟨by rw [decide_eq_false (hz.elim (fun h => h.2) (fun h => absurd h.1 (by omega)))], hw.bel⟩)
theorem wo1_any (A1 : Option Addr) (c1 : Nat) (ids : List Idn) (x : Rs) (g : Nat) (w : World) (hr1 : Reads w w.heap.size 3 A1 ids.length (flat Idn.cells ids)) (hi1 : ids.length ≤ 100000) (hg : g < w.heap.size) (hc : w.cell? ⟨g, 0, none⟩ = some (.slice A1 ids.length c1)) :
  Calls Tryz.prog 109 #[.agg x.cells.toArray, .pointer (some ⟨g, 0, none⟩)] w fun e w' => e = .returned (.bool (decide (idnR x ∈ ids))) ∧ Below w.heap.size w w' := by
 refine begin_ (vs := [.agg x.cells.toArray, .pointer (some ⟨g, 0, none⟩)]) Tryz.func109 rfl rfl rfl ?_ (Pm.start w)
 refine zSG ?_
 refine TL.pnew rfl rfl rfl (exec_box (cs := x.cells) rfl rfl rfl) (fun g2 => ?_)
 refine TL.as_ ?_
 refine zET (zS (TC.held (ls := #[Ff,Ff,Ff,Ff,Ff]) (Pm w [.blk g2 65 x.cells]) (by kernel_rfl) rfl rfl (fun w hw => hw.drawn _) ?_))
 refine TH.tk 0 rfl rfl rfl (gives_load (v := .slice A1 ids.length c1) rfl rfl mwoag67 (fun w1 hw => (hw.bel.cell hg).trans hc)) (fun w1 hw => hw) ?_
 refine TH.tk 1 rfl rfl rfl (gV 0 (.agg (x.cells).toArray) prsag65 prssz65) (fun w1 hw => hw) ?_
 refine TH.only' 2 rfl (by kernel_rfl) rfl ?_
 refine TL.pcall1 (r := .agg ((idnR x).cells).toArray) rfl rfl rfl rfl rfl Tryz.func104 (by decide) rfl (fun w1 hw => idn_any x w1) ?_
 refine zE ?_
 refine TX.held (fun w1 hw => hw) ?_
 refine TH.only' 3 rfl (by kernel_rfl) rfl ?_
 refine TL.pcall1 (r := .bool (decide (idnR x ∈ ids))) rfl rfl rfl rfl rfl Tryz.func110 (by decide) rfl (fun w1 hw => contI_any A1 c1 ids (idnR x) w1 (hr1.up hw.bel) hi1) ?_
 refine zE ?_
 refine TX.he (fun w1 hw => hw) fun hS => ?_
 refine TH.t 4 rfl (gives_assign rfl rfl) hS ?_
 refine TH.done (by kernel_rfl) ?_
 refine zT (zr ?_)
 exact ret_tmp Tryz.results109 rfl (fun w1 hw => ⟨rfl, hw.bel⟩)
theorem without_any (A0 : Option Addr) (c0 : Nat) (l : List Rs) (A1 : Option Addr) (c1 : Nat) (ids : List Idn) (w : World) (hr : Reads w w.heap.size 17 A0 l.length (flat Rs.cells l)) (hl1 : l.length ≤ 100000) (hok : ∀ r ∈ l, r.Ok) (hr1 : Reads w w.heap.size 3 A1 ids.length (flat Idn.cells ids)) (hi1 : ids.length ≤ 100000) :
  Calls Tryz.prog 56 #[.slice A0 l.length c0, .slice A1 ids.length c1] w fun e w' => ∃ x : {y : (Option Addr × Nat) × List Rs // WoP l ids y.2 ∧ y.2.length ≤ y.1.2 ∧ y.1.2 ≤ maxLen}, e = .returned (.slice x.1.1.1 x.1.2.length x.1.1.2) ∧ Pm w [.row (.slice x.1.1.1 x.1.2.length x.1.1.2) 65 17 x.1.2.length (flat Rs.cells x.1.2)] w' := by
 refine begin_ (vs := [.slice A0 l.length c0, .slice A1 ids.length c1]) Tryz.func56 rfl rfl rfl ?_ (Pm.start w)
 refine zSG ?_
 refine TL.pnew rfl rfl rfl (exec_box (cs := [.slice A1 ids.length c1]) rfl rfl rfl) (fun g3 => ?_)
 refine TL.as_ ?_
 refine zET (zSG (TL.mv ?_))
 refine TL.pcallPm (α := {y : (Option Addr × Nat) × List Rs // OncP l y.2 ∧ y.2.length ≤ y.1.2 ∧ y.1.2 ≤ maxLen}) (fun x => .slice x.1.1.1 x.1.2.length x.1.1.2) (fun x => [.row (.slice x.1.1.1 x.1.2.length x.1.1.2) 65 17 x.1.2.length (flat Rs.cells x.1.2)]) rfl rfl rfl rfl rfl Tryz.func101 (by decide) rfl (fun w1 hw => results_any A0 c0 l w1 (hr.up hw.bel) hl1 hok) ?_
 rintro ⟨⟨⟨R6, rc6⟩, y6⟩, hP6, hR61, hR62⟩
 dsimp only [List.cons_append, List.nil_append]
 dsimp only at hP6 hR61 hR62 ⊢
 refine TL.val rfl rfl rfl (gives_makeFunc rfl rfl rfl) ?_
 have hyl := onc_le hP6
 refine TL.call (α := Unit) (r := fun _ => .slice R6 ((y6.filter fun r => !((fun x : Rs => decide (idnR x ∈ ids)) r)).length) rc6) (I' := fun _ => Pm w [.row (.slice R6 ((y6.filter fun r => !((fun x : Rs => decide (idnR x ∈ ids)) r)).length) rc6) 65 17 ((y6.filter fun r => !((fun x : Rs => decide (idnR x ∈ ids)) r)).length) (flat Rs.cells (y6.filter fun r => !((fun x : Rs => decide (idnR x ∈ ids)) r))), .blk g3 67 [.slice A1 ids.length c1]]) rfl rfl rfl rfl rfl Tryz.func108 (by decide) rfl (fun w1 hw => (delG_any w [.blk g3 67 [.slice A1 ids.length c1]] R6 rc6 y6 (fun x : Rs => decide (idnR x ∈ ids)) 109 _ #[.pointer (some ⟨g3, 0, none⟩)] w1 (hw) (by omega) (by omega) (by omega) Tryz.func109 (by decide) rfl (fun x w1 ⟨L1, h9⟩ => (by have h8 : Pm w [.blk g3 67 [.slice A1 ids.length c1]] w1 := h9.sel (List.sublist_append_right L1 _); exact wo1_any A1 c1 ids x g3 w1 (hr1.up h8.bel) hi1 (Pc.lt (h8.at_ (k := 0) rfl) g3 rfl).2 (h8.cell (k := 0) rfl 0)))).mono fun en w2 ⟨h1, h2⟩ => ⟨(), h1, h2⟩) (fun _ => ?_)
 refine TL.as_ ?_
 refine zET (zr ?_)
 have hE : (y6.filter fun r => !((fun x : Rs => decide (idnR x ∈ ids)) r)) = y6.filter fun r => decide (idnR r ∉ ids) := by simp
 exact ret_tmp Tryz.results56 rfl (fun w1 hw => ⟨⟨((R6, rc6), y6.filter fun r => !((fun x : Rs => decide (idnR x ∈ ids)) r)), ⟨y6, hP6, hE⟩, Nat.le_trans (List.length_filter_le _ _) hR61, hR62⟩, rfl, hw.pick [0] (by decide) rfl⟩)
set_option maxRecDepth 20000
theorem find_in {u : Idn} : ∀ (h p : List Rs) (v : Rs × Bool), (v.2 = true → v.1 ∈ p ∧ vldRs v.1 = true ∧ idnR v.1 = u) → (h.foldl (stepF u) v).2 = true → (h.foldl (stepF u) v).1 ∈ p ++ h ∧ vldRs (h.foldl (stepF u) v).1 = true ∧ idnR (h.foldl (stepF u) v).1 = u
 | [], p, v, hv, h2 => by rw [List.append_nil]; exact hv h2
 | r :: h, p, v, hv, h2 => by
  have := find_in h (p ++ [r]) (stepF u v r) (fun h3 => by
   unfold stepF at h3 ⊢
   split at h3
   ·rename_i hf
    rw [if_pos hf]
    unfold fitF at hf
    simp only [Bool.and_eq_true, decide_eq_true_eq] at hf
    exact ⟨List.mem_append_right _ (List.mem_singleton.2 rfl), hf.2, hf.1.1⟩
   rename_i hf
   rw [if_neg hf]
   exact ⟨List.mem_append_left _ (hv h3).1, (hv h3).2⟩) h2
  rwa [List.append_assoc] at this
theorem findS_in {l : List Rs} {u : Idn} (h : (findS l u).2 = true) : (findS l u).1 ∈ l ∧ vldRs (findS l u).1 = true ∧ idnR (findS l u).1 = u := find_in l [] (Rs.zero, false) (fun h => by cases h) h
def ownS (l : List Rs) (ids : List Idn) : List Rs := ids.map fun a => (findS l a).1
def CkP (es : List En) (l : List Rs) (u : Ru) (p : Rp) (ids : List Idn) : Prop := (∀ a ∈ ids, (findS l a).2 = true) ∧ ids.Nodup ∧ PrP es (ownS l ids) u p ∧ ∀ i, i < (ownS l ids).length → ¬ PrP es (remI (ownS l ids) i) u p
theorem nodup_snoc {ids : List Idn} {i : Nat} {x : Idn} (hx : ids[i]? = some x) (h : (ids.take i).Nodup) (hn : x ∉ ids.take i) : (ids.take (i + 1)).Nodup := by
 rw [List.take_add_one, hx]
 exact List.nodup_append.2 ⟨h, by simp, fun a ha b hb => by
  rw [Option.toList, List.mem_singleton] at hb
  subst hb
  exact fun e => hn (e ▸ ha)⟩
theorem nodup_not {ids : List Idn} {i : Nat} {x : Idn} (hx : ids[i]? = some x) (hm : x ∈ ids.take i) : ¬ ids.Nodup := fun h => by
 obtain ⟨q, hq⟩ := List.getElem?_of_mem hm
 have hq2 : q < i := by have := (List.getElem?_eq_some_iff.1 hq).1; rw [List.length_take] at this; omega
 rw [List.getElem?_take_of_lt hq2] at hq
 obtain ⟨h1, g1⟩ := List.getElem?_eq_some_iff.1 hq
 obtain ⟨h2, g2⟩ := List.getElem?_eq_some_iff.1 hx
 exact (List.pairwise_iff_getElem.1 h) q i h1 h2 hq2 (g1.trans g2.symm)
theorem own_snoc {l : List Rs} {ids : List Idn} {i : Nat} {x : Idn} {own : List Rs} {fr : Rs} (h : ownS l (ids.take i) = own) (hx : ids[i]? = some x) (hf : (findS l x).1 = fr) : ownS l (ids.take (i + 1)) = own ++ [fr] := by
 unfold ownS at h ⊢
 rw [List.take_add_one, hx, List.map_append, h, ← hf]; rfl
theorem all_snoc {l : List Rs} {ids : List Idn} {i : Nat} {x : Idn} (h : ∀ a ∈ ids.take i, (findS l a).2 = true) (hx : ids[i]? = some x) (hf : (findS l x).2 = true) : ∀ a ∈ ids.take (i + 1), (findS l a).2 = true := fun a ha => by
 rcases (mem_take_snoc hx).1 ha with h1 | h1
 ·exact h a h1
 rw [h1]; exact hf
theorem check42_x (A0 : Option Addr) (c0 : Nat) (l : List Rs) (A1 : Option Addr) (c1 : Nat) (es : List En) (u : Ru) (p : Rp) (A2 : Option Addr) (c2 : Nat) (ids : List Idn) (w : World) (hr : Reads w w.heap.size 17 A0 l.length (flat Rs.cells l)) (hl1 : l.length ≤ 100000) (hok : ∀ r ∈ l, r.Ok) (hr1 : Reads w w.heap.size 5 A1 es.length (flat En.cells es)) (hr2 : Reads w w.heap.size 3 A2 ids.length (flat Idn.cells ids)) (hi1 : ids.length ≤ 10000) :
  Calls Tryz.prog 46 #[.slice A0 l.length c0, .agg #[.slice A1 es.length c1], .agg u.cells.toArray, .agg p.cells.toArray, .slice A2 ids.length c2] w fun e w' => ∃ x : {b : Bool // b = true ↔ CkP es l u p ids}, e = .returned (.bool x.1) ∧ Below w.heap.size w w' := by
 refine begin_ (vs := [.slice A0 l.length c0, .agg #[.slice A1 es.length c1], .agg u.cells.toArray, .agg p.cells.toArray, .slice A2 ids.length c2]) Tryz.func46 rfl rfl rfl ?_ (Pm.start w)
 refine zSG ?_
 refine TL.pnew rfl rfl rfl (exec_box (cs := [.slice A1 es.length c1]) rfl rfl rfl) (fun g6 => ?_)
 refine TL.pnew rfl rfl rfl (exec_box (cs := u.cells) rfl rfl rfl) (fun g7 => ?_)
 refine TL.pnew rfl rfl rfl (exec_box (cs := p.cells) rfl rfl rfl) (fun g8 => ?_)
 refine TL.as_ ?_
 refine zET (zSG (TL.as_ ?_))
 refine zET (zSG ?_)
 refine TL.mkmap rfl rfl rfl rfl (fun gm hgm => ?_)
 refine TL.as_ ?_
 refine zET (zS (zSG (TL.mv ?_)))
 refine TL.v (gN Tryz.underlying67) ?_
 refine TL.mv ?_
 refine zET (zB (TC.nilrow 65 17 ?_))
 refine TC.loop_ (α := {y : Nat × (Option Addr × Nat) × List Rs × Obj // y.1 ≤ ids.length ∧ ownS l (ids.take y.1) = y.2.2.1 ∧ (∀ a ∈ ids.take y.1, (findS l a).2 = true) ∧ (ids.take y.1).Nodup ∧ IdM y.2.2.2 (ids.take y.1) ∧ y.2.2.1.length ≤ y.2.1.2 ∧ y.2.1.2 ≤ maxLen}) (fun y => [(0, .slice A0 l.length c0), (6, .pointer (some ⟨g6, 0, none⟩)), (7, .pointer (some ⟨g7, 0, none⟩)), (8, .pointer (some ⟨g8, 0, none⟩)), (12, .map (some gm)), (19, .slice A2 ids.length c2), (20, .int .i64 (ids.length : Nat)), (21, .int .i64 ((y.1.1 : Nat) : Int)), (11, .slice y.1.2.1.1 y.1.2.2.1.length y.1.2.1.2)]) (fun y => Pm w [.row (.slice y.1.2.1.1 y.1.2.2.1.length y.1.2.1.2) 65 17 y.1.2.2.1.length (flat Rs.cells y.1.2.2.1), .oth gm y.1.2.2.2, .blk g8 34 p.cells, .blk g7 28 u.cells, .blk g6 26 [.slice A1 es.length c1]]) (fun y => ids.length - y.1.1) (⟨(0, (none, 0), [], .map #[] 0), Nat.zero_le _, rfl, fun a ha => absurd ha List.not_mem_nil, List.nodup_nil, IdM.new, Nat.le_refl _, Nat.zero_le _⟩) ⟨rfl, rfl, rfl, rfl, rfl, rfl, rfl, rfl, rfl, trivial⟩ (fun w1 hw => hw) ?_
 rintro ⟨⟨i, ⟨Ao, co⟩, own, om⟩, hi, hown, hall, hnd, hM, hoc, hom⟩
 dsimp only at hi hown hall hnd hM hoc hom ⊢
 obtain ⟨fm, hmf, hff⟩ := id hM
 have hol : own.length ≤ 10000 := by rw [← hown]; unfold ownS; rw [List.length_map, List.length_take]; omega
 refine zSG ?_
 refine TL.sp bin_lss (fun q22 => ?_) (fun q22 => ?_)
 ·refine zET (zS (zc (zk (zT (zS (zB (zSG ?_)))))))
  have hi23 : i < ids.length := by omega
  obtain ⟨x23, hx23⟩ := ex_at hi23
  obtain ⟨b23, o23, hA23, hbb23, hc23⟩ := hr2.ad (by omega) (by decide)
  refine TL.val rfl rfl rfl (gA (i := i) Tryz.underlying67 prssz73 rfl rfl rfl rfl hA23 (by omega)) ?_
  refine TL.v (gR idn_cel pofag73 prssz73 hbb23 hx23 hc23) ?_
  refine TL.pnew rfl rfl rfl (exec_alloc (cs := [.int .i64 0, .int .i64 0, .int .i64 0]) rfl prszv73 rfl) (fun g14 => ?_)
  refine TL.pstore (k := 0) (vs := x23.cells) rfl rfl rfl rfl rfl rfl rfl prssz73 (by first | exact idn_cel.one _ | exact ru_cel.one _) (by show 3 ≤ 3; decide) (L' := [.blk g14 73 x23.cells, .row (.slice Ao own.length co) 65 17 own.length (flat Rs.cells own), .oth gm om, .blk g8 34 p.cells, .blk g7 28 u.cells, .blk g6 26 [.slice A1 es.length c1]]) rfl ?_
  refine zET (zS ?_)
  have hxk : (findS l x23).2 = true → x23.Ok := fun h => by have h9 := findS_in h; rw [← h9.2.2]; exact idn_ok h9.2.1
  obtain ⟨fr, hfr⟩ : ∃ r, (findS l x23).1 = r := ⟨_, rfl⟩
  obtain ⟨fb, hfb⟩ : ∃ b, (findS l x23).2 = b := ⟨_, rfl⟩
  obtain ⟨mb, hmb⟩ : ∃ b, decide (x23 ∈ ids.take i) = b := ⟨_, rfl⟩
  refine zG (TL.mv ?_)
  refine TL.v (gV 0 (.agg (x23.cells).toArray) pofag73 prssz73) ?_
  refine TL.pcall1 (r := .tuple #[.agg (fr.cells).toArray, .bool fb]) rfl rfl rfl rfl rfl Tryz.func105 (by decide) rfl (fun w1 hw => (by have h9 := find_any A0 c0 l x23 w1 (hr.up hw.bel) hl1; rw [hfr, hfb] at h9; exact h9)) ?_
  refine TL.rn 3 rfl ?_
  refine TL.pnew rfl rfl rfl (exec_alloc (cs := [.int .i64 0, .int .i64 0, .int .i64 0, .int .i64 0, .int .u32 0, .int .i64 0, .int .i64 0, .int .i64 0, .bool false, .bool false, .int .i64 0, .int .u32 0, .int .i64 0, .int .i64 0, .int .i64 0, .int .i64 0, .int .i64 0]) rfl arpzv65 rfl) (fun g15 => ?_)
  refine TL.pstore (k := 0) (vs := fr.cells) rfl rfl rfl rfl rfl rfl rfl prssz65 (rs_cel.one _) (by show 17 ≤ 17; decide) (L' := [.blk g15 65 fr.cells, .blk g14 73 x23.cells, .row (.slice Ao own.length co) 65 17 own.length (flat Rs.cells own), .oth gm om, .blk g8 34 p.cells, .blk g7 28 u.cells, .blk g6 26 [.slice A1 es.length c1]]) rfl ?_
  refine TL.as_ ?_
  refine zET (zS (zSG (TL.mv ?_)))
  cases fb with
  | true =>
   refine TL.rn 3 rfl (TL.ov (gV 1 (.agg (x23.cells).toArray) pofag73 prssz73) ?_)
   refine TL.gu ?_
   refine TL.val rfl rfl rfl (gives_lookG (i := 3) (a := x23) (v := .bool mb) rfl rfl rfl idn_key Tryz.underlying141 (fun w => rfl) rfl hmf (hxk hfb) (by rw [hff _ (hxk hfb), hmb])) ?_
   cases mb with
   | true =>
    refine TL.pk ?_
    refine zET (zc (zSG (TL.as_ ?_)))
    refine zET (zr (zR (zRR (zR (zRR ?_)))))
    exact ret_tmp Tryz.results46 rfl (fun w1 hw => ⟨⟨false, fun h => (by cases h), fun h => absurd h.2.1 (nodup_not hx23 (of_decide_eq_true hmb))⟩, rfl, hw.bel⟩)
   | false =>
    refine TL.pk ?_
    refine zET (zd (zk (zT (zSG (TL.mv ?_)))))
    refine TL.v (gV 1 (.agg (x23.cells).toArray) pofag73 prssz73) ?_
    refine TL.mapsetG (enc := fun s : Idn => .agg s.cells.toArray) (a := x23) (i := 3) rfl rfl rfl rfl rfl rfl idn_key Tryz.underlying141 rfl hgm hmf (hxk hfb) (fun ob2 hm2 => ?_)
    try dsimp only [List.set_cons_zero, List.set_cons_succ]
    refine zET (zG (TL.mv ?_))
    refine TL.v (gV 0 (.agg (fr.cells).toArray) prsag65 prssz65) ?_
    refine TL.prowS (e := 65) (size := 17) (cs := flat Rs.cells [fr]) rfl rfl rfl rfl rfl (fun w => porbs23_1_99505 _ _ _ _ _ _ _ _ _ _ _ _ _ _ _ _ _ w) (by decide) rfl (fun g42 => ?_)
    refine TL.appendT (k := 3) rfl rfl rfl rfl Tryz.underlying23 porel23 rfl rfl rfl (fun w1 hw => pm_reads hw (k := 0) rfl) (flat_one rs_cel _) (by show _ * 128 ≤ _; omega) ((own ++ [fr]).length) (by rw [List.length_append]; rfl) (flat Rs.cells (own ++ [fr])) ((flat_app _ _).symm) (fun A43 c43 hA431 hA432 => ?_)
    refine TL.as_ ?_
    refine zE (zN (zT (zG (TL.v (gD ((i + 1 : Nat) : Int)) ?_))))
    refine TL.mv ?_
    refine zE ?_
    exact TX.round (⟨(i + 1, (A43, c43), own ++ [fr], ob2), by dsimp only; omega, own_snoc hown hx23 hfr, all_snoc hall hx23 hfb, nodup_snoc hx23 hnd (of_decide_eq_false hmb), by dsimp only; rw [List.take_add_one, hx23]; exact IdM.set hff hm2, hA431, hA432⟩) (by show ids.length - (i + 1) < ids.length - i; omega) ⟨rfl, rfl, rfl, rfl, rfl, rfl, rfl, rfl, rfl, trivial⟩ (fun w1 hw => hw.pick [3, 4, 5, 6, 7] (by decide) rfl)
  | false =>
   refine TL.rn 6 rfl (zET (zc (zSG (TL.as_ ?_))))
   refine zET (zr (zR (zRR (zR (zRR ?_)))))
   exact ret_tmp Tryz.results46 rfl (fun w1 hw => ⟨⟨false, fun h => (by cases h), fun h => by have h9 := h.1 x23 (List.mem_of_getElem? hx23); rw [hfb] at h9; cases h9⟩, rfl, hw.bel⟩)
 refine zET (zS (zd (zx (zX (zX (zM (zT (zS (zS ?_)))))))))
 have hown2 : own = ownS l ids := by rw [List.take_of_length_le (by omega)] at hown; exact hown.symm
 have hall2 : ∀ a ∈ ids, (findS l a).2 = true := by rw [List.take_of_length_le (by omega)] at hall; exact hall
 have hnd2 : ids.Nodup := by rw [List.take_of_length_le (by omega)] at hnd; exact hnd
 have hownok : ∀ r ∈ own, r.Ok := fun r hr => by rw [hown2] at hr; obtain ⟨a, ha, rfl⟩ := List.mem_map.1 hr; exact hok _ (findS_in (hall2 a ha)).1
 refine zG (TL.mv ?_)
 refine TL.v (gV 4 (.agg #[.slice A1 es.length c1]) breag26 bresz26) ?_
 refine TL.v (gV 3 (.agg (u.cells).toArray) aprag28 aprsz28) ?_
 refine TL.v (gV 2 (.agg (p.cells).toArray) aprag34 aprsz34) ?_
 refine TL.callsplit rfl rfl rfl rfl rfl Tryz.func37 (by decide) rfl (fun w1 hw => calls_p (proves_any Ao co own A1 c1 es u p w1 (pm_rd hw (k := 0) rfl) (by omega) hownok (hr1.up hw.bel))) (fun h49 => ?_) (fun h49 => ?_)
 ·refine TL.val rfl rfl rfl (gives_boolnot rfl rfl) ?_
  refine zET (zd (zk (zT (zS (zSG (TL.mv ?_))))))
  refine TL.v (gN Tryz.underlying23) ?_
  refine TL.mv ?_
  refine zET (zB (TC.loop_ (α := {j : Nat // j ≤ own.length ∧ ∀ q, q < j → ¬ PrP es (remI own q) u p}) (fun y => [(6, .pointer (some ⟨g6, 0, none⟩)), (7, .pointer (some ⟨g7, 0, none⟩)), (8, .pointer (some ⟨g8, 0, none⟩)), (11, .slice Ao own.length co), (51, .slice Ao own.length co), (52, .int .i64 (own.length : Nat)), (53, .int .i64 ((y.1 : Nat) : Int))]) (fun y => Pm w [.row (.slice Ao own.length co) 65 17 own.length (flat Rs.cells own), .oth gm om, .blk g8 34 p.cells, .blk g7 28 u.cells, .blk g6 26 [.slice A1 es.length c1]]) (fun y => own.length - y.1) (⟨0, Nat.zero_le _, fun q hq => absurd hq (by omega)⟩) ⟨rfl, rfl, rfl, rfl, rfl, rfl, rfl, trivial⟩ (fun w1 hw => hw) ?_))
  rintro ⟨j, hj, hno⟩
  dsimp only at hj hno ⊢
  refine zSG ?_
  refine TL.sp bin_lss (fun q54 => ?_) (fun q54 => ?_)
  ·refine zET (zS (zc (zk (zT (zS (zB (zSG (TL.rn 2 rfl (zET (zS (TC.held (ls := #[Ff,Ff,Ff,Ff,Ff,Ff,Ff,Ff,Ff,Ff,Ff,Ff,Ff]) (Pm w [.row (.slice Ao own.length co) 65 17 own.length (flat Rs.cells own), .oth gm om, .blk g8 34 p.cells, .blk g7 28 u.cells, .blk g6 26 [.slice A1 es.length c1]]) (by kernel_rfl) rfl rfl (fun w hw => hw.drawn _) ?_)))))))))))
   refine TH.tk 0 rfl rfl rfl (gives_move rfl rfl) (fun w1 hw => hw) ?_
   refine TH.tk 1 rfl rfl rfl (gives_move rfl rfl) (fun w1 hw => hw) ?_
   refine TH.tk 2 rfl rfl rfl (gives_sliceH (v := .slice Ao j co) rfl rfl rfl (fun w => cut_hi Tryz.underlying23 prssz65 _ _ _ j rfl (by omega) w)) (fun w1 hw => hw) ?_
   refine TH.tk 3 rfl rfl rfl (gives_move rfl rfl) (fun w1 hw => hw) ?_
   refine TH.tk 4 rfl rfl rfl (gives_move rfl rfl) (fun w1 hw => hw) ?_
   refine TH.tk 5 rfl rfl rfl (gD ((j + 1 : Nat) : Int)) (fun w1 hw => hw) ?_
   refine TH.tk 6 rfl rfl rfl (gives_sliceL (v := .slice (if co = j + 1 then Ao else Ao.map (·.add ((j + 1) * 17))) (own.length - (j + 1)) (co - (j + 1))) rfl rfl rfl (fun w => cut_lo Tryz.underlying23 prssz65 _ _ _ (j + 1) rfl (by omega) w)) (fun w1 hw => hw) ?_
   refine TH.tk 9 rfl rfl rfl (gV 4 (.agg #[.slice A1 es.length c1]) breag26 bresz26) (fun w1 hw => hw) ?_
   refine TH.tk 10 rfl rfl rfl (gV 3 (.agg (u.cells).toArray) aprag28 aprsz28) (fun w1 hw => hw) ?_
   refine TH.tk 11 rfl rfl rfl (gV 2 (.agg (p.cells).toArray) aprag34 aprsz34) (fun w1 hw => hw) ?_
   refine TH.only' 7 rfl (by kernel_rfl) rfl ?_
   refine TL.prowS (e := 23) (size := 1) (cs := [.slice Ao j co, .slice (if co = j + 1 then Ao else Ao.map (·.add ((j + 1) * 17))) (own.length - (j + 1)) (co - (j + 1))]) rfl rfl rfl rfl rfl (fun w => mmibs45_2_32575 _ _ _ _ _ _ w) (by decide) rfl (fun g63 => ?_)
   refine zE ?_
   refine TX.held (fun w1 hw => hw.pick [1, 2, 3, 4, 5] (by decide) rfl) ?_
   refine TH.only' 8 rfl (by kernel_rfl) rfl ?_
   refine TL.pcallPm (α := {y : (Option Addr × Nat) × List Rs // y.2 = own.take j ++ own.drop (j + 1) ∧ y.2.length ≤ y.1.2 ∧ y.1.2 ≤ maxLen}) (fun x => .slice x.1.1.1 x.1.2.length x.1.1.2) (fun x => [.row (.slice x.1.1.1 x.1.2.length x.1.1.2) 65 17 x.1.2.length (flat Rs.cells x.1.2)]) rfl rfl rfl rfl rfl Tryz.func103 (by decide) rfl (fun w1 hw => conc2_any g63 2 Ao (if co = j + 1 then Ao else Ao.map (·.add ((j + 1) * 17))) j co (own.length - (j + 1)) (co - (j + 1)) (own.take j) (own.drop (j + 1)) (by rw [List.length_take]; omega) (by rw [List.length_drop]) w1 (pm_rd hw (k := 0) rfl) (Reads.headF rs_cel (pm_rd hw (k := 1) rfl) (by omega)) (Reads.tailF rs_cel (pm_rd hw (k := 1) rfl) (by omega) (by omega)) (by rw [List.length_take, List.length_drop]; omega)) ?_
   rintro ⟨⟨⟨R64, rc64⟩, cc64⟩, hP64, hR641, hR642⟩
   dsimp only [List.cons_append, List.nil_append]
   dsimp only at hP64 hR641 hR642 ⊢
   have hc64 : cc64.length ≤ 10000 := by rw [hP64, List.length_append, List.length_take, List.length_drop]; omega
   refine zE ?_
   refine TX.held (fun w1 hw => hw.pick [2, 3, 4, 5, 6] (by decide) rfl) ?_
   refine TH.only' 12 rfl (by kernel_rfl) rfl ?_
   refine TL.pcallPm (α := {b : Bool // b = true ↔ PrP es cc64 u p}) (fun x => .bool x.1) (fun x => []) rfl rfl rfl rfl rfl Tryz.func37 (by decide) rfl (fun w1 hw => (proves_any R64 rc64 cc64 A1 c1 es u p w1 (pm_rd hw (k := 0) rfl) (by omega) (fun r hr => hownok r (remI_mem (i := j) (by unfold remI; rw [← hP64]; exact hr))) (hr1.up hw.bel)).mono fun en w2 ⟨x, h1, h2⟩ => ⟨x, h1, (Pm.start w1).below h2⟩) ?_
   rintro ⟨b68, hb68⟩
   dsimp only [List.cons_append, List.nil_append]
   cases b68 with
   | true =>
    refine zE ?_
    refine TX.held (fun w1 hw => hw.pick [2, 3, 4, 5, 6] (by decide) rfl) ?_
    refine TH.done (by kernel_rfl) ?_
    refine zT (zc (zSG (TL.as_ ?_)))
    refine zET (zr (zRR (zR (zRR ?_))))
    exact ret_tmp Tryz.results46 rfl (fun w1 hw => ⟨⟨false, fun h => (by cases h), fun h => absurd (hb68.1 rfl) (by have := h.2.2.2 j (by rw [← hown2]; omega); rw [← hown2] at this; rw [hP64]; exact this)⟩, rfl, hw.bel⟩)
   | false =>
    refine zE ?_
    refine TX.held (fun w1 hw => hw.pick [2, 3, 4, 5, 6] (by decide) rfl) ?_
    refine TH.done (by kernel_rfl) ?_
    refine zT (zd (zk (zN (zT (zG (TL.v (gD ((j + 1 : Nat) : Int)) ?_))))))
    refine TL.mv ?_
    refine zE ?_
    exact TX.round (⟨j + 1, by omega, fun q hq h => (Nat.lt_or_ge q j).elim (fun h9 => hno q h9 h) (fun h9 => absurd (hb68.2 (by rw [hP64]; obtain rfl : q = j := (by omega); exact h)) (by decide))⟩) (by show own.length - (j + 1) < own.length - j; omega) ⟨rfl, rfl, rfl, rfl, rfl, rfl, rfl, trivial⟩ (fun w1 hw => hw.pick [2, 3, 4, 5, 6] (by decide) rfl)
  refine zET (zS (zd (zx (zX (zX (zM (zT (zSG (TL.as_ ?_)))))))))
  refine zET (zr ?_)
  exact ret_tmp Tryz.results46 rfl (fun w1 hw => ⟨⟨true, fun _ => ⟨hall2, hnd2, by rw [← hown2]; exact pdec_iff.1 h49, fun q hq => by rw [← hown2] at hq ⊢; exact hno q (by omega)⟩, fun _ => rfl⟩, rfl, hw.bel⟩)
 refine TL.val rfl rfl rfl (gives_boolnot rfl rfl) ?_
 refine zET (zc (zSG (TL.as_ ?_)))
 refine zET (zr (zR ?_))
 exact ret_tmp Tryz.results46 rfl (fun w1 hw => ⟨⟨false, fun h => (by cases h), fun h => by have h9 := pdec_iff.2 h.2.2.1; rw [← hown2, h49] at h9; cases h9⟩, rfl, hw.bel⟩)
theorem check42_any (A0 : Option Addr) (c0 : Nat) (l : List Rs) (A1 : Option Addr) (c1 : Nat) (es : List En) (u : Ru) (p : Rp) (A2 : Option Addr) (c2 : Nat) (ids : List Idn) (w : World) (hr : Reads w w.heap.size 17 A0 l.length (flat Rs.cells l)) (hl1 : l.length ≤ 100000) (hok : ∀ r ∈ l, r.Ok) (hr1 : Reads w w.heap.size 5 A1 es.length (flat En.cells es)) (hr2 : Reads w w.heap.size 3 A2 ids.length (flat Idn.cells ids)) (hi1 : ids.length ≤ 10000) (hidok : ∀ a ∈ ids, a.Ok) :
  Calls Tryz.prog 46 #[.slice A0 l.length c0, .agg #[.slice A1 es.length c1], .agg u.cells.toArray, .agg p.cells.toArray, .slice A2 ids.length c2] w fun e w' => ∃ x : {b : Bool // b = true ↔ CkP es l u p ids}, e = .returned (.bool x.1) ∧ Below w.heap.size w w' := check42_x A0 c0 l A1 c1 es u p A2 c2 ids w hr hl1 hok hr1 hr2 hi1
set_option maxRecDepth 20000
def sizeP (u : Ru) (p : Rp) : Int := if vldRu u && vldRp p then (if p.kind = 1 then 1 + u.los else if p.kind = 2 then 2 else 2 * u.prb) else 0
theorem size42_any (u : Ru) (p : Rp) (w : World) :
  Calls Tryz.prog 45 #[.agg u.cells.toArray, .agg p.cells.toArray] w fun e w' => e = .returned (.int .i64 (sizeP u p)) ∧ Below w.heap.size w w' := by
 refine begin_ (vs := [.agg u.cells.toArray, .agg p.cells.toArray]) Tryz.func45 rfl rfl rfl ?_ (Pm.start w)
 refine zSG ?_
 refine TL.pnew rfl rfl rfl (exec_box (cs := u.cells) rfl rfl rfl) (fun g2 => ?_)
 refine TL.pnew rfl rfl rfl (exec_box (cs := p.cells) rfl rfl rfl) (fun g3 => ?_)
 refine TL.as_ ?_
 refine zET (zS (zSG (TL.v (gV 1 (.agg (u.cells).toArray) aprag28 aprsz28) ?_)))
 refine TL.callsplit rfl rfl rfl rfl rfl Tryz.func24 (by decide) rfl (fun w1 hw => vldRu_any u w1) (fun h6 => ?_) (fun h6 => ?_)
 ·refine TL.rn 2 rfl (TL.ov (gV 0 (.agg (p.cells).toArray) aprag34 aprsz34) ?_)
  refine TL.gu ?_
  refine TL.callsplit rfl rfl rfl rfl rfl Tryz.func27 (by decide) rfl (fun w1 hw => vldRp_any p w1) (fun h10 => ?_) (fun h10 => ?_)
  ·refine TL.rn 2 rfl (zET (zd (zk (zT (zS (zS ?_))))))
   have hvb : 1 ≤ u.los ∧ u.los ≤ 64 ∧ 1 ≤ u.prb ∧ u.prb ≤ 64 := by have h9 := h6; unfold vldRu at h9; have := of_decide_eq_true h9; omega
   refine zG (TL.v (gF arpfld34_0) ?_)
   refine TL.v (gL 0 pcmag3) ?_
   refine zET (zB (zSG ?_))
   refine TL.sp bin_eql (fun q16 => ?_) (fun q16 => ?_)
   ·refine TL.as_ ?_
    refine zET (zc (zSG (TL.v (gF arpfld28_0) ?_)))
    refine TL.v (gL 1 pcmag3) ?_
    refine TL.v (gD (1 + u.los)) ?_
    refine TL.as_ ?_
    refine zET (zr (zRR ?_))
    have hE : sizeP u p = 1 + u.los := by unfold sizeP; rw [h6, h10, if_pos (by rfl)]; rw [if_pos q16]
    exact ret_tmp Tryz.results45 rfl (fun w1 hw => ⟨by rw [hE], hw.bel⟩)
   refine TL.as_ ?_
   refine zET (zd (zSG ?_))
   refine TL.sp bin_eql (fun q21 => ?_) (fun q21 => ?_)
   ·refine TL.as_ ?_
    refine zET (zc (zSG (TL.as_ ?_)))
    refine zET (zr (zRR ?_))
    have hE : sizeP u p = 2 := by unfold sizeP; rw [h6, h10, if_pos (by rfl)]; rw [if_neg q16, if_pos q21]
    exact ret_tmp Tryz.results45 rfl (fun w1 hw => ⟨by rw [hE], hw.bel⟩)
   refine TL.as_ ?_
   refine zET (zd (zk (zN (zT (zSG (TL.v (gF arpfld28_2) ?_))))))
   refine TL.v (gL 1 pcmag3) ?_
   refine TL.val rfl rfl rfl (gives_bin rfl rfl rfl (fun w => bin_mul_ (r := 2 * u.prb) (by simp only [IntKind.wrap_i64]; omega) w)) ?_
   refine TL.as_ ?_
   refine zET (zr ?_)
   have hE : sizeP u p = 2 * u.prb := by unfold sizeP; rw [h6, h10, if_pos (by rfl)]; rw [if_neg q16, if_neg q21]
   exact ret_tmp Tryz.results45 rfl (fun w1 hw => ⟨by rw [hE], hw.bel⟩)
  refine TL.rn 2 rfl (zET (zc (zSG (TL.as_ ?_))))
  refine zET (zr (zR ?_))
  have hE : sizeP u p = 0 := by unfold sizeP; rw [h6, h10]; rfl
  exact ret_tmp Tryz.results45 rfl (fun w1 hw => ⟨by rw [hE], hw.bel⟩)
 refine TL.rn 6 rfl (zET (zc (zSG (TL.as_ ?_))))
 refine zET (zr (zR ?_))
 have hE : sizeP u p = 0 := by unfold sizeP; rw [h6]; rfl
 exact ret_tmp Tryz.results45 rfl (fun w1 hw => ⟨by rw [hE], hw.bel⟩)
section
variable {α : Type} {key : α → List Int} {n : Nat}
theorem ascK_exi (hk : ∀ x, (key x).length = n) : ∀ (l : List α), (∀ x ∈ l, ∀ y ∈ l, key x = key y → x = y) → ∃ o, AscK key o ∧ ∀ x, x ∈ o ↔ x ∈ l
  | [], _ => ⟨[], List.Pairwise.nil, fun x => Iff.rfl⟩
  | a :: l, hi => by
    obtain ⟨o, h1, h2⟩ := ascK_exi hk l fun x hx y hy => hi x (List.mem_cons_of_mem _ hx) y (List.mem_cons_of_mem _ hy)
    by_cases ha : a ∈ o
    · refine ⟨o, h1, fun x => ?_⟩
      rw [h2, List.mem_cons]
      constructor
      · exact .inr
      · rintro (rfl | h)
        · exact (h2 _).1 ha
        · exact h
    · refine ⟨o.filter (fun y => decide (lexI (key y) (key a) < 0)) ++ a :: o.filter (fun y => decide (lexI (key a) (key y) < 0)), ?_, fun x => ?_⟩
      · refine List.pairwise_append.2 ⟨h1.filter _, List.pairwise_cons.2 ⟨fun y hy => of_decide_eq_true (List.mem_filter.1 hy).2, h1.filter _⟩, fun y hy z hz => ?_⟩
        have hy2 : lexI (key y) (key a) < 0 := of_decide_eq_true (List.mem_filter.1 hy).2
        rcases List.mem_cons.1 hz with rfl | hz
        · exact hy2
        · exact ltK_trans hk hy2 (of_decide_eq_true (List.mem_filter.1 hz).2)
      · rw [List.mem_append, List.mem_cons, List.mem_filter, List.mem_filter, List.mem_cons, ← h2]
        constructor
        · rintro (⟨h, _⟩ | rfl | ⟨h, _⟩)
          · exact .inr h
          · exact .inl rfl
          · exact .inr h
        · rintro (rfl | h)
          · exact .inr (.inl rfl)
          · have hne : key x ≠ key a := fun e => ha (hi x (List.mem_cons_of_mem _ ((h2 x).1 h)) a List.mem_cons_self e ▸ h)
            have h3 := lexI_swap (a := key a) (b := key x) (by rw [hk, hk])
            have h4 : lexI (key x) (key a) ≠ 0 := fun e => hne ((lexI_zero (by rw [hk, hk])).1 e)
            rcases Int.lt_or_gt_of_ne h4 with h5 | h5
            · exact .inl ⟨h, decide_eq_true h5⟩
            · exact .inr (.inr ⟨h, decide_eq_true (by omega)⟩)
theorem ascK_sub (hk : ∀ x, (key x).length = n) : ∀ {a b : List α}, AscK key a → AscK key b → (∀ x ∈ a, x ∈ b) → a.Sublist b
  | [], b, _, _, _ => List.nil_sublist b
  | x :: a, [], _, _, h => absurd (h x List.mem_cons_self) List.not_mem_nil
  | x :: a, y :: b, ha, hb, h => by
    have ha' := List.pairwise_cons.1 ha
    have hb' := List.pairwise_cons.1 hb
    rcases List.mem_cons.1 (h x List.mem_cons_self) with rfl | hx
    · refine (ascK_sub hk ha'.2 hb'.2 fun z hz => ?_).cons_cons _
      rcases List.mem_cons.1 (h z (List.mem_cons_of_mem _ hz)) with rfl | h1
      · exact absurd (ha'.1 _ hz) (ltK_irrefl _)
      · exact h1
    · refine (ascK_sub hk ha hb'.2 fun z hz => ?_).cons _
      rcases List.mem_cons.1 (h z hz) with rfl | h1
      · rcases List.mem_cons.1 hz with rfl | h2
        · exact hx
        · exact (ltK_asymm hk (hb'.1 _ hx) (ha'.1 _ h2)).elim
      · exact h1
end
theorem ord_ex {l : List Rs} (hok : ∀ r ∈ l, r.Ok) : ∃ o, IsOrd l o := by
  obtain ⟨o, h1, h2⟩ := ascK_exi (key := Rs.keys) keys_len (l.filter vldRs) fun x hx y hy => keys_inj (hok x (List.mem_filter.1 hx).1) (hok y (List.mem_filter.1 hy).1)
  exact ⟨o, h1, fun x => by rw [h2, List.mem_filter]⟩
theorem st_ex {l : List Rs} (hok : ∀ r ∈ l, r.Ok) (t : Trc) (flow : Int) : ∃ y, IsSt l t flow y := by
  obtain ⟨o, ho⟩ := ord_ex hok
  exact ⟨_, _, ⟨o, ho, rfl⟩, rfl⟩
theorem IsSt.asc {l y : List Rs} {t : Trc} {flow : Int} (h : IsSt l t flow y) : AscK Rs.keys y := by
  obtain ⟨x, ⟨o, h1, rfl⟩, rfl⟩ := h
  exact (h1.1.filter _).filter _
theorem IsSt.sub {l l' y y' : List Rs} {t : Trc} {flow : Int} (h : IsSt l t flow y) (h' : IsSt l' t flow y') (hs : ∀ r ∈ l, r ∈ l') : y.Sublist y' :=
  ascK_sub keys_len h.asc h'.asc fun x hx => by
    have := (h.mem x).1 hx
    exact (h'.mem x).2 ⟨hs x this.1, this.2⟩
section
variable {es : List En} {l l' y y' : List Rs} {u v : Ru} {p : Rp}
theorem lost_sub (hs : y.Sublist y') (e t : Int) : lostN e t y ≤ lostN e t y' := (hs.filter _).length_le
theorem bh_sub (hs : y.Sublist y') {n t : Int} (h : bhF y n t = true) : bhF y' n t = true := by
  obtain ⟨x, h1, h2, h3, h4⟩ := bh_iff.1 h
  have := lost_sub hs x.ttl t
  exact bh_iff.2 ⟨x, hs.subset h1, h2, h3, by omega⟩
theorem dt_sub (hs : y.Sublist y') {f : Rs → Int} {n t : Int} (h : DtF f y n t) : DtF f y' n t := by
  obtain ⟨a, h1, h2, b, h3, h4⟩ := h
  exact ⟨a, hs.subset h1, h2, b, hs.subset h3, h4⟩
theorem cg_sub {ea la ea' la' : List Int} (h1 : ea.Sublist ea') (h2 : la.Sublist la') {n g : Int} (h : CgF ea la n g) : CgF ea' la' n g := by
  obtain ⟨e, h3, h4, h5⟩ := h
  have h6 := (h1.filter fun z => decide (z ≤ e)).length_le
  have h7 := (h2.filter fun z => decide (g ≤ z - e)).length_le
  exact ⟨e, h1.subset h3, by omega, by omega⟩
theorem PrP.mono (h : PrP es l u p) (hs : ∀ r ∈ l, r ∈ l') (hok : ∀ r ∈ l', r.Ok) : PrP es l' u p := by
  obtain ⟨h1, h2, h3, h4⟩ := h
  obtain ⟨y', hy'⟩ := st_ex hok p.trc p.flow
  refine ⟨h1, h2, h3, ?_⟩
  rcases h4 with ⟨h4, y, hy, h5⟩ | ⟨h4, y, hy, h5⟩ | ⟨h4, h5⟩
  · exact .inl ⟨h4, y', hy', bh_sub (hy.sub hy' hs) h5⟩
  · exact .inr (.inl ⟨h4, y', hy', dt_sub ((hy.sub hy' hs).filter _) h5⟩)
  · refine .inr (.inr ⟨h4, h5.elim .inl fun ⟨y, hy, h6⟩ => .inr ⟨y', hy', ?_⟩⟩)
    have hs2 := (hy.sub hy' hs).filter fun r => r.ans && decide (r.ttl = p.ttl)
    exact cg_sub ((hs2.filter _).map _) ((hs2.filter _).map _) h6
end
section
variable {es : List En} {l : List Rs} {u : Ru} {out : List Rp} {z : Int}
theorem FndOk.good (h : FndOk es l u out z) (hv : ∀ r ∈ l, vldRs r = true) (he : validR es = true) (hu : vldRu u = true) (hl : l.length ≤ 512) : z = 0 ∧ IsFnd es l u out := by
  rcases h with ⟨_, _, h⟩ | ⟨_, _, _, o, h1, h2⟩ | ⟨h1, h2, _⟩
  · exact absurd ⟨hv, he, hu⟩ h
  · have := h1.le; omega
  · exact ⟨h1, h2⟩
theorem IsFnd.prP (h : IsFnd es l u out) {p : Rp} (hp : p ∈ out) : PrP es l u p := ((h.2 p).1 hp).2.1
end
def awR0 : Rs := ⟨0, 0, 0, 0, 9, 17, 0, 3, true, false, 50, 9, 3, 0, 0, 0, 0⟩
def awR1 : Rs := ⟨0, 0, 1, 60, 9, 17, 0, 3, false, false, 70, 0, 0, 0, 0, 0, 0⟩
def awR2 : Rs := ⟨0, 0, 2, 80, 9, 17, 0, 3, false, false, 90, 0, 0, 0, 0, 0, 0⟩
def awL : List Rs := [awR0, awR1, awR2]
def awU : Ru := ⟨2, 1, 1⟩
def awP : Rp := ⟨1, 0, 9, 17, 0, 0, 60, 0⟩
theorem iff_t {P : Prop} {b : Bool} (h : b = true ↔ P) (hp : P) : b = true := h.2 hp
theorem iff_f {P : Prop} {b : Bool} (h : b = true ↔ P) (hp : ¬ P) : b = false := by
  cases b with
  | false => rfl
  | true => exact absurd (h.1 rfl) hp
theorem calls_t {f : FuncId} {vs : Array Value} {w : World} {P : Prop} (h : Calls Tryz.prog f vs w fun e w' => ∃ x : {b : Bool // b = true ↔ P}, e = .returned (.bool x.1) ∧ Below w.heap.size w w') (hp : P) : Calls Tryz.prog f vs w fun e w' => e = .returned (.bool true) ∧ Below w.heap.size w w' :=
  h.mono fun e w' ⟨x, h1, h2⟩ => ⟨by rw [h1, iff_t x.2 hp], h2⟩
theorem calls_f {f : FuncId} {vs : Array Value} {w : World} {P : Prop} (h : Calls Tryz.prog f vs w fun e w' => ∃ x : {b : Bool // b = true ↔ P}, e = .returned (.bool x.1) ∧ Below w.heap.size w w') (hp : ¬ P) : Calls Tryz.prog f vs w fun e w' => e = .returned (.bool false) ∧ Below w.heap.size w w' :=
  h.mono fun e w' ⟨x, h1, h2⟩ => ⟨by rw [h1, iff_f x.2 hp], h2⟩
theorem calls_b {f : FuncId} {vs : Array Value} {w : World} {b c : Bool} (h : Calls Tryz.prog f vs w fun e w' => e = .returned (.bool b) ∧ Below w.heap.size w w') (hb : b = c) : Calls Tryz.prog f vs w fun e w' => e = .returned (.bool c) ∧ Below w.heap.size w w' := hb ▸ h
def awR3 : Rs := ⟨0, 0, 3, 100, 9, 17, 0, 3, false, false, 110, 0, 0, 0, 0, 0, 0⟩
def awF : List Rs := [awR0, awR1, awR2, awR3]
theorem awF_ok : ∀ r ∈ awF, r.Ok := by unfold Rs.Ok; decide +kernel
theorem awF_vld : ∀ r ∈ awF, vldRs r = true := by decide +kernel
theorem awF_asc : AscK Rs.keys awF := by unfold AscK; decide +kernel
theorem aw_part {y : List Rs} (hs : y.Sublist awF) : PrP [] y awU awP ↔ bhF y 2 60 = true := by
  have hv : ∀ r ∈ y, vldRs r = true := fun r hr => awF_vld r (hs.subset hr)
  have hst : IsSt y ⟨0, 9, 17⟩ 0 y := by
    refine ⟨y, ⟨y, ⟨List.Pairwise.sublist hs awF_asc, fun x => ⟨fun h => ⟨h, hv x h⟩, fun h => h.1⟩⟩, ?_⟩, ?_⟩
    · refine (List.filter_eq_self.2 fun r hr => decide_eq_true ?_).symm
      have : ∀ r ∈ awF, trcR r = ⟨0, 9, 17⟩ := by decide +kernel
      exact this r (hs.subset hr)
    · refine (List.filter_eq_self.2 fun r hr => ?_).symm
      have : ∀ r ∈ awF, (usbRs r && decide (r.flow = 0)) = true := by decide +kernel
      exact this r (hs.subset hr)
  constructor
  · rintro ⟨_, _, _, ⟨_, z, hz, h⟩ | ⟨h, _⟩ | ⟨h, _⟩⟩
    · rw [hz.eq hst] at h; exact h
    · exact absurd h (by decide)
    · exact absurd h (by decide)
  · exact fun h => ⟨by decide +kernel, by decide +kernel, by decide +kernel, .inl ⟨rfl, y, hst, h⟩⟩
theorem awF_onc : OncP awF awF := ⟨awF, ⟨awF_asc, fun x => ⟨fun h => ⟨h, awF_vld x h⟩, fun h => h.1⟩⟩, by decide +kernel⟩
theorem mstep_t {es : List En} {u : Ru} {p : Rp} {y : List Rs} {i : Nat} (h : PrP es (remI y i) u p) : mstep es u p y i = remI y i := if_pos (pdec_iff.2 h)
theorem mstep_f {es : List En} {u : Ru} {p : Rp} {y : List Rs} {i : Nat} (h : ¬ PrP es (remI y i) u p) : mstep es u p y i = y := if_neg fun h1 => h (pdec_iff.1 h1)
theorem aw_min : minS [] awU awP awF = awL := by
  have e : (List.finRange awF.length).reverse = [⟨3, by decide⟩, ⟨2, by decide⟩, ⟨1, by decide⟩, ⟨0, by decide⟩] := by decide +kernel
  unfold minS
  rw [e]
  simp only [List.foldl_cons, List.foldl_nil]
  rw [mstep_t (i := 3) ((aw_part (by decide +kernel)).2 (by decide +kernel)), show remI awF 3 = awL from by decide +kernel]
  rw [mstep_f (i := 2) (fun h => absurd ((aw_part (by decide +kernel)).1 h) (by decide +kernel)), mstep_f (i := 1) (fun h => absurd ((aw_part (by decide +kernel)).1 h) (by decide +kernel)), mstep_f (i := 0) (fun h => absurd ((aw_part (by decide +kernel)).1 h) (by decide +kernel))]
def awIds : List Idn := [⟨0, 0, 0⟩, ⟨0, 0, 1⟩, ⟨0, 0, 2⟩]
theorem aw_minok {ids : List Idn} {z : Int} (h : MinOk [] awF awU awP ids z) : z = 0 ∧ ids = awIds := by
  have h2 : MinOk [] awF awU awP awIds 0 := .inr ⟨⟨awF_vld, by decide +kernel, by decide +kernel, by decide +kernel⟩, awF, awF_onc, .inr ⟨by decide, .inr ⟨rfl, (aw_part (List.Sublist.refl _)).2 (by decide +kernel), by rw [aw_min]; decide +kernel⟩⟩⟩
  obtain ⟨e1, e2⟩ := h.eq h2
  exact ⟨e2, e1⟩
theorem awIds_ok : ∀ a ∈ awIds, a.Ok := by unfold Idn.Ok; decide +kernel
theorem aw_ck : CkP [] awF awU awP awIds := by
  have e : ownS awF awIds = awL := by decide +kernel
  refine ⟨by decide +kernel, by decide +kernel, by rw [e]; exact (aw_part (by decide +kernel)).2 (by decide +kernel), fun i hi => ?_⟩
  rw [e] at hi ⊢
  match i, hi with
  | 0, _ => exact fun h => absurd ((aw_part (by decide +kernel)).1 h) (by decide +kernel)
  | 1, _ => exact fun h => absurd ((aw_part (by decide +kernel)).1 h) (by decide +kernel)
  | 2, _ => exact fun h => absurd ((aw_part (by decide +kernel)).1 h) (by decide +kernel)
theorem aw_ck2 : ¬ CkP [] awF awU awP (awIds.take 2) := fun h => by
  have h1 := h.2.2.1
  rw [show ownS awF (awIds.take 2) = [awR0, awR1] from by decide +kernel] at h1
  exact absurd ((aw_part (by decide +kernel)).1 h1) (by decide +kernel)
theorem aw_wo {y : List Rs} (h : WoP awF awIds y) : y = [awR3] := by
  obtain ⟨o, ho, rfl⟩ := h
  rw [ho.eq awF_onc]; decide +kernel
end Go.Proofs.YtijmpjfafpodhaaGreat
