/-
  Texts of the proof, joined: BdRX, AnEq, AnLC.
-/
import Derived.Test.YtijmpjfafpodhaaGreatAnomalyCompletePk4
import Derived.Test.YtijmpjfafpodhaaGreatAnomalyCompletePk3
import Derived.Test.YtijmpjfafpodhaaGreatAnomalyCompletePk2
import Derived.Laws.StructEq
import Derived.Laws.Tables
import Derived.Laws.Small
import Derived.Laws.Pointers
import Derived.Laws.Cover2
import Derived.WalkKit
import Derived.KernelRfl
set_option linter.unusedVariables false
set_option linter.unusedSimpArgs false
namespace Go.Proofs.YtijmpjfafpodhaaGreat
set_option maxHeartbeats 1000000
open Go.RowKit
set_option maxRecDepth 20000
def CmpE (x y : En) (z : Int) : Prop := (z < 0 → cmpP x.addr x.len y.addr y.len < 0 ∨ (cmpP x.addr x.len y.addr y.len = 0 ∧ x.frm ≤ y.frm)) ∧ (0 ≤ z → 0 < cmpP x.addr x.len y.addr y.len ∨ (cmpP x.addr x.len y.addr y.len = 0 ∧ y.frm ≤ x.frm))
def OvE (b x : En) : Prop := cmpP b.addr b.len x.addr x.len = 0 ∧ b.frm < x.to_ ∧ x.frm < b.to_
def LtE (b x : En) : Prop := cmpP b.addr b.len x.addr x.len < 0 ∨ (cmpP b.addr b.len x.addr x.len = 0 ∧ b.frm ≤ x.frm)
def GeE (b x : En) : Prop := 0 < cmpP b.addr b.len x.addr x.len ∨ (cmpP b.addr b.len x.addr x.len = 0 ∧ x.frm ≤ b.frm)
def AddK (es : List En) (x : En) (i k : Nat) : Prop := (k = 0 ∨ ∃ b, es[k - 1]? = some b ∧ LtE b x) ∧ (∀ j, k ≤ j → j < i → ∀ z, es[j]? = some z → GeE z x) ∧ ∀ j, j < i → ∀ z, es[j]? = some z → ¬ OvE z x
theorem AddK.start (es : List En) (x : En) : AddK es x 0 0 := ⟨.inl rfl, fun j _ h => absurd h (Nat.not_lt_zero _), fun j h => absurd h (Nat.not_lt_zero _)⟩
theorem AddK.step_ge {es : List En} {x z : En} {i k : Nat} (h : AddK es x i k) (hz : es[i]? = some z) (hk : k ≤ i) (hg : k ≤ i → GeE z x) (ho : ¬ OvE z x) : AddK es x (i + 1) k := by
 refine ⟨h.1, fun j h1 h2 y hy => ?_, fun j h2 y hy => ?_⟩
 ·by_cases e : j = i
  ·subst e; rw [hz] at hy; injection hy with hy; rw [← hy]; exact hg hk
  exact h.2.1 j h1 (by omega) y hy
 by_cases e : j = i
 ·subst e; rw [hz] at hy; injection hy with hy; rw [← hy]; exact ho
 exact h.2.2 j (by omega) y hy
theorem AddK.step_lt {es : List En} {x z : En} {i k : Nat} (h : AddK es x i k) (hz : es[i]? = some z) (hl : LtE z x) (ho : ¬ OvE z x) : AddK es x (i + 1) (i + 1) := by
 refine ⟨.inr ⟨z, by rw [Nat.add_sub_cancel]; exact hz, hl⟩, fun j h1 h2 => absurd h1 (by omega), fun j h2 y hy => ?_⟩
 by_cases e : j = i
 ·subst e; rw [hz] at hy; injection hy with hy; rw [← hy]; exact ho
 exact h.2.2 j (by omega) y hy
theorem cmpI_flip (a b : Int) : cmpI b a = - cmpI a b := by unfold cmpI; split <;> split <;> (try split) <;> omega
theorem cmpP_neg (a n b m : Int) : cmpP b m a n = - cmpP a n b m := by
 unfold cmpP
 rw [cmpI_flip a b, cmpI_flip n m]
 split <;> split <;> omega
theorem validR_at {es : List En} (h : validR es = true) {j : Nat} {z : En} (hz : es[j]? = some z) : validE z = true ∧ (j = 0 ∨ ∀ b, es[j - 1]? = some b → badP b z = false) := by
 simp only [validR, Bool.and_eq_true, decide_eq_true_eq, List.all_eq_true, List.mem_range] at h
 have h2 := h.2 j (List.getElem?_eq_some_iff.1 hz).1
 unfold okAt at h2
 rw [hz] at h2
 simp only [Bool.and_eq_true, Bool.or_eq_true, decide_eq_true_eq] at h2
 refine ⟨h2.1, h2.2.imp id fun h3 b hb => ?_⟩
 rw [hb] at h3
 simpa using h3
theorem okAt_of {es : List En} {j : Nat} {z : En} (hz : es[j]? = some z) (hv : validE z = true) (h : j = 0 ∨ ∀ b, es[j - 1]? = some b → badP b z = false) : okAt es j = true := by
 unfold okAt
 rw [hz]
 simp only [hv, Bool.true_and, Bool.or_eq_true, decide_eq_true_eq]
 rcases h with h | h
 ·exact .inl h
 right
 cases hb : es[j - 1]? with
 | none => rfl
 | some b => simp [h b hb]
theorem ins_valid {es : List En} {x : En} {k : Nat} (hv : validR es = true) (hx : validE x = true) (hl : es.length < 1024) (hb : k = 0 ∨ ∃ b, es[k - 1]? = some b ∧ LtE b x) (ha : ∀ z : En, es[k]? = some z → GeE z x) (ho : ∀ (j : Nat) (z : En), es[j]? = some z → ¬ OvE z x) : validR (es.take k ++ [x] ++ es.drop k) = true := by
 have hk : k ≤ es.length := by
  rcases hb with h | ⟨b, h, _⟩
  ·omega
  have := (List.getElem?_eq_some_iff.1 h).1; omega
 have hlen : (es.take k ++ [x] ++ es.drop k).length = es.length + 1 := by simp only [List.length_append, List.length_take, List.length_drop, List.length_cons, List.length_nil]; omega
 have htk : (es.take k).length = k := by rw [List.length_take]; omega
 have g1 : ∀ j, j < k → (es.take k ++ [x] ++ es.drop k)[j]? = es[j]? := fun j hj => by
  rw [List.append_assoc, List.getElem?_append_left (by omega), List.getElem?_take_of_lt hj]
 have g2 : (es.take k ++ [x] ++ es.drop k)[k]? = some x := by
  rw [List.append_assoc, List.getElem?_append_right (by omega), htk, Nat.sub_self]; rfl
 have g3 : ∀ j, k ≤ j → (es.take k ++ [x] ++ es.drop k)[j + 1]? = es[j]? := fun j hj => by
  rw [List.getElem?_append_right (by rw [List.length_append, htk]; show k + 1 ≤ _; omega), List.length_append, htk, List.getElem?_drop]
  congr 1; show k + (j + 1 - (k + 1)) = j; omega
 refine validR_true (by omega) fun j hj => ?_
 have hxf : x.frm < x.to_ := by unfold validE at hx; simp only [Bool.and_eq_true, decide_eq_true_eq] at hx; omega
 rcases Nat.lt_trichotomy j k with h | h | h
 ·obtain ⟨z, hz⟩ : ∃ z, es[j]? = some z := ⟨_, List.getElem?_eq_getElem (by omega)⟩
  obtain ⟨a1, a2⟩ := validR_at hv hz
  exact okAt_of (by rw [g1 j h]; exact hz) a1 (by rw [g1 (j - 1) (by omega)]; exact a2)
 ·subst h
  refine okAt_of g2 hx ?_
  rcases hb with h | ⟨b, h, h1⟩
  ·exact .inl h
  by_cases h0 : j = 0
  ·exact .inl h0
  refine .inr fun c hc => ?_
  rw [g1 (j - 1) (by omega), h] at hc
  injection hc with hc
  rw [← hc]
  have h2 := ho _ _ h
  unfold OvE at h2
  unfold LtE at h1
  unfold badP
  rw [Bool.or_eq_false_iff, Bool.and_eq_false_iff, decide_eq_false_iff_not, decide_eq_false_iff_not, decide_eq_false_iff_not]
  rcases h1 with h1 | h1
  ·exact ⟨by omega, .inl (by omega)⟩
  refine ⟨by omega, .inr fun h4 => h2 ⟨h1.1, by omega, h4⟩⟩
 obtain ⟨q, rfl⟩ : ∃ q, j = q + 1 := ⟨j - 1, by omega⟩
 obtain ⟨z, hz⟩ : ∃ z, es[q]? = some z := ⟨_, List.getElem?_eq_getElem (by omega)⟩
 obtain ⟨a1, a2⟩ := validR_at hv hz
 refine okAt_of (by rw [g3 q (by omega)]; exact hz) a1 (.inr ?_)
 rw [Nat.add_sub_cancel]
 by_cases e : q = k
 ·subst e
  intro c hc
  rw [g2] at hc
  injection hc with hc
  rw [← hc]
  have h1 := ha z hz
  have h2 := ho _ _ hz
  have hzf : z.frm < z.to_ := by have a3 := a1; unfold validE at a3; simp only [Bool.and_eq_true, decide_eq_true_eq] at a3; omega
  have hng := cmpP_neg z.addr z.len x.addr x.len
  unfold OvE at h2
  unfold GeE at h1
  unfold badP
  rw [Bool.or_eq_false_iff, Bool.and_eq_false_iff, decide_eq_false_iff_not, decide_eq_false_iff_not, decide_eq_false_iff_not]
  rcases h1 with h1 | h1
  ·exact ⟨by omega, .inl (by omega)⟩
  refine ⟨by omega, .inr fun h4 => ?_⟩
  exact h2 ⟨h1.1, h4, by omega⟩
 obtain ⟨p, rfl⟩ : ∃ p, q = p + 1 := ⟨q - 1, by omega⟩
 rw [g3 p (by omega)]
 rcases a2 with a2 | a2
 ·omega
 rw [Nat.add_sub_cancel] at a2; exact a2
theorem brxbld183_19252 (a0_0 : Int) (a0_1 : Int) (a1_0 : Int) (a1_1 : Int) (a2_0 : Int) (a2_1 : Int) (w : World) : (Instr.build 183 #[(0, .agg #[.int .i64 a0_0, .int .i64 a0_1]), (1, .agg #[.int .i64 a1_0, .int .i64 a1_1]), (2, .agg #[.int .i64 a2_0, .int .i64 a2_1])]).run Tryz.prog w = .ok (.agg #[.int .i64 a0_0, .int .i64 a0_1, .int .i64 a1_0, .int .i64 a1_1, .int .i64 a2_0, .int .i64 a2_1]) w := by kernel_rfl
theorem brxone_i64i64 {a0 : Int} {a1 : Int} : ∀ u ∈ [(.int .i64 a0 : Value), .int .i64 a1], u.oneCell' = true := by
 intro u hu
 simp only [List.mem_cons, List.not_mem_nil, or_false] at hu
 rcases hu with rfl | rfl <;> rfl
theorem brxzv26 (w : World) : (zeroValue 26).run Tryz.prog w = .ok (.agg #[.slice none 0 0]) w := rfl
theorem brxel24 : Elem Tryz.prog 24 102 5 40 := Elem.mk' Tryz.underlying24 (z := .agg #[.int .u32 0, .int .i64 0, .int .i64 0, .int .i64 0, .int .i64 0]) (by kernel_rfl) rfl (by omega) (by omega)
theorem brxbs24_1_22095 (a0_0 : Int) (a0_1 : Int) (a0_2 : Int) (a0_3 : Int) (a0_4 : Int) (w : World) : (Instr.buildSlice 24 1 #[(0, .agg #[.int .u32 a0_0, .int .i64 a0_1, .int .i64 a0_2, .int .i64 a0_3, .int .i64 a0_4])]).run Tryz.prog w = .ok (.slice (some ⟨w.heap.size, 0, none⟩) 1 1) (w.alloc (.cells [.int .u32 a0_0, .int .i64 a0_1, .int .i64 a0_2, .int .i64 a0_3, .int .i64 a0_4].toArray 102)) := by kernel_rfl
theorem brxbld26_67803 (a0_0 : Option Addr) (a0_0n a0_0c : Nat) (w : World) : (Instr.build 26 #[(0, .slice a0_0 a0_0n a0_0c)]).run Tryz.prog w = .ok (.agg #[.slice a0_0 a0_0n a0_0c]) w := by kernel_rfl
theorem rcmpX_any (x y : En) (hx : x.Ok) (hy : y.Ok) (w : World) :
  Calls Tryz.prog 115 #[.agg x.cells.toArray, .agg y.cells.toArray] w fun e w' => ∃ z : {z : Int // CmpE x y z}, e = .returned (.int .i64 z.1) ∧ Below w.heap.size w w' := by
 refine begin_ (vs := [.agg x.cells.toArray, .agg y.cells.toArray]) Tryz.func115 rfl rfl rfl ?_ (Pm.start w)
 refine zSG ?_
 refine TL.pnew rfl rfl rfl (exec_box (cs := x.cells) rfl rfl rfl) (fun g2 => ?_)
 refine TL.pnew rfl rfl rfl (exec_box (cs := y.cells) rfl rfl rfl) (fun g3 => ?_)
 refine TL.as_ ?_
 refine zET (zS (zSG (TL.v (gF brefld102_0) ?_)))
 refine TL.v (gV 1 (.agg #[.int .u32 x.addr, .int .i64 x.len]) badag100 badsz100) ?_
 refine TL.v (gF brefld102_0) ?_
 refine TL.v (gV 0 (.agg #[.int .u32 y.addr, .int .i64 y.len]) badag100 badsz100) ?_
 refine TL.pcall1 (r := .int .i64 (cmpP x.addr x.len y.addr y.len)) rfl rfl rfl rfl rfl Tryz.func114 (by decide) rfl (fun w1 hw => rcmpP_any x.addr x.len y.addr y.len hx hy w1) ?_
 refine TL.as_ ?_
 refine zET (zSG (TL.mv ?_))
 refine TL.sp bin_neq (fun q14 => ?_) (fun q14 => ?_)
 ·refine zET (zc (zSG (TL.rn 2 rfl (zET (zr (zR ?_))))))
  exact ret_tmp Tryz.results115 rfl (fun w1 hw => ⟨⟨cmpP x.addr x.len y.addr y.len, ⟨fun h => .inl h, fun h => .inl (by omega)⟩⟩, rfl, hw.bel⟩)
 refine zET (zd (zk (zT (zS (zSG (TL.v (gF brefld102_2) ?_))))))
 refine TL.v (gL 1 pcmag3) ?_
 refine TL.v (gF brefld102_2) ?_
 refine TL.v (gL 0 pcmag3) ?_
 refine TL.val rfl rfl rfl (gives_build (v := .agg #[.int .i64 x.frm, .int .i64 y.frm]) rfl rfl (fun w => prsbld120_29156 _ _ w)) ?_
 refine TL.v (gF brefld102_3) ?_
 refine TL.v (gL 1 pcmag3) ?_
 refine TL.v (gF brefld102_3) ?_
 refine TL.v (gL 0 pcmag3) ?_
 refine TL.val rfl rfl rfl (gives_build (v := .agg #[.int .i64 x.to_, .int .i64 y.to_]) rfl rfl (fun w => prsbld120_29156 _ _ w)) ?_
 refine TL.v (gF brefld102_1) ?_
 refine TL.v (gL 1 pcmag3) ?_
 refine TL.v (gF brefld102_1) ?_
 refine TL.v (gL 0 pcmag3) ?_
 refine TL.val rfl rfl rfl (gives_build (v := .agg #[.int .i64 x.prov, .int .i64 y.prov]) rfl rfl (fun w => prsbld120_29156 _ _ w)) ?_
 refine TL.val rfl rfl rfl (gives_build (v := .agg #[.int .i64 x.frm, .int .i64 y.frm, .int .i64 x.to_, .int .i64 y.to_, .int .i64 x.prov, .int .i64 y.prov]) rfl rfl (fun w => brxbld183_19252 _ _ _ _ _ _ w)) ?_
 refine TL.mv ?_
 refine zET (zB (TC.loop_ (α := {i : Nat // i ≤ 3 ∧ (0 < i → x.frm = y.frm)}) (fun z => [(31, .agg #[.int .i64 x.frm, .int .i64 y.frm, .int .i64 x.to_, .int .i64 y.to_, .int .i64 x.prov, .int .i64 y.prov]), (32, .int .i64 ((z.1 : Nat) : Int))]) (fun z => Pm w [.blk g3 102 y.cells, .blk g2 102 x.cells]) (fun z => 3 - z.1) (⟨0, Nat.zero_le _, fun h => absurd h (by decide)⟩) ⟨rfl, rfl, trivial⟩ (fun w1 hw => hw) ?_))
 rintro ⟨i, hi, hfr⟩
 try dsimp only at hi hfr ⊢
 refine zSG ?_
 refine TL.sp bin_lss (fun q33 => ?_) (fun q33 => ?_)
 ·have hi2 : i < 3 := by omega
  obtain ⟨p, q, hp0, hpq⟩ : ∃ p q : Int, (i = 0 → p = x.frm ∧ q = y.frm) ∧ ∀ w : World, (Instr.index 183 (.agg #[.int .i64 x.frm, .int .i64 y.frm, .int .i64 x.to_, .int .i64 y.to_, .int .i64 x.prov, .int .i64 y.prov]) (.int .i64 ((i : Nat) : Int))).run Tryz.prog w = .ok (.agg #[.int .i64 p, .int .i64 q]) w := by
   have h3 : i = 0 ∨ i = 1 ∨ i = 2 := by omega
   rcases h3 with rfl | rfl | rfl
   ·exact ⟨x.frm, y.frm, fun _ => ⟨rfl, rfl⟩, fun w => by kernel_rfl⟩
   ·exact ⟨x.to_, y.to_, fun h => absurd h (by decide), fun w => by kernel_rfl⟩
   exact ⟨x.prov, y.prov, fun h => absurd h (by decide), fun w => by kernel_rfl⟩
  refine zET (zS (zc (zk (zT (zS (zB (zSG ?_)))))))
  refine TL.val rfl rfl rfl (gives_index (v := .agg #[.int .i64 p, .int .i64 q]) rfl rfl rfl hpq) ?_
  refine TL.pnew rfl rfl rfl (exec_alloc (cs := [.int .i64 0, .int .i64 0]) rfl prszv120 rfl) (fun g7 => ?_)
  refine TL.pstore (k := 0) (vs := [.int .i64 p, .int .i64 q]) rfl rfl rfl rfl rfl rfl rfl prssz120 brxone_i64i64 (by show 2 ≤ 2; decide) rfl ?_
  refine zET (zS (zSG ?_))
  refine TL.val rfl rfl rfl (gives_at (v := .pointer (some ⟨g7, 0, none⟩)) rfl rfl rfl (fun w => at_arr Tryz.underlying120 pcmsz3 g7 0 _ 0 (by decide) w)) ?_
  refine TL.v (gL 0 pcmag3) ?_
  refine TL.val rfl rfl rfl (gives_at (v := .pointer (some ⟨g7, 1, none⟩)) rfl rfl rfl (fun w => at_arr Tryz.underlying120 pcmsz3 g7 0 _ 1 (by decide) w)) ?_
  refine TL.v (gL 0 pcmag3) ?_
  refine TL.sp bin_lss (fun q39 => ?_) (fun q39 => ?_)
  ·refine zET (zc (zSG (TL.as_ ?_)))
   refine zET (zr (zR (zRR (zR (zRR ?_)))))
   exact ret_tmp Tryz.results115 rfl (fun w1 hw => ⟨⟨-1, ⟨fun _ => .inr ⟨by omega, by by_cases h0 : i = 0; (have := hp0 h0; omega); (have := hfr (by omega); omega)⟩, fun h => absurd h (by decide)⟩⟩, rfl, hw.bel⟩)
  refine zET (zd (zk (zT (zSG ?_))))
  refine TL.val rfl rfl rfl (gives_at (v := .pointer (some ⟨g7, 0, none⟩)) rfl rfl rfl (fun w => at_arr Tryz.underlying120 pcmsz3 g7 0 _ 0 (by decide) w)) ?_
  refine TL.v (gL 0 pcmag3) ?_
  refine TL.val rfl rfl rfl (gives_at (v := .pointer (some ⟨g7, 1, none⟩)) rfl rfl rfl (fun w => at_arr Tryz.underlying120 pcmsz3 g7 0 _ 1 (by decide) w)) ?_
  refine TL.v (gL 0 pcmag3) ?_
  refine TL.sp bin_gtr (fun q44 => ?_) (fun q44 => ?_)
  ·refine zET (zc (zSG (TL.as_ ?_)))
   refine zET (zr (zRR (zR (zRR ?_))))
   exact ret_tmp Tryz.results115 rfl (fun w1 hw => ⟨⟨1, ⟨fun h => absurd h (by decide), fun _ => .inr ⟨by omega, by by_cases h0 : i = 0; (have := hp0 h0; omega); (have := hfr (by omega); omega)⟩⟩⟩, rfl, hw.bel⟩)
  have hfr2 : x.frm = y.frm := by by_cases h0 : i = 0; (have := hp0 h0; omega); exact hfr (by omega)
  refine zET (zd (zk (zN (zT (zG (TL.v (gD ((i + 1 : Nat) : Int)) ?_))))))
  refine TL.mv ?_
  refine zE ?_
  exact TX.round (⟨i + 1, by omega, fun _ => hfr2⟩) (by show 3 - (i + 1) < 3 - i; omega) ⟨rfl, rfl, trivial⟩ (fun w1 hw => hw.pick [1, 2] (by decide) rfl)
 refine zET (zS (zd (zx (zX (zX (zM (zT (zSG (TL.as_ ?_)))))))))
 refine zET (zr ?_)
 exact ret_tmp Tryz.results115 rfl (fun w1 hw => ⟨⟨0, ⟨fun h => absurd h (by decide), fun _ => .inr ⟨by omega, by have := hfr (by omega); omega⟩⟩⟩, rfl, hw.bel⟩)
theorem raddX_any (A0 : Option Addr) (c0 : Nat) (es : List En) (x : En) (hx : x.Ok) (w : World) (hr : Reads w w.heap.size 5 A0 es.length (flat En.cells es)) (hl1 : es.length ≤ 10000) (hlc : es.length ≤ c0) (hok : ∀ z ∈ es, z.Ok) :
  Calls Tryz.prog 64 #[.agg #[.slice A0 es.length c0], .agg x.cells.toArray] w fun e w' => ∃ y : {y : (Option Addr × Nat) × List En × Int // (y.2.2 = 0 → (∀ z ∈ y.2.1, z ∈ es ∨ z = x) ∧ validR y.2.1 = true) ∧ y.2.1.length ≤ es.length + 1 ∧ y.2.1.length ≤ y.1.2 ∧ y.1.2 ≤ maxLen}, e = .returned (.tuple #[.agg #[.slice y.1.1.1 y.1.2.1.length y.1.1.2], .int .i64 y.1.2.2]) ∧ Pm w [.row (.slice y.1.1.1 y.1.2.1.length y.1.1.2) 102 5 y.1.2.1.length (flat En.cells y.1.2.1)] w' := by
 refine begin_ (vs := [.agg #[.slice A0 es.length c0], .agg x.cells.toArray]) Tryz.func64 rfl rfl rfl ?_ (Pm.start w)
 refine zSG ?_
 refine TL.pnew rfl rfl rfl (exec_box (cs := [.slice A0 es.length c0]) rfl rfl rfl) (fun g2 => ?_)
 refine TL.pnew rfl rfl rfl (exec_box (cs := x.cells) rfl rfl rfl) (fun g3 => ?_)
 refine TL.pnew rfl rfl rfl (exec_alloc (cs := [.slice none 0 0]) rfl brxzv26 rfl) (fun g4 => ?_)
 refine TL.as_ ?_
 refine zET (zS (zSG (TL.v (gV 2 (.agg #[.slice A0 es.length c0]) breag26 bresz26) ?_)))
 refine TL.callsplit rfl rfl rfl rfl rfl Tryz.func85 (by decide) rfl (fun w1 hw => rvalX_any A0 c0 es w1 (hr.up hw.bel) (by omega) hok) (fun h10 => ?_) (fun h10 => ?_)
 ·refine TL.rn 2 rfl (TL.ov (gV 1 (.agg (x.cells).toArray) breag102 bresz102) ?_)
  refine TL.gu ?_
  refine TL.callsplit rfl rfl rfl rfl rfl Tryz.func113 (by decide) rfl (fun w1 hw => rvalE_any x hx w1) (fun h14 => ?_) (fun h14 => ?_)
  ·refine TL.rn 2 rfl (zET (zd (zk (zT (zSG (TL.as_ ?_))))))
   refine zET (zS (zSG (TL.as_ ?_)))
   refine zET (zB (TC.loop_ (α := {y : Nat × Nat // y.1 ≤ es.length ∧ y.2 ≤ y.1 ∧ AddK es x y.1 y.2}) (fun y => [(2, .pointer (some ⟨g2, 0, none⟩)), (3, .pointer (some ⟨g3, 0, none⟩)), (4, .pointer (some ⟨g4, 0, none⟩)), (7, .int .i64 ((y.1.1 : Nat) : Int)), (6, .int .i64 ((y.1.2 : Nat) : Int))]) (fun y => Pm w [.blk g4 26 [.slice none 0 0], .blk g3 102 x.cells, .blk g2 26 [.slice A0 es.length c0]]) (fun y => es.length - y.1.1) (⟨(0, 0), Nat.zero_le _, Nat.le_refl _, AddK.start es x⟩) ⟨rfl, rfl, rfl, rfl, rfl, trivial⟩ (fun w1 hw => hw) ?_))
   rintro ⟨⟨i, k⟩, hi, hk, hK⟩
   dsimp only at hi hk hK ⊢
   refine zS (zSG (TL.mv ?_))
   refine TL.v (gF brefld26_0) ?_
   refine TL.v (gL 2 breag24) ?_
   refine TL.v (gN Tryz.underlying24) ?_
   refine TL.sp bin_lss (fun q22 => ?_) (fun q22 => ?_)
   ·refine zET (zc (zk (zT (zS (zB (zSG (TL.v (gF brefld26_0) ?_)))))))
    refine TL.v (gL 2 breag24) ?_
    refine TL.mv ?_
    have hi28 : i < es.length := by omega
    obtain ⟨x28, hx28⟩ := ex_at hi28
    obtain ⟨b28, o28, hA28, hbb28, hc28⟩ := hr.ad (by omega) (by decide)
    refine TL.val rfl rfl rfl (gA (i := i) Tryz.underlying24 bresz102 rfl rfl rfl rfl hA28 (by omega)) ?_
    refine TL.v (gR en_cel breag102 bresz102 hbb28 hx28 hc28) ?_
    refine TL.pnew rfl rfl rfl (exec_alloc (cs := [.int .u32 0, .int .i64 0, .int .i64 0, .int .i64 0, .int .i64 0]) rfl brezv102 rfl) (fun g8 => ?_)
    refine TL.pstore (k := 0) (vs := x28.cells) rfl rfl rfl rfl rfl rfl rfl bresz102 (en_cel.one _) (by show 5 ≤ 5; decide) (L' := [.blk g8 102 x28.cells, .blk g4 26 [.slice none 0 0], .blk g3 102 x.cells, .blk g2 26 [.slice A0 es.length c0]]) rfl ?_
    refine zET (zS (zSG (TL.v (gF brefld102_0) ?_)))
    refine TL.v (gV 0 (.agg #[.int .u32 x28.addr, .int .i64 x28.len]) badag100 badsz100) ?_
    refine TL.v (gF brefld102_0) ?_
    refine TL.v (gV 2 (.agg #[.int .u32 x.addr, .int .i64 x.len]) badag100 badsz100) ?_
    refine TL.pcall1 (r := .int .i64 (cmpP x28.addr x28.len x.addr x.len)) rfl rfl rfl rfl rfl Tryz.func114 (by decide) rfl (fun w1 hw => rcmpP_any x28.addr x28.len x.addr x.len (hok x28 (List.mem_of_getElem? hx28)) hx w1) ?_
    refine TL.sp bin_eql (fun q35 => ?_) (fun q35 => ?_)
    ·refine TL.mv ?_
     refine TL.ov (gF brefld102_2) ?_
     refine TL.ov (gL 0 pcmag3) ?_
     refine TL.ov (gF brefld102_3) ?_
     refine TL.ov (gL 2 pcmag3) ?_
     refine TL.gu ?_
     refine TL.sp bin_lss (fun q41 => ?_) (fun q41 => ?_)
     ·refine TL.rn 2 rfl (TL.ov (gF brefld102_2) ?_)
      refine TL.ov (gL 2 pcmag3) ?_
      refine TL.ov (gF brefld102_3) ?_
      refine TL.ov (gL 0 pcmag3) ?_
      refine TL.gu ?_
      refine TL.sp bin_lss (fun q48 => ?_) (fun q48 => ?_)
      ·refine TL.pk ?_
       refine zET (zc (zSG ?_))
       refine TL.val rfl rfl rfl (gives_build (v := .agg #[.slice none 0 0]) rfl rfl (fun w => aawbld26_530  w)) ?_
       refine TL.pstore (k := 1) (vs := [.slice none 0 0]) rfl rfl rfl rfl rfl rfl rfl bresz26 dntone_s (by show 1 ≤ 1; decide) (L' := [.blk g8 102 x28.cells, .blk g4 26 [.slice none 0 0], .blk g3 102 x.cells, .blk g2 26 [.slice A0 es.length c0]]) rfl ?_
       refine TL.as_ ?_
       refine zET (zr (zR (zRR (zR (zRR ?_)))))
       exact ret_cell2 (k := 1) (v := .int .i64 9) Tryz.results64 rfl rfl rfl Tryz.underlying26 rfl rfl (fun w1 hw => ⟨⟨((none, 0), ([], 9)), fun h => absurd h (by decide), Nat.zero_le _, Nat.le_refl _, Nat.zero_le _⟩, rfl, (hw.pick [] (by decide) rfl).nilrow _ _⟩)
      refine TL.pk ?_
      refine zET (zd (zk (zT (zSG (TL.v (gV 0 (.agg (x28.cells).toArray) breag102 bresz102) ?_)))))
      refine TL.v (gV 2 (.agg (x.cells).toArray) breag102 bresz102) ?_
      refine TL.call (α := {z : Int // CmpE x28 x z}) (r := fun z => .int .i64 z.1) (I' := fun _ => Pm w [.blk g8 102 x28.cells, .blk g4 26 [.slice none 0 0], .blk g3 102 x.cells, .blk g2 26 [.slice A0 es.length c0]]) rfl rfl rfl rfl rfl Tryz.func115 (by decide) rfl (fun w1 hw => (rcmpX_any x28 x (hok x28 (List.mem_of_getElem? hx28)) hx w1).mono fun e w2 ⟨b, h1, h2⟩ => ⟨b, h1, hw.below h2⟩) ?_
      rintro ⟨z53, hz53⟩
      dsimp only
      refine TL.sp bin_lss (fun q54 => ?_) (fun q54 => ?_)
      ·refine zET (zc (zG (TL.mv ?_)))
       refine TL.v (gD ((i + 1 : Nat) : Int)) ?_
       refine TL.as_ ?_
       refine zE (zN (zT (zG (TL.mv ?_))))
       refine TL.v (gD ((i + 1 : Nat) : Int)) ?_
       refine TL.as_ ?_
       refine zE ?_
       exact TX.round (⟨(i + 1, i + 1), by dsimp only; omega, by dsimp only; omega, hK.step_lt hx28 (hz53.1 (by omega)) (by simp [OvE, q22, q35, q41, q48, q54]; try omega)⟩) (by show es.length - (i + 1) < es.length - i; omega) ⟨rfl, rfl, rfl, rfl, rfl, trivial⟩ (fun w1 hw => hw.pick [1, 2, 3] (by decide) rfl)
      refine zET (zd (zk (zN (zT (zG (TL.mv ?_))))))
      refine TL.v (gD ((i + 1 : Nat) : Int)) ?_
      refine TL.as_ ?_
      refine zE ?_
      exact TX.round (⟨(i + 1, k), by dsimp only; omega, by dsimp only; omega, hK.step_ge hx28 (by omega) (fun h => (hz53.2 (by omega))) (by simp [OvE, q22, q35, q41, q48, q54]; try omega)⟩) (by show es.length - (i + 1) < es.length - i; omega) ⟨rfl, rfl, rfl, rfl, rfl, trivial⟩ (fun w1 hw => hw.pick [1, 2, 3] (by decide) rfl)
     refine TL.rn 8 rfl (zET (zd (zk (zT (zSG (TL.v (gV 0 (.agg (x28.cells).toArray) breag102 bresz102) ?_))))))
     refine TL.v (gV 2 (.agg (x.cells).toArray) breag102 bresz102) ?_
     refine TL.call (α := {z : Int // CmpE x28 x z}) (r := fun z => .int .i64 z.1) (I' := fun _ => Pm w [.blk g8 102 x28.cells, .blk g4 26 [.slice none 0 0], .blk g3 102 x.cells, .blk g2 26 [.slice A0 es.length c0]]) rfl rfl rfl rfl rfl Tryz.func115 (by decide) rfl (fun w1 hw => (rcmpX_any x28 x (hok x28 (List.mem_of_getElem? hx28)) hx w1).mono fun e w2 ⟨b, h1, h2⟩ => ⟨b, h1, hw.below h2⟩) ?_
     rintro ⟨z53, hz53⟩
     dsimp only
     refine TL.sp bin_lss (fun q54 => ?_) (fun q54 => ?_)
     ·refine zET (zc (zG (TL.mv ?_)))
      refine TL.v (gD ((i + 1 : Nat) : Int)) ?_
      refine TL.as_ ?_
      refine zE (zN (zT (zG (TL.mv ?_))))
      refine TL.v (gD ((i + 1 : Nat) : Int)) ?_
      refine TL.as_ ?_
      refine zE ?_
      exact TX.round (⟨(i + 1, i + 1), by dsimp only; omega, by dsimp only; omega, hK.step_lt hx28 (hz53.1 (by omega)) (by simp [OvE, q22, q35, q41, q54]; try omega)⟩) (by show es.length - (i + 1) < es.length - i; omega) ⟨rfl, rfl, rfl, rfl, rfl, trivial⟩ (fun w1 hw => hw.pick [1, 2, 3] (by decide) rfl)
     refine zET (zd (zk (zN (zT (zG (TL.mv ?_))))))
     refine TL.v (gD ((i + 1 : Nat) : Int)) ?_
     refine TL.as_ ?_
     refine zE ?_
     exact TX.round (⟨(i + 1, k), by dsimp only; omega, by dsimp only; omega, hK.step_ge hx28 (by omega) (fun h => (hz53.2 (by omega))) (by simp [OvE, q22, q35, q41, q54]; try omega)⟩) (by show es.length - (i + 1) < es.length - i; omega) ⟨rfl, rfl, rfl, rfl, rfl, trivial⟩ (fun w1 hw => hw.pick [1, 2, 3] (by decide) rfl)
    refine TL.rn 14 rfl (zET (zd (zk (zT (zSG (TL.v (gV 0 (.agg (x28.cells).toArray) breag102 bresz102) ?_))))))
    refine TL.v (gV 2 (.agg (x.cells).toArray) breag102 bresz102) ?_
    refine TL.call (α := {z : Int // CmpE x28 x z}) (r := fun z => .int .i64 z.1) (I' := fun _ => Pm w [.blk g8 102 x28.cells, .blk g4 26 [.slice none 0 0], .blk g3 102 x.cells, .blk g2 26 [.slice A0 es.length c0]]) rfl rfl rfl rfl rfl Tryz.func115 (by decide) rfl (fun w1 hw => (rcmpX_any x28 x (hok x28 (List.mem_of_getElem? hx28)) hx w1).mono fun e w2 ⟨b, h1, h2⟩ => ⟨b, h1, hw.below h2⟩) ?_
    rintro ⟨z53, hz53⟩
    dsimp only
    refine TL.sp bin_lss (fun q54 => ?_) (fun q54 => ?_)
    ·refine zET (zc (zG (TL.mv ?_)))
     refine TL.v (gD ((i + 1 : Nat) : Int)) ?_
     refine TL.as_ ?_
     refine zE (zN (zT (zG (TL.mv ?_))))
     refine TL.v (gD ((i + 1 : Nat) : Int)) ?_
     refine TL.as_ ?_
     refine zE ?_
     exact TX.round (⟨(i + 1, i + 1), by dsimp only; omega, by dsimp only; omega, hK.step_lt hx28 (hz53.1 (by omega)) (by simp [OvE, q22, q35, q54]; try omega)⟩) (by show es.length - (i + 1) < es.length - i; omega) ⟨rfl, rfl, rfl, rfl, rfl, trivial⟩ (fun w1 hw => hw.pick [1, 2, 3] (by decide) rfl)
    refine zET (zd (zk (zN (zT (zG (TL.mv ?_))))))
    refine TL.v (gD ((i + 1 : Nat) : Int)) ?_
    refine TL.as_ ?_
    refine zE ?_
    exact TX.round (⟨(i + 1, k), by dsimp only; omega, by dsimp only; omega, hK.step_ge hx28 (by omega) (fun h => (hz53.2 (by omega))) (by simp [OvE, q22, q35, q54]; try omega)⟩) (by show es.length - (i + 1) < es.length - i; omega) ⟨rfl, rfl, rfl, rfl, rfl, trivial⟩ (fun w1 hw => hw.pick [1, 2, 3] (by decide) rfl)
   refine zET (zd (zx (zX (zX (zM (zT (zS (zSG (TL.v (gF brefld26_0) ?_)))))))))
   refine TL.v (gL 2 breag24) ?_
   refine TL.v (gN Tryz.underlying24) ?_
   refine TL.sp bin_geq (fun q60 => ?_) (fun q60 => ?_)
   ·refine zET (zc (zSG ?_))
    refine TL.val rfl rfl rfl (gives_build (v := .agg #[.slice none 0 0]) rfl rfl (fun w => aawbld26_530  w)) ?_
    refine TL.pstore (k := 0) (vs := [.slice none 0 0]) rfl rfl rfl rfl rfl rfl rfl bresz26 dntone_s (by show 1 ≤ 1; decide) (L' := [.blk g4 26 [.slice none 0 0], .blk g3 102 x.cells, .blk g2 26 [.slice A0 es.length c0]]) rfl ?_
    refine TL.as_ ?_
    refine zET (zr (zR ?_))
    exact ret_cell2 (k := 0) (v := .int .i64 5) Tryz.results64 rfl rfl rfl Tryz.underlying26 rfl rfl (fun w1 hw => ⟨⟨((none, 0), ([], 5)), fun h => absurd h (by decide), Nat.zero_le _, Nat.le_refl _, Nat.zero_le _⟩, rfl, (hw.pick [] (by decide) rfl).nilrow _ _⟩)
   refine zET (zd (zk (zT (zS (TC.held (ls := #[Ff,Ff,Ff,Ff,Ff,Ff,Ff,Ff,Ff,Ff,Ff,Ff,Ff,Ff,Ff,Ff]) (Pm w [.blk g3 102 x.cells, .blk g2 26 [.slice A0 es.length c0]]) (by kernel_rfl) rfl rfl (fun w hw => hw.drawn _) ?_)))))
   refine TH.tk 0 rfl rfl rfl (gF brefld26_0) (fun w1 hw => hw.pick [1, 2] (by decide) rfl) ?_
   refine TH.tk 1 rfl rfl rfl (gL 1 breag24) (fun w1 hw => hw.pick [1, 2] (by decide) rfl) ?_
   refine TH.tk 2 rfl rfl rfl (gives_move rfl rfl) (fun w1 hw => hw.pick [1, 2] (by decide) rfl) ?_
   refine TH.tk 3 rfl rfl rfl (gives_sliceH (v := .slice A0 k c0) rfl rfl rfl (fun w => cut_hi Tryz.underlying24 bresz102 _ _ _ k rfl (by omega) w)) (fun w1 hw => hw.pick [1, 2] (by decide) rfl) ?_
   refine TH.tk 5 rfl rfl rfl (gV 0 (.agg (x.cells).toArray) breag102 bresz102) (fun w1 hw => hw.pick [1, 2] (by decide) rfl) ?_
   refine TH.tk 8 rfl rfl rfl (gF brefld26_0) (fun w1 hw => hw.pick [1, 2] (by decide) rfl) ?_
   refine TH.tk 9 rfl rfl rfl (gL 1 breag24) (fun w1 hw => hw.pick [1, 2] (by decide) rfl) ?_
   refine TH.tk 10 rfl rfl rfl (gives_move rfl rfl) (fun w1 hw => hw.pick [1, 2] (by decide) rfl) ?_
   refine TH.tk 11 rfl rfl rfl (gives_sliceL (v := .slice (if c0 = k then A0 else A0.map (·.add (k * 5))) (es.length - k) (c0 - k)) rfl rfl rfl (fun w => cut_lo Tryz.underlying24 bresz102 _ _ _ k rfl (by omega) w)) (fun w1 hw => hw.pick [1, 2] (by decide) rfl) ?_
   refine TH.two' (listed1 := #[Tt,Tt,Tt,Tt,Tt,Tt,Ff,Ff,Tt,Tt,Tt,Tt,Ff,Ff,Ff,Ff]) (listed2 := #[Tt,Tt,Tt,Tt,Ff,Tt,Tt,Ff,Tt,Tt,Tt,Tt,Ff,Ff,Ff,Ff]) 4 6 rfl rfl (by kernel_rfl) rfl rfl ?_ ?_
   ·refine TL.nilrow 102 5 ?_
    refine TL.appendT (k := 0) rfl rfl rfl rfl Tryz.underlying24 brxel24 rfl rfl rfl (fun w1 hw => ⟨_, (Reads.headF en_cel (hr.up hw.bel) (by omega))⟩) (flat_one en_cel _) (by show _ * 40 ≤ _; omega) (k) ((Nat.zero_add _).symm) (flat En.cells (es.take k)) (rfl) (fun A66 c66 hA661 hA662 => ?_)
    refine zE ?_
    refine TX.held (fun w1 hw => hw.pick [2, 3] (by decide) rfl) ?_
    refine TH.only' 6 rfl (by kernel_rfl) rfl ?_
    refine TL.prowS (e := 102) (size := 5) (cs := flat En.cells [x]) rfl rfl rfl rfl rfl (fun w => brxbs24_1_22095 _ _ _ _ _ w) (by decide) rfl (fun g68 => ?_)
    refine zE ?_
    refine TX.held (fun w1 hw => hw.pick [3, 4] (by decide) rfl) ?_
    refine TH.only' 7 rfl (by kernel_rfl) rfl ?_
    refine TL.appendT (k := 1) rfl rfl rfl rfl Tryz.underlying24 brxel24 rfl rfl rfl (fun w1 hw => pm_reads hw (k := 0) rfl) (flat_one en_cel _) (by show _ * 40 ≤ _; omega) (k + 1) (rfl) (flat En.cells ((es.take k) ++ [x])) ((flat_app _ _).symm) (fun A69 c69 hA691 hA692 => ?_)
    refine zE ?_
    refine TX.held (fun w1 hw => hw.pick [3, 4] (by decide) rfl) ?_
    refine TH.only' 12 rfl (by kernel_rfl) rfl ?_
    refine TL.appendT (k := 1) rfl rfl rfl rfl Tryz.underlying24 brxel24 rfl rfl rfl (fun w1 hw => ⟨_, (Reads.tailF en_cel (hr.up hw.bel) (by omega) (by omega))⟩) (flat_one en_cel _) (by show _ * 40 ≤ _; omega) (k + 1 + (es.length - k)) (rfl) (flat En.cells (((es.take k) ++ [x]) ++ (es.drop k))) ((flat_app _ _).symm) (fun A74 c74 hA741 hA742 => ?_)
    refine zE ?_
    refine TX.he (fun w1 hw => hw.pick [3, 4] (by decide) rfl) fun hS => ?_
    refine TH.t 13 rfl (gives_build (v := .agg #[.slice A74 (k + 1 + (es.length - k)) c74]) rfl rfl (fun w => brxbld26_67803 _ _ _ w)) hS ?_
    refine TH.only' 14 rfl (by kernel_rfl) rfl ?_
    refine TL.pstore (k := 2) (vs := [.slice A74 (k + 1 + (es.length - k)) c74]) rfl rfl rfl rfl rfl rfl rfl bresz26 dntone_s (by show 1 ≤ 1; decide) (L' := [.row (.slice (some ⟨g68, 0, none⟩) 1 1) 102 5 1 (flat En.cells [x]), .row (.slice A74 (k + 1 + (es.length - k)) c74) 102 5 (k + 1 + (es.length - k)) (flat En.cells (((es.take k) ++ [x]) ++ (es.drop k))), .blk g4 26 [.slice A74 (k + 1 + (es.length - k)) c74], .blk g3 102 x.cells, .blk g2 26 [.slice A0 es.length c0]]) rfl ?_
    refine zE ?_
    refine TX.he (fun w1 hw => hw.pick [3, 4] (by decide) rfl) fun hS => ?_
    refine TH.t 15 rfl (gives_assign rfl rfl) hS ?_
    refine TH.done (by kernel_rfl) ?_
    refine zT (zr ?_)
    have hle : (((es.take k) ++ [x]) ++ (es.drop k)).length = k + 1 + (es.length - k) := by simp only [List.length_append, List.length_take, List.length_drop, List.length_cons, List.length_nil]; omega
    have hva : validR (((es.take k) ++ [x]) ++ (es.drop k)) = true := ins_valid h10 (by rw [← rvalidE_eq hx]; exact h14) (by omega) hK.1 (fun z hz => hK.2.1 k (Nat.le_refl _) (by have := (List.getElem?_eq_some_iff.1 hz).1; omega) z hz) (fun j z hz => hK.2.2 j (by have := (List.getElem?_eq_some_iff.1 hz).1; omega) z hz)
    exact ret_cell2 (k := 2) (v := .int .i64 0) Tryz.results64 rfl rfl rfl Tryz.underlying26 rfl rfl (fun w1 hw => ⟨⟨((A74, c74), (((es.take k) ++ [x]) ++ (es.drop k), 0)), fun _ => ⟨fun z h => mem_ins h, hva⟩, by dsimp only; omega, by dsimp only; omega, hA742⟩, by dsimp only; rw [hle], by dsimp only; rw [hle]; exact hw.pick [1] (by decide) rfl⟩)
   refine TL.prowS (e := 102) (size := 5) (cs := flat En.cells [x]) rfl rfl rfl rfl rfl (fun w => brxbs24_1_22095 _ _ _ _ _ w) (by decide) rfl (fun g68 => ?_)
   refine zE ?_
   refine TX.held (fun w1 hw => hw.pick [2, 3] (by decide) rfl) ?_
   refine TH.only' 4 rfl (by kernel_rfl) rfl ?_
   refine TL.nilrow 102 5 ?_
   refine TL.appendT (k := 0) rfl rfl rfl rfl Tryz.underlying24 brxel24 rfl rfl rfl (fun w1 hw => ⟨_, (Reads.headF en_cel (hr.up hw.bel) (by omega))⟩) (flat_one en_cel _) (by show _ * 40 ≤ _; omega) (k) ((Nat.zero_add _).symm) (flat En.cells (es.take k)) (rfl) (fun A66 c66 hA661 hA662 => ?_)
   refine zE ?_
   refine TX.held (fun w1 hw => hw.pick [3, 4] (by decide) rfl) ?_
   refine TH.only' 7 rfl (by kernel_rfl) rfl ?_
   refine TL.appendT (k := 0) rfl rfl rfl rfl Tryz.underlying24 brxel24 rfl rfl rfl (fun w1 hw => pm_reads hw (k := 1) rfl) (flat_one en_cel _) (by show _ * 40 ≤ _; omega) (k + 1) (rfl) (flat En.cells ((es.take k) ++ [x])) ((flat_app _ _).symm) (fun A69 c69 hA691 hA692 => ?_)
   refine zE ?_
   refine TX.held (fun w1 hw => hw.pick [3, 4] (by decide) rfl) ?_
   refine TH.only' 12 rfl (by kernel_rfl) rfl ?_
   refine TL.appendT (k := 0) rfl rfl rfl rfl Tryz.underlying24 brxel24 rfl rfl rfl (fun w1 hw => ⟨_, (Reads.tailF en_cel (hr.up hw.bel) (by omega) (by omega))⟩) (flat_one en_cel _) (by show _ * 40 ≤ _; omega) (k + 1 + (es.length - k)) (rfl) (flat En.cells (((es.take k) ++ [x]) ++ (es.drop k))) ((flat_app _ _).symm) (fun A74 c74 hA741 hA742 => ?_)
   refine zE ?_
   refine TX.he (fun w1 hw => hw.pick [3, 4] (by decide) rfl) fun hS => ?_
   refine TH.t 13 rfl (gives_build (v := .agg #[.slice A74 (k + 1 + (es.length - k)) c74]) rfl rfl (fun w => brxbld26_67803 _ _ _ w)) hS ?_
   refine TH.only' 14 rfl (by kernel_rfl) rfl ?_
   refine TL.pstore (k := 2) (vs := [.slice A74 (k + 1 + (es.length - k)) c74]) rfl rfl rfl rfl rfl rfl rfl bresz26 dntone_s (by show 1 ≤ 1; decide) (L' := [.row (.slice A74 (k + 1 + (es.length - k)) c74) 102 5 (k + 1 + (es.length - k)) (flat En.cells (((es.take k) ++ [x]) ++ (es.drop k))), .row (.slice (some ⟨g68, 0, none⟩) 1 1) 102 5 1 (flat En.cells [x]), .blk g4 26 [.slice A74 (k + 1 + (es.length - k)) c74], .blk g3 102 x.cells, .blk g2 26 [.slice A0 es.length c0]]) rfl ?_
   refine zE ?_
   refine TX.he (fun w1 hw => hw.pick [3, 4] (by decide) rfl) fun hS => ?_
   refine TH.t 15 rfl (gives_assign rfl rfl) hS ?_
   refine TH.done (by kernel_rfl) ?_
   refine zT (zr ?_)
   have hle : (((es.take k) ++ [x]) ++ (es.drop k)).length = k + 1 + (es.length - k) := by simp only [List.length_append, List.length_take, List.length_drop, List.length_cons, List.length_nil]; omega
   have hva : validR (((es.take k) ++ [x]) ++ (es.drop k)) = true := ins_valid h10 (by rw [← rvalidE_eq hx]; exact h14) (by omega) hK.1 (fun z hz => hK.2.1 k (Nat.le_refl _) (by have := (List.getElem?_eq_some_iff.1 hz).1; omega) z hz) (fun j z hz => hK.2.2 j (by have := (List.getElem?_eq_some_iff.1 hz).1; omega) z hz)
   exact ret_cell2 (k := 2) (v := .int .i64 0) Tryz.results64 rfl rfl rfl Tryz.underlying26 rfl rfl (fun w1 hw => ⟨⟨((A74, c74), (((es.take k) ++ [x]) ++ (es.drop k), 0)), fun _ => ⟨fun z h => mem_ins h, hva⟩, by dsimp only; omega, by dsimp only; omega, hA742⟩, by dsimp only; rw [hle], by dsimp only; rw [hle]; exact hw.pick [0] (by decide) rfl⟩)
  refine TL.rn 2 rfl (zET (zc (zSG ?_)))
  refine TL.val rfl rfl rfl (gives_build (v := .agg #[.slice none 0 0]) rfl rfl (fun w => aawbld26_530  w)) ?_
  refine TL.pstore (k := 0) (vs := [.slice none 0 0]) rfl rfl rfl rfl rfl rfl rfl bresz26 dntone_s (by show 1 ≤ 1; decide) (L' := [.blk g4 26 [.slice none 0 0], .blk g3 102 x.cells, .blk g2 26 [.slice A0 es.length c0]]) rfl ?_
  refine TL.as_ ?_
  refine zET (zr (zR ?_))
  exact ret_cell2 (k := 0) (v := .int .i64 1) Tryz.results64 rfl rfl rfl Tryz.underlying26 rfl rfl (fun w1 hw => ⟨⟨((none, 0), ([], 1)), fun h => absurd h (by decide), Nat.zero_le _, Nat.le_refl _, Nat.zero_le _⟩, rfl, (hw.pick [] (by decide) rfl).nilrow _ _⟩)
 refine TL.rn 6 rfl (zET (zc (zSG ?_)))
 refine TL.val rfl rfl rfl (gives_build (v := .agg #[.slice none 0 0]) rfl rfl (fun w => aawbld26_530  w)) ?_
 refine TL.pstore (k := 0) (vs := [.slice none 0 0]) rfl rfl rfl rfl rfl rfl rfl bresz26 dntone_s (by show 1 ≤ 1; decide) (L' := [.blk g4 26 [.slice none 0 0], .blk g3 102 x.cells, .blk g2 26 [.slice A0 es.length c0]]) rfl ?_
 refine TL.as_ ?_
 refine zET (zr (zR ?_))
 exact ret_cell2 (k := 0) (v := .int .i64 1) Tryz.results64 rfl rfl rfl Tryz.underlying26 rfl rfl (fun w1 hw => ⟨⟨((none, 0), ([], 1)), fun h => absurd h (by decide), Nat.zero_le _, Nat.le_refl _, Nat.zero_le _⟩, rfl, (hw.pick [] (by decide) rfl).nilrow _ _⟩)
theorem registryX_cod (cb : Nat) (w : World) (hC : Cod w cb) (m : Nat) (hm : m ≤ 100) :
  Calls Tryz.prog 19 #[.pointer (some ⟨cb, 0, none⟩), .int .i64 ((m : Nat) : Int)] w fun e w' => ∃ x : {y : (Option Addr × Nat) × List En // ((∀ e ∈ y.2, EnG e) ∧ validR y.2 = true) ∧ y.2.length ≤ m ∧ y.2.length ≤ y.1.2 ∧ y.1.2 ≤ maxLen}, e = .returned (.agg #[.slice x.1.1.1 x.1.2.length x.1.1.2]) ∧ Codr (fun w => Cod w cb) cb w ([.row (.slice x.1.1.1 x.1.2.length x.1.1.2) 102 5 x.1.2.length (flat En.cells x.1.2)]) w' := by
 refine begin_ (vs := [.pointer (some ⟨cb, 0, none⟩), .int .i64 ((m : Nat) : Int)]) (I := Pm ⟨w, cb⟩ (.abs cb (fun w => Cod w cb) :: oths cb w)) Tryz.func19 rfl rfl rfl ?_ (Pm.codes hC (cod_cells hC) (cod_stab cb))
 refine zSG ?_
 refine TL.pnew rfl rfl rfl (exec_alloc (cs := [.slice none 0 0]) rfl brxzv26 rfl) (fun g4 => ?_)
 refine zET (zSG ?_)
 refine TL.pnew rfl rfl rfl (exec_alloc (cs := [.slice none 0 0]) rfl brxzv26 rfl) (fun g5 => ?_)
 refine zET (zS (zSG (TL.rn 2 rfl (TL.v (gD ((m + 1 : Nat) : Int)) ?_))))
 refine TL.pcallCod (k := 2) (α := {q9 : Nat // q9 ≤ 65535 ∧ (1 ≤ (((m + 1 : Nat) : Int) : Int) → (q9 : Int) < ((m + 1 : Nat) : Int))}) (fun q9 => .int .i64 ((q9.1 : Nat) : Int)) (fun q9 => []) rfl rfl rfl rfl rfl Tryz.func21 (by decide) rfl rfl (fun w1 hw hC1 => next_cod cb w1 ((m + 1 : Nat) : Int) hC1) ?_
 rintro ⟨k0, hk01, hk02⟩
 dsimp only [List.cons_append, List.nil_append]
 refine TL.as_ ?_
 refine zET (zB (TC.nilrow 102 5 ?_))
 refine TC.loop_ (α := {y : Nat × (Option Addr × Nat) × List En // y.1 + y.2.2.length ≤ m ∧ ((∀ e ∈ y.2.2, EnG e) ∧ validR y.2.2 = true) ∧ y.2.2.length ≤ y.2.1.2 ∧ y.2.1.2 ≤ maxLen}) (fun y => [(0, .pointer (some ⟨cb, 0, none⟩)), (4, .pointer (some ⟨g4, 0, none⟩)), (5, .pointer (some ⟨g5, 0, none⟩)), (6, .int .i64 ((y.1.1 : Nat) : Int))]) (fun y => Pm ⟨w, cb⟩ ([.row (.slice y.1.2.1.1 y.1.2.2.length y.1.2.1.2) 102 5 y.1.2.2.length (flat En.cells y.1.2.2), .blk g5 26 [.slice y.1.2.1.1 y.1.2.2.length y.1.2.1.2], .blk g4 26 [.slice none 0 0], .abs cb (fun w => Cod w cb)] ++ oths cb w)) (fun y => y.1.1) (⟨(k0, (none, 0), []), by dsimp only [List.length_nil]; omega, ⟨fun e he => absurd he List.not_mem_nil, rfl⟩, Nat.le_refl _, Nat.zero_le _⟩) ⟨rfl, rfl, rfl, rfl, trivial⟩ (fun w1 hw => hw) ?_
 rintro ⟨⟨k, ⟨A, c⟩, es⟩, hk, hEn, hoc, hom⟩
 dsimp only at hk hEn hoc hom ⊢
 refine zS (zSG (TL.mv ?_))
 refine TL.sp bin_gtr (fun q14 => ?_) (fun q14 => ?_)
 ·refine zET (zc (zk (zT (zS (zB ?_)))))
  refine TC.join (α := {y : Nat × (Option Addr × Nat) × List En × Int // (y.2.2.2 = 0 → ((∀ e ∈ y.2.2.1, EnG e) ∧ validR y.2.2.1 = true) ∧ y.2.2.1.length ≤ es.length + 1) ∧ y.2.2.1.length ≤ y.2.1.2 ∧ y.2.1.2 ≤ maxLen}) (fun y => [(0, .pointer (some ⟨cb, 0, none⟩)), (4, .pointer (some ⟨g4, 0, none⟩)), (5, .pointer (some ⟨g5, 0, none⟩)), (6, .int .i64 ((k : Nat) : Int)), (7, .pointer (some ⟨y.1.1, 0, none⟩)), (8, .int .i64 y.1.2.2.2)]) (fun y => Pm ⟨w, cb⟩ ([.row (.slice y.1.2.1.1 y.1.2.2.1.length y.1.2.1.2) 102 5 y.1.2.2.1.length (flat En.cells y.1.2.2.1), .blk y.1.1 26 [.slice y.1.2.1.1 y.1.2.2.1.length y.1.2.1.2], .row (.slice A es.length c) 102 5 es.length (flat En.cells es), .blk g5 26 [.slice A es.length c], .blk g4 26 [.slice none 0 0], .abs cb (fun w => Cod w cb)] ++ oths cb w)) ?_ ?_
  ·refine TC.held (ls := #[Ff,Ff,Ff,Ff,Ff,Ff,Ff,Ff,Ff,Ff]) (Pm ⟨w, cb⟩ [.blk g5 26 [.slice A es.length c]]) (by kernel_rfl) rfl rfl (fun w hw => hw.drawn _) ?_
   refine TH.tk 0 rfl rfl rfl (gV 0 (.agg #[.slice A es.length c]) breag26 bresz26) (fun w1 hw => hw.pick [1] (by decide) rfl) ?_
   refine TH.tk 1 rfl rfl rfl (gives_move rfl rfl) (fun w1 hw => hw.pick [1] (by decide) rfl) ?_
   refine TH.two' (listed1 := #[Tt,Tt,Tt,Ff,Ff,Ff,Ff,Ff,Ff,Ff]) (listed2 := #[Tt,Tt,Ff,Ff,Ff,Ff,Ff,Tt,Ff,Ff]) 2 7 rfl rfl (by kernel_rfl) rfl rfl ?_ ?_
   ·refine TL.pcallCod (k := 3) (α := {y : En // EnG y}) (fun x => .agg (x.1.cells).toArray) (fun x => []) rfl rfl rfl rfl rfl Tryz.func65 (by decide) rfl rfl (fun w1 hw hC1 => entry_cod cb w1 hC1) ?_
    rintro ⟨x20, hx20⟩
    dsimp only [List.cons_append, List.nil_append]
    refine zE ?_
    refine TX.held (fun w1 hw => hw.pick [1] (by decide) rfl) ?_
    refine TH.two' (listed1 := #[Tt,Tt,Tt,Tt,Ff,Ff,Ff,Ff,Ff,Ff]) (listed2 := #[Tt,Tt,Tt,Ff,Ff,Ff,Ff,Tt,Ff,Ff]) 3 7 rfl rfl (by kernel_rfl) rfl rfl ?_ ?_
    ·refine TL.pcallPm (α := {y : (Option Addr × Nat) × List En × Int // (y.2.2 = 0 → (∀ z ∈ y.2.1, z ∈ es ∨ z = x20) ∧ validR y.2.1 = true) ∧ y.2.1.length ≤ es.length + 1 ∧ y.2.1.length ≤ y.1.2 ∧ y.1.2 ≤ maxLen}) (fun y => .tuple #[.agg #[.slice y.1.1.1 y.1.2.1.length y.1.1.2], .int .i64 y.1.2.2]) (fun y => [.row (.slice y.1.1.1 y.1.2.1.length y.1.1.2) 102 5 y.1.2.1.length (flat En.cells y.1.2.1)]) rfl rfl rfl rfl rfl Tryz.func64 (by decide) rfl (fun w1 hw => raddX_any A c es x20 hx20.ok w1 (pm_rd hw (k := 0) rfl) (by omega) hoc (fun z hz => (hEn.1 z hz).ok)) ?_
     rintro ⟨⟨⟨Ar, cr⟩, rs, er⟩, hrs, hrl, hrc, hrd⟩
     dsimp only [List.cons_append, List.nil_append] at hrs hrl hrc hrd ⊢
     refine zE ?_
     refine TX.he (fun w1 hw => hw.pick [2] (by decide) rfl) fun hS => ?_
     refine TH.t 4 rfl (gives_move rfl rfl) hS ?_
     refine TH.t 5 rfl (gives_extract rfl rfl rfl) hS ?_
     refine TH.t 6 rfl (gives_extract rfl rfl rfl) hS ?_
     refine TH.only' 7 rfl (by kernel_rfl) rfl ?_
     refine TL.pnew rfl rfl rfl (exec_alloc (cs := [.slice none 0 0]) rfl brxzv26 rfl) (fun g7 => ?_)
     refine zE ?_
     refine TX.held (fun w1 hw => hw.pick [3] (by decide) rfl) ?_
     refine TH.only' 8 rfl (by kernel_rfl) rfl ?_
     refine TL.pstore (k := 0) (vs := [.slice Ar rs.length cr]) rfl rfl rfl rfl rfl rfl rfl bresz26 dntone_s (by show 1 ≤ 1; decide) rfl ?_
     refine zE ?_
     refine TX.he (fun w1 hw => hw.pick [3] (by decide) rfl) fun hS => ?_
     refine TH.t 9 rfl (gives_assign rfl rfl) hS ?_
     refine TH.done (by kernel_rfl) ?_
     exact TX.joined (⟨(g7, (Ar, cr), rs, er), fun h0 => ⟨⟨fun e he => ((hrs h0).1 e he).elim (hEn.1 e) (fun h1 => by rw [h1]; exact hx20), (hrs h0).2⟩, hrl⟩, hrc, hrd⟩) (⟨rfl, rfl, rfl, rfl, rfl, rfl, trivial⟩) (fun w1 hw => (show Pm ⟨w, cb⟩ ([.row (.slice Ar rs.length cr) 102 5 rs.length (flat En.cells rs), .blk g7 26 [.slice Ar rs.length cr], .row (.slice A es.length c) 102 5 es.length (flat En.cells es), .blk g5 26 [.slice A es.length c], .blk g4 26 [.slice none 0 0], .abs cb (fun w => Cod w cb)] ++ oths cb w) w1 from hw.pickT 6 [1, 0, 2, 3, 4, 5] (by decide) (by decide) rfl rfl))
    refine TL.pnew rfl rfl rfl (exec_alloc (cs := [.slice none 0 0]) rfl brxzv26 rfl) (fun g7 => ?_)
    refine zE ?_
    refine TX.held (fun w1 hw => hw.pick [2] (by decide) rfl) ?_
    refine TH.only' 3 rfl (by kernel_rfl) rfl ?_
    refine TL.pcallPm (α := {y : (Option Addr × Nat) × List En × Int // (y.2.2 = 0 → (∀ z ∈ y.2.1, z ∈ es ∨ z = x20) ∧ validR y.2.1 = true) ∧ y.2.1.length ≤ es.length + 1 ∧ y.2.1.length ≤ y.1.2 ∧ y.1.2 ≤ maxLen}) (fun y => .tuple #[.agg #[.slice y.1.1.1 y.1.2.1.length y.1.1.2], .int .i64 y.1.2.2]) (fun y => [.row (.slice y.1.1.1 y.1.2.1.length y.1.1.2) 102 5 y.1.2.1.length (flat En.cells y.1.2.1)]) rfl rfl rfl rfl rfl Tryz.func64 (by decide) rfl (fun w1 hw => raddX_any A c es x20 hx20.ok w1 (pm_rd hw (k := 1) rfl) (by omega) hoc (fun z hz => (hEn.1 z hz).ok)) ?_
    rintro ⟨⟨⟨Ar, cr⟩, rs, er⟩, hrs, hrl, hrc, hrd⟩
    dsimp only [List.cons_append, List.nil_append] at hrs hrl hrc hrd ⊢
    refine zE ?_
    refine TX.he (fun w1 hw => hw.pick [3] (by decide) rfl) fun hS => ?_
    refine TH.t 4 rfl (gives_move rfl rfl) hS ?_
    refine TH.t 5 rfl (gives_extract rfl rfl rfl) hS ?_
    refine TH.t 6 rfl (gives_extract rfl rfl rfl) hS ?_
    refine TH.only' 8 rfl (by kernel_rfl) rfl ?_
    refine TL.pstore (k := 1) (vs := [.slice Ar rs.length cr]) rfl rfl rfl rfl rfl rfl rfl bresz26 dntone_s (by show 1 ≤ 1; decide) rfl ?_
    refine zE ?_
    refine TX.he (fun w1 hw => hw.pick [3] (by decide) rfl) fun hS => ?_
    refine TH.t 9 rfl (gives_assign rfl rfl) hS ?_
    refine TH.done (by kernel_rfl) ?_
    exact TX.joined (⟨(g7, (Ar, cr), rs, er), fun h0 => ⟨⟨fun e he => ((hrs h0).1 e he).elim (hEn.1 e) (fun h1 => by rw [h1]; exact hx20), (hrs h0).2⟩, hrl⟩, hrc, hrd⟩) (⟨rfl, rfl, rfl, rfl, rfl, rfl, trivial⟩) (fun w1 hw => hw)
   refine TL.pnew rfl rfl rfl (exec_alloc (cs := [.slice none 0 0]) rfl brxzv26 rfl) (fun g7 => ?_)
   refine zE ?_
   refine TX.held (fun w1 hw => hw.pick [2] (by decide) rfl) ?_
   refine TH.only' 2 rfl (by kernel_rfl) rfl ?_
   refine TL.pcallCod (k := 4) (α := {y : En // EnG y}) (fun x => .agg (x.1.cells).toArray) (fun x => []) rfl rfl rfl rfl rfl Tryz.func65 (by decide) rfl rfl (fun w1 hw hC1 => entry_cod cb w1 hC1) ?_
   rintro ⟨x20, hx20⟩
   dsimp only [List.cons_append, List.nil_append]
   refine zE ?_
   refine TX.held (fun w1 hw => hw.pick [2] (by decide) rfl) ?_
   refine TH.only' 3 rfl (by kernel_rfl) rfl ?_
   refine TL.pcallPm (α := {y : (Option Addr × Nat) × List En × Int // (y.2.2 = 0 → (∀ z ∈ y.2.1, z ∈ es ∨ z = x20) ∧ validR y.2.1 = true) ∧ y.2.1.length ≤ es.length + 1 ∧ y.2.1.length ≤ y.1.2 ∧ y.1.2 ≤ maxLen}) (fun y => .tuple #[.agg #[.slice y.1.1.1 y.1.2.1.length y.1.1.2], .int .i64 y.1.2.2]) (fun y => [.row (.slice y.1.1.1 y.1.2.1.length y.1.1.2) 102 5 y.1.2.1.length (flat En.cells y.1.2.1)]) rfl rfl rfl rfl rfl Tryz.func64 (by decide) rfl (fun w1 hw => raddX_any A c es x20 hx20.ok w1 (pm_rd hw (k := 1) rfl) (by omega) hoc (fun z hz => (hEn.1 z hz).ok)) ?_
   rintro ⟨⟨⟨Ar, cr⟩, rs, er⟩, hrs, hrl, hrc, hrd⟩
   dsimp only [List.cons_append, List.nil_append] at hrs hrl hrc hrd ⊢
   refine zE ?_
   refine TX.he (fun w1 hw => hw.pick [3] (by decide) rfl) fun hS => ?_
   refine TH.t 4 rfl (gives_move rfl rfl) hS ?_
   refine TH.t 5 rfl (gives_extract rfl rfl rfl) hS ?_
   refine TH.t 6 rfl (gives_extract rfl rfl rfl) hS ?_
   refine TH.only' 8 rfl (by kernel_rfl) rfl ?_
   refine TL.pstore (k := 1) (vs := [.slice Ar rs.length cr]) rfl rfl rfl rfl rfl rfl rfl bresz26 dntone_s (by show 1 ≤ 1; decide) rfl ?_
   refine zE ?_
   refine TX.he (fun w1 hw => hw.pick [3] (by decide) rfl) fun hS => ?_
   refine TH.t 9 rfl (gives_assign rfl rfl) hS ?_
   refine TH.done (by kernel_rfl) ?_
   exact TX.joined (⟨(g7, (Ar, cr), rs, er), fun h0 => ⟨⟨fun e he => ((hrs h0).1 e he).elim (hEn.1 e) (fun h1 => by rw [h1]; exact hx20), (hrs h0).2⟩, hrl⟩, hrc, hrd⟩) (⟨rfl, rfl, rfl, rfl, rfl, rfl, trivial⟩) (fun w1 hw => hw)
  rintro ⟨⟨g7, ⟨Ar, cr⟩, rs, er⟩, hrs, hrc, hrd⟩
  dsimp only at hrs hrc hrd ⊢
  refine zSG (TL.mv ?_)
  refine TL.sp bin_eql (fun q25 => ?_) (fun q25 => ?_)
  ·refine zET (zc (zG (TL.v (gV 1 (.agg #[.slice Ar rs.length cr]) breag26 bresz26) ?_)))
   refine TL.pstore (k := 3) (vs := [.slice Ar rs.length cr]) rfl rfl rfl rfl rfl rfl rfl bresz26 dntone_s (by show 1 ≤ 1; decide) rfl ?_
   refine zE (zN (zT (zG (TL.mv ?_))))
   refine TL.val rfl rfl rfl (gives_bin rfl rfl rfl (fun w => bin_sub_ (r := ((k - 1 : Nat) : Int)) (by simp only [IntKind.wrap_i64]; omega) w)) ?_
   refine TL.as_ ?_
   refine zE ?_
   exact TX.round (⟨(k - 1, (Ar, cr), rs), by dsimp only; have := (hrs q25).2; omega, (hrs q25).1, hrc, hrd⟩) (by show k - 1 < k; omega) ⟨rfl, rfl, rfl, rfl, trivial⟩ (fun w1 hw => hw.sel (.cons_cons _ (.cons _ (.cons _ (.cons_cons _ (.cons_cons _ (.cons_cons _ (List.Sublist.refl _))))))))
  refine zET (zd (zk (zN (zT (zG (TL.mv ?_))))))
  refine TL.val rfl rfl rfl (gives_bin rfl rfl rfl (fun w => bin_sub_ (r := ((k - 1 : Nat) : Int)) (by simp only [IntKind.wrap_i64]; omega) w)) ?_
  refine TL.as_ ?_
  refine zE ?_
  exact TX.round (⟨(k - 1, (A, c), es), by dsimp only; omega, hEn, hoc, hom⟩) (by show k - 1 < k; omega) ⟨rfl, rfl, rfl, rfl, trivial⟩ (fun w1 hw => hw.sel (.cons _ (.cons _ (.cons_cons _ (.cons_cons _ (.cons_cons _ (.cons_cons _ (List.Sublist.refl _))))))))
 refine zET (zd (zx (zX (zX (zM (zT (zSG (TL.v (gV 1 (.agg #[.slice A es.length c]) breag26 bresz26) ?_))))))))
 refine TL.pstore (k := 2) (vs := [.slice A es.length c]) rfl rfl rfl rfl rfl rfl rfl bresz26 dntone_s (by show 1 ≤ 1; decide) rfl ?_
 refine zET (zr ?_)
 exact pm_ret_cell (k := 2) Tryz.results19 rfl rfl Tryz.underlying26 rfl rfl (fun w1 hw => ⟨⟨((A, c), es), hEn, by dsimp only; omega, hoc, hom⟩, rfl, Pm.codr [_] (hw.sel (.cons_cons _ (.cons _ (.cons _ (.cons_cons _ (List.Sublist.refl _)))))) rfl⟩)
set_option maxRecDepth 20000
theorem rp_eqn (a0 b0 : Int) (a1 b1 : Int) (a2 b2 : Int) (a3 b3 : Int) (a4 b4 : Int) (a5 b5 : Int) (a6 b6 : Int) (a7 b7 : Int) (w : World) : (Op.equalIn 10000 34 (.agg #[.int .i64 a0, .int .i64 a1, .int .u32 a2, .int .i64 a3, .int .i64 a4, .int .i64 a5, .int .i64 a6, .int .i64 a7]) (.agg #[.int .i64 b0, .int .i64 b1, .int .u32 b2, .int .i64 b3, .int .i64 b4, .int .i64 b5, .int .i64 b6, .int .i64 b7])).run Tryz.prog w = .ok (decide (a0 = b0 ∧ a1 = b1 ∧ a2 = b2 ∧ a3 = b3 ∧ a4 = b4 ∧ a5 = b5 ∧ a6 = b6 ∧ a7 = b7)) w := by
  have hS : Tryz.prog.underlying 34 = some (.struct (Tryz.prog.fieldsOf 34)) := by kernel_rfl
  have hp : Tryz.prog.stoodInHeld 34 = false := by kernel_rfl
  rw [show (10000 : Nat) = 9999 + 1 from rfl, run_equalIn_agg w 9999 34 _ _ hS hp]
  simp only [Program.fieldsOf, Tryz.underlying34]
  have uI := Tryz.underlying3
  have aI := Tryz.isAgg3
  have zI := Tryz.sizeOf3
  have aT := Tryz.isAgg32
  have zT := Tryz.sizeOf32
  have eT := fun x y x1 y1 x2 y2 => trc_eqn x y x1 y1 x2 y2 9997
  go_simp
  by_cases h0 : a0 = b0
  rotate_left
  · simp [h0]
  subst h0
  by_cases h4 : a4 = b4
  rotate_left
  · simp [h4]
  subst h4
  by_cases h5 : a5 = b5
  rotate_left
  · simp [h5]
  subst h5
  by_cases h6 : a6 = b6
  rotate_left
  · simp [h6]
  subst h6
  by_cases h1 : a1 = b1 <;> by_cases h2 : a2 = b2 <;> by_cases h3 : a3 = b3 <;> by_cases h7 : a7 = b7 <;> simp [h1, h2, h3, h7]
theorem rp_eq (x y : Rp) : (x = y) ↔ x.kind = y.kind ∧ x.v = y.v ∧ x.dst = y.dst ∧ x.proto = y.proto ∧ x.flow = y.flow ∧ x.ttl = y.ttl ∧ x.at_ = y.at_ ∧ x.prov = y.prov := by
  cases x; cases y; simp
theorem rp_eql (x y : Rp) (ox oy : Operand) (w : World) : (do eqGuard .eql 34 ox oy (.agg x.cells.toArray) (.agg y.cells.toArray); binOp .eql 34 (.agg x.cells.toArray) (.agg y.cells.toArray) : Sem Value).run Tryz.prog w = .ok (.bool (decide (x = y))) w := by
  rw [Sem.run_bind, run_eqGuard_agg w .eql 34 ox oy _ _ (by kernel_rfl), Result.andThen_ok, run_eql_struct]
  have h := rp_eqn x.kind y.kind x.v y.v x.dst y.dst x.proto y.proto x.flow y.flow x.ttl y.ttl x.at_ y.at_ x.prov y.prov w
  have h2 : (Op.equalIn 10000 34 (.agg x.cells.toArray) (.agg y.cells.toArray)).run Tryz.prog w = .ok (decide (x.kind = y.kind ∧ x.v = y.v ∧ x.dst = y.dst ∧ x.proto = y.proto ∧ x.flow = y.flow ∧ x.ttl = y.ttl ∧ x.at_ = y.at_ ∧ x.prov = y.prov)) w := h
  rw [h2, Result.andThen_ok, decide_eq_decide.2 (rp_eq x y)]
set_option maxRecDepth 20000
theorem exb {α : Type} {l : List α} {P : α → Prop} {j : Nat} {x : α} {b c : Bool} (h : b = true ↔ ∃ q ∈ l.take j, P q) (hx : l[j]? = some x) (hb : c = true ↔ (b = true ∨ P x)) : c = true ↔ ∃ q ∈ l.take (j + 1), P q := by
 rw [hb, h]
 constructor
 ·rintro (⟨q, h1, h2⟩ | h1)
  ·exact ⟨q, (mem_take_snoc hx).2 (.inl h1), h2⟩
  exact ⟨x, (mem_take_snoc hx).2 (.inr rfl), h1⟩
 rintro ⟨q, h1, h2⟩
 rcases (mem_take_snoc hx).1 h1 with h3 | h3
 ·exact .inl ⟨q, h3, h2⟩
 rw [h3] at h2; exact .inr h2
theorem exb_zero {α : Type} {l : List α} {P : α → Prop} : false = true ↔ ∃ q ∈ l.take 0, P q := by
 rw [List.take_zero]
 exact ⟨fun h => (by cases h), fun ⟨q, h, _⟩ => absurd h List.not_mem_nil⟩
theorem or_tt {P : Prop} {b : Bool} (h : b = true) : true = true ↔ (b = true ∨ P) := ⟨fun _ => .inl h, fun _ => rfl⟩
theorem or_t {P : Prop} (h : P) : true = true ↔ (false = true ∨ P) := ⟨fun _ => .inr h, fun _ => rfl⟩
theorem or_f {P : Prop} (h : ¬ P) : false = true ↔ (false = true ∨ P) := ⟨fun h => (by cases h), fun h1 => h1.elim id fun h2 => absurd h2 h⟩
def LkP (rq q : Rp) : Prop := q.cand = rq.cand ∧ q.at_ ≤ rq.at_
theorem lk_when {x rq : Rp} : (⟨x.kind, x.v, x.dst, x.proto, x.flow, x.ttl, rq.at_, x.prov⟩ : Rp) = rq ↔ x.cand = rq.cand := like_iff
theorem asc_adj {l : List Rp} {i : Nat} {x y : Rp} (h : AscK Rp.keys l) (hx : l[i]? = some x) (hy : l[i - 1]? = some y) (hi : 0 < i) : cmpRp y x < 0 := by
 obtain ⟨h1, rfl⟩ := List.getElem?_eq_some_iff.1 hx
 obtain ⟨h2, rfl⟩ := List.getElem?_eq_some_iff.1 hy
 exact (List.pairwise_iff_getElem.1 h) (i - 1) i h2 h1 (by omega)
theorem anomalyComplete_walk (A0 : Option Addr) (n0 c0 : Nat) (l0 : List Int) (w : World) (hb0 : Byt w w.heap.size A0 n0 l0) (hc0 : n0 ≤ c0) (hm0 : c0 ≤ maxLen) :
  Calls Tryz.prog 7 #[.slice A0 n0 c0] w fun e w' => e = .returned (.bool true) ∧ Below w.heap.size w w' := by
 have hn0 : (n0 : Int) ≤ 9223372036854775807 := by unfold maxLen at hm0; omega
 refine begin_ (vs := [.slice A0 n0 c0]) Tryz.func7 rfl rfl rfl ?_ (Pm.start w)
 refine zSG (TL.as_ ?_)
 refine zET (zS (zSG ?_))
 refine TL.pcall1 (r := .bool true) rfl rfl rfl rfl rfl Tryz.func15 (by decide) rfl (fun w1 hw => awake_true w1) ?_
 refine TL.val rfl rfl rfl (gives_boolnot rfl rfl) ?_
 refine zET (zd (zk (zT (zSG (TL.mv ?_)))))
 refine TL.callNew (I := Pm w []) (p := fun cb w => Cod w cb) rfl rfl rfl rfl rfl Tryz.func16 (by decide) rfl (fun w1 hw => (roll_any A0 n0 c0 l0 w1 ((hb0.below hw.bel).more hw.bel.size) hc0 hn0).mono fun e w2 ⟨h1, h2, h3⟩ => ⟨h1, h2, cod_cells h2, h3⟩) cod_stab (fun wn hwn => ?_)
 have hwb := hwn.bel
 refine TL.as_ ?_
 refine zET (zSG (TL.rn 2 rfl ?_))
 refine TL.pcallCod (k := 0) (α := Bool) (fun x => .bool x) (fun x => []) rfl rfl rfl rfl rfl Tryz.func18 (by decide) rfl rfl (fun w1 hw hC1 => dbool_cod wn.heap.size w1 hC1 3 (by decide)) ?_
 rintro b0
 dsimp only [List.cons_append, List.nil_append]
 refine TL.val rfl rfl rfl (gives_boolnot (b := b0) rfl rfl) ?_
 refine TL.pcallCod (k := 0) (α := {y : (Option Addr × Nat) × List Rs // DrawnOk 24 y.2 ∧ y.2.length ≤ y.1.2 ∧ y.1.2 ≤ maxLen}) (fun x => .slice x.1.1.1 x.1.2.length x.1.1.2) (fun x => [.row (.slice x.1.1.1 x.1.2.length x.1.1.2) 65 17 x.1.2.length (flat Rs.cells x.1.2)]) rfl rfl rfl rfl rfl Tryz.func17 (by decide) rfl rfl (fun w1 hw hC1 => results_cod wn.heap.size w1 hC1 24 (!b0) (by decide)) ?_
 rintro ⟨⟨⟨Axs, cxs⟩, xs⟩, hxs, hxsc, hxsm⟩
 dsimp only [List.cons_append, List.nil_append]
 dsimp only at hxs hxsc hxsm ⊢
 have hxslen := hxs.2.2
 have hxsok : ∀ r ∈ xs, r.Ok := fun r hr => (hxs.1 r hr).2.1
 have hxsv : ∀ r ∈ xs, vldRs r = true := fun r hr => (hxs.1 r hr).1
 refine TL.mv ?_
 refine TL.pcallCod (k := 1) (α := {y : (Option Addr × Nat) × List En // ((∀ e ∈ y.2, EnG e) ∧ validR y.2 = true) ∧ y.2.length ≤ 8 ∧ y.2.length ≤ y.1.2 ∧ y.1.2 ≤ maxLen}) (fun x => .agg #[.slice x.1.1.1 x.1.2.length x.1.1.2]) (fun x => [.row (.slice x.1.1.1 x.1.2.length x.1.1.2) 102 5 x.1.2.length (flat En.cells x.1.2)]) rfl rfl rfl rfl rfl Tryz.func19 (by decide) rfl rfl (fun w1 hw hC1 => registryX_cod wn.heap.size w1 hC1 8 (by decide)) ?_
 rintro ⟨⟨⟨Areg, creg⟩, reg⟩, hreg, hregl, hregc, hregm⟩
 dsimp only [List.cons_append, List.nil_append]
 dsimp only at hreg hregl hregc hregm ⊢
 have hregok : ∀ z ∈ reg, z.Ok := fun z hz => (hreg.1 z hz).ok
 refine TL.mv ?_
 refine TL.pcallCod (k := 2) (α := {u : Ru // RuG u}) (fun x => .agg (x.1.cells).toArray) (fun x => []) rfl rfl rfl rfl rfl Tryz.func20 (by decide) rfl rfl (fun w1 hw hC1 => drule_cod wn.heap.size w1 hC1) ?_
 rintro ⟨ru, hru⟩
 dsimp only [List.cons_append, List.nil_append]
 refine TL.pnew rfl rfl rfl (exec_alloc (cs := [.slice none 0 0]) rfl brxzv26 rfl) (fun g5 => ?_)
 refine TL.pnew rfl rfl rfl (exec_alloc (cs := [.int .i64 0, .int .i64 0, .int .i64 0]) rfl adrzv28 rfl) (fun g6 => ?_)
 refine TL.as_ ?_
 refine TL.pstore (k := 1) (vs := [.slice Areg reg.length creg]) rfl rfl rfl rfl rfl rfl rfl bresz26 dntone_s (by show 1 ≤ 1; decide) rfl ?_
 refine TL.pstore (k := 0) (vs := ru.cells) rfl rfl rfl rfl rfl rfl rfl aprsz28 (by first | exact idn_cel.one _ | exact ru_cel.one _) (by show 3 ≤ 3; decide) (L' := [.blk g6 28 ru.cells, .blk g5 26 [.slice Areg reg.length creg], .row (.slice Areg reg.length creg) 102 5 reg.length (flat En.cells reg), .row (.slice Axs xs.length cxs) 65 17 xs.length (flat Rs.cells xs), .abs wn.heap.size (fun w => Cod w wn.heap.size)]) rfl ?_
 refine zET (zSG (TL.mv ?_))
 refine TL.v (gV 1 (.agg #[.slice Areg reg.length creg]) breag26 bresz26) ?_
 refine TL.v (gV 0 (.agg (ru.cells).toArray) aprag28 aprsz28) ?_
 refine TL.pcallPm (α := {y : ((Option Addr × Nat) × List Rp) × Int // FndOk reg xs ru y.1.2 y.2 ∧ y.1.2.length ≤ 100000000000 ∧ y.1.2.length ≤ y.1.1.2 ∧ y.1.1.2 ≤ maxLen}) (fun x => .tuple #[.slice x.1.1.1.1 x.1.1.2.length x.1.1.1.2, .int .i64 x.1.2]) (fun x => [.row (.slice x.1.1.1.1 x.1.1.2.length x.1.1.1.2) 34 8 x.1.1.2.length (flat Rp.cells x.1.1.2)]) rfl rfl rfl rfl rfl Tryz.func39 (by decide) rfl (fun w1 hw => fnd_any Axs cxs xs Areg creg reg ru w1 (pm_rd hw (k := 3) rfl) (by omega) hxsok (pm_rd hw (k := 2) rfl)) ?_
 rintro ⟨⟨⟨⟨Afo, cfo⟩, fo⟩, efo⟩, hfo, hfol, hfoc, hfom⟩
 dsimp only [List.cons_append, List.nil_append]
 dsimp only at hfo hfol hfoc hfom ⊢
 obtain ⟨hfz, hfd⟩ := hfo.good hxsv hreg.2 hru.vld (by omega)
 refine TL.rn 5 rfl (zET (zS (zSG (TL.mv ?_))))
 refine TL.val rfl rfl rfl (gives_bin rfl rfl rfl (fun w => bin_neq_f (hfz) w)) ?_
 refine zET (zd (zk (zT (zS (zSG (TL.as_ ?_))))))
 refine zET (zB (TC.loop_ (α := {k : Nat // k ≤ 6}) (fun y => [(3, .pointer (some ⟨wn.heap.size, 0, none⟩)), (4, .slice Axs xs.length cxs), (5, .pointer (some ⟨g5, 0, none⟩)), (6, .pointer (some ⟨g6, 0, none⟩)), (7, .slice Afo fo.length cfo), (9, .int .i64 ((y.1 : Nat) : Int))]) (fun y => Pm wn [.row (.slice Afo fo.length cfo) 34 8 fo.length (flat Rp.cells fo), .blk g6 28 ru.cells, .blk g5 26 [.slice Areg reg.length creg], .row (.slice Areg reg.length creg) 102 5 reg.length (flat En.cells reg), .row (.slice Axs xs.length cxs) 65 17 xs.length (flat Rs.cells xs), .abs wn.heap.size (fun w => Cod w wn.heap.size)]) (fun y => 6 - y.1) (⟨0, Nat.zero_le _⟩) ⟨rfl, rfl, rfl, rfl, rfl, rfl, trivial⟩ (fun w1 hw => hw) ?_))
 rintro ⟨k, hk⟩
 try dsimp only at hk ⊢
 refine zS (zSG (TL.mv ?_))
 refine TL.sp bin_lss (fun q43 => ?_) (fun q43 => ?_)
 ·refine zET (zc (zk (zT (zS (zB (zSG (TL.rn 2 rfl ?_)))))))
  refine TL.call (α := {y : Rp // y.Ok}) (r := fun q9 => .agg (q9.1.cells).toArray) (I' := fun q9 => Pm wn [.abs wn.heap.size (fun w => Cod w wn.heap.size), .row (.slice Afo fo.length cfo) 34 8 fo.length (flat Rp.cells fo), .blk g6 28 ru.cells, .blk g5 26 [.slice Areg reg.length creg], .row (.slice Areg reg.length creg) 102 5 reg.length (flat En.cells reg), .row (.slice Axs xs.length cxs) 65 17 xs.length (flat Rs.cells xs)]) rfl rfl rfl rfl rfl Tryz.func26 (by decide) rfl (fun w1 hw => rep_fr wn [.row (.slice Afo fo.length cfo) 34 8 fo.length (flat Rp.cells fo), .blk g6 28 ru.cells, .blk g5 26 [.slice Areg reg.length creg], .row (.slice Areg reg.length creg) 102 5 reg.length (flat En.cells reg), .row (.slice Axs xs.length cxs) 65 17 xs.length (flat Rs.cells xs)] wn.heap.size Axs cxs xs (fun w1 hw => (pm_rd hw (k := 5) rfl)) (by omega) hxsok w1 (hw.pick [5, 0, 1, 2, 3, 4] (by decide) rfl)) ?_
  rintro ⟨rq, hrq⟩
  refine TL.pnew rfl rfl rfl (exec_alloc (cs := [.int .i64 0, .int .i64 0, .int .u32 0, .int .i64 0, .int .i64 0, .int .i64 0, .int .i64 0, .int .i64 0]) rfl asezv34 rfl) (fun g10 => ?_)
  refine TL.pstore (k := 0) (vs := rq.cells) rfl rfl rfl rfl rfl rfl rfl aprsz34 (rp_cel.one _) (by show 8 ≤ 8; decide) (L' := [.blk g10 34 rq.cells, .abs wn.heap.size (fun w => Cod w wn.heap.size), .row (.slice Afo fo.length cfo) 34 8 fo.length (flat Rp.cells fo), .blk g6 28 ru.cells, .blk g5 26 [.slice Areg reg.length creg], .row (.slice Areg reg.length creg) 102 5 reg.length (flat En.cells reg), .row (.slice Axs xs.length cxs) 65 17 xs.length (flat Rs.cells xs)]) rfl ?_
  refine zET (zS (zSG (TL.mv ?_)))
  refine TL.v (gV 4 (.agg #[.slice Areg reg.length creg]) breag26 bresz26) ?_
  refine TL.v (gV 3 (.agg (ru.cells).toArray) aprag28 aprsz28) ?_
  refine TL.v (gV 0 (.agg (rq.cells).toArray) aprag34 aprsz34) ?_
  refine TL.pcallPm (α := {b : Bool // b = true ↔ PrP reg xs ru rq}) (fun x => .bool x.1) (fun x => []) rfl rfl rfl rfl rfl Tryz.func37 (by decide) rfl (fun w1 hw => (proves_any Axs cxs xs Areg creg reg ru rq w1 (pm_rd hw (k := 6) rfl) (by omega) hxsok (pm_rd hw (k := 5) rfl)).mono fun en w2 ⟨x, h1, h2⟩ => ⟨x, h1, (Pm.start w1).below h2⟩) ?_
  rintro ⟨b1, hb1⟩
  dsimp only [List.cons_append, List.nil_append]
  cases b1 with
  | true =>
   refine TL.val rfl rfl rfl (gives_boolnot rfl rfl) ?_
   refine zET (zd (zk (zT (zSG (TL.rn 2 rfl (zET (zS (zSG (TL.mv ?_)))))))))
   refine TL.v (gN Tryz.underlying49) ?_
   refine TL.mv ?_
   refine zET (zB (TC.loop_ (α := {y : Nat × Bool // y.1 ≤ fo.length ∧ (y.2 = true ↔ ∃ q ∈ fo.take y.1, LkP rq q)}) (fun y => [(3, .pointer (some ⟨wn.heap.size, 0, none⟩)), (4, .slice Axs xs.length cxs), (5, .pointer (some ⟨g5, 0, none⟩)), (6, .pointer (some ⟨g6, 0, none⟩)), (7, .slice Afo fo.length cfo), (9, .int .i64 ((k : Nat) : Int)), (10, .pointer (some ⟨g10, 0, none⟩)), (55, .slice Afo fo.length cfo), (56, .int .i64 (fo.length : Nat)), (12, .bool false), (57, .int .i64 ((y.1.1 : Nat) : Int)), (11, .bool y.1.2)]) (fun y => Pm wn [.blk g10 34 rq.cells, .abs wn.heap.size (fun w => Cod w wn.heap.size), .row (.slice Afo fo.length cfo) 34 8 fo.length (flat Rp.cells fo), .blk g6 28 ru.cells, .blk g5 26 [.slice Areg reg.length creg], .row (.slice Areg reg.length creg) 102 5 reg.length (flat En.cells reg), .row (.slice Axs xs.length cxs) 65 17 xs.length (flat Rs.cells xs)]) (fun y => fo.length - y.1.1) (⟨(0, false), Nat.zero_le _, exb_zero⟩) ⟨rfl, rfl, rfl, rfl, rfl, rfl, rfl, rfl, rfl, rfl, rfl, rfl, trivial⟩ (fun w1 hw => hw) ?_))
   rintro ⟨⟨j, okb⟩, hj, hokb⟩
   dsimp only at hj hokb ⊢
   refine zSG ?_
   refine TL.sp bin_lss (fun q58 => ?_) (fun q58 => ?_)
   ·refine zET (zS (zc (zk (zT (zS (zB (zSG ?_)))))))
    refine TL.fact (p := ∃ g, Afo = some ⟨g, 0, none⟩) (fun w1 hw => rowA hw (k := 2) rfl (by omega)) ?_
    rintro ⟨g_Afo, rfl⟩
    have hi59 : j < fo.length := by omega
    obtain ⟨x59, hx59⟩ := ex_at hi59
    refine TL.val rfl rfl rfl (gA (i := j) Tryz.underlying49 aprsz34 rfl rfl rfl rfl rfl (by omega)) ?_
    refine TL.val rfl rfl rfl (gives_loadR (off := 0 + j * 8) rfl rfl aprag34 aprsz34 (rp_cel.len x59) (fun w1 hw j9 u9 h9 => flat_row rp_cel hw (q := 2) rfl hx59 j9 u9 h9)) ?_
    refine TL.pnew rfl rfl rfl (exec_alloc (cs := [.int .i64 0, .int .i64 0, .int .u32 0, .int .i64 0, .int .i64 0, .int .i64 0, .int .i64 0, .int .i64 0]) rfl asezv34 rfl) (fun g14 => ?_)
    refine TL.pstore (k := 0) (vs := x59.cells) rfl rfl rfl rfl rfl rfl rfl aprsz34 (rp_cel.one _) (by show 8 ≤ 8; decide) (L' := [.blk g14 34 x59.cells, .blk g10 34 rq.cells, .abs wn.heap.size (fun w => Cod w wn.heap.size), .row (.slice (some ⟨g_Afo, 0, none⟩) fo.length cfo) 34 8 fo.length (flat Rp.cells fo), .blk g6 28 ru.cells, .blk g5 26 [.slice Areg reg.length creg], .row (.slice Areg reg.length creg) 102 5 reg.length (flat En.cells reg), .row (.slice Axs xs.length cxs) 65 17 xs.length (flat Rs.cells xs)]) rfl ?_
    refine zET (zSG (TL.v (gF arpfld34_4) ?_))
    refine TL.v (gL 0 pcmag3) ?_
    refine TL.as_ ?_
    refine zET (zSG (TL.v (gF arpfld34_4) ?_))
    refine TL.v (gL 1 pcmag3) ?_
    refine TL.v (gF arpfld34_4) ?_
    refine TL.pstore (k := 0) (vs := [.int .i64 rq.at_]) rfl rfl rfl rfl rfl rfl rfl pcmsz3 aeaone_i64 (by show 7 ≤ 8; decide) rfl ?_
    refine zET (zG (TL.rn 2 rfl ?_))
    cases okb with
    | true =>
     refine TL.rn 4 rfl ?_
     refine TL.offU rfl rfl rfl rfl rfl ?_
     refine TL.offU rfl rfl rfl rfl rfl ?_
     refine TL.offU rfl rfl rfl rfl rfl ?_
     refine TL.offU rfl rfl rfl rfl rfl ?_
     refine TL.rn 3 rfl (zE (zN (zT (zG (TL.v (gD ((j + 1 : Nat) : Int)) ?_)))))
     refine TL.mv ?_
     refine zE ?_
     exact TX.round (⟨(j + 1, true), by dsimp only; omega, exb hokb hx59 (or_tt rfl)⟩) (by show fo.length - (j + 1) < fo.length - j; omega) ⟨rfl, rfl, rfl, rfl, rfl, rfl, rfl, rfl, rfl, rfl, rfl, rfl, trivial⟩ (fun w1 hw => hw.pick [1, 2, 3, 4, 5, 6, 7] (by decide) rfl)
    | false =>
     refine TL.ov (gV 0 (.agg #[.int .i64 x59.kind, .int .i64 x59.v, .int .u32 x59.dst, .int .i64 x59.proto, .int .i64 x59.flow, .int .i64 x59.ttl, .int .i64 rq.at_, .int .i64 x59.prov]) aprag34 aprsz34) ?_
     refine TL.ov (gV 1 (.agg (rq.cells).toArray) aprag34 aprsz34) ?_
     refine TL.gu ?_
     refine TL.vsplit rfl rfl rfl (gives_bin2 rfl rfl rfl (fun w => rp_eql (⟨x59.kind, x59.v, x59.dst, x59.proto, x59.flow, x59.ttl, rq.at_, x59.prov⟩ : Rp) rq _ _ w)) (fun h70 => ?_) (fun h70 => ?_)
     ·have q70 := of_decide_eq_true h70
      refine TL.rn 2 rfl (TL.ov (gF arpfld34_4) ?_)
      refine TL.ov (gL 1 pcmag3) ?_
      refine TL.gu ?_
      refine TL.sp bin_leq (fun q75 => ?_) (fun q75 => ?_)
      ·refine TL.rn 3 rfl (zE (zN (zT (zG (TL.v (gD ((j + 1 : Nat) : Int)) ?_)))))
       refine TL.mv ?_
       refine zE ?_
       exact TX.round (⟨(j + 1, true), by dsimp only; omega, exb hokb hx59 (or_t ⟨lk_when.1 q70, q75⟩)⟩) (by show fo.length - (j + 1) < fo.length - j; omega) ⟨rfl, rfl, rfl, rfl, rfl, rfl, rfl, rfl, rfl, rfl, rfl, rfl, trivial⟩ (fun w1 hw => hw.pick [1, 2, 3, 4, 5, 6, 7] (by decide) rfl)
      refine TL.rn 3 rfl (zE (zN (zT (zG (TL.v (gD ((j + 1 : Nat) : Int)) ?_)))))
      refine TL.mv ?_
      refine zE ?_
      exact TX.round (⟨(j + 1, false), by dsimp only; omega, exb hokb hx59 (or_f fun h => q75 h.2)⟩) (by show fo.length - (j + 1) < fo.length - j; omega) ⟨rfl, rfl, rfl, rfl, rfl, rfl, rfl, rfl, rfl, rfl, rfl, rfl, trivial⟩ (fun w1 hw => hw.pick [1, 2, 3, 4, 5, 6, 7] (by decide) rfl)
     have q70 := of_decide_eq_false h70
     refine TL.rn 8 rfl (zE (zN (zT (zG (TL.v (gD ((j + 1 : Nat) : Int)) ?_)))))
     refine TL.mv ?_
     refine zE ?_
     exact TX.round (⟨(j + 1, false), by dsimp only; omega, exb hokb hx59 (or_f fun h => q70 (lk_when.2 h.1))⟩) (by show fo.length - (j + 1) < fo.length - j; omega) ⟨rfl, rfl, rfl, rfl, rfl, rfl, rfl, rfl, rfl, rfl, rfl, rfl, trivial⟩ (fun w1 hw => hw.pick [1, 2, 3, 4, 5, 6, 7] (by decide) rfl)
   refine zET (zS (zd (zx (zX (zX (zM (zT (zS (zSG (TL.mv ?_))))))))))
   refine TL.v (gN Tryz.underlying23) ?_
   refine TL.mv ?_
   refine zET (zB (TC.loop_ (α := {y : Nat × Bool // y.1 ≤ xs.length ∧ (y.2 = true ↔ ∃ q ∈ xs.take y.1, PrbAt rq q)}) (fun y => [(3, .pointer (some ⟨wn.heap.size, 0, none⟩)), (4, .slice Axs xs.length cxs), (5, .pointer (some ⟨g5, 0, none⟩)), (6, .pointer (some ⟨g6, 0, none⟩)), (7, .slice Afo fo.length cfo), (9, .int .i64 ((k : Nat) : Int)), (10, .pointer (some ⟨g10, 0, none⟩)), (11, .bool okb), (79, .slice Axs xs.length cxs), (80, .int .i64 (xs.length : Nat)), (81, .int .i64 ((y.1.1 : Nat) : Int)), (12, .bool y.1.2)]) (fun y => Pm wn [.blk g10 34 rq.cells, .abs wn.heap.size (fun w => Cod w wn.heap.size), .row (.slice Afo fo.length cfo) 34 8 fo.length (flat Rp.cells fo), .blk g6 28 ru.cells, .blk g5 26 [.slice Areg reg.length creg], .row (.slice Areg reg.length creg) 102 5 reg.length (flat En.cells reg), .row (.slice Axs xs.length cxs) 65 17 xs.length (flat Rs.cells xs)]) (fun y => xs.length - y.1.1) (⟨(0, false), Nat.zero_le _, exb_zero⟩) ⟨rfl, rfl, rfl, rfl, rfl, rfl, rfl, rfl, rfl, rfl, rfl, rfl, trivial⟩ (fun w1 hw => hw) ?_))
   rintro ⟨⟨m, pb⟩, hm, hpb⟩
   dsimp only at hm hpb ⊢
   refine zSG ?_
   refine TL.sp bin_lss (fun q82 => ?_) (fun q82 => ?_)
   ·refine zET (zS (zc (zk (zT (zS (zB (zSG ?_)))))))
    refine TL.fact (p := ∃ g, Axs = some ⟨g, 0, none⟩) (fun w1 hw => rowA hw (k := 6) rfl (by omega)) ?_
    rintro ⟨g_Axs, rfl⟩
    have hi83 : m < xs.length := by omega
    obtain ⟨x83, hx83⟩ := ex_at hi83
    refine TL.val rfl rfl rfl (gA (i := m) Tryz.underlying23 prssz65 rfl rfl rfl rfl rfl (by omega)) ?_
    refine TL.val rfl rfl rfl (gives_loadR (off := 0 + m * 17) rfl rfl prsag65 prssz65 (rs_cel.len x83) (fun w1 hw j9 u9 h9 => flat_row rs_cel hw (q := 6) rfl hx83 j9 u9 h9)) ?_
    refine TL.pnew rfl rfl rfl (exec_alloc (cs := [.int .i64 0, .int .i64 0, .int .i64 0, .int .i64 0, .int .u32 0, .int .i64 0, .int .i64 0, .int .i64 0, .bool false, .bool false, .int .i64 0, .int .u32 0, .int .i64 0, .int .i64 0, .int .i64 0, .int .i64 0, .int .i64 0]) rfl arpzv65 rfl) (fun g17 => ?_)
    refine TL.pstore (k := 0) (vs := x83.cells) rfl rfl rfl rfl rfl rfl rfl prssz65 (rs_cel.one _) (by show 17 ≤ 17; decide) (L' := [.blk g17 65 x83.cells, .blk g10 34 rq.cells, .abs wn.heap.size (fun w => Cod w wn.heap.size), .row (.slice Afo fo.length cfo) 34 8 fo.length (flat Rp.cells fo), .blk g6 28 ru.cells, .blk g5 26 [.slice Areg reg.length creg], .row (.slice Areg reg.length creg) 102 5 reg.length (flat En.cells reg), .row (.slice (some ⟨g_Axs, 0, none⟩) xs.length cxs) 65 17 xs.length (flat Rs.cells xs)]) rfl ?_
    refine zET (zG (TL.rn 2 rfl ?_))
    cases pb with
    | true =>
     refine TL.rn 6 rfl ?_
     refine TL.offU rfl rfl rfl rfl rfl ?_
     refine TL.offU rfl rfl rfl rfl rfl ?_
     refine TL.offU rfl rfl rfl rfl rfl ?_
     refine TL.rn 2 rfl ?_
     refine TL.offU rfl rfl rfl rfl rfl ?_
     refine TL.offU rfl rfl rfl rfl rfl ?_
     refine TL.offU rfl rfl rfl rfl rfl ?_
     refine TL.offU rfl rfl rfl rfl rfl ?_
     refine TL.offU rfl rfl rfl rfl rfl ?_
     refine TL.rn 2 rfl ?_
     refine TL.offU rfl rfl rfl rfl rfl ?_
     refine TL.offU rfl rfl rfl rfl rfl ?_
     refine TL.offU rfl rfl rfl rfl rfl ?_
     refine TL.offU rfl rfl rfl rfl rfl ?_
     refine TL.offU rfl rfl rfl rfl rfl ?_
     refine TL.offU rfl rfl rfl rfl rfl ?_
     refine TL.rn 2 rfl ?_
     refine TL.offU rfl rfl rfl rfl rfl ?_
     refine TL.offU rfl rfl rfl rfl rfl ?_
     refine TL.offU rfl rfl rfl rfl rfl ?_
     refine TL.offU rfl rfl rfl rfl rfl ?_
     refine TL.offU rfl rfl rfl rfl rfl ?_
     refine TL.offU rfl rfl rfl rfl rfl ?_
     refine TL.rn 2 rfl ?_
     refine TL.offU rfl rfl rfl rfl rfl ?_
     refine TL.offU rfl rfl rfl rfl rfl ?_
     refine TL.offU rfl rfl rfl rfl rfl ?_
     refine TL.offU rfl rfl rfl rfl rfl ?_
     refine TL.offU rfl rfl rfl rfl rfl ?_
     refine TL.offU rfl rfl rfl rfl rfl ?_
     refine TL.rn 3 rfl (zE (zN (zT (zG (TL.v (gD ((m + 1 : Nat) : Int)) ?_)))))
     refine TL.mv ?_
     refine zE ?_
     exact TX.round (⟨(m + 1, true), by dsimp only; omega, exb hpb hx83 (or_tt rfl)⟩) (by show xs.length - (m + 1) < xs.length - m; omega) ⟨rfl, rfl, rfl, rfl, rfl, rfl, rfl, rfl, rfl, rfl, rfl, rfl, trivial⟩ (fun w1 hw => hw.pick [1, 2, 3, 4, 5, 6, 7] (by decide) rfl)
    | false =>
     refine TL.ov (gF prsfld65_3) ?_
     refine TL.ov (gL 0 pcmag3) ?_
     refine TL.ov (gF arpfld34_4) ?_
     refine TL.ov (gL 1 pcmag3) ?_
     refine TL.gu ?_
     refine TL.sp bin_eql (fun q91 => ?_) (fun q91 => ?_)
     ·refine TL.rn 1 rfl (TL.ov (gF prsfld65_9) ?_)
      refine TL.gu ?_
      refine TL.vsplit rfl rfl rfl (gL 0 prsag4) (fun h94 => ?_) (fun h94 => ?_)
      ·refine TL.rn 35 rfl (zE (zN (zT (zG (TL.v (gD ((m + 1 : Nat) : Int)) ?_)))))
       refine TL.mv ?_
       refine zE ?_
       exact TX.round (⟨(m + 1, false), by dsimp only; omega, exb hpb hx83 (or_f fun h => by have h2 := h.2.1; rw [h94] at h2; cases h2)⟩) (by show xs.length - (m + 1) < xs.length - m; omega) ⟨rfl, rfl, rfl, rfl, rfl, rfl, rfl, rfl, rfl, rfl, rfl, rfl, trivial⟩ (fun w1 hw => hw.pick [1, 2, 3, 4, 5, 6, 7] (by decide) rfl)
      refine TL.rn 3 rfl (TL.ov (gF prsfld65_6) ?_)
      refine TL.ov (gL 0 pcmag3) ?_
      refine TL.ov (gF arpfld34_2) ?_
      refine TL.ov (gL 1 pcmag3) ?_
      refine TL.gu ?_
      refine TL.sp bin_eql (fun q102 => ?_) (fun q102 => ?_)
      ·refine TL.rn 2 rfl (TL.ov (gF prsfld65_4) ?_)
       refine TL.ov (gL 0 pcmag30) ?_
       refine TL.ov (gF arpfld34_1) ?_
       refine TL.ov (gF pcmfld32_1) ?_
       refine TL.ov (gL 1 pcmag30) ?_
       refine TL.gu ?_
       refine TL.sp bin_eql (fun q110 => ?_) (fun q110 => ?_)
       ·refine TL.rn 2 rfl (TL.ov (gF prsfld65_0) ?_)
        refine TL.ov (gL 0 pcmag3) ?_
        refine TL.ov (gF arpfld34_1) ?_
        refine TL.ov (gF pcmfld32_0) ?_
        refine TL.ov (gL 1 pcmag3) ?_
        refine TL.gu ?_
        refine TL.sp bin_eql (fun q118 => ?_) (fun q118 => ?_)
        ·refine TL.rn 2 rfl (TL.ov (gF prsfld65_5) ?_)
         refine TL.ov (gL 0 pcmag3) ?_
         refine TL.ov (gF arpfld34_1) ?_
         refine TL.ov (gF pcmfld32_2) ?_
         refine TL.ov (gL 1 pcmag3) ?_
         refine TL.gu ?_
         refine TL.sp bin_eql (fun q126 => ?_) (fun q126 => ?_)
         ·refine TL.rn 3 rfl (zE (zN (zT (zG (TL.v (gD ((m + 1 : Nat) : Int)) ?_)))))
          refine TL.mv ?_
          refine zE ?_
          exact TX.round (⟨(m + 1, true), by dsimp only; omega, exb hpb hx83 (or_t ⟨q91, h94, q102, q110, q118, q126⟩)⟩) (by show xs.length - (m + 1) < xs.length - m; omega) ⟨rfl, rfl, rfl, rfl, rfl, rfl, rfl, rfl, rfl, rfl, rfl, rfl, trivial⟩ (fun w1 hw => hw.pick [1, 2, 3, 4, 5, 6, 7] (by decide) rfl)
         refine TL.rn 3 rfl (zE (zN (zT (zG (TL.v (gD ((m + 1 : Nat) : Int)) ?_)))))
         refine TL.mv ?_
         refine zE ?_
         exact TX.round (⟨(m + 1, false), by dsimp only; omega, exb hpb hx83 (or_f fun h => q126 h.2.2.2.2.2)⟩) (by show xs.length - (m + 1) < xs.length - m; omega) ⟨rfl, rfl, rfl, rfl, rfl, rfl, rfl, rfl, rfl, rfl, rfl, rfl, trivial⟩ (fun w1 hw => hw.pick [1, 2, 3, 4, 5, 6, 7] (by decide) rfl)
        refine TL.rn 11 rfl (zE (zN (zT (zG (TL.v (gD ((m + 1 : Nat) : Int)) ?_)))))
        refine TL.mv ?_
        refine zE ?_
        exact TX.round (⟨(m + 1, false), by dsimp only; omega, exb hpb hx83 (or_f fun h => q118 h.2.2.2.2.1)⟩) (by show xs.length - (m + 1) < xs.length - m; omega) ⟨rfl, rfl, rfl, rfl, rfl, rfl, rfl, rfl, rfl, rfl, rfl, rfl, trivial⟩ (fun w1 hw => hw.pick [1, 2, 3, 4, 5, 6, 7] (by decide) rfl)
       refine TL.rn 19 rfl (zE (zN (zT (zG (TL.v (gD ((m + 1 : Nat) : Int)) ?_)))))
       refine TL.mv ?_
       refine zE ?_
       exact TX.round (⟨(m + 1, false), by dsimp only; omega, exb hpb hx83 (or_f fun h => q110 h.2.2.2.1)⟩) (by show xs.length - (m + 1) < xs.length - m; omega) ⟨rfl, rfl, rfl, rfl, rfl, rfl, rfl, rfl, rfl, rfl, rfl, rfl, trivial⟩ (fun w1 hw => hw.pick [1, 2, 3, 4, 5, 6, 7] (by decide) rfl)
      refine TL.rn 27 rfl (zE (zN (zT (zG (TL.v (gD ((m + 1 : Nat) : Int)) ?_)))))
      refine TL.mv ?_
      refine zE ?_
      exact TX.round (⟨(m + 1, false), by dsimp only; omega, exb hpb hx83 (or_f fun h => q102 h.2.2.1)⟩) (by show xs.length - (m + 1) < xs.length - m; omega) ⟨rfl, rfl, rfl, rfl, rfl, rfl, rfl, rfl, rfl, rfl, rfl, rfl, trivial⟩ (fun w1 hw => hw.pick [1, 2, 3, 4, 5, 6, 7] (by decide) rfl)
     refine TL.rn 38 rfl (zE (zN (zT (zG (TL.v (gD ((m + 1 : Nat) : Int)) ?_)))))
     refine TL.mv ?_
     refine zE ?_
     exact TX.round (⟨(m + 1, false), by dsimp only; omega, exb hpb hx83 (or_f fun h => q91 h.1)⟩) (by show xs.length - (m + 1) < xs.length - m; omega) ⟨rfl, rfl, rfl, rfl, rfl, rfl, rfl, rfl, rfl, rfl, rfl, rfl, trivial⟩ (fun w1 hw => hw.pick [1, 2, 3, 4, 5, 6, 7] (by decide) rfl)
   refine zET (zS (zd (zx (zX (zX (zM (zT (zSG (TL.rn 2 rfl ?_)))))))))
   cases pb with
   | true =>
    refine TL.rn 1 rfl ?_
    cases okb with
    | true =>
     refine TL.rn 2 rfl (zET (zd (zk (zN (zT (zG (TL.mv ?_)))))))
     refine TL.v (gD ((k + 1 : Nat) : Int)) ?_
     refine TL.as_ ?_
     refine zE ?_
     exact TX.round (⟨k + 1, by omega⟩) (by show 6 - (k + 1) < 6 - k; omega) ⟨rfl, rfl, rfl, rfl, rfl, rfl, trivial⟩ (fun w1 hw => hw.pick [2, 3, 4, 5, 6, 1] (by decide) rfl)
    | false =>
     refine TL.rn 2 rfl (zET (zc (zSG (TL.as_ ?_))))
     refine zET (zr (zRR (zR (zRR ?_))))
     obtain ⟨r9, hr9, hq9⟩ := (hpb.1 rfl)
     have hr9 := List.mem_of_mem_take hr9
     obtain ⟨q9, hq91, hq92⟩ := hfd.full hxsok hxsv (hb1.1 rfl) hr9 hq9
     exact absurd (hokb.2 ⟨q9, by rw [List.take_of_length_le (by omega)]; exact hq91, hq92⟩) (by decide)
   | false =>
    refine TL.of ?_
    cases okb with
    | true =>
     refine TL.rn 2 rfl (zET (zd (zk (zN (zT (zG (TL.mv ?_)))))))
     refine TL.v (gD ((k + 1 : Nat) : Int)) ?_
     refine TL.as_ ?_
     refine zE ?_
     exact TX.round (⟨k + 1, by omega⟩) (by show 6 - (k + 1) < 6 - k; omega) ⟨rfl, rfl, rfl, rfl, rfl, rfl, trivial⟩ (fun w1 hw => hw.pick [2, 3, 4, 5, 6, 1] (by decide) rfl)
    | false =>
     refine TL.rn 2 rfl (zET (zd (zk (zN (zT (zG (TL.mv ?_)))))))
     refine TL.v (gD ((k + 1 : Nat) : Int)) ?_
     refine TL.as_ ?_
     refine zE ?_
     exact TX.round (⟨k + 1, by omega⟩) (by show 6 - (k + 1) < 6 - k; omega) ⟨rfl, rfl, rfl, rfl, rfl, rfl, trivial⟩ (fun w1 hw => hw.pick [2, 3, 4, 5, 6, 1] (by decide) rfl)
  | false =>
   refine TL.val rfl rfl rfl (gives_boolnot rfl rfl) ?_
   refine zET (zc (zx (zX (zM (zT (zG (TL.mv ?_)))))))
   refine TL.v (gD ((k + 1 : Nat) : Int)) ?_
   refine TL.as_ ?_
   refine zE ?_
   exact TX.round (⟨k + 1, by omega⟩) (by show 6 - (k + 1) < 6 - k; omega) ⟨rfl, rfl, rfl, rfl, rfl, rfl, trivial⟩ (fun w1 hw => hw.pick [2, 3, 4, 5, 6, 1] (by decide) rfl)
 refine zET (zd (zx (zX (zX (zM (zT (zS (zSG (TL.mv ?_)))))))))
 refine TL.v (gN Tryz.underlying49) ?_
 refine TL.mv ?_
 refine zET (zB (TC.loop_ (α := {i : Nat // i ≤ fo.length}) (fun y => [(3, .pointer (some ⟨wn.heap.size, 0, none⟩)), (7, .slice Afo fo.length cfo), (135, .slice Afo fo.length cfo), (136, .int .i64 (fo.length : Nat)), (137, .int .i64 ((y.1 : Nat) : Int))]) (fun y => Pm wn [.row (.slice Afo fo.length cfo) 34 8 fo.length (flat Rp.cells fo), .blk g6 28 ru.cells, .blk g5 26 [.slice Areg reg.length creg], .row (.slice Areg reg.length creg) 102 5 reg.length (flat En.cells reg), .row (.slice Axs xs.length cxs) 65 17 xs.length (flat Rs.cells xs), .abs wn.heap.size (fun w => Cod w wn.heap.size)]) (fun y => fo.length - y.1) (⟨0, Nat.zero_le _⟩) ⟨rfl, rfl, rfl, rfl, rfl, trivial⟩ (fun w1 hw => hw) ?_))
 rintro ⟨i, hi⟩
 try dsimp only at hi ⊢
 refine zSG ?_
 refine TL.sp bin_lss (fun q138 => ?_) (fun q138 => ?_)
 ·refine zET (zS (zc (zk (zT (zS (zB (zSG (TL.mv ?_))))))))
  refine TL.fact (p := ∃ g, Afo = some ⟨g, 0, none⟩) (fun w1 hw => rowA hw (k := 0) rfl (by omega)) ?_
  rintro ⟨g_Afo, rfl⟩
  have hi140 : i < fo.length := by omega
  obtain ⟨x140, hx140⟩ := ex_at hi140
  refine TL.val rfl rfl rfl (gA (i := i) Tryz.underlying49 aprsz34 rfl rfl rfl rfl rfl (by omega)) ?_
  refine TL.val rfl rfl rfl (gives_loadR (off := 0 + i * 8) rfl rfl aprag34 aprsz34 (rp_cel.len x140) (fun w1 hw j9 u9 h9 => flat_row rp_cel hw (q := 0) rfl hx140 j9 u9 h9)) ?_
  refine TL.pnew rfl rfl rfl (exec_alloc (cs := [.int .i64 0, .int .i64 0, .int .u32 0, .int .i64 0, .int .i64 0, .int .i64 0, .int .i64 0, .int .i64 0]) rfl asezv34 rfl) (fun g19 => ?_)
  refine TL.as_ ?_
  refine TL.pstore (k := 0) (vs := x140.cells) rfl rfl rfl rfl rfl rfl rfl aprsz34 (rp_cel.one _) (by show 8 ≤ 8; decide) (L' := [.blk g19 34 x140.cells, .row (.slice (some ⟨g_Afo, 0, none⟩) fo.length cfo) 34 8 fo.length (flat Rp.cells fo), .blk g6 28 ru.cells, .blk g5 26 [.slice Areg reg.length creg], .row (.slice Areg reg.length creg) 102 5 reg.length (flat En.cells reg), .row (.slice Axs xs.length cxs) 65 17 xs.length (flat Rs.cells xs), .abs wn.heap.size (fun w => Cod w wn.heap.size)]) rfl ?_
  refine zET (zS (TC.quietQ (by kernel_rfl) (by kernel_rfl) (fun w hw => hw.drawn _) ?_))
  refine TQ.val rfl rfl rfl (gives_move rfl rfl) ?_
  refine TQ.sp bin_gtr (fun q143 => ?_) (fun q143 => ?_)
  ·refine TQ.rn 3 rfl ?_
   refine TQ.on rfl rfl rfl ?_
   refine TQ.val rfl rfl rfl (gives_bin rfl rfl rfl (fun w => bin_sub_ (r := ((i - 1 : Nat) : Int)) (by simp only [IntKind.wrap_i64]; omega) w)) ?_
   refine TQ.on rfl rfl rfl ?_
   have hi148 : i - 1 < fo.length := by omega
   obtain ⟨x148, hx148⟩ := ex_at hi148
   refine TQ.val rfl rfl rfl (gA (i := (i - 1)) Tryz.underlying49 aprsz34 rfl rfl rfl rfl rfl (by omega)) ?_
   refine TQ.on rfl rfl rfl ?_
   refine TQ.val rfl rfl rfl (gives_loadR (off := 0 + (i - 1) * 8) rfl rfl aprag34 aprsz34 (rp_cel.len x148) (fun w1 hw j9 u9 h9 => flat_row rp_cel hw (q := 1) rfl hx148 j9 u9 h9)) ?_
   refine TQ.ov (gV 0 (.agg (x140.cells).toArray) aprag34 aprsz34) ?_
   refine TQ.on rfl rfl rfl ?_
   refine TQ.call (v := .int .i64 (cmpRp x148 x140)) rfl rfl rfl rfl rfl Tryz.func33 (by decide) rfl (fun w1 hw => (cmpRp_any x148 x140 w1).mono fun en w2 ⟨h1, h2⟩ => ⟨h1, hw.below h2⟩) ?_
   refine TQ.on rfl rfl rfl ?_
   refine TQ.val rfl rfl rfl (gives_bin rfl rfl rfl (fun w => bin_geq_f ((by have h9 := asc_adj hfd.1 hx140 hx148 (by omega); omega)) w)) ?_
   refine TQ.val rfl rfl rfl (gives_pick rfl rfl rfl) ?_
   refine TQ.fin ?_
   refine zT (zd (zk (zN (zT (zG (TL.v (gD ((i + 1 : Nat) : Int)) ?_))))))
   refine TL.mv ?_
   refine zE ?_
   exact TX.round (⟨i + 1, by omega⟩) (by show fo.length - (i + 1) < fo.length - i; omega) ⟨rfl, rfl, rfl, rfl, rfl, trivial⟩ (fun w1 hw => hw.pick [1, 2, 3, 4, 5, 6] (by decide) rfl)
  refine TQ.rn 10 rfl ?_
  refine TQ.fin ?_
  refine zT (zd (zk (zN (zT (zG (TL.v (gD ((i + 1 : Nat) : Int)) ?_))))))
  refine TL.mv ?_
  refine zE ?_
  exact TX.round (⟨i + 1, by omega⟩) (by show fo.length - (i + 1) < fo.length - i; omega) ⟨rfl, rfl, rfl, rfl, rfl, trivial⟩ (fun w1 hw => hw.pick [1, 2, 3, 4, 5, 6] (by decide) rfl)
 refine zET (zS (zd (zx (zX (zX (zM (zT (zSG (TL.as_ ?_)))))))))
 refine zET (zr ?_)
 exact ret_tmp Tryz.results7 rfl (fun w1 hw => ⟨rfl, hwb.trans (hw.bel.mono hwb.size)⟩)
end Go.Proofs.YtijmpjfafpodhaaGreat
