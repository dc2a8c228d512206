/-
  Texts of the proof, joined: BdRX, SymFld, DcRs, MnLL.
-/
import Derived.Test.YtijmpjfafpodhaaGreatMinimalLeastPk4
import Derived.Test.YtijmpjfafpodhaaGreatMinimalLeastPk1
import Derived.Test.YtijmpjfafpodhaaGreatMinimalLeastPk3
set_option linter.unusedVariables false
set_option linter.unusedSimpArgs false
namespace Go.Proofs.YtijmpjfafpodhaaGreat
set_option maxHeartbeats 1000000
open Go.RowKit
set_option maxRecDepth 20000
def CmpE (x y : En) (z : Int) : Prop := (z < 0 → cmpP x.addr x.len y.addr y.len < 0 ∨ (cmpP x.addr x.len y.addr y.len = 0 ∧ x.frm ≤ y.frm)) ∧ (0 ≤ z → 0 < cmpP x.addr x.len y.addr y.len ∨ (cmpP x.addr x.len y.addr y.len = 0 ∧ y.frm ≤ x.frm))
def OvE (b x : En) : Prop := cmpP b.addr b.len x.addr x.len = 0 ∧ b.frm < x.to_ ∧ x.frm < b.to_
def LtE (b x : En) : Prop := cmpP b.addr b.len x.addr x.len < 0 ∨ (cmpP b.addr b.len x.addr x.len = 0 ∧ b.frm ≤ x.frm)
def GeE (b x : En) : Prop := 0 < cmpP b.addr b.len x.addr x.len ∨ (cmpP b.addr b.len x.addr x.len = 0 ∧ x.frm ≤ b.frm)
def AddK (es : List En) (x : En) (i k : Nat) : Prop := (k = 0 ∨ ∃ b, es[k - 1]? = some b ∧ LtE b x) ∧ (∀ j, k ≤ j → j < i → ∀ z, es[j]? = some z → GeE z x) ∧ ∀ j, j < i → ∀ z, es[j]? = some z → ¬ OvE z x
theorem AddK.start (es : List En) (x : En) : AddK es x 0 0 := ⟨.inl rfl, fun j _ h => absurd h (Nat.not_lt_zero _), fun j h => absurd h (Nat.not_lt_zero _)⟩
theorem AddK.step_ge {es : List En} {x z : En} {i k : Nat} (h : AddK es x i k) (hz : es[i]? = some z) (hk : k ≤ i) (hg : k ≤ i → GeE z x) (ho : ¬ OvE z x) : AddK es x (i + 1) k := by
 refine ⟨h.1, fun j h1 h2 y hy => ?_, fun j h2 y hy => ?_⟩
 ·by_cases e : j = i
  ·subst e; rw [hz] at hy; injection hy with hy; rw [← hy]; exact hg hk
  exact h.2.1 j h1 (by omega) y hy
 by_cases e : j = i
 ·subst e; rw [hz] at hy; injection hy with hy; rw [← hy]; exact ho
 exact h.2.2 j (by omega) y hy
theorem AddK.step_lt {es : List En} {x z : En} {i k : Nat} (h : AddK es x i k) (hz : es[i]? = some z) (hl : LtE z x) (ho : ¬ OvE z x) : AddK es x (i + 1) (i + 1) := by
 refine ⟨.inr ⟨z, by rw [Nat.add_sub_cancel]; exact hz, hl⟩, fun j h1 h2 => absurd h1 (by omega), fun j h2 y hy => ?_⟩
 by_cases e : j = i
 ·subst e; rw [hz] at hy; injection hy with hy; rw [← hy]; exact ho
 exact h.2.2 j (by omega) y hy
theorem cmpI_flip (a b : Int) : cmpI b a = - cmpI a b := by unfold cmpI; split <;> split <;> (try split) <;> omega
theorem cmpP_neg (a n b m : Int) : cmpP b m a n = - cmpP a n b m := by
 unfold cmpP
 rw [cmpI_flip a b, cmpI_flip n m]
 split <;> split <;> omega
theorem validR_at {es : List En} (h : validR es = true) {j : Nat} {z : En} (hz : es[j]? = some z) : validE z = true ∧ (j = 0 ∨ ∀ b, es[j - 1]? = some b → badP b z = false) := by
 simp only [validR, Bool.and_eq_true, decide_eq_true_eq, List.all_eq_true, List.mem_range] at h
 have h2 := h.2 j (List.getElem?_eq_some_iff.1 hz).1
 unfold okAt at h2
 rw [hz] at h2
 simp only [Bool.and_eq_true, Bool.or_eq_true, decide_eq_true_eq] at h2
 refine ⟨h2.1, h2.2.imp id fun h3 b hb => ?_⟩
 rw [hb] at h3
 simpa using h3
theorem okAt_of {es : List En} {j : Nat} {z : En} (hz : es[j]? = some z) (hv : validE z = true) (h : j = 0 ∨ ∀ b, es[j - 1]? = some b → badP b z = false) : okAt es j = true := by
 unfold okAt
 rw [hz]
 simp only [hv, Bool.true_and, Bool.or_eq_true, decide_eq_true_eq]
 rcases h with h | h
 ·exact .inl h
 right
 cases hb : es[j - 1]? with
 | none => rfl
 | some b => simp [h b hb]
theorem ins_valid {es : List En} {x : En} {k : Nat} (hv : validR es = true) (hx : validE x = true) (hl : es.length < 1024) (hb : k = 0 ∨ ∃ b, es[k - 1]? = some b ∧ LtE b x) (ha : ∀ z : En, es[k]? = some z → GeE z x) (ho : ∀ (j : Nat) (z : En), es[j]? = some z → ¬ OvE z x) : validR (es.take k ++ [x] ++ es.drop k) = true := by
 have hk : k ≤ es.length := by
  rcases hb with h | ⟨b, h, _⟩
  ·omega
  have := (List.getElem?_eq_some_iff.1 h).1; omega
 have hlen : (es.take k ++ [x] ++ es.drop k).length = es.length + 1 := by simp only [List.length_append, List.length_take, List.length_drop, List.length_cons, List.length_nil]; omega
 have htk : (es.take k).length = k := by rw [List.length_take]; omega
 have g1 : ∀ j, j < k → (es.take k ++ [x] ++ es.drop k)[j]? = es[j]? := fun j hj => by
  rw [List.append_assoc, List.getElem?_append_left (by omega), List.getElem?_take_of_lt hj]
 have g2 : (es.take k ++ [x] ++ es.drop k)[k]? = some x := by
  rw [List.append_assoc, List.getElem?_append_right (by omega), htk, Nat.sub_self]; rfl
 have g3 : ∀ j, k ≤ j → (es.take k ++ [x] ++ es.drop k)[j + 1]? = es[j]? := fun j hj => by
  rw [List.getElem?_append_right (by rw [List.length_append, htk]; show k + 1 ≤ _; omega), List.length_append, htk, List.getElem?_drop]
  congr 1; show k + (j + 1 - (k + 1)) = j; omega
 refine validR_true (by omega) fun j hj => ?_
 have hxf : x.frm < x.to_ := by unfold validE at hx; simp only [Bool.and_eq_true, decide_eq_true_eq] at hx; omega
 rcases Nat.lt_trichotomy j k with h | h | h
 ·obtain ⟨z, hz⟩ : ∃ z, es[j]? = some z := ⟨_, List.getElem?_eq_getElem (by omega)⟩
  obtain ⟨a1, a2⟩ := validR_at hv hz
  exact okAt_of (by rw [g1 j h]; exact hz) a1 (by rw [g1 (j - 1) (by omega)]; exact a2)
 ·subst h
  refine okAt_of g2 hx ?_
  rcases hb with h | ⟨b, h, h1⟩
  ·exact .inl h
  by_cases h0 : j = 0
  ·exact .inl h0
  refine .inr fun c hc => ?_
  rw [g1 (j - 1) (by omega), h] at hc
  injection hc with hc
  rw [← hc]
  have h2 := ho _ _ h
  unfold OvE at h2
  unfold LtE at h1
  unfold badP
  rw [Bool.or_eq_false_iff, Bool.and_eq_false_iff, decide_eq_false_iff_not, decide_eq_false_iff_not, decide_eq_false_iff_not]
  rcases h1 with h1 | h1
  ·exact ⟨by omega, .inl (by omega)⟩
  refine ⟨by omega, .inr fun h4 => h2 ⟨h1.1, by omega, h4⟩⟩
 obtain ⟨q, rfl⟩ : ∃ q, j = q + 1 := ⟨j - 1, by omega⟩
 obtain ⟨z, hz⟩ : ∃ z, es[q]? = some z := ⟨_, List.getElem?_eq_getElem (by omega)⟩
 obtain ⟨a1, a2⟩ := validR_at hv hz
 refine okAt_of (by rw [g3 q (by omega)]; exact hz) a1 (.inr ?_)
 rw [Nat.add_sub_cancel]
 by_cases e : q = k
 ·subst e
  intro c hc
  rw [g2] at hc
  injection hc with hc
  rw [← hc]
  have h1 := ha z hz
  have h2 := ho _ _ hz
  have hzf : z.frm < z.to_ := by have a3 := a1; unfold validE at a3; simp only [Bool.and_eq_true, decide_eq_true_eq] at a3; omega
  have hng := cmpP_neg z.addr z.len x.addr x.len
  unfold OvE at h2
  unfold GeE at h1
  unfold badP
  rw [Bool.or_eq_false_iff, Bool.and_eq_false_iff, decide_eq_false_iff_not, decide_eq_false_iff_not, decide_eq_false_iff_not]
  rcases h1 with h1 | h1
  ·exact ⟨by omega, .inl (by omega)⟩
  refine ⟨by omega, .inr fun h4 => ?_⟩
  exact h2 ⟨h1.1, h4, by omega⟩
 obtain ⟨p, rfl⟩ : ∃ p, q = p + 1 := ⟨q - 1, by omega⟩
 rw [g3 p (by omega)]
 rcases a2 with a2 | a2
 ·omega
 rw [Nat.add_sub_cancel] at a2; exact a2
theorem brxbld183_19252 (a0_0 : Int) (a0_1 : Int) (a1_0 : Int) (a1_1 : Int) (a2_0 : Int) (a2_1 : Int) (w : World) : (Instr.build 183 #[(0, .agg #[.int .i64 a0_0, .int .i64 a0_1]), (1, .agg #[.int .i64 a1_0, .int .i64 a1_1]), (2, .agg #[.int .i64 a2_0, .int .i64 a2_1])]).run Tryz.prog w = .ok (.agg #[.int .i64 a0_0, .int .i64 a0_1, .int .i64 a1_0, .int .i64 a1_1, .int .i64 a2_0, .int .i64 a2_1]) w := by kernel_rfl
theorem brxone_i64i64 {a0 : Int} {a1 : Int} : ∀ u ∈ [(.int .i64 a0 : Value), .int .i64 a1], u.oneCell' = true := by
 intro u hu
 simp only [List.mem_cons, List.not_mem_nil, or_false] at hu
 rcases hu with rfl | rfl <;> rfl
theorem brxzv26 (w : World) : (zeroValue 26).run Tryz.prog w = .ok (.agg #[.slice none 0 0]) w := rfl
theorem brxel24 : Elem Tryz.prog 24 102 5 40 := Elem.mk' Tryz.underlying24 (z := .agg #[.int .u32 0, .int .i64 0, .int .i64 0, .int .i64 0, .int .i64 0]) (by kernel_rfl) rfl (by omega) (by omega)
theorem brxbs24_1_22095 (a0_0 : Int) (a0_1 : Int) (a0_2 : Int) (a0_3 : Int) (a0_4 : Int) (w : World) : (Instr.buildSlice 24 1 #[(0, .agg #[.int .u32 a0_0, .int .i64 a0_1, .int .i64 a0_2, .int .i64 a0_3, .int .i64 a0_4])]).run Tryz.prog w = .ok (.slice (some ⟨w.heap.size, 0, none⟩) 1 1) (w.alloc (.cells [.int .u32 a0_0, .int .i64 a0_1, .int .i64 a0_2, .int .i64 a0_3, .int .i64 a0_4].toArray 102)) := by kernel_rfl
theorem brxbld26_67803 (a0_0 : Option Addr) (a0_0n a0_0c : Nat) (w : World) : (Instr.build 26 #[(0, .slice a0_0 a0_0n a0_0c)]).run Tryz.prog w = .ok (.agg #[.slice a0_0 a0_0n a0_0c]) w := by kernel_rfl
theorem rcmpX_any (x y : En) (hx : x.Ok) (hy : y.Ok) (w : World) :
  Calls Tryz.prog 115 #[.agg x.cells.toArray, .agg y.cells.toArray] w fun e w' => ∃ z : {z : Int // CmpE x y z}, e = .returned (.int .i64 z.1) ∧ Below w.heap.size w w' := by
 refine begin_ (vs := [.agg x.cells.toArray, .agg y.cells.toArray]) Tryz.func115 rfl rfl rfl ?_ (Pm.start w)
 refine zSG ?_
 refine TL.pnew rfl rfl rfl (exec_box (cs := x.cells) rfl rfl rfl) (fun g2 => ?_)
 refine TL.pnew rfl rfl rfl (exec_box (cs := y.cells) rfl rfl rfl) (fun g3 => ?_)
 refine TL.as_ ?_
 refine zET (zS (zSG (TL.v (gF brefld102_0) ?_)))
 refine TL.v (gV 1 (.agg #[.int .u32 x.addr, .int .i64 x.len]) badag100 badsz100) ?_
 refine TL.v (gF brefld102_0) ?_
 refine TL.v (gV 0 (.agg #[.int .u32 y.addr, .int .i64 y.len]) badag100 badsz100) ?_
 refine TL.pcall1 (r := .int .i64 (cmpP x.addr x.len y.addr y.len)) rfl rfl rfl rfl rfl Tryz.func114 (by decide) rfl (fun w1 hw => rcmpP_any x.addr x.len y.addr y.len hx hy w1) ?_
 refine TL.as_ ?_
 refine zET (zSG (TL.mv ?_))
 refine TL.sp bin_neq (fun q14 => ?_) (fun q14 => ?_)
 ·refine zET (zc (zSG (TL.rn 2 rfl (zET (zr (zR ?_))))))
  exact ret_tmp Tryz.results115 rfl (fun w1 hw => ⟨⟨cmpP x.addr x.len y.addr y.len, ⟨fun h => .inl h, fun h => .inl (by omega)⟩⟩, rfl, hw.bel⟩)
 refine zET (zd (zk (zT (zS (zSG (TL.v (gF brefld102_2) ?_))))))
 refine TL.v (gL 1 pcmag3) ?_
 refine TL.v (gF brefld102_2) ?_
 refine TL.v (gL 0 pcmag3) ?_
 refine TL.val rfl rfl rfl (gives_build (v := .agg #[.int .i64 x.frm, .int .i64 y.frm]) rfl rfl (fun w => prsbld120_29156 _ _ w)) ?_
 refine TL.v (gF brefld102_3) ?_
 refine TL.v (gL 1 pcmag3) ?_
 refine TL.v (gF brefld102_3) ?_
 refine TL.v (gL 0 pcmag3) ?_
 refine TL.val rfl rfl rfl (gives_build (v := .agg #[.int .i64 x.to_, .int .i64 y.to_]) rfl rfl (fun w => prsbld120_29156 _ _ w)) ?_
 refine TL.v (gF brefld102_1) ?_
 refine TL.v (gL 1 pcmag3) ?_
 refine TL.v (gF brefld102_1) ?_
 refine TL.v (gL 0 pcmag3) ?_
 refine TL.val rfl rfl rfl (gives_build (v := .agg #[.int .i64 x.prov, .int .i64 y.prov]) rfl rfl (fun w => prsbld120_29156 _ _ w)) ?_
 refine TL.val rfl rfl rfl (gives_build (v := .agg #[.int .i64 x.frm, .int .i64 y.frm, .int .i64 x.to_, .int .i64 y.to_, .int .i64 x.prov, .int .i64 y.prov]) rfl rfl (fun w => brxbld183_19252 _ _ _ _ _ _ w)) ?_
 refine TL.mv ?_
 refine zET (zB (TC.loop_ (α := {i : Nat // i ≤ 3 ∧ (0 < i → x.frm = y.frm)}) (fun z => [(31, .agg #[.int .i64 x.frm, .int .i64 y.frm, .int .i64 x.to_, .int .i64 y.to_, .int .i64 x.prov, .int .i64 y.prov]), (32, .int .i64 ((z.1 : Nat) : Int))]) (fun z => Pm w [.blk g3 102 y.cells, .blk g2 102 x.cells]) (fun z => 3 - z.1) (⟨0, Nat.zero_le _, fun h => absurd h (by decide)⟩) ⟨rfl, rfl, trivial⟩ (fun w1 hw => hw) ?_))
 rintro ⟨i, hi, hfr⟩
 try dsimp only at hi hfr ⊢
 refine zSG ?_
 refine TL.sp bin_lss (fun q33 => ?_) (fun q33 => ?_)
 ·have hi2 : i < 3 := by omega
  obtain ⟨p, q, hp0, hpq⟩ : ∃ p q : Int, (i = 0 → p = x.frm ∧ q = y.frm) ∧ ∀ w : World, (Instr.index 183 (.agg #[.int .i64 x.frm, .int .i64 y.frm, .int .i64 x.to_, .int .i64 y.to_, .int .i64 x.prov, .int .i64 y.prov]) (.int .i64 ((i : Nat) : Int))).run Tryz.prog w = .ok (.agg #[.int .i64 p, .int .i64 q]) w := by
   have h3 : i = 0 ∨ i = 1 ∨ i = 2 := by omega
   rcases h3 with rfl | rfl | rfl
   ·exact ⟨x.frm, y.frm, fun _ => ⟨rfl, rfl⟩, fun w => by kernel_rfl⟩
   ·exact ⟨x.to_, y.to_, fun h => absurd h (by decide), fun w => by kernel_rfl⟩
   exact ⟨x.prov, y.prov, fun h => absurd h (by decide), fun w => by kernel_rfl⟩
  refine zET (zS (zc (zk (zT (zS (zB (zSG ?_)))))))
  refine TL.val rfl rfl rfl (gives_index (v := .agg #[.int .i64 p, .int .i64 q]) rfl rfl rfl hpq) ?_
  refine TL.pnew rfl rfl rfl (exec_alloc (cs := [.int .i64 0, .int .i64 0]) rfl prszv120 rfl) (fun g7 => ?_)
  refine TL.pstore (k := 0) (vs := [.int .i64 p, .int .i64 q]) rfl rfl rfl rfl rfl rfl rfl prssz120 brxone_i64i64 (by show 2 ≤ 2; decide) rfl ?_
  refine zET (zS (zSG ?_))
  refine TL.val rfl rfl rfl (gives_at (v := .pointer (some ⟨g7, 0, none⟩)) rfl rfl rfl (fun w => at_arr Tryz.underlying120 pcmsz3 g7 0 _ 0 (by decide) w)) ?_
  refine TL.v (gL 0 pcmag3) ?_
  refine TL.val rfl rfl rfl (gives_at (v := .pointer (some ⟨g7, 1, none⟩)) rfl rfl rfl (fun w => at_arr Tryz.underlying120 pcmsz3 g7 0 _ 1 (by decide) w)) ?_
  refine TL.v (gL 0 pcmag3) ?_
  refine TL.sp bin_lss (fun q39 => ?_) (fun q39 => ?_)
  ·refine zET (zc (zSG (TL.as_ ?_)))
   refine zET (zr (zR (zRR (zR (zRR ?_)))))
   exact ret_tmp Tryz.results115 rfl (fun w1 hw => ⟨⟨-1, ⟨fun _ => .inr ⟨by omega, by by_cases h0 : i = 0; (have := hp0 h0; omega); (have := hfr (by omega); omega)⟩, fun h => absurd h (by decide)⟩⟩, rfl, hw.bel⟩)
  refine zET (zd (zk (zT (zSG ?_))))
  refine TL.val rfl rfl rfl (gives_at (v := .pointer (some ⟨g7, 0, none⟩)) rfl rfl rfl (fun w => at_arr Tryz.underlying120 pcmsz3 g7 0 _ 0 (by decide) w)) ?_
  refine TL.v (gL 0 pcmag3) ?_
  refine TL.val rfl rfl rfl (gives_at (v := .pointer (some ⟨g7, 1, none⟩)) rfl rfl rfl (fun w => at_arr Tryz.underlying120 pcmsz3 g7 0 _ 1 (by decide) w)) ?_
  refine TL.v (gL 0 pcmag3) ?_
  refine TL.sp bin_gtr (fun q44 => ?_) (fun q44 => ?_)
  ·refine zET (zc (zSG (TL.as_ ?_)))
   refine zET (zr (zRR (zR (zRR ?_))))
   exact ret_tmp Tryz.results115 rfl (fun w1 hw => ⟨⟨1, ⟨fun h => absurd h (by decide), fun _ => .inr ⟨by omega, by by_cases h0 : i = 0; (have := hp0 h0; omega); (have := hfr (by omega); omega)⟩⟩⟩, rfl, hw.bel⟩)
  have hfr2 : x.frm = y.frm := by by_cases h0 : i = 0; (have := hp0 h0; omega); exact hfr (by omega)
  refine zET (zd (zk (zN (zT (zG (TL.v (gD ((i + 1 : Nat) : Int)) ?_))))))
  refine TL.mv ?_
  refine zE ?_
  exact TX.round (⟨i + 1, by omega, fun _ => hfr2⟩) (by show 3 - (i + 1) < 3 - i; omega) ⟨rfl, rfl, trivial⟩ (fun w1 hw => hw.pick [1, 2] (by decide) rfl)
 refine zET (zS (zd (zx (zX (zX (zM (zT (zSG (TL.as_ ?_)))))))))
 refine zET (zr ?_)
 exact ret_tmp Tryz.results115 rfl (fun w1 hw => ⟨⟨0, ⟨fun h => absurd h (by decide), fun _ => .inr ⟨by omega, by have := hfr (by omega); omega⟩⟩⟩, rfl, hw.bel⟩)
theorem raddX_any (A0 : Option Addr) (c0 : Nat) (es : List En) (x : En) (hx : x.Ok) (w : World) (hr : Reads w w.heap.size 5 A0 es.length (flat En.cells es)) (hl1 : es.length ≤ 10000) (hlc : es.length ≤ c0) (hok : ∀ z ∈ es, z.Ok) :
  Calls Tryz.prog 64 #[.agg #[.slice A0 es.length c0], .agg x.cells.toArray] w fun e w' => ∃ y : {y : (Option Addr × Nat) × List En × Int // (y.2.2 = 0 → (∀ z ∈ y.2.1, z ∈ es ∨ z = x) ∧ validR y.2.1 = true) ∧ y.2.1.length ≤ es.length + 1 ∧ y.2.1.length ≤ y.1.2 ∧ y.1.2 ≤ maxLen}, e = .returned (.tuple #[.agg #[.slice y.1.1.1 y.1.2.1.length y.1.1.2], .int .i64 y.1.2.2]) ∧ Pm w [.row (.slice y.1.1.1 y.1.2.1.length y.1.1.2) 102 5 y.1.2.1.length (flat En.cells y.1.2.1)] w' := by
 refine begin_ (vs := [.agg #[.slice A0 es.length c0], .agg x.cells.toArray]) Tryz.func64 rfl rfl rfl ?_ (Pm.start w)
 refine zSG ?_
 refine TL.pnew rfl rfl rfl (exec_box (cs := [.slice A0 es.length c0]) rfl rfl rfl) (fun g2 => ?_)
 refine TL.pnew rfl rfl rfl (exec_box (cs := x.cells) rfl rfl rfl) (fun g3 => ?_)
 refine TL.pnew rfl rfl rfl (exec_alloc (cs := [.slice none 0 0]) rfl brxzv26 rfl) (fun g4 => ?_)
 refine TL.as_ ?_
 refine zET (zS (zSG (TL.v (gV 2 (.agg #[.slice A0 es.length c0]) breag26 bresz26) ?_)))
 refine TL.callsplit rfl rfl rfl rfl rfl Tryz.func85 (by decide) rfl (fun w1 hw => rvalX_any A0 c0 es w1 (hr.up hw.bel) (by omega) hok) (fun h10 => ?_) (fun h10 => ?_)
 ·refine TL.rn 2 rfl (TL.ov (gV 1 (.agg (x.cells).toArray) breag102 bresz102) ?_)
  refine TL.gu ?_
  refine TL.callsplit rfl rfl rfl rfl rfl Tryz.func113 (by decide) rfl (fun w1 hw => rvalE_any x hx w1) (fun h14 => ?_) (fun h14 => ?_)
  ·refine TL.rn 2 rfl (zET (zd (zk (zT (zSG (TL.as_ ?_))))))
   refine zET (zS (zSG (TL.as_ ?_)))
   refine zET (zB (TC.loop_ (α := {y : Nat × Nat // y.1 ≤ es.length ∧ y.2 ≤ y.1 ∧ AddK es x y.1 y.2}) (fun y => [(2, .pointer (some ⟨g2, 0, none⟩)), (3, .pointer (some ⟨g3, 0, none⟩)), (4, .pointer (some ⟨g4, 0, none⟩)), (7, .int .i64 ((y.1.1 : Nat) : Int)), (6, .int .i64 ((y.1.2 : Nat) : Int))]) (fun y => Pm w [.blk g4 26 [.slice none 0 0], .blk g3 102 x.cells, .blk g2 26 [.slice A0 es.length c0]]) (fun y => es.length - y.1.1) (⟨(0, 0), Nat.zero_le _, Nat.le_refl _, AddK.start es x⟩) ⟨rfl, rfl, rfl, rfl, rfl, trivial⟩ (fun w1 hw => hw) ?_))
   rintro ⟨⟨i, k⟩, hi, hk, hK⟩
   dsimp only at hi hk hK ⊢
   refine zS (zSG (TL.mv ?_))
   refine TL.v (gF brefld26_0) ?_
   refine TL.v (gL 2 breag24) ?_
   refine TL.v (gN Tryz.underlying24) ?_
   refine TL.sp bin_lss (fun q22 => ?_) (fun q22 => ?_)
   ·refine zET (zc (zk (zT (zS (zB (zSG (TL.v (gF brefld26_0) ?_)))))))
    refine TL.v (gL 2 breag24) ?_
    refine TL.mv ?_
    have hi28 : i < es.length := by omega
    obtain ⟨x28, hx28⟩ := ex_at hi28
    obtain ⟨b28, o28, hA28, hbb28, hc28⟩ := hr.ad (by omega) (by decide)
    refine TL.val rfl rfl rfl (gA (i := i) Tryz.underlying24 bresz102 rfl rfl rfl rfl hA28 (by omega)) ?_
    refine TL.v (gR en_cel breag102 bresz102 hbb28 hx28 hc28) ?_
    refine TL.pnew rfl rfl rfl (exec_alloc (cs := [.int .u32 0, .int .i64 0, .int .i64 0, .int .i64 0, .int .i64 0]) rfl brezv102 rfl) (fun g8 => ?_)
    refine TL.pstore (k := 0) (vs := x28.cells) rfl rfl rfl rfl rfl rfl rfl bresz102 (en_cel.one _) (by show 5 ≤ 5; decide) (L' := [.blk g8 102 x28.cells, .blk g4 26 [.slice none 0 0], .blk g3 102 x.cells, .blk g2 26 [.slice A0 es.length c0]]) rfl ?_
    refine zET (zS (zSG (TL.v (gF brefld102_0) ?_)))
    refine TL.v (gV 0 (.agg #[.int .u32 x28.addr, .int .i64 x28.len]) badag100 badsz100) ?_
    refine TL.v (gF brefld102_0) ?_
    refine TL.v (gV 2 (.agg #[.int .u32 x.addr, .int .i64 x.len]) badag100 badsz100) ?_
    refine TL.pcall1 (r := .int .i64 (cmpP x28.addr x28.len x.addr x.len)) rfl rfl rfl rfl rfl Tryz.func114 (by decide) rfl (fun w1 hw => rcmpP_any x28.addr x28.len x.addr x.len (hok x28 (List.mem_of_getElem? hx28)) hx w1) ?_
    refine TL.sp bin_eql (fun q35 => ?_) (fun q35 => ?_)
    ·refine TL.mv ?_
     refine TL.ov (gF brefld102_2) ?_
     refine TL.ov (gL 0 pcmag3) ?_
     refine TL.ov (gF brefld102_3) ?_
     refine TL.ov (gL 2 pcmag3) ?_
     refine TL.gu ?_
     refine TL.sp bin_lss (fun q41 => ?_) (fun q41 => ?_)
     ·refine TL.rn 2 rfl (TL.ov (gF brefld102_2) ?_)
      refine TL.ov (gL 2 pcmag3) ?_
      refine TL.ov (gF brefld102_3) ?_
      refine TL.ov (gL 0 pcmag3) ?_
      refine TL.gu ?_
      refine TL.sp bin_lss (fun q48 => ?_) (fun q48 => ?_)
      ·refine TL.pk ?_
       refine zET (zc (zSG ?_))
       refine TL.val rfl rfl rfl (gives_build (v := .agg #[.slice none 0 0]) rfl rfl (fun w => mawbld26_530  w)) ?_
       refine TL.pstore (k := 1) (vs := [.slice none 0 0]) rfl rfl rfl rfl rfl rfl rfl bresz26 dntone_s (by show 1 ≤ 1; decide) (L' := [.blk g8 102 x28.cells, .blk g4 26 [.slice none 0 0], .blk g3 102 x.cells, .blk g2 26 [.slice A0 es.length c0]]) rfl ?_
       refine TL.as_ ?_
       refine zET (zr (zR (zRR (zR (zRR ?_)))))
       exact ret_cell2 (k := 1) (v := .int .i64 9) Tryz.results64 rfl rfl rfl Tryz.underlying26 rfl rfl (fun w1 hw => ⟨⟨((none, 0), ([], 9)), fun h => absurd h (by decide), Nat.zero_le _, Nat.le_refl _, Nat.zero_le _⟩, rfl, (hw.pick [] (by decide) rfl).nilrow _ _⟩)
      refine TL.pk ?_
      refine zET (zd (zk (zT (zSG (TL.v (gV 0 (.agg (x28.cells).toArray) breag102 bresz102) ?_)))))
      refine TL.v (gV 2 (.agg (x.cells).toArray) breag102 bresz102) ?_
      refine TL.call (α := {z : Int // CmpE x28 x z}) (r := fun z => .int .i64 z.1) (I' := fun _ => Pm w [.blk g8 102 x28.cells, .blk g4 26 [.slice none 0 0], .blk g3 102 x.cells, .blk g2 26 [.slice A0 es.length c0]]) rfl rfl rfl rfl rfl Tryz.func115 (by decide) rfl (fun w1 hw => (rcmpX_any x28 x (hok x28 (List.mem_of_getElem? hx28)) hx w1).mono fun e w2 ⟨b, h1, h2⟩ => ⟨b, h1, hw.below h2⟩) ?_
      rintro ⟨z53, hz53⟩
      dsimp only
      refine TL.sp bin_lss (fun q54 => ?_) (fun q54 => ?_)
      ·refine zET (zc (zG (TL.mv ?_)))
       refine TL.v (gD ((i + 1 : Nat) : Int)) ?_
       refine TL.as_ ?_
       refine zE (zN (zT (zG (TL.mv ?_))))
       refine TL.v (gD ((i + 1 : Nat) : Int)) ?_
       refine TL.as_ ?_
       refine zE ?_
       exact TX.round (⟨(i + 1, i + 1), by dsimp only; omega, by dsimp only; omega, hK.step_lt hx28 (hz53.1 (by omega)) (by simp [OvE, q22, q35, q41, q48, q54]; try omega)⟩) (by show es.length - (i + 1) < es.length - i; omega) ⟨rfl, rfl, rfl, rfl, rfl, trivial⟩ (fun w1 hw => hw.pick [1, 2, 3] (by decide) rfl)
      refine zET (zd (zk (zN (zT (zG (TL.mv ?_))))))
      refine TL.v (gD ((i + 1 : Nat) : Int)) ?_
      refine TL.as_ ?_
      refine zE ?_
      exact TX.round (⟨(i + 1, k), by dsimp only; omega, by dsimp only; omega, hK.step_ge hx28 (by omega) (fun h => (hz53.2 (by omega))) (by simp [OvE, q22, q35, q41, q48, q54]; try omega)⟩) (by show es.length - (i + 1) < es.length - i; omega) ⟨rfl, rfl, rfl, rfl, rfl, trivial⟩ (fun w1 hw => hw.pick [1, 2, 3] (by decide) rfl)
     refine TL.rn 8 rfl (zET (zd (zk (zT (zSG (TL.v (gV 0 (.agg (x28.cells).toArray) breag102 bresz102) ?_))))))
     refine TL.v (gV 2 (.agg (x.cells).toArray) breag102 bresz102) ?_
     refine TL.call (α := {z : Int // CmpE x28 x z}) (r := fun z => .int .i64 z.1) (I' := fun _ => Pm w [.blk g8 102 x28.cells, .blk g4 26 [.slice none 0 0], .blk g3 102 x.cells, .blk g2 26 [.slice A0 es.length c0]]) rfl rfl rfl rfl rfl Tryz.func115 (by decide) rfl (fun w1 hw => (rcmpX_any x28 x (hok x28 (List.mem_of_getElem? hx28)) hx w1).mono fun e w2 ⟨b, h1, h2⟩ => ⟨b, h1, hw.below h2⟩) ?_
     rintro ⟨z53, hz53⟩
     dsimp only
     refine TL.sp bin_lss (fun q54 => ?_) (fun q54 => ?_)
     ·refine zET (zc (zG (TL.mv ?_)))
      refine TL.v (gD ((i + 1 : Nat) : Int)) ?_
      refine TL.as_ ?_
      refine zE (zN (zT (zG (TL.mv ?_))))
      refine TL.v (gD ((i + 1 : Nat) : Int)) ?_
      refine TL.as_ ?_
      refine zE ?_
      exact TX.round (⟨(i + 1, i + 1), by dsimp only; omega, by dsimp only; omega, hK.step_lt hx28 (hz53.1 (by omega)) (by simp [OvE, q22, q35, q41, q54]; try omega)⟩) (by show es.length - (i + 1) < es.length - i; omega) ⟨rfl, rfl, rfl, rfl, rfl, trivial⟩ (fun w1 hw => hw.pick [1, 2, 3] (by decide) rfl)
     refine zET (zd (zk (zN (zT (zG (TL.mv ?_))))))
     refine TL.v (gD ((i + 1 : Nat) : Int)) ?_
     refine TL.as_ ?_
     refine zE ?_
     exact TX.round (⟨(i + 1, k), by dsimp only; omega, by dsimp only; omega, hK.step_ge hx28 (by omega) (fun h => (hz53.2 (by omega))) (by simp [OvE, q22, q35, q41, q54]; try omega)⟩) (by show es.length - (i + 1) < es.length - i; omega) ⟨rfl, rfl, rfl, rfl, rfl, trivial⟩ (fun w1 hw => hw.pick [1, 2, 3] (by decide) rfl)
    refine TL.rn 14 rfl (zET (zd (zk (zT (zSG (TL.v (gV 0 (.agg (x28.cells).toArray) breag102 bresz102) ?_))))))
    refine TL.v (gV 2 (.agg (x.cells).toArray) breag102 bresz102) ?_
    refine TL.call (α := {z : Int // CmpE x28 x z}) (r := fun z => .int .i64 z.1) (I' := fun _ => Pm w [.blk g8 102 x28.cells, .blk g4 26 [.slice none 0 0], .blk g3 102 x.cells, .blk g2 26 [.slice A0 es.length c0]]) rfl rfl rfl rfl rfl Tryz.func115 (by decide) rfl (fun w1 hw => (rcmpX_any x28 x (hok x28 (List.mem_of_getElem? hx28)) hx w1).mono fun e w2 ⟨b, h1, h2⟩ => ⟨b, h1, hw.below h2⟩) ?_
    rintro ⟨z53, hz53⟩
    dsimp only
    refine TL.sp bin_lss (fun q54 => ?_) (fun q54 => ?_)
    ·refine zET (zc (zG (TL.mv ?_)))
     refine TL.v (gD ((i + 1 : Nat) : Int)) ?_
     refine TL.as_ ?_
     refine zE (zN (zT (zG (TL.mv ?_))))
     refine TL.v (gD ((i + 1 : Nat) : Int)) ?_
     refine TL.as_ ?_
     refine zE ?_
     exact TX.round (⟨(i + 1, i + 1), by dsimp only; omega, by dsimp only; omega, hK.step_lt hx28 (hz53.1 (by omega)) (by simp [OvE, q22, q35, q54]; try omega)⟩) (by show es.length - (i + 1) < es.length - i; omega) ⟨rfl, rfl, rfl, rfl, rfl, trivial⟩ (fun w1 hw => hw.pick [1, 2, 3] (by decide) rfl)
    refine zET (zd (zk (zN (zT (zG (TL.mv ?_))))))
    refine TL.v (gD ((i + 1 : Nat) : Int)) ?_
    refine TL.as_ ?_
    refine zE ?_
    exact TX.round (⟨(i + 1, k), by dsimp only; omega, by dsimp only; omega, hK.step_ge hx28 (by omega) (fun h => (hz53.2 (by omega))) (by simp [OvE, q22, q35, q54]; try omega)⟩) (by show es.length - (i + 1) < es.length - i; omega) ⟨rfl, rfl, rfl, rfl, rfl, trivial⟩ (fun w1 hw => hw.pick [1, 2, 3] (by decide) rfl)
   refine zET (zd (zx (zX (zX (zM (zT (zS (zSG (TL.v (gF brefld26_0) ?_)))))))))
   refine TL.v (gL 2 breag24) ?_
   refine TL.v (gN Tryz.underlying24) ?_
   refine TL.sp bin_geq (fun q60 => ?_) (fun q60 => ?_)
   ·refine zET (zc (zSG ?_))
    refine TL.val rfl rfl rfl (gives_build (v := .agg #[.slice none 0 0]) rfl rfl (fun w => mawbld26_530  w)) ?_
    refine TL.pstore (k := 0) (vs := [.slice none 0 0]) rfl rfl rfl rfl rfl rfl rfl bresz26 dntone_s (by show 1 ≤ 1; decide) (L' := [.blk g4 26 [.slice none 0 0], .blk g3 102 x.cells, .blk g2 26 [.slice A0 es.length c0]]) rfl ?_
    refine TL.as_ ?_
    refine zET (zr (zR ?_))
    exact ret_cell2 (k := 0) (v := .int .i64 5) Tryz.results64 rfl rfl rfl Tryz.underlying26 rfl rfl (fun w1 hw => ⟨⟨((none, 0), ([], 5)), fun h => absurd h (by decide), Nat.zero_le _, Nat.le_refl _, Nat.zero_le _⟩, rfl, (hw.pick [] (by decide) rfl).nilrow _ _⟩)
   refine zET (zd (zk (zT (zS (TC.held (ls := #[Ff,Ff,Ff,Ff,Ff,Ff,Ff,Ff,Ff,Ff,Ff,Ff,Ff,Ff,Ff,Ff]) (Pm w [.blk g3 102 x.cells, .blk g2 26 [.slice A0 es.length c0]]) (by kernel_rfl) rfl rfl (fun w hw => hw.drawn _) ?_)))))
   refine TH.tk 0 rfl rfl rfl (gF brefld26_0) (fun w1 hw => hw.pick [1, 2] (by decide) rfl) ?_
   refine TH.tk 1 rfl rfl rfl (gL 1 breag24) (fun w1 hw => hw.pick [1, 2] (by decide) rfl) ?_
   refine TH.tk 2 rfl rfl rfl (gives_move rfl rfl) (fun w1 hw => hw.pick [1, 2] (by decide) rfl) ?_
   refine TH.tk 3 rfl rfl rfl (gives_sliceH (v := .slice A0 k c0) rfl rfl rfl (fun w => cut_hi Tryz.underlying24 bresz102 _ _ _ k rfl (by omega) w)) (fun w1 hw => hw.pick [1, 2] (by decide) rfl) ?_
   refine TH.tk 5 rfl rfl rfl (gV 0 (.agg (x.cells).toArray) breag102 bresz102) (fun w1 hw => hw.pick [1, 2] (by decide) rfl) ?_
   refine TH.tk 8 rfl rfl rfl (gF brefld26_0) (fun w1 hw => hw.pick [1, 2] (by decide) rfl) ?_
   refine TH.tk 9 rfl rfl rfl (gL 1 breag24) (fun w1 hw => hw.pick [1, 2] (by decide) rfl) ?_
   refine TH.tk 10 rfl rfl rfl (gives_move rfl rfl) (fun w1 hw => hw.pick [1, 2] (by decide) rfl) ?_
   refine TH.tk 11 rfl rfl rfl (gives_sliceL (v := .slice (if c0 = k then A0 else A0.map (·.add (k * 5))) (es.length - k) (c0 - k)) rfl rfl rfl (fun w => cut_lo Tryz.underlying24 bresz102 _ _ _ k rfl (by omega) w)) (fun w1 hw => hw.pick [1, 2] (by decide) rfl) ?_
   refine TH.two' (listed1 := #[Tt,Tt,Tt,Tt,Tt,Tt,Ff,Ff,Tt,Tt,Tt,Tt,Ff,Ff,Ff,Ff]) (listed2 := #[Tt,Tt,Tt,Tt,Ff,Tt,Tt,Ff,Tt,Tt,Tt,Tt,Ff,Ff,Ff,Ff]) 4 6 rfl rfl (by kernel_rfl) rfl rfl ?_ ?_
   ·refine TL.nilrow 102 5 ?_
    refine TL.appendT (k := 0) rfl rfl rfl rfl Tryz.underlying24 brxel24 rfl rfl rfl (fun w1 hw => ⟨_, (Reads.headF en_cel (hr.up hw.bel) (by omega))⟩) (flat_one en_cel _) (by show _ * 40 ≤ _; omega) (k) ((Nat.zero_add _).symm) (flat En.cells (es.take k)) (rfl) (fun A66 c66 hA661 hA662 => ?_)
    refine zE ?_
    refine TX.held (fun w1 hw => hw.pick [2, 3] (by decide) rfl) ?_
    refine TH.only' 6 rfl (by kernel_rfl) rfl ?_
    refine TL.prowS (e := 102) (size := 5) (cs := flat En.cells [x]) rfl rfl rfl rfl rfl (fun w => brxbs24_1_22095 _ _ _ _ _ w) (by decide) rfl (fun g68 => ?_)
    refine zE ?_
    refine TX.held (fun w1 hw => hw.pick [3, 4] (by decide) rfl) ?_
    refine TH.only' 7 rfl (by kernel_rfl) rfl ?_
    refine TL.appendT (k := 1) rfl rfl rfl rfl Tryz.underlying24 brxel24 rfl rfl rfl (fun w1 hw => pm_reads hw (k := 0) rfl) (flat_one en_cel _) (by show _ * 40 ≤ _; omega) (k + 1) (rfl) (flat En.cells ((es.take k) ++ [x])) ((flat_app _ _).symm) (fun A69 c69 hA691 hA692 => ?_)
    refine zE ?_
    refine TX.held (fun w1 hw => hw.pick [3, 4] (by decide) rfl) ?_
    refine TH.only' 12 rfl (by kernel_rfl) rfl ?_
    refine TL.appendT (k := 1) rfl rfl rfl rfl Tryz.underlying24 brxel24 rfl rfl rfl (fun w1 hw => ⟨_, (Reads.tailF en_cel (hr.up hw.bel) (by omega) (by omega))⟩) (flat_one en_cel _) (by show _ * 40 ≤ _; omega) (k + 1 + (es.length - k)) (rfl) (flat En.cells (((es.take k) ++ [x]) ++ (es.drop k))) ((flat_app _ _).symm) (fun A74 c74 hA741 hA742 => ?_)
    refine zE ?_
    refine TX.he (fun w1 hw => hw.pick [3, 4] (by decide) rfl) fun hS => ?_
    refine TH.t 13 rfl (gives_build (v := .agg #[.slice A74 (k + 1 + (es.length - k)) c74]) rfl rfl (fun w => brxbld26_67803 _ _ _ w)) hS ?_
    refine TH.only' 14 rfl (by kernel_rfl) rfl ?_
    refine TL.pstore (k := 2) (vs := [.slice A74 (k + 1 + (es.length - k)) c74]) rfl rfl rfl rfl rfl rfl rfl bresz26 dntone_s (by show 1 ≤ 1; decide) (L' := [.row (.slice (some ⟨g68, 0, none⟩) 1 1) 102 5 1 (flat En.cells [x]), .row (.slice A74 (k + 1 + (es.length - k)) c74) 102 5 (k + 1 + (es.length - k)) (flat En.cells (((es.take k) ++ [x]) ++ (es.drop k))), .blk g4 26 [.slice A74 (k + 1 + (es.length - k)) c74], .blk g3 102 x.cells, .blk g2 26 [.slice A0 es.length c0]]) rfl ?_
    refine zE ?_
    refine TX.he (fun w1 hw => hw.pick [3, 4] (by decide) rfl) fun hS => ?_
    refine TH.t 15 rfl (gives_assign rfl rfl) hS ?_
    refine TH.done (by kernel_rfl) ?_
    refine zT (zr ?_)
    have hle : (((es.take k) ++ [x]) ++ (es.drop k)).length = k + 1 + (es.length - k) := by simp only [List.length_append, List.length_take, List.length_drop, List.length_cons, List.length_nil]; omega
    have hva : validR (((es.take k) ++ [x]) ++ (es.drop k)) = true := ins_valid h10 (by rw [← rvalidE_eq hx]; exact h14) (by omega) hK.1 (fun z hz => hK.2.1 k (Nat.le_refl _) (by have := (List.getElem?_eq_some_iff.1 hz).1; omega) z hz) (fun j z hz => hK.2.2 j (by have := (List.getElem?_eq_some_iff.1 hz).1; omega) z hz)
    exact ret_cell2 (k := 2) (v := .int .i64 0) Tryz.results64 rfl rfl rfl Tryz.underlying26 rfl rfl (fun w1 hw => ⟨⟨((A74, c74), (((es.take k) ++ [x]) ++ (es.drop k), 0)), fun _ => ⟨fun z h => mem_ins h, hva⟩, by dsimp only; omega, by dsimp only; omega, hA742⟩, by dsimp only; rw [hle], by dsimp only; rw [hle]; exact hw.pick [1] (by decide) rfl⟩)
   refine TL.prowS (e := 102) (size := 5) (cs := flat En.cells [x]) rfl rfl rfl rfl rfl (fun w => brxbs24_1_22095 _ _ _ _ _ w) (by decide) rfl (fun g68 => ?_)
   refine zE ?_
   refine TX.held (fun w1 hw => hw.pick [2, 3] (by decide) rfl) ?_
   refine TH.only' 4 rfl (by kernel_rfl) rfl ?_
   refine TL.nilrow 102 5 ?_
   refine TL.appendT (k := 0) rfl rfl rfl rfl Tryz.underlying24 brxel24 rfl rfl rfl (fun w1 hw => ⟨_, (Reads.headF en_cel (hr.up hw.bel) (by omega))⟩) (flat_one en_cel _) (by show _ * 40 ≤ _; omega) (k) ((Nat.zero_add _).symm) (flat En.cells (es.take k)) (rfl) (fun A66 c66 hA661 hA662 => ?_)
   refine zE ?_
   refine TX.held (fun w1 hw => hw.pick [3, 4] (by decide) rfl) ?_
   refine TH.only' 7 rfl (by kernel_rfl) rfl ?_
   refine TL.appendT (k := 0) rfl rfl rfl rfl Tryz.underlying24 brxel24 rfl rfl rfl (fun w1 hw => pm_reads hw (k := 1) rfl) (flat_one en_cel _) (by show _ * 40 ≤ _; omega) (k + 1) (rfl) (flat En.cells ((es.take k) ++ [x])) ((flat_app _ _).symm) (fun A69 c69 hA691 hA692 => ?_)
   refine zE ?_
   refine TX.held (fun w1 hw => hw.pick [3, 4] (by decide) rfl) ?_
   refine TH.only' 12 rfl (by kernel_rfl) rfl ?_
   refine TL.appendT (k := 0) rfl rfl rfl rfl Tryz.underlying24 brxel24 rfl rfl rfl (fun w1 hw => ⟨_, (Reads.tailF en_cel (hr.up hw.bel) (by omega) (by omega))⟩) (flat_one en_cel _) (by show _ * 40 ≤ _; omega) (k + 1 + (es.length - k)) (rfl) (flat En.cells (((es.take k) ++ [x]) ++ (es.drop k))) ((flat_app _ _).symm) (fun A74 c74 hA741 hA742 => ?_)
   refine zE ?_
   refine TX.he (fun w1 hw => hw.pick [3, 4] (by decide) rfl) fun hS => ?_
   refine TH.t 13 rfl (gives_build (v := .agg #[.slice A74 (k + 1 + (es.length - k)) c74]) rfl rfl (fun w => brxbld26_67803 _ _ _ w)) hS ?_
   refine TH.only' 14 rfl (by kernel_rfl) rfl ?_
   refine TL.pstore (k := 2) (vs := [.slice A74 (k + 1 + (es.length - k)) c74]) rfl rfl rfl rfl rfl rfl rfl bresz26 dntone_s (by show 1 ≤ 1; decide) (L' := [.row (.slice A74 (k + 1 + (es.length - k)) c74) 102 5 (k + 1 + (es.length - k)) (flat En.cells (((es.take k) ++ [x]) ++ (es.drop k))), .row (.slice (some ⟨g68, 0, none⟩) 1 1) 102 5 1 (flat En.cells [x]), .blk g4 26 [.slice A74 (k + 1 + (es.length - k)) c74], .blk g3 102 x.cells, .blk g2 26 [.slice A0 es.length c0]]) rfl ?_
   refine zE ?_
   refine TX.he (fun w1 hw => hw.pick [3, 4] (by decide) rfl) fun hS => ?_
   refine TH.t 15 rfl (gives_assign rfl rfl) hS ?_
   refine TH.done (by kernel_rfl) ?_
   refine zT (zr ?_)
   have hle : (((es.take k) ++ [x]) ++ (es.drop k)).length = k + 1 + (es.length - k) := by simp only [List.length_append, List.length_take, List.length_drop, List.length_cons, List.length_nil]; omega
   have hva : validR (((es.take k) ++ [x]) ++ (es.drop k)) = true := ins_valid h10 (by rw [← rvalidE_eq hx]; exact h14) (by omega) hK.1 (fun z hz => hK.2.1 k (Nat.le_refl _) (by have := (List.getElem?_eq_some_iff.1 hz).1; omega) z hz) (fun j z hz => hK.2.2 j (by have := (List.getElem?_eq_some_iff.1 hz).1; omega) z hz)
   exact ret_cell2 (k := 2) (v := .int .i64 0) Tryz.results64 rfl rfl rfl Tryz.underlying26 rfl rfl (fun w1 hw => ⟨⟨((A74, c74), (((es.take k) ++ [x]) ++ (es.drop k), 0)), fun _ => ⟨fun z h => mem_ins h, hva⟩, by dsimp only; omega, by dsimp only; omega, hA742⟩, by dsimp only; rw [hle], by dsimp only; rw [hle]; exact hw.pick [0] (by decide) rfl⟩)
  refine TL.rn 2 rfl (zET (zc (zSG ?_)))
  refine TL.val rfl rfl rfl (gives_build (v := .agg #[.slice none 0 0]) rfl rfl (fun w => mawbld26_530  w)) ?_
  refine TL.pstore (k := 0) (vs := [.slice none 0 0]) rfl rfl rfl rfl rfl rfl rfl bresz26 dntone_s (by show 1 ≤ 1; decide) (L' := [.blk g4 26 [.slice none 0 0], .blk g3 102 x.cells, .blk g2 26 [.slice A0 es.length c0]]) rfl ?_
  refine TL.as_ ?_
  refine zET (zr (zR ?_))
  exact ret_cell2 (k := 0) (v := .int .i64 1) Tryz.results64 rfl rfl rfl Tryz.underlying26 rfl rfl (fun w1 hw => ⟨⟨((none, 0), ([], 1)), fun h => absurd h (by decide), Nat.zero_le _, Nat.le_refl _, Nat.zero_le _⟩, rfl, (hw.pick [] (by decide) rfl).nilrow _ _⟩)
 refine TL.rn 6 rfl (zET (zc (zSG ?_)))
 refine TL.val rfl rfl rfl (gives_build (v := .agg #[.slice none 0 0]) rfl rfl (fun w => mawbld26_530  w)) ?_
 refine TL.pstore (k := 0) (vs := [.slice none 0 0]) rfl rfl rfl rfl rfl rfl rfl bresz26 dntone_s (by show 1 ≤ 1; decide) (L' := [.blk g4 26 [.slice none 0 0], .blk g3 102 x.cells, .blk g2 26 [.slice A0 es.length c0]]) rfl ?_
 refine TL.as_ ?_
 refine zET (zr (zR ?_))
 exact ret_cell2 (k := 0) (v := .int .i64 1) Tryz.results64 rfl rfl rfl Tryz.underlying26 rfl rfl (fun w1 hw => ⟨⟨((none, 0), ([], 1)), fun h => absurd h (by decide), Nat.zero_le _, Nat.le_refl _, Nat.zero_le _⟩, rfl, (hw.pick [] (by decide) rfl).nilrow _ _⟩)
theorem registryX_cod (cb : Nat) (w : World) (hC : Cod w cb) (m : Nat) (hm : m ≤ 100) :
  Calls Tryz.prog 19 #[.pointer (some ⟨cb, 0, none⟩), .int .i64 ((m : Nat) : Int)] w fun e w' => ∃ x : {y : (Option Addr × Nat) × List En // ((∀ e ∈ y.2, EnG e) ∧ validR y.2 = true) ∧ y.2.length ≤ m ∧ y.2.length ≤ y.1.2 ∧ y.1.2 ≤ maxLen}, e = .returned (.agg #[.slice x.1.1.1 x.1.2.length x.1.1.2]) ∧ Codr (fun w => Cod w cb) cb w ([.row (.slice x.1.1.1 x.1.2.length x.1.1.2) 102 5 x.1.2.length (flat En.cells x.1.2)]) w' := by
 refine begin_ (vs := [.pointer (some ⟨cb, 0, none⟩), .int .i64 ((m : Nat) : Int)]) (I := Pm ⟨w, cb⟩ (.abs cb (fun w => Cod w cb) :: oths cb w)) Tryz.func19 rfl rfl rfl ?_ (Pm.codes hC (cod_cells hC) (cod_stab cb))
 refine zSG ?_
 refine TL.pnew rfl rfl rfl (exec_alloc (cs := [.slice none 0 0]) rfl brxzv26 rfl) (fun g4 => ?_)
 refine zET (zSG ?_)
 refine TL.pnew rfl rfl rfl (exec_alloc (cs := [.slice none 0 0]) rfl brxzv26 rfl) (fun g5 => ?_)
 refine zET (zS (zSG (TL.rn 2 rfl (TL.v (gD ((m + 1 : Nat) : Int)) ?_))))
 refine TL.pcallCod (k := 2) (α := {q9 : Nat // q9 ≤ 65535 ∧ (1 ≤ (((m + 1 : Nat) : Int) : Int) → (q9 : Int) < ((m + 1 : Nat) : Int))}) (fun q9 => .int .i64 ((q9.1 : Nat) : Int)) (fun q9 => []) rfl rfl rfl rfl rfl Tryz.func21 (by decide) rfl rfl (fun w1 hw hC1 => next_cod cb w1 ((m + 1 : Nat) : Int) hC1) ?_
 rintro ⟨k0, hk01, hk02⟩
 dsimp only [List.cons_append, List.nil_append]
 refine TL.as_ ?_
 refine zET (zB (TC.nilrow 102 5 ?_))
 refine TC.loop_ (α := {y : Nat × (Option Addr × Nat) × List En // y.1 + y.2.2.length ≤ m ∧ ((∀ e ∈ y.2.2, EnG e) ∧ validR y.2.2 = true) ∧ y.2.2.length ≤ y.2.1.2 ∧ y.2.1.2 ≤ maxLen}) (fun y => [(0, .pointer (some ⟨cb, 0, none⟩)), (4, .pointer (some ⟨g4, 0, none⟩)), (5, .pointer (some ⟨g5, 0, none⟩)), (6, .int .i64 ((y.1.1 : Nat) : Int))]) (fun y => Pm ⟨w, cb⟩ ([.row (.slice y.1.2.1.1 y.1.2.2.length y.1.2.1.2) 102 5 y.1.2.2.length (flat En.cells y.1.2.2), .blk g5 26 [.slice y.1.2.1.1 y.1.2.2.length y.1.2.1.2], .blk g4 26 [.slice none 0 0], .abs cb (fun w => Cod w cb)] ++ oths cb w)) (fun y => y.1.1) (⟨(k0, (none, 0), []), by dsimp only [List.length_nil]; omega, ⟨fun e he => absurd he List.not_mem_nil, rfl⟩, Nat.le_refl _, Nat.zero_le _⟩) ⟨rfl, rfl, rfl, rfl, trivial⟩ (fun w1 hw => hw) ?_
 rintro ⟨⟨k, ⟨A, c⟩, es⟩, hk, hEn, hoc, hom⟩
 dsimp only at hk hEn hoc hom ⊢
 refine zS (zSG (TL.mv ?_))
 refine TL.sp bin_gtr (fun q14 => ?_) (fun q14 => ?_)
 ·refine zET (zc (zk (zT (zS (zB ?_)))))
  refine TC.join (α := {y : Nat × (Option Addr × Nat) × List En × Int // (y.2.2.2 = 0 → ((∀ e ∈ y.2.2.1, EnG e) ∧ validR y.2.2.1 = true) ∧ y.2.2.1.length ≤ es.length + 1) ∧ y.2.2.1.length ≤ y.2.1.2 ∧ y.2.1.2 ≤ maxLen}) (fun y => [(0, .pointer (some ⟨cb, 0, none⟩)), (4, .pointer (some ⟨g4, 0, none⟩)), (5, .pointer (some ⟨g5, 0, none⟩)), (6, .int .i64 ((k : Nat) : Int)), (7, .pointer (some ⟨y.1.1, 0, none⟩)), (8, .int .i64 y.1.2.2.2)]) (fun y => Pm ⟨w, cb⟩ ([.row (.slice y.1.2.1.1 y.1.2.2.1.length y.1.2.1.2) 102 5 y.1.2.2.1.length (flat En.cells y.1.2.2.1), .blk y.1.1 26 [.slice y.1.2.1.1 y.1.2.2.1.length y.1.2.1.2], .row (.slice A es.length c) 102 5 es.length (flat En.cells es), .blk g5 26 [.slice A es.length c], .blk g4 26 [.slice none 0 0], .abs cb (fun w => Cod w cb)] ++ oths cb w)) ?_ ?_
  ·refine TC.held (ls := #[Ff,Ff,Ff,Ff,Ff,Ff,Ff,Ff,Ff,Ff]) (Pm ⟨w, cb⟩ [.blk g5 26 [.slice A es.length c]]) (by kernel_rfl) rfl rfl (fun w hw => hw.drawn _) ?_
   refine TH.tk 0 rfl rfl rfl (gV 0 (.agg #[.slice A es.length c]) breag26 bresz26) (fun w1 hw => hw.pick [1] (by decide) rfl) ?_
   refine TH.tk 1 rfl rfl rfl (gives_move rfl rfl) (fun w1 hw => hw.pick [1] (by decide) rfl) ?_
   refine TH.two' (listed1 := #[Tt,Tt,Tt,Ff,Ff,Ff,Ff,Ff,Ff,Ff]) (listed2 := #[Tt,Tt,Ff,Ff,Ff,Ff,Ff,Tt,Ff,Ff]) 2 7 rfl rfl (by kernel_rfl) rfl rfl ?_ ?_
   ·refine TL.pcallCod (k := 3) (α := {y : En // EnG y}) (fun x => .agg (x.1.cells).toArray) (fun x => []) rfl rfl rfl rfl rfl Tryz.func65 (by decide) rfl rfl (fun w1 hw hC1 => entry_cod cb w1 hC1) ?_
    rintro ⟨x20, hx20⟩
    dsimp only [List.cons_append, List.nil_append]
    refine zE ?_
    refine TX.held (fun w1 hw => hw.pick [1] (by decide) rfl) ?_
    refine TH.two' (listed1 := #[Tt,Tt,Tt,Tt,Ff,Ff,Ff,Ff,Ff,Ff]) (listed2 := #[Tt,Tt,Tt,Ff,Ff,Ff,Ff,Tt,Ff,Ff]) 3 7 rfl rfl (by kernel_rfl) rfl rfl ?_ ?_
    ·refine TL.pcallPm (α := {y : (Option Addr × Nat) × List En × Int // (y.2.2 = 0 → (∀ z ∈ y.2.1, z ∈ es ∨ z = x20) ∧ validR y.2.1 = true) ∧ y.2.1.length ≤ es.length + 1 ∧ y.2.1.length ≤ y.1.2 ∧ y.1.2 ≤ maxLen}) (fun y => .tuple #[.agg #[.slice y.1.1.1 y.1.2.1.length y.1.1.2], .int .i64 y.1.2.2]) (fun y => [.row (.slice y.1.1.1 y.1.2.1.length y.1.1.2) 102 5 y.1.2.1.length (flat En.cells y.1.2.1)]) rfl rfl rfl rfl rfl Tryz.func64 (by decide) rfl (fun w1 hw => raddX_any A c es x20 hx20.ok w1 (pm_rd hw (k := 0) rfl) (by omega) hoc (fun z hz => (hEn.1 z hz).ok)) ?_
     rintro ⟨⟨⟨Ar, cr⟩, rs, er⟩, hrs, hrl, hrc, hrd⟩
     dsimp only [List.cons_append, List.nil_append] at hrs hrl hrc hrd ⊢
     refine zE ?_
     refine TX.he (fun w1 hw => hw.pick [2] (by decide) rfl) fun hS => ?_
     refine TH.t 4 rfl (gives_move rfl rfl) hS ?_
     refine TH.t 5 rfl (gives_extract rfl rfl rfl) hS ?_
     refine TH.t 6 rfl (gives_extract rfl rfl rfl) hS ?_
     refine TH.only' 7 rfl (by kernel_rfl) rfl ?_
     refine TL.pnew rfl rfl rfl (exec_alloc (cs := [.slice none 0 0]) rfl brxzv26 rfl) (fun g7 => ?_)
     refine zE ?_
     refine TX.held (fun w1 hw => hw.pick [3] (by decide) rfl) ?_
     refine TH.only' 8 rfl (by kernel_rfl) rfl ?_
     refine TL.pstore (k := 0) (vs := [.slice Ar rs.length cr]) rfl rfl rfl rfl rfl rfl rfl bresz26 dntone_s (by show 1 ≤ 1; decide) rfl ?_
     refine zE ?_
     refine TX.he (fun w1 hw => hw.pick [3] (by decide) rfl) fun hS => ?_
     refine TH.t 9 rfl (gives_assign rfl rfl) hS ?_
     refine TH.done (by kernel_rfl) ?_
     exact TX.joined (⟨(g7, (Ar, cr), rs, er), fun h0 => ⟨⟨fun e he => ((hrs h0).1 e he).elim (hEn.1 e) (fun h1 => by rw [h1]; exact hx20), (hrs h0).2⟩, hrl⟩, hrc, hrd⟩) (⟨rfl, rfl, rfl, rfl, rfl, rfl, trivial⟩) (fun w1 hw => (show Pm ⟨w, cb⟩ ([.row (.slice Ar rs.length cr) 102 5 rs.length (flat En.cells rs), .blk g7 26 [.slice Ar rs.length cr], .row (.slice A es.length c) 102 5 es.length (flat En.cells es), .blk g5 26 [.slice A es.length c], .blk g4 26 [.slice none 0 0], .abs cb (fun w => Cod w cb)] ++ oths cb w) w1 from hw.pickT 6 [1, 0, 2, 3, 4, 5] (by decide) (by decide) rfl rfl))
    refine TL.pnew rfl rfl rfl (exec_alloc (cs := [.slice none 0 0]) rfl brxzv26 rfl) (fun g7 => ?_)
    refine zE ?_
    refine TX.held (fun w1 hw => hw.pick [2] (by decide) rfl) ?_
    refine TH.only' 3 rfl (by kernel_rfl) rfl ?_
    refine TL.pcallPm (α := {y : (Option Addr × Nat) × List En × Int // (y.2.2 = 0 → (∀ z ∈ y.2.1, z ∈ es ∨ z = x20) ∧ validR y.2.1 = true) ∧ y.2.1.length ≤ es.length + 1 ∧ y.2.1.length ≤ y.1.2 ∧ y.1.2 ≤ maxLen}) (fun y => .tuple #[.agg #[.slice y.1.1.1 y.1.2.1.length y.1.1.2], .int .i64 y.1.2.2]) (fun y => [.row (.slice y.1.1.1 y.1.2.1.length y.1.1.2) 102 5 y.1.2.1.length (flat En.cells y.1.2.1)]) rfl rfl rfl rfl rfl Tryz.func64 (by decide) rfl (fun w1 hw => raddX_any A c es x20 hx20.ok w1 (pm_rd hw (k := 1) rfl) (by omega) hoc (fun z hz => (hEn.1 z hz).ok)) ?_
    rintro ⟨⟨⟨Ar, cr⟩, rs, er⟩, hrs, hrl, hrc, hrd⟩
    dsimp only [List.cons_append, List.nil_append] at hrs hrl hrc hrd ⊢
    refine zE ?_
    refine TX.he (fun w1 hw => hw.pick [3] (by decide) rfl) fun hS => ?_
    refine TH.t 4 rfl (gives_move rfl rfl) hS ?_
    refine TH.t 5 rfl (gives_extract rfl rfl rfl) hS ?_
    refine TH.t 6 rfl (gives_extract rfl rfl rfl) hS ?_
    refine TH.only' 8 rfl (by kernel_rfl) rfl ?_
    refine TL.pstore (k := 1) (vs := [.slice Ar rs.length cr]) rfl rfl rfl rfl rfl rfl rfl bresz26 dntone_s (by show 1 ≤ 1; decide) rfl ?_
    refine zE ?_
    refine TX.he (fun w1 hw => hw.pick [3] (by decide) rfl) fun hS => ?_
    refine TH.t 9 rfl (gives_assign rfl rfl) hS ?_
    refine TH.done (by kernel_rfl) ?_
    exact TX.joined (⟨(g7, (Ar, cr), rs, er), fun h0 => ⟨⟨fun e he => ((hrs h0).1 e he).elim (hEn.1 e) (fun h1 => by rw [h1]; exact hx20), (hrs h0).2⟩, hrl⟩, hrc, hrd⟩) (⟨rfl, rfl, rfl, rfl, rfl, rfl, trivial⟩) (fun w1 hw => hw)
   refine TL.pnew rfl rfl rfl (exec_alloc (cs := [.slice none 0 0]) rfl brxzv26 rfl) (fun g7 => ?_)
   refine zE ?_
   refine TX.held (fun w1 hw => hw.pick [2] (by decide) rfl) ?_
   refine TH.only' 2 rfl (by kernel_rfl) rfl ?_
   refine TL.pcallCod (k := 4) (α := {y : En // EnG y}) (fun x => .agg (x.1.cells).toArray) (fun x => []) rfl rfl rfl rfl rfl Tryz.func65 (by decide) rfl rfl (fun w1 hw hC1 => entry_cod cb w1 hC1) ?_
   rintro ⟨x20, hx20⟩
   dsimp only [List.cons_append, List.nil_append]
   refine zE ?_
   refine TX.held (fun w1 hw => hw.pick [2] (by decide) rfl) ?_
   refine TH.only' 3 rfl (by kernel_rfl) rfl ?_
   refine TL.pcallPm (α := {y : (Option Addr × Nat) × List En × Int // (y.2.2 = 0 → (∀ z ∈ y.2.1, z ∈ es ∨ z = x20) ∧ validR y.2.1 = true) ∧ y.2.1.length ≤ es.length + 1 ∧ y.2.1.length ≤ y.1.2 ∧ y.1.2 ≤ maxLen}) (fun y => .tuple #[.agg #[.slice y.1.1.1 y.1.2.1.length y.1.1.2], .int .i64 y.1.2.2]) (fun y => [.row (.slice y.1.1.1 y.1.2.1.length y.1.1.2) 102 5 y.1.2.1.length (flat En.cells y.1.2.1)]) rfl rfl rfl rfl rfl Tryz.func64 (by decide) rfl (fun w1 hw => raddX_any A c es x20 hx20.ok w1 (pm_rd hw (k := 1) rfl) (by omega) hoc (fun z hz => (hEn.1 z hz).ok)) ?_
   rintro ⟨⟨⟨Ar, cr⟩, rs, er⟩, hrs, hrl, hrc, hrd⟩
   dsimp only [List.cons_append, List.nil_append] at hrs hrl hrc hrd ⊢
   refine zE ?_
   refine TX.he (fun w1 hw => hw.pick [3] (by decide) rfl) fun hS => ?_
   refine TH.t 4 rfl (gives_move rfl rfl) hS ?_
   refine TH.t 5 rfl (gives_extract rfl rfl rfl) hS ?_
   refine TH.t 6 rfl (gives_extract rfl rfl rfl) hS ?_
   refine TH.only' 8 rfl (by kernel_rfl) rfl ?_
   refine TL.pstore (k := 1) (vs := [.slice Ar rs.length cr]) rfl rfl rfl rfl rfl rfl rfl bresz26 dntone_s (by show 1 ≤ 1; decide) rfl ?_
   refine zE ?_
   refine TX.he (fun w1 hw => hw.pick [3] (by decide) rfl) fun hS => ?_
   refine TH.t 9 rfl (gives_assign rfl rfl) hS ?_
   refine TH.done (by kernel_rfl) ?_
   exact TX.joined (⟨(g7, (Ar, cr), rs, er), fun h0 => ⟨⟨fun e he => ((hrs h0).1 e he).elim (hEn.1 e) (fun h1 => by rw [h1]; exact hx20), (hrs h0).2⟩, hrl⟩, hrc, hrd⟩) (⟨rfl, rfl, rfl, rfl, rfl, rfl, trivial⟩) (fun w1 hw => hw)
  rintro ⟨⟨g7, ⟨Ar, cr⟩, rs, er⟩, hrs, hrc, hrd⟩
  dsimp only at hrs hrc hrd ⊢
  refine zSG (TL.mv ?_)
  refine TL.sp bin_eql (fun q25 => ?_) (fun q25 => ?_)
  ·refine zET (zc (zG (TL.v (gV 1 (.agg #[.slice Ar rs.length cr]) breag26 bresz26) ?_)))
   refine TL.pstore (k := 3) (vs := [.slice Ar rs.length cr]) rfl rfl rfl rfl rfl rfl rfl bresz26 dntone_s (by show 1 ≤ 1; decide) rfl ?_
   refine zE (zN (zT (zG (TL.mv ?_))))
   refine TL.val rfl rfl rfl (gives_bin rfl rfl rfl (fun w => bin_sub_ (r := ((k - 1 : Nat) : Int)) (by simp only [IntKind.wrap_i64]; omega) w)) ?_
   refine TL.as_ ?_
   refine zE ?_
   exact TX.round (⟨(k - 1, (Ar, cr), rs), by dsimp only; have := (hrs q25).2; omega, (hrs q25).1, hrc, hrd⟩) (by show k - 1 < k; omega) ⟨rfl, rfl, rfl, rfl, trivial⟩ (fun w1 hw => hw.sel (.cons_cons _ (.cons _ (.cons _ (.cons_cons _ (.cons_cons _ (.cons_cons _ (List.Sublist.refl _))))))))
  refine zET (zd (zk (zN (zT (zG (TL.mv ?_))))))
  refine TL.val rfl rfl rfl (gives_bin rfl rfl rfl (fun w => bin_sub_ (r := ((k - 1 : Nat) : Int)) (by simp only [IntKind.wrap_i64]; omega) w)) ?_
  refine TL.as_ ?_
  refine zE ?_
  exact TX.round (⟨(k - 1, (A, c), es), by dsimp only; omega, hEn, hoc, hom⟩) (by show k - 1 < k; omega) ⟨rfl, rfl, rfl, rfl, trivial⟩ (fun w1 hw => hw.sel (.cons _ (.cons _ (.cons_cons _ (.cons_cons _ (.cons_cons _ (.cons_cons _ (List.Sublist.refl _))))))))
 refine zET (zd (zx (zX (zX (zM (zT (zSG (TL.v (gV 1 (.agg #[.slice A es.length c]) breag26 bresz26) ?_))))))))
 refine TL.pstore (k := 2) (vs := [.slice A es.length c]) rfl rfl rfl rfl rfl rfl rfl bresz26 dntone_s (by show 1 ≤ 1; decide) rfl ?_
 refine zET (zr ?_)
 exact pm_ret_cell (k := 2) Tryz.results19 rfl rfl Tryz.underlying26 rfl rfl (fun w1 hw => ⟨⟨((A, c), es), hEn, by dsimp only; omega, hoc, hom⟩, rfl, Pm.codr [_] (hw.sel (.cons_cons _ (.cons _ (.cons _ (.cons_cons _ (List.Sublist.refl _)))))) rfl⟩)
section
variable {P : Program} {N : Fr} {E : Env} {o : Oper} {I : World → Prop}
theorem gives_fieldV {t : TypeId} {x : Operand} {i : Nat} {vx v : Value} (ho : o.op = .field t x i) (hx : ev E x = some vx) (hv : ∀ w : World, (Instr.field t vx i).run P w = .ok v w) : Gives P N o E I v := fun a w ha _ => by
  unfold execOp; rw [ho]
  simp only [ha.eval hx, Sem.run_bind, hv, Result.andThen_ok, Sem.run_pure]
end
set_option maxRecDepth 20000
def NetsOk (ns : List Nt) (PP : List (Sg (Sg Int))) : Prop := 1 ≤ ns.length ∧ ns.length ≤ 2 ∧ ∀ n ∈ ns, NtOk n ∧ n.ps ∈ PP
def netsP (PP : List (Sg (Sg Int))) : List Pc := segG 96 1 (flat sgc) PP ++ segG 30 1 (flat (ic .u32)) (PP.flatMap (·.l))
theorem Pm.netIn {w0 : Base} {w : World} {p : Sg (Sg Int)} {P O : List Pc} {PP : List (Sg (Sg Int))} (h : Pm w0 (netP p ++ (P ++ (netsP PP ++ O))) w) : Pm w0 (P ++ (netsP (p :: PP) ++ O)) w := by
 refine h.permute ?_
 have e : netsP (p :: PP) = .row (.slice p.A p.l.length p.c) 96 1 p.l.length (flat sgc p.l) :: (segG 96 1 (flat sgc) PP ++ (segG 30 1 (flat (ic .u32)) p.l ++ segG 30 1 (flat (ic .u32)) (PP.flatMap (·.l)))) := by
  unfold netsP segG
  rw [List.flatMap_cons, List.map_append]
  rfl
 have h1 : (netP p ++ netsP PP).Perm (netsP (p :: PP)) := by
  rw [e]
  unfold netP netsP
  rw [List.cons_append]
  refine List.Perm.cons _ ?_
  rw [← List.append_assoc, ← List.append_assoc]
  exact List.Perm.append_right _ List.perm_append_comm
 have h2 : (netP p ++ (P ++ (netsP PP ++ O))).Perm (P ++ ((netP p ++ netsP PP) ++ O)) := by
  rw [← List.append_assoc, List.append_assoc (netP p) (netsP PP) O, ← List.append_assoc P]
  exact List.Perm.append_right _ List.perm_append_comm
 exact h2.trans (List.Perm.append_left P (List.Perm.append_right O h1))
theorem nets_mem1 {p : Sg (Sg Int)} {PP : List (Sg (Sg Int))} {T : List Pc} (h : p ∈ PP) : Pc.row (.slice p.A p.l.length p.c) 96 1 p.l.length (flat sgc p.l) ∈ netsP PP ++ T :=
 List.mem_append_left _ (List.mem_append_left _ (List.mem_map_of_mem (f := Sg.pc 96 1 (flat sgc)) h))
theorem nets_mem2 {p : Sg (Sg Int)} {s : Sg Int} {PP : List (Sg (Sg Int))} {T : List Pc} (h : p ∈ PP) (hs : s ∈ p.l) : Pc.row (.slice s.A s.l.length s.c) 30 1 s.l.length (flat (ic .u32) s.l) ∈ netsP PP ++ T :=
 List.mem_append_left _ (List.mem_append_right _ (List.mem_map_of_mem (f := Sg.pc 30 1 (flat (ic .u32))) (List.mem_flatMap.2 ⟨p, h, hs⟩)))
theorem nets_one {n : Nt} (h : NtOk n) : NetsOk [n] [n.ps] := ⟨Nat.le_refl _, by show 1 ≤ 2; decide, fun x hx => by rw [List.mem_singleton.1 hx]; exact ⟨h, List.mem_cons_self⟩⟩
theorem nets_two {n n' : Nt} (h : NtOk n) (h' : NtOk n') : NetsOk ([n] ++ [n']) [n'.ps, n.ps] := ⟨by show 1 ≤ 2; decide, Nat.le_refl _, fun x hx => by
 rcases List.mem_append.1 hx with hx | hx
 ·rw [List.mem_singleton.1 hx]; exact ⟨h, List.mem_cons_of_mem _ List.mem_cons_self⟩
 rw [List.mem_singleton.1 hx]; exact ⟨h', List.mem_cons_self⟩⟩
theorem nets_set {ns : List Nt} {PP : List (Sg (Sg Int))} {x y : Nt} {i : Nat} (h : NetsOk ns PP) (hx : ns[i]? = some x) (hy : NtOk y) : NetsOk (ns.set i ⟨x.v, x.dst, x.proto, y.ps, x.last⟩) (y.ps :: PP) := by
 refine ⟨by rw [List.length_set]; exact h.1, by rw [List.length_set]; exact h.2.1, fun z hz => ?_⟩
 rcases List.mem_or_eq_of_mem_set hz with h1 | h1
 ·exact ⟨(h.2.2 z h1).1, List.mem_cons_of_mem _ (h.2.2 z h1).2⟩
 rw [h1]
 obtain ⟨⟨h2, h3, _⟩, _⟩ := h.2.2 x (List.mem_of_getElem? hx)
 exact ⟨⟨h2, h3, hy.2.2⟩, List.mem_cons_self⟩
def AnsP (ans dbl : Bool) (src kind left id quo : Int) : Prop := (ans = false ∧ dbl = false ∧ src = 0 ∧ kind = 0 ∧ left = 0 ∧ id = 0 ∧ quo = 0) ∨ (ans = true ∧ 1 ≤ src ∧ src ≤ 167774466 ∧ 1 ≤ kind ∧ kind ≤ 3 ∧ left = 60 ∧ 0 ≤ id ∧ id ≤ 65535 ∧ quo = 1)
def DrR (r : Rs) : Prop := vldRs r = true ∧ r.Ok ∧ r.run = 0 ∧ TrOk ⟨r.v, r.dst, r.proto⟩ ∧ (0 ≤ r.num ∧ r.num ≤ 99) ∧ (0 ≤ r.flow ∧ r.flow ≤ 2) ∧ (1 ≤ r.ttl ∧ r.ttl ≤ 4) ∧ (0 ≤ r.at_ ∧ r.back ≤ 20000) ∧ AnsP r.ans r.dbl r.src r.kind r.left r.id r.quo ∧ r.code = 0
def DrOrd (a b : Rs) : Prop := a.back < b.at_ ∧ (a.v = b.v → a.num < b.num)
def DrawnOk (m : Nat) (l : List Rs) : Prop := (∀ r ∈ l, DrR r) ∧ l.Pairwise DrOrd ∧ l.length ≤ m
def OutOk (l : List Rs) (at_ n0 n1 : Nat) : Prop := (∀ r ∈ l, DrR r ∧ r.back ≤ (at_ : Int) ∧ (r.v = 0 → r.num < (n0 : Int)) ∧ (r.v = 1 → r.num < (n1 : Int))) ∧ l.Pairwise DrOrd ∧ n0 + n1 = l.length
theorem OutOk.nil (a : Nat) : OutOk [] a 0 0 := ⟨fun r hr => absurd hr List.not_mem_nil, .nil, rfl⟩
theorem OutOk.ok {l : List Rs} {a n0 n1 m : Nat} (h : OutOk l a n0 n1) (hm : l.length ≤ m) : DrawnOk m l := ⟨fun r hr => (h.1 r hr).1, h.2.1, hm⟩
theorem ans_vld {r : Rs} (h : r.inRange) (hd : r.dst ≠ 0) (hp : r.proto = 17 ∨ r.proto = 1 ∨ r.proto = 6) (ha : AnsP r.ans r.dbl r.src r.kind r.left r.id r.quo) (hc : r.code = 0) : vldRs r = true := by
 have h1 : chkR r = 0 := by
  unfold chkR
  rw [if_neg (fun h1 => h1 h), if_neg (fun h1 => h1 (by omega))]
  rcases ha with ⟨a1, a2, a3, a4, a5, a6, a7⟩ | ⟨a1, a2, a3, a4, a5, a6, a7, a8, a9⟩
  ·have hn : r.noAns = true := by unfold Rs.noAns; simp [a3, a4, a5, a6, a7, hc]
   rw [if_neg (by rw [a1, a2, hn]; simp), if_neg (by rw [a1]; simp)]
  have ho : r.ansOk := by unfold Rs.ansOk; omega
  rw [if_neg (by rw [a1]; simp), if_neg (fun h2 => h2.2 ho)]
 unfold vldRs
 simp only [h1, decide_true, Bool.true_and, Bool.and_eq_true, decide_eq_true_eq, Bool.or_eq_true, Bool.not_eq_true']
 refine ⟨hd, ?_⟩
 rcases ha with ⟨a1, _⟩ | ⟨a1, a2, _⟩
 ·exact .inl a1
 exact .inr (by omega)
theorem OutOk.snoc {l : List Rs} {at0 at1 n0 n1 n2 n3 num f tq bq : Nat} {v dst proto : Int} {an db : Bool} {sr kd lf ie qu : Int} (h : OutOk l at0 n0 n1) (ht : TrOk ⟨v, dst, proto⟩)
  (hnum : (v = 0 ∧ num = n0) ∨ (v = 1 ∧ num = n1)) (hn : (v = 0 ∧ n2 = n0 + 1 ∧ n3 = n1) ∨ (v = 1 ∧ n2 = n0 ∧ n3 = n1 + 1)) (ha : AnsP an db sr kd lf ie qu) (hat : at0 < at1) (hf : f ≤ 2) (htq : tq ≤ 3) (hb : bq ≤ 3) (hbd : at1 ≤ 19000 ∧ l.length ≤ 99) :
  OutOk (l ++ [⟨v, 0, (num : Int), (at1 : Int), dst, proto, (f : Int), ((1 + tq : Nat) : Int), an, db, ((at1 + 5 * (1 + tq) + bq : Nat) : Int), sr, kd, 0, lf, ie, qu⟩]) (at1 + 5 * (1 + tq) + bq) n2 n3 := by
 have ht2 := ht
 unfold TrOk at ht2
 dsimp only at ht2
 have hl := h.2.2
 have hso : 0 ≤ sr ∧ sr ≤ 4294967295 := by
  rcases ha with ⟨_, _, a3, _⟩ | ⟨_, a2, a3, _⟩ <;> omega
 have hnew : DrR ⟨v, 0, (num : Int), (at1 : Int), dst, proto, (f : Int), ((1 + tq : Nat) : Int), an, db, ((at1 + 5 * (1 + tq) + bq : Nat) : Int), sr, kd, 0, lf, ie, qu⟩ := by
  refine ⟨ans_vld ?_ (by dsimp only; omega) (by dsimp only; omega) ha rfl, ?_, rfl, ht, ?_, ?_, ?_, ?_, ha, rfl⟩
  ·unfold Rs.inRange; dsimp only; omega
  ·unfold Rs.Ok; dsimp only; omega
  ·dsimp only; omega
  ·dsimp only; omega
  ·dsimp only; omega
  dsimp only; omega
 refine ⟨fun r hr => ?_, List.pairwise_append.2 ⟨h.2.1, List.pairwise_singleton _ _, fun a ha2 b hb2 => ?_⟩, by rw [List.length_append]; show n2 + n3 = l.length + 1; omega⟩
 ·rcases List.mem_append.1 hr with hr | hr
  ·obtain ⟨h1, h2, h3, h4⟩ := h.1 r hr
   exact ⟨h1, by omega, fun e => by have := h3 e; omega, fun e => by have := h4 e; omega⟩
  rw [List.mem_singleton.1 hr]
  refine ⟨hnew, Int.le_refl _, fun e => ?_, fun e => ?_⟩
  ·dsimp only at e ⊢; omega
  dsimp only at e ⊢; omega
 rw [List.mem_singleton.1 hb2]
 obtain ⟨h1, h2, h3, h4⟩ := h.1 a ha2
 refine ⟨by dsimp only; omega, fun e => ?_⟩
 dsimp only at e ⊢
 rcases hnum with ⟨e1, e2⟩ | ⟨e1, e2⟩
 ·have := h3 (by omega); omega
 have := h4 (by omega); omega
theorem drebs121_1_73147 (a0_0 : Int) (a0_1 : Int) (a0_2 : Int) (a0_3 : Option Addr) (a0_3n a0_3c : Nat) (a0_4 : Int) (w : World) : (Instr.buildSlice 94 1 #[(0, .agg #[.int .i64 a0_0, .int .u32 a0_1, .int .i64 a0_2, .slice a0_3 a0_3n a0_3c, .int .u32 a0_4])]).run Tryz.prog w = .ok (.slice (some ⟨w.heap.size, 0, none⟩) 1 1) (w.alloc (.cells [.int .i64 a0_0, .int .u32 a0_1, .int .i64 a0_2, .slice a0_3 a0_3n a0_3c, .int .u32 a0_4].toArray 92)) := by kernel_rfl
theorem dreel121 : Elem Tryz.prog 94 92 5 56 := Elem.mk' Tryz.underlying94 (z := .agg #[.int .i64 0, .int .u32 0, .int .i64 0, .slice none 0 0, .int .u32 0]) (by kernel_rfl) rfl (by omega) (by omega)
theorem drezv122 (w : World) : (zeroValue 95).run Tryz.prog w = .ok (.agg #[.int .i64 0, .int .i64 0, .int .i64 0, .int .i64 0, .int .i64 0, .int .i64 0, .int .i64 0, .int .i64 0, .int .i64 0, .int .i64 0, .int .i64 0, .int .i64 0, .int .i64 0, .int .i64 0, .int .i64 0, .int .i64 0]) w := rfl
theorem drefv119_1_92971 (a0 : Int) (a1 : Int) (a2 : Int) (a3 : Option Addr) (a3n a3c : Nat) (a4 : Int) (w : World) : (Instr.field 92 (.agg #[.int .i64 a0, .int .u32 a1, .int .i64 a2, .slice a3 a3n a3c, .int .u32 a4]) 1).run Tryz.prog w = .ok (.slice a3 a3n a3c) w := by kernel_rfl
theorem drebld47_74773 (a0_0 : Int) (a1_0 : Int) (a2_0 : Int) (a3_0 : Int) (a4_0 : Int) (a5_0 : Int) (a6_0 : Int) (a7_0 : Int) (w : World) : (Instr.build 65 #[(0, .int .i64 a0_0), (1, .int .i64 a1_0), (2, .int .i64 a2_0), (3, .int .i64 a3_0), (4, .int .u32 a4_0), (5, .int .i64 a5_0), (6, .int .i64 a6_0), (7, .int .i64 a7_0)]).run Tryz.prog w = .ok (.agg #[.int .i64 a0_0, .int .i64 a1_0, .int .i64 a2_0, .int .i64 a3_0, .int .u32 a4_0, .int .i64 a5_0, .int .i64 a6_0, .int .i64 a7_0, .bool false, .bool false, .int .i64 0, .int .u32 0, .int .i64 0, .int .i64 0, .int .i64 0, .int .i64 0, .int .i64 0]) w := by kernel_rfl
theorem dresz4 (w : World) : (sizeOf 4).run Tryz.prog w = .ok 1 w := rfl
theorem dreone_b {a0 : Bool} : ∀ u ∈ [(.bool a0 : Value)], u.oneCell' = true := by
 intro u hu
 rw [List.mem_singleton] at hu
 subst hu; rfl
theorem drebld45_50928 (a0_0 : Int) (a1_0 : Int) (a3_0 : Int) (a4_0 : Int) (a5_0 : Int) (w : World) : (Instr.build 63 #[(0, .int .u32 a0_0), (1, .int .i64 a1_0), (3, .int .i64 a3_0), (4, .int .i64 a4_0), (5, .int .i64 a5_0)]).run Tryz.prog w = .ok (.agg #[.int .u32 a0_0, .int .i64 a1_0, .int .i64 0, .int .i64 a3_0, .int .i64 a4_0, .int .i64 a5_0]) w := by kernel_rfl
theorem dresz45 (w : World) : (sizeOf 63).run Tryz.prog w = .ok 6 w := rfl
theorem dreone_u32i64i64i64i64i64 {a0 : Int} {a1 : Int} {a2 : Int} {a3 : Int} {a4 : Int} {a5 : Int} : ∀ u ∈ [(.int .u32 a0 : Value), .int .i64 a1, .int .i64 a2, .int .i64 a3, .int .i64 a4, .int .i64 a5], u.oneCell' = true := by
 intro u hu
 simp only [List.mem_cons, List.not_mem_nil, or_false] at hu
 rcases hu with rfl | rfl | rfl | rfl | rfl | rfl <;> rfl
theorem results_cod (cb : Nat) (w : World) (hC : Cod w cb) (m : Nat) (stb : Bool) (hm : m ≤ 100) :
  Calls Tryz.prog 17 #[.pointer (some ⟨cb, 0, none⟩), .int .i64 ((m : Nat) : Int), .bool stb] w fun e w' => ∃ x : {y : (Option Addr × Nat) × List Rs // DrawnOk m y.2 ∧ y.2.length ≤ y.1.2 ∧ y.1.2 ≤ maxLen}, e = .returned (.slice x.1.1.1 x.1.2.length x.1.1.2) ∧ Codr (fun w => Cod w cb) cb w ([.row (.slice x.1.1.1 x.1.2.length x.1.1.2) 65 17 x.1.2.length (flat Rs.cells x.1.2)]) w' := by
 refine begin_ (vs := [.pointer (some ⟨cb, 0, none⟩), .int .i64 ((m : Nat) : Int), .bool stb]) (I := Pm ⟨w, cb⟩ (.abs cb (fun w => Cod w cb) :: oths cb w)) Tryz.func17 rfl rfl rfl ?_ (Pm.codes hC (cod_cells hC) (cod_stab cb))
 refine zSG (TL.as_ ?_)
 refine zET (zSG (TL.mv ?_))
 refine TL.call (α := {y : Nt // NtOk y}) (r := fun x => .agg x.1.cells.toArray) (I' := fun x => Pm ⟨w, cb⟩ ([.abs cb (fun w => Cod w cb)] ++ (netsP (x.1.ps :: ([])) ++ oths cb w))) rfl rfl rfl rfl rfl Tryz.func63 (by decide) rfl (fun w1 hw => (scene_cod cb w1 (hw.at_ (k := 0) rfl).1).mono fun e w2 ⟨x, h1, h2⟩ => ⟨x, h1, Pm.netIn (P := [.abs cb (fun w => Cod w cb)]) (PP := ([])) (O := oths cb w) (hw.cods (k := 0) rfl h2 (netP_noAbs _))⟩) ?_
 rintro ⟨sc0, hsc0⟩
 dsimp only
 refine TL.prowS (e := 92) (size := 5) (cs := flat Nt.cells [sc0]) rfl rfl rfl rfl rfl (fun w => drebs121_1_73147 _ _ _ _ _ _ _ w) (by decide) rfl (fun g21 => ?_)
 refine TL.as_ ?_
 refine zET ?_
 refine TC.join (α := {y : (Option Addr × Nat) × List Nt × List (Sg (Sg Int)) // NetsOk y.2.1 y.2.2 ∧ y.2.1.length ≤ y.1.2 ∧ y.1.2 ≤ maxLen}) (fun y => [(0, .pointer (some ⟨cb, 0, none⟩)), (1, .int .i64 ((m : Nat) : Int)), (2, .bool stb), (6, .slice none 0 0), (7, .slice y.1.1.1 y.1.2.1.length y.1.1.2)]) (fun y => Pm ⟨w, cb⟩ ([.row (.slice y.1.1.1 y.1.2.1.length y.1.1.2) 92 5 y.1.2.1.length (flat Nt.cells y.1.2.1), .abs cb (fun w => Cod w cb)] ++ (netsP y.1.2.2 ++ oths cb w))) ?_ ?_
 ·refine zSG (TL.mv ?_)
  refine TL.pcallCod (k := 1) (α := Bool) (fun x => .bool x) (fun x => []) rfl rfl rfl rfl rfl Tryz.func18 (by decide) rfl rfl (fun w1 hw hC1 => dbool_cod cb w1 hC1 3 (by decide)) ?_
  rintro b0
  dsimp only [List.cons_append, List.nil_append]
  refine zET ?_
  refine TC.split (t := b0) rfl (fun c23 => ?_) (fun c23 => ?_)
  ·refine zG (TL.rn 2 rfl ?_)
   refine TL.call (α := {y : Nt // NtOk y}) (r := fun x => .agg x.1.cells.toArray) (I' := fun x => Pm ⟨w, cb⟩ ([.row (.slice (some ⟨g21, 0, none⟩) 1 1) 92 5 1 (flat Nt.cells [sc0]), .abs cb (fun w => Cod w cb)] ++ (netsP (x.1.ps :: (sc0.ps :: ([]))) ++ oths cb w))) rfl rfl rfl rfl rfl Tryz.func63 (by decide) rfl (fun w1 hw => (scene_cod cb w1 (hw.at_ (k := 1) rfl).1).mono fun e w2 ⟨x, h1, h2⟩ => ⟨x, h1, Pm.netIn (P := [.row (.slice (some ⟨g21, 0, none⟩) 1 1) 92 5 1 (flat Nt.cells [sc0]), .abs cb (fun w => Cod w cb)]) (PP := (sc0.ps :: ([]))) (O := oths cb w) (hw.cods (k := 1) rfl h2 (netP_noAbs _))⟩) ?_
   rintro ⟨sc1, hsc1⟩
   dsimp only
   refine TL.prowS (e := 92) (size := 5) (cs := flat Nt.cells [sc1]) rfl rfl rfl rfl rfl (fun w => drebs121_1_73147 _ _ _ _ _ _ _ w) (by decide) rfl (fun g27 => ?_)
   refine TL.appendT (k := 1) rfl rfl rfl rfl Tryz.underlying94 dreel121 rfl rfl rfl (fun w1 hw => pm_reads hw (k := 0) rfl) (flat_one nt_cel _) (by show _ * 56 ≤ _; omega) (1 + 1) (rfl) (flat Nt.cells (([sc0]) ++ [sc1])) ((flat_app _ _).symm) (fun A28 c28 hA281 hA282 => ?_)
   refine TL.as_ ?_
   refine zE ?_
   exact TX.joined (⟨((A28, c28), ([sc0]) ++ [sc1], (sc1.ps :: (sc0.ps :: ([])))), nets_two hsc0 hsc1, hA281, hA282⟩) (⟨rfl, rfl, rfl, rfl, rfl, trivial⟩) (fun w1 hw => hw.sel (.cons _ (.cons_cons _ (.cons_cons _ (List.Sublist.refl _)))))
  refine zk ?_
  exact TX.joined (⟨(((some ⟨g21, 0, none⟩), 1), [sc0], (sc0.ps :: ([]))), nets_one hsc0, by show 1 ≤ 1; decide, by show 1 ≤ maxLen; unfold maxLen; decide⟩) (⟨rfl, rfl, rfl, rfl, rfl, trivial⟩) (fun w1 hw => hw)
 rintro ⟨⟨⟨An, cn⟩, ns, PP⟩, hns, hnc, hnm⟩
 dsimp only at hns hnc hnm ⊢
 have hn1 := hns.1
 have hn2 := hns.2.1
 refine zS (TC.fact (p := ∃ g, An = some ⟨g, 0, none⟩) (fun w1 hw => rowA hw (k := 0) rfl (by omega)) ?_)
 rintro ⟨g_An, rfl⟩
 refine zG (TL.as_ ?_)
 refine zET (zSG (TL.mv ?_))
 refine TL.pcallCod (k := 1) (α := {q9 : Nat // q9 ≤ 65535 ∧ (1 ≤ (50 : Int) → (q9 : Int) < 50)}) (fun q9 => .int .i64 ((q9.1 : Nat) : Int)) (fun q9 => []) rfl rfl rfl rfl rfl Tryz.func21 (by decide) rfl rfl (fun w1 hw hC1 => next_cod cb w1 50 hC1) ?_
 rintro ⟨a0, ha01, ha02⟩
 dsimp only [List.cons_append, List.nil_append]
 refine TL.mv ?_
 refine TL.pcallCod (k := 1) (α := {q9 : Nat // q9 ≤ 65535 ∧ (1 ≤ (700 : Int) → (q9 : Int) < 700)}) (fun q9 => .int .i64 ((q9.1 : Nat) : Int)) (fun q9 => []) rfl rfl rfl rfl rfl Tryz.func21 (by decide) rfl rfl (fun w1 hw hC1 => next_cod cb w1 700 hC1) ?_
 rintro ⟨i0, hi01, hi02⟩
 dsimp only [List.cons_append, List.nil_append]
 refine TL.val rfl rfl rfl (gives_bin rfl rfl rfl (fun w => bin_mul_ (r := ((100 * i0 : Nat) : Int)) (by simp only [IntKind.wrap_i64]; omega) w)) ?_
 refine TL.rn 2 rfl (zET (zSG ?_))
 refine TL.pnew rfl rfl rfl (exec_alloc (cs := [.int .i64 0, .int .i64 0, .int .i64 0, .int .i64 0, .int .i64 0, .int .i64 0, .int .i64 0, .int .i64 0, .int .i64 0, .int .i64 0, .int .i64 0, .int .i64 0, .int .i64 0, .int .i64 0, .int .i64 0, .int .i64 0]) rfl drezv122 rfl) (fun g11 => ?_)
 refine zET (zS (zSG (TL.rn 2 rfl (TL.v (gD ((m + 1 : Nat) : Int)) ?_))))
 refine TL.pcallCod (k := 2) (α := {q9 : Nat // q9 ≤ 65535 ∧ (1 ≤ (((m + 1 : Nat) : Int) : Int) → (q9 : Int) < ((m + 1 : Nat) : Int))}) (fun q9 => .int .i64 ((q9.1 : Nat) : Int)) (fun q9 => []) rfl rfl rfl rfl rfl Tryz.func21 (by decide) rfl rfl (fun w1 hw hC1 => next_cod cb w1 ((m + 1 : Nat) : Int) hC1) ?_
 rintro ⟨k0, hk01, hk02⟩
 dsimp only [List.cons_append, List.nil_append]
 refine TL.as_ ?_
 refine zET (zB (TC.nilrow 65 17 ?_))
 refine TC.loop_ (α := {y : Nat × Nat × Nat × (Nat × Nat) × (Option Addr × Nat) × List Rs × List Nt × List (Sg (Sg Int)) // (y.1 + y.2.2.2.2.2.1.length ≤ m ∧ y.2.1 ≤ 100 + 100 * y.2.2.2.2.2.1.length ∧ y.2.2.1 ≤ 70000 + 100 * y.2.2.2.2.2.1.length) ∧ OutOk y.2.2.2.2.2.1 y.2.1 y.2.2.2.1.1 y.2.2.2.1.2 ∧ NetsOk y.2.2.2.2.2.2.1 y.2.2.2.2.2.2.2 ∧ y.2.2.2.2.2.2.1.length = ns.length ∧ y.2.2.2.2.2.1.length ≤ y.2.2.2.2.1.2 ∧ y.2.2.2.2.1.2 ≤ maxLen}) (fun y => [(0, .pointer (some ⟨cb, 0, none⟩)), (2, .bool stb), (7, .slice (some ⟨g_An, 0, none⟩) ns.length cn), (8, .slice y.1.2.2.2.2.1.1 y.1.2.2.2.2.2.1.length y.1.2.2.2.2.1.2), (9, .int .i64 ((y.1.2.1 : Nat) : Int)), (10, .int .i64 ((y.1.2.2.1 : Nat) : Int)), (12, .int .i64 ((y.1.1 : Nat) : Int)), (11, .pointer (some ⟨g11, 0, none⟩))]) (fun y => Pm ⟨w, cb⟩ ([.row (.slice y.1.2.2.2.2.1.1 y.1.2.2.2.2.2.1.length y.1.2.2.2.2.1.2) 65 17 y.1.2.2.2.2.2.1.length (flat Rs.cells y.1.2.2.2.2.2.1), .blk g11 95 [.int .i64 ((y.1.2.2.2.1.1 : Nat) : Int), .int .i64 ((y.1.2.2.2.1.2 : Nat) : Int), .int .i64 0, .int .i64 0, .int .i64 0, .int .i64 0, .int .i64 0, .int .i64 0, .int .i64 0, .int .i64 0, .int .i64 0, .int .i64 0, .int .i64 0, .int .i64 0, .int .i64 0, .int .i64 0], .row (.slice (some ⟨g_An, 0, none⟩) ns.length cn) 92 5 ns.length (flat Nt.cells y.1.2.2.2.2.2.2.1), .abs cb (fun w => Cod w cb)] ++ (netsP y.1.2.2.2.2.2.2.2 ++ oths cb w))) (fun y => y.1.1) (⟨(k0, a0, 100 * i0, (0, 0), (none, 0), [], ns, PP), ⟨by dsimp only [List.length_nil]; omega, by dsimp only [List.length_nil]; omega, by dsimp only [List.length_nil]; omega⟩, OutOk.nil _, hns, rfl, Nat.le_refl _, Nat.zero_le _⟩) ⟨rfl, rfl, rfl, rfl, rfl, rfl, rfl, rfl, trivial⟩ (fun w1 hw => hw) ?_
 rintro ⟨⟨k, at0, idn, ⟨n0, n1⟩, ⟨Ar, cr⟩, out, ns1, P1⟩, ⟨hk, hat, hid⟩, hout, hns1, hnl1, hrc, hrm⟩
 dsimp only at hk hat hid hout hns1 hnl1 hrc hrm ⊢
 refine zS (zSG (TL.mv ?_))
 refine TL.sp bin_gtr (fun q39 => ?_) (fun q39 => ?_)
 ·refine zET (zc (zk (zT (zS (zB (zSG (TL.rn 2 rfl (TL.v (gN Tryz.underlying94) ?_))))))))
  refine TL.pcallCod (k := 3) (α := {q9 : Nat // q9 ≤ 65535 ∧ (1 ≤ ((ns.length : Nat) : Int) → (q9 : Int) < (ns.length : Nat))}) (fun q9 => .int .i64 ((q9.1 : Nat) : Int)) (fun q9 => []) rfl rfl rfl rfl rfl Tryz.func21 (by decide) rfl rfl (fun w1 hw hC1 => next_cod cb w1 (ns.length : Nat) hC1) ?_
  rintro ⟨ix, hix1, hix2⟩
  dsimp only [List.cons_append, List.nil_append]
  refine TL.as_ ?_
  refine zET ?_
  refine TC.join (α := {y : List Nt × List (Sg (Sg Int)) // NetsOk y.1 y.2 ∧ y.1.length = ns.length}) (fun y => [(0, .pointer (some ⟨cb, 0, none⟩)), (2, .bool stb), (7, .slice (some ⟨g_An, 0, none⟩) ns.length cn), (8, .slice Ar out.length cr), (9, .int .i64 ((at0 : Nat) : Int)), (10, .int .i64 ((idn : Nat) : Int)), (11, .pointer (some ⟨g11, 0, none⟩)), (12, .int .i64 ((k : Nat) : Int)), (13, .int .i64 ((ix : Nat) : Int))]) (fun y => Pm ⟨w, cb⟩ ([.row (.slice Ar out.length cr) 65 17 out.length (flat Rs.cells out), .blk g11 95 [.int .i64 ((n0 : Nat) : Int), .int .i64 ((n1 : Nat) : Int), .int .i64 0, .int .i64 0, .int .i64 0, .int .i64 0, .int .i64 0, .int .i64 0, .int .i64 0, .int .i64 0, .int .i64 0, .int .i64 0, .int .i64 0, .int .i64 0, .int .i64 0, .int .i64 0], .row (.slice (some ⟨g_An, 0, none⟩) ns.length cn) 92 5 ns.length (flat Nt.cells y.1.1), .abs cb (fun w => Cod w cb)] ++ (netsP y.1.2 ++ oths cb w))) ?_ ?_
  ·refine zSG (TL.mv ?_)
   cases stb with
   | true =>
    refine TL.rn 5 rfl (zET (zd (zk ?_)))
    exact TX.joined (⟨(ns1, P1), hns1, hnl1⟩) (⟨rfl, rfl, rfl, rfl, rfl, rfl, rfl, rfl, rfl, trivial⟩) (fun w1 hw => hw)
   | false =>
    refine TL.rn 3 rfl (TL.gu ?_)
    refine TL.pcallCod (k := 3) (α := Bool) (fun x => .bool x) (fun x => []) rfl rfl rfl rfl rfl Tryz.func18 (by decide) rfl rfl (fun w1 hw hC1 => dbool_cod cb w1 hC1 12 (by decide)) ?_
    rintro b1
    dsimp only [List.cons_append, List.nil_append]
    refine TL.pk ?_
    refine zET ?_
    refine TC.split (t := b1) rfl (fun c51 => ?_) (fun c51 => ?_)
    ·refine zG (TL.rn 3 rfl ?_)
     refine TL.call (α := {y : Nt // NtOk y}) (r := fun x => .agg x.1.cells.toArray) (I' := fun x => Pm ⟨w, cb⟩ ([.row (.slice Ar out.length cr) 65 17 out.length (flat Rs.cells out), .blk g11 95 [.int .i64 ((n0 : Nat) : Int), .int .i64 ((n1 : Nat) : Int), .int .i64 0, .int .i64 0, .int .i64 0, .int .i64 0, .int .i64 0, .int .i64 0, .int .i64 0, .int .i64 0, .int .i64 0, .int .i64 0, .int .i64 0, .int .i64 0, .int .i64 0, .int .i64 0], .row (.slice (some ⟨g_An, 0, none⟩) ns.length cn) 92 5 ns.length (flat Nt.cells ns1), .abs cb (fun w => Cod w cb)] ++ (netsP (x.1.ps :: P1) ++ oths cb w))) rfl rfl rfl rfl rfl Tryz.func63 (by decide) rfl (fun w1 hw => (scene_cod cb w1 (hw.at_ (k := 3) rfl).1).mono fun e w2 ⟨x, h1, h2⟩ => ⟨x, h1, Pm.netIn (P := [.row (.slice Ar out.length cr) 65 17 out.length (flat Rs.cells out), .blk g11 95 [.int .i64 ((n0 : Nat) : Int), .int .i64 ((n1 : Nat) : Int), .int .i64 0, .int .i64 0, .int .i64 0, .int .i64 0, .int .i64 0, .int .i64 0, .int .i64 0, .int .i64 0, .int .i64 0, .int .i64 0, .int .i64 0, .int .i64 0, .int .i64 0, .int .i64 0], .row (.slice (some ⟨g_An, 0, none⟩) ns.length cn) 92 5 ns.length (flat Nt.cells ns1), .abs cb (fun w => Cod w cb)]) (PP := P1) (O := oths cb w) (hw.cods (k := 3) rfl h2 (netP_noAbs _))⟩) ?_
     rintro ⟨sc2, hsc2⟩
     dsimp only
     refine TL.val rfl rfl rfl (gives_fieldV (v := .slice sc2.ps.A sc2.ps.l.length sc2.ps.c) rfl rfl (fun w => drefv119_1_92971 _ _ _ _ _ _ _ w)) ?_
     have hi57 : ix < ns1.length := by omega
     obtain ⟨x57, hx57⟩ := ex_at hi57
     refine TL.val rfl rfl rfl (gA (i := ix) Tryz.underlying94 dntsz119 rfl rfl rfl rfl rfl (by omega)) ?_
     refine TL.v (gF dntfld119_1) ?_
     refine TL.rowset (k := 2) (vs := [.slice sc2.ps.A sc2.ps.l.length sc2.ps.c]) (xs' := flat Nt.cells (ns1.set ix (⟨x57.v, x57.dst, x57.proto, sc2.ps, x57.last⟩ : Nt))) rfl rfl rfl rfl rfl rfl rfl dntsz117 dntone_s (by rw [flat_len nt_cel]; show 0 + ix * 5 + 3 + 1 ≤ _; omega) (flat_put nt_cel (q := 3) (y := (⟨x57.v, x57.dst, x57.proto, sc2.ps, x57.last⟩ : Nt)) hx57 (by show 3 + 1 ≤ 5; decide) rfl) ?_
     try dsimp only [List.set_cons_zero, List.set_cons_succ]
     refine zE ?_
     exact TX.joined (⟨(ns1.set ix (⟨x57.v, x57.dst, x57.proto, sc2.ps, x57.last⟩ : Nt), (sc2.ps :: P1)), nets_set hns1 hx57 hsc2, by dsimp only; rw [List.length_set]; exact hnl1⟩) (⟨rfl, rfl, rfl, rfl, rfl, rfl, rfl, rfl, rfl, trivial⟩) (fun w1 hw => hw)
    refine zk ?_
    exact TX.joined (⟨(ns1, P1), hns1, hnl1⟩) (⟨rfl, rfl, rfl, rfl, rfl, rfl, rfl, rfl, rfl, trivial⟩) (fun w1 hw => hw)
  rintro ⟨⟨ns2, P2⟩, hns2, hnl2⟩
  dsimp only at hns2 hnl2 ⊢
  refine zSG (TL.rn 2 rfl ?_)
  have hi61 : ix < ns2.length := by omega
  obtain ⟨x61, hx61⟩ := ex_at hi61
  refine TL.val rfl rfl rfl (gA (i := ix) Tryz.underlying94 dntsz119 rfl rfl rfl rfl rfl (by omega)) ?_
  refine TL.val rfl rfl rfl (gives_loadR (off := 0 + ix * 5) rfl rfl dntag119 dntsz119 (nt_cel.len x61) (fun w1 hw j9 u9 h9 => flat_row nt_cel hw (q := 2) rfl hx61 j9 u9 h9)) ?_
  refine TL.pnew rfl rfl rfl (exec_alloc (cs := [.int .i64 0, .int .u32 0, .int .i64 0, .slice none 0 0, .int .u32 0]) rfl dntzv119 rfl) (fun g14 => ?_)
  refine TL.pstore (k := 0) (vs := x61.cells) rfl rfl rfl rfl rfl rfl rfl dntsz119 (nt_cel.one _) (by show 5 ≤ 5; decide) (L' := ([.blk g14 92 x61.cells, .row (.slice Ar out.length cr) 65 17 out.length (flat Rs.cells out), .blk g11 95 [.int .i64 ((n0 : Nat) : Int), .int .i64 ((n1 : Nat) : Int), .int .i64 0, .int .i64 0, .int .i64 0, .int .i64 0, .int .i64 0, .int .i64 0, .int .i64 0, .int .i64 0, .int .i64 0, .int .i64 0, .int .i64 0, .int .i64 0, .int .i64 0, .int .i64 0], .row (.slice (some ⟨g_An, 0, none⟩) ns.length cn) 92 5 ns.length (flat Nt.cells ns2), .abs cb (fun w => Cod w cb)] ++ (netsP P2 ++ oths cb w))) rfl ?_
  refine zET (zS ?_)
  have hnn := hout.2.2
  obtain ⟨hx61k, hx61p⟩ := hns2.2.2 x61 (List.mem_of_getElem? hx61)
  obtain ⟨hx61t, hx61l, lg, hlg1, hlg3, hps1, hps3, hlgw⟩ := hx61k
  have hx61t2 := hx61t
  unfold TrOk at hx61t2
  dsimp only at hx61t2
  have hv61 : x61.v = 0 ∨ x61.v = 1 := by omega
  refine zG (TL.mv ?_)
  refine TL.v (gF dntfld119_1) ?_
  refine TL.v (gL 0 dntag117) ?_
  refine TL.v (gN Tryz.underlying90) ?_
  refine TL.pcallCod (k := 4) (α := {q9 : Nat // q9 ≤ 65535 ∧ (1 ≤ ((x61.ps.l.length : Nat) : Int) → (q9 : Int) < (x61.ps.l.length : Nat))}) (fun q9 => .int .i64 ((q9.1 : Nat) : Int)) (fun q9 => []) rfl rfl rfl rfl rfl Tryz.func21 (by decide) rfl rfl (fun w1 hw hC1 => next_cod cb w1 (x61.ps.l.length : Nat) hC1) ?_
  rintro ⟨f, hf1, hf2⟩
  dsimp only [List.cons_append, List.nil_append]
  refine TL.as_ ?_
  refine zET (zSG (TL.v (gF dntfld119_1) ?_))
  refine TL.v (gL 0 dntag117) ?_
  refine TL.mv ?_
  have hmm71 := nets_mem1 (T := oths cb w) hx61p
  refine TL.fact (p := ∃ g, x61.ps.A = some ⟨g, 0, none⟩) (fun w1 hw => segA hw (List.mem_of_mem_drop (i := 5) (by exact hmm71)) (by omega)) ?_
  rintro ⟨gx71, hgx71⟩
  obtain ⟨p71, hp71⟩ : ∃ z, x61.ps.l[f]? = some z := ⟨_, List.getElem?_eq_getElem (by omega)⟩
  refine TL.val rfl rfl rfl (gA (i := f) Tryz.underlying90 dntsz64 rfl rfl rfl rfl hgx71 (by omega)) ?_
  refine TL.val rfl rfl rfl (gives_load (v := .slice p71.A p71.l.length p71.c) rfl rfl dntag64 (fun w1 hw => seg_cell sgc_cel hw (List.mem_of_mem_drop (i := 5) (by exact hmm71)) hgx71 hp71 0 _ rfl)) ?_
  have hpw71 := hlgw p71 (List.mem_of_getElem? hp71)
  have hp71l := hpw71.1
  refine TL.as_ ?_
  refine zET (zSG (TL.rn 2 rfl ?_))
  refine TL.pcallCod (k := 4) (α := {q9 : Nat // q9 ≤ 65535 ∧ (1 ≤ (40 : Int) → (q9 : Int) < 40)}) (fun q9 => .int .i64 ((q9.1 : Nat) : Int)) (fun q9 => []) rfl rfl rfl rfl rfl Tryz.func21 (by decide) rfl rfl (fun w1 hw hC1 => next_cod cb w1 40 hC1) ?_
  rintro ⟨dq, hdq1, hdq2⟩
  dsimp only [List.cons_append, List.nil_append]
  refine TL.v (gD ((1 + dq : Nat) : Int)) ?_
  refine TL.v (gD ((at0 + (1 + dq) : Nat) : Int)) ?_
  refine TL.as_ ?_
  refine zET ?_
  refine TC.join (α := {y : (Nat × Nat) × Nat // ((x61.v = 0 ∧ y.1.2 = n0) ∨ (x61.v = 1 ∧ y.1.2 = n1)) ∧ y.2 ≤ p71.l.length}) (fun y => [(0, .pointer (some ⟨cb, 0, none⟩)), (2, .bool stb), (7, .slice (some ⟨g_An, 0, none⟩) ns.length cn), (8, .slice Ar out.length cr), (9, .int .i64 ((at0 + (1 + dq) : Nat) : Int)), (10, .int .i64 ((idn : Nat) : Int)), (11, .pointer (some ⟨g11, 0, none⟩)), (12, .int .i64 ((k : Nat) : Int)), (14, .pointer (some ⟨g14, 0, none⟩)), (15, .int .i64 ((f : Nat) : Int)), (16, .slice p71.A p71.l.length p71.c), (17, .pointer (some ⟨y.1.1.1, 0, none⟩))]) (fun y => Pm ⟨w, cb⟩ ([.blk y.1.1.1 65 [.int .i64 x61.v, .int .i64 0, .int .i64 ((y.1.1.2 : Nat) : Int), .int .i64 ((at0 + (1 + dq) : Nat) : Int), .int .u32 x61.dst, .int .i64 x61.proto, .int .i64 ((f : Nat) : Int), .int .i64 ((1 + y.1.2 : Nat) : Int), .bool false, .bool false, .int .i64 0, .int .u32 0, .int .i64 0, .int .i64 0, .int .i64 0, .int .i64 0, .int .i64 0], .blk g14 92 x61.cells, .row (.slice Ar out.length cr) 65 17 out.length (flat Rs.cells out), .blk g11 95 [.int .i64 ((n0 : Nat) : Int), .int .i64 ((n1 : Nat) : Int), .int .i64 0, .int .i64 0, .int .i64 0, .int .i64 0, .int .i64 0, .int .i64 0, .int .i64 0, .int .i64 0, .int .i64 0, .int .i64 0, .int .i64 0, .int .i64 0, .int .i64 0, .int .i64 0], .row (.slice (some ⟨g_An, 0, none⟩) ns.length cn) 92 5 ns.length (flat Nt.cells ns2), .abs cb (fun w => Cod w cb)] ++ (netsP P2 ++ oths cb w))) ?_ ?_
  ·rcases hv61 with hv0 | hv1
   ·refine TC.cut [(0, .pointer (some ⟨cb, 0, none⟩)), (2, .bool stb), (7, .slice (some ⟨g_An, 0, none⟩) ns.length cn), (8, .slice Ar out.length cr), (9, .int .i64 ((at0 + (1 + dq) : Nat) : Int)), (10, .int .i64 ((idn : Nat) : Int)), (11, .pointer (some ⟨g11, 0, none⟩)), (12, .int .i64 ((k : Nat) : Int)), (13, .int .i64 ((ix : Nat) : Int)), (59, .slice (some ⟨g_An, 0, none⟩) ns.length cn), (60, .int .i64 ((ix : Nat) : Int)), (61, .pointer (some ⟨g_An, 0 + ix * 5, none⟩)), (62, .agg (x61.cells).toArray), (14, .pointer (some ⟨g14, 0, none⟩)), (63, .pointer (some ⟨cb, 0, none⟩)), (64, .pointer (some ⟨g14, 3, none⟩)), (65, .slice x61.ps.A x61.ps.l.length x61.ps.c), (66, .int .i64 (x61.ps.l.length : Nat)), (67, .int .i64 ((f : Nat) : Int)), (15, .int .i64 ((f : Nat) : Int)), (68, .pointer (some ⟨g14, 3, none⟩)), (69, .slice x61.ps.A x61.ps.l.length x61.ps.c), (70, .int .i64 ((f : Nat) : Int)), (71, .pointer (some ⟨gx71, 0 + f * 1, none⟩)), (72, .slice p71.A p71.l.length p71.c), (16, .slice p71.A p71.l.length p71.c), (73, .int .i64 ((at0 : Nat) : Int)), (74, .pointer (some ⟨cb, 0, none⟩)), (75, .int .i64 ((dq : Nat) : Int)), (76, .int .i64 ((1 + dq : Nat) : Int)), (77, .int .i64 ((at0 + (1 + dq) : Nat) : Int))] (Pm ⟨w, cb⟩ ([.blk g14 92 x61.cells, .row (.slice Ar out.length cr) 65 17 out.length (flat Rs.cells out), .blk g11 95 [.int .i64 ((n0 : Nat) : Int), .int .i64 ((n1 : Nat) : Int), .int .i64 0, .int .i64 0, .int .i64 0, .int .i64 0, .int .i64 0, .int .i64 0, .int .i64 0, .int .i64 0, .int .i64 0, .int .i64 0, .int .i64 0, .int .i64 0, .int .i64 0, .int .i64 0], .row (.slice (some ⟨g_An, 0, none⟩) ns.length cn) 92 5 ns.length (flat Nt.cells ns2), .abs cb (fun w => Cod w cb)] ++ (netsP P2 ++ oths cb w))) ⟨rfl, rfl, rfl, rfl, rfl, rfl, rfl, rfl, rfl, rfl, rfl, rfl, rfl, rfl, rfl, rfl, rfl, rfl, rfl, rfl, rfl, rfl, rfl, rfl, rfl, rfl, rfl, rfl, rfl, rfl, rfl, trivial⟩ (fun w1 hw => hw) ?_
    refine TC.held (ls := #[Ff,Ff,Ff,Ff,Ff,Ff,Ff,Ff,Ff,Ff,Ff,Ff,Ff,Ff,Ff,Ff,Ff,Ff,Ff,Ff,Ff,Ff,Ff,Ff,Ff]) (Pm ⟨w, cb⟩ [.blk g14 92 x61.cells, .blk g11 95 [.int .i64 ((n0 : Nat) : Int), .int .i64 ((n1 : Nat) : Int), .int .i64 0, .int .i64 0, .int .i64 0, .int .i64 0, .int .i64 0, .int .i64 0, .int .i64 0, .int .i64 0, .int .i64 0, .int .i64 0, .int .i64 0, .int .i64 0, .int .i64 0, .int .i64 0]]) (by kernel_rfl) rfl rfl (fun w hw => hw.drawn _) ?_
    refine TH.tk 0 rfl rfl rfl (gF dntfld119_0) (fun w1 hw => hw.pick [0, 2] (by decide) rfl) ?_
    refine TH.tk 1 rfl rfl rfl (gF pcmfld32_0) (fun w1 hw => hw.pick [0, 2] (by decide) rfl) ?_
    refine TH.tk 2 rfl rfl rfl (gL 0 pcmag3) (fun w1 hw => hw.pick [0, 2] (by decide) rfl) ?_
    refine TH.tk 3 rfl rfl rfl (gF dntfld119_0) (fun w1 hw => hw.pick [0, 2] (by decide) rfl) ?_
    refine TH.tk 4 rfl rfl rfl (gF pcmfld32_0) (fun w1 hw => hw.pick [0, 2] (by decide) rfl) ?_
    refine TH.tk 5 rfl rfl rfl (show Gives _ _ _ _ _ (Value.int .i64 0) from by rw [show (Value.int .i64 0) = .int .i64 x61.v by rw [hv0]]; exact pm_load (k := 0) (i := 0) rfl rfl pcmag3 rfl rfl) (fun w1 hw => hw.pick [0, 2] (by decide) rfl) ?_
    refine TH.tk 6 rfl rfl rfl (gives_at (v := .pointer (some ⟨g11, 0, none⟩)) rfl rfl rfl (fun w => at_arr Tryz.underlying95 pcmsz3 g11 0 _ 0 (by decide) w)) (fun w1 hw => hw.pick [0, 2] (by decide) rfl) ?_
    refine TH.tk 7 rfl rfl rfl (gL 1 pcmag3) (fun w1 hw => hw.pick [0, 2] (by decide) rfl) ?_
    refine TH.tk 8 rfl rfl rfl (gives_move rfl rfl) (fun w1 hw => hw.pick [0, 2] (by decide) rfl) ?_
    refine TH.tk 9 rfl rfl rfl (gF dntfld119_0) (fun w1 hw => hw.pick [0, 2] (by decide) rfl) ?_
    refine TH.tk 10 rfl rfl rfl (gF pcmfld32_1) (fun w1 hw => hw.pick [0, 2] (by decide) rfl) ?_
    refine TH.tk 11 rfl rfl rfl (gL 0 pcmag30) (fun w1 hw => hw.pick [0, 2] (by decide) rfl) ?_
    refine TH.tk 12 rfl rfl rfl (gF dntfld119_0) (fun w1 hw => hw.pick [0, 2] (by decide) rfl) ?_
    refine TH.tk 13 rfl rfl rfl (gF pcmfld32_2) (fun w1 hw => hw.pick [0, 2] (by decide) rfl) ?_
    refine TH.tk 14 rfl rfl rfl (gL 0 pcmag3) (fun w1 hw => hw.pick [0, 2] (by decide) rfl) ?_
    refine TH.tk 15 rfl rfl rfl (gives_move rfl rfl) (fun w1 hw => hw.pick [0, 2] (by decide) rfl) ?_
    refine TH.tk 16 rfl rfl rfl (gives_move rfl rfl) (fun w1 hw => hw.pick [0, 2] (by decide) rfl) ?_
    refine TH.tk 17 rfl rfl rfl (gives_move rfl rfl) (fun w1 hw => hw.pick [0, 2] (by decide) rfl) ?_
    refine TH.tk 18 rfl rfl rfl (gN Tryz.underlying96) (fun w1 hw => hw.pick [0, 2] (by decide) rfl) ?_
    refine TH.tk 19 rfl rfl rfl (gD ((p71.l.length + 1 : Nat) : Int)) (fun w1 hw => hw.pick [0, 2] (by decide) rfl) ?_
    refine TH.two' (listed1 := #[Tt,Tt,Tt,Tt,Tt,Tt,Tt,Tt,Tt,Tt,Tt,Tt,Tt,Tt,Tt,Tt,Tt,Tt,Tt,Tt,Tt,Ff,Ff,Ff,Ff]) (listed2 := #[Tt,Tt,Tt,Tt,Tt,Tt,Tt,Tt,Tt,Tt,Tt,Tt,Tt,Tt,Tt,Tt,Tt,Tt,Tt,Tt,Ff,Ff,Ff,Tt,Ff]) 20 23 rfl rfl (by kernel_rfl) rfl rfl ?_ ?_
    ·refine TL.pcallCod (k := 4) (α := {q9 : Nat // q9 ≤ 65535 ∧ (1 ≤ (((p71.l.length + 1 : Nat) : Int) : Int) → (q9 : Int) < ((p71.l.length + 1 : Nat) : Int))}) (fun q9 => .int .i64 ((q9.1 : Nat) : Int)) (fun q9 => []) rfl rfl rfl rfl rfl Tryz.func21 (by decide) rfl rfl (fun w1 hw hC1 => next_cod cb w1 ((p71.l.length + 1 : Nat) : Int) hC1) ?_
     rintro ⟨tq, htq1, htq2⟩
     dsimp only [List.cons_append, List.nil_append]
     refine zE ?_
     refine TX.he (fun w1 hw => hw.pick [0, 2] (by decide) rfl) fun hS => ?_
     refine TH.t 21 rfl (gD ((1 + tq : Nat) : Int)) hS ?_
     refine TH.t 22 rfl (gives_build (v := .agg #[.int .i64 x61.v, .int .i64 0, .int .i64 ((n0 : Nat) : Int), .int .i64 ((at0 + (1 + dq) : Nat) : Int), .int .u32 x61.dst, .int .i64 x61.proto, .int .i64 ((f : Nat) : Int), .int .i64 ((1 + tq : Nat) : Int), .bool false, .bool false, .int .i64 0, .int .u32 0, .int .i64 0, .int .i64 0, .int .i64 0, .int .i64 0, .int .i64 0]) rfl rfl (fun w => drebld47_74773 _ _ _ _ _ _ _ _ w)) hS ?_
     refine TH.only' 23 rfl (by kernel_rfl) rfl ?_
     refine TL.pnew rfl rfl rfl (exec_alloc (cs := [.int .i64 0, .int .i64 0, .int .i64 0, .int .i64 0, .int .u32 0, .int .i64 0, .int .i64 0, .int .i64 0, .bool false, .bool false, .int .i64 0, .int .u32 0, .int .i64 0, .int .i64 0, .int .i64 0, .int .i64 0, .int .i64 0]) rfl arpzv65 rfl) (fun g17 => ?_)
     refine zE ?_
     refine TX.held (fun w1 hw => hw.pick [1, 3] (by decide) rfl) ?_
     refine TH.only' 24 rfl (by kernel_rfl) rfl ?_
     refine TL.pstore (k := 0) (vs := [.int .i64 x61.v, .int .i64 0, .int .i64 ((n0 : Nat) : Int), .int .i64 ((at0 + (1 + dq) : Nat) : Int), .int .u32 x61.dst, .int .i64 x61.proto, .int .i64 ((f : Nat) : Int), .int .i64 ((1 + tq : Nat) : Int), .bool false, .bool false, .int .i64 0, .int .u32 0, .int .i64 0, .int .i64 0, .int .i64 0, .int .i64 0, .int .i64 0]) rfl rfl rfl rfl rfl rfl rfl prssz65 arpone_i64i64i64i64u32i64i64i64bbi64u32i64i64i64i64i64 (by show 17 ≤ 17; decide) rfl ?_
     refine zE ?_
     refine TX.held (fun w1 hw => hw.pick [1, 3] (by decide) rfl) ?_
     refine TH.done (by kernel_rfl) ?_
     exact TX.joined (⟨((g17, n0), tq), by dsimp only; omega, by dsimp only; omega⟩) (⟨rfl, rfl, rfl, rfl, rfl, rfl, rfl, rfl, rfl, rfl, rfl, rfl, trivial⟩) (fun w1 hw => hw)
    refine TL.pnew rfl rfl rfl (exec_alloc (cs := [.int .i64 0, .int .i64 0, .int .i64 0, .int .i64 0, .int .u32 0, .int .i64 0, .int .i64 0, .int .i64 0, .bool false, .bool false, .int .i64 0, .int .u32 0, .int .i64 0, .int .i64 0, .int .i64 0, .int .i64 0, .int .i64 0]) rfl arpzv65 rfl) (fun g17 => ?_)
    refine zE ?_
    refine TX.held (fun w1 hw => hw.pick [1, 3] (by decide) rfl) ?_
    refine TH.only' 20 rfl (by kernel_rfl) rfl ?_
    refine TL.pcallCod (k := 5) (α := {q9 : Nat // q9 ≤ 65535 ∧ (1 ≤ (((p71.l.length + 1 : Nat) : Int) : Int) → (q9 : Int) < ((p71.l.length + 1 : Nat) : Int))}) (fun q9 => .int .i64 ((q9.1 : Nat) : Int)) (fun q9 => []) rfl rfl rfl rfl rfl Tryz.func21 (by decide) rfl rfl (fun w1 hw hC1 => next_cod cb w1 ((p71.l.length + 1 : Nat) : Int) hC1) ?_
    rintro ⟨tq, htq1, htq2⟩
    dsimp only [List.cons_append, List.nil_append]
    refine zE ?_
    refine TX.he (fun w1 hw => hw.pick [1, 3] (by decide) rfl) fun hS => ?_
    refine TH.t 21 rfl (gD ((1 + tq : Nat) : Int)) hS ?_
    refine TH.t 22 rfl (gives_build (v := .agg #[.int .i64 x61.v, .int .i64 0, .int .i64 ((n0 : Nat) : Int), .int .i64 ((at0 + (1 + dq) : Nat) : Int), .int .u32 x61.dst, .int .i64 x61.proto, .int .i64 ((f : Nat) : Int), .int .i64 ((1 + tq : Nat) : Int), .bool false, .bool false, .int .i64 0, .int .u32 0, .int .i64 0, .int .i64 0, .int .i64 0, .int .i64 0, .int .i64 0]) rfl rfl (fun w => drebld47_74773 _ _ _ _ _ _ _ _ w)) hS ?_
    refine TH.only' 24 rfl (by kernel_rfl) rfl ?_
    refine TL.pstore (k := 0) (vs := [.int .i64 x61.v, .int .i64 0, .int .i64 ((n0 : Nat) : Int), .int .i64 ((at0 + (1 + dq) : Nat) : Int), .int .u32 x61.dst, .int .i64 x61.proto, .int .i64 ((f : Nat) : Int), .int .i64 ((1 + tq : Nat) : Int), .bool false, .bool false, .int .i64 0, .int .u32 0, .int .i64 0, .int .i64 0, .int .i64 0, .int .i64 0, .int .i64 0]) rfl rfl rfl rfl rfl rfl rfl prssz65 arpone_i64i64i64i64u32i64i64i64bbi64u32i64i64i64i64i64 (by show 17 ≤ 17; decide) rfl ?_
    refine zE ?_
    refine TX.held (fun w1 hw => hw.pick [1, 3] (by decide) rfl) ?_
    refine TH.done (by kernel_rfl) ?_
    exact TX.joined (⟨((g17, n0), tq), by dsimp only; omega, by dsimp only; omega⟩) (⟨rfl, rfl, rfl, rfl, rfl, rfl, rfl, rfl, rfl, rfl, rfl, rfl, trivial⟩) (fun w1 hw => hw)
   refine TC.cut [(0, .pointer (some ⟨cb, 0, none⟩)), (2, .bool stb), (7, .slice (some ⟨g_An, 0, none⟩) ns.length cn), (8, .slice Ar out.length cr), (9, .int .i64 ((at0 + (1 + dq) : Nat) : Int)), (10, .int .i64 ((idn : Nat) : Int)), (11, .pointer (some ⟨g11, 0, none⟩)), (12, .int .i64 ((k : Nat) : Int)), (13, .int .i64 ((ix : Nat) : Int)), (59, .slice (some ⟨g_An, 0, none⟩) ns.length cn), (60, .int .i64 ((ix : Nat) : Int)), (61, .pointer (some ⟨g_An, 0 + ix * 5, none⟩)), (62, .agg (x61.cells).toArray), (14, .pointer (some ⟨g14, 0, none⟩)), (63, .pointer (some ⟨cb, 0, none⟩)), (64, .pointer (some ⟨g14, 3, none⟩)), (65, .slice x61.ps.A x61.ps.l.length x61.ps.c), (66, .int .i64 (x61.ps.l.length : Nat)), (67, .int .i64 ((f : Nat) : Int)), (15, .int .i64 ((f : Nat) : Int)), (68, .pointer (some ⟨g14, 3, none⟩)), (69, .slice x61.ps.A x61.ps.l.length x61.ps.c), (70, .int .i64 ((f : Nat) : Int)), (71, .pointer (some ⟨gx71, 0 + f * 1, none⟩)), (72, .slice p71.A p71.l.length p71.c), (16, .slice p71.A p71.l.length p71.c), (73, .int .i64 ((at0 : Nat) : Int)), (74, .pointer (some ⟨cb, 0, none⟩)), (75, .int .i64 ((dq : Nat) : Int)), (76, .int .i64 ((1 + dq : Nat) : Int)), (77, .int .i64 ((at0 + (1 + dq) : Nat) : Int))] (Pm ⟨w, cb⟩ ([.blk g14 92 x61.cells, .row (.slice Ar out.length cr) 65 17 out.length (flat Rs.cells out), .blk g11 95 [.int .i64 ((n0 : Nat) : Int), .int .i64 ((n1 : Nat) : Int), .int .i64 0, .int .i64 0, .int .i64 0, .int .i64 0, .int .i64 0, .int .i64 0, .int .i64 0, .int .i64 0, .int .i64 0, .int .i64 0, .int .i64 0, .int .i64 0, .int .i64 0, .int .i64 0], .row (.slice (some ⟨g_An, 0, none⟩) ns.length cn) 92 5 ns.length (flat Nt.cells ns2), .abs cb (fun w => Cod w cb)] ++ (netsP P2 ++ oths cb w))) ⟨rfl, rfl, rfl, rfl, rfl, rfl, rfl, rfl, rfl, rfl, rfl, rfl, rfl, rfl, rfl, rfl, rfl, rfl, rfl, rfl, rfl, rfl, rfl, rfl, rfl, rfl, rfl, rfl, rfl, rfl, rfl, trivial⟩ (fun w1 hw => hw) ?_
   refine TC.held (ls := #[Ff,Ff,Ff,Ff,Ff,Ff,Ff,Ff,Ff,Ff,Ff,Ff,Ff,Ff,Ff,Ff,Ff,Ff,Ff,Ff,Ff,Ff,Ff,Ff,Ff]) (Pm ⟨w, cb⟩ [.blk g14 92 x61.cells, .blk g11 95 [.int .i64 ((n0 : Nat) : Int), .int .i64 ((n1 : Nat) : Int), .int .i64 0, .int .i64 0, .int .i64 0, .int .i64 0, .int .i64 0, .int .i64 0, .int .i64 0, .int .i64 0, .int .i64 0, .int .i64 0, .int .i64 0, .int .i64 0, .int .i64 0, .int .i64 0]]) (by kernel_rfl) rfl rfl (fun w hw => hw.drawn _) ?_
   refine TH.tk 0 rfl rfl rfl (gF dntfld119_0) (fun w1 hw => hw.pick [0, 2] (by decide) rfl) ?_
   refine TH.tk 1 rfl rfl rfl (gF pcmfld32_0) (fun w1 hw => hw.pick [0, 2] (by decide) rfl) ?_
   refine TH.tk 2 rfl rfl rfl (gL 0 pcmag3) (fun w1 hw => hw.pick [0, 2] (by decide) rfl) ?_
   refine TH.tk 3 rfl rfl rfl (gF dntfld119_0) (fun w1 hw => hw.pick [0, 2] (by decide) rfl) ?_
   refine TH.tk 4 rfl rfl rfl (gF pcmfld32_0) (fun w1 hw => hw.pick [0, 2] (by decide) rfl) ?_
   refine TH.tk 5 rfl rfl rfl (show Gives _ _ _ _ _ (Value.int .i64 1) from by rw [show (Value.int .i64 1) = .int .i64 x61.v by rw [hv1]]; exact pm_load (k := 0) (i := 0) rfl rfl pcmag3 rfl rfl) (fun w1 hw => hw.pick [0, 2] (by decide) rfl) ?_
   refine TH.tk 6 rfl rfl rfl (gives_at (v := .pointer (some ⟨g11, 1, none⟩)) rfl rfl rfl (fun w => at_arr Tryz.underlying95 pcmsz3 g11 0 _ 1 (by decide) w)) (fun w1 hw => hw.pick [0, 2] (by decide) rfl) ?_
   refine TH.tk 7 rfl rfl rfl (gL 1 pcmag3) (fun w1 hw => hw.pick [0, 2] (by decide) rfl) ?_
   refine TH.tk 8 rfl rfl rfl (gives_move rfl rfl) (fun w1 hw => hw.pick [0, 2] (by decide) rfl) ?_
   refine TH.tk 9 rfl rfl rfl (gF dntfld119_0) (fun w1 hw => hw.pick [0, 2] (by decide) rfl) ?_
   refine TH.tk 10 rfl rfl rfl (gF pcmfld32_1) (fun w1 hw => hw.pick [0, 2] (by decide) rfl) ?_
   refine TH.tk 11 rfl rfl rfl (gL 0 pcmag30) (fun w1 hw => hw.pick [0, 2] (by decide) rfl) ?_
   refine TH.tk 12 rfl rfl rfl (gF dntfld119_0) (fun w1 hw => hw.pick [0, 2] (by decide) rfl) ?_
   refine TH.tk 13 rfl rfl rfl (gF pcmfld32_2) (fun w1 hw => hw.pick [0, 2] (by decide) rfl) ?_
   refine TH.tk 14 rfl rfl rfl (gL 0 pcmag3) (fun w1 hw => hw.pick [0, 2] (by decide) rfl) ?_
   refine TH.tk 15 rfl rfl rfl (gives_move rfl rfl) (fun w1 hw => hw.pick [0, 2] (by decide) rfl) ?_
   refine TH.tk 16 rfl rfl rfl (gives_move rfl rfl) (fun w1 hw => hw.pick [0, 2] (by decide) rfl) ?_
   refine TH.tk 17 rfl rfl rfl (gives_move rfl rfl) (fun w1 hw => hw.pick [0, 2] (by decide) rfl) ?_
   refine TH.tk 18 rfl rfl rfl (gN Tryz.underlying96) (fun w1 hw => hw.pick [0, 2] (by decide) rfl) ?_
   refine TH.tk 19 rfl rfl rfl (gD ((p71.l.length + 1 : Nat) : Int)) (fun w1 hw => hw.pick [0, 2] (by decide) rfl) ?_
   refine TH.two' (listed1 := #[Tt,Tt,Tt,Tt,Tt,Tt,Tt,Tt,Tt,Tt,Tt,Tt,Tt,Tt,Tt,Tt,Tt,Tt,Tt,Tt,Tt,Ff,Ff,Ff,Ff]) (listed2 := #[Tt,Tt,Tt,Tt,Tt,Tt,Tt,Tt,Tt,Tt,Tt,Tt,Tt,Tt,Tt,Tt,Tt,Tt,Tt,Tt,Ff,Ff,Ff,Tt,Ff]) 20 23 rfl rfl (by kernel_rfl) rfl rfl ?_ ?_
   ·refine TL.pcallCod (k := 4) (α := {q9 : Nat // q9 ≤ 65535 ∧ (1 ≤ (((p71.l.length + 1 : Nat) : Int) : Int) → (q9 : Int) < ((p71.l.length + 1 : Nat) : Int))}) (fun q9 => .int .i64 ((q9.1 : Nat) : Int)) (fun q9 => []) rfl rfl rfl rfl rfl Tryz.func21 (by decide) rfl rfl (fun w1 hw hC1 => next_cod cb w1 ((p71.l.length + 1 : Nat) : Int) hC1) ?_
    rintro ⟨tq, htq1, htq2⟩
    dsimp only [List.cons_append, List.nil_append]
    refine zE ?_
    refine TX.he (fun w1 hw => hw.pick [0, 2] (by decide) rfl) fun hS => ?_
    refine TH.t 21 rfl (gD ((1 + tq : Nat) : Int)) hS ?_
    refine TH.t 22 rfl (gives_build (v := .agg #[.int .i64 x61.v, .int .i64 0, .int .i64 ((n1 : Nat) : Int), .int .i64 ((at0 + (1 + dq) : Nat) : Int), .int .u32 x61.dst, .int .i64 x61.proto, .int .i64 ((f : Nat) : Int), .int .i64 ((1 + tq : Nat) : Int), .bool false, .bool false, .int .i64 0, .int .u32 0, .int .i64 0, .int .i64 0, .int .i64 0, .int .i64 0, .int .i64 0]) rfl rfl (fun w => drebld47_74773 _ _ _ _ _ _ _ _ w)) hS ?_
    refine TH.only' 23 rfl (by kernel_rfl) rfl ?_
    refine TL.pnew rfl rfl rfl (exec_alloc (cs := [.int .i64 0, .int .i64 0, .int .i64 0, .int .i64 0, .int .u32 0, .int .i64 0, .int .i64 0, .int .i64 0, .bool false, .bool false, .int .i64 0, .int .u32 0, .int .i64 0, .int .i64 0, .int .i64 0, .int .i64 0, .int .i64 0]) rfl arpzv65 rfl) (fun g17 => ?_)
    refine zE ?_
    refine TX.held (fun w1 hw => hw.pick [1, 3] (by decide) rfl) ?_
    refine TH.only' 24 rfl (by kernel_rfl) rfl ?_
    refine TL.pstore (k := 0) (vs := [.int .i64 x61.v, .int .i64 0, .int .i64 ((n1 : Nat) : Int), .int .i64 ((at0 + (1 + dq) : Nat) : Int), .int .u32 x61.dst, .int .i64 x61.proto, .int .i64 ((f : Nat) : Int), .int .i64 ((1 + tq : Nat) : Int), .bool false, .bool false, .int .i64 0, .int .u32 0, .int .i64 0, .int .i64 0, .int .i64 0, .int .i64 0, .int .i64 0]) rfl rfl rfl rfl rfl rfl rfl prssz65 arpone_i64i64i64i64u32i64i64i64bbi64u32i64i64i64i64i64 (by show 17 ≤ 17; decide) rfl ?_
    refine zE ?_
    refine TX.held (fun w1 hw => hw.pick [1, 3] (by decide) rfl) ?_
    refine TH.done (by kernel_rfl) ?_
    exact TX.joined (⟨((g17, n1), tq), by dsimp only; omega, by dsimp only; omega⟩) (⟨rfl, rfl, rfl, rfl, rfl, rfl, rfl, rfl, rfl, rfl, rfl, rfl, trivial⟩) (fun w1 hw => hw)
   refine TL.pnew rfl rfl rfl (exec_alloc (cs := [.int .i64 0, .int .i64 0, .int .i64 0, .int .i64 0, .int .u32 0, .int .i64 0, .int .i64 0, .int .i64 0, .bool false, .bool false, .int .i64 0, .int .u32 0, .int .i64 0, .int .i64 0, .int .i64 0, .int .i64 0, .int .i64 0]) rfl arpzv65 rfl) (fun g17 => ?_)
   refine zE ?_
   refine TX.held (fun w1 hw => hw.pick [1, 3] (by decide) rfl) ?_
   refine TH.only' 20 rfl (by kernel_rfl) rfl ?_
   refine TL.pcallCod (k := 5) (α := {q9 : Nat // q9 ≤ 65535 ∧ (1 ≤ (((p71.l.length + 1 : Nat) : Int) : Int) → (q9 : Int) < ((p71.l.length + 1 : Nat) : Int))}) (fun q9 => .int .i64 ((q9.1 : Nat) : Int)) (fun q9 => []) rfl rfl rfl rfl rfl Tryz.func21 (by decide) rfl rfl (fun w1 hw hC1 => next_cod cb w1 ((p71.l.length + 1 : Nat) : Int) hC1) ?_
   rintro ⟨tq, htq1, htq2⟩
   dsimp only [List.cons_append, List.nil_append]
   refine zE ?_
   refine TX.he (fun w1 hw => hw.pick [1, 3] (by decide) rfl) fun hS => ?_
   refine TH.t 21 rfl (gD ((1 + tq : Nat) : Int)) hS ?_
   refine TH.t 22 rfl (gives_build (v := .agg #[.int .i64 x61.v, .int .i64 0, .int .i64 ((n1 : Nat) : Int), .int .i64 ((at0 + (1 + dq) : Nat) : Int), .int .u32 x61.dst, .int .i64 x61.proto, .int .i64 ((f : Nat) : Int), .int .i64 ((1 + tq : Nat) : Int), .bool false, .bool false, .int .i64 0, .int .u32 0, .int .i64 0, .int .i64 0, .int .i64 0, .int .i64 0, .int .i64 0]) rfl rfl (fun w => drebld47_74773 _ _ _ _ _ _ _ _ w)) hS ?_
   refine TH.only' 24 rfl (by kernel_rfl) rfl ?_
   refine TL.pstore (k := 0) (vs := [.int .i64 x61.v, .int .i64 0, .int .i64 ((n1 : Nat) : Int), .int .i64 ((at0 + (1 + dq) : Nat) : Int), .int .u32 x61.dst, .int .i64 x61.proto, .int .i64 ((f : Nat) : Int), .int .i64 ((1 + tq : Nat) : Int), .bool false, .bool false, .int .i64 0, .int .u32 0, .int .i64 0, .int .i64 0, .int .i64 0, .int .i64 0, .int .i64 0]) rfl rfl rfl rfl rfl rfl rfl prssz65 arpone_i64i64i64i64u32i64i64i64bbi64u32i64i64i64i64i64 (by show 17 ≤ 17; decide) rfl ?_
   refine zE ?_
   refine TX.held (fun w1 hw => hw.pick [1, 3] (by decide) rfl) ?_
   refine TH.done (by kernel_rfl) ?_
   exact TX.joined (⟨((g17, n1), tq), by dsimp only; omega, by dsimp only; omega⟩) (⟨rfl, rfl, rfl, rfl, rfl, rfl, rfl, rfl, rfl, rfl, rfl, rfl, trivial⟩) (fun w1 hw => hw)
  rintro ⟨⟨⟨gR, num⟩, tq⟩, hnum, htq⟩
  dsimp only at hnum htq ⊢
  refine TC.join (α := {y : Nat × Nat // (x61.v = 0 ∧ y.1 = n0 + 1 ∧ y.2 = n1) ∨ (x61.v = 1 ∧ y.1 = n0 ∧ y.2 = n1 + 1)}) (fun y => [(0, .pointer (some ⟨cb, 0, none⟩)), (2, .bool stb), (7, .slice (some ⟨g_An, 0, none⟩) ns.length cn), (8, .slice Ar out.length cr), (9, .int .i64 ((at0 + (1 + dq) : Nat) : Int)), (10, .int .i64 ((idn : Nat) : Int)), (11, .pointer (some ⟨g11, 0, none⟩)), (12, .int .i64 ((k : Nat) : Int)), (14, .pointer (some ⟨g14, 0, none⟩)), (15, .int .i64 ((f : Nat) : Int)), (16, .slice p71.A p71.l.length p71.c), (17, .pointer (some ⟨gR, 0, none⟩))]) (fun y => Pm ⟨w, cb⟩ ([.blk gR 65 [.int .i64 x61.v, .int .i64 0, .int .i64 ((num : Nat) : Int), .int .i64 ((at0 + (1 + dq) : Nat) : Int), .int .u32 x61.dst, .int .i64 x61.proto, .int .i64 ((f : Nat) : Int), .int .i64 ((1 + tq : Nat) : Int), .bool false, .bool false, .int .i64 0, .int .u32 0, .int .i64 0, .int .i64 0, .int .i64 0, .int .i64 0, .int .i64 0], .blk g14 92 x61.cells, .row (.slice Ar out.length cr) 65 17 out.length (flat Rs.cells out), .blk g11 95 [.int .i64 ((y.1.1 : Nat) : Int), .int .i64 ((y.1.2 : Nat) : Int), .int .i64 0, .int .i64 0, .int .i64 0, .int .i64 0, .int .i64 0, .int .i64 0, .int .i64 0, .int .i64 0, .int .i64 0, .int .i64 0, .int .i64 0, .int .i64 0, .int .i64 0, .int .i64 0], .row (.slice (some ⟨g_An, 0, none⟩) ns.length cn) 92 5 ns.length (flat Nt.cells ns2), .abs cb (fun w => Cod w cb)] ++ (netsP P2 ++ oths cb w))) ?_ ?_
  ·rcases hv61 with hv0 | hv1
   ·refine zG (TL.v (gF dntfld119_0) ?_)
    refine TL.v (gF pcmfld32_0) ?_
    refine TL.val rfl rfl rfl (show Gives _ _ _ _ _ (Value.int .i64 0) from by rw [show (Value.int .i64 0) = .int .i64 x61.v by rw [hv0]]; exact pm_load (k := 1) (i := 0) rfl rfl pcmag3 rfl rfl) ?_
    refine TL.val rfl rfl rfl (gives_at (v := .pointer (some ⟨g11, 0, none⟩)) rfl rfl rfl (fun w => at_arr Tryz.underlying95 pcmsz3 g11 0 _ 0 (by decide) w)) ?_
    refine TL.v (gL 3 pcmag3) ?_
    refine TL.v (gD ((n0 + 1 : Nat) : Int)) ?_
    refine TL.val rfl rfl rfl (gives_at (v := .pointer (some ⟨g11, 0, none⟩)) rfl rfl rfl (fun w => at_arr Tryz.underlying95 pcmsz3 g11 0 _ 0 (by decide) w)) ?_
    refine TL.pstore (k := 3) (vs := [.int .i64 ((n0 + 1 : Nat) : Int)]) rfl rfl rfl rfl rfl rfl rfl pcmsz3 aeaone_i64 (by show 1 ≤ 16; decide) rfl ?_
    refine zE ?_
    exact TX.joined (⟨(n0 + 1, n1), by dsimp only; omega⟩) (⟨rfl, rfl, rfl, rfl, rfl, rfl, rfl, rfl, rfl, rfl, rfl, rfl, trivial⟩) (fun w1 hw => hw)
   refine zG (TL.v (gF dntfld119_0) ?_)
   refine TL.v (gF pcmfld32_0) ?_
   refine TL.val rfl rfl rfl (show Gives _ _ _ _ _ (Value.int .i64 1) from by rw [show (Value.int .i64 1) = .int .i64 x61.v by rw [hv1]]; exact pm_load (k := 1) (i := 0) rfl rfl pcmag3 rfl rfl) ?_
   refine TL.val rfl rfl rfl (gives_at (v := .pointer (some ⟨g11, 1, none⟩)) rfl rfl rfl (fun w => at_arr Tryz.underlying95 pcmsz3 g11 0 _ 1 (by decide) w)) ?_
   refine TL.v (gL 3 pcmag3) ?_
   refine TL.v (gD ((n1 + 1 : Nat) : Int)) ?_
   refine TL.val rfl rfl rfl (gives_at (v := .pointer (some ⟨g11, 1, none⟩)) rfl rfl rfl (fun w => at_arr Tryz.underlying95 pcmsz3 g11 0 _ 1 (by decide) w)) ?_
   refine TL.pstore (k := 3) (vs := [.int .i64 ((n1 + 1 : Nat) : Int)]) rfl rfl rfl rfl rfl rfl rfl pcmsz3 aeaone_i64 (by show 2 ≤ 16; decide) rfl ?_
   refine zE ?_
   exact TX.joined (⟨(n0, n1 + 1), by dsimp only; omega⟩) (⟨rfl, rfl, rfl, rfl, rfl, rfl, rfl, rfl, rfl, rfl, rfl, rfl, trivial⟩) (fun w1 hw => hw)
  rintro ⟨⟨n2, n3⟩, hn23⟩
  dsimp only at hn23 ⊢
  refine zS (TC.held (ls := #[Ff,Ff,Ff,Ff,Ff,Ff,Ff,Ff,Ff,Ff,Ff]) (fun w1 => ∃ b : Int, Pm ⟨w, cb⟩ [.blk gR 65 [.int .i64 x61.v, .int .i64 0, .int .i64 ((num : Nat) : Int), .int .i64 ((at0 + (1 + dq) : Nat) : Int), .int .u32 x61.dst, .int .i64 x61.proto, .int .i64 ((f : Nat) : Int), .int .i64 ((1 + tq : Nat) : Int), .bool false, .bool false, .int .i64 b, .int .u32 0, .int .i64 0, .int .i64 0, .int .i64 0, .int .i64 0, .int .i64 0]] w1) (by kernel_rfl) rfl rfl (fun w hw => hw.drawn _) ?_)
  refine TH.tk 0 rfl rfl rfl (gF prsfld65_3) (fun w1 hw => ⟨_, hw.pick [0] (by decide) rfl⟩) ?_
  refine TH.tk 1 rfl rfl rfl (gives_load (v := .int .i64 ((at0 + (1 + dq) : Nat) : Int)) rfl rfl pcmag3 (fun w1 hw => by obtain ⟨b, hw⟩ := hw; exact (hw.cell (k := 0) rfl 3).trans rfl)) (fun w1 hw => ⟨_, hw.pick [0] (by decide) rfl⟩) ?_
  refine TH.tk 2 rfl rfl rfl (gF prsfld65_7) (fun w1 hw => ⟨_, hw.pick [0] (by decide) rfl⟩) ?_
  refine TH.tk 3 rfl rfl rfl (gives_load (v := .int .i64 ((1 + tq : Nat) : Int)) rfl rfl pcmag3 (fun w1 hw => by obtain ⟨b, hw⟩ := hw; exact (hw.cell (k := 0) rfl 7).trans rfl)) (fun w1 hw => ⟨_, hw.pick [0] (by decide) rfl⟩) ?_
  refine TH.tk 4 rfl rfl rfl (gives_bin rfl rfl rfl (fun w => bin_mul_ (r := ((5 * (1 + tq) : Nat) : Int)) (by simp only [IntKind.wrap_i64]; omega) w)) (fun w1 hw => ⟨_, hw.pick [0] (by decide) rfl⟩) ?_
  refine TH.tk 5 rfl rfl rfl (gD ((at0 + (1 + dq) + 5 * (1 + tq) : Nat) : Int)) (fun w1 hw => ⟨_, hw.pick [0] (by decide) rfl⟩) ?_
  refine TH.tk 6 rfl rfl rfl (gives_move rfl rfl) (fun w1 hw => ⟨_, hw.pick [0] (by decide) rfl⟩) ?_
  refine TH.only' 7 rfl (by kernel_rfl) rfl ?_
  refine TL.pcallCod (k := 5) (α := {q9 : Nat // q9 ≤ 65535 ∧ (1 ≤ (4 : Int) → (q9 : Int) < 4)}) (fun q9 => .int .i64 ((q9.1 : Nat) : Int)) (fun q9 => []) rfl rfl rfl rfl rfl Tryz.func21 (by decide) rfl rfl (fun w1 hw hC1 => next_cod cb w1 4 hC1) ?_
  rintro ⟨bq, hbq1, hbq2⟩
  dsimp only [List.cons_append, List.nil_append]
  refine zE ?_
  refine TX.he (fun w1 hw => ⟨_, hw.pick [0] (by decide) rfl⟩) fun hS => ?_
  refine TH.t 8 rfl (gD ((at0 + (1 + dq) + 5 * (1 + tq) + bq : Nat) : Int)) hS ?_
  refine TH.t 9 rfl (gF prsfld65_10) hS ?_
  refine TH.only' 10 rfl (by kernel_rfl) rfl ?_
  refine TL.pstore (k := 0) (vs := [.int .i64 ((at0 + (1 + dq) + 5 * (1 + tq) + bq : Nat) : Int)]) rfl rfl rfl rfl rfl rfl rfl pcmsz3 aeaone_i64 (by show 11 ≤ 17; decide) rfl ?_
  refine zE ?_
  refine TX.held (fun w1 hw => ⟨_, hw.pick [0] (by decide) rfl⟩) ?_
  refine TH.done (by kernel_rfl) ?_
  refine zT (zSG (TL.rn 2 rfl ?_))
  refine TL.pcallCod (k := 5) (α := {q9 : Nat // q9 ≤ 65535 ∧ (1 ≤ (5 : Int) → (q9 : Int) < 5)}) (fun q9 => .int .i64 ((q9.1 : Nat) : Int)) (fun q9 => []) rfl rfl rfl rfl rfl Tryz.func21 (by decide) rfl rfl (fun w1 hw hC1 => next_cod cb w1 5 hC1) ?_
  rintro ⟨ec, hec1, hec2⟩
  dsimp only [List.cons_append, List.nil_append]
  refine TL.v (gD ((1 + ec : Nat) : Int)) ?_
  refine TL.v (gD ((idn + (1 + ec) : Nat) : Int)) ?_
  refine TL.as_ ?_
  refine zET (zSG (TL.v (gF dntfld119_2) ?_))
  refine TL.v (gL 1 pcmag30) ?_
  refine TL.as_ ?_
  refine zET ?_
  refine TC.join (α := {a : Int // 0 ≤ a ∧ a ≤ 167774466}) (fun y => [(0, .pointer (some ⟨cb, 0, none⟩)), (2, .bool stb), (7, .slice (some ⟨g_An, 0, none⟩) ns.length cn), (8, .slice Ar out.length cr), (9, .int .i64 ((at0 + (1 + dq) : Nat) : Int)), (10, .int .i64 ((idn + (1 + ec) : Nat) : Int)), (11, .pointer (some ⟨g11, 0, none⟩)), (12, .int .i64 ((k : Nat) : Int)), (16, .slice p71.A p71.l.length p71.c), (17, .pointer (some ⟨gR, 0, none⟩)), (18, .int .u32 y.1)]) (fun y => Pm ⟨w, cb⟩ ([.blk gR 65 [.int .i64 x61.v, .int .i64 0, .int .i64 ((num : Nat) : Int), .int .i64 ((at0 + (1 + dq) : Nat) : Int), .int .u32 x61.dst, .int .i64 x61.proto, .int .i64 ((f : Nat) : Int), .int .i64 ((1 + tq : Nat) : Int), .bool false, .bool false, .int .i64 ((at0 + (1 + dq) + 5 * (1 + tq) + bq : Nat) : Int), .int .u32 0, .int .i64 0, .int .i64 0, .int .i64 0, .int .i64 0, .int .i64 0], .blk g14 92 x61.cells, .row (.slice Ar out.length cr) 65 17 out.length (flat Rs.cells out), .blk g11 95 [.int .i64 ((n2 : Nat) : Int), .int .i64 ((n3 : Nat) : Int), .int .i64 0, .int .i64 0, .int .i64 0, .int .i64 0, .int .i64 0, .int .i64 0, .int .i64 0, .int .i64 0, .int .i64 0, .int .i64 0, .int .i64 0, .int .i64 0, .int .i64 0, .int .i64 0], .row (.slice (some ⟨g_An, 0, none⟩) ns.length cn) 92 5 ns.length (flat Nt.cells ns2), .abs cb (fun w => Cod w cb)] ++ (netsP P2 ++ oths cb w))) ?_ ?_
  ·refine zSG (TL.v (gF prsfld65_7) ?_)
   refine TL.v (gL 0 pcmag3) ?_
   refine TL.mv ?_
   refine TL.v (gN Tryz.underlying96) ?_
   refine TL.sp bin_leq (fun q129 => ?_) (fun q129 => ?_)
   ·refine zET (zc (zG (TL.mv ?_)))
    refine TL.v (gF prsfld65_7) ?_
    refine TL.v (gL 0 pcmag3) ?_
    refine TL.val rfl rfl rfl (gives_bin rfl rfl rfl (fun w => bin_sub_ (r := ((tq : Nat) : Int)) (by simp only [IntKind.wrap_i64]; omega) w)) ?_
    have hmm134 := nets_mem2 (T := oths cb w) hx61p (List.mem_of_getElem? hp71)
    refine TL.fact (p := ∃ g, p71.A = some ⟨g, 0, none⟩) (fun w1 hw => segA hw (List.mem_of_mem_drop (i := 6) (by exact hmm134)) (by omega)) ?_
    rintro ⟨gx134, hgx134⟩
    obtain ⟨z134, hz134⟩ : ∃ z, p71.l[tq]? = some z := ⟨_, List.getElem?_eq_getElem (by omega)⟩
    refine TL.val rfl rfl rfl (gA (i := tq) Tryz.underlying96 dntsz30 rfl rfl rfl rfl hgx134 (by omega)) ?_
    refine TL.val rfl rfl rfl (gives_load (v := .int .u32 z134) rfl rfl pcmag30 (fun w1 hw => seg_cell (ic_cel .u32) hw (List.mem_of_mem_drop (i := 6) (by exact hmm134)) hgx134 hz134 0 _ rfl)) ?_
    have hz134r := hpw71.2 z134 (List.mem_of_getElem? hz134)
    refine TL.as_ ?_
    refine zE ?_
    exact TX.joined (⟨z134, by omega⟩) (⟨rfl, rfl, rfl, rfl, rfl, rfl, rfl, rfl, rfl, rfl, rfl, trivial⟩) (fun w1 hw => hw)
   refine zET (zd (zk ?_))
   exact TX.joined (⟨x61.last, by omega⟩) (⟨rfl, rfl, rfl, rfl, rfl, rfl, rfl, rfl, rfl, rfl, rfl, trivial⟩) (fun w1 hw => hw)
  rintro ⟨fa, hfa⟩
  dsimp only at hfa ⊢
  refine TC.join (α := {y : (Bool × Bool) × (Int × Int) × (Int × Int × Int) // AnsP y.1.1 y.1.2 y.2.1.1 y.2.1.2 y.2.2.1 y.2.2.2.1 y.2.2.2.2}) (fun y => [(0, .pointer (some ⟨cb, 0, none⟩)), (2, .bool stb), (7, .slice (some ⟨g_An, 0, none⟩) ns.length cn), (8, .slice Ar out.length cr), (9, .int .i64 ((at0 + (1 + dq) : Nat) : Int)), (10, .int .i64 ((idn + (1 + ec) : Nat) : Int)), (11, .pointer (some ⟨g11, 0, none⟩)), (12, .int .i64 ((k : Nat) : Int)), (16, .slice p71.A p71.l.length p71.c), (17, .pointer (some ⟨gR, 0, none⟩))]) (fun y => Pm ⟨w, cb⟩ ([.blk gR 65 [.int .i64 x61.v, .int .i64 0, .int .i64 ((num : Nat) : Int), .int .i64 ((at0 + (1 + dq) : Nat) : Int), .int .u32 x61.dst, .int .i64 x61.proto, .int .i64 ((f : Nat) : Int), .int .i64 ((1 + tq : Nat) : Int), .bool y.1.1.1, .bool y.1.1.2, .int .i64 ((at0 + (1 + dq) + 5 * (1 + tq) + bq : Nat) : Int), .int .u32 y.1.2.1.1, .int .i64 y.1.2.1.2, .int .i64 0, .int .i64 y.1.2.2.1, .int .i64 y.1.2.2.2.1, .int .i64 y.1.2.2.2.2], .blk g14 92 x61.cells, .row (.slice Ar out.length cr) 65 17 out.length (flat Rs.cells out), .blk g11 95 [.int .i64 ((n2 : Nat) : Int), .int .i64 ((n3 : Nat) : Int), .int .i64 0, .int .i64 0, .int .i64 0, .int .i64 0, .int .i64 0, .int .i64 0, .int .i64 0, .int .i64 0, .int .i64 0, .int .i64 0, .int .i64 0, .int .i64 0, .int .i64 0, .int .i64 0], .row (.slice (some ⟨g_An, 0, none⟩) ns.length cn) 92 5 ns.length (flat Nt.cells ns2), .abs cb (fun w => Cod w cb)] ++ (netsP P2 ++ oths cb w))) ?_ ?_
  ·refine zSG (TL.mv ?_)
   refine TL.sp bin_neq (fun q137 => ?_) (fun q137 => ?_)
   ·refine TL.rn 2 rfl (TL.gu ?_)
    refine TL.pcallCod (k := 5) (α := Bool) (fun x => .bool x) (fun x => []) rfl rfl rfl rfl rfl Tryz.func18 (by decide) rfl rfl (fun w1 hw hC1 => dbool_cod cb w1 hC1 5 (by decide)) ?_
    rintro b2
    dsimp only [List.cons_append, List.nil_append]
    cases b2 with
    | true =>
     refine TL.rn 2 rfl (zET (zd (zk ?_)))
     exact TX.joined (⟨((false, false), (0, 0), (0, 0, 0)), .inl ⟨rfl, rfl, rfl, rfl, rfl, rfl, rfl⟩⟩) (⟨rfl, rfl, rfl, rfl, rfl, rfl, rfl, rfl, rfl, rfl, trivial⟩) (fun w1 hw => hw)
    | false =>
     refine TL.rn 2 rfl (zET (zc (zSG (TL.mv ?_))))
     refine TL.pcallCod (k := 5) (α := Bool) (fun x => .bool x) (fun x => []) rfl rfl rfl rfl rfl Tryz.func18 (by decide) rfl rfl (fun w1 hw hC1 => dbool_cod cb w1 hC1 30 (by decide)) ?_
     rintro b3
     dsimp only [List.cons_append, List.nil_append]
     refine TL.v (gF prsfld65_8) ?_
     refine TL.pstore (k := 0) (vs := [.bool true]) rfl rfl rfl rfl rfl rfl rfl dresz4 dreone_b (by show 9 ≤ 17; decide) rfl ?_
     refine TL.v (gF prsfld65_9) ?_
     refine TL.pstore (k := 0) (vs := [.bool b3]) rfl rfl rfl rfl rfl rfl rfl dresz4 dreone_b (by show 10 ≤ 17; decide) rfl ?_
     refine zET (zSG (TL.rn 2 rfl ?_))
     refine TL.val rfl rfl rfl (gives_bin (v := .int .i64 ((((idn + (1 + ec)) % 65536 : Nat) : Nat) : Int)) rfl rfl rfl (fun w => by rw [bin_remk (by omega) (by decide) w]; rfl)) ?_
     refine TL.val rfl rfl rfl (gives_build (v := .agg #[.int .u32 fa, .int .i64 1, .int .i64 0, .int .i64 60, .int .i64 (((idn + (1 + ec)) % 65536 : Nat) : Int), .int .i64 1]) rfl rfl (fun w => drebld45_50928 _ _ _ _ _ w)) ?_
     refine TL.v (gF prsfld65_11) ?_
     refine TL.pstore (k := 0) (vs := [.int .u32 fa, .int .i64 1, .int .i64 0, .int .i64 60, .int .i64 (((idn + (1 + ec)) % 65536 : Nat) : Int), .int .i64 1]) rfl rfl rfl rfl rfl rfl rfl dresz45 dreone_u32i64i64i64i64i64 (by show 17 ≤ 17; decide) rfl ?_
     refine zET (zS (zSG (TL.v (gF prsfld65_7) ?_)))
     refine TL.v (gL 0 pcmag3) ?_
     refine TL.mv ?_
     refine TL.v (gN Tryz.underlying96) ?_
     refine TL.sp bin_gtr (fun q156 => ?_) (fun q156 => ?_)
     ·refine zET (zc (zG (TL.mv ?_)))
      refine TL.prowS (e := 3) (size := 1) (cs := flat (ic .i64) [3, 3, 2]) rfl rfl rfl rfl rfl (fun w => pcmbs106_3_44640 _ _ _ w) (by decide) rfl (fun g158 => ?_)
      refine TL.pcallCod (k := 6) (α := {v : Int // v ∈ ([3, 3, 2] : List Int)}) (fun x => .int .i64 x.1) (fun x => []) rfl rfl rfl rfl rfl Tryz.func22 (by decide) rfl rfl (fun w1 hw hC1 => pick_cod cb w1 hC1 g158 3 ([3, 3, 2]) (hw.neq (i := 0) (j := 6) rfl rfl (by decide) g158 rfl <| congrArg some ·.symm) (Pc.lt (hw.at_ (k := 0) rfl) g158 rfl).2 (by show 0 < ([3, 3, 2] : List Int).length; simp) (fun i v hi => flat_row1 hw (q := 0) rfl hi)) ?_
      rintro ⟨pk, hpk⟩
      dsimp only [List.cons_append, List.nil_append]
      have hpkb : pk = 3 ∨ pk = 2 := by simp only [List.mem_cons, List.not_mem_nil, or_false] at hpk; omega
      refine TL.v (gF prsfld65_11) ?_
      refine TL.v (gF prsfld63_1) ?_
      refine TL.pstore (k := 1) (vs := [.int .i64 pk]) rfl rfl rfl rfl rfl rfl rfl pcmsz3 aeaone_i64 (by show 13 ≤ 17; decide) rfl ?_
      refine zET (zSG (TL.mv ?_))
      refine TL.pcallCod (k := 6) (α := Bool) (fun x => .bool x) (fun x => []) rfl rfl rfl rfl rfl Tryz.func18 (by decide) rfl rfl (fun w1 hw hC1 => dbool_cod cb w1 hC1 5 (by decide)) ?_
      rintro b4
      dsimp only [List.cons_append, List.nil_append]
      refine zET ?_
      refine TC.split (t := b4) rfl (fun c163 => ?_) (fun c163 => ?_)
      ·refine zG (TL.mv ?_)
       refine TL.pcallCod (k := 6) (α := {q9 : Nat // q9 ≤ 65535 ∧ (1 ≤ (65536 : Int) → (q9 : Int) < 65536)}) (fun q9 => .int .i64 ((q9.1 : Nat) : Int)) (fun q9 => []) rfl rfl rfl rfl rfl Tryz.func21 (by decide) rfl rfl (fun w1 hw hC1 => next_cod cb w1 65536 hC1) ?_
       rintro ⟨ie0, hie01, hie02⟩
       dsimp only [List.cons_append, List.nil_append]
       refine TL.v (gF prsfld65_11) ?_
       refine TL.v (gF prsfld63_4) ?_
       refine TL.pstore (k := 1) (vs := [.int .i64 ((ie0 : Nat) : Int)]) rfl rfl rfl rfl rfl rfl rfl pcmsz3 aeaone_i64 (by show 16 ≤ 17; decide) rfl ?_
       refine zE ?_
       exact TX.joined (⟨((true, b3), (fa, pk), (60, ((ie0 : Nat) : Int), 1)), .inr ⟨rfl, by dsimp only; omega, by dsimp only; omega, by dsimp only; omega, by dsimp only; omega, rfl, by dsimp only; omega, by dsimp only; omega, rfl⟩⟩) (⟨rfl, rfl, rfl, rfl, rfl, rfl, rfl, rfl, rfl, rfl, trivial⟩) (fun w1 hw => hw.sel (.cons _ (.cons_cons _ (.cons_cons _ (.cons_cons _ (.cons_cons _ (.cons_cons _ (.cons_cons _ (List.Sublist.refl _)))))))))
      refine zk ?_
      exact TX.joined (⟨((true, b3), (fa, pk), (60, (((idn + (1 + ec)) % 65536 : Nat) : Int), 1)), .inr ⟨rfl, by dsimp only; omega, by dsimp only; omega, by dsimp only; omega, by dsimp only; omega, rfl, by dsimp only; omega, by dsimp only; omega, rfl⟩⟩) (⟨rfl, rfl, rfl, rfl, rfl, rfl, rfl, rfl, rfl, rfl, trivial⟩) (fun w1 hw => hw.sel (.cons _ (.cons_cons _ (.cons_cons _ (.cons_cons _ (.cons_cons _ (.cons_cons _ (.cons_cons _ (List.Sublist.refl _)))))))))
     refine zET (zd (zk (zT (zSG (TL.mv ?_)))))
     refine TL.pcallCod (k := 5) (α := Bool) (fun x => .bool x) (fun x => []) rfl rfl rfl rfl rfl Tryz.func18 (by decide) rfl rfl (fun w1 hw hC1 => dbool_cod cb w1 hC1 5 (by decide)) ?_
     rintro b4
     dsimp only [List.cons_append, List.nil_append]
     refine zET ?_
     refine TC.split (t := b4) rfl (fun c163 => ?_) (fun c163 => ?_)
     ·refine zG (TL.mv ?_)
      refine TL.pcallCod (k := 5) (α := {q9 : Nat // q9 ≤ 65535 ∧ (1 ≤ (65536 : Int) → (q9 : Int) < 65536)}) (fun q9 => .int .i64 ((q9.1 : Nat) : Int)) (fun q9 => []) rfl rfl rfl rfl rfl Tryz.func21 (by decide) rfl rfl (fun w1 hw hC1 => next_cod cb w1 65536 hC1) ?_
      rintro ⟨ie0, hie01, hie02⟩
      dsimp only [List.cons_append, List.nil_append]
      refine TL.v (gF prsfld65_11) ?_
      refine TL.v (gF prsfld63_4) ?_
      refine TL.pstore (k := 0) (vs := [.int .i64 ((ie0 : Nat) : Int)]) rfl rfl rfl rfl rfl rfl rfl pcmsz3 aeaone_i64 (by show 16 ≤ 17; decide) rfl ?_
      refine zE ?_
      exact TX.joined (⟨((true, b3), (fa, 1), (60, ((ie0 : Nat) : Int), 1)), .inr ⟨rfl, by dsimp only; omega, by dsimp only; omega, by dsimp only; omega, by dsimp only; omega, rfl, by dsimp only; omega, by dsimp only; omega, rfl⟩⟩) (⟨rfl, rfl, rfl, rfl, rfl, rfl, rfl, rfl, rfl, rfl, trivial⟩) (fun w1 hw => hw)
     refine zk ?_
     exact TX.joined (⟨((true, b3), (fa, 1), (60, (((idn + (1 + ec)) % 65536 : Nat) : Int), 1)), .inr ⟨rfl, by dsimp only; omega, by dsimp only; omega, by dsimp only; omega, by dsimp only; omega, rfl, by dsimp only; omega, by dsimp only; omega, rfl⟩⟩) (⟨rfl, rfl, rfl, rfl, rfl, rfl, rfl, rfl, rfl, rfl, trivial⟩) (fun w1 hw => hw)
   refine TL.rn 5 rfl (zET (zd (zk ?_)))
   exact TX.joined (⟨((false, false), (0, 0), (0, 0, 0)), .inl ⟨rfl, rfl, rfl, rfl, rfl, rfl, rfl⟩⟩) (⟨rfl, rfl, rfl, rfl, rfl, rfl, rfl, rfl, rfl, rfl, trivial⟩) (fun w1 hw => hw)
  rintro ⟨⟨⟨an, db⟩, ⟨sr, kd⟩, lf, ie, qu⟩, han⟩
  dsimp only at han ⊢
  refine zS ?_
  have hout2 := hout.snoc hx61t hnum hn23 han (by omega : at0 < at0 + (1 + dq)) (show f ≤ 2 by omega) (show tq ≤ 3 by omega) (show bq ≤ 3 by omega) (by omega)
  refine zG (TL.v (gF prsfld65_10) ?_)
  refine TL.v (gL 0 pcmag3) ?_
  refine TL.as_ ?_
  refine zET (zG (TL.mv ?_))
  refine TL.v (gV 0 (.agg #[.int .i64 x61.v, .int .i64 0, .int .i64 ((num : Nat) : Int), .int .i64 ((at0 + (1 + dq) : Nat) : Int), .int .u32 x61.dst, .int .i64 x61.proto, .int .i64 ((f : Nat) : Int), .int .i64 ((1 + tq : Nat) : Int), .bool an, .bool db, .int .i64 ((at0 + (1 + dq) + 5 * (1 + tq) + bq : Nat) : Int), .int .u32 sr, .int .i64 kd, .int .i64 0, .int .i64 lf, .int .i64 ie, .int .i64 qu]) prsag65 prssz65) ?_
  refine TL.prowS (e := 65) (size := 17) (cs := flat Rs.cells [(⟨x61.v, 0, ((num : Nat) : Int), ((at0 + (1 + dq) : Nat) : Int), x61.dst, x61.proto, ((f : Nat) : Int), ((1 + tq : Nat) : Int), an, db, ((at0 + (1 + dq) + 5 * (1 + tq) + bq : Nat) : Int), sr, kd, 0, lf, ie, qu⟩ : Rs)]) rfl rfl rfl rfl rfl (fun w => porbs23_1_99505 _ _ _ _ _ _ _ _ _ _ _ _ _ _ _ _ _ w) (by decide) rfl (fun g172 => ?_)
  refine TL.appendT (k := 3) rfl rfl rfl rfl Tryz.underlying23 porel23 rfl rfl rfl (fun w1 hw => pm_reads hw (k := 0) rfl) (flat_one rs_cel _) (by show _ * 128 ≤ _; omega) ((out ++ [(⟨x61.v, 0, ((num : Nat) : Int), ((at0 + (1 + dq) : Nat) : Int), x61.dst, x61.proto, ((f : Nat) : Int), ((1 + tq : Nat) : Int), an, db, ((at0 + (1 + dq) + 5 * (1 + tq) + bq : Nat) : Int), sr, kd, 0, lf, ie, qu⟩ : Rs)]).length) (by rw [List.length_append]; rfl) (flat Rs.cells (out ++ [(⟨x61.v, 0, ((num : Nat) : Int), ((at0 + (1 + dq) : Nat) : Int), x61.dst, x61.proto, ((f : Nat) : Int), ((1 + tq : Nat) : Int), an, db, ((at0 + (1 + dq) + 5 * (1 + tq) + bq : Nat) : Int), sr, kd, 0, lf, ie, qu⟩ : Rs)])) ((flat_app _ _).symm) (fun A173 c173 hA1731 hA1732 => ?_)
  refine TL.as_ ?_
  refine zE (zN (zT (zG (TL.mv ?_))))
  refine TL.val rfl rfl rfl (gives_bin rfl rfl rfl (fun w => bin_sub_ (r := ((k - 1 : Nat) : Int)) (by simp only [IntKind.wrap_i64]; omega) w)) ?_
  refine TL.as_ ?_
  refine zE ?_
  exact TX.round (⟨(k - 1, at0 + (1 + dq) + 5 * (1 + tq) + bq, idn + (1 + ec), (n2, n3), (A173, c173), out ++ [(⟨x61.v, 0, ((num : Nat) : Int), ((at0 + (1 + dq) : Nat) : Int), x61.dst, x61.proto, ((f : Nat) : Int), ((1 + tq : Nat) : Int), an, db, ((at0 + (1 + dq) + 5 * (1 + tq) + bq : Nat) : Int), sr, kd, 0, lf, ie, qu⟩ : Rs)], ns2, P2), ⟨by dsimp only; rw [List.length_append]; show k - 1 + (out.length + 1) ≤ m; omega, by dsimp only; rw [List.length_append]; show _ ≤ 100 + 100 * (out.length + 1); omega, by dsimp only; rw [List.length_append]; show _ ≤ 70000 + 100 * (out.length + 1); omega⟩, hout2, hns2, by dsimp only; omega, hA1731, hA1732⟩) (by show k - 1 < k; omega) ⟨rfl, rfl, rfl, rfl, rfl, rfl, rfl, rfl, trivial⟩ (fun w1 hw => hw.sel (.cons _ (.cons _ (.cons _ (.cons_cons _ (.cons_cons _ (.cons_cons _ (.cons_cons _ (List.Sublist.refl _)))))))))
 refine zET (zd (zx (zX (zX (zM (zT (zSG (TL.rn 2 rfl (zET (zr ?_))))))))))
 exact ret_tmp Tryz.results17 rfl (fun w1 hw => ⟨⟨((Ar, cr), out), hout.ok (by omega), hrc, hrm⟩, rfl, Pm.codr [_] ((hw.sel (.cons_cons _ (.cons _ (.cons _ (.cons_cons _ (List.Sublist.refl _)))))).sel (.cons_cons _ (.cons_cons _ (List.sublist_append_right _ _)))) rfl⟩)
set_option maxRecDepth 20000
theorem mem_snoc {l m : List Rs} {x : Rs} (h : ∀ r ∈ l, r ∈ m) (hx : x ∈ m) : ∀ r ∈ l ++ [x], r ∈ m := fun r hr => by
 rcases List.mem_append.1 hr with h1 | h1
 ·exact h r h1
 rw [List.mem_singleton.1 h1]; exact hx
theorem minimalLeast_walk (A0 : Option Addr) (n0 c0 : Nat) (l0 : List Int) (w : World) (hb0 : Byt w w.heap.size A0 n0 l0) (hc0 : n0 ≤ c0) (hm0 : c0 ≤ maxLen) :
  Calls Tryz.prog 10 #[.slice A0 n0 c0] w fun e w' => e = .returned (.bool true) ∧ Below w.heap.size w w' := by
 have hn0 : (n0 : Int) ≤ 9223372036854775807 := by unfold maxLen at hm0; omega
 refine begin_ (vs := [.slice A0 n0 c0]) Tryz.func10 rfl rfl rfl ?_ (Pm.start w)
 refine zSG (TL.as_ ?_)
 refine zET (zS (zSG ?_))
 refine TL.pcall1 (r := .bool true) rfl rfl rfl rfl rfl Tryz.func43 (by decide) rfl (fun w1 hw => awake42_true w1) ?_
 refine TL.val rfl rfl rfl (gives_boolnot rfl rfl) ?_
 refine zET (zd (zk (zT (zSG (TL.mv ?_)))))
 refine TL.callNew (I := Pm w []) (p := fun cb w => Cod w cb) rfl rfl rfl rfl rfl Tryz.func16 (by decide) rfl (fun w1 hw => (roll_any A0 n0 c0 l0 w1 ((hb0.below hw.bel).more hw.bel.size) hc0 hn0).mono fun e w2 ⟨h1, h2, h3⟩ => ⟨h1, h2, cod_cells h2, h3⟩) cod_stab (fun wn hwn => ?_)
 have hwb := hwn.bel
 refine TL.as_ ?_
 refine zET (zSG (TL.rn 2 rfl ?_))
 refine TL.pcallCod (k := 0) (α := Bool) (fun x => .bool x) (fun x => []) rfl rfl rfl rfl rfl Tryz.func18 (by decide) rfl rfl (fun w1 hw hC1 => dbool_cod wn.heap.size w1 hC1 3 (by decide)) ?_
 rintro b0
 dsimp only [List.cons_append, List.nil_append]
 refine TL.val rfl rfl rfl (gives_boolnot (b := b0) rfl rfl) ?_
 refine TL.pcallCod (k := 0) (α := {y : (Option Addr × Nat) × List Rs // DrawnOk 24 y.2 ∧ y.2.length ≤ y.1.2 ∧ y.1.2 ≤ maxLen}) (fun x => .slice x.1.1.1 x.1.2.length x.1.1.2) (fun x => [.row (.slice x.1.1.1 x.1.2.length x.1.1.2) 65 17 x.1.2.length (flat Rs.cells x.1.2)]) rfl rfl rfl rfl rfl Tryz.func17 (by decide) rfl rfl (fun w1 hw hC1 => results_cod wn.heap.size w1 hC1 24 (!b0) (by decide)) ?_
 rintro ⟨⟨⟨Axs, cxs⟩, xs⟩, hxs, hxsc, hxsm⟩
 dsimp only [List.cons_append, List.nil_append]
 dsimp only at hxs hxsc hxsm ⊢
 have hxslen := hxs.2.2
 have hxsok : ∀ r ∈ xs, r.Ok := fun r hr => (hxs.1 r hr).2.1
 have hxsv : ∀ r ∈ xs, vldRs r = true := fun r hr => (hxs.1 r hr).1
 refine TL.mv ?_
 refine TL.pcallCod (k := 1) (α := {y : (Option Addr × Nat) × List En // ((∀ e ∈ y.2, EnG e) ∧ validR y.2 = true) ∧ y.2.length ≤ 8 ∧ y.2.length ≤ y.1.2 ∧ y.1.2 ≤ maxLen}) (fun x => .agg #[.slice x.1.1.1 x.1.2.length x.1.1.2]) (fun x => [.row (.slice x.1.1.1 x.1.2.length x.1.1.2) 102 5 x.1.2.length (flat En.cells x.1.2)]) rfl rfl rfl rfl rfl Tryz.func19 (by decide) rfl rfl (fun w1 hw hC1 => registryX_cod wn.heap.size w1 hC1 8 (by decide)) ?_
 rintro ⟨⟨⟨Areg, creg⟩, reg⟩, hreg, hregl, hregc, hregm⟩
 dsimp only [List.cons_append, List.nil_append]
 dsimp only at hreg hregl hregc hregm ⊢
 have hregok : ∀ z ∈ reg, z.Ok := fun z hz => (hreg.1 z hz).ok
 refine TL.mv ?_
 refine TL.pcallCod (k := 2) (α := {u : Ru // RuG u}) (fun x => .agg (x.1.cells).toArray) (fun x => []) rfl rfl rfl rfl rfl Tryz.func20 (by decide) rfl rfl (fun w1 hw hC1 => drule_cod wn.heap.size w1 hC1) ?_
 rintro ⟨ru, hru⟩
 dsimp only [List.cons_append, List.nil_append]
 refine TL.pnew rfl rfl rfl (exec_alloc (cs := [.slice none 0 0]) rfl brxzv26 rfl) (fun g5 => ?_)
 refine TL.pnew rfl rfl rfl (exec_alloc (cs := [.int .i64 0, .int .i64 0, .int .i64 0]) rfl adrzv28 rfl) (fun g6 => ?_)
 refine TL.as_ ?_
 refine TL.pstore (k := 1) (vs := [.slice Areg reg.length creg]) rfl rfl rfl rfl rfl rfl rfl bresz26 dntone_s (by show 1 ≤ 1; decide) rfl ?_
 refine TL.pstore (k := 0) (vs := ru.cells) rfl rfl rfl rfl rfl rfl rfl aprsz28 (by first | exact idn_cel.one _ | exact ru_cel.one _) (by show 3 ≤ 3; decide) (L' := [.blk g6 28 ru.cells, .blk g5 26 [.slice Areg reg.length creg], .row (.slice Areg reg.length creg) 102 5 reg.length (flat En.cells reg), .row (.slice Axs xs.length cxs) 65 17 xs.length (flat Rs.cells xs), .abs wn.heap.size (fun w => Cod w wn.heap.size)]) rfl ?_
 refine zET (zSG (TL.mv ?_))
 refine TL.v (gV 1 (.agg #[.slice Areg reg.length creg]) breag26 bresz26) ?_
 refine TL.v (gV 0 (.agg (ru.cells).toArray) aprag28 aprsz28) ?_
 refine TL.pcallPm (α := {y : ((Option Addr × Nat) × List Rp) × Int // FndOk reg xs ru y.1.2 y.2 ∧ y.1.2.length ≤ 100000000000 ∧ y.1.2.length ≤ y.1.1.2 ∧ y.1.1.2 ≤ maxLen}) (fun x => .tuple #[.slice x.1.1.1.1 x.1.1.2.length x.1.1.1.2, .int .i64 x.1.2]) (fun x => [.row (.slice x.1.1.1.1 x.1.1.2.length x.1.1.1.2) 34 8 x.1.1.2.length (flat Rp.cells x.1.1.2)]) rfl rfl rfl rfl rfl Tryz.func39 (by decide) rfl (fun w1 hw => fnd_any Axs cxs xs Areg creg reg ru w1 (pm_rd hw (k := 3) rfl) (by omega) hxsok (pm_rd hw (k := 2) rfl)) ?_
 rintro ⟨⟨⟨⟨Afo, cfo⟩, fo⟩, efo⟩, hfo, hfol, hfoc, hfom⟩
 dsimp only [List.cons_append, List.nil_append]
 dsimp only at hfo hfol hfoc hfom ⊢
 obtain ⟨hfz, hfd⟩ := hfo.good hxsv hreg.2 hru.vld (by omega)
 refine TL.rn 5 rfl (zET (zS (zSG (TL.mv ?_))))
 refine TL.val rfl rfl rfl (gives_bin rfl rfl rfl (fun w => bin_neq_f (hfz) w)) ?_
 refine zET (zd (zk (zT (zS (zSG (TL.as_ ?_))))))
 refine zET (zB (TC.loop_ (α := {k : Nat // k ≤ 8}) (fun y => [(3, .pointer (some ⟨wn.heap.size, 0, none⟩)), (4, .slice Axs xs.length cxs), (5, .pointer (some ⟨g5, 0, none⟩)), (6, .pointer (some ⟨g6, 0, none⟩)), (7, .slice Afo fo.length cfo), (9, .int .i64 ((y.1 : Nat) : Int))]) (fun y => Pm wn [.row (.slice Afo fo.length cfo) 34 8 fo.length (flat Rp.cells fo), .blk g6 28 ru.cells, .blk g5 26 [.slice Areg reg.length creg], .row (.slice Areg reg.length creg) 102 5 reg.length (flat En.cells reg), .row (.slice Axs xs.length cxs) 65 17 xs.length (flat Rs.cells xs), .abs wn.heap.size (fun w => Cod w wn.heap.size)]) (fun y => 8 - y.1) (⟨0, Nat.zero_le _⟩) ⟨rfl, rfl, rfl, rfl, rfl, rfl, trivial⟩ (fun w1 hw => hw) ?_))
 rintro ⟨k, hk⟩
 try dsimp only at hk ⊢
 refine zS (zSG (TL.mv ?_))
 refine TL.sp bin_lss (fun q38 => ?_) (fun q38 => ?_)
 ·refine zET (zc (zk (zT (zS (zB (zSG (TL.as_ ?_)))))))
  refine zET (zS (zSG (TL.mv ?_)))
  refine TL.v (gN Tryz.underlying23) ?_
  refine TL.mv ?_
  refine zET (zB (TC.nilrow 65 17 ?_))
  refine TC.loop_ (α := {y : Nat × (Option Addr × Nat) × List Rs // y.1 ≤ xs.length ∧ (∀ r ∈ y.2.2, r ∈ xs) ∧ y.2.2.length ≤ y.1 ∧ y.2.2.length ≤ y.2.1.2 ∧ y.2.1.2 ≤ maxLen}) (fun y => [(3, .pointer (some ⟨wn.heap.size, 0, none⟩)), (4, .slice Axs xs.length cxs), (5, .pointer (some ⟨g5, 0, none⟩)), (6, .pointer (some ⟨g6, 0, none⟩)), (7, .slice Afo fo.length cfo), (9, .int .i64 ((k : Nat) : Int)), (41, .slice Axs xs.length cxs), (42, .int .i64 (xs.length : Nat)), (43, .int .i64 ((y.1.1 : Nat) : Int)), (10, .slice y.1.2.1.1 y.1.2.2.length y.1.2.1.2)]) (fun y => Pm wn [.row (.slice y.1.2.1.1 y.1.2.2.length y.1.2.1.2) 65 17 y.1.2.2.length (flat Rs.cells y.1.2.2), .row (.slice Afo fo.length cfo) 34 8 fo.length (flat Rp.cells fo), .blk g6 28 ru.cells, .blk g5 26 [.slice Areg reg.length creg], .row (.slice Areg reg.length creg) 102 5 reg.length (flat En.cells reg), .row (.slice Axs xs.length cxs) 65 17 xs.length (flat Rs.cells xs), .abs wn.heap.size (fun w => Cod w wn.heap.size)]) (fun y => xs.length - y.1.1) (⟨(0, (none, 0), []), Nat.zero_le _, fun r hr => absurd hr List.not_mem_nil, Nat.le_refl _, Nat.le_refl _, Nat.zero_le _⟩) ⟨rfl, rfl, rfl, rfl, rfl, rfl, rfl, rfl, rfl, rfl, trivial⟩ (fun w1 hw => hw) ?_
  rintro ⟨⟨i, ⟨Ap, cp⟩, pt⟩, hi, hpt, hpl, hpc, hpm⟩
  dsimp only at hi hpt hpl hpc hpm ⊢
  refine zSG ?_
  refine TL.sp bin_lss (fun q44 => ?_) (fun q44 => ?_)
  ·refine zET (zS (zc (zk (zT (zS (zB (zSG ?_)))))))
   refine TL.fact (p := ∃ g, Axs = some ⟨g, 0, none⟩) (fun w1 hw => rowA hw (k := 5) rfl (by omega)) ?_
   rintro ⟨g_Axs, rfl⟩
   have hi45 : i < xs.length := by omega
   obtain ⟨x45, hx45⟩ := ex_at hi45
   refine TL.val rfl rfl rfl (gA (i := i) Tryz.underlying23 prssz65 rfl rfl rfl rfl rfl (by omega)) ?_
   refine TL.val rfl rfl rfl (gives_loadR (off := 0 + i * 17) rfl rfl prsag65 prssz65 (rs_cel.len x45) (fun w1 hw j9 u9 h9 => flat_row rs_cel hw (q := 5) rfl hx45 j9 u9 h9)) ?_
   refine TL.pnew rfl rfl rfl (exec_alloc (cs := [.int .i64 0, .int .i64 0, .int .i64 0, .int .i64 0, .int .u32 0, .int .i64 0, .int .i64 0, .int .i64 0, .bool false, .bool false, .int .i64 0, .int .u32 0, .int .i64 0, .int .i64 0, .int .i64 0, .int .i64 0, .int .i64 0]) rfl arpzv65 rfl) (fun g12 => ?_)
   refine TL.pstore (k := 0) (vs := x45.cells) rfl rfl rfl rfl rfl rfl rfl prssz65 (rs_cel.one _) (by show 17 ≤ 17; decide) (L' := [.blk g12 65 x45.cells, .row (.slice Ap pt.length cp) 65 17 pt.length (flat Rs.cells pt), .row (.slice Afo fo.length cfo) 34 8 fo.length (flat Rp.cells fo), .blk g6 28 ru.cells, .blk g5 26 [.slice Areg reg.length creg], .row (.slice Areg reg.length creg) 102 5 reg.length (flat En.cells reg), .row (.slice (some ⟨g_Axs, 0, none⟩) xs.length cxs) 65 17 xs.length (flat Rs.cells xs), .abs wn.heap.size (fun w => Cod w wn.heap.size)]) rfl ?_
   refine zET (zSG (TL.mv ?_))
   refine TL.pcallCod (k := 7) (α := Bool) (fun x => .bool x) (fun x => []) rfl rfl rfl rfl rfl Tryz.func18 (by decide) rfl rfl (fun w1 hw hC1 => dbool_cod wn.heap.size w1 hC1 3 (by decide)) ?_
   rintro bb
   dsimp only [List.cons_append, List.nil_append]
   cases bb with
   | true =>
    refine TL.val rfl rfl rfl (gives_boolnot rfl rfl) ?_
    refine zET (zd (zk (zN (zT (zG (TL.v (gD ((i + 1 : Nat) : Int)) ?_))))))
    refine TL.mv ?_
    refine zE ?_
    exact TX.round (⟨(i + 1, (Ap, cp), pt), by dsimp only; omega, hpt, by dsimp only; omega, hpc, hpm⟩) (by show xs.length - (i + 1) < xs.length - i; omega) ⟨rfl, rfl, rfl, rfl, rfl, rfl, rfl, rfl, rfl, rfl, trivial⟩ (fun w1 hw => hw.pick [1, 2, 3, 4, 5, 6, 7] (by decide) rfl)
   | false =>
    refine TL.val rfl rfl rfl (gives_boolnot rfl rfl) ?_
    refine zET (zc (zG (TL.mv ?_)))
    refine TL.v (gV 0 (.agg (x45.cells).toArray) prsag65 prssz65) ?_
    refine TL.prowS (e := 65) (size := 17) (cs := flat Rs.cells [x45]) rfl rfl rfl rfl rfl (fun w => porbs23_1_99505 _ _ _ _ _ _ _ _ _ _ _ _ _ _ _ _ _ w) (by decide) rfl (fun g52 => ?_)
    refine TL.appendT (k := 2) rfl rfl rfl rfl Tryz.underlying23 porel23 rfl rfl rfl (fun w1 hw => pm_reads hw (k := 0) rfl) (flat_one rs_cel _) (by show _ * 128 ≤ _; omega) ((pt ++ [x45]).length) (by rw [List.length_append]; rfl) (flat Rs.cells (pt ++ [x45])) ((flat_app _ _).symm) (fun A53 c53 hA531 hA532 => ?_)
    refine TL.as_ ?_
    refine zE (zN (zT (zG (TL.v (gD ((i + 1 : Nat) : Int)) ?_))))
    refine TL.mv ?_
    refine zE ?_
    exact TX.round (⟨(i + 1, (A53, c53), pt ++ [x45]), by dsimp only; omega, mem_snoc hpt (List.mem_of_getElem? hx45), by dsimp only; rw [List.length_append]; show pt.length + 1 ≤ _; omega, hA531, hA532⟩) (by show xs.length - (i + 1) < xs.length - i; omega) ⟨rfl, rfl, rfl, rfl, rfl, rfl, rfl, rfl, rfl, rfl, trivial⟩ (fun w1 hw => hw.pick [2, 3, 4, 5, 6, 7, 8] (by decide) rfl)
  refine zET (zS (zd (zx (zX (zX (zM (zT (zSG (TL.mv ?_)))))))))
  refine TL.v (gN Tryz.underlying49) ?_
  refine TL.mv ?_
  refine zET (zB (TC.loop_ (α := {j : Nat // j ≤ fo.length}) (fun y => [(3, .pointer (some ⟨wn.heap.size, 0, none⟩)), (4, .slice Axs xs.length cxs), (5, .pointer (some ⟨g5, 0, none⟩)), (6, .pointer (some ⟨g6, 0, none⟩)), (7, .slice Afo fo.length cfo), (9, .int .i64 ((k : Nat) : Int)), (10, .slice Ap pt.length cp), (55, .slice Afo fo.length cfo), (56, .int .i64 (fo.length : Nat)), (57, .int .i64 ((y.1 : Nat) : Int))]) (fun y => Pm wn [.row (.slice Ap pt.length cp) 65 17 pt.length (flat Rs.cells pt), .row (.slice Afo fo.length cfo) 34 8 fo.length (flat Rp.cells fo), .blk g6 28 ru.cells, .blk g5 26 [.slice Areg reg.length creg], .row (.slice Areg reg.length creg) 102 5 reg.length (flat En.cells reg), .row (.slice Axs xs.length cxs) 65 17 xs.length (flat Rs.cells xs), .abs wn.heap.size (fun w => Cod w wn.heap.size)]) (fun y => fo.length - y.1) (⟨0, Nat.zero_le _⟩) ⟨rfl, rfl, rfl, rfl, rfl, rfl, rfl, rfl, rfl, rfl, trivial⟩ (fun w1 hw => hw) ?_))
  rintro ⟨j, hj⟩
  try dsimp only at hj ⊢
  refine zSG ?_
  refine TL.sp bin_lss (fun q58 => ?_) (fun q58 => ?_)
  ·refine zET (zS (zc (zk (zT (zS (zB (zSG ?_)))))))
   refine TL.fact (p := ∃ g, Afo = some ⟨g, 0, none⟩) (fun w1 hw => rowA hw (k := 1) rfl (by omega)) ?_
   rintro ⟨g_Afo, rfl⟩
   have hi59 : j < fo.length := by omega
   obtain ⟨x59, hx59⟩ := ex_at hi59
   refine TL.val rfl rfl rfl (gA (i := j) Tryz.underlying49 aprsz34 rfl rfl rfl rfl rfl (by omega)) ?_
   refine TL.val rfl rfl rfl (gives_loadR (off := 0 + j * 8) rfl rfl aprag34 aprsz34 (rp_cel.len x59) (fun w1 hw j9 u9 h9 => flat_row rp_cel hw (q := 1) rfl hx59 j9 u9 h9)) ?_
   refine TL.pnew rfl rfl rfl (exec_alloc (cs := [.int .i64 0, .int .i64 0, .int .u32 0, .int .i64 0, .int .i64 0, .int .i64 0, .int .i64 0, .int .i64 0]) rfl asezv34 rfl) (fun g14 => ?_)
   refine TL.pstore (k := 0) (vs := x59.cells) rfl rfl rfl rfl rfl rfl rfl aprsz34 (rp_cel.one _) (by show 8 ≤ 8; decide) (L' := [.blk g14 34 x59.cells, .row (.slice Ap pt.length cp) 65 17 pt.length (flat Rs.cells pt), .row (.slice (some ⟨g_Afo, 0, none⟩) fo.length cfo) 34 8 fo.length (flat Rp.cells fo), .blk g6 28 ru.cells, .blk g5 26 [.slice Areg reg.length creg], .row (.slice Areg reg.length creg) 102 5 reg.length (flat En.cells reg), .row (.slice Axs xs.length cxs) 65 17 xs.length (flat Rs.cells xs), .abs wn.heap.size (fun w => Cod w wn.heap.size)]) rfl ?_
   refine zET (zSG (TL.mv ?_))
   refine TL.v (gV 4 (.agg #[.slice Areg reg.length creg]) breag26 bresz26) ?_
   refine TL.v (gV 3 (.agg (ru.cells).toArray) aprag28 aprsz28) ?_
   refine TL.v (gV 0 (.agg (x59.cells).toArray) aprag34 aprsz34) ?_
   refine TL.pcallPm (α := {b : Bool // b = true ↔ PrP reg pt ru x59}) (fun x => .bool x.1) (fun x => []) rfl rfl rfl rfl rfl Tryz.func37 (by decide) rfl (fun w1 hw => (proves_any Ap cp pt Areg creg reg ru x59 w1 (pm_rd hw (k := 1) rfl) (by omega) (fun r hr => hxsok r (hpt r hr)) (pm_rd hw (k := 5) rfl)).mono fun en w2 ⟨x, h1, h2⟩ => ⟨x, h1, (Pm.start w1).below h2⟩) ?_
   rintro ⟨b1, hb1⟩
   dsimp only [List.cons_append, List.nil_append]
   refine TL.mv ?_
   cases b1 with
   | true =>
    refine TL.rn 1 rfl (TL.ov (gN Tryz.underlying23) ?_)
    refine TL.ov (gV 3 (.agg (ru.cells).toArray) aprag28 aprsz28) ?_
    refine TL.ov (gV 0 (.agg (x59.cells).toArray) aprag34 aprsz34) ?_
    refine TL.gu ?_
    refine TL.pcall1 (r := .int .i64 (sizeP ru x59)) rfl rfl rfl rfl rfl Tryz.func45 (by decide) rfl (fun w1 hw => size42_any ru x59 w1) ?_
    refine TL.gu ?_
    refine TL.val rfl rfl rfl (gives_bin rfl rfl rfl (fun w => bin_lss_f ((by have h9 := size_le (hb1.1 rfl); omega)) w)) ?_
    refine TL.pk ?_
    refine zET (zd (zk (zN (zT (zG (TL.v (gD ((j + 1 : Nat) : Int)) ?_))))))
    refine TL.mv ?_
    refine zE ?_
    exact TX.round (⟨j + 1, by omega⟩) (by show fo.length - (j + 1) < fo.length - j; omega) ⟨rfl, rfl, rfl, rfl, rfl, rfl, rfl, rfl, rfl, rfl, trivial⟩ (fun w1 hw => hw.pick [1, 2, 3, 4, 5, 6, 7] (by decide) rfl)
   | false =>
    refine TL.rn 7 rfl (zET (zd (zk (zN (zT (zG (TL.v (gD ((j + 1 : Nat) : Int)) ?_)))))))
    refine TL.mv ?_
    refine zE ?_
    exact TX.round (⟨j + 1, by omega⟩) (by show fo.length - (j + 1) < fo.length - j; omega) ⟨rfl, rfl, rfl, rfl, rfl, rfl, rfl, rfl, rfl, rfl, trivial⟩ (fun w1 hw => hw.pick [1, 2, 3, 4, 5, 6, 7] (by decide) rfl)
  refine zET (zS (zd (zx (zX (zX (zM (zN (zT (zG (TL.mv ?_))))))))))
  refine TL.v (gD ((k + 1 : Nat) : Int)) ?_
  refine TL.as_ ?_
  refine zE ?_
  exact TX.round (⟨k + 1, by omega⟩) (by show 8 - (k + 1) < 8 - k; omega) ⟨rfl, rfl, rfl, rfl, rfl, rfl, trivial⟩ (fun w1 hw => hw.pick [1, 2, 3, 4, 5, 6] (by decide) rfl)
 refine zET (zd (zx (zX (zX (zM (zT (zSG (TL.as_ ?_))))))))
 refine zET (zr ?_)
 exact ret_tmp Tryz.results10 rfl (fun w1 hw => ⟨rfl, hwb.trans (hw.bel.mono hwb.size)⟩)
end Go.Proofs.YtijmpjfafpodhaaGreat
