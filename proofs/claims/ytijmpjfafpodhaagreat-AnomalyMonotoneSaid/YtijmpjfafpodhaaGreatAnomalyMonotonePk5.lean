/-
  Texts of the proof, joined: BdRX, SymNew, SymAp2, AnLM.
-/
import Derived.Test.YtijmpjfafpodhaaGreatAnomalyMonotonePk4
import Derived.Test.YtijmpjfafpodhaaGreatAnomalyMonotonePk3
import Derived.Test.YtijmpjfafpodhaaGreatAnomalyMonotonePk1
import Derived.Laws.OwnMore
import Derived.Room.AppendUpon
set_option linter.unusedVariables false
set_option linter.unusedSimpArgs false
namespace Go.Proofs.YtijmpjfafpodhaaGreat
set_option maxHeartbeats 1000000
open Go.RowKit
set_option maxRecDepth 20000
def CmpE (x y : En) (z : Int) : Prop := (z < 0 → cmpP x.addr x.len y.addr y.len < 0 ∨ (cmpP x.addr x.len y.addr y.len = 0 ∧ x.frm ≤ y.frm)) ∧ (0 ≤ z → 0 < cmpP x.addr x.len y.addr y.len ∨ (cmpP x.addr x.len y.addr y.len = 0 ∧ y.frm ≤ x.frm))
def OvE (b x : En) : Prop := cmpP b.addr b.len x.addr x.len = 0 ∧ b.frm < x.to_ ∧ x.frm < b.to_
def LtE (b x : En) : Prop := cmpP b.addr b.len x.addr x.len < 0 ∨ (cmpP b.addr b.len x.addr x.len = 0 ∧ b.frm ≤ x.frm)
def GeE (b x : En) : Prop := 0 < cmpP b.addr b.len x.addr x.len ∨ (cmpP b.addr b.len x.addr x.len = 0 ∧ x.frm ≤ b.frm)
def AddK (es : List En) (x : En) (i k : Nat) : Prop := (k = 0 ∨ ∃ b, es[k - 1]? = some b ∧ LtE b x) ∧ (∀ j, k ≤ j → j < i → ∀ z, es[j]? = some z → GeE z x) ∧ ∀ j, j < i → ∀ z, es[j]? = some z → ¬ OvE z x
theorem AddK.start (es : List En) (x : En) : AddK es x 0 0 := ⟨.inl rfl, fun j _ h => absurd h (Nat.not_lt_zero _), fun j h => absurd h (Nat.not_lt_zero _)⟩
theorem AddK.step_ge {es : List En} {x z : En} {i k : Nat} (h : AddK es x i k) (hz : es[i]? = some z) (hk : k ≤ i) (hg : k ≤ i → GeE z x) (ho : ¬ OvE z x) : AddK es x (i + 1) k := by
 refine ⟨h.1, fun j h1 h2 y hy => ?_, fun j h2 y hy => ?_⟩
 ·by_cases e : j = i
  ·subst e; rw [hz] at hy; injection hy with hy; rw [← hy]; exact hg hk
  exact h.2.1 j h1 (by omega) y hy
 by_cases e : j = i
 ·subst e; rw [hz] at hy; injection hy with hy; rw [← hy]; exact ho
 exact h.2.2 j (by omega) y hy
theorem AddK.step_lt {es : List En} {x z : En} {i k : Nat} (h : AddK es x i k) (hz : es[i]? = some z) (hl : LtE z x) (ho : ¬ OvE z x) : AddK es x (i + 1) (i + 1) := by
 refine ⟨.inr ⟨z, by rw [Nat.add_sub_cancel]; exact hz, hl⟩, fun j h1 h2 => absurd h1 (by omega), fun j h2 y hy => ?_⟩
 by_cases e : j = i
 ·subst e; rw [hz] at hy; injection hy with hy; rw [← hy]; exact ho
 exact h.2.2 j (by omega) y hy
theorem cmpI_flip (a b : Int) : cmpI b a = - cmpI a b := by unfold cmpI; split <;> split <;> (try split) <;> omega
theorem cmpP_neg (a n b m : Int) : cmpP b m a n = - cmpP a n b m := by
 unfold cmpP
 rw [cmpI_flip a b, cmpI_flip n m]
 split <;> split <;> omega
theorem validR_at {es : List En} (h : validR es = true) {j : Nat} {z : En} (hz : es[j]? = some z) : validE z = true ∧ (j = 0 ∨ ∀ b, es[j - 1]? = some b → badP b z = false) := by
 simp only [validR, Bool.and_eq_true, decide_eq_true_eq, List.all_eq_true, List.mem_range] at h
 have h2 := h.2 j (List.getElem?_eq_some_iff.1 hz).1
 unfold okAt at h2
 rw [hz] at h2
 simp only [Bool.and_eq_true, Bool.or_eq_true, decide_eq_true_eq] at h2
 refine ⟨h2.1, h2.2.imp id fun h3 b hb => ?_⟩
 rw [hb] at h3
 simpa using h3
theorem okAt_of {es : List En} {j : Nat} {z : En} (hz : es[j]? = some z) (hv : validE z = true) (h : j = 0 ∨ ∀ b, es[j - 1]? = some b → badP b z = false) : okAt es j = true := by
 unfold okAt
 rw [hz]
 simp only [hv, Bool.true_and, Bool.or_eq_true, decide_eq_true_eq]
 rcases h with h | h
 ·exact .inl h
 right
 cases hb : es[j - 1]? with
 | none => rfl
 | some b => simp [h b hb]
theorem ins_valid {es : List En} {x : En} {k : Nat} (hv : validR es = true) (hx : validE x = true) (hl : es.length < 1024) (hb : k = 0 ∨ ∃ b, es[k - 1]? = some b ∧ LtE b x) (ha : ∀ z : En, es[k]? = some z → GeE z x) (ho : ∀ (j : Nat) (z : En), es[j]? = some z → ¬ OvE z x) : validR (es.take k ++ [x] ++ es.drop k) = true := by
 have hk : k ≤ es.length := by
  rcases hb with h | ⟨b, h, _⟩
  ·omega
  have := (List.getElem?_eq_some_iff.1 h).1; omega
 have hlen : (es.take k ++ [x] ++ es.drop k).length = es.length + 1 := by simp only [List.length_append, List.length_take, List.length_drop, List.length_cons, List.length_nil]; omega
 have htk : (es.take k).length = k := by rw [List.length_take]; omega
 have g1 : ∀ j, j < k → (es.take k ++ [x] ++ es.drop k)[j]? = es[j]? := fun j hj => by
  rw [List.append_assoc, List.getElem?_append_left (by omega), List.getElem?_take_of_lt hj]
 have g2 : (es.take k ++ [x] ++ es.drop k)[k]? = some x := by
  rw [List.append_assoc, List.getElem?_append_right (by omega), htk, Nat.sub_self]; rfl
 have g3 : ∀ j, k ≤ j → (es.take k ++ [x] ++ es.drop k)[j + 1]? = es[j]? := fun j hj => by
  rw [List.getElem?_append_right (by rw [List.length_append, htk]; show k + 1 ≤ _; omega), List.length_append, htk, List.getElem?_drop]
  congr 1; show k + (j + 1 - (k + 1)) = j; omega
 refine validR_true (by omega) fun j hj => ?_
 have hxf : x.frm < x.to_ := by unfold validE at hx; simp only [Bool.and_eq_true, decide_eq_true_eq] at hx; omega
 rcases Nat.lt_trichotomy j k with h | h | h
 ·obtain ⟨z, hz⟩ : ∃ z, es[j]? = some z := ⟨_, List.getElem?_eq_getElem (by omega)⟩
  obtain ⟨a1, a2⟩ := validR_at hv hz
  exact okAt_of (by rw [g1 j h]; exact hz) a1 (by rw [g1 (j - 1) (by omega)]; exact a2)
 ·subst h
  refine okAt_of g2 hx ?_
  rcases hb with h | ⟨b, h, h1⟩
  ·exact .inl h
  by_cases h0 : j = 0
  ·exact .inl h0
  refine .inr fun c hc => ?_
  rw [g1 (j - 1) (by omega), h] at hc
  injection hc with hc
  rw [← hc]
  have h2 := ho _ _ h
  unfold OvE at h2
  unfold LtE at h1
  unfold badP
  rw [Bool.or_eq_false_iff, Bool.and_eq_false_iff, decide_eq_false_iff_not, decide_eq_false_iff_not, decide_eq_false_iff_not]
  rcases h1 with h1 | h1
  ·exact ⟨by omega, .inl (by omega)⟩
  refine ⟨by omega, .inr fun h4 => h2 ⟨h1.1, by omega, h4⟩⟩
 obtain ⟨q, rfl⟩ : ∃ q, j = q + 1 := ⟨j - 1, by omega⟩
 obtain ⟨z, hz⟩ : ∃ z, es[q]? = some z := ⟨_, List.getElem?_eq_getElem (by omega)⟩
 obtain ⟨a1, a2⟩ := validR_at hv hz
 refine okAt_of (by rw [g3 q (by omega)]; exact hz) a1 (.inr ?_)
 rw [Nat.add_sub_cancel]
 by_cases e : q = k
 ·subst e
  intro c hc
  rw [g2] at hc
  injection hc with hc
  rw [← hc]
  have h1 := ha z hz
  have h2 := ho _ _ hz
  have hzf : z.frm < z.to_ := by have a3 := a1; unfold validE at a3; simp only [Bool.and_eq_true, decide_eq_true_eq] at a3; omega
  have hng := cmpP_neg z.addr z.len x.addr x.len
  unfold OvE at h2
  unfold GeE at h1
  unfold badP
  rw [Bool.or_eq_false_iff, Bool.and_eq_false_iff, decide_eq_false_iff_not, decide_eq_false_iff_not, decide_eq_false_iff_not]
  rcases h1 with h1 | h1
  ·exact ⟨by omega, .inl (by omega)⟩
  refine ⟨by omega, .inr fun h4 => ?_⟩
  exact h2 ⟨h1.1, h4, by omega⟩
 obtain ⟨p, rfl⟩ : ∃ p, q = p + 1 := ⟨q - 1, by omega⟩
 rw [g3 p (by omega)]
 rcases a2 with a2 | a2
 ·omega
 rw [Nat.add_sub_cancel] at a2; exact a2
theorem brxbld183_19252 (a0_0 : Int) (a0_1 : Int) (a1_0 : Int) (a1_1 : Int) (a2_0 : Int) (a2_1 : Int) (w : World) : (Instr.build 183 #[(0, .agg #[.int .i64 a0_0, .int .i64 a0_1]), (1, .agg #[.int .i64 a1_0, .int .i64 a1_1]), (2, .agg #[.int .i64 a2_0, .int .i64 a2_1])]).run Tryz.prog w = .ok (.agg #[.int .i64 a0_0, .int .i64 a0_1, .int .i64 a1_0, .int .i64 a1_1, .int .i64 a2_0, .int .i64 a2_1]) w := by kernel_rfl
theorem brxone_i64i64 {a0 : Int} {a1 : Int} : ∀ u ∈ [(.int .i64 a0 : Value), .int .i64 a1], u.oneCell' = true := by
 intro u hu
 simp only [List.mem_cons, List.not_mem_nil, or_false] at hu
 rcases hu with rfl | rfl <;> rfl
theorem brxzv26 (w : World) : (zeroValue 26).run Tryz.prog w = .ok (.agg #[.slice none 0 0]) w := rfl
theorem brxel24 : Elem Tryz.prog 24 102 5 40 := Elem.mk' Tryz.underlying24 (z := .agg #[.int .u32 0, .int .i64 0, .int .i64 0, .int .i64 0, .int .i64 0]) (by kernel_rfl) rfl (by omega) (by omega)
theorem brxbs24_1_22095 (a0_0 : Int) (a0_1 : Int) (a0_2 : Int) (a0_3 : Int) (a0_4 : Int) (w : World) : (Instr.buildSlice 24 1 #[(0, .agg #[.int .u32 a0_0, .int .i64 a0_1, .int .i64 a0_2, .int .i64 a0_3, .int .i64 a0_4])]).run Tryz.prog w = .ok (.slice (some ⟨w.heap.size, 0, none⟩) 1 1) (w.alloc (.cells [.int .u32 a0_0, .int .i64 a0_1, .int .i64 a0_2, .int .i64 a0_3, .int .i64 a0_4].toArray 102)) := by kernel_rfl
theorem brxbld26_67803 (a0_0 : Option Addr) (a0_0n a0_0c : Nat) (w : World) : (Instr.build 26 #[(0, .slice a0_0 a0_0n a0_0c)]).run Tryz.prog w = .ok (.agg #[.slice a0_0 a0_0n a0_0c]) w := by kernel_rfl
theorem rcmpX_any (x y : En) (hx : x.Ok) (hy : y.Ok) (w : World) :
  Calls Tryz.prog 115 #[.agg x.cells.toArray, .agg y.cells.toArray] w fun e w' => ∃ z : {z : Int // CmpE x y z}, e = .returned (.int .i64 z.1) ∧ Below w.heap.size w w' := by
 refine begin_ (vs := [.agg x.cells.toArray, .agg y.cells.toArray]) Tryz.func115 rfl rfl rfl ?_ (Pm.start w)
 refine zSG ?_
 refine TL.pnew rfl rfl rfl (exec_box (cs := x.cells) rfl rfl rfl) (fun g2 => ?_)
 refine TL.pnew rfl rfl rfl (exec_box (cs := y.cells) rfl rfl rfl) (fun g3 => ?_)
 refine TL.as_ ?_
 refine zET (zS (zSG (TL.v (gF brefld102_0) ?_)))
 refine TL.v (gV 1 (.agg #[.int .u32 x.addr, .int .i64 x.len]) badag100 badsz100) ?_
 refine TL.v (gF brefld102_0) ?_
 refine TL.v (gV 0 (.agg #[.int .u32 y.addr, .int .i64 y.len]) badag100 badsz100) ?_
 refine TL.pcall1 (r := .int .i64 (cmpP x.addr x.len y.addr y.len)) rfl rfl rfl rfl rfl Tryz.func114 (by decide) rfl (fun w1 hw => rcmpP_any x.addr x.len y.addr y.len hx hy w1) ?_
 refine TL.as_ ?_
 refine zET (zSG (TL.mv ?_))
 refine TL.sp bin_neq (fun q14 => ?_) (fun q14 => ?_)
 ·refine zET (zc (zSG (TL.rn 2 rfl (zET (zr (zR ?_))))))
  exact ret_tmp Tryz.results115 rfl (fun w1 hw => ⟨⟨cmpP x.addr x.len y.addr y.len, ⟨fun h => .inl h, fun h => .inl (by omega)⟩⟩, rfl, hw.bel⟩)
 refine zET (zd (zk (zT (zS (zSG (TL.v (gF brefld102_2) ?_))))))
 refine TL.v (gL 1 pcmag3) ?_
 refine TL.v (gF brefld102_2) ?_
 refine TL.v (gL 0 pcmag3) ?_
 refine TL.val rfl rfl rfl (gives_build (v := .agg #[.int .i64 x.frm, .int .i64 y.frm]) rfl rfl (fun w => prsbld120_29156 _ _ w)) ?_
 refine TL.v (gF brefld102_3) ?_
 refine TL.v (gL 1 pcmag3) ?_
 refine TL.v (gF brefld102_3) ?_
 refine TL.v (gL 0 pcmag3) ?_
 refine TL.val rfl rfl rfl (gives_build (v := .agg #[.int .i64 x.to_, .int .i64 y.to_]) rfl rfl (fun w => prsbld120_29156 _ _ w)) ?_
 refine TL.v (gF brefld102_1) ?_
 refine TL.v (gL 1 pcmag3) ?_
 refine TL.v (gF brefld102_1) ?_
 refine TL.v (gL 0 pcmag3) ?_
 refine TL.val rfl rfl rfl (gives_build (v := .agg #[.int .i64 x.prov, .int .i64 y.prov]) rfl rfl (fun w => prsbld120_29156 _ _ w)) ?_
 refine TL.val rfl rfl rfl (gives_build (v := .agg #[.int .i64 x.frm, .int .i64 y.frm, .int .i64 x.to_, .int .i64 y.to_, .int .i64 x.prov, .int .i64 y.prov]) rfl rfl (fun w => brxbld183_19252 _ _ _ _ _ _ w)) ?_
 refine TL.mv ?_
 refine zET (zB (TC.loop_ (α := {i : Nat // i ≤ 3 ∧ (0 < i → x.frm = y.frm)}) (fun z => [(31, .agg #[.int .i64 x.frm, .int .i64 y.frm, .int .i64 x.to_, .int .i64 y.to_, .int .i64 x.prov, .int .i64 y.prov]), (32, .int .i64 ((z.1 : Nat) : Int))]) (fun z => Pm w [.blk g3 102 y.cells, .blk g2 102 x.cells]) (fun z => 3 - z.1) (⟨0, Nat.zero_le _, fun h => absurd h (by decide)⟩) ⟨rfl, rfl, trivial⟩ (fun w1 hw => hw) ?_))
 rintro ⟨i, hi, hfr⟩
 try dsimp only at hi hfr ⊢
 refine zSG ?_
 refine TL.sp bin_lss (fun q33 => ?_) (fun q33 => ?_)
 ·have hi2 : i < 3 := by omega
  obtain ⟨p, q, hp0, hpq⟩ : ∃ p q : Int, (i = 0 → p = x.frm ∧ q = y.frm) ∧ ∀ w : World, (Instr.index 183 (.agg #[.int .i64 x.frm, .int .i64 y.frm, .int .i64 x.to_, .int .i64 y.to_, .int .i64 x.prov, .int .i64 y.prov]) (.int .i64 ((i : Nat) : Int))).run Tryz.prog w = .ok (.agg #[.int .i64 p, .int .i64 q]) w := by
   have h3 : i = 0 ∨ i = 1 ∨ i = 2 := by omega
   rcases h3 with rfl | rfl | rfl
   ·exact ⟨x.frm, y.frm, fun _ => ⟨rfl, rfl⟩, fun w => by kernel_rfl⟩
   ·exact ⟨x.to_, y.to_, fun h => absurd h (by decide), fun w => by kernel_rfl⟩
   exact ⟨x.prov, y.prov, fun h => absurd h (by decide), fun w => by kernel_rfl⟩
  refine zET (zS (zc (zk (zT (zS (zB (zSG ?_)))))))
  refine TL.val rfl rfl rfl (gives_index (v := .agg #[.int .i64 p, .int .i64 q]) rfl rfl rfl hpq) ?_
  refine TL.pnew rfl rfl rfl (exec_alloc (cs := [.int .i64 0, .int .i64 0]) rfl prszv120 rfl) (fun g7 => ?_)
  refine TL.pstore (k := 0) (vs := [.int .i64 p, .int .i64 q]) rfl rfl rfl rfl rfl rfl rfl prssz120 brxone_i64i64 (by show 2 ≤ 2; decide) rfl ?_
  refine zET (zS (zSG ?_))
  refine TL.val rfl rfl rfl (gives_at (v := .pointer (some ⟨g7, 0, none⟩)) rfl rfl rfl (fun w => at_arr Tryz.underlying120 pcmsz3 g7 0 _ 0 (by decide) w)) ?_
  refine TL.v (gL 0 pcmag3) ?_
  refine TL.val rfl rfl rfl (gives_at (v := .pointer (some ⟨g7, 1, none⟩)) rfl rfl rfl (fun w => at_arr Tryz.underlying120 pcmsz3 g7 0 _ 1 (by decide) w)) ?_
  refine TL.v (gL 0 pcmag3) ?_
  refine TL.sp bin_lss (fun q39 => ?_) (fun q39 => ?_)
  ·refine zET (zc (zSG (TL.as_ ?_)))
   refine zET (zr (zR (zRR (zR (zRR ?_)))))
   exact ret_tmp Tryz.results115 rfl (fun w1 hw => ⟨⟨-1, ⟨fun _ => .inr ⟨by omega, by by_cases h0 : i = 0; (have := hp0 h0; omega); (have := hfr (by omega); omega)⟩, fun h => absurd h (by decide)⟩⟩, rfl, hw.bel⟩)
  refine zET (zd (zk (zT (zSG ?_))))
  refine TL.val rfl rfl rfl (gives_at (v := .pointer (some ⟨g7, 0, none⟩)) rfl rfl rfl (fun w => at_arr Tryz.underlying120 pcmsz3 g7 0 _ 0 (by decide) w)) ?_
  refine TL.v (gL 0 pcmag3) ?_
  refine TL.val rfl rfl rfl (gives_at (v := .pointer (some ⟨g7, 1, none⟩)) rfl rfl rfl (fun w => at_arr Tryz.underlying120 pcmsz3 g7 0 _ 1 (by decide) w)) ?_
  refine TL.v (gL 0 pcmag3) ?_
  refine TL.sp bin_gtr (fun q44 => ?_) (fun q44 => ?_)
  ·refine zET (zc (zSG (TL.as_ ?_)))
   refine zET (zr (zRR (zR (zRR ?_))))
   exact ret_tmp Tryz.results115 rfl (fun w1 hw => ⟨⟨1, ⟨fun h => absurd h (by decide), fun _ => .inr ⟨by omega, by by_cases h0 : i = 0; (have := hp0 h0; omega); (have := hfr (by omega); omega)⟩⟩⟩, rfl, hw.bel⟩)
  have hfr2 : x.frm = y.frm := by by_cases h0 : i = 0; (have := hp0 h0; omega); exact hfr (by omega)
  refine zET (zd (zk (zN (zT (zG (TL.v (gD ((i + 1 : Nat) : Int)) ?_))))))
  refine TL.mv ?_
  refine zE ?_
  exact TX.round (⟨i + 1, by omega, fun _ => hfr2⟩) (by show 3 - (i + 1) < 3 - i; omega) ⟨rfl, rfl, trivial⟩ (fun w1 hw => hw.pick [1, 2] (by decide) rfl)
 refine zET (zS (zd (zx (zX (zX (zM (zT (zSG (TL.as_ ?_)))))))))
 refine zET (zr ?_)
 exact ret_tmp Tryz.results115 rfl (fun w1 hw => ⟨⟨0, ⟨fun h => absurd h (by decide), fun _ => .inr ⟨by omega, by have := hfr (by omega); omega⟩⟩⟩, rfl, hw.bel⟩)
theorem raddX_any (A0 : Option Addr) (c0 : Nat) (es : List En) (x : En) (hx : x.Ok) (w : World) (hr : Reads w w.heap.size 5 A0 es.length (flat En.cells es)) (hl1 : es.length ≤ 10000) (hlc : es.length ≤ c0) (hok : ∀ z ∈ es, z.Ok) :
  Calls Tryz.prog 64 #[.agg #[.slice A0 es.length c0], .agg x.cells.toArray] w fun e w' => ∃ y : {y : (Option Addr × Nat) × List En × Int // (y.2.2 = 0 → (∀ z ∈ y.2.1, z ∈ es ∨ z = x) ∧ validR y.2.1 = true) ∧ y.2.1.length ≤ es.length + 1 ∧ y.2.1.length ≤ y.1.2 ∧ y.1.2 ≤ maxLen}, e = .returned (.tuple #[.agg #[.slice y.1.1.1 y.1.2.1.length y.1.1.2], .int .i64 y.1.2.2]) ∧ Pm w [.row (.slice y.1.1.1 y.1.2.1.length y.1.1.2) 102 5 y.1.2.1.length (flat En.cells y.1.2.1)] w' := by
 refine begin_ (vs := [.agg #[.slice A0 es.length c0], .agg x.cells.toArray]) Tryz.func64 rfl rfl rfl ?_ (Pm.start w)
 refine zSG ?_
 refine TL.pnew rfl rfl rfl (exec_box (cs := [.slice A0 es.length c0]) rfl rfl rfl) (fun g2 => ?_)
 refine TL.pnew rfl rfl rfl (exec_box (cs := x.cells) rfl rfl rfl) (fun g3 => ?_)
 refine TL.pnew rfl rfl rfl (exec_alloc (cs := [.slice none 0 0]) rfl brxzv26 rfl) (fun g4 => ?_)
 refine TL.as_ ?_
 refine zET (zS (zSG (TL.v (gV 2 (.agg #[.slice A0 es.length c0]) breag26 bresz26) ?_)))
 refine TL.callsplit rfl rfl rfl rfl rfl Tryz.func85 (by decide) rfl (fun w1 hw => rvalX_any A0 c0 es w1 (hr.up hw.bel) (by omega) hok) (fun h10 => ?_) (fun h10 => ?_)
 ·refine TL.rn 2 rfl (TL.ov (gV 1 (.agg (x.cells).toArray) breag102 bresz102) ?_)
  refine TL.gu ?_
  refine TL.callsplit rfl rfl rfl rfl rfl Tryz.func113 (by decide) rfl (fun w1 hw => rvalE_any x hx w1) (fun h14 => ?_) (fun h14 => ?_)
  ·refine TL.rn 2 rfl (zET (zd (zk (zT (zSG (TL.as_ ?_))))))
   refine zET (zS (zSG (TL.as_ ?_)))
   refine zET (zB (TC.loop_ (α := {y : Nat × Nat // y.1 ≤ es.length ∧ y.2 ≤ y.1 ∧ AddK es x y.1 y.2}) (fun y => [(2, .pointer (some ⟨g2, 0, none⟩)), (3, .pointer (some ⟨g3, 0, none⟩)), (4, .pointer (some ⟨g4, 0, none⟩)), (7, .int .i64 ((y.1.1 : Nat) : Int)), (6, .int .i64 ((y.1.2 : Nat) : Int))]) (fun y => Pm w [.blk g4 26 [.slice none 0 0], .blk g3 102 x.cells, .blk g2 26 [.slice A0 es.length c0]]) (fun y => es.length - y.1.1) (⟨(0, 0), Nat.zero_le _, Nat.le_refl _, AddK.start es x⟩) ⟨rfl, rfl, rfl, rfl, rfl, trivial⟩ (fun w1 hw => hw) ?_))
   rintro ⟨⟨i, k⟩, hi, hk, hK⟩
   dsimp only at hi hk hK ⊢
   refine zS (zSG (TL.mv ?_))
   refine TL.v (gF brefld26_0) ?_
   refine TL.v (gL 2 breag24) ?_
   refine TL.v (gN Tryz.underlying24) ?_
   refine TL.sp bin_lss (fun q22 => ?_) (fun q22 => ?_)
   ·refine zET (zc (zk (zT (zS (zB (zSG (TL.v (gF brefld26_0) ?_)))))))
    refine TL.v (gL 2 breag24) ?_
    refine TL.mv ?_
    have hi28 : i < es.length := by omega
    obtain ⟨x28, hx28⟩ := ex_at hi28
    obtain ⟨b28, o28, hA28, hbb28, hc28⟩ := hr.ad (by omega) (by decide)
    refine TL.val rfl rfl rfl (gA (i := i) Tryz.underlying24 bresz102 rfl rfl rfl rfl hA28 (by omega)) ?_
    refine TL.v (gR en_cel breag102 bresz102 hbb28 hx28 hc28) ?_
    refine TL.pnew rfl rfl rfl (exec_alloc (cs := [.int .u32 0, .int .i64 0, .int .i64 0, .int .i64 0, .int .i64 0]) rfl brezv102 rfl) (fun g8 => ?_)
    refine TL.pstore (k := 0) (vs := x28.cells) rfl rfl rfl rfl rfl rfl rfl bresz102 (en_cel.one _) (by show 5 ≤ 5; decide) (L' := [.blk g8 102 x28.cells, .blk g4 26 [.slice none 0 0], .blk g3 102 x.cells, .blk g2 26 [.slice A0 es.length c0]]) rfl ?_
    refine zET (zS (zSG (TL.v (gF brefld102_0) ?_)))
    refine TL.v (gV 0 (.agg #[.int .u32 x28.addr, .int .i64 x28.len]) badag100 badsz100) ?_
    refine TL.v (gF brefld102_0) ?_
    refine TL.v (gV 2 (.agg #[.int .u32 x.addr, .int .i64 x.len]) badag100 badsz100) ?_
    refine TL.pcall1 (r := .int .i64 (cmpP x28.addr x28.len x.addr x.len)) rfl rfl rfl rfl rfl Tryz.func114 (by decide) rfl (fun w1 hw => rcmpP_any x28.addr x28.len x.addr x.len (hok x28 (List.mem_of_getElem? hx28)) hx w1) ?_
    refine TL.sp bin_eql (fun q35 => ?_) (fun q35 => ?_)
    ·refine TL.mv ?_
     refine TL.ov (gF brefld102_2) ?_
     refine TL.ov (gL 0 pcmag3) ?_
     refine TL.ov (gF brefld102_3) ?_
     refine TL.ov (gL 2 pcmag3) ?_
     refine TL.gu ?_
     refine TL.sp bin_lss (fun q41 => ?_) (fun q41 => ?_)
     ·refine TL.rn 2 rfl (TL.ov (gF brefld102_2) ?_)
      refine TL.ov (gL 2 pcmag3) ?_
      refine TL.ov (gF brefld102_3) ?_
      refine TL.ov (gL 0 pcmag3) ?_
      refine TL.gu ?_
      refine TL.sp bin_lss (fun q48 => ?_) (fun q48 => ?_)
      ·refine TL.pk ?_
       refine zET (zc (zSG ?_))
       refine TL.val rfl rfl rfl (gives_build (v := .agg #[.slice none 0 0]) rfl rfl (fun w => aawbld26_530  w)) ?_
       refine TL.pstore (k := 1) (vs := [.slice none 0 0]) rfl rfl rfl rfl rfl rfl rfl bresz26 dntone_s (by show 1 ≤ 1; decide) (L' := [.blk g8 102 x28.cells, .blk g4 26 [.slice none 0 0], .blk g3 102 x.cells, .blk g2 26 [.slice A0 es.length c0]]) rfl ?_
       refine TL.as_ ?_
       refine zET (zr (zR (zRR (zR (zRR ?_)))))
       exact ret_cell2 (k := 1) (v := .int .i64 9) Tryz.results64 rfl rfl rfl Tryz.underlying26 rfl rfl (fun w1 hw => ⟨⟨((none, 0), ([], 9)), fun h => absurd h (by decide), Nat.zero_le _, Nat.le_refl _, Nat.zero_le _⟩, rfl, (hw.pick [] (by decide) rfl).nilrow _ _⟩)
      refine TL.pk ?_
      refine zET (zd (zk (zT (zSG (TL.v (gV 0 (.agg (x28.cells).toArray) breag102 bresz102) ?_)))))
      refine TL.v (gV 2 (.agg (x.cells).toArray) breag102 bresz102) ?_
      refine TL.call (α := {z : Int // CmpE x28 x z}) (r := fun z => .int .i64 z.1) (I' := fun _ => Pm w [.blk g8 102 x28.cells, .blk g4 26 [.slice none 0 0], .blk g3 102 x.cells, .blk g2 26 [.slice A0 es.length c0]]) rfl rfl rfl rfl rfl Tryz.func115 (by decide) rfl (fun w1 hw => (rcmpX_any x28 x (hok x28 (List.mem_of_getElem? hx28)) hx w1).mono fun e w2 ⟨b, h1, h2⟩ => ⟨b, h1, hw.below h2⟩) ?_
      rintro ⟨z53, hz53⟩
      dsimp only
      refine TL.sp bin_lss (fun q54 => ?_) (fun q54 => ?_)
      ·refine zET (zc (zG (TL.mv ?_)))
       refine TL.v (gD ((i + 1 : Nat) : Int)) ?_
       refine TL.as_ ?_
       refine zE (zN (zT (zG (TL.mv ?_))))
       refine TL.v (gD ((i + 1 : Nat) : Int)) ?_
       refine TL.as_ ?_
       refine zE ?_
       exact TX.round (⟨(i + 1, i + 1), by dsimp only; omega, by dsimp only; omega, hK.step_lt hx28 (hz53.1 (by omega)) (by simp [OvE, q22, q35, q41, q48, q54]; try omega)⟩) (by show es.length - (i + 1) < es.length - i; omega) ⟨rfl, rfl, rfl, rfl, rfl, trivial⟩ (fun w1 hw => hw.pick [1, 2, 3] (by decide) rfl)
      refine zET (zd (zk (zN (zT (zG (TL.mv ?_))))))
      refine TL.v (gD ((i + 1 : Nat) : Int)) ?_
      refine TL.as_ ?_
      refine zE ?_
      exact TX.round (⟨(i + 1, k), by dsimp only; omega, by dsimp only; omega, hK.step_ge hx28 (by omega) (fun h => (hz53.2 (by omega))) (by simp [OvE, q22, q35, q41, q48, q54]; try omega)⟩) (by show es.length - (i + 1) < es.length - i; omega) ⟨rfl, rfl, rfl, rfl, rfl, trivial⟩ (fun w1 hw => hw.pick [1, 2, 3] (by decide) rfl)
     refine TL.rn 8 rfl (zET (zd (zk (zT (zSG (TL.v (gV 0 (.agg (x28.cells).toArray) breag102 bresz102) ?_))))))
     refine TL.v (gV 2 (.agg (x.cells).toArray) breag102 bresz102) ?_
     refine TL.call (α := {z : Int // CmpE x28 x z}) (r := fun z => .int .i64 z.1) (I' := fun _ => Pm w [.blk g8 102 x28.cells, .blk g4 26 [.slice none 0 0], .blk g3 102 x.cells, .blk g2 26 [.slice A0 es.length c0]]) rfl rfl rfl rfl rfl Tryz.func115 (by decide) rfl (fun w1 hw => (rcmpX_any x28 x (hok x28 (List.mem_of_getElem? hx28)) hx w1).mono fun e w2 ⟨b, h1, h2⟩ => ⟨b, h1, hw.below h2⟩) ?_
     rintro ⟨z53, hz53⟩
     dsimp only
     refine TL.sp bin_lss (fun q54 => ?_) (fun q54 => ?_)
     ·refine zET (zc (zG (TL.mv ?_)))
      refine TL.v (gD ((i + 1 : Nat) : Int)) ?_
      refine TL.as_ ?_
      refine zE (zN (zT (zG (TL.mv ?_))))
      refine TL.v (gD ((i + 1 : Nat) : Int)) ?_
      refine TL.as_ ?_
      refine zE ?_
      exact TX.round (⟨(i + 1, i + 1), by dsimp only; omega, by dsimp only; omega, hK.step_lt hx28 (hz53.1 (by omega)) (by simp [OvE, q22, q35, q41, q54]; try omega)⟩) (by show es.length - (i + 1) < es.length - i; omega) ⟨rfl, rfl, rfl, rfl, rfl, trivial⟩ (fun w1 hw => hw.pick [1, 2, 3] (by decide) rfl)
     refine zET (zd (zk (zN (zT (zG (TL.mv ?_))))))
     refine TL.v (gD ((i + 1 : Nat) : Int)) ?_
     refine TL.as_ ?_
     refine zE ?_
     exact TX.round (⟨(i + 1, k), by dsimp only; omega, by dsimp only; omega, hK.step_ge hx28 (by omega) (fun h => (hz53.2 (by omega))) (by simp [OvE, q22, q35, q41, q54]; try omega)⟩) (by show es.length - (i + 1) < es.length - i; omega) ⟨rfl, rfl, rfl, rfl, rfl, trivial⟩ (fun w1 hw => hw.pick [1, 2, 3] (by decide) rfl)
    refine TL.rn 14 rfl (zET (zd (zk (zT (zSG (TL.v (gV 0 (.agg (x28.cells).toArray) breag102 bresz102) ?_))))))
    refine TL.v (gV 2 (.agg (x.cells).toArray) breag102 bresz102) ?_
    refine TL.call (α := {z : Int // CmpE x28 x z}) (r := fun z => .int .i64 z.1) (I' := fun _ => Pm w [.blk g8 102 x28.cells, .blk g4 26 [.slice none 0 0], .blk g3 102 x.cells, .blk g2 26 [.slice A0 es.length c0]]) rfl rfl rfl rfl rfl Tryz.func115 (by decide) rfl (fun w1 hw => (rcmpX_any x28 x (hok x28 (List.mem_of_getElem? hx28)) hx w1).mono fun e w2 ⟨b, h1, h2⟩ => ⟨b, h1, hw.below h2⟩) ?_
    rintro ⟨z53, hz53⟩
    dsimp only
    refine TL.sp bin_lss (fun q54 => ?_) (fun q54 => ?_)
    ·refine zET (zc (zG (TL.mv ?_)))
     refine TL.v (gD ((i + 1 : Nat) : Int)) ?_
     refine TL.as_ ?_
     refine zE (zN (zT (zG (TL.mv ?_))))
     refine TL.v (gD ((i + 1 : Nat) : Int)) ?_
     refine TL.as_ ?_
     refine zE ?_
     exact TX.round (⟨(i + 1, i + 1), by dsimp only; omega, by dsimp only; omega, hK.step_lt hx28 (hz53.1 (by omega)) (by simp [OvE, q22, q35, q54]; try omega)⟩) (by show es.length - (i + 1) < es.length - i; omega) ⟨rfl, rfl, rfl, rfl, rfl, trivial⟩ (fun w1 hw => hw.pick [1, 2, 3] (by decide) rfl)
    refine zET (zd (zk (zN (zT (zG (TL.mv ?_))))))
    refine TL.v (gD ((i + 1 : Nat) : Int)) ?_
    refine TL.as_ ?_
    refine zE ?_
    exact TX.round (⟨(i + 1, k), by dsimp only; omega, by dsimp only; omega, hK.step_ge hx28 (by omega) (fun h => (hz53.2 (by omega))) (by simp [OvE, q22, q35, q54]; try omega)⟩) (by show es.length - (i + 1) < es.length - i; omega) ⟨rfl, rfl, rfl, rfl, rfl, trivial⟩ (fun w1 hw => hw.pick [1, 2, 3] (by decide) rfl)
   refine zET (zd (zx (zX (zX (zM (zT (zS (zSG (TL.v (gF brefld26_0) ?_)))))))))
   refine TL.v (gL 2 breag24) ?_
   refine TL.v (gN Tryz.underlying24) ?_
   refine TL.sp bin_geq (fun q60 => ?_) (fun q60 => ?_)
   ·refine zET (zc (zSG ?_))
    refine TL.val rfl rfl rfl (gives_build (v := .agg #[.slice none 0 0]) rfl rfl (fun w => aawbld26_530  w)) ?_
    refine TL.pstore (k := 0) (vs := [.slice none 0 0]) rfl rfl rfl rfl rfl rfl rfl bresz26 dntone_s (by show 1 ≤ 1; decide) (L' := [.blk g4 26 [.slice none 0 0], .blk g3 102 x.cells, .blk g2 26 [.slice A0 es.length c0]]) rfl ?_
    refine TL.as_ ?_
    refine zET (zr (zR ?_))
    exact ret_cell2 (k := 0) (v := .int .i64 5) Tryz.results64 rfl rfl rfl Tryz.underlying26 rfl rfl (fun w1 hw => ⟨⟨((none, 0), ([], 5)), fun h => absurd h (by decide), Nat.zero_le _, Nat.le_refl _, Nat.zero_le _⟩, rfl, (hw.pick [] (by decide) rfl).nilrow _ _⟩)
   refine zET (zd (zk (zT (zS (TC.held (ls := #[Ff,Ff,Ff,Ff,Ff,Ff,Ff,Ff,Ff,Ff,Ff,Ff,Ff,Ff,Ff,Ff]) (Pm w [.blk g3 102 x.cells, .blk g2 26 [.slice A0 es.length c0]]) (by kernel_rfl) rfl rfl (fun w hw => hw.drawn _) ?_)))))
   refine TH.tk 0 rfl rfl rfl (gF brefld26_0) (fun w1 hw => hw.pick [1, 2] (by decide) rfl) ?_
   refine TH.tk 1 rfl rfl rfl (gL 1 breag24) (fun w1 hw => hw.pick [1, 2] (by decide) rfl) ?_
   refine TH.tk 2 rfl rfl rfl (gives_move rfl rfl) (fun w1 hw => hw.pick [1, 2] (by decide) rfl) ?_
   refine TH.tk 3 rfl rfl rfl (gives_sliceH (v := .slice A0 k c0) rfl rfl rfl (fun w => cut_hi Tryz.underlying24 bresz102 _ _ _ k rfl (by omega) w)) (fun w1 hw => hw.pick [1, 2] (by decide) rfl) ?_
   refine TH.tk 5 rfl rfl rfl (gV 0 (.agg (x.cells).toArray) breag102 bresz102) (fun w1 hw => hw.pick [1, 2] (by decide) rfl) ?_
   refine TH.tk 8 rfl rfl rfl (gF brefld26_0) (fun w1 hw => hw.pick [1, 2] (by decide) rfl) ?_
   refine TH.tk 9 rfl rfl rfl (gL 1 breag24) (fun w1 hw => hw.pick [1, 2] (by decide) rfl) ?_
   refine TH.tk 10 rfl rfl rfl (gives_move rfl rfl) (fun w1 hw => hw.pick [1, 2] (by decide) rfl) ?_
   refine TH.tk 11 rfl rfl rfl (gives_sliceL (v := .slice (if c0 = k then A0 else A0.map (·.add (k * 5))) (es.length - k) (c0 - k)) rfl rfl rfl (fun w => cut_lo Tryz.underlying24 bresz102 _ _ _ k rfl (by omega) w)) (fun w1 hw => hw.pick [1, 2] (by decide) rfl) ?_
   refine TH.two' (listed1 := #[Tt,Tt,Tt,Tt,Tt,Tt,Ff,Ff,Tt,Tt,Tt,Tt,Ff,Ff,Ff,Ff]) (listed2 := #[Tt,Tt,Tt,Tt,Ff,Tt,Tt,Ff,Tt,Tt,Tt,Tt,Ff,Ff,Ff,Ff]) 4 6 rfl rfl (by kernel_rfl) rfl rfl ?_ ?_
   ·refine TL.nilrow 102 5 ?_
    refine TL.appendT (k := 0) rfl rfl rfl rfl Tryz.underlying24 brxel24 rfl rfl rfl (fun w1 hw => ⟨_, (Reads.headF en_cel (hr.up hw.bel) (by omega))⟩) (flat_one en_cel _) (by show _ * 40 ≤ _; omega) (k) ((Nat.zero_add _).symm) (flat En.cells (es.take k)) (rfl) (fun A66 c66 hA661 hA662 => ?_)
    refine zE ?_
    refine TX.held (fun w1 hw => hw.pick [2, 3] (by decide) rfl) ?_
    refine TH.only' 6 rfl (by kernel_rfl) rfl ?_
    refine TL.prowS (e := 102) (size := 5) (cs := flat En.cells [x]) rfl rfl rfl rfl rfl (fun w => brxbs24_1_22095 _ _ _ _ _ w) (by decide) rfl (fun g68 => ?_)
    refine zE ?_
    refine TX.held (fun w1 hw => hw.pick [3, 4] (by decide) rfl) ?_
    refine TH.only' 7 rfl (by kernel_rfl) rfl ?_
    refine TL.appendT (k := 1) rfl rfl rfl rfl Tryz.underlying24 brxel24 rfl rfl rfl (fun w1 hw => pm_reads hw (k := 0) rfl) (flat_one en_cel _) (by show _ * 40 ≤ _; omega) (k + 1) (rfl) (flat En.cells ((es.take k) ++ [x])) ((flat_app _ _).symm) (fun A69 c69 hA691 hA692 => ?_)
    refine zE ?_
    refine TX.held (fun w1 hw => hw.pick [3, 4] (by decide) rfl) ?_
    refine TH.only' 12 rfl (by kernel_rfl) rfl ?_
    refine TL.appendT (k := 1) rfl rfl rfl rfl Tryz.underlying24 brxel24 rfl rfl rfl (fun w1 hw => ⟨_, (Reads.tailF en_cel (hr.up hw.bel) (by omega) (by omega))⟩) (flat_one en_cel _) (by show _ * 40 ≤ _; omega) (k + 1 + (es.length - k)) (rfl) (flat En.cells (((es.take k) ++ [x]) ++ (es.drop k))) ((flat_app _ _).symm) (fun A74 c74 hA741 hA742 => ?_)
    refine zE ?_
    refine TX.he (fun w1 hw => hw.pick [3, 4] (by decide) rfl) fun hS => ?_
    refine TH.t 13 rfl (gives_build (v := .agg #[.slice A74 (k + 1 + (es.length - k)) c74]) rfl rfl (fun w => brxbld26_67803 _ _ _ w)) hS ?_
    refine TH.only' 14 rfl (by kernel_rfl) rfl ?_
    refine TL.pstore (k := 2) (vs := [.slice A74 (k + 1 + (es.length - k)) c74]) rfl rfl rfl rfl rfl rfl rfl bresz26 dntone_s (by show 1 ≤ 1; decide) (L' := [.row (.slice (some ⟨g68, 0, none⟩) 1 1) 102 5 1 (flat En.cells [x]), .row (.slice A74 (k + 1 + (es.length - k)) c74) 102 5 (k + 1 + (es.length - k)) (flat En.cells (((es.take k) ++ [x]) ++ (es.drop k))), .blk g4 26 [.slice A74 (k + 1 + (es.length - k)) c74], .blk g3 102 x.cells, .blk g2 26 [.slice A0 es.length c0]]) rfl ?_
    refine zE ?_
    refine TX.he (fun w1 hw => hw.pick [3, 4] (by decide) rfl) fun hS => ?_
    refine TH.t 15 rfl (gives_assign rfl rfl) hS ?_
    refine TH.done (by kernel_rfl) ?_
    refine zT (zr ?_)
    have hle : (((es.take k) ++ [x]) ++ (es.drop k)).length = k + 1 + (es.length - k) := by simp only [List.length_append, List.length_take, List.length_drop, List.length_cons, List.length_nil]; omega
    have hva : validR (((es.take k) ++ [x]) ++ (es.drop k)) = true := ins_valid h10 (by rw [← rvalidE_eq hx]; exact h14) (by omega) hK.1 (fun z hz => hK.2.1 k (Nat.le_refl _) (by have := (List.getElem?_eq_some_iff.1 hz).1; omega) z hz) (fun j z hz => hK.2.2 j (by have := (List.getElem?_eq_some_iff.1 hz).1; omega) z hz)
    exact ret_cell2 (k := 2) (v := .int .i64 0) Tryz.results64 rfl rfl rfl Tryz.underlying26 rfl rfl (fun w1 hw => ⟨⟨((A74, c74), (((es.take k) ++ [x]) ++ (es.drop k), 0)), fun _ => ⟨fun z h => mem_ins h, hva⟩, by dsimp only; omega, by dsimp only; omega, hA742⟩, by dsimp only; rw [hle], by dsimp only; rw [hle]; exact hw.pick [1] (by decide) rfl⟩)
   refine TL.prowS (e := 102) (size := 5) (cs := flat En.cells [x]) rfl rfl rfl rfl rfl (fun w => brxbs24_1_22095 _ _ _ _ _ w) (by decide) rfl (fun g68 => ?_)
   refine zE ?_
   refine TX.held (fun w1 hw => hw.pick [2, 3] (by decide) rfl) ?_
   refine TH.only' 4 rfl (by kernel_rfl) rfl ?_
   refine TL.nilrow 102 5 ?_
   refine TL.appendT (k := 0) rfl rfl rfl rfl Tryz.underlying24 brxel24 rfl rfl rfl (fun w1 hw => ⟨_, (Reads.headF en_cel (hr.up hw.bel) (by omega))⟩) (flat_one en_cel _) (by show _ * 40 ≤ _; omega) (k) ((Nat.zero_add _).symm) (flat En.cells (es.take k)) (rfl) (fun A66 c66 hA661 hA662 => ?_)
   refine zE ?_
   refine TX.held (fun w1 hw => hw.pick [3, 4] (by decide) rfl) ?_
   refine TH.only' 7 rfl (by kernel_rfl) rfl ?_
   refine TL.appendT (k := 0) rfl rfl rfl rfl Tryz.underlying24 brxel24 rfl rfl rfl (fun w1 hw => pm_reads hw (k := 1) rfl) (flat_one en_cel _) (by show _ * 40 ≤ _; omega) (k + 1) (rfl) (flat En.cells ((es.take k) ++ [x])) ((flat_app _ _).symm) (fun A69 c69 hA691 hA692 => ?_)
   refine zE ?_
   refine TX.held (fun w1 hw => hw.pick [3, 4] (by decide) rfl) ?_
   refine TH.only' 12 rfl (by kernel_rfl) rfl ?_
   refine TL.appendT (k := 0) rfl rfl rfl rfl Tryz.underlying24 brxel24 rfl rfl rfl (fun w1 hw => ⟨_, (Reads.tailF en_cel (hr.up hw.bel) (by omega) (by omega))⟩) (flat_one en_cel _) (by show _ * 40 ≤ _; omega) (k + 1 + (es.length - k)) (rfl) (flat En.cells (((es.take k) ++ [x]) ++ (es.drop k))) ((flat_app _ _).symm) (fun A74 c74 hA741 hA742 => ?_)
   refine zE ?_
   refine TX.he (fun w1 hw => hw.pick [3, 4] (by decide) rfl) fun hS => ?_
   refine TH.t 13 rfl (gives_build (v := .agg #[.slice A74 (k + 1 + (es.length - k)) c74]) rfl rfl (fun w => brxbld26_67803 _ _ _ w)) hS ?_
   refine TH.only' 14 rfl (by kernel_rfl) rfl ?_
   refine TL.pstore (k := 2) (vs := [.slice A74 (k + 1 + (es.length - k)) c74]) rfl rfl rfl rfl rfl rfl rfl bresz26 dntone_s (by show 1 ≤ 1; decide) (L' := [.row (.slice A74 (k + 1 + (es.length - k)) c74) 102 5 (k + 1 + (es.length - k)) (flat En.cells (((es.take k) ++ [x]) ++ (es.drop k))), .row (.slice (some ⟨g68, 0, none⟩) 1 1) 102 5 1 (flat En.cells [x]), .blk g4 26 [.slice A74 (k + 1 + (es.length - k)) c74], .blk g3 102 x.cells, .blk g2 26 [.slice A0 es.length c0]]) rfl ?_
   refine zE ?_
   refine TX.he (fun w1 hw => hw.pick [3, 4] (by decide) rfl) fun hS => ?_
   refine TH.t 15 rfl (gives_assign rfl rfl) hS ?_
   refine TH.done (by kernel_rfl) ?_
   refine zT (zr ?_)
   have hle : (((es.take k) ++ [x]) ++ (es.drop k)).length = k + 1 + (es.length - k) := by simp only [List.length_append, List.length_take, List.length_drop, List.length_cons, List.length_nil]; omega
   have hva : validR (((es.take k) ++ [x]) ++ (es.drop k)) = true := ins_valid h10 (by rw [← rvalidE_eq hx]; exact h14) (by omega) hK.1 (fun z hz => hK.2.1 k (Nat.le_refl _) (by have := (List.getElem?_eq_some_iff.1 hz).1; omega) z hz) (fun j z hz => hK.2.2 j (by have := (List.getElem?_eq_some_iff.1 hz).1; omega) z hz)
   exact ret_cell2 (k := 2) (v := .int .i64 0) Tryz.results64 rfl rfl rfl Tryz.underlying26 rfl rfl (fun w1 hw => ⟨⟨((A74, c74), (((es.take k) ++ [x]) ++ (es.drop k), 0)), fun _ => ⟨fun z h => mem_ins h, hva⟩, by dsimp only; omega, by dsimp only; omega, hA742⟩, by dsimp only; rw [hle], by dsimp only; rw [hle]; exact hw.pick [0] (by decide) rfl⟩)
  refine TL.rn 2 rfl (zET (zc (zSG ?_)))
  refine TL.val rfl rfl rfl (gives_build (v := .agg #[.slice none 0 0]) rfl rfl (fun w => aawbld26_530  w)) ?_
  refine TL.pstore (k := 0) (vs := [.slice none 0 0]) rfl rfl rfl rfl rfl rfl rfl bresz26 dntone_s (by show 1 ≤ 1; decide) (L' := [.blk g4 26 [.slice none 0 0], .blk g3 102 x.cells, .blk g2 26 [.slice A0 es.length c0]]) rfl ?_
  refine TL.as_ ?_
  refine zET (zr (zR ?_))
  exact ret_cell2 (k := 0) (v := .int .i64 1) Tryz.results64 rfl rfl rfl Tryz.underlying26 rfl rfl (fun w1 hw => ⟨⟨((none, 0), ([], 1)), fun h => absurd h (by decide), Nat.zero_le _, Nat.le_refl _, Nat.zero_le _⟩, rfl, (hw.pick [] (by decide) rfl).nilrow _ _⟩)
 refine TL.rn 6 rfl (zET (zc (zSG ?_)))
 refine TL.val rfl rfl rfl (gives_build (v := .agg #[.slice none 0 0]) rfl rfl (fun w => aawbld26_530  w)) ?_
 refine TL.pstore (k := 0) (vs := [.slice none 0 0]) rfl rfl rfl rfl rfl rfl rfl bresz26 dntone_s (by show 1 ≤ 1; decide) (L' := [.blk g4 26 [.slice none 0 0], .blk g3 102 x.cells, .blk g2 26 [.slice A0 es.length c0]]) rfl ?_
 refine TL.as_ ?_
 refine zET (zr (zR ?_))
 exact ret_cell2 (k := 0) (v := .int .i64 1) Tryz.results64 rfl rfl rfl Tryz.underlying26 rfl rfl (fun w1 hw => ⟨⟨((none, 0), ([], 1)), fun h => absurd h (by decide), Nat.zero_le _, Nat.le_refl _, Nat.zero_le _⟩, rfl, (hw.pick [] (by decide) rfl).nilrow _ _⟩)
theorem registryX_cod (cb : Nat) (w : World) (hC : Cod w cb) (m : Nat) (hm : m ≤ 100) :
  Calls Tryz.prog 19 #[.pointer (some ⟨cb, 0, none⟩), .int .i64 ((m : Nat) : Int)] w fun e w' => ∃ x : {y : (Option Addr × Nat) × List En // ((∀ e ∈ y.2, EnG e) ∧ validR y.2 = true) ∧ y.2.length ≤ m ∧ y.2.length ≤ y.1.2 ∧ y.1.2 ≤ maxLen}, e = .returned (.agg #[.slice x.1.1.1 x.1.2.length x.1.1.2]) ∧ Codr (fun w => Cod w cb) cb w ([.row (.slice x.1.1.1 x.1.2.length x.1.1.2) 102 5 x.1.2.length (flat En.cells x.1.2)]) w' := by
 refine begin_ (vs := [.pointer (some ⟨cb, 0, none⟩), .int .i64 ((m : Nat) : Int)]) (I := Pm ⟨w, cb⟩ (.abs cb (fun w => Cod w cb) :: oths cb w)) Tryz.func19 rfl rfl rfl ?_ (Pm.codes hC (cod_cells hC) (cod_stab cb))
 refine zSG ?_
 refine TL.pnew rfl rfl rfl (exec_alloc (cs := [.slice none 0 0]) rfl brxzv26 rfl) (fun g4 => ?_)
 refine zET (zSG ?_)
 refine TL.pnew rfl rfl rfl (exec_alloc (cs := [.slice none 0 0]) rfl brxzv26 rfl) (fun g5 => ?_)
 refine zET (zS (zSG (TL.rn 2 rfl (TL.v (gD ((m + 1 : Nat) : Int)) ?_))))
 refine TL.pcallCod (k := 2) (α := {q9 : Nat // q9 ≤ 65535 ∧ (1 ≤ (((m + 1 : Nat) : Int) : Int) → (q9 : Int) < ((m + 1 : Nat) : Int))}) (fun q9 => .int .i64 ((q9.1 : Nat) : Int)) (fun q9 => []) rfl rfl rfl rfl rfl Tryz.func21 (by decide) rfl rfl (fun w1 hw hC1 => next_cod cb w1 ((m + 1 : Nat) : Int) hC1) ?_
 rintro ⟨k0, hk01, hk02⟩
 dsimp only [List.cons_append, List.nil_append]
 refine TL.as_ ?_
 refine zET (zB (TC.nilrow 102 5 ?_))
 refine TC.loop_ (α := {y : Nat × (Option Addr × Nat) × List En // y.1 + y.2.2.length ≤ m ∧ ((∀ e ∈ y.2.2, EnG e) ∧ validR y.2.2 = true) ∧ y.2.2.length ≤ y.2.1.2 ∧ y.2.1.2 ≤ maxLen}) (fun y => [(0, .pointer (some ⟨cb, 0, none⟩)), (4, .pointer (some ⟨g4, 0, none⟩)), (5, .pointer (some ⟨g5, 0, none⟩)), (6, .int .i64 ((y.1.1 : Nat) : Int))]) (fun y => Pm ⟨w, cb⟩ ([.row (.slice y.1.2.1.1 y.1.2.2.length y.1.2.1.2) 102 5 y.1.2.2.length (flat En.cells y.1.2.2), .blk g5 26 [.slice y.1.2.1.1 y.1.2.2.length y.1.2.1.2], .blk g4 26 [.slice none 0 0], .abs cb (fun w => Cod w cb)] ++ oths cb w)) (fun y => y.1.1) (⟨(k0, (none, 0), []), by dsimp only [List.length_nil]; omega, ⟨fun e he => absurd he List.not_mem_nil, rfl⟩, Nat.le_refl _, Nat.zero_le _⟩) ⟨rfl, rfl, rfl, rfl, trivial⟩ (fun w1 hw => hw) ?_
 rintro ⟨⟨k, ⟨A, c⟩, es⟩, hk, hEn, hoc, hom⟩
 dsimp only at hk hEn hoc hom ⊢
 refine zS (zSG (TL.mv ?_))
 refine TL.sp bin_gtr (fun q14 => ?_) (fun q14 => ?_)
 ·refine zET (zc (zk (zT (zS (zB ?_)))))
  refine TC.join (α := {y : Nat × (Option Addr × Nat) × List En × Int // (y.2.2.2 = 0 → ((∀ e ∈ y.2.2.1, EnG e) ∧ validR y.2.2.1 = true) ∧ y.2.2.1.length ≤ es.length + 1) ∧ y.2.2.1.length ≤ y.2.1.2 ∧ y.2.1.2 ≤ maxLen}) (fun y => [(0, .pointer (some ⟨cb, 0, none⟩)), (4, .pointer (some ⟨g4, 0, none⟩)), (5, .pointer (some ⟨g5, 0, none⟩)), (6, .int .i64 ((k : Nat) : Int)), (7, .pointer (some ⟨y.1.1, 0, none⟩)), (8, .int .i64 y.1.2.2.2)]) (fun y => Pm ⟨w, cb⟩ ([.row (.slice y.1.2.1.1 y.1.2.2.1.length y.1.2.1.2) 102 5 y.1.2.2.1.length (flat En.cells y.1.2.2.1), .blk y.1.1 26 [.slice y.1.2.1.1 y.1.2.2.1.length y.1.2.1.2], .row (.slice A es.length c) 102 5 es.length (flat En.cells es), .blk g5 26 [.slice A es.length c], .blk g4 26 [.slice none 0 0], .abs cb (fun w => Cod w cb)] ++ oths cb w)) ?_ ?_
  ·refine TC.held (ls := #[Ff,Ff,Ff,Ff,Ff,Ff,Ff,Ff,Ff,Ff]) (Pm ⟨w, cb⟩ [.blk g5 26 [.slice A es.length c]]) (by kernel_rfl) rfl rfl (fun w hw => hw.drawn _) ?_
   refine TH.tk 0 rfl rfl rfl (gV 0 (.agg #[.slice A es.length c]) breag26 bresz26) (fun w1 hw => hw.pick [1] (by decide) rfl) ?_
   refine TH.tk 1 rfl rfl rfl (gives_move rfl rfl) (fun w1 hw => hw.pick [1] (by decide) rfl) ?_
   refine TH.two' (listed1 := #[Tt,Tt,Tt,Ff,Ff,Ff,Ff,Ff,Ff,Ff]) (listed2 := #[Tt,Tt,Ff,Ff,Ff,Ff,Ff,Tt,Ff,Ff]) 2 7 rfl rfl (by kernel_rfl) rfl rfl ?_ ?_
   ·refine TL.pcallCod (k := 3) (α := {y : En // EnG y}) (fun x => .agg (x.1.cells).toArray) (fun x => []) rfl rfl rfl rfl rfl Tryz.func65 (by decide) rfl rfl (fun w1 hw hC1 => entry_cod cb w1 hC1) ?_
    rintro ⟨x20, hx20⟩
    dsimp only [List.cons_append, List.nil_append]
    refine zE ?_
    refine TX.held (fun w1 hw => hw.pick [1] (by decide) rfl) ?_
    refine TH.two' (listed1 := #[Tt,Tt,Tt,Tt,Ff,Ff,Ff,Ff,Ff,Ff]) (listed2 := #[Tt,Tt,Tt,Ff,Ff,Ff,Ff,Tt,Ff,Ff]) 3 7 rfl rfl (by kernel_rfl) rfl rfl ?_ ?_
    ·refine TL.pcallPm (α := {y : (Option Addr × Nat) × List En × Int // (y.2.2 = 0 → (∀ z ∈ y.2.1, z ∈ es ∨ z = x20) ∧ validR y.2.1 = true) ∧ y.2.1.length ≤ es.length + 1 ∧ y.2.1.length ≤ y.1.2 ∧ y.1.2 ≤ maxLen}) (fun y => .tuple #[.agg #[.slice y.1.1.1 y.1.2.1.length y.1.1.2], .int .i64 y.1.2.2]) (fun y => [.row (.slice y.1.1.1 y.1.2.1.length y.1.1.2) 102 5 y.1.2.1.length (flat En.cells y.1.2.1)]) rfl rfl rfl rfl rfl Tryz.func64 (by decide) rfl (fun w1 hw => raddX_any A c es x20 hx20.ok w1 (pm_rd hw (k := 0) rfl) (by omega) hoc (fun z hz => (hEn.1 z hz).ok)) ?_
     rintro ⟨⟨⟨Ar, cr⟩, rs, er⟩, hrs, hrl, hrc, hrd⟩
     dsimp only [List.cons_append, List.nil_append] at hrs hrl hrc hrd ⊢
     refine zE ?_
     refine TX.he (fun w1 hw => hw.pick [2] (by decide) rfl) fun hS => ?_
     refine TH.t 4 rfl (gives_move rfl rfl) hS ?_
     refine TH.t 5 rfl (gives_extract rfl rfl rfl) hS ?_
     refine TH.t 6 rfl (gives_extract rfl rfl rfl) hS ?_
     refine TH.only' 7 rfl (by kernel_rfl) rfl ?_
     refine TL.pnew rfl rfl rfl (exec_alloc (cs := [.slice none 0 0]) rfl brxzv26 rfl) (fun g7 => ?_)
     refine zE ?_
     refine TX.held (fun w1 hw => hw.pick [3] (by decide) rfl) ?_
     refine TH.only' 8 rfl (by kernel_rfl) rfl ?_
     refine TL.pstore (k := 0) (vs := [.slice Ar rs.length cr]) rfl rfl rfl rfl rfl rfl rfl bresz26 dntone_s (by show 1 ≤ 1; decide) rfl ?_
     refine zE ?_
     refine TX.he (fun w1 hw => hw.pick [3] (by decide) rfl) fun hS => ?_
     refine TH.t 9 rfl (gives_assign rfl rfl) hS ?_
     refine TH.done (by kernel_rfl) ?_
     exact TX.joined (⟨(g7, (Ar, cr), rs, er), fun h0 => ⟨⟨fun e he => ((hrs h0).1 e he).elim (hEn.1 e) (fun h1 => by rw [h1]; exact hx20), (hrs h0).2⟩, hrl⟩, hrc, hrd⟩) (⟨rfl, rfl, rfl, rfl, rfl, rfl, trivial⟩) (fun w1 hw => (show Pm ⟨w, cb⟩ ([.row (.slice Ar rs.length cr) 102 5 rs.length (flat En.cells rs), .blk g7 26 [.slice Ar rs.length cr], .row (.slice A es.length c) 102 5 es.length (flat En.cells es), .blk g5 26 [.slice A es.length c], .blk g4 26 [.slice none 0 0], .abs cb (fun w => Cod w cb)] ++ oths cb w) w1 from hw.pickT 6 [1, 0, 2, 3, 4, 5] (by decide) (by decide) rfl rfl))
    refine TL.pnew rfl rfl rfl (exec_alloc (cs := [.slice none 0 0]) rfl brxzv26 rfl) (fun g7 => ?_)
    refine zE ?_
    refine TX.held (fun w1 hw => hw.pick [2] (by decide) rfl) ?_
    refine TH.only' 3 rfl (by kernel_rfl) rfl ?_
    refine TL.pcallPm (α := {y : (Option Addr × Nat) × List En × Int // (y.2.2 = 0 → (∀ z ∈ y.2.1, z ∈ es ∨ z = x20) ∧ validR y.2.1 = true) ∧ y.2.1.length ≤ es.length + 1 ∧ y.2.1.length ≤ y.1.2 ∧ y.1.2 ≤ maxLen}) (fun y => .tuple #[.agg #[.slice y.1.1.1 y.1.2.1.length y.1.1.2], .int .i64 y.1.2.2]) (fun y => [.row (.slice y.1.1.1 y.1.2.1.length y.1.1.2) 102 5 y.1.2.1.length (flat En.cells y.1.2.1)]) rfl rfl rfl rfl rfl Tryz.func64 (by decide) rfl (fun w1 hw => raddX_any A c es x20 hx20.ok w1 (pm_rd hw (k := 1) rfl) (by omega) hoc (fun z hz => (hEn.1 z hz).ok)) ?_
    rintro ⟨⟨⟨Ar, cr⟩, rs, er⟩, hrs, hrl, hrc, hrd⟩
    dsimp only [List.cons_append, List.nil_append] at hrs hrl hrc hrd ⊢
    refine zE ?_
    refine TX.he (fun w1 hw => hw.pick [3] (by decide) rfl) fun hS => ?_
    refine TH.t 4 rfl (gives_move rfl rfl) hS ?_
    refine TH.t 5 rfl (gives_extract rfl rfl rfl) hS ?_
    refine TH.t 6 rfl (gives_extract rfl rfl rfl) hS ?_
    refine TH.only' 8 rfl (by kernel_rfl) rfl ?_
    refine TL.pstore (k := 1) (vs := [.slice Ar rs.length cr]) rfl rfl rfl rfl rfl rfl rfl bresz26 dntone_s (by show 1 ≤ 1; decide) rfl ?_
    refine zE ?_
    refine TX.he (fun w1 hw => hw.pick [3] (by decide) rfl) fun hS => ?_
    refine TH.t 9 rfl (gives_assign rfl rfl) hS ?_
    refine TH.done (by kernel_rfl) ?_
    exact TX.joined (⟨(g7, (Ar, cr), rs, er), fun h0 => ⟨⟨fun e he => ((hrs h0).1 e he).elim (hEn.1 e) (fun h1 => by rw [h1]; exact hx20), (hrs h0).2⟩, hrl⟩, hrc, hrd⟩) (⟨rfl, rfl, rfl, rfl, rfl, rfl, trivial⟩) (fun w1 hw => hw)
   refine TL.pnew rfl rfl rfl (exec_alloc (cs := [.slice none 0 0]) rfl brxzv26 rfl) (fun g7 => ?_)
   refine zE ?_
   refine TX.held (fun w1 hw => hw.pick [2] (by decide) rfl) ?_
   refine TH.only' 2 rfl (by kernel_rfl) rfl ?_
   refine TL.pcallCod (k := 4) (α := {y : En // EnG y}) (fun x => .agg (x.1.cells).toArray) (fun x => []) rfl rfl rfl rfl rfl Tryz.func65 (by decide) rfl rfl (fun w1 hw hC1 => entry_cod cb w1 hC1) ?_
   rintro ⟨x20, hx20⟩
   dsimp only [List.cons_append, List.nil_append]
   refine zE ?_
   refine TX.held (fun w1 hw => hw.pick [2] (by decide) rfl) ?_
   refine TH.only' 3 rfl (by kernel_rfl) rfl ?_
   refine TL.pcallPm (α := {y : (Option Addr × Nat) × List En × Int // (y.2.2 = 0 → (∀ z ∈ y.2.1, z ∈ es ∨ z = x20) ∧ validR y.2.1 = true) ∧ y.2.1.length ≤ es.length + 1 ∧ y.2.1.length ≤ y.1.2 ∧ y.1.2 ≤ maxLen}) (fun y => .tuple #[.agg #[.slice y.1.1.1 y.1.2.1.length y.1.1.2], .int .i64 y.1.2.2]) (fun y => [.row (.slice y.1.1.1 y.1.2.1.length y.1.1.2) 102 5 y.1.2.1.length (flat En.cells y.1.2.1)]) rfl rfl rfl rfl rfl Tryz.func64 (by decide) rfl (fun w1 hw => raddX_any A c es x20 hx20.ok w1 (pm_rd hw (k := 1) rfl) (by omega) hoc (fun z hz => (hEn.1 z hz).ok)) ?_
   rintro ⟨⟨⟨Ar, cr⟩, rs, er⟩, hrs, hrl, hrc, hrd⟩
   dsimp only [List.cons_append, List.nil_append] at hrs hrl hrc hrd ⊢
   refine zE ?_
   refine TX.he (fun w1 hw => hw.pick [3] (by decide) rfl) fun hS => ?_
   refine TH.t 4 rfl (gives_move rfl rfl) hS ?_
   refine TH.t 5 rfl (gives_extract rfl rfl rfl) hS ?_
   refine TH.t 6 rfl (gives_extract rfl rfl rfl) hS ?_
   refine TH.only' 8 rfl (by kernel_rfl) rfl ?_
   refine TL.pstore (k := 1) (vs := [.slice Ar rs.length cr]) rfl rfl rfl rfl rfl rfl rfl bresz26 dntone_s (by show 1 ≤ 1; decide) rfl ?_
   refine zE ?_
   refine TX.he (fun w1 hw => hw.pick [3] (by decide) rfl) fun hS => ?_
   refine TH.t 9 rfl (gives_assign rfl rfl) hS ?_
   refine TH.done (by kernel_rfl) ?_
   exact TX.joined (⟨(g7, (Ar, cr), rs, er), fun h0 => ⟨⟨fun e he => ((hrs h0).1 e he).elim (hEn.1 e) (fun h1 => by rw [h1]; exact hx20), (hrs h0).2⟩, hrl⟩, hrc, hrd⟩) (⟨rfl, rfl, rfl, rfl, rfl, rfl, trivial⟩) (fun w1 hw => hw)
  rintro ⟨⟨g7, ⟨Ar, cr⟩, rs, er⟩, hrs, hrc, hrd⟩
  dsimp only at hrs hrc hrd ⊢
  refine zSG (TL.mv ?_)
  refine TL.sp bin_eql (fun q25 => ?_) (fun q25 => ?_)
  ·refine zET (zc (zG (TL.v (gV 1 (.agg #[.slice Ar rs.length cr]) breag26 bresz26) ?_)))
   refine TL.pstore (k := 3) (vs := [.slice Ar rs.length cr]) rfl rfl rfl rfl rfl rfl rfl bresz26 dntone_s (by show 1 ≤ 1; decide) rfl ?_
   refine zE (zN (zT (zG (TL.mv ?_))))
   refine TL.val rfl rfl rfl (gives_bin rfl rfl rfl (fun w => bin_sub_ (r := ((k - 1 : Nat) : Int)) (by simp only [IntKind.wrap_i64]; omega) w)) ?_
   refine TL.as_ ?_
   refine zE ?_
   exact TX.round (⟨(k - 1, (Ar, cr), rs), by dsimp only; have := (hrs q25).2; omega, (hrs q25).1, hrc, hrd⟩) (by show k - 1 < k; omega) ⟨rfl, rfl, rfl, rfl, trivial⟩ (fun w1 hw => hw.sel (.cons_cons _ (.cons _ (.cons _ (.cons_cons _ (.cons_cons _ (.cons_cons _ (List.Sublist.refl _))))))))
  refine zET (zd (zk (zN (zT (zG (TL.mv ?_))))))
  refine TL.val rfl rfl rfl (gives_bin rfl rfl rfl (fun w => bin_sub_ (r := ((k - 1 : Nat) : Int)) (by simp only [IntKind.wrap_i64]; omega) w)) ?_
  refine TL.as_ ?_
  refine zE ?_
  exact TX.round (⟨(k - 1, (A, c), es), by dsimp only; omega, hEn, hoc, hom⟩) (by show k - 1 < k; omega) ⟨rfl, rfl, rfl, rfl, trivial⟩ (fun w1 hw => hw.sel (.cons _ (.cons _ (.cons_cons _ (.cons_cons _ (.cons_cons _ (.cons_cons _ (List.Sublist.refl _))))))))
 refine zET (zd (zx (zX (zX (zM (zT (zSG (TL.v (gV 1 (.agg #[.slice A es.length c]) breag26 bresz26) ?_))))))))
 refine TL.pstore (k := 2) (vs := [.slice A es.length c]) rfl rfl rfl rfl rfl rfl rfl bresz26 dntone_s (by show 1 ≤ 1; decide) rfl ?_
 refine zET (zr ?_)
 exact pm_ret_cell (k := 2) Tryz.results19 rfl rfl Tryz.underlying26 rfl rfl (fun w1 hw => ⟨⟨((A, c), es), hEn, by dsimp only; omega, hoc, hom⟩, rfl, Pm.codr [_] (hw.sel (.cons_cons _ (.cons _ (.cons _ (.cons_cons _ (List.Sublist.refl _)))))) rfl⟩)
section
variable {P : Program} {N : Fr} {Q : Exit → Act → World → Prop} {E : Env} {w0 : Base} {L : List Pc} {ops : Array Oper} {l : List Oper} {o : Oper}
theorem TL.appendF {d : Nat} {s x : Operand} {t u e e' : TypeId} {size bytes n c m cc g : Nat} {A : Option Addr} {olds news : List Value} (hg : o.guard = none) (hd : o.dst = some d) (hN : Nat.blt d N.n = true)
    (ho : o.op = .call { callee := .builtin .append, args := #[s, x], argTypes := #[t, u] }) (hu : P.underlying u = some (.slice e')) (hE : Elem P t e size bytes) (hs : ev E s = some (.slice (some ⟨g, 0, none⟩) n c)) (hx : ev E x = some (.slice A m cc))
    (hro : ∀ w, Pm w0 L w → ∃ B, Reads w B size (some ⟨g, 0, none⟩) n olds) (hr : ∀ w, Pm w0 L w → ∃ B, Reads w B size A m news) (hm : 0 < m) (hc : c < n + m) (hlim : (n + m) * bytes ≤ 140737488355328) (M : Nat) (hM : M = n + m) (res : List Value) (hres : olds ++ news = res)
    (h : ∀ A' c', M ≤ c' → c' ≤ maxLen → TL P N ops Q l ((d, .slice A' M c') :: E) (Pm w0 (.row (.slice A' M c') e size M res :: L))) : TL P N ops Q (o :: l) E (Pm w0 L) := by
  subst hM hres
  refine TL.run (α := { p : Option Addr × Nat // n + m ≤ p.2 ∧ p.2 ≤ maxLen }) (r := fun p => .slice p.1.1 (n + m) p.1.2) (I' := fun p => Pm w0 (.row (.slice p.1.1 (n + m) p.1.2) e size (n + m) (olds ++ news) :: L)) hg hd hN (fun a w ha hw => ?_) (fun p => h p.1.1 p.1.2 p.2.1 p.2.2)
  obtain ⟨i, z, hi, hz, hsz, hby, hzs⟩ := hE.info
  subst hsz hby
  obtain ⟨B1, h1, h2⟩ := hro w hw
  obtain ⟨B2, h3, h4⟩ := hr w hw
  obtain ⟨ad, rfl, _, h5⟩ := h4 hm
  have hmx : n + m ≤ maxLen := by
    have : n + m ≤ (n + m) * i.bytes := Nat.le_mul_of_pos_right _ hE.big
    unfold maxLen; omega
  have holds : ∀ j v, olds[j]? = some v → w.cell? ((⟨g, 0, none⟩ : Addr).add j) = some v := by
    intro j v hv
    rcases Nat.eq_zero_or_pos n with h0 | h0
    · subst h0
      have : olds = [] := List.eq_nil_of_length_eq_zero (by simpa using h1)
      rw [this] at hv; simp at hv
    · obtain ⟨ad, he, _, h6⟩ := h2 h0
      injection he with he
      subst he
      exact h6 j v hv
  have hrun := run_append_grow (P := P) w t o.type e i z hE.und hi hz ⟨g, 0, none⟩ n c olds h1 holds ad m cc news h3 h5 hc (by unfold maxLen at hmx; omega) (growslice_fits (by omega) hlim)
  rw [← append_types hE.und hu] at hrun
  have hge := grownCap_ge w (n + m) c e
  have hcm := grownCap_le_maxLen w (n + m) c e hmx
  refine ⟨⟨(some ⟨w.heap.size, 0, none⟩, grownCap w (n + m) c e), hge, hcm⟩, _, ?_, hw.add (w' := (w.drew.alloc (.cells (olds.toArray ++ news.toArray ++ Builtin.zeroCells z.cells (grownCap w (n + m) c e - (n + m))) e))) ?_ ⟨?_, .inr ⟨w.heap.size, _, _, rfl, Nat.le_refl _, heap_alloc_new w.drew _, hge, hcm, ?_, ?_⟩⟩⟩
  · unfold execOp; rw [ho]
    simp only [resolve, invoke, builtin, Sem.run_bind, Sem.run_pure, Result.andThen_ok, List.map_toArray, List.map_cons, List.map_nil, ha.eval hs, ha.eval hx, hrun]
  · have hb : Below w.heap.size w w.drew := ⟨rfl, rfl, rfl, Nat.le_refl _, fun _ _ => rfl⟩
    exact hb.alloc (Nat.le_refl _) _
  · rw [List.length_append, h1, h3, Nat.add_mul]
  · simp only [Array.size_append, List.size_toArray, size_zeroCells, hzs, h1, h3, ← Nat.add_mul]
    congr 1
    omega
  · have hlen : (olds ++ news).length = (n + m) * i.size := by rw [List.length_append, h1, h3, Nat.add_mul]
    simp only [Array.toList_append, List.append_assoc]
    rw [← List.append_assoc, ← hlen]
    exact List.take_left
end
section
variable {P : Program} {N : Fr} {Q : Exit → Act → World → Prop} {E : Env} {w0 : Base} {L : List Pc} {ops : Array Oper} {l : List Oper} {o : Oper}
theorem TL.appendIn {d k : Nat} {s x : Operand} {t e : TypeId} {size bytes n c m cc : Nat} {A0 A : Option Addr} {olds news : List Value} (hg : o.guard = none) (hd : o.dst = some d) (hN : Nat.blt d N.n = true)
    (ho : o.op = .call { callee := .builtin .append, args := #[s, x], argTypes := #[t, t] }) (hE : Elem P t e size bytes) (hs : ev E s = some (.slice A0 n c)) (hx : ev E x = some (.slice A m cc))
    (hk : L[k]? = some (.row (.slice A0 n c) e size n olds)) (hr : ∀ w, Pm w0 L w → ∃ B, Reads w B size A m news) (h1 : ∀ u ∈ news, u.oneCell' = true) (hlim : (n + m) * bytes ≤ 140737488355328) (hm : 0 < m) (hroom : n + m ≤ c) (M : Nat) (hM : M = n + m) (res : List Value) (hres : olds ++ news = res)
    (h : TL P N ops Q l ((d, .slice A0 M c) :: E) (Pm w0 (L.set k (.row (.slice A0 M c) e size M res)))) : TL P N ops Q (o :: l) E (Pm w0 L) := by
  subst hM hres
  refine TL.run (α := Unit) (r := fun _ => .slice A0 (n + m) c) (I' := fun _ => Pm w0 (L.set k (.row (.slice A0 (n + m) c) e size (n + m) (olds ++ news)))) hg hd hN (fun a w ha hw => ?_) (fun _ => h)
  obtain ⟨i, z, hi, hz, hsz, hby, hzs⟩ := hE.info
  obtain ⟨B, hrd⟩ := hr w hw
  have hmx : n + m ≤ maxLen := by
    have : n + m ≤ (n + m) * bytes := Nat.le_mul_of_pos_right _ hE.big
    unfold maxLen; omega
  obtain ⟨v', w', hrun, hown', hgr, hkey⟩ := run_append_any (P := P) w w0.b t o.type e i z size bytes hE.und hi hz hsz hby hzs hE.pos _ n olds (hw.at_ hk) B A m cc news hrd h1 hmx hlim hw.base
  obtain ⟨ad, rfl, hb, h5⟩ := hrd.2 hm
  have hsrc : Src P i.size t (.slice (some ad) m cc) m news w := by
    rw [hsz]
    exact Src.ofSlice (P := P) (w := w) hE.und ad m cc news hrd.1 h5 h1
  have hv := run_append_cap_room (P := P) w t t o.type e i hE.und hi A0 n c _ m news hsrc hroom hrun
  subst hv
  refine ⟨(), w', ?_, hw.turn hk hgr hown' (fun g hg => .inl ?_) (fun k o e => ?_)⟩
  · unfold execOp; rw [ho]
    simp only [resolve, invoke, builtin, Sem.run_bind, Sem.run_pure, Result.andThen_ok, List.map_toArray, List.map_cons, List.map_nil, ha.eval hs, ha.eval hx, hrun]
  · cases A0 with
    | none => cases hg
    | some a => exact hg
  · cases e
theorem TL.appendNw {d k : Nat} {s x : Operand} {t e : TypeId} {size bytes n c m cc : Nat} {A0 A : Option Addr} {olds news : List Value} (hg : o.guard = none) (hd : o.dst = some d) (hN : Nat.blt d N.n = true)
    (ho : o.op = .call { callee := .builtin .append, args := #[s, x], argTypes := #[t, t] }) (hE : Elem P t e size bytes) (hs : ev E s = some (.slice A0 n c)) (hx : ev E x = some (.slice A m cc))
    (hk : L[k]? = some (.row (.slice A0 n c) e size n olds)) (hr : ∀ w, Pm w0 L w → ∃ B, Reads w B size A m news) (h1 : ∀ u ∈ news, u.oneCell' = true) (hlim : (n + m) * bytes ≤ 140737488355328) (hm : 0 < m) (hno : c < n + m) (M : Nat) (hM : M = n + m) (res : List Value) (hres : olds ++ news = res)
    (h : ∀ A' c', M ≤ c' → c' ≤ maxLen → TL P N ops Q l ((d, .slice A' M c') :: E) (Pm w0 (.row (.slice A' M c') e size M res :: L))) : TL P N ops Q (o :: l) E (Pm w0 L) := by
  refine TL.fact (p := (A0 = none ∧ n = 0 ∧ c = 0 ∧ olds = []) ∨ ∃ g, A0 = some ⟨g, 0, none⟩) (fun w hw => ?_) ?_
  · have h2 : w.ownsRow w0.b e size (.slice A0 n c) n olds := hw.at_ hk
    rcases h2.2 with ⟨h3, h4⟩ | ⟨g, cap, cur, h3, _⟩
    · injection h3 with h5 h6 h7
      exact .inl ⟨h5, h6, h7, List.eq_nil_of_length_eq_zero (by rw [h2.1, h4, Nat.zero_mul])⟩
    · injection h3 with h5 h6 h7
      exact .inr ⟨g, h5⟩
  · rintro (⟨rfl, rfl, rfl, rfl⟩ | ⟨g, rfl⟩)
    · refine TL.nilrow e size ?_
      refine TL.append (k := 0) hg hd hN ho hE hs hx rfl (fun w hw => hr w (hw.sel (List.sublist_cons_self _ _))) h1 hlim M hM (fun A' c' h3 h4 => ?_)
      rw [hres]
      exact h A' c' h3 h4
    · exact TL.appendF hg hd hN ho hE.und hE hs hx (fun w hw => pm_reads hw hk) hr hm hno hlim M hM res hres h
end
set_option maxRecDepth 20000
theorem mem_snoc {l m : List Rs} {x : Rs} (h : ∀ r ∈ l, r ∈ m) (hx : x ∈ m) : ∀ r ∈ l ++ [x], r ∈ m := fun r hr => by
 rcases List.mem_append.1 hr with h1 | h1
 ·exact h r h1
 rw [List.mem_singleton.1 h1]; exact hx
theorem anomalyMonotone_walk (A0 : Option Addr) (n0 c0 : Nat) (l0 : List Int) (w : World) (hb0 : Byt w w.heap.size A0 n0 l0) (hc0 : n0 ≤ c0) (hm0 : c0 ≤ maxLen) :
  Calls Tryz.prog 5 #[.slice A0 n0 c0] w fun e w' => e = .returned (.bool true) ∧ Below w.heap.size w w' := by
 have hn0 : (n0 : Int) ≤ 9223372036854775807 := by unfold maxLen at hm0; omega
 refine begin_ (vs := [.slice A0 n0 c0]) Tryz.func5 rfl rfl rfl ?_ (Pm.start w)
 refine zSG (TL.as_ ?_)
 refine zET (zS (zSG ?_))
 refine TL.pcall1 (r := .bool true) rfl rfl rfl rfl rfl Tryz.func15 (by decide) rfl (fun w1 hw => awake_true w1) ?_
 refine TL.val rfl rfl rfl (gives_boolnot rfl rfl) ?_
 refine zET (zd (zk (zT (zSG (TL.mv ?_)))))
 refine TL.callNew (I := Pm w []) (p := fun cb w => Cod w cb) rfl rfl rfl rfl rfl Tryz.func16 (by decide) rfl (fun w1 hw => (roll_any A0 n0 c0 l0 w1 ((hb0.below hw.bel).more hw.bel.size) hc0 hn0).mono fun e w2 ⟨h1, h2, h3⟩ => ⟨h1, h2, cod_cells h2, h3⟩) cod_stab (fun wn hwn => ?_)
 have hwb := hwn.bel
 refine TL.as_ ?_
 refine zET (zSG (TL.rn 2 rfl ?_))
 refine TL.pcallCod (k := 0) (α := Bool) (fun x => .bool x) (fun x => []) rfl rfl rfl rfl rfl Tryz.func18 (by decide) rfl rfl (fun w1 hw hC1 => dbool_cod wn.heap.size w1 hC1 3 (by decide)) ?_
 rintro b0
 dsimp only [List.cons_append, List.nil_append]
 refine TL.val rfl rfl rfl (gives_boolnot (b := b0) rfl rfl) ?_
 refine TL.pcallCod (k := 0) (α := {y : (Option Addr × Nat) × List Rs // DrawnOk 24 y.2 ∧ y.2.length ≤ y.1.2 ∧ y.1.2 ≤ maxLen}) (fun x => .slice x.1.1.1 x.1.2.length x.1.1.2) (fun x => [.row (.slice x.1.1.1 x.1.2.length x.1.1.2) 65 17 x.1.2.length (flat Rs.cells x.1.2)]) rfl rfl rfl rfl rfl Tryz.func17 (by decide) rfl rfl (fun w1 hw hC1 => results_cod wn.heap.size w1 hC1 24 (!b0) (by decide)) ?_
 rintro ⟨⟨⟨Axs, cxs⟩, xs⟩, hxs, hxsc, hxsm⟩
 dsimp only [List.cons_append, List.nil_append]
 dsimp only at hxs hxsc hxsm ⊢
 have hxslen := hxs.2.2
 have hxsok : ∀ r ∈ xs, r.Ok := fun r hr => (hxs.1 r hr).2.1
 have hxsv : ∀ r ∈ xs, vldRs r = true := fun r hr => (hxs.1 r hr).1
 refine TL.mv ?_
 refine TL.pcallCod (k := 1) (α := {y : (Option Addr × Nat) × List En // ((∀ e ∈ y.2, EnG e) ∧ validR y.2 = true) ∧ y.2.length ≤ 8 ∧ y.2.length ≤ y.1.2 ∧ y.1.2 ≤ maxLen}) (fun x => .agg #[.slice x.1.1.1 x.1.2.length x.1.1.2]) (fun x => [.row (.slice x.1.1.1 x.1.2.length x.1.1.2) 102 5 x.1.2.length (flat En.cells x.1.2)]) rfl rfl rfl rfl rfl Tryz.func19 (by decide) rfl rfl (fun w1 hw hC1 => registryX_cod wn.heap.size w1 hC1 8 (by decide)) ?_
 rintro ⟨⟨⟨Areg, creg⟩, reg⟩, hreg, hregl, hregc, hregm⟩
 dsimp only [List.cons_append, List.nil_append]
 dsimp only at hreg hregl hregc hregm ⊢
 have hregok : ∀ z ∈ reg, z.Ok := fun z hz => (hreg.1 z hz).ok
 refine TL.mv ?_
 refine TL.pcallCod (k := 2) (α := {u : Ru // RuG u}) (fun x => .agg (x.1.cells).toArray) (fun x => []) rfl rfl rfl rfl rfl Tryz.func20 (by decide) rfl rfl (fun w1 hw hC1 => drule_cod wn.heap.size w1 hC1) ?_
 rintro ⟨ru, hru⟩
 dsimp only [List.cons_append, List.nil_append]
 refine TL.pnew rfl rfl rfl (exec_alloc (cs := [.slice none 0 0]) rfl brxzv26 rfl) (fun g5 => ?_)
 refine TL.pnew rfl rfl rfl (exec_alloc (cs := [.int .i64 0, .int .i64 0, .int .i64 0]) rfl adrzv28 rfl) (fun g6 => ?_)
 refine TL.as_ ?_
 refine TL.pstore (k := 1) (vs := [.slice Areg reg.length creg]) rfl rfl rfl rfl rfl rfl rfl bresz26 dntone_s (by show 1 ≤ 1; decide) rfl ?_
 refine TL.pstore (k := 0) (vs := ru.cells) rfl rfl rfl rfl rfl rfl rfl aprsz28 (by first | exact idn_cel.one _ | exact ru_cel.one _) (by show 3 ≤ 3; decide) (L' := [.blk g6 28 ru.cells, .blk g5 26 [.slice Areg reg.length creg], .row (.slice Areg reg.length creg) 102 5 reg.length (flat En.cells reg), .row (.slice Axs xs.length cxs) 65 17 xs.length (flat Rs.cells xs), .abs wn.heap.size (fun w => Cod w wn.heap.size)]) rfl ?_
 refine zET (zSG (TL.as_ ?_))
 refine zET (zS (zSG (TL.mv ?_)))
 refine TL.v (gN Tryz.underlying23) ?_
 refine TL.mv ?_
 refine zET (zB (TC.nilrow 65 17 ?_))
 refine TC.loop_ (α := {y : Nat × (Option Addr × Nat) × List Rs // y.1 ≤ xs.length ∧ (∀ r ∈ y.2.2, r ∈ xs) ∧ y.2.2.length ≤ y.1 ∧ y.2.2.length ≤ y.2.1.2 ∧ y.2.1.2 ≤ maxLen}) (fun y => [(3, .pointer (some ⟨wn.heap.size, 0, none⟩)), (4, .slice Axs xs.length cxs), (5, .pointer (some ⟨g5, 0, none⟩)), (6, .pointer (some ⟨g6, 0, none⟩)), (29, .slice Axs xs.length cxs), (30, .int .i64 (xs.length : Nat)), (31, .int .i64 ((y.1.1 : Nat) : Int)), (7, .slice y.1.2.1.1 y.1.2.2.length y.1.2.1.2)]) (fun y => Pm wn [.row (.slice y.1.2.1.1 y.1.2.2.length y.1.2.1.2) 65 17 y.1.2.2.length (flat Rs.cells y.1.2.2), .blk g6 28 ru.cells, .blk g5 26 [.slice Areg reg.length creg], .row (.slice Areg reg.length creg) 102 5 reg.length (flat En.cells reg), .row (.slice Axs xs.length cxs) 65 17 xs.length (flat Rs.cells xs), .abs wn.heap.size (fun w => Cod w wn.heap.size)]) (fun y => xs.length - y.1.1) (⟨(0, (none, 0), []), Nat.zero_le _, fun r hr => absurd hr List.not_mem_nil, Nat.le_refl _, Nat.le_refl _, Nat.zero_le _⟩) ⟨rfl, rfl, rfl, rfl, rfl, rfl, rfl, rfl, trivial⟩ (fun w1 hw => hw) ?_
 rintro ⟨⟨i, ⟨Ap, cp⟩, pt⟩, hi, hpt, hpl, hpc, hpm⟩
 dsimp only at hi hpt hpl hpc hpm ⊢
 refine zSG ?_
 refine TL.sp bin_lss (fun q32 => ?_) (fun q32 => ?_)
 ·refine zET (zS (zc (zk (zT (zS (zB (zSG ?_)))))))
  refine TL.fact (p := ∃ g, Axs = some ⟨g, 0, none⟩) (fun w1 hw => rowA hw (k := 4) rfl (by omega)) ?_
  rintro ⟨g_Axs, rfl⟩
  have hi33 : i < xs.length := by omega
  obtain ⟨x33, hx33⟩ := ex_at hi33
  refine TL.val rfl rfl rfl (gA (i := i) Tryz.underlying23 prssz65 rfl rfl rfl rfl rfl (by omega)) ?_
  refine TL.val rfl rfl rfl (gives_loadR (off := 0 + i * 17) rfl rfl prsag65 prssz65 (rs_cel.len x33) (fun w1 hw j9 u9 h9 => flat_row rs_cel hw (q := 4) rfl hx33 j9 u9 h9)) ?_
  refine TL.pnew rfl rfl rfl (exec_alloc (cs := [.int .i64 0, .int .i64 0, .int .i64 0, .int .i64 0, .int .u32 0, .int .i64 0, .int .i64 0, .int .i64 0, .bool false, .bool false, .int .i64 0, .int .u32 0, .int .i64 0, .int .i64 0, .int .i64 0, .int .i64 0, .int .i64 0]) rfl arpzv65 rfl) (fun g9 => ?_)
  refine TL.pstore (k := 0) (vs := x33.cells) rfl rfl rfl rfl rfl rfl rfl prssz65 (rs_cel.one _) (by show 17 ≤ 17; decide) (L' := [.blk g9 65 x33.cells, .row (.slice Ap pt.length cp) 65 17 pt.length (flat Rs.cells pt), .blk g6 28 ru.cells, .blk g5 26 [.slice Areg reg.length creg], .row (.slice Areg reg.length creg) 102 5 reg.length (flat En.cells reg), .row (.slice (some ⟨g_Axs, 0, none⟩) xs.length cxs) 65 17 xs.length (flat Rs.cells xs), .abs wn.heap.size (fun w => Cod w wn.heap.size)]) rfl ?_
  refine zET (zSG (TL.mv ?_))
  refine TL.pcallCod (k := 6) (α := Bool) (fun x => .bool x) (fun x => []) rfl rfl rfl rfl rfl Tryz.func18 (by decide) rfl rfl (fun w1 hw hC1 => dbool_cod wn.heap.size w1 hC1 3 (by decide)) ?_
  rintro bb
  dsimp only [List.cons_append, List.nil_append]
  cases bb with
  | true =>
   refine TL.val rfl rfl rfl (gives_boolnot rfl rfl) ?_
   refine zET (zd (zk (zN (zT (zG (TL.v (gD ((i + 1 : Nat) : Int)) ?_))))))
   refine TL.mv ?_
   refine zE ?_
   exact TX.round (⟨(i + 1, (Ap, cp), pt), by dsimp only; omega, hpt, by dsimp only; omega, hpc, hpm⟩) (by show xs.length - (i + 1) < xs.length - i; omega) ⟨rfl, rfl, rfl, rfl, rfl, rfl, rfl, rfl, trivial⟩ (fun w1 hw => hw.pick [1, 2, 3, 4, 5, 6] (by decide) rfl)
  | false =>
   refine TL.val rfl rfl rfl (gives_boolnot rfl rfl) ?_
   refine zET (zc (zG (TL.mv ?_)))
   refine TL.v (gV 0 (.agg (x33.cells).toArray) prsag65 prssz65) ?_
   refine TL.prowS (e := 65) (size := 17) (cs := flat Rs.cells [x33]) rfl rfl rfl rfl rfl (fun w => porbs23_1_99505 _ _ _ _ _ _ _ _ _ _ _ _ _ _ _ _ _ w) (by decide) rfl (fun g40 => ?_)
   refine TL.appendT (k := 2) rfl rfl rfl rfl Tryz.underlying23 porel23 rfl rfl rfl (fun w1 hw => pm_reads hw (k := 0) rfl) (flat_one rs_cel _) (by show _ * 128 ≤ _; omega) ((pt ++ [x33]).length) (by rw [List.length_append]; rfl) (flat Rs.cells (pt ++ [x33])) ((flat_app _ _).symm) (fun A41 c41 hA411 hA412 => ?_)
   refine TL.as_ ?_
   refine zE (zN (zT (zG (TL.v (gD ((i + 1 : Nat) : Int)) ?_))))
   refine TL.mv ?_
   refine zE ?_
   exact TX.round (⟨(i + 1, (A41, c41), pt ++ [x33]), by dsimp only; omega, mem_snoc hpt (List.mem_of_getElem? hx33), by dsimp only; rw [List.length_append]; show pt.length + 1 ≤ _; omega, hA411, hA412⟩) (by show xs.length - (i + 1) < xs.length - i; omega) ⟨rfl, rfl, rfl, rfl, rfl, rfl, rfl, rfl, trivial⟩ (fun w1 hw => hw.pick [2, 3, 4, 5, 6, 7] (by decide) rfl)
 refine zET (zS (zd (zx (zX (zX (zM (zT (zSG (TL.mv ?_)))))))))
 refine TL.v (gV 2 (.agg #[.slice Areg reg.length creg]) breag26 bresz26) ?_
 refine TL.v (gV 1 (.agg (ru.cells).toArray) aprag28 aprsz28) ?_
 refine TL.pcallPm (α := {y : ((Option Addr × Nat) × List Rp) × Int // FndOk reg pt ru y.1.2 y.2 ∧ y.1.2.length ≤ 100000000000 ∧ y.1.2.length ≤ y.1.1.2 ∧ y.1.1.2 ≤ maxLen}) (fun x => .tuple #[.slice x.1.1.1.1 x.1.1.2.length x.1.1.1.2, .int .i64 x.1.2]) (fun x => [.row (.slice x.1.1.1.1 x.1.1.2.length x.1.1.1.2) 34 8 x.1.1.2.length (flat Rp.cells x.1.1.2)]) rfl rfl rfl rfl rfl Tryz.func39 (by decide) rfl (fun w1 hw => fnd_any Ap cp pt Areg creg reg ru w1 (pm_rd hw (k := 0) rfl) (by omega) (fun r hr => hxsok r (hpt r hr)) (pm_rd hw (k := 3) rfl)) ?_
 rintro ⟨⟨⟨⟨Afo, cfo⟩, fo⟩, efo⟩, hfo, hfol, hfoc, hfom⟩
 dsimp only [List.cons_append, List.nil_append]
 dsimp only at hfo hfol hfoc hfom ⊢
 obtain ⟨hfz, hfd⟩ := hfo.good (fun r hr => hxsv r (hpt r hr)) hreg.2 hru.vld (by omega)
 refine TL.rn 5 rfl (zET (zS (zSG (TL.mv ?_))))
 refine TL.val rfl rfl rfl (gives_bin rfl rfl rfl (fun w => bin_neq_f (hfz) w)) ?_
 refine zET (zd (zk (zT (zS (zS ?_)))))
 by_cases hroom : fo.length + 1 ≤ cfo
 ·refine zG (TL.rn 3 rfl ?_)
  refine TL.call (α := {y : Rp // y.Ok}) (r := fun q9 => .agg (q9.1.cells).toArray) (I' := fun q9 => Pm wn [.abs wn.heap.size (fun w => Cod w wn.heap.size), .row (.slice Afo fo.length cfo) 34 8 fo.length (flat Rp.cells fo), .row (.slice Ap pt.length cp) 65 17 pt.length (flat Rs.cells pt), .blk g6 28 ru.cells, .blk g5 26 [.slice Areg reg.length creg], .row (.slice Areg reg.length creg) 102 5 reg.length (flat En.cells reg), .row (.slice Axs xs.length cxs) 65 17 xs.length (flat Rs.cells xs)]) rfl rfl rfl rfl rfl Tryz.func26 (by decide) rfl (fun w1 hw => rep_fr wn [.row (.slice Afo fo.length cfo) 34 8 fo.length (flat Rp.cells fo), .row (.slice Ap pt.length cp) 65 17 pt.length (flat Rs.cells pt), .blk g6 28 ru.cells, .blk g5 26 [.slice Areg reg.length creg], .row (.slice Areg reg.length creg) 102 5 reg.length (flat En.cells reg), .row (.slice Axs xs.length cxs) 65 17 xs.length (flat Rs.cells xs)] wn.heap.size Axs cxs xs (fun w1 hw => (pm_rd hw (k := 6) rfl)) (by omega) hxsok w1 (hw.pick [6, 0, 1, 2, 3, 4, 5] (by decide) rfl)) ?_
  rintro ⟨rq, hrq⟩
  refine TL.prowS (e := 34) (size := 8) (cs := flat Rp.cells [rq]) rfl rfl rfl rfl rfl (fun w => aeabs49_1_10276 _ _ _ _ _ _ _ _ w) (by decide) rfl (fun g56 => ?_)
  refine TL.appendIn (k := 2) rfl rfl rfl rfl aseel49 rfl rfl rfl (fun w1 hw => pm_reads hw (k := 0) rfl) (flat_one rp_cel _) (by show _ * 64 ≤ _; omega) (by decide) hroom (fo ++ [rq]).length (by rw [List.length_append]; rfl) (flat Rp.cells (fo ++ [rq])) (flat_app _ _).symm ?_
  try dsimp only [List.set_cons_zero, List.set_cons_succ]
  refine TL.v (gN Tryz.underlying49) ?_
  refine TL.mv ?_
  refine zET (zB (TC.loop_ (α := {j : Nat // j ≤ (fo ++ [rq]).length}) (fun y => [(3, .pointer (some ⟨wn.heap.size, 0, none⟩)), (4, .slice Axs xs.length cxs), (5, .pointer (some ⟨g5, 0, none⟩)), (6, .pointer (some ⟨g6, 0, none⟩)), (7, .slice Ap pt.length cp), (10, .slice Afo fo.length cfo), (57, .slice Afo ((fo ++ [rq]).length) cfo), (58, .int .i64 ((fo ++ [rq]).length : Nat)), (59, .int .i64 ((y.1 : Nat) : Int))]) (fun y => Pm wn [.row (.slice (some ⟨g56, 0, none⟩) 1 1) 34 8 1 (flat Rp.cells [rq]), .abs wn.heap.size (fun w => Cod w wn.heap.size), .row (.slice Afo ((fo ++ [rq]).length) cfo) 34 8 ((fo ++ [rq]).length) (flat Rp.cells (fo ++ [rq])), .row (.slice Ap pt.length cp) 65 17 pt.length (flat Rs.cells pt), .blk g6 28 ru.cells, .blk g5 26 [.slice Areg reg.length creg], .row (.slice Areg reg.length creg) 102 5 reg.length (flat En.cells reg), .row (.slice Axs xs.length cxs) 65 17 xs.length (flat Rs.cells xs)]) (fun y => (fo ++ [rq]).length - y.1) (⟨0, Nat.zero_le _⟩) ⟨rfl, rfl, rfl, rfl, rfl, rfl, rfl, rfl, rfl, trivial⟩ (fun w1 hw => hw) ?_))
  rintro ⟨j, hj⟩
  try dsimp only at hj ⊢
  have hql : (fo ++ [rq]).length = fo.length + 1 := by rw [List.length_append]; rfl
  refine zS ?_
  have hql : (fo ++ [rq]).length = fo.length + 1 := by rw [List.length_append]; rfl
  refine zG ?_
  refine TL.sp bin_lss (fun q60 => ?_) (fun q60 => ?_)
  ·refine zET (zS (zc (zk (zT (zS (zB (zSG ?_)))))))
   refine TL.fact (p := ∃ g, Afo = some ⟨g, 0, none⟩) (fun w1 hw => rowA hw (k := 2) rfl (by omega)) ?_
   rintro ⟨g_Afo, rfl⟩
   have hi61 : j < (fo ++ [rq]).length := by omega
   obtain ⟨x61, hx61⟩ := ex_at hi61
   refine TL.val rfl rfl rfl (gA (i := j) Tryz.underlying49 aprsz34 rfl rfl rfl rfl rfl (by omega)) ?_
   refine TL.val rfl rfl rfl (gives_loadR (off := 0 + j * 8) rfl rfl aprag34 aprsz34 (rp_cel.len x61) (fun w1 hw j9 u9 h9 => flat_row rp_cel hw (q := 2) rfl hx61 j9 u9 h9)) ?_
   refine TL.pnew rfl rfl rfl (exec_alloc (cs := [.int .i64 0, .int .i64 0, .int .u32 0, .int .i64 0, .int .i64 0, .int .i64 0, .int .i64 0, .int .i64 0]) rfl asezv34 rfl) (fun g13 => ?_)
   refine TL.pstore (k := 0) (vs := x61.cells) rfl rfl rfl rfl rfl rfl rfl aprsz34 (rp_cel.one _) (by show 8 ≤ 8; decide) (L' := [.blk g13 34 x61.cells, .row (.slice (some ⟨g56, 0, none⟩) 1 1) 34 8 1 (flat Rp.cells [rq]), .abs wn.heap.size (fun w => Cod w wn.heap.size), .row (.slice (some ⟨g_Afo, 0, none⟩) ((fo ++ [rq]).length) cfo) 34 8 ((fo ++ [rq]).length) (flat Rp.cells (fo ++ [rq])), .row (.slice Ap pt.length cp) 65 17 pt.length (flat Rs.cells pt), .blk g6 28 ru.cells, .blk g5 26 [.slice Areg reg.length creg], .row (.slice Areg reg.length creg) 102 5 reg.length (flat En.cells reg), .row (.slice Axs xs.length cxs) 65 17 xs.length (flat Rs.cells xs)]) rfl ?_
   refine zET (zS (TC.held (ls := #[Ff,Ff,Ff,Ff,Ff,Ff,Ff,Ff,Ff,Ff,Ff,Ff,Ff,Ff,Ff]) (Pm wn [.blk g13 34 x61.cells, .blk g6 28 ru.cells, .blk g5 26 [.slice Areg reg.length creg]]) (by kernel_rfl) rfl rfl (fun w hw => hw.drawn _) ?_))
   refine TH.tk 0 rfl rfl rfl (gives_move rfl rfl) (fun w1 hw => hw.pick [0, 5, 6] (by decide) rfl) ?_
   refine TH.tk 1 rfl rfl rfl (gV 2 (.agg #[.slice Areg reg.length creg]) breag26 bresz26) (fun w1 hw => hw.pick [0, 5, 6] (by decide) rfl) ?_
   refine TH.tk 2 rfl rfl rfl (gV 1 (.agg (ru.cells).toArray) aprag28 aprsz28) (fun w1 hw => hw.pick [0, 5, 6] (by decide) rfl) ?_
   refine TH.tk 3 rfl rfl rfl (gV 0 (.agg (x61.cells).toArray) aprag34 aprsz34) (fun w1 hw => hw.pick [0, 5, 6] (by decide) rfl) ?_
   refine TH.only' 4 rfl (by kernel_rfl) rfl ?_
   refine TL.pcallPm (α := {b : Bool // b = true ↔ PrP reg pt ru x61}) (fun x => .bool x.1) (fun x => []) rfl rfl rfl rfl rfl Tryz.func37 (by decide) rfl (fun w1 hw => (proves_any Ap cp pt Areg creg reg ru x61 w1 (pm_rd hw (k := 4) rfl) (by omega) (fun r hr => hxsok r (hpt r hr)) (pm_rd hw (k := 7) rfl)).mono fun en w2 ⟨x, h1, h2⟩ => ⟨x, h1, (Pm.start w1).below h2⟩) ?_
   rintro ⟨b1, hb1⟩
   dsimp only [List.cons_append, List.nil_append]
   cases b1 with
   | true =>
    refine zE ?_
    refine TX.he (fun w1 hw => hw.pick [0, 5, 6] (by decide) rfl) fun hS => ?_
    refine TH.t 5 rfl (gives_move rfl rfl) hS ?_
    refine TH.takeG 6 rfl (by kernel_rfl) (by kernel_rfl) (by kernel_rfl) rfl rfl rfl rfl rfl rfl (gives_move rfl rfl) (fun w1 hw => hw.pick [0, 5, 6] (by decide) rfl) ?_
    refine TH.takeG 7 rfl (by kernel_rfl) (by kernel_rfl) (by kernel_rfl) rfl rfl rfl rfl rfl rfl (gives_move rfl rfl) (fun w1 hw => hw.pick [0, 5, 6] (by decide) rfl) ?_
    refine TH.takeG 9 rfl (by kernel_rfl) (by kernel_rfl) (by kernel_rfl) rfl rfl rfl rfl rfl rfl (gV 2 (.agg #[.slice Areg reg.length creg]) breag26 bresz26) (fun w1 hw => hw.pick [0, 5, 6] (by decide) rfl) ?_
    refine TH.takeG 10 rfl (by kernel_rfl) (by kernel_rfl) (by kernel_rfl) rfl rfl rfl rfl rfl rfl (gV 1 (.agg (ru.cells).toArray) aprag28 aprsz28) (fun w1 hw => hw.pick [0, 5, 6] (by decide) rfl) ?_
    refine TH.takeG 11 rfl (by kernel_rfl) (by kernel_rfl) (by kernel_rfl) rfl rfl rfl rfl rfl rfl (gV 0 (.agg (x61.cells).toArray) aprag34 aprsz34) (fun w1 hw => hw.pick [0, 5, 6] (by decide) rfl) ?_
    refine TH.only' 8 rfl (by kernel_rfl) rfl ?_
    refine TL.gu ?_
    refine TL.call (α := {y : (Option Addr × Nat) × List Rs // ShufOk xs y.2 ∧ y.2.length ≤ y.1.2 ∧ y.1.2 ≤ maxLen}) (r := fun x => .slice x.1.1.1 x.1.2.length x.1.1.2) (I' := fun x => Pm wn [.row (.slice x.1.1.1 x.1.2.length x.1.1.2) 65 17 x.1.2.length (flat Rs.cells x.1.2), .abs wn.heap.size (fun w => Cod w wn.heap.size), .row (.slice Axs xs.length cxs) 65 17 xs.length (flat Rs.cells xs), .blk g13 34 x61.cells, .row (.slice (some ⟨g56, 0, none⟩) 1 1) 34 8 1 (flat Rp.cells [rq]), .row (.slice (some ⟨g_Afo, 0, none⟩) ((fo ++ [rq]).length) cfo) 34 8 ((fo ++ [rq]).length) (flat Rp.cells (fo ++ [rq])), .row (.slice Ap pt.length cp) 65 17 pt.length (flat Rs.cells pt), .blk g6 28 ru.cells, .blk g5 26 [.slice Areg reg.length creg], .row (.slice Areg reg.length creg) 102 5 reg.length (flat En.cells reg)]) rfl rfl rfl rfl rfl Tryz.func42 (by decide) rfl (fun w1 hw => shuf_fr wn [.blk g13 34 x61.cells, .row (.slice (some ⟨g56, 0, none⟩) 1 1) 34 8 1 (flat Rp.cells [rq]), .row (.slice (some ⟨g_Afo, 0, none⟩) ((fo ++ [rq]).length) cfo) 34 8 ((fo ++ [rq]).length) (flat Rp.cells (fo ++ [rq])), .row (.slice Ap pt.length cp) 65 17 pt.length (flat Rs.cells pt), .blk g6 28 ru.cells, .blk g5 26 [.slice Areg reg.length creg], .row (.slice Areg reg.length creg) 102 5 reg.length (flat En.cells reg)] wn.heap.size Axs xs.length cxs xs w1 (hw.pick [2, 8, 0, 1, 3, 4, 5, 6, 7] (by decide) rfl) rfl (by omega)) ?_
    rintro ⟨⟨⟨Ash, csh⟩, sh⟩, hsh, hshc, hshm⟩
    dsimp only at hsh hshc hshm ⊢
    have hshl2 := hsh.2
    refine zE ?_
    refine TX.held (fun w1 hw => hw.pick [3, 7, 8] (by decide) rfl) ?_
    refine TH.only' 12 rfl (by kernel_rfl) rfl ?_
    refine TL.gu ?_
    have hshok : ∀ r ∈ sh, r.Ok := fun r hr => hxsok r ((hsh.1 r).1 hr)
    have hptsh : ∀ r ∈ pt, r ∈ sh := fun r hr => (hsh.1 r).2 (hpt r hr)
    refine TL.pcall1 (r := .bool true) rfl rfl rfl rfl rfl Tryz.func37 (by decide) rfl (fun w1 hw => calls_t (proves_any Ash csh sh Areg creg reg ru x61 w1 (pm_rd hw (k := 0) rfl) (by omega) hshok (pm_rd hw (k := 9) rfl)) ((hb1.1 rfl).mono hptsh hshok)) ?_
    refine zE ?_
    refine TX.held (fun w1 hw => hw.pick [3, 7, 8] (by decide) rfl) ?_
    refine TH.takeG 13 rfl (by kernel_rfl) (by kernel_rfl) (by kernel_rfl) rfl rfl rfl rfl rfl rfl (gives_boolnot rfl rfl) (fun w1 hw => hw.pick [3, 7, 8] (by decide) rfl) ?_
    refine TH.tk 14 rfl rfl rfl (gives_pick rfl rfl rfl) (fun w1 hw => hw.pick [3, 7, 8] (by decide) rfl) ?_
    refine TH.done (by kernel_rfl) ?_
    refine zT (zd (zk (zN (zT (zG (TL.v (gD ((j + 1 : Nat) : Int)) ?_))))))
    refine TL.mv ?_
    refine zE ?_
    exact TX.round (⟨j + 1, by omega⟩) (by show (fo ++ [rq]).length - (j + 1) < (fo ++ [rq]).length - j; omega) ⟨rfl, rfl, rfl, rfl, rfl, rfl, rfl, rfl, rfl, trivial⟩ (fun w1 hw => hw.pick [4, 1, 5, 6, 7, 8, 9, 2] (by decide) rfl)
   | false =>
    refine zE ?_
    refine TX.he (fun w1 hw => hw.pick [0, 5, 6] (by decide) rfl) fun hS => ?_
    refine TH.t 5 rfl (gives_move rfl rfl) hS ?_
    refine TH.off 6 rfl (by kernel_rfl) (by kernel_rfl) (by kernel_rfl) rfl rfl rfl rfl rfl rfl rfl (fun w1 hw => hw.pick [0, 5, 6] (by decide) rfl) ?_
    refine TH.off 7 rfl (by kernel_rfl) (by kernel_rfl) (by kernel_rfl) rfl rfl rfl rfl rfl rfl rfl (fun w1 hw => hw.pick [0, 5, 6] (by decide) rfl) ?_
    refine TH.off 8 rfl (by kernel_rfl) (by kernel_rfl) (by kernel_rfl) rfl rfl rfl rfl rfl rfl rfl (fun w1 hw => hw.pick [0, 5, 6] (by decide) rfl) ?_
    refine TH.off 9 rfl (by kernel_rfl) (by kernel_rfl) (by kernel_rfl) rfl rfl rfl rfl rfl rfl rfl (fun w1 hw => hw.pick [0, 5, 6] (by decide) rfl) ?_
    refine TH.off 10 rfl (by kernel_rfl) (by kernel_rfl) (by kernel_rfl) rfl rfl rfl rfl rfl rfl rfl (fun w1 hw => hw.pick [0, 5, 6] (by decide) rfl) ?_
    refine TH.off 11 rfl (by kernel_rfl) (by kernel_rfl) (by kernel_rfl) rfl rfl rfl rfl rfl rfl rfl (fun w1 hw => hw.pick [0, 5, 6] (by decide) rfl) ?_
    refine TH.off 12 rfl (by kernel_rfl) (by kernel_rfl) (by kernel_rfl) rfl rfl rfl rfl rfl rfl rfl (fun w1 hw => hw.pick [0, 5, 6] (by decide) rfl) ?_
    refine TH.off 13 rfl (by kernel_rfl) (by kernel_rfl) (by kernel_rfl) rfl rfl rfl rfl rfl rfl rfl (fun w1 hw => hw.pick [0, 5, 6] (by decide) rfl) ?_
    refine TH.tk 14 rfl rfl rfl (gives_pick rfl rfl rfl) (fun w1 hw => hw.pick [0, 5, 6] (by decide) rfl) ?_
    refine TH.done (by kernel_rfl) ?_
    refine zT (zd (zk (zN (zT (zG (TL.v (gD ((j + 1 : Nat) : Int)) ?_))))))
    refine TL.mv ?_
    refine zE ?_
    exact TX.round (⟨j + 1, by omega⟩) (by show (fo ++ [rq]).length - (j + 1) < (fo ++ [rq]).length - j; omega) ⟨rfl, rfl, rfl, rfl, rfl, rfl, rfl, rfl, rfl, trivial⟩ (fun w1 hw => hw.pick [1, 2, 3, 4, 5, 6, 7, 8] (by decide) rfl)
  refine zET (zS (zd (zx (zX (zX (zM (zT (zS (zSG (TL.mv ?_))))))))))
  refine TL.v (gN Tryz.underlying49) ?_
  refine TL.mv ?_
  refine zET (zB (TC.loop_ (α := {m : Nat // m ≤ fo.length}) (fun y => [(3, .pointer (some ⟨wn.heap.size, 0, none⟩)), (5, .pointer (some ⟨g5, 0, none⟩)), (6, .pointer (some ⟨g6, 0, none⟩)), (7, .slice Ap pt.length cp), (10, .slice Afo fo.length cfo), (79, .slice Afo fo.length cfo), (80, .int .i64 (fo.length : Nat)), (81, .int .i64 ((y.1 : Nat) : Int))]) (fun y => Pm wn [.row (.slice (some ⟨g56, 0, none⟩) 1 1) 34 8 1 (flat Rp.cells [rq]), .abs wn.heap.size (fun w => Cod w wn.heap.size), .row (.slice Afo ((fo ++ [rq]).length) cfo) 34 8 ((fo ++ [rq]).length) (flat Rp.cells (fo ++ [rq])), .row (.slice Ap pt.length cp) 65 17 pt.length (flat Rs.cells pt), .blk g6 28 ru.cells, .blk g5 26 [.slice Areg reg.length creg], .row (.slice Areg reg.length creg) 102 5 reg.length (flat En.cells reg), .row (.slice Axs xs.length cxs) 65 17 xs.length (flat Rs.cells xs)]) (fun y => fo.length - y.1) (⟨0, Nat.zero_le _⟩) ⟨rfl, rfl, rfl, rfl, rfl, rfl, rfl, rfl, trivial⟩ (fun w1 hw => hw) ?_))
  rintro ⟨m, hm⟩
  try dsimp only at hm ⊢
  refine zSG ?_
  refine TL.sp bin_lss (fun q82 => ?_) (fun q82 => ?_)
  ·refine zET (zS (zc (zk (zT (zS (zB (zSG ?_)))))))
   refine TL.fact (p := ∃ g, Afo = some ⟨g, 0, none⟩) (fun w1 hw => rowA hw (k := 2) rfl (by omega)) ?_
   rintro ⟨g_Afo, rfl⟩
   have hi83 : m < (fo ++ [rq]).length := by omega
   obtain ⟨x83, hx83⟩ := ex_at hi83
   refine TL.val rfl rfl rfl (gA (i := m) Tryz.underlying49 aprsz34 rfl rfl rfl rfl rfl (by omega)) ?_
   refine TL.val rfl rfl rfl (gives_loadR (off := 0 + m * 8) rfl rfl aprag34 aprsz34 (rp_cel.len x83) (fun w1 hw j9 u9 h9 => flat_row rp_cel hw (q := 2) rfl hx83 j9 u9 h9)) ?_
   refine TL.pnew rfl rfl rfl (exec_alloc (cs := [.int .i64 0, .int .i64 0, .int .u32 0, .int .i64 0, .int .i64 0, .int .i64 0, .int .i64 0, .int .i64 0]) rfl asezv34 rfl) (fun g15 => ?_)
   refine TL.pstore (k := 0) (vs := x83.cells) rfl rfl rfl rfl rfl rfl rfl aprsz34 (rp_cel.one _) (by show 8 ≤ 8; decide) (L' := [.blk g15 34 x83.cells, .row (.slice (some ⟨g56, 0, none⟩) 1 1) 34 8 1 (flat Rp.cells [rq]), .abs wn.heap.size (fun w => Cod w wn.heap.size), .row (.slice (some ⟨g_Afo, 0, none⟩) ((fo ++ [rq]).length) cfo) 34 8 ((fo ++ [rq]).length) (flat Rp.cells (fo ++ [rq])), .row (.slice Ap pt.length cp) 65 17 pt.length (flat Rs.cells pt), .blk g6 28 ru.cells, .blk g5 26 [.slice Areg reg.length creg], .row (.slice Areg reg.length creg) 102 5 reg.length (flat En.cells reg), .row (.slice Axs xs.length cxs) 65 17 xs.length (flat Rs.cells xs)]) rfl ?_
   refine zET (zS ?_)
   have hm83 : x83 ∈ fo := by first | exact List.mem_of_getElem? hx83 | (rw [List.getElem?_append_left (by omega)] at hx83; exact List.mem_of_getElem? hx83)
   have hp83 := hfd.prP hm83
   refine zG (TL.mv ?_)
   refine TL.v (gV 6 (.agg #[.slice Areg reg.length creg]) breag26 bresz26) ?_
   refine TL.v (gV 5 (.agg (ru.cells).toArray) aprag28 aprsz28) ?_
   refine TL.v (gV 0 (.agg (x83.cells).toArray) aprag34 aprsz34) ?_
   refine TL.pcall1 (r := .bool true) rfl rfl rfl rfl rfl Tryz.func37 (by decide) rfl (fun w1 hw => calls_t (proves_any Ap cp pt Areg creg reg ru x83 w1 (pm_rd hw (k := 4) rfl) (by omega) (fun r hr => hxsok r (hpt r hr)) (pm_rd hw (k := 7) rfl)) hp83) ?_
   refine TL.rn 2 rfl (TL.ov (gV 0 (.agg (x83.cells).toArray) aprag34 aprsz34) ?_)
   refine TL.gu ?_
   refine TL.pcall1 (r := .bool true) rfl rfl rfl rfl rfl Tryz.func27 (by decide) rfl (fun w1 hw => calls_b (vldRp_any x83 w1) hp83.2.1) ?_
   refine TL.rn 2 rfl (zET (zd (zk (zN (zT (zG (TL.v (gD ((m + 1 : Nat) : Int)) ?_)))))))
   refine TL.mv ?_
   refine zE ?_
   exact TX.round (⟨m + 1, by omega⟩) (by show fo.length - (m + 1) < fo.length - m; omega) ⟨rfl, rfl, rfl, rfl, rfl, rfl, rfl, rfl, trivial⟩ (fun w1 hw => hw.pick [1, 2, 3, 4, 5, 6, 7, 8] (by decide) rfl)
  refine zET (zS (zd (zx (zX (zX (zM (zT (zSG (TL.as_ ?_)))))))))
  refine zET (zr ?_)
  exact ret_tmp Tryz.results5 rfl (fun w1 hw => ⟨rfl, hwb.trans (hw.bel.mono hwb.size)⟩)
 refine zG (TL.rn 3 rfl ?_)
 refine TL.call (α := {y : Rp // y.Ok}) (r := fun q9 => .agg (q9.1.cells).toArray) (I' := fun q9 => Pm wn [.abs wn.heap.size (fun w => Cod w wn.heap.size), .row (.slice Afo fo.length cfo) 34 8 fo.length (flat Rp.cells fo), .row (.slice Ap pt.length cp) 65 17 pt.length (flat Rs.cells pt), .blk g6 28 ru.cells, .blk g5 26 [.slice Areg reg.length creg], .row (.slice Areg reg.length creg) 102 5 reg.length (flat En.cells reg), .row (.slice Axs xs.length cxs) 65 17 xs.length (flat Rs.cells xs)]) rfl rfl rfl rfl rfl Tryz.func26 (by decide) rfl (fun w1 hw => rep_fr wn [.row (.slice Afo fo.length cfo) 34 8 fo.length (flat Rp.cells fo), .row (.slice Ap pt.length cp) 65 17 pt.length (flat Rs.cells pt), .blk g6 28 ru.cells, .blk g5 26 [.slice Areg reg.length creg], .row (.slice Areg reg.length creg) 102 5 reg.length (flat En.cells reg), .row (.slice Axs xs.length cxs) 65 17 xs.length (flat Rs.cells xs)] wn.heap.size Axs cxs xs (fun w1 hw => (pm_rd hw (k := 6) rfl)) (by omega) hxsok w1 (hw.pick [6, 0, 1, 2, 3, 4, 5] (by decide) rfl)) ?_
 rintro ⟨rq, hrq⟩
 refine TL.prowS (e := 34) (size := 8) (cs := flat Rp.cells [rq]) rfl rfl rfl rfl rfl (fun w => aeabs49_1_10276 _ _ _ _ _ _ _ _ w) (by decide) rfl (fun g56 => ?_)
 refine TL.appendNw (k := 2) rfl rfl rfl rfl aseel49 rfl rfl rfl (fun w1 hw => pm_reads hw (k := 0) rfl) (flat_one rp_cel _) (by show _ * 64 ≤ _; omega) (by decide) (by omega) (fo ++ [rq]).length (by rw [List.length_append]; rfl) (flat Rp.cells (fo ++ [rq])) (flat_app _ _).symm (fun A57 c57 h571 h572 => ?_)
 refine TL.v (gN Tryz.underlying49) ?_
 refine TL.mv ?_
 refine zET (zB (TC.loop_ (α := {j : Nat // j ≤ (fo ++ [rq]).length}) (fun y => [(3, .pointer (some ⟨wn.heap.size, 0, none⟩)), (4, .slice Axs xs.length cxs), (5, .pointer (some ⟨g5, 0, none⟩)), (6, .pointer (some ⟨g6, 0, none⟩)), (7, .slice Ap pt.length cp), (10, .slice Afo fo.length cfo), (57, .slice A57 ((fo ++ [rq]).length) c57), (58, .int .i64 ((fo ++ [rq]).length : Nat)), (59, .int .i64 ((y.1 : Nat) : Int))]) (fun y => Pm wn [.row (.slice A57 ((fo ++ [rq]).length) c57) 34 8 ((fo ++ [rq]).length) (flat Rp.cells (fo ++ [rq])), .row (.slice (some ⟨g56, 0, none⟩) 1 1) 34 8 1 (flat Rp.cells [rq]), .abs wn.heap.size (fun w => Cod w wn.heap.size), .row (.slice Afo fo.length cfo) 34 8 fo.length (flat Rp.cells fo), .row (.slice Ap pt.length cp) 65 17 pt.length (flat Rs.cells pt), .blk g6 28 ru.cells, .blk g5 26 [.slice Areg reg.length creg], .row (.slice Areg reg.length creg) 102 5 reg.length (flat En.cells reg), .row (.slice Axs xs.length cxs) 65 17 xs.length (flat Rs.cells xs)]) (fun y => (fo ++ [rq]).length - y.1) (⟨0, Nat.zero_le _⟩) ⟨rfl, rfl, rfl, rfl, rfl, rfl, rfl, rfl, rfl, trivial⟩ (fun w1 hw => hw) ?_))
 rintro ⟨j, hj⟩
 try dsimp only at hj ⊢
 have hql : (fo ++ [rq]).length = fo.length + 1 := by rw [List.length_append]; rfl
 refine zS ?_
 have hql : (fo ++ [rq]).length = fo.length + 1 := by rw [List.length_append]; rfl
 refine zG ?_
 refine TL.sp bin_lss (fun q60 => ?_) (fun q60 => ?_)
 ·refine zET (zS (zc (zk (zT (zS (zB (zSG ?_)))))))
  refine TL.fact (p := ∃ g, A57 = some ⟨g, 0, none⟩) (fun w1 hw => rowA hw (k := 0) rfl (by omega)) ?_
  rintro ⟨g_A57, rfl⟩
  have hi61 : j < (fo ++ [rq]).length := by omega
  obtain ⟨x61, hx61⟩ := ex_at hi61
  refine TL.val rfl rfl rfl (gA (i := j) Tryz.underlying49 aprsz34 rfl rfl rfl rfl rfl (by omega)) ?_
  refine TL.val rfl rfl rfl (gives_loadR (off := 0 + j * 8) rfl rfl aprag34 aprsz34 (rp_cel.len x61) (fun w1 hw j9 u9 h9 => flat_row rp_cel hw (q := 0) rfl hx61 j9 u9 h9)) ?_
  refine TL.pnew rfl rfl rfl (exec_alloc (cs := [.int .i64 0, .int .i64 0, .int .u32 0, .int .i64 0, .int .i64 0, .int .i64 0, .int .i64 0, .int .i64 0]) rfl asezv34 rfl) (fun g13 => ?_)
  refine TL.pstore (k := 0) (vs := x61.cells) rfl rfl rfl rfl rfl rfl rfl aprsz34 (rp_cel.one _) (by show 8 ≤ 8; decide) (L' := [.blk g13 34 x61.cells, .row (.slice (some ⟨g_A57, 0, none⟩) ((fo ++ [rq]).length) c57) 34 8 ((fo ++ [rq]).length) (flat Rp.cells (fo ++ [rq])), .row (.slice (some ⟨g56, 0, none⟩) 1 1) 34 8 1 (flat Rp.cells [rq]), .abs wn.heap.size (fun w => Cod w wn.heap.size), .row (.slice Afo fo.length cfo) 34 8 fo.length (flat Rp.cells fo), .row (.slice Ap pt.length cp) 65 17 pt.length (flat Rs.cells pt), .blk g6 28 ru.cells, .blk g5 26 [.slice Areg reg.length creg], .row (.slice Areg reg.length creg) 102 5 reg.length (flat En.cells reg), .row (.slice Axs xs.length cxs) 65 17 xs.length (flat Rs.cells xs)]) rfl ?_
  refine zET (zS (TC.held (ls := #[Ff,Ff,Ff,Ff,Ff,Ff,Ff,Ff,Ff,Ff,Ff,Ff,Ff,Ff,Ff]) (Pm wn [.blk g13 34 x61.cells, .blk g6 28 ru.cells, .blk g5 26 [.slice Areg reg.length creg]]) (by kernel_rfl) rfl rfl (fun w hw => hw.drawn _) ?_))
  refine TH.tk 0 rfl rfl rfl (gives_move rfl rfl) (fun w1 hw => hw.pick [0, 6, 7] (by decide) rfl) ?_
  refine TH.tk 1 rfl rfl rfl (gV 2 (.agg #[.slice Areg reg.length creg]) breag26 bresz26) (fun w1 hw => hw.pick [0, 6, 7] (by decide) rfl) ?_
  refine TH.tk 2 rfl rfl rfl (gV 1 (.agg (ru.cells).toArray) aprag28 aprsz28) (fun w1 hw => hw.pick [0, 6, 7] (by decide) rfl) ?_
  refine TH.tk 3 rfl rfl rfl (gV 0 (.agg (x61.cells).toArray) aprag34 aprsz34) (fun w1 hw => hw.pick [0, 6, 7] (by decide) rfl) ?_
  refine TH.only' 4 rfl (by kernel_rfl) rfl ?_
  refine TL.pcallPm (α := {b : Bool // b = true ↔ PrP reg pt ru x61}) (fun x => .bool x.1) (fun x => []) rfl rfl rfl rfl rfl Tryz.func37 (by decide) rfl (fun w1 hw => (proves_any Ap cp pt Areg creg reg ru x61 w1 (pm_rd hw (k := 5) rfl) (by omega) (fun r hr => hxsok r (hpt r hr)) (pm_rd hw (k := 8) rfl)).mono fun en w2 ⟨x, h1, h2⟩ => ⟨x, h1, (Pm.start w1).below h2⟩) ?_
  rintro ⟨b1, hb1⟩
  dsimp only [List.cons_append, List.nil_append]
  cases b1 with
  | true =>
   refine zE ?_
   refine TX.he (fun w1 hw => hw.pick [0, 6, 7] (by decide) rfl) fun hS => ?_
   refine TH.t 5 rfl (gives_move rfl rfl) hS ?_
   refine TH.takeG 6 rfl (by kernel_rfl) (by kernel_rfl) (by kernel_rfl) rfl rfl rfl rfl rfl rfl (gives_move rfl rfl) (fun w1 hw => hw.pick [0, 6, 7] (by decide) rfl) ?_
   refine TH.takeG 7 rfl (by kernel_rfl) (by kernel_rfl) (by kernel_rfl) rfl rfl rfl rfl rfl rfl (gives_move rfl rfl) (fun w1 hw => hw.pick [0, 6, 7] (by decide) rfl) ?_
   refine TH.takeG 9 rfl (by kernel_rfl) (by kernel_rfl) (by kernel_rfl) rfl rfl rfl rfl rfl rfl (gV 2 (.agg #[.slice Areg reg.length creg]) breag26 bresz26) (fun w1 hw => hw.pick [0, 6, 7] (by decide) rfl) ?_
   refine TH.takeG 10 rfl (by kernel_rfl) (by kernel_rfl) (by kernel_rfl) rfl rfl rfl rfl rfl rfl (gV 1 (.agg (ru.cells).toArray) aprag28 aprsz28) (fun w1 hw => hw.pick [0, 6, 7] (by decide) rfl) ?_
   refine TH.takeG 11 rfl (by kernel_rfl) (by kernel_rfl) (by kernel_rfl) rfl rfl rfl rfl rfl rfl (gV 0 (.agg (x61.cells).toArray) aprag34 aprsz34) (fun w1 hw => hw.pick [0, 6, 7] (by decide) rfl) ?_
   refine TH.only' 8 rfl (by kernel_rfl) rfl ?_
   refine TL.gu ?_
   refine TL.call (α := {y : (Option Addr × Nat) × List Rs // ShufOk xs y.2 ∧ y.2.length ≤ y.1.2 ∧ y.1.2 ≤ maxLen}) (r := fun x => .slice x.1.1.1 x.1.2.length x.1.1.2) (I' := fun x => Pm wn [.row (.slice x.1.1.1 x.1.2.length x.1.1.2) 65 17 x.1.2.length (flat Rs.cells x.1.2), .abs wn.heap.size (fun w => Cod w wn.heap.size), .row (.slice Axs xs.length cxs) 65 17 xs.length (flat Rs.cells xs), .blk g13 34 x61.cells, .row (.slice (some ⟨g_A57, 0, none⟩) ((fo ++ [rq]).length) c57) 34 8 ((fo ++ [rq]).length) (flat Rp.cells (fo ++ [rq])), .row (.slice (some ⟨g56, 0, none⟩) 1 1) 34 8 1 (flat Rp.cells [rq]), .row (.slice Afo fo.length cfo) 34 8 fo.length (flat Rp.cells fo), .row (.slice Ap pt.length cp) 65 17 pt.length (flat Rs.cells pt), .blk g6 28 ru.cells, .blk g5 26 [.slice Areg reg.length creg], .row (.slice Areg reg.length creg) 102 5 reg.length (flat En.cells reg)]) rfl rfl rfl rfl rfl Tryz.func42 (by decide) rfl (fun w1 hw => shuf_fr wn [.blk g13 34 x61.cells, .row (.slice (some ⟨g_A57, 0, none⟩) ((fo ++ [rq]).length) c57) 34 8 ((fo ++ [rq]).length) (flat Rp.cells (fo ++ [rq])), .row (.slice (some ⟨g56, 0, none⟩) 1 1) 34 8 1 (flat Rp.cells [rq]), .row (.slice Afo fo.length cfo) 34 8 fo.length (flat Rp.cells fo), .row (.slice Ap pt.length cp) 65 17 pt.length (flat Rs.cells pt), .blk g6 28 ru.cells, .blk g5 26 [.slice Areg reg.length creg], .row (.slice Areg reg.length creg) 102 5 reg.length (flat En.cells reg)] wn.heap.size Axs xs.length cxs xs w1 (hw.pick [3, 9, 0, 1, 2, 4, 5, 6, 7, 8] (by decide) rfl) rfl (by omega)) ?_
   rintro ⟨⟨⟨Ash, csh⟩, sh⟩, hsh, hshc, hshm⟩
   dsimp only at hsh hshc hshm ⊢
   have hshl2 := hsh.2
   refine zE ?_
   refine TX.held (fun w1 hw => hw.pick [3, 8, 9] (by decide) rfl) ?_
   refine TH.only' 12 rfl (by kernel_rfl) rfl ?_
   refine TL.gu ?_
   have hshok : ∀ r ∈ sh, r.Ok := fun r hr => hxsok r ((hsh.1 r).1 hr)
   have hptsh : ∀ r ∈ pt, r ∈ sh := fun r hr => (hsh.1 r).2 (hpt r hr)
   refine TL.pcall1 (r := .bool true) rfl rfl rfl rfl rfl Tryz.func37 (by decide) rfl (fun w1 hw => calls_t (proves_any Ash csh sh Areg creg reg ru x61 w1 (pm_rd hw (k := 0) rfl) (by omega) hshok (pm_rd hw (k := 10) rfl)) ((hb1.1 rfl).mono hptsh hshok)) ?_
   refine zE ?_
   refine TX.held (fun w1 hw => hw.pick [3, 8, 9] (by decide) rfl) ?_
   refine TH.takeG 13 rfl (by kernel_rfl) (by kernel_rfl) (by kernel_rfl) rfl rfl rfl rfl rfl rfl (gives_boolnot rfl rfl) (fun w1 hw => hw.pick [3, 8, 9] (by decide) rfl) ?_
   refine TH.tk 14 rfl rfl rfl (gives_pick rfl rfl rfl) (fun w1 hw => hw.pick [3, 8, 9] (by decide) rfl) ?_
   refine TH.done (by kernel_rfl) ?_
   refine zT (zd (zk (zN (zT (zG (TL.v (gD ((j + 1 : Nat) : Int)) ?_))))))
   refine TL.mv ?_
   refine zE ?_
   exact TX.round (⟨j + 1, by omega⟩) (by show (fo ++ [rq]).length - (j + 1) < (fo ++ [rq]).length - j; omega) ⟨rfl, rfl, rfl, rfl, rfl, rfl, rfl, rfl, rfl, trivial⟩ (fun w1 hw => hw.pick [4, 5, 1, 6, 7, 8, 9, 10, 2] (by decide) rfl)
  | false =>
   refine zE ?_
   refine TX.he (fun w1 hw => hw.pick [0, 6, 7] (by decide) rfl) fun hS => ?_
   refine TH.t 5 rfl (gives_move rfl rfl) hS ?_
   refine TH.off 6 rfl (by kernel_rfl) (by kernel_rfl) (by kernel_rfl) rfl rfl rfl rfl rfl rfl rfl (fun w1 hw => hw.pick [0, 6, 7] (by decide) rfl) ?_
   refine TH.off 7 rfl (by kernel_rfl) (by kernel_rfl) (by kernel_rfl) rfl rfl rfl rfl rfl rfl rfl (fun w1 hw => hw.pick [0, 6, 7] (by decide) rfl) ?_
   refine TH.off 8 rfl (by kernel_rfl) (by kernel_rfl) (by kernel_rfl) rfl rfl rfl rfl rfl rfl rfl (fun w1 hw => hw.pick [0, 6, 7] (by decide) rfl) ?_
   refine TH.off 9 rfl (by kernel_rfl) (by kernel_rfl) (by kernel_rfl) rfl rfl rfl rfl rfl rfl rfl (fun w1 hw => hw.pick [0, 6, 7] (by decide) rfl) ?_
   refine TH.off 10 rfl (by kernel_rfl) (by kernel_rfl) (by kernel_rfl) rfl rfl rfl rfl rfl rfl rfl (fun w1 hw => hw.pick [0, 6, 7] (by decide) rfl) ?_
   refine TH.off 11 rfl (by kernel_rfl) (by kernel_rfl) (by kernel_rfl) rfl rfl rfl rfl rfl rfl rfl (fun w1 hw => hw.pick [0, 6, 7] (by decide) rfl) ?_
   refine TH.off 12 rfl (by kernel_rfl) (by kernel_rfl) (by kernel_rfl) rfl rfl rfl rfl rfl rfl rfl (fun w1 hw => hw.pick [0, 6, 7] (by decide) rfl) ?_
   refine TH.off 13 rfl (by kernel_rfl) (by kernel_rfl) (by kernel_rfl) rfl rfl rfl rfl rfl rfl rfl (fun w1 hw => hw.pick [0, 6, 7] (by decide) rfl) ?_
   refine TH.tk 14 rfl rfl rfl (gives_pick rfl rfl rfl) (fun w1 hw => hw.pick [0, 6, 7] (by decide) rfl) ?_
   refine TH.done (by kernel_rfl) ?_
   refine zT (zd (zk (zN (zT (zG (TL.v (gD ((j + 1 : Nat) : Int)) ?_))))))
   refine TL.mv ?_
   refine zE ?_
   exact TX.round (⟨j + 1, by omega⟩) (by show (fo ++ [rq]).length - (j + 1) < (fo ++ [rq]).length - j; omega) ⟨rfl, rfl, rfl, rfl, rfl, rfl, rfl, rfl, rfl, trivial⟩ (fun w1 hw => hw.pick [1, 2, 3, 4, 5, 6, 7, 8, 9] (by decide) rfl)
 refine zET (zS (zd (zx (zX (zX (zM (zT (zS (zSG (TL.mv ?_))))))))))
 refine TL.v (gN Tryz.underlying49) ?_
 refine TL.mv ?_
 refine zET (zB (TC.loop_ (α := {m : Nat // m ≤ fo.length}) (fun y => [(3, .pointer (some ⟨wn.heap.size, 0, none⟩)), (5, .pointer (some ⟨g5, 0, none⟩)), (6, .pointer (some ⟨g6, 0, none⟩)), (7, .slice Ap pt.length cp), (10, .slice Afo fo.length cfo), (79, .slice Afo fo.length cfo), (80, .int .i64 (fo.length : Nat)), (81, .int .i64 ((y.1 : Nat) : Int))]) (fun y => Pm wn [.row (.slice A57 ((fo ++ [rq]).length) c57) 34 8 ((fo ++ [rq]).length) (flat Rp.cells (fo ++ [rq])), .row (.slice (some ⟨g56, 0, none⟩) 1 1) 34 8 1 (flat Rp.cells [rq]), .abs wn.heap.size (fun w => Cod w wn.heap.size), .row (.slice Afo fo.length cfo) 34 8 fo.length (flat Rp.cells fo), .row (.slice Ap pt.length cp) 65 17 pt.length (flat Rs.cells pt), .blk g6 28 ru.cells, .blk g5 26 [.slice Areg reg.length creg], .row (.slice Areg reg.length creg) 102 5 reg.length (flat En.cells reg), .row (.slice Axs xs.length cxs) 65 17 xs.length (flat Rs.cells xs)]) (fun y => fo.length - y.1) (⟨0, Nat.zero_le _⟩) ⟨rfl, rfl, rfl, rfl, rfl, rfl, rfl, rfl, trivial⟩ (fun w1 hw => hw) ?_))
 rintro ⟨m, hm⟩
 try dsimp only at hm ⊢
 refine zSG ?_
 refine TL.sp bin_lss (fun q82 => ?_) (fun q82 => ?_)
 ·refine zET (zS (zc (zk (zT (zS (zB (zSG ?_)))))))
  refine TL.fact (p := ∃ g, Afo = some ⟨g, 0, none⟩) (fun w1 hw => rowA hw (k := 3) rfl (by omega)) ?_
  rintro ⟨g_Afo, rfl⟩
  have hi83 : m < fo.length := by omega
  obtain ⟨x83, hx83⟩ := ex_at hi83
  refine TL.val rfl rfl rfl (gA (i := m) Tryz.underlying49 aprsz34 rfl rfl rfl rfl rfl (by omega)) ?_
  refine TL.val rfl rfl rfl (gives_loadR (off := 0 + m * 8) rfl rfl aprag34 aprsz34 (rp_cel.len x83) (fun w1 hw j9 u9 h9 => flat_row rp_cel hw (q := 3) rfl hx83 j9 u9 h9)) ?_
  refine TL.pnew rfl rfl rfl (exec_alloc (cs := [.int .i64 0, .int .i64 0, .int .u32 0, .int .i64 0, .int .i64 0, .int .i64 0, .int .i64 0, .int .i64 0]) rfl asezv34 rfl) (fun g15 => ?_)
  refine TL.pstore (k := 0) (vs := x83.cells) rfl rfl rfl rfl rfl rfl rfl aprsz34 (rp_cel.one _) (by show 8 ≤ 8; decide) (L' := [.blk g15 34 x83.cells, .row (.slice A57 ((fo ++ [rq]).length) c57) 34 8 ((fo ++ [rq]).length) (flat Rp.cells (fo ++ [rq])), .row (.slice (some ⟨g56, 0, none⟩) 1 1) 34 8 1 (flat Rp.cells [rq]), .abs wn.heap.size (fun w => Cod w wn.heap.size), .row (.slice (some ⟨g_Afo, 0, none⟩) fo.length cfo) 34 8 fo.length (flat Rp.cells fo), .row (.slice Ap pt.length cp) 65 17 pt.length (flat Rs.cells pt), .blk g6 28 ru.cells, .blk g5 26 [.slice Areg reg.length creg], .row (.slice Areg reg.length creg) 102 5 reg.length (flat En.cells reg), .row (.slice Axs xs.length cxs) 65 17 xs.length (flat Rs.cells xs)]) rfl ?_
  refine zET (zS ?_)
  have hm83 : x83 ∈ fo := by first | exact List.mem_of_getElem? hx83 | (rw [List.getElem?_append_left (by omega)] at hx83; exact List.mem_of_getElem? hx83)
  have hp83 := hfd.prP hm83
  refine zG (TL.mv ?_)
  refine TL.v (gV 7 (.agg #[.slice Areg reg.length creg]) breag26 bresz26) ?_
  refine TL.v (gV 6 (.agg (ru.cells).toArray) aprag28 aprsz28) ?_
  refine TL.v (gV 0 (.agg (x83.cells).toArray) aprag34 aprsz34) ?_
  refine TL.pcall1 (r := .bool true) rfl rfl rfl rfl rfl Tryz.func37 (by decide) rfl (fun w1 hw => calls_t (proves_any Ap cp pt Areg creg reg ru x83 w1 (pm_rd hw (k := 5) rfl) (by omega) (fun r hr => hxsok r (hpt r hr)) (pm_rd hw (k := 8) rfl)) hp83) ?_
  refine TL.rn 2 rfl (TL.ov (gV 0 (.agg (x83.cells).toArray) aprag34 aprsz34) ?_)
  refine TL.gu ?_
  refine TL.pcall1 (r := .bool true) rfl rfl rfl rfl rfl Tryz.func27 (by decide) rfl (fun w1 hw => calls_b (vldRp_any x83 w1) hp83.2.1) ?_
  refine TL.rn 2 rfl (zET (zd (zk (zN (zT (zG (TL.v (gD ((m + 1 : Nat) : Int)) ?_)))))))
  refine TL.mv ?_
  refine zE ?_
  exact TX.round (⟨m + 1, by omega⟩) (by show fo.length - (m + 1) < fo.length - m; omega) ⟨rfl, rfl, rfl, rfl, rfl, rfl, rfl, rfl, trivial⟩ (fun w1 hw => hw.pick [1, 2, 3, 4, 5, 6, 7, 8, 9] (by decide) rfl)
 refine zET (zS (zd (zx (zX (zX (zM (zT (zSG (TL.as_ ?_)))))))))
 refine zET (zr ?_)
 exact ret_tmp Tryz.results5 rfl (fun w1 hw => ⟨rfl, hwb.trans (hw.bel.mono hwb.size)⟩)
end Go.Proofs.YtijmpjfafpodhaaGreat
