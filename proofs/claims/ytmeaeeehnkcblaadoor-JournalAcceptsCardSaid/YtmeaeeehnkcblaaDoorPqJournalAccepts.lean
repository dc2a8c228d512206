/-
  Texts of the proof, joined: JrLA.
-/
import Derived.Test.YtmeaeeehnkcblaaDoorPq5
namespace Go.Proofs.YtmeaeeehnkcblaaDoor
open Go.RowKit
set_option linter.unusedVariables false
set_option linter.unusedSimpArgs false
set_option maxRecDepth 20000
theorem Pm.seg_ne {w0 : Base} {w : World} {L T : List Pc} {s : Sl} {k cb : Nat} {p : World → Prop} (h : Pm w0 L w) (n : Nat) (hT : L.drop n = T) (hk : k < n) (ha : L[k]? = some (.abs cb p)) (hm : Pc.row s.val 5 1 s.n (bv s.l) ∈ T) : ∀ ad, s.A = some ad → ad.block ≠ cb := by
 intro ad hA hb
 have hL : Pm w0 (L.take n ++ L.drop n) w := by rw [List.take_append_drop]; exact h
 have h1 := (List.pairwise_append.1 hL.apart).2.2 (.abs cb p) (List.mem_of_getElem? (i := k) (by rw [List.getElem?_take_of_lt hk]; exact ha)) _ (by rw [hT]; exact hm) cb rfl
 refine h1 ?_
 show (Value.slice s.A s.n s.c).ownBlock = some cb
 rw [hA, ← hb]
 rfl
theorem Pm.lose {w0 : Base} {w : World} {P S T : List Pc} (h : Pm w0 (P ++ (S ++ T)) w) : Pm w0 (P ++ T) w := h.sel ((List.sublist_append_right S T).append_left P)
theorem Pm.tuck2 {w0 : Base} {w : World} {s t : Sl} {P T : List Pc} (h : Pm w0 ((.row t.val 5 1 t.n (bv t.l) :: .row s.val 5 1 s.n (bv s.l) :: P) ++ T) w) : Pm w0 (P ++ (segP [s, t] ++ T)) w := by
 refine h.perm ?_
 show (_ :: _ :: (P ++ T)).Perm (P ++ (_ :: _ :: T))
 refine (List.Perm.swap _ _ _).trans ?_
 refine ((List.perm_middle (l₁ := P) (l₂ := T)).symm.cons _).trans ?_
 exact List.perm_middle.symm
/-- what is tried as a segment -/
def TryOk (raw : Sl) (ex sso ss : List Sl) (t : Sl) : Prop := (t = raw ∨ t ∈ ex ∨ t ∈ sso ∨ t ∈ ss) ∧ Bs t.l ∧ t.n ≤ t.c ∧ t.n ≤ 3001
theorem try_byt {wn w1 : World} {L : List Pc} {ex sso ss : List Sl} {t : Sl} {A1 : Option Addr} {n1 c1 : Nat} {raw : List Int} (h : Pm ⟨wn, wn.heap.size⟩ L w1) (n : Nat) (hT : L.drop n = segP ex ++ (segP sso ++ segP ss)) (hraw : Byt wn wn.heap.size A1 n1 raw) (ht : t = ⟨A1, n1, c1, raw⟩ ∨ t ∈ ex ∨ t ∈ sso ∨ t ∈ ss) (hb : Bs t.l) : Byt w1 w1.heap.size t.A t.n t.l := by
 rcases ht with rfl | ht | ht | ht
 ·exact (hraw.below h.bel).more h.bel.size
 ·exact h.seg n hT (List.mem_append_left _ (segP_mem ht)) hb
 ·exact h.seg n hT (List.mem_append_right _ (List.mem_append_left _ (segP_mem ht))) hb
 ·exact h.seg n hT (List.mem_append_right _ (List.mem_append_right _ (segP_mem ht))) hb
theorem tries4 {A1 A5 : Option Addr} {n1 c1 m5 c5 : Nat} {raw l5 : List Int} {s1 t1 : Sl} {sso ss : List Sl} {ex : List Sl} (h1 : n1 ≤ 3000) (h2 : n1 ≤ c1) (h3 : Bs raw) (h4 : s1 ∈ sso) (h5 : SlOk s1) (h6 : t1 ∈ ss) (h7 : SlOk t1) (h8 : m5 ≤ c5) (h9 : m5 ≤ 301) (h10 : Bs l5) (hx : (⟨A5, m5, c5, l5⟩ : Sl) ∈ ex) :
  ∀ t ∈ ([⟨A1, n1, c1, raw⟩, s1, t1, ⟨A5, m5, c5, l5⟩] : List Sl), TryOk ⟨A1, n1, c1, raw⟩ ex sso ss t := by
 intro t ht
 simp only [List.mem_cons, List.not_mem_nil, or_false] at ht
 rcases ht with rfl | rfl | rfl | rfl
 ·exact ⟨.inl rfl, h3, h2, by dsimp only; omega⟩
 ·exact ⟨.inr (.inr (.inl h4)), h5.2.2.2.1, h5.2.1, by have := h5.2.2.2.2.2; omega⟩
 ·exact ⟨.inr (.inr (.inr h6)), h7.2.2.2.1, h7.2.1, by have := h7.2.2.2.2.2; omega⟩
 ·exact ⟨.inr (.inl hx), h10, h8, by dsimp only; omega⟩
theorem tries6 {A1 A5 AP : Option Addr} {n1 c1 m5 c5 cP : Nat} {raw l5 : List Int} {s1 t1 s : Sl} {sso ss : List Sl} (h1 : n1 ≤ 3000) (h2 : n1 ≤ c1) (h3 : Bs raw) (h4 : s1 ∈ sso) (h5 : SlOk s1) (h6 : t1 ∈ ss) (h7 : SlOk t1) (h8 : m5 ≤ c5) (h9 : m5 ≤ 301) (h10 : Bs l5) (h11 : s ∈ ss) (h12 : SlOk s) (h13 : (s.l ++ [0]).length ≤ cP) :
  ∀ t ∈ ([⟨A1, n1, c1, raw⟩, s1, t1, ⟨A5, m5, c5, l5⟩] : List Sl) ++ [s, ⟨AP, (s.l ++ [0]).length, cP, s.l ++ [0]⟩], TryOk ⟨A1, n1, c1, raw⟩ [⟨A5, m5, c5, l5⟩, ⟨AP, (s.l ++ [0]).length, cP, s.l ++ [0]⟩] sso ss t := by
 intro t ht
 rcases List.mem_append.1 ht with ht | ht
 ·exact tries4 h1 h2 h3 h4 h5 h6 h7 h8 h9 h10 List.mem_cons_self t ht
 ·simp only [List.mem_cons, List.not_mem_nil, or_false] at ht
  have h14 : (s.l ++ [0]).length ≤ 301 := by have := h12.2.2.2.2.2; have := h12.1; rw [List.length_append, List.length_singleton]; omega
  rcases ht with rfl | rfl
  ·exact ⟨.inr (.inr (.inr h11)), h12.2.2.2.1, h12.2.1, by have := h12.2.2.2.2.2; omega⟩
  ·exact ⟨.inr (.inl (List.mem_cons_of_mem _ List.mem_cons_self)), h12.2.2.2.1.app (bs_one (by decide)), h13, by dsimp only; omega⟩
theorem accC_bs (c : Chn) (b key : List Int) : Bs (accC c b key).dg := by
 unfold accC; split
 ·exact shaF_bs _
 ·exact Bs.nil
theorem accC_le (c : Chn) (b key : List Int) : (accC c b key).dg.length ≤ 10000 := by
 unfold accC; split
 ·show (shaF b).length ≤ 10000
  rw [shaF_len]; decide
 ·exact Nat.zero_le _
theorem accL_le (c : Chn) {b : List Int} (key : List Int) (hb : Bs b) : (accL c b key).length ≤ 1000000000 := by
 unfold accL; split
 ·rw [rlB_len]
  unfold cnt getN
  have h1 := be_bd _ ((hb.drop 8).take 1)
  have hl : ((b.drop 8).take 1).length ≤ 1 := by rw [List.length_take]; omega
  rcases (by omega : ((b.drop 8).take 1).length = 0 ∨ ((b.drop 8).take 1).length = 1) with e | e <;> (rw [e] at h1; simp only [Int.pow_succ, Int.pow_zero] at h1; omega)
 ·exact Nat.zero_le _
theorem jlanm9 : (Tryd.f9.name == "runtime.NumGoroutine") = false := by decide
theorem jlabd9 : Tryd.f9.body.isNone = false := rfl
theorem jlanm10 : (Tryd.f10.name == "runtime.NumGoroutine") = false := by decide
theorem jlabd10 : Tryd.f10.body.isNone = false := rfl
theorem jlanm20 : (Tryd.f20.name == "runtime.NumGoroutine") = false := by decide
theorem jlabd20 : Tryd.f20.body.isNone = false := rfl
theorem jlazv45 (w : World) : (zeroValue 45).run Tryd.prog w = .ok (.agg #[.int .i64 0, .int .i64 0, .int .i64 0, .slice none 0 0]) w := rfl
theorem jlasz45 (w : World) : (sizeOf 45).run Tryd.prog w = .ok 4 w := rfl
theorem jlaone_i64i64i64s {a0 : Int} {a1 : Int} {a2 : Int} {a3 : Option Addr} {n3 c3 : Nat} : ∀ u ∈ [(.int .i64 a0 : Value), .int .i64 a1, .int .i64 a2, .slice a3 n3 c3], u.oneCell' = true := by
 intro u hu
 simp only [List.mem_cons, List.not_mem_nil, or_false] at hu
 rcases hu with rfl | rfl | rfl | rfl <;> rfl
theorem jlanm21 : (Tryd.f21.name == "runtime.NumGoroutine") = false := by decide
theorem jlabd21 : Tryd.f21.body.isNone = false := rfl
theorem jlanm17 : (Tryd.f17.name == "runtime.NumGoroutine") = false := by decide
theorem jlabd17 : Tryd.f17.body.isNone = false := rfl
theorem jlabs40_4_27298 (a0_0 : Option Addr) (a0_0n a0_0c : Nat) (a1_0 : Option Addr) (a1_0n a1_0c : Nat) (a2_0 : Option Addr) (a2_0n a2_0c : Nat) (a3_0 : Option Addr) (a3_0n a3_0c : Nat) (w : World) : (Instr.buildSlice 40 4 #[(0, .slice a0_0 a0_0n a0_0c), (1, .slice a1_0 a1_0n a1_0c), (2, .slice a2_0 a2_0n a2_0c), (3, .slice a3_0 a3_0n a3_0c)]).run Tryd.prog w = .ok (.slice (some ⟨w.heap.size, 0, none⟩) 4 4) (w.alloc (.cells [.slice a0_0 a0_0n a0_0c, .slice a1_0 a1_0n a1_0c, .slice a2_0 a2_0n a2_0c, .slice a3_0 a3_0n a3_0c].toArray 28)) := by kernel_rfl
theorem jlael28 : Elem Tryd.prog 28 5 1 1 := Elem.mk' Tryd.underlying28 (z := .int .u8 0) (by kernel_rfl) rfl (by omega) (by omega)
theorem jlabs28_1_5377 (a0_0 : Int) (w : World) : (Instr.buildSlice 28 1 #[(0, .int .u8 a0_0)]).run Tryd.prog w = .ok (.slice (some ⟨w.heap.size, 0, none⟩) 1 1) (w.alloc (.cells [.int .u8 a0_0].toArray 5)) := by kernel_rfl
theorem jlabs40_2_32575 (a0_0 : Option Addr) (a0_0n a0_0c : Nat) (a1_0 : Option Addr) (a1_0n a1_0c : Nat) (w : World) : (Instr.buildSlice 40 2 #[(0, .slice a0_0 a0_0n a0_0c), (1, .slice a1_0 a1_0n a1_0c)]).run Tryd.prog w = .ok (.slice (some ⟨w.heap.size, 0, none⟩) 2 2) (w.alloc (.cells [.slice a0_0 a0_0n a0_0c, .slice a1_0 a1_0n a1_0c].toArray 28)) := by kernel_rfl
theorem jlael40 : Elem Tryd.prog 40 28 1 24 := Elem.mk' Tryd.underlying40 (z := .slice none 0 0) (by kernel_rfl) rfl (by omega) (by omega)
theorem jlaag45 (w : World) : (isAgg 45).run Tryd.prog w = .ok true w := rfl
theorem jlanm22 : (Tryd.f22.name == "runtime.NumGoroutine") = false := by decide
theorem jlabd22 : Tryd.f22.body.isNone = false := rfl
theorem jlanm23 : (Tryd.f23.name == "runtime.NumGoroutine") = false := by decide
theorem jlabd23 : Tryd.f23.body.isNone = false := rfl
theorem jlanm24 : (Tryd.f24.name == "runtime.NumGoroutine") = false := by decide
theorem jlabd24 : Tryd.f24.body.isNone = false := rfl
theorem jlanm25 : (Tryd.f25.name == "runtime.NumGoroutine") = false := by decide
theorem jlabd25 : Tryd.f25.body.isNone = false := rfl
theorem jlanm26 : (Tryd.f26.name == "runtime.NumGoroutine") = false := by decide
theorem jlabd26 : Tryd.f26.body.isNone = false := rfl
theorem jlanm27 : (Tryd.f27.name == "runtime.NumGoroutine") = false := by decide
theorem jlabd27 : Tryd.f27.body.isNone = false := rfl
set_option maxHeartbeats 4000000 in
set_option maxRecDepth 100000 in
theorem journalAccepts_walk (A0 : Option Addr) (n0 c0 : Nat) (l0 : List Int) (A1 : Option Addr) (n1 c1 : Nat) (raw : List Int) (w : World) (hb0 : Byt w w.heap.size A0 n0 l0) (hnc0 : n0 ≤ c0) (hm0 : c0 ≤ maxLen) (hb1 : Byt w w.heap.size A1 n1 raw) (hnc1 : n1 ≤ c1) (hm1 : c1 ≤ maxLen) {ts tk : TypeId} (hst : Blk w 0 ts start8.cells) (hky : Blk w 1 tk (arrOf keysL)) :
  Calls Tryd.prog 4 #[.slice A0 n0 c0, .slice A1 n1 c1] w fun e w' => e = .returned (.bool true) ∧ Below w.heap.size w w' := by
 refine begin_ (vs := [.slice A0 n0 c0, .slice A1 n1 c1]) Tryd.func4 rfl rfl rfl ?_ (Pm.start w)
 refine TC.seq_ (TC.region ?_)
 refine TL.as_ ?_
 refine TL.end_ (TX.then_ (TC.seq_ (TC.seq_ (TC.region ?_))))
 refine TL.pcall1 (r := .bool true) rfl rfl rfl rfl rfl Tryd.func9 jlanm9 jlabd9 (fun w1 hw => awake_any w1 (hst.below hw.bel hst.lt) (hky.below hw.bel hky.lt)) ?_
 iterate 5 (first | refine TL.gu ?_ | refine TL.mv ?_ | refine TL.val rfl rfl rfl (gives_boolnot rfl rfl) ?_)
 refine TL.val rfl rfl rfl (gives_len rfl Tryd.underlying28 rfl) ?_
 refine TL.gu ?_
 refine TL.vsplit rfl rfl rfl (gives_bin rfl rfl rfl (fun w => bin_gtr w)) (fun h36 => ?_) (fun h36 => ?_)
 ·have q36 := of_decide_eq_true h36
  refine TL.pk ?_
  refine TL.end_ (TX.then_ (TC.condT rfl (TC.seq_ (TC.region ?_))))
  refine TL.mv ?_
  refine TL.val rfl rfl rfl (gives_len rfl Tryd.underlying28 rfl) ?_
  refine TL.val rfl rfl rfl (gives_bin rfl rfl rfl (fun w => bin_gtr_t (by omega) w)) ?_
  refine TL.as_ ?_
  refine TL.end_ (TX.then_ (TC.ret_ (TX.then_ret ?_)))
  exact ret_tmp Tryd.results4 rfl (fun w1 hw => ⟨rfl, hw.bel⟩)
 ·have q36 := of_decide_eq_false h36
  have hn1r : n1 ≤ 3000 := by omega
  refine TL.pk ?_
  refine TL.end_ (TX.then_ (TC.condF rfl (TC.skip_ (TX.then_ (TC.seq_ (TC.region ?_))))))
  refine TL.mv ?_
  refine TL.callNew (I := Pm w []) (p := fun cb w => Cod w cb) rfl rfl rfl rfl rfl Tryd.func10 jlanm10 jlabd10 (fun w1 hw => (new_any A0 n0 c0 l0 w1 400 ((hb0.below hw.bel).more hw.bel.size) hnc0 (by have := hm0; unfold maxLen at this; omega) (by decide) (by decide)).mono fun e w2 ⟨h1, h2, h3, _⟩ => ⟨h1, h2, cod_cells h2, h3⟩) cod_stab (fun wn hwn => ?_)
  replace hst := hst.below hwn.bel hst.lt
  replace hky := hky.below hwn.bel hky.lt
  have hb1n := (hb1.below hwn.bel).more hwn.bel.size
  refine TL.as_ ?_
  refine TL.end_ (TX.then_ (TC.seq_ (TC.region ?_)))
  refine TL.mv ?_
  refine TL.pcallCod (k := 0) (α := {b : Bk // BkI b ∧ b.ss.length ≤ 5}) (fun y => bookV y.1) (fun y => bookL y.1 ++ segP y.1.ss) rfl rfl rfl rfl rfl Tryd.func20 jlanm20 jlabd20 rfl (fun w1 hw hC1 => book_cod wn.heap.size w1 hC1) ?_ (fun y => noAbs_app rfl (segP_noAbs _))
  rintro ⟨⟨As, cs, ss, Aa, ca, all, Ad, cd, ch, Ak, ck, key⟩, hB, hss⟩
  dsimp only [bookV] at hB hss ⊢
  refine TL.mem (I' := Pm wn ([.row (.slice As ss.length cs) 28 1 ss.length (ss.map Sl.val), .row (.slice Aa all.length ca) 27 17 all.length (rcs all), .row (.slice Ad ch.dg.length cd) 5 1 ch.dg.length (bv ch.dg), .row (.slice Ak key.length ck) 5 1 key.length (bv key), .abs wn.heap.size (fun w => Cod w wn.heap.size)] ++ segP ss)) (fun w1 hw => hw.perm (perm3 _ _ _)) ?_
  have hj := hB.jr
  obtain ⟨ls, hls⟩ : ∃ ls, ss.map (fun s => s.l) = ls := ⟨_, rfl⟩
  dsimp only at hj
  rw [hls] at hj
  have hJ := jrn_inv hj
  have hf := jrn_fold hj
  have hsg := jrn_seg hj
  have hso : ∀ s ∈ ss, SlOk s := hB.so
  have hlen : ls.length = ss.length := by rw [← hls, List.length_map]
  have hpos : 0 < ss.length := by have := jrn_pos hj; omega
  have hal : all.length + 4 ≤ 4 * ss.length := hB.al
  have hk8 : key.length ≤ 8 := hB.k8
  refine TL.fact (p := ∃ g, As = some ⟨g, 0, none⟩) (fun w1 hw => row_some (hw.at_ (k := 0) rfl) hpos) (fun hg => ?_)
  obtain ⟨gS, rfl⟩ := hg
  iterate 5 (first | refine TL.ex ?_ | refine TL.mv ?_)
  refine TL.pnew rfl rfl rfl (exec_alloc (cs := [.int .i64 0, .int .i64 0, .int .i64 0, .slice none 0 0]) rfl jlazv45 rfl) (fun g8 => ?_)
  refine TL.as_ ?_
  refine TL.as_ ?_
  refine TL.pstore (k := 0) (vs := [.int .i64 ch.v, .int .i64 ch.run, .int .i64 ch.n, .slice Ad ch.dg.length cd]) rfl rfl rfl rfl rfl rfl rfl jlasz45 jlaone_i64i64i64s (by show 4 ≤ 4; decide) (L' := ([.blk g8 45 [.int .i64 ch.v, .int .i64 ch.run, .int .i64 ch.n, .slice Ad ch.dg.length cd], .row (.slice (some ⟨gS, 0, none⟩) ss.length cs) 28 1 ss.length (ss.map Sl.val), .row (.slice Aa all.length ca) 27 17 all.length (rcs all), .row (.slice Ad ch.dg.length cd) 5 1 ch.dg.length (bv ch.dg), .row (.slice Ak key.length ck) 5 1 key.length (bv key), .abs wn.heap.size (fun w => Cod w wn.heap.size)] ++ segP ss)) rfl ?_
  refine TL.as_ ?_
  refine TL.end_ (TX.then_ (TC.seq_ (TC.region ?_)))
  refine TL.mv ?_
  refine TL.pcallCod (k := 5) (α := {b : Bk // BkI b ∧ b.ss.length ≤ 5}) (fun y => bookV y.1) (fun y => bookL y.1 ++ segP y.1.ss) rfl rfl rfl rfl rfl Tryd.func20 jlanm20 jlabd20 rfl (fun w1 hw hC1 => book_cod wn.heap.size w1 hC1) ?_ (fun y => noAbs_app rfl (segP_noAbs _))
  rintro ⟨⟨Aso, cso, sso, Aao, cao, allo, Ado, cdo, cho, Ako, cko, keyo⟩, hBo, hsso⟩
  dsimp only [bookV] at hBo hsso ⊢
  refine TL.mem (I' := Pm wn ([.row (.slice Aso sso.length cso) 28 1 sso.length (sso.map Sl.val), .row (.slice Aao allo.length cao) 27 17 allo.length (rcs allo), .row (.slice Ado cho.dg.length cdo) 5 1 cho.dg.length (bv cho.dg), .row (.slice Ako keyo.length cko) 5 1 keyo.length (bv keyo), .blk g8 45 [.int .i64 ch.v, .int .i64 ch.run, .int .i64 ch.n, .slice Ad ch.dg.length cd], .row (.slice (some ⟨gS, 0, none⟩) ss.length cs) 28 1 ss.length (ss.map Sl.val), .row (.slice Aa all.length ca) 27 17 all.length (rcs all), .row (.slice Ad ch.dg.length cd) 5 1 ch.dg.length (bv ch.dg), .row (.slice Ak key.length ck) 5 1 key.length (bv key), .abs wn.heap.size (fun w => Cod w wn.heap.size)] ++ (segP sso ++ segP ss))) (fun w1 hw => hw.perm (perm4 _ _ _ _)) ?_
  have hjo := hBo.jr
  obtain ⟨lso, hlso⟩ : ∃ ls, sso.map (fun s => s.l) = ls := ⟨_, rfl⟩
  dsimp only at hjo
  rw [hlso] at hjo
  have hJo := jrn_inv hjo
  have hfo := jrn_fold hjo
  have hsgo := jrn_seg hjo
  have hsoo : ∀ s ∈ sso, SlOk s := hBo.so
  have hleno : lso.length = sso.length := by rw [← hlso, List.length_map]
  have hposo : 0 < sso.length := by have := jrn_pos hjo; omega
  have halo : allo.length + 4 ≤ 4 * sso.length := hBo.al
  have hk8o : keyo.length ≤ 8 := hBo.k8
  refine TL.fact (p := ∃ g, Aso = some ⟨g, 0, none⟩) (fun w1 hw => row_some (hw.at_ (k := 0) rfl) hposo) (fun hg => ?_)
  obtain ⟨gSo, rfl⟩ := hg
  iterate 5 (first | refine TL.ex ?_ | refine TL.mv ?_)
  refine TL.pnew rfl rfl rfl (exec_alloc (cs := [.int .i64 0, .int .i64 0, .int .i64 0, .slice none 0 0]) rfl jlazv45 rfl) (fun g12 => ?_)
  refine TL.as_ ?_
  refine TL.as_ ?_
  refine TL.pstore (k := 0) (vs := [.int .i64 cho.v, .int .i64 cho.run, .int .i64 cho.n, .slice Ado cho.dg.length cdo]) rfl rfl rfl rfl rfl rfl rfl jlasz45 jlaone_i64i64i64s (by show 4 ≤ 4; decide) (L' := ([.blk g12 45 [.int .i64 cho.v, .int .i64 cho.run, .int .i64 cho.n, .slice Ado cho.dg.length cdo], .row (.slice (some ⟨gSo, 0, none⟩) sso.length cso) 28 1 sso.length (sso.map Sl.val), .row (.slice Aao allo.length cao) 27 17 allo.length (rcs allo), .row (.slice Ado cho.dg.length cdo) 5 1 cho.dg.length (bv cho.dg), .row (.slice Ako keyo.length cko) 5 1 keyo.length (bv keyo), .blk g8 45 [.int .i64 ch.v, .int .i64 ch.run, .int .i64 ch.n, .slice Ad ch.dg.length cd], .row (.slice (some ⟨gS, 0, none⟩) ss.length cs) 28 1 ss.length (ss.map Sl.val), .row (.slice Aa all.length ca) 27 17 all.length (rcs all), .row (.slice Ad ch.dg.length cd) 5 1 ch.dg.length (bv ch.dg), .row (.slice Ak key.length ck) 5 1 key.length (bv key), .abs wn.heap.size (fun w => Cod w wn.heap.size)] ++ (segP sso ++ segP ss))) rfl ?_
  refine TL.as_ ?_
  refine TL.end_ (TX.then_ (TC.seq_ (TC.region ?_)))
  refine TL.pnew rfl rfl rfl (exec_alloc (cs := [.int .i64 0, .int .i64 0, .int .i64 0, .slice none 0 0]) rfl jlazv45 rfl) (fun g14 => ?_)
  refine TL.end_ (TX.then_ (TC.seq_ (TC.seq_ (TC.region ?_))))
  refine TL.as_ ?_
  refine TL.end_ (TX.then_ (TC.block ?_))
  refine TC.nilrow 5 1 ?_
  refine TC.loop_ (α := {y : (Nat × Chn) × (Option Addr × Nat) // y.1.1 ≤ ss.length + 1 ∧ (foldS key (ls.take y.1.1)).1 = y.1.2 ∧ y.1.2.dg.length ≤ y.2.2 ∧ y.2.2 ≤ maxLen}) (fun y => [(1, .slice A1 n1 c1), (5, .pointer (some ⟨wn.heap.size, 0, none⟩)), (6, .slice (some ⟨gS, 0, none⟩) ss.length cs), (9, .slice Ak key.length ck), (10, .slice (some ⟨gSo, 0, none⟩) sso.length cso), (14, .pointer (some ⟨g14, 0, none⟩)), (15, .int .i64 (y.1.1.1 : Nat))]) (fun y => Pm wn ([.row (.slice (some ⟨gS, 0, none⟩) ss.length cs) 28 1 ss.length (ss.map Sl.val), .row (.slice Ak key.length ck) 5 1 key.length (bv key), .row (.slice (some ⟨gSo, 0, none⟩) sso.length cso) 28 1 sso.length (sso.map Sl.val), .abs wn.heap.size (fun w => Cod w wn.heap.size), .row (.slice y.1.2.1 y.1.1.2.dg.length y.1.2.2) 5 1 y.1.1.2.dg.length (bv y.1.1.2.dg), .blk g14 45 [.int .i64 y.1.1.2.v, .int .i64 y.1.1.2.run, .int .i64 y.1.1.2.n, .slice y.1.2.1 y.1.1.2.dg.length y.1.2.2]] ++ (segP sso ++ segP ss))) (fun y => ss.length + 1 - y.1.1.1) (⟨((0, Chn.zero), (none, 0)), Nat.zero_le _, rfl, Nat.le_refl _, Nat.zero_le _⟩) ⟨rfl, rfl, rfl, rfl, rfl, rfl, rfl, trivial⟩ (fun w1 hw => (show Pm wn ([.row (.slice (some ⟨gS, 0, none⟩) ss.length cs) 28 1 ss.length (ss.map Sl.val), .row (.slice Ak key.length ck) 5 1 key.length (bv key), .row (.slice (some ⟨gSo, 0, none⟩) sso.length cso) 28 1 sso.length (sso.map Sl.val), .abs wn.heap.size (fun w => Cod w wn.heap.size), .row (.slice none Chn.zero.dg.length 0) 5 1 Chn.zero.dg.length (bv Chn.zero.dg), .blk g14 45 [.int .i64 Chn.zero.v, .int .i64 Chn.zero.run, .int .i64 Chn.zero.n, .slice none Chn.zero.dg.length 0]] ++ (segP sso ++ segP ss)) w1 from hw.pickT 13 [8, 11, 3, 12, 0, 1] (by decide) (by decide) rfl rfl)) ?_
  rintro ⟨⟨⟨i, c⟩, ⟨A2, c2⟩⟩, hi, hfo, hd1, hd2⟩
  dsimp only at hi hfo hd1 hd2 ⊢
  refine TC.seq_ (TC.seq_ (TC.region ?_))
  refine TL.mv ?_
  refine TL.mv ?_
  refine TL.val rfl rfl rfl (gives_len rfl Tryd.underlying40 rfl) ?_
  refine TL.vsplit rfl rfl rfl (gives_bin rfl rfl rfl (fun w => bin_leq w)) (fun h60 => ?_) (fun h60 => ?_)
  ·have q60 := of_decide_eq_true h60
   have hi1_ : i ≤ ss.length := by omega
   obtain ⟨hi1, hi2_, hi3, hi4, hi5⟩ := fold_inv hf.2 hsg i (by omega)
   rw [hfo] at hi1 hi2_ hi3 hi4
   refine TL.end_ (TX.then_ (TC.condT rfl (TC.skip_ (TX.then_ (TC.seq_ (TC.block (TC.seq_ ?_)))))))
   refine TC.held (ls := #[Ff,Ff,Ff,Ff,Ff,Ff,Ff,Ff,Ff,Ff,Ff,Ff,Ff,Ff,Ff,Ff,Ff,Ff,Ff,Ff,Ff,Ff,Ff,Ff,Ff,Ff]) (Pm wn [.row (.slice (some ⟨gS, 0, none⟩) ss.length cs) 28 1 ss.length (ss.map Sl.val), .row (.slice (some ⟨gSo, 0, none⟩) sso.length cso) 28 1 sso.length (sso.map Sl.val)]) (by kernel_rfl) rfl rfl (fun w hw => hw.drawn _) ?_
   refine TH.tk (listed' := #[Tt,Ff,Ff,Ff,Ff,Ff,Ff,Ff,Ff,Ff,Ff,Ff,Ff,Ff,Ff,Ff,Ff,Ff,Ff,Ff,Ff,Ff,Ff,Ff,Ff,Ff]) 0 rfl rfl rfl (gives_move rfl rfl) (fun w1 hw => hw.pick [0, 2] (by decide) rfl) ?_
   refine TH.tk (listed' := #[Tt,Tt,Ff,Ff,Ff,Ff,Ff,Ff,Ff,Ff,Ff,Ff,Ff,Ff,Ff,Ff,Ff,Ff,Ff,Ff,Ff,Ff,Ff,Ff,Ff,Ff]) 1 rfl rfl rfl (gives_move rfl rfl) (fun w1 hw => hw.pick [0, 2] (by decide) rfl) ?_
   refine TH.tk (listed' := #[Tt,Tt,Tt,Ff,Ff,Ff,Ff,Ff,Ff,Ff,Ff,Ff,Ff,Ff,Ff,Ff,Ff,Ff,Ff,Ff,Ff,Ff,Ff,Ff,Ff,Ff]) 2 rfl rfl rfl (gives_move rfl rfl) (fun w1 hw => hw.pick [0, 2] (by decide) rfl) ?_
   refine TH.tk (listed' := #[Tt,Tt,Tt,Tt,Ff,Ff,Ff,Ff,Ff,Ff,Ff,Ff,Ff,Ff,Ff,Ff,Ff,Ff,Ff,Ff,Ff,Ff,Ff,Ff,Ff,Ff]) 3 rfl rfl rfl (gives_move rfl rfl) (fun w1 hw => hw.pick [0, 2] (by decide) rfl) ?_
   refine TH.tk (listed' := #[Tt,Tt,Tt,Tt,Tt,Ff,Ff,Ff,Ff,Ff,Ff,Ff,Ff,Ff,Ff,Ff,Ff,Ff,Ff,Ff,Ff,Ff,Ff,Ff,Ff,Ff]) 4 rfl rfl rfl (gives_len rfl Tryd.underlying40 rfl) (fun w1 hw => hw.pick [0, 2] (by decide) rfl) ?_
   refine TH.tk (listed' := #[Tt,Tt,Tt,Tt,Tt,Ff,Ff,Ff,Tt,Ff,Ff,Ff,Ff,Ff,Ff,Ff,Ff,Ff,Ff,Ff,Ff,Ff,Ff,Ff,Ff,Ff]) 8 rfl rfl rfl (gives_move rfl rfl) (fun w1 hw => hw.pick [0, 2] (by decide) rfl) ?_
   refine TH.tk (listed' := #[Tt,Tt,Tt,Tt,Tt,Ff,Ff,Ff,Tt,Tt,Ff,Ff,Ff,Ff,Ff,Ff,Ff,Ff,Ff,Ff,Ff,Ff,Ff,Ff,Ff,Ff]) 9 rfl rfl rfl (gives_move rfl rfl) (fun w1 hw => hw.pick [0, 2] (by decide) rfl) ?_
   refine TH.tk (listed' := #[Tt,Tt,Tt,Tt,Tt,Ff,Ff,Ff,Tt,Tt,Tt,Ff,Ff,Ff,Ff,Ff,Ff,Ff,Ff,Ff,Ff,Ff,Ff,Ff,Ff,Ff]) 10 rfl rfl rfl (gives_move rfl rfl) (fun w1 hw => hw.pick [0, 2] (by decide) rfl) ?_
   refine TH.tk (listed' := #[Tt,Tt,Tt,Tt,Tt,Ff,Ff,Ff,Tt,Tt,Tt,Tt,Ff,Ff,Ff,Ff,Ff,Ff,Ff,Ff,Ff,Ff,Ff,Ff,Ff,Ff]) 11 rfl rfl rfl (gives_len rfl Tryd.underlying40 rfl) (fun w1 hw => hw.pick [0, 2] (by decide) rfl) ?_
   refine TH.tk (listed' := #[Tt,Tt,Tt,Tt,Tt,Ff,Ff,Ff,Tt,Tt,Tt,Tt,Ff,Ff,Ff,Tt,Ff,Ff,Ff,Ff,Ff,Ff,Ff,Ff,Ff,Ff]) 15 rfl rfl rfl (gives_move rfl rfl) (fun w1 hw => hw.pick [0, 2] (by decide) rfl) ?_
   refine TH.tk (listed' := #[Tt,Tt,Tt,Tt,Tt,Ff,Ff,Ff,Tt,Tt,Tt,Tt,Ff,Ff,Ff,Tt,Tt,Ff,Ff,Ff,Ff,Ff,Ff,Ff,Ff,Ff]) 16 rfl rfl rfl (gives_move rfl rfl) (fun w1 hw => hw.pick [0, 2] (by decide) rfl) ?_
   refine TH.tk (listed' := #[Tt,Tt,Tt,Tt,Tt,Ff,Ff,Ff,Tt,Tt,Tt,Tt,Ff,Ff,Ff,Tt,Tt,Tt,Ff,Ff,Ff,Ff,Ff,Ff,Ff,Ff]) 17 rfl rfl rfl (gives_move rfl rfl) (fun w1 hw => hw.pick [0, 2] (by decide) rfl) ?_
   refine TH.tk (listed' := #[Tt,Tt,Tt,Tt,Tt,Ff,Ff,Ff,Tt,Tt,Tt,Tt,Ff,Ff,Ff,Tt,Tt,Tt,Tt,Ff,Ff,Ff,Ff,Ff,Ff,Ff]) 18 rfl rfl rfl (gives_move rfl rfl) (fun w1 hw => hw.pick [0, 2] (by decide) rfl) ?_
   refine TH.tk (listed' := #[Tt,Tt,Tt,Tt,Tt,Ff,Ff,Ff,Tt,Tt,Tt,Tt,Ff,Ff,Ff,Tt,Tt,Tt,Tt,Tt,Ff,Ff,Ff,Ff,Ff,Ff]) 19 rfl rfl rfl (gives_len rfl Tryd.underlying40 rfl) (fun w1 hw => hw.pick [0, 2] (by decide) rfl) ?_
   refine TH.only' (listed' := #[Tt,Tt,Tt,Tt,Tt,Tt,Ff,Ff,Tt,Tt,Tt,Tt,Ff,Ff,Ff,Tt,Tt,Tt,Tt,Tt,Ff,Ff,Ff,Ff,Ff,Ff]) 5 rfl (by kernel_rfl) rfl ?_
   refine TL.pcallCod (k := 3) (α := {x : Nat // x ≤ 65535 ∧ (1 ≤ ((sso.length : Nat) : Int) → (x : Int) < (sso.length : Nat))}) (fun y => .int .i64 (y.1 : Int)) (fun y => []) rfl rfl rfl rfl rfl Tryd.func21 jlanm21 jlabd21 rfl (fun w1 hw hC1 => next_cod wn.heap.size w1 (sso.length : Nat) hC1) ?_
   rintro ⟨x68, hx681, hx682⟩
   dsimp only [List.cons_append, List.nil_append] at hx681 hx682 ⊢
   replace hx682 := hx682 (by omega)
   have hx68b : x68 < sso.length := by omega
   obtain ⟨s1, hs_s1⟩ : ∃ s, sso[x68]? = some s := ⟨_, List.getElem?_eq_getElem (by omega)⟩
   have hm_s1 := List.mem_of_getElem? hs_s1
   have hso_s1 := hsoo s1 hm_s1
   have hsc_s1 : (sso.map Sl.val)[0 + x68 * 1]? = some s1.val := by rw [Nat.zero_add, Nat.mul_one, List.getElem?_map, hs_s1]; rfl
   have hsl_s1 : lso[x68]? = some s1.l := by rw [← hlso, List.getElem?_map, hs_s1]; rfl
   refine TL.end_ ?_
   refine TX.held (fun w1 hw => hw.pick [0, 2] (by decide) rfl) ?_
   refine TH.tk (listed' := #[Tt,Tt,Tt,Tt,Tt,Tt,Tt,Ff,Tt,Tt,Tt,Tt,Ff,Ff,Ff,Tt,Tt,Tt,Tt,Tt,Ff,Ff,Ff,Ff,Ff,Ff]) 6 rfl rfl rfl (gives_at (v := .pointer (some ⟨gSo, 0 + x68 * 1, none⟩)) rfl rfl rfl (fun w => at_el Tryd.underlying40 (fun w => rfl) rfl sso.length cso x68 hx68b rfl w)) (fun w1 hw => hw.pick [0, 2] (by decide) rfl) ?_
   refine TH.tk (listed' := #[Tt,Tt,Tt,Tt,Tt,Tt,Tt,Tt,Tt,Tt,Tt,Tt,Ff,Ff,Ff,Tt,Tt,Tt,Tt,Tt,Ff,Ff,Ff,Ff,Ff,Ff]) 7 rfl rfl rfl (pm_loadRow (k := 1) (v := s1.val) rfl rfl (fun w => rfl) rfl hsc_s1) (fun w1 hw => hw.pick [0, 2] (by decide) rfl) ?_
   refine TH.only' (listed' := #[Tt,Tt,Tt,Tt,Tt,Tt,Tt,Tt,Tt,Tt,Tt,Tt,Tt,Ff,Ff,Tt,Tt,Tt,Tt,Tt,Ff,Ff,Ff,Ff,Ff,Ff]) 12 rfl (by kernel_rfl) rfl ?_
   refine TL.pcallCod (k := 3) (α := {x : Nat // x ≤ 65535 ∧ (1 ≤ ((ss.length : Nat) : Int) → (x : Int) < (ss.length : Nat))}) (fun y => .int .i64 (y.1 : Int)) (fun y => []) rfl rfl rfl rfl rfl Tryd.func21 jlanm21 jlabd21 rfl (fun w1 hw hC1 => next_cod wn.heap.size w1 (ss.length : Nat) hC1) ?_
   rintro ⟨x75, hx751, hx752⟩
   dsimp only [List.cons_append, List.nil_append] at hx751 hx752 ⊢
   replace hx752 := hx752 (by omega)
   have hx75b : x75 < ss.length := by omega
   obtain ⟨t1, hs_t1⟩ : ∃ s, ss[x75]? = some s := ⟨_, List.getElem?_eq_getElem (by omega)⟩
   have hm_t1 := List.mem_of_getElem? hs_t1
   have hso_t1 := hso t1 hm_t1
   have hsc_t1 : (ss.map Sl.val)[0 + x75 * 1]? = some t1.val := by rw [Nat.zero_add, Nat.mul_one, List.getElem?_map, hs_t1]; rfl
   have hsl_t1 : ls[x75]? = some t1.l := by rw [← hls, List.getElem?_map, hs_t1]; rfl
   refine TL.end_ ?_
   refine TX.held (fun w1 hw => hw.pick [0, 2] (by decide) rfl) ?_
   refine TH.tk (listed' := #[Tt,Tt,Tt,Tt,Tt,Tt,Tt,Tt,Tt,Tt,Tt,Tt,Tt,Tt,Ff,Tt,Tt,Tt,Tt,Tt,Ff,Ff,Ff,Ff,Ff,Ff]) 13 rfl rfl rfl (gives_at (v := .pointer (some ⟨gS, 0 + x75 * 1, none⟩)) rfl rfl rfl (fun w => at_el Tryd.underlying40 (fun w => rfl) rfl ss.length cs x75 hx75b rfl w)) (fun w1 hw => hw.pick [0, 2] (by decide) rfl) ?_
   refine TH.tk (listed' := #[Tt,Tt,Tt,Tt,Tt,Tt,Tt,Tt,Tt,Tt,Tt,Tt,Tt,Tt,Tt,Tt,Tt,Tt,Tt,Tt,Ff,Ff,Ff,Ff,Ff,Ff]) 14 rfl rfl rfl (pm_loadRow (k := 0) (v := t1.val) rfl rfl (fun w => rfl) rfl hsc_t1) (fun w1 hw => hw.pick [0, 2] (by decide) rfl) ?_
   refine TH.only' (listed' := #[Tt,Tt,Tt,Tt,Tt,Tt,Tt,Tt,Tt,Tt,Tt,Tt,Tt,Tt,Tt,Tt,Tt,Tt,Tt,Tt,Tt,Ff,Ff,Ff,Ff,Ff]) 20 rfl (by kernel_rfl) rfl ?_
   refine TL.pcallCod (k := 3) (α := {x : Nat // x ≤ 65535 ∧ (1 ≤ ((ss.length : Nat) : Int) → (x : Int) < (ss.length : Nat))}) (fun y => .int .i64 (y.1 : Int)) (fun y => []) rfl rfl rfl rfl rfl Tryd.func21 jlanm21 jlabd21 rfl (fun w1 hw hC1 => next_cod wn.heap.size w1 (ss.length : Nat) hC1) ?_
   rintro ⟨x83, hx831, hx832⟩
   dsimp only [List.cons_append, List.nil_append] at hx831 hx832 ⊢
   replace hx832 := hx832 (by omega)
   have hx83b : x83 < ss.length := by omega
   obtain ⟨u1, hs_u1⟩ : ∃ s, ss[x83]? = some s := ⟨_, List.getElem?_eq_getElem (by omega)⟩
   have hm_u1 := List.mem_of_getElem? hs_u1
   have hso_u1 := hso u1 hm_u1
   have hsc_u1 : (ss.map Sl.val)[0 + x83 * 1]? = some u1.val := by rw [Nat.zero_add, Nat.mul_one, List.getElem?_map, hs_u1]; rfl
   have hsl_u1 : ls[x83]? = some u1.l := by rw [← hls, List.getElem?_map, hs_u1]; rfl
   refine TL.end_ ?_
   refine TX.held (fun w1 hw => hw.pick [0, 2] (by decide) rfl) ?_
   refine TH.tk (listed' := #[Tt,Tt,Tt,Tt,Tt,Tt,Tt,Tt,Tt,Tt,Tt,Tt,Tt,Tt,Tt,Tt,Tt,Tt,Tt,Tt,Tt,Tt,Ff,Ff,Ff,Ff]) 21 rfl rfl rfl (gives_at (v := .pointer (some ⟨gS, 0 + x83 * 1, none⟩)) rfl rfl rfl (fun w => at_el Tryd.underlying40 (fun w => rfl) rfl ss.length cs x83 hx83b rfl w)) (fun w1 hw => hw.pick [0, 2] (by decide) rfl) ?_
   refine TH.tk (listed' := #[Tt,Tt,Tt,Tt,Tt,Tt,Tt,Tt,Tt,Tt,Tt,Tt,Tt,Tt,Tt,Tt,Tt,Tt,Tt,Tt,Tt,Tt,Tt,Ff,Ff,Ff]) 22 rfl rfl rfl (pm_loadRow (k := 0) (v := u1.val) rfl rfl (fun w => rfl) rfl hsc_u1) (fun w1 hw => hw.pick [0, 2] (by decide) rfl) ?_
   refine TH.only' (listed' := #[Tt,Tt,Tt,Tt,Tt,Tt,Tt,Tt,Tt,Tt,Tt,Tt,Tt,Tt,Tt,Tt,Tt,Tt,Tt,Tt,Tt,Tt,Tt,Tt,Ff,Ff]) 23 rfl (by kernel_rfl) rfl ?_
   refine TL.pcallCod (k := 3) (α := {s : Sl // s.n ≤ s.c ∧ s.c ≤ maxLen ∧ s.n ≤ 301 ∧ Bs s.l}) (fun y => .slice y.1.A y.1.n y.1.c) (fun y => [.row (.slice y.1.A y.1.n y.1.c) 5 1 y.1.n (bv y.1.l)]) rfl rfl rfl rfl rfl Tryd.func17 jlanm17 jlabd17 rfl (fun w1 hw hC1 => (spoilt_cod wn.heap.size w1 u1.A u1.n u1.c u1.l hC1 (hw.seg (T := segP sso ++ segP ss) 6 rfl (List.mem_append_right _ (segP_mem hm_u1)) hso_u1.2.2.2.1) (hw.seg_ne (T := segP sso ++ segP ss) (k := 3) 6 rfl (by decide) rfl (List.mem_append_right _ (segP_mem hm_u1))) hso_u1.2.1 (by have := hso_u1.2.2.2.2.2; omega)).mono fun e w3 ⟨A', m, c', l', h1, h2, h3, h4, h5, h6⟩ => ⟨⟨⟨A', m, c', l'⟩, h2, h3, by have := hso_u1.2.2.2.2.2; dsimp only; omega, h5⟩, h1, h6⟩) ?_
   rintro ⟨⟨A5, m5, c5, l5⟩, hm51, hm52, hm53, hm54⟩
   dsimp only [List.cons_append, List.nil_append] at hm51 hm52 hm53 hm54 ⊢
   refine TL.fact (p := l5.length = m5) (fun w1 hw => by have := (hw.at_ (k := 0) rfl).1; simpa [bv_len] using this) (fun hl5 => ?_)
   refine TL.end_ ?_
   refine TX.held (fun w1 hw => hw.pick [1, 3] (by decide) rfl) ?_
   refine TH.only' (listed' := #[Tt,Tt,Tt,Tt,Tt,Tt,Tt,Tt,Tt,Tt,Tt,Tt,Tt,Tt,Tt,Tt,Tt,Tt,Tt,Tt,Tt,Tt,Tt,Tt,Tt,Ff]) 24 rfl (by kernel_rfl) rfl ?_
   refine TL.prowS (e := 28) (size := 1) (cs := ([(⟨A1, n1, c1, raw⟩ : Sl), s1, t1, ⟨A5, m5, c5, l5⟩] : List Sl).map Sl.val) rfl rfl rfl rfl rfl (fun w => jlabs40_4_27298 _ _ _ _ _ _ _ _ _ _ _ _ w) (by decide) rfl (fun g87 => ?_)
   refine TL.end_ ?_
   refine TX.held (fun w1 hw => hw.pick [2, 4] (by decide) rfl) ?_
   refine TH.tk (listed' := #[Tt,Tt,Tt,Tt,Tt,Tt,Tt,Tt,Tt,Tt,Tt,Tt,Tt,Tt,Tt,Tt,Tt,Tt,Tt,Tt,Tt,Tt,Tt,Tt,Tt,Tt]) 25 rfl rfl rfl (gives_assign rfl rfl) (fun w1 hw => hw.pick [2, 4] (by decide) rfl) ?_
   refine TH.done (by kernel_rfl) ?_
   refine TX.then_ ?_
   refine TC.join (α := {y : List Sl × List Sl × (Option Addr × Nat) // 0 < y.2.1.length ∧ y.2.1.length ≤ y.2.2.2 ∧ y.2.2.2 ≤ maxLen ∧ ∀ t ∈ y.2.1, TryOk (⟨A1, n1, c1, raw⟩ : Sl) y.1 sso ss t}) (fun y => [(1, .slice A1 n1 c1), (5, .pointer (some ⟨wn.heap.size, 0, none⟩)), (6, .slice (some ⟨gS, 0, none⟩) ss.length cs), (9, .slice Ak key.length ck), (10, .slice (some ⟨gSo, 0, none⟩) sso.length cso), (14, .pointer (some ⟨g14, 0, none⟩)), (15, .int .i64 (i : Nat)), (16, .slice y.1.2.2.1 y.1.2.1.length y.1.2.2.2)]) (fun y => Pm wn ([.row (.slice y.1.2.2.1 y.1.2.1.length y.1.2.2.2) 28 1 y.1.2.1.length (y.1.2.1.map Sl.val), .row (.slice (some ⟨gS, 0, none⟩) ss.length cs) 28 1 ss.length (ss.map Sl.val), .row (.slice Ak key.length ck) 5 1 key.length (bv key), .row (.slice (some ⟨gSo, 0, none⟩) sso.length cso) 28 1 sso.length (sso.map Sl.val), .abs wn.heap.size (fun w => Cod w wn.heap.size), .row (.slice A2 c.dg.length c2) 5 1 c.dg.length (bv c.dg), .blk g14 45 [.int .i64 c.v, .int .i64 c.run, .int .i64 c.n, .slice A2 c.dg.length c2]] ++ (segP y.1.1 ++ (segP sso ++ segP ss)))) ?_ ?_
   ·refine TC.seq_ (TC.region ?_)
    refine TL.mv ?_
    refine TL.mv ?_
    refine TL.val rfl rfl rfl (gives_len rfl Tryd.underlying40 rfl) ?_
    refine TL.vsplit rfl rfl rfl (gives_bin rfl rfl rfl (fun w => bin_lss w)) (fun h91 => ?_) (fun h91 => ?_)
    ·have q91 := of_decide_eq_true h91
     have hi2 : i < ss.length := by omega
     obtain ⟨s, hs_s⟩ : ∃ s, ss[i]? = some s := ⟨_, List.getElem?_eq_getElem (by omega)⟩
     have hm_s := List.mem_of_getElem? hs_s
     have hso_s := hso s hm_s
     have hsc_s : (ss.map Sl.val)[0 + i * 1]? = some s.val := by rw [Nat.zero_add, Nat.mul_one, List.getElem?_map, hs_s]; rfl
     have hsl_s : ls[i]? = some s.l := by rw [← hls, List.getElem?_map, hs_s]; rfl
     refine TL.end_ (TX.then_ (TC.condT rfl ?_))
     refine TC.held (ls := #[Ff,Ff,Ff,Ff,Ff,Ff,Ff,Ff,Ff,Ff,Ff,Ff,Ff,Ff,Ff]) (Pm wn [.row (.slice (some ⟨gS, 0, none⟩) ss.length cs) 28 1 ss.length (ss.map Sl.val)]) (by kernel_rfl) rfl rfl (fun w hw => hw.drawn _) ?_
     refine TH.tk (listed' := #[Tt,Ff,Ff,Ff,Ff,Ff,Ff,Ff,Ff,Ff,Ff,Ff,Ff,Ff,Ff]) 0 rfl rfl rfl (gives_move rfl rfl) (fun w1 hw => hw.pick [2] (by decide) rfl) ?_
     refine TH.tk (listed' := #[Tt,Tt,Ff,Ff,Ff,Ff,Ff,Ff,Ff,Ff,Ff,Ff,Ff,Ff,Ff]) 1 rfl rfl rfl (gives_move rfl rfl) (fun w1 hw => hw.pick [2] (by decide) rfl) ?_
     refine TH.tk (listed' := #[Tt,Tt,Tt,Ff,Ff,Ff,Ff,Ff,Ff,Ff,Ff,Ff,Ff,Ff,Ff]) 2 rfl rfl rfl (gives_move rfl rfl) (fun w1 hw => hw.pick [2] (by decide) rfl) ?_
     refine TH.tk (listed' := #[Tt,Tt,Tt,Tt,Ff,Ff,Ff,Ff,Ff,Ff,Ff,Ff,Ff,Ff,Ff]) 3 rfl rfl rfl (gives_at (v := .pointer (some ⟨gS, 0 + i * 1, none⟩)) rfl rfl rfl (fun w => at_el Tryd.underlying40 (fun w => rfl) rfl ss.length cs i hi2 rfl w)) (fun w1 hw => hw.pick [2] (by decide) rfl) ?_
     refine TH.tk (listed' := #[Tt,Tt,Tt,Tt,Tt,Ff,Ff,Ff,Ff,Ff,Ff,Ff,Ff,Ff,Ff]) 4 rfl rfl rfl (pm_loadRow (k := 0) (v := s.val) rfl rfl (fun w => rfl) rfl hsc_s) (fun w1 hw => hw.pick [2] (by decide) rfl) ?_
     refine TH.tk (listed' := #[Tt,Tt,Tt,Tt,Tt,Tt,Ff,Ff,Ff,Ff,Ff,Ff,Ff,Ff,Ff]) 5 rfl rfl rfl (gives_move rfl rfl) (fun w1 hw => hw.pick [2] (by decide) rfl) ?_
     refine TH.tk (listed' := #[Tt,Tt,Tt,Tt,Tt,Tt,Tt,Ff,Ff,Ff,Ff,Ff,Ff,Ff,Ff]) 6 rfl rfl rfl (gives_move rfl rfl) (fun w1 hw => hw.pick [2] (by decide) rfl) ?_
     refine TH.tk (listed' := #[Tt,Tt,Tt,Tt,Tt,Tt,Tt,Tt,Ff,Ff,Ff,Ff,Ff,Ff,Ff]) 7 rfl rfl rfl (gives_at (v := .pointer (some ⟨gS, 0 + i * 1, none⟩)) rfl rfl rfl (fun w => at_el Tryd.underlying40 (fun w => rfl) rfl ss.length cs i hi2 rfl w)) (fun w1 hw => hw.pick [2] (by decide) rfl) ?_
     refine TH.tk (listed' := #[Tt,Tt,Tt,Tt,Tt,Tt,Tt,Tt,Tt,Ff,Ff,Ff,Ff,Ff,Ff]) 8 rfl rfl rfl (pm_loadRow (k := 0) (v := s.val) rfl rfl (fun w => rfl) rfl hsc_s) (fun w1 hw => hw.pick [2] (by decide) rfl) ?_
     refine TH.two' (listed1 := #[Tt,Tt,Tt,Tt,Tt,Tt,Tt,Tt,Tt,Tt,Ff,Ff,Ff,Ff,Ff]) (listed2 := #[Tt,Tt,Tt,Tt,Tt,Tt,Tt,Tt,Tt,Ff,Tt,Ff,Ff,Ff,Ff]) 9 10 rfl rfl (by kernel_rfl) rfl rfl ?_ ?_
     ·refine TL.nilrow 5 1 ?_
      refine TL.appendT (k := 0) rfl rfl rfl rfl Tryd.underlying28 jlael28 rfl rfl rfl (fun w1 hw => ⟨_, (hw.seg (T := segP sso ++ segP ss) 9 rfl (List.mem_append_right _ (segP_mem hm_s)) hso_s.2.2.2.1).1⟩) (bv_one _) (by have := hso_s.2.2.2.2.2; omega) (s.l.length) (by rw [Nat.zero_add]; exact hso_s.1) (bv s.l) (by rfl) (fun A101 c101 hA1011 hA1012 => ?_)
      refine TL.end_ ?_
      refine TX.held (fun w1 hw => hw.pick [3] (by decide) rfl) ?_
      refine TH.only' (listed' := #[Tt,Tt,Tt,Tt,Tt,Tt,Tt,Tt,Tt,Tt,Tt,Ff,Ff,Ff,Ff]) 10 rfl (by kernel_rfl) rfl ?_
      refine TL.prowS (e := 5) (size := 1) (cs := bv [0]) rfl rfl rfl rfl rfl (fun w => jlabs28_1_5377 _ w) (by decide) rfl (fun g102 => ?_)
      refine TL.end_ ?_
      refine TX.held (fun w1 hw => hw.pick [4] (by decide) rfl) ?_
      refine TH.only' (listed' := #[Tt,Tt,Tt,Tt,Tt,Tt,Tt,Tt,Tt,Tt,Tt,Tt,Ff,Ff,Ff]) 11 rfl (by kernel_rfl) rfl ?_
      refine TL.appendT (k := 1) rfl rfl rfl rfl Tryd.underlying28 jlael28 rfl rfl rfl (fun w1 hw => pm_reads hw (k := 0) rfl) (bv_one _) (by have := hso_s.2.2.2.2.2; have := hso_s.1; omega) ((s.l ++ [0]).length) (by rw [List.length_append]; rfl) (bv (s.l ++ [0])) (by rw [bv_app]) (fun A103 c103 hA1031 hA1032 => ?_)
      refine TL.end_ ?_
      refine TX.held (fun w1 hw => hw.pick [4] (by decide) rfl) ?_
      refine TH.only' (listed' := #[Tt,Tt,Tt,Tt,Tt,Tt,Tt,Tt,Tt,Tt,Tt,Tt,Tt,Ff,Ff]) 12 rfl (by kernel_rfl) rfl ?_
      refine TL.prowS (e := 28) (size := 1) (cs := [s, (⟨A103, (s.l ++ [0]).length, c103, s.l ++ [0]⟩ : Sl)].map Sl.val) rfl rfl rfl rfl rfl (fun w => jlabs40_2_32575 _ _ _ _ _ _ w) (by decide) rfl (fun g104 => ?_)
      refine TL.end_ ?_
      refine TX.held (fun w1 hw => hw.pick [5] (by decide) rfl) ?_
      refine TH.only' (listed' := #[Tt,Tt,Tt,Tt,Tt,Tt,Tt,Tt,Tt,Tt,Tt,Tt,Tt,Tt,Ff]) 13 rfl (by kernel_rfl) rfl ?_
      refine TL.appendT (k := 3) rfl rfl rfl rfl Tryd.underlying40 jlael40 rfl rfl rfl (fun w1 hw => pm_reads hw (k := 0) rfl) (svals_one _) (by decide) ((([(⟨A1, n1, c1, raw⟩ : Sl), s1, t1, ⟨A5, m5, c5, l5⟩] : List Sl) ++ [s, (⟨A103, (s.l ++ [0]).length, c103, s.l ++ [0]⟩ : Sl)]).length) (by rfl) ((([(⟨A1, n1, c1, raw⟩ : Sl), s1, t1, ⟨A5, m5, c5, l5⟩] : List Sl) ++ [s, (⟨A103, (s.l ++ [0]).length, c103, s.l ++ [0]⟩ : Sl)]).map Sl.val) (by rw [List.map_append]) (fun A105 c105 hA1051 hA1052 => ?_)
      refine TL.end_ ?_
      refine TX.held (fun w1 hw => hw.pick [5] (by decide) rfl) ?_
      refine TH.tk (listed' := #[Tt,Tt,Tt,Tt,Tt,Tt,Tt,Tt,Tt,Tt,Tt,Tt,Tt,Tt,Tt]) 14 rfl rfl rfl (gives_assign rfl rfl) (fun w1 hw => hw.pick [5] (by decide) rfl) ?_
      refine TH.done (by kernel_rfl) ?_
      exact TX.joined (⟨([(⟨A5, m5, c5, l5⟩ : Sl), (⟨A103, (s.l ++ [0]).length, c103, s.l ++ [0]⟩ : Sl)], (([(⟨A1, n1, c1, raw⟩ : Sl), s1, t1, ⟨A5, m5, c5, l5⟩] : List Sl) ++ [s, (⟨A103, (s.l ++ [0]).length, c103, s.l ++ [0]⟩ : Sl)]), (A105, c105)), by dsimp only; exact ⟨Nat.succ_pos _, hA1051, hA1052, tries6 hn1r hnc1 hb1.2 hm_s1 hso_s1 hm_t1 hso_t1 hm51 hm53 hm54 hm_s hso_s hA1031⟩⟩) (⟨rfl, rfl, rfl, rfl, rfl, rfl, rfl, rfl, trivial⟩) (fun w1 hw => (show Pm wn ([.row (.slice A105 ((([(⟨A1, n1, c1, raw⟩ : Sl), s1, t1, ⟨A5, m5, c5, l5⟩] : List Sl) ++ [s, (⟨A103, (s.l ++ [0]).length, c103, s.l ++ [0]⟩ : Sl)]).length) c105) 28 1 ((([(⟨A1, n1, c1, raw⟩ : Sl), s1, t1, ⟨A5, m5, c5, l5⟩] : List Sl) ++ [s, (⟨A103, (s.l ++ [0]).length, c103, s.l ++ [0]⟩ : Sl)]).length) ((([(⟨A1, n1, c1, raw⟩ : Sl), s1, t1, ⟨A5, m5, c5, l5⟩] : List Sl) ++ [s, (⟨A103, (s.l ++ [0]).length, c103, s.l ++ [0]⟩ : Sl)]).map Sl.val), .row (.slice (some ⟨gS, 0, none⟩) ss.length cs) 28 1 ss.length (ss.map Sl.val), .row (.slice Ak key.length ck) 5 1 key.length (bv key), .row (.slice (some ⟨gSo, 0, none⟩) sso.length cso) 28 1 sso.length (sso.map Sl.val), .abs wn.heap.size (fun w => Cod w wn.heap.size), .row (.slice A2 c.dg.length c2) 5 1 c.dg.length (bv c.dg), .blk g14 45 [.int .i64 c.v, .int .i64 c.run, .int .i64 c.n, .slice A2 c.dg.length c2]] ++ (segP [(⟨A5, m5, c5, l5⟩ : Sl), (⟨A103, (s.l ++ [0]).length, c103, s.l ++ [0]⟩ : Sl)] ++ (segP sso ++ segP ss))) w1 from Pm.tuck2 (s := ⟨A5, m5, c5, l5⟩) (t := (⟨A103, (s.l ++ [0]).length, c103, s.l ++ [0]⟩ : Sl)) (T := (segP sso ++ segP ss)) (hw.pickT 11 [2, 4, 3, 5, 6, 7, 8, 9, 10] (by decide) (by decide) rfl rfl)))
     ·refine TL.prowS (e := 5) (size := 1) (cs := bv [0]) rfl rfl rfl rfl rfl (fun w => jlabs28_1_5377 _ w) (by decide) rfl (fun g102 => ?_)
      refine TL.end_ ?_
      refine TX.held (fun w1 hw => hw.pick [3] (by decide) rfl) ?_
      refine TH.only' (listed' := #[Tt,Tt,Tt,Tt,Tt,Tt,Tt,Tt,Tt,Tt,Tt,Ff,Ff,Ff,Ff]) 9 rfl (by kernel_rfl) rfl ?_
      refine TL.nilrow 5 1 ?_
      refine TL.appendT (k := 0) rfl rfl rfl rfl Tryd.underlying28 jlael28 rfl rfl rfl (fun w1 hw => ⟨_, (hw.seg (T := segP sso ++ segP ss) 10 rfl (List.mem_append_right _ (segP_mem hm_s)) hso_s.2.2.2.1).1⟩) (bv_one _) (by have := hso_s.2.2.2.2.2; omega) (s.l.length) (by rw [Nat.zero_add]; exact hso_s.1) (bv s.l) (by rfl) (fun A101 c101 hA1011 hA1012 => ?_)
      refine TL.end_ ?_
      refine TX.held (fun w1 hw => hw.pick [4] (by decide) rfl) ?_
      refine TH.only' (listed' := #[Tt,Tt,Tt,Tt,Tt,Tt,Tt,Tt,Tt,Tt,Tt,Tt,Ff,Ff,Ff]) 11 rfl (by kernel_rfl) rfl ?_
      refine TL.appendT (k := 0) rfl rfl rfl rfl Tryd.underlying28 jlael28 rfl rfl rfl (fun w1 hw => pm_reads hw (k := 1) rfl) (bv_one _) (by have := hso_s.2.2.2.2.2; have := hso_s.1; omega) ((s.l ++ [0]).length) (by rw [List.length_append]; rfl) (bv (s.l ++ [0])) (by rw [bv_app]) (fun A103 c103 hA1031 hA1032 => ?_)
      refine TL.end_ ?_
      refine TX.held (fun w1 hw => hw.pick [4] (by decide) rfl) ?_
      refine TH.only' (listed' := #[Tt,Tt,Tt,Tt,Tt,Tt,Tt,Tt,Tt,Tt,Tt,Tt,Tt,Ff,Ff]) 12 rfl (by kernel_rfl) rfl ?_
      refine TL.prowS (e := 28) (size := 1) (cs := [s, (⟨A103, (s.l ++ [0]).length, c103, s.l ++ [0]⟩ : Sl)].map Sl.val) rfl rfl rfl rfl rfl (fun w => jlabs40_2_32575 _ _ _ _ _ _ w) (by decide) rfl (fun g104 => ?_)
      refine TL.end_ ?_
      refine TX.held (fun w1 hw => hw.pick [5] (by decide) rfl) ?_
      refine TH.only' (listed' := #[Tt,Tt,Tt,Tt,Tt,Tt,Tt,Tt,Tt,Tt,Tt,Tt,Tt,Tt,Ff]) 13 rfl (by kernel_rfl) rfl ?_
      refine TL.appendT (k := 3) rfl rfl rfl rfl Tryd.underlying40 jlael40 rfl rfl rfl (fun w1 hw => pm_reads hw (k := 0) rfl) (svals_one _) (by decide) ((([(⟨A1, n1, c1, raw⟩ : Sl), s1, t1, ⟨A5, m5, c5, l5⟩] : List Sl) ++ [s, (⟨A103, (s.l ++ [0]).length, c103, s.l ++ [0]⟩ : Sl)]).length) (by rfl) ((([(⟨A1, n1, c1, raw⟩ : Sl), s1, t1, ⟨A5, m5, c5, l5⟩] : List Sl) ++ [s, (⟨A103, (s.l ++ [0]).length, c103, s.l ++ [0]⟩ : Sl)]).map Sl.val) (by rw [List.map_append]) (fun A105 c105 hA1051 hA1052 => ?_)
      refine TL.end_ ?_
      refine TX.held (fun w1 hw => hw.pick [5] (by decide) rfl) ?_
      refine TH.tk (listed' := #[Tt,Tt,Tt,Tt,Tt,Tt,Tt,Tt,Tt,Tt,Tt,Tt,Tt,Tt,Tt]) 14 rfl rfl rfl (gives_assign rfl rfl) (fun w1 hw => hw.pick [5] (by decide) rfl) ?_
      refine TH.done (by kernel_rfl) ?_
      exact TX.joined (⟨([(⟨A5, m5, c5, l5⟩ : Sl), (⟨A103, (s.l ++ [0]).length, c103, s.l ++ [0]⟩ : Sl)], (([(⟨A1, n1, c1, raw⟩ : Sl), s1, t1, ⟨A5, m5, c5, l5⟩] : List Sl) ++ [s, (⟨A103, (s.l ++ [0]).length, c103, s.l ++ [0]⟩ : Sl)]), (A105, c105)), by dsimp only; exact ⟨Nat.succ_pos _, hA1051, hA1052, tries6 hn1r hnc1 hb1.2 hm_s1 hso_s1 hm_t1 hso_t1 hm51 hm53 hm54 hm_s hso_s hA1031⟩⟩) (⟨rfl, rfl, rfl, rfl, rfl, rfl, rfl, rfl, trivial⟩) (fun w1 hw => (show Pm wn ([.row (.slice A105 ((([(⟨A1, n1, c1, raw⟩ : Sl), s1, t1, ⟨A5, m5, c5, l5⟩] : List Sl) ++ [s, (⟨A103, (s.l ++ [0]).length, c103, s.l ++ [0]⟩ : Sl)]).length) c105) 28 1 ((([(⟨A1, n1, c1, raw⟩ : Sl), s1, t1, ⟨A5, m5, c5, l5⟩] : List Sl) ++ [s, (⟨A103, (s.l ++ [0]).length, c103, s.l ++ [0]⟩ : Sl)]).length) ((([(⟨A1, n1, c1, raw⟩ : Sl), s1, t1, ⟨A5, m5, c5, l5⟩] : List Sl) ++ [s, (⟨A103, (s.l ++ [0]).length, c103, s.l ++ [0]⟩ : Sl)]).map Sl.val), .row (.slice (some ⟨gS, 0, none⟩) ss.length cs) 28 1 ss.length (ss.map Sl.val), .row (.slice Ak key.length ck) 5 1 key.length (bv key), .row (.slice (some ⟨gSo, 0, none⟩) sso.length cso) 28 1 sso.length (sso.map Sl.val), .abs wn.heap.size (fun w => Cod w wn.heap.size), .row (.slice A2 c.dg.length c2) 5 1 c.dg.length (bv c.dg), .blk g14 45 [.int .i64 c.v, .int .i64 c.run, .int .i64 c.n, .slice A2 c.dg.length c2]] ++ (segP [(⟨A5, m5, c5, l5⟩ : Sl), (⟨A103, (s.l ++ [0]).length, c103, s.l ++ [0]⟩ : Sl)] ++ (segP sso ++ segP ss))) w1 from Pm.tuck2 (s := ⟨A5, m5, c5, l5⟩) (t := (⟨A103, (s.l ++ [0]).length, c103, s.l ++ [0]⟩ : Sl)) (T := (segP sso ++ segP ss)) (hw.pickT 11 [1, 4, 3, 5, 6, 7, 8, 9, 10] (by decide) (by decide) rfl rfl)))
    ·have q91 := of_decide_eq_false h91
     refine TL.end_ (TX.then_ (TC.condF rfl (TC.skip_ ?_)))
     exact TX.joined (⟨([(⟨A5, m5, c5, l5⟩ : Sl)], ([(⟨A1, n1, c1, raw⟩ : Sl), s1, t1, ⟨A5, m5, c5, l5⟩] : List Sl), ((some ⟨g87, 0, none⟩), 4)), by dsimp only; exact ⟨Nat.succ_pos _, Nat.le_refl 4, by unfold maxLen; omega, tries4 hn1r hnc1 hb1.2 hm_s1 hso_s1 hm_t1 hso_t1 hm51 hm53 hm54 List.mem_cons_self⟩⟩) (⟨rfl, rfl, rfl, rfl, rfl, rfl, rfl, rfl, trivial⟩) (fun w1 hw => (show Pm wn ([.row (.slice (some ⟨g87, 0, none⟩) (([(⟨A1, n1, c1, raw⟩ : Sl), s1, t1, ⟨A5, m5, c5, l5⟩] : List Sl).length) 4) 28 1 (([(⟨A1, n1, c1, raw⟩ : Sl), s1, t1, ⟨A5, m5, c5, l5⟩] : List Sl).length) (([(⟨A1, n1, c1, raw⟩ : Sl), s1, t1, ⟨A5, m5, c5, l5⟩] : List Sl).map Sl.val), .row (.slice (some ⟨gS, 0, none⟩) ss.length cs) 28 1 ss.length (ss.map Sl.val), .row (.slice Ak key.length ck) 5 1 key.length (bv key), .row (.slice (some ⟨gSo, 0, none⟩) sso.length cso) 28 1 sso.length (sso.map Sl.val), .abs wn.heap.size (fun w => Cod w wn.heap.size), .row (.slice A2 c.dg.length c2) 5 1 c.dg.length (bv c.dg), .blk g14 45 [.int .i64 c.v, .int .i64 c.run, .int .i64 c.n, .slice A2 c.dg.length c2]] ++ (segP [(⟨A5, m5, c5, l5⟩ : Sl)] ++ (segP sso ++ segP ss))) w1 from Pm.tuck (s := ⟨A5, m5, c5, l5⟩) (S := []) (T := (segP sso ++ segP ss)) (hw.pickT 8 [1, 0, 2, 3, 4, 5, 6, 7] (by decide) (by decide) rfl rfl)))
   ·rintro ⟨⟨ex, tr, ⟨At, ct⟩⟩, ht0, ht1, ht2, htr⟩
    dsimp only at ht0 ht1 ht2 htr ⊢
    unfold maxLen at ht2
    refine TC.fact (p := ∃ g, At = some ⟨g, 0, none⟩) (fun w1 hw => row_some (hw.at_ (k := 0) rfl) ht0) (fun hg => ?_)
    obtain ⟨gT, rfl⟩ := hg
    refine TC.seq_ (TC.seq_ (TC.region ?_))
    refine TL.as_ ?_
    refine TL.end_ (TX.then_ (TC.block ?_))
    refine TC.loop_ (α := {k : Nat // k ≤ tr.length}) (fun y => [(1, .slice A1 n1 c1), (5, .pointer (some ⟨wn.heap.size, 0, none⟩)), (6, .slice (some ⟨gS, 0, none⟩) ss.length cs), (9, .slice Ak key.length ck), (10, .slice (some ⟨gSo, 0, none⟩) sso.length cso), (14, .pointer (some ⟨g14, 0, none⟩)), (15, .int .i64 (i : Nat)), (16, .slice (some ⟨gT, 0, none⟩) tr.length ct), (17, .int .i64 (y.1 : Nat))]) (fun y => Pm wn ([.row (.slice (some ⟨gT, 0, none⟩) tr.length ct) 28 1 tr.length (tr.map Sl.val), .row (.slice (some ⟨gS, 0, none⟩) ss.length cs) 28 1 ss.length (ss.map Sl.val), .row (.slice Ak key.length ck) 5 1 key.length (bv key), .row (.slice (some ⟨gSo, 0, none⟩) sso.length cso) 28 1 sso.length (sso.map Sl.val), .abs wn.heap.size (fun w => Cod w wn.heap.size), .row (.slice A2 c.dg.length c2) 5 1 c.dg.length (bv c.dg), .blk g14 45 [.int .i64 c.v, .int .i64 c.run, .int .i64 c.n, .slice A2 c.dg.length c2]] ++ (segP ex ++ (segP sso ++ segP ss)))) (fun y => tr.length - y.1) (⟨0, Nat.zero_le _⟩) ⟨rfl, rfl, rfl, rfl, rfl, rfl, rfl, rfl, rfl, trivial⟩ (fun w1 hw => hw) ?_
    rintro ⟨k, hk⟩
    dsimp only at hk ⊢
    refine TC.seq_ (TC.seq_ (TC.region ?_))
    refine TL.mv ?_
    refine TL.mv ?_
    refine TL.val rfl rfl rfl (gives_len rfl Tryd.underlying40 rfl) ?_
    refine TL.vsplit rfl rfl rfl (gives_bin rfl rfl rfl (fun w => bin_lss w)) (fun h109 => ?_) (fun h109 => ?_)
    ·have q109 := of_decide_eq_true h109
     have hk2 : k < tr.length := by omega
     obtain ⟨t, ht⟩ : ∃ t, tr[k]? = some t := ⟨_, List.getElem?_eq_getElem hk2⟩
     have htm := htr t (List.mem_of_getElem? ht)
     have hsc_t : (tr.map Sl.val)[0 + k * 1]? = some t.val := by rw [Nat.zero_add, Nat.mul_one, List.getElem?_map, ht]; rfl
     refine TL.end_ (TX.then_ (TC.condT rfl (TC.skip_ (TX.then_ (TC.seq_ (TC.block ?_))))))
     refine TC.join (α := Nat × AccY (accC c t.l key) (accL c t.l key)) (fun y => [(1, .slice A1 n1 c1), (5, .pointer (some ⟨wn.heap.size, 0, none⟩)), (6, .slice (some ⟨gS, 0, none⟩) ss.length cs), (9, .slice Ak key.length ck), (10, .slice (some ⟨gSo, 0, none⟩) sso.length cso), (14, .pointer (some ⟨g14, 0, none⟩)), (15, .int .i64 (i : Nat)), (16, .slice (some ⟨gT, 0, none⟩) tr.length ct), (17, .int .i64 (k : Nat)), (18, .pointer (some ⟨y.1, 0, none⟩)), (19, .slice y.2.1.1.1 ((accL c t.l key).length) y.2.1.1.2), (20, .int .i64 (accE c t.l key))]) (fun y => Pm wn ([.row (.slice y.2.1.1.1 ((accL c t.l key).length) y.2.1.1.2) 27 17 ((accL c t.l key).length) (rcs (accL c t.l key)), .row (.slice y.2.1.2.1 ((accC c t.l key).dg.length) y.2.1.2.2) 5 1 ((accC c t.l key).dg.length) (bv (accC c t.l key).dg), .blk y.1 45 [.int .i64 ((accC c t.l key).v), .int .i64 ((accC c t.l key).run), .int .i64 ((accC c t.l key).n), .slice y.2.1.2.1 ((accC c t.l key).dg.length) y.2.1.2.2], .row (.slice (some ⟨gT, 0, none⟩) tr.length ct) 28 1 tr.length (tr.map Sl.val), .row (.slice (some ⟨gS, 0, none⟩) ss.length cs) 28 1 ss.length (ss.map Sl.val), .row (.slice Ak key.length ck) 5 1 key.length (bv key), .row (.slice (some ⟨gSo, 0, none⟩) sso.length cso) 28 1 sso.length (sso.map Sl.val), .abs wn.heap.size (fun w => Cod w wn.heap.size), .row (.slice A2 c.dg.length c2) 5 1 c.dg.length (bv c.dg), .blk g14 45 [.int .i64 c.v, .int .i64 c.run, .int .i64 c.n, .slice A2 c.dg.length c2]] ++ (segP ex ++ (segP sso ++ segP ss)))) ?_ ?_
     ·refine TC.held (ls := #[Ff,Ff,Ff,Ff,Ff,Ff,Ff,Ff,Ff,Ff,Ff,Ff,Ff,Ff,Ff]) (Pm wn [.row (.slice (some ⟨gT, 0, none⟩) tr.length ct) 28 1 tr.length (tr.map Sl.val), .blk g14 45 [.int .i64 c.v, .int .i64 c.run, .int .i64 c.n, .slice A2 c.dg.length c2]]) (by kernel_rfl) rfl rfl (fun w hw => hw.drawn _) ?_
      refine TH.tk (listed' := #[Tt,Ff,Ff,Ff,Ff,Ff,Ff,Ff,Ff,Ff,Ff,Ff,Ff,Ff,Ff]) 0 rfl rfl rfl (pm_loadV (k := 1) (i := 0) (n := 4) (v := .agg #[.int .i64 c.v, .int .i64 c.run, .int .i64 c.n, .slice A2 c.dg.length c2]) rfl rfl jlaag45 jlasz45 rfl (by show 4 ≤ 4; decide) rfl) (fun w1 hw => hw.pick [0, 6] (by decide) rfl) ?_
      refine TH.tk (listed' := #[Tt,Tt,Ff,Ff,Ff,Ff,Ff,Ff,Ff,Ff,Ff,Ff,Ff,Ff,Ff]) 1 rfl rfl rfl (gives_move rfl rfl) (fun w1 hw => hw.pick [0, 6] (by decide) rfl) ?_
      refine TH.tk (listed' := #[Tt,Tt,Tt,Ff,Ff,Ff,Ff,Ff,Ff,Ff,Ff,Ff,Ff,Ff,Ff]) 2 rfl rfl rfl (gives_move rfl rfl) (fun w1 hw => hw.pick [0, 6] (by decide) rfl) ?_
      refine TH.tk (listed' := #[Tt,Tt,Tt,Tt,Ff,Ff,Ff,Ff,Ff,Ff,Ff,Ff,Ff,Ff,Ff]) 3 rfl rfl rfl (gives_at (v := .pointer (some ⟨gT, 0 + k * 1, none⟩)) rfl rfl rfl (fun w => at_el Tryd.underlying40 (fun w => rfl) rfl tr.length ct k hk2 rfl w)) (fun w1 hw => hw.pick [0, 6] (by decide) rfl) ?_
      refine TH.tk (listed' := #[Tt,Tt,Tt,Tt,Tt,Ff,Ff,Ff,Ff,Ff,Ff,Ff,Ff,Ff,Ff]) 4 rfl rfl rfl (pm_loadRow (k := 0) (v := t.val) rfl rfl (fun w => rfl) rfl hsc_t) (fun w1 hw => hw.pick [0, 6] (by decide) rfl) ?_
      refine TH.tk (listed' := #[Tt,Tt,Tt,Tt,Tt,Tt,Ff,Ff,Ff,Ff,Ff,Ff,Ff,Ff,Ff]) 5 rfl rfl rfl (gives_move rfl rfl) (fun w1 hw => hw.pick [0, 6] (by decide) rfl) ?_
      refine TH.two' (listed1 := #[Tt,Tt,Tt,Tt,Tt,Tt,Tt,Ff,Ff,Ff,Ff,Ff,Ff,Ff,Ff]) (listed2 := #[Tt,Tt,Tt,Tt,Tt,Tt,Ff,Ff,Ff,Ff,Ff,Tt,Ff,Ff,Ff]) 6 11 rfl rfl (by kernel_rfl) rfl rfl ?_ ?_
      ·refine TL.pcallPm (α := AccY (accC c t.l key) (accL c t.l key)) (fun y => .tuple #[.agg #[.int .i64 ((accC c t.l key).v), .int .i64 ((accC c t.l key).run), .int .i64 ((accC c t.l key).n), .slice y.1.2.1 ((accC c t.l key).dg.length) y.1.2.2], .slice y.1.1.1 ((accL c t.l key).length) y.1.1.2, .int .i64 (accE c t.l key)]) (fun y => [.row (.slice y.1.1.1 ((accL c t.l key).length) y.1.1.2) 27 17 ((accL c t.l key).length) (rcs (accL c t.l key)), .row (.slice y.1.2.1 ((accC c t.l key).dg.length) y.1.2.2) 5 1 ((accC c t.l key).dg.length) (bv (accC c t.l key).dg)]) rfl rfl rfl rfl rfl Tryd.func22 jlanm22 jlabd22 (fun w1 hw => (accept_any A2 _ c2 c t.A t.n t.c t.l Ak _ ck key w1 (byt_own (hw.at_ (k := 5) rfl) hi4) (try_byt hw 7 rfl hb1n htm.1 htm.2.1) (byt_own (hw.at_ (k := 2) rfl) hB.kb) htm.2.2.1 (by have := htm.2.2.2; omega) (by omega) (by omega) (by omega) (hst.below hw.bel hst.lt) (hky.below hw.bel hky.lt)).mono fun e w2 h => h.use) ?_
       rintro ⟨⟨⟨AR1, cR1⟩, ⟨DR1, eR1⟩⟩, ⟨hAR11, hAR12⟩, ⟨hDR11, hDR12⟩⟩
       dsimp only [List.cons_append, List.nil_append]
       dsimp only at hAR11 hAR12 hDR11 hDR12
       refine TL.end_ ?_
       refine TX.held (fun w1 hw => hw.pick [2, 8] (by decide) rfl) ?_
       refine TH.tk (listed' := #[Tt,Tt,Tt,Tt,Tt,Tt,Tt,Tt,Ff,Ff,Ff,Ff,Ff,Ff,Ff]) 7 rfl rfl rfl (gives_move rfl rfl) (fun w1 hw => hw.pick [2, 8] (by decide) rfl) ?_
       refine TH.tk (listed' := #[Tt,Tt,Tt,Tt,Tt,Tt,Tt,Tt,Tt,Ff,Ff,Ff,Ff,Ff,Ff]) 8 rfl rfl rfl (gives_extract rfl rfl rfl) (fun w1 hw => hw.pick [2, 8] (by decide) rfl) ?_
       refine TH.tk (listed' := #[Tt,Tt,Tt,Tt,Tt,Tt,Tt,Tt,Tt,Tt,Ff,Ff,Ff,Ff,Ff]) 9 rfl rfl rfl (gives_extract rfl rfl rfl) (fun w1 hw => hw.pick [2, 8] (by decide) rfl) ?_
       refine TH.tk (listed' := #[Tt,Tt,Tt,Tt,Tt,Tt,Tt,Tt,Tt,Tt,Tt,Ff,Ff,Ff,Ff]) 10 rfl rfl rfl (gives_extract rfl rfl rfl) (fun w1 hw => hw.pick [2, 8] (by decide) rfl) ?_
       refine TH.only' (listed' := #[Tt,Tt,Tt,Tt,Tt,Tt,Tt,Tt,Tt,Tt,Tt,Tt,Ff,Ff,Ff]) 11 rfl (by kernel_rfl) rfl ?_
       refine TL.pnew rfl rfl rfl (exec_alloc (cs := [.int .i64 0, .int .i64 0, .int .i64 0, .slice none 0 0]) rfl jlazv45 rfl) (fun g18 => ?_)
       refine TL.end_ ?_
       refine TX.held (fun w1 hw => hw.pick [3, 9] (by decide) rfl) ?_
       refine TH.only' (listed' := #[Tt,Tt,Tt,Tt,Tt,Tt,Tt,Tt,Tt,Tt,Tt,Tt,Tt,Ff,Ff]) 12 rfl (by kernel_rfl) rfl ?_
       refine TL.pstore (k := 0) (vs := [.int .i64 ((accC c t.l key).v), .int .i64 ((accC c t.l key).run), .int .i64 ((accC c t.l key).n), .slice DR1 ((accC c t.l key).dg.length) eR1]) rfl rfl rfl rfl rfl rfl rfl jlasz45 jlaone_i64i64i64s (by show 4 ≤ 4; decide) (L' := ([.blk g18 45 [.int .i64 ((accC c t.l key).v), .int .i64 ((accC c t.l key).run), .int .i64 ((accC c t.l key).n), .slice DR1 ((accC c t.l key).dg.length) eR1], .row (.slice AR1 ((accL c t.l key).length) cR1) 27 17 ((accL c t.l key).length) (rcs (accL c t.l key)), .row (.slice DR1 ((accC c t.l key).dg.length) eR1) 5 1 ((accC c t.l key).dg.length) (bv (accC c t.l key).dg), .row (.slice (some ⟨gT, 0, none⟩) tr.length ct) 28 1 tr.length (tr.map Sl.val), .row (.slice (some ⟨gS, 0, none⟩) ss.length cs) 28 1 ss.length (ss.map Sl.val), .row (.slice Ak key.length ck) 5 1 key.length (bv key), .row (.slice (some ⟨gSo, 0, none⟩) sso.length cso) 28 1 sso.length (sso.map Sl.val), .abs wn.heap.size (fun w => Cod w wn.heap.size), .row (.slice A2 c.dg.length c2) 5 1 c.dg.length (bv c.dg), .blk g14 45 [.int .i64 c.v, .int .i64 c.run, .int .i64 c.n, .slice A2 c.dg.length c2]] ++ (segP ex ++ (segP sso ++ segP ss)))) rfl ?_
       refine TL.end_ ?_
       refine TX.held (fun w1 hw => hw.pick [3, 9] (by decide) rfl) ?_
       refine TH.tk (listed' := #[Tt,Tt,Tt,Tt,Tt,Tt,Tt,Tt,Tt,Tt,Tt,Tt,Tt,Tt,Ff]) 13 rfl rfl rfl (gives_assign rfl rfl) (fun w1 hw => hw.pick [3, 9] (by decide) rfl) ?_
       refine TH.tk (listed' := #[Tt,Tt,Tt,Tt,Tt,Tt,Tt,Tt,Tt,Tt,Tt,Tt,Tt,Tt,Tt]) 14 rfl rfl rfl (gives_assign rfl rfl) (fun w1 hw => hw.pick [3, 9] (by decide) rfl) ?_
       refine TH.done (by kernel_rfl) ?_
       exact TX.joined (⟨g18, ⟨((AR1, cR1), (DR1, eR1)), ⟨hAR11, hAR12⟩, ⟨hDR11, hDR12⟩⟩⟩) (⟨rfl, rfl, rfl, rfl, rfl, rfl, rfl, rfl, rfl, rfl, rfl, rfl, trivial⟩) (fun w1 hw => (show Pm wn ([.row (.slice AR1 ((accL c t.l key).length) cR1) 27 17 ((accL c t.l key).length) (rcs (accL c t.l key)), .row (.slice DR1 ((accC c t.l key).dg.length) eR1) 5 1 ((accC c t.l key).dg.length) (bv (accC c t.l key).dg), .blk g18 45 [.int .i64 ((accC c t.l key).v), .int .i64 ((accC c t.l key).run), .int .i64 ((accC c t.l key).n), .slice DR1 ((accC c t.l key).dg.length) eR1], .row (.slice (some ⟨gT, 0, none⟩) tr.length ct) 28 1 tr.length (tr.map Sl.val), .row (.slice (some ⟨gS, 0, none⟩) ss.length cs) 28 1 ss.length (ss.map Sl.val), .row (.slice Ak key.length ck) 5 1 key.length (bv key), .row (.slice (some ⟨gSo, 0, none⟩) sso.length cso) 28 1 sso.length (sso.map Sl.val), .abs wn.heap.size (fun w => Cod w wn.heap.size), .row (.slice A2 c.dg.length c2) 5 1 c.dg.length (bv c.dg), .blk g14 45 [.int .i64 c.v, .int .i64 c.run, .int .i64 c.n, .slice A2 c.dg.length c2]] ++ (segP ex ++ (segP sso ++ segP ss))) w1 from hw.pickT 10 [1, 2, 0, 3, 4, 5, 6, 7, 8, 9] (by decide) (by decide) rfl rfl))
      ·refine TL.pnew rfl rfl rfl (exec_alloc (cs := [.int .i64 0, .int .i64 0, .int .i64 0, .slice none 0 0]) rfl jlazv45 rfl) (fun g18 => ?_)
       refine TL.end_ ?_
       refine TX.held (fun w1 hw => hw.pick [1, 7] (by decide) rfl) ?_
       refine TH.only' (listed' := #[Tt,Tt,Tt,Tt,Tt,Tt,Tt,Ff,Ff,Ff,Ff,Tt,Ff,Ff,Ff]) 6 rfl (by kernel_rfl) rfl ?_
       refine TL.pcallPm (α := AccY (accC c t.l key) (accL c t.l key)) (fun y => .tuple #[.agg #[.int .i64 ((accC c t.l key).v), .int .i64 ((accC c t.l key).run), .int .i64 ((accC c t.l key).n), .slice y.1.2.1 ((accC c t.l key).dg.length) y.1.2.2], .slice y.1.1.1 ((accL c t.l key).length) y.1.1.2, .int .i64 (accE c t.l key)]) (fun y => [.row (.slice y.1.1.1 ((accL c t.l key).length) y.1.1.2) 27 17 ((accL c t.l key).length) (rcs (accL c t.l key)), .row (.slice y.1.2.1 ((accC c t.l key).dg.length) y.1.2.2) 5 1 ((accC c t.l key).dg.length) (bv (accC c t.l key).dg)]) rfl rfl rfl rfl rfl Tryd.func22 jlanm22 jlabd22 (fun w1 hw => (accept_any A2 _ c2 c t.A t.n t.c t.l Ak _ ck key w1 (byt_own (hw.at_ (k := 6) rfl) hi4) (try_byt hw 8 rfl hb1n htm.1 htm.2.1) (byt_own (hw.at_ (k := 3) rfl) hB.kb) htm.2.2.1 (by have := htm.2.2.2; omega) (by omega) (by omega) (by omega) (hst.below hw.bel hst.lt) (hky.below hw.bel hky.lt)).mono fun e w2 h => h.use) ?_
       rintro ⟨⟨⟨AR1, cR1⟩, ⟨DR1, eR1⟩⟩, ⟨hAR11, hAR12⟩, ⟨hDR11, hDR12⟩⟩
       dsimp only [List.cons_append, List.nil_append]
       dsimp only at hAR11 hAR12 hDR11 hDR12
       refine TL.end_ ?_
       refine TX.held (fun w1 hw => hw.pick [3, 9] (by decide) rfl) ?_
       refine TH.tk (listed' := #[Tt,Tt,Tt,Tt,Tt,Tt,Tt,Tt,Ff,Ff,Ff,Tt,Ff,Ff,Ff]) 7 rfl rfl rfl (gives_move rfl rfl) (fun w1 hw => hw.pick [3, 9] (by decide) rfl) ?_
       refine TH.tk (listed' := #[Tt,Tt,Tt,Tt,Tt,Tt,Tt,Tt,Tt,Ff,Ff,Tt,Ff,Ff,Ff]) 8 rfl rfl rfl (gives_extract rfl rfl rfl) (fun w1 hw => hw.pick [3, 9] (by decide) rfl) ?_
       refine TH.tk (listed' := #[Tt,Tt,Tt,Tt,Tt,Tt,Tt,Tt,Tt,Tt,Ff,Tt,Ff,Ff,Ff]) 9 rfl rfl rfl (gives_extract rfl rfl rfl) (fun w1 hw => hw.pick [3, 9] (by decide) rfl) ?_
       refine TH.tk (listed' := #[Tt,Tt,Tt,Tt,Tt,Tt,Tt,Tt,Tt,Tt,Tt,Tt,Ff,Ff,Ff]) 10 rfl rfl rfl (gives_extract rfl rfl rfl) (fun w1 hw => hw.pick [3, 9] (by decide) rfl) ?_
       refine TH.only' (listed' := #[Tt,Tt,Tt,Tt,Tt,Tt,Tt,Tt,Tt,Tt,Tt,Tt,Tt,Ff,Ff]) 12 rfl (by kernel_rfl) rfl ?_
       refine TL.pstore (k := 2) (vs := [.int .i64 ((accC c t.l key).v), .int .i64 ((accC c t.l key).run), .int .i64 ((accC c t.l key).n), .slice DR1 ((accC c t.l key).dg.length) eR1]) rfl rfl rfl rfl rfl rfl rfl jlasz45 jlaone_i64i64i64s (by show 4 ≤ 4; decide) (L' := ([.row (.slice AR1 ((accL c t.l key).length) cR1) 27 17 ((accL c t.l key).length) (rcs (accL c t.l key)), .row (.slice DR1 ((accC c t.l key).dg.length) eR1) 5 1 ((accC c t.l key).dg.length) (bv (accC c t.l key).dg), .blk g18 45 [.int .i64 ((accC c t.l key).v), .int .i64 ((accC c t.l key).run), .int .i64 ((accC c t.l key).n), .slice DR1 ((accC c t.l key).dg.length) eR1], .row (.slice (some ⟨gT, 0, none⟩) tr.length ct) 28 1 tr.length (tr.map Sl.val), .row (.slice (some ⟨gS, 0, none⟩) ss.length cs) 28 1 ss.length (ss.map Sl.val), .row (.slice Ak key.length ck) 5 1 key.length (bv key), .row (.slice (some ⟨gSo, 0, none⟩) sso.length cso) 28 1 sso.length (sso.map Sl.val), .abs wn.heap.size (fun w => Cod w wn.heap.size), .row (.slice A2 c.dg.length c2) 5 1 c.dg.length (bv c.dg), .blk g14 45 [.int .i64 c.v, .int .i64 c.run, .int .i64 c.n, .slice A2 c.dg.length c2]] ++ (segP ex ++ (segP sso ++ segP ss)))) rfl ?_
       refine TL.end_ ?_
       refine TX.held (fun w1 hw => hw.pick [3, 9] (by decide) rfl) ?_
       refine TH.tk (listed' := #[Tt,Tt,Tt,Tt,Tt,Tt,Tt,Tt,Tt,Tt,Tt,Tt,Tt,Tt,Ff]) 13 rfl rfl rfl (gives_assign rfl rfl) (fun w1 hw => hw.pick [3, 9] (by decide) rfl) ?_
       refine TH.tk (listed' := #[Tt,Tt,Tt,Tt,Tt,Tt,Tt,Tt,Tt,Tt,Tt,Tt,Tt,Tt,Tt]) 14 rfl rfl rfl (gives_assign rfl rfl) (fun w1 hw => hw.pick [3, 9] (by decide) rfl) ?_
       refine TH.done (by kernel_rfl) ?_
       exact TX.joined (⟨g18, ⟨((AR1, cR1), (DR1, eR1)), ⟨hAR11, hAR12⟩, ⟨hDR11, hDR12⟩⟩⟩) (⟨rfl, rfl, rfl, rfl, rfl, rfl, rfl, rfl, rfl, rfl, rfl, rfl, trivial⟩) (fun w1 hw => hw)
     ·rintro ⟨g18, ⟨⟨AR1, cR1⟩, ⟨DR1, eR1⟩⟩, ⟨hAR11, hAR12⟩, ⟨hDR11, hDR12⟩⟩
      dsimp only at hAR11 hAR12 hDR11 hDR12 ⊢
      refine TC.join (α := Nat × AccY (accC c t.l key) (accL c t.l key)) (fun y => [(1, .slice A1 n1 c1), (5, .pointer (some ⟨wn.heap.size, 0, none⟩)), (6, .slice (some ⟨gS, 0, none⟩) ss.length cs), (9, .slice Ak key.length ck), (10, .slice (some ⟨gSo, 0, none⟩) sso.length cso), (14, .pointer (some ⟨g14, 0, none⟩)), (15, .int .i64 (i : Nat)), (16, .slice (some ⟨gT, 0, none⟩) tr.length ct), (17, .int .i64 (k : Nat)), (18, .pointer (some ⟨g18, 0, none⟩)), (19, .slice AR1 ((accL c t.l key).length) cR1), (20, .int .i64 (accE c t.l key)), (21, .pointer (some ⟨y.1, 0, none⟩)), (22, .slice y.2.1.1.1 ((accL c t.l key).length) y.2.1.1.2), (23, .int .i64 (accE c t.l key))]) (fun y => Pm wn ([.row (.slice y.2.1.1.1 ((accL c t.l key).length) y.2.1.1.2) 27 17 ((accL c t.l key).length) (rcs (accL c t.l key)), .row (.slice y.2.1.2.1 ((accC c t.l key).dg.length) y.2.1.2.2) 5 1 ((accC c t.l key).dg.length) (bv (accC c t.l key).dg), .blk y.1 45 [.int .i64 ((accC c t.l key).v), .int .i64 ((accC c t.l key).run), .int .i64 ((accC c t.l key).n), .slice y.2.1.2.1 ((accC c t.l key).dg.length) y.2.1.2.2], .row (.slice AR1 ((accL c t.l key).length) cR1) 27 17 ((accL c t.l key).length) (rcs (accL c t.l key)), .row (.slice DR1 ((accC c t.l key).dg.length) eR1) 5 1 ((accC c t.l key).dg.length) (bv (accC c t.l key).dg), .blk g18 45 [.int .i64 ((accC c t.l key).v), .int .i64 ((accC c t.l key).run), .int .i64 ((accC c t.l key).n), .slice DR1 ((accC c t.l key).dg.length) eR1], .row (.slice (some ⟨gT, 0, none⟩) tr.length ct) 28 1 tr.length (tr.map Sl.val), .row (.slice (some ⟨gS, 0, none⟩) ss.length cs) 28 1 ss.length (ss.map Sl.val), .row (.slice Ak key.length ck) 5 1 key.length (bv key), .row (.slice (some ⟨gSo, 0, none⟩) sso.length cso) 28 1 sso.length (sso.map Sl.val), .abs wn.heap.size (fun w => Cod w wn.heap.size), .row (.slice A2 c.dg.length c2) 5 1 c.dg.length (bv c.dg), .blk g14 45 [.int .i64 c.v, .int .i64 c.run, .int .i64 c.n, .slice A2 c.dg.length c2]] ++ (segP ex ++ (segP sso ++ segP ss)))) ?_ ?_
      ·refine TC.held (ls := #[Ff,Ff,Ff,Ff,Ff,Ff,Ff,Ff,Ff,Ff,Ff,Ff,Ff,Ff,Ff]) (Pm wn [.row (.slice (some ⟨gT, 0, none⟩) tr.length ct) 28 1 tr.length (tr.map Sl.val), .blk g14 45 [.int .i64 c.v, .int .i64 c.run, .int .i64 c.n, .slice A2 c.dg.length c2]]) (by kernel_rfl) rfl rfl (fun w hw => hw.drawn _) ?_
       refine TH.tk (listed' := #[Tt,Ff,Ff,Ff,Ff,Ff,Ff,Ff,Ff,Ff,Ff,Ff,Ff,Ff,Ff]) 0 rfl rfl rfl (pm_loadV (k := 1) (i := 0) (n := 4) (v := .agg #[.int .i64 c.v, .int .i64 c.run, .int .i64 c.n, .slice A2 c.dg.length c2]) rfl rfl jlaag45 jlasz45 rfl (by show 4 ≤ 4; decide) rfl) (fun w1 hw => hw.pick [3, 9] (by decide) rfl) ?_
       refine TH.tk (listed' := #[Tt,Tt,Ff,Ff,Ff,Ff,Ff,Ff,Ff,Ff,Ff,Ff,Ff,Ff,Ff]) 1 rfl rfl rfl (gives_move rfl rfl) (fun w1 hw => hw.pick [3, 9] (by decide) rfl) ?_
       refine TH.tk (listed' := #[Tt,Tt,Tt,Ff,Ff,Ff,Ff,Ff,Ff,Ff,Ff,Ff,Ff,Ff,Ff]) 2 rfl rfl rfl (gives_move rfl rfl) (fun w1 hw => hw.pick [3, 9] (by decide) rfl) ?_
       refine TH.tk (listed' := #[Tt,Tt,Tt,Tt,Ff,Ff,Ff,Ff,Ff,Ff,Ff,Ff,Ff,Ff,Ff]) 3 rfl rfl rfl (gives_at (v := .pointer (some ⟨gT, 0 + k * 1, none⟩)) rfl rfl rfl (fun w => at_el Tryd.underlying40 (fun w => rfl) rfl tr.length ct k hk2 rfl w)) (fun w1 hw => hw.pick [3, 9] (by decide) rfl) ?_
       refine TH.tk (listed' := #[Tt,Tt,Tt,Tt,Tt,Ff,Ff,Ff,Ff,Ff,Ff,Ff,Ff,Ff,Ff]) 4 rfl rfl rfl (pm_loadRow (k := 0) (v := t.val) rfl rfl (fun w => rfl) rfl hsc_t) (fun w1 hw => hw.pick [3, 9] (by decide) rfl) ?_
       refine TH.tk (listed' := #[Tt,Tt,Tt,Tt,Tt,Tt,Ff,Ff,Ff,Ff,Ff,Ff,Ff,Ff,Ff]) 5 rfl rfl rfl (gives_move rfl rfl) (fun w1 hw => hw.pick [3, 9] (by decide) rfl) ?_
       refine TH.two' (listed1 := #[Tt,Tt,Tt,Tt,Tt,Tt,Tt,Ff,Ff,Ff,Ff,Ff,Ff,Ff,Ff]) (listed2 := #[Tt,Tt,Tt,Tt,Tt,Tt,Ff,Ff,Ff,Ff,Ff,Tt,Ff,Ff,Ff]) 6 11 rfl rfl (by kernel_rfl) rfl rfl ?_ ?_
       ·refine TL.pcallPm (α := AccY (accC c t.l key) (accL c t.l key)) (fun y => .tuple #[.agg #[.int .i64 ((accC c t.l key).v), .int .i64 ((accC c t.l key).run), .int .i64 ((accC c t.l key).n), .slice y.1.2.1 ((accC c t.l key).dg.length) y.1.2.2], .slice y.1.1.1 ((accL c t.l key).length) y.1.1.2, .int .i64 (accE c t.l key)]) (fun y => [.row (.slice y.1.1.1 ((accL c t.l key).length) y.1.1.2) 27 17 ((accL c t.l key).length) (rcs (accL c t.l key)), .row (.slice y.1.2.1 ((accC c t.l key).dg.length) y.1.2.2) 5 1 ((accC c t.l key).dg.length) (bv (accC c t.l key).dg)]) rfl rfl rfl rfl rfl Tryd.func23 jlanm23 jlabd23 (fun w1 hw => (raccept_any A2 _ c2 c t.A t.n t.c t.l Ak _ ck key w1 (byt_own (hw.at_ (k := 8) rfl) hi4) (try_byt hw 10 rfl hb1n htm.1 htm.2.1) (byt_own (hw.at_ (k := 5) rfl) hB.kb) htm.2.2.1 (by have := htm.2.2.2; omega) (by omega) (by omega) (by omega) (by omega)).mono fun e w2 h => h.use) ?_
        rintro ⟨⟨⟨AR2, cR2⟩, ⟨DR2, eR2⟩⟩, ⟨hAR21, hAR22⟩, ⟨hDR21, hDR22⟩⟩
        dsimp only [List.cons_append, List.nil_append]
        dsimp only at hAR21 hAR22 hDR21 hDR22
        refine TL.end_ ?_
        refine TX.held (fun w1 hw => hw.pick [5, 11] (by decide) rfl) ?_
        refine TH.tk (listed' := #[Tt,Tt,Tt,Tt,Tt,Tt,Tt,Tt,Ff,Ff,Ff,Ff,Ff,Ff,Ff]) 7 rfl rfl rfl (gives_move rfl rfl) (fun w1 hw => hw.pick [5, 11] (by decide) rfl) ?_
        refine TH.tk (listed' := #[Tt,Tt,Tt,Tt,Tt,Tt,Tt,Tt,Tt,Ff,Ff,Ff,Ff,Ff,Ff]) 8 rfl rfl rfl (gives_extract rfl rfl rfl) (fun w1 hw => hw.pick [5, 11] (by decide) rfl) ?_
        refine TH.tk (listed' := #[Tt,Tt,Tt,Tt,Tt,Tt,Tt,Tt,Tt,Tt,Ff,Ff,Ff,Ff,Ff]) 9 rfl rfl rfl (gives_extract rfl rfl rfl) (fun w1 hw => hw.pick [5, 11] (by decide) rfl) ?_
        refine TH.tk (listed' := #[Tt,Tt,Tt,Tt,Tt,Tt,Tt,Tt,Tt,Tt,Tt,Ff,Ff,Ff,Ff]) 10 rfl rfl rfl (gives_extract rfl rfl rfl) (fun w1 hw => hw.pick [5, 11] (by decide) rfl) ?_
        refine TH.only' (listed' := #[Tt,Tt,Tt,Tt,Tt,Tt,Tt,Tt,Tt,Tt,Tt,Tt,Ff,Ff,Ff]) 11 rfl (by kernel_rfl) rfl ?_
        refine TL.pnew rfl rfl rfl (exec_alloc (cs := [.int .i64 0, .int .i64 0, .int .i64 0, .slice none 0 0]) rfl jlazv45 rfl) (fun g21 => ?_)
        refine TL.end_ ?_
        refine TX.held (fun w1 hw => hw.pick [6, 12] (by decide) rfl) ?_
        refine TH.only' (listed' := #[Tt,Tt,Tt,Tt,Tt,Tt,Tt,Tt,Tt,Tt,Tt,Tt,Tt,Ff,Ff]) 12 rfl (by kernel_rfl) rfl ?_
        refine TL.pstore (k := 0) (vs := [.int .i64 ((accC c t.l key).v), .int .i64 ((accC c t.l key).run), .int .i64 ((accC c t.l key).n), .slice DR2 ((accC c t.l key).dg.length) eR2]) rfl rfl rfl rfl rfl rfl rfl jlasz45 jlaone_i64i64i64s (by show 4 ≤ 4; decide) (L' := ([.blk g21 45 [.int .i64 ((accC c t.l key).v), .int .i64 ((accC c t.l key).run), .int .i64 ((accC c t.l key).n), .slice DR2 ((accC c t.l key).dg.length) eR2], .row (.slice AR2 ((accL c t.l key).length) cR2) 27 17 ((accL c t.l key).length) (rcs (accL c t.l key)), .row (.slice DR2 ((accC c t.l key).dg.length) eR2) 5 1 ((accC c t.l key).dg.length) (bv (accC c t.l key).dg), .row (.slice AR1 ((accL c t.l key).length) cR1) 27 17 ((accL c t.l key).length) (rcs (accL c t.l key)), .row (.slice DR1 ((accC c t.l key).dg.length) eR1) 5 1 ((accC c t.l key).dg.length) (bv (accC c t.l key).dg), .blk g18 45 [.int .i64 ((accC c t.l key).v), .int .i64 ((accC c t.l key).run), .int .i64 ((accC c t.l key).n), .slice DR1 ((accC c t.l key).dg.length) eR1], .row (.slice (some ⟨gT, 0, none⟩) tr.length ct) 28 1 tr.length (tr.map Sl.val), .row (.slice (some ⟨gS, 0, none⟩) ss.length cs) 28 1 ss.length (ss.map Sl.val), .row (.slice Ak key.length ck) 5 1 key.length (bv key), .row (.slice (some ⟨gSo, 0, none⟩) sso.length cso) 28 1 sso.length (sso.map Sl.val), .abs wn.heap.size (fun w => Cod w wn.heap.size), .row (.slice A2 c.dg.length c2) 5 1 c.dg.length (bv c.dg), .blk g14 45 [.int .i64 c.v, .int .i64 c.run, .int .i64 c.n, .slice A2 c.dg.length c2]] ++ (segP ex ++ (segP sso ++ segP ss)))) rfl ?_
        refine TL.end_ ?_
        refine TX.held (fun w1 hw => hw.pick [6, 12] (by decide) rfl) ?_
        refine TH.tk (listed' := #[Tt,Tt,Tt,Tt,Tt,Tt,Tt,Tt,Tt,Tt,Tt,Tt,Tt,Tt,Ff]) 13 rfl rfl rfl (gives_assign rfl rfl) (fun w1 hw => hw.pick [6, 12] (by decide) rfl) ?_
        refine TH.tk (listed' := #[Tt,Tt,Tt,Tt,Tt,Tt,Tt,Tt,Tt,Tt,Tt,Tt,Tt,Tt,Tt]) 14 rfl rfl rfl (gives_assign rfl rfl) (fun w1 hw => hw.pick [6, 12] (by decide) rfl) ?_
        refine TH.done (by kernel_rfl) ?_
        exact TX.joined (⟨g21, ⟨((AR2, cR2), (DR2, eR2)), ⟨hAR21, hAR22⟩, ⟨hDR21, hDR22⟩⟩⟩) (⟨rfl, rfl, rfl, rfl, rfl, rfl, rfl, rfl, rfl, rfl, rfl, rfl, rfl, rfl, rfl, trivial⟩) (fun w1 hw => (show Pm wn ([.row (.slice AR2 ((accL c t.l key).length) cR2) 27 17 ((accL c t.l key).length) (rcs (accL c t.l key)), .row (.slice DR2 ((accC c t.l key).dg.length) eR2) 5 1 ((accC c t.l key).dg.length) (bv (accC c t.l key).dg), .blk g21 45 [.int .i64 ((accC c t.l key).v), .int .i64 ((accC c t.l key).run), .int .i64 ((accC c t.l key).n), .slice DR2 ((accC c t.l key).dg.length) eR2], .row (.slice AR1 ((accL c t.l key).length) cR1) 27 17 ((accL c t.l key).length) (rcs (accL c t.l key)), .row (.slice DR1 ((accC c t.l key).dg.length) eR1) 5 1 ((accC c t.l key).dg.length) (bv (accC c t.l key).dg), .blk g18 45 [.int .i64 ((accC c t.l key).v), .int .i64 ((accC c t.l key).run), .int .i64 ((accC c t.l key).n), .slice DR1 ((accC c t.l key).dg.length) eR1], .row (.slice (some ⟨gT, 0, none⟩) tr.length ct) 28 1 tr.length (tr.map Sl.val), .row (.slice (some ⟨gS, 0, none⟩) ss.length cs) 28 1 ss.length (ss.map Sl.val), .row (.slice Ak key.length ck) 5 1 key.length (bv key), .row (.slice (some ⟨gSo, 0, none⟩) sso.length cso) 28 1 sso.length (sso.map Sl.val), .abs wn.heap.size (fun w => Cod w wn.heap.size), .row (.slice A2 c.dg.length c2) 5 1 c.dg.length (bv c.dg), .blk g14 45 [.int .i64 c.v, .int .i64 c.run, .int .i64 c.n, .slice A2 c.dg.length c2]] ++ (segP ex ++ (segP sso ++ segP ss))) w1 from hw.pickT 13 [1, 2, 0, 3, 4, 5, 6, 7, 8, 9, 10, 11, 12] (by decide) (by decide) rfl rfl))
       ·refine TL.pnew rfl rfl rfl (exec_alloc (cs := [.int .i64 0, .int .i64 0, .int .i64 0, .slice none 0 0]) rfl jlazv45 rfl) (fun g21 => ?_)
        refine TL.end_ ?_
        refine TX.held (fun w1 hw => hw.pick [4, 10] (by decide) rfl) ?_
        refine TH.only' (listed' := #[Tt,Tt,Tt,Tt,Tt,Tt,Tt,Ff,Ff,Ff,Ff,Tt,Ff,Ff,Ff]) 6 rfl (by kernel_rfl) rfl ?_
        refine TL.pcallPm (α := AccY (accC c t.l key) (accL c t.l key)) (fun y => .tuple #[.agg #[.int .i64 ((accC c t.l key).v), .int .i64 ((accC c t.l key).run), .int .i64 ((accC c t.l key).n), .slice y.1.2.1 ((accC c t.l key).dg.length) y.1.2.2], .slice y.1.1.1 ((accL c t.l key).length) y.1.1.2, .int .i64 (accE c t.l key)]) (fun y => [.row (.slice y.1.1.1 ((accL c t.l key).length) y.1.1.2) 27 17 ((accL c t.l key).length) (rcs (accL c t.l key)), .row (.slice y.1.2.1 ((accC c t.l key).dg.length) y.1.2.2) 5 1 ((accC c t.l key).dg.length) (bv (accC c t.l key).dg)]) rfl rfl rfl rfl rfl Tryd.func23 jlanm23 jlabd23 (fun w1 hw => (raccept_any A2 _ c2 c t.A t.n t.c t.l Ak _ ck key w1 (byt_own (hw.at_ (k := 9) rfl) hi4) (try_byt hw 11 rfl hb1n htm.1 htm.2.1) (byt_own (hw.at_ (k := 6) rfl) hB.kb) htm.2.2.1 (by have := htm.2.2.2; omega) (by omega) (by omega) (by omega) (by omega)).mono fun e w2 h => h.use) ?_
        rintro ⟨⟨⟨AR2, cR2⟩, ⟨DR2, eR2⟩⟩, ⟨hAR21, hAR22⟩, ⟨hDR21, hDR22⟩⟩
        dsimp only [List.cons_append, List.nil_append]
        dsimp only at hAR21 hAR22 hDR21 hDR22
        refine TL.end_ ?_
        refine TX.held (fun w1 hw => hw.pick [6, 12] (by decide) rfl) ?_
        refine TH.tk (listed' := #[Tt,Tt,Tt,Tt,Tt,Tt,Tt,Tt,Ff,Ff,Ff,Tt,Ff,Ff,Ff]) 7 rfl rfl rfl (gives_move rfl rfl) (fun w1 hw => hw.pick [6, 12] (by decide) rfl) ?_
        refine TH.tk (listed' := #[Tt,Tt,Tt,Tt,Tt,Tt,Tt,Tt,Tt,Ff,Ff,Tt,Ff,Ff,Ff]) 8 rfl rfl rfl (gives_extract rfl rfl rfl) (fun w1 hw => hw.pick [6, 12] (by decide) rfl) ?_
        refine TH.tk (listed' := #[Tt,Tt,Tt,Tt,Tt,Tt,Tt,Tt,Tt,Tt,Ff,Tt,Ff,Ff,Ff]) 9 rfl rfl rfl (gives_extract rfl rfl rfl) (fun w1 hw => hw.pick [6, 12] (by decide) rfl) ?_
        refine TH.tk (listed' := #[Tt,Tt,Tt,Tt,Tt,Tt,Tt,Tt,Tt,Tt,Tt,Tt,Ff,Ff,Ff]) 10 rfl rfl rfl (gives_extract rfl rfl rfl) (fun w1 hw => hw.pick [6, 12] (by decide) rfl) ?_
        refine TH.only' (listed' := #[Tt,Tt,Tt,Tt,Tt,Tt,Tt,Tt,Tt,Tt,Tt,Tt,Tt,Ff,Ff]) 12 rfl (by kernel_rfl) rfl ?_
        refine TL.pstore (k := 2) (vs := [.int .i64 ((accC c t.l key).v), .int .i64 ((accC c t.l key).run), .int .i64 ((accC c t.l key).n), .slice DR2 ((accC c t.l key).dg.length) eR2]) rfl rfl rfl rfl rfl rfl rfl jlasz45 jlaone_i64i64i64s (by show 4 ≤ 4; decide) (L' := ([.row (.slice AR2 ((accL c t.l key).length) cR2) 27 17 ((accL c t.l key).length) (rcs (accL c t.l key)), .row (.slice DR2 ((accC c t.l key).dg.length) eR2) 5 1 ((accC c t.l key).dg.length) (bv (accC c t.l key).dg), .blk g21 45 [.int .i64 ((accC c t.l key).v), .int .i64 ((accC c t.l key).run), .int .i64 ((accC c t.l key).n), .slice DR2 ((accC c t.l key).dg.length) eR2], .row (.slice AR1 ((accL c t.l key).length) cR1) 27 17 ((accL c t.l key).length) (rcs (accL c t.l key)), .row (.slice DR1 ((accC c t.l key).dg.length) eR1) 5 1 ((accC c t.l key).dg.length) (bv (accC c t.l key).dg), .blk g18 45 [.int .i64 ((accC c t.l key).v), .int .i64 ((accC c t.l key).run), .int .i64 ((accC c t.l key).n), .slice DR1 ((accC c t.l key).dg.length) eR1], .row (.slice (some ⟨gT, 0, none⟩) tr.length ct) 28 1 tr.length (tr.map Sl.val), .row (.slice (some ⟨gS, 0, none⟩) ss.length cs) 28 1 ss.length (ss.map Sl.val), .row (.slice Ak key.length ck) 5 1 key.length (bv key), .row (.slice (some ⟨gSo, 0, none⟩) sso.length cso) 28 1 sso.length (sso.map Sl.val), .abs wn.heap.size (fun w => Cod w wn.heap.size), .row (.slice A2 c.dg.length c2) 5 1 c.dg.length (bv c.dg), .blk g14 45 [.int .i64 c.v, .int .i64 c.run, .int .i64 c.n, .slice A2 c.dg.length c2]] ++ (segP ex ++ (segP sso ++ segP ss)))) rfl ?_
        refine TL.end_ ?_
        refine TX.held (fun w1 hw => hw.pick [6, 12] (by decide) rfl) ?_
        refine TH.tk (listed' := #[Tt,Tt,Tt,Tt,Tt,Tt,Tt,Tt,Tt,Tt,Tt,Tt,Tt,Tt,Ff]) 13 rfl rfl rfl (gives_assign rfl rfl) (fun w1 hw => hw.pick [6, 12] (by decide) rfl) ?_
        refine TH.tk (listed' := #[Tt,Tt,Tt,Tt,Tt,Tt,Tt,Tt,Tt,Tt,Tt,Tt,Tt,Tt,Tt]) 14 rfl rfl rfl (gives_assign rfl rfl) (fun w1 hw => hw.pick [6, 12] (by decide) rfl) ?_
        refine TH.done (by kernel_rfl) ?_
        exact TX.joined (⟨g21, ⟨((AR2, cR2), (DR2, eR2)), ⟨hAR21, hAR22⟩, ⟨hDR21, hDR22⟩⟩⟩) (⟨rfl, rfl, rfl, rfl, rfl, rfl, rfl, rfl, rfl, rfl, rfl, rfl, rfl, rfl, rfl, trivial⟩) (fun w1 hw => hw)
      ·rintro ⟨g21, ⟨⟨AR2, cR2⟩, ⟨DR2, eR2⟩⟩, ⟨hAR21, hAR22⟩, ⟨hDR21, hDR22⟩⟩
       dsimp only at hAR21 hAR22 hDR21 hDR22 ⊢
       refine TC.seq_ (TC.region ?_)
       refine TL.mv ?_
       refine TL.mv ?_
       refine TL.val rfl rfl rfl (gives_at (v := .pointer (some ⟨gT, 0 + k * 1, none⟩)) rfl rfl rfl (fun w => at_el Tryd.underlying40 (fun w => rfl) rfl tr.length ct k hk2 rfl w)) ?_
       refine TL.val rfl rfl rfl (pm_loadRow (k := 6) (v := t.val) rfl rfl (fun w => rfl) rfl hsc_t) ?_
       refine TL.pcall1 (r := .tuple #[.int .i64 (lenN t.l), .int .i64 (lenE t.l)]) rfl rfl rfl rfl rfl Tryd.func24 jlanm24 jlabd24 (fun w1 hw => length_any t.A t.n t.c t.l w1 (try_byt hw 13 rfl hb1n htm.1 htm.2.1) htm.2.2.1) ?_
       iterate 5 (first | refine TL.as_ ?_ | refine TL.ex ?_ | refine TL.mv ?_)
       refine TL.end_ (TX.then_ (TC.seq_ (TC.region ?_)))
       refine TL.mv ?_
       refine TL.mv ?_
       refine TL.val rfl rfl rfl (gives_at (v := .pointer (some ⟨gT, 0 + k * 1, none⟩)) rfl rfl rfl (fun w => at_el Tryd.underlying40 (fun w => rfl) rfl tr.length ct k hk2 rfl w)) ?_
       refine TL.val rfl rfl rfl (pm_loadRow (k := 6) (v := t.val) rfl rfl (fun w => rfl) rfl hsc_t) ?_
       refine TL.pcall1 (r := .tuple #[.int .i64 (lenN t.l), .int .i64 (lenE t.l)]) rfl rfl rfl rfl rfl Tryd.func25 jlanm25 jlabd25 (fun w1 hw => rlength_any t.A t.n t.c t.l w1 (try_byt hw 13 rfl hb1n htm.1 htm.2.1) htm.2.2.1) ?_
       iterate 5 (first | refine TL.as_ ?_ | refine TL.ex ?_ | refine TL.mv ?_)
       refine TL.end_ (TX.then_ (TC.seq_ (TC.region ?_)))
       refine TL.mv ?_
       refine TL.mv ?_
       refine TL.val rfl rfl rfl (gives_bin rfl rfl rfl (fun w => bin_neq_f (rfl) w)) ?_
       refine TL.mv ?_
       refine TL.gu ?_
       refine TL.val rfl rfl rfl (pm_loadV (k := 5) (i := 0) (n := 4) (v := .agg #[.int .i64 ((accC c t.l key).v), .int .i64 ((accC c t.l key).run), .int .i64 ((accC c t.l key).n), .slice DR1 ((accC c t.l key).dg.length) eR1]) rfl rfl jlaag45 jlasz45 rfl (by show 4 ≤ 4; decide) rfl) ?_
       refine TL.gu ?_
       refine TL.val rfl rfl rfl (pm_loadV (k := 2) (i := 0) (n := 4) (v := .agg #[.int .i64 ((accC c t.l key).v), .int .i64 ((accC c t.l key).run), .int .i64 ((accC c t.l key).n), .slice DR2 ((accC c t.l key).dg.length) eR2]) rfl rfl jlaag45 jlasz45 rfl (by show 4 ≤ 4; decide) rfl) ?_
       refine TL.gu ?_
       refine TL.pcall1 (r := .bool true) rfl rfl rfl rfl rfl Tryd.func26 jlanm26 jlabd26 (fun w1 hw => retb_lit (decide_eq_true rfl) (samechain_any (accC c t.l key) (accC c t.l key) DR1 _ _ DR2 _ _ w1 (byt_own (hw.at_ (k := 4) rfl) (accC_bs _ _ _)) (byt_own (hw.at_ (k := 1) rfl) (accC_bs _ _ _)) (accC_le _ _ _) (accC_le _ _ _))) ?_
       iterate 9 (first | refine TL.gu ?_ | refine TL.mv ?_ | refine TL.pk ?_ | refine TL.val rfl rfl rfl (gives_boolnot rfl rfl) ?_)
       refine TL.pcall1 (r := .bool true) rfl rfl rfl rfl rfl Tryd.func27 jlanm27 jlabd27 (fun w1 hw => retb_lit (decide_eq_true rfl) (sameresults_any AR1 _ _ (accL c t.l key) AR2 _ _ (accL c t.l key) w1 (Reads.of_own (hw.at_ (k := 3) rfl)) (Reads.of_own (hw.at_ (k := 0) rfl)) rfl rfl (accL_le _ _ htm.2.1) (accL_le _ _ htm.2.1))) ?_
       iterate 9 (first | refine TL.gu ?_ | refine TL.mv ?_ | refine TL.pk ?_ | refine TL.val rfl rfl rfl (gives_boolnot rfl rfl) ?_)
       refine TL.val rfl rfl rfl (gives_bin rfl rfl rfl (fun w => bin_neq_f (rfl) w)) ?_
       iterate 7 (first | refine TL.gu ?_ | refine TL.mv ?_ | refine TL.pk ?_)
       refine TL.val rfl rfl rfl (gives_bin rfl rfl rfl (fun w => bin_neq_f (rfl) w)) ?_
       refine TL.pk ?_
       refine TL.end_ (TX.then_ (TC.condF rfl (TC.skip_ (TX.in_normal (TX.then_ (TC.region ?_))))))
       refine TL.mv ?_
       refine TL.val rfl rfl rfl (gives_bin rfl rfl rfl (fun w => bin_add_ (r := ((k + 1 : Nat) : Int)) (by simp only [IntKind.wrap_i64]; omega) w)) ?_
       refine TL.as_ ?_
       refine TL.end_ ?_
       exact TX.round (⟨k + 1, hk2⟩) (by show tr.length - (k + 1) < tr.length - k; omega) ⟨rfl, rfl, rfl, rfl, rfl, rfl, rfl, rfl, rfl, trivial⟩ (fun w1 hw => hw.sel (.cons _ (.cons _ (.cons _ (.cons _ (.cons _ (.cons _ (.cons_cons _ (.cons_cons _ (.cons_cons _ (.cons_cons _ (.cons_cons _ (.cons_cons _ (.cons_cons _ (List.Sublist.refl _)))))))))))))))
    ·have q109 := of_decide_eq_false h109
     refine TL.end_ (TX.then_ (TC.condF rfl (TC.exit_ (TX.then_exit (TX.then_exit (TX.in_same (TX.then_ (TC.seq_ (TC.region ?_)))))))))
     refine TL.mv ?_
     refine TL.mv ?_
     refine TL.val rfl rfl rfl (gives_len rfl Tryd.underlying40 rfl) ?_
     refine TL.vsplit rfl rfl rfl (gives_bin rfl rfl rfl (fun w => bin_lss w)) (fun h178 => ?_) (fun h178 => ?_)
     ·have q178 := of_decide_eq_true h178
      have hi2 : i < ss.length := by omega
      obtain ⟨s, hs_s⟩ : ∃ s, ss[i]? = some s := ⟨_, List.getElem?_eq_getElem (by omega)⟩
      have hm_s := List.mem_of_getElem? hs_s
      have hso_s := hso s hm_s
      have hsc_s : (ss.map Sl.val)[0 + i * 1]? = some s.val := by rw [Nat.zero_add, Nat.mul_one, List.getElem?_map, hs_s]; rfl
      have hsl_s : ls[i]? = some s.l := by rw [← hls, List.getElem?_map, hs_s]; rfl
      have ha0 : accE c s.l key = 0 := by have := hf.2 i s.l hsl_s; rw [hfo] at this; exact this
      refine TL.end_ (TX.then_ (TC.condT rfl (TC.seq_ ?_)))
      refine TC.held (ls := #[Ff,Ff,Ff,Ff,Ff,Ff,Ff,Ff,Ff,Ff,Ff,Ff,Ff,Ff,Ff]) (Pm wn [.row (.slice (some ⟨gS, 0, none⟩) ss.length cs) 28 1 ss.length (ss.map Sl.val), .blk g14 45 [.int .i64 c.v, .int .i64 c.run, .int .i64 c.n, .slice A2 c.dg.length c2]]) (by kernel_rfl) rfl rfl (fun w hw => hw.drawn _) ?_
      refine TH.tk (listed' := #[Tt,Ff,Ff,Ff,Ff,Ff,Ff,Ff,Ff,Ff,Ff,Ff,Ff,Ff,Ff]) 0 rfl rfl rfl (pm_loadV (k := 1) (i := 0) (n := 4) (v := .agg #[.int .i64 c.v, .int .i64 c.run, .int .i64 c.n, .slice A2 c.dg.length c2]) rfl rfl jlaag45 jlasz45 rfl (by show 4 ≤ 4; decide) rfl) (fun w1 hw => hw.pick [1, 6] (by decide) rfl) ?_
      refine TH.tk (listed' := #[Tt,Tt,Ff,Ff,Ff,Ff,Ff,Ff,Ff,Ff,Ff,Ff,Ff,Ff,Ff]) 1 rfl rfl rfl (gives_move rfl rfl) (fun w1 hw => hw.pick [1, 6] (by decide) rfl) ?_
      refine TH.tk (listed' := #[Tt,Tt,Tt,Ff,Ff,Ff,Ff,Ff,Ff,Ff,Ff,Ff,Ff,Ff,Ff]) 2 rfl rfl rfl (gives_move rfl rfl) (fun w1 hw => hw.pick [1, 6] (by decide) rfl) ?_
      refine TH.tk (listed' := #[Tt,Tt,Tt,Tt,Ff,Ff,Ff,Ff,Ff,Ff,Ff,Ff,Ff,Ff,Ff]) 3 rfl rfl rfl (gives_at (v := .pointer (some ⟨gS, 0 + i * 1, none⟩)) rfl rfl rfl (fun w => at_el Tryd.underlying40 (fun w => rfl) rfl ss.length cs i hi2 rfl w)) (fun w1 hw => hw.pick [1, 6] (by decide) rfl) ?_
      refine TH.tk (listed' := #[Tt,Tt,Tt,Tt,Tt,Ff,Ff,Ff,Ff,Ff,Ff,Ff,Ff,Ff,Ff]) 4 rfl rfl rfl (pm_loadRow (k := 0) (v := s.val) rfl rfl (fun w => rfl) rfl hsc_s) (fun w1 hw => hw.pick [1, 6] (by decide) rfl) ?_
      refine TH.tk (listed' := #[Tt,Tt,Tt,Tt,Tt,Tt,Ff,Ff,Ff,Ff,Ff,Ff,Ff,Ff,Ff]) 5 rfl rfl rfl (gives_move rfl rfl) (fun w1 hw => hw.pick [1, 6] (by decide) rfl) ?_
      refine TH.two' (listed1 := #[Tt,Tt,Tt,Tt,Tt,Tt,Tt,Ff,Ff,Ff,Ff,Ff,Ff,Ff,Ff]) (listed2 := #[Tt,Tt,Tt,Tt,Tt,Tt,Ff,Ff,Ff,Ff,Ff,Tt,Ff,Ff,Ff]) 6 11 rfl rfl (by kernel_rfl) rfl rfl ?_ ?_
      ·refine TL.pcallPm (α := AccY (accC c s.l key) (accL c s.l key)) (fun y => .tuple #[.agg #[.int .i64 ((accC c s.l key).v), .int .i64 ((accC c s.l key).run), .int .i64 ((accC c s.l key).n), .slice y.1.2.1 ((accC c s.l key).dg.length) y.1.2.2], .slice y.1.1.1 ((accL c s.l key).length) y.1.1.2, .int .i64 0]) (fun y => [.row (.slice y.1.1.1 ((accL c s.l key).length) y.1.1.2) 27 17 ((accL c s.l key).length) (rcs (accL c s.l key)), .row (.slice y.1.2.1 ((accC c s.l key).dg.length) y.1.2.2) 5 1 ((accC c s.l key).dg.length) (bv (accC c s.l key).dg)]) rfl rfl rfl rfl rfl Tryd.func23 jlanm23 jlabd23 (fun w1 hw => (raccept_any A2 _ c2 c s.A s.n s.c s.l Ak _ ck key w1 (byt_own (hw.at_ (k := 5) rfl) hi4) (hw.seg (T := segP ex ++ (segP sso ++ segP ss)) 7 rfl (List.mem_append_right _ (List.mem_append_right _ (segP_mem hm_s))) hso_s.2.2.2.1) (byt_own (hw.at_ (k := 2) rfl) hB.kb) hso_s.2.1 (by have := hso_s.2.2.2.2.2; omega) (by omega) (by omega) (by omega) (by omega)).mono fun e w2 h => by rw [ha0] at h; exact h.use) ?_
       rintro ⟨⟨⟨AR3, cR3⟩, ⟨DR3, eR3⟩⟩, ⟨hAR31, hAR32⟩, ⟨hDR31, hDR32⟩⟩
       dsimp only [List.cons_append, List.nil_append]
       dsimp only at hAR31 hAR32 hDR31 hDR32
       refine TL.end_ ?_
       refine TX.held (fun w1 hw => hw.pick [3, 8] (by decide) rfl) ?_
       refine TH.tk (listed' := #[Tt,Tt,Tt,Tt,Tt,Tt,Tt,Tt,Ff,Ff,Ff,Ff,Ff,Ff,Ff]) 7 rfl rfl rfl (gives_move rfl rfl) (fun w1 hw => hw.pick [3, 8] (by decide) rfl) ?_
       refine TH.tk (listed' := #[Tt,Tt,Tt,Tt,Tt,Tt,Tt,Tt,Tt,Ff,Ff,Ff,Ff,Ff,Ff]) 8 rfl rfl rfl (gives_extract rfl rfl rfl) (fun w1 hw => hw.pick [3, 8] (by decide) rfl) ?_
       refine TH.tk (listed' := #[Tt,Tt,Tt,Tt,Tt,Tt,Tt,Tt,Tt,Tt,Ff,Ff,Ff,Ff,Ff]) 9 rfl rfl rfl (gives_extract rfl rfl rfl) (fun w1 hw => hw.pick [3, 8] (by decide) rfl) ?_
       refine TH.tk (listed' := #[Tt,Tt,Tt,Tt,Tt,Tt,Tt,Tt,Tt,Tt,Tt,Ff,Ff,Ff,Ff]) 10 rfl rfl rfl (gives_extract rfl rfl rfl) (fun w1 hw => hw.pick [3, 8] (by decide) rfl) ?_
       refine TH.only' (listed' := #[Tt,Tt,Tt,Tt,Tt,Tt,Tt,Tt,Tt,Tt,Tt,Tt,Ff,Ff,Ff]) 11 rfl (by kernel_rfl) rfl ?_
       refine TL.pnew rfl rfl rfl (exec_alloc (cs := [.int .i64 0, .int .i64 0, .int .i64 0, .slice none 0 0]) rfl jlazv45 rfl) (fun g28 => ?_)
       refine TL.end_ ?_
       refine TX.held (fun w1 hw => hw.pick [4, 9] (by decide) rfl) ?_
       refine TH.only' (listed' := #[Tt,Tt,Tt,Tt,Tt,Tt,Tt,Tt,Tt,Tt,Tt,Tt,Tt,Ff,Ff]) 12 rfl (by kernel_rfl) rfl ?_
       refine TL.pstore (k := 0) (vs := [.int .i64 ((accC c s.l key).v), .int .i64 ((accC c s.l key).run), .int .i64 ((accC c s.l key).n), .slice DR3 ((accC c s.l key).dg.length) eR3]) rfl rfl rfl rfl rfl rfl rfl jlasz45 jlaone_i64i64i64s (by show 4 ≤ 4; decide) (L' := ([.blk g28 45 [.int .i64 ((accC c s.l key).v), .int .i64 ((accC c s.l key).run), .int .i64 ((accC c s.l key).n), .slice DR3 ((accC c s.l key).dg.length) eR3], .row (.slice AR3 ((accL c s.l key).length) cR3) 27 17 ((accL c s.l key).length) (rcs (accL c s.l key)), .row (.slice DR3 ((accC c s.l key).dg.length) eR3) 5 1 ((accC c s.l key).dg.length) (bv (accC c s.l key).dg), .row (.slice (some ⟨gT, 0, none⟩) tr.length ct) 28 1 tr.length (tr.map Sl.val), .row (.slice (some ⟨gS, 0, none⟩) ss.length cs) 28 1 ss.length (ss.map Sl.val), .row (.slice Ak key.length ck) 5 1 key.length (bv key), .row (.slice (some ⟨gSo, 0, none⟩) sso.length cso) 28 1 sso.length (sso.map Sl.val), .abs wn.heap.size (fun w => Cod w wn.heap.size), .row (.slice A2 c.dg.length c2) 5 1 c.dg.length (bv c.dg), .blk g14 45 [.int .i64 c.v, .int .i64 c.run, .int .i64 c.n, .slice A2 c.dg.length c2]] ++ (segP ex ++ (segP sso ++ segP ss)))) rfl ?_
       refine TL.end_ ?_
       refine TX.held (fun w1 hw => hw.pick [4, 9] (by decide) rfl) ?_
       refine TH.tk (listed' := #[Tt,Tt,Tt,Tt,Tt,Tt,Tt,Tt,Tt,Tt,Tt,Tt,Tt,Tt,Ff]) 13 rfl rfl rfl (gives_assign rfl rfl) (fun w1 hw => hw.pick [4, 9] (by decide) rfl) ?_
       refine TH.tk (listed' := #[Tt,Tt,Tt,Tt,Tt,Tt,Tt,Tt,Tt,Tt,Tt,Tt,Tt,Tt,Tt]) 14 rfl rfl rfl (gives_assign rfl rfl) (fun w1 hw => hw.pick [4, 9] (by decide) rfl) ?_
       refine TH.done (by kernel_rfl) ?_
       refine TX.then_ (TC.seq_ (TC.seq_ (TC.region ?_)))
       refine TL.mv ?_
       refine TL.val rfl rfl rfl (gives_bin rfl rfl rfl (fun w => bin_neq_f (by decide) w)) ?_
       refine TL.end_ (TX.then_ (TC.condF rfl (TC.skip_ (TX.then_ (TC.region ?_)))))
       refine TL.val rfl rfl rfl (pm_loadV (k := 0) (i := 0) (n := 4) (v := .agg #[.int .i64 ((accC c s.l key).v), .int .i64 ((accC c s.l key).run), .int .i64 ((accC c s.l key).n), .slice DR3 ((accC c s.l key).dg.length) eR3]) rfl rfl jlaag45 jlasz45 rfl (by show 4 ≤ 4; decide) rfl) ?_
       refine TL.pstore (k := 9) (vs := [.int .i64 ((accC c s.l key).v), .int .i64 ((accC c s.l key).run), .int .i64 ((accC c s.l key).n), .slice DR3 ((accC c s.l key).dg.length) eR3]) rfl rfl rfl rfl rfl rfl rfl jlasz45 jlaone_i64i64i64s (by show 4 ≤ 4; decide) (L' := ([.blk g28 45 [.int .i64 ((accC c s.l key).v), .int .i64 ((accC c s.l key).run), .int .i64 ((accC c s.l key).n), .slice DR3 ((accC c s.l key).dg.length) eR3], .row (.slice AR3 ((accL c s.l key).length) cR3) 27 17 ((accL c s.l key).length) (rcs (accL c s.l key)), .row (.slice DR3 ((accC c s.l key).dg.length) eR3) 5 1 ((accC c s.l key).dg.length) (bv (accC c s.l key).dg), .row (.slice (some ⟨gT, 0, none⟩) tr.length ct) 28 1 tr.length (tr.map Sl.val), .row (.slice (some ⟨gS, 0, none⟩) ss.length cs) 28 1 ss.length (ss.map Sl.val), .row (.slice Ak key.length ck) 5 1 key.length (bv key), .row (.slice (some ⟨gSo, 0, none⟩) sso.length cso) 28 1 sso.length (sso.map Sl.val), .abs wn.heap.size (fun w => Cod w wn.heap.size), .row (.slice A2 c.dg.length c2) 5 1 c.dg.length (bv c.dg), .blk g14 45 [.int .i64 ((accC c s.l key).v), .int .i64 ((accC c s.l key).run), .int .i64 ((accC c s.l key).n), .slice DR3 ((accC c s.l key).dg.length) eR3]] ++ (segP ex ++ (segP sso ++ segP ss)))) rfl ?_
       refine TL.end_ (TX.in_normal (TX.then_ (TC.region ?_)))
       refine TL.mv ?_
       refine TL.val rfl rfl rfl (gives_bin rfl rfl rfl (fun w => bin_add_ (r := ((i + 1 : Nat) : Int)) (by simp only [IntKind.wrap_i64]; omega) w)) ?_
       refine TL.as_ ?_
       refine TL.end_ ?_
       exact TX.round (⟨((i + 1, (accC c s.l key)), (DR3, eR3)), by show i + 1 ≤ ss.length + 1; omega, by rw [fold_take hsl_s]; show accC (foldS key (ls.take i)).1 s.l key = _; rw [hfo], hDR31, hDR32⟩) (by show ss.length + 1 - (i + 1) < ss.length + 1 - i; omega) ⟨rfl, rfl, rfl, rfl, rfl, rfl, rfl, trivial⟩ (fun w1 hw => (show Pm wn ([.row (.slice (some ⟨gS, 0, none⟩) ss.length cs) 28 1 ss.length (ss.map Sl.val), .row (.slice Ak key.length ck) 5 1 key.length (bv key), .row (.slice (some ⟨gSo, 0, none⟩) sso.length cso) 28 1 sso.length (sso.map Sl.val), .abs wn.heap.size (fun w => Cod w wn.heap.size), .row (.slice DR3 ((accC c s.l key).dg.length) eR3) 5 1 ((accC c s.l key).dg.length) (bv (accC c s.l key).dg), .blk g14 45 [.int .i64 ((accC c s.l key).v), .int .i64 ((accC c s.l key).run), .int .i64 ((accC c s.l key).n), .slice DR3 ((accC c s.l key).dg.length) eR3]] ++ (segP sso ++ segP ss)) w1 from Pm.lose (S := segP ex) (hw.pickT (T := segP ex ++ (segP sso ++ segP ss)) 10 [4, 5, 6, 7, 2, 9] (by decide) (by decide) rfl rfl)))
      ·refine TL.pnew rfl rfl rfl (exec_alloc (cs := [.int .i64 0, .int .i64 0, .int .i64 0, .slice none 0 0]) rfl jlazv45 rfl) (fun g28 => ?_)
       refine TL.end_ ?_
       refine TX.held (fun w1 hw => hw.pick [2, 7] (by decide) rfl) ?_
       refine TH.only' (listed' := #[Tt,Tt,Tt,Tt,Tt,Tt,Tt,Ff,Ff,Ff,Ff,Tt,Ff,Ff,Ff]) 6 rfl (by kernel_rfl) rfl ?_
       refine TL.pcallPm (α := AccY (accC c s.l key) (accL c s.l key)) (fun y => .tuple #[.agg #[.int .i64 ((accC c s.l key).v), .int .i64 ((accC c s.l key).run), .int .i64 ((accC c s.l key).n), .slice y.1.2.1 ((accC c s.l key).dg.length) y.1.2.2], .slice y.1.1.1 ((accL c s.l key).length) y.1.1.2, .int .i64 0]) (fun y => [.row (.slice y.1.1.1 ((accL c s.l key).length) y.1.1.2) 27 17 ((accL c s.l key).length) (rcs (accL c s.l key)), .row (.slice y.1.2.1 ((accC c s.l key).dg.length) y.1.2.2) 5 1 ((accC c s.l key).dg.length) (bv (accC c s.l key).dg)]) rfl rfl rfl rfl rfl Tryd.func23 jlanm23 jlabd23 (fun w1 hw => (raccept_any A2 _ c2 c s.A s.n s.c s.l Ak _ ck key w1 (byt_own (hw.at_ (k := 6) rfl) hi4) (hw.seg (T := segP ex ++ (segP sso ++ segP ss)) 8 rfl (List.mem_append_right _ (List.mem_append_right _ (segP_mem hm_s))) hso_s.2.2.2.1) (byt_own (hw.at_ (k := 3) rfl) hB.kb) hso_s.2.1 (by have := hso_s.2.2.2.2.2; omega) (by omega) (by omega) (by omega) (by omega)).mono fun e w2 h => by rw [ha0] at h; exact h.use) ?_
       rintro ⟨⟨⟨AR3, cR3⟩, ⟨DR3, eR3⟩⟩, ⟨hAR31, hAR32⟩, ⟨hDR31, hDR32⟩⟩
       dsimp only [List.cons_append, List.nil_append]
       dsimp only at hAR31 hAR32 hDR31 hDR32
       refine TL.end_ ?_
       refine TX.held (fun w1 hw => hw.pick [4, 9] (by decide) rfl) ?_
       refine TH.tk (listed' := #[Tt,Tt,Tt,Tt,Tt,Tt,Tt,Tt,Ff,Ff,Ff,Tt,Ff,Ff,Ff]) 7 rfl rfl rfl (gives_move rfl rfl) (fun w1 hw => hw.pick [4, 9] (by decide) rfl) ?_
       refine TH.tk (listed' := #[Tt,Tt,Tt,Tt,Tt,Tt,Tt,Tt,Tt,Ff,Ff,Tt,Ff,Ff,Ff]) 8 rfl rfl rfl (gives_extract rfl rfl rfl) (fun w1 hw => hw.pick [4, 9] (by decide) rfl) ?_
       refine TH.tk (listed' := #[Tt,Tt,Tt,Tt,Tt,Tt,Tt,Tt,Tt,Tt,Ff,Tt,Ff,Ff,Ff]) 9 rfl rfl rfl (gives_extract rfl rfl rfl) (fun w1 hw => hw.pick [4, 9] (by decide) rfl) ?_
       refine TH.tk (listed' := #[Tt,Tt,Tt,Tt,Tt,Tt,Tt,Tt,Tt,Tt,Tt,Tt,Ff,Ff,Ff]) 10 rfl rfl rfl (gives_extract rfl rfl rfl) (fun w1 hw => hw.pick [4, 9] (by decide) rfl) ?_
       refine TH.only' (listed' := #[Tt,Tt,Tt,Tt,Tt,Tt,Tt,Tt,Tt,Tt,Tt,Tt,Tt,Ff,Ff]) 12 rfl (by kernel_rfl) rfl ?_
       refine TL.pstore (k := 2) (vs := [.int .i64 ((accC c s.l key).v), .int .i64 ((accC c s.l key).run), .int .i64 ((accC c s.l key).n), .slice DR3 ((accC c s.l key).dg.length) eR3]) rfl rfl rfl rfl rfl rfl rfl jlasz45 jlaone_i64i64i64s (by show 4 ≤ 4; decide) (L' := ([.row (.slice AR3 ((accL c s.l key).length) cR3) 27 17 ((accL c s.l key).length) (rcs (accL c s.l key)), .row (.slice DR3 ((accC c s.l key).dg.length) eR3) 5 1 ((accC c s.l key).dg.length) (bv (accC c s.l key).dg), .blk g28 45 [.int .i64 ((accC c s.l key).v), .int .i64 ((accC c s.l key).run), .int .i64 ((accC c s.l key).n), .slice DR3 ((accC c s.l key).dg.length) eR3], .row (.slice (some ⟨gT, 0, none⟩) tr.length ct) 28 1 tr.length (tr.map Sl.val), .row (.slice (some ⟨gS, 0, none⟩) ss.length cs) 28 1 ss.length (ss.map Sl.val), .row (.slice Ak key.length ck) 5 1 key.length (bv key), .row (.slice (some ⟨gSo, 0, none⟩) sso.length cso) 28 1 sso.length (sso.map Sl.val), .abs wn.heap.size (fun w => Cod w wn.heap.size), .row (.slice A2 c.dg.length c2) 5 1 c.dg.length (bv c.dg), .blk g14 45 [.int .i64 c.v, .int .i64 c.run, .int .i64 c.n, .slice A2 c.dg.length c2]] ++ (segP ex ++ (segP sso ++ segP ss)))) rfl ?_
       refine TL.end_ ?_
       refine TX.held (fun w1 hw => hw.pick [4, 9] (by decide) rfl) ?_
       refine TH.tk (listed' := #[Tt,Tt,Tt,Tt,Tt,Tt,Tt,Tt,Tt,Tt,Tt,Tt,Tt,Tt,Ff]) 13 rfl rfl rfl (gives_assign rfl rfl) (fun w1 hw => hw.pick [4, 9] (by decide) rfl) ?_
       refine TH.tk (listed' := #[Tt,Tt,Tt,Tt,Tt,Tt,Tt,Tt,Tt,Tt,Tt,Tt,Tt,Tt,Tt]) 14 rfl rfl rfl (gives_assign rfl rfl) (fun w1 hw => hw.pick [4, 9] (by decide) rfl) ?_
       refine TH.done (by kernel_rfl) ?_
       refine TX.then_ (TC.seq_ (TC.seq_ (TC.region ?_)))
       refine TL.mv ?_
       refine TL.val rfl rfl rfl (gives_bin rfl rfl rfl (fun w => bin_neq_f (by decide) w)) ?_
       refine TL.end_ (TX.then_ (TC.condF rfl (TC.skip_ (TX.then_ (TC.region ?_)))))
       refine TL.val rfl rfl rfl (pm_loadV (k := 2) (i := 0) (n := 4) (v := .agg #[.int .i64 ((accC c s.l key).v), .int .i64 ((accC c s.l key).run), .int .i64 ((accC c s.l key).n), .slice DR3 ((accC c s.l key).dg.length) eR3]) rfl rfl jlaag45 jlasz45 rfl (by show 4 ≤ 4; decide) rfl) ?_
       refine TL.pstore (k := 9) (vs := [.int .i64 ((accC c s.l key).v), .int .i64 ((accC c s.l key).run), .int .i64 ((accC c s.l key).n), .slice DR3 ((accC c s.l key).dg.length) eR3]) rfl rfl rfl rfl rfl rfl rfl jlasz45 jlaone_i64i64i64s (by show 4 ≤ 4; decide) (L' := ([.row (.slice AR3 ((accL c s.l key).length) cR3) 27 17 ((accL c s.l key).length) (rcs (accL c s.l key)), .row (.slice DR3 ((accC c s.l key).dg.length) eR3) 5 1 ((accC c s.l key).dg.length) (bv (accC c s.l key).dg), .blk g28 45 [.int .i64 ((accC c s.l key).v), .int .i64 ((accC c s.l key).run), .int .i64 ((accC c s.l key).n), .slice DR3 ((accC c s.l key).dg.length) eR3], .row (.slice (some ⟨gT, 0, none⟩) tr.length ct) 28 1 tr.length (tr.map Sl.val), .row (.slice (some ⟨gS, 0, none⟩) ss.length cs) 28 1 ss.length (ss.map Sl.val), .row (.slice Ak key.length ck) 5 1 key.length (bv key), .row (.slice (some ⟨gSo, 0, none⟩) sso.length cso) 28 1 sso.length (sso.map Sl.val), .abs wn.heap.size (fun w => Cod w wn.heap.size), .row (.slice A2 c.dg.length c2) 5 1 c.dg.length (bv c.dg), .blk g14 45 [.int .i64 ((accC c s.l key).v), .int .i64 ((accC c s.l key).run), .int .i64 ((accC c s.l key).n), .slice DR3 ((accC c s.l key).dg.length) eR3]] ++ (segP ex ++ (segP sso ++ segP ss)))) rfl ?_
       refine TL.end_ (TX.in_normal (TX.then_ (TC.region ?_)))
       refine TL.mv ?_
       refine TL.val rfl rfl rfl (gives_bin rfl rfl rfl (fun w => bin_add_ (r := ((i + 1 : Nat) : Int)) (by simp only [IntKind.wrap_i64]; omega) w)) ?_
       refine TL.as_ ?_
       refine TL.end_ ?_
       exact TX.round (⟨((i + 1, (accC c s.l key)), (DR3, eR3)), by show i + 1 ≤ ss.length + 1; omega, by rw [fold_take hsl_s]; show accC (foldS key (ls.take i)).1 s.l key = _; rw [hfo], hDR31, hDR32⟩) (by show ss.length + 1 - (i + 1) < ss.length + 1 - i; omega) ⟨rfl, rfl, rfl, rfl, rfl, rfl, rfl, trivial⟩ (fun w1 hw => (show Pm wn ([.row (.slice (some ⟨gS, 0, none⟩) ss.length cs) 28 1 ss.length (ss.map Sl.val), .row (.slice Ak key.length ck) 5 1 key.length (bv key), .row (.slice (some ⟨gSo, 0, none⟩) sso.length cso) 28 1 sso.length (sso.map Sl.val), .abs wn.heap.size (fun w => Cod w wn.heap.size), .row (.slice DR3 ((accC c s.l key).dg.length) eR3) 5 1 ((accC c s.l key).dg.length) (bv (accC c s.l key).dg), .blk g14 45 [.int .i64 ((accC c s.l key).v), .int .i64 ((accC c s.l key).run), .int .i64 ((accC c s.l key).n), .slice DR3 ((accC c s.l key).dg.length) eR3]] ++ (segP sso ++ segP ss)) w1 from Pm.lose (S := segP ex) (hw.pickT (T := segP ex ++ (segP sso ++ segP ss)) 10 [4, 5, 6, 7, 1, 9] (by decide) (by decide) rfl rfl)))
     ·have q178 := of_decide_eq_false h178
      refine TL.end_ (TX.then_ (TC.condF rfl (TC.skip_ (TX.in_normal (TX.then_ (TC.region ?_))))))
      refine TL.mv ?_
      refine TL.val rfl rfl rfl (gives_bin rfl rfl rfl (fun w => bin_add_ (r := ((i + 1 : Nat) : Int)) (by simp only [IntKind.wrap_i64]; omega) w)) ?_
      refine TL.as_ ?_
      refine TL.end_ ?_
      exact TX.round (⟨((i + 1, c), (A2, c2)), by show i + 1 ≤ ss.length + 1; omega, by rw [List.take_of_length_le (show ls.length ≤ i + 1 by omega)]; rw [List.take_of_length_le (show ls.length ≤ i by omega)] at hfo; exact hfo, hd1, hd2⟩) (by show ss.length + 1 - (i + 1) < ss.length + 1 - i; omega) ⟨rfl, rfl, rfl, rfl, rfl, rfl, rfl, trivial⟩ (fun w1 hw => (show Pm wn ([.row (.slice (some ⟨gS, 0, none⟩) ss.length cs) 28 1 ss.length (ss.map Sl.val), .row (.slice Ak key.length ck) 5 1 key.length (bv key), .row (.slice (some ⟨gSo, 0, none⟩) sso.length cso) 28 1 sso.length (sso.map Sl.val), .abs wn.heap.size (fun w => Cod w wn.heap.size), .row (.slice A2 c.dg.length c2) 5 1 c.dg.length (bv c.dg), .blk g14 45 [.int .i64 c.v, .int .i64 c.run, .int .i64 c.n, .slice A2 c.dg.length c2]] ++ (segP sso ++ segP ss)) w1 from Pm.lose (S := segP ex) (hw.pickT (T := segP ex ++ (segP sso ++ segP ss)) 7 [1, 2, 3, 4, 5, 6] (by decide) (by decide) rfl rfl)))
  ·have q60 := of_decide_eq_false h60
   refine TL.end_ (TX.then_ (TC.condF rfl (TC.exit_ (TX.then_exit (TX.then_exit (TX.in_same (TX.then_ (TC.seq_ (TC.region ?_)))))))))
   refine TL.as_ ?_
   refine TL.end_ (TX.then_ (TC.ret_ ?_))
   exact ret_tmp Tryd.results4 rfl (fun w1 hw => ⟨rfl, hwn.bel.trans (hw.bel.mono hwn.bel.size)⟩)
end Go.Proofs.YtmeaeeehnkcblaaDoor
