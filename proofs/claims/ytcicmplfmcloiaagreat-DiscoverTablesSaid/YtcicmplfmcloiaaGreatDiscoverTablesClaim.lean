/-
  THE STATEMENT 'DiscoverTables': the row, closed out of the walk.
-/
import Derived.Test.YtcicmplfmcloiaaGreatRows
import Derived.Test.YtcicmplfmcloiaaGreatDiscoverTablesPk2
import Derived.Test.YtcicmplfmcloiaaGreatDiscoverTablesPk6
namespace Go.Proofs.YtcicmplfmcloiaaGreat.discoverTables
open Go.ChangeShapes Go.WideShapes Go.ChangeAt Go.RowKit
set_option linter.unusedVariables false
set_option linter.unusedSimpArgs false

set_option maxRecDepth 100000 in
theorem lifted (os : Os) (started : os.Started) (H : Type) (enc : TypeId × Value → H) :
    ReturnsInHanded {} Tryz.checked os 6 .any (Rows.discoverTablesSpec.pre6 enc Tryz.prog Tryz.f6 Rows.discoverTablesRow.domain false) (Rows.discoverTablesSpec.post enc Tryz.prog Tryz.f6 false true false false) := by
  refine returnsInHanded_of_change (C := Tryz.checked) own started (by kernel_rfl) Tryz.func6
    (ChangeSpec.witness6 (enc := enc) (C := Tryz.checked) false ⟨#[], #[.slice none 0 0, .bool false], []⟩ 8 (by kernel_rfl) (by kernel_rfl) (by kernel_rfl) (by kernel_rfl)) ?_
  intro W base args ds gs before hval0 hW hcnd _
  have hval : ∀ (j : Nat) t v, Tryz.f6.params[j]? = some t → args[j]? = some v → Value.okWide Tryz.prog W .any base t v := hval0
  have hW' := hW
  obtain ⟨p, q, hA0, hV, rfl, hfz, hnd⟩ := hW
  have hA : DataW.TrodAll enc Tryz.prog W 0 (fun _ => true) true Tryz.f6.params.toList args.toList ds p := hA0
  rw [Tryz.params6] at hA hval
  obtain ⟨v0, vs0, d0, ds0, p0, q0, hargs, rfl, rfl, h0, r0⟩ := trodAll_cons hA
  obtain ⟨v1, vs1, d1, ds1, p1, q1, rfl, rfl, rfl, h1, r1⟩ := trodAll_cons r0
  obtain ⟨rfl, rfl, rfl⟩ := trodAll_nil r1
  obtain rfl : args = #[v0, v1] := by cases args; simp_all
  obtain ⟨rfl, rfl⟩ := trodVars_none hV
  have k0 := h0
  have lt0 : ∀ x ∈ p0, x.block < W.heap.size := by obtain ⟨m, hm⟩ := k0; exact DataW.trod_lt m _ _ _ hm
  obtain ⟨A0, n0, c0, l0, rfl, hc0, hm0, hb0⟩ := open_byt Tryz.underlying22 Tryz.underlying5 (by kernel_rfl) (hval 0 _ v0 rfl rfl) h0
  obtain ⟨x1, rfl, rfl, rfl⟩ := open_bool Tryz.underlying4 (hval 1 _ v1 rfl rfl) h1
  clear hA0 hval0
  refine (discoverTables_walk A0 n0 c0 l0 x1 W hb0 hc0 hm0).mono fun e W' ⟨he, bel⟩ => ?_
  subst he
  exact ⟨_, rfl, _, _, _, [], _, [], hW', trodAll_mk1 (shut_bool Tryz.underlying4 _), (trodAll_cons_mk (Below.trod laidOut (by kernel_rfl) (of_decide_eq_true (by kernel_rfl)) k0 bel lt0) (trodAll_cons_mk (shut_bool Tryz.underlying4 _) trodAll_mk0)), rfl, bel.frame _, fun h => by cases h⟩

noncomputable abbrev PJ : Program := Tryz.pinned.checked.prog
noncomputable abbrev FJ : Func := Tryz.f6
noncomputable abbrev SJ : ChangeSpec := Rows.discoverTablesSpec
noncomputable abbrev CJ : OpenClaim := Rows.discoverTablesRow
theorem and_t {a b : Bool} (h : a = true) (g : b = true) : (a && b) = true := by rw [h, g]; rfl
theorem joined_of {P : Program} {f : FuncId} {fn : Func} {s : ChangeSpec} {c : OpenClaim} (h0 : (c.wf (OpenSpec.ofChange s)) = true) (h1 : (laidOutB P) = true) (h2 : (mapsRowed P) = true) (h3 : (fn.params.all (P.readableRec ·)) = true) (h4 : (namedTie P c.named s.vars) = true) (h5 : ((c.stops == [])) = true) (h6 : ((P.stops == [])) = true) (h7 : ((c.knobs == [])) = true) (h8 : ((P.stopKnobs == [])) = true) (h9 : ((c.inPlace == P.inPlace f)) = true) (h10 : ((c.unfollowed == P.unfollowed f)) = true) (h11 : ((c.recurses == P.recurses f)) = true) (h12 : ((c.named == P.varsNamed f)) = true) (h13 : ((c.maps == (fn.params.toList ++ s.plain.varTypes P).any (P.mapsRec ·))) = true) (h14 : ((c.ifaces == (fn.params.toList ++ s.plain.varTypes P).any (P.ifacesRec ·))) = true) (h15 : ((c.mapsOut == P.mapsAmong fn.resultTypes.toList)) = true) (h16 : ((c.loops == (fn.params.toList ++ s.plain.varTypes P).any (P.loopsFrom ·))) = true) (h17 : ((c.wideKeys == (fn.params.toList ++ s.plain.varTypes P ++ fn.resultTypes.toList).any (P.wideKeysFrom ·))) = true) (h18 : (s.vars.all (P.varReadable ·)) = true) (h19 : (fn.resultTypes.all (fun t => P.readableRec t && decide (t < P.types.size))) = true) (h20 : ((c.ifacesOut == fn.resultTypes.toList.any (P.ifacesRec ·))) = true) (h21 : ((c.loopsOut == fn.resultTypes.toList.any (P.loopsFrom ·))) = true) (h22 : ((c.plainKeys == P.plainKeys)) = true) (h23 : (c.shortTexts.isNone) = true) (h24 : (P.stopsHeard) = true) (h25 : (P.mayEnter) = true) (h26 : ((c.lifted == P.liftsFinal)) = true) (h27 : ((P.make == some c.make)) = true) (h28 : ((c.kinds == (if c.domain.isEmpty then [] else fn.params.toList.map fun t => match P.underlying t with | some (.int k) => some k | _ => none))) = true) (h29 : ((c.pinned == c.pinnedBy)) = true) (h30 : ((c.veiled == (fn.params.toList ++ s.plain.varTypes P ++ fn.resultTypes.toList).any (P.veiledRec ·))) = true) (h31 : (c.veiledFits P fn.params.toList (fn.params.toList ++ s.plain.varTypes P ++ fn.resultTypes.toList)) = true) : joinedFacts P f fn s c = true :=
  and_t (and_t (and_t (and_t (and_t (and_t (and_t (and_t (and_t (and_t (and_t (and_t (and_t (and_t (and_t (and_t (and_t (and_t (and_t (and_t (and_t (and_t (and_t (and_t (and_t (and_t (and_t (and_t (and_t (and_t (and_t (h0) h1) h2) h3) h4) h5) h6) h7) h8) h9) h10) h11) h12) h13) h14) h15) h16) h17) h18) h19) h20) h21) h22) h23) h24) h25) h26) h27) h28) h29) h30) h31
theorem j0 : (CJ.wf (OpenSpec.ofChange SJ)) = true := by kernel_rfl
theorem j1 : (laidOutB PJ) = true := by kernel_rfl
theorem j2 : (mapsRowed PJ) = true := by kernel_rfl
theorem j3 : (FJ.params.all (PJ.readableRec ·)) = true := by kernel_rfl
theorem j4 : (namedTie PJ CJ.named SJ.vars) = true := by kernel_rfl
theorem j5 : ((CJ.stops == [])) = true := by kernel_rfl
theorem j6 : ((PJ.stops == [])) = true := by kernel_rfl
theorem j7 : ((CJ.knobs == [])) = true := by kernel_rfl
theorem j8 : ((PJ.stopKnobs == [])) = true := by kernel_rfl
theorem j9 : ((CJ.inPlace == PJ.inPlace 6)) = true := by kernel_rfl
theorem j10 : ((CJ.unfollowed == PJ.unfollowed 6)) = true := by kernel_rfl
theorem j11 : ((CJ.recurses == PJ.recurses 6)) = true := by kernel_rfl
theorem j12 : ((CJ.named == PJ.varsNamed 6)) = true := by kernel_rfl
theorem j13 : ((CJ.maps == (FJ.params.toList ++ SJ.plain.varTypes PJ).any (PJ.mapsRec ·))) = true := by kernel_rfl
theorem j14 : ((CJ.ifaces == (FJ.params.toList ++ SJ.plain.varTypes PJ).any (PJ.ifacesRec ·))) = true := by kernel_rfl
theorem j15 : ((CJ.mapsOut == PJ.mapsAmong FJ.resultTypes.toList)) = true := by kernel_rfl
theorem j16 : ((CJ.loops == (FJ.params.toList ++ SJ.plain.varTypes PJ).any (PJ.loopsFrom ·))) = true := by kernel_rfl
theorem j17 : ((CJ.wideKeys == (FJ.params.toList ++ SJ.plain.varTypes PJ ++ FJ.resultTypes.toList).any (PJ.wideKeysFrom ·))) = true := by kernel_rfl
theorem j18 : (SJ.vars.all (PJ.varReadable ·)) = true := by kernel_rfl
theorem j19 : (FJ.resultTypes.all (fun t => PJ.readableRec t && decide (t < PJ.types.size))) = true := by kernel_rfl
theorem j20 : ((CJ.ifacesOut == FJ.resultTypes.toList.any (PJ.ifacesRec ·))) = true := by kernel_rfl
theorem j21 : ((CJ.loopsOut == FJ.resultTypes.toList.any (PJ.loopsFrom ·))) = true := by kernel_rfl
theorem j22 : ((CJ.plainKeys == PJ.plainKeys)) = true := by kernel_rfl
theorem j23 : (CJ.shortTexts.isNone) = true := by kernel_rfl
theorem j24 : (PJ.stopsHeard) = true := by kernel_rfl
theorem j25 : (PJ.mayEnter) = true := by kernel_rfl
theorem j26 : ((CJ.lifted == PJ.liftsFinal)) = true := by kernel_rfl
theorem j27 : ((PJ.make == some CJ.make)) = true := by kernel_rfl
theorem j28 : ((CJ.kinds == (if CJ.domain.isEmpty then [] else FJ.params.toList.map fun t => match PJ.underlying t with | some (.int k) => some k | _ => none))) = true := by kernel_rfl
theorem j29 : ((CJ.pinned == CJ.pinnedBy)) = true := by kernel_rfl
theorem j30 : ((CJ.veiled == (FJ.params.toList ++ SJ.plain.varTypes PJ ++ FJ.resultTypes.toList).any (PJ.veiledRec ·))) = true := by kernel_rfl
theorem j31 : (CJ.veiledFits PJ FJ.params.toList (FJ.params.toList ++ SJ.plain.varTypes PJ ++ FJ.resultTypes.toList)) = true := by kernel_rfl
theorem joined : joinedFacts PJ 6 FJ SJ CJ = true := joined_of j0 j1 j2 j3 j4 j5 j6 j7 j8 j9 j10 j11 j12 j13 j14 j15 j16 j17 j18 j19 j20 j21 j22 j23 j24 j25 j26 j27 j28 j29 j30 j31

theorem over : Rows.discoverTablesRow.holds Tryz.pinned (OpenSpec.ofChange Rows.discoverTablesSpec) :=
  OpenClaim.holds_of_wide 6 Tryz.f6 rfl rfl rfl rfl rfl rfl rfl ⟨rfl, rfl, rfl, rfl, rfl⟩ rfl rfl rfl rfl rfl (by kernel_rfl) Tryz.func6 joined
    (of_decide_eq_true (by kernel_rfl)) (by unfold Func.isWrapper; first | (rw [if_pos (by decide +kernel)]; kernel_rfl) | (rw [if_neg (by decide +kernel)]; exact ⟨rfl, rfl⟩))
    (fun os started H enc _ => lifted os started H enc)

theorem proved : Rows.DiscoverTablesSaid := over
#print axioms proved
end Go.Proofs.YtcicmplfmcloiaaGreat.discoverTables
