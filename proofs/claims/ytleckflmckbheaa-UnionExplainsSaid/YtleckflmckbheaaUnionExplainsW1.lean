/-
  The walk of UnionExplains.
-/
import Derived.Test.YtleckflmckbheaaPu6
import Derived.Test.YtleckflmckbheaaPu5
namespace Go.Proofs.Ytleckflmckbheaa
open Go.RowKit
set_option linter.unusedVariables false
set_option linter.unusedSimpArgs false
set_option maxRecDepth 20000
theorem wf_r32 {x : Int} (h : (Lit.int .u32 x).wf = true) : 0 ≤ x ∧ x ≤ 4294967295 := by
 simp [Lit.wf, IntKind.min, IntKind.max, IntKind.signed, IntKind.bits] at h; omega
theorem bin_neqb {P : Program} {t : TypeId} (ht : P.underlying t = some .bool) {x y : Operand} (a b : Bool) (w : World) : (do eqGuard .neq t x y (.bool a) (.bool b); binOp .neq t (.bool a) (.bool b) : Sem Value).run P w = .ok (.bool (a != b)) w := by
 have h : (eqGuard .neq t x y (.bool a) (.bool b) : Sem Unit).run P w = .ok () w := by simp [eqGuard, go_sem]
 have h2 : (binOp .neq t (.bool a) (.bool b) : Sem Value).run P w = .ok (.bool (a != b)) w := by
  have e : (Op.equalIn Op.maxDepth t (.bool a) (.bool b)).run P w = .ok (a == b) w := by
   rw [show Op.maxDepth = 9999 + 1 from rfl]
   exact run_equalIn_bool w 9999 t a b ht
  simp [binOp, Op.equal, go_sem, e]
  cases a <;> cases b <;> rfl
 simp [h, h2, go_sem]
theorem trl_chk {F : List Fc} (hF : Frs F) : ∀ {p : List Fc} {x l y : Int}, Trl F x l p y → chkF p x = some y
 | [], x, l, y, h => by cases h; rfl
 | f :: p, x, l, y, ⟨h1, _, h3, h4⟩ => by
  rw [chkF, if_neg (by rintro (hh | ⟨h5, h6⟩); (exact hF.ne f h1 hh); exact h3.elim h5 h6)]
  exact trl_chk hF h4
theorem ulenm8 : (Try.f8.name == "runtime.NumGoroutine") = false := by decide
theorem ulebd8 : Try.f8.body.isNone = false := rfl
theorem ulenm9 : (Try.f9.name == "runtime.NumGoroutine") = false := by decide
theorem ulebd9 : Try.f9.body.isNone = false := rfl
theorem ulenm10 : (Try.f10.name == "runtime.NumGoroutine") = false := by decide
theorem ulebd10 : Try.f10.body.isNone = false := rfl
theorem ulenm14 : (Try.f14.name == "runtime.NumGoroutine") = false := by decide
theorem ulebd14 : Try.f14.body.isNone = false := rfl
theorem ulenm15 : (Try.f15.name == "runtime.NumGoroutine") = false := by decide
theorem ulebd15 : Try.f15.body.isNone = false := rfl
theorem ulenm16 : (Try.f16.name == "runtime.NumGoroutine") = false := by decide
theorem ulebd16 : Try.f16.body.isNone = false := rfl
theorem ulenm17 : (Try.f17.name == "runtime.NumGoroutine") = false := by decide
theorem ulebd17 : Try.f17.body.isNone = false := rfl
theorem ulenm18 : (Try.f18.name == "runtime.NumGoroutine") = false := by decide
theorem ulebd18 : Try.f18.body.isNone = false := rfl
theorem ulenm12 : (Try.f12.name == "runtime.NumGoroutine") = false := by decide
theorem ulebd12 : Try.f12.body.isNone = false := rfl
theorem ulesz42 (w : World) : (sizeOf 42).run Try.prog w = .ok 3 w := rfl
theorem uleag42 (w : World) : (isAgg 42).run Try.prog w = .ok true w := rfl
theorem ulezv42 (w : World) : (zeroValue 42).run Try.prog w = .ok (.agg #[.int .i64 0, .int .u32 0, .int .u32 0]) w := rfl
set_option maxHeartbeats 1000000 in
theorem unionExplains_walk (A0 : Option Addr) (n0 c0 : Nat) (l0 : List Int) (xa xb : Int) (w : World) (hb0 : Byt w w.heap.size A0 n0 l0) (hc0 : n0 ≤ c0) (hm0 : c0 ≤ maxLen) (wa : (Lit.int .u32 xa).wf = true) (wb : (Lit.int .u32 xb).wf = true) :
  Calls Try.prog 4 #[.slice A0 n0 c0, .int .u32 xa, .int .u32 xb] w fun e w' => e = .returned (.bool true) ∧ Below w.heap.size w w' := by
 have hxa := wf_r32 wa
 have hxb := wf_r32 wb
 have hn0 : (n0 : Int) ≤ 9223372036854775807 := by unfold maxLen at hm0; omega
 refine begin_ (vs := [.slice A0 n0 c0, .int .u32 xa, .int .u32 xb]) Try.func4 rfl rfl rfl ?_ (Pm.start w)
 refine TC.seq_ (TC.region ?_)
 refine TL.val rfl rfl rfl (gives_assign rfl rfl) ?_
 refine TL.end_ (TX.then_ (TC.seq_ (TC.seq_ (TC.region ?_))))
 refine TL.pcall1 (r := .bool true) rfl rfl rfl rfl rfl Try.func8 ulenm8 ulebd8 (fun w1 hw => awake_true w1) ?_
 refine TL.val rfl rfl rfl (gives_boolnot rfl rfl) ?_
 refine TL.end_ (TX.then_ (TC.condF rfl (TC.skip_ (TX.then_ (TC.seq_ (TC.region ?_))))))
 refine TL.val rfl rfl rfl (gives_move rfl rfl) ?_
 refine TL.callNew (I := Pm w []) (p := fun cb w => Cod w cb) rfl rfl rfl rfl rfl Try.func9 ulenm9 ulebd9 (fun w1 hw => (roll_any A0 n0 c0 l0 w1 ((hb0.below hw.bel).more hw.bel.size) hc0 hn0).mono fun e w2 ⟨h1, h2, h3⟩ => ⟨h1, h2, cod_cells h2, h3⟩) cod_stab (fun wn hwn => ?_)
 have hwb := hwn.bel
 refine TL.val rfl rfl rfl (gives_assign rfl rfl) ?_
 refine TL.end_ (TX.then_ (TC.seq_ (TC.region ?_)))
 refine TL.val rfl rfl rfl (gives_move rfl rfl) ?_
 refine TL.pcallCod (k := 0) (α := {y : (Option Addr × Nat) × List Fc // validF y.2 ∧ (∀ f ∈ y.2, f.Ok) ∧ y.2.length ≤ 16 ∧ y.2.length ≤ y.1.2 ∧ y.1.2 ≤ maxLen}) (fun y => .slice y.1.1.1 y.1.2.length y.1.1.2) (fun y => [.row (.slice y.1.1.1 y.1.2.length y.1.1.2) 42 3 y.1.2.length (fcs y.1.2)]) rfl rfl rfl rfl rfl Try.func10 ulenm10 ulebd10 rfl (fun w1 hw hC1 => facts_cod wn.heap.size w1 hC1 16 (by decide)) ?_
 rintro ⟨⟨⟨Ax, cx⟩, x⟩, hV, hok, hxm, hxc, hxd⟩
 dsimp only [List.cons_append, List.nil_append]
 dsimp only at hV hok hxm hxc hxd ⊢
 refine TL.val rfl rfl rfl (gives_assign rfl rfl) ?_
 refine TL.end_ (TX.then_ ?_)
 refine TC.join (α := {y : Int × Int // (0 ≤ y.1 ∧ y.1 ≤ 4294967295) ∧ 0 ≤ y.2 ∧ y.2 ≤ 4294967295}) (fun y => [(1, .int .u32 y.1.1), (2, .int .u32 y.1.2), (7, .pointer (some ⟨wn.heap.size, 0, none⟩)), (8, .slice Ax x.length cx)]) (fun y => Pm wn [.row (.slice Ax x.length cx) 42 3 x.length (fcs x), .abs wn.heap.size (fun w => Cod w wn.heap.size)]) ?_ ?_
 ·refine TC.seq_ (TC.region ?_)
  refine TL.val rfl rfl rfl (gives_move rfl rfl) ?_
  refine TL.pcallCod (k := 1) (α := Bool) (fun x => .bool x) (fun x => []) rfl rfl rfl rfl rfl Try.func14 ulenm14 ulebd14 rfl (fun w1 hw hC1 => dbool_cod wn.heap.size w1 hC1 2 (by decide)) ?_
  rintro bb
  dsimp only [List.cons_append, List.nil_append]
  refine TL.end_ (TX.then_ ?_)
  refine TC.split (t := bb) rfl (fun c23 => ?_) (fun c23 => ?_)
  ·refine TC.region ?_
   refine TL.val rfl rfl rfl (gives_move rfl rfl) ?_
   refine TL.pcallCod (k := 1) (α := {a : Int // 167772161 ≤ a ∧ a ≤ 167772173}) (fun x => .int .u32 x.1) (fun x => []) rfl rfl rfl rfl rfl Try.func15 ulenm15 ulebd15 rfl (fun w1 hw hC1 => daddr_cod wn.heap.size w1 hC1) ?_
   rintro ⟨a2, ha21, ha22⟩
   dsimp only [List.cons_append, List.nil_append]
   refine TL.val rfl rfl rfl (gives_move rfl rfl) ?_
   refine TL.pcallCod (k := 1) (α := {a : Int // 167772161 ≤ a ∧ a ≤ 167772173}) (fun x => .int .u32 x.1) (fun x => []) rfl rfl rfl rfl rfl Try.func15 ulenm15 ulebd15 rfl (fun w1 hw hC1 => daddr_cod wn.heap.size w1 hC1) ?_
   rintro ⟨b2, hb21, hb22⟩
   dsimp only [List.cons_append, List.nil_append]
   refine TL.val rfl rfl rfl (gives_assign rfl rfl) ?_
   refine TL.val rfl rfl rfl (gives_assign rfl rfl) ?_
   refine TL.end_ ?_
   exact TX.joined (⟨(a2, b2), by dsimp only; omega, by dsimp only; omega⟩) (⟨rfl, rfl, rfl, rfl, trivial⟩) (fun w1 hw => hw)
  ·refine TC.skip_ ?_
   exact TX.joined (⟨(xa, xb), by dsimp only; omega, by dsimp only; omega⟩) (⟨rfl, rfl, rfl, rfl, trivial⟩) (fun w1 hw => hw)
 ·rintro ⟨⟨a, b⟩, har, hbr⟩
  dsimp only at har hbr ⊢
  refine TC.seq_ ?_
  have hfrs := forest_frs hV
  have hfl9 := forest_le x
  have hokf : ∀ f ∈ forest x, f.Ok := fun f hf => hok f (forF_sub x _ f hf)
  refine TC.region ?_
  refine TL.val rfl rfl rfl (gives_move rfl rfl) ?_
  refine TL.val rfl rfl rfl (gives_move rfl rfl) ?_
  refine TL.val rfl rfl rfl (gives_move rfl rfl) ?_
  refine TL.pcallPm (α := {y : (Option Addr × Nat) × List Fc × Bool // ExOk x a b y.2 ∧ y.2.1.length ≤ y.1.2 ∧ y.1.2 ≤ maxLen}) (fun y => .tuple #[.slice y.1.1.1 y.1.2.1.length y.1.1.2, .bool y.1.2.2]) (fun y => [.row (.slice y.1.1.1 y.1.2.1.length y.1.1.2) 42 3 y.1.2.1.length (fcs y.1.2.1)]) rfl rfl rfl rfl rfl Try.func16 ulenm16 ulebd16 (fun w1 hw => explain_any Ax x.length cx x w1 (by obtain ⟨B9, h8⟩ := pm_reads hw (k := 0) rfl; exact reads_up h8 (pm_row_lt hw (k := 0) rfl)) rfl hok a b har hbr) ?_
  rintro ⟨⟨⟨AP, cp⟩, p, ok⟩, hex, hcp1, hcp2⟩
  dsimp only [List.cons_append, List.nil_append] at hex hcp1 hcp2 ⊢
  iterate 5 (first | refine TL.val rfl rfl rfl (gives_assign rfl rfl) ?_ | refine TL.val rfl rfl rfl (gives_extract rfl rfl rfl) ?_ | refine TL.val rfl rfl rfl (gives_move rfl rfl) ?_)
  refine TL.end_ (TX.then_ ?_)
  refine TC.join (α := {u : Unit // (∀ f ∈ p, f ∈ forest x) ∧ p.Nodup ∧ p.length ≤ 100}) (fun y => [(8, .slice Ax x.length cx), (9, .slice AP p.length cp)]) (fun y => Pm wn [.row (.slice AP p.length cp) 42 3 p.length (fcs p), .row (.slice Ax x.length cx) 42 3 x.length (fcs x), .abs wn.heap.size (fun w => Cod w wn.heap.size)]) ?_ ?_
  ·refine TC.seq_ ?_
   have hcoh := hex
   cases ok with
   | true =>
    have hT := hex.2.2 rfl
    have hpF := hT.mem
    have hpn := hfrs.nodup _ _ _ _ hT
    have hpl : p.length ≤ (forest x).length := nodup_len hpn hpF
    have hpok : ∀ f ∈ p, f.Ok := fun f hf => hokf f (hpF f hf)
    refine TC.region ?_
    iterate 4 (first | refine TL.val rfl rfl rfl (gives_move rfl rfl) ?_)
    refine TL.pcall1 (r := .bool true) rfl rfl rfl rfl rfl Try.func17 ulenm17 ulebd17 (fun w1 hw => same_is Ax x.length cx x w1 (by obtain ⟨B9, h8⟩ := pm_reads hw (k := 1) rfl; exact reads_up h8 (pm_row_lt hw (k := 1) rfl)) rfl hok a b har hbr (decide_eq_true (hex.1.1 rfl))) ?_
    refine TL.val rfl rfl rfl (gives_bin2 (v := .bool false) rfl rfl rfl (fun w => bin_neqb Try.underlying4 true true w)) ?_
    iterate 12 (first | refine TL.on rfl rfl rfl ?_ | refine TL.val rfl rfl rfl (gives_move rfl rfl) ?_)
    refine TL.pcall1 (r := .bool true) rfl rfl rfl rfl rfl Try.func18 ulenm18 ulebd18 (fun w1 hw => check_is AP p.length cp p w1 (by obtain ⟨B9, h8⟩ := pm_reads hw (k := 0) rfl; exact reads_up h8 (pm_row_lt hw (k := 0) rfl)) rfl hpok (by omega) a b (trl_chk hfrs (hex.2.2 rfl))) ?_
    iterate 18 (first | refine TL.on rfl rfl rfl ?_ | refine TL.val rfl rfl rfl (gives_pick rfl rfl rfl) ?_ | refine TL.off rfl rfl rfl rfl rfl rfl ?_ | refine TL.val rfl rfl rfl (gives_move rfl rfl) ?_ | refine TL.val rfl rfl rfl (gives_boolnot rfl rfl) ?_)
    refine TL.end_ (TX.then_ (TC.condF rfl (TC.skip_ ?_)))
    exact TX.joined (⟨(), hpF, hpn, by omega⟩) (⟨rfl, rfl, trivial⟩) (fun w1 hw => hw)
   | false =>
    have hp0 : p = [] := hex.2.1 rfl
    have hpF : ∀ f ∈ p, f ∈ forest x := by rw [hp0]; exact fun f hf => absurd hf List.not_mem_nil
    have hpn : p.Nodup := by rw [hp0]; exact List.nodup_nil
    have hpl : p.length = 0 := by rw [hp0]; rfl
    refine TC.region ?_
    iterate 4 (first | refine TL.val rfl rfl rfl (gives_move rfl rfl) ?_)
    refine TL.pcall1 (r := .bool false) rfl rfl rfl rfl rfl Try.func17 ulenm17 ulebd17 (fun w1 hw => same_is Ax x.length cx x w1 (by obtain ⟨B9, h8⟩ := pm_reads hw (k := 1) rfl; exact reads_up h8 (pm_row_lt hw (k := 1) rfl)) rfl hok a b har hbr (decide_eq_false (fun hh => by have := hex.1.2 hh; simp at this))) ?_
    refine TL.val rfl rfl rfl (gives_bin2 (v := .bool false) rfl rfl rfl (fun w => bin_neqb Try.underlying4 false false w)) ?_
    iterate 23 (first | refine TL.on rfl rfl rfl ?_ | refine TL.val rfl rfl rfl (gives_move rfl rfl) ?_ | refine TL.off rfl rfl rfl rfl rfl rfl ?_ | refine TL.val rfl rfl rfl (gives_pick rfl rfl rfl) ?_ | refine TL.val rfl rfl rfl (gives_boolnot rfl rfl) ?_)
    refine TL.val rfl rfl rfl (gives_len rfl Try.underlying26 rfl) ?_
    refine TL.on rfl rfl rfl ?_
    refine TL.val rfl rfl rfl (gives_bin rfl rfl rfl (fun w => bin_gtr_f (by omega) w)) ?_
    refine TL.on rfl rfl rfl ?_
    refine TL.val rfl rfl rfl (gives_pick rfl rfl rfl) ?_
    refine TL.val rfl rfl rfl (gives_pick rfl rfl rfl) ?_
    refine TL.end_ (TX.then_ (TC.condF rfl (TC.skip_ ?_)))
    exact TX.joined (⟨(), hpF, hpn, by omega⟩) (⟨rfl, rfl, trivial⟩) (fun w1 hw => hw)
  ·rintro ⟨⟨⟩, hpF, hpn, hpl⟩
   try dsimp only
   refine TC.seq_ (TC.seq_ (TC.region ?_))
   refine TL.val rfl rfl rfl (gives_move rfl rfl) ?_
   refine TL.val rfl rfl rfl (gives_len rfl Try.underlying26 rfl) ?_
   refine TL.val rfl rfl rfl (gives_move rfl rfl) ?_
   refine TL.end_ (TX.then_ (TC.block ?_))
   refine TC.loop_ (α := {i : Nat // i ≤ p.length}) (fun y => [(8, .slice Ax x.length cx), (9, .slice AP p.length cp), (61, .int .i64 (p.length : Nat)), (62, .int .i64 ((y.1 : Nat) : Int))]) (fun y => Pm wn [.row (.slice AP p.length cp) 42 3 p.length (fcs p), .row (.slice Ax x.length cx) 42 3 x.length (fcs x), .abs wn.heap.size (fun w => Cod w wn.heap.size)]) (fun y => p.length - y.1) (⟨0, Nat.zero_le _⟩) ⟨rfl, rfl, rfl, rfl, trivial⟩ (fun w1 hw => hw) ?_
   rintro ⟨i, hi⟩
   try dsimp only
   refine TC.seq_ (TC.region ?_)
   refine TL.vsplit rfl rfl rfl (gives_bin rfl rfl rfl (fun w => bin_lss w)) (fun h63 => ?_) (fun h63 => ?_)
   ·have q63 := of_decide_eq_true h63
    have hi2 : i < p.length := by omega
    obtain ⟨f, hf⟩ : ∃ f, p[i]? = some f := ⟨_, List.getElem?_eq_getElem hi2⟩
    have hfF := hpF f (List.mem_of_getElem? hf)
    refine TL.fact (p := ∃ g, AP = some ⟨g, 0, none⟩) (fun w1 hw => rowA hw (k := 0) rfl (by omega)) ?_
    rintro ⟨gp, rfl⟩
    refine TL.end_ (TX.then_ (TC.seq_ (TC.condT rfl (TC.skip_ (TX.then_ (TC.seq_ (TC.block (TC.seq_ (TC.region ?_)))))))))
    refine TL.val rfl rfl rfl (gives_move rfl rfl) ?_
    refine TL.val rfl rfl rfl (gives_assign rfl rfl) ?_
    refine TL.end_ (TX.then_ (TC.seq_ (TC.region ?_)))
    refine TL.val rfl rfl rfl (gives_assign rfl rfl) ?_
    refine TL.end_ (TX.then_ (TC.seq_ (TC.seq_ (TC.region ?_))))
    refine TL.val rfl rfl rfl (gives_move rfl rfl) ?_
    refine TL.pcallRow (n := (forest x).length) (ys := fcs (forest x)) rfl rfl rfl rfl rfl Try.func12 ulenm12 ulebd12 (fun w1 hw => by have h9 := forest_any Ax x.length cx x w1 (by obtain ⟨B9, h8⟩ := pm_reads hw (k := 1) rfl; exact reads_up h8 (pm_row_lt hw (k := 1) rfl)) rfl hok; rw [show forV x = forest x from if_pos hV] at h9; exact h9) (fun AF66 cF66 hF661 hF662 => ?_)
    refine TL.val rfl rfl rfl (gives_len rfl Try.underlying26 rfl) ?_
    refine TL.val rfl rfl rfl (gives_move rfl rfl) ?_
    refine TL.end_ (TX.then_ (TC.block ?_))
    refine TC.loop_ (α := {y : Nat × Bool // y.1 ≤ (forest x).length ∧ (y.2 = true ↔ f ∈ (forest x).take y.1)}) (fun y => [(8, .slice Ax x.length cx), (9, .slice (some ⟨gp, 0, none⟩) p.length cp), (11, .int .i64 ((i : Nat) : Int)), (61, .int .i64 (p.length : Nat)), (62, .int .i64 ((i : Nat) : Int)), (66, .slice AF66 ((forest x).length) cF66), (67, .int .i64 ((forest x).length : Nat)), (68, .int .i64 ((y.1.1 : Nat) : Int)), (12, .bool y.1.2)]) (fun y => Pm wn [.row (.slice AF66 ((forest x).length) cF66) 42 3 ((forest x).length) (fcs (forest x)), .row (.slice (some ⟨gp, 0, none⟩) p.length cp) 42 3 p.length (fcs p), .row (.slice Ax x.length cx) 42 3 x.length (fcs x), .abs wn.heap.size (fun w => Cod w wn.heap.size)]) (fun y => (forest x).length - y.1.1) (⟨(0, false), Nat.zero_le _, iff_of_false (by simp) (by simp)⟩) ⟨rfl, rfl, rfl, rfl, rfl, rfl, rfl, rfl, rfl, trivial⟩ (fun w1 hw => hw) ?_
    rintro ⟨⟨j, fl⟩, hj, hfl⟩
    dsimp only at hj hfl ⊢
    refine TC.seq_ (TC.region ?_)
    refine TL.vsplit rfl rfl rfl (gives_bin rfl rfl rfl (fun w => bin_lss w)) (fun h69 => ?_) (fun h69 => ?_)
    ·have q69 := of_decide_eq_true h69
     have hj2 : j < (forest x).length := by omega
     obtain ⟨y, hy⟩ : ∃ y, (forest x)[j]? = some y := ⟨_, List.getElem?_eq_getElem hj2⟩
     have htk : (forest x).take (j + 1) = (forest x).take j ++ [y] := by rw [List.take_add_one, hy]; rfl
     refine TL.fact (p := ∃ g, AF66 = some ⟨g, 0, none⟩) (fun w1 hw => rowA hw (k := 0) rfl (by omega)) ?_
     rintro ⟨gF, rfl⟩
     refine TL.end_ (TX.then_ (TC.seq_ (TC.condT rfl (TC.skip_ (TX.then_ (TC.seq_ (TC.block (TC.seq_ (TC.region ?_)))))))))
     refine TL.val rfl rfl rfl (gives_at (v := .pointer (some ⟨gF, 0 + j * 3, none⟩)) rfl rfl rfl (fun w => at_el Try.underlying26 ulesz42 rfl _ _ j hj2 rfl w)) ?_
     refine TL.val rfl rfl rfl (gives_loadR (off := 0 + j * 3) rfl rfl uleag42 ulesz42 (fc_cells_len y) (fun w1 hw q u hu => fc_row hw (k := 0) (i := j) rfl hy q u hu)) ?_
     refine TL.pnew rfl rfl rfl (exec_alloc (cs := [.int .i64 0, .int .u32 0, .int .u32 0]) rfl ulezv42 rfl) (fun g14 => ?_)
     refine TL.pstore (k := 0) (vs := y.cells) rfl rfl rfl rfl rfl rfl rfl ulesz42 (fc_one y) (by show 3 ≤ 3; decide) (L' := [.blk g14 42 y.cells, .row (.slice (some ⟨gF, 0, none⟩) ((forest x).length) cF66) 42 3 ((forest x).length) (fcs (forest x)), .row (.slice (some ⟨gp, 0, none⟩) p.length cp) 42 3 p.length (fcs p), .row (.slice Ax x.length cx) 42 3 x.length (fcs x), .abs wn.heap.size (fun w => Cod w wn.heap.size)]) rfl ?_
     refine TL.end_ (TX.then_ ?_)
     cases fl with
     | true =>
      have hfl2 : true = true ↔ f ∈ (forest x).take (j + 1) := by rw [htk, List.mem_append]; exact iff_of_true rfl (.inl (hfl.1 rfl))
      refine TC.quiet_ (E' := ?_) (by kernel_rfl) (by kernel_rfl) (fun w hw => hw.drawn _) ?_ ?_
      rotate_left
      ·iterate 9 (first | refine TQ.off rfl rfl rfl rfl rfl rfl ?_ | refine TQ.val rfl rfl rfl (gives_move rfl rfl) ?_ | refine TQ.val rfl rfl rfl (gives_pick rfl rfl rfl) ?_)
       refine TQ.val rfl rfl rfl (gives_assign rfl rfl) ?_
       exact TQ.end_
      refine TX.in_normal (TX.then_ (TC.region ?_))
      refine TL.val rfl rfl rfl (gives_bin rfl rfl rfl (fun w => bin_add_ (r := ((j + 1 : Nat) : Int)) (by simp only [IntKind.wrap_i64]; omega) w)) ?_
      refine TL.val rfl rfl rfl (gives_move rfl rfl) ?_
      refine TL.end_ ?_
      exact TX.round (⟨(j + 1, true), hj2, hfl2⟩) (by show (forest x).length - (j + 1) < (forest x).length - j; omega) ⟨rfl, rfl, rfl, rfl, rfl, rfl, rfl, rfl, rfl, trivial⟩ (fun w1 hw => hw.tail)
     | false =>
      rcases Classical.em (y = f) with hgf | hgf
      ·have hfl2 : true = true ↔ f ∈ (forest x).take (j + 1) := by rw [htk, List.mem_append, List.mem_singleton]; exact iff_of_true rfl (.inr hgf.symm)
       refine TC.quiet_ (E' := ?_) (by kernel_rfl) (by kernel_rfl) (fun w hw => hw.drawn _) ?_ ?_
       rotate_left
       ·refine TQ.val rfl rfl rfl (gives_move rfl rfl) ?_
        refine TQ.val rfl rfl rfl (gives_move rfl rfl) ?_
        refine TQ.on rfl rfl rfl ?_
        refine TQ.val rfl rfl rfl (pm_loadV (k := 0) (i := 0) (n := 3) (v := .agg (y.cells).toArray) rfl rfl uleag42 ulesz42 rfl (by show 3 ≤ 3; decide) rfl) ?_
        iterate 5 (first | refine TQ.on rfl rfl rfl ?_ | refine TQ.val rfl rfl rfl (gives_move rfl rfl) ?_)
        refine TQ.val rfl rfl rfl (gives_at (v := .pointer (some ⟨gp, 0 + i * 3, none⟩)) rfl rfl rfl (fun w => at_el Try.underlying26 ulesz42 rfl _ _ i hi2 rfl w)) ?_
        refine TQ.on rfl rfl rfl ?_
        refine TQ.val rfl rfl rfl (gives_loadR (off := 0 + i * 3) rfl rfl uleag42 ulesz42 (fc_cells_len f) (fun w1 hw q u hu => fc_row hw (k := 2) (i := i) rfl hf q u hu)) ?_
        refine TQ.on rfl rfl rfl ?_
        refine TQ.val rfl rfl rfl (gives_bin2 (v := .bool true) rfl rfl rfl (fun w => fc_eql_is (by exact decide_eq_true hgf) _ _ w)) ?_
        refine TQ.val rfl rfl rfl (gives_pick rfl rfl rfl) ?_
        refine TQ.val rfl rfl rfl (gives_assign rfl rfl) ?_
        exact TQ.end_
       refine TX.in_normal (TX.then_ (TC.region ?_))
       refine TL.val rfl rfl rfl (gives_bin rfl rfl rfl (fun w => bin_add_ (r := ((j + 1 : Nat) : Int)) (by simp only [IntKind.wrap_i64]; omega) w)) ?_
       refine TL.val rfl rfl rfl (gives_move rfl rfl) ?_
       refine TL.end_ ?_
       exact TX.round (⟨(j + 1, true), hj2, hfl2⟩) (by show (forest x).length - (j + 1) < (forest x).length - j; omega) ⟨rfl, rfl, rfl, rfl, rfl, rfl, rfl, rfl, rfl, trivial⟩ (fun w1 hw => hw.tail)
      ·have hfl2 : false = true ↔ f ∈ (forest x).take (j + 1) := by rw [htk, List.mem_append, List.mem_singleton]; exact iff_of_false (by simp) (fun hh => hh.elim (fun h1 => by have := hfl.2 h1; simp at this) (fun h1 => hgf h1.symm))
       refine TC.quiet_ (E' := ?_) (by kernel_rfl) (by kernel_rfl) (fun w hw => hw.drawn _) ?_ ?_
       rotate_left
       ·refine TQ.val rfl rfl rfl (gives_move rfl rfl) ?_
        refine TQ.val rfl rfl rfl (gives_move rfl rfl) ?_
        refine TQ.on rfl rfl rfl ?_
        refine TQ.val rfl rfl rfl (pm_loadV (k := 0) (i := 0) (n := 3) (v := .agg (y.cells).toArray) rfl rfl uleag42 ulesz42 rfl (by show 3 ≤ 3; decide) rfl) ?_
        iterate 5 (first | refine TQ.on rfl rfl rfl ?_ | refine TQ.val rfl rfl rfl (gives_move rfl rfl) ?_)
        refine TQ.val rfl rfl rfl (gives_at (v := .pointer (some ⟨gp, 0 + i * 3, none⟩)) rfl rfl rfl (fun w => at_el Try.underlying26 ulesz42 rfl _ _ i hi2 rfl w)) ?_
        refine TQ.on rfl rfl rfl ?_
        refine TQ.val rfl rfl rfl (gives_loadR (off := 0 + i * 3) rfl rfl uleag42 ulesz42 (fc_cells_len f) (fun w1 hw q u hu => fc_row hw (k := 2) (i := i) rfl hf q u hu)) ?_
        refine TQ.on rfl rfl rfl ?_
        refine TQ.val rfl rfl rfl (gives_bin2 (v := .bool false) rfl rfl rfl (fun w => fc_eql_is (by exact decide_eq_false hgf) _ _ w)) ?_
        refine TQ.val rfl rfl rfl (gives_pick rfl rfl rfl) ?_
        refine TQ.val rfl rfl rfl (gives_assign rfl rfl) ?_
        exact TQ.end_
       refine TX.in_normal (TX.then_ (TC.region ?_))
       refine TL.val rfl rfl rfl (gives_bin rfl rfl rfl (fun w => bin_add_ (r := ((j + 1 : Nat) : Int)) (by simp only [IntKind.wrap_i64]; omega) w)) ?_
       refine TL.val rfl rfl rfl (gives_move rfl rfl) ?_
       refine TL.end_ ?_
       exact TX.round (⟨(j + 1, false), hj2, hfl2⟩) (by show (forest x).length - (j + 1) < (forest x).length - j; omega) ⟨rfl, rfl, rfl, rfl, rfl, rfl, rfl, rfl, rfl, trivial⟩ (fun w1 hw => hw.tail)
    ·have q69 := of_decide_eq_false h69
     obtain rfl : fl = true := hfl.2 (by rw [List.take_of_length_le (by omega)]; exact hfF)
     refine TL.end_ (TX.then_ (TC.seq_ (TC.condF rfl (TC.exit_ (TX.then_exit (TX.then_exit (TX.in_same (TX.then_ (TC.seq_ (TC.seq_ (TC.region ?_)))))))))))
     refine TL.val rfl rfl rfl (gives_assign rfl rfl) ?_
     refine TL.end_ (TX.then_ (TC.block ?_))
     refine TC.loop_ (α := {k : Nat // k ≤ i}) (fun y => [(8, .slice Ax x.length cx), (9, .slice (some ⟨gp, 0, none⟩) p.length cp), (11, .int .i64 ((i : Nat) : Int)), (12, .bool true), (61, .int .i64 (p.length : Nat)), (62, .int .i64 ((i : Nat) : Int)), (15, .int .i64 ((y.1 : Nat) : Int))]) (fun y => Pm wn [.row (.slice AF66 ((forest x).length) cF66) 42 3 ((forest x).length) (fcs (forest x)), .row (.slice (some ⟨gp, 0, none⟩) p.length cp) 42 3 p.length (fcs p), .row (.slice Ax x.length cx) 42 3 x.length (fcs x), .abs wn.heap.size (fun w => Cod w wn.heap.size)]) (fun y => i - y.1) (⟨0, Nat.zero_le _⟩) ⟨rfl, rfl, rfl, rfl, rfl, rfl, rfl, trivial⟩ (fun w1 hw => hw) ?_
     rintro ⟨k, hk⟩
     try dsimp only
     refine TC.seq_ (TC.seq_ (TC.region ?_))
     refine TL.val rfl rfl rfl (gives_move rfl rfl) ?_
     refine TL.val rfl rfl rfl (gives_move rfl rfl) ?_
     refine TL.vsplit rfl rfl rfl (gives_bin rfl rfl rfl (fun w => bin_lss w)) (fun h84 => ?_) (fun h84 => ?_)
     ·have q84 := of_decide_eq_true h84
      have hk2 : k < p.length := by omega
      obtain ⟨z, hz⟩ : ∃ z, p[k]? = some z := ⟨_, List.getElem?_eq_getElem hk2⟩
      have hzf : ¬ z = f := fun e => by have h9 := (List.getElem?_inj hk2 hpn).1 (hz.trans (by rw [e, hf])); omega
      refine TL.end_ (TX.then_ (TC.condT rfl (TC.skip_ (TX.then_ (TC.seq_ (TC.block ?_))))))
      refine TC.quiet_ (E' := ?_) (by kernel_rfl) (by kernel_rfl) (fun w hw => hw.drawn _) ?_ ?_
      rotate_left
      ·iterate 7 (first | refine TQ.val rfl rfl rfl (gives_move rfl rfl) ?_ | refine TQ.on rfl rfl rfl ?_)
       refine TQ.val rfl rfl rfl (gives_at (v := .pointer (some ⟨gp, 0 + k * 3, none⟩)) rfl rfl rfl (fun w => at_el Try.underlying26 ulesz42 rfl _ _ k hk2 rfl w)) ?_
       refine TQ.on rfl rfl rfl ?_
       refine TQ.val rfl rfl rfl (gives_loadR (off := 0 + k * 3) rfl rfl uleag42 ulesz42 (fc_cells_len z) (fun w1 hw q u hu => fc_row hw (k := 1) (i := k) rfl hz q u hu)) ?_
       iterate 5 (first | refine TQ.on rfl rfl rfl ?_ | refine TQ.val rfl rfl rfl (gives_move rfl rfl) ?_)
       refine TQ.val rfl rfl rfl (gives_at (v := .pointer (some ⟨gp, 0 + i * 3, none⟩)) rfl rfl rfl (fun w => at_el Try.underlying26 ulesz42 rfl _ _ i hi2 rfl w)) ?_
       refine TQ.on rfl rfl rfl ?_
       refine TQ.val rfl rfl rfl (gives_loadR (off := 0 + i * 3) rfl rfl uleag42 ulesz42 (fc_cells_len f) (fun w1 hw q u hu => fc_row hw (k := 1) (i := i) rfl hf q u hu)) ?_
       refine TQ.on rfl rfl rfl ?_
       refine TQ.val rfl rfl rfl (gives_bin2 (v := .bool true) rfl rfl rfl (fun w => fc_neq_is (by rw [decide_eq_false hzf]; rfl) _ _ w)) ?_
       refine TQ.val rfl rfl rfl (gives_pick rfl rfl rfl) ?_
       refine TQ.val rfl rfl rfl (gives_assign rfl rfl) ?_
       exact TQ.end_
      refine TX.in_normal (TX.then_ (TC.region ?_))
      refine TL.val rfl rfl rfl (gives_move rfl rfl) ?_
      refine TL.val rfl rfl rfl (gives_bin rfl rfl rfl (fun w => bin_add_ (r := ((k + 1 : Nat) : Int)) (by simp only [IntKind.wrap_i64]; omega) w)) ?_
      refine TL.val rfl rfl rfl (gives_assign rfl rfl) ?_
      refine TL.end_ ?_
      exact TX.round (⟨k + 1, by omega⟩) (by show i - (k + 1) < i - k; omega) ⟨rfl, rfl, rfl, rfl, rfl, rfl, rfl, trivial⟩ (fun w1 hw => hw)
     ·have q84 := of_decide_eq_false h84
      refine TL.end_ (TX.then_ (TC.condF rfl (TC.exit_ (TX.then_exit (TX.then_exit (TX.in_same (TX.then_ (TC.seq_ (TC.region ?_)))))))))
      refine TL.val rfl rfl rfl (gives_move rfl rfl) ?_
      refine TL.val rfl rfl rfl (gives_boolnot rfl rfl) ?_
      refine TL.end_ (TX.then_ (TC.condF rfl (TC.skip_ (TX.in_normal (TX.then_ (TC.region ?_))))))
      refine TL.val rfl rfl rfl (gives_bin rfl rfl rfl (fun w => bin_add_ (r := ((i + 1 : Nat) : Int)) (by simp only [IntKind.wrap_i64]; omega) w)) ?_
      refine TL.val rfl rfl rfl (gives_move rfl rfl) ?_
      refine TL.end_ ?_
      exact TX.round (⟨i + 1, hi2⟩) (by show p.length - (i + 1) < p.length - i; omega) ⟨rfl, rfl, rfl, rfl, trivial⟩ (fun w1 hw => hw.tail)
   ·have q63 := of_decide_eq_false h63
    refine TL.end_ (TX.then_ (TC.seq_ (TC.condF rfl (TC.exit_ (TX.then_exit (TX.then_exit (TX.in_same (TX.then_ (TC.seq_ (TC.region ?_))))))))))
    refine TL.val rfl rfl rfl (gives_assign rfl rfl) ?_
    refine TL.end_ (TX.then_ (TC.ret_ ?_))
    exact ret_tmp Try.results4 rfl (fun w1 hw => ⟨rfl, hwb.trans (hw.bel.mono hwb.size)⟩)
end Go.Proofs.Ytleckflmckbheaa
