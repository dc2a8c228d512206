/-
  Texts of the proof, joined: PtAwk, PtLO.
-/
import Derived.Test.YtnejdeklnmkhbaaGreatPathsOrderPk4
import Derived.Test.YtnejdeklnmkhbaaGreatPathsOrderPk5
set_option linter.unusedVariables false
set_option linter.unusedSimpArgs false
namespace Go.Proofs.YtnejdeklnmkhbaaGreat
open Go.RowKit
set_option maxRecDepth 20000
/-! ### graphs in the tail of the pieces -/
def mpsP (ms : List Mp) : List Pc := ms.flatMap Mp.pcs
theorem pcs_noAbs (m : Mp) : noAbs m.pcs = true := by
 have h := segG_noAbs (e := 3) (size := 1) (enc := flat (ic .i64)) (m.hops.l.map (·.fl) ++ m.edges.l.map (·.fl))
 simp only [noAbs, Mp.pcs, List.cons_append, List.nil_append, List.all_cons, Bool.and_eq_true] at h ⊢
 exact ⟨rfl, rfl, h⟩
theorem Pm.mpsIn {w0 : Base} {w : World} {m : Mp} {P : List Pc} {ms : List Mp} (h : Pm w0 (m.pcs ++ (P ++ mpsP ms)) w) : Pm w0 (P ++ mpsP (m :: ms)) w := by
 refine h.permute ?_
 have e : mpsP (m :: ms) = m.pcs ++ mpsP ms := List.flatMap_cons
 rw [e, ← List.append_assoc, ← List.append_assoc]
 exact List.Perm.append_right _ List.perm_append_comm
theorem mps_mem {m : Mp} {ms : List Mp} (h : m ∈ ms) {q : Pc} (hq : q ∈ m.pcs) : q ∈ mpsP ms := List.mem_flatMap.2 ⟨m, h, hq⟩
theorem pm_rdM {w0 : Base} {L : List Pc} {w : World} {A : Option Addr} {e : TypeId} {size n c : Nat} {xs : List Value} (h : Pm w0 L w) (hm : Pc.row (.slice A n c) e size n xs ∈ L) : Reads w w.heap.size size A n xs := by
 obtain ⟨k, hk⟩ := List.getElem?_of_mem hm
 exact pm_rd h hk
theorem MpR.of {w0 : Base} {w : World} {m : Mp} {L : List Pc} {n : Nat} (hl : MpLen m n) (hn : n ≤ 100000) (h : Pm w0 L w) (hs : ∀ q ∈ m.pcs, q ∈ L) : MpR w m := by
 have hseg : ∀ s ∈ m.hops.l.map (·.fl) ++ m.edges.l.map (·.fl), Pc.row (.slice s.A s.l.length s.c) 3 1 s.l.length (flat (ic .i64) s.l) ∈ L := fun s h9 =>
  hs _ (List.mem_append_right _ (List.mem_map_of_mem (f := Sg.pc 3 1 (flat (ic .i64))) h9))
 refine ⟨pm_rdM h (hs _ List.mem_cons_self), pm_rdM h (hs _ (List.mem_cons_of_mem _ List.mem_cons_self)), Nat.le_trans hl.hops hn, Nat.le_trans hl.edges hn, fun x hx => ⟨pm_rdM h (hseg _ (List.mem_append_left _ (List.mem_map_of_mem hx))), Nat.le_trans (hl.fh x hx).1 hn⟩, fun x hx => ⟨pm_rdM h (hseg _ (List.mem_append_right _ (List.mem_map_of_mem hx))), Nat.le_trans (hl.fe x hx).1 hn⟩⟩
/-! ### the example -/
def rpl (n flow ttl from_ : Int) : Rs := ⟨0, 0, n, n, 9, 17, flow, ttl, true, false, n + 1, from_, 1, 0, 0, 0, 0⟩
def awL : List Rs := [rpl 0 0 1 1, rpl 1 0 2 2, rpl 2 0 3 4, rpl 3 1 1 1, rpl 4 1 2 3, rpl 5 1 3 4]
def awH : List (List Int) := [[1, 1], [2, 2], [2, 3], [3, 4]]
def awE : List (List Int) := [[1, 1, 2], [1, 1, 3], [2, 2, 4], [2, 3, 4]]
theorem awL_ok : ∀ r ∈ awL, r.Ok := by
 intro r hr
 simp only [awL, List.mem_cons, List.not_mem_nil, or_false] at hr
 rcases hr with rfl | rfl | rfl | rfl | rfl | rfl <;> exact ⟨by decide, by decide, by decide, by decide⟩
theorem aw_val : ∀ r ∈ awL, vwS (endT awL) awL (spotR r) = (r.src, 2) := by decide +kernel
theorem aw_src : ∀ x ∈ awL, ∀ y ∈ awL, spotR x = spotR y → x.src = y.src := by decide +kernel
theorem aw_err {e : Int} (h : ErrOk awL (lookS awL).2 e) : e = 0 := by
 rcases h with ⟨_, h2⟩ | ⟨_, o, ho, h3⟩
 ·exact absurd h2 (by decide +kernel)
 ·have hol : o.length ≤ awL.length := nodup_len (asc_nodup ho.1) fun r hr => ((ho.2 r).1 hr).1
  rcases h3 with ⟨_, h3⟩ | ⟨_, t, ht, h5⟩
  ·have : awL.length = 6 := rfl
   omega
  ·have htl : t.length ≤ [(⟨0, 9, 17⟩ : Trc)].length := nodup_len (ht.1.imp fun {a b} hab e => by rw [e] at hab; exact absurd hab (ltK_irrefl b)) fun x hx => by
    obtain ⟨r, hr, _, e⟩ := (ht.2 x).1 hx
    have h9 : ∀ r ∈ awL, trcR r = ⟨0, 9, 17⟩ := by decide +kernel
    rw [← e, h9 r hr]; exact List.mem_singleton.2 rfl
   rcases h5 with ⟨_, h5⟩ | ⟨_, ⟨_, s, hs⟩ | ⟨h7, _⟩⟩
   ·have : [(⟨0, 9, 17⟩ : Trc)].length = 1 := rfl
    omega
   ·exfalso
    have h3 := st_three.1 hs
    rcases vinv (endT awL) awL s with ⟨e, _⟩ | ⟨e, _⟩ | ⟨a, e, _⟩ | ⟨_, x, hx, y, hy, _, _, hn⟩
    ·rw [e] at h3; exact absurd h3 (show ¬ ((0 : Int) = 3) by decide)
    ·rw [e] at h3; exact absurd h3 (show ¬ ((1 : Int) = 3) by decide)
    ·rw [e] at h3; exact absurd h3 (show ¬ ((2 : Int) = 3) by decide)
    ·have hx2 := List.mem_filter.1 hx
     have hy2 := List.mem_filter.1 hy
     have e1 : spotR x = s := by have := hx2.2; unfold hitS at this; simp only [Bool.and_eq_true, decide_eq_true_eq] at this; exact this.2
     have e2 : spotR y = s := by have := hy2.2; unfold hitS at this; simp only [Bool.and_eq_true, decide_eq_true_eq] at this; exact this.2
     exact hn (aw_src x hx2.1 y hy2.1 (e1.trans e2.symm))
   ·exact h7
theorem aw_keys {α : Type} {key : α → List Int} {fl : α → List Int} {n : Nat} {P : List Int → Int → Prop} {hs : List α} {lit : List (List Int)} (hk : ∀ x, (key x).length = n) (g : GrOk key fl P hs) (hn : ∀ x ∈ lit, x.length = n) (ha : AscK (fun k : List Int => k) lit) (h1 : ∀ k f, P k f → k ∈ lit) (h2 : ∀ k ∈ lit, ∃ f, P k f) : hs.map key = lit := by
 refine pairs_asc_eq (key := fun k : List Int => k) (n := n) (fun x hx => ?_) hn (List.pairwise_map.2 g.1) ha fun k => ?_
 ·obtain ⟨y, _, rfl⟩ := List.mem_map.1 hx
  exact hk y
 ·constructor
  ·intro h
   obtain ⟨x, hx, rfl⟩ := List.mem_map.1 h
   obtain ⟨f, hf⟩ := List.exists_mem_of_ne_nil _ (g.2.1 x hx).2
   exact h1 _ f ((gr_flows hk g hx f).1 hf)
  ·intro h
   obtain ⟨f, hf⟩ := h2 k h
   obtain ⟨x, hx, e, _⟩ := (g.2.2 k f).2 hf
   exact List.mem_map.2 ⟨x, hx, e⟩
theorem aw_hops {hs : List Hpx} (h : HopsOk (lookS awL).1 (lookS awL).2 hs) : hs.map hpk = awH := by
 refine aw_keys hpk_len (hops_gr h) (by decide) (by unfold AscK; decide) (fun k f hP => ?_) fun k hk => ?_
 ·obtain ⟨t, a, rfl, h1, h2⟩ := hP
  obtain ⟨r, hr, _, hs⟩ := vw_used h1
  rw [← hs, aw_val r hr] at h2
  have h3 : ∀ r ∈ awL, [r.ttl, r.src] ∈ awH := by decide +kernel
  have := h3 r hr
  rwa [show r.ttl = t from congrArg Spot.ttl hs, show r.src = a from h2] at this
 ·have h3 : ∀ k ∈ awH, ∃ r ∈ awL, k = [r.ttl, r.src] := by decide +kernel
  obtain ⟨r, hr, e⟩ := h3 k hk
  exact ⟨r.flow, r.ttl, r.src, e, by rw [show (⟨r.flow, r.ttl⟩ : Spot) = spotR r from rfl, aw_val r hr]; exact (show (2 : Int) ≠ 0 by decide), by rw [show (⟨r.flow, r.ttl⟩ : Spot) = spotR r from rfl, aw_val r hr]⟩
theorem aw_edges {es : List Ed} (h : EdgesOk (lookS awL).1 (lookS awL).2 es) : es.map edk = awE := by
 refine aw_keys edk_len (edges_gr h) (by decide) (by unfold AscK; decide) (fun k f hP => ?_) fun k hk => ?_
 ·obtain ⟨t, a, b, rfl, h1, h2, h4, h5⟩ := hP
  obtain ⟨r, hr, _, hs⟩ := vw_used h1
  obtain ⟨r', hr', _, hs'⟩ := vw_used (l := awL) (s := ⟨f, t + 1⟩) (by rcases h2 with h2 | h2 <;> rw [h2] <;> decide)
  rw [← hs, aw_val r hr] at h4
  rw [← hs', aw_val r' hr'] at h5
  have h3 : ∀ r ∈ awL, ∀ r' ∈ awL, r'.flow = r.flow → r'.ttl = r.ttl + 1 → [r.ttl, r.src, r'.src] ∈ awE := by decide +kernel
  have e1 : r.ttl = t := congrArg Spot.ttl hs
  have e2 : r.flow = f := congrArg Spot.flow hs
  have e3 : r'.ttl = t + 1 := congrArg Spot.ttl hs'
  have e4 : r'.flow = f := congrArg Spot.flow hs'
  have := h3 r hr r' hr' (by rw [e4, e2]) (by rw [e3, e1])
  rwa [e1, show r.src = a from h4, show r'.src = b from h5] at this
 ·have h3 : ∀ k ∈ awE, ∃ r ∈ awL, ∃ r' ∈ awL, k = [r.ttl, r.src, r'.src] ∧ r'.flow = r.flow ∧ r'.ttl = r.ttl + 1 := by decide +kernel
  obtain ⟨r, hr, r', hr', e, e1, e2⟩ := h3 k hk
  have e3 : (⟨r.flow, r.ttl + 1⟩ : Spot) = spotR r' := by unfold spotR; rw [e1, e2]
  refine ⟨r.flow, r.ttl, r.src, r'.src, e, ?_, ?_, ?_, ?_⟩
  ·rw [show (⟨r.flow, r.ttl⟩ : Spot) = spotR r from rfl, aw_val r hr]; exact (show (2 : Int) ≠ 0 by decide)
  ·unfold hasV; rw [e3, aw_val r' hr']; exact .inl rfl
  ·rw [show (⟨r.flow, r.ttl⟩ : Spot) = spotR r from rfl, aw_val r hr]
  ·rw [e3, aw_val r' hr']
def kw (ks : List (List Int)) (t : Int) : Nat := (ks.filter fun k => decide (k.headD 0 = t)).length
theorem wid_kw (hs : List Hpx) : wid hs = kw (hs.map hpk) := by
 funext t
 unfold wid kw
 rw [List.filter_map, List.length_map]; rfl
theorem kw_pos {t : Int} (h : 0 < kw awH t) : t = 1 ∨ t = 2 ∨ t = 3 := by
 obtain ⟨k, hk⟩ := List.exists_mem_of_length_pos h
 have h1 := List.mem_filter.1 hk
 have h2 : ∀ k ∈ awH, k.headD 0 = 1 ∨ k.headD 0 = 2 ∨ k.headD 0 = 3 := by decide
 have := h2 k h1.1
 rwa [of_decide_eq_true h1.2] at this
theorem aw_dm : IsDm (kw awH) [⟨1, 3, 2⟩] := by
 have w1 : kw awH 1 = 1 := by decide
 have w2 : kw awH 2 = 2 := by decide
 have w3 : kw awH 3 = 1 := by decide
 refine ⟨List.pairwise_singleton _ _, fun d => ?_⟩
 rw [List.mem_singleton]
 constructor
 ·rintro rfl
  refine ⟨1, by decide, w1, rfl, fun j h1 h2 => ?_, w3, by decide⟩
  obtain rfl : j = 1 := by omega
  show 1 < kw awH 2
  omega
 ·rintro ⟨n, h0, h1, h2, h3, h4, h5⟩
  obtain ⟨d1, d2, d3⟩ := d
  simp only at h1 h2 h3 h4 h5
  have a1 := kw_pos (t := d1) (by omega)
  have a2 := h3 1 (by omega) (by omega)
  have a3 := kw_pos (t := d1 + 1) (by have e : d1 + ((1 : Nat) : Int) = d1 + 1 := rfl; rw [e] at a2; omega)
  have a4 := kw_pos (t := d2) (by omega)
  have a5 : d1 = 1 := by
   rcases a1 with e | e | e
   ·exact e
   ·subst e; omega
   ·subst e; omega
  subst a5
  have a6 : d2 = 3 := by
   rcases a4 with e | e | e
   ·subst e; omega
   ·subst e; omega
   ·exact e
  subst a6
  obtain rfl : n = 1 := by omega
  have a7 : mxn (kw awH) 1 1 = 2 := by decide
  rw [h5, a7]; rfl
theorem aw_graph {m : Mp} {e : Int} (h : BuildOk awL m e) : e = 0 ∧ m.hops.l.length = 4 ∧ m.edges.l.length = 4 ∧ (∀ d, IsDm (wid m.hops.l) d → d = [⟨1, 3, 2⟩]) ∧ ∀ o, IsWr m.edges.l o → o.length = 4 := by
 have he := aw_err h.1
 obtain ⟨_, _, g3, g4⟩ := h.2.2 he (by intro h; cases h)
 have k3 := aw_hops g3
 have k4 := aw_edges g4
 refine ⟨he, ?_, ?_, fun d hd => ?_, fun o ho => ?_⟩
 ·have := congrArg List.length k3; rwa [List.length_map] at this
 ·have := congrArg List.length k4; rwa [List.length_map] at this
 ·rw [wid_kw, k3] at hd
  exact hd.eq aw_dm
 ·have : IsWr m.edges.l [⟨1, 2⟩, ⟨1, 3⟩, ⟨2, 4⟩, ⟨3, 4⟩] := by
   refine ⟨by unfold AscK; decide, fun x => ?_⟩
   constructor
   ·intro hx
    have h1 : ∀ x ∈ ([⟨1, 2⟩, ⟨1, 3⟩, ⟨2, 4⟩, ⟨3, 4⟩] : List Wre), ∃ k ∈ awE, k.tail = wrk x ∧ x.frm ≠ 0 ∧ x.to_ ≠ 0 := by decide
    obtain ⟨k, hk, e1, e2, e3⟩ := h1 x hx
    rw [← k4] at hk
    obtain ⟨y, hy, rfl⟩ := List.mem_map.1 hk
    simp only [edk, wrk, List.tail_cons, List.cons.injEq, and_true] at e1
    refine ⟨y, hy, by simp [wireE, e1.1, e1.2, e2, e3], ?_⟩
    unfold edW; rw [e1.1, e1.2]
   ·rintro ⟨y, hy, _, rfl⟩
    have h1 : ∀ k ∈ awE, ∃ x ∈ ([⟨1, 2⟩, ⟨1, 3⟩, ⟨2, 4⟩, ⟨3, 4⟩] : List Wre), k.tail = wrk x := by decide
    have h2 : edk y ∈ awE := by rw [← k4]; exact List.mem_map.2 ⟨y, hy, rfl⟩
    obtain ⟨x, hx, e⟩ := h1 _ h2
    have e2 : wrk (edW y) = wrk x := e
    rw [wrk_inj e2]; exact hx
  rw [ho.eq this]; rfl
theorem pawzv47 (w : World) : (zeroValue 47).run Tryz.prog w = .ok (.agg #[.int .i64 0, .int .i64 0, .int .i64 0, .int .i64 0, .int .u32 0, .int .i64 0, .int .i64 0, .int .i64 0, .bool false, .bool false, .int .i64 0, .int .u32 0, .int .i64 0, .int .i64 0, .int .i64 0, .int .i64 0, .int .i64 0]) w := rfl
theorem pawbld45_27257 (a0_0 : Int) (a1_0 : Int) (w : World) : (Instr.build 45 #[(0, .int .u32 a0_0), (1, .int .i64 a1_0)]).run Tryz.prog w = .ok (.agg #[.int .u32 a0_0, .int .i64 a1_0, .int .i64 0, .int .i64 0, .int .i64 0, .int .i64 0]) w := by kernel_rfl
theorem pawbld47_6431 (a2_0 : Int) (a3_0 : Int) (a4_0 : Int) (a5_0 : Int) (a6_0 : Int) (a7_0 : Int) (a8_0 : Bool) (a10_0 : Int) (a11_0 : Int) (a11_1 : Int) (a11_2 : Int) (a11_3 : Int) (a11_4 : Int) (a11_5 : Int) (w : World) : (Instr.build 47 #[(2, .int .i64 a2_0), (3, .int .i64 a3_0), (4, .int .u32 a4_0), (5, .int .i64 a5_0), (6, .int .i64 a6_0), (7, .int .i64 a7_0), (8, .bool a8_0), (10, .int .i64 a10_0), (11, .agg #[.int .u32 a11_0, .int .i64 a11_1, .int .i64 a11_2, .int .i64 a11_3, .int .i64 a11_4, .int .i64 a11_5])]).run Tryz.prog w = .ok (.agg #[.int .i64 0, .int .i64 0, .int .i64 a2_0, .int .i64 a3_0, .int .u32 a4_0, .int .i64 a5_0, .int .i64 a6_0, .int .i64 a7_0, .bool a8_0, .bool false, .int .i64 a10_0, .int .u32 a11_0, .int .i64 a11_1, .int .i64 a11_2, .int .i64 a11_3, .int .i64 a11_4, .int .i64 a11_5]) w := by kernel_rfl
theorem pawsz47 (w : World) : (sizeOf 47).run Tryz.prog w = .ok 17 w := rfl
theorem pawone_i64i64i64i64u32i64i64i64bbi64u32i64i64i64i64i64 {a0 : Int} {a1 : Int} {a2 : Int} {a3 : Int} {a4 : Int} {a5 : Int} {a6 : Int} {a7 : Int} {a8 : Bool} {a9 : Bool} {a10 : Int} {a11 : Int} {a12 : Int} {a13 : Int} {a14 : Int} {a15 : Int} {a16 : Int} : ∀ u ∈ [(.int .i64 a0 : Value), .int .i64 a1, .int .i64 a2, .int .i64 a3, .int .u32 a4, .int .i64 a5, .int .i64 a6, .int .i64 a7, .bool a8, .bool a9, .int .i64 a10, .int .u32 a11, .int .i64 a12, .int .i64 a13, .int .i64 a14, .int .i64 a15, .int .i64 a16], u.oneCell' = true := by
 intro u hu
 simp only [List.mem_cons, List.not_mem_nil, or_false] at hu
 rcases hu with rfl | rfl | rfl | rfl | rfl | rfl | rfl | rfl | rfl | rfl | rfl | rfl | rfl | rfl | rfl | rfl | rfl <;> rfl
theorem pawnm55 : (Tryz.f55.name == "runtime.NumGoroutine") = false := by decide
theorem pawbd55 : Tryz.f55.body.isNone = false := rfl
theorem pawbs26_6_57405 (a0_0 : Int) (a0_1 : Int) (a0_2 : Int) (a0_3 : Int) (a0_4 : Int) (a0_5 : Int) (a0_6 : Int) (a0_7 : Int) (a0_8 : Bool) (a0_9 : Bool) (a0_10 : Int) (a0_11 : Int) (a0_12 : Int) (a0_13 : Int) (a0_14 : Int) (a0_15 : Int) (a0_16 : Int) (a1_0 : Int) (a1_1 : Int) (a1_2 : Int) (a1_3 : Int) (a1_4 : Int) (a1_5 : Int) (a1_6 : Int) (a1_7 : Int) (a1_8 : Bool) (a1_9 : Bool) (a1_10 : Int) (a1_11 : Int) (a1_12 : Int) (a1_13 : Int) (a1_14 : Int) (a1_15 : Int) (a1_16 : Int) (a2_0 : Int) (a2_1 : Int) (a2_2 : Int) (a2_3 : Int) (a2_4 : Int) (a2_5 : Int) (a2_6 : Int) (a2_7 : Int) (a2_8 : Bool) (a2_9 : Bool) (a2_10 : Int) (a2_11 : Int) (a2_12 : Int) (a2_13 : Int) (a2_14 : Int) (a2_15 : Int) (a2_16 : Int) (a3_0 : Int) (a3_1 : Int) (a3_2 : Int) (a3_3 : Int) (a3_4 : Int) (a3_5 : Int) (a3_6 : Int) (a3_7 : Int) (a3_8 : Bool) (a3_9 : Bool) (a3_10 : Int) (a3_11 : Int) (a3_12 : Int) (a3_13 : Int) (a3_14 : Int) (a3_15 : Int) (a3_16 : Int) (a4_0 : Int) (a4_1 : Int) (a4_2 : Int) (a4_3 : Int) (a4_4 : Int) (a4_5 : Int) (a4_6 : Int) (a4_7 : Int) (a4_8 : Bool) (a4_9 : Bool) (a4_10 : Int) (a4_11 : Int) (a4_12 : Int) (a4_13 : Int) (a4_14 : Int) (a4_15 : Int) (a4_16 : Int) (a5_0 : Int) (a5_1 : Int) (a5_2 : Int) (a5_3 : Int) (a5_4 : Int) (a5_5 : Int) (a5_6 : Int) (a5_7 : Int) (a5_8 : Bool) (a5_9 : Bool) (a5_10 : Int) (a5_11 : Int) (a5_12 : Int) (a5_13 : Int) (a5_14 : Int) (a5_15 : Int) (a5_16 : Int) (w : World) : (Instr.buildSlice 26 6 #[(0, .agg #[.int .i64 a0_0, .int .i64 a0_1, .int .i64 a0_2, .int .i64 a0_3, .int .u32 a0_4, .int .i64 a0_5, .int .i64 a0_6, .int .i64 a0_7, .bool a0_8, .bool a0_9, .int .i64 a0_10, .int .u32 a0_11, .int .i64 a0_12, .int .i64 a0_13, .int .i64 a0_14, .int .i64 a0_15, .int .i64 a0_16]), (1, .agg #[.int .i64 a1_0, .int .i64 a1_1, .int .i64 a1_2, .int .i64 a1_3, .int .u32 a1_4, .int .i64 a1_5, .int .i64 a1_6, .int .i64 a1_7, .bool a1_8, .bool a1_9, .int .i64 a1_10, .int .u32 a1_11, .int .i64 a1_12, .int .i64 a1_13, .int .i64 a1_14, .int .i64 a1_15, .int .i64 a1_16]), (2, .agg #[.int .i64 a2_0, .int .i64 a2_1, .int .i64 a2_2, .int .i64 a2_3, .int .u32 a2_4, .int .i64 a2_5, .int .i64 a2_6, .int .i64 a2_7, .bool a2_8, .bool a2_9, .int .i64 a2_10, .int .u32 a2_11, .int .i64 a2_12, .int .i64 a2_13, .int .i64 a2_14, .int .i64 a2_15, .int .i64 a2_16]), (3, .agg #[.int .i64 a3_0, .int .i64 a3_1, .int .i64 a3_2, .int .i64 a3_3, .int .u32 a3_4, .int .i64 a3_5, .int .i64 a3_6, .int .i64 a3_7, .bool a3_8, .bool a3_9, .int .i64 a3_10, .int .u32 a3_11, .int .i64 a3_12, .int .i64 a3_13, .int .i64 a3_14, .int .i64 a3_15, .int .i64 a3_16]), (4, .agg #[.int .i64 a4_0, .int .i64 a4_1, .int .i64 a4_2, .int .i64 a4_3, .int .u32 a4_4, .int .i64 a4_5, .int .i64 a4_6, .int .i64 a4_7, .bool a4_8, .bool a4_9, .int .i64 a4_10, .int .u32 a4_11, .int .i64 a4_12, .int .i64 a4_13, .int .i64 a4_14, .int .i64 a4_15, .int .i64 a4_16]), (5, .agg #[.int .i64 a5_0, .int .i64 a5_1, .int .i64 a5_2, .int .i64 a5_3, .int .u32 a5_4, .int .i64 a5_5, .int .i64 a5_6, .int .i64 a5_7, .bool a5_8, .bool a5_9, .int .i64 a5_10, .int .u32 a5_11, .int .i64 a5_12, .int .i64 a5_13, .int .i64 a5_14, .int .i64 a5_15, .int .i64 a5_16])]).run Tryz.prog w = .ok (.slice (some ⟨w.heap.size, 0, none⟩) 6 6) (w.alloc (.cells [.int .i64 a0_0, .int .i64 a0_1, .int .i64 a0_2, .int .i64 a0_3, .int .u32 a0_4, .int .i64 a0_5, .int .i64 a0_6, .int .i64 a0_7, .bool a0_8, .bool a0_9, .int .i64 a0_10, .int .u32 a0_11, .int .i64 a0_12, .int .i64 a0_13, .int .i64 a0_14, .int .i64 a0_15, .int .i64 a0_16, .int .i64 a1_0, .int .i64 a1_1, .int .i64 a1_2, .int .i64 a1_3, .int .u32 a1_4, .int .i64 a1_5, .int .i64 a1_6, .int .i64 a1_7, .bool a1_8, .bool a1_9, .int .i64 a1_10, .int .u32 a1_11, .int .i64 a1_12, .int .i64 a1_13, .int .i64 a1_14, .int .i64 a1_15, .int .i64 a1_16, .int .i64 a2_0, .int .i64 a2_1, .int .i64 a2_2, .int .i64 a2_3, .int .u32 a2_4, .int .i64 a2_5, .int .i64 a2_6, .int .i64 a2_7, .bool a2_8, .bool a2_9, .int .i64 a2_10, .int .u32 a2_11, .int .i64 a2_12, .int .i64 a2_13, .int .i64 a2_14, .int .i64 a2_15, .int .i64 a2_16, .int .i64 a3_0, .int .i64 a3_1, .int .i64 a3_2, .int .i64 a3_3, .int .u32 a3_4, .int .i64 a3_5, .int .i64 a3_6, .int .i64 a3_7, .bool a3_8, .bool a3_9, .int .i64 a3_10, .int .u32 a3_11, .int .i64 a3_12, .int .i64 a3_13, .int .i64 a3_14, .int .i64 a3_15, .int .i64 a3_16, .int .i64 a4_0, .int .i64 a4_1, .int .i64 a4_2, .int .i64 a4_3, .int .u32 a4_4, .int .i64 a4_5, .int .i64 a4_6, .int .i64 a4_7, .bool a4_8, .bool a4_9, .int .i64 a4_10, .int .u32 a4_11, .int .i64 a4_12, .int .i64 a4_13, .int .i64 a4_14, .int .i64 a4_15, .int .i64 a4_16, .int .i64 a5_0, .int .i64 a5_1, .int .i64 a5_2, .int .i64 a5_3, .int .u32 a5_4, .int .i64 a5_5, .int .i64 a5_6, .int .i64 a5_7, .bool a5_8, .bool a5_9, .int .i64 a5_10, .int .u32 a5_11, .int .i64 a5_12, .int .i64 a5_13, .int .i64 a5_14, .int .i64 a5_15, .int .i64 a5_16].toArray 47)) := by kernel_rfl
theorem pawnm14 : (Tryz.f14.name == "runtime.NumGoroutine") = false := by decide
theorem pawbd14 : Tryz.f14.body.isNone = false := rfl
theorem pawzv36 (w : World) : (zeroValue 36).run Tryz.prog w = .ok (.agg #[.int .i64 0, .int .u32 0, .int .i64 0, .int .i64 0, .slice none 0 0, .slice none 0 0]) w := rfl
theorem pawsz36 (w : World) : (sizeOf 36).run Tryz.prog w = .ok 6 w := rfl
theorem pawone_i64u32i64i64ss {a0 : Int} {a1 : Int} {a2 : Int} {a3 : Int} {a4 : Option Addr} {n4 c4 : Nat} {a5 : Option Addr} {n5 c5 : Nat} : ∀ u ∈ [(.int .i64 a0 : Value), .int .u32 a1, .int .i64 a2, .int .i64 a3, .slice a4 n4 c4, .slice a5 n5 c5], u.oneCell' = true := by
 intro u hu
 simp only [List.mem_cons, List.not_mem_nil, or_false] at hu
 rcases hu with rfl | rfl | rfl | rfl | rfl | rfl <;> rfl
theorem pawag36 (w : World) : (isAgg 36).run Tryz.prog w = .ok true w := rfl
theorem pawnm19 : (Tryz.f19.name == "runtime.NumGoroutine") = false := by decide
theorem pawbd19 : Tryz.f19.body.isNone = false := rfl
theorem pawfld36_2 (g o : Nat) (w : World) : (Instr.fieldAt 36 (.pointer (some ⟨g, o, none⟩)) 2).run Tryz.prog w = .ok (.pointer (some ⟨g, o + 4, none⟩)) w := by kernel_rfl
theorem pawag33 (w : World) : (isAgg 33).run Tryz.prog w = .ok false w := rfl
theorem pawfld36_3 (g o : Nat) (w : World) : (Instr.fieldAt 36 (.pointer (some ⟨g, o, none⟩)) 3).run Tryz.prog w = .ok (.pointer (some ⟨g, o + 5, none⟩)) w := by kernel_rfl
theorem pawag34 (w : World) : (isAgg 34).run Tryz.prog w = .ok false w := rfl
theorem pawsz58 (w : World) : (sizeOf 58).run Tryz.prog w = .ok 3 w := rfl
theorem pawag58 (w : World) : (isAgg 58).run Tryz.prog w = .ok true w := rfl
theorem pawbld58_57326 (a0_0 : Int) (a1_0 : Int) (a2_0 : Int) (w : World) : (Instr.build 58 #[(0, .int .i64 a0_0), (1, .int .i64 a1_0), (2, .int .i64 a2_0)]).run Tryz.prog w = .ok (.agg #[.int .i64 a0_0, .int .i64 a1_0, .int .i64 a2_0]) w := by kernel_rfl
theorem pawag47 (w : World) : (isAgg 47).run Tryz.prog w = .ok true w := rfl
theorem pawnm26 : (Tryz.f26.name == "runtime.NumGoroutine") = false := by decide
theorem pawbd26 : Tryz.f26.body.isNone = false := rfl
theorem pawnm18 : (Tryz.f18.name == "runtime.NumGoroutine") = false := by decide
theorem pawbd18 : Tryz.f18.body.isNone = false := rfl
set_option maxHeartbeats 1000000 in
theorem reply_any (n flow ttl from_ : Int) (w : World) (hn : 0 ≤ n ∧ n ≤ 1000) :
  Calls Tryz.prog 55 #[.int .i64 n, .int .i64 flow, .int .i64 ttl, .int .u32 from_] w fun e w' => e = .returned (.agg (rpl n flow ttl from_).cells.toArray) ∧ Below w.heap.size w w' := by
 refine begin_ (vs := [.int .i64 n, .int .i64 flow, .int .i64 ttl, .int .u32 from_]) Tryz.func55 rfl rfl rfl ?_ (Pm.start w)
 refine TC.seq_ (TC.region ?_)
 refine TL.pnew rfl rfl rfl (exec_alloc (cs := [.int .i64 0, .int .i64 0, .int .i64 0, .int .i64 0, .int .u32 0, .int .i64 0, .int .i64 0, .int .i64 0, .bool false, .bool false, .int .i64 0, .int .u32 0, .int .i64 0, .int .i64 0, .int .i64 0, .int .i64 0, .int .i64 0]) rfl pawzv47 rfl) (fun g8 => ?_)
 refine TL.end_ (TX.then_ (TC.seq_ (TC.region ?_)))
 iterate 5 (first | refine TL.mv ?_)
 refine TL.val rfl rfl rfl (gives_bin rfl rfl rfl (fun w => bin_add_ (r := n + 1) (by simp only [IntKind.wrap_i64]; omega) w)) ?_
 refine TL.mv ?_
 refine TL.val rfl rfl rfl (gives_build (v := .agg #[.int .u32 from_, .int .i64 1, .int .i64 0, .int .i64 0, .int .i64 0, .int .i64 0]) rfl rfl (fun w => pawbld45_27257 _ _ w)) ?_
 refine TL.val rfl rfl rfl (gives_build (v := .agg #[.int .i64 0, .int .i64 0, .int .i64 n, .int .i64 n, .int .u32 9, .int .i64 17, .int .i64 flow, .int .i64 ttl, .bool true, .bool false, .int .i64 (n + 1), .int .u32 from_, .int .i64 1, .int .i64 0, .int .i64 0, .int .i64 0, .int .i64 0]) rfl rfl (fun w => pawbld47_6431 _ _ _ _ _ _ _ _ _ _ _ _ _ _ w)) ?_
 refine TL.pstore (k := 0) (vs := [.int .i64 0, .int .i64 0, .int .i64 n, .int .i64 n, .int .u32 9, .int .i64 17, .int .i64 flow, .int .i64 ttl, .bool true, .bool false, .int .i64 (n + 1), .int .u32 from_, .int .i64 1, .int .i64 0, .int .i64 0, .int .i64 0, .int .i64 0]) rfl rfl rfl rfl rfl rfl rfl pawsz47 pawone_i64i64i64i64u32i64i64i64bbi64u32i64i64i64i64i64 (by show 17 ≤ 17; decide) (L' := [.blk g8 47 [.int .i64 0, .int .i64 0, .int .i64 n, .int .i64 n, .int .u32 9, .int .i64 17, .int .i64 flow, .int .i64 ttl, .bool true, .bool false, .int .i64 (n + 1), .int .u32 from_, .int .i64 1, .int .i64 0, .int .i64 0, .int .i64 0, .int .i64 0]]) rfl ?_
 refine TL.end_ (TX.then_ (TC.ret_ ?_))
 exact pm_ret_cell (k := 0) Tryz.results55 rfl rfl Tryz.underlying47 rfl rfl (fun w1 hw => ⟨rfl, hw.bel⟩)
set_option maxHeartbeats 1000000 in
theorem awake_true  (w : World) :
  Calls Tryz.prog 10 #[] w fun e w' => e = .returned (.bool true) ∧ Below w.heap.size w w' := by
 refine begin_ (vs := []) Tryz.func10 rfl rfl rfl ?_ (Pm.start w)
 refine TC.seq_ (TC.region ?_)
 refine TL.as_ ?_
 refine TL.end_ (TX.then_ (TC.seq_ (TC.region ?_)))
 refine TL.pcall1 (r := .agg ((rpl 0 0 1 1).cells).toArray) rfl rfl rfl rfl rfl Tryz.func55 pawnm55 pawbd55 (fun w1 hw => reply_any 0 0 1 1 w1 (by decide)) ?_
 refine TL.pcall1 (r := .agg ((rpl 1 0 2 2).cells).toArray) rfl rfl rfl rfl rfl Tryz.func55 pawnm55 pawbd55 (fun w1 hw => reply_any 1 0 2 2 w1 (by decide)) ?_
 refine TL.pcall1 (r := .agg ((rpl 2 0 3 4).cells).toArray) rfl rfl rfl rfl rfl Tryz.func55 pawnm55 pawbd55 (fun w1 hw => reply_any 2 0 3 4 w1 (by decide)) ?_
 refine TL.pcall1 (r := .agg ((rpl 3 1 1 1).cells).toArray) rfl rfl rfl rfl rfl Tryz.func55 pawnm55 pawbd55 (fun w1 hw => reply_any 3 1 1 1 w1 (by decide)) ?_
 refine TL.pcall1 (r := .agg ((rpl 4 1 2 3).cells).toArray) rfl rfl rfl rfl rfl Tryz.func55 pawnm55 pawbd55 (fun w1 hw => reply_any 4 1 2 3 w1 (by decide)) ?_
 refine TL.pcall1 (r := .agg ((rpl 5 1 3 4).cells).toArray) rfl rfl rfl rfl rfl Tryz.func55 pawnm55 pawbd55 (fun w1 hw => reply_any 5 1 3 4 w1 (by decide)) ?_
 refine TL.prowS (e := 47) (size := 17) (cs := flat Rs.cells [rpl 0 0 1 1, rpl 1 0 2 2, rpl 2 0 3 4, rpl 3 1 1 1, rpl 4 1 2 3, rpl 5 1 3 4]) rfl rfl rfl rfl rfl (fun w => pawbs26_6_57405 _ _ _ _ _ _ _ _ _ _ _ _ _ _ _ _ _ _ _ _ _ _ _ _ _ _ _ _ _ _ _ _ _ _ _ _ _ _ _ _ _ _ _ _ _ _ _ _ _ _ _ _ _ _ _ _ _ _ _ _ _ _ _ _ _ _ _ _ _ _ _ _ _ _ _ _ _ _ _ _ _ _ _ _ _ _ _ _ _ _ _ _ _ _ _ _ _ _ _ _ _ _ w) (by decide) rfl (fun g11 => ?_)
 refine TL.as_ ?_
 refine TL.end_ (TX.then_ (TC.seq_ (TC.region ?_)))
 refine TL.mv ?_
 refine TL.call (α := {y : Mp × Int // BuildOk ([rpl 0 0 1 1, rpl 1 0 2 2, rpl 2 0 3 4, rpl 3 1 1 1, rpl 4 1 2 3, rpl 5 1 3 4]) y.1 y.2}) (r := fun x => .tuple #[.agg x.1.1.cells.toArray, .int .i64 x.1.2]) (I' := fun x => Pm w ([.row (.slice (some ⟨g11, 0, none⟩) 6 6) 47 17 6 (flat Rs.cells [rpl 0 0 1 1, rpl 1 0 2 2, rpl 2 0 3 4, rpl 3 1 1 1, rpl 4 1 2 3, rpl 5 1 3 4])] ++ mpsP (x.1.1 :: []))) rfl rfl rfl rfl rfl Tryz.func14 pawnm14 pawbd14 (fun w1 hw => (build_any (some ⟨g11, 0, none⟩) 6 ([rpl 0 0 1 1, rpl 1 0 2 2, rpl 2 0 3 4, rpl 3 1 1 1, rpl 4 1 2 3, rpl 5 1 3 4]) w1 (pm_rd hw (k := 0) rfl) (by decide) awL_ok).mono fun e w2 ⟨x, h1, h2⟩ => ⟨x, h1, Pm.mpsIn (P := [.row (.slice (some ⟨g11, 0, none⟩) 6 6) 47 17 6 (flat Rs.cells [rpl 0 0 1 1, rpl 1 0 2 2, rpl 2 0 3 4, rpl 3 1 1 1, rpl 4 1 2 3, rpl 5 1 3 4])]) (ms := []) (hw.addAll h2 (pcs_noAbs _))⟩) ?_
 rintro ⟨⟨m, em⟩, hbm⟩
 dsimp only at hbm ⊢
 have hml := build_len awL_ok hbm
 refine TL.mv ?_
 refine TL.ex ?_
 refine TL.ex ?_
 refine TL.pnew rfl rfl rfl (exec_alloc (cs := [.int .i64 0, .int .u32 0, .int .i64 0, .int .i64 0, .slice none 0 0, .slice none 0 0]) rfl pawzv36 rfl) (fun g2 => ?_)
 refine TL.pstore (k := 0) (vs := m.cells) rfl rfl rfl rfl rfl rfl rfl pawsz36 pawone_i64u32i64i64ss (by show 6 ≤ 6; decide) (L' := ([.blk g2 36 m.cells, .row (.slice (some ⟨g11, 0, none⟩) 6 6) 47 17 6 (flat Rs.cells [rpl 0 0 1 1, rpl 1 0 2 2, rpl 2 0 3 4, rpl 3 1 1 1, rpl 4 1 2 3, rpl 5 1 3 4])] ++ mpsP [m])) rfl ?_
 refine TL.as_ ?_
 refine TL.end_ (TX.then_ (TC.seq_ ?_))
 replace hml : MpLen m 6 := hml
 obtain ⟨rfl, hmh, hme, hmd, hmw⟩ := aw_graph hbm
 refine TC.region ?_
 refine TL.val rfl rfl rfl (pm_loadV (k := 0) (i := 0) (n := 6) (v := .agg (m.cells).toArray) rfl rfl pawag36 pawsz36 rfl (by show 6 ≤ 6; decide) rfl) ?_
 refine TL.pcallPm (α := {y : (Option Addr × Nat) × List Dm // IsDm (wid m.hops.l) y.2 ∧ y.2.length ≤ y.1.2 ∧ y.1.2 ≤ maxLen}) (fun x => .slice x.1.1.1 x.1.2.length x.1.1.2) (fun x => [.row (.slice x.1.1.1 x.1.2.length x.1.1.2) 58 3 x.1.2.length (flat Dm.cells x.1.2)]) rfl rfl rfl rfl rfl Tryz.func19 pawnm19 pawbd19 (fun w1 hw => diamonds_any m w1 ((MpR.of (hml) (by omega) hw (fun q hq => List.mem_of_mem_drop (i := 2) (by exact mps_mem (by simp) hq)))).hops ((MpR.of (hml) (by omega) hw (fun q hq => List.mem_of_mem_drop (i := 2) (by exact mps_mem (by simp) hq)))).nhops (fun x hx => ⟨(hml.fh x hx).2.1, (hml.fh x hx).2.2.1⟩)) ?_
 rintro ⟨⟨⟨R18, rc18⟩, dm18⟩, hP18, hR181, hR182⟩
 dsimp only [List.cons_append, List.nil_append]
 dsimp only at hP18 hR181 hR182 ⊢
 refine TL.as_ ?_
 refine TL.end_ (TX.then_ (TC.seq_ ?_))
 have hd18 := hmd dm18 hP18
 have hd18l : dm18.length = 1 := by rw [hd18]; rfl
 refine TC.region ?_
 refine TL.mv ?_
 refine TL.val rfl rfl rfl (gives_bin rfl rfl rfl (fun w => bin_eql_t (rfl) w)) ?_
 refine TL.mv ?_
 refine TL.gu ?_
 refine TL.val rfl rfl rfl (gives_field (v := .pointer (some ⟨g2, 4, none⟩)) rfl rfl (fun w => pawfld36_2 _ _ w)) ?_
 refine TL.gu ?_
 refine TL.val rfl rfl rfl (pm_load (k := 1) (i := 4) rfl rfl pawag33 rfl rfl) ?_
 refine TL.gu ?_
 refine TL.val rfl rfl rfl (gives_len rfl Tryz.underlying33 rfl) ?_
 refine TL.gu ?_
 refine TL.val rfl rfl rfl (gives_bin rfl rfl rfl (fun w => bin_eql_t (by rw [hmh]; rfl) w)) ?_
 refine TL.pk ?_
 refine TL.mv ?_
 refine TL.gu ?_
 refine TL.val rfl rfl rfl (gives_field (v := .pointer (some ⟨g2, 5, none⟩)) rfl rfl (fun w => pawfld36_3 _ _ w)) ?_
 refine TL.gu ?_
 refine TL.val rfl rfl rfl (pm_load (k := 1) (i := 5) rfl rfl pawag34 rfl rfl) ?_
 refine TL.gu ?_
 refine TL.val rfl rfl rfl (gives_len rfl Tryz.underlying34 rfl) ?_
 refine TL.gu ?_
 refine TL.val rfl rfl rfl (gives_bin rfl rfl rfl (fun w => bin_eql_t (by rw [hme]; rfl) w)) ?_
 iterate 5 (first | refine TL.gu ?_ | refine TL.mv ?_ | refine TL.pk ?_)
 refine TL.val rfl rfl rfl (gives_len rfl Tryz.underlying55 rfl) ?_
 refine TL.gu ?_
 refine TL.val rfl rfl rfl (gives_bin rfl rfl rfl (fun w => bin_eql_t (by rw [hd18]; rfl) w)) ?_
 iterate 5 (first | refine TL.gu ?_ | refine TL.mv ?_ | refine TL.pk ?_)
 refine TL.fact (p := ∃ g, R18 = some ⟨g, 0, none⟩) (fun w1 hw => rowA hw (k := 0) rfl (by omega)) ?_
 rintro ⟨g_R18, rfl⟩
 have hi40 : 0 < dm18.length := by omega
 obtain ⟨x40, hx40⟩ : ∃ x40, dm18[0]? = some x40 := ⟨_, List.getElem?_eq_getElem hi40⟩
 have hx40e : x40 = ⟨1, 3, 2⟩ := by rw [hd18] at hx40; simpa using hx40.symm
 refine TL.val rfl rfl rfl (gives_at (v := .pointer (some ⟨g_R18, 0 + 0 * 3, none⟩)) rfl rfl rfl (fun w => at_el Tryz.underlying55 pawsz58 rfl _ _ 0 (by omega) rfl w)) ?_
 refine TL.gu ?_
 refine TL.val rfl rfl rfl (gives_loadR (off := 0 + 0 * 3) rfl rfl pawag58 pawsz58 (dm_cel.len x40) (fun w1 hw j9 u9 h9 => flat_row dm_cel hw (q := 0) rfl hx40 j9 u9 h9)) ?_
 refine TL.gu ?_
 refine TL.val rfl rfl rfl (gives_build (v := .agg #[.int .i64 1, .int .i64 3, .int .i64 2]) rfl rfl (fun w => pawbld58_57326 _ _ _ w)) ?_
 refine TL.gu ?_
 refine TL.val rfl rfl rfl (gives_bin2 (v := .bool true) rfl rfl rfl (fun w => dm_eql_is (y := ⟨1, 3, 2⟩) (by rw [hx40e]; rfl) _ _ w)) ?_
 iterate 5 (first | refine TL.gu ?_ | refine TL.mv ?_ | refine TL.pk ?_)
 have hi47 : 0 < ([rpl 0 0 1 1, rpl 1 0 2 2, rpl 2 0 3 4, rpl 3 1 1 1, rpl 4 1 2 3, rpl 5 1 3 4]).length := by simp
 obtain ⟨x47, hx47⟩ : ∃ x47, ([rpl 0 0 1 1, rpl 1 0 2 2, rpl 2 0 3 4, rpl 3 1 1 1, rpl 4 1 2 3, rpl 5 1 3 4])[0]? = some x47 := ⟨_, List.getElem?_eq_getElem hi47⟩
 have hx47v : vldRs x47 = true := by have h9 := Option.some.inj hx47; rw [← h9]; decide +kernel
 refine TL.val rfl rfl rfl (gives_at (v := .pointer (some ⟨g11, 0 + 0 * 17, none⟩)) rfl rfl rfl (fun w => at_el Tryz.underlying26 pawsz47 rfl _ _ 0 (by omega) rfl w)) ?_
 refine TL.gu ?_
 refine TL.val rfl rfl rfl (gives_loadR (off := 0 + 0 * 17) rfl rfl pawag47 pawsz47 (rs_cel.len x47) (fun w1 hw j9 u9 h9 => flat_row rs_cel hw (q := 2) rfl hx47 j9 u9 h9)) ?_
 refine TL.gu ?_
 refine TL.pcall1 (r := .bool true) rfl rfl rfl rfl rfl Tryz.func26 pawnm26 pawbd26 (fun w1 hw => (by have h9 := vldRs_any x47 w1; rw [hx47v] at h9; exact h9)) ?_
 refine TL.pk ?_
 refine TL.mv ?_
 refine TL.gu ?_
 refine TL.val rfl rfl rfl (pm_loadV (k := 1) (i := 0) (n := 6) (v := .agg (m.cells).toArray) rfl rfl pawag36 pawsz36 rfl (by show 6 ≤ 6; decide) rfl) ?_
 refine TL.gu ?_
 refine TL.pcallPm (α := {y : (Option Addr × Nat) × List Wre // IsWr m.edges.l y.2 ∧ y.2.length ≤ y.1.2 ∧ y.1.2 ≤ maxLen}) (fun x => .slice x.1.1.1 x.1.2.length x.1.1.2) (fun x => [.row (.slice x.1.1.1 x.1.2.length x.1.1.2) 54 2 x.1.2.length (flat Wre.cells x.1.2)]) rfl rfl rfl rfl rfl Tryz.func18 pawnm18 pawbd18 (fun w1 hw => wires_any m w1 ((MpR.of (hml) (by omega) hw (fun q hq => List.mem_of_mem_drop (i := 3) (by exact mps_mem (by simp) hq)))).edges ((MpR.of (hml) (by omega) hw (fun q hq => List.mem_of_mem_drop (i := 3) (by exact mps_mem (by simp) hq)))).nedges) ?_
 rintro ⟨⟨⟨R53, rc53⟩, wr53⟩, hP53, hR531, hR532⟩
 dsimp only [List.cons_append, List.nil_append]
 dsimp only at hP53 hR531 hR532 ⊢
 refine TL.gu ?_
 refine TL.val rfl rfl rfl (gives_len rfl Tryz.underlying51 rfl) ?_
 refine TL.gu ?_
 refine TL.val rfl rfl rfl (gives_bin rfl rfl rfl (fun w => bin_eql_t (by rw [hmw wr53 hP53]; rfl) w)) ?_
 refine TL.pk ?_
 refine TL.as_ ?_
 refine TL.end_ (TX.then_ (TC.ret_ ?_))
 exact ret_tmp Tryz.results10 rfl (fun w1 hw => ⟨rfl, hw.bel⟩)
end Go.Proofs.YtnejdeklnmkhbaaGreat

namespace Go.Proofs.YtnejdeklnmkhbaaGreat
open Go.RowKit
set_option maxRecDepth 20000
theorem plonm10 : (Tryz.f10.name == "runtime.NumGoroutine") = false := by decide
theorem plobd10 : Tryz.f10.body.isNone = false := rfl
theorem plonm11 : (Tryz.f11.name == "runtime.NumGoroutine") = false := by decide
theorem plobd11 : Tryz.f11.body.isNone = false := rfl
theorem plonm13 : (Tryz.f13.name == "runtime.NumGoroutine") = false := by decide
theorem plobd13 : Tryz.f13.body.isNone = false := rfl
theorem plonm12 : (Tryz.f12.name == "runtime.NumGoroutine") = false := by decide
theorem plobd12 : Tryz.f12.body.isNone = false := rfl
theorem plonm14 : (Tryz.f14.name == "runtime.NumGoroutine") = false := by decide
theorem plobd14 : Tryz.f14.body.isNone = false := rfl
theorem plozv36 (w : World) : (zeroValue 36).run Tryz.prog w = .ok (.agg #[.int .i64 0, .int .u32 0, .int .i64 0, .int .i64 0, .slice none 0 0, .slice none 0 0]) w := rfl
theorem plosz36 (w : World) : (sizeOf 36).run Tryz.prog w = .ok 6 w := rfl
theorem ploone_i64u32i64i64ss {a0 : Int} {a1 : Int} {a2 : Int} {a3 : Int} {a4 : Option Addr} {n4 c4 : Nat} {a5 : Option Addr} {n5 c5 : Nat} : ∀ u ∈ [(.int .i64 a0 : Value), .int .u32 a1, .int .i64 a2, .int .i64 a3, .slice a4 n4 c4, .slice a5 n5 c5], u.oneCell' = true := by
 intro u hu
 simp only [List.mem_cons, List.not_mem_nil, or_false] at hu
 rcases hu with rfl | rfl | rfl | rfl | rfl | rfl <;> rfl
theorem plonm15 : (Tryz.f15.name == "runtime.NumGoroutine") = false := by decide
theorem plobd15 : Tryz.f15.body.isNone = false := rfl
theorem ploag36 (w : World) : (isAgg 36).run Tryz.prog w = .ok true w := rfl
theorem plonm16 : (Tryz.f16.name == "runtime.NumGoroutine") = false := by decide
theorem plobd16 : Tryz.f16.body.isNone = false := rfl
set_option maxHeartbeats 1000000 in
theorem pathsOrder_walk (A0 : Option Addr) (n0 c0 : Nat) (l0 : List Int) (w : World) (hb0 : Byt w w.heap.size A0 n0 l0) (hc0 : n0 ≤ c0) (hm0 : c0 ≤ maxLen) :
  Calls Tryz.prog 3 #[.slice A0 n0 c0] w fun e w' => e = .returned (.bool true) ∧ Below w.heap.size w w' := by
 have hn0 : (n0 : Int) ≤ 9223372036854775807 := by unfold maxLen at hm0; omega
 refine begin_ (vs := [.slice A0 n0 c0]) Tryz.func3 rfl rfl rfl ?_ (Pm.start w)
 refine TC.seq_ (TC.region ?_)
 refine TL.as_ ?_
 refine TL.end_ (TX.then_ (TC.seq_ (TC.seq_ (TC.region ?_))))
 refine TL.pcall1 (r := .bool true) rfl rfl rfl rfl rfl Tryz.func10 plonm10 plobd10 (fun w1 hw => awake_true w1) ?_
 refine TL.val rfl rfl rfl (gives_boolnot rfl rfl) ?_
 refine TL.end_ (TX.then_ (TC.condF rfl (TC.skip_ (TX.then_ (TC.seq_ (TC.region ?_))))))
 refine TL.mv ?_
 refine TL.callNew (I := Pm w []) (p := fun cb w => Cod w cb) rfl rfl rfl rfl rfl Tryz.func11 plonm11 plobd11 (fun w1 hw => (roll_any A0 n0 c0 l0 w1 ((hb0.below hw.bel).more hw.bel.size) hc0 hn0).mono fun e w2 ⟨h1, h2, h3⟩ => ⟨h1, h2, cod_cells h2, h3⟩) cod_stab (fun wn hwn => ?_)
 have hwb := hwn.bel
 refine TL.as_ ?_
 refine TL.end_ (TX.then_ (TC.seq_ (TC.region ?_)))
 refine TL.mv ?_
 refine TL.mv ?_
 refine TL.pcallCod (k := 0) (α := Bool) (fun x => .bool x) (fun x => []) rfl rfl rfl rfl rfl Tryz.func13 plonm13 plobd13 rfl (fun w1 hw hC1 => dbool_cod wn.heap.size w1 hC1 4 (by decide)) ?_
 rintro b0
 dsimp only [List.cons_append, List.nil_append]
 cases b0 with
 | true =>
  refine TL.val rfl rfl rfl (gives_boolnot rfl rfl) ?_
  refine TL.pcallCod (k := 0) (α := {y : (Option Addr × Nat) × List Rs // OneOk 24 false y.2 ∧ y.2.length ≤ y.1.2 ∧ y.1.2 ≤ maxLen}) (fun x => .slice x.1.1.1 x.1.2.length x.1.1.2) (fun x => [.row (.slice x.1.1.1 x.1.2.length x.1.1.2) 47 17 x.1.2.length (flat Rs.cells x.1.2)]) rfl rfl rfl rfl rfl Tryz.func12 plonm12 plobd12 rfl (fun w1 hw hC1 => one_cod wn.heap.size w1 hC1 24 false (by decide)) ?_
  rintro ⟨⟨⟨Axs, cxs⟩, xs⟩, hxs, hxsc, hxsm⟩
  dsimp only [List.cons_append, List.nil_append]
  dsimp only at hxs hxsc hxsm ⊢
  have hxslen := hxs.2.2.2.1
  have hxsok : ∀ r ∈ xs, r.Ok := fun r hr => (hxs.1 r hr).2.1
  refine TL.as_ ?_
  refine TL.end_ (TX.then_ (TC.seq_ (TC.region ?_)))
  refine TL.mv ?_
  refine TL.call (α := {y : Mp × Int // BuildOk xs y.1 y.2}) (r := fun x => .tuple #[.agg x.1.1.cells.toArray, .int .i64 x.1.2]) (I' := fun x => Pm wn ([.row (.slice Axs xs.length cxs) 47 17 xs.length (flat Rs.cells xs), .abs wn.heap.size (fun w => Cod w wn.heap.size)] ++ mpsP (x.1.1 :: []))) rfl rfl rfl rfl rfl Tryz.func14 plonm14 plobd14 (fun w1 hw => (build_any Axs cxs xs w1 (pm_rd hw (k := 0) rfl) (by omega) hxsok).mono fun e w2 ⟨x, h1, h2⟩ => ⟨x, h1, Pm.mpsIn (P := [.row (.slice Axs xs.length cxs) 47 17 xs.length (flat Rs.cells xs), .abs wn.heap.size (fun w => Cod w wn.heap.size)]) (ms := []) (hw.addAll h2 (pcs_noAbs _))⟩) ?_
  rintro ⟨⟨m, em⟩, hbm⟩
  dsimp only at hbm ⊢
  have hml := build_len hxsok hbm
  refine TL.mv ?_
  refine TL.ex ?_
  refine TL.ex ?_
  refine TL.pnew rfl rfl rfl (exec_alloc (cs := [.int .i64 0, .int .u32 0, .int .i64 0, .int .i64 0, .slice none 0 0, .slice none 0 0]) rfl plozv36 rfl) (fun g5 => ?_)
  refine TL.pstore (k := 0) (vs := m.cells) rfl rfl rfl rfl rfl rfl rfl plosz36 ploone_i64u32i64i64ss (by show 6 ≤ 6; decide) (L' := ([.blk g5 36 m.cells, .row (.slice Axs xs.length cxs) 47 17 xs.length (flat Rs.cells xs), .abs wn.heap.size (fun w => Cod w wn.heap.size)] ++ mpsP [m])) rfl ?_
  refine TL.as_ ?_
  refine TL.end_ (TX.then_ (TC.seq_ (TC.region ?_)))
  refine TL.mv ?_
  refine TL.mv ?_
  refine TL.call (α := {y : (Option Addr × Nat) × List Rs // ShufOk xs y.2 ∧ y.2.length ≤ y.1.2 ∧ y.1.2 ≤ maxLen}) (r := fun x => .slice x.1.1.1 x.1.2.length x.1.1.2) (I' := fun x => Pm wn ([.row (.slice x.1.1.1 x.1.2.length x.1.1.2) 47 17 x.1.2.length (flat Rs.cells x.1.2), .abs wn.heap.size (fun w => Cod w wn.heap.size), .row (.slice Axs xs.length cxs) 47 17 xs.length (flat Rs.cells xs), .blk g5 36 m.cells] ++ mpsP [m])) rfl rfl rfl rfl rfl Tryz.func15 plonm15 plobd15 (fun w1 hw => shuf_fr wn ([.blk g5 36 m.cells] ++ mpsP [m]) wn.heap.size Axs xs.length cxs xs w1 ((show Pm wn ([.abs wn.heap.size (fun w => Cod w wn.heap.size), .row (.slice Axs xs.length cxs) 47 17 xs.length (flat Rs.cells xs), .blk g5 36 m.cells] ++ mpsP [m]) w1 from hw.pickT 3 [2, 1, 0] (by decide) (by decide) rfl rfl)) rfl (by omega)) ?_
  rintro ⟨⟨⟨Ash, csh⟩, sh⟩, hsh, hshc, hshm⟩
  dsimp only at hsh hshc hshm ⊢
  have hshl2 := hsh.2
  have hshok : ∀ r ∈ sh, r.Ok := fun r hr => hxsok r ((hsh.1 r).1 hr)
  refine TL.call (α := {y : Mp × Int // BuildOk sh y.1 y.2}) (r := fun x => .tuple #[.agg x.1.1.cells.toArray, .int .i64 x.1.2]) (I' := fun x => Pm wn ([.row (.slice Ash sh.length csh) 47 17 sh.length (flat Rs.cells sh), .abs wn.heap.size (fun w => Cod w wn.heap.size), .row (.slice Axs xs.length cxs) 47 17 xs.length (flat Rs.cells xs), .blk g5 36 m.cells] ++ mpsP (x.1.1 :: [m]))) rfl rfl rfl rfl rfl Tryz.func14 plonm14 plobd14 (fun w1 hw => (build_any Ash csh sh w1 (pm_rd hw (k := 0) rfl) (by omega) hshok).mono fun e w2 ⟨x, h1, h2⟩ => ⟨x, h1, Pm.mpsIn (P := [.row (.slice Ash sh.length csh) 47 17 sh.length (flat Rs.cells sh), .abs wn.heap.size (fun w => Cod w wn.heap.size), .row (.slice Axs xs.length cxs) 47 17 xs.length (flat Rs.cells xs), .blk g5 36 m.cells]) (ms := [m]) (hw.addAll h2 (pcs_noAbs _))⟩) ?_
  rintro ⟨⟨z, ez⟩, hbz⟩
  dsimp only at hbz ⊢
  have hzl := build_len hshok hbz
  refine TL.mv ?_
  refine TL.ex ?_
  refine TL.ex ?_
  refine TL.pnew rfl rfl rfl (exec_alloc (cs := [.int .i64 0, .int .u32 0, .int .i64 0, .int .i64 0, .slice none 0 0, .slice none 0 0]) rfl plozv36 rfl) (fun g7 => ?_)
  refine TL.pstore (k := 0) (vs := z.cells) rfl rfl rfl rfl rfl rfl rfl plosz36 ploone_i64u32i64i64ss (by show 6 ≤ 6; decide) (L' := ([.blk g7 36 z.cells, .row (.slice Ash sh.length csh) 47 17 sh.length (flat Rs.cells sh), .abs wn.heap.size (fun w => Cod w wn.heap.size), .row (.slice Axs xs.length cxs) 47 17 xs.length (flat Rs.cells xs), .blk g5 36 m.cells] ++ mpsP [z, m])) rfl ?_
  refine TL.as_ ?_
  refine TL.end_ (TX.then_ (TC.seq_ ?_))
  have hsame := build_same (fun r => (hsh.1 r).symm) hbm hbz
  refine TC.region ?_
  refine TL.mv ?_
  refine TL.mv ?_
  refine TL.val rfl rfl rfl (gives_bin rfl rfl rfl (fun w => bin_eql_t (hsame.1) w)) ?_
  refine TL.mv ?_
  refine TL.gu ?_
  refine TL.val rfl rfl rfl (pm_loadV (k := 4) (i := 0) (n := 6) (v := .agg (m.cells).toArray) rfl rfl ploag36 plosz36 rfl (by show 6 ≤ 6; decide) rfl) ?_
  refine TL.gu ?_
  refine TL.val rfl rfl rfl (pm_loadV (k := 0) (i := 0) (n := 6) (v := .agg (z.cells).toArray) rfl rfl ploag36 plosz36 rfl (by show 6 ≤ 6; decide) rfl) ?_
  refine TL.gu ?_
  refine TL.pcall1 (r := .bool true) rfl rfl rfl rfl rfl Tryz.func16 plonm16 plobd16 (fun w1 hw => (by have h9 := rsame_any m z w1 (MpR.of (hml) (by omega) hw (fun q hq => List.mem_of_mem_drop (i := 5) (by exact mps_mem (by simp) hq))) (MpR.of (hzl) (by omega) hw (fun q hq => List.mem_of_mem_drop (i := 5) (by exact mps_mem (by simp) hq))); rw [hsame.2] at h9; exact h9)) ?_
  refine TL.pk ?_
  refine TL.as_ ?_
  refine TL.end_ (TX.then_ (TC.ret_ ?_))
  exact ret_tmp Tryz.results3 rfl (fun w1 hw => ⟨rfl, hwb.trans (hw.bel.mono hwb.size)⟩)
 | false =>
  refine TL.val rfl rfl rfl (gives_boolnot rfl rfl) ?_
  refine TL.pcallCod (k := 0) (α := {y : (Option Addr × Nat) × List Rs // OneOk 24 true y.2 ∧ y.2.length ≤ y.1.2 ∧ y.1.2 ≤ maxLen}) (fun x => .slice x.1.1.1 x.1.2.length x.1.1.2) (fun x => [.row (.slice x.1.1.1 x.1.2.length x.1.1.2) 47 17 x.1.2.length (flat Rs.cells x.1.2)]) rfl rfl rfl rfl rfl Tryz.func12 plonm12 plobd12 rfl (fun w1 hw hC1 => one_cod wn.heap.size w1 hC1 24 true (by decide)) ?_
  rintro ⟨⟨⟨Axs, cxs⟩, xs⟩, hxs, hxsc, hxsm⟩
  dsimp only [List.cons_append, List.nil_append]
  dsimp only at hxs hxsc hxsm ⊢
  have hxslen := hxs.2.2.2.1
  have hxsok : ∀ r ∈ xs, r.Ok := fun r hr => (hxs.1 r hr).2.1
  refine TL.as_ ?_
  refine TL.end_ (TX.then_ (TC.seq_ (TC.region ?_)))
  refine TL.mv ?_
  refine TL.call (α := {y : Mp × Int // BuildOk xs y.1 y.2}) (r := fun x => .tuple #[.agg x.1.1.cells.toArray, .int .i64 x.1.2]) (I' := fun x => Pm wn ([.row (.slice Axs xs.length cxs) 47 17 xs.length (flat Rs.cells xs), .abs wn.heap.size (fun w => Cod w wn.heap.size)] ++ mpsP (x.1.1 :: []))) rfl rfl rfl rfl rfl Tryz.func14 plonm14 plobd14 (fun w1 hw => (build_any Axs cxs xs w1 (pm_rd hw (k := 0) rfl) (by omega) hxsok).mono fun e w2 ⟨x, h1, h2⟩ => ⟨x, h1, Pm.mpsIn (P := [.row (.slice Axs xs.length cxs) 47 17 xs.length (flat Rs.cells xs), .abs wn.heap.size (fun w => Cod w wn.heap.size)]) (ms := []) (hw.addAll h2 (pcs_noAbs _))⟩) ?_
  rintro ⟨⟨m, em⟩, hbm⟩
  dsimp only at hbm ⊢
  have hml := build_len hxsok hbm
  refine TL.mv ?_
  refine TL.ex ?_
  refine TL.ex ?_
  refine TL.pnew rfl rfl rfl (exec_alloc (cs := [.int .i64 0, .int .u32 0, .int .i64 0, .int .i64 0, .slice none 0 0, .slice none 0 0]) rfl plozv36 rfl) (fun g5 => ?_)
  refine TL.pstore (k := 0) (vs := m.cells) rfl rfl rfl rfl rfl rfl rfl plosz36 ploone_i64u32i64i64ss (by show 6 ≤ 6; decide) (L' := ([.blk g5 36 m.cells, .row (.slice Axs xs.length cxs) 47 17 xs.length (flat Rs.cells xs), .abs wn.heap.size (fun w => Cod w wn.heap.size)] ++ mpsP [m])) rfl ?_
  refine TL.as_ ?_
  refine TL.end_ (TX.then_ (TC.seq_ (TC.region ?_)))
  refine TL.mv ?_
  refine TL.mv ?_
  refine TL.call (α := {y : (Option Addr × Nat) × List Rs // ShufOk xs y.2 ∧ y.2.length ≤ y.1.2 ∧ y.1.2 ≤ maxLen}) (r := fun x => .slice x.1.1.1 x.1.2.length x.1.1.2) (I' := fun x => Pm wn ([.row (.slice x.1.1.1 x.1.2.length x.1.1.2) 47 17 x.1.2.length (flat Rs.cells x.1.2), .abs wn.heap.size (fun w => Cod w wn.heap.size), .row (.slice Axs xs.length cxs) 47 17 xs.length (flat Rs.cells xs), .blk g5 36 m.cells] ++ mpsP [m])) rfl rfl rfl rfl rfl Tryz.func15 plonm15 plobd15 (fun w1 hw => shuf_fr wn ([.blk g5 36 m.cells] ++ mpsP [m]) wn.heap.size Axs xs.length cxs xs w1 ((show Pm wn ([.abs wn.heap.size (fun w => Cod w wn.heap.size), .row (.slice Axs xs.length cxs) 47 17 xs.length (flat Rs.cells xs), .blk g5 36 m.cells] ++ mpsP [m]) w1 from hw.pickT 3 [2, 1, 0] (by decide) (by decide) rfl rfl)) rfl (by omega)) ?_
  rintro ⟨⟨⟨Ash, csh⟩, sh⟩, hsh, hshc, hshm⟩
  dsimp only at hsh hshc hshm ⊢
  have hshl2 := hsh.2
  have hshok : ∀ r ∈ sh, r.Ok := fun r hr => hxsok r ((hsh.1 r).1 hr)
  refine TL.call (α := {y : Mp × Int // BuildOk sh y.1 y.2}) (r := fun x => .tuple #[.agg x.1.1.cells.toArray, .int .i64 x.1.2]) (I' := fun x => Pm wn ([.row (.slice Ash sh.length csh) 47 17 sh.length (flat Rs.cells sh), .abs wn.heap.size (fun w => Cod w wn.heap.size), .row (.slice Axs xs.length cxs) 47 17 xs.length (flat Rs.cells xs), .blk g5 36 m.cells] ++ mpsP (x.1.1 :: [m]))) rfl rfl rfl rfl rfl Tryz.func14 plonm14 plobd14 (fun w1 hw => (build_any Ash csh sh w1 (pm_rd hw (k := 0) rfl) (by omega) hshok).mono fun e w2 ⟨x, h1, h2⟩ => ⟨x, h1, Pm.mpsIn (P := [.row (.slice Ash sh.length csh) 47 17 sh.length (flat Rs.cells sh), .abs wn.heap.size (fun w => Cod w wn.heap.size), .row (.slice Axs xs.length cxs) 47 17 xs.length (flat Rs.cells xs), .blk g5 36 m.cells]) (ms := [m]) (hw.addAll h2 (pcs_noAbs _))⟩) ?_
  rintro ⟨⟨z, ez⟩, hbz⟩
  dsimp only at hbz ⊢
  have hzl := build_len hshok hbz
  refine TL.mv ?_
  refine TL.ex ?_
  refine TL.ex ?_
  refine TL.pnew rfl rfl rfl (exec_alloc (cs := [.int .i64 0, .int .u32 0, .int .i64 0, .int .i64 0, .slice none 0 0, .slice none 0 0]) rfl plozv36 rfl) (fun g7 => ?_)
  refine TL.pstore (k := 0) (vs := z.cells) rfl rfl rfl rfl rfl rfl rfl plosz36 ploone_i64u32i64i64ss (by show 6 ≤ 6; decide) (L' := ([.blk g7 36 z.cells, .row (.slice Ash sh.length csh) 47 17 sh.length (flat Rs.cells sh), .abs wn.heap.size (fun w => Cod w wn.heap.size), .row (.slice Axs xs.length cxs) 47 17 xs.length (flat Rs.cells xs), .blk g5 36 m.cells] ++ mpsP [z, m])) rfl ?_
  refine TL.as_ ?_
  refine TL.end_ (TX.then_ (TC.seq_ ?_))
  have hsame := build_same (fun r => (hsh.1 r).symm) hbm hbz
  refine TC.region ?_
  refine TL.mv ?_
  refine TL.mv ?_
  refine TL.val rfl rfl rfl (gives_bin rfl rfl rfl (fun w => bin_eql_t (hsame.1) w)) ?_
  refine TL.mv ?_
  refine TL.gu ?_
  refine TL.val rfl rfl rfl (pm_loadV (k := 4) (i := 0) (n := 6) (v := .agg (m.cells).toArray) rfl rfl ploag36 plosz36 rfl (by show 6 ≤ 6; decide) rfl) ?_
  refine TL.gu ?_
  refine TL.val rfl rfl rfl (pm_loadV (k := 0) (i := 0) (n := 6) (v := .agg (z.cells).toArray) rfl rfl ploag36 plosz36 rfl (by show 6 ≤ 6; decide) rfl) ?_
  refine TL.gu ?_
  refine TL.pcall1 (r := .bool true) rfl rfl rfl rfl rfl Tryz.func16 plonm16 plobd16 (fun w1 hw => (by have h9 := rsame_any m z w1 (MpR.of (hml) (by omega) hw (fun q hq => List.mem_of_mem_drop (i := 5) (by exact mps_mem (by simp) hq))) (MpR.of (hzl) (by omega) hw (fun q hq => List.mem_of_mem_drop (i := 5) (by exact mps_mem (by simp) hq))); rw [hsame.2] at h9; exact h9)) ?_
  refine TL.pk ?_
  refine TL.as_ ?_
  refine TL.end_ (TX.then_ (TC.ret_ ?_))
  exact ret_tmp Tryz.results3 rfl (fun w1 hw => ⟨rfl, hwb.trans (hw.bel.mono hwb.size)⟩)
end Go.Proofs.YtnejdeklnmkhbaaGreat
