/-
  Texts of the proof, joined: Us8, SymClr, CptLaw, Us9, SymSeg, UnLaw, UnCls, UnPath, ClsStep, UnCell, UnRoot, UnVal, UnFor, UnCla, UnSame.
-/
import Derived.Test.YtleckflmckbheaaPu3
import Derived.Test.YtleckflmckbheaaPu2
import Derived.Test.YtleckflmckbheaaPu1
namespace Go.Proofs.Ytleckflmckbheaa
open Go.RowKit
set_option linter.unusedVariables false
set_option linter.unusedSimpArgs false
set_option maxRecDepth 20000
/-- the state of the sort: what lies from a1 to b1 is to be sorted yet -/
structure Inv (a b : Nat) (xs : List Int) (a1 b1 : Nat) (ys : List Int) : Prop where
  ha : a ≤ a1
  hb : b1 ≤ b
  ab : a1 ≤ b1
  bl : b ≤ ys.length
  per : Pin a b xs ys
  out : Out a b a1 b1 ys
  low : Low a1 b1 ys
theorem Inv.len {a b a1 b1 : Nat} {xs ys : List Int} (h : Inv a b xs a1 b1 ys) : ys.length = xs.length := h.per.len
theorem Inv.start {a b : Nat} {xs : List Int} (hab : a ≤ b) (hb : b ≤ xs.length) (hL : Low a b xs) : Inv a b xs a b xs := ⟨Nat.le_refl _, Nat.le_refl _, hab, hb, Pin.refl _ _ _, Out.start _ _ _, hL⟩
theorem Inv.pin {a b a1 b1 : Nat} {xs ys zs : List Int} (h : Inv a b xs a1 b1 ys) (hp : Pin a1 b1 ys zs) : Inv a b xs a1 b1 zs := ⟨h.ha, h.hb, h.ab, by rw [hp.len]; exact h.bl, h.per.trans (hp.mono h.ha h.hb), h.out.pin h.ha h.hb hp, h.low.pin hp⟩
theorem Inv.eqs {a b a1 b1 m : Nat} {xs ys : List Int} (h : Inv a b xs a1 b1 ys) (he : Eqs a1 b1 m ys) (hm : Mn a1 b1 ys) : Inv a b xs m b1 ys := ⟨Nat.le_trans h.ha (Nat.le_of_lt he.hm.1), h.hb, he.hm.2, h.bl, h.per, h.out.eqs he hm, he.low⟩
theorem Inv.left {a b a1 b1 m : Nat} {xs ys zs : List Int} (h : Inv a b xs a1 b1 ys) (hm : Mid a1 b1 m ys) (hp : Pin a1 m ys zs) (hs : Srt a1 m zs) : Inv a b xs (m + 1) b1 zs :=
  have h1 := hm.hm; have h2 := h.ha; have h3 := h.hb
  ⟨by omega, h.hb, by omega, by rw [hp.len]; exact h.bl, h.per.trans (hp.mono h.ha (by omega)), h.out.left h.ha h.hb hm hp hs, Low.right hm hp⟩
theorem Inv.right {a b a1 b1 m : Nat} {xs ys zs : List Int} (h : Inv a b xs a1 b1 ys) (hm : Mid a1 b1 m ys) (hp : Pin (m + 1) b1 ys zs) (hs : Srt (m + 1) b1 zs) : Inv a b xs a1 m zs :=
  have h1 := hm.hm; have h2 := h.ha; have h3 := h.hb
  ⟨h.ha, by omega, h1.1, by rw [hp.len]; exact h.bl, h.per.trans (hp.mono (by omega) h.hb), h.out.right h.ha h.hb hm hp hs, h.low.left (by omega) hp h1.1⟩
theorem Inv.done {a b a1 b1 : Nat} {xs ys : List Int} (h : Inv a b xs a1 b1 ys) (hs : Srt a1 b1 ys) : Srt a b ys := h.out.done hs
theorem us8nm62 : (Try.f62.name == "runtime.NumGoroutine") = false := by decide
theorem us8bd62 : Try.f62.body.isNone = false := rfl
theorem us8nm63 : (Try.f63.name == "runtime.NumGoroutine") = false := by decide
theorem us8bd63 : Try.f63.body.isNone = false := rfl
theorem us8nm64 : (Try.f64.name == "runtime.NumGoroutine") = false := by decide
theorem us8bd64 : Try.f64.body.isNone = false := rfl
theorem us8nm65 : (Try.f65.name == "runtime.NumGoroutine") = false := by decide
theorem us8bd65 : Try.f65.body.isNone = false := rfl
theorem us8nm66 : (Try.f66.name == "runtime.NumGoroutine") = false := by decide
theorem us8bd66 : Try.f66.body.isNone = false := rfl
theorem us8nm67 : (Try.f67.name == "runtime.NumGoroutine") = false := by decide
theorem us8bd67 : Try.f67.body.isNone = false := rfl
theorem us8nm70 : (Try.f70.name == "runtime.NumGoroutine") = false := by decide
theorem us8bd70 : Try.f70.body.isNone = false := rfl
theorem us8nm58 : (Try.f58.name == "runtime.NumGoroutine") = false := by decide
theorem us8bd58 : Try.f58.body.isNone = false := rfl
theorem us8sz35 (w : World) : (sizeOf 35).run Try.prog w = .ok 1 w := rfl
theorem us8ag35 (w : World) : (isAgg 35).run Try.prog w = .ok false w := rfl
theorem us8nm68 : (Try.f68.name == "runtime.NumGoroutine") = false := by decide
theorem us8bd68 : Try.f68.body.isNone = false := rfl
theorem us8nm69 : (Try.f69.name == "runtime.NumGoroutine") = false := by decide
theorem us8bd69 : Try.f69.body.isNone = false := rfl
set_option maxHeartbeats 1000000 in
theorem pdq_ind (g n c : Nat) (hn : n ≤ 1000000) : ∀ (M a b lim : Nat) (xs : List Int) (w : World), Rw 35 w g n c xs → a ≤ b → b ≤ n → Low a b xs → lim ≤ 1000 → b - a < M →
    Calls Try.prog 58 #[.slice (some ⟨g, 0, none⟩) n c, .int .i64 ((a : Nat) : Int), .int .i64 ((b : Nat) : Int), .int .i64 ((lim : Nat) : Int)] w (RC (α := Unit) (fun _ => .tuple #[]) (fun _ ys => Pin a b xs ys ∧ Srt a b ys) 35 g n c w)
  | 0, a, b, lim, xs, w, h, hab, hb, hL, hlim, hM => absurd hM (Nat.not_lt_zero _)
  | M + 1, a, b, lim, xs, w, h, hab, hb, hL, hlim, hM => by
    have ih := fun a b lim xs w h hab hb hL hlim hM => pdq_ind g n c hn M a b lim xs w h hab hb hL hlim hM
    have hl := h.len
    refine begin_ (vs := [.slice (some ⟨g, 0, none⟩) n c, .int .i64 ((a : Nat) : Int), .int .i64 ((b : Nat) : Int), .int .i64 ((lim : Nat) : Int)]) (I := Pm ⟨wbut w g, g⟩ (.row (.slice (some ⟨g, 0, none⟩) n c) 35 1 n (uv xs) :: oths g w)) Try.func58 rfl rfl rfl ?_ (Pm.rowStart h)
    refine TC.seq_ ?_
    refine TC.region ?_
    refine TL.val rfl rfl rfl (gives_assign rfl rfl) ?_
    refine TL.end_ ?_
    refine TX.then_ ?_
    refine TC.seq_ ?_
    refine TC.region ?_
    refine TL.val rfl rfl rfl (gives_assign rfl rfl) ?_
    refine TL.end_ ?_
    refine TX.then_ ?_
    refine TC.block ?_
    refine TC.loop_ (α := {y : Nat × Nat × Nat × Bool × Bool × List Int // y.2.2.1 ≤ 1000 ∧ Inv a b xs y.1 y.2.1 y.2.2.2.2.2}) (fun y => [(0, .slice (some ⟨g, 0, none⟩) n c), (1, .int .i64 ((y.1.1 : Nat) : Int)), (2, .int .i64 ((y.1.2.1 : Nat) : Int)), (3, .int .i64 ((y.1.2.2.1 : Nat) : Int)), (8, .bool y.1.2.2.2.1), (9, .bool y.1.2.2.2.2.1)]) (fun y => Pm ⟨wbut w g, g⟩ ([.row (.slice (some ⟨g, 0, none⟩) n c) 35 1 n (uv y.1.2.2.2.2.2)] ++ oths g w)) (fun y => y.1.2.1 - y.1.1) (⟨(a, b, lim, true, true, xs), hlim, Inv.start hab (by omega) hL⟩) ⟨rfl, rfl, rfl, rfl, rfl, rfl, trivial⟩ (fun w1 hw => hw) ?_
    rintro ⟨⟨a1, b1, lim1, wb, wp, ys⟩, hlm, hi⟩
    dsimp only at hlm hi ⊢
    have hly := hi.len
    have hia := hi.ha
    have hib := hi.hb
    have hiab := hi.ab
    refine TC.block ?_
    refine TC.seq_ ?_
    refine TC.region ?_
    refine TL.val rfl rfl rfl (gives_move rfl rfl) ?_
    refine TL.val rfl rfl rfl (gives_move rfl rfl) ?_
    refine TL.val rfl rfl rfl (gives_bin rfl rfl rfl (fun w => bin_sub_ (r := ((b1 - a1 : Nat) : Int)) (by simp only [IntKind.wrap_i64]; omega) w)) ?_
    refine TL.val rfl rfl rfl (gives_assign rfl rfl) ?_
    refine TL.end_ ?_
    refine TX.then_ ?_
    refine TC.seq_ ?_
    refine TC.seq_ ?_
    refine TC.region ?_
    refine TL.val rfl rfl rfl (gives_move rfl rfl) ?_
    refine TL.vsplit rfl rfl rfl (gives_bin rfl rfl rfl (fun w => bin_leq w)) (fun h23 => ?_) (fun h23 => ?_)
    · have q23 := of_decide_eq_true h23
      refine TL.end_ ?_
      refine TX.then_ ?_
      refine TC.condT rfl ?_
      refine TC.seq_ ?_
      refine TC.region ?_
      refine TL.val rfl rfl rfl (gives_move rfl rfl) ?_
      refine TL.val rfl rfl rfl (gives_move rfl rfl) ?_
      refine TL.val rfl rfl rfl (gives_move rfl rfl) ?_
      refine TL.pcallRw (k := 0) (α := Unit) (fun _ => .tuple #[]) (fun _ zs => Pin a1 b1 ys zs ∧ Srt a1 b1 zs) rfl rfl rfl rfl rfl Try.func62 us8nm62 us8bd62 rfl (fun w1 hw hr1 => ins_any g n c ys w1 hr1 hn a1 b1 hi.ab (by have := hi.hb; omega)) ?_
      rintro ⟨⟩ zs ⟨hQ, hS⟩
      try dsimp only [List.set_cons_zero, List.set_cons_succ]
      refine TL.end_ ?_
      refine TX.then_ ?_
      refine TC.ret_ ?_
      refine TX.then_ret ?_
      refine TX.in_ret ?_
      refine TX.then_ret ?_
      refine TX.in_ret ?_
      exact ret_none Try.results58 (fun w1 hw => ⟨(), zs, rfl, ⟨(hi.pin hQ).per, (hi.pin hQ).done hS⟩, pm_rowAt hw (k := 0) rfl, hw.mapEnd (fun q hq => by simp [hq])⟩)
    · have q23 := of_decide_eq_false h23
      refine TL.end_ ?_
      refine TX.then_ ?_
      refine TC.condF rfl ?_
      refine TC.skip_ ?_
      refine TX.then_ ?_
      refine TC.seq_ ?_
      refine TC.seq_ ?_
      refine TC.region ?_
      refine TL.val rfl rfl rfl (gives_move rfl rfl) ?_
      refine TL.vsplit rfl rfl rfl (gives_bin rfl rfl rfl (fun w => bin_eql w)) (fun h29 => ?_) (fun h29 => ?_)
      · have q29 := of_decide_eq_true h29
        refine TL.end_ ?_
        refine TX.then_ ?_
        refine TC.condT rfl ?_
        refine TC.seq_ ?_
        refine TC.region ?_
        refine TL.val rfl rfl rfl (gives_move rfl rfl) ?_
        refine TL.val rfl rfl rfl (gives_move rfl rfl) ?_
        refine TL.val rfl rfl rfl (gives_move rfl rfl) ?_
        refine TL.pcallRw (k := 0) (α := Unit) (fun _ => .tuple #[]) (fun _ zs => Pin a1 b1 ys zs ∧ Srt a1 b1 zs) rfl rfl rfl rfl rfl Try.func63 us8nm63 us8bd63 rfl (fun w1 hw hr1 => heap_any g n c ys w1 hr1 hn a1 b1 (by omega) (by have := hi.hb; omega)) ?_
        rintro ⟨⟩ zs ⟨hQ, hS⟩
        try dsimp only [List.set_cons_zero, List.set_cons_succ]
        refine TL.end_ ?_
        refine TX.then_ ?_
        refine TC.ret_ ?_
        refine TX.then_ret ?_
        refine TX.in_ret ?_
        refine TX.then_ret ?_
        refine TX.in_ret ?_
        exact ret_none Try.results58 (fun w1 hw => ⟨(), zs, rfl, ⟨(hi.pin hQ).per, (hi.pin hQ).done hS⟩, pm_rowAt hw (k := 0) rfl, hw.mapEnd (fun q hq => by simp [hq])⟩)
      · have q29 := of_decide_eq_false h29
        refine TL.end_ ?_
        refine TX.then_ ?_
        refine TC.condF rfl ?_
        refine TC.skip_ ?_
        refine TX.then_ ?_
        refine TC.join (α := {y : Nat × List Int // y.1 ≤ 1000 ∧ Inv a b xs a1 b1 y.2}) (fun y => [(0, .slice (some ⟨g, 0, none⟩) n c), (1, .int .i64 ((a1 : Nat) : Int)), (2, .int .i64 ((b1 : Nat) : Int)), (8, .bool wb), (9, .bool wp), (10, .int .i64 ((b1 - a1 : Nat) : Int)), (3, .int .i64 ((y.1.1 : Nat) : Int))]) (fun y => Pm ⟨wbut w g, g⟩ ([.row (.slice (some ⟨g, 0, none⟩) n c) 35 1 n (uv y.1.2)] ++ oths g w)) ?_ ?_
        · refine TC.seq_ ?_
          refine TC.region ?_
          refine TL.vsplit rfl rfl rfl (gives_move rfl rfl) (fun h34 => ?_) (fun h34 => ?_)
          · refine TL.val rfl rfl rfl (gives_boolnot rfl rfl) ?_
            refine TL.end_ ?_
            refine TX.then_ ?_
            refine TC.condF rfl ?_
            refine TC.skip_ ?_
            exact TX.joined (⟨(lim1, ys), by dsimp only; omega, hi⟩) (⟨rfl, rfl, rfl, rfl, rfl, rfl, rfl, trivial⟩) (fun w1 hw => hw)
          · refine TL.val rfl rfl rfl (gives_boolnot rfl rfl) ?_
            refine TL.end_ ?_
            refine TX.then_ ?_
            refine TC.condT rfl ?_
            refine TC.seq_ ?_
            refine TC.region ?_
            refine TL.val rfl rfl rfl (gives_move rfl rfl) ?_
            refine TL.val rfl rfl rfl (gives_move rfl rfl) ?_
            refine TL.val rfl rfl rfl (gives_move rfl rfl) ?_
            refine TL.pcallRw (k := 0) (α := Unit) (fun _ => .tuple #[]) (fun _ zs => Pin a1 b1 ys zs) rfl rfl rfl rfl rfl Try.func64 us8nm64 us8bd64 rfl (fun w1 hw hr1 => brk_any g n c ys w1 hr1 hn a1 b1 hi.ab (by have := hi.hb; omega)) ?_
            rintro ⟨⟩ zs hQ
            try dsimp only [List.set_cons_zero, List.set_cons_succ]
            have hiz := hi.pin hQ
            refine TL.end_ ?_
            refine TX.then_ ?_
            refine TC.region ?_
            refine TL.val rfl rfl rfl (gives_move rfl rfl) ?_
            refine TL.val rfl rfl rfl (gives_bin rfl rfl rfl (fun w => bin_sub_ (r := ((lim1 - 1 : Nat) : Int)) (by simp only [IntKind.wrap_i64]; omega) w)) ?_
            refine TL.val rfl rfl rfl (gives_assign rfl rfl) ?_
            refine TL.end_ ?_
            exact TX.joined (⟨(lim1 - 1, zs), by dsimp only; omega, hiz⟩) (⟨rfl, rfl, rfl, rfl, rfl, rfl, rfl, trivial⟩) (fun w1 hw => hw)
        · rintro ⟨⟨lim1, us⟩, hlm, hu⟩
          dsimp only at hlm hu ⊢
          have hlu := hu.len
          refine TC.seq_ ?_
          refine TC.region ?_
          refine TL.val rfl rfl rfl (gives_move rfl rfl) ?_
          refine TL.val rfl rfl rfl (gives_move rfl rfl) ?_
          refine TL.val rfl rfl rfl (gives_move rfl rfl) ?_
          refine TL.pcallPm (α := {y : Nat × Int // a1 ≤ y.1 ∧ y.1 < b1}) (fun y => .tuple #[.int .i64 ((y.1.1 : Nat) : Int), .int .i64 y.1.2]) (fun y => []) rfl rfl rfl rfl rfl Try.func65 us8nm65 us8bd65 (fun w1 hw => (cho_any g n c us w1 (pm_rowAt hw (k := 0) rfl) hn a1 b1 (by omega) (by have := hu.hb; omega)).mono fun e w2 ⟨x, h1, h2⟩ => ⟨x, h1, (Pm.start w1).below h2⟩) ?_
          rintro ⟨⟨pv, h⟩, hp1, hp2⟩
          dsimp only [List.cons_append, List.nil_append]
          dsimp only at hp1 hp2
          refine TL.val rfl rfl rfl (gives_move rfl rfl) ?_
          refine TL.val rfl rfl rfl (gives_extract rfl rfl rfl) ?_
          refine TL.val rfl rfl rfl (gives_extract rfl rfl rfl) ?_
          refine TL.val rfl rfl rfl (gives_assign rfl rfl) ?_
          refine TL.val rfl rfl rfl (gives_assign rfl rfl) ?_
          refine TL.end_ ?_
          refine TX.then_ ?_
          refine TC.join (α := {y : Nat × Int × List Int // (a1 ≤ y.1 ∧ y.1 < b1) ∧ Inv a b xs a1 b1 y.2.2}) (fun y => [(0, .slice (some ⟨g, 0, none⟩) n c), (1, .int .i64 ((a1 : Nat) : Int)), (2, .int .i64 ((b1 : Nat) : Int)), (8, .bool wb), (9, .bool wp), (10, .int .i64 ((b1 - a1 : Nat) : Int)), (3, .int .i64 ((lim1 : Nat) : Int)), (11, .int .i64 ((y.1.1 : Nat) : Int)), (12, .int .i64 y.1.2.1)]) (fun y => Pm ⟨wbut w g, g⟩ ([.row (.slice (some ⟨g, 0, none⟩) n c) 35 1 n (uv y.1.2.2)] ++ oths g w)) ?_ ?_
          · refine TC.seq_ ?_
            refine TC.region ?_
            refine TL.val rfl rfl rfl (gives_move rfl rfl) ?_
            refine TL.vsplit rfl rfl rfl (gives_bin rfl rfl rfl (fun w => bin_eql w)) (fun h50 => ?_) (fun h50 => ?_)
            · have q50 := of_decide_eq_true h50
              refine TL.end_ ?_
              refine TX.then_ ?_
              refine TC.condT rfl ?_
              refine TC.seq_ ?_
              refine TC.region ?_
              refine TL.val rfl rfl rfl (gives_move rfl rfl) ?_
              refine TL.val rfl rfl rfl (gives_move rfl rfl) ?_
              refine TL.val rfl rfl rfl (gives_move rfl rfl) ?_
              refine TL.pcallRw (k := 0) (α := Unit) (fun _ => .tuple #[]) (fun _ zs => Pin a1 b1 us zs) rfl rfl rfl rfl rfl Try.func66 us8nm66 us8bd66 rfl (fun w1 hw hr1 => rev_any g n c us w1 hr1 hn a1 b1 (by omega) (by have := hu.hb; omega)) ?_
              rintro ⟨⟩ zs hQ
              try dsimp only [List.set_cons_zero, List.set_cons_succ]
              have hiz := hu.pin hQ
              refine TL.end_ ?_
              refine TX.then_ ?_
              refine TC.seq_ ?_
              refine TC.region ?_
              refine TL.val rfl rfl rfl (gives_move rfl rfl) ?_
              refine TL.val rfl rfl rfl (gives_bin rfl rfl rfl (fun w => bin_sub_ (r := ((b1 - 1 : Nat) : Int)) (by simp only [IntKind.wrap_i64]; omega) w)) ?_
              refine TL.val rfl rfl rfl (gives_move rfl rfl) ?_
              refine TL.val rfl rfl rfl (gives_move rfl rfl) ?_
              refine TL.val rfl rfl rfl (gives_bin rfl rfl rfl (fun w => bin_sub_ (r := ((pv - a1 : Nat) : Int)) (by simp only [IntKind.wrap_i64]; omega) w)) ?_
              refine TL.val rfl rfl rfl (gives_bin rfl rfl rfl (fun w => bin_sub_ (r := (((b1 - 1) - (pv - a1) : Nat) : Int)) (by simp only [IntKind.wrap_i64]; omega) w)) ?_
              refine TL.val rfl rfl rfl (gives_assign rfl rfl) ?_
              refine TL.end_ ?_
              refine TX.then_ ?_
              refine TC.region ?_
              refine TL.val rfl rfl rfl (gives_assign rfl rfl) ?_
              refine TL.end_ ?_
              exact TX.joined (⟨((b1 - 1) - (pv - a1), 1, zs), by dsimp only; omega, hiz⟩) (⟨rfl, rfl, rfl, rfl, rfl, rfl, rfl, rfl, rfl, trivial⟩) (fun w1 hw => hw)
            · have q50 := of_decide_eq_false h50
              refine TL.end_ ?_
              refine TX.then_ ?_
              refine TC.condF rfl ?_
              refine TC.skip_ ?_
              exact TX.joined (⟨(pv, h, us), by dsimp only; omega, hu⟩) (⟨rfl, rfl, rfl, rfl, rfl, rfl, rfl, rfl, rfl, trivial⟩) (fun w1 hw => hw)
          · rintro ⟨⟨pw, h2, vs⟩, ⟨hp1, hp2⟩, hv⟩
            dsimp only at hp1 hp2 hv ⊢
            have hlv := hv.len
            refine TC.join (α := {y : List Int // Inv a b xs a1 b1 y}) (fun y => [(0, .slice (some ⟨g, 0, none⟩) n c), (1, .int .i64 ((a1 : Nat) : Int)), (2, .int .i64 ((b1 : Nat) : Int)), (8, .bool wb), (9, .bool wp), (10, .int .i64 ((b1 - a1 : Nat) : Int)), (3, .int .i64 ((lim1 : Nat) : Int)), (11, .int .i64 ((pw : Nat) : Int))]) (fun y => Pm ⟨wbut w g, g⟩ ([.row (.slice (some ⟨g, 0, none⟩) n c) 35 1 n (uv y.1)] ++ oths g w)) ?_ ?_
            · refine TC.seq_ ?_
              refine TC.region ?_
              refine TL.vsplit rfl rfl rfl (gives_move rfl rfl) (fun h61 => ?_) (fun h61 => ?_)
              · refine TL.val rfl rfl rfl (gives_move rfl rfl) ?_
                refine TL.on rfl rfl rfl ?_
                refine TL.vsplit rfl rfl rfl (gives_move rfl rfl) (fun h63 => ?_) (fun h63 => ?_)
                · refine TL.val rfl rfl rfl (gives_pick rfl rfl rfl) ?_
                  refine TL.val rfl rfl rfl (gives_move rfl rfl) ?_
                  refine TL.on rfl rfl rfl ?_
                  refine TL.val rfl rfl rfl (gives_move rfl rfl) ?_
                  refine TL.on rfl rfl rfl ?_
                  refine TL.vsplit rfl rfl rfl (gives_bin rfl rfl rfl (fun w => bin_eql w)) (fun h67 => ?_) (fun h67 => ?_)
                  · have q67 := of_decide_eq_true h67
                    refine TL.val rfl rfl rfl (gives_pick rfl rfl rfl) ?_
                    refine TL.end_ ?_
                    refine TX.then_ ?_
                    refine TC.condT rfl ?_
                    refine TC.seq_ ?_
                    refine TC.region ?_
                    refine TL.val rfl rfl rfl (gives_move rfl rfl) ?_
                    refine TL.val rfl rfl rfl (gives_move rfl rfl) ?_
                    refine TL.val rfl rfl rfl (gives_move rfl rfl) ?_
                    refine TL.pcallRw (k := 0) (α := Bool) (fun x => .bool x) (fun x zs => Pin a1 b1 vs zs ∧ (x = true → Srt a1 b1 zs)) rfl rfl rfl rfl rfl Try.func67 us8nm67 us8bd67 rfl (fun w1 hw hr1 => pis_any g n c vs w1 hr1 hn a1 b1 (by omega) (by have := hv.hb; omega) hv.low) ?_
                    rintro r zs ⟨hQ, hS⟩
                    try dsimp only [List.set_cons_zero, List.set_cons_succ]
                    have hiz := hv.pin hQ
                    refine TL.end_ ?_
                    refine TX.then_ ?_
                    refine TC.split (t := r) rfl (fun c72 => ?_) (fun c72 => ?_)
                    · refine TC.ret_ ?_
                      refine TX.then_ret ?_
                      refine TX.in_ret ?_
                      refine TX.then_ret ?_
                      refine TX.in_ret ?_
                      exact ret_none Try.results58 (fun w1 hw => ⟨(), zs, rfl, ⟨(hv.pin hQ).per, (hv.pin hQ).done (hS c72)⟩, pm_rowAt hw (k := 0) rfl, hw.mapEnd (fun q hq => by simp [hq])⟩)
                    · refine TC.skip_ ?_
                      exact TX.joined (⟨zs, hiz⟩) (⟨rfl, rfl, rfl, rfl, rfl, rfl, rfl, rfl, trivial⟩) (fun w1 hw => hw)
                  · have q67 := of_decide_eq_false h67
                    refine TL.val rfl rfl rfl (gives_pick rfl rfl rfl) ?_
                    refine TL.end_ ?_
                    refine TX.then_ ?_
                    refine TC.condF rfl ?_
                    refine TC.skip_ ?_
                    exact TX.joined (⟨vs, hv⟩) (⟨rfl, rfl, rfl, rfl, rfl, rfl, rfl, rfl, trivial⟩) (fun w1 hw => hw)
                · refine TL.val rfl rfl rfl (gives_pick rfl rfl rfl) ?_
                  refine TL.val rfl rfl rfl (gives_move rfl rfl) ?_
                  refine TL.off rfl rfl rfl rfl rfl rfl ?_
                  refine TL.off rfl rfl rfl rfl rfl rfl ?_
                  refine TL.val rfl rfl rfl (gives_pick rfl rfl rfl) ?_
                  refine TL.end_ ?_
                  refine TX.then_ ?_
                  refine TC.condF rfl ?_
                  refine TC.skip_ ?_
                  exact TX.joined (⟨vs, hv⟩) (⟨rfl, rfl, rfl, rfl, rfl, rfl, rfl, rfl, trivial⟩) (fun w1 hw => hw)
              · refine TL.val rfl rfl rfl (gives_move rfl rfl) ?_
                refine TL.off rfl rfl rfl rfl rfl rfl ?_
                refine TL.val rfl rfl rfl (gives_pick rfl rfl rfl) ?_
                refine TL.val rfl rfl rfl (gives_move rfl rfl) ?_
                refine TL.off rfl rfl rfl rfl rfl rfl ?_
                refine TL.off rfl rfl rfl rfl rfl rfl ?_
                refine TL.val rfl rfl rfl (gives_pick rfl rfl rfl) ?_
                refine TL.end_ ?_
                refine TX.then_ ?_
                refine TC.condF rfl ?_
                refine TC.skip_ ?_
                exact TX.joined (⟨vs, hv⟩) (⟨rfl, rfl, rfl, rfl, rfl, rfl, rfl, rfl, trivial⟩) (fun w1 hw => hw)
            · rintro ⟨ts, hT⟩
              try dsimp only
              have hlt := hT.len
              refine TC.seq_ ?_
              refine TC.seq_ ?_
              have hway : ¬ 0 < a1 ∨ (0 < a1 ∧ dx ts (a1 - 1) < dx ts pw) ∨ (0 < a1 ∧ ¬ dx ts (a1 - 1) < dx ts pw) := by omega
              rcases hway with p1 | ⟨p1, p2⟩ | ⟨p1, p2⟩
              · have hTb := hT.hb
                refine TC.quiet_ (E' := ?_) (by kernel_rfl) (by kernel_rfl) (fun w hw => hw.drawn _) ?_ ?_
                rotate_left
                · refine TQ.val rfl rfl rfl (gives_move rfl rfl) ?_
                  refine TQ.val rfl rfl rfl (gives_bin rfl rfl rfl (fun w => bin_gtr_f (by omega) w)) ?_
                  refine TQ.val rfl rfl rfl (gives_move rfl rfl) ?_
                  refine TQ.off rfl rfl rfl rfl rfl rfl ?_
                  refine TQ.off rfl rfl rfl rfl rfl rfl ?_
                  refine TQ.off rfl rfl rfl rfl rfl rfl ?_
                  refine TQ.off rfl rfl rfl rfl rfl rfl ?_
                  refine TQ.off rfl rfl rfl rfl rfl rfl ?_
                  refine TQ.off rfl rfl rfl rfl rfl rfl ?_
                  refine TQ.off rfl rfl rfl rfl rfl rfl ?_
                  refine TQ.off rfl rfl rfl rfl rfl rfl ?_
                  refine TQ.off rfl rfl rfl rfl rfl rfl ?_
                  refine TQ.off rfl rfl rfl rfl rfl rfl ?_
                  refine TQ.off rfl rfl rfl rfl rfl rfl ?_
                  refine TQ.val rfl rfl rfl (gives_pick rfl rfl rfl) ?_
                  exact TQ.end_
                refine TX.then_ ?_
                refine TC.condF rfl ?_
                refine TC.skip_ ?_
                refine TX.then_ ?_
                refine TC.seq_ ?_
                refine TC.region ?_
                refine TL.val rfl rfl rfl (gives_move rfl rfl) ?_
                refine TL.val rfl rfl rfl (gives_move rfl rfl) ?_
                refine TL.val rfl rfl rfl (gives_move rfl rfl) ?_
                refine TL.val rfl rfl rfl (gives_move rfl rfl) ?_
                refine TL.pcallRw (k := 0) (α := Nat × Bool) (fun x => .tuple #[.int .i64 ((x.1 : Nat) : Int), .bool x.2]) (fun x zs => Pin a1 b1 ts zs ∧ Mid a1 b1 x.1 zs) rfl rfl rfl rfl rfl Try.func70 us8nm70 us8bd70 rfl (fun w1 hw hr1 => part_any g n c ts w1 hr1 hn a1 b1 pw hp1 hp2 (by have := hT.hb; omega)) ?_
                rintro ⟨m, al⟩ zs ⟨hQ, hM⟩
                try dsimp only [List.set_cons_zero, List.set_cons_succ]
                dsimp only at hM
                have hiz := hT.pin hQ
                have hmm := hM.hm
                have hzl := hiz.len
                refine TL.val rfl rfl rfl (gives_move rfl rfl) ?_
                refine TL.val rfl rfl rfl (gives_extract rfl rfl rfl) ?_
                refine TL.val rfl rfl rfl (gives_extract rfl rfl rfl) ?_
                refine TL.val rfl rfl rfl (gives_assign rfl rfl) ?_
                refine TL.val rfl rfl rfl (gives_assign rfl rfl) ?_
                refine TL.end_ ?_
                refine TX.then_ ?_
                refine TC.seq_ ?_
                refine TC.region ?_
                refine TL.val rfl rfl rfl (gives_move rfl rfl) ?_
                refine TL.val rfl rfl rfl (gives_assign rfl rfl) ?_
                refine TL.end_ ?_
                refine TX.then_ ?_
                refine TC.seq_ ?_
                refine TC.region ?_
                refine TL.val rfl rfl rfl (gives_move rfl rfl) ?_
                refine TL.val rfl rfl rfl (gives_move rfl rfl) ?_
                refine TL.val rfl rfl rfl (gives_bin rfl rfl rfl (fun w => bin_sub_ (r := ((m - a1 : Nat) : Int)) (by simp only [IntKind.wrap_i64]; omega) w)) ?_
                refine TL.val rfl rfl rfl (gives_move rfl rfl) ?_
                refine TL.val rfl rfl rfl (gives_move rfl rfl) ?_
                refine TL.val rfl rfl rfl (gives_bin rfl rfl rfl (fun w => bin_sub_ (r := ((b1 - m : Nat) : Int)) (by simp only [IntKind.wrap_i64]; omega) w)) ?_
                refine TL.val rfl rfl rfl (gives_assign rfl rfl) ?_
                refine TL.val rfl rfl rfl (gives_assign rfl rfl) ?_
                refine TL.end_ ?_
                refine TX.then_ ?_
                refine TC.seq_ ?_
                refine TC.region ?_
                refine TL.val rfl rfl rfl (gives_move rfl rfl) ?_
                refine TL.val rfl rfl rfl (gives_bin rfl rfl rfl (fun w => bin_quoi_ (r := (((b1 - a1) / 8 : Nat) : Int)) (by omega) (by omega) (by omega) (by omega) w)) ?_
                refine TL.val rfl rfl rfl (gives_assign rfl rfl) ?_
                refine TL.end_ ?_
                refine TX.then_ ?_
                refine TC.seq_ ?_
                refine TC.region ?_
                refine TL.val rfl rfl rfl (gives_move rfl rfl) ?_
                refine TL.val rfl rfl rfl (gives_move rfl rfl) ?_
                refine TL.vsplit rfl rfl rfl (gives_bin rfl rfl rfl (fun w => bin_lss w)) (fun h113 => ?_) (fun h113 => ?_)
                · have q113 := of_decide_eq_true h113
                  refine TL.end_ ?_
                  refine TX.then_ ?_
                  refine TC.condT rfl ?_
                  refine TC.seq_ ?_
                  refine TC.region ?_
                  refine TL.val rfl rfl rfl (gives_move rfl rfl) ?_
                  refine TL.val rfl rfl rfl (gives_move rfl rfl) ?_
                  refine TL.val rfl rfl rfl (gives_bin rfl rfl rfl (fun w => bin_geq w)) ?_
                  refine TL.val rfl rfl rfl (gives_assign rfl rfl) ?_
                  refine TL.end_ ?_
                  refine TX.then_ ?_
                  refine TC.seq_ ?_
                  refine TC.region ?_
                  refine TL.val rfl rfl rfl (gives_move rfl rfl) ?_
                  refine TL.val rfl rfl rfl (gives_move rfl rfl) ?_
                  refine TL.val rfl rfl rfl (gives_move rfl rfl) ?_
                  refine TL.val rfl rfl rfl (gives_move rfl rfl) ?_
                  refine TL.pcallRw (k := 0) (α := Unit) (fun _ => .tuple #[]) (fun _ us => Pin a1 m zs us ∧ Srt a1 m us) rfl rfl rfl rfl rfl Try.func58 us8nm58 us8bd58 rfl (fun w1 hw hr1 => ih a1 m lim1 zs w1 hr1 (by omega) (by omega) (fun p q h1 h2 h3 => hiz.low p q h1 h2 (by omega)) hlm (by omega)) ?_
                  rintro ⟨⟩ us ⟨hQ2, hS2⟩
                  try dsimp only [List.set_cons_zero, List.set_cons_succ]
                  have hix : Inv a b xs (m + 1) b1 us := hiz.left hM hQ2 hS2
                  refine TL.end_ ?_
                  refine TX.then_ ?_
                  refine TC.region ?_
                  refine TL.val rfl rfl rfl (gives_move rfl rfl) ?_
                  refine TL.val rfl rfl rfl (gives_bin rfl rfl rfl (fun w => bin_add_ (r := ((m + 1 : Nat) : Int)) (by simp only [IntKind.wrap_i64]; omega) w)) ?_
                  refine TL.val rfl rfl rfl (gives_assign rfl rfl) ?_
                  refine TL.end_ ?_
                  refine TX.in_normal ?_
                  exact TX.round (⟨(m + 1, b1, lim1, decide (((m - a1 : Nat) : Int) ≥ (((b1 - a1) / 8 : Nat) : Int)), al, us), hlm, hix⟩) (by dsimp only; omega) ⟨rfl, rfl, rfl, rfl, rfl, rfl, trivial⟩ (fun w1 hw => hw)
                · have q113 := of_decide_eq_false h113
                  refine TL.end_ ?_
                  refine TX.then_ ?_
                  refine TC.condF rfl ?_
                  refine TC.seq_ ?_
                  refine TC.region ?_
                  refine TL.val rfl rfl rfl (gives_move rfl rfl) ?_
                  refine TL.val rfl rfl rfl (gives_move rfl rfl) ?_
                  refine TL.val rfl rfl rfl (gives_bin rfl rfl rfl (fun w => bin_geq w)) ?_
                  refine TL.val rfl rfl rfl (gives_assign rfl rfl) ?_
                  refine TL.end_ ?_
                  refine TX.then_ ?_
                  refine TC.seq_ ?_
                  refine TC.region ?_
                  refine TL.val rfl rfl rfl (gives_move rfl rfl) ?_
                  refine TL.val rfl rfl rfl (gives_move rfl rfl) ?_
                  refine TL.val rfl rfl rfl (gives_bin rfl rfl rfl (fun w => bin_add_ (r := ((m + 1 : Nat) : Int)) (by simp only [IntKind.wrap_i64]; omega) w)) ?_
                  refine TL.val rfl rfl rfl (gives_move rfl rfl) ?_
                  refine TL.val rfl rfl rfl (gives_move rfl rfl) ?_
                  refine TL.pcallRw (k := 0) (α := Unit) (fun _ => .tuple #[]) (fun _ us => Pin (m + 1) b1 zs us ∧ Srt (m + 1) b1 us) rfl rfl rfl rfl rfl Try.func58 us8nm58 us8bd58 rfl (fun w1 hw hr1 => ih (m + 1) b1 lim1 zs w1 hr1 (by omega) (by have := hiz.hb; omega) (Low.right0 hM) hlm (by omega)) ?_
                  rintro ⟨⟩ us ⟨hQ2, hS2⟩
                  try dsimp only [List.set_cons_zero, List.set_cons_succ]
                  have hix : Inv a b xs a1 m us := hiz.right hM hQ2 hS2
                  refine TL.end_ ?_
                  refine TX.then_ ?_
                  refine TC.region ?_
                  refine TL.val rfl rfl rfl (gives_move rfl rfl) ?_
                  refine TL.val rfl rfl rfl (gives_assign rfl rfl) ?_
                  refine TL.end_ ?_
                  refine TX.in_normal ?_
                  exact TX.round (⟨(a1, m, lim1, decide (((b1 - m : Nat) : Int) ≥ (((b1 - a1) / 8 : Nat) : Int)), al, us), hlm, hix⟩) (by dsimp only; omega) ⟨rfl, rfl, rfl, rfl, rfl, rfl, trivial⟩ (fun w1 hw => hw)
              · have hTb := hT.hb
                refine TC.quiet_ (E' := ?_) (by kernel_rfl) (by kernel_rfl) (fun w hw => hw.drawn _) ?_ ?_
                rotate_left
                · refine TQ.val rfl rfl rfl (gives_move rfl rfl) ?_
                  refine TQ.val rfl rfl rfl (gives_bin rfl rfl rfl (fun w => bin_gtr_t (by omega) w)) ?_
                  refine TQ.val rfl rfl rfl (gives_move rfl rfl) ?_
                  refine TQ.on rfl rfl rfl ?_
                  refine TQ.val rfl rfl rfl (gives_move rfl rfl) ?_
                  refine TQ.on rfl rfl rfl ?_
                  refine TQ.val rfl rfl rfl (gives_move rfl rfl) ?_
                  refine TQ.on rfl rfl rfl ?_
                  refine TQ.val rfl rfl rfl (gives_bin rfl rfl rfl (fun w => bin_sub_ (r := ((a1 - 1 : Nat) : Int)) (by simp only [IntKind.wrap_i64]; omega) w)) ?_
                  refine TQ.on rfl rfl rfl ?_
                  refine TQ.val rfl rfl rfl (gives_at (v := .pointer (some ⟨g, a1 - 1, none⟩)) rfl rfl rfl (fun w => at_row Try.underlying31 us8sz35 g _ _ (a1 - 1) (by omega) rfl w)) ?_
                  refine TQ.on rfl rfl rfl ?_
                  refine TQ.val rfl rfl rfl (pm_loadU (k := 0) (i := a1 - 1) rfl rfl us8ag35 rfl (by omega)) ?_
                  refine TQ.on rfl rfl rfl ?_
                  refine TQ.val rfl rfl rfl (gives_move rfl rfl) ?_
                  refine TQ.on rfl rfl rfl ?_
                  refine TQ.val rfl rfl rfl (gives_move rfl rfl) ?_
                  refine TQ.on rfl rfl rfl ?_
                  refine TQ.val rfl rfl rfl (gives_at (v := .pointer (some ⟨g, pw, none⟩)) rfl rfl rfl (fun w => at_row Try.underlying31 us8sz35 g _ _ pw (by omega) rfl w)) ?_
                  refine TQ.on rfl rfl rfl ?_
                  refine TQ.val rfl rfl rfl (pm_loadU (k := 0) (i := pw) rfl rfl us8ag35 rfl (by omega)) ?_
                  refine TQ.on rfl rfl rfl ?_
                  refine TQ.call (v := .bool true) rfl rfl rfl rfl rfl Try.func68 us8nm68 us8bd68 (fun w1 hw => (less_t _ _ p2 w1).mono fun en w2 ⟨h1, h2⟩ => ⟨h1, hw.below h2⟩) ?_
                  refine TQ.on rfl rfl rfl ?_
                  refine TQ.val rfl rfl rfl (gives_boolnot rfl rfl) ?_
                  refine TQ.val rfl rfl rfl (gives_pick rfl rfl rfl) ?_
                  exact TQ.end_
                refine TX.then_ ?_
                refine TC.condF rfl ?_
                refine TC.skip_ ?_
                refine TX.then_ ?_
                refine TC.seq_ ?_
                refine TC.region ?_
                refine TL.val rfl rfl rfl (gives_move rfl rfl) ?_
                refine TL.val rfl rfl rfl (gives_move rfl rfl) ?_
                refine TL.val rfl rfl rfl (gives_move rfl rfl) ?_
                refine TL.val rfl rfl rfl (gives_move rfl rfl) ?_
                refine TL.pcallRw (k := 0) (α := Nat × Bool) (fun x => .tuple #[.int .i64 ((x.1 : Nat) : Int), .bool x.2]) (fun x zs => Pin a1 b1 ts zs ∧ Mid a1 b1 x.1 zs) rfl rfl rfl rfl rfl Try.func70 us8nm70 us8bd70 rfl (fun w1 hw hr1 => part_any g n c ts w1 hr1 hn a1 b1 pw hp1 hp2 (by have := hT.hb; omega)) ?_
                rintro ⟨m, al⟩ zs ⟨hQ, hM⟩
                try dsimp only [List.set_cons_zero, List.set_cons_succ]
                dsimp only at hM
                have hiz := hT.pin hQ
                have hmm := hM.hm
                have hzl := hiz.len
                refine TL.val rfl rfl rfl (gives_move rfl rfl) ?_
                refine TL.val rfl rfl rfl (gives_extract rfl rfl rfl) ?_
                refine TL.val rfl rfl rfl (gives_extract rfl rfl rfl) ?_
                refine TL.val rfl rfl rfl (gives_assign rfl rfl) ?_
                refine TL.val rfl rfl rfl (gives_assign rfl rfl) ?_
                refine TL.end_ ?_
                refine TX.then_ ?_
                refine TC.seq_ ?_
                refine TC.region ?_
                refine TL.val rfl rfl rfl (gives_move rfl rfl) ?_
                refine TL.val rfl rfl rfl (gives_assign rfl rfl) ?_
                refine TL.end_ ?_
                refine TX.then_ ?_
                refine TC.seq_ ?_
                refine TC.region ?_
                refine TL.val rfl rfl rfl (gives_move rfl rfl) ?_
                refine TL.val rfl rfl rfl (gives_move rfl rfl) ?_
                refine TL.val rfl rfl rfl (gives_bin rfl rfl rfl (fun w => bin_sub_ (r := ((m - a1 : Nat) : Int)) (by simp only [IntKind.wrap_i64]; omega) w)) ?_
                refine TL.val rfl rfl rfl (gives_move rfl rfl) ?_
                refine TL.val rfl rfl rfl (gives_move rfl rfl) ?_
                refine TL.val rfl rfl rfl (gives_bin rfl rfl rfl (fun w => bin_sub_ (r := ((b1 - m : Nat) : Int)) (by simp only [IntKind.wrap_i64]; omega) w)) ?_
                refine TL.val rfl rfl rfl (gives_assign rfl rfl) ?_
                refine TL.val rfl rfl rfl (gives_assign rfl rfl) ?_
                refine TL.end_ ?_
                refine TX.then_ ?_
                refine TC.seq_ ?_
                refine TC.region ?_
                refine TL.val rfl rfl rfl (gives_move rfl rfl) ?_
                refine TL.val rfl rfl rfl (gives_bin rfl rfl rfl (fun w => bin_quoi_ (r := (((b1 - a1) / 8 : Nat) : Int)) (by omega) (by omega) (by omega) (by omega) w)) ?_
                refine TL.val rfl rfl rfl (gives_assign rfl rfl) ?_
                refine TL.end_ ?_
                refine TX.then_ ?_
                refine TC.seq_ ?_
                refine TC.region ?_
                refine TL.val rfl rfl rfl (gives_move rfl rfl) ?_
                refine TL.val rfl rfl rfl (gives_move rfl rfl) ?_
                refine TL.vsplit rfl rfl rfl (gives_bin rfl rfl rfl (fun w => bin_lss w)) (fun h113 => ?_) (fun h113 => ?_)
                · have q113 := of_decide_eq_true h113
                  refine TL.end_ ?_
                  refine TX.then_ ?_
                  refine TC.condT rfl ?_
                  refine TC.seq_ ?_
                  refine TC.region ?_
                  refine TL.val rfl rfl rfl (gives_move rfl rfl) ?_
                  refine TL.val rfl rfl rfl (gives_move rfl rfl) ?_
                  refine TL.val rfl rfl rfl (gives_bin rfl rfl rfl (fun w => bin_geq w)) ?_
                  refine TL.val rfl rfl rfl (gives_assign rfl rfl) ?_
                  refine TL.end_ ?_
                  refine TX.then_ ?_
                  refine TC.seq_ ?_
                  refine TC.region ?_
                  refine TL.val rfl rfl rfl (gives_move rfl rfl) ?_
                  refine TL.val rfl rfl rfl (gives_move rfl rfl) ?_
                  refine TL.val rfl rfl rfl (gives_move rfl rfl) ?_
                  refine TL.val rfl rfl rfl (gives_move rfl rfl) ?_
                  refine TL.pcallRw (k := 0) (α := Unit) (fun _ => .tuple #[]) (fun _ us => Pin a1 m zs us ∧ Srt a1 m us) rfl rfl rfl rfl rfl Try.func58 us8nm58 us8bd58 rfl (fun w1 hw hr1 => ih a1 m lim1 zs w1 hr1 (by omega) (by omega) (fun p q h1 h2 h3 => hiz.low p q h1 h2 (by omega)) hlm (by omega)) ?_
                  rintro ⟨⟩ us ⟨hQ2, hS2⟩
                  try dsimp only [List.set_cons_zero, List.set_cons_succ]
                  have hix : Inv a b xs (m + 1) b1 us := hiz.left hM hQ2 hS2
                  refine TL.end_ ?_
                  refine TX.then_ ?_
                  refine TC.region ?_
                  refine TL.val rfl rfl rfl (gives_move rfl rfl) ?_
                  refine TL.val rfl rfl rfl (gives_bin rfl rfl rfl (fun w => bin_add_ (r := ((m + 1 : Nat) : Int)) (by simp only [IntKind.wrap_i64]; omega) w)) ?_
                  refine TL.val rfl rfl rfl (gives_assign rfl rfl) ?_
                  refine TL.end_ ?_
                  refine TX.in_normal ?_
                  exact TX.round (⟨(m + 1, b1, lim1, decide (((m - a1 : Nat) : Int) ≥ (((b1 - a1) / 8 : Nat) : Int)), al, us), hlm, hix⟩) (by dsimp only; omega) ⟨rfl, rfl, rfl, rfl, rfl, rfl, trivial⟩ (fun w1 hw => hw)
                · have q113 := of_decide_eq_false h113
                  refine TL.end_ ?_
                  refine TX.then_ ?_
                  refine TC.condF rfl ?_
                  refine TC.seq_ ?_
                  refine TC.region ?_
                  refine TL.val rfl rfl rfl (gives_move rfl rfl) ?_
                  refine TL.val rfl rfl rfl (gives_move rfl rfl) ?_
                  refine TL.val rfl rfl rfl (gives_bin rfl rfl rfl (fun w => bin_geq w)) ?_
                  refine TL.val rfl rfl rfl (gives_assign rfl rfl) ?_
                  refine TL.end_ ?_
                  refine TX.then_ ?_
                  refine TC.seq_ ?_
                  refine TC.region ?_
                  refine TL.val rfl rfl rfl (gives_move rfl rfl) ?_
                  refine TL.val rfl rfl rfl (gives_move rfl rfl) ?_
                  refine TL.val rfl rfl rfl (gives_bin rfl rfl rfl (fun w => bin_add_ (r := ((m + 1 : Nat) : Int)) (by simp only [IntKind.wrap_i64]; omega) w)) ?_
                  refine TL.val rfl rfl rfl (gives_move rfl rfl) ?_
                  refine TL.val rfl rfl rfl (gives_move rfl rfl) ?_
                  refine TL.pcallRw (k := 0) (α := Unit) (fun _ => .tuple #[]) (fun _ us => Pin (m + 1) b1 zs us ∧ Srt (m + 1) b1 us) rfl rfl rfl rfl rfl Try.func58 us8nm58 us8bd58 rfl (fun w1 hw hr1 => ih (m + 1) b1 lim1 zs w1 hr1 (by omega) (by have := hiz.hb; omega) (Low.right0 hM) hlm (by omega)) ?_
                  rintro ⟨⟩ us ⟨hQ2, hS2⟩
                  try dsimp only [List.set_cons_zero, List.set_cons_succ]
                  have hix : Inv a b xs a1 m us := hiz.right hM hQ2 hS2
                  refine TL.end_ ?_
                  refine TX.then_ ?_
                  refine TC.region ?_
                  refine TL.val rfl rfl rfl (gives_move rfl rfl) ?_
                  refine TL.val rfl rfl rfl (gives_assign rfl rfl) ?_
                  refine TL.end_ ?_
                  refine TX.in_normal ?_
                  exact TX.round (⟨(a1, m, lim1, decide (((b1 - m : Nat) : Int) ≥ (((b1 - a1) / 8 : Nat) : Int)), al, us), hlm, hix⟩) (by dsimp only; omega) ⟨rfl, rfl, rfl, rfl, rfl, rfl, trivial⟩ (fun w1 hw => hw)
              · have hTb := hT.hb
                have hmin : ∀ k, a1 ≤ k → k < b1 → dx ts pw ≤ dx ts k := fun k k1 k2 => by have := hT.low (a1 - 1) k (by omega) k1 k2; omega
                refine TC.quiet_ (E' := ?_) (by kernel_rfl) (by kernel_rfl) (fun w hw => hw.drawn _) ?_ ?_
                rotate_left
                · refine TQ.val rfl rfl rfl (gives_move rfl rfl) ?_
                  refine TQ.val rfl rfl rfl (gives_bin rfl rfl rfl (fun w => bin_gtr_t (by omega) w)) ?_
                  refine TQ.val rfl rfl rfl (gives_move rfl rfl) ?_
                  refine TQ.on rfl rfl rfl ?_
                  refine TQ.val rfl rfl rfl (gives_move rfl rfl) ?_
                  refine TQ.on rfl rfl rfl ?_
                  refine TQ.val rfl rfl rfl (gives_move rfl rfl) ?_
                  refine TQ.on rfl rfl rfl ?_
                  refine TQ.val rfl rfl rfl (gives_bin rfl rfl rfl (fun w => bin_sub_ (r := ((a1 - 1 : Nat) : Int)) (by simp only [IntKind.wrap_i64]; omega) w)) ?_
                  refine TQ.on rfl rfl rfl ?_
                  refine TQ.val rfl rfl rfl (gives_at (v := .pointer (some ⟨g, a1 - 1, none⟩)) rfl rfl rfl (fun w => at_row Try.underlying31 us8sz35 g _ _ (a1 - 1) (by omega) rfl w)) ?_
                  refine TQ.on rfl rfl rfl ?_
                  refine TQ.val rfl rfl rfl (pm_loadU (k := 0) (i := a1 - 1) rfl rfl us8ag35 rfl (by omega)) ?_
                  refine TQ.on rfl rfl rfl ?_
                  refine TQ.val rfl rfl rfl (gives_move rfl rfl) ?_
                  refine TQ.on rfl rfl rfl ?_
                  refine TQ.val rfl rfl rfl (gives_move rfl rfl) ?_
                  refine TQ.on rfl rfl rfl ?_
                  refine TQ.val rfl rfl rfl (gives_at (v := .pointer (some ⟨g, pw, none⟩)) rfl rfl rfl (fun w => at_row Try.underlying31 us8sz35 g _ _ pw (by omega) rfl w)) ?_
                  refine TQ.on rfl rfl rfl ?_
                  refine TQ.val rfl rfl rfl (pm_loadU (k := 0) (i := pw) rfl rfl us8ag35 rfl (by omega)) ?_
                  refine TQ.on rfl rfl rfl ?_
                  refine TQ.call (v := .bool false) rfl rfl rfl rfl rfl Try.func68 us8nm68 us8bd68 (fun w1 hw => (less_f _ _ p2 w1).mono fun en w2 ⟨h1, h2⟩ => ⟨h1, hw.below h2⟩) ?_
                  refine TQ.on rfl rfl rfl ?_
                  refine TQ.val rfl rfl rfl (gives_boolnot rfl rfl) ?_
                  refine TQ.val rfl rfl rfl (gives_pick rfl rfl rfl) ?_
                  exact TQ.end_
                refine TX.then_ ?_
                refine TC.condT rfl ?_
                refine TC.seq_ ?_
                refine TC.region ?_
                refine TL.val rfl rfl rfl (gives_move rfl rfl) ?_
                refine TL.val rfl rfl rfl (gives_move rfl rfl) ?_
                refine TL.val rfl rfl rfl (gives_move rfl rfl) ?_
                refine TL.val rfl rfl rfl (gives_move rfl rfl) ?_
                refine TL.pcallRw (k := 0) (α := Nat) (fun x => .int .i64 ((x : Nat) : Int)) (fun x zs => Pin a1 b1 ts zs ∧ Eqs a1 b1 x zs ∧ Mn a1 b1 zs) rfl rfl rfl rfl rfl Try.func69 us8nm69 us8bd69 rfl (fun w1 hw hr1 => peq_any g n c ts w1 hr1 hn a1 b1 pw hp1 hp2 (by have := hT.hb; omega) hmin) ?_
                rintro m zs ⟨hQ, hE, hM⟩
                try dsimp only [List.set_cons_zero, List.set_cons_succ]
                have hiz : Inv a b xs m b1 zs := (hT.pin hQ).eqs hE hM
                have hme := hE.hm
                refine TL.val rfl rfl rfl (gives_assign rfl rfl) ?_
                refine TL.end_ ?_
                refine TX.then_ ?_
                refine TC.seq_ ?_
                refine TC.region ?_
                refine TL.val rfl rfl rfl (gives_move rfl rfl) ?_
                refine TL.val rfl rfl rfl (gives_assign rfl rfl) ?_
                refine TL.end_ ?_
                refine TX.then_ ?_
                refine TC.exit_ ?_
                refine TX.then_exit ?_
                refine TX.in_same ?_
                exact TX.round (⟨(m, b1, lim1, wb, wp, zs), hlm, hiz⟩) (by dsimp only; omega) ⟨rfl, rfl, rfl, rfl, rfl, rfl, trivial⟩ (fun w1 hw => hw)
end Go.Proofs.Ytleckflmckbheaa

namespace Go.Proofs.Ytleckflmckbheaa
open Go.RowKit
set_option linter.unusedVariables false
set_option linter.unusedSimpArgs false
section
variable {P : Program} {N : Fr} {Q : Exit → Act → World → Prop} {E : Env} {w0 : Base} {L : List Pc} {ops : Array Oper} {l : List Oper} {o : Oper}
theorem TL.rowclear {t e : TypeId} {s : Operand} {g off k n c m cc size : Nat} {z : Value} {xs zs : List Value} (hg : o.guard = none) (hd : o.dst = none) (ho : o.op = .call { callee := .builtin .clear, args := #[s], argTypes := #[t] }) (hs : ev E s = some (.slice (some ⟨g, off, none⟩) m cc))
    (ht : P.underlying t = some (.slice e)) (hz : ∀ w : World, (zeroValue e).run P w = .ok z w) (hzs : (Builtin.zeroCells z.cells m).toList = zs) (h1 : ∀ u ∈ zs, u.oneCell' = true) (hm : 0 < m)
    (hk : L[k]? = some (.row (.slice (some ⟨g, 0, none⟩) n c) e size n xs)) (hl : off + zs.length ≤ xs.length) {xs' : List Value} (hL : xs.take off ++ zs ++ xs.drop (off + zs.length) = xs')
    (h : TL P N ops Q l E (Pm w0 (L.set k (.row (.slice (some ⟨g, 0, none⟩) n c) e size n xs')))) : TL P N ops Q (o :: l) E (Pm w0 L) := fun a w ha hw =>
  wpList_plain hg fun K hK => by
    subst hL
    obtain ⟨cur, hcur, hfit, hown⟩ := row_put (hw.at_ hk) hl
    have hrun : (execOp a.eval o).run P w = .ok (.value (.tuple #[])) (w.setRow g (cur.toList.take off ++ zs ++ cur.toList.drop (off + zs.length)).toArray) := by
      unfold execOp; rw [ho]
      have hst := run_storeCells_at (P := P) g off e zs 0 cur w hcur (by simpa using hfit) h1
      simp only [Nat.add_zero] at hst
      obtain ⟨m', rfl⟩ : ∃ m', m = m' + 1 := ⟨m - 1, by omega⟩
      simp only [resolve, invoke, builtin, Sem.run_bind, Sem.run_pure, Result.andThen_ok, List.map_toArray, List.map_cons, List.map_nil, ha.eval hs]
      unfold Builtin.clear_
      simp [go_sem, run_underlying ht, hz]
      show ((Sem.run P (storeCells _ (Builtin.zeroCells z.cells (m' + 1)).toList) w).andThen _).andThen _ = _
      rw [hzs, hst, List.append_assoc]
      rfl
    unfold Oper.wp
    rw [hrun]
    show K (a.put o.dst _) _
    rw [hd]
    exact hK _ _ (h _ _ (ha.put0 _) (hw.turn hk (grown_setRow _ _) hown (fun g' hg' => .inl hg') (fun k o e => by cases e)))
theorem zeroCells_one (v : Value) (m : Nat) : (Builtin.zeroCells #[v] m).toList = List.replicate m v := by
  refine List.ext_getElem? fun i => ?_
  unfold Builtin.zeroCells
  simp [List.getElem?_replicate, Nat.mod_one]
  by_cases h : i < m
  · rw [if_pos h, List.getElem?_range h]; rfl
  · rw [if_neg h, List.getElem?_eq_none (by simpa using h)]; rfl
/-- the place of an element of a slice of a row's tail -/
theorem at_rowO {t e : TypeId} (ht : P.underlying t = some (.slice e)) (hs : ∀ w : World, (sizeOf e).run P w = .ok 1 w) (g o n c i : Nat) (hi : i < n) {z : Int} (hz : z = (i : Int)) (w : World) :
    (Instr.indexAt t (.slice (some ⟨g, o, none⟩) n c) (.int .i64 z)).run P w = .ok (.pointer (some ⟨g, o + i, none⟩)) w := by
  have := at_el (P := P) ht hs (A := some ⟨g, o, none⟩) (b := g) (off := o) rfl n c i hi hz w
  rwa [Nat.mul_one] at this
/-- the tail of a row -/
theorem gives_tail {t : TypeId} {x lo : Operand} {I : World → Prop} {g n c k : Nat} {q : IntKind} {z : Int} (ho : o.op = .slice t x (some lo) none none) (hx : ev E x = some (.slice (some ⟨g, 0, none⟩) n c)) (hl : ev E lo = some (.int q z)) (hz : z = (k : Int)) (ht : P.underlying t = some (.slice (P.elem t))) (hs : ∀ w : World, (sizeOf (P.elem t)).run P w = .ok 1 w) (hk : k < c) (hn : k ≤ n) :
    Gives P N o E I (.slice (some ⟨g, k, none⟩) (n - k) (c - k)) := gives_sliceL ho hx hl fun w => by
  have h := cut_lo1 (P := P) ht hs (some ⟨g, 0, none⟩) n c k (k := q) hz hn w
  rw [if_neg (by omega), Option.map_some] at h
  have : (⟨g, 0, none⟩ : Addr).add k = ⟨g, k, none⟩ := by unfold Addr.add; split <;> simp_all
  rwa [this] at h
end
end Go.Proofs.Ytleckflmckbheaa

namespace Go.Proofs.Ytleckflmckbheaa
set_option linter.unusedVariables false
set_option linter.unusedSimpArgs false
/-- neighbours that are equal, once -/
def cpt : List Int → List Int
  | [] => []
  | [a] => [a]
  | a :: b :: l => if a = b then cpt (b :: l) else a :: cpt (b :: l)
theorem cpt_snoc : ∀ (l : List Int) (a : Int), cpt (l ++ [a]) = if l.getLast? = some a then cpt l else cpt l ++ [a]
  | [], a => by simp [cpt]
  | [b], a => by
    show cpt [b, a] = _
    simp only [cpt, List.getLast?_singleton, Option.some.injEq]
    split
    · rename_i h; rw [h]
    · rfl
  | b :: d :: l, a => by
    have ih := cpt_snoc (d :: l) a
    have e : (b :: d :: l).getLast? = (d :: l).getLast? := by rw [List.getLast?_cons_cons]
    rw [e]
    show cpt (b :: d :: (l ++ [a])) = _
    rw [cpt]
    have ih' : cpt (d :: (l ++ [a])) = if (d :: l).getLast? = some a then cpt (d :: l) else cpt (d :: l) ++ [a] := ih
    rw [ih', cpt]
    split <;> split <;> simp
theorem mem_cpt (x : Int) : ∀ l : List Int, x ∈ cpt l ↔ x ∈ l
  | [] => Iff.rfl
  | [a] => Iff.rfl
  | a :: b :: l => by
    have ih := mem_cpt x (b :: l)
    rw [cpt]
    split
    · rename_i h
      rw [ih, h, List.mem_cons, List.mem_cons, List.mem_cons]
      constructor
      · exact fun hh => .inr hh
      · rintro (hh | hh)
        · exact .inl hh
        · exact hh
    · rw [List.mem_cons, ih, List.mem_cons, List.mem_cons]
      simp [List.mem_cons]
/-- a list in order, compacted, ascends -/
theorem cpt_asc : ∀ l : List Int, l.Pairwise (· ≤ ·) → (cpt l).Pairwise (· < ·)
  | [], _ => List.Pairwise.nil
  | [a], _ => List.pairwise_singleton _ _
  | a :: b :: l, h => by
    obtain ⟨h1, h2⟩ := List.pairwise_cons.1 h
    have ih := cpt_asc (b :: l) h2
    rw [cpt]
    split
    · exact ih
    · rename_i hne
      refine List.pairwise_cons.2 ⟨fun y hy => ?_, ih⟩
      have hy2 := (mem_cpt y (b :: l)).1 hy
      have hb : b ≤ y := by
        rcases List.mem_cons.1 hy2 with e | e
        · rw [e]; exact Int.le_refl _
        · exact (List.pairwise_cons.1 h2).1 y e
      have ha := h1 b List.mem_cons_self
      omega
/-- ascending lists with the same members are the same -/
theorem asc_eq : ∀ (a b : List Int), a.Pairwise (· < ·) → b.Pairwise (· < ·) → (∀ x, x ∈ a ↔ x ∈ b) → a = b
  | [], [], _, _, _ => rfl
  | [], y :: b, _, _, h => absurd ((h y).2 List.mem_cons_self) List.not_mem_nil
  | x :: a, [], _, _, h => absurd ((h x).1 List.mem_cons_self) List.not_mem_nil
  | x :: a, y :: b, ha, hb, h => by
    obtain ⟨a1, a2⟩ := List.pairwise_cons.1 ha
    obtain ⟨b1, b2⟩ := List.pairwise_cons.1 hb
    have hxy : x = y := by
      rcases List.mem_cons.1 ((h x).1 List.mem_cons_self) with e | e
      · exact e
      · rcases List.mem_cons.1 ((h y).2 List.mem_cons_self) with e2 | e2
        · exact e2.symm
        · have := a1 y e2; have := b1 x e; omega
    subst hxy
    rw [asc_eq a b a2 b2 fun z => ?_]
    constructor
    · intro hz
      rcases List.mem_cons.1 ((h z).1 (List.mem_cons_of_mem _ hz)) with e | e
      · subst e; have := a1 z hz; omega
      · exact e
    · intro hz
      rcases List.mem_cons.1 ((h z).2 (List.mem_cons_of_mem _ hz)) with e | e
      · subst e; have := b1 z hz; omega
      · exact e
theorem srt_pairwise {xs : List Int} {n : Nat} (hn : xs.length = n) (h : Srt 0 n xs) : xs.Pairwise (· ≤ ·) := by
  refine List.pairwise_iff_getElem.2 fun i j hi hj hij => ?_
  have := h i j (Nat.zero_le _) hij (by omega)
  unfold dx at this
  rwa [List.getD_eq_getElem?_getD, List.getD_eq_getElem?_getD, List.getElem?_eq_getElem hi, List.getElem?_eq_getElem hj] at this
theorem take_snoc_dx {xs : List Int} {k : Nat} (h : k < xs.length) : xs.take (k + 1) = xs.take k ++ [dx xs k] := by
  rw [List.take_add_one, List.getElem?_eq_getElem h]
  unfold dx
  rw [List.getD_eq_getElem?_getD, List.getElem?_eq_getElem h]
  rfl
theorem last_take_dx {xs : List Int} {k : Nat} (h : k ≤ xs.length) (h0 : 0 < k) : (xs.take k).getLast? = some (dx xs (k - 1)) := by
  obtain ⟨j, rfl⟩ : ∃ j, k = j + 1 := ⟨k - 1, by omega⟩
  rw [take_snoc_dx (by omega), List.getLast?_append]
  rfl
theorem cpt_step {xs : List Int} {k : Nat} (h : k < xs.length) (h0 : 0 < k) : cpt (xs.take (k + 1)) = if dx xs (k - 1) = dx xs k then cpt (xs.take k) else cpt (xs.take k) ++ [dx xs k] := by
  rw [take_snoc_dx h, cpt_snoc, last_take_dx (by omega) h0]
  simp only [Option.some.injEq]
theorem take_set_dx {ys : List Int} {k : Nat} (h : k < ys.length) (v : Int) : (ys.set k v).take (k + 1) = ys.take k ++ [v] := by
  rw [take_snoc_dx (by simpa using h), dx_set h, if_pos rfl, List.take_set_of_le (Nat.le_refl _)]
theorem cpt_len : ∀ l : List Int, (cpt l).length ≤ l.length
  | [] => Nat.le_refl _
  | [a] => Nat.le_refl _
  | a :: b :: l => by
    have ih := cpt_len (b :: l)
    rw [cpt]
    split
    · rw [List.length_cons]; omega
    · rw [List.length_cons, List.length_cons]; omega
end Go.Proofs.Ytleckflmckbheaa

namespace Go.Proofs.Ytleckflmckbheaa
open Go.RowKit
set_option linter.unusedVariables false
set_option linter.unusedSimpArgs false
set_option maxRecDepth 20000
theorem cpt_take1 : ∀ l : List Int, cpt (l.take 1) = l.take 1
  | [] => rfl
  | a :: l => rfl
theorem us9nm62 : (Try.f62.name == "runtime.NumGoroutine") = false := by decide
theorem us9bd62 : Try.f62.body.isNone = false := rfl
theorem us9nm59 : (Try.f59.name == "runtime.NumGoroutine") = false := by decide
theorem us9bd59 : Try.f59.body.isNone = false := rfl
theorem us9nm58 : (Try.f58.name == "runtime.NumGoroutine") = false := by decide
theorem us9bd58 : Try.f58.body.isNone = false := rfl
theorem us9sz35 (w : World) : (sizeOf 35).run Try.prog w = .ok 1 w := rfl
theorem us9ag35 (w : World) : (isAgg 35).run Try.prog w = .ok false w := rfl
theorem us9zv35 (w : World) : (zeroValue 35).run Try.prog w = .ok (.int .u32 0) w := rfl
set_option maxHeartbeats 1000000 in
theorem ins_nil (w : World) : Calls Try.prog 62 #[.slice none 0 0, .int .i64 0, .int .i64 0] w fun en w' => en = .returned (.tuple #[]) ∧ Below w.heap.size w w' := by
  refine begin_ (vs := [.slice none 0 0, .int .i64 0, .int .i64 0]) Try.func62 rfl rfl rfl ?_ (Pm.start w)
  refine TC.seq_ ?_
  refine TC.region ?_
  refine TL.val rfl rfl rfl (gives_move rfl rfl) ?_
  refine TL.val rfl rfl rfl (gives_bin rfl rfl rfl (fun w => bin_add_ (r := 1) (by simp only [IntKind.wrap_i64]; omega) w)) ?_
  refine TL.val rfl rfl rfl (gives_assign rfl rfl) ?_
  refine TL.end_ ?_
  refine TX.then_ ?_
  refine TC.block ?_
  refine TC.loop_ (α := Unit) (fun y => [(0, .slice none 0 0), (1, .int .i64 0), (2, .int .i64 0), (6, .int .i64 1)]) (fun y => Pm w []) (fun y => 0) (()) ⟨rfl, rfl, rfl, rfl, trivial⟩ (fun w1 hw => hw) ?_
  rintro ⟨⟩
  refine TC.seq_ ?_
  refine TC.seq_ ?_
  refine TC.region ?_
  refine TL.val rfl rfl rfl (gives_move rfl rfl) ?_
  refine TL.val rfl rfl rfl (gives_move rfl rfl) ?_
  refine TL.val rfl rfl rfl (gives_bin rfl rfl rfl (fun w => bin_lss_f (by decide) w)) ?_
  refine TL.end_ ?_
  refine TX.then_ ?_
  refine TC.condF rfl ?_
  refine TC.exit_ ?_
  refine TX.then_exit ?_
  refine TX.then_exit ?_
  refine TX.in_same ?_
  exact end_none Try.results62 (fun w1 hw => ⟨rfl, hw.bel⟩)
set_option maxHeartbeats 1000000 in
theorem pdq_nil (lim : Nat) (w : World) : Calls Try.prog 58 #[.slice none 0 0, .int .i64 0, .int .i64 0, .int .i64 ((lim : Nat) : Int)] w fun en w' => en = .returned (.tuple #[]) ∧ Below w.heap.size w w' := by
  refine begin_ (vs := [.slice none 0 0, .int .i64 0, .int .i64 0, .int .i64 ((lim : Nat) : Int)]) Try.func58 rfl rfl rfl ?_ (Pm.start w)
  refine TC.seq_ ?_
  refine TC.region ?_
  refine TL.val rfl rfl rfl (gives_assign rfl rfl) ?_
  refine TL.end_ ?_
  refine TX.then_ ?_
  refine TC.seq_ ?_
  refine TC.region ?_
  refine TL.val rfl rfl rfl (gives_assign rfl rfl) ?_
  refine TL.end_ ?_
  refine TX.then_ ?_
  refine TC.block ?_
  refine TC.loop_ (α := Unit) (fun y => [(0, .slice none 0 0), (1, .int .i64 0), (2, .int .i64 0)]) (fun y => Pm w []) (fun y => 0) (()) ⟨rfl, rfl, rfl, trivial⟩ (fun w1 hw => hw) ?_
  rintro ⟨⟩
  refine TC.block ?_
  refine TC.seq_ ?_
  refine TC.region ?_
  refine TL.val rfl rfl rfl (gives_move rfl rfl) ?_
  refine TL.val rfl rfl rfl (gives_move rfl rfl) ?_
  refine TL.val rfl rfl rfl (gives_bin rfl rfl rfl (fun w => bin_sub_ (r := 0) (by simp only [IntKind.wrap_i64]; omega) w)) ?_
  refine TL.val rfl rfl rfl (gives_assign rfl rfl) ?_
  refine TL.end_ ?_
  refine TX.then_ ?_
  refine TC.seq_ ?_
  refine TC.seq_ ?_
  refine TC.region ?_
  refine TL.val rfl rfl rfl (gives_move rfl rfl) ?_
  refine TL.val rfl rfl rfl (gives_bin rfl rfl rfl (fun w => bin_leq_t (by decide) w)) ?_
  refine TL.end_ ?_
  refine TX.then_ ?_
  refine TC.condT rfl ?_
  refine TC.seq_ ?_
  refine TC.region ?_
  refine TL.val rfl rfl rfl (gives_move rfl rfl) ?_
  refine TL.val rfl rfl rfl (gives_move rfl rfl) ?_
  refine TL.val rfl rfl rfl (gives_move rfl rfl) ?_
  refine TL.pcall1 (r := .tuple #[]) rfl rfl rfl rfl rfl Try.func62 us9nm62 us9bd62 (fun w1 hw => ins_nil w1) ?_
  refine TL.end_ ?_
  refine TX.then_ ?_
  refine TC.ret_ ?_
  refine TX.then_ret ?_
  refine TX.in_ret ?_
  refine TX.then_ret ?_
  refine TX.in_ret ?_
  exact ret_none Try.results58 (fun w1 hw => ⟨rfl, hw.bel⟩)
set_option maxHeartbeats 1000000 in
theorem sort_nil (w : World) : Calls Try.prog 50 #[.slice none 0 0] w fun en w' => en = .returned (.tuple #[]) ∧ Below w.heap.size w w' := by
  refine begin_ (vs := [.slice none 0 0]) Try.func50 rfl rfl rfl ?_ (Pm.start w)
  refine TC.seq_ ?_
  refine TC.region ?_
  refine TL.val rfl rfl rfl (gives_move rfl rfl) ?_
  refine TL.val rfl rfl rfl (gives_len rfl Try.underlying31 rfl) ?_
  refine TL.val rfl rfl rfl (gives_assign rfl rfl) ?_
  refine TL.end_ ?_
  refine TX.then_ ?_
  refine TC.region ?_
  refine TL.val rfl rfl rfl (gives_move rfl rfl) ?_
  refine TL.val rfl rfl rfl (gives_move rfl rfl) ?_
  refine TL.val rfl rfl rfl (gives_move rfl rfl) ?_
  refine TL.val rfl rfl rfl (gives_conv rfl rfl (fun w => conv_fit (k := .i64) Try.underlying88 Try.underlying3 (by simp only [IntKind.wrap_u64]; omega) w)) ?_
  refine TL.pcallPm (α := {l : Nat // LenOf 0 l}) (fun y => .int .i64 ((y.1 : Nat) : Int)) (fun y => []) rfl rfl rfl rfl rfl Try.func59 us9nm59 us9bd59 (fun w1 hw => len_any 0 (by omega) w1) ?_
  rintro ⟨l, hL⟩
  dsimp only [List.cons_append, List.nil_append]
  refine TL.pcall1 (r := .tuple #[]) rfl rfl rfl rfl rfl Try.func58 us9nm58 us9bd58 (fun w1 hw => pdq_nil l w1) ?_
  refine TL.end_ ?_
  exact end_none Try.results50 (fun w1 hw => ⟨rfl, hw.bel⟩)
set_option maxHeartbeats 1000000 in
theorem cpt_nil (w : World) : Calls Try.prog 51 #[.slice none 0 0] w fun en w' => en = .returned (.slice none 0 0) ∧ Below w.heap.size w w' := by
  refine begin_ (vs := [.slice none 0 0]) Try.func51 rfl rfl rfl ?_ (Pm.start w)
  refine TC.seq_ ?_
  refine TC.region ?_
  refine TL.val rfl rfl rfl (gives_assign rfl rfl) ?_
  refine TL.end_ ?_
  refine TX.then_ ?_
  refine TC.seq_ ?_
  refine TC.seq_ ?_
  refine TC.region ?_
  refine TL.val rfl rfl rfl (gives_move rfl rfl) ?_
  refine TL.val rfl rfl rfl (gives_len rfl Try.underlying31 rfl) ?_
  refine TL.val rfl rfl rfl (gives_bin rfl rfl rfl (fun w => bin_lss_t (by decide) w)) ?_
  refine TL.end_ ?_
  refine TX.then_ ?_
  refine TC.condT rfl ?_
  refine TC.seq_ ?_
  refine TC.region ?_
  refine TL.val rfl rfl rfl (gives_move rfl rfl) ?_
  refine TL.val rfl rfl rfl (gives_assign rfl rfl) ?_
  refine TL.end_ ?_
  refine TX.then_ ?_
  refine TC.ret_ ?_
  refine TX.then_ret ?_
  exact ret_tmp Try.results51 rfl (fun w1 hw => ⟨rfl, hw.bel⟩)
set_option maxHeartbeats 1000000 in
theorem sort_any (g n c : Nat) (xs : List Int) (w : World) (h : Rw 35 w g n c xs) (hn : n ≤ 1000000)  :
    Calls Try.prog 50 #[.slice (some ⟨g, 0, none⟩) n c] w (RC (α := Unit) (fun _ => .tuple #[]) (fun _ ys => Pin 0 n xs ys ∧ Srt 0 n ys) 35 g n c w) := by
  have hl := h.len
  refine begin_ (vs := [.slice (some ⟨g, 0, none⟩) n c]) (I := Pm ⟨wbut w g, g⟩ (.row (.slice (some ⟨g, 0, none⟩) n c) 35 1 n (uv xs) :: oths g w)) Try.func50 rfl rfl rfl ?_ (Pm.rowStart h)
  refine TC.seq_ ?_
  refine TC.region ?_
  refine TL.val rfl rfl rfl (gives_move rfl rfl) ?_
  refine TL.val rfl rfl rfl (gives_len rfl Try.underlying31 rfl) ?_
  refine TL.val rfl rfl rfl (gives_assign rfl rfl) ?_
  refine TL.end_ ?_
  refine TX.then_ ?_
  refine TC.region ?_
  refine TL.val rfl rfl rfl (gives_move rfl rfl) ?_
  refine TL.val rfl rfl rfl (gives_move rfl rfl) ?_
  refine TL.val rfl rfl rfl (gives_move rfl rfl) ?_
  refine TL.val rfl rfl rfl (gives_conv rfl rfl (fun w => conv_fit (k := .i64) Try.underlying88 Try.underlying3 (by simp only [IntKind.wrap_u64]; omega) w)) ?_
  refine TL.pcallPm (α := {l : Nat // LenOf n l}) (fun y => .int .i64 ((y.1 : Nat) : Int)) (fun y => []) rfl rfl rfl rfl rfl Try.func59 us9nm59 us9bd59 (fun w1 hw => len_any n (by omega) w1) ?_
  rintro ⟨l, hL⟩
  dsimp only [List.cons_append, List.nil_append]
  refine TL.pcallRw (k := 0) (α := Unit) (fun _ => .tuple #[]) (fun _ ys => Pin 0 n xs ys ∧ Srt 0 n ys) rfl rfl rfl rfl rfl Try.func58 us9nm58 us9bd58 rfl (fun w1 hw hr1 => pdq_ind g n c hn (n + 1) 0 n l xs w1 hr1 (Nat.zero_le _) (Nat.le_refl _) (fun p q h1 h2 h3 => by omega) (by have := hL.2.2; omega) (by omega)) ?_
  rintro ⟨⟩ ys ⟨hQ, hS⟩
  try dsimp only [List.set_cons_zero, List.set_cons_succ]
  refine TL.end_ ?_
  exact end_none Try.results50 (fun w1 hw => ⟨(), ys, rfl, ⟨hQ, hS⟩, pm_rowAt hw (k := 0) rfl, hw.mapEnd (fun q hq => by simp [hq])⟩)
set_option maxHeartbeats 1000000 in
theorem compact_any (g n c : Nat) (xs : List Int) (w : World) (h : Rw 35 w g n c xs) (hn : n ≤ 1000000) :
    Calls Try.prog 51 #[.slice (some ⟨g, 0, none⟩) n c] w fun en w' => en = .returned (.slice (some ⟨g, 0, none⟩) (cpt xs).length c) ∧ Rw 35 w' g (cpt xs).length c (cpt xs) ∧ w.grownBy w' (some g) := by
  have hl := h.len
  refine begin_ (vs := [.slice (some ⟨g, 0, none⟩) n c]) (I := Pm ⟨wbut w g, g⟩ (.row (.slice (some ⟨g, 0, none⟩) n c) 35 1 n (uv xs) :: oths g w)) Try.func51 rfl rfl rfl ?_ (Pm.rowStart h)
  refine TC.seq_ ?_
  refine TC.region ?_
  refine TL.val rfl rfl rfl (gives_assign rfl rfl) ?_
  refine TL.end_ ?_
  refine TX.then_ ?_
  refine TC.seq_ ?_
  refine TC.seq_ ?_
  refine TC.region ?_
  refine TL.val rfl rfl rfl (gives_move rfl rfl) ?_
  refine TL.val rfl rfl rfl (gives_len rfl Try.underlying31 rfl) ?_
  refine TL.vsplit rfl rfl rfl (gives_bin rfl rfl rfl (fun w => bin_lss w)) (fun h8 => ?_) (fun h8 => ?_)
  · have q8 := of_decide_eq_true h8
    have hE : cpt xs = xs := by
      match xs, hl with
      | [], _ => rfl
      | [a], _ => rfl
      | a :: b :: l, hl => exact absurd hl (by simp only [List.length_cons]; omega)
    refine TL.end_ ?_
    refine TX.then_ ?_
    refine TC.condT rfl ?_
    refine TC.seq_ ?_
    refine TC.region ?_
    refine TL.val rfl rfl rfl (gives_move rfl rfl) ?_
    refine TL.val rfl rfl rfl (gives_assign rfl rfl) ?_
    refine TL.end_ ?_
    refine TX.then_ ?_
    refine TC.ret_ ?_
    refine TX.then_ret ?_
    exact ret_tmp Try.results51 rfl (fun w1 hw => by rw [hE, hl]; exact ⟨rfl, pm_rowAt hw (k := 0) rfl, hw.mapEnd (fun q hq => by simp [hq])⟩)
  · have q8 := of_decide_eq_false h8
    refine TL.end_ ?_
    refine TX.then_ ?_
    refine TC.condF rfl ?_
    refine TC.skip_ ?_
    refine TX.then_ ?_
    refine TC.seq_ ?_
    refine TC.seq_ ?_
    refine TC.region ?_
    refine TL.val rfl rfl rfl (gives_assign rfl rfl) ?_
    refine TL.end_ ?_
    refine TX.then_ ?_
    refine TC.block ?_
    refine TC.loop_ (α := {k : Nat // 1 ≤ k ∧ k ≤ n ∧ cpt (xs.take k) = xs.take k}) (fun y => [(0, .slice (some ⟨g, 0, none⟩) n c), (3, .int .i64 ((y.1 : Nat) : Int))]) (fun y => Pm ⟨wbut w g, g⟩ ([.row (.slice (some ⟨g, 0, none⟩) n c) 35 1 n (uv xs)] ++ oths g w)) (fun y => n - y.1) (⟨1, Nat.le_refl _, by omega, cpt_take1 xs⟩) ⟨rfl, rfl, trivial⟩ (fun w1 hw => hw) ?_
    rintro ⟨k0, hk1, hk2, hK⟩
    try dsimp only
    refine TC.seq_ ?_
    refine TC.seq_ ?_
    refine TC.region ?_
    refine TL.val rfl rfl rfl (gives_move rfl rfl) ?_
    refine TL.val rfl rfl rfl (gives_move rfl rfl) ?_
    refine TL.val rfl rfl rfl (gives_len rfl Try.underlying31 rfl) ?_
    refine TL.vsplit rfl rfl rfl (gives_bin rfl rfl rfl (fun w => bin_lss w)) (fun h13 => ?_) (fun h13 => ?_)
    · have q13 := of_decide_eq_true h13
      refine TL.end_ ?_
      refine TX.then_ ?_
      refine TC.condT rfl ?_
      refine TC.skip_ ?_
      refine TX.then_ ?_
      refine TC.seq_ ?_
      refine TC.block ?_
      refine TC.seq_ ?_
      have hst := cpt_step (xs := xs) (k := k0) (by omega) (by omega)
      rcases Classical.em (dx xs k0 = dx xs (k0 - 1)) with p1 | p1
      · have hK2 : cpt (xs.take (k0 + 1)) = xs.take k0 := by rw [hst, if_pos p1.symm]; exact hK
        refine TC.quiet_ (E' := ?_) (by kernel_rfl) (by kernel_rfl) (fun w hw => hw.drawn _) ?_ ?_
        rotate_left
        · refine TQ.val rfl rfl rfl (gives_move rfl rfl) ?_
          refine TQ.val rfl rfl rfl (gives_move rfl rfl) ?_
          refine TQ.val rfl rfl rfl (gives_at (v := .pointer (some ⟨g, k0, none⟩)) rfl rfl rfl (fun w => at_row Try.underlying31 us9sz35 g _ _ k0 (by omega) rfl w)) ?_
          refine TQ.val rfl rfl rfl (pm_loadU (k := 0) (i := k0) rfl rfl us9ag35 rfl (by omega)) ?_
          refine TQ.val rfl rfl rfl (gives_move rfl rfl) ?_
          refine TQ.val rfl rfl rfl (gives_move rfl rfl) ?_
          refine TQ.val rfl rfl rfl (gives_bin rfl rfl rfl (fun w => bin_sub_ (r := ((k0 - 1 : Nat) : Int)) (by simp only [IntKind.wrap_i64]; omega) w)) ?_
          refine TQ.val rfl rfl rfl (gives_at (v := .pointer (some ⟨g, k0 - 1, none⟩)) rfl rfl rfl (fun w => at_row Try.underlying31 us9sz35 g _ _ (k0 - 1) (by omega) rfl w)) ?_
          refine TQ.val rfl rfl rfl (pm_loadU (k := 0) (i := k0 - 1) rfl rfl us9ag35 rfl (by omega)) ?_
          refine TQ.val rfl rfl rfl (gives_bin rfl rfl rfl (fun w => bin_eql_t (p1) w)) ?_
          exact TQ.end_
        refine TX.then_ ?_
        refine TC.condT rfl ?_
        refine TC.seq_ ?_
        refine TC.region ?_
        refine TL.val rfl rfl rfl (gives_move rfl rfl) ?_
        refine TL.val rfl rfl rfl (gives_move rfl rfl) ?_
        refine TL.val rfl rfl rfl (gives_tail (k := k0) rfl rfl rfl rfl Try.underlying31 us9sz35 (by have := h.obj.2.1; omega) (by omega)) ?_
        refine TL.val rfl rfl rfl (gives_assign rfl rfl) ?_
        refine TL.end_ ?_
        refine TX.then_ ?_
        refine TC.seq_ ?_
        refine TC.seq_ ?_
        refine TC.region ?_
        refine TL.val rfl rfl rfl (gives_assign rfl rfl) ?_
        refine TL.end_ ?_
        refine TX.then_ ?_
        refine TC.block ?_
        refine TC.loop_ (α := {y : Nat × Nat × List Int // (1 ≤ y.2.1 ∧ y.2.1 ≤ n - k0 ∧ k0 ≤ y.1 ∧ y.1 ≤ k0 + y.2.1 - 1) ∧ y.2.2.length = n ∧ (∀ p, k0 + y.2.1 - 1 ≤ p → dx y.2.2 p = dx xs p) ∧ y.2.2.take y.1 = cpt (xs.take (k0 + y.2.1))}) (fun y => [(0, .slice (some ⟨g, 0, none⟩) n c), (3, .int .i64 ((y.1.1 : Nat) : Int)), (4, .slice (some ⟨g, k0, none⟩) (n - k0) (c - k0)), (5, .int .i64 ((y.1.2.1 : Nat) : Int))]) (fun y => Pm ⟨wbut w g, g⟩ ([.row (.slice (some ⟨g, 0, none⟩) n c) 35 1 n (uv y.1.2.2)] ++ oths g w)) (fun y => n - y.1.2.1) (⟨(k0, 1, xs), by dsimp only; omega, hl, fun p _ => rfl, hK2.symm⟩) ⟨rfl, rfl, rfl, rfl, trivial⟩ (fun w1 hw => hw) ?_
        rintro ⟨⟨k, j, ys⟩, ⟨hj1, hj2, hj3, hj4⟩, hly, hI, hT⟩
        dsimp only at hj1 hj2 hj3 hj4 hly hI hT ⊢
        refine TC.seq_ ?_
        refine TC.seq_ ?_
        refine TC.region ?_
        refine TL.val rfl rfl rfl (gives_move rfl rfl) ?_
        refine TL.val rfl rfl rfl (gives_move rfl rfl) ?_
        refine TL.val rfl rfl rfl (gives_len rfl Try.underlying31 rfl) ?_
        refine TL.vsplit rfl rfl rfl (gives_bin rfl rfl rfl (fun w => bin_lss w)) (fun h32 => ?_) (fun h32 => ?_)
        · have q32 := of_decide_eq_true h32
          refine TL.end_ ?_
          refine TX.then_ ?_
          refine TC.condT rfl ?_
          refine TC.skip_ ?_
          refine TX.then_ ?_
          refine TC.seq_ ?_
          refine TC.block ?_
          refine TC.seq_ ?_
          have hst := cpt_step (xs := xs) (k := k0 + j) (by omega) (by omega)
          have e1 := hI (k0 + j) (by omega)
          have e2 := hI (k0 + j - 1) (by omega)
          have e3 : dx ys (k0 + (j - 1)) = dx ys (k0 + j - 1) := by congr 1; omega
          rcases Classical.em (dx ys (k0 + j) ≠ dx ys (k0 + (j - 1))) with p2 | p2
          · have hc1 : ∀ p, k0 + (j + 1) - 1 ≤ p → dx (ys.set k (dx ys (k0 + j))) p = dx xs p := fun p hp => by rw [dx_set (by omega), if_neg (by omega)]; exact hI p (by omega)
            have hc2 : (ys.set k (dx ys (k0 + j))).take (k + 1) = cpt (xs.take (k0 + (j + 1))) := by
              rw [take_set_dx (by omega), hT, e1, show k0 + (j + 1) = k0 + j + 1 from rfl, hst, if_neg (by omega)]
            refine TC.quiet_ (E' := ?_) (by kernel_rfl) (by kernel_rfl) (fun w hw => hw.drawn _) ?_ ?_
            rotate_left
            · refine TQ.val rfl rfl rfl (gives_move rfl rfl) ?_
              refine TQ.val rfl rfl rfl (gives_move rfl rfl) ?_
              refine TQ.val rfl rfl rfl (gives_at (v := .pointer (some ⟨g, k0 + j, none⟩)) rfl rfl rfl (fun w => at_rowO Try.underlying31 us9sz35 g _ _ _ j (by omega) rfl w)) ?_
              refine TQ.val rfl rfl rfl (pm_loadU (k := 0) (i := k0 + j) rfl rfl us9ag35 rfl (by omega)) ?_
              refine TQ.val rfl rfl rfl (gives_move rfl rfl) ?_
              refine TQ.val rfl rfl rfl (gives_move rfl rfl) ?_
              refine TQ.val rfl rfl rfl (gives_bin rfl rfl rfl (fun w => bin_sub_ (r := ((j - 1 : Nat) : Int)) (by simp only [IntKind.wrap_i64]; omega) w)) ?_
              refine TQ.val rfl rfl rfl (gives_at (v := .pointer (some ⟨g, k0 + (j - 1), none⟩)) rfl rfl rfl (fun w => at_rowO Try.underlying31 us9sz35 g _ _ _ (j - 1) (by omega) rfl w)) ?_
              refine TQ.val rfl rfl rfl (pm_loadU (k := 0) (i := k0 + (j - 1)) rfl rfl us9ag35 rfl (by omega)) ?_
              refine TQ.val rfl rfl rfl (gives_bin rfl rfl rfl (fun w => bin_neq_t (p2) w)) ?_
              exact TQ.end_
            refine TX.then_ ?_
            refine TC.condT rfl ?_
            refine TC.seq_ ?_
            refine TC.region ?_
            refine TL.val rfl rfl rfl (gives_move rfl rfl) ?_
            refine TL.val rfl rfl rfl (gives_move rfl rfl) ?_
            refine TL.val rfl rfl rfl (gives_move rfl rfl) ?_
            refine TL.val rfl rfl rfl (gives_move rfl rfl) ?_
            refine TL.val rfl rfl rfl (gives_at (v := .pointer (some ⟨g, k0 + j, none⟩)) rfl rfl rfl (fun w => at_rowO Try.underlying31 us9sz35 g _ _ _ j (by omega) rfl w)) ?_
            refine TL.val rfl rfl rfl (pm_loadU (k := 0) (i := k0 + j) rfl rfl us9ag35 rfl (by omega)) ?_
            refine TL.val rfl rfl rfl (gives_at (v := .pointer (some ⟨g, k, none⟩)) rfl rfl rfl (fun w => at_row Try.underlying31 us9sz35 g _ _ k (by omega) rfl w)) ?_
            refine TL.uset (k := 0) (i := k) rfl rfl rfl rfl rfl rfl us9sz35 (by omega) ?_
            refine TL.end_ ?_
            refine TX.then_ ?_
            refine TC.region ?_
            refine TL.val rfl rfl rfl (gives_move rfl rfl) ?_
            refine TL.val rfl rfl rfl (gives_bin rfl rfl rfl (fun w => bin_add_ (r := ((k + 1 : Nat) : Int)) (by simp only [IntKind.wrap_i64]; omega) w)) ?_
            refine TL.val rfl rfl rfl (gives_assign rfl rfl) ?_
            refine TL.end_ ?_
            refine TX.in_normal ?_
            refine TX.then_ ?_
            refine TC.region ?_
            refine TL.val rfl rfl rfl (gives_move rfl rfl) ?_
            refine TL.val rfl rfl rfl (gives_bin rfl rfl rfl (fun w => bin_add_ (r := ((j + 1 : Nat) : Int)) (by simp only [IntKind.wrap_i64]; omega) w)) ?_
            refine TL.val rfl rfl rfl (gives_assign rfl rfl) ?_
            refine TL.end_ ?_
            exact TX.round (⟨(k + 1, j + 1, ys.set k (dx ys (k0 + j))), by dsimp only; omega, by rw [List.length_set]; exact hly, hc1, hc2⟩) (by show n - (j + 1) < n - j; omega) ⟨rfl, rfl, rfl, rfl, trivial⟩ (fun w1 hw => hw)
          · have hd1 : ∀ p, k0 + (j + 1) - 1 ≤ p → dx ys p = dx xs p := fun p hp => hI p (by omega)
            have hd2 : ys.take k = cpt (xs.take (k0 + (j + 1))) := by rw [hT, show k0 + (j + 1) = k0 + j + 1 from rfl, hst, if_pos (by omega)]
            refine TC.quiet_ (E' := ?_) (by kernel_rfl) (by kernel_rfl) (fun w hw => hw.drawn _) ?_ ?_
            rotate_left
            · refine TQ.val rfl rfl rfl (gives_move rfl rfl) ?_
              refine TQ.val rfl rfl rfl (gives_move rfl rfl) ?_
              refine TQ.val rfl rfl rfl (gives_at (v := .pointer (some ⟨g, k0 + j, none⟩)) rfl rfl rfl (fun w => at_rowO Try.underlying31 us9sz35 g _ _ _ j (by omega) rfl w)) ?_
              refine TQ.val rfl rfl rfl (pm_loadU (k := 0) (i := k0 + j) rfl rfl us9ag35 rfl (by omega)) ?_
              refine TQ.val rfl rfl rfl (gives_move rfl rfl) ?_
              refine TQ.val rfl rfl rfl (gives_move rfl rfl) ?_
              refine TQ.val rfl rfl rfl (gives_bin rfl rfl rfl (fun w => bin_sub_ (r := ((j - 1 : Nat) : Int)) (by simp only [IntKind.wrap_i64]; omega) w)) ?_
              refine TQ.val rfl rfl rfl (gives_at (v := .pointer (some ⟨g, k0 + (j - 1), none⟩)) rfl rfl rfl (fun w => at_rowO Try.underlying31 us9sz35 g _ _ _ (j - 1) (by omega) rfl w)) ?_
              refine TQ.val rfl rfl rfl (pm_loadU (k := 0) (i := k0 + (j - 1)) rfl rfl us9ag35 rfl (by omega)) ?_
              refine TQ.val rfl rfl rfl (gives_bin rfl rfl rfl (fun w => bin_neq_f (by omega) w)) ?_
              exact TQ.end_
            refine TX.then_ ?_
            refine TC.condF rfl ?_
            refine TC.skip_ ?_
            refine TX.in_normal ?_
            refine TX.then_ ?_
            refine TC.region ?_
            refine TL.val rfl rfl rfl (gives_move rfl rfl) ?_
            refine TL.val rfl rfl rfl (gives_bin rfl rfl rfl (fun w => bin_add_ (r := ((j + 1 : Nat) : Int)) (by simp only [IntKind.wrap_i64]; omega) w)) ?_
            refine TL.val rfl rfl rfl (gives_assign rfl rfl) ?_
            refine TL.end_ ?_
            exact TX.round (⟨(k, j + 1, ys), by dsimp only; omega, hly, hd1, hd2⟩) (by show n - (j + 1) < n - j; omega) ⟨rfl, rfl, rfl, rfl, trivial⟩ (fun w1 hw => hw)
        · have q32 := of_decide_eq_false h32
          obtain rfl : j = n - k0 := by omega
          have hC : ys.take k = cpt xs := by rw [hT, List.take_of_length_le (by omega)]
          refine TL.end_ ?_
          refine TX.then_ ?_
          refine TC.condF rfl ?_
          refine TC.exit_ ?_
          refine TX.then_exit ?_
          refine TX.then_exit ?_
          refine TX.in_same ?_
          refine TX.then_ ?_
          refine TC.seq_ ?_
          refine TC.region ?_
          refine TL.val rfl rfl rfl (gives_move rfl rfl) ?_
          refine TL.val rfl rfl rfl (gives_move rfl rfl) ?_
          refine TL.val rfl rfl rfl (gives_tail (k := k) rfl rfl rfl rfl Try.underlying31 us9sz35 (by have := h.obj.2.1; omega) (by omega)) ?_
          refine TL.rowclear (k := 0) (z := .int .u32 0) (zs := uv (List.replicate (n - k) 0)) rfl rfl rfl rfl Try.underlying31 us9zv35 ((zeroCells_one _ _).trans (by simp [uv])) (uv_one _) (by omega) rfl (by rw [uv_len, uv_len, List.length_replicate]; omega) (xs' := uv (ys.take k ++ List.replicate (n - k) 0)) (by rw [uv_len, List.length_replicate, List.drop_eq_nil_of_le (by rw [uv_len]; omega), List.append_nil]; simp [uv]) ?_
          try dsimp only [List.set_cons_zero]
          refine TL.end_ ?_
          refine TX.then_ ?_
          refine TC.seq_ ?_
          refine TC.region ?_
          refine TL.val rfl rfl rfl (gives_move rfl rfl) ?_
          refine TL.val rfl rfl rfl (gives_move rfl rfl) ?_
          refine TL.rowhead (k := 0) (hi := k) (size := 1) (xs' := uv (cpt xs)) rfl rfl rfl rfl rfl rfl Try.underlying31 us9sz35 rfl (by omega) h.obj.2.1 (by rw [Nat.mul_one]; unfold uv; rw [← List.map_take, List.take_left' (by rw [List.length_take]; omega), hC]) ?_
          try dsimp only [List.set_cons_zero]
          refine TL.val rfl rfl rfl (gives_assign rfl rfl) ?_
          refine TL.end_ ?_
          refine TX.then_ ?_
          refine TC.ret_ ?_
          refine TX.in_ret ?_
          refine TX.then_ret ?_
          refine TX.then_ret ?_
          refine TX.in_ret ?_
          refine TX.then_ret ?_
          have hkl : k = (cpt xs).length := by rw [← hC, List.length_take]; omega
          subst hkl
          exact ret_tmp Try.results51 rfl (fun w1 hw => ⟨rfl, pm_rowAt hw (k := 0) rfl, hw.mapEnd (fun q hq => by simp [hq])⟩)
      · have hK2 : cpt (xs.take (k0 + 1)) = xs.take (k0 + 1) := by rw [hst, if_neg (fun hh => p1 hh.symm), hK]; exact (take_snoc_dx (by omega)).symm
        refine TC.quiet_ (E' := ?_) (by kernel_rfl) (by kernel_rfl) (fun w hw => hw.drawn _) ?_ ?_
        rotate_left
        · refine TQ.val rfl rfl rfl (gives_move rfl rfl) ?_
          refine TQ.val rfl rfl rfl (gives_move rfl rfl) ?_
          refine TQ.val rfl rfl rfl (gives_at (v := .pointer (some ⟨g, k0, none⟩)) rfl rfl rfl (fun w => at_row Try.underlying31 us9sz35 g _ _ k0 (by omega) rfl w)) ?_
          refine TQ.val rfl rfl rfl (pm_loadU (k := 0) (i := k0) rfl rfl us9ag35 rfl (by omega)) ?_
          refine TQ.val rfl rfl rfl (gives_move rfl rfl) ?_
          refine TQ.val rfl rfl rfl (gives_move rfl rfl) ?_
          refine TQ.val rfl rfl rfl (gives_bin rfl rfl rfl (fun w => bin_sub_ (r := ((k0 - 1 : Nat) : Int)) (by simp only [IntKind.wrap_i64]; omega) w)) ?_
          refine TQ.val rfl rfl rfl (gives_at (v := .pointer (some ⟨g, k0 - 1, none⟩)) rfl rfl rfl (fun w => at_row Try.underlying31 us9sz35 g _ _ (k0 - 1) (by omega) rfl w)) ?_
          refine TQ.val rfl rfl rfl (pm_loadU (k := 0) (i := k0 - 1) rfl rfl us9ag35 rfl (by omega)) ?_
          refine TQ.val rfl rfl rfl (gives_bin rfl rfl rfl (fun w => bin_eql_f (p1) w)) ?_
          exact TQ.end_
        refine TX.then_ ?_
        refine TC.condF rfl ?_
        refine TC.skip_ ?_
        refine TX.in_normal ?_
        refine TX.then_ ?_
        refine TC.region ?_
        refine TL.val rfl rfl rfl (gives_move rfl rfl) ?_
        refine TL.val rfl rfl rfl (gives_bin rfl rfl rfl (fun w => bin_add_ (r := ((k0 + 1 : Nat) : Int)) (by simp only [IntKind.wrap_i64]; omega) w)) ?_
        refine TL.val rfl rfl rfl (gives_assign rfl rfl) ?_
        refine TL.end_ ?_
        exact TX.round (⟨k0 + 1, by omega, by omega, hK2⟩) (by show n - (k0 + 1) < n - k0; omega) ⟨rfl, rfl, trivial⟩ (fun w1 hw => hw)
    · have q13 := of_decide_eq_false h13
      obtain rfl : k0 = n := by omega
      have hE : cpt xs = xs := by rw [List.take_of_length_le (by omega)] at hK; exact hK
      refine TL.end_ ?_
      refine TX.then_ ?_
      refine TC.condF rfl ?_
      refine TC.exit_ ?_
      refine TX.then_exit ?_
      refine TX.then_exit ?_
      refine TX.in_same ?_
      refine TX.then_ ?_
      refine TC.seq_ ?_
      refine TC.region ?_
      refine TL.val rfl rfl rfl (gives_move rfl rfl) ?_
      refine TL.val rfl rfl rfl (gives_assign rfl rfl) ?_
      refine TL.end_ ?_
      refine TX.then_ ?_
      refine TC.ret_ ?_
      exact ret_tmp Try.results51 rfl (fun w1 hw => by rw [hE, hl]; exact ⟨rfl, pm_rowAt hw (k := 0) rfl, hw.mapEnd (fun q hq => by simp [hq])⟩)
end Go.Proofs.Ytleckflmckbheaa

namespace Go.Proofs.Ytleckflmckbheaa
open Go.RowKit
set_option linter.unusedVariables false
set_option linter.unusedSimpArgs false
theorem Pm.permute {w0 : Base} {w : World} {L L' : List Pc} (h : Pm w0 L w) (hp : L.Perm L') : Pm w0 L' w :=
  ⟨h.bel, fun q hq => h.own q (hp.mem_iff.2 hq), (hp.pairwise_iff (fun {p q} hpq g hg he => hpq g he hg)).1 h.apart, h.oth, h.low⟩
theorem erase_perm {α : Type} {ss : List α} {k : Nat} {s : α} (h : ss[k]? = some s) : ss.Perm (s :: ss.eraseIdx k) := by
  obtain ⟨hlt, rfl⟩ := List.getElem?_eq_some_iff.1 h
  have e : ss = ss.take k ++ ss[k] :: ss.drop (k + 1) := by rw [List.getElem_cons_drop, List.take_append_drop]
  rw [List.eraseIdx_eq_take_drop_succ]
  exact (List.Perm.of_eq e).trans List.perm_middle
theorem set_perm {α : Type} {ss : List α} {k : Nat} (h : k < ss.length) (s : α) : (ss.set k s).Perm (s :: ss.eraseIdx k) := by
  rw [List.set_eq_take_append_cons_drop, if_pos h, List.eraseIdx_eq_take_drop_succ]
  exact List.perm_middle
/-- a slice with a row of its own -/
structure Sg (α : Type) where
  A : Option Addr
  c : Nat
  l : List α
def Sg.val {α : Type} (s : Sg α) : Value := .slice s.A s.l.length s.c
def Sg.nil (α : Type) : Sg α := ⟨none, 0, []⟩
def Sg.pc {α : Type} (e : TypeId) (size : Nat) (enc : List α → List Value) (s : Sg α) : Pc := .row (.slice s.A s.l.length s.c) e size s.l.length (enc s.l)
def segG {α : Type} (e : TypeId) (size : Nat) (enc : List α → List Value) (ss : List (Sg α)) : List Pc := ss.map (Sg.pc e size enc)
section
variable {α : Type} {e : TypeId} {size : Nat} {enc : List α → List Value} {w0 : Base} {w : World} {P : List Pc} {ss : List (Sg α)} {s : Sg α} {k : Nat}
theorem segG_noAbs (ss : List (Sg α)) : noAbs (segG e size enc ss) = true := by
  simp only [noAbs, segG, List.all_map, List.all_eq_true]
  intro s _
  rfl
theorem segG_get (h : ss[k]? = some s) : (segG e size enc ss)[k]? = some (s.pc e size enc) := by
  unfold segG
  rw [List.getElem?_map, h]
  rfl
/-- slice number k is taken up -/
theorem Pm.segOut (h : Pm w0 (P ++ segG e size enc ss) w) (hk : ss[k]? = some s) : Pm w0 ((.row (.slice s.A s.l.length s.c) e size s.l.length (enc s.l) :: P) ++ segG e size enc (ss.eraseIdx k)) w := by
  refine h.permute ?_
  have h1 : (segG e size enc ss).Perm (segG e size enc (s :: ss.eraseIdx k)) := (erase_perm hk).map _
  exact (List.Perm.append_left P h1).trans List.perm_middle
/-- and put back -/
theorem Pm.segIn {s' : Sg α} (h : Pm w0 ((.row (.slice s'.A s'.l.length s'.c) e size s'.l.length (enc s'.l) :: P) ++ segG e size enc (ss.eraseIdx k)) w) (hk : k < ss.length) : Pm w0 (P ++ segG e size enc (ss.set k s')) w := by
  refine h.permute ?_
  have h1 : (segG e size enc (ss.set k s')).Perm (segG e size enc (s' :: ss.eraseIdx k)) := (set_perm hk s').map _
  exact List.perm_middle.symm.trans (List.Perm.append_left P h1.symm)
/-- one more slice, that is nil -/
theorem Pm.segNil (h : Pm w0 (P ++ segG e size enc ss) w) (hn : enc [] = []) : Pm w0 (P ++ segG e size enc (ss ++ [Sg.nil α])) w := by
  refine (h.nilrow e size).permute ?_
  have h1 : segG e size enc (ss ++ [Sg.nil α]) = segG e size enc ss ++ [.row (.slice none 0 0) e size 0 []] := by
    unfold segG
    rw [List.map_append]
    show _ ++ [Pc.row (.slice none 0 0) e size 0 (enc [])] = _
    rw [hn]
  rw [h1, ← List.append_assoc]
  exact (List.perm_append_singleton _ _).symm
theorem Pm.head {w0 : Base} {w : World} {P Q : List Pc} (h : Pm w0 (P ++ Q) w) : Pm w0 P w := h.sel (List.sublist_append_left _ _)
theorem rowA {w0 : Base} {L : List Pc} {A : Option Addr} {n c : Nat} {xs : List Value} {e : TypeId} {size : Nat} (h : Pm w0 L w) (hk : L[k]? = some (.row (.slice A n c) e size n xs)) (hn : 0 < n) : ∃ g, A = some ⟨g, 0, none⟩ := by
  rcases (h.at_ hk).2 with ⟨e1, h2⟩ | ⟨g, cap, cur, a, r⟩
  · cases e1; omega
  · cases a; exact ⟨g, rfl⟩
theorem vals_set (ss : List (Sg α)) (k : Nat) (s : Sg α) (hk : k < ss.length) : (ss.map Sg.val).take k ++ [s.val] ++ (ss.map Sg.val).drop (k + 1) = (ss.set k s).map Sg.val := by
  rw [List.map_set, List.set_eq_take_append_cons_drop, if_pos (by simpa using hk)]
  simp
end
end Go.Proofs.Ytleckflmckbheaa

namespace Go.Proofs.Ytleckflmckbheaa
set_option linter.unusedVariables false
set_option linter.unusedSimpArgs false
def upd (f : Int → Option Int) (a b : Int) : Int → Option Int := fun z => if z = a then some b else f z
theorem upd_same (f : Int → Option Int) (a b : Int) : upd f a b a = some b := if_pos rfl
theorem upd_other (f : Int → Option Int) {a b z : Int} (h : z ≠ a) : upd f a b z = f z := if_neg h
/-- from a, n steps lead to the root r -/
inductive RtN (f : Int → Option Int) : Int → Int → Nat → Prop
  | here {a : Int} (h : f a = none) : RtN f a a 0
  | step {a p r : Int} {n : Nat} (h : f a = some p) (t : RtN f p r n) : RtN f a r (n + 1)
theorem RtN.det {f : Int → Option Int} {a r : Int} {n : Nat} (h : RtN f a r n) : ∀ {r' : Int} {n' : Nat}, RtN f a r' n' → r = r' ∧ n = n' := by
  induction h with
  | here h =>
    intro r' n' h'
    cases h' with
    | here => exact ⟨rfl, rfl⟩
    | step h2 t => rw [h] at h2; cases h2
  | step h t ih =>
    intro r' n' h'
    cases h' with
    | here h2 => rw [h] at h2; cases h2
    | step h2 t2 =>
      rw [h] at h2
      cases h2
      obtain ⟨e1, e2⟩ := ih t2
      exact ⟨e1, by rw [e2]⟩
theorem RtN.root {f : Int → Option Int} {a r : Int} {n : Nat} (h : RtN f a r n) : f r = none := by
  induction h with
  | here h => exact h
  | step h t ih => exact ih
/-- what lies nearer to its root than a does not hang on a -/
theorem RtN.near {f : Int → Option Int} {a b x r : Int} {n m : Nat} (ha : ∃ r', RtN f a r' n) (h : RtN f x r m) (hm : m < n) : RtN (upd f a b) x r m := by
  induction h with
  | here h =>
    rename_i x
    refine .here ?_
    rw [upd_other f]
    · exact h
    · rintro rfl
      obtain ⟨r', ha⟩ := ha
      have := (RtN.det ha (.here h)).2
      omega
  | step h t ih =>
    rename_i x p r k
    have hne : x ≠ a := by
      rintro rfl
      obtain ⟨r', ha⟩ := ha
      have := (RtN.det ha (.step h t)).2
      omega
    exact .step (by rw [upd_other f hne]; exact h) (ih (by omega))
/-- path halving leaves the roots, and no way gets longer -/
theorem RtN.halve {f : Int → Option Int} {a p q : Int} (hp : f a = some p) (hq : f p = some q) {x r : Int} {n : Nat} (h : RtN f x r n) : ∃ m, m ≤ n ∧ RtN (upd f a q) x r m := by
  induction h with
  | here h =>
    rename_i x
    refine ⟨0, Nat.le_refl _, .here ?_⟩
    rw [upd_other f]
    · exact h
    · rintro rfl; rw [hp] at h; cases h
  | step h t ih =>
    rename_i x y r n
    by_cases e : x = a
    · subst e
      rw [hp] at h
      cases h
      cases t with
      | here h2 => rw [hq] at h2; cases h2
      | step h2 t2 =>
        rename_i z k
        rw [hq] at h2
        cases h2
        have hx : ∃ r', RtN f x r' (k + 2) := ⟨r, .step hp (.step hq t2)⟩
        exact ⟨k + 1, by omega, .step (upd_same _ _ _) (RtN.near hx t2 (by omega))⟩
    · obtain ⟨m, hm, hr⟩ := ih
      exact ⟨m + 1, by omega, .step (by rw [upd_other f e]; exact h) hr⟩
/-- two roots joined -/
theorem RtN.join {f : Int → Option Int} {ra rb : Int} (ha : f ra = none) (hb : f rb = none) (hne : ra ≠ rb) {x r : Int} {n : Nat} (h : RtN f x r n) : ∃ m, RtN (upd f ra rb) x (if r = ra then rb else r) m := by
  induction h with
  | here h =>
    rename_i x
    by_cases e : x = ra
    · subst e
      rw [if_pos rfl]
      exact ⟨1, .step (upd_same _ _ _) (.here (by rw [upd_other f (fun hh => hne hh.symm)]; exact hb))⟩
    · rw [if_neg e]
      exact ⟨0, .here (by rw [upd_other f e]; exact h)⟩
  | step h t ih =>
    rename_i x p r n
    obtain ⟨m, hm⟩ := ih
    have e : x ≠ ra := by rintro rfl; rw [ha] at h; cases h
    exact ⟨m + 1, .step (by rw [upd_other f e]; exact h) hm⟩
/-- a map of parents has the roots R -/
def Roots (f : Int → Option Int) (R : Int → Int) : Prop := ∀ x, ∃ n, RtN f x (R x) n
theorem roots_nil : Roots (fun _ => none) (fun x => x) := fun x => ⟨0, .here rfl⟩
theorem Roots.halve {f : Int → Option Int} {R : Int → Int} (h : Roots f R) {a p q : Int} (hp : f a = some p) (hq : f p = some q) : Roots (upd f a q) R := fun x => by
  obtain ⟨n, hn⟩ := h x
  obtain ⟨m, _, hm⟩ := hn.halve hp hq
  exact ⟨m, hm⟩
theorem Roots.join {f : Int → Option Int} {R : Int → Int} (h : Roots f R) {ra rb : Int} (ha : f ra = none) (hb : f rb = none) (hne : ra ≠ rb) : Roots (upd f ra rb) (fun x => if R x = ra then rb else R x) := fun x => by
  obtain ⟨n, hn⟩ := h x
  exact hn.join ha hb hne
theorem Roots.step {f : Int → Option Int} {R : Int → Int} (h : Roots f R) {a p : Int} (hp : f a = some p) : R a = R p := by
  obtain ⟨n, hn⟩ := h a
  obtain ⟨m, hm⟩ := h p
  exact (hn.det (.step hp hm)).1
theorem Roots.idem {f : Int → Option Int} {R : Int → Int} (h : Roots f R) (x : Int) : R (R x) = R x ∧ f (R x) = none := by
  obtain ⟨n, hn⟩ := h x
  obtain ⟨m, hm⟩ := h (R x)
  exact ⟨(hm.det (.here hn.root)).1, hn.root⟩
/-- a fact -/
structure Fc where
  id : Int
  a : Int
  b : Int
deriving DecidableEq
/-- the root of each number by facts, as they come -/
def joinR (R : Int → Int) (f : Fc) : Int → Int := if R f.a = R f.b then R else fun x => if R x = R f.a then R f.b else R x
def repF (l : List Fc) : Int → Int := l.foldl joinR fun x => x
theorem repF_snoc (l : List Fc) (f : Fc) : repF (l ++ [f]) = joinR (repF l) f := by simp [repF]
/-- the facts whose numbers are not together by those ahead -/
def forF (R : Int → Int) : List Fc → List Fc
  | [] => []
  | f :: l => if R f.a = R f.b then forF R l else f :: forF (joinR R f) l
def forest (l : List Fc) : List Fc := forF (fun x => x) l
theorem joinR_same {R : Int → Int} {f : Fc} (h : R f.a = R f.b) : joinR R f = R := if_pos h
theorem forF_rep (R : Int → Int) : ∀ l : List Fc, (forF R l).foldl joinR R = l.foldl joinR R
  | [] => rfl
  | f :: l => by
    rw [forF]
    split
    · rename_i h
      rw [List.foldl_cons, joinR_same h]
      exact forF_rep R l
    · rw [List.foldl_cons, List.foldl_cons]
      exact forF_rep (joinR R f) l
/-- the forest has the roots of all facts -/
theorem forest_rep (l : List Fc) : repF (forest l) = repF l := forF_rep _ l
/-- together by facts -/
inductive Conn (l : List Fc) : Int → Int → Prop
  | refl (a : Int) : Conn l a a
  | fact {f : Fc} (h : f ∈ l) : Conn l f.a f.b
  | symm {a b : Int} (h : Conn l a b) : Conn l b a
  | trans {a b c : Int} (h : Conn l a b) (h' : Conn l b c) : Conn l a c
theorem Conn.mono {l l' : List Fc} (hl : ∀ f ∈ l, f ∈ l') {a b : Int} (h : Conn l a b) : Conn l' a b := by
  induction h with
  | refl a => exact .refl a
  | fact h => exact .fact (hl _ h)
  | symm _ ih => exact .symm ih
  | trans _ _ ih1 ih2 => exact .trans ih1 ih2
theorem joinR_eq {R : Int → Int} {f : Fc} {x y : Int} (h : R x = R y) : joinR R f x = joinR R f y := by
  unfold joinR; split
  · exact h
  · show (if R x = R f.a then R f.b else R x) = if R y = R f.a then R f.b else R y
    rw [h]
theorem joinR_fact (R : Int → Int) (f : Fc) : joinR R f f.a = joinR R f f.b := by
  unfold joinR; split
  · rename_i h; exact h
  · show (if R f.a = R f.a then R f.b else R f.a) = if R f.b = R f.a then R f.b else R f.b
    rw [if_pos rfl]; split <;> rfl
theorem rep_conn_ : ∀ (n : Nat) (l : List Fc), l.length = n → (∀ x, Conn l x (repF l x)) ∧ ∀ a b, Conn l a b → repF l a = repF l b
  | 0, l, h => by
    obtain rfl := List.eq_nil_of_length_eq_zero h
    refine ⟨fun x => .refl x, fun a b h => ?_⟩
    induction h with
    | refl => rfl
    | fact h => cases h
    | symm _ ih => exact ih.symm
    | trans _ _ ih1 ih2 => exact ih1.trans ih2
  | n + 1, l, h => by
    obtain ⟨l, f, rfl⟩ : ∃ l' f, l = l' ++ [f] := ⟨l.dropLast, l.getLast (by intro e; rw [e] at h; cases h), (List.dropLast_concat_getLast _).symm⟩
    obtain ⟨h1, h2⟩ := rep_conn_ n l (by simpa using h)
    have hm : ∀ g ∈ l, g ∈ l ++ [f] := fun g hg => List.mem_append_left _ hg
    refine ⟨fun x => ?_, fun a b hc => ?_⟩
    · rw [repF_snoc]
      unfold joinR; split
      · exact (h1 x).mono hm
      · show Conn (l ++ [f]) x (if repF l x = repF l f.a then repF l f.b else repF l x)
        split
        · rename_i e
          have c1 : Conn (l ++ [f]) x (repF l f.a) := e ▸ (h1 x).mono hm
          exact c1.trans (((h1 f.a).mono hm).symm.trans ((Conn.fact (List.mem_append_right _ (List.mem_singleton.2 rfl))).trans ((h1 f.b).mono hm)))
        · exact (h1 x).mono hm
    · rw [repF_snoc]
      induction hc with
      | refl => rfl
      | fact hg =>
        rename_i g
        rcases List.mem_append.1 hg with hg | hg
        · exact joinR_eq (h2 _ _ (.fact hg))
        · rw [List.mem_singleton] at hg
          subst hg
          exact joinR_fact _ _
      | symm _ ih => exact ih.symm
      | trans _ _ ih1 ih2 => exact ih1.trans ih2
/-- the roots say what is together -/
theorem rep_conn (l : List Fc) (a b : Int) : repF l a = repF l b ↔ Conn l a b := by
  obtain ⟨h1, h2⟩ := rep_conn_ l.length l rfl
  refine ⟨fun h => ?_, h2 a b⟩
  exact (h1 a).trans (h ▸ (h1 b).symm)
end Go.Proofs.Ytleckflmckbheaa

namespace Go.Proofs.Ytleckflmckbheaa
set_option linter.unusedVariables false
set_option linter.unusedSimpArgs false
/-- the values of R on a list, each once, as they come -/
def ksF (R : Int → Int) (k : List Int) : List Int → List Int
  | [] => k
  | a :: l => ksF R (if R a ∈ k then k else k ++ [R a]) l
def ks (R : Int → Int) (A : List Int) : List Int := ksF R [] A
/-- the classes of a list of numbers -/
def cls (R : Int → Int) (A : List Int) : List (List Int) := (ks R A).map fun r => A.filter fun x => decide (R x = r)
theorem ksF_snoc (R : Int → Int) (a : Int) : ∀ (l k : List Int), ksF R k (l ++ [a]) = if R a ∈ ksF R k l then ksF R k l else ksF R k l ++ [R a]
  | [], k => rfl
  | b :: l, k => ksF_snoc R a l _
theorem ks_snoc (R : Int → Int) (A : List Int) (a : Int) : ks R (A ++ [a]) = if R a ∈ ks R A then ks R A else ks R A ++ [R a] := ksF_snoc R a A []
theorem mem_ksF (R : Int → Int) (x : Int) : ∀ (l k : List Int), x ∈ ksF R k l ↔ x ∈ k ∨ ∃ a ∈ l, R a = x
  | [], k => by simp [ksF]
  | b :: l, k => by
    rw [ksF, mem_ksF R x l]
    split
    · rename_i h
      constructor
      · rintro (h1 | ⟨a, ha, e⟩)
        · exact .inl h1
        · exact .inr ⟨a, List.mem_cons_of_mem _ ha, e⟩
      · rintro (h1 | ⟨a, ha, e⟩)
        · exact .inl h1
        · rcases List.mem_cons.1 ha with rfl | ha
          · exact .inl (e ▸ h)
          · exact .inr ⟨a, ha, e⟩
    · constructor
      · rintro (h1 | ⟨a, ha, e⟩)
        · rcases List.mem_append.1 h1 with h1 | h1
          · exact .inl h1
          · exact .inr ⟨b, List.mem_cons_self, (List.mem_singleton.1 h1).symm⟩
        · exact .inr ⟨a, List.mem_cons_of_mem _ ha, e⟩
      · rintro (h1 | ⟨a, ha, e⟩)
        · exact .inl (List.mem_append_left _ h1)
        · rcases List.mem_cons.1 ha with rfl | ha
          · exact .inl (List.mem_append_right _ (List.mem_singleton.2 e.symm))
          · exact .inr ⟨a, ha, e⟩
theorem mem_ks {R : Int → Int} {x : Int} {A : List Int} : x ∈ ks R A ↔ ∃ a ∈ A, R a = x := by
  rw [ks, mem_ksF]; simp
theorem nodup_ksF (R : Int → Int) : ∀ (l k : List Int), k.Nodup → (ksF R k l).Nodup
  | [], k, h => h
  | b :: l, k, h => by
    rw [ksF]
    refine nodup_ksF R l _ ?_
    split
    · exact h
    · rename_i hn
      refine List.nodup_append.2 ⟨h, List.pairwise_singleton _ _, fun x hx y hy e => ?_⟩
      rw [List.mem_singleton] at hy
      exact hn (hy ▸ e ▸ hx)
theorem nodup_ks (R : Int → Int) (A : List Int) : (ks R A).Nodup := nodup_ksF R A [] List.nodup_nil
/-- lists without repetition that have the same members are equally long -/
theorem len_of_mem {a b : List Int} (ha : a.Nodup) (hb : b.Nodup) (h : ∀ x, x ∈ a ↔ x ∈ b) : a.length = b.length :=
  ((List.perm_ext_iff_of_nodup ha hb).2 h).length_eq
/-- what is joined makes one class less -/
theorem ks_join {R : Int → Int} {f : Fc} {A : List Int} (ha : f.a ∈ A) (hb : f.b ∈ A) (hne : R f.a ≠ R f.b) : (ks (joinR R f) A).length + 1 = (ks R A).length := by
  have e : (ks (joinR R f) A).length = ((ks R A).filter fun x => decide (x ≠ R f.a)).length := by
    refine len_of_mem (nodup_ks _ _) ((nodup_ks R A).filter _) fun x => ?_
    rw [List.mem_filter, mem_ks, mem_ks]
    have hj : ∀ y, joinR R f y = if R y = R f.a then R f.b else R y := fun y => by unfold joinR; rw [if_neg hne]
    constructor
    · rintro ⟨y, hy, e⟩
      rw [hj] at e
      split at e
      · exact ⟨⟨f.b, hb, e⟩, decide_eq_true (by rw [← e]; exact fun hh => hne hh.symm)⟩
      · rename_i h1
        exact ⟨⟨y, hy, e⟩, decide_eq_true (by rw [← e]; exact h1)⟩
    · rintro ⟨⟨y, hy, e⟩, h2⟩
      refine ⟨y, hy, ?_⟩
      rw [hj, if_neg (by rw [e]; exact of_decide_eq_true h2), e]
  rw [e]
  have hm : R f.a ∈ ks R A := mem_ks.2 ⟨f.a, ha, rfl⟩
  have hnd := nodup_ks R A
  generalize ks R A = k at hm hnd
  induction k with
  | nil => cases hm
  | cons x k ih =>
    obtain ⟨h1, h2⟩ := List.nodup_cons.1 hnd
    by_cases hx : x = R f.a
    · have : k.filter (fun y => decide (y ≠ R f.a)) = k := List.filter_eq_self.2 fun y hy => decide_eq_true fun hh => h1 (by rw [hx, ← hh]; exact hy)
      rw [List.filter_cons, if_neg (by simp [hx]), this, List.length_cons]
    · rw [List.filter_cons, if_pos (by simpa using hx), List.length_cons, List.length_cons]
      have := ih (by rcases List.mem_cons.1 hm with h | h; exact absurd h.symm hx; exact h) h2
      omega
/-- as many facts of the forest as there are fewer classes -/
theorem forF_count {A : List Int} : ∀ (l : List Fc) (R : Int → Int), (∀ f ∈ l, f.a ∈ A ∧ f.b ∈ A) → (ks (l.foldl joinR R) A).length + (forF R l).length = (ks R A).length
  | [], R, _ => rfl
  | f :: l, R, h => by
    have hf := h f List.mem_cons_self
    have hl : ∀ g ∈ l, g.a ∈ A ∧ g.b ∈ A := fun g hg => h g (List.mem_cons_of_mem _ hg)
    rw [List.foldl_cons, forF]
    split
    · rename_i e
      rw [joinR_same e]
      exact forF_count l R hl
    · rename_i e
      have h1 := forF_count l (joinR R f) hl
      have h2 := ks_join hf.1 hf.2 e
      rw [List.length_cons]
      omega
theorem ks_id {A : List Int} (h : A.Nodup) : (ks (fun x => x) A).length = A.length :=
  len_of_mem (nodup_ks _ _) h fun x => by rw [mem_ks]; simp
theorem forest_count {l : List Fc} {A : List Int} (hA : A.Nodup) (h : ∀ f ∈ l, f.a ∈ A ∧ f.b ∈ A) : (cls (repF l) A).length + (forest l).length = A.length := by
  have := forF_count l (fun x => x) h
  rw [ks_id hA] at this
  rw [cls, List.length_map]
  exact this
/-- the classes have all numbers -/
theorem filter_count {R : Int → Int} : ∀ (k A : List Int), k.Nodup → (∀ a ∈ A, R a ∈ k) → ((k.map fun r => A.filter fun x => decide (R x = r)).map List.length).sum = A.length
  | k, [], _, _ => by
    have : ∀ k : List Int, ((k.map fun r => ([] : List Int).filter fun x => decide (R x = r)).map List.length).sum = 0 := fun k => by
      induction k with
      | nil => rfl
      | cons x k ih => rw [List.map_cons, List.map_cons, List.sum_cons, ih]; rfl
    exact this k
  | k, a :: A, hk, h => by
    have ih := filter_count k A hk fun x hx => h x (List.mem_cons_of_mem _ hx)
    have key : ∀ k : List Int, k.Nodup → ((k.map fun r => (a :: A).filter fun x => decide (R x = r)).map List.length).sum = ((k.map fun r => A.filter fun x => decide (R x = r)).map List.length).sum + (if R a ∈ k then 1 else 0) := fun k => by
      induction k with
      | nil => intro _; rfl
      | cons r k ih2 =>
        intro hnd
        obtain ⟨n1, n2⟩ := List.nodup_cons.1 hnd
        have := ih2 n2
        simp only [List.map_cons, List.sum_cons] at this ⊢
        rw [this, List.filter_cons]
        by_cases e : R a = r
        · have hn : R a ∉ k := by rw [e]; exact n1
          rw [if_pos (by simpa using e), List.length_cons, if_neg hn, if_pos (by rw [e]; exact List.mem_cons_self)]
          omega
        · have hiff : (R a ∈ r :: k) = (R a ∈ k) := propext ⟨fun h => (List.mem_cons.1 h).resolve_left e, List.mem_cons_of_mem _⟩
          rw [if_neg (by simpa using e)]
          simp only [hiff]
          omega
    rw [key k hk, ih, if_pos (h a List.mem_cons_self), List.length_cons]
theorem cls_sum (R : Int → Int) (A : List Int) : ((cls R A).map List.length).sum = A.length := filter_count _ _ (nodup_ks R A) fun a ha => mem_ks.2 ⟨a, ha, rfl⟩
/-- the numbers of facts -/
def adrs (l : List Fc) : List Int := l.flatMap fun f => [f.a, f.b]
theorem mem_adrs {l : List Fc} {x : Int} : x ∈ adrs l ↔ ∃ f ∈ l, x = f.a ∨ x = f.b := by simp [adrs]
/-- each number of a fact stands in a fact of the forest -/
theorem forF_adrs : ∀ (l : List Fc) (R : Int → Int) (D : List Int), (∀ f ∈ l, f.a ≠ f.b) → (∀ x, x ∉ D → (∀ y, R y = R x → y = x)) → ∀ x, x ∈ adrs l → x ∈ D ∨ x ∈ adrs (forF R l)
  | [], R, D, _, _, x, hx => by cases hx
  | f :: l, R, D, hne, hD, x, hx => by
    have hne' : ∀ g ∈ l, g.a ≠ g.b := fun g hg => hne g (List.mem_cons_of_mem _ hg)
    have hx' : x = f.a ∨ x = f.b ∨ x ∈ adrs l := by
      obtain ⟨g, hg, e⟩ := mem_adrs.1 hx
      rcases List.mem_cons.1 hg with rfl | hg
      · rcases e with e | e
        · exact .inl e
        · exact .inr (.inl e)
      · exact .inr (.inr (mem_adrs.2 ⟨g, hg, e⟩))
    rw [forF]
    split
    · rename_i e
      rcases hx' with rfl | rfl | hx'
      · by_cases hd : f.a ∈ D
        · exact .inl hd
        · exact absurd (hD _ hd f.b e.symm) (fun hh => hne f List.mem_cons_self hh.symm)
      · by_cases hd : f.b ∈ D
        · exact .inl hd
        · exact absurd (hD _ hd f.a e) (hne f List.mem_cons_self)
      · exact forF_adrs l R D hne' hD x hx'
    · rename_i e
      have hmem : ∀ z, z ∈ adrs (f :: forF (joinR R f) l) ↔ z = f.a ∨ z = f.b ∨ z ∈ adrs (forF (joinR R f) l) := fun z => by simp [adrs, or_assoc]
      rw [hmem]
      have hD' : ∀ z, z ∉ f.a :: f.b :: D → ∀ y, joinR R f y = joinR R f z → y = z := by
        intro z hz y hy
        simp only [List.mem_cons, not_or] at hz
        obtain ⟨z1, z2, z3⟩ := hz
        have hj : ∀ y, joinR R f y = if R y = R f.a then R f.b else R y := fun y => by unfold joinR; rw [if_neg e]
        have hza : R z ≠ R f.a := fun hh => z1 (hD z z3 f.a hh.symm).symm
        have hzb : R f.b ≠ R z := fun hh => z2 (hD z z3 f.b hh).symm
        rw [hj, hj z, if_neg hza] at hy
        split at hy
        · exact absurd hy hzb
        · exact hD z z3 y hy
      rcases hx' with h | h | hx'
      · exact .inr (.inl h)
      · exact .inr (.inr (.inl h))
      · rcases forF_adrs l (joinR R f) (f.a :: f.b :: D) hne' hD' x hx' with h | h
        · rcases List.mem_cons.1 h with h | h
          · exact .inr (.inl h)
          · rcases List.mem_cons.1 h with h | h
            · exact .inr (.inr (.inl h))
            · exact .inl h
        · exact .inr (.inr (.inr h))
theorem forF_sub : ∀ (l : List Fc) (R : Int → Int), ∀ f ∈ forF R l, f ∈ l
  | [], _, f, h => by cases h
  | g :: l, R, f, h => by
    rw [forF] at h
    split at h
    · exact List.mem_cons_of_mem _ (forF_sub l R f h)
    · rcases List.mem_cons.1 h with rfl | h
      · exact List.mem_cons_self
      · exact List.mem_cons_of_mem _ (forF_sub l _ f h)
theorem forest_adrs {l : List Fc} (h : ∀ f ∈ l, f.a ≠ f.b) (x : Int) : x ∈ adrs (forest l) ↔ x ∈ adrs l := by
  constructor
  · intro hx
    obtain ⟨f, hf, e⟩ := mem_adrs.1 hx
    exact mem_adrs.2 ⟨f, forF_sub l _ f hf, e⟩
  · intro hx
    rcases forF_adrs l (fun x => x) [] h (fun x _ y e => e) x hx with h1 | h1
    · cases h1
    · exact h1
end Go.Proofs.Ytleckflmckbheaa

namespace Go.Proofs.Ytleckflmckbheaa
set_option linter.unusedVariables false
set_option linter.unusedSimpArgs false
/-- the classes hang on what is together alone -/
theorem ksF_kernel {R R' : Int → Int} {A : List Int} (h : ∀ x ∈ A, ∀ y ∈ A, R x = R y ↔ R' x = R' y) : ∀ (l : List Int), (∀ a ∈ l, a ∈ A) → ∀ (D : List Int), (∀ d ∈ D, d ∈ A) → ∃ E : List Int, (∀ e ∈ E, e ∈ A) ∧ ksF R (D.map R) l = E.map R ∧ ksF R' (D.map R') l = E.map R'
  | [], _, D, hD => ⟨D, hD, rfl, rfl⟩
  | a :: l, hl, D, hD => by
    have ha := hl a List.mem_cons_self
    have hl' : ∀ x ∈ l, x ∈ A := fun x hx => hl x (List.mem_cons_of_mem _ hx)
    have hiff : R a ∈ D.map R ↔ R' a ∈ D.map R' := by
      rw [List.mem_map, List.mem_map]
      constructor
      · rintro ⟨d, hd, e⟩; exact ⟨d, hd, (h d (hD d hd) a ha).1 e⟩
      · rintro ⟨d, hd, e⟩; exact ⟨d, hd, (h d (hD d hd) a ha).2 e⟩
    rw [ksF, ksF]
    by_cases hm : R a ∈ D.map R
    · rw [if_pos hm, if_pos (hiff.1 hm)]
      exact ksF_kernel h l hl' D hD
    · rw [if_neg hm, if_neg (fun hh => hm (hiff.2 hh))]
      have := ksF_kernel h l hl' (D ++ [a]) (fun d hd => (List.mem_append.1 hd).elim (hD d) fun hh => by rw [List.mem_singleton] at hh; rw [hh]; exact ha)
      rw [List.map_append, List.map_append] at this
      exact this
theorem cls_kernel {R R' : Int → Int} {A : List Int} (h : ∀ x ∈ A, ∀ y ∈ A, R x = R y ↔ R' x = R' y) : cls R A = cls R' A := by
  obtain ⟨E, hE, e1, e2⟩ := ksF_kernel h A (fun a ha => ha) [] (fun d hd => by cases hd)
  unfold cls
  have e1' : ks R A = E.map R := e1
  have e2' : ks R' A = E.map R' := e2
  rw [e1', e2', List.map_map, List.map_map]
  refine List.map_congr_left fun e he => ?_
  show A.filter (fun x => decide (R x = R e)) = A.filter (fun x => decide (R' x = R' e))
  refine List.filter_congr fun x hx => ?_
  exact decide_eq_decide.2 (h x hx e (hE e he))
theorem forF_idem : ∀ (l : List Fc) (R : Int → Int), forF R (forF R l) = forF R l
  | [], _ => rfl
  | f :: l, R => by
    rw [forF]
    split
    · exact forF_idem l R
    · rename_i h
      rw [forF, if_neg h, forF_idem l (joinR R f)]
theorem forest_idem (l : List Fc) : forest (forest l) = forest l := forF_idem l _
theorem forF_len : ∀ (l : List Fc) (R : Int → Int), (forF R l).length ≤ l.length
  | [], _ => Nat.le_refl _
  | f :: l, R => by
    rw [forF]
    split
    · exact Nat.le_succ_of_le (forF_len l R)
    · exact Nat.succ_le_succ (forF_len l _)
theorem nodup_list (l : List Int) : ∃ A : List Int, A.Nodup ∧ ∀ x, x ∈ A ↔ x ∈ l := ⟨ks (fun x => x) l, nodup_ks _ _, fun x => by rw [mem_ks]; simp⟩
/-- in a forest each fact is a bridge -/
theorem forest_bridge {l F : List Fc} (hF : F = forest l) {p q : List Fc} {f : Fc} (hs : F = p ++ f :: q) : ¬ Conn (p ++ q) f.a f.b := by
  intro hc
  obtain ⟨A, hA, hm⟩ := nodup_list (adrs F)
  have hin : ∀ g ∈ F, g.a ∈ A ∧ g.b ∈ A := fun g hg => ⟨(hm _).2 (mem_adrs.2 ⟨g, hg, .inl rfl⟩), (hm _).2 (mem_adrs.2 ⟨g, hg, .inr rfl⟩)⟩
  have h1 := forest_count hA hin
  have hsub : ∀ g ∈ p ++ q, g ∈ F := fun g hg => by
    rw [hs]
    rcases List.mem_append.1 hg with h | h
    · exact List.mem_append_left _ h
    · exact List.mem_append_right _ (List.mem_cons_of_mem _ h)
  have h2 := forest_count hA fun g hg => hin g (hsub g hg)
  have hk : cls (repF F) A = cls (repF (p ++ q)) A := cls_kernel fun x hx y hy => by
    clear hx hy
    rw [rep_conn, rep_conn]
    refine ⟨fun h => ?_, fun h => h.mono hsub⟩
    induction h with
    | refl => exact .refl _
    | fact hg =>
      rename_i g
      rw [hs] at hg
      rcases List.mem_append.1 hg with hg | hg
      · exact .fact (List.mem_append_left _ hg)
      · rcases List.mem_cons.1 hg with rfl | hg
        · exact hc
        · exact .fact (List.mem_append_right _ hg)
    | symm _ ih => exact .symm ih
    | trans _ _ ih1 ih2 => exact .trans ih1 ih2
  have h3 : (forest F).length = F.length := by rw [hF, forest_idem]
  have h4 : (forest (p ++ q)).length ≤ (p ++ q).length := forF_len _ _
  have h5 : F.length = (p ++ q).length + 1 := by rw [hs, List.length_append, List.length_append, List.length_cons]; omega
  rw [hk] at h1
  omega
/-- a fact without which its numbers are apart is one of the forest -/
theorem bridge_forest {l p q : List Fc} {f : Fc} (hs : l = p ++ f :: q) (h : ¬ Conn (p ++ q) f.a f.b) : f ∈ forest l := by
  refine Decidable.byContradiction fun hn => h ?_
  have h1 : Conn (forest l) f.a f.b := by
    rw [← rep_conn, forest_rep, rep_conn]
    exact .fact (by rw [hs]; exact List.mem_append_right _ List.mem_cons_self)
  refine h1.mono fun g hg => ?_
  have hg2 := forF_sub l _ g hg
  rw [hs] at hg2
  rcases List.mem_append.1 hg2 with h2 | h2
  · exact List.mem_append_left _ h2
  · rcases List.mem_cons.1 h2 with rfl | h2
    · exact absurd hg hn
    · exact List.mem_append_right _ h2
end Go.Proofs.Ytleckflmckbheaa

namespace Go.Proofs.Ytleckflmckbheaa
set_option linter.unusedVariables false
set_option linter.unusedSimpArgs false
theorem cls_snoc_eq {R : Int → Int} {P : List Int} {a : Int} : cls R (P ++ [a]) = (ks R (P ++ [a])).map fun r => (P.filter fun x => decide (R x = r)) ++ (if R a = r then [a] else []) := by
  unfold cls
  refine List.map_congr_left fun r _ => ?_
  rw [List.filter_append]
  congr 1
  by_cases h : R a = r
  · rw [if_pos h, List.filter_cons, if_pos (by simpa using h)]; rfl
  · rw [if_neg h, List.filter_cons, if_neg (by simpa using h)]; rfl
theorem cls_len (R : Int → Int) (P : List Int) : (cls R P).length = (ks R P).length := by unfold cls; rw [List.length_map]
theorem cls_old {R : Int → Int} {P : List Int} {a : Int} {k : Nat} (h : (ks R P)[k]? = some (R a)) : cls R (P ++ [a]) = (cls R P).set k ((cls R P).getD k [] ++ [a]) := by
  have hm : R a ∈ ks R P := List.mem_of_getElem? h
  rw [cls_snoc_eq, ks_snoc, if_pos hm]
  refine List.ext_getElem? fun j => ?_
  rw [List.getElem?_map, List.getElem?_set]
  have hlt : k < (ks R P).length := (List.getElem?_eq_some_iff.1 h).1
  by_cases e : k = j
  · subst e
    rw [if_pos rfl, if_pos (by rw [cls_len]; exact hlt), h, Option.map_some, if_pos rfl]
    congr 2
    unfold cls
    rw [List.getD_eq_getElem?_getD, List.getElem?_map, h]
    rfl
  · rw [if_neg e]
    unfold cls
    rw [List.getElem?_map]
    cases hj : (ks R P)[j]? with
    | none => rfl
    | some r =>
      have hne : R a ≠ r := by
        rintro rfl
        exact e ((List.getElem?_inj hlt (nodup_ks R P)).1 (h.trans hj.symm))
      rw [Option.map_some, Option.map_some, if_neg hne, List.append_nil]
theorem cls_new {R : Int → Int} {P : List Int} {a : Int} (h : R a ∉ ks R P) : cls R (P ++ [a]) = cls R P ++ [[a]] := by
  rw [cls_snoc_eq, ks_snoc, if_neg h, List.map_append]
  congr 1
  · unfold cls
    refine List.map_congr_left fun r hr => ?_
    rw [if_neg (fun (hh : R a = r) => h (by rw [hh]; exact hr)), List.append_nil]
  · show [(P.filter fun x => decide (R x = R a)) ++ (if R a = R a then [a] else [])] = [[a]]
    rw [if_pos rfl]
    have : (P.filter fun x => decide (R x = R a)) = [] := List.filter_eq_nil_iff.2 fun x hx hh => h (mem_ks.2 ⟨x, hx, of_decide_eq_true hh⟩)
    rw [this]
    rfl
/-- a map from roots to the numbers of their classes -/
def IX (f : Int → Option Int) (R : Int → Int) (P : List Int) : Prop := ∀ r z, f r = some z ↔ ∃ j : Nat, z = (j : Int) ∧ (ks R P)[j]? = some r
theorem ix_nil (R : Int → Int) : IX (fun _ => none) R [] := fun r z => by
  constructor
  · intro h; cases h
  · rintro ⟨j, _, h⟩
    cases h
theorem IX.none {f : Int → Option Int} {R : Int → Int} {P : List Int} (h : IX f R P) {r : Int} (hr : f r = none) : r ∉ ks R P := fun hm => by
  obtain ⟨j, hj⟩ := List.getElem?_of_mem hm
  have := (h r j).2 ⟨j, rfl, hj⟩
  rw [hr] at this
  cases this
theorem IX.old {f : Int → Option Int} {R : Int → Int} {P : List Int} (h : IX f R P) {a z : Int} (hr : f (R a) = some z) : ∃ j : Nat, z = (j : Int) ∧ (ks R P)[j]? = some (R a) ∧ IX f R (P ++ [a]) := by
  obtain ⟨j, hj, hk⟩ := (h _ _).1 hr
  refine ⟨j, hj, hk, ?_⟩
  have : ks R (P ++ [a]) = ks R P := by rw [ks_snoc, if_pos (List.mem_of_getElem? hk)]
  intro r z
  rw [this]
  exact h r z
theorem IX.new {f : Int → Option Int} {R : Int → Int} {P : List Int} (h : IX f R P) {a : Int} (hr : f (R a) = .none) : IX (fun v => if v = R a then some (((ks R P).length : Nat) : Int) else f v) R (P ++ [a]) := by
  have hn := h.none hr
  have e : ks R (P ++ [a]) = ks R P ++ [R a] := by rw [ks_snoc, if_neg hn]
  intro r z
  rw [e]
  show (if r = R a then some (((ks R P).length : Nat) : Int) else f r) = some z ↔ _
  by_cases hra : r = R a
  · subst hra
    rw [if_pos rfl]
    constructor
    · intro hz
      cases hz
      exact ⟨_, rfl, by rw [List.getElem?_append_right (Nat.le_refl _), Nat.sub_self]; rfl⟩
    · rintro ⟨j, rfl, hj⟩
      rcases Nat.lt_or_ge j (ks R P).length with hl | hl
      · rw [List.getElem?_append_left hl] at hj
        exact absurd (List.mem_of_getElem? hj) hn
      · have : j < (ks R P ++ [R a]).length := (List.getElem?_eq_some_iff.1 hj).1
        rw [List.length_append] at this
        simp only [List.length_cons, List.length_nil] at this
        have : j = (ks R P).length := by omega
        rw [this]
  · rw [if_neg hra]
    constructor
    · intro hz
      obtain ⟨j, hj, hk⟩ := (h _ _).1 hz
      exact ⟨j, hj, by rw [List.getElem?_append_left (List.getElem?_eq_some_iff.1 hk).1]; exact hk⟩
    · rintro ⟨j, hj, hk⟩
      rcases Nat.lt_or_ge j (ks R P).length with hl | hl
      · rw [List.getElem?_append_left hl] at hk
        exact (h _ _).2 ⟨j, hj, hk⟩
      · rw [List.getElem?_append_right hl] at hk
        have := List.mem_of_getElem? hk
        rw [List.mem_singleton] at this
        exact absurd this hra
/-- a list in ascending order, each number once -/
def asc (l : List Int) : List Int := cpt (l.mergeSort fun x y => decide (x ≤ y))
theorem mem_asc (l : List Int) (x : Int) : x ∈ asc l ↔ x ∈ l := by
  unfold asc
  rw [mem_cpt, List.mem_mergeSort]
theorem asc_asc (l : List Int) : (asc l).Pairwise (· < ·) := by
  refine cpt_asc _ ?_
  have := List.pairwise_mergeSort (le := fun x y : Int => decide (x ≤ y)) (fun a b c h1 h2 => by simp at h1 h2 ⊢; omega) (fun a b => by simp; omega) l
  exact this.imp fun h => of_decide_eq_true h
theorem asc_of {l xs : List Int} (hp : xs.Perm l) (hs : xs.Pairwise (· ≤ ·)) : cpt xs = asc l :=
  asc_eq _ _ (cpt_asc _ hs) (asc_asc l) fun x => by rw [mem_cpt, mem_asc]; exact hp.mem_iff
/-- the classes of facts -/
def clsL (l : List Fc) : List (List Int) := cls (repF l) (asc (adrs l))
theorem asc_nodup (l : List Int) : (asc l).Nodup := (asc_asc l).imp fun h => Int.ne_of_lt h
theorem adrs_snoc (l : List Fc) (f : Fc) : adrs (l ++ [f]) = adrs l ++ [f.a, f.b] := by simp [adrs]
theorem adrs_len (l : List Fc) : (adrs l).length = 2 * l.length := by
  induction l with
  | nil => rfl
  | cons f l ih => 
    have : adrs (f :: l) = f.a :: f.b :: adrs l := rfl
    rw [this, List.length_cons, List.length_cons, List.length_cons, ih]; omega
end Go.Proofs.Ytleckflmckbheaa

namespace Go.Proofs.Ytleckflmckbheaa
open Go.RowKit
set_option linter.unusedVariables false
set_option linter.unusedSimpArgs false
def Fc.cells (f : Fc) : List Value := [.int .i64 f.id, .int .u32 f.a, .int .u32 f.b]
def Fc.Ok (f : Fc) : Prop := 0 ≤ f.a ∧ f.a ≤ 4294967295 ∧ 0 ≤ f.b ∧ f.b ≤ 4294967295
def Fc.zero : Fc := ⟨0, 0, 0⟩
def fcs (l : List Fc) : List Value := l.flatMap Fc.cells
theorem fc_cells_len (f : Fc) : f.cells.length = 3 := rfl
theorem fcs_len (l : List Fc) : (fcs l).length = l.length * 3 := by
  induction l with
  | nil => rfl
  | cons f l ih => simp only [fcs, List.flatMap_cons, List.length_append] at ih ⊢; rw [ih]; simp only [Fc.cells, List.length_cons, List.length_nil]; omega
theorem fcs_app (a b : List Fc) : fcs (a ++ b) = fcs a ++ fcs b := by simp [fcs]
theorem fcs_ix : ∀ {l : List Fc} {i : Nat} {f : Fc} (h : l[i]? = some f) (k : Nat) (hk : k < 3), (fcs l)[i * 3 + k]? = f.cells[k]?
  | [], _, _, h, _, _ => by cases h
  | x :: l, 0, f, h, k, hk => by
    obtain rfl : x = f := by simpa using h
    show (x.cells ++ fcs l)[0 * 3 + k]? = _
    rw [Nat.zero_mul, Nat.zero_add, List.getElem?_append_left (by simpa [Fc.cells] using hk)]
  | x :: l, i + 1, f, h, k, hk => by
    show (x.cells ++ fcs l)[(i + 1) * 3 + k]? = _
    rw [List.getElem?_append_right (by simp [Fc.cells]; omega), show (i + 1) * 3 + k - x.cells.length = i * 3 + k by simp [Fc.cells]; omega]
    exact fcs_ix (by simpa using h) k hk
theorem fcs_cell {l : List Fc} {i : Nat} {f : Fc} (h : l[i]? = some f) {w : World} {b o : Nat} (hc : ∀ (j : Nat) (u : Value), (fcs l)[j]? = some u → w.cell? ⟨b, o + j, none⟩ = some u) (j : Nat) (u : Value) (hu : f.cells[j]? = some u) : w.cell? ⟨b, o + i * 3 + j, none⟩ = some u := by
  have hj : j < 3 := by have := (List.getElem?_eq_some_iff.1 hu).1; simpa [Fc.cells] using this
  rw [Nat.add_assoc]
  exact hc _ u (by rw [fcs_ix h j hj]; exact hu)
theorem fcs_one (l : List Fc) : ∀ u ∈ fcs l, u.oneCell' = true := by
  intro u hu
  simp only [fcs, List.mem_flatMap] at hu
  obtain ⟨f, _, hu⟩ := hu
  simp only [Fc.cells, List.mem_cons, List.not_mem_nil, or_false] at hu
  rcases hu with rfl | rfl | rfl <;> rfl
theorem fc_one (f : Fc) : ∀ u ∈ f.cells, u.oneCell' = true := fun u hu => fcs_one [f] u (by simpa [fcs] using hu)
/-- each fact stands behind the one ahead of it -/
def validN (l : List Fc) (k : Nat) : Prop := ∀ i, i < k → ∀ f, l[i]? = some f → 0 ≤ f.id ∧ f.a ≠ f.b ∧ ∀ g, 0 < i → l[i - 1]? = some g → g.id < f.id
def validF (l : List Fc) : Prop := l.length ≤ 1024 ∧ validN l l.length
end Go.Proofs.Ytleckflmckbheaa

namespace Go.Proofs.Ytleckflmckbheaa
open Go.RowKit
set_option linter.unusedVariables false
set_option linter.unusedSimpArgs false
set_option maxRecDepth 20000
theorem wf32 {x : Int} (h : 0 ≤ x ∧ x ≤ 4294967295) : (Lit.int .u32 x).wf = true := by simp [Lit.wf, IntKind.min, IntKind.max, IntKind.signed, IntKind.bits]; omega
theorem imS : IMap Try.prog 60 35 35 .u32 .u32 := ⟨Try.underlying60, Try.underlying35, Try.underlying35, fun w => rfl⟩
theorem rt_range {f : Int → Option Int} {R : Int → Int} (hR : Roots f R) (hrg : ∀ x p, f x = some p → 0 ≤ p ∧ p ≤ 4294967295) {a : Int} (ha : 0 ≤ a ∧ a ≤ 4294967295) : 0 ≤ R a ∧ R a ≤ 4294967295 := by
  obtain ⟨n, hn⟩ := hR a
  generalize R a = r at hn
  induction hn with
  | here h => exact ha
  | step h t ih => exact ih (hrg _ _ h)
/-- an object is a forest of parents with the roots R -/
def UF (ob : Obj) (n : Nat) (R : Int → Int) : Prop := ∃ f : Int → Option Int, MapII Try.prog 35 35 .u32 .u32 ob n f ∧ Roots f R ∧ ∀ x p, f x = some p → 0 ≤ p ∧ p ≤ 4294967295
theorem unrnm40 : (Try.f40.name == "runtime.NumGoroutine") = false := by decide
theorem unrbd40 : Try.f40.body.isNone = false := rfl
set_option maxHeartbeats 1000000 in
theorem root_any (g : Nat) (ob : Obj) (n : Nat) (R : Int → Int) (w : World) (hb : w.heap[g]? = some ob) (hu : UF ob n R) (hn : n < maxLen) (a : Int) (ha : 0 ≤ a ∧ a ≤ 4294967295) :
    Calls Try.prog 40 #[.map (some g), .int .u32 a] w fun e w' => ∃ ob', e = .returned (.int .u32 (R a)) ∧ UF ob' n R ∧ w'.heap[g]? = some ob' ∧ w.grownBy w' (some g) := by
  obtain ⟨f, hm, hR, hrg⟩ := hu
  obtain ⟨d, hd⟩ := hR a
  refine begin_ (vs := [.map (some g), .int .u32 a]) (I := Pm ⟨wbut w g, g⟩ (.oth g ob :: oths g w)) Try.func40 rfl rfl rfl ?_ (Pm.mapStart hb)
  refine TC.seq_ ?_
  refine TC.region ?_
  refine TL.val rfl rfl rfl (gives_assign rfl rfl) ?_
  refine TL.end_ ?_
  refine TX.then_ ?_
  refine TC.block ?_
  refine TC.loop_ (α := {y : Int × Obj × (Int → Option Int) × Nat // MapII Try.prog 35 35 .u32 .u32 y.2.1 n y.2.2.1 ∧ Roots y.2.2.1 R ∧ (∀ z p, y.2.2.1 z = some p → 0 ≤ p ∧ p ≤ 4294967295) ∧ R y.1 = R a ∧ (0 ≤ y.1 ∧ y.1 ≤ 4294967295) ∧ RtN y.2.2.1 y.1 (R y.1) y.2.2.2}) (fun y => [(0, .map (some g)), (1, .int .u32 y.1.1)]) (fun y => Pm ⟨wbut w g, g⟩ ([.oth g y.1.2.1] ++ oths g w)) (fun y => y.1.2.2.2) (⟨(a, ob, f, d), hm, hR, hrg, rfl, ha, hd⟩) ⟨rfl, rfl, trivial⟩ (fun w1 hw => hw) ?_
  rintro ⟨⟨x, ob, f, d⟩, hm, hR, hrg, hRx, hx, hd⟩
  dsimp only at hm hR hrg hRx hx hd ⊢
  refine TC.block ?_
  refine TC.seq_ ?_
  rcases ho : f x with _ | p
  · have hfx := ho
    refine TC.region ?_
    refine TL.val rfl rfl rfl (gives_move rfl rfl) ?_
    refine TL.val rfl rfl rfl (gives_move rfl rfl) ?_
    refine TL.val rfl rfl rfl (gives_lookNone rfl rfl rfl imS (i := 0) rfl hm (wf32 hx) hfx) ?_
    refine TL.val rfl rfl rfl (gives_move rfl rfl) ?_
    refine TL.val rfl rfl rfl (gives_extract rfl rfl rfl) ?_
    refine TL.val rfl rfl rfl (gives_extract rfl rfl rfl) ?_
    refine TL.val rfl rfl rfl (gives_assign rfl rfl) ?_
    refine TL.val rfl rfl rfl (gives_assign rfl rfl) ?_
    refine TL.end_ ?_
    refine TX.then_ ?_
    refine TC.seq_ ?_
    refine TC.seq_ ?_
    refine TC.region ?_
    refine TL.val rfl rfl rfl (gives_move rfl rfl) ?_
    refine TL.val rfl rfl rfl (gives_boolnot rfl rfl) ?_
    refine TL.end_ ?_
    refine TX.then_ ?_
    refine TC.condT rfl ?_
    refine TC.seq_ ?_
    refine TC.region ?_
    refine TL.val rfl rfl rfl (gives_move rfl rfl) ?_
    refine TL.val rfl rfl rfl (gives_assign rfl rfl) ?_
    refine TL.end_ ?_
    refine TX.then_ ?_
    refine TC.ret_ ?_
    refine TX.then_ret ?_
    refine TX.in_ret ?_
    refine TX.then_ret ?_
    refine TX.in_ret ?_
    exact ret_tmp Try.results40 rfl (fun w1 hw => ⟨ob, by rw [← hRx]; exact congrArg (fun z => Ending.returned (Value.int .u32 z)) (hd.det (.here hfx)).1.symm, ⟨f, hm, hR, hrg⟩, (hw.at_ (k := 0) rfl).1, hw.mapEnd (fun q hq => by simp [hq])⟩)
  · have hfx := ho
    obtain ⟨d1, hd1⟩ : ∃ d1, RtN f p (R p) d1 := hR p
    have hde := (hd.det (.step hfx (hR.step hfx ▸ hd1 : RtN f p (R x) d1))).2
    have hstep : RtN f p (R p) (d - 1) := by rw [hde]; exact hd1
    refine TC.region ?_
    refine TL.val rfl rfl rfl (gives_move rfl rfl) ?_
    refine TL.val rfl rfl rfl (gives_move rfl rfl) ?_
    refine TL.val rfl rfl rfl (gives_lookSome rfl rfl rfl imS (i := 0) rfl hm (wf32 hx) hfx) ?_
    refine TL.val rfl rfl rfl (gives_move rfl rfl) ?_
    refine TL.val rfl rfl rfl (gives_extract rfl rfl rfl) ?_
    refine TL.val rfl rfl rfl (gives_extract rfl rfl rfl) ?_
    refine TL.val rfl rfl rfl (gives_assign rfl rfl) ?_
    refine TL.val rfl rfl rfl (gives_assign rfl rfl) ?_
    refine TL.end_ ?_
    refine TX.then_ ?_
    refine TC.seq_ ?_
    refine TC.seq_ ?_
    refine TC.region ?_
    refine TL.val rfl rfl rfl (gives_move rfl rfl) ?_
    refine TL.val rfl rfl rfl (gives_boolnot rfl rfl) ?_
    refine TL.end_ ?_
    refine TX.then_ ?_
    refine TC.condF rfl ?_
    refine TC.skip_ ?_
    refine TX.then_ ?_
    refine TC.seq_ ?_
    refine TC.seq_ ?_
    rcases ho2 : f p with _ | q
    · have hfp := ho2
      refine TC.region ?_
      refine TL.val rfl rfl rfl (gives_move rfl rfl) ?_
      refine TL.val rfl rfl rfl (gives_move rfl rfl) ?_
      refine TL.val rfl rfl rfl (gives_lookNone rfl rfl rfl imS (i := 0) rfl hm (wf32 (hrg _ _ hfx)) hfp) ?_
      refine TL.val rfl rfl rfl (gives_move rfl rfl) ?_
      refine TL.val rfl rfl rfl (gives_extract rfl rfl rfl) ?_
      refine TL.val rfl rfl rfl (gives_extract rfl rfl rfl) ?_
      refine TL.val rfl rfl rfl (gives_assign rfl rfl) ?_
      refine TL.val rfl rfl rfl (gives_assign rfl rfl) ?_
      refine TL.end_ ?_
      refine TX.then_ ?_
      refine TC.seq_ ?_
      refine TC.region ?_
      refine TL.val rfl rfl rfl (gives_move rfl rfl) ?_
      refine TL.end_ ?_
      refine TX.then_ ?_
      refine TC.condF rfl ?_
      refine TC.skip_ ?_
      refine TX.then_ ?_
      refine TC.region ?_
      refine TL.val rfl rfl rfl (gives_move rfl rfl) ?_
      refine TL.val rfl rfl rfl (gives_assign rfl rfl) ?_
      refine TL.end_ ?_
      refine TX.in_normal ?_
      exact TX.round (⟨(p, ob, f, d - 1), hm, hR, hrg, (hR.step hfx).symm.trans hRx, hrg _ _ hfx, hstep⟩) (by show d - 1 < d; omega) ⟨rfl, rfl, trivial⟩ (fun w1 hw => hw)
    · have hfp := ho2
      have hnear : RtN (upd f x q) p (R p) (d - 1) := RtN.near ⟨_, hd⟩ hstep (by omega)
      refine TC.region ?_
      refine TL.val rfl rfl rfl (gives_move rfl rfl) ?_
      refine TL.val rfl rfl rfl (gives_move rfl rfl) ?_
      refine TL.val rfl rfl rfl (gives_lookSome rfl rfl rfl imS (i := 0) rfl hm (wf32 (hrg _ _ hfx)) hfp) ?_
      refine TL.val rfl rfl rfl (gives_move rfl rfl) ?_
      refine TL.val rfl rfl rfl (gives_extract rfl rfl rfl) ?_
      refine TL.val rfl rfl rfl (gives_extract rfl rfl rfl) ?_
      refine TL.val rfl rfl rfl (gives_assign rfl rfl) ?_
      refine TL.val rfl rfl rfl (gives_assign rfl rfl) ?_
      refine TL.end_ ?_
      refine TX.then_ ?_
      refine TC.seq_ ?_
      refine TC.region ?_
      refine TL.val rfl rfl rfl (gives_move rfl rfl) ?_
      refine TL.end_ ?_
      refine TX.then_ ?_
      refine TC.condT rfl ?_
      refine TC.region ?_
      refine TL.val rfl rfl rfl (gives_move rfl rfl) ?_
      refine TL.val rfl rfl rfl (gives_move rfl rfl) ?_
      refine TL.val rfl rfl rfl (gives_move rfl rfl) ?_
      refine TL.mapset (i := 0) rfl rfl rfl rfl rfl rfl imS rfl mine_but hm hn (wf32 hx) (wf32 (hrg _ _ hfp)) (fun ob' hm' => ?_)
      rw [hfx] at hm'
      refine TL.end_ ?_
      refine TX.then_ ?_
      refine TC.region ?_
      refine TL.val rfl rfl rfl (gives_move rfl rfl) ?_
      refine TL.val rfl rfl rfl (gives_assign rfl rfl) ?_
      refine TL.end_ ?_
      refine TX.in_normal ?_
      exact TX.round (⟨(p, ob', upd f x q, d - 1), hm', hR.halve hfx hfp, (fun z r hz => by change (if z = x then some q else f z) = some r at hz; split at hz; (cases hz; exact hrg _ _ hfp); exact hrg _ _ hz), (hR.step hfx).symm.trans hRx, hrg _ _ hfx, hnear⟩) (by show d - 1 < d; omega) ⟨rfl, rfl, trivial⟩ (fun w1 hw => hw)
set_option maxHeartbeats 1000000 in
theorem join_any (g : Nat) (ob : Obj) (n : Nat) (R : Int → Int) (w : World) (hb0 : w.heap[g]? = some ob) (hu : UF ob n R) (hn : n < maxLen) (fc : Fc) (ha : 0 ≤ fc.a ∧ fc.a ≤ 4294967295) (hb : 0 ≤ fc.b ∧ fc.b ≤ 4294967295) :
    Calls Try.prog 36 #[.map (some g), .int .u32 fc.a, .int .u32 fc.b] w fun e w' => ∃ ob' n', e = .returned (.bool (decide (R fc.a ≠ R fc.b))) ∧ n' ≤ n + 1 ∧ UF ob' n' (joinR R fc) ∧ w'.heap[g]? = some ob' ∧ w.grownBy w' (some g) := by
  refine begin_ (vs := [.map (some g), .int .u32 fc.a, .int .u32 fc.b]) (I := Pm ⟨wbut w g, g⟩ (.oth g ob :: oths g w)) Try.func36 rfl rfl rfl ?_ (Pm.mapStart hb0)
  refine TC.seq_ ?_
  refine TC.region ?_
  refine TL.val rfl rfl rfl (gives_assign rfl rfl) ?_
  refine TL.end_ ?_
  refine TX.then_ ?_
  refine TC.seq_ ?_
  refine TC.region ?_
  refine TL.val rfl rfl rfl (gives_move rfl rfl) ?_
  refine TL.val rfl rfl rfl (gives_move rfl rfl) ?_
  refine TL.pcallObj (k := 0) (α := Unit) (fun _ => .int .u32 (R fc.a)) (fun _ ob2 => UF ob2 n R) rfl rfl rfl rfl rfl Try.func40 unrnm40 unrbd40 rfl mine_but (fun w1 hw hb1 => (root_any g ob n R w1 hb1 hu hn fc.a ha).mono fun e w2 ⟨ob2, h1, h2, h3, h4⟩ => ⟨(), ob2, h1, h2, h3, h4⟩) ?_
  rintro ⟨⟩ ob1 hu1
  dsimp only [List.set_cons_zero] at hu1 ⊢
  refine TL.val rfl rfl rfl (gives_move rfl rfl) ?_
  refine TL.val rfl rfl rfl (gives_move rfl rfl) ?_
  refine TL.pcallObj (k := 0) (α := Unit) (fun _ => .int .u32 (R fc.b)) (fun _ ob2 => UF ob2 n R) rfl rfl rfl rfl rfl Try.func40 unrnm40 unrbd40 rfl mine_but (fun w1 hw hb1 => (root_any g ob1 n R w1 hb1 hu1 hn fc.b hb).mono fun e w2 ⟨ob2, h1, h2, h3, h4⟩ => ⟨(), ob2, h1, h2, h3, h4⟩) ?_
  rintro ⟨⟩ ob2 hu2
  dsimp only [List.set_cons_zero] at hu2 ⊢
  refine TL.val rfl rfl rfl (gives_assign rfl rfl) ?_
  refine TL.val rfl rfl rfl (gives_assign rfl rfl) ?_
  refine TL.end_ ?_
  refine TX.then_ ?_
  refine TC.seq_ ?_
  refine TC.seq_ ?_
  refine TC.region ?_
  refine TL.val rfl rfl rfl (gives_move rfl rfl) ?_
  refine TL.val rfl rfl rfl (gives_move rfl rfl) ?_
  refine TL.vsplit rfl rfl rfl (gives_bin rfl rfl rfl (fun w => bin_eql w)) (fun h15 => ?_) (fun h15 => ?_)
  · have q15 := of_decide_eq_true h15
    refine TL.end_ ?_
    refine TX.then_ ?_
    refine TC.condT rfl ?_
    refine TC.seq_ ?_
    refine TC.region ?_
    refine TL.val rfl rfl rfl (gives_assign rfl rfl) ?_
    refine TL.end_ ?_
    refine TX.then_ ?_
    refine TC.ret_ ?_
    refine TX.then_ret ?_
    exact ret_tmp Try.results36 rfl (fun w1 hw => ⟨ob2, n, by rw [decide_eq_false (fun h => h q15)], Nat.le_succ _, by rw [joinR_same q15]; exact hu2, (hw.at_ (k := 0) rfl).1, hw.mapEnd (fun q hq => by simp [hq])⟩)
  · have q15 := of_decide_eq_false h15
    refine TL.end_ ?_
    refine TX.then_ ?_
    refine TC.condF rfl ?_
    refine TC.skip_ ?_
    refine TX.then_ ?_
    refine TC.seq_ ?_
    refine TC.region ?_
    refine TL.val rfl rfl rfl (gives_move rfl rfl) ?_
    refine TL.val rfl rfl rfl (gives_move rfl rfl) ?_
    refine TL.val rfl rfl rfl (gives_move rfl rfl) ?_
    obtain ⟨f, hm, hR, hrg⟩ := hu2
    have hfa := (hR.idem fc.a).2
    have hfb := (hR.idem fc.b).2
    have hra := rt_range hR hrg ha
    have hrb := rt_range hR hrg hb
    refine TL.mapset (i := 0) rfl rfl rfl rfl rfl rfl imS rfl mine_but hm hn (wf32 hra) (wf32 hrb) (fun ob3 hm3 => ?_)
    rw [hfa] at hm3
    have hu3 : UF ob3 (n + 1) (joinR R fc) := ⟨upd f (R fc.a) (R fc.b), hm3, by unfold joinR; rw [if_neg q15]; exact hR.join hfa hfb q15, fun z r hz => by change (if z = R fc.a then some (R fc.b) else f z) = some r at hz; split at hz; (cases hz; exact hrb); exact hrg _ _ hz⟩
    refine TL.end_ ?_
    refine TX.then_ ?_
    refine TC.seq_ ?_
    refine TC.region ?_
    refine TL.val rfl rfl rfl (gives_assign rfl rfl) ?_
    refine TL.end_ ?_
    refine TX.then_ ?_
    refine TC.ret_ ?_
    exact ret_tmp Try.results36 rfl (fun w1 hw => ⟨ob3, n + 1, by rw [decide_eq_true q15], Nat.le_refl _, hu3, (hw.at_ (k := 0) rfl).1, hw.mapEnd (fun q hq => by simp [hq])⟩)
end Go.Proofs.Ytleckflmckbheaa

namespace Go.Proofs.Ytleckflmckbheaa
open Go.RowKit
set_option linter.unusedVariables false
set_option linter.unusedSimpArgs false
set_option maxRecDepth 20000
noncomputable instance (l : List Fc) : Decidable (validF l) := Classical.propDecidable _
theorem valid_next {l : List Fc} {i : Nat} {x : Fc} (h : validN l i) (hx : l[i]? = some x) (h1 : 0 ≤ x.id) (h2 : ¬ x.a = x.b) (h3 : ∀ y, 0 < i → l[i - 1]? = some y → y.id < x.id) : validN l (i + 1) := by
  intro j hj f hf
  rcases Nat.lt_or_ge j i with h4 | h4
  · exact h j h4 f hf
  · obtain rfl : j = i := by omega
    rw [hx] at hf
    cases hf
    exact ⟨h1, h2, h3⟩
theorem unvsz42 (w : World) : (sizeOf 42).run Try.prog w = .ok 3 w := rfl
theorem unvag42 (w : World) : (isAgg 42).run Try.prog w = .ok true w := rfl
theorem unvzv42 (w : World) : (zeroValue 42).run Try.prog w = .ok (.agg #[.int .i64 0, .int .u32 0, .int .u32 0]) w := rfl
theorem unvfld42_0 (g o : Nat) (w : World) : (Instr.fieldAt 42 (.pointer (some ⟨g, o, none⟩)) 0).run Try.prog w = .ok (.pointer (some ⟨g, o + 0, none⟩)) w := by kernel_rfl
theorem unvag3 (w : World) : (isAgg 3).run Try.prog w = .ok false w := rfl
theorem unvfld42_1 (g o : Nat) (w : World) : (Instr.fieldAt 42 (.pointer (some ⟨g, o, none⟩)) 1).run Try.prog w = .ok (.pointer (some ⟨g, o + 1, none⟩)) w := by kernel_rfl
theorem unvag35 (w : World) : (isAgg 35).run Try.prog w = .ok false w := rfl
theorem unvfld42_2 (g o : Nat) (w : World) : (Instr.fieldAt 42 (.pointer (some ⟨g, o, none⟩)) 2).run Try.prog w = .ok (.pointer (some ⟨g, o + 2, none⟩)) w := by kernel_rfl
set_option maxHeartbeats 1000000 in
theorem valid_any (A : Option Addr) (n c : Nat) (l : List Fc) (w : World) (hr : Reads w w.heap.size 3 A n (fcs l)) (hl : l.length = n) :
    Calls Try.prog 22 #[.slice A n c] w fun e w' => e = .returned (.bool (decide (validF l))) ∧ Below w.heap.size w w' := by
  subst hl
  refine begin_ (vs := [.slice A l.length c]) Try.func22 rfl rfl rfl ?_ (Pm.start w)
  refine TC.seq_ ?_
  refine TC.region ?_
  refine TL.val rfl rfl rfl (gives_assign rfl rfl) ?_
  refine TL.end_ ?_
  refine TX.then_ ?_
  refine TC.seq_ ?_
  refine TC.seq_ ?_
  refine TC.region ?_
  refine TL.val rfl rfl rfl (gives_move rfl rfl) ?_
  refine TL.val rfl rfl rfl (gives_len rfl Try.underlying26 rfl) ?_
  refine TL.vsplit rfl rfl rfl (gives_bin rfl rfl rfl (fun w => bin_gtr w)) (fun h7 => ?_) (fun h7 => ?_)
  · have q7 := of_decide_eq_true h7
    have hR : ¬ validF l := fun hh => by have := hh.1; omega
    refine TL.end_ ?_
    refine TX.then_ ?_
    refine TC.condT rfl ?_
    refine TC.seq_ ?_
    refine TC.region ?_
    refine TL.val rfl rfl rfl (gives_assign rfl rfl) ?_
    refine TL.end_ ?_
    refine TX.then_ ?_
    refine TC.ret_ ?_
    refine TX.then_ret ?_
    exact ret_tmp Try.results22 rfl (fun w1 hw => ⟨by rw [decide_eq_false hR], hw.bel⟩)
  · have q7 := of_decide_eq_false h7
    refine TL.end_ ?_
    refine TX.then_ ?_
    refine TC.condF rfl ?_
    refine TC.skip_ ?_
    refine TX.then_ ?_
    refine TC.seq_ ?_
    refine TC.seq_ ?_
    refine TC.region ?_
    refine TL.val rfl rfl rfl (gives_move rfl rfl) ?_
    refine TL.val rfl rfl rfl (gives_len rfl Try.underlying26 rfl) ?_
    refine TL.val rfl rfl rfl (gives_move rfl rfl) ?_
    refine TL.end_ ?_
    refine TX.then_ ?_
    refine TC.block ?_
    refine TC.loop_ (α := {i : Nat // i ≤ l.length ∧ validN l i}) (fun y => [(0, .slice A l.length c), (8, .slice A l.length c), (9, .int .i64 (l.length : Nat)), (10, .int .i64 (y.1 : Nat))]) (fun y => Pm w []) (fun y => l.length - y.1) (⟨0, Nat.zero_le _, fun j hj => absurd hj (Nat.not_lt_zero j)⟩) ⟨rfl, rfl, rfl, rfl, trivial⟩ (fun w1 hw => hw) ?_
    rintro ⟨i, hi, hv⟩
    dsimp only at hi hv ⊢
    refine TC.seq_ ?_
    refine TC.region ?_
    refine TL.vsplit rfl rfl rfl (gives_bin rfl rfl rfl (fun w => bin_lss w)) (fun h11 => ?_) (fun h11 => ?_)
    · have q11 := of_decide_eq_true h11
      have hi2 : i < l.length := by omega
      obtain ⟨x, hx⟩ : ∃ x, l[i]? = some x := ⟨_, List.getElem?_eq_getElem hi2⟩
      obtain ⟨b2, o2, hA2, hbb2, hc2⟩ := hr.ad (by omega) (by decide)
      refine TL.end_ ?_
      refine TX.then_ ?_
      refine TC.seq_ ?_
      refine TC.condT rfl ?_
      refine TC.skip_ ?_
      refine TX.then_ ?_
      refine TC.seq_ ?_
      refine TC.block ?_
      refine TC.seq_ ?_
      refine TC.region ?_
      refine TL.val rfl rfl rfl (gives_move rfl rfl) ?_
      refine TL.val rfl rfl rfl (gives_at (v := .pointer (some ⟨b2, o2 + i * 3, none⟩)) rfl rfl rfl (fun w => at_el Try.underlying26 unvsz42 hA2 _ _ i hi2 rfl w)) ?_
      refine TL.val rfl rfl rfl (gives_loadR rfl rfl unvag42 unvsz42 (fc_cells_len x) (fun w1 hw j u hu => (hw.bel.cell hbb2).trans (fcs_cell hx hc2 j u hu))) ?_
      refine TL.pnew rfl rfl rfl (exec_alloc (cs := [.int .i64 0, .int .u32 0, .int .u32 0]) rfl unvzv42 rfl) (fun g4 => ?_)
      refine TL.val rfl rfl rfl (gives_assign rfl rfl) ?_
      refine TL.pstore (k := 0) (vs := x.cells) rfl rfl rfl rfl rfl rfl rfl unvsz42 (fc_one x) (by show 3 ≤ 3; decide) (L' := [.blk g4 42 x.cells]) rfl ?_
      refine TL.end_ ?_
      refine TX.then_ ?_
      refine TC.seq_ ?_
      have hway : x.id < 0 ∨ (¬ x.id < 0 ∧ x.a = x.b) ∨ (¬ x.id < 0 ∧ ¬ x.a = x.b ∧ ¬ 0 < i) ∨ (¬ x.id < 0 ∧ ¬ x.a = x.b ∧ 0 < i ∧ ∀ y, l[i - 1]? = some y → y.id < x.id) ∨ (¬ x.id < 0 ∧ ¬ x.a = x.b ∧ 0 < i ∧ ¬ ∀ y, l[i - 1]? = some y → y.id < x.id) := by
        by_cases p1 : x.id < 0
        · exact .inl p1
        · by_cases p2 : x.a = x.b
          · exact .inr (.inl ⟨p1, p2⟩)
          · by_cases p3 : 0 < i
            · by_cases p4 : ∀ y, l[i - 1]? = some y → y.id < x.id
              · exact .inr (.inr (.inr (.inl ⟨p1, p2, p3, p4⟩)))
              · exact .inr (.inr (.inr (.inr ⟨p1, p2, p3, p4⟩)))
            · exact .inr (.inr (.inl ⟨p1, p2, p3⟩))
      rcases hway with p1 | ⟨p1, p2⟩ | ⟨p1, p2, p3⟩ | ⟨p1, p2, p3, p5⟩ | ⟨p1, p2, p3, p5⟩
      · have hR : ¬ validF l := fun hh => by obtain ⟨v1, v2, v3⟩ := hh.2 i hi2 x hx; omega
        refine TC.quiet_ (E' := ?_) (by kernel_rfl) (by kernel_rfl) (fun w hw => hw.drawn _) ?_ ?_
        rotate_left
        · refine TQ.val rfl rfl rfl (gives_field (v := .pointer (some ⟨g4, 0, none⟩)) rfl rfl (fun w => unvfld42_0 _ _ w)) ?_
          refine TQ.val rfl rfl rfl (pm_load (k := 0) (i := 0) rfl rfl unvag3 rfl rfl) ?_
          refine TQ.val rfl rfl rfl (gives_bin rfl rfl rfl (fun w => bin_lss_t (p1) w)) ?_
          refine TQ.val rfl rfl rfl (gives_move rfl rfl) ?_
          refine TQ.off rfl rfl rfl rfl rfl rfl ?_
          refine TQ.off rfl rfl rfl rfl rfl rfl ?_
          refine TQ.off rfl rfl rfl rfl rfl rfl ?_
          refine TQ.off rfl rfl rfl rfl rfl rfl ?_
          refine TQ.off rfl rfl rfl rfl rfl rfl ?_
          refine TQ.val rfl rfl rfl (gives_pick rfl rfl rfl) ?_
          refine TQ.val rfl rfl rfl (gives_move rfl rfl) ?_
          refine TQ.off rfl rfl rfl rfl rfl rfl ?_
          refine TQ.off rfl rfl rfl rfl rfl rfl ?_
          refine TQ.off rfl rfl rfl rfl rfl rfl ?_
          refine TQ.offU rfl rfl rfl rfl rfl ?_
          refine TQ.offU rfl rfl rfl rfl rfl ?_
          refine TQ.offU rfl rfl rfl rfl rfl ?_
          refine TQ.offU rfl rfl rfl rfl rfl ?_
          refine TQ.offU rfl rfl rfl rfl rfl ?_
          refine TQ.offU rfl rfl rfl rfl rfl ?_
          refine TQ.offU rfl rfl rfl rfl rfl ?_
          refine TQ.offU rfl rfl rfl rfl rfl ?_
          refine TQ.offU rfl rfl rfl rfl rfl ?_
          refine TQ.off rfl rfl rfl rfl rfl rfl ?_
          refine TQ.val rfl rfl rfl (gives_pick rfl rfl rfl) ?_
          exact TQ.end_
        refine TX.then_ ?_
        refine TC.condT rfl ?_
        refine TC.seq_ ?_
        refine TC.region ?_
        refine TL.val rfl rfl rfl (gives_assign rfl rfl) ?_
        refine TL.end_ ?_
        refine TX.then_ ?_
        refine TC.ret_ ?_
        refine TX.in_ret ?_
        refine TX.then_ret ?_
        refine TX.then_ret ?_
        refine TX.in_ret ?_
        refine TX.then_ret ?_
        exact ret_tmp Try.results22 rfl (fun w1 hw => ⟨by rw [decide_eq_false hR], hw.bel⟩)
      · have hR : ¬ validF l := fun hh => by obtain ⟨v1, v2, v3⟩ := hh.2 i hi2 x hx; exact v2 p2
        refine TC.quiet_ (E' := ?_) (by kernel_rfl) (by kernel_rfl) (fun w hw => hw.drawn _) ?_ ?_
        rotate_left
        · refine TQ.val rfl rfl rfl (gives_field (v := .pointer (some ⟨g4, 0, none⟩)) rfl rfl (fun w => unvfld42_0 _ _ w)) ?_
          refine TQ.val rfl rfl rfl (pm_load (k := 0) (i := 0) rfl rfl unvag3 rfl rfl) ?_
          refine TQ.val rfl rfl rfl (gives_bin rfl rfl rfl (fun w => bin_lss_f (p1) w)) ?_
          refine TQ.val rfl rfl rfl (gives_move rfl rfl) ?_
          refine TQ.on rfl rfl rfl ?_
          refine TQ.val rfl rfl rfl (gives_field (v := .pointer (some ⟨g4, 1, none⟩)) rfl rfl (fun w => unvfld42_1 _ _ w)) ?_
          refine TQ.on rfl rfl rfl ?_
          refine TQ.val rfl rfl rfl (pm_load (k := 0) (i := 1) rfl rfl unvag35 rfl rfl) ?_
          refine TQ.on rfl rfl rfl ?_
          refine TQ.val rfl rfl rfl (gives_field (v := .pointer (some ⟨g4, 2, none⟩)) rfl rfl (fun w => unvfld42_2 _ _ w)) ?_
          refine TQ.on rfl rfl rfl ?_
          refine TQ.val rfl rfl rfl (pm_load (k := 0) (i := 2) rfl rfl unvag35 rfl rfl) ?_
          refine TQ.on rfl rfl rfl ?_
          refine TQ.val rfl rfl rfl (gives_bin rfl rfl rfl (fun w => bin_eql_t (p2) w)) ?_
          refine TQ.val rfl rfl rfl (gives_pick rfl rfl rfl) ?_
          refine TQ.val rfl rfl rfl (gives_move rfl rfl) ?_
          refine TQ.off rfl rfl rfl rfl rfl rfl ?_
          refine TQ.off rfl rfl rfl rfl rfl rfl ?_
          refine TQ.off rfl rfl rfl rfl rfl rfl ?_
          refine TQ.offU rfl rfl rfl rfl rfl ?_
          refine TQ.offU rfl rfl rfl rfl rfl ?_
          refine TQ.offU rfl rfl rfl rfl rfl ?_
          refine TQ.offU rfl rfl rfl rfl rfl ?_
          refine TQ.offU rfl rfl rfl rfl rfl ?_
          refine TQ.offU rfl rfl rfl rfl rfl ?_
          refine TQ.offU rfl rfl rfl rfl rfl ?_
          refine TQ.offU rfl rfl rfl rfl rfl ?_
          refine TQ.offU rfl rfl rfl rfl rfl ?_
          refine TQ.off rfl rfl rfl rfl rfl rfl ?_
          refine TQ.val rfl rfl rfl (gives_pick rfl rfl rfl) ?_
          exact TQ.end_
        refine TX.then_ ?_
        refine TC.condT rfl ?_
        refine TC.seq_ ?_
        refine TC.region ?_
        refine TL.val rfl rfl rfl (gives_assign rfl rfl) ?_
        refine TL.end_ ?_
        refine TX.then_ ?_
        refine TC.ret_ ?_
        refine TX.in_ret ?_
        refine TX.then_ret ?_
        refine TX.then_ret ?_
        refine TX.in_ret ?_
        refine TX.then_ret ?_
        exact ret_tmp Try.results22 rfl (fun w1 hw => ⟨by rw [decide_eq_false hR], hw.bel⟩)
      · have hst : validN l (i + 1) := valid_next hv hx (by omega) p2 (fun y h0 => absurd h0 p3)
        refine TC.quiet_ (E' := ?_) (by kernel_rfl) (by kernel_rfl) (fun w hw => hw.drawn _) ?_ ?_
        rotate_left
        · refine TQ.val rfl rfl rfl (gives_field (v := .pointer (some ⟨g4, 0, none⟩)) rfl rfl (fun w => unvfld42_0 _ _ w)) ?_
          refine TQ.val rfl rfl rfl (pm_load (k := 0) (i := 0) rfl rfl unvag3 rfl rfl) ?_
          refine TQ.val rfl rfl rfl (gives_bin rfl rfl rfl (fun w => bin_lss_f (p1) w)) ?_
          refine TQ.val rfl rfl rfl (gives_move rfl rfl) ?_
          refine TQ.on rfl rfl rfl ?_
          refine TQ.val rfl rfl rfl (gives_field (v := .pointer (some ⟨g4, 1, none⟩)) rfl rfl (fun w => unvfld42_1 _ _ w)) ?_
          refine TQ.on rfl rfl rfl ?_
          refine TQ.val rfl rfl rfl (pm_load (k := 0) (i := 1) rfl rfl unvag35 rfl rfl) ?_
          refine TQ.on rfl rfl rfl ?_
          refine TQ.val rfl rfl rfl (gives_field (v := .pointer (some ⟨g4, 2, none⟩)) rfl rfl (fun w => unvfld42_2 _ _ w)) ?_
          refine TQ.on rfl rfl rfl ?_
          refine TQ.val rfl rfl rfl (pm_load (k := 0) (i := 2) rfl rfl unvag35 rfl rfl) ?_
          refine TQ.on rfl rfl rfl ?_
          refine TQ.val rfl rfl rfl (gives_bin rfl rfl rfl (fun w => bin_eql_f (p2) w)) ?_
          refine TQ.val rfl rfl rfl (gives_pick rfl rfl rfl) ?_
          refine TQ.val rfl rfl rfl (gives_move rfl rfl) ?_
          refine TQ.on rfl rfl rfl ?_
          refine TQ.val rfl rfl rfl (gives_move rfl rfl) ?_
          refine TQ.on rfl rfl rfl ?_
          refine TQ.val rfl rfl rfl (gives_bin rfl rfl rfl (fun w => bin_gtr_f (by omega) w)) ?_
          refine TQ.on rfl rfl rfl ?_
          refine TQ.val rfl rfl rfl (gives_move rfl rfl) ?_
          refine TQ.off rfl rfl rfl rfl rfl rfl ?_
          refine TQ.off rfl rfl rfl rfl rfl rfl ?_
          refine TQ.off rfl rfl rfl rfl rfl rfl ?_
          refine TQ.off rfl rfl rfl rfl rfl rfl ?_
          refine TQ.off rfl rfl rfl rfl rfl rfl ?_
          refine TQ.off rfl rfl rfl rfl rfl rfl ?_
          refine TQ.off rfl rfl rfl rfl rfl rfl ?_
          refine TQ.off rfl rfl rfl rfl rfl rfl ?_
          refine TQ.off rfl rfl rfl rfl rfl rfl ?_
          refine TQ.on rfl rfl rfl ?_
          refine TQ.val rfl rfl rfl (gives_pick rfl rfl rfl) ?_
          refine TQ.val rfl rfl rfl (gives_pick rfl rfl rfl) ?_
          exact TQ.end_
        refine TX.then_ ?_
        refine TC.condF rfl ?_
        refine TC.skip_ ?_
        refine TX.in_normal ?_
        refine TX.then_ ?_
        refine TC.region ?_
        refine TL.val rfl rfl rfl (gives_bin rfl rfl rfl (fun w => bin_add_ (r := ((i + 1 : Nat) : Int)) (by simp only [IntKind.wrap_i64]; omega) w)) ?_
        refine TL.val rfl rfl rfl (gives_move rfl rfl) ?_
        refine TL.end_ ?_
        exact TX.round (⟨i + 1, hi2, hst⟩) (by show l.length - (i + 1) < l.length - i; omega) ⟨rfl, rfl, rfl, rfl, trivial⟩ (fun w1 hw => hw.pick [] (by decide) rfl)
      · have hi0 : 0 < i := p3
        obtain ⟨y, hy⟩ : ∃ y, l[i - 1]? = some y := ⟨_, List.getElem?_eq_getElem (by omega)⟩
        have p4 := p5 y hy
        have hst : validN l (i + 1) := valid_next hv hx (by omega) p2 (fun z _ hz => by rw [hy] at hz; cases hz; exact p4)
        refine TC.quiet_ (E' := ?_) (by kernel_rfl) (by kernel_rfl) (fun w hw => hw.drawn _) ?_ ?_
        rotate_left
        · refine TQ.val rfl rfl rfl (gives_field (v := .pointer (some ⟨g4, 0, none⟩)) rfl rfl (fun w => unvfld42_0 _ _ w)) ?_
          refine TQ.val rfl rfl rfl (pm_load (k := 0) (i := 0) rfl rfl unvag3 rfl rfl) ?_
          refine TQ.val rfl rfl rfl (gives_bin rfl rfl rfl (fun w => bin_lss_f (p1) w)) ?_
          refine TQ.val rfl rfl rfl (gives_move rfl rfl) ?_
          refine TQ.on rfl rfl rfl ?_
          refine TQ.val rfl rfl rfl (gives_field (v := .pointer (some ⟨g4, 1, none⟩)) rfl rfl (fun w => unvfld42_1 _ _ w)) ?_
          refine TQ.on rfl rfl rfl ?_
          refine TQ.val rfl rfl rfl (pm_load (k := 0) (i := 1) rfl rfl unvag35 rfl rfl) ?_
          refine TQ.on rfl rfl rfl ?_
          refine TQ.val rfl rfl rfl (gives_field (v := .pointer (some ⟨g4, 2, none⟩)) rfl rfl (fun w => unvfld42_2 _ _ w)) ?_
          refine TQ.on rfl rfl rfl ?_
          refine TQ.val rfl rfl rfl (pm_load (k := 0) (i := 2) rfl rfl unvag35 rfl rfl) ?_
          refine TQ.on rfl rfl rfl ?_
          refine TQ.val rfl rfl rfl (gives_bin rfl rfl rfl (fun w => bin_eql_f (p2) w)) ?_
          refine TQ.val rfl rfl rfl (gives_pick rfl rfl rfl) ?_
          refine TQ.val rfl rfl rfl (gives_move rfl rfl) ?_
          refine TQ.on rfl rfl rfl ?_
          refine TQ.val rfl rfl rfl (gives_move rfl rfl) ?_
          refine TQ.on rfl rfl rfl ?_
          refine TQ.val rfl rfl rfl (gives_bin rfl rfl rfl (fun w => bin_gtr_t (by omega) w)) ?_
          refine TQ.on rfl rfl rfl ?_
          refine TQ.val rfl rfl rfl (gives_move rfl rfl) ?_
          refine TQ.on rfl rfl rfl ?_
          refine TQ.val rfl rfl rfl (gives_move rfl rfl) ?_
          refine TQ.on rfl rfl rfl ?_
          refine TQ.val rfl rfl rfl (gives_move rfl rfl) ?_
          refine TQ.on rfl rfl rfl ?_
          refine TQ.val rfl rfl rfl (gives_bin rfl rfl rfl (fun w => bin_sub_ (r := ((i - 1 : Nat) : Int)) (by simp only [IntKind.wrap_i64]; omega) w)) ?_
          refine TQ.on rfl rfl rfl ?_
          refine TQ.val rfl rfl rfl (gives_at (v := .pointer (some ⟨b2, o2 + (i - 1) * 3, none⟩)) rfl rfl rfl (fun w => at_el Try.underlying26 unvsz42 hA2 _ _ (i - 1) (by omega) rfl w)) ?_
          refine TQ.on rfl rfl rfl ?_
          refine TQ.val rfl rfl rfl (gives_field (v := .pointer (some ⟨b2, o2 + (i - 1) * 3 + 0, none⟩)) rfl rfl (fun w => unvfld42_0 _ _ w)) ?_
          refine TQ.on rfl rfl rfl ?_
          refine TQ.val rfl rfl rfl (gives_load (v := .int .i64 y.id) rfl rfl (fun w => rfl) (fun w1 hw => (hw.bel.cell hbb2).trans (fcs_cell hy hc2 0 _ rfl))) ?_
          refine TQ.on rfl rfl rfl ?_
          refine TQ.val rfl rfl rfl (gives_field (v := .pointer (some ⟨g4, 0, none⟩)) rfl rfl (fun w => unvfld42_0 _ _ w)) ?_
          refine TQ.on rfl rfl rfl ?_
          refine TQ.val rfl rfl rfl (pm_load (k := 0) (i := 0) rfl rfl unvag3 rfl rfl) ?_
          refine TQ.on rfl rfl rfl ?_
          refine TQ.val rfl rfl rfl (gives_bin rfl rfl rfl (fun w => bin_geq_f (by omega) w)) ?_
          refine TQ.on rfl rfl rfl ?_
          refine TQ.val rfl rfl rfl (gives_pick rfl rfl rfl) ?_
          refine TQ.val rfl rfl rfl (gives_pick rfl rfl rfl) ?_
          exact TQ.end_
        refine TX.then_ ?_
        refine TC.condF rfl ?_
        refine TC.skip_ ?_
        refine TX.in_normal ?_
        refine TX.then_ ?_
        refine TC.region ?_
        refine TL.val rfl rfl rfl (gives_bin rfl rfl rfl (fun w => bin_add_ (r := ((i + 1 : Nat) : Int)) (by simp only [IntKind.wrap_i64]; omega) w)) ?_
        refine TL.val rfl rfl rfl (gives_move rfl rfl) ?_
        refine TL.end_ ?_
        exact TX.round (⟨i + 1, hi2, hst⟩) (by show l.length - (i + 1) < l.length - i; omega) ⟨rfl, rfl, rfl, rfl, trivial⟩ (fun w1 hw => hw.pick [] (by decide) rfl)
      · have hi0 : 0 < i := p3
        obtain ⟨y, hy⟩ : ∃ y, l[i - 1]? = some y := ⟨_, List.getElem?_eq_getElem (by omega)⟩
        have p4 : ¬ y.id < x.id := fun hh => p5 fun z hz => by rw [hy] at hz; cases hz; exact hh
        have hR : ¬ validF l := fun hh => by obtain ⟨v1, v2, v3⟩ := hh.2 i hi2 x hx; have := v3 y hi0 hy; omega
        refine TC.quiet_ (E' := ?_) (by kernel_rfl) (by kernel_rfl) (fun w hw => hw.drawn _) ?_ ?_
        rotate_left
        · refine TQ.val rfl rfl rfl (gives_field (v := .pointer (some ⟨g4, 0, none⟩)) rfl rfl (fun w => unvfld42_0 _ _ w)) ?_
          refine TQ.val rfl rfl rfl (pm_load (k := 0) (i := 0) rfl rfl unvag3 rfl rfl) ?_
          refine TQ.val rfl rfl rfl (gives_bin rfl rfl rfl (fun w => bin_lss_f (p1) w)) ?_
          refine TQ.val rfl rfl rfl (gives_move rfl rfl) ?_
          refine TQ.on rfl rfl rfl ?_
          refine TQ.val rfl rfl rfl (gives_field (v := .pointer (some ⟨g4, 1, none⟩)) rfl rfl (fun w => unvfld42_1 _ _ w)) ?_
          refine TQ.on rfl rfl rfl ?_
          refine TQ.val rfl rfl rfl (pm_load (k := 0) (i := 1) rfl rfl unvag35 rfl rfl) ?_
          refine TQ.on rfl rfl rfl ?_
          refine TQ.val rfl rfl rfl (gives_field (v := .pointer (some ⟨g4, 2, none⟩)) rfl rfl (fun w => unvfld42_2 _ _ w)) ?_
          refine TQ.on rfl rfl rfl ?_
          refine TQ.val rfl rfl rfl (pm_load (k := 0) (i := 2) rfl rfl unvag35 rfl rfl) ?_
          refine TQ.on rfl rfl rfl ?_
          refine TQ.val rfl rfl rfl (gives_bin rfl rfl rfl (fun w => bin_eql_f (p2) w)) ?_
          refine TQ.val rfl rfl rfl (gives_pick rfl rfl rfl) ?_
          refine TQ.val rfl rfl rfl (gives_move rfl rfl) ?_
          refine TQ.on rfl rfl rfl ?_
          refine TQ.val rfl rfl rfl (gives_move rfl rfl) ?_
          refine TQ.on rfl rfl rfl ?_
          refine TQ.val rfl rfl rfl (gives_bin rfl rfl rfl (fun w => bin_gtr_t (by omega) w)) ?_
          refine TQ.on rfl rfl rfl ?_
          refine TQ.val rfl rfl rfl (gives_move rfl rfl) ?_
          refine TQ.on rfl rfl rfl ?_
          refine TQ.val rfl rfl rfl (gives_move rfl rfl) ?_
          refine TQ.on rfl rfl rfl ?_
          refine TQ.val rfl rfl rfl (gives_move rfl rfl) ?_
          refine TQ.on rfl rfl rfl ?_
          refine TQ.val rfl rfl rfl (gives_bin rfl rfl rfl (fun w => bin_sub_ (r := ((i - 1 : Nat) : Int)) (by simp only [IntKind.wrap_i64]; omega) w)) ?_
          refine TQ.on rfl rfl rfl ?_
          refine TQ.val rfl rfl rfl (gives_at (v := .pointer (some ⟨b2, o2 + (i - 1) * 3, none⟩)) rfl rfl rfl (fun w => at_el Try.underlying26 unvsz42 hA2 _ _ (i - 1) (by omega) rfl w)) ?_
          refine TQ.on rfl rfl rfl ?_
          refine TQ.val rfl rfl rfl (gives_field (v := .pointer (some ⟨b2, o2 + (i - 1) * 3 + 0, none⟩)) rfl rfl (fun w => unvfld42_0 _ _ w)) ?_
          refine TQ.on rfl rfl rfl ?_
          refine TQ.val rfl rfl rfl (gives_load (v := .int .i64 y.id) rfl rfl (fun w => rfl) (fun w1 hw => (hw.bel.cell hbb2).trans (fcs_cell hy hc2 0 _ rfl))) ?_
          refine TQ.on rfl rfl rfl ?_
          refine TQ.val rfl rfl rfl (gives_field (v := .pointer (some ⟨g4, 0, none⟩)) rfl rfl (fun w => unvfld42_0 _ _ w)) ?_
          refine TQ.on rfl rfl rfl ?_
          refine TQ.val rfl rfl rfl (pm_load (k := 0) (i := 0) rfl rfl unvag3 rfl rfl) ?_
          refine TQ.on rfl rfl rfl ?_
          refine TQ.val rfl rfl rfl (gives_bin rfl rfl rfl (fun w => bin_geq_t (by omega) w)) ?_
          refine TQ.on rfl rfl rfl ?_
          refine TQ.val rfl rfl rfl (gives_pick rfl rfl rfl) ?_
          refine TQ.val rfl rfl rfl (gives_pick rfl rfl rfl) ?_
          exact TQ.end_
        refine TX.then_ ?_
        refine TC.condT rfl ?_
        refine TC.seq_ ?_
        refine TC.region ?_
        refine TL.val rfl rfl rfl (gives_assign rfl rfl) ?_
        refine TL.end_ ?_
        refine TX.then_ ?_
        refine TC.ret_ ?_
        refine TX.in_ret ?_
        refine TX.then_ret ?_
        refine TX.then_ret ?_
        refine TX.in_ret ?_
        refine TX.then_ret ?_
        exact ret_tmp Try.results22 rfl (fun w1 hw => ⟨by rw [decide_eq_false hR], hw.bel⟩)
    · have q11 := of_decide_eq_false h11
      have hi2 : i = l.length := by omega
      subst hi2
      have hR : validF l := ⟨by omega, hv⟩
      refine TL.end_ ?_
      refine TX.then_ ?_
      refine TC.seq_ ?_
      refine TC.condF rfl ?_
      refine TC.exit_ ?_
      refine TX.then_exit ?_
      refine TX.then_exit ?_
      refine TX.in_same ?_
      refine TX.then_ ?_
      refine TC.seq_ ?_
      refine TC.region ?_
      refine TL.val rfl rfl rfl (gives_assign rfl rfl) ?_
      refine TL.end_ ?_
      refine TX.then_ ?_
      refine TC.ret_ ?_
      exact ret_tmp Try.results22 rfl (fun w1 hw => ⟨by rw [decide_eq_true hR], hw.bel⟩)
end Go.Proofs.Ytleckflmckbheaa

namespace Go.Proofs.Ytleckflmckbheaa
open Go.RowKit
set_option linter.unusedVariables false
set_option linter.unusedSimpArgs false
set_option maxRecDepth 20000
theorem forF_snoc (f : Fc) : ∀ (l : List Fc) (R : Int → Int), forF R (l ++ [f]) = if l.foldl joinR R f.a = l.foldl joinR R f.b then forF R l else forF R l ++ [f]
  | [], R => by
    rw [List.nil_append, forF, forF, forF]
    rfl
  | g :: l, R => by
    rw [List.cons_append, forF, forF]
    by_cases h : R g.a = R g.b
    · rw [if_pos h, if_pos h, forF_snoc f l R, List.foldl_cons, joinR_same h]
    · rw [if_neg h, if_neg h, forF_snoc f l (joinR R g), List.foldl_cons]
      split <;> rfl
theorem forest_snoc (l : List Fc) (f : Fc) : forest (l ++ [f]) = if repF l f.a = repF l f.b then forest l else forest l ++ [f] := forF_snoc f l _
theorem forest_le (l : List Fc) : (forest l).length ≤ l.length := forF_len l _
noncomputable def forV (l : List Fc) : List Fc := if validF l then forest l else []
theorem unfsz42 (w : World) : (sizeOf 42).run Try.prog w = .ok 3 w := rfl
theorem unfag42 (w : World) : (isAgg 42).run Try.prog w = .ok true w := rfl
theorem unfnm22 : (Try.f22.name == "runtime.NumGoroutine") = false := by decide
theorem unfbd22 : Try.f22.body.isNone = false := rfl
theorem unfzv42 (w : World) : (zeroValue 42).run Try.prog w = .ok (.agg #[.int .i64 0, .int .u32 0, .int .u32 0]) w := rfl
theorem unffld42_1 (g o : Nat) (w : World) : (Instr.fieldAt 42 (.pointer (some ⟨g, o, none⟩)) 1).run Try.prog w = .ok (.pointer (some ⟨g, o + 1, none⟩)) w := by kernel_rfl
theorem unfag35 (w : World) : (isAgg 35).run Try.prog w = .ok false w := rfl
theorem unffld42_2 (g o : Nat) (w : World) : (Instr.fieldAt 42 (.pointer (some ⟨g, o, none⟩)) 2).run Try.prog w = .ok (.pointer (some ⟨g, o + 2, none⟩)) w := by kernel_rfl
theorem unfnm36 : (Try.f36.name == "runtime.NumGoroutine") = false := by decide
theorem unfbd36 : Try.f36.body.isNone = false := rfl
theorem unfbs26_1_44646 (a0_0 : Int) (a0_1 : Int) (a0_2 : Int) (w : World) : (Instr.buildSlice 26 1 #[(0, .agg #[.int .i64 a0_0, .int .u32 a0_1, .int .u32 a0_2])]).run Try.prog w = .ok (.slice (some ⟨w.heap.size, 0, none⟩) 1 1) (w.alloc (.cells [.int .i64 a0_0, .int .u32 a0_1, .int .u32 a0_2].toArray 42)) := by kernel_rfl
theorem unfel26 : Elem Try.prog 26 42 3 16 := Elem.mk' Try.underlying26 (z := .agg #[.int .i64 0, .int .u32 0, .int .u32 0]) (by kernel_rfl) rfl (by omega) (by omega)
set_option maxHeartbeats 1000000 in
theorem forest_any (A0 : Option Addr) (n0 c0 : Nat) (l : List Fc) (w : World) (hr : Reads w w.heap.size 3 A0 n0 (fcs l)) (hl : l.length = n0) (hok : ∀ f ∈ l, f.Ok) :
    Calls Try.prog 12 #[.slice A0 n0 c0] w fun e w' => ∃ A c, e = .returned (.slice A (forV l).length c) ∧ (forV l).length ≤ c ∧ c ≤ maxLen ∧ w'.ownsRow w.heap.size 42 3 (.slice A (forV l).length c) (forV l).length (fcs (forV l)) ∧ Below w.heap.size w w' := by
  subst hl
  refine begin_ (vs := [.slice A0 l.length c0]) Try.func12 rfl rfl rfl ?_ (Pm.start w)
  refine TC.seq_ ?_
  refine TC.region ?_
  refine TL.val rfl rfl rfl (gives_assign rfl rfl) ?_
  refine TL.end_ ?_
  refine TX.then_ ?_
  refine TC.seq_ ?_
  refine TC.seq_ ?_
  refine TC.region ?_
  refine TL.val rfl rfl rfl (gives_move rfl rfl) ?_
  refine TL.callsplit rfl rfl rfl rfl rfl Try.func22 unfnm22 unfbd22 (fun w1 hw => valid_any A0 _ c0 l w1 ((hr.below hw.bel).more hw.bel.size) rfl) (fun h8 => ?_) (fun h8 => ?_)
  · have hV : validF l := of_decide_eq_true h8
    have hl1 : l.length ≤ 1024 := hV.1
    refine TL.val rfl rfl rfl (gives_boolnot rfl rfl) ?_
    refine TL.end_ ?_
    refine TX.then_ ?_
    refine TC.condF rfl ?_
    refine TC.skip_ ?_
    refine TX.then_ ?_
    refine TC.seq_ ?_
    refine TC.region ?_
    refine TL.mkmap rfl rfl rfl rfl (fun gm hgm => ?_)
    refine TL.val rfl rfl rfl (gives_assign rfl rfl) ?_
    refine TL.end_ ?_
    refine TX.then_ ?_
    refine TC.seq_ ?_
    refine TC.region ?_
    refine TL.val rfl rfl rfl (gives_assign rfl rfl) ?_
    refine TL.end_ ?_
    refine TX.then_ ?_
    refine TC.seq_ ?_
    refine TC.seq_ ?_
    refine TC.region ?_
    refine TL.val rfl rfl rfl (gives_move rfl rfl) ?_
    refine TL.val rfl rfl rfl (gives_len rfl Try.underlying26 rfl) ?_
    refine TL.val rfl rfl rfl (gives_move rfl rfl) ?_
    refine TL.end_ ?_
    refine TX.then_ ?_
    refine TC.block ?_
    refine TC.nilrow 42 3 ?_
    refine TC.loop_ (α := {y : Nat × Nat × Obj × (Option Addr × Nat) // y.1 ≤ l.length ∧ y.2.1 ≤ y.1 ∧ UF y.2.2.1 y.2.1 (repF (l.take y.1)) ∧ (forest (l.take y.1)).length ≤ y.2.2.2.2 ∧ y.2.2.2.2 ≤ maxLen}) (fun y => [(3, .map (some gm)), (4, .slice y.1.2.2.2.1 ((forest (l.take y.1.1)).length) y.1.2.2.2.2), (11, .slice A0 l.length c0), (12, .int .i64 (l.length : Nat)), (13, .int .i64 (y.1.1 : Nat))]) (fun y => Pm w [.row (.slice y.1.2.2.2.1 ((forest (l.take y.1.1)).length) y.1.2.2.2.2) 42 3 ((forest (l.take y.1.1)).length) (fcs (forest (l.take y.1.1))), .oth gm y.1.2.2.1]) (fun y => l.length - y.1.1) (⟨(0, 0, .map #[] 0, (none, 0)), Nat.zero_le _, Nat.le_refl _, ⟨fun _ => none, mapII_new _ _ _ _ _, roots_nil, fun _ _ h => by cases h⟩, Nat.zero_le _, Nat.zero_le _⟩) ⟨rfl, rfl, rfl, rfl, rfl, trivial⟩ (fun w1 hw => hw) ?_
    rintro ⟨⟨i, n, ob, ⟨A, c⟩⟩, hi, hni, hu, hc, hc9⟩
    dsimp only at hi hni hu hc hc9 ⊢
    refine TC.seq_ ?_
    refine TC.region ?_
    refine TL.vsplit rfl rfl rfl (gives_bin rfl rfl rfl (fun w => bin_lss w)) (fun h14 => ?_) (fun h14 => ?_)
    · have q14 := of_decide_eq_true h14
      have hi2 : i < l.length := by omega
      obtain ⟨x, hx⟩ : ∃ x, l[i]? = some x := ⟨_, List.getElem?_eq_getElem hi2⟩
      obtain ⟨b2, o2, hA2, hbb2, hc2⟩ := hr.ad (by omega) (by decide)
      have hxo := hok x (List.mem_of_getElem? hx)
      have htk : l.take (i + 1) = l.take i ++ [x] := by rw [List.take_add_one, hx]; rfl
      have hfl := forest_le (l.take i)
      rw [List.length_take] at hfl
      refine TL.end_ ?_
      refine TX.then_ ?_
      refine TC.seq_ ?_
      refine TC.condT rfl ?_
      refine TC.skip_ ?_
      refine TX.then_ ?_
      refine TC.seq_ ?_
      refine TC.block ?_
      refine TC.seq_ ?_
      refine TC.region ?_
      refine TL.val rfl rfl rfl (gives_at (v := .pointer (some ⟨b2, o2 + i * 3, none⟩)) rfl rfl rfl (fun w => at_el Try.underlying26 unfsz42 hA2 _ _ i hi2 rfl w)) ?_
      refine TL.val rfl rfl rfl (gives_loadR rfl rfl unfag42 unfsz42 (fc_cells_len x) (fun w1 hw j u hu => (hw.bel.cell hbb2).trans (fcs_cell hx hc2 j u hu))) ?_
      refine TL.pnew rfl rfl rfl (exec_alloc (cs := [.int .i64 0, .int .u32 0, .int .u32 0]) rfl unfzv42 rfl) (fun g6 => ?_)
      refine TL.pstore (k := 0) (vs := x.cells) rfl rfl rfl rfl rfl rfl rfl unfsz42 (fc_one x) (by show 3 ≤ 3; decide) (L' := [.blk g6 42 x.cells, .row (.slice A ((forest (l.take i)).length) c) 42 3 ((forest (l.take i)).length) (fcs (forest (l.take i))), .oth gm ob]) rfl ?_
      refine TL.end_ ?_
      refine TX.then_ ?_
      refine TC.seq_ ?_
      by_cases hj : repF (l.take i) x.a = repF (l.take i) x.b
      · have hfo : forest (l.take (i + 1)) = forest (l.take i) := by rw [htk, forest_snoc, if_pos hj]
        refine TC.region ?_
        refine TL.val rfl rfl rfl (gives_move rfl rfl) ?_
        refine TL.val rfl rfl rfl (gives_field (v := .pointer (some ⟨g6, 1, none⟩)) rfl rfl (fun w => unffld42_1 _ _ w)) ?_
        refine TL.val rfl rfl rfl (pm_load (k := 0) (i := 1) rfl rfl unfag35 rfl rfl) ?_
        refine TL.val rfl rfl rfl (gives_field (v := .pointer (some ⟨g6, 2, none⟩)) rfl rfl (fun w => unffld42_2 _ _ w)) ?_
        refine TL.val rfl rfl rfl (pm_load (k := 0) (i := 2) rfl rfl unfag35 rfl rfl) ?_
        refine TL.pcallObj (k := 2) (α := Unit) (fun _ => .bool false) (fun _ ob2 => ∃ n2, n2 ≤ n + 1 ∧ UF ob2 n2 (repF (l.take (i + 1)))) rfl rfl rfl rfl rfl Try.func36 unfnm36 unfbd36 rfl hgm (fun w1 hw hb1 => (join_any gm ob n (repF (l.take i)) w1 hb1 hu (by unfold maxLen; omega) x ⟨hxo.1, hxo.2.1⟩ ⟨hxo.2.2.1, hxo.2.2.2⟩).mono fun e w2 ⟨ob2, n2, h1, h2, h3, h4, h5⟩ => ⟨(), ob2, by rw [decide_eq_false (fun h => h hj)] at h1; exact h1, ⟨n2, h2, by rw [htk, repF_snoc]; exact h3⟩, h4, h5⟩) ?_
        rintro ⟨⟩ ob2 ⟨n2, hn2, hu2⟩
        dsimp only [List.set_cons_zero, List.set_cons_succ] at hu2 ⊢
        refine TL.end_ ?_
        refine TX.then_ ?_
        refine TC.condF rfl ?_
        refine TC.skip_ ?_
        refine TX.in_normal ?_
        refine TX.then_ ?_
        refine TC.region ?_
        refine TL.val rfl rfl rfl (gives_bin rfl rfl rfl (fun w => bin_add_ (r := ((i + 1 : Nat) : Int)) (by simp only [IntKind.wrap_i64]; omega) w)) ?_
        refine TL.val rfl rfl rfl (gives_move rfl rfl) ?_
        refine TL.end_ ?_
        exact TX.round (⟨(i + 1, n2, ob2, (A, c)), hi2, by dsimp only; omega, hu2, by rw [hfo]; exact hc, hc9⟩) (by show l.length - (i + 1) < l.length - i; omega) ⟨rfl, (by (try dsimp only); rw [hfo]; rfl), rfl, rfl, rfl, trivial⟩ (fun w1 hw => (by (try dsimp only); rw [hfo]; exact hw.pick [1, 2] (by decide) rfl))
      · have hfo : forest (l.take (i + 1)) = forest (l.take i) ++ [x] := by rw [htk, forest_snoc, if_neg hj]
        refine TC.region ?_
        refine TL.val rfl rfl rfl (gives_move rfl rfl) ?_
        refine TL.val rfl rfl rfl (gives_field (v := .pointer (some ⟨g6, 1, none⟩)) rfl rfl (fun w => unffld42_1 _ _ w)) ?_
        refine TL.val rfl rfl rfl (pm_load (k := 0) (i := 1) rfl rfl unfag35 rfl rfl) ?_
        refine TL.val rfl rfl rfl (gives_field (v := .pointer (some ⟨g6, 2, none⟩)) rfl rfl (fun w => unffld42_2 _ _ w)) ?_
        refine TL.val rfl rfl rfl (pm_load (k := 0) (i := 2) rfl rfl unfag35 rfl rfl) ?_
        refine TL.pcallObj (k := 2) (α := Unit) (fun _ => .bool true) (fun _ ob2 => ∃ n2, n2 ≤ n + 1 ∧ UF ob2 n2 (repF (l.take (i + 1)))) rfl rfl rfl rfl rfl Try.func36 unfnm36 unfbd36 rfl hgm (fun w1 hw hb1 => (join_any gm ob n (repF (l.take i)) w1 hb1 hu (by unfold maxLen; omega) x ⟨hxo.1, hxo.2.1⟩ ⟨hxo.2.2.1, hxo.2.2.2⟩).mono fun e w2 ⟨ob2, n2, h1, h2, h3, h4, h5⟩ => ⟨(), ob2, by rw [decide_eq_true hj] at h1; exact h1, ⟨n2, h2, by rw [htk, repF_snoc]; exact h3⟩, h4, h5⟩) ?_
        rintro ⟨⟩ ob2 ⟨n2, hn2, hu2⟩
        dsimp only [List.set_cons_zero, List.set_cons_succ] at hu2 ⊢
        refine TL.end_ ?_
        refine TX.then_ ?_
        refine TC.condT rfl ?_
        refine TC.region ?_
        refine TL.val rfl rfl rfl (gives_move rfl rfl) ?_
        refine TL.val rfl rfl rfl (pm_loadV (k := 0) (i := 0) (n := 3) (v := .agg (x.cells).toArray) rfl rfl unfag42 unfsz42 rfl (by show 3 ≤ 3; decide) rfl) ?_
        refine TL.prowS (e := 42) (size := 3) (cs := fcs [x]) rfl rfl rfl rfl rfl (fun w => unfbs26_1_44646 _ _ _ w) (by decide) rfl (fun g25 => ?_)
        refine TL.appendT (k := 2) rfl rfl rfl rfl Try.underlying26 unfel26 rfl rfl rfl (fun w1 hw => pm_reads hw (k := 0) rfl) (fcs_one _) (by omega) ((forest (l.take (i + 1))).length) (by rw [hfo, List.length_append]; rfl) (fcs (forest (l.take (i + 1)))) (by rw [hfo, fcs_app]) (fun A26 c26 hA261 hA262 => ?_)
        refine TL.val rfl rfl rfl (gives_assign rfl rfl) ?_
        refine TL.end_ ?_
        refine TX.in_normal ?_
        refine TX.then_ ?_
        refine TC.region ?_
        refine TL.val rfl rfl rfl (gives_bin rfl rfl rfl (fun w => bin_add_ (r := ((i + 1 : Nat) : Int)) (by simp only [IntKind.wrap_i64]; omega) w)) ?_
        refine TL.val rfl rfl rfl (gives_move rfl rfl) ?_
        refine TL.end_ ?_
        exact TX.round (⟨(i + 1, n2, ob2, (A26, c26)), hi2, by dsimp only; omega, hu2, hA261, hA262⟩) (by show l.length - (i + 1) < l.length - i; omega) ⟨rfl, rfl, rfl, rfl, rfl, trivial⟩ (fun w1 hw => hw.pick [2, 3] (by decide) rfl)
    · have q14 := of_decide_eq_false h14
      have hi2 : i = l.length := by omega
      subst hi2
      have hF : forV l = (forest (l.take l.length)) := by rw [List.take_length]; exact if_pos hV
      refine TL.end_ ?_
      refine TX.then_ ?_
      refine TC.seq_ ?_
      refine TC.condF rfl ?_
      refine TC.exit_ ?_
      refine TX.then_exit ?_
      refine TX.then_exit ?_
      refine TX.in_same ?_
      refine TX.then_ ?_
      refine TC.seq_ ?_
      refine TC.region ?_
      refine TL.val rfl rfl rfl (gives_move rfl rfl) ?_
      refine TL.val rfl rfl rfl (gives_assign rfl rfl) ?_
      refine TL.end_ ?_
      refine TX.then_ ?_
      refine TC.ret_ ?_
      exact ret_tmp Try.results12 rfl (fun w1 hw => by rw [hF]; exact ⟨A, c, rfl, hc, hc9, hw.at_ (k := 0) rfl, hw.bel⟩)
  · have hF : forV l = [] := if_neg (of_decide_eq_false h8)
    refine TL.val rfl rfl rfl (gives_boolnot rfl rfl) ?_
    refine TL.end_ ?_
    refine TX.then_ ?_
    refine TC.condT rfl ?_
    refine TC.seq_ ?_
    refine TC.region ?_
    refine TL.val rfl rfl rfl (gives_assign rfl rfl) ?_
    refine TL.end_ ?_
    refine TX.then_ ?_
    refine TC.ret_ ?_
    refine TX.then_ret ?_
    exact ret_tmp Try.results12 rfl (fun w1 hw => by rw [hF]; exact ⟨none, 0, rfl, Nat.le_refl _, Nat.zero_le _, (hw.nilrow 42 3).at_ (k := 0) rfl, hw.bel⟩)
end Go.Proofs.Ytleckflmckbheaa

namespace Go.Proofs.Ytleckflmckbheaa
open Go.RowKit
set_option linter.unusedVariables false
set_option linter.unusedSimpArgs false
set_option maxRecDepth 20000
theorem uv_app (a b : List Int) : uv (a ++ b) = uv a ++ uv b := by simp [uv]
theorem cls_at {ts : List (Sg Int)} {k : Nat} {s : Sg Int} {a : Int} {R : Int → Int} {P : List Int} (hs : ts[k]? = some s) (h : (ts.map (·.l)).set k ((ts.map (·.l)).getD k [] ++ [a]) = cls R (P ++ [a])) : s.l.length ≤ P.length := by
  have hlt := (List.getElem?_eq_some_iff.1 hs).1
  have h1 : s.l ++ [a] ∈ cls R (P ++ [a]) := by
    rw [← h]
    have e : (ts.map (·.l)).getD k [] = s.l := by rw [List.getD_eq_getElem?_getD, List.getElem?_map, hs]; rfl
    rw [e]
    exact List.mem_set (by rw [List.length_map]; exact hlt) _
  obtain ⟨r, _, e⟩ := List.mem_map.1 h1
  have h2 := List.length_filter_le (fun x => decide (R x = r)) (P ++ [a])
  rw [e, List.length_append, List.length_append] at h2
  simp only [List.length_cons, List.length_nil] at h2
  omega
theorem new_at (ss : List (Sg Int)) (a : Int) : ((ss ++ [Sg.nil Int]).map (·.l)).set ss.length (((ss ++ [Sg.nil Int]).map (·.l)).getD ss.length [] ++ [a]) = ss.map (·.l) ++ [[a]] := by
  rw [List.map_append, List.getD_eq_getElem?_getD, List.getElem?_append_right (by rw [List.length_map]; exact Nat.le_refl _), List.set_append_right _ _ (by rw [List.length_map]; exact Nat.le_refl _), List.length_map, Nat.sub_self]
  rfl
theorem asc_len (l : List Int) : (asc l).length ≤ l.length := by
  unfold asc
  refine Nat.le_trans (cpt_len _) ?_
  rw [List.length_mergeSort]
  exact Nat.le_refl _
theorem wf64 {x : Int} (h : 0 ≤ x ∧ x ≤ 4294967295) : (Lit.int .i64 x).wf = true := by simp [Lit.wf, IntKind.min, IntKind.max, IntKind.signed, IntKind.bits]; omega
theorem imX : IMap Try.prog 79 35 3 .u32 .i64 := ⟨Try.underlying79, Try.underlying35, Try.underlying3, fun w => rfl⟩
theorem rt_in {ob : Obj} {n : Nat} {R : Int → Int} (h : UF ob n R) {a : Int} (ha : 0 ≤ a ∧ a ≤ 4294967295) : 0 ≤ R a ∧ R a ≤ 4294967295 := by
  obtain ⟨f, _, hR, hrg⟩ := h
  exact rt_range hR hrg ha
theorem adr_range {l : List Fc} (hok : ∀ f ∈ l, f.Ok) {a : Int} (h : a ∈ adrs l) : 0 ≤ a ∧ a ≤ 4294967295 := by
  obtain ⟨f, hf, e⟩ := mem_adrs.1 h
  have := hok f hf
  rcases e with rfl | rfl
  · exact ⟨this.1, this.2.1⟩
  · exact ⟨this.2.2.1, this.2.2.2⟩
section
variable {P : Program} {N : Fr} {Q : Exit → Act → World → Prop} {E : Env} {w0 : Base} {L : List Pc} {ops : Array Oper} {l : List Oper} {o : Oper}
/-- a call that cuts row number k down -/
theorem TL.pcallCut {d k g n c : Nat} {e : TypeId} {xs ys : List Int} {f : FuncId} {fn : Func} {es : List Operand} {ts : Array TypeId} {vs : List Value} (hg : o.guard = none) (hd : o.dst = some d) (hN : Nat.blt d N.n = true)
    (ho : o.op = .call { callee := .value (.func f), args := es.toArray, argTypes := ts }) (hx : evs E es = some vs) (hf : P.funcs[f]? = some fn) (hn : (fn.name == "runtime.NumGoroutine") = false) (hb : fn.body.isNone = false)
    (hk : L[k]? = some (.row (.slice (some ⟨g, 0, none⟩) n c) e 1 n (uv xs))) (hc : ∀ w, Pm w0 L w → Rw e w g n c xs → Calls P f vs.toArray w fun en w' => en = .returned (.slice (some ⟨g, 0, none⟩) ys.length c) ∧ Rw e w' g ys.length c ys ∧ w.grownBy w' (some g))
    (h : TL P N ops Q l ((d, .slice (some ⟨g, 0, none⟩) ys.length c) :: E) (Pm w0 (L.set k (.row (.slice (some ⟨g, 0, none⟩) ys.length c) e 1 ys.length (uv ys))))) : TL P N ops Q (o :: l) E (Pm w0 L) :=
  TL.call (α := Unit) (r := fun _ => .slice (some ⟨g, 0, none⟩) ys.length c) (I' := fun _ => Pm w0 (L.set k (.row (.slice (some ⟨g, 0, none⟩) ys.length c) e 1 ys.length (uv ys)))) hg hd hN ho hx hf hn hb (fun w hw => (hc w hw (pm_rowAt hw hk)).mono fun en w' ⟨he, hr, hgr⟩ => ⟨(), he, by
    have h1 := hw.at_ hk
    have hbg : w0.b ≤ g := (Pc.lt h1 g rfl).1
    exact hw.turn hk hgr (own_base hr hbg) (fun g' hg' => .inl hg') (fun _ _ e => by cases e)⟩) (fun _ => h)
end
theorem uclsz42 (w : World) : (sizeOf 42).run Try.prog w = .ok 3 w := rfl
theorem uclag42 (w : World) : (isAgg 42).run Try.prog w = .ok true w := rfl
theorem uclzv42 (w : World) : (zeroValue 42).run Try.prog w = .ok (.agg #[.int .i64 0, .int .u32 0, .int .u32 0]) w := rfl
theorem uclfld42_1 (g o : Nat) (w : World) : (Instr.fieldAt 42 (.pointer (some ⟨g, o, none⟩)) 1).run Try.prog w = .ok (.pointer (some ⟨g, o + 1, none⟩)) w := by kernel_rfl
theorem uclag35 (w : World) : (isAgg 35).run Try.prog w = .ok false w := rfl
theorem uclfld42_2 (g o : Nat) (w : World) : (Instr.fieldAt 42 (.pointer (some ⟨g, o, none⟩)) 2).run Try.prog w = .ok (.pointer (some ⟨g, o + 2, none⟩)) w := by kernel_rfl
theorem uclnm36 : (Try.f36.name == "runtime.NumGoroutine") = false := by decide
theorem uclbd36 : Try.f36.body.isNone = false := rfl
theorem uclbs31_2_20249 (a0_0 : Int) (a1_0 : Int) (w : World) : (Instr.buildSlice 31 2 #[(0, .int .u32 a0_0), (1, .int .u32 a1_0)]).run Try.prog w = .ok (.slice (some ⟨w.heap.size, 0, none⟩) 2 2) (w.alloc (.cells [.int .u32 a0_0, .int .u32 a1_0].toArray 35)) := by kernel_rfl
theorem uclel31 : Elem Try.prog 31 35 1 4 := Elem.mk' Try.underlying31 (z := .int .u32 0) (by kernel_rfl) rfl (by omega) (by omega)
theorem uclnm50 : (Try.f50.name == "runtime.NumGoroutine") = false := by decide
theorem uclbd50 : Try.f50.body.isNone = false := rfl
theorem uclnm51 : (Try.f51.name == "runtime.NumGoroutine") = false := by decide
theorem uclbd51 : Try.f51.body.isNone = false := rfl
theorem uclsz35 (w : World) : (sizeOf 35).run Try.prog w = .ok 1 w := rfl
theorem uclnm40 : (Try.f40.name == "runtime.NumGoroutine") = false := by decide
theorem uclbd40 : Try.f40.body.isNone = false := rfl
theorem uclbs28_1_58639 (a0_0 : Option Addr) (a0_0n a0_0c : Nat) (w : World) : (Instr.buildSlice 28 1 #[(0, .slice a0_0 a0_0n a0_0c)]).run Try.prog w = .ok (.slice (some ⟨w.heap.size, 0, none⟩) 1 1) (w.alloc (.cells [.slice a0_0 a0_0n a0_0c].toArray 31)) := by kernel_rfl
theorem uclel28 : Elem Try.prog 28 31 1 24 := Elem.mk' Try.underlying28 (z := .slice none 0 0) (by kernel_rfl) rfl (by omega) (by omega)
theorem uclsz31 (w : World) : (sizeOf 31).run Try.prog w = .ok 1 w := rfl
theorem uclag31 (w : World) : (isAgg 31).run Try.prog w = .ok false w := rfl
theorem uclbs31_1_5377 (a0_0 : Int) (w : World) : (Instr.buildSlice 31 1 #[(0, .int .u32 a0_0)]).run Try.prog w = .ok (.slice (some ⟨w.heap.size, 0, none⟩) 1 1) (w.alloc (.cells [.int .u32 a0_0].toArray 35)) := by kernel_rfl
set_option maxHeartbeats 1000000 in
theorem classes_ne (A0 : Option Addr) (c0 : Nat) (l : List Fc) (w : World) (hr : Reads w w.heap.size 3 A0 l.length (fcs l)) (hl : 0 < l.length) (hl1 : l.length ≤ 1024) (hok : ∀ f ∈ l, f.Ok) :
    Calls Try.prog 35 #[.slice A0 l.length c0] w fun e w' => ∃ x : {y : (Option Addr × Nat) × List (Sg Int) // y.2.map (·.l) = clsL l ∧ y.2.length ≤ y.1.2 ∧ y.1.2 ≤ maxLen}, e = .returned (.slice x.1.1.1 x.1.2.length x.1.1.2) ∧ Pm w ([.row (.slice x.1.1.1 x.1.2.length x.1.1.2) 31 1 x.1.2.length (x.1.2.map Sg.val)] ++ segG 35 1 uv x.1.2) w' := by
  refine begin_ (vs := [.slice A0 l.length c0]) Try.func35 rfl rfl rfl ?_ (Pm.start w)
  refine TC.seq_ ?_
  refine TC.region ?_
  refine TL.val rfl rfl rfl (gives_assign rfl rfl) ?_
  refine TL.end_ ?_
  refine TX.then_ ?_
  refine TC.seq_ ?_
  refine TC.region ?_
  refine TL.mkmap rfl rfl rfl rfl (fun gm hgm => ?_)
  refine TL.val rfl rfl rfl (gives_assign rfl rfl) ?_
  refine TL.end_ ?_
  refine TX.then_ ?_
  refine TC.seq_ ?_
  refine TC.region ?_
  refine TL.val rfl rfl rfl (gives_assign rfl rfl) ?_
  refine TL.end_ ?_
  refine TX.then_ ?_
  refine TC.seq_ ?_
  refine TC.seq_ ?_
  refine TC.region ?_
  refine TL.val rfl rfl rfl (gives_move rfl rfl) ?_
  refine TL.val rfl rfl rfl (gives_len rfl Try.underlying26 rfl) ?_
  refine TL.val rfl rfl rfl (gives_move rfl rfl) ?_
  refine TL.end_ ?_
  refine TX.then_ ?_
  refine TC.block ?_
  refine TC.nilrow 35 1 ?_
  refine TC.loop_ (α := {y : Nat × Nat × Obj × (Option Addr × Nat) // y.1 ≤ l.length ∧ y.2.1 ≤ y.1 ∧ UF y.2.2.1 y.2.1 (repF (l.take y.1)) ∧ (adrs (l.take y.1)).length ≤ y.2.2.2.2 ∧ y.2.2.2.2 ≤ maxLen}) (fun y => [(3, .map (some gm)), (4, .slice y.1.2.2.2.1 ((adrs (l.take y.1.1)).length) y.1.2.2.2.2), (15, .slice A0 l.length c0), (16, .int .i64 ((l.length : Nat) : Int)), (17, .int .i64 ((y.1.1 : Nat) : Int))]) (fun y => Pm w [.row (.slice y.1.2.2.2.1 ((adrs (l.take y.1.1)).length) y.1.2.2.2.2) 35 1 ((adrs (l.take y.1.1)).length) (uv (adrs (l.take y.1.1))), .oth gm y.1.2.2.1]) (fun y => l.length - y.1.1) (⟨(0, 0, .map #[] 0, (none, 0)), Nat.zero_le _, Nat.le_refl _, ⟨fun _ => none, mapII_new _ _ _ _ _, roots_nil, fun _ _ h => by cases h⟩, Nat.zero_le _, Nat.zero_le _⟩) ⟨rfl, rfl, rfl, rfl, rfl, trivial⟩ (fun w1 hw => hw) ?_
  rintro ⟨⟨i, n, ob, ⟨A, ca⟩⟩, hi, hni, hu, hc, hc9⟩
  dsimp only at hi hni hu hc hc9 ⊢
  refine TC.seq_ ?_
  refine TC.region ?_
  refine TL.vsplit rfl rfl rfl (gives_bin rfl rfl rfl (fun w => bin_lss w)) (fun h18 => ?_) (fun h18 => ?_)
  · have q18 := of_decide_eq_true h18
    have hi2 : i < l.length := by omega
    obtain ⟨x, hx⟩ : ∃ x, l[i]? = some x := ⟨_, List.getElem?_eq_getElem hi2⟩
    obtain ⟨b2, o2, hA2, hbb2, hc2⟩ := hr.ad (by omega) (by decide)
    have hxo := hok x (List.mem_of_getElem? hx)
    have htk : l.take (i + 1) = l.take i ++ [x] := by rw [List.take_add_one, hx]; rfl
    have hal : adrs (l.take (i + 1)) = adrs (l.take i) ++ [x.a, x.b] := by rw [htk, adrs_snoc]
    have hl2 := adrs_len (l.take (i + 1))
    have hl3 := adrs_len (l.take i)
    rw [List.length_take] at hl2 hl3
    refine TL.end_ ?_
    refine TX.then_ ?_
    refine TC.seq_ ?_
    refine TC.condT rfl ?_
    refine TC.skip_ ?_
    refine TX.then_ ?_
    refine TC.seq_ ?_
    refine TC.block ?_
    refine TC.seq_ ?_
    refine TC.region ?_
    refine TL.val rfl rfl rfl (gives_at (v := .pointer (some ⟨b2, o2 + i * 3, none⟩)) rfl rfl rfl (fun w => at_el Try.underlying26 uclsz42 hA2 _ _ i hi2 rfl w)) ?_
    refine TL.val rfl rfl rfl (gives_loadR rfl rfl uclag42 uclsz42 (fc_cells_len x) (fun w1 hw j u hu => (hw.bel.cell hbb2).trans (fcs_cell hx hc2 j u hu))) ?_
    refine TL.pnew rfl rfl rfl (exec_alloc (cs := [.int .i64 0, .int .u32 0, .int .u32 0]) rfl uclzv42 rfl) (fun g6 => ?_)
    refine TL.pstore (k := 0) (vs := x.cells) rfl rfl rfl rfl rfl rfl rfl uclsz42 (fc_one x) (by show 3 ≤ 3; decide) (L' := [.blk g6 42 x.cells, .row (.slice A ((adrs (l.take i)).length) ca) 35 1 ((adrs (l.take i)).length) (uv (adrs (l.take i))), .oth gm ob]) rfl ?_
    refine TL.end_ ?_
    refine TX.then_ ?_
    refine TC.seq_ ?_
    refine TC.region ?_
    refine TL.val rfl rfl rfl (gives_move rfl rfl) ?_
    refine TL.val rfl rfl rfl (gives_field (v := .pointer (some ⟨g6, 1, none⟩)) rfl rfl (fun w => uclfld42_1 _ _ w)) ?_
    refine TL.val rfl rfl rfl (pm_load (k := 0) (i := 1) rfl rfl uclag35 rfl rfl) ?_
    refine TL.val rfl rfl rfl (gives_field (v := .pointer (some ⟨g6, 2, none⟩)) rfl rfl (fun w => uclfld42_2 _ _ w)) ?_
    refine TL.val rfl rfl rfl (pm_load (k := 0) (i := 2) rfl rfl uclag35 rfl rfl) ?_
    refine TL.pcallObj (k := 2) (α := Unit) (fun _ => .bool (decide ((repF (l.take i)) x.a ≠ (repF (l.take i)) x.b))) (fun _ ob2 => ∃ n2, n2 ≤ n + 1 ∧ UF ob2 n2 (repF (l.take (i + 1)))) rfl rfl rfl rfl rfl Try.func36 uclnm36 uclbd36 rfl hgm (fun w1 hw hb1 => (join_any gm ob n ((repF (l.take i))) w1 hb1 hu (by unfold maxLen; omega) x ⟨hxo.1, hxo.2.1⟩ ⟨hxo.2.2.1, hxo.2.2.2⟩).mono fun e w2 ⟨ob2, n2, h1, h2, h3, h4, h5⟩ => ⟨(), ob2, h1, ⟨n2, h2, by rw [htk, repF_snoc]; exact h3⟩, h4, h5⟩) ?_
    rintro ⟨⟩ ob2 ⟨n2, hn2, hu2⟩
    try dsimp only [List.set_cons_zero, List.set_cons_succ]
    refine TL.end_ ?_
    refine TX.then_ ?_
    refine TC.region ?_
    refine TL.val rfl rfl rfl (gives_move rfl rfl) ?_
    refine TL.val rfl rfl rfl (gives_field (v := .pointer (some ⟨g6, 1, none⟩)) rfl rfl (fun w => uclfld42_1 _ _ w)) ?_
    refine TL.val rfl rfl rfl (pm_load (k := 0) (i := 1) rfl rfl uclag35 rfl rfl) ?_
    refine TL.val rfl rfl rfl (gives_field (v := .pointer (some ⟨g6, 2, none⟩)) rfl rfl (fun w => uclfld42_2 _ _ w)) ?_
    refine TL.val rfl rfl rfl (pm_load (k := 0) (i := 2) rfl rfl uclag35 rfl rfl) ?_
    refine TL.prowS (e := 35) (size := 1) (cs := uv [x.a, x.b]) rfl rfl rfl rfl rfl (fun w => uclbs31_2_20249 _ _ w) (by decide) rfl (fun g32 => ?_)
    refine TL.appendT (k := 2) rfl rfl rfl rfl Try.underlying31 uclel31 rfl rfl rfl (fun w1 hw => pm_reads hw (k := 0) rfl) (uv_one _) (by show _ * 4 ≤ _; omega) ((adrs (l.take (i + 1))).length) (by rw [hal, List.length_append]; rfl) (uv (adrs (l.take (i + 1)))) (by rw [hal, uv_app]) (fun A33 c33 hA331 hA332 => ?_)
    refine TL.val rfl rfl rfl (gives_assign rfl rfl) ?_
    refine TL.end_ ?_
    refine TX.in_normal ?_
    refine TX.then_ ?_
    refine TC.region ?_
    refine TL.val rfl rfl rfl (gives_bin rfl rfl rfl (fun w => bin_add_ (r := ((i + 1 : Nat) : Int)) (by simp only [IntKind.wrap_i64]; omega) w)) ?_
    refine TL.val rfl rfl rfl (gives_move rfl rfl) ?_
    refine TL.end_ ?_
    exact TX.round (⟨(i + 1, n2, ob2, (A33, c33)), hi2, by dsimp only; omega, hu2, hA331, hA332⟩) (by show l.length - (i + 1) < l.length - i; omega) ⟨rfl, rfl, rfl, rfl, rfl, trivial⟩ (fun w1 hw => hw.pick [2, 3] (by decide) rfl)
  · have q18 := of_decide_eq_false h18
    have hi2 : i = l.length := by omega
    subst hi2
    rw [List.take_length] at hu hc ⊢
    refine TL.end_ ?_
    refine TX.then_ ?_
    refine TC.seq_ ?_
    refine TC.condF rfl ?_
    refine TC.exit_ ?_
    refine TX.then_exit ?_
    refine TX.then_exit ?_
    refine TX.in_same ?_
    refine TX.then_ ?_
    refine TC.seq_ ?_
    have hadl := adrs_len l
    have hasl := asc_len (adrs l)
    have hpos : 0 < (adrs l).length := by omega
    refine TC.fact (p := ∃ g, A = some ⟨g, 0, none⟩) (fun w1 hw => rowA hw (k := 0) rfl hpos) ?_
    rintro ⟨ga, rfl⟩
    refine TC.region ?_
    refine TL.val rfl rfl rfl (gives_move rfl rfl) ?_
    refine TL.pcallRw (k := 0) (α := Unit) (fun _ => .tuple #[]) (fun _ ys => Pin 0 (adrs l).length (adrs l) ys ∧ Srt 0 (adrs l).length ys) rfl rfl rfl rfl rfl Try.func50 uclnm50 uclbd50 rfl (fun w1 hw hr1 => sort_any ga (adrs l).length ca (adrs l) w1 hr1 (by omega)) ?_
    rintro ⟨⟩ ys ⟨hQ, hS⟩
    try dsimp only [List.set_cons_zero, List.set_cons_succ]
    have hac : cpt ys = asc (adrs l) := asc_of hQ.perm (srt_pairwise hQ.len hS)
    refine TL.end_ ?_
    refine TX.then_ ?_
    refine TC.seq_ ?_
    refine TC.region ?_
    refine TL.mkmap rfl rfl rfl rfl (fun gx hgx => ?_)
    refine TL.val rfl rfl rfl (gives_assign rfl rfl) ?_
    refine TL.end_ ?_
    refine TX.then_ ?_
    refine TC.seq_ ?_
    refine TC.region ?_
    refine TL.val rfl rfl rfl (gives_assign rfl rfl) ?_
    refine TL.end_ ?_
    refine TX.then_ ?_
    refine TC.seq_ ?_
    refine TC.seq_ ?_
    refine TC.region ?_
    refine TL.val rfl rfl rfl (gives_move rfl rfl) ?_
    refine TL.pcallCut (k := 1) (ys := (asc (adrs l))) rfl rfl rfl rfl rfl Try.func51 uclnm51 uclbd51 rfl (fun w1 hw hr1 => by rw [← hac]; exact compact_any ga (adrs l).length ca ys w1 hr1 (by omega)) ?_
    try dsimp only [List.set_cons_zero, List.set_cons_succ]
    refine TL.val rfl rfl rfl (gives_len rfl Try.underlying31 rfl) ?_
    refine TL.val rfl rfl rfl (gives_move rfl rfl) ?_
    refine TL.end_ ?_
    refine TX.then_ ?_
    refine TC.block ?_
    refine TC.nilrow 31 1 ?_
    refine TC.loop_ (α := {y : Nat × Obj × Obj × Option Addr × Nat × List (Sg Int) // y.1 ≤ (asc (adrs l)).length ∧ y.2.2.2.2.2.length ≤ y.1 ∧ y.2.2.2.2.2.length ≤ y.2.2.2.2.1 ∧ y.2.2.2.2.1 ≤ maxLen ∧ UF y.2.1 n (repF l) ∧ (∃ f, MapII Try.prog 35 3 .u32 .i64 y.2.2.1 y.2.2.2.2.2.length f ∧ IX f (repF l) ((asc (adrs l)).take y.1)) ∧ y.2.2.2.2.2.map (·.l) = cls (repF l) ((asc (adrs l)).take y.1)}) (fun y => [(3, .map (some gm)), (7, .map (some gx)), (8, .slice y.1.2.2.2.1 y.1.2.2.2.2.2.length y.1.2.2.2.2.1), (39, .slice (some ⟨ga, 0, none⟩) ((asc (adrs l)).length) ca), (40, .int .i64 (((asc (adrs l)).length : Nat) : Int)), (41, .int .i64 ((y.1.1 : Nat) : Int))]) (fun y => Pm w ([.row (.slice y.1.2.2.2.1 y.1.2.2.2.2.2.length y.1.2.2.2.2.1) 31 1 y.1.2.2.2.2.2.length (y.1.2.2.2.2.2.map Sg.val), .oth gx y.1.2.2.1, .oth gm y.1.2.1, .row (.slice (some ⟨ga, 0, none⟩) ((asc (adrs l)).length) ca) 35 1 ((asc (adrs l)).length) (uv (asc (adrs l)))] ++ segG 35 1 uv y.1.2.2.2.2.2)) (fun y => (asc (adrs l)).length - y.1.1) (⟨(0, ob, .map #[] 0, none, 0, []), Nat.zero_le _, Nat.le_refl _, Nat.le_refl _, Nat.zero_le _, hu, ⟨fun _ => none, mapII_new _ _ _ _ _, ix_nil _⟩, rfl⟩) ⟨rfl, rfl, rfl, rfl, rfl, rfl, trivial⟩ (fun w1 hw => hw.pick [0, 1, 3, 2] (by decide) rfl) ?_
    rintro ⟨⟨i, ob, obx, Ao, co, ss⟩, hi, hil, hc1, hc2, hu, ⟨f, hmx, hix⟩, hcs⟩
    dsimp only at hi hil hc1 hc2 hu hmx hix hcs ⊢
    have hss : ss.length = (ks (repF l) ((asc (adrs l)).take i)).length := by rw [← cls_len, ← hcs, List.length_map]
    refine TC.seq_ ?_
    refine TC.region ?_
    refine TL.vsplit rfl rfl rfl (gives_bin rfl rfl rfl (fun w => bin_lss w)) (fun h42 => ?_) (fun h42 => ?_)
    · have q42 := of_decide_eq_true h42
      have hia : i < (asc (adrs l)).length := by omega
      obtain ⟨a, ha⟩ : ∃ a, (asc (adrs l))[i]? = some a := ⟨_, List.getElem?_eq_getElem hia⟩
      have har : 0 ≤ a ∧ a ≤ 4294967295 := adr_range hok ((mem_asc _ _).1 (List.mem_of_getElem? ha))
      have hat : (asc (adrs l)).take (i + 1) = (asc (adrs l)).take i ++ [a] := by rw [List.take_add_one, ha]; rfl
      refine TL.end_ ?_
      refine TX.then_ ?_
      refine TC.seq_ ?_
      refine TC.condT rfl ?_
      refine TC.skip_ ?_
      refine TX.then_ ?_
      refine TC.seq_ ?_
      refine TC.block ?_
      refine TC.seq_ ?_
      refine TC.region ?_
      refine TL.val rfl rfl rfl (gives_at (v := .pointer (some ⟨ga, i, none⟩)) rfl rfl rfl (fun w => at_row Try.underlying31 uclsz35 ga _ _ i (by omega) rfl w)) ?_
      refine TL.val rfl rfl rfl (pm_loadRow (k := 3) (i := i) rfl rfl uclag35 rfl (by unfold uv; rw [List.getElem?_map, ha]; rfl)) ?_
      refine TL.val rfl rfl rfl (gives_assign rfl rfl) ?_
      refine TL.end_ ?_
      refine TX.then_ ?_
      refine TC.seq_ ?_
      refine TC.region ?_
      refine TL.val rfl rfl rfl (gives_move rfl rfl) ?_
      refine TL.val rfl rfl rfl (gives_move rfl rfl) ?_
      refine TL.pcallObj (k := 2) (α := Unit) (fun _ => .int .u32 ((repF l) a)) (fun _ ob2 => UF ob2 n (repF l)) rfl rfl rfl rfl rfl Try.func40 uclnm40 uclbd40 rfl hgm (fun w1 hw hb1 => (root_any gm ob n (repF l) w1 hb1 hu (by unfold maxLen; omega) a har).mono fun e w2 ⟨ob2, h1, h2, h3, h4⟩ => ⟨(), ob2, h1, h2, h3, h4⟩) ?_
      rintro ⟨⟩ ob2 hu2
      try dsimp only [List.set_cons_zero, List.set_cons_succ]
      refine TL.val rfl rfl rfl (gives_assign rfl rfl) ?_
      refine TL.end_ ?_
      refine TX.then_ ?_
      refine TC.seq_ ?_
      rcases hfx : f ((repF l) a) with _ | z
      · have hnew := (new_at ss a).trans (((congrArg (fun z => z ++ [[a]]) hcs)).trans (cls_new (hix.none hfx)).symm)
        refine TC.region ?_
        refine TL.val rfl rfl rfl (gives_move rfl rfl) ?_
        refine TL.val rfl rfl rfl (gives_move rfl rfl) ?_
        refine TL.val rfl rfl rfl (gives_lookNone rfl rfl rfl imX (i := 1) rfl hmx (wf32 (rt_in hu2 har)) hfx) ?_
        refine TL.val rfl rfl rfl (gives_move rfl rfl) ?_
        refine TL.val rfl rfl rfl (gives_extract rfl rfl rfl) ?_
        refine TL.val rfl rfl rfl (gives_extract rfl rfl rfl) ?_
        refine TL.val rfl rfl rfl (gives_assign rfl rfl) ?_
        refine TL.val rfl rfl rfl (gives_assign rfl rfl) ?_
        refine TL.end_ ?_
        refine TX.then_ ?_
        refine TC.join (α := {y : Nat × Obj × Obj × Option Addr × Nat × List (Sg Int) // y.1 < y.2.2.2.2.2.length ∧ y.2.2.2.2.2.length ≤ i + 1 ∧ y.2.2.2.2.2.length ≤ y.2.2.2.2.1 ∧ y.2.2.2.2.1 ≤ maxLen ∧ UF y.2.1 n (repF l) ∧ (∃ f, MapII Try.prog 35 3 .u32 .i64 y.2.2.1 y.2.2.2.2.2.length f ∧ IX f (repF l) ((asc (adrs l)).take i ++ [a])) ∧ (y.2.2.2.2.2.map (·.l)).set y.1 ((y.2.2.2.2.2.map (·.l)).getD y.1 [] ++ [a]) = cls (repF l) ((asc (adrs l)).take i ++ [a])}) (fun y => [(3, .map (some gm)), (7, .map (some gx)), (8, .slice y.1.2.2.2.1 y.1.2.2.2.2.2.length y.1.2.2.2.2.1), (39, .slice (some ⟨ga, 0, none⟩) ((asc (adrs l)).length) ca), (40, .int .i64 (((asc (adrs l)).length : Nat) : Int)), (41, .int .i64 ((i : Nat) : Int)), (10, .int .u32 a), (12, .int .i64 ((y.1.1 : Nat) : Int))]) (fun y => Pm w ([.row (.slice y.1.2.2.2.1 y.1.2.2.2.2.2.length y.1.2.2.2.2.1) 31 1 y.1.2.2.2.2.2.length (y.1.2.2.2.2.2.map Sg.val), .oth gx y.1.2.2.1, .oth gm y.1.2.1, .row (.slice (some ⟨ga, 0, none⟩) ((asc (adrs l)).length) ca) 35 1 ((asc (adrs l)).length) (uv (asc (adrs l)))] ++ segG 35 1 uv y.1.2.2.2.2.2)) ?_ ?_
        · refine TC.seq_ ?_
          refine TC.region ?_
          refine TL.val rfl rfl rfl (gives_move rfl rfl) ?_
          refine TL.val rfl rfl rfl (gives_boolnot rfl rfl) ?_
          refine TL.end_ ?_
          refine TX.then_ ?_
          refine TC.condT rfl ?_
          refine TC.seq_ ?_
          refine TC.region ?_
          refine TL.val rfl rfl rfl (gives_move rfl rfl) ?_
          refine TL.val rfl rfl rfl (gives_len rfl Try.underlying28 rfl) ?_
          refine TL.val rfl rfl rfl (gives_assign rfl rfl) ?_
          refine TL.end_ ?_
          refine TX.then_ ?_
          refine TC.seq_ ?_
          refine TC.region ?_
          refine TL.val rfl rfl rfl (gives_move rfl rfl) ?_
          refine TL.val rfl rfl rfl (gives_move rfl rfl) ?_
          refine TL.val rfl rfl rfl (gives_move rfl rfl) ?_
          refine TL.mapset (i := 1) rfl rfl rfl rfl rfl rfl imX rfl hgx hmx (by unfold maxLen; omega) (wf32 (rt_in hu2 har)) (wf64 (by omega)) (fun obx2 hmx2 => ?_)
          rw [hfx] at hmx2
          try dsimp only [List.set_cons_zero, List.set_cons_succ]
          refine TL.end_ ?_
          refine TX.then_ ?_
          refine TC.region ?_
          refine TL.val rfl rfl rfl (gives_move rfl rfl) ?_
          refine TL.prowS (e := 31) (size := 1) (cs := [Sg.nil Int].map Sg.val) rfl rfl rfl rfl rfl (fun w => uclbs28_1_58639 _ _ _ w) (by decide) rfl (fun g62 => ?_)
          refine TL.appendT (k := 1) rfl rfl rfl rfl Try.underlying28 uclel28 rfl rfl rfl (fun w1 hw => pm_reads hw (k := 0) rfl) (by intro u hu; rw [List.map_singleton, List.mem_singleton] at hu; subst hu; rfl) (by show _ * 24 ≤ _; omega) ((ss ++ [Sg.nil Int]).length) (by rw [List.length_append]; rfl) ((ss ++ [Sg.nil Int]).map Sg.val) (by rw [List.map_append]) (fun A63 c63 hA631 hA632 => ?_)
          refine TL.val rfl rfl rfl (gives_assign rfl rfl) ?_
          refine TL.end_ ?_
          exact TX.joined (⟨(ss.length, ob2, obx2, A63, c63, ss ++ [Sg.nil Int]), by simp, by simp; omega, hA631, hA632, hu2, ⟨_, by rw [List.length_append]; exact hmx2, by rw [hss]; exact hix.new hfx⟩, hnew⟩) (⟨rfl, rfl, rfl, rfl, rfl, rfl, rfl, rfl, trivial⟩) (fun w1 hw => (Pm.segNil (P := _) hw.tail rfl))
        · rintro ⟨⟨k, ob3, obx3, Ap, cp, ts⟩, hk1, hk2, hk3, hk4, hu3, ⟨f3, hmx3, hix3⟩, hcl⟩
          dsimp only at hk1 hk2 hk3 hk4 hu3 hmx3 hcl ⊢
          obtain ⟨s, hs⟩ : ∃ s, ts[k]? = some s := ⟨_, List.getElem?_eq_getElem hk1⟩
          refine TC.fact (p := ∃ g, Ap = some ⟨g, 0, none⟩) (fun w1 hw => rowA hw (k := 0) rfl (by omega)) ?_
          rintro ⟨go, rfl⟩
          have hsl := cls_at hs hcl
          rw [List.length_take] at hsl
          refine TC.mem (fun w1 hw => Pm.segOut (P := _) hw hs) ?_
          refine TC.region ?_
          refine TL.val rfl rfl rfl (gives_move rfl rfl) ?_
          refine TL.val rfl rfl rfl (gives_move rfl rfl) ?_
          refine TL.val rfl rfl rfl (gives_move rfl rfl) ?_
          refine TL.val rfl rfl rfl (gives_move rfl rfl) ?_
          refine TL.val rfl rfl rfl (gives_at (v := .pointer (some ⟨go, k, none⟩)) rfl rfl rfl (fun w => at_row Try.underlying28 uclsz31 go _ _ k hk1 rfl w)) ?_
          refine TL.val rfl rfl rfl (pm_loadRow (k := 1) (i := k) rfl rfl uclag31 rfl (by rw [List.getElem?_map, hs]; rfl)) ?_
          refine TL.val rfl rfl rfl (gives_move rfl rfl) ?_
          refine TL.prowS (e := 35) (size := 1) (cs := uv [a]) rfl rfl rfl rfl rfl (fun w => uclbs31_1_5377 _ w) (by decide) rfl (fun g71 => ?_)
          refine TL.appendT (k := 1) rfl rfl rfl rfl Try.underlying31 uclel31 rfl rfl rfl (fun w1 hw => pm_reads hw (k := 0) rfl) (uv_one _) (by show _ * 4 ≤ _; omega) ((s.l ++ [a]).length) (by rw [List.length_append]; rfl) (uv (s.l ++ [a])) (by rw [uv_app]) (fun A72 c72 hA721 hA722 => ?_)
          refine TL.val rfl rfl rfl (gives_at (v := .pointer (some ⟨go, k, none⟩)) rfl rfl rfl (fun w => at_row Try.underlying28 uclsz31 go _ _ k hk1 rfl w)) ?_
          refine TL.rowset (k := 2) (off := k) (vs := [(⟨A72, c72, s.l ++ [a]⟩ : Sg Int).val]) rfl rfl rfl rfl (v := (⟨A72, c72, s.l ++ [a]⟩ : Sg Int).val) (by rw [show (⟨A72, c72, s.l ++ [a]⟩ : Sg Int).val = .slice A72 (s.l ++ [a]).length c72 from rfl]; rfl) rfl rfl uclsz31 (by intro u hu; rw [List.mem_singleton] at hu; subst hu; rfl) (by rw [List.length_map]; exact hk1) (vals_set ts k _ hk1) ?_
          try dsimp only [List.set_cons_zero, List.set_cons_succ]
          refine TL.end_ ?_
          refine TX.in_normal ?_
          refine TX.then_ ?_
          refine TC.region ?_
          refine TL.val rfl rfl rfl (gives_bin rfl rfl rfl (fun w => bin_add_ (r := ((i + 1 : Nat) : Int)) (by simp only [IntKind.wrap_i64]; omega) w)) ?_
          refine TL.val rfl rfl rfl (gives_move rfl rfl) ?_
          refine TL.end_ ?_
          have hfin : (ts.set k (⟨A72, c72, s.l ++ [a]⟩ : Sg Int)).map (·.l) = cls (repF l) ((asc (adrs l)).take (i + 1)) := by
            rw [hat, ← hcl, List.map_set, List.getD_eq_getElem?_getD, List.getElem?_map, hs]
            rfl
          exact TX.round (⟨(i + 1, ob3, obx3, some ⟨go, 0, none⟩, cp, ts.set k ⟨A72, c72, s.l ++ [a]⟩), hia, by simp only [List.length_set]; omega, by simp only [List.length_set]; omega, hk4, hu3, ⟨f3, by simp only [List.length_set]; exact hmx3, by rw [hat]; exact hix3⟩, hfin⟩) (by show (asc (adrs l)).length - (i + 1) < (asc (adrs l)).length - i; omega) ⟨rfl, rfl, (by (try dsimp only); rw [List.length_set]; rfl), rfl, rfl, rfl, trivial⟩ (fun w1 hw => by (try simp only [List.length_set]); exact Pm.segIn (P := _) hw.tail hk1)
      · obtain ⟨k, rfl, hkk, hix2⟩ := hix.old hfx
        have hkl : k < ss.length := by rw [hss]; exact (List.getElem?_eq_some_iff.1 hkk).1
        have hold := (congrArg (fun z => z.set k (z.getD k [] ++ [a])) hcs).trans (cls_old hkk).symm
        refine TC.region ?_
        refine TL.val rfl rfl rfl (gives_move rfl rfl) ?_
        refine TL.val rfl rfl rfl (gives_move rfl rfl) ?_
        refine TL.val rfl rfl rfl (gives_lookSome rfl rfl rfl imX (i := 1) rfl hmx (wf32 (rt_in hu2 har)) hfx) ?_
        refine TL.val rfl rfl rfl (gives_move rfl rfl) ?_
        refine TL.val rfl rfl rfl (gives_extract rfl rfl rfl) ?_
        refine TL.val rfl rfl rfl (gives_extract rfl rfl rfl) ?_
        refine TL.val rfl rfl rfl (gives_assign rfl rfl) ?_
        refine TL.val rfl rfl rfl (gives_assign rfl rfl) ?_
        refine TL.end_ ?_
        refine TX.then_ ?_
        refine TC.join (α := {y : Nat × Obj × Obj × Option Addr × Nat × List (Sg Int) // y.1 < y.2.2.2.2.2.length ∧ y.2.2.2.2.2.length ≤ i + 1 ∧ y.2.2.2.2.2.length ≤ y.2.2.2.2.1 ∧ y.2.2.2.2.1 ≤ maxLen ∧ UF y.2.1 n (repF l) ∧ (∃ f, MapII Try.prog 35 3 .u32 .i64 y.2.2.1 y.2.2.2.2.2.length f ∧ IX f (repF l) ((asc (adrs l)).take i ++ [a])) ∧ (y.2.2.2.2.2.map (·.l)).set y.1 ((y.2.2.2.2.2.map (·.l)).getD y.1 [] ++ [a]) = cls (repF l) ((asc (adrs l)).take i ++ [a])}) (fun y => [(3, .map (some gm)), (7, .map (some gx)), (8, .slice y.1.2.2.2.1 y.1.2.2.2.2.2.length y.1.2.2.2.2.1), (39, .slice (some ⟨ga, 0, none⟩) ((asc (adrs l)).length) ca), (40, .int .i64 (((asc (adrs l)).length : Nat) : Int)), (41, .int .i64 ((i : Nat) : Int)), (10, .int .u32 a), (12, .int .i64 ((y.1.1 : Nat) : Int))]) (fun y => Pm w ([.row (.slice y.1.2.2.2.1 y.1.2.2.2.2.2.length y.1.2.2.2.2.1) 31 1 y.1.2.2.2.2.2.length (y.1.2.2.2.2.2.map Sg.val), .oth gx y.1.2.2.1, .oth gm y.1.2.1, .row (.slice (some ⟨ga, 0, none⟩) ((asc (adrs l)).length) ca) 35 1 ((asc (adrs l)).length) (uv (asc (adrs l)))] ++ segG 35 1 uv y.1.2.2.2.2.2)) ?_ ?_
        · refine TC.seq_ ?_
          refine TC.region ?_
          refine TL.val rfl rfl rfl (gives_move rfl rfl) ?_
          refine TL.val rfl rfl rfl (gives_boolnot rfl rfl) ?_
          refine TL.end_ ?_
          refine TX.then_ ?_
          refine TC.condF rfl ?_
          refine TC.skip_ ?_
          exact TX.joined (⟨(k, ob2, obx, Ao, co, ss), hkl, by dsimp only; omega, hc1, hc2, hu2, ⟨f, hmx, hix2⟩, hold⟩) (⟨rfl, rfl, rfl, rfl, rfl, rfl, rfl, rfl, trivial⟩) (fun w1 hw => hw)
        · rintro ⟨⟨k, ob3, obx3, Ap, cp, ts⟩, hk1, hk2, hk3, hk4, hu3, ⟨f3, hmx3, hix3⟩, hcl⟩
          dsimp only at hk1 hk2 hk3 hk4 hu3 hmx3 hcl ⊢
          obtain ⟨s, hs⟩ : ∃ s, ts[k]? = some s := ⟨_, List.getElem?_eq_getElem hk1⟩
          refine TC.fact (p := ∃ g, Ap = some ⟨g, 0, none⟩) (fun w1 hw => rowA hw (k := 0) rfl (by omega)) ?_
          rintro ⟨go, rfl⟩
          have hsl := cls_at hs hcl
          rw [List.length_take] at hsl
          refine TC.mem (fun w1 hw => Pm.segOut (P := _) hw hs) ?_
          refine TC.region ?_
          refine TL.val rfl rfl rfl (gives_move rfl rfl) ?_
          refine TL.val rfl rfl rfl (gives_move rfl rfl) ?_
          refine TL.val rfl rfl rfl (gives_move rfl rfl) ?_
          refine TL.val rfl rfl rfl (gives_move rfl rfl) ?_
          refine TL.val rfl rfl rfl (gives_at (v := .pointer (some ⟨go, k, none⟩)) rfl rfl rfl (fun w => at_row Try.underlying28 uclsz31 go _ _ k hk1 rfl w)) ?_
          refine TL.val rfl rfl rfl (pm_loadRow (k := 1) (i := k) rfl rfl uclag31 rfl (by rw [List.getElem?_map, hs]; rfl)) ?_
          refine TL.val rfl rfl rfl (gives_move rfl rfl) ?_
          refine TL.prowS (e := 35) (size := 1) (cs := uv [a]) rfl rfl rfl rfl rfl (fun w => uclbs31_1_5377 _ w) (by decide) rfl (fun g71 => ?_)
          refine TL.appendT (k := 1) rfl rfl rfl rfl Try.underlying31 uclel31 rfl rfl rfl (fun w1 hw => pm_reads hw (k := 0) rfl) (uv_one _) (by show _ * 4 ≤ _; omega) ((s.l ++ [a]).length) (by rw [List.length_append]; rfl) (uv (s.l ++ [a])) (by rw [uv_app]) (fun A72 c72 hA721 hA722 => ?_)
          refine TL.val rfl rfl rfl (gives_at (v := .pointer (some ⟨go, k, none⟩)) rfl rfl rfl (fun w => at_row Try.underlying28 uclsz31 go _ _ k hk1 rfl w)) ?_
          refine TL.rowset (k := 2) (off := k) (vs := [(⟨A72, c72, s.l ++ [a]⟩ : Sg Int).val]) rfl rfl rfl rfl (v := (⟨A72, c72, s.l ++ [a]⟩ : Sg Int).val) (by rw [show (⟨A72, c72, s.l ++ [a]⟩ : Sg Int).val = .slice A72 (s.l ++ [a]).length c72 from rfl]; rfl) rfl rfl uclsz31 (by intro u hu; rw [List.mem_singleton] at hu; subst hu; rfl) (by rw [List.length_map]; exact hk1) (vals_set ts k _ hk1) ?_
          try dsimp only [List.set_cons_zero, List.set_cons_succ]
          refine TL.end_ ?_
          refine TX.in_normal ?_
          refine TX.then_ ?_
          refine TC.region ?_
          refine TL.val rfl rfl rfl (gives_bin rfl rfl rfl (fun w => bin_add_ (r := ((i + 1 : Nat) : Int)) (by simp only [IntKind.wrap_i64]; omega) w)) ?_
          refine TL.val rfl rfl rfl (gives_move rfl rfl) ?_
          refine TL.end_ ?_
          have hfin : (ts.set k (⟨A72, c72, s.l ++ [a]⟩ : Sg Int)).map (·.l) = cls (repF l) ((asc (adrs l)).take (i + 1)) := by
            rw [hat, ← hcl, List.map_set, List.getD_eq_getElem?_getD, List.getElem?_map, hs]
            rfl
          exact TX.round (⟨(i + 1, ob3, obx3, some ⟨go, 0, none⟩, cp, ts.set k ⟨A72, c72, s.l ++ [a]⟩), hia, by simp only [List.length_set]; omega, by simp only [List.length_set]; omega, hk4, hu3, ⟨f3, by simp only [List.length_set]; exact hmx3, by rw [hat]; exact hix3⟩, hfin⟩) (by show (asc (adrs l)).length - (i + 1) < (asc (adrs l)).length - i; omega) ⟨rfl, rfl, (by (try dsimp only); rw [List.length_set]; rfl), rfl, rfl, rfl, trivial⟩ (fun w1 hw => by (try simp only [List.length_set]); exact Pm.segIn (P := _) hw.tail hk1)
    · have q42 := of_decide_eq_false h42
      have hi2 : i = (asc (adrs l)).length := by omega
      subst hi2
      rw [List.take_length] at hcs
      refine TL.end_ ?_
      refine TX.then_ ?_
      refine TC.seq_ ?_
      refine TC.condF rfl ?_
      refine TC.exit_ ?_
      refine TX.then_exit ?_
      refine TX.then_exit ?_
      refine TX.in_same ?_
      refine TX.then_ ?_
      refine TC.seq_ ?_
      refine TC.region ?_
      refine TL.val rfl rfl rfl (gives_move rfl rfl) ?_
      refine TL.val rfl rfl rfl (gives_assign rfl rfl) ?_
      refine TL.end_ ?_
      refine TX.then_ ?_
      refine TC.ret_ ?_
      exact ret_tmp Try.results35 rfl (fun w1 hw => ⟨⟨((Ao, co), ss), hcs, hc1, hc2⟩, rfl, Pm.sel hw (.cons_cons _ (.cons _ (.cons _ (.cons _ (List.Sublist.refl _)))))⟩)
end Go.Proofs.Ytleckflmckbheaa

namespace Go.Proofs.Ytleckflmckbheaa
open Go.RowKit
set_option linter.unusedVariables false
set_option linter.unusedSimpArgs false
set_option maxRecDepth 20000
theorem clsL_nil : clsL [] = [] := by simp [clsL, adrs, asc, cpt, cls, ks, ksF]
noncomputable def clsV (l : List Fc) : List (List Int) := if validF l then clsL l else []
noncomputable instance (l : List Fc) (a b : Int) : Decidable (validF l ∧ repF l a = repF l b) := Classical.propDecidable _
theorem usanm50 : (Try.f50.name == "runtime.NumGoroutine") = false := by decide
theorem usabd50 : Try.f50.body.isNone = false := rfl
theorem usanm51 : (Try.f51.name == "runtime.NumGoroutine") = false := by decide
theorem usabd51 : Try.f51.body.isNone = false := rfl
theorem usanm22 : (Try.f22.name == "runtime.NumGoroutine") = false := by decide
theorem usabd22 : Try.f22.body.isNone = false := rfl
theorem usanm35 : (Try.f35.name == "runtime.NumGoroutine") = false := by decide
theorem usabd35 : Try.f35.body.isNone = false := rfl
theorem usasz42 (w : World) : (sizeOf 42).run Try.prog w = .ok 3 w := rfl
theorem usaag42 (w : World) : (isAgg 42).run Try.prog w = .ok true w := rfl
theorem usazv42 (w : World) : (zeroValue 42).run Try.prog w = .ok (.agg #[.int .i64 0, .int .u32 0, .int .u32 0]) w := rfl
theorem usafld42_1 (g o : Nat) (w : World) : (Instr.fieldAt 42 (.pointer (some ⟨g, o, none⟩)) 1).run Try.prog w = .ok (.pointer (some ⟨g, o + 1, none⟩)) w := by kernel_rfl
theorem usaag35 (w : World) : (isAgg 35).run Try.prog w = .ok false w := rfl
theorem usafld42_2 (g o : Nat) (w : World) : (Instr.fieldAt 42 (.pointer (some ⟨g, o, none⟩)) 2).run Try.prog w = .ok (.pointer (some ⟨g, o + 2, none⟩)) w := by kernel_rfl
theorem usanm36 : (Try.f36.name == "runtime.NumGoroutine") = false := by decide
theorem usabd36 : Try.f36.body.isNone = false := rfl
theorem usanm40 : (Try.f40.name == "runtime.NumGoroutine") = false := by decide
theorem usabd40 : Try.f40.body.isNone = false := rfl
set_option maxHeartbeats 1000000 in
theorem classes_no (A0 : Option Addr) (c0 : Nat) (w : World) : Calls Try.prog 35 #[.slice A0 0 c0] w fun e w' => e = .returned (.slice none 0 0) ∧ Below w.heap.size w w' := by
  refine begin_ (vs := [.slice A0 0 c0]) Try.func35 rfl rfl rfl ?_ (Pm.start w)
  refine TC.seq_ ?_
  refine TC.region ?_
  refine TL.val rfl rfl rfl (gives_assign rfl rfl) ?_
  refine TL.end_ ?_
  refine TX.then_ ?_
  refine TC.seq_ ?_
  refine TC.region ?_
  refine TL.mkmap rfl rfl rfl rfl (fun gm hgm => ?_)
  refine TL.val rfl rfl rfl (gives_assign rfl rfl) ?_
  refine TL.end_ ?_
  refine TX.then_ ?_
  refine TC.seq_ ?_
  refine TC.region ?_
  refine TL.val rfl rfl rfl (gives_assign rfl rfl) ?_
  refine TL.end_ ?_
  refine TX.then_ ?_
  refine TC.seq_ ?_
  refine TC.seq_ ?_
  refine TC.region ?_
  refine TL.val rfl rfl rfl (gives_move rfl rfl) ?_
  refine TL.val rfl rfl rfl (gives_len rfl Try.underlying26 rfl) ?_
  refine TL.val rfl rfl rfl (gives_move rfl rfl) ?_
  refine TL.end_ ?_
  refine TX.then_ ?_
  refine TC.block ?_
  refine TC.loop_ (α := Unit) (fun y => [(3, .map (some gm)), (4, .slice none 0 0), (15, .slice A0 0 c0), (16, .int .i64 0), (17, .int .i64 0)]) (fun y => Pm w [.oth gm (.map #[] 0)]) (fun y => 0) (()) ⟨rfl, rfl, rfl, rfl, rfl, trivial⟩ (fun w1 hw => hw) ?_
  rintro ⟨⟩
  refine TC.seq_ ?_
  refine TC.region ?_
  refine TL.val rfl rfl rfl (gives_bin rfl rfl rfl (fun w => bin_lss_f (by decide) w)) ?_
  refine TL.end_ ?_
  refine TX.then_ ?_
  refine TC.seq_ ?_
  refine TC.condF rfl ?_
  refine TC.exit_ ?_
  refine TX.then_exit ?_
  refine TX.then_exit ?_
  refine TX.in_same ?_
  refine TX.then_ ?_
  refine TC.seq_ ?_
  refine TC.region ?_
  refine TL.val rfl rfl rfl (gives_move rfl rfl) ?_
  refine TL.pcall1 (r := .tuple #[]) rfl rfl rfl rfl rfl Try.func50 usanm50 usabd50 (fun w1 hw => sort_nil w1) ?_
  refine TL.end_ ?_
  refine TX.then_ ?_
  refine TC.seq_ ?_
  refine TC.region ?_
  refine TL.mkmap rfl rfl rfl rfl (fun gx hgx => ?_)
  refine TL.val rfl rfl rfl (gives_assign rfl rfl) ?_
  refine TL.end_ ?_
  refine TX.then_ ?_
  refine TC.seq_ ?_
  refine TC.region ?_
  refine TL.val rfl rfl rfl (gives_assign rfl rfl) ?_
  refine TL.end_ ?_
  refine TX.then_ ?_
  refine TC.seq_ ?_
  refine TC.seq_ ?_
  refine TC.region ?_
  refine TL.val rfl rfl rfl (gives_move rfl rfl) ?_
  refine TL.pcall1 (r := .slice none 0 0) rfl rfl rfl rfl rfl Try.func51 usanm51 usabd51 (fun w1 hw => cpt_nil w1) ?_
  refine TL.val rfl rfl rfl (gives_len rfl Try.underlying31 rfl) ?_
  refine TL.val rfl rfl rfl (gives_move rfl rfl) ?_
  refine TL.end_ ?_
  refine TX.then_ ?_
  refine TC.block ?_
  refine TC.loop_ (α := Unit) (fun y => [(3, .map (some gm)), (7, .map (some gx)), (8, .slice none 0 0), (39, .slice none 0 0), (40, .int .i64 0), (41, .int .i64 0)]) (fun y => Pm w [.oth gx (.map #[] 0), .oth gm (.map #[] 0)]) (fun y => 0) (()) ⟨rfl, rfl, rfl, rfl, rfl, rfl, trivial⟩ (fun w1 hw => hw) ?_
  rintro ⟨⟩
  refine TC.seq_ ?_
  refine TC.region ?_
  refine TL.val rfl rfl rfl (gives_bin rfl rfl rfl (fun w => bin_lss_f (by decide) w)) ?_
  refine TL.end_ ?_
  refine TX.then_ ?_
  refine TC.seq_ ?_
  refine TC.condF rfl ?_
  refine TC.exit_ ?_
  refine TX.then_exit ?_
  refine TX.then_exit ?_
  refine TX.in_same ?_
  refine TX.then_ ?_
  refine TC.seq_ ?_
  refine TC.region ?_
  refine TL.val rfl rfl rfl (gives_move rfl rfl) ?_
  refine TL.val rfl rfl rfl (gives_assign rfl rfl) ?_
  refine TL.end_ ?_
  refine TX.then_ ?_
  refine TC.ret_ ?_
  exact ret_tmp Try.results35 rfl (fun w1 hw => ⟨rfl, hw.bel⟩)
theorem classes_any (A0 : Option Addr) (n0 c0 : Nat) (l : List Fc) (w : World) (hr : Reads w w.heap.size 3 A0 n0 (fcs l)) (hl : l.length = n0) (hl1 : l.length ≤ 1024) (hok : ∀ f ∈ l, f.Ok) :
    Calls Try.prog 35 #[.slice A0 n0 c0] w fun e w' => ∃ x : {y : (Option Addr × Nat) × List (Sg Int) // y.2.map (·.l) = clsL l ∧ y.2.length ≤ y.1.2 ∧ y.1.2 ≤ maxLen}, e = .returned (.slice x.1.1.1 x.1.2.length x.1.1.2) ∧ Pm w ([.row (.slice x.1.1.1 x.1.2.length x.1.1.2) 31 1 x.1.2.length (x.1.2.map Sg.val)] ++ segG 35 1 uv x.1.2) w' := by
  subst hl
  rcases Nat.eq_zero_or_pos l.length with h0 | h0
  · obtain rfl := List.eq_nil_of_length_eq_zero h0
    refine (classes_no A0 c0 w).mono fun e w1 ⟨h1, h2⟩ => ⟨⟨((none, 0), []), clsL_nil.symm, Nat.le_refl _, Nat.zero_le _⟩, h1, ?_⟩
    exact ((Pm.start w).below h2).nilrow _ _
  · exact classes_ne A0 c0 l w hr h0 hl1 hok
set_option maxHeartbeats 1000000 in
theorem clss_any (A0 : Option Addr) (n0 c0 : Nat) (l : List Fc) (w : World) (hr : Reads w w.heap.size 3 A0 n0 (fcs l)) (hl : l.length = n0) (hok : ∀ f ∈ l, f.Ok) :
    Calls Try.prog 11 #[.slice A0 n0 c0] w fun e w' => ∃ x : {y : (Option Addr × Nat) × List (Sg Int) // y.2.map (·.l) = clsV l ∧ y.2.length ≤ y.1.2 ∧ y.1.2 ≤ maxLen}, e = .returned (.slice x.1.1.1 x.1.2.length x.1.1.2) ∧ Pm w ([.row (.slice x.1.1.1 x.1.2.length x.1.1.2) 31 1 x.1.2.length (x.1.2.map Sg.val)] ++ segG 35 1 uv x.1.2) w' := by
  subst hl
  refine begin_ (vs := [.slice A0 l.length c0]) Try.func11 rfl rfl rfl ?_ (Pm.start w)
  refine TC.seq_ ?_
  refine TC.region ?_
  refine TL.val rfl rfl rfl (gives_assign rfl rfl) ?_
  refine TL.end_ ?_
  refine TX.then_ ?_
  refine TC.seq_ ?_
  refine TC.seq_ ?_
  refine TC.region ?_
  refine TL.val rfl rfl rfl (gives_move rfl rfl) ?_
  refine TL.callsplit rfl rfl rfl rfl rfl Try.func22 usanm22 usabd22 (fun w1 hw => valid_any A0 _ c0 l w1 ((hr.below hw.bel).more hw.bel.size) rfl) (fun h4 => ?_) (fun h4 => ?_)
  · have hV : validF l := of_decide_eq_true h4
    refine TL.val rfl rfl rfl (gives_boolnot rfl rfl) ?_
    refine TL.end_ ?_
    refine TX.then_ ?_
    refine TC.condF rfl ?_
    refine TC.skip_ ?_
    refine TX.then_ ?_
    refine TC.seq_ ?_
    refine TC.region ?_
    refine TL.val rfl rfl rfl (gives_move rfl rfl) ?_
    refine TL.pcallPm (α := {y : (Option Addr × Nat) × List (Sg Int) // y.2.map (·.l) = clsL l ∧ y.2.length ≤ y.1.2 ∧ y.1.2 ≤ maxLen}) (fun y => .slice y.1.1.1 y.1.2.length y.1.1.2) (fun y => [.row (.slice y.1.1.1 y.1.2.length y.1.1.2) 31 1 y.1.2.length (y.1.2.map Sg.val)] ++ segG 35 1 uv y.1.2) rfl rfl rfl rfl rfl Try.func35 usanm35 usabd35 (fun w1 hw => classes_any A0 _ c0 l w1 ((hr.below hw.bel).more hw.bel.size) rfl hV.1 hok) ?_ (fun y => segG_noAbs (e := 35) (size := 1) (enc := uv) y.1.2)
    rintro ⟨⟨⟨A, c⟩, ss⟩, hcs, hc1, hc2⟩
    dsimp only at hcs hc1 hc2 ⊢
    rw [List.append_nil]
    refine TL.val rfl rfl rfl (gives_assign rfl rfl) ?_
    refine TL.end_ ?_
    refine TX.then_ ?_
    refine TC.ret_ ?_
    exact ret_tmp Try.results11 rfl (fun w1 hw => ⟨⟨((A, c), ss), hcs.trans (if_pos hV).symm, hc1, hc2⟩, rfl, hw⟩)
  · have hV : ¬ validF l := of_decide_eq_false h4
    refine TL.val rfl rfl rfl (gives_boolnot rfl rfl) ?_
    refine TL.end_ ?_
    refine TX.then_ ?_
    refine TC.condT rfl ?_
    refine TC.seq_ ?_
    refine TC.region ?_
    refine TL.val rfl rfl rfl (gives_assign rfl rfl) ?_
    refine TL.end_ ?_
    refine TX.then_ ?_
    refine TC.ret_ ?_
    refine TX.then_ret ?_
    exact ret_tmp Try.results11 rfl (fun w1 hw => ⟨⟨((none, 0), []), (if_neg hV).symm, Nat.le_refl _, Nat.zero_le _⟩, rfl, hw.nilrow _ _⟩)
set_option maxHeartbeats 1000000 in
theorem same_any (A0 : Option Addr) (n0 c0 : Nat) (l : List Fc) (w : World) (hr : Reads w w.heap.size 3 A0 n0 (fcs l)) (hl : l.length = n0) (hok : ∀ f ∈ l, f.Ok) (a b : Int) (har : 0 ≤ a ∧ a ≤ 4294967295) (hbr : 0 ≤ b ∧ b ≤ 4294967295) :
    Calls Try.prog 17 #[.slice A0 n0 c0, .int .u32 a, .int .u32 b] w fun e w' => e = .returned (.bool (decide (validF l ∧ repF l a = repF l b))) ∧ Below w.heap.size w w' := by
  subst hl
  refine begin_ (vs := [.slice A0 l.length c0, .int .u32 a, .int .u32 b]) Try.func17 rfl rfl rfl ?_ (Pm.start w)
  refine TC.seq_ ?_
  refine TC.region ?_
  refine TL.val rfl rfl rfl (gives_assign rfl rfl) ?_
  refine TL.end_ ?_
  refine TX.then_ ?_
  refine TC.seq_ ?_
  refine TC.seq_ ?_
  refine TC.region ?_
  refine TL.val rfl rfl rfl (gives_move rfl rfl) ?_
  refine TL.callsplit rfl rfl rfl rfl rfl Try.func22 usanm22 usabd22 (fun w1 hw => valid_any A0 _ c0 l w1 ((hr.below hw.bel).more hw.bel.size) rfl) (fun h11 => ?_) (fun h11 => ?_)
  · have hV : validF l := of_decide_eq_true h11
    have hl1 : l.length ≤ 1024 := hV.1
    refine TL.val rfl rfl rfl (gives_boolnot rfl rfl) ?_
    refine TL.end_ ?_
    refine TX.then_ ?_
    refine TC.condF rfl ?_
    refine TC.skip_ ?_
    refine TX.then_ ?_
    refine TC.seq_ ?_
    refine TC.region ?_
    refine TL.mkmap rfl rfl rfl rfl (fun gm hgm => ?_)
    refine TL.val rfl rfl rfl (gives_assign rfl rfl) ?_
    refine TL.end_ ?_
    refine TX.then_ ?_
    refine TC.seq_ ?_
    refine TC.seq_ ?_
    refine TC.region ?_
    refine TL.val rfl rfl rfl (gives_move rfl rfl) ?_
    refine TL.val rfl rfl rfl (gives_len rfl Try.underlying26 rfl) ?_
    refine TL.val rfl rfl rfl (gives_move rfl rfl) ?_
    refine TL.end_ ?_
    refine TX.then_ ?_
    refine TC.block ?_
    refine TC.loop_ (α := {y : Nat × Nat × Obj // y.1 ≤ l.length ∧ y.2.1 ≤ y.1 ∧ UF y.2.2 y.2.1 (repF (l.take y.1))}) (fun y => [(1, .int .u32 a), (2, .int .u32 b), (7, .map (some gm)), (14, .slice A0 l.length c0), (15, .int .i64 ((l.length : Nat) : Int)), (16, .int .i64 ((y.1.1 : Nat) : Int))]) (fun y => Pm w [.oth gm y.1.2.2]) (fun y => l.length - y.1.1) (⟨(0, 0, .map #[] 0), Nat.zero_le _, Nat.le_refl _, ⟨fun _ => none, mapII_new _ _ _ _ _, roots_nil, fun _ _ h => by cases h⟩⟩) ⟨rfl, rfl, rfl, rfl, rfl, rfl, trivial⟩ (fun w1 hw => hw) ?_
    rintro ⟨⟨i, n, ob⟩, hi, hni, hu⟩
    dsimp only at hi hni hu ⊢
    refine TC.seq_ ?_
    refine TC.region ?_
    refine TL.vsplit rfl rfl rfl (gives_bin rfl rfl rfl (fun w => bin_lss w)) (fun h17 => ?_) (fun h17 => ?_)
    · have q17 := of_decide_eq_true h17
      have hi2 : i < l.length := by omega
      obtain ⟨x, hx⟩ : ∃ x, l[i]? = some x := ⟨_, List.getElem?_eq_getElem hi2⟩
      obtain ⟨b2, o2, hA2, hbb2, hc2⟩ := hr.ad (by omega) (by decide)
      have hxo := hok x (List.mem_of_getElem? hx)
      have htk : l.take (i + 1) = l.take i ++ [x] := by rw [List.take_add_one, hx]; rfl
      refine TL.end_ ?_
      refine TX.then_ ?_
      refine TC.seq_ ?_
      refine TC.condT rfl ?_
      refine TC.skip_ ?_
      refine TX.then_ ?_
      refine TC.seq_ ?_
      refine TC.block ?_
      refine TC.seq_ ?_
      refine TC.region ?_
      refine TL.val rfl rfl rfl (gives_at (v := .pointer (some ⟨b2, o2 + i * 3, none⟩)) rfl rfl rfl (fun w => at_el Try.underlying26 usasz42 hA2 _ _ i hi2 rfl w)) ?_
      refine TL.val rfl rfl rfl (gives_loadR rfl rfl usaag42 usasz42 (fc_cells_len x) (fun w1 hw j u hu => (hw.bel.cell hbb2).trans (fcs_cell hx hc2 j u hu))) ?_
      refine TL.pnew rfl rfl rfl (exec_alloc (cs := [.int .i64 0, .int .u32 0, .int .u32 0]) rfl usazv42 rfl) (fun g9 => ?_)
      refine TL.pstore (k := 0) (vs := x.cells) rfl rfl rfl rfl rfl rfl rfl usasz42 (fc_one x) (by show 3 ≤ 3; decide) (L' := [.blk g9 42 x.cells, .oth gm ob]) rfl ?_
      refine TL.end_ ?_
      refine TX.then_ ?_
      refine TC.region ?_
      refine TL.val rfl rfl rfl (gives_move rfl rfl) ?_
      refine TL.val rfl rfl rfl (gives_field (v := .pointer (some ⟨g9, 1, none⟩)) rfl rfl (fun w => usafld42_1 _ _ w)) ?_
      refine TL.val rfl rfl rfl (pm_load (k := 0) (i := 1) rfl rfl usaag35 rfl rfl) ?_
      refine TL.val rfl rfl rfl (gives_field (v := .pointer (some ⟨g9, 2, none⟩)) rfl rfl (fun w => usafld42_2 _ _ w)) ?_
      refine TL.val rfl rfl rfl (pm_load (k := 0) (i := 2) rfl rfl usaag35 rfl rfl) ?_
      refine TL.pcallObj (k := 1) (α := Unit) (fun _ => .bool (decide ((repF (l.take i)) x.a ≠ (repF (l.take i)) x.b))) (fun _ ob2 => ∃ n2, n2 ≤ n + 1 ∧ UF ob2 n2 (repF (l.take (i + 1)))) rfl rfl rfl rfl rfl Try.func36 usanm36 usabd36 rfl hgm (fun w1 hw hb1 => (join_any gm ob n ((repF (l.take i))) w1 hb1 hu (by unfold maxLen; omega) x ⟨hxo.1, hxo.2.1⟩ ⟨hxo.2.2.1, hxo.2.2.2⟩).mono fun e w2 ⟨ob2, n2, h1, h2, h3, h4, h5⟩ => ⟨(), ob2, h1, ⟨n2, h2, by rw [htk, repF_snoc]; exact h3⟩, h4, h5⟩) ?_
      rintro ⟨⟩ ob2 ⟨n2, hn2, hu2⟩
      try dsimp only [List.set_cons_zero, List.set_cons_succ]
      refine TL.end_ ?_
      refine TX.in_normal ?_
      refine TX.then_ ?_
      refine TC.region ?_
      refine TL.val rfl rfl rfl (gives_bin rfl rfl rfl (fun w => bin_add_ (r := ((i + 1 : Nat) : Int)) (by simp only [IntKind.wrap_i64]; omega) w)) ?_
      refine TL.val rfl rfl rfl (gives_move rfl rfl) ?_
      refine TL.end_ ?_
      exact TX.round (⟨(i + 1, n2, ob2), hi2, by dsimp only; omega, hu2⟩) (by show l.length - (i + 1) < l.length - i; omega) ⟨rfl, rfl, rfl, rfl, rfl, rfl, trivial⟩ (fun w1 hw => hw.pick [1] (by decide) rfl)
    · have q17 := of_decide_eq_false h17
      have hi2 : i = l.length := by omega
      subst hi2
      rw [List.take_length] at hu
      refine TL.end_ ?_
      refine TX.then_ ?_
      refine TC.seq_ ?_
      refine TC.condF rfl ?_
      refine TC.exit_ ?_
      refine TX.then_exit ?_
      refine TX.then_exit ?_
      refine TX.in_same ?_
      refine TX.then_ ?_
      refine TC.seq_ ?_
      refine TC.region ?_
      refine TL.val rfl rfl rfl (gives_move rfl rfl) ?_
      refine TL.val rfl rfl rfl (gives_move rfl rfl) ?_
      refine TL.pcallObj (k := 0) (α := Unit) (fun _ => .int .u32 ((repF l) a)) (fun _ ob2 => UF ob2 n (repF l)) rfl rfl rfl rfl rfl Try.func40 usanm40 usabd40 rfl hgm (fun w1 hw hb1 => (root_any gm ob n (repF l) w1 hb1 hu (by unfold maxLen; omega) a har).mono fun e w2 ⟨ob2, h1, h2, h3, h4⟩ => ⟨(), ob2, h1, h2, h3, h4⟩) ?_
      rintro ⟨⟩ ob2 hu2
      try dsimp only [List.set_cons_zero, List.set_cons_succ]
      refine TL.val rfl rfl rfl (gives_move rfl rfl) ?_
      refine TL.val rfl rfl rfl (gives_move rfl rfl) ?_
      refine TL.pcallObj (k := 0) (α := Unit) (fun _ => .int .u32 ((repF l) b)) (fun _ ob2 => UF ob2 n (repF l)) rfl rfl rfl rfl rfl Try.func40 usanm40 usabd40 rfl hgm (fun w1 hw hb1 => (root_any gm ob2 n (repF l) w1 hb1 hu2 (by unfold maxLen; omega) b hbr).mono fun e w2 ⟨ob2, h1, h2, h3, h4⟩ => ⟨(), ob2, h1, h2, h3, h4⟩) ?_
      rintro ⟨⟩ ob3 hu3
      try dsimp only [List.set_cons_zero, List.set_cons_succ]
      refine TL.vsplit rfl rfl rfl (gives_bin rfl rfl rfl (fun w => bin_eql w)) (fun h33 => ?_) (fun h33 => ?_)
      · have q33 := of_decide_eq_true h33
        refine TL.val rfl rfl rfl (gives_assign rfl rfl) ?_
        refine TL.end_ ?_
        refine TX.then_ ?_
        refine TC.ret_ ?_
        exact ret_tmp Try.results17 rfl (fun w1 hw => ⟨by rw [decide_eq_true ⟨hV, q33⟩], hw.bel⟩)
      · have q33 := of_decide_eq_false h33
        refine TL.val rfl rfl rfl (gives_assign rfl rfl) ?_
        refine TL.end_ ?_
        refine TX.then_ ?_
        refine TC.ret_ ?_
        exact ret_tmp Try.results17 rfl (fun w1 hw => ⟨by rw [decide_eq_false (fun hh => q33 hh.2)], hw.bel⟩)
  · have hV : ¬ validF l := of_decide_eq_false h11
    refine TL.val rfl rfl rfl (gives_boolnot rfl rfl) ?_
    refine TL.end_ ?_
    refine TX.then_ ?_
    refine TC.condT rfl ?_
    refine TC.seq_ ?_
    refine TC.region ?_
    refine TL.val rfl rfl rfl (gives_assign rfl rfl) ?_
    refine TL.end_ ?_
    refine TX.then_ ?_
    refine TC.ret_ ?_
    refine TX.then_ret ?_
    exact ret_tmp Try.results17 rfl (fun w1 hw => ⟨by rw [decide_eq_false (fun hh => hV hh.1)], hw.bel⟩)
end Go.Proofs.Ytleckflmckbheaa
