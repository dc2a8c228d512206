/-
  Texts of the proof, joined: Us5, Us6, Us7, Us8, Us9, UnRoot, UnVal, UnFor, UnCla, UnSame, UnFcs, UnBr0, DcEv, DcEl, RtOrd, RtChk, RtIdx, RtFrb, RtSr1, RtCat, RtBLaw, RtBRul, RtALaw.
-/
import Derived.Test.YtpnilgkmpfkekaaGreatRoutersRetractPk2
import Derived.Test.YtpnilgkmpfkekaaGreatRoutersRetractPk1
import Derived.Shelf.SortM.Plain
import Derived.Shelf.SortM.SortNone
set_option linter.unusedVariables false
set_option linter.unusedSimpArgs false
namespace Go.Proofs.YtpnilgkmpfkekaaGreat
set_option maxHeartbeats 1000000
open Go.RowKit
set_option maxRecDepth 20000
theorem Kt (w : World) : (sizeOf 30).run Tryz.prog w = .ok 1 w := rfl
theorem KH (w : World) : (isAgg 30).run Tryz.prog w = .ok false w := rfl
theorem Khi (g n c : Nat) (xs : List Int) (w : World) (h : Rw 30 w g n c xs) (hn : n <= 1000000) (a b p : Nat) (hap : a <= p) (hpb : p < b) (hb : b <= n) :
  Calls Tryz.prog 123 #[.slice (some ⟨g, 0, none⟩) n c, .int .i64 ((a : Nat) : Int), .int .i64 ((b : Nat) : Int), .int .i64 ((p : Nat) : Int)] w (RC (α := Nat × Bool) (fun x => .tuple #[.int .i64 ((x.1 : Nat) : Int), .bool x.2]) (fun x ys => Pin a b xs ys /\ Mid a b x.1 ys) 30 g n c w) := by
 have hl := h.len;refine Kj (I := Pm ⟨Kw w g, g⟩ (.row (.slice (some ⟨g, 0, none⟩) n c) 30 1 n (uv xs) :: Kk g w)) Tryz.func123 rfl rfl rfl ?_ (Pm.rowStart h);refine zSG (TL.rn 2 rfl (zET ?_));refine TC.join (α := Unit) (fun y => [(0, .slice (some ⟨g, 0, none⟩) n c), (1, .int .i64 ((a : Nat) : Int)), (2, .int .i64 ((b : Nat) : Int))]) (fun y => Pm ⟨Kw w g, g⟩ ([.row (.slice (some ⟨g, 0, none⟩) n c) 30 1 n (uv (swp xs a p))] ++ Kk g w)) ?_ ?_
 ·refine TC.held (ls := fA 16) (fun _ => True) (by kernel_rfl) rfl rfl (fun w hw => hw.drawn _) ?_;refine TH.tk 0 rfl rfl rfl (Kc rfl rfl) (fun _ _ => trivial) ?_;refine TH.tk 1 rfl rfl rfl (Kc rfl rfl) (fun _ _ => trivial) ?_;refine TH.tk 2 rfl rfl rfl (Kc rfl rfl) (fun _ _ => trivial) ?_;refine TH.tk 3 rfl rfl rfl (Kc rfl rfl) (fun _ _ => trivial) ?_;refine TH.tk 4 rfl rfl rfl (Kc rfl rfl) (fun _ _ => trivial) ?_;refine TH.tk 5 rfl rfl rfl (Kc rfl rfl) (fun _ _ => trivial) ?_;refine TH.tk 6 rfl rfl rfl (Ke (v := .pointer (some ⟨g, p, none⟩)) rfl rfl rfl (fun w => Kf Tryz.underlying61 Kt g _ _ p (by omega) rfl w)) (fun _ _ => trivial) ?_;refine TH.tk 8 rfl rfl rfl (Kc rfl rfl) (fun _ _ => trivial) ?_;refine TH.tk 9 rfl rfl rfl (Kc rfl rfl) (fun _ _ => trivial) ?_;refine TH.tk 10 rfl rfl rfl (Ke (v := .pointer (some ⟨g, a, none⟩)) rfl rfl rfl (fun w => Kf Tryz.underlying61 Kt g _ _ a (by omega) rfl w)) (fun _ _ => trivial) ?_;refine TH.two' 7 11 rfl rfl (by kernel_rfl) rfl rfl ?_ ?_
  ·refine TL.w rfl (Kh (k := 0) (i := p) rfl rfl KH rfl (by omega)) ?_;refine zE ?_;refine TX.held (fun _ _ => trivial) ?_;refine TH.o 11 ?_;refine TL.w rfl (Kh (k := 0) (i := a) rfl rfl KH rfl (by omega)) ?_;refine zE ?_;refine TX.held (fun _ _ => trivial) ?_;refine TH.tk 12 rfl rfl rfl (Ke (v := .pointer (some ⟨g, a, none⟩)) rfl rfl rfl (fun w => Kf Tryz.underlying61 Kt g _ _ a (by omega) rfl w)) (fun _ _ => trivial) ?_;refine TH.o 13 ?_;refine TL.uset (k := 0) (i := a) rfl rfl rfl rfl rfl rfl Kt (by omega) ?_;refine zE ?_;refine TX.held (fun _ _ => trivial) ?_;refine TH.tk 14 rfl rfl rfl (Ke (v := .pointer (some ⟨g, p, none⟩)) rfl rfl rfl (fun w => Kf Tryz.underlying61 Kt g _ _ p (by omega) rfl w)) (fun _ _ => trivial) ?_;refine TH.o 15 ?_;refine TL.uset (k := 0) (i := p) rfl rfl rfl rfl rfl rfl Kt (by rw [List.length_set]; omega) ?_;refine zE ?_;refine TX.held (fun _ _ => trivial) ?_;refine TH.done (by kernel_rfl) ?_;exact TX.jd (()) (fun w1 hw => hw)
  refine TL.w rfl (Kh (k := 0) (i := a) rfl rfl KH rfl (by omega)) ?_;refine zE ?_;refine TX.held (fun _ _ => trivial) ?_;refine TH.o 7 ?_;refine TL.w rfl (Kh (k := 0) (i := p) rfl rfl KH rfl (by omega)) ?_;refine zE ?_;refine TX.held (fun _ _ => trivial) ?_;refine TH.tk 12 rfl rfl rfl (Ke (v := .pointer (some ⟨g, a, none⟩)) rfl rfl rfl (fun w => Kf Tryz.underlying61 Kt g _ _ a (by omega) rfl w)) (fun _ _ => trivial) ?_;refine TH.o 13 ?_;refine TL.uset (k := 0) (i := a) rfl rfl rfl rfl rfl rfl Kt (by omega) ?_;refine zE ?_;refine TX.held (fun _ _ => trivial) ?_;refine TH.tk 14 rfl rfl rfl (Ke (v := .pointer (some ⟨g, p, none⟩)) rfl rfl rfl (fun w => Kf Tryz.underlying61 Kt g _ _ p (by omega) rfl w)) (fun _ _ => trivial) ?_;refine TH.o 15 ?_;refine TL.uset (k := 0) (i := p) rfl rfl rfl rfl rfl rfl Kt (by rw [List.length_set]; omega) ?_;refine zE ?_;refine TX.held (fun _ _ => trivial) ?_;refine TH.done (by kernel_rfl) ?_;exact TX.jd (()) (fun w1 hw => hw)
 rintro u;have hP1 : Pin a b xs (swp xs a p) := Pin.swp1 (by omega) (Nat.le_refl _) (by omega) hap hpb;have hl1 : (swp xs a p).length = n := by rw [KR]; exact hl
 have hS : Prt a b (a + 1) (b - 1) (swp xs a p) := Prt.start (by omega);refine zSG (TL.mv ?_);refine TL.v (gD ((a + 1 : Nat) : Int)) ?_;refine TL.mv ?_;refine TL.w rfl (Kd rfl rfl rfl (fun w => Ko (r := ((b - 1 : Nat) : Int)) (by simp only [IntKind.wrap_i64]; omega) w)) ?_;refine TL.rn 2 rfl (zET ?_);refine TC.join (α := {y : Nat // (a + 1) <= y /\ Prt a b y (b - 1) (swp xs a p) /\ (y <= b - 1 -> dx (swp xs a p) a <= dx (swp xs a p) y)}) (fun y => [(0, .slice (some ⟨g, 0, none⟩) n c), (1, .int .i64 ((a : Nat) : Int)), (2, .int .i64 ((b : Nat) : Int)), (10, .int .i64 ((y.1 : Nat) : Int)), (11, .int .i64 ((b - 1 : Nat) : Int))]) (fun y => Pm ⟨Kw w g, g⟩ ([.row (.slice (some ⟨g, 0, none⟩) n c) 30 1 n (uv (swp xs a p))] ++ Kk g w)) ?_ ?_
 ·refine zB (TC.lp (α := {y : Nat // (a + 1) <= y /\ Prt a b y (b - 1) (swp xs a p)}) [0, 1, 2, 11] rfl (fun y => [(10, .int .i64 ((y.1 : Nat) : Int))]) (fun y => Pm ⟨Kw w g, g⟩ ([.row (.slice (some ⟨g, 0, none⟩) n c) 30 1 n (uv (swp xs a p))] ++ Kk g w)) (fun y => b + 1 - y.1) (⟨(a + 1), Nat.le_refl _, hS⟩) (fun w1 hw => hw) ?_);rintro ⟨i, hi0, hQ⟩
  try dsimp only
  have hq1 := hQ.hi;have hq2 := hQ.hj;have hq3 := hQ.ij;refine zS (zS ?_);have hway : ¬ i <= b - 1 \/ (i <= b - 1 /\ dx (swp xs a p) i < dx (swp xs a p) a) \/ (i <= b - 1 /\ ¬ dx (swp xs a p) i < dx (swp xs a p) a) := by omega
  rcases hway with p1 | ⟨p1, p2⟩ | ⟨p1, p2⟩
  ·have hie : i <= b - 1 -> dx (swp xs a p) a <= dx (swp xs a p) i := fun hh => absurd hh p1;refine TC.quiet_ (E' := ?_) (by kernel_rfl) (by kernel_rfl) (fun w hw => hw.drawn _) ?_ ?_
   rotate_left
   ·refine TQ.rn 2 rfl ?_;refine TQ.w rfl (Kd rfl rfl rfl (fun w => KcM (by omega) w)) ?_;refine TQ.rn 11 rfl ?_;exact TQ.end_
   refine zT (zd (zx (zX (zX (zM ?_)))));exact TX.jd (⟨i, hi0, hQ, hie⟩) (fun w1 hw => hw)
  ·have hQ2 : Prt a b (i + 1) (b - 1) (swp xs a p) := hQ.inc p1 (by omega);refine TC.quiet_ (E' := ?_) (by kernel_rfl) (by kernel_rfl) (fun w hw => hw.drawn _) ?_ ?_
   rotate_left
   ·refine TQ.rn 2 rfl ?_;refine TQ.w rfl (Kd rfl rfl rfl (fun w => Ka2 (by omega) w)) ?_;refine TQ.rn 3 rfl ?_;refine TQ.on rfl rfl rfl ?_;refine TQ.w rfl (Ke (v := .pointer (some ⟨g, i, none⟩)) rfl rfl rfl (fun w => Kf Tryz.underlying61 Kt g _ _ i (by omega) rfl w)) ?_;refine TQ.on rfl rfl rfl ?_;refine TQ.w rfl (Kh (k := 0) (i := i) rfl rfl KH rfl (by omega)) ?_;refine TQ.rn 2 rfl ?_;refine TQ.on rfl rfl rfl ?_;refine TQ.w rfl (Ke (v := .pointer (some ⟨g, a, none⟩)) rfl rfl rfl (fun w => Kf Tryz.underlying61 Kt g _ _ a (by omega) rfl w)) ?_;refine TQ.on rfl rfl rfl ?_;refine TQ.w rfl (Kh (k := 0) (i := a) rfl rfl KH rfl (by omega)) ?_;refine TQ.on rfl rfl rfl ?_;refine TQ.p1 (v := .bool true) rfl KM (fun w1 hw => (Kaz _ _ p2 w1).mono fun en w2 ⟨h1, h2⟩ => ⟨h1, hw.below h2⟩) ?_;refine TQ.w rfl (KX rfl rfl rfl) ?_;exact TQ.end_
   refine zT (zc (zk (zT (zB (zG (TL.mv ?_))))));refine TL.v (gD ((i + 1 : Nat) : Int)) ?_;refine TL.as_ ?_;refine zE (zN ?_);exact TX.rd (⟨i + 1, by omega, hQ2⟩) (by show b + 1 - (i + 1) < b + 1 - i; omega) (fun w1 hw => hw)
  have hie : i <= b - 1 -> dx (swp xs a p) a <= dx (swp xs a p) i := fun _ => by omega
  refine TC.quiet_ (E' := ?_) (by kernel_rfl) (by kernel_rfl) (fun w hw => hw.drawn _) ?_ ?_
  rotate_left
  ·refine TQ.rn 2 rfl ?_;refine TQ.w rfl (Kd rfl rfl rfl (fun w => Ka2 (by omega) w)) ?_;refine TQ.rn 3 rfl ?_;refine TQ.on rfl rfl rfl ?_;refine TQ.w rfl (Ke (v := .pointer (some ⟨g, i, none⟩)) rfl rfl rfl (fun w => Kf Tryz.underlying61 Kt g _ _ i (by omega) rfl w)) ?_;refine TQ.on rfl rfl rfl ?_;refine TQ.w rfl (Kh (k := 0) (i := i) rfl rfl KH rfl (by omega)) ?_;refine TQ.rn 2 rfl ?_;refine TQ.on rfl rfl rfl ?_;refine TQ.w rfl (Ke (v := .pointer (some ⟨g, a, none⟩)) rfl rfl rfl (fun w => Kf Tryz.underlying61 Kt g _ _ a (by omega) rfl w)) ?_;refine TQ.on rfl rfl rfl ?_;refine TQ.w rfl (Kh (k := 0) (i := a) rfl rfl KH rfl (by omega)) ?_;refine TQ.on rfl rfl rfl ?_;refine TQ.p1 (v := .bool false) rfl KM (fun w1 hw => (KaB _ _ p2 w1).mono fun en w2 ⟨h1, h2⟩ => ⟨h1, hw.below h2⟩) ?_;refine TQ.w rfl (KX rfl rfl rfl) ?_;exact TQ.end_
  refine zT (zd (zx (zX (zX (zM ?_)))));exact TX.jd (⟨i, hi0, hQ, hie⟩) (fun w1 hw => hw)
 rintro ⟨i, hi0, hQ, hie⟩
 try dsimp only
 have hq1 := hQ.hi;have hq2 := hQ.hj;have hq3 := hQ.ij;refine TC.join (α := {y : Nat // y <= b - 1 /\ Prt a b i y (swp xs a p) /\ (i <= y -> dx (swp xs a p) y < dx (swp xs a p) a)}) (fun y => [(0, .slice (some ⟨g, 0, none⟩) n c), (1, .int .i64 ((a : Nat) : Int)), (2, .int .i64 ((b : Nat) : Int)), (10, .int .i64 ((i : Nat) : Int)), (11, .int .i64 ((y.1 : Nat) : Int))]) (fun y => Pm ⟨Kw w g, g⟩ ([.row (.slice (some ⟨g, 0, none⟩) n c) 30 1 n (uv (swp xs a p))] ++ Kk g w)) ?_ ?_
 ·refine zB (TC.lp (α := {y : Nat // y <= b - 1 /\ Prt a b i y (swp xs a p)}) [0, 1, 2, 10] rfl (fun y => [(11, .int .i64 ((y.1 : Nat) : Int))]) (fun y => Pm ⟨Kw w g, g⟩ ([.row (.slice (some ⟨g, 0, none⟩) n c) 30 1 n (uv (swp xs a p))] ++ Kk g w)) (fun y => y.1) (⟨b - 1, Nat.le_refl _, hQ⟩) (fun w1 hw => hw) ?_);rintro ⟨j, hj0, hR⟩
  try dsimp only
  have hr1 := hR.hi;have hr2 := hR.hj;have hr3 := hR.ij;refine zS (zS ?_);have hway : ¬ i <= j \/ (i <= j /\ dx (swp xs a p) j < dx (swp xs a p) a) \/ (i <= j /\ ¬ dx (swp xs a p) j < dx (swp xs a p) a) := by omega
  rcases hway with p1 | ⟨p1, p2⟩ | ⟨p1, p2⟩
  ·have hje : i <= j -> dx (swp xs a p) j < dx (swp xs a p) a := fun hh => absurd hh p1;refine TC.quiet_ (E' := ?_) (by kernel_rfl) (by kernel_rfl) (fun w hw => hw.drawn _) ?_ ?_
   rotate_left
   ·refine TQ.rn 2 rfl ?_;refine TQ.w rfl (Kd rfl rfl rfl (fun w => KcM (by omega) w)) ?_;refine TQ.rn 12 rfl ?_;exact TQ.end_
   refine zT (zd (zx (zX (zX (zM ?_)))));exact TX.jd (⟨j, hj0, hR, hje⟩) (fun w1 hw => hw)
  ·have hje : i <= j -> dx (swp xs a p) j < dx (swp xs a p) a := fun _ => p2;refine TC.quiet_ (E' := ?_) (by kernel_rfl) (by kernel_rfl) (fun w hw => hw.drawn _) ?_ ?_
   rotate_left
   ·refine TQ.rn 2 rfl ?_;refine TQ.w rfl (Kd rfl rfl rfl (fun w => Ka2 (by omega) w)) ?_;refine TQ.rn 3 rfl ?_;refine TQ.on rfl rfl rfl ?_;refine TQ.w rfl (Ke (v := .pointer (some ⟨g, j, none⟩)) rfl rfl rfl (fun w => Kf Tryz.underlying61 Kt g _ _ j (by omega) rfl w)) ?_;refine TQ.on rfl rfl rfl ?_;refine TQ.w rfl (Kh (k := 0) (i := j) rfl rfl KH rfl (by omega)) ?_;refine TQ.rn 2 rfl ?_;refine TQ.on rfl rfl rfl ?_;refine TQ.w rfl (Ke (v := .pointer (some ⟨g, a, none⟩)) rfl rfl rfl (fun w => Kf Tryz.underlying61 Kt g _ _ a (by omega) rfl w)) ?_;refine TQ.on rfl rfl rfl ?_;refine TQ.w rfl (Kh (k := 0) (i := a) rfl rfl KH rfl (by omega)) ?_;refine TQ.on rfl rfl rfl ?_;refine TQ.p1 (v := .bool true) rfl KM (fun w1 hw => (Kaz _ _ p2 w1).mono fun en w2 ⟨h1, h2⟩ => ⟨h1, hw.below h2⟩) ?_;refine TQ.rn 2 rfl ?_;exact TQ.end_
   refine zT (zd (zx (zX (zX (zM ?_)))));exact TX.jd (⟨j, hj0, hR, hje⟩) (fun w1 hw => hw)
  have hR2 : Prt a b i (j - 1) (swp xs a p) := hR.dec p1 (by omega);refine TC.quiet_ (E' := ?_) (by kernel_rfl) (by kernel_rfl) (fun w hw => hw.drawn _) ?_ ?_
  rotate_left
  ·refine TQ.rn 2 rfl ?_;refine TQ.w rfl (Kd rfl rfl rfl (fun w => Ka2 (by omega) w)) ?_;refine TQ.rn 3 rfl ?_;refine TQ.on rfl rfl rfl ?_;refine TQ.w rfl (Ke (v := .pointer (some ⟨g, j, none⟩)) rfl rfl rfl (fun w => Kf Tryz.underlying61 Kt g _ _ j (by omega) rfl w)) ?_;refine TQ.on rfl rfl rfl ?_;refine TQ.w rfl (Kh (k := 0) (i := j) rfl rfl KH rfl (by omega)) ?_;refine TQ.rn 2 rfl ?_;refine TQ.on rfl rfl rfl ?_;refine TQ.w rfl (Ke (v := .pointer (some ⟨g, a, none⟩)) rfl rfl rfl (fun w => Kf Tryz.underlying61 Kt g _ _ a (by omega) rfl w)) ?_;refine TQ.on rfl rfl rfl ?_;refine TQ.w rfl (Kh (k := 0) (i := a) rfl rfl KH rfl (by omega)) ?_;refine TQ.on rfl rfl rfl ?_;refine TQ.p1 (v := .bool false) rfl KM (fun w1 hw => (KaB _ _ p2 w1).mono fun en w2 ⟨h1, h2⟩ => ⟨h1, hw.below h2⟩) ?_;refine TQ.rn 2 rfl ?_;exact TQ.end_
  refine zT (zc (zk (zT (zB (zG (TL.mv ?_))))));refine TL.w rfl (Kd rfl rfl rfl (fun w => Ko (r := ((j - 1 : Nat) : Int)) (by simp only [IntKind.wrap_i64]; omega) w)) ?_;refine TL.as_ ?_;refine zE (zN ?_);exact TX.rd (⟨j - 1, by omega, hR2⟩) (by show j - 1 < j; omega) (fun w1 hw => hw)
 rintro ⟨j, hj0, hR, hje⟩
 try dsimp only
 have hr1 := hR.hi;have hr2 := hR.hj;have hr3 := hR.ij;refine zS (zSG (TL.rn 2 rfl ?_));refine TL.sp Kar (fun q65 => ?_) (fun q65 => ?_)
 ·refine zET (zc (zS (TC.held (ls := fA 16) (fun _ => True) (by kernel_rfl) rfl rfl (fun w hw => hw.drawn _) ?_)));refine TH.tk 0 rfl rfl rfl (Kc rfl rfl) (fun _ _ => trivial) ?_;refine TH.tk 1 rfl rfl rfl (Kc rfl rfl) (fun _ _ => trivial) ?_;refine TH.tk 2 rfl rfl rfl (Kc rfl rfl) (fun _ _ => trivial) ?_;refine TH.tk 3 rfl rfl rfl (Kc rfl rfl) (fun _ _ => trivial) ?_;refine TH.tk 4 rfl rfl rfl (Kc rfl rfl) (fun _ _ => trivial) ?_;refine TH.tk 5 rfl rfl rfl (Kc rfl rfl) (fun _ _ => trivial) ?_;refine TH.tk 6 rfl rfl rfl (Ke (v := .pointer (some ⟨g, a, none⟩)) rfl rfl rfl (fun w => Kf Tryz.underlying61 Kt g _ _ a (by omega) rfl w)) (fun _ _ => trivial) ?_;refine TH.tk 8 rfl rfl rfl (Kc rfl rfl) (fun _ _ => trivial) ?_;refine TH.tk 9 rfl rfl rfl (Kc rfl rfl) (fun _ _ => trivial) ?_;refine TH.tk 10 rfl rfl rfl (Ke (v := .pointer (some ⟨g, j, none⟩)) rfl rfl rfl (fun w => Kf Tryz.underlying61 Kt g _ _ j (by omega) rfl w)) (fun _ _ => trivial) ?_;refine TH.two' 7 11 rfl rfl (by kernel_rfl) rfl rfl ?_ ?_
  ·refine TL.w rfl (Kh (k := 0) (i := a) rfl rfl KH rfl (by omega)) ?_;refine zE ?_;refine TX.held (fun _ _ => trivial) ?_;refine TH.o 11 ?_;refine TL.w rfl (Kh (k := 0) (i := j) rfl rfl KH rfl (by omega)) ?_;refine zE ?_;refine TX.held (fun _ _ => trivial) ?_;refine TH.tk 12 rfl rfl rfl (Ke (v := .pointer (some ⟨g, j, none⟩)) rfl rfl rfl (fun w => Kf Tryz.underlying61 Kt g _ _ j (by omega) rfl w)) (fun _ _ => trivial) ?_;refine TH.o 13 ?_;refine TL.uset (k := 0) (i := j) rfl rfl rfl rfl rfl rfl Kt (by omega) ?_;refine zE ?_;refine TX.held (fun _ _ => trivial) ?_;refine TH.tk 14 rfl rfl rfl (Ke (v := .pointer (some ⟨g, a, none⟩)) rfl rfl rfl (fun w => Kf Tryz.underlying61 Kt g _ _ a (by omega) rfl w)) (fun _ _ => trivial) ?_;refine TH.o 15 ?_;refine TL.uset (k := 0) (i := a) rfl rfl rfl rfl rfl rfl Kt (by rw [List.length_set]; omega) ?_;refine zE ?_;refine TX.held (fun _ _ => trivial) ?_;refine TH.done (by kernel_rfl) ?_;refine zT (zSG (TL.rn 3 rfl (zET (zr (zR ?_)))));exact Kad Tryz.results123 rfl rfl (fun w1 hw => ⟨(j, true), swp (swp xs a p) j a, rfl, ⟨hP1.swap (by omega) (by omega) (by omega) (Nat.le_refl _) (by omega), hR.mid (by omega) (by omega)⟩, K9 hw (k := 0) rfl, hw.mapEnd (fun q hq => by simp [hq])⟩)
  refine TL.w rfl (Kh (k := 0) (i := j) rfl rfl KH rfl (by omega)) ?_;refine zE ?_;refine TX.held (fun _ _ => trivial) ?_;refine TH.o 7 ?_;refine TL.w rfl (Kh (k := 0) (i := a) rfl rfl KH rfl (by omega)) ?_;refine zE ?_;refine TX.held (fun _ _ => trivial) ?_;refine TH.tk 12 rfl rfl rfl (Ke (v := .pointer (some ⟨g, j, none⟩)) rfl rfl rfl (fun w => Kf Tryz.underlying61 Kt g _ _ j (by omega) rfl w)) (fun _ _ => trivial) ?_;refine TH.o 13 ?_;refine TL.uset (k := 0) (i := j) rfl rfl rfl rfl rfl rfl Kt (by omega) ?_;refine zE ?_;refine TX.held (fun _ _ => trivial) ?_;refine TH.tk 14 rfl rfl rfl (Ke (v := .pointer (some ⟨g, a, none⟩)) rfl rfl rfl (fun w => Kf Tryz.underlying61 Kt g _ _ a (by omega) rfl w)) (fun _ _ => trivial) ?_;refine TH.o 15 ?_;refine TL.uset (k := 0) (i := a) rfl rfl rfl rfl rfl rfl Kt (by rw [List.length_set]; omega) ?_;refine zE ?_;refine TX.held (fun _ _ => trivial) ?_;refine TH.done (by kernel_rfl) ?_;refine zT (zSG (TL.rn 3 rfl (zET (zr (zR ?_)))));exact Kad Tryz.results123 rfl rfl (fun w1 hw => ⟨(j, true), swp (swp xs a p) j a, rfl, ⟨hP1.swap (by omega) (by omega) (by omega) (Nat.le_refl _) (by omega), hR.mid (by omega) (by omega)⟩, K9 hw (k := 0) rfl, hw.mapEnd (fun q hq => by simp [hq])⟩)
 have hlt : i < j := by
  have h1 := hie (by omega);have h2 := hje (by omega);rcases Nat.lt_or_ge i j with hh | hh
  ·exact hh
  exfalso; obtain rfl : i = j := by omega
  omega
 refine zET (zd (zk (zT ?_)));refine TC.join (α := Unit) (fun y => [(0, .slice (some ⟨g, 0, none⟩) n c), (1, .int .i64 ((a : Nat) : Int)), (2, .int .i64 ((b : Nat) : Int)), (10, .int .i64 ((i : Nat) : Int)), (11, .int .i64 ((j : Nat) : Int))]) (fun y => Pm ⟨Kw w g, g⟩ ([.row (.slice (some ⟨g, 0, none⟩) n c) 30 1 n (uv (swp (swp xs a p) i j))] ++ Kk g w)) ?_ ?_
 ·refine TC.held (ls := fA 16) (fun _ => True) (by kernel_rfl) rfl rfl (fun w hw => hw.drawn _) ?_;refine TH.tk 0 rfl rfl rfl (Kc rfl rfl) (fun _ _ => trivial) ?_;refine TH.tk 1 rfl rfl rfl (Kc rfl rfl) (fun _ _ => trivial) ?_;refine TH.tk 2 rfl rfl rfl (Kc rfl rfl) (fun _ _ => trivial) ?_;refine TH.tk 3 rfl rfl rfl (Kc rfl rfl) (fun _ _ => trivial) ?_;refine TH.tk 4 rfl rfl rfl (Kc rfl rfl) (fun _ _ => trivial) ?_;refine TH.tk 5 rfl rfl rfl (Kc rfl rfl) (fun _ _ => trivial) ?_;refine TH.tk 6 rfl rfl rfl (Ke (v := .pointer (some ⟨g, j, none⟩)) rfl rfl rfl (fun w => Kf Tryz.underlying61 Kt g _ _ j (by omega) rfl w)) (fun _ _ => trivial) ?_;refine TH.tk 8 rfl rfl rfl (Kc rfl rfl) (fun _ _ => trivial) ?_;refine TH.tk 9 rfl rfl rfl (Kc rfl rfl) (fun _ _ => trivial) ?_;refine TH.tk 10 rfl rfl rfl (Ke (v := .pointer (some ⟨g, i, none⟩)) rfl rfl rfl (fun w => Kf Tryz.underlying61 Kt g _ _ i (by omega) rfl w)) (fun _ _ => trivial) ?_;refine TH.two' 7 11 rfl rfl (by kernel_rfl) rfl rfl ?_ ?_
  ·refine TL.w rfl (Kh (k := 0) (i := j) rfl rfl KH rfl (by omega)) ?_;refine zE ?_;refine TX.held (fun _ _ => trivial) ?_;refine TH.o 11 ?_;refine TL.w rfl (Kh (k := 0) (i := i) rfl rfl KH rfl (by omega)) ?_;refine zE ?_;refine TX.held (fun _ _ => trivial) ?_;refine TH.tk 12 rfl rfl rfl (Ke (v := .pointer (some ⟨g, i, none⟩)) rfl rfl rfl (fun w => Kf Tryz.underlying61 Kt g _ _ i (by omega) rfl w)) (fun _ _ => trivial) ?_;refine TH.o 13 ?_;refine TL.uset (k := 0) (i := i) rfl rfl rfl rfl rfl rfl Kt (by omega) ?_;refine zE ?_;refine TX.held (fun _ _ => trivial) ?_;refine TH.tk 14 rfl rfl rfl (Ke (v := .pointer (some ⟨g, j, none⟩)) rfl rfl rfl (fun w => Kf Tryz.underlying61 Kt g _ _ j (by omega) rfl w)) (fun _ _ => trivial) ?_;refine TH.o 15 ?_;refine TL.uset (k := 0) (i := j) rfl rfl rfl rfl rfl rfl Kt (by rw [List.length_set]; omega) ?_;refine zE ?_;refine TX.held (fun _ _ => trivial) ?_;refine TH.done (by kernel_rfl) ?_;exact TX.jd (()) (fun w1 hw => hw)
  refine TL.w rfl (Kh (k := 0) (i := i) rfl rfl KH rfl (by omega)) ?_;refine zE ?_;refine TX.held (fun _ _ => trivial) ?_;refine TH.o 7 ?_;refine TL.w rfl (Kh (k := 0) (i := j) rfl rfl KH rfl (by omega)) ?_;refine zE ?_;refine TX.held (fun _ _ => trivial) ?_;refine TH.tk 12 rfl rfl rfl (Ke (v := .pointer (some ⟨g, i, none⟩)) rfl rfl rfl (fun w => Kf Tryz.underlying61 Kt g _ _ i (by omega) rfl w)) (fun _ _ => trivial) ?_;refine TH.o 13 ?_;refine TL.uset (k := 0) (i := i) rfl rfl rfl rfl rfl rfl Kt (by omega) ?_;refine zE ?_;refine TX.held (fun _ _ => trivial) ?_;refine TH.tk 14 rfl rfl rfl (Ke (v := .pointer (some ⟨g, j, none⟩)) rfl rfl rfl (fun w => Kf Tryz.underlying61 Kt g _ _ j (by omega) rfl w)) (fun _ _ => trivial) ?_;refine TH.o 15 ?_;refine TL.uset (k := 0) (i := j) rfl rfl rfl rfl rfl rfl Kt (by rw [List.length_set]; omega) ?_;refine zE ?_;refine TX.held (fun _ _ => trivial) ?_;refine TH.done (by kernel_rfl) ?_;exact TX.jd (()) (fun w1 hw => hw)
 rintro u;have hP2 : Pin a b xs (swp (swp xs a p) i j) := hP1.swap (by omega) (by omega) (by omega) (by omega) (by omega);have hl2 : (swp (swp xs a p) i j).length = n := by rw [KR]; exact hl1
 have hT : Prt a b (i + 1) (j - 1) (swp (swp xs a p) i j) := hR.swap (by omega) hlt (by have := hje (by omega); omega) (hie (by omega));refine zSG (TL.mv ?_);refine TL.v (gD ((i + 1 : Nat) : Int)) ?_;refine TL.as_ ?_;refine zET (zSG (TL.mv ?_));refine TL.w rfl (Kd rfl rfl rfl (fun w => Ko (r := ((j - 1 : Nat) : Int)) (by simp only [IntKind.wrap_i64]; omega) w)) ?_;refine TL.as_ ?_;refine zET (zS (zB ?_));clear hie hje hR hQ hlt hS;refine TC.lp (α := {y : Nat × Nat × List Int // Prt a b y.1 y.2.1 y.2.2 /\ Pin a b xs y.2.2 /\ y.2.2.length = n}) [0, 1, 2] rfl (fun y => [(10, .int .i64 ((y.1.1 : Nat) : Int)), (11, .int .i64 ((y.1.2.1 : Nat) : Int))]) (fun y => Pm ⟨Kw w g, g⟩ ([.row (.slice (some ⟨g, 0, none⟩) n c) 30 1 n (uv y.1.2.2)] ++ Kk g w)) (fun y => y.1.2.1 + 1 - y.1.1) (⟨(i + 1, j - 1, swp (swp xs a p) i j), hT, hP2, hl2⟩) (fun w1 hw => hw) ?_;rintro ⟨⟨i0, j0, ys⟩, hS, hP, hly⟩;dsimp only at hS hP hly ⊢;have hs1 := hS.hi;have hs2 := hS.hj;have hs3 := hS.ij;refine zB ?_;refine TC.join (α := {y : Nat // i0 <= y /\ Prt a b y j0 ys /\ (y <= j0 -> dx ys a <= dx ys y)}) (fun y => [(0, .slice (some ⟨g, 0, none⟩) n c), (1, .int .i64 ((a : Nat) : Int)), (2, .int .i64 ((b : Nat) : Int)), (10, .int .i64 ((y.1 : Nat) : Int)), (11, .int .i64 ((j0 : Nat) : Int))]) (fun y => Pm ⟨Kw w g, g⟩ ([.row (.slice (some ⟨g, 0, none⟩) n c) 30 1 n (uv ys)] ++ Kk g w)) ?_ ?_
 ·refine zB (TC.lp (α := {y : Nat // i0 <= y /\ Prt a b y j0 ys}) [0, 1, 2, 11] rfl (fun y => [(10, .int .i64 ((y.1 : Nat) : Int))]) (fun y => Pm ⟨Kw w g, g⟩ ([.row (.slice (some ⟨g, 0, none⟩) n c) 30 1 n (uv ys)] ++ Kk g w)) (fun y => b + 1 - y.1) (⟨i0, Nat.le_refl _, hS⟩) (fun w1 hw => hw) ?_);rintro ⟨i, hi0, hQ⟩
  try dsimp only
  have hq1 := hQ.hi;have hq2 := hQ.hj;have hq3 := hQ.ij;refine zS (zS ?_);have hway : ¬ i <= j0 \/ (i <= j0 /\ dx ys i < dx ys a) \/ (i <= j0 /\ ¬ dx ys i < dx ys a) := by omega
  rcases hway with p1 | ⟨p1, p2⟩ | ⟨p1, p2⟩
  ·have hie : i <= j0 -> dx ys a <= dx ys i := fun hh => absurd hh p1;refine TC.quiet_ (E' := ?_) (by kernel_rfl) (by kernel_rfl) (fun w hw => hw.drawn _) ?_ ?_
   rotate_left
   ·refine TQ.rn 2 rfl ?_;refine TQ.w rfl (Kd rfl rfl rfl (fun w => KcM (by omega) w)) ?_;refine TQ.rn 11 rfl ?_;exact TQ.end_
   refine zT (zd (zx (zX (zX (zM ?_)))));exact TX.jd (⟨i, hi0, hQ, hie⟩) (fun w1 hw => hw)
  ·have hQ2 : Prt a b (i + 1) j0 ys := hQ.inc p1 (by omega);refine TC.quiet_ (E' := ?_) (by kernel_rfl) (by kernel_rfl) (fun w hw => hw.drawn _) ?_ ?_
   rotate_left
   ·refine TQ.rn 2 rfl ?_;refine TQ.w rfl (Kd rfl rfl rfl (fun w => Ka2 (by omega) w)) ?_;refine TQ.rn 3 rfl ?_;refine TQ.on rfl rfl rfl ?_;refine TQ.w rfl (Ke (v := .pointer (some ⟨g, i, none⟩)) rfl rfl rfl (fun w => Kf Tryz.underlying61 Kt g _ _ i (by omega) rfl w)) ?_;refine TQ.on rfl rfl rfl ?_;refine TQ.w rfl (Kh (k := 0) (i := i) rfl rfl KH rfl (by omega)) ?_;refine TQ.rn 2 rfl ?_;refine TQ.on rfl rfl rfl ?_;refine TQ.w rfl (Ke (v := .pointer (some ⟨g, a, none⟩)) rfl rfl rfl (fun w => Kf Tryz.underlying61 Kt g _ _ a (by omega) rfl w)) ?_;refine TQ.on rfl rfl rfl ?_;refine TQ.w rfl (Kh (k := 0) (i := a) rfl rfl KH rfl (by omega)) ?_;refine TQ.on rfl rfl rfl ?_;refine TQ.p1 (v := .bool true) rfl KM (fun w1 hw => (Kaz _ _ p2 w1).mono fun en w2 ⟨h1, h2⟩ => ⟨h1, hw.below h2⟩) ?_;refine TQ.w rfl (KX rfl rfl rfl) ?_;exact TQ.end_
   refine zT (zc (zk (zT (zB (zG (TL.mv ?_))))));refine TL.v (gD ((i + 1 : Nat) : Int)) ?_;refine TL.as_ ?_;refine zE (zN ?_);exact TX.rd (⟨i + 1, by omega, hQ2⟩) (by show b + 1 - (i + 1) < b + 1 - i; omega) (fun w1 hw => hw)
  have hie : i <= j0 -> dx ys a <= dx ys i := fun _ => by omega
  refine TC.quiet_ (E' := ?_) (by kernel_rfl) (by kernel_rfl) (fun w hw => hw.drawn _) ?_ ?_
  rotate_left
  ·refine TQ.rn 2 rfl ?_;refine TQ.w rfl (Kd rfl rfl rfl (fun w => Ka2 (by omega) w)) ?_;refine TQ.rn 3 rfl ?_;refine TQ.on rfl rfl rfl ?_;refine TQ.w rfl (Ke (v := .pointer (some ⟨g, i, none⟩)) rfl rfl rfl (fun w => Kf Tryz.underlying61 Kt g _ _ i (by omega) rfl w)) ?_;refine TQ.on rfl rfl rfl ?_;refine TQ.w rfl (Kh (k := 0) (i := i) rfl rfl KH rfl (by omega)) ?_;refine TQ.rn 2 rfl ?_;refine TQ.on rfl rfl rfl ?_;refine TQ.w rfl (Ke (v := .pointer (some ⟨g, a, none⟩)) rfl rfl rfl (fun w => Kf Tryz.underlying61 Kt g _ _ a (by omega) rfl w)) ?_;refine TQ.on rfl rfl rfl ?_;refine TQ.w rfl (Kh (k := 0) (i := a) rfl rfl KH rfl (by omega)) ?_;refine TQ.on rfl rfl rfl ?_;refine TQ.p1 (v := .bool false) rfl KM (fun w1 hw => (KaB _ _ p2 w1).mono fun en w2 ⟨h1, h2⟩ => ⟨h1, hw.below h2⟩) ?_;refine TQ.w rfl (KX rfl rfl rfl) ?_;exact TQ.end_
  refine zT (zd (zx (zX (zX (zM ?_)))));exact TX.jd (⟨i, hi0, hQ, hie⟩) (fun w1 hw => hw)
 rintro ⟨i, hi0, hQ, hie⟩
 try dsimp only
 have hq1 := hQ.hi;have hq2 := hQ.hj;have hq3 := hQ.ij;refine TC.join (α := {y : Nat // y <= j0 /\ Prt a b i y ys /\ (i <= y -> dx ys y < dx ys a)}) (fun y => [(0, .slice (some ⟨g, 0, none⟩) n c), (1, .int .i64 ((a : Nat) : Int)), (2, .int .i64 ((b : Nat) : Int)), (10, .int .i64 ((i : Nat) : Int)), (11, .int .i64 ((y.1 : Nat) : Int))]) (fun y => Pm ⟨Kw w g, g⟩ ([.row (.slice (some ⟨g, 0, none⟩) n c) 30 1 n (uv ys)] ++ Kk g w)) ?_ ?_
 ·refine zB (TC.lp (α := {y : Nat // y <= j0 /\ Prt a b i y ys}) [0, 1, 2, 10] rfl (fun y => [(11, .int .i64 ((y.1 : Nat) : Int))]) (fun y => Pm ⟨Kw w g, g⟩ ([.row (.slice (some ⟨g, 0, none⟩) n c) 30 1 n (uv ys)] ++ Kk g w)) (fun y => y.1) (⟨j0, Nat.le_refl _, hQ⟩) (fun w1 hw => hw) ?_);rintro ⟨j, hj0, hR⟩
  try dsimp only
  have hr1 := hR.hi;have hr2 := hR.hj;have hr3 := hR.ij;refine zS (zS ?_);have hway : ¬ i <= j \/ (i <= j /\ dx ys j < dx ys a) \/ (i <= j /\ ¬ dx ys j < dx ys a) := by omega
  rcases hway with p1 | ⟨p1, p2⟩ | ⟨p1, p2⟩
  ·have hje : i <= j -> dx ys j < dx ys a := fun hh => absurd hh p1;refine TC.quiet_ (E' := ?_) (by kernel_rfl) (by kernel_rfl) (fun w hw => hw.drawn _) ?_ ?_
   rotate_left
   ·refine TQ.rn 2 rfl ?_;refine TQ.w rfl (Kd rfl rfl rfl (fun w => KcM (by omega) w)) ?_;refine TQ.rn 12 rfl ?_;exact TQ.end_
   refine zT (zd (zx (zX (zX (zM ?_)))));exact TX.jd (⟨j, hj0, hR, hje⟩) (fun w1 hw => hw)
  ·have hje : i <= j -> dx ys j < dx ys a := fun _ => p2;refine TC.quiet_ (E' := ?_) (by kernel_rfl) (by kernel_rfl) (fun w hw => hw.drawn _) ?_ ?_
   rotate_left
   ·refine TQ.rn 2 rfl ?_;refine TQ.w rfl (Kd rfl rfl rfl (fun w => Ka2 (by omega) w)) ?_;refine TQ.rn 3 rfl ?_;refine TQ.on rfl rfl rfl ?_;refine TQ.w rfl (Ke (v := .pointer (some ⟨g, j, none⟩)) rfl rfl rfl (fun w => Kf Tryz.underlying61 Kt g _ _ j (by omega) rfl w)) ?_;refine TQ.on rfl rfl rfl ?_;refine TQ.w rfl (Kh (k := 0) (i := j) rfl rfl KH rfl (by omega)) ?_;refine TQ.rn 2 rfl ?_;refine TQ.on rfl rfl rfl ?_;refine TQ.w rfl (Ke (v := .pointer (some ⟨g, a, none⟩)) rfl rfl rfl (fun w => Kf Tryz.underlying61 Kt g _ _ a (by omega) rfl w)) ?_;refine TQ.on rfl rfl rfl ?_;refine TQ.w rfl (Kh (k := 0) (i := a) rfl rfl KH rfl (by omega)) ?_;refine TQ.on rfl rfl rfl ?_;refine TQ.p1 (v := .bool true) rfl KM (fun w1 hw => (Kaz _ _ p2 w1).mono fun en w2 ⟨h1, h2⟩ => ⟨h1, hw.below h2⟩) ?_;refine TQ.rn 2 rfl ?_;exact TQ.end_
   refine zT (zd (zx (zX (zX (zM ?_)))));exact TX.jd (⟨j, hj0, hR, hje⟩) (fun w1 hw => hw)
  have hR2 : Prt a b i (j - 1) ys := hR.dec p1 (by omega);refine TC.quiet_ (E' := ?_) (by kernel_rfl) (by kernel_rfl) (fun w hw => hw.drawn _) ?_ ?_
  rotate_left
  ·refine TQ.rn 2 rfl ?_;refine TQ.w rfl (Kd rfl rfl rfl (fun w => Ka2 (by omega) w)) ?_;refine TQ.rn 3 rfl ?_;refine TQ.on rfl rfl rfl ?_;refine TQ.w rfl (Ke (v := .pointer (some ⟨g, j, none⟩)) rfl rfl rfl (fun w => Kf Tryz.underlying61 Kt g _ _ j (by omega) rfl w)) ?_;refine TQ.on rfl rfl rfl ?_;refine TQ.w rfl (Kh (k := 0) (i := j) rfl rfl KH rfl (by omega)) ?_;refine TQ.rn 2 rfl ?_;refine TQ.on rfl rfl rfl ?_;refine TQ.w rfl (Ke (v := .pointer (some ⟨g, a, none⟩)) rfl rfl rfl (fun w => Kf Tryz.underlying61 Kt g _ _ a (by omega) rfl w)) ?_;refine TQ.on rfl rfl rfl ?_;refine TQ.w rfl (Kh (k := 0) (i := a) rfl rfl KH rfl (by omega)) ?_;refine TQ.on rfl rfl rfl ?_;refine TQ.p1 (v := .bool false) rfl KM (fun w1 hw => (KaB _ _ p2 w1).mono fun en w2 ⟨h1, h2⟩ => ⟨h1, hw.below h2⟩) ?_;refine TQ.rn 2 rfl ?_;exact TQ.end_
  refine zT (zc (zk (zT (zB (zG (TL.mv ?_))))));refine TL.w rfl (Kd rfl rfl rfl (fun w => Ko (r := ((j - 1 : Nat) : Int)) (by simp only [IntKind.wrap_i64]; omega) w)) ?_;refine TL.as_ ?_;refine zE (zN ?_);exact TX.rd (⟨j - 1, by omega, hR2⟩) (by show j - 1 < j; omega) (fun w1 hw => hw)
 rintro ⟨j, hj0, hR, hje⟩
 try dsimp only
 have hr1 := hR.hi;have hr2 := hR.hj;have hr3 := hR.ij;refine zS (zSG (TL.rn 2 rfl ?_));refine TL.sp Kar (fun q134 => ?_) (fun q134 => ?_)
 ·refine zET (zc (zx (zX (zO (zX (zM (zT (zS (TC.held (ls := fA 16) (fun _ => True) (by kernel_rfl) rfl rfl (fun w hw => hw.drawn _) ?_)))))))));refine TH.tk 0 rfl rfl rfl (Kc rfl rfl) (fun _ _ => trivial) ?_;refine TH.tk 1 rfl rfl rfl (Kc rfl rfl) (fun _ _ => trivial) ?_;refine TH.tk 2 rfl rfl rfl (Kc rfl rfl) (fun _ _ => trivial) ?_;refine TH.tk 3 rfl rfl rfl (Kc rfl rfl) (fun _ _ => trivial) ?_;refine TH.tk 4 rfl rfl rfl (Kc rfl rfl) (fun _ _ => trivial) ?_;refine TH.tk 5 rfl rfl rfl (Kc rfl rfl) (fun _ _ => trivial) ?_;refine TH.tk 6 rfl rfl rfl (Ke (v := .pointer (some ⟨g, a, none⟩)) rfl rfl rfl (fun w => Kf Tryz.underlying61 Kt g _ _ a (by omega) rfl w)) (fun _ _ => trivial) ?_;refine TH.tk 8 rfl rfl rfl (Kc rfl rfl) (fun _ _ => trivial) ?_;refine TH.tk 9 rfl rfl rfl (Kc rfl rfl) (fun _ _ => trivial) ?_;refine TH.tk 10 rfl rfl rfl (Ke (v := .pointer (some ⟨g, j, none⟩)) rfl rfl rfl (fun w => Kf Tryz.underlying61 Kt g _ _ j (by omega) rfl w)) (fun _ _ => trivial) ?_;refine TH.two' 7 11 rfl rfl (by kernel_rfl) rfl rfl ?_ ?_
  ·refine TL.w rfl (Kh (k := 0) (i := a) rfl rfl KH rfl (by omega)) ?_;refine zE ?_;refine TX.held (fun _ _ => trivial) ?_;refine TH.o 11 ?_;refine TL.w rfl (Kh (k := 0) (i := j) rfl rfl KH rfl (by omega)) ?_;refine zE ?_;refine TX.held (fun _ _ => trivial) ?_;refine TH.tk 12 rfl rfl rfl (Ke (v := .pointer (some ⟨g, j, none⟩)) rfl rfl rfl (fun w => Kf Tryz.underlying61 Kt g _ _ j (by omega) rfl w)) (fun _ _ => trivial) ?_;refine TH.o 13 ?_;refine TL.uset (k := 0) (i := j) rfl rfl rfl rfl rfl rfl Kt (by omega) ?_;refine zE ?_;refine TX.held (fun _ _ => trivial) ?_;refine TH.tk 14 rfl rfl rfl (Ke (v := .pointer (some ⟨g, a, none⟩)) rfl rfl rfl (fun w => Kf Tryz.underlying61 Kt g _ _ a (by omega) rfl w)) (fun _ _ => trivial) ?_;refine TH.o 15 ?_;refine TL.uset (k := 0) (i := a) rfl rfl rfl rfl rfl rfl Kt (by rw [List.length_set]; omega) ?_;refine zE ?_;refine TX.held (fun _ _ => trivial) ?_;refine TH.done (by kernel_rfl) ?_;refine zT (zSG (TL.rn 3 rfl (zET (zr ?_))));exact Kad Tryz.results123 rfl rfl (fun w1 hw => ⟨(j, false), swp ys j a, rfl, ⟨hP.swap (by omega) (by omega) (by omega) (Nat.le_refl _) (by omega), hR.mid (by omega) (by omega)⟩, K9 hw (k := 0) rfl, hw.mapEnd (fun q hq => by simp [hq])⟩)
  refine TL.w rfl (Kh (k := 0) (i := j) rfl rfl KH rfl (by omega)) ?_;refine zE ?_;refine TX.held (fun _ _ => trivial) ?_;refine TH.o 7 ?_;refine TL.w rfl (Kh (k := 0) (i := a) rfl rfl KH rfl (by omega)) ?_;refine zE ?_;refine TX.held (fun _ _ => trivial) ?_;refine TH.tk 12 rfl rfl rfl (Ke (v := .pointer (some ⟨g, j, none⟩)) rfl rfl rfl (fun w => Kf Tryz.underlying61 Kt g _ _ j (by omega) rfl w)) (fun _ _ => trivial) ?_;refine TH.o 13 ?_;refine TL.uset (k := 0) (i := j) rfl rfl rfl rfl rfl rfl Kt (by omega) ?_;refine zE ?_;refine TX.held (fun _ _ => trivial) ?_;refine TH.tk 14 rfl rfl rfl (Ke (v := .pointer (some ⟨g, a, none⟩)) rfl rfl rfl (fun w => Kf Tryz.underlying61 Kt g _ _ a (by omega) rfl w)) (fun _ _ => trivial) ?_;refine TH.o 15 ?_;refine TL.uset (k := 0) (i := a) rfl rfl rfl rfl rfl rfl Kt (by rw [List.length_set]; omega) ?_;refine zE ?_;refine TX.held (fun _ _ => trivial) ?_;refine TH.done (by kernel_rfl) ?_;refine zT (zSG (TL.rn 3 rfl (zET (zr ?_))));exact Kad Tryz.results123 rfl rfl (fun w1 hw => ⟨(j, false), swp ys j a, rfl, ⟨hP.swap (by omega) (by omega) (by omega) (Nat.le_refl _) (by omega), hR.mid (by omega) (by omega)⟩, K9 hw (k := 0) rfl, hw.mapEnd (fun q hq => by simp [hq])⟩)
 have hlt : i < j := by
  have h1 := hie (by omega);have h2 := hje (by omega);rcases Nat.lt_or_ge i j with hh | hh
  ·exact hh
  exfalso; obtain rfl : i = j := by omega
  omega
 refine zET (zd (zk (zT (zS (TC.held (ls := fA 16) (fun _ => True) (by kernel_rfl) rfl rfl (fun w hw => hw.drawn _) ?_)))));refine TH.tk 0 rfl rfl rfl (Kc rfl rfl) (fun _ _ => trivial) ?_;refine TH.tk 1 rfl rfl rfl (Kc rfl rfl) (fun _ _ => trivial) ?_;refine TH.tk 2 rfl rfl rfl (Kc rfl rfl) (fun _ _ => trivial) ?_;refine TH.tk 3 rfl rfl rfl (Kc rfl rfl) (fun _ _ => trivial) ?_;refine TH.tk 4 rfl rfl rfl (Kc rfl rfl) (fun _ _ => trivial) ?_;refine TH.tk 5 rfl rfl rfl (Kc rfl rfl) (fun _ _ => trivial) ?_;refine TH.tk 6 rfl rfl rfl (Ke (v := .pointer (some ⟨g, j, none⟩)) rfl rfl rfl (fun w => Kf Tryz.underlying61 Kt g _ _ j (by omega) rfl w)) (fun _ _ => trivial) ?_;refine TH.tk 8 rfl rfl rfl (Kc rfl rfl) (fun _ _ => trivial) ?_;refine TH.tk 9 rfl rfl rfl (Kc rfl rfl) (fun _ _ => trivial) ?_;refine TH.tk 10 rfl rfl rfl (Ke (v := .pointer (some ⟨g, i, none⟩)) rfl rfl rfl (fun w => Kf Tryz.underlying61 Kt g _ _ i (by omega) rfl w)) (fun _ _ => trivial) ?_;refine TH.two' 7 11 rfl rfl (by kernel_rfl) rfl rfl ?_ ?_
 ·refine TL.w rfl (Kh (k := 0) (i := j) rfl rfl KH rfl (by omega)) ?_;refine zE ?_;refine TX.held (fun _ _ => trivial) ?_;refine TH.o 11 ?_;refine TL.w rfl (Kh (k := 0) (i := i) rfl rfl KH rfl (by omega)) ?_;refine zE ?_;refine TX.held (fun _ _ => trivial) ?_;refine TH.tk 12 rfl rfl rfl (Ke (v := .pointer (some ⟨g, i, none⟩)) rfl rfl rfl (fun w => Kf Tryz.underlying61 Kt g _ _ i (by omega) rfl w)) (fun _ _ => trivial) ?_;refine TH.o 13 ?_;refine TL.uset (k := 0) (i := i) rfl rfl rfl rfl rfl rfl Kt (by omega) ?_;refine zE ?_;refine TX.held (fun _ _ => trivial) ?_;refine TH.tk 14 rfl rfl rfl (Ke (v := .pointer (some ⟨g, j, none⟩)) rfl rfl rfl (fun w => Kf Tryz.underlying61 Kt g _ _ j (by omega) rfl w)) (fun _ _ => trivial) ?_;refine TH.o 15 ?_;refine TL.uset (k := 0) (i := j) rfl rfl rfl rfl rfl rfl Kt (by rw [List.length_set]; omega) ?_;refine zE ?_;refine TX.held (fun _ _ => trivial) ?_;refine TH.done (by kernel_rfl) ?_;refine zT (zSG (TL.mv ?_));refine TL.v (gD ((i + 1 : Nat) : Int)) ?_;refine TL.as_ ?_;refine zET (zG (TL.mv ?_));refine TL.w rfl (Kd rfl rfl rfl (fun w => Ko (r := ((j - 1 : Nat) : Int)) (by simp only [IntKind.wrap_i64]; omega) w)) ?_;refine TL.as_ ?_;refine zE (zN ?_);exact TX.rd (⟨(i + 1, j - 1, swp ys i j), hR.swap (by omega) hlt (by have := hje (by omega); omega) (hie (by omega)), hP.swap (by omega) (by omega) (by omega) (by omega) (by omega), by rw [KR]; exact hly⟩) (by show j - 1 + 1 - (i + 1) < j0 + 1 - i0; omega) (fun w1 hw => hw)
 refine TL.w rfl (Kh (k := 0) (i := i) rfl rfl KH rfl (by omega)) ?_;refine zE ?_;refine TX.held (fun _ _ => trivial) ?_;refine TH.o 7 ?_;refine TL.w rfl (Kh (k := 0) (i := j) rfl rfl KH rfl (by omega)) ?_;refine zE ?_;refine TX.held (fun _ _ => trivial) ?_;refine TH.tk 12 rfl rfl rfl (Ke (v := .pointer (some ⟨g, i, none⟩)) rfl rfl rfl (fun w => Kf Tryz.underlying61 Kt g _ _ i (by omega) rfl w)) (fun _ _ => trivial) ?_;refine TH.o 13 ?_;refine TL.uset (k := 0) (i := i) rfl rfl rfl rfl rfl rfl Kt (by omega) ?_;refine zE ?_;refine TX.held (fun _ _ => trivial) ?_;refine TH.tk 14 rfl rfl rfl (Ke (v := .pointer (some ⟨g, j, none⟩)) rfl rfl rfl (fun w => Kf Tryz.underlying61 Kt g _ _ j (by omega) rfl w)) (fun _ _ => trivial) ?_;refine TH.o 15 ?_;refine TL.uset (k := 0) (i := j) rfl rfl rfl rfl rfl rfl Kt (by rw [List.length_set]; omega) ?_;refine zE ?_;refine TX.held (fun _ _ => trivial) ?_;refine TH.done (by kernel_rfl) ?_;refine zT (zSG (TL.mv ?_));refine TL.v (gD ((i + 1 : Nat) : Int)) ?_;refine TL.as_ ?_;refine zET (zG (TL.mv ?_));refine TL.w rfl (Kd rfl rfl rfl (fun w => Ko (r := ((j - 1 : Nat) : Int)) (by simp only [IntKind.wrap_i64]; omega) w)) ?_;refine TL.as_ ?_;refine zE (zN ?_);exact TX.rd (⟨(i + 1, j - 1, swp ys i j), hR.swap (by omega) hlt (by have := hje (by omega); omega) (hie (by omega)), hP.swap (by omega) (by omega) (by omega) (by omega) (by omega), by rw [KR]; exact hly⟩) (by show j - 1 + 1 - (i + 1) < j0 + 1 - i0; omega) (fun w1 hw => hw)
set_option maxRecDepth 20000
def KbI : List Int := [0, 1, 2, 2, 3, 3, 3, 3, 4, 4, 4, 4, 4, 4, 4, 4, 5, 5, 5, 5, 5, 5, 5, 5, 5, 5, 5, 5, 5, 5, 5, 5, 6, 6, 6, 6, 6, 6, 6, 6, 6, 6, 6, 6, 6, 6, 6, 6, 6, 6, 6, 6, 6, 6, 6, 6, 6, 6, 6, 6, 6, 6, 6, 6, 7, 7, 7, 7, 7, 7, 7, 7, 7, 7, 7, 7, 7, 7, 7, 7, 7, 7, 7, 7, 7, 7, 7, 7, 7, 7, 7, 7, 7, 7, 7, 7, 7, 7, 7, 7, 7, 7, 7, 7, 7, 7, 7, 7, 7, 7, 7, 7, 7, 7, 7, 7, 7, 7, 7, 7, 7, 7, 7, 7, 7, 7, 7, 7, 8, 8, 8, 8, 8, 8, 8, 8, 8, 8, 8, 8, 8, 8, 8, 8, 8, 8, 8, 8, 8, 8, 8, 8, 8, 8, 8, 8, 8, 8, 8, 8, 8, 8, 8, 8, 8, 8, 8, 8, 8, 8, 8, 8, 8, 8, 8, 8, 8, 8, 8, 8, 8, 8, 8, 8, 8, 8, 8, 8, 8, 8, 8, 8, 8, 8, 8, 8, 8, 8, 8, 8, 8, 8, 8, 8, 8, 8, 8, 8, 8, 8, 8, 8, 8, 8, 8, 8, 8, 8, 8, 8, 8, 8, 8, 8, 8, 8, 8, 8, 8, 8, 8, 8, 8, 8, 8, 8, 8, 8, 8, 8, 8, 8, 8, 8, 8, 8, 8, 8, 8, 8, 8, 8, 8, 8, 8, 8]
def KcE (x l : Nat) : Prop := x < 2 ^ l /\ (0 < x -> 2 ^ l <= 2 * x) /\ l <= 32
theorem Kkc : ∀ y, y < 256 -> KbI[y]? = some (((KbI.getD y 0).toNat : Nat) : Int) /\ y < 2 ^ (KbI.getD y 0).toNat /\ (0 < y -> 2 ^ (KbI.getD y 0).toNat <= 2 * y) /\ (KbI.getD y 0).toNat <= 8 := by decide +kernel
theorem Kez (y : Nat) (h : y < 256) : ∃ l : Nat, KbI[y]? = some ((l : Nat) : Int) /\ y < 2 ^ l /\ (0 < y -> 2 ^ l <= 2 * y) /\ l <= 8 := ⟨_, Kkc y h⟩
theorem Kg3 {x l : Nat} (k : Nat) (hk : k <= 16) (h1 : x / 2 ^ k < 2 ^ l) (h2 : 0 < x / 2 ^ k -> 2 ^ l <= 2 * (x / 2 ^ k)) (h3 : 2 ^ k <= x) (h4 : l <= 8) : KcE x (k + l) := by
 have hp : 0 < 2 ^ k := Nat.two_pow_pos k;have h5 : 0 < x / 2 ^ k := Nat.div_pos h3 hp;have h6 := h2 h5;have h7 : x / 2 ^ k * 2 ^ k <= x := Nat.div_mul_le_self _ _;refine ⟨?_, fun _ => ?_, by omega⟩
 ·rw [Nat.pow_add, Nat.mul_comm];exact (Nat.div_lt_iff_lt_mul hp).1 h1
 rw [Nat.pow_add]
 calc 2 ^ k * 2 ^ l <= 2 ^ k * (2 * (x / 2 ^ k)) := Nat.mul_le_mul_left _ h6
  _ = 2 * (x / 2 ^ k * 2 ^ k) := by rw [Nat.mul_left_comm, Nat.mul_comm (2 ^ k)]
  _ <= 2 * x := Nat.mul_le_mul_left _ h7
theorem Ki4 (x : Int) (m : Nat) (hm : m < 9223372036854775808) : ∃ r : Nat, bits .and .u64 x (m : Int) = (r : Int) /\ r <= m := by
 refine ⟨((BitVec.ofInt 64 x).toNat &&& m), ?_, Nat.and_le_right⟩;have hr : (BitVec.ofInt 64 x).toNat &&& m <= m := Nat.and_le_right;show IntKind.u64.wrap ((BitVec.ofInt 64 x &&& BitVec.ofInt 64 (m : Int)).toNat : Int) = _;rw [BitVec.toNat_and, Kiq m hm, IntKind.wrap_u64];omega
theorem Kcg (w : World) : (isAgg 160).run Tryz.prog w = .ok false w := rfl
theorem KdB (w : World) : (sizeOf 160).run Tryz.prog w = .ok 1 w := rfl
theorem KlS (w : World) : (zeroValue 160).run Tryz.prog w = .ok (.int .u64 0) w := rfl
theorem KlY : (Tryz.f135.name == "runtime.NumGoroutine") = false := by decide
theorem KiC : Tryz.f135.body.isNone = false := rfl
theorem Kal (w : World) : (sizeOf 30).run Tryz.prog w = .ok 1 w := rfl
theorem Kb6 (w : World) : (isAgg 30).run Tryz.prog w = .ok false w := rfl
theorem Kke (x : Nat) (hx : x <= 1000000) (w : World) : Calls Tryz.prog 111 #[.int .u64 ((x : Nat) : Int)] w fun e w' => ∃ L : {l : Nat // KcE x l}, e = .returned (.int .i64 ((L.1 : Nat) : Int)) /\ Pm w [] w' := by
 refine Kj Tryz.func111 rfl rfl rfl ?_ (Pm.start w);refine zSG (TL.as_ ?_);refine zET (zS (zS ?_));rcases (by omega : 65536 <= x \/ (¬ 65536 <= x /\ 256 <= x) \/ (¬ 65536 <= x /\ ¬ 256 <= x)) with p1 | ⟨p1, p2⟩ | ⟨p1, p2⟩
 ·obtain ⟨l, hl1, hl2, hl3, hl4⟩ := Kez (x / 65536) (by omega);have hL : KcE x (16 + l) := Kg3 16 (by decide) hl2 hl3 (by omega) (by omega);refine zG (TL.mv ?_);refine TL.w rfl (Kd rfl rfl rfl (fun w => KbZ (by omega) w)) ?_;refine zET (zd (zk (zT (zS (zSG (TL.mv ?_))))));refine TL.w rfl (Kd rfl rfl rfl (fun w => Kdm (by omega) w)) ?_;refine zET (zc (zSG (TL.mv ?_)));refine TL.w rfl (Kd (v := .int .u64 ((x / 65536 : Nat) : Int)) rfl rfl rfl (fun w => Ke4 65536 (by decide) (by decide) (by decide) w)) ?_;refine TL.as_ ?_;refine zET (zG (TL.mv ?_));refine TL.v (gD 16) ?_;refine TL.as_ ?_;refine zET (zS (zSG (TL.mv ?_)));refine TL.w rfl (Kd rfl rfl rfl (fun w => KbZ (by omega) w)) ?_;refine zET (zd (zk (zT (zSG (TL.rn 2 rfl ?_)))));refine TL.w rfl (KaQ rfl rfl (fun w => Kbs (k := .u64) Tryz.underlying5 Tryz.underlying144 (by simp only [IntKind.wrap_u8]; omega) w)) ?_;refine TL.w rfl (KcZ (vx := sv KbI) rfl (by kernel_rfl) rfl (fun w => KeD Tryz.underlying9 hl1 (by omega) w)) ?_;refine TL.w rfl (KaQ rfl rfl (fun w => Kbs (k := .u8) Tryz.underlying3 Tryz.underlying5 (by simp only [IntKind.wrap_i64]; omega) w)) ?_;refine TL.v (gD ((16 + l : Nat) : Int)) ?_;refine TL.as_ ?_;refine zET (zr ?_);exact Kg Tryz.results111 rfl (fun w1 hw => ⟨⟨16 + l, hL⟩, rfl, hw⟩)
 ·obtain ⟨l, hl1, hl2, hl3, hl4⟩ := Kez (x / 256) (by omega);have hL : KcE x (8 + l) := Kg3 8 (by decide) hl2 hl3 (by omega) (by omega);refine zG (TL.mv ?_);refine TL.w rfl (Kd rfl rfl rfl (fun w => KbZ (by omega) w)) ?_;refine zET (zd (zk (zT (zS (zSG (TL.mv ?_))))));refine TL.w rfl (Kd rfl rfl rfl (fun w => KbZ (by omega) w)) ?_;refine zET (zd (zk (zT (zS (zSG (TL.mv ?_))))));refine TL.w rfl (Kd rfl rfl rfl (fun w => Kdm (by omega) w)) ?_;refine zET (zc (zSG (TL.mv ?_)));refine TL.w rfl (Kd (v := .int .u64 ((x / 256 : Nat) : Int)) rfl rfl rfl (fun w => Ke4 256 (by decide) (by decide) (by decide) w)) ?_;refine TL.as_ ?_;refine zET (zG (TL.mv ?_));refine TL.v (gD 8) ?_;refine TL.as_ ?_;refine zET (zSG (TL.rn 2 rfl ?_));refine TL.w rfl (KaQ rfl rfl (fun w => Kbs (k := .u64) Tryz.underlying5 Tryz.underlying144 (by simp only [IntKind.wrap_u8]; omega) w)) ?_;refine TL.w rfl (KcZ (vx := sv KbI) rfl (by kernel_rfl) rfl (fun w => KeD Tryz.underlying9 hl1 (by omega) w)) ?_;refine TL.w rfl (KaQ rfl rfl (fun w => Kbs (k := .u8) Tryz.underlying3 Tryz.underlying5 (by simp only [IntKind.wrap_i64]; omega) w)) ?_;refine TL.v (gD ((8 + l : Nat) : Int)) ?_;refine TL.as_ ?_;refine zET (zr ?_);exact Kg Tryz.results111 rfl (fun w1 hw => ⟨⟨8 + l, hL⟩, rfl, hw⟩)
 obtain ⟨l, hl1, hl2, hl3, hl4⟩ := Kez (x) (by omega);have hL : KcE x (0 + l) := by rw [Nat.zero_add]; exact ⟨hl2, hl3, by omega⟩
 refine zG (TL.mv ?_);refine TL.w rfl (Kd rfl rfl rfl (fun w => KbZ (by omega) w)) ?_;refine zET (zd (zk (zT (zS (zSG (TL.mv ?_))))));refine TL.w rfl (Kd rfl rfl rfl (fun w => KbZ (by omega) w)) ?_;refine zET (zd (zk (zT (zS (zSG (TL.mv ?_))))));refine TL.w rfl (Kd rfl rfl rfl (fun w => KbZ (by omega) w)) ?_;refine zET (zd (zk (zT (zSG (TL.rn 2 rfl ?_)))));refine TL.w rfl (KaQ rfl rfl (fun w => Kbs (k := .u64) Tryz.underlying5 Tryz.underlying144 (by simp only [IntKind.wrap_u8]; omega) w)) ?_;refine TL.w rfl (KcZ (vx := sv KbI) rfl (by kernel_rfl) rfl (fun w => KeD Tryz.underlying9 hl1 (by omega) w)) ?_;refine TL.w rfl (KaQ rfl rfl (fun w => Kbs (k := .u8) Tryz.underlying3 Tryz.underlying5 (by simp only [IntKind.wrap_i64]; omega) w)) ?_;refine TL.v (gD ((0 + l : Nat) : Int)) ?_;refine TL.as_ ?_;refine zET (zr ?_);exact Kg Tryz.results111 rfl (fun w1 hw => ⟨⟨0 + l, hL⟩, rfl, hw⟩)
theorem KhF (x : Nat) (hx : x <= 1000000) (w : World) : Calls Tryz.prog 76 #[.int .u64 ((x : Nat) : Int)] w fun e w' => ∃ L : {l : Nat // KcE x l}, e = .returned (.int .i64 ((L.1 : Nat) : Int)) /\ Pm w [] w' := by
 refine Kj Tryz.func76 rfl rfl rfl ?_ (Pm.start w);refine zSG (TL.as_ ?_);refine zET (zS (zd (zk (zT (zSG (TL.mv ?_))))));refine TL.pM _ _ rfl Kk8 (fun w1 hw => Kke _ (by omega) w1) ?_;rintro ⟨l, hL⟩;dsimp only [lC, lN];refine TL.as_ ?_;refine zET (zr ?_);exact Kg Tryz.results76 rfl (fun w1 hw => ⟨⟨l, hL⟩, rfl, hw⟩)
theorem KiB (x : Nat) (hx1 : 0 < x) (hx : x <= 1000000) (w : World) : Calls Tryz.prog 134 #[.int .i64 ((x : Nat) : Int)] w fun e w' => ∃ p : {p : Nat // x < p /\ p <= 2 * x}, e = .returned (.int .u64 ((p.1 : Nat) : Int)) /\ Pm w [] w' := by
 refine Kj Tryz.func134 rfl rfl rfl ?_ (Pm.start w);refine zSG (TL.as_ ?_);refine zET (zSG (TL.mv ?_));refine TL.w rfl (KaQ rfl rfl (fun w => Kbs (k := .i64) Tryz.underlying110 Tryz.underlying3 (by simp only [IntKind.wrap_u64]; omega) w)) ?_;refine TL.pM _ _ rfl o76 (fun w1 hw => KhF _ (by omega) w1) ?_;rintro ⟨l, hL⟩;dsimp only [lC, lN];have hb1 := hL.2.1 hx1;have hb2 := hL.1;have hb3 := hL.2.2;have hp0 : 0 < 2 ^ l := Nat.two_pow_pos l;refine TL.w rfl (Kd (v := .int .u64 ((2 ^ l : Nat) : Int)) rfl rfl rfl (fun w => by rw [KeZ ((2 ^ l : Nat) : Int) (by omega) (show ((l : Nat) : Int) <= ((64 : Nat) : Int) by omega) (by rw [Int.toNat_natCast]; exact (Int.natCast_pow 2 l).symm) w]; congr 2; simp only [IntKind.wrap_u64]; omega)) ?_;refine TL.as_ ?_;refine zET (zr ?_);exact Kg Tryz.results134 rfl (fun w1 hw => ⟨⟨2 ^ l, hb2, hb1⟩, rfl, hw⟩)
theorem KlD (gs : Nat) (x : Int) (w : World) (hs : Blk w gs 160 [.int .u64 x].toArray) : Calls Tryz.prog 135 #[.pointer (some ⟨gs, 0, none⟩)] w fun e w' => ∃ y : Int, e = .returned (.int .u64 y) /\ Chg gs 160 [.int .u64 y] w [] w' := by
 refine Kj (I := Pm ⟨w, gs⟩ (.blk gs 160 [.int .u64 x] :: Kk gs w)) Tryz.func135 rfl rfl rfl ?_ (Pm.atBlk hs);refine zSG (TL.as_ ?_);refine zET (zS (TC.tail 8 (by kernel_rfl) (by kernel_rfl) (fun w hw => hw.drawn _) ?_));refine TS.val rfl rfl rfl (Kc rfl rfl) ?_;refine TS.val rfl rfl rfl (Ka8 rfl rfl) ?_;refine TS.v (gL 0 Kcg) ?_;refine TS.val rfl rfl rfl (Kc rfl rfl) ?_;refine TS.val rfl rfl rfl (Ka8 rfl rfl) ?_;refine TS.v (gL 0 Kcg) ?_;refine TS.val rfl rfl rfl (Kd rfl rfl rfl (fun w => KeZ 8192 (by decide) (by decide) (by decide) w)) ?_;refine TS.val rfl rfl rfl (Kd rfl rfl rfl (fun w => KcD (.inr (.inr rfl)) w)) ?_;refine TS.end_ ?_;refine TL.w rfl (Ka8 rfl rfl) ?_;refine TL.ps 0 KdB ?_;refine zET (zS (TC.tail 8 (by kernel_rfl) (by kernel_rfl) (fun w hw => hw.drawn _) ?_));refine TS.val rfl rfl rfl (Kc rfl rfl) ?_;refine TS.val rfl rfl rfl (Ka8 rfl rfl) ?_;refine TS.v (gL 0 Kcg) ?_;refine TS.val rfl rfl rfl (Kc rfl rfl) ?_;refine TS.val rfl rfl rfl (Ka8 rfl rfl) ?_;refine TS.v (gL 0 Kcg) ?_;refine TS.val rfl rfl rfl (Kd rfl rfl rfl (fun w => Ke4 128 (by decide) (by decide) (by decide) w)) ?_;refine TS.val rfl rfl rfl (Kd rfl rfl rfl (fun w => KcD (.inr (.inr rfl)) w)) ?_;refine TS.end_ ?_;refine TL.w rfl (Ka8 rfl rfl) ?_;refine TL.ps 0 KdB ?_;refine zET (zS (TC.tail 8 (by kernel_rfl) (by kernel_rfl) (fun w hw => hw.drawn _) ?_));refine TS.val rfl rfl rfl (Kc rfl rfl) ?_;refine TS.val rfl rfl rfl (Ka8 rfl rfl) ?_;refine TS.v (gL 0 Kcg) ?_;refine TS.val rfl rfl rfl (Kc rfl rfl) ?_;refine TS.val rfl rfl rfl (Ka8 rfl rfl) ?_;refine TS.v (gL 0 Kcg) ?_;refine TS.val rfl rfl rfl (Kd rfl rfl rfl (fun w => KeZ 131072 (by decide) (by decide) (by decide) w)) ?_;refine TS.val rfl rfl rfl (Kd rfl rfl rfl (fun w => KcD (.inr (.inr rfl)) w)) ?_;refine TS.end_ ?_;refine TL.w rfl (Ka8 rfl rfl) ?_;refine TL.ps 0 KdB ?_;refine zET (zSG (TL.mv ?_));refine TL.w rfl (Ka8 rfl rfl) ?_;refine TL.v (gL 0 Kcg) ?_;refine TL.as_ ?_;refine zET (zr ?_);exact Kg Tryz.results135 rfl (fun w1 hw => ⟨_, rfl, Pm.chg [] hw rfl⟩)
theorem Kjl (g n c : Nat) (xs : List Int) (w : World) (h : Rw 30 w g n c xs) (hn : n <= 1000000) (a b : Nat) (hab : a <= b) (hb : b <= n) :
  Calls Tryz.prog 117 #[.slice (some ⟨g, 0, none⟩) n c, .int .i64 ((a : Nat) : Int), .int .i64 ((b : Nat) : Int)] w (RC (α := Unit) (fun _ => .tuple #[]) (fun _ ys => Pin a b xs ys) 30 g n c w) := by
 have hl := h.len;refine Kj (I := Pm ⟨Kw w g, g⟩ (.row (.slice (some ⟨g, 0, none⟩) n c) 30 1 n (uv xs) :: Kk g w)) Tryz.func117 rfl rfl rfl ?_ (Pm.rowStart h);refine zSG (TL.rn 2 rfl ?_);refine TL.w rfl (Kd rfl rfl rfl (fun w => Ko (r := ((b - a : Nat) : Int)) (by simp only [IntKind.wrap_i64]; omega) w)) ?_;refine TL.as_ ?_;refine zET (zSG (TL.mv ?_));refine TL.sp K3 (fun q15 => ?_) (fun q15 => ?_)
 ·refine zET (zc (zSG (TL.mv ?_)));refine TL.w rfl (KaQ rfl rfl (fun w => Kbs (k := .i64) Tryz.underlying160 Tryz.underlying3 (by simp only [IntKind.wrap_u64]; omega) w)) ?_;refine TL.al KlS fun g7 => ?_;refine TL.ps 0 KdB ?_;refine zET (zSG (TL.mv ?_));refine TL.pM _ _ rfl Kma (fun w1 hw => KiB _ (by omega) (by omega) w1) ?_;rintro ⟨p, hp1, hp2⟩;dsimp only [lC, lN];refine TL.as_ ?_;refine zET (zSG (TL.rn 2 rfl ?_));refine TL.w rfl (Kd rfl rfl rfl (fun w => Kcb (r := (((b - a) / 4 : Nat) : Int)) (by omega) (by omega) (by omega) (by omega) w)) ?_;refine TL.w rfl (Kd rfl rfl rfl (fun w => KcO (r := ((((b - a) / 4) * 2 : Nat) : Int)) (by simp only [IntKind.wrap_i64]; omega) w)) ?_;refine TL.v (gD ((a + (((b - a) / 4) * 2) : Nat) : Int)) ?_;refine TL.w rfl (Kd rfl rfl rfl (fun w => Ko (r := (((a + (((b - a) / 4) * 2)) - 1 : Nat) : Int)) (by simp only [IntKind.wrap_i64]; omega) w)) ?_;refine TL.as_ ?_;refine zET (zB ?_);refine TC.lp (α := {y : Nat × Int × List Int // a + (b - a) / 4 * 2 - 1 <= y.1 /\ y.1 <= a + (b - a) / 4 * 2 + 2 /\ Pin a b xs y.2.2 /\ y.2.2.length = n}) [0, 1, 2, 6, 7, 8] rfl (fun y => [(9, .int .i64 ((y.1.1 : Nat) : Int))]) (fun y => Pm ⟨Kw w g, g⟩ ([.blk g7 160 [.int .u64 y.1.2.1], .row (.slice (some ⟨g, 0, none⟩) n c) 30 1 n (uv y.1.2.2)] ++ Kk g w)) (fun y => a + (b - a) / 4 * 2 + 2 - y.1.1) (⟨(a + (b - a) / 4 * 2 - 1, ((b - a : Nat) : Int), xs), Nat.le_refl _, by dsimp only; omega, Pin.refl _ _ _, hl⟩) (fun w1 hw => hw) ?_;rintro ⟨⟨i, u, ys⟩, hi1, hi2, hP, hly⟩;dsimp only at hi1 hi2 hP hly ⊢;refine zS (zSG (TL.rn 3 rfl ?_));refine TL.w rfl (Kd rfl rfl rfl (fun w => Kcb (r := (((b - a) / 4 : Nat) : Int)) (by omega) (by omega) (by omega) (by omega) w)) ?_;refine TL.w rfl (Kd rfl rfl rfl (fun w => KcO (r := ((((b - a) / 4) * 2 : Nat) : Int)) (by simp only [IntKind.wrap_i64]; omega) w)) ?_;refine TL.v (gD ((a + (((b - a) / 4) * 2) : Nat) : Int)) ?_;refine TL.v (gD ((a + (((b - a) / 4) * 2) + 1 : Nat) : Int)) ?_;refine TL.sp KcT (fun q33 => ?_) (fun q33 => ?_)
  ·refine zET (zc (zk (zT (zS (zB (zSG ?_))))));refine TL.pcallChg (k := 0) (α := Int) (fun y => .int .u64 y) (fun y => [.int .u64 y]) (fun y => []) rfl rfl rfl rfl rfl Tryz.func135 KlY KiC rfl (fun w1 hw => KlD g7 _ w1 (hw.at_ (k := 0) rfl).1) ?_;rintro v;dsimp only [List.cons_append, List.nil_append, List.set];refine TL.mv ?_;refine TL.w rfl (Kd rfl rfl rfl (fun w => Ko (r := ((p - 1 : Nat) : Int)) (by simp only [IntKind.wrap_u64]; omega) w)) ?_;obtain ⟨q, hq, hq2⟩ := Ki4 v (p - 1) (by omega);refine TL.w rfl (Kd (v := .int .u64 ((q : Nat) : Int)) rfl rfl rfl (fun w => by rw [<- hq]; exact KcD (.inl rfl) w)) ?_;refine TL.w rfl (KaQ rfl rfl (fun w => Kbs (k := .u64) Tryz.underlying3 Tryz.underlying110 (by simp only [IntKind.wrap_i64]; omega) w)) ?_;refine TL.as_ ?_;refine zET (zS (zSG (TL.rn 2 rfl ?_)));refine TL.sp K3 (fun q43 => ?_) (fun q43 => ?_)
   ·refine zET (zc (zG (TL.rn 2 rfl ?_)));refine TL.w rfl (Kd rfl rfl rfl (fun w => Ko (r := ((q - (b - a) : Nat) : Int)) (by simp only [IntKind.wrap_i64]; omega) w)) ?_;refine TL.as_ ?_;refine zET (TC.held (ls := fA 20) (fun _ => True) (by kernel_rfl) rfl rfl (fun w hw => hw.drawn _) ?_);refine TH.tk 0 rfl rfl rfl (Kc rfl rfl) (fun _ _ => trivial) ?_;refine TH.tk 1 rfl rfl rfl (Kc rfl rfl) (fun _ _ => trivial) ?_;refine TH.tk 2 rfl rfl rfl (Kc rfl rfl) (fun _ _ => trivial) ?_;refine TH.tk 3 rfl rfl rfl (Kc rfl rfl) (fun _ _ => trivial) ?_;refine TH.tk 4 rfl rfl rfl (Kc rfl rfl) (fun _ _ => trivial) ?_;refine TH.tk 5 rfl rfl rfl (gD ((a + (q - (b - a)) : Nat) : Int)) (fun _ _ => trivial) ?_;refine TH.tk 6 rfl rfl rfl (Kc rfl rfl) (fun _ _ => trivial) ?_;refine TH.tk 7 rfl rfl rfl (Kc rfl rfl) (fun _ _ => trivial) ?_;refine TH.tk 8 rfl rfl rfl (Kc rfl rfl) (fun _ _ => trivial) ?_;refine TH.tk 9 rfl rfl rfl (gD ((a + (q - (b - a)) : Nat) : Int)) (fun _ _ => trivial) ?_;refine TH.tk 10 rfl rfl rfl (Ke (v := .pointer (some ⟨g, a + (q - (b - a)), none⟩)) rfl rfl rfl (fun w => Kf Tryz.underlying61 Kal g _ _ (a + (q - (b - a))) (by omega) rfl w)) (fun _ _ => trivial) ?_;refine TH.tk 12 rfl rfl rfl (Kc rfl rfl) (fun _ _ => trivial) ?_;refine TH.tk 13 rfl rfl rfl (Kc rfl rfl) (fun _ _ => trivial) ?_;refine TH.tk 14 rfl rfl rfl (Ke (v := .pointer (some ⟨g, i, none⟩)) rfl rfl rfl (fun w => Kf Tryz.underlying61 Kal g _ _ i (by omega) rfl w)) (fun _ _ => trivial) ?_;refine TH.two' 11 15 rfl rfl (by kernel_rfl) rfl rfl ?_ ?_
    ·refine TL.w rfl (Kh (k := 1) (i := a + (q - (b - a))) rfl rfl Kb6 rfl (by omega)) ?_;refine zE ?_;refine TX.held (fun _ _ => trivial) ?_;refine TH.o 15 ?_;refine TL.w rfl (Kh (k := 1) (i := i) rfl rfl Kb6 rfl (by omega)) ?_;refine zE ?_;refine TX.held (fun _ _ => trivial) ?_;refine TH.tk 16 rfl rfl rfl (Ke (v := .pointer (some ⟨g, i, none⟩)) rfl rfl rfl (fun w => Kf Tryz.underlying61 Kal g _ _ i (by omega) rfl w)) (fun _ _ => trivial) ?_;refine TH.o 17 ?_;refine TL.uset (k := 1) (i := i) rfl rfl rfl rfl rfl rfl Kal (by omega) ?_;refine zE ?_;refine TX.held (fun _ _ => trivial) ?_;refine TH.tk 18 rfl rfl rfl (Ke (v := .pointer (some ⟨g, a + (q - (b - a)), none⟩)) rfl rfl rfl (fun w => Kf Tryz.underlying61 Kal g _ _ (a + (q - (b - a))) (by omega) rfl w)) (fun _ _ => trivial) ?_;refine TH.o 19 ?_;refine TL.uset (k := 1) (i := a + (q - (b - a))) rfl rfl rfl rfl rfl rfl Kal (by rw [List.length_set]; omega) ?_;refine zE ?_;refine TX.held (fun _ _ => trivial) ?_;refine TH.done (by kernel_rfl) ?_;refine zN (zT (zG (TL.mv ?_)));refine TL.v (gD ((i + 1 : Nat) : Int)) ?_;refine TL.as_ ?_;refine zE ?_;exact TX.rd (⟨(i + 1, v, swp ys i (a + (q - (b - a)))), by dsimp only; omega, by dsimp only; omega, hP.swap (by omega) (by omega) (by omega) (by omega) (by omega), by rw [KR]; exact hly⟩) (by dsimp only; omega) (fun w1 hw => hw)
    refine TL.w rfl (Kh (k := 1) (i := i) rfl rfl Kb6 rfl (by omega)) ?_;refine zE ?_;refine TX.held (fun _ _ => trivial) ?_;refine TH.o 11 ?_;refine TL.w rfl (Kh (k := 1) (i := a + (q - (b - a))) rfl rfl Kb6 rfl (by omega)) ?_;refine zE ?_;refine TX.held (fun _ _ => trivial) ?_;refine TH.tk 16 rfl rfl rfl (Ke (v := .pointer (some ⟨g, i, none⟩)) rfl rfl rfl (fun w => Kf Tryz.underlying61 Kal g _ _ i (by omega) rfl w)) (fun _ _ => trivial) ?_;refine TH.o 17 ?_;refine TL.uset (k := 1) (i := i) rfl rfl rfl rfl rfl rfl Kal (by omega) ?_;refine zE ?_;refine TX.held (fun _ _ => trivial) ?_;refine TH.tk 18 rfl rfl rfl (Ke (v := .pointer (some ⟨g, a + (q - (b - a)), none⟩)) rfl rfl rfl (fun w => Kf Tryz.underlying61 Kal g _ _ (a + (q - (b - a))) (by omega) rfl w)) (fun _ _ => trivial) ?_;refine TH.o 19 ?_;refine TL.uset (k := 1) (i := a + (q - (b - a))) rfl rfl rfl rfl rfl rfl Kal (by rw [List.length_set]; omega) ?_;refine zE ?_;refine TX.held (fun _ _ => trivial) ?_;refine TH.done (by kernel_rfl) ?_;refine zN (zT (zG (TL.mv ?_)));refine TL.v (gD ((i + 1 : Nat) : Int)) ?_;refine TL.as_ ?_;refine zE ?_;exact TX.rd (⟨(i + 1, v, swp ys i (a + (q - (b - a)))), by dsimp only; omega, by dsimp only; omega, hP.swap (by omega) (by omega) (by omega) (by omega) (by omega), by rw [KR]; exact hly⟩) (by dsimp only; omega) (fun w1 hw => hw)
   refine zET (zd (zk (zT (TC.held (ls := fA 20) (fun _ => True) (by kernel_rfl) rfl rfl (fun w hw => hw.drawn _) ?_))));refine TH.tk 0 rfl rfl rfl (Kc rfl rfl) (fun _ _ => trivial) ?_;refine TH.tk 1 rfl rfl rfl (Kc rfl rfl) (fun _ _ => trivial) ?_;refine TH.tk 2 rfl rfl rfl (Kc rfl rfl) (fun _ _ => trivial) ?_;refine TH.tk 3 rfl rfl rfl (Kc rfl rfl) (fun _ _ => trivial) ?_;refine TH.tk 4 rfl rfl rfl (Kc rfl rfl) (fun _ _ => trivial) ?_;refine TH.tk 5 rfl rfl rfl (gD ((a + q : Nat) : Int)) (fun _ _ => trivial) ?_;refine TH.tk 6 rfl rfl rfl (Kc rfl rfl) (fun _ _ => trivial) ?_;refine TH.tk 7 rfl rfl rfl (Kc rfl rfl) (fun _ _ => trivial) ?_;refine TH.tk 8 rfl rfl rfl (Kc rfl rfl) (fun _ _ => trivial) ?_;refine TH.tk 9 rfl rfl rfl (gD ((a + q : Nat) : Int)) (fun _ _ => trivial) ?_;refine TH.tk 10 rfl rfl rfl (Ke (v := .pointer (some ⟨g, a + q, none⟩)) rfl rfl rfl (fun w => Kf Tryz.underlying61 Kal g _ _ (a + q) (by omega) rfl w)) (fun _ _ => trivial) ?_;refine TH.tk 12 rfl rfl rfl (Kc rfl rfl) (fun _ _ => trivial) ?_;refine TH.tk 13 rfl rfl rfl (Kc rfl rfl) (fun _ _ => trivial) ?_;refine TH.tk 14 rfl rfl rfl (Ke (v := .pointer (some ⟨g, i, none⟩)) rfl rfl rfl (fun w => Kf Tryz.underlying61 Kal g _ _ i (by omega) rfl w)) (fun _ _ => trivial) ?_;refine TH.two' 11 15 rfl rfl (by kernel_rfl) rfl rfl ?_ ?_
   ·refine TL.w rfl (Kh (k := 1) (i := a + q) rfl rfl Kb6 rfl (by omega)) ?_;refine zE ?_;refine TX.held (fun _ _ => trivial) ?_;refine TH.o 15 ?_;refine TL.w rfl (Kh (k := 1) (i := i) rfl rfl Kb6 rfl (by omega)) ?_;refine zE ?_;refine TX.held (fun _ _ => trivial) ?_;refine TH.tk 16 rfl rfl rfl (Ke (v := .pointer (some ⟨g, i, none⟩)) rfl rfl rfl (fun w => Kf Tryz.underlying61 Kal g _ _ i (by omega) rfl w)) (fun _ _ => trivial) ?_;refine TH.o 17 ?_;refine TL.uset (k := 1) (i := i) rfl rfl rfl rfl rfl rfl Kal (by omega) ?_;refine zE ?_;refine TX.held (fun _ _ => trivial) ?_;refine TH.tk 18 rfl rfl rfl (Ke (v := .pointer (some ⟨g, a + q, none⟩)) rfl rfl rfl (fun w => Kf Tryz.underlying61 Kal g _ _ (a + q) (by omega) rfl w)) (fun _ _ => trivial) ?_;refine TH.o 19 ?_;refine TL.uset (k := 1) (i := a + q) rfl rfl rfl rfl rfl rfl Kal (by rw [List.length_set]; omega) ?_;refine zE ?_;refine TX.held (fun _ _ => trivial) ?_;refine TH.done (by kernel_rfl) ?_;refine zN (zT (zG (TL.mv ?_)));refine TL.v (gD ((i + 1 : Nat) : Int)) ?_;refine TL.as_ ?_;refine zE ?_;exact TX.rd (⟨(i + 1, v, swp ys i (a + q)), by dsimp only; omega, by dsimp only; omega, hP.swap (by omega) (by omega) (by omega) (by omega) (by omega), by rw [KR]; exact hly⟩) (by dsimp only; omega) (fun w1 hw => hw)
   refine TL.w rfl (Kh (k := 1) (i := i) rfl rfl Kb6 rfl (by omega)) ?_;refine zE ?_;refine TX.held (fun _ _ => trivial) ?_;refine TH.o 11 ?_;refine TL.w rfl (Kh (k := 1) (i := a + q) rfl rfl Kb6 rfl (by omega)) ?_;refine zE ?_;refine TX.held (fun _ _ => trivial) ?_;refine TH.tk 16 rfl rfl rfl (Ke (v := .pointer (some ⟨g, i, none⟩)) rfl rfl rfl (fun w => Kf Tryz.underlying61 Kal g _ _ i (by omega) rfl w)) (fun _ _ => trivial) ?_;refine TH.o 17 ?_;refine TL.uset (k := 1) (i := i) rfl rfl rfl rfl rfl rfl Kal (by omega) ?_;refine zE ?_;refine TX.held (fun _ _ => trivial) ?_;refine TH.tk 18 rfl rfl rfl (Ke (v := .pointer (some ⟨g, a + q, none⟩)) rfl rfl rfl (fun w => Kf Tryz.underlying61 Kal g _ _ (a + q) (by omega) rfl w)) (fun _ _ => trivial) ?_;refine TH.o 19 ?_;refine TL.uset (k := 1) (i := a + q) rfl rfl rfl rfl rfl rfl Kal (by rw [List.length_set]; omega) ?_;refine zE ?_;refine TX.held (fun _ _ => trivial) ?_;refine TH.done (by kernel_rfl) ?_;refine zN (zT (zG (TL.mv ?_)));refine TL.v (gD ((i + 1 : Nat) : Int)) ?_;refine TL.as_ ?_;refine zE ?_;exact TX.rd (⟨(i + 1, v, swp ys i (a + q)), by dsimp only; omega, by dsimp only; omega, hP.swap (by omega) (by omega) (by omega) (by omega) (by omega), by rw [KR]; exact hly⟩) (by dsimp only; omega) (fun w1 hw => hw)
  refine zET (zd (zx (zX (zX (zM ?_)))));exact KbO Tryz.results117 (fun w1 hw => ⟨(), ys, rfl, hP, K9 hw (k := 1) rfl, hw.mapEnd (fun q hq => by simp [hq])⟩)
 refine zET (zd (zk ?_));exact KbO Tryz.results117 (fun w1 hw => ⟨(), xs, rfl, Pin.refl _ _ _, K9 hw (k := 0) rfl, hw.mapEnd (fun q hq => by simp [hq])⟩)
set_option maxRecDepth 20000
theorem Rw.lt {e : TypeId} {w : World} {g n c : Nat} {xs : List Int} (h : Rw e w g n c xs) : g < w.heap.size := by
 obtain ⟨⟨o, ho⟩, _⟩ := h.obj;exact (Array.getElem?_eq_some_iff.1 ho).1
theorem Rw.cell {e : TypeId} {w : World} {g n c : Nat} {xs : List Int} (h : Rw e w g n c xs) {i : Nat} (hi : i < n) : w.cell? ⟨g, i, none⟩ = some (.int .u32 (dx xs i)) :=
 Kde (Pm.rowStart h) (k := 0) rfl (KgA (by rw [h.len]; exact hi))
theorem Kd9 (w : World) : (sizeOf 30).run Tryz.prog w = .ok 1 w := rfl
theorem Kd4 (w : World) : (isAgg 30).run Tryz.prog w = .ok false w := rfl
theorem Kei (w : World) : (isAgg 3).run Tryz.prog w = .ok false w := rfl
theorem KlE (w : World) : (sizeOf 3).run Tryz.prog w = .ok 1 w := rfl
theorem Kev : (Tryz.f145.name == "runtime.NumGoroutine") = false := by decide
theorem Kek : Tryz.f145.body.isNone = false := rfl
theorem Kfa : (Tryz.f140.name == "runtime.NumGoroutine") = false := by decide
theorem Ken : Tryz.f140.body.isNone = false := rfl
theorem Kji (w : World) : (zeroValue 3).run Tryz.prog w = .ok (.int .i64 0) w := rfl
theorem KeO : (Tryz.f139.name == "runtime.NumGoroutine") = false := by decide
theorem Kfd : Tryz.f139.body.isNone = false := rfl
theorem Kfg (g n c : Nat) (xs : List Int) (w : World) (hd : ∀ i, i < n -> w.cell? ⟨g, i, none⟩ = some (.int .u32 (dx xs i))) (hn : n <= 1000000) (a b lo hi : Nat) (ha : lo <= a /\ a < hi) (hb : lo <= b /\ b < hi) (hh : hi <= n) (gs : Nat) (s : Int) (hg : g < gs) (hs : Blk w gs 3 [.int .i64 s].toArray) :
  Calls Tryz.prog 145 #[.slice (some ⟨g, 0, none⟩) n c, .int .i64 ((a : Nat) : Int), .int .i64 ((b : Nat) : Int), .pointer (some ⟨gs, 0, none⟩)] w fun en w' => ∃ x : {y : Nat × Nat × Int // lo <= y.1 /\ y.1 < hi /\ lo <= y.2.1 /\ y.2.1 < hi}, en = .returned (.tuple #[.int .i64 ((x.1.1 : Nat) : Int), .int .i64 ((x.1.2.1 : Nat) : Int)]) /\ Chg gs 3 [.int .i64 x.1.2.2] w [] w' := by
 refine Kj (I := Pm ⟨w, gs⟩ (.blk gs 3 [.int .i64 s] :: Kk gs w)) Tryz.func145 rfl rfl rfl ?_ (Pm.atBlk hs);refine zSG (TL.rn 2 rfl (zET (zS (zS ?_))));rcases Classical.em (dx xs b < dx xs a) with p1 | p1
 ·refine TC.quiet_ (E' := ?_) (by kernel_rfl) (by kernel_rfl) (fun w hw => hw.drawn _) ?_ ?_
  rotate_left
  ·refine TQ.rn 2 rfl ?_;refine TQ.w rfl (Ke (v := .pointer (some ⟨g, b, none⟩)) rfl rfl rfl (fun w => Kf Tryz.underlying61 Kd9 g _ _ b (by omega) rfl w)) ?_;refine TQ.w rfl (KI (v := .int .u32 (dx xs b)) rfl rfl Kd4 (fun w1 hw => (hw.bel.cell hg).trans (hd b (by omega)))) ?_;refine TQ.rn 2 rfl ?_;refine TQ.w rfl (Ke (v := .pointer (some ⟨g, a, none⟩)) rfl rfl rfl (fun w => Kf Tryz.underlying61 Kd9 g _ _ a (by omega) rfl w)) ?_;refine TQ.w rfl (KI (v := .int .u32 (dx xs a)) rfl rfl Kd4 (fun w1 hw => (hw.bel.cell hg).trans (hd a (by omega)))) ?_;refine TQ.p1 (v := .bool true) rfl KM (fun w1 hw => (Kaz _ _ p1 w1).mono fun en w2 ⟨h1, h2⟩ => ⟨h1, hw.below h2⟩) ?_;exact TQ.end_
  refine zT (zc (zSG (TL.mv ?_)));refine TL.w rfl (Ka8 rfl rfl) ?_;refine TL.v (gL 0 Kei) ?_;refine TL.w rfl (Kd rfl rfl rfl (fun w => Kd8 (r := IntKind.i64.wrap (s + 1)) (rfl) w)) ?_;refine TL.w rfl (Ka8 rfl rfl) ?_;refine TL.ps 0 KlE ?_;refine zET (zSG (TL.rn 4 rfl (zET (zr (zR ?_)))));exact Kad Tryz.results145 rfl rfl (fun w1 hw => ⟨⟨(b, a, IntKind.i64.wrap (s + 1)), by dsimp only; omega⟩, rfl, Pm.chg [] hw rfl⟩)
 refine TC.quiet_ (E' := ?_) (by kernel_rfl) (by kernel_rfl) (fun w hw => hw.drawn _) ?_ ?_
 rotate_left
 ·refine TQ.rn 2 rfl ?_;refine TQ.w rfl (Ke (v := .pointer (some ⟨g, b, none⟩)) rfl rfl rfl (fun w => Kf Tryz.underlying61 Kd9 g _ _ b (by omega) rfl w)) ?_;refine TQ.w rfl (KI (v := .int .u32 (dx xs b)) rfl rfl Kd4 (fun w1 hw => (hw.bel.cell hg).trans (hd b (by omega)))) ?_;refine TQ.rn 2 rfl ?_;refine TQ.w rfl (Ke (v := .pointer (some ⟨g, a, none⟩)) rfl rfl rfl (fun w => Kf Tryz.underlying61 Kd9 g _ _ a (by omega) rfl w)) ?_;refine TQ.w rfl (KI (v := .int .u32 (dx xs a)) rfl rfl Kd4 (fun w1 hw => (hw.bel.cell hg).trans (hd a (by omega)))) ?_;refine TQ.p1 (v := .bool false) rfl KM (fun w1 hw => (KaB _ _ p1 w1).mono fun en w2 ⟨h1, h2⟩ => ⟨h1, hw.below h2⟩) ?_;exact TQ.end_
 refine zT (zd (zk (zT (zSG (TL.rn 4 rfl (zET (zr ?_)))))));exact Kad Tryz.results145 rfl rfl (fun w1 hw => ⟨⟨(a, b, s), by dsimp only; omega⟩, rfl, Pm.chg [] hw rfl⟩)
theorem KeE (g n c : Nat) (xs : List Int) (w : World) (hd : ∀ i, i < n -> w.cell? ⟨g, i, none⟩ = some (.int .u32 (dx xs i))) (hn : n <= 1000000) (a b e lo hi : Nat) (ha : lo <= a /\ a < hi) (hb : lo <= b /\ b < hi) (he : lo <= e /\ e < hi) (hh : hi <= n) (gs : Nat) (s : Int) (hg : g < gs) (hs : Blk w gs 3 [.int .i64 s].toArray) :
  Calls Tryz.prog 140 #[.slice (some ⟨g, 0, none⟩) n c, .int .i64 ((a : Nat) : Int), .int .i64 ((b : Nat) : Int), .int .i64 ((e : Nat) : Int), .pointer (some ⟨gs, 0, none⟩)] w fun en w' => ∃ x : {y : Nat × Nat × Int // lo <= y.1 /\ y.1 < hi /\ lo <= y.2.1 /\ y.2.1 < hi}, en = .returned (.int .i64 ((x.1.1 : Nat) : Int)) /\ Chg gs 3 [.int .i64 x.1.2.2] w [] w' := by
 refine Kj (I := Pm ⟨w, gs⟩ (.blk gs 3 [.int .i64 s] :: Kk gs w)) Tryz.func140 rfl rfl rfl ?_ (Pm.atBlk hs);refine zSG (TL.as_ ?_);refine zET (zSG (TL.rn 4 rfl ?_));refine TL.pcallChg (k := 0) (α := {y : Nat × Nat × Int // lo <= y.1 /\ y.1 < hi /\ lo <= y.2.1 /\ y.2.1 < hi}) (fun y => .tuple #[.int .i64 ((y.1.1 : Nat) : Int), .int .i64 ((y.1.2.1 : Nat) : Int)]) (fun y => [.int .i64 y.1.2.2]) (fun y => []) rfl rfl rfl rfl rfl Tryz.func145 Kev Kek rfl (fun w1 hw => Kfg g n c xs w1 (fun i hi => (hw.bel.cell hg).trans (hd i hi)) hn a b lo hi (by omega) (by omega) hh gs _ hg (hw.at_ (k := 0) rfl).1) ?_;rintro ⟨⟨a1, b1, s1⟩, hx1⟩;dsimp only [List.cons_append, List.nil_append, List.set];dsimp only at hx1;refine TL.rn 5 rfl (zET (zSG (TL.rn 4 rfl ?_)));refine TL.pcallChg (k := 0) (α := {y : Nat × Nat × Int // lo <= y.1 /\ y.1 < hi /\ lo <= y.2.1 /\ y.2.1 < hi}) (fun y => .tuple #[.int .i64 ((y.1.1 : Nat) : Int), .int .i64 ((y.1.2.1 : Nat) : Int)]) (fun y => [.int .i64 y.1.2.2]) (fun y => []) rfl rfl rfl rfl rfl Tryz.func145 Kev Kek rfl (fun w1 hw => Kfg g n c xs w1 (fun i hi => (hw.bel.cell hg).trans (hd i hi)) hn b1 e lo hi (by omega) (by omega) hh gs _ hg (hw.at_ (k := 0) rfl).1) ?_;rintro ⟨⟨b2, c2, s2⟩, hx2⟩;dsimp only [List.cons_append, List.nil_append, List.set];dsimp only at hx2;refine TL.rn 5 rfl (zET (zSG (TL.rn 4 rfl ?_)));refine TL.pcallChg (k := 0) (α := {y : Nat × Nat × Int // lo <= y.1 /\ y.1 < hi /\ lo <= y.2.1 /\ y.2.1 < hi}) (fun y => .tuple #[.int .i64 ((y.1.1 : Nat) : Int), .int .i64 ((y.1.2.1 : Nat) : Int)]) (fun y => [.int .i64 y.1.2.2]) (fun y => []) rfl rfl rfl rfl rfl Tryz.func145 Kev Kek rfl (fun w1 hw => Kfg g n c xs w1 (fun i hi => (hw.bel.cell hg).trans (hd i hi)) hn a1 b2 lo hi (by omega) (by omega) hh gs _ hg (hw.at_ (k := 0) rfl).1) ?_;rintro ⟨⟨a3, b3, s3⟩, hx3⟩;dsimp only [List.cons_append, List.nil_append, List.set];dsimp only at hx3;refine TL.rn 5 rfl (zET (zSG (TL.rn 2 rfl (zET (zr ?_)))));exact Kg Tryz.results140 rfl (fun w1 hw => ⟨⟨(b3, b3, s3), by dsimp only; omega⟩, rfl, Pm.chg [] hw rfl⟩)
theorem Key (g n c : Nat) (xs : List Int) (w : World) (hd : ∀ i, i < n -> w.cell? ⟨g, i, none⟩ = some (.int .u32 (dx xs i))) (hn : n <= 1000000) (a lo hi : Nat) (ha : lo < a /\ a + 1 < hi) (hh : hi <= n) (gs : Nat) (s : Int) (hg : g < gs) (hs : Blk w gs 3 [.int .i64 s].toArray) :
  Calls Tryz.prog 139 #[.slice (some ⟨g, 0, none⟩) n c, .int .i64 ((a : Nat) : Int), .pointer (some ⟨gs, 0, none⟩)] w fun en w' => ∃ x : {y : Nat × Nat × Int // lo <= y.1 /\ y.1 < hi /\ lo <= y.2.1 /\ y.2.1 < hi}, en = .returned (.int .i64 ((x.1.1 : Nat) : Int)) /\ Chg gs 3 [.int .i64 x.1.2.2] w [] w' := by
 refine Kj (I := Pm ⟨w, gs⟩ (.blk gs 3 [.int .i64 s] :: Kk gs w)) Tryz.func139 rfl rfl rfl ?_ (Pm.atBlk hs);refine zSG (TL.as_ ?_);refine zET (zSG (TL.rn 2 rfl ?_));refine TL.w rfl (Kd rfl rfl rfl (fun w => Ko (r := ((a - 1 : Nat) : Int)) (by simp only [IntKind.wrap_i64]; omega) w)) ?_;refine TL.rn 2 rfl (TL.v (gD ((a + 1 : Nat) : Int)) ?_);refine TL.mv ?_;refine TL.pcallChg (k := 0) (α := {y : Nat × Nat × Int // lo <= y.1 /\ y.1 < hi /\ lo <= y.2.1 /\ y.2.1 < hi}) (fun y => .int .i64 ((y.1.1 : Nat) : Int)) (fun y => [.int .i64 y.1.2.2]) (fun y => []) rfl rfl rfl rfl rfl Tryz.func140 Kfa Ken rfl (fun w1 hw => KeE g n c xs w1 (fun i hi => (hw.bel.cell hg).trans (hd i hi)) hn (a - 1) a (a + 1) lo hi (by omega) (by omega) (by omega) (by omega) gs _ hg (hw.at_ (k := 0) rfl).1) ?_;rintro ⟨⟨m, zm, sm⟩, hxm⟩;dsimp only [List.cons_append, List.nil_append, List.set];dsimp only at hxm;refine TL.as_ ?_;refine zET (zr ?_);exact Kg Tryz.results139 rfl (fun w1 hw => ⟨⟨(m, m, sm), by dsimp only; omega⟩, rfl, Pm.chg [] hw rfl⟩)
theorem KkR (g n c : Nat) (xs : List Int) (w : World) (h : Rw 30 w g n c xs) (hn : n <= 1000000) (a b : Nat) (hab : a + 12 < b) (hb : b <= n) :
  Calls Tryz.prog 118 #[.slice (some ⟨g, 0, none⟩) n c, .int .i64 ((a : Nat) : Int), .int .i64 ((b : Nat) : Int)] w fun en w' => ∃ x : {y : Nat × Int // a <= y.1 /\ y.1 < b}, en = .returned (.tuple #[.int .i64 ((x.1.1 : Nat) : Int), .int .i64 x.1.2]) /\ Below w.heap.size w w' := by
 have hg0 := h.lt;have hd : ∀ i, i < n -> w.cell? ⟨g, i, none⟩ = some (.int .u32 (dx xs i)) := fun i hi => h.cell hi;refine Kj Tryz.func118 rfl rfl rfl ?_ (Pm.start w);refine zSG (TL.rn 2 rfl (zET (zSG (TL.rn 2 rfl ?_))));refine TL.w rfl (Kd rfl rfl rfl (fun w => Ko (r := ((b - a : Nat) : Int)) (by simp only [IntKind.wrap_i64]; omega) w)) ?_;refine TL.as_ ?_;refine zET (zSG ?_);refine TL.al Kji fun g9 => ?_;refine zET (zSG (TL.rn 2 rfl ?_));refine TL.w rfl (Kd rfl rfl rfl (fun w => Kcb (r := (((b - a) / 4 : Nat) : Int)) (by omega) (by omega) (by omega) (by omega) w)) ?_;refine TL.w rfl (Kd rfl rfl rfl (fun w => KcO (r := (((b - a) / 4 : Nat) : Int)) (by simp only [IntKind.wrap_i64]; omega) w)) ?_;refine TL.v (gD ((a + ((b - a) / 4) : Nat) : Int)) ?_;refine TL.as_ ?_;refine zET (zSG (TL.rn 2 rfl ?_));refine TL.w rfl (Kd rfl rfl rfl (fun w => Kcb (r := (((b - a) / 4 : Nat) : Int)) (by omega) (by omega) (by omega) (by omega) w)) ?_;refine TL.w rfl (Kd rfl rfl rfl (fun w => KcO (r := ((((b - a) / 4) * 2 : Nat) : Int)) (by simp only [IntKind.wrap_i64]; omega) w)) ?_;refine TL.v (gD ((a + (((b - a) / 4) * 2) : Nat) : Int)) ?_;refine TL.as_ ?_;refine zET (zSG (TL.rn 2 rfl ?_));refine TL.w rfl (Kd rfl rfl rfl (fun w => Kcb (r := (((b - a) / 4 : Nat) : Int)) (by omega) (by omega) (by omega) (by omega) w)) ?_;refine TL.w rfl (Kd rfl rfl rfl (fun w => KcO (r := ((((b - a) / 4) * 3 : Nat) : Int)) (by simp only [IntKind.wrap_i64]; omega) w)) ?_;refine TL.v (gD ((a + (((b - a) / 4) * 3) : Nat) : Int)) ?_;refine TL.as_ ?_;refine zET (zS (zSG (TL.mv ?_)));refine TL.w rfl (Kd rfl rfl rfl (fun w => Kdm (by omega) w)) ?_;refine zET (zc (zS (zSG (TL.mv ?_))));refine TL.sp K3 (fun q34 => ?_) (fun q34 => ?_)
 ·refine zET (zc (zSG (TL.rn 2 rfl ?_)));refine TL.pcallChg (k := 0) (α := {y : Nat × Nat × Int // a <= y.1 /\ y.1 < b /\ a <= y.2.1 /\ y.2.1 < b}) (fun y => .int .i64 ((y.1.1 : Nat) : Int)) (fun y => [.int .i64 y.1.2.2]) (fun y => []) rfl rfl rfl rfl rfl Tryz.func139 KeO Kfd rfl (fun w1 hw => Key g n c xs w1 (fun i hi => (hw.bel.cell hg0).trans (hd i hi)) hn (a + ((b - a) / 4)) a b (by omega) hb g9 _ (Nat.lt_of_lt_of_le hg0 (hw.at_ (k := 0) rfl).2) (hw.at_ (k := 0) rfl).1) ?_;rintro ⟨⟨i2, zi2, si2⟩, hxi2⟩;dsimp only [List.cons_append, List.nil_append, List.set];dsimp only at hxi2;refine TL.as_ ?_;refine zET (zSG (TL.rn 2 rfl ?_));refine TL.pcallChg (k := 0) (α := {y : Nat × Nat × Int // a <= y.1 /\ y.1 < b /\ a <= y.2.1 /\ y.2.1 < b}) (fun y => .int .i64 ((y.1.1 : Nat) : Int)) (fun y => [.int .i64 y.1.2.2]) (fun y => []) rfl rfl rfl rfl rfl Tryz.func139 KeO Kfd rfl (fun w1 hw => Key g n c xs w1 (fun i hi => (hw.bel.cell hg0).trans (hd i hi)) hn (a + (((b - a) / 4) * 2)) a b (by omega) hb g9 _ (Nat.lt_of_lt_of_le hg0 (hw.at_ (k := 0) rfl).2) (hw.at_ (k := 0) rfl).1) ?_;rintro ⟨⟨j2, zj2, sj2⟩, hxj2⟩;dsimp only [List.cons_append, List.nil_append, List.set];dsimp only at hxj2;refine TL.as_ ?_;refine zET (zG (TL.rn 2 rfl ?_));refine TL.pcallChg (k := 0) (α := {y : Nat × Nat × Int // a <= y.1 /\ y.1 < b /\ a <= y.2.1 /\ y.2.1 < b}) (fun y => .int .i64 ((y.1.1 : Nat) : Int)) (fun y => [.int .i64 y.1.2.2]) (fun y => []) rfl rfl rfl rfl rfl Tryz.func139 KeO Kfd rfl (fun w1 hw => Key g n c xs w1 (fun i hi => (hw.bel.cell hg0).trans (hd i hi)) hn (a + (((b - a) / 4) * 3)) a b (by omega) hb g9 _ (Nat.lt_of_lt_of_le hg0 (hw.at_ (k := 0) rfl).2) (hw.at_ (k := 0) rfl).1) ?_;rintro ⟨⟨k2, zk2, sk2⟩, hxk2⟩;dsimp only [List.cons_append, List.nil_append, List.set];dsimp only at hxk2;refine TL.as_ ?_;refine zET (zG (TL.rn 4 rfl ?_));refine TL.pcallChg (k := 0) (α := {y : Nat × Nat × Int // a <= y.1 /\ y.1 < b /\ a <= y.2.1 /\ y.2.1 < b}) (fun y => .int .i64 ((y.1.1 : Nat) : Int)) (fun y => [.int .i64 y.1.2.2]) (fun y => []) rfl rfl rfl rfl rfl Tryz.func140 Kfa Ken rfl (fun w1 hw => KeE g n c xs w1 (fun i hi => (hw.bel.cell hg0).trans (hd i hi)) hn i2 j2 k2 a b (by omega) (by omega) (by omega) (by omega) g9 _ (Nat.lt_of_lt_of_le hg0 (hw.at_ (k := 0) rfl).2) (hw.at_ (k := 0) rfl).1) ?_;rintro ⟨⟨pv, zpv, spv⟩, hxpv⟩;dsimp only [List.cons_append, List.nil_append, List.set];dsimp only at hxpv;refine TL.as_ ?_;refine zET (zSG (TL.v (gL 0 Kei) ?_));refine zET (zB (zSG ?_));refine TL.sp Kab (fun q52 => ?_) (fun q52 => ?_)
  ·refine TL.as_ ?_;refine zET (zc (zSG (TL.rn 3 rfl (zET (zr (TX.in_ret ?_))))));exact Kad Tryz.results118 rfl rfl (fun w1 hw => ⟨⟨(pv, 1), by dsimp only; omega⟩, rfl, hw.bel⟩)
  refine TL.as_ ?_;refine zET (zd (zSG ?_));refine TL.sp Kab (fun q55 => ?_) (fun q55 => ?_)
  ·refine TL.as_ ?_;refine zET (zc (zSG (TL.rn 3 rfl (zET (zr (TX.in_ret ?_))))));exact Kad Tryz.results118 rfl rfl (fun w1 hw => ⟨⟨(pv, 2), by dsimp only; omega⟩, rfl, hw.bel⟩)
  refine TL.as_ ?_;refine zET (zd (zSG (TL.rn 3 rfl (zET (zr (TX.in_ret ?_))))));exact Kad Tryz.results118 rfl rfl (fun w1 hw => ⟨⟨(pv, 0), by dsimp only; omega⟩, rfl, hw.bel⟩)
 refine zET (zd (zk (zT (zG (TL.rn 4 rfl ?_)))));refine TL.pcallChg (k := 0) (α := {y : Nat × Nat × Int // a <= y.1 /\ y.1 < b /\ a <= y.2.1 /\ y.2.1 < b}) (fun y => .int .i64 ((y.1.1 : Nat) : Int)) (fun y => [.int .i64 y.1.2.2]) (fun y => []) rfl rfl rfl rfl rfl Tryz.func140 Kfa Ken rfl (fun w1 hw => KeE g n c xs w1 (fun i hi => (hw.bel.cell hg0).trans (hd i hi)) hn (a + ((b - a) / 4)) (a + (((b - a) / 4) * 2)) (a + (((b - a) / 4) * 3)) a b (by omega) (by omega) (by omega) (by omega) g9 _ (Nat.lt_of_lt_of_le hg0 (hw.at_ (k := 0) rfl).2) (hw.at_ (k := 0) rfl).1) ?_;rintro ⟨⟨pv, zpv, spv⟩, hxpv⟩;dsimp only [List.cons_append, List.nil_append, List.set];dsimp only at hxpv;refine TL.as_ ?_;refine zET (zSG (TL.v (gL 0 Kei) ?_));refine zET (zB (zSG ?_));refine TL.sp Kab (fun q52 => ?_) (fun q52 => ?_)
 ·refine TL.as_ ?_;refine zET (zc (zSG (TL.rn 3 rfl (zET (zr (TX.in_ret ?_))))));exact Kad Tryz.results118 rfl rfl (fun w1 hw => ⟨⟨(pv, 1), by dsimp only; omega⟩, rfl, hw.bel⟩)
 refine TL.as_ ?_;refine zET (zd (zSG ?_));refine TL.sp Kab (fun q55 => ?_) (fun q55 => ?_)
 ·refine TL.as_ ?_;refine zET (zc (zSG (TL.rn 3 rfl (zET (zr (TX.in_ret ?_))))));exact Kad Tryz.results118 rfl rfl (fun w1 hw => ⟨⟨(pv, 2), by dsimp only; omega⟩, rfl, hw.bel⟩)
 refine TL.as_ ?_;refine zET (zd (zSG (TL.rn 3 rfl (zET (zr (TX.in_ret ?_))))));exact Kad Tryz.results118 rfl rfl (fun w1 hw => ⟨⟨(pv, 0), by dsimp only; omega⟩, rfl, hw.bel⟩)
set_option maxRecDepth 20000
structure Inv (a b : Nat) (xs : List Int) (a1 b1 : Nat) (ys : List Int) : Prop where
 ha : a <= a1
 hb : b1 <= b
 ab : a1 <= b1
 bl : b <= ys.length
 per : Pin a b xs ys
 out : Out a b a1 b1 ys
 low : Low a1 b1 ys
theorem Inv.len {a b a1 b1 : Nat} {xs ys : List Int} (h : Inv a b xs a1 b1 ys) : ys.length = xs.length := h.per.len
theorem Inv.start {a b : Nat} {xs : List Int} (hab : a <= b) (hb : b <= xs.length) (hL : Low a b xs) : Inv a b xs a b xs := ⟨Nat.le_refl _, Nat.le_refl _, hab, hb, Pin.refl _ _ _, Out.start _ _ _, hL⟩
theorem Inv.pin {a b a1 b1 : Nat} {xs ys zs : List Int} (h : Inv a b xs a1 b1 ys) (hp : Pin a1 b1 ys zs) : Inv a b xs a1 b1 zs := ⟨h.ha, h.hb, h.ab, by rw [hp.len]; exact h.bl, h.per.trans (hp.mono h.ha h.hb), h.out.pin h.ha h.hb hp, h.low.pin hp⟩
theorem Inv.eqs {a b a1 b1 m : Nat} {xs ys : List Int} (h : Inv a b xs a1 b1 ys) (he : Eqs a1 b1 m ys) (hm : Mn a1 b1 ys) : Inv a b xs m b1 ys := ⟨Nat.le_trans h.ha (Nat.le_of_lt he.hm.1), h.hb, he.hm.2, h.bl, h.per, h.out.eqs he hm, he.low⟩
theorem Inv.left {a b a1 b1 m : Nat} {xs ys zs : List Int} (h : Inv a b xs a1 b1 ys) (hm : Mid a1 b1 m ys) (hp : Pin a1 m ys zs) (hs : Srt a1 m zs) : Inv a b xs (m + 1) b1 zs :=
 have h1 := hm.hm; have h2 := h.ha; have h3 := h.hb
 ⟨by omega, h.hb, by omega, by rw [hp.len]; exact h.bl, h.per.trans (hp.mono h.ha (by omega)), h.out.left h.ha h.hb hm hp hs, Low.right hm hp⟩
theorem Inv.right {a b a1 b1 m : Nat} {xs ys zs : List Int} (h : Inv a b xs a1 b1 ys) (hm : Mid a1 b1 m ys) (hp : Pin (m + 1) b1 ys zs) (hs : Srt (m + 1) b1 zs) : Inv a b xs a1 m zs :=
 have h1 := hm.hm; have h2 := h.ha; have h3 := h.hb
 ⟨h.ha, by omega, h1.1, by rw [hp.len]; exact h.bl, h.per.trans (hp.mono (by omega) h.hb), h.out.right h.ha h.hb hm hp hs, h.low.left (by omega) hp h1.1⟩
theorem Inv.done {a b a1 b1 : Nat} {xs ys : List Int} (h : Inv a b xs a1 b1 ys) (hs : Srt a1 b1 ys) : Srt a b ys := h.out.done hs
theorem Kje : (Tryz.f115.name == "runtime.NumGoroutine") = false := by decide
theorem KkZ : Tryz.f115.body.isNone = false := rfl
theorem Ki8 : (Tryz.f116.name == "runtime.NumGoroutine") = false := by decide
theorem Kja : Tryz.f116.body.isNone = false := rfl
theorem Kk0 : (Tryz.f117.name == "runtime.NumGoroutine") = false := by decide
theorem Kmg : Tryz.f117.body.isNone = false := rfl
theorem Klx : (Tryz.f119.name == "runtime.NumGoroutine") = false := by decide
theorem Kka : Tryz.f119.body.isNone = false := rfl
theorem KiF : (Tryz.f120.name == "runtime.NumGoroutine") = false := by decide
theorem Kk3 : Tryz.f120.body.isNone = false := rfl
theorem Kg6 : (Tryz.f123.name == "runtime.NumGoroutine") = false := by decide
theorem Kho : Tryz.f123.body.isNone = false := rfl
theorem KdZ : (Tryz.f85.name == "runtime.NumGoroutine") = false := by decide
theorem Kd1 : Tryz.f85.body.isNone = false := rfl
theorem Kdr (w : World) : (sizeOf 30).run Tryz.prog w = .ok 1 w := rfl
theorem Kdw (w : World) : (isAgg 30).run Tryz.prog w = .ok false w := rfl
theorem KlZ : (Tryz.f122.name == "runtime.NumGoroutine") = false := by decide
theorem KiA : Tryz.f122.body.isNone = false := rfl
theorem Kfw (g n c : Nat) (hn : n <= 1000000) : ∀ (M a b lim : Nat) (xs : List Int) (w : World), Rw 30 w g n c xs -> a <= b -> b <= n -> Low a b xs -> lim <= 1000 -> b - a < M ->
  Calls Tryz.prog 85 #[.slice (some ⟨g, 0, none⟩) n c, .int .i64 ((a : Nat) : Int), .int .i64 ((b : Nat) : Int), .int .i64 ((lim : Nat) : Int)] w (RC (α := Unit) (fun _ => .tuple #[]) (fun _ ys => Pin a b xs ys /\ Srt a b ys) 30 g n c w)
 | 0, a, b, lim, xs, w, h, hab, hb, hL, hlim, hM => absurd hM (Nat.not_lt_zero _)
 | M + 1, a, b, lim, xs, w, h, hab, hb, hL, hlim, hM => by
  have ih := fun a b lim xs w h hab hb hL hlim hM => Kfw g n c hn M a b lim xs w h hab hb hL hlim hM;have hl := h.len;refine Kj (I := Pm ⟨Kw w g, g⟩ (.row (.slice (some ⟨g, 0, none⟩) n c) 30 1 n (uv xs) :: Kk g w)) Tryz.func85 rfl rfl rfl ?_ (Pm.rowStart h);refine zSG (TL.as_ ?_);refine zET (zSG (TL.as_ ?_));refine zET (zB (TC.lp (α := {y : Nat × Nat × Nat × Bool × Bool × List Int // y.2.2.1 <= 1000 /\ Inv a b xs y.1 y.2.1 y.2.2.2.2.2}) [0] rfl (fun y => [(1, .int .i64 ((y.1.1 : Nat) : Int)), (2, .int .i64 ((y.1.2.1 : Nat) : Int)), (3, .int .i64 ((y.1.2.2.1 : Nat) : Int)), (8, .bool y.1.2.2.2.1), (9, .bool y.1.2.2.2.2.1)]) (fun y => Pm ⟨Kw w g, g⟩ ([.row (.slice (some ⟨g, 0, none⟩) n c) 30 1 n (uv y.1.2.2.2.2.2)] ++ Kk g w)) (fun y => y.1.2.1 - y.1.1) (⟨(a, b, lim, true, true, xs), hlim, Inv.start hab (by omega) hL⟩) (fun w1 hw => hw) ?_));rintro ⟨⟨a1, b1, lim1, wb, wp, ys⟩, hlm, hi⟩;dsimp only at hlm hi ⊢;have hly := hi.len;have hia := hi.ha;have hib := hi.hb;have hiab := hi.ab;refine zB (zSG (TL.rn 2 rfl ?_));refine TL.w rfl (Kd rfl rfl rfl (fun w => Ko (r := ((b1 - a1 : Nat) : Int)) (by simp only [IntKind.wrap_i64]; omega) w)) ?_;refine TL.as_ ?_;refine zET (zS (zSG (TL.mv ?_)));refine TL.sp KcT (fun q23 => ?_) (fun q23 => ?_)
  ·refine zET (zc (zSG (TL.rn 3 rfl ?_)));refine TL.pcallRw (k := 0) (α := Unit) (fun _ => .tuple #[]) (fun _ zs => Pin a1 b1 ys zs /\ Srt a1 b1 zs) rfl rfl rfl rfl rfl Tryz.func115 Kje KkZ rfl (fun w1 hw hr1 => Kh2 g n c ys w1 hr1 hn a1 b1 hi.ab (by have := hi.hb; omega)) ?_;rintro ⟨⟩ zs ⟨hQ, hS⟩
   try dsimp only [List.set_cons_zero, List.set_cons_succ]
   refine zET (zr (zR (zRR (TX.in_ret ?_))));exact KcF Tryz.results85 (fun w1 hw => ⟨(), zs, rfl, ⟨(hi.pin hQ).per, (hi.pin hQ).done hS⟩, K9 hw (k := 0) rfl, hw.mapEnd (fun q hq => by simp [hq])⟩)
  refine zET (zd (zk (zT (zS (zSG (TL.mv ?_))))));refine TL.sp Kab (fun q29 => ?_) (fun q29 => ?_)
  ·refine zET (zc (zSG (TL.rn 3 rfl ?_)));refine TL.pcallRw (k := 0) (α := Unit) (fun _ => .tuple #[]) (fun _ zs => Pin a1 b1 ys zs /\ Srt a1 b1 zs) rfl rfl rfl rfl rfl Tryz.func116 Ki8 Kja rfl (fun w1 hw hr1 => Kl2 g n c ys w1 hr1 hn a1 b1 (by omega) (by have := hi.hb; omega)) ?_;rintro ⟨⟩ zs ⟨hQ, hS⟩
   try dsimp only [List.set_cons_zero, List.set_cons_succ]
   refine zET (zr (zR (zRR (TX.in_ret ?_))));exact KcF Tryz.results85 (fun w1 hw => ⟨(), zs, rfl, ⟨(hi.pin hQ).per, (hi.pin hQ).done hS⟩, K9 hw (k := 0) rfl, hw.mapEnd (fun q hq => by simp [hq])⟩)
  refine zET (zd (zk (zT ?_)));refine TC.join (α := {y : Nat × List Int // y.1 <= 1000 /\ Inv a b xs a1 b1 y.2}) (fun y => [(0, .slice (some ⟨g, 0, none⟩) n c), (1, .int .i64 ((a1 : Nat) : Int)), (2, .int .i64 ((b1 : Nat) : Int)), (8, .bool wb), (9, .bool wp), (10, .int .i64 ((b1 - a1 : Nat) : Int)), (3, .int .i64 ((y.1.1 : Nat) : Int))]) (fun y => Pm ⟨Kw w g, g⟩ ([.row (.slice (some ⟨g, 0, none⟩) n c) 30 1 n (uv y.1.2)] ++ Kk g w)) ?_ ?_
  ·refine zSG ?_;refine TL.vw rfl (Kc rfl rfl) (fun h34 => ?_) (fun h34 => ?_)
   ·refine TL.w rfl (K0 rfl rfl) ?_;refine zET (zd (zk ?_));exact TX.jd (⟨(lim1, ys), by dsimp only; omega, hi⟩) (fun w1 hw => hw)
   refine TL.w rfl (K0 rfl rfl) ?_;refine zET (zc (zSG (TL.rn 3 rfl ?_)));refine TL.pcallRw (k := 0) (α := Unit) (fun _ => .tuple #[]) (fun _ zs => Pin a1 b1 ys zs) rfl rfl rfl rfl rfl Tryz.func117 Kk0 Kmg rfl (fun w1 hw hr1 => Kjl g n c ys w1 hr1 hn a1 b1 hi.ab (by have := hi.hb; omega)) ?_;rintro ⟨⟩ zs hQ
   try dsimp only [List.set_cons_zero, List.set_cons_succ]
   have hiz := hi.pin hQ;refine zET (zG (TL.mv ?_));refine TL.w rfl (Kd rfl rfl rfl (fun w => Ko (r := ((lim1 - 1 : Nat) : Int)) (by simp only [IntKind.wrap_i64]; omega) w)) ?_;refine TL.as_ ?_;refine zE ?_;exact TX.jd (⟨(lim1 - 1, zs), by dsimp only; omega, hiz⟩) (fun w1 hw => hw)
  rintro ⟨⟨lim1, us⟩, hlm, hu⟩;dsimp only at hlm hu ⊢;have hlu := hu.len;refine zSG (TL.rn 3 rfl ?_);refine TL.pM (α := {y : Nat × Int // a1 <= y.1 /\ y.1 < b1}) (fun y => .tuple #[.int .i64 ((y.1.1 : Nat) : Int), .int .i64 y.1.2]) (fun y => []) rfl KjM (fun w1 hw => (KkR g n c us w1 (K9 hw (k := 0) rfl) hn a1 b1 (by omega) (by have := hu.hb; omega)).mono fun e w2 ⟨x, h1, h2⟩ => ⟨x, h1, (Pm.start w1).below h2⟩) ?_;rintro ⟨⟨pv, h⟩, hp1, hp2⟩;dsimp only [lC, lN];dsimp only at hp1 hp2;refine TL.rn 5 rfl (zET ?_);refine TC.join (α := {y : Nat × Int × List Int // (a1 <= y.1 /\ y.1 < b1) /\ Inv a b xs a1 b1 y.2.2}) (fun y => [(0, .slice (some ⟨g, 0, none⟩) n c), (1, .int .i64 ((a1 : Nat) : Int)), (2, .int .i64 ((b1 : Nat) : Int)), (8, .bool wb), (9, .bool wp), (10, .int .i64 ((b1 - a1 : Nat) : Int)), (3, .int .i64 ((lim1 : Nat) : Int)), (11, .int .i64 ((y.1.1 : Nat) : Int)), (12, .int .i64 y.1.2.1)]) (fun y => Pm ⟨Kw w g, g⟩ ([.row (.slice (some ⟨g, 0, none⟩) n c) 30 1 n (uv y.1.2.2)] ++ Kk g w)) ?_ ?_
  ·refine zSG (TL.mv ?_);refine TL.sp Kab (fun q50 => ?_) (fun q50 => ?_)
   ·refine zET (zc (zSG (TL.rn 3 rfl ?_)));refine TL.pcallRw (k := 0) (α := Unit) (fun _ => .tuple #[]) (fun _ zs => Pin a1 b1 us zs) rfl rfl rfl rfl rfl Tryz.func119 Klx Kka rfl (fun w1 hw hr1 => KmA g n c us w1 hr1 hn a1 b1 (by omega) (by have := hu.hb; omega)) ?_;rintro ⟨⟩ zs hQ
    try dsimp only [List.set_cons_zero, List.set_cons_succ]
    have hiz := hu.pin hQ;refine zET (zSG (TL.mv ?_));refine TL.w rfl (Kd rfl rfl rfl (fun w => Ko (r := ((b1 - 1 : Nat) : Int)) (by simp only [IntKind.wrap_i64]; omega) w)) ?_;refine TL.rn 2 rfl ?_;refine TL.w rfl (Kd rfl rfl rfl (fun w => Ko (r := ((pv - a1 : Nat) : Int)) (by simp only [IntKind.wrap_i64]; omega) w)) ?_;refine TL.w rfl (Kd rfl rfl rfl (fun w => Ko (r := (((b1 - 1) - (pv - a1) : Nat) : Int)) (by simp only [IntKind.wrap_i64]; omega) w)) ?_;refine TL.as_ ?_;refine zET (zG (TL.as_ ?_));refine zE ?_;exact TX.jd (⟨((b1 - 1) - (pv - a1), 1, zs), by dsimp only; omega, hiz⟩) (fun w1 hw => hw)
   refine zET (zd (zk ?_));exact TX.jd (⟨(pv, h, us), by dsimp only; omega, hu⟩) (fun w1 hw => hw)
  rintro ⟨⟨pw, h2, vs⟩, ⟨hp1, hp2⟩, hv⟩;dsimp only at hp1 hp2 hv ⊢;have hlv := hv.len;refine TC.join (α := {y : List Int // Inv a b xs a1 b1 y}) (fun y => [(0, .slice (some ⟨g, 0, none⟩) n c), (1, .int .i64 ((a1 : Nat) : Int)), (2, .int .i64 ((b1 : Nat) : Int)), (8, .bool wb), (9, .bool wp), (10, .int .i64 ((b1 - a1 : Nat) : Int)), (3, .int .i64 ((lim1 : Nat) : Int)), (11, .int .i64 ((pw : Nat) : Int))]) (fun y => Pm ⟨Kw w g, g⟩ ([.row (.slice (some ⟨g, 0, none⟩) n c) 30 1 n (uv y.1)] ++ Kk g w)) ?_ ?_
  ·refine zSG ?_;refine TL.vw rfl (Kc rfl rfl) (fun h61 => ?_) (fun h61 => ?_)
   ·refine TL.mv ?_;refine TL.gu ?_;refine TL.vw rfl (Kc rfl rfl) (fun h63 => ?_) (fun h63 => ?_)
    ·refine TL.rn 3 rfl (TL.gu ?_);refine TL.sp Kab (fun q67 => ?_) (fun q67 => ?_)
     ·refine TL.pk ?_;refine zET (zc (zSG (TL.rn 3 rfl ?_)));refine TL.pcallRw (k := 0) (α := Bool) (fun x => .bool x) (fun x zs => Pin a1 b1 vs zs /\ (x = true -> Srt a1 b1 zs)) rfl rfl rfl rfl rfl Tryz.func120 KiF Kk3 rfl (fun w1 hw hr1 => Kjn g n c vs w1 hr1 hn a1 b1 (by omega) (by have := hv.hb; omega) hv.low) ?_;rintro r zs ⟨hQ, hS⟩
      try dsimp only [List.set_cons_zero, List.set_cons_succ]
      have hiz := hv.pin hQ;refine zET ?_;refine TC.split (t := r) rfl (fun c72 => ?_) (fun c72 => ?_)
      ·refine zr (zR (zRR (TX.in_ret ?_)));exact KcF Tryz.results85 (fun w1 hw => ⟨(), zs, rfl, ⟨(hv.pin hQ).per, (hv.pin hQ).done (hS c72)⟩, K9 hw (k := 0) rfl, hw.mapEnd (fun q hq => by simp [hq])⟩)
      refine zk ?_;exact TX.jd (⟨zs, hiz⟩) (fun w1 hw => hw)
     refine TL.pk ?_;refine zET (zd (zk ?_));exact TX.jd (⟨vs, hv⟩) (fun w1 hw => hw)
    refine TL.rn 5 rfl (zET (zd (zk ?_)));exact TX.jd (⟨vs, hv⟩) (fun w1 hw => hw)
   refine TL.rn 7 rfl (zET (zd (zk ?_)));exact TX.jd (⟨vs, hv⟩) (fun w1 hw => hw)
  rintro ⟨ts, hT⟩
  try dsimp only
  have hlt := hT.len;refine zS (zS ?_);have hway : ¬ 0 < a1 \/ (0 < a1 /\ dx ts (a1 - 1) < dx ts pw) \/ (0 < a1 /\ ¬ dx ts (a1 - 1) < dx ts pw) := by omega
  rcases hway with p1 | ⟨p1, p2⟩ | ⟨p1, p2⟩
  ·have hTb := hT.hb;refine TC.quiet_ (E' := ?_) (by kernel_rfl) (by kernel_rfl) (fun w hw => hw.drawn _) ?_ ?_
   rotate_left
   ·refine TQ.w rfl (Kc rfl rfl) ?_;refine TQ.w rfl (Kd rfl rfl rfl (fun w => Ke5 (by omega) w)) ?_;refine TQ.rn 13 rfl ?_;exact TQ.end_
   refine zT (zd (zk (zT (zSG (TL.rn 4 rfl ?_)))));refine TL.pcallRw (k := 0) (α := Nat × Bool) (fun x => .tuple #[.int .i64 ((x.1 : Nat) : Int), .bool x.2]) (fun x zs => Pin a1 b1 ts zs /\ Mid a1 b1 x.1 zs) rfl rfl rfl rfl rfl Tryz.func123 Kg6 Kho rfl (fun w1 hw hr1 => Khi g n c ts w1 hr1 hn a1 b1 pw hp1 hp2 (by have := hT.hb; omega)) ?_;rintro ⟨m, al⟩ zs ⟨hQ, hM⟩
   try dsimp only [List.set_cons_zero, List.set_cons_succ]
   dsimp only at hM;have hiz := hT.pin hQ;have hmm := hM.hm;have hzl := hiz.len;refine TL.rn 5 rfl (zET (zSG (TL.rn 2 rfl (zET (zSG (TL.rn 2 rfl ?_))))));refine TL.w rfl (Kd rfl rfl rfl (fun w => Ko (r := ((m - a1 : Nat) : Int)) (by simp only [IntKind.wrap_i64]; omega) w)) ?_;refine TL.rn 2 rfl ?_;refine TL.w rfl (Kd rfl rfl rfl (fun w => Ko (r := ((b1 - m : Nat) : Int)) (by simp only [IntKind.wrap_i64]; omega) w)) ?_;refine TL.rn 2 rfl (zET (zSG (TL.mv ?_)));refine TL.w rfl (Kd rfl rfl rfl (fun w => Kcb (r := (((b1 - a1) / 8 : Nat) : Int)) (by omega) (by omega) (by omega) (by omega) w)) ?_;refine TL.as_ ?_;refine zET (zSG (TL.rn 2 rfl ?_));refine TL.sp Ky (fun q113 => ?_) (fun q113 => ?_)
   ·refine zET (zc (zSG (TL.rn 2 rfl ?_)));refine TL.w rfl (Kd rfl rfl rfl (fun w => K3 w)) ?_;refine TL.as_ ?_;refine zET (zSG (TL.rn 4 rfl ?_));refine TL.pcallRw (k := 0) (α := Unit) (fun _ => .tuple #[]) (fun _ us => Pin a1 m zs us /\ Srt a1 m us) rfl rfl rfl rfl rfl Tryz.func85 KdZ Kd1 rfl (fun w1 hw hr1 => ih a1 m lim1 zs w1 hr1 (by omega) (by omega) (fun p q h1 h2 h3 => hiz.low p q h1 h2 (by omega)) hlm (by omega)) ?_;rintro ⟨⟩ us ⟨hQ2, hS2⟩
    try dsimp only [List.set_cons_zero, List.set_cons_succ]
    have hix : Inv a b xs (m + 1) b1 us := hiz.left hM hQ2 hS2;refine zET (zG (TL.mv ?_));refine TL.v (gD ((m + 1 : Nat) : Int)) ?_;refine TL.as_ ?_;refine zE (zN ?_);exact TX.rd (⟨(m + 1, b1, lim1, decide (((m - a1 : Nat) : Int) >= (((b1 - a1) / 8 : Nat) : Int)), al, us), hlm, hix⟩) (by dsimp only; omega) (fun w1 hw => hw)
   refine zET (zd (zSG (TL.rn 2 rfl ?_)));refine TL.w rfl (Kd rfl rfl rfl (fun w => K3 w)) ?_;refine TL.as_ ?_;refine zET (zSG (TL.rn 2 rfl (TL.v (gD ((m + 1 : Nat) : Int)) ?_)));refine TL.rn 2 rfl ?_;refine TL.pcallRw (k := 0) (α := Unit) (fun _ => .tuple #[]) (fun _ us => Pin (m + 1) b1 zs us /\ Srt (m + 1) b1 us) rfl rfl rfl rfl rfl Tryz.func85 KdZ Kd1 rfl (fun w1 hw hr1 => ih (m + 1) b1 lim1 zs w1 hr1 (by omega) (by have := hiz.hb; omega) (Low.right0 hM) hlm (by omega)) ?_;rintro ⟨⟩ us ⟨hQ2, hS2⟩
   try dsimp only [List.set_cons_zero, List.set_cons_succ]
   have hix : Inv a b xs a1 m us := hiz.right hM hQ2 hS2;refine zET (zG (TL.rn 2 rfl (zE (zN ?_))));exact TX.rd (⟨(a1, m, lim1, decide (((b1 - m : Nat) : Int) >= (((b1 - a1) / 8 : Nat) : Int)), al, us), hlm, hix⟩) (by dsimp only; omega) (fun w1 hw => hw)
  ·have hTb := hT.hb;refine TC.quiet_ (E' := ?_) (by kernel_rfl) (by kernel_rfl) (fun w hw => hw.drawn _) ?_ ?_
   rotate_left
   ·refine TQ.w rfl (Kc rfl rfl) ?_;refine TQ.w rfl (Kd rfl rfl rfl (fun w => Kcu (by omega) w)) ?_;refine TQ.rn 3 rfl ?_;refine TQ.on rfl rfl rfl ?_;refine TQ.w rfl (Kd rfl rfl rfl (fun w => Ko (r := ((a1 - 1 : Nat) : Int)) (by simp only [IntKind.wrap_i64]; omega) w)) ?_;refine TQ.on rfl rfl rfl ?_;refine TQ.w rfl (Ke (v := .pointer (some ⟨g, a1 - 1, none⟩)) rfl rfl rfl (fun w => Kf Tryz.underlying61 Kdr g _ _ (a1 - 1) (by omega) rfl w)) ?_;refine TQ.on rfl rfl rfl ?_;refine TQ.w rfl (Kh (k := 0) (i := a1 - 1) rfl rfl Kdw rfl (by omega)) ?_;refine TQ.rn 2 rfl ?_;refine TQ.on rfl rfl rfl ?_;refine TQ.w rfl (Ke (v := .pointer (some ⟨g, pw, none⟩)) rfl rfl rfl (fun w => Kf Tryz.underlying61 Kdr g _ _ pw (by omega) rfl w)) ?_;refine TQ.on rfl rfl rfl ?_;refine TQ.w rfl (Kh (k := 0) (i := pw) rfl rfl Kdw rfl (by omega)) ?_;refine TQ.on rfl rfl rfl ?_;refine TQ.p1 (v := .bool true) rfl KM (fun w1 hw => (Kaz _ _ p2 w1).mono fun en w2 ⟨h1, h2⟩ => ⟨h1, hw.below h2⟩) ?_;refine TQ.rn 2 rfl ?_;exact TQ.end_
   refine zT (zd (zk (zT (zSG (TL.rn 4 rfl ?_)))));refine TL.pcallRw (k := 0) (α := Nat × Bool) (fun x => .tuple #[.int .i64 ((x.1 : Nat) : Int), .bool x.2]) (fun x zs => Pin a1 b1 ts zs /\ Mid a1 b1 x.1 zs) rfl rfl rfl rfl rfl Tryz.func123 Kg6 Kho rfl (fun w1 hw hr1 => Khi g n c ts w1 hr1 hn a1 b1 pw hp1 hp2 (by have := hT.hb; omega)) ?_;rintro ⟨m, al⟩ zs ⟨hQ, hM⟩
   try dsimp only [List.set_cons_zero, List.set_cons_succ]
   dsimp only at hM;have hiz := hT.pin hQ;have hmm := hM.hm;have hzl := hiz.len;refine TL.rn 5 rfl (zET (zSG (TL.rn 2 rfl (zET (zSG (TL.rn 2 rfl ?_))))));refine TL.w rfl (Kd rfl rfl rfl (fun w => Ko (r := ((m - a1 : Nat) : Int)) (by simp only [IntKind.wrap_i64]; omega) w)) ?_;refine TL.rn 2 rfl ?_;refine TL.w rfl (Kd rfl rfl rfl (fun w => Ko (r := ((b1 - m : Nat) : Int)) (by simp only [IntKind.wrap_i64]; omega) w)) ?_;refine TL.rn 2 rfl (zET (zSG (TL.mv ?_)));refine TL.w rfl (Kd rfl rfl rfl (fun w => Kcb (r := (((b1 - a1) / 8 : Nat) : Int)) (by omega) (by omega) (by omega) (by omega) w)) ?_;refine TL.as_ ?_;refine zET (zSG (TL.rn 2 rfl ?_));refine TL.sp Ky (fun q113 => ?_) (fun q113 => ?_)
   ·refine zET (zc (zSG (TL.rn 2 rfl ?_)));refine TL.w rfl (Kd rfl rfl rfl (fun w => K3 w)) ?_;refine TL.as_ ?_;refine zET (zSG (TL.rn 4 rfl ?_));refine TL.pcallRw (k := 0) (α := Unit) (fun _ => .tuple #[]) (fun _ us => Pin a1 m zs us /\ Srt a1 m us) rfl rfl rfl rfl rfl Tryz.func85 KdZ Kd1 rfl (fun w1 hw hr1 => ih a1 m lim1 zs w1 hr1 (by omega) (by omega) (fun p q h1 h2 h3 => hiz.low p q h1 h2 (by omega)) hlm (by omega)) ?_;rintro ⟨⟩ us ⟨hQ2, hS2⟩
    try dsimp only [List.set_cons_zero, List.set_cons_succ]
    have hix : Inv a b xs (m + 1) b1 us := hiz.left hM hQ2 hS2;refine zET (zG (TL.mv ?_));refine TL.v (gD ((m + 1 : Nat) : Int)) ?_;refine TL.as_ ?_;refine zE (zN ?_);exact TX.rd (⟨(m + 1, b1, lim1, decide (((m - a1 : Nat) : Int) >= (((b1 - a1) / 8 : Nat) : Int)), al, us), hlm, hix⟩) (by dsimp only; omega) (fun w1 hw => hw)
   refine zET (zd (zSG (TL.rn 2 rfl ?_)));refine TL.w rfl (Kd rfl rfl rfl (fun w => K3 w)) ?_;refine TL.as_ ?_;refine zET (zSG (TL.rn 2 rfl (TL.v (gD ((m + 1 : Nat) : Int)) ?_)));refine TL.rn 2 rfl ?_;refine TL.pcallRw (k := 0) (α := Unit) (fun _ => .tuple #[]) (fun _ us => Pin (m + 1) b1 zs us /\ Srt (m + 1) b1 us) rfl rfl rfl rfl rfl Tryz.func85 KdZ Kd1 rfl (fun w1 hw hr1 => ih (m + 1) b1 lim1 zs w1 hr1 (by omega) (by have := hiz.hb; omega) (Low.right0 hM) hlm (by omega)) ?_;rintro ⟨⟩ us ⟨hQ2, hS2⟩
   try dsimp only [List.set_cons_zero, List.set_cons_succ]
   have hix : Inv a b xs a1 m us := hiz.right hM hQ2 hS2;refine zET (zG (TL.rn 2 rfl (zE (zN ?_))));exact TX.rd (⟨(a1, m, lim1, decide (((b1 - m : Nat) : Int) >= (((b1 - a1) / 8 : Nat) : Int)), al, us), hlm, hix⟩) (by dsimp only; omega) (fun w1 hw => hw)
  have hTb := hT.hb;have hmin : ∀ k, a1 <= k -> k < b1 -> dx ts pw <= dx ts k := fun k k1 k2 => by have := hT.low (a1 - 1) k (by omega) k1 k2; omega
  refine TC.quiet_ (E' := ?_) (by kernel_rfl) (by kernel_rfl) (fun w hw => hw.drawn _) ?_ ?_
  rotate_left
  ·refine TQ.w rfl (Kc rfl rfl) ?_;refine TQ.w rfl (Kd rfl rfl rfl (fun w => Kcu (by omega) w)) ?_;refine TQ.rn 3 rfl ?_;refine TQ.on rfl rfl rfl ?_;refine TQ.w rfl (Kd rfl rfl rfl (fun w => Ko (r := ((a1 - 1 : Nat) : Int)) (by simp only [IntKind.wrap_i64]; omega) w)) ?_;refine TQ.on rfl rfl rfl ?_;refine TQ.w rfl (Ke (v := .pointer (some ⟨g, a1 - 1, none⟩)) rfl rfl rfl (fun w => Kf Tryz.underlying61 Kdr g _ _ (a1 - 1) (by omega) rfl w)) ?_;refine TQ.on rfl rfl rfl ?_;refine TQ.w rfl (Kh (k := 0) (i := a1 - 1) rfl rfl Kdw rfl (by omega)) ?_;refine TQ.rn 2 rfl ?_;refine TQ.on rfl rfl rfl ?_;refine TQ.w rfl (Ke (v := .pointer (some ⟨g, pw, none⟩)) rfl rfl rfl (fun w => Kf Tryz.underlying61 Kdr g _ _ pw (by omega) rfl w)) ?_;refine TQ.on rfl rfl rfl ?_;refine TQ.w rfl (Kh (k := 0) (i := pw) rfl rfl Kdw rfl (by omega)) ?_;refine TQ.on rfl rfl rfl ?_;refine TQ.p1 (v := .bool false) rfl KM (fun w1 hw => (KaB _ _ p2 w1).mono fun en w2 ⟨h1, h2⟩ => ⟨h1, hw.below h2⟩) ?_;refine TQ.rn 2 rfl ?_;exact TQ.end_
  refine zT (zc (zSG (TL.rn 4 rfl ?_)));refine TL.pcallRw (k := 0) (α := Nat) (fun x => .int .i64 ((x : Nat) : Int)) (fun x zs => Pin a1 b1 ts zs /\ Eqs a1 b1 x zs /\ Mn a1 b1 zs) rfl rfl rfl rfl rfl Tryz.func122 KlZ KiA rfl (fun w1 hw hr1 => KiT g n c ts w1 hr1 hn a1 b1 pw hp1 hp2 (by have := hT.hb; omega) hmin) ?_;rintro m zs ⟨hQ, hE, hM⟩
  try dsimp only [List.set_cons_zero, List.set_cons_succ]
  have hiz : Inv a b xs m b1 zs := (hT.pin hQ).eqs hE hM;have hme := hE.hm;refine TL.as_ ?_;refine zET (zSG (TL.rn 2 rfl (zET (zx (zX (zM ?_))))));exact TX.rd (⟨(m, b1, lim1, wb, wp, zs), hlm, hiz⟩) (by dsimp only; omega) (fun w1 hw => hw)
set_option maxRecDepth 20000
theorem Kit : (Tryz.f85.name == "runtime.NumGoroutine") = false := by decide
theorem KlI : Tryz.f85.body.isNone = false := rfl
theorem KkF (g n c : Nat) (xs : List Int) (w : World) (h : Rw 30 w g n c xs) (hn : n <= 1000000)  :
  Calls Tryz.prog 51 #[.slice (some ⟨g, 0, none⟩) n c] w (RC (α := Unit) (fun _ => .tuple #[]) (fun _ ys => Pin 0 n xs ys /\ Srt 0 n ys) 30 g n c w) := by
 have hl := h.len;refine Kj (I := Pm ⟨Kw w g, g⟩ (.row (.slice (some ⟨g, 0, none⟩) n c) 30 1 n (uv xs) :: Kk g w)) Tryz.func51 rfl rfl rfl ?_ (Pm.rowStart h);refine zSG (TL.mv ?_);refine TL.v (gN Tryz.underlying61) ?_;refine TL.as_ ?_;refine zET (zG (TL.rn 3 rfl ?_));refine TL.w rfl (KaQ rfl rfl (fun w => Kbs (k := .i64) Tryz.underlying110 Tryz.underlying3 (by simp only [IntKind.wrap_u64]; omega) w)) ?_;refine TL.pM _ _ rfl o76 (fun w1 hw => KhF n (by omega) w1) ?_;rintro ⟨l, hL⟩;dsimp only [lC, lN];refine TL.pcallRw (k := 0) (α := Unit) (fun _ => .tuple #[]) (fun _ ys => Pin 0 n xs ys /\ Srt 0 n ys) rfl rfl rfl rfl rfl Tryz.func85 Kit KlI rfl (fun w1 hw hr1 => Kfw g n c hn (n + 1) 0 n l xs w1 hr1 (Nat.zero_le _) (Nat.le_refl _) (fun p q h1 h2 h3 => by omega) (by have := hL.2.2; omega) (by omega)) ?_;rintro ⟨⟩ ys ⟨hQ, hS⟩
 try dsimp only [List.set_cons_zero, List.set_cons_succ]
 refine zE ?_;exact KbO Tryz.results51 (fun w1 hw => ⟨(), ys, rfl, ⟨hQ, hS⟩, K9 hw (k := 0) rfl, hw.mapEnd (fun q hq => by simp [hq])⟩)
set_option maxRecDepth 20000
theorem KW {x : Int} (h : 0 <= x /\ x <= 4294967295) : (Lit.int .u32 x).wf = true := by simp [Lit.wf, IntKind.min, IntKind.max, IntKind.signed, IntKind.bits]; omega
theorem imS : IMap Tryz.prog 130 30 30 .u32 .u32 := ⟨Tryz.underlying130, Tryz.underlying30, Tryz.underlying30, fun w => rfl⟩
theorem Khm {f : Int -> Option Int} {R : Int -> Int} (hR : KaZ f R) (hrg : ∀ x p, f x = some p -> 0 <= p /\ p <= 4294967295) {a : Int} (ha : 0 <= a /\ a <= 4294967295) : 0 <= R a /\ R a <= 4294967295 := by
 obtain ⟨n, hn⟩ := hR a;generalize R a = r at hn
 induction hn with
 | here h => exact ha
 | step h t ih => exact ih (hrg _ _ h)
def UF (ob : Obj) (n : Nat) (R : Int -> Int) : Prop := ∃ f : Int -> Option Int, Kai Tryz.prog 30 30 .u32 .u32 ob n f /\ KaZ f R /\ ∀ x p, f x = some p -> 0 <= p /\ p <= 4294967295
theorem KdH (g : Nat) (ob : Obj) (n : Nat) (R : Int -> Int) (w : World) (hb : w.heap[g]? = some ob) (hu : UF ob n R) (hn : n < maxLen) (a : Int) (ha : 0 <= a /\ a <= 4294967295) :
  Calls Tryz.prog 101 #[.map (some g), .int .u32 a] w fun e w' => ∃ ob', e = .returned (.int .u32 (R a)) /\ UF ob' n R /\ w'.heap[g]? = some ob' /\ w.grownBy w' (some g) := by
 obtain ⟨f, hm, hR, hrg⟩ := hu;obtain ⟨d, hd⟩ := hR a;refine Kj (I := Pm ⟨Kw w g, g⟩ (.oth g ob :: Kk g w)) Tryz.func101 rfl rfl rfl ?_ (Pm.mapStart hb);refine zSG (TL.as_ ?_);refine zET (zB (TC.lp (α := {y : Int × Obj × (Int -> Option Int) × Nat // Kai Tryz.prog 30 30 .u32 .u32 y.2.1 n y.2.2.1 /\ KaZ y.2.2.1 R /\ (∀ z p, y.2.2.1 z = some p -> 0 <= p /\ p <= 4294967295) /\ R y.1 = R a /\ (0 <= y.1 /\ y.1 <= 4294967295) /\ RtN y.2.2.1 y.1 (R y.1) y.2.2.2}) [0] rfl (fun y => [(1, .int .u32 y.1.1)]) (fun y => Pm ⟨Kw w g, g⟩ ([.oth g y.1.2.1] ++ Kk g w)) (fun y => y.1.2.2.2) (⟨(a, ob, f, d), hm, hR, hrg, rfl, ha, hd⟩) (fun w1 hw => hw) ?_));rintro ⟨⟨x, ob, f, d⟩, hm, hR, hrg, hRx, hx, hd⟩;dsimp only at hm hR hrg hRx hx hd ⊢;refine zB (zS ?_);rcases ho : f x with _ | p
 ·have hfx := ho;refine zG (TL.rn 2 rfl ?_);refine TL.w rfl (KfF rfl rfl rfl imS (i := 0) rfl hm (KW hx) hfx) ?_;refine TL.rn 5 rfl (zET (zS (zSG (TL.rn 2 rfl (zET (zc (zSG (TL.rn 2 rfl ?_))))))));refine zET (zr (zR (zRR (TX.in_ret ?_))));exact Kg Tryz.results101 rfl (fun w1 hw => ⟨ob, by rw [<- hRx]; exact congrArg (fun z => Ending.returned (Value.int .u32 z)) (hd.det (.here hfx)).1.symm, ⟨f, hm, hR, hrg⟩, (hw.at_ (k := 0) rfl).1, hw.mapEnd (fun q hq => by simp [hq])⟩)
 have hfx := ho;obtain ⟨d1, hd1⟩ : ∃ d1, RtN f p (R p) d1 := hR p;have hde := (hd.det (.step hfx (hR.step hfx ▸ hd1 : RtN f p (R x) d1))).2;have hstep : RtN f p (R p) (d - 1) := by rw [hde]; exact hd1
 refine zG (TL.rn 2 rfl ?_);refine TL.w rfl (Kge rfl rfl rfl imS (i := 0) rfl hm (KW hx) hfx) ?_;refine TL.rn 5 rfl (zET (zS (zSG (TL.rn 2 rfl (zET (zd (zk (zT (zS (zS ?_))))))))));rcases ho2 : f p with _ | q
 ·have hfp := ho2;refine zG (TL.rn 2 rfl ?_);refine TL.w rfl (KfF rfl rfl rfl imS (i := 0) rfl hm (KW (hrg _ _ hfx)) hfp) ?_;refine TL.rn 5 rfl (zET (zSG (TL.mv ?_)));refine zET (zd (zk (zT (zG (TL.rn 2 rfl (zE (zN ?_)))))));exact TX.rd (⟨(p, ob, f, d - 1), hm, hR, hrg, (hR.step hfx).symm.trans hRx, hrg _ _ hfx, hstep⟩) (by show d - 1 < d; omega) (fun w1 hw => hw)
 have hfp := ho2;have hnear : RtN (upd f x q) p (R p) (d - 1) := RtN.near ⟨_, hd⟩ hstep (by omega);refine zG (TL.rn 2 rfl ?_);refine TL.w rfl (Kge rfl rfl rfl imS (i := 0) rfl hm (KW (hrg _ _ hfx)) hfp) ?_;refine TL.rn 5 rfl (zET (zSG (TL.mv ?_)));refine zET (zc (zG (TL.rn 3 rfl ?_)));refine TL.mapset (i := 0) rfl rfl rfl rfl rfl rfl imS rfl KdA hm hn (KW hx) (KW (hrg _ _ hfp)) (fun ob' hm' => ?_);rw [hfx] at hm';refine zET (zG (TL.rn 2 rfl (zE (zN ?_))));exact TX.rd (⟨(p, ob', upd f x q, d - 1), hm', hR.halve hfx hfp, (fun z r hz => by change (if z = x then some q else f z) = some r at hz; split at hz; (cases hz; exact hrg _ _ hfp); exact hrg _ _ hz), (hR.step hfx).symm.trans hRx, hrg _ _ hfx, hnear⟩) (by show d - 1 < d; omega) (fun w1 hw => hw)
theorem KeK (g : Nat) (ob : Obj) (n : Nat) (R : Int -> Int) (w : World) (hb0 : w.heap[g]? = some ob) (hu : UF ob n R) (hn : n < maxLen) (fc : Fc) (ha : 0 <= fc.a /\ fc.a <= 4294967295) (hb : 0 <= fc.b /\ fc.b <= 4294967295) :
  Calls Tryz.prog 99 #[.map (some g), .int .u32 fc.a, .int .u32 fc.b] w fun e w' => ∃ ob' n', e = .returned (.bool (decide (R fc.a ≠ R fc.b))) /\ n' <= n + 1 /\ UF ob' n' (KO R fc) /\ w'.heap[g]? = some ob' /\ w.grownBy w' (some g) := by
 refine Kj (I := Pm ⟨Kw w g, g⟩ (.oth g ob :: Kk g w)) Tryz.func99 rfl rfl rfl ?_ (Pm.mapStart hb0);refine zSG (TL.as_ ?_);refine zET (zSG (TL.rn 2 rfl ?_));refine TL.pcallObj (k := 0) (α := Unit) (fun _ => .int .u32 (R fc.a)) (fun _ ob2 => UF ob2 n R) rfl rfl rfl rfl rfl Tryz.func101 (by decide) rfl rfl KdA (fun w1 hw hb1 => (KdH g ob n R w1 hb1 hu hn fc.a ha).mono fun e w2 ⟨ob2, h1, h2, h3, h4⟩ => ⟨(), ob2, h1, h2, h3, h4⟩) ?_;rintro ⟨⟩ ob1 hu1;dsimp only [List.set_cons_zero] at hu1 ⊢;refine TL.rn 2 rfl ?_;refine TL.pcallObj (k := 0) (α := Unit) (fun _ => .int .u32 (R fc.b)) (fun _ ob2 => UF ob2 n R) rfl rfl rfl rfl rfl Tryz.func101 (by decide) rfl rfl KdA (fun w1 hw hb1 => (KdH g ob1 n R w1 hb1 hu1 hn fc.b hb).mono fun e w2 ⟨ob2, h1, h2, h3, h4⟩ => ⟨(), ob2, h1, h2, h3, h4⟩) ?_;rintro ⟨⟩ ob2 hu2;dsimp only [List.set_cons_zero] at hu2 ⊢;refine TL.rn 2 rfl (zET (zS (zSG (TL.rn 2 rfl ?_))));refine TL.sp Kab (fun q15 => ?_) (fun q15 => ?_)
 ·refine zET (zc (zSG (TL.as_ ?_)));refine zET (zr (zR ?_));exact Kg Tryz.results99 rfl (fun w1 hw => ⟨ob2, n, by rw [decide_eq_false (fun h => h q15)], Nat.le_succ _, by rw [KdN q15]; exact hu2, (hw.at_ (k := 0) rfl).1, hw.mapEnd (fun q hq => by simp [hq])⟩)
 refine zET (zd (zk (zT (zSG (TL.rn 3 rfl ?_)))));obtain ⟨f, hm, hR, hrg⟩ := hu2;have hfa := (hR.idem fc.a).2;have hfb := (hR.idem fc.b).2;have hra := Khm hR hrg ha;have hrb := Khm hR hrg hb;refine TL.mapset (i := 0) rfl rfl rfl rfl rfl rfl imS rfl KdA hm hn (KW hra) (KW hrb) (fun ob3 hm3 => ?_);rw [hfa] at hm3;have hu3 : UF ob3 (n + 1) (KO R fc) := ⟨upd f (R fc.a) (R fc.b), hm3, by unfold KO; rw [if_neg q15]; exact hR.join hfa hfb q15, fun z r hz => by change (if z = R fc.a then some (R fc.b) else f z) = some r at hz; split at hz; (cases hz; exact hrb); exact hrg _ _ hz⟩;refine zET (zSG (TL.as_ ?_));refine zET (zr ?_);exact Kg Tryz.results99 rfl (fun w1 hw => ⟨ob3, n + 1, by rw [decide_eq_true q15], Nat.le_refl _, hu3, (hw.at_ (k := 0) rfl).1, hw.mapEnd (fun q hq => by simp [hq])⟩)
set_option maxRecDepth 20000
noncomputable instance (l : List Fc) : Decidable (Kap l) := Classical.propDecidable _
theorem Kgm {l : List Fc} {i : Nat} {x : Fc} (h : KcQ l i) (hx : l[i]? = some x) (h1 : 0 <= x.id) (h2 : ¬ x.a = x.b) (h3 : ∀ y, 0 < i -> l[i - 1]? = some y -> y.id < x.id) : KcQ l (i + 1) := by
 intro j hj f hf;rcases Nat.lt_or_ge j i with h4 | h4
 ·exact h j h4 f hf
 obtain rfl : j = i := by omega
 rw [hx] at hf;cases hf;exact ⟨h1, h2, h3⟩
theorem KD (w : World) : (sizeOf 72).run Tryz.prog w = .ok 3 w := rfl
theorem KaC (w : World) : (isAgg 72).run Tryz.prog w = .ok true w := rfl
theorem KcG (w : World) : (zeroValue 72).run Tryz.prog w = .ok (.agg #[.int .i64 0, .int .u32 0, .int .u32 0]) w := rfl
theorem Kbh : FA Tryz.prog 72 0 0 := fun g o w => by kernel_rfl
theorem Kbj : FA Tryz.prog 72 1 1 := fun g o w => by kernel_rfl
theorem Ka7 : FA Tryz.prog 72 2 2 := fun g o w => by kernel_rfl
theorem KfT (A : Option Addr) (n c : Nat) (l : List Fc) (w : World) (hr : Ki w w.heap.size 3 A n (fcs l)) (hl : l.length = n) :
  Calls Tryz.prog 72 #[.slice A n c] w fun e w' => e = .returned (.bool (decide (Kap l))) /\ Below w.heap.size w w' := by
 subst hl;refine Kj Tryz.func72 rfl rfl rfl ?_ (Pm.start w);refine zSG (TL.as_ ?_);refine zET (zS (zSG (TL.mv ?_)));refine TL.v (gN Tryz.underlying69) ?_;refine TL.sp Kar (fun q7 => ?_) (fun q7 => ?_)
 ·have hR : ¬ Kap l := fun hh => by have := hh.1; omega
  refine zET (zc (zSG (TL.as_ ?_)));refine zET (zr (zR ?_));exact Kg Tryz.results72 rfl (fun w1 hw => ⟨by rw [decide_eq_false hR], hw.bel⟩)
 refine zET (zd (zk (zT (zS (zSG (TL.mv ?_))))));refine TL.v (gN Tryz.underlying69) ?_;refine TL.mv ?_;refine zET (zB (TC.lp (α := {i : Nat // i <= l.length /\ KcQ l i}) [0, 8, 9] rfl (fun y => [(10, .int .i64 (y.1 : Nat))]) (fun y => Pm w []) (fun y => l.length - y.1) (⟨0, Nat.zero_le _, fun j hj => absurd hj (Nat.not_lt_zero j)⟩) (fun w1 hw => hw) ?_));rintro ⟨i, hi, hv⟩;dsimp only at hi hv ⊢;refine zSG ?_;refine TL.sp Ky (fun q11 => ?_) (fun q11 => ?_)
 ·have hi2 : i < l.length := by omega
  obtain ⟨x, hx⟩ := KB hi2;obtain ⟨b2, o2, hA2, hbb2, hc2⟩ := hr.ad (by omega) (by decide);refine zET (zS (zc (zk (zT (zS (zB (zSG (TL.mv ?_))))))));refine TL.w rfl (Ke (v := .pointer (some ⟨b2, o2 + i * 3, none⟩)) rfl rfl rfl (fun w => KbY Tryz.underlying69 KD hA2 _ _ i hi2 rfl w)) ?_;refine TL.w rfl (Kac rfl rfl KaC KD (Kas x) (fun w1 hw j u hu => (hw.bel.cell hbb2).trans (KcB hx hc2 j u hu))) ?_;refine TL.al KcG fun g4 => ?_;refine TL.as_ ?_;refine TL.pstore (k := 0) (vs := x.cells) rfl rfl rfl rfl rfl rfl rfl KD (KbG x) (by show 3 <= 3; decide) (L' := [.blk g4 72 x.cells]) rfl ?_;refine zET (zS ?_)
  have hway : x.id < 0 \/ (¬ x.id < 0 /\ x.a = x.b) \/ (¬ x.id < 0 /\ ¬ x.a = x.b /\ ¬ 0 < i) \/ (¬ x.id < 0 /\ ¬ x.a = x.b /\ 0 < i /\ ∀ y, l[i - 1]? = some y -> y.id < x.id) \/ (¬ x.id < 0 /\ ¬ x.a = x.b /\ 0 < i /\ ¬ ∀ y, l[i - 1]? = some y -> y.id < x.id) := by
   by_cases p1 : x.id < 0
   ·exact .inl p1
   by_cases p2 : x.a = x.b
   ·exact .inr (.inl ⟨p1, p2⟩)
   by_cases p3 : 0 < i
   ·by_cases p4 : ∀ y, l[i - 1]? = some y -> y.id < x.id
    ·exact .inr (.inr (.inr (.inl ⟨p1, p2, p3, p4⟩)))
    exact .inr (.inr (.inr (.inr ⟨p1, p2, p3, p4⟩)))
   exact .inr (.inr (.inl ⟨p1, p2, p3⟩))
  rcases hway with p1 | ⟨p1, p2⟩ | ⟨p1, p2, p3⟩ | ⟨p1, p2, p3, p5⟩ | ⟨p1, p2, p3, p5⟩
  ·have hR : ¬ Kap l := fun hh => by obtain ⟨v1, v2, v3⟩ := hh.2 i hi2 x hx; omega
   refine TC.quiet_ (E' := ?_) (by kernel_rfl) (by kernel_rfl) (fun w hw => hw.drawn _) ?_ ?_
   rotate_left
   ·refine TQ.v (gF Kbh) ?_;refine TQ.v (gL 0 KF) ?_;refine TQ.w rfl (Kd rfl rfl rfl (fun w => Kce (p1) w)) ?_;refine TQ.rn 11 rfl ?_;refine TQ.offU rfl rfl rfl rfl rfl ?_;refine TQ.offU rfl rfl rfl rfl rfl ?_;refine TQ.offU rfl rfl rfl rfl rfl ?_;refine TQ.offU rfl rfl rfl rfl rfl ?_;refine TQ.offU rfl rfl rfl rfl rfl ?_;refine TQ.offU rfl rfl rfl rfl rfl ?_;refine TQ.offU rfl rfl rfl rfl rfl ?_;refine TQ.offU rfl rfl rfl rfl rfl ?_;refine TQ.offU rfl rfl rfl rfl rfl ?_;refine TQ.rn 2 rfl ?_;exact TQ.end_
   refine zT (zc (zSG (TL.as_ ?_)));refine zET (zr (zRR (zR (zRR ?_))));exact Kg Tryz.results72 rfl (fun w1 hw => ⟨by rw [decide_eq_false hR], hw.bel⟩)
  ·have hR : ¬ Kap l := fun hh => by obtain ⟨v1, v2, v3⟩ := hh.2 i hi2 x hx; exact v2 p2
   refine TC.quiet_ (E' := ?_) (by kernel_rfl) (by kernel_rfl) (fun w hw => hw.drawn _) ?_ ?_
   rotate_left
   ·refine TQ.v (gF Kbh) ?_;refine TQ.v (gL 0 KF) ?_;refine TQ.w rfl (Kd rfl rfl rfl (fun w => KbC (p1) w)) ?_;refine TQ.w rfl (Kc rfl rfl) ?_;refine TQ.ov (gF Kbj) ?_;refine TQ.ov (gL 0 Kn) ?_;refine TQ.ov (gF Ka7) ?_;refine TQ.ov (gL 0 Kn) ?_;refine TQ.on rfl rfl rfl ?_;refine TQ.w rfl (Kd rfl rfl rfl (fun w => Kbl (p2) w)) ?_;refine TQ.rn 5 rfl ?_;refine TQ.offU rfl rfl rfl rfl rfl ?_;refine TQ.offU rfl rfl rfl rfl rfl ?_;refine TQ.offU rfl rfl rfl rfl rfl ?_;refine TQ.offU rfl rfl rfl rfl rfl ?_;refine TQ.offU rfl rfl rfl rfl rfl ?_;refine TQ.offU rfl rfl rfl rfl rfl ?_;refine TQ.offU rfl rfl rfl rfl rfl ?_;refine TQ.offU rfl rfl rfl rfl rfl ?_;refine TQ.offU rfl rfl rfl rfl rfl ?_;refine TQ.rn 2 rfl ?_;exact TQ.end_
   refine zT (zc (zSG (TL.as_ ?_)));refine zET (zr (zRR (zR (zRR ?_))));exact Kg Tryz.results72 rfl (fun w1 hw => ⟨by rw [decide_eq_false hR], hw.bel⟩)
  ·have hst : KcQ l (i + 1) := Kgm hv hx (by omega) p2 (fun y h0 => absurd h0 p3);refine TC.quiet_ (E' := ?_) (by kernel_rfl) (by kernel_rfl) (fun w hw => hw.drawn _) ?_ ?_
   rotate_left
   ·refine TQ.v (gF Kbh) ?_;refine TQ.v (gL 0 KF) ?_;refine TQ.w rfl (Kd rfl rfl rfl (fun w => KbC (p1) w)) ?_;refine TQ.w rfl (Kc rfl rfl) ?_;refine TQ.ov (gF Kbj) ?_;refine TQ.ov (gL 0 Kn) ?_;refine TQ.ov (gF Ka7) ?_;refine TQ.ov (gL 0 Kn) ?_;refine TQ.on rfl rfl rfl ?_;refine TQ.w rfl (Kd rfl rfl rfl (fun w => Kdu (p2) w)) ?_;refine TQ.rn 3 rfl ?_;refine TQ.on rfl rfl rfl ?_;refine TQ.w rfl (Kd rfl rfl rfl (fun w => Ke5 (by omega) w)) ?_;refine TQ.rn 12 rfl ?_;exact TQ.end_
   refine zT (zd (zk (zN (zT (zG (TL.v (gD ((i + 1 : Nat) : Int)) ?_))))));refine TL.mv ?_;refine zE ?_;exact TX.rd (⟨i + 1, hi2, hst⟩) (by show l.length - (i + 1) < l.length - i; omega) (fun w1 hw => hw.pk [])
  ·have hi0 : 0 < i := p3;obtain ⟨y, hy⟩ : ∃ y, l[i - 1]? = some y := ⟨_, List.getElem?_eq_getElem (by omega)⟩;have p4 := p5 y hy;have hst : KcQ l (i + 1) := Kgm hv hx (by omega) p2 (fun z _ hz => by rw [hy] at hz; cases hz; exact p4);refine TC.quiet_ (E' := ?_) (by kernel_rfl) (by kernel_rfl) (fun w hw => hw.drawn _) ?_ ?_
   rotate_left
   ·refine TQ.v (gF Kbh) ?_;refine TQ.v (gL 0 KF) ?_;refine TQ.w rfl (Kd rfl rfl rfl (fun w => KbC (p1) w)) ?_;refine TQ.w rfl (Kc rfl rfl) ?_;refine TQ.ov (gF Kbj) ?_;refine TQ.ov (gL 0 Kn) ?_;refine TQ.ov (gF Ka7) ?_;refine TQ.ov (gL 0 Kn) ?_;refine TQ.on rfl rfl rfl ?_;refine TQ.w rfl (Kd rfl rfl rfl (fun w => Kdu (p2) w)) ?_;refine TQ.rn 3 rfl ?_;refine TQ.on rfl rfl rfl ?_;refine TQ.w rfl (Kd rfl rfl rfl (fun w => Kcu (by omega) w)) ?_;refine TQ.rn 3 rfl ?_;refine TQ.on rfl rfl rfl ?_;refine TQ.w rfl (Kd rfl rfl rfl (fun w => Ko (r := ((i - 1 : Nat) : Int)) (by simp only [IntKind.wrap_i64]; omega) w)) ?_;refine TQ.on rfl rfl rfl ?_;refine TQ.w rfl (gA (i := (i - 1)) Tryz.underlying69 KD rfl rfl rfl rfl hA2 (by omega)) ?_;refine TQ.ov (gF Kbh) ?_;refine TQ.on rfl rfl rfl ?_;refine TQ.w rfl (KI (v := .int .i64 y.id) rfl rfl (fun w => rfl) (fun w1 hw => (hw.bel.cell hbb2).trans (KcB hy hc2 0 _ rfl))) ?_;refine TQ.ov (gF Kbh) ?_;refine TQ.ov (gL 0 KF) ?_;refine TQ.on rfl rfl rfl ?_;refine TQ.w rfl (Kd rfl rfl rfl (fun w => KbZ (by omega) w)) ?_;refine TQ.rn 2 rfl ?_;exact TQ.end_
   refine zT (zd (zk (zN (zT (zG (TL.v (gD ((i + 1 : Nat) : Int)) ?_))))));refine TL.mv ?_;refine zE ?_;exact TX.rd (⟨i + 1, hi2, hst⟩) (by show l.length - (i + 1) < l.length - i; omega) (fun w1 hw => hw.pk [])
  have hi0 : 0 < i := p3;obtain ⟨y, hy⟩ : ∃ y, l[i - 1]? = some y := ⟨_, List.getElem?_eq_getElem (by omega)⟩;have p4 : ¬ y.id < x.id := fun hh => p5 fun z hz => by rw [hy] at hz; cases hz; exact hh
  have hR : ¬ Kap l := fun hh => by obtain ⟨v1, v2, v3⟩ := hh.2 i hi2 x hx; have := v3 y hi0 hy; omega
  refine TC.quiet_ (E' := ?_) (by kernel_rfl) (by kernel_rfl) (fun w hw => hw.drawn _) ?_ ?_
  rotate_left
  ·refine TQ.v (gF Kbh) ?_;refine TQ.v (gL 0 KF) ?_;refine TQ.w rfl (Kd rfl rfl rfl (fun w => KbC (p1) w)) ?_;refine TQ.w rfl (Kc rfl rfl) ?_;refine TQ.ov (gF Kbj) ?_;refine TQ.ov (gL 0 Kn) ?_;refine TQ.ov (gF Ka7) ?_;refine TQ.ov (gL 0 Kn) ?_;refine TQ.on rfl rfl rfl ?_;refine TQ.w rfl (Kd rfl rfl rfl (fun w => Kdu (p2) w)) ?_;refine TQ.rn 3 rfl ?_;refine TQ.on rfl rfl rfl ?_;refine TQ.w rfl (Kd rfl rfl rfl (fun w => Kcu (by omega) w)) ?_;refine TQ.rn 3 rfl ?_;refine TQ.on rfl rfl rfl ?_;refine TQ.w rfl (Kd rfl rfl rfl (fun w => Ko (r := ((i - 1 : Nat) : Int)) (by simp only [IntKind.wrap_i64]; omega) w)) ?_;refine TQ.on rfl rfl rfl ?_;refine TQ.w rfl (gA (i := (i - 1)) Tryz.underlying69 KD rfl rfl rfl rfl hA2 (by omega)) ?_;refine TQ.ov (gF Kbh) ?_;refine TQ.on rfl rfl rfl ?_;refine TQ.w rfl (KI (v := .int .i64 y.id) rfl rfl (fun w => rfl) (fun w1 hw => (hw.bel.cell hbb2).trans (KcB hy hc2 0 _ rfl))) ?_;refine TQ.ov (gF Kbh) ?_;refine TQ.ov (gL 0 KF) ?_;refine TQ.on rfl rfl rfl ?_;refine TQ.w rfl (Kd rfl rfl rfl (fun w => Kdm (by omega) w)) ?_;refine TQ.rn 2 rfl ?_;exact TQ.end_
  refine zT (zc (zSG (TL.as_ ?_)));refine zET (zr (zRR (zR (zRR ?_))));exact Kg Tryz.results72 rfl (fun w1 hw => ⟨by rw [decide_eq_false hR], hw.bel⟩)
 have hi2 : i = l.length := by omega
 subst hi2;have hR : Kap l := ⟨by omega, hv⟩;refine zET (zS (zd (zx (zX (zX (zM (zT (zSG (TL.as_ ?_)))))))));refine zET (zr ?_);exact Kg Tryz.results72 rfl (fun w1 hw => ⟨by rw [decide_eq_true hR], hw.bel⟩)
set_option maxRecDepth 20000
theorem Kfi (f : Fc) : ∀ (l : List Fc) (R : Int -> Int), K5 R (l ++ [f]) = if l.foldl KO R f.a = l.foldl KO R f.b then K5 R l else K5 R l ++ [f]
 | [], R => by
  rw [List.nil_append, K5, K5, K5]
  rfl
 | g :: l, R => by
  rw [List.cons_append, K5, K5];by_cases h : R g.a = R g.b
  ·rw [if_pos h, if_pos h, Kfi f l R, List.foldl_cons, KdN h]
  rw [if_neg h, if_neg h, Kfi f l (KO R g), List.foldl_cons];split <;> rfl
theorem KfA (l : List Fc) (f : Fc) : Ks (l ++ [f]) = if KA l f.a = KA l f.b then Ks l else Ks l ++ [f] := Kfi f l _
theorem KgJ (l : List Fc) : (Ks l).length <= l.length := Kd2 l _
noncomputable def Kb0 (l : List Fc) : List Fc := if Kap l then Ks l else []
theorem Kbn (a0_0 : Int) (a0_1 : Int) (a0_2 : Int) (w : World) : (Instr.buildSlice 69 1 #[(0, .agg #[.int .i64 a0_0, .int .u32 a0_1, .int .u32 a0_2])]).run Tryz.prog w = .ok (.slice (some ⟨w.heap.size, 0, none⟩) 1 1) (w.alloc (.cells [.int .i64 a0_0, .int .u32 a0_1, .int .u32 a0_2].toArray 72)) := by kernel_rfl
theorem Kbr : Elem Tryz.prog 69 72 3 16 := Elem.mk' Tryz.underlying69 (z := .agg #[.int .i64 0, .int .u32 0, .int .u32 0]) (by kernel_rfl) rfl (by omega) (by omega)
theorem Kl3 (A0 : Option Addr) (n0 c0 : Nat) (l : List Fc) (w : World) (hr : Ki w w.heap.size 3 A0 n0 (fcs l)) (hl : l.length = n0) (hok : ∀ f ∈ l, f.Ok) :
  Calls Tryz.prog 92 #[.slice A0 n0 c0] w fun e w' => ∃ A c, e = .returned (.slice A (Kb0 l).length c) /\ (Kb0 l).length <= c /\ c <= maxLen /\ w'.ownsRow w.heap.size 72 3 (.slice A (Kb0 l).length c) (Kb0 l).length (fcs (Kb0 l)) /\ Below w.heap.size w w' := by
 subst hl;refine Kj Tryz.func92 rfl rfl rfl ?_ (Pm.start w);refine zSG (TL.as_ ?_);refine zET (zS (zSG (TL.mv ?_)));refine TL.pS rfl o72 (fun w1 hw => KfT A0 _ c0 l w1 ((hr.below hw.bel).more hw.bel.size) rfl) (fun h8 => ?_) (fun h8 => ?_)
 ·have hV : Kap l := of_decide_eq_true h8;have hl1 : l.length <= 1024 := hV.1;refine TL.w rfl (K0 rfl rfl) ?_;refine zET (zd (zk (zT (zSG ?_))));refine TL.mkmap rfl rfl rfl rfl (fun gm hgm => ?_);refine TL.as_ ?_;refine zET (zSG (TL.as_ ?_));refine zET (zS (zSG (TL.mv ?_)));refine TL.v (gN Tryz.underlying69) ?_;refine TL.mv ?_;refine zET (zB (TC.nilrow 72 3 ?_));refine TC.loop_ (α := {y : Nat × Nat × Obj × (Option Addr × Nat) // y.1 <= l.length /\ y.2.1 <= y.1 /\ UF y.2.2.1 y.2.1 (KA (l.take y.1)) /\ (Ks (l.take y.1)).length <= y.2.2.2.2 /\ y.2.2.2.2 <= maxLen}) (fun y => [(3, .map (some gm)), (4, .slice y.1.2.2.2.1 ((Ks (l.take y.1.1)).length) y.1.2.2.2.2), (11, .slice A0 l.length c0), (12, .int .i64 (l.length : Nat)), (13, .int .i64 (y.1.1 : Nat))]) (fun y => Pm w [.row (.slice y.1.2.2.2.1 ((Ks (l.take y.1.1)).length) y.1.2.2.2.2) 72 3 ((Ks (l.take y.1.1)).length) (fcs (Ks (l.take y.1.1))), .oth gm y.1.2.2.1]) (fun y => l.length - y.1.1) (⟨(0, 0, .map #[] 0, (none, 0)), Nat.zero_le _, Nat.le_refl _, ⟨fun _ => none, Kg2 _ _ _ _ _, Khw, fun _ _ h => by cases h⟩, Nat.zero_le _, Nat.zero_le _⟩) ⟨rfl, rfl, rfl, rfl, rfl, trivial⟩ (fun w1 hw => hw) ?_;rintro ⟨⟨i, n, ob, ⟨A, c⟩⟩, hi, hni, hu, hc, hc9⟩;dsimp only at hi hni hu hc hc9 ⊢;refine zSG ?_;refine TL.sp Ky (fun q14 => ?_) (fun q14 => ?_)
  ·have hi2 : i < l.length := by omega
   obtain ⟨x, hx⟩ := KB hi2;obtain ⟨b2, o2, hA2, hbb2, hc2⟩ := hr.ad (by omega) (by decide);have hxo := hok x (List.mem_of_getElem? hx);have htk : l.take (i + 1) = l.take i ++ [x] := by rw [List.take_add_one, hx]; rfl
   have hfl := KgJ (l.take i);rw [List.length_take] at hfl;refine zET (zS (zc (zk (zT (zS (zB (zSG ?_)))))));refine TL.w rfl (Ke (v := .pointer (some ⟨b2, o2 + i * 3, none⟩)) rfl rfl rfl (fun w => KbY Tryz.underlying69 KD hA2 _ _ i hi2 rfl w)) ?_;refine TL.w rfl (Kac rfl rfl KaC KD (Kas x) (fun w1 hw j u hu => (hw.bel.cell hbb2).trans (KcB hx hc2 j u hu))) ?_;refine TL.al KcG fun g6 => ?_;refine TL.pstore (k := 0) (vs := x.cells) rfl rfl rfl rfl rfl rfl rfl KD (KbG x) (by show 3 <= 3; decide) (L' := [.blk g6 72 x.cells, .row (.slice A ((Ks (l.take i)).length) c) 72 3 ((Ks (l.take i)).length) (fcs (Ks (l.take i))), .oth gm ob]) rfl ?_;refine zET (zS ?_);by_cases hj : KA (l.take i) x.a = KA (l.take i) x.b
   ·have hfo : Ks (l.take (i + 1)) = Ks (l.take i) := by rw [htk, KfA, if_pos hj]
    refine zG (TL.mv ?_);refine TL.v (gF Kbj) ?_;refine TL.v (gL 0 Kn) ?_;refine TL.v (gF Ka7) ?_;refine TL.v (gL 0 Kn) ?_;refine TL.pcallObj (k := 2) (α := Unit) (fun _ => .bool false) (fun _ ob2 => ∃ n2, n2 <= n + 1 /\ UF ob2 n2 (KA (l.take (i + 1)))) rfl rfl rfl rfl rfl Tryz.func99 (by decide) rfl rfl hgm (fun w1 hw hb1 => (KeK gm ob n (KA (l.take i)) w1 hb1 hu (by unfold maxLen; omega) x ⟨hxo.1, hxo.2.1⟩ ⟨hxo.2.2.1, hxo.2.2.2⟩).mono fun e w2 ⟨ob2, n2, h1, h2, h3, h4, h5⟩ => ⟨(), ob2, by rw [decide_eq_false (fun h => h hj)] at h1; exact h1, ⟨n2, h2, by rw [htk, KcK]; exact h3⟩, h4, h5⟩) ?_;rintro ⟨⟩ ob2 ⟨n2, hn2, hu2⟩;dsimp only [List.set_cons_zero, List.set_cons_succ] at hu2 ⊢;refine zET (zd (zk (zN (zT (zG (TL.v (gD ((i + 1 : Nat) : Int)) ?_))))));refine TL.mv ?_;refine zE ?_;exact TX.round (⟨(i + 1, n2, ob2, (A, c)), hi2, by dsimp only; omega, hu2, by rw [hfo]; exact hc, hc9⟩) (by show l.length - (i + 1) < l.length - i; omega) ⟨rfl, (by (try dsimp only); rw [hfo]; rfl), rfl, rfl, rfl, trivial⟩ (fun w1 hw => (by (try dsimp only); rw [hfo]; exact hw.pk [1, 2]))
   have hfo : Ks (l.take (i + 1)) = Ks (l.take i) ++ [x] := by rw [htk, KfA, if_neg hj]
   refine zG (TL.mv ?_);refine TL.v (gF Kbj) ?_;refine TL.v (gL 0 Kn) ?_;refine TL.v (gF Ka7) ?_;refine TL.v (gL 0 Kn) ?_;refine TL.pcallObj (k := 2) (α := Unit) (fun _ => .bool true) (fun _ ob2 => ∃ n2, n2 <= n + 1 /\ UF ob2 n2 (KA (l.take (i + 1)))) rfl rfl rfl rfl rfl Tryz.func99 (by decide) rfl rfl hgm (fun w1 hw hb1 => (KeK gm ob n (KA (l.take i)) w1 hb1 hu (by unfold maxLen; omega) x ⟨hxo.1, hxo.2.1⟩ ⟨hxo.2.2.1, hxo.2.2.2⟩).mono fun e w2 ⟨ob2, n2, h1, h2, h3, h4, h5⟩ => ⟨(), ob2, by rw [decide_eq_true hj] at h1; exact h1, ⟨n2, h2, by rw [htk, KcK]; exact h3⟩, h4, h5⟩) ?_;rintro ⟨⟩ ob2 ⟨n2, hn2, hu2⟩;dsimp only [List.set_cons_zero, List.set_cons_succ] at hu2 ⊢;refine zET (zc (zG (TL.mv ?_)));refine TL.v (gV 0 (.agg (x.cells).toArray) KaC KD) ?_;refine TL.prowS (e := 72) (size := 3) (cs := fcs [x]) rfl rfl rfl rfl rfl (fun w => Kbn _ _ _ w) (by decide) rfl (fun g25 => ?_);refine TL.appendT (k := 2) rfl rfl rfl rfl Tryz.underlying69 Kbr rfl rfl rfl (fun w1 hw => KG hw (k := 0) rfl) (Kbp _) (by omega) ((Ks (l.take (i + 1))).length) (by rw [hfo, List.length_append]; rfl) (fcs (Ks (l.take (i + 1)))) (by rw [hfo, Kcm]) (fun A26 c26 hA261 hA262 => ?_);refine TL.as_ ?_;refine zE (zN (zT (zG (TL.v (gD ((i + 1 : Nat) : Int)) ?_))));refine TL.mv ?_;refine zE ?_;exact TX.rd (⟨(i + 1, n2, ob2, (A26, c26)), hi2, by dsimp only; omega, hu2, hA261, hA262⟩) (by show l.length - (i + 1) < l.length - i; omega) (fun w1 hw => hw.pk [2, 3])
  have hi2 : i = l.length := by omega
  subst hi2;have hF : Kb0 l = (Ks (l.take l.length)) := by rw [List.take_length]; exact if_pos hV
  refine zET (zS (zd (zx (zX (zX (zM (zT (zSG (TL.rn 2 rfl (zET (zr ?_)))))))))));exact Kg Tryz.results92 rfl (fun w1 hw => by rw [hF]; exact ⟨A, c, rfl, hc, hc9, hw.at_ (k := 0) rfl, hw.bel⟩)
 have hF : Kb0 l = [] := if_neg (of_decide_eq_false h8);refine TL.w rfl (K0 rfl rfl) ?_;refine zET (zc (zSG (TL.as_ ?_)));refine zET (zr (zR ?_));exact Kg Tryz.results92 rfl (fun w1 hw => by rw [hF]; exact ⟨none, 0, rfl, Nat.le_refl _, Nat.zero_le _, (hw.nilrow 72 3).at_ (k := 0) rfl, hw.bel⟩)
set_option maxRecDepth 20000
section
variable {P : Program} {N : Fr} {Q : Exit -> Act -> World -> Prop} {E : Env} {w0 : Base} {L : List Pc} {ops : Array Oper} {l : List Oper} {o : Oper}
end
set_option maxRecDepth 20000
noncomputable instance (l : List Fc) (a b : Int) : Decidable (Kap l /\ KA l a = KA l b) := Classical.propDecidable _
theorem Kmf (A0 : Option Addr) (n0 c0 : Nat) (l : List Fc) (w : World) (hr : Ki w w.heap.size 3 A0 n0 (fcs l)) (hl : l.length = n0) (hok : ∀ f ∈ l, f.Ok) (a b : Int) (har : 0 <= a /\ a <= 4294967295) (hbr : 0 <= b /\ b <= 4294967295) :
  Calls Tryz.prog 91 #[.slice A0 n0 c0, .int .u32 a, .int .u32 b] w fun e w' => e = .returned (.bool (decide (Kap l /\ KA l a = KA l b))) /\ Below w.heap.size w w' := by
 subst hl;refine Kj Tryz.func91 rfl rfl rfl ?_ (Pm.start w);refine zSG (TL.as_ ?_);refine zET (zS (zSG (TL.mv ?_)));refine TL.pS rfl o72 (fun w1 hw => KfT A0 _ c0 l w1 ((hr.below hw.bel).more hw.bel.size) rfl) (fun h11 => ?_) (fun h11 => ?_)
 ·have hV : Kap l := of_decide_eq_true h11;have hl1 : l.length <= 1024 := hV.1;refine TL.w rfl (K0 rfl rfl) ?_;refine zET (zd (zk (zT (zSG ?_))));refine TL.mkmap rfl rfl rfl rfl (fun gm hgm => ?_);refine TL.as_ ?_;refine zET (zS (zSG (TL.mv ?_)));refine TL.v (gN Tryz.underlying69) ?_;refine TL.mv ?_;refine zET (zB ?_);refine TC.lp (α := {y : Nat × Nat × Obj // y.1 <= l.length /\ y.2.1 <= y.1 /\ UF y.2.2 y.2.1 (KA (l.take y.1))}) [1, 2, 7, 14, 15] rfl (fun y => [(16, .int .i64 ((y.1.1 : Nat) : Int))]) (fun y => Pm w [.oth gm y.1.2.2]) (fun y => l.length - y.1.1) (⟨(0, 0, .map #[] 0), Nat.zero_le _, Nat.le_refl _, ⟨fun _ => none, Kg2 _ _ _ _ _, Khw, fun _ _ h => by cases h⟩⟩) (fun w1 hw => hw) ?_;rintro ⟨⟨i, n, ob⟩, hi, hni, hu⟩;dsimp only at hi hni hu ⊢;refine zSG ?_;refine TL.sp Ky (fun q17 => ?_) (fun q17 => ?_)
  ·have hi2 : i < l.length := by omega
   obtain ⟨x, hx⟩ := KB hi2;obtain ⟨b2, o2, hA2, hbb2, hc2⟩ := hr.ad (by omega) (by decide);have hxo := hok x (List.mem_of_getElem? hx);have htk : l.take (i + 1) = l.take i ++ [x] := by rw [List.take_add_one, hx]; rfl
   refine zET (zS (zc (zk (zT (zS (zB (zSG ?_)))))));refine TL.w rfl (Ke (v := .pointer (some ⟨b2, o2 + i * 3, none⟩)) rfl rfl rfl (fun w => KbY Tryz.underlying69 KD hA2 _ _ i hi2 rfl w)) ?_;refine TL.w rfl (Kac rfl rfl KaC KD (Kas x) (fun w1 hw j u hu => (hw.bel.cell hbb2).trans (KcB hx hc2 j u hu))) ?_;refine TL.al KcG fun g9 => ?_;refine TL.pstore (k := 0) (vs := x.cells) rfl rfl rfl rfl rfl rfl rfl KD (KbG x) (by show 3 <= 3; decide) (L' := [.blk g9 72 x.cells, .oth gm ob]) rfl ?_;refine zET (zG (TL.mv ?_));refine TL.v (gF Kbj) ?_;refine TL.v (gL 0 Kn) ?_;refine TL.v (gF Ka7) ?_;refine TL.v (gL 0 Kn) ?_;refine TL.pcallObj (k := 1) (α := Unit) (fun _ => .bool (decide ((KA (l.take i)) x.a ≠ (KA (l.take i)) x.b))) (fun _ ob2 => ∃ n2, n2 <= n + 1 /\ UF ob2 n2 (KA (l.take (i + 1)))) rfl rfl rfl rfl rfl Tryz.func99 (by decide) rfl rfl hgm (fun w1 hw hb1 => (KeK gm ob n ((KA (l.take i))) w1 hb1 hu (by unfold maxLen; omega) x ⟨hxo.1, hxo.2.1⟩ ⟨hxo.2.2.1, hxo.2.2.2⟩).mono fun e w2 ⟨ob2, n2, h1, h2, h3, h4, h5⟩ => ⟨(), ob2, h1, ⟨n2, h2, by rw [htk, KcK]; exact h3⟩, h4, h5⟩) ?_;rintro ⟨⟩ ob2 ⟨n2, hn2, hu2⟩
   try dsimp only [List.set_cons_zero, List.set_cons_succ]
   refine zE (zN (zT (zG (TL.v (gD ((i + 1 : Nat) : Int)) ?_))));refine TL.mv ?_;refine zE ?_;exact TX.rd (⟨(i + 1, n2, ob2), hi2, by dsimp only; omega, hu2⟩) (by show l.length - (i + 1) < l.length - i; omega) (fun w1 hw => hw.pk [1])
  have hi2 : i = l.length := by omega
  subst hi2;rw [List.take_length] at hu;refine zET (zS (zd (zx (zX (zX (zM (zT (zSG (TL.rn 2 rfl ?_)))))))));refine TL.pcallObj (k := 0) (α := Unit) (fun _ => .int .u32 ((KA l) a)) (fun _ ob2 => UF ob2 n (KA l)) rfl rfl rfl rfl rfl Tryz.func101 (by decide) rfl rfl hgm (fun w1 hw hb1 => (KdH gm ob n (KA l) w1 hb1 hu (by unfold maxLen; omega) a har).mono fun e w2 ⟨ob2, h1, h2, h3, h4⟩ => ⟨(), ob2, h1, h2, h3, h4⟩) ?_;rintro ⟨⟩ ob2 hu2
  try dsimp only [List.set_cons_zero, List.set_cons_succ]
  refine TL.rn 2 rfl ?_;refine TL.pcallObj (k := 0) (α := Unit) (fun _ => .int .u32 ((KA l) b)) (fun _ ob2 => UF ob2 n (KA l)) rfl rfl rfl rfl rfl Tryz.func101 (by decide) rfl rfl hgm (fun w1 hw hb1 => (KdH gm ob2 n (KA l) w1 hb1 hu2 (by unfold maxLen; omega) b hbr).mono fun e w2 ⟨ob2, h1, h2, h3, h4⟩ => ⟨(), ob2, h1, h2, h3, h4⟩) ?_;rintro ⟨⟩ ob3 hu3
  try dsimp only [List.set_cons_zero, List.set_cons_succ]
  refine TL.sp Kab (fun q33 => ?_) (fun q33 => ?_)
  ·refine TL.as_ ?_;refine zET (zr ?_);exact Kg Tryz.results91 rfl (fun w1 hw => ⟨by rw [decide_eq_true ⟨hV, q33⟩], hw.bel⟩)
  refine TL.as_ ?_;refine zET (zr ?_);exact Kg Tryz.results91 rfl (fun w1 hw => ⟨by rw [decide_eq_false (fun hh => q33 hh.2)], hw.bel⟩)
 have hV : ¬ Kap l := of_decide_eq_false h11;refine TL.w rfl (K0 rfl rfl) ?_;refine zET (zc (zSG (TL.as_ ?_)));refine zET (zr (zR ?_));exact Kg Tryz.results91 rfl (fun w1 hw => ⟨by rw [decide_eq_false (fun hh => hV hh.1)], hw.bel⟩)
def Asc (l : List Fc) : Prop := ∀ (p q : Nat) (x y : Fc), p < q -> l[p]? = some x -> l[q]? = some y -> x.id < y.id
theorem Kap.asc {l : List Fc} (h : Kap l) : Asc l := by
  intro p q x y hpq hx hy;obtain ⟨k, rfl⟩ : ∃ k, q = p + 1 + k := ⟨q - (p + 1), by omega⟩
  induction k generalizing y with
  | zero =>
    have hlt : p + 1 < l.length := (List.getElem?_eq_some_iff.1 hy).1;exact (h.2 (p + 1) hlt y hy).2.2 x (by omega) hx
  | succ k ih =>
    have hlt : p + 1 + (k + 1) < l.length := (List.getElem?_eq_some_iff.1 hy).1;obtain ⟨z, hz⟩ : ∃ z, l[p + 1 + k]? = some z := ⟨_, List.getElem?_eq_getElem (by omega)⟩;have h1 := ih z (by omega) hz;have h2 := (h.2 _ hlt y hy).2.2 z (by omega) (by rw [show p + 1 + (k + 1) - 1 = p + 1 + k by omega]; exact hz);omega
def Lb (l : List Fc) (id : Int) (i : Nat) : Prop := i <= l.length /\ ∀ (p : Nat) (x : Fc), l[p]? = some x -> (p < i ↔ x.id < id)
def Kdp (l : List Fc) (id : Int) (y : Nat × Bool) : Prop := Lb l id y.1 /\ (y.2 = true ↔ ∃ x, l[y.1]? = some x /\ x.id = id)
def ixF (l : List Fc) (id : Int) : Option Nat := l.findIdx? fun f => decide (f.id = id)
theorem Kdp.some {l : List Fc} {id : Int} {i : Nat} (h : Kdp l id (i, true)) (ha : Asc l) : ixF l id = some i /\ ∃ x, l[i]? = some x /\ x.id = id := by
  obtain ⟨x, hx, e⟩ := h.2.1 rfl;refine ⟨?_, x, hx, e⟩;obtain ⟨hlt, e2⟩ := List.getElem?_eq_some_iff.1 hx;unfold ixF;rw [List.findIdx?_eq_some_iff_getElem];refine ⟨hlt, by rw [e2]; exact decide_eq_true e, fun j hj hjd => ?_⟩;have h3 := of_decide_eq_true hjd;have := ha j i _ x hj (List.getElem?_eq_getElem (by omega)) hx;omega
theorem Kdp.none {l : List Fc} {id : Int} {i : Nat} (h : Kdp l id (i, false)) (ha : Asc l) : ixF l id = Option.none := by
  unfold ixF;rw [List.findIdx?_eq_none_iff];intro x hx;refine decide_eq_false fun e => ?_;obtain ⟨p, hp⟩ := List.getElem?_of_mem hx;have h1 := h.1.2 p x hp;dsimp only at h1;have hpi : i <= p := Nat.le_of_not_lt fun hh => by have := h1.1 hh; omega
  have hlt : p < l.length := (List.getElem?_eq_some_iff.1 hp).1;obtain ⟨y, hy⟩ : ∃ y, l[i]? = Option.some y := ⟨_, List.getElem?_eq_getElem (by omega)⟩;have h2 := h.1.2 i y hy;dsimp only at h2;have h3 : ¬ y.id < id := fun hh => by have := h2.2 hh; omega
  have e2 : y.id ≠ id := fun e2 => by have := h.2.2 ⟨y, hy, e2⟩; simp at this
  rcases Nat.lt_or_ge i p with hh | hh
  · have := ha i p y x hh hy hp;omega
  · obtain rfl : i = p := by omega
    rw [hp] at hy;cases hy;exact e2 e
theorem KlB (l : List Fc) (i : Nat) : (fcs l).take (i * 3) = fcs (l.take i) := by
  induction l generalizing i with
  | nil => simp [fcs]
  | cons f l ih =>
    cases i with
    | zero => rw [Nat.zero_mul]; rfl
    | succ i =>
      show (f.cells ++ fcs l).take ((i + 1) * 3) = f.cells ++ fcs (l.take i);rw [List.take_append, List.take_of_length_le (by rw [Kas]; omega), Kas, show (i + 1) * 3 - 3 = i * 3 by omega, ih]
theorem KjX (l : List Fc) (i : Nat) : (fcs l).drop (i * 3) = fcs (l.drop i) := by
  induction l generalizing i with
  | nil => simp [fcs]
  | cons f l ih =>
    cases i with
    | zero => rw [Nat.zero_mul]; rfl
    | succ i =>
      show (f.cells ++ fcs l).drop ((i + 1) * 3) = fcs (l.drop i);rw [List.drop_append, List.drop_of_length_le (by rw [Kas]; omega), Kas, show (i + 1) * 3 - 3 = i * 3 by omega, ih, List.nil_append]
theorem KkX {a b : Int} (ha : 0 <= a /\ a <= 4294967295) (hb : 0 <= b /\ b <= 4294967295) : bits .xor .u32 a (bits .xor .u32 a b) = b /\ bits .xor .u32 b (bits .xor .u32 a b) = a := by
  obtain ⟨m, rfl⟩ := Int.eq_ofNat_of_zero_le ha.1;obtain ⟨n, rfl⟩ := Int.eq_ofNat_of_zero_le hb.1;have e1 : ∀ k : Nat, k <= 4294967295 -> (BitVec.ofInt 32 (k : Int)).toNat = k := fun k hk => by rw [BitVec.toNat_ofInt]; omega
  have key : ∀ p q : Nat, p <= 4294967295 -> q <= 4294967295 -> bits .xor .u32 (p : Int) (q : Int) = ((p ^^^ q : Nat) : Int) /\ p ^^^ q <= 4294967295 := fun p q hp hq => by
    have hx : p ^^^ q < 2 ^ 32 := Nat.xor_lt_two_pow (by omega) (by omega);refine ⟨?_, by omega⟩;show IntKind.u32.wrap ((BitVec.ofInt 32 (p : Int) ^^^ BitVec.ofInt 32 (q : Int)).toNat : Int) = _;rw [BitVec.toNat_xor, e1 p hp, e1 q hq, IntKind.wrap_u32];omega
  have hm : m <= 4294967295 := by omega
  have hn : n <= 4294967295 := by omega
  obtain ⟨k1, k2⟩ := key m n hm hn;refine ⟨?_, ?_⟩
  · rw [k1, (key m _ hm k2).1, <- Nat.xor_assoc, Nat.xor_self, Nat.zero_xor]
  · rw [k1, (key n _ hn k2).1, Nat.xor_comm m n, <- Nat.xor_assoc, Nat.xor_self, Nat.zero_xor]
theorem KlH {f : Fc} (h : f.Ok) (x : Int) : 0 <= oth f x /\ oth f x <= 4294967295 := by
  unfold oth;split
  · exact ⟨h.2.2.1, h.2.2.2⟩
  · exact ⟨h.1, h.2.1⟩
section
variable {P : Program} {N : Fr} {Q : Exit -> Act -> World -> Prop} {E : Env} {w0 : Base} {L : List Pc} {ops : Array Oper} {l : List Oper} {o : Oper}
end
set_option maxRecDepth 20000
theorem Klj {w : World} {B size n : Nat} {A : Option Addr} {xs : List Value} (h : Ki w B size A n xs) (hb : ∀ ad, A = some ad -> ad.block < w.heap.size) : Ki w w.heap.size size A n xs :=
  ⟨h.1, fun hn => by obtain ⟨ad, h1, h2, h3⟩ := h.2 hn; exact ⟨ad, h1, hb ad h1, h3⟩⟩
theorem Ki6 {w0 : Base} {L : List Pc} {w : World} {A : Option Addr} {e : TypeId} {size n c k : Nat} {xs : List Value} (h : Pm w0 L w) (hk : L[k]? = some (.row (.slice A n c) e size n xs)) : ∀ ad, A = some ad -> ad.block < w.heap.size := fun ad hA => by
  subst hA;exact (Pc.lt (h.at_ hk) ad.block rfl).2
set_option maxRecDepth 20000
def Kbc (y : Ev) : Prop := KE y.c = true /\ y.res.l.length <= 3 /\ 167772161 <= y.a /\ y.b <= 167772174
def Kdb (l : List Idn) (n : Nat) : Prop := KbL l /\ ∀ d ∈ l, d.v = 0 /\ d.run = 0 /\ d.num <= n
theorem KiG (n : Nat) : Kdb [] n := ⟨.nil, fun d hd => absurd hd List.not_mem_nil⟩
theorem Kl1 {l : List Idn} {n d : Nat} (h : Kdb l n) : Kdb (l ++ [⟨0, 0, ((n + (1 + d) : Nat) : Int)⟩]) (n + (1 + d)) := by
 refine ⟨List.pairwise_append.2 ⟨h.1, List.pairwise_singleton _ _, fun x hx y hy => ?_⟩, fun y hy => ?_⟩
 ·rw [List.mem_singleton] at hy;subst hy;obtain ⟨h1, h2, h3⟩ := h.2 x hx;unfold Idn.keys;rw [h1, h2];dsimp only;rw [Kl, if_neg (by omega), if_neg (by omega), Kl, if_neg (by omega), if_neg (by omega), Kl, if_pos (by omega)];omega
 rcases List.mem_append.1 hy with hy | hy
 ·obtain ⟨h1, h2, h3⟩ := h.2 y hy;exact ⟨h1, h2, by omega⟩
 rw [List.mem_singleton] at hy;subst hy;exact ⟨rfl, rfl, Int.le_refl _⟩
theorem Kjb {k0 n : Nat} {a b : Int} {A : Option Addr} {c : Nat} {ids : List Idn} (hk : 1 <= (3 : Int) -> (k0 : Int) < 3) (ha : 167772161 <= a /\ a <= 167772174) (hb : 167772161 <= b /\ b <= 167772174) (hab : a ≠ b) (hl : 1 <= ids.length /\ ids.length <= 3) (hi : Kdb ids n) : Kbc ⟨((1 + k0 : Nat) : Int), min a b, max a b, ⟨A, c, ids⟩⟩ := by
 have hk3 := hk (by decide);refine ⟨?_, hl.2, by show 167772161 <= min a b; omega, by show max a b <= 167772174; omega⟩;unfold KE Ev.c;refine decide_eq_true ⟨by dsimp only; omega, by dsimp only; omega, by dsimp only; omega, by dsimp only; omega, fun e => ?_, hi.1⟩;dsimp only at e;rw [e] at hl;exact absurd hl.1 (by decide)
theorem KlO {P : Program} {N : Fr} {E : Env} {o : Oper} {I : World -> Prop} {x y : Operand} {ts : Array TypeId} {a b : Int} (ho : o.op = .call { callee := .builtin .min, args := #[x, y], argTypes := ts }) (hx : ev E x = some (.int .u32 a)) (hy : ev E y = some (.int .u32 b)) : Kq P N o E I (.int .u32 (min a b)) := fun ac w ha _ => by
 unfold execOp; rw [ho];simp only [resolve, invoke, builtin, Sem.run_bind, Sem.run_pure, Result.andThen_ok, List.map_toArray, List.map_cons, List.map_nil, ha.eval hx, ha.eval hy];simp [go_sem, Builtin.min_, Builtin.min2]
 try omega
theorem Kh9 {P : Program} {N : Fr} {E : Env} {o : Oper} {I : World -> Prop} {x y : Operand} {ts : Array TypeId} {a b : Int} (ho : o.op = .call { callee := .builtin .max, args := #[x, y], argTypes := ts }) (hx : ev E x = some (.int .u32 a)) (hy : ev E y = some (.int .u32 b)) : Kq P N o E I (.int .u32 (max a b)) := fun ac w ha _ => by
 unfold execOp; rw [ho];simp only [resolve, invoke, builtin, Sem.run_bind, Sem.run_pure, Result.andThen_ok, List.map_toArray, List.map_cons, List.map_nil, ha.eval hx, ha.eval hy];simp [go_sem, Builtin.max_, Builtin.max2]
 try omega
theorem KkE (a0_0 : Int) (a1_0 : Int) (a2_0 : Int) (w : World) : (Instr.build 39 #[(0, .int .i64 a0_0), (1, .int .u32 a1_0), (2, .int .u32 a2_0)]).run Tryz.prog w = .ok (.agg #[.int .i64 a0_0, .int .u32 a1_0, .int .u32 a2_0, .slice none 0 0]) w := by kernel_rfl
theorem KbE (w : World) : (sizeOf 30).run Tryz.prog w = .ok 1 w := rfl
theorem KeL (a2_0 : Int) (w : World) : (Instr.build 55 #[(2, .int .i64 a2_0)]).run Tryz.prog w = .ok (.agg #[.int .i64 0, .int .i64 0, .int .i64 a2_0]) w := by kernel_rfl
theorem KhE (a0_0 : Int) (a0_1 : Int) (a0_2 : Int) (w : World) : (Instr.buildSlice 37 1 #[(0, .agg #[.int .i64 a0_0, .int .i64 a0_1, .int .i64 a0_2])]).run Tryz.prog w = .ok (.slice (some ⟨w.heap.size, 0, none⟩) 1 1) (w.alloc (.cells [.int .i64 a0_0, .int .i64 a0_1, .int .i64 a0_2].toArray 55)) := by kernel_rfl
theorem KgG : Elem Tryz.prog 37 55 3 24 := Elem.mk' Tryz.underlying37 (z := .agg #[.int .i64 0, .int .i64 0, .int .i64 0]) (by kernel_rfl) rfl (by omega) (by omega)
theorem Kel (w : World) : (sizeOf 37).run Tryz.prog w = .ok 1 w := rfl
theorem Keu {a0 : Option Addr} {n0 c0 : Nat} : ∀ u ∈ [(.slice a0 n0 c0 : Value)], u.oneCell' = true := by
 intro u hu;rw [List.mem_singleton] at hu;subst hu; rfl
theorem Kex (cb : Nat) (w : World) (hC : Cod w cb) :
  Calls Tryz.prog 33 #[.pointer (some ⟨cb, 0, none⟩)] w fun e w' => ∃ x : {y : Ev // Kbc y}, e = .returned (.agg x.1.cells.toArray) /\ Codr (fun w => Cod w cb) cb w ([(Sg.pc 55 3 (Ka Idn.cells) x.1.res)]) w' := by
 refine Kj (I := Pm ⟨w, cb⟩ (.abs cb (fun w => Cod w cb) :: Kk cb w)) Tryz.func33 rfl rfl rfl ?_ (Pm.codes hC (Kco hC) (Kcx cb));refine zSG ?_;refine TL.al Kbk fun g2 => ?_;refine zET (zSG (TL.mv ?_));refine TL.nx 1 rfl rfl fun k0 hk01 hk02 => ?_;refine TL.v (gD ((1 + k0 : Nat) : Int)) ?_;refine TL.mv ?_;refine TL.pC (k := 1) _ _ rfl o24 rfl (fun w1 hw hC1 => KfK cb w1 hC1) ?_;rintro ⟨a0, ha01, ha02⟩;dsimp only [lC, lN];refine TL.mv ?_;refine TL.pC (k := 1) _ _ rfl o24 rfl (fun w1 hw hC1 => KfK cb w1 hC1) ?_;rintro ⟨b0, hb01, hb02⟩;dsimp only [lC, lN];refine TL.w rfl (Kaj (v := .agg #[.int .i64 ((1 + k0 : Nat) : Int), .int .u32 a0, .int .u32 b0, .slice none 0 0]) rfl rfl (fun w => KkE _ _ _ w)) ?_;refine TL.al Kbk fun g3 => ?_;refine TL.ps 0 Kr ?_;refine zET ?_;refine TC.join (α := {y : Int × Int // 167772161 <= y.1 /\ y.1 <= 167772174 /\ 167772161 <= y.2 /\ y.2 <= 167772174 /\ y.1 ≠ y.2}) (fun y => [(0, .pointer (some ⟨cb, 0, none⟩)), (2, .pointer (some ⟨g2, 0, none⟩)), (3, .pointer (some ⟨g3, 0, none⟩))]) (fun y => Pm ⟨w, cb⟩ ([.blk g3 39 [.int .i64 ((1 + k0 : Nat) : Int), .int .u32 y.1.1, .int .u32 y.1.2, .slice none 0 0], .blk g2 39 [.int .i64 0, .int .u32 0, .int .u32 0, .slice none 0 0], .abs cb (fun w => Cod w cb)] ++ Kk cb w)) ?_ ?_
 ·refine zSG (TL.v (gF KaE) ?_);refine TL.v (gL 0 Kn) ?_;refine TL.v (gF KaL) ?_;refine TL.v (gL 0 Kn) ?_;refine TL.sp Kab (fun q18 => ?_) (fun q18 => ?_)
  ·refine zET (zc (zG (TL.v (gF KaL) ?_)));refine TL.v (gL 0 Kn) ?_;refine TL.w rfl (Kd rfl rfl rfl (fun w => Kd8 (r := b0 + 1) (by simp only [IntKind.wrap_u32]; omega) w)) ?_;refine TL.v (gF KaL) ?_;refine TL.ps 0 KbE ?_;refine zE ?_;exact TX.jd (⟨(a0, b0 + 1), by dsimp only; omega⟩) (fun w1 hw => hw)
  refine zET (zd (zk ?_));exact TX.jd (⟨(a0, b0), by dsimp only; omega⟩) (fun w1 hw => hw)
 rintro ⟨⟨a1, b1⟩, ha11, ha12, hb11, hb12, hab⟩;dsimp only at ha11 ha12 hb11 hb12 hab ⊢;refine zSG (TL.v (gF KaE) ?_);refine TL.v (gL 0 Kn) ?_;refine TL.v (gF KaL) ?_;refine TL.v (gL 0 Kn) ?_;refine TL.w rfl (KlO rfl rfl rfl) ?_;refine TL.v (gF KaE) ?_;refine TL.v (gL 0 Kn) ?_;refine TL.v (gF KaL) ?_;refine TL.v (gL 0 Kn) ?_;refine TL.w rfl (Kh9 rfl rfl rfl) ?_;refine TL.v (gF KaE) ?_;refine TL.ps 0 KbE ?_;refine TL.v (gF KaL) ?_;refine TL.ps 0 KbE ?_;refine zET (zSG (TL.mv ?_));refine TL.nx 2 rfl rfl fun n0 hn01 hn02 => ?_;refine TL.as_ ?_;refine zET (zS (zSG (TL.mv ?_)));refine TL.nx 2 rfl rfl fun d0 hd01 hd02 => ?_;refine TL.as_ ?_;refine zET (zB (TC.nilrow 55 3 ?_));refine TC.lp (α := {y : Int × Nat × (Option Addr × Nat) × List Idn // (-1 <= y.1 /\ y.1 + y.2.2.2.length = d0 /\ y.2.1 <= 4 + 3 * y.2.2.2.length) /\ Kdb y.2.2.2 y.2.1 /\ y.2.2.2.length <= y.2.2.1.2 /\ y.2.2.1.2 <= maxLen}) [0, 2, 3] rfl (fun y => [(4, .int .i64 ((y.1.2.1 : Nat) : Int)), (5, .int .i64 y.1.1)]) (fun y => Pm ⟨w, cb⟩ ([.row (.slice y.1.2.2.1.1 y.1.2.2.2.length y.1.2.2.1.2) 55 3 y.1.2.2.2.length (Ka Idn.cells y.1.2.2.2), .blk g3 39 [.int .i64 ((1 + k0 : Nat) : Int), .int .u32 (min a1 b1), .int .u32 (max a1 b1), .slice y.1.2.2.1.1 y.1.2.2.2.length y.1.2.2.1.2], .blk g2 39 [.int .i64 0, .int .u32 0, .int .u32 0, .slice none 0 0], .abs cb (fun w => Cod w cb)] ++ Kk cb w)) (fun y => (y.1.1 + 1).toNat) (⟨((d0 : Int), n0, (none, 0), []), by dsimp only [List.length_nil]; omega, KiG _, Nat.le_refl _, Nat.zero_le _⟩) (fun w1 hw => hw) ?_;rintro ⟨⟨m, n1, ⟨Ai, ci⟩, ids⟩, hm, hids, hic, him⟩;dsimp only at hm hids hic him ⊢;refine zS (zSG (TL.mv ?_));refine TL.sp K3 (fun q40 => ?_) (fun q40 => ?_)
 ·refine zET (zc (zk (zT (zS (zB (zSG (TL.rn 2 rfl ?_)))))));refine TL.nx 3 rfl rfl fun d hd1 hd2 => ?_;refine TL.v (gD ((1 + d : Nat) : Int)) ?_;refine TL.v (gD ((n1 + (1 + d) : Nat) : Int)) ?_;refine TL.as_ ?_;refine zET (zG (TL.v (gF K7) ?_));refine TL.v (gL 1 Kag) ?_;refine TL.mv ?_;refine TL.w rfl (Kaj (v := .agg #[.int .i64 0, .int .i64 0, .int .i64 ((n1 + (1 + d) : Nat) : Int)]) rfl rfl (fun w => KeL _ w)) ?_;refine TL.prowS (e := 55) (size := 3) (cs := Ka Idn.cells [(⟨0, 0, ((n1 + (1 + d) : Nat) : Int)⟩ : Idn)]) rfl rfl rfl rfl rfl (fun w => KhE _ _ _ w) (by decide) rfl (fun g52 => ?_);refine TL.appendT (k := 1) rfl rfl rfl rfl Tryz.underlying37 KgG rfl rfl rfl (fun w1 hw => KG hw (k := 0) rfl) (KU Kbt _) (by show _ * 24 <= _; omega) ((ids ++ [(⟨0, 0, ((n1 + (1 + d) : Nat) : Int)⟩ : Idn)]).length) (by rw [List.length_append]; rfl) (Ka Idn.cells (ids ++ [(⟨0, 0, ((n1 + (1 + d) : Nat) : Int)⟩ : Idn)])) ((K8 _ _).symm) (fun A53 c53 hA531 hA532 => ?_);refine TL.v (gF K7) ?_;refine TL.ps 2 Kel ?_;refine zE (zN (zT (zG (TL.mv ?_))));refine TL.w rfl (Kd rfl rfl rfl (fun w => Ko (r := m - 1) (by simp only [IntKind.wrap_i64]; omega) w)) ?_;refine TL.as_ ?_;refine zE ?_;exact TX.rd (⟨(m - 1, n1 + (1 + d), (A53, c53), ids ++ [(⟨0, 0, ((n1 + (1 + d) : Nat) : Int)⟩ : Idn)]), by dsimp only; rw [List.length_append]; show _ /\ _ + ((ids.length + 1 : Nat) : Int) = _ /\ _ <= 4 + 3 * (ids.length + 1); omega, Kl1 hids, hA531, hA532⟩) (by show (m - 1 + 1).toNat < (m + 1).toNat; omega) (fun w1 hw => hw.sel (.cons _ (.cons_cons _ (.cons_cons _ (.cons_cons _ (.cons_cons _ (List.Sublist.refl _)))))))
 refine zET (zd (zx (zX (zX (zM (zT (zSG (TL.v (gV 1 (.agg #[.int .i64 ((1 + k0 : Nat) : Int), .int .u32 (min a1 b1), .int .u32 (max a1 b1), .slice Ai ids.length ci]) KP Kr) ?_))))))));refine TL.ps 2 Kr ?_;refine zET (zr ?_);exact Kgp (k := 2) Tryz.results33 rfl rfl Tryz.underlying39 rfl rfl (fun w1 hw => ⟨⟨⟨((1 + k0 : Nat) : Int), min a1 b1, max a1 b1, ⟨Ai, ci, ids⟩⟩, Kjb hk02 (by omega) (by omega) hab (by omega) hids⟩, rfl, Pm.codr [Sg.pc 55 3 (Ka Idn.cells) (⟨Ai, ci, ids⟩ : Sg Idn)] (hw.sel (.cons_cons _ (.cons _ (.cons _ (.cons_cons _ (List.Sublist.refl _)))))) rfl⟩)
set_option maxRecDepth 20000
def KaA (es : List Ev) (ss : List (Sg Idn)) : Prop := ∀ e ∈ es, Kbc e /\ e.res ∈ ss
theorem Kh8 : KaA [] [] := fun e he => absurd he List.not_mem_nil
theorem Kmx {es : List Ev} {ss : List (Sg Idn)} {x : Ev} (h : KaA es ss) (hx : Kbc x) : KaA (es ++ [x]) (x.res :: ss) := fun e he => by
 rcases List.mem_append.1 he with h1 | h1
 ·exact ⟨(h e h1).1, List.mem_cons_of_mem _ (h e h1).2⟩
 rw [List.mem_singleton] at h1;subst h1;exact ⟨hx, List.mem_cons_self⟩
theorem Pm.segIn2 {α : Type} {e : TypeId} {size : Nat} {enc : List α -> List Value} {w0 : Base} {w : World} {s : Sg α} {P O : List Pc} {ss : List (Sg α)} (h : Pm w0 ([s.pc e size enc] ++ (P ++ (Kb e size enc ss ++ O))) w) : Pm w0 (P ++ (Kb e size enc (s :: ss) ++ O)) w :=
 h.permute (List.perm_middle (a := s.pc e size enc) (l₁ := P) (l₂ := Kb e size enc ss ++ O)).symm
theorem Pm.codrS {α : Type} {e : TypeId} {size : Nat} {enc : List α -> List Value} {w w1 : World} {cb : Nat} {p : World -> Prop} {A : Pc} {ss : List (Sg α)} (h : Pm ⟨w, cb⟩ ([.abs cb p, A] ++ (Kb e size enc ss ++ Kk cb w)) w1) (hA : noAbs [A] = true := by rfl) : Codr p cb w (A :: Kb e size enc ss) w1 := by
 refine Pm.codr (A :: Kb e size enc ss) (h.permute ?_) ?_
 ·show List.Perm (.abs cb p :: A :: (Kb e size enc ss ++ Kk cb w)) (A :: Kb e size enc ss ++ .abs cb p :: Kk cb w);exact (List.perm_middle (a := Pc.abs cb p) (l₁ := A :: Kb e size enc ss) (l₂ := Kk cb w)).symm
 have := KcH (e := e) (size := size) (enc := enc) ss;unfold noAbs at hA this ⊢;rw [List.all_cons] at hA ⊢;rw [this]
 simpa using hA
def KeB (z : Exl) : Prop := z.a < z.b /\ 167772161 <= z.a /\ z.b <= 167772174
theorem Kmp {x : Ev} (h : Kbc x) {n1 n2 : Int} : KeB ⟨x.a, x.b, 0, 0, n1, 0, 0, n2⟩ := by
 have h2 := of_decide_eq_true h.1;exact ⟨h2.2.2.2.1, h.2.2⟩
theorem KbP (a0_0 : Int) (a0_1 : Int) (a0_2 : Int) (a0_3 : Option Addr) (a0_3n a0_3c : Nat) (w : World) : (Instr.buildSlice 23 1 #[(0, .agg #[.int .i64 a0_0, .int .u32 a0_1, .int .u32 a0_2, .slice a0_3 a0_3n a0_3c])]).run Tryz.prog w = .ok (.slice (some ⟨w.heap.size, 0, none⟩) 1 1) (w.alloc (.cells [.int .i64 a0_0, .int .u32 a0_1, .int .u32 a0_2, .slice a0_3 a0_3n a0_3c].toArray 39)) := by kernel_rfl
theorem Kav : Elem Tryz.prog 23 39 4 40 := Elem.mk' Tryz.underlying23 (z := .agg #[.int .i64 0, .int .u32 0, .int .u32 0, .slice none 0 0]) (by kernel_rfl) rfl (by omega) (by omega)
theorem KhK (a0_0 : Int) (a1_0 : Int) (a2_0 : Int) (a2_1 : Int) (a2_2 : Int) (a3_0 : Int) (a3_1 : Int) (a3_2 : Int) (w : World) : (Instr.build 57 #[(0, .int .u32 a0_0), (1, .int .u32 a1_0), (2, .agg #[.int .i64 a2_0, .int .i64 a2_1, .int .i64 a2_2]), (3, .agg #[.int .i64 a3_0, .int .i64 a3_1, .int .i64 a3_2])]).run Tryz.prog w = .ok (.agg #[.int .u32 a0_0, .int .u32 a1_0, .int .i64 a2_0, .int .i64 a2_1, .int .i64 a2_2, .int .i64 a3_0, .int .i64 a3_1, .int .i64 a3_2]) w := by kernel_rfl
theorem KhG (a0_0 : Int) (a0_1 : Int) (a0_2 : Int) (a0_3 : Int) (a0_4 : Int) (a0_5 : Int) (a0_6 : Int) (a0_7 : Int) (w : World) : (Instr.buildSlice 24 1 #[(0, .agg #[.int .u32 a0_0, .int .u32 a0_1, .int .i64 a0_2, .int .i64 a0_3, .int .i64 a0_4, .int .i64 a0_5, .int .i64 a0_6, .int .i64 a0_7])]).run Tryz.prog w = .ok (.slice (some ⟨w.heap.size, 0, none⟩) 1 1) (w.alloc (.cells [.int .u32 a0_0, .int .u32 a0_1, .int .i64 a0_2, .int .i64 a0_3, .int .i64 a0_4, .int .i64 a0_5, .int .i64 a0_6, .int .i64 a0_7].toArray 57)) := by kernel_rfl
theorem KlU : Elem Tryz.prog 24 57 8 56 := Elem.mk' Tryz.underlying24 (z := .agg #[.int .u32 0, .int .u32 0, .int .i64 0, .int .i64 0, .int .i64 0, .int .i64 0, .int .i64 0, .int .i64 0]) (by kernel_rfl) rfl (by omega) (by omega)
theorem Kml (cb : Nat) (w : World) (hC : Cod w cb) (m : Nat) (hm : m <= 1000) :
  Calls Tryz.prog 12 #[.pointer (some ⟨cb, 0, none⟩), .int .i64 ((m : Nat) : Int)] w fun e w' => ∃ x : {y : (Option Addr × Nat) × List Ev × List (Sg Idn) // y.2.1.length <= m /\ KaA y.2.1 y.2.2 /\ y.2.1.length <= y.1.2 /\ y.1.2 <= maxLen}, e = .returned (.slice x.1.1.1 x.1.2.1.length x.1.1.2) /\ Codr (fun w => Cod w cb) cb w (.row (.slice x.1.1.1 x.1.2.1.length x.1.1.2) 39 4 x.1.2.1.length (Ka Ev.cells x.1.2.1) :: Kb 55 3 (Ka Idn.cells) x.1.2.2) w' := by
 refine Kj (I := Pm ⟨w, cb⟩ (.abs cb (fun w => Cod w cb) :: Kk cb w)) Tryz.func12 rfl rfl rfl ?_ (Pm.codes hC (Kco hC) (Kcx cb));refine zSG (TL.as_ ?_);refine zET (zSG (TL.as_ ?_));refine zET (zS (zSG (TL.rn 2 rfl (TL.v (gD ((m + 1 : Nat) : Int)) ?_))));refine TL.nx 0 rfl rfl fun k0 hk01 hk02 => ?_;refine TL.as_ ?_;refine zET (zB (TC.nilrow 39 4 ?_));refine TC.lp (α := {y : Nat × (Option Addr × Nat) × List Ev × List (Sg Idn) // y.1 + y.2.2.1.length <= m /\ KaA y.2.2.1 y.2.2.2 /\ y.2.2.1.length <= y.2.1.2 /\ y.2.1.2 <= maxLen}) [0] rfl (fun y => [(6, .int .i64 ((y.1.1 : Nat) : Int)), (5, .slice y.1.2.1.1 y.1.2.2.1.length y.1.2.1.2)]) (fun y => Pm ⟨w, cb⟩ ([.row (.slice y.1.2.1.1 y.1.2.2.1.length y.1.2.1.2) 39 4 y.1.2.2.1.length (Ka Ev.cells y.1.2.2.1), .abs cb (fun w => Cod w cb)] ++ (Kb 55 3 (Ka Idn.cells) y.1.2.2.2 ++ Kk cb w))) (fun y => y.1.1) (⟨(k0, (none, 0), [], []), by dsimp only [List.length_nil]; omega, Kh8, Nat.le_refl _, Nat.zero_le _⟩) (fun w1 hw => hw) ?_;rintro ⟨⟨k, ⟨Ae, ce⟩, es, ss⟩, hkl, hes, hec, hem⟩;dsimp only at hkl hes hec hem ⊢;refine zS (zSG (TL.mv ?_));refine TL.sp Kar (fun q12 => ?_) (fun q12 => ?_)
 ·refine zET (zc (zk (zT (zS (zB (zG (TL.rn 2 rfl ?_)))))));refine TL.pL (α := {y : Ev // Kbc y}) (r := fun x => .agg x.1.cells.toArray) (I' := fun x => Pm ⟨w, cb⟩ ([.row (.slice Ae es.length ce) 39 4 es.length (Ka Ev.cells es), .abs cb (fun w => Cod w cb)] ++ (Kb 55 3 (Ka Idn.cells) (x.1.res :: ss) ++ Kk cb w))) rfl o33 (fun w1 hw => (Kex cb w1 (hw.at_ (k := 1) rfl).1).mono fun e w2 ⟨x, h1, h2⟩ => ⟨x, h1, Pm.segIn2 (P := [.row (.slice Ae es.length ce) 39 4 es.length (Ka Ev.cells es), .abs cb (fun w => Cod w cb)]) (hw.cods (k := 1) rfl h2 rfl)⟩) ?_;rintro ⟨x, hx⟩;dsimp only;refine TL.prowS (e := 39) (size := 4) (cs := Ka Ev.cells [x]) rfl rfl rfl rfl rfl (fun w => KbP _ _ _ _ _ _ w) (by decide) rfl (fun g18 => ?_);refine TL.appendT (k := 1) rfl rfl rfl rfl Tryz.underlying23 Kav rfl rfl rfl (fun w1 hw => KG hw (k := 0) rfl) (KU Kz _) (by show _ * 40 <= _; omega) ((es ++ [x]).length) (by rw [List.length_append]; rfl) (Ka Ev.cells (es ++ [x])) ((K8 _ _).symm) (fun A19 c19 hA191 hA192 => ?_);refine TL.as_ ?_;refine zE (zN (zT (zG (TL.mv ?_))));refine TL.w rfl (Kd rfl rfl rfl (fun w => Ko (r := ((k - 1 : Nat) : Int)) (by simp only [IntKind.wrap_i64]; omega) w)) ?_;refine TL.as_ ?_;refine zE ?_;exact TX.rd (⟨(k - 1, (A19, c19), es ++ [x], x.res :: ss), by dsimp only; rw [List.length_append]; show _ + (es.length + 1) <= _; omega, Kmx hes hx, hA191, hA192⟩) (by show k - 1 < k; omega) (fun w1 hw => hw.sel (.cons _ (.cons_cons _ (.cons_cons _ (List.Sublist.refl _)))))
 refine zET (zd (zx (zX (zX (zM (zT (zSG (TL.rn 2 rfl (zET (zr ?_))))))))));exact Kg Tryz.results12 rfl (fun w1 hw => ⟨⟨((Ae, ce), es, ss), by dsimp only; omega, hes, hec, hem⟩, rfl, Pm.codrS (A := .row (.slice Ae es.length ce) 39 4 es.length (Ka Ev.cells es)) ((show Pm ⟨w, cb⟩ ([.abs cb (fun w => Cod w cb), .row (.slice Ae es.length ce) 39 4 es.length (Ka Ev.cells es)] ++ (Kb 55 3 (Ka Idn.cells) ss ++ Kk cb w)) w1 from hw.pickT 2 [1, 0] (by decide) (by decide) rfl rfl))⟩)
theorem Kla (cb : Nat) (w : World) (hC : Cod w cb) (m : Nat) (hm : m <= 1000) :
  Calls Tryz.prog 13 #[.pointer (some ⟨cb, 0, none⟩), .int .i64 ((m : Nat) : Int)] w fun e w' => ∃ x : {y : (Option Addr × Nat) × List Exl // y.2.length <= m /\ (∀ z ∈ y.2, KeB z) /\ y.2.length <= y.1.2 /\ y.1.2 <= maxLen}, e = .returned (.slice x.1.1.1 x.1.2.length x.1.1.2) /\ Codr (fun w => Cod w cb) cb w ([.row (.slice x.1.1.1 x.1.2.length x.1.1.2) 57 8 x.1.2.length (Ka Exl.cells x.1.2)]) w' := by
 refine Kj (I := Pm ⟨w, cb⟩ (.abs cb (fun w => Cod w cb) :: Kk cb w)) Tryz.func13 rfl rfl rfl ?_ (Pm.codes hC (Kco hC) (Kcx cb));refine zSG (TL.as_ ?_);refine zET (zSG (TL.as_ ?_));refine zET (zS (zSG (TL.rn 2 rfl (TL.v (gD ((m + 1 : Nat) : Int)) ?_))));refine TL.nx 0 rfl rfl fun k0 hk01 hk02 => ?_;refine TL.as_ ?_;refine zET (zB (TC.nilrow 57 8 ?_));refine TC.lp (α := {y : Nat × (Option Addr × Nat) × List Exl // y.1 + y.2.2.length <= m /\ (∀ z ∈ y.2.2, KeB z) /\ y.2.2.length <= y.2.1.2 /\ y.2.1.2 <= maxLen}) [0] rfl (fun y => [(6, .int .i64 ((y.1.1 : Nat) : Int)), (5, .slice y.1.2.1.1 y.1.2.2.length y.1.2.1.2)]) (fun y => Pm ⟨w, cb⟩ ([.row (.slice y.1.2.1.1 y.1.2.2.length y.1.2.1.2) 57 8 y.1.2.2.length (Ka Exl.cells y.1.2.2), .abs cb (fun w => Cod w cb)] ++ Kk cb w)) (fun y => y.1.1) (⟨(k0, (none, 0), []), by dsimp only [List.length_nil]; omega, fun z hz => absurd hz List.not_mem_nil, Nat.le_refl _, Nat.zero_le _⟩) (fun w1 hw => hw) ?_;rintro ⟨⟨k, ⟨Ax, cx⟩, xs⟩, hkl, hxs, hxc, hxm⟩;dsimp only at hkl hxs hxc hxm ⊢;refine zS (zSG (TL.mv ?_));refine TL.sp Kar (fun q13 => ?_) (fun q13 => ?_)
 ·refine zET (zc (zk (zT (zS (zB (zSG (TL.mv ?_)))))));refine TL.pC (k := 1) _ _ rfl o33 rfl (fun w1 hw hC1 => Kex cb w1 hC1) ?_;rintro ⟨x, hx⟩;dsimp only [lC, lN];refine TL.al Kbk fun g7 => ?_;refine TL.pstore (k := 0) (vs := x.cells) rfl rfl rfl rfl rfl rfl rfl Kr (Kz.one _) (by show 4 <= 4; decide) (L' := ([.blk g7 39 x.cells, .row (.slice x.res.A x.res.l.length x.res.c) 55 3 x.res.l.length (Ka Idn.cells x.res.l), .row (.slice Ax xs.length cx) 57 8 xs.length (Ka Exl.cells xs), .abs cb (fun w => Cod w cb)] ++ Kk cb w)) rfl ?_;refine zET (TC.hd 15 (Pm ⟨w, cb⟩ [.blk g7 39 x.cells]) (fun w1 hw => hw.pk [0]) fun jS => ?_);refine TH.t 0 rfl (Kc rfl rfl) jS ?_;refine TH.t 1 rfl (gF KaE) jS ?_;refine TH.t 2 rfl (gL 0 Kn) jS ?_;refine TH.t 3 rfl (gF KaL) jS ?_;refine TH.t 4 rfl (gL 0 Kn) jS ?_;refine TH.t 5 rfl (Kc rfl rfl) jS ?_;refine TH.t 8 rfl (Kc rfl rfl) jS ?_;refine TH.o 6 ?_;refine TL.nx 3 rfl rfl fun n1 hn11 hn12 => ?_;refine zE ?_;refine TX.he (fun w1 hw => hw.pk [0]) fun hS => ?_;refine TH.t 7 rfl (Kaj (v := .agg #[.int .i64 0, .int .i64 0, .int .i64 ((n1 : Nat) : Int)]) rfl rfl (fun w => KeL _ w)) hS ?_;refine TH.o 9 ?_;refine TL.nx 3 rfl rfl fun n2 hn21 hn22 => ?_;refine zE ?_;refine TX.he (fun w1 hw => hw.pk [0]) fun hS => ?_;refine TH.t 10 rfl (Kaj (v := .agg #[.int .i64 0, .int .i64 0, .int .i64 ((n2 : Nat) : Int)]) rfl rfl (fun w => KeL _ w)) hS ?_;refine TH.t 11 rfl (Kaj (v := .agg #[.int .u32 x.a, .int .u32 x.b, .int .i64 0, .int .i64 0, .int .i64 ((n1 : Nat) : Int), .int .i64 0, .int .i64 0, .int .i64 ((n2 : Nat) : Int)]) rfl rfl (fun w => KhK _ _ _ _ _ _ _ _ w)) hS ?_;refine TH.o 12 ?_;refine TL.prowS (e := 57) (size := 8) (cs := Ka Exl.cells [(⟨x.a, x.b, 0, 0, ((n1 : Nat) : Int), 0, 0, ((n2 : Nat) : Int)⟩ : Exl)]) rfl rfl rfl rfl rfl (fun w => KhG _ _ _ _ _ _ _ _ w) (by decide) rfl (fun g30 => ?_);refine zE ?_;refine TX.held (fun w1 hw => hw.pk [1]) ?_;refine TH.o 13 ?_;refine TL.appendT (k := 3) rfl rfl rfl rfl Tryz.underlying24 KlU rfl rfl rfl (fun w1 hw => KG hw (k := 0) rfl) (KU Kb3 _) (by show _ * 56 <= _; omega) ((xs ++ [(⟨x.a, x.b, 0, 0, ((n1 : Nat) : Int), 0, 0, ((n2 : Nat) : Int)⟩ : Exl)]).length) (by rw [List.length_append]; rfl) (Ka Exl.cells (xs ++ [(⟨x.a, x.b, 0, 0, ((n1 : Nat) : Int), 0, 0, ((n2 : Nat) : Int)⟩ : Exl)])) ((K8 _ _).symm) (fun A31 c31 hA311 hA312 => ?_);refine zE ?_;refine TX.he (fun w1 hw => hw.pk [1]) fun hS => ?_;refine TH.t 14 rfl (Kau rfl rfl) hS ?_;refine TH.done (by kernel_rfl) ?_;refine zN (zT (zG (TL.mv ?_)));refine TL.w rfl (Kd rfl rfl rfl (fun w => Ko (r := ((k - 1 : Nat) : Int)) (by simp only [IntKind.wrap_i64]; omega) w)) ?_;refine TL.as_ ?_;refine zE ?_;exact TX.rd (⟨(k - 1, (A31, c31), xs ++ [(⟨x.a, x.b, 0, 0, ((n1 : Nat) : Int), 0, 0, ((n2 : Nat) : Int)⟩ : Exl)]), by dsimp only; rw [List.length_append]; show _ + (xs.length + 1) <= _; omega, fun z hz => (List.mem_append.1 hz).elim (hxs z) fun h9 => by rw [List.mem_singleton] at h9; rw [h9]; exact Kmp hx, hA311, hA312⟩) (by show k - 1 < k; omega) (fun w1 hw => hw.sel (.cons _ (.cons _ (.cons _ (.cons_cons _ (.cons_cons _ (List.Sublist.refl _)))))))
 refine zET (zd (zx (zX (zX (zM (zT (zSG (TL.rn 2 rfl (zET (zr ?_))))))))));exact Kg Tryz.results13 rfl (fun w1 hw => ⟨⟨((Ax, cx), xs), by dsimp only; omega, hxs, hxc, hxm⟩, rfl, Pm.codr [.row (.slice Ax xs.length cx) 57 8 xs.length (Ka Exl.cells xs)] (hw) rfl⟩)
set_option maxRecDepth 20000
theorem Kb1 {w0 : Base} {L : List Pc} {w : World} {A : Option Addr} {e : TypeId} {size n c : Nat} {ys : List Value} (h : Pm w0 L w) (hm : Pc.row (.slice A n c) e size n ys ∈ L) : Ki w w.heap.size size A n ys := by
 obtain ⟨k, hk⟩ := List.getElem?_of_mem hm;exact Kp h hk
def KaU (es : List Ev) (ss : List (Sg Idn)) : Prop := ∀ e ∈ es, e.res ∈ ss /\ e.res.l.length <= 5864062014634
theorem KeM : KaU [] [] := fun e he => absurd he List.not_mem_nil
theorem Khy {es : List Ev} {ss : List (Sg Idn)} {x : Ev} {s : Sg Idn} {n : Nat} (h : KaU es ss) (hx : n <= 5864062014634) (hs : x.res = s) (hn : s.l.length = n := by rfl) : KaU (es ++ [x]) (s :: ss) := fun e he => by
 rcases List.mem_append.1 he with h1 | h1
 ·exact ⟨List.mem_cons_of_mem _ (h e h1).1, (h e h1).2⟩
 rw [List.mem_singleton] at h1;subst h1;exact ⟨by rw [hs]; exact List.mem_cons_self, by rw [hs, hn]; exact hx⟩
theorem KgB {w0 : Base} {R : Pc} {L : List Pc} {w1 w2 : World} {e : Ev} {t : TypeId} (hw : Pm w0 (R :: L) w1) (hm : Sg.pc t 3 (Ka Idn.cells) e.res ∈ L) (hl : e.res.l.length <= 5864062014634) (hg : w1.grownBy w2 R.key) : EvR w2 w2.heap.size e := by
 have hq := hw.own _ (List.mem_cons_of_mem _ hm);have hR := hw.own _ (List.mem_cons_self (a := R) (l := L));have hap := (List.pairwise_cons.1 hw.apart).1 _ hm;have h2 := Pc.same (w' := w2) hq (fun g hg' => hg.block g (Pc.lt hq g hg').2 fun he => hap g he.symm hg') (fun k hk => hg.block k (Nat.lt_of_lt_of_le hk hw.base) fun he => absurd (Pc.lt hR k he.symm).1 (by omega));exact ⟨Ki.of_own h2, hl⟩
theorem KmB {l out : List Ev} {i : Nat} {x y : Ev} (hx : l[i]? = some x) (h : KE x.c = true) (ho : ((l.take i).map Ev.c).filter KE = out.map Ev.c) (hy : y.c = x.c) : ((l.take (i + 1)).map Ev.c).filter KE = (out ++ [y]).map Ev.c := by
 rw [List.take_add_one, hx, List.map_append, List.filter_append, ho, List.map_append];simp [h, hy]
theorem KjA {l out : List Ev} {i : Nat} {x : Ev} (hx : l[i]? = some x) (h : KE x.c = false) (ho : ((l.take i).map Ev.c).filter KE = out.map Ev.c) : ((l.take (i + 1)).map Ev.c).filter KE = out.map Ev.c := by
 rw [List.take_add_one, hx, List.map_append, List.filter_append, ho];simp [h]
theorem Kj9 {l out srt : List Ev} (ho : (l.map Ev.c).filter KE = out.map Ev.c) (hs : Kba (fun x y => KaT x.c y.c) out srt) : KV (l.map Ev.c) ((KQ Ev.c srt).map Ev.c) := by
 refine ⟨Kiw (lt := fun a b => Kl (EvC.keys a) (EvC.keys b) < 0) (fun a b c => Kcp) (fun a b h => ?_) ?_, fun x => ?_⟩
 ·rcases Kej a.keys b.keys with h1 | h1 | h1
  ·exact .inr h1
  ·exact .inl (EvC.inj a b h1)
  exact absurd h1 h
 ·rw [List.pairwise_map];exact hs.2
 rw [<- List.mem_filter, ho];constructor
 ·intro h;obtain ⟨e, he, rfl⟩ := List.mem_map.1 h;exact List.mem_map_of_mem (hs.1.mem_iff.1 (KfG he))
 intro h;obtain ⟨e, he, rfl⟩ := List.mem_map.1 h;exact KkP (hs.1.mem_iff.2 he)
theorem Pm.nilO {α : Type} {e : TypeId} {size : Nat} {enc : List α -> List Value} {w0 : Base} {w : World} {P : List Pc} {ss : List (Sg α)} (h : Pm w0 (P ++ (Kb e size enc ss ++ [])) w) : Pm w0 (P ++ Kb e size enc ss) w := by
 rwa [List.append_nil] at h
theorem Kig  (w : World) : (Instr.buildSlice 37 0 #[]).run Tryz.prog w = .ok (.slice (some ⟨w.heap.size, 0, none⟩) 0 0) (w.alloc (.cells [].toArray 55)) := by kernel_rfl
theorem KkS (c0 : Nat) (w : World) :
  Calls Tryz.prog 41 #[.slice none 0 c0] w fun e w' => ∃ x : {p : Option Addr × Nat // (([] : List Idn)).length <= p.2 /\ p.2 <= maxLen}, e = .returned (.slice x.1.1 (([] : List Idn)).length x.1.2) /\ Pm w [.row (.slice x.1.1 (([] : List Idn)).length x.1.2) 55 3 (([] : List Idn)).length (Ka Idn.cells (([] : List Idn)))] w' := by
 refine Kj Tryz.func41 rfl rfl rfl ?_ (Pm.start w);refine zSG (TL.as_ ?_);refine zET (zS (zSG (TL.mv ?_)));refine TL.w rfl (KcN (v := .bool true) rfl rfl rfl (fun w => Kdl Tryz.underlying37 w)) ?_;refine zET (zc (zSG (TL.as_ ?_)));refine zET (zr (zR ?_));exact Kg Tryz.results41 rfl (fun w1 hw => ⟨⟨(none, 0), Nat.le_refl _, Nat.zero_le _⟩, rfl, (hw.pk []).nilrow _ _⟩)
theorem Kh4 (a : Addr) (c0 : Nat) (l : List Idn) (w : World) (hr : Ki w w.heap.size 3 (some a) l.length (Ka Idn.cells l)) (hl1 : l.length <= 5864062014634) :
  Calls Tryz.prog 41 #[.slice (some a) l.length c0] w fun e w' => ∃ x : {p : Option Addr × Nat // (l).length <= p.2 /\ p.2 <= maxLen}, e = .returned (.slice x.1.1 (l).length x.1.2) /\ Pm w [.row (.slice x.1.1 (l).length x.1.2) 55 3 (l).length (Ka Idn.cells (l))] w' := by
 refine Kj Tryz.func41 rfl rfl rfl ?_ (Pm.start w);refine zSG (TL.as_ ?_);refine zET (zS (zSG (TL.mv ?_)));refine TL.w rfl (KcN (v := .bool false) rfl rfl rfl (fun w => Kdl Tryz.underlying37 w)) ?_;refine zET (zd (zk (zT (zSG ?_))));refine TL.prowS (e := 55) (size := 3) (cs := Ka Idn.cells []) rfl rfl rfl rfl rfl (fun w => Kig  w) (by decide) rfl (fun g5 => ?_);refine TL.mv ?_;refine TL.appendT (k := 0) rfl rfl rfl rfl Tryz.underlying37 KgG rfl rfl rfl (fun w1 hw => ⟨_, (hr.up hw.bel)⟩) (KU Kbt _) (by show _ * 24 <= _; omega) (l.length) (by simp) (Ka Idn.cells l) (rfl) (fun A7 c7 hA71 hA72 => ?_);refine TL.as_ ?_;refine zET (zr ?_);exact Kg Tryz.results41 rfl (fun w1 hw => ⟨⟨(A7, c7), hA71, hA72⟩, rfl, hw.pick [0] (by decide) rfl⟩)
theorem KfS (A0 : Option Addr) (c0 : Nat) (l : List Idn) (w : World) (hr : Ki w w.heap.size 3 A0 l.length (Ka Idn.cells l)) (hl1 : l.length <= 5864062014634) :
  Calls Tryz.prog 41 #[.slice A0 l.length c0] w fun e w' => ∃ x : {p : Option Addr × Nat // (l).length <= p.2 /\ p.2 <= maxLen}, e = .returned (.slice x.1.1 (l).length x.1.2) /\ Pm w [.row (.slice x.1.1 (l).length x.1.2) 55 3 (l).length (Ka Idn.cells (l))] w' := by
 cases A0 with
 | some a => exact Kh4 a c0 l w hr hl1
 | none =>
  have hl : l.length = 0 := by
   rcases Nat.eq_zero_or_pos l.length with h | h
   ·exact h
   obtain ⟨ad, h1, _⟩ := hr.2 h; cases h1
  obtain rfl : l = [] := List.eq_nil_of_length_eq_zero hl;exact KkS c0 w
theorem KgF (A0 : Option Addr) (c0 : Nat) (l : List Ev) (w : World) (hr : Ki w w.heap.size 4 A0 l.length (Ka Ev.cells l)) (hl1 : l.length <= 1000000) (hev : ∀ e ∈ l, EvR w w.heap.size e) :
  Calls Tryz.prog 16 #[.slice A0 l.length c0] w fun e w' => ∃ x : {y : (Option Addr × Nat) × List Ev × List (Sg Idn) // KV (l.map Ev.c) (y.2.1.map Ev.c) /\ KaU y.2.1 y.2.2 /\ y.2.1.length <= l.length /\ y.2.1.length <= y.1.2 /\ y.1.2 <= maxLen}, e = .returned (.slice x.1.1.1 x.1.2.1.length x.1.1.2) /\ Pm w (.row (.slice x.1.1.1 x.1.2.1.length x.1.1.2) 39 4 x.1.2.1.length (Ka Ev.cells x.1.2.1) :: Kb 55 3 (Ka Idn.cells) x.1.2.2) w' := by
 refine Kj Tryz.func16 rfl rfl rfl ?_ (Pm.start w);refine zSG (TL.as_ ?_);refine zET (zSG (TL.as_ ?_));refine zET (zS (zSG (TL.mv ?_)));refine TL.v (gN Tryz.underlying23) ?_;refine TL.mv ?_;refine zET (zB (TC.nilrow 39 4 ?_));refine TC.lp (α := {y : Nat × (Option Addr × Nat) × List Ev × List (Sg Idn) // y.1 <= l.length /\ ((l.take y.1).map Ev.c).filter KE = y.2.2.1.map Ev.c /\ KaU y.2.2.1 y.2.2.2 /\ y.2.2.1.length <= y.1 /\ y.2.2.1.length <= y.2.1.2 /\ y.2.1.2 <= maxLen}) [6, 7] rfl (fun y => [(8, .int .i64 ((y.1.1 : Nat) : Int)), (3, .slice y.1.2.1.1 y.1.2.2.1.length y.1.2.1.2)]) (fun y => Pm w ([.row (.slice y.1.2.1.1 y.1.2.2.1.length y.1.2.1.2) 39 4 y.1.2.2.1.length (Ka Ev.cells y.1.2.2.1)] ++ (Kb 55 3 (Ka Idn.cells) y.1.2.2.2 ++ []))) (fun y => l.length - y.1.1) (⟨(0, (none, 0), [], []), Nat.zero_le _, rfl, KeM, Nat.le_refl _, Nat.le_refl _, Nat.zero_le _⟩) (fun w1 hw => hw) ?_;rintro ⟨⟨i, ⟨Ao, co⟩, out, ss⟩, hi, hout, hin, hol, hoc, hom⟩;dsimp only at hi hout hin hol hoc hom ⊢;refine zSG ?_;refine TL.vw rfl (Kd rfl rfl rfl (fun w => Ky w)) (fun h9 => ?_) (fun h9 => ?_)
 ·have q9 := of_decide_eq_true h9;refine zET (zS (zc (zk (zT (zS (zB (zSG ?_)))))));have hi10 : i < l.length := by omega
  obtain ⟨x10, hx10⟩ := KB hi10;obtain ⟨b10, o10, hA10, hbb10, hc10⟩ := hr.ad (by omega) (by decide);have hev10 := hev x10 (List.mem_of_getElem? hx10);refine TL.w rfl (gA (i := i) Tryz.underlying23 Kr rfl rfl rfl rfl hA10 (by omega)) ?_;refine TL.v (gR Kz KP Kr hbb10 hx10 hc10) ?_;refine TL.al Kbk fun g5 => ?_;refine TL.pstore (k := 0) (vs := x10.cells) rfl rfl rfl rfl rfl rfl rfl Kr (Kz.one _) (by show 4 <= 4; decide) (L' := ([.blk g5 39 x10.cells, .row (.slice Ao out.length co) 39 4 out.length (Ka Ev.cells out)] ++ (Kb 55 3 (Ka Idn.cells) ss ++ []))) rfl ?_;refine zET (zSG (TL.v (gV 0 (.agg (x10.cells).toArray) KP Kr) ?_));refine TL.pS rfl o40 (fun w1 hw => KhH x10 w1 (hev10.up hw.bel)) (fun h13 => ?_) (fun h13 => ?_)
  ·refine zET (zc (zSG (TL.v (gF K7) ?_)));refine TL.v (gL 0 Kag) ?_;refine TL.pM _ _ rfl o41 (fun w1 hw => KfS x10.res.A x10.res.c x10.res.l w1 (hev10.1.up hw.bel) hev10.2) ?_;rintro ⟨⟨R16, rc16⟩, hR161, hR162⟩;dsimp only [lC, lN];refine TL.v (gF K7) ?_;refine TL.ps 1 Kel ?_;refine zET (zG (TL.mv ?_));refine TL.v (gV 1 (.agg #[.int .i64 x10.kind, .int .u32 x10.a, .int .u32 x10.b, .slice R16 ((x10.res.l).length) rc16]) KP Kr) ?_;refine TL.prowS (e := 39) (size := 4) (cs := Ka Ev.cells [(⟨x10.kind, x10.a, x10.b, (⟨R16, rc16, x10.res.l⟩ : Sg Idn)⟩ : Ev)]) rfl rfl rfl rfl rfl (fun w => KbP _ _ _ _ _ _ w) (by decide) rfl (fun g20 => ?_);refine TL.appendT (k := 3) rfl rfl rfl rfl Tryz.underlying23 Kav rfl rfl rfl (fun w1 hw => KG hw (k := 0) rfl) (KU Kz _) (by show _ * 40 <= _; omega) ((out ++ [(⟨x10.kind, x10.a, x10.b, (⟨R16, rc16, x10.res.l⟩ : Sg Idn)⟩ : Ev)]).length) (by rw [List.length_append]; rfl) (Ka Ev.cells (out ++ [(⟨x10.kind, x10.a, x10.b, (⟨R16, rc16, x10.res.l⟩ : Sg Idn)⟩ : Ev)])) ((K8 _ _).symm) (fun A21 c21 hA211 hA212 => ?_);refine TL.as_ ?_;refine zE (zN (zT (zG (TL.v (gD ((i + 1 : Nat) : Int)) ?_))));refine TL.mv ?_;refine zE ?_;exact TX.rd (⟨(i + 1, (A21, c21), out ++ [(⟨x10.kind, x10.a, x10.b, (⟨R16, rc16, x10.res.l⟩ : Sg Idn)⟩ : Ev)], (⟨R16, rc16, x10.res.l⟩ : Sg Idn) :: ss), by dsimp only; omega, KmB hx10 h13 hout rfl, Khy hin hev10.2 rfl, by dsimp only; rw [List.length_append]; show out.length + 1 <= _; omega, hA211, hA212⟩) (by show l.length - (i + 1) < l.length - i; omega) (fun w1 hw => Pm.segIn2 (s := (⟨R16, rc16, x10.res.l⟩ : Sg Idn)) (P := [.row (.slice A21 ((out ++ [(⟨x10.kind, x10.a, x10.b, (⟨R16, rc16, x10.res.l⟩ : Sg Idn)⟩ : Ev)]).length) c21) 39 4 ((out ++ [(⟨x10.kind, x10.a, x10.b, (⟨R16, rc16, x10.res.l⟩ : Sg Idn)⟩ : Ev)]).length) (Ka Ev.cells (out ++ [(⟨x10.kind, x10.a, x10.b, (⟨R16, rc16, x10.res.l⟩ : Sg Idn)⟩ : Ev)]))]) (hw.sel (.cons _ (.cons_cons _ (.cons _ (.cons_cons _ (List.Sublist.refl _)))))))
  refine zET (zd (zk (zN (zT (zG (TL.v (gD ((i + 1 : Nat) : Int)) ?_))))));refine TL.mv ?_;refine zE ?_;exact TX.rd (⟨(i + 1, (Ao, co), out, ss), by dsimp only; omega, KjA hx10 h13 hout, hin, by dsimp only; omega, hoc, hom⟩) (by show l.length - (i + 1) < l.length - i; omega) (fun w1 hw => hw.sel (.cons _ (.cons_cons _ (List.Sublist.refl _))))
 have q9 := of_decide_eq_false h9;refine zET (zS (zd (zx (zX (zX (zM (zT (zSG (TL.mv ?_)))))))));refine TL.turnRowD (k := 0) (fun ys => Kba (fun x y => KaT x.c y.c) out ys) rfl rfl rfl rfl rfl Tryz.func42 (by decide) rfl rfl (fun w1 hw hr9 => KlN hr9 rfl (by omega) (fun x hx w2 h2 => KgB (L := (Kb 55 3 (Ka Idn.cells) ss ++ [])) (hw) (List.mem_append_left _ (List.mem_map_of_mem (hin x (hx)).1)) (hin x (hx)).2 h2)) (fun srt hS => ?_)
 try dsimp only [List.set_cons_zero, List.set_cons_succ]
 refine zET (zSG (TL.mv ?_));refine TL.turnRow2 (q := 0) (ys := KQ Ev.c srt) rfl rfl rfl rfl rfl Tryz.func44 (by decide) rfl rfl (fun w1 hw hr9 => Kk2 hr9 hS.1.length_eq (by omega) (fun x hx w2 h2 => KgB (L := (Kb 55 3 (Ka Idn.cells) ss ++ [])) (hw) (List.mem_append_left _ (List.mem_map_of_mem (hin x (hS.1.mem_iff.1 hx)).1)) (hin x (hS.1.mem_iff.1 hx)).2 h2)) ?_
 try dsimp only [List.set_cons_zero, List.set_cons_succ]
 refine TL.as_ ?_;refine zET (zr ?_);have hle : (KQ Ev.c srt).length <= out.length := Nat.le_trans (Kki _) (Nat.le_of_eq hS.1.length_eq);exact Kg Tryz.results16 rfl (fun w1 hw => ⟨⟨((Ao, co), KQ Ev.c srt, ss), Kj9 (by rw [List.take_of_length_le (by omega)] at hout; exact hout) hS, fun x hx => hin x (hS.1.mem_iff.1 (KfG hx)), by dsimp only; omega, by dsimp only; omega, hom⟩, rfl, Pm.nilO (P := [.row (.slice Ao ((KQ Ev.c srt).length) co) 39 4 ((KQ Ev.c srt).length) (Ka Ev.cells (KQ Ev.c srt))]) (hw)⟩)
set_option maxRecDepth 20000
theorem Kg1 {α : Type} {p : α -> Bool} {l : List α} {i : Nat} {x : α} (h : (l.take i).any p = false) (hx : l[i]? = some x) (hp : p x = false) : (l.take (i + 1)).any p = false := by
 rw [List.take_add_one, hx, List.any_append, h];simp [hp]
theorem Kf7 {α : Type} {p : α -> Bool} {l : List α} (h : l.any p = false) : decide (0 <= (-1 : Int)) = l.any p := by rw [h]; rfl
theorem KgL {α : Type} {p : α -> Bool} {l : List α} {i : Nat} {x : α} (hx : l[i]? = some x) (hp : p x = true) : decide (0 <= (i : Int)) = l.any p := by
 rw [decide_eq_true (Int.natCast_nonneg i)];exact (List.any_eq_true.2 ⟨x, List.mem_of_getElem? hx, hp⟩).symm
def Kd5 (l : List Ev) (xs : List Exl) (z : Int) : Prop :=
 (z = 1 /\ (l.any (fun e : Ev => !KE e.c) = true \/ xs.any (fun y : Exl => decide (y.b <= y.a)) = true)) \/
 (l.any (fun e : Ev => !KE e.c) = false /\ xs.any (fun y : Exl => decide (y.b <= y.a)) = false /\ ∃ o, KV (l.map Ev.c) o /\ z = if 1024 < o.length \/ 1024 < xs.length then 5 else 0)
theorem Kah (w : World) : (sizeOf 57).run Tryz.prog w = .ok 8 w := rfl
theorem Ka9 (w : World) : (isAgg 57).run Tryz.prog w = .ok true w := rfl
theorem Kkb (x : Ev) (w : World) (hx : EvR w w.heap.size x) :
  Calls Tryz.prog 81 #[.agg x.cells.toArray] w fun e w' => e = .returned (.bool (!KE x.c)) /\ Below w.heap.size w w' := by
 refine Kj Tryz.func81 rfl rfl rfl ?_ (Pm.start w);refine zSG ?_;refine TL.bx fun g1 => ?_;refine TL.as_ ?_;refine zET (zSG (TL.v (gV 0 (.agg (x.cells).toArray) KP Kr) ?_));refine TL.pS rfl o40 (fun w1 hw => KhH x w1 (hx.up hw.bel)) (fun h4 => ?_) (fun h4 => ?_)
 ·refine TL.rn 2 rfl (zET (zr ?_));exact Kg Tryz.results81 rfl (fun w1 hw => ⟨by rw [h4]; try rfl, hw.bel⟩)
 refine TL.rn 2 rfl (zET (zr ?_));exact Kg Tryz.results81 rfl (fun w1 hw => ⟨by rw [h4]; try rfl, hw.bel⟩)
theorem KjR (x : Exl) (w : World) :
  Calls Tryz.prog 83 #[.agg x.cells.toArray] w fun e w' => e = .returned (.bool (decide (x.b <= x.a))) /\ Below w.heap.size w w' := by
 refine Kj Tryz.func83 rfl rfl rfl ?_ (Pm.start w);refine zSG ?_;refine TL.bx fun g1 => ?_;refine TL.as_ ?_;refine zET (zSG (TL.v (gF Kcq) ?_));refine TL.v (gL 0 Kn) ?_;refine TL.v (gF Kch) ?_;refine TL.v (gL 0 Kn) ?_;refine TL.sp K3 (fun q7 => ?_) (fun q7 => ?_)
 ·refine TL.as_ ?_;refine zET (zr ?_);have hE : decide (x.b <= x.a) = true := decide_eq_true (by omega);exact Kg Tryz.results83 rfl (fun w1 hw => ⟨by rw [hE], hw.bel⟩)
 refine TL.as_ ?_;refine zET (zr ?_);have hE : decide (x.b <= x.a) = false := decide_eq_false (by omega);exact Kg Tryz.results83 rfl (fun w1 hw => ⟨by rw [hE], hw.bel⟩)
theorem Kku (A0 : Option Addr) (c0 : Nat) (l : List Ev) (w : World) (hr : Ki w w.heap.size 4 A0 l.length (Ka Ev.cells l)) (hl1 : l.length <= 1000000) (hev : ∀ e ∈ l, EvR w w.heap.size e) :
  Calls Tryz.prog 113 #[.slice A0 l.length c0, .func (.func 81) #[] #[]] w fun e w' => ∃ x : {z : Int // (decide (0 <= z)) = l.any (fun e : Ev => !KE e.c)}, e = .returned (.int .i64 x.1) /\ Below w.heap.size w w' := by
 refine Kj Tryz.func113 rfl rfl rfl ?_ (Pm.start w);refine zSG (TL.as_ ?_);refine zET (zS (zSG (TL.mv ?_)));refine TL.v (gN Tryz.underlying23) ?_;refine TL.mv ?_;refine zET (zB (TC.lp (α := {i : Nat // i <= l.length /\ (l.take i).any (fun e : Ev => !KE e.c) = false}) [0, 1, 7] rfl (fun y => [(8, .int .i64 ((y.1 : Nat) : Int))]) (fun y => Pm w []) (fun y => l.length - y.1) (⟨0, Nat.zero_le _, rfl⟩) (fun w1 hw => hw) ?_));rintro ⟨i, hi, hall⟩
 try dsimp only at hi hall ⊢
 refine zSG ?_;refine TL.vw rfl (Kd rfl rfl rfl (fun w => Ky w)) (fun h9 => ?_) (fun h9 => ?_)
 ·have q9 := of_decide_eq_true h9;refine zET (zS (zc (zk (zT (zS (zB (zSG (TL.rn 2 rfl (zET (zSG (TL.rn 3 rfl ?_)))))))))));have hi14 : i < l.length := by omega
  obtain ⟨x14, hx14⟩ := KB hi14;obtain ⟨b14, o14, hA14, hbb14, hc14⟩ := hr.ad (by omega) (by decide);refine TL.w rfl (gA (i := i) Tryz.underlying23 Kr rfl rfl rfl rfl hA14 (by omega)) ?_;refine TL.v (gR Kz KP Kr hbb14 hx14 hc14) ?_;obtain ⟨bv, hbv⟩ : ∃ b, (fun e : Ev => !KE e.c) x14 = b := ⟨_, rfl⟩;refine TL.callE1 (r := .bool bv) rfl rfl rfl (KbD rfl rfl rfl Tryz.func81 (by decide) rfl rfl) (fun w1 hw => by rw [<- hbv]; exact Kkb x14 w1 ((hev x14 (List.mem_of_getElem? hx14)).up hw.bel)) ?_;refine zET ?_;refine TC.split (t := bv) rfl (fun c16 => ?_) (fun c16 => ?_)
  ·refine zSG (TL.rn 2 rfl (zET (zr (zRR (zR (zRR ?_))))));exact Kg Tryz.results113 rfl (fun w1 hw => ⟨⟨(i : Int), KgL hx14 (hbv.trans c16)⟩, rfl, hw.bel⟩)
  refine zk (zN (zT (zG ?_)));refine TL.v (gD ((i + 1 : Nat) : Int)) ?_;refine TL.mv ?_;refine zE ?_;exact TX.rd (⟨i + 1, by omega, Kg1 hall hx14 (hbv.trans c16)⟩) (by show l.length - (i + 1) < l.length - i; omega) (fun w1 hw => hw)
 have q9 := of_decide_eq_false h9;refine zET (zS (zd (zx (zX (zX (zM (zT (zSG (TL.as_ ?_)))))))));refine zET (zr ?_);exact Kg Tryz.results113 rfl (fun w1 hw => ⟨⟨-1, Kf7 (by rw [List.take_of_length_le (by omega)] at hall; exact hall)⟩, rfl, hw.bel⟩)
theorem Kms (A0 : Option Addr) (c0 : Nat) (l : List Ev) (w : World) (hr : Ki w w.heap.size 4 A0 l.length (Ka Ev.cells l)) (hl1 : l.length <= 1000000) (hev : ∀ e ∈ l, EvR w w.heap.size e) :
  Calls Tryz.prog 80 #[.slice A0 l.length c0, .func (.func 81) #[] #[]] w fun e w' => e = .returned (.bool (l.any (fun e : Ev => !KE e.c))) /\ Below w.heap.size w w' := by
 refine Kj Tryz.func80 rfl rfl rfl ?_ (Pm.start w);refine zSG (TL.as_ ?_);refine zET (zSG (TL.rn 2 rfl ?_));refine TL.pL (α := {z : Int // (decide (0 <= z)) = l.any (fun e : Ev => !KE e.c)}) (r := fun x => .int .i64 x.1) (I' := fun _ => Pm w []) rfl Klv (fun w1 hw => (Kku A0 c0 l w1 (hr.up hw.bel) hl1 (fun e he => (hev e he).up hw.bel)).mono fun e w2 ⟨x, h1, h2⟩ => ⟨x, h1, hw.below h2⟩) ?_;rintro ⟨z, hz⟩;dsimp only at hz ⊢;refine TL.sp K3 (fun q8 => ?_) (fun q8 => ?_)
 ·refine TL.as_ ?_;refine zET (zr ?_);have hE : l.any (fun e : Ev => !KE e.c) = true := hz.symm.trans (decide_eq_true (by omega));exact Kg Tryz.results80 rfl (fun w1 hw => ⟨by rw [hE], hw.bel⟩)
 refine TL.as_ ?_;refine zET (zr ?_);have hE : l.any (fun e : Ev => !KE e.c) = false := hz.symm.trans (decide_eq_false (by omega));exact Kg Tryz.results80 rfl (fun w1 hw => ⟨by rw [hE], hw.bel⟩)
theorem KkY (A0 : Option Addr) (c0 : Nat) (l : List Exl) (w : World) (hr : Ki w w.heap.size 8 A0 l.length (Ka Exl.cells l)) (hl1 : l.length <= 1000000) :
  Calls Tryz.prog 114 #[.slice A0 l.length c0, .func (.func 83) #[] #[]] w fun e w' => ∃ x : {z : Int // (decide (0 <= z)) = l.any (fun y : Exl => decide (y.b <= y.a))}, e = .returned (.int .i64 x.1) /\ Below w.heap.size w w' := by
 refine Kj Tryz.func114 rfl rfl rfl ?_ (Pm.start w);refine zSG (TL.as_ ?_);refine zET (zS (zSG (TL.mv ?_)));refine TL.v (gN Tryz.underlying24) ?_;refine TL.mv ?_;refine zET (zB (TC.lp (α := {i : Nat // i <= l.length /\ (l.take i).any (fun y : Exl => decide (y.b <= y.a)) = false}) [0, 1, 7] rfl (fun y => [(8, .int .i64 ((y.1 : Nat) : Int))]) (fun y => Pm w []) (fun y => l.length - y.1) (⟨0, Nat.zero_le _, rfl⟩) (fun w1 hw => hw) ?_));rintro ⟨i, hi, hall⟩
 try dsimp only at hi hall ⊢
 refine zSG ?_;refine TL.vw rfl (Kd rfl rfl rfl (fun w => Ky w)) (fun h9 => ?_) (fun h9 => ?_)
 ·have q9 := of_decide_eq_true h9;refine zET (zS (zc (zk (zT (zS (zB (zSG (TL.rn 2 rfl (zET (zSG (TL.rn 3 rfl ?_)))))))))));have hi14 : i < l.length := by omega
  obtain ⟨x14, hx14⟩ := KB hi14;obtain ⟨b14, o14, hA14, hbb14, hc14⟩ := hr.ad (by omega) (by decide);refine TL.w rfl (gA (i := i) Tryz.underlying24 Kah rfl rfl rfl rfl hA14 (by omega)) ?_;refine TL.v (gR Kb3 Ka9 Kah hbb14 hx14 hc14) ?_;obtain ⟨bv, hbv⟩ : ∃ b, (fun y : Exl => decide (y.b <= y.a)) x14 = b := ⟨_, rfl⟩;refine TL.callE1 (r := .bool bv) rfl rfl rfl (KbD rfl rfl rfl Tryz.func83 (by decide) rfl rfl) (fun w1 hw => by rw [<- hbv]; exact KjR x14 w1 ) ?_;refine zET ?_;refine TC.split (t := bv) rfl (fun c16 => ?_) (fun c16 => ?_)
  ·refine zSG (TL.rn 2 rfl (zET (zr (zRR (zR (zRR ?_))))));exact Kg Tryz.results114 rfl (fun w1 hw => ⟨⟨(i : Int), KgL hx14 (hbv.trans c16)⟩, rfl, hw.bel⟩)
  refine zk (zN (zT (zG ?_)));refine TL.v (gD ((i + 1 : Nat) : Int)) ?_;refine TL.mv ?_;refine zE ?_;exact TX.rd (⟨i + 1, by omega, Kg1 hall hx14 (hbv.trans c16)⟩) (by show l.length - (i + 1) < l.length - i; omega) (fun w1 hw => hw)
 have q9 := of_decide_eq_false h9;refine zET (zS (zd (zx (zX (zX (zM (zT (zSG (TL.as_ ?_)))))))));refine zET (zr ?_);exact Kg Tryz.results114 rfl (fun w1 hw => ⟨⟨-1, Kf7 (by rw [List.take_of_length_le (by omega)] at hall; exact hall)⟩, rfl, hw.bel⟩)
theorem KjU (A0 : Option Addr) (c0 : Nat) (l : List Exl) (w : World) (hr : Ki w w.heap.size 8 A0 l.length (Ka Exl.cells l)) (hl1 : l.length <= 1000000) :
  Calls Tryz.prog 82 #[.slice A0 l.length c0, .func (.func 83) #[] #[]] w fun e w' => e = .returned (.bool (l.any (fun y : Exl => decide (y.b <= y.a)))) /\ Below w.heap.size w w' := by
 refine Kj Tryz.func82 rfl rfl rfl ?_ (Pm.start w);refine zSG (TL.as_ ?_);refine zET (zSG (TL.rn 2 rfl ?_));refine TL.pL (α := {z : Int // (decide (0 <= z)) = l.any (fun y : Exl => decide (y.b <= y.a))}) (r := fun x => .int .i64 x.1) (I' := fun _ => Pm w []) rfl Klq (fun w1 hw => (KkY A0 c0 l w1 (hr.up hw.bel) hl1).mono fun e w2 ⟨x, h1, h2⟩ => ⟨x, h1, hw.below h2⟩) ?_;rintro ⟨z, hz⟩;dsimp only at hz ⊢;refine TL.sp K3 (fun q8 => ?_) (fun q8 => ?_)
 ·refine TL.as_ ?_;refine zET (zr ?_);have hE : l.any (fun y : Exl => decide (y.b <= y.a)) = true := hz.symm.trans (decide_eq_true (by omega));exact Kg Tryz.results82 rfl (fun w1 hw => ⟨by rw [hE], hw.bel⟩)
 refine TL.as_ ?_;refine zET (zr ?_);have hE : l.any (fun y : Exl => decide (y.b <= y.a)) = false := hz.symm.trans (decide_eq_false (by omega));exact Kg Tryz.results82 rfl (fun w1 hw => ⟨by rw [hE], hw.bel⟩)
theorem Kmo (A0 : Option Addr) (c0 : Nat) (l : List Ev) (A1 : Option Addr) (c1 : Nat) (xs : List Exl) (w : World) (hr : Ki w w.heap.size 4 A0 l.length (Ka Ev.cells l)) (hl1 : l.length <= 1000000) (hev : ∀ e ∈ l, EvR w w.heap.size e) (hr1 : Ki w w.heap.size 8 A1 xs.length (Ka Exl.cells xs)) (hl2 : xs.length <= 1000000) :
  Calls Tryz.prog 48 #[.slice A0 l.length c0, .slice A1 xs.length c1] w fun e w' => ∃ x : {z : Int // Kd5 l xs z}, e = .returned (.int .i64 x.1) /\ Below w.heap.size w w' := by
 refine Kj Tryz.func48 rfl rfl rfl ?_ (Pm.start w);refine zSG (TL.as_ ?_);refine zET (zS (zSG (TL.mv ?_)));refine TL.pS rfl o80 (fun w1 hw => Kms A0 c0 l w1 (hr.up hw.bel) hl1 (fun e he => (hev e he).up hw.bel)) (fun h6 => ?_) (fun h6 => ?_)
 ·refine TL.rn 4 rfl (zET (zc (zSG (TL.as_ ?_))));refine zET (zr (zR ?_));exact Kg Tryz.results48 rfl (fun w1 hw => ⟨⟨1, .inl ⟨rfl, .inl h6⟩⟩, rfl, hw.bel⟩)
 refine TL.rn 2 rfl (TL.gu ?_);refine TL.pS rfl o82 (fun w1 hw => KjU A1 c1 xs w1 (hr1.up hw.bel) hl2) (fun h9 => ?_) (fun h9 => ?_)
 ·refine TL.pk ?_;refine zET (zc (zSG (TL.as_ ?_)));refine zET (zr (zR ?_));exact Kg Tryz.results48 rfl (fun w1 hw => ⟨⟨1, .inl ⟨rfl, .inr h9⟩⟩, rfl, hw.bel⟩)
 refine TL.pk ?_;refine zET (zd (zk (zT (zS (zSG (TL.mv ?_))))));refine TL.pL (α := {y : (Option Addr × Nat) × List Ev × List (Sg Idn) // KV (l.map Ev.c) (y.2.1.map Ev.c) /\ KaU y.2.1 y.2.2 /\ y.2.1.length <= l.length /\ y.2.1.length <= y.1.2 /\ y.1.2 <= maxLen}) (r := fun x => .slice x.1.1.1 x.1.2.1.length x.1.1.2) (I' := fun _ => Pm w []) rfl o16 (fun w1 hw => (KgF A0 c0 l w1 (hr.up hw.bel) hl1 (fun e he => (hev e he).up hw.bel)).mono fun e w2 ⟨x, h1, h2⟩ => ⟨x, h1, (hw.sel (List.nil_sublist _)).below h2.bel⟩) ?_;rintro ⟨⟨⟨Ao, co⟩, o, ss⟩, ho, _, hol, _, _⟩;dsimp only at ho hol ⊢;refine TL.v (gN Tryz.underlying23) ?_;refine TL.sp Kar (fun q14 => ?_) (fun q14 => ?_)
 ·refine TL.rn 5 rfl (zET (zc (zSG (TL.as_ ?_))));refine zET (zr (zR ?_));exact Kg Tryz.results48 rfl (fun w1 hw => ⟨⟨5, .inr ⟨h6, h9, _, ho, (if_pos (by rw [List.length_map]; omega)).symm⟩⟩, rfl, hw.bel⟩)
 refine TL.rn 2 rfl (TL.ov (gN Tryz.underlying24) ?_);refine TL.gu ?_;refine TL.sp Kar (fun q18 => ?_) (fun q18 => ?_)
 ·refine TL.pk ?_;refine zET (zc (zSG (TL.as_ ?_)));refine zET (zr (zR ?_));exact Kg Tryz.results48 rfl (fun w1 hw => ⟨⟨5, .inr ⟨h6, h9, _, ho, (if_pos (by rw [List.length_map]; omega)).symm⟩⟩, rfl, hw.bel⟩)
 refine TL.pk ?_;refine zET (zd (zk (zT (zSG (TL.as_ ?_)))));refine zET (zr ?_);exact Kg Tryz.results48 rfl (fun w1 hw => ⟨⟨0, .inr ⟨h6, h9, _, ho, (if_neg (by rw [List.length_map]; omega)).symm⟩⟩, rfl, hw.bel⟩)
set_option maxRecDepth 20000
def SgR (w : World) (B : Nat) (s : Sg Int) : Prop := Ki w B 1 s.A s.l.length (Ka (ic .u32) s.l) /\ s.l.length <= 35184372087808
theorem SgR.up {w0 w : World} {s : Sg Int} (h : SgR w0 w0.heap.size s) (hb : Below w0.heap.size w0 w) : SgR w w.heap.size s := ⟨h.1.up hb, h.2⟩
structure ClsV (t : TypeId) (cs : List (Sg Int)) (a : Int) (A : Option Addr) (c : Nat) (ix : Int) (ll : List Int) (X : List Pc) : Prop where
 hix : ix = KL (cs.map (·.l)) a
 hll : ll = KK (cs.map (·.l)) a
 pc : (∃ s ∈ cs, s.l = ll /\ A = s.A /\ c = s.c /\ X = []) \/ (ll = [a] /\ X = [.row (.slice A 1 c) t 1 1 (Ka (ic .u32) [a])])
theorem ClsV.noAbs {t : TypeId} {cs : List (Sg Int)} {a : Int} {A : Option Addr} {c : Nat} {ix : Int} {ll : List Int} {X : List Pc} (h : ClsV t cs a A c ix ll X) : noAbs X = true := by
 rcases h.pc with ⟨s, _, _, _, _, rfl⟩ | ⟨_, rfl⟩ <;> rfl
theorem ClsV.rd {t : TypeId} {cs : List (Sg Int)} {a : Int} {A : Option Addr} {c : Nat} {ix : Int} {ll : List Int} {X : List Pc} {w0 : Base} {w1 : World} (h : ClsV t cs a A c ix ll X) (hcs : ∀ s ∈ cs, SgR w1 w1.heap.size s) (hX : Pm w0 X w1) : SgR w1 w1.heap.size ⟨A, c, ll⟩ := by
 rcases h.pc with ⟨s, hs, rfl, rfl, rfl, _⟩ | ⟨rfl, rfl⟩
 ·exact hcs s hs
 exact ⟨Kp hX (k := 0) rfl, by show 1 <= 35184372087808; decide⟩
theorem Kmb {cs : List (Sg Int)} {i : Nat} {s : Sg Int} {a : Int} (hx : cs[i]? = some s) (ha : a ∈ s.l) (hno : ∀ s ∈ cs.take i, a ∉ s.l) : KK (cs.map (·.l)) a = s.l /\ KL (cs.map (·.l)) a = i :=
 KbQ (by rw [List.getElem?_map, hx]; rfl) ha fun j k' hj hk' => by
  rw [List.getElem?_map] at hk'
  cases h : cs[j]? with
  | none => rw [h] at hk'; cases hk'
  | some s' =>
   rw [h] at hk'
   injection hk' with e
   rw [<- e];exact hno s' (List.mem_of_getElem? (by rw [List.getElem?_take_of_lt hj]; exact h))
theorem Kly {cs : List (Sg Int)} {a : Int} (hno : ∀ s ∈ cs, a ∉ s.l) : KK (cs.map (·.l)) a = [a] /\ KL (cs.map (·.l)) a = -1 :=
 KbF fun k hk => by
  obtain ⟨s, hs, rfl⟩ := List.mem_map.1 hk;exact hno s hs
theorem Kmc {cs : List (Sg Int)} {i : Nat} {x : Sg Int} {a : Int} (h : ∀ s ∈ cs.take i, a ∉ s.l) (hx : cs[i]? = some x) (hn : a ∉ x.l) : ∀ s ∈ cs.take (i + 1), a ∉ s.l := fun s hs => by
 rw [List.take_add_one, hx] at hs;rcases List.mem_append.1 hs with h1 | h1
 ·exact h s h1
 rw [Option.toList_some, List.mem_singleton] at h1;rw [h1]; exact hn
theorem KaD (w : World) : (sizeOf 61).run Tryz.prog w = .ok 1 w := rfl
theorem KaK (w : World) : (isAgg 61).run Tryz.prog w = .ok false w := rfl
theorem KjJ (a0_0 : Int) (w : World) : (Instr.buildSlice 61 1 #[(0, .int .u32 a0_0)]).run Tryz.prog w = .ok (.slice (some ⟨w.heap.size, 0, none⟩) 1 1) (w.alloc (.cells [.int .u32 a0_0].toArray 30)) := by kernel_rfl
theorem Kjh (A0 : Option Addr) (c0 : Nat) (xs : List Int) (a : Int) (w : World) (hr : Ki w w.heap.size 1 A0 xs.length (Ka (ic .u32) xs)) (hl1 : xs.length <= 35184372087808) :
  Calls Tryz.prog 98 #[.slice A0 xs.length c0, .int .u32 a] w fun e w' => ∃ x : {z : Int // (0 <= z ↔ a ∈ xs)}, e = .returned (.int .i64 x.1) /\ Below w.heap.size w w' := by
 refine Kj Tryz.func98 rfl rfl rfl ?_ (Pm.start w);refine zSG (TL.as_ ?_);refine zET (zS (zSG (TL.mv ?_)));refine TL.v (gN Tryz.underlying61) ?_;refine TL.mv ?_;refine zET (zB (TC.lp (α := {i : Nat // i <= xs.length /\ a ∉ xs.take i}) [0, 1, 7] rfl (fun y => [(8, .int .i64 ((y.1 : Nat) : Int))]) (fun y => Pm w []) (fun y => xs.length - y.1) (⟨0, Nat.zero_le _, List.not_mem_nil⟩) (fun w1 hw => hw) ?_));rintro ⟨i, hi, ht⟩
 try dsimp only at hi ht ⊢
 refine zSG ?_;refine TL.vw rfl (Kd rfl rfl rfl (fun w => Ky w)) (fun h9 => ?_) (fun h9 => ?_)
 ·have q9 := of_decide_eq_true h9;refine zET (zS (zc (zk (zT (zS (zB (zSG (TL.rn 2 rfl (zET (zSG (TL.rn 3 rfl ?_)))))))))));have hi14 : i < xs.length := by omega
  obtain ⟨x14, hx14⟩ := KB hi14;obtain ⟨b14, o14, hA14, hbb14, hc14⟩ := hr.ad (by omega) (by decide);refine TL.w rfl (gA (i := i) Tryz.underlying61 KbE rfl rfl rfl rfl hA14 (by omega)) ?_;refine TL.w rfl (KI (v := .int .u32 x14) rfl rfl Kn (fun w1 hw => (hw.bel.cell hbb14).trans <| Kbx (KbM .u32) hx14 hc14 0 _ rfl)) ?_;refine TL.sp Kab (fun q16 => ?_) (fun q16 => ?_)
  ·refine zET (zc (zSG (TL.rn 2 rfl (zET (zr (zRR (zR (zRR ?_))))))));exact Kg Tryz.results98 rfl (fun w1 hw => ⟨⟨(i : Int), ⟨fun _ => by rw [q16]; exact List.mem_of_getElem? hx14, fun _ => Int.natCast_nonneg _⟩⟩, rfl, hw.bel⟩)
  have ht2 : a ∉ xs.take (i + 1) := by rw [List.take_add_one, hx14]; exact fun hh => (List.mem_append.1 hh).elim ht (fun h9 => q16 (List.mem_singleton.1 h9))
  refine zET (zd (zk (zN (zT (zG (TL.v (gD ((i + 1 : Nat) : Int)) ?_))))));refine TL.mv ?_;refine zE ?_;exact TX.rd (⟨i + 1, by omega, ht2⟩) (by show xs.length - (i + 1) < xs.length - i; omega) (fun w1 hw => hw)
 have q9 := of_decide_eq_false h9;refine zET (zS (zd (zx (zX (zX (zM (zT (zSG (TL.as_ ?_)))))))));refine zET (zr ?_);exact Kg Tryz.results98 rfl (fun w1 hw => ⟨⟨-1, ⟨fun h => absurd h (by decide), fun h => absurd h (by rw [List.take_of_length_le (by omega)] at ht; exact ht)⟩⟩, rfl, hw.bel⟩)
theorem KbS (A0 : Option Addr) (c0 : Nat) (xs : List Int) (a : Int) (w : World) (hr : Ki w w.heap.size 1 A0 xs.length (Ka (ic .u32) xs)) (hl1 : xs.length <= 35184372087808) :
  Calls Tryz.prog 67 #[.slice A0 xs.length c0, .int .u32 a] w fun e w' => e = .returned (.bool (decide (a ∈ xs))) /\ Below w.heap.size w w' := by
 refine Kj Tryz.func67 rfl rfl rfl ?_ (Pm.start w);refine zSG (TL.as_ ?_);refine zET (zSG (TL.rn 2 rfl ?_));refine TL.pL (α := {z : Int // (0 <= z ↔ a ∈ xs)}) (r := fun x => .int .i64 x.1) (I' := fun _ => Pm w []) rfl o98 (fun w1 hw => (Kjh A0 c0 xs a w1 (hr.up hw.bel) hl1).mono fun e w2 ⟨x, h1, h2⟩ => ⟨x, h1, hw.below h2⟩) ?_;rintro ⟨z, hz⟩;dsimp only;refine TL.sp K3 (fun q8 => ?_) (fun q8 => ?_)
 ·refine TL.as_ ?_;refine zET (zr ?_);have hE : decide (a ∈ xs) = true := decide_eq_true (hz.1 (by omega));exact Kg Tryz.results67 rfl (fun w1 hw => ⟨by rw [hE], hw.bel⟩)
 refine TL.as_ ?_;refine zET (zr ?_);have hE : decide (a ∈ xs) = false := decide_eq_false (fun h => q8 (hz.2 h));exact Kg Tryz.results67 rfl (fun w1 hw => ⟨by rw [hE], hw.bel⟩)
theorem Kc7 (A0 : Option Addr) (c0 : Nat) (cs : List (Sg Int)) (a : Int) (w : World) (hr : Ki w w.heap.size 1 A0 cs.length (Ka sgc cs)) (hl1 : cs.length <= 35184372087808) (hcs : ∀ s ∈ cs, SgR w w.heap.size s) :
  Calls Tryz.prog 49 #[.slice A0 cs.length c0, .int .u32 a] w fun e w' => ∃ x : {y : (Option Addr × Nat) × (Int × List Int) × List Pc // ClsV 30 cs a y.1.1 y.1.2 y.2.1.1 y.2.1.2 y.2.2}, e = .returned (.tuple #[.int .i64 x.1.2.1.1, .slice x.1.1.1 x.1.2.1.2.length x.1.1.2]) /\ Pm w x.1.2.2 w' := by
 refine Kj Tryz.func49 rfl rfl rfl ?_ (Pm.start w);refine zSG (TL.rn 2 rfl (zET (zS (zSG (TL.mv ?_)))));refine TL.v (gN Tryz.underlying25) ?_;refine TL.mv ?_;refine zET (zB (TC.lp (α := {i : Nat // i <= cs.length /\ ∀ s ∈ cs.take i, a ∉ s.l}) [0, 1, 8, 9] rfl (fun y => [(10, .int .i64 ((y.1 : Nat) : Int))]) (fun y => Pm w []) (fun y => cs.length - y.1) (⟨0, Nat.zero_le _, fun s hs => absurd hs List.not_mem_nil⟩) (fun w1 hw => hw) ?_));rintro ⟨i, hi, hno⟩
 try dsimp only at hi hno ⊢
 refine zSG ?_;refine TL.sp Ky (fun q11 => ?_) (fun q11 => ?_)
 ·refine zET (zS (zc (zk (zT (zS (zB (zSG (TL.mv ?_))))))));have hi13 : i < cs.length := by omega
  obtain ⟨x13, hx13⟩ := KB hi13;obtain ⟨b13, o13, hA13, hbb13, hc13⟩ := hr.ad (by omega) (by decide);refine TL.w rfl (gA (i := i) Tryz.underlying25 KaD rfl rfl rfl rfl hA13 (by omega)) ?_;refine TL.v (gS 0 Kcd KaK hbb13 hx13 hc13) ?_;refine TL.rn 2 rfl (zET (zSG (TL.rn 2 rfl ?_)));refine TL.pS rfl o67 (fun w1 hw => KbS x13.A x13.c x13.l a w1 (((hcs x13 (List.mem_of_getElem? hx13)).1).up hw.bel) (hcs x13 (List.mem_of_getElem? hx13)).2) (fun h17 => ?_) (fun h17 => ?_)
  ·refine zET (zc (zSG (TL.rn 4 rfl (zET (zr (zRR (zR (zRR ?_))))))));have hcl := Kmb hx13 (of_decide_eq_true h17) hno;exact Kad (v1 := .int .i64 (i : Int)) (v2 := .slice x13.A x13.l.length x13.c) Tryz.results49 rfl rfl (fun w1 hw => ⟨⟨((x13.A, x13.c), ((i : Int), x13.l), []), ⟨hcl.2.symm, hcl.1.symm, .inl ⟨x13, List.mem_of_getElem? hx13, rfl, rfl, rfl, rfl⟩⟩⟩, rfl, hw⟩)
  refine zET (zd (zk (zN (zT (zG (TL.v (gD ((i + 1 : Nat) : Int)) ?_))))));refine TL.mv ?_;refine zE ?_;exact TX.rd (⟨i + 1, by omega, Kmc hno hx13 (of_decide_eq_false h17)⟩) (by show cs.length - (i + 1) < cs.length - i; omega) (fun w1 hw => hw)
 refine zET (zS (zd (zx (zX (zX (zM (zT (zSG (TL.mv ?_)))))))));refine TL.prowS (e := 30) (size := 1) (cs := Ka (ic .u32) [a]) rfl rfl rfl rfl rfl (fun w => KjJ _ w) (by decide) rfl (fun g22 => ?_);refine TL.rn 2 rfl (zET (zr ?_));have hcl := Kly (a := a) (cs := cs) (by rw [List.take_of_length_le (by omega)] at hno; exact hno);exact Kad (v1 := .int .i64 (-1)) (v2 := .slice (some ⟨g22, 0, none⟩) 1 1) Tryz.results49 rfl rfl (fun w1 hw => ⟨⟨(((some ⟨g22, 0, none⟩), 1), (-1, [a]), _), ⟨hcl.2.symm, hcl.1.symm, .inr ⟨rfl, rfl⟩⟩⟩, rfl, hw⟩)
set_option maxRecDepth 20000
def Kcv : Exl := ⟨0, 0, 0, 0, 0, 0, 0, 0⟩
def KaP (cl : List (List Int)) (xs : List Exl) (a b : Int) : Option Exl := if b ∈ KK cl a \/ a ∈ KK cl b then none else Kaw (KaS (KK cl a) (KK cl b)) xs
theorem KhD {cl : List (List Int)} {xs : List Exl} {a b : Int} (h : b ∈ KK cl a \/ a ∈ KK cl b) : KaP cl xs a b = none := if_pos h
theorem Pm.tuck {w0 : Base} {w : World} {X P O : List Pc} (h : Pm w0 (X ++ (P ++ O)) w) : Pm w0 (P ++ (X ++ O)) w := h.permute (by rw [<- List.append_assoc, <- List.append_assoc]; exact List.perm_append_comm.append_right O)
theorem Pm.inTail1 {w0 : Base} {w : World} {P X O : List Pc} (h : Pm w0 (P ++ (X ++ O)) w) : Pm w0 X w := h.sel ((List.sublist_append_left X O).trans (List.sublist_append_right P _))
theorem Pm.inTail2 {w0 : Base} {w : World} {P Y X O : List Pc} (h : Pm w0 (P ++ (Y ++ (X ++ O))) w) : Pm w0 X w := h.sel (((List.sublist_append_left X O).trans (List.sublist_append_right Y _)).trans (List.sublist_append_right P _))
def Ka1 (p : Exl -> Bool) (x : List Exl) (m : Exl) (f : Bool) : Prop := f = (Kaw p x).isSome /\ m = (Kaw p x).getD Kcv
section
variable {p : Exl -> Bool} {xs : List Exl} {i : Nat} {m y : Exl} {f : Bool}
theorem Kdq (hy : xs[i]? = some y) : Kaw p (xs.take (i + 1)) = KbH p (Kaw p (xs.take i)) y := by rw [List.take_add_one, hy]; exact Kkg p _ y
theorem KjF (h : Ka1 p (xs.take i) m f) (hy : xs[i]? = some y) (hp : p y = false) : Ka1 p (xs.take (i + 1)) m f := by
 unfold Ka1; rw [Kdq hy]; unfold KbH; rw [hp]; exact h
theorem KlQ (h : Ka1 p (xs.take i) m false) (hy : xs[i]? = some y) (hp : p y = true) : Ka1 p (xs.take (i + 1)) y true := by
 unfold Ka1 at h ⊢; rw [Kdq hy]; unfold KbH; rw [if_pos hp]
 cases h1 : Kaw p (xs.take i) with
 | none => exact ⟨rfl, rfl⟩
 | some z => rw [h1] at h; cases h.1
theorem Ki2 (h : Ka1 p (xs.take i) m true) (hy : xs[i]? = some y) (hp : p y = true) (hl : Kl y.keys m.keys < 0) : Ka1 p (xs.take (i + 1)) y true := by
 unfold Ka1 at h ⊢; rw [Kdq hy]; unfold KbH; rw [if_pos hp]
 cases h1 : Kaw p (xs.take i) with
 | none => rw [h1] at h; cases h.1
 | some z =>
  rw [h1] at h;obtain rfl : m = z := h.2;dsimp only;rw [if_pos hl]; exact ⟨rfl, rfl⟩
theorem Kkl (h : Ka1 p (xs.take i) m true) (hy : xs[i]? = some y) (hp : p y = true) (hl : ¬ Kl y.keys m.keys < 0) : Ka1 p (xs.take (i + 1)) m true := by
 unfold Ka1 at h ⊢; rw [Kdq hy]; unfold KbH; rw [if_pos hp]
 cases h1 : Kaw p (xs.take i) with
 | none => rw [h1] at h; cases h.1
 | some z =>
  rw [h1] at h;obtain rfl : m = z := h.2;dsimp only;rw [if_neg hl]; exact ⟨rfl, rfl⟩
end
theorem Klk {cl : List (List Int)} {xs : List Exl} {a b : Int} {m : Exl} {f : Bool} {ll rr : List Int} (h : Ka1 (KaS ll rr) xs m f) (h1 : b ∉ ll) (h2 : a ∉ rr) (e1 : ll = KK cl a) (e2 : rr = KK cl b) : f = (KaP cl xs a b).isSome /\ m = (KaP cl xs a b).getD Kcv := by
 subst e1 e2;unfold KaP;rw [if_neg (fun h3 => h3.elim h1 h2)];exact h
theorem KdD (w : World) : (zeroValue 57).run Tryz.prog w = .ok (.agg #[.int .u32 0, .int .u32 0, .int .i64 0, .int .i64 0, .int .i64 0, .int .i64 0, .int .i64 0, .int .i64 0]) w := rfl
theorem Kha  (w : World) : (Instr.build 57 #[]).run Tryz.prog w = .ok (.agg #[.int .u32 0, .int .u32 0, .int .i64 0, .int .i64 0, .int .i64 0, .int .i64 0, .int .i64 0, .int .i64 0]) w := by kernel_rfl
theorem Kfp {a0 : Int} {a1 : Int} {a2 : Int} {a3 : Int} {a4 : Int} {a5 : Int} {a6 : Int} {a7 : Int} : ∀ u ∈ [(.int .u32 a0 : Value), .int .u32 a1, .int .i64 a2, .int .i64 a3, .int .i64 a4, .int .i64 a5, .int .i64 a6, .int .i64 a7], u.oneCell' = true := by
 intro u hu;simp only [List.mem_cons, List.not_mem_nil, or_false] at hu;rcases hu with rfl | rfl | rfl | rfl | rfl | rfl | rfl | rfl <;> rfl
theorem KhO (A0 : Option Addr) (c0 : Nat) (cs : List (Sg Int)) (A1 : Option Addr) (c1 : Nat) (xs : List Exl) (a b : Int) (w : World) (hr : Ki w w.heap.size 1 A0 cs.length (Ka sgc cs)) (hl1 : cs.length <= 35184372087808) (hcs : ∀ s ∈ cs, SgR w w.heap.size s) (hr1 : Ki w w.heap.size 8 A1 xs.length (Ka Exl.cells xs)) (hl2 : xs.length <= 1000000) :
  Calls Tryz.prog 27 #[.slice A0 cs.length c0, .slice A1 xs.length c1, .int .u32 a, .int .u32 b] w fun e w' => e = .returned (.tuple #[.agg ((KaP (cs.map (·.l)) xs a b).getD Kcv).cells.toArray, .bool (KaP (cs.map (·.l)) xs a b).isSome]) /\ Below w.heap.size w w' := by
 refine Kj Tryz.func27 rfl rfl rfl ?_ (Pm.start w);refine zSG ?_;refine TL.al KdD fun g8 => ?_;refine TL.as_ ?_;refine zET (zSG (TL.rn 2 rfl ?_));refine TL.pL (α := {y : (Option Addr × Nat) × (Int × List Int) × List Pc // ClsV 30 cs a y.1.1 y.1.2 y.2.1.1 y.2.1.2 y.2.2}) (r := fun x => .tuple #[.int .i64 x.1.2.1.1, .slice x.1.1.1 x.1.2.1.2.length x.1.1.2]) (I' := fun x => Pm w ([.blk g8 57 [.int .u32 0, .int .u32 0, .int .i64 0, .int .i64 0, .int .i64 0, .int .i64 0, .int .i64 0, .int .i64 0]] ++ (x.1.2.2 ++ []))) rfl o49 (fun w1 hw => (Kc7 A0 c0 cs a w1 (hr.up hw.bel) hl1 (fun s hs => (hcs s hs).up hw.bel)).mono fun e w2 ⟨x, h1, h2⟩ => ⟨x, h1, Pm.tuck (P := [.blk g8 57 [.int .u32 0, .int .u32 0, .int .i64 0, .int .i64 0, .int .i64 0, .int .i64 0, .int .i64 0, .int .i64 0]]) (O := []) (hw.addAll h2 x.2.noAbs)⟩) ?_;rintro ⟨⟨⟨Al, cl⟩, ⟨ix1, ll⟩, X1⟩, hl⟩;dsimp only at hl ⊢;refine TL.rn 5 rfl (zET (zSG (TL.rn 2 rfl ?_)));refine TL.pL (α := {y : (Option Addr × Nat) × (Int × List Int) × List Pc // ClsV 30 cs b y.1.1 y.1.2 y.2.1.1 y.2.1.2 y.2.2}) (r := fun x => .tuple #[.int .i64 x.1.2.1.1, .slice x.1.1.1 x.1.2.1.2.length x.1.1.2]) (I' := fun x => Pm w ([.blk g8 57 [.int .u32 0, .int .u32 0, .int .i64 0, .int .i64 0, .int .i64 0, .int .i64 0, .int .i64 0, .int .i64 0]] ++ (x.1.2.2 ++ (X1 ++ [])))) rfl o49 (fun w1 hw => (Kc7 A0 c0 cs b w1 (hr.up hw.bel) hl1 (fun s hs => (hcs s hs).up hw.bel)).mono fun e w2 ⟨x, h1, h2⟩ => ⟨x, h1, Pm.tuck (P := [.blk g8 57 [.int .u32 0, .int .u32 0, .int .i64 0, .int .i64 0, .int .i64 0, .int .i64 0, .int .i64 0, .int .i64 0]]) (O := (X1 ++ [])) (hw.addAll h2 x.2.noAbs)⟩) ?_;rintro ⟨⟨⟨Ar, cr⟩, ⟨ix2, rr⟩, X2⟩, hr2⟩;dsimp only at hr2 ⊢;refine TL.rn 5 rfl (zET (zS (zSG (TL.rn 2 rfl ?_))));refine TL.pS rfl o67 (fun w1 hw => KbS Al cl ll b w1 (hl.rd (fun s hs => (hcs s hs).up hw.bel) (Pm.inTail2 hw)).1 (hl.rd (fun s hs => (hcs s hs).up hw.bel) (Pm.inTail2 hw)).2) (fun h32 => ?_) (fun h32 => ?_)
 ·refine TL.rn 5 rfl (zET (zc (zSG ?_)));refine TL.w rfl (Kaj (v := .agg #[.int .u32 0, .int .u32 0, .int .i64 0, .int .i64 0, .int .i64 0, .int .i64 0, .int .i64 0, .int .i64 0]) rfl rfl (fun w => Kha  w)) ?_;refine TL.pstore (k := 0) (vs := [.int .u32 0, .int .u32 0, .int .i64 0, .int .i64 0, .int .i64 0, .int .i64 0, .int .i64 0, .int .i64 0]) rfl rfl rfl rfl rfl rfl rfl Kah Kfp (by show 8 <= 8; decide) (L' := ([.blk g8 57 [.int .u32 0, .int .u32 0, .int .i64 0, .int .i64 0, .int .i64 0, .int .i64 0, .int .i64 0, .int .i64 0]] ++ (X2 ++ (X1 ++ [])))) rfl ?_;refine TL.as_ ?_;refine zET (zr (zR ?_));exact Kdh (k := 0) (v := .bool false) Tryz.results27 rfl rfl rfl Tryz.underlying57 rfl rfl (fun w1 hw => ⟨by rw [KhD (.inl (by rw [<- hl.hll]; exact of_decide_eq_true h32))]; rfl, hw.bel⟩)
 refine TL.rn 3 rfl (TL.gu ?_);refine TL.pS rfl o67 (fun w1 hw => KbS Ar cr rr a w1 (hr2.rd (fun s hs => (hcs s hs).up hw.bel) (Pm.inTail1 hw)).1 (hr2.rd (fun s hs => (hcs s hs).up hw.bel) (Pm.inTail1 hw)).2) (fun h36 => ?_) (fun h36 => ?_)
 ·refine TL.pk ?_;refine zET (zc (zSG ?_));refine TL.w rfl (Kaj (v := .agg #[.int .u32 0, .int .u32 0, .int .i64 0, .int .i64 0, .int .i64 0, .int .i64 0, .int .i64 0, .int .i64 0]) rfl rfl (fun w => Kha  w)) ?_;refine TL.pstore (k := 0) (vs := [.int .u32 0, .int .u32 0, .int .i64 0, .int .i64 0, .int .i64 0, .int .i64 0, .int .i64 0, .int .i64 0]) rfl rfl rfl rfl rfl rfl rfl Kah Kfp (by show 8 <= 8; decide) (L' := ([.blk g8 57 [.int .u32 0, .int .u32 0, .int .i64 0, .int .i64 0, .int .i64 0, .int .i64 0, .int .i64 0, .int .i64 0]] ++ (X2 ++ (X1 ++ [])))) rfl ?_;refine TL.as_ ?_;refine zET (zr (zR ?_));exact Kdh (k := 0) (v := .bool false) Tryz.results27 rfl rfl rfl Tryz.underlying57 rfl rfl (fun w1 hw => ⟨by rw [KhD (.inr (by rw [<- hr2.hll]; exact of_decide_eq_true h36))]; rfl, hw.bel⟩)
 refine TL.pk ?_;refine zET (zd (zk (zT (zSG ?_))));refine TL.al KdD fun g14 => ?_;refine zET (zSG (TL.as_ ?_));refine zET (zS (zSG (TL.mv ?_)));refine TL.v (gN Tryz.underlying24) ?_;refine TL.mv ?_;refine zET (zB (TC.lp (α := {y : Nat × Exl × Bool // y.1 <= xs.length /\ Ka1 (KaS ll rr) (xs.take y.1) y.2.1 y.2.2}) [0, 8, 11, 13, 14, 39, 40] rfl (fun y => [(41, .int .i64 ((y.1.1 : Nat) : Int)), (15, .bool y.1.2.2)]) (fun y => Pm w ([.blk g14 57 y.1.2.1.cells, .blk g8 57 [.int .u32 0, .int .u32 0, .int .i64 0, .int .i64 0, .int .i64 0, .int .i64 0, .int .i64 0, .int .i64 0]] ++ (X2 ++ (X1 ++ [])))) (fun y => xs.length - y.1.1) (⟨(0, Kcv, false), Nat.zero_le _, rfl, rfl⟩) (fun w1 hw => hw) ?_));rintro ⟨⟨i, m, f⟩, hi, hI⟩;dsimp only at hi hI ⊢;refine zSG ?_;refine TL.sp Ky (fun q42 => ?_) (fun q42 => ?_)
 ·refine zET (zS (zc (zk (zT (zS (zB (zSG ?_)))))));have hi43 : i < xs.length := by omega
  obtain ⟨x43, hx43⟩ := KB hi43;obtain ⟨b43, o43, hA43, hbb43, hc43⟩ := hr1.ad (by omega) (by decide);refine TL.w rfl (gA (i := i) Tryz.underlying24 Kah rfl rfl rfl rfl hA43 (by omega)) ?_;refine TL.v (gR Kb3 Ka9 Kah hbb43 hx43 hc43) ?_;refine TL.al KdD fun g17 => ?_;refine TL.pstore (k := 0) (vs := x43.cells) rfl rfl rfl rfl rfl rfl rfl Kah (Kb3.one _) (by show 8 <= 8; decide) (L' := ([.blk g17 57 x43.cells, .blk g14 57 m.cells, .blk g8 57 [.int .u32 0, .int .u32 0, .int .i64 0, .int .i64 0, .int .i64 0, .int .i64 0, .int .i64 0, .int .i64 0]] ++ (X2 ++ (X1 ++ [])))) rfl ?_;refine zET (zS ?_);refine TC.join (α := {b : Bool // b = !KaS ll rr x43}) (fun y => [(0, .slice A0 cs.length c0), (8, .pointer (some ⟨g8, 0, none⟩)), (11, .slice Al ll.length cl), (13, .slice Ar rr.length cr), (14, .pointer (some ⟨g14, 0, none⟩)), (39, .slice A1 xs.length c1), (40, .int .i64 ((xs.length : Nat) : Int)), (17, .pointer (some ⟨g17, 0, none⟩)), (41, .int .i64 ((i : Nat) : Int)), (15, .bool f), (74, .bool y.1)]) (fun y => Pm w ([.blk g17 57 x43.cells, .blk g14 57 m.cells, .blk g8 57 [.int .u32 0, .int .u32 0, .int .i64 0, .int .i64 0, .int .i64 0, .int .i64 0, .int .i64 0, .int .i64 0]] ++ (X2 ++ (X1 ++ [])))) ?_ ?_
  ·refine zG (TL.v (gF Kcq) ?_);refine TL.v (gL 0 Kn) ?_;refine TL.v (gF Kch) ?_;refine TL.v (gL 0 Kn) ?_;refine TL.sp K3 (fun q49 => ?_) (fun q49 => ?_)
   ·refine TL.rn 6 rfl ?_;refine TL.offU rfl rfl rfl rfl rfl ?_;refine TL.offU rfl rfl rfl rfl rfl ?_;refine TL.offU rfl rfl rfl rfl rfl ?_;refine TL.offU rfl rfl rfl rfl rfl ?_;refine TL.rn 2 rfl ?_;refine TL.offU rfl rfl rfl rfl rfl ?_;refine TL.offU rfl rfl rfl rfl rfl ?_;refine TL.offU rfl rfl rfl rfl rfl ?_;refine TL.offU rfl rfl rfl rfl rfl ?_;refine TL.offU rfl rfl rfl rfl rfl ?_;refine TL.offU rfl rfl rfl rfl rfl ?_;refine TL.offU rfl rfl rfl rfl rfl ?_;refine TL.offU rfl rfl rfl rfl rfl ?_;refine TL.offU rfl rfl rfl rfl rfl ?_;refine TL.offU rfl rfl rfl rfl rfl ?_;refine TL.rn 3 rfl (zE ?_);exact TX.jd (⟨true, by unfold KaS; rw [decide_eq_false (show ¬ x43.a < x43.b by omega)]; rfl⟩) (fun w1 hw => hw)
   refine TL.rn 2 rfl (TL.ov (gF Kcq) ?_);refine TL.ov (gL 0 Kn) ?_;refine TL.gu ?_;refine TL.pS rfl o67 (fun w1 hw => KbS Al cl ll x43.a w1 (hl.rd (fun s hs => (hcs s hs).up hw.bel) (Pm.inTail2 hw)).1 (hl.rd (fun s hs => (hcs s hs).up hw.bel) (Pm.inTail2 hw)).2) (fun h54 => ?_) (fun h54 => ?_)
   ·refine TL.rn 2 rfl (TL.ov (gF Kch) ?_);refine TL.ov (gL 0 Kn) ?_;refine TL.gu ?_;refine TL.pS rfl o67 (fun w1 hw => KbS Ar cr rr x43.b w1 (hr2.rd (fun s hs => (hcs s hs).up hw.bel) (Pm.inTail1 hw)).1 (hr2.rd (fun s hs => (hcs s hs).up hw.bel) (Pm.inTail1 hw)).2) (fun h59 => ?_) (fun h59 => ?_)
    ·refine TL.rn 7 rfl ?_;refine TL.offU rfl rfl rfl rfl rfl ?_;refine TL.offU rfl rfl rfl rfl rfl ?_;refine TL.offU rfl rfl rfl rfl rfl ?_;refine TL.offU rfl rfl rfl rfl rfl ?_;refine TL.rn 4 rfl (zE ?_);exact TX.jd (⟨false, by unfold KaS; rw [decide_eq_true (show x43.a < x43.b by omega)]; simp [h54, h59]⟩) (fun w1 hw => hw)
    refine TL.rn 3 rfl (TL.ov (gF Kch) ?_);refine TL.ov (gL 0 Kn) ?_;refine TL.gu ?_;refine TL.pS rfl o67 (fun w1 hw => KbS Al cl ll x43.b w1 (hl.rd (fun s hs => (hcs s hs).up hw.bel) (Pm.inTail2 hw)).1 (hl.rd (fun s hs => (hcs s hs).up hw.bel) (Pm.inTail2 hw)).2) (fun h65 => ?_) (fun h65 => ?_)
    ·refine TL.rn 2 rfl (TL.ov (gF Kcq) ?_);refine TL.ov (gL 0 Kn) ?_;refine TL.gu ?_;refine TL.pS rfl o67 (fun w1 hw => KbS Ar cr rr x43.a w1 (hr2.rd (fun s hs => (hcs s hs).up hw.bel) (Pm.inTail1 hw)).1 (hr2.rd (fun s hs => (hcs s hs).up hw.bel) (Pm.inTail1 hw)).2) (fun h70 => ?_) (fun h70 => ?_)
     ·refine TL.rn 4 rfl (zE ?_);exact TX.jd (⟨false, by unfold KaS; rw [decide_eq_true (show x43.a < x43.b by omega)]; simp [h54, h59, h65, h70]⟩) (fun w1 hw => hw)
     refine TL.rn 4 rfl (zE ?_);exact TX.jd (⟨true, by unfold KaS; rw [decide_eq_true (show x43.a < x43.b by omega)]; simp [h54, h59, h65, h70]⟩) (fun w1 hw => hw)
    refine TL.rn 9 rfl (zE ?_);exact TX.jd (⟨true, by unfold KaS; rw [decide_eq_true (show x43.a < x43.b by omega)]; simp [h54, h59, h65]⟩) (fun w1 hw => hw)
   refine TL.rn 8 rfl (TL.ov (gF Kch) ?_);refine TL.ov (gL 0 Kn) ?_;refine TL.gu ?_;refine TL.pS rfl o67 (fun w1 hw => KbS Al cl ll x43.b w1 (hl.rd (fun s hs => (hcs s hs).up hw.bel) (Pm.inTail2 hw)).1 (hl.rd (fun s hs => (hcs s hs).up hw.bel) (Pm.inTail2 hw)).2) (fun h65 => ?_) (fun h65 => ?_)
   ·refine TL.rn 2 rfl (TL.ov (gF Kcq) ?_);refine TL.ov (gL 0 Kn) ?_;refine TL.gu ?_;refine TL.pS rfl o67 (fun w1 hw => KbS Ar cr rr x43.a w1 (hr2.rd (fun s hs => (hcs s hs).up hw.bel) (Pm.inTail1 hw)).1 (hr2.rd (fun s hs => (hcs s hs).up hw.bel) (Pm.inTail1 hw)).2) (fun h70 => ?_) (fun h70 => ?_)
    ·refine TL.rn 4 rfl (zE ?_);exact TX.jd (⟨false, by unfold KaS; rw [decide_eq_true (show x43.a < x43.b by omega)]; simp [h54, h65, h70]⟩) (fun w1 hw => hw)
    refine TL.rn 4 rfl (zE ?_);exact TX.jd (⟨true, by unfold KaS; rw [decide_eq_true (show x43.a < x43.b by omega)]; simp [h54, h65, h70]⟩) (fun w1 hw => hw)
   refine TL.rn 9 rfl (zE ?_);exact TX.jd (⟨true, by unfold KaS; rw [decide_eq_true (show x43.a < x43.b by omega)]; simp [h54, h65]⟩) (fun w1 hw => hw)
  rintro ⟨bb, hbb⟩;dsimp only at hbb ⊢;refine TC.split (t := bb) rfl (fun c74 => ?_) (fun c74 => ?_)
  ·refine zx (zX (zM (zT (zG ?_))));refine TL.v (gD ((i + 1 : Nat) : Int)) ?_;refine TL.mv ?_;refine zE ?_;exact TX.rd (⟨(i + 1, m, f), by dsimp only; omega, KjF hI hx43 (by rw [c74] at hbb; simpa using hbb)⟩) (by show xs.length - (i + 1) < xs.length - i; omega) (fun w1 hw => hw.sel (.cons _ (.cons_cons _ (.cons_cons _ (List.Sublist.refl _)))))
  refine zk (zT (zS ?_))
  cases f with
  | true =>
   refine zG (TL.rn 3 rfl (TL.ov (gV 0 (.agg (x43.cells).toArray) Ka9 Kah) ?_));refine TL.ov (gV 1 (.agg (m.cells).toArray) Ka9 Kah) ?_;refine TL.gu ?_;refine TL.p1 rfl o68 (fun w1 hw => KhL x43 m w1) ?_;refine TL.gu ?_;refine TL.sp Ky (fun q81 => ?_) (fun q81 => ?_)
   ·refine TL.pk ?_;refine zET (zc (zG (TL.v (gV 0 (.agg (x43.cells).toArray) Ka9 Kah) ?_)));refine TL.pstore (k := 1) (vs := x43.cells) rfl rfl rfl rfl rfl rfl rfl Kah (Kb3.one _) (by show 8 <= 8; decide) (L' := ([.blk g17 57 x43.cells, .blk g14 57 x43.cells, .blk g8 57 [.int .u32 0, .int .u32 0, .int .i64 0, .int .i64 0, .int .i64 0, .int .i64 0, .int .i64 0, .int .i64 0]] ++ (X2 ++ (X1 ++ [])))) rfl ?_;refine TL.as_ ?_;refine zE (zN (zT (zG (TL.v (gD ((i + 1 : Nat) : Int)) ?_))));refine TL.mv ?_;refine zE ?_;exact TX.rd (⟨(i + 1, x43, true), by dsimp only; omega, Ki2 hI hx43 (by rw [c74] at hbb; simpa using hbb) q81⟩) (by show xs.length - (i + 1) < xs.length - i; omega) (fun w1 hw => hw.sel (.cons _ (.cons_cons _ (.cons_cons _ (List.Sublist.refl _)))))
   refine TL.pk ?_;refine zET (zd (zk (zN (zT (zG (TL.v (gD ((i + 1 : Nat) : Int)) ?_))))));refine TL.mv ?_;refine zE ?_;exact TX.rd (⟨(i + 1, m, true), by dsimp only; omega, Kkl hI hx43 (by rw [c74] at hbb; simpa using hbb) q81⟩) (by show xs.length - (i + 1) < xs.length - i; omega) (fun w1 hw => hw.sel (.cons _ (.cons_cons _ (.cons_cons _ (List.Sublist.refl _)))))
  | false =>
   refine zG (TL.rn 8 rfl (zET (zc (zG (TL.v (gV 0 (.agg (x43.cells).toArray) Ka9 Kah) ?_)))));refine TL.pstore (k := 1) (vs := x43.cells) rfl rfl rfl rfl rfl rfl rfl Kah (Kb3.one _) (by show 8 <= 8; decide) (L' := ([.blk g17 57 x43.cells, .blk g14 57 x43.cells, .blk g8 57 [.int .u32 0, .int .u32 0, .int .i64 0, .int .i64 0, .int .i64 0, .int .i64 0, .int .i64 0, .int .i64 0]] ++ (X2 ++ (X1 ++ [])))) rfl ?_;refine TL.as_ ?_;refine zE (zN (zT (zG (TL.v (gD ((i + 1 : Nat) : Int)) ?_))));refine TL.mv ?_;refine zE ?_;exact TX.rd (⟨(i + 1, x43, true), by dsimp only; omega, KlQ hI hx43 (by rw [c74] at hbb; simpa using hbb)⟩) (by show xs.length - (i + 1) < xs.length - i; omega) (fun w1 hw => hw.sel (.cons _ (.cons_cons _ (.cons_cons _ (List.Sublist.refl _)))))
 refine zET (zS (zd (zx (zX (zX (zM (zT (zSG (TL.v (gV 0 (.agg (m.cells).toArray) Ka9 Kah) ?_)))))))));refine TL.mv ?_;refine TL.pstore (k := 1) (vs := m.cells) rfl rfl rfl rfl rfl rfl rfl Kah (Kb3.one _) (by show 8 <= 8; decide) (L' := ([.blk g14 57 m.cells, .blk g8 57 m.cells] ++ (X2 ++ (X1 ++ [])))) rfl ?_;refine TL.as_ ?_;refine zET (zr ?_);have hfin := Klk (a := a) (b := b) (by rw [List.take_of_length_le (by omega)] at hI; exact hI) (of_decide_eq_false h32) (of_decide_eq_false h36) hl.hll hr2.hll;exact Kdh (k := 1) (v := .bool f) Tryz.results27 rfl rfl rfl Tryz.underlying57 rfl rfl (fun w1 hw => ⟨by rw [<- hfin.1, <- hfin.2], hw.bel⟩)
open Go.RowKit Go.Shelf Go.Sort
set_option maxRecDepth 20000
theorem Kfo {xs : List Int} {x : Int} (h : xs[0]? = some x) : KY xs = x := by
 cases xs with
 | nil => cases h
 | cons y ys => injection h
theorem KfZ (w : World) : (sizeOf 30).run Tryz.prog w = .ok 1 w := rfl
theorem KhC (w : World) : (isAgg 30).run Tryz.prog w = .ok false w := rfl
theorem Kmj (A0 A1 : Option Addr) (c0 c1 : Nat) (xs ys : List Int) (w : World) (hr0 : Ki w w.heap.size 1 A0 xs.length (Ka (ic .u32) xs)) (h0 : 0 < xs.length) (hr1 : Ki w w.heap.size 1 A1 ys.length (Ka (ic .u32) ys)) (h1 : 0 < ys.length) :
  Calls Tryz.prog 53 #[.slice A0 xs.length c0, .slice A1 ys.length c1] w fun e w' => e = .returned (.int .i64 (Km (KY xs) (KY ys))) /\ Below w.heap.size w w' := by
 refine Kj Tryz.func53 rfl rfl rfl ?_ (Pm.start w);refine zSG (TL.as_ ?_);refine zET (zS (TC.quietQ (by kernel_rfl) (by kernel_rfl) (fun w hw => hw.drawn _) ?_));refine TQ.w rfl (Kc rfl rfl) ?_;have hi6 : 0 < xs.length := by omega
 obtain ⟨x6, hx6⟩ := KB hi6;obtain ⟨b6, o6, hA6, hbb6, hc6⟩ := hr0.ad (by omega) (by decide);refine TQ.w rfl (gA (i := 0) Tryz.underlying61 KfZ rfl rfl rfl rfl hA6 (by omega)) ?_;refine TQ.w rfl (KI (v := .int .u32 x6) rfl rfl KhC (fun w1 hw => (hw.bel.cell hbb6).trans <| Kbx (KbM .u32) hx6 hc6 0 _ rfl)) ?_;refine TQ.w rfl (Kc rfl rfl) ?_;have hi9 : 0 < ys.length := by omega
 obtain ⟨x9, hx9⟩ := KB hi9;obtain ⟨b9, o9, hA9, hbb9, hc9⟩ := hr1.ad (by omega) (by decide);refine TQ.w rfl (gA (i := 0) Tryz.underlying61 KfZ rfl rfl rfl rfl hA9 (by omega)) ?_;refine TQ.w rfl (KI (v := .int .u32 x9) rfl rfl KhC (fun w1 hw => (hw.bel.cell hbb9).trans <| Kbx (KbM .u32) hx9 hc9 0 _ rfl)) ?_;refine TQ.p1 (v := .int .i64 (Km x6 x9)) rfl o54 (fun w1 hw => (Kkx (Kc1 x6 x9 w1)).mono fun en w2 ⟨h1, h2⟩ => ⟨h1, hw.below h2⟩) ?_;refine TQ.w rfl (Kau rfl rfl) ?_;refine TQ.fin ?_;refine zT (zr ?_);exact Kg Tryz.results53 rfl (fun w1 hw => ⟨by rw [Kfo hx6, Kfo hx9], hw.bel⟩)
def Kgz : Go.Shelf.Ren := ⟨fun | 6 => 52 | 14 => 86 | 15 => 76 | 20 => 124 | 21 => 125 | 22 => 126 | 23 => 127 | 24 => 128 | 25 => 129 | 26 => 130 | 27 => 131 | 28 => 110 | 29 => 111 | 46 => 141 | 47 => 134 | 48 => 135 | 49 => 142 | 50 => 143 | 57 => 146 | n => n, fun | 22 => 25 | 24 => 61 | 25 => 92 | 39 => 110 | 45 => 136 | 46 => 137 | 50 => 134 | 53 => 29 | 55 => 144 | 66 => 160 | 70 => 164 | 76 => 170 | 77 => 171 | n => n, fun n => n⟩
theorem Kj6 : SlLaysF.n6 Tryz.prog Kgz where
 mixed := by kernel_rfl
 f6 := ⟨Tryz.f52.name, by decide, Tryz.func52.trans (by kernel_rfl)⟩
 f14 := ⟨Tryz.f86.name, by decide, Tryz.func86.trans (by kernel_rfl)⟩
 f15 := Tryz.func76.trans (by kernel_rfl)
 f20 := ⟨Tryz.f124.name, by decide, Tryz.func124.trans (by kernel_rfl)⟩
 f21 := ⟨Tryz.f125.name, by decide, Tryz.func125.trans (by kernel_rfl)⟩
 f22 := ⟨Tryz.f126.name, by decide, Tryz.func126.trans (by kernel_rfl)⟩
 f23 := ⟨Tryz.f127.name, by decide, Tryz.func127.trans (by kernel_rfl)⟩
 f24 := ⟨Tryz.f128.name, by decide, Tryz.func128.trans (by kernel_rfl)⟩
 f25 := ⟨Tryz.f129.name, by decide, Tryz.func129.trans (by kernel_rfl)⟩
 f26 := ⟨Tryz.f130.name, by decide, Tryz.func130.trans (by kernel_rfl)⟩
 f27 := ⟨Tryz.f131.name, by decide, Tryz.func131.trans (by kernel_rfl)⟩
 f28 := Tryz.func110.trans (by kernel_rfl)
 f29 := Tryz.func111.trans (by kernel_rfl)
 f46 := ⟨Tryz.f141.name, by decide, Tryz.func141.trans (by kernel_rfl)⟩
 f47 := Tryz.func134.trans (by kernel_rfl)
 f48 := Tryz.func135.trans (by kernel_rfl)
 f49 := ⟨Tryz.f142.name, by decide, Tryz.func142.trans (by kernel_rfl)⟩
 f50 := ⟨Tryz.f143.name, by decide, Tryz.func143.trans (by kernel_rfl)⟩
 f57 := ⟨Tryz.f146.name, by decide, Tryz.func146.trans (by kernel_rfl)⟩
 t0 := Tryz.underlying0
 a0 := fun w => rfl
 z0 := fun w => rfl
 v0 := fun w => rfl
 t3 := Tryz.underlying3
 a3 := fun w => rfl
 z3 := fun w => rfl
 v3 := fun w => rfl
 t4 := Tryz.underlying4
 a4 := fun w => rfl
 z4 := fun w => rfl
 v4 := fun w => rfl
 t5 := Tryz.underlying5
 a5 := fun w => rfl
 z5 := fun w => rfl
 v5 := fun w => rfl
 t9 := Tryz.underlying9
 a9 := fun w => rfl
 z9 := fun w => rfl
 v9 := fun w => rfl
 t22 := Tryz.underlying25
 a22 := fun w => rfl
 z22 := fun w => rfl
 v22 := fun w => rfl
 a24 := fun w => rfl
 z24 := fun w => rfl
 t25 := Tryz.underlying92
 a25 := fun w => rfl
 z25 := fun w => rfl
 v25 := fun w => rfl
 t39 := Tryz.underlying110
 a39 := fun w => rfl
 z39 := fun w => rfl
 v39 := fun w => rfl
 t45 := Tryz.underlying136
 a45 := fun w => rfl
 z45 := fun w => rfl
 v45 := fun w => rfl
 t46 := Tryz.underlying137
 a46 := fun w => rfl
 z46 := fun w => rfl
 v46 := fun w => rfl
 t50 := Tryz.underlying134
 a50 := fun w => rfl
 z50 := fun w => rfl
 v50 := fun w => rfl
 t53 := Tryz.underlying29
 a53 := fun w => rfl
 z53 := fun w => rfl
 v53 := fun w => rfl
 t55 := Tryz.underlying144
 a55 := fun w => rfl
 z55 := fun w => rfl
 v55 := fun w => rfl
 t66 := Tryz.underlying160
 a66 := fun w => rfl
 z66 := fun w => rfl
 v66 := fun w => rfl
 t70 := Tryz.underlying164
 a70 := fun w => rfl
 z70 := fun w => rfl
 v70 := fun w => rfl
 t76 := Tryz.underlying170
 a76 := fun w => rfl
 z76 := fun w => rfl
 v76 := fun w => rfl
 t77 := Tryz.underlying171
 a77 := fun w => rfl
 z77 := fun w => rfl
 v77 := fun w => rfl
theorem KjG {α : Type} (key : α -> Int) : SWO (ltOf fun x y => Km (key x) (key y)) := by
 refine ⟨fun x => ?_, fun x y z h1 h2 => ?_, fun x y z h1 h2 => ?_⟩
 ·simp only [ltOf, decide_eq_false_iff_not, KdV]; omega
 ·simp only [ltOf, decide_eq_true_eq, KdV] at h1 h2 ⊢; omega
 simp only [ltOf, decide_eq_false_iff_not, KdV] at h1 h2 ⊢; omega
theorem Kiv {b n cap : Nat} {A : Option Addr} {l : List (Sg Int)} {w : World} (hr : w.ownsRow b 61 1 (.slice A n cap) n (l.map Sg.val)) (hl : l.length = n) (hn : n <= 100000000000) (hG : ∀ x ∈ l, 0 < x.l.length /\ ∀ w1, w.grownBy w1 (Value.ownBlock (.slice A n cap)) -> SgR w1 w1.heap.size x) :
  Calls Tryz.prog 52 #[.slice A n cap, .func (.func 53) #[] #[]] w fun en w' => en = .returned (.tuple #[]) /\ ∃ l', Kba (fun x y : Sg Int => Km (KY x.l) (KY y.l)) l l' /\ w'.ownsRow b 61 1 (.slice A n cap) n (l'.map Sg.val) /\ w.grownBy w' (Value.ownBlock (.slice A n cap)) :=
 KhX (ρ := Kgz) Kj6 (enc := Sg.val) (fun x => rfl) (fun x y : Sg Int => Km (KY x.l) (KY y.l)) (KjG fun x : Sg Int => KY x.l) 53 (enters_of Tryz.func53 (by kernel_rfl) rfl) (fun x => 0 < x.l.length /\ ∀ w1, w.grownBy w1 (Value.ownBlock (.slice A n cap)) -> SgR w1 w1.heap.size x) hG (fun x y w1 hx hy h1 => Kmj x.A y.A x.c y.c x.l y.l w1 (hx.2 w1 h1).1 hx.1 (hy.2 w1 h1).1 hy.1) hr hl (by omega)
set_option maxRecDepth 20000
theorem KhT (v : Value) (hv : v.cells = #[v]) (m : Nat) : (Builtin.zeroCells v.cells m).toList = List.replicate m v := by
 rw [hv];simp only [Builtin.zeroCells, List.size_toArray, List.length_singleton, Nat.mul_one, Array.toList_map, Array.toList_range];refine List.ext_getElem (by simp) fun i h1 h2 => ?_;simp [Nat.mod_one]
theorem Kix (q : IntKind) : ∀ k, ∀ u ∈ (Builtin.zeroCells (Value.int q 0).cells k).toList, u.oneCell' = true := by
 intro k u hu;rw [KhT _ rfl] at hu;rw [(List.mem_replicate.1 hu).2]; rfl
def Kae {α : Type} (ss : List (Sg α)) : List α := ss.flatMap (·.l)
def KaR {α : Type} (ss : List (Sg α)) : Nat := (Kae ss).length
theorem Ke7 {α : Type} {ss : List (Sg α)} {i : Nat} {x : Sg α} (hx : ss[i]? = some x) : Kae (ss.take (i + 1)) = Kae (ss.take i) ++ x.l := by
 unfold Kae; rw [List.take_add_one, hx]; simp
theorem KgO {α : Type} {ss : List (Sg α)} {i : Nat} {x : Sg α} (hx : ss[i]? = some x) : KaR (ss.take (i + 1)) = KaR (ss.take i) + x.l.length := by
 unfold KaR; rw [Ke7 hx, List.length_append]
theorem Kee {α : Type} (ss : List (Sg α)) (i : Nat) : KaR (ss.take i) <= KaR ss := by
 have h : Kae ss = Kae (ss.take i) ++ Kae (ss.drop i) := by unfold Kae; rw [<- List.flatMap_append, List.take_append_drop]
 unfold KaR; rw [h, List.length_append]; omega
theorem KfD {α : Type} (ss : List (Sg α)) (i : Nat) : (Kae (ss.take i)).length <= KaR ss := Kee ss i
theorem Ke8 : Elem Tryz.prog 61 30 1 4 := Elem.mk' Tryz.underlying61 (z := .int .u32 0) (by kernel_rfl) rfl (by omega) (by omega)
theorem Kjj (n : Nat) (w : World) (hlim : n <= 10000000) :
  Calls Tryz.prog 84 #[.slice none 0 0, .int .i64 ((n : Nat) : Int)] w fun e w' => ∃ x : {p : Option Addr × Nat // n <= p.2 /\ p.2 <= maxLen}, e = .returned (.slice x.1.1 0 x.1.2) /\ Pm w [.row (.slice x.1.1 0 x.1.2) 30 1 0 (Ka (ic .u32) [])] w' := by
 refine Kj Tryz.func84 rfl rfl rfl ?_ (Pm.start w);refine zSG (TL.as_ ?_);refine zET (zS (zSG (TL.mv ?_)));refine TL.sp Ky (fun q6 => ?_) (fun q6 => ?_)
 ·exfalso; omega
 refine zET (zd (zk (zT (zS (zSG (TL.rn 2 rfl ?_))))));refine TL.w rfl (Kf2 rfl Tryz.underlying61 rfl) ?_;refine TL.mv ?_;refine TL.v (gN Tryz.underlying61) ?_;refine TL.w rfl (Kd rfl rfl rfl (fun w => Ko (r := 0) (by decide) w)) ?_;refine TL.w rfl (Kd rfl rfl rfl (fun w => Ko (r := ((n : Nat) : Int)) (by simp only [IntKind.wrap_i64]; omega) w)) ?_;refine TL.as_ ?_;refine zET (zSG (TL.mv ?_));refine TL.sp Kar (fun q16 => ?_) (fun q16 => ?_)
 ·refine zET (zc (zG (TL.rn 2 rfl ?_)));refine TL.w rfl (Kf2 rfl Tryz.underlying61 rfl) ?_;refine TL.nilrow 30 1 ?_;refine TL.rowhead (k := 0) (hi := 0) (xs' := []) rfl rfl rfl rfl rfl rfl Tryz.underlying61 (fun w => rfl) rfl (Nat.le_refl _) (Nat.le_refl _) rfl ?_;refine TL.mv ?_;refine TL.zeros (k := 0) (m := n) rfl rfl rfl rfl Ke8 Tryz.underlying3 rfl rfl rfl (z := .int .u32 0) (by kernel_rfl) rfl (Kix .u32) (by show _ * 4 <= _; omega) n (by omega) (fun A22 c22 hA221 hA222 => ?_)
  try dsimp only [List.set_cons_zero, List.set_cons_succ]
  refine TL.mv ?_;refine TL.v (gN Tryz.underlying61) ?_;refine TL.rowhead (k := 0) (hi := 0) (xs' := []) rfl rfl rfl rfl rfl rfl Tryz.underlying61 (fun w => rfl) rfl (Nat.zero_le _) hA221 rfl ?_
  try dsimp only [List.set_cons_zero, List.set_cons_succ]
  refine TL.as_ ?_;refine zET (zSG (TL.rn 2 rfl (zET (zr ?_))));exact Kg Tryz.results84 rfl (fun w1 hw => ⟨⟨(A22, c22), hA221, hA222⟩, rfl, hw.pick [0] (by decide) rfl⟩)
 refine zET (zd (zk (zT (zSG (TL.rn 2 rfl (zET (zr ?_)))))));have hn0 : n = 0 := by omega
 subst hn0;exact Kg Tryz.results84 rfl (fun w1 hw => ⟨⟨(none, 0), Nat.le_refl _, Nat.zero_le _⟩, rfl, hw.nilrow _ _⟩)
theorem Klf (A0 : Option Addr) (c0 : Nat) (ss : List (Sg Int)) (w : World) (hr : Ki w w.heap.size 1 A0 ss.length (Ka sgc ss)) (hl : ss.length <= 100000) (hs : KaR ss <= 1000000) (hss : ∀ s ∈ ss, Ki w w.heap.size 1 s.A s.l.length (Ka (ic .u32) s.l)) :
  Calls Tryz.prog 50 #[.slice A0 ss.length c0] w fun e w' => ∃ x : {p : Option Addr × Nat // (Kae ss).length <= p.2 /\ p.2 <= maxLen}, e = .returned (.slice x.1.1 (Kae ss).length x.1.2) /\ Pm w [.row (.slice x.1.1 (Kae ss).length x.1.2) 30 1 (Kae ss).length (Ka (ic .u32) (Kae ss))] w' := by
 refine Kj Tryz.func50 rfl rfl rfl ?_ (Pm.start w);refine zSG (TL.as_ ?_);refine zET (zSG (TL.as_ ?_));refine zET (zS (zSG (TL.mv ?_)));refine TL.v (gN Tryz.underlying25) ?_;refine TL.mv ?_;refine zET (zB (TC.lp (α := {i : Nat // i <= ss.length}) [0, 9, 10] rfl (fun y => [(11, .int .i64 ((y.1 : Nat) : Int)), (3, .int .i64 ((KaR (ss.take y.1) : Nat) : Int))]) (fun y => Pm w []) (fun y => ss.length - y.1) (⟨0, Nat.zero_le _⟩) (fun w1 hw => hw) ?_));rintro ⟨i, hi⟩
 try dsimp only at hi ⊢
 have hsl0 := Kee ss i;refine zSG ?_;refine TL.sp Ky (fun q12 => ?_) (fun q12 => ?_)
 ·refine zET (zS (zc (zk (zT (zS (zB (zSG ?_)))))));have hi13 : i < ss.length := by omega
  obtain ⟨x13, hx13⟩ := KB hi13;obtain ⟨b13, o13, hA13, hbb13, hc13⟩ := hr.ad (by omega) (by decide);have hsm := KgO hx13;have hsl := Kee ss (i + 1);have hcm := Ke7 hx13;refine TL.w rfl (gA (i := i) Tryz.underlying25 KaD rfl rfl rfl rfl hA13 (by omega)) ?_;refine TL.v (gS 0 Kcd KaK hbb13 hx13 hc13) ?_;refine TL.as_ ?_;refine zET (zSG (TL.rn 2 rfl (TL.v (gN Tryz.underlying61) ?_)));refine TL.w rfl (Kd rfl rfl rfl (fun w => Kd8 (r := ((KaR (ss.take (i + 1)) : Nat) : Int)) (by rw [hsm]; simp only [IntKind.wrap_i64]; omega) w)) ?_;refine TL.as_ ?_;refine zET (zSG (TL.mv ?_));refine TL.sp Ky (fun q20 => ?_) (fun q20 => ?_)
  ·exfalso; omega
  refine zET (zd (zk (zN (zT (zG (TL.v (gD ((i + 1 : Nat) : Int)) ?_))))));refine TL.mv ?_;refine zE ?_;exact TX.rd (⟨i + 1, by omega⟩) (by show ss.length - (i + 1) < ss.length - i; omega) (fun w1 hw => hw)
 refine zET (zS (zd (zx (zX (zX (zM (zT (zSG (TL.mv ?_)))))))));refine TL.pM (α := {p : Option Addr × Nat // KaR (ss.take i) <= p.2 /\ p.2 <= maxLen}) (fun x => .slice x.1.1 0 x.1.2) (fun x => [.row (.slice x.1.1 0 x.1.2) 30 1 0 (Ka (ic .u32) ([]))]) rfl o84 (fun w1 hw => Kjj (KaR (ss.take i)) w1 (by omega)) ?_;rintro ⟨⟨Ag, cg⟩, hg1, hg2⟩;dsimp only [lC, lN];refine TL.as_ ?_;refine zET (zS (zSG (TL.mv ?_)));refine TL.v (gN Tryz.underlying25) ?_;refine TL.mv ?_;refine zET (zB (TC.lp (α := {y : Nat × (Option Addr × Nat) × List Int // y.1 <= ss.length /\ Kae (ss.take y.1) = y.2.2 /\ y.2.2.length <= y.2.1.2 /\ y.2.1.2 <= maxLen}) [25, 26] rfl (fun y => [(27, .int .i64 ((y.1.1 : Nat) : Int)), (6, .slice y.1.2.1.1 y.1.2.2.length y.1.2.1.2)]) (fun y => Pm w [.row (.slice y.1.2.1.1 y.1.2.2.length y.1.2.1.2) 30 1 y.1.2.2.length (Ka (ic .u32) y.1.2.2)]) (fun y => ss.length - y.1.1) (⟨(0, (Ag, cg), []), Nat.zero_le _, rfl, Nat.zero_le _, hg2⟩) (fun w1 hw => hw) ?_));rintro ⟨⟨i, ⟨Ao, co⟩, out⟩, hi, hot, hoc, hom⟩;dsimp only at hi hot hoc hom ⊢;subst hot;refine zSG ?_;refine TL.sp Ky (fun q28 => ?_) (fun q28 => ?_)
 ·refine zET (zS (zc (zk (zT (zS (zB (zSG ?_)))))));have hi29 : i < ss.length := by omega
  obtain ⟨x29, hx29⟩ := KB hi29;obtain ⟨b29, o29, hA29, hbb29, hc29⟩ := hr.ad (by omega) (by decide);have hsm := KgO hx29;have hsl := Kee ss (i + 1);have hcm := Ke7 hx29;refine TL.w rfl (gA (i := i) Tryz.underlying25 KaD rfl rfl rfl rfl hA29 (by omega)) ?_;refine TL.v (gS 0 Kcd KaK hbb29 hx29 hc29) ?_;refine TL.as_ ?_;refine zET (zG (TL.rn 2 rfl ?_));refine TL.appendT (k := 0) rfl rfl rfl rfl Tryz.underlying61 Ke8 rfl rfl rfl (fun w1 hw => ⟨_, ((hss x29 (List.mem_of_getElem? hx29)).up hw.bel)⟩) (KU (KbM .u32) _) (by have h8 := KfD ss i; have h9 := KfD ss (i + 1); rw [hcm, List.length_append] at h9; show _ * 4 <= _; omega) (((Kae (ss.take i)) ++ x29.l).length) (by rw [List.length_append]) (Ka (ic .u32) ((Kae (ss.take i)) ++ x29.l)) ((K8 _ _).symm) (fun A33 c33 hA331 hA332 => ?_);refine TL.as_ ?_;refine zE (zN (zT (zG (TL.v (gD ((i + 1 : Nat) : Int)) ?_))));refine TL.mv ?_;refine zE ?_;exact TX.rd (⟨(i + 1, (A33, c33), Kae (ss.take i) ++ x29.l), by dsimp only; omega, hcm, hA331, hA332⟩) (by show ss.length - (i + 1) < ss.length - i; omega) (fun w1 hw => hw)
 refine zET (zS (zd (zx (zX (zX (zM (zT (zSG (TL.rn 2 rfl (zET (zr ?_)))))))))));have e9 : ss.take i = ss := List.take_of_length_le (by omega);rw [e9] at hoc ⊢;exact Kg Tryz.results50 rfl (fun w1 hw => ⟨⟨(Ao, co), hoc, hom⟩, rfl, hw.pick [0] (by decide) rfl⟩)
section
variable {P : Program} {N : Fr} {Q : Exit -> Act -> World -> Prop} {E : Env} {w0 : Base} {L : List Pc} {ops : Array Oper} {l : List Oper} {o : Oper}
theorem TL.appendQ {d k : Nat} {s x : Operand} {t u e e' : TypeId} {size bytes n c m cc : Nat} {A0 B0 A : Option Addr} {olds news : List Value} (hg : o.guard = none) (hd : o.dst = some d) (hN : Nat.blt d N.n = true)
    (ho : o.op = .call { callee := .builtin .append, args := #[s, x], argTypes := #[t, u] }) (hu : P.underlying u = some (.slice e')) (hE : Elem P t e size bytes) (hs : ev E s = some (.slice A0 n c)) (hx : ev E x = some (.slice A m cc))
    (hk : L[k]? = some (.row (.slice B0 n c) e size n olds)) (hB : B0 = A0 \/ (n = 0 /\ c = 0)) (hA : A0 = none \/ ∃ g, A0 = some ⟨g, 0, none⟩) (hr : ∀ w, Pm w0 L w -> ∃ B, Ki w B size A m news) (h1 : ∀ u ∈ news, u.oneCell' = true) (hm : 0 < m) (hlim : (n + m) * bytes <= 140737488355328) (M : Nat) (hM : M = n + m) (res : List Value) (hres : olds ++ news = res)
    (h : ∀ A' c', M <= c' -> c' <= maxLen -> TL P N ops Q l ((d, .slice A' M c') :: E) (Pm w0 (L.set k (.row (.slice A' M c') e size M res)))) : TL P N ops Q (o :: l) E (Pm w0 L) := by
  rcases hB with rfl | ⟨rfl, rfl⟩
  · exact TL.appendT hg hd hN ho hu hE hs hx hk hr h1 hlim M hM res hres h
  · have hlt := (List.getElem?_eq_some_iff.1 hk).1
    have conv : ∀ {A' c'} {w : World}, Pm w0 (.row (.slice A' M c') e size M res :: L) w -> Pm w0 (L.set k (.row (.slice A' M c') e size M res)) w := fun hw =>
      (hw.sel (List.Sublist.cons_cons _ (List.eraseIdx_sublist L k))).permute (KgH hlt _).symm
    have ho0 : ∀ w, Pm w0 L w -> olds = [] := fun w hw => List.eq_nil_of_length_eq_zero (by have := (show w.ownsRow w0.b e size (.slice B0 0 0) 0 olds from hw.at_ hk).1; omega);refine TL.fact (p := olds = []) (fun w hw => ho0 w hw) ?_;rintro rfl;rcases hA with rfl | ⟨g, rfl⟩
    · refine TL.nilrow e size ?_;refine TL.appendT (k := 0) hg hd hN ho hu hE hs hx rfl (fun w hw => hr w (hw.sel (List.sublist_cons_self _ _))) h1 hlim M hM res hres (fun A' c' h3 h4 => ?_);exact fun a w ha hw => h A' c' h3 h4 a w ha (conv hw)
    · refine TL.appendF hg hd hN ho hu hE hs hx (olds := []) (fun w hw => ⟨0, by simp, fun h9 => absurd h9 (Nat.lt_irrefl 0)⟩) hr hm (by omega) hlim M hM res hres (fun A' c' h3 h4 => ?_);exact fun a w ha hw => h A' c' h3 h4 a w ha (conv hw)
end
def KaY {α : Type} (cl : List α) (i k : Int) : List α := (cl.zipIdx.filter fun p => decide ((p.2 : Int) ≠ i /\ (p.2 : Int) ≠ k)).map (·.1)
theorem Kj3 {α : Type} (cl : List α) (c : α) (i k : Int) : KaY (cl ++ [c]) i k = KaY cl i k ++ (if (cl.length : Int) ≠ i /\ (cl.length : Int) ≠ k then [c] else []) := by
  unfold KaY;rw [List.zipIdx_append, List.filter_append, List.map_append]
  congr 1
  simp only [List.zipIdx_singleton, Nat.zero_add];by_cases h : (cl.length : Int) ≠ i /\ (cl.length : Int) ≠ k
  · rw [if_pos h, List.filter_cons_of_pos (by simpa using h)]; rfl
  · rw [if_neg h, List.filter_cons_of_neg (by simpa using h)]; rfl
theorem Kes {α : Type} {cl : List α} {n : Nat} {c : α} (h : cl[n]? = some c) (i k : Int) : KaY (cl.take (n + 1)) i k = KaY (cl.take n) i k ++ (if (n : Int) ≠ i /\ (n : Int) ≠ k then [c] else []) := by
  have hlt := (List.getElem?_eq_some_iff.1 h).1;rw [List.take_add_one, h];show KaY (cl.take n ++ [c]) i k = _;rw [Kj3, List.length_take, Nat.min_eq_left (by omega)]
theorem Kiu {α : Type} (f : α -> List Int) : ∀ (cl : List α) (i k : Int), (KaY cl i k).map f = KaV (cl.map f) i k := fun cl i k => by
  unfold KaY KaV
  have e : (cl.map f).zipIdx = cl.zipIdx.map fun p => (f p.1, p.2) := by
    rw [List.zipIdx_map]; rfl
  rw [e, List.filter_map, List.map_map, List.map_map]
  rfl
theorem Kgy {α : Type} (cl : List α) (i k : Int) : (KaY cl i k).Sublist cl := by
  unfold KaY;have h := (List.filter_sublist (p := fun p : α × Nat => decide ((p.2 : Int) ≠ i /\ (p.2 : Int) ≠ k)) (l := cl.zipIdx)).map (·.1);have e : cl.zipIdx.map (·.1) = cl := List.zipIdx_map_fst 0 cl;rwa [e] at h
structure Rj where
  kind : Int
  a : Int
  b : Int
  res : Sg Idn
  xa : Int
  xb : Int
  v1 : Int
  r1 : Int
  n1 : Int
  v2 : Int
  r2 : Int
  n2 : Int
def Rj.ev (r : Rj) : Ev := ⟨r.kind, r.a, r.b, r.res⟩
def Rj.ex (r : Rj) : Exl := ⟨r.xa, r.xb, r.v1, r.r1, r.n1, r.v2, r.r2, r.n2⟩
def Rj.c (r : Rj) : EvC × Exl := (r.ev.c, r.ex)
def Rj.of (e : Ev) (y : Exl) : Rj := ⟨e.kind, e.a, e.b, e.res, y.a, y.b, y.v1, y.r1, y.n1, y.v2, y.r2, y.n2⟩
structure BldI (xs : List Exl) (o : List EvC) (i : Nat) (cs : List (Sg Int)) (u : List Ev) (rj : List Rj) (ks : List (Sg Int)) (ss : List (Sg Idn)) : Prop where
  used : (Kam xs (o.take i)).used = u.map Ev.c
  rej : (Kam xs (o.take i)).rej = rj.map Rj.c
  cls : ClsP (cs.map (·.l)) (u.map Ev.c)
  mem : ∀ s ∈ cs, s ∈ ks
  uin : KaU u ss
  rin : KaU (rj.map Rj.ev) ss
  ul : u.length <= i
  rl : rj.length <= i
  cl : cs.length <= u.length
theorem Ki5 (xs : List Exl) (o : List EvC) (ss : List (Sg Idn)) : BldI xs o 0 [] [] [] [] ss :=
  ⟨rfl, rfl, KiD, fun s hs => absurd hs List.not_mem_nil, fun e he => absurd he List.not_mem_nil, fun e he => absurd he List.not_mem_nil, Nat.le_refl _, Nat.le_refl _, Nat.le_refl _⟩
section
variable {xs : List Exl} {o : List EvC} {i : Nat} {cs : List (Sg Int)} {u : List Ev} {rj : List Rj} {ks : List (Sg Int)} {ss : List (Sg Idn)} {x : Ev}
theorem Kl0 (hx : o[i]? = some x.c) : Kam xs (o.take (i + 1)) = Ka3 xs (Kam xs (o.take i)) x.c := by
  rw [List.take_add_one, hx]; exact Kgc xs _ x.c
theorem BldI.step_ (h : BldI xs o i cs u rj ks ss) (hx : o[i]? = some x.c) : Kam xs (o.take (i + 1)) = if Kv (u.map Ev.c) x.a = Kv (u.map Ev.c) x.b then Kam xs (o.take i) else match Kaw (btw (Kv (u.map Ev.c)) x.a x.b) xs with
    | some y => ⟨u.map Ev.c, rj.map Rj.c ++ [(x.c, y)]⟩
    | none => ⟨u.map Ev.c ++ [x.c], rj.map Rj.c⟩ := by
  rw [Kl0 hx, Ka3, h.used, h.rej]
  rfl
theorem BldI.in_iff (h : BldI xs o i cs u rj ks ss) (a b : Int) : b ∈ KK (cs.map (·.l)) a ↔ Kv (u.map Ev.c) a = Kv (u.map Ev.c) b := by
  rw [h.cls.at_]; exact ⟨Eq.symm, Eq.symm⟩
theorem BldI.frbO_eq (h : BldI xs o i cs u rj ks ss) (a b : Int) : KaP (cs.map (·.l)) xs a b = if Kv (u.map Ev.c) a = Kv (u.map Ev.c) b then none else Kaw (btw (Kv (u.map Ev.c)) a b) xs := by
  unfold KaP;rw [h.cls.frb];by_cases he : Kv (u.map Ev.c) a = Kv (u.map Ev.c) b
  · rw [if_pos (.inl ((h.in_iff a b).2 he)), if_pos he]
  · rw [if_neg (fun h2 => h2.elim (fun h3 => he ((h.in_iff a b).1 h3)) (fun h3 => he ((h.in_iff b a).1 h3).symm)), if_neg he]
theorem BldI.rejd (h : BldI xs o i cs u rj ks ss) (hx : o[i]? = some x.c) {y : Exl} (hy : KaP (cs.map (·.l)) xs x.a x.b = some y) (hin : x.res ∈ ss /\ x.res.l.length <= 5864062014634) : BldI xs o (i + 1) cs u (rj ++ [Rj.of x y]) ks ss := by
  rw [h.frbO_eq] at hy;by_cases he : Kv (u.map Ev.c) x.a = Kv (u.map Ev.c) x.b
  · rw [if_pos he] at hy; cases hy
  · rw [if_neg he] at hy;have hs := h.step_ hx;rw [if_neg he, hy] at hs;refine ⟨by rw [hs], by rw [hs, List.map_append]; rfl, h.cls, h.mem, h.uin, ?_, Nat.le_succ_of_le h.ul, by rw [List.length_append]; exact Nat.succ_le_succ h.rl, h.cl⟩;rw [List.map_append];intro e he2;rcases List.mem_append.1 he2 with h1 | h1
    · exact h.rin e h1
    · rw [List.map_singleton, List.mem_singleton] at h1; subst h1; exact hin
theorem BldI.samed (h : BldI xs o i cs u rj ks ss) (hx : o[i]? = some x.c) (hab : x.a ≠ x.b) (hix : 0 <= KL (cs.map (·.l)) x.a /\ KL (cs.map (·.l)) x.a = KL (cs.map (·.l)) x.b) : BldI xs o (i + 1) cs u rj ks ss := by
  have he := (h.cls.idx hab).1 hix;have hs := h.step_ hx;rw [if_pos he] at hs;exact ⟨by rw [hs]; exact h.used, by rw [hs]; exact h.rej, h.cls, h.mem, h.uin, h.rin, Nat.le_succ_of_le h.ul, Nat.le_succ_of_le h.rl, h.cl⟩
theorem BldI.joind (h : BldI xs o i cs u rj ks ss) (hx : o[i]? = some x.c) (hab : x.a ≠ x.b) (hn : KaP (cs.map (·.l)) xs x.a x.b = none) (hix : ¬ (0 <= KL (cs.map (·.l)) x.a /\ KL (cs.map (·.l)) x.a = KL (cs.map (·.l)) x.b)) (hin : x.res ∈ ss /\ x.res.l.length <= 5864062014634)
    {J : Sg Int} (hp : J.l.Perm (KK (cs.map (·.l)) x.a ++ KK (cs.map (·.l)) x.b)) (hle : J.l.Pairwise (· <= ·)) :
    BldI xs o (i + 1) (KaY cs (KL (cs.map (·.l)) x.a) (KL (cs.map (·.l)) x.b) ++ [J]) (u ++ [x]) rj (J :: ks) ss := by
  have he : ¬ Kv (u.map Ev.c) x.a = Kv (u.map Ev.c) x.b := fun h1 => hix ((h.cls.idx hab).2 h1);rw [h.frbO_eq, if_neg he] at hn;have hs := h.step_ hx;rw [if_neg he, hn] at hs;have hmem : ∀ z, z ∈ J.l ↔ z ∈ KK (cs.map (·.l)) x.a \/ z ∈ KK (cs.map (·.l)) x.b := fun z => by rw [hp.mem_iff, List.mem_append]
  have asc : ∀ a, (KK (cs.map (·.l)) a).Pairwise (· < ·) := fun a => by
    rcases Kca (cl := cs.map (·.l)) a with h1 | ⟨j, k, hk, ha, hno⟩
    · rw [(KbF h1).1]; exact List.pairwise_singleton _ _
    · rw [(KbQ hk ha hno).1]; exact h.cls.asc k (List.mem_of_getElem? hk)
  have hnd : J.l.Nodup := by
    refine hp.nodup_iff.2 (List.nodup_append.2 ⟨(asc _).imp fun h1 => Int.ne_of_lt h1, (asc _).imp fun h1 => Int.ne_of_lt h1, fun z hz z' hz' e => ?_⟩);subst e;exact he (((h.cls.at_ _ _).1 hz).symm.trans ((h.cls.at_ _ _).1 hz'))
  have hj : J.l.Pairwise (· < ·) := (hle.and hnd).imp fun h1 => by have := h1.1; have := h1.2; omega
  have hcls := h.cls.join (e := x.c) he hj hmem;refine ⟨by rw [hs, List.map_append]; rfl, by rw [hs], ?_, fun s hs2 => ?_, fun e he2 => ?_, h.rin, by rw [List.length_append]; exact Nat.succ_le_succ h.ul, Nat.le_succ_of_le h.rl, ?_⟩
  · rw [List.map_append, List.map_append, Kiu];exact hcls
  · rcases List.mem_append.1 hs2 with h1 | h1
    · exact List.mem_cons_of_mem _ (h.mem s ((Kgy _ _ _).subset h1))
    · rw [List.mem_singleton] at h1; rw [h1]; exact List.mem_cons_self
  · rcases List.mem_append.1 he2 with h1 | h1
    · exact h.uin e h1
    · rw [List.mem_singleton] at h1; subst h1; exact hin
  · rw [List.length_append, List.length_append];have := (Kgy cs (KL (cs.map (·.l)) x.a) (KL (cs.map (·.l)) x.b)).length_le;have := h.cl;simp only [List.length_singleton]; omega
theorem ClsP.len {cl : List (List Int)} {v : List EvC} (h : ClsP cl v) (a : Int) : (KK cl a).length <= 2 * v.length + 1 := by
  have key : ∀ k ∈ cl, k.length <= 2 * v.length := fun k hk => by
    have h1 : k.Nodup := (h.asc k hk).imp fun h1 => Int.ne_of_lt h1;have h2 := KbX h1 (F := K6 v) fun z hz => ((h.same k hk z hz z).1 hz).1;unfold K6 at h2;rw [Kfc, List.length_map] at h2;exact h2
  rcases Kca (cl := cl) a with h1 | ⟨j, k, hk, ha, hno⟩
  · rw [(KbF h1).1]; show 1 <= _; omega
  · rw [(KbQ hk ha hno).1]; have := key k (List.mem_of_getElem? hk); omega
theorem ClsP.len1 {cl : List (List Int)} {v : List EvC} (h : ClsP cl v) {k : List Int} (hk : k ∈ cl) : 0 < k.length := List.length_pos_iff.2 (h.ne k hk)
end
theorem KiR {cs cs' : List (Sg Int)} {v : List EvC} (h : ClsP (cs.map (·.l)) v) (hs : Kba (fun x y : Sg Int => Km (KY x.l) (KY y.l)) cs cs') : ClsP (cs'.map (·.l)) v /\ Kci (cs'.map (·.l)) := by
  have h1 := h.perm (hs.1.map (·.l));refine ⟨h1, ?_⟩
  have h2 : (cs'.map (·.l)).Pairwise fun k m => ¬ KY m < KY k := by
    rw [List.pairwise_map];exact hs.2.imp fun {a b} h3 => by rwa [KdV] at h3
  have h4 := h1.heads;have h5 := h1.ne;have h6 := h1.disj;clear h h1 hs;generalize cs'.map (·.l) = cl at h2 h4 h5 h6;unfold Kci;refine (h2.and h6).imp_of_mem fun {a b} ha hb hab => ?_;have h7 := hab.1
  have h8 : KY a ≠ KY b := fun e => by
    have := h4 a ha b hb e;subst this;exact hab.2 _ (Kc4 (h5 a ha)) (Kc4 (h5 a ha))
  omega
set_option maxRecDepth 20000
theorem Klb {P : Program} {N : Fr} {E : Env} {o : Oper} {t : TypeId} {size : Nat} {x hi mx : Operand} {A : Option Addr} {n c : Nat} {I : World -> Prop} (ho : o.op = .slice t x none (some hi) (some mx)) (hx : ev E x = some (.slice A n c)) (hh : ev E hi = some (.int .i64 0)) (hm : ev E mx = some (.int .i64 0))
    (ht : P.underlying t = some (.slice (P.elem t))) (hs : ∀ w : World, (sizeOf (P.elem t)).run P w = .ok size w) : Kq P N o E I (.slice A 0 0) := fun a w ha _ => by
  unfold execOp; rw [ho];simp only [Option.map_some, Option.map_none, ha.eval hx, ha.eval hh, ha.eval hm, run_sliceAt_slice w t _ _ _ _ ht, run_slice_hm w t A n c ht .i64 .i64 0 0 (by omega) (by omega) (by omega), hs, Result.andThen_ok, Sem.run_bind, Sem.run_pure, sliced]
  rfl
theorem ksR {w0 : Base} {w1 : World} {P R : List Pc} {t : TypeId} {ks : List (Sg Int)} {s : Sg Int} (h : Pm w0 (P ++ (Kb t 1 (Ka (ic .u32)) ks ++ R)) w1) (hs : s ∈ ks) (hl : s.l.length <= 35184372087808) : SgR w1 w1.heap.size s :=
  ⟨Kb1 (Pm.inTail1 h) (List.mem_map_of_mem (f := Sg.pc t 1 (Ka (ic .u32))) hs), hl⟩
theorem Pm.inTail3 {w0 : Base} {w : World} {P K S X O : List Pc} (h : Pm w0 (P ++ (K ++ (S ++ (X ++ O)))) w) : Pm w0 X w := Pm.inTail2 (P := P ++ K) (by rw [List.append_assoc]; exact h)
theorem Pm.inTail4 {w0 : Base} {w : World} {P K S Y X O : List Pc} (h : Pm w0 (P ++ (K ++ (S ++ (Y ++ (X ++ O))))) w) : Pm w0 X w := Pm.inTail2 (P := (P ++ K) ++ S) (by rw [List.append_assoc, List.append_assoc]; exact h)
theorem Pm.tuck3 {w0 : Base} {w : World} {X P K S R : List Pc} (h : Pm w0 (X ++ (P ++ (K ++ (S ++ R)))) w) : Pm w0 (P ++ (K ++ (S ++ (X ++ R)))) w := by
  have h1 := Pm.tuck (X := X) (P := P) (O := K ++ (S ++ R)) h;refine h1.permute (List.Perm.append_left P ?_);have e1 : X ++ (K ++ (S ++ R)) = (X ++ (K ++ S)) ++ R := by simp [List.append_assoc]
  have e2 : K ++ (S ++ (X ++ R)) = ((K ++ S) ++ X) ++ R := by simp [List.append_assoc]
  rw [e1, e2];exact (List.perm_append_comm (l₁ := X) (l₂ := K ++ S)).append_right R
theorem Pm.newK {w0 : Base} {w : World} {t : TypeId} {P S : List Pc} {ks : List (Sg Int)} {s : Sg Int} (h : Pm w0 ([s.pc t 1 (Ka (ic .u32))] ++ (P ++ (Kb t 1 (Ka (ic .u32)) ks ++ (S ++ [])))) w) : Pm w0 (P ++ (Kb t 1 (Ka (ic .u32)) (s :: ks) ++ (S ++ []))) w := Pm.segIn2 h
theorem Pm.dropX {w0 : Base} {w : World} {P K S X : List Pc} (h : Pm w0 (P ++ (K ++ (S ++ X))) w) : Pm w0 (P ++ (K ++ (S ++ []))) w :=
  h.sel (List.Sublist.append (List.Sublist.refl P) (List.Sublist.append (List.Sublist.refl K) (List.Sublist.append (List.Sublist.refl S) (List.nil_sublist X))))
theorem Pm.ordIn {w0 : Base} {w : World} {t : TypeId} {R : Pc} {S P : List Pc} (h : Pm w0 ((R :: S) ++ P) w) : Pm w0 ((R :: P) ++ (Kb t 1 (Ka (ic .u32)) [] ++ (S ++ []))) w := by
  rw [List.append_nil];refine h.permute ?_;show List.Perm (R :: (S ++ P)) (R :: (P ++ S));exact List.Perm.cons R List.perm_append_comm
theorem BldI.small {xs : List Exl} {o : List EvC} {i : Nat} {cs : List (Sg Int)} {u : List Ev} {rj : List Rj} {ks : List (Sg Int)} {ss : List (Sg Idn)} (h : BldI xs o i cs u rj ks ss) (hi : i <= 1000000) : ∀ s ∈ cs, s.l.length <= 35184372087808 := fun s hs => by
  have h1 : s.l.Nodup := (h.cls.asc s.l (List.mem_map_of_mem hs)).imp fun h1 => Int.ne_of_lt h1;have h2 := KbX h1 (F := K6 (u.map Ev.c)) fun z hz => ((h.cls.same s.l (List.mem_map_of_mem hs) z hz z).1 hz).1;unfold K6 at h2;rw [Kfc, List.length_map, List.length_map] at h2;have := h.ul;omega
theorem KdI (xs : List Int) : Ka (ic .u32) xs = uv xs := by
  unfold Ka uv
  induction xs with
  | nil => rfl
  | cons x l ih => rw [List.flatMap_cons, ih]; rfl
theorem KkA {b n cap : Nat} {A : Option Addr} {l : List Int} {w : World} (hr : w.ownsRow b 30 1 (.slice A n cap) n (Ka (ic .u32) l)) (hl : l.length = n) (h0 : 0 < n) (hn : n <= 1000000) :
    Calls Tryz.prog 51 #[.slice A n cap] w fun en w' => en = .returned (.tuple #[]) /\ ∃ ys, (ys.Perm l /\ ys.Pairwise (· <= ·)) /\ w'.ownsRow b 30 1 (.slice A n cap) n (Ka (ic .u32) ys) /\ w.grownBy w' (Value.ownBlock (.slice A n cap)) := by
  rcases hr.2 with ⟨hv, h9⟩ | ⟨q, cap', cur, hv, hb, hq, h1, h2, h3, h4⟩
  · cases hv; omega
  · cases hv;rw [KdI] at hr h4;refine (KkF q n cap l w ⟨hr.1, .inr ⟨q, cap, cur, rfl, Nat.le_refl _, hq, h1, h2, h3, h4⟩⟩ hn).mono ?_;rintro en w' ⟨_, ys, rfl, ⟨hp, hs⟩, hrw, hg⟩;refine ⟨rfl, ys, ⟨hp.perm, KlF (hp.len.trans hl) hs⟩, ⟨by rw [KdI]; exact hrw.1, ?_⟩, hg⟩;rcases hrw.2 with ⟨e1, _⟩ | ⟨q', c2, cur2, e1, e2, e3⟩
    · cases e1
    · cases e1;exact .inr ⟨q, cap, cur2, rfl, hb, by rw [KdI]; exact e3⟩
theorem Ki3 (a b : Sg Int) : Kae [a, b] = a.l ++ b.l := by unfold Kae; simp
theorem Ke2 {w0 : Base} {L : List Pc} {A : Option Addr} {n c k : Nat} {xs : List Value} {e : TypeId} {size : Nat} {w : World} (h : Pm w0 L w) (hk : L[k]? = some (.row (.slice A n c) e size n xs)) : A = none \/ ∃ g, A = some ⟨g, 0, none⟩ := by
  rcases (h.at_ hk).2 with ⟨e1, h2⟩ | ⟨g, cap, cur, a, r⟩
  · cases e1; exact .inl rfl
  · cases a; exact .inr ⟨g, rfl⟩
theorem KjQ {w0 : Base} {R : Pc} {L : List Pc} {w1 w2 : World} {e : Sg Int} {t : TypeId} (hw : Pm w0 (R :: L) w1) (hm : Sg.pc t 1 (Ka (ic .u32)) e ∈ L) (hl : e.l.length <= 35184372087808) (hg : w1.grownBy w2 R.key) : SgR w2 w2.heap.size e := by
  have hq := hw.own _ (List.mem_cons_of_mem _ hm);have hR := hw.own _ (List.mem_cons_self (a := R) (l := L));have hap := (List.pairwise_cons.1 hw.apart).1 _ hm;have h2 := Pc.same (w' := w2) hq (fun g hg' => hg.block g (Pc.lt hq g hg').2 fun he => hap g he.symm hg') (fun k hk => hg.block k (Nat.lt_of_lt_of_le hk hw.base) fun he => absurd (Pc.lt hR k he.symm).1 (by omega));exact ⟨Ki.of_own h2, hl⟩
theorem KeS (cs : List (Sg Int)) : Ka sgc cs = cs.map Sg.val := KiJ Sg.val cs
theorem Kic {b n cap : Nat} {A : Option Addr} {l : List (Sg Int)} {w : World} (hr : w.ownsRow b 61 1 (.slice A n cap) n (Ka sgc l)) (hl : l.length = n) (hn : n <= 100000000000) (hG : ∀ x ∈ l, 0 < x.l.length /\ ∀ w1, w.grownBy w1 (Value.ownBlock (.slice A n cap)) -> SgR w1 w1.heap.size x) :
    Calls Tryz.prog 52 #[.slice A n cap, .func (.func 53) #[] #[]] w fun en w' => en = .returned (.tuple #[]) /\ ∃ l', Kba (fun x y : Sg Int => Km (KY x.l) (KY y.l)) l l' /\ w'.ownsRow b 61 1 (.slice A n cap) n (Ka sgc l') /\ w.grownBy w' (Value.ownBlock (.slice A n cap)) := by
  rw [KeS] at hr;refine (Kiv hr hl hn hG).mono ?_;rintro en w' ⟨h1, l', h2, h3, h4⟩;exact ⟨h1, l', h2, by rw [KeS]; exact h3, h4⟩
theorem KiH {l : List EvC} {o : List Ev} (h : KV l (o.map Ev.c)) {i : Nat} {x : Ev} (hx : (o.map Ev.c)[i]? = some x.c) : x.a ≠ x.b := by
  have := of_decide_eq_true ((h.2 x.c).1 (List.mem_of_getElem? hx)).2;have h2 : x.a < x.b := this.2.2.2.1;omega
theorem BldI.joind2 {xs : List Exl} {o : List EvC} {i : Nat} {cs : List (Sg Int)} {u : List Ev} {rj : List Rj} {ks : List (Sg Int)} {ss : List (Sg Idn)} {x : Ev} (h : BldI xs o i cs u rj ks ss) (hx : o[i]? = some x.c) (hab : x.a ≠ x.b) {ix1 ix2 : Int} {ll rr : List Int} (e1 : ix1 = KL (cs.map (·.l)) x.a) (e2 : ix2 = KL (cs.map (·.l)) x.b) (e3 : ll = KK (cs.map (·.l)) x.a) (e4 : rr = KK (cs.map (·.l)) x.b)
    (hn : (KaP (cs.map (·.l)) xs x.a x.b).isSome = false) (hix : ¬ (0 <= ix1 /\ ix1 = ix2)) (hin : x.res ∈ ss /\ x.res.l.length <= 5864062014634) {J : Sg Int} (hp : J.l.Perm (ll ++ rr)) (hle : J.l.Pairwise (· <= ·)) {q : List (Sg Int)} (hq : q = KaY cs ix1 ix2) :
    BldI xs o (i + 1) (q ++ [J]) (u ++ [x]) rj (J :: ks) ss := by
  subst e1 e2 e3 e4 hq;exact h.joind hx hab (by simpa using hn) hix hin hp hle
structure BldR (xs : List Exl) (o : List EvC) (cs : List (Sg Int)) (u : List Ev) (rj : List Rj) (ks : List (Sg Int)) (ss : List (Sg Idn)) : Prop where
  used : (Kam xs o).used = u.map Ev.c
  rej : (Kam xs o).rej = rj.map Rj.c
  cls : ClsP (cs.map (·.l)) (u.map Ev.c)
  hd : Kci (cs.map (·.l))
  mem : ∀ s ∈ cs, s ∈ ks
  small : ∀ s ∈ cs, s.l.length <= 35184372087808
  uin : KaU u ss
  rin : KaU (rj.map Rj.ev) ss
  ul : u.length <= o.length
  rl : rj.length <= o.length
  cl : cs.length <= u.length
def Kaa (l : List Ev) (xs : List Exl) (cs : List (Sg Int)) (u : List Ev) (rj : List Rj) (ks : List (Sg Int)) (ss : List (Sg Idn)) (z : Int) : Prop :=
  Kd5 l xs z /\ ((z ≠ 0 /\ cs = [] /\ u = [] /\ rj = []) \/ (z = 0 /\ ∃ o, KV (l.map Ev.c) o /\ o.length <= l.length /\ BldR xs o cs u rj ks ss))
theorem BldI.fin {xs : List Exl} {o : List EvC} {i : Nat} {cs cs' : List (Sg Int)} {u : List Ev} {rj : List Rj} {ks : List (Sg Int)} {ss : List (Sg Idn)} (h : BldI xs o i cs u rj ks ss) (hi : i = o.length) (hi2 : i <= 1000000) (hs : Kba (fun x y : Sg Int => Km (KY x.l) (KY y.l)) cs cs') : BldR xs o cs' u rj ks ss := by
  have h1 := KiR h.cls hs;have e : o.take i = o := by rw [hi, List.take_length]
  refine ⟨by rw [<- e]; exact h.used, by rw [<- e]; exact h.rej, h1.1, h1.2, fun s hs2 => h.mem s (hs.1.mem_iff.1 hs2), fun s hs2 => h.small hi2 s (hs.1.mem_iff.1 hs2), h.uin, h.rin, by rw [<- hi]; exact h.ul, by rw [<- hi]; exact h.rl, by rw [hs.1.length_eq]; exact h.cl⟩
section
variable {xs : List Exl} {o : List EvC} {cs : List (Sg Int)} {u : List Ev} {rj : List Rj} {ks : List (Sg Int)} {ss : List (Sg Idn)}
theorem Kgr {xs' : List Exl} {l l' : List EvC} {o' : List EvC} {cs' : List (Sg Int)} {u' : List Ev} {rj' : List Rj} {ks' : List (Sg Int)} {ss' : List (Sg Idn)} (ho : KV l o) (ho' : KV l' o') (hl : ∀ x, x ∈ l ↔ x ∈ l') (hx : ∀ y, y ∈ xs ↔ y ∈ xs') (h : BldR xs o cs u rj ks ss) (h' : BldR xs' o' cs' u' rj' ks' ss') :
    cs.map (·.l) = cs'.map (·.l) /\ u.map Ev.c = u'.map Ev.c /\ rj.map Rj.c = rj'.map Rj.c := by
  have e : o = o' := ho.eq (ho'.of_mem fun x => (hl x).symm);subst e;have e2 := KlL hx o;have hu : u.map Ev.c = u'.map Ev.c := by rw [<- h.used, <- h'.used, e2]
  refine ⟨Kjk (u := u'.map Ev.c) (by rw [<- hu]; exact h.cls) h'.cls h.hd h'.hd, hu, by rw [<- h.rej, <- h'.rej, e2]⟩
end
theorem Kjo {l o o' : List EvC} {m : EvC} (h : KV l o) (h' : KV (l ++ [m]) o') (hk : ∀ e ∈ o, e.kind < m.kind) : o' = o \/ o' = o ++ [m] := by
  by_cases hv : KE m = true
  · right
    refine h'.eq ⟨?_, fun x => ?_⟩
    · refine List.pairwise_append.2 ⟨h.1, List.pairwise_singleton _ _, fun a ha b hb => ?_⟩;rw [List.mem_singleton] at hb;subst hb;have := hk a ha;unfold EvC.keys;rw [Kl, if_pos this]; omega
    · rw [List.mem_append, List.mem_append, h.2, List.mem_singleton];constructor
      · rintro (⟨a, b⟩ | rfl)
        · exact ⟨.inl a, b⟩
        · exact ⟨.inr rfl, hv⟩
      · rintro ⟨a | a, b⟩
        · exact .inl ⟨a, b⟩
        · exact .inr a
  · left
    refine h'.eq ⟨h.1, fun x => ?_⟩;rw [h.2, List.mem_append, List.mem_singleton];constructor
    · rintro ⟨a, b⟩; exact ⟨.inl a, b⟩
    · rintro ⟨a | rfl, b⟩
      · exact ⟨a, b⟩
      · exact absurd b hv
theorem KiO (x : List Exl) (s : BldS) (e : EvC) : ∃ u r, (Ka3 x s e).used = s.used ++ u /\ (Ka3 x s e).rej = s.rej ++ r /\ u.length + r.length <= 1 := by
  unfold Ka3;split
  · exact ⟨[], [], by simp, by simp, by simp⟩
  · split
    · rename_i y _; exact ⟨[], [(e, y)], by simp, rfl, by simp⟩
    · exact ⟨[e], [], rfl, by simp, by simp⟩
theorem KjV {l o : List EvC} (h : KV l o) : o.length <= l.length := KbX (Kk1 h.1) fun x hx => ((h.2 x).1 hx).1
theorem KaJ {l : List Ev} {xs : List Exl} {cs : List (Sg Int)} {u : List Ev} {rj : List Rj} {ks : List (Sg Int)} {ss : List (Sg Idn)} {z : Int} (h : Kaa l xs cs u rj ks ss z) (hv : ∀ e ∈ l, KE e.c = true) (hx : ∀ y ∈ xs, y.a < y.b) (hl : l.length <= 1024) (hxl : xs.length <= 1024) : z = 0 /\ ∃ o, KV (l.map Ev.c) o /\ o.length <= l.length /\ BldR xs o cs u rj ks ss := by
  have hz : z = 0 := by
    rcases h.1 with ⟨_, h1 | h1⟩ | ⟨_, _, o, ho, h2⟩
    · obtain ⟨e, he, h3⟩ := List.any_eq_true.1 h1;rw [hv e he] at h3; cases h3
    · obtain ⟨y, hy, h3⟩ := List.any_eq_true.1 h1;have := of_decide_eq_true h3;have := hx y hy;omega
    · have h4 := KjV ho;rw [List.length_map] at h4;rw [h2, if_neg (by omega)]
  rcases h.2 with ⟨h1, _⟩ | ⟨_, h1⟩
  · exact absurd hz h1
  · exact ⟨hz, h1⟩
end Go.Proofs.YtpnilgkmpfkekaaGreat
