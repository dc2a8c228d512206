/-
  Texts of the proof, joined: NatP, Frc, Frc2, Stp, JrEq, JrSmall, JrCheck, PtRes, PtSort, PtEq, PtCpt, PtOrd, PtTk, PtTrc, Ds1, PtOf, PtKey, PtLook, PtAt, PtChk, PtGrp, PtGra.
-/
import Derived.Test.YtcicmplfmcloiaaGreatDiscoverTablesPk2
import Derived.Test.YtcicmplfmcloiaaGreatDiscoverTablesPk1
import Derived.Test.YtcicmplfmcloiaaGreatProg
import Derived.Laws.StructEq
import Derived.Laws.Tables
import Derived.Laws.Small
import Derived.Laws.Pointers
import Derived.Laws.Cover2
import Derived.WalkKit
import Derived.KernelRfl
import Derived.Shelf.SortM.Plain
import Derived.Shelf.SortM.SortNone
import Derived.DeepKeys5
import Derived.Sort.OwnSortedInts
set_option linter.unusedVariables false
set_option linter.unusedSimpArgs false
namespace Go.Proofs.YtcicmplfmcloiaaGreat
set_option maxHeartbeats 1000000
open Go.RowKit
set_option maxRecDepth 20000
theorem Kit {x : Int} (h : 0 < x) (h2 : x < 1073741824) : Nrm [x] := ⟨Km.cons ⟨by omega, h2⟩ Km.nil, by simp only [List.getLast?_singleton, ne_eq, Option.some.injEq]; omega⟩
theorem KgB (x : Int) : Ka [x] = x := by show x + 1073741824 * 0 = x; omega
theorem Nrm.len256 {l : List Int} (h : Nrm l) (hl : Ka l < pB 256) : l.length <= 256 := by
 refine Decidable.by_contra fun hn => ?_;have h1 := h.pos (by omega);have h2 := Kan (show 256 <= l.length - 1 by omega);omega
structure PwI (T : Int) (o q : List Int) (k : Nat) : Prop where
 no : Nrm o
 nq : Nrm q
 eq : Ka o * Ka q ^ k = T
 alt : 1 <= Ka o \/ Ka q = 0
theorem PwI.start {a : List Int} {k : Nat} (ha : Nrm a) : PwI (Ka a ^ k) [1] a k := ⟨Kit (by decide) (by decide), ha, by show (1 + 1073741824 * 0) * _ = _; omega, .inl (by decide)⟩
theorem Kh7 {x : Int} (hx : 1 <= x) : ∀ k : Nat, 1 <= x ^ k
 | 0 => by rw [Int.pow_zero]; omega
 | k + 1 => by
  have h1 := Kh7 hx k;rw [Int.pow_succ];have h2 : 1 * 1 <= x ^ k * x := Int.mul_le_mul h1 hx (by decide) (by omega);omega
section
variable {T : Int} {o q : List Int} {k : Nat}
theorem PwI.cases (h : PwI T o q k) (hk : 1 <= k) : Ka q = 0 \/ (1 <= Ka o /\ 1 <= Ka q) := by
 have h1 := Kz h.nq.1;rcases h.alt with h2 | h2
 ·rcases (show Ka q = 0 \/ 1 <= Ka q by omega) with h3 | h3
  ·exact .inl h3
  exact .inr ⟨h2, h3⟩
 exact .inl h2
theorem PwI.T0 (h : PwI T o q k) : 0 <= T := by
 rw [<- h.eq];have h1 := Kz h.nq.1;have h2 : 0 <= Ka q ^ k := Int.pow_nonneg h1;exact Int.mul_nonneg (Kz h.no.1) h2
theorem PwI.mul1 (h : PwI T o q k) (hk : 1 <= k) : Ka o * Ka q <= T := by
 have hT := h.T0;rcases h.cases hk with h1 | ⟨h1, h2⟩
 ·rw [h1, Int.mul_zero]; exact hT
 obtain ⟨j, rfl⟩ : ∃ j, k = j + 1 := ⟨k - 1, by omega⟩;have h3 := Kh7 h2 j;have h4 := h.eq;rw [Int.pow_succ, Int.mul_comm (Ka q ^ j), <- Int.mul_assoc] at h4;have h5 : Ka o * Ka q * 1 <= Ka o * Ka q * Ka q ^ j := Int.mul_le_mul_of_nonneg_left h3 (Int.mul_nonneg (by omega) (by omega));omega
theorem PwI.mul2 (h : PwI T o q k) (hk : 2 <= k) : Ka q * Ka q <= T := by
 have hT := h.T0;rcases h.cases (by omega) with h1 | ⟨h1, h2⟩
 ·rw [h1, Int.mul_zero]; exact hT
 obtain ⟨j, rfl⟩ : ∃ j, k = j + 1 + 1 := ⟨k - 2, by omega⟩;have h3 := Kh7 h2 j;have h4 := h.eq;rw [Int.pow_succ, Int.pow_succ, Int.mul_assoc (Ka q ^ j)] at h4;have h6 : 0 <= Ka q * Ka q := Int.mul_nonneg (by omega) (by omega);have h7 : 1 * 1 <= Ka o * Ka q ^ j := Int.mul_le_mul h1 h3 (by decide) (by omega);have h5 : 1 * (Ka q * Ka q) <= (Ka o * Ka q ^ j) * (Ka q * Ka q) := Int.mul_le_mul_of_nonneg_right (by omega) h6;rw [Int.mul_assoc] at h5;omega
theorem PwI.lq (h : PwI T o q k) (hT : T < pB 256) (hk : 1 <= k) : q.length <= 256 := by
 refine h.nq.len256 ?_;have h0 := h.T0;rcases h.cases hk with h1 | ⟨h1, h2⟩
 ·omega
 have h3 := h.mul1 hk;have h4 : 1 * Ka q <= Ka o * Ka q := Int.mul_le_mul_of_nonneg_right h1 (by omega);omega
theorem KmK (x : Int) (j : Nat) : (x * x) ^ j = x ^ (2 * j) := by
 rw [show x * x = x ^ 2 by rw [Int.pow_succ, Int.pow_succ, Int.pow_zero, Int.one_mul], <- Int.pow_mul]
theorem PwI.odd {p s : List Int} (h : PwI T o q k) (hk : k % 2 = 1) (hk1 : 1 <= k) (hp : Nrm p /\ Ka p = Ka o * Ka q) (hs : Nrm s /\ Ka s = Ka q * Ka q) : PwI T p s (k / 2) := by
 refine ⟨hp.1, hs.1, ?_, ?_⟩
 ·rw [hp.2, hs.2, KmK, <- h.eq];have e : k = 2 * (k / 2) + 1 := by omega
  generalize k / 2 = j at e;subst e;rw [Int.pow_succ, Int.mul_assoc, Int.mul_comm (Ka q)]
 rcases h.cases hk1 with h1 | ⟨h1, h2⟩
 ·exact .inr (by rw [hs.2, h1]; rfl)
 left
 rw [hp.2];have : 1 * 1 <= Ka o * Ka q := Int.mul_le_mul h1 h2 (by decide) (by omega);omega
theorem PwI.even {s : List Int} (h : PwI T o q k) (hk : k % 2 = 0) (hk1 : 1 <= k) (hs : Nrm s /\ Ka s = Ka q * Ka q) : PwI T o s (k / 2) := by
 refine ⟨h.no, hs.1, ?_, ?_⟩
 ·rw [hs.2, KmK, <- h.eq, show 2 * (k / 2) = k by omega]
 rcases h.cases hk1 with h1 | ⟨h1, h2⟩
 ·exact .inr (by rw [hs.2, h1]; rfl)
 exact .inl h1
theorem PwI.last {p : List Int} (h : PwI T o q k) (hk : k = 1) (hk1 : 1 <= k) (hp : Nrm p /\ Ka p = Ka o * Ka q) : PwI T p q (k / 2) := by
 subst hk;have h1 := h.eq;rw [Int.pow_one] at h1;refine ⟨hp.1, h.nq, by rw [hp.2, h1]; show T * Ka q ^ 0 = T; rw [Int.pow_zero, Int.mul_one], ?_⟩;rcases h.cases (by omega) with h1 | ⟨h1, h2⟩
 ·exact .inr h1
 left
 rw [hp.2];have : 1 * 1 <= Ka o * Ka q := Int.mul_le_mul h1 h2 (by decide) (by omega);omega
theorem PwI.done (h : PwI T o q k) (hk : k = 0) : Nrm o /\ Ka o = T := ⟨h.no, by have h1 := h.eq; rw [hk, Int.pow_zero] at h1; omega⟩
end
def Kaz (n : Nat) : Nat -> Nat
 | 0 => 1
 | i + 1 => Kaz n i * (n - i) / (i + 1)
theorem Kk9 {n : Nat} (hn : n <= 16) : ∀ i, Kaz n i <= 16 ^ i
 | 0 => Nat.le_refl _
 | i + 1 => by
  have h1 := Kk9 hn i;show Kaz n i * (n - i) / (i + 1) <= 16 ^ (i + 1);rw [Nat.pow_succ];exact Nat.le_trans (Nat.div_le_self _ _) (Nat.mul_le_mul h1 (by omega))
theorem KiR {n i : Nat} (hn : n <= 16) (hi : i <= 16) : Kaz n i <= 18446744073709551616 := Nat.le_trans (Kk9 hn i) (Nat.le_trans (Nat.pow_le_pow_right (by decide) hi) (by decide))
theorem Kbo : (1237940039285380274899124224 : Int) <= pB 256 := by
 have h1 := Kan (show 3 <= 256 by decide);have h2 : pB 3 = 1237940039285380274899124224 := by decide
 omega
theorem KmL {n i : Nat} (hn : n <= 16) (hi : i <= 16) : ((Kaz n i : Nat) : Int) < pB 256 := by
 have := KiR hn hi;have := Kbo;omega
theorem KlV {n i : Nat} (hn : n <= 16) (hi : i <= 16) : ((Kaz n i : Nat) : Int) * ((n - i : Nat) : Int) < pB 256 := by
 have h1 := KiR hn hi;have h2 : Kaz n i * (n - i) <= 18446744073709551616 * 16 := Nat.mul_le_mul h1 (by omega);have h3 : ((Kaz n i * (n - i) : Nat) : Int) = ((Kaz n i : Nat) : Int) * ((n - i : Nat) : Int) := Int.natCast_mul ..;have := Kbo;omega
theorem KrZ {n i : Nat} {pr o qs : List Int} {rs : Int} (hp : Ka pr = Ka o * Ka [((n - i : Nat) : Int)]) (ho : Ka o = ((Kaz n i : Nat) : Int)) (hq : Ka qs * ((i + 1 : Nat) : Int) + rs = Ka pr /\ 0 <= rs /\ rs < ((i + 1 : Nat) : Int)) (hi : i < 16) : Ka qs = ((Kaz n (i + 1) : Nat) : Int) := by
 rw [KgB, ho] at hp;have h3 : ((Kaz n i * (n - i) : Nat) : Int) = ((Kaz n i : Nat) : Int) * ((n - i : Nat) : Int) := Int.natCast_mul ..;show Ka qs = ((Kaz n i * (n - i) / (i + 1) : Nat) : Int);rw [Int.natCast_ediv, h3, <- hp, <- hq.1, Int.add_comm, Int.add_mul_ediv_right _ _ (by omega), Int.ediv_eq_zero_of_lt hq.2.1 hq.2.2];omega
theorem KgV (a0_0 : Int) (w : World) : (Instr.buildSlice 50 1 #[(0, .int .i64 a0_0)]).run Tryz.prog w = .ok (.slice (some ⟨w.heap.size, 0, none⟩) 1 1) (w.alloc (.cells [.int .i64 a0_0].toArray 3)) := by kernel_rfl
theorem KqK (A0 : Option Addr) (c0 : Nat) (a : List Int) (k0 : Nat) (w : World) (hr : Kd w w.heap.size 1 A0 a.length (Kb (ic .i64) a)) (hl1 : a.length <= 1000) (ha : Nrm a) (hk0 : k0 <= 65536) (hlim : Ka a ^ k0 < pB 256) :
  Calls Tryz.prog 253 #[.slice A0 a.length c0, .int .i64 ((k0 : Nat) : Int)] w fun e w' => ∃ x : {y : (Option Addr × Nat) × List Int // (Nrm y.2 /\ Ka y.2 = Ka a ^ k0) /\ y.2.length <= y.1.2 /\ y.1.2 <= maxLen}, e = .returned (.tuple #[.slice x.1.1.1 x.1.2.length x.1.1.2, .int .i64 0]) /\ Pm w [.row (.slice x.1.1.1 x.1.2.length x.1.1.2) 3 1 x.1.2.length (Kb (ic .i64) x.1.2)] w' := by
 refine Kj Tryz.func253 rfl rfl rfl ?_ (Pm.start w);refine zSG (TL.rn 2 rfl (zET (zS (zSG (TL.mv ?_)))));refine TL.sp Kr (fun q10 => ?_) (fun q10 => ?_)
 ·exfalso; omega
 refine TL.rn 2 rfl (TL.gu ?_);refine TL.sp KC (fun q13 => ?_) (fun q13 => ?_)
 ·exfalso; omega
 refine TL.pk ?_;refine zET (zd (zk (zT (zSG ?_))));refine TL.prowS (e := 3) (size := 1) (cs := Kb (ic .i64) [1]) rfl rfl rfl rfl rfl (fun w => KgV _ w) (by decide) rfl (fun g15 => ?_);refine TL.mv ?_;refine TL.pM _ _ rfl Ke7 (fun w1 hw => Kfq A0 c0 a w1 (hr.up hw.bel) hl1) ?_;rintro ⟨⟨R17, rc17⟩, hR171, hR172⟩;dsimp only [lC, lN];refine TL.rn 2 rfl (zET (zS (zB ?_)));refine TC.loop_ (α := {z : Nat × ((Option Addr × Nat) × List Int) × ((Option Addr × Nat) × List Int) // (z.1 <= k0 /\ z.2.1.2.length <= 1000) /\ PwI (Ka a ^ k0) z.2.1.2 z.2.2.2 z.1 /\ (z.2.1.2.length <= z.2.1.1.2 /\ z.2.1.1.2 <= maxLen) /\ z.2.2.2.length <= z.2.2.1.2 /\ z.2.2.1.2 <= maxLen}) (fun z => [(1, .int .i64 ((z.1.1 : Nat) : Int)), (6, .slice z.1.2.1.1.1 z.1.2.1.2.length z.1.2.1.1.2), (7, .slice z.1.2.2.1.1 z.1.2.2.2.length z.1.2.2.1.2)]) (fun z => Pm w [.row (.slice z.1.2.1.1.1 z.1.2.1.2.length z.1.2.1.1.2) 3 1 z.1.2.1.2.length (Kb (ic .i64) z.1.2.1.2), .row (.slice z.1.2.2.1.1 z.1.2.2.2.length z.1.2.2.1.2) 3 1 z.1.2.2.2.length (Kb (ic .i64) z.1.2.2.2)]) (fun z => z.1.1) (⟨(k0, ((some ⟨g15, 0, none⟩, 1), [1]), ((R17, rc17), a)), ⟨Nat.le_refl _, by show 1 <= 1000; decide⟩, PwI.start ha, ⟨Nat.le_refl _, by show 1 <= maxLen; unfold maxLen; omega⟩, hR171, hR172⟩) ⟨rfl, rfl, rfl, trivial⟩ (fun w1 hw => hw.pk [1, 0]) ?_;rintro ⟨⟨k, ⟨⟨Ao, co⟩, o⟩, ⟨⟨Aq, cq⟩, q⟩⟩, ⟨hkk, hlo⟩, hI, ⟨hoc, hom⟩, hqc, hqm⟩;dsimp only at hkk hlo hI hoc hom hqc hqm ⊢;refine zS (zSG (TL.mv ?_));refine TL.sp KC (fun q19 => ?_) (fun q19 => ?_)
 ·refine zET (zc (zk (zT (zS (zB (zSG (TL.as_ ?_)))))));refine zET (zS (zS ?_));have hlq : q.length <= 256 := hI.lq hlim (by omega);refine zG (TL.mv ?_);refine TL.w rfl (Ke (v := .int .i64 (((k % 2 : Nat)) : Int)) rfl rfl rfl (fun w => (KaW (by simp) w).trans (by rw [KsS _ (by omega) (by omega)]; congr 2))) ?_;refine TL.sp KK (fun q24 => ?_) (fun q24 => ?_)
  ·refine zET (zc (zSG (TL.rn 2 rfl ?_)));refine TL.pM _ _ rfl Kdc (fun w1 hw => Kc2 Ao co o Aq cq q w1 (Kk hw (k := 0) rfl) (by omega) (Kk hw (k := 1) rfl) (by omega) hI.no hI.nq (by have h9 := hI.mul1 (by omega); omega)) ?_;rintro ⟨⟨⟨Apr, cpr⟩, pr⟩, hpr, hprc, hprm⟩;dsimp only [lC, lN];dsimp only at hpr hprc hprm ⊢;refine TL.rn 5 rfl (zET (zSG (TL.mv ?_)));refine TL.w rfl (Ke rfl rfl rfl (fun w => KaV rfl w)) ?_;refine zET (zd (zk (zT (zSG (TL.mv ?_)))));refine TL.sp KC (fun q35 => ?_) (fun q35 => ?_)
   ·refine zET (zc (zSG (TL.rn 2 rfl ?_)));refine TL.pM _ _ rfl Kdc (fun w1 hw => Kc2 Aq cq q Aq cq q w1 (Kk hw (k := 2) rfl) (by omega) (Kk hw (k := 2) rfl) (by omega) hI.nq hI.nq (by have h9 := hI.mul2 (by omega); omega)) ?_;rintro ⟨⟨⟨As2, cs2⟩, s2⟩, hs2, hs2c, hs2m⟩;dsimp only [lC, lN];dsimp only at hs2 hs2c hs2m ⊢;refine TL.rn 5 rfl (zET (zSG (TL.mv ?_)));refine TL.w rfl (Ke rfl rfl rfl (fun w => KaV rfl w)) ?_;refine zET (zd (zk (zN (zT (zG (TL.mv ?_))))));refine TL.w rfl (Ke (v := .int .i64 (((k / 2 : Nat)) : Int)) rfl rfl rfl (fun w => KaR 2 (by decide) (by decide) rfl w)) ?_;refine TL.as_ ?_;refine zE ?_;exact TX.rd (⟨(k / 2, ((Apr, cpr), pr), ((As2, cs2), s2)), ⟨by dsimp only; omega, by dsimp only; have h9 := hpr.1.len256 (by rw [hpr.2]; have h8 := hI.mul1 (by omega); omega); omega⟩, hI.odd (by omega) (by omega) hpr hs2, ⟨hprc, hprm⟩, hs2c, hs2m⟩) (by show k / 2 < k; omega) (fun w1 hw => hw.pk [1, 0])
   refine zET (zd (zk (zN (zT (zG (TL.mv ?_))))));refine TL.w rfl (Ke (v := .int .i64 (((k / 2 : Nat)) : Int)) rfl rfl rfl (fun w => KaR 2 (by decide) (by decide) rfl w)) ?_;refine TL.as_ ?_;refine zE ?_;exact TX.rd (⟨(k / 2, ((Apr, cpr), pr), ((Aq, cq), q)), ⟨by dsimp only; omega, by dsimp only; have h9 := hpr.1.len256 (by rw [hpr.2]; have h8 := hI.mul1 (by omega); omega); omega⟩, hI.last (by omega) (by omega) hpr , ⟨hprc, hprm⟩, hqc, hqm⟩) (by show k / 2 < k; omega) (fun w1 hw => hw.pk [0, 2])
  refine zET (zd (zk (zT (zSG (TL.mv ?_)))));refine TL.sp KC (fun q35 => ?_) (fun q35 => ?_)
  ·refine zET (zc (zSG (TL.rn 2 rfl ?_)));refine TL.pM _ _ rfl Kdc (fun w1 hw => Kc2 Aq cq q Aq cq q w1 (Kk hw (k := 1) rfl) (by omega) (Kk hw (k := 1) rfl) (by omega) hI.nq hI.nq (by have h9 := hI.mul2 (by omega); omega)) ?_;rintro ⟨⟨⟨As2, cs2⟩, s2⟩, hs2, hs2c, hs2m⟩;dsimp only [lC, lN];dsimp only at hs2 hs2c hs2m ⊢;refine TL.rn 5 rfl (zET (zSG (TL.mv ?_)));refine TL.w rfl (Ke rfl rfl rfl (fun w => KaV rfl w)) ?_;refine zET (zd (zk (zN (zT (zG (TL.mv ?_))))));refine TL.w rfl (Ke (v := .int .i64 (((k / 2 : Nat)) : Int)) rfl rfl rfl (fun w => KaR 2 (by decide) (by decide) rfl w)) ?_;refine TL.as_ ?_;refine zE ?_;exact TX.rd (⟨(k / 2, ((Ao, co), o), ((As2, cs2), s2)), ⟨by dsimp only; omega, hlo⟩, hI.even (by omega) (by omega)  hs2, ⟨hoc, hom⟩, hs2c, hs2m⟩) (by show k / 2 < k; omega) (fun w1 hw => hw.pk [1, 0])
  refine zET (zd (zk (zN (zT (zG (TL.mv ?_))))));refine TL.w rfl (Ke (v := .int .i64 (((k / 2 : Nat)) : Int)) rfl rfl rfl (fun w => KaR 2 (by decide) (by decide) rfl w)) ?_;refine TL.as_ ?_;refine zE ?_;exact TX.rd (⟨(k / 2, ((Ao, co), o), ((Aq, cq), q)), absurd (show k % 2 = 1 by omega) (fun h => q24 (by omega)), by dsimp only; omega, by dsimp only; omega⟩) (by show k / 2 < k; omega) (fun w1 hw => hw)
 refine zET (zd (zx (zX (zX (zM (zT (zSG (TL.rn 3 rfl (zET (zr ?_))))))))));have hdn := hI.done (by omega);exact K2 (v1 := .slice Ao o.length co) (v2 := .int .i64 0) Tryz.results253 rfl rfl (fun w1 hw => ⟨⟨((Ao, co), o), hdn, hoc, hom⟩, rfl, hw.pick [0] (by decide) rfl⟩)
theorem Kpy (n k : Nat) (w : World) (hn : n <= 16) (hk : k <= n) :
  Calls Tryz.prog 254 #[.int .i64 ((n : Nat) : Int), .int .i64 ((k : Nat) : Int)] w fun e w' => ∃ x : {y : (Option Addr × Nat) × List Int // (Nrm y.2 /\ Ka y.2 = ((Kaz n k : Nat) : Int)) /\ y.2.length <= y.1.2 /\ y.1.2 <= maxLen}, e = .returned (.tuple #[.slice x.1.1.1 x.1.2.length x.1.1.2, .int .i64 0]) /\ Pm w [.row (.slice x.1.1.1 x.1.2.length x.1.1.2) 3 1 x.1.2.length (Kb (ic .i64) x.1.2)] w' := by
 refine Kj Tryz.func254 rfl rfl rfl ?_ (Pm.start w);refine zSG (TL.rn 2 rfl (zET (zS (zSG (TL.mv ?_)))));refine TL.sp Kr (fun q11 => ?_) (fun q11 => ?_)
 ·exfalso; omega
 refine TL.rn 2 rfl (TL.gu ?_);refine TL.sp KC (fun q14 => ?_) (fun q14 => ?_)
 ·exfalso; omega
 refine TL.rn 3 rfl (TL.gu ?_);refine TL.sp Kr (fun q18 => ?_) (fun q18 => ?_)
 ·exfalso; omega
 refine TL.rn 3 rfl (TL.gu ?_);refine TL.sp KC (fun q22 => ?_) (fun q22 => ?_)
 ·exfalso; omega
 refine TL.pk ?_;refine zET (zd (zk (zT (zS (zSG (TL.rn 2 rfl ?_))))));refine TL.sp KC (fun q26 => ?_) (fun q26 => ?_)
 ·exfalso; omega
 refine zET (zd (zk (zT (zSG ?_))));refine TL.prowS (e := 3) (size := 1) (cs := Kb (ic .i64) [1]) rfl rfl rfl rfl rfl (fun w => KgV _ w) (by decide) rfl (fun g27 => ?_);refine TL.as_ ?_;refine zET (zS (zSG (TL.rn 2 rfl (zET (zB ?_)))));refine TC.lp (α := {z : Nat × (Option Addr × Nat) × List Int // z.1 <= k /\ (Nrm z.2.2 /\ Ka z.2.2 = ((Kaz n z.1 : Nat) : Int)) /\ z.2.2.length <= z.2.1.2 /\ z.2.1.2 <= maxLen}) [0, 28] rfl (fun z => [(29, .int .i64 ((z.1.1 : Nat) : Int)), (6, .slice z.1.2.1.1 z.1.2.2.length z.1.2.1.2)]) (fun z => Pm w [.row (.slice z.1.2.1.1 z.1.2.2.length z.1.2.1.2) 3 1 z.1.2.2.length (Kb (ic .i64) z.1.2.2)]) (fun z => k - z.1.1) (⟨(0, (some ⟨g27, 0, none⟩, 1), [1]), Nat.zero_le _, ⟨Kit (by decide) (by decide), rfl⟩, Nat.le_refl _, by show 1 <= maxLen; unfold maxLen; omega⟩) (fun w1 hw => hw) ?_;rintro ⟨⟨i, ⟨Ao, co⟩, o⟩, hi, ⟨hN, hv⟩, hoc, hom⟩;dsimp only at hi hN hv hoc hom ⊢;have hol : o.length <= 256 := hN.len256 (by rw [hv]; exact KmL hn (by omega));refine zSG ?_;refine TL.sp Kr (fun q30 => ?_) (fun q30 => ?_)
 ·refine zET (zS (zc (zk (zT (zS (zB (zSG (TL.rn 2 rfl (zET (zSG (TL.rn 3 rfl ?_)))))))))));refine TL.w rfl (Ke rfl rfl rfl (fun w => KA (r := ((n - i : Nat) : Int)) (by simp only [IntKind.wrap_i64]; omega) w)) ?_;refine TL.prowS (e := 3) (size := 1) (cs := Kb (ic .i64) [((n - i : Nat) : Int)]) rfl rfl rfl rfl rfl (fun w => KgV _ w) (by decide) rfl (fun g37 => ?_);refine TL.pM _ _ rfl Kdc (fun w1 hw => Kc2 Ao co o (some ⟨g37, 0, none⟩) 1 [((n - i : Nat) : Int)] w1 (Kk hw (k := 1) rfl) (by omega) (Kk hw (k := 0) rfl) (by show 1 <= 1000; decide) hN (Kit (by omega) (by omega)) (by rw [hv, KgB]; exact KlV hn (by omega))) ?_;rintro ⟨⟨⟨Apr, cpr⟩, pr⟩, hpr, hprc, hprm⟩;dsimp only [lC, lN];dsimp only at hpr hprc hprm ⊢;refine TL.rn 5 rfl (zET (zS (zSG (TL.mv ?_))));refine TL.w rfl (Ke rfl rfl rfl (fun w => KaV rfl w)) ?_;refine zET (zd (zk (zT ?_)));have hprl : pr.length <= 256 := hpr.1.len256 (by rw [hpr.2, hv, KgB]; exact KlV hn (by omega));refine zG (TL.rn 2 rfl (TL.v (gD ((i + 1 : Nat) : Int)) ?_));refine TL.pM _ _ rfl Kmf (fun w1 hw => Kl4 Apr cpr pr ((i + 1 : Nat) : Int) w1 (Kk hw (k := 0) rfl) (by omega) hpr.1.1 (by omega) (by omega)) ?_;rintro ⟨⟨⟨⟨Aqs, cqs⟩, qs⟩, rs⟩, hqs, hqsc, hqsm⟩;dsimp only [lC, lN];dsimp only at hqs hqsc hqsm ⊢;refine TL.rn 4 rfl (zE (zN (zT (zG (TL.v (gD ((i + 1 : Nat) : Int)) ?_)))));refine TL.mv ?_;refine zE ?_;exact TX.rd (⟨(i + 1, (Aqs, cqs), qs), by dsimp only; omega, ⟨hqs.1, KrZ hpr.2 hv hqs.2 (by omega)⟩, hqsc, hqsm⟩) (by show k - (i + 1) < k - i; omega) (fun w1 hw => hw.pk [0])
 refine zET (zS (zd (zx (zX (zX (zM (zT (zSG (TL.rn 3 rfl (zET (zr ?_)))))))))));have hik : i = k := by omega
 exact K2 (v1 := .slice Ao o.length co) (v2 := .int .i64 0) Tryz.results254 rfl rfl (fun w1 hw => ⟨⟨((Ao, co), o), ⟨hN, by rw [<- hik]; exact hv⟩, hoc, hom⟩, rfl, hw⟩)
set_option maxRecDepth 20000
structure FrG (n d : List Int) : Prop where
 nn : Nrm n
 nd : Nrm d
 n60 : Ka n < pB 60
 d60 : Ka d < pB 60
 pos : 0 < Ka d
theorem Nrm.len60 {l : List Int} (h : Nrm l) (hl : Ka l < pB 60) : l.length <= 60 := by
 refine Decidable.by_contra fun hn => ?_;have h1 := h.pos (by omega);have h2 := Kan (show 60 <= l.length - 1 by omega);omega
theorem FrG.ln {n d : List Int} (h : FrG n d) : n.length <= 60 := h.nn.len60 h.n60
theorem FrG.ld {n d : List Int} (h : FrG n d) : d.length <= 60 := h.nd.len60 h.d60
theorem Kn9 {x y : Int} (hx : 0 <= x /\ x < pB 60) (hy : 0 <= y /\ y < pB 60) : x * y < pB 120 := by
 have h1 : x * y <= x * pB 60 := Int.mul_le_mul_of_nonneg_left (by omega) hx.1;have h2 : x * pB 60 < pB 60 * pB 60 := Int.mul_lt_mul_of_pos_right hx.2 (KV 60);rw [<- Kc8] at h2;exact Int.lt_of_le_of_lt h1 h2
theorem KpB : pB 120 <= pB 255 /\ pB 255 + pB 255 <= pB 256 := by
 refine ⟨Kan (by decide), ?_⟩;have h : pB 256 = 1073741824 * pB 255 := Kac 255;have := KV 255;omega
theorem FrG.mul {n d n' d' : List Int} (h : FrG n d) (h' : FrG n' d') : Ka n * Ka d' < pB 256 := by
 have h1 := Kn9 ⟨Kz h.nn.1, h.n60⟩ ⟨Kz h'.nd.1, h'.d60⟩;have := KpB;have := KV 255;omega
theorem KpG {p q d : List Int} (h : Nrm d /\ Ka d = if Ka p < Ka q then Ka q - Ka p else Ka p - Ka q) (hd : d.length = 0) : Kl (Ka p) (Ka q) = 0 := by
 have h1 := h.2;rw [List.eq_nil_of_length_eq_zero hd] at h1;refine Kbe.2 ?_;split at h1
 ·have : (0 : Int) = Ka q - Ka p := h1;omega
 have : (0 : Int) = Ka p - Ka q := h1;omega
theorem Knx {p q : List Int} (h : Ka p < Ka q) : Kl (Ka p) (Ka q) = -1 := Kd4 h
theorem Ko4 {p q d : List Int} (h : Nrm d /\ Ka d = if Ka p < Ka q then Ka q - Ka p else Ka p - Ka q) (hge : ¬ Ka p < Ka q) (hd : d ≠ []) : Kl (Ka p) (Ka q) = 1 := by
 have h1 := h.2;rw [if_neg hge] at h1;refine KdW ?_;have h2 : Ka d ≠ 0 := fun e => hd (h.1.zero.1 e);omega
def Kag (N D : Int) (n d : List Int) : Prop := Nrm n /\ Nrm d /\ ∃ g : Int, 1 <= g /\ N = Ka n * g /\ D = Ka d * g
theorem Krz {g : List Int} {x y : Int} (hg : Nrm g) (h : Ka g = (Int.gcd x y : Int)) (hy : 0 < y) : 0 < g.length := by
 rcases Nat.eq_zero_or_pos g.length with h1 | h1
 ·rw [List.eq_nil_of_length_eq_zero h1] at h;have h2 : (Int.gcd x y : Int) = 0 := h.symm;have h3 := Int.gcd_dvd_right x y;rw [h2, Int.zero_dvd] at h3;omega
 exact h1
theorem KjG {a g q r : List Int} (h : Kdj a g q r) (hd : (Ka g : Int) ∣ Ka a) : Ka a = Ka q * Ka g := by
 obtain ⟨_, _, h1, h2, h3⟩ := h;obtain ⟨k, hk⟩ := hd;have h4 : Ka r = Ka g * (k - Ka q) := by rw [Int.mul_sub, Int.mul_comm _ (Ka q)]; omega
 rcases Int.lt_trichotomy (k - Ka q) 0 with h5 | h5 | h5
 ·have : Ka g * (k - Ka q) <= Ka g * (-1) := Int.mul_le_mul_of_nonneg_left (by omega) (by omega);omega
 ·rw [h5, Int.mul_zero] at h4; omega
 have : Ka g * 1 <= Ka g * (k - Ka q) := Int.mul_le_mul_of_nonneg_left (by omega) (by omega);omega
theorem Ks3 {a b g q r q' r' : List Int} (hg : Ka g = (Int.gcd (Ka a) (Ka b) : Int)) (hb : 0 < Ka b) (h : Kdj a g q r) (h' : Kdj b g q' r') : Kag (Ka a) (Ka b) q q' := by
 have e1 := KjG h (by rw [hg]; exact Int.gcd_dvd_left _ _);have e2 := KjG h' (by rw [hg]; exact Int.gcd_dvd_right _ _);refine ⟨h.1, h'.1, Ka g, ?_, e1, e2⟩;have h0 : 0 <= Ka g := by rw [hg]; omega
 rcases (show Ka g = 0 \/ 1 <= Ka g by omega) with h1 | h1
 ·rw [h1, Int.mul_zero] at e2; omega
 exact h1
theorem Khc : FA Tryz.prog 52 0 0 := fun g o w => by kernel_rfl
theorem KaB (w : World) : (isAgg 4).run Tryz.prog w = .ok false w := rfl
theorem KgS : FA Tryz.prog 52 1 1 := fun g o w => by kernel_rfl
theorem Kbs (w : World) : (isAgg 50).run Tryz.prog w = .ok false w := rfl
theorem KhA : FA Tryz.prog 52 2 2 := fun g o w => by kernel_rfl
theorem KcR (w : World) : (zeroValue 52).run Tryz.prog w = .ok (.agg #[.bool false, .slice none 0 0, .slice none 0 0]) w := rfl
theorem KsE (a0_0 : Bool) (a1_0 : Option Addr) (a1_0n a1_0c : Nat) (a2_0 : Option Addr) (a2_0n a2_0c : Nat) (w : World) : (Instr.build 52 #[(0, .bool a0_0), (1, .slice a1_0 a1_0n a1_0c), (2, .slice a2_0 a2_0n a2_0c)]).run Tryz.prog w = .ok (.agg #[.bool a0_0, .slice a1_0 a1_0n a1_0c, .slice a2_0 a2_0n a2_0c]) w := by kernel_rfl
theorem Kai (w : World) : (sizeOf 52).run Tryz.prog w = .ok 3 w := rfl
theorem Kfx {a0 : Bool} {a1 : Option Addr} {n1 c1 : Nat} {a2 : Option Addr} {n2 c2 : Nat} : ∀ u ∈ [(.bool a0 : Value), .slice a1 n1 c1, .slice a2 n2 c2], u.oneCell' = true := by
 intro u hu;simp only [List.mem_cons, List.not_mem_nil, or_false] at hu;rcases hu with rfl | rfl | rfl <;> rfl
theorem KdY (A0 : Option Addr) (c0 : Nat) (a : List Int) (A1 : Option Addr) (c1 : Nat) (b : List Int) (w : World) (hr : Kd w w.heap.size 1 A0 a.length (Kb (ic .i64) a)) (hl1 : a.length <= 1000) (hr1 : Kd w w.heap.size 1 A1 b.length (Kb (ic .i64) b)) (hl2 : b.length <= 1000) (ha : Nrm a) (hb : Nrm b) (hlim : Ka a * Ka b < pB 256) :
  Calls Tryz.prog 125 #[.slice A0 a.length c0, .slice A1 b.length c1] w fun e w' => ∃ x : {y : (Option Addr × Nat) × List Int // (Nrm y.2 /\ Ka y.2 = Ka a * Ka b) /\ y.2.length <= y.1.2 /\ y.1.2 <= maxLen}, e = .returned (.slice x.1.1.1 x.1.2.length x.1.1.2) /\ Pm w [.row (.slice x.1.1.1 x.1.2.length x.1.1.2) 3 1 x.1.2.length (Kb (ic .i64) x.1.2)] w' := by
 refine Kj Tryz.func125 rfl rfl rfl ?_ (Pm.start w);refine zSG (TL.as_ ?_);refine zET (zSG (TL.rn 2 rfl ?_));refine TL.pM _ _ rfl Kdc (fun w1 hw => Kc2 A0 c0 a A1 c1 b w1 (hr.up hw.bel) hl1 (hr1.up hw.bel) hl2 ha hb hlim) ?_;rintro ⟨⟨⟨Apr, cpr⟩, pr⟩, hpr, hprc, hprm⟩;dsimp only [lC, lN];dsimp only at hpr hprc hprm ⊢;refine TL.rn 5 rfl (zET (zSG (TL.rn 2 rfl (zET (zr ?_)))));exact Kg Tryz.results125 rfl (fun w1 hw => ⟨⟨((Apr, cpr), pr), hpr, hprc, hprm⟩, rfl, hw⟩)
theorem Kt5 (A0 : Option Addr) (c0 : Nat) (a : List Int) (A1 : Option Addr) (c1 : Nat) (b : List Int) (w : World) (hr : Kd w w.heap.size 1 A0 a.length (Kb (ic .i64) a)) (hl1 : a.length <= 1000) (hr1 : Kd w w.heap.size 1 A1 b.length (Kb (ic .i64) b)) (hl2 : b.length <= 1000) (ha : Nrm a) (hb : Nrm b) (hlim : Ka a + Ka b < pB 256) :
  Calls Tryz.prog 124 #[.bool false, .slice A0 a.length c0, .bool false, .slice A1 b.length c1] w fun e w' => ∃ x : {y : (Option Addr × Nat) × List Int // (Nrm y.2 /\ Ka y.2 = Ka a + Ka b) /\ y.2.length <= y.1.2 /\ y.1.2 <= maxLen}, e = .returned (.tuple #[.bool false, .slice x.1.1.1 x.1.2.length x.1.1.2]) /\ Pm w [.row (.slice x.1.1.1 x.1.2.length x.1.1.2) 3 1 x.1.2.length (Kb (ic .i64) x.1.2)] w' := by
 refine Kj Tryz.func124 rfl rfl rfl ?_ (Pm.start w);refine zSG (TL.rn 2 rfl (zET (zS (zSG (TL.rn 2 rfl ?_)))));refine TL.w rfl (Ka0 (v := .bool true) rfl rfl rfl (fun w => Kiu Tryz.underlying4 false false w)) ?_;refine zET (zc (zSG (TL.rn 2 rfl ?_)));refine TL.pM _ _ rfl Kj9 (fun w1 hw => Knr A0 c0 a A1 c1 b w1 (hr.up hw.bel) hl1 (hr1.up hw.bel) hl2 ha hb hlim) ?_;rintro ⟨⟨⟨Asm, csm⟩, sm⟩, hsm, hsmc, hsmm⟩;dsimp only [lC, lN];dsimp only at hsm hsmc hsmm ⊢;refine TL.rn 5 rfl (zET (zSG (TL.rn 4 rfl (zET (zr (zR ?_))))));exact K2 (v1 := .bool false) (v2 := .slice Asm sm.length csm) Tryz.results124 rfl rfl (fun w1 hw => ⟨⟨((Asm, csm), sm), hsm, hsmc, hsmm⟩, rfl, hw⟩)
theorem KoK (A0 : Option Addr) (c0 : Nat) (a : List Int) (A1 : Option Addr) (c1 : Nat) (b : List Int) (w : World) (hr : Kd w w.heap.size 1 A0 a.length (Kb (ic .i64) a)) (hl1 : a.length <= 1000) (hr1 : Kd w w.heap.size 1 A1 b.length (Kb (ic .i64) b)) (hl2 : b.length <= 1000) (ha : Nrm a) (hb : Nrm b) (hlim : Ka a < pB 256) (hlim2 : Ka b < pB 256) :
  Calls Tryz.prog 124 #[.bool false, .slice A0 a.length c0, .bool true, .slice A1 b.length c1] w fun e w' => ∃ x : {y : (Option Addr × Nat) × List Int // (Nrm y.2 /\ Ka y.2 = if Ka a < Ka b then Ka b - Ka a else Ka a - Ka b) /\ y.2.length <= y.1.2 /\ y.1.2 <= maxLen}, e = .returned (.tuple #[.bool (decide (Ka a < Ka b)), .slice x.1.1.1 x.1.2.length x.1.1.2]) /\ Pm w [.row (.slice x.1.1.1 x.1.2.length x.1.1.2) 3 1 x.1.2.length (Kb (ic .i64) x.1.2)] w' := by
 refine Kj Tryz.func124 rfl rfl rfl ?_ (Pm.start w);refine zSG (TL.rn 2 rfl (zET (zS (zSG (TL.rn 2 rfl ?_)))));refine TL.w rfl (Ka0 (v := .bool false) rfl rfl rfl (fun w => Kiu Tryz.underlying4 false true w)) ?_;refine zET (zd (zk (zT (zS (zSG (TL.rn 2 rfl ?_))))));refine TL.p1 rfl KfE (fun w1 hw => Kgc A0 c0 a A1 c1 b w1 (hr.up hw.bel) (by omega) (hr1.up hw.bel) (by omega) ha hb) ?_;refine TL.sp Kr (fun q28 => ?_) (fun q28 => ?_)
 ·have hlt := Kax.1 q28;have hdbtrue := decide_eq_true hlt;have habtrue : Ka b - Ka a = if Ka a < Ka b then Ka b - Ka a else Ka a - Ka b := (if_pos hlt).symm;refine zET (zc (zG (TL.rn 6 rfl (zET (zSG (TL.rn 2 rfl ?_))))));refine TL.pM _ _ rfl Kga (fun w1 hw => KhR A1 c1 b A0 c0 a w1 (hr1.up hw.bel) hl2 (hr.up hw.bel) hl1 hb ha (by omega) (by omega)) ?_;rintro ⟨⟨⟨Adf, cdf⟩, df⟩, hdf, hdfc, hdfm⟩;dsimp only [lC, lN];dsimp only at hdf hdfc hdfm ⊢;refine TL.rn 5 rfl (zET (zSG (TL.rn 4 rfl (zET (zr ?_)))));exact K2 (v1 := .bool true) (v2 := .slice Adf df.length cdf) Tryz.results124 rfl rfl (fun w1 hw => ⟨⟨((Adf, cdf), df), ⟨hdf.1, by rw [hdf.2]; exact habtrue⟩, hdfc, hdfm⟩, by rw [hdbtrue], hw⟩)
 have hge : ¬ Ka a < Ka b := fun h => q28 (Kax.2 h);have hdbfalse := decide_eq_false hge;have habfalse : Ka a - Ka b = if Ka a < Ka b then Ka b - Ka a else Ka a - Ka b := (if_neg hge).symm;refine zET (zd (zk (zT (zSG (TL.rn 2 rfl ?_)))));refine TL.pM _ _ rfl Kga (fun w1 hw => KhR A0 c0 a A1 c1 b w1 (hr.up hw.bel) hl1 (hr1.up hw.bel) hl2 ha hb (by omega) (by omega)) ?_;rintro ⟨⟨⟨Adf, cdf⟩, df⟩, hdf, hdfc, hdfm⟩;dsimp only [lC, lN];dsimp only at hdf hdfc hdfm ⊢;refine TL.rn 5 rfl (zET (zSG (TL.rn 4 rfl (zET (zr ?_)))));exact K2 (v1 := .bool false) (v2 := .slice Adf df.length cdf) Tryz.results124 rfl rfl (fun w1 hw => ⟨⟨((Adf, cdf), df), ⟨hdf.1, by rw [hdf.2]; exact habfalse⟩, hdfc, hdfm⟩, by rw [hdbfalse], hw⟩)
theorem KqC (Xa : Option Addr) (xac : Nat) (xn : List Int) (Xb : Option Addr) (xbc : Nat) (xd : List Int) (Ya : Option Addr) (yac : Nat) (yn : List Int) (Yb : Option Addr) (ybc : Nat) (yd : List Int) (w : World) (hxa : Kd w w.heap.size 1 Xa xn.length (Kb (ic .i64) xn)) (hxb : Kd w w.heap.size 1 Xb xd.length (Kb (ic .i64) xd)) (hx : FrG xn xd) (hya : Kd w w.heap.size 1 Ya yn.length (Kb (ic .i64) yn)) (hyb : Kd w w.heap.size 1 Yb yd.length (Kb (ic .i64) yd)) (hy : FrG yn yd) :
  Calls Tryz.prog 195 #[.agg #[.bool false, .slice Xa xn.length xac, .slice Xb xd.length xbc], .agg #[.bool false, .slice Ya yn.length yac, .slice Yb yd.length ybc]] w fun e w' => e = .returned (.tuple #[.int .i64 (Kl (Ka xn * Ka yd) (Ka yn * Ka xd)), .int .i64 0]) /\ Below w.heap.size w w' := by
 refine Kj Tryz.func195 rfl rfl rfl ?_ (Pm.start w);refine zSG ?_;refine TL.bx fun g2 => ?_;refine TL.bx fun g3 => ?_;refine TL.rn 2 rfl (zET (zS ?_));have hxl := hx.ln;have hxl2 := hx.ld;have hyl := hy.ln;have hyl2 := hy.ld;refine TC.hd 21 (Pm w [.blk g3 52 [.bool false, .slice Ya yn.length yac, .slice Yb yd.length ybc], .blk g2 52 [.bool false, .slice Xa xn.length xac, .slice Xb xd.length xbc]]) (fun w1 hw => hw) fun jS => ?_;refine TH.t 0 rfl (gF Khc) jS ?_;refine TH.t 1 rfl (gL 1 KaB) jS ?_;refine TH.t 2 rfl (gF KgS) jS ?_;refine TH.t 3 rfl (gL 1 Kbs) jS ?_;refine TH.t 4 rfl (gF KhA) jS ?_;refine TH.t 5 rfl (gL 0 Kbs) jS ?_;refine TH.t 7 rfl (gF Khc) jS ?_;refine TH.t 8 rfl (gL 0 KaB) jS ?_;refine TH.t 9 rfl (KbC rfl rfl) jS ?_;refine TH.t 10 rfl (gF KgS) jS ?_;refine TH.t 11 rfl (gL 0 Kbs) jS ?_;refine TH.t 12 rfl (gF KhA) jS ?_;refine TH.t 13 rfl (gL 1 Kbs) jS ?_;refine TH.o 6 ?_;refine TL.pM _ _ rfl KeF (fun w1 hw => KdY Xa xac xn Yb ybc yd w1 (hxa.up hw.bel) (by omega) (hyb.up hw.bel) (by omega) hx.nn hy.nd (hx.mul hy)) ?_;rintro ⟨⟨⟨Ap1, cp1⟩, p1⟩, hp1, hp1c, hp1m⟩;dsimp only [lC, lN];dsimp only at hp1 hp1c hp1m ⊢;refine zE ?_;refine TX.held (fun w1 hw => hw.pk [1, 2]) ?_;refine TH.o 14 ?_;refine TL.pM _ _ rfl KeF (fun w1 hw => KdY Ya yac yn Xb xbc xd w1 (hya.up hw.bel) (by omega) (hxb.up hw.bel) (by omega) hy.nn hx.nd (hy.mul hx)) ?_;rintro ⟨⟨⟨Ap2, cp2⟩, p2⟩, hp2, hp2c, hp2m⟩;dsimp only [lC, lN];dsimp only at hp2 hp2c hp2m ⊢;refine zE ?_;refine TX.held (fun w1 hw => hw.pk [2, 3]) ?_;refine TH.o 15 ?_;have hp1l := hp1.1.len256 (by rw [hp1.2]; exact hx.mul hy);have hp2l := hp2.1.len256 (by rw [hp2.2]; exact hy.mul hx);refine TL.pM _ _ rfl KjL (fun w1 hw => KoK Ap1 cp1 p1 Ap2 cp2 p2 w1 (Kk hw (k := 1) rfl) (by omega) (Kk hw (k := 0) rfl) (by omega) hp1.1 hp2.1 (by rw [hp1.2]; exact hx.mul hy) (by rw [hp2.2]; exact hy.mul hx)) ?_;rintro ⟨⟨⟨Adf, cdf⟩, df⟩, hdf, hdfc, hdfm⟩;dsimp only [lC, lN];dsimp only at hdf hdfc hdfm ⊢;refine zE ?_;refine TX.he (fun w1 hw => hw.pk [3, 4]) fun hS => ?_;refine TH.t 16 rfl (Ky rfl rfl) hS ?_;refine TH.t 17 rfl (Kch rfl rfl rfl) hS ?_;refine TH.t 18 rfl (Kch rfl rfl rfl) hS ?_;refine TH.t 19 rfl (KT rfl rfl) hS ?_;refine TH.t 20 rfl (KT rfl rfl) hS ?_;refine TH.done (by kernel_rfl) ?_;refine zT (zS (zB (zSG (TL.mv ?_))));refine TL.v (gN Tryz.underlying50) ?_;refine TL.sp KK (fun q30 => ?_) (fun q30 => ?_)
 ·refine TL.as_ ?_;refine zET (zc (zSG (TL.rn 2 rfl (zET (zr (zRR ?_))))));have hE : Kl (Ka xn * Ka yd) (Ka yn * Ka xd) = 0 := by rw [<- hp1.2, <- hp2.2]; exact KpG hdf (by omega)
  exact K2 (v1 := .int .i64 (0)) (v2 := .int .i64 0) Tryz.results195 rfl rfl (fun w1 hw => ⟨by rw [hE], hw.bel⟩)
 refine TL.as_ ?_;refine zET (zd (zSG (TL.mv ?_)));refine TL.vw rfl (KT rfl rfl) (fun h31 => ?_) (fun h31 => ?_)
 ·have hlt9 := of_decide_eq_true h31;refine zET (zc (zSG (TL.rn 2 rfl (zET (zr (zRR ?_))))));have hE : Kl (Ka xn * Ka yd) (Ka yn * Ka xd) = -1 := by rw [<- hp1.2, <- hp2.2]; exact Knx hlt9
  exact K2 (v1 := .int .i64 (-1)) (v2 := .int .i64 0) Tryz.results195 rfl rfl (fun w1 hw => ⟨by rw [hE], hw.bel⟩)
 have hge9 := of_decide_eq_false h31;refine zET (zd (zk (zN (zT (zSG (TL.rn 2 rfl (zET (zr ?_))))))));have hE : Kl (Ka xn * Ka yd) (Ka yn * Ka xd) = 1 := by rw [<- hp1.2, <- hp2.2]; exact Ko4 hdf hge9 (fun h => q30 (by rw [h]; rfl))
 exact K2 (v1 := .int .i64 (1)) (v2 := .int .i64 0) Tryz.results195 rfl rfl (fun w1 hw => ⟨by rw [hE], hw.bel⟩)
theorem Kjo (A0 : Option Addr) (c0 : Nat) (a : List Int) (A1 : Option Addr) (c1 : Nat) (b : List Int) (w : World) (hr : Kd w w.heap.size 1 A0 a.length (Kb (ic .i64) a)) (hl1 : a.length <= 1000) (hr1 : Kd w w.heap.size 1 A1 b.length (Kb (ic .i64) b)) (hl2 : b.length <= 1000) (ha : Nrm a) (hb : Nrm b) (hbp : 0 < Ka b) :
  Calls Tryz.prog 127 #[.bool false, .slice A0 a.length c0, .slice A1 b.length c1] w fun e w' => ∃ x : {y : ((Option Addr × Nat) × List Int) × ((Option Addr × Nat) × List Int) // (Kag (Ka a) (Ka b) y.1.2 y.2.2) /\ (y.1.2.length <= y.1.1.2 /\ y.1.1.2 <= maxLen) /\ y.2.2.length <= y.2.1.2 /\ y.2.1.2 <= maxLen}, e = .returned (.agg #[.bool false, .slice x.1.1.1.1 x.1.1.2.length x.1.1.1.2, .slice x.1.2.1.1 x.1.2.2.length x.1.2.1.2]) /\ Pm w [.row (.slice x.1.1.1.1 x.1.1.2.length x.1.1.1.2) 3 1 x.1.1.2.length (Kb (ic .i64) x.1.1.2), .row (.slice x.1.2.1.1 x.1.2.2.length x.1.2.1.2) 3 1 x.1.2.2.length (Kb (ic .i64) x.1.2.2)] w' := by
 refine Kj Tryz.func127 rfl rfl rfl ?_ (Pm.start w);refine zSG ?_;refine TL.al KcR fun g6 => ?_;refine zET (zSG (TL.rn 2 rfl ?_));refine TL.pM _ _ rfl Kpz (fun w1 hw => KuQ A0 c0 a A1 c1 b w1 (hr.up hw.bel) hl1 (hr1.up hw.bel) hl2 ha hb) ?_;rintro ⟨⟨⟨Agd, cgd⟩, gd⟩, hgd, hgdc, hgdm⟩;dsimp only [lC, lN];dsimp only at hgd hgdc hgdm ⊢;refine TL.as_ ?_;refine zET (zS ?_);have hgl : 0 < gd.length := Krz hgd.1 hgd.2.1 hbp;have hgl9 := hgd.2.2;refine zG (TL.rn 2 rfl ?_);refine TL.pM _ _ rfl Khs (fun w1 hw => KgI A0 c0 a Agd cgd gd w1 (hr.up hw.bel) hl1 (Kk hw (k := 0) rfl) (by omega) ha hgd.1 hgl hgdc) ?_;rintro ⟨⟨⟨⟨Aq1, cq1⟩, q1⟩, ⟨Ar1, cr1⟩, r1⟩, hqr1, ⟨hq1c, hq1m⟩, hr1c, hr1m⟩;dsimp only [lC, lN];dsimp only at hqr1 hq1c hq1m hr1c hr1m ⊢;refine TL.rn 7 rfl (zET (zSG (TL.rn 2 rfl ?_)));refine TL.pM _ _ rfl Khs (fun w1 hw => KgI A1 c1 b Agd cgd gd w1 (hr1.up hw.bel) hl2 (Kk hw (k := 2) rfl) (by omega) hb hgd.1 hgl hgdc) ?_;rintro ⟨⟨⟨⟨Aq2, cq2⟩, q2⟩, ⟨Ar2, cr2⟩, r2⟩, hqr2, ⟨hq2c, hq2m⟩, hr2c, hr2m⟩;dsimp only [lC, lN];dsimp only at hqr2 hq2c hq2m hr2c hr2m ⊢;refine TL.rn 7 rfl (zET (zSG (TL.rn 8 rfl ?_)));refine TL.w rfl (Kt (v := .agg #[.bool false, .slice Aq1 q1.length cq1, .slice Aq2 q2.length cq2]) rfl rfl (fun w => KsE _ _ _ _ _ _ _ w)) ?_;refine TL.ps 5 Kai ?_;refine zET (zr ?_);exact Kbx (k := 5) Tryz.results127 rfl rfl Tryz.underlying52 rfl rfl (fun w1 hw => ⟨⟨(((Aq1, cq1), q1), ((Aq2, cq2), q2)), Ks3 hgd.2.1 hbp hqr1 hqr2, ⟨hq1c, hq1m⟩, hq2c, hq2m⟩, rfl, hw.pick [2, 0] (by decide) rfl⟩)
set_option maxRecDepth 20000
theorem Kdr : pB 60 <= pB 256 := Kan (by decide)
theorem Kag.le {N D : Int} {n d : List Int} (h : Kag N D n d) (hN : 0 <= N) (hD : 0 < D) : Ka n <= N /\ Ka d <= D /\ 0 < Ka d := by
 obtain ⟨h1, h2, g, hg, e1, e2⟩ := h;have hn := Kz h1.1;have hd := Kz h2.1;have h3 : Ka n * 1 <= Ka n * g := Int.mul_le_mul_of_nonneg_left hg hn;have h4 : Ka d * 1 <= Ka d * g := Int.mul_le_mul_of_nonneg_left hg hd;refine ⟨by omega, by omega, ?_⟩;rcases (show Ka d = 0 \/ 0 < Ka d by omega) with h5 | h5
 ·rw [h5, Int.zero_mul] at e2; omega
 exact h5
theorem Kd0 {l : List Int} (h : 0 < Ka l) : 0 < l.length := by
 rcases Nat.eq_zero_or_pos l.length with h1 | h1
 ·rw [List.eq_nil_of_length_eq_zero h1] at h; exact absurd h (by decide)
 exact h1
theorem Kfw (g o : Nat) (w : World) : (Instr.fieldAt 52 (.pointer (some ⟨g, o, none⟩)) 1).run Tryz.prog w = .ok (.pointer (some ⟨g, o + 1, none⟩)) w := by kernel_rfl
theorem Kbp (w : World) : (isAgg 50).run Tryz.prog w = .ok false w := rfl
theorem Kmu : (Tryz.f158.name == "runtime.NumGoroutine") = false := by decide
theorem KmH : Tryz.f158.body.isNone = false := rfl
theorem KcL (g o : Nat) (w : World) : (Instr.fieldAt 52 (.pointer (some ⟨g, o, none⟩)) 2).run Tryz.prog w = .ok (.pointer (some ⟨g, o + 2, none⟩)) w := by kernel_rfl
theorem Kgx (g o : Nat) (w : World) : (Instr.fieldAt 52 (.pointer (some ⟨g, o, none⟩)) 0).run Tryz.prog w = .ok (.pointer (some ⟨g, o + 0, none⟩)) w := by kernel_rfl
theorem Kf3 (w : World) : (isAgg 4).run Tryz.prog w = .ok false w := rfl
theorem KiS (w : World) : (zeroValue 52).run Tryz.prog w = .ok (.agg #[.bool false, .slice none 0 0, .slice none 0 0]) w := rfl
theorem KjE (w : World) : (isAgg 52).run Tryz.prog w = .ok true w := rfl
theorem KeP (w : World) : (sizeOf 52).run Tryz.prog w = .ok 3 w := rfl
theorem KtR {a0 : Bool} {a1 : Option Addr} {n1 c1 : Nat} {a2 : Option Addr} {n2 c2 : Nat} : ∀ u ∈ [(.bool a0 : Value), .slice a1 n1 c1, .slice a2 n2 c2], u.oneCell' = true := by
 intro u hu;simp only [List.mem_cons, List.not_mem_nil, or_false] at hu;rcases hu with rfl | rfl | rfl <;> rfl
theorem KkU (A0 : Option Addr) (c0 : Nat) (a : List Int) (w : World) (hr : Kd w w.heap.size 1 A0 a.length (Kb (ic .i64) a)) (hl1 : a.length <= 1000) (ha : Nrm a) (hlen : a.length <= 64) :
  Calls Tryz.prog 158 #[.slice A0 a.length c0] w fun e w' => e = .returned (.bool true) /\ Below w.heap.size w w' := by
 refine Kj Tryz.func158 rfl rfl rfl ?_ (Pm.start w);refine zSG (TL.as_ ?_);refine zET (zSG (TL.mv ?_));refine TL.p1 rfl KnS (fun w1 hw => Kor A0 c0 a w1 (hr.up hw.bel) hl1 ha (by omega)) ?_;refine TL.rn 2 rfl (TL.ov (gN Tryz.underlying50) ?_);refine TL.gu ?_;refine TL.sp KbJ (fun q8 => ?_) (fun q8 => ?_)
 ·refine TL.rn 2 rfl (zET (zr ?_));exact Kg Tryz.results158 rfl (fun w1 hw => ⟨rfl, hw.bel⟩)
 exfalso; omega
theorem KkY (Xa : Option Addr) (xac : Nat) (xn : List Int) (Xb : Option Addr) (xbc : Nat) (xd : List Int) (w : World) (hxa : Kd w w.heap.size 1 Xa xn.length (Kb (ic .i64) xn)) (hxb : Kd w w.heap.size 1 Xb xd.length (Kb (ic .i64) xd)) (hxn : Nrm xn) (hxd : Nrm xd) (hxnl : xn.length <= 64) (hxdl : xd.length <= 64) (hxp : 0 < xd.length) :
  Calls Tryz.prog 104 #[.agg #[.bool false, .slice Xa xn.length xac, .slice Xb xd.length xbc]] w fun e w' => e = .returned (.bool true) /\ Below w.heap.size w w' := by
 refine Kj Tryz.func104 rfl rfl rfl ?_ (Pm.start w);refine zSG ?_;refine TL.bx fun g1 => ?_;refine TL.as_ ?_;refine zET (zSG (TL.as_ ?_));refine zET (zSG (TL.mv ?_));refine TL.v (gF Kfw) ?_;refine TL.v (gL 0 Kbp) ?_;refine TL.callE1 (r := .bool true) rfl rfl rfl (KdO rfl rfl rfl Tryz.func158 Kmu KmH rfl) (fun w1 hw => KkU Xa xac xn w1 (hxa.up hw.bel) (by omega) hxn (by omega)) ?_;refine TL.rn 2 rfl (TL.ov (gF KcL) ?_);refine TL.ov (gL 0 Kbp) ?_;refine TL.gu ?_;refine TL.callE1 (r := .bool true) rfl rfl rfl (KdO rfl rfl rfl Tryz.func158 Kmu KmH rfl) (fun w1 hw => KkU Xb xbc xd w1 (hxb.up hw.bel) (by omega) hxd (by omega)) ?_;refine TL.rn 2 rfl (TL.ov (gF KcL) ?_);refine TL.ov (gL 0 Kbp) ?_;refine TL.ov (gN Tryz.underlying50) ?_;refine TL.gu ?_;refine TL.sp KC (fun q18 => ?_) (fun q18 => ?_)
 ·refine TL.rn 2 rfl (TL.ov (gF Kgx) ?_);refine TL.ov (gL 0 Kf3) ?_;refine TL.rn 9 rfl (zET (zr ?_));exact Kg Tryz.results104 rfl (fun w1 hw => ⟨rfl, hw.bel⟩)
 exfalso; omega
theorem Kqy (Xa : Option Addr) (xac : Nat) (xn : List Int) (Xb : Option Addr) (xbc : Nat) (xd : List Int) (w : World) (hxa : Kd w w.heap.size 1 Xa xn.length (Kb (ic .i64) xn)) (hxb : Kd w w.heap.size 1 Xb xd.length (Kb (ic .i64) xd)) (hxn : Nrm xn) (hxd : Nrm xd) (hxnl : xn.length <= 64) (hxdl : xd.length <= 64) (hxp : 0 < xd.length) :
  Calls Tryz.prog 126 #[.agg #[.bool false, .slice Xa xn.length xac, .slice Xb xd.length xbc]] w fun e w' => e = .returned (.tuple #[.agg #[.bool false, .slice Xa xn.length xac, .slice Xb xd.length xbc], .int .i64 0]) /\ Below w.heap.size w w' := by
 refine Kj Tryz.func126 rfl rfl rfl ?_ (Pm.start w);refine zSG ?_;refine TL.bx fun g1 => ?_;refine TL.al KiS fun g2 => ?_;refine TL.as_ ?_;refine zET (zS (zSG (TL.v (gV 1 (.agg #[.bool false, .slice Xa xn.length xac, .slice Xb xd.length xbc]) KjE KeP) ?_)));refine TL.p1 rfl Kkm (fun w1 hw => KkY Xa xac xn Xb xbc xd w1 (hxa.up hw.bel) (hxb.up hw.bel) hxn hxd hxnl hxdl hxp) ?_;refine TL.w rfl (KbC rfl rfl) ?_;refine zET (zd (zk (zT (zSG (TL.v (gV 1 (.agg #[.bool false, .slice Xa xn.length xac, .slice Xb xd.length xbc]) KjE KeP) ?_)))));refine TL.ps 0 KeP ?_;refine TL.as_ ?_;refine zET (zr ?_);exact KbY (k := 0) (v := .int .i64 0) Tryz.results126 rfl rfl rfl Tryz.underlying52 rfl rfl (fun w1 hw => ⟨rfl, hw.bel⟩)
theorem KrX (Xa : Option Addr) (xac : Nat) (xn : List Int) (Xb : Option Addr) (xbc : Nat) (xd : List Int) (w : World) (hxa : Kd w w.heap.size 1 Xa xn.length (Kb (ic .i64) xn)) (hxb : Kd w w.heap.size 1 Xb xd.length (Kb (ic .i64) xd)) (hxn : Nrm xn) (hxd : Nrm xd) (hxl : xn.length <= 1000) (hxl2 : xd.length <= 1000) (hxp : 0 < Ka xd) :
  Calls Tryz.prog 218 #[.agg #[.bool false, .slice Xa xn.length xac, .slice Xb xd.length xbc]] w fun e w' => ∃ x : {y : ((Option Addr × Nat) × List Int) × ((Option Addr × Nat) × List Int) // (Kag (Ka xn) (Ka xd) y.1.2 y.2.2) /\ (y.1.2.length <= y.1.1.2 /\ y.1.1.2 <= maxLen) /\ y.2.2.length <= y.2.1.2 /\ y.2.1.2 <= maxLen}, e = .returned (.agg #[.bool false, .slice x.1.1.1.1 x.1.1.2.length x.1.1.1.2, .slice x.1.2.1.1 x.1.2.2.length x.1.2.1.2]) /\ Pm w [.row (.slice x.1.1.1.1 x.1.1.2.length x.1.1.1.2) 3 1 x.1.1.2.length (Kb (ic .i64) x.1.1.2), .row (.slice x.1.2.1.1 x.1.2.2.length x.1.2.1.2) 3 1 x.1.2.2.length (Kb (ic .i64) x.1.2.2)] w' := by
 refine Kj Tryz.func218 rfl rfl rfl ?_ (Pm.start w);refine zSG ?_;refine TL.bx fun g1 => ?_;refine TL.al KiS fun g2 => ?_;refine zET (zSG (TL.v (gF Kgx) ?_));refine TL.v (gL 1 Kf3) ?_;refine TL.v (gF Kfw) ?_;refine TL.v (gL 1 Kbp) ?_;refine TL.v (gF KcL) ?_;refine TL.v (gL 1 Kbp) ?_;refine TL.pM _ _ rfl KkQ (fun w1 hw => Kjo Xa xac xn Xb xbc xd w1 (hxa.up hw.bel) hxl (hxb.up hw.bel) hxl2 hxn hxd hxp) ?_;rintro ⟨⟨⟨⟨Ardn, crdn⟩, rdn⟩, ⟨Ardd, crdd⟩, rdd⟩, hrd, ⟨hrdnc, hrdnm⟩, hrddc, hrddm⟩;dsimp only [lC, lN];dsimp only at hrd hrdnc hrdnm hrddc hrddm ⊢;refine TL.ps 2 KeP ?_;refine zET (zr ?_);exact Kbx (k := 2) Tryz.results218 rfl rfl Tryz.underlying52 rfl rfl (fun w1 hw => ⟨⟨(((Ardn, crdn), rdn), ((Ardd, crdd), rdd)), hrd, ⟨hrdnc, hrdnm⟩, hrddc, hrddm⟩, rfl, hw.pick [0, 1] (by decide) rfl⟩)
theorem Ksr (Xa : Option Addr) (xac : Nat) (xn : List Int) (Xb : Option Addr) (xbc : Nat) (xd : List Int) (Ya : Option Addr) (yac : Nat) (yn : List Int) (Yb : Option Addr) (ybc : Nat) (yd : List Int) (w : World) (hxa : Kd w w.heap.size 1 Xa xn.length (Kb (ic .i64) xn)) (hxb : Kd w w.heap.size 1 Xb xd.length (Kb (ic .i64) xd)) (hx : FrG xn xd) (hya : Kd w w.heap.size 1 Ya yn.length (Kb (ic .i64) yn)) (hyb : Kd w w.heap.size 1 Yb yd.length (Kb (ic .i64) yd)) (hy : FrG yn yd) (hsN : Ka xn * Ka yd + Ka yn * Ka xd < pB 60) (hsD : Ka xd * Ka yd < pB 60) :
  Calls Tryz.prog 79 #[.agg #[.bool false, .slice Xa xn.length xac, .slice Xb xd.length xbc], .agg #[.bool false, .slice Ya yn.length yac, .slice Yb yd.length ybc]] w fun e w' => ∃ x : {y : ((Option Addr × Nat) × List Int) × ((Option Addr × Nat) × List Int) // (Kag (Ka xn * Ka yd + Ka yn * Ka xd) (Ka xd * Ka yd) y.1.2 y.2.2) /\ (y.1.2.length <= y.1.1.2 /\ y.1.1.2 <= maxLen) /\ y.2.2.length <= y.2.1.2 /\ y.2.1.2 <= maxLen}, e = .returned (.tuple #[.agg #[.bool false, .slice x.1.1.1.1 x.1.1.2.length x.1.1.1.2, .slice x.1.2.1.1 x.1.2.2.length x.1.2.1.2], .int .i64 0]) /\ Pm w [.row (.slice x.1.1.1.1 x.1.1.2.length x.1.1.1.2) 3 1 x.1.1.2.length (Kb (ic .i64) x.1.1.2), .row (.slice x.1.2.1.1 x.1.2.2.length x.1.2.1.2) 3 1 x.1.2.2.length (Kb (ic .i64) x.1.2.2)] w' := by
 refine Kj Tryz.func79 rfl rfl rfl ?_ (Pm.start w);refine zSG ?_;refine TL.bx fun g2 => ?_;refine TL.bx fun g3 => ?_;refine TL.al KiS fun g4 => ?_;refine TL.as_ ?_;refine zET (zS ?_);have hxl := hx.ln;have hxl2 := hx.ld;have hyl := hy.ln;have hyl2 := hy.ld;have hdd : Ka xd * Ka yd < pB 256 := by have := Kdr; omega
 refine TC.hd 20 (Pm w [.blk g4 52 [.bool false, .slice none 0 0, .slice none 0 0], .blk g3 52 [.bool false, .slice Ya yn.length yac, .slice Yb yd.length ybc], .blk g2 52 [.bool false, .slice Xa xn.length xac, .slice Xb xd.length xbc]]) (fun w1 hw => hw) fun jS => ?_;refine TH.t 0 rfl (gF Kgx) jS ?_;refine TH.t 1 rfl (gL 2 Kf3) jS ?_;refine TH.t 2 rfl (gF Kfw) jS ?_;refine TH.t 3 rfl (gL 2 Kbp) jS ?_;refine TH.t 4 rfl (gF KcL) jS ?_;refine TH.t 5 rfl (gL 1 Kbp) jS ?_;refine TH.t 7 rfl (gF Kgx) jS ?_;refine TH.t 8 rfl (gL 1 Kf3) jS ?_;refine TH.t 9 rfl (gF Kfw) jS ?_;refine TH.t 10 rfl (gL 1 Kbp) jS ?_;refine TH.t 11 rfl (gF KcL) jS ?_;refine TH.t 12 rfl (gL 2 Kbp) jS ?_;refine TH.o 6 ?_;refine TL.pM _ _ rfl KeF (fun w1 hw => KdY Xa xac xn Yb ybc yd w1 (hxa.up hw.bel) (by omega) (hyb.up hw.bel) (by omega) hx.nn hy.nd (hx.mul hy)) ?_;rintro ⟨⟨⟨Ap1, cp1⟩, p1⟩, hp1, hp1c, hp1m⟩;dsimp only [lC, lN];dsimp only at hp1 hp1c hp1m ⊢;refine zE ?_;refine TX.held (fun w1 hw => hw.pk [1, 2, 3]) ?_;refine TH.o 13 ?_;refine TL.pM _ _ rfl KeF (fun w1 hw => KdY Ya yac yn Xb xbc xd w1 (hya.up hw.bel) (by omega) (hxb.up hw.bel) (by omega) hy.nn hx.nd (hy.mul hx)) ?_;rintro ⟨⟨⟨Ap2, cp2⟩, p2⟩, hp2, hp2c, hp2m⟩;dsimp only [lC, lN];dsimp only at hp2 hp2c hp2m ⊢;refine zE ?_;refine TX.held (fun w1 hw => hw.pk [2, 3, 4]) ?_;refine TH.o 14 ?_;have hp1l := hp1.1.len256 (by rw [hp1.2]; exact hx.mul hy);have hp2l := hp2.1.len256 (by rw [hp2.2]; exact hy.mul hx);refine TL.pM _ _ rfl KjL (fun w1 hw => Kt5 Ap1 cp1 p1 Ap2 cp2 p2 w1 (Kk hw (k := 1) rfl) (by omega) (Kk hw (k := 0) rfl) (by omega) hp1.1 hp2.1 (by rw [hp1.2, hp2.2]; have := Kdr; omega)) ?_;rintro ⟨⟨⟨Asm, csm⟩, sm⟩, hsm, hsmc, hsmm⟩;dsimp only [lC, lN];dsimp only at hsm hsmc hsmm ⊢;refine zE ?_;refine TX.he (fun w1 hw => hw.pk [3, 4, 5]) fun hS => ?_;refine TH.t 15 rfl (Ky rfl rfl) hS ?_;refine TH.t 16 rfl (Kch rfl rfl rfl) hS ?_;refine TH.t 17 rfl (Kch rfl rfl rfl) hS ?_;refine TH.t 18 rfl (KT rfl rfl) hS ?_;refine TH.t 19 rfl (KT rfl rfl) hS ?_;refine TH.done (by kernel_rfl) ?_;refine zT (zSG (TL.rn 2 rfl (TL.v (gF KcL) ?_)));refine TL.v (gL 5 Kbp) ?_;refine TL.v (gF KcL) ?_;refine TL.v (gL 4 Kbp) ?_;refine TL.pM _ _ rfl KeF (fun w1 hw => KdY Xb xbc xd Yb ybc yd w1 (hxb.up hw.bel) (by omega) (hyb.up hw.bel) (by omega) hx.nd hy.nd hdd) ?_;rintro ⟨⟨⟨Ap3, cp3⟩, p3⟩, hp3, hp3c, hp3m⟩;dsimp only [lC, lN];dsimp only at hp3 hp3c hp3m ⊢;have hN : Ka sm = Ka xn * Ka yd + Ka yn * Ka xd := by rw [hsm.2, hp1.2, hp2.2]
 have hD : Ka p3 = Ka xd * Ka yd := hp3.2;have hsml := hsm.1.len60 (by rw [hN]; exact hsN);have hp3l := hp3.1.len60 (by rw [hD]; exact hsD);refine TL.pM _ _ rfl KkQ (fun w1 hw => Kjo Asm csm sm Ap3 cp3 p3 w1 (Kk hw (k := 1) rfl) (by omega) (Kk hw (k := 0) rfl) (by omega) hsm.1 hp3.1 (by rw [hp3.2]; exact Int.mul_pos hx.pos hy.pos)) ?_;rintro ⟨⟨⟨⟨Ardn, crdn⟩, rdn⟩, ⟨Ardd, crdd⟩, rdd⟩, hrd, ⟨hrdnc, hrdnm⟩, hrddc, hrddm⟩;dsimp only [lC, lN];dsimp only at hrd hrdnc hrdnm hrddc hrddm ⊢;have hle := hrd.le (Kz hsm.1.1) (by rw [hD]; exact Int.mul_pos hx.pos hy.pos);have hrdnl := hrd.1.len60 (by rw [hN] at hle; omega);have hrddl := hrd.2.1.len60 (by rw [hD] at hle; omega);have hrdp : 0 < rdd.length := Kd0 hle.2.2;refine TL.p1 rfl Kpk (fun w1 hw => Kqy Ardn crdn rdn Ardd crdd rdd w1 (Kk hw (k := 0) rfl) (Kk hw (k := 1) rfl) hrd.1 hrd.2.1 (by omega) (by omega) hrdp) ?_;refine TL.rn 2 rfl ?_;refine TL.pstore (k := 6) (vs := [.bool false, .slice Ardn rdn.length crdn, .slice Ardd rdd.length crdd]) rfl rfl rfl rfl rfl rfl rfl KeP KtR (by show 3 <= 3; decide) (L' := [.row (.slice Ardn rdn.length crdn) 3 1 rdn.length (Kb (ic .i64) rdn), .row (.slice Ardd rdd.length crdd) 3 1 rdd.length (Kb (ic .i64) rdd), .row (.slice Ap3 p3.length cp3) 3 1 p3.length (Kb (ic .i64) p3), .row (.slice Asm sm.length csm) 3 1 sm.length (Kb (ic .i64) sm), .row (.slice Ap2 p2.length cp2) 3 1 p2.length (Kb (ic .i64) p2), .row (.slice Ap1 p1.length cp1) 3 1 p1.length (Kb (ic .i64) p1), .blk g4 52 [.bool false, .slice Ardn rdn.length crdn, .slice Ardd rdd.length crdd], .blk g3 52 [.bool false, .slice Ya yn.length yac, .slice Yb yd.length ybc], .blk g2 52 [.bool false, .slice Xa xn.length xac, .slice Xb xd.length xbc]]) rfl ?_;refine TL.as_ ?_;refine zET (zr ?_);exact KbY (k := 6) (v := .int .i64 0) Tryz.results79 rfl rfl rfl Tryz.underlying52 rfl rfl (fun w1 hw => ⟨⟨(((Ardn, crdn), rdn), ((Ardd, crdd), rdd)), by rw [<- hN, <- hD]; exact hrd, ⟨hrdnc, hrdnm⟩, hrddc, hrddm⟩, rfl, hw.pick [0, 1] (by decide) rfl⟩)
set_option maxRecDepth 20000
def onT (n k i : Nat) : Nat := Kaz k i * (k - i) ^ n
def onS (n k : Nat) : Nat -> Nat × Nat
 | 0 => (0, 0)
 | i + 1 => if i % 2 = 0 then ((onS n k i).1 + onT n k i, (onS n k i).2) else ((onS n k i).1, (onS n k i).2 + onT n k i)
def KbB (n k : Nat) : Nat := (onS n k (k + 1)).1 - (onS n k (k + 1)).2
theorem Kjm {k n : Nat} (hk : k <= 16) (hn : n <= 128) : k ^ n <= 16 ^ 128 := Nat.le_trans (Nat.pow_le_pow_left hk n) (Nat.pow_le_pow_right (by decide) hn)
theorem Kf9 : pB 20 = ((1073741824 ^ 20 : Nat) : Int) := by rw [Int.natCast_pow]; rfl
theorem KeY {n k i : Nat} (hk : k <= 16) (hn : n <= 128) (hi : i <= k) : ((onT n k i : Nat) : Int) <= pB 20 := by
 have h1 := KiR hk (show i <= 16 by omega);have h2 := Kjm (show k - i <= 16 by omega) hn;have h3 : onT n k i <= 18446744073709551616 * 16 ^ 128 := Nat.mul_le_mul h1 h2;have h4 : 18446744073709551616 * 16 ^ 128 <= 1073741824 ^ 20 := by decide +kernel
 rw [Kf9];exact Int.ofNat_le.2 (Nat.le_trans h3 h4)
theorem Kds : 100 * pB 20 <= pB 21 /\ pB 21 <= pB 60 /\ 0 < pB 20 := by
 have h : pB 21 = 1073741824 * pB 20 := Kac 20;have := KV 20;exact ⟨by omega, Kan (by decide), by omega⟩
theorem KlW {k n : Nat} (hk : k <= 16) (hn : n <= 128) : ((k ^ n : Nat) : Int) < pB 60 := by
 have h1 : ((k ^ n : Nat) : Int) <= pB 20 := by
  rw [Kf9];exact Int.ofNat_le.2 (Nat.le_trans (Kjm hk hn) (by decide +kernel))
 have := Kds;omega
theorem Kcv {k n : Nat} (hk : k <= 16) (hn : n <= 128) : ((k ^ n : Nat) : Int) < pB 256 := by
 have := KlW hk hn;have := Kdr;omega
theorem Kl3 {n k i : Nat} (hk : k <= 16) (hn : n <= 128) (hi : i <= k) : ((Kaz k i * (k - i) ^ n : Nat) : Int) < pB 256 := by
 have := KeY hk hn hi;unfold onT at this;have := Kds;have := Kdr;omega
theorem KkJ {n k : Nat} (hk : k <= 16) (hn : n <= 128) : ∀ i, i <= k + 1 -> (((onS n k i).1 : Nat) : Int) <= (i : Int) * pB 20 /\ (((onS n k i).2 : Nat) : Int) <= (i : Int) * pB 20
 | 0, _ => ⟨by show (0 : Int) <= 0 * _; omega, by show (0 : Int) <= 0 * _; omega⟩
 | i + 1, hi => by
  have h1 := KkJ hk hn i (by omega);have h2 := KeY hk hn (show i <= k by omega);have h3 := Kds;have e : (((i + 1 : Nat) : Nat) : Int) * pB 20 = (i : Int) * pB 20 + pB 20 := by rw [Int.natCast_add, Int.add_mul]; show _ + 1 * _ = _; rw [Int.one_mul]
  rw [e];unfold onS;split
  ·dsimp only; omega
  dsimp only; omega
theorem Kdx {n k i : Nat} (hk : k <= 16) (hn : n <= 128) (hi : i <= k + 1) : (((onS n k i).1 : Nat) : Int) < pB 256 /\ (((onS n k i).2 : Nat) : Int) < pB 256 /\ (((onS n k i).1 : Nat) : Int) + ((onT n k i : Nat) : Int) < pB 256 + (if i <= k then 0 else ((onT n k i : Nat) : Int)) /\ (((onS n k i).2 : Nat) : Int) + ((onT n k i : Nat) : Int) < pB 256 + (if i <= k then 0 else ((onT n k i : Nat) : Int)) := by
 have h1 := KkJ hk hn i hi;have h3 := Kds;have h4 := Kdr;have h5 : (i : Int) * pB 20 <= 17 * pB 20 := Int.mul_le_mul_of_nonneg_right (by omega) (by omega);refine ⟨by omega, by omega, ?_, ?_⟩
 ·split
  ·rename_i hh; have h2 := KeY hk hn hh; omega
  omega
 split
 ·rename_i hh; have h2 := KeY hk hn hh; omega
 omega
theorem Knn {n k i : Nat} (h : i % 2 = 0) : (((onS n k (i + 1)).1 : Nat) : Int) = (((onS n k i).1 : Nat) : Int) + ((onT n k i : Nat) : Int) /\ (((onS n k (i + 1)).2 : Nat) : Int) = (((onS n k i).2 : Nat) : Int) := by
 rw [show onS n k (i + 1) = if i % 2 = 0 then ((onS n k i).1 + onT n k i, (onS n k i).2) else ((onS n k i).1, (onS n k i).2 + onT n k i) from rfl, if_pos h];exact ⟨Int.natCast_add .., rfl⟩
theorem KmP {n k i : Nat} (h : i % 2 = 1) : (((onS n k (i + 1)).1 : Nat) : Int) = (((onS n k i).1 : Nat) : Int) /\ (((onS n k (i + 1)).2 : Nat) : Int) = (((onS n k i).2 : Nat) : Int) + ((onT n k i : Nat) : Int) := by
 rw [show onS n k (i + 1) = if i % 2 = 0 then ((onS n k i).1 + onT n k i, (onS n k i).2) else ((onS n k i).1, (onS n k i).2 + onT n k i) from rfl, if_neg (by omega)];exact ⟨rfl, Int.natCast_add ..⟩
theorem KlF (x y : Nat) : (if ((y : Nat) : Int) <= ((x : Nat) : Int) then ((x : Nat) : Int) - ((y : Nat) : Int) else 0) = (((x - y : Nat)) : Int) := by
 split <;> omega
theorem Ko7 {n k : Nat} (hk : k <= 16) (hn : n <= 128) : ((KbB n k : Nat) : Int) < pB 256 := by
 have h1 := (Kdx hk hn (Nat.le_refl (k + 1))).1;unfold KbB;omega
theorem KeR {k n : Nat} (hk : 1 <= k) : (0 : Int) < ((k ^ n : Nat) : Int) := by
 have := Nat.pow_pos (n := n) (show 0 < k by omega);omega
theorem Kf7 : (1 : Int) < pB 60 := by
 have h1 := Kan (show 1 <= 60 by decide);have h2 : pB 1 = 1073741824 := by decide
 omega
def ndP (p q : Int) (k m : Nat) : Prop := p * (((k + 1) ^ m : Nat) : Int) < ((((k + 1) ^ m - KbB m (k + 1)) : Nat) : Int) * q
def KdF (p q : Int) (k : Nat) (n z : Int) : Prop := ((k < 1 \/ 16 <= k) /\ n = 0 /\ z = 1) \/ ((1 <= k /\ k < 16) /\ ∃ i : Nat, n = (i : Int) /\ i <= 128 /\ (∀ m, m < i -> ndP p q k m) /\ ¬ ndP p q k i /\ z = 0) \/ ((1 <= k /\ k < 16) /\ n = 0 /\ z = 5 /\ ∀ m, m < 129 -> ndP p q k m)
theorem Knu {p q N D : Int} {n d : List Int} (h : Kag N D n d) (hD : 0 < D) : p * Ka d < Ka n * q ↔ p * D < N * q := by
 obtain ⟨_, _, g, hg, rfl, rfl⟩ := h;constructor
 ·intro h1;have h2 : p * Ka d * g < Ka n * q * g := Int.mul_lt_mul_of_pos_right h1 (by omega);rw [<- Int.mul_assoc, Int.mul_assoc (Ka n), Int.mul_comm g, <- Int.mul_assoc];exact h2
 intro h1;rw [<- Int.mul_assoc, Int.mul_assoc (Ka n), Int.mul_comm g, <- Int.mul_assoc] at h1;exact Int.lt_of_mul_lt_mul_right h1 (by omega)
theorem KtW {p q : Int} {k i : Nat} {n d : List Int} (h : Kag (((k + 1) ^ i - KbB i (k + 1) : Nat) : Int) (((k + 1) ^ i : Nat) : Int) n d) (hb : ¬ p * Ka d < Ka n * q) : ¬ ndP p q k i := fun hh => hb ((Knu h (KeR (by omega))).2 hh)
theorem Ksb {p q : Int} {k i : Nat} {n d : List Int} (hall : ∀ m, m < i -> ndP p q k m) (h : Kag (((k + 1) ^ i - KbB i (k + 1) : Nat) : Int) (((k + 1) ^ i : Nat) : Int) n d) (hb : p * Ka d < Ka n * q) : ∀ m, m < i + 1 -> ndP p q k m := fun m hm => by
 rcases Nat.lt_or_ge m i with h1 | h1
 ·exact hall m h1
 obtain rfl : m = i := by omega
 exact (Knu h (KeR (by omega))).1 hb
theorem KqB {k i : Nat} {n d : List Int} (h : Kag (((k + 1) ^ i - KbB i (k + 1) : Nat) : Int) (((k + 1) ^ i : Nat) : Int) n d) (hk : k + 1 <= 16) (hi : i <= 128) : FrG n d := by
 have h1 := h.le (by omega) (KeR (by omega));have h2 := KlW hk hi;exact ⟨h.1, h.2.1, by omega, by omega, h1.2.2⟩
theorem KhZ (a1_0 : Option Addr) (a1_0n a1_0c : Nat) (a2_0 : Option Addr) (a2_0n a2_0c : Nat) (w : World) : (Instr.build 52 #[(1, .slice a1_0 a1_0n a1_0c), (2, .slice a2_0 a2_0n a2_0c)]).run Tryz.prog w = .ok (.agg #[.bool false, .slice a1_0 a1_0n a1_0c, .slice a2_0 a2_0n a2_0c]) w := by kernel_rfl
theorem Ka8 (w : World) : (isAgg 52).run Tryz.prog w = .ok true w := rfl
theorem Kbz (n : Int) (w : World) (hn0 : 0 <= n) (hn1 : n <= 4611686018427387904) :
  Calls Tryz.prog 76 #[.int .i64 n] w fun e w' => ∃ x : {y : (Option Addr × Nat) × List Int // (Nrm y.2 /\ Ka y.2 = n) /\ y.2.length <= y.1.2 /\ y.1.2 <= maxLen}, e = .returned (.slice x.1.1.1 x.1.2.length x.1.1.2) /\ Pm w [.row (.slice x.1.1.1 x.1.2.length x.1.1.2) 3 1 x.1.2.length (Kb (ic .i64) x.1.2)] w' := by
 refine Kj Tryz.func76 rfl rfl rfl ?_ (Pm.start w);refine zSG (TL.as_ ?_);refine zET (zSG (TL.mv ?_));refine TL.pM _ _ rfl Kr4 (fun w1 hw => Kpp n w1 hn0 hn1) ?_;rintro ⟨⟨⟨Afm, cfm⟩, fm⟩, hfm, hfmc, hfmm⟩;dsimp only [lC, lN];dsimp only at hfm hfmc hfmm ⊢;refine TL.rn 5 rfl (zET (zSG (TL.rn 2 rfl (zET (zr ?_)))));exact Kg Tryz.results76 rfl (fun w1 hw => ⟨⟨((Afm, cfm), fm), hfm, hfmc, hfmm⟩, rfl, hw⟩)
theorem Kdg (A0 : Option Addr) (c0 : Nat) (a : List Int) (A1 : Option Addr) (c1 : Nat) (b : List Int) (w : World) (hr : Kd w w.heap.size 1 A0 a.length (Kb (ic .i64) a)) (hl1 : a.length <= 1000) (hr1 : Kd w w.heap.size 1 A1 b.length (Kb (ic .i64) b)) (hl2 : b.length <= 1000) (ha : Nrm a) (hb : Nrm b) (hlim : Ka a * Ka b < pB 256) :
  Calls Tryz.prog 77 #[.slice A0 a.length c0, .slice A1 b.length c1] w fun e w' => ∃ x : {y : (Option Addr × Nat) × List Int // (Nrm y.2 /\ Ka y.2 = Ka a * Ka b) /\ y.2.length <= y.1.2 /\ y.1.2 <= maxLen}, e = .returned (.slice x.1.1.1 x.1.2.length x.1.1.2) /\ Pm w [.row (.slice x.1.1.1 x.1.2.length x.1.1.2) 3 1 x.1.2.length (Kb (ic .i64) x.1.2)] w' := by
 refine Kj Tryz.func77 rfl rfl rfl ?_ (Pm.start w);refine zSG (TL.as_ ?_);refine zET (zSG (TL.rn 2 rfl ?_));refine TL.pM _ _ rfl Kdc (fun w1 hw => Kc2 A0 c0 a A1 c1 b w1 (hr.up hw.bel) hl1 (hr1.up hw.bel) hl2 ha hb hlim) ?_;rintro ⟨⟨⟨Apr, cpr⟩, pr⟩, hpr, hprc, hprm⟩;dsimp only [lC, lN];dsimp only at hpr hprc hprm ⊢;refine TL.rn 5 rfl (zET (zSG (TL.rn 2 rfl (zET (zr ?_)))));exact Kg Tryz.results77 rfl (fun w1 hw => ⟨⟨((Apr, cpr), pr), hpr, hprc, hprm⟩, rfl, hw⟩)
theorem KfA (A0 : Option Addr) (c0 : Nat) (a : List Int) (A1 : Option Addr) (c1 : Nat) (b : List Int) (w : World) (hr : Kd w w.heap.size 1 A0 a.length (Kb (ic .i64) a)) (hl1 : a.length <= 1000) (hr1 : Kd w w.heap.size 1 A1 b.length (Kb (ic .i64) b)) (hl2 : b.length <= 1000) (ha : Nrm a) (hb : Nrm b) (hlim : Ka a + Ka b < pB 256) :
  Calls Tryz.prog 78 #[.slice A0 a.length c0, .slice A1 b.length c1] w fun e w' => ∃ x : {y : (Option Addr × Nat) × List Int // (Nrm y.2 /\ Ka y.2 = Ka a + Ka b) /\ y.2.length <= y.1.2 /\ y.1.2 <= maxLen}, e = .returned (.slice x.1.1.1 x.1.2.length x.1.1.2) /\ Pm w [.row (.slice x.1.1.1 x.1.2.length x.1.1.2) 3 1 x.1.2.length (Kb (ic .i64) x.1.2)] w' := by
 refine Kj Tryz.func78 rfl rfl rfl ?_ (Pm.start w);refine zSG (TL.as_ ?_);refine zET (zSG (TL.rn 2 rfl ?_));refine TL.pM _ _ rfl Kj9 (fun w1 hw => Knr A0 c0 a A1 c1 b w1 (hr.up hw.bel) hl1 (hr1.up hw.bel) hl2 ha hb hlim) ?_;rintro ⟨⟨⟨Apr, cpr⟩, pr⟩, hpr, hprc, hprm⟩;dsimp only [lC, lN];dsimp only at hpr hprc hprm ⊢;refine TL.rn 5 rfl (zET (zSG (TL.rn 2 rfl (zET (zr ?_)))));exact Kg Tryz.results78 rfl (fun w1 hw => ⟨⟨((Apr, cpr), pr), hpr, hprc, hprm⟩, rfl, hw⟩)
theorem KlA (k n : Nat) (w : World) (hk : k <= 16) (hn : n <= 128) :
  Calls Tryz.prog 216 #[.int .i64 ((k : Nat) : Int), .int .i64 ((n : Nat) : Int)] w fun e w' => ∃ x : {y : (Option Addr × Nat) × List Int // (Nrm y.2 /\ Ka y.2 = ((k ^ n : Nat) : Int)) /\ y.2.length <= y.1.2 /\ y.1.2 <= maxLen}, e = .returned (.slice x.1.1.1 x.1.2.length x.1.1.2) /\ Pm w [.row (.slice x.1.1.1 x.1.2.length x.1.1.2) 3 1 x.1.2.length (Kb (ic .i64) x.1.2)] w' := by
 refine Kj Tryz.func216 rfl rfl rfl ?_ (Pm.start w);refine zSG (TL.as_ ?_);refine zET (zSG (TL.mv ?_));refine TL.pM _ _ rfl o76 (fun w1 hw => Kbz ((k : Nat) : Int) w1 (by omega) (by omega)) ?_;rintro ⟨⟨⟨Asm, csm⟩, sm⟩, hsm, hsmc, hsmm⟩;dsimp only [lC, lN];dsimp only at hsm hsmc hsmm ⊢;have hsml : sm.length <= 256 := hsm.1.len256 (by rw [hsm.2]; have := Kbo; omega);refine TL.mv ?_;refine TL.pM (α := {y : (Option Addr × Nat) × List Int // (Nrm y.2 /\ Ka y.2 = ((k ^ n : Nat) : Int)) /\ y.2.length <= y.1.2 /\ y.1.2 <= maxLen}) (fun x => .tuple #[.slice x.1.1.1 x.1.2.length x.1.1.2, .int .i64 0]) (fun x => [.row (.slice x.1.1.1 x.1.2.length x.1.1.2) 3 1 x.1.2.length (Kb (ic .i64) x.1.2)]) rfl KsQ (fun w1 hw => (KqK Asm csm sm n w1 (Kk hw (k := 0) rfl) (by omega) hsm.1 (by omega) (by rw [hsm.2, <- Int.natCast_pow]; exact Kcv hk hn)).mono fun e w2 ⟨x, h1, h2⟩ => ⟨⟨x.1, ⟨x.2.1.1, by rw [x.2.1.2, hsm.2, <- Int.natCast_pow]⟩, x.2.2⟩, h1, h2⟩) ?_;rintro ⟨⟨⟨Apw, cpw⟩, pw⟩, hpw, hpwc, hpwm⟩;dsimp only [lC, lN];dsimp only at hpw hpwc hpwm ⊢;refine TL.rn 5 rfl (zET (zSG (TL.rn 2 rfl (zET (zr ?_)))));exact Kg Tryz.results216 rfl (fun w1 hw => ⟨⟨((Apw, cpw), pw), hpw, hpwc, hpwm⟩, rfl, hw.pick [0] (by decide) rfl⟩)
theorem KoA (n k : Nat) (w : World) (hn : n <= 128) (hk : k <= 16) :
  Calls Tryz.prog 217 #[.int .i64 ((n : Nat) : Int), .int .i64 ((k : Nat) : Int)] w fun e w' => ∃ x : {y : (Option Addr × Nat) × List Int // (Nrm y.2 /\ Ka y.2 = ((KbB n k : Nat) : Int)) /\ y.2.length <= y.1.2 /\ y.1.2 <= maxLen}, e = .returned (.tuple #[.slice x.1.1.1 x.1.2.length x.1.1.2, .int .i64 0]) /\ Pm w [.row (.slice x.1.1.1 x.1.2.length x.1.1.2) 3 1 x.1.2.length (Kb (ic .i64) x.1.2)] w' := by
 refine Kj Tryz.func217 rfl rfl rfl ?_ (Pm.start w);refine zSG (TL.rn 2 rfl (zET (zS (zSG (TL.mv ?_)))));refine TL.sp Kr (fun q15 => ?_) (fun q15 => ?_)
 ·exfalso; omega
 refine TL.rn 2 rfl (TL.gu ?_);refine TL.sp KC (fun q18 => ?_) (fun q18 => ?_)
 ·exfalso; omega
 refine TL.rn 3 rfl (TL.gu ?_);refine TL.sp Kr (fun q22 => ?_) (fun q22 => ?_)
 ·exfalso; omega
 refine TL.rn 3 rfl (TL.gu ?_);refine TL.sp KC (fun q26 => ?_) (fun q26 => ?_)
 ·exfalso; omega
 refine TL.pk ?_;refine zET (zd (zk (zT (zSG (TL.rn 2 rfl (zET (zS (zSG (TL.mv ?_)))))))));refine TL.v (gD ((k + 1 : Nat) : Int)) ?_;refine TL.mv ?_;refine zET (zB (TC.lp (α := {z : Nat × ((Option Addr × Nat) × List Int) × ((Option Addr × Nat) × List Int) // z.1 <= k + 1 /\ (Nrm z.2.1.2 /\ Ka z.2.1.2 = (((onS n k z.1).1 : Nat) : Int)) /\ (Nrm z.2.2.2 /\ Ka z.2.2.2 = (((onS n k z.1).2 : Nat) : Int)) /\ (z.2.1.2.length <= z.2.1.1.2 /\ z.2.1.1.2 <= maxLen) /\ z.2.2.2.length <= z.2.2.1.2 /\ z.2.2.1.2 <= maxLen}) [0, 1, 29] rfl (fun z => [(30, .int .i64 ((z.1.1 : Nat) : Int)), (6, .slice z.1.2.1.1.1 z.1.2.1.2.length z.1.2.1.1.2), (7, .slice z.1.2.2.1.1 z.1.2.2.2.length z.1.2.2.1.2)]) (fun z => Pm w [.row (.slice z.1.2.2.1.1 z.1.2.2.2.length z.1.2.2.1.2) 3 1 z.1.2.2.2.length (Kb (ic .i64) z.1.2.2.2), .row (.slice z.1.2.1.1.1 z.1.2.1.2.length z.1.2.1.1.2) 3 1 z.1.2.1.2.length (Kb (ic .i64) z.1.2.1.2)]) (fun z => k + 1 - z.1.1) (⟨(0, ((none, 0), []), ((none, 0), [])), Nat.zero_le _, ⟨Nrm.nil, rfl⟩, ⟨Nrm.nil, rfl⟩, ⟨Nat.le_refl _, Nat.zero_le _⟩, Nat.le_refl _, Nat.zero_le _⟩) (fun w1 hw => ((hw.nilrow _ _).nilrow _ _)) ?_));rintro ⟨⟨i, ⟨⟨Am, cm⟩, mr⟩, ⟨⟨Al, cl⟩, ls⟩⟩, hi, hmr, hls, ⟨hmrc, hmrm⟩, hlsc, hlsm⟩;dsimp only at hi hmr hls hmrc hmrm hlsc hlsm ⊢;have hmrl : mr.length <= 256 := hmr.1.len256 (by rw [hmr.2]; have h9 := Kdx hk hn (i := i) (by omega); omega);have hlsl : ls.length <= 256 := hls.1.len256 (by rw [hls.2]; have h9 := Kdx hk hn (i := i) (by omega); omega);refine zSG ?_;refine TL.sp Kr (fun q31 => ?_) (fun q31 => ?_)
 ·refine zET (zS (zc (zk (zT (zS (zB (zSG (TL.rn 2 rfl (zET (zSG (TL.rn 2 rfl ?_)))))))))));refine TL.pM _ _ rfl Ksj (fun w1 hw => Kpy k i w1 hk (by omega)) ?_;rintro ⟨⟨⟨Ach, cch⟩, ch⟩, hch, hchc, hchm⟩;dsimp only [lC, lN];dsimp only at hch hchc hchm ⊢;refine TL.rn 5 rfl (zET (zSG (TL.rn 3 rfl ?_)));refine TL.w rfl (Ke rfl rfl rfl (fun w => KA (r := ((k - i : Nat) : Int)) (by simp only [IntKind.wrap_i64]; omega) w)) ?_;refine TL.mv ?_;refine TL.pM _ _ rfl KkK (fun w1 hw => KlA (k - i) n w1 (by omega) hn) ?_;rintro ⟨⟨⟨Apw, cpw⟩, pw⟩, hpw, hpwc, hpwm⟩;dsimp only [lC, lN];dsimp only at hpw hpwc hpwm ⊢;have hchl : ch.length <= 256 := hch.1.len256 (by rw [hch.2]; exact KmL hk (by omega));have hpwl : pw.length <= 256 := hpw.1.len256 (by rw [hpw.2]; exact Kcv (by omega) hn);refine TL.pM _ _ rfl o77 (fun w1 hw => Kdg Ach cch ch Apw cpw pw w1 (Kk hw (k := 1) rfl) (by omega) (Kk hw (k := 0) rfl) (by omega) hch.1 hpw.1 (by rw [hch.2, hpw.2, <- Int.natCast_mul]; exact Kl3 hk hn (by omega))) ?_;rintro ⟨⟨⟨Atm, ctm⟩, tm⟩, htm, htmc, htmm⟩;dsimp only [lC, lN];dsimp only at htm htmc htmm ⊢;have htv : Ka tm = ((onT n k i : Nat) : Int) := by rw [htm.2, hch.2, hpw.2]; exact (Int.natCast_mul ..).symm
  have htl : tm.length <= 256 := htm.1.len256 (by rw [htv]; exact Kl3 hk hn (by omega));refine TL.as_ ?_;refine zET (zSG (TL.mv ?_));refine TL.w rfl (Ke (v := .int .i64 ((i % 2 : Nat) : Int)) rfl rfl rfl (fun w => by rw [KaL (by omega) (by decide)]; rfl)) ?_;refine TL.sp KK (fun q48 => ?_) (fun q48 => ?_)
  ·have hpar : i % 2 = 0 := by omega
   refine zET (zc (zG (TL.rn 2 rfl ?_)));refine TL.pM _ _ rfl o78 (fun w1 hw => KfA Am cm mr Atm ctm tm w1 (Kk hw (k := 4) rfl) (by omega) (Kk hw (k := 0) rfl) (by omega) hmr.1 htm.1 (by rw [hmr.2, htv]; have h9 := Kdx hk hn (i := i) (by omega); omega)) ?_;rintro ⟨⟨⟨Anp, cnp⟩, np⟩, hnp, hnpc, hnpm⟩;dsimp only [lC, lN];dsimp only at hnp hnpc hnpm ⊢;refine TL.as_ ?_;refine zE (zN (zT (zG (TL.v (gD ((i + 1 : Nat) : Int)) ?_))));refine TL.mv ?_;refine zE ?_;exact TX.rd (⟨(i + 1, ((Anp, cnp), np), ((Al, cl), ls)), by dsimp only; omega, ⟨hnp.1, by rw [hnp.2, hmr.2, htv]; exact (Knn hpar).1.symm⟩, ⟨hls.1, by rw [hls.2]; exact (Knn hpar).2.symm⟩, ⟨hnpc, hnpm⟩, hlsc, hlsm⟩) (by show k + 1 - (i + 1) < k + 1 - i; omega) (fun w1 hw => hw.pk [4, 0])
  have hpar : i % 2 = 1 := by omega
  refine zET (zd (zG (TL.rn 2 rfl ?_)));refine TL.pM _ _ rfl o78 (fun w1 hw => KfA Al cl ls Atm ctm tm w1 (Kk hw (k := 3) rfl) (by omega) (Kk hw (k := 0) rfl) (by omega) hls.1 htm.1 (by rw [hls.2, htv]; have h9 := Kdx hk hn (i := i) (by omega); omega)) ?_;rintro ⟨⟨⟨Anp, cnp⟩, np⟩, hnp, hnpc, hnpm⟩;dsimp only [lC, lN];dsimp only at hnp hnpc hnpm ⊢;refine TL.as_ ?_;refine zE (zN (zT (zG (TL.v (gD ((i + 1 : Nat) : Int)) ?_))));refine TL.mv ?_;refine zE ?_;exact TX.rd (⟨(i + 1, ((Am, cm), mr), ((Anp, cnp), np)), by dsimp only; omega, ⟨hmr.1, by rw [hmr.2]; exact (KmP hpar).1.symm⟩, ⟨hnp.1, by rw [hnp.2, hls.2, htv]; exact (KmP hpar).2.symm⟩, ⟨hmrc, hmrm⟩, hnpc, hnpm⟩) (by show k + 1 - (i + 1) < k + 1 - i; omega) (fun w1 hw => hw.pk [0, 5])
 refine zET (zS (zd (zx (zX (zX (zM (zT (zSG (TL.rn 2 rfl ?_)))))))));refine TL.pM _ _ rfl Kga (fun w1 hw => Kkv Am cm mr Al cl ls w1 (Kk hw (k := 1) rfl) (by omega) (Kk hw (k := 0) rfl) (by omega) hmr.1 hls.1 (by rw [hmr.2]; have h9 := Kdx hk hn (i := i) (by omega); omega)) ?_;rintro ⟨⟨⟨⟨Asb, csb⟩, sb⟩, esb⟩, hsb, hsbc, hsbm⟩;dsimp only [lC, lN];dsimp only at hsb hsbc hsbm ⊢;refine TL.rn 5 rfl (zET (zSG (TL.rn 3 rfl (zET (zr ?_)))));have hik : i = k + 1 := by omega
 exact K2 (v1 := .slice Asb sb.length csb) (v2 := .int .i64 0) Tryz.results217 rfl rfl (fun w1 hw => ⟨⟨((Asb, csb), sb), ⟨hsb.1, by rw [hsb.2, hmr.2, hls.2, hik]; exact KlF _ _⟩, hsbc, hsbm⟩, rfl, hw.pick [0] (by decide) rfl⟩)
theorem KuS (n k : Nat) (w : World) (hn : n <= 128) (hk : k <= 16) (hk1 : 1 <= k) :
  Calls Tryz.prog 160 #[.int .i64 ((n : Nat) : Int), .int .i64 ((k : Nat) : Int)] w fun e w' => ∃ x : {y : ((Option Addr × Nat) × List Int) × ((Option Addr × Nat) × List Int) // (Kag ((k ^ n - KbB n k : Nat) : Int) ((k ^ n : Nat) : Int) y.1.2 y.2.2) /\ (y.1.2.length <= y.1.1.2 /\ y.1.1.2 <= maxLen) /\ y.2.2.length <= y.2.1.2 /\ y.2.1.2 <= maxLen}, e = .returned (.tuple #[.agg #[.bool false, .slice x.1.1.1.1 x.1.1.2.length x.1.1.1.2, .slice x.1.2.1.1 x.1.2.2.length x.1.2.1.2], .int .i64 0]) /\ Pm w [.row (.slice x.1.1.1.1 x.1.1.2.length x.1.1.1.2) 3 1 x.1.1.2.length (Kb (ic .i64) x.1.1.2), .row (.slice x.1.2.1.1 x.1.2.2.length x.1.2.1.2) 3 1 x.1.2.2.length (Kb (ic .i64) x.1.2.2)] w' := by
 refine Kj Tryz.func160 rfl rfl rfl ?_ (Pm.start w);refine zSG ?_;refine TL.al KcR fun g4 => ?_;refine TL.as_ ?_;refine zET (zS (zSG (TL.mv ?_)));refine TL.sp Kr (fun q12 => ?_) (fun q12 => ?_)
 ·exfalso; omega
 refine TL.rn 2 rfl (TL.gu ?_);refine TL.sp KC (fun q15 => ?_) (fun q15 => ?_)
 ·exfalso; omega
 refine TL.rn 3 rfl (TL.gu ?_);refine TL.sp Kr (fun q19 => ?_) (fun q19 => ?_)
 ·exfalso; omega
 refine TL.rn 3 rfl (TL.gu ?_);refine TL.sp KC (fun q23 => ?_) (fun q23 => ?_)
 ·exfalso; omega
 refine TL.pk ?_;refine zET (zd (zk (zT (zSG (TL.rn 2 rfl ?_)))));refine TL.pM _ _ rfl KkK (fun w1 hw => KlA k n w1 hk hn) ?_;rintro ⟨⟨⟨Apw, cpw⟩, pw⟩, hpw, hpwc, hpwm⟩;dsimp only [lC, lN];dsimp only at hpw hpwc hpwm ⊢;have hpwl : pw.length <= 256 := hpw.1.len256 (by rw [hpw.2]; exact Kcv hk hn);refine TL.as_ ?_;refine zET (zSG (TL.rn 2 rfl ?_));refine TL.pM _ _ rfl KrW (fun w1 hw => KoA n k w1 hn hk) ?_;rintro ⟨⟨⟨Aon, con⟩, on⟩, hon, honc, honm⟩;dsimp only [lC, lN];dsimp only at hon honc honm ⊢;have honl : on.length <= 256 := hon.1.len256 (by rw [hon.2]; exact Ko7 hk hn);refine TL.rn 5 rfl (zET (zSG (TL.rn 2 rfl ?_)));refine TL.pM _ _ rfl Kga (fun w1 hw => Kkv Apw cpw pw Aon con on w1 (Kk hw (k := 1) rfl) (by omega) (Kk hw (k := 0) rfl) (by omega) hpw.1 hon.1 (by rw [hpw.2]; exact Kcv hk hn)) ?_;rintro ⟨⟨⟨⟨Asb, csb⟩, sb⟩, esb⟩, hsb, hsbc, hsbm⟩;dsimp only [lC, lN];dsimp only at hsb hsbc hsbm ⊢;have hsv : Ka sb = ((k ^ n - KbB n k : Nat) : Int) := by rw [hsb.2, hpw.2, hon.2]; exact KlF _ _
 have hsbl : sb.length <= 256 := hsb.1.len256 (by rw [hsv]; have h9 := Kcv hk hn; have h8 : ((k ^ n - KbB n k : Nat) : Int) <= ((k ^ n : Nat) : Int) := (by omega); omega);refine TL.rn 5 rfl (zET (zSG (TL.rn 2 rfl ?_)));refine TL.w rfl (Kt (v := .agg #[.bool false, .slice Asb sb.length csb, .slice Apw pw.length cpw]) rfl rfl (fun w => KhZ _ _ _ _ _ _ w)) ?_;refine TL.pM _ _ rfl Kq2 (fun w1 hw => KrX Asb csb sb Apw cpw pw w1 (Kk hw (k := 0) rfl) (Kk hw (k := 2) rfl) hsb.1 hpw.1 (by omega) (by omega) (by rw [hpw.2]; exact KeR hk1)) ?_;rintro ⟨⟨⟨⟨Ardn, crdn⟩, rdn⟩, ⟨Ardd, crdd⟩, rdd⟩, hrd, ⟨hrdnc, hrdnm⟩, hrddc, hrddm⟩;dsimp only [lC, lN];dsimp only at hrd hrdnc hrdnm hrddc hrddm ⊢;refine TL.pstore (k := 5) (vs := [.bool false, .slice Ardn rdn.length crdn, .slice Ardd rdd.length crdd]) rfl rfl rfl rfl rfl rfl rfl Kai Kfx (by show 3 <= 3; decide) (L' := [.row (.slice Ardn rdn.length crdn) 3 1 rdn.length (Kb (ic .i64) rdn), .row (.slice Ardd rdd.length crdd) 3 1 rdd.length (Kb (ic .i64) rdd), .row (.slice Asb sb.length csb) 3 1 sb.length (Kb (ic .i64) sb), .row (.slice Aon on.length con) 3 1 on.length (Kb (ic .i64) on), .row (.slice Apw pw.length cpw) 3 1 pw.length (Kb (ic .i64) pw), .blk g4 52 [.bool false, .slice Ardn rdn.length crdn, .slice Ardd rdd.length crdd]]) rfl ?_;refine TL.as_ ?_;refine zET (zr ?_);exact KbY (k := 5) (v := .int .i64 0) Tryz.results160 rfl rfl rfl Tryz.underlying52 rfl rfl (fun w1 hw => ⟨⟨(((Ardn, crdn), rdn), ((Ardd, crdd), rdd)), by rw [<- hsv, <- hpw.2]; exact hrd, ⟨hrdnc, hrdnm⟩, hrddc, hrddm⟩, rfl, hw.pick [0, 1] (by decide) rfl⟩)
theorem Kmo (Xa : Option Addr) (xac : Nat) (xn : List Int) (Xb : Option Addr) (xbc : Nat) (xd : List Int) (Ya : Option Addr) (yac : Nat) (yn : List Int) (Yb : Option Addr) (ybc : Nat) (yd : List Int) (w : World) (hxa : Kd w w.heap.size 1 Xa xn.length (Kb (ic .i64) xn)) (hxb : Kd w w.heap.size 1 Xb xd.length (Kb (ic .i64) xd)) (hx : FrG xn xd) (hya : Kd w w.heap.size 1 Ya yn.length (Kb (ic .i64) yn)) (hyb : Kd w w.heap.size 1 Yb yd.length (Kb (ic .i64) yd)) (hy : FrG yn yd) :
  Calls Tryz.prog 120 #[.agg #[.bool false, .slice Xa xn.length xac, .slice Xb xd.length xbc], .agg #[.bool false, .slice Ya yn.length yac, .slice Yb yd.length ybc]] w fun e w' => e = .returned (.bool (decide (Ka xn * Ka yd < Ka yn * Ka xd))) /\ Below w.heap.size w w' := by
 refine Kj Tryz.func120 rfl rfl rfl ?_ (Pm.start w);refine zSG ?_;refine TL.bx fun g2 => ?_;refine TL.bx fun g3 => ?_;refine TL.as_ ?_;refine zET (zSG (TL.v (gV 1 (.agg #[.bool false, .slice Xa xn.length xac, .slice Xb xd.length xbc]) Ka8 Kai) ?_));refine TL.v (gV 0 (.agg #[.bool false, .slice Ya yn.length yac, .slice Yb yd.length ybc]) Ka8 Kai) ?_;refine TL.p1 rfl Kn7 (fun w1 hw => KqC Xa xac xn Xb xbc xd Ya yac yn Yb ybc yd w1 (hxa.up hw.bel) (hxb.up hw.bel) hx (hya.up hw.bel) (hyb.up hw.bel) hy) ?_;refine TL.rn 5 rfl (zET (zSG (TL.mv ?_)));refine TL.w rfl (Ke rfl rfl rfl (fun w => Kr w)) ?_;refine TL.as_ ?_;refine zET (zr ?_);exact Kg Tryz.results120 rfl (fun w1 hw => ⟨by rw [decide_eq_decide.2 Kax], hw.bel⟩)
theorem KlR (Xa : Option Addr) (xac : Nat) (xn : List Int) (Xb : Option Addr) (xbc : Nat) (xd : List Int) (w : World) (hxa : Kd w w.heap.size 1 Xa xn.length (Kb (ic .i64) xn)) (hxb : Kd w w.heap.size 1 Xb xd.length (Kb (ic .i64) xd)) (hx : FrG xn xd) (hxp : 0 < Ka xn) (hlt : Ka xn < Ka xd) :
  Calls Tryz.prog 74 #[.agg #[.bool false, .slice Xa xn.length xac, .slice Xb xd.length xbc]] w fun e w' => e = .returned (.bool true) /\ Below w.heap.size w w' := by
 refine Kj Tryz.func74 rfl rfl rfl ?_ (Pm.start w);refine zSG ?_;refine TL.bx fun g1 => ?_;refine TL.as_ ?_;refine zET (zSG ?_);refine TL.pM _ _ rfl o76 (fun w1 hw => Kbz 1 w1 (by decide) (by decide)) ?_;rintro ⟨⟨⟨Ao4, co4⟩, o4⟩, ho4, ho4c, ho4m⟩;dsimp only [lC, lN];dsimp only at ho4 ho4c ho4m ⊢;refine TL.pM _ _ rfl o76 (fun w1 hw => Kbz 1 w1 (by decide) (by decide)) ?_;rintro ⟨⟨⟨Ao5, co5⟩, o5⟩, ho5, ho5c, ho5m⟩;dsimp only [lC, lN];dsimp only at ho5 ho5c ho5m ⊢;refine TL.w rfl (Kt (v := .agg #[.bool false, .slice Ao4 o4.length co4, .slice Ao5 o5.length co5]) rfl rfl (fun w => KhZ _ _ _ _ _ _ w)) ?_;refine TL.al KcR fun g3 => ?_;refine TL.ps 0 Kai ?_;refine zET (zSG (TL.v (gF Khc) ?_));refine TL.v (gL 3 KaB) ?_;refine TL.rn 2 rfl (TL.ov (gF KgS) ?_);refine TL.ov (gL 3 Kbs) ?_;refine TL.ov (gN Tryz.underlying50) ?_;refine TL.gu ?_;refine TL.sp KC (fun q14 => ?_) (fun q14 => ?_)
 ·refine TL.rn 2 rfl (TL.ov (gF KhA) ?_);refine TL.ov (gL 3 Kbs) ?_;refine TL.ov (gN Tryz.underlying50) ?_;refine TL.gu ?_;refine TL.sp KC (fun q20 => ?_) (fun q20 => ?_)
  ·refine TL.rn 2 rfl (TL.ov (gV 3 (.agg #[.bool false, .slice Xa xn.length xac, .slice Xb xd.length xbc]) Ka8 Kai) ?_);refine TL.ov (gV 0 (.agg #[.bool false, .slice Ao4 o4.length co4, .slice Ao5 o5.length co5]) Ka8 Kai) ?_;have ho : FrG o4 o5 := ⟨ho4.1, ho5.1, by rw [ho4.2]; exact Kf7, by rw [ho5.2]; exact Kf7, by rw [ho5.2]; decide⟩;refine TL.gu ?_;refine TL.p1 (r := .bool true) rfl KlB (fun w1 hw => (by have h9 := Kmo Xa xac xn Xb xbc xd Ao4 co4 o4 Ao5 co5 o5 w1 (hxa.up hw.bel) (hxb.up hw.bel) hx (Kk hw (k := 2) rfl) (Kk hw (k := 1) rfl) ho; rw [decide_eq_true (show Ka xn * Ka o5 < Ka o4 * Ka xd by rw [ho4.2, ho5.2]; omega)] at h9; exact h9)) ?_;refine TL.rn 2 rfl (zET (zr ?_));exact Kg Tryz.results74 rfl (fun w1 hw => ⟨rfl, hw.bel⟩)
  exfalso; have := Kd0 hx.pos; omega
 exfalso; have := Kd0 hxp; omega
theorem KiV (k : Nat) (Xa : Option Addr) (xac : Nat) (xn : List Int) (Xb : Option Addr) (xbc : Nat) (xd : List Int) (w : World) (hxa : Kd w w.heap.size 1 Xa xn.length (Kb (ic .i64) xn)) (hxb : Kd w w.heap.size 1 Xb xd.length (Kb (ic .i64) xd)) (hx : FrG xn xd) (hxp : 0 < Ka xn) (hlt : Ka xn < Ka xd) (hk : k <= 1000000) :
  Calls Tryz.prog 105 #[.int .i64 ((k : Nat) : Int), .agg #[.bool false, .slice Xa xn.length xac, .slice Xb xd.length xbc]] w fun e w' => ∃ x : {y : Int × Int // KdF (Ka xn) (Ka xd) k y.1 y.2}, e = .returned (.tuple #[.int .i64 x.1.1, .int .i64 x.1.2]) /\ Below w.heap.size w w' := by
 refine Kj Tryz.func105 rfl rfl rfl ?_ (Pm.start w);refine zSG ?_;refine TL.bx fun g3 => ?_;refine TL.rn 2 rfl (zET (zS (zSG (TL.mv ?_))));refine TL.sp Kr (fun q10 => ?_) (fun q10 => ?_)
 ·refine TL.rn 9 rfl (zET (zc (zSG (TL.rn 2 rfl (zET (zr (zR ?_)))))));exact K2 (v1 := .int .i64 0) (v2 := .int .i64 1) Tryz.results105 rfl rfl (fun w1 hw => ⟨⟨(0, 1), .inl ⟨by omega, rfl, rfl⟩⟩, rfl, hw.bel⟩)
 refine TL.rn 2 rfl (TL.gu ?_);refine TL.sp KO (fun q13 => ?_) (fun q13 => ?_)
 ·refine TL.rn 6 rfl (zET (zc (zSG (TL.rn 2 rfl (zET (zr (zR ?_)))))));exact K2 (v1 := .int .i64 0) (v2 := .int .i64 1) Tryz.results105 rfl rfl (fun w1 hw => ⟨⟨(0, 1), .inl ⟨by omega, rfl, rfl⟩⟩, rfl, hw.bel⟩)
 refine TL.rn 2 rfl (TL.ov (gV 0 (.agg #[.bool false, .slice Xa xn.length xac, .slice Xb xd.length xbc]) Ka8 Kai) ?_);refine TL.gu ?_;refine TL.p1 rfl o74 (fun w1 hw => KlR Xa xac xn Xb xbc xd w1 (hxa.up hw.bel) (hxb.up hw.bel) hx hxp hlt) ?_;refine TL.rn 2 rfl (zET (zd (zk (zT (zS (zSG (TL.mv ?_)))))));refine zET (zB (TC.lp (α := {i : Nat // i <= 129 /\ ∀ m, m < i -> ndP (Ka xn) (Ka xd) k m}) [0, 3] rfl (fun y => [(20, .int .i64 ((y.1 : Nat) : Int))]) (fun y => Pm w [.blk g3 52 [.bool false, .slice Xa xn.length xac, .slice Xb xd.length xbc]]) (fun y => 129 - y.1) (⟨0, Nat.zero_le _, fun m hm => absurd hm (Nat.not_lt_zero _)⟩) (fun w1 hw => hw) ?_));rintro ⟨i, hi, hall⟩
 try dsimp only at hi hall ⊢
 refine zSG ?_;refine TL.sp Kr (fun q21 => ?_) (fun q21 => ?_)
 ·refine zET (zS (zc (zk (zT (zS (zB (zSG (TL.rn 2 rfl (zET (zSG (TL.rn 2 rfl (TL.v (gD ((k + 1 : Nat) : Int)) ?_))))))))))));refine TL.pM _ _ rfl KrK (fun w1 hw => KuS i (k + 1) w1 (by omega) (by omega) (by omega)) ?_;rintro ⟨⟨⟨⟨Ardn, crdn⟩, rdn⟩, ⟨Ardd, crdd⟩, rdd⟩, hrd, ⟨hrdnc, hrdnm⟩, hrddc, hrddm⟩;dsimp only [lC, lN];dsimp only at hrd hrdnc hrdnm hrddc hrddm ⊢;refine TL.rn 3 rfl ?_;refine TL.al KcR fun g7 => ?_;refine TL.ps 0 Kai ?_;refine TL.as_ ?_;refine zET (zS ?_);have hfr := KqB hrd (by omega) (by omega);refine zG (TL.v (gV 3 (.agg #[.bool false, .slice Xa xn.length xac, .slice Xb xd.length xbc]) Ka8 Kai) ?_);refine TL.v (gV 0 (.agg #[.bool false, .slice Ardn rdn.length crdn, .slice Ardd rdd.length crdd]) Ka8 Kai) ?_;refine TL.pS rfl KlB (fun w1 hw => Kmo Xa xac xn Xb xbc xd Ardn crdn rdn Ardd crdd rdd w1 (hxa.up hw.bel) (hxb.up hw.bel) hx (Kk hw (k := 1) rfl) (Kk hw (k := 2) rfl) hfr) (fun h32 => ?_) (fun h32 => ?_)
  ·refine TL.w rfl (KbC rfl rfl) ?_;refine zET (zd (zk (zN (zT (zG (TL.v (gD ((i + 1 : Nat) : Int)) ?_))))));refine TL.mv ?_;refine zE ?_;exact TX.rd (⟨i + 1, by omega, Ksb hall hrd (of_decide_eq_true h32)⟩) (by show 129 - (i + 1) < 129 - i; omega) (fun w1 hw => hw.pk [3])
  refine TL.w rfl (KbC rfl rfl) ?_;refine zET (zc (zSG (TL.rn 3 rfl (zET (zr (zRR (zR (zRR ?_))))))));exact K2 (v1 := .int .i64 ((i : Nat) : Int)) (v2 := .int .i64 0) Tryz.results105 rfl rfl (fun w1 hw => ⟨⟨(((i : Nat) : Int), 0), .inr (.inl ⟨by omega, i, rfl, by omega, hall, KtW hrd (of_decide_eq_false h32), rfl⟩)⟩, rfl, hw.bel⟩)
 refine zET (zS (zd (zx (zX (zX (zM (zT (zSG (TL.rn 2 rfl (zET (zr ?_)))))))))));exact K2 (v1 := .int .i64 0) (v2 := .int .i64 5) Tryz.results105 rfl rfl (fun w1 hw => ⟨⟨(0, 5), .inr (.inr ⟨by omega, rfl, rfl, fun m hm => hall m (by omega)⟩)⟩, rfl, hw.bel⟩)
set_option maxRecDepth 20000
theorem eqA (d : Nat) (s1 k1 c1 l1 i1 q1 s2 k2 c2 l2 i2 q2 : Int) (w : World) : (Op.equalIn (d + 2) 74 (.agg #[.int .u32 s1, .int .i64 k1, .int .i64 c1, .int .i64 l1, .int .i64 i1, .int .i64 q1]) (.agg #[.int .u32 s2, .int .i64 k2, .int .i64 c2, .int .i64 l2, .int .i64 i2, .int .i64 q2])).run Tryz.prog w = .ok (decide (s1 = s2 /\ k1 = k2 /\ c1 = c2 /\ l1 = l2 /\ i1 = i2 /\ q1 = q2)) w := by
  have hS : Tryz.prog.underlying 74 = some (.struct (Tryz.prog.fieldsOf 74)) := by kernel_rfl
  have hp : Tryz.prog.stoodInHeld 74 = false := by kernel_rfl
  rw [run_equalIn_agg w (d + 1) 74 _ _ hS hp];simp only [Program.fieldsOf, Tryz.underlying74];have u3 := Tryz.underlying3;have u23 := Tryz.underlying42;have a3 := Tryz.isAgg3;have z3 := Tryz.sizeOf3;have a23 := Tryz.isAgg42;have z23 := Tryz.sizeOf42
  go_simp
  by_cases h1 : s1 = s2 <;> by_cases h2 : k1 = k2 <;> by_cases h3 : c1 = c2 <;> by_cases h4 : l1 = l2 <;> by_cases h5 : i1 = i2 <;> by_cases h6 : q1 = q2 <;> simp [h1, h2, h3, h4, h5, h6]
theorem eqR (v1 r1 n1 t1 d1 p1 f1 l1 k1 s1 x1 c1 y1 i1 q1 v2 r2 n2 t2 d2 p2 f2 l2 k2 s2 x2 c2 y2 i2 q2 : Int) (a1 b1 a2 b2 : Bool) (w : World) : (Op.equalIn 10000 76 (.agg #[.int .i64 v1, .int .i64 r1, .int .i64 n1, .int .i64 t1, .int .u32 d1, .int .i64 p1, .int .i64 f1, .int .i64 l1, .bool a1, .bool b1, .int .i64 k1, .int .u32 s1, .int .i64 x1, .int .i64 c1, .int .i64 y1, .int .i64 i1, .int .i64 q1]) (.agg #[.int .i64 v2, .int .i64 r2, .int .i64 n2, .int .i64 t2, .int .u32 d2, .int .i64 p2, .int .i64 f2, .int .i64 l2, .bool a2, .bool b2, .int .i64 k2, .int .u32 s2, .int .i64 x2, .int .i64 c2, .int .i64 y2, .int .i64 i2, .int .i64 q2])).run Tryz.prog w = .ok (decide (v1 = v2 /\ r1 = r2 /\ n1 = n2 /\ t1 = t2 /\ d1 = d2 /\ p1 = p2 /\ f1 = f2 /\ l1 = l2 /\ a1 = a2 /\ b1 = b2 /\ k1 = k2 /\ s1 = s2 /\ x1 = x2 /\ c1 = c2 /\ y1 = y2 /\ i1 = i2 /\ q1 = q2)) w := by
  have hS : Tryz.prog.underlying 76 = some (.struct (Tryz.prog.fieldsOf 76)) := by kernel_rfl
  have hp : Tryz.prog.stoodInHeld 76 = false := by kernel_rfl
  rw [show (10000 : Nat) = 9999 + 1 from rfl, run_equalIn_agg w 9999 76 _ _ hS hp];simp only [Program.fieldsOf, Tryz.underlying76];have u3 := Tryz.underlying3;have u4 := Tryz.underlying4;have u23 := Tryz.underlying42;have a3 := Tryz.isAgg3;have a4 := Tryz.isAgg4;have z3 := Tryz.sizeOf3;have z4 := Tryz.sizeOf4;have a23 := Tryz.isAgg42;have z23 := Tryz.sizeOf42;have a25 := Tryz.isAgg74;have z25 := Tryz.sizeOf74;have eqA' := eqA 9997
  go_simp
  by_cases h0 : v1 = v2
  rotate_left
  · simp [h0]
  subst h0;by_cases h1 : r1 = r2
  rotate_left
  · simp [h1]
  subst h1;by_cases h2 : n1 = n2
  rotate_left
  · simp [h2]
  subst h2;by_cases h3 : t1 = t2
  rotate_left
  · simp [h3]
  subst h3;by_cases h4 : d1 = d2
  rotate_left
  · simp [h4]
  subst h4;by_cases h5 : p1 = p2
  rotate_left
  · simp [h5]
  subst h5;by_cases h6 : f1 = f2
  rotate_left
  · simp [h6]
  subst h6;by_cases h7 : l1 = l2
  rotate_left
  · simp [h7]
  subst h7;by_cases h8 : a1 = a2
  rotate_left
  · simp [h8]
  subst h8;by_cases h9 : b1 = b2
  rotate_left
  · simp [h9]
  subst h9;by_cases h10 : k1 = k2
  rotate_left
  · simp [h10]
  subst h10;by_cases e1 : s1 = s2 <;> by_cases e2 : x1 = x2 <;> by_cases e3 : c1 = c2 <;> by_cases e4 : y1 = y2 <;> by_cases e5 : i1 = i2 <;> by_cases e6 : q1 = q2 <;> simp [e1, e2, e3, e4, e5, e6]
theorem KlY (s1 k1 c1 l1 i1 q1 s2 k2 c2 l2 i2 q2 : Int) {x y : Operand} (w : World) : (do eqGuard .neq 74 x y (.agg #[.int .u32 s1, .int .i64 k1, .int .i64 c1, .int .i64 l1, .int .i64 i1, .int .i64 q1]) (.agg #[.int .u32 s2, .int .i64 k2, .int .i64 c2, .int .i64 l2, .int .i64 i2, .int .i64 q2]); binOp .neq 74 (.agg #[.int .u32 s1, .int .i64 k1, .int .i64 c1, .int .i64 l1, .int .i64 i1, .int .i64 q1]) (.agg #[.int .u32 s2, .int .i64 k2, .int .i64 c2, .int .i64 l2, .int .i64 i2, .int .i64 q2]) : Sem Value).run Tryz.prog w = .ok (.bool (!decide (s1 = s2 /\ k1 = k2 /\ c1 = c2 /\ l1 = l2 /\ i1 = i2 /\ q1 = q2))) w := by
  have hm : Tryz.prog.eqGuardType Tryz.prog.depth 74 = false := by kernel_rfl
  simp only [Sem.run_bind, run_eqGuard_agg w .neq 74 x y _ _ hm, Result.andThen_ok, run_neq_struct, show (10000 : Nat) = 9998 + 2 from rfl, eqA 9998]
set_option maxRecDepth 20000
def Rs.cells (r : Rs) : List Value := [.int .i64 r.v, .int .i64 r.run, .int .i64 r.num, .int .i64 r.at_, .int .u32 r.dst, .int .i64 r.proto, .int .i64 r.flow, .int .i64 r.ttl, .bool r.ans, .bool r.dbl, .int .i64 r.back, .int .u32 r.src, .int .i64 r.kind, .int .i64 r.code, .int .i64 r.left, .int .i64 r.id, .int .i64 r.quo]
theorem KbO (n m : Int) (w : World) :
  Calls Tryz.prog 207 #[.int .i64 n, .int .i64 m] w fun e w' => e = .returned (.bool (decide (0 <= n /\ n <= m))) /\ Below w.heap.size w w' := by
 refine Kj Tryz.func207 rfl rfl rfl ?_ (Pm.start w);refine zSG (TL.as_ ?_);refine zET (zSG (TL.mv ?_));refine TL.vw rfl (Ke rfl rfl rfl (fun w => KO w)) (fun h6 => ?_) (fun h6 => ?_)
 ·refine TL.rn 3 rfl (TL.gu ?_);refine TL.vw rfl (Ke rfl rfl rfl (fun w => KbJ w)) (fun h10 => ?_) (fun h10 => ?_)
  ·refine TL.rn 2 rfl (zET (zr ?_));exact Kg Tryz.results207 rfl (fun w1 hw => ⟨Kka (by simp only [decide_eq_true_eq, decide_eq_false_iff_not] at *; omega), hw.bel⟩)
  refine TL.rn 2 rfl (zET (zr ?_));exact Kg Tryz.results207 rfl (fun w1 hw => ⟨Kfu (by simp only [decide_eq_true_eq, decide_eq_false_iff_not] at *; omega), hw.bel⟩)
 refine TL.rn 6 rfl (zET (zr ?_));exact Kg Tryz.results207 rfl (fun w1 hw => ⟨Kfu (by simp only [decide_eq_true_eq, decide_eq_false_iff_not] at *; omega), hw.bel⟩)
theorem Kuy (v r : Int) (w : World) :
  Calls Tryz.prog 206 #[.int .i64 v, .int .i64 r] w fun e w' => e = .returned (.bool (decide (0 <= v /\ v <= 15 /\ 0 <= r /\ r <= 63))) /\ Below w.heap.size w w' := by
 refine Kj Tryz.func206 rfl rfl rfl ?_ (Pm.start w);refine zSG (TL.as_ ?_);refine zET (zSG (TL.mv ?_));refine TL.pS rfl KbZ (fun w1 hw => KbO (v) (15) w1) (fun h6 => ?_) (fun h6 => ?_)
 ·refine TL.rn 2 rfl (TL.gu ?_);refine TL.pS rfl KbZ (fun w1 hw => KbO (r) (63) w1) (fun h9 => ?_) (fun h9 => ?_)
  ·refine TL.rn 2 rfl (zET (zr ?_));exact Kg Tryz.results206 rfl (fun w1 hw => ⟨Kka (by simp only [decide_eq_true_eq, decide_eq_false_iff_not] at *; omega), hw.bel⟩)
  refine TL.rn 2 rfl (zET (zr ?_));exact Kg Tryz.results206 rfl (fun w1 hw => ⟨Kfu (by simp only [decide_eq_true_eq, decide_eq_false_iff_not] at *; omega), hw.bel⟩)
 refine TL.rn 5 rfl (zET (zr ?_));exact Kg Tryz.results206 rfl (fun w1 hw => ⟨Kfu (by simp only [decide_eq_true_eq, decide_eq_false_iff_not] at *; omega), hw.bel⟩)
set_option maxRecDepth 20000
theorem Kas : FA Tryz.prog 76 11 11 := fun g o w => by kernel_rfl
theorem KgY (w : World) : (isAgg 74).run Tryz.prog w = .ok true w := rfl
theorem KgA (w : World) : (sizeOf 74).run Tryz.prog w = .ok 6 w := rfl
theorem Ks4 (w : World) : (zeroValue 74).run Tryz.prog w = .ok (.agg #[.int .u32 0, .int .i64 0, .int .i64 0, .int .i64 0, .int .i64 0, .int .i64 0]) w := rfl
theorem Ke2 : FA Tryz.prog 76 0 0 := fun g o w => by kernel_rfl
theorem Kg3 : FA Tryz.prog 76 1 1 := fun g o w => by kernel_rfl
theorem KiG : FA Tryz.prog 76 2 2 := fun g o w => by kernel_rfl
theorem KfS : FA Tryz.prog 76 3 3 := fun g o w => by kernel_rfl
theorem KfO : FA Tryz.prog 76 10 10 := fun g o w => by kernel_rfl
theorem KdH : FA Tryz.prog 76 6 6 := fun g o w => by kernel_rfl
theorem Kbr : FA Tryz.prog 76 7 7 := fun g o w => by kernel_rfl
theorem Kdv : FA Tryz.prog 76 5 5 := fun g o w => by kernel_rfl
theorem KfZ : FA Tryz.prog 76 9 9 := fun g o w => by kernel_rfl
theorem KbS : FA Tryz.prog 76 8 8 := fun g o w => by kernel_rfl
theorem Knt  (w : World) : (Instr.build 74 #[]).run Tryz.prog w = .ok (.agg #[.int .u32 0, .int .i64 0, .int .i64 0, .int .i64 0, .int .i64 0, .int .i64 0]) w := by kernel_rfl
theorem Kev : FA Tryz.prog 74 1 1 := fun g o w => by kernel_rfl
theorem Khf : FA Tryz.prog 74 2 2 := fun g o w => by kernel_rfl
theorem Khq : FA Tryz.prog 74 3 3 := fun g o w => by kernel_rfl
theorem KhO : FA Tryz.prog 74 5 5 := fun g o w => by kernel_rfl
theorem Kht : FA Tryz.prog 74 4 4 := fun g o w => by kernel_rfl
theorem KnM (r : Rs) (w : World) :
  Calls Tryz.prog 139 #[.agg r.cells.toArray] w fun e w' => e = .returned (.int .i64 (Kad r)) /\ Below w.heap.size w w' := by
 refine Kj Tryz.func139 rfl rfl rfl ?_ (Pm.start w);refine zSG ?_;refine TL.bx fun g1 => ?_;refine TL.as_ ?_;refine zET (zSG (TL.v (gF Kas) ?_));refine TL.v (gV 0 (.agg #[.int .u32 r.src, .int .i64 r.kind, .int .i64 r.code, .int .i64 r.left, .int .i64 r.id, .int .i64 r.quo]) KgY KgA) ?_;refine TL.al Ks4 fun g3 => ?_;refine TL.ps 0 KgA ?_;refine zET (zS (zB ?_));refine TC.join (α := {b : Bool // b = true ↔ ¬ r.inRange}) (fun y => [(1, .pointer (some ⟨g1, 0, none⟩)), (2, .int .i64 0), (3, .pointer (some ⟨g3, 0, none⟩)), (6, .bool y.1)]) (fun y => Pm w [.blk g3 74 [.int .u32 r.src, .int .i64 r.kind, .int .i64 r.code, .int .i64 r.left, .int .i64 r.id, .int .i64 r.quo], .blk g1 76 r.cells]) ?_ ?_
 ·refine zSG (TL.v (gF Ke2) ?_);refine TL.v (gL 1 Ks) ?_;refine TL.v (gF Kg3) ?_;refine TL.v (gL 1 Ks) ?_;refine TL.pS rfl Kud (fun w1 hw => Kuy r.v r.run w1) (fun h11 => ?_) (fun h11 => ?_)
  ·have q11 := of_decide_eq_true h11;refine TL.rn 2 rfl (zET (zd (zSG (TL.v (gF KiG) ?_))));refine TL.v (gL 1 Ks) ?_;refine TL.pS rfl KbZ (fun w1 hw => KbO r.num 999 w1) (fun h15 => ?_) (fun h15 => ?_)
   ·have q15 := of_decide_eq_true h15;refine TL.rn 2 rfl (zET (zd (zSG (TL.v (gF KfS) ?_))));refine TL.v (gL 1 Ks) ?_;refine TL.pS rfl KbZ (fun w1 hw => KbO r.at_ 2251799813685248 w1) (fun h19 => ?_) (fun h19 => ?_)
    ·have q19 := of_decide_eq_true h19;refine TL.rn 2 rfl (zET (zd (zSG (TL.v (gF KfO) ?_))));refine TL.v (gL 1 Ks) ?_;refine TL.pS rfl KbZ (fun w1 hw => KbO r.back 2251799813685248 w1) (fun h23 => ?_) (fun h23 => ?_)
     ·have q23 := of_decide_eq_true h23;refine TL.rn 2 rfl (zET (zd (zSG (TL.v (gF KfO) ?_))));refine TL.v (gL 1 Ks) ?_;refine TL.v (gF KfS) ?_;refine TL.v (gL 1 Ks) ?_;refine TL.sp Kr (fun q29 => ?_) (fun q29 => ?_)
      ·refine TL.as_ ?_;refine zET (zc (zk ?_));exact TX.jd (⟨true, ⟨fun _ => by unfold Rs.inRange; omega, fun _ => rfl⟩⟩) (fun w1 hw => hw)
      refine TL.as_ ?_;refine zET (zd (zSG (TL.v (gF KdH) ?_)));refine TL.v (gL 1 Ks) ?_;refine TL.pS rfl KbZ (fun w1 hw => KbO r.flow 1023 w1) (fun h32 => ?_) (fun h32 => ?_)
      ·have q32 := of_decide_eq_true h32;refine TL.rn 2 rfl (zET (zd (zG (TL.v (gF Kbr) ?_))));refine TL.v (gL 1 Ks) ?_;refine TL.sp Kr (fun q36 => ?_) (fun q36 => ?_)
       ·refine TL.rn 6 rfl (zE ?_);exact TX.jd (⟨true, ⟨fun _ => by unfold Rs.inRange; omega, fun _ => rfl⟩⟩) (fun w1 hw => hw)
       refine TL.mv ?_;refine TL.ov (gF Kbr) ?_;refine TL.ov (gL 1 Ks) ?_;refine TL.gu ?_;refine TL.sp KC (fun q40 => ?_) (fun q40 => ?_)
       ·refine TL.rn 2 rfl (zE ?_);exact TX.jd (⟨true, ⟨fun _ => by unfold Rs.inRange; omega, fun _ => rfl⟩⟩) (fun w1 hw => hw)
       refine TL.rn 2 rfl (zE ?_);exact TX.jd (⟨false, ⟨fun h => (by cases h), fun h => absurd h (by unfold Rs.inRange; omega)⟩⟩) (fun w1 hw => hw)
      have q32 := of_decide_eq_false h32;refine TL.rn 2 rfl (zET (zc (zk ?_)));exact TX.jd (⟨true, ⟨fun _ => by unfold Rs.inRange; omega, fun _ => rfl⟩⟩) (fun w1 hw => hw)
     have q23 := of_decide_eq_false h23;refine TL.rn 2 rfl (zET (zc (zk ?_)));exact TX.jd (⟨true, ⟨fun _ => by unfold Rs.inRange; omega, fun _ => rfl⟩⟩) (fun w1 hw => hw)
    have q19 := of_decide_eq_false h19;refine TL.rn 2 rfl (zET (zc (zk ?_)));exact TX.jd (⟨true, ⟨fun _ => by unfold Rs.inRange; omega, fun _ => rfl⟩⟩) (fun w1 hw => hw)
   have q15 := of_decide_eq_false h15;refine TL.rn 2 rfl (zET (zc (zk ?_)));exact TX.jd (⟨true, ⟨fun _ => by unfold Rs.inRange; omega, fun _ => rfl⟩⟩) (fun w1 hw => hw)
  have q11 := of_decide_eq_false h11;refine TL.rn 2 rfl (zET (zc (zk ?_)));exact TX.jd (⟨true, ⟨fun _ => by unfold Rs.inRange; omega, fun _ => rfl⟩⟩) (fun w1 hw => hw)
 rintro ⟨b1, hb1⟩;dsimp only at hb1 ⊢;refine TC.split (t := b1) rfl (fun c6 => ?_) (fun c6 => ?_)
 ·refine zSG (TL.as_ ?_);refine zET (zr (zRR ?_));exact Kg Tryz.results139 rfl (fun w1 hw => ⟨congrArg (fun z : Int => Ending.returned (Value.int .i64 z)) ((by first | exact Kjy hb1 hb2 hb3 hb4 (by assumption) (by assumption) (by assumption) (by assumption) | exact Knl hb1 (by assumption))), hw.bel⟩)
 refine TC.join (α := {b : Bool // b = true ↔ ¬ (r.proto = 1 \/ r.proto = 6 \/ r.proto = 17)}) (fun y => [(1, .pointer (some ⟨g1, 0, none⟩)), (2, .int .i64 0), (3, .pointer (some ⟨g3, 0, none⟩)), (42, .bool y.1)]) (fun y => Pm w [.blk g3 74 [.int .u32 r.src, .int .i64 r.kind, .int .i64 r.code, .int .i64 r.left, .int .i64 r.id, .int .i64 r.quo], .blk g1 76 r.cells]) ?_ ?_
 ·refine zG (TL.v (gF Kdv) ?_);refine TL.v (gL 1 Ks) ?_;refine TL.sp Kau (fun q45 => ?_) (fun q45 => ?_)
  ·refine TL.mv ?_;refine TL.ov (gF Kdv) ?_;refine TL.ov (gL 1 Ks) ?_;refine TL.gu ?_;refine TL.sp Kau (fun q49 => ?_) (fun q49 => ?_)
   ·refine TL.rn 2 rfl (TL.ov (gF Kdv) ?_);refine TL.ov (gL 1 Ks) ?_;refine TL.gu ?_;refine TL.sp Kau (fun q54 => ?_) (fun q54 => ?_)
    ·refine TL.rn 2 rfl (zE ?_);exact TX.jd (⟨true, ⟨fun _ => by omega, fun _ => rfl⟩⟩) (fun w1 hw => hw)
    refine TL.rn 2 rfl (zE ?_);exact TX.jd (⟨false, ⟨fun h => (by cases h), fun h => absurd h (by omega)⟩⟩) (fun w1 hw => hw)
   refine TL.rn 7 rfl (zE ?_);exact TX.jd (⟨false, ⟨fun h => (by cases h), fun h => absurd h (by omega)⟩⟩) (fun w1 hw => hw)
  refine TL.rn 11 rfl (zE ?_);exact TX.jd (⟨false, ⟨fun h => (by cases h), fun h => absurd h (by omega)⟩⟩) (fun w1 hw => hw)
 rintro ⟨b2, hb2⟩;dsimp only at hb2 ⊢;refine TC.split (t := b2) rfl (fun c42 => ?_) (fun c42 => ?_)
 ·refine zSG (TL.as_ ?_);refine zET (zr (zRR ?_));exact Kg Tryz.results139 rfl (fun w1 hw => ⟨congrArg (fun z : Int => Ending.returned (Value.int .i64 z)) (Kq5 hb1 hb2 (by assumption) (by assumption)), hw.bel⟩)
 refine TC.join (α := {b : Bool // b = true ↔ (r.dbl = true /\ r.ans = false) \/ (r.ans = false /\ r.noAns = false)}) (fun y => [(1, .pointer (some ⟨g1, 0, none⟩)), (2, .int .i64 0), (3, .pointer (some ⟨g3, 0, none⟩)), (56, .bool y.1)]) (fun y => Pm w [.blk g3 74 [.int .u32 r.src, .int .i64 r.kind, .int .i64 r.code, .int .i64 r.left, .int .i64 r.id, .int .i64 r.quo], .blk g1 76 r.cells]) ?_ ?_
 ·refine zSG (TL.v (gF KfZ) ?_);refine TL.vw rfl (gL 1 KaB) (fun h58 => ?_) (fun h58 => ?_)
  ·refine TL.mv ?_;refine TL.ov (gF KbS) ?_;refine TL.gu ?_;refine TL.vw rfl (gL 1 KaB) (fun h61 => ?_) (fun h61 => ?_)
   ·refine TL.rn 3 rfl (zET (zd (zG (TL.v (gF KbS) ?_))));refine TL.vw rfl (gL 1 KaB) (fun h65 => ?_) (fun h65 => ?_)
    ·refine TL.rn 7 rfl (zE ?_);exact TX.jd (⟨false, by simp_all⟩) (fun w1 hw => hw)
    refine TL.rn 2 rfl (TL.ov (gV 0 (.agg #[.int .u32 r.src, .int .i64 r.kind, .int .i64 r.code, .int .i64 r.left, .int .i64 r.id, .int .i64 r.quo]) KgY KgA) ?_);refine TL.gu ?_;refine TL.w rfl (Kt (v := .agg #[.int .u32 0, .int .i64 0, .int .i64 0, .int .i64 0, .int .i64 0, .int .i64 0]) rfl rfl (fun w => Knt  w)) ?_;refine TL.gu ?_;refine TL.vw rfl ((Ka0 (v := .bool (!r.noAns)) rfl rfl rfl (fun w => (KlY _ _ _ _ _ _ _ _ _ _ _ _ w).trans (by unfold Rs.noAns; rfl)))) (fun h70 => ?_) (fun h70 => ?_)
    ·refine TL.rn 2 rfl (zE ?_);exact TX.jd (⟨true, by simp_all⟩) (fun w1 hw => hw)
    refine TL.rn 2 rfl (zE ?_);exact TX.jd (⟨false, by simp_all⟩) (fun w1 hw => hw)
   refine TL.rn 3 rfl (zET (zc (zk ?_)));exact TX.jd (⟨true, by simp_all⟩) (fun w1 hw => hw)
  refine TL.rn 6 rfl (zET (zd (zG (TL.v (gF KbS) ?_))));refine TL.vw rfl (gL 1 KaB) (fun h65 => ?_) (fun h65 => ?_)
  ·refine TL.rn 7 rfl (zE ?_);exact TX.jd (⟨false, by simp_all⟩) (fun w1 hw => hw)
  refine TL.rn 2 rfl (TL.ov (gV 0 (.agg #[.int .u32 r.src, .int .i64 r.kind, .int .i64 r.code, .int .i64 r.left, .int .i64 r.id, .int .i64 r.quo]) KgY KgA) ?_);refine TL.gu ?_;refine TL.w rfl (Kt (v := .agg #[.int .u32 0, .int .i64 0, .int .i64 0, .int .i64 0, .int .i64 0, .int .i64 0]) rfl rfl (fun w => Knt  w)) ?_;refine TL.gu ?_;refine TL.vw rfl ((Ka0 (v := .bool (!r.noAns)) rfl rfl rfl (fun w => (KlY _ _ _ _ _ _ _ _ _ _ _ _ w).trans (by unfold Rs.noAns; rfl)))) (fun h70 => ?_) (fun h70 => ?_)
  ·refine TL.rn 2 rfl (zE ?_);exact TX.jd (⟨true, by simp_all⟩) (fun w1 hw => hw)
  refine TL.rn 2 rfl (zE ?_);exact TX.jd (⟨false, by simp_all⟩) (fun w1 hw => hw)
 rintro ⟨b3, hb3⟩;dsimp only at hb3 ⊢;refine TC.split (t := b3) rfl (fun c56 => ?_) (fun c56 => ?_)
 ·refine zSG (TL.as_ ?_);refine zET (zr (zRR ?_));exact Kg Tryz.results139 rfl (fun w1 hw => ⟨congrArg (fun z : Int => Ending.returned (Value.int .i64 z)) (Kt9 hb1 hb2 hb3 (by assumption) (by assumption) (by assumption)), hw.bel⟩)
 refine TC.join (α := {b : Bool // b = true ↔ r.ans = true /\ ¬ r.ansOk}) (fun y => [(1, .pointer (some ⟨g1, 0, none⟩)), (2, .int .i64 0), (3, .pointer (some ⟨g3, 0, none⟩)), (72, .bool y.1)]) (fun y => Pm w [.blk g3 74 [.int .u32 r.src, .int .i64 r.kind, .int .i64 r.code, .int .i64 r.left, .int .i64 r.id, .int .i64 r.quo], .blk g1 76 r.cells]) ?_ ?_
 ·refine zG (TL.v (gF KbS) ?_);refine TL.vw rfl (gL 1 KaB) (fun h74 => ?_) (fun h74 => ?_)
  ·refine TL.mv ?_;refine TL.ov (gF Kev) ?_;refine TL.ov (gL 0 Ks) ?_;refine TL.gu ?_;refine TL.sp Kr (fun q78 => ?_) (fun q78 => ?_)
   ·refine TL.rn 31 rfl (zE ?_);exact TX.jd (⟨true, ⟨fun _ => ⟨by assumption, by unfold Rs.ansOk; omega⟩, fun _ => rfl⟩⟩) (fun w1 hw => hw)
   refine TL.rn 1 rfl (TL.ov (gF Kev) ?_);refine TL.ov (gL 0 Ks) ?_;refine TL.gu ?_;refine TL.sp KC (fun q82 => ?_) (fun q82 => ?_)
   ·refine TL.rn 27 rfl (zE ?_);exact TX.jd (⟨true, ⟨fun _ => ⟨by assumption, by unfold Rs.ansOk; omega⟩, fun _ => rfl⟩⟩) (fun w1 hw => hw)
   refine TL.rn 2 rfl (TL.ov (gF Khf) ?_);refine TL.ov (gL 0 Ks) ?_;refine TL.gu ?_;refine TL.pS rfl KbZ (fun w1 hw => KbO r.code 255 w1) (fun h87 => ?_) (fun h87 => ?_)
   ·have q87 := of_decide_eq_true h87;refine TL.rn 3 rfl (TL.ov (gF Khq) ?_);refine TL.ov (gL 0 Ks) ?_;refine TL.gu ?_;refine TL.pS rfl KbZ (fun w1 hw => KbO r.left 255 w1) (fun h93 => ?_) (fun h93 => ?_)
    ·have q93 := of_decide_eq_true h93;refine TL.rn 3 rfl (TL.ov (gF KhO) ?_);refine TL.ov (gL 0 Ks) ?_;refine TL.gu ?_;refine TL.pS rfl KbZ (fun w1 hw => KbO r.quo 255 w1) (fun h99 => ?_) (fun h99 => ?_)
     ·have q99 := of_decide_eq_true h99;refine TL.rn 3 rfl (TL.ov (gF Kht) ?_);refine TL.ov (gL 0 Ks) ?_;refine TL.gu ?_;refine TL.pS rfl KbZ (fun w1 hw => KbO r.id 65535 w1) (fun h105 => ?_) (fun h105 => ?_)
      ·have q105 := of_decide_eq_true h105;refine TL.rn 4 rfl (zE ?_);exact TX.jd (⟨false, ⟨fun h => (by cases h), fun h => absurd (show r.ansOk from by unfold Rs.ansOk; omega) h.2⟩⟩) (fun w1 hw => hw)
      have q105 := of_decide_eq_false h105;refine TL.rn 4 rfl (zE ?_);exact TX.jd (⟨true, ⟨fun _ => ⟨by assumption, by unfold Rs.ansOk; omega⟩, fun _ => rfl⟩⟩) (fun w1 hw => hw)
     have q99 := of_decide_eq_false h99;refine TL.rn 10 rfl (zE ?_);exact TX.jd (⟨true, ⟨fun _ => ⟨by assumption, by unfold Rs.ansOk; omega⟩, fun _ => rfl⟩⟩) (fun w1 hw => hw)
    have q93 := of_decide_eq_false h93;refine TL.rn 16 rfl (zE ?_);exact TX.jd (⟨true, ⟨fun _ => ⟨by assumption, by unfold Rs.ansOk; omega⟩, fun _ => rfl⟩⟩) (fun w1 hw => hw)
   have q87 := of_decide_eq_false h87;refine TL.rn 22 rfl (zE ?_);exact TX.jd (⟨true, ⟨fun _ => ⟨by assumption, by unfold Rs.ansOk; omega⟩, fun _ => rfl⟩⟩) (fun w1 hw => hw)
  refine TL.rn 5 rfl ?_;refine TL.offU rfl rfl rfl rfl rfl ?_;refine TL.offU rfl rfl rfl rfl rfl ?_;refine TL.offU rfl rfl rfl rfl rfl ?_;refine TL.rn 2 rfl ?_;refine TL.offU rfl rfl rfl rfl rfl ?_;refine TL.offU rfl rfl rfl rfl rfl ?_;refine TL.offU rfl rfl rfl rfl rfl ?_;refine TL.offU rfl rfl rfl rfl rfl ?_;refine TL.rn 2 rfl ?_;refine TL.offU rfl rfl rfl rfl rfl ?_;refine TL.offU rfl rfl rfl rfl rfl ?_;refine TL.offU rfl rfl rfl rfl rfl ?_;refine TL.offU rfl rfl rfl rfl rfl ?_;refine TL.rn 2 rfl ?_;refine TL.offU rfl rfl rfl rfl rfl ?_;refine TL.offU rfl rfl rfl rfl rfl ?_;refine TL.offU rfl rfl rfl rfl rfl ?_;refine TL.offU rfl rfl rfl rfl rfl ?_;refine TL.rn 2 rfl ?_;refine TL.offU rfl rfl rfl rfl rfl ?_;refine TL.offU rfl rfl rfl rfl rfl ?_;refine TL.offU rfl rfl rfl rfl rfl ?_;refine TL.offU rfl rfl rfl rfl rfl ?_;refine TL.rn 3 rfl (zE ?_);exact TX.jd (⟨false, ⟨fun h => (by cases h), fun h => (by simp_all)⟩⟩) (fun w1 hw => hw)
 rintro ⟨b4, hb4⟩;dsimp only at hb4 ⊢;refine TC.split (t := b4) rfl (fun c72 => ?_) (fun c72 => ?_)
 ·refine zSG (TL.as_ ?_);refine zET (zr (zRR ?_));exact Kg Tryz.results139 rfl (fun w1 hw => ⟨congrArg (fun z : Int => Ending.returned (Value.int .i64 z)) ((by first | exact Kjy hb1 hb2 hb3 hb4 (by assumption) (by assumption) (by assumption) (by assumption) | exact Knl hb1 (by assumption))), hw.bel⟩)
 refine zk (zN (zT (zSG ?_)));refine TL.as_ ?_;refine zET (zr ?_);exact Kg Tryz.results139 rfl (fun w1 hw => ⟨congrArg (fun z : Int => Ending.returned (Value.int .i64 z)) (Kt0 hb1 hb2 hb3 hb4 (by assumption) (by assumption) (by assumption) (by assumption)), hw.bel⟩)
set_option maxRecDepth 20000
theorem KQ : Cel Rs.cells 17 := ⟨fun _ => rfl, fun x u hu => by
 simp only [Rs.cells, List.mem_cons, List.not_mem_nil, or_false] at hu;rcases hu with rfl | rfl | rfl | rfl | rfl | rfl | rfl | rfl | rfl | rfl | rfl | rfl | rfl | rfl | rfl | rfl | rfl <;> rfl⟩
def KE (r : Rs) : Bool := decide (Kad r = 0) && decide (r.dst ≠ 0) && (!r.ans || decide (r.src ≠ 0))
def KaX (r : Rs) : Bool := !r.dbl && KE r
def KbX (r : Rs) : Bool := r.ans && decide (r.kind ≠ 1) && KaX r
def b2i (b : Bool) : Int := if b then 1 else 0
def Rs.keys (a : Rs) : List Int := [a.at_, a.v, a.run, a.num, IntKind.i64.wrap a.dst, a.proto, a.flow, a.ttl, b2i a.ans, b2i a.dbl, a.back, IntKind.i64.wrap a.src, a.kind, a.code, a.left, a.id, a.quo]
def KdQ (a b : Rs) : Int := KH a.keys b.keys
def Ka1 (a b : Rs) : List (Int × Int) := [(a.at_, b.at_), (a.v, b.v), (a.run, b.run), (a.num, b.num), (IntKind.i64.wrap a.dst, IntKind.i64.wrap b.dst), (a.proto, b.proto), (a.flow, b.flow), (a.ttl, b.ttl), (b2i a.ans, b2i b.ans), (b2i a.dbl, b2i b.dbl), (a.back, b.back), (IntKind.i64.wrap a.src, IntKind.i64.wrap b.src), (a.kind, b.kind), (a.code, b.code), (a.left, b.left), (a.id, b.id), (a.quo, b.quo)]
def orP (l : List (Int × Int)) : Int := orI (l.map fun p => Kl p.1 p.2)
theorem KlX (p : Int × Int) (l : List (Int × Int)) : orP (p :: l) = if Kl p.1 p.2 = 0 then orP l else Kl p.1 p.2 := rfl
theorem KlU (a b : Rs) : KdQ a b = orP (Ka1 a b) := rfl
def Ku (r : Rs) : Trc := ⟨r.v, r.dst, r.proto⟩
theorem Koy (w : World) : (isAgg 228).run Tryz.prog w = .ok true w := rfl
theorem Km0 (w : World) : (sizeOf 228).run Tryz.prog w = .ok 2 w := rfl
theorem Kae (w : World) : (isAgg 76).run Tryz.prog w = .ok true w := rfl
theorem KG (w : World) : (sizeOf 76).run Tryz.prog w = .ok 17 w := rfl
theorem KfT : FA Tryz.prog 76 4 4 := fun g o w => by kernel_rfl
theorem KcQ : FA Tryz.prog 74 0 0 := fun g o w => by kernel_rfl
theorem KaC (a0_0 : Int) (a1_0 : Int) (w : World) : (Instr.build 228 #[(0, .int .i64 a0_0), (1, .int .i64 a1_0)]).run Tryz.prog w = .ok (.agg #[.int .i64 a0_0, .int .i64 a1_0]) w := by kernel_rfl
theorem Ksz (a0_0 : Int) (a0_1 : Int) (a1_0 : Int) (a1_1 : Int) (a2_0 : Int) (a2_1 : Int) (a3_0 : Int) (a3_1 : Int) (a4_0 : Int) (a4_1 : Int) (a5_0 : Int) (a5_1 : Int) (a6_0 : Int) (a6_1 : Int) (a7_0 : Int) (a7_1 : Int) (a8_0 : Int) (a8_1 : Int) (a9_0 : Int) (a9_1 : Int) (a10_0 : Int) (a10_1 : Int) (a11_0 : Int) (a11_1 : Int) (a12_0 : Int) (a12_1 : Int) (a13_0 : Int) (a13_1 : Int) (a14_0 : Int) (a14_1 : Int) (a15_0 : Int) (a15_1 : Int) (a16_0 : Int) (a16_1 : Int) (w : World) : (Instr.build 280 #[(0, .agg #[.int .i64 a0_0, .int .i64 a0_1]), (1, .agg #[.int .i64 a1_0, .int .i64 a1_1]), (2, .agg #[.int .i64 a2_0, .int .i64 a2_1]), (3, .agg #[.int .i64 a3_0, .int .i64 a3_1]), (4, .agg #[.int .i64 a4_0, .int .i64 a4_1]), (5, .agg #[.int .i64 a5_0, .int .i64 a5_1]), (6, .agg #[.int .i64 a6_0, .int .i64 a6_1]), (7, .agg #[.int .i64 a7_0, .int .i64 a7_1]), (8, .agg #[.int .i64 a8_0, .int .i64 a8_1]), (9, .agg #[.int .i64 a9_0, .int .i64 a9_1]), (10, .agg #[.int .i64 a10_0, .int .i64 a10_1]), (11, .agg #[.int .i64 a11_0, .int .i64 a11_1]), (12, .agg #[.int .i64 a12_0, .int .i64 a12_1]), (13, .agg #[.int .i64 a13_0, .int .i64 a13_1]), (14, .agg #[.int .i64 a14_0, .int .i64 a14_1]), (15, .agg #[.int .i64 a15_0, .int .i64 a15_1]), (16, .agg #[.int .i64 a16_0, .int .i64 a16_1])]).run Tryz.prog w = .ok (.agg #[.int .i64 a0_0, .int .i64 a0_1, .int .i64 a1_0, .int .i64 a1_1, .int .i64 a2_0, .int .i64 a2_1, .int .i64 a3_0, .int .i64 a3_1, .int .i64 a4_0, .int .i64 a4_1, .int .i64 a5_0, .int .i64 a5_1, .int .i64 a6_0, .int .i64 a6_1, .int .i64 a7_0, .int .i64 a7_1, .int .i64 a8_0, .int .i64 a8_1, .int .i64 a9_0, .int .i64 a9_1, .int .i64 a10_0, .int .i64 a10_1, .int .i64 a11_0, .int .i64 a11_1, .int .i64 a12_0, .int .i64 a12_1, .int .i64 a13_0, .int .i64 a13_1, .int .i64 a14_0, .int .i64 a14_1, .int .i64 a15_0, .int .i64 a15_1, .int .i64 a16_0, .int .i64 a16_1]) w := by kernel_rfl
theorem KrP (w : World) : (zeroValue 280).run Tryz.prog w = .ok (.agg #[.int .i64 0, .int .i64 0, .int .i64 0, .int .i64 0, .int .i64 0, .int .i64 0, .int .i64 0, .int .i64 0, .int .i64 0, .int .i64 0, .int .i64 0, .int .i64 0, .int .i64 0, .int .i64 0, .int .i64 0, .int .i64 0, .int .i64 0, .int .i64 0, .int .i64 0, .int .i64 0, .int .i64 0, .int .i64 0, .int .i64 0, .int .i64 0, .int .i64 0, .int .i64 0, .int .i64 0, .int .i64 0, .int .i64 0, .int .i64 0, .int .i64 0, .int .i64 0, .int .i64 0, .int .i64 0]) w := rfl
theorem Kj2 (w : World) : (sizeOf 280).run Tryz.prog w = .ok 34 w := rfl
theorem Ktc (w : World) : (isAgg 280).run Tryz.prog w = .ok true w := rfl
theorem KsO (w : World) : (zeroValue 228).run Tryz.prog w = .ok (.agg #[.int .i64 0, .int .i64 0]) w := rfl
theorem Kni (w : World) : (zeroValue 48).run Tryz.prog w = .ok (.agg #[.int .i64 0, .int .u32 0, .int .i64 0]) w := rfl
theorem KsG (a0_0 : Int) (a1_0 : Int) (a2_0 : Int) (w : World) : (Instr.build 48 #[(0, .int .i64 a0_0), (1, .int .u32 a1_0), (2, .int .i64 a2_0)]).run Tryz.prog w = .ok (.agg #[.int .i64 a0_0, .int .u32 a1_0, .int .i64 a2_0]) w := by kernel_rfl
theorem KaH (w : World) : (sizeOf 48).run Tryz.prog w = .ok 3 w := rfl
theorem KeL (r : Rs) (w : World) :
  Calls Tryz.prog 93 #[.agg r.cells.toArray] w fun e w' => e = .returned (.bool (KE r)) /\ Below w.heap.size w w' := by
 refine Kj Tryz.func93 rfl rfl rfl ?_ (Pm.start w);refine zSG ?_;refine TL.bx fun g1 => ?_;refine TL.as_ ?_;refine zET (zSG (TL.v (gV 0 (.agg (r.cells).toArray) Kae KG) ?_));refine TL.p1 rfl KtB (fun w1 hw => KnM r w1) ?_;refine TL.sp KK (fun q5 => ?_) (fun q5 => ?_)
 ·refine TL.mv ?_;refine TL.ov (gF KfT) ?_;refine TL.ov (gL 0 Kab) ?_;refine TL.gu ?_;refine TL.sp Kau (fun q9 => ?_) (fun q9 => ?_)
  ·refine TL.rn 2 rfl (TL.ov (gF KbS) ?_);refine TL.gu ?_;refine TL.vw rfl (gL 0 KaB) (fun h13 => ?_) (fun h13 => ?_)
   ·refine TL.rn 2 rfl (TL.ov (gF Kas) ?_);refine TL.ov (gF KcQ) ?_;refine TL.ov (gL 0 Kab) ?_;refine TL.gu ?_;refine TL.sp Kau (fun q19 => ?_) (fun q19 => ?_)
    ·refine TL.rn 3 rfl (zET (zr ?_));have hE : (KE r) = true := (by simp [KE, q5, q9, h13, q19]);exact Kg Tryz.results93 rfl (fun w1 hw => ⟨by rw [hE]; try rfl, hw.bel⟩)
    refine TL.rn 3 rfl (zET (zr ?_));have hE : (KE r) = false := (by simp [KE, q5, q9, h13, q19]);exact Kg Tryz.results93 rfl (fun w1 hw => ⟨by rw [hE]; try rfl, hw.bel⟩)
   refine TL.rn 9 rfl (zET (zr ?_));have hE : (KE r) = true := (by simp [KE, q5, q9, h13]);exact Kg Tryz.results93 rfl (fun w1 hw => ⟨by rw [hE]; try rfl, hw.bel⟩)
  refine TL.rn 6 rfl ?_;refine TL.offU rfl rfl rfl rfl rfl ?_;refine TL.offU rfl rfl rfl rfl rfl ?_;refine TL.offU rfl rfl rfl rfl rfl ?_;refine TL.offU rfl rfl rfl rfl rfl ?_;refine TL.rn 3 rfl (zET (zr ?_));have hE : (KE r) = false := (by simp [KE, q5, q9]);exact Kg Tryz.results93 rfl (fun w1 hw => ⟨by rw [hE]; try rfl, hw.bel⟩)
 refine TL.rn 10 rfl ?_;refine TL.offU rfl rfl rfl rfl rfl ?_;refine TL.offU rfl rfl rfl rfl rfl ?_;refine TL.offU rfl rfl rfl rfl rfl ?_;refine TL.offU rfl rfl rfl rfl rfl ?_;refine TL.rn 3 rfl (zET (zr ?_));have hE : (KE r) = false := (by simp [KE, q5]);exact Kg Tryz.results93 rfl (fun w1 hw => ⟨by rw [hE]; try rfl, hw.bel⟩)
theorem Kjv (r : Rs) (w : World) :
  Calls Tryz.prog 110 #[.agg r.cells.toArray] w fun e w' => e = .returned (.bool (KaX r)) /\ Below w.heap.size w w' := by
 refine Kj Tryz.func110 rfl rfl rfl ?_ (Pm.start w);refine zSG ?_;refine TL.bx fun g1 => ?_;refine TL.as_ ?_;refine zET (zSG (TL.v (gF KfZ) ?_));refine TL.vw rfl (gL 0 KaB) (fun h4 => ?_) (fun h4 => ?_)
 ·refine TL.rn 6 rfl (zET (zr ?_));have hE : (KaX r) = false := (by simp [KaX, h4]);exact Kg Tryz.results110 rfl (fun w1 hw => ⟨by rw [hE]; try rfl, hw.bel⟩)
 refine TL.rn 2 rfl (TL.ov (gV 0 (.agg (r.cells).toArray) Kae KG) ?_);refine TL.gu ?_;refine TL.pS rfl o93 (fun w1 hw => KeL r w1) (fun h8 => ?_) (fun h8 => ?_)
 ·refine TL.rn 2 rfl (zET (zr ?_));have hE : (KaX r) = true := (by simp [KaX, h4, h8]);exact Kg Tryz.results110 rfl (fun w1 hw => ⟨by rw [hE]; try rfl, hw.bel⟩)
 refine TL.rn 2 rfl (zET (zr ?_));have hE : (KaX r) = false := (by simp [KaX, h4, h8]);exact Kg Tryz.results110 rfl (fun w1 hw => ⟨by rw [hE]; try rfl, hw.bel⟩)
theorem KjB (r : Rs) (w : World) :
  Calls Tryz.prog 163 #[.agg r.cells.toArray] w fun e w' => e = .returned (.bool (KbX r)) /\ Below w.heap.size w w' := by
 refine Kj Tryz.func163 rfl rfl rfl ?_ (Pm.start w);refine zSG ?_;refine TL.bx fun g1 => ?_;refine TL.as_ ?_;refine zET (zSG (TL.v (gF KbS) ?_));refine TL.vw rfl (gL 0 KaB) (fun h4 => ?_) (fun h4 => ?_)
 ·refine TL.mv ?_;refine TL.ov (gF Kas) ?_;refine TL.ov (gF Kev) ?_;refine TL.ov (gL 0 Ks) ?_;refine TL.gu ?_;refine TL.sp Kau (fun q9 => ?_) (fun q9 => ?_)
  ·refine TL.rn 2 rfl (TL.ov (gV 0 (.agg (r.cells).toArray) Kae KG) ?_);refine TL.gu ?_;refine TL.pS rfl KlJ (fun w1 hw => Kjv r w1) (fun h13 => ?_) (fun h13 => ?_)
   ·refine TL.rn 2 rfl (zET (zr ?_));have hE : (KbX r) = true := (by simp [KbX, h4, q9, h13]);exact Kg Tryz.results163 rfl (fun w1 hw => ⟨by rw [hE]; try rfl, hw.bel⟩)
   refine TL.rn 2 rfl (zET (zr ?_));have hE : (KbX r) = false := (by simp [KbX, h4, q9, h13]);exact Kg Tryz.results163 rfl (fun w1 hw => ⟨by rw [hE]; try rfl, hw.bel⟩)
  refine TL.rn 6 rfl (zET (zr ?_));have hE : (KbX r) = false := (by simp [KbX, h4, q9]);exact Kg Tryz.results163 rfl (fun w1 hw => ⟨by rw [hE]; try rfl, hw.bel⟩)
 refine TL.rn 11 rfl (zET (zr ?_));have hE : (KbX r) = false := (by simp [KbX, h4]);exact Kg Tryz.results163 rfl (fun w1 hw => ⟨by rw [hE]; try rfl, hw.bel⟩)
theorem Kfc (b : Bool) (w : World) :
  Calls Tryz.prog 209 #[.bool b] w fun e w' => e = .returned (.int .i64 (b2i b)) /\ w' = w := by
 refine Kj (I := fun w1 => w1 = w) Tryz.func209 rfl rfl rfl ?_ rfl;refine zSG (TL.as_ ?_);refine zET (zS (zS ?_))
 cases b with
 | true =>
  refine zG (TL.mv ?_);refine zET (zc (zSG (TL.as_ ?_)));refine zET (zr (zR ?_));exact Kg Tryz.results209 rfl (fun w1 hw => ⟨rfl, hw⟩)
 | false =>
  refine zG (TL.mv ?_);refine zET (zd (zk (zT (zSG (TL.as_ ?_)))));refine zET (zr ?_);exact Kg Tryz.results209 rfl (fun w1 hw => ⟨rfl, hw⟩)
theorem Kog (a b : Rs) (w : World) :
  Calls Tryz.prog 141 #[.agg a.cells.toArray, .agg b.cells.toArray] w fun e w' => e = .returned (.int .i64 (KdQ a b)) /\ Below w.heap.size w w' := by
 refine Kj Tryz.func141 rfl rfl rfl ?_ (Pm.start w);refine zSG ?_;refine TL.bx fun g2 => ?_;refine TL.bx fun g3 => ?_;refine TL.as_ ?_;refine zET (zS (TC.pre 106 108 2 (Pm w [.blk g3 76 b.cells, .blk g2 76 a.cells]) (by kernel_rfl) rfl (fun w hw => hw.drawn _) (by kernel_rfl) rfl (fun w1 hw => hw) ?_));refine TV.val rfl rfl rfl (gF KfS) ?_;refine TV.val rfl rfl rfl (gL 1 Ks) ?_;refine TV.val rfl rfl rfl (gF KfS) ?_;refine TV.val rfl rfl rfl (gL 0 Ks) ?_;refine TV.val rfl rfl rfl (Kt (v := .agg #[.int .i64 a.at_, .int .i64 b.at_]) rfl rfl (fun w => KaC _ _ w)) ?_;refine TV.val rfl rfl rfl (gF Ke2) ?_;refine TV.val rfl rfl rfl (gL 1 Ks) ?_;refine TV.val rfl rfl rfl (gF Ke2) ?_;refine TV.val rfl rfl rfl (gL 0 Ks) ?_;refine TV.val rfl rfl rfl (Kt (v := .agg #[.int .i64 a.v, .int .i64 b.v]) rfl rfl (fun w => KaC _ _ w)) ?_;refine TV.val rfl rfl rfl (gF Kg3) ?_;refine TV.val rfl rfl rfl (gL 1 Ks) ?_;refine TV.val rfl rfl rfl (gF Kg3) ?_;refine TV.val rfl rfl rfl (gL 0 Ks) ?_;refine TV.val rfl rfl rfl (Kt (v := .agg #[.int .i64 a.run, .int .i64 b.run]) rfl rfl (fun w => KaC _ _ w)) ?_;refine TV.val rfl rfl rfl (gF KiG) ?_;refine TV.val rfl rfl rfl (gL 1 Ks) ?_;refine TV.val rfl rfl rfl (gF KiG) ?_;refine TV.val rfl rfl rfl (gL 0 Ks) ?_;refine TV.val rfl rfl rfl (Kt (v := .agg #[.int .i64 a.num, .int .i64 b.num]) rfl rfl (fun w => KaC _ _ w)) ?_;refine TV.val rfl rfl rfl (gF KfT) ?_;refine TV.val rfl rfl rfl (gL 1 Kab) ?_;refine TV.val rfl rfl rfl (KaG rfl rfl (fun w => KfM Tryz.underlying3 Tryz.underlying42 w)) ?_;refine TV.val rfl rfl rfl (gF KfT) ?_;refine TV.val rfl rfl rfl (gL 0 Kab) ?_;refine TV.val rfl rfl rfl (KaG rfl rfl (fun w => KfM Tryz.underlying3 Tryz.underlying42 w)) ?_;refine TV.val rfl rfl rfl (Kt (v := .agg #[.int .i64 (IntKind.i64.wrap a.dst), .int .i64 (IntKind.i64.wrap b.dst)]) rfl rfl (fun w => KaC _ _ w)) ?_;refine TV.val rfl rfl rfl (gF Kdv) ?_;refine TV.val rfl rfl rfl (gL 1 Ks) ?_;refine TV.val rfl rfl rfl (gF Kdv) ?_;refine TV.val rfl rfl rfl (gL 0 Ks) ?_;refine TV.val rfl rfl rfl (Kt (v := .agg #[.int .i64 a.proto, .int .i64 b.proto]) rfl rfl (fun w => KaC _ _ w)) ?_;refine TV.val rfl rfl rfl (gF KdH) ?_;refine TV.val rfl rfl rfl (gL 1 Ks) ?_;refine TV.val rfl rfl rfl (gF KdH) ?_;refine TV.val rfl rfl rfl (gL 0 Ks) ?_;refine TV.val rfl rfl rfl (Kt (v := .agg #[.int .i64 a.flow, .int .i64 b.flow]) rfl rfl (fun w => KaC _ _ w)) ?_;refine TV.val rfl rfl rfl (gF Kbr) ?_;refine TV.val rfl rfl rfl (gL 1 Ks) ?_;refine TV.val rfl rfl rfl (gF Kbr) ?_;refine TV.val rfl rfl rfl (gL 0 Ks) ?_;refine TV.val rfl rfl rfl (Kt (v := .agg #[.int .i64 a.ttl, .int .i64 b.ttl]) rfl rfl (fun w => KaC _ _ w)) ?_;refine TV.val rfl rfl rfl (gF KbS) ?_;refine TV.val rfl rfl rfl (gL 1 KaB) ?_;refine TV.call (r := .int .i64 (b2i a.ans)) rfl rfl rfl rfl rfl Tryz.func209 (by decide) rfl (fun w1 hw => Kfc a.ans w1) ?_;refine TV.val rfl rfl rfl (gF KbS) ?_;refine TV.val rfl rfl rfl (gL 0 KaB) ?_;refine TV.call (r := .int .i64 (b2i b.ans)) rfl rfl rfl rfl rfl Tryz.func209 (by decide) rfl (fun w1 hw => Kfc b.ans w1) ?_;refine TV.val rfl rfl rfl (Kt (v := .agg #[.int .i64 (b2i a.ans), .int .i64 (b2i b.ans)]) rfl rfl (fun w => KaC _ _ w)) ?_;refine TV.val rfl rfl rfl (gF KfZ) ?_;refine TV.val rfl rfl rfl (gL 1 KaB) ?_;refine TV.call (r := .int .i64 (b2i a.dbl)) rfl rfl rfl rfl rfl Tryz.func209 (by decide) rfl (fun w1 hw => Kfc a.dbl w1) ?_;refine TV.val rfl rfl rfl (gF KfZ) ?_;refine TV.val rfl rfl rfl (gL 0 KaB) ?_;refine TV.call (r := .int .i64 (b2i b.dbl)) rfl rfl rfl rfl rfl Tryz.func209 (by decide) rfl (fun w1 hw => Kfc b.dbl w1) ?_
 refine TV.val rfl rfl rfl (Kt (v := .agg #[.int .i64 (b2i a.dbl), .int .i64 (b2i b.dbl)]) rfl rfl (fun w => KaC _ _ w)) ?_;refine TV.val rfl rfl rfl (gF KfO) ?_;refine TV.val rfl rfl rfl (gL 1 Ks) ?_;refine TV.val rfl rfl rfl (gF KfO) ?_;refine TV.val rfl rfl rfl (gL 0 Ks) ?_;refine TV.val rfl rfl rfl (Kt (v := .agg #[.int .i64 a.back, .int .i64 b.back]) rfl rfl (fun w => KaC _ _ w)) ?_;refine TV.val rfl rfl rfl (gF Kas) ?_;refine TV.val rfl rfl rfl (gF KcQ) ?_;refine TV.val rfl rfl rfl (gL 1 Kab) ?_;refine TV.val rfl rfl rfl (KaG rfl rfl (fun w => KfM Tryz.underlying3 Tryz.underlying42 w)) ?_;refine TV.val rfl rfl rfl (gF Kas) ?_;refine TV.val rfl rfl rfl (gF KcQ) ?_;refine TV.val rfl rfl rfl (gL 0 Kab) ?_;refine TV.val rfl rfl rfl (KaG rfl rfl (fun w => KfM Tryz.underlying3 Tryz.underlying42 w)) ?_;refine TV.val rfl rfl rfl (Kt (v := .agg #[.int .i64 (IntKind.i64.wrap a.src), .int .i64 (IntKind.i64.wrap b.src)]) rfl rfl (fun w => KaC _ _ w)) ?_;refine TV.val rfl rfl rfl (gF Kas) ?_;refine TV.val rfl rfl rfl (gF Kev) ?_;refine TV.val rfl rfl rfl (gL 1 Ks) ?_;refine TV.val rfl rfl rfl (gF Kas) ?_;refine TV.val rfl rfl rfl (gF Kev) ?_;refine TV.val rfl rfl rfl (gL 0 Ks) ?_;refine TV.val rfl rfl rfl (Kt (v := .agg #[.int .i64 a.kind, .int .i64 b.kind]) rfl rfl (fun w => KaC _ _ w)) ?_;refine TV.val rfl rfl rfl (gF Kas) ?_;refine TV.val rfl rfl rfl (gF Khf) ?_;refine TV.val rfl rfl rfl (gL 1 Ks) ?_;refine TV.val rfl rfl rfl (gF Kas) ?_;refine TV.val rfl rfl rfl (gF Khf) ?_;refine TV.val rfl rfl rfl (gL 0 Ks) ?_;refine TV.val rfl rfl rfl (Kt (v := .agg #[.int .i64 a.code, .int .i64 b.code]) rfl rfl (fun w => KaC _ _ w)) ?_;refine TV.val rfl rfl rfl (gF Kas) ?_;refine TV.val rfl rfl rfl (gF Khq) ?_;refine TV.val rfl rfl rfl (gL 1 Ks) ?_;refine TV.val rfl rfl rfl (gF Kas) ?_;refine TV.val rfl rfl rfl (gF Khq) ?_;refine TV.val rfl rfl rfl (gL 0 Ks) ?_;refine TV.val rfl rfl rfl (Kt (v := .agg #[.int .i64 a.left, .int .i64 b.left]) rfl rfl (fun w => KaC _ _ w)) ?_;refine TV.val rfl rfl rfl (gF Kas) ?_;refine TV.val rfl rfl rfl (gF Kht) ?_;refine TV.val rfl rfl rfl (gL 1 Ks) ?_;refine TV.val rfl rfl rfl (gF Kas) ?_;refine TV.val rfl rfl rfl (gF Kht) ?_;refine TV.val rfl rfl rfl (gL 0 Ks) ?_;refine TV.val rfl rfl rfl (Kt (v := .agg #[.int .i64 a.id, .int .i64 b.id]) rfl rfl (fun w => KaC _ _ w)) ?_;refine TV.val rfl rfl rfl (gF Kas) ?_;refine TV.val rfl rfl rfl (gF KhO) ?_;refine TV.val rfl rfl rfl (gL 1 Ks) ?_;refine TV.val rfl rfl rfl (gF Kas) ?_;refine TV.val rfl rfl rfl (gF KhO) ?_;refine TV.val rfl rfl rfl (gL 0 Ks) ?_;refine TV.val rfl rfl rfl (Kt (v := .agg #[.int .i64 a.quo, .int .i64 b.quo]) rfl rfl (fun w => KaC _ _ w)) ?_;refine TV.val rfl rfl rfl (Kt (v := .agg ((Kb pc2 (Ka1 a b))).toArray) rfl rfl (fun w => Ksz _ _ _ _ _ _ _ _ _ _ _ _ _ _ _ _ _ _ _ _ _ _ _ _ _ _ _ _ _ _ _ _ _ _ w)) ?_;refine TV.end_ (ls := #[Tt,Tt,Tt,Tt,Tt,Tt,Tt,Tt,Tt,Tt,Tt,Tt,Tt,Tt,Tt,Tt,Tt,Tt,Tt,Tt,Tt,Tt,Tt,Tt,Tt,Tt,Tt,Tt,Tt,Tt,Tt,Tt,Tt,Tt,Tt,Tt,Tt,Tt,Tt,Tt,Tt,Tt,Tt,Tt,Tt,Tt,Tt,Tt,Tt,Tt,Tt,Tt,Tt,Tt,Tt,Tt,Tt,Tt,Tt,Tt,Tt,Tt,Tt,Tt,Tt,Tt,Tt,Tt,Tt,Tt,Tt,Tt,Tt,Tt,Tt,Tt,Tt,Tt,Tt,Tt,Tt,Tt,Tt,Tt,Tt,Tt,Tt,Tt,Tt,Tt,Tt,Tt,Tt,Tt,Tt,Tt,Tt,Tt,Tt,Tt,Tt,Tt,Tt,Tt,Tt,Tt,Ff,Ff]) (by kernel_rfl) ?_;refine TH.o 106 ?_;refine TL.al KrP fun g5 => ?_;refine zE ?_;refine TX.held (fun w1 hw => hw.pk [1, 2]) ?_;refine TH.o 107 ?_;refine TL.pstore (k := 0) (vs := (Kb pc2 (Ka1 a b))) rfl rfl rfl rfl rfl rfl rfl Kj2 (KB KgG _) (by show 34 <= 34; decide) (L' := [.blk g5 280 (Kb pc2 (Ka1 a b)), .blk g3 76 b.cells, .blk g2 76 a.cells]) rfl ?_
 refine zE ?_;refine TX.held (fun w1 hw => hw.pk [1, 2]) ?_;refine TH.done (by kernel_rfl) ?_;refine zT (zS (zSG (TL.v (gV 0 (.agg ((Kb pc2 (Ka1 a b))).toArray) Ktc Kj2) ?_)));refine TL.mv ?_;refine zET (zB (TC.lp (α := {i : Nat // i <= 17 /\ orP ((Ka1 a b).drop i) = orP (Ka1 a b)}) [2, 3, 115, 4] rfl (fun y => [(116, .int .i64 ((y.1 : Nat) : Int))]) (fun y => Pm w [.blk g5 280 (Kb pc2 (Ka1 a b)), .blk g3 76 b.cells, .blk g2 76 a.cells]) (fun y => 17 - y.1) (⟨0, Nat.zero_le _, rfl⟩) (fun w1 hw => hw) ?_));rintro ⟨i, hi, ho⟩
 try dsimp only at hi ho ⊢
 refine zSG ?_;refine TL.sp Kr (fun q117 => ?_) (fun q117 => ?_)
 ·refine zET (zS (zc (zk (zT (zS (zB (zSG ?_)))))));obtain ⟨x118, hx118⟩ : ∃ x, (Ka1 a b)[i]? = some x := ⟨_, List.getElem?_eq_getElem (by show i < 17; omega)⟩;have hdr : (Ka1 a b).drop i = x118 :: (Ka1 a b).drop (i + 1) := by obtain ⟨hlt, e⟩ := List.getElem?_eq_some_iff.1 hx118; rw [List.drop_eq_getElem_cons hlt, e]
  refine TL.w rfl (KeB (v := .agg (pc2 x118).toArray) rfl rfl rfl (fun w => KrO KgG Tryz.underlying280 Koy Km0 hx118 rfl rfl w)) ?_;refine TL.al KsO fun g7 => ?_;refine TL.pstore (k := 0) (vs := (pc2 x118)) rfl rfl rfl rfl rfl rfl rfl Km0 (KgG.one _) (by show 2 <= 2; decide) (L' := [.blk g7 228 (pc2 x118), .blk g5 280 (Kb pc2 (Ka1 a b)), .blk g3 76 b.cells, .blk g2 76 a.cells]) rfl ?_;refine zET (zSG ?_);refine TL.w rfl (KaM (v := .pointer (some ⟨g7, 0, none⟩)) rfl rfl rfl (fun w => Kcw Tryz.underlying228 KdU g7 0 _ 0 (by decide) w)) ?_;refine TL.v (gL 0 Ks) ?_;refine TL.w rfl (KaM (v := .pointer (some ⟨g7, 1, none⟩)) rfl rfl rfl (fun w => Kcw Tryz.underlying228 KdU g7 0 _ 1 (by decide) w)) ?_;refine TL.v (gL 0 Ks) ?_;refine TL.p1 (r := .int .i64 (Kl x118.1 x118.2)) rfl o48 (fun w1 hw => Kes (KcE x118.1 x118.2 w1)) ?_;refine TL.as_ ?_;refine zET (zSG (TL.mv ?_));refine TL.sp Kau (fun q125 => ?_) (fun q125 => ?_)
  ·refine zET (zc (zSG (TL.rn 2 rfl (zET (zr (zRR (zR (zRR ?_))))))));exact Kg Tryz.results141 rfl (fun w1 hw => ⟨by rw [KlU, <- ho, hdr, KlX, if_neg q125], hw.bel⟩)
  have ho2 : orP ((Ka1 a b).drop (i + 1)) = orP (Ka1 a b) := by rw [<- ho, hdr, KlX, if_pos (Decidable.not_not.1 q125)]
  refine zET (zd (zk (zN (zT (zG (TL.v (gD ((i + 1 : Nat) : Int)) ?_))))));refine TL.mv ?_;refine zE ?_;exact TX.rd (⟨i + 1, by omega, ho2⟩) (by show 17 - (i + 1) < 17 - i; omega) (fun w1 hw => hw.pk [1, 2, 3])
 refine zET (zS (zd (zx (zX (zX (zM (zT (zSG (TL.as_ ?_)))))))));refine zET (zr ?_);exact Kg Tryz.results141 rfl (fun w1 hw => ⟨by rw [KlU, <- ho, List.drop_of_length_le (by show 17 <= i; omega)]; rfl, hw.bel⟩)
theorem Kh5 (r : Rs) (w : World) :
  Calls Tryz.prog 58 #[.agg r.cells.toArray] w fun e w' => e = .returned (.agg (Ku r).cells.toArray) /\ Below w.heap.size w w' := by
 refine Kj Tryz.func58 rfl rfl rfl ?_ (Pm.start w);refine zSG ?_;refine TL.bx fun g1 => ?_;refine TL.al Kni fun g2 => ?_;refine zET (zSG (TL.v (gF Ke2) ?_));refine TL.v (gL 1 Ks) ?_;refine TL.v (gF KfT) ?_;refine TL.v (gL 1 Kab) ?_;refine TL.v (gF Kdv) ?_;refine TL.v (gL 1 Ks) ?_;refine TL.w rfl (Kt (v := .agg #[.int .i64 r.v, .int .u32 r.dst, .int .i64 r.proto]) rfl rfl (fun w => KsG _ _ _ w)) ?_;refine TL.ps 0 KaH ?_;refine zET (zr ?_);exact Kbx (k := 0) Tryz.results58 rfl rfl Tryz.underlying48 rfl rfl (fun w1 hw => ⟨rfl, hw.bel⟩)
open Go.RowKit Go.Shelf Go.Sort
set_option maxRecDepth 20000
def KiZ : Go.Shelf.Ren := ⟨fun | 6 => 140 | 14 => 208 | 15 => 99 | 20 => 236 | 21 => 237 | 22 => 238 | 23 => 239 | 24 => 240 | 25 => 241 | 26 => 242 | 27 => 243 | 28 => 156 | 29 => 157 | 46 => 258 | 47 => 212 | 48 => 213 | 49 => 259 | 50 => 260 | 57 => 264 | n => n, fun | 22 => 27 | 24 => 76 | 25 => 233 | 39 => 194 | 45 => 243 | 46 => 244 | 50 => 248 | 53 => 41 | 55 => 214 | 66 => 282 | 70 => 286 | 76 => 312 | 77 => 313 | n => n, fun n => n⟩
theorem KqP : SlLaysF0.n6 Tryz.prog KiZ where
 mixed := by kernel_rfl
 f6 := ⟨Tryz.f140.name, by decide, Tryz.func140.trans (by kernel_rfl)⟩
 f14 := ⟨Tryz.f208.name, by decide, Tryz.func208.trans (by kernel_rfl)⟩
 f15 := Tryz.func99.trans (by kernel_rfl)
 f20 := ⟨Tryz.f236.name, by decide, Tryz.func236.trans (by kernel_rfl)⟩
 f21 := ⟨Tryz.f237.name, by decide, Tryz.func237.trans (by kernel_rfl)⟩
 f22 := ⟨Tryz.f238.name, by decide, Tryz.func238.trans (by kernel_rfl)⟩
 f23 := ⟨Tryz.f239.name, by decide, Tryz.func239.trans (by kernel_rfl)⟩
 f24 := ⟨Tryz.f240.name, by decide, Tryz.func240.trans (by kernel_rfl)⟩
 f25 := ⟨Tryz.f241.name, by decide, Tryz.func241.trans (by kernel_rfl)⟩
 f26 := ⟨Tryz.f242.name, by decide, Tryz.func242.trans (by kernel_rfl)⟩
 f27 := ⟨Tryz.f243.name, by decide, Tryz.func243.trans (by kernel_rfl)⟩
 f28 := Tryz.func156.trans (by kernel_rfl)
 f29 := Tryz.func157.trans (by kernel_rfl)
 f46 := ⟨Tryz.f258.name, by decide, Tryz.func258.trans (by kernel_rfl)⟩
 f47 := Tryz.func212.trans (by kernel_rfl)
 f48 := Tryz.func213.trans (by kernel_rfl)
 f49 := ⟨Tryz.f259.name, by decide, Tryz.func259.trans (by kernel_rfl)⟩
 f50 := ⟨Tryz.f260.name, by decide, Tryz.func260.trans (by kernel_rfl)⟩
 f57 := ⟨Tryz.f264.name, by decide, Tryz.func264.trans (by kernel_rfl)⟩
 t0 := Tryz.underlying0
 a0 := fun w => rfl
 z0 := fun w => rfl
 v0 := fun w => rfl
 t3 := Tryz.underlying3
 a3 := fun w => rfl
 z3 := fun w => rfl
 v3 := fun w => rfl
 t4 := Tryz.underlying4
 a4 := fun w => rfl
 z4 := fun w => rfl
 v4 := fun w => rfl
 t5 := Tryz.underlying5
 a5 := fun w => rfl
 z5 := fun w => rfl
 v5 := fun w => rfl
 t9 := Tryz.underlying9
 a9 := fun w => rfl
 z9 := fun w => rfl
 v9 := fun w => rfl
 t22 := Tryz.underlying27
 a22 := fun w => rfl
 z22 := fun w => rfl
 v22 := fun w => rfl
 t25 := Tryz.underlying233
 a25 := fun w => rfl
 z25 := fun w => rfl
 v25 := fun w => rfl
 t39 := Tryz.underlying194
 a39 := fun w => rfl
 z39 := fun w => rfl
 v39 := fun w => rfl
 t45 := Tryz.underlying243
 a45 := fun w => rfl
 z45 := fun w => rfl
 v45 := fun w => rfl
 t46 := Tryz.underlying244
 a46 := fun w => rfl
 z46 := fun w => rfl
 v46 := fun w => rfl
 t50 := Tryz.underlying248
 a50 := fun w => rfl
 z50 := fun w => rfl
 v50 := fun w => rfl
 t53 := Tryz.underlying41
 a53 := fun w => rfl
 z53 := fun w => rfl
 v53 := fun w => rfl
 t55 := Tryz.underlying214
 a55 := fun w => rfl
 z55 := fun w => rfl
 v55 := fun w => rfl
 t66 := Tryz.underlying282
 a66 := fun w => rfl
 z66 := fun w => rfl
 v66 := fun w => rfl
 t70 := Tryz.underlying286
 a70 := fun w => rfl
 z70 := fun w => rfl
 v70 := fun w => rfl
 t76 := Tryz.underlying312
 a76 := fun w => rfl
 z76 := fun w => rfl
 v76 := fun w => rfl
 t77 := Tryz.underlying313
 a77 := fun w => rfl
 z77 := fun w => rfl
 v77 := fun w => rfl
instance : Inhabited Rs := ⟨⟨0, 0, 0, 0, 0, 0, 0, 0, false, false, 0, 0, 0, 0, 0, 0, 0⟩⟩
theorem Ks5 {b n cap : Nat} {A : Option Addr} {l : List Rs} {w : World} (hr : w.ownsRow b 76 17 (.slice A n cap) n (Kb Rs.cells l)) (hl : l.length = n) (hn : n <= 1000000) :
  Calls Tryz.prog 140 #[.slice A n cap, .func (.func 141) #[] #[]] w fun en w' => en = .returned (.tuple #[]) /\ ∃ l', Ka4 KdQ l l' /\ w'.ownsRow b 76 17 (.slice A n cap) n (Kb Rs.cells l') /\ w.grownBy w' (Value.ownBlock (.slice A n cap)) :=
 Kgs (ρ := KiZ) KqP KQ (fun w => rfl) (fun w => rfl) KdQ (Kf4 (n := 17) (Rs.keys) fun _ => rfl) 141 (enters_of Tryz.func141 (by kernel_rfl) rfl) Kog hr hl (by omega)
def Kjh : Go.Shelf.Ren := ⟨fun | 6 => 143 | 14 => 210 | 15 => 99 | 20 => 244 | 21 => 245 | 22 => 246 | 23 => 247 | 24 => 248 | 25 => 249 | 26 => 250 | 27 => 251 | 28 => 156 | 29 => 157 | 46 => 261 | 47 => 212 | 48 => 213 | 49 => 262 | 50 => 263 | 57 => 265 | n => n, fun | 22 => 184 | 24 => 48 | 25 => 235 | 39 => 194 | 45 => 243 | 46 => 244 | 50 => 248 | 53 => 41 | 55 => 214 | 66 => 282 | 70 => 286 | 76 => 312 | 77 => 313 | n => n, fun n => n⟩
theorem Kr7 : SlLaysF0.n6 Tryz.prog Kjh where
 mixed := by kernel_rfl
 f6 := ⟨Tryz.f143.name, by decide, Tryz.func143.trans (by kernel_rfl)⟩
 f14 := ⟨Tryz.f210.name, by decide, Tryz.func210.trans (by kernel_rfl)⟩
 f15 := Tryz.func99.trans (by kernel_rfl)
 f20 := ⟨Tryz.f244.name, by decide, Tryz.func244.trans (by kernel_rfl)⟩
 f21 := ⟨Tryz.f245.name, by decide, Tryz.func245.trans (by kernel_rfl)⟩
 f22 := ⟨Tryz.f246.name, by decide, Tryz.func246.trans (by kernel_rfl)⟩
 f23 := ⟨Tryz.f247.name, by decide, Tryz.func247.trans (by kernel_rfl)⟩
 f24 := ⟨Tryz.f248.name, by decide, Tryz.func248.trans (by kernel_rfl)⟩
 f25 := ⟨Tryz.f249.name, by decide, Tryz.func249.trans (by kernel_rfl)⟩
 f26 := ⟨Tryz.f250.name, by decide, Tryz.func250.trans (by kernel_rfl)⟩
 f27 := ⟨Tryz.f251.name, by decide, Tryz.func251.trans (by kernel_rfl)⟩
 f28 := Tryz.func156.trans (by kernel_rfl)
 f29 := Tryz.func157.trans (by kernel_rfl)
 f46 := ⟨Tryz.f261.name, by decide, Tryz.func261.trans (by kernel_rfl)⟩
 f47 := Tryz.func212.trans (by kernel_rfl)
 f48 := Tryz.func213.trans (by kernel_rfl)
 f49 := ⟨Tryz.f262.name, by decide, Tryz.func262.trans (by kernel_rfl)⟩
 f50 := ⟨Tryz.f263.name, by decide, Tryz.func263.trans (by kernel_rfl)⟩
 f57 := ⟨Tryz.f265.name, by decide, Tryz.func265.trans (by kernel_rfl)⟩
 t0 := Tryz.underlying0
 a0 := fun w => rfl
 z0 := fun w => rfl
 v0 := fun w => rfl
 t3 := Tryz.underlying3
 a3 := fun w => rfl
 z3 := fun w => rfl
 v3 := fun w => rfl
 t4 := Tryz.underlying4
 a4 := fun w => rfl
 z4 := fun w => rfl
 v4 := fun w => rfl
 t5 := Tryz.underlying5
 a5 := fun w => rfl
 z5 := fun w => rfl
 v5 := fun w => rfl
 t9 := Tryz.underlying9
 a9 := fun w => rfl
 z9 := fun w => rfl
 v9 := fun w => rfl
 t22 := Tryz.underlying184
 a22 := fun w => rfl
 z22 := fun w => rfl
 v22 := fun w => rfl
 t25 := Tryz.underlying235
 a25 := fun w => rfl
 z25 := fun w => rfl
 v25 := fun w => rfl
 t39 := Tryz.underlying194
 a39 := fun w => rfl
 z39 := fun w => rfl
 v39 := fun w => rfl
 t45 := Tryz.underlying243
 a45 := fun w => rfl
 z45 := fun w => rfl
 v45 := fun w => rfl
 t46 := Tryz.underlying244
 a46 := fun w => rfl
 z46 := fun w => rfl
 v46 := fun w => rfl
 t50 := Tryz.underlying248
 a50 := fun w => rfl
 z50 := fun w => rfl
 v50 := fun w => rfl
 t53 := Tryz.underlying41
 a53 := fun w => rfl
 z53 := fun w => rfl
 v53 := fun w => rfl
 t55 := Tryz.underlying214
 a55 := fun w => rfl
 z55 := fun w => rfl
 v55 := fun w => rfl
 t66 := Tryz.underlying282
 a66 := fun w => rfl
 z66 := fun w => rfl
 v66 := fun w => rfl
 t70 := Tryz.underlying286
 a70 := fun w => rfl
 z70 := fun w => rfl
 v70 := fun w => rfl
 t76 := Tryz.underlying312
 a76 := fun w => rfl
 z76 := fun w => rfl
 v76 := fun w => rfl
 t77 := Tryz.underlying313
 a77 := fun w => rfl
 z77 := fun w => rfl
 v77 := fun w => rfl
instance : Inhabited Trc := ⟨⟨0, 0, 0⟩⟩
theorem KpL {b n cap : Nat} {A : Option Addr} {l : List Trc} {w : World} (hr : w.ownsRow b 48 3 (.slice A n cap) n (Kb Trc.cells l)) (hl : l.length = n) (hn : n <= 1000000) :
  Calls Tryz.prog 143 #[.slice A n cap, .func (.func 144) #[] #[]] w fun en w' => en = .returned (.tuple #[]) /\ ∃ l', Ka4 Kem l l' /\ w'.ownsRow b 48 3 (.slice A n cap) n (Kb Trc.cells l') /\ w.grownBy w' (Value.ownBlock (.slice A n cap)) :=
 Kgs (ρ := Kjh) Kr7 KaE (fun w => rfl) (fun w => rfl) Kem (Kf4 (n := 3) (fun t : Trc => [t.v, t.dst, t.proto]) fun _ => rfl) 144 (enters_of Tryz.func144 (by kernel_rfl) rfl) KtK hr hl (by omega)
def Kkk : Go.Shelf.Ren := ⟨fun | 6 => 60 | 14 => 113 | 15 => 99 | 20 => 173 | 21 => 174 | 22 => 175 | 23 => 176 | 24 => 177 | 25 => 178 | 26 => 179 | 27 => 180 | 28 => 156 | 29 => 157 | 46 => 222 | 47 => 212 | 48 => 213 | 49 => 223 | 50 => 224 | 57 => 256 | n => n, fun | 22 => 62 | 24 => 69 | 25 => 147 | 39 => 194 | 45 => 243 | 46 => 244 | 50 => 248 | 53 => 41 | 55 => 214 | 66 => 282 | 70 => 286 | 76 => 312 | 77 => 313 | n => n, fun n => n⟩
theorem Krx : SlLaysF0.n6 Tryz.prog Kkk where
 mixed := by kernel_rfl
 f6 := ⟨Tryz.f60.name, by decide, Tryz.func60.trans (by kernel_rfl)⟩
 f14 := ⟨Tryz.f113.name, by decide, Tryz.func113.trans (by kernel_rfl)⟩
 f15 := Tryz.func99.trans (by kernel_rfl)
 f20 := ⟨Tryz.f173.name, by decide, Tryz.func173.trans (by kernel_rfl)⟩
 f21 := ⟨Tryz.f174.name, by decide, Tryz.func174.trans (by kernel_rfl)⟩
 f22 := ⟨Tryz.f175.name, by decide, Tryz.func175.trans (by kernel_rfl)⟩
 f23 := ⟨Tryz.f176.name, by decide, Tryz.func176.trans (by kernel_rfl)⟩
 f24 := ⟨Tryz.f177.name, by decide, Tryz.func177.trans (by kernel_rfl)⟩
 f25 := ⟨Tryz.f178.name, by decide, Tryz.func178.trans (by kernel_rfl)⟩
 f26 := ⟨Tryz.f179.name, by decide, Tryz.func179.trans (by kernel_rfl)⟩
 f27 := ⟨Tryz.f180.name, by decide, Tryz.func180.trans (by kernel_rfl)⟩
 f28 := Tryz.func156.trans (by kernel_rfl)
 f29 := Tryz.func157.trans (by kernel_rfl)
 f46 := ⟨Tryz.f222.name, by decide, Tryz.func222.trans (by kernel_rfl)⟩
 f47 := Tryz.func212.trans (by kernel_rfl)
 f48 := Tryz.func213.trans (by kernel_rfl)
 f49 := ⟨Tryz.f223.name, by decide, Tryz.func223.trans (by kernel_rfl)⟩
 f50 := ⟨Tryz.f224.name, by decide, Tryz.func224.trans (by kernel_rfl)⟩
 f57 := ⟨Tryz.f256.name, by decide, Tryz.func256.trans (by kernel_rfl)⟩
 t0 := Tryz.underlying0
 a0 := fun w => rfl
 z0 := fun w => rfl
 v0 := fun w => rfl
 t3 := Tryz.underlying3
 a3 := fun w => rfl
 z3 := fun w => rfl
 v3 := fun w => rfl
 t4 := Tryz.underlying4
 a4 := fun w => rfl
 z4 := fun w => rfl
 v4 := fun w => rfl
 t5 := Tryz.underlying5
 a5 := fun w => rfl
 z5 := fun w => rfl
 v5 := fun w => rfl
 t9 := Tryz.underlying9
 a9 := fun w => rfl
 z9 := fun w => rfl
 v9 := fun w => rfl
 t22 := Tryz.underlying62
 a22 := fun w => rfl
 z22 := fun w => rfl
 v22 := fun w => rfl
 t25 := Tryz.underlying147
 a25 := fun w => rfl
 z25 := fun w => rfl
 v25 := fun w => rfl
 t39 := Tryz.underlying194
 a39 := fun w => rfl
 z39 := fun w => rfl
 v39 := fun w => rfl
 t45 := Tryz.underlying243
 a45 := fun w => rfl
 z45 := fun w => rfl
 v45 := fun w => rfl
 t46 := Tryz.underlying244
 a46 := fun w => rfl
 z46 := fun w => rfl
 v46 := fun w => rfl
 t50 := Tryz.underlying248
 a50 := fun w => rfl
 z50 := fun w => rfl
 v50 := fun w => rfl
 t53 := Tryz.underlying41
 a53 := fun w => rfl
 z53 := fun w => rfl
 v53 := fun w => rfl
 t55 := Tryz.underlying214
 a55 := fun w => rfl
 z55 := fun w => rfl
 v55 := fun w => rfl
 t66 := Tryz.underlying282
 a66 := fun w => rfl
 z66 := fun w => rfl
 v66 := fun w => rfl
 t70 := Tryz.underlying286
 a70 := fun w => rfl
 z70 := fun w => rfl
 v70 := fun w => rfl
 t76 := Tryz.underlying312
 a76 := fun w => rfl
 z76 := fun w => rfl
 v76 := fun w => rfl
 t77 := Tryz.underlying313
 a77 := fun w => rfl
 z77 := fun w => rfl
 v77 := fun w => rfl
instance : Inhabited Hpx := ⟨⟨0, 0, ⟨none, 0, []⟩⟩⟩
theorem Kp1 {b n cap : Nat} {A : Option Addr} {l : List Hpx} {w : World} (hr : w.ownsRow b 69 3 (.slice A n cap) n (Kb Hpx.cells l)) (hl : l.length = n) (hn : n <= 1000000) :
  Calls Tryz.prog 60 #[.slice A n cap, .func (.func 61) #[] #[]] w fun en w' => en = .returned (.tuple #[]) /\ ∃ l', Ka4 Kd7 l l' /\ w'.ownsRow b 69 3 (.slice A n cap) n (Kb Hpx.cells l') /\ w.grownBy w' (Value.ownBlock (.slice A n cap)) :=
 Kgs (ρ := Kkk) Krx KP (fun w => rfl) (fun w => rfl) Kd7 (Kf4 (n := 2) (fun t : Hpx => [t.ttl, t.addr]) fun _ => rfl) 61 (enters_of Tryz.func61 (by kernel_rfl) rfl) Ktb hr hl (by omega)
def Kmx : Go.Shelf.Ren := ⟨fun | 6 => 62 | 14 => 114 | 15 => 99 | 20 => 181 | 21 => 182 | 22 => 183 | 23 => 184 | 24 => 185 | 25 => 186 | 26 => 187 | 27 => 188 | 28 => 156 | 29 => 157 | 46 => 225 | 47 => 212 | 48 => 213 | 49 => 226 | 50 => 227 | 57 => 257 | n => n, fun | 22 => 63 | 24 => 72 | 25 => 149 | 39 => 194 | 45 => 243 | 46 => 244 | 50 => 248 | 53 => 41 | 55 => 214 | 66 => 282 | 70 => 286 | 76 => 312 | 77 => 313 | n => n, fun n => n⟩
theorem Ktj : SlLaysF0.n6 Tryz.prog Kmx where
 mixed := by kernel_rfl
 f6 := ⟨Tryz.f62.name, by decide, Tryz.func62.trans (by kernel_rfl)⟩
 f14 := ⟨Tryz.f114.name, by decide, Tryz.func114.trans (by kernel_rfl)⟩
 f15 := Tryz.func99.trans (by kernel_rfl)
 f20 := ⟨Tryz.f181.name, by decide, Tryz.func181.trans (by kernel_rfl)⟩
 f21 := ⟨Tryz.f182.name, by decide, Tryz.func182.trans (by kernel_rfl)⟩
 f22 := ⟨Tryz.f183.name, by decide, Tryz.func183.trans (by kernel_rfl)⟩
 f23 := ⟨Tryz.f184.name, by decide, Tryz.func184.trans (by kernel_rfl)⟩
 f24 := ⟨Tryz.f185.name, by decide, Tryz.func185.trans (by kernel_rfl)⟩
 f25 := ⟨Tryz.f186.name, by decide, Tryz.func186.trans (by kernel_rfl)⟩
 f26 := ⟨Tryz.f187.name, by decide, Tryz.func187.trans (by kernel_rfl)⟩
 f27 := ⟨Tryz.f188.name, by decide, Tryz.func188.trans (by kernel_rfl)⟩
 f28 := Tryz.func156.trans (by kernel_rfl)
 f29 := Tryz.func157.trans (by kernel_rfl)
 f46 := ⟨Tryz.f225.name, by decide, Tryz.func225.trans (by kernel_rfl)⟩
 f47 := Tryz.func212.trans (by kernel_rfl)
 f48 := Tryz.func213.trans (by kernel_rfl)
 f49 := ⟨Tryz.f226.name, by decide, Tryz.func226.trans (by kernel_rfl)⟩
 f50 := ⟨Tryz.f227.name, by decide, Tryz.func227.trans (by kernel_rfl)⟩
 f57 := ⟨Tryz.f257.name, by decide, Tryz.func257.trans (by kernel_rfl)⟩
 t0 := Tryz.underlying0
 a0 := fun w => rfl
 z0 := fun w => rfl
 v0 := fun w => rfl
 t3 := Tryz.underlying3
 a3 := fun w => rfl
 z3 := fun w => rfl
 v3 := fun w => rfl
 t4 := Tryz.underlying4
 a4 := fun w => rfl
 z4 := fun w => rfl
 v4 := fun w => rfl
 t5 := Tryz.underlying5
 a5 := fun w => rfl
 z5 := fun w => rfl
 v5 := fun w => rfl
 t9 := Tryz.underlying9
 a9 := fun w => rfl
 z9 := fun w => rfl
 v9 := fun w => rfl
 t22 := Tryz.underlying63
 a22 := fun w => rfl
 z22 := fun w => rfl
 v22 := fun w => rfl
 t25 := Tryz.underlying149
 a25 := fun w => rfl
 z25 := fun w => rfl
 v25 := fun w => rfl
 t39 := Tryz.underlying194
 a39 := fun w => rfl
 z39 := fun w => rfl
 v39 := fun w => rfl
 t45 := Tryz.underlying243
 a45 := fun w => rfl
 z45 := fun w => rfl
 v45 := fun w => rfl
 t46 := Tryz.underlying244
 a46 := fun w => rfl
 z46 := fun w => rfl
 v46 := fun w => rfl
 t50 := Tryz.underlying248
 a50 := fun w => rfl
 z50 := fun w => rfl
 v50 := fun w => rfl
 t53 := Tryz.underlying41
 a53 := fun w => rfl
 z53 := fun w => rfl
 v53 := fun w => rfl
 t55 := Tryz.underlying214
 a55 := fun w => rfl
 z55 := fun w => rfl
 v55 := fun w => rfl
 t66 := Tryz.underlying282
 a66 := fun w => rfl
 z66 := fun w => rfl
 v66 := fun w => rfl
 t70 := Tryz.underlying286
 a70 := fun w => rfl
 z70 := fun w => rfl
 v70 := fun w => rfl
 t76 := Tryz.underlying312
 a76 := fun w => rfl
 z76 := fun w => rfl
 v76 := fun w => rfl
 t77 := Tryz.underlying313
 a77 := fun w => rfl
 z77 := fun w => rfl
 v77 := fun w => rfl
instance : Inhabited Ed := ⟨⟨0, 0, 0, ⟨none, 0, []⟩⟩⟩
theorem Ko5 {b n cap : Nat} {A : Option Addr} {l : List Ed} {w : World} (hr : w.ownsRow b 72 4 (.slice A n cap) n (Kb Ed.cells l)) (hl : l.length = n) (hn : n <= 1000000) :
  Calls Tryz.prog 62 #[.slice A n cap, .func (.func 63) #[] #[]] w fun en w' => en = .returned (.tuple #[]) /\ ∃ l', Ka4 Keh l l' /\ w'.ownsRow b 72 4 (.slice A n cap) n (Kb Ed.cells l') /\ w.grownBy w' (Value.ownBlock (.slice A n cap)) :=
 Kgs (ρ := Kmx) Ktj Kkg (fun w => rfl) (fun w => rfl) Keh (Kf4 (n := 3) (fun t : Ed => [t.ttl, t.frm, t.to_]) fun _ => rfl) 63 (enters_of Tryz.func63 (by kernel_rfl) rfl) Ko0 hr hl (by omega)
def KoB : Go.Shelf.Ren := ⟨fun | 5 => 59 | 7 => 112 | 8 => 99 | 10 => 164 | 11 => 165 | 12 => 166 | 13 => 167 | 14 => 168 | 15 => 169 | 16 => 170 | 17 => 171 | 18 => 172 | 19 => 156 | 20 => 157 | 30 => 219 | 31 => 212 | 32 => 213 | 33 => 220 | 34 => 221 | 35 => 102 | 40 => 255 | n => n, fun | 22 => 49 | 23 => 49 | 25 => 3 | 32 => 194 | 35 => 243 | 36 => 244 | 41 => 248 | 44 => 41 | 46 => 214 | 53 => 282 | 57 => 286 | 63 => 312 | 64 => 313 | n => n, fun n => n⟩
theorem KmZ : SlLaysM.n5 Tryz.prog KoB where
 mixed := by kernel_rfl
 f5 := ⟨Tryz.f59.name, by decide, Tryz.func59.trans (by kernel_rfl)⟩
 f7 := ⟨Tryz.f112.name, by decide, Tryz.func112.trans (by kernel_rfl)⟩
 f8 := Tryz.func99.trans (by kernel_rfl)
 f10 := ⟨Tryz.f164.name, by decide, Tryz.func164.trans (by kernel_rfl)⟩
 f11 := ⟨Tryz.f165.name, by decide, Tryz.func165.trans (by kernel_rfl)⟩
 f12 := ⟨Tryz.f166.name, by decide, Tryz.func166.trans (by kernel_rfl)⟩
 f13 := ⟨Tryz.f167.name, by decide, Tryz.func167.trans (by kernel_rfl)⟩
 f14 := ⟨Tryz.f168.name, by decide, Tryz.func168.trans (by kernel_rfl)⟩
 f15 := ⟨Tryz.f169.name, by decide, Tryz.func169.trans (by kernel_rfl)⟩
 f16 := ⟨Tryz.f170.name, by decide, Tryz.func170.trans (by kernel_rfl)⟩
 f17 := ⟨Tryz.f171.name, by decide, Tryz.func171.trans (by kernel_rfl)⟩
 f18 := ⟨Tryz.f172.name, by decide, Tryz.func172.trans (by kernel_rfl)⟩
 f19 := Tryz.func156.trans (by kernel_rfl)
 f20 := Tryz.func157.trans (by kernel_rfl)
 f30 := ⟨Tryz.f219.name, by decide, Tryz.func219.trans (by kernel_rfl)⟩
 f31 := Tryz.func212.trans (by kernel_rfl)
 f32 := Tryz.func213.trans (by kernel_rfl)
 f33 := ⟨Tryz.f220.name, by decide, Tryz.func220.trans (by kernel_rfl)⟩
 f34 := ⟨Tryz.f221.name, by decide, Tryz.func221.trans (by kernel_rfl)⟩
 f35 := ⟨Tryz.f102.name, by decide, Tryz.func102.trans (by kernel_rfl)⟩
 f40 := ⟨Tryz.f255.name, by decide, Tryz.func255.trans (by kernel_rfl)⟩
 t0 := Tryz.underlying0
 a0 := fun w => rfl
 z0 := fun w => rfl
 v0 := fun w => rfl
 t3 := Tryz.underlying3
 a3 := fun w => rfl
 z3 := fun w => rfl
 v3 := fun w => rfl
 t4 := Tryz.underlying4
 a4 := fun w => rfl
 z4 := fun w => rfl
 v4 := fun w => rfl
 t5 := Tryz.underlying5
 a5 := fun w => rfl
 z5 := fun w => rfl
 v5 := fun w => rfl
 t9 := Tryz.underlying9
 a9 := fun w => rfl
 z9 := fun w => rfl
 v9 := fun w => rfl
 t22 := Tryz.underlying49
 a22 := fun w => rfl
 z22 := fun w => rfl
 v22 := fun w => rfl
 t23 := Tryz.underlying49
 a23 := fun w => rfl
 z23 := fun w => rfl
 v23 := fun w => rfl
 t25 := Tryz.underlying3
 a25 := fun w => rfl
 z25 := fun w => rfl
 v25 := fun w => rfl
 t32 := Tryz.underlying194
 a32 := fun w => rfl
 z32 := fun w => rfl
 v32 := fun w => rfl
 t35 := Tryz.underlying243
 a35 := fun w => rfl
 z35 := fun w => rfl
 v35 := fun w => rfl
 t36 := Tryz.underlying244
 a36 := fun w => rfl
 z36 := fun w => rfl
 v36 := fun w => rfl
 t41 := Tryz.underlying248
 a41 := fun w => rfl
 z41 := fun w => rfl
 v41 := fun w => rfl
 t44 := Tryz.underlying41
 a44 := fun w => rfl
 z44 := fun w => rfl
 v44 := fun w => rfl
 t46 := Tryz.underlying214
 a46 := fun w => rfl
 z46 := fun w => rfl
 v46 := fun w => rfl
 t53 := Tryz.underlying282
 a53 := fun w => rfl
 z53 := fun w => rfl
 v53 := fun w => rfl
 t57 := Tryz.underlying286
 a57 := fun w => rfl
 z57 := fun w => rfl
 v57 := fun w => rfl
 t63 := Tryz.underlying312
 a63 := fun w => rfl
 z63 := fun w => rfl
 v63 := fun w => rfl
 t64 := Tryz.underlying313
 a64 := fun w => rfl
 z64 := fun w => rfl
 v64 := fun w => rfl
set_option maxRecDepth 20000
theorem KkF (x y : Rs) : (x = y) ↔ x.v = y.v /\ x.run = y.run /\ x.num = y.num /\ x.at_ = y.at_ /\ x.dst = y.dst /\ x.proto = y.proto /\ x.flow = y.flow /\ x.ttl = y.ttl /\ x.ans = y.ans /\ x.dbl = y.dbl /\ x.back = y.back /\ x.src = y.src /\ x.kind = y.kind /\ x.code = y.code /\ x.left = y.left /\ x.id = y.id /\ x.quo = y.quo := by
  cases x; cases y; simp
theorem Ksa (x y : Rs) (ox oy : Operand) (w : World) : (do eqGuard .eql 76 ox oy (.agg x.cells.toArray) (.agg y.cells.toArray); binOp .eql 76 (.agg x.cells.toArray) (.agg y.cells.toArray) : Sem Value).run Tryz.prog w = .ok (.bool (decide (x = y))) w := by
  rw [Sem.run_bind, run_eqGuard_agg w .eql 76 ox oy _ _ (by kernel_rfl), Result.andThen_ok, run_eql_struct];have h2 : (Op.equalIn 10000 76 (.agg x.cells.toArray) (.agg y.cells.toArray)).run Tryz.prog w = .ok (decide (x.v = y.v /\ x.run = y.run /\ x.num = y.num /\ x.at_ = y.at_ /\ x.dst = y.dst /\ x.proto = y.proto /\ x.flow = y.flow /\ x.ttl = y.ttl /\ x.ans = y.ans /\ x.dbl = y.dbl /\ x.back = y.back /\ x.src = y.src /\ x.kind = y.kind /\ x.code = y.code /\ x.left = y.left /\ x.id = y.id /\ x.quo = y.quo)) w := eqR x.v x.run x.num x.at_ x.dst x.proto x.flow x.ttl x.back x.src x.kind x.code x.left x.id x.quo y.v y.run y.num y.at_ y.dst y.proto y.flow y.ttl y.back y.src y.kind y.code y.left y.id y.quo x.ans x.dbl y.ans y.dbl w;rw [h2, Result.andThen_ok, decide_eq_decide.2 (KkF x y)]
theorem Kty (x y : Rs) (ox oy : Operand) (w : World) : (do eqGuard .neq 76 ox oy (.agg x.cells.toArray) (.agg y.cells.toArray); binOp .neq 76 (.agg x.cells.toArray) (.agg y.cells.toArray) : Sem Value).run Tryz.prog w = .ok (.bool (!decide (x = y))) w := by
  rw [Sem.run_bind, run_eqGuard_agg w .neq 76 ox oy _ _ (by kernel_rfl), Result.andThen_ok, run_neq_struct];have h2 : (Op.equalIn 10000 76 (.agg x.cells.toArray) (.agg y.cells.toArray)).run Tryz.prog w = .ok (decide (x.v = y.v /\ x.run = y.run /\ x.num = y.num /\ x.at_ = y.at_ /\ x.dst = y.dst /\ x.proto = y.proto /\ x.flow = y.flow /\ x.ttl = y.ttl /\ x.ans = y.ans /\ x.dbl = y.dbl /\ x.back = y.back /\ x.src = y.src /\ x.kind = y.kind /\ x.code = y.code /\ x.left = y.left /\ x.id = y.id /\ x.quo = y.quo)) w := eqR x.v x.run x.num x.at_ x.dst x.proto x.flow x.ttl x.back x.src x.kind x.code x.left x.id x.quo y.v y.run y.num y.at_ y.dst y.proto y.flow y.ttl y.back y.src y.kind y.code y.left y.id y.quo x.ans x.dbl y.ans y.dbl w;rw [h2, Result.andThen_ok, decide_eq_decide.2 (KkF x y)]
theorem KqT (x y : Rs) (ox oy : Operand) (w : World) : (do eqGuard .neq 76 ox oy (.agg x.cells.toArray) (.agg y.cells.toArray); binOp .neq 76 (.agg x.cells.toArray) (.agg y.cells.toArray) : Sem Value).run Tryz.prog w = .ok (.bool (decide (x ≠ y))) w := by
  rw [decide_not]; exact Kty x y ox oy w
theorem Kkc : Tryz.prog.fieldsOf 48 = (match Tryz.prog.underlying 48 with | some (.struct fs) => fs | _ => #[]) := rfl
theorem Kky (a0 b0 : Int) (a1 b1 : Int) (a2 b2 : Int) (d : Nat) (w : World) : (Op.equalIn (d + 2) 48 (.agg #[.int .i64 a0, .int .u32 a1, .int .i64 a2]) (.agg #[.int .i64 b0, .int .u32 b1, .int .i64 b2])).run Tryz.prog w = .ok (decide (a0 = b0 /\ a1 = b1 /\ a2 = b2)) w := by
  rw [run_equalIn_agg w (d + 1) 48 _ _ (by rw [Kkc, Tryz.underlying48]) (by kernel_rfl), Kkc, Tryz.underlying48];show (Op.eqFields (d + 1) _ _ [_, _, _]).run _ _ = _;have i0 : Tryz.prog.underlying 3 = some (.int .i64) := rfl;have i1 : Tryz.prog.underlying 42 = some (.int .u32) := rfl;simp [Op.eqFields, go_sem];by_cases e0 : a0 = b0
  · by_cases e1 : a1 = b1
    · by_cases e2 : a2 = b2 <;> simp [e0, e1, e2]
    · simp [e0, e1]
  · simp [e0]
theorem KmA (x y : Trc) : (x = y) ↔ x.v = y.v /\ x.dst = y.dst /\ x.proto = y.proto := by
  cases x; cases y; simp
theorem Ktp (x y : Trc) (ox oy : Operand) (w : World) : (do eqGuard .eql 48 ox oy (.agg x.cells.toArray) (.agg y.cells.toArray); binOp .eql 48 (.agg x.cells.toArray) (.agg y.cells.toArray) : Sem Value).run Tryz.prog w = .ok (.bool (decide (x = y))) w := by
  rw [Sem.run_bind, run_eqGuard_agg w .eql 48 ox oy _ _ (by kernel_rfl), Result.andThen_ok, run_eql_struct];have h := Kky x.v y.v x.dst y.dst x.proto y.proto 9998 w;have h2 : (Op.equalIn 10000 48 (.agg x.cells.toArray) (.agg y.cells.toArray)).run Tryz.prog w = .ok (decide (x.v = y.v /\ x.dst = y.dst /\ x.proto = y.proto)) w := h;rw [h2, Result.andThen_ok, decide_eq_decide.2 (KmA x y)]
theorem Kpb (x y : Trc) (ox oy : Operand) (w : World) : (do eqGuard .neq 48 ox oy (.agg x.cells.toArray) (.agg y.cells.toArray); binOp .neq 48 (.agg x.cells.toArray) (.agg y.cells.toArray) : Sem Value).run Tryz.prog w = .ok (.bool (!decide (x = y))) w := by
  rw [Sem.run_bind, run_eqGuard_agg w .neq 48 ox oy _ _ (by kernel_rfl), Result.andThen_ok, run_neq_struct];have h := Kky x.v y.v x.dst y.dst x.proto y.proto 9998 w;have h2 : (Op.equalIn 10000 48 (.agg x.cells.toArray) (.agg y.cells.toArray)).run Tryz.prog w = .ok (decide (x.v = y.v /\ x.dst = y.dst /\ x.proto = y.proto)) w := h;rw [h2, Result.andThen_ok, decide_eq_decide.2 (KmA x y)]
theorem Kjc (x y : Trc) (ox oy : Operand) (w : World) : (do eqGuard .neq 48 ox oy (.agg x.cells.toArray) (.agg y.cells.toArray); binOp .neq 48 (.agg x.cells.toArray) (.agg y.cells.toArray) : Sem Value).run Tryz.prog w = .ok (.bool (decide (x ≠ y))) w := by
  rw [decide_not]; exact Kpb x y ox oy w
set_option maxRecDepth 20000
def Trc.zero : Trc := ⟨0, 0, 0⟩
theorem KeN (w : World) : (zeroValue 76).run Tryz.prog w = .ok (.agg #[.int .i64 0, .int .i64 0, .int .i64 0, .int .i64 0, .int .u32 0, .int .i64 0, .int .i64 0, .int .i64 0, .bool false, .bool false, .int .i64 0, .int .u32 0, .int .i64 0, .int .i64 0, .int .i64 0, .int .i64 0, .int .i64 0]) w := rfl
theorem KdZ (w : World) : (isAgg 48).run Tryz.prog w = .ok true w := rfl
theorem KuX (g n c : Nat) (xs : List Rs) (w : World) (h : RwG 76 17 w g n c (Kb Rs.cells xs)) (hl : xs.length = n) (hn : n <= 1000000) :
  Calls Tryz.prog 142 #[.slice (some ⟨g, 0, none⟩) n c] w fun en w' => en = .returned (.slice (some ⟨g, 0, none⟩) (Kw xs).length c) /\ RwG 76 17 w' g (Kw xs).length c (Kb Rs.cells (Kw xs)) /\ w.grownBy w' (some g) := by
 have hcap := h.obj.2.1;have hmax := h.obj.2.2;refine Kj (I := Pm ⟨Ka6 w g, g⟩ (.row (.slice (some ⟨g, 0, none⟩) n c) 76 17 n (Kb Rs.cells xs) :: KaK g w)) Tryz.func142 rfl rfl rfl ?_ (Pm.rowStartG h);refine zSG (TL.as_ ?_);refine zET (zS (zSG (TL.mv ?_)));refine TL.v (gN Tryz.underlying27) ?_;refine TL.sp Kr (fun q8 => ?_) (fun q8 => ?_)
 ·have hE : Kw xs = xs := Kmt (by omega);refine zET (zc (zSG (TL.rn 2 rfl (zET (zr (zR ?_))))));exact Kg Tryz.results142 rfl (fun w1 hw => by rw [hE, hl]; exact ⟨rfl, Kc7 hw (k := 0) rfl, hw.mapEnd (fun q hq => by simp [hq])⟩)
 refine zET (zd (zk (zT (zS (zSG (TL.as_ ?_))))));refine zET (zB ?_);refine TC.lp (α := {k : Nat // 1 <= k /\ k <= n /\ Kw (xs.take k) = xs.take k}) [0] rfl (fun y => [(3, .int .i64 ((y.1 : Nat) : Int))]) (fun y => Pm ⟨Ka6 w g, g⟩ ([.row (.slice (some ⟨g, 0, none⟩) n c) 76 17 n (Kb Rs.cells xs)] ++ KaK g w)) (fun y => n - y.1) (⟨1, Nat.le_refl _, by omega, Kme xs⟩) (fun w1 hw => hw) ?_;rintro ⟨k0, hk1, hk2, hK⟩
 try dsimp only
 refine zS (zSG (TL.rn 2 rfl (TL.v (gN Tryz.underlying27) ?_)));refine TL.sp Kr (fun q13 => ?_) (fun q13 => ?_)
 ·refine zET (zc (zk (zT (zS (zB (zS (TC.quietQ (by kernel_rfl) (by kernel_rfl) (fun w hw => hw.drawn _) ?_)))))));refine TQ.rn 2 rfl ?_;have hi18 : k0 < xs.length := by omega
  obtain ⟨x18, hx18⟩ := Kq hi18;refine TQ.w rfl (gA (i := k0) Tryz.underlying27 KG rfl rfl rfl rfl rfl (by omega)) ?_;refine TQ.w rfl (KaQ (off := 0 + k0 * 17) rfl rfl Kae KG (KQ.len x18) (fun w1 hw j9 u9 h9 => KL KQ hw (q := 0) rfl hx18 j9 u9 h9)) ?_;refine TQ.rn 2 rfl ?_;refine TQ.w rfl (Ke rfl rfl rfl (fun w => KA (r := ((k0 - 1 : Nat) : Int)) (by simp only [IntKind.wrap_i64]; omega) w)) ?_;have hi23 : k0 - 1 < xs.length := by omega
  obtain ⟨x23, hx23⟩ := Kq hi23;refine TQ.w rfl (gA (i := (k0 - 1)) Tryz.underlying27 KG rfl rfl rfl rfl rfl (by omega)) ?_;refine TQ.w rfl (KaQ (off := 0 + (k0 - 1) * 17) rfl rfl Kae KG (KQ.len x23) (fun w1 hw j9 u9 h9 => KL KQ hw (q := 0) rfl hx23 j9 u9 h9)) ?_;refine TQ.vw rfl (Ka0 rfl rfl rfl (fun w => Ksa x18 x23 _ _ w)) (fun h25 => ?_) (fun h25 => ?_)
  ·have q25 := of_decide_eq_true h25;have hst := Kck hx18 hx23 hk1;have hK2 : Kw (xs.take (k0 + 1)) = xs.take k0 := by rw [hst, if_pos q25.symm]; exact hK
   refine TQ.fin ?_;refine zT (zc (zSG (TL.rn 2 rfl ?_)));refine TL.w rfl (Kgo (q := k0) rfl rfl rfl rfl Tryz.underlying27 KG (by omega) (by omega)) ?_;refine TL.as_ ?_;refine zET (zS (zSG (TL.as_ ?_)));refine zET (zB ?_);refine TC.lp (α := {y : Nat × Nat × List Rs // (1 <= y.2.1 /\ y.2.1 <= n - k0 /\ k0 <= y.1 /\ y.1 <= k0 + y.2.1 - 1) /\ y.2.2.length = n /\ (∀ p, k0 + y.2.1 - 1 <= p -> y.2.2[p]? = xs[p]?) /\ y.2.2.take y.1 = Kw (xs.take (k0 + y.2.1))}) [0, 4] rfl (fun y => [(3, .int .i64 ((y.1.1 : Nat) : Int)), (5, .int .i64 ((y.1.2.1 : Nat) : Int))]) (fun y => Pm ⟨Ka6 w g, g⟩ ([.row (.slice (some ⟨g, 0, none⟩) n c) 76 17 n (Kb Rs.cells y.1.2.2)] ++ KaK g w)) (fun y => n - y.1.2.1) (⟨(k0, 1, xs), by dsimp only; omega, hl, fun p _ => rfl, hK2.symm⟩) (fun w1 hw => hw) ?_;rintro ⟨⟨k, j, ys⟩, ⟨hj1, hj2, hj3, hj4⟩, hly, hI, hT⟩;dsimp only at hj1 hj2 hj3 hj4 hly hI hT ⊢;refine zS (zSG (TL.rn 2 rfl (TL.v (gN Tryz.underlying27) ?_)));refine TL.sp Kr (fun q32 => ?_) (fun q32 => ?_)
   ·refine zET (zc (zk (zT (zS (zB (zS (TC.quietQ (by kernel_rfl) (by kernel_rfl) (fun w hw => hw.drawn _) ?_)))))));refine TQ.rn 2 rfl ?_;have hi37 : (k0 + j) < ys.length := by omega
    obtain ⟨x37, hx37⟩ := Kq hi37;refine TQ.w rfl (KaM (v := .pointer (some ⟨g, 0 + (k0 + j) * 17, none⟩)) rfl rfl rfl (fun w => KcX Tryz.underlying27 KG g k0 _ _ j (by omega) rfl w)) ?_;refine TQ.w rfl (KaQ (off := 0 + (k0 + j) * 17) rfl rfl Kae KG (KQ.len x37) (fun w1 hw j9 u9 h9 => KL KQ hw (q := 0) rfl hx37 j9 u9 h9)) ?_;refine TQ.rn 2 rfl ?_;refine TQ.w rfl (Ke rfl rfl rfl (fun w => KA (r := ((j - 1 : Nat) : Int)) (by simp only [IntKind.wrap_i64]; omega) w)) ?_;have hi42 : (k0 + (j - 1)) < ys.length := by omega
    obtain ⟨x42, hx42⟩ := Kq hi42;refine TQ.w rfl (KaM (v := .pointer (some ⟨g, 0 + (k0 + (j - 1)) * 17, none⟩)) rfl rfl rfl (fun w => KcX Tryz.underlying27 KG g k0 _ _ (j - 1) (by omega) rfl w)) ?_;refine TQ.w rfl (KaQ (off := 0 + (k0 + (j - 1)) * 17) rfl rfl Kae KG (KQ.len x42) (fun w1 hw j9 u9 h9 => KL KQ hw (q := 0) rfl hx42 j9 u9 h9)) ?_;refine TQ.vw rfl (Ka0 rfl rfl rfl (fun w => KqT x37 x42 _ _ w)) (fun h44 => ?_) (fun h44 => ?_)
    ·have q44 := of_decide_eq_true h44;have hst := Kck (by rw [<- hI _ (by omega)]; exact hx37) (by rw [<- hI _ (by omega), show k0 + j - 1 = k0 + (j - 1) by omega]; exact hx42) (by omega : 1 <= k0 + j);have hc1 : ∀ p, k0 + (j + 1) - 1 <= p -> (ys.set k x37)[p]? = xs[p]? := fun p hp => by rw [List.getElem?_set_ne (by omega)]; exact hI p (by omega)
     have hc2 : (ys.set k x37).take (k + 1) = Kw (xs.take (k0 + (j + 1))) := by
      rw [List.take_add_one, List.take_set_of_le (Nat.le_refl _), List.getElem?_set_self (by omega), hT, show k0 + (j + 1) = k0 + j + 1 from rfl, hst, if_neg (fun hh => q44 hh.symm)]; rfl
     refine TQ.fin ?_;refine zT (zc (zSG (TL.rn 4 rfl ?_)));refine TL.w rfl (KaM (v := .pointer (some ⟨g, 0 + (k0 + j) * 17, none⟩)) rfl rfl rfl (fun w => KcX Tryz.underlying27 KG g k0 _ _ j (by omega) rfl w)) ?_;refine TL.w rfl (KaQ (off := 0 + (k0 + j) * 17) rfl rfl Kae KG (KQ.len x37) (fun w1 hw j9 u9 h9 => KL KQ hw (q := 0) rfl hx37 j9 u9 h9)) ?_;have hi51 : k < ys.length := by omega
     obtain ⟨x51, hx51⟩ := Kq hi51;refine TL.w rfl (gA (i := k) Tryz.underlying27 KG rfl rfl rfl rfl rfl (by omega)) ?_;refine TL.rowset (k := 0) (vs := x37.cells) (xs' := Kb Rs.cells (ys.set k x37)) rfl rfl rfl rfl rfl rfl rfl KG (KQ.one _) (by rw [KR KQ]; show 0 + k * 17 + 17 <= _; omega) (K3 KQ (q := 0) (y := x37) hx51 (by show 0 + 17 <= 17; decide) rfl) ?_
     try dsimp only [List.set_cons_zero, List.set_cons_succ]
     refine zET (zG (TL.mv ?_));refine TL.v (gD ((k + 1 : Nat) : Int)) ?_;refine TL.as_ ?_;refine zE (zN (zT (zG (TL.mv ?_))));refine TL.v (gD ((j + 1 : Nat) : Int)) ?_;refine TL.as_ ?_;refine zE ?_;exact TX.rd (⟨(k + 1, j + 1, ys.set k x37), by dsimp only; omega, by rw [List.length_set]; exact hly, hc1, hc2⟩) (by show n - (j + 1) < n - j; omega) (fun w1 hw => hw)
    have q44 := of_decide_eq_false h44;have hst := Kck (by rw [<- hI _ (by omega)]; exact hx37) (by rw [<- hI _ (by omega), show k0 + j - 1 = k0 + (j - 1) by omega]; exact hx42) (by omega : 1 <= k0 + j);have hd1 : ∀ p, k0 + (j + 1) - 1 <= p -> ys[p]? = xs[p]? := fun p hp => hI p (by omega);have hd2 : ys.take k = Kw (xs.take (k0 + (j + 1))) := by rw [hT, show k0 + (j + 1) = k0 + j + 1 from rfl, hst, if_pos (Decidable.not_not.1 q44).symm]
    refine TQ.fin ?_;refine zT (zd (zk (zN (zT (zG (TL.mv ?_))))));refine TL.v (gD ((j + 1 : Nat) : Int)) ?_;refine TL.as_ ?_;refine zE ?_;exact TX.rd (⟨(k, j + 1, ys), by dsimp only; omega, hly, hd1, hd2⟩) (by show n - (j + 1) < n - j; omega) (fun w1 hw => hw)
   obtain rfl : j = n - k0 := by omega
   have hC : ys.take k = Kw xs := by rw [hT, List.take_of_length_le (by omega)]
   refine zET (zd (zx (zX (zX (zM (zT (zSG (TL.rn 2 rfl ?_))))))));refine TL.w rfl (Kgo (q := k) rfl rfl rfl rfl Tryz.underlying27 KG (by omega) (by omega)) ?_;refine TL.clearF KQ (kk := 0) (q := k) (z := Rs.zero) rfl rfl rfl rfl Tryz.underlying27 KeN (by omega) (by omega) rfl ?_
   try dsimp only [List.set_cons_zero]
   refine zET (zSG (TL.rn 2 rfl ?_));refine TL.headF KQ (kk := 0) (hi := k) rfl rfl rfl rfl rfl rfl Tryz.underlying27 KG rfl (by omega) (by omega) ?_
   try dsimp only [List.set_cons_zero]
   refine TL.as_ ?_;refine zET (zr (zRR (zR (zRR ?_))));have hfin : (ys.take k ++ List.replicate (n - k) Rs.zero).take k = Kw xs := by rw [List.take_left' (by rw [List.length_take]; omega)]; exact hC
   have hkl : (Kw xs).length = k := by rw [<- hC, List.length_take]; omega
   rw [hfin];exact Kg Tryz.results142 rfl (fun w1 hw => ⟨by rw [hkl], by rw [hkl]; exact (Kc7 hw (k := 0) rfl), hw.mapEnd (fun q hq => by simp [hq])⟩)
  have q25 := of_decide_eq_false h25;have hst := Kck hx18 hx23 hk1;have hK2 : Kw (xs.take (k0 + 1)) = xs.take (k0 + 1) := by rw [hst, if_neg (fun hh => q25 hh.symm), hK, List.take_add_one, hx18]; rfl
  refine TQ.fin ?_;refine zT (zd (zk (zN (zT (zG (TL.mv ?_))))));refine TL.v (gD ((k0 + 1 : Nat) : Int)) ?_;refine TL.as_ ?_;refine zE ?_;exact TX.rd (⟨k0 + 1, by omega, by omega, hK2⟩) (by show n - (k0 + 1) < n - k0; omega) (fun w1 hw => hw)
 obtain rfl : k0 = n := by omega
 have hE : Kw xs = xs := by rw [List.take_of_length_le (by omega)] at hK; exact hK
 refine zET (zd (zx (zX (zX (zM (zT (zSG (TL.rn 2 rfl (zET (zr ?_))))))))));exact Kg Tryz.results142 rfl (fun w1 hw => by rw [hE, hl]; exact ⟨rfl, Kc7 hw (k := 0) rfl, hw.mapEnd (fun q hq => by simp [hq])⟩)
theorem Ko3 (w : World) : Calls Tryz.prog 142 #[.slice none 0 0] w fun en w' => en = .returned (.slice none 0 0) /\ Below w.heap.size w w' := by
 refine Kj Tryz.func142 rfl rfl rfl ?_ (Pm.start w);refine zSG (TL.as_ ?_);refine zET (zS (zSG (TL.mv ?_)));refine TL.v (gN Tryz.underlying27) ?_;refine TL.w rfl (Ke rfl rfl rfl (fun w => Kj6 (by decide) w)) ?_;refine zET (zc (zSG (TL.rn 2 rfl (zET (zr (zR ?_))))));exact Kg Tryz.results142 rfl (fun w1 hw => ⟨rfl, hw.bel⟩)
theorem Kup {b n cap : Nat} {A : Option Addr} {l : List Rs} {w : World} (hr : w.ownsRow b 76 17 (.slice A n cap) n (Kb Rs.cells l)) (hl : l.length = n) (hn : n <= 1000000) :
  Calls Tryz.prog 142 #[.slice A n cap] w fun en w' => en = .returned (.slice A (Kw l).length cap) /\ w'.ownsRow b 76 17 (.slice A (Kw l).length cap) (Kw l).length (Kb Rs.cells (Kw l)) /\ w.grownBy w' (Value.ownBlock (.slice A n cap)) := by
 rcases id hr.2 with ⟨hv, h0⟩ | ⟨q, cap', cur, hv, hb, hq, h1, h2, h3, h4⟩
 ·cases hv;obtain rfl : l = [] := List.eq_nil_of_length_eq_zero (by omega);refine (Ko3 w).mono fun en w' ⟨h5, h6⟩ => ⟨h5, ⟨rfl, .inl ⟨rfl, rfl⟩⟩, ?_⟩;exact ⟨h6.os, h6.tape, h6.output, h6.size, fun k hk _ => h6.block k hk⟩
 cases hv;refine (KuX q n cap l w ⟨hr.1, .inr ⟨q, cap, cur, rfl, Nat.le_refl _, hq, h1, h2, h3, h4⟩⟩ hl hn).mono fun en w' ⟨h5, h6, h7⟩ => ⟨h5, ⟨h6.1, ?_⟩, h7⟩;rcases h6.2 with ⟨e1, _⟩ | ⟨q', c2, cur2, e1, e2, e3⟩
 ·cases e1
 cases e1;exact .inr ⟨q, cap, cur2, rfl, hb, e3⟩
theorem Kp3 (g n c : Nat) (xs : List Trc) (w : World) (h : RwG 48 3 w g n c (Kb Trc.cells xs)) (hl : xs.length = n) (hn : n <= 1000000) :
  Calls Tryz.prog 145 #[.slice (some ⟨g, 0, none⟩) n c] w fun en w' => en = .returned (.slice (some ⟨g, 0, none⟩) (Kw xs).length c) /\ RwG 48 3 w' g (Kw xs).length c (Kb Trc.cells (Kw xs)) /\ w.grownBy w' (some g) := by
 have hcap := h.obj.2.1;have hmax := h.obj.2.2;refine Kj (I := Pm ⟨Ka6 w g, g⟩ (.row (.slice (some ⟨g, 0, none⟩) n c) 48 3 n (Kb Trc.cells xs) :: KaK g w)) Tryz.func145 rfl rfl rfl ?_ (Pm.rowStartG h);refine zSG (TL.as_ ?_);refine zET (zS (zSG (TL.mv ?_)));refine TL.v (gN Tryz.underlying184) ?_;refine TL.sp Kr (fun q8 => ?_) (fun q8 => ?_)
 ·have hE : Kw xs = xs := Kmt (by omega);refine zET (zc (zSG (TL.rn 2 rfl (zET (zr (zR ?_))))));exact Kg Tryz.results145 rfl (fun w1 hw => by rw [hE, hl]; exact ⟨rfl, Kc7 hw (k := 0) rfl, hw.mapEnd (fun q hq => by simp [hq])⟩)
 refine zET (zd (zk (zT (zS (zSG (TL.as_ ?_))))));refine zET (zB ?_);refine TC.lp (α := {k : Nat // 1 <= k /\ k <= n /\ Kw (xs.take k) = xs.take k}) [0] rfl (fun y => [(3, .int .i64 ((y.1 : Nat) : Int))]) (fun y => Pm ⟨Ka6 w g, g⟩ ([.row (.slice (some ⟨g, 0, none⟩) n c) 48 3 n (Kb Trc.cells xs)] ++ KaK g w)) (fun y => n - y.1) (⟨1, Nat.le_refl _, by omega, Kme xs⟩) (fun w1 hw => hw) ?_;rintro ⟨k0, hk1, hk2, hK⟩
 try dsimp only
 refine zS (zSG (TL.rn 2 rfl (TL.v (gN Tryz.underlying184) ?_)));refine TL.sp Kr (fun q13 => ?_) (fun q13 => ?_)
 ·refine zET (zc (zk (zT (zS (zB (zS (TC.quietQ (by kernel_rfl) (by kernel_rfl) (fun w hw => hw.drawn _) ?_)))))));refine TQ.rn 2 rfl ?_;have hi18 : k0 < xs.length := by omega
  obtain ⟨x18, hx18⟩ := Kq hi18;refine TQ.w rfl (gA (i := k0) Tryz.underlying184 KaH rfl rfl rfl rfl rfl (by omega)) ?_;refine TQ.w rfl (KaQ (off := 0 + k0 * 3) rfl rfl KdZ KaH (KaE.len x18) (fun w1 hw j9 u9 h9 => KL KaE hw (q := 0) rfl hx18 j9 u9 h9)) ?_;refine TQ.rn 2 rfl ?_;refine TQ.w rfl (Ke rfl rfl rfl (fun w => KA (r := ((k0 - 1 : Nat) : Int)) (by simp only [IntKind.wrap_i64]; omega) w)) ?_;have hi23 : k0 - 1 < xs.length := by omega
  obtain ⟨x23, hx23⟩ := Kq hi23;refine TQ.w rfl (gA (i := (k0 - 1)) Tryz.underlying184 KaH rfl rfl rfl rfl rfl (by omega)) ?_;refine TQ.w rfl (KaQ (off := 0 + (k0 - 1) * 3) rfl rfl KdZ KaH (KaE.len x23) (fun w1 hw j9 u9 h9 => KL KaE hw (q := 0) rfl hx23 j9 u9 h9)) ?_;refine TQ.vw rfl (Ka0 rfl rfl rfl (fun w => Ktp x18 x23 _ _ w)) (fun h25 => ?_) (fun h25 => ?_)
  ·have q25 := of_decide_eq_true h25;have hst := Kck hx18 hx23 hk1;have hK2 : Kw (xs.take (k0 + 1)) = xs.take k0 := by rw [hst, if_pos q25.symm]; exact hK
   refine TQ.fin ?_;refine zT (zc (zSG (TL.rn 2 rfl ?_)));refine TL.w rfl (Kgo (q := k0) rfl rfl rfl rfl Tryz.underlying184 KaH (by omega) (by omega)) ?_;refine TL.as_ ?_;refine zET (zS (zSG (TL.as_ ?_)));refine zET (zB ?_);refine TC.lp (α := {y : Nat × Nat × List Trc // (1 <= y.2.1 /\ y.2.1 <= n - k0 /\ k0 <= y.1 /\ y.1 <= k0 + y.2.1 - 1) /\ y.2.2.length = n /\ (∀ p, k0 + y.2.1 - 1 <= p -> y.2.2[p]? = xs[p]?) /\ y.2.2.take y.1 = Kw (xs.take (k0 + y.2.1))}) [0, 4] rfl (fun y => [(3, .int .i64 ((y.1.1 : Nat) : Int)), (5, .int .i64 ((y.1.2.1 : Nat) : Int))]) (fun y => Pm ⟨Ka6 w g, g⟩ ([.row (.slice (some ⟨g, 0, none⟩) n c) 48 3 n (Kb Trc.cells y.1.2.2)] ++ KaK g w)) (fun y => n - y.1.2.1) (⟨(k0, 1, xs), by dsimp only; omega, hl, fun p _ => rfl, hK2.symm⟩) (fun w1 hw => hw) ?_;rintro ⟨⟨k, j, ys⟩, ⟨hj1, hj2, hj3, hj4⟩, hly, hI, hT⟩;dsimp only at hj1 hj2 hj3 hj4 hly hI hT ⊢;refine zS (zSG (TL.rn 2 rfl (TL.v (gN Tryz.underlying184) ?_)));refine TL.sp Kr (fun q32 => ?_) (fun q32 => ?_)
   ·refine zET (zc (zk (zT (zS (zB (zS (TC.quietQ (by kernel_rfl) (by kernel_rfl) (fun w hw => hw.drawn _) ?_)))))));refine TQ.rn 2 rfl ?_;have hi37 : (k0 + j) < ys.length := by omega
    obtain ⟨x37, hx37⟩ := Kq hi37;refine TQ.w rfl (KaM (v := .pointer (some ⟨g, 0 + (k0 + j) * 3, none⟩)) rfl rfl rfl (fun w => KcX Tryz.underlying184 KaH g k0 _ _ j (by omega) rfl w)) ?_;refine TQ.w rfl (KaQ (off := 0 + (k0 + j) * 3) rfl rfl KdZ KaH (KaE.len x37) (fun w1 hw j9 u9 h9 => KL KaE hw (q := 0) rfl hx37 j9 u9 h9)) ?_;refine TQ.rn 2 rfl ?_;refine TQ.w rfl (Ke rfl rfl rfl (fun w => KA (r := ((j - 1 : Nat) : Int)) (by simp only [IntKind.wrap_i64]; omega) w)) ?_;have hi42 : (k0 + (j - 1)) < ys.length := by omega
    obtain ⟨x42, hx42⟩ := Kq hi42;refine TQ.w rfl (KaM (v := .pointer (some ⟨g, 0 + (k0 + (j - 1)) * 3, none⟩)) rfl rfl rfl (fun w => KcX Tryz.underlying184 KaH g k0 _ _ (j - 1) (by omega) rfl w)) ?_;refine TQ.w rfl (KaQ (off := 0 + (k0 + (j - 1)) * 3) rfl rfl KdZ KaH (KaE.len x42) (fun w1 hw j9 u9 h9 => KL KaE hw (q := 0) rfl hx42 j9 u9 h9)) ?_;refine TQ.vw rfl (Ka0 rfl rfl rfl (fun w => Kjc x37 x42 _ _ w)) (fun h44 => ?_) (fun h44 => ?_)
    ·have q44 := of_decide_eq_true h44;have hst := Kck (by rw [<- hI _ (by omega)]; exact hx37) (by rw [<- hI _ (by omega), show k0 + j - 1 = k0 + (j - 1) by omega]; exact hx42) (by omega : 1 <= k0 + j);have hc1 : ∀ p, k0 + (j + 1) - 1 <= p -> (ys.set k x37)[p]? = xs[p]? := fun p hp => by rw [List.getElem?_set_ne (by omega)]; exact hI p (by omega)
     have hc2 : (ys.set k x37).take (k + 1) = Kw (xs.take (k0 + (j + 1))) := by
      rw [List.take_add_one, List.take_set_of_le (Nat.le_refl _), List.getElem?_set_self (by omega), hT, show k0 + (j + 1) = k0 + j + 1 from rfl, hst, if_neg (fun hh => q44 hh.symm)]; rfl
     refine TQ.fin ?_;refine zT (zc (zSG (TL.rn 4 rfl ?_)));refine TL.w rfl (KaM (v := .pointer (some ⟨g, 0 + (k0 + j) * 3, none⟩)) rfl rfl rfl (fun w => KcX Tryz.underlying184 KaH g k0 _ _ j (by omega) rfl w)) ?_;refine TL.w rfl (KaQ (off := 0 + (k0 + j) * 3) rfl rfl KdZ KaH (KaE.len x37) (fun w1 hw j9 u9 h9 => KL KaE hw (q := 0) rfl hx37 j9 u9 h9)) ?_;have hi51 : k < ys.length := by omega
     obtain ⟨x51, hx51⟩ := Kq hi51;refine TL.w rfl (gA (i := k) Tryz.underlying184 KaH rfl rfl rfl rfl rfl (by omega)) ?_;refine TL.rowset (k := 0) (vs := x37.cells) (xs' := Kb Trc.cells (ys.set k x37)) rfl rfl rfl rfl rfl rfl rfl KaH (KaE.one _) (by rw [KR KaE]; show 0 + k * 3 + 3 <= _; omega) (K3 KaE (q := 0) (y := x37) hx51 (by show 0 + 3 <= 3; decide) rfl) ?_
     try dsimp only [List.set_cons_zero, List.set_cons_succ]
     refine zET (zG (TL.mv ?_));refine TL.v (gD ((k + 1 : Nat) : Int)) ?_;refine TL.as_ ?_;refine zE (zN (zT (zG (TL.mv ?_))));refine TL.v (gD ((j + 1 : Nat) : Int)) ?_;refine TL.as_ ?_;refine zE ?_;exact TX.rd (⟨(k + 1, j + 1, ys.set k x37), by dsimp only; omega, by rw [List.length_set]; exact hly, hc1, hc2⟩) (by show n - (j + 1) < n - j; omega) (fun w1 hw => hw)
    have q44 := of_decide_eq_false h44;have hst := Kck (by rw [<- hI _ (by omega)]; exact hx37) (by rw [<- hI _ (by omega), show k0 + j - 1 = k0 + (j - 1) by omega]; exact hx42) (by omega : 1 <= k0 + j);have hd1 : ∀ p, k0 + (j + 1) - 1 <= p -> ys[p]? = xs[p]? := fun p hp => hI p (by omega);have hd2 : ys.take k = Kw (xs.take (k0 + (j + 1))) := by rw [hT, show k0 + (j + 1) = k0 + j + 1 from rfl, hst, if_pos (Decidable.not_not.1 q44).symm]
    refine TQ.fin ?_;refine zT (zd (zk (zN (zT (zG (TL.mv ?_))))));refine TL.v (gD ((j + 1 : Nat) : Int)) ?_;refine TL.as_ ?_;refine zE ?_;exact TX.rd (⟨(k, j + 1, ys), by dsimp only; omega, hly, hd1, hd2⟩) (by show n - (j + 1) < n - j; omega) (fun w1 hw => hw)
   obtain rfl : j = n - k0 := by omega
   have hC : ys.take k = Kw xs := by rw [hT, List.take_of_length_le (by omega)]
   refine zET (zd (zx (zX (zX (zM (zT (zSG (TL.rn 2 rfl ?_))))))));refine TL.w rfl (Kgo (q := k) rfl rfl rfl rfl Tryz.underlying184 KaH (by omega) (by omega)) ?_;refine TL.clearF KaE (kk := 0) (q := k) (z := Trc.zero) rfl rfl rfl rfl Tryz.underlying184 Kni (by omega) (by omega) rfl ?_
   try dsimp only [List.set_cons_zero]
   refine zET (zSG (TL.rn 2 rfl ?_));refine TL.headF KaE (kk := 0) (hi := k) rfl rfl rfl rfl rfl rfl Tryz.underlying184 KaH rfl (by omega) (by omega) ?_
   try dsimp only [List.set_cons_zero]
   refine TL.as_ ?_;refine zET (zr (zRR (zR (zRR ?_))));have hfin : (ys.take k ++ List.replicate (n - k) Trc.zero).take k = Kw xs := by rw [List.take_left' (by rw [List.length_take]; omega)]; exact hC
   have hkl : (Kw xs).length = k := by rw [<- hC, List.length_take]; omega
   rw [hfin];exact Kg Tryz.results145 rfl (fun w1 hw => ⟨by rw [hkl], by rw [hkl]; exact (Kc7 hw (k := 0) rfl), hw.mapEnd (fun q hq => by simp [hq])⟩)
  have q25 := of_decide_eq_false h25;have hst := Kck hx18 hx23 hk1;have hK2 : Kw (xs.take (k0 + 1)) = xs.take (k0 + 1) := by rw [hst, if_neg (fun hh => q25 hh.symm), hK, List.take_add_one, hx18]; rfl
  refine TQ.fin ?_;refine zT (zd (zk (zN (zT (zG (TL.mv ?_))))));refine TL.v (gD ((k0 + 1 : Nat) : Int)) ?_;refine TL.as_ ?_;refine zE ?_;exact TX.rd (⟨k0 + 1, by omega, by omega, hK2⟩) (by show n - (k0 + 1) < n - k0; omega) (fun w1 hw => hw)
 obtain rfl : k0 = n := by omega
 have hE : Kw xs = xs := by rw [List.take_of_length_le (by omega)] at hK; exact hK
 refine zET (zd (zx (zX (zX (zM (zT (zSG (TL.rn 2 rfl (zET (zr ?_))))))))));exact Kg Tryz.results145 rfl (fun w1 hw => by rw [hE, hl]; exact ⟨rfl, Kc7 hw (k := 0) rfl, hw.mapEnd (fun q hq => by simp [hq])⟩)
theorem Kth (w : World) : Calls Tryz.prog 145 #[.slice none 0 0] w fun en w' => en = .returned (.slice none 0 0) /\ Below w.heap.size w w' := by
 refine Kj Tryz.func145 rfl rfl rfl ?_ (Pm.start w);refine zSG (TL.as_ ?_);refine zET (zS (zSG (TL.mv ?_)));refine TL.v (gN Tryz.underlying184) ?_;refine TL.w rfl (Ke rfl rfl rfl (fun w => Kj6 (by decide) w)) ?_;refine zET (zc (zSG (TL.rn 2 rfl (zET (zr (zR ?_))))));exact Kg Tryz.results145 rfl (fun w1 hw => ⟨rfl, hw.bel⟩)
theorem KnI {b n cap : Nat} {A : Option Addr} {l : List Trc} {w : World} (hr : w.ownsRow b 48 3 (.slice A n cap) n (Kb Trc.cells l)) (hl : l.length = n) (hn : n <= 1000000) :
  Calls Tryz.prog 145 #[.slice A n cap] w fun en w' => en = .returned (.slice A (Kw l).length cap) /\ w'.ownsRow b 48 3 (.slice A (Kw l).length cap) (Kw l).length (Kb Trc.cells (Kw l)) /\ w.grownBy w' (Value.ownBlock (.slice A n cap)) := by
 rcases id hr.2 with ⟨hv, h0⟩ | ⟨q, cap', cur, hv, hb, hq, h1, h2, h3, h4⟩
 ·cases hv;obtain rfl : l = [] := List.eq_nil_of_length_eq_zero (by omega);refine (Kth w).mono fun en w' ⟨h5, h6⟩ => ⟨h5, ⟨rfl, .inl ⟨rfl, rfl⟩⟩, ?_⟩;exact ⟨h6.os, h6.tape, h6.output, h6.size, fun k hk _ => h6.block k hk⟩
 cases hv;refine (Kp3 q n cap l w ⟨hr.1, .inr ⟨q, cap, cur, rfl, Nat.le_refl _, hq, h1, h2, h3, h4⟩⟩ hl hn).mono fun en w' ⟨h5, h6, h7⟩ => ⟨h5, ⟨h6.1, ?_⟩, h7⟩;rcases h6.2 with ⟨e1, _⟩ | ⟨q', c2, cur2, e1, e2, e3⟩
 ·cases e1
 cases e1;exact .inr ⟨q, cap, cur2, rfl, hb, e3⟩
set_option maxRecDepth 20000
theorem KpP {α : Type} {p : α -> Bool} {l out : List α} {i : Nat} {x : α} (hx : l[i]? = some x) (h : p x = true) (ho : (l.take i).filter p = out) : (l.take (i + 1)).filter p = out ++ [x] := by
 rw [List.take_add_one, hx, List.filter_append, ho];simp [h]
theorem KrS {α : Type} {p : α -> Bool} {l out : List α} {i : Nat} {x : α} (hx : l[i]? = some x) (h : p x = false) (ho : (l.take i).filter p = out) : (l.take (i + 1)).filter p = out := by
 rw [List.take_add_one, hx, List.filter_append, ho];simp [h]
def Kcb (l o : List Rs) : Prop := Kbc Rs.keys o /\ ∀ x, x ∈ o ↔ x ∈ l /\ KE x = true
theorem KmT (x : Rs) : x.keys.length = 17 := rfl
theorem Kcb.eq {l o o' : List Rs} (h : Kcb l o) (h' : Kcb l o') : o = o' := Kgt KmT h.1 h'.1 fun x => by rw [h.2, h'.2]
theorem Kod {x y : Rs} (hx : x.Ok) (hy : y.Ok) (h : x.keys = y.keys) : x = y := by
 obtain ⟨a1, a2, a3, a4⟩ := hx;obtain ⟨b1, b2, b3, b4⟩ := hy;have w1 : ∀ z : Int, 0 <= z -> z <= 4294967295 -> IntKind.i64.wrap z = z := fun z h0 h1 => by simp only [IntKind.wrap_i64]; omega
 have hb : ∀ p q : Bool, b2i p = b2i q -> p = q := fun p q => by cases p <;> cases q <;> decide
 simp only [Rs.keys, List.cons.injEq, and_true] at h;rw [w1 _ a1 a2, w1 _ b1 b2, w1 _ a3 a4, w1 _ b3 b4] at h;obtain ⟨v, run, num, at_, dst, proto, flow, ttl, ans, dbl, back, src, kind, code, left, id, quo⟩ := x;obtain ⟨v', run', num', at', dst', proto', flow', ttl', ans', dbl', back', src', kind', code', left', id', quo'⟩ := y;simp only at h;obtain ⟨h1, h2, h3, h4, h5, h6, h7, h8, h9, h10, h11, h12, h13, h14, h15, h16, h17⟩ := h;have h9 := hb _ _ h9;have h10 := hb _ _ h10;subst h1 h2 h3 h4 h5 h6 h7 h8 h9 h10 h11 h12 h13 h14 h15 h16 h17
 rfl
theorem KnK {l o s : List Rs} (hok : ∀ r ∈ l, r.Ok) (ho : l.filter KE = o) (hs : Ka4 KdQ o s) : Kcb l (Kw s) := by
 have hm : ∀ x, x ∈ s ↔ x ∈ l /\ KE x = true := fun x => by rw [hs.1.mem_iff, <- ho, List.mem_filter]
 refine ⟨KhQ KmT s hs.2 fun x hx y hy h => Kod (hok x ((hm x).1 hx).1) (hok y ((hm y).1 hy).1) h, fun x => by rw [KfY, hm]⟩
theorem KqV (a0_0 : Int) (a0_1 : Int) (a0_2 : Int) (a0_3 : Int) (a0_4 : Int) (a0_5 : Int) (a0_6 : Int) (a0_7 : Int) (a0_8 : Bool) (a0_9 : Bool) (a0_10 : Int) (a0_11 : Int) (a0_12 : Int) (a0_13 : Int) (a0_14 : Int) (a0_15 : Int) (a0_16 : Int) (w : World) : (Instr.buildSlice 27 1 #[(0, .agg #[.int .i64 a0_0, .int .i64 a0_1, .int .i64 a0_2, .int .i64 a0_3, .int .u32 a0_4, .int .i64 a0_5, .int .i64 a0_6, .int .i64 a0_7, .bool a0_8, .bool a0_9, .int .i64 a0_10, .int .u32 a0_11, .int .i64 a0_12, .int .i64 a0_13, .int .i64 a0_14, .int .i64 a0_15, .int .i64 a0_16])]).run Tryz.prog w = .ok (.slice (some ⟨w.heap.size, 0, none⟩) 1 1) (w.alloc (.cells [.int .i64 a0_0, .int .i64 a0_1, .int .i64 a0_2, .int .i64 a0_3, .int .u32 a0_4, .int .i64 a0_5, .int .i64 a0_6, .int .i64 a0_7, .bool a0_8, .bool a0_9, .int .i64 a0_10, .int .u32 a0_11, .int .i64 a0_12, .int .i64 a0_13, .int .i64 a0_14, .int .i64 a0_15, .int .i64 a0_16].toArray 76)) := by kernel_rfl
theorem Kov : Elem Tryz.prog 27 76 17 128 := Elem.mk' Tryz.underlying27 (z := .agg #[.int .i64 0, .int .i64 0, .int .i64 0, .int .i64 0, .int .u32 0, .int .i64 0, .int .i64 0, .int .i64 0, .bool false, .bool false, .int .i64 0, .int .u32 0, .int .i64 0, .int .i64 0, .int .i64 0, .int .i64 0, .int .i64 0]) (by kernel_rfl) rfl (by omega) (by omega)
theorem Ks0 (A0 : Option Addr) (c0 : Nat) (l : List Rs) (w : World) (hr : Kd w w.heap.size 17 A0 l.length (Kb Rs.cells l)) (hl1 : l.length <= 100000) (hok : ∀ r ∈ l, r.Ok) :
  Calls Tryz.prog 94 #[.slice A0 l.length c0] w fun e w' => ∃ x : {y : (Option Addr × Nat) × List Rs // Kcb l y.2 /\ y.2.length <= y.1.2 /\ y.1.2 <= maxLen}, e = .returned (.slice x.1.1.1 x.1.2.length x.1.1.2) /\ Pm w [.row (.slice x.1.1.1 x.1.2.length x.1.1.2) 76 17 x.1.2.length (Kb Rs.cells x.1.2)] w' := by
 refine Kj Tryz.func94 rfl rfl rfl ?_ (Pm.start w);refine zSG (TL.as_ ?_);refine zET (zSG (TL.as_ ?_));refine zET (zS (zSG (TL.mv ?_)));refine TL.v (gN Tryz.underlying27) ?_;refine TL.mv ?_;refine zET (zB (TC.nilrow 76 17 ?_));refine TC.lp (α := {y : Nat × (Option Addr × Nat) × List Rs // y.1 <= l.length /\ ((l.take y.1).filter KE = y.2.2) /\ y.2.2.length <= y.1 /\ y.2.2.length <= y.2.1.2 /\ y.2.1.2 <= maxLen}) [2, 6, 7] rfl (fun y => [(8, .int .i64 ((y.1.1 : Nat) : Int)), (3, .slice y.1.2.1.1 y.1.2.2.length y.1.2.1.2)]) (fun y => Pm w [.row (.slice y.1.2.1.1 y.1.2.2.length y.1.2.1.2) 76 17 y.1.2.2.length (Kb Rs.cells y.1.2.2)]) (fun y => l.length - y.1.1) (⟨(0, (none, 0), []), Nat.zero_le _, rfl, Nat.le_refl _, Nat.le_refl _, Nat.zero_le _⟩) (fun w1 hw => hw) ?_;rintro ⟨⟨i, ⟨Ao, co⟩, out⟩, hi, hout, houtl, houtc, houtm⟩;dsimp only at hi hout houtl houtc houtm ⊢;refine zSG ?_;refine TL.vw rfl (Ke rfl rfl rfl (fun w => Kr w)) (fun h9 => ?_) (fun h9 => ?_)
 ·have q9 := of_decide_eq_true h9;refine zET (zS (zc (zk (zT (zS (zB (zSG ?_)))))));have hi10 : i < l.length := by omega
  obtain ⟨x10, hx10⟩ := Kq hi10;obtain ⟨b10, o10, hA10, hbb10, hc10⟩ := hr.ad (by omega) (by decide);refine TL.w rfl (gA (i := i) Tryz.underlying27 KG rfl rfl rfl rfl hA10 (by omega)) ?_;refine TL.v (gR KQ Kae KG hbb10 hx10 hc10) ?_;refine TL.al KeN fun g5 => ?_;refine TL.pstore (k := 0) (vs := x10.cells) rfl rfl rfl rfl rfl rfl rfl KG (KQ.one _) (by show 17 <= 17; decide) (L' := [.blk g5 76 x10.cells, .row (.slice Ao out.length co) 76 17 out.length (Kb Rs.cells out)]) rfl ?_;refine zET (zSG (TL.v (gV 0 (.agg (x10.cells).toArray) Kae KG) ?_));refine TL.pS rfl o93 (fun w1 hw => KeL x10 w1) (fun h13 => ?_) (fun h13 => ?_)
  ·refine zET (zc (zG (TL.mv ?_)));refine TL.v (gV 0 (.agg (x10.cells).toArray) Kae KG) ?_;refine TL.prowS (e := 76) (size := 17) (cs := Kb Rs.cells [x10]) rfl rfl rfl rfl rfl (fun w => KqV _ _ _ _ _ _ _ _ _ _ _ _ _ _ _ _ _ w) (by decide) rfl (fun g16 => ?_);refine TL.appendT (k := 2) rfl rfl rfl rfl Tryz.underlying27 Kov rfl rfl rfl (fun w1 hw => K1 hw (k := 0) rfl) (KB KQ _) (by show _ * 128 <= _; omega) ((out ++ [x10]).length) (by rw [List.length_append]; rfl) (Kb Rs.cells (out ++ [x10])) ((KD _ _).symm) (fun A17 c17 hA171 hA172 => ?_);refine TL.as_ ?_;refine zE (zN (zT (zG (TL.v (gD ((i + 1 : Nat) : Int)) ?_))));refine TL.mv ?_;refine zE ?_;exact TX.rd (⟨(i + 1, (A17, c17), out ++ [x10]), by dsimp only; omega, KpP hx10 h13 hout, by dsimp only; rw [List.length_append]; show out.length + 1 <= _; omega, hA171, hA172⟩) (by show l.length - (i + 1) < l.length - i; omega) (fun w1 hw => hw.pk [2])
  refine zET (zd (zk (zN (zT (zG (TL.v (gD ((i + 1 : Nat) : Int)) ?_))))));refine TL.mv ?_;refine zE ?_;exact TX.rd (⟨(i + 1, (Ao, co), out), by dsimp only; omega, KrS hx10 h13 hout, by dsimp only; omega, houtc, houtm⟩) (by show l.length - (i + 1) < l.length - i; omega) (fun w1 hw => hw.pk [1])
 have q9 := of_decide_eq_false h9;refine zET (zS (zd (zx (zX (zX (zM (zT (zSG (TL.mv ?_)))))))));refine TL.turnRowD (k := 0) (fun ys => Ka4 KdQ out ys) rfl rfl rfl rfl rfl Tryz.func140 (by decide) rfl rfl (fun w1 hw hr9 => Ks5 hr9 (rfl) (by omega)) (fun srt20 hS20 => ?_)
 try dsimp only [List.set_cons_zero, List.set_cons_succ]
 refine zET (zSG (TL.mv ?_));refine TL.turnRow2 (q := 0) (ys := Kw srt20) rfl rfl rfl rfl rfl Tryz.func142 (by decide) rfl rfl (fun w1 hw hr9 => Kup hr9 (hS20.1.length_eq) (by omega)) ?_
 try dsimp only [List.set_cons_zero, List.set_cons_succ]
 refine TL.as_ ?_;refine zET (zr ?_);have hle : (Kw srt20).length <= out.length := Nat.le_trans (KgF _) (Nat.le_of_eq hS20.1.length_eq);exact Kg Tryz.results94 rfl (fun w1 hw => ⟨⟨((Ao, co), Kw srt20), KnK hok (by rw [List.take_of_length_le (by omega)] at hout; exact hout) hS20, by dsimp only; omega, houtm⟩, rfl, hw.pick [0] (by decide) rfl⟩)
set_option maxRecDepth 20000
theorem KcA {α : Type} {l : List α} {i : Nat} {x z : α} (hx : l[i]? = some x) : z ∈ l.take (i + 1) ↔ z ∈ l.take i \/ z = x := by
  rw [List.take_add_one, hx, List.mem_append];simp
set_option maxRecDepth 20000
theorem Ksh {α β : Type} {p : α -> Bool} {f : α -> β} {l : List α} {out : List β} {i : Nat} {x : α} (hx : l[i]? = some x) (h : p x = true) (ho : ((l.take i).filter p).map f = out) : ((l.take (i + 1)).filter p).map f = out ++ [f x] := by
 rw [List.take_add_one, hx, List.filter_append, List.map_append, ho];simp [h]
theorem Kuq {α β : Type} {p : α -> Bool} {f : α -> β} {l : List α} {out : List β} {i : Nat} {x : α} (hx : l[i]? = some x) (h : p x = false) (ho : ((l.take i).filter p).map f = out) : ((l.take (i + 1)).filter p).map f = out := by
 rw [List.take_add_one, hx, List.filter_append, List.map_append, ho];simp [h]
def trk (t : Trc) : List Int := [t.v, t.dst, t.proto]
theorem Khk (t : Trc) : (trk t).length = 3 := rfl
theorem Kpg {x y : Trc} (h : trk x = trk y) : x = y := by
 obtain ⟨a, b, c⟩ := x;obtain ⟨a', b', c'⟩ := y;simp only [trk, List.cons.injEq, and_true] at h;obtain ⟨h1, h2, h3⟩ := h;subst h1 h2 h3
 rfl
def Kak (l : List Rs) (o : List Trc) : Prop := Kbc trk o /\ ∀ t, t ∈ o ↔ ∃ r ∈ l, KE r = true /\ Ku r = t
theorem Kak.eq {l : List Rs} {o o' : List Trc} (h : Kak l o) (h' : Kak l o') : o = o' := Kgt Khk h.1 h'.1 fun x => by rw [h.2, h'.2]
theorem Kn8 {l : List Rs} {o s : List Trc} (ho : (l.filter KE).map Ku = o) (hs : Ka4 Kem o s) : Kak l (Kw s) := by
 refine ⟨KhQ Khk s hs.2 fun x hx y hy h => Kpg h, fun t => ?_⟩;rw [KfY, hs.1.mem_iff, <- ho, List.mem_map];constructor
 ·rintro ⟨r, hr, e⟩;have := List.mem_filter.1 hr;exact ⟨r, this.1, this.2, e⟩
 rintro ⟨r, h1, h2, e⟩;exact ⟨r, List.mem_filter.2 ⟨h1, h2⟩, e⟩
def Knm (a b : Trc) : List (Int × Int) := [(a.v, b.v), (IntKind.i64.wrap a.dst, IntKind.i64.wrap b.dst), (a.proto, b.proto)]
def Kfi (a b : Trc) : Int := orP (Knm a b)
theorem Krj {a b : Trc} (h1 : 0 <= a.dst) (h2 : a.dst <= 4294967295) (h3 : 0 <= b.dst) (h4 : b.dst <= 4294967295) : Kfi a b = KH (trk a) (trk b) := by
 have w1 : ∀ z : Int, 0 <= z -> z <= 4294967295 -> IntKind.i64.wrap z = z := fun z h0 h1 => by simp only [IntKind.wrap_i64]; omega
 rw [Kfi, Knm, w1 _ h1 h2, w1 _ h3 h4]
 rfl
theorem Kak.nil : Kak [] [] := ⟨List.Pairwise.nil, fun x => by simp⟩
section
variable {l : List Rs} {o : List Trc} {i q : Nat} {x : Rs}
theorem Kak.skip (h : Kak (l.take i) o) (hx : l[i]? = some x) (hv : KE x = false) : Kak (l.take (i + 1)) o := ⟨h.1, fun t => by
 rw [h.2];constructor
 ·rintro ⟨r, h1, h2⟩;exact ⟨r, (KcA hx).2 (.inl h1), h2⟩
 rintro ⟨r, h1, h2, h3⟩;rcases (KcA hx).1 h1 with h4 | h4
 ·exact ⟨r, h4, h2, h3⟩
 rw [h4, hv] at h2; cases h2⟩
theorem Kak.put (h : Kak (l.take i) o) (hx : l[i]? = some x) (hv : KE x = true) (h1 : ∀ y ∈ o.take q, KH (trk y) (trk (Ku x)) < 0) (h2 : ∀ y ∈ o.drop q, KH (trk (Ku x)) (trk y) < 0) : Kak (l.take (i + 1)) (o.take q ++ Ku x :: o.drop q) := by
 refine ⟨Kq4 Khk h.1 h1 h2, fun t => ?_⟩;rw [KqQ, h.2];constructor
 ·rintro (⟨r, h3, h4⟩ | hh)
  ·exact ⟨r, (KcA hx).2 (.inl h3), h4⟩
  exact ⟨x, (KcA hx).2 (.inr rfl), hv, hh.symm⟩
 rintro ⟨r, h3, h4, h5⟩;rcases (KcA hx).1 h3 with h6 | h6
 ·exact .inl ⟨r, h6, h4, h5⟩
 rw [h6] at h5; exact .inr h5.symm
theorem Kak.rng (h : Kak (l.take i) o) (hok : ∀ r ∈ l, r.Ok) {y : Trc} (hy : y ∈ o) : 0 <= y.dst /\ y.dst <= 4294967295 := by
 obtain ⟨r, h1, _, h3⟩ := (h.2 y).1 hy;have := hok r (List.mem_of_mem_take h1);rw [<- h3];exact ⟨this.1, this.2.1⟩
theorem Kak.cmp (h : Kak (l.take i) o) (hx : l[i]? = some x) (hok : ∀ r ∈ l, r.Ok) {y : Trc} (hy : y ∈ o) : Kfi y (Ku x) = KH (trk y) (trk (Ku x)) := by
 have h1 := h.rng hok hy;have h2 := hok x (List.mem_of_getElem? hx);exact Krj h1.1 h1.2 h2.1 h2.2.1
theorem Kak.lt (h : Kak (l.take i) o) (hx : l[i]? = some x) (hok : ∀ r ∈ l, r.Ok) {y : Trc} (hy : y ∈ o) (hc : Kfi y (Ku x) < 0) : KH (trk y) (trk (Ku x)) < 0 := by rw [<- h.cmp hx hok hy]; exact hc
end
theorem KuE (a0_0 : Int) (a0_1 : Int) (a0_2 : Int) (w : World) : (Instr.buildSlice 184 1 #[(0, .agg #[.int .i64 a0_0, .int .u32 a0_1, .int .i64 a0_2])]).run Tryz.prog w = .ok (.slice (some ⟨w.heap.size, 0, none⟩) 1 1) (w.alloc (.cells [.int .i64 a0_0, .int .u32 a0_1, .int .i64 a0_2].toArray 48)) := by kernel_rfl
theorem KsY : Elem Tryz.prog 184 48 3 24 := Elem.mk' Tryz.underlying184 (z := .agg #[.int .i64 0, .int .u32 0, .int .i64 0]) (by kernel_rfl) rfl (by omega) (by omega)
theorem KoH (A0 : Option Addr) (c0 : Nat) (l : List Rs) (w : World) (hr : Kd w w.heap.size 17 A0 l.length (Kb Rs.cells l)) (hl1 : l.length <= 100000) :
  Calls Tryz.prog 95 #[.slice A0 l.length c0] w fun e w' => ∃ x : {y : (Option Addr × Nat) × List Trc // Kak l y.2 /\ y.2.length <= y.1.2 /\ y.1.2 <= maxLen}, e = .returned (.slice x.1.1.1 x.1.2.length x.1.1.2) /\ Pm w [.row (.slice x.1.1.1 x.1.2.length x.1.1.2) 48 3 x.1.2.length (Kb Trc.cells x.1.2)] w' := by
 refine Kj Tryz.func95 rfl rfl rfl ?_ (Pm.start w);refine zSG (TL.as_ ?_);refine zET (zSG (TL.as_ ?_));refine zET (zS (zSG (TL.mv ?_)));refine TL.v (gN Tryz.underlying27) ?_;refine TL.mv ?_;refine zET (zB (TC.nilrow 48 3 ?_));refine TC.lp (α := {y : Nat × (Option Addr × Nat) × List Trc // y.1 <= l.length /\ (((l.take y.1).filter KE).map Ku = y.2.2) /\ y.2.2.length <= y.1 /\ y.2.2.length <= y.2.1.2 /\ y.2.1.2 <= maxLen}) [2, 6, 7] rfl (fun y => [(8, .int .i64 ((y.1.1 : Nat) : Int)), (3, .slice y.1.2.1.1 y.1.2.2.length y.1.2.1.2)]) (fun y => Pm w [.row (.slice y.1.2.1.1 y.1.2.2.length y.1.2.1.2) 48 3 y.1.2.2.length (Kb Trc.cells y.1.2.2)]) (fun y => l.length - y.1.1) (⟨(0, (none, 0), []), Nat.zero_le _, rfl, Nat.le_refl _, Nat.le_refl _, Nat.zero_le _⟩) (fun w1 hw => hw) ?_;rintro ⟨⟨i, ⟨Ao, co⟩, out⟩, hi, hout, houtl, houtc, houtm⟩;dsimp only at hi hout houtl houtc houtm ⊢;refine zSG ?_;refine TL.vw rfl (Ke rfl rfl rfl (fun w => Kr w)) (fun h9 => ?_) (fun h9 => ?_)
 ·have q9 := of_decide_eq_true h9;refine zET (zS (zc (zk (zT (zS (zB (zSG ?_)))))));have hi10 : i < l.length := by omega
  obtain ⟨x10, hx10⟩ := Kq hi10;obtain ⟨b10, o10, hA10, hbb10, hc10⟩ := hr.ad (by omega) (by decide);refine TL.w rfl (gA (i := i) Tryz.underlying27 KG rfl rfl rfl rfl hA10 (by omega)) ?_;refine TL.v (gR KQ Kae KG hbb10 hx10 hc10) ?_;refine TL.al KeN fun g5 => ?_;refine TL.pstore (k := 0) (vs := x10.cells) rfl rfl rfl rfl rfl rfl rfl KG (KQ.one _) (by show 17 <= 17; decide) (L' := [.blk g5 76 x10.cells, .row (.slice Ao out.length co) 48 3 out.length (Kb Trc.cells out)]) rfl ?_;refine zET (zSG (TL.v (gV 0 (.agg (x10.cells).toArray) Kae KG) ?_));refine TL.pS rfl o93 (fun w1 hw => KeL x10 w1) (fun h13 => ?_) (fun h13 => ?_)
  ·refine zET (zc (zG (TL.mv ?_)));refine TL.v (gV 0 (.agg (x10.cells).toArray) Kae KG) ?_;refine TL.p1 rfl o58 (fun w1 hw => Kh5 x10 w1) ?_;refine TL.prowS (e := 48) (size := 3) (cs := Kb Trc.cells [Ku x10]) rfl rfl rfl rfl rfl (fun w => KuE _ _ _ w) (by decide) rfl (fun g17 => ?_);refine TL.appendT (k := 2) rfl rfl rfl rfl Tryz.underlying184 KsY rfl rfl rfl (fun w1 hw => K1 hw (k := 0) rfl) (KB KaE _) (by show _ * 24 <= _; omega) ((out ++ [Ku x10]).length) (by rw [List.length_append]; rfl) (Kb Trc.cells (out ++ [Ku x10])) ((KD _ _).symm) (fun A18 c18 hA181 hA182 => ?_);refine TL.as_ ?_;refine zE (zN (zT (zG (TL.v (gD ((i + 1 : Nat) : Int)) ?_))));refine TL.mv ?_;refine zE ?_;exact TX.rd (⟨(i + 1, (A18, c18), out ++ [Ku x10]), by dsimp only; omega, Ksh hx10 h13 hout, by dsimp only; rw [List.length_append]; show out.length + 1 <= _; omega, hA181, hA182⟩) (by show l.length - (i + 1) < l.length - i; omega) (fun w1 hw => hw.pk [2])
  refine zET (zd (zk (zN (zT (zG (TL.v (gD ((i + 1 : Nat) : Int)) ?_))))));refine TL.mv ?_;refine zE ?_;exact TX.rd (⟨(i + 1, (Ao, co), out), by dsimp only; omega, Kuq hx10 h13 hout, by dsimp only; omega, houtc, houtm⟩) (by show l.length - (i + 1) < l.length - i; omega) (fun w1 hw => hw.pk [1])
 have q9 := of_decide_eq_false h9;refine zET (zS (zd (zx (zX (zX (zM (zT (zSG (TL.mv ?_)))))))));refine TL.turnRowD (k := 0) (fun ys => Ka4 Kem out ys) rfl rfl rfl rfl rfl Tryz.func143 (by decide) rfl rfl (fun w1 hw hr9 => KpL hr9 (rfl) (by omega)) (fun srt21 hS21 => ?_)
 try dsimp only [List.set_cons_zero, List.set_cons_succ]
 refine zET (zSG (TL.mv ?_));refine TL.turnRow2 (q := 0) (ys := Kw srt21) rfl rfl rfl rfl rfl Tryz.func145 (by decide) rfl rfl (fun w1 hw hr9 => KnI hr9 (hS21.1.length_eq) (by omega)) ?_
 try dsimp only [List.set_cons_zero, List.set_cons_succ]
 refine TL.as_ ?_;refine zET (zr ?_);have hle : (Kw srt21).length <= out.length := Nat.le_trans (KgF _) (Nat.le_of_eq hS21.1.length_eq);exact Kg Tryz.results95 rfl (fun w1 hw => ⟨⟨((Ao, co), Kw srt21), Kn8 (by rw [List.take_of_length_le (by omega)] at hout; exact hout) hS21, by dsimp only; omega, houtm⟩, rfl, hw.pick [0] (by decide) rfl⟩)
set_option maxRecDepth 20000
structure Srh where
 tr : Trc
 num : Sg Int
 den : Sg Int
 ttl : Int
 flows : Int
def Srh.cells (s : Srh) : List Value := [.int .i64 s.tr.v, .int .u32 s.tr.dst, .int .i64 s.tr.proto, .bool false, .slice s.num.A s.num.l.length s.num.c, .slice s.den.A s.den.l.length s.den.c, .int .i64 s.ttl, .int .i64 s.flows]
theorem Kn2 (s : Srh) : ∀ u ∈ s.cells, u.oneCell' = true := by
 intro u hu;simp only [Srh.cells, List.mem_cons, List.not_mem_nil, or_false] at hu;rcases hu with rfl | rfl | rfl | rfl | rfl | rfl | rfl | rfl <;> rfl
def Kba (w : World) (B : Nat) (s : Srh) : Prop := Kd w B 1 s.num.A s.num.l.length (Kb (ic .i64) s.num.l) /\ Kd w B 1 s.den.A s.den.l.length (Kb (ic .i64) s.den.l)
theorem Kba.up {w w1 : World} {s : Srh} (h : Kba w w.heap.size s) (hb : Below w.heap.size w w1) : Kba w1 w1.heap.size s := ⟨Kd.up h.1 hb, Kd.up h.2 hb⟩
def KaN (t : Trc) : Rs := ⟨t.v, 0, 0, 0, t.dst, t.proto, 0, 1, false, false, 0, 0, 0, 0, 0, 0, 0⟩
structure SrhOk (s : Srh) : Prop where
 vt : KE (KaN s.tr) = true
 fr : FrG s.num.l s.den.l
 np : 0 < Ka s.num.l
 lt : Ka s.num.l < Ka s.den.l
 ttl : 1 <= s.ttl /\ s.ttl <= 40
 flows : 1 <= s.flows /\ s.flows <= 128
def ndB (p q : Int) (k m : Nat) : Bool := decide (p * (((k + 1) ^ m : Nat) : Int) < ((((k + 1) ^ m - KbB m (k + 1)) : Nat) : Int) * q)
theorem KgX {p q : Int} {k m : Nat} : ndB p q k m = true ↔ ndP p q k m := decide_eq_true_iff
def ndF (p q : Int) (k : Nat) : Int × Int := if k < 1 \/ 16 <= k then (0, 1) else match (List.range 129).find? (fun m => !ndB p q k m) with
 | some m => ((m : Int), 0)
 | none => (0, 5)
theorem Klu {p : Nat -> Bool} {n : Nat} : ∀ {m : Nat}, (List.range n).find? p = some m ↔ m < n /\ p m = true /\ ∀ i, i < m -> p i = false := by
 induction n with
 | zero => intro m; simp
 | succ n ih =>
  intro m;rw [List.range_succ, List.find?_append]
  cases h : (List.range n).find? p with
  | some a =>
   have ha := ih.1 h;simp only [Option.some_or, Option.some.injEq];constructor
   ·rintro rfl; exact ⟨by omega, ha.2⟩
   rintro ⟨h1, h2, h3⟩;rcases Nat.lt_trichotomy a m with h4 | h4 | h4
   ·have := h3 a h4; rw [ha.2.1] at this; cases this
   ·exact h4
   have := ha.2.2 m h4; rw [h2] at this; cases this
  | none =>
   have hn : ∀ i, i < n -> p i = false := fun i hi => by
    have := List.find?_eq_none.1 h i (List.mem_range.2 hi)
    simpa using this
   simp only [Option.none_or, List.find?_singleton];constructor
   ·intro h1;split at h1
    ·rename_i hp; injection h1 with h1; subst h1; exact ⟨by omega, hp, hn⟩
    cases h1
   rintro ⟨h1, h2, h3⟩
   have : m = n := by
    rcases Nat.lt_or_ge m n with h4 | h4
    ·have := hn m h4; rw [h2] at this; cases this
    omega
   subst this;rw [if_pos h2]
theorem KdF.eq {p q : Int} {k : Nat} {n z : Int} (h : KdF p q k n z) : n = (ndF p q k).1 /\ z = (ndF p q k).2 := by
 unfold ndF;rcases h with ⟨h1, rfl, rfl⟩ | ⟨h1, i, rfl, h2, h3, h4, rfl⟩ | ⟨h1, rfl, rfl, h2⟩
 ·rw [if_pos h1]; exact ⟨rfl, rfl⟩
 ·rw [if_neg (by omega), (Klu (m := i)).2 ⟨by omega, by simp only [Bool.not_eq_true']; exact Bool.eq_false_iff.2 fun hh => h4 (KgX.1 hh), fun j hj => by simp only [Bool.not_eq_false']; exact KgX.2 (h3 j hj)⟩];exact ⟨rfl, rfl⟩
 rw [if_neg (by omega)]
 have : (List.range 129).find? (fun m => !ndB p q k m) = none := List.find?_eq_none.2 fun m hm => by
  have := KgX.2 (h2 m (List.mem_range.1 hm));simp [this]
 rw [this];exact ⟨rfl, rfl⟩
def Srh.nd (s : Srh) (k : Nat) : Int := if (ndF (Ka s.num.l) (Ka s.den.l) k).2 = 0 then min (ndF (Ka s.num.l) (Ka s.den.l) k).1 s.flows else s.flows
theorem Kfk {P : Program} {N : Fr} {E : Env} {o : Oper} {I : World -> Prop} {x y : Operand} {ts : Array TypeId} {a b : Int} (ho : o.op = .call { callee := .builtin .min, args := #[x, y], argTypes := ts }) (hx : ev E x = some (.int .i64 a)) (hy : ev E y = some (.int .i64 b)) : Kv P N o E I (.int .i64 (min a b)) := fun ac w ha _ => by
 unfold execOp; rw [ho];simp only [resolve, invoke, builtin, Sem.run_bind, Sem.run_pure, Result.andThen_ok, List.map_toArray, List.map_cons, List.map_nil, ha.eval hx, ha.eval hy];simp [go_sem, Builtin.min_, Builtin.min2]
 try omega
theorem Kp4 (g o : Nat) (w : World) : (Instr.fieldAt 48 (.pointer (some ⟨g, o, none⟩)) 0).run Tryz.prog w = .ok (.pointer (some ⟨g, o + 0, none⟩)) w := by kernel_rfl
theorem Kco (w : World) : (isAgg 3).run Tryz.prog w = .ok false w := rfl
theorem Kso (g o : Nat) (w : World) : (Instr.fieldAt 48 (.pointer (some ⟨g, o, none⟩)) 1).run Tryz.prog w = .ok (.pointer (some ⟨g, o + 1, none⟩)) w := by kernel_rfl
theorem Ksi (w : World) : (isAgg 42).run Tryz.prog w = .ok false w := rfl
theorem Kp7 (g o : Nat) (w : World) : (Instr.fieldAt 48 (.pointer (some ⟨g, o, none⟩)) 2).run Tryz.prog w = .ok (.pointer (some ⟨g, o + 2, none⟩)) w := by kernel_rfl
theorem KnH (a0_0 : Int) (a4_0 : Int) (a5_0 : Int) (a7_0 : Int) (w : World) : (Instr.build 76 #[(0, .int .i64 a0_0), (4, .int .u32 a4_0), (5, .int .i64 a5_0), (7, .int .i64 a7_0)]).run Tryz.prog w = .ok (.agg #[.int .i64 a0_0, .int .i64 0, .int .i64 0, .int .i64 0, .int .u32 a4_0, .int .i64 a5_0, .int .i64 0, .int .i64 a7_0, .bool false, .bool false, .int .i64 0, .int .u32 0, .int .i64 0, .int .i64 0, .int .i64 0, .int .i64 0, .int .i64 0]) w := by kernel_rfl
theorem KoP (g o : Nat) (w : World) : (Instr.fieldAt 54 (.pointer (some ⟨g, o, none⟩)) 0).run Tryz.prog w = .ok (.pointer (some ⟨g, o + 0, none⟩)) w := by kernel_rfl
theorem Kry (w : World) : (isAgg 48).run Tryz.prog w = .ok true w := rfl
theorem KqA (w : World) : (sizeOf 48).run Tryz.prog w = .ok 3 w := rfl
theorem KlE (g o : Nat) (w : World) : (Instr.fieldAt 54 (.pointer (some ⟨g, o, none⟩)) 2).run Tryz.prog w = .ok (.pointer (some ⟨g, o + 6, none⟩)) w := by kernel_rfl
theorem KfC (g o : Nat) (w : World) : (Instr.fieldAt 54 (.pointer (some ⟨g, o, none⟩)) 3).run Tryz.prog w = .ok (.pointer (some ⟨g, o + 7, none⟩)) w := by kernel_rfl
theorem KgD (g o : Nat) (w : World) : (Instr.fieldAt 54 (.pointer (some ⟨g, o, none⟩)) 1).run Tryz.prog w = .ok (.pointer (some ⟨g, o + 3, none⟩)) w := by kernel_rfl
theorem KgT (w : World) : (isAgg 52).run Tryz.prog w = .ok true w := rfl
theorem Kia (w : World) : (sizeOf 52).run Tryz.prog w = .ok 3 w := rfl
theorem Kj5 (w : World) : (isAgg 54).run Tryz.prog w = .ok true w := rfl
theorem Kkp (w : World) : (sizeOf 54).run Tryz.prog w = .ok 8 w := rfl
theorem KqH (t : Trc) (w : World) (hv : KE (KaN t) = true) :
  Calls Tryz.prog 103 #[.agg t.cells.toArray] w fun e w' => e = .returned (.bool true) /\ Below w.heap.size w w' := by
 refine Kj Tryz.func103 rfl rfl rfl ?_ (Pm.start w);refine zSG ?_;refine TL.bx fun g1 => ?_;refine TL.as_ ?_;refine zET (zSG (TL.v (gF Kp4) ?_));refine TL.v (gL 0 Kco) ?_;refine TL.v (gF Kso) ?_;refine TL.v (gL 0 Ksi) ?_;refine TL.v (gF Kp7) ?_;refine TL.v (gL 0 Kco) ?_;refine TL.w rfl (Kt (v := .agg #[.int .i64 t.v, .int .i64 0, .int .i64 0, .int .i64 0, .int .u32 t.dst, .int .i64 t.proto, .int .i64 0, .int .i64 1, .bool false, .bool false, .int .i64 0, .int .u32 0, .int .i64 0, .int .i64 0, .int .i64 0, .int .i64 0, .int .i64 0]) rfl rfl (fun w => KnH _ _ _ _ w)) ?_;refine TL.pS rfl o93 (fun w1 hw => KeL (KaN t) w1) (fun h10 => ?_) (fun h10 => ?_)
 ·refine TL.as_ ?_;refine zET (zr ?_);exact Kg Tryz.results103 rfl (fun w1 hw => ⟨rfl, hw.bel⟩)
 exfalso; rw [hv] at h10; cases h10
theorem Kf8 (s : Srh) (w : World) (hsr : Kba w w.heap.size s) (hs : SrhOk s) :
  Calls Tryz.prog 49 #[.agg s.cells.toArray] w fun e w' => e = .returned (.bool true) /\ Below w.heap.size w w' := by
 refine Kj Tryz.func49 rfl rfl rfl ?_ (Pm.start w);refine zSG ?_;refine TL.bx fun g1 => ?_;refine TL.as_ ?_;refine zET (zS (zS ?_));have h1 := hs.ttl;have h2 := hs.flows;have h3 := hs.fr.ln;have h4 := hs.fr.ld;refine zG (TL.v (gF KoP) ?_);refine TL.v (gV 0 (.agg #[.int .i64 s.tr.v, .int .u32 s.tr.dst, .int .i64 s.tr.proto]) Kry KqA) ?_;refine TL.p1 rfl Kpe (fun w1 hw => KqH s.tr w1 hs.vt) ?_;refine TL.rn 2 rfl (TL.ov (gF KlE) ?_);refine TL.ov (gL 0 Kco) ?_;refine TL.gu ?_;refine TL.sp Kr (fun q12 => ?_) (fun q12 => ?_)
 ·exfalso; omega
 refine TL.rn 2 rfl (TL.ov (gF KlE) ?_);refine TL.ov (gL 0 Kco) ?_;refine TL.gu ?_;refine TL.sp KC (fun q17 => ?_) (fun q17 => ?_)
 ·exfalso; omega
 refine TL.rn 2 rfl (TL.ov (gF KfC) ?_);refine TL.ov (gL 0 Kco) ?_;refine TL.gu ?_;refine TL.sp Kr (fun q22 => ?_) (fun q22 => ?_)
 ·exfalso; omega
 refine TL.rn 2 rfl (TL.ov (gF KfC) ?_);refine TL.ov (gL 0 Kco) ?_;refine TL.gu ?_;refine TL.sp KC (fun q27 => ?_) (fun q27 => ?_)
 ·exfalso; omega
 refine TL.rn 2 rfl (TL.ov (gF KgD) ?_);refine TL.ov (gV 0 (.agg #[.bool false, .slice s.num.A s.num.l.length s.num.c, .slice s.den.A s.den.l.length s.den.c]) KgT Kia) ?_;refine TL.gu ?_;refine TL.p1 rfl Kkm (fun w1 hw => KkY s.num.A s.num.c s.num.l s.den.A s.den.c s.den.l w1 (hsr.1.up hw.bel) (hsr.2.up hw.bel) hs.fr.nn hs.fr.nd (by omega) (by omega) (Kd0 hs.fr.pos)) ?_;refine TL.rn 2 rfl (zET (zd (zk (zT (zSG (TL.v (gF KgD) ?_))))));refine TL.v (gV 0 (.agg #[.bool false, .slice s.num.A s.num.l.length s.num.c, .slice s.den.A s.den.l.length s.den.c]) KgT Kia) ?_;refine TL.pM (α := {y : Int × Int // KdF (Ka s.num.l) (Ka s.den.l) 1 y.1 y.2}) (fun x => .tuple #[.int .i64 x.1.1, .int .i64 x.1.2]) (fun x => []) rfl Kiy (fun w1 hw => (KiV 1 s.num.A s.num.c s.num.l s.den.A s.den.c s.den.l w1 (hsr.1.up hw.bel) (hsr.2.up hw.bel) hs.fr hs.np hs.lt (by omega)).mono fun en w2 ⟨x, h1, h2⟩ => ⟨x, h1, (Pm.start w1).below h2⟩) ?_;rintro ⟨⟨nn, nz⟩, hnd⟩;dsimp only [lC, lN];refine TL.rn 5 rfl (zET (zSG (TL.mv ?_)));refine TL.sp Kau (fun q42 => ?_) (fun q42 => ?_)
 ·refine TL.as_ ?_;refine zET (zr ?_);exact Kg Tryz.results49 rfl (fun w1 hw => ⟨rfl, hw.bel⟩)
 exfalso; rcases hnd with ⟨h9, _⟩ | ⟨_, _, _, _, _, _, h9⟩ | ⟨_, _, h9, _⟩ <;> omega
theorem Kmq (s : Srh) (k : Nat) (w : World) (hsr : Kba w w.heap.size s) (hs : SrhOk s) (hk : k <= 1000000) :
  Calls Tryz.prog 64 #[.agg s.cells.toArray, .int .i64 ((k : Nat) : Int)] w fun e w' => e = .returned (.int .i64 (s.nd k)) /\ Below w.heap.size w w' := by
 refine Kj Tryz.func64 rfl rfl rfl ?_ (Pm.start w);refine zSG ?_;refine TL.bx fun g2 => ?_;refine TL.as_ ?_;refine zET (zS (zSG (TL.mv ?_)));refine TL.v (gF KgD) ?_;refine TL.v (gV 0 (.agg #[.bool false, .slice s.num.A s.num.l.length s.num.c, .slice s.den.A s.den.l.length s.den.c]) KgT Kia) ?_;refine TL.pM (α := {y : Int × Int // KdF (Ka s.num.l) (Ka s.den.l) k y.1 y.2}) (fun x => .tuple #[.int .i64 x.1.1, .int .i64 x.1.2]) (fun x => []) rfl Kiy (fun w1 hw => (KiV k s.num.A s.num.c s.num.l s.den.A s.den.c s.den.l w1 (hsr.1.up hw.bel) (hsr.2.up hw.bel) hs.fr hs.np hs.lt (by omega)).mono fun en w2 ⟨x, h1, h2⟩ => ⟨x, h1, (Pm.start w1).below h2⟩) ?_;rintro ⟨⟨nn, nz⟩, hnd⟩;dsimp only [lC, lN];refine TL.rn 5 rfl (zET (zS ?_));obtain ⟨e1, e2⟩ := hnd.eq;refine zG (TL.mv ?_);refine TL.sp KK (fun q15 => ?_) (fun q15 => ?_)
 ·refine zET (zc (zSG (TL.mv ?_)));refine TL.v (gF KfC) ?_;refine TL.v (gL 0 Kco) ?_;refine TL.w rfl (Kfk rfl rfl rfl) ?_;refine TL.as_ ?_;refine zET (zr (zR ?_));have hE : s.nd k = min nn s.flows := by unfold Srh.nd; rw [<- e1, <- e2]; exact if_pos q15
  exact Kg Tryz.results64 rfl (fun w1 hw => ⟨by rw [hE], hw.bel⟩)
 refine zET (zd (zk (zT (zSG (TL.v (gF KfC) ?_)))));refine TL.v (gL 0 Kco) ?_;refine TL.as_ ?_;refine zET (zr ?_);have hE : s.nd k = s.flows := by unfold Srh.nd; rw [<- e1, <- e2]; exact if_neg q15
 exact Kg Tryz.results64 rfl (fun w1 hw => ⟨by rw [hE], hw.bel⟩)
theorem KmF (s : Srh) (k : Nat) (w : World) (hsr : Kba w w.heap.size s) (hs : SrhOk s) (hk : k <= 1000000) (hk1 : 1 <= k) :
  Calls Tryz.prog 22 #[.agg s.cells.toArray, .int .i64 ((k : Nat) : Int)] w fun e w' => e = .returned (.int .i64 (s.nd k)) /\ Below w.heap.size w w' := by
 refine Kj Tryz.func22 rfl rfl rfl ?_ (Pm.start w);refine zSG ?_;refine TL.bx fun g2 => ?_;refine TL.as_ ?_;refine zET (zS (zSG (TL.mv ?_)));refine TL.sp Kr (fun q6 => ?_) (fun q6 => ?_)
 ·exfalso; omega
 refine TL.mv ?_;refine TL.ov (gV 0 (.agg (s.cells).toArray) Kj5 Kkp) ?_;refine TL.gu ?_;refine TL.p1 rfl o49 (fun w1 hw => Kf8 s w1 (hsr.up hw.bel) hs) ?_;refine TL.rn 2 rfl (zET (zd (zk (zT (zSG (TL.v (gV 0 (.agg (s.cells).toArray) Kj5 Kkp) ?_))))));refine TL.mv ?_;refine TL.p1 rfl o64 (fun w1 hw => Kmq s k w1 (hsr.up hw.bel) hs hk) ?_;refine TL.as_ ?_;refine zET (zr ?_);exact Kg Tryz.results22 rfl (fun w1 hw => ⟨rfl, hw.bel⟩)
set_option maxRecDepth 20000
theorem KcI {α : Type} [DecidableEq α] : ∀ {p F : List α}, p.Nodup -> (∀ f ∈ p, f ∈ F) -> p.length <= F.length
  | [], _, _, _ => Nat.zero_le _
  | a :: p, F, h, hs => by
    obtain ⟨h1, h2⟩ := List.nodup_cons.1 h;have := KcI (F := F.erase a) h2 fun f hf => (List.mem_erase_of_ne (fun e => h1 (by rw [<- e]; exact hf))).2 (hs f (List.mem_cons_of_mem _ hf));rw [List.length_erase_of_mem (hs a List.mem_cons_self)] at this;have h3 : 0 < F.length := List.length_pos_of_mem (hs a List.mem_cons_self);rw [List.length_cons];omega
def Kh1 (l : List Rs) (t : Trc) (y : List Rs) : Prop := ∃ o, Kcb l o /\ y = o.filter fun r => decide (Ku r = t)
theorem Kh1.eq {l y y' : List Rs} {t : Trc} (h : Kh1 l t y) (h' : Kh1 l t y') : y = y' := by
  obtain ⟨o, h1, h2⟩ := h;obtain ⟨o', h3, h4⟩ := h';rw [h2, h4, h1.eq h3]
theorem Kcb.le {l o : List Rs} (h : Kcb l o) : o.length <= l.length := by
  have hn : o.Nodup := h.1.imp fun {a b} hab e => by subst e; exact Kcc _ hab
  exact KcI hn fun x hx => ((h.2 x).1 hx).1
open Go Go.RowKit
set_option maxRecDepth 20000
structure Spot where
  flow : Int
  ttl : Int
deriving DecidableEq
def Spot.cells (r : Spot) : List Value := [.int .i64 r.flow, .int .i64 r.ttl]
theorem Ktm : Cel Spot.cells 2 := ⟨fun _ => rfl, fun r u hu => by
  simp only [Spot.cells, List.mem_cons, List.not_mem_nil, or_false] at hu;rcases hu with rfl | rfl <;> rfl⟩
structure Place where
  ttl : Int
  addr : Int
deriving DecidableEq
def Place.cells (r : Place) : List Value := [.int .i64 r.ttl, .int .u32 r.addr]
theorem Kur : Cel Place.cells 2 := ⟨fun _ => rfl, fun r u hu => by
  simp only [Place.cells, List.mem_cons, List.not_mem_nil, or_false] at hu;rcases hu with rfl | rfl <;> rfl⟩
structure Stp where
  ttl : Int
  frm : Int
  to_ : Int
deriving DecidableEq
def Stp.cells (r : Stp) : List Value := [.int .i64 r.ttl, .int .u32 r.frm, .int .u32 r.to_]
theorem KqF : Cel Stp.cells 3 := ⟨fun _ => rfl, fun r u hu => by
  simp only [Stp.cells, List.mem_cons, List.not_mem_nil, or_false] at hu;rcases hu with rfl | rfl | rfl <;> rfl⟩
def Spot.Ok (s : Spot) : Prop := (Lit.int .i64 s.flow).wf = true /\ (Lit.int .i64 s.ttl).wf = true
theorem KtH (d : Nat) (a0 : Int) (a1 : Int) (h0 : (Lit.int .i64 a0).wf = true) (h1 : (Lit.int .i64 a1).wf = true) : Tryz.prog.keyLits (d + 2) 138 [.int .i64 a0, .int .i64 a1] = some [.int .i64 a0, .int .i64 a1] := by
  have hc : Tryz.prog.cellsOf 138 = 2 := by kernel_rfl
  have hc3 : Tryz.prog.cellsOf 3 = 1 := by kernel_rfl
  have hu3 := Tryz.underlying3;simp [Program.keyLits, Tryz.underlying138, hc, hc3, hu3, h0, h1]
theorem Kue (s : Spot) (h : s.Ok) : ∃ l, keyOf Tryz.prog 138 (.agg s.cells.toArray) = some l := by
  have hkt : Tryz.prog.keyType 138 = true := by kernel_rfl
  have hc : Tryz.prog.cellsOf 138 = 2 := by kernel_rfl
  have hf : (Value.agg s.cells.toArray).formed Tryz.prog 138 = true := by simp [Value.formed, Tryz.underlying138, hc, Spot.cells]
  have hp : 0 < Tryz.prog.types.size := of_decide_eq_true (by kernel_rfl);have hl := KtH (Tryz.prog.types.size - 1) s.flow s.ttl h.1 h.2;rw [show Tryz.prog.types.size - 1 + 2 = Tryz.prog.types.size + 1 by omega] at hl;refine ⟨.string (keyBytes [.int .i64 s.flow, .int .i64 s.ttl]), ?_⟩;unfold keyOf;rw [Tryz.underlying138];simp only [hkt, hf, Bool.and_self, if_true];show Option.map _ (Tryz.prog.keyLits _ _ [.int .i64 s.flow, .int .i64 s.ttl]) = _;rw [hl]
  rfl
theorem Kaa : MKey Tryz.prog 138 (fun s : Spot => .agg s.cells.toArray) Spot.Ok where
  keyed := Maps.Keyed.of_law (deep_law (m := 2) (by omega) (by kernel_rfl) (by kernel_rfl) (by rw [Tryz.underlying138]))
  lit := Kue
  inj := fun a b h => by
    cases a; cases b
    simpa [Spot.cells] using h
def Place.Ok (s : Place) : Prop := (Lit.int .i64 s.ttl).wf = true /\ (Lit.int .u32 s.addr).wf = true
theorem KqM (d : Nat) (a0 : Int) (a1 : Int) (h0 : (Lit.int .i64 a0).wf = true) (h1 : (Lit.int .u32 a1).wf = true) : Tryz.prog.keyLits (d + 2) 140 [.int .i64 a0, .int .u32 a1] = some [.int .i64 a0, .int .u32 a1] := by
  have hc : Tryz.prog.cellsOf 140 = 2 := by kernel_rfl
  have hc3 : Tryz.prog.cellsOf 3 = 1 := by kernel_rfl
  have hu3 := Tryz.underlying3;have hc30 : Tryz.prog.cellsOf 42 = 1 := by kernel_rfl
  have hu30 := Tryz.underlying42;simp [Program.keyLits, Tryz.underlying140, hc, hc3, hu3, hc30, hu30, h0, h1]
theorem Kqb (s : Place) (h : s.Ok) : ∃ l, keyOf Tryz.prog 140 (.agg s.cells.toArray) = some l := by
  have hkt : Tryz.prog.keyType 140 = true := by kernel_rfl
  have hc : Tryz.prog.cellsOf 140 = 2 := by kernel_rfl
  have hf : (Value.agg s.cells.toArray).formed Tryz.prog 140 = true := by simp [Value.formed, Tryz.underlying140, hc, Place.cells]
  have hp : 0 < Tryz.prog.types.size := of_decide_eq_true (by kernel_rfl);have hl := KqM (Tryz.prog.types.size - 1) s.ttl s.addr h.1 h.2;rw [show Tryz.prog.types.size - 1 + 2 = Tryz.prog.types.size + 1 by omega] at hl;refine ⟨.string (keyBytes [.int .i64 s.ttl, .int .u32 s.addr]), ?_⟩;unfold keyOf;rw [Tryz.underlying140];simp only [hkt, hf, Bool.and_self, if_true];show Option.map _ (Tryz.prog.keyLits _ _ [.int .i64 s.ttl, .int .u32 s.addr]) = _;rw [hl]
  rfl
theorem Ked : MKey Tryz.prog 140 (fun s : Place => .agg s.cells.toArray) Place.Ok where
  keyed := Maps.Keyed.of_law (deep_law (m := 2) (by omega) (by kernel_rfl) (by kernel_rfl) (by rw [Tryz.underlying140]))
  lit := Kqb
  inj := fun a b h => by
    cases a; cases b
    simpa [Place.cells] using h
def Stp.Ok (s : Stp) : Prop := (Lit.int .i64 s.ttl).wf = true /\ (Lit.int .u32 s.frm).wf = true /\ (Lit.int .u32 s.to_).wf = true
theorem KqJ (d : Nat) (a0 : Int) (a1 : Int) (a2 : Int) (h0 : (Lit.int .i64 a0).wf = true) (h1 : (Lit.int .u32 a1).wf = true) (h2 : (Lit.int .u32 a2).wf = true) : Tryz.prog.keyLits (d + 2) 143 [.int .i64 a0, .int .u32 a1, .int .u32 a2] = some [.int .i64 a0, .int .u32 a1, .int .u32 a2] := by
  have hc : Tryz.prog.cellsOf 143 = 3 := by kernel_rfl
  have hc3 : Tryz.prog.cellsOf 3 = 1 := by kernel_rfl
  have hu3 := Tryz.underlying3;have hc30 : Tryz.prog.cellsOf 42 = 1 := by kernel_rfl
  have hu30 := Tryz.underlying42;simp [Program.keyLits, Tryz.underlying143, hc, hc3, hu3, hc30, hu30, h0, h1, h2]
theorem Ktv (s : Stp) (h : s.Ok) : ∃ l, keyOf Tryz.prog 143 (.agg s.cells.toArray) = some l := by
  have hkt : Tryz.prog.keyType 143 = true := by kernel_rfl
  have hc : Tryz.prog.cellsOf 143 = 3 := by kernel_rfl
  have hf : (Value.agg s.cells.toArray).formed Tryz.prog 143 = true := by simp [Value.formed, Tryz.underlying143, hc, Stp.cells]
  have hp : 0 < Tryz.prog.types.size := of_decide_eq_true (by kernel_rfl);have hl := KqJ (Tryz.prog.types.size - 1) s.ttl s.frm s.to_ h.1 h.2.1 h.2.2;rw [show Tryz.prog.types.size - 1 + 2 = Tryz.prog.types.size + 1 by omega] at hl;refine ⟨.string (keyBytes [.int .i64 s.ttl, .int .u32 s.frm, .int .u32 s.to_]), ?_⟩;unfold keyOf;rw [Tryz.underlying143];simp only [hkt, hf, Bool.and_self, if_true];show Option.map _ (Tryz.prog.keyLits _ _ [.int .i64 s.ttl, .int .u32 s.frm, .int .u32 s.to_]) = _;rw [hl]
  rfl
theorem KeD : MKey Tryz.prog 143 (fun s : Stp => .agg s.cells.toArray) Stp.Ok where
  keyed := Maps.Keyed.of_law (deep_law (m := 2) (by omega) (by kernel_rfl) (by kernel_rfl) (by rw [Tryz.underlying143]))
  lit := Ktv
  inj := fun a b h => by
    cases a; cases b
    simpa [Stp.cells] using h
set_option maxRecDepth 20000
def KcS (e : Int) (r : Rs) : Bool := (decide (e = 0) || decide (r.ttl < e)) && KbX r
def Kf (l : List Rs) : Int := l.foldl (fun e r => if KcS e r then r.ttl else e) 0
theorem KeU {l : List Rs} {i : Nat} {x : Rs} {e : Int} (hx : l[i]? = some x) (h : Kf (l.take i) = e) : Kf (l.take (i + 1)) = if KcS e x then x.ttl else e := by
 unfold Kf at h ⊢;rw [List.take_add_one, hx, List.foldl_append, h]
 rfl
def KW (e : Int) (r : Rs) : Bool := KaX r && !(decide (e > 0) && decide (r.ttl > e))
def Kaq {κ β : Type} [DecidableEq κ] (f : κ -> Option β) (a : κ) (v : β) : κ -> Option β := fun x => if x = a then some v else f x
theorem KbP {κ : Type} [DecidableEq κ] (f : κ -> Option Int) (a : κ) (q : IntKind) (v : Int) : (fun x => if x = a then some (Value.int q v) else (f x).map (Value.int q)) = fun x => (Kaq f a v x).map (Value.int q) := by
 funext x
 unfold Kaq;split <;> rfl
def KF (r : Rs) : Spot := ⟨r.flow, r.ttl⟩
def K4 (e : Int) (p : (Spot -> Option Int) × (Spot -> Option Int)) (r : Rs) : (Spot -> Option Int) × (Spot -> Option Int) :=
 if KW e r then
  if r.ans = false then (p.1, Kaq p.2 (KF r) (max ((p.2 (KF r)).getD 0) 1))
  else if (p.2 (KF r)).getD 0 <= 1 then (Kaq p.1 (KF r) r.src, Kaq p.2 (KF r) 2)
  else if (p.2 (KF r)).getD 0 = 2 /\ (p.1 (KF r)).getD 0 ≠ r.src then (Kaq p.1 (KF r) 0, Kaq p.2 (KF r) 3)
  else p
 else p
def Kav (e : Int) (l : List Rs) : (Spot -> Option Int) × (Spot -> Option Int) := l.foldl (K4 e) (fun _ => none, fun _ => none)
def Kh (l : List Rs) : (Spot -> Option Int) × (Spot -> Option Int) := Kav (Kf l) l
theorem KaT {l : List Rs} {i : Nat} {x : Rs} (hx : l[i]? = some x) (hu : KaX x = true) (hok : ∀ r ∈ l, r.Ok) : (⟨x.flow, x.ttl⟩ : Spot).Ok := by
 have hv : KE x = true := by unfold KaX at hu; simp only [Bool.and_eq_true] at hu; exact hu.2
 have hc : Kad x = 0 := by unfold KE at hv; simp only [Bool.and_eq_true, decide_eq_true_eq] at hv; exact hv.1.1
 have hr : x.inRange := Decidable.by_contra fun h => by have := Kne h; omega
 obtain ⟨a1, a2, a3, a4, a5, a6, a7, a8, a9, a10, a11, a12, a13, a14, a15⟩ := hr;constructor
 ·show (Lit.int .i64 x.flow).wf = true;simp [Lit.wf, IntKind.min, IntKind.max, IntKind.signed, IntKind.bits]; omega
 show (Lit.int .i64 x.ttl).wf = true;simp [Lit.wf, IntKind.min, IntKind.max, IntKind.signed, IntKind.bits]; omega
section
variable {l : List Rs} {i : Nat} {x : Rs} {e : Int} {fa fs : Spot -> Option Int}
theorem KeT (hx : l[i]? = some x) (h : Kav e (l.take i) = (fa, fs)) : Kav e (l.take (i + 1)) = K4 e (fa, fs) x := by
 unfold Kav at h ⊢;rw [List.take_add_one, hx, List.foldl_append, h]
 rfl
theorem Kmg (hx : l[i]? = some x) (h : Kav e (l.take i) = (fa, fs)) (hu : KW e x = false) : Kav e (l.take (i + 1)) = (fa, fs) := by
 rw [KeT hx h, K4, if_neg (by rw [hu]; decide)]
theorem Kmw (hx : l[i]? = some x) (h : Kav e (l.take i) = (fa, fs)) (hu : KW e x = true) (ha : x.ans = false) : Kav e (l.take (i + 1)) = (fa, Kaq fs ⟨x.flow, x.ttl⟩ (max ((fs ⟨x.flow, x.ttl⟩).getD 0) 1)) := by
 rw [KeT hx h, K4, if_pos hu, if_pos ha]; rfl
theorem Kjr (hx : l[i]? = some x) (h : Kav e (l.take i) = (fa, fs)) (hu : KW e x = true) (ha : x.ans = true) (hk : (fs ⟨x.flow, x.ttl⟩).getD 0 <= 1) : Kav e (l.take (i + 1)) = (Kaq fa ⟨x.flow, x.ttl⟩ x.src, Kaq fs ⟨x.flow, x.ttl⟩ 2) := by
 have hk' : ((fa, fs).2 (KF x)).getD 0 <= 1 := hk;rw [KeT hx h, K4, if_pos hu, if_neg (by rw [ha]; decide), if_pos hk']; rfl
theorem KkB (hx : l[i]? = some x) (h : Kav e (l.take i) = (fa, fs)) (hu : KW e x = true) (ha : x.ans = true) (hk : (fs ⟨x.flow, x.ttl⟩).getD 0 = 2) (hn : (fa ⟨x.flow, x.ttl⟩).getD 0 ≠ x.src) : Kav e (l.take (i + 1)) = (Kaq fa ⟨x.flow, x.ttl⟩ 0, Kaq fs ⟨x.flow, x.ttl⟩ 3) := by
 have hk2 : ¬ ((fa, fs).2 (KF x)).getD 0 <= 1 := by have : ((fa, fs).2 (KF x)).getD 0 = 2 := hk; omega
 rw [KeT hx h, K4, if_pos hu, if_neg (by rw [ha]; decide), if_neg hk2, if_pos ⟨hk, hn⟩]; rfl
theorem Kgr (hx : l[i]? = some x) (h : Kav e (l.take i) = (fa, fs)) (hu : KW e x = true) (ha : x.ans = true) (hk : ¬ (fs ⟨x.flow, x.ttl⟩).getD 0 <= 1) (hn : ¬ (fs ⟨x.flow, x.ttl⟩).getD 0 = 2 \/ ¬ (fa ⟨x.flow, x.ttl⟩).getD 0 ≠ x.src) : Kav e (l.take (i + 1)) = (fa, fs) := by
 have hk' : ¬ ((fa, fs).2 (KF x)).getD 0 <= 1 := hk
 rw [KeT hx h, K4, if_pos hu, if_neg (by rw [ha]; decide), if_neg hk', if_neg (by
  rintro ⟨h1, h2⟩;rcases hn with h3 | h3
  ·exact h3 h1
  exact h3 h2)]
end
theorem Kg2 (w : World) : (zeroValue 132).run Tryz.prog w = .ok (.agg #[.int .i64 0, .map none, .map none]) w := rfl
theorem Krr (a0_0 : Int) (a1_0 : Nat) (a2_0 : Nat) (w : World) : (Instr.build 132 #[(0, .int .i64 a0_0), (1, .map (some a1_0)), (2, .map (some a2_0))]).run Tryz.prog w = .ok (.agg #[.int .i64 a0_0, .map (some a1_0), .map (some a2_0)]) w := by kernel_rfl
theorem KdE (w : World) : (sizeOf 132).run Tryz.prog w = .ok 3 w := rfl
theorem KoX {a0 : Int} {a1 : Nat} {a2 : Nat} : ∀ u ∈ [(.int .i64 a0 : Value), .map (some a1), .map (some a2)], u.oneCell' = true := by
 intro u hu;simp only [List.mem_cons, List.not_mem_nil, or_false] at hu;rcases hu with rfl | rfl | rfl <;> rfl
theorem KhN : FA Tryz.prog 132 0 0 := fun g o w => by kernel_rfl
theorem Ke0 (a0_0 : Int) (a1_0 : Int) (w : World) : (Instr.build 138 #[(0, .int .i64 a0_0), (1, .int .i64 a1_0)]).run Tryz.prog w = .ok (.agg #[.int .i64 a0_0, .int .i64 a1_0]) w := by kernel_rfl
theorem Kfl (w : World) : (zeroValue 138).run Tryz.prog w = .ok (.agg #[.int .i64 0, .int .i64 0]) w := rfl
theorem Kah (w : World) : (sizeOf 138).run Tryz.prog w = .ok 2 w := rfl
theorem KrH {a0 : Int} {a1 : Int} : ∀ u ∈ [(.int .i64 a0 : Value), .int .i64 a1], u.oneCell' = true := by
 intro u hu;simp only [List.mem_cons, List.not_mem_nil, or_false] at hu;rcases hu with rfl | rfl <;> rfl
theorem Kbq : FA Tryz.prog 132 2 2 := fun g o w => by kernel_rfl
theorem Kbv (w : World) : (isAgg 130).run Tryz.prog w = .ok false w := rfl
theorem KaD (w : World) : (isAgg 138).run Tryz.prog w = .ok true w := rfl
theorem Kb8 : FA Tryz.prog 132 1 1 := fun g o w => by kernel_rfl
theorem Kb1 (w : World) : (isAgg 129).run Tryz.prog w = .ok false w := rfl
theorem Kim (w : World) : (isAgg 132).run Tryz.prog w = .ok true w := rfl
theorem Kum (A0 : Option Addr) (c0 : Nat) (l : List Rs) (w : World) (hr : Kd w w.heap.size 17 A0 l.length (Kb Rs.cells l)) (hl1 : l.length <= 100000) :
  Calls Tryz.prog 109 #[.slice A0 l.length c0] w fun e w' => e = .returned (.int .i64 (Kf l)) /\ Below w.heap.size w w' := by
 refine Kj Tryz.func109 rfl rfl rfl ?_ (Pm.start w);refine zSG (TL.as_ ?_);refine zET (zSG (TL.as_ ?_));refine zET (zS (zSG (TL.mv ?_)));refine TL.v (gN Tryz.underlying27) ?_;refine TL.mv ?_;refine zET (zB (TC.lp (α := {y : Nat × Int // y.1 <= l.length /\ Kf (l.take y.1) = y.2}) [2, 6, 7] rfl (fun y => [(8, .int .i64 ((y.1.1 : Nat) : Int)), (3, .int .i64 y.1.2)]) (fun y => Pm w []) (fun y => l.length - y.1.1) (⟨(0, 0), Nat.zero_le _, rfl⟩) (fun w1 hw => hw) ?_));rintro ⟨⟨i, en⟩, hi, hst⟩;dsimp only at hi hst ⊢;refine zSG ?_;refine TL.vw rfl (Ke rfl rfl rfl (fun w => Kr w)) (fun h9 => ?_) (fun h9 => ?_)
 ·have q9 := of_decide_eq_true h9;refine zET (zS (zc (zk (zT (zS (zB (zSG ?_)))))));have hi10 : i < l.length := by omega
  obtain ⟨x10, hx10⟩ := Kq hi10;obtain ⟨b10, o10, hA10, hbb10, hc10⟩ := hr.ad (by omega) (by decide);refine TL.w rfl (gA (i := i) Tryz.underlying27 KG rfl rfl rfl rfl hA10 (by omega)) ?_;refine TL.v (gR KQ Kae KG hbb10 hx10 hc10) ?_;refine TL.al KeN fun g5 => ?_;refine TL.pstore (k := 0) (vs := x10.cells) rfl rfl rfl rfl rfl rfl rfl KG (KQ.one _) (by show 17 <= 17; decide) (L' := [.blk g5 76 x10.cells]) rfl ?_;refine zET (zSG (TL.mv ?_));refine TL.sp KK (fun q13 => ?_) (fun q13 => ?_)
  ·refine TL.rn 7 rfl (TL.ov (gV 0 (.agg (x10.cells).toArray) Kae KG) ?_);refine TL.gu ?_;refine TL.pS rfl KmB (fun w1 hw => KjB x10 w1) (fun h22 => ?_) (fun h22 => ?_)
   ·refine TL.pk ?_;refine zET (zc (zG (TL.v (gF Kbr) ?_)));refine TL.v (gL 0 Ks) ?_;refine TL.as_ ?_;refine zE (zN (zT (zG (TL.v (gD ((i + 1 : Nat) : Int)) ?_))));refine TL.mv ?_;refine zE ?_;exact TX.rd (⟨(i + 1, x10.ttl), by dsimp only; omega, by rw [KeU hx10 hst, if_pos (by simp [KcS, q9, q13, h22])]⟩) (by show l.length - (i + 1) < l.length - i; omega) (fun w1 hw => hw.pk [])
   refine TL.pk ?_;refine zET (zd (zk (zN (zT (zG (TL.v (gD ((i + 1 : Nat) : Int)) ?_))))));refine TL.mv ?_;refine zE ?_;exact TX.rd (⟨(i + 1, en), by dsimp only; omega, by rw [KeU hx10 hst, if_neg (by simp [KcS, q9, q13, h22])]⟩) (by show l.length - (i + 1) < l.length - i; omega) (fun w1 hw => hw.pk [])
  refine TL.mv ?_;refine TL.ov (gF Kbr) ?_;refine TL.ov (gL 0 Ks) ?_;refine TL.rn 1 rfl (TL.gu ?_);refine TL.sp Kr (fun q18 => ?_) (fun q18 => ?_)
  ·refine TL.rn 2 rfl (TL.ov (gV 0 (.agg (x10.cells).toArray) Kae KG) ?_);refine TL.gu ?_;refine TL.pS rfl KmB (fun w1 hw => KjB x10 w1) (fun h22 => ?_) (fun h22 => ?_)
   ·refine TL.pk ?_;refine zET (zc (zG (TL.v (gF Kbr) ?_)));refine TL.v (gL 0 Ks) ?_;refine TL.as_ ?_;refine zE (zN (zT (zG (TL.v (gD ((i + 1 : Nat) : Int)) ?_))));refine TL.mv ?_;refine zE ?_;exact TX.rd (⟨(i + 1, x10.ttl), by dsimp only; omega, by rw [KeU hx10 hst, if_pos (by simp [KcS, q9, q13, q18, h22])]⟩) (by show l.length - (i + 1) < l.length - i; omega) (fun w1 hw => hw.pk [])
   refine TL.pk ?_;refine zET (zd (zk (zN (zT (zG (TL.v (gD ((i + 1 : Nat) : Int)) ?_))))));refine TL.mv ?_;refine zE ?_;exact TX.rd (⟨(i + 1, en), by dsimp only; omega, by rw [KeU hx10 hst, if_neg (by simp [KcS, q9, q13, q18, h22])]⟩) (by show l.length - (i + 1) < l.length - i; omega) (fun w1 hw => hw.pk [])
  refine TL.rn 5 rfl (zET (zd (zk (zN (zT (zG (TL.v (gD ((i + 1 : Nat) : Int)) ?_)))))));refine TL.mv ?_;refine zE ?_;exact TX.rd (⟨(i + 1, en), by dsimp only; omega, by rw [KeU hx10 hst, if_neg (by simp [KcS, q9, q13, q18])]⟩) (by show l.length - (i + 1) < l.length - i; omega) (fun w1 hw => hw.pk [])
 have q9 := of_decide_eq_false h9;refine zET (zS (zd (zx (zX (zX (zM (zT (zSG (TL.rn 2 rfl (zET (zr ?_)))))))))));have hE : Kf l = en := by rw [List.take_of_length_le (by omega)] at hst; exact hst
 exact Kg Tryz.results109 rfl (fun w1 hw => ⟨by rw [hE], hw.bel⟩)
theorem KpA (A0 : Option Addr) (c0 : Nat) (l : List Rs) (w : World) (hr : Kd w w.heap.size 17 A0 l.length (Kb Rs.cells l)) (hl1 : l.length <= 100000) (hok : ∀ r ∈ l, r.Ok) :
  Calls Tryz.prog 55 #[.slice A0 l.length c0] w fun e w' => ∃ x : {y : (Nat × Obj) × (Nat × Obj) // KM (fun s : Spot => Value.agg s.cells.toArray) Spot.Ok y.1.2 (fun s => ((Kh l).1 s).map (Value.int .u32)) /\ KM (fun s : Spot => Value.agg s.cells.toArray) Spot.Ok y.2.2 (fun s => ((Kh l).2 s).map (Value.int .i64))}, e = .returned (.agg #[.int .i64 (Kf l), .map (some x.1.1.1), .map (some x.1.2.1)]) /\ Pm w [.oth x.1.1.1 x.1.1.2, .oth x.1.2.1 x.1.2.2] w' := by
 refine Kj Tryz.func55 rfl rfl rfl ?_ (Pm.start w);refine zSG ?_;refine TL.al Kg2 fun g2 => ?_;refine zET (zSG (TL.mv ?_));refine TL.p1 rfl KrL (fun w1 hw => Kum A0 c0 l w1 (hr.up hw.bel) hl1) ?_;refine TL.mkmap rfl rfl rfl rfl (fun ga hga => ?_);refine TL.mkmap rfl rfl rfl rfl (fun gs hgs => ?_);refine TL.w rfl (Kt (v := .agg #[.int .i64 (Kf l), .map (some ga), .map (some gs)]) rfl rfl (fun w => Krr _ _ _ w)) ?_;refine TL.al Kg2 fun g3 => ?_;refine TL.ps 0 KdE ?_;refine zET (zS (zSG (TL.mv ?_)));refine TL.v (gN Tryz.underlying27) ?_;refine TL.mv ?_;refine zET (zB (TC.lp (α := {y : Nat × (Obj × Obj) // y.1 <= l.length /\ ∃ fa fs, Kav (Kf l) (l.take y.1) = (fa, fs) /\ KM (fun s : Spot => Value.agg s.cells.toArray) Spot.Ok y.2.1 (fun s => (fa s).map (Value.int .u32)) /\ KM (fun s : Spot => Value.agg s.cells.toArray) Spot.Ok y.2.2 (fun s => (fs s).map (Value.int .i64))}) [2, 3, 13, 14] rfl (fun y => [(15, .int .i64 ((y.1.1 : Nat) : Int))]) (fun y => Pm w [.blk g3 132 [.int .i64 (Kf l), .map (some ga), .map (some gs)], .oth gs y.1.2.2, .oth ga y.1.2.1, .blk g2 132 [.int .i64 0, .map none, .map none]]) (fun y => l.length - y.1.1) (⟨(0, (.map #[] 0, .map #[] 0)), Nat.zero_le _, _, _, rfl, KiA _ _, KiA _ _⟩) (fun w1 hw => hw) ?_));rintro ⟨⟨i, oa, os⟩, hi, fa, fs, hst, hma, hms⟩;dsimp only at hi hst hma hms ⊢;refine zSG ?_;refine TL.sp Kr (fun q16 => ?_) (fun q16 => ?_)
 ·refine zET (zS (zc (zk (zT (zS (zB (zSG ?_)))))));have hi17 : i < l.length := by omega
  obtain ⟨x17, hx17⟩ := Kq hi17;obtain ⟨b17, o17, hA17, hbb17, hc17⟩ := hr.ad (by omega) (by decide);refine TL.w rfl (gA (i := i) Tryz.underlying27 KG rfl rfl rfl rfl hA17 (by omega)) ?_;refine TL.v (gR KQ Kae KG hbb17 hx17 hc17) ?_;refine TL.al KeN fun g5 => ?_;refine TL.pstore (k := 0) (vs := x17.cells) rfl rfl rfl rfl rfl rfl rfl KG (KQ.one _) (by show 17 <= 17; decide) (L' := [.blk g5 76 x17.cells, .blk g3 132 [.int .i64 (Kf l), .map (some ga), .map (some gs)], .oth gs os, .oth ga oa, .blk g2 132 [.int .i64 0, .map none, .map none]]) rfl ?_;refine zET (zS (zSG (TL.v (gV 0 (.agg (x17.cells).toArray) Kae KG) ?_)));refine TL.pS rfl KlJ (fun w1 hw => Kjv x17 w1) (fun h20 => ?_) (fun h20 => ?_)
  ·refine TL.rn 2 rfl (TL.ov (gF KhN) ?_);refine TL.ov (gL 1 Ks) ?_;refine TL.gu ?_;refine TL.sp KC (fun q25 => ?_) (fun q25 => ?_)
   ·refine TL.rn 1 rfl (TL.ov (gF Kbr) ?_);refine TL.ov (gL 0 Ks) ?_;refine TL.ov (gF KhN) ?_;refine TL.ov (gL 1 Ks) ?_;refine TL.gu ?_;refine TL.sp KC (fun q31 => ?_) (fun q31 => ?_)
    ·refine TL.rn 2 rfl (zET (zc (zx (zX (zM (zT (zG (TL.v (gD ((i + 1 : Nat) : Int)) ?_))))))));refine TL.mv ?_;refine zE ?_;exact TX.rd (⟨(i + 1, (oa, os)), by dsimp only; omega, _, _, Kmg hx17 hst (by simp [KW, q16, h20, q25, q31]), hma, hms⟩) (by show l.length - (i + 1) < l.length - i; omega) (fun w1 hw => hw.pk [1, 2, 3, 4])
    refine TL.rn 2 rfl (zET (zd (zk (zT (zSG (TL.v (gF KdH) ?_))))));refine TL.v (gL 0 Ks) ?_;refine TL.v (gF Kbr) ?_;refine TL.v (gL 0 Ks) ?_;refine TL.w rfl (Kt (v := .agg #[.int .i64 x17.flow, .int .i64 x17.ttl]) rfl rfl (fun w => Ke0 _ _ w)) ?_;refine TL.al Kfl fun g6 => ?_;refine TL.ps 0 Kah ?_;refine zET (zSG (TL.v (gF Kbq) ?_));refine TL.v (gL 2 Kbv) ?_;refine TL.v (gV 0 (.agg #[.int .i64 x17.flow, .int .i64 x17.ttl]) KaD Kah) ?_;refine TL.w rfl (KcF (v := .int .i64 ((fs (⟨x17.flow, x17.ttl⟩ : Spot)).getD 0)) rfl rfl rfl Kaa Tryz.underlying130 (fun w => rfl) (i := 3) rfl hms.toG (KaT hx17 h20 hok) (by cases h9 : fs (⟨x17.flow, x17.ttl⟩ : Spot) <;> rfl)) ?_;refine TL.as_ ?_;refine zET (zB (zSG (TL.v (gF KbS) ?_)));refine TL.vw rfl (gL 1 KaB) (fun h45 => ?_) (fun h45 => ?_)
    ·refine TL.rn 2 rfl (zET (zd (zSG (TL.mv ?_))));refine TL.sp KbJ (fun q54 => ?_) (fun q54 => ?_)
     ·refine TL.as_ ?_;refine zET (zc (TC.hd 11 (Pm w [.blk g6 138 [.int .i64 x17.flow, .int .i64 x17.ttl], .blk g5 76 x17.cells, .blk g3 132 [.int .i64 (Kf l), .map (some ga), .map (some gs)], .blk g2 132 [.int .i64 0, .map none, .map none]]) (fun w1 hw => hw.pk [0, 1, 2, 5]) fun jS => ?_));refine TH.t 0 rfl (gF Kbq) jS ?_;refine TH.t 1 rfl (gL 2 Kbv) jS ?_;refine TH.t 2 rfl (gV 0 (.agg #[.int .i64 x17.flow, .int .i64 x17.ttl]) KaD Kah) jS ?_;refine TH.t 3 rfl (gF Kb8) jS ?_;refine TH.t 4 rfl (gL 2 Kb1) jS ?_;refine TH.t 5 rfl (gV 0 (.agg #[.int .i64 x17.flow, .int .i64 x17.ttl]) KaD Kah) jS ?_;refine TH.t 6 rfl (gF Kas) jS ?_;refine TH.t 7 rfl (gF KcQ) jS ?_;refine TH.t 8 rfl (gL 1 Kab) jS ?_;refine TH.o 9 ?_;refine TL.mapsetR (i := 3) (a := (⟨x17.flow, x17.ttl⟩ : Spot)) rfl rfl rfl rfl rfl rfl Kaa Tryz.underlying130 rfl hgs hms (KaT hx17 h20 hok) (fun os2 hms2 => ?_);rw [KbP] at hms2
      try dsimp only [List.set_cons_zero, List.set_cons_succ]
      refine zE ?_;refine TX.held (fun w1 hw => hw.pk [0, 1, 2, 5]) ?_;refine TH.o 10 ?_;refine TL.mapsetR (i := 4) (a := (⟨x17.flow, x17.ttl⟩ : Spot)) rfl rfl rfl rfl rfl rfl Kaa Tryz.underlying129 rfl hga hma (KaT hx17 h20 hok) (fun oa2 hma2 => ?_);rw [KbP] at hma2
      try dsimp only [List.set_cons_zero, List.set_cons_succ]
      refine zE ?_;refine TX.held (fun w1 hw => hw.pk [0, 1, 2, 5]) ?_;refine TH.done (by kernel_rfl) ?_;refine zN (zN (zT (zG (TL.v (gD ((i + 1 : Nat) : Int)) ?_))));refine TL.mv ?_;refine zE ?_;exact TX.rd (⟨(i + 1, (oa2, os2)), by dsimp only; omega, _, _, Kjr hx17 hst (by simp [KW, q16, h20, q25, q31]) h45 q54, hma2, hms2⟩) (by show l.length - (i + 1) < l.length - i; omega) (fun w1 hw => hw.pk [2, 3, 4, 5])
     refine TL.as_ ?_;refine zET (zd (zS (TC.quietQ (by kernel_rfl) (by kernel_rfl) (fun w hw => hw.drawn _) ?_)));refine TQ.w rfl (Ky rfl rfl) ?_;refine TQ.sp KK (fun q66 => ?_) (fun q66 => ?_)
     ·refine TQ.w rfl (Ky rfl rfl) ?_;refine TQ.ov (gF Kb8) ?_;refine TQ.ov (gL 2 Kb1) ?_;refine TQ.ov (gV 0 (.agg #[.int .i64 x17.flow, .int .i64 x17.ttl]) KaD Kah) ?_;refine TQ.on rfl rfl rfl ?_;refine TQ.w rfl (KcF (v := .int .u32 ((fa (⟨x17.flow, x17.ttl⟩ : Spot)).getD 0)) rfl rfl rfl Kaa Tryz.underlying129 (fun w => rfl) (i := 4) rfl hma.toG (KaT hx17 h20 hok) (by cases h9 : fa (⟨x17.flow, x17.ttl⟩ : Spot) <;> rfl)) ?_;refine TQ.ov (gF Kas) ?_;refine TQ.ov (gF KcQ) ?_;refine TQ.ov (gL 1 Kab) ?_;refine TQ.on rfl rfl rfl ?_;refine TQ.sp Kau (fun q75 => ?_) (fun q75 => ?_)
      ·refine TQ.rn 2 rfl ?_;refine TQ.fin ?_;refine zT (zc (TC.hd 8 (Pm w [.blk g6 138 [.int .i64 x17.flow, .int .i64 x17.ttl], .blk g5 76 x17.cells, .blk g3 132 [.int .i64 (Kf l), .map (some ga), .map (some gs)], .blk g2 132 [.int .i64 0, .map none, .map none]]) (fun w1 hw => hw.pk [0, 1, 2, 5]) fun jS => ?_));refine TH.t 0 rfl (gF Kbq) jS ?_;refine TH.t 1 rfl (gL 2 Kbv) jS ?_;refine TH.t 2 rfl (gV 0 (.agg #[.int .i64 x17.flow, .int .i64 x17.ttl]) KaD Kah) jS ?_;refine TH.t 3 rfl (gF Kb8) jS ?_;refine TH.t 4 rfl (gL 2 Kb1) jS ?_;refine TH.t 5 rfl (gV 0 (.agg #[.int .i64 x17.flow, .int .i64 x17.ttl]) KaD Kah) jS ?_;refine TH.o 6 ?_;refine TL.mapsetR (i := 3) (a := (⟨x17.flow, x17.ttl⟩ : Spot)) rfl rfl rfl rfl rfl rfl Kaa Tryz.underlying130 rfl hgs hms (KaT hx17 h20 hok) (fun os2 hms2 => ?_);rw [KbP] at hms2
       try dsimp only [List.set_cons_zero, List.set_cons_succ]
       refine zE ?_;refine TX.held (fun w1 hw => hw.pk [0, 1, 2, 5]) ?_;refine TH.o 7 ?_;refine TL.mapsetR (i := 4) (a := (⟨x17.flow, x17.ttl⟩ : Spot)) rfl rfl rfl rfl rfl rfl Kaa Tryz.underlying129 rfl hga hma (KaT hx17 h20 hok) (fun oa2 hma2 => ?_);rw [KbP] at hma2
       try dsimp only [List.set_cons_zero, List.set_cons_succ]
       refine zE ?_;refine TX.held (fun w1 hw => hw.pk [0, 1, 2, 5]) ?_;refine TH.done (by kernel_rfl) ?_;refine zN (zN (zT (zG (TL.v (gD ((i + 1 : Nat) : Int)) ?_))));refine TL.mv ?_;refine zE ?_;exact TX.rd (⟨(i + 1, (oa2, os2)), by dsimp only; omega, _, _, KkB hx17 hst (by simp [KW, q16, h20, q25, q31]) h45 q66 q75, hma2, hms2⟩) (by show l.length - (i + 1) < l.length - i; omega) (fun w1 hw => hw.pk [2, 3, 4, 5])
      refine TQ.rn 2 rfl ?_;refine TQ.fin ?_;refine zT (zd (zk (zN (zN (zT (zG (TL.v (gD ((i + 1 : Nat) : Int)) ?_)))))));refine TL.mv ?_;refine zE ?_;exact TX.rd (⟨(i + 1, (oa, os)), by dsimp only; omega, _, _, Kgr hx17 hst (by simp [KW, q16, h20, q25, q31]) h45 q54 (by exact .inr q75), hma, hms⟩) (by show l.length - (i + 1) < l.length - i; omega) (fun w1 hw => hw.pk [2, 3, 4, 5])
     refine TQ.rn 11 rfl ?_;refine TQ.fin ?_;refine zT (zd (zk (zN (zN (zT (zG (TL.v (gD ((i + 1 : Nat) : Int)) ?_)))))));refine TL.mv ?_;refine zE ?_;exact TX.rd (⟨(i + 1, (oa, os)), by dsimp only; omega, _, _, Kgr hx17 hst (by simp [KW, q16, h20, q25, q31]) h45 q54 (by exact .inl q66), hma, hms⟩) (by show l.length - (i + 1) < l.length - i; omega) (fun w1 hw => hw.pk [2, 3, 4, 5])
    refine TL.rn 2 rfl (zET (zc (zG (TL.v (gF Kbq) ?_))));refine TL.v (gL 2 Kbv) ?_;refine TL.v (gV 0 (.agg #[.int .i64 x17.flow, .int .i64 x17.ttl]) KaD Kah) ?_;refine TL.mv ?_;refine TL.w rfl (Ket rfl rfl rfl) ?_;refine TL.mapsetR (i := 3) (a := (⟨x17.flow, x17.ttl⟩ : Spot)) rfl rfl rfl rfl rfl rfl Kaa Tryz.underlying130 rfl hgs hms (KaT hx17 h20 hok) (fun os2 hms2 => ?_);rw [KbP] at hms2
    try dsimp only [List.set_cons_zero, List.set_cons_succ]
    refine zE (zN (zN (zT (zG (TL.v (gD ((i + 1 : Nat) : Int)) ?_)))));refine TL.mv ?_;refine zE ?_;exact TX.rd (⟨(i + 1, (oa, os2)), by dsimp only; omega, _, _, Kmw hx17 hst (by simp [KW, q16, h20, q25, q31]) h45, hma, hms2⟩) (by show l.length - (i + 1) < l.length - i; omega) (fun w1 hw => hw.pk [2, 3, 4, 5])
   refine TL.rn 8 rfl (zET (zd (zk (zT (zSG (TL.v (gF KdH) ?_))))));refine TL.v (gL 0 Ks) ?_;refine TL.v (gF Kbr) ?_;refine TL.v (gL 0 Ks) ?_;refine TL.w rfl (Kt (v := .agg #[.int .i64 x17.flow, .int .i64 x17.ttl]) rfl rfl (fun w => Ke0 _ _ w)) ?_;refine TL.al Kfl fun g6 => ?_;refine TL.ps 0 Kah ?_;refine zET (zSG (TL.v (gF Kbq) ?_));refine TL.v (gL 2 Kbv) ?_;refine TL.v (gV 0 (.agg #[.int .i64 x17.flow, .int .i64 x17.ttl]) KaD Kah) ?_;refine TL.w rfl (KcF (v := .int .i64 ((fs (⟨x17.flow, x17.ttl⟩ : Spot)).getD 0)) rfl rfl rfl Kaa Tryz.underlying130 (fun w => rfl) (i := 3) rfl hms.toG (KaT hx17 h20 hok) (by cases h9 : fs (⟨x17.flow, x17.ttl⟩ : Spot) <;> rfl)) ?_;refine TL.as_ ?_;refine zET (zB (zSG (TL.v (gF KbS) ?_)));refine TL.vw rfl (gL 1 KaB) (fun h45 => ?_) (fun h45 => ?_)
   ·refine TL.rn 2 rfl (zET (zd (zSG (TL.mv ?_))));refine TL.sp KbJ (fun q54 => ?_) (fun q54 => ?_)
    ·refine TL.as_ ?_;refine zET (zc (TC.hd 11 (Pm w [.blk g6 138 [.int .i64 x17.flow, .int .i64 x17.ttl], .blk g5 76 x17.cells, .blk g3 132 [.int .i64 (Kf l), .map (some ga), .map (some gs)], .blk g2 132 [.int .i64 0, .map none, .map none]]) (fun w1 hw => hw.pk [0, 1, 2, 5]) fun jS => ?_));refine TH.t 0 rfl (gF Kbq) jS ?_;refine TH.t 1 rfl (gL 2 Kbv) jS ?_;refine TH.t 2 rfl (gV 0 (.agg #[.int .i64 x17.flow, .int .i64 x17.ttl]) KaD Kah) jS ?_;refine TH.t 3 rfl (gF Kb8) jS ?_;refine TH.t 4 rfl (gL 2 Kb1) jS ?_;refine TH.t 5 rfl (gV 0 (.agg #[.int .i64 x17.flow, .int .i64 x17.ttl]) KaD Kah) jS ?_;refine TH.t 6 rfl (gF Kas) jS ?_;refine TH.t 7 rfl (gF KcQ) jS ?_;refine TH.t 8 rfl (gL 1 Kab) jS ?_;refine TH.o 9 ?_;refine TL.mapsetR (i := 3) (a := (⟨x17.flow, x17.ttl⟩ : Spot)) rfl rfl rfl rfl rfl rfl Kaa Tryz.underlying130 rfl hgs hms (KaT hx17 h20 hok) (fun os2 hms2 => ?_);rw [KbP] at hms2
     try dsimp only [List.set_cons_zero, List.set_cons_succ]
     refine zE ?_;refine TX.held (fun w1 hw => hw.pk [0, 1, 2, 5]) ?_;refine TH.o 10 ?_;refine TL.mapsetR (i := 4) (a := (⟨x17.flow, x17.ttl⟩ : Spot)) rfl rfl rfl rfl rfl rfl Kaa Tryz.underlying129 rfl hga hma (KaT hx17 h20 hok) (fun oa2 hma2 => ?_);rw [KbP] at hma2
     try dsimp only [List.set_cons_zero, List.set_cons_succ]
     refine zE ?_;refine TX.held (fun w1 hw => hw.pk [0, 1, 2, 5]) ?_;refine TH.done (by kernel_rfl) ?_;refine zN (zN (zT (zG (TL.v (gD ((i + 1 : Nat) : Int)) ?_))));refine TL.mv ?_;refine zE ?_;exact TX.rd (⟨(i + 1, (oa2, os2)), by dsimp only; omega, _, _, Kjr hx17 hst (by simp [KW, q16, h20, q25]) h45 q54, hma2, hms2⟩) (by show l.length - (i + 1) < l.length - i; omega) (fun w1 hw => hw.pk [2, 3, 4, 5])
    refine TL.as_ ?_;refine zET (zd (zS (TC.quietQ (by kernel_rfl) (by kernel_rfl) (fun w hw => hw.drawn _) ?_)));refine TQ.w rfl (Ky rfl rfl) ?_;refine TQ.sp KK (fun q66 => ?_) (fun q66 => ?_)
    ·refine TQ.w rfl (Ky rfl rfl) ?_;refine TQ.ov (gF Kb8) ?_;refine TQ.ov (gL 2 Kb1) ?_;refine TQ.ov (gV 0 (.agg #[.int .i64 x17.flow, .int .i64 x17.ttl]) KaD Kah) ?_;refine TQ.on rfl rfl rfl ?_;refine TQ.w rfl (KcF (v := .int .u32 ((fa (⟨x17.flow, x17.ttl⟩ : Spot)).getD 0)) rfl rfl rfl Kaa Tryz.underlying129 (fun w => rfl) (i := 4) rfl hma.toG (KaT hx17 h20 hok) (by cases h9 : fa (⟨x17.flow, x17.ttl⟩ : Spot) <;> rfl)) ?_;refine TQ.ov (gF Kas) ?_;refine TQ.ov (gF KcQ) ?_;refine TQ.ov (gL 1 Kab) ?_;refine TQ.on rfl rfl rfl ?_;refine TQ.sp Kau (fun q75 => ?_) (fun q75 => ?_)
     ·refine TQ.rn 2 rfl ?_;refine TQ.fin ?_;refine zT (zc (TC.hd 8 (Pm w [.blk g6 138 [.int .i64 x17.flow, .int .i64 x17.ttl], .blk g5 76 x17.cells, .blk g3 132 [.int .i64 (Kf l), .map (some ga), .map (some gs)], .blk g2 132 [.int .i64 0, .map none, .map none]]) (fun w1 hw => hw.pk [0, 1, 2, 5]) fun jS => ?_));refine TH.t 0 rfl (gF Kbq) jS ?_;refine TH.t 1 rfl (gL 2 Kbv) jS ?_;refine TH.t 2 rfl (gV 0 (.agg #[.int .i64 x17.flow, .int .i64 x17.ttl]) KaD Kah) jS ?_;refine TH.t 3 rfl (gF Kb8) jS ?_;refine TH.t 4 rfl (gL 2 Kb1) jS ?_;refine TH.t 5 rfl (gV 0 (.agg #[.int .i64 x17.flow, .int .i64 x17.ttl]) KaD Kah) jS ?_;refine TH.o 6 ?_;refine TL.mapsetR (i := 3) (a := (⟨x17.flow, x17.ttl⟩ : Spot)) rfl rfl rfl rfl rfl rfl Kaa Tryz.underlying130 rfl hgs hms (KaT hx17 h20 hok) (fun os2 hms2 => ?_);rw [KbP] at hms2
      try dsimp only [List.set_cons_zero, List.set_cons_succ]
      refine zE ?_;refine TX.held (fun w1 hw => hw.pk [0, 1, 2, 5]) ?_;refine TH.o 7 ?_;refine TL.mapsetR (i := 4) (a := (⟨x17.flow, x17.ttl⟩ : Spot)) rfl rfl rfl rfl rfl rfl Kaa Tryz.underlying129 rfl hga hma (KaT hx17 h20 hok) (fun oa2 hma2 => ?_);rw [KbP] at hma2
      try dsimp only [List.set_cons_zero, List.set_cons_succ]
      refine zE ?_;refine TX.held (fun w1 hw => hw.pk [0, 1, 2, 5]) ?_;refine TH.done (by kernel_rfl) ?_;refine zN (zN (zT (zG (TL.v (gD ((i + 1 : Nat) : Int)) ?_))));refine TL.mv ?_;refine zE ?_;exact TX.rd (⟨(i + 1, (oa2, os2)), by dsimp only; omega, _, _, KkB hx17 hst (by simp [KW, q16, h20, q25]) h45 q66 q75, hma2, hms2⟩) (by show l.length - (i + 1) < l.length - i; omega) (fun w1 hw => hw.pk [2, 3, 4, 5])
     refine TQ.rn 2 rfl ?_;refine TQ.fin ?_;refine zT (zd (zk (zN (zN (zT (zG (TL.v (gD ((i + 1 : Nat) : Int)) ?_)))))));refine TL.mv ?_;refine zE ?_;exact TX.rd (⟨(i + 1, (oa, os)), by dsimp only; omega, _, _, Kgr hx17 hst (by simp [KW, q16, h20, q25]) h45 q54 (by exact .inr q75), hma, hms⟩) (by show l.length - (i + 1) < l.length - i; omega) (fun w1 hw => hw.pk [2, 3, 4, 5])
    refine TQ.rn 11 rfl ?_;refine TQ.fin ?_;refine zT (zd (zk (zN (zN (zT (zG (TL.v (gD ((i + 1 : Nat) : Int)) ?_)))))));refine TL.mv ?_;refine zE ?_;exact TX.rd (⟨(i + 1, (oa, os)), by dsimp only; omega, _, _, Kgr hx17 hst (by simp [KW, q16, h20, q25]) h45 q54 (by exact .inl q66), hma, hms⟩) (by show l.length - (i + 1) < l.length - i; omega) (fun w1 hw => hw.pk [2, 3, 4, 5])
   refine TL.rn 2 rfl (zET (zc (zG (TL.v (gF Kbq) ?_))));refine TL.v (gL 2 Kbv) ?_;refine TL.v (gV 0 (.agg #[.int .i64 x17.flow, .int .i64 x17.ttl]) KaD Kah) ?_;refine TL.mv ?_;refine TL.w rfl (Ket rfl rfl rfl) ?_;refine TL.mapsetR (i := 3) (a := (⟨x17.flow, x17.ttl⟩ : Spot)) rfl rfl rfl rfl rfl rfl Kaa Tryz.underlying130 rfl hgs hms (KaT hx17 h20 hok) (fun os2 hms2 => ?_);rw [KbP] at hms2
   try dsimp only [List.set_cons_zero, List.set_cons_succ]
   refine zE (zN (zN (zT (zG (TL.v (gD ((i + 1 : Nat) : Int)) ?_)))));refine TL.mv ?_;refine zE ?_;exact TX.rd (⟨(i + 1, (oa, os2)), by dsimp only; omega, _, _, Kmw hx17 hst (by simp [KW, q16, h20, q25]) h45, hma, hms2⟩) (by show l.length - (i + 1) < l.length - i; omega) (fun w1 hw => hw.pk [2, 3, 4, 5])
  refine TL.rn 6 rfl ?_;refine TL.offU rfl rfl rfl rfl rfl ?_;refine TL.offU rfl rfl rfl rfl rfl ?_;refine TL.offU rfl rfl rfl rfl rfl ?_;refine TL.offU rfl rfl rfl rfl rfl ?_;refine TL.offU rfl rfl rfl rfl rfl ?_;refine TL.rn 2 rfl (zET (zc (zx (zX (zM (zT (zG (TL.v (gD ((i + 1 : Nat) : Int)) ?_))))))));refine TL.mv ?_;refine zE ?_;exact TX.rd (⟨(i + 1, (oa, os)), by dsimp only; omega, _, _, Kmg hx17 hst (by simp [KW, q16, h20]), hma, hms⟩) (by show l.length - (i + 1) < l.length - i; omega) (fun w1 hw => hw.pk [1, 2, 3, 4])
 refine zET (zS (zd (zx (zX (zX (zM (zT (zSG (TL.v (gV 0 (.agg #[.int .i64 (Kf l), .map (some ga), .map (some gs)]) Kim KdE) ?_)))))))));refine TL.ps 3 KdE ?_;refine zET (zr ?_);rw [List.take_of_length_le (by omega)] at hst;have e1 : fa = (Kh l).1 := by show fa = (Kav (Kf l) l).1; rw [hst]
 have e2 : fs = (Kh l).2 := by show fs = (Kav (Kf l) l).2; rw [hst]
 subst e1 e2;exact Kbx (k := 3) Tryz.results55 rfl rfl Tryz.underlying132 rfl rfl (fun w1 hw => ⟨⟨((ga, oa), (gs, os)), hma, hms⟩, rfl, hw.pick [2, 1] (by decide) rfl⟩)
set_option maxRecDepth 20000
section
variable {P : Program} {N : Fr} {E : Env} {w0 : Base} {L : List Pc} {o : Oper} {κ : Type} {enc : κ -> Value} {Ok : κ -> Prop} {t k e : TypeId}
theorem Kqo {x y : Operand} {g : Nat} {ob : Obj} {f : κ -> Option Value} {a : κ} {z : Value} (ho : o.op = .lookup t x y false) (hx : ev E x = some (.map (some g))) (hy : ev E y = some (enc a)) (K : MKey P k enc Ok) (ht : P.underlying t = some (.map k e)) (hz : ∀ w : World, (zeroValue e).run P w = .ok z w) (hg : w0.w.heap[g]? = some ob) (hm : K8 enc Ok ob f) (ha : Ok a) {v : Value} (hv : (f a).getD z = v) :
  Kv P N o E (Pm w0 L) v := fun ac w hac hw => by
 have hnc : ob.isCells = false := by obtain ⟨_, _, he, _⟩ := hm; rw [he]; rfl
 unfold execOp; rw [ho];subst hv;simp [hac.eval hx, hac.eval hy, hm.look K ht hz (hw.oth.same g ob hg hnc) ha false]
end
def KaP (fs : Spot -> Option Int) (flow ttl : Int) : Bool := decide ((fs ⟨flow, ttl⟩).getD 0 = 2) || decide ((fs ⟨flow, ttl⟩).getD 0 = 1)
def KmU (fa fs : Spot -> Option Int) (flow : Int) (z i : Nat) (o : List Int) : Prop := o = (List.range i).map (fun (j : Nat) => (fa ⟨flow, ((j + 1 : Nat) : Int)⟩).getD 0) /\ ∀ j : Nat, j < i -> KaP fs flow ((j + 1 : Nat) : Int) = true
theorem PathF.nil {fa fs : Spot -> Option Int} {flow : Int} {z : Nat} : KmU fa fs flow z 0 [] := ⟨rfl, fun j hj => absurd hj (Nat.not_lt_zero _)⟩
def Khv (l : List Rs) (flow : Int) (o : List Int) : Prop := ∃ i : Nat, KmU (Kh l).1 (Kh l).2 flow 0 i o /\ KaP (Kh l).2 flow ((i + 1 : Nat) : Int) = false
theorem Khv.eq {l : List Rs} {flow : Int} {o o' : List Int} (h : Khv l flow o) (h' : Khv l flow o') : o = o' := by
 obtain ⟨i, ⟨h1, h2⟩, h3⟩ := h;obtain ⟨i', ⟨h4, h5⟩, h6⟩ := h'
 have : i = i' := by
  rcases Nat.lt_trichotomy i i' with h7 | h7 | h7
  ·have := h5 i h7; rw [h3] at this; cases this
  ·exact h7
  have := h2 i' h7; rw [h6] at this; cases this
 subst this;rw [h1, h4]
theorem Kfm {e : Int} : ∀ (l : List Rs) (p : (Spot -> Option Int) × (Spot -> Option Int)) (s : Spot), (l.foldl (K4 e) p).2 s ≠ none -> p.2 s ≠ none \/ ∃ r ∈ l, KW e r = true /\ KF r = s
 | [], p, s, h => .inl h
 | r :: l, p, s, h => by
  rcases Kfm l (K4 e p r) s h with h1 | ⟨r', h2, h3⟩
  ·by_cases hu : KW e r = true
   ·by_cases hs : KF r = s
    ·exact .inr ⟨r, List.mem_cons_self, hu, hs⟩
    refine .inl ?_;have hn : ∀ (f : Spot -> Option Int) (v : Int), Kaq f (KF r) v s = f s := fun f v => if_neg fun h => hs h.symm;unfold K4 at h1;rw [if_pos hu] at h1;split at h1
    ·exact fun hh => h1 ((hn _ _).trans hh)
    split at h1
    ·exact fun hh => h1 ((hn _ _).trans hh)
    split at h1
    ·exact fun hh => h1 ((hn _ _).trans hh)
    exact h1
   unfold K4 at h1;rw [if_neg hu] at h1;exact .inl h1
  exact .inr ⟨r', List.mem_cons_of_mem _ h2, h3⟩
theorem Kpx {l : List Rs} {s : Spot} (h : ((Kh l).2 s).getD 0 ≠ 0) : ∃ r ∈ l, KW (Kf l) r = true /\ KF r = s := by
 have h1 : (Kh l).2 s ≠ none := fun e => h (by rw [e]; rfl);rcases Kfm l _ s h1 with h2 | h2
 ·exact absurd rfl h2
 exact h2
theorem KhW {e : Int} {r : Rs} (h : KW e r = true) : 0 <= r.flow /\ r.flow <= 1023 /\ 1 <= r.ttl /\ r.ttl <= 255 := by
 unfold KW KaX KE at h;simp only [Bool.and_eq_true, decide_eq_true_eq] at h;have hr : r.inRange := Decidable.by_contra fun h1 => by have := Kne h1; omega
 obtain ⟨a1, a2, a3, a4, a5, a6, a7, a8, a9, a10, a11, a12, a13, a14, a15⟩ := hr;exact ⟨a12, a13, a14, a15⟩
theorem KuP (en : Int) (ga gs : Nat) (os : Obj) (fs : Spot -> Option Int) (flow ttl : Int) (w : World) (hgs : w.heap[gs]? = some os) (hmgs : KM (fun s : Spot => Value.agg s.cells.toArray) Spot.Ok os (fun s => (fs s).map (Value.int .i64))) (hk : (⟨flow, ttl⟩ : Spot).Ok) :
  Calls Tryz.prog 57 #[.agg #[.int .i64 en, .map (some ga), .map (some gs)], .int .i64 flow, .int .i64 ttl] w fun e w' => e = .returned (.bool (KaP fs flow ttl)) /\ Below w.heap.size w w' := by
 refine Kj Tryz.func57 rfl rfl rfl ?_ (Pm.start w);refine zSG ?_;refine TL.bx fun g3 => ?_;refine TL.as_ ?_;refine zET (zSG (TL.v (gF Kbq) ?_));refine TL.v (gL 0 Kbv) ?_;refine TL.rn 2 rfl ?_;refine TL.w rfl (Kt (v := .agg #[.int .i64 flow, .int .i64 ttl]) rfl rfl (fun w => Ke0 _ _ w)) ?_;refine TL.w rfl (Kqo (a := (⟨flow, ttl⟩ : Spot)) (v := .int .i64 ((fs (⟨flow, ttl⟩ : Spot)).getD 0)) rfl rfl rfl Kaa Tryz.underlying130 (fun w => rfl) hgs hmgs.toG hk (by cases h9 : fs (⟨flow, ttl⟩ : Spot) <;> rfl)) ?_;refine TL.as_ ?_;refine zET (zSG (TL.mv ?_));refine TL.sp KK (fun q15 => ?_) (fun q15 => ?_)
 ·refine TL.rn 5 rfl (zET (zr ?_));have hE : (KaP fs flow ttl) = true := (by simp [KaP, q15]);exact Kg Tryz.results57 rfl (fun w1 hw => ⟨by rw [hE]; try rfl, hw.bel⟩)
 refine TL.rn 2 rfl (TL.gu ?_);refine TL.sp KK (fun q18 => ?_) (fun q18 => ?_)
 ·refine TL.rn 2 rfl (zET (zr ?_));have hE : (KaP fs flow ttl) = true := (by simp [KaP, q15, q18]);exact Kg Tryz.results57 rfl (fun w1 hw => ⟨by rw [hE]; try rfl, hw.bel⟩)
 refine TL.rn 2 rfl (zET (zr ?_));have hE : (KaP fs flow ttl) = false := (by simp [KaP, q15, q18]);exact Kg Tryz.results57 rfl (fun w1 hw => ⟨by rw [hE]; try rfl, hw.bel⟩)
set_option maxRecDepth 20000
theorem Kru {α : Type} {l : List α} {i : Nat} {x : α} {p : α -> Bool} (hx : l[i]? = some x) (h : p x = true) : l.any p = true := List.any_eq_true.2 ⟨x, List.mem_of_getElem? hx, h⟩
theorem map_some {κ : Type} {f : κ -> Option Int} {a : κ} {q : IntKind} {v : Value} (h : (f a).map (Value.int q) = some v) : ∃ k, f a = some k /\ v = .int q k := by
 cases hf : f a with
 | none => rw [hf] at h; cases h
 | some k => rw [hf] at h; cases h; exact ⟨k, rfl, rfl⟩
def Kb0 (l : List Rs) (fs : Spot -> Option Int) (e : Int) : Prop :=
 (e = 1 /\ (l.any fun r => !KE r) = true) \/ ((l.any fun r => !KE r) = false /\ ∃ o, Kcb l o /\ ((e = 5 /\ 512 < o.length) \/ (o.length <= 512 /\ ∃ tr, Kak l tr /\ ((e = 35 /\ 1 < tr.length) \/ (tr.length <= 1 /\ ((e = 30 /\ ∃ s, fs s = some 3) \/ (e = 0 /\ ¬ ∃ s, fs s = some 3)))))))
theorem KtV (r : Rs) (w : World) :
  Calls Tryz.prog 111 #[.agg r.cells.toArray] w fun e w' => e = .returned (.bool (!KE r)) /\ Below w.heap.size w w' := by
 refine Kj Tryz.func111 rfl rfl rfl ?_ (Pm.start w);refine zSG ?_;refine TL.bx fun g1 => ?_;refine TL.as_ ?_;refine zET (zSG (TL.v (gV 0 (.agg (r.cells).toArray) Kae KG) ?_));refine TL.pS rfl o93 (fun w1 hw => KeL r w1) (fun h4 => ?_) (fun h4 => ?_)
 ·refine TL.rn 2 rfl (zET (zr ?_));have hE : (!KE r) = false := (by simp [Bool.not_eq_true, h4]);exact Kg Tryz.results111 rfl (fun w1 hw => ⟨by rw [hE]; try rfl, hw.bel⟩)
 refine TL.rn 2 rfl (zET (zr ?_));have hE : (!KE r) = true := (by simp [Bool.not_eq_true, h4]);exact Kg Tryz.results111 rfl (fun w1 hw => ⟨by rw [hE]; try rfl, hw.bel⟩)
theorem Kt6 (A0 : Option Addr) (c0 : Nat) (l : List Rs) (w : World) (hr : Kd w w.heap.size 17 A0 l.length (Kb Rs.cells l)) (hl1 : l.length <= 100000) :
  Calls Tryz.prog 138 #[.slice A0 l.length c0, .func (.func 111) #[] #[]] w fun e w' => ∃ x : {z : Int // (l.any fun r => !KE r) = decide (z >= 0)}, e = .returned (.int .i64 x.1) /\ Below w.heap.size w w' := by
 refine Kj Tryz.func138 rfl rfl rfl ?_ (Pm.start w);refine zSG (TL.as_ ?_);refine zET (zS (zSG (TL.mv ?_)));refine TL.v (gN Tryz.underlying27) ?_;refine TL.mv ?_;refine zET (zB ?_);refine TC.lp (α := {i : Nat // i <= l.length /\ ∀ r ∈ l.take i, KE r = true}) [0, 1, 7] rfl (fun y => [(8, .int .i64 ((y.1 : Nat) : Int))]) (fun y => Pm w []) (fun y => l.length - y.1) (⟨0, Nat.zero_le _, fun r hr => by rw [List.take_zero] at hr; cases hr⟩) (fun w1 hw => hw) ?_;rintro ⟨i, hi, hall⟩
 try dsimp only at hi hall ⊢
 refine zSG ?_;refine TL.vw rfl (Ke rfl rfl rfl (fun w => Kr w)) (fun h9 => ?_) (fun h9 => ?_)
 ·have q9 := of_decide_eq_true h9;refine zET (zS (zc (zk (zT (zS (zB (zSG (TL.rn 2 rfl (zET (zSG (TL.rn 3 rfl ?_)))))))))));have hi14 : i < l.length := by omega
  obtain ⟨x14, hx14⟩ := Kq hi14;obtain ⟨b14, o14, hA14, hbb14, hc14⟩ := hr.ad (by omega) (by decide);refine TL.w rfl (gA (i := i) Tryz.underlying27 KG rfl rfl rfl rfl hA14 (by omega)) ?_;refine TL.v (gR KQ Kae KG hbb14 hx14 hc14) ?_;obtain ⟨bv, hbv⟩ : ∃ b, (!KE x14) = b := ⟨_, rfl⟩;refine TL.callE1 (r := .bool bv) rfl rfl rfl (KdO rfl rfl rfl Tryz.func111 (by decide) rfl rfl) (fun w1 hw => by rw [<- hbv]; exact KtV x14 w1) ?_;refine zET ?_;refine TC.split (t := bv) rfl (fun c16 => ?_) (fun c16 => ?_)
  ·refine zSG (TL.rn 2 rfl (zET (zr (zRR (zR (zRR ?_))))));exact Kg Tryz.results138 rfl (fun w1 hw => ⟨⟨(i : Int), by rw [Kru hx14 (p := fun r => !KE r) (by rw [hbv]; exact c16)]; exact (decide_eq_true (by omega)).symm⟩, rfl, hw.bel⟩)
  refine zk (zN (zT (zG ?_)));refine TL.v (gD ((i + 1 : Nat) : Int)) ?_;refine TL.mv ?_;refine zE ?_;exact TX.rd (⟨i + 1, by omega, fun r hr => by rcases (KcA hx14).1 hr with h9 | h9; exact hall r h9; rw [h9]; have := hbv; rw [c16] at this; simpa using this⟩) (by show l.length - (i + 1) < l.length - i; omega) (fun w1 hw => hw)
 have q9 := of_decide_eq_false h9;refine zET (zS (zd (zx (zX (zX (zM (zT (zS ?_))))))));have hnone : l.length <= i -> (l.any fun r => !KE r) = false := fun h => by rw [List.take_of_length_le h] at hall; rw [List.any_eq_false]; intro r hr; rw [hall r hr]; decide
 refine zG (TL.as_ ?_);refine zET (zr ?_);exact Kg Tryz.results138 rfl (fun w1 hw => ⟨⟨-1, by rw [hnone (by omega)]; rfl⟩, rfl, hw.bel⟩)
theorem Kux (A0 : Option Addr) (c0 : Nat) (l : List Rs) (w : World) (hr : Kd w w.heap.size 17 A0 l.length (Kb Rs.cells l)) (hl1 : l.length <= 100000) :
  Calls Tryz.prog 91 #[.slice A0 l.length c0, .func (.func 111) #[] #[]] w fun e w' => e = .returned (.bool (l.any fun r => !KE r)) /\ Below w.heap.size w w' := by
 refine Kj Tryz.func91 rfl rfl rfl ?_ (Pm.start w);refine zSG (TL.as_ ?_);refine zET (zSG (TL.rn 2 rfl ?_));refine TL.pM (α := {z : Int // (l.any fun r => !KE r) = decide (z >= 0)}) (fun x => .int .i64 x.1) (fun x => []) rfl Kp6 (fun w1 hw => (Kt6 A0 c0 l w1 (hr.up hw.bel) hl1).mono fun en w2 ⟨x, h1, h2⟩ => ⟨x, h1, (Pm.start w1).below h2⟩) ?_;rintro ⟨z, hz⟩;dsimp only [lC, lN];refine TL.sp KO (fun q8 => ?_) (fun q8 => ?_)
 ·refine TL.as_ ?_;refine zET (zr ?_);exact Kg Tryz.results91 rfl (fun w1 hw => ⟨by rw [hz, decide_eq_true q8], hw.bel⟩)
 refine TL.as_ ?_;refine zET (zr ?_);exact Kg Tryz.results91 rfl (fun w1 hw => ⟨by rw [hz, decide_eq_false q8], hw.bel⟩)
theorem KoO (A0 : Option Addr) (c0 : Nat) (l : List Rs) (en : Int) (ga gs : Nat) (os : Obj) (fs : Spot -> Option Int) (w : World) (hr : Kd w w.heap.size 17 A0 l.length (Kb Rs.cells l)) (hl1 : l.length <= 100000) (hok : ∀ r ∈ l, r.Ok) (hgs : w.heap[gs]? = some os) (hmgs : KM (fun s : Spot => Value.agg s.cells.toArray) Spot.Ok os (fun s => (fs s).map (Value.int .i64))) :
  Calls Tryz.prog 56 #[.slice A0 l.length c0, .agg #[.int .i64 en, .map (some ga), .map (some gs)]] w fun e w' => ∃ x : {z : Int // Kb0 l fs z}, e = .returned (.int .i64 x.1) /\ Below w.heap.size w w' := by
 refine Kj Tryz.func56 rfl rfl rfl ?_ (Pm.start w);refine zSG ?_;refine TL.bx fun g3 => ?_;refine TL.as_ ?_;refine zET (zS (zSG (TL.mv ?_)));refine TL.pS rfl o91 (fun w1 hw => Kux A0 c0 l w1 (hr.up hw.bel) hl1) (fun h8 => ?_) (fun h8 => ?_)
 ·refine TL.w rfl (KbC rfl rfl) ?_;refine zET (zd (zk (zT (zSG (TL.as_ ?_)))));refine zET (zr ?_);have hE : Kb0 l fs 1 := .inl ⟨rfl, h8⟩;exact Kg Tryz.results56 rfl (fun w1 hw => ⟨⟨_, hE⟩, rfl, hw.bel⟩)
 refine TL.w rfl (KbC rfl rfl) ?_;refine zET (zc (zS (zB (zSG (TL.mv ?_)))));refine TL.pM _ _ rfl o94 (fun w1 hw => Ks0 A0 c0 l w1 (hr.up hw.bel) hl1 hok) ?_;rintro ⟨⟨⟨R12, rc12⟩, o12⟩, hP12, hR121, hR122⟩;dsimp only [lC, lN];dsimp only at hP12 hR121 hR122 ⊢;refine TL.v (gN Tryz.underlying27) ?_;refine TL.sp KC (fun q14 => ?_) (fun q14 => ?_)
 ·refine TL.as_ ?_;refine zET (zc (zSG (TL.as_ ?_)));refine zET (zr (zRR (zR ?_)));have hE : Kb0 l fs 5 := .inr ⟨h8, o12, hP12, .inl ⟨rfl, by omega⟩⟩;exact Kg Tryz.results56 rfl (fun w1 hw => ⟨⟨_, hE⟩, rfl, hw.bel⟩)
 refine TL.as_ ?_;refine zET (zd (zSG (TL.mv ?_)));refine TL.pM _ _ rfl o95 (fun w1 hw => KoH A0 c0 l w1 (hr.up hw.bel) hl1) ?_;rintro ⟨⟨⟨R17, rc17⟩, tr17⟩, hP17, hR171, hR172⟩;dsimp only [lC, lN];dsimp only at hP17 hR171 hR172 ⊢;refine TL.v (gN Tryz.underlying184) ?_;refine TL.sp KC (fun q19 => ?_) (fun q19 => ?_)
 ·refine TL.as_ ?_;refine zET (zc (zSG (TL.as_ ?_)));refine zET (zr (zRR (zR ?_)));have hE : Kb0 l fs 35 := .inr ⟨h8, o12, hP12, .inr ⟨by omega, tr17, hP17, .inl ⟨rfl, by omega⟩⟩⟩;exact Kg Tryz.results56 rfl (fun w1 hw => ⟨⟨_, hE⟩, rfl, hw.bel⟩)
 refine TL.as_ ?_;refine zET (zd (zk (zN (zT (zS (zSG (TL.v (gF Kbq) ?_)))))));refine TL.v (gL 2 Kbv) ?_;refine TL.rangeM rfl rfl rfl rfl rfl Tryz.underlying130 (fun w1 hw => hw.oth.same _ _ hgs hmgs.nc) hmgs (fun it oi n hit hI0 => ?_);refine zET (zB (TC.lp (α := {y : List (Spot × Value) × Obj // ItR (fun s : Spot => Value.agg s.cells.toArray) Spot.Ok gs os y.2 (fun s => (fs s).map (Value.int .i64)) n y.1 /\ ∀ p ∈ y.1, p.2 ≠ .int .i64 3}) [3, 22] rfl (fun y => []) (fun y => Pm w [.oth it y.1.2, .row (.slice R17 tr17.length rc17) 48 3 tr17.length (Kb Trc.cells tr17), .row (.slice R12 o12.length rc12) 76 17 o12.length (Kb Rs.cells o12), .blk g3 132 [.int .i64 en, .map (some ga), .map (some gs)]]) (fun y => n - y.1.1.length) (⟨([], oi), hI0, fun p hp => absurd hp List.not_mem_nil⟩) (fun w1 hw => hw) ?_));rintro ⟨⟨ds, oi1⟩, hI1, hds⟩;dsimp only at hI1 hds ⊢;refine zSG ?_;refine TL.nextM Kaa (j := 0) rfl rfl rfl rfl rfl (fun w1 hw => hw.oth.same _ _ hgs hmgs.nc) rfl hit hI1 (fun hall => ?_) (fun a v oi2 ha hfa hna hI2 hlt => ?_)
 ·have hno : ¬ ∃ s, fs s = some 3 := by
   rintro ⟨s, hs⟩;exact hds _ (hall s (.int .i64 3) (by simp [hs])) rfl
  refine TL.ex ?_;refine zET (zS (zd (zx (zX (zX (zM (zT (zSG (TL.as_ ?_)))))))));refine zET (zr (zR ?_));have hE : Kb0 l fs 0 := .inr ⟨h8, o12, hP12, .inr ⟨by omega, tr17, hP17, .inr ⟨by omega, .inr ⟨rfl, hno⟩⟩⟩⟩;exact Kg Tryz.results56 rfl (fun w1 hw => ⟨⟨_, hE⟩, rfl, hw.bel⟩)
 obtain ⟨kv, hfs, rfl⟩ := map_some hfa
 try dsimp only [List.set_cons_zero, List.set_cons_succ]
 refine TL.ex ?_;refine zET (zS (zc (zk (zT (zB (zSG ?_))))));refine TL.w rfl (Kfj (j := 0) rfl rfl (fun w1 hw => hw.oth.same _ _ hgs hmgs.nc) rfl hI2) ?_;refine TL.rn 2 rfl (zET (zSG (TL.mv ?_)));refine TL.sp KK (fun q28 => ?_) (fun q28 => ?_)
 ·refine zET (zc (zSG (TL.as_ ?_)));refine zET (zr (zRR (zRR (zR ?_))));have hE : Kb0 l fs 30 := .inr ⟨h8, o12, hP12, .inr ⟨by omega, tr17, hP17, .inr ⟨by omega, .inl ⟨rfl, a, by rw [hfs]; exact congrArg some (by omega)⟩⟩⟩⟩;exact Kg Tryz.results56 rfl (fun w1 hw => ⟨⟨_, hE⟩, rfl, hw.bel⟩)
 refine zET (zd (zk (zN ?_)));exact TX.rd (⟨(ds ++ [(a, .int .i64 kv)], oi2), hI2, fun p hp => by rcases List.mem_append.1 hp with h9 | h9; exact hds p h9; rw [List.mem_singleton.1 h9]; intro h10; injection h10 with _ h10; exact q28 h10⟩) (by show n - (ds ++ [(a, _)]).length < n - ds.length; rw [List.length_append]; show n - (ds.length + 1) < _; omega) (fun w1 hw => hw)
open Go Go.RowKit Go.Shelf Go.Sort
def Kcz (l l' : List Int) : Prop := l'.Perm l /\ l'.Pairwise (· <= ·)
theorem Kjf {b n cap : Nat} {A : Option Addr} {l : List Int} {w : World} (hr : w.ownsRow b 3 1 (.slice A n cap) n (Kb (ic .i64) l)) (hl : l.length = n) (hn : n <= 1000000) :
    Calls Tryz.prog 59 #[.slice A n cap] w fun en w' => en = .returned (.tuple #[]) /\ ∃ l', Kcz l l' /\ w'.ownsRow b 3 1 (.slice A n cap) n (Kb (ic .i64) l') /\ w.grownBy w' (Value.ownBlock (.slice A n cap)) := by
  rcases id hr.2 with ⟨hv, h0⟩ | ⟨q, cap', cur, hv, hb, hq, h1, h2, h3, h4⟩
  · cases hv;obtain rfl : l = [] := List.eq_nil_of_length_eq_zero (by omega);refine (AnyM.slices_Sort_int_none KmZ none 0 w).mono fun en w' ⟨h5, h6⟩ => ⟨h5, [], ⟨List.Perm.refl _, List.Pairwise.nil⟩, ?_, ?_⟩
    · rw [h6]; exact hr
    · rw [h6]; exact ⟨rfl, rfl, rfl, Nat.le_refl _, fun _ _ _ => rfl⟩
  · cases hv;subst hl;have hqs : q < w.heap.size := (Array.getElem?_eq_some_iff.1 hq).1;rw [Kam, Nat.mul_one] at h4;have hc := AnyM.slices_Sort_int KmZ q 0 cap l w (holds_of_blockI hq h4) hqs (by omega);refine Calls.mono hc ?_;rintro en w' ⟨h5, m, os, hw⟩;have hlen : (l.mergeSort fun x y => decide (x <= y)).length = l.length := List.length_mergeSort l;refine ⟨h5, l.mergeSort fun x y => decide (x <= y), ⟨List.mergeSort_perm _ _, ?_⟩, ?_, ?_⟩
    · have := List.pairwise_mergeSort (le := fun x y : Int => decide (x <= y)) (fun a b c h1 h2 => by simp only [decide_eq_true_eq] at *; exact Int.le_trans h1 h2) (fun a b => by simp only [Bool.or_eq_true, decide_eq_true_eq]; exact Int.le_total a b) l;exact this.imp fun h => of_decide_eq_true h
    · rw [hw, Kam];exact ownsRow_sortedI hlen hb hq h1 h2 h3
    · rw [hw]; exact grownBy_sortedI _
theorem Kmp {l l' : List Int} (h : Kcz l l') (hn : l.Nodup) : l'.Pairwise (· < ·) := by
  have hn' : l'.Nodup := h.1.nodup_iff.2 hn
  exact (h.2.and hn').imp fun h1 => by
    rcases Int.lt_or_eq_of_le h1.1 with h2 | h2
    · exact h2
    · exact absurd h2 h1.2
def grp {κ : Type} [DecidableEq κ] (key : Spot -> Option κ) (D : List Spot) (p : κ) : List Int := (D.filter fun s => decide (key s = some p)).map (·.flow)
theorem KgM {κ : Type} [DecidableEq κ] {key : Spot -> Option κ} {D : List Spot} {s : Spot} {p : κ} (h : key s = some p) : grp key (D ++ [s]) = KcO (grp key D) p s.flow := by
  funext z
  unfold grp KcO;rw [List.filter_append, List.map_append];by_cases e : z = p
  · subst e; simp [h]
  · have : ¬ key s = some z := by rw [h]; intro h2; exact e (Option.some.inj h2).symm
    simp [e, this]
theorem Krg {κ : Type} [DecidableEq κ] {key : Spot -> Option κ} {D : List Spot} {s : Spot} (h : key s = none) : grp key (D ++ [s]) = grp key D := by
  funext z
  unfold grp;rw [List.filter_append, List.map_append];simp [h]
theorem Kgf {κ : Type} [DecidableEq κ] (key : Spot -> Option κ) (D : List Spot) (p : κ) : (grp key D p).length <= D.length := by
  unfold grp;rw [List.length_map];exact List.length_filter_le _ _
theorem KeS {κ : Type} [DecidableEq κ] {key : Spot -> Option κ} {D : List Spot} {p : κ} {f : Int} : f ∈ grp key D p ↔ ∃ s ∈ D, key s = some p /\ s.flow = f := by
  unfold grp;rw [List.mem_map];constructor
  · rintro ⟨s, hs, h⟩;have := List.mem_filter.1 hs;exact ⟨s, this.1, of_decide_eq_true this.2, h⟩
  · rintro ⟨s, h1, h2, h3⟩;exact ⟨s, List.mem_filter.2 ⟨h1, decide_eq_true h2⟩, h3⟩
theorem Ki3 {κ : Type} [DecidableEq κ] {key : Spot -> Option κ} {ttl : κ -> Int} (hk : ∀ s p, key s = some p -> s.ttl = ttl p) {D : List Spot} (hD : D.Nodup) (p : κ) : (grp key D p).Nodup := by
  unfold grp;have h1 : (D.filter fun s => decide (key s = some p)).Nodup := hD.sublist (List.filter_sublist);refine List.pairwise_map.2 (h1.imp_of_mem ?_);intro a b ha hb hab hf;have ea := hk a p (of_decide_eq_true (List.mem_filter.1 ha).2);have eb := hk b p (of_decide_eq_true (List.mem_filter.1 hb).2);obtain ⟨fa, ta⟩ := a;obtain ⟨fb, tb⟩ := b;simp only at hf ea eb;exact hab (by rw [hf, ea, eb])
def KbD (fa : Spot -> Option Int) (s : Spot) : Option Place := some ⟨s.ttl, (fa s).getD 0⟩
def KbA (fa fs : Spot -> Option Int) (s : Spot) : Option Stp := if KaP fs s.flow (s.ttl + 1) then some ⟨s.ttl, (fa s).getD 0, (fa ⟨s.flow, s.ttl + 1⟩).getD 0⟩ else none
theorem KtD {fa : Spot -> Option Int} (s : Spot) (p : Place) (h : KbD fa s = some p) : s.ttl = p.ttl := by unfold KbD at h; cases h; rfl
theorem Kq8 {fa fs : Spot -> Option Int} (s : Spot) (p : Stp) (h : KbA fa fs s = some p) : s.ttl = p.ttl := by
  unfold KbA at h;split at h
  · cases h; rfl
  · cases h
theorem KkE {e : Int} : ∀ (l : List Rs) (p : (Spot -> Option Int) × (Spot -> Option Int)), (∀ r ∈ l, r.Ok) -> (∀ s, 0 <= (p.1 s).getD 0 /\ (p.1 s).getD 0 <= 4294967295) -> ∀ s, 0 <= ((l.foldl (K4 e) p).1 s).getD 0 /\ ((l.foldl (K4 e) p).1 s).getD 0 <= 4294967295
  | [], p, _, h, s => h s
  | r :: l, p, hok, h, s => by
    refine KkE l (K4 e p r) (fun r' hr => hok r' (List.mem_cons_of_mem _ hr)) (fun s' => ?_) s;have hr := hok r List.mem_cons_self
    have hu : ∀ (f : Spot -> Option Int) (a : Spot) (v : Int), (0 <= (f s').getD 0 /\ (f s').getD 0 <= 4294967295) -> 0 <= v -> v <= 4294967295 -> 0 <= ((Kaq f a v) s').getD 0 /\ ((Kaq f a v) s').getD 0 <= 4294967295 := fun f a v h1 h2 h3 => by
      unfold Kaq;split
      · exact ⟨h2, h3⟩
      · exact h1
    unfold K4;split
    · split
      · exact h s'
      · split
        · exact hu _ _ _ (h s') hr.2.2.1 hr.2.2.2
        · split
          · exact hu _ _ _ (h s') (by decide) (by decide)
          · exact h s'
    · exact h s'
theorem KlP {l : List Rs} (hok : ∀ r ∈ l, r.Ok) (s : Spot) : 0 <= ((Kh l).1 s).getD 0 /\ ((Kh l).1 s).getD 0 <= 4294967295 := KkE l _ hok (fun s => by show (0 : Int) <= 0 /\ (0 : Int) <= 4294967295; decide) s
theorem wfA {x : Int} (h : 0 <= x /\ x <= 4294967295) : (Lit.int .u32 x).wf = true := by simp [Lit.wf, IntKind.min, IntKind.max, IntKind.signed, IntKind.bits]; omega
theorem wfI {x : Int} (h : -1000000 <= x /\ x <= 1000000) : (Lit.int .i64 x).wf = true := by simp [Lit.wf, IntKind.min, IntKind.max, IntKind.signed, IntKind.bits]; omega
theorem KlH {l : List Rs} {D : List Spot} (hn : D.Nodup) (h : ∀ s ∈ D, (Kh l).2 s ≠ none) : D.length <= l.length := by
  have := KcI (F := l.map KF) hn fun s hs => by
    rcases Kfm l _ s (h s hs) with h2 | ⟨r, h2, _, h4⟩
    · exact absurd rfl h2
    · exact List.mem_map.2 ⟨r, h2, h4⟩
  rwa [List.length_map] at this
theorem Kui {l : List Rs} {s : Spot} (h : (Kh l).2 s ≠ none) : 0 <= s.flow /\ s.flow <= 1023 /\ 1 <= s.ttl /\ s.ttl <= 255 := by
  rcases Kfm l _ s h with h2 | ⟨r, h2, h3, h4⟩
  · exact absurd rfl h2
  · have := KhW h3;rw [<- h4];exact this
set_option linter.unusedSectionVars false
theorem KfN {κ β : Type} [DecidableEq κ] (f : κ -> Option β) (a : κ) (u v : β) : (fun x => if x = a then some v else (if x = a then some u else f x)) = fun x => if x = a then some v else f x := by
 funext x
 by_cases h : x = a <;> simp [h]
section
variable {κ κ' α : Type} {HG : List (κ × Sg α)} {EG : List (κ' × Sg α)} {k : Nat} {s s' : Sg α}
theorem Kqc {X Y : List (Sg α)} {k : Nat} {s : Sg α} (h : X[k]? = some s) : (X ++ Y)[k]? = some s := by
 rw [List.getElem?_append_left (List.getElem?_eq_some_iff.1 h).1]; exact h
theorem Kqu {HG : List (κ × Sg α)} {Y : List (Sg α)} {k : Nat} {s : Sg α} (h : Y[k]? = some s) : (HG.map (·.2) ++ Y)[HG.length + k]? = some s := by
 rw [List.getElem?_append_right (by rw [List.length_map]; omega), List.length_map, Nat.add_sub_cancel_left]; exact h
theorem Koe {p : κ} (hk : HG[k]? = some (p, s)) : (s' :: (HG.map (·.2) ++ EG.map (·.2)).eraseIdx k).Perm ((HG.set k (p, s')).map (·.2) ++ EG.map (·.2)) := by
 have hlt := (List.getElem?_eq_some_iff.1 hk).1
 have : (HG.set k (p, s')).map (·.2) ++ EG.map (·.2) = (HG.map (·.2) ++ EG.map (·.2)).set k s' := by
  rw [List.map_set, List.set_append_left _ _ (by rw [List.length_map]; exact hlt)]
 rw [this];exact (Kmk (by rw [List.length_append, List.length_map]; omega) s').symm
theorem KpZ {p : κ} : (s' :: (HG.map (·.2) ++ EG.map (·.2))).Perm ((HG ++ [(p, s')]).map (·.2) ++ EG.map (·.2)) := by
 rw [List.map_append, List.append_assoc];exact List.perm_middle.symm
theorem Kp8 {p : κ'} (hk : EG[k]? = some (p, s)) : (s' :: (HG.map (·.2) ++ EG.map (·.2)).eraseIdx (HG.length + k)).Perm (HG.map (·.2) ++ (EG.set k (p, s')).map (·.2)) := by
 have hlt := (List.getElem?_eq_some_iff.1 hk).1
 have : HG.map (·.2) ++ (EG.set k (p, s')).map (·.2) = (HG.map (·.2) ++ EG.map (·.2)).set (HG.length + k) s' := by
  rw [List.map_set, List.set_append_right _ _ (by rw [List.length_map]; omega), List.length_map, Nat.add_sub_cancel_left]
 rw [this];exact (Kmk (by rw [List.length_append, List.length_map, List.length_map]; omega) s').symm
theorem Kn5 {p : κ'} : (s' :: (HG.map (·.2) ++ EG.map (·.2))).Perm (HG.map (·.2) ++ (EG ++ [(p, s')]).map (·.2)) := by
 rw [List.map_append, <- List.append_assoc];exact (List.perm_append_singleton s' _).symm
theorem KkC {p : κ} (h : ∀ x ∈ HG, x.2.l ≠ []) (hs : s'.l ≠ []) : ∀ x ∈ HG.set k (p, s'), x.2.l ≠ [] := fun x hx => by
 rcases List.mem_or_eq_of_mem_set hx with h1 | h1
 ·exact h x h1
 ·rw [h1]; exact hs
theorem KmS {p : κ} (h : ∀ x ∈ HG, x.2.l ≠ []) (hs : s'.l ≠ []) : ∀ x ∈ HG ++ [(p, s')], x.2.l ≠ [] := fun x hx => by
 rcases List.mem_append.1 hx with h1 | h1
 ·exact h x h1
 ·rw [List.mem_singleton.1 h1]; exact hs
end
theorem Kps {fa fs : Spot -> Option Int} {s : Spot} (h : KaP fs s.flow (s.ttl + 1) = false) : KbA fa fs s = none := by unfold KbA; rw [h]; rfl
theorem KgW {fa fs : Spot -> Option Int} {s : Spot} (h : KaP fs s.flow (s.ttl + 1) = true) : KbA fa fs s = some ⟨s.ttl, (fa s).getD 0, (fa ⟨s.flow, s.ttl + 1⟩).getD 0⟩ := by unfold KbA; rw [h]; rfl
structure Mp where
 tr : Trc
 en : Int
 hops : Sg Hpx
 edges : Sg Ed
def Mp.cells (m : Mp) : List Value := [.int .i64 m.tr.v, .int .u32 m.tr.dst, .int .i64 m.tr.proto, .int .i64 m.en, .slice m.hops.A m.hops.l.length m.hops.c, .slice m.edges.A m.edges.l.length m.edges.c]
def Mp.zero : Mp := ⟨Trc.zero, 0, ⟨none, 0, []⟩, ⟨none, 0, []⟩⟩
def Mp.pcs (m : Mp) : List Pc := [.row (.slice m.hops.A m.hops.l.length m.hops.c) 69 3 m.hops.l.length (Kb Hpx.cells m.hops.l), .row (.slice m.edges.A m.edges.l.length m.edges.c) 72 4 m.edges.l.length (Kb Ed.cells m.edges.l)] ++ KI 3 1 (Kb (ic .i64)) (m.hops.l.map (·.fl) ++ m.edges.l.map (·.fl))
def hpk (h : Hpx) : List Int := [h.ttl, h.addr]
def edk (h : Ed) : List Int := [h.ttl, h.frm, h.to_]
def KaO (fa fs : Spot -> Option Int) (hs : List Hpx) : Prop := Kbc hpk hs /\ (∀ h ∈ hs, h.fl.l.Pairwise (· < ·) /\ h.fl.l ≠ []) /\ ∀ t a f, (∃ h ∈ hs, h.ttl = t /\ h.addr = a /\ f ∈ h.fl.l) ↔ (fs ⟨f, t⟩ ≠ none /\ (fa ⟨f, t⟩).getD 0 = a)
def Kgj (fa fs : Spot -> Option Int) (es : List Ed) : Prop := Kbc edk es /\ (∀ h ∈ es, h.fl.l.Pairwise (· < ·) /\ h.fl.l ≠ []) /\ ∀ t a b f, (∃ h ∈ es, h.ttl = t /\ h.frm = a /\ h.to_ = b /\ f ∈ h.fl.l) ↔ (fs ⟨f, t⟩ ≠ none /\ KaP fs f (t + 1) = true /\ (fa ⟨f, t⟩).getD 0 = a /\ (fa ⟨f, t + 1⟩).getD 0 = b)
def Kto (l : List Rs) (m : Mp) : Prop := m.tr = Ku (l.headD Rs.zero) /\ m.en = Kf l /\ KaO (Kh l).1 (Kh l).2 m.hops.l /\ Kgj (Kh l).1 (Kh l).2 m.edges.l
def Kcp (l : List Rs) (m : Mp) (e : Int) : Prop := Kb0 l (Kh l).2 e /\ ((e ≠ 0 \/ l = []) -> m = Mp.zero) /\ (e = 0 -> l ≠ [] -> Kto l m)
def Ka2 (l : List Int) : List Int := l.mergeSort fun x y => decide (x <= y)
theorem Kfo (l : List Int) : (Ka2 l).length = l.length := List.length_mergeSort l
theorem Ker (l : List Int) : Kcz l (Ka2 l) := ⟨List.mergeSort_perm _ _, by
 have := List.pairwise_mergeSort (le := fun x y : Int => decide (x <= y)) (fun a b c h1 h2 => by simp only [decide_eq_true_eq] at *; exact Int.le_trans h1 h2) (fun a b => by simp only [Bool.or_eq_true, decide_eq_true_eq]; exact Int.le_total a b) l;exact this.imp fun h => of_decide_eq_true h⟩
theorem KhU : ∀ {a b : List Int}, a.Perm b -> a.Pairwise (· <= ·) -> b.Pairwise (· <= ·) -> a = b
 | [], b, h, _, _ => (List.nil_perm.1 h).symm
 | x :: a, [], h, _, _ => absurd h (by intro h2; have := h2.length_eq; cases this)
 | x :: a, y :: b, h, ha, hb => by
  obtain ⟨a1, a2⟩ := List.pairwise_cons.1 ha;obtain ⟨b1, b2⟩ := List.pairwise_cons.1 hb
  have e : x = y := by
   have h1 : x <= y := by
    rcases List.mem_cons.1 (h.mem_iff.2 (List.mem_cons_self (a := y) (l := b))) with e | e
    ·omega
    ·exact a1 y e
   have h2 : y <= x := by
    rcases List.mem_cons.1 (h.mem_iff.1 (List.mem_cons_self (a := x) (l := a))) with e | e
    ·omega
    ·exact b1 x e
   omega
  subst e;rw [KhU (List.Perm.cons_inv h) a2 b2]
theorem Kcz.eq {l l' : List Int} (h : Kcz l l') : l' = Ka2 l := KhU (h.1.trans (Ker l).1.symm) h.2 (Ker l).2
theorem Kf2 {l : List Int} {x : Int} : x ∈ Ka2 l ↔ x ∈ l := (Ker l).1.mem_iff
def Kaj (s : Sg Int) : Sg Int := ⟨s.A, s.c, Ka2 s.l⟩
def kvG {κ : Type} (x : κ × Sg Int) : κ × Value := (x.1, x.2.val)
def Kaw (x : Place × Sg Int) : Hpx := ⟨x.1.ttl, x.1.addr, Kaj x.2⟩
def Kay (x : Stp × Sg Int) : Ed := ⟨x.1.ttl, x.1.frm, x.1.to_, Kaj x.2⟩
section
variable {κ : Type} [DecidableEq κ] {HG Gd Gl : List (κ × Sg Int)} {fm : κ -> Option Value} {a : κ} {v : Value} {s : Sg Int}
theorem KmD (hf : ∀ x, fm x = (HG.find? fun p => decide (p.1 = x)).map (·.2.val)) (h : fm a = some v) : ∃ s, (a, s) ∈ HG /\ v = .slice s.A s.l.length s.c := by
 rw [hf] at h;obtain ⟨p, hp, rfl⟩ := Option.map_eq_some_iff.1 h;obtain ⟨k, s, h1, rfl⟩ := Kee hp;exact ⟨s, List.mem_of_getElem? h1, rfl⟩
theorem Kuw (nd : (HG.map (·.1)).Nodup) (hf : ∀ x, fm x = (HG.find? fun p => decide (p.1 = x)).map (·.2.val)) (h : (a, s) ∈ HG) : fm a = some s.val := by
 rw [hf, (Kgu nd).2 ⟨h, rfl⟩]; rfl
theorem Kef (nd : (HG.map (·.1)).Nodup) (h : (a, s) ∈ HG) : Kci HG a = s := Kdl ((Kgu nd).2 ⟨h, rfl⟩)
theorem KmG (hp : HG.Perm (Gd ++ Gl)) (hn : a ∉ (Gd.map kvG).map (·.1)) (hs : (a, s) ∈ HG) : (a, s) ∈ Gl := by
 rcases List.mem_append.1 (hp.mem_iff.1 hs) with h | h
 ·exact absurd (List.mem_map.2 ⟨kvG (a, s), List.mem_map.2 ⟨(a, s), h, rfl⟩, rfl⟩) hn
 ·exact h
theorem Kmd (nd : (HG.map (·.1)).Nodup) (hp : HG.Perm (Gd ++ Gl)) (hf : ∀ x, fm x = (HG.find? fun p => decide (p.1 = x)).map (·.2.val)) (hall : ∀ a v, fm a = some v -> (a, v) ∈ Gd.map kvG) : Gl = [] := by
 refine List.eq_nil_iff_forall_not_mem.2 fun x hx => ?_;have h1 := hall x.1 x.2.val (Kuw nd hf (hp.mem_iff.2 (List.mem_append.2 (.inr hx))));obtain ⟨y, hy, e⟩ := List.mem_map.1 h1;have e1 : y.1 = x.1 := congrArg (Prod.fst : κ × Value -> κ) e;have h2 : ((Gd ++ Gl).map (·.1)).Nodup := (hp.map _).nodup_iff.1 nd;rw [List.map_append] at h2;exact (List.nodup_append.1 h2).2.2 y.1 (List.mem_map.2 ⟨y, hy, rfl⟩) x.1 (List.mem_map.2 ⟨x, hx, rfl⟩) e1
theorem Klx {key : Spot -> Option κ} {D : List Spot} {enc : κ -> Value} {Ok : κ -> Prop} {ob : Obj} (h : MapSG enc Ok ob HG (grp key D)) (hn : ∀ x ∈ HG, x.2.l ≠ []) : HG.length <= D.length := by
 have h1 : (HG.map fun x => some x.1).Nodup := by
  refine List.pairwise_map.2 ((List.pairwise_map.1 h.nd).imp fun hne hh => hne ?_);exact Option.some.inj hh
 have := KcI (F := D.map key) h1 fun y hy => by
  obtain ⟨x, hx, rfl⟩ := List.mem_map.1 hy;have h2 := h.sp x.1;rw [Kef h.nd hx] at h2;obtain ⟨f, hf⟩ := List.exists_mem_of_ne_nil _ (hn x hx);rw [h2] at hf;obtain ⟨s, hs, hk, _⟩ := KeS.1 hf;exact List.mem_map.2 ⟨s, hs, hk⟩
 rwa [List.length_map, List.length_map] at this
theorem KiQ {E : List (Sg Int)} {f : κ × Sg Int -> Sg Int} {k : Nat} {x : κ × Sg Int} (hk : Gl[k]? = some x) : (Gd.map f ++ Gl.map (·.2) ++ E)[Gd.length + k]? = some x.2 := by
 have hlt := (List.getElem?_eq_some_iff.1 hk).1;rw [List.append_assoc, List.getElem?_append_right (by rw [List.length_map]; omega), List.length_map, Nat.add_sub_cancel_left, List.getElem?_append_left (by rw [List.length_map]; exact hlt), List.getElem?_map, hk]
 rfl
theorem KmI {E : List (Sg Int)} {f : κ × Sg Int -> Sg Int} {k : Nat} {x : κ × Sg Int} (hk : Gl[k]? = some x) : (f x :: (Gd.map f ++ Gl.map (·.2) ++ E).eraseIdx (Gd.length + k)).Perm ((Gd ++ [x]).map f ++ (Gl.eraseIdx k).map (·.2) ++ E) := by
 have h1 : (x.2 :: (Gd.map f ++ Gl.map (·.2) ++ E).eraseIdx (Gd.length + k)).Perm (Gd.map f ++ Gl.map (·.2) ++ E) := (KeW (KiQ hk)).symm;have h2 : (Gl.map (·.2)).Perm (x.2 :: (Gl.eraseIdx k).map (·.2)) := (KeW hk).map (·.2)
 have h3 : (Gd.map f ++ Gl.map (·.2) ++ E).Perm (x.2 :: (Gd.map f ++ (Gl.eraseIdx k).map (·.2) ++ E)) := by
  refine ((h2.append_left (Gd.map f)).append_right E).trans ?_;rw [List.append_assoc, List.append_assoc];exact List.perm_middle
 have h4 := List.Perm.cons_inv (h1.trans h3);refine (h4.cons (f x)).trans ?_;rw [List.map_append, List.append_assoc, List.append_assoc, List.append_assoc];exact List.perm_middle.symm
theorem KkR {k : Nat} {x : κ × Sg Int} (hp : HG.Perm (Gd ++ Gl)) (hk : Gl[k]? = some x) : HG.Perm (Gd ++ [x] ++ Gl.eraseIdx k) := by
 refine hp.trans ?_;rw [List.append_assoc];exact (KeW hk).append_left Gd
end
theorem KuN {X Y : List (Sg Int)} : ((X ++ []) ++ Y).Perm (([] ++ Y) ++ X) := by
 rw [List.append_nil, List.nil_append]; exact List.perm_append_comm
theorem KoR {Gd : List (Place × Sg Int)} {Ed' : List (Stp × Sg Int)} {Hs hs : List Hpx} {Es es : List Ed} (h1 : hs.Perm Hs) (h2 : es.Perm Es) (h3 : Hs = Gd.map Kaw) (h4 : Es = Ed'.map Kay) :
  (Ed'.map (fun x : Stp × Sg Int => Kaj x.2) ++ [] ++ Gd.map (fun x : Place × Sg Int => Kaj x.2)).Perm (hs.map Hpx.fl ++ es.map Ed.fl) := by
 rw [List.append_nil];refine List.perm_append_comm.trans (List.Perm.append ?_ ?_)
 ·have := (h1.map (·.fl)).symm;rw [h3, List.map_map] at this;exact this
 ·have := (h2.map (·.fl)).symm;rw [h4, List.map_map] at this;exact this
theorem Knz {l : List Rs} {x : Rs} (h : l[0]? = some x) : l.headD Rs.zero = x := by
 cases l with
 | nil => cases h
 | cons a l => cases h; rfl
theorem Kl1 {α : Type} {key : α -> List Int} {n : Nat} (hk : ∀ x, (key x).length = n) {l l' : List α} (h : l'.Pairwise fun x y => ¬ KH (key y) (key x) < 0) (hp : l'.Perm l) (hn : l.Pairwise fun x y => key x ≠ key y) : Kbc key l' := by
 have hn' : l'.Pairwise fun x y => key x ≠ key y := (hp.pairwise_iff (fun hab hba => hab hba.symm)).2 hn;refine (h.and hn').imp fun {x y} hxy => ?_;have e2 := @KiL _ key n hk x y;have e3 := @Kgi (key x) (key y) (by rw [hk, hk]);have h1 := hxy.1;have h2 : KH (key x) (key y) ≠ 0 := fun e => hxy.2 (e3.1 e);omega
theorem Kse {fa fs : Spot -> Option Int} {D : List Spot} {HG Gd : List (Place × Sg Int)} {enc : Place -> Value} {ob : Obj} {Hs hs : List Hpx} (hD : D.Nodup) (hm : ∀ s, s ∈ D ↔ fs s ≠ none) (h : MapSG enc Place.Ok ob HG (grp (KbD fa) D)) (hn : ∀ x ∈ HG, x.2.l ≠ [])
  (hp : HG.Perm (Gd ++ [])) (hH : Hs = Gd.map Kaw) (hS : Ka4 Kd7 Hs hs) : KaO fa fs hs := by
 rw [List.append_nil] at hp
 have hmem : ∀ z, z ∈ hs ↔ ∃ x ∈ HG, Kaw x = z := fun z => by
  rw [hS.1.mem_iff, hH, List.mem_map];exact ⟨fun ⟨x, h1, h2⟩ => ⟨x, hp.mem_iff.2 h1, h2⟩, fun ⟨x, h1, h2⟩ => ⟨x, hp.mem_iff.1 h1, h2⟩⟩
 have hl : ∀ x ∈ HG, x.2.l = grp (KbD fa) D x.1 := fun x hx => by rw [<- h.sp x.1, Kef h.nd hx]
 refine ⟨Kl1 (key := hpk) (n := 2) (fun _ => rfl) hS.2 hS.1 ?_, fun z hz => ?_, fun t a f => ?_⟩
 ·rw [hH];refine List.pairwise_map.2 ((List.pairwise_map.1 ((hp.map (·.1)).nodup_iff.1 h.nd)).imp fun {x y} hne hk => hne ?_);obtain ⟨⟨t1, a1⟩, _⟩ := x;obtain ⟨⟨t2, a2⟩, _⟩ := y;simp only [hpk, Kaw, List.cons.injEq, and_true] at hk;rw [hk.1, hk.2]
 ·obtain ⟨x, hx, rfl⟩ := (hmem z).1 hz;refine ⟨Kmp (Ker _) ?_, fun e => hn x hx ?_⟩
  ·show x.2.l.Nodup;rw [hl x hx]; exact Ki3 KtD hD _
  ·have : (Ka2 x.2.l).length = 0 := by show (Kaw x).fl.l.length = 0; rw [e]; rfl
   rw [Kfo] at this;exact List.eq_nil_of_length_eq_zero this
 ·constructor
  ·rintro ⟨z, hz, h1, h2, h3⟩;obtain ⟨x, hx, rfl⟩ := (hmem z).1 hz;have h4 : f ∈ x.2.l := Kf2.1 h3;rw [hl x hx] at h4;obtain ⟨s, hs, hk, rfl⟩ := KeS.1 h4;unfold KbD at hk;have hk2 := Option.some.inj hk;obtain ⟨⟨t1, a1⟩, _⟩ := x;cases hk2;cases h1;cases h2;exact ⟨(hm s).1 hs, rfl⟩
  ·rintro ⟨h1, h2⟩;have hs : (⟨f, t⟩ : Spot) ∈ D := (hm _).2 h1;have hf : f ∈ grp (KbD fa) D ⟨t, a⟩ := KeS.2 ⟨⟨f, t⟩, hs, by unfold KbD; rw [h2], rfl⟩;rw [<- h.sp] at hf;rcases hfi : HG.find? (fun p => decide (p.1 = (⟨t, a⟩ : Place))) with _ | p
   ·unfold Kci at hf; rw [hfi] at hf; cases hf
   ·obtain ⟨k, s, hk, rfl⟩ := Kee hfi;rw [Kdl hfi] at hf;exact ⟨Kaw (⟨t, a⟩, s), (hmem _).2 ⟨_, List.mem_of_getElem? hk, rfl⟩, rfl, rfl, Kf2.2 hf⟩
theorem Kuj {fa fs : Spot -> Option Int} {D : List Spot} {HG Gd : List (Stp × Sg Int)} {enc : Stp -> Value} {ob : Obj} {Hs hs : List Ed} (hD : D.Nodup) (hm : ∀ s, s ∈ D ↔ fs s ≠ none) (h : MapSG enc Stp.Ok ob HG (grp (KbA fa fs) D)) (hn : ∀ x ∈ HG, x.2.l ≠ [])
  (hp : HG.Perm (Gd ++ [])) (hH : Hs = Gd.map Kay) (hS : Ka4 Keh Hs hs) : Kgj fa fs hs := by
 rw [List.append_nil] at hp
 have hmem : ∀ z, z ∈ hs ↔ ∃ x ∈ HG, Kay x = z := fun z => by
  rw [hS.1.mem_iff, hH, List.mem_map];exact ⟨fun ⟨x, h1, h2⟩ => ⟨x, hp.mem_iff.2 h1, h2⟩, fun ⟨x, h1, h2⟩ => ⟨x, hp.mem_iff.1 h1, h2⟩⟩
 have hl : ∀ x ∈ HG, x.2.l = grp (KbA fa fs) D x.1 := fun x hx => by rw [<- h.sp x.1, Kef h.nd hx]
 refine ⟨Kl1 (key := edk) (n := 3) (fun _ => rfl) hS.2 hS.1 ?_, fun z hz => ?_, fun t a b f => ?_⟩
 ·rw [hH];refine List.pairwise_map.2 ((List.pairwise_map.1 ((hp.map (·.1)).nodup_iff.1 h.nd)).imp fun {x y} hne hk => hne ?_);obtain ⟨⟨t1, a1, b1⟩, _⟩ := x;obtain ⟨⟨t2, a2, b2⟩, _⟩ := y;simp only [edk, Kay, List.cons.injEq, and_true] at hk;rw [hk.1, hk.2.1, hk.2.2]
 ·obtain ⟨x, hx, rfl⟩ := (hmem z).1 hz;refine ⟨Kmp (Ker _) ?_, fun e => hn x hx ?_⟩
  ·show x.2.l.Nodup;rw [hl x hx]; exact Ki3 Kq8 hD _
  ·have : (Ka2 x.2.l).length = 0 := by show (Kay x).fl.l.length = 0; rw [e]; rfl
   rw [Kfo] at this;exact List.eq_nil_of_length_eq_zero this
 ·constructor
  ·rintro ⟨z, hz, h1, h2, h3, h4⟩;obtain ⟨x, hx, rfl⟩ := (hmem z).1 hz;have h5 : f ∈ x.2.l := Kf2.1 h4;rw [hl x hx] at h5;obtain ⟨s, hs, hk, rfl⟩ := KeS.1 h5;unfold KbA at hk;split at hk
   ·rename_i hh;have hk2 := Option.some.inj hk;obtain ⟨⟨t1, a1, b1⟩, _⟩ := x;cases hk2;cases h1;cases h2;cases h3;exact ⟨(hm s).1 hs, hh, rfl, rfl⟩
   ·cases hk
  ·rintro ⟨h1, h2, h3, h4⟩;have hs : (⟨f, t⟩ : Spot) ∈ D := (hm _).2 h1;have hf : f ∈ grp (KbA fa fs) D ⟨t, a, b⟩ := KeS.2 ⟨⟨f, t⟩, hs, by rw [KgW h2]; show some (Stp.mk _ _ _) = _; rw [h3, h4], rfl⟩;rw [<- h.sp] at hf;rcases hfi : HG.find? (fun p => decide (p.1 = (⟨t, a, b⟩ : Stp))) with _ | p
   ·unfold Kci at hf; rw [hfi] at hf; cases hf
   ·obtain ⟨k, s, hk, rfl⟩ := Kee hfi;rw [Kdl hfi] at hf;exact ⟨Kay (⟨t, a, b⟩, s), (hmem _).2 ⟨_, List.mem_of_getElem? hk, rfl⟩, rfl, rfl, rfl, Kf2.2 hf⟩
end Go.Proofs.YtcicmplfmcloiaaGreat
