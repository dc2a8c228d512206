/-
  The walk of the making of a packet.
-/
import Derived.Test.YtllaojnnackhhaaDrawAddr
import Derived.Test.YtllaojnnackhhaaIpPeek
namespace Go.Proofs.Ytllaojnnackhhaa
open Go.RowKit
set_option linter.unusedVariables false
set_option linter.unusedSimpArgs false

theorem results_blk1 {P : Program} {fn : Func} {p : Tmp} {ty : TypeId} (h : fn.results = #[.cell p ty]) (tmps : Array Value) (w : World) (g : Nat) (cs : Array Value) (d : TypeDesc)
    (hp : tmps.getD p undef = .pointer (some ⟨g, 0, none⟩)) (hg : Blk w g ty cs) (hu : P.underlying ty = some d) (hd : (match d with | .struct _ | .array _ _ => true | _ => false) = true) (hi : (P.info? ty).map (·.size) = some cs.size) :
    (results fn tmps).run P w = .ok (.agg cs) w := by
  have hp' : tmps[p]?.getD undef = .pointer (some ⟨g, 0, none⟩) := by simpa using hp
  simp [results, h, hp', asAddr, run_loadVar_row w g ty ty cs (0, 0) d hg hu hd hi]
theorem blk_set8' {w : World} {g : Nat} {t : TypeId} {c0 c1 c2 c3 c4 c5 c6 c7 : Value} (h : Blk w g t #[c0, c1, c2, c3, c4, c5, c6, c7]) (a0 a1 a2 a3 a4 a5 a6 a7 : Value) :
    Blk ((((((((w.setCell ⟨g, 0, none⟩ a0).setCell ⟨g, 1, none⟩ a1).setCell ⟨g, 2, none⟩ a2).setCell ⟨g, 3, none⟩ a3).setCell ⟨g, 4, none⟩ a4).setCell ⟨g, 5, none⟩ a5).setCell ⟨g, 6, none⟩ a6).setCell ⟨g, 7, none⟩ a7) g t #[a0, a1, a2, a3, a4, a5, a6, a7] := by
  have := ((((((((h.set_ 0 a0).set_ 1 a1).set_ 2 a2).set_ 3 a3).set_ 4 a4).set_ 5 a5).set_ 6 a6).set_ 7 a7)
  simpa using this
def PackR (A2 : Option Addr) (n2 c2 : Nat) (w : World) (e : Ending) (w' : World) : Prop :=
  ∃ h : Hd, h.Ok ∧ e = .returned (.agg #[.int .i64 h.tos, .int .i64 h.id, .int .i64 h.ttl, .int .i64 h.proto, .bool h.keep, .int .u32 h.src, .int .u32 h.dst, .slice A2 n2 c2]) ∧ Below w.heap.size w w'

set_option maxRecDepth 100000 in
set_option maxHeartbeats 4000000 in
theorem packet_any (A1 A2 : Option Addr) (n1 c1 n2 c2 : Nat) (l1 : List Int) (h : Hd) (hok : h.Ok) (w : World) (h1 : Byt w w.heap.size A1 n1 l1) (hc1 : n1 ≤ c1) (hm1 : (n1 : Int) ≤ 9223372036854775807) :
    Calls Try.prog 33 #[.slice A1 n1 c1, .agg #[.int .i64 h.tos, .int .i64 h.id, .int .i64 h.ttl, .int .i64 h.proto, .bool h.keep, .int .u32 h.src, .int .u32 h.dst], .slice A2 n2 c2] w (PackR A2 n2 c2 w) := by
  have B1 := (Blk.new w 46 #[.int .i64 h.tos, .int .i64 h.id, .int .i64 h.ttl, .int .i64 h.proto, .bool h.keep, .int .u32 h.src, .int .u32 h.dst]).alloc (.cells #[.int .i64 0, .int .i64 0, .int .i64 0, .int .i64 0, .bool false, .int .u32 0, .int .u32 0, .slice none 0 0] 48)
  have P1 := Blk.new (w.alloc (.cells #[.int .i64 h.tos, .int .i64 h.id, .int .i64 h.ttl, .int .i64 h.proto, .bool h.keep, .int .u32 h.src, .int .u32 h.dst] 46)) 48 #[.int .i64 0, .int .i64 0, .int .i64 0, .int .i64 0, .bool false, .int .u32 0, .int .u32 0, .slice none 0 0]
  have h2 := (h1.alloc (Nat.le_refl _) (.cells #[.int .i64 h.tos, .int .i64 h.id, .int .i64 h.ttl, .int .i64 h.proto, .bool h.keep, .int .u32 h.src, .int .u32 h.dst] 46)).alloc (by simp) (.cells #[.int .i64 0, .int .i64 0, .int .i64 0, .int .i64 0, .bool false, .int .u32 0, .int .u32 0, .slice none 0 0] 48)
  have W1 := ((Below.refl w.heap.size w).alloc (Nat.le_refl _) (.cells #[.int .i64 h.tos, .int .i64 h.id, .int .i64 h.ttl, .int .i64 h.proto, .bool h.keep, .int .u32 h.src, .int .u32 h.dst] 46)).alloc (by simp) (.cells #[.int .i64 0, .int .i64 0, .int .i64 0, .int .i64 0, .bool false, .int .u32 0, .int .u32 0, .slice none 0 0] 48)
  have hp : (w.alloc (.cells #[.int .i64 h.tos, .int .i64 h.id, .int .i64 h.ttl, .int .i64 h.proto, .bool h.keep, .int .u32 h.src, .int .u32 h.dst] 46)).heap.size = w.heap.size + 1 := by simp
  rw [hp] at P1
  clear hp
  go_enter Try.func33, Try.ntmps33
  go_upto_region 1 with fail
  generalize (w.alloc (.cells #[.int .i64 h.tos, .int .i64 h.id, .int .i64 h.ttl, .int .i64 h.proto, .bool h.keep, .int .u32 h.src, .int .u32 h.dst] 46)).alloc (.cells #[.int .i64 0, .int .i64 0, .int .i64 0, .int .i64 0, .bool false, .int .u32 0, .int .u32 0, .slice none 0 0] 48) = w1 at *
  have p1 := P1.lt
  go_wp2_with fail
  refine (new_any _ _ _ _ _ _ (h2.more W1.size) hc1 hm1 (by omega) (by omega)).mono ?_
  rintro e w2 ⟨rfl, hC2, hb2, hs2⟩
  have I2 : Inv w w1.heap.size w2 := ⟨W1.size, W1.trans (hb2.mono W1.size), hC2⟩
  have B2 := B1.below hb2 B1.lt
  have P2 := P1.below hb2 P1.lt
  clear hs2 hC2 hb2 B1 P1 h2 W1 h1 hm1
  obtain ⟨cb, hcb⟩ : ∃ cb, w1.heap.size = cb := ⟨_, rfl⟩
  rw [hcb] at I2 p1 ⊢
  clear hcb
  go_wp2_with fail
  refine (next_any cb _ 256 I2.cod).mono ?_
  rintro e w3 ⟨tos, rfl, t0, _, t1, hC, hg, hs⟩
  have I3 := I2.next hC hg
  have B3 := B2.grown hg (by intro e; injection e with e; omega)
  have P3 := P2.grown hg (by intro e; injection e with e; omega)
  clear hC hg hs I2 B2 P2 t0 t1
  go_wp2_with fail
  refine (next_any cb _ 65536 I3.cod).mono ?_
  rintro e w4 ⟨id, rfl, i0, _, i1, hC, hg, hs⟩
  have I4 := I3.next hC hg
  have B4 := B3.grown hg (by intro e; injection e with e; omega)
  have P4 := P3.grown hg (by intro e; injection e with e; omega)
  clear hC hg hs I3 B3 P3 i0 i1
  go_wp2_with fail
  refine (next_any cb _ 256 I4.cod).mono ?_
  rintro e w5 ⟨ttl, rfl, l0, _, l1, hC, hg, hs⟩
  have I5 := I4.next hC hg
  have B5 := B4.grown hg (by intro e; injection e with e; omega)
  have P5 := P4.grown hg (by intro e; injection e with e; omega)
  clear hC hg hs I4 B4 P4 l0 l1
  go_wp2_with fail
  refine (next_any cb _ 256 I5.cod).mono ?_
  rintro e w6 ⟨proto, rfl, q0, _, q1, hC, hg, hs⟩
  have I6 := I5.next hC hg
  have B6 := B5.grown hg (by intro e; injection e with e; omega)
  have P6 := P5.grown hg (by intro e; injection e with e; omega)
  clear hC hg hs I5 B5 P5 q0 q1
  go_wp2_with fail
  refine (next_any cb _ 2 I6.cod).mono ?_
  rintro e w7 ⟨kp, rfl, k0, _, k1, hC, hg, hs⟩
  have I7 := I6.next hC hg
  have B7 := B6.grown hg (by intro e; injection e with e; omega)
  have P7 := P6.grown hg (by intro e; injection e with e; omega)
  clear hC hg hs I6 B6 P6 k0 k1
  go_wp2_with fail
  refine (address_any cb _ I7.cod).mono ?_
  rintro e w8 ⟨src, rfl, s0, s1, hC, hg, hs⟩
  have I8 := I7.next hC hg
  have B8 := B7.grown hg (by intro e; injection e with e; omega)
  have P8 := P7.grown hg (by intro e; injection e with e; omega)
  clear hC hg hs I7 B7 P7
  go_wp2_with fail
  refine (address_any cb _ I8.cod).mono ?_
  rintro e w9 ⟨dst, rfl, d0, d1, hC, hg, hs⟩
  have I9 := I8.next hC hg
  have B9 := B8.grown hg (by intro e; injection e with e; omega)
  have P9 := P8.grown hg (by intro e; injection e with e; omega)
  clear hC hg hs I8 B8 P8
  obtain ⟨keep, hkeep⟩ : ∃ b : Bool, (kp == 1) = b := ⟨_, rfl⟩
  go_upto_region 3 with fail
  have X9 := Blk.new w9 46 #[.int .i64 tos, .int .i64 id, .int .i64 ttl, .int .i64 proto, .bool keep, .int .u32 src, .int .u32 dst]
  have B10 := B9.alloc (.cells #[.int .i64 tos, .int .i64 id, .int .i64 ttl, .int .i64 proto, .bool keep, .int .u32 src, .int .u32 dst] 46)
  have P10 := P9.alloc (.cells #[.int .i64 tos, .int .i64 id, .int .i64 ttl, .int .i64 proto, .bool keep, .int .u32 src, .int .u32 dst] 46)
  have I10 := I9.alloc (.cells #[.int .i64 tos, .int .i64 id, .int .i64 ttl, .int .i64 proto, .bool keep, .int .u32 src, .int .u32 dst] 46)
  have c9 := I9.cod.lt
  clear hkeep I9 B9 P9
  generalize w9.alloc (.cells #[.int .i64 tos, .int .i64 id, .int .i64 ttl, .int .i64 proto, .bool keep, .int .u32 src, .int .u32 dst] 46) = w10 at *
  obtain ⟨g8, hg8⟩ : ∃ g, w9.heap.size = g := ⟨_, rfl⟩
  rw [hg8] at X9 c9 ⊢
  clear hg8
  go_wp2_with fail
  refine (next_any cb _ 6 I10.cod).mono ?_
  rintro e w11 ⟨y, rfl, y0, _, y1, hC, hg, hs⟩
  have I11 := I10.next hC hg
  have B11 := B10.grown hg (by intro e; injection e with e; omega)
  have P11 := P10.grown hg (by intro e; injection e with e; omega)
  have X11 := X9.grown hg (by intro e; injection e with e; omega)
  clear hC hg hs I10 B10 P10 X9 y0 y1
  have cX := X11.cell
  have cB := B11.cell
  have cP := P11.cell
  have fX := X11.frozen
  have fP := P11.frozen
  have hX := X11.lt
  have hz : w.heap.size ≤ cb := I11.old
  have W11 := I11.bel
  by_cases h4 : y = 4
  · subst h4
    go_wp2_with fail
    refine bodyPost_ret (results_blk1 Try.results33 _ _ (w.heap.size + 1) _ _ rfl (blk_set8' (((((((P11.far (p := ⟨g8, 0, none⟩) (by simp; omega) (.int .i64 h.tos)).far (p := ⟨g8, 1, none⟩) (by simp; omega) (.int .i64 h.id)).far (p := ⟨g8, 2, none⟩) (by simp; omega) (.int .i64 h.ttl)).far (p := ⟨g8, 3, none⟩) (by simp; omega) (.int .i64 h.proto)).far (p := ⟨g8, 4, none⟩) (by simp; omega) (.bool h.keep)).far (p := ⟨g8, 5, none⟩) (by simp; omega) (.int .u32 h.src)).far (p := ⟨g8, 6, none⟩) (by simp; omega) (.int .u32 h.dst)) _ _ _ _ _ _ _ _) Try.underlying48 rfl rfl) rfl ⟨h, hok, rfl, ?_⟩
    exact (((((((((((((((W11.setCell (p := ⟨g8, 0, none⟩) (by simp; omega) _).setCell (p := ⟨g8, 1, none⟩) (by simp; omega) _).setCell (p := ⟨g8, 2, none⟩) (by simp; omega) _).setCell (p := ⟨g8, 3, none⟩) (by simp; omega) _).setCell (p := ⟨g8, 4, none⟩) (by simp; omega) _).setCell (p := ⟨g8, 5, none⟩) (by simp; omega) _).setCell (p := ⟨g8, 6, none⟩) (by simp; omega) _).setCell (by simp) _).setCell (by simp) _).setCell (by simp) _).setCell (by simp) _).setCell (by simp) _).setCell (by simp) _).setCell (by simp) _).setCell (by simp) _)
  · by_cases h5 : y = 5
    · subst h5
      clear cX cB cP fX fP hX W11 B11
      go_wp2_with fail
      refine (int_any cb _ I11.cod).mono ?_
      rintro e w12 ⟨v1, rfl, _, _, hC, hg⟩
      have I12 := I11.next hC hg
      have P12 := P11.grown hg (by intro e; injection e with e; omega)
      have X12 := X11.grown hg (by intro e; injection e with e; omega)
      clear hC hg I11 P11 X11
      go_wp2_with fail
      refine (int_any cb _ I12.cod).mono ?_
      rintro e w13 ⟨v2, rfl, _, _, hC, hg⟩
      have I13 := I12.next hC hg
      have P13 := P12.grown hg (by intro e; injection e with e; omega)
      have X13 := X12.grown hg (by intro e; injection e with e; omega)
      clear hC hg I12 P12 X12
      go_wp2_with fail
      refine (int_any cb _ I13.cod).mono ?_
      rintro e w14 ⟨v3, rfl, _, _, hC, hg⟩
      have I14 := I13.next hC hg
      have P14 := P13.grown hg (by intro e; injection e with e; omega)
      have X14 := X13.grown hg (by intro e; injection e with e; omega)
      clear hC hg I13 P13 X13
      have cX := X14.cell
      have cP := P14.cell
      have fX := X14.frozen
      have fP := P14.frozen
      have hX := X14.lt
      have W14 := I14.bel
      go_wp2_with fail
      refine bodyPost_ret (results_blk1 Try.results33 _ _ (w.heap.size + 1) _ _ rfl (blk_set8' (((P14.far (p := ⟨g8, 1, none⟩) (by simp; omega) (.int .i64 v1)).far (p := ⟨g8, 2, none⟩) (by simp; omega) (.int .i64 v2)).far (p := ⟨g8, 0, none⟩) (by simp; omega) (.int .i64 v3)) _ _ _ _ _ _ _ _) Try.underlying48 rfl rfl) rfl ⟨⟨v3, v1, v2, proto, keep, src, dst⟩, ⟨s0, s1, d0, d1⟩, rfl, ?_⟩
      exact (((((((((((W14.setCell (p := ⟨g8, 1, none⟩) (by simp; omega) _).setCell (p := ⟨g8, 2, none⟩) (by simp; omega) _).setCell (p := ⟨g8, 0, none⟩) (by simp; omega) _).setCell (by simp) _).setCell (by simp) _).setCell (by simp) _).setCell (by simp) _).setCell (by simp) _).setCell (by simp) _).setCell (by simp) _).setCell (by simp) _)
    · go_wp2_with fail
      refine bodyPost_ret (results_blk1 Try.results33 _ _ (w.heap.size + 1) _ _ rfl (blk_set8' P11 _ _ _ _ _ _ _ _) Try.underlying48 rfl rfl) rfl ⟨⟨tos, id, ttl, proto, keep, src, dst⟩, ⟨s0, s1, d0, d1⟩, rfl, ?_⟩
      exact ((((((((W11.setCell (by simp) _).setCell (by simp) _).setCell (by simp) _).setCell (by simp) _).setCell (by simp) _).setCell (by simp) _).setCell (by simp) _).setCell (by simp) _)
end Go.Proofs.Ytllaojnnackhhaa
