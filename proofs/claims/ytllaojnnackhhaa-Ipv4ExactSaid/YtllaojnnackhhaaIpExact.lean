/-
  The walk of the law Ipv4Exact.
-/
import Derived.Test.YtllaojnnackhhaaIpSame
import Derived.Test.YtllaojnnackhhaaIpPack
import Derived.Test.YtllaojnnackhhaaIpSpoilt
import Derived.Test.YtllaojnnackhhaaFrame
import Derived.Test.YtllaojnnackhhaaWireEx
namespace Go.Proofs.Ytllaojnnackhhaa
open Go.RowKit
set_option linter.unusedVariables false
set_option linter.unusedSimpArgs false

/-- five slices of bytes, side by side -/
def Five (w : World) (gl : Nat) : Prop := ∀ j, j < 5 → ∃ A m c l, w.cell? ⟨gl, j, none⟩ = some (.slice A m c) ∧ m ≤ c ∧ m ≤ 100000 ∧ Byt w w.heap.size A m l
theorem encL_len (h : Hd) (d : List Int) : (encL h d).length ≤ 20 + d.length := by
  unfold encL
  split
  · rw [List.length_append, hdB_len]; exact Nat.le_refl _
  · simp

theorem blk_step {w w1 w2 : World} {g : Nat} {t : TypeId} {cs : Array Value} (hb : Below w1.heap.size w1 w2) (h : Blk w g t cs) (hh : w1.heap = w.heap) : Blk w2 g t cs := by
  have hl := h.lt
  refine (hb.block g (by rw [hh]; exact hl)).trans ?_
  rw [hh]; exact h
theorem below_step {B : Nat} {a b b' c : World} (hb : Below b'.heap.size b' c) (h : Below B a b) (hB : B ≤ a.heap.size) (hh : b'.heap = b.heap) (ho : b'.os = b.os) (ht : b'.tape = b.tape) (hp : b'.output = b.output) : Below B a c :=
  ⟨hb.os.trans (ho.trans h.os), hb.tape.trans (ht.trans h.tape), hb.output.trans (hp.trans h.output), Nat.le_trans h.size (Nat.le_trans (by rw [hh]; exact Nat.le_refl _) hb.size), fun k hk => (hb.block k (by have := h.size; rw [hh]; omega)).trans ((by rw [hh] : b'.heap[k]? = b.heap[k]?).trans (h.block k hk))⟩
theorem apart_or {v u : Value} (h : ∀ g, u.ownBlock = some g → v.ownBlock ≠ some g) : v.ownBlock = none ∨ v.ownBlock ≠ u.ownBlock := by
  cases e : v.ownBlock with
  | none => exact .inl rfl
  | some g => exact .inr (fun e2 => h g e2.symm e)
theorem five_mk {w : World} (t : TypeId) {A0 A1 A2 A3 A4 : Option Addr} {m0 c0 m1 c1 m2 c2 m3 c3 m4 c4 : Nat} {l0 l1 l2 l3 l4 : List Int} (h0 : m0 ≤ c0) (k0 : m0 ≤ 100000) (b0 : Byt w w.heap.size A0 m0 l0) (h1 : m1 ≤ c1) (k1 : m1 ≤ 100000) (b1 : Byt w w.heap.size A1 m1 l1)
    (h2 : m2 ≤ c2) (k2 : m2 ≤ 100000) (b2 : Byt w w.heap.size A2 m2 l2) (h3 : m3 ≤ c3) (k3 : m3 ≤ 100000) (b3 : Byt w w.heap.size A3 m3 l3) (h4 : m4 ≤ c4) (k4 : m4 ≤ 100000) (b4 : Byt w w.heap.size A4 m4 l4) :
    Five (w.alloc (.cells #[.slice A0 m0 c0, .slice A1 m1 c1, .slice A2 m2 c2, .slice A3 m3 c3, .slice A4 m4 c4] t)) w.heap.size := by
  have hb := Blk.new w t #[.slice A0 m0 c0, .slice A1 m1 c1, .slice A2 m2 c2, .slice A3 m3 c3, .slice A4 m4 c4]
  have lift : ∀ {A : Option Addr} {m : Nat} {l : List Int}, Byt w w.heap.size A m l → Byt (w.alloc (.cells #[.slice A0 m0 c0, .slice A1 m1 c1, .slice A2 m2 c2, .slice A3 m3 c3, .slice A4 m4 c4] t)) (w.alloc (.cells #[.slice A0 m0 c0, .slice A1 m1 c1, .slice A2 m2 c2, .slice A3 m3 c3, .slice A4 m4 c4] t)).heap.size A m l := fun h => (h.alloc (Nat.le_refl _) _).more (by simp)
  intro j hj
  match j, hj with
  | 0, _ => exact ⟨_, _, _, _, hb.cell 0, h0, k0, lift b0⟩
  | 1, _ => exact ⟨_, _, _, _, hb.cell 1, h1, k1, lift b1⟩
  | 2, _ => exact ⟨_, _, _, _, hb.cell 2, h2, k2, lift b2⟩
  | 3, _ => exact ⟨_, _, _, _, hb.cell 3, h3, k3, lift b3⟩
  | 4, _ => exact ⟨_, _, _, _, hb.cell 4, h4, k4, lift b4⟩
  | j + 5, hj => omega
theorem Five.below {w w' : World} {gl : Nat} (h : Five w gl) (hb : Below w.heap.size w w') : Five w' gl := by
  intro j hj
  obtain ⟨A, m, c, l, hc, h1, h2, h3⟩ := h j hj
  have hlt : gl < w.heap.size := by
    rcases Nat.lt_or_ge gl w.heap.size with h | h
    · exact h
    · simp [World.cell?, Array.getElem?_eq_none h] at hc
  exact ⟨A, m, c, l, (hb.cell (p := ⟨gl, j, none⟩) hlt).trans hc, h1, h2, (h3.below hb).more hb.size⟩
theorem Five.drewN' {w : World} {gl : Nat} (h : Five w gl) (q : Nat) : Five (w.drewN q) gl := h
theorem lowL_len (l : List Int) : (lowL l).length ≤ 20 + l.length := by
  unfold lowL
  split
  · split
    · simp
    · have := encL_len (lowH l) (decD l); have := decD_len l; omega
  · simp
theorem below_grown {B cb : Nat} {a b c : World} (h : Below B a b) (g : b.grownBy c (some cb)) (hB : B ≤ cb) (hs : B ≤ b.heap.size) : Below B a c :=
  h.trans ⟨g.os, g.tape, g.output, g.size, fun k hk => g.block k (by omega) (by intro e; injection e with e; omega)⟩
theorem check7 (tos id ttl proto : Int) (keep : Bool) (src dst : Int) (w : World) : Calls Try.prog 35 #[.agg #[.int .i64 tos, .int .i64 id, .int .i64 ttl, .int .i64 proto, .bool keep, .int .u32 src, .int .u32 dst]] w fun e w' => e = .returned (.int .i64 (checkE ⟨tos, id, ttl, proto, keep, src, dst⟩)) ∧ Below w.heap.size w w' := check_any ⟨tos, id, ttl, proto, keep, src, dst⟩ w
theorem rcheck7 (tos id ttl proto : Int) (keep : Bool) (src dst : Int) (w : World) : Calls Try.prog 36 #[.agg #[.int .i64 tos, .int .i64 id, .int .i64 ttl, .int .i64 proto, .bool keep, .int .u32 src, .int .u32 dst]] w fun e w' => e = .returned (.int .i64 (checkE ⟨tos, id, ttl, proto, keep, src, dst⟩)) ∧ Below w.heap.size w w' := rcheck_any ⟨tos, id, ttl, proto, keep, src, dst⟩ w
set_option maxRecDepth 100000 in
set_option maxHeartbeats 4000000 in
theorem exact5_small (A1 A2 A3 : Option Addr) (n1 c1 n2 c2 n3 c3 : Nat) (l1 l2 l3 : List Int) (h : Hd) (hok : h.Ok) (w : World) (h1 : Byt w w.heap.size A1 n1 l1) (h2 : Byt w w.heap.size A2 n2 l2) (h3 : Byt w w.heap.size A3 n3 l3) (hc1 : n1 ≤ c1) (hc3 : n3 ≤ c3) (hm1 : (n1 : Int) ≤ 9223372036854775807) (hn2 : n2 ≤ 1600) (hn3 : n3 ≤ 1600) :
    Calls Try.prog 7 #[.slice A1 n1 c1, .agg #[.int .i64 h.tos, .int .i64 h.id, .int .i64 h.ttl, .int .i64 h.proto, .bool h.keep, .int .u32 h.src, .int .u32 h.dst], .slice A2 n2 c2, .slice A3 n3 c3] w fun e w' => e = .returned (.bool true) ∧ Below w.heap.size w w' := by
  have hl2 := h2.len
  have B1 := Blk.new w 46 #[.int .i64 h.tos, .int .i64 h.id, .int .i64 h.ttl, .int .i64 h.proto, .bool h.keep, .int .u32 h.src, .int .u32 h.dst]
  have W1 := (Below.refl w.heap.size w).alloc (Nat.le_refl _) (.cells #[.int .i64 h.tos, .int .i64 h.id, .int .i64 h.ttl, .int .i64 h.proto, .bool h.keep, .int .u32 h.src, .int .u32 h.dst] 46)
  go_enter Try.func7, Try.ntmps7
  go_upto_region 1 with fail
  generalize w.alloc (.cells #[.int .i64 h.tos, .int .i64 h.id, .int .i64 h.ttl, .int .i64 h.proto, .bool h.keep, .int .u32 h.src, .int .u32 h.dst] 46) = w1 at *
  go_wp2_with fail
  refine (awake5_any _).mono ?_
  rintro e w2 ⟨rfl, hb2⟩
  have B2 := B1.below hb2 B1.lt
  have W2 := W1.trans (hb2.mono W1.size)
  clear B1 W1 hb2
  have cB := B2.cell
  go_wp2_with fail
  refine (packet_any A1 A2 n1 c1 n2 c2 l1 h hok _ ((h1.below W2).more W2.size) hc1 hm1).mono ?_
  rintro e w3 ⟨p, hpok, rfl, hb3⟩
  have B3 := B2.below hb3 B2.lt
  have W3 := W2.trans (hb3.mono W2.size)
  clear B2 W2 hb3 cB
  have B4 := B3.alloc (.cells #[.int .i64 p.tos, .int .i64 p.id, .int .i64 p.ttl, .int .i64 p.proto, .bool p.keep, .int .u32 p.src, .int .u32 p.dst, .slice A2 n2 c2] 48)
  have P4 := Blk.new w3 48 #[.int .i64 p.tos, .int .i64 p.id, .int .i64 p.ttl, .int .i64 p.proto, .bool p.keep, .int .u32 p.src, .int .u32 p.dst, .slice A2 n2 c2]
  have W4 := W3.alloc W3.size (.cells #[.int .i64 p.tos, .int .i64 p.id, .int .i64 p.ttl, .int .i64 p.proto, .bool p.keep, .int .u32 p.src, .int .u32 p.dst, .slice A2 n2 c2] 48)
  have z4 := W3.size
  clear B3 W3
  go_upto_region 4 with fail
  generalize w3.alloc (.cells #[.int .i64 p.tos, .int .i64 p.id, .int .i64 p.ttl, .int .i64 p.proto, .bool p.keep, .int .u32 p.src, .int .u32 p.dst, .slice A2 n2 c2] 48) = w4 at *
  obtain ⟨g9, hg9⟩ : ∃ g, w3.heap.size = g := ⟨_, rfl⟩
  rw [hg9] at P4 z4 ⊢
  clear hg9
  have cP := P4.cell
  go_wp2_with fail
  refine (encode_any p hpok A2 n2 c2 l2 _ ((h2.below W4).more W4.size) (by omega)).mono ?_
  rintro e w5 ⟨A10, m10, c10, rfl, hc10, hb10, hb5⟩
  have B5 := B4.below hb5 B4.lt
  have P5 := P4.below hb5 P4.lt
  have W5 := W4.trans (hb5.mono W4.size)
  clear B4 P4 W4 hb5 cP
  have cP := P5.cell
  go_wp2_with fail
  refine (rencode_any p hpok A2 n2 c2 l2 _ ((h2.below W5).more W5.size) (by omega)).mono ?_
  rintro e w6 ⟨A12, m12, c12, rfl, hc12, hb12, hb6⟩
  have B6 := B5.below hb6 B5.lt
  have P6 := P5.below hb6 P5.lt
  have x10 := (hb10.below hb6).more hb6.size
  have W6 := W5.trans (hb6.mono W5.size)
  clear B5 P5 W5 hb6 cP hb10
  have hlL := encL_len p l2
  have hm10 : m10 ≤ 1620 := by rw [← x10.len]; omega
  have hm12 : m12 ≤ 1620 := by rw [← hb12.len]; omega
  clear hlL
  generalize encL p l2 = L at *
  generalize encE p l2 = E at *
  go_upto_region 6 with fail
  have BB : Blk w6.drew w.heap.size 46 #[.int .i64 h.tos, .int .i64 h.id, .int .i64 h.ttl, .int .i64 h.proto, .bool h.keep, .int .u32 h.src, .int .u32 h.dst] := B6
  have PP : Blk w6.drew g9 48 #[.int .i64 p.tos, .int .i64 p.id, .int .i64 p.ttl, .int .i64 p.proto, .bool p.keep, .int .u32 p.src, .int .u32 p.dst, .slice A2 n2 c2] := P6
  have XX : Byt w6.drew w6.heap.size A10 m10 L := x10
  have YY : Byt w6.drew w6.heap.size A12 m12 L := hb12
  have ZZ : Below w6.heap.size w6 w6.drew := (Below.refl _ _).drew
  go_cut [89] (fun s89 wx => s89 = .bool false ∧ Below w6.heap.size w6 wx)
  case first =>
    go_region_held3 (fun w' => w'.cell? ⟨w.heap.size, 0, none⟩ = some (.int .i64 h.tos) ∧ w'.cell? ⟨w.heap.size, 1, none⟩ = some (.int .i64 h.id) ∧ w'.cell? ⟨w.heap.size, 2, none⟩ = some (.int .i64 h.ttl) ∧ w'.cell? ⟨w.heap.size, 3, none⟩ = some (.int .i64 h.proto) ∧ w'.cell? ⟨w.heap.size, 4, none⟩ = some (.bool h.keep) ∧ w'.cell? ⟨w.heap.size, 5, none⟩ = some (.int .u32 h.src) ∧ w'.cell? ⟨w.heap.size, 6, none⟩ = some (.int .u32 h.dst) ∧ w'.cell? ⟨g9, 0, none⟩ = some (.int .i64 p.tos) ∧ w'.cell? ⟨g9, 1, none⟩ = some (.int .i64 p.id) ∧ w'.cell? ⟨g9, 2, none⟩ = some (.int .i64 p.ttl) ∧ w'.cell? ⟨g9, 3, none⟩ = some (.int .i64 p.proto) ∧ w'.cell? ⟨g9, 4, none⟩ = some (.bool p.keep) ∧ w'.cell? ⟨g9, 5, none⟩ = some (.int .u32 p.src) ∧ w'.cell? ⟨g9, 6, none⟩ = some (.int .u32 p.dst))
      (exact ⟨BB.cell 0, BB.cell 1, BB.cell 2, BB.cell 3, BB.cell 4, BB.cell 5, BB.cell 6, PP.cell 0, PP.cell 1, PP.cell 2, PP.cell 3, PP.cell 4, PP.cell 5, PP.cell 6⟩)
      (first
        | (go_at_call 20
           refine (requal_any _ _ _ _ _ _ _ _ _ _ XX YY (by omega) (by omega)).mono ?_
           rintro e w7 ⟨rfl, q, rfl⟩
           rw [eqB_refl]
           replace BB := BB.drewN q
           replace PP := PP.drewN q
           replace ZZ := below_drewN ZZ q)
        | (go_at_call 35
           refine (check7 _ _ _ _ _ _ _ _).mono ?_
           rintro e w7 ⟨rfl, hb7⟩
           replace BB := blk_step hb7 BB rfl
           replace PP := blk_step hb7 PP rfl
           replace ZZ := below_step hb7 ZZ (Nat.le_refl _) rfl rfl rfl rfl)
        | (go_at_call 36
           refine (rcheck7 _ _ _ _ _ _ _ _).mono ?_
           rintro e w7 ⟨rfl, hb7⟩
           replace BB := blk_step hb7 BB rfl
           replace PP := blk_step hb7 PP rfl
           replace ZZ := below_step hb7 ZZ (Nat.le_refl _) rfl rfl rfl rfl))
    all_goals (go_wp2_with fail; go_meet; exact ⟨rfl, ZZ⟩)
  case rest =>
    obtain ⟨rfl, hb7⟩ := hcut
    clear BB PP XX YY ZZ
    obtain ⟨w7, rfl⟩ : ∃ w7, w7 = wc := ⟨_, rfl⟩
    have x7 := (hb12.below hb7).more hb7.size
    have W7 := W6.trans (hb7.mono W6.size)
    clear W6 x10 hb12 B6 P6 hb7
    go_wp2_with fail
    refine (new_any _ _ _ _ _ _ ((h1.below W7).more W7.size) hc1 hm1 (by omega) (by omega)).mono ?_
    rintro e w8 ⟨rfl, C8, hb8, hs8⟩
    have x8 := x7.below hb8
    have r8 := ((h3.below W7).more W7.size).below hb8
    have W8 := W7.trans (hb8.mono W7.size)
    have hcw : w.heap.size ≤ w7.heap.size := W7.size
    clear hs8 hb8 x7 W7 h1 h2 h3 hm1
    obtain ⟨cb, hcb⟩ : ∃ cb, w7.heap.size = cb := ⟨_, rfl⟩
    rw [hcb] at C8 x8 r8 hcw ⊢
    clear hcb
    have h8 := C8.lt
    go_upto_region 9 with fail
    obtain ⟨kh, hkh⟩ : ∃ kh, kh = m12 / 2 := ⟨_, rfl⟩
    have hcut1 : ∀ wx : World, (Instr.sliceAt 22 (.slice A12 m12 c12) none (some (.int .i64 (kh : Int))) none).run Try.prog wx = .ok (.slice A12 kh c12) wx := fun wx => cut_to A12 m12 c12 kh (by omega) wx
    have hq : IntKind.i64.wrap ((m12 : Int).tdiv 2) = (kh : Int) := by
      rw [IntWalk.i64_in _ (by rw [Int.tdiv_eq_ediv_of_nonneg (by omega)]; omega), Int.tdiv_eq_ediv_of_nonneg (by omega)]; omega
    have hq4 : (m12 : Int) / 2 = (kh : Int) := by omega
    have hq5 : (m12 : Int).tdiv 2 = (kh : Int) := by rw [Int.tdiv_eq_ediv_of_nonneg (by omega)]; omega
    have hq6 : IntKind.i64.wrap (kh : Int) = (kh : Int) := IntWalk.i64_in _ (by omega)
    have hkm : kh ≤ m12 := by omega
    clear hkh
    have hxL : Bs L := x8.2
    have hr3 : Bs l3 := r8.2
    have CC : Cod w8.drew cb := C8
    have XX : Byt w8.drew cb A12 m12 L := x8
    have RR : Byt w8.drew cb A3 n3 l3 := r8
    have GG : w8.grownBy w8.drew (some cb) := grown_drew _ _
    go_cut [106, 107, 108] (fun s106 s107 s108 wx => ∃ gl, s106 = .slice (some ⟨gl, 0, none⟩) 5 5 ∧ s107 = .int .i64 5 ∧ s108 = .int .i64 0 ∧ Five wx gl ∧ Below w.heap.size w wx)
    case first =>
      go_region_held3 (fun w' => True)
        (trivial)
        (first
          | (go_at_call 37
             refine (spoilt_any cb _ m12 c12 A12 L CC XX hc12 (by omega)).mono ?_
             rintro e ws ⟨As, ms, cs, ls, rfl, hcs, hms, SP, hls, CC', gs⟩
             have SPL := SP.lt
             have CL := CC.lt
             have gsz := gs.size
             replace XX : Byt ws cb A12 m12 L := ⟨XX.1.grown gs (Nat.le_of_lt CL) (by intro g e; injection e with e; omega), XX.2⟩
             replace RR : Byt ws cb A3 n3 l3 := ⟨RR.1.grown gs (Nat.le_of_lt CL) (by intro g e; injection e with e; omega), RR.2⟩
             replace CC := CC'
             replace GG := grown_trans GG gs
             (try have DJ : ∀ g, (Value.slice A98 m12 c98).ownBlock = some g → (Value.slice As ms cs).ownBlock ≠ some g := fun g e1 e2 => by have := OWN1.lt g e1; have := SPL g e2; omega)
             (try replace OWN1 := OWN1.kept gs (.inr (by intro e; have := OWN1.lt _ e; omega)))
             (try replace OWN2 := OWN2.kept gs (.inr (by intro e; have := OWN2.lt _ e; omega))))
          | (refine step_app (by rfl) _ (.tmp 97) _ (by rfl) elU8 _ none 0 0 [] (by rfl) (World.ownsRow_nil _ _ _ _) _ A12 m12 c12 (bv L) (by rfl) XX.1 (bv_one _) (by omega) (Nat.le_refl _) m12 (by omega) ?_
             intro A98 c98 wa hc98 hm98 OWN1 hba hga
             rw [List.nil_append] at OWN1
             have CL := CC.lt
             have hbs := hba.size
             have hgz := GG.size
             replace XX := XX.below (hba.mono (Nat.le_of_lt CL))
             replace RR := RR.below (hba.mono (Nat.le_of_lt CL))
             replace CC := CC.below hba CL
             replace GG := grown_below GG (hba.mono GG.size)
             (try have DJ : ∀ g, (Value.slice A98 m12 c98).ownBlock = some g → (Value.slice As ms cs).ownBlock ≠ some g := fun g e1 e2 => by have := OWN1.lt g e1; have := SP.lt g e2; omega)
             (try replace SP := own_below SP hba))
          | (refine step_app (by rfl) (.tmp 98) (.tmp 99) _ (by rfl) elU8 _ A98 m12 c98 (bv L) (by rfl) OWN1 _ A3 n3 c3 (bv l3) (by rfl) RR.1 (bv_one _) (by omega) (by omega) (m12 + n3) (by omega) ?_
             intro A100 c100 wb hc100 hm100 OWN2 hbb hgb
             replace XX := XX.below (hbb.mono (Nat.le_of_lt (by omega)))
             replace RR := RR.below (hbb.mono (Nat.le_of_lt (by omega)))
             replace CC := CC.below hbb (by omega)
             replace GG := grown_below GG (hbb.mono (by omega))
             (try replace SP := SP.kept hgb (apart_or DJ)))
          | fail)
      all_goals go_wp2_with fail
      all_goals go_meet
      all_goals exact ⟨_, rfl, rfl, rfl, five_mk _ hc3 (by omega) (RR.more (Nat.le_of_lt CC.lt)) hc12 (by omega) (XX.more (Nat.le_of_lt CC.lt)) hcs (by omega) (byt_own SP hls) hc100 (by omega) (byt_own (by rw [bv_app]; exact OWN2) (hxL.app hr3)) (by omega) (by omega) ((XX.more (Nat.le_of_lt CC.lt)).head hkm), (below_grown W8 GG hcw W8.size).alloc (Nat.le_trans W8.size GG.size) _⟩
    case rest =>
      obtain ⟨gl, rfl, rfl, rfl, F5, W9⟩ := hcut
      clear hcut1 hq hq4 hq5 hq6 hkm CC XX RR GG C8 x8 r8 h8 W8 hcw
      go_wp2_with fail
      go_loopw [108] (fun s108 wr => ∃ k : Nat, k ≤ 5 ∧ s108 = .int .i64 k ∧ Five wr gl ∧ Below w.heap.size w wr) (fun s108 _ => 5 - (intOf s108).toNat)
      case atStart => exact ⟨0, by omega, rfl, F5, W9⟩
      case round =>
        obtain ⟨k, hk, rfl, F, W⟩ := hrel
        clear F5 W9
        by_cases hlt : k < 5
        · obtain ⟨A, n, c, l, hcell, hnc, hn, y⟩ := F k hlt
          go_wp2_with fail
          refine (decode_any _ _ _ _ _ y hnc hn).mono ?_
          rintro e wk ⟨Aq, mq, cq, rfl, hcq, bq, hb⟩
          replace F := F.below hb
          replace y := (y.below hb).more hb.size
          replace W := W.trans (hb.mono W.size)
          clear hb
          have Q := Blk.new wk 48 #[.int .i64 (decH l).tos, .int .i64 (decH l).id, .int .i64 (decH l).ttl, .int .i64 (decH l).proto, .bool (decH l).keep, .int .u32 (decH l).src, .int .u32 (decH l).dst, .slice Aq mq cq]
          have hba := (Below.refl wk.heap.size wk).alloc (Nat.le_refl _) (.cells #[.int .i64 (decH l).tos, .int .i64 (decH l).id, .int .i64 (decH l).ttl, .int .i64 (decH l).proto, .bool (decH l).keep, .int .u32 (decH l).src, .int .u32 (decH l).dst, .slice Aq mq cq] 48)
          replace F := F.below hba
          replace y := (y.below hba).more hba.size
          replace W := W.trans (hba.mono W.size)
          replace bq := (bq.below hba).more hba.size
          go_upto_region 13 with fail
          generalize wk.alloc (.cells #[.int .i64 (decH l).tos, .int .i64 (decH l).id, .int .i64 (decH l).ttl, .int .i64 (decH l).proto, .bool (decH l).keep, .int .u32 (decH l).src, .int .u32 (decH l).dst, .slice Aq mq cq] 48) = wl at *
          obtain ⟨gq, hgq⟩ : ∃ g, wk.heap.size = g := ⟨_, rfl⟩
          rw [hgq] at Q ⊢
          clear hba hgq
          go_wp2_with fail
          refine (rdecode_any _ _ _ _ _ y hnc hn).mono ?_
          rintro e wk ⟨Ar, mr, cr, rfl, hcr, br, hb⟩
          replace F := F.below hb
          replace y := (y.below hb).more hb.size
          replace W := W.trans (hb.mono W.size)
          replace bq := (bq.below hb).more hb.size
          replace Q := Q.below hb Q.lt
          clear hb
          have R := Blk.new wk 48 #[.int .i64 (decH l).tos, .int .i64 (decH l).id, .int .i64 (decH l).ttl, .int .i64 (decH l).proto, .bool (decH l).keep, .int .u32 (decH l).src, .int .u32 (decH l).dst, .slice Ar mr cr]
          have hba := (Below.refl wk.heap.size wk).alloc (Nat.le_refl _) (.cells #[.int .i64 (decH l).tos, .int .i64 (decH l).id, .int .i64 (decH l).ttl, .int .i64 (decH l).proto, .bool (decH l).keep, .int .u32 (decH l).src, .int .u32 (decH l).dst, .slice Ar mr cr] 48)
          replace F := F.below hba
          replace y := (y.below hba).more hba.size
          replace W := W.trans (hba.mono W.size)
          replace bq := (bq.below hba).more hba.size
          replace Q := Q.below hba Q.lt
          replace br := (br.below hba).more hba.size
          go_upto_region 14 with fail
          generalize wk.alloc (.cells #[.int .i64 (decH l).tos, .int .i64 (decH l).id, .int .i64 (decH l).ttl, .int .i64 (decH l).proto, .bool (decH l).keep, .int .u32 (decH l).src, .int .u32 (decH l).dst, .slice Ar mr cr] 48) = wm at *
          obtain ⟨gr, hgr⟩ : ∃ g, wk.heap.size = g := ⟨_, rfl⟩
          rw [hgr] at R ⊢
          clear hba hgr
          go_wp2_with fail
          refine (peek_any _ _ _ _ _ y hnc hn).mono ?_
          rintro e wk ⟨rfl, hb⟩
          replace F := F.below hb
          replace y := (y.below hb).more hb.size
          replace W := W.trans (hb.mono W.size)
          replace bq := (bq.below hb).more hb.size
          replace Q := Q.below hb Q.lt
          replace br := (br.below hb).more hb.size
          replace R := R.below hb R.lt
          clear hb
          simp only [hv, hcells]
          have T := Blk.new wk 46 #[.int .i64 (peekH l).tos, .int .i64 (peekH l).id, .int .i64 (peekH l).ttl, .int .i64 (peekH l).proto, .bool (peekH l).keep, .int .u32 (peekH l).src, .int .u32 (peekH l).dst]
          have hba := (Below.refl wk.heap.size wk).alloc (Nat.le_refl _) (.cells #[.int .i64 (peekH l).tos, .int .i64 (peekH l).id, .int .i64 (peekH l).ttl, .int .i64 (peekH l).proto, .bool (peekH l).keep, .int .u32 (peekH l).src, .int .u32 (peekH l).dst] 46)
          replace F := F.below hba
          replace y := (y.below hba).more hba.size
          replace W := W.trans (hba.mono W.size)
          replace bq := (bq.below hba).more hba.size
          replace Q := Q.below hba Q.lt
          replace br := (br.below hba).more hba.size
          replace R := R.below hba R.lt
          go_upto_region 15 with fail
          generalize wk.alloc (.cells #[.int .i64 (peekH l).tos, .int .i64 (peekH l).id, .int .i64 (peekH l).ttl, .int .i64 (peekH l).proto, .bool (peekH l).keep, .int .u32 (peekH l).src, .int .u32 (peekH l).dst] 46) = wn at *
          obtain ⟨gt, hgt⟩ : ∃ g, wk.heap.size = g := ⟨_, rfl⟩
          rw [hgt] at T ⊢
          clear hba hgt
          go_wp2_with fail
          refine (rpeek_any _ _ _ _ _ y hnc hn).mono ?_
          rintro e wk ⟨rfl, hb⟩
          replace F := F.below hb
          replace y := (y.below hb).more hb.size
          replace W := W.trans (hb.mono W.size)
          replace bq := (bq.below hb).more hb.size
          replace Q := Q.below hb Q.lt
          replace br := (br.below hb).more hb.size
          replace R := R.below hb R.lt
          replace T := T.below hb T.lt
          clear hb
          simp only [hv, hcells]
          have U := Blk.new wk 46 #[.int .i64 (peekH l).tos, .int .i64 (peekH l).id, .int .i64 (peekH l).ttl, .int .i64 (peekH l).proto, .bool (peekH l).keep, .int .u32 (peekH l).src, .int .u32 (peekH l).dst]
          have hba := (Below.refl wk.heap.size wk).alloc (Nat.le_refl _) (.cells #[.int .i64 (peekH l).tos, .int .i64 (peekH l).id, .int .i64 (peekH l).ttl, .int .i64 (peekH l).proto, .bool (peekH l).keep, .int .u32 (peekH l).src, .int .u32 (peekH l).dst] 46)
          replace F := F.below hba
          replace y := (y.below hba).more hba.size
          replace W := W.trans (hba.mono W.size)
          replace bq := (bq.below hba).more hba.size
          replace Q := Q.below hba Q.lt
          replace br := (br.below hba).more hba.size
          replace R := R.below hba R.lt
          replace T := T.below hba T.lt
          go_upto_region 16 with fail
          generalize wk.alloc (.cells #[.int .i64 (peekH l).tos, .int .i64 (peekH l).id, .int .i64 (peekH l).ttl, .int .i64 (peekH l).proto, .bool (peekH l).keep, .int .u32 (peekH l).src, .int .u32 (peekH l).dst] 46) = wo at *
          obtain ⟨gu, hgu⟩ : ∃ g, wk.heap.size = g := ⟨_, rfl⟩
          rw [hgu] at U ⊢
          clear hba hgu
          go_wp2_with fail
          refine (lower_any _ _ _ _ _ y hnc hn).mono ?_
          rintro e wk ⟨Au, mu, cu, rfl, hcu, bu, hb⟩
          replace F := F.below hb
          replace y := (y.below hb).more hb.size
          replace W := W.trans (hb.mono W.size)
          replace bq := (bq.below hb).more hb.size
          replace Q := Q.below hb Q.lt
          replace br := (br.below hb).more hb.size
          replace R := R.below hb R.lt
          replace T := T.below hb T.lt
          replace U := U.below hb U.lt
          clear hb
          go_wp2_with fail
          refine (rlower_any _ _ _ _ _ y hnc hn).mono ?_
          rintro e wk ⟨Av, mv, cv, rfl, hcv, bv', hb⟩
          replace F := F.below hb
          replace y := (y.below hb).more hb.size
          replace W := W.trans (hb.mono W.size)
          replace bq := (bq.below hb).more hb.size
          replace Q := Q.below hb Q.lt
          replace br := (br.below hb).more hb.size
          replace R := R.below hb R.lt
          replace T := T.below hb T.lt
          replace U := U.below hb U.lt
          replace bu := (bu.below hb).more hb.size
          clear hb
          have cQ := Q.cell
          have cR := R.cell
          have cT := T.cell
          have cU := U.cell
          have nq := bq.len
          have nr := br.len
          have nd := decD_len l
          have ny := y.len
          have HN := Lib.hid (And.intro nq (And.intro nr (And.intro nd ny)))
          clear nq nr nd ny
          go_wp2_with fail
          refine (same_any (decH l) Aq mq cq (decD l) Ar mr cr (decD l) _ bq br (by have := HN.out; omega) (by have := HN.out; omega)).mono ?_
          rintro e wk ⟨rfl, hb⟩
          replace F := F.below hb
          replace y := (y.below hb).more hb.size
          replace W := W.trans (hb.mono W.size)
          replace bq := (bq.below hb).more hb.size
          replace Q := Q.below hb Q.lt
          replace br := (br.below hb).more hb.size
          replace R := R.below hb R.lt
          replace T := T.below hb T.lt
          replace U := U.below hb U.lt
          replace bu := (bu.below hb).more hb.size
          replace bv' := (bv'.below hb).more hb.size
          clear hb cQ cR cT cU
          rw [eqB_refl]
          have cT := T.cell
          have cU := U.cell
          have nu := lowL_len l
          have HU := Lib.hid (And.intro bu.len (And.intro bv'.len nu))
          clear nu
          go_wp2_with fail
          refine (requal_any _ _ _ _ _ _ _ _ _ _ bu bv' (by have := HU.out; have := HN.out; omega) (by have := HU.out; have := HN.out; omega)).mono ?_
          rintro e wz ⟨rfl, q, rfl⟩
          rw [eqB_refl]
          go_wp2_with fail
          go_roundw
          case rel => exact ⟨k + 1, by omega, by go_num, F.drewN' q, below_drewN W q⟩
          case measure => simp [intOf]; omega
        · go_wp2_with fail
          go_ret
          exact ⟨rfl, W⟩
set_option maxRecDepth 100000 in
theorem ipv4Exact_walk (A1 : Option Addr) (n1 c1 : Nat) (l1 : List Int) (h : Hd) (A2 : Option Addr) (n2 c2 : Nat) (l2 : List Int) (A3 : Option Addr) (n3 c3 : Nat) (l3 : List Int) (w : World) (h1 : Byt w w.heap.size A1 n1 l1) (hc1 : n1 ≤ c1) (hm1 : c1 ≤ maxLen) (hok : h.Ok) (h2 : Byt w w.heap.size A2 n2 l2) (hc2 : n2 ≤ c2) (h3 : Byt w w.heap.size A3 n3 l3) (hc3 : n3 ≤ c3) :
    Calls Try.prog 7 #[.slice A1 n1 c1, .agg #[.int .i64 h.tos, .int .i64 h.id, .int .i64 h.ttl, .int .i64 h.proto, .bool h.keep, .int .u32 h.src, .int .u32 h.dst], .slice A2 n2 c2, .slice A3 n3 c3] w fun e w' => e = .returned (.bool true) ∧ Below w.heap.size w w' := by
  by_cases hn2 : n2 ≤ 1600
  · by_cases hn3 : n3 ≤ 1600
    · exact exact5_small _ _ _ _ _ _ _ _ _ _ _ _ h hok _ h1 h2 h3 hc1 hc3 (by unfold maxLen at hm1; omega) hn2 hn3
    · have h3 : 1600 < n3 := by omega
      have W1 := (Below.refl w.heap.size w).alloc (Nat.le_refl _) (.cells #[.int .i64 h.tos, .int .i64 h.id, .int .i64 h.ttl, .int .i64 h.proto, .bool h.keep, .int .u32 h.src, .int .u32 h.dst] 46)
      clear hn3
      go_enter Try.func7, Try.ntmps7
      go_wp2_with (go_at_call 27; refine (awake5_any _).mono ?_; rintro e w1 ⟨rfl, hb1⟩)
      go_ret
      exact ⟨ret_bool (by simp; try omega), W1.trans (hb1.mono (by simp))⟩
  · have h2 : 1600 < n2 := by omega
    have W1 := (Below.refl w.heap.size w).alloc (Nat.le_refl _) (.cells #[.int .i64 h.tos, .int .i64 h.id, .int .i64 h.ttl, .int .i64 h.proto, .bool h.keep, .int .u32 h.src, .int .u32 h.dst] 46)
    clear hn2
    go_enter Try.func7, Try.ntmps7
    go_wp2_with (go_at_call 27; refine (awake5_any _).mono ?_; rintro e w1 ⟨rfl, hb1⟩)
    go_ret
    exact ⟨ret_bool (by simp; try omega), W1.trans (hb1.mono (by simp))⟩
end Go.Proofs.Ytllaojnnackhhaa
