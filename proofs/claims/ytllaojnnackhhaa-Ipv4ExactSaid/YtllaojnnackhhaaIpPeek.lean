/-
  The walk of ipv4.Peek.
-/
import Derived.Test.YtllaojnnackhhaaIpREnc
import Derived.Deep.DeepCutAuto
import Derived.Deep.DeepFit
namespace Go.Proofs.Ytllaojnnackhhaa
open Go.RowKit
set_option linter.unusedVariables false
set_option linter.unusedSimpArgs false

theorem results_blk3 {P : Program} {fn : Func} {p u v : Tmp} {ty : TypeId} (h : fn.results = #[.cell p ty, .tmp u, .tmp v]) (tmps : Array Value) (w : World) (g : Nat) (cs : Array Value) (d : TypeDesc)
    (hp : tmps.getD p undef = .pointer (some ⟨g, 0, none⟩)) (hg : Blk w g ty cs) (hu : P.underlying ty = some d) (hd : (match d with | .struct _ | .array _ _ => true | _ => false) = true) (hi : (P.info? ty).map (·.size) = some cs.size) :
    (results fn tmps).run P w = .ok (.tuple #[.agg cs, tmps.getD u undef, tmps.getD v undef]) w := by
  have hp' : tmps[p]?.getD undef = .pointer (some ⟨g, 0, none⟩) := by simpa using hp
  simp [results, h, hp', asAddr, run_loadVar_row w g ty ty cs (0, 0) d hg hu hd hi]
theorem blk_set7 {w : World} {g : Nat} {t : TypeId} {c0 c1 c2 c3 c4 c5 c6 : Value} (h : Blk w g t #[c0, c1, c2, c3, c4, c5, c6]) (a0 a1 a2 a3 a4 a5 a6 : Value) :
    Blk (((((((w.setCell ⟨g, 0, none⟩ a0).setCell ⟨g, 1, none⟩ a1).setCell ⟨g, 2, none⟩ a2).setCell ⟨g, 3, none⟩ a3).setCell ⟨g, 4, none⟩ a4).setCell ⟨g, 5, none⟩ a5).setCell ⟨g, 6, none⟩ a6) g t #[a0, a1, a2, a3, a4, a5, a6] := by
  have := (((((((h.set_ 0 a0).set_ 1 a1).set_ 2 a2).set_ 3 a3).set_ 4 a4).set_ 5 a5).set_ 6 a6)
  simpa using this
theorem getV_bd (l : List Int) (hl : Bs l) (p k : Int) (h : k ≤ 6) : 0 ≤ getV l p k ∧ getV l p k < 256 ^ k.toNat := by
  unfold getV
  have h1 : (0 : Int) < 256 ^ k.toNat := Int.pow_pos (by omega)
  split
  · omega
  · split
    · omega
    · have := be_bd ((l.drop p.toNat).take k.toNat) ((hl.drop _).take _)
      have e : ((l.drop p.toNat).take k.toNat).length = k.toNat := by simp only [List.length_take, List.length_drop]; omega
      rw [e] at this
      exact this

theorem peek_short (A : Option Addr) (n c : Nat) (w : World) (hn : n < 20) :
    Calls Try.prog 31 #[.slice A n c] w fun e w' => e = .returned (.tuple #[hv Hd.zero, .int .i64 0, .int .i64 3]) ∧ Below w.heap.size w w' := by
  go_enter Try.func31, Try.ntmps31
  go_wp2_with fail
  refine bodyPost_ret (v := .tuple #[hv Hd.zero, .int .i64 0, .int .i64 3]) (by simp [results, Try.results31, go_sem, hv, hcells, Hd.zero]) rfl ⟨rfl, ?_⟩
  exact ((Below.refl _ _).alloc (Nat.le_refl _) _).alloc (by simp) _

def PeekR (b : List Int) (w : World) (e : Ending) (w' : World) : Prop := e = .returned (.tuple #[hv (peekH b), .int .i64 (peekN b), .int .i64 (peekE b)]) ∧ Below w.heap.size w w'

set_option maxRecDepth 100000 in
set_option maxHeartbeats 4000000 in
theorem peek_ok (A : Option Addr) (n c : Nat) (l : List Int) (w : World) (hl : Byt w w.heap.size A n l) (hn : 20 ≤ n) (hnc : n ≤ c) (hn2 : n ≤ 100000)  :
    Calls Try.prog 31 #[.slice A n c] w (PeekR l w) := by
  have hl20 := hl.head hn
  have hE : peekE l = if formB (l.take 20) then (if sumB (l.take 20) then 0 else 4) else 2 := by unfold peekE; rw [if_neg (by rw [hl.len]; omega)]
  have hHN : (peekE l = 0 → peekH l = pkH (l.take 20) ∧ peekN l = getV (l.take 20) 2 2) ∧ (peekE l ≠ 0 → peekH l = Hd.zero ∧ peekN l = 0) := by
    unfold peekH peekN
    exact ⟨fun h => by rw [if_pos h, if_pos h]; exact ⟨rfl, rfl⟩, fun h => by rw [if_neg h, if_neg h]; exact ⟨rfl, rfl⟩⟩
  have hsum := sum_iff (l.take 20) hl20.len hl20.2
  obtain ⟨L, hL⟩ : ∃ L, l.take 20 = L := ⟨_, rfl⟩
  rw [hL] at hE hl20 hHN hsum
  clear hL hl
  have v0 := getV_bd L hl20.2 0 1 (by omega)
  have v1 := getV_bd L hl20.2 1 1 (by omega)
  have v2 := getV_bd L hl20.2 2 2 (by omega)
  have v4 := getV_bd L hl20.2 4 2 (by omega)
  have v6 := getV_bd L hl20.2 6 2 (by omega)
  have v8 := getV_bd L hl20.2 8 1 (by omega)
  have v9 := getV_bd L hl20.2 9 1 (by omega)
  have v10 := getV_bd L hl20.2 10 2 (by omega)
  have v12 := getV_bd L hl20.2 12 4 (by omega)
  have v16 := getV_bd L hl20.2 16 4 (by omega)
  simp only [show (4 : Int).toNat = 4 from rfl, show (2 : Int).toNat = 2 from rfl, show (1 : Int).toNat = 1 from rfl, show (256 : Int) ^ 4 = 4294967296 from rfl, show (256 : Int) ^ 2 = 65536 from rfl, show (256 : Int) ^ 1 = 256 from rfl] at v0 v1 v2 v4 v6 v8 v9 v10 v12 v16
  obtain ⟨v0, _⟩ := v0
  obtain ⟨v2, _⟩ := v2
  obtain ⟨v6, _⟩ := v6
  obtain ⟨v10, _⟩ := v10
  obtain ⟨v12, v12'⟩ := v12
  obtain ⟨v16, v16'⟩ := v16
  clear v1 v4 v8 v9
  have HE := Lib.hid (And.intro hE (And.intro hHN hsum))
  clear hE hHN hsum
  go_enter Try.func31, Try.ntmps31
  go_wp2_with fail
  refine (clone_any _ _ _ _ _ ((((hl20.alloc (Nat.le_refl _) _).alloc (by simp) _).more (by simp; omega))) (by omega)).mono ?_
  rintro e w1 ⟨A1, m1, c1, rfl, hc1, hm1, hown1, hb1⟩
  have B0 : Blk w1 w.heap.size 22 #[.slice A n c] := ((Blk.new w _ _).alloc _).below hb1 (by simp; omega)
  have B1 : Blk w1 (w.heap.size + 1) 46 #[.int .i64 0, .int .i64 0, .int .i64 0, .int .i64 0, .bool false, .int .u32 0, .int .u32 0] := by
    have := (Blk.new (w.alloc (.cells #[.slice A n c] 22)) 46 #[.int .i64 0, .int .i64 0, .int .i64 0, .int .i64 0, .bool false, .int .u32 0, .int .u32 0]).below hb1 (by simp)
    simpa using this
  have hm1 : m1 = 20 := by have := hown1.1; rw [bv_len, hl20.len] at this; omega
  subst hm1
  have W1 : Below w.heap.size w w1 := (((Below.refl _ _).alloc (Nat.le_refl _) _).alloc (by simp) _).trans (hb1.mono (by simp; omega))
  have hown2 : (w1.setCell ⟨w.heap.size, 0, none⟩ (.slice A1 20 c1)).ownsRow (w.heap.size + 2) 5 1 (.slice A1 20 c1) 20 (bv L) := ownsRow_setCell_below (own_base hown1 (by simp)) (by simp) _
  have B0' := (B0.set_ 0 (.slice A1 20 c1))
  have B1' := B1.far (p := ⟨w.heap.size, 0, none⟩) (by simp) (.slice A1 20 c1)
  have hc0 := B0.cell 0
  have hf0 := B0.frozen 0
  have W2 : Below w.heap.size w (w1.setCell ⟨w.heap.size, 0, none⟩ (.slice A1 20 c1)) := W1.setCell (by simp) _
  clear hown1 hb1
  go_wp2_with fail
  have hsz : w1.heap.size = (w1.setCell ⟨w.heap.size, 0, none⟩ (.slice A1 20 c1)).heap.size := by simp
  rw [hsz]
  clear hsz hc0 hf0 B0 B1 W1
  generalize w1.setCell ⟨w.heap.size, 0, none⟩ (.slice A1 20 c1) = w2 at *
  obtain ⟨g, cg, hform, hg0, hg1⟩ := hown2.form (by omega)
  injection hform with hform _ hcg
  subst hform
  subst hcg
  have HB := Lib.hid (byt_own hown2 hl20.2)
  have HO := Lib.hid hown2
  clear hown2
  have hc0 := B0'.cell 0
  have hlt0 := B0'.lt
  have hlt1 := B1'.lt
  simp only [Array.setIfInBounds] at hc0
  go_upto_region 15 with (first
    | (go_at_call 12; refine (get_any _ _ _ _ _ _ (by first | exact HB.out.alloc (Nat.le_refl _) _ | exact (HB.out.alloc (Nat.le_refl _) _).alloc (by simp) _) (by omega) (by omega) _ _).mono ?_; rintro e w' ⟨rfl, rfl⟩)
    | go_in
    | fail)
  have cB1 := B1'.cell
  have fB1 := B1'.frozen
  have hend : ∀ o1 o2, Below w.heap.size w ((w2.alloc o1).alloc o2) := fun o1 o2 => (W2.alloc W2.size _).alloc (by have := W2.size; simp; omega) _
  have HW := Lib.hid hend
  clear hend
  by_cases f0 : getV L 0 1 = 69
  · by_cases f1 : getV L 6 2 = 0 ∨ getV L 6 2 = 16384
    · by_cases f2 : 20 ≤ getV L 2 2
      · have hform := Lib.hid (show formB L = true from decide_eq_true ⟨f0, f1, f2⟩)
        have f0' : (getV L 0 1 != 69) = false := by simp [f0]
        clear f0
        obtain ⟨y10, s10⟩ : ∃ x, w2.cell? ⟨g, 10, none⟩ = some x := by
          have e := HO.out.cellAt 10 (by omega)
          rw [List.getElem?_eq_getElem (by have := HO.out.1; omega)] at e
          exact ⟨_, e⟩
        obtain ⟨y11, s11⟩ : ∃ x, w2.cell? ⟨g, 11, none⟩ = some x := by
          have e := HO.out.cellAt 11 (by omega)
          rw [List.getElem?_eq_getElem (by have := HO.out.1; omega)] at e
          exact ⟨_, e⟩
        have t10 := HO.out.frozenAt 10
        have t11 := HO.out.frozenAt 11
        have HZ : Hid (Byt ((w2.setCell ⟨g, 10, none⟩ (.int .u8 0)).setCell ⟨g, 11, none⟩ (.int .u8 0)) w2.heap.size (some ⟨g, 0, none⟩) 20 (zeroed L)) := by
          have hz : Bs (zeroed L) := by
            intro z hz
            rcases List.mem_or_eq_of_mem_set hz with hz | rfl
            · rcases List.mem_or_eq_of_mem_set hz with hz | rfl
              · exact hl20.2 z hz
              · omega
            · omega
          have h1 := ((HO.out.stored 10 (.int .u8 0)).1.stored 11 (.int .u8 0)).1
          have h2 := byt_own (l := zeroed L) (by simpa [zeroed, bv, List.map_set] using h1) hz
          show Byt _ _ _ _ _
          simpa using h2
        have W3 : Below w.heap.size w ((w2.setCell ⟨g, 10, none⟩ (.int .u8 0)).setCell ⟨g, 11, none⟩ (.int .u8 0)) := (W2.setCell (by simp; omega) _).setCell (by simp; omega) _
        have B3 := (B1'.far (p := ⟨g, 10, none⟩) (by simp; omega) (.int .u8 0)).far (p := ⟨g, 11, none⟩) (by simp; omega) (.int .u8 0)
        have F1 := Lib.hid f1
        clear f1
        by_cases f1 : getV L 6 2 = 0
        · have f3 : (getV L 6 2 != 0) = false := by simp [f1]
          clear f1
          go_wp2_with fail
          go_region
          go_wp2_with fail
          refine (checksum_any _ _ _ _ _ _ (by first | exact (((HZ.out.alloc (by simp) _).alloc (by simp) _).drew) | exact (((HZ.out.alloc (by simp) _).alloc (by simp) _)) | exact ((HZ.out.drew.alloc (by simp) _).alloc (by simp) _)) (by omega)).mono ?_
          rintro e w' ⟨rfl, rfl⟩
          by_cases hs : sumB L = true
          · have hq : (65535 - sm (zeroed L) != getV L 10 2) = false := by have := HE.out.2.2 hform.out; rw [hs] at this; simpa using this
            have hE : peekE l = 0 := by rw [HE.out.1, hform.out, hs]; rfl
            have hE2 := HE.out.2.1.1 hE
            have HR : Hid (Ending.returned (.tuple #[.agg #[.int .i64 (getV L 1 1), .int .i64 (getV L 4 2), .int .i64 (getV L 8 1), .int .i64 (getV L 9 1), .bool (getV L 6 2 == 16384), .int .u32 (getV L 12 4), .int .u32 (getV L 16 4)], .int .i64 (getV L 2 2), .int .i64 0]) = Ending.returned (.tuple #[hv (peekH l), .int .i64 (peekN l), .int .i64 (peekE l)])) := by
              rw [hE2.1, hE2.2, hE]
              rfl
            clear hE hE2 hs
            go_wp2_with fail
            refine bodyPost_ret (results_blk3 Try.results31 _ _ (w.heap.size + 1) _ _ rfl ((((blk_set7 B3 _ _ _ _ _ _ _).alloc _).alloc _).drew) Try.underlying46 rfl rfl) rfl ⟨HR.out, ?_⟩
            exact ((((((((((W3.setCell (by simp) _).setCell (by simp) _).setCell (by simp) _).setCell (by simp) _).setCell (by simp) _).setCell (by simp) _).setCell (by simp) _).alloc (by have := W3.size; simpa using this) _).alloc (by have := W3.size; simp at this; simp; omega) _).drew)
          · have hs : sumB L = false := by simpa using hs
            have hq : (65535 - sm (zeroed L) != getV L 10 2) = true := by have := HE.out.2.2 hform.out; rw [hs] at this; simpa using this
            have hE : peekE l = 4 := by rw [HE.out.1, hform.out, hs]; rfl
            have hE2 := HE.out.2.1.2 (by rw [hE]; omega)
            have HR : Hid (Ending.returned (.tuple #[hv Hd.zero, .int .i64 0, .int .i64 4]) = Ending.returned (.tuple #[hv (peekH l), .int .i64 (peekN l), .int .i64 (peekE l)])) := by rw [hE, hE2.1, hE2.2]; rfl
            clear hE hE2 hs
            go_wp2_with fail
            refine bodyPost_ret (results_blk3 Try.results31 _ _ (w.heap.size + 1) _ _ rfl ((((blk_set7 B3 _ _ _ _ _ _ _).alloc _).alloc _).drew) Try.underlying46 rfl rfl) rfl ⟨HR.out, ?_⟩
            exact ((((((((((W3.setCell (by simp) _).setCell (by simp) _).setCell (by simp) _).setCell (by simp) _).setCell (by simp) _).setCell (by simp) _).setCell (by simp) _).alloc (by have := W3.size; simpa using this) _).alloc (by have := W3.size; simp at this; simp; omega) _).drew)
        · have f3 : (getV L 6 2 != 0) = true := by simp [f1]
          have f4 : (getV L 6 2 == 16384) = true := by have := F1.out; simp; omega
          clear f1
          go_wp2_with fail
          go_region
          go_wp2_with fail
          refine (checksum_any _ _ _ _ _ _ (by first | exact (((HZ.out.alloc (by simp) _).alloc (by simp) _).drew) | exact (((HZ.out.alloc (by simp) _).alloc (by simp) _)) | exact ((HZ.out.drew.alloc (by simp) _).alloc (by simp) _)) (by omega)).mono ?_
          rintro e w' ⟨rfl, rfl⟩
          by_cases hs : sumB L = true
          · have hq : (65535 - sm (zeroed L) != getV L 10 2) = false := by have := HE.out.2.2 hform.out; rw [hs] at this; simpa using this
            have hE : peekE l = 0 := by rw [HE.out.1, hform.out, hs]; rfl
            have hE2 := HE.out.2.1.1 hE
            have HR : Hid (Ending.returned (.tuple #[.agg #[.int .i64 (getV L 1 1), .int .i64 (getV L 4 2), .int .i64 (getV L 8 1), .int .i64 (getV L 9 1), .bool true, .int .u32 (getV L 12 4), .int .u32 (getV L 16 4)], .int .i64 (getV L 2 2), .int .i64 0]) = Ending.returned (.tuple #[hv (peekH l), .int .i64 (peekN l), .int .i64 (peekE l)])) := by
              rw [hE2.1, hE2.2, hE]
              show _ = Ending.returned (.tuple #[.agg #[_, _, _, _, .bool (getV L 6 2 == 16384), _, _], _, _])
              rw [f4]
              rfl
            clear hE hE2 hs
            go_wp2_with fail
            refine bodyPost_ret (results_blk3 Try.results31 _ _ (w.heap.size + 1) _ _ rfl ((((blk_set7 B3 _ _ _ _ _ _ _).alloc _).alloc _).drew) Try.underlying46 rfl rfl) rfl ⟨HR.out, ?_⟩
            exact ((((((((((W3.setCell (by simp) _).setCell (by simp) _).setCell (by simp) _).setCell (by simp) _).setCell (by simp) _).setCell (by simp) _).setCell (by simp) _).alloc (by have := W3.size; simpa using this) _).alloc (by have := W3.size; simp at this; simp; omega) _).drew)
          · have hs : sumB L = false := by simpa using hs
            have hq : (65535 - sm (zeroed L) != getV L 10 2) = true := by have := HE.out.2.2 hform.out; rw [hs] at this; simpa using this
            have hE : peekE l = 4 := by rw [HE.out.1, hform.out, hs]; rfl
            have hE2 := HE.out.2.1.2 (by rw [hE]; omega)
            have HR : Hid (Ending.returned (.tuple #[hv Hd.zero, .int .i64 0, .int .i64 4]) = Ending.returned (.tuple #[hv (peekH l), .int .i64 (peekN l), .int .i64 (peekE l)])) := by rw [hE, hE2.1, hE2.2]; rfl
            clear hE hE2 hs
            go_wp2_with fail
            refine bodyPost_ret (results_blk3 Try.results31 _ _ (w.heap.size + 1) _ _ rfl ((((blk_set7 B3 _ _ _ _ _ _ _).alloc _).alloc _).drew) Try.underlying46 rfl rfl) rfl ⟨HR.out, ?_⟩
            exact ((((((((((W3.setCell (by simp) _).setCell (by simp) _).setCell (by simp) _).setCell (by simp) _).setCell (by simp) _).setCell (by simp) _).setCell (by simp) _).alloc (by have := W3.size; simpa using this) _).alloc (by have := W3.size; simp at this; simp; omega) _).drew)
      · have hform := Lib.hid (show formB L = false from decide_eq_false (fun h => f2 h.2.2))
        have f0' : (getV L 0 1 != 69) = false := by simp [f0]
        clear f0
        rcases f1 with f1 | f1
        · have f3 : (getV L 6 2 != 0) = false := by simp [f1]
          clear f1
          have hE : peekE l = 2 := by rw [HE.out.1, hform.out]; rfl
          have hE2 := HE.out.2.1.2 (by rw [hE]; omega)
          have HR : Hid (Ending.returned (.tuple #[hv Hd.zero, .int .i64 0, .int .i64 2]) = Ending.returned (.tuple #[hv (peekH l), .int .i64 (peekN l), .int .i64 (peekE l)])) := by rw [hE, hE2.1, hE2.2]; rfl
          clear hE hE2
          go_wp2_with fail
          refine bodyPost_ret (results_blk3 Try.results31 _ _ (w.heap.size + 1) _ _ rfl (((blk_set7 B1' _ _ _ _ _ _ _).alloc _).alloc _) Try.underlying46 rfl rfl) rfl ⟨HR.out, ?_⟩
          exact (((((((((W2.setCell (by simp) _).setCell (by simp) _).setCell (by simp) _).setCell (by simp) _).setCell (by simp) _).setCell (by simp) _).setCell (by simp) _).alloc (by have := W2.size; simp; omega) _).alloc (by have := W2.size; simp; omega) _)
        · have f3 : (getV L 6 2 != 0) = true := by simp [f1]
          have f4 : (getV L 6 2 == 16384) = true := by simp [f1]
          clear f1
          have hE : peekE l = 2 := by rw [HE.out.1, hform.out]; rfl
          have hE2 := HE.out.2.1.2 (by rw [hE]; omega)
          have HR : Hid (Ending.returned (.tuple #[hv Hd.zero, .int .i64 0, .int .i64 2]) = Ending.returned (.tuple #[hv (peekH l), .int .i64 (peekN l), .int .i64 (peekE l)])) := by rw [hE, hE2.1, hE2.2]; rfl
          clear hE hE2
          go_wp2_with fail
          refine bodyPost_ret (results_blk3 Try.results31 _ _ (w.heap.size + 1) _ _ rfl (((blk_set7 B1' _ _ _ _ _ _ _).alloc _).alloc _) Try.underlying46 rfl rfl) rfl ⟨HR.out, ?_⟩
          exact (((((((((W2.setCell (by simp) _).setCell (by simp) _).setCell (by simp) _).setCell (by simp) _).setCell (by simp) _).setCell (by simp) _).setCell (by simp) _).alloc (by have := W2.size; simp; omega) _).alloc (by have := W2.size; simp; omega) _)
    · have hform := Lib.hid (show formB L = false from decide_eq_false (fun h => f1 h.2.1))
      have f0' : (getV L 0 1 != 69) = false := by simp [f0]
      have f3 : (getV L 6 2 != 0) = true := by simp; omega
      have f4 : (getV L 6 2 == 16384) = false := by simp; omega
      clear f0 f1
      have hE : peekE l = 2 := by rw [HE.out.1, hform.out]; rfl
      have hE2 := HE.out.2.1.2 (by rw [hE]; omega)
      have HR : Hid (Ending.returned (.tuple #[hv Hd.zero, .int .i64 0, .int .i64 2]) = Ending.returned (.tuple #[hv (peekH l), .int .i64 (peekN l), .int .i64 (peekE l)])) := by rw [hE, hE2.1, hE2.2]; rfl
      clear hE hE2
      go_wp2_with fail
      refine bodyPost_ret (results_blk3 Try.results31 _ _ (w.heap.size + 1) _ _ rfl (((blk_set7 B1' _ _ _ _ _ _ _).alloc _).alloc _) Try.underlying46 rfl rfl) rfl ⟨HR.out, ?_⟩
      exact (((((((((W2.setCell (by simp) _).setCell (by simp) _).setCell (by simp) _).setCell (by simp) _).setCell (by simp) _).setCell (by simp) _).setCell (by simp) _).alloc (by have := W2.size; simp; omega) _).alloc (by have := W2.size; simp; omega) _)
  · have hform := Lib.hid (show formB L = false from decide_eq_false (fun h => f0 h.1))
    have f0' : (getV L 0 1 != 69) = true := by simp [f0]
    clear f0
    have hE : peekE l = 2 := by rw [HE.out.1, hform.out]; rfl
    have hE2 := HE.out.2.1.2 (by rw [hE]; omega)
    have HR : Hid (Ending.returned (.tuple #[hv Hd.zero, .int .i64 0, .int .i64 2]) = Ending.returned (.tuple #[hv (peekH l), .int .i64 (peekN l), .int .i64 (peekE l)])) := by rw [hE, hE2.1, hE2.2]; rfl
    clear hE hE2
    go_wp2_with fail
    refine bodyPost_ret (results_blk3 Try.results31 _ _ (w.heap.size + 1) _ _ rfl (((blk_set7 B1' _ _ _ _ _ _ _).alloc _).alloc _) Try.underlying46 rfl rfl) rfl ⟨HR.out, ?_⟩
    exact (((((((((W2.setCell (by simp) _).setCell (by simp) _).setCell (by simp) _).setCell (by simp) _).setCell (by simp) _).setCell (by simp) _).setCell (by simp) _).alloc (by have := W2.size; simp; omega) _).alloc (by have := W2.size; simp; omega) _)
end Go.Proofs.Ytllaojnnackhhaa
