/-
  The walk of the reference's Peek.
-/
import Derived.Test.YtllaojnnackhhaaIpPeek
namespace Go.Proofs.Ytllaojnnackhhaa
open Go.RowKit
set_option linter.unusedVariables false
set_option linter.unusedSimpArgs false

theorem getV_take (l : List Int) (p k : Int) (hp : 0 ≤ p) (hk : 1 ≤ k) (hk7 : k ≤ 7) (h : p + k ≤ 20) (hl : 20 ≤ l.length) : getV (l.take 20) p k = getV l p k := by
  unfold getV
  have e : (l.take 20).length = 20 := by simp; omega
  rw [if_neg (by omega), if_neg (by omega), if_neg (by omega), if_neg (by omega), List.drop_take, List.take_take]
  congr 2; omega
theorem rat20 (A : Option Addr) (n c : Nat) (l : List Int) (w : World) (B : Nat) (hl : Byt w B A n l) (h20 : 20 ≤ n) (hn : n ≤ c) (hm : n ≤ 140737488355328) (p k : Int) (hp : 0 ≤ p) (hk : 1 ≤ k) (hk7 : k ≤ 7) (h : p + k ≤ 20) :
    Calls Try.prog 50 #[.slice A n c, .int .i64 p, .int .i64 k] w fun e w' => e = .returned (.int .i64 (getV (l.take 20) p k)) ∧ w = w' := by
  rw [getV_take l p k hp hk hk7 h (by rw [hl.len]; exact h20)]
  exact rat_any A n c l w B hl hn hm p k (by omega)
theorem getV_one (l : List Int) (k : Nat) (x : Int) (h : l[k]? = some x) (hk : k < 20) : getV (l.take 20) k 1 = x := by
  have hl : k < l.length := by
    rcases Nat.lt_or_ge k l.length with h1 | h1
    · exact h1
    · rw [List.getElem?_eq_none h1] at h; cases h
  have e : ((l.take 20).drop k).take 1 = [x] := by
    rw [List.drop_take, List.take_take, show min 1 (20 - k) = 1 from by omega, List.drop_eq_getElem_cons hl]
    rw [List.getElem?_eq_getElem hl] at h
    injection h with h
    rw [h]; rfl
  unfold getV
  rw [if_neg (by omega), if_neg (by simp; omega)]
  show be (((l.take 20).drop k).take 1) = x
  rw [e]; simp [be]
/-- a cell of bytes, in getV's words -/
theorem byt_cell {w : World} {B b o n : Nat} {l : List Int} (h : Byt w B (some ⟨b, o, none⟩) n l) (k : Nat) (hk : k < 20) (hn : 20 ≤ n) : w.cell? ⟨b, o + k, none⟩ = some (.int .u8 (getV (l.take 20) k 1)) := by
  obtain ⟨b', o', x, hA, _, hx, _, _, hc⟩ := h.at' (k := k) (by omega)
  injection hA with hA
  injection hA with h1 h2
  subst h1 h2
  rw [hc, getV_one l k x hx hk]

theorem rpeek_short (A : Option Addr) (n c : Nat) (w : World) (hn : n < 20) :
    Calls Try.prog 39 #[.slice A n c] w fun e w' => e = .returned (.tuple #[hv Hd.zero, .int .i64 0, .int .i64 3]) ∧ Below w.heap.size w w' := by
  go_enter Try.func39, Try.ntmps39
  go_wp2_with fail
  refine bodyPost_ret (v := .tuple #[hv Hd.zero, .int .i64 0, .int .i64 3]) (by simp [results, Try.results39, go_sem, hv, hcells, Hd.zero]) rfl ⟨rfl, ?_⟩
  exact (Below.refl _ _).alloc (Nat.le_refl _) _

set_option maxRecDepth 100000 in
set_option maxHeartbeats 4000000 in
theorem rpeek_ok (b0 o n c : Nat) (l : List Int) (w : World) (hl : Byt w w.heap.size (some ⟨b0, o, none⟩) n l) (hn : 20 ≤ n) (hnc : n ≤ c) (hn2 : n ≤ 100000)  :
    Calls Try.prog 39 #[.slice (some ⟨b0, o, none⟩) n c] w (PeekR l w) := by
  have hl20 := hl.head hn
  have hE : peekE l = if formB (l.take 20) then (if sumB (l.take 20) then 0 else 4) else 2 := by unfold peekE; rw [if_neg (by rw [hl.len]; omega)]
  have hHN : (peekE l = 0 → peekH l = pkH (l.take 20) ∧ peekN l = getV (l.take 20) 2 2) ∧ (peekE l ≠ 0 → peekH l = Hd.zero ∧ peekN l = 0) := by
    unfold peekH peekN
    exact ⟨fun h => by rw [if_pos h, if_pos h]; exact ⟨rfl, rfl⟩, fun h => by rw [if_neg h, if_neg h]; exact ⟨rfl, rfl⟩⟩
  have hla := hl.alloc (Nat.le_refl _) (.cells #[.int .i64 0, .int .i64 0, .int .i64 0, .int .i64 0, .bool false, .int .u32 0, .int .u32 0] 46)
  have hk0 : (w.alloc (.cells #[.int .i64 0, .int .i64 0, .int .i64 0, .int .i64 0, .bool false, .int .u32 0, .int .u32 0] 46)).cell? ⟨b0, o, none⟩ = some (.int .u8 (getV (l.take 20) ((0 : Nat) : Int) 1)) := byt_cell hla 0 (by omega) hn
  have hk1 := byt_cell hla 1 (by omega) hn
  have hk8 := byt_cell hla 8 (by omega) hn
  have hk9 := byt_cell hla 9 (by omega) hn
  have hlt : b0 < w.heap.size := by
    obtain ⟨ad, hA, hb, _⟩ := hl.1.2 (by omega)
    injection hA with hA
    subst hA
    exact hb
  have hat := fun W B (h : Byt W B (some ⟨b0, o, none⟩) n l) (p k : Int) (hp : 0 ≤ p) (hk : 1 ≤ k) (hk7 : k ≤ 7) (hh : p + k ≤ 20) => rat20 (some ⟨b0, o, none⟩) n c l W B h hn hnc (by omega) p k hp hk hk7 hh
  obtain ⟨L, hL⟩ : ∃ L, l.take 20 = L := ⟨_, rfl⟩
  rw [hL] at hE hl20 hHN
  simp only [hL, show ((0 : Nat) : Int) = 0 from rfl, show ((1 : Nat) : Int) = 1 from rfl, show ((8 : Nat) : Int) = 8 from rfl, show ((9 : Nat) : Int) = 9 from rfl] at hk0 hk1 hk8 hk9 hat
  have HAT := Lib.hid hat
  have hw0 : Below w.heap.size w (w.alloc (.cells #[.int .i64 0, .int .i64 0, .int .i64 0, .int .i64 0, .bool false, .int .u32 0, .int .u32 0] 46)) := (Below.refl _ _).alloc (Nat.le_refl _) _
  clear hL hat
  have v0 := getV_bd L hl20.2 0 1 (by omega)
  have v1 := getV_bd L hl20.2 1 1 (by omega)
  have v2 := getV_bd L hl20.2 2 2 (by omega)
  have v4 := getV_bd L hl20.2 4 2 (by omega)
  have v6 := getV_bd L hl20.2 6 2 (by omega)
  have v8 := getV_bd L hl20.2 8 1 (by omega)
  have v9 := getV_bd L hl20.2 9 1 (by omega)
  have v12 := getV_bd L hl20.2 12 4 (by omega)
  have v16 := getV_bd L hl20.2 16 4 (by omega)
  simp only [show (4 : Int).toNat = 4 from rfl, show (2 : Int).toNat = 2 from rfl, show (1 : Int).toNat = 1 from rfl, show (256 : Int) ^ 4 = 4294967296 from rfl, show (256 : Int) ^ 2 = 65536 from rfl, show (256 : Int) ^ 1 = 256 from rfl] at v0 v1 v2 v4 v6 v8 v9 v12 v16
  have HV := Lib.hid (And.intro v1 (And.intro v8 (And.intro v9 v4)))
  obtain ⟨v0, _⟩ := v0
  obtain ⟨v2, v2'⟩ := v2
  obtain ⟨v6, _⟩ := v6
  obtain ⟨v12, v12'⟩ := v12
  obtain ⟨v16, v16'⟩ := v16
  clear v1 v4 v8 v9
  have HE := Lib.hid (And.intro hE hHN)
  clear hE hHN
  go_enter Try.func39, Try.ntmps39
  go_upto_region 4 with (first
    | (go_at_call 50; refine (HAT.out _ _ (hl.alloc (Nat.le_refl _) _) _ _ (by omega) (by omega) (by omega) (by omega)).mono ?_; rintro e w' ⟨rfl, rfl⟩)
    | fail)
  by_cases f0 : getV L 0 1 = 69
  · by_cases f1 : getV L 6 2 = 0 ∨ getV L 6 2 = 16384
    · by_cases f2 : 20 ≤ getV L 2 2
      · have hform := Lib.hid (show formB L = true from decide_eq_true ⟨f0, f1, f2⟩)
        have f0' : (getV L 0 1 != 69) = false := by simp [f0]
        clear f0
        rcases f1 with f1 | f1
        · have f3 : (getV L 6 2 != 0) = false := by simp [f1]
          have F4 := Lib.hid (show (getV L 6 2 == 16384) = false by simp [f1])
          clear f1
          have hpk : pkH L = ⟨getV L 1 1, getV L 4 2, getV L 8 1, getV L 9 1, false, getV L 12 4, getV L 16 4⟩ := by unfold pkH; rw [F4.out]
          have HPK := Lib.hid hpk
          clear hpk
          have y1 : IntKind.u32.wrap (getV L 12 4) = getV L 12 4 := IntWalk.u32_in _ (by omega)
          have y2 : IntKind.u32.wrap (getV L 16 4) = getV L 16 4 := IntWalk.u32_in _ (by omega)
          have y3 : IntKind.i64.wrap (getV L 1 1) = getV L 1 1 := IntWalk.i64_in _ (by have := HV.out.1; omega)
          have y4 : IntKind.i64.wrap (getV L 8 1) = getV L 8 1 := IntWalk.i64_in _ (by have := HV.out.2.1; omega)
          have y5 : IntKind.i64.wrap (getV L 9 1) = getV L 9 1 := IntWalk.i64_in _ (by have := HV.out.2.2.1; omega)
          go_upto_region 6 with fail
          have z1 : (1 : Int) < n := by omega
          have z8 : (8 : Int) < n := by omega
          have z9 : (9 : Int) < n := by omega
          go_cut [7] (fun s7 wx => s7 = .pointer (some ⟨w.heap.size + 1, 0, none⟩) ∧ wx = ((w.alloc (.cells #[.int .i64 0, .int .i64 0, .int .i64 0, .int .i64 0, .bool false, .int .u32 0, .int .u32 0] 46)).alloc (.cells #[.int .i64 (getV L 1 1), .int .i64 (getV L 4 2), .int .i64 (getV L 8 1), .int .i64 (getV L 9 1), .bool false, .int .u32 (getV L 12 4), .int .u32 (getV L 16 4)] 46)).drew)
          case first =>
            go_region_held3 (fun w' => w'.cell? ⟨b0, o + 1, none⟩ = some (.int .u8 (getV L 1 1)) ∧ w'.cell? ⟨b0, o + 8, none⟩ = some (.int .u8 (getV L 8 1)) ∧ w'.cell? ⟨b0, o + 9, none⟩ = some (.int .u8 (getV L 9 1)))
              (first | go_keep)
              (first
                | (go_at_call 50; refine (HAT.out _ w.heap.size (by first | with_reducible exact (hl.alloc (Nat.le_refl _) _).drew | with_reducible exact ((hl.alloc (Nat.le_refl _) _).alloc (by simp) _).drew | with_reducible exact ((hl.alloc (Nat.le_refl _) _).drew.alloc (by simp) _)) _ _ (by omega) (by omega) (by omega) (by omega)).mono ?_; rintro e w' ⟨rfl, rfl⟩))
            all_goals (go_wp2_with fail; go_meet; exact ⟨rfl, rfl⟩)
          case rest =>
            obtain ⟨rfl, rfl⟩ := hcut
            clear hk0 hk1 hk8 hk9 y1 y2 y3 y4 y5 z1 z8 z9
            have B1 : Blk ((w.alloc (.cells #[.int .i64 0, .int .i64 0, .int .i64 0, .int .i64 0, .bool false, .int .u32 0, .int .u32 0] 46)).alloc (.cells #[.int .i64 (getV L 1 1), .int .i64 (getV L 4 2), .int .i64 (getV L 8 1), .int .i64 (getV L 9 1), .bool false, .int .u32 (getV L 12 4), .int .u32 (getV L 16 4)] 46)) (w.heap.size + 1) 46 #[.int .i64 (getV L 1 1), .int .i64 (getV L 4 2), .int .i64 (getV L 8 1), .int .i64 (getV L 9 1), .bool false, .int .u32 (getV L 12 4), .int .u32 (getV L 16 4)] := by
              have := Blk.new (w.alloc (.cells #[.int .i64 0, .int .i64 0, .int .i64 0, .int .i64 0, .bool false, .int .u32 0, .int .u32 0] 46)) 46 #[.int .i64 (getV L 1 1), .int .i64 (getV L 4 2), .int .i64 (getV L 8 1), .int .i64 (getV L 9 1), .bool false, .int .u32 (getV L 12 4), .int .u32 (getV L 16 4)]
              simpa using this
            have hl1 := (hl20.alloc (Nat.le_refl _) (.cells #[.int .i64 0, .int .i64 0, .int .i64 0, .int .i64 0, .bool false, .int .u32 0, .int .u32 0] 46)).alloc (by simp) (.cells #[.int .i64 (getV L 1 1), .int .i64 (getV L 4 2), .int .i64 (getV L 8 1), .int .i64 (getV L 9 1), .bool false, .int .u32 (getV L 12 4), .int .u32 (getV L 16 4)] 46)
            have W1 := hw0.alloc (by simp) (.cells #[.int .i64 (getV L 1 1), .int .i64 (getV L 4 2), .int .i64 (getV L 8 1), .int .i64 (getV L 9 1), .bool false, .int .u32 (getV L 12 4), .int .u32 (getV L 16 4)] 46)
            have B0 := (Blk.new w 46 #[.int .i64 0, .int .i64 0, .int .i64 0, .int .i64 0, .bool false, .int .u32 0, .int .u32 0]).alloc (.cells #[.int .i64 (getV L 1 1), .int .i64 (getV L 4 2), .int .i64 (getV L 8 1), .int .i64 (getV L 9 1), .bool false, .int .u32 (getV L 12 4), .int .u32 (getV L 16 4)] 46)
            generalize (w.alloc (.cells #[.int .i64 0, .int .i64 0, .int .i64 0, .int .i64 0, .bool false, .int .u32 0, .int .u32 0] 46)).alloc (.cells #[.int .i64 (getV L 1 1), .int .i64 (getV L 4 2), .int .i64 (getV L 8 1), .int .i64 (getV L 9 1), .bool false, .int .u32 (getV L 12 4), .int .u32 (getV L 16 4)] 46) = w1 at *
            have hz1 := B1.lt
            have hz0 := B0.lt
            have r0 : w1.cell? ⟨w.heap.size + 1, 0, none⟩ = some (.int .i64 (getV L 1 1)) := B1.cell 0
            have r1 : w1.cell? ⟨w.heap.size + 1, 1, none⟩ = some (.int .i64 (getV L 4 2)) := B1.cell 1
            have r2 : w1.cell? ⟨w.heap.size + 1, 2, none⟩ = some (.int .i64 (getV L 8 1)) := B1.cell 2
            have r3 : w1.cell? ⟨w.heap.size + 1, 3, none⟩ = some (.int .i64 (getV L 9 1)) := B1.cell 3
            have r4 : w1.cell? ⟨w.heap.size + 1, 4, none⟩ = some (.bool false) := B1.cell 4
            have r5 : w1.cell? ⟨w.heap.size + 1, 5, none⟩ = some (.int .u32 (getV L 12 4)) := B1.cell 5
            have r6 : w1.cell? ⟨w.heap.size + 1, 6, none⟩ = some (.int .u32 (getV L 16 4)) := B1.cell 6
            have z20 : (20 : Int) ≤ n := by omega
            have z21 : (20 : Int) ≤ c := by omega
            go_upto_region 7 with fail
            go_cut [62] (fun s61 wx => s61 = .bool (!eqB (hdB (pkH L) (getV L 2 2)) L) ∧ Below w1.heap.size w1 wx)
            case first =>
              go_region_held3 (fun w' => w'.cell? ⟨w.heap.size + 1, 0, none⟩ = some (.int .i64 (getV L 1 1)) ∧ w'.cell? ⟨w.heap.size + 1, 1, none⟩ = some (.int .i64 (getV L 4 2)) ∧ w'.cell? ⟨w.heap.size + 1, 2, none⟩ = some (.int .i64 (getV L 8 1)) ∧ w'.cell? ⟨w.heap.size + 1, 3, none⟩ = some (.int .i64 (getV L 9 1)) ∧ w'.cell? ⟨w.heap.size + 1, 4, none⟩ = some (.bool false) ∧ w'.cell? ⟨w.heap.size + 1, 5, none⟩ = some (.int .u32 (getV L 12 4)) ∧ w'.cell? ⟨w.heap.size + 1, 6, none⟩ = some (.int .u32 (getV L 16 4)))
                (first | go_keep | exact ⟨B2.cell 0, B2.cell 1, B2.cell 2, B2.cell 3, B2.cell 4, B2.cell 5, B2.cell 6⟩)
                (first
                  | (go_at_call 48
                     refine (header_any _ _ _ _ _ _ _ _ _ ⟨by have := HV.out.1; omega, by have := HV.out.2.1; omega, by have := HV.out.2.2.1; omega, by have := HV.out.2.2.2; omega⟩ (by omega) (by omega) (by omega) (by omega) (by omega) (by omega)).mono ?_
                     rintro e w2 ⟨A2, m2, c2, rfl, hc2, hm2, hown2, hb2⟩
                     have V2 : Below w1.heap.size w1 w2 := (Below.drew (Below.drew (Below.refl _ _))).trans hb2
                     have B2 := Blk.below B1 V2 hz1
                     have hB2 := byt_own hown2 (hdB_bs _ _)
                     have hB3 := ((Byt.below hl1 (V2.mono (Nat.le_of_lt hz0))).more (Nat.le_trans (Nat.le_of_lt hz0) V2.size)))
                  | (go_at_call 20
                     refine (requal_any _ _ _ _ _ _ _ _ _ _ hB2 hB3 (by have := hB2.len; rw [hdB_len] at this; omega) (by omega)).mono ?_
                     rintro e w3 ⟨rfl, q, rfl⟩))
              all_goals (go_wp2_with fail; go_meet; exact ⟨by rw [HPK.out], below_drewN V2 _⟩)
            case rest =>
              obtain ⟨rfl, V3⟩ := hcut
              have B3 := B1.below V3 hz1
              have B4 := B0.below V3 hz0
              have W3 := W1.trans (V3.mono W1.size)
              clear r0 r1 r2 r3 r4 r5 r6 z20 z21
              have q3 := B3.cell
              have q4 := B4.cell
              have q5 := B4.frozen
              by_cases hs : sumB L = true
              · rw [show eqB (hdB (pkH L) (getV L 2 2)) L = true from hs]
                have hE : peekE l = 0 := by rw [HE.out.1, hform.out, hs]; rfl
                have hE2 := HE.out.2.1 hE
                have HR : Hid (Ending.returned (.tuple #[.agg #[.int .i64 (getV L 1 1), .int .i64 (getV L 4 2), .int .i64 (getV L 8 1), .int .i64 (getV L 9 1), .bool false, .int .u32 (getV L 12 4), .int .u32 (getV L 16 4)], .int .i64 (getV L 2 2), .int .i64 0]) = Ending.returned (.tuple #[hv (peekH l), .int .i64 (peekN l), .int .i64 (peekE l)])) := by
                  rw [hE2.1, hE2.2, hE, HPK.out]
                  rfl
                clear hE hE2 hs
                go_wp2_with fail
                refine bodyPost_ret (results_blk3 Try.results39 _ _ w.heap.size _ _ rfl (blk_set7 B4 _ _ _ _ _ _ _) Try.underlying46 rfl rfl) rfl ⟨HR.out, ?_⟩
                exact (((((((W3.setCell (by simp) _).setCell (by simp) _).setCell (by simp) _).setCell (by simp) _).setCell (by simp) _).setCell (by simp) _).setCell (by simp) _)
              · have hs : sumB L = false := by simpa using hs
                rw [show eqB (hdB (pkH L) (getV L 2 2)) L = false from hs]
                have hE : peekE l = 4 := by rw [HE.out.1, hform.out, hs]; rfl
                have hE2 := HE.out.2.2 (by rw [hE]; omega)
                have HR : Hid (Ending.returned (.tuple #[hv Hd.zero, .int .i64 0, .int .i64 4]) = Ending.returned (.tuple #[hv (peekH l), .int .i64 (peekN l), .int .i64 (peekE l)])) := by rw [hE, hE2.1, hE2.2]; rfl
                clear hE hE2 hs
                go_wp2_with fail
                refine bodyPost_ret (results_blk3 Try.results39 _ _ w.heap.size _ _ rfl (blk_set7 B4 _ _ _ _ _ _ _) Try.underlying46 rfl rfl) rfl ⟨HR.out, ?_⟩
                exact (((((((W3.setCell (by simp) _).setCell (by simp) _).setCell (by simp) _).setCell (by simp) _).setCell (by simp) _).setCell (by simp) _).setCell (by simp) _)
        · have f3 : (getV L 6 2 != 0) = true := by simp [f1]
          have f5 : (getV L 6 2 != 16384) = false := by simp [f1]
          have F4 := Lib.hid (show (getV L 6 2 == 16384) = true by simp [f1])
          clear f1
          have hpk : pkH L = ⟨getV L 1 1, getV L 4 2, getV L 8 1, getV L 9 1, true, getV L 12 4, getV L 16 4⟩ := by unfold pkH; rw [F4.out]
          have HPK := Lib.hid hpk
          clear hpk
          have y1 : IntKind.u32.wrap (getV L 12 4) = getV L 12 4 := IntWalk.u32_in _ (by omega)
          have y2 : IntKind.u32.wrap (getV L 16 4) = getV L 16 4 := IntWalk.u32_in _ (by omega)
          have y3 : IntKind.i64.wrap (getV L 1 1) = getV L 1 1 := IntWalk.i64_in _ (by have := HV.out.1; omega)
          have y4 : IntKind.i64.wrap (getV L 8 1) = getV L 8 1 := IntWalk.i64_in _ (by have := HV.out.2.1; omega)
          have y5 : IntKind.i64.wrap (getV L 9 1) = getV L 9 1 := IntWalk.i64_in _ (by have := HV.out.2.2.1; omega)
          go_upto_region 6 with fail
          have z1 : (1 : Int) < n := by omega
          have z8 : (8 : Int) < n := by omega
          have z9 : (9 : Int) < n := by omega
          go_cut [7] (fun s7 wx => s7 = .pointer (some ⟨w.heap.size + 1, 0, none⟩) ∧ wx = ((w.alloc (.cells #[.int .i64 0, .int .i64 0, .int .i64 0, .int .i64 0, .bool false, .int .u32 0, .int .u32 0] 46)).alloc (.cells #[.int .i64 (getV L 1 1), .int .i64 (getV L 4 2), .int .i64 (getV L 8 1), .int .i64 (getV L 9 1), .bool true, .int .u32 (getV L 12 4), .int .u32 (getV L 16 4)] 46)).drew)
          case first =>
            go_region_held3 (fun w' => w'.cell? ⟨b0, o + 1, none⟩ = some (.int .u8 (getV L 1 1)) ∧ w'.cell? ⟨b0, o + 8, none⟩ = some (.int .u8 (getV L 8 1)) ∧ w'.cell? ⟨b0, o + 9, none⟩ = some (.int .u8 (getV L 9 1)))
              (first | go_keep)
              (first
                | (go_at_call 50; refine (HAT.out _ w.heap.size (by first | with_reducible exact (hl.alloc (Nat.le_refl _) _).drew | with_reducible exact ((hl.alloc (Nat.le_refl _) _).alloc (by simp) _).drew | with_reducible exact ((hl.alloc (Nat.le_refl _) _).drew.alloc (by simp) _)) _ _ (by omega) (by omega) (by omega) (by omega)).mono ?_; rintro e w' ⟨rfl, rfl⟩))
            all_goals (go_wp2_with fail; go_meet; exact ⟨rfl, rfl⟩)
          case rest =>
            obtain ⟨rfl, rfl⟩ := hcut
            clear hk0 hk1 hk8 hk9 y1 y2 y3 y4 y5 z1 z8 z9
            have B1 : Blk ((w.alloc (.cells #[.int .i64 0, .int .i64 0, .int .i64 0, .int .i64 0, .bool false, .int .u32 0, .int .u32 0] 46)).alloc (.cells #[.int .i64 (getV L 1 1), .int .i64 (getV L 4 2), .int .i64 (getV L 8 1), .int .i64 (getV L 9 1), .bool true, .int .u32 (getV L 12 4), .int .u32 (getV L 16 4)] 46)) (w.heap.size + 1) 46 #[.int .i64 (getV L 1 1), .int .i64 (getV L 4 2), .int .i64 (getV L 8 1), .int .i64 (getV L 9 1), .bool true, .int .u32 (getV L 12 4), .int .u32 (getV L 16 4)] := by
              have := Blk.new (w.alloc (.cells #[.int .i64 0, .int .i64 0, .int .i64 0, .int .i64 0, .bool false, .int .u32 0, .int .u32 0] 46)) 46 #[.int .i64 (getV L 1 1), .int .i64 (getV L 4 2), .int .i64 (getV L 8 1), .int .i64 (getV L 9 1), .bool true, .int .u32 (getV L 12 4), .int .u32 (getV L 16 4)]
              simpa using this
            have hl1 := (hl20.alloc (Nat.le_refl _) (.cells #[.int .i64 0, .int .i64 0, .int .i64 0, .int .i64 0, .bool false, .int .u32 0, .int .u32 0] 46)).alloc (by simp) (.cells #[.int .i64 (getV L 1 1), .int .i64 (getV L 4 2), .int .i64 (getV L 8 1), .int .i64 (getV L 9 1), .bool true, .int .u32 (getV L 12 4), .int .u32 (getV L 16 4)] 46)
            have W1 := hw0.alloc (by simp) (.cells #[.int .i64 (getV L 1 1), .int .i64 (getV L 4 2), .int .i64 (getV L 8 1), .int .i64 (getV L 9 1), .bool true, .int .u32 (getV L 12 4), .int .u32 (getV L 16 4)] 46)
            have B0 := (Blk.new w 46 #[.int .i64 0, .int .i64 0, .int .i64 0, .int .i64 0, .bool false, .int .u32 0, .int .u32 0]).alloc (.cells #[.int .i64 (getV L 1 1), .int .i64 (getV L 4 2), .int .i64 (getV L 8 1), .int .i64 (getV L 9 1), .bool true, .int .u32 (getV L 12 4), .int .u32 (getV L 16 4)] 46)
            generalize (w.alloc (.cells #[.int .i64 0, .int .i64 0, .int .i64 0, .int .i64 0, .bool false, .int .u32 0, .int .u32 0] 46)).alloc (.cells #[.int .i64 (getV L 1 1), .int .i64 (getV L 4 2), .int .i64 (getV L 8 1), .int .i64 (getV L 9 1), .bool true, .int .u32 (getV L 12 4), .int .u32 (getV L 16 4)] 46) = w1 at *
            have hz1 := B1.lt
            have hz0 := B0.lt
            have r0 : w1.cell? ⟨w.heap.size + 1, 0, none⟩ = some (.int .i64 (getV L 1 1)) := B1.cell 0
            have r1 : w1.cell? ⟨w.heap.size + 1, 1, none⟩ = some (.int .i64 (getV L 4 2)) := B1.cell 1
            have r2 : w1.cell? ⟨w.heap.size + 1, 2, none⟩ = some (.int .i64 (getV L 8 1)) := B1.cell 2
            have r3 : w1.cell? ⟨w.heap.size + 1, 3, none⟩ = some (.int .i64 (getV L 9 1)) := B1.cell 3
            have r4 : w1.cell? ⟨w.heap.size + 1, 4, none⟩ = some (.bool true) := B1.cell 4
            have r5 : w1.cell? ⟨w.heap.size + 1, 5, none⟩ = some (.int .u32 (getV L 12 4)) := B1.cell 5
            have r6 : w1.cell? ⟨w.heap.size + 1, 6, none⟩ = some (.int .u32 (getV L 16 4)) := B1.cell 6
            have z20 : (20 : Int) ≤ n := by omega
            have z21 : (20 : Int) ≤ c := by omega
            go_upto_region 7 with fail
            go_cut [62] (fun s61 wx => s61 = .bool (!eqB (hdB (pkH L) (getV L 2 2)) L) ∧ Below w1.heap.size w1 wx)
            case first =>
              go_region_held3 (fun w' => w'.cell? ⟨w.heap.size + 1, 0, none⟩ = some (.int .i64 (getV L 1 1)) ∧ w'.cell? ⟨w.heap.size + 1, 1, none⟩ = some (.int .i64 (getV L 4 2)) ∧ w'.cell? ⟨w.heap.size + 1, 2, none⟩ = some (.int .i64 (getV L 8 1)) ∧ w'.cell? ⟨w.heap.size + 1, 3, none⟩ = some (.int .i64 (getV L 9 1)) ∧ w'.cell? ⟨w.heap.size + 1, 4, none⟩ = some (.bool true) ∧ w'.cell? ⟨w.heap.size + 1, 5, none⟩ = some (.int .u32 (getV L 12 4)) ∧ w'.cell? ⟨w.heap.size + 1, 6, none⟩ = some (.int .u32 (getV L 16 4)))
                (first | go_keep | exact ⟨B2.cell 0, B2.cell 1, B2.cell 2, B2.cell 3, B2.cell 4, B2.cell 5, B2.cell 6⟩)
                (first
                  | (go_at_call 48
                     refine (header_any _ _ _ _ _ _ _ _ _ ⟨by have := HV.out.1; omega, by have := HV.out.2.1; omega, by have := HV.out.2.2.1; omega, by have := HV.out.2.2.2; omega⟩ (by omega) (by omega) (by omega) (by omega) (by omega) (by omega)).mono ?_
                     rintro e w2 ⟨A2, m2, c2, rfl, hc2, hm2, hown2, hb2⟩
                     have V2 : Below w1.heap.size w1 w2 := (Below.drew (Below.drew (Below.refl _ _))).trans hb2
                     have B2 := Blk.below B1 V2 hz1
                     have hB2 := byt_own hown2 (hdB_bs _ _)
                     have hB3 := ((Byt.below hl1 (V2.mono (Nat.le_of_lt hz0))).more (Nat.le_trans (Nat.le_of_lt hz0) V2.size)))
                  | (go_at_call 20
                     refine (requal_any _ _ _ _ _ _ _ _ _ _ hB2 hB3 (by have := hB2.len; rw [hdB_len] at this; omega) (by omega)).mono ?_
                     rintro e w3 ⟨rfl, q, rfl⟩))
              all_goals (go_wp2_with fail; go_meet; exact ⟨by rw [HPK.out], below_drewN V2 _⟩)
            case rest =>
              obtain ⟨rfl, V3⟩ := hcut
              have B3 := B1.below V3 hz1
              have B4 := B0.below V3 hz0
              have W3 := W1.trans (V3.mono W1.size)
              clear r0 r1 r2 r3 r4 r5 r6 z20 z21
              have q3 := B3.cell
              have q4 := B4.cell
              have q5 := B4.frozen
              by_cases hs : sumB L = true
              · rw [show eqB (hdB (pkH L) (getV L 2 2)) L = true from hs]
                have hE : peekE l = 0 := by rw [HE.out.1, hform.out, hs]; rfl
                have hE2 := HE.out.2.1 hE
                have HR : Hid (Ending.returned (.tuple #[.agg #[.int .i64 (getV L 1 1), .int .i64 (getV L 4 2), .int .i64 (getV L 8 1), .int .i64 (getV L 9 1), .bool true, .int .u32 (getV L 12 4), .int .u32 (getV L 16 4)], .int .i64 (getV L 2 2), .int .i64 0]) = Ending.returned (.tuple #[hv (peekH l), .int .i64 (peekN l), .int .i64 (peekE l)])) := by
                  rw [hE2.1, hE2.2, hE, HPK.out]
                  rfl
                clear hE hE2 hs
                go_wp2_with fail
                refine bodyPost_ret (results_blk3 Try.results39 _ _ w.heap.size _ _ rfl (blk_set7 B4 _ _ _ _ _ _ _) Try.underlying46 rfl rfl) rfl ⟨HR.out, ?_⟩
                exact (((((((W3.setCell (by simp) _).setCell (by simp) _).setCell (by simp) _).setCell (by simp) _).setCell (by simp) _).setCell (by simp) _).setCell (by simp) _)
              · have hs : sumB L = false := by simpa using hs
                rw [show eqB (hdB (pkH L) (getV L 2 2)) L = false from hs]
                have hE : peekE l = 4 := by rw [HE.out.1, hform.out, hs]; rfl
                have hE2 := HE.out.2.2 (by rw [hE]; omega)
                have HR : Hid (Ending.returned (.tuple #[hv Hd.zero, .int .i64 0, .int .i64 4]) = Ending.returned (.tuple #[hv (peekH l), .int .i64 (peekN l), .int .i64 (peekE l)])) := by rw [hE, hE2.1, hE2.2]; rfl
                clear hE hE2 hs
                go_wp2_with fail
                refine bodyPost_ret (results_blk3 Try.results39 _ _ w.heap.size _ _ rfl (blk_set7 B4 _ _ _ _ _ _ _) Try.underlying46 rfl rfl) rfl ⟨HR.out, ?_⟩
                exact (((((((W3.setCell (by simp) _).setCell (by simp) _).setCell (by simp) _).setCell (by simp) _).setCell (by simp) _).setCell (by simp) _).setCell (by simp) _)
      · have hform := Lib.hid (show formB L = false from decide_eq_false (fun h => f2 h.2.2))
        have f0' : (getV L 0 1 != 69) = false := by simp [f0]
        clear f0
        rcases f1 with f1 | f1
        · have f3 : (getV L 6 2 != 0) = false := by simp [f1]
          clear f1
          have hE : peekE l = 2 := by rw [HE.out.1, hform.out]; rfl
          have hE2 := HE.out.2.2 (by rw [hE]; omega)
          have HR : Hid (Ending.returned (.tuple #[hv Hd.zero, .int .i64 0, .int .i64 2]) = Ending.returned (.tuple #[hv (peekH l), .int .i64 (peekN l), .int .i64 (peekE l)])) := by rw [hE, hE2.1, hE2.2]; rfl
          clear hE hE2
          go_wp2_with fail
          refine bodyPost_ret (v := .tuple #[hv Hd.zero, .int .i64 0, .int .i64 2]) (by simp [results, Try.results39, go_sem, hv, hcells, Hd.zero]) rfl ⟨HR.out, ?_⟩
          exact hw0
        · have f3 : (getV L 6 2 != 0) = true := by simp [f1]
          have f4 : (getV L 6 2 != 16384) = false := by simp [f1]
          clear f1
          have hE : peekE l = 2 := by rw [HE.out.1, hform.out]; rfl
          have hE2 := HE.out.2.2 (by rw [hE]; omega)
          have HR : Hid (Ending.returned (.tuple #[hv Hd.zero, .int .i64 0, .int .i64 2]) = Ending.returned (.tuple #[hv (peekH l), .int .i64 (peekN l), .int .i64 (peekE l)])) := by rw [hE, hE2.1, hE2.2]; rfl
          clear hE hE2
          go_wp2_with fail
          refine bodyPost_ret (v := .tuple #[hv Hd.zero, .int .i64 0, .int .i64 2]) (by simp [results, Try.results39, go_sem, hv, hcells, Hd.zero]) rfl ⟨HR.out, ?_⟩
          exact hw0
    · have hform := Lib.hid (show formB L = false from decide_eq_false (fun h => f1 h.2.1))
      have f0' : (getV L 0 1 != 69) = false := by simp [f0]
      have f3 : (getV L 6 2 != 0) = true := by simp; omega
      have f4 : (getV L 6 2 != 16384) = true := by simp; omega
      clear f0 f1
      have hE : peekE l = 2 := by rw [HE.out.1, hform.out]; rfl
      have hE2 := HE.out.2.2 (by rw [hE]; omega)
      have HR : Hid (Ending.returned (.tuple #[hv Hd.zero, .int .i64 0, .int .i64 2]) = Ending.returned (.tuple #[hv (peekH l), .int .i64 (peekN l), .int .i64 (peekE l)])) := by rw [hE, hE2.1, hE2.2]; rfl
      clear hE hE2
      go_wp2_with fail
      refine bodyPost_ret (v := .tuple #[hv Hd.zero, .int .i64 0, .int .i64 2]) (by simp [results, Try.results39, go_sem, hv, hcells, Hd.zero]) rfl ⟨HR.out, ?_⟩
      exact hw0
  · have hform := Lib.hid (show formB L = false from decide_eq_false (fun h => f0 h.1))
    have f0' : (getV L 0 1 != 69) = true := by simp [f0]
    clear f0
    have hE : peekE l = 2 := by rw [HE.out.1, hform.out]; rfl
    have hE2 := HE.out.2.2 (by rw [hE]; omega)
    have HR : Hid (Ending.returned (.tuple #[hv Hd.zero, .int .i64 0, .int .i64 2]) = Ending.returned (.tuple #[hv (peekH l), .int .i64 (peekN l), .int .i64 (peekE l)])) := by rw [hE, hE2.1, hE2.2]; rfl
    clear hE hE2
    go_wp2_with fail
    refine bodyPost_ret (v := .tuple #[hv Hd.zero, .int .i64 0, .int .i64 2]) (by simp [results, Try.results39, go_sem, hv, hcells, Hd.zero]) rfl ⟨HR.out, ?_⟩
    exact hw0

theorem peek_any (A : Option Addr) (n c : Nat) (l : List Int) (w : World) (hl : Byt w w.heap.size A n l) (hnc : n ≤ c) (hn2 : n ≤ 100000) :
    Calls Try.prog 31 #[.slice A n c] w (PeekR l w) := by
  by_cases hn : 20 ≤ n
  · exact peek_ok A n c l w hl hn hnc hn2
  · have hE : peekE l = 3 := by unfold peekE; rw [if_pos (by rw [hl.len]; omega)]
    refine (peek_short A n c w (by omega)).mono fun e w' h => ⟨?_, h.2⟩
    rw [h.1]; unfold peekH peekN; rw [hE]; rfl
theorem rpeek_any (A : Option Addr) (n c : Nat) (l : List Int) (w : World) (hl : Byt w w.heap.size A n l) (hnc : n ≤ c) (hn2 : n ≤ 100000) :
    Calls Try.prog 39 #[.slice A n c] w (PeekR l w) := by
  by_cases hn : 20 ≤ n
  · obtain ⟨b, o, x, rfl, _⟩ := hl.at' (k := 0) (by omega)
    exact rpeek_ok b o n c l w hl hn hnc hn2
  · have hE : peekE l = 3 := by unfold peekE; rw [if_pos (by rw [hl.len]; omega)]
    refine (rpeek_short A n c w (by omega)).mono fun e w' h => ⟨?_, h.2⟩
    rw [h.1]; unfold peekH peekN; rw [hE]; rfl
end Go.Proofs.Ytllaojnnackhhaa
