/-
  The words of a block, and the rounds. No program is walked.
-/
import Derived.Test.YtllaojnnackhhaaDoorDgLaw
import Derived.Test.YtllaojnnackhhaaDoorWireLaw
namespace Go.Proofs.YtllaojnnackhhaaDoor
open Go.RowKit
set_option linter.unusedVariables false
set_option linter.unusedSimpArgs false

def w16 (b : List Int) (k : Nat) : List Int := (List.range k).map fun i => be ((b.drop (4 * i)).take 4)
def sig0 (x : Int) : Int := xorW (xorW (rotW x 7) (rotW x 18)) (shrW x 3)
def sig1 (x : Int) : Int := xorW (xorW (rotW x 17) (rotW x 19)) (shrW x 10)
def wNext (L : List Int) : Int := addW (addW (addW (L.getD (L.length - 16) 0) (sig0 (L.getD (L.length - 15) 0))) (L.getD (L.length - 7) 0)) (sig1 (L.getD (L.length - 2) 0))
def wList (b : List Int) : Nat → List Int
  | 0 => w16 b 16
  | k + 1 => wList b k ++ [wNext (wList b k)]
theorem w16_len (b : List Int) (k : Nat) : (w16 b k).length = k := by simp [w16]
theorem w16_succ (b : List Int) (k : Nat) : w16 b (k + 1) = w16 b k ++ [be ((b.drop (4 * k)).take 4)] := by simp [w16, List.range_succ]
theorem wList_len (b : List Int) (k : Nat) : (wList b k).length = 16 + k := by
  induction k with
  | zero => simp [wList, w16_len]
  | succ k ih => simp [wList, ih]; omega
theorem be_w32 (l : List Int) (h : Bs l) (hl : l.length ≤ 4) : W32 (be l) := by
  have := be_bd l h
  have h2 : (256 : Int) ^ l.length ≤ 4294967296 := by
    rcases (by omega : l.length = 0 ∨ l.length = 1 ∨ l.length = 2 ∨ l.length = 3 ∨ l.length = 4) with e | e | e | e | e <;> (rw [e]; decide)
  unfold W32; omega
/-- 64 cells, of which the first hold these words -/
def arrOf (L : List Int) : Array Value := ((L.map (Value.int .u32)) ++ List.replicate (64 - L.length) (Value.int .u32 0)).toArray
theorem arrOf_size (L : List Int) (h : L.length ≤ 64) : (arrOf L).size = 64 := by simp [arrOf]; omega
theorem arrOf_at (L : List Int) (i : Nat) (h : i < L.length) : (arrOf L)[i]? = some (.int .u32 (L.getD i 0)) := by
  unfold arrOf
  simp only [List.getElem?_toArray]
  rw [List.getElem?_append_left (by simpa using h)]
  simp [List.getElem?_map, List.getElem?_eq_getElem h, List.getD_eq_getElem?_getD]
theorem arrOf_grow (L : List Int) (h : L.length < 64) : arrOf L = arrOf (L ++ [0]) := by
  unfold arrOf
  congr 1
  rw [List.map_append, List.append_assoc]
  congr 1
  rw [show 64 - L.length = (64 - (L ++ [0]).length) + 1 by simp; omega, List.replicate_succ]
  rfl
theorem arrOf_set (L : List Int) (x y : Int) (h : L.length < 64) : (arrOf (L ++ [x])).setIfInBounds L.length (.int .u32 y) = arrOf (L ++ [y]) := by
  unfold arrOf
  simp only [List.setIfInBounds_toArray, List.map_append, List.map_cons, List.map_nil, List.append_assoc, List.length_append, List.length_singleton]
  congr 1
  rw [List.set_append_right _ _ (by simp)]
  simp
theorem or_byte (v x : Int) (h : 0 ≤ v) (h1 : v ≤ 16777215) (hx : 0 ≤ x) (hx1 : x ≤ 255) : bits .or .u32 (v * 256) x = v * 256 + x := by
  obtain ⟨a, rfl⟩ := Int.eq_ofNat_of_zero_le h
  obtain ⟨b, rfl⟩ := Int.eq_ofNat_of_zero_le hx
  have e1 : (BitVec.ofInt 32 ((a : Int) * 256)).toNat = a * 256 := by
    rw [BitVec.toNat_ofInt]; omega
  have e2 : (BitVec.ofInt 32 (b : Int)).toNat = b := by
    rw [BitVec.toNat_ofInt]; omega
  unfold bits
  simp only [IntKind.wrap_u32]
  show ((((BitVec.ofInt 32 ((a : Int) * 256)) ||| (BitVec.ofInt 32 (b : Int))).toNat : Nat) : Int) % 4294967296 = _
  rw [BitVec.toNat_or, e1, e2]
  have : a * 256 ||| b = a * 256 + b := by
    have := Nat.shiftLeft_add_eq_or_of_lt (i := 8) (b := b) (by omega) a
    rw [Nat.shiftLeft_eq] at this
    exact this.symm
  rw [this]; omega
theorem wNext_w (L : List Int) : W32 (wNext L) := addW_w _ _
theorem wList_all (b : List Int) (hb : Bs b) : ∀ k, ∀ x ∈ wList b k, W32 x
  | 0, x, hx => by
    simp only [wList, w16, List.mem_map] at hx
    obtain ⟨i, _, rfl⟩ := hx
    exact be_w32 _ ((hb.drop _).take _) (by simp; omega)
  | k + 1, x, hx => by
    simp only [wList, List.mem_append, List.mem_singleton] at hx
    rcases hx with hx | rfl
    · exact wList_all b hb k x hx
    · exact wNext_w _
theorem wList_w (b : List Int) (hb : Bs b) (k i : Nat) : W32 ((wList b k).getD i 0) := by
  rw [List.getD_eq_getElem?_getD]
  cases h : (wList b k)[i]? with
  | none => exact ⟨by decide, by decide⟩
  | some x => exact wList_all b hb k x (List.mem_of_getElem? h)
theorem arrOf_one (L : List Int) : (arrOf L).all (·.oneCell') = true := by
  unfold arrOf
  rw [Array.all_eq_true_iff_forall_mem]
  intro v hv
  simp only [List.mem_toArray, List.mem_append, List.mem_map, List.mem_replicate] at hv
  rcases hv with ⟨x, _, rfl⟩ | ⟨_, rfl⟩ <;> rfl
end Go.Proofs.YtllaojnnackhhaaDoor
