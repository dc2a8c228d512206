/-
  The rounds of a block. No program is walked.
-/
import Derived.Test.YtllaojnnackhhaaDoorDgWordsLaw
namespace Go.Proofs.YtllaojnnackhhaaDoor
open Go.RowKit
set_option linter.unusedVariables false
set_option linter.unusedSimpArgs false

/-- the constants of the rounds -/
def keysL : List Int := [1116352408, 1899447441, 3049323471, 3921009573, 961987163, 1508970993, 2453635748, 2870763221, 3624381080, 310598401, 607225278, 1426881987, 1925078388, 2162078206, 2614888103, 3248222580, 3835390401, 4022224774, 264347078, 604807628, 770255983, 1249150122, 1555081692, 1996064986, 2554220882, 2821834349, 2952996808, 3210313671, 3336571891, 3584528711, 113926993, 338241895, 666307205, 773529912, 1294757372, 1396182291, 1695183700, 1986661051, 2177026350, 2456956037, 2730485921, 2820302411, 3259730800, 3345764771, 3516065817, 3600352804, 4094571909, 275423344, 430227734, 506948616, 659060556, 883997877, 958139571, 1322822218, 1537002063, 1747873779, 1955562222, 2024104815, 2227730452, 2361852424, 2428436474, 2756734187, 3204031479, 3329325298]
theorem keysL_len : keysL.length = 64 := rfl
theorem keysL_w : ∀ x ∈ keysL, W32 x := by
  intro x hx
  have h : keysL.all (fun x => decide (0 ≤ x ∧ x ≤ 4294967295)) = true := by decide
  have h2 : 0 ≤ x ∧ x ≤ 4294967295 := of_decide_eq_true (List.all_eq_true.1 h x hx)
  exact h2
/-- the eight words of a digest -/
structure S8 where
  a : Int
  b : Int
  c : Int
  d : Int
  e : Int
  f : Int
  g : Int
  h : Int
def S8.Ok (s : S8) : Prop := W32 s.a ∧ W32 s.b ∧ W32 s.c ∧ W32 s.d ∧ W32 s.e ∧ W32 s.f ∧ W32 s.g ∧ W32 s.h
def t1F (s : S8) (k w : Int) : Int := addW (addW (addW (addW s.h (xorW (xorW (rotW s.e 6) (rotW s.e 11)) (rotW s.e 25))) (xorW (andW s.e s.f) (andW (notW s.e) s.g))) k) w
def t2F (s : S8) : Int := addW (xorW (xorW (rotW s.a 2) (rotW s.a 13)) (rotW s.a 22)) (xorW (xorW (andW s.a s.b) (andW s.a s.c)) (andW s.b s.c))
def roundF (s : S8) (k w : Int) : S8 := ⟨addW (t1F s k w) (t2F s), s.a, s.b, s.c, addW s.d (t1F s k w), s.e, s.f, s.g⟩
def roundsF (ws : List Int) (s : S8) : Nat → S8
  | 0 => s
  | i + 1 => roundF (roundsF ws s i) (keysL.getD i 0) (ws.getD i 0)
def sumS (s t : S8) : S8 := ⟨addW s.a t.a, addW s.b t.b, addW s.c t.c, addW s.d t.d, addW s.e t.e, addW s.f t.f, addW s.g t.g, addW s.h t.h⟩
def blockF (s : S8) (b : List Int) : S8 := sumS s (roundsF (wList b 48) s 64)
theorem roundF_ok (s : S8) (h : s.Ok) (k w : Int) : (roundF s k w).Ok := by
  obtain ⟨h1, h2, h3, h4, h5, h6, h7, h8⟩ := h
  exact ⟨addW_w _ _, h1, h2, h3, addW_w _ _, h5, h6, h7⟩
theorem roundsF_ok (ws : List Int) (s : S8) (h : s.Ok) : ∀ i, (roundsF ws s i).Ok
  | 0 => h
  | i + 1 => roundF_ok _ (roundsF_ok ws s h i) _ _
theorem sumS_ok (s t : S8) : (sumS s t).Ok := ⟨addW_w _ _, addW_w _ _, addW_w _ _, addW_w _ _, addW_w _ _, addW_w _ _, addW_w _ _, addW_w _ _⟩
def S8.cells (s : S8) : Array Value := #[.int .u32 s.a, .int .u32 s.b, .int .u32 s.c, .int .u32 s.d, .int .u32 s.e, .int .u32 s.f, .int .u32 s.g, .int .u32 s.h]
def S8.list (s : S8) : List Int := [s.a, s.b, s.c, s.d, s.e, s.f, s.g, s.h]
end Go.Proofs.YtllaojnnackhhaaDoor
