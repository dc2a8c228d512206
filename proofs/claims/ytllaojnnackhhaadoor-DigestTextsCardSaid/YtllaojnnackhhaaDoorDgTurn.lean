/-
  The walks of the rotations of words.
-/
import Derived.Test.YtllaojnnackhhaaDoorProg
import Derived.Test.YtllaojnnackhhaaDoorDgLaw
import Derived.Laws.ShiftsVarLaws
namespace Go.Proofs.YtllaojnnackhhaaDoor
open Go.RowKit
set_option linter.unusedVariables false
set_option linter.unusedSimpArgs false

theorem rot32_2 (x : Int) (hx : W32 x) (w : World) : Calls Tryd.prog 34 #[.int .u32 x, .int .i64 (-2)] w fun e w' => e = .returned (.int .u32 (rotW x 2)) ∧ w = w' := by
  obtain ⟨h0, h1⟩ := hx
  have hb : bits .and .u64 (IntKind.u64.wrap (-2)) 31 = 30 := by decide
  go_enter Tryd.func34, Tryd.ntmps34
  go_wp2_with fail
  go_ret
  exact ⟨ret_int rfl, rfl⟩
theorem turn_2 (x : Int) (hx : W32 x) (w : World) : Calls Tryd.prog 29 #[.int .u32 x, .int .i64 2] w fun e w' => e = .returned (.int .u32 (rotW x 2)) ∧ w = w' := by
  go_enter Tryd.func29, Tryd.ntmps29
  go_wp2_with fail
  refine (rot32_2 x hx _).mono ?_
  rintro e w' ⟨rfl, rfl⟩
  go_wp2_with fail
  go_ret
  exact ⟨rfl, rfl⟩
theorem rturn_2 (x : Int) (hx : W32 x) (w : World) : Calls Tryd.prog 31 #[.int .u32 x, .int .i64 2] w fun e w' => e = .returned (.int .u32 (rotW x 2)) ∧ ∃ q, w' = w.drewN q := by
  obtain ⟨h0, h1⟩ := hx
  have hc := bits_or_comm (shlW x 30) (shrW x 2)
  have HC := Lib.hid hc
  clear hc
  go_enter Tryd.func31, Tryd.ntmps31
  go_wp2_with fail
  go_quiet (fail)
  go_wp2_with fail
  go_ret
  exact ⟨ret_int HC.out, _, rfl⟩

theorem rot32_6 (x : Int) (hx : W32 x) (w : World) : Calls Tryd.prog 34 #[.int .u32 x, .int .i64 (-6)] w fun e w' => e = .returned (.int .u32 (rotW x 6)) ∧ w = w' := by
  obtain ⟨h0, h1⟩ := hx
  have hb : bits .and .u64 (IntKind.u64.wrap (-6)) 31 = 26 := by decide
  go_enter Tryd.func34, Tryd.ntmps34
  go_wp2_with fail
  go_ret
  exact ⟨ret_int rfl, rfl⟩
theorem turn_6 (x : Int) (hx : W32 x) (w : World) : Calls Tryd.prog 29 #[.int .u32 x, .int .i64 6] w fun e w' => e = .returned (.int .u32 (rotW x 6)) ∧ w = w' := by
  go_enter Tryd.func29, Tryd.ntmps29
  go_wp2_with fail
  refine (rot32_6 x hx _).mono ?_
  rintro e w' ⟨rfl, rfl⟩
  go_wp2_with fail
  go_ret
  exact ⟨rfl, rfl⟩
theorem rturn_6 (x : Int) (hx : W32 x) (w : World) : Calls Tryd.prog 31 #[.int .u32 x, .int .i64 6] w fun e w' => e = .returned (.int .u32 (rotW x 6)) ∧ ∃ q, w' = w.drewN q := by
  obtain ⟨h0, h1⟩ := hx
  have hc := bits_or_comm (shlW x 26) (shrW x 6)
  have HC := Lib.hid hc
  clear hc
  go_enter Tryd.func31, Tryd.ntmps31
  go_wp2_with fail
  go_quiet (fail)
  go_wp2_with fail
  go_ret
  exact ⟨ret_int HC.out, _, rfl⟩

theorem rot32_7 (x : Int) (hx : W32 x) (w : World) : Calls Tryd.prog 34 #[.int .u32 x, .int .i64 (-7)] w fun e w' => e = .returned (.int .u32 (rotW x 7)) ∧ w = w' := by
  obtain ⟨h0, h1⟩ := hx
  have hb : bits .and .u64 (IntKind.u64.wrap (-7)) 31 = 25 := by decide
  go_enter Tryd.func34, Tryd.ntmps34
  go_wp2_with fail
  go_ret
  exact ⟨ret_int rfl, rfl⟩
theorem turn_7 (x : Int) (hx : W32 x) (w : World) : Calls Tryd.prog 29 #[.int .u32 x, .int .i64 7] w fun e w' => e = .returned (.int .u32 (rotW x 7)) ∧ w = w' := by
  go_enter Tryd.func29, Tryd.ntmps29
  go_wp2_with fail
  refine (rot32_7 x hx _).mono ?_
  rintro e w' ⟨rfl, rfl⟩
  go_wp2_with fail
  go_ret
  exact ⟨rfl, rfl⟩
theorem rturn_7 (x : Int) (hx : W32 x) (w : World) : Calls Tryd.prog 31 #[.int .u32 x, .int .i64 7] w fun e w' => e = .returned (.int .u32 (rotW x 7)) ∧ ∃ q, w' = w.drewN q := by
  obtain ⟨h0, h1⟩ := hx
  have hc := bits_or_comm (shlW x 25) (shrW x 7)
  have HC := Lib.hid hc
  clear hc
  go_enter Tryd.func31, Tryd.ntmps31
  go_wp2_with fail
  go_quiet (fail)
  go_wp2_with fail
  go_ret
  exact ⟨ret_int HC.out, _, rfl⟩

theorem rot32_11 (x : Int) (hx : W32 x) (w : World) : Calls Tryd.prog 34 #[.int .u32 x, .int .i64 (-11)] w fun e w' => e = .returned (.int .u32 (rotW x 11)) ∧ w = w' := by
  obtain ⟨h0, h1⟩ := hx
  have hb : bits .and .u64 (IntKind.u64.wrap (-11)) 31 = 21 := by decide
  go_enter Tryd.func34, Tryd.ntmps34
  go_wp2_with fail
  go_ret
  exact ⟨ret_int rfl, rfl⟩
theorem turn_11 (x : Int) (hx : W32 x) (w : World) : Calls Tryd.prog 29 #[.int .u32 x, .int .i64 11] w fun e w' => e = .returned (.int .u32 (rotW x 11)) ∧ w = w' := by
  go_enter Tryd.func29, Tryd.ntmps29
  go_wp2_with fail
  refine (rot32_11 x hx _).mono ?_
  rintro e w' ⟨rfl, rfl⟩
  go_wp2_with fail
  go_ret
  exact ⟨rfl, rfl⟩
theorem rturn_11 (x : Int) (hx : W32 x) (w : World) : Calls Tryd.prog 31 #[.int .u32 x, .int .i64 11] w fun e w' => e = .returned (.int .u32 (rotW x 11)) ∧ ∃ q, w' = w.drewN q := by
  obtain ⟨h0, h1⟩ := hx
  have hc := bits_or_comm (shlW x 21) (shrW x 11)
  have HC := Lib.hid hc
  clear hc
  go_enter Tryd.func31, Tryd.ntmps31
  go_wp2_with fail
  go_quiet (fail)
  go_wp2_with fail
  go_ret
  exact ⟨ret_int HC.out, _, rfl⟩

theorem rot32_13 (x : Int) (hx : W32 x) (w : World) : Calls Tryd.prog 34 #[.int .u32 x, .int .i64 (-13)] w fun e w' => e = .returned (.int .u32 (rotW x 13)) ∧ w = w' := by
  obtain ⟨h0, h1⟩ := hx
  have hb : bits .and .u64 (IntKind.u64.wrap (-13)) 31 = 19 := by decide
  go_enter Tryd.func34, Tryd.ntmps34
  go_wp2_with fail
  go_ret
  exact ⟨ret_int rfl, rfl⟩
theorem turn_13 (x : Int) (hx : W32 x) (w : World) : Calls Tryd.prog 29 #[.int .u32 x, .int .i64 13] w fun e w' => e = .returned (.int .u32 (rotW x 13)) ∧ w = w' := by
  go_enter Tryd.func29, Tryd.ntmps29
  go_wp2_with fail
  refine (rot32_13 x hx _).mono ?_
  rintro e w' ⟨rfl, rfl⟩
  go_wp2_with fail
  go_ret
  exact ⟨rfl, rfl⟩
theorem rturn_13 (x : Int) (hx : W32 x) (w : World) : Calls Tryd.prog 31 #[.int .u32 x, .int .i64 13] w fun e w' => e = .returned (.int .u32 (rotW x 13)) ∧ ∃ q, w' = w.drewN q := by
  obtain ⟨h0, h1⟩ := hx
  have hc := bits_or_comm (shlW x 19) (shrW x 13)
  have HC := Lib.hid hc
  clear hc
  go_enter Tryd.func31, Tryd.ntmps31
  go_wp2_with fail
  go_quiet (fail)
  go_wp2_with fail
  go_ret
  exact ⟨ret_int HC.out, _, rfl⟩

theorem rot32_17 (x : Int) (hx : W32 x) (w : World) : Calls Tryd.prog 34 #[.int .u32 x, .int .i64 (-17)] w fun e w' => e = .returned (.int .u32 (rotW x 17)) ∧ w = w' := by
  obtain ⟨h0, h1⟩ := hx
  have hb : bits .and .u64 (IntKind.u64.wrap (-17)) 31 = 15 := by decide
  go_enter Tryd.func34, Tryd.ntmps34
  go_wp2_with fail
  go_ret
  exact ⟨ret_int rfl, rfl⟩
theorem turn_17 (x : Int) (hx : W32 x) (w : World) : Calls Tryd.prog 29 #[.int .u32 x, .int .i64 17] w fun e w' => e = .returned (.int .u32 (rotW x 17)) ∧ w = w' := by
  go_enter Tryd.func29, Tryd.ntmps29
  go_wp2_with fail
  refine (rot32_17 x hx _).mono ?_
  rintro e w' ⟨rfl, rfl⟩
  go_wp2_with fail
  go_ret
  exact ⟨rfl, rfl⟩
theorem rturn_17 (x : Int) (hx : W32 x) (w : World) : Calls Tryd.prog 31 #[.int .u32 x, .int .i64 17] w fun e w' => e = .returned (.int .u32 (rotW x 17)) ∧ ∃ q, w' = w.drewN q := by
  obtain ⟨h0, h1⟩ := hx
  have hc := bits_or_comm (shlW x 15) (shrW x 17)
  have HC := Lib.hid hc
  clear hc
  go_enter Tryd.func31, Tryd.ntmps31
  go_wp2_with fail
  go_quiet (fail)
  go_wp2_with fail
  go_ret
  exact ⟨ret_int HC.out, _, rfl⟩

theorem rot32_18 (x : Int) (hx : W32 x) (w : World) : Calls Tryd.prog 34 #[.int .u32 x, .int .i64 (-18)] w fun e w' => e = .returned (.int .u32 (rotW x 18)) ∧ w = w' := by
  obtain ⟨h0, h1⟩ := hx
  have hb : bits .and .u64 (IntKind.u64.wrap (-18)) 31 = 14 := by decide
  go_enter Tryd.func34, Tryd.ntmps34
  go_wp2_with fail
  go_ret
  exact ⟨ret_int rfl, rfl⟩
theorem turn_18 (x : Int) (hx : W32 x) (w : World) : Calls Tryd.prog 29 #[.int .u32 x, .int .i64 18] w fun e w' => e = .returned (.int .u32 (rotW x 18)) ∧ w = w' := by
  go_enter Tryd.func29, Tryd.ntmps29
  go_wp2_with fail
  refine (rot32_18 x hx _).mono ?_
  rintro e w' ⟨rfl, rfl⟩
  go_wp2_with fail
  go_ret
  exact ⟨rfl, rfl⟩
theorem rturn_18 (x : Int) (hx : W32 x) (w : World) : Calls Tryd.prog 31 #[.int .u32 x, .int .i64 18] w fun e w' => e = .returned (.int .u32 (rotW x 18)) ∧ ∃ q, w' = w.drewN q := by
  obtain ⟨h0, h1⟩ := hx
  have hc := bits_or_comm (shlW x 14) (shrW x 18)
  have HC := Lib.hid hc
  clear hc
  go_enter Tryd.func31, Tryd.ntmps31
  go_wp2_with fail
  go_quiet (fail)
  go_wp2_with fail
  go_ret
  exact ⟨ret_int HC.out, _, rfl⟩

theorem rot32_19 (x : Int) (hx : W32 x) (w : World) : Calls Tryd.prog 34 #[.int .u32 x, .int .i64 (-19)] w fun e w' => e = .returned (.int .u32 (rotW x 19)) ∧ w = w' := by
  obtain ⟨h0, h1⟩ := hx
  have hb : bits .and .u64 (IntKind.u64.wrap (-19)) 31 = 13 := by decide
  go_enter Tryd.func34, Tryd.ntmps34
  go_wp2_with fail
  go_ret
  exact ⟨ret_int rfl, rfl⟩
theorem turn_19 (x : Int) (hx : W32 x) (w : World) : Calls Tryd.prog 29 #[.int .u32 x, .int .i64 19] w fun e w' => e = .returned (.int .u32 (rotW x 19)) ∧ w = w' := by
  go_enter Tryd.func29, Tryd.ntmps29
  go_wp2_with fail
  refine (rot32_19 x hx _).mono ?_
  rintro e w' ⟨rfl, rfl⟩
  go_wp2_with fail
  go_ret
  exact ⟨rfl, rfl⟩
theorem rturn_19 (x : Int) (hx : W32 x) (w : World) : Calls Tryd.prog 31 #[.int .u32 x, .int .i64 19] w fun e w' => e = .returned (.int .u32 (rotW x 19)) ∧ ∃ q, w' = w.drewN q := by
  obtain ⟨h0, h1⟩ := hx
  have hc := bits_or_comm (shlW x 13) (shrW x 19)
  have HC := Lib.hid hc
  clear hc
  go_enter Tryd.func31, Tryd.ntmps31
  go_wp2_with fail
  go_quiet (fail)
  go_wp2_with fail
  go_ret
  exact ⟨ret_int HC.out, _, rfl⟩

theorem rot32_22 (x : Int) (hx : W32 x) (w : World) : Calls Tryd.prog 34 #[.int .u32 x, .int .i64 (-22)] w fun e w' => e = .returned (.int .u32 (rotW x 22)) ∧ w = w' := by
  obtain ⟨h0, h1⟩ := hx
  have hb : bits .and .u64 (IntKind.u64.wrap (-22)) 31 = 10 := by decide
  go_enter Tryd.func34, Tryd.ntmps34
  go_wp2_with fail
  go_ret
  exact ⟨ret_int rfl, rfl⟩
theorem turn_22 (x : Int) (hx : W32 x) (w : World) : Calls Tryd.prog 29 #[.int .u32 x, .int .i64 22] w fun e w' => e = .returned (.int .u32 (rotW x 22)) ∧ w = w' := by
  go_enter Tryd.func29, Tryd.ntmps29
  go_wp2_with fail
  refine (rot32_22 x hx _).mono ?_
  rintro e w' ⟨rfl, rfl⟩
  go_wp2_with fail
  go_ret
  exact ⟨rfl, rfl⟩
theorem rturn_22 (x : Int) (hx : W32 x) (w : World) : Calls Tryd.prog 31 #[.int .u32 x, .int .i64 22] w fun e w' => e = .returned (.int .u32 (rotW x 22)) ∧ ∃ q, w' = w.drewN q := by
  obtain ⟨h0, h1⟩ := hx
  have hc := bits_or_comm (shlW x 10) (shrW x 22)
  have HC := Lib.hid hc
  clear hc
  go_enter Tryd.func31, Tryd.ntmps31
  go_wp2_with fail
  go_quiet (fail)
  go_wp2_with fail
  go_ret
  exact ⟨ret_int HC.out, _, rfl⟩

theorem rot32_25 (x : Int) (hx : W32 x) (w : World) : Calls Tryd.prog 34 #[.int .u32 x, .int .i64 (-25)] w fun e w' => e = .returned (.int .u32 (rotW x 25)) ∧ w = w' := by
  obtain ⟨h0, h1⟩ := hx
  have hb : bits .and .u64 (IntKind.u64.wrap (-25)) 31 = 7 := by decide
  go_enter Tryd.func34, Tryd.ntmps34
  go_wp2_with fail
  go_ret
  exact ⟨ret_int rfl, rfl⟩
theorem turn_25 (x : Int) (hx : W32 x) (w : World) : Calls Tryd.prog 29 #[.int .u32 x, .int .i64 25] w fun e w' => e = .returned (.int .u32 (rotW x 25)) ∧ w = w' := by
  go_enter Tryd.func29, Tryd.ntmps29
  go_wp2_with fail
  refine (rot32_25 x hx _).mono ?_
  rintro e w' ⟨rfl, rfl⟩
  go_wp2_with fail
  go_ret
  exact ⟨rfl, rfl⟩
theorem rturn_25 (x : Int) (hx : W32 x) (w : World) : Calls Tryd.prog 31 #[.int .u32 x, .int .i64 25] w fun e w' => e = .returned (.int .u32 (rotW x 25)) ∧ ∃ q, w' = w.drewN q := by
  obtain ⟨h0, h1⟩ := hx
  have hc := bits_or_comm (shlW x 7) (shrW x 25)
  have HC := Lib.hid hc
  clear hc
  go_enter Tryd.func31, Tryd.ntmps31
  go_wp2_with fail
  go_quiet (fail)
  go_wp2_with fail
  go_ret
  exact ⟨ret_int HC.out, _, rfl⟩
end Go.Proofs.YtllaojnnackhhaaDoor
