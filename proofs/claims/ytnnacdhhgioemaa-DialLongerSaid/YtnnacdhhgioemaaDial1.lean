/- The clock's functions at the numbers that the simplest facts name. -/
import Derived.Test.YtnnacdhhgioemaaProg
import Derived.Test.YtnnacdhhgioemaaLib
import Derived.KernelRfl
import Derived.Laws.Externs
namespace Go.Proofs.Ytnnacdhhgioemaa
open Go.RowKit Go.CP

theorem run_tr (x : Nat) (h : ∀ W, (Extern.MathFloor.toIntegral "math.archTrunc" .zero #[.float .f64 x]).run Try.prog W = .ok (.float .f64 x) W) (W : World) : (callFunc 15 #[.float .f64 x]).run Try.prog W = .ok (.value (.float .f64 x)) W := by
  rw [run_callFunc_extern (e := Extern.MathFloor.toIntegral "math.archTrunc" .zero) Try.func15 (by decide) rfl (by kernel_rfl) (by kernel_rfl), h]
  rfl
theorem trunc_at (x : Nat) (h : ∀ W, (Extern.MathFloor.toIntegral "math.archTrunc" .zero #[.float .f64 x]).run Try.prog W = .ok (.float .f64 x) W) (w : World) : Calls Try.prog 14 #[.float .f64 x] w fun e w' => e = .returned (.float .f64 x) ∧ w' = w := by
  have h1 := run_tr x h
  clear h
  go_enter Try.func14, Try.ntmps14
  go_wp2
  go_ret
  exact ⟨rfl, rfl⟩
theorem whole_at (x : Nat) (h : ∀ W, (Extern.MathFloor.toIntegral "math.archTrunc" .zero #[.float .f64 x]).run Try.prog W = .ok (.float .f64 x) W)
    (h1 : FloatKind.f64.format.order x 0 = some Ordering.gt ∨ FloatKind.f64.format.order x 0 = some Ordering.eq) (h2 : FloatKind.f64.format.order x 4787326403894837248 = some Ordering.lt ∨ FloatKind.f64.format.order x 4787326403894837248 = some Ordering.eq) (h3 : FloatKind.f64.format.order x x = some Ordering.eq) (w : World) : Calls Try.prog 13 #[.float .f64 x] w fun e w' => e = .returned (.bool true) ∧ w' = w := by
  have H := hid (trunc_at x h)
  have H1 := hid h1
  have H2 := hid h2
  have H3 := hid h3
  have b1 : (FloatKind.f64.format.order x 0 == some Ordering.gt || FloatKind.f64.format.order x 0 == some Ordering.eq) = true := by rcases h1 with h | h <;> rw [h] <;> rfl
  have b2 : (FloatKind.f64.format.order x 4787326403894837248 == some Ordering.lt || FloatKind.f64.format.order x 4787326403894837248 == some Ordering.eq) = true := by rcases h2 with h | h <;> rw [h] <;> rfl
  have B1 := hid b1
  have B2 := hid b2
  clear h h3 b1 b2
  go_enter Try.func13, Try.ntmps13
  go_wp2_with fail
  refine (H.out _).mono ?_
  rintro e w1 ⟨rfl, rfl⟩
  go_wp2
  go_ret
  exact ⟨ret_bool (by first | (rw [B1.out, B2.out, H3.out]; rfl) | (rw [H3.out]; rfl)), rfl⟩
theorem sound_at (x y : Nat) (hx : ∀ w : World, Calls Try.prog 13 #[.float .f64 x] w fun e w' => e = .returned (.bool true) ∧ w' = w) (hy : ∀ w : World, Calls Try.prog 13 #[.float .f64 y] w fun e w' => e = .returned (.bool true) ∧ w' = w) (w : World) :
    Calls Try.prog 10 #[.complex .f64 x y] w fun e w' => e = .returned (.bool true) ∧ w' = w := by
  have HX := hid hx
  have HY := hid hy
  clear hx hy
  go_enter Try.func10, Try.ntmps10
  go_wp2_with fail
  refine (HX.out _).mono ?_
  rintro e w1 ⟨rfl, rfl⟩
  go_wp2_with fail
  refine (HY.out _).mono ?_
  rintro e w1 ⟨rfl, rfl⟩
  go_wp2
  go_ret
  exact ⟨rfl, rfl⟩
theorem whole_3 (w : World) : Calls Try.prog 13 #[.float .f64 4613937818241073152] w fun e w' => e = .returned (.bool true) ∧ w' = w := whole_at _ (fun W => by kernel_rfl) (by decide +kernel) (by decide +kernel) (by decide +kernel) w
theorem whole_4 (w : World) : Calls Try.prog 13 #[.float .f64 4616189618054758400] w fun e w' => e = .returned (.bool true) ∧ w' = w := whole_at _ (fun W => by kernel_rfl) (by decide +kernel) (by decide +kernel) (by decide +kernel) w
theorem whole_0 (w : World) : Calls Try.prog 13 #[.float .f64 0] w fun e w' => e = .returned (.bool true) ∧ w' = w := whole_at _ (fun W => by kernel_rfl) (by decide +kernel) (by decide +kernel) (by decide +kernel) w
theorem whole_7 (w : World) : Calls Try.prog 13 #[.float .f64 4619567317775286272] w fun e w' => e = .returned (.bool true) ∧ w' = w := whole_at _ (fun W => by kernel_rfl) (by decide +kernel) (by decide +kernel) (by decide +kernel) w
theorem whole_9 (w : World) : Calls Try.prog 13 #[.float .f64 4621256167635550208] w fun e w' => e = .returned (.bool true) ∧ w' = w := whole_at _ (fun W => by kernel_rfl) (by decide +kernel) (by decide +kernel) (by decide +kernel) w
theorem whole_18 (w : World) : Calls Try.prog 13 #[.float .f64 4625759767262920704] w fun e w' => e = .returned (.bool true) ∧ w' = w := whole_at _ (fun W => by kernel_rfl) (by decide +kernel) (by decide +kernel) (by decide +kernel) w
theorem whole_19 (w : World) : Calls Try.prog 13 #[.float .f64 4626041242239631360] w fun e w' => e = .returned (.bool true) ∧ w' = w := whole_at _ (fun W => by kernel_rfl) (by decide +kernel) (by decide +kernel) (by decide +kernel) w
theorem sound_3_4 (w : World) : Calls Try.prog 10 #[.complex .f64 4613937818241073152 4616189618054758400] w fun e w' => e = .returned (.bool true) ∧ w' = w := sound_at _ _ whole_3 whole_4 w
theorem sound_7_9 (w : World) : Calls Try.prog 10 #[.complex .f64 4619567317775286272 4621256167635550208] w fun e w' => e = .returned (.bool true) ∧ w' = w := sound_at _ _ whole_7 whole_9 w
theorem sound_3_0 (w : World) : Calls Try.prog 10 #[.complex .f64 4613937818241073152 0] w fun e w' => e = .returned (.bool true) ∧ w' = w := sound_at _ _ whole_3 whole_0 w
theorem sound_18_0 (w : World) : Calls Try.prog 10 #[.complex .f64 4625759767262920704 0] w fun e w' => e = .returned (.bool true) ∧ w' = w := sound_at _ _ whole_18 whole_0 w
theorem sound_19_0 (w : World) : Calls Try.prog 10 #[.complex .f64 4626041242239631360 0] w fun e w' => e = .returned (.bool true) ∧ w' = w := sound_at _ _ whole_19 whole_0 w
theorem mul1 (W : World) : (binOp .mul 30 (.complex .f64 4617315517961601024 4616189618054758400) (.complex .f64 4617315517961601024 4616189618054758400)).run Try.prog W = .ok (.complex .f64 4621256167635550208 4630826316843712512) W := by kernel_rfl
theorem mul2 (W : World) : (binOp .mul 30 (.complex .f64 4616189618054758400 4617315517961601024) (.complex .f64 4617315517961601024 4616189618054758400)).run Try.prog W = .ok (.complex .f64 0 4630967054332067840) W := by kernel_rfl
theorem add1 (W : World) : (binOp .add 30 (.complex .f64 4613937818241073152 4616189618054758400) (.complex .f64 4616189618054758400 4617315517961601024)).run Try.prog W = .ok (.complex .f64 4619567317775286272 4621256167635550208) W := by kernel_rfl
theorem sub1 (W : World) : (binOp .sub 30 (.complex .f64 4625759767262920704 0) (.complex .f64 4613937818241073152 0)).run Try.prog W = .ok (.complex .f64 4624633867356078080 0) W := by kernel_rfl
theorem sub2 (W : World) : (binOp .sub 30 (.complex .f64 4626041242239631360 0) (.complex .f64 4613937818241073152 0)).run Try.prog W = .ok (.complex .f64 4625196817309499392 0) W := by kernel_rfl
theorem cvf_4 (W : World) : (convert 3 35 (.int .i64 4)).run Try.prog W = .ok (.float .f64 4616189618054758400) W := by kernel_rfl
theorem cvf_5 (W : World) : (convert 3 35 (.int .i64 5)).run Try.prog W = .ok (.float .f64 4617315517961601024) W := by kernel_rfl
theorem cvf_16 (W : World) : (convert 3 35 (.int .i64 16)).run Try.prog W = .ok (.float .f64 4625196817309499392) W := by kernel_rfl
theorem eq79 (W : World) : (binOp .eql 30 (.complex .f64 4619567317775286272 4621256167635550208) (.complex .f64 4619567317775286272 4621256167635550208)).run Try.prog W = .ok (.bool true) W := by kernel_rfl
theorem steady_45 (w : World) : Calls Try.prog 12 #[.complex .f64 4616189618054758400 4617315517961601024] w fun e w' => e = .returned (.bool true) ∧ w' = w := by
  have h1 := mul1
  have h2 := mul2
  go_enter Try.func12, Try.ntmps12
  go_wp2
  go_ret
  exact ⟨ret_bool (by decide +kernel), rfl⟩
theorem step_at (w : World) : Calls Try.prog 9 #[.complex .f64 4613937818241073152 4616189618054758400, .int .i64 5, .int .i64 4] w fun e w' => e = .returned (.tuple #[.complex .f64 4619567317775286272 4621256167635550208, .int .i64 0]) ∧ w' = w := by
  have HS := hid sound_3_4
  have HT := hid sound_7_9
  have HD := hid steady_45
  have h1 := add1
  have h2 := cvf_4
  have h3 := cvf_5
  go_enter Try.func9, Try.ntmps9
  go_wp2_with fail
  refine (HS.out _).mono ?_
  rintro e w1 ⟨rfl, rfl⟩
  go_wp2_with fail
  refine (HD.out _).mono ?_
  rintro e w1 ⟨rfl, rfl⟩
  go_wp2_with fail
  refine (HT.out _).mono ?_
  rintro e w1 ⟨rfl, rfl⟩
  go_wp2
  go_ret2
  exact ⟨rfl, rfl⟩
theorem lasts_1 (w : World) : Calls Try.prog 11 #[.complex .f64 4613937818241073152 0, .complex .f64 4625759767262920704 0, .int .i64 16] w fun e w' => e = .returned (.bool true) ∧ w' = w := by
  have HS := hid sound_3_0
  have HT := hid sound_18_0
  have h1 := sub1
  have h2 := cvf_16
  go_enter Try.func11, Try.ntmps11
  go_wp2_with fail
  refine (HS.out _).mono ?_
  rintro e w1 ⟨rfl, rfl⟩
  go_wp2_with fail
  refine (HT.out _).mono ?_
  rintro e w1 ⟨rfl, rfl⟩
  go_wp2
  go_ret
  exact ⟨ret_bool (by decide +kernel), rfl⟩
theorem lasts_2 (w : World) : Calls Try.prog 11 #[.complex .f64 4613937818241073152 0, .complex .f64 4626041242239631360 0, .int .i64 16] w fun e w' => e = .returned (.bool false) ∧ w' = w := by
  have HS := hid sound_3_0
  have HT := hid sound_19_0
  have h1 := sub2
  have h2 := cvf_16
  go_enter Try.func11, Try.ntmps11
  go_wp2_with fail
  refine (HS.out _).mono ?_
  rintro e w1 ⟨rfl, rfl⟩
  go_wp2_with fail
  refine (HT.out _).mono ?_
  rintro e w1 ⟨rfl, rfl⟩
  go_wp2
  go_ret
  exact ⟨ret_bool (by decide +kernel), rfl⟩

def nearV (g w : Int) : Int := max ((4 * g + 4) / 5) (min w (5 * g / 4))
theorem near_err (g w : Int) (W : World) (h : g < 0 ∨ (0 ≤ g ∧ 1099511627776 < g)) : Calls Try.prog 5 #[.int .i64 g, .int .i64 w] W fun e w' => e = .returned (.tuple #[.int .i64 0, .int .i64 1]) ∧ w' = W := by
  rcases h with h | ⟨h1, h2⟩
  all_goals
    go_enter Try.func5, Try.ntmps5
    go_wp2
    go_ret2
    exact ⟨rfl, rfl⟩
theorem near_ok (g w : Int) (W : World) (h0 : 0 ≤ g) (h1 : g ≤ 1099511627776) : Calls Try.prog 5 #[.int .i64 g, .int .i64 w] W fun e w' => e = .returned (.tuple #[.int .i64 (nearV g w), .int .i64 0]) ∧ w' = W := by
  go_enter Try.func5, Try.ntmps5
  go_wp2
  all_goals
    go_ret2
    refine ⟨ret_2 (vint ?_) rfl, rfl⟩
    unfold nearV
    omega
def keepB (g s : Int) : Bool := decide (4 * g ≤ 5 * s ∧ 4 * s ≤ 5 * g)
theorem keeps_any (g s : Int) (W : World) (h0 : -4398046511104 ≤ g) (h1 : g ≤ 4398046511104) (h2 : -4398046511104 ≤ s) (h3 : s ≤ 4398046511104) : Calls Try.prog 7 #[.int .i64 g, .int .i64 s] W fun e w' => e = .returned (.bool (keepB g s)) ∧ w' = W := by
  go_enter Try.func7, Try.ntmps7
  go_wp2
  all_goals
    go_ret
    exact ⟨ret_bool (by rw [Bool.eq_iff_iff]; simp [keepB]; omega), rfl⟩
def longV (t : Int) : Int := 5 * (5 * (t - 1) / 4) / 4 + 1
theorem long_err (t : Int) (W : World) (h : t < 1 ∨ (1 ≤ t ∧ 1099511627776 < t)) : Calls Try.prog 8 #[.int .i64 t] W fun e w' => e = .returned (.tuple #[.int .i64 0, .int .i64 1]) ∧ w' = W := by
  rcases h with h | ⟨h1, h2⟩
  all_goals
    go_enter Try.func8, Try.ntmps8
    go_wp2
    go_ret2
    exact ⟨rfl, rfl⟩
theorem long_ok (t : Int) (W : World) (h0 : 1 ≤ t) (h1 : t ≤ 1099511627776) : Calls Try.prog 8 #[.int .i64 t] W fun e w' => e = .returned (.tuple #[.int .i64 (longV t), .int .i64 0]) ∧ w' = W := by
  have h2 : 0 ≤ 5 * (t - 1) / 4 := by omega
  have h3 : 5 * (t - 1) / 4 ≤ 1374389534720 := by omega
  go_enter Try.func8, Try.ntmps8
  go_wp2
  all_goals
    go_ret2
    refine ⟨ret_2 (vint ?_) rfl, rfl⟩
    unfold longV
    omega

set_option maxHeartbeats 1000000 in
theorem awake_any (w : World) : Calls Try.prog 6 #[] w fun e w' => e = .returned (.bool true) ∧ w' = w := by
  have H1 := hid step_at
  have hn := fun W => near_ok 10 99 W (by omega) (by omega)
  rw [show nearV 10 99 = 12 from by decide] at hn
  have HN := hid hn
  have hl := fun W => long_ok 16 W (by omega) (by omega)
  rw [show longV 16 = 23 from by decide] at hl
  have HL := hid hl
  have HS := hid sound_7_9
  have HA := hid lasts_1
  have HB := hid lasts_2
  have he := eq79
  clear hn hl
  go_enter Try.func6, Try.ntmps6
  go_wp2_with fail
  refine (H1.out _).mono ?_
  rintro e w1 ⟨rfl, rfl⟩
  go_wp2_with fail
  refine (HN.out _).mono ?_
  rintro e w1 ⟨rfl, rfl⟩
  go_wp2_with fail
  refine (HL.out _).mono ?_
  rintro e w1 ⟨rfl, rfl⟩
  go_wp2_with fail
  refine (HS.out _).mono ?_
  rintro e w1 ⟨rfl, rfl⟩
  go_wp2_with fail
  refine (HA.out _).mono ?_
  rintro e w1 ⟨rfl, rfl⟩
  go_wp2_with fail
  refine (HB.out _).mono ?_
  rintro e w1 ⟨rfl, rfl⟩
  go_wp2
  go_ret
  exact ⟨rfl, rfl⟩
end Go.Proofs.Ytnnacdhhgioemaa
