/- The walk of TallyNil: it answers true. -/
import Derived.Test.YtiechceeiidelaaTallyAwake
namespace Go.Proofs.Ytiechceeiidelaa
open Go.RowKit

theorem nil_add (n : Int) (w : World) : Calls Try.prog 10 #[.pointer none, .int .i64 n] w fun e w' => e = .returned (.tuple #[.int .i64 0, .bool false]) ∧ Chg NoB w w' := by
  go_enter Try.func10, Try.ntmps10
  go_wp2_with fail
  go_ret2
  exact ⟨rfl, by repeat (first | exact Chg.refl _ _ | apply Chg.alloc)⟩
theorem nil_take (n : Int) (w : World) : Calls Try.prog 12 #[.pointer none, .int .i64 n] w fun e w' => e = .returned (.bool false) ∧ Chg NoB w w' := by
  go_enter Try.func12, Try.ntmps12
  go_wp2_with fail
  go_ret
  exact ⟨rfl, by repeat (first | exact Chg.refl _ _ | apply Chg.alloc)⟩
theorem nil_raise (n : Int) (w : World) : Calls Try.prog 14 #[.pointer none, .int .i64 n] w fun e w' => e = .returned (.bool false) ∧ Chg NoB w w' := by
  go_enter Try.func14, Try.ntmps14
  go_wp2_with fail
  go_ret
  exact ⟨rfl, by repeat (first | exact Chg.refl _ _ | apply Chg.alloc)⟩
theorem nil_now (w : World) : Calls Try.prog 11 #[.pointer none] w fun e w' => e = .returned (.int .i64 0) ∧ Chg NoB w w' := by
  go_enter Try.func11, Try.ntmps11
  go_wp2_with fail
  go_ret
  exact ⟨rfl, by repeat (first | exact Chg.refl _ _ | apply Chg.alloc)⟩
theorem nil_reset (w : World) : Calls Try.prog 15 #[.pointer none] w fun e w' => e = .returned (.int .i64 0) ∧ Chg NoB w w' := by
  go_enter Try.func15, Try.ntmps15
  go_wp2_with fail
  go_ret
  exact ⟨rfl, by repeat (first | exact Chg.refl _ _ | apply Chg.alloc)⟩
theorem nil_most (w : World) : Calls Try.prog 16 #[.pointer none] w fun e w' => e = .returned (.int .i64 0) ∧ Chg NoB w w' := by
  go_enter Try.func16, Try.ntmps16
  go_wp2_with fail
  go_ret
  exact ⟨rfl, by repeat (first | exact Chg.refl _ _ | apply Chg.alloc)⟩

theorem nil_any (n : Int) (w : World) :
    Calls Try.prog 8 #[.int .i64 n] w fun e w' => e = .returned (.bool true) ∧ Chg NoB w w' := by
  have HC0 := Lib.hid (Chg.refl NoB w)
  go_enter Try.func8, Try.ntmps8
  go_wp2_with fail
  refine (nil_add n _).mono ?_
  rintro e w1 ⟨rfl, hC⟩
  have HC1 := Lib.hid (HC0.out.trans hC)
  clear hC HC0
  go_wp2_with fail
  refine (nil_take n _).mono ?_
  rintro e w2 ⟨rfl, hC⟩
  have HC2 := Lib.hid (HC1.out.trans hC)
  clear hC HC1
  go_wp2_with fail
  refine (nil_raise n _).mono ?_
  rintro e w3 ⟨rfl, hC⟩
  have HC3 := Lib.hid (HC2.out.trans hC)
  clear hC HC2
  go_wp2_with fail
  refine (nil_now _).mono ?_
  rintro e w4 ⟨rfl, hC⟩
  have HC4 := Lib.hid (HC3.out.trans hC)
  clear hC HC3
  go_wp2_with fail
  refine (nil_reset _).mono ?_
  rintro e w5 ⟨rfl, hC⟩
  have HC5 := Lib.hid (HC4.out.trans hC)
  clear hC HC4
  go_wp2_with fail
  refine (nil_most _).mono ?_
  rintro e w6 ⟨rfl, hC⟩
  have HC6 := Lib.hid (HC5.out.trans hC)
  clear hC HC5
  go_wp2_with fail
  refine (awake_any _).mono ?_
  rintro e w7 ⟨rfl, hC⟩
  have HC7 := Lib.hid (HC6.out.trans hC)
  clear hC HC6
  go_wp2_with fail
  go_ret
  exact ⟨rfl, HC7.out⟩

theorem tallyNil_walk (n : Int) (W : World) (_w0 : (Lit.int .i64 n).wf = true) :
    Calls Try.prog 8 #[.int .i64 n] W fun e w' => e = .returned (.bool true) ∧ Below W.heap.size W w' :=
  (nil_any n W).mono fun _ _ ⟨h1, h2⟩ => ⟨h1, h2.below⟩
end Go.Proofs.Ytiechceeiidelaa
