/- The call of tattlerlaw1.awake answers true, whatever was before. No statement is proved here. -/
import Derived.Test.YtiechceeiidelaaTally
namespace Go.Proofs.Ytiechceeiidelaa
open Go.RowKit

theorem awake_any (w : World) : Calls Try.prog 13 #[] w fun e w' => e = .returned (.bool true) ∧ Chg NoB w w' := by
  go_enter Try.func13, Try.ntmps13
  go_wp2_with fail
  refine (tally_new 10 _ (by decide)).mono ?_
  rintro e w1 ⟨rfl, hT, hC⟩
  rw [show mx0 10 = 10 from rfl] at hT
  have HC := Lib.hid hC
  clear hC
  go_wp2_with fail
  refine (tally_add_yes hT 7 (by decide) (by decide)).mono ?_
  rintro e w2 ⟨rfl, hT2, hC2⟩
  have HC2 := Lib.hid hC2
  clear hC2 hT
  go_wp2_with fail
  refine (tally_add_no hT2 4 (by decide)).mono ?_
  rintro e w3 ⟨rfl, hT3, hC3⟩
  have HC3 := Lib.hid hC3
  clear hC3 hT2
  go_wp2_with fail
  refine (tally_take_no hT3 8 (by decide)).mono ?_
  rintro e w4 ⟨rfl, hT4, hC4⟩
  have HC4 := Lib.hid hC4
  clear hC4 hT3
  go_wp2_with fail
  refine (tally_raise_yes hT4 9 (by decide) (by decide)).mono ?_
  rintro e w5 ⟨rfl, hT5, hC5⟩
  have HC5 := Lib.hid hC5
  clear hC5 hT4
  go_wp2_with fail
  refine (tally_reset hT5).mono ?_
  rintro e w6 ⟨rfl, hT6, hC6⟩
  have HC6 := Lib.hid hC6
  clear hC6 hT5
  go_wp2_with fail
  go_ret
  refine ⟨rfl, ?_⟩
  have o : ∀ j, j < w.heap.size → Only w.heap.size j → NoB j := fun j hj h => absurd h (by unfold Only; omega)
  exact ((((HC.out.then_ HC2.out o).then_ HC3.out o).then_ HC4.out o).then_ HC5.out o).then_ HC6.out o
end Go.Proofs.Ytiechceeiidelaa
