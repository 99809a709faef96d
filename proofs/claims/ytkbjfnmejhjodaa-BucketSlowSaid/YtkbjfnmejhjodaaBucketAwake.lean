/- The call of tattlerlaw17.awake answers true, whatever was before. No statement is proved here. -/
import Derived.Test.YtkbjfnmejhjodaaBucket
namespace Go.Proofs.Ytkbjfnmejhjodaa
open Go.RowKit

theorem awake_any (w : World) : Calls Try.prog 12 #[] w fun e w' => e = .returned (.bool true) ∧ Chg NoB w w' := by
  go_enter Try.func12, Try.ntmps12
  go_wp2_with fail
  refine (bucket_new 1 2 _).mono ?_
  rintro e w0 ⟨g, h, rfl, hg, hh, hB, hC⟩
  have OW : Hid (∀ j, j < w.heap.size → Two g h j → NoB j) := Lib.hid fun j hj h => absurd h (by unfold Two; omega)
  have hB : BA w0 g h 1 2 2 0 := hB
  have B0 := Lib.hid hB
  have C0 := Lib.hid hC
  clear hB hC
  go_wp2_with fail
  refine (bucket_take_yes B0.out (by decide) (by decide)).mono ?_
  rintro e w1 ⟨rfl, hB, hC⟩
  have B1 := Lib.hid hB
  have C1 := Lib.hid (C0.out.then_ hC OW.out)
  clear hB hC
  go_wp2_with fail
  refine (bucket_take_yes B1.out (by decide) (by decide)).mono ?_
  rintro e w2 ⟨rfl, hB, hC⟩
  have B2 := Lib.hid hB
  have C2 := Lib.hid (C1.out.then_ hC OW.out)
  clear hB hC
  go_wp2_with fail
  refine (bucket_take_no B2.out).mono ?_
  rintro e w3 ⟨rfl, hB, hC⟩
  have B3 := Lib.hid hB
  have C3 := Lib.hid (C2.out.then_ hC OW.out)
  clear hB hC
  go_wp2_with fail
  refine (bucket_tick B3.out).mono ?_
  rintro e w4 ⟨rfl, hB, hC⟩
  have B4 := Lib.hid hB
  have C4 := Lib.hid (C3.out.then_ hC OW.out)
  clear hB hC
  go_wp2_with fail
  refine (bucket_take_yes B4.out (by decide) (by decide)).mono ?_
  rintro e w5 ⟨rfl, hB, hC⟩
  have B5 := Lib.hid hB
  have C5 := Lib.hid (C4.out.then_ hC OW.out)
  clear hB hC
  go_wp2_with fail
  refine (bucket_taken B5.out).mono ?_
  rintro e w6 ⟨rfl, rfl⟩
  go_wp2_with fail
  go_ret
  exact ⟨rfl, C5.out⟩
end Go.Proofs.Ytkbjfnmejhjodaa
