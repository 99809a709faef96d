/- QueueNil: the walk. -/
import Derived.Test.YtcefaohdikongabQueueE
namespace Go.Proofs.Ytcefaohdikongab
open Go.RowKit Go.Proofs.YtcefaohdikongabW.PrintLast

theorem len_nil (w : World) : Calls Try.prog 8 #[.pointer none] w fun e w' => e = .returned (.int .i64 0) ∧ w' = w := by
  go_enter Try.func8, Try.ntmps8
  go_wp2
  go_ret
  exact ⟨rfl, rfl⟩
theorem refused_nil (w : World) : Calls Try.prog 9 #[.pointer none] w fun e w' => e = .returned (.int .i64 0) ∧ w' = w := by
  go_enter Try.func9, Try.ntmps9
  go_wp2
  go_ret
  exact ⟨rfl, rfl⟩
theorem tick_nil (w : World) : Calls Try.prog 4 #[.pointer none] w fun e w' => e = .returned (.tuple #[]) ∧ w' = w := by
  go_enter Try.func4, Try.ntmps4
  go_wp2_with fail
  exact bodyPost_ret (results_none rfl _ _ _) rfl ⟨rfl, rfl⟩
theorem put_nil (x : Ms) (u : Int) (w : World) : Calls Try.prog 6 #[.pointer none, msv x, .int .i64 u] w fun e w' => e = .returned (.int .i64 1) ∧ Chg NoB w w' := by
  go_enter Try.func6, Try.ntmps6
  go_wp2_with fail
  go_ret
  exact ⟨rfl, (Chg.refl NoB w).alloc _⟩
theorem take_nil (w : World) : Calls Try.prog 5 #[.pointer none] w fun e w' => e = .returned (.tuple #[msv msz, .bool false]) ∧ Chg NoB w w' := by
  go_enter Try.func5, Try.ntmps5
  go_wp2_with fail
  have HB := Lib.hid (Blk.new w 27 (mc msz))
  have HC := Lib.hid ((Chg.refl NoB w).alloc (Obj.cells (mc msz) 27))
  generalize w.alloc (Obj.cells _ 27) = W at *
  refine (len_nil _).mono ?_
  rintro e w1 ⟨rfl, rfl⟩
  obtain ⟨c0, c1, c2, c3, c4, c5, c6, c7, c8, c9⟩ := ten HB.out
  obtain ⟨f0, f1, f2, f3, f4, f5, f6, f7, f8, f9, f10⟩ := ten_frozen HB.out
  go_wp2_with fail
  have hz := ten_chg HC.out (.inr (Nat.le_refl _)) (.int .i64 0) (.int .i64 0) (.int .i64 0) (.int .i64 0) (.int .i64 0) (.string ⟨#[]⟩) (.int .i64 0) nil_ nil_ nil_
  exact back_ms2 rfl msz (.bool false) rfl rfl (ten_set HB.out _ _ _ _ _ _ _ _ _ _) rfl ⟨rfl, hz⟩
set_option maxHeartbeats 2000000 in
theorem queueNil_any (n : Int) (w : World) : Calls Try.prog 3 #[.int .i64 n] w fun e w' => e = .returned (.bool true) ∧ Chg NoB w w' := by
  go_enter Try.func3, Try.ntmps3
  go_wp2_with fail
  refine (tick_nil _).mono ?_
  rintro e w1 ⟨rfl, rfl⟩
  go_wp2_with fail
  refine (take_nil _).mono ?_
  rintro e w2 ⟨rfl, hC⟩
  have HC2 := Lib.hid hC
  clear hC
  go_wp2_with fail
  refine (msg_any n _).mono ?_
  rintro e v3 ⟨rfl, hC⟩
  have HB3 := Lib.hid ((Blk.new w2 27 (mc msz)).chg hC id)
  have HC3 := Lib.hid ((HC2.out.alloc _).trans hC)
  clear hC HC2
  go_wp2_with fail
  refine (put_nil (ms0 n) n _).mono ?_
  rintro e w4 ⟨rfl, hC⟩
  have hk : w4.cell? ⟨w2.heap.size, 0, none⟩ = some (.int .i64 0) := (HB3.out.chg hC id).cell 0
  have HC4 := Lib.hid (HC3.out.trans hC)
  clear hC HC3 HB3
  go_wp2_with fail
  refine (len_nil _).mono ?_
  rintro e w5 ⟨rfl, rfl⟩
  go_wp2_with fail
  refine (refused_nil _).mono ?_
  rintro e w6 ⟨rfl, rfl⟩
  go_wp2_with fail
  refine (awake_any _).mono ?_
  rintro e w7 ⟨rfl, hC⟩
  have HC5 := Lib.hid (HC4.out.trans hC)
  clear hC
  go_wp2_with fail
  go_ret
  exact ⟨rfl, HC5.out⟩
theorem queueNil_walk (n : Int) (w : World) (_ : (Lit.int .i64 n).wf = true) :
    Calls Try.prog 3 #[.int .i64 n] w fun e w' => e = .returned (.bool true) ∧ Below w.heap.size w w' :=
  (queueNil_any n w).mono fun _ _ ⟨h1, h2⟩ => ⟨h1, h2.below⟩
end Go.Proofs.Ytcefaohdikongab
