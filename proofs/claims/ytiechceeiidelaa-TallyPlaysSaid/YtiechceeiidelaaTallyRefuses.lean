/- The walk of TallyRefuses: it answers true. -/
import Derived.Test.YtiechceeiidelaaTallyAwake
namespace Go.Proofs.Ytiechceeiidelaa
open Go.RowKit

/-- Raising, whatever comes of it. -/
theorem tally_raise {w : World} {g : Nat} {now most : Int} (hT : TA w g now most) (n : Int) :
    Calls Try.prog 14 #[.pointer (some ⟨g, 0, none⟩), .int .i64 n] w fun e w' => ∃ (x : Int) (b : Bool), e = .returned (.bool b) ∧ TA w' g x most ∧ Chg (Only g) w w' ∧
      ((b = true ∧ x = n ∧ now < n ∧ n ≤ most) ∨ (b = false ∧ x = now ∧ ¬ (now < n ∧ n ≤ most))) := by
  by_cases a : now < n ∧ n ≤ most
  · exact (tally_raise_yes hT n a.1 a.2).mono fun e w' ⟨h1, h2, h3⟩ => ⟨_, _, h1, h2, h3, .inl ⟨rfl, rfl, a⟩⟩
  · exact (tally_raise_no hT n a).mono fun e w' ⟨h1, h2, h3⟩ => ⟨_, _, h1, h2, h3, .inr ⟨rfl, rfl, a⟩⟩

theorem refuses_any (m at_ n : Int) (w : World) (hm : m ≤ 9223372036854775807) (hn0 : -9223372036854775808 ≤ n) (hn1 : n ≤ 9223372036854775807) :
    Calls Try.prog 6 #[.int .i64 m, .int .i64 at_, .int .i64 n] w fun e w' => e = .returned (.bool true) ∧ Chg NoB w w' := by
  go_enter Try.func6, Try.ntmps6
  go_wp2_with fail
  refine (tally_new m _ hm).mono ?_
  rintro e w1 ⟨rfl, hT, hC⟩
  have HC := Lib.hid hC
  clear hC
  generalize mx0 m = M at *
  have hz := HC.out.size
  generalize hg : w.heap.size = g at *
  have o : ∀ j, j < w.heap.size → Only g j → NoB j := fun j hj h => absurd h (by unfold Only; omega)
  have O := Lib.hid o
  clear hg hz o
  go_wp2_with fail
  refine (tally_raise hT at_).mono ?_
  rintro e w2 ⟨x, b, rfl, hT2, hC, _⟩
  have HC := Lib.hid (HC.out.then_ hC O.out)
  clear hC hT
  have HT := Lib.hid hT2
  have h0 := hT2.lo
  have h1 := hT2.hi
  have h2 := hT2.top
  clear hT2
  go_wp2_with fail
  refine (tally_now HT.out).mono ?_
  rintro e w3 ⟨rfl, rfl⟩
  by_cases hneg : 0 ≤ n
  all_goals go_wp2_with fail
  all_goals
    refine (tally_add_no HT.out _ (by omega)).mono ?_
    rintro e w3 ⟨rfl, hT3, hC⟩
    have HC3 := Lib.hid (HC.out.then_ hC O.out)
    have HT3 := Lib.hid hT3
    clear hC hT3
    go_wp2_with fail
    refine (tally_add_yes HT3.out 0 (by decide) (by omega)).mono ?_
    rintro e w4 ⟨rfl, hT4, hC⟩
    simp only [Int.add_zero] at hT4
    have HC4 := Lib.hid (HC3.out.then_ hC O.out)
    have HT4 := Lib.hid hT4
    clear hC hT4
    go_wp2_with fail
    refine (tally_take_no HT4.out _ (by omega)).mono ?_
    rintro e w5 ⟨rfl, hT5, hC⟩
    have HC5 := Lib.hid (HC4.out.then_ hC O.out)
    have HT5 := Lib.hid hT5
    clear hC hT5
    go_wp2_with fail
    refine (tally_take_yes HT5.out 0 (by decide) (by omega)).mono ?_
    rintro e w6 ⟨rfl, hT6, hC⟩
    simp only [Int.sub_zero] at hT6
    have HC6 := Lib.hid (HC5.out.then_ hC O.out)
    have HT6 := Lib.hid hT6
    clear hC hT6
    go_wp2_with fail
    refine (tally_raise_no HT6.out _ (by omega)).mono ?_
    rintro e w7 ⟨rfl, hT7, hC⟩
    have HC7 := Lib.hid (HC6.out.then_ hC O.out)
    have HT7 := Lib.hid hT7
    clear hC hT7
    go_wp2_with fail
    refine (tally_now HT7.out).mono ?_
    rintro e w8 ⟨rfl, rfl⟩
    go_wp2_with fail
    refine (awake_any _).mono ?_
    rintro e w8 ⟨rfl, hC⟩
    have HC8 := Lib.hid (HC7.out.trans hC)
    clear hC
    go_wp2_with fail
    go_ret
    exact ⟨rfl, HC8.out⟩

theorem tallyRefuses_walk (m a n : Int) (W : World) (w0 : (Lit.int .i64 m).wf = true) (_w1 : (Lit.int .i64 a).wf = true) (w2 : (Lit.int .i64 n).wf = true) :
    Calls Try.prog 6 #[.int .i64 m, .int .i64 a, .int .i64 n] W fun e w' => e = .returned (.bool true) ∧ Below W.heap.size W w' := by
  have h := w0
  have h2 := w2
  have hmin : IntKind.i64.min = -9223372036854775808 := rfl
  have hmax : IntKind.i64.max = 9223372036854775807 := rfl
  simp only [Lit.wf, Bool.and_eq_true, decide_eq_true_eq] at h h2
  exact (refuses_any m a n W (by omega) (by omega) (by omega)).mono fun _ _ ⟨h1, h2⟩ => ⟨h1, h2.below⟩
end Go.Proofs.Ytiechceeiidelaa
