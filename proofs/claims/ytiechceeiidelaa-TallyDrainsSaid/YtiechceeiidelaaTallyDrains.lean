/- The walk of TallyDrains: it answers true. -/
import Derived.Test.YtiechceeiidelaaTallyRefuses
import Derived.LoopTactic
namespace Go.Proofs.Ytiechceeiidelaa
open Go.RowKit

theorem u64_nonneg_ (x : Int) : 0 ≤ IntKind.u64.wrap x := by rw [IntKind.wrap_u64]; omega

theorem drains_any (m0 x0 : Int) (w : World) :
    Calls Try.prog 5 #[.int .i64 m0, .int .i64 x0] w fun e w' => e = .returned (.bool true) ∧ Chg NoB w w' := by
  have hu0 := u64_nonneg_ m0
  have hu1 := u64_nonneg_ x0
  go_enter Try.func5, Try.ntmps5
  go_wp2_with fail
  have hm0 := Int.emod_nonneg (IntKind.u64.wrap m0) (show (200 : Int) ≠ 0 by omega)
  have hm1 := Int.emod_lt_of_pos (IntKind.u64.wrap m0) (show (0 : Int) < 200 by omega)
  have hx0 := Int.emod_nonneg (IntKind.u64.wrap x0) (show (9 : Int) ≠ 0 by omega)
  have hx1 := Int.emod_lt_of_pos (IntKind.u64.wrap x0) (show (0 : Int) < 9 by omega)
  generalize IntKind.u64.wrap m0 % 200 = M' at *
  obtain ⟨M, rfl⟩ := Int.eq_ofNat_of_zero_le hm0
  have hM : mx0 (M : Int) = M := by unfold mx0; split <;> omega
  have hM200 : M < 200 := by omega
  clear hm0 hm1
  refine (tally_new M _ (by omega)).mono ?_
  rw [hM]
  clear hM
  rintro e w1 ⟨rfl, hT, hC⟩
  have hz := hC.size
  have OW : Hid (∀ j, j < w.heap.size → Only w.heap.size j → NoB j) := Lib.hid fun j hj h => absurd h (by unfold Only; omega)
  have HC := Lib.hid hC
  have HT := Lib.hid hT
  clear hC hT hz
  go_wp2_with fail
  go_loopw [6, 22] (fun b i wr => ∃ n k : Nat, k ≤ M + 5 ∧ b = .int .i64 n ∧ i = .int .i64 k ∧ ((n = k ∧ k ≤ M) ∨ (n = M ∧ M ≤ k)) ∧ TA wr w.heap.size n M ∧ Chg NoB w wr) (fun _ i _ => M + 5 - (intOf i).toNat)
  case atStart => exact ⟨0, 0, Nat.zero_le _, rfl, rfl, .inl ⟨rfl, Nat.zero_le _⟩, HT.out, HC.out⟩
  case round =>
    clear HC HT
    obtain ⟨n, k, hk, rfl, rfl, hnk, hT, hC⟩ := hrel
    have HT := Lib.hid hT
    have HC := Lib.hid hC
    clear hT hC
    by_cases hlt : k < M + 5
    · by_cases hn : n < M
      · obtain ⟨rfl, _⟩ : n = k ∧ k ≤ M := by omega
        go_wp2_with fail
        refine (tally_add_yes HT.out 1 (by decide) (by omega)).mono ?_
        rintro e w2 ⟨rfl, hT2, hC⟩
        have HC2 := Lib.hid (HC.out.then_ hC OW.out)
        have HT2 := Lib.hid hT2
        clear hC hT2
        go_wp2_with fail
        go_roundw
        case rel => exact ⟨n + 1, n + 1, by omega, by go_num, by go_num, by omega, HT2.out, HC2.out⟩
        case measure => simp [intOf]; omega
      · obtain ⟨rfl, _⟩ : n = M ∧ M ≤ k := by omega
        go_wp2_with fail
        refine (tally_add_no HT.out 1 (by omega)).mono ?_
        rintro e w2 ⟨rfl, hT2, hC⟩
        have HC2 := Lib.hid (HC.out.then_ hC OW.out)
        have HT2 := Lib.hid hT2
        clear hC hT2
        go_wp2_with fail
        go_roundw
        case rel => exact ⟨n, k + 1, by omega, rfl, by go_num, by omega, HT2.out, HC2.out⟩
        case measure => simp [intOf]; omega
    · obtain ⟨rfl, _⟩ : n = M ∧ M ≤ k := by omega
      go_wp2_with fail
      obtain ⟨wo, rfl⟩ : ∃ wo : World, wo = wr := ⟨_, rfl⟩
      go_loopw [9] (fun b wr => ∃ q : Nat, q ≤ n ∧ b = .int .i64 q ∧ TA wr w.heap.size ((n : Int) - (q : Int)) n ∧ Chg NoB w wr) (fun b _ => n - (intOf b).toNat)
      case atStart => exact ⟨0, Nat.zero_le _, rfl, by simpa using HT.out, HC.out⟩
      case round =>
        clear HC HT
        obtain ⟨q, hq, rfl, hT, hC⟩ := hrel
        have HT := Lib.hid hT
        have HC := Lib.hid hC
        clear hT hC
        by_cases hqn : q < n
        · go_wp2_with fail
          refine (tally_take_yes HT.out 1 (by decide) (by omega)).mono ?_
          rintro e w2 ⟨rfl, hT2, hC⟩
          have HC2 := Lib.hid (HC.out.then_ hC OW.out)
          have HT2 := Lib.hid hT2
          clear hC hT2
          go_wp2_with fail
          go_roundw
          case rel => exact ⟨q + 1, by omega, by go_num, by have := HT2.out; rwa [show (n : Int) - (q : Int) - 1 = (n : Int) - ((q + 1 : Nat) : Int) by omega] at this, HC2.out⟩
          case measure => simp [intOf]; omega
        · obtain rfl : q = n := by omega
          have hT := HT.out
          rw [Int.sub_self] at hT
          go_wp2_with fail
          refine (tally_take_no hT 1 (by omega)).mono ?_
          rintro e w2 ⟨rfl, hT2, hC⟩
          have HC2 := Lib.hid (HC.out.then_ hC OW.out)
          have HT2 := Lib.hid hT2
          clear hC hT2 HT hT
          go_wp2_with fail
          refine (tally_add_yes HT2.out q (by omega) (by omega)).mono ?_
          rintro e w3 ⟨rfl, hT3, hC⟩
          simp only [Int.zero_add] at hT3
          have HC3 := Lib.hid (HC2.out.then_ hC OW.out)
          have HT3 := Lib.hid hT3
          clear hC hT3
          go_wp2_with fail
          refine (tally_add_no HT3.out _ (by omega)).mono ?_
          rintro e w4 ⟨rfl, hT4, hC⟩
          have HC4 := Lib.hid (HC3.out.then_ hC OW.out)
          have HT4 := Lib.hid hT4
          clear hC hT4
          go_wp2_with fail
          refine (tally_now HT4.out).mono ?_
          rintro e w5 ⟨rfl, rfl⟩
          go_wp2_with fail
          refine (awake_any _).mono ?_
          rintro e w8 ⟨rfl, hC⟩
          have HC8 := Lib.hid (HC4.out.trans hC)
          clear hC
          go_wp2_with fail
          go_ret
          exact ⟨rfl, HC8.out⟩

theorem tallyDrains_walk (m x : Int) (W : World) (_w0 : (Lit.int .i64 m).wf = true) (_w1 : (Lit.int .i64 x).wf = true) :
    Calls Try.prog 5 #[.int .i64 m, .int .i64 x] W fun e w' => e = .returned (.bool true) ∧ Below W.heap.size W w' :=
  (drains_any m x W).mono fun _ _ ⟨h1, h2⟩ => ⟨h1, h2.below⟩
end Go.Proofs.Ytiechceeiidelaa
