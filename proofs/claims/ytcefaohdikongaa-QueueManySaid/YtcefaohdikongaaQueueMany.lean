/- QueueMany: the walk. -/
import Derived.Test.YtcefaohdikongaaQueueAges
namespace Go.Proofs.Ytcefaohdikongaa
open Go.RowKit Go.Proofs.YtcefaohdikongaaW.PrintLast
attribute [local go_sem] max2_mx min2_mn max_two_ min_two_

/-- The first k messages of QueueMany that were not refused. -/
def mq (k : Nat) : List (Ms × Int) := (List.range k).map fun i : Nat => (ms0 (i : Int), w3 ((i % 4 : Nat) : Int))
theorem mq_length (k : Nat) : (mq k).length = k := by simp [mq]
theorem mq_succ (k : Nat) : mq (k + 1) = mq k ++ [(ms0 (k : Int), w3 ((k % 4 : Nat) : Int))] := by simp [mq, List.range_succ]
set_option maxHeartbeats 4000000 in
theorem queueMany_any (most n : Int) (w : World) : Calls Try.prog 8 #[.int .i64 most, .int .i64 n] w fun e w' => e = .returned (.bool true) ∧ Chg NoB w w' := by
  obtain ⟨hn0, hn1⟩ := md_in n (m := 1010) (by decide) (by decide)
  go_enter Try.func8, Try.ntmps8
  go_wp2_with fail
  refine (new_any most _).mono ?_
  rintro e w1 ⟨⟨g, rfl, hq⟩, hC⟩
  have HQ1 := Lib.hid hq
  have HC1 := Lib.hid hC
  clear hq hC
  have hroom : mx 0 (mn most 1000) = clip most := rfl
  obtain ⟨R, hR, hR2⟩ : ∃ R : Nat, clip most = (R : Int) ∧ R ≤ 1000 := ⟨(clip most).toNat, by unfold clip mx mn; split <;> split <;> omega, by unfold clip mx mn; split <;> split <;> omega⟩
  rw [hR] at HQ1 hroom
  clear hR
  go_wp2_with fail
  generalize wrap64 ((IntKind.u64.wrap n).tmod 1010) = N at *
  go_loopw [19] (fun i wr => ∃ k : Nat, (k : Int) ≤ N ∧ i = .int .i64 k ∧ (∃ s, QA wr g w.heap.size R ((k - R : Nat) : Int) (mq (min k R)) s) ∧ Chg NoB w wr) (fun i _ => 1010 - (intOf i).toNat)
  case atStart => exact ⟨0, by omega, rfl, ⟨_, by simpa [mq] using HQ1.out⟩, HC1.out⟩
  case round =>
    clear HQ1 HC1
    obtain ⟨k, hk, rfl, ⟨s, hq⟩, hC⟩ := hrel
    have HQ := Lib.hid hq
    have HC := Lib.hid hC
    clear hq hC
    by_cases hlt : (k : Int) < N
    · have hk2 : decide ((k : Int) < N) = true := by simpa using hlt
      have hrem : (k : Int).tmod 4 = ((k % 4 : Nat) : Int) := by rw [Int.tmod_eq_emod_of_nonneg (by omega)]; omega
      by_cases hr : k < R
      · have hk3 : decide ((R : Int) ≤ (k : Int)) = false := by simp; omega
        have e1 : min k R = k := by omega
        have e2 : min (k + 1) R = k + 1 := by omega
        have e3 : k - R = 0 := by omega
        have e4 : k + 1 - R = 0 := by omega
        rw [e1, e3] at HQ
        go_wp2_with fail
        refine (msg_any (k : Int) _).mono ?_
        rintro e w2 ⟨rfl, hC⟩
        have HQ2 := Lib.hid (HQ.out.chg hC)
        have HC2 := Lib.hid (HC.out.trans hC)
        clear hC HQ HC
        go_wp2_with fail
        refine (put_msg HQ2.out k ((k % 4 : Nat) : Int) (by rw [mq_length]; omega) (by rw [mq_length]; omega)).mono ?_
        rintro e w4 ⟨rfl, ⟨s4, hq⟩, hk'⟩
        rw [← mq_succ] at hq
        have HQ4 := Lib.hid hq
        have HC4 := Lib.hid (Chg.of_kp HC2.out hk')
        clear hq hk' HQ2 HC2
        go_wp2_with fail
        go_roundw
        case rel => exact ⟨k + 1, by omega, by go_num, ⟨s4, by rw [e2, e4]; exact HQ4.out⟩, HC4.out⟩
        case measure => simp [intOf]; omega
      · have hk3 : decide ((R : Int) ≤ (k : Int)) = true := by simp; omega
        have e1 : min k R = R := by omega
        have e2 : min (k + 1) R = R := by omega
        have e4 : ((k + 1 - R : Nat) : Int) = ((k - R : Nat) : Int) + 1 := by omega
        rw [e1] at HQ
        go_wp2_with fail
        refine (msg_any (k : Int) _).mono ?_
        rintro e w2 ⟨rfl, hC⟩
        have HQ2 := Lib.hid (HQ.out.chg hC)
        have HC2 := Lib.hid (HC.out.trans hC)
        clear hC HQ HC
        go_wp2_with fail
        refine (put_full HQ2.out (ms0 k) ((k % 4 : Nat) : Int) (by rw [mq_length]; omega) (by omega)).mono ?_
        rintro e w4 ⟨rfl, hq, hk'⟩
        have HQ4 := Lib.hid hq
        have HC4 := Lib.hid (Chg.of_kp HC2.out hk')
        clear hq hk' HQ2 HC2
        go_wp2_with fail
        go_roundw
        case rel => exact ⟨k + 1, by omega, by go_num, ⟨s, by rw [e2, e4]; exact HQ4.out⟩, HC4.out⟩
        case measure => simp [intOf]; omega
    · obtain rfl : N = (k : Int) := by omega
      have hk2 : decide ((k : Int) < (k : Int)) = false := by simp
      go_wp2_with fail
      refine (len_any HQ.out).mono ?_
      rintro e w2 ⟨rfl, rfl⟩
      have hmn : mn (k : Int) (R : Int) = ((mq (min k R)).length : Int) := by rw [mq_length]; unfold mn; split <;> omega
      have hmx : mx 0 ((k : Int) - (R : Int)) = ((k - R : Nat) : Int) := by unfold mx; split <;> omega
      go_wp2_with fail
      refine (refused_any HQ.out).mono ?_
      rintro e w3 ⟨rfl, rfl⟩
      go_wp2_with fail
      refine (awake_any _).mono ?_
      rintro e w4 ⟨rfl, hC⟩
      have HC2 := Lib.hid (HC.out.trans hC)
      clear hC
      go_wp2_with fail
      go_ret
      exact ⟨rfl, HC2.out⟩
theorem queueMany_walk (most n : Int) (w : World) (_ : (Lit.int .i64 most).wf = true) (_ : (Lit.int .i64 n).wf = true) :
    Calls Try.prog 8 #[.int .i64 most, .int .i64 n] w fun e w' => e = .returned (.bool true) ∧ Below w.heap.size w w' :=
  (queueMany_any most n w).mono fun _ _ ⟨h1, h2⟩ => ⟨h1, h2.below⟩
end Go.Proofs.Ytcefaohdikongaa
