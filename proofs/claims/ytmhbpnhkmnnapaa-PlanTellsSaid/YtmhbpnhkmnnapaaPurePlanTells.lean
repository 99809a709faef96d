/- PlanTells: for any four numbers the program's peer, bucket, round and bound of a plan are the document's. No condition. -/
import Derived.Test.YtmhbpnhkmnnapaaPPlanTellsx1
namespace Go.Proofs.Ytmhbpnhkmnnapaa.Pure
open Go.RowKit Go.Proofs.Ytmhbpnhkmnnapaa.PPlanTells Go.Proofs.YtmhbpnhkmnnapaaW.PrintWords Go.Proofs.YtmhbpnhkmnnapaaW.PrintLast Go.Proofs.YtmhbpnhkmnnapaaW.PrintMore

theorem may_yes {n : Int} (h : 2 ≤ n ∧ n ≤ 8) : plan_may.f n = some true := by
  unfold plan_may.f; rw [if_pos h.1]; simp [h.2]
theorem may_no {n : Int} (h : ¬ (2 ≤ n ∧ n ≤ 8)) : plan_may.f n = some false := by
  unfold plan_may.f; by_cases h2 : n ≥ 2
  · rw [if_pos h2]; simp; omega
  · rw [if_neg h2]
theorem w_pred {n : Int} (h : 2 ≤ n ∧ n ≤ 8) : wrap64 (n - 1) = n - 1 := by unfold wrap64; omega

theorem peer_is (n s t : Int) : ∃ r, plan_Peer.f n s t = some r ∧ tattlerref14_Peer.f n s t = some r := by
  unfold plan_Peer.f tattlerref14_Peer.f
  by_cases h : 2 ≤ n ∧ n ≤ 8
  · rw [may_yes h, w_pred h, if_neg (show ¬ n < 2 by omega), if_neg (show ¬ n > 8 by omega)]
    simp only [Option.bind_some, if_true]
    by_cases h1 : s < 0
    · rw [if_pos h1]; exact ⟨_, rfl, rfl⟩
    rw [if_neg h1]
    by_cases h2 : s ≥ n
    · rw [if_pos h2]; exact ⟨_, rfl, rfl⟩
    rw [if_neg h2]
    by_cases h3 : t < 0
    · rw [if_pos h3]; exact ⟨_, rfl, rfl⟩
    rw [if_neg h3, if_neg (show ¬ n - 1 = 0 by omega), if_neg (show ¬ n = 0 by omega)]
    exact ⟨_, rfl, rfl⟩
  · rw [may_no h]
    refine ⟨-1, by simp, ?_⟩
    by_cases h2 : n < 2
    · rw [if_pos h2]
    · rw [if_neg h2, if_pos (show n > 8 by omega)]

theorem bucket_is (n t : Int) : ∃ r, plan_Bucket.f n t = some r ∧ tattlerref14_PlanBucket.f n t = some r := by
  unfold plan_Bucket.f tattlerref14_PlanBucket.f
  by_cases h : 2 ≤ n ∧ n ≤ 8
  · rw [may_yes h, w_pred h, if_neg (show ¬ n < 2 by omega), if_neg (show ¬ n > 8 by omega)]
    simp only [Option.bind_some, if_true]
    by_cases h3 : t < 0
    · rw [if_pos h3]; exact ⟨_, rfl, rfl⟩
    rw [if_neg h3, if_neg (show ¬ n - 1 = 0 by omega)]
    exact ⟨_, rfl, rfl⟩
  · rw [may_no h]
    refine ⟨-1, by simp, ?_⟩
    by_cases h2 : n < 2
    · rw [if_pos h2]
    · rw [if_neg h2, if_pos (show n > 8 by omega)]

theorem round_is (n : Int) : ∃ r, plan_Round.f n = some r ∧ tattlerref14_Round.f n = some r ∧ 0 ≤ r ∧ r ≤ 28 := by
  unfold plan_Round.f tattlerref14_Round.f
  by_cases h : 2 ≤ n ∧ n ≤ 8
  · rw [may_yes h, w_pred h, if_neg (show ¬ n < 2 by omega), if_neg (show ¬ n > 8 by omega)]
    refine ⟨wrap64 ((n - 1) * 4), by simp, rfl, ?_, ?_⟩ <;> (unfold wrap64; omega)
  · rw [may_no h]
    refine ⟨0, by simp, ?_, by omega, by omega⟩
    by_cases h2 : n < 2
    · rw [if_pos h2]
    · rw [if_neg h2, if_pos (show n > 8 by omega)]

theorem clamp_is (h : Int) : 0 ≤ mx 0 (mn h 512) ∧ mx 0 (mn h 512) ≤ 512 := by unfold mx mn; omega

theorem sum_is (a b : Int) (ha : 0 ≤ a ∧ a ≤ 1000) (hb : 0 ≤ b ∧ b ≤ 1000) : plan_sum.f 4 [a, b, 12] = some (a + b + 12) := by
  have w1 : wrap64 (0 + a) = a := by unfold wrap64; omega
  have w2 : wrap64 (a + b) = a + b := by unfold wrap64; omega
  have w3 : wrap64 (a + b + 12) = a + b + 12 := by unfold wrap64; omega
  have i1 : wrap64 (0 + 1) = 1 := by decide +kernel
  have i2 : wrap64 (1 + 1) = 2 := by decide +kernel
  have i3 : wrap64 (2 + 1) = 3 := by decide +kernel
  have e0 : rd [a, b, 12] 0 = a := rfl
  have e1 : rd [a, b, 12] 1 = b := rfl
  have e2 : rd [a, b, 12] 2 = 12 := rfl
  simp only [plan_sum.f, plan_sum.l0, List.length_cons, List.length_nil, e0, e1, e2, w1, w2, w3, i1, i2, i3]
  simp

theorem bound_is (n h : Int) : ∃ r, plan_Bound.f 4 n h = some r ∧ tattlerref14_Bound.f n h = some r := by
  obtain ⟨r, h1, h2, h0, h8⟩ := round_is n
  unfold plan_Bound.f tattlerref14_Bound.f
  rw [h1, h2]
  simp only [Option.bind_some]
  have hc := clamp_is h
  have w1 : wrap64 (2 * r) = 2 * r := by unfold wrap64; omega
  rw [w1, sum_is _ _ (by omega) (by omega)]
  simp only [Option.bind_some]
  generalize mx 0 (mn h 512) = c at *
  have w2 : wrap64 (2 * r + c) = 2 * r + c := by unfold wrap64; omega
  have w3 : wrap64 (2 * r + c + 12) = 2 * r + c + 12 := by unfold wrap64; omega
  rw [w2, w3]
  exact ⟨_, rfl, rfl⟩

theorem awake_is : tattlerlaw19_awake.f = some true := by decide +kernel

theorem PlanTells : tattlerlaw19_PlanTells.Pure := by
  intro n s t h _ _ _ _
  refine ⟨4, ?_⟩
  obtain ⟨r1, a1, b1⟩ := peer_is n s t
  obtain ⟨r2, a2, b2⟩ := bucket_is n t
  obtain ⟨r3, a3, b3, _⟩ := round_is n
  obtain ⟨r4, a4, b4⟩ := bound_is n h
  unfold tattlerlaw19_PlanTells.f
  simp only [a1, b1, a2, b2, a3, b3, a4, b4, awake_is, Option.bind_some, if_true]

end Go.Proofs.Ytmhbpnhkmnnapaa.Pure
