/- PlanTurns: behind a round the plan tells the same peer of the same bucket; behind a turn of all peers the next bucket comes. For any three numbers; no condition. -/
import Derived.Test.YtmhbpnhkmnnapaaPPlanTurnsx1
namespace Go.Proofs.Ytmhbpnhkmnnapaa.Pure
open Go.RowKit Go.Proofs.Ytmhbpnhkmnnapaa.PPlanTurns Go.Proofs.YtmhbpnhkmnnapaaW.PrintWords Go.Proofs.YtmhbpnhkmnnapaaW.PrintLast Go.Proofs.YtmhbpnhkmnnapaaW.PrintMore

theorem may_yes {n : Int} (h : 2 ≤ n ∧ n ≤ 8) : plan_may.f n = some true := by
  unfold plan_may.f; rw [if_pos h.1]; simp [h.2]
theorem w_pred {n : Int} (h : 2 ≤ n ∧ n ≤ 8) : wrap64 (n - 1) = n - 1 := by unfold wrap64; omega
theorem w_in {x : Int} (h : 0 ≤ x ∧ x ≤ 4611686018427387904) : wrap64 x = x := by unfold wrap64; omega
theorem w_mod {a m : Int} (ha : 0 ≤ a) (h : 0 < m ∧ m ≤ 4611686018427387904) : wrap64 (Int.tmod a m) = a % m := by
  rw [Int.tmod_eq_emod_of_nonneg ha]
  have h0 := Int.emod_nonneg a (show m ≠ 0 by omega)
  have h1 := Int.emod_lt_of_pos a h.1
  exact w_in ⟨h0, by omega⟩
theorem u_nonneg (x : Int) : 0 ≤ IntKind.u64.wrap x := by rw [IntKind.wrap_u64]; omega

theorem peer_is {n s t : Int} (h : 2 ≤ n ∧ n ≤ 8) (hs : 0 ≤ s ∧ s < n) (ht : 0 ≤ t ∧ t ≤ 2251799813685248) : plan_Peer.f n s t = some ((s + 1 + t % (n - 1)) % n) := by
  unfold plan_Peer.f
  rw [may_yes h, w_pred h]
  simp only [Option.bind_some, if_true]
  rw [if_neg (show ¬ s < 0 by omega), if_neg (show ¬ s ≥ n by omega), if_neg (show ¬ t < 0 by omega), if_neg (show ¬ n - 1 = 0 by omega), if_neg (show ¬ n = 0 by omega)]
  have h0 := Int.emod_nonneg t (show n - 1 ≠ 0 by omega)
  have h1 := Int.emod_lt_of_pos t (show 0 < n - 1 by omega)
  rw [Int.tmod_eq_emod_of_nonneg ht.1, w_in (x := s + 1) (by omega), w_in (by omega), Int.tmod_eq_emod_of_nonneg (by omega)]

theorem bucket_is {n t : Int} (h : 2 ≤ n ∧ n ≤ 8) (ht : 0 ≤ t ∧ t ≤ 2251799813685248) : plan_Bucket.f n t = some (t / (n - 1) % 4) := by
  unfold plan_Bucket.f
  rw [may_yes h, w_pred h]
  simp only [Option.bind_some, if_true]
  rw [if_neg (show ¬ t < 0 by omega), if_neg (show ¬ n - 1 = 0 by omega)]
  have h0 := Int.ediv_nonneg ht.1 (show 0 ≤ n - 1 by omega)
  have h1 := Int.ediv_le_self (n - 1) ht.1
  rw [Int.tdiv_eq_ediv_of_nonneg ht.1, w_in (by omega), Int.tmod_eq_emod_of_nonneg h0]

theorem round_is {n : Int} (h : 2 ≤ n ∧ n ≤ 8) : plan_Round.f n = some ((n - 1) * 4) := by
  unfold plan_Round.f
  rw [may_yes h, w_pred h]
  simp only [Option.bind_some, if_true]
  rw [w_in (by omega)]

theorem awake_is : tattlerlaw19_awake.f = some true := by decide +kernel

theorem turn_is {n s t : Int} {b : Bool} (hb : b = false) (h : 2 ≤ n ∧ n ≤ 8) (hs : 0 ≤ s ∧ s < n) (ht : 0 ≤ t ∧ t < 1125899906842624) : tattlerlaw19_PlanTurns.j0 1 n s t b = some true := by
  subst hb
  simp only [tattlerlaw19_PlanTurns.j0]
  rw [w_pred h, w_in (x := t + (n - 1)) (by omega), peer_is h hs (by omega), peer_is h hs (by omega), bucket_is h (by omega), bucket_is h (by omega)]
  simp only [Option.bind_some, awake_is]
  have h0 := Int.emod_nonneg (t / (n - 1)) (show (4 : Int) ≠ 0 by omega)
  have h1 := Int.emod_lt_of_pos (t / (n - 1)) (show (0 : Int) < 4 by omega)
  rw [w_in (x := t / (n - 1) % 4 + 1) (by omega), Int.tmod_eq_emod_of_nonneg (by omega), Int.add_emod_right]
  have hd : (t + (n - 1)) / (n - 1) = t / (n - 1) + 1 := by
    have := Int.add_mul_ediv_right t 1 (show n - 1 ≠ 0 by omega)
    rwa [Int.one_mul] at this
  have hq : (t / (n - 1) + 1) % 4 = (t / (n - 1) % 4 + 1) % 4 := by omega
  rw [hd, if_pos rfl, if_pos hq]
  simp

theorem PlanTurns : tattlerlaw19_PlanTurns.Pure := by
  intro n s t _ _ _
  refine ⟨1, ?_⟩
  unfold tattlerlaw19_PlanTurns.f
  rw [w_mod (u_nonneg n) (by omega)]
  have m0 := Int.emod_nonneg (IntKind.u64.wrap n) (show (7 : Int) ≠ 0 by omega)
  have m1 := Int.emod_lt_of_pos (IntKind.u64.wrap n) (show (0 : Int) < 7 by omega)
  rw [w_in (x := IntKind.u64.wrap n % 7 + 2) (by omega)]
  generalize hn : IntKind.u64.wrap n % 7 + 2 = m
  have hm : 2 ≤ m ∧ m ≤ 8 := by omega
  have um : IntKind.u64.wrap m = m := by rw [IntKind.wrap_u64]; omega
  rw [um, if_neg (show ¬ m = 0 by omega), w_mod (u_nonneg s) (by omega), w_mod (u_nonneg t) (by omega)]
  have s0 := Int.emod_nonneg (IntKind.u64.wrap s) (show m ≠ 0 by omega)
  have s1 := Int.emod_lt_of_pos (IntKind.u64.wrap s) (show 0 < m by omega)
  have t0 := Int.emod_nonneg (IntKind.u64.wrap t) (show (1125899906842624 : Int) ≠ 0 by omega)
  have t1 := Int.emod_lt_of_pos (IntKind.u64.wrap t) (show (0 : Int) < 1125899906842624 by omega)
  generalize IntKind.u64.wrap s % m = s' at *
  generalize IntKind.u64.wrap t % 1125899906842624 = t' at *
  rw [round_is hm]
  simp only [Option.bind_some]
  rw [w_in (x := t' + (m - 1) * 4) (by omega), peer_is hm ⟨s0, s1⟩ (by omega), peer_is hm ⟨s0, s1⟩ (by omega), bucket_is hm (by omega), bucket_is hm (by omega)]
  simp only [Option.bind_some]
  have e1 : (t' + (m - 1) * 4) % (m - 1) = t' % (m - 1) := by rw [Int.mul_comm, Int.add_mul_emod_self_right]
  have e2 : (t' + (m - 1) * 4) / (m - 1) = t' / (m - 1) + 4 := by rw [Int.mul_comm, Int.add_mul_ediv_right _ _ (by omega)]
  rw [e1, e2, if_pos rfl]
  exact turn_is (by simp) hm ⟨s0, s1⟩ ⟨t0, by omega⟩

end Go.Proofs.Ytmhbpnhkmnnapaa.Pure
