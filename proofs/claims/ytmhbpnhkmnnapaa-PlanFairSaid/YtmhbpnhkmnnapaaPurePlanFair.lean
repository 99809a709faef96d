/- PlanFair: at one tick no node is told by two; the bound of a plan is at least two rounds, and grows with the hints. For any two numbers; no condition. -/
import Derived.Test.YtmhbpnhkmnnapaaPPlanFairx1
namespace Go.Proofs.Ytmhbpnhkmnnapaa.Pure
open Go.RowKit Go.Proofs.Ytmhbpnhkmnnapaa.PPlanFair Go.Proofs.YtmhbpnhkmnnapaaW.PrintWords Go.Proofs.YtmhbpnhkmnnapaaW.PrintLast Go.Proofs.YtmhbpnhkmnnapaaW.PrintMore

theorem w_in {x : Int} (h : 0 ≤ x ∧ x ≤ 4611686018427387904) : wrap64 x = x := by unfold wrap64; omega
theorem w_mod {a m : Int} (ha : 0 ≤ a) (h : 0 < m ∧ m ≤ 4611686018427387904) : wrap64 (Int.tmod a m) = a % m := by
  rw [Int.tmod_eq_emod_of_nonneg ha]
  have h0 := Int.emod_nonneg a (show m ≠ 0 by omega)
  have h1 := Int.emod_lt_of_pos a h.1
  exact w_in ⟨h0, by omega⟩
theorem u_nonneg (x : Int) : 0 ≤ IntKind.u64.wrap x := by rw [IntKind.wrap_u64]; omega

/-- A peer hangs on the tick by its rest alone. -/
theorem peer_rest {n : Int} (h : 2 ≤ n ∧ n ≤ 8) (s : Int) {t : Int} (ht : 0 ≤ t) : plan_Peer.f n s t = plan_Peer.f n s (t % (n - 1)) := by
  have wp : wrap64 (n - 1) = n - 1 := w_in (by omega)
  have h0 := Int.emod_nonneg t (show n - 1 ≠ 0 by omega)
  unfold plan_Peer.f
  rw [wp, Int.tmod_eq_emod_of_nonneg ht, Int.tmod_eq_emod_of_nonneg h0, Int.emod_emod, if_neg (show ¬ t < 0 by omega), if_neg (show ¬ t % (n - 1) < 0 by omega)]

theorem loop_rest {n : Int} (h : 2 ≤ n ∧ n ≤ 8) {t : Int} (ht : 0 ≤ t) : ∀ (k : Nat) (l : List Int) (m i : Int),
    tattlerlaw19_PlanFair.l0 k n t l m i = tattlerlaw19_PlanFair.l0 k n (t % (n - 1)) l m i := by
  intro k
  induction k with
  | zero => intro l m i; rfl
  | succ k ih =>
    intro l m i
    simp only [tattlerlaw19_PlanFair.l0]
    rw [← peer_rest h i ht]
    simp only [ih]

theorem each_is : ∀ n : Fin 7, ∀ r : Fin 7, r.val ≤ n.val →
    tattlerlaw19_PlanFair.l0 40 ((n.val : Int) + 2) (r.val : Int) (List.replicate (n.val + 2) 0) ((n.val : Int) + 2) 0 = some true := by decide +kernel

theorem PlanFair : tattlerlaw19_PlanFair.Pure := by
  intro n t _ _
  refine ⟨40, ?_⟩
  unfold tattlerlaw19_PlanFair.f
  rw [w_mod (u_nonneg n) (by omega), w_mod (u_nonneg t) (by omega)]
  have m0 := Int.emod_nonneg (IntKind.u64.wrap n) (show (7 : Int) ≠ 0 by omega)
  have m1 := Int.emod_lt_of_pos (IntKind.u64.wrap n) (show (0 : Int) < 7 by omega)
  have t0 := Int.emod_nonneg (IntKind.u64.wrap t) (show (1125899906842624 : Int) ≠ 0 by omega)
  rw [w_in (x := IntKind.u64.wrap n % 7 + 2) (by omega)]
  generalize IntKind.u64.wrap n % 7 = m at *
  generalize IntKind.u64.wrap t % 1125899906842624 = t' at *
  obtain ⟨a, rfl⟩ := Int.eq_ofNat_of_zero_le m0
  rw [if_pos (by omega), if_pos (by omega), loop_rest (by omega) t0]
  have r0 := Int.emod_nonneg t' (show (a : Int) + 2 - 1 ≠ 0 by omega)
  have r1 := Int.emod_lt_of_pos t' (show 0 < (a : Int) + 2 - 1 by omega)
  generalize t' % ((a : Int) + 2 - 1) = r at *
  obtain ⟨b, rfl⟩ := Int.eq_ofNat_of_zero_le r0
  have := each_is ⟨a, by omega⟩ ⟨b, by omega⟩ (by simp; omega)
  rw [show ((a : Int) + 2).toNat = a + 2 by omega]
  exact this

end Go.Proofs.Ytmhbpnhkmnnapaa.Pure
