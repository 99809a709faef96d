/- Node laws: the plans, the config. No statement is proved here. -/
import Derived.Test.YtoefffjhjmjhfaaGreatPkNode
namespace Go.Proofs.YtoefffjhjmjhfaaGreat
open Go.RowKit
set_option maxRecDepth 100000

def peerI (n s t : Int) : Int := (s + 1 + t % (n - 1)) % n
def buckI (n t : Int) : Int := (t / (n - 1)) % 4
theorem peerI_in {n s t : Int} (hn : 2 ≤ n) : 0 ≤ peerI n s t ∧ peerI n s t < n :=
  ⟨Int.emod_nonneg _ (by omega), Int.emod_lt_of_pos _ (by omega)⟩
theorem peer_val {n s t : Int} (hn : 2 ≤ n ∧ n ≤ 8) (hs : 0 ≤ s ∧ s < n) : (wrap64 (s + 1 + t % (n - 1))).tmod n = peerI n s t := by
  have h1 : 0 ≤ t % (n - 1) := Int.emod_nonneg _ (by omega)
  have h2 : t % (n - 1) < n - 1 := Int.emod_lt_of_pos _ (by omega)
  have h3 : wrap64 (s + 1 + t % (n - 1)) = s + 1 + t % (n - 1) := by unfold wrap64; omega
  rw [h3, Int.tmod_eq_emod_of_nonneg (by omega)]
  rfl
theorem pmay_any {n : Int} (hn : 2 ≤ n ∧ n ≤ 8) (w : World) : Calls Tryz.prog 56 #[.int .i64 n] w fun e w' => e = .returned (.bool true) ∧ w' = w := by
  have h1 : decide (n ≥ 2) = true := by simp; omega
  have h2 : decide (n ≤ 8) = true := by simp; omega
  go_enter Tryz.func56, Tryz.ntmps56
  go_wp2
  go_ret
  exact ⟨by simp, rfl⟩
theorem ppeer_any {n s t : Int} (hn : 2 ≤ n ∧ n ≤ 8) (hs : 0 ≤ s ∧ s < n) (ht : 0 ≤ t ∧ t < 1000000) (w : World) : Calls Tryz.prog 26 #[.int .i64 n, .int .i64 s, .int .i64 t] w fun e w' => e = .returned (.int .i64 (peerI n s t)) ∧ w' = w := by
  have HM := Lib.hid (pmay_any hn)
  have HV := Lib.hid (peer_val (t := t) hn hs)
  go_enter Tryz.func26, Tryz.ntmps26
  go_wp2_with fail
  refine (HM.out _).mono ?_
  rintro e w1 ⟨rfl, hw⟩
  subst hw
  go_wp2_with fail
  go_ret
  exact ⟨congrArg (fun z => Ending.returned (Value.int .i64 z)) HV.out, rfl⟩
theorem rpeer_any {n s t : Int} (hn : 2 ≤ n ∧ n ≤ 8) (hs : 0 ≤ s ∧ s < n) (ht : 0 ≤ t ∧ t < 1000000) (w : World) : Calls Tryz.prog 10 #[.int .i64 n, .int .i64 s, .int .i64 t] w fun e w' => e = .returned (.int .i64 (peerI n s t)) ∧ w' = w := by
  have HV := Lib.hid (peer_val (t := t) hn hs)
  go_enter Tryz.func10, Tryz.ntmps10
  go_wp2_with fail
  go_ret
  exact ⟨congrArg (fun z => Ending.returned (Value.int .i64 z)) HV.out, rfl⟩
theorem pbuck_any {n t : Int} (hn : 2 ≤ n ∧ n ≤ 8) (ht : 0 ≤ t ∧ t < 1000000) (w : World) : Calls Tryz.prog 27 #[.int .i64 n, .int .i64 t] w fun e w' => e = .returned (.int .i64 (buckI n t)) ∧ w' = w := by
  have HM := Lib.hid (pmay_any hn)
  have hd : 0 ≤ t / (n - 1) := Int.ediv_nonneg ht.1 (by omega)
  go_enter Tryz.func27, Tryz.ntmps27
  go_wp2_with fail
  refine (HM.out _).mono ?_
  rintro e w1 ⟨rfl, hw⟩
  subst hw
  go_wp2_with fail
  go_ret
  exact ⟨rfl, rfl⟩
theorem rbuck_any {n t : Int} (hn : 2 ≤ n ∧ n ≤ 8) (ht : 0 ≤ t ∧ t < 1000000) (w : World) : Calls Tryz.prog 11 #[.int .i64 n, .int .i64 t] w fun e w' => e = .returned (.int .i64 (buckI n t)) ∧ w' = w := by
  have hd : 0 ≤ t / (n - 1) := Int.ediv_nonneg ht.1 (by omega)
  go_enter Tryz.func11, Tryz.ntmps11
  go_wp2_with fail
  go_ret
  exact ⟨rfl, rfl⟩
/-- The config of the law. -/
abbrev cgN (n : Int) : Cg := ⟨n, 4 % n + 1, 1, 1, 5, 20, 6, 12, 1048576⟩
/-- The config of the node that every program must know. -/
abbrev cg0 : Cg := ⟨1, 1, 1, 1, 5, 10, 4, 10, 1048576⟩
set_option maxHeartbeats 2000000 in
theorem config_any (a0 : Int) (w : World) : Calls Tryz.prog 4 #[.int .i64 a0, .int .i64 4, .int .i64 0, .int .i64 0, .int .i64 19, .int .i64 5, .int .i64 11] w fun e w' => (∃ n : Int, e = .returned (cgv (cgN n)) ∧ 1 ≤ n ∧ n ≤ 5) ∧ Chg NoB w w' := by
  obtain ⟨x, hx⟩ : ∃ x, (IntKind.u64.wrap a0).tmod 5 = x := ⟨_, rfl⟩
  have h0 : 0 ≤ x ∧ x < 5 := by
    have : 0 ≤ IntKind.u64.wrap a0 := by rw [IntKind.wrap_u64]; omega
    rw [← hx]
    exact ⟨Int.tmod_nonneg _ this, Int.tmod_lt_of_pos _ (by decide)⟩
  rcases (by omega : x = 0 ∨ x = 1 ∨ x = 2 ∨ x = 3 ∨ x = 4) with rfl | rfl | rfl | rfl | rfl
  · clear h0
    go_enter Tryz.func4, Tryz.ntmps4
    go_wp2_with fail
    exact back_row rfl rfl ((Blk.new w 23 (cgc (cgN 1))).alloc _) Tryz.underlying23 rfl infCg rfl ⟨⟨1, rfl, by omega, by omega⟩, (Chg.al w _).alloc _⟩
  · clear h0
    go_enter Tryz.func4, Tryz.ntmps4
    go_wp2_with fail
    exact back_row rfl rfl ((Blk.new w 23 (cgc (cgN 2))).alloc _) Tryz.underlying23 rfl infCg rfl ⟨⟨2, rfl, by omega, by omega⟩, (Chg.al w _).alloc _⟩
  · clear h0
    go_enter Tryz.func4, Tryz.ntmps4
    go_wp2_with fail
    exact back_row rfl rfl ((Blk.new w 23 (cgc (cgN 3))).alloc _) Tryz.underlying23 rfl infCg rfl ⟨⟨3, rfl, by omega, by omega⟩, (Chg.al w _).alloc _⟩
  · clear h0
    go_enter Tryz.func4, Tryz.ntmps4
    go_wp2_with fail
    exact back_row rfl rfl ((Blk.new w 23 (cgc (cgN 4))).alloc _) Tryz.underlying23 rfl infCg rfl ⟨⟨4, rfl, by omega, by omega⟩, (Chg.al w _).alloc _⟩
  · clear h0
    go_enter Tryz.func4, Tryz.ntmps4
    go_wp2_with fail
    exact back_row rfl rfl ((Blk.new w 23 (cgc (cgN 5))).alloc _) Tryz.underlying23 rfl infCg rfl ⟨⟨5, rfl, by omega, by omega⟩, (Chg.al w _).alloc _⟩
theorem config_0 (w : World) : Calls Tryz.prog 4 #[.int .i64 0, .int .i64 0, .int .i64 0, .int .i64 0, .int .i64 9, .int .i64 9, .int .i64 9] w fun e w' => e = .returned (cgv cg0) ∧ Chg NoB w w' := by
  go_enter Tryz.func4, Tryz.ntmps4
  go_wp2_with fail
  exact back_row rfl rfl ((Blk.new w 23 (cgc cg0)).alloc _) Tryz.underlying23 rfl infCg rfl ⟨rfl, (Chg.al w _).alloc _⟩
end Go.Proofs.YtoefffjhjmjhfaaGreat
