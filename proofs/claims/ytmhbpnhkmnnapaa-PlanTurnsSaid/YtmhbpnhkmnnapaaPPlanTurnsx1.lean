-- PRINTED BY print.sh 35421559b90ae4d0a3588c463048766b98c2df88dd9212a6774a882060cdf62d: not written by this session
import Derived.Test.YtmhbpnhkmnnapaaPPlanTurnsx0
namespace Go.Proofs.Ytmhbpnhkmnnapaa.PPlanTurns
open Go.RowKit Go.Proofs.YtmhbpnhkmnnapaaW.PrintWords Go.Proofs.YtmhbpnhkmnnapaaW.PrintLast Go.Proofs.YtmhbpnhkmnnapaaW.PrintMore
attribute [local go_sem] max2_int min2_int max_two min_two max_three min_three max_four min_four   -- for this text's walks alone
set_option linter.unusedVariables false
set_option linter.unusedSimpArgs false

/-! ### plan_may: function 16 -/
def plan_may.f (a0 : Int) : Option (Bool) := if a0 ≥ 2 then (some (decide (a0 ≤ 8))) else (some false)
set_option maxHeartbeats 8000000 in
set_option maxRecDepth 100000 in
theorem plan_may.calls (a0 : Int) (r : Bool) (w : World) (h : plan_may.f a0 = some r) :
    Calls Try.prog 16 #[.int .i64 a0] w fun e w' => e = .returned (.bool r) ∧ Drawn0 w w' := by
  have H : (if a0 ≥ 2 then (some (decide (a0 ≤ 8))) else (some false)) = some r := h
  clear h
  by_cases c2 : a0 ≥ 2
  · rw [if_pos c2] at H
    have c2b0 : decide (2 ≤ a0) = true := decide_eq_true c2
    clear c2
    obtain rfl := Option.some.inj H
    go_enter Try.func16, Try.ntmps16
    go_wp2
    go_ret
    exact ⟨by first | rfl | (simp; done) | (simp [*]; done), by repeat (first | exact Drawn0.refl _ | apply Drawn0.step)⟩
  · rw [if_neg c2] at H
    have c2b0 : decide (2 ≤ a0) = false := decide_eq_false c2
    clear c2
    obtain rfl := Option.some.inj H
    go_enter Try.func16, Try.ntmps16
    go_wp2
    go_ret
    exact ⟨by first | rfl | (simp; done) | (simp [*]; done), by repeat (first | exact Drawn0.refl _ | apply Drawn0.step)⟩

/-! ### plan_Round: function 7 -/
def plan_Round.f (a0 : Int) : Option (Int) := (plan_may.f a0).bind fun t101 => (if t101 = true then (some (wrap64 ((wrap64 (a0 - 1)) * 4))) else (some 0))
set_option maxHeartbeats 8000000 in
set_option maxRecDepth 100000 in
theorem plan_Round.calls (a0 : Int) (r : Int) (w : World) (h : plan_Round.f a0 = some r) :
    Calls Try.prog 7 #[.int .i64 a0] w fun e w' => e = .returned (.int .i64 r) ∧ Drawn0 w w' := by
  have H : ((plan_may.f a0).bind fun t101 => (if t101 = true then (some (wrap64 ((wrap64 (a0 - 1)) * 4))) else (some 0))) = some r := h
  clear h
  replace H := Option.bind_eq_some_iff.mp H
  obtain ⟨t101, A20, H⟩ := H
  replace H : (if t101 = true then (some (wrap64 ((wrap64 (a0 - 1)) * 4))) else (some 0)) = some r := H
  have A2 := Aside0.mk A20
  clear A20
  by_cases c3 : t101 = true
  · subst c3
    have H1 : (some (wrap64 ((wrap64 (a0 - 1)) * 4))) = some r := by rw [if_pos rfl] at H; exact H
    clear H
    have H := H1
    clear H1
    obtain rfl := Option.some.inj H
    go_enter Try.func7, Try.ntmps7
    go_wp2_with (first | ((with_reducible refine gate_callee (f := 16) rfl ?_); refine goesL_ (some 4) rfl rfl Try.func16 (by kernel_rfl) rfl #[.int .i64 a0] rfl (by (try simp only [List.map_toArray, List.map_cons, List.map_nil]); first | done | rfl | (simp only [List.length_drop, List.length_take]; rfl)) ?_; (with_reducible refine (plan_may.calls a0 true _ A2.out).mono ?_); rintro e w' ⟨rfl, ⟨nd, rfl⟩⟩; refine ⟨_, rfl, ?_⟩))
    go_ret
    exact ⟨by first | rfl | (simp; done) | (simp [*]; done), by repeat (first | exact Drawn0.refl _ | apply Drawn0.step)⟩
  · replace c3 := Bool.eq_false_iff.mpr c3
    subst c3
    have H1 : (some 0) = some r := by rw [if_neg (show ¬ (false = true) by decide)] at H; exact H
    clear H
    have H := H1
    clear H1
    obtain rfl := Option.some.inj H
    go_enter Try.func7, Try.ntmps7
    go_wp2_with (first | ((with_reducible refine gate_callee (f := 16) rfl ?_); refine goesL_ (some 4) rfl rfl Try.func16 (by kernel_rfl) rfl #[.int .i64 a0] rfl (by (try simp only [List.map_toArray, List.map_cons, List.map_nil]); first | done | rfl | (simp only [List.length_drop, List.length_take]; rfl)) ?_; (with_reducible refine (plan_may.calls a0 false _ A2.out).mono ?_); rintro e w' ⟨rfl, ⟨nd, rfl⟩⟩; refine ⟨_, rfl, ?_⟩))
    go_ret
    exact ⟨by first | rfl | (simp; done) | (simp [*]; done), by repeat (first | exact Drawn0.refl _ | apply Drawn0.step)⟩

/-! ### plan_Peer: function 8 -/
def plan_Peer.f (a0 : Int) (a1 : Int) (a2 : Int) : Option (Int) := (plan_may.f a0).bind fun t102 => (if t102 = true then (if a1 < 0 then (some (-1)) else (if a1 ≥ a0 then (some (-1)) else (if a2 < 0 then (some (-1)) else (if (wrap64 (a0 - 1)) = 0 then (none) else (if a0 = 0 then (none) else (some (Int.tmod (wrap64 ((wrap64 (a1 + 1)) + (Int.tmod a2 (wrap64 (a0 - 1))))) a0))))))) else (some (-1)))
set_option maxHeartbeats 8000000 in
set_option maxRecDepth 100000 in
theorem plan_Peer.calls (a0 : Int) (a1 : Int) (a2 : Int) (r : Int) (w : World) (h : plan_Peer.f a0 a1 a2 = some r) :
    Calls Try.prog 8 #[.int .i64 a0, .int .i64 a1, .int .i64 a2] w fun e w' => e = .returned (.int .i64 r) ∧ Drawn0 w w' := by
  have H : ((plan_may.f a0).bind fun t102 => (if t102 = true then (if a1 < 0 then (some (-1)) else (if a1 ≥ a0 then (some (-1)) else (if a2 < 0 then (some (-1)) else (if (wrap64 (a0 - 1)) = 0 then (none) else (if a0 = 0 then (none) else (some (Int.tmod (wrap64 ((wrap64 (a1 + 1)) + (Int.tmod a2 (wrap64 (a0 - 1))))) a0))))))) else (some (-1)))) = some r := h
  clear h
  replace H := Option.bind_eq_some_iff.mp H
  obtain ⟨t102, A40, H⟩ := H
  replace H : (if t102 = true then (if a1 < 0 then (some (-1)) else (if a1 ≥ a0 then (some (-1)) else (if a2 < 0 then (some (-1)) else (if (wrap64 (a0 - 1)) = 0 then (none) else (if a0 = 0 then (none) else (some (Int.tmod (wrap64 ((wrap64 (a1 + 1)) + (Int.tmod a2 (wrap64 (a0 - 1))))) a0))))))) else (some (-1))) = some r := H
  have A4 := Aside0.mk A40
  clear A40
  by_cases c5 : t102 = true
  · subst c5
    have H1 : (if a1 < 0 then (some (-1)) else (if a1 ≥ a0 then (some (-1)) else (if a2 < 0 then (some (-1)) else (if (wrap64 (a0 - 1)) = 0 then (none) else (if a0 = 0 then (none) else (some (Int.tmod (wrap64 ((wrap64 (a1 + 1)) + (Int.tmod a2 (wrap64 (a0 - 1))))) a0))))))) = some r := by rw [if_pos rfl] at H; exact H
    clear H
    have H := H1
    clear H1
    by_cases c6 : a1 < 0
    · rw [if_pos c6] at H
      have c6b0 : decide (a1 < 0) = true := decide_eq_true c6
      clear c6
      obtain rfl := Option.some.inj H
      go_enter Try.func8, Try.ntmps8
      go_wp2_with (first | ((with_reducible refine gate_callee (f := 16) rfl ?_); refine goesL_ (some 8) rfl rfl Try.func16 (by kernel_rfl) rfl #[.int .i64 a0] rfl (by (try simp only [List.map_toArray, List.map_cons, List.map_nil]); first | done | rfl | (simp only [List.length_drop, List.length_take]; rfl)) ?_; (with_reducible refine (plan_may.calls a0 true _ A4.out).mono ?_); rintro e w' ⟨rfl, ⟨nd, rfl⟩⟩; refine ⟨_, rfl, ?_⟩))
      go_ret
      exact ⟨by first | rfl | (simp; done) | (simp [*]; done), by repeat (first | exact Drawn0.refl _ | apply Drawn0.step)⟩
    · rw [if_neg c6] at H
      have c6b0 : decide (a1 < 0) = false := decide_eq_false c6
      clear c6
      by_cases c7 : a1 ≥ a0
      · rw [if_pos c7] at H
        have c7b0 : decide (a0 ≤ a1) = true := decide_eq_true c7
        clear c7
        obtain rfl := Option.some.inj H
        go_enter Try.func8, Try.ntmps8
        go_wp2_with (first | ((with_reducible refine gate_callee (f := 16) rfl ?_); refine goesL_ (some 8) rfl rfl Try.func16 (by kernel_rfl) rfl #[.int .i64 a0] rfl (by (try simp only [List.map_toArray, List.map_cons, List.map_nil]); first | done | rfl | (simp only [List.length_drop, List.length_take]; rfl)) ?_; (with_reducible refine (plan_may.calls a0 true _ A4.out).mono ?_); rintro e w' ⟨rfl, ⟨nd, rfl⟩⟩; refine ⟨_, rfl, ?_⟩))
        go_ret
        exact ⟨by first | rfl | (simp; done) | (simp [*]; done), by repeat (first | exact Drawn0.refl _ | apply Drawn0.step)⟩
      · rw [if_neg c7] at H
        have c7b0 : decide (a0 ≤ a1) = false := decide_eq_false c7
        clear c7
        by_cases c8 : a2 < 0
        · rw [if_pos c8] at H
          have c8b0 : decide (a2 < 0) = true := decide_eq_true c8
          clear c8
          obtain rfl := Option.some.inj H
          go_enter Try.func8, Try.ntmps8
          go_wp2_with (first | ((with_reducible refine gate_callee (f := 16) rfl ?_); refine goesL_ (some 8) rfl rfl Try.func16 (by kernel_rfl) rfl #[.int .i64 a0] rfl (by (try simp only [List.map_toArray, List.map_cons, List.map_nil]); first | done | rfl | (simp only [List.length_drop, List.length_take]; rfl)) ?_; (with_reducible refine (plan_may.calls a0 true _ A4.out).mono ?_); rintro e w' ⟨rfl, ⟨nd, rfl⟩⟩; refine ⟨_, rfl, ?_⟩))
          go_ret
          exact ⟨by first | rfl | (simp; done) | (simp [*]; done), by repeat (first | exact Drawn0.refl _ | apply Drawn0.step)⟩
        · rw [if_neg c8] at H
          have c8b0 : decide (a2 < 0) = false := decide_eq_false c8
          clear c8
          by_cases c9 : (wrap64 (a0 - 1)) = 0
          · rw [if_pos c9] at H
            exact absurd H (by simp)
          · rw [if_neg c9] at H
            have c9b0 : ((wrap64 (a0 - 1)) == 0) = false := beq_eq_false_iff_ne.mpr c9
            have c9b1 : ((wrap64 (a0 - 1)) != 0) = true := bne_iff_ne.mpr c9
            by_cases c10 : a0 = 0
            · rw [if_pos c10] at H
              exact absurd H (by simp)
            · rw [if_neg c10] at H
              have c10b0 : (a0 == 0) = false := beq_eq_false_iff_ne.mpr c10
              have c10b1 : (a0 != 0) = true := bne_iff_ne.mpr c10
              obtain rfl := Option.some.inj H
              go_enter Try.func8, Try.ntmps8
              go_wp2_with (first | ((with_reducible refine gate_callee (f := 16) rfl ?_); refine goesL_ (some 8) rfl rfl Try.func16 (by kernel_rfl) rfl #[.int .i64 a0] rfl (by (try simp only [List.map_toArray, List.map_cons, List.map_nil]); first | done | rfl | (simp only [List.length_drop, List.length_take]; rfl)) ?_; (with_reducible refine (plan_may.calls a0 true _ A4.out).mono ?_); rintro e w' ⟨rfl, ⟨nd, rfl⟩⟩; refine ⟨_, rfl, ?_⟩))
              go_ret
              exact ⟨by first | rfl | (simp; done) | (simp [*]; done), by repeat (first | exact Drawn0.refl _ | apply Drawn0.step)⟩
  · replace c5 := Bool.eq_false_iff.mpr c5
    subst c5
    have H1 : (some (-1)) = some r := by rw [if_neg (show ¬ (false = true) by decide)] at H; exact H
    clear H
    have H := H1
    clear H1
    obtain rfl := Option.some.inj H
    go_enter Try.func8, Try.ntmps8
    go_wp2_with (first | ((with_reducible refine gate_callee (f := 16) rfl ?_); refine goesL_ (some 8) rfl rfl Try.func16 (by kernel_rfl) rfl #[.int .i64 a0] rfl (by (try simp only [List.map_toArray, List.map_cons, List.map_nil]); first | done | rfl | (simp only [List.length_drop, List.length_take]; rfl)) ?_; (with_reducible refine (plan_may.calls a0 false _ A4.out).mono ?_); rintro e w' ⟨rfl, ⟨nd, rfl⟩⟩; refine ⟨_, rfl, ?_⟩))
    go_ret
    exact ⟨by first | rfl | (simp; done) | (simp [*]; done), by repeat (first | exact Drawn0.refl _ | apply Drawn0.step)⟩

/-! ### plan_Bucket: function 9 -/
def plan_Bucket.f (a0 : Int) (a1 : Int) : Option (Int) := (plan_may.f a0).bind fun t103 => (if t103 = true then (if a1 < 0 then (some (-1)) else (if (wrap64 (a0 - 1)) = 0 then (none) else (some (Int.tmod (wrap64 (Int.tdiv a1 (wrap64 (a0 - 1)))) 4)))) else (some (-1)))
set_option maxHeartbeats 8000000 in
set_option maxRecDepth 100000 in
theorem plan_Bucket.calls (a0 : Int) (a1 : Int) (r : Int) (w : World) (h : plan_Bucket.f a0 a1 = some r) :
    Calls Try.prog 9 #[.int .i64 a0, .int .i64 a1] w fun e w' => e = .returned (.int .i64 r) ∧ Drawn0 w w' := by
  have H : ((plan_may.f a0).bind fun t103 => (if t103 = true then (if a1 < 0 then (some (-1)) else (if (wrap64 (a0 - 1)) = 0 then (none) else (some (Int.tmod (wrap64 (Int.tdiv a1 (wrap64 (a0 - 1)))) 4)))) else (some (-1)))) = some r := h
  clear h
  replace H := Option.bind_eq_some_iff.mp H
  obtain ⟨t103, A30, H⟩ := H
  replace H : (if t103 = true then (if a1 < 0 then (some (-1)) else (if (wrap64 (a0 - 1)) = 0 then (none) else (some (Int.tmod (wrap64 (Int.tdiv a1 (wrap64 (a0 - 1)))) 4)))) else (some (-1))) = some r := H
  have A3 := Aside0.mk A30
  clear A30
  by_cases c4 : t103 = true
  · subst c4
    have H1 : (if a1 < 0 then (some (-1)) else (if (wrap64 (a0 - 1)) = 0 then (none) else (some (Int.tmod (wrap64 (Int.tdiv a1 (wrap64 (a0 - 1)))) 4)))) = some r := by rw [if_pos rfl] at H; exact H
    clear H
    have H := H1
    clear H1
    by_cases c5 : a1 < 0
    · rw [if_pos c5] at H
      have c5b0 : decide (a1 < 0) = true := decide_eq_true c5
      clear c5
      obtain rfl := Option.some.inj H
      go_enter Try.func9, Try.ntmps9
      go_wp2_with (first | ((with_reducible refine gate_callee (f := 16) rfl ?_); refine goesL_ (some 6) rfl rfl Try.func16 (by kernel_rfl) rfl #[.int .i64 a0] rfl (by (try simp only [List.map_toArray, List.map_cons, List.map_nil]); first | done | rfl | (simp only [List.length_drop, List.length_take]; rfl)) ?_; (with_reducible refine (plan_may.calls a0 true _ A3.out).mono ?_); rintro e w' ⟨rfl, ⟨nd, rfl⟩⟩; refine ⟨_, rfl, ?_⟩))
      go_ret
      exact ⟨by first | rfl | (simp; done) | (simp [*]; done), by repeat (first | exact Drawn0.refl _ | apply Drawn0.step)⟩
    · rw [if_neg c5] at H
      have c5b0 : decide (a1 < 0) = false := decide_eq_false c5
      clear c5
      by_cases c6 : (wrap64 (a0 - 1)) = 0
      · rw [if_pos c6] at H
        exact absurd H (by simp)
      · rw [if_neg c6] at H
        have c6b0 : ((wrap64 (a0 - 1)) == 0) = false := beq_eq_false_iff_ne.mpr c6
        have c6b1 : ((wrap64 (a0 - 1)) != 0) = true := bne_iff_ne.mpr c6
        obtain rfl := Option.some.inj H
        go_enter Try.func9, Try.ntmps9
        go_wp2_with (first | ((with_reducible refine gate_callee (f := 16) rfl ?_); refine goesL_ (some 6) rfl rfl Try.func16 (by kernel_rfl) rfl #[.int .i64 a0] rfl (by (try simp only [List.map_toArray, List.map_cons, List.map_nil]); first | done | rfl | (simp only [List.length_drop, List.length_take]; rfl)) ?_; (with_reducible refine (plan_may.calls a0 true _ A3.out).mono ?_); rintro e w' ⟨rfl, ⟨nd, rfl⟩⟩; refine ⟨_, rfl, ?_⟩))
        go_ret
        exact ⟨by first | rfl | (simp; done) | (simp [*]; done), by repeat (first | exact Drawn0.refl _ | apply Drawn0.step)⟩
  · replace c4 := Bool.eq_false_iff.mpr c4
    subst c4
    have H1 : (some (-1)) = some r := by rw [if_neg (show ¬ (false = true) by decide)] at H; exact H
    clear H
    have H := H1
    clear H1
    obtain rfl := Option.some.inj H
    go_enter Try.func9, Try.ntmps9
    go_wp2_with (first | ((with_reducible refine gate_callee (f := 16) rfl ?_); refine goesL_ (some 6) rfl rfl Try.func16 (by kernel_rfl) rfl #[.int .i64 a0] rfl (by (try simp only [List.map_toArray, List.map_cons, List.map_nil]); first | done | rfl | (simp only [List.length_drop, List.length_take]; rfl)) ?_; (with_reducible refine (plan_may.calls a0 false _ A3.out).mono ?_); rintro e w' ⟨rfl, ⟨nd, rfl⟩⟩; refine ⟨_, rfl, ?_⟩))
    go_ret
    exact ⟨by first | rfl | (simp; done) | (simp [*]; done), by repeat (first | exact Drawn0.refl _ | apply Drawn0.step)⟩

/-! ### tattlerlaw19_awake: function 10 -/
def tattlerlaw19_awake.f  : Option (Bool) := (plan_Peer.f 3 1 0).bind fun t104 => (if t104 = 2 then ((plan_Peer.f 3 1 1).bind fun t105 => (if t105 = 0 then ((plan_Round.f 3).bind fun t106 => (if t106 = 8 then ((plan_Bucket.f 3 2).bind fun t107 => (some (t107 == 1))) else (some false))) else (some false))) else (some false))
set_option maxHeartbeats 8000000 in
set_option maxRecDepth 100000 in
theorem tattlerlaw19_awake.calls  (r : Bool) (w : World) (h : tattlerlaw19_awake.f  = some r) :
    Calls Try.prog 10 #[] w fun e w' => e = .returned (.bool r) ∧ Drawn0 w w' := by
  have H : ((plan_Peer.f 3 1 0).bind fun t104 => (if t104 = 2 then ((plan_Peer.f 3 1 1).bind fun t105 => (if t105 = 0 then ((plan_Round.f 3).bind fun t106 => (if t106 = 8 then ((plan_Bucket.f 3 2).bind fun t107 => (some (t107 == 1))) else (some false))) else (some false))) else (some false))) = some r := h
  clear h
  replace H := Option.bind_eq_some_iff.mp H
  obtain ⟨t104, A10, H⟩ := H
  replace H : (if t104 = 2 then ((plan_Peer.f 3 1 1).bind fun t105 => (if t105 = 0 then ((plan_Round.f 3).bind fun t106 => (if t106 = 8 then ((plan_Bucket.f 3 2).bind fun t107 => (some (t107 == 1))) else (some false))) else (some false))) else (some false)) = some r := H
  have A1 := Aside0.mk A10
  clear A10
  by_cases c2 : t104 = 2
  · rw [if_pos c2] at H
    have c2b0 : (t104 == 2) = true := beq_iff_eq.mpr c2
    have c2b1 : (t104 != 2) = false := bne_eq_false_iff_eq.mpr c2
    clear c2
    replace H := Option.bind_eq_some_iff.mp H
    obtain ⟨t105, A30, H⟩ := H
    replace H : (if t105 = 0 then ((plan_Round.f 3).bind fun t106 => (if t106 = 8 then ((plan_Bucket.f 3 2).bind fun t107 => (some (t107 == 1))) else (some false))) else (some false)) = some r := H
    have A3 := Aside0.mk A30
    clear A30
    by_cases c4 : t105 = 0
    · rw [if_pos c4] at H
      have c4b0 : (t105 == 0) = true := beq_iff_eq.mpr c4
      have c4b1 : (t105 != 0) = false := bne_eq_false_iff_eq.mpr c4
      clear c4
      replace H := Option.bind_eq_some_iff.mp H
      obtain ⟨t106, A50, H⟩ := H
      replace H : (if t106 = 8 then ((plan_Bucket.f 3 2).bind fun t107 => (some (t107 == 1))) else (some false)) = some r := H
      have A5 := Aside0.mk A50
      clear A50
      by_cases c6 : t106 = 8
      · rw [if_pos c6] at H
        have c6b0 : (t106 == 8) = true := beq_iff_eq.mpr c6
        have c6b1 : (t106 != 8) = false := bne_eq_false_iff_eq.mpr c6
        clear c6
        replace H := Option.bind_eq_some_iff.mp H
        obtain ⟨t107, A70, H⟩ := H
        replace H : (some (t107 == 1)) = some r := H
        have A7 := Aside0.mk A70
        clear A70
        obtain rfl := Option.some.inj H
        go_enter Try.func10, Try.ntmps10
        go_wp2_with (first | ((with_reducible refine gate_callee (f := 8) rfl ?_); refine goesL_ (some 1) rfl rfl Try.func8 (by kernel_rfl) rfl #[.int .i64 3, .int .i64 1, .int .i64 0] rfl (by (try simp only [List.map_toArray, List.map_cons, List.map_nil]); first | done | rfl | (simp only [List.length_drop, List.length_take]; rfl)) ?_; (with_reducible refine (plan_Peer.calls 3 1 0 t104 _ A1.out).mono ?_); rintro e w' ⟨rfl, ⟨nd, rfl⟩⟩; refine ⟨_, rfl, ?_⟩) | (go_at_call 8; (with_reducible refine (plan_Peer.calls 3 1 1 t105 _ A3.out).mono ?_); rintro e w' ⟨rfl, ⟨nd, rfl⟩⟩) | (go_at_call 7; (with_reducible refine (plan_Round.calls 3 t106 _ A5.out).mono ?_); rintro e w' ⟨rfl, ⟨nd, rfl⟩⟩) | (go_at_call 9; (with_reducible refine (plan_Bucket.calls 3 2 t107 _ A7.out).mono ?_); rintro e w' ⟨rfl, ⟨nd, rfl⟩⟩))
        go_ret
        exact ⟨by first | rfl | (simp; done) | (simp [*]; done), by repeat (first | exact Drawn0.refl _ | apply Drawn0.step)⟩
      · rw [if_neg c6] at H
        have c6b0 : (t106 == 8) = false := beq_eq_false_iff_ne.mpr c6
        have c6b1 : (t106 != 8) = true := bne_iff_ne.mpr c6
        obtain rfl := Option.some.inj H
        go_enter Try.func10, Try.ntmps10
        go_wp2_with (first | ((with_reducible refine gate_callee (f := 8) rfl ?_); refine goesL_ (some 1) rfl rfl Try.func8 (by kernel_rfl) rfl #[.int .i64 3, .int .i64 1, .int .i64 0] rfl (by (try simp only [List.map_toArray, List.map_cons, List.map_nil]); first | done | rfl | (simp only [List.length_drop, List.length_take]; rfl)) ?_; (with_reducible refine (plan_Peer.calls 3 1 0 t104 _ A1.out).mono ?_); rintro e w' ⟨rfl, ⟨nd, rfl⟩⟩; refine ⟨_, rfl, ?_⟩) | (go_at_call 8; (with_reducible refine (plan_Peer.calls 3 1 1 t105 _ A3.out).mono ?_); rintro e w' ⟨rfl, ⟨nd, rfl⟩⟩) | (go_at_call 7; (with_reducible refine (plan_Round.calls 3 t106 _ A5.out).mono ?_); rintro e w' ⟨rfl, ⟨nd, rfl⟩⟩))
        go_ret
        exact ⟨by first | rfl | (simp; done) | (simp [*]; done), by repeat (first | exact Drawn0.refl _ | apply Drawn0.step)⟩
    · rw [if_neg c4] at H
      have c4b0 : (t105 == 0) = false := beq_eq_false_iff_ne.mpr c4
      have c4b1 : (t105 != 0) = true := bne_iff_ne.mpr c4
      obtain rfl := Option.some.inj H
      go_enter Try.func10, Try.ntmps10
      go_wp2_with (first | ((with_reducible refine gate_callee (f := 8) rfl ?_); refine goesL_ (some 1) rfl rfl Try.func8 (by kernel_rfl) rfl #[.int .i64 3, .int .i64 1, .int .i64 0] rfl (by (try simp only [List.map_toArray, List.map_cons, List.map_nil]); first | done | rfl | (simp only [List.length_drop, List.length_take]; rfl)) ?_; (with_reducible refine (plan_Peer.calls 3 1 0 t104 _ A1.out).mono ?_); rintro e w' ⟨rfl, ⟨nd, rfl⟩⟩; refine ⟨_, rfl, ?_⟩) | (go_at_call 8; (with_reducible refine (plan_Peer.calls 3 1 1 t105 _ A3.out).mono ?_); rintro e w' ⟨rfl, ⟨nd, rfl⟩⟩))
      go_ret
      exact ⟨by first | rfl | (simp; done) | (simp [*]; done), by repeat (first | exact Drawn0.refl _ | apply Drawn0.step)⟩
  · rw [if_neg c2] at H
    have c2b0 : (t104 == 2) = false := beq_eq_false_iff_ne.mpr c2
    have c2b1 : (t104 != 2) = true := bne_iff_ne.mpr c2
    obtain rfl := Option.some.inj H
    go_enter Try.func10, Try.ntmps10
    go_wp2_with (first | ((with_reducible refine gate_callee (f := 8) rfl ?_); refine goesL_ (some 1) rfl rfl Try.func8 (by kernel_rfl) rfl #[.int .i64 3, .int .i64 1, .int .i64 0] rfl (by (try simp only [List.map_toArray, List.map_cons, List.map_nil]); first | done | rfl | (simp only [List.length_drop, List.length_take]; rfl)) ?_; (with_reducible refine (plan_Peer.calls 3 1 0 t104 _ A1.out).mono ?_); rintro e w' ⟨rfl, ⟨nd, rfl⟩⟩; refine ⟨_, rfl, ?_⟩))
    go_ret
    exact ⟨by first | rfl | (simp; done) | (simp [*]; done), by repeat (first | exact Drawn0.refl _ | apply Drawn0.step)⟩

/-! ### tattlerlaw19_PlanTurns: function 4 -/
def tattlerlaw19_PlanTurns.j0 : Nat → Int → Int → Int → Bool → Option (Bool)
  | 0, _, _, _, _ => none
  | k + 1, x0, x1, x2, x46 => if x46 = true then (some false) else ((plan_Peer.f x0 x1 (wrap64 (x2 + (wrap64 (x0 - 1))))).bind fun t113 => ((plan_Peer.f x0 x1 x2).bind fun t114 => (if t113 = t114 then ((plan_Bucket.f x0 (wrap64 (x2 + (wrap64 (x0 - 1))))).bind fun t115 => ((plan_Bucket.f x0 x2).bind fun t116 => (if t115 = (Int.tmod (wrap64 (t116 + 1)) 4) then ((tattlerlaw19_awake.f).bind fun t117 => (some t117)) else (some false)))) else (some false))))
def tattlerlaw19_PlanTurns.f (k : Nat) (a0 : Int) (a1 : Int) (a2 : Int) : Option (Bool) := if (IntKind.u64.wrap (wrap64 ((wrap64 (Int.tmod (IntKind.u64.wrap (a0)) 7)) + 2))) = 0 then (none) else ((plan_Round.f (wrap64 ((wrap64 (Int.tmod (IntKind.u64.wrap (a0)) 7)) + 2))).bind fun t108 => ((plan_Peer.f (wrap64 ((wrap64 (Int.tmod (IntKind.u64.wrap (a0)) 7)) + 2)) (wrap64 (Int.tmod (IntKind.u64.wrap (a1)) (IntKind.u64.wrap (wrap64 ((wrap64 (Int.tmod (IntKind.u64.wrap (a0)) 7)) + 2))))) (wrap64 (Int.tmod (IntKind.u64.wrap (a2)) 1125899906842624))).bind fun t109 => ((plan_Peer.f (wrap64 ((wrap64 (Int.tmod (IntKind.u64.wrap (a0)) 7)) + 2)) (wrap64 (Int.tmod (IntKind.u64.wrap (a1)) (IntKind.u64.wrap (wrap64 ((wrap64 (Int.tmod (IntKind.u64.wrap (a0)) 7)) + 2))))) (wrap64 ((wrap64 (Int.tmod (IntKind.u64.wrap (a2)) 1125899906842624)) + t108))).bind fun t110 => (if t109 = t110 then ((plan_Bucket.f (wrap64 ((wrap64 (Int.tmod (IntKind.u64.wrap (a0)) 7)) + 2)) (wrap64 (Int.tmod (IntKind.u64.wrap (a2)) 1125899906842624))).bind fun t111 => ((plan_Bucket.f (wrap64 ((wrap64 (Int.tmod (IntKind.u64.wrap (a0)) 7)) + 2)) (wrap64 ((wrap64 (Int.tmod (IntKind.u64.wrap (a2)) 1125899906842624)) + t108))).bind fun t112 => (tattlerlaw19_PlanTurns.j0 k (wrap64 ((wrap64 (Int.tmod (IntKind.u64.wrap (a0)) 7)) + 2)) (wrap64 (Int.tmod (IntKind.u64.wrap (a1)) (IntKind.u64.wrap (wrap64 ((wrap64 (Int.tmod (IntKind.u64.wrap (a0)) 7)) + 2))))) (wrap64 (Int.tmod (IntKind.u64.wrap (a2)) 1125899906842624)) (t111 != t112)))) else (tattlerlaw19_PlanTurns.j0 k (wrap64 ((wrap64 (Int.tmod (IntKind.u64.wrap (a0)) 7)) + 2)) (wrap64 (Int.tmod (IntKind.u64.wrap (a1)) (IntKind.u64.wrap (wrap64 ((wrap64 (Int.tmod (IntKind.u64.wrap (a0)) 7)) + 2))))) (wrap64 (Int.tmod (IntKind.u64.wrap (a2)) 1125899906842624)) true)))))
theorem tattlerlaw19_PlanTurns.mono_l : ∀ k, (∀ y0 y1 y2 y3, LeO (tattlerlaw19_PlanTurns.j0 k y0 y1 y2 y3) (tattlerlaw19_PlanTurns.j0 (k + 1) y0 y1 y2 y3))
  | 0 => fun _ _ _ _ r h => by simp [tattlerlaw19_PlanTurns.j0] at h
  | k + 1 => by
    have ih0 := tattlerlaw19_PlanTurns.mono_l k
    · intro y0 y1 y2 y3
      unfold tattlerlaw19_PlanTurns.j0
      repeat' first
      | (with_reducible exact ih0 _ _ _ _)
      | (with_reducible exact LeO.refl _)
      | (with_reducible exact LeO.none _)
      | (with_reducible refine LeO.ite ?_ ?_)
      | (with_reducible refine LeO.bind ?_ (fun _ => ?_))
      | exact ih0 _ _ _ _
      | exact LeO.none _
      | refine LeO.ite ?_ ?_
      | refine LeO.bind ?_ (fun _ => ?_)
theorem tattlerlaw19_PlanTurns.mono : ∀ a0 a1 a2 k, LeO (tattlerlaw19_PlanTurns.f k a0 a1 a2) (tattlerlaw19_PlanTurns.f (k + 1) a0 a1 a2) := by
  intro a0 a1 a2 k
  have ih0 := tattlerlaw19_PlanTurns.mono_l k
  unfold tattlerlaw19_PlanTurns.f
  repeat' first
      | (with_reducible exact ih0 _ _ _ _)
      | (with_reducible exact LeO.refl _)
      | (with_reducible exact LeO.none _)
      | (with_reducible refine LeO.ite ?_ ?_)
      | (with_reducible refine LeO.bind ?_ (fun _ => ?_))
      | exact ih0 _ _ _ _
      | exact LeO.none _
      | refine LeO.ite ?_ ?_
      | refine LeO.bind ?_ (fun _ => ?_)
set_option maxHeartbeats 8000000 in
set_option maxRecDepth 100000 in
theorem tattlerlaw19_PlanTurns.calls (k : Nat) (a0 : Int) (a1 : Int) (a2 : Int) (r : Bool) (w : World) (h : tattlerlaw19_PlanTurns.f k a0 a1 a2 = some r) :
    Calls Try.prog 4 #[.int .i64 a0, .int .i64 a1, .int .i64 a2] w fun e w' => e = .returned (.bool r) ∧ Drawn0 w w' := by
  have H : (if (IntKind.u64.wrap (wrap64 ((wrap64 (Int.tmod (IntKind.u64.wrap (a0)) 7)) + 2))) = 0 then (none) else ((plan_Round.f (wrap64 ((wrap64 (Int.tmod (IntKind.u64.wrap (a0)) 7)) + 2))).bind fun t108 => ((plan_Peer.f (wrap64 ((wrap64 (Int.tmod (IntKind.u64.wrap (a0)) 7)) + 2)) (wrap64 (Int.tmod (IntKind.u64.wrap (a1)) (IntKind.u64.wrap (wrap64 ((wrap64 (Int.tmod (IntKind.u64.wrap (a0)) 7)) + 2))))) (wrap64 (Int.tmod (IntKind.u64.wrap (a2)) 1125899906842624))).bind fun t109 => ((plan_Peer.f (wrap64 ((wrap64 (Int.tmod (IntKind.u64.wrap (a0)) 7)) + 2)) (wrap64 (Int.tmod (IntKind.u64.wrap (a1)) (IntKind.u64.wrap (wrap64 ((wrap64 (Int.tmod (IntKind.u64.wrap (a0)) 7)) + 2))))) (wrap64 ((wrap64 (Int.tmod (IntKind.u64.wrap (a2)) 1125899906842624)) + t108))).bind fun t110 => (if t109 = t110 then ((plan_Bucket.f (wrap64 ((wrap64 (Int.tmod (IntKind.u64.wrap (a0)) 7)) + 2)) (wrap64 (Int.tmod (IntKind.u64.wrap (a2)) 1125899906842624))).bind fun t111 => ((plan_Bucket.f (wrap64 ((wrap64 (Int.tmod (IntKind.u64.wrap (a0)) 7)) + 2)) (wrap64 ((wrap64 (Int.tmod (IntKind.u64.wrap (a2)) 1125899906842624)) + t108))).bind fun t112 => (tattlerlaw19_PlanTurns.j0 k (wrap64 ((wrap64 (Int.tmod (IntKind.u64.wrap (a0)) 7)) + 2)) (wrap64 (Int.tmod (IntKind.u64.wrap (a1)) (IntKind.u64.wrap (wrap64 ((wrap64 (Int.tmod (IntKind.u64.wrap (a0)) 7)) + 2))))) (wrap64 (Int.tmod (IntKind.u64.wrap (a2)) 1125899906842624)) (t111 != t112)))) else (tattlerlaw19_PlanTurns.j0 k (wrap64 ((wrap64 (Int.tmod (IntKind.u64.wrap (a0)) 7)) + 2)) (wrap64 (Int.tmod (IntKind.u64.wrap (a1)) (IntKind.u64.wrap (wrap64 ((wrap64 (Int.tmod (IntKind.u64.wrap (a0)) 7)) + 2))))) (wrap64 (Int.tmod (IntKind.u64.wrap (a2)) 1125899906842624)) true)))))) = some r := h
  clear h
  by_cases c4 : (IntKind.u64.wrap (wrap64 ((wrap64 (Int.tmod (IntKind.u64.wrap (a0)) 7)) + 2))) = 0
  · rw [if_pos c4] at H
    exact absurd H (by simp)
  · rw [if_neg c4] at H
    have c4b0 : ((IntKind.u64.wrap (wrap64 ((wrap64 (Int.tmod (IntKind.u64.wrap (a0)) 7)) + 2))) == 0) = false := beq_eq_false_iff_ne.mpr c4
    have c4b1 : ((IntKind.u64.wrap (wrap64 ((wrap64 (Int.tmod (IntKind.u64.wrap (a0)) 7)) + 2))) != 0) = true := bne_iff_ne.mpr c4
    replace H := Option.bind_eq_some_iff.mp H
    obtain ⟨t108, A50, H⟩ := H
    replace H : ((plan_Peer.f (wrap64 ((wrap64 (Int.tmod (IntKind.u64.wrap (a0)) 7)) + 2)) (wrap64 (Int.tmod (IntKind.u64.wrap (a1)) (IntKind.u64.wrap (wrap64 ((wrap64 (Int.tmod (IntKind.u64.wrap (a0)) 7)) + 2))))) (wrap64 (Int.tmod (IntKind.u64.wrap (a2)) 1125899906842624))).bind fun t109 => ((plan_Peer.f (wrap64 ((wrap64 (Int.tmod (IntKind.u64.wrap (a0)) 7)) + 2)) (wrap64 (Int.tmod (IntKind.u64.wrap (a1)) (IntKind.u64.wrap (wrap64 ((wrap64 (Int.tmod (IntKind.u64.wrap (a0)) 7)) + 2))))) (wrap64 ((wrap64 (Int.tmod (IntKind.u64.wrap (a2)) 1125899906842624)) + t108))).bind fun t110 => (if t109 = t110 then ((plan_Bucket.f (wrap64 ((wrap64 (Int.tmod (IntKind.u64.wrap (a0)) 7)) + 2)) (wrap64 (Int.tmod (IntKind.u64.wrap (a2)) 1125899906842624))).bind fun t111 => ((plan_Bucket.f (wrap64 ((wrap64 (Int.tmod (IntKind.u64.wrap (a0)) 7)) + 2)) (wrap64 ((wrap64 (Int.tmod (IntKind.u64.wrap (a2)) 1125899906842624)) + t108))).bind fun t112 => (tattlerlaw19_PlanTurns.j0 k (wrap64 ((wrap64 (Int.tmod (IntKind.u64.wrap (a0)) 7)) + 2)) (wrap64 (Int.tmod (IntKind.u64.wrap (a1)) (IntKind.u64.wrap (wrap64 ((wrap64 (Int.tmod (IntKind.u64.wrap (a0)) 7)) + 2))))) (wrap64 (Int.tmod (IntKind.u64.wrap (a2)) 1125899906842624)) (t111 != t112)))) else (tattlerlaw19_PlanTurns.j0 k (wrap64 ((wrap64 (Int.tmod (IntKind.u64.wrap (a0)) 7)) + 2)) (wrap64 (Int.tmod (IntKind.u64.wrap (a1)) (IntKind.u64.wrap (wrap64 ((wrap64 (Int.tmod (IntKind.u64.wrap (a0)) 7)) + 2))))) (wrap64 (Int.tmod (IntKind.u64.wrap (a2)) 1125899906842624)) true)))) = some r := H
    have A5 := Aside0.mk A50
    clear A50
    have HC6 := Aside0.mk H
    clear H
    go_enter Try.func4, Try.ntmps4
    go_upto_region 5 with (first | ((with_reducible refine gate_callee (f := 7) rfl ?_); refine goesL_ (some 24) rfl rfl Try.func7 (by kernel_rfl) rfl #[.int .i64 (wrap64 ((wrap64 (Int.tmod (IntKind.u64.wrap (a0)) 7)) + 2))] rfl (by (try simp only [List.map_toArray, List.map_cons, List.map_nil]); first | done | rfl | (simp only [List.length_drop, List.length_take]; rfl)) ?_; (with_reducible refine (plan_Round.calls (wrap64 ((wrap64 (Int.tmod (IntKind.u64.wrap (a0)) 7)) + 2)) t108 _ A5.out).mono ?_); rintro e w' ⟨rfl, ⟨nd, rfl⟩⟩; refine ⟨_, rfl, ?_⟩))
    (try simp only [Act.put, List.setIfInBounds_toArray, List.set_cons_zero, List.set_cons_succ])
    go_cut [46] (fun v46 wc => ∃ (kq : Nat) (x46_5 : Bool), v46 = .bool x46_5 ∧ Aside0 (tattlerlaw19_PlanTurns.j0 kq (wrap64 ((wrap64 (Int.tmod (IntKind.u64.wrap (a0)) 7)) + 2)) (wrap64 (Int.tmod (IntKind.u64.wrap (a1)) (IntKind.u64.wrap (wrap64 ((wrap64 (Int.tmod (IntKind.u64.wrap (a0)) 7)) + 2))))) (wrap64 (Int.tmod (IntKind.u64.wrap (a2)) 1125899906842624)) x46_5 = some r) ∧ Aside0 (kq ≤ k) ∧ Drawn0 w wc)
    case first =>
      have H := HC6.out
      clear HC6
      replace H := Option.bind_eq_some_iff.mp H
      obtain ⟨t109, A70, H⟩ := H
      replace H : ((plan_Peer.f (wrap64 ((wrap64 (Int.tmod (IntKind.u64.wrap (a0)) 7)) + 2)) (wrap64 (Int.tmod (IntKind.u64.wrap (a1)) (IntKind.u64.wrap (wrap64 ((wrap64 (Int.tmod (IntKind.u64.wrap (a0)) 7)) + 2))))) (wrap64 ((wrap64 (Int.tmod (IntKind.u64.wrap (a2)) 1125899906842624)) + t108))).bind fun t110 => (if t109 = t110 then ((plan_Bucket.f (wrap64 ((wrap64 (Int.tmod (IntKind.u64.wrap (a0)) 7)) + 2)) (wrap64 (Int.tmod (IntKind.u64.wrap (a2)) 1125899906842624))).bind fun t111 => ((plan_Bucket.f (wrap64 ((wrap64 (Int.tmod (IntKind.u64.wrap (a0)) 7)) + 2)) (wrap64 ((wrap64 (Int.tmod (IntKind.u64.wrap (a2)) 1125899906842624)) + t108))).bind fun t112 => (tattlerlaw19_PlanTurns.j0 k (wrap64 ((wrap64 (Int.tmod (IntKind.u64.wrap (a0)) 7)) + 2)) (wrap64 (Int.tmod (IntKind.u64.wrap (a1)) (IntKind.u64.wrap (wrap64 ((wrap64 (Int.tmod (IntKind.u64.wrap (a0)) 7)) + 2))))) (wrap64 (Int.tmod (IntKind.u64.wrap (a2)) 1125899906842624)) (t111 != t112)))) else (tattlerlaw19_PlanTurns.j0 k (wrap64 ((wrap64 (Int.tmod (IntKind.u64.wrap (a0)) 7)) + 2)) (wrap64 (Int.tmod (IntKind.u64.wrap (a1)) (IntKind.u64.wrap (wrap64 ((wrap64 (Int.tmod (IntKind.u64.wrap (a0)) 7)) + 2))))) (wrap64 (Int.tmod (IntKind.u64.wrap (a2)) 1125899906842624)) true))) = some r := H
      have A7 := Aside0.mk A70
      clear A70
      replace H := Option.bind_eq_some_iff.mp H
      obtain ⟨t110, A80, H⟩ := H
      replace H : (if t109 = t110 then ((plan_Bucket.f (wrap64 ((wrap64 (Int.tmod (IntKind.u64.wrap (a0)) 7)) + 2)) (wrap64 (Int.tmod (IntKind.u64.wrap (a2)) 1125899906842624))).bind fun t111 => ((plan_Bucket.f (wrap64 ((wrap64 (Int.tmod (IntKind.u64.wrap (a0)) 7)) + 2)) (wrap64 ((wrap64 (Int.tmod (IntKind.u64.wrap (a2)) 1125899906842624)) + t108))).bind fun t112 => (tattlerlaw19_PlanTurns.j0 k (wrap64 ((wrap64 (Int.tmod (IntKind.u64.wrap (a0)) 7)) + 2)) (wrap64 (Int.tmod (IntKind.u64.wrap (a1)) (IntKind.u64.wrap (wrap64 ((wrap64 (Int.tmod (IntKind.u64.wrap (a0)) 7)) + 2))))) (wrap64 (Int.tmod (IntKind.u64.wrap (a2)) 1125899906842624)) (t111 != t112)))) else (tattlerlaw19_PlanTurns.j0 k (wrap64 ((wrap64 (Int.tmod (IntKind.u64.wrap (a0)) 7)) + 2)) (wrap64 (Int.tmod (IntKind.u64.wrap (a1)) (IntKind.u64.wrap (wrap64 ((wrap64 (Int.tmod (IntKind.u64.wrap (a0)) 7)) + 2))))) (wrap64 (Int.tmod (IntKind.u64.wrap (a2)) 1125899906842624)) true)) = some r := H
      have A8 := Aside0.mk A80
      clear A80
      by_cases c9 : t109 = t110
      · rw [if_pos c9] at H
        have c9b0 : (t109 == t110) = true := beq_iff_eq.mpr c9
        have c9b1 : (t109 != t110) = false := bne_eq_false_iff_eq.mpr c9
        clear c9
        (first | rw [c9b0] | (simp only [i64_w, i32_w]; rw [c9b0]) | skip)
        replace H := Option.bind_eq_some_iff.mp H
        obtain ⟨t111, A100, H⟩ := H
        replace H : ((plan_Bucket.f (wrap64 ((wrap64 (Int.tmod (IntKind.u64.wrap (a0)) 7)) + 2)) (wrap64 ((wrap64 (Int.tmod (IntKind.u64.wrap (a2)) 1125899906842624)) + t108))).bind fun t112 => (tattlerlaw19_PlanTurns.j0 k (wrap64 ((wrap64 (Int.tmod (IntKind.u64.wrap (a0)) 7)) + 2)) (wrap64 (Int.tmod (IntKind.u64.wrap (a1)) (IntKind.u64.wrap (wrap64 ((wrap64 (Int.tmod (IntKind.u64.wrap (a0)) 7)) + 2))))) (wrap64 (Int.tmod (IntKind.u64.wrap (a2)) 1125899906842624)) (t111 != t112))) = some r := H
        have A10 := Aside0.mk A100
        clear A100
        replace H := Option.bind_eq_some_iff.mp H
        obtain ⟨t112, A110, H⟩ := H
        replace H : (tattlerlaw19_PlanTurns.j0 k (wrap64 ((wrap64 (Int.tmod (IntKind.u64.wrap (a0)) 7)) + 2)) (wrap64 (Int.tmod (IntKind.u64.wrap (a1)) (IntKind.u64.wrap (wrap64 ((wrap64 (Int.tmod (IntKind.u64.wrap (a0)) 7)) + 2))))) (wrap64 (Int.tmod (IntKind.u64.wrap (a2)) 1125899906842624)) (t111 != t112)) = some r := H
        have A11 := Aside0.mk A110
        clear A110
        have H' := Aside0.mk H
        clear H
        go_wp2_with (first | ((with_reducible refine gate_callee (f := 8) rfl ?_); refine goesL_ (some 28) rfl rfl Try.func8 (by kernel_rfl) rfl #[.int .i64 (wrap64 ((wrap64 (Int.tmod (IntKind.u64.wrap (a0)) 7)) + 2)), .int .i64 (wrap64 (Int.tmod (IntKind.u64.wrap (a1)) (IntKind.u64.wrap (wrap64 ((wrap64 (Int.tmod (IntKind.u64.wrap (a0)) 7)) + 2))))), .int .i64 (wrap64 (Int.tmod (IntKind.u64.wrap (a2)) 1125899906842624))] rfl (by (try simp only [List.map_toArray, List.map_cons, List.map_nil]); first | done | rfl | (simp only [List.length_drop, List.length_take]; rfl)) ?_; (with_reducible refine (plan_Peer.calls (wrap64 ((wrap64 (Int.tmod (IntKind.u64.wrap (a0)) 7)) + 2)) (wrap64 (Int.tmod (IntKind.u64.wrap (a1)) (IntKind.u64.wrap (wrap64 ((wrap64 (Int.tmod (IntKind.u64.wrap (a0)) 7)) + 2))))) (wrap64 (Int.tmod (IntKind.u64.wrap (a2)) 1125899906842624)) t109 _ A7.out).mono ?_); rintro e w' ⟨rfl, ⟨nd, rfl⟩⟩; refine ⟨_, rfl, ?_⟩) | ((with_reducible refine gate_callee (f := 8) rfl ?_); refine goesL_ (some 34) rfl rfl Try.func8 (by kernel_rfl) rfl #[.int .i64 (wrap64 ((wrap64 (Int.tmod (IntKind.u64.wrap (a0)) 7)) + 2)), .int .i64 (wrap64 (Int.tmod (IntKind.u64.wrap (a1)) (IntKind.u64.wrap (wrap64 ((wrap64 (Int.tmod (IntKind.u64.wrap (a0)) 7)) + 2))))), .int .i64 (wrap64 ((wrap64 (Int.tmod (IntKind.u64.wrap (a2)) 1125899906842624)) + t108))] rfl (by (try simp only [List.map_toArray, List.map_cons, List.map_nil]); first | done | rfl | (simp only [List.length_drop, List.length_take]; rfl)) ?_; (with_reducible refine (plan_Peer.calls (wrap64 ((wrap64 (Int.tmod (IntKind.u64.wrap (a0)) 7)) + 2)) (wrap64 (Int.tmod (IntKind.u64.wrap (a1)) (IntKind.u64.wrap (wrap64 ((wrap64 (Int.tmod (IntKind.u64.wrap (a0)) 7)) + 2))))) (wrap64 ((wrap64 (Int.tmod (IntKind.u64.wrap (a2)) 1125899906842624)) + t108)) t110 _ A8.out).mono ?_); rintro e w' ⟨rfl, ⟨nd, rfl⟩⟩; refine ⟨_, rfl, ?_⟩) | (go_at_call 9; (with_reducible refine (plan_Bucket.calls (wrap64 ((wrap64 (Int.tmod (IntKind.u64.wrap (a0)) 7)) + 2)) (wrap64 (Int.tmod (IntKind.u64.wrap (a2)) 1125899906842624)) t111 _ A10.out).mono ?_); rintro e w' ⟨rfl, ⟨nd, rfl⟩⟩) | (go_at_call 9; (with_reducible refine (plan_Bucket.calls (wrap64 ((wrap64 (Int.tmod (IntKind.u64.wrap (a0)) 7)) + 2)) (wrap64 ((wrap64 (Int.tmod (IntKind.u64.wrap (a2)) 1125899906842624)) + t108)) t112 _ A11.out).mono ?_); rintro e w' ⟨rfl, ⟨nd, rfl⟩⟩))
        go_meet
        case rel => exact ⟨_, ((t111 != t112)), (by first | rfl | (simp; done) | (simp [*]; done)), H', ⟨by first | omega | exact Nat.le_refl _⟩, by repeat (first | exact Drawn0.refl _ | apply Drawn0.step)⟩
      · rw [if_neg c9] at H
        have c9b0 : (t109 == t110) = false := beq_eq_false_iff_ne.mpr c9
        have c9b1 : (t109 != t110) = true := bne_iff_ne.mpr c9
        (first | rw [c9b0] | (simp only [i64_w, i32_w]; rw [c9b0]) | skip)
        have H' := Aside0.mk H
        clear H
        go_wp2_with (first | ((with_reducible refine gate_callee (f := 8) rfl ?_); refine goesL_ (some 28) rfl rfl Try.func8 (by kernel_rfl) rfl #[.int .i64 (wrap64 ((wrap64 (Int.tmod (IntKind.u64.wrap (a0)) 7)) + 2)), .int .i64 (wrap64 (Int.tmod (IntKind.u64.wrap (a1)) (IntKind.u64.wrap (wrap64 ((wrap64 (Int.tmod (IntKind.u64.wrap (a0)) 7)) + 2))))), .int .i64 (wrap64 (Int.tmod (IntKind.u64.wrap (a2)) 1125899906842624))] rfl (by (try simp only [List.map_toArray, List.map_cons, List.map_nil]); first | done | rfl | (simp only [List.length_drop, List.length_take]; rfl)) ?_; (with_reducible refine (plan_Peer.calls (wrap64 ((wrap64 (Int.tmod (IntKind.u64.wrap (a0)) 7)) + 2)) (wrap64 (Int.tmod (IntKind.u64.wrap (a1)) (IntKind.u64.wrap (wrap64 ((wrap64 (Int.tmod (IntKind.u64.wrap (a0)) 7)) + 2))))) (wrap64 (Int.tmod (IntKind.u64.wrap (a2)) 1125899906842624)) t109 _ A7.out).mono ?_); rintro e w' ⟨rfl, ⟨nd, rfl⟩⟩; refine ⟨_, rfl, ?_⟩) | ((with_reducible refine gate_callee (f := 8) rfl ?_); refine goesL_ (some 34) rfl rfl Try.func8 (by kernel_rfl) rfl #[.int .i64 (wrap64 ((wrap64 (Int.tmod (IntKind.u64.wrap (a0)) 7)) + 2)), .int .i64 (wrap64 (Int.tmod (IntKind.u64.wrap (a1)) (IntKind.u64.wrap (wrap64 ((wrap64 (Int.tmod (IntKind.u64.wrap (a0)) 7)) + 2))))), .int .i64 (wrap64 ((wrap64 (Int.tmod (IntKind.u64.wrap (a2)) 1125899906842624)) + t108))] rfl (by (try simp only [List.map_toArray, List.map_cons, List.map_nil]); first | done | rfl | (simp only [List.length_drop, List.length_take]; rfl)) ?_; (with_reducible refine (plan_Peer.calls (wrap64 ((wrap64 (Int.tmod (IntKind.u64.wrap (a0)) 7)) + 2)) (wrap64 (Int.tmod (IntKind.u64.wrap (a1)) (IntKind.u64.wrap (wrap64 ((wrap64 (Int.tmod (IntKind.u64.wrap (a0)) 7)) + 2))))) (wrap64 ((wrap64 (Int.tmod (IntKind.u64.wrap (a2)) 1125899906842624)) + t108)) t110 _ A8.out).mono ?_); rintro e w' ⟨rfl, ⟨nd, rfl⟩⟩; refine ⟨_, rfl, ?_⟩))
        go_meet
        case rel => exact ⟨_, (true), (by first | rfl | (simp; done) | (simp [*]; done)), H', ⟨by first | omega | exact Nat.le_refl _⟩, by repeat (first | exact Drawn0.refl _ | apply Drawn0.step)⟩
    case rest =>
      clear HC6
      try clear p2
      try clear c4
      try clear c4b0
      try clear c4b1
      try clear p6
      try clear c7
      try clear c8
      try clear c9
      try clear c9b0
      try clear c9b1
      obtain ⟨kq, x46_5, rfl, HA, HJ5, ⟨mc5, rfl⟩⟩ := hcut
      cases kq with
      | zero => exact absurd HA.out (by simp [tattlerlaw19_PlanTurns.j0])
      | succ kj5 =>
        have H := HA.out
        clear HA
        simp only [tattlerlaw19_PlanTurns.j0] at H
        by_cases c12 : x46_5 = true
        · subst c12
          have H1 : (some false) = some r := by rw [if_pos rfl] at H; exact H
          clear H
          have H := H1
          clear H1
          obtain rfl := Option.some.inj H
          go_wp2
          go_ret
          exact ⟨by first | rfl | (simp; done) | (simp [*]; done), by repeat (first | exact Drawn0.refl _ | apply Drawn0.step)⟩
        · replace c12 := Bool.eq_false_iff.mpr c12
          subst c12
          have H1 : ((plan_Peer.f (wrap64 ((wrap64 (Int.tmod (IntKind.u64.wrap (a0)) 7)) + 2)) (wrap64 (Int.tmod (IntKind.u64.wrap (a1)) (IntKind.u64.wrap (wrap64 ((wrap64 (Int.tmod (IntKind.u64.wrap (a0)) 7)) + 2))))) (wrap64 ((wrap64 (Int.tmod (IntKind.u64.wrap (a2)) 1125899906842624)) + (wrap64 ((wrap64 ((wrap64 (Int.tmod (IntKind.u64.wrap (a0)) 7)) + 2)) - 1))))).bind fun t113 => ((plan_Peer.f (wrap64 ((wrap64 (Int.tmod (IntKind.u64.wrap (a0)) 7)) + 2)) (wrap64 (Int.tmod (IntKind.u64.wrap (a1)) (IntKind.u64.wrap (wrap64 ((wrap64 (Int.tmod (IntKind.u64.wrap (a0)) 7)) + 2))))) (wrap64 (Int.tmod (IntKind.u64.wrap (a2)) 1125899906842624))).bind fun t114 => (if t113 = t114 then ((plan_Bucket.f (wrap64 ((wrap64 (Int.tmod (IntKind.u64.wrap (a0)) 7)) + 2)) (wrap64 ((wrap64 (Int.tmod (IntKind.u64.wrap (a2)) 1125899906842624)) + (wrap64 ((wrap64 ((wrap64 (Int.tmod (IntKind.u64.wrap (a0)) 7)) + 2)) - 1))))).bind fun t115 => ((plan_Bucket.f (wrap64 ((wrap64 (Int.tmod (IntKind.u64.wrap (a0)) 7)) + 2)) (wrap64 (Int.tmod (IntKind.u64.wrap (a2)) 1125899906842624))).bind fun t116 => (if t115 = (Int.tmod (wrap64 (t116 + 1)) 4) then ((tattlerlaw19_awake.f).bind fun t117 => (some t117)) else (some false)))) else (some false)))) = some r := by rw [if_neg (show ¬ (false = true) by decide)] at H; exact H
          clear H
          have H := H1
          clear H1
          replace H := Option.bind_eq_some_iff.mp H
          obtain ⟨t113, A130, H⟩ := H
          replace H : ((plan_Peer.f (wrap64 ((wrap64 (Int.tmod (IntKind.u64.wrap (a0)) 7)) + 2)) (wrap64 (Int.tmod (IntKind.u64.wrap (a1)) (IntKind.u64.wrap (wrap64 ((wrap64 (Int.tmod (IntKind.u64.wrap (a0)) 7)) + 2))))) (wrap64 (Int.tmod (IntKind.u64.wrap (a2)) 1125899906842624))).bind fun t114 => (if t113 = t114 then ((plan_Bucket.f (wrap64 ((wrap64 (Int.tmod (IntKind.u64.wrap (a0)) 7)) + 2)) (wrap64 ((wrap64 (Int.tmod (IntKind.u64.wrap (a2)) 1125899906842624)) + (wrap64 ((wrap64 ((wrap64 (Int.tmod (IntKind.u64.wrap (a0)) 7)) + 2)) - 1))))).bind fun t115 => ((plan_Bucket.f (wrap64 ((wrap64 (Int.tmod (IntKind.u64.wrap (a0)) 7)) + 2)) (wrap64 (Int.tmod (IntKind.u64.wrap (a2)) 1125899906842624))).bind fun t116 => (if t115 = (Int.tmod (wrap64 (t116 + 1)) 4) then ((tattlerlaw19_awake.f).bind fun t117 => (some t117)) else (some false)))) else (some false))) = some r := H
          have A13 := Aside0.mk A130
          clear A130
          replace H := Option.bind_eq_some_iff.mp H
          obtain ⟨t114, A140, H⟩ := H
          replace H : (if t113 = t114 then ((plan_Bucket.f (wrap64 ((wrap64 (Int.tmod (IntKind.u64.wrap (a0)) 7)) + 2)) (wrap64 ((wrap64 (Int.tmod (IntKind.u64.wrap (a2)) 1125899906842624)) + (wrap64 ((wrap64 ((wrap64 (Int.tmod (IntKind.u64.wrap (a0)) 7)) + 2)) - 1))))).bind fun t115 => ((plan_Bucket.f (wrap64 ((wrap64 (Int.tmod (IntKind.u64.wrap (a0)) 7)) + 2)) (wrap64 (Int.tmod (IntKind.u64.wrap (a2)) 1125899906842624))).bind fun t116 => (if t115 = (Int.tmod (wrap64 (t116 + 1)) 4) then ((tattlerlaw19_awake.f).bind fun t117 => (some t117)) else (some false)))) else (some false)) = some r := H
          have A14 := Aside0.mk A140
          clear A140
          by_cases c15 : t113 = t114
          · rw [if_pos c15] at H
            have c15b0 : (t113 == t114) = true := beq_iff_eq.mpr c15
            have c15b1 : (t113 != t114) = false := bne_eq_false_iff_eq.mpr c15
            clear c15
            replace H := Option.bind_eq_some_iff.mp H
            obtain ⟨t115, A160, H⟩ := H
            replace H : ((plan_Bucket.f (wrap64 ((wrap64 (Int.tmod (IntKind.u64.wrap (a0)) 7)) + 2)) (wrap64 (Int.tmod (IntKind.u64.wrap (a2)) 1125899906842624))).bind fun t116 => (if t115 = (Int.tmod (wrap64 (t116 + 1)) 4) then ((tattlerlaw19_awake.f).bind fun t117 => (some t117)) else (some false))) = some r := H
            have A16 := Aside0.mk A160
            clear A160
            replace H := Option.bind_eq_some_iff.mp H
            obtain ⟨t116, A170, H⟩ := H
            replace H : (if t115 = (Int.tmod (wrap64 (t116 + 1)) 4) then ((tattlerlaw19_awake.f).bind fun t117 => (some t117)) else (some false)) = some r := H
            have A17 := Aside0.mk A170
            clear A170
            by_cases c18 : t115 = (Int.tmod (wrap64 (t116 + 1)) 4)
            · rw [if_pos c18] at H
              have c18b0 : (t115 == (Int.tmod (wrap64 (t116 + 1)) 4)) = true := beq_iff_eq.mpr c18
              have c18b1 : (t115 != (Int.tmod (wrap64 (t116 + 1)) 4)) = false := bne_eq_false_iff_eq.mpr c18
              clear c18
              replace H := Option.bind_eq_some_iff.mp H
              obtain ⟨t117, A190, H⟩ := H
              replace H : (some t117) = some r := H
              have A19 := Aside0.mk A190
              clear A190
              obtain rfl := Option.some.inj H
              go_wp2_with (first | ((with_reducible refine gate_callee (f := 8) rfl ?_); refine goesL_ (some 53) rfl rfl Try.func8 (by kernel_rfl) rfl #[.int .i64 (wrap64 ((wrap64 (Int.tmod (IntKind.u64.wrap (a0)) 7)) + 2)), .int .i64 (wrap64 (Int.tmod (IntKind.u64.wrap (a1)) (IntKind.u64.wrap (wrap64 ((wrap64 (Int.tmod (IntKind.u64.wrap (a0)) 7)) + 2))))), .int .i64 (wrap64 ((wrap64 (Int.tmod (IntKind.u64.wrap (a2)) 1125899906842624)) + (wrap64 ((wrap64 ((wrap64 (Int.tmod (IntKind.u64.wrap (a0)) 7)) + 2)) - 1))))] rfl (by (try simp only [List.map_toArray, List.map_cons, List.map_nil]); first | done | rfl | (simp only [List.length_drop, List.length_take]; rfl)) ?_; (with_reducible refine (plan_Peer.calls (wrap64 ((wrap64 (Int.tmod (IntKind.u64.wrap (a0)) 7)) + 2)) (wrap64 (Int.tmod (IntKind.u64.wrap (a1)) (IntKind.u64.wrap (wrap64 ((wrap64 (Int.tmod (IntKind.u64.wrap (a0)) 7)) + 2))))) (wrap64 ((wrap64 (Int.tmod (IntKind.u64.wrap (a2)) 1125899906842624)) + (wrap64 ((wrap64 ((wrap64 (Int.tmod (IntKind.u64.wrap (a0)) 7)) + 2)) - 1)))) t113 _ A13.out).mono ?_); rintro e w' ⟨rfl, ⟨nd, rfl⟩⟩; refine ⟨_, rfl, ?_⟩) | ((with_reducible refine gate_callee (f := 8) rfl ?_); refine goesL_ (some 57) rfl rfl Try.func8 (by kernel_rfl) rfl #[.int .i64 (wrap64 ((wrap64 (Int.tmod (IntKind.u64.wrap (a0)) 7)) + 2)), .int .i64 (wrap64 (Int.tmod (IntKind.u64.wrap (a1)) (IntKind.u64.wrap (wrap64 ((wrap64 (Int.tmod (IntKind.u64.wrap (a0)) 7)) + 2))))), .int .i64 (wrap64 (Int.tmod (IntKind.u64.wrap (a2)) 1125899906842624))] rfl (by (try simp only [List.map_toArray, List.map_cons, List.map_nil]); first | done | rfl | (simp only [List.length_drop, List.length_take]; rfl)) ?_; (with_reducible refine (plan_Peer.calls (wrap64 ((wrap64 (Int.tmod (IntKind.u64.wrap (a0)) 7)) + 2)) (wrap64 (Int.tmod (IntKind.u64.wrap (a1)) (IntKind.u64.wrap (wrap64 ((wrap64 (Int.tmod (IntKind.u64.wrap (a0)) 7)) + 2))))) (wrap64 (Int.tmod (IntKind.u64.wrap (a2)) 1125899906842624)) t114 _ A14.out).mono ?_); rintro e w' ⟨rfl, ⟨nd, rfl⟩⟩; refine ⟨_, rfl, ?_⟩) | (go_at_call 9; (with_reducible refine (plan_Bucket.calls (wrap64 ((wrap64 (Int.tmod (IntKind.u64.wrap (a0)) 7)) + 2)) (wrap64 ((wrap64 (Int.tmod (IntKind.u64.wrap (a2)) 1125899906842624)) + (wrap64 ((wrap64 ((wrap64 (Int.tmod (IntKind.u64.wrap (a0)) 7)) + 2)) - 1)))) t115 _ A16.out).mono ?_); rintro e w' ⟨rfl, ⟨nd, rfl⟩⟩) | (go_at_call 9; (with_reducible refine (plan_Bucket.calls (wrap64 ((wrap64 (Int.tmod (IntKind.u64.wrap (a0)) 7)) + 2)) (wrap64 (Int.tmod (IntKind.u64.wrap (a2)) 1125899906842624)) t116 _ A17.out).mono ?_); rintro e w' ⟨rfl, ⟨nd, rfl⟩⟩) | (go_at_call 10; (with_reducible refine (tattlerlaw19_awake.calls  t117 _ A19.out).mono ?_); rintro e w' ⟨rfl, ⟨nd, rfl⟩⟩))
              go_ret
              exact ⟨by first | rfl | (simp; done) | (simp [*]; done), by repeat (first | exact Drawn0.refl _ | apply Drawn0.step)⟩
            · rw [if_neg c18] at H
              have c18b0 : (t115 == (Int.tmod (wrap64 (t116 + 1)) 4)) = false := beq_eq_false_iff_ne.mpr c18
              have c18b1 : (t115 != (Int.tmod (wrap64 (t116 + 1)) 4)) = true := bne_iff_ne.mpr c18
              obtain rfl := Option.some.inj H
              go_wp2_with (first | ((with_reducible refine gate_callee (f := 8) rfl ?_); refine goesL_ (some 53) rfl rfl Try.func8 (by kernel_rfl) rfl #[.int .i64 (wrap64 ((wrap64 (Int.tmod (IntKind.u64.wrap (a0)) 7)) + 2)), .int .i64 (wrap64 (Int.tmod (IntKind.u64.wrap (a1)) (IntKind.u64.wrap (wrap64 ((wrap64 (Int.tmod (IntKind.u64.wrap (a0)) 7)) + 2))))), .int .i64 (wrap64 ((wrap64 (Int.tmod (IntKind.u64.wrap (a2)) 1125899906842624)) + (wrap64 ((wrap64 ((wrap64 (Int.tmod (IntKind.u64.wrap (a0)) 7)) + 2)) - 1))))] rfl (by (try simp only [List.map_toArray, List.map_cons, List.map_nil]); first | done | rfl | (simp only [List.length_drop, List.length_take]; rfl)) ?_; (with_reducible refine (plan_Peer.calls (wrap64 ((wrap64 (Int.tmod (IntKind.u64.wrap (a0)) 7)) + 2)) (wrap64 (Int.tmod (IntKind.u64.wrap (a1)) (IntKind.u64.wrap (wrap64 ((wrap64 (Int.tmod (IntKind.u64.wrap (a0)) 7)) + 2))))) (wrap64 ((wrap64 (Int.tmod (IntKind.u64.wrap (a2)) 1125899906842624)) + (wrap64 ((wrap64 ((wrap64 (Int.tmod (IntKind.u64.wrap (a0)) 7)) + 2)) - 1)))) t113 _ A13.out).mono ?_); rintro e w' ⟨rfl, ⟨nd, rfl⟩⟩; refine ⟨_, rfl, ?_⟩) | ((with_reducible refine gate_callee (f := 8) rfl ?_); refine goesL_ (some 57) rfl rfl Try.func8 (by kernel_rfl) rfl #[.int .i64 (wrap64 ((wrap64 (Int.tmod (IntKind.u64.wrap (a0)) 7)) + 2)), .int .i64 (wrap64 (Int.tmod (IntKind.u64.wrap (a1)) (IntKind.u64.wrap (wrap64 ((wrap64 (Int.tmod (IntKind.u64.wrap (a0)) 7)) + 2))))), .int .i64 (wrap64 (Int.tmod (IntKind.u64.wrap (a2)) 1125899906842624))] rfl (by (try simp only [List.map_toArray, List.map_cons, List.map_nil]); first | done | rfl | (simp only [List.length_drop, List.length_take]; rfl)) ?_; (with_reducible refine (plan_Peer.calls (wrap64 ((wrap64 (Int.tmod (IntKind.u64.wrap (a0)) 7)) + 2)) (wrap64 (Int.tmod (IntKind.u64.wrap (a1)) (IntKind.u64.wrap (wrap64 ((wrap64 (Int.tmod (IntKind.u64.wrap (a0)) 7)) + 2))))) (wrap64 (Int.tmod (IntKind.u64.wrap (a2)) 1125899906842624)) t114 _ A14.out).mono ?_); rintro e w' ⟨rfl, ⟨nd, rfl⟩⟩; refine ⟨_, rfl, ?_⟩) | (go_at_call 9; (with_reducible refine (plan_Bucket.calls (wrap64 ((wrap64 (Int.tmod (IntKind.u64.wrap (a0)) 7)) + 2)) (wrap64 ((wrap64 (Int.tmod (IntKind.u64.wrap (a2)) 1125899906842624)) + (wrap64 ((wrap64 ((wrap64 (Int.tmod (IntKind.u64.wrap (a0)) 7)) + 2)) - 1)))) t115 _ A16.out).mono ?_); rintro e w' ⟨rfl, ⟨nd, rfl⟩⟩) | (go_at_call 9; (with_reducible refine (plan_Bucket.calls (wrap64 ((wrap64 (Int.tmod (IntKind.u64.wrap (a0)) 7)) + 2)) (wrap64 (Int.tmod (IntKind.u64.wrap (a2)) 1125899906842624)) t116 _ A17.out).mono ?_); rintro e w' ⟨rfl, ⟨nd, rfl⟩⟩))
              go_ret
              exact ⟨by first | rfl | (simp; done) | (simp [*]; done), by repeat (first | exact Drawn0.refl _ | apply Drawn0.step)⟩
          · rw [if_neg c15] at H
            have c15b0 : (t113 == t114) = false := beq_eq_false_iff_ne.mpr c15
            have c15b1 : (t113 != t114) = true := bne_iff_ne.mpr c15
            obtain rfl := Option.some.inj H
            go_wp2_with (first | ((with_reducible refine gate_callee (f := 8) rfl ?_); refine goesL_ (some 53) rfl rfl Try.func8 (by kernel_rfl) rfl #[.int .i64 (wrap64 ((wrap64 (Int.tmod (IntKind.u64.wrap (a0)) 7)) + 2)), .int .i64 (wrap64 (Int.tmod (IntKind.u64.wrap (a1)) (IntKind.u64.wrap (wrap64 ((wrap64 (Int.tmod (IntKind.u64.wrap (a0)) 7)) + 2))))), .int .i64 (wrap64 ((wrap64 (Int.tmod (IntKind.u64.wrap (a2)) 1125899906842624)) + (wrap64 ((wrap64 ((wrap64 (Int.tmod (IntKind.u64.wrap (a0)) 7)) + 2)) - 1))))] rfl (by (try simp only [List.map_toArray, List.map_cons, List.map_nil]); first | done | rfl | (simp only [List.length_drop, List.length_take]; rfl)) ?_; (with_reducible refine (plan_Peer.calls (wrap64 ((wrap64 (Int.tmod (IntKind.u64.wrap (a0)) 7)) + 2)) (wrap64 (Int.tmod (IntKind.u64.wrap (a1)) (IntKind.u64.wrap (wrap64 ((wrap64 (Int.tmod (IntKind.u64.wrap (a0)) 7)) + 2))))) (wrap64 ((wrap64 (Int.tmod (IntKind.u64.wrap (a2)) 1125899906842624)) + (wrap64 ((wrap64 ((wrap64 (Int.tmod (IntKind.u64.wrap (a0)) 7)) + 2)) - 1)))) t113 _ A13.out).mono ?_); rintro e w' ⟨rfl, ⟨nd, rfl⟩⟩; refine ⟨_, rfl, ?_⟩) | ((with_reducible refine gate_callee (f := 8) rfl ?_); refine goesL_ (some 57) rfl rfl Try.func8 (by kernel_rfl) rfl #[.int .i64 (wrap64 ((wrap64 (Int.tmod (IntKind.u64.wrap (a0)) 7)) + 2)), .int .i64 (wrap64 (Int.tmod (IntKind.u64.wrap (a1)) (IntKind.u64.wrap (wrap64 ((wrap64 (Int.tmod (IntKind.u64.wrap (a0)) 7)) + 2))))), .int .i64 (wrap64 (Int.tmod (IntKind.u64.wrap (a2)) 1125899906842624))] rfl (by (try simp only [List.map_toArray, List.map_cons, List.map_nil]); first | done | rfl | (simp only [List.length_drop, List.length_take]; rfl)) ?_; (with_reducible refine (plan_Peer.calls (wrap64 ((wrap64 (Int.tmod (IntKind.u64.wrap (a0)) 7)) + 2)) (wrap64 (Int.tmod (IntKind.u64.wrap (a1)) (IntKind.u64.wrap (wrap64 ((wrap64 (Int.tmod (IntKind.u64.wrap (a0)) 7)) + 2))))) (wrap64 (Int.tmod (IntKind.u64.wrap (a2)) 1125899906842624)) t114 _ A14.out).mono ?_); rintro e w' ⟨rfl, ⟨nd, rfl⟩⟩; refine ⟨_, rfl, ?_⟩))
            go_ret
            exact ⟨by first | rfl | (simp; done) | (simp [*]; done), by repeat (first | exact Drawn0.refl _ | apply Drawn0.step)⟩

/-- THE ONE PURE STATEMENT of tattlerlaw19_PlanTurns: yours. -/
def tattlerlaw19_PlanTurns.Pure : Prop := ∀ (a0 : Int) (a1 : Int) (a2 : Int), (Lit.int .i64 a0).wf = true → (Lit.int .i64 a1).wf = true → (Lit.int .i64 a2).wf = true → ∃ k, tattlerlaw19_PlanTurns.f k a0 a1 a2 = some true
theorem tattlerlaw19_PlanTurns.walk (P : tattlerlaw19_PlanTurns.Pure) (a0 : Int) (a1 : Int) (a2 : Int) (w : World) (w0 : (Lit.int .i64 a0).wf = true) (w1 : (Lit.int .i64 a1).wf = true) (w2 : (Lit.int .i64 a2).wf = true) :
    Calls Try.prog 4 #[.int .i64 a0, .int .i64 a1, .int .i64 a2] w fun e w' => e = .returned (.bool true) ∧ Below w.heap.size w w' := by
  obtain ⟨k, h⟩ := P a0 a1 a2 w0 w1 w2
  refine (tattlerlaw19_PlanTurns.calls k a0 a1 a2 true w h).mono ?_
  rintro e w' ⟨rfl, hd⟩
  exact ⟨rfl, hd.below⟩

end Go.Proofs.Ytmhbpnhkmnnapaa.PPlanTurns
