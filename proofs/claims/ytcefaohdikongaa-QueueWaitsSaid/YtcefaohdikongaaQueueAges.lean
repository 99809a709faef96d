/- QueueAges: the walk. -/
import Derived.Test.YtcefaohdikongaaQueueE
namespace Go.Proofs.Ytcefaohdikongaa
open Go.RowKit Go.Proofs.YtcefaohdikongaaW.PrintLast

theorem md_in (x : Int) {m : Int} (h : 0 < m) (h2 : m ≤ 1000000) : 0 ≤ wrap64 ((IntKind.u64.wrap x).tmod m) ∧ wrap64 ((IntKind.u64.wrap x).tmod m) < m := by
  have h0 : 0 ≤ IntKind.u64.wrap x := by rw [IntKind.wrap_u64]; omega
  rw [Int.tmod_eq_emod_of_nonneg h0]
  have h3 := Int.emod_nonneg (IntKind.u64.wrap x) (show m ≠ 0 by omega)
  have h4 := Int.emod_lt_of_pos (IntKind.u64.wrap x) h
  generalize IntKind.u64.wrap x % m = y at *
  have : wrap64 y = y := by unfold wrap64; omega
  rw [this]
  exact ⟨h3, h4⟩
theorem w3_in {a : Int} (h0 : 0 ≤ a) (h1 : a < 4) : w3 a = 4 * a := by unfold w3 mx mn; split <;> split <;> omega
set_option maxHeartbeats 4000000 in
theorem queueAges_any (a b t : Int) (w : World) : Calls Try.prog 6 #[.int .i64 a, .int .i64 b, .int .i64 t] w fun e w' => e = .returned (.bool true) ∧ Chg NoB w w' := by
  obtain ⟨ha0, ha1⟩ := md_in a (m := 4) (by decide) (by decide)
  obtain ⟨hb0, hb1⟩ := md_in b (m := 4) (by decide) (by decide)
  obtain ⟨ht0, ht1⟩ := md_in t (m := 16) (by decide) (by decide)
  go_enter Try.func6, Try.ntmps6
  go_wp2_with fail
  generalize wrap64 ((IntKind.u64.wrap a).tmod 4) = A at *
  generalize wrap64 ((IntKind.u64.wrap b).tmod 4) = B at *
  generalize wrap64 ((IntKind.u64.wrap t).tmod 16) = T at *
  refine (new_any 5 _).mono ?_
  rintro e w1 ⟨⟨g, rfl, hq⟩, hC⟩
  have HQ1 := Lib.hid hq
  have HC1 := Lib.hid hC
  clear hq hC
  go_wp2_with fail
  refine (msg_any 1 _).mono ?_
  rintro e w2 ⟨rfl, hC⟩
  have HQ2 := Lib.hid (HQ1.out.chg hC)
  have HC2 := Lib.hid (HC1.out.trans hC)
  clear hC HQ1 HC1
  go_wp2_with fail
  refine (put_msg HQ2.out 1 A (by decide) (by decide)).mono ?_
  rintro e v3 ⟨rfl, ⟨s3, hq⟩, hk⟩
  rw [w3_in ha0 ha1] at hq
  have HQ3 := Lib.hid hq
  have HC3 := Lib.hid (Chg.of_kp HC2.out hk)
  clear hq hk HQ2 HC2
  go_wp2_with fail
  go_loopw [29] (fun i wr => ∃ k : Nat, (k : Int) ≤ T ∧ i = .int .i64 k ∧ QA wr g w.heap.size (clip 5) 0 [(ms0 1, 4 * A + (k : Int))] s3 ∧ Chg NoB w wr) (fun i _ => 16 - (intOf i).toNat)
  case atStart => exact ⟨0, by omega, rfl, by simpa using HQ3.out, HC3.out⟩
  case round =>
    clear HQ3 HC3
    obtain ⟨k, hk, rfl, hq, hC⟩ := hrel
    have HQ := Lib.hid hq
    have HC := Lib.hid hC
    clear hq hC
    by_cases hlt : (k : Int) < T
    · have hk2 : decide ((k : Int) < T) = true := by simpa using hlt
      go_wp2_with fail
      refine (tick_any HQ.out (by intro p hp; simp only [List.mem_singleton] at hp; subst hp; exact ⟨by show 0 ≤ 4 * A + (k : Int); omega, by show 4 * A + (k : Int) < _; omega⟩) (by simp)).mono ?_
      rintro e w4 ⟨rfl, hq, hk'⟩
      have HQ4 := Lib.hid hq
      have HC4 := Lib.hid (Chg.of_kp HC.out hk')
      clear hq hk' HQ HC
      go_wp2_with fail
      go_roundw
      case rel => exact ⟨k + 1, by omega, by go_num, by simpa [bp, Int.add_assoc] using HQ4.out, HC4.out⟩
      case measure => simp [intOf]; omega
    · obtain rfl : T = (k : Int) := by omega
      have hk2 : decide ((k : Int) < (k : Int)) = false := by simp
      go_wp2_with fail
      refine (msg_any 2 _).mono ?_
      rintro e w4 ⟨rfl, hC⟩
      have HQ4 := Lib.hid (HQ.out.chg hC)
      have HC4 := Lib.hid (HC.out.trans hC)
      clear hC HQ HC
      go_wp2_with fail
      refine (put_msg HQ4.out 2 B (by show (1 : Int) < clip 5; decide) (by simp)).mono ?_
      rintro e w5 ⟨rfl, ⟨s5, hq⟩, hk'⟩
      rw [w3_in hb0 hb1] at hq
      have HQ5 := Lib.hid hq
      have HC5 := Lib.hid (Chg.of_kp HC4.out hk')
      clear hq hk' HQ4 HC4
      go_wp2_with fail
      refine (tick_any HQ5.out (by
        intro p hp
        simp only [List.cons_append, List.nil_append, List.mem_cons, List.not_mem_nil, or_false] at hp
        rcases hp with rfl | rfl
        · exact ⟨by show 0 ≤ 4 * A + (k : Int); omega, by show 4 * A + (k : Int) < _; omega⟩
        · exact ⟨by show 0 ≤ 4 * B; omega, by show 4 * B < _; omega⟩) (by simp)).mono ?_
      rintro e w6 ⟨rfl, hq, hk'⟩
      have HQ6 : Hid (QA w6 g w.heap.size (clip 5) 0 [(ms0 1, 4 * A + (k : Int) + 1), (ms0 2, 4 * B + 1)] s5) := Lib.hid hq
      have HC6 := Lib.hid (Chg.of_kp HC5.out hk')
      clear hq hk' HQ5 HC5
      go_wp2_with fail
      refine (take_some HQ6.out (by simp) (by simp)).mono ?_
      rintro e w7 ⟨⟨c, hc, hBst, rfl, s7, hq⟩, hk'⟩
      have hle : ∀ j, j < 2 → wt [(ms0 1, 4 * A + (k : Int) + 1), (ms0 2, 4 * B + 1)] j ≤ wt [(ms0 1, 4 * A + (k : Int) + 1), (ms0 2, 4 * B + 1)] c := hBst.le
      have hltc := hBst.lt
      have hc2 : c = 0 ∨ c = 1 := by
        have : c < 2 := hc
        omega
      have HC7 := Lib.hid (Chg.of_kp HC6.out hk')
      clear hk' HQ6 HC6 hBst
      rcases hc2 with rfl | rfl
      · have h1 : 4 * B + 1 ≤ 4 * A + (k : Int) + 1 := hle 1 (by decide)
        have hfirst : decide (4 * B ≤ 4 * A + (k : Int)) = true := by simp; omega
        have HQ7 : Hid (QA w7 g w.heap.size (clip 5) 0 [(ms0 2, 4 * B + 1)] s7) := Lib.hid hq
        clear hq hle hltc h1
        simp only [List.getElem_cons_zero]
        go_wp2_with fail
        refine (len_any (HQ7.out.chg ((Chg.refl NoB w7).alloc (Obj.cells _ 31)))).mono ?_
        rintro e w8 ⟨rfl, rfl⟩
        go_wp2_with fail
        refine (awake_any _).mono ?_
        rintro e w9 ⟨rfl, hC⟩
        have HC9 := Lib.hid ((HC7.out.alloc _).trans hC)
        clear hC
        go_wp2_with fail
        go_ret
        exact ⟨rfl, HC9.out⟩
      · have h1 : 4 * A + (k : Int) + 1 < 4 * B + 1 := hltc 0 (by decide)
        have hfirst : decide (4 * B ≤ 4 * A + (k : Int)) = false := by simp; omega
        have HQ7 : Hid (QA w7 g w.heap.size (clip 5) 0 [(ms0 1, 4 * A + (k : Int) + 1)] s7) := Lib.hid hq
        clear hq hle hltc h1
        simp only [List.getElem_cons_succ, List.getElem_cons_zero]
        go_wp2_with fail
        refine (len_any (HQ7.out.chg ((Chg.refl NoB w7).alloc (Obj.cells _ 31)))).mono ?_
        rintro e w8 ⟨rfl, rfl⟩
        go_wp2_with fail
        refine (awake_any _).mono ?_
        rintro e w9 ⟨rfl, hC⟩
        have HC9 := Lib.hid ((HC7.out.alloc _).trans hC)
        clear hC
        go_wp2_with fail
        go_ret
        exact ⟨rfl, HC9.out⟩
theorem queueAges_walk (a b t : Int) (w : World) (_ : (Lit.int .i64 a).wf = true) (_ : (Lit.int .i64 b).wf = true) (_ : (Lit.int .i64 t).wf = true) :
    Calls Try.prog 6 #[.int .i64 a, .int .i64 b, .int .i64 t] w fun e w' => e = .returned (.bool true) ∧ Below w.heap.size w w' :=
  (queueAges_any a b t w).mono fun _ _ ⟨h1, h2⟩ => ⟨h1, h2.below⟩
end Go.Proofs.Ytcefaohdikongaa
