/- awake of the laws of chapter 18: always true. No statement is proved here. -/
import Derived.Test.YtcefaohdikongaaQueueD
namespace Go.Proofs.Ytcefaohdikongaa
open Go.RowKit Go.Proofs.YtcefaohdikongaaW.PrintLast

theorem Chg.of_kp {w w1 w2 : World} (h : Chg NoB w w1) (k : Kp w.heap.size w1 w2) : Chg NoB w w2 := h.then_ k.chg fun j hj hs => by omega
theorem put_msg {w : World} {g r : Nat} {most now : Int} {L : List (Ms × Int)} {s : Value} (q : QA w g r most now L s) (n u : Int) (h : (L.length : Int) < most) (hl : L.length ≤ 1000) :
    Calls Try.prog 10 #[.pointer (some ⟨g, 0, none⟩), msv (ms0 n), .int .i64 u] w fun e w' => e = .returned (.int .i64 0) ∧ (∃ s', QA w' g r most now (L ++ [(ms0 n, w3 u)]) s') ∧ Kp r w w' :=
  put_ok q (ms0 n) u h hl (fun v hv => by
    simp only [mc, List.mem_toArray, List.mem_cons, List.not_mem_nil, or_false] at hv
    rcases hv with rfl | rfl | rfl | rfl | rfl | rfl | rfl | rfl | rfl | rfl <;> rfl) fun w1 _ => copied_nil (ms0 n) rfl rfl rfl w1
set_option maxHeartbeats 2000000 in
theorem awake_any (w : World) : Calls Try.prog 14 #[] w fun e w' => e = .returned (.bool true) ∧ Chg NoB w w' := by
  go_enter Try.func14, Try.ntmps14
  go_wp2_with fail
  refine (new_any 4 _).mono ?_
  rintro e w1 ⟨⟨g, rfl, hq⟩, hC⟩
  have HQ1 := Lib.hid hq
  have HC1 := Lib.hid hC
  clear hq hC
  go_wp2_with fail
  refine (msg_any 1 _).mono ?_
  rintro e w2 ⟨rfl, hC⟩
  have HQ2 := Lib.hid (HQ1.out.chg hC)
  have HC2 := Lib.hid (HC1.out.trans hC)
  clear hC HQ1 HC1
  go_wp2_with fail
  refine (put_msg HQ2.out 1 0 (by decide) (by decide)).mono ?_
  rintro e v3 ⟨rfl, ⟨s3, hq⟩, hk⟩
  have HQ3 := Lib.hid hq
  have HC3 := Lib.hid (Chg.of_kp HC2.out hk)
  clear hq hk HQ2 HC2
  go_wp2_with fail
  go_loopw [8] (fun i wr => ∃ k : Nat, k ≤ 5 ∧ i = .int .i64 k ∧ QA wr g w.heap.size (clip 4) 0 [(ms0 1, (k : Int))] s3 ∧ Chg NoB w wr) (fun i _ => 5 - (intOf i).toNat)
  case atStart => exact ⟨0, by decide, rfl, HQ3.out, HC3.out⟩
  case round =>
    clear HQ3 HC3
    obtain ⟨k, hk, rfl, hq, hC⟩ := hrel
    have HQ := Lib.hid hq
    have HC := Lib.hid hC
    clear hq hC
    by_cases hlt : k < 5
    · have hk2 : decide ((k : Int) < 5) = true := by simp; omega
      go_wp2_with fail
      refine (tick_any HQ.out (by intro p hp; simp only [List.mem_singleton] at hp; subst hp; exact ⟨by omega, by show (k : Int) < _; omega⟩) (by simp)).mono ?_
      rintro e w4 ⟨rfl, hq, hk'⟩
      have HQ4 := Lib.hid hq
      have HC4 := Lib.hid (Chg.of_kp HC.out hk')
      clear hq hk' HQ HC
      go_wp2_with fail
      go_roundw
      case rel => exact ⟨k + 1, by omega, by go_num, by simpa [bp] using HQ4.out, HC4.out⟩
      case measure => simp [intOf]; omega
    · obtain rfl : k = 5 := by omega
      have hk2 : decide (((5 : Nat) : Int) < 5) = false := by decide
      go_wp2_with fail
      refine (msg_any 2 _).mono ?_
      rintro e w4 ⟨rfl, hC⟩
      have HQ4 := Lib.hid (HQ.out.chg hC)
      have HC4 := Lib.hid (HC.out.trans hC)
      clear hC HQ HC
      go_wp2_with fail
      refine (put_msg HQ4.out 2 1 (by decide) (by decide)).mono ?_
      rintro e w5 ⟨rfl, ⟨s5, hq⟩, hk'⟩
      have HQ5 := Lib.hid hq
      have HC5 := Lib.hid (Chg.of_kp HC4.out hk')
      clear hq hk' HQ4 HC4
      go_wp2_with fail
      refine (take_some HQ5.out (by decide) (by decide)).mono ?_
      rintro e w6 ⟨⟨b, hb, hB, rfl, s6, hq⟩, hk'⟩
      obtain rfl : b = 0 := by
        have h := hB.le 0 (by decide)
        have : b = 0 ∨ b = 1 := by
          have : b < 2 := hb
          omega
        rcases this with rfl | rfl
        · rfl
        · exact absurd h (by decide)
      have HQ6 : Hid (QA w6 g w.heap.size (clip 4) 0 [(ms0 2, w3 1)] s6) := Lib.hid hq
      have HC6 := Lib.hid (Chg.of_kp HC5.out hk')
      clear hq hk' HQ5 HC5
      simp only [List.cons_append, List.nil_append, List.getElem_cons_zero]
      go_wp2_with fail
      refine (len_any (HQ6.out.chg ((Chg.refl NoB w6).alloc (Obj.cells _ 31)))).mono ?_
      rintro e w7 ⟨rfl, rfl⟩
      go_wp2_with fail
      go_ret
      exact ⟨rfl, HC6.out.alloc _⟩
end Go.Proofs.Ytcefaohdikongaa
