/- The walk of TallyRaises: it answers true. -/
import Derived.Test.YtiechceeiidelaaTallyRefuses
import Derived.Test.YtiechceeiidelaaArgs
import Derived.LoopTactic
namespace Go.Proofs.Ytiechceeiidelaa
open Go.RowKit

theorem raises_any (m : Int) (v : Value) (zs : List Int) (w : World) (hm : m ≤ 9223372036854775807) (hs : SliceAt w v 1 zs.length (zs.map (Value.int .i64))) :
    Calls Try.prog 4 #[.int .i64 m, v] w fun e w' => e = .returned (.bool true) ∧ Chg NoB w w' := by
  obtain ⟨A, cap, rfl, hcap, hmax, hlen, hcells⟩ := hs
  unfold maxLen at hmax
  generalize hL : zs.length = L at *
  have HL := Lib.hid hL
  have HCELLS := Lib.hid hcells
  clear hL hcells hlen
  go_enter Try.func4, Try.ntmps4
  go_wp2_with fail
  refine (tally_new m _ hm).mono ?_
  rintro e w1 ⟨rfl, hT, hC⟩
  have HC := Lib.hid hC
  have HT := Lib.hid hT
  clear hC hT
  have hz := HC.out.size
  have OW : Hid (∀ j, j < w.heap.size → Only w.heap.size j → NoB j) := Lib.hid fun j hj h => absurd h (by unfold Only; omega)
  generalize hM : mx0 m = M at *
  have hM' : (0 < m ∧ M = m) ∨ (m ≤ 0 ∧ M = 0) := by rw [← hM]; unfold mx0; split <;> omega
  have hM2 : M ≤ 9223372036854775807 := by omega
  clear hz hM
  go_wp2_with fail
  go_loopw [6, 13] (fun b i wr => ∃ (best : Int) (k : Nat), k ≤ L ∧ b = .int .i64 best ∧ i = .int .i64 k ∧ TA wr w.heap.size best M ∧ Chg NoB w wr) (fun _ i _ => L - (intOf i).toNat)
  case atStart => exact ⟨0, 0, Nat.zero_le _, rfl, rfl, HT.out, HC.out⟩
  case round =>
    clear HC HT
    obtain ⟨best, k, hk, rfl, rfl, hT, hC⟩ := hrel
    have HT := Lib.hid hT
    have HC := Lib.hid hC
    have hlo := hT.lo
    have hhi := hT.hi
    clear hT hC
    by_cases hgo : k < L ∧ k < 100
    · obtain ⟨hlt, hlt2⟩ := hgo
      obtain ⟨b, off, rfl, hab, hcell⟩ := HCELLS.out (by omega)
      have hc : wr.cell? ⟨b, off + k, none⟩ = some (.int .i64 (zs.getD k 0)) := by
        rw [HC.out.cell hab id]
        refine hcell k _ ?_
        rw [List.getElem?_map, List.getElem?_eq_getElem (by rw [HL.out]; exact hlt), List.getD_eq_getElem?_getD, List.getElem?_eq_getElem (by rw [HL.out]; exact hlt)]; rfl
      generalize zs.getD k 0 = n at *
      clear hcell HCELLS
      have hn : (best < n ∧ n ≤ M) ∨ (M < n) ∨ n ≤ best := by omega
      rcases hn with ⟨hn1, hn2⟩ | hn | hn
      · obtain ⟨hm0, rfl⟩ : 0 < m ∧ M = m := by omega
        all_goals
          go_wp2_with fail
          refine (tally_raise_yes HT.out n hn1 hn2).mono ?_
          rintro e w2 ⟨rfl, hT2, hC⟩
          have HC2 := Lib.hid (HC.out.then_ hC OW.out)
          have HT2 := Lib.hid hT2
          clear hC hT2
          go_wp2_with fail
          refine (tally_now HT2.out).mono ?_
          rintro e w3 ⟨rfl, rfl⟩
          go_wp2_with fail
          go_roundw
          case rel => exact ⟨n, k + 1, by omega, rfl, by go_num, HT2.out, HC2.out⟩
          case measure => simp [intOf]; omega
      · rcases hM' with ⟨hm0, rfl⟩ | ⟨hm0, rfl⟩
        all_goals
          go_wp2_with fail
          refine (tally_raise_no HT.out n (by omega)).mono ?_
          rintro e w2 ⟨rfl, hT2, hC⟩
          have HC2 := Lib.hid (HC.out.then_ hC OW.out)
          have HT2 := Lib.hid hT2
          clear hC hT2
          go_wp2_with fail
          refine (tally_now HT2.out).mono ?_
          rintro e w3 ⟨rfl, rfl⟩
          go_wp2_with fail
          go_roundw
          case rel => exact ⟨best, k + 1, by omega, rfl, by go_num, HT2.out, HC2.out⟩
          case measure => simp [intOf]; omega
      · rcases hM' with ⟨hm0, rfl⟩ | ⟨hm0, rfl⟩
        all_goals
          go_wp2_with fail
          refine (tally_raise_no HT.out n (by omega)).mono ?_
          rintro e w2 ⟨rfl, hT2, hC⟩
          have HC2 := Lib.hid (HC.out.then_ hC OW.out)
          have HT2 := Lib.hid hT2
          clear hC hT2
          go_wp2_with fail
          refine (tally_now HT2.out).mono ?_
          rintro e w3 ⟨rfl, rfl⟩
          go_wp2_with fail
          go_roundw
          case rel => exact ⟨best, k + 1, by omega, rfl, by go_num, HT2.out, HC2.out⟩
          case measure => simp [intOf]; omega
    · by_cases hlt : k < L
      · obtain ⟨b, off, rfl, hab, hcell⟩ := HCELLS.out (by omega)
        have hc : wr.cell? ⟨b, off + k, none⟩ = some (.int .i64 (zs.getD k 0)) := by
          rw [HC.out.cell hab id]
          refine hcell k _ ?_
          rw [List.getElem?_map, List.getElem?_eq_getElem (by rw [HL.out]; exact hlt), List.getD_eq_getElem?_getD, List.getElem?_eq_getElem (by rw [HL.out]; exact hlt)]; rfl
        generalize zs.getD k 0 = n at *
        clear hcell HCELLS
        have hlt2 : 100 ≤ k := by omega
        clear hgo
        go_wp2_with fail
        refine (tally_reset HT.out).mono ?_
        rintro e w2 ⟨rfl, hT2, hC⟩
        have HC2 := Lib.hid (HC.out.then_ hC OW.out)
        have HT2 := Lib.hid hT2
        clear hC hT2
        go_wp2_with fail
        refine (tally_now HT2.out).mono ?_
        rintro e w3 ⟨rfl, rfl⟩
        go_wp2_with fail
        refine (awake_any _).mono ?_
        rintro e w8 ⟨rfl, hC⟩
        have HC8 := Lib.hid (HC2.out.trans hC)
        clear hC
        go_wp2_with fail
        go_ret
        exact ⟨rfl, HC8.out⟩
      · clear hgo
        go_wp2_with fail
        refine (tally_reset HT.out).mono ?_
        rintro e w2 ⟨rfl, hT2, hC⟩
        have HC2 := Lib.hid (HC.out.then_ hC OW.out)
        have HT2 := Lib.hid hT2
        clear hC hT2
        go_wp2_with fail
        refine (tally_now HT2.out).mono ?_
        rintro e w3 ⟨rfl, rfl⟩
        go_wp2_with fail
        refine (awake_any _).mono ?_
        rintro e w8 ⟨rfl, hC⟩
        have HC8 := Lib.hid (HC2.out.trans hC)
        clear hC
        go_wp2_with fail
        go_ret
        exact ⟨rfl, HC8.out⟩

theorem tallyRaises_walk (m : Int) (v : Value) (D : List Int) (W : World) (w0 : (Lit.int .i64 m).wf = true) (w1 : SliceAt W v 1 D.length (D.map (Value.int .i64)) ∧ ∀ n ∈ D, (Lit.int .i64 n).wf = true) :
    Calls Try.prog 4 #[.int .i64 m, v] W fun e w' => e = .returned (.bool true) ∧ Below W.heap.size W w' := by
  have h := w0
  have hmax : IntKind.i64.max = 9223372036854775807 := rfl
  simp only [Lit.wf, Bool.and_eq_true, decide_eq_true_eq] at h
  exact (raises_any m v D W (by omega) w1.1).mono fun _ _ ⟨h1, h2⟩ => ⟨h1, h2.below⟩
end Go.Proofs.Ytiechceeiidelaa
