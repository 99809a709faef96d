/- The walk of TallyPlays: it answers true. -/
import Derived.Test.YtiechceeiidelaaTallyParts
import Derived.Test.YtiechceeiidelaaTallyRefuses
import Derived.Test.YtiechceeiidelaaArgs
import Derived.LoopTactic
namespace Go.Proofs.Ytiechceeiidelaa
open Go.RowKit

theorem max2_mx0 (k k' : IntKind) (y : Int) : Builtin.max2 (.int k 0) (.int k' y) = pure (.int k (mx0 y)) := by simp only [Builtin.max2, gt_iff_lt, mx0]
theorem max_two_ (ats : Array TypeId) (ty : TypeId) (a b : Value) : Builtin.max_ ats ty #[a, b] = (Builtin.max2 a b >>= fun s => pure s) := by simp only [Builtin.max_, List.foldlM_cons, List.foldlM_nil]
attribute [local go_sem] max2_mx0 max_two_

/-- Taking, whatever comes of it. -/
theorem tally_take {w : World} {g : Nat} {now most : Int} (hT : TA w g now most) (n : Int) :
    Calls Try.prog 12 #[.pointer (some ⟨g, 0, none⟩), .int .i64 n] w fun e w' => ∃ (x : Int) (b : Bool), e = .returned (.bool b) ∧ TA w' g x most ∧ Chg (Only g) w w' ∧
      ((b = true ∧ x = now - n ∧ 0 ≤ n ∧ n ≤ now) ∨ (b = false ∧ x = now ∧ ¬ (0 ≤ n ∧ n ≤ now))) := by
  by_cases a : 0 ≤ n ∧ n ≤ now
  · exact (tally_take_yes hT n a.1 a.2).mono fun _ _ ⟨h1, h2, h3⟩ => ⟨_, _, h1, h2, h3, .inl ⟨rfl, rfl, a⟩⟩
  · exact (tally_take_no hT n a).mono fun _ _ ⟨h1, h2, h3⟩ => ⟨_, _, h1, h2, h3, .inr ⟨rfl, rfl, a⟩⟩

set_option maxRecDepth 100000 in
theorem plays_any (m : Int) (v : Value) (L : Nat) (c : Nat → Nat → Int) (w : World) (hm : m ≤ 9223372036854775807) (hs : RowsAt w v 2 L (fun i j => .int .i64 (c i j))) :
    Calls Try.prog 7 #[.int .i64 m, v] w fun e w' => e = .returned (.bool true) ∧ Chg NoB w w' := by
  obtain ⟨A, cap, rfl, hcap, hmax, hcells⟩ := hs
  unfold maxLen at hmax
  have HCELLS := Lib.hid hcells
  clear hcells
  go_enter Try.func7, Try.ntmps7
  go_wp2_with fail
  refine (tally_new m _ hm).mono ?_
  rintro e w1 ⟨rfl, hT, hC⟩
  have HC := Lib.hid hC
  have HT := Lib.hid hT
  clear hC hT
  have hz := HC.out.size
  have OW : Hid (∀ j, j < w.heap.size → Only w.heap.size j → NoB j) := Lib.hid fun j hj h => absurd h (by unfold Only; omega)
  clear hz
  go_wp2_with fail
  generalize hM : mx0 m = M at *
  clear hM
  go_loopw [7, 8] (fun b i wr => ∃ (n : Int) (k : Nat), k ≤ L ∧ b = .int .i64 n ∧ i = .int .i64 k ∧ TA wr w.heap.size n M ∧ Chg NoB w wr) (fun _ i _ => L - (intOf i).toNat)
  case atStart => exact ⟨0, 0, Nat.zero_le _, rfl, rfl, HT.out, HC.out⟩
  case round =>
    clear HC HT
    obtain ⟨n, k, hk, rfl, rfl, hT, hC⟩ := hrel
    have HT := Lib.hid hT
    have HC := Lib.hid hC
    have hlo := hT.lo
    have hhi := hT.hi
    have htop := hT.top
    clear hT hC
    by_cases hlt : k < L
    · by_cases hlt2 : k < 200
      · obtain ⟨b, off, rfl, hab, hcell⟩ := HCELLS.out (by omega)
        have hc0 : wr.cell? ⟨b, off + k * 2, none⟩ = some (.int .i64 (c k 0)) := by
          rw [HC.out.cell hab id]
          exact hcell k 0 hlt (by omega)
        have hc1 : wr.cell? ⟨b, off + k * 2 + 1, none⟩ = some (.int .i64 (c k 1)) := by
          rw [HC.out.cell hab id]
          exact hcell k 1 hlt (by omega)
        generalize c k 0 = d at *
        generalize c k 1 = x at *
        clear hcell HCELLS
        by_cases hd0 : d = 0
        · subst hd0
          by_cases hx : 0 ≤ x
          · have hx' : decide (0 ≤ x) = true := by simpa using hx
            by_cases hy : x ≤ M - n
            · have hy' : decide (x ≤ M - n) = true := by simpa using hy
              go_wp2_with fail
              refine (tally_add_yes HT.out x hx hy).mono ?_
              rintro e w2 ⟨rfl, hT2, hC⟩
              have HC2 := Lib.hid (HC.out.then_ hC OW.out)
              have HT2 := Lib.hid hT2
              clear hC hT2
              go_wp2_with fail
              refine (tally_now HT2.out).mono ?_
              rintro e w3 ⟨rfl, rfl⟩
              go_wp2_with fail
              refine (tally_most HT2.out).mono ?_
              rintro e w3 ⟨rfl, rfl⟩
              go_wp2_with fail
              go_roundw
              case rel => exact ⟨n + x, k + 1, by omega, rfl, by go_num, HT2.out, HC2.out⟩
              case measure => simp [intOf]; omega
            · have hy' : decide (x ≤ M - n) = false := by simpa using hy
              have hno : Hid (¬ (0 ≤ x ∧ x ≤ M - n)) := Lib.hid fun h => hy h.2
              clear hy
              go_wp2_with fail
              refine (tally_add_no HT.out x hno.out).mono ?_
              rintro e w2 ⟨rfl, hT2, hC⟩
              have HC2 := Lib.hid (HC.out.then_ hC OW.out)
              have HT2 := Lib.hid hT2
              clear hC hT2
              go_wp2_with fail
              refine (tally_now HT2.out).mono ?_
              rintro e w3 ⟨rfl, rfl⟩
              go_wp2_with fail
              refine (tally_most HT2.out).mono ?_
              rintro e w3 ⟨rfl, rfl⟩
              go_wp2_with fail
              go_roundw
              case rel => exact ⟨n, k + 1, by omega, rfl, by go_num, HT2.out, HC2.out⟩
              case measure => simp [intOf]; omega
          · have hx' : decide (0 ≤ x) = false := by simpa using hx
            have hno : Hid (¬ (0 ≤ x ∧ x ≤ M - n)) := Lib.hid fun h => hx h.1
            clear hx
            go_wp2_with fail
            refine (tally_add_no HT.out x hno.out).mono ?_
            rintro e w2 ⟨rfl, hT2, hC⟩
            have HC2 := Lib.hid (HC.out.then_ hC OW.out)
            have HT2 := Lib.hid hT2
            clear hC hT2
            go_wp2_with fail
            refine (tally_now HT2.out).mono ?_
            rintro e w3 ⟨rfl, rfl⟩
            go_wp2_with fail
            refine (tally_most HT2.out).mono ?_
            rintro e w3 ⟨rfl, rfl⟩
            go_wp2_with fail
            go_roundw
            case rel => exact ⟨n, k + 1, by omega, rfl, by go_num, HT2.out, HC2.out⟩
            case measure => simp [intOf]; omega
        · have hd0' : (d == 0) = false := by simpa using hd0
          clear hd0
          by_cases hd1 : d = 1
          · subst hd1
            by_cases hx : 0 ≤ x
            · have hx' : decide (0 ≤ x) = true := by simpa using hx
              by_cases hy : x ≤ n
              · have hy' : decide (x ≤ n) = true := by simpa using hy
                go_wp2_with fail
                refine (tally_take_yes HT.out x hx hy).mono ?_
                rintro e w2 ⟨rfl, hT2, hC⟩
                have HC2 := Lib.hid (HC.out.then_ hC OW.out)
                have HT2 := Lib.hid hT2
                clear hC hT2
                go_wp2_with fail
                refine (tally_now HT2.out).mono ?_
                rintro e w3 ⟨rfl, rfl⟩
                go_wp2_with fail
                refine (tally_most HT2.out).mono ?_
                rintro e w3 ⟨rfl, rfl⟩
                go_wp2_with fail
                go_roundw
                case rel => exact ⟨n - x, k + 1, by omega, rfl, by go_num, HT2.out, HC2.out⟩
                case measure => simp [intOf]; omega
              · have hy' : decide (x ≤ n) = false := by simpa using hy
                have hno : Hid (¬ (0 ≤ x ∧ x ≤ n)) := Lib.hid fun h => hy h.2
                clear hy
                go_wp2_with fail
                refine (tally_take_no HT.out x hno.out).mono ?_
                rintro e w2 ⟨rfl, hT2, hC⟩
                have HC2 := Lib.hid (HC.out.then_ hC OW.out)
                have HT2 := Lib.hid hT2
                clear hC hT2
                go_wp2_with fail
                refine (tally_now HT2.out).mono ?_
                rintro e w3 ⟨rfl, rfl⟩
                go_wp2_with fail
                refine (tally_most HT2.out).mono ?_
                rintro e w3 ⟨rfl, rfl⟩
                go_wp2_with fail
                go_roundw
                case rel => exact ⟨n, k + 1, by omega, rfl, by go_num, HT2.out, HC2.out⟩
                case measure => simp [intOf]; omega
            · have hx' : decide (0 ≤ x) = false := by simpa using hx
              have hno : Hid (¬ (0 ≤ x ∧ x ≤ n)) := Lib.hid fun h => hx h.1
              clear hx
              go_wp2_with fail
              refine (tally_take_no HT.out x hno.out).mono ?_
              rintro e w2 ⟨rfl, hT2, hC⟩
              have HC2 := Lib.hid (HC.out.then_ hC OW.out)
              have HT2 := Lib.hid hT2
              clear hC hT2
              go_wp2_with fail
              refine (tally_now HT2.out).mono ?_
              rintro e w3 ⟨rfl, rfl⟩
              go_wp2_with fail
              refine (tally_most HT2.out).mono ?_
              rintro e w3 ⟨rfl, rfl⟩
              go_wp2_with fail
              go_roundw
              case rel => exact ⟨n, k + 1, by omega, rfl, by go_num, HT2.out, HC2.out⟩
              case measure => simp [intOf]; omega
          · have hd1' : (d == 1) = false := by simpa using hd1
            clear hd1
            by_cases hd2 : d = 2
            · subst hd2
              by_cases hx : n < x
              · have hx' : decide (n < x) = true := by simpa using hx
                by_cases hy : x ≤ M
                · have hy' : decide (x ≤ M) = true := by simpa using hy
                  go_wp2_with fail
                  refine (tally_raise_yes HT.out x hx hy).mono ?_
                  rintro e w2 ⟨rfl, hT2, hC⟩
                  have HC2 := Lib.hid (HC.out.then_ hC OW.out)
                  have HT2 := Lib.hid hT2
                  clear hC hT2
                  go_wp2_with fail
                  refine (tally_now HT2.out).mono ?_
                  rintro e w3 ⟨rfl, rfl⟩
                  go_wp2_with fail
                  refine (tally_most HT2.out).mono ?_
                  rintro e w3 ⟨rfl, rfl⟩
                  go_wp2_with fail
                  go_roundw
                  case rel => exact ⟨x, k + 1, by omega, rfl, by go_num, HT2.out, HC2.out⟩
                  case measure => simp [intOf]; omega
                · have hy' : decide (x ≤ M) = false := by simpa using hy
                  have hno : Hid (¬ (n < x ∧ x ≤ M)) := Lib.hid fun h => hy h.2
                  clear hy
                  go_wp2_with fail
                  refine (tally_raise_no HT.out x hno.out).mono ?_
                  rintro e w2 ⟨rfl, hT2, hC⟩
                  have HC2 := Lib.hid (HC.out.then_ hC OW.out)
                  have HT2 := Lib.hid hT2
                  clear hC hT2
                  go_wp2_with fail
                  refine (tally_now HT2.out).mono ?_
                  rintro e w3 ⟨rfl, rfl⟩
                  go_wp2_with fail
                  refine (tally_most HT2.out).mono ?_
                  rintro e w3 ⟨rfl, rfl⟩
                  go_wp2_with fail
                  go_roundw
                  case rel => exact ⟨n, k + 1, by omega, rfl, by go_num, HT2.out, HC2.out⟩
                  case measure => simp [intOf]; omega
              · have hx' : decide (n < x) = false := by simpa using hx
                have hno : Hid (¬ (n < x ∧ x ≤ M)) := Lib.hid fun h => hx h.1
                clear hx
                go_wp2_with fail
                refine (tally_raise_no HT.out x hno.out).mono ?_
                rintro e w2 ⟨rfl, hT2, hC⟩
                have HC2 := Lib.hid (HC.out.then_ hC OW.out)
                have HT2 := Lib.hid hT2
                clear hC hT2
                go_wp2_with fail
                refine (tally_now HT2.out).mono ?_
                rintro e w3 ⟨rfl, rfl⟩
                go_wp2_with fail
                refine (tally_most HT2.out).mono ?_
                rintro e w3 ⟨rfl, rfl⟩
                go_wp2_with fail
                go_roundw
                case rel => exact ⟨n, k + 1, by omega, rfl, by go_num, HT2.out, HC2.out⟩
                case measure => simp [intOf]; omega
            · have hd2' : (d == 2) = false := by simpa using hd2
              clear hd2
              go_wp2_with fail
              refine (tally_reset HT.out).mono ?_
              rintro e w2 ⟨rfl, hT2, hC⟩
              have HC2 := Lib.hid (HC.out.then_ hC OW.out)
              have HT2 := Lib.hid hT2
              clear hC hT2
              go_wp2_with fail
              refine (tally_now HT2.out).mono ?_
              rintro e w3 ⟨rfl, rfl⟩
              go_wp2_with fail
              refine (tally_most HT2.out).mono ?_
              rintro e w3 ⟨rfl, rfl⟩
              go_wp2_with fail
              go_roundw
              case rel => exact ⟨0, k + 1, by omega, rfl, by go_num, HT2.out, HC2.out⟩
              case measure => simp [intOf]; omega
      · go_wp2_with fail
        refine (awake_any _).mono ?_
        rintro e w8 ⟨rfl, hC⟩
        have HC8 := Lib.hid (HC.out.trans hC)
        clear hC
        go_wp2_with fail
        go_ret
        exact ⟨rfl, HC8.out⟩
    · go_wp2_with fail
      refine (awake_any _).mono ?_
      rintro e w8 ⟨rfl, hC⟩
      have HC8 := Lib.hid (HC.out.trans hC)
      clear hC
      go_wp2_with fail
      go_ret
      exact ⟨rfl, HC8.out⟩

theorem tallyPlays_walk (m : Int) (v : Value) (D : Nat × (Nat → Nat → Int)) (W : World) (w0 : (Lit.int .i64 m).wf = true) (w1 : RowsAt W v 2 D.1 (fun i j => .int .i64 (D.2 i j)) ∧ ∀ i j, i < D.1 → j < 2 → (Lit.int .i64 (D.2 i j)).wf = true) :
    Calls Try.prog 7 #[.int .i64 m, v] W fun e w' => e = .returned (.bool true) ∧ Below W.heap.size W w' := by
  have h := w0
  have hmax : IntKind.i64.max = 9223372036854775807 := rfl
  simp only [Lit.wf, Bool.and_eq_true, decide_eq_true_eq] at h
  exact (plays_any m v D.1 D.2 W (by omega) w1.1).mono fun _ _ ⟨h1, h2⟩ => ⟨h1, h2.below⟩
end Go.Proofs.Ytiechceeiidelaa
