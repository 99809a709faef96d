/- Contracts of the reference's package, function by function. No statement is proved here. -/
import Derived.Test.YthkmocfdpmlllaaDoorVectorCovers
namespace Go.Proofs.YthkmocfdpmlllaaDoor
open Go.RowKit
attribute [local go_sem] max2_mx max_two_ eq_nums
attribute [local irreducible] wpQuiet
theorem rmay_any (f : Vc) (w : World) : Calls Tryd.prog 19 #[vec f] w fun e w' => e = .returned (.bool (may f)) ∧ Chg NoB w w' := by
  go_enter Tryd.func19, Tryd.ntmps19
  go_wp2_with fail
  have HC : Hid (Chg NoB w (w.alloc (Obj.cells (va f) 23))) := Lib.hid ((Chg.refl _ w).alloc _)
  generalize w.alloc (Obj.cells (va f) 23) = W at *
  go_loopw [6] (fun i wr => ∃ k : Nat, k ≤ 8 ∧ i = .int .i64 k ∧ (∀ j, j < k → inr_ (f j)) ∧ W = wr) (fun i _ => 8 - (intOf i).toNat)
  case atStart => exact ⟨0, by decide, rfl, fun j h => absurd h (by omega), rfl⟩
  case round =>
    obtain ⟨k, hk, rfl, hj, rfl⟩ := hrel
    have HJ := Lib.hid hj
    clear hj
    by_cases hlt : k < 8
    · have hix := idx f hlt
      have hk2 : ((k : Nat) : Int) < 8 := by omega
      by_cases h0 : f k < 0
      · go_wp2_with fail
        go_ret
        exact ⟨by rw [may_no hlt (fun h => by have := h.1; omega)]; rfl, HC.out⟩
      · by_cases h1 : f k > 1099511627776
        · go_wp2_with fail
          go_ret
          exact ⟨by rw [may_no hlt (fun h => by have := h.2; omega)]; rfl, HC.out⟩
        · go_wp2_with fail
          go_roundw
          case rel =>
            refine ⟨k + 1, by omega, by go_num, fun j hj => ?_, by first | rfl | trivial⟩
            by_cases e : j = k
            · subst e; exact ⟨by omega, by omega⟩
            · exact HJ.out j (by omega)
          case measure => simp [intOf]; omega
    · obtain rfl : k = 8 := by omega
      go_wp2_with fail
      go_ret
      exact ⟨by rw [may_iff.2 HJ.out]; rfl, HC.out⟩
set_option maxHeartbeats 4000000 in
theorem rjoin_any (f g : Vc) (w : World) : Calls Tryd.prog 21 #[vec f, vec g] w fun e w' => e = .returned (vec (jn f g)) ∧ Chg NoB w w' := by
  go_enter Tryd.func21, Tryd.ntmps21
  go_wp2_with fail
  generalize hW : (((w.alloc (Obj.cells (va f) 23)).alloc (Obj.cells (va g) 23)).alloc (Obj.cells #[.int .i64 0, .int .i64 0, .int .i64 0, .int .i64 0, .int .i64 0, .int .i64 0, .int .i64 0, .int .i64 0] 23)) = W
  have h0 : Blk W w.heap.size 23 (va (jto f g 0)) := by rw [← hW, jto_zero]; exact ((Blk.new _ _ _).alloc _).alloc _
  have h1 : Blk W (w.heap.size + 1) 23 (va g) := by rw [← hW]; exact (Blk.new_ _ _ _ (by simp)).alloc _
  have H1 := Lib.hid h1
  have h2 : Blk W (w.heap.size + 1 + 1) 23 (va fun _ => 0) := by rw [← hW]; exact Blk.new_ _ _ _ (by simp)
  have hC : Chg NoB w W := by rw [← hW]; exact (((Chg.refl _ w).alloc _).alloc _).alloc _
  have H0 := Lib.hid h0
  have H2 := Lib.hid h2
  have HC := Lib.hid hC
  clear hW h0 h1 h2 hC
  go_loopw [6] (fun i wr => ∃ k : Nat, k ≤ 8 ∧ i = .int .i64 k ∧ Blk wr w.heap.size 23 (va (jto f g k)) ∧ Blk wr (w.heap.size + 1) 23 (va g) ∧ Blk wr (w.heap.size + 1 + 1) 23 (va fun _ => 0) ∧ Chg NoB w wr) (fun i _ => 8 - (intOf i).toNat)
  case atStart => exact ⟨0, by decide, rfl, H0.out, H1.out, H2.out, HC.out⟩
  case round =>
    clear H0 H1 H2 HC
    obtain ⟨k, hk, rfl, h0, h1, h2, hC⟩ := hrel
    have H1 := Lib.hid h1
    have H0 := Lib.hid h0
    have H2 := Lib.hid h2
    have HC := Lib.hid hC
    clear h0 h1 h2 hC
    by_cases hlt : k < 8
    · have hg := (H1.out.cell k).trans (va_get g hlt)
      have hcell := (H0.out.cell k).trans ((va_get _ hlt).trans (by rw [jto_at]))
      have hfr := H0.out.frozen k
      have hk2 : ((k : Nat) : Int) < 8 := by omega
      go_wp2_with fail
      refine region_tail 9 (by kernel_rfl) (by kernel_rfl) ?_
      simp only [List.take_succ_cons, List.take_zero, List.drop_succ_cons, List.drop_zero]
      iterate 9 still_step
      refine wpStill_nil ?_
      clear hg
      go_wp2_with fail
      go_roundw
      case rel =>
        refine ⟨k + 1, by omega, by go_num, ?_, (H1.out.far (p := ⟨w.heap.size, k, none⟩) (show w.heap.size + 1 ≠ w.heap.size by omega) _).drew, (H2.out.far (p := ⟨w.heap.size, k, none⟩) (show w.heap.size + 1 + 1 ≠ w.heap.size by omega) _).drew, (HC.out.setCell (p := ⟨w.heap.size, k, none⟩) (.inr (Nat.le_refl _)) _).drew⟩
        rw [jto_succ, ← va_set _ hlt]
        exact (H0.out.set_ k _).drew
      case measure => simp [intOf]; omega
    · obtain rfl : k = 8 := by omega
      obtain ⟨c0, c1, c2, c3, c4, c5, c6, c7⟩ := eight H0.out
      obtain ⟨d0, d1, d2, d3, d4, d5, d6, d7⟩ := eight H2.out
      obtain ⟨f0, f1, f2, f3, f4, f5, f6, f7⟩ := eight_frozen H2.out
      go_wp2_with fail
      exact back_vec rfl (jto f g 8) rfl (eight_set H2.out _ _ _ _ _ _ _ _) rfl ⟨congrArg (fun x => Ending.returned (Value.agg x)) (jto_end f g), eight_chg HC.out (.inr (by omega)) _ _ _ _ _ _ _ _⟩
theorem rnext_any (f : Vc) (n : Int) (w : World) (hf : ∀ k, k < 8 → -9223372036854775808 ≤ f k) : Calls Tryd.prog 18 #[vec f, .int .i64 n] w fun e w' => e = .returned (.tuple #[dot (nxtN f n) (nxtX f n), .int .i64 (nxtE f n)]) ∧ Chg NoB w w' := by
  by_cases hn : 0 ≤ n ∧ n < 8
  · obtain ⟨k, rfl⟩ := Int.eq_ofNat_of_zero_le hn.1
    have hk : k < 8 := by omega
    have hk2 : (k : Int) < 8 := hn.2
    have hfk := hf k hk
    by_cases hl : f k < lim
    · have e1 : nxtN f k = k := if_pos ⟨hn, hl⟩
      have e2 : nxtX f k = f k + 1 := if_pos ⟨hn, hl⟩
      have e3 : nxtE f k = 0 := (if_pos hn).trans (if_pos hl)
      rw [e1, e2, e3]
      have hl2 : decide (f k ≥ 1099511627776) = false := decide_eq_false (by unfold lim at hl; omega)
      have hl3 : f k + 1 ≤ 9223372036854775807 := by unfold lim at hl; omega
      clear e1 e2 e3 hl hn hf
      go_enter Tryd.func18, Tryd.ntmps18
      have B0 := Lib.hid ((Blk.new w 23 (va f)).alloc (Obj.cells #[.int .i64 0, .int .i64 0] 31))
      have hv := (B0.out.cell k).trans (va_get f hk)
      go_wp2_with fail
      exact back_next rfl k (f k + 1) (.int .i64 0) rfl rfl (Blk.new_ _ _ _ (by simp)) rfl ⟨rfl, ((Chg.refl NoB w).alloc _).alloc _⟩
    · have e1 : nxtN f k = 0 := if_neg fun h => hl h.2
      have e2 : nxtX f k = 0 := if_neg fun h => hl h.2
      have e3 : nxtE f k = 11 := (if_pos hn).trans (if_neg hl)
      rw [e1, e2, e3]
      have hl2 : decide (f k ≥ 1099511627776) = true := decide_eq_true (by unfold lim at hl; omega)
      clear e1 e2 e3 hl hn hf
      go_enter Tryd.func18, Tryd.ntmps18
      have B0 := Lib.hid ((Blk.new w 23 (va f)).alloc (Obj.cells #[.int .i64 0, .int .i64 0] 31))
      have hv := (B0.out.cell k).trans (va_get f hk)
      go_wp2_with fail
      exact back_next rfl 0 (0) (.int .i64 11) rfl rfl (Blk.new_ _ _ _ (by simp)) rfl ⟨rfl, ((Chg.refl NoB w).alloc _).alloc _⟩
  · have e1 : nxtN f n = 0 := if_neg fun h => hn h.1
    have e2 : nxtX f n = 0 := if_neg fun h => hn h.1
    have e3 : nxtE f n = 1 := if_neg hn
    rw [e1, e2, e3]
    have hi := hn
    clear e1 e2 e3 hn
    go_enter Tryd.func18, Tryd.ntmps18
    go_wp2_with fail
    all_goals exact back_next rfl 0 (0) (.int .i64 1) rfl rfl (Blk.new_ _ _ _ (by simp)) rfl ⟨rfl, ((Chg.refl NoB w).alloc _).alloc _⟩

theorem rless_any (n x m y : Int) (w : World) : Calls Tryd.prog 24 #[dot n x, dot m y] w fun e w' => e = .returned (.bool (less n x m y)) ∧ Chg NoB w w' := by
  have HC := Lib.hid (((Chg.refl NoB w).alloc (Obj.cells #[.int .i64 n, .int .i64 x] 31)).alloc (Obj.cells #[.int .i64 m, .int .i64 y] 31))
  by_cases h1 : n < m
  · have e : less n x m y = true := decide_eq_true (.inl h1)
    rw [e]
    have h2 : decide (n < m) = true := decide_eq_true h1
    clear e
    go_enter Tryd.func24, Tryd.ntmps24
    go_wp2_with fail
    go_ret
    exact ⟨rfl, HC.out⟩
  · by_cases h3 : n = m
    · subst h3
      have e : less n x n y = decide (x < y) := by unfold less; rw [decide_eq_decide]; omega
      rw [e]
      clear e h1
      go_enter Tryd.func24, Tryd.ntmps24
      go_wp2_with fail
      go_ret
      exact ⟨rfl, HC.out⟩
    · have e : less n x m y = false := decide_eq_false (by omega)
      rw [e]
      have h4 : (n == m) = false := by simpa using h3
      clear e
      go_enter Tryd.func24, Tryd.ntmps24
      go_wp2_with fail
      go_ret
      exact ⟨rfl, HC.out⟩
theorem leq_no {f g : Vc} {k : Nat} (hk : k < 8) (h : f k > g k) : leq f g = false := by
  cases e : leq f g with
  | false => rfl
  | true => have := leq_iff.1 e k hk; omega
theorem rleq_any (f g : Vc) (w : World) : Calls Tryd.prog 22 #[vec f, vec g] w fun e w' => e = .returned (.bool (leq f g)) ∧ Chg NoB w w' := by
  go_enter Tryd.func22, Tryd.ntmps22
  go_wp2_with fail
  have B0 := Lib.hid ((Blk.new w 23 (va f)).alloc (Obj.cells (va g) 23))
  have B1 := Lib.hid (Blk.new_ (k := w.heap.size + 1) (w.alloc (Obj.cells (va f) 23)) 23 (va g) (by simp))
  have HC := Lib.hid (((Chg.refl NoB w).alloc (Obj.cells (va f) 23)).alloc (Obj.cells (va g) 23))
  generalize (w.alloc (Obj.cells (va f) 23)).alloc (Obj.cells (va g) 23) = W at *
  go_loopw [6] (fun i wr => ∃ k : Nat, k ≤ 8 ∧ i = .int .i64 k ∧ (∀ j, j < k → f j ≤ g j) ∧ Blk wr w.heap.size 23 (va f) ∧ Blk wr (w.heap.size + 1) 23 (va g) ∧ Chg NoB w wr) (fun i _ => 8 - (intOf i).toNat)
  case atStart => exact ⟨0, by decide, rfl, fun j h => absurd h (by omega), B0.out, B1.out, HC.out⟩
  case round =>
    clear B0 B1 HC
    obtain ⟨k, hk, rfl, hj, h0, h1, hC0⟩ := hrel
    have HJ := Lib.hid hj
    have B0 := Lib.hid h0
    have B1 := Lib.hid h1
    have HC := Lib.hid hC0
    clear hj h0 h1 hC0
    by_cases hlt : k < 8
    · have hk2 : ((k : Nat) : Int) < 8 := by omega
      by_cases hgt : f k > g k
      · have hg : decide (f k > g k) = true := decide_eq_true hgt
        go_wp2_with fail
        refine q_start (by kernel_rfl) (by kernel_rfl) ?_
        refine q_on (v := ?_) (by rfl) ?_ ?_
        rotate_left
        · intro w' hC
          go_simp
          with_reducible rfl
        rotate_left
        refine q_norm (a' := ?_) ?_ ?_
        rotate_left
        · show Act.put _ (some 9) _ = _
          simp only [Act.put, List.setIfInBounds_toArray, List.set_cons_zero, List.set_cons_succ]
          rfl
        refine q_on (v := ?_) (by rfl) ?_ ?_
        rotate_left
        · intro w' hC
          go_simp
          with_reducible rfl
        rotate_left
        refine q_norm (a' := ?_) ?_ ?_
        rotate_left
        · show Act.put _ (some 10) _ = _
          simp only [Act.put, List.setIfInBounds_toArray, List.set_cons_zero, List.set_cons_succ]
          rfl
        refine q_on (v := ?_) (by rfl) ?_ ?_
        rotate_left
        · intro w' hC
          have hv := ((B0.out.chg hC id).cell k).trans (va_get f hlt)
          go_simp
          with_reducible rfl
        rotate_left
        refine q_norm (a' := ?_) ?_ ?_
        rotate_left
        · show Act.put _ (some 11) _ = _
          simp only [Act.put, List.setIfInBounds_toArray, List.set_cons_zero, List.set_cons_succ]
          rfl
        refine q_on (v := ?_) (by rfl) ?_ ?_
        rotate_left
        · intro w' hC
          go_simp
          with_reducible rfl
        rotate_left
        refine q_norm (a' := ?_) ?_ ?_
        rotate_left
        · show Act.put _ (some 12) _ = _
          simp only [Act.put, List.setIfInBounds_toArray, List.set_cons_zero, List.set_cons_succ]
          rfl
        refine q_on (v := ?_) (by rfl) ?_ ?_
        rotate_left
        · intro w' hC
          go_simp
          with_reducible rfl
        rotate_left
        refine q_norm (a' := ?_) ?_ ?_
        rotate_left
        · show Act.put _ (some 13) _ = _
          simp only [Act.put, List.setIfInBounds_toArray, List.set_cons_zero, List.set_cons_succ]
          rfl
        refine q_on (v := ?_) (by rfl) ?_ ?_
        rotate_left
        · intro w' hC
          have hv := ((B1.out.chg hC id).cell k).trans (va_get g hlt)
          go_simp
          with_reducible rfl
        rotate_left
        refine q_norm (a' := ?_) ?_ ?_
        rotate_left
        · show Act.put _ (some 14) _ = _
          simp only [Act.put, List.setIfInBounds_toArray, List.set_cons_zero, List.set_cons_succ]
          rfl
        refine q_on (v := ?_) (by rfl) ?_ ?_
        rotate_left
        · intro w' hC
          go_simp
          with_reducible rfl
        rotate_left
        refine q_norm (a' := ?_) ?_ ?_
        rotate_left
        · show Act.put _ (some 15) _ = _
          simp only [Act.put, List.setIfInBounds_toArray, List.set_cons_zero, List.set_cons_succ]
          rfl
        refine wpQuiet_nil ?_
        intro w' hC
        go_wp2_with fail
        go_ret
        exact ⟨by rw [leq_no hlt hgt]; rfl, HC.out.trans hC⟩
      · have hg : decide (f k > g k) = false := decide_eq_false hgt
        go_wp2_with fail
        refine q_start (by kernel_rfl) (by kernel_rfl) ?_
        refine q_on (v := ?_) (by rfl) ?_ ?_
        rotate_left
        · intro w' hC
          go_simp
          with_reducible rfl
        rotate_left
        refine q_norm (a' := ?_) ?_ ?_
        rotate_left
        · show Act.put _ (some 9) _ = _
          simp only [Act.put, List.setIfInBounds_toArray, List.set_cons_zero, List.set_cons_succ]
          rfl
        refine q_on (v := ?_) (by rfl) ?_ ?_
        rotate_left
        · intro w' hC
          go_simp
          with_reducible rfl
        rotate_left
        refine q_norm (a' := ?_) ?_ ?_
        rotate_left
        · show Act.put _ (some 10) _ = _
          simp only [Act.put, List.setIfInBounds_toArray, List.set_cons_zero, List.set_cons_succ]
          rfl
        refine q_on (v := ?_) (by rfl) ?_ ?_
        rotate_left
        · intro w' hC
          have hv := ((B0.out.chg hC id).cell k).trans (va_get f hlt)
          go_simp
          with_reducible rfl
        rotate_left
        refine q_norm (a' := ?_) ?_ ?_
        rotate_left
        · show Act.put _ (some 11) _ = _
          simp only [Act.put, List.setIfInBounds_toArray, List.set_cons_zero, List.set_cons_succ]
          rfl
        refine q_on (v := ?_) (by rfl) ?_ ?_
        rotate_left
        · intro w' hC
          go_simp
          with_reducible rfl
        rotate_left
        refine q_norm (a' := ?_) ?_ ?_
        rotate_left
        · show Act.put _ (some 12) _ = _
          simp only [Act.put, List.setIfInBounds_toArray, List.set_cons_zero, List.set_cons_succ]
          rfl
        refine q_on (v := ?_) (by rfl) ?_ ?_
        rotate_left
        · intro w' hC
          go_simp
          with_reducible rfl
        rotate_left
        refine q_norm (a' := ?_) ?_ ?_
        rotate_left
        · show Act.put _ (some 13) _ = _
          simp only [Act.put, List.setIfInBounds_toArray, List.set_cons_zero, List.set_cons_succ]
          rfl
        refine q_on (v := ?_) (by rfl) ?_ ?_
        rotate_left
        · intro w' hC
          have hv := ((B1.out.chg hC id).cell k).trans (va_get g hlt)
          go_simp
          with_reducible rfl
        rotate_left
        refine q_norm (a' := ?_) ?_ ?_
        rotate_left
        · show Act.put _ (some 14) _ = _
          simp only [Act.put, List.setIfInBounds_toArray, List.set_cons_zero, List.set_cons_succ]
          rfl
        refine q_on (v := ?_) (by rfl) ?_ ?_
        rotate_left
        · intro w' hC
          go_simp
          with_reducible rfl
        rotate_left
        refine q_norm (a' := ?_) ?_ ?_
        rotate_left
        · show Act.put _ (some 15) _ = _
          simp only [Act.put, List.setIfInBounds_toArray, List.set_cons_zero, List.set_cons_succ]
          rfl
        refine wpQuiet_nil ?_
        intro w' hC
        go_wp2_with fail
        go_roundw
        case rel =>
          refine ⟨k + 1, by omega, by go_num, fun j hj => ?_, B0.out.chg hC id, B1.out.chg hC id, HC.out.trans hC⟩
          by_cases e : j = k
          · subst e; omega
          · exact HJ.out j (by omega)
        case measure => simp [intOf]; omega
    · obtain rfl : k = 8 := by omega
      go_wp2_with fail
      go_ret
      exact ⟨by rw [leq_iff.2 HJ.out]; rfl, HC.out⟩
set_option maxHeartbeats 4000000 in
theorem rcovers_any (f : Vc) (n x : Int) (w : World) : Calls Tryd.prog 20 #[vec f, dot n x] w fun e w' => e = .returned (.bool (cov f n x)) ∧ Chg NoB w w' := by
  go_enter Tryd.func20, Tryd.ntmps20
  go_wp2_with fail
  have B0 := Lib.hid ((Blk.new w 23 (va f)).alloc (Obj.cells #[.int .i64 n, .int .i64 x] 31))
  have B1 := Lib.hid (Blk.new_ (k := w.heap.size + 1) (w.alloc (Obj.cells (va f) 23)) 31 #[.int .i64 n, .int .i64 x] (by simp))
  have HC := Lib.hid (((Chg.refl NoB w).alloc (Obj.cells (va f) 23)).alloc (Obj.cells #[.int .i64 n, .int .i64 x] 31))
  generalize (w.alloc (Obj.cells (va f) 23)).alloc (Obj.cells #[.int .i64 n, .int .i64 x] 31) = W at *
  by_cases h0 : 0 ≤ n
  · by_cases h8 : n < 8
    · obtain ⟨k, rfl⟩ := Int.eq_ofNat_of_zero_le h0
      have hk : k < 8 := by omega
      have g0 : decide ((k : Int) ≥ 0) = true := decide_eq_true h0
      have g8 : decide ((k : Int) < 8) = true := decide_eq_true h8
      by_cases hx : 1 ≤ x
      · have gx : decide (x ≥ 1) = true := decide_eq_true hx
        have HE : Hid (cov f k x = decide (x ≤ f k)) := Lib.hid (by unfold cov; rw [decide_eq_decide, Int.toNat_natCast]; omega)
        refine q_start (by kernel_rfl) (by kernel_rfl) ?_
        refine q_on (v := ?_) (by rfl) ?_ ?_
        rotate_left
        · intro w' hC
          go_simp
          with_reducible rfl
        rotate_left
        refine q_norm (a' := ?_) ?_ ?_
        rotate_left
        · show Act.put _ (some 5) _ = _
          simp only [Act.put, List.setIfInBounds_toArray, List.set_cons_zero, List.set_cons_succ]
          rfl
        refine q_on (v := ?_) (by rfl) ?_ ?_
        rotate_left
        · intro w' hC
          obtain ⟨c0, c1⟩ := two (B1.out.chg hC id)
          go_simp
          with_reducible rfl
        rotate_left
        refine q_norm (a' := ?_) ?_ ?_
        rotate_left
        · show Act.put _ (some 6) _ = _
          simp only [Act.put, List.setIfInBounds_toArray, List.set_cons_zero, List.set_cons_succ]
          rfl
        refine q_on (v := ?_) (by rfl) ?_ ?_
        rotate_left
        · intro w' hC
          go_simp
          with_reducible rfl
        rotate_left
        refine q_norm (a' := ?_) ?_ ?_
        rotate_left
        · show Act.put _ (some 7) _ = _
          simp only [Act.put, List.setIfInBounds_toArray, List.set_cons_zero, List.set_cons_succ]
          rfl
        refine q_on (v := ?_) (by rfl) ?_ ?_
        rotate_left
        · intro w' hC
          go_simp
          with_reducible rfl
        rotate_left
        refine q_norm (a' := ?_) ?_ ?_
        rotate_left
        · show Act.put _ (some 8) _ = _
          simp only [Act.put, List.setIfInBounds_toArray, List.set_cons_zero, List.set_cons_succ]
          rfl
        refine q_on (v := ?_) (by rfl) ?_ ?_
        rotate_left
        · intro w' hC
          go_simp
          with_reducible rfl
        rotate_left
        refine q_norm (a' := ?_) ?_ ?_
        rotate_left
        · show Act.put _ (some 9) _ = _
          simp only [Act.put, List.setIfInBounds_toArray, List.set_cons_zero, List.set_cons_succ]
          rfl
        refine q_on (v := ?_) (by rfl) ?_ ?_
        rotate_left
        · intro w' hC
          obtain ⟨c0, c1⟩ := two (B1.out.chg hC id)
          go_simp
          with_reducible rfl
        rotate_left
        refine q_norm (a' := ?_) ?_ ?_
        rotate_left
        · show Act.put _ (some 10) _ = _
          simp only [Act.put, List.setIfInBounds_toArray, List.set_cons_zero, List.set_cons_succ]
          rfl
        refine q_on (v := ?_) (by rfl) ?_ ?_
        rotate_left
        · intro w' hC
          go_simp
          with_reducible rfl
        rotate_left
        refine q_norm (a' := ?_) ?_ ?_
        rotate_left
        · show Act.put _ (some 11) _ = _
          simp only [Act.put, List.setIfInBounds_toArray, List.set_cons_zero, List.set_cons_succ]
          rfl
        refine q_on (v := ?_) (by rfl) ?_ ?_
        rotate_left
        · intro w' hC
          go_simp
          with_reducible rfl
        rotate_left
        refine q_norm (a' := ?_) ?_ ?_
        rotate_left
        · show Act.put _ (some 12) _ = _
          simp only [Act.put, List.setIfInBounds_toArray, List.set_cons_zero, List.set_cons_succ]
          rfl
        refine q_on (v := ?_) (by rfl) ?_ ?_
        rotate_left
        · intro w' hC
          go_simp
          with_reducible rfl
        rotate_left
        refine q_norm (a' := ?_) ?_ ?_
        rotate_left
        · show Act.put _ (some 13) _ = _
          simp only [Act.put, List.setIfInBounds_toArray, List.set_cons_zero, List.set_cons_succ]
          rfl
        refine q_on (v := ?_) (by rfl) ?_ ?_
        rotate_left
        · intro w' hC
          go_simp
          with_reducible rfl
        rotate_left
        refine q_norm (a' := ?_) ?_ ?_
        rotate_left
        · show Act.put _ (some 14) _ = _
          simp only [Act.put, List.setIfInBounds_toArray, List.set_cons_zero, List.set_cons_succ]
          rfl
        refine q_on (v := ?_) (by rfl) ?_ ?_
        rotate_left
        · intro w' hC
          obtain ⟨c0, c1⟩ := two (B1.out.chg hC id)
          go_simp
          with_reducible rfl
        rotate_left
        refine q_norm (a' := ?_) ?_ ?_
        rotate_left
        · show Act.put _ (some 15) _ = _
          simp only [Act.put, List.setIfInBounds_toArray, List.set_cons_zero, List.set_cons_succ]
          rfl
        refine q_on (v := ?_) (by rfl) ?_ ?_
        rotate_left
        · intro w' hC
          go_simp
          with_reducible rfl
        rotate_left
        refine q_norm (a' := ?_) ?_ ?_
        rotate_left
        · show Act.put _ (some 16) _ = _
          simp only [Act.put, List.setIfInBounds_toArray, List.set_cons_zero, List.set_cons_succ]
          rfl
        refine q_on (v := ?_) (by rfl) ?_ ?_
        rotate_left
        · intro w' hC
          go_simp
          with_reducible rfl
        rotate_left
        refine q_norm (a' := ?_) ?_ ?_
        rotate_left
        · show Act.put _ (some 17) _ = _
          simp only [Act.put, List.setIfInBounds_toArray, List.set_cons_zero, List.set_cons_succ]
          rfl
        refine q_on (v := ?_) (by rfl) ?_ ?_
        rotate_left
        · intro w' hC
          go_simp
          with_reducible rfl
        rotate_left
        refine q_norm (a' := ?_) ?_ ?_
        rotate_left
        · show Act.put _ (some 18) _ = _
          simp only [Act.put, List.setIfInBounds_toArray, List.set_cons_zero, List.set_cons_succ]
          rfl
        refine q_on (v := ?_) (by rfl) ?_ ?_
        rotate_left
        · intro w' hC
          go_simp
          with_reducible rfl
        rotate_left
        refine q_norm (a' := ?_) ?_ ?_
        rotate_left
        · show Act.put _ (some 19) _ = _
          simp only [Act.put, List.setIfInBounds_toArray, List.set_cons_zero, List.set_cons_succ]
          rfl
        refine q_on (v := ?_) (by rfl) ?_ ?_
        rotate_left
        · intro w' hC
          obtain ⟨c0, c1⟩ := two (B1.out.chg hC id)
          go_simp
          with_reducible rfl
        rotate_left
        refine q_norm (a' := ?_) ?_ ?_
        rotate_left
        · show Act.put _ (some 20) _ = _
          simp only [Act.put, List.setIfInBounds_toArray, List.set_cons_zero, List.set_cons_succ]
          rfl
        refine q_on (v := ?_) (by rfl) ?_ ?_
        rotate_left
        · intro w' hC
          go_simp
          with_reducible rfl
        rotate_left
        refine q_norm (a' := ?_) ?_ ?_
        rotate_left
        · show Act.put _ (some 21) _ = _
          simp only [Act.put, List.setIfInBounds_toArray, List.set_cons_zero, List.set_cons_succ]
          rfl
        refine q_on (v := ?_) (by rfl) ?_ ?_
        rotate_left
        · intro w' hC
          obtain ⟨c0, c1⟩ := two (B1.out.chg hC id)
          go_simp
          with_reducible rfl
        rotate_left
        refine q_norm (a' := ?_) ?_ ?_
        rotate_left
        · show Act.put _ (some 22) _ = _
          simp only [Act.put, List.setIfInBounds_toArray, List.set_cons_zero, List.set_cons_succ]
          rfl
        refine q_on (v := ?_) (by rfl) ?_ ?_
        rotate_left
        · intro w' hC
          go_simp
          with_reducible rfl
        rotate_left
        refine q_norm (a' := ?_) ?_ ?_
        rotate_left
        · show Act.put _ (some 23) _ = _
          simp only [Act.put, List.setIfInBounds_toArray, List.set_cons_zero, List.set_cons_succ]
          rfl
        refine q_on (v := ?_) (by rfl) ?_ ?_
        rotate_left
        · intro w' hC
          have hv := ((B0.out.chg hC id).cell k).trans (va_get f hk)
          go_simp
          with_reducible rfl
        rotate_left
        refine q_norm (a' := ?_) ?_ ?_
        rotate_left
        · show Act.put _ (some 24) _ = _
          simp only [Act.put, List.setIfInBounds_toArray, List.set_cons_zero, List.set_cons_succ]
          rfl
        refine q_on (v := ?_) (by rfl) ?_ ?_
        rotate_left
        · intro w' hC
          go_simp
          with_reducible rfl
        rotate_left
        refine q_norm (a' := ?_) ?_ ?_
        rotate_left
        · show Act.put _ (some 25) _ = _
          simp only [Act.put, List.setIfInBounds_toArray, List.set_cons_zero, List.set_cons_succ]
          rfl
        refine q_on (v := ?_) (by rfl) ?_ ?_
        rotate_left
        · intro w' hC
          go_simp
          with_reducible rfl
        rotate_left
        refine q_norm (a' := ?_) ?_ ?_
        rotate_left
        · show Act.put _ (some 26) _ = _
          simp only [Act.put, List.setIfInBounds_toArray, List.set_cons_zero, List.set_cons_succ]
          rfl
        refine q_on (v := ?_) (by rfl) ?_ ?_
        rotate_left
        · intro w' hC
          go_simp
          with_reducible rfl
        rotate_left
        refine q_norm (a' := ?_) ?_ ?_
        rotate_left
        · show Act.put _ (some 4) _ = _
          simp only [Act.put, List.setIfInBounds_toArray, List.set_cons_zero, List.set_cons_succ]
          rfl
        refine wpQuiet_nil ?_
        intro w' hC
        go_wp2_with fail
        go_ret
        exact ⟨by rw [HE.out]; rfl, HC.out.trans hC⟩
      · have gx : decide (x ≥ 1) = false := decide_eq_false hx
        have HE : Hid (cov f k x = false) := Lib.hid (decide_eq_false fun h => hx h.2.1)
        refine q_start (by kernel_rfl) (by kernel_rfl) ?_
        refine q_on (v := ?_) (by rfl) ?_ ?_
        rotate_left
        · intro w' hC
          go_simp
          with_reducible rfl
        rotate_left
        refine q_norm (a' := ?_) ?_ ?_
        rotate_left
        · show Act.put _ (some 5) _ = _
          simp only [Act.put, List.setIfInBounds_toArray, List.set_cons_zero, List.set_cons_succ]
          rfl
        refine q_on (v := ?_) (by rfl) ?_ ?_
        rotate_left
        · intro w' hC
          obtain ⟨c0, c1⟩ := two (B1.out.chg hC id)
          go_simp
          with_reducible rfl
        rotate_left
        refine q_norm (a' := ?_) ?_ ?_
        rotate_left
        · show Act.put _ (some 6) _ = _
          simp only [Act.put, List.setIfInBounds_toArray, List.set_cons_zero, List.set_cons_succ]
          rfl
        refine q_on (v := ?_) (by rfl) ?_ ?_
        rotate_left
        · intro w' hC
          go_simp
          with_reducible rfl
        rotate_left
        refine q_norm (a' := ?_) ?_ ?_
        rotate_left
        · show Act.put _ (some 7) _ = _
          simp only [Act.put, List.setIfInBounds_toArray, List.set_cons_zero, List.set_cons_succ]
          rfl
        refine q_on (v := ?_) (by rfl) ?_ ?_
        rotate_left
        · intro w' hC
          go_simp
          with_reducible rfl
        rotate_left
        refine q_norm (a' := ?_) ?_ ?_
        rotate_left
        · show Act.put _ (some 8) _ = _
          simp only [Act.put, List.setIfInBounds_toArray, List.set_cons_zero, List.set_cons_succ]
          rfl
        refine q_on (v := ?_) (by rfl) ?_ ?_
        rotate_left
        · intro w' hC
          go_simp
          with_reducible rfl
        rotate_left
        refine q_norm (a' := ?_) ?_ ?_
        rotate_left
        · show Act.put _ (some 9) _ = _
          simp only [Act.put, List.setIfInBounds_toArray, List.set_cons_zero, List.set_cons_succ]
          rfl
        refine q_on (v := ?_) (by rfl) ?_ ?_
        rotate_left
        · intro w' hC
          obtain ⟨c0, c1⟩ := two (B1.out.chg hC id)
          go_simp
          with_reducible rfl
        rotate_left
        refine q_norm (a' := ?_) ?_ ?_
        rotate_left
        · show Act.put _ (some 10) _ = _
          simp only [Act.put, List.setIfInBounds_toArray, List.set_cons_zero, List.set_cons_succ]
          rfl
        refine q_on (v := ?_) (by rfl) ?_ ?_
        rotate_left
        · intro w' hC
          go_simp
          with_reducible rfl
        rotate_left
        refine q_norm (a' := ?_) ?_ ?_
        rotate_left
        · show Act.put _ (some 11) _ = _
          simp only [Act.put, List.setIfInBounds_toArray, List.set_cons_zero, List.set_cons_succ]
          rfl
        refine q_on (v := ?_) (by rfl) ?_ ?_
        rotate_left
        · intro w' hC
          go_simp
          with_reducible rfl
        rotate_left
        refine q_norm (a' := ?_) ?_ ?_
        rotate_left
        · show Act.put _ (some 12) _ = _
          simp only [Act.put, List.setIfInBounds_toArray, List.set_cons_zero, List.set_cons_succ]
          rfl
        refine q_on (v := ?_) (by rfl) ?_ ?_
        rotate_left
        · intro w' hC
          go_simp
          with_reducible rfl
        rotate_left
        refine q_norm (a' := ?_) ?_ ?_
        rotate_left
        · show Act.put _ (some 13) _ = _
          simp only [Act.put, List.setIfInBounds_toArray, List.set_cons_zero, List.set_cons_succ]
          rfl
        refine q_on (v := ?_) (by rfl) ?_ ?_
        rotate_left
        · intro w' hC
          go_simp
          with_reducible rfl
        rotate_left
        refine q_norm (a' := ?_) ?_ ?_
        rotate_left
        · show Act.put _ (some 14) _ = _
          simp only [Act.put, List.setIfInBounds_toArray, List.set_cons_zero, List.set_cons_succ]
          rfl
        refine q_on (v := ?_) (by rfl) ?_ ?_
        rotate_left
        · intro w' hC
          obtain ⟨c0, c1⟩ := two (B1.out.chg hC id)
          go_simp
          with_reducible rfl
        rotate_left
        refine q_norm (a' := ?_) ?_ ?_
        rotate_left
        · show Act.put _ (some 15) _ = _
          simp only [Act.put, List.setIfInBounds_toArray, List.set_cons_zero, List.set_cons_succ]
          rfl
        refine q_on (v := ?_) (by rfl) ?_ ?_
        rotate_left
        · intro w' hC
          go_simp
          with_reducible rfl
        rotate_left
        refine q_norm (a' := ?_) ?_ ?_
        rotate_left
        · show Act.put _ (some 16) _ = _
          simp only [Act.put, List.setIfInBounds_toArray, List.set_cons_zero, List.set_cons_succ]
          rfl
        refine q_on (v := ?_) (by rfl) ?_ ?_
        rotate_left
        · intro w' hC
          go_simp
          with_reducible rfl
        rotate_left
        refine q_norm (a' := ?_) ?_ ?_
        rotate_left
        · show Act.put _ (some 17) _ = _
          simp only [Act.put, List.setIfInBounds_toArray, List.set_cons_zero, List.set_cons_succ]
          rfl
        refine q_on (v := ?_) (by rfl) ?_ ?_
        rotate_left
        · intro w' hC
          go_simp
          with_reducible rfl
        rotate_left
        refine q_norm (a' := ?_) ?_ ?_
        rotate_left
        · show Act.put _ (some 18) _ = _
          simp only [Act.put, List.setIfInBounds_toArray, List.set_cons_zero, List.set_cons_succ]
          rfl
        refine q_off (by rfl) ?_
        refine q_norm (a' := ?_) ?_ ?_
        rotate_left
        · show Act.put _ (some 19) _ = _
          simp only [Act.put, List.setIfInBounds_toArray, List.set_cons_zero, List.set_cons_succ]
          rfl
        refine q_off (by rfl) ?_
        refine q_norm (a' := ?_) ?_ ?_
        rotate_left
        · show Act.put _ (some 20) _ = _
          simp only [Act.put, List.setIfInBounds_toArray, List.set_cons_zero, List.set_cons_succ]
          rfl
        refine q_off (by rfl) ?_
        refine q_norm (a' := ?_) ?_ ?_
        rotate_left
        · show Act.put _ (some 21) _ = _
          simp only [Act.put, List.setIfInBounds_toArray, List.set_cons_zero, List.set_cons_succ]
          rfl
        refine q_off (by rfl) ?_
        refine q_norm (a' := ?_) ?_ ?_
        rotate_left
        · show Act.put _ (some 22) _ = _
          simp only [Act.put, List.setIfInBounds_toArray, List.set_cons_zero, List.set_cons_succ]
          rfl
        refine q_off (by rfl) ?_
        refine q_norm (a' := ?_) ?_ ?_
        rotate_left
        · show Act.put _ (some 23) _ = _
          simp only [Act.put, List.setIfInBounds_toArray, List.set_cons_zero, List.set_cons_succ]
          rfl
        refine q_off (by rfl) ?_
        refine q_norm (a' := ?_) ?_ ?_
        rotate_left
        · show Act.put _ (some 24) _ = _
          simp only [Act.put, List.setIfInBounds_toArray, List.set_cons_zero, List.set_cons_succ]
          rfl
        refine q_off (by rfl) ?_
        refine q_norm (a' := ?_) ?_ ?_
        rotate_left
        · show Act.put _ (some 25) _ = _
          simp only [Act.put, List.setIfInBounds_toArray, List.set_cons_zero, List.set_cons_succ]
          rfl
        refine q_on (v := ?_) (by rfl) ?_ ?_
        rotate_left
        · intro w' hC
          go_simp
          with_reducible rfl
        rotate_left
        refine q_norm (a' := ?_) ?_ ?_
        rotate_left
        · show Act.put _ (some 26) _ = _
          simp only [Act.put, List.setIfInBounds_toArray, List.set_cons_zero, List.set_cons_succ]
          rfl
        refine q_on (v := ?_) (by rfl) ?_ ?_
        rotate_left
        · intro w' hC
          go_simp
          with_reducible rfl
        rotate_left
        refine q_norm (a' := ?_) ?_ ?_
        rotate_left
        · show Act.put _ (some 4) _ = _
          simp only [Act.put, List.setIfInBounds_toArray, List.set_cons_zero, List.set_cons_succ]
          rfl
        refine wpQuiet_nil ?_
        intro w' hC
        go_wp2_with fail
        go_ret
        exact ⟨by rw [HE.out]; rfl, HC.out.trans hC⟩
    · have g0 : decide (n ≥ 0) = true := decide_eq_true h0
      have g8 : decide (n < 8) = false := decide_eq_false h8
      have HE : Hid (cov f n x = false) := Lib.hid (decide_eq_false fun h => h8 h.1.2)
      refine q_start (by kernel_rfl) (by kernel_rfl) ?_
      refine q_on (v := ?_) (by rfl) ?_ ?_
      rotate_left
      · intro w' hC
        go_simp
        with_reducible rfl
      rotate_left
      refine q_norm (a' := ?_) ?_ ?_
      rotate_left
      · show Act.put _ (some 5) _ = _
        simp only [Act.put, List.setIfInBounds_toArray, List.set_cons_zero, List.set_cons_succ]
        rfl
      refine q_on (v := ?_) (by rfl) ?_ ?_
      rotate_left
      · intro w' hC
        obtain ⟨c0, c1⟩ := two (B1.out.chg hC id)
        go_simp
        with_reducible rfl
      rotate_left
      refine q_norm (a' := ?_) ?_ ?_
      rotate_left
      · show Act.put _ (some 6) _ = _
        simp only [Act.put, List.setIfInBounds_toArray, List.set_cons_zero, List.set_cons_succ]
        rfl
      refine q_on (v := ?_) (by rfl) ?_ ?_
      rotate_left
      · intro w' hC
        go_simp
        with_reducible rfl
      rotate_left
      refine q_norm (a' := ?_) ?_ ?_
      rotate_left
      · show Act.put _ (some 7) _ = _
        simp only [Act.put, List.setIfInBounds_toArray, List.set_cons_zero, List.set_cons_succ]
        rfl
      refine q_on (v := ?_) (by rfl) ?_ ?_
      rotate_left
      · intro w' hC
        go_simp
        with_reducible rfl
      rotate_left
      refine q_norm (a' := ?_) ?_ ?_
      rotate_left
      · show Act.put _ (some 8) _ = _
        simp only [Act.put, List.setIfInBounds_toArray, List.set_cons_zero, List.set_cons_succ]
        rfl
      refine q_on (v := ?_) (by rfl) ?_ ?_
      rotate_left
      · intro w' hC
        go_simp
        with_reducible rfl
      rotate_left
      refine q_norm (a' := ?_) ?_ ?_
      rotate_left
      · show Act.put _ (some 9) _ = _
        simp only [Act.put, List.setIfInBounds_toArray, List.set_cons_zero, List.set_cons_succ]
        rfl
      refine q_on (v := ?_) (by rfl) ?_ ?_
      rotate_left
      · intro w' hC
        obtain ⟨c0, c1⟩ := two (B1.out.chg hC id)
        go_simp
        with_reducible rfl
      rotate_left
      refine q_norm (a' := ?_) ?_ ?_
      rotate_left
      · show Act.put _ (some 10) _ = _
        simp only [Act.put, List.setIfInBounds_toArray, List.set_cons_zero, List.set_cons_succ]
        rfl
      refine q_on (v := ?_) (by rfl) ?_ ?_
      rotate_left
      · intro w' hC
        go_simp
        with_reducible rfl
      rotate_left
      refine q_norm (a' := ?_) ?_ ?_
      rotate_left
      · show Act.put _ (some 11) _ = _
        simp only [Act.put, List.setIfInBounds_toArray, List.set_cons_zero, List.set_cons_succ]
        rfl
      refine q_on (v := ?_) (by rfl) ?_ ?_
      rotate_left
      · intro w' hC
        go_simp
        with_reducible rfl
      rotate_left
      refine q_norm (a' := ?_) ?_ ?_
      rotate_left
      · show Act.put _ (some 12) _ = _
        simp only [Act.put, List.setIfInBounds_toArray, List.set_cons_zero, List.set_cons_succ]
        rfl
      refine q_on (v := ?_) (by rfl) ?_ ?_
      rotate_left
      · intro w' hC
        go_simp
        with_reducible rfl
      rotate_left
      refine q_norm (a' := ?_) ?_ ?_
      rotate_left
      · show Act.put _ (some 13) _ = _
        simp only [Act.put, List.setIfInBounds_toArray, List.set_cons_zero, List.set_cons_succ]
        rfl
      refine q_off (by rfl) ?_
      refine q_norm (a' := ?_) ?_ ?_
      rotate_left
      · show Act.put _ (some 14) _ = _
        simp only [Act.put, List.setIfInBounds_toArray, List.set_cons_zero, List.set_cons_succ]
        rfl
      refine q_off (by rfl) ?_
      refine q_norm (a' := ?_) ?_ ?_
      rotate_left
      · show Act.put _ (some 15) _ = _
        simp only [Act.put, List.setIfInBounds_toArray, List.set_cons_zero, List.set_cons_succ]
        rfl
      refine q_off (by rfl) ?_
      refine q_norm (a' := ?_) ?_ ?_
      rotate_left
      · show Act.put _ (some 16) _ = _
        simp only [Act.put, List.setIfInBounds_toArray, List.set_cons_zero, List.set_cons_succ]
        rfl
      refine q_on (v := ?_) (by rfl) ?_ ?_
      rotate_left
      · intro w' hC
        go_simp
        with_reducible rfl
      rotate_left
      refine q_norm (a' := ?_) ?_ ?_
      rotate_left
      · show Act.put _ (some 17) _ = _
        simp only [Act.put, List.setIfInBounds_toArray, List.set_cons_zero, List.set_cons_succ]
        rfl
      refine q_on (v := ?_) (by rfl) ?_ ?_
      rotate_left
      · intro w' hC
        go_simp
        with_reducible rfl
      rotate_left
      refine q_norm (a' := ?_) ?_ ?_
      rotate_left
      · show Act.put _ (some 18) _ = _
        simp only [Act.put, List.setIfInBounds_toArray, List.set_cons_zero, List.set_cons_succ]
        rfl
      refine q_off (by rfl) ?_
      refine q_norm (a' := ?_) ?_ ?_
      rotate_left
      · show Act.put _ (some 19) _ = _
        simp only [Act.put, List.setIfInBounds_toArray, List.set_cons_zero, List.set_cons_succ]
        rfl
      refine q_off (by rfl) ?_
      refine q_norm (a' := ?_) ?_ ?_
      rotate_left
      · show Act.put _ (some 20) _ = _
        simp only [Act.put, List.setIfInBounds_toArray, List.set_cons_zero, List.set_cons_succ]
        rfl
      refine q_off (by rfl) ?_
      refine q_norm (a' := ?_) ?_ ?_
      rotate_left
      · show Act.put _ (some 21) _ = _
        simp only [Act.put, List.setIfInBounds_toArray, List.set_cons_zero, List.set_cons_succ]
        rfl
      refine q_off (by rfl) ?_
      refine q_norm (a' := ?_) ?_ ?_
      rotate_left
      · show Act.put _ (some 22) _ = _
        simp only [Act.put, List.setIfInBounds_toArray, List.set_cons_zero, List.set_cons_succ]
        rfl
      refine q_off (by rfl) ?_
      refine q_norm (a' := ?_) ?_ ?_
      rotate_left
      · show Act.put _ (some 23) _ = _
        simp only [Act.put, List.setIfInBounds_toArray, List.set_cons_zero, List.set_cons_succ]
        rfl
      refine q_off (by rfl) ?_
      refine q_norm (a' := ?_) ?_ ?_
      rotate_left
      · show Act.put _ (some 24) _ = _
        simp only [Act.put, List.setIfInBounds_toArray, List.set_cons_zero, List.set_cons_succ]
        rfl
      refine q_off (by rfl) ?_
      refine q_norm (a' := ?_) ?_ ?_
      rotate_left
      · show Act.put _ (some 25) _ = _
        simp only [Act.put, List.setIfInBounds_toArray, List.set_cons_zero, List.set_cons_succ]
        rfl
      refine q_on (v := ?_) (by rfl) ?_ ?_
      rotate_left
      · intro w' hC
        go_simp
        with_reducible rfl
      rotate_left
      refine q_norm (a' := ?_) ?_ ?_
      rotate_left
      · show Act.put _ (some 26) _ = _
        simp only [Act.put, List.setIfInBounds_toArray, List.set_cons_zero, List.set_cons_succ]
        rfl
      refine q_on (v := ?_) (by rfl) ?_ ?_
      rotate_left
      · intro w' hC
        go_simp
        with_reducible rfl
      rotate_left
      refine q_norm (a' := ?_) ?_ ?_
      rotate_left
      · show Act.put _ (some 4) _ = _
        simp only [Act.put, List.setIfInBounds_toArray, List.set_cons_zero, List.set_cons_succ]
        rfl
      refine wpQuiet_nil ?_
      intro w' hC
      go_wp2_with fail
      go_ret
      exact ⟨by rw [HE.out]; rfl, HC.out.trans hC⟩
  · have g0 : decide (n ≥ 0) = false := decide_eq_false h0
    have HE : Hid (cov f n x = false) := Lib.hid (decide_eq_false fun h => h0 h.1.1)
    refine q_start (by kernel_rfl) (by kernel_rfl) ?_
    refine q_on (v := ?_) (by rfl) ?_ ?_
    rotate_left
    · intro w' hC
      go_simp
      with_reducible rfl
    rotate_left
    refine q_norm (a' := ?_) ?_ ?_
    rotate_left
    · show Act.put _ (some 5) _ = _
      simp only [Act.put, List.setIfInBounds_toArray, List.set_cons_zero, List.set_cons_succ]
      rfl
    refine q_on (v := ?_) (by rfl) ?_ ?_
    rotate_left
    · intro w' hC
      obtain ⟨c0, c1⟩ := two (B1.out.chg hC id)
      go_simp
      with_reducible rfl
    rotate_left
    refine q_norm (a' := ?_) ?_ ?_
    rotate_left
    · show Act.put _ (some 6) _ = _
      simp only [Act.put, List.setIfInBounds_toArray, List.set_cons_zero, List.set_cons_succ]
      rfl
    refine q_on (v := ?_) (by rfl) ?_ ?_
    rotate_left
    · intro w' hC
      go_simp
      with_reducible rfl
    rotate_left
    refine q_norm (a' := ?_) ?_ ?_
    rotate_left
    · show Act.put _ (some 7) _ = _
      simp only [Act.put, List.setIfInBounds_toArray, List.set_cons_zero, List.set_cons_succ]
      rfl
    refine q_on (v := ?_) (by rfl) ?_ ?_
    rotate_left
    · intro w' hC
      go_simp
      with_reducible rfl
    rotate_left
    refine q_norm (a' := ?_) ?_ ?_
    rotate_left
    · show Act.put _ (some 8) _ = _
      simp only [Act.put, List.setIfInBounds_toArray, List.set_cons_zero, List.set_cons_succ]
      rfl
    refine q_off (by rfl) ?_
    refine q_norm (a' := ?_) ?_ ?_
    rotate_left
    · show Act.put _ (some 9) _ = _
      simp only [Act.put, List.setIfInBounds_toArray, List.set_cons_zero, List.set_cons_succ]
      rfl
    refine q_off (by rfl) ?_
    refine q_norm (a' := ?_) ?_ ?_
    rotate_left
    · show Act.put _ (some 10) _ = _
      simp only [Act.put, List.setIfInBounds_toArray, List.set_cons_zero, List.set_cons_succ]
      rfl
    refine q_off (by rfl) ?_
    refine q_norm (a' := ?_) ?_ ?_
    rotate_left
    · show Act.put _ (some 11) _ = _
      simp only [Act.put, List.setIfInBounds_toArray, List.set_cons_zero, List.set_cons_succ]
      rfl
    refine q_on (v := ?_) (by rfl) ?_ ?_
    rotate_left
    · intro w' hC
      go_simp
      with_reducible rfl
    rotate_left
    refine q_norm (a' := ?_) ?_ ?_
    rotate_left
    · show Act.put _ (some 12) _ = _
      simp only [Act.put, List.setIfInBounds_toArray, List.set_cons_zero, List.set_cons_succ]
      rfl
    refine q_on (v := ?_) (by rfl) ?_ ?_
    rotate_left
    · intro w' hC
      go_simp
      with_reducible rfl
    rotate_left
    refine q_norm (a' := ?_) ?_ ?_
    rotate_left
    · show Act.put _ (some 13) _ = _
      simp only [Act.put, List.setIfInBounds_toArray, List.set_cons_zero, List.set_cons_succ]
      rfl
    refine q_off (by rfl) ?_
    refine q_norm (a' := ?_) ?_ ?_
    rotate_left
    · show Act.put _ (some 14) _ = _
      simp only [Act.put, List.setIfInBounds_toArray, List.set_cons_zero, List.set_cons_succ]
      rfl
    refine q_off (by rfl) ?_
    refine q_norm (a' := ?_) ?_ ?_
    rotate_left
    · show Act.put _ (some 15) _ = _
      simp only [Act.put, List.setIfInBounds_toArray, List.set_cons_zero, List.set_cons_succ]
      rfl
    refine q_off (by rfl) ?_
    refine q_norm (a' := ?_) ?_ ?_
    rotate_left
    · show Act.put _ (some 16) _ = _
      simp only [Act.put, List.setIfInBounds_toArray, List.set_cons_zero, List.set_cons_succ]
      rfl
    refine q_on (v := ?_) (by rfl) ?_ ?_
    rotate_left
    · intro w' hC
      go_simp
      with_reducible rfl
    rotate_left
    refine q_norm (a' := ?_) ?_ ?_
    rotate_left
    · show Act.put _ (some 17) _ = _
      simp only [Act.put, List.setIfInBounds_toArray, List.set_cons_zero, List.set_cons_succ]
      rfl
    refine q_on (v := ?_) (by rfl) ?_ ?_
    rotate_left
    · intro w' hC
      go_simp
      with_reducible rfl
    rotate_left
    refine q_norm (a' := ?_) ?_ ?_
    rotate_left
    · show Act.put _ (some 18) _ = _
      simp only [Act.put, List.setIfInBounds_toArray, List.set_cons_zero, List.set_cons_succ]
      rfl
    refine q_off (by rfl) ?_
    refine q_norm (a' := ?_) ?_ ?_
    rotate_left
    · show Act.put _ (some 19) _ = _
      simp only [Act.put, List.setIfInBounds_toArray, List.set_cons_zero, List.set_cons_succ]
      rfl
    refine q_off (by rfl) ?_
    refine q_norm (a' := ?_) ?_ ?_
    rotate_left
    · show Act.put _ (some 20) _ = _
      simp only [Act.put, List.setIfInBounds_toArray, List.set_cons_zero, List.set_cons_succ]
      rfl
    refine q_off (by rfl) ?_
    refine q_norm (a' := ?_) ?_ ?_
    rotate_left
    · show Act.put _ (some 21) _ = _
      simp only [Act.put, List.setIfInBounds_toArray, List.set_cons_zero, List.set_cons_succ]
      rfl
    refine q_off (by rfl) ?_
    refine q_norm (a' := ?_) ?_ ?_
    rotate_left
    · show Act.put _ (some 22) _ = _
      simp only [Act.put, List.setIfInBounds_toArray, List.set_cons_zero, List.set_cons_succ]
      rfl
    refine q_off (by rfl) ?_
    refine q_norm (a' := ?_) ?_ ?_
    rotate_left
    · show Act.put _ (some 23) _ = _
      simp only [Act.put, List.setIfInBounds_toArray, List.set_cons_zero, List.set_cons_succ]
      rfl
    refine q_off (by rfl) ?_
    refine q_norm (a' := ?_) ?_ ?_
    rotate_left
    · show Act.put _ (some 24) _ = _
      simp only [Act.put, List.setIfInBounds_toArray, List.set_cons_zero, List.set_cons_succ]
      rfl
    refine q_off (by rfl) ?_
    refine q_norm (a' := ?_) ?_ ?_
    rotate_left
    · show Act.put _ (some 25) _ = _
      simp only [Act.put, List.setIfInBounds_toArray, List.set_cons_zero, List.set_cons_succ]
      rfl
    refine q_on (v := ?_) (by rfl) ?_ ?_
    rotate_left
    · intro w' hC
      go_simp
      with_reducible rfl
    rotate_left
    refine q_norm (a' := ?_) ?_ ?_
    rotate_left
    · show Act.put _ (some 26) _ = _
      simp only [Act.put, List.setIfInBounds_toArray, List.set_cons_zero, List.set_cons_succ]
      rfl
    refine q_on (v := ?_) (by rfl) ?_ ?_
    rotate_left
    · intro w' hC
      go_simp
      with_reducible rfl
    rotate_left
    refine q_norm (a' := ?_) ?_ ?_
    rotate_left
    · show Act.put _ (some 4) _ = _
      simp only [Act.put, List.setIfInBounds_toArray, List.set_cons_zero, List.set_cons_succ]
      rfl
    refine wpQuiet_nil ?_
    intro w' hC
    go_wp2_with fail
    go_ret
    exact ⟨by rw [HE.out]; rfl, HC.out.trans hC⟩
theorem rwith_any (f : Vc) (n x : Int) (w : World) : Calls Tryd.prog 23 #[vec f, dot n x] w fun e w' => e = .returned (vec (wit f n x)) ∧ Chg NoB w w' := by
  by_cases hn : 0 ≤ n ∧ n < 8
  · obtain ⟨k, rfl⟩ := Int.eq_ofNat_of_zero_le hn.1
    have hk : k < 8 := by omega
    have hk2 : (k : Int) < 8 := hn.2
    have hwit : Hid (wit f k x = upd f k (mx (f k) x)) := Lib.hid (by rw [wit, if_pos hn]; rfl)
    clear hn
    rw [hwit.out]
    clear hwit
    go_enter Tryd.func23, Tryd.ntmps23
    go_wp2_with fail
    have B0 := Lib.hid (((Blk.new w 23 (va f)).alloc (Obj.cells #[.int .i64 k, .int .i64 x] 31)).alloc (Obj.cells #[.int .i64 0, .int .i64 0, .int .i64 0, .int .i64 0, .int .i64 0, .int .i64 0, .int .i64 0, .int .i64 0] 23))
    have B1 := Lib.hid ((Blk.new_ (k := w.heap.size + 1) (w.alloc (Obj.cells (va f) 23)) 31 #[.int .i64 k, .int .i64 x] (by simp)).alloc (Obj.cells #[.int .i64 0, .int .i64 0, .int .i64 0, .int .i64 0, .int .i64 0, .int .i64 0, .int .i64 0, .int .i64 0] 23))
    have B2 := Lib.hid (Blk.new_ (k := w.heap.size + 1 + 1) ((w.alloc (Obj.cells (va f) 23)).alloc (Obj.cells #[.int .i64 k, .int .i64 x] 31)) 23 (va fun _ => 0) (by simp))
    have HC := Lib.hid ((((Chg.refl NoB w).alloc (Obj.cells (va f) 23)).alloc (Obj.cells #[.int .i64 k, .int .i64 x] 31)).alloc (Obj.cells #[.int .i64 0, .int .i64 0, .int .i64 0, .int .i64 0, .int .i64 0, .int .i64 0, .int .i64 0, .int .i64 0] 23))
    generalize hW' : ((w.alloc (Obj.cells (va f) 23)).alloc (Obj.cells #[.int .i64 k, .int .i64 x] 31)).alloc (Obj.cells #[.int .i64 0, .int .i64 0, .int .i64 0, .int .i64 0, .int .i64 0, .int .i64 0, .int .i64 0, .int .i64 0] 23) = W' at *
    clear hW'
    have c0 := B1.out.cell 0
    have c1 := B1.out.cell 1
    have hv := (B0.out.cell k).trans (va_get f hk)
    have hf := B0.out.frozen k
    go_wp2_with fail
    refine region_tail 10 (by kernel_rfl) (by kernel_rfl) ?_
    simp only [List.take_succ_cons, List.take_zero, List.drop_succ_cons, List.drop_zero]
    iterate 10 still_step
    refine wpStill_nil ?_
    clear c0 c1 hv hf
    have hv := (B0.out.drew.cell k).trans (va_get f hk)
    have hf := B0.out.drew.frozen k
    have BS := Lib.hid (bset B0.out hk (mx (f k) x))
    have DS := Lib.hid (B2.out.far (p := ⟨w.heap.size, k, none⟩) (show w.heap.size + 1 + 1 ≠ w.heap.size by omega) (.int .i64 (mx (f k) x)))
    have CS := Lib.hid (HC.out.setCell (p := ⟨w.heap.size, k, none⟩) (.inr (Nat.le_refl _)) (.int .i64 (mx (f k) x)))
    obtain ⟨c0, c1, c2, c3, c4, c5, c6, c7⟩ := eight BS.out
    obtain ⟨d0, d1, d2, d3, d4, d5, d6, d7⟩ := eight DS.out
    obtain ⟨f0, f1, f2, f3, f4, f5, f6, f7⟩ := eight_frozen DS.out
    go_wp2_with fail
    exact back_vec rfl (upd f k (mx (f k) x)) rfl (eight_set DS.out _ _ _ _ _ _ _ _).drew rfl ⟨rfl, (eight_chg CS.out (.inr (by omega)) _ _ _ _ _ _ _ _).drew⟩
  · have hwit : Hid (wit f n x = f) := Lib.hid (by rw [wit, if_neg hn])
    rw [hwit.out]
    clear hwit
    go_enter Tryd.func23, Tryd.ntmps23
    go_wp2_with fail
    all_goals exact back_vec rfl f rfl (Blk.new_ (k := w.heap.size + 1 + 1) _ _ _ (by simp)) rfl ⟨rfl, (((Chg.refl NoB w).alloc _).alloc _).alloc _⟩
end Go.Proofs.YthkmocfdpmlllaaDoor
