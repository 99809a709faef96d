/- VectorOrder: the walk. -/
import Derived.Test.YthkmocfdpmlllaaDoorVectorC
import Derived.Test.YthkmocfdpmlllaaDoorVArgs
import Derived.Test.YthkmocfdpmlllaaDoorVectorJoins
import Derived.Test.YthkmocfdpmlllaaDoorWEqStruct
namespace Go.Proofs.YthkmocfdpmlllaaDoor
open Go.RowKit
attribute [local go_sem] max2_mx max_two_ eq_nums

theorem less_is {n x m y : Int} {b : Bool} (h : less n x m y = b) (w : World) : Calls Tryd.prog 17 #[dot n x, dot m y] w fun e w' => e = .returned (.bool b) ∧ Chg NoB w w' := h ▸ less_any n x m y w
theorem veq_of_leq {f g : Vc} (a : leq f g = true) (b : leq g f = true) : veq f g = true := veq_iff.2 fun k hk => by
  have := leq_iff.1 a k hk
  have := leq_iff.1 b k hk
  omega
theorem leq_refl (f : Vc) : leq f f = true := leq_iff.2 fun _ _ => Int.le_refl _
theorem leq_trans {f g h : Vc} (a : leq f g = true) (b : leq g h = true) : leq f h = true := leq_iff.2 fun k hk => Int.le_trans (leq_iff.1 a k hk) (leq_iff.1 b k hk)
theorem less_self (n x : Int) : less n x n x = false := by unfold less; simp
theorem less_swap {n x m y : Int} (h : ¬ (n = m ∧ x = y)) : less n x m y = !less m y n x := by
  unfold less
  by_cases h1 : n < m ∨ n = m ∧ x < y
  · rw [decide_eq_true h1, decide_eq_false (show ¬ (m < n ∨ m = n ∧ y < x) by omega)]; rfl
  · rw [decide_eq_false h1, decide_eq_true (show m < n ∨ m = n ∧ y < x by omega)]; rfl
theorem less_trans {n x m y k z : Int} (a : less n x m y = true) (b : less m y k z = true) : less n x k z = true := by
  unfold less at *
  simp only [decide_eq_true_eq] at *
  omega

/-- A region in the order of the text, from some operation on: the same walk. -/
theorem q_list {P : Program} {ops : Array Oper} {Q : Exit → Act → World → Prop} {w0 : World} : ∀ (l : List Oper) (a : Act) (w : World), Chg NoB w0 w → wpQuiet P ops (Chg NoB w0) (fun a' => ∀ w', Chg NoB w0 w' → Q .normal a' w') l a → wpList P ops Q l a w
  | [], _, w, hC, h => h w hC
  | o :: rest, a, w, hC, h => by
    unfold wpList
    unfold wpQuiet at h
    by_cases hw : Region.wanted o (yielded ops a.tmps) = true
    · rw [if_pos hw] at h ⊢
      exact .inl (Oper.wp_of_quiet (C := Chg NoB w0) hC (fun a' w' hC' hk => q_list rest a' w' hC' hk) h)
    · rw [if_neg hw] at h ⊢
      exact q_list rest _ w hC h
theorem q_start2 {P : Program} {id : Nat} {Q : Exit → Act → World → Prop} {a : Act} {w : World} {l : List Oper} (R : Act → Prop) (hm : P.follows .mixedOrders = true) (hB : Region.lexB .any l.toArray = true)
    (h : wpQuiet P l.toArray (Chg NoB w) R l a) (k : ∀ a' w', R a' → Chg NoB w w' → Q .normal a' w') : (Code.region id l.toArray true).wp P Q a w :=
  wp_region_quiet (C := Chg NoB w) hm hB ((Chg.refl NoB w).drew) (by
    have hmono : ∀ (l' : List Oper) (a : Act), wpQuiet P l.toArray (Chg NoB w) R l' a → wpQuiet P l.toArray (Chg NoB w) (fun a' => ∀ w', Chg NoB w w' → Q .normal a' w') l' a := by
      intro l'
      induction l' with
      | nil => exact fun a h w' hC => k a w' h hC
      | cons o rest ih =>
        intro a h
        unfold wpQuiet at h ⊢
        split at h
        · next hw => rw [if_pos hw]; exact Oper.quiet_mono ih h
        · next hw => rw [if_neg hw]; exact ih _ h
    simpa using hmono l a h)
theorem inf_dot : (Tryd.prog.info? 31).map (·.size) = some 2 := by kernel_rfl
theorem two {w : World} {b : Nat} {n x : Int} (h : Blk w b 31 #[.int .i64 n, .int .i64 x]) : w.cell? ⟨b, 0, none⟩ = some (.int .i64 n) ∧ w.cell? ⟨b, 1, none⟩ = some (.int .i64 x) := ⟨h.cell 0, h.cell 1⟩
theorem eq_dot (a0 a1 b0 b1 : Int) (w : World) : (Op.equalIn 10000 31 (.agg #[.int .i64 a0, .int .i64 a1]) (.agg #[.int .i64 b0, .int .i64 b1])).run Tryd.prog w = .ok (a0 == b0 && a1 == b1) w := by
  refine YthkmocfdpmlllaaDoorW.PrintWords.eqA_of Tryd.underlying31 (by kernel_rfl) ?_
  exact YthkmocfdpmlllaaDoorW.PrintWords.eqf_cons rfl (by kernel_rfl) (by kernel_rfl) (run_equalIn_int w 9998 3 .i64 .i64 a0 b0 Tryd.underlying3) (YthkmocfdpmlllaaDoorW.PrintWords.eqf_last rfl (by kernel_rfl) (by kernel_rfl) (run_equalIn_int w 9998 2 .i64 .i64 a1 b1 Tryd.underlying2))
attribute [local go_sem high] eq_dot
attribute [local irreducible] wpQuiet

set_option maxHeartbeats 16000000 in
theorem vectorOrder_any (n x m y k z : Int) (a b c : Vc) (w : World) : Calls Tryd.prog 7 #[dot n x, dot m y, dot k z, vec a, vec b, vec c] w fun e w' => e = .returned (.bool true) ∧ Chg NoB w w' := by
  go_enter Tryd.func7, Tryd.ntmps7
  go_wp2_with fail
  generalize hW : ((((((w.alloc (Obj.cells #[.int .i64 n, .int .i64 x] 31)).alloc (Obj.cells #[.int .i64 m, .int .i64 y] 31)).alloc (Obj.cells #[.int .i64 k, .int .i64 z] 31)).alloc (Obj.cells (va a) 23)).alloc (Obj.cells (va b) 23)).alloc (Obj.cells (va c) 23)) = W
  have C0 : Hid (Blk W w.heap.size 31 #[.int .i64 n, .int .i64 x]) := Lib.hid (by rw [← hW]; exact (((((Blk.new _ _ _).alloc _).alloc _).alloc _).alloc _).alloc _)
  have C1 : Hid (Blk W (w.heap.size + 1) 31 #[.int .i64 m, .int .i64 y]) := Lib.hid (by rw [← hW]; exact ((((Blk.new_ _ _ _ (by simp)).alloc _).alloc _).alloc _).alloc _)
  have C2 : Hid (Blk W (w.heap.size + 1 + 1) 31 #[.int .i64 k, .int .i64 z]) := Lib.hid (by rw [← hW]; exact (((Blk.new_ _ _ _ (by simp)).alloc _).alloc _).alloc _)
  have C3 : Hid (Blk W (w.heap.size + 1 + 1 + 1) 23 (va a)) := Lib.hid (by rw [← hW]; exact ((Blk.new_ _ _ _ (by simp)).alloc _).alloc _)
  have C4 : Hid (Blk W (w.heap.size + 1 + 1 + 1 + 1) 23 (va b)) := Lib.hid (by rw [← hW]; exact (Blk.new_ _ _ _ (by simp)).alloc _)
  have C5 : Hid (Blk W (w.heap.size + 1 + 1 + 1 + 1 + 1) 23 (va c)) := Lib.hid (by rw [← hW]; exact Blk.new_ _ _ _ (by simp))
  have HW : Hid (Chg NoB w W) := Lib.hid (by rw [← hW]; exact ((((((Chg.refl NoB w).alloc _).alloc _).alloc _).alloc _).alloc _).alloc _)
  clear hW
  generalize hb0 : w.heap.size = b0 at *
  clear hb0
  refine q_start2 (fun a' => ∃ t13 t14 t15 t16 t17 t18 t19 t20 t21 t22 t23 t24 t25 t26 t27 t28 t29 t30 t31 t32 t33 t34 t35 t36 t37 t38 t39 t40 t41 t42 t43 t44 : Value, a' = ⟨#[dot n x, dot m y, dot k z, vec a, vec b, vec c, .pointer (some ⟨b0, 0, none⟩), .pointer (some ⟨b0 + 1, 0, none⟩), .pointer (some ⟨b0 + 1 + 1, 0, none⟩), .pointer (some ⟨b0 + 1 + 1 + 1, 0, none⟩), .pointer (some ⟨b0 + 1 + 1 + 1 + 1, 0, none⟩), .pointer (some ⟨b0 + 1 + 1 + 1 + 1 + 1, 0, none⟩), .bool false, t13, t14, t15, t16, t17, t18, t19, t20, t21, t22, t23, t24, t25, t26, t27, t28, t29, t30, t31, t32, t33, t34, t35, t36, t37, t38, t39, t40, t41, t42, t43, t44, .bool false, undef, undef, undef, undef, undef, undef, undef, undef, undef, undef, undef, undef, undef, undef, undef, undef, undef, undef, undef, undef, undef, undef, undef, undef, undef, undef, undef, undef, undef, undef, undef, undef, undef, undef, undef, undef, undef, undef, undef, undef], []⟩) (by kernel_rfl) (by kernel_rfl) ?_ ?_
  · have S0 := Lib.hid (less_self n x)
    by_cases hd : n = m ∧ x = y
    · have HE : Hid ((n == m && x == y) = true) := Lib.hid (by rw [Bool.and_eq_true, beq_iff_eq, beq_iff_eq]; exact hd)
      have S1 : Hid (less n x m y = false) := Lib.hid (by rw [← hd.1, ← hd.2]; exact less_self n x)
      clear hd
      have he := HE.out
      refine q_on (v := ?_) (by rfl) ?_ ?_
      rotate_left
      · intro w' hC
        obtain ⟨c0, c1⟩ := two (C0.out.chg hC id)
        go_simp
        with_reducible rfl
      rotate_left
      refine q_norm (a' := ?_) ?_ ?_
      rotate_left
      · show Act.put _ (some 13) _ = _
        simp only [Act.put, List.setIfInBounds_toArray, List.set_cons_zero, List.set_cons_succ]
        rfl
      refine q_on (v := ?_) (by rfl) ?_ ?_
      rotate_left
      · intro w' hC
        obtain ⟨c0, c1⟩ := two (C0.out.chg hC id)
        go_simp
        with_reducible rfl
      rotate_left
      refine q_norm (a' := ?_) ?_ ?_
      rotate_left
      · show Act.put _ (some 14) _ = _
        simp only [Act.put, List.setIfInBounds_toArray, List.set_cons_zero, List.set_cons_succ]
        rfl
      refine q_call (f := 17) Tryd.func17 (by kernel_rfl) rfl #[dot n x, dot n x] (by rfl) rfl (by simp only [List.map_toArray, List.map_cons, List.map_nil]; rfl) _ (fun w' hC => q_of hC (less_is S0.out w')) ?_
      refine q_norm (a' := ?_) ?_ ?_
      rotate_left
      · show Act.put _ (some 15) _ = _
        simp only [Act.put, List.setIfInBounds_toArray, List.set_cons_zero, List.set_cons_succ]
        rfl
      refine q_on (v := ?_) (by rfl) ?_ ?_
      rotate_left
      · intro w' hC
        go_simp
        with_reducible rfl
      rotate_left
      refine q_norm (a' := ?_) ?_ ?_
      rotate_left
      · show Act.put _ (some 16) _ = _
        simp only [Act.put, List.setIfInBounds_toArray, List.set_cons_zero, List.set_cons_succ]
        rfl
      refine q_on (v := ?_) (by rfl) ?_ ?_
      rotate_left
      · intro w' hC
        obtain ⟨c0, c1⟩ := two (C0.out.chg hC id)
        go_simp
        with_reducible rfl
      rotate_left
      refine q_norm (a' := ?_) ?_ ?_
      rotate_left
      · show Act.put _ (some 17) _ = _
        simp only [Act.put, List.setIfInBounds_toArray, List.set_cons_zero, List.set_cons_succ]
        rfl
      refine q_on (v := ?_) (by rfl) ?_ ?_
      rotate_left
      · intro w' hC
        obtain ⟨c0, c1⟩ := two (C1.out.chg hC id)
        go_simp
        with_reducible rfl
      rotate_left
      refine q_norm (a' := ?_) ?_ ?_
      rotate_left
      · show Act.put _ (some 18) _ = _
        simp only [Act.put, List.setIfInBounds_toArray, List.set_cons_zero, List.set_cons_succ]
        rfl
      refine q_on (v := ?_) (by rfl) ?_ ?_
      rotate_left
      · intro w' hC
        go_simp
        with_reducible rfl
      rotate_left
      refine q_norm (a' := ?_) ?_ ?_
      rotate_left
      · show Act.put _ (some 19) _ = _
        simp only [Act.put, List.setIfInBounds_toArray, List.set_cons_zero, List.set_cons_succ]
        rfl
      refine q_on (v := ?_) (by rfl) ?_ ?_
      rotate_left
      · intro w' hC
        go_simp
        with_reducible rfl
      rotate_left
      refine q_norm (a' := ?_) ?_ ?_
      rotate_left
      · show Act.put _ (some 20) _ = _
        simp only [Act.put, List.setIfInBounds_toArray, List.set_cons_zero, List.set_cons_succ]
        rfl
      refine q_off (by rfl) ?_
      refine q_norm (a' := ?_) ?_ ?_
      rotate_left
      · show Act.put _ (some 21) _ = _
        simp only [Act.put, List.setIfInBounds_toArray, List.set_cons_zero, List.set_cons_succ]
        rfl
      refine q_off (by rfl) ?_
      refine q_norm (a' := ?_) ?_ ?_
      rotate_left
      · show Act.put _ (some 22) _ = _
        simp only [Act.put, List.setIfInBounds_toArray, List.set_cons_zero, List.set_cons_succ]
        rfl
      refine q_off (by rfl) ?_
      refine q_norm (a' := ?_) ?_ ?_
      rotate_left
      · show Act.put _ (some 23) _ = _
        simp only [Act.put, List.setIfInBounds_toArray, List.set_cons_zero, List.set_cons_succ]
        rfl
      refine q_off (by rfl) ?_
      refine q_norm (a' := ?_) ?_ ?_
      rotate_left
      · show Act.put _ (some 24) _ = _
        simp only [Act.put, List.setIfInBounds_toArray, List.set_cons_zero, List.set_cons_succ]
        rfl
      refine q_off (by rfl) ?_
      refine q_norm (a' := ?_) ?_ ?_
      rotate_left
      · show Act.put _ (some 25) _ = _
        simp only [Act.put, List.setIfInBounds_toArray, List.set_cons_zero, List.set_cons_succ]
        rfl
      refine q_off (by rfl) ?_
      refine q_norm (a' := ?_) ?_ ?_
      rotate_left
      · show Act.put _ (some 26) _ = _
        simp only [Act.put, List.setIfInBounds_toArray, List.set_cons_zero, List.set_cons_succ]
        rfl
      refine q_off (by rfl) ?_
      refine q_norm (a' := ?_) ?_ ?_
      rotate_left
      · show Act.put _ (some 27) _ = _
        simp only [Act.put, List.setIfInBounds_toArray, List.set_cons_zero, List.set_cons_succ]
        rfl
      refine q_on (v := ?_) (by rfl) ?_ ?_
      rotate_left
      · intro w' hC
        go_simp
        with_reducible rfl
      rotate_left
      refine q_norm (a' := ?_) ?_ ?_
      rotate_left
      · show Act.put _ (some 28) _ = _
        simp only [Act.put, List.setIfInBounds_toArray, List.set_cons_zero, List.set_cons_succ]
        rfl
      refine q_on (v := ?_) (by rfl) ?_ ?_
      rotate_left
      · intro w' hC
        go_simp
        with_reducible rfl
      rotate_left
      refine q_norm (a' := ?_) ?_ ?_
      rotate_left
      · show Act.put _ (some 29) _ = _
        simp only [Act.put, List.setIfInBounds_toArray, List.set_cons_zero, List.set_cons_succ]
        rfl
      refine q_on (v := ?_) (by rfl) ?_ ?_
      rotate_left
      · intro w' hC
        go_simp
        with_reducible rfl
      rotate_left
      refine q_norm (a' := ?_) ?_ ?_
      rotate_left
      · show Act.put _ (some 30) _ = _
        simp only [Act.put, List.setIfInBounds_toArray, List.set_cons_zero, List.set_cons_succ]
        rfl
      refine q_on (v := ?_) (by rfl) ?_ ?_
      rotate_left
      · intro w' hC
        obtain ⟨c0, c1⟩ := two (C0.out.chg hC id)
        go_simp
        with_reducible rfl
      rotate_left
      refine q_norm (a' := ?_) ?_ ?_
      rotate_left
      · show Act.put _ (some 31) _ = _
        simp only [Act.put, List.setIfInBounds_toArray, List.set_cons_zero, List.set_cons_succ]
        rfl
      refine q_on (v := ?_) (by rfl) ?_ ?_
      rotate_left
      · intro w' hC
        obtain ⟨c0, c1⟩ := two (C1.out.chg hC id)
        go_simp
        with_reducible rfl
      rotate_left
      refine q_norm (a' := ?_) ?_ ?_
      rotate_left
      · show Act.put _ (some 32) _ = _
        simp only [Act.put, List.setIfInBounds_toArray, List.set_cons_zero, List.set_cons_succ]
        rfl
      refine q_call (f := 17) Tryd.func17 (by kernel_rfl) rfl #[dot n x, dot m y] (by rfl) rfl (by simp only [List.map_toArray, List.map_cons, List.map_nil]; rfl) _ (fun w' hC => q_of hC (less_is S1.out w')) ?_
      refine q_norm (a' := ?_) ?_ ?_
      rotate_left
      · show Act.put _ (some 33) _ = _
        simp only [Act.put, List.setIfInBounds_toArray, List.set_cons_zero, List.set_cons_succ]
        rfl
      refine q_on (v := ?_) (by rfl) ?_ ?_
      rotate_left
      · intro w' hC
        go_simp
        with_reducible rfl
      rotate_left
      refine q_norm (a' := ?_) ?_ ?_
      rotate_left
      · show Act.put _ (some 34) _ = _
        simp only [Act.put, List.setIfInBounds_toArray, List.set_cons_zero, List.set_cons_succ]
        rfl
      refine q_off (by rfl) ?_
      refine q_norm (a' := ?_) ?_ ?_
      rotate_left
      · show Act.put _ (some 35) _ = _
        simp only [Act.put, List.setIfInBounds_toArray, List.set_cons_zero, List.set_cons_succ]
        rfl
      refine q_off (by rfl) ?_
      refine q_norm (a' := ?_) ?_ ?_
      rotate_left
      · show Act.put _ (some 36) _ = _
        simp only [Act.put, List.setIfInBounds_toArray, List.set_cons_zero, List.set_cons_succ]
        rfl
      refine q_off (by rfl) ?_
      refine q_norm (a' := ?_) ?_ ?_
      rotate_left
      · show Act.put _ (some 37) _ = _
        simp only [Act.put, List.setIfInBounds_toArray, List.set_cons_zero, List.set_cons_succ]
        rfl
      refine q_on (v := ?_) (by rfl) ?_ ?_
      rotate_left
      · intro w' hC
        go_simp
        with_reducible rfl
      rotate_left
      refine q_norm (a' := ?_) ?_ ?_
      rotate_left
      · show Act.put _ (some 38) _ = _
        simp only [Act.put, List.setIfInBounds_toArray, List.set_cons_zero, List.set_cons_succ]
        rfl
      refine q_on (v := ?_) (by rfl) ?_ ?_
      rotate_left
      · intro w' hC
        go_simp
        with_reducible rfl
      rotate_left
      refine q_norm (a' := ?_) ?_ ?_
      rotate_left
      · show Act.put _ (some 39) _ = _
        simp only [Act.put, List.setIfInBounds_toArray, List.set_cons_zero, List.set_cons_succ]
        rfl
      refine q_off (by rfl) ?_
      refine q_norm (a' := ?_) ?_ ?_
      rotate_left
      · show Act.put _ (some 40) _ = _
        simp only [Act.put, List.setIfInBounds_toArray, List.set_cons_zero, List.set_cons_succ]
        rfl
      refine q_off (by rfl) ?_
      refine q_norm (a' := ?_) ?_ ?_
      rotate_left
      · show Act.put _ (some 41) _ = _
        simp only [Act.put, List.setIfInBounds_toArray, List.set_cons_zero, List.set_cons_succ]
        rfl
      refine q_off (by rfl) ?_
      refine q_norm (a' := ?_) ?_ ?_
      rotate_left
      · show Act.put _ (some 42) _ = _
        simp only [Act.put, List.setIfInBounds_toArray, List.set_cons_zero, List.set_cons_succ]
        rfl
      refine q_off (by rfl) ?_
      refine q_norm (a' := ?_) ?_ ?_
      rotate_left
      · show Act.put _ (some 43) _ = _
        simp only [Act.put, List.setIfInBounds_toArray, List.set_cons_zero, List.set_cons_succ]
        rfl
      refine q_on (v := ?_) (by rfl) ?_ ?_
      rotate_left
      · intro w' hC
        go_simp
        with_reducible rfl
      rotate_left
      refine q_norm (a' := ?_) ?_ ?_
      rotate_left
      · show Act.put _ (some 44) _ = _
        simp only [Act.put, List.setIfInBounds_toArray, List.set_cons_zero, List.set_cons_succ]
        rfl
      refine q_on (v := ?_) (by rfl) ?_ ?_
      rotate_left
      · intro w' hC
        go_simp
        with_reducible rfl
      rotate_left
      refine q_norm (a' := ?_) ?_ ?_
      rotate_left
      · show Act.put _ (some 45) _ = _
        simp only [Act.put, List.setIfInBounds_toArray, List.set_cons_zero, List.set_cons_succ]
        rfl
      refine wpQuiet_nil ?_
      exact ⟨_, _, _, _, _, _, _, _, _, _, _, _, _, _, _, _, _, _, _, _, _, _, _, _, _, _, _, _, _, _, _, _, rfl⟩
    · have HE : Hid ((n == m && x == y) = false) := Lib.hid (by rw [← Bool.not_eq_true, Bool.and_eq_true, beq_iff_eq, beq_iff_eq]; exact hd)
      have HSW := Lib.hid (less_swap hd)
      clear hd
      have he := HE.out
      cases hq : less n x m y with
      | false =>
        have HQ := Lib.hid hq
        have HV : Hid (less m y n x = true) := Lib.hid (by have := HSW.out; rw [hq] at this; simpa using this)
        clear hq
        refine q_on (v := ?_) (by rfl) ?_ ?_
        rotate_left
        · intro w' hC
          obtain ⟨c0, c1⟩ := two (C0.out.chg hC id)
          go_simp
          with_reducible rfl
        rotate_left
        refine q_norm (a' := ?_) ?_ ?_
        rotate_left
        · show Act.put _ (some 13) _ = _
          simp only [Act.put, List.setIfInBounds_toArray, List.set_cons_zero, List.set_cons_succ]
          rfl
        refine q_on (v := ?_) (by rfl) ?_ ?_
        rotate_left
        · intro w' hC
          obtain ⟨c0, c1⟩ := two (C0.out.chg hC id)
          go_simp
          with_reducible rfl
        rotate_left
        refine q_norm (a' := ?_) ?_ ?_
        rotate_left
        · show Act.put _ (some 14) _ = _
          simp only [Act.put, List.setIfInBounds_toArray, List.set_cons_zero, List.set_cons_succ]
          rfl
        refine q_call (f := 17) Tryd.func17 (by kernel_rfl) rfl #[dot n x, dot n x] (by rfl) rfl (by simp only [List.map_toArray, List.map_cons, List.map_nil]; rfl) _ (fun w' hC => q_of hC (less_is S0.out w')) ?_
        refine q_norm (a' := ?_) ?_ ?_
        rotate_left
        · show Act.put _ (some 15) _ = _
          simp only [Act.put, List.setIfInBounds_toArray, List.set_cons_zero, List.set_cons_succ]
          rfl
        refine q_on (v := ?_) (by rfl) ?_ ?_
        rotate_left
        · intro w' hC
          go_simp
          with_reducible rfl
        rotate_left
        refine q_norm (a' := ?_) ?_ ?_
        rotate_left
        · show Act.put _ (some 16) _ = _
          simp only [Act.put, List.setIfInBounds_toArray, List.set_cons_zero, List.set_cons_succ]
          rfl
        refine q_on (v := ?_) (by rfl) ?_ ?_
        rotate_left
        · intro w' hC
          obtain ⟨c0, c1⟩ := two (C0.out.chg hC id)
          go_simp
          with_reducible rfl
        rotate_left
        refine q_norm (a' := ?_) ?_ ?_
        rotate_left
        · show Act.put _ (some 17) _ = _
          simp only [Act.put, List.setIfInBounds_toArray, List.set_cons_zero, List.set_cons_succ]
          rfl
        refine q_on (v := ?_) (by rfl) ?_ ?_
        rotate_left
        · intro w' hC
          obtain ⟨c0, c1⟩ := two (C1.out.chg hC id)
          go_simp
          with_reducible rfl
        rotate_left
        refine q_norm (a' := ?_) ?_ ?_
        rotate_left
        · show Act.put _ (some 18) _ = _
          simp only [Act.put, List.setIfInBounds_toArray, List.set_cons_zero, List.set_cons_succ]
          rfl
        refine q_on (v := ?_) (by rfl) ?_ ?_
        rotate_left
        · intro w' hC
          go_simp
          with_reducible rfl
        rotate_left
        refine q_norm (a' := ?_) ?_ ?_
        rotate_left
        · show Act.put _ (some 19) _ = _
          simp only [Act.put, List.setIfInBounds_toArray, List.set_cons_zero, List.set_cons_succ]
          rfl
        refine q_on (v := ?_) (by rfl) ?_ ?_
        rotate_left
        · intro w' hC
          go_simp
          with_reducible rfl
        rotate_left
        refine q_norm (a' := ?_) ?_ ?_
        rotate_left
        · show Act.put _ (some 20) _ = _
          simp only [Act.put, List.setIfInBounds_toArray, List.set_cons_zero, List.set_cons_succ]
          rfl
        refine q_on (v := ?_) (by rfl) ?_ ?_
        rotate_left
        · intro w' hC
          obtain ⟨c0, c1⟩ := two (C0.out.chg hC id)
          go_simp
          with_reducible rfl
        rotate_left
        refine q_norm (a' := ?_) ?_ ?_
        rotate_left
        · show Act.put _ (some 21) _ = _
          simp only [Act.put, List.setIfInBounds_toArray, List.set_cons_zero, List.set_cons_succ]
          rfl
        refine q_on (v := ?_) (by rfl) ?_ ?_
        rotate_left
        · intro w' hC
          obtain ⟨c0, c1⟩ := two (C1.out.chg hC id)
          go_simp
          with_reducible rfl
        rotate_left
        refine q_norm (a' := ?_) ?_ ?_
        rotate_left
        · show Act.put _ (some 22) _ = _
          simp only [Act.put, List.setIfInBounds_toArray, List.set_cons_zero, List.set_cons_succ]
          rfl
        refine q_call (f := 17) Tryd.func17 (by kernel_rfl) rfl #[dot n x, dot m y] (by rfl) rfl (by simp only [List.map_toArray, List.map_cons, List.map_nil]; rfl) _ (fun w' hC => q_of hC (less_is HQ.out w')) ?_
        refine q_norm (a' := ?_) ?_ ?_
        rotate_left
        · show Act.put _ (some 23) _ = _
          simp only [Act.put, List.setIfInBounds_toArray, List.set_cons_zero, List.set_cons_succ]
          rfl
        refine q_on (v := ?_) (by rfl) ?_ ?_
        rotate_left
        · intro w' hC
          obtain ⟨c0, c1⟩ := two (C1.out.chg hC id)
          go_simp
          with_reducible rfl
        rotate_left
        refine q_norm (a' := ?_) ?_ ?_
        rotate_left
        · show Act.put _ (some 24) _ = _
          simp only [Act.put, List.setIfInBounds_toArray, List.set_cons_zero, List.set_cons_succ]
          rfl
        refine q_on (v := ?_) (by rfl) ?_ ?_
        rotate_left
        · intro w' hC
          obtain ⟨c0, c1⟩ := two (C0.out.chg hC id)
          go_simp
          with_reducible rfl
        rotate_left
        refine q_norm (a' := ?_) ?_ ?_
        rotate_left
        · show Act.put _ (some 25) _ = _
          simp only [Act.put, List.setIfInBounds_toArray, List.set_cons_zero, List.set_cons_succ]
          rfl
        refine q_call (f := 17) Tryd.func17 (by kernel_rfl) rfl #[dot m y, dot n x] (by rfl) rfl (by simp only [List.map_toArray, List.map_cons, List.map_nil]; rfl) _ (fun w' hC => q_of hC (less_is HV.out w')) ?_
        refine q_norm (a' := ?_) ?_ ?_
        rotate_left
        · show Act.put _ (some 26) _ = _
          simp only [Act.put, List.setIfInBounds_toArray, List.set_cons_zero, List.set_cons_succ]
          rfl
        refine q_on (v := ?_) (by rfl) ?_ ?_
        rotate_left
        · intro w' hC
          go_simp
          with_reducible rfl
        rotate_left
        refine q_norm (a' := ?_) ?_ ?_
        rotate_left
        · show Act.put _ (some 27) _ = _
          simp only [Act.put, List.setIfInBounds_toArray, List.set_cons_zero, List.set_cons_succ]
          rfl
        refine q_on (v := ?_) (by rfl) ?_ ?_
        rotate_left
        · intro w' hC
          go_simp
          with_reducible rfl
        rotate_left
        refine q_norm (a' := ?_) ?_ ?_
        rotate_left
        · show Act.put _ (some 28) _ = _
          simp only [Act.put, List.setIfInBounds_toArray, List.set_cons_zero, List.set_cons_succ]
          rfl
        refine q_on (v := ?_) (by rfl) ?_ ?_
        rotate_left
        · intro w' hC
          go_simp
          with_reducible rfl
        rotate_left
        refine q_norm (a' := ?_) ?_ ?_
        rotate_left
        · show Act.put _ (some 29) _ = _
          simp only [Act.put, List.setIfInBounds_toArray, List.set_cons_zero, List.set_cons_succ]
          rfl
        refine q_on (v := ?_) (by rfl) ?_ ?_
        rotate_left
        · intro w' hC
          go_simp
          with_reducible rfl
        rotate_left
        refine q_norm (a' := ?_) ?_ ?_
        rotate_left
        · show Act.put _ (some 30) _ = _
          simp only [Act.put, List.setIfInBounds_toArray, List.set_cons_zero, List.set_cons_succ]
          rfl
        refine q_on (v := ?_) (by rfl) ?_ ?_
        rotate_left
        · intro w' hC
          obtain ⟨c0, c1⟩ := two (C0.out.chg hC id)
          go_simp
          with_reducible rfl
        rotate_left
        refine q_norm (a' := ?_) ?_ ?_
        rotate_left
        · show Act.put _ (some 31) _ = _
          simp only [Act.put, List.setIfInBounds_toArray, List.set_cons_zero, List.set_cons_succ]
          rfl
        refine q_on (v := ?_) (by rfl) ?_ ?_
        rotate_left
        · intro w' hC
          obtain ⟨c0, c1⟩ := two (C1.out.chg hC id)
          go_simp
          with_reducible rfl
        rotate_left
        refine q_norm (a' := ?_) ?_ ?_
        rotate_left
        · show Act.put _ (some 32) _ = _
          simp only [Act.put, List.setIfInBounds_toArray, List.set_cons_zero, List.set_cons_succ]
          rfl
        refine q_call (f := 17) Tryd.func17 (by kernel_rfl) rfl #[dot n x, dot m y] (by rfl) rfl (by simp only [List.map_toArray, List.map_cons, List.map_nil]; rfl) _ (fun w' hC => q_of hC (less_is HQ.out w')) ?_
        refine q_norm (a' := ?_) ?_ ?_
        rotate_left
        · show Act.put _ (some 33) _ = _
          simp only [Act.put, List.setIfInBounds_toArray, List.set_cons_zero, List.set_cons_succ]
          rfl
        refine q_on (v := ?_) (by rfl) ?_ ?_
        rotate_left
        · intro w' hC
          go_simp
          with_reducible rfl
        rotate_left
        refine q_norm (a' := ?_) ?_ ?_
        rotate_left
        · show Act.put _ (some 34) _ = _
          simp only [Act.put, List.setIfInBounds_toArray, List.set_cons_zero, List.set_cons_succ]
          rfl
        refine q_off (by rfl) ?_
        refine q_norm (a' := ?_) ?_ ?_
        rotate_left
        · show Act.put _ (some 35) _ = _
          simp only [Act.put, List.setIfInBounds_toArray, List.set_cons_zero, List.set_cons_succ]
          rfl
        refine q_off (by rfl) ?_
        refine q_norm (a' := ?_) ?_ ?_
        rotate_left
        · show Act.put _ (some 36) _ = _
          simp only [Act.put, List.setIfInBounds_toArray, List.set_cons_zero, List.set_cons_succ]
          rfl
        refine q_off (by rfl) ?_
        refine q_norm (a' := ?_) ?_ ?_
        rotate_left
        · show Act.put _ (some 37) _ = _
          simp only [Act.put, List.setIfInBounds_toArray, List.set_cons_zero, List.set_cons_succ]
          rfl
        refine q_on (v := ?_) (by rfl) ?_ ?_
        rotate_left
        · intro w' hC
          go_simp
          with_reducible rfl
        rotate_left
        refine q_norm (a' := ?_) ?_ ?_
        rotate_left
        · show Act.put _ (some 38) _ = _
          simp only [Act.put, List.setIfInBounds_toArray, List.set_cons_zero, List.set_cons_succ]
          rfl
        refine q_on (v := ?_) (by rfl) ?_ ?_
        rotate_left
        · intro w' hC
          go_simp
          with_reducible rfl
        rotate_left
        refine q_norm (a' := ?_) ?_ ?_
        rotate_left
        · show Act.put _ (some 39) _ = _
          simp only [Act.put, List.setIfInBounds_toArray, List.set_cons_zero, List.set_cons_succ]
          rfl
        refine q_off (by rfl) ?_
        refine q_norm (a' := ?_) ?_ ?_
        rotate_left
        · show Act.put _ (some 40) _ = _
          simp only [Act.put, List.setIfInBounds_toArray, List.set_cons_zero, List.set_cons_succ]
          rfl
        refine q_off (by rfl) ?_
        refine q_norm (a' := ?_) ?_ ?_
        rotate_left
        · show Act.put _ (some 41) _ = _
          simp only [Act.put, List.setIfInBounds_toArray, List.set_cons_zero, List.set_cons_succ]
          rfl
        refine q_off (by rfl) ?_
        refine q_norm (a' := ?_) ?_ ?_
        rotate_left
        · show Act.put _ (some 42) _ = _
          simp only [Act.put, List.setIfInBounds_toArray, List.set_cons_zero, List.set_cons_succ]
          rfl
        refine q_off (by rfl) ?_
        refine q_norm (a' := ?_) ?_ ?_
        rotate_left
        · show Act.put _ (some 43) _ = _
          simp only [Act.put, List.setIfInBounds_toArray, List.set_cons_zero, List.set_cons_succ]
          rfl
        refine q_on (v := ?_) (by rfl) ?_ ?_
        rotate_left
        · intro w' hC
          go_simp
          with_reducible rfl
        rotate_left
        refine q_norm (a' := ?_) ?_ ?_
        rotate_left
        · show Act.put _ (some 44) _ = _
          simp only [Act.put, List.setIfInBounds_toArray, List.set_cons_zero, List.set_cons_succ]
          rfl
        refine q_on (v := ?_) (by rfl) ?_ ?_
        rotate_left
        · intro w' hC
          go_simp
          with_reducible rfl
        rotate_left
        refine q_norm (a' := ?_) ?_ ?_
        rotate_left
        · show Act.put _ (some 45) _ = _
          simp only [Act.put, List.setIfInBounds_toArray, List.set_cons_zero, List.set_cons_succ]
          rfl
        refine wpQuiet_nil ?_
        exact ⟨_, _, _, _, _, _, _, _, _, _, _, _, _, _, _, _, _, _, _, _, _, _, _, _, _, _, _, _, _, _, _, _, rfl⟩
      | true =>
        have HQ := Lib.hid hq
        have HV : Hid (less m y n x = false) := Lib.hid (by have := HSW.out; rw [hq] at this; simpa using this)
        cases hr : less m y k z with
        | false =>
          have HR := Lib.hid hr
          clear hq hr
          refine q_on (v := ?_) (by rfl) ?_ ?_
          rotate_left
          · intro w' hC
            obtain ⟨c0, c1⟩ := two (C0.out.chg hC id)
            go_simp
            with_reducible rfl
          rotate_left
          refine q_norm (a' := ?_) ?_ ?_
          rotate_left
          · show Act.put _ (some 13) _ = _
            simp only [Act.put, List.setIfInBounds_toArray, List.set_cons_zero, List.set_cons_succ]
            rfl
          refine q_on (v := ?_) (by rfl) ?_ ?_
          rotate_left
          · intro w' hC
            obtain ⟨c0, c1⟩ := two (C0.out.chg hC id)
            go_simp
            with_reducible rfl
          rotate_left
          refine q_norm (a' := ?_) ?_ ?_
          rotate_left
          · show Act.put _ (some 14) _ = _
            simp only [Act.put, List.setIfInBounds_toArray, List.set_cons_zero, List.set_cons_succ]
            rfl
          refine q_call (f := 17) Tryd.func17 (by kernel_rfl) rfl #[dot n x, dot n x] (by rfl) rfl (by simp only [List.map_toArray, List.map_cons, List.map_nil]; rfl) _ (fun w' hC => q_of hC (less_is S0.out w')) ?_
          refine q_norm (a' := ?_) ?_ ?_
          rotate_left
          · show Act.put _ (some 15) _ = _
            simp only [Act.put, List.setIfInBounds_toArray, List.set_cons_zero, List.set_cons_succ]
            rfl
          refine q_on (v := ?_) (by rfl) ?_ ?_
          rotate_left
          · intro w' hC
            go_simp
            with_reducible rfl
          rotate_left
          refine q_norm (a' := ?_) ?_ ?_
          rotate_left
          · show Act.put _ (some 16) _ = _
            simp only [Act.put, List.setIfInBounds_toArray, List.set_cons_zero, List.set_cons_succ]
            rfl
          refine q_on (v := ?_) (by rfl) ?_ ?_
          rotate_left
          · intro w' hC
            obtain ⟨c0, c1⟩ := two (C0.out.chg hC id)
            go_simp
            with_reducible rfl
          rotate_left
          refine q_norm (a' := ?_) ?_ ?_
          rotate_left
          · show Act.put _ (some 17) _ = _
            simp only [Act.put, List.setIfInBounds_toArray, List.set_cons_zero, List.set_cons_succ]
            rfl
          refine q_on (v := ?_) (by rfl) ?_ ?_
          rotate_left
          · intro w' hC
            obtain ⟨c0, c1⟩ := two (C1.out.chg hC id)
            go_simp
            with_reducible rfl
          rotate_left
          refine q_norm (a' := ?_) ?_ ?_
          rotate_left
          · show Act.put _ (some 18) _ = _
            simp only [Act.put, List.setIfInBounds_toArray, List.set_cons_zero, List.set_cons_succ]
            rfl
          refine q_on (v := ?_) (by rfl) ?_ ?_
          rotate_left
          · intro w' hC
            go_simp
            with_reducible rfl
          rotate_left
          refine q_norm (a' := ?_) ?_ ?_
          rotate_left
          · show Act.put _ (some 19) _ = _
            simp only [Act.put, List.setIfInBounds_toArray, List.set_cons_zero, List.set_cons_succ]
            rfl
          refine q_on (v := ?_) (by rfl) ?_ ?_
          rotate_left
          · intro w' hC
            go_simp
            with_reducible rfl
          rotate_left
          refine q_norm (a' := ?_) ?_ ?_
          rotate_left
          · show Act.put _ (some 20) _ = _
            simp only [Act.put, List.setIfInBounds_toArray, List.set_cons_zero, List.set_cons_succ]
            rfl
          refine q_on (v := ?_) (by rfl) ?_ ?_
          rotate_left
          · intro w' hC
            obtain ⟨c0, c1⟩ := two (C0.out.chg hC id)
            go_simp
            with_reducible rfl
          rotate_left
          refine q_norm (a' := ?_) ?_ ?_
          rotate_left
          · show Act.put _ (some 21) _ = _
            simp only [Act.put, List.setIfInBounds_toArray, List.set_cons_zero, List.set_cons_succ]
            rfl
          refine q_on (v := ?_) (by rfl) ?_ ?_
          rotate_left
          · intro w' hC
            obtain ⟨c0, c1⟩ := two (C1.out.chg hC id)
            go_simp
            with_reducible rfl
          rotate_left
          refine q_norm (a' := ?_) ?_ ?_
          rotate_left
          · show Act.put _ (some 22) _ = _
            simp only [Act.put, List.setIfInBounds_toArray, List.set_cons_zero, List.set_cons_succ]
            rfl
          refine q_call (f := 17) Tryd.func17 (by kernel_rfl) rfl #[dot n x, dot m y] (by rfl) rfl (by simp only [List.map_toArray, List.map_cons, List.map_nil]; rfl) _ (fun w' hC => q_of hC (less_is HQ.out w')) ?_
          refine q_norm (a' := ?_) ?_ ?_
          rotate_left
          · show Act.put _ (some 23) _ = _
            simp only [Act.put, List.setIfInBounds_toArray, List.set_cons_zero, List.set_cons_succ]
            rfl
          refine q_on (v := ?_) (by rfl) ?_ ?_
          rotate_left
          · intro w' hC
            obtain ⟨c0, c1⟩ := two (C1.out.chg hC id)
            go_simp
            with_reducible rfl
          rotate_left
          refine q_norm (a' := ?_) ?_ ?_
          rotate_left
          · show Act.put _ (some 24) _ = _
            simp only [Act.put, List.setIfInBounds_toArray, List.set_cons_zero, List.set_cons_succ]
            rfl
          refine q_on (v := ?_) (by rfl) ?_ ?_
          rotate_left
          · intro w' hC
            obtain ⟨c0, c1⟩ := two (C0.out.chg hC id)
            go_simp
            with_reducible rfl
          rotate_left
          refine q_norm (a' := ?_) ?_ ?_
          rotate_left
          · show Act.put _ (some 25) _ = _
            simp only [Act.put, List.setIfInBounds_toArray, List.set_cons_zero, List.set_cons_succ]
            rfl
          refine q_call (f := 17) Tryd.func17 (by kernel_rfl) rfl #[dot m y, dot n x] (by rfl) rfl (by simp only [List.map_toArray, List.map_cons, List.map_nil]; rfl) _ (fun w' hC => q_of hC (less_is HV.out w')) ?_
          refine q_norm (a' := ?_) ?_ ?_
          rotate_left
          · show Act.put _ (some 26) _ = _
            simp only [Act.put, List.setIfInBounds_toArray, List.set_cons_zero, List.set_cons_succ]
            rfl
          refine q_on (v := ?_) (by rfl) ?_ ?_
          rotate_left
          · intro w' hC
            go_simp
            with_reducible rfl
          rotate_left
          refine q_norm (a' := ?_) ?_ ?_
          rotate_left
          · show Act.put _ (some 27) _ = _
            simp only [Act.put, List.setIfInBounds_toArray, List.set_cons_zero, List.set_cons_succ]
            rfl
          refine q_on (v := ?_) (by rfl) ?_ ?_
          rotate_left
          · intro w' hC
            go_simp
            with_reducible rfl
          rotate_left
          refine q_norm (a' := ?_) ?_ ?_
          rotate_left
          · show Act.put _ (some 28) _ = _
            simp only [Act.put, List.setIfInBounds_toArray, List.set_cons_zero, List.set_cons_succ]
            rfl
          refine q_on (v := ?_) (by rfl) ?_ ?_
          rotate_left
          · intro w' hC
            go_simp
            with_reducible rfl
          rotate_left
          refine q_norm (a' := ?_) ?_ ?_
          rotate_left
          · show Act.put _ (some 29) _ = _
            simp only [Act.put, List.setIfInBounds_toArray, List.set_cons_zero, List.set_cons_succ]
            rfl
          refine q_on (v := ?_) (by rfl) ?_ ?_
          rotate_left
          · intro w' hC
            go_simp
            with_reducible rfl
          rotate_left
          refine q_norm (a' := ?_) ?_ ?_
          rotate_left
          · show Act.put _ (some 30) _ = _
            simp only [Act.put, List.setIfInBounds_toArray, List.set_cons_zero, List.set_cons_succ]
            rfl
          refine q_on (v := ?_) (by rfl) ?_ ?_
          rotate_left
          · intro w' hC
            obtain ⟨c0, c1⟩ := two (C0.out.chg hC id)
            go_simp
            with_reducible rfl
          rotate_left
          refine q_norm (a' := ?_) ?_ ?_
          rotate_left
          · show Act.put _ (some 31) _ = _
            simp only [Act.put, List.setIfInBounds_toArray, List.set_cons_zero, List.set_cons_succ]
            rfl
          refine q_on (v := ?_) (by rfl) ?_ ?_
          rotate_left
          · intro w' hC
            obtain ⟨c0, c1⟩ := two (C1.out.chg hC id)
            go_simp
            with_reducible rfl
          rotate_left
          refine q_norm (a' := ?_) ?_ ?_
          rotate_left
          · show Act.put _ (some 32) _ = _
            simp only [Act.put, List.setIfInBounds_toArray, List.set_cons_zero, List.set_cons_succ]
            rfl
          refine q_call (f := 17) Tryd.func17 (by kernel_rfl) rfl #[dot n x, dot m y] (by rfl) rfl (by simp only [List.map_toArray, List.map_cons, List.map_nil]; rfl) _ (fun w' hC => q_of hC (less_is HQ.out w')) ?_
          refine q_norm (a' := ?_) ?_ ?_
          rotate_left
          · show Act.put _ (some 33) _ = _
            simp only [Act.put, List.setIfInBounds_toArray, List.set_cons_zero, List.set_cons_succ]
            rfl
          refine q_on (v := ?_) (by rfl) ?_ ?_
          rotate_left
          · intro w' hC
            go_simp
            with_reducible rfl
          rotate_left
          refine q_norm (a' := ?_) ?_ ?_
          rotate_left
          · show Act.put _ (some 34) _ = _
            simp only [Act.put, List.setIfInBounds_toArray, List.set_cons_zero, List.set_cons_succ]
            rfl
          refine q_on (v := ?_) (by rfl) ?_ ?_
          rotate_left
          · intro w' hC
            obtain ⟨c0, c1⟩ := two (C1.out.chg hC id)
            go_simp
            with_reducible rfl
          rotate_left
          refine q_norm (a' := ?_) ?_ ?_
          rotate_left
          · show Act.put _ (some 35) _ = _
            simp only [Act.put, List.setIfInBounds_toArray, List.set_cons_zero, List.set_cons_succ]
            rfl
          refine q_on (v := ?_) (by rfl) ?_ ?_
          rotate_left
          · intro w' hC
            obtain ⟨c0, c1⟩ := two (C2.out.chg hC id)
            go_simp
            with_reducible rfl
          rotate_left
          refine q_norm (a' := ?_) ?_ ?_
          rotate_left
          · show Act.put _ (some 36) _ = _
            simp only [Act.put, List.setIfInBounds_toArray, List.set_cons_zero, List.set_cons_succ]
            rfl
          refine q_call (f := 17) Tryd.func17 (by kernel_rfl) rfl #[dot m y, dot k z] (by rfl) rfl (by simp only [List.map_toArray, List.map_cons, List.map_nil]; rfl) _ (fun w' hC => q_of hC (less_is HR.out w')) ?_
          refine q_norm (a' := ?_) ?_ ?_
          rotate_left
          · show Act.put _ (some 37) _ = _
            simp only [Act.put, List.setIfInBounds_toArray, List.set_cons_zero, List.set_cons_succ]
            rfl
          refine q_on (v := ?_) (by rfl) ?_ ?_
          rotate_left
          · intro w' hC
            go_simp
            with_reducible rfl
          rotate_left
          refine q_norm (a' := ?_) ?_ ?_
          rotate_left
          · show Act.put _ (some 38) _ = _
            simp only [Act.put, List.setIfInBounds_toArray, List.set_cons_zero, List.set_cons_succ]
            rfl
          refine q_on (v := ?_) (by rfl) ?_ ?_
          rotate_left
          · intro w' hC
            go_simp
            with_reducible rfl
          rotate_left
          refine q_norm (a' := ?_) ?_ ?_
          rotate_left
          · show Act.put _ (some 39) _ = _
            simp only [Act.put, List.setIfInBounds_toArray, List.set_cons_zero, List.set_cons_succ]
            rfl
          refine q_off (by rfl) ?_
          refine q_norm (a' := ?_) ?_ ?_
          rotate_left
          · show Act.put _ (some 40) _ = _
            simp only [Act.put, List.setIfInBounds_toArray, List.set_cons_zero, List.set_cons_succ]
            rfl
          refine q_off (by rfl) ?_
          refine q_norm (a' := ?_) ?_ ?_
          rotate_left
          · show Act.put _ (some 41) _ = _
            simp only [Act.put, List.setIfInBounds_toArray, List.set_cons_zero, List.set_cons_succ]
            rfl
          refine q_off (by rfl) ?_
          refine q_norm (a' := ?_) ?_ ?_
          rotate_left
          · show Act.put _ (some 42) _ = _
            simp only [Act.put, List.setIfInBounds_toArray, List.set_cons_zero, List.set_cons_succ]
            rfl
          refine q_off (by rfl) ?_
          refine q_norm (a' := ?_) ?_ ?_
          rotate_left
          · show Act.put _ (some 43) _ = _
            simp only [Act.put, List.setIfInBounds_toArray, List.set_cons_zero, List.set_cons_succ]
            rfl
          refine q_on (v := ?_) (by rfl) ?_ ?_
          rotate_left
          · intro w' hC
            go_simp
            with_reducible rfl
          rotate_left
          refine q_norm (a' := ?_) ?_ ?_
          rotate_left
          · show Act.put _ (some 44) _ = _
            simp only [Act.put, List.setIfInBounds_toArray, List.set_cons_zero, List.set_cons_succ]
            rfl
          refine q_on (v := ?_) (by rfl) ?_ ?_
          rotate_left
          · intro w' hC
            go_simp
            with_reducible rfl
          rotate_left
          refine q_norm (a' := ?_) ?_ ?_
          rotate_left
          · show Act.put _ (some 45) _ = _
            simp only [Act.put, List.setIfInBounds_toArray, List.set_cons_zero, List.set_cons_succ]
            rfl
          refine wpQuiet_nil ?_
          exact ⟨_, _, _, _, _, _, _, _, _, _, _, _, _, _, _, _, _, _, _, _, _, _, _, _, _, _, _, _, _, _, _, _, rfl⟩
        | true =>
          have HR := Lib.hid hr
          have HT := Lib.hid (less_trans hq hr)
          clear hq hr
          refine q_on (v := ?_) (by rfl) ?_ ?_
          rotate_left
          · intro w' hC
            obtain ⟨c0, c1⟩ := two (C0.out.chg hC id)
            go_simp
            with_reducible rfl
          rotate_left
          refine q_norm (a' := ?_) ?_ ?_
          rotate_left
          · show Act.put _ (some 13) _ = _
            simp only [Act.put, List.setIfInBounds_toArray, List.set_cons_zero, List.set_cons_succ]
            rfl
          refine q_on (v := ?_) (by rfl) ?_ ?_
          rotate_left
          · intro w' hC
            obtain ⟨c0, c1⟩ := two (C0.out.chg hC id)
            go_simp
            with_reducible rfl
          rotate_left
          refine q_norm (a' := ?_) ?_ ?_
          rotate_left
          · show Act.put _ (some 14) _ = _
            simp only [Act.put, List.setIfInBounds_toArray, List.set_cons_zero, List.set_cons_succ]
            rfl
          refine q_call (f := 17) Tryd.func17 (by kernel_rfl) rfl #[dot n x, dot n x] (by rfl) rfl (by simp only [List.map_toArray, List.map_cons, List.map_nil]; rfl) _ (fun w' hC => q_of hC (less_is S0.out w')) ?_
          refine q_norm (a' := ?_) ?_ ?_
          rotate_left
          · show Act.put _ (some 15) _ = _
            simp only [Act.put, List.setIfInBounds_toArray, List.set_cons_zero, List.set_cons_succ]
            rfl
          refine q_on (v := ?_) (by rfl) ?_ ?_
          rotate_left
          · intro w' hC
            go_simp
            with_reducible rfl
          rotate_left
          refine q_norm (a' := ?_) ?_ ?_
          rotate_left
          · show Act.put _ (some 16) _ = _
            simp only [Act.put, List.setIfInBounds_toArray, List.set_cons_zero, List.set_cons_succ]
            rfl
          refine q_on (v := ?_) (by rfl) ?_ ?_
          rotate_left
          · intro w' hC
            obtain ⟨c0, c1⟩ := two (C0.out.chg hC id)
            go_simp
            with_reducible rfl
          rotate_left
          refine q_norm (a' := ?_) ?_ ?_
          rotate_left
          · show Act.put _ (some 17) _ = _
            simp only [Act.put, List.setIfInBounds_toArray, List.set_cons_zero, List.set_cons_succ]
            rfl
          refine q_on (v := ?_) (by rfl) ?_ ?_
          rotate_left
          · intro w' hC
            obtain ⟨c0, c1⟩ := two (C1.out.chg hC id)
            go_simp
            with_reducible rfl
          rotate_left
          refine q_norm (a' := ?_) ?_ ?_
          rotate_left
          · show Act.put _ (some 18) _ = _
            simp only [Act.put, List.setIfInBounds_toArray, List.set_cons_zero, List.set_cons_succ]
            rfl
          refine q_on (v := ?_) (by rfl) ?_ ?_
          rotate_left
          · intro w' hC
            go_simp
            with_reducible rfl
          rotate_left
          refine q_norm (a' := ?_) ?_ ?_
          rotate_left
          · show Act.put _ (some 19) _ = _
            simp only [Act.put, List.setIfInBounds_toArray, List.set_cons_zero, List.set_cons_succ]
            rfl
          refine q_on (v := ?_) (by rfl) ?_ ?_
          rotate_left
          · intro w' hC
            go_simp
            with_reducible rfl
          rotate_left
          refine q_norm (a' := ?_) ?_ ?_
          rotate_left
          · show Act.put _ (some 20) _ = _
            simp only [Act.put, List.setIfInBounds_toArray, List.set_cons_zero, List.set_cons_succ]
            rfl
          refine q_on (v := ?_) (by rfl) ?_ ?_
          rotate_left
          · intro w' hC
            obtain ⟨c0, c1⟩ := two (C0.out.chg hC id)
            go_simp
            with_reducible rfl
          rotate_left
          refine q_norm (a' := ?_) ?_ ?_
          rotate_left
          · show Act.put _ (some 21) _ = _
            simp only [Act.put, List.setIfInBounds_toArray, List.set_cons_zero, List.set_cons_succ]
            rfl
          refine q_on (v := ?_) (by rfl) ?_ ?_
          rotate_left
          · intro w' hC
            obtain ⟨c0, c1⟩ := two (C1.out.chg hC id)
            go_simp
            with_reducible rfl
          rotate_left
          refine q_norm (a' := ?_) ?_ ?_
          rotate_left
          · show Act.put _ (some 22) _ = _
            simp only [Act.put, List.setIfInBounds_toArray, List.set_cons_zero, List.set_cons_succ]
            rfl
          refine q_call (f := 17) Tryd.func17 (by kernel_rfl) rfl #[dot n x, dot m y] (by rfl) rfl (by simp only [List.map_toArray, List.map_cons, List.map_nil]; rfl) _ (fun w' hC => q_of hC (less_is HQ.out w')) ?_
          refine q_norm (a' := ?_) ?_ ?_
          rotate_left
          · show Act.put _ (some 23) _ = _
            simp only [Act.put, List.setIfInBounds_toArray, List.set_cons_zero, List.set_cons_succ]
            rfl
          refine q_on (v := ?_) (by rfl) ?_ ?_
          rotate_left
          · intro w' hC
            obtain ⟨c0, c1⟩ := two (C1.out.chg hC id)
            go_simp
            with_reducible rfl
          rotate_left
          refine q_norm (a' := ?_) ?_ ?_
          rotate_left
          · show Act.put _ (some 24) _ = _
            simp only [Act.put, List.setIfInBounds_toArray, List.set_cons_zero, List.set_cons_succ]
            rfl
          refine q_on (v := ?_) (by rfl) ?_ ?_
          rotate_left
          · intro w' hC
            obtain ⟨c0, c1⟩ := two (C0.out.chg hC id)
            go_simp
            with_reducible rfl
          rotate_left
          refine q_norm (a' := ?_) ?_ ?_
          rotate_left
          · show Act.put _ (some 25) _ = _
            simp only [Act.put, List.setIfInBounds_toArray, List.set_cons_zero, List.set_cons_succ]
            rfl
          refine q_call (f := 17) Tryd.func17 (by kernel_rfl) rfl #[dot m y, dot n x] (by rfl) rfl (by simp only [List.map_toArray, List.map_cons, List.map_nil]; rfl) _ (fun w' hC => q_of hC (less_is HV.out w')) ?_
          refine q_norm (a' := ?_) ?_ ?_
          rotate_left
          · show Act.put _ (some 26) _ = _
            simp only [Act.put, List.setIfInBounds_toArray, List.set_cons_zero, List.set_cons_succ]
            rfl
          refine q_on (v := ?_) (by rfl) ?_ ?_
          rotate_left
          · intro w' hC
            go_simp
            with_reducible rfl
          rotate_left
          refine q_norm (a' := ?_) ?_ ?_
          rotate_left
          · show Act.put _ (some 27) _ = _
            simp only [Act.put, List.setIfInBounds_toArray, List.set_cons_zero, List.set_cons_succ]
            rfl
          refine q_on (v := ?_) (by rfl) ?_ ?_
          rotate_left
          · intro w' hC
            go_simp
            with_reducible rfl
          rotate_left
          refine q_norm (a' := ?_) ?_ ?_
          rotate_left
          · show Act.put _ (some 28) _ = _
            simp only [Act.put, List.setIfInBounds_toArray, List.set_cons_zero, List.set_cons_succ]
            rfl
          refine q_on (v := ?_) (by rfl) ?_ ?_
          rotate_left
          · intro w' hC
            go_simp
            with_reducible rfl
          rotate_left
          refine q_norm (a' := ?_) ?_ ?_
          rotate_left
          · show Act.put _ (some 29) _ = _
            simp only [Act.put, List.setIfInBounds_toArray, List.set_cons_zero, List.set_cons_succ]
            rfl
          refine q_on (v := ?_) (by rfl) ?_ ?_
          rotate_left
          · intro w' hC
            go_simp
            with_reducible rfl
          rotate_left
          refine q_norm (a' := ?_) ?_ ?_
          rotate_left
          · show Act.put _ (some 30) _ = _
            simp only [Act.put, List.setIfInBounds_toArray, List.set_cons_zero, List.set_cons_succ]
            rfl
          refine q_on (v := ?_) (by rfl) ?_ ?_
          rotate_left
          · intro w' hC
            obtain ⟨c0, c1⟩ := two (C0.out.chg hC id)
            go_simp
            with_reducible rfl
          rotate_left
          refine q_norm (a' := ?_) ?_ ?_
          rotate_left
          · show Act.put _ (some 31) _ = _
            simp only [Act.put, List.setIfInBounds_toArray, List.set_cons_zero, List.set_cons_succ]
            rfl
          refine q_on (v := ?_) (by rfl) ?_ ?_
          rotate_left
          · intro w' hC
            obtain ⟨c0, c1⟩ := two (C1.out.chg hC id)
            go_simp
            with_reducible rfl
          rotate_left
          refine q_norm (a' := ?_) ?_ ?_
          rotate_left
          · show Act.put _ (some 32) _ = _
            simp only [Act.put, List.setIfInBounds_toArray, List.set_cons_zero, List.set_cons_succ]
            rfl
          refine q_call (f := 17) Tryd.func17 (by kernel_rfl) rfl #[dot n x, dot m y] (by rfl) rfl (by simp only [List.map_toArray, List.map_cons, List.map_nil]; rfl) _ (fun w' hC => q_of hC (less_is HQ.out w')) ?_
          refine q_norm (a' := ?_) ?_ ?_
          rotate_left
          · show Act.put _ (some 33) _ = _
            simp only [Act.put, List.setIfInBounds_toArray, List.set_cons_zero, List.set_cons_succ]
            rfl
          refine q_on (v := ?_) (by rfl) ?_ ?_
          rotate_left
          · intro w' hC
            go_simp
            with_reducible rfl
          rotate_left
          refine q_norm (a' := ?_) ?_ ?_
          rotate_left
          · show Act.put _ (some 34) _ = _
            simp only [Act.put, List.setIfInBounds_toArray, List.set_cons_zero, List.set_cons_succ]
            rfl
          refine q_on (v := ?_) (by rfl) ?_ ?_
          rotate_left
          · intro w' hC
            obtain ⟨c0, c1⟩ := two (C1.out.chg hC id)
            go_simp
            with_reducible rfl
          rotate_left
          refine q_norm (a' := ?_) ?_ ?_
          rotate_left
          · show Act.put _ (some 35) _ = _
            simp only [Act.put, List.setIfInBounds_toArray, List.set_cons_zero, List.set_cons_succ]
            rfl
          refine q_on (v := ?_) (by rfl) ?_ ?_
          rotate_left
          · intro w' hC
            obtain ⟨c0, c1⟩ := two (C2.out.chg hC id)
            go_simp
            with_reducible rfl
          rotate_left
          refine q_norm (a' := ?_) ?_ ?_
          rotate_left
          · show Act.put _ (some 36) _ = _
            simp only [Act.put, List.setIfInBounds_toArray, List.set_cons_zero, List.set_cons_succ]
            rfl
          refine q_call (f := 17) Tryd.func17 (by kernel_rfl) rfl #[dot m y, dot k z] (by rfl) rfl (by simp only [List.map_toArray, List.map_cons, List.map_nil]; rfl) _ (fun w' hC => q_of hC (less_is HR.out w')) ?_
          refine q_norm (a' := ?_) ?_ ?_
          rotate_left
          · show Act.put _ (some 37) _ = _
            simp only [Act.put, List.setIfInBounds_toArray, List.set_cons_zero, List.set_cons_succ]
            rfl
          refine q_on (v := ?_) (by rfl) ?_ ?_
          rotate_left
          · intro w' hC
            go_simp
            with_reducible rfl
          rotate_left
          refine q_norm (a' := ?_) ?_ ?_
          rotate_left
          · show Act.put _ (some 38) _ = _
            simp only [Act.put, List.setIfInBounds_toArray, List.set_cons_zero, List.set_cons_succ]
            rfl
          refine q_on (v := ?_) (by rfl) ?_ ?_
          rotate_left
          · intro w' hC
            go_simp
            with_reducible rfl
          rotate_left
          refine q_norm (a' := ?_) ?_ ?_
          rotate_left
          · show Act.put _ (some 39) _ = _
            simp only [Act.put, List.setIfInBounds_toArray, List.set_cons_zero, List.set_cons_succ]
            rfl
          refine q_on (v := ?_) (by rfl) ?_ ?_
          rotate_left
          · intro w' hC
            obtain ⟨c0, c1⟩ := two (C0.out.chg hC id)
            go_simp
            with_reducible rfl
          rotate_left
          refine q_norm (a' := ?_) ?_ ?_
          rotate_left
          · show Act.put _ (some 40) _ = _
            simp only [Act.put, List.setIfInBounds_toArray, List.set_cons_zero, List.set_cons_succ]
            rfl
          refine q_on (v := ?_) (by rfl) ?_ ?_
          rotate_left
          · intro w' hC
            obtain ⟨c0, c1⟩ := two (C2.out.chg hC id)
            go_simp
            with_reducible rfl
          rotate_left
          refine q_norm (a' := ?_) ?_ ?_
          rotate_left
          · show Act.put _ (some 41) _ = _
            simp only [Act.put, List.setIfInBounds_toArray, List.set_cons_zero, List.set_cons_succ]
            rfl
          refine q_call (f := 17) Tryd.func17 (by kernel_rfl) rfl #[dot n x, dot k z] (by rfl) rfl (by simp only [List.map_toArray, List.map_cons, List.map_nil]; rfl) _ (fun w' hC => q_of hC (less_is HT.out w')) ?_
          refine q_norm (a' := ?_) ?_ ?_
          rotate_left
          · show Act.put _ (some 42) _ = _
            simp only [Act.put, List.setIfInBounds_toArray, List.set_cons_zero, List.set_cons_succ]
            rfl
          refine q_on (v := ?_) (by rfl) ?_ ?_
          rotate_left
          · intro w' hC
            go_simp
            with_reducible rfl
          rotate_left
          refine q_norm (a' := ?_) ?_ ?_
          rotate_left
          · show Act.put _ (some 43) _ = _
            simp only [Act.put, List.setIfInBounds_toArray, List.set_cons_zero, List.set_cons_succ]
            rfl
          refine q_on (v := ?_) (by rfl) ?_ ?_
          rotate_left
          · intro w' hC
            go_simp
            with_reducible rfl
          rotate_left
          refine q_norm (a' := ?_) ?_ ?_
          rotate_left
          · show Act.put _ (some 44) _ = _
            simp only [Act.put, List.setIfInBounds_toArray, List.set_cons_zero, List.set_cons_succ]
            rfl
          refine q_on (v := ?_) (by rfl) ?_ ?_
          rotate_left
          · intro w' hC
            go_simp
            with_reducible rfl
          rotate_left
          refine q_norm (a' := ?_) ?_ ?_
          rotate_left
          · show Act.put _ (some 45) _ = _
            simp only [Act.put, List.setIfInBounds_toArray, List.set_cons_zero, List.set_cons_succ]
            rfl
          refine wpQuiet_nil ?_
          exact ⟨_, _, _, _, _, _, _, _, _, _, _, _, _, _, _, _, _, _, _, _, _, _, _, _, _, _, _, _, _, _, _, _, rfl⟩
  · rintro _ w1 ⟨t13, t14, t15, t16, t17, t18, t19, t20, t21, t22, t23, t24, t25, t26, t27, t28, t29, t30, t31, t32, t33, t34, t35, t36, t37, t38, t39, t40, t41, t42, t43, t44, rfl⟩ hC1
    have D3 := Lib.hid (C3.out.chg hC1 id)
    have HW1 := Lib.hid (HW.out.trans hC1)
    obtain ⟨c0, c1, c2, c3, c4, c5, c6, c7⟩ := eight D3.out
    have D4 := Lib.hid (C4.out.chg hC1 id)
    have D5 := Lib.hid (C5.out.chg hC1 id)
    clear hC1 C0 C1 C2 C3 C4 C5 HW
    go_wp2_with fail
    refine (leq_is (leq_refl a) _).mono ?_
    clear c0 c1 c2 c3 c4 c5 c6 c7
    rintro e w2 ⟨rfl, hC2⟩
    have E3 := Lib.hid (D3.out.chg hC2 id)
    have E4 := Lib.hid (D4.out.chg hC2 id)
    have E5 := Lib.hid (D5.out.chg hC2 id)
    have HW2 := Lib.hid (HW1.out.trans hC2)
    clear hC2 D3 D4 D5 HW1
    rename_i hK
    refine hK _ _ ?_
    clear hK
    cases hs : leq a b with
    | false =>
      have HS := Lib.hid hs
      clear hs
      refine q_list _ _ _ (Chg.refl NoB _) ?_
      refine q_on (v := ?_) (by rfl) ?_ ?_
      rotate_left
      · intro w' hC
        go_simp
        with_reducible rfl
      rotate_left
      refine q_norm (a' := ?_) ?_ ?_
      rotate_left
      · show Act.put _ (some 49) _ = _
        simp only [Act.put, List.setIfInBounds_toArray, List.set_cons_zero, List.set_cons_succ]
        rfl
      refine q_on (v := ?_) (by rfl) ?_ ?_
      rotate_left
      · intro w' hC
        obtain ⟨c0, c1, c2, c3, c4, c5, c6, c7⟩ := eight (E3.out.chg hC id)
        go_simp
        with_reducible rfl
      rotate_left
      refine q_norm (a' := ?_) ?_ ?_
      rotate_left
      · show Act.put _ (some 50) _ = _
        simp only [Act.put, List.setIfInBounds_toArray, List.set_cons_zero, List.set_cons_succ]
        rfl
      refine q_on (v := ?_) (by rfl) ?_ ?_
      rotate_left
      · intro w' hC
        obtain ⟨c0, c1, c2, c3, c4, c5, c6, c7⟩ := eight (E4.out.chg hC id)
        go_simp
        with_reducible rfl
      rotate_left
      refine q_norm (a' := ?_) ?_ ?_
      rotate_left
      · show Act.put _ (some 51) _ = _
        simp only [Act.put, List.setIfInBounds_toArray, List.set_cons_zero, List.set_cons_succ]
        rfl
      refine q_call (f := 10) Tryd.func10 (by kernel_rfl) rfl #[vec a, vec b] (by rfl) rfl (by simp only [List.map_toArray, List.map_cons, List.map_nil]; rfl) _ (fun w' hC => q_of hC (leq_is HS.out w')) ?_
      refine q_norm (a' := ?_) ?_ ?_
      rotate_left
      · show Act.put _ (some 52) _ = _
        simp only [Act.put, List.setIfInBounds_toArray, List.set_cons_zero, List.set_cons_succ]
        rfl
      refine q_on (v := ?_) (by rfl) ?_ ?_
      rotate_left
      · intro w' hC
        go_simp
        with_reducible rfl
      rotate_left
      refine q_norm (a' := ?_) ?_ ?_
      rotate_left
      · show Act.put _ (some 53) _ = _
        simp only [Act.put, List.setIfInBounds_toArray, List.set_cons_zero, List.set_cons_succ]
        rfl
      refine q_on (v := ?_) (by rfl) ?_ ?_
      rotate_left
      · intro w' hC
        go_simp
        with_reducible rfl
      rotate_left
      refine q_norm (a' := ?_) ?_ ?_
      rotate_left
      · show Act.put _ (some 54) _ = _
        simp only [Act.put, List.setIfInBounds_toArray, List.set_cons_zero, List.set_cons_succ]
        rfl
      refine q_off (by rfl) ?_
      refine q_norm (a' := ?_) ?_ ?_
      rotate_left
      · show Act.put _ (some 55) _ = _
        simp only [Act.put, List.setIfInBounds_toArray, List.set_cons_zero, List.set_cons_succ]
        rfl
      refine q_off (by rfl) ?_
      refine q_norm (a' := ?_) ?_ ?_
      rotate_left
      · show Act.put _ (some 56) _ = _
        simp only [Act.put, List.setIfInBounds_toArray, List.set_cons_zero, List.set_cons_succ]
        rfl
      refine q_off (by rfl) ?_
      refine q_norm (a' := ?_) ?_ ?_
      rotate_left
      · show Act.put _ (some 57) _ = _
        simp only [Act.put, List.setIfInBounds_toArray, List.set_cons_zero, List.set_cons_succ]
        rfl
      refine q_off (by rfl) ?_
      refine q_norm (a' := ?_) ?_ ?_
      rotate_left
      · show Act.put _ (some 58) _ = _
        simp only [Act.put, List.setIfInBounds_toArray, List.set_cons_zero, List.set_cons_succ]
        rfl
      refine q_on (v := ?_) (by rfl) ?_ ?_
      rotate_left
      · intro w' hC
        go_simp
        with_reducible rfl
      rotate_left
      refine q_norm (a' := ?_) ?_ ?_
      rotate_left
      · show Act.put _ (some 59) _ = _
        simp only [Act.put, List.setIfInBounds_toArray, List.set_cons_zero, List.set_cons_succ]
        rfl
      refine q_on (v := ?_) (by rfl) ?_ ?_
      rotate_left
      · intro w' hC
        go_simp
        with_reducible rfl
      rotate_left
      refine q_norm (a' := ?_) ?_ ?_
      rotate_left
      · show Act.put _ (some 60) _ = _
        simp only [Act.put, List.setIfInBounds_toArray, List.set_cons_zero, List.set_cons_succ]
        rfl
      refine q_off (by rfl) ?_
      refine q_norm (a' := ?_) ?_ ?_
      rotate_left
      · show Act.put _ (some 61) _ = _
        simp only [Act.put, List.setIfInBounds_toArray, List.set_cons_zero, List.set_cons_succ]
        rfl
      refine q_off (by rfl) ?_
      refine q_norm (a' := ?_) ?_ ?_
      rotate_left
      · show Act.put _ (some 62) _ = _
        simp only [Act.put, List.setIfInBounds_toArray, List.set_cons_zero, List.set_cons_succ]
        rfl
      refine q_off (by rfl) ?_
      refine q_norm (a' := ?_) ?_ ?_
      rotate_left
      · show Act.put _ (some 63) _ = _
        simp only [Act.put, List.setIfInBounds_toArray, List.set_cons_zero, List.set_cons_succ]
        rfl
      refine q_on (v := ?_) (by rfl) ?_ ?_
      rotate_left
      · intro w' hC
        go_simp
        with_reducible rfl
      rotate_left
      refine q_norm (a' := ?_) ?_ ?_
      rotate_left
      · show Act.put _ (some 64) _ = _
        simp only [Act.put, List.setIfInBounds_toArray, List.set_cons_zero, List.set_cons_succ]
        rfl
      refine q_on (v := ?_) (by rfl) ?_ ?_
      rotate_left
      · intro w' hC
        go_simp
        with_reducible rfl
      rotate_left
      refine q_norm (a' := ?_) ?_ ?_
      rotate_left
      · show Act.put _ (some 65) _ = _
        simp only [Act.put, List.setIfInBounds_toArray, List.set_cons_zero, List.set_cons_succ]
        rfl
      refine q_on (v := ?_) (by rfl) ?_ ?_
      rotate_left
      · intro w' hC
        go_simp
        with_reducible rfl
      rotate_left
      refine q_norm (a' := ?_) ?_ ?_
      rotate_left
      · show Act.put _ (some 66) _ = _
        simp only [Act.put, List.setIfInBounds_toArray, List.set_cons_zero, List.set_cons_succ]
        rfl
      refine q_on (v := ?_) (by rfl) ?_ ?_
      rotate_left
      · intro w' hC
        obtain ⟨c0, c1, c2, c3, c4, c5, c6, c7⟩ := eight (E3.out.chg hC id)
        go_simp
        with_reducible rfl
      rotate_left
      refine q_norm (a' := ?_) ?_ ?_
      rotate_left
      · show Act.put _ (some 67) _ = _
        simp only [Act.put, List.setIfInBounds_toArray, List.set_cons_zero, List.set_cons_succ]
        rfl
      refine q_on (v := ?_) (by rfl) ?_ ?_
      rotate_left
      · intro w' hC
        obtain ⟨c0, c1, c2, c3, c4, c5, c6, c7⟩ := eight (E4.out.chg hC id)
        go_simp
        with_reducible rfl
      rotate_left
      refine q_norm (a' := ?_) ?_ ?_
      rotate_left
      · show Act.put _ (some 68) _ = _
        simp only [Act.put, List.setIfInBounds_toArray, List.set_cons_zero, List.set_cons_succ]
        rfl
      refine q_call (f := 10) Tryd.func10 (by kernel_rfl) rfl #[vec a, vec b] (by rfl) rfl (by simp only [List.map_toArray, List.map_cons, List.map_nil]; rfl) _ (fun w' hC => q_of hC (leq_is HS.out w')) ?_
      refine q_norm (a' := ?_) ?_ ?_
      rotate_left
      · show Act.put _ (some 69) _ = _
        simp only [Act.put, List.setIfInBounds_toArray, List.set_cons_zero, List.set_cons_succ]
        rfl
      refine q_on (v := ?_) (by rfl) ?_ ?_
      rotate_left
      · intro w' hC
        go_simp
        with_reducible rfl
      rotate_left
      refine q_norm (a' := ?_) ?_ ?_
      rotate_left
      · show Act.put _ (some 70) _ = _
        simp only [Act.put, List.setIfInBounds_toArray, List.set_cons_zero, List.set_cons_succ]
        rfl
      refine q_on (v := ?_) (by rfl) ?_ ?_
      rotate_left
      · intro w' hC
        go_simp
        with_reducible rfl
      rotate_left
      refine q_norm (a' := ?_) ?_ ?_
      rotate_left
      · show Act.put _ (some 71) _ = _
        simp only [Act.put, List.setIfInBounds_toArray, List.set_cons_zero, List.set_cons_succ]
        rfl
      refine q_off (by rfl) ?_
      refine q_norm (a' := ?_) ?_ ?_
      rotate_left
      · show Act.put _ (some 72) _ = _
        simp only [Act.put, List.setIfInBounds_toArray, List.set_cons_zero, List.set_cons_succ]
        rfl
      refine q_off (by rfl) ?_
      refine q_norm (a' := ?_) ?_ ?_
      rotate_left
      · show Act.put _ (some 73) _ = _
        simp only [Act.put, List.setIfInBounds_toArray, List.set_cons_zero, List.set_cons_succ]
        rfl
      refine q_off (by rfl) ?_
      refine q_norm (a' := ?_) ?_ ?_
      rotate_left
      · show Act.put _ (some 74) _ = _
        simp only [Act.put, List.setIfInBounds_toArray, List.set_cons_zero, List.set_cons_succ]
        rfl
      refine q_off (by rfl) ?_
      refine q_norm (a' := ?_) ?_ ?_
      rotate_left
      · show Act.put _ (some 75) _ = _
        simp only [Act.put, List.setIfInBounds_toArray, List.set_cons_zero, List.set_cons_succ]
        rfl
      refine q_on (v := ?_) (by rfl) ?_ ?_
      rotate_left
      · intro w' hC
        go_simp
        with_reducible rfl
      rotate_left
      refine q_norm (a' := ?_) ?_ ?_
      rotate_left
      · show Act.put _ (some 76) _ = _
        simp only [Act.put, List.setIfInBounds_toArray, List.set_cons_zero, List.set_cons_succ]
        rfl
      refine q_on (v := ?_) (by rfl) ?_ ?_
      rotate_left
      · intro w' hC
        go_simp
        with_reducible rfl
      rotate_left
      refine q_norm (a' := ?_) ?_ ?_
      rotate_left
      · show Act.put _ (some 77) _ = _
        simp only [Act.put, List.setIfInBounds_toArray, List.set_cons_zero, List.set_cons_succ]
        rfl
      refine q_off (by rfl) ?_
      refine q_norm (a' := ?_) ?_ ?_
      rotate_left
      · show Act.put _ (some 78) _ = _
        simp only [Act.put, List.setIfInBounds_toArray, List.set_cons_zero, List.set_cons_succ]
        rfl
      refine q_off (by rfl) ?_
      refine q_norm (a' := ?_) ?_ ?_
      rotate_left
      · show Act.put _ (some 79) _ = _
        simp only [Act.put, List.setIfInBounds_toArray, List.set_cons_zero, List.set_cons_succ]
        rfl
      refine q_off (by rfl) ?_
      refine q_norm (a' := ?_) ?_ ?_
      rotate_left
      · show Act.put _ (some 80) _ = _
        simp only [Act.put, List.setIfInBounds_toArray, List.set_cons_zero, List.set_cons_succ]
        rfl
      refine q_on (v := ?_) (by rfl) ?_ ?_
      rotate_left
      · intro w' hC
        go_simp
        with_reducible rfl
      rotate_left
      refine q_norm (a' := ?_) ?_ ?_
      rotate_left
      · show Act.put _ (some 81) _ = _
        simp only [Act.put, List.setIfInBounds_toArray, List.set_cons_zero, List.set_cons_succ]
        rfl
      refine q_on (v := ?_) (by rfl) ?_ ?_
      rotate_left
      · intro w' hC
        go_simp
        with_reducible rfl
      rotate_left
      refine q_norm (a' := ?_) ?_ ?_
      rotate_left
      · show Act.put _ (some 82) _ = _
        simp only [Act.put, List.setIfInBounds_toArray, List.set_cons_zero, List.set_cons_succ]
        rfl
      refine q_on (v := ?_) (by rfl) ?_ ?_
      rotate_left
      · intro w' hC
        go_simp
        with_reducible rfl
      rotate_left
      refine q_norm (a' := ?_) ?_ ?_
      rotate_left
      · show Act.put _ (some 83) _ = _
        simp only [Act.put, List.setIfInBounds_toArray, List.set_cons_zero, List.set_cons_succ]
        rfl
      refine q_call (f := 11) Tryd.func11 (by kernel_rfl) rfl #[] (by rfl) rfl (by simp only [List.map_toArray, List.map_nil]) _ (fun w' hC => q_of hC (awake_any w')) ?_
      refine q_norm (a' := ?_) ?_ ?_
      rotate_left
      · show Act.put _ (some 84) _ = _
        simp only [Act.put, List.setIfInBounds_toArray, List.set_cons_zero, List.set_cons_succ]
        rfl
      refine q_on (v := ?_) (by rfl) ?_ ?_
      rotate_left
      · intro w' hC
        go_simp
        with_reducible rfl
      rotate_left
      refine q_norm (a' := ?_) ?_ ?_
      rotate_left
      · show Act.put _ (some 85) _ = _
        simp only [Act.put, List.setIfInBounds_toArray, List.set_cons_zero, List.set_cons_succ]
        rfl
      refine q_on (v := ?_) (by rfl) ?_ ?_
      rotate_left
      · intro w' hC
        go_simp
        with_reducible rfl
      rotate_left
      refine q_norm (a' := ?_) ?_ ?_
      rotate_left
      · show Act.put _ (some 12) _ = _
        simp only [Act.put, List.setIfInBounds_toArray, List.set_cons_zero, List.set_cons_succ]
        rfl
      refine wpQuiet_nil ?_
      intro w' hC
      go_wp2_with fail
      go_ret
      exact ⟨rfl, HW2.out.trans hC⟩
    | true =>
      have HS := Lib.hid hs
      cases ht : leq b a with
      | false =>
        have HT := Lib.hid ht
        clear ht
        cases hu : leq b c with
        | false =>
          have HU := Lib.hid hu
          clear hu hs
          refine q_list _ _ _ (Chg.refl NoB _) ?_
          refine q_on (v := ?_) (by rfl) ?_ ?_
          rotate_left
          · intro w' hC
            go_simp
            with_reducible rfl
          rotate_left
          refine q_norm (a' := ?_) ?_ ?_
          rotate_left
          · show Act.put _ (some 49) _ = _
            simp only [Act.put, List.setIfInBounds_toArray, List.set_cons_zero, List.set_cons_succ]
            rfl
          refine q_on (v := ?_) (by rfl) ?_ ?_
          rotate_left
          · intro w' hC
            obtain ⟨c0, c1, c2, c3, c4, c5, c6, c7⟩ := eight (E3.out.chg hC id)
            go_simp
            with_reducible rfl
          rotate_left
          refine q_norm (a' := ?_) ?_ ?_
          rotate_left
          · show Act.put _ (some 50) _ = _
            simp only [Act.put, List.setIfInBounds_toArray, List.set_cons_zero, List.set_cons_succ]
            rfl
          refine q_on (v := ?_) (by rfl) ?_ ?_
          rotate_left
          · intro w' hC
            obtain ⟨c0, c1, c2, c3, c4, c5, c6, c7⟩ := eight (E4.out.chg hC id)
            go_simp
            with_reducible rfl
          rotate_left
          refine q_norm (a' := ?_) ?_ ?_
          rotate_left
          · show Act.put _ (some 51) _ = _
            simp only [Act.put, List.setIfInBounds_toArray, List.set_cons_zero, List.set_cons_succ]
            rfl
          refine q_call (f := 10) Tryd.func10 (by kernel_rfl) rfl #[vec a, vec b] (by rfl) rfl (by simp only [List.map_toArray, List.map_cons, List.map_nil]; rfl) _ (fun w' hC => q_of hC (leq_is HS.out w')) ?_
          refine q_norm (a' := ?_) ?_ ?_
          rotate_left
          · show Act.put _ (some 52) _ = _
            simp only [Act.put, List.setIfInBounds_toArray, List.set_cons_zero, List.set_cons_succ]
            rfl
          refine q_on (v := ?_) (by rfl) ?_ ?_
          rotate_left
          · intro w' hC
            go_simp
            with_reducible rfl
          rotate_left
          refine q_norm (a' := ?_) ?_ ?_
          rotate_left
          · show Act.put _ (some 53) _ = _
            simp only [Act.put, List.setIfInBounds_toArray, List.set_cons_zero, List.set_cons_succ]
            rfl
          refine q_on (v := ?_) (by rfl) ?_ ?_
          rotate_left
          · intro w' hC
            go_simp
            with_reducible rfl
          rotate_left
          refine q_norm (a' := ?_) ?_ ?_
          rotate_left
          · show Act.put _ (some 54) _ = _
            simp only [Act.put, List.setIfInBounds_toArray, List.set_cons_zero, List.set_cons_succ]
            rfl
          refine q_on (v := ?_) (by rfl) ?_ ?_
          rotate_left
          · intro w' hC
            obtain ⟨c0, c1, c2, c3, c4, c5, c6, c7⟩ := eight (E4.out.chg hC id)
            go_simp
            with_reducible rfl
          rotate_left
          refine q_norm (a' := ?_) ?_ ?_
          rotate_left
          · show Act.put _ (some 55) _ = _
            simp only [Act.put, List.setIfInBounds_toArray, List.set_cons_zero, List.set_cons_succ]
            rfl
          refine q_on (v := ?_) (by rfl) ?_ ?_
          rotate_left
          · intro w' hC
            obtain ⟨c0, c1, c2, c3, c4, c5, c6, c7⟩ := eight (E3.out.chg hC id)
            go_simp
            with_reducible rfl
          rotate_left
          refine q_norm (a' := ?_) ?_ ?_
          rotate_left
          · show Act.put _ (some 56) _ = _
            simp only [Act.put, List.setIfInBounds_toArray, List.set_cons_zero, List.set_cons_succ]
            rfl
          refine q_call (f := 10) Tryd.func10 (by kernel_rfl) rfl #[vec b, vec a] (by rfl) rfl (by simp only [List.map_toArray, List.map_cons, List.map_nil]; rfl) _ (fun w' hC => q_of hC (leq_is HT.out w')) ?_
          refine q_norm (a' := ?_) ?_ ?_
          rotate_left
          · show Act.put _ (some 57) _ = _
            simp only [Act.put, List.setIfInBounds_toArray, List.set_cons_zero, List.set_cons_succ]
            rfl
          refine q_on (v := ?_) (by rfl) ?_ ?_
          rotate_left
          · intro w' hC
            go_simp
            with_reducible rfl
          rotate_left
          refine q_norm (a' := ?_) ?_ ?_
          rotate_left
          · show Act.put _ (some 58) _ = _
            simp only [Act.put, List.setIfInBounds_toArray, List.set_cons_zero, List.set_cons_succ]
            rfl
          refine q_on (v := ?_) (by rfl) ?_ ?_
          rotate_left
          · intro w' hC
            go_simp
            with_reducible rfl
          rotate_left
          refine q_norm (a' := ?_) ?_ ?_
          rotate_left
          · show Act.put _ (some 59) _ = _
            simp only [Act.put, List.setIfInBounds_toArray, List.set_cons_zero, List.set_cons_succ]
            rfl
          refine q_on (v := ?_) (by rfl) ?_ ?_
          rotate_left
          · intro w' hC
            go_simp
            with_reducible rfl
          rotate_left
          refine q_norm (a' := ?_) ?_ ?_
          rotate_left
          · show Act.put _ (some 60) _ = _
            simp only [Act.put, List.setIfInBounds_toArray, List.set_cons_zero, List.set_cons_succ]
            rfl
          refine q_off (by rfl) ?_
          refine q_norm (a' := ?_) ?_ ?_
          rotate_left
          · show Act.put _ (some 61) _ = _
            simp only [Act.put, List.setIfInBounds_toArray, List.set_cons_zero, List.set_cons_succ]
            rfl
          refine q_off (by rfl) ?_
          refine q_norm (a' := ?_) ?_ ?_
          rotate_left
          · show Act.put _ (some 62) _ = _
            simp only [Act.put, List.setIfInBounds_toArray, List.set_cons_zero, List.set_cons_succ]
            rfl
          refine q_off (by rfl) ?_
          refine q_norm (a' := ?_) ?_ ?_
          rotate_left
          · show Act.put _ (some 63) _ = _
            simp only [Act.put, List.setIfInBounds_toArray, List.set_cons_zero, List.set_cons_succ]
            rfl
          refine q_on (v := ?_) (by rfl) ?_ ?_
          rotate_left
          · intro w' hC
            go_simp
            with_reducible rfl
          rotate_left
          refine q_norm (a' := ?_) ?_ ?_
          rotate_left
          · show Act.put _ (some 64) _ = _
            simp only [Act.put, List.setIfInBounds_toArray, List.set_cons_zero, List.set_cons_succ]
            rfl
          refine q_on (v := ?_) (by rfl) ?_ ?_
          rotate_left
          · intro w' hC
            go_simp
            with_reducible rfl
          rotate_left
          refine q_norm (a' := ?_) ?_ ?_
          rotate_left
          · show Act.put _ (some 65) _ = _
            simp only [Act.put, List.setIfInBounds_toArray, List.set_cons_zero, List.set_cons_succ]
            rfl
          refine q_on (v := ?_) (by rfl) ?_ ?_
          rotate_left
          · intro w' hC
            go_simp
            with_reducible rfl
          rotate_left
          refine q_norm (a' := ?_) ?_ ?_
          rotate_left
          · show Act.put _ (some 66) _ = _
            simp only [Act.put, List.setIfInBounds_toArray, List.set_cons_zero, List.set_cons_succ]
            rfl
          refine q_on (v := ?_) (by rfl) ?_ ?_
          rotate_left
          · intro w' hC
            obtain ⟨c0, c1, c2, c3, c4, c5, c6, c7⟩ := eight (E3.out.chg hC id)
            go_simp
            with_reducible rfl
          rotate_left
          refine q_norm (a' := ?_) ?_ ?_
          rotate_left
          · show Act.put _ (some 67) _ = _
            simp only [Act.put, List.setIfInBounds_toArray, List.set_cons_zero, List.set_cons_succ]
            rfl
          refine q_on (v := ?_) (by rfl) ?_ ?_
          rotate_left
          · intro w' hC
            obtain ⟨c0, c1, c2, c3, c4, c5, c6, c7⟩ := eight (E4.out.chg hC id)
            go_simp
            with_reducible rfl
          rotate_left
          refine q_norm (a' := ?_) ?_ ?_
          rotate_left
          · show Act.put _ (some 68) _ = _
            simp only [Act.put, List.setIfInBounds_toArray, List.set_cons_zero, List.set_cons_succ]
            rfl
          refine q_call (f := 10) Tryd.func10 (by kernel_rfl) rfl #[vec a, vec b] (by rfl) rfl (by simp only [List.map_toArray, List.map_cons, List.map_nil]; rfl) _ (fun w' hC => q_of hC (leq_is HS.out w')) ?_
          refine q_norm (a' := ?_) ?_ ?_
          rotate_left
          · show Act.put _ (some 69) _ = _
            simp only [Act.put, List.setIfInBounds_toArray, List.set_cons_zero, List.set_cons_succ]
            rfl
          refine q_on (v := ?_) (by rfl) ?_ ?_
          rotate_left
          · intro w' hC
            go_simp
            with_reducible rfl
          rotate_left
          refine q_norm (a' := ?_) ?_ ?_
          rotate_left
          · show Act.put _ (some 70) _ = _
            simp only [Act.put, List.setIfInBounds_toArray, List.set_cons_zero, List.set_cons_succ]
            rfl
          refine q_on (v := ?_) (by rfl) ?_ ?_
          rotate_left
          · intro w' hC
            go_simp
            with_reducible rfl
          rotate_left
          refine q_norm (a' := ?_) ?_ ?_
          rotate_left
          · show Act.put _ (some 71) _ = _
            simp only [Act.put, List.setIfInBounds_toArray, List.set_cons_zero, List.set_cons_succ]
            rfl
          refine q_on (v := ?_) (by rfl) ?_ ?_
          rotate_left
          · intro w' hC
            obtain ⟨c0, c1, c2, c3, c4, c5, c6, c7⟩ := eight (E4.out.chg hC id)
            go_simp
            with_reducible rfl
          rotate_left
          refine q_norm (a' := ?_) ?_ ?_
          rotate_left
          · show Act.put _ (some 72) _ = _
            simp only [Act.put, List.setIfInBounds_toArray, List.set_cons_zero, List.set_cons_succ]
            rfl
          refine q_on (v := ?_) (by rfl) ?_ ?_
          rotate_left
          · intro w' hC
            obtain ⟨c0, c1, c2, c3, c4, c5, c6, c7⟩ := eight (E5.out.chg hC id)
            go_simp
            with_reducible rfl
          rotate_left
          refine q_norm (a' := ?_) ?_ ?_
          rotate_left
          · show Act.put _ (some 73) _ = _
            simp only [Act.put, List.setIfInBounds_toArray, List.set_cons_zero, List.set_cons_succ]
            rfl
          refine q_call (f := 10) Tryd.func10 (by kernel_rfl) rfl #[vec b, vec c] (by rfl) rfl (by simp only [List.map_toArray, List.map_cons, List.map_nil]; rfl) _ (fun w' hC => q_of hC (leq_is HU.out w')) ?_
          refine q_norm (a' := ?_) ?_ ?_
          rotate_left
          · show Act.put _ (some 74) _ = _
            simp only [Act.put, List.setIfInBounds_toArray, List.set_cons_zero, List.set_cons_succ]
            rfl
          refine q_on (v := ?_) (by rfl) ?_ ?_
          rotate_left
          · intro w' hC
            go_simp
            with_reducible rfl
          rotate_left
          refine q_norm (a' := ?_) ?_ ?_
          rotate_left
          · show Act.put _ (some 75) _ = _
            simp only [Act.put, List.setIfInBounds_toArray, List.set_cons_zero, List.set_cons_succ]
            rfl
          refine q_on (v := ?_) (by rfl) ?_ ?_
          rotate_left
          · intro w' hC
            go_simp
            with_reducible rfl
          rotate_left
          refine q_norm (a' := ?_) ?_ ?_
          rotate_left
          · show Act.put _ (some 76) _ = _
            simp only [Act.put, List.setIfInBounds_toArray, List.set_cons_zero, List.set_cons_succ]
            rfl
          refine q_on (v := ?_) (by rfl) ?_ ?_
          rotate_left
          · intro w' hC
            go_simp
            with_reducible rfl
          rotate_left
          refine q_norm (a' := ?_) ?_ ?_
          rotate_left
          · show Act.put _ (some 77) _ = _
            simp only [Act.put, List.setIfInBounds_toArray, List.set_cons_zero, List.set_cons_succ]
            rfl
          refine q_off (by rfl) ?_
          refine q_norm (a' := ?_) ?_ ?_
          rotate_left
          · show Act.put _ (some 78) _ = _
            simp only [Act.put, List.setIfInBounds_toArray, List.set_cons_zero, List.set_cons_succ]
            rfl
          refine q_off (by rfl) ?_
          refine q_norm (a' := ?_) ?_ ?_
          rotate_left
          · show Act.put _ (some 79) _ = _
            simp only [Act.put, List.setIfInBounds_toArray, List.set_cons_zero, List.set_cons_succ]
            rfl
          refine q_off (by rfl) ?_
          refine q_norm (a' := ?_) ?_ ?_
          rotate_left
          · show Act.put _ (some 80) _ = _
            simp only [Act.put, List.setIfInBounds_toArray, List.set_cons_zero, List.set_cons_succ]
            rfl
          refine q_on (v := ?_) (by rfl) ?_ ?_
          rotate_left
          · intro w' hC
            go_simp
            with_reducible rfl
          rotate_left
          refine q_norm (a' := ?_) ?_ ?_
          rotate_left
          · show Act.put _ (some 81) _ = _
            simp only [Act.put, List.setIfInBounds_toArray, List.set_cons_zero, List.set_cons_succ]
            rfl
          refine q_on (v := ?_) (by rfl) ?_ ?_
          rotate_left
          · intro w' hC
            go_simp
            with_reducible rfl
          rotate_left
          refine q_norm (a' := ?_) ?_ ?_
          rotate_left
          · show Act.put _ (some 82) _ = _
            simp only [Act.put, List.setIfInBounds_toArray, List.set_cons_zero, List.set_cons_succ]
            rfl
          refine q_on (v := ?_) (by rfl) ?_ ?_
          rotate_left
          · intro w' hC
            go_simp
            with_reducible rfl
          rotate_left
          refine q_norm (a' := ?_) ?_ ?_
          rotate_left
          · show Act.put _ (some 83) _ = _
            simp only [Act.put, List.setIfInBounds_toArray, List.set_cons_zero, List.set_cons_succ]
            rfl
          refine q_call (f := 11) Tryd.func11 (by kernel_rfl) rfl #[] (by rfl) rfl (by simp only [List.map_toArray, List.map_nil]) _ (fun w' hC => q_of hC (awake_any w')) ?_
          refine q_norm (a' := ?_) ?_ ?_
          rotate_left
          · show Act.put _ (some 84) _ = _
            simp only [Act.put, List.setIfInBounds_toArray, List.set_cons_zero, List.set_cons_succ]
            rfl
          refine q_on (v := ?_) (by rfl) ?_ ?_
          rotate_left
          · intro w' hC
            go_simp
            with_reducible rfl
          rotate_left
          refine q_norm (a' := ?_) ?_ ?_
          rotate_left
          · show Act.put _ (some 85) _ = _
            simp only [Act.put, List.setIfInBounds_toArray, List.set_cons_zero, List.set_cons_succ]
            rfl
          refine q_on (v := ?_) (by rfl) ?_ ?_
          rotate_left
          · intro w' hC
            go_simp
            with_reducible rfl
          rotate_left
          refine q_norm (a' := ?_) ?_ ?_
          rotate_left
          · show Act.put _ (some 12) _ = _
            simp only [Act.put, List.setIfInBounds_toArray, List.set_cons_zero, List.set_cons_succ]
            rfl
          refine wpQuiet_nil ?_
          intro w' hC
          go_wp2_with fail
          go_ret
          exact ⟨rfl, HW2.out.trans hC⟩
        | true =>
          have HU := Lib.hid hu
          have HZ := Lib.hid (leq_trans hs hu)
          clear hu hs
          refine q_list _ _ _ (Chg.refl NoB _) ?_
          refine q_on (v := ?_) (by rfl) ?_ ?_
          rotate_left
          · intro w' hC
            go_simp
            with_reducible rfl
          rotate_left
          refine q_norm (a' := ?_) ?_ ?_
          rotate_left
          · show Act.put _ (some 49) _ = _
            simp only [Act.put, List.setIfInBounds_toArray, List.set_cons_zero, List.set_cons_succ]
            rfl
          refine q_on (v := ?_) (by rfl) ?_ ?_
          rotate_left
          · intro w' hC
            obtain ⟨c0, c1, c2, c3, c4, c5, c6, c7⟩ := eight (E3.out.chg hC id)
            go_simp
            with_reducible rfl
          rotate_left
          refine q_norm (a' := ?_) ?_ ?_
          rotate_left
          · show Act.put _ (some 50) _ = _
            simp only [Act.put, List.setIfInBounds_toArray, List.set_cons_zero, List.set_cons_succ]
            rfl
          refine q_on (v := ?_) (by rfl) ?_ ?_
          rotate_left
          · intro w' hC
            obtain ⟨c0, c1, c2, c3, c4, c5, c6, c7⟩ := eight (E4.out.chg hC id)
            go_simp
            with_reducible rfl
          rotate_left
          refine q_norm (a' := ?_) ?_ ?_
          rotate_left
          · show Act.put _ (some 51) _ = _
            simp only [Act.put, List.setIfInBounds_toArray, List.set_cons_zero, List.set_cons_succ]
            rfl
          refine q_call (f := 10) Tryd.func10 (by kernel_rfl) rfl #[vec a, vec b] (by rfl) rfl (by simp only [List.map_toArray, List.map_cons, List.map_nil]; rfl) _ (fun w' hC => q_of hC (leq_is HS.out w')) ?_
          refine q_norm (a' := ?_) ?_ ?_
          rotate_left
          · show Act.put _ (some 52) _ = _
            simp only [Act.put, List.setIfInBounds_toArray, List.set_cons_zero, List.set_cons_succ]
            rfl
          refine q_on (v := ?_) (by rfl) ?_ ?_
          rotate_left
          · intro w' hC
            go_simp
            with_reducible rfl
          rotate_left
          refine q_norm (a' := ?_) ?_ ?_
          rotate_left
          · show Act.put _ (some 53) _ = _
            simp only [Act.put, List.setIfInBounds_toArray, List.set_cons_zero, List.set_cons_succ]
            rfl
          refine q_on (v := ?_) (by rfl) ?_ ?_
          rotate_left
          · intro w' hC
            go_simp
            with_reducible rfl
          rotate_left
          refine q_norm (a' := ?_) ?_ ?_
          rotate_left
          · show Act.put _ (some 54) _ = _
            simp only [Act.put, List.setIfInBounds_toArray, List.set_cons_zero, List.set_cons_succ]
            rfl
          refine q_on (v := ?_) (by rfl) ?_ ?_
          rotate_left
          · intro w' hC
            obtain ⟨c0, c1, c2, c3, c4, c5, c6, c7⟩ := eight (E4.out.chg hC id)
            go_simp
            with_reducible rfl
          rotate_left
          refine q_norm (a' := ?_) ?_ ?_
          rotate_left
          · show Act.put _ (some 55) _ = _
            simp only [Act.put, List.setIfInBounds_toArray, List.set_cons_zero, List.set_cons_succ]
            rfl
          refine q_on (v := ?_) (by rfl) ?_ ?_
          rotate_left
          · intro w' hC
            obtain ⟨c0, c1, c2, c3, c4, c5, c6, c7⟩ := eight (E3.out.chg hC id)
            go_simp
            with_reducible rfl
          rotate_left
          refine q_norm (a' := ?_) ?_ ?_
          rotate_left
          · show Act.put _ (some 56) _ = _
            simp only [Act.put, List.setIfInBounds_toArray, List.set_cons_zero, List.set_cons_succ]
            rfl
          refine q_call (f := 10) Tryd.func10 (by kernel_rfl) rfl #[vec b, vec a] (by rfl) rfl (by simp only [List.map_toArray, List.map_cons, List.map_nil]; rfl) _ (fun w' hC => q_of hC (leq_is HT.out w')) ?_
          refine q_norm (a' := ?_) ?_ ?_
          rotate_left
          · show Act.put _ (some 57) _ = _
            simp only [Act.put, List.setIfInBounds_toArray, List.set_cons_zero, List.set_cons_succ]
            rfl
          refine q_on (v := ?_) (by rfl) ?_ ?_
          rotate_left
          · intro w' hC
            go_simp
            with_reducible rfl
          rotate_left
          refine q_norm (a' := ?_) ?_ ?_
          rotate_left
          · show Act.put _ (some 58) _ = _
            simp only [Act.put, List.setIfInBounds_toArray, List.set_cons_zero, List.set_cons_succ]
            rfl
          refine q_on (v := ?_) (by rfl) ?_ ?_
          rotate_left
          · intro w' hC
            go_simp
            with_reducible rfl
          rotate_left
          refine q_norm (a' := ?_) ?_ ?_
          rotate_left
          · show Act.put _ (some 59) _ = _
            simp only [Act.put, List.setIfInBounds_toArray, List.set_cons_zero, List.set_cons_succ]
            rfl
          refine q_on (v := ?_) (by rfl) ?_ ?_
          rotate_left
          · intro w' hC
            go_simp
            with_reducible rfl
          rotate_left
          refine q_norm (a' := ?_) ?_ ?_
          rotate_left
          · show Act.put _ (some 60) _ = _
            simp only [Act.put, List.setIfInBounds_toArray, List.set_cons_zero, List.set_cons_succ]
            rfl
          refine q_off (by rfl) ?_
          refine q_norm (a' := ?_) ?_ ?_
          rotate_left
          · show Act.put _ (some 61) _ = _
            simp only [Act.put, List.setIfInBounds_toArray, List.set_cons_zero, List.set_cons_succ]
            rfl
          refine q_off (by rfl) ?_
          refine q_norm (a' := ?_) ?_ ?_
          rotate_left
          · show Act.put _ (some 62) _ = _
            simp only [Act.put, List.setIfInBounds_toArray, List.set_cons_zero, List.set_cons_succ]
            rfl
          refine q_off (by rfl) ?_
          refine q_norm (a' := ?_) ?_ ?_
          rotate_left
          · show Act.put _ (some 63) _ = _
            simp only [Act.put, List.setIfInBounds_toArray, List.set_cons_zero, List.set_cons_succ]
            rfl
          refine q_on (v := ?_) (by rfl) ?_ ?_
          rotate_left
          · intro w' hC
            go_simp
            with_reducible rfl
          rotate_left
          refine q_norm (a' := ?_) ?_ ?_
          rotate_left
          · show Act.put _ (some 64) _ = _
            simp only [Act.put, List.setIfInBounds_toArray, List.set_cons_zero, List.set_cons_succ]
            rfl
          refine q_on (v := ?_) (by rfl) ?_ ?_
          rotate_left
          · intro w' hC
            go_simp
            with_reducible rfl
          rotate_left
          refine q_norm (a' := ?_) ?_ ?_
          rotate_left
          · show Act.put _ (some 65) _ = _
            simp only [Act.put, List.setIfInBounds_toArray, List.set_cons_zero, List.set_cons_succ]
            rfl
          refine q_on (v := ?_) (by rfl) ?_ ?_
          rotate_left
          · intro w' hC
            go_simp
            with_reducible rfl
          rotate_left
          refine q_norm (a' := ?_) ?_ ?_
          rotate_left
          · show Act.put _ (some 66) _ = _
            simp only [Act.put, List.setIfInBounds_toArray, List.set_cons_zero, List.set_cons_succ]
            rfl
          refine q_on (v := ?_) (by rfl) ?_ ?_
          rotate_left
          · intro w' hC
            obtain ⟨c0, c1, c2, c3, c4, c5, c6, c7⟩ := eight (E3.out.chg hC id)
            go_simp
            with_reducible rfl
          rotate_left
          refine q_norm (a' := ?_) ?_ ?_
          rotate_left
          · show Act.put _ (some 67) _ = _
            simp only [Act.put, List.setIfInBounds_toArray, List.set_cons_zero, List.set_cons_succ]
            rfl
          refine q_on (v := ?_) (by rfl) ?_ ?_
          rotate_left
          · intro w' hC
            obtain ⟨c0, c1, c2, c3, c4, c5, c6, c7⟩ := eight (E4.out.chg hC id)
            go_simp
            with_reducible rfl
          rotate_left
          refine q_norm (a' := ?_) ?_ ?_
          rotate_left
          · show Act.put _ (some 68) _ = _
            simp only [Act.put, List.setIfInBounds_toArray, List.set_cons_zero, List.set_cons_succ]
            rfl
          refine q_call (f := 10) Tryd.func10 (by kernel_rfl) rfl #[vec a, vec b] (by rfl) rfl (by simp only [List.map_toArray, List.map_cons, List.map_nil]; rfl) _ (fun w' hC => q_of hC (leq_is HS.out w')) ?_
          refine q_norm (a' := ?_) ?_ ?_
          rotate_left
          · show Act.put _ (some 69) _ = _
            simp only [Act.put, List.setIfInBounds_toArray, List.set_cons_zero, List.set_cons_succ]
            rfl
          refine q_on (v := ?_) (by rfl) ?_ ?_
          rotate_left
          · intro w' hC
            go_simp
            with_reducible rfl
          rotate_left
          refine q_norm (a' := ?_) ?_ ?_
          rotate_left
          · show Act.put _ (some 70) _ = _
            simp only [Act.put, List.setIfInBounds_toArray, List.set_cons_zero, List.set_cons_succ]
            rfl
          refine q_on (v := ?_) (by rfl) ?_ ?_
          rotate_left
          · intro w' hC
            go_simp
            with_reducible rfl
          rotate_left
          refine q_norm (a' := ?_) ?_ ?_
          rotate_left
          · show Act.put _ (some 71) _ = _
            simp only [Act.put, List.setIfInBounds_toArray, List.set_cons_zero, List.set_cons_succ]
            rfl
          refine q_on (v := ?_) (by rfl) ?_ ?_
          rotate_left
          · intro w' hC
            obtain ⟨c0, c1, c2, c3, c4, c5, c6, c7⟩ := eight (E4.out.chg hC id)
            go_simp
            with_reducible rfl
          rotate_left
          refine q_norm (a' := ?_) ?_ ?_
          rotate_left
          · show Act.put _ (some 72) _ = _
            simp only [Act.put, List.setIfInBounds_toArray, List.set_cons_zero, List.set_cons_succ]
            rfl
          refine q_on (v := ?_) (by rfl) ?_ ?_
          rotate_left
          · intro w' hC
            obtain ⟨c0, c1, c2, c3, c4, c5, c6, c7⟩ := eight (E5.out.chg hC id)
            go_simp
            with_reducible rfl
          rotate_left
          refine q_norm (a' := ?_) ?_ ?_
          rotate_left
          · show Act.put _ (some 73) _ = _
            simp only [Act.put, List.setIfInBounds_toArray, List.set_cons_zero, List.set_cons_succ]
            rfl
          refine q_call (f := 10) Tryd.func10 (by kernel_rfl) rfl #[vec b, vec c] (by rfl) rfl (by simp only [List.map_toArray, List.map_cons, List.map_nil]; rfl) _ (fun w' hC => q_of hC (leq_is HU.out w')) ?_
          refine q_norm (a' := ?_) ?_ ?_
          rotate_left
          · show Act.put _ (some 74) _ = _
            simp only [Act.put, List.setIfInBounds_toArray, List.set_cons_zero, List.set_cons_succ]
            rfl
          refine q_on (v := ?_) (by rfl) ?_ ?_
          rotate_left
          · intro w' hC
            go_simp
            with_reducible rfl
          rotate_left
          refine q_norm (a' := ?_) ?_ ?_
          rotate_left
          · show Act.put _ (some 75) _ = _
            simp only [Act.put, List.setIfInBounds_toArray, List.set_cons_zero, List.set_cons_succ]
            rfl
          refine q_on (v := ?_) (by rfl) ?_ ?_
          rotate_left
          · intro w' hC
            go_simp
            with_reducible rfl
          rotate_left
          refine q_norm (a' := ?_) ?_ ?_
          rotate_left
          · show Act.put _ (some 76) _ = _
            simp only [Act.put, List.setIfInBounds_toArray, List.set_cons_zero, List.set_cons_succ]
            rfl
          refine q_on (v := ?_) (by rfl) ?_ ?_
          rotate_left
          · intro w' hC
            go_simp
            with_reducible rfl
          rotate_left
          refine q_norm (a' := ?_) ?_ ?_
          rotate_left
          · show Act.put _ (some 77) _ = _
            simp only [Act.put, List.setIfInBounds_toArray, List.set_cons_zero, List.set_cons_succ]
            rfl
          refine q_on (v := ?_) (by rfl) ?_ ?_
          rotate_left
          · intro w' hC
            obtain ⟨c0, c1, c2, c3, c4, c5, c6, c7⟩ := eight (E3.out.chg hC id)
            go_simp
            with_reducible rfl
          rotate_left
          refine q_norm (a' := ?_) ?_ ?_
          rotate_left
          · show Act.put _ (some 78) _ = _
            simp only [Act.put, List.setIfInBounds_toArray, List.set_cons_zero, List.set_cons_succ]
            rfl
          refine q_on (v := ?_) (by rfl) ?_ ?_
          rotate_left
          · intro w' hC
            obtain ⟨c0, c1, c2, c3, c4, c5, c6, c7⟩ := eight (E5.out.chg hC id)
            go_simp
            with_reducible rfl
          rotate_left
          refine q_norm (a' := ?_) ?_ ?_
          rotate_left
          · show Act.put _ (some 79) _ = _
            simp only [Act.put, List.setIfInBounds_toArray, List.set_cons_zero, List.set_cons_succ]
            rfl
          refine q_call (f := 10) Tryd.func10 (by kernel_rfl) rfl #[vec a, vec c] (by rfl) rfl (by simp only [List.map_toArray, List.map_cons, List.map_nil]; rfl) _ (fun w' hC => q_of hC (leq_is HZ.out w')) ?_
          refine q_norm (a' := ?_) ?_ ?_
          rotate_left
          · show Act.put _ (some 80) _ = _
            simp only [Act.put, List.setIfInBounds_toArray, List.set_cons_zero, List.set_cons_succ]
            rfl
          refine q_on (v := ?_) (by rfl) ?_ ?_
          rotate_left
          · intro w' hC
            go_simp
            with_reducible rfl
          rotate_left
          refine q_norm (a' := ?_) ?_ ?_
          rotate_left
          · show Act.put _ (some 81) _ = _
            simp only [Act.put, List.setIfInBounds_toArray, List.set_cons_zero, List.set_cons_succ]
            rfl
          refine q_on (v := ?_) (by rfl) ?_ ?_
          rotate_left
          · intro w' hC
            go_simp
            with_reducible rfl
          rotate_left
          refine q_norm (a' := ?_) ?_ ?_
          rotate_left
          · show Act.put _ (some 82) _ = _
            simp only [Act.put, List.setIfInBounds_toArray, List.set_cons_zero, List.set_cons_succ]
            rfl
          refine q_on (v := ?_) (by rfl) ?_ ?_
          rotate_left
          · intro w' hC
            go_simp
            with_reducible rfl
          rotate_left
          refine q_norm (a' := ?_) ?_ ?_
          rotate_left
          · show Act.put _ (some 83) _ = _
            simp only [Act.put, List.setIfInBounds_toArray, List.set_cons_zero, List.set_cons_succ]
            rfl
          refine q_call (f := 11) Tryd.func11 (by kernel_rfl) rfl #[] (by rfl) rfl (by simp only [List.map_toArray, List.map_nil]) _ (fun w' hC => q_of hC (awake_any w')) ?_
          refine q_norm (a' := ?_) ?_ ?_
          rotate_left
          · show Act.put _ (some 84) _ = _
            simp only [Act.put, List.setIfInBounds_toArray, List.set_cons_zero, List.set_cons_succ]
            rfl
          refine q_on (v := ?_) (by rfl) ?_ ?_
          rotate_left
          · intro w' hC
            go_simp
            with_reducible rfl
          rotate_left
          refine q_norm (a' := ?_) ?_ ?_
          rotate_left
          · show Act.put _ (some 85) _ = _
            simp only [Act.put, List.setIfInBounds_toArray, List.set_cons_zero, List.set_cons_succ]
            rfl
          refine q_on (v := ?_) (by rfl) ?_ ?_
          rotate_left
          · intro w' hC
            go_simp
            with_reducible rfl
          rotate_left
          refine q_norm (a' := ?_) ?_ ?_
          rotate_left
          · show Act.put _ (some 12) _ = _
            simp only [Act.put, List.setIfInBounds_toArray, List.set_cons_zero, List.set_cons_succ]
            rfl
          refine wpQuiet_nil ?_
          intro w' hC
          go_wp2_with fail
          go_ret
          exact ⟨rfl, HW2.out.trans hC⟩
      | true =>
        have HT := Lib.hid ht
        have he : (a 0 == b 0 && (a 1 == b 1 && (a 2 == b 2 && (a 3 == b 3 && (a 4 == b 4 && (a 5 == b 5 && (a 6 == b 6 && a 7 == b 7))))))) = true := veq_of_leq hs ht
        clear ht
        cases hu : leq b c with
        | false =>
          have HU := Lib.hid hu
          clear hu hs
          refine q_list _ _ _ (Chg.refl NoB _) ?_
          refine q_on (v := ?_) (by rfl) ?_ ?_
          rotate_left
          · intro w' hC
            go_simp
            with_reducible rfl
          rotate_left
          refine q_norm (a' := ?_) ?_ ?_
          rotate_left
          · show Act.put _ (some 49) _ = _
            simp only [Act.put, List.setIfInBounds_toArray, List.set_cons_zero, List.set_cons_succ]
            rfl
          refine q_on (v := ?_) (by rfl) ?_ ?_
          rotate_left
          · intro w' hC
            obtain ⟨c0, c1, c2, c3, c4, c5, c6, c7⟩ := eight (E3.out.chg hC id)
            go_simp
            with_reducible rfl
          rotate_left
          refine q_norm (a' := ?_) ?_ ?_
          rotate_left
          · show Act.put _ (some 50) _ = _
            simp only [Act.put, List.setIfInBounds_toArray, List.set_cons_zero, List.set_cons_succ]
            rfl
          refine q_on (v := ?_) (by rfl) ?_ ?_
          rotate_left
          · intro w' hC
            obtain ⟨c0, c1, c2, c3, c4, c5, c6, c7⟩ := eight (E4.out.chg hC id)
            go_simp
            with_reducible rfl
          rotate_left
          refine q_norm (a' := ?_) ?_ ?_
          rotate_left
          · show Act.put _ (some 51) _ = _
            simp only [Act.put, List.setIfInBounds_toArray, List.set_cons_zero, List.set_cons_succ]
            rfl
          refine q_call (f := 10) Tryd.func10 (by kernel_rfl) rfl #[vec a, vec b] (by rfl) rfl (by simp only [List.map_toArray, List.map_cons, List.map_nil]; rfl) _ (fun w' hC => q_of hC (leq_is HS.out w')) ?_
          refine q_norm (a' := ?_) ?_ ?_
          rotate_left
          · show Act.put _ (some 52) _ = _
            simp only [Act.put, List.setIfInBounds_toArray, List.set_cons_zero, List.set_cons_succ]
            rfl
          refine q_on (v := ?_) (by rfl) ?_ ?_
          rotate_left
          · intro w' hC
            go_simp
            with_reducible rfl
          rotate_left
          refine q_norm (a' := ?_) ?_ ?_
          rotate_left
          · show Act.put _ (some 53) _ = _
            simp only [Act.put, List.setIfInBounds_toArray, List.set_cons_zero, List.set_cons_succ]
            rfl
          refine q_on (v := ?_) (by rfl) ?_ ?_
          rotate_left
          · intro w' hC
            go_simp
            with_reducible rfl
          rotate_left
          refine q_norm (a' := ?_) ?_ ?_
          rotate_left
          · show Act.put _ (some 54) _ = _
            simp only [Act.put, List.setIfInBounds_toArray, List.set_cons_zero, List.set_cons_succ]
            rfl
          refine q_on (v := ?_) (by rfl) ?_ ?_
          rotate_left
          · intro w' hC
            obtain ⟨c0, c1, c2, c3, c4, c5, c6, c7⟩ := eight (E4.out.chg hC id)
            go_simp
            with_reducible rfl
          rotate_left
          refine q_norm (a' := ?_) ?_ ?_
          rotate_left
          · show Act.put _ (some 55) _ = _
            simp only [Act.put, List.setIfInBounds_toArray, List.set_cons_zero, List.set_cons_succ]
            rfl
          refine q_on (v := ?_) (by rfl) ?_ ?_
          rotate_left
          · intro w' hC
            obtain ⟨c0, c1, c2, c3, c4, c5, c6, c7⟩ := eight (E3.out.chg hC id)
            go_simp
            with_reducible rfl
          rotate_left
          refine q_norm (a' := ?_) ?_ ?_
          rotate_left
          · show Act.put _ (some 56) _ = _
            simp only [Act.put, List.setIfInBounds_toArray, List.set_cons_zero, List.set_cons_succ]
            rfl
          refine q_call (f := 10) Tryd.func10 (by kernel_rfl) rfl #[vec b, vec a] (by rfl) rfl (by simp only [List.map_toArray, List.map_cons, List.map_nil]; rfl) _ (fun w' hC => q_of hC (leq_is HT.out w')) ?_
          refine q_norm (a' := ?_) ?_ ?_
          rotate_left
          · show Act.put _ (some 57) _ = _
            simp only [Act.put, List.setIfInBounds_toArray, List.set_cons_zero, List.set_cons_succ]
            rfl
          refine q_on (v := ?_) (by rfl) ?_ ?_
          rotate_left
          · intro w' hC
            go_simp
            with_reducible rfl
          rotate_left
          refine q_norm (a' := ?_) ?_ ?_
          rotate_left
          · show Act.put _ (some 58) _ = _
            simp only [Act.put, List.setIfInBounds_toArray, List.set_cons_zero, List.set_cons_succ]
            rfl
          refine q_on (v := ?_) (by rfl) ?_ ?_
          rotate_left
          · intro w' hC
            go_simp
            with_reducible rfl
          rotate_left
          refine q_norm (a' := ?_) ?_ ?_
          rotate_left
          · show Act.put _ (some 59) _ = _
            simp only [Act.put, List.setIfInBounds_toArray, List.set_cons_zero, List.set_cons_succ]
            rfl
          refine q_on (v := ?_) (by rfl) ?_ ?_
          rotate_left
          · intro w' hC
            go_simp
            with_reducible rfl
          rotate_left
          refine q_norm (a' := ?_) ?_ ?_
          rotate_left
          · show Act.put _ (some 60) _ = _
            simp only [Act.put, List.setIfInBounds_toArray, List.set_cons_zero, List.set_cons_succ]
            rfl
          refine q_on (v := ?_) (by rfl) ?_ ?_
          rotate_left
          · intro w' hC
            obtain ⟨c0, c1, c2, c3, c4, c5, c6, c7⟩ := eight (E3.out.chg hC id)
            go_simp
            with_reducible rfl
          rotate_left
          refine q_norm (a' := ?_) ?_ ?_
          rotate_left
          · show Act.put _ (some 61) _ = _
            simp only [Act.put, List.setIfInBounds_toArray, List.set_cons_zero, List.set_cons_succ]
            rfl
          refine q_on (v := ?_) (by rfl) ?_ ?_
          rotate_left
          · intro w' hC
            obtain ⟨c0, c1, c2, c3, c4, c5, c6, c7⟩ := eight (E4.out.chg hC id)
            go_simp
            with_reducible rfl
          rotate_left
          refine q_norm (a' := ?_) ?_ ?_
          rotate_left
          · show Act.put _ (some 62) _ = _
            simp only [Act.put, List.setIfInBounds_toArray, List.set_cons_zero, List.set_cons_succ]
            rfl
          refine q_on (v := ?_) (by rfl) ?_ ?_
          rotate_left
          · intro w' hC
            go_simp
            with_reducible rfl
          rotate_left
          refine q_norm (a' := ?_) ?_ ?_
          rotate_left
          · show Act.put _ (some 63) _ = _
            simp only [Act.put, List.setIfInBounds_toArray, List.set_cons_zero, List.set_cons_succ]
            rfl
          refine q_on (v := ?_) (by rfl) ?_ ?_
          rotate_left
          · intro w' hC
            go_simp
            with_reducible rfl
          rotate_left
          refine q_norm (a' := ?_) ?_ ?_
          rotate_left
          · show Act.put _ (some 64) _ = _
            simp only [Act.put, List.setIfInBounds_toArray, List.set_cons_zero, List.set_cons_succ]
            rfl
          refine q_on (v := ?_) (by rfl) ?_ ?_
          rotate_left
          · intro w' hC
            go_simp
            with_reducible rfl
          rotate_left
          refine q_norm (a' := ?_) ?_ ?_
          rotate_left
          · show Act.put _ (some 65) _ = _
            simp only [Act.put, List.setIfInBounds_toArray, List.set_cons_zero, List.set_cons_succ]
            rfl
          refine q_on (v := ?_) (by rfl) ?_ ?_
          rotate_left
          · intro w' hC
            go_simp
            with_reducible rfl
          rotate_left
          refine q_norm (a' := ?_) ?_ ?_
          rotate_left
          · show Act.put _ (some 66) _ = _
            simp only [Act.put, List.setIfInBounds_toArray, List.set_cons_zero, List.set_cons_succ]
            rfl
          refine q_on (v := ?_) (by rfl) ?_ ?_
          rotate_left
          · intro w' hC
            obtain ⟨c0, c1, c2, c3, c4, c5, c6, c7⟩ := eight (E3.out.chg hC id)
            go_simp
            with_reducible rfl
          rotate_left
          refine q_norm (a' := ?_) ?_ ?_
          rotate_left
          · show Act.put _ (some 67) _ = _
            simp only [Act.put, List.setIfInBounds_toArray, List.set_cons_zero, List.set_cons_succ]
            rfl
          refine q_on (v := ?_) (by rfl) ?_ ?_
          rotate_left
          · intro w' hC
            obtain ⟨c0, c1, c2, c3, c4, c5, c6, c7⟩ := eight (E4.out.chg hC id)
            go_simp
            with_reducible rfl
          rotate_left
          refine q_norm (a' := ?_) ?_ ?_
          rotate_left
          · show Act.put _ (some 68) _ = _
            simp only [Act.put, List.setIfInBounds_toArray, List.set_cons_zero, List.set_cons_succ]
            rfl
          refine q_call (f := 10) Tryd.func10 (by kernel_rfl) rfl #[vec a, vec b] (by rfl) rfl (by simp only [List.map_toArray, List.map_cons, List.map_nil]; rfl) _ (fun w' hC => q_of hC (leq_is HS.out w')) ?_
          refine q_norm (a' := ?_) ?_ ?_
          rotate_left
          · show Act.put _ (some 69) _ = _
            simp only [Act.put, List.setIfInBounds_toArray, List.set_cons_zero, List.set_cons_succ]
            rfl
          refine q_on (v := ?_) (by rfl) ?_ ?_
          rotate_left
          · intro w' hC
            go_simp
            with_reducible rfl
          rotate_left
          refine q_norm (a' := ?_) ?_ ?_
          rotate_left
          · show Act.put _ (some 70) _ = _
            simp only [Act.put, List.setIfInBounds_toArray, List.set_cons_zero, List.set_cons_succ]
            rfl
          refine q_on (v := ?_) (by rfl) ?_ ?_
          rotate_left
          · intro w' hC
            go_simp
            with_reducible rfl
          rotate_left
          refine q_norm (a' := ?_) ?_ ?_
          rotate_left
          · show Act.put _ (some 71) _ = _
            simp only [Act.put, List.setIfInBounds_toArray, List.set_cons_zero, List.set_cons_succ]
            rfl
          refine q_on (v := ?_) (by rfl) ?_ ?_
          rotate_left
          · intro w' hC
            obtain ⟨c0, c1, c2, c3, c4, c5, c6, c7⟩ := eight (E4.out.chg hC id)
            go_simp
            with_reducible rfl
          rotate_left
          refine q_norm (a' := ?_) ?_ ?_
          rotate_left
          · show Act.put _ (some 72) _ = _
            simp only [Act.put, List.setIfInBounds_toArray, List.set_cons_zero, List.set_cons_succ]
            rfl
          refine q_on (v := ?_) (by rfl) ?_ ?_
          rotate_left
          · intro w' hC
            obtain ⟨c0, c1, c2, c3, c4, c5, c6, c7⟩ := eight (E5.out.chg hC id)
            go_simp
            with_reducible rfl
          rotate_left
          refine q_norm (a' := ?_) ?_ ?_
          rotate_left
          · show Act.put _ (some 73) _ = _
            simp only [Act.put, List.setIfInBounds_toArray, List.set_cons_zero, List.set_cons_succ]
            rfl
          refine q_call (f := 10) Tryd.func10 (by kernel_rfl) rfl #[vec b, vec c] (by rfl) rfl (by simp only [List.map_toArray, List.map_cons, List.map_nil]; rfl) _ (fun w' hC => q_of hC (leq_is HU.out w')) ?_
          refine q_norm (a' := ?_) ?_ ?_
          rotate_left
          · show Act.put _ (some 74) _ = _
            simp only [Act.put, List.setIfInBounds_toArray, List.set_cons_zero, List.set_cons_succ]
            rfl
          refine q_on (v := ?_) (by rfl) ?_ ?_
          rotate_left
          · intro w' hC
            go_simp
            with_reducible rfl
          rotate_left
          refine q_norm (a' := ?_) ?_ ?_
          rotate_left
          · show Act.put _ (some 75) _ = _
            simp only [Act.put, List.setIfInBounds_toArray, List.set_cons_zero, List.set_cons_succ]
            rfl
          refine q_on (v := ?_) (by rfl) ?_ ?_
          rotate_left
          · intro w' hC
            go_simp
            with_reducible rfl
          rotate_left
          refine q_norm (a' := ?_) ?_ ?_
          rotate_left
          · show Act.put _ (some 76) _ = _
            simp only [Act.put, List.setIfInBounds_toArray, List.set_cons_zero, List.set_cons_succ]
            rfl
          refine q_on (v := ?_) (by rfl) ?_ ?_
          rotate_left
          · intro w' hC
            go_simp
            with_reducible rfl
          rotate_left
          refine q_norm (a' := ?_) ?_ ?_
          rotate_left
          · show Act.put _ (some 77) _ = _
            simp only [Act.put, List.setIfInBounds_toArray, List.set_cons_zero, List.set_cons_succ]
            rfl
          refine q_off (by rfl) ?_
          refine q_norm (a' := ?_) ?_ ?_
          rotate_left
          · show Act.put _ (some 78) _ = _
            simp only [Act.put, List.setIfInBounds_toArray, List.set_cons_zero, List.set_cons_succ]
            rfl
          refine q_off (by rfl) ?_
          refine q_norm (a' := ?_) ?_ ?_
          rotate_left
          · show Act.put _ (some 79) _ = _
            simp only [Act.put, List.setIfInBounds_toArray, List.set_cons_zero, List.set_cons_succ]
            rfl
          refine q_off (by rfl) ?_
          refine q_norm (a' := ?_) ?_ ?_
          rotate_left
          · show Act.put _ (some 80) _ = _
            simp only [Act.put, List.setIfInBounds_toArray, List.set_cons_zero, List.set_cons_succ]
            rfl
          refine q_on (v := ?_) (by rfl) ?_ ?_
          rotate_left
          · intro w' hC
            go_simp
            with_reducible rfl
          rotate_left
          refine q_norm (a' := ?_) ?_ ?_
          rotate_left
          · show Act.put _ (some 81) _ = _
            simp only [Act.put, List.setIfInBounds_toArray, List.set_cons_zero, List.set_cons_succ]
            rfl
          refine q_on (v := ?_) (by rfl) ?_ ?_
          rotate_left
          · intro w' hC
            go_simp
            with_reducible rfl
          rotate_left
          refine q_norm (a' := ?_) ?_ ?_
          rotate_left
          · show Act.put _ (some 82) _ = _
            simp only [Act.put, List.setIfInBounds_toArray, List.set_cons_zero, List.set_cons_succ]
            rfl
          refine q_on (v := ?_) (by rfl) ?_ ?_
          rotate_left
          · intro w' hC
            go_simp
            with_reducible rfl
          rotate_left
          refine q_norm (a' := ?_) ?_ ?_
          rotate_left
          · show Act.put _ (some 83) _ = _
            simp only [Act.put, List.setIfInBounds_toArray, List.set_cons_zero, List.set_cons_succ]
            rfl
          refine q_call (f := 11) Tryd.func11 (by kernel_rfl) rfl #[] (by rfl) rfl (by simp only [List.map_toArray, List.map_nil]) _ (fun w' hC => q_of hC (awake_any w')) ?_
          refine q_norm (a' := ?_) ?_ ?_
          rotate_left
          · show Act.put _ (some 84) _ = _
            simp only [Act.put, List.setIfInBounds_toArray, List.set_cons_zero, List.set_cons_succ]
            rfl
          refine q_on (v := ?_) (by rfl) ?_ ?_
          rotate_left
          · intro w' hC
            go_simp
            with_reducible rfl
          rotate_left
          refine q_norm (a' := ?_) ?_ ?_
          rotate_left
          · show Act.put _ (some 85) _ = _
            simp only [Act.put, List.setIfInBounds_toArray, List.set_cons_zero, List.set_cons_succ]
            rfl
          refine q_on (v := ?_) (by rfl) ?_ ?_
          rotate_left
          · intro w' hC
            go_simp
            with_reducible rfl
          rotate_left
          refine q_norm (a' := ?_) ?_ ?_
          rotate_left
          · show Act.put _ (some 12) _ = _
            simp only [Act.put, List.setIfInBounds_toArray, List.set_cons_zero, List.set_cons_succ]
            rfl
          refine wpQuiet_nil ?_
          intro w' hC
          go_wp2_with fail
          go_ret
          exact ⟨rfl, HW2.out.trans hC⟩
        | true =>
          have HU := Lib.hid hu
          have HZ := Lib.hid (leq_trans hs hu)
          clear hu hs
          refine q_list _ _ _ (Chg.refl NoB _) ?_
          refine q_on (v := ?_) (by rfl) ?_ ?_
          rotate_left
          · intro w' hC
            go_simp
            with_reducible rfl
          rotate_left
          refine q_norm (a' := ?_) ?_ ?_
          rotate_left
          · show Act.put _ (some 49) _ = _
            simp only [Act.put, List.setIfInBounds_toArray, List.set_cons_zero, List.set_cons_succ]
            rfl
          refine q_on (v := ?_) (by rfl) ?_ ?_
          rotate_left
          · intro w' hC
            obtain ⟨c0, c1, c2, c3, c4, c5, c6, c7⟩ := eight (E3.out.chg hC id)
            go_simp
            with_reducible rfl
          rotate_left
          refine q_norm (a' := ?_) ?_ ?_
          rotate_left
          · show Act.put _ (some 50) _ = _
            simp only [Act.put, List.setIfInBounds_toArray, List.set_cons_zero, List.set_cons_succ]
            rfl
          refine q_on (v := ?_) (by rfl) ?_ ?_
          rotate_left
          · intro w' hC
            obtain ⟨c0, c1, c2, c3, c4, c5, c6, c7⟩ := eight (E4.out.chg hC id)
            go_simp
            with_reducible rfl
          rotate_left
          refine q_norm (a' := ?_) ?_ ?_
          rotate_left
          · show Act.put _ (some 51) _ = _
            simp only [Act.put, List.setIfInBounds_toArray, List.set_cons_zero, List.set_cons_succ]
            rfl
          refine q_call (f := 10) Tryd.func10 (by kernel_rfl) rfl #[vec a, vec b] (by rfl) rfl (by simp only [List.map_toArray, List.map_cons, List.map_nil]; rfl) _ (fun w' hC => q_of hC (leq_is HS.out w')) ?_
          refine q_norm (a' := ?_) ?_ ?_
          rotate_left
          · show Act.put _ (some 52) _ = _
            simp only [Act.put, List.setIfInBounds_toArray, List.set_cons_zero, List.set_cons_succ]
            rfl
          refine q_on (v := ?_) (by rfl) ?_ ?_
          rotate_left
          · intro w' hC
            go_simp
            with_reducible rfl
          rotate_left
          refine q_norm (a' := ?_) ?_ ?_
          rotate_left
          · show Act.put _ (some 53) _ = _
            simp only [Act.put, List.setIfInBounds_toArray, List.set_cons_zero, List.set_cons_succ]
            rfl
          refine q_on (v := ?_) (by rfl) ?_ ?_
          rotate_left
          · intro w' hC
            go_simp
            with_reducible rfl
          rotate_left
          refine q_norm (a' := ?_) ?_ ?_
          rotate_left
          · show Act.put _ (some 54) _ = _
            simp only [Act.put, List.setIfInBounds_toArray, List.set_cons_zero, List.set_cons_succ]
            rfl
          refine q_on (v := ?_) (by rfl) ?_ ?_
          rotate_left
          · intro w' hC
            obtain ⟨c0, c1, c2, c3, c4, c5, c6, c7⟩ := eight (E4.out.chg hC id)
            go_simp
            with_reducible rfl
          rotate_left
          refine q_norm (a' := ?_) ?_ ?_
          rotate_left
          · show Act.put _ (some 55) _ = _
            simp only [Act.put, List.setIfInBounds_toArray, List.set_cons_zero, List.set_cons_succ]
            rfl
          refine q_on (v := ?_) (by rfl) ?_ ?_
          rotate_left
          · intro w' hC
            obtain ⟨c0, c1, c2, c3, c4, c5, c6, c7⟩ := eight (E3.out.chg hC id)
            go_simp
            with_reducible rfl
          rotate_left
          refine q_norm (a' := ?_) ?_ ?_
          rotate_left
          · show Act.put _ (some 56) _ = _
            simp only [Act.put, List.setIfInBounds_toArray, List.set_cons_zero, List.set_cons_succ]
            rfl
          refine q_call (f := 10) Tryd.func10 (by kernel_rfl) rfl #[vec b, vec a] (by rfl) rfl (by simp only [List.map_toArray, List.map_cons, List.map_nil]; rfl) _ (fun w' hC => q_of hC (leq_is HT.out w')) ?_
          refine q_norm (a' := ?_) ?_ ?_
          rotate_left
          · show Act.put _ (some 57) _ = _
            simp only [Act.put, List.setIfInBounds_toArray, List.set_cons_zero, List.set_cons_succ]
            rfl
          refine q_on (v := ?_) (by rfl) ?_ ?_
          rotate_left
          · intro w' hC
            go_simp
            with_reducible rfl
          rotate_left
          refine q_norm (a' := ?_) ?_ ?_
          rotate_left
          · show Act.put _ (some 58) _ = _
            simp only [Act.put, List.setIfInBounds_toArray, List.set_cons_zero, List.set_cons_succ]
            rfl
          refine q_on (v := ?_) (by rfl) ?_ ?_
          rotate_left
          · intro w' hC
            go_simp
            with_reducible rfl
          rotate_left
          refine q_norm (a' := ?_) ?_ ?_
          rotate_left
          · show Act.put _ (some 59) _ = _
            simp only [Act.put, List.setIfInBounds_toArray, List.set_cons_zero, List.set_cons_succ]
            rfl
          refine q_on (v := ?_) (by rfl) ?_ ?_
          rotate_left
          · intro w' hC
            go_simp
            with_reducible rfl
          rotate_left
          refine q_norm (a' := ?_) ?_ ?_
          rotate_left
          · show Act.put _ (some 60) _ = _
            simp only [Act.put, List.setIfInBounds_toArray, List.set_cons_zero, List.set_cons_succ]
            rfl
          refine q_on (v := ?_) (by rfl) ?_ ?_
          rotate_left
          · intro w' hC
            obtain ⟨c0, c1, c2, c3, c4, c5, c6, c7⟩ := eight (E3.out.chg hC id)
            go_simp
            with_reducible rfl
          rotate_left
          refine q_norm (a' := ?_) ?_ ?_
          rotate_left
          · show Act.put _ (some 61) _ = _
            simp only [Act.put, List.setIfInBounds_toArray, List.set_cons_zero, List.set_cons_succ]
            rfl
          refine q_on (v := ?_) (by rfl) ?_ ?_
          rotate_left
          · intro w' hC
            obtain ⟨c0, c1, c2, c3, c4, c5, c6, c7⟩ := eight (E4.out.chg hC id)
            go_simp
            with_reducible rfl
          rotate_left
          refine q_norm (a' := ?_) ?_ ?_
          rotate_left
          · show Act.put _ (some 62) _ = _
            simp only [Act.put, List.setIfInBounds_toArray, List.set_cons_zero, List.set_cons_succ]
            rfl
          refine q_on (v := ?_) (by rfl) ?_ ?_
          rotate_left
          · intro w' hC
            go_simp
            with_reducible rfl
          rotate_left
          refine q_norm (a' := ?_) ?_ ?_
          rotate_left
          · show Act.put _ (some 63) _ = _
            simp only [Act.put, List.setIfInBounds_toArray, List.set_cons_zero, List.set_cons_succ]
            rfl
          refine q_on (v := ?_) (by rfl) ?_ ?_
          rotate_left
          · intro w' hC
            go_simp
            with_reducible rfl
          rotate_left
          refine q_norm (a' := ?_) ?_ ?_
          rotate_left
          · show Act.put _ (some 64) _ = _
            simp only [Act.put, List.setIfInBounds_toArray, List.set_cons_zero, List.set_cons_succ]
            rfl
          refine q_on (v := ?_) (by rfl) ?_ ?_
          rotate_left
          · intro w' hC
            go_simp
            with_reducible rfl
          rotate_left
          refine q_norm (a' := ?_) ?_ ?_
          rotate_left
          · show Act.put _ (some 65) _ = _
            simp only [Act.put, List.setIfInBounds_toArray, List.set_cons_zero, List.set_cons_succ]
            rfl
          refine q_on (v := ?_) (by rfl) ?_ ?_
          rotate_left
          · intro w' hC
            go_simp
            with_reducible rfl
          rotate_left
          refine q_norm (a' := ?_) ?_ ?_
          rotate_left
          · show Act.put _ (some 66) _ = _
            simp only [Act.put, List.setIfInBounds_toArray, List.set_cons_zero, List.set_cons_succ]
            rfl
          refine q_on (v := ?_) (by rfl) ?_ ?_
          rotate_left
          · intro w' hC
            obtain ⟨c0, c1, c2, c3, c4, c5, c6, c7⟩ := eight (E3.out.chg hC id)
            go_simp
            with_reducible rfl
          rotate_left
          refine q_norm (a' := ?_) ?_ ?_
          rotate_left
          · show Act.put _ (some 67) _ = _
            simp only [Act.put, List.setIfInBounds_toArray, List.set_cons_zero, List.set_cons_succ]
            rfl
          refine q_on (v := ?_) (by rfl) ?_ ?_
          rotate_left
          · intro w' hC
            obtain ⟨c0, c1, c2, c3, c4, c5, c6, c7⟩ := eight (E4.out.chg hC id)
            go_simp
            with_reducible rfl
          rotate_left
          refine q_norm (a' := ?_) ?_ ?_
          rotate_left
          · show Act.put _ (some 68) _ = _
            simp only [Act.put, List.setIfInBounds_toArray, List.set_cons_zero, List.set_cons_succ]
            rfl
          refine q_call (f := 10) Tryd.func10 (by kernel_rfl) rfl #[vec a, vec b] (by rfl) rfl (by simp only [List.map_toArray, List.map_cons, List.map_nil]; rfl) _ (fun w' hC => q_of hC (leq_is HS.out w')) ?_
          refine q_norm (a' := ?_) ?_ ?_
          rotate_left
          · show Act.put _ (some 69) _ = _
            simp only [Act.put, List.setIfInBounds_toArray, List.set_cons_zero, List.set_cons_succ]
            rfl
          refine q_on (v := ?_) (by rfl) ?_ ?_
          rotate_left
          · intro w' hC
            go_simp
            with_reducible rfl
          rotate_left
          refine q_norm (a' := ?_) ?_ ?_
          rotate_left
          · show Act.put _ (some 70) _ = _
            simp only [Act.put, List.setIfInBounds_toArray, List.set_cons_zero, List.set_cons_succ]
            rfl
          refine q_on (v := ?_) (by rfl) ?_ ?_
          rotate_left
          · intro w' hC
            go_simp
            with_reducible rfl
          rotate_left
          refine q_norm (a' := ?_) ?_ ?_
          rotate_left
          · show Act.put _ (some 71) _ = _
            simp only [Act.put, List.setIfInBounds_toArray, List.set_cons_zero, List.set_cons_succ]
            rfl
          refine q_on (v := ?_) (by rfl) ?_ ?_
          rotate_left
          · intro w' hC
            obtain ⟨c0, c1, c2, c3, c4, c5, c6, c7⟩ := eight (E4.out.chg hC id)
            go_simp
            with_reducible rfl
          rotate_left
          refine q_norm (a' := ?_) ?_ ?_
          rotate_left
          · show Act.put _ (some 72) _ = _
            simp only [Act.put, List.setIfInBounds_toArray, List.set_cons_zero, List.set_cons_succ]
            rfl
          refine q_on (v := ?_) (by rfl) ?_ ?_
          rotate_left
          · intro w' hC
            obtain ⟨c0, c1, c2, c3, c4, c5, c6, c7⟩ := eight (E5.out.chg hC id)
            go_simp
            with_reducible rfl
          rotate_left
          refine q_norm (a' := ?_) ?_ ?_
          rotate_left
          · show Act.put _ (some 73) _ = _
            simp only [Act.put, List.setIfInBounds_toArray, List.set_cons_zero, List.set_cons_succ]
            rfl
          refine q_call (f := 10) Tryd.func10 (by kernel_rfl) rfl #[vec b, vec c] (by rfl) rfl (by simp only [List.map_toArray, List.map_cons, List.map_nil]; rfl) _ (fun w' hC => q_of hC (leq_is HU.out w')) ?_
          refine q_norm (a' := ?_) ?_ ?_
          rotate_left
          · show Act.put _ (some 74) _ = _
            simp only [Act.put, List.setIfInBounds_toArray, List.set_cons_zero, List.set_cons_succ]
            rfl
          refine q_on (v := ?_) (by rfl) ?_ ?_
          rotate_left
          · intro w' hC
            go_simp
            with_reducible rfl
          rotate_left
          refine q_norm (a' := ?_) ?_ ?_
          rotate_left
          · show Act.put _ (some 75) _ = _
            simp only [Act.put, List.setIfInBounds_toArray, List.set_cons_zero, List.set_cons_succ]
            rfl
          refine q_on (v := ?_) (by rfl) ?_ ?_
          rotate_left
          · intro w' hC
            go_simp
            with_reducible rfl
          rotate_left
          refine q_norm (a' := ?_) ?_ ?_
          rotate_left
          · show Act.put _ (some 76) _ = _
            simp only [Act.put, List.setIfInBounds_toArray, List.set_cons_zero, List.set_cons_succ]
            rfl
          refine q_on (v := ?_) (by rfl) ?_ ?_
          rotate_left
          · intro w' hC
            go_simp
            with_reducible rfl
          rotate_left
          refine q_norm (a' := ?_) ?_ ?_
          rotate_left
          · show Act.put _ (some 77) _ = _
            simp only [Act.put, List.setIfInBounds_toArray, List.set_cons_zero, List.set_cons_succ]
            rfl
          refine q_on (v := ?_) (by rfl) ?_ ?_
          rotate_left
          · intro w' hC
            obtain ⟨c0, c1, c2, c3, c4, c5, c6, c7⟩ := eight (E3.out.chg hC id)
            go_simp
            with_reducible rfl
          rotate_left
          refine q_norm (a' := ?_) ?_ ?_
          rotate_left
          · show Act.put _ (some 78) _ = _
            simp only [Act.put, List.setIfInBounds_toArray, List.set_cons_zero, List.set_cons_succ]
            rfl
          refine q_on (v := ?_) (by rfl) ?_ ?_
          rotate_left
          · intro w' hC
            obtain ⟨c0, c1, c2, c3, c4, c5, c6, c7⟩ := eight (E5.out.chg hC id)
            go_simp
            with_reducible rfl
          rotate_left
          refine q_norm (a' := ?_) ?_ ?_
          rotate_left
          · show Act.put _ (some 79) _ = _
            simp only [Act.put, List.setIfInBounds_toArray, List.set_cons_zero, List.set_cons_succ]
            rfl
          refine q_call (f := 10) Tryd.func10 (by kernel_rfl) rfl #[vec a, vec c] (by rfl) rfl (by simp only [List.map_toArray, List.map_cons, List.map_nil]; rfl) _ (fun w' hC => q_of hC (leq_is HZ.out w')) ?_
          refine q_norm (a' := ?_) ?_ ?_
          rotate_left
          · show Act.put _ (some 80) _ = _
            simp only [Act.put, List.setIfInBounds_toArray, List.set_cons_zero, List.set_cons_succ]
            rfl
          refine q_on (v := ?_) (by rfl) ?_ ?_
          rotate_left
          · intro w' hC
            go_simp
            with_reducible rfl
          rotate_left
          refine q_norm (a' := ?_) ?_ ?_
          rotate_left
          · show Act.put _ (some 81) _ = _
            simp only [Act.put, List.setIfInBounds_toArray, List.set_cons_zero, List.set_cons_succ]
            rfl
          refine q_on (v := ?_) (by rfl) ?_ ?_
          rotate_left
          · intro w' hC
            go_simp
            with_reducible rfl
          rotate_left
          refine q_norm (a' := ?_) ?_ ?_
          rotate_left
          · show Act.put _ (some 82) _ = _
            simp only [Act.put, List.setIfInBounds_toArray, List.set_cons_zero, List.set_cons_succ]
            rfl
          refine q_on (v := ?_) (by rfl) ?_ ?_
          rotate_left
          · intro w' hC
            go_simp
            with_reducible rfl
          rotate_left
          refine q_norm (a' := ?_) ?_ ?_
          rotate_left
          · show Act.put _ (some 83) _ = _
            simp only [Act.put, List.setIfInBounds_toArray, List.set_cons_zero, List.set_cons_succ]
            rfl
          refine q_call (f := 11) Tryd.func11 (by kernel_rfl) rfl #[] (by rfl) rfl (by simp only [List.map_toArray, List.map_nil]) _ (fun w' hC => q_of hC (awake_any w')) ?_
          refine q_norm (a' := ?_) ?_ ?_
          rotate_left
          · show Act.put _ (some 84) _ = _
            simp only [Act.put, List.setIfInBounds_toArray, List.set_cons_zero, List.set_cons_succ]
            rfl
          refine q_on (v := ?_) (by rfl) ?_ ?_
          rotate_left
          · intro w' hC
            go_simp
            with_reducible rfl
          rotate_left
          refine q_norm (a' := ?_) ?_ ?_
          rotate_left
          · show Act.put _ (some 85) _ = _
            simp only [Act.put, List.setIfInBounds_toArray, List.set_cons_zero, List.set_cons_succ]
            rfl
          refine q_on (v := ?_) (by rfl) ?_ ?_
          rotate_left
          · intro w' hC
            go_simp
            with_reducible rfl
          rotate_left
          refine q_norm (a' := ?_) ?_ ?_
          rotate_left
          · show Act.put _ (some 12) _ = _
            simp only [Act.put, List.setIfInBounds_toArray, List.set_cons_zero, List.set_cons_succ]
            rfl
          refine wpQuiet_nil ?_
          intro w' hC
          go_wp2_with fail
          go_ret
          exact ⟨rfl, HW2.out.trans hC⟩
theorem vectorOrder_walk (v0 : Value) (D0 : Int × Int) (v1 : Value) (D1 : Int × Int) (v2 : Value) (D2 : Int × Int) (v3 : Value) (D3 : Vc) (v4 : Value) (D4 : Vc) (v5 : Value) (D5 : Vc) (w : World) (w0 : DotAt v0 D0) (w1 : DotAt v1 D1) (w2 : DotAt v2 D2) (w3 : VecAt v3 D3) (w4 : VecAt v4 D4) (w5 : VecAt v5 D5) :
    Calls Tryd.prog 7 #[v0, v1, v2, v3, v4, v5] w fun e w' => e = .returned (.bool true) ∧ Below w.heap.size w w' := by
  obtain ⟨rfl, _⟩ := w0
  obtain ⟨rfl, _⟩ := w1
  obtain ⟨rfl, _⟩ := w2
  obtain ⟨rfl, _⟩ := w3
  obtain ⟨rfl, _⟩ := w4
  obtain ⟨rfl, _⟩ := w5
  exact (vectorOrder_any D0.1 D0.2 D1.1 D1.2 D2.1 D2.2 D3 D4 D5 w).mono fun _ _ ⟨h1, h2⟩ => ⟨h1, h2.below⟩
end Go.Proofs.YthkmocfdpmlllaaDoor
