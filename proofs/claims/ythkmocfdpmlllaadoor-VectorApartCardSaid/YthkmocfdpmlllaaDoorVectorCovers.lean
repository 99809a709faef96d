/- VectorCovers: the walk. -/
import Derived.Test.YthkmocfdpmlllaaDoorVectorOrder
namespace Go.Proofs.YthkmocfdpmlllaaDoor
open Go.RowKit
attribute [local go_sem] max2_mx max_two_ eq_nums
attribute [local irreducible] wpQuiet

theorem covers_is {f : Vc} {n x : Int} {b : Bool} (h : cov f n x = b) (w : World) : Calls Tryd.prog 14 #[vec f, dot n x] w fun e w' => e = .returned (.bool b) ∧ Chg NoB w w' := h ▸ covers_any f n x w
theorem with_is {f g : Vc} {n x : Int} (h : wit f n x = g) (w : World) : Calls Tryd.prog 15 #[vec f, dot n x] w fun e w' => e = .returned (vec g) ∧ Chg NoB w w' := h ▸ with_any f n x w
theorem may_is {f : Vc} {b : Bool} (h : may f = b) (w : World) : Calls Tryd.prog 12 #[vec f] w fun e w' => e = .returned (.bool b) ∧ Chg NoB w w' := h ▸ may_any f w
theorem cov_iff {f : Vc} {n x : Int} : cov f n x = true ↔ (0 ≤ n ∧ n < 8) ∧ 1 ≤ x ∧ x ≤ f n.toNat := by simp [cov]
theorem cov_jn (f g : Vc) (n x : Int) : cov (jn f g) n x = (cov f n x || cov g n x) := by
  rw [Bool.eq_iff_iff, Bool.or_eq_true, cov_iff, cov_iff, cov_iff]
  unfold jn mx
  split <;> constructor <;> intro h
  · exact .inr h
  · rcases h with h | h
    · exact ⟨h.1, h.2.1, by omega⟩
    · exact h
  · exact .inl h
  · rcases h with h | h
    · exact h
    · exact ⟨h.1, h.2.1, by omega⟩
theorem wit_at {f : Vc} {n x : Int} (h : 0 ≤ n ∧ n < 8) (k : Nat) : wit f n x k = if k = n.toNat then mx (f k) x else f k := by
  unfold wit upd
  rw [if_pos h]
  by_cases e : k = n.toNat
  · subst e; simp
  · simp [e]
theorem cov_wit {f : Vc} {n x : Int} (h : 0 ≤ n ∧ n < 8) (hx : 1 ≤ x) : cov (wit f n x) n x = true := by
  rw [cov_iff, wit_at h, if_pos rfl]
  refine ⟨h, hx, ?_⟩
  unfold mx; split <;> omega
theorem leq_wit {f : Vc} {n x : Int} (h : 0 ≤ n ∧ n < 8) : leq f (wit f n x) = true := leq_iff.2 fun k _ => by
  rw [wit_at h]
  unfold mx
  split
  · split <;> omega
  · omega
theorem nxt_ok {f : Vc} {n : Int} (h : nxtE f n = 0) : (0 ≤ n ∧ n < 8) ∧ f n.toNat < lim ∧ nxtN f n = n ∧ nxtX f n = f n.toNat + 1 := by
  unfold nxtE at h
  split at h
  · next hn =>
    split at h
    · next hl => exact ⟨hn, hl, if_pos ⟨hn, hl⟩, if_pos ⟨hn, hl⟩⟩
    · omega
  · omega
theorem nxt_fresh {f : Vc} {n : Int} (h : nxtE f n = 0) : cov f (nxtN f n) (nxtX f n) = false := by
  obtain ⟨h1, _, h3, h4⟩ := nxt_ok h
  rw [h3, h4, ← Bool.not_eq_true, cov_iff]
  omega
theorem nxt_seen {f : Vc} {n : Int} (h : nxtE f n = 0) (hm : may f = true) : cov (wit f (nxtN f n) (nxtX f n)) (nxtN f n) (nxtX f n) = true := by
  obtain ⟨h1, _, h3, h4⟩ := nxt_ok h
  have := (may_iff.1 hm n.toNat (by omega)).1
  rw [h3, h4]
  exact cov_wit h1 (by omega)
theorem nxt_may {f : Vc} {n : Int} (h : nxtE f n = 0) (hm : may f = true) : may (wit f (nxtN f n) (nxtX f n)) = true := by
  obtain ⟨h1, h2, h3, h4⟩ := nxt_ok h
  rw [h3, h4, may_iff]
  intro k hk
  have h0 := may_iff.1 hm k hk
  rw [wit_at h1]
  by_cases e : k = n.toNat
  · subst e
    rw [if_pos rfl]
    unfold inr_ mx lim at *
    split <;> omega
  · rw [if_neg e]; exact h0

set_option maxHeartbeats 16000000 in
theorem vectorCovers_any (a b : Vc) (n x node : Int) (w : World) (hlow : ∀ k, k < 8 → -9223372036854775808 ≤ a k) : Calls Tryd.prog 5 #[vec a, vec b, dot n x, .int .i64 node] w fun e w' => e = .returned (.bool true) ∧ Chg NoB w w' := by
  go_enter Tryd.func5, Tryd.ntmps5
  go_wp2_with fail
  have hjq := cov_jn a b n x
  generalize hj : jn a b = j at *
  refine (join_is hj _).mono ?_
  rintro e w1 ⟨rfl, hC⟩
  have B0 := Lib.hid (Blk.chg (((Blk.new w 23 (va a)).alloc _).alloc _) hC id)
  have B1 := Lib.hid (Blk.chg ((Blk.new_ (k := w.heap.size + 1) _ 23 (va b) (by simp)).alloc _) hC id)
  have B2 := Lib.hid (Blk.chg (Blk.new_ (k := w.heap.size + 1 + 1) _ 31 #[.int .i64 n, .int .i64 x] (by simp)) hC id)
  have HC := Lib.hid ((((((Chg.refl NoB w).alloc _).alloc _).alloc _)).trans hC)
  have HJ := Lib.hid hjq
  clear hC hjq hj
  go_wp2_with fail
  generalize hW : w1.alloc (Obj.cells (va j) 23) = W
  have C0 : Hid (Blk W w.heap.size 23 (va a)) := Lib.hid (by rw [← hW]; exact B0.out.alloc _)
  have C1 : Hid (Blk W (w.heap.size + 1) 23 (va b)) := Lib.hid (by rw [← hW]; exact B1.out.alloc _)
  have C2 : Hid (Blk W (w.heap.size + 1 + 1) 31 #[.int .i64 n, .int .i64 x]) := Lib.hid (by rw [← hW]; exact B2.out.alloc _)
  have C3 : Hid (Blk W w1.heap.size 23 (va j)) := Lib.hid (by rw [← hW]; exact Blk.new _ _ _)
  have HW : Hid (Chg NoB w W) := Lib.hid (by rw [← hW]; exact HC.out.alloc _)
  clear hW B0 B1 B2 HC
  generalize w1.heap.size = b3 at *
  generalize hb0 : w.heap.size = b0 at *
  clear hb0
  refine q_start2 (fun a' => ∃ t12 t13 t14 t15 t16 t17 t18 t19 t20 t21 t22 t23 t24 t25 : Value, a' = ⟨#[vec a, vec b, dot n x, .int .i64 node, .pointer (some ⟨b0, 0, none⟩), .pointer (some ⟨b0 + 1, 0, none⟩), .pointer (some ⟨b0 + 1 + 1, 0, none⟩), undef, .bool false, .pointer (some ⟨b3, 0, none⟩), undef, undef, t12, t13, t14, t15, t16, t17, t18, t19, t20, t21, t22, t23, t24, t25, .bool false, undef, undef, undef, undef, undef, undef, undef, undef, undef, undef, undef, undef, undef, undef, undef, undef, undef, undef, undef, undef, undef, undef, undef, undef, undef, undef, undef, undef, undef, undef, undef, undef, undef, undef, undef, undef, undef, undef, undef, undef, undef, undef, undef, undef, undef, undef, undef, undef, undef, undef, undef, undef, undef, undef, undef, undef, undef, undef, undef, undef, undef, undef, undef], []⟩) (by kernel_rfl) (by kernel_rfl) ?_ ?_
  · cases hp : cov a n x with
    | true =>
      have HP := Lib.hid hp
      have HQ : Hid (cov j n x = true) := Lib.hid (by rw [HJ.out, hp]; rfl)
      clear hp
      refine q_on (v := ?_) (by rfl) ?_ ?_
      rotate_left
      · intro w' hC
        obtain ⟨c0, c1, c2, c3, c4, c5, c6, c7⟩ := eight (C3.out.chg hC id)
        go_simp
        with_reducible rfl
      rotate_left
      refine q_norm (a' := ?_) ?_ ?_
      rotate_left
      · show Act.put _ (some 15) _ = _
        simp only [Act.put, List.setIfInBounds_toArray, List.set_cons_zero, List.set_cons_succ]
        rfl
      refine q_on (v := ?_) (by rfl) ?_ ?_
      rotate_left
      · intro w' hC
        obtain ⟨c0, c1⟩ := two (C2.out.chg hC id)
        go_simp
        with_reducible rfl
      rotate_left
      refine q_norm (a' := ?_) ?_ ?_
      rotate_left
      · show Act.put _ (some 16) _ = _
        simp only [Act.put, List.setIfInBounds_toArray, List.set_cons_zero, List.set_cons_succ]
        rfl
      refine q_call (f := 14) Tryd.func14 (by kernel_rfl) rfl #[vec j, dot n x] (by rfl) rfl (by simp only [List.map_toArray, List.map_cons, List.map_nil]; rfl) _ (fun w' hC => q_of hC (covers_is HQ.out w')) ?_
      refine q_norm (a' := ?_) ?_ ?_
      rotate_left
      · show Act.put _ (some 17) _ = _
        simp only [Act.put, List.setIfInBounds_toArray, List.set_cons_zero, List.set_cons_succ]
        rfl
      refine q_on (v := ?_) (by rfl) ?_ ?_
      rotate_left
      · intro w' hC
        obtain ⟨c0, c1, c2, c3, c4, c5, c6, c7⟩ := eight (C0.out.chg hC id)
        go_simp
        with_reducible rfl
      rotate_left
      refine q_norm (a' := ?_) ?_ ?_
      rotate_left
      · show Act.put _ (some 18) _ = _
        simp only [Act.put, List.setIfInBounds_toArray, List.set_cons_zero, List.set_cons_succ]
        rfl
      refine q_on (v := ?_) (by rfl) ?_ ?_
      rotate_left
      · intro w' hC
        obtain ⟨c0, c1⟩ := two (C2.out.chg hC id)
        go_simp
        with_reducible rfl
      rotate_left
      refine q_norm (a' := ?_) ?_ ?_
      rotate_left
      · show Act.put _ (some 19) _ = _
        simp only [Act.put, List.setIfInBounds_toArray, List.set_cons_zero, List.set_cons_succ]
        rfl
      refine q_call (f := 14) Tryd.func14 (by kernel_rfl) rfl #[vec a, dot n x] (by rfl) rfl (by simp only [List.map_toArray, List.map_cons, List.map_nil]; rfl) _ (fun w' hC => q_of hC (covers_is HP.out w')) ?_
      refine q_norm (a' := ?_) ?_ ?_
      rotate_left
      · show Act.put _ (some 20) _ = _
        simp only [Act.put, List.setIfInBounds_toArray, List.set_cons_zero, List.set_cons_succ]
        rfl
      refine q_on (v := ?_) (by rfl) ?_ ?_
      rotate_left
      · intro w' hC
        go_simp
        with_reducible rfl
      rotate_left
      refine q_norm (a' := ?_) ?_ ?_
      rotate_left
      · show Act.put _ (some 21) _ = _
        simp only [Act.put, List.setIfInBounds_toArray, List.set_cons_zero, List.set_cons_succ]
        rfl
      refine q_off (by rfl) ?_
      refine q_norm (a' := ?_) ?_ ?_
      rotate_left
      · show Act.put _ (some 22) _ = _
        simp only [Act.put, List.setIfInBounds_toArray, List.set_cons_zero, List.set_cons_succ]
        rfl
      refine q_off (by rfl) ?_
      refine q_norm (a' := ?_) ?_ ?_
      rotate_left
      · show Act.put _ (some 23) _ = _
        simp only [Act.put, List.setIfInBounds_toArray, List.set_cons_zero, List.set_cons_succ]
        rfl
      refine q_off (by rfl) ?_
      refine q_norm (a' := ?_) ?_ ?_
      rotate_left
      · show Act.put _ (some 24) _ = _
        simp only [Act.put, List.setIfInBounds_toArray, List.set_cons_zero, List.set_cons_succ]
        rfl
      refine q_on (v := ?_) (by rfl) ?_ ?_
      rotate_left
      · intro w' hC
        go_simp
        with_reducible rfl
      rotate_left
      refine q_norm (a' := ?_) ?_ ?_
      rotate_left
      · show Act.put _ (some 25) _ = _
        simp only [Act.put, List.setIfInBounds_toArray, List.set_cons_zero, List.set_cons_succ]
        rfl
      refine q_on (v := ?_) (by rfl) ?_ ?_
      rotate_left
      · intro w' hC
        go_simp
        with_reducible rfl
      rotate_left
      refine q_norm (a' := ?_) ?_ ?_
      rotate_left
      · show Act.put _ (some 26) _ = _
        simp only [Act.put, List.setIfInBounds_toArray, List.set_cons_zero, List.set_cons_succ]
        rfl
      refine wpQuiet_nil ?_
      exact ⟨_, _, _, _, _, _, _, _, _, _, _, _, _, _, rfl⟩
    | false =>
      have HP := Lib.hid hp
      generalize hq : cov b n x = q
      have HQ : Hid (cov j n x = q) := Lib.hid (by rw [HJ.out, hp, hq]; rfl)
      have HR := Lib.hid hq
      clear hp hq
      refine q_on (v := ?_) (by rfl) ?_ ?_
      rotate_left
      · intro w' hC
        obtain ⟨c0, c1, c2, c3, c4, c5, c6, c7⟩ := eight (C3.out.chg hC id)
        go_simp
        with_reducible rfl
      rotate_left
      refine q_norm (a' := ?_) ?_ ?_
      rotate_left
      · show Act.put _ (some 15) _ = _
        simp only [Act.put, List.setIfInBounds_toArray, List.set_cons_zero, List.set_cons_succ]
        rfl
      refine q_on (v := ?_) (by rfl) ?_ ?_
      rotate_left
      · intro w' hC
        obtain ⟨c0, c1⟩ := two (C2.out.chg hC id)
        go_simp
        with_reducible rfl
      rotate_left
      refine q_norm (a' := ?_) ?_ ?_
      rotate_left
      · show Act.put _ (some 16) _ = _
        simp only [Act.put, List.setIfInBounds_toArray, List.set_cons_zero, List.set_cons_succ]
        rfl
      refine q_call (f := 14) Tryd.func14 (by kernel_rfl) rfl #[vec j, dot n x] (by rfl) rfl (by simp only [List.map_toArray, List.map_cons, List.map_nil]; rfl) _ (fun w' hC => q_of hC (covers_is HQ.out w')) ?_
      refine q_norm (a' := ?_) ?_ ?_
      rotate_left
      · show Act.put _ (some 17) _ = _
        simp only [Act.put, List.setIfInBounds_toArray, List.set_cons_zero, List.set_cons_succ]
        rfl
      refine q_on (v := ?_) (by rfl) ?_ ?_
      rotate_left
      · intro w' hC
        obtain ⟨c0, c1, c2, c3, c4, c5, c6, c7⟩ := eight (C0.out.chg hC id)
        go_simp
        with_reducible rfl
      rotate_left
      refine q_norm (a' := ?_) ?_ ?_
      rotate_left
      · show Act.put _ (some 18) _ = _
        simp only [Act.put, List.setIfInBounds_toArray, List.set_cons_zero, List.set_cons_succ]
        rfl
      refine q_on (v := ?_) (by rfl) ?_ ?_
      rotate_left
      · intro w' hC
        obtain ⟨c0, c1⟩ := two (C2.out.chg hC id)
        go_simp
        with_reducible rfl
      rotate_left
      refine q_norm (a' := ?_) ?_ ?_
      rotate_left
      · show Act.put _ (some 19) _ = _
        simp only [Act.put, List.setIfInBounds_toArray, List.set_cons_zero, List.set_cons_succ]
        rfl
      refine q_call (f := 14) Tryd.func14 (by kernel_rfl) rfl #[vec a, dot n x] (by rfl) rfl (by simp only [List.map_toArray, List.map_cons, List.map_nil]; rfl) _ (fun w' hC => q_of hC (covers_is HP.out w')) ?_
      refine q_norm (a' := ?_) ?_ ?_
      rotate_left
      · show Act.put _ (some 20) _ = _
        simp only [Act.put, List.setIfInBounds_toArray, List.set_cons_zero, List.set_cons_succ]
        rfl
      refine q_on (v := ?_) (by rfl) ?_ ?_
      rotate_left
      · intro w' hC
        go_simp
        with_reducible rfl
      rotate_left
      refine q_norm (a' := ?_) ?_ ?_
      rotate_left
      · show Act.put _ (some 21) _ = _
        simp only [Act.put, List.setIfInBounds_toArray, List.set_cons_zero, List.set_cons_succ]
        rfl
      refine q_on (v := ?_) (by rfl) ?_ ?_
      rotate_left
      · intro w' hC
        obtain ⟨c0, c1, c2, c3, c4, c5, c6, c7⟩ := eight (C1.out.chg hC id)
        go_simp
        with_reducible rfl
      rotate_left
      refine q_norm (a' := ?_) ?_ ?_
      rotate_left
      · show Act.put _ (some 22) _ = _
        simp only [Act.put, List.setIfInBounds_toArray, List.set_cons_zero, List.set_cons_succ]
        rfl
      refine q_on (v := ?_) (by rfl) ?_ ?_
      rotate_left
      · intro w' hC
        obtain ⟨c0, c1⟩ := two (C2.out.chg hC id)
        go_simp
        with_reducible rfl
      rotate_left
      refine q_norm (a' := ?_) ?_ ?_
      rotate_left
      · show Act.put _ (some 23) _ = _
        simp only [Act.put, List.setIfInBounds_toArray, List.set_cons_zero, List.set_cons_succ]
        rfl
      refine q_call (f := 14) Tryd.func14 (by kernel_rfl) rfl #[vec b, dot n x] (by rfl) rfl (by simp only [List.map_toArray, List.map_cons, List.map_nil]; rfl) _ (fun w' hC => q_of hC (covers_is HR.out w')) ?_
      refine q_norm (a' := ?_) ?_ ?_
      rotate_left
      · show Act.put _ (some 24) _ = _
        simp only [Act.put, List.setIfInBounds_toArray, List.set_cons_zero, List.set_cons_succ]
        rfl
      refine q_on (v := ?_) (by rfl) ?_ ?_
      rotate_left
      · intro w' hC
        go_simp
        with_reducible rfl
      rotate_left
      refine q_norm (a' := ?_) ?_ ?_
      rotate_left
      · show Act.put _ (some 25) _ = _
        simp only [Act.put, List.setIfInBounds_toArray, List.set_cons_zero, List.set_cons_succ]
        rfl
      refine q_on (v := ?_) (by rfl) ?_ ?_
      rotate_left
      · intro w' hC
        go_simp
        with_reducible rfl
      rotate_left
      refine q_norm (a' := ?_) ?_ ?_
      rotate_left
      · show Act.put _ (some 26) _ = _
        simp only [Act.put, List.setIfInBounds_toArray, List.set_cons_zero, List.set_cons_succ]
        rfl
      refine wpQuiet_nil ?_
      exact ⟨_, _, _, _, _, _, _, _, _, _, _, _, _, _, rfl⟩
  rintro _ w2 ⟨t12, t13, t14, t15, t16, t17, t18, t19, t20, t21, t22, t23, t24, t25, rfl⟩ hC
  have D0 := Lib.hid (C0.out.chg hC id)
  have D1 := Lib.hid (C1.out.chg hC id)
  have D2 := Lib.hid (C2.out.chg hC id)
  have D3 := Lib.hid (C3.out.chg hC id)
  have HD := Lib.hid (HW.out.trans hC)
  clear hC C0 C1 C2 C3 HW
  go_wp2_with fail
  refine q_start2 (fun a' => ∃ t12 t13 t14 t15 t16 t17 t18 t19 t20 t21 t22 t23 t24 t25 t26 t27 t28 t29 t30 t31 t32 t33 t34 t35 t36 t37 t38 t39 t40 t41 t42 t43 t44 t45 t46 t47 t48 t49 t50 t51 t52 t53 t54 : Value, a' = ⟨#[vec a, vec b, dot n x, .int .i64 node, .pointer (some ⟨b0, 0, none⟩), .pointer (some ⟨b0 + 1, 0, none⟩), .pointer (some ⟨b0 + 1 + 1, 0, none⟩), undef, .bool false, .pointer (some ⟨b3, 0, none⟩), undef, undef, t12, t13, t14, t15, t16, t17, t18, t19, t20, t21, t22, t23, t24, t25, t26, t27, t28, t29, t30, t31, t32, t33, t34, t35, t36, t37, t38, t39, t40, t41, t42, t43, t44, t45, t46, t47, t48, t49, t50, t51, t52, t53, t54, .bool false, undef, undef, undef, undef, undef, undef, undef, undef, undef, undef, undef, undef, undef, undef, undef, undef, undef, undef, undef, undef, undef, undef, undef, undef, undef, undef, undef, undef, undef, undef, undef, undef, undef, undef], []⟩) (by kernel_rfl) (by kernel_rfl) ?_ ?_
  · by_cases h0 : 0 ≤ n
    · have g0 : decide (n ≥ 0) = true := decide_eq_true h0
      by_cases h8 : n < 8
      · have g8 : decide (n < 8) = true := decide_eq_true h8
        by_cases hx : 1 ≤ x
        · have gx : decide (x ≥ 1) = true := decide_eq_true hx
          have HV := Lib.hid (cov_wit (f := a) ⟨h0, h8⟩ hx)
          have HL := Lib.hid (leq_wit (f := a) (x := x) ⟨h0, h8⟩)
          generalize hu : wit a n x = u at *
          have HU := Lib.hid hu
          clear hu h0 h8 hx
          refine q_on (v := ?_) (by rfl) ?_ ?_
          rotate_left
          · intro w' hC
            go_simp
            with_reducible rfl
          rotate_left
          refine q_norm (a' := ?_) ?_ ?_
          rotate_left
          · show Act.put _ (some 27) _ = _
            simp only [Act.put, List.setIfInBounds_toArray, List.set_cons_zero, List.set_cons_succ]
            rfl
          refine q_on (v := ?_) (by rfl) ?_ ?_
          rotate_left
          · intro w' hC
            obtain ⟨c0, c1⟩ := two (D2.out.chg hC id)
            go_simp
            with_reducible rfl
          rotate_left
          refine q_norm (a' := ?_) ?_ ?_
          rotate_left
          · show Act.put _ (some 28) _ = _
            simp only [Act.put, List.setIfInBounds_toArray, List.set_cons_zero, List.set_cons_succ]
            rfl
          refine q_on (v := ?_) (by rfl) ?_ ?_
          rotate_left
          · intro w' hC
            go_simp
            with_reducible rfl
          rotate_left
          refine q_norm (a' := ?_) ?_ ?_
          rotate_left
          · show Act.put _ (some 29) _ = _
            simp only [Act.put, List.setIfInBounds_toArray, List.set_cons_zero, List.set_cons_succ]
            rfl
          refine q_on (v := ?_) (by rfl) ?_ ?_
          rotate_left
          · intro w' hC
            go_simp
            with_reducible rfl
          rotate_left
          refine q_norm (a' := ?_) ?_ ?_
          rotate_left
          · show Act.put _ (some 30) _ = _
            simp only [Act.put, List.setIfInBounds_toArray, List.set_cons_zero, List.set_cons_succ]
            rfl
          refine q_on (v := ?_) (by rfl) ?_ ?_
          rotate_left
          · intro w' hC
            go_simp
            with_reducible rfl
          rotate_left
          refine q_norm (a' := ?_) ?_ ?_
          rotate_left
          · show Act.put _ (some 31) _ = _
            simp only [Act.put, List.setIfInBounds_toArray, List.set_cons_zero, List.set_cons_succ]
            rfl
          refine q_on (v := ?_) (by rfl) ?_ ?_
          rotate_left
          · intro w' hC
            obtain ⟨c0, c1⟩ := two (D2.out.chg hC id)
            go_simp
            with_reducible rfl
          rotate_left
          refine q_norm (a' := ?_) ?_ ?_
          rotate_left
          · show Act.put _ (some 32) _ = _
            simp only [Act.put, List.setIfInBounds_toArray, List.set_cons_zero, List.set_cons_succ]
            rfl
          refine q_on (v := ?_) (by rfl) ?_ ?_
          rotate_left
          · intro w' hC
            go_simp
            with_reducible rfl
          rotate_left
          refine q_norm (a' := ?_) ?_ ?_
          rotate_left
          · show Act.put _ (some 33) _ = _
            simp only [Act.put, List.setIfInBounds_toArray, List.set_cons_zero, List.set_cons_succ]
            rfl
          refine q_on (v := ?_) (by rfl) ?_ ?_
          rotate_left
          · intro w' hC
            go_simp
            with_reducible rfl
          rotate_left
          refine q_norm (a' := ?_) ?_ ?_
          rotate_left
          · show Act.put _ (some 34) _ = _
            simp only [Act.put, List.setIfInBounds_toArray, List.set_cons_zero, List.set_cons_succ]
            rfl
          refine q_on (v := ?_) (by rfl) ?_ ?_
          rotate_left
          · intro w' hC
            go_simp
            with_reducible rfl
          rotate_left
          refine q_norm (a' := ?_) ?_ ?_
          rotate_left
          · show Act.put _ (some 35) _ = _
            simp only [Act.put, List.setIfInBounds_toArray, List.set_cons_zero, List.set_cons_succ]
            rfl
          refine q_on (v := ?_) (by rfl) ?_ ?_
          rotate_left
          · intro w' hC
            go_simp
            with_reducible rfl
          rotate_left
          refine q_norm (a' := ?_) ?_ ?_
          rotate_left
          · show Act.put _ (some 36) _ = _
            simp only [Act.put, List.setIfInBounds_toArray, List.set_cons_zero, List.set_cons_succ]
            rfl
          refine q_on (v := ?_) (by rfl) ?_ ?_
          rotate_left
          · intro w' hC
            obtain ⟨c0, c1⟩ := two (D2.out.chg hC id)
            go_simp
            with_reducible rfl
          rotate_left
          refine q_norm (a' := ?_) ?_ ?_
          rotate_left
          · show Act.put _ (some 37) _ = _
            simp only [Act.put, List.setIfInBounds_toArray, List.set_cons_zero, List.set_cons_succ]
            rfl
          refine q_on (v := ?_) (by rfl) ?_ ?_
          rotate_left
          · intro w' hC
            go_simp
            with_reducible rfl
          rotate_left
          refine q_norm (a' := ?_) ?_ ?_
          rotate_left
          · show Act.put _ (some 38) _ = _
            simp only [Act.put, List.setIfInBounds_toArray, List.set_cons_zero, List.set_cons_succ]
            rfl
          refine q_on (v := ?_) (by rfl) ?_ ?_
          rotate_left
          · intro w' hC
            go_simp
            with_reducible rfl
          rotate_left
          refine q_norm (a' := ?_) ?_ ?_
          rotate_left
          · show Act.put _ (some 39) _ = _
            simp only [Act.put, List.setIfInBounds_toArray, List.set_cons_zero, List.set_cons_succ]
            rfl
          refine q_on (v := ?_) (by rfl) ?_ ?_
          rotate_left
          · intro w' hC
            go_simp
            with_reducible rfl
          rotate_left
          refine q_norm (a' := ?_) ?_ ?_
          rotate_left
          · show Act.put _ (some 40) _ = _
            simp only [Act.put, List.setIfInBounds_toArray, List.set_cons_zero, List.set_cons_succ]
            rfl
          refine q_on (v := ?_) (by rfl) ?_ ?_
          rotate_left
          · intro w' hC
            obtain ⟨c0, c1, c2, c3, c4, c5, c6, c7⟩ := eight (D0.out.chg hC id)
            go_simp
            with_reducible rfl
          rotate_left
          refine q_norm (a' := ?_) ?_ ?_
          rotate_left
          · show Act.put _ (some 41) _ = _
            simp only [Act.put, List.setIfInBounds_toArray, List.set_cons_zero, List.set_cons_succ]
            rfl
          refine q_on (v := ?_) (by rfl) ?_ ?_
          rotate_left
          · intro w' hC
            obtain ⟨c0, c1⟩ := two (D2.out.chg hC id)
            go_simp
            with_reducible rfl
          rotate_left
          refine q_norm (a' := ?_) ?_ ?_
          rotate_left
          · show Act.put _ (some 42) _ = _
            simp only [Act.put, List.setIfInBounds_toArray, List.set_cons_zero, List.set_cons_succ]
            rfl
          refine q_call (f := 15) Tryd.func15 (by kernel_rfl) rfl #[vec a, dot n x] (by rfl) rfl (by simp only [List.map_toArray, List.map_cons, List.map_nil]; rfl) _ (fun w' hC => q_of hC (with_is HU.out w')) ?_
          refine q_norm (a' := ?_) ?_ ?_
          rotate_left
          · show Act.put _ (some 43) _ = _
            simp only [Act.put, List.setIfInBounds_toArray, List.set_cons_zero, List.set_cons_succ]
            rfl
          refine q_on (v := ?_) (by rfl) ?_ ?_
          rotate_left
          · intro w' hC
            obtain ⟨c0, c1⟩ := two (D2.out.chg hC id)
            go_simp
            with_reducible rfl
          rotate_left
          refine q_norm (a' := ?_) ?_ ?_
          rotate_left
          · show Act.put _ (some 44) _ = _
            simp only [Act.put, List.setIfInBounds_toArray, List.set_cons_zero, List.set_cons_succ]
            rfl
          refine q_call (f := 14) Tryd.func14 (by kernel_rfl) rfl #[vec u, dot n x] (by rfl) rfl (by simp only [List.map_toArray, List.map_cons, List.map_nil]; rfl) _ (fun w' hC => q_of hC (covers_is HV.out w')) ?_
          refine q_norm (a' := ?_) ?_ ?_
          rotate_left
          · show Act.put _ (some 45) _ = _
            simp only [Act.put, List.setIfInBounds_toArray, List.set_cons_zero, List.set_cons_succ]
            rfl
          refine q_on (v := ?_) (by rfl) ?_ ?_
          rotate_left
          · intro w' hC
            go_simp
            with_reducible rfl
          rotate_left
          refine q_norm (a' := ?_) ?_ ?_
          rotate_left
          · show Act.put _ (some 46) _ = _
            simp only [Act.put, List.setIfInBounds_toArray, List.set_cons_zero, List.set_cons_succ]
            rfl
          refine q_on (v := ?_) (by rfl) ?_ ?_
          rotate_left
          · intro w' hC
            go_simp
            with_reducible rfl
          rotate_left
          refine q_norm (a' := ?_) ?_ ?_
          rotate_left
          · show Act.put _ (some 47) _ = _
            simp only [Act.put, List.setIfInBounds_toArray, List.set_cons_zero, List.set_cons_succ]
            rfl
          refine q_on (v := ?_) (by rfl) ?_ ?_
          rotate_left
          · intro w' hC
            obtain ⟨c0, c1, c2, c3, c4, c5, c6, c7⟩ := eight (D0.out.chg hC id)
            go_simp
            with_reducible rfl
          rotate_left
          refine q_norm (a' := ?_) ?_ ?_
          rotate_left
          · show Act.put _ (some 48) _ = _
            simp only [Act.put, List.setIfInBounds_toArray, List.set_cons_zero, List.set_cons_succ]
            rfl
          refine q_on (v := ?_) (by rfl) ?_ ?_
          rotate_left
          · intro w' hC
            obtain ⟨c0, c1, c2, c3, c4, c5, c6, c7⟩ := eight (D0.out.chg hC id)
            go_simp
            with_reducible rfl
          rotate_left
          refine q_norm (a' := ?_) ?_ ?_
          rotate_left
          · show Act.put _ (some 49) _ = _
            simp only [Act.put, List.setIfInBounds_toArray, List.set_cons_zero, List.set_cons_succ]
            rfl
          refine q_on (v := ?_) (by rfl) ?_ ?_
          rotate_left
          · intro w' hC
            obtain ⟨c0, c1⟩ := two (D2.out.chg hC id)
            go_simp
            with_reducible rfl
          rotate_left
          refine q_norm (a' := ?_) ?_ ?_
          rotate_left
          · show Act.put _ (some 50) _ = _
            simp only [Act.put, List.setIfInBounds_toArray, List.set_cons_zero, List.set_cons_succ]
            rfl
          refine q_call (f := 15) Tryd.func15 (by kernel_rfl) rfl #[vec a, dot n x] (by rfl) rfl (by simp only [List.map_toArray, List.map_cons, List.map_nil]; rfl) _ (fun w' hC => q_of hC (with_is HU.out w')) ?_
          refine q_norm (a' := ?_) ?_ ?_
          rotate_left
          · show Act.put _ (some 51) _ = _
            simp only [Act.put, List.setIfInBounds_toArray, List.set_cons_zero, List.set_cons_succ]
            rfl
          refine q_call (f := 10) Tryd.func10 (by kernel_rfl) rfl #[vec a, vec u] (by rfl) rfl (by simp only [List.map_toArray, List.map_cons, List.map_nil]; rfl) _ (fun w' hC => q_of hC (leq_is HL.out w')) ?_
          refine q_norm (a' := ?_) ?_ ?_
          rotate_left
          · show Act.put _ (some 52) _ = _
            simp only [Act.put, List.setIfInBounds_toArray, List.set_cons_zero, List.set_cons_succ]
            rfl
          refine q_on (v := ?_) (by rfl) ?_ ?_
          rotate_left
          · intro w' hC
            go_simp
            with_reducible rfl
          rotate_left
          refine q_norm (a' := ?_) ?_ ?_
          rotate_left
          · show Act.put _ (some 53) _ = _
            simp only [Act.put, List.setIfInBounds_toArray, List.set_cons_zero, List.set_cons_succ]
            rfl
          refine q_on (v := ?_) (by rfl) ?_ ?_
          rotate_left
          · intro w' hC
            go_simp
            with_reducible rfl
          rotate_left
          refine q_norm (a' := ?_) ?_ ?_
          rotate_left
          · show Act.put _ (some 54) _ = _
            simp only [Act.put, List.setIfInBounds_toArray, List.set_cons_zero, List.set_cons_succ]
            rfl
          refine q_on (v := ?_) (by rfl) ?_ ?_
          rotate_left
          · intro w' hC
            go_simp
            with_reducible rfl
          rotate_left
          refine q_norm (a' := ?_) ?_ ?_
          rotate_left
          · show Act.put _ (some 55) _ = _
            simp only [Act.put, List.setIfInBounds_toArray, List.set_cons_zero, List.set_cons_succ]
            rfl
          refine wpQuiet_nil ?_
          exact ⟨_, _, _, _, _, _, _, _, _, _, _, _, _, _, _, _, _, _, _, _, _, _, _, _, _, _, _, _, _, _, _, _, _, _, _, _, _, _, _, _, _, _, _, rfl⟩
        · have gx : decide (x ≥ 1) = false := decide_eq_false hx
          clear h0 h8 hx
          refine q_on (v := ?_) (by rfl) ?_ ?_
          rotate_left
          · intro w' hC
            go_simp
            with_reducible rfl
          rotate_left
          refine q_norm (a' := ?_) ?_ ?_
          rotate_left
          · show Act.put _ (some 27) _ = _
            simp only [Act.put, List.setIfInBounds_toArray, List.set_cons_zero, List.set_cons_succ]
            rfl
          refine q_on (v := ?_) (by rfl) ?_ ?_
          rotate_left
          · intro w' hC
            obtain ⟨c0, c1⟩ := two (D2.out.chg hC id)
            go_simp
            with_reducible rfl
          rotate_left
          refine q_norm (a' := ?_) ?_ ?_
          rotate_left
          · show Act.put _ (some 28) _ = _
            simp only [Act.put, List.setIfInBounds_toArray, List.set_cons_zero, List.set_cons_succ]
            rfl
          refine q_on (v := ?_) (by rfl) ?_ ?_
          rotate_left
          · intro w' hC
            go_simp
            with_reducible rfl
          rotate_left
          refine q_norm (a' := ?_) ?_ ?_
          rotate_left
          · show Act.put _ (some 29) _ = _
            simp only [Act.put, List.setIfInBounds_toArray, List.set_cons_zero, List.set_cons_succ]
            rfl
          refine q_on (v := ?_) (by rfl) ?_ ?_
          rotate_left
          · intro w' hC
            go_simp
            with_reducible rfl
          rotate_left
          refine q_norm (a' := ?_) ?_ ?_
          rotate_left
          · show Act.put _ (some 30) _ = _
            simp only [Act.put, List.setIfInBounds_toArray, List.set_cons_zero, List.set_cons_succ]
            rfl
          refine q_on (v := ?_) (by rfl) ?_ ?_
          rotate_left
          · intro w' hC
            go_simp
            with_reducible rfl
          rotate_left
          refine q_norm (a' := ?_) ?_ ?_
          rotate_left
          · show Act.put _ (some 31) _ = _
            simp only [Act.put, List.setIfInBounds_toArray, List.set_cons_zero, List.set_cons_succ]
            rfl
          refine q_on (v := ?_) (by rfl) ?_ ?_
          rotate_left
          · intro w' hC
            obtain ⟨c0, c1⟩ := two (D2.out.chg hC id)
            go_simp
            with_reducible rfl
          rotate_left
          refine q_norm (a' := ?_) ?_ ?_
          rotate_left
          · show Act.put _ (some 32) _ = _
            simp only [Act.put, List.setIfInBounds_toArray, List.set_cons_zero, List.set_cons_succ]
            rfl
          refine q_on (v := ?_) (by rfl) ?_ ?_
          rotate_left
          · intro w' hC
            go_simp
            with_reducible rfl
          rotate_left
          refine q_norm (a' := ?_) ?_ ?_
          rotate_left
          · show Act.put _ (some 33) _ = _
            simp only [Act.put, List.setIfInBounds_toArray, List.set_cons_zero, List.set_cons_succ]
            rfl
          refine q_on (v := ?_) (by rfl) ?_ ?_
          rotate_left
          · intro w' hC
            go_simp
            with_reducible rfl
          rotate_left
          refine q_norm (a' := ?_) ?_ ?_
          rotate_left
          · show Act.put _ (some 34) _ = _
            simp only [Act.put, List.setIfInBounds_toArray, List.set_cons_zero, List.set_cons_succ]
            rfl
          refine q_on (v := ?_) (by rfl) ?_ ?_
          rotate_left
          · intro w' hC
            go_simp
            with_reducible rfl
          rotate_left
          refine q_norm (a' := ?_) ?_ ?_
          rotate_left
          · show Act.put _ (some 35) _ = _
            simp only [Act.put, List.setIfInBounds_toArray, List.set_cons_zero, List.set_cons_succ]
            rfl
          refine q_on (v := ?_) (by rfl) ?_ ?_
          rotate_left
          · intro w' hC
            go_simp
            with_reducible rfl
          rotate_left
          refine q_norm (a' := ?_) ?_ ?_
          rotate_left
          · show Act.put _ (some 36) _ = _
            simp only [Act.put, List.setIfInBounds_toArray, List.set_cons_zero, List.set_cons_succ]
            rfl
          refine q_on (v := ?_) (by rfl) ?_ ?_
          rotate_left
          · intro w' hC
            obtain ⟨c0, c1⟩ := two (D2.out.chg hC id)
            go_simp
            with_reducible rfl
          rotate_left
          refine q_norm (a' := ?_) ?_ ?_
          rotate_left
          · show Act.put _ (some 37) _ = _
            simp only [Act.put, List.setIfInBounds_toArray, List.set_cons_zero, List.set_cons_succ]
            rfl
          refine q_on (v := ?_) (by rfl) ?_ ?_
          rotate_left
          · intro w' hC
            go_simp
            with_reducible rfl
          rotate_left
          refine q_norm (a' := ?_) ?_ ?_
          rotate_left
          · show Act.put _ (some 38) _ = _
            simp only [Act.put, List.setIfInBounds_toArray, List.set_cons_zero, List.set_cons_succ]
            rfl
          refine q_on (v := ?_) (by rfl) ?_ ?_
          rotate_left
          · intro w' hC
            go_simp
            with_reducible rfl
          rotate_left
          refine q_norm (a' := ?_) ?_ ?_
          rotate_left
          · show Act.put _ (some 39) _ = _
            simp only [Act.put, List.setIfInBounds_toArray, List.set_cons_zero, List.set_cons_succ]
            rfl
          refine q_on (v := ?_) (by rfl) ?_ ?_
          rotate_left
          · intro w' hC
            go_simp
            with_reducible rfl
          rotate_left
          refine q_norm (a' := ?_) ?_ ?_
          rotate_left
          · show Act.put _ (some 40) _ = _
            simp only [Act.put, List.setIfInBounds_toArray, List.set_cons_zero, List.set_cons_succ]
            rfl
          refine q_off (by rfl) ?_
          refine q_norm (a' := ?_) ?_ ?_
          rotate_left
          · show Act.put _ (some 41) _ = _
            simp only [Act.put, List.setIfInBounds_toArray, List.set_cons_zero, List.set_cons_succ]
            rfl
          refine q_off (by rfl) ?_
          refine q_norm (a' := ?_) ?_ ?_
          rotate_left
          · show Act.put _ (some 42) _ = _
            simp only [Act.put, List.setIfInBounds_toArray, List.set_cons_zero, List.set_cons_succ]
            rfl
          refine q_off (by rfl) ?_
          refine q_norm (a' := ?_) ?_ ?_
          rotate_left
          · show Act.put _ (some 43) _ = _
            simp only [Act.put, List.setIfInBounds_toArray, List.set_cons_zero, List.set_cons_succ]
            rfl
          refine q_off (by rfl) ?_
          refine q_norm (a' := ?_) ?_ ?_
          rotate_left
          · show Act.put _ (some 44) _ = _
            simp only [Act.put, List.setIfInBounds_toArray, List.set_cons_zero, List.set_cons_succ]
            rfl
          refine q_off (by rfl) ?_
          refine q_norm (a' := ?_) ?_ ?_
          rotate_left
          · show Act.put _ (some 45) _ = _
            simp only [Act.put, List.setIfInBounds_toArray, List.set_cons_zero, List.set_cons_succ]
            rfl
          refine q_off (by rfl) ?_
          refine q_norm (a' := ?_) ?_ ?_
          rotate_left
          · show Act.put _ (some 46) _ = _
            simp only [Act.put, List.setIfInBounds_toArray, List.set_cons_zero, List.set_cons_succ]
            rfl
          refine q_off (by rfl) ?_
          refine q_norm (a' := ?_) ?_ ?_
          rotate_left
          · show Act.put _ (some 47) _ = _
            simp only [Act.put, List.setIfInBounds_toArray, List.set_cons_zero, List.set_cons_succ]
            rfl
          refine q_off (by rfl) ?_
          refine q_norm (a' := ?_) ?_ ?_
          rotate_left
          · show Act.put _ (some 48) _ = _
            simp only [Act.put, List.setIfInBounds_toArray, List.set_cons_zero, List.set_cons_succ]
            rfl
          refine q_off (by rfl) ?_
          refine q_norm (a' := ?_) ?_ ?_
          rotate_left
          · show Act.put _ (some 49) _ = _
            simp only [Act.put, List.setIfInBounds_toArray, List.set_cons_zero, List.set_cons_succ]
            rfl
          refine q_off (by rfl) ?_
          refine q_norm (a' := ?_) ?_ ?_
          rotate_left
          · show Act.put _ (some 50) _ = _
            simp only [Act.put, List.setIfInBounds_toArray, List.set_cons_zero, List.set_cons_succ]
            rfl
          refine q_off (by rfl) ?_
          refine q_norm (a' := ?_) ?_ ?_
          rotate_left
          · show Act.put _ (some 51) _ = _
            simp only [Act.put, List.setIfInBounds_toArray, List.set_cons_zero, List.set_cons_succ]
            rfl
          refine q_off (by rfl) ?_
          refine q_norm (a' := ?_) ?_ ?_
          rotate_left
          · show Act.put _ (some 52) _ = _
            simp only [Act.put, List.setIfInBounds_toArray, List.set_cons_zero, List.set_cons_succ]
            rfl
          refine q_off (by rfl) ?_
          refine q_norm (a' := ?_) ?_ ?_
          rotate_left
          · show Act.put _ (some 53) _ = _
            simp only [Act.put, List.setIfInBounds_toArray, List.set_cons_zero, List.set_cons_succ]
            rfl
          refine q_off (by rfl) ?_
          refine q_norm (a' := ?_) ?_ ?_
          rotate_left
          · show Act.put _ (some 54) _ = _
            simp only [Act.put, List.setIfInBounds_toArray, List.set_cons_zero, List.set_cons_succ]
            rfl
          refine q_on (v := ?_) (by rfl) ?_ ?_
          rotate_left
          · intro w' hC
            go_simp
            with_reducible rfl
          rotate_left
          refine q_norm (a' := ?_) ?_ ?_
          rotate_left
          · show Act.put _ (some 55) _ = _
            simp only [Act.put, List.setIfInBounds_toArray, List.set_cons_zero, List.set_cons_succ]
            rfl
          refine wpQuiet_nil ?_
          exact ⟨_, _, _, _, _, _, _, _, _, _, _, _, _, _, _, _, _, _, _, _, _, _, _, _, _, _, _, _, _, _, _, _, _, _, _, _, _, _, _, _, _, _, _, rfl⟩
      · have g8 : decide (n < 8) = false := decide_eq_false h8
        clear h0 h8
        refine q_on (v := ?_) (by rfl) ?_ ?_
        rotate_left
        · intro w' hC
          go_simp
          with_reducible rfl
        rotate_left
        refine q_norm (a' := ?_) ?_ ?_
        rotate_left
        · show Act.put _ (some 27) _ = _
          simp only [Act.put, List.setIfInBounds_toArray, List.set_cons_zero, List.set_cons_succ]
          rfl
        refine q_on (v := ?_) (by rfl) ?_ ?_
        rotate_left
        · intro w' hC
          obtain ⟨c0, c1⟩ := two (D2.out.chg hC id)
          go_simp
          with_reducible rfl
        rotate_left
        refine q_norm (a' := ?_) ?_ ?_
        rotate_left
        · show Act.put _ (some 28) _ = _
          simp only [Act.put, List.setIfInBounds_toArray, List.set_cons_zero, List.set_cons_succ]
          rfl
        refine q_on (v := ?_) (by rfl) ?_ ?_
        rotate_left
        · intro w' hC
          go_simp
          with_reducible rfl
        rotate_left
        refine q_norm (a' := ?_) ?_ ?_
        rotate_left
        · show Act.put _ (some 29) _ = _
          simp only [Act.put, List.setIfInBounds_toArray, List.set_cons_zero, List.set_cons_succ]
          rfl
        refine q_on (v := ?_) (by rfl) ?_ ?_
        rotate_left
        · intro w' hC
          go_simp
          with_reducible rfl
        rotate_left
        refine q_norm (a' := ?_) ?_ ?_
        rotate_left
        · show Act.put _ (some 30) _ = _
          simp only [Act.put, List.setIfInBounds_toArray, List.set_cons_zero, List.set_cons_succ]
          rfl
        refine q_on (v := ?_) (by rfl) ?_ ?_
        rotate_left
        · intro w' hC
          go_simp
          with_reducible rfl
        rotate_left
        refine q_norm (a' := ?_) ?_ ?_
        rotate_left
        · show Act.put _ (some 31) _ = _
          simp only [Act.put, List.setIfInBounds_toArray, List.set_cons_zero, List.set_cons_succ]
          rfl
        refine q_on (v := ?_) (by rfl) ?_ ?_
        rotate_left
        · intro w' hC
          obtain ⟨c0, c1⟩ := two (D2.out.chg hC id)
          go_simp
          with_reducible rfl
        rotate_left
        refine q_norm (a' := ?_) ?_ ?_
        rotate_left
        · show Act.put _ (some 32) _ = _
          simp only [Act.put, List.setIfInBounds_toArray, List.set_cons_zero, List.set_cons_succ]
          rfl
        refine q_on (v := ?_) (by rfl) ?_ ?_
        rotate_left
        · intro w' hC
          go_simp
          with_reducible rfl
        rotate_left
        refine q_norm (a' := ?_) ?_ ?_
        rotate_left
        · show Act.put _ (some 33) _ = _
          simp only [Act.put, List.setIfInBounds_toArray, List.set_cons_zero, List.set_cons_succ]
          rfl
        refine q_on (v := ?_) (by rfl) ?_ ?_
        rotate_left
        · intro w' hC
          go_simp
          with_reducible rfl
        rotate_left
        refine q_norm (a' := ?_) ?_ ?_
        rotate_left
        · show Act.put _ (some 34) _ = _
          simp only [Act.put, List.setIfInBounds_toArray, List.set_cons_zero, List.set_cons_succ]
          rfl
        refine q_on (v := ?_) (by rfl) ?_ ?_
        rotate_left
        · intro w' hC
          go_simp
          with_reducible rfl
        rotate_left
        refine q_norm (a' := ?_) ?_ ?_
        rotate_left
        · show Act.put _ (some 35) _ = _
          simp only [Act.put, List.setIfInBounds_toArray, List.set_cons_zero, List.set_cons_succ]
          rfl
        refine q_off (by rfl) ?_
        refine q_norm (a' := ?_) ?_ ?_
        rotate_left
        · show Act.put _ (some 36) _ = _
          simp only [Act.put, List.setIfInBounds_toArray, List.set_cons_zero, List.set_cons_succ]
          rfl
        refine q_off (by rfl) ?_
        refine q_norm (a' := ?_) ?_ ?_
        rotate_left
        · show Act.put _ (some 37) _ = _
          simp only [Act.put, List.setIfInBounds_toArray, List.set_cons_zero, List.set_cons_succ]
          rfl
        refine q_off (by rfl) ?_
        refine q_norm (a' := ?_) ?_ ?_
        rotate_left
        · show Act.put _ (some 38) _ = _
          simp only [Act.put, List.setIfInBounds_toArray, List.set_cons_zero, List.set_cons_succ]
          rfl
        refine q_on (v := ?_) (by rfl) ?_ ?_
        rotate_left
        · intro w' hC
          go_simp
          with_reducible rfl
        rotate_left
        refine q_norm (a' := ?_) ?_ ?_
        rotate_left
        · show Act.put _ (some 39) _ = _
          simp only [Act.put, List.setIfInBounds_toArray, List.set_cons_zero, List.set_cons_succ]
          rfl
        refine q_on (v := ?_) (by rfl) ?_ ?_
        rotate_left
        · intro w' hC
          go_simp
          with_reducible rfl
        rotate_left
        refine q_norm (a' := ?_) ?_ ?_
        rotate_left
        · show Act.put _ (some 40) _ = _
          simp only [Act.put, List.setIfInBounds_toArray, List.set_cons_zero, List.set_cons_succ]
          rfl
        refine q_off (by rfl) ?_
        refine q_norm (a' := ?_) ?_ ?_
        rotate_left
        · show Act.put _ (some 41) _ = _
          simp only [Act.put, List.setIfInBounds_toArray, List.set_cons_zero, List.set_cons_succ]
          rfl
        refine q_off (by rfl) ?_
        refine q_norm (a' := ?_) ?_ ?_
        rotate_left
        · show Act.put _ (some 42) _ = _
          simp only [Act.put, List.setIfInBounds_toArray, List.set_cons_zero, List.set_cons_succ]
          rfl
        refine q_off (by rfl) ?_
        refine q_norm (a' := ?_) ?_ ?_
        rotate_left
        · show Act.put _ (some 43) _ = _
          simp only [Act.put, List.setIfInBounds_toArray, List.set_cons_zero, List.set_cons_succ]
          rfl
        refine q_off (by rfl) ?_
        refine q_norm (a' := ?_) ?_ ?_
        rotate_left
        · show Act.put _ (some 44) _ = _
          simp only [Act.put, List.setIfInBounds_toArray, List.set_cons_zero, List.set_cons_succ]
          rfl
        refine q_off (by rfl) ?_
        refine q_norm (a' := ?_) ?_ ?_
        rotate_left
        · show Act.put _ (some 45) _ = _
          simp only [Act.put, List.setIfInBounds_toArray, List.set_cons_zero, List.set_cons_succ]
          rfl
        refine q_off (by rfl) ?_
        refine q_norm (a' := ?_) ?_ ?_
        rotate_left
        · show Act.put _ (some 46) _ = _
          simp only [Act.put, List.setIfInBounds_toArray, List.set_cons_zero, List.set_cons_succ]
          rfl
        refine q_off (by rfl) ?_
        refine q_norm (a' := ?_) ?_ ?_
        rotate_left
        · show Act.put _ (some 47) _ = _
          simp only [Act.put, List.setIfInBounds_toArray, List.set_cons_zero, List.set_cons_succ]
          rfl
        refine q_off (by rfl) ?_
        refine q_norm (a' := ?_) ?_ ?_
        rotate_left
        · show Act.put _ (some 48) _ = _
          simp only [Act.put, List.setIfInBounds_toArray, List.set_cons_zero, List.set_cons_succ]
          rfl
        refine q_off (by rfl) ?_
        refine q_norm (a' := ?_) ?_ ?_
        rotate_left
        · show Act.put _ (some 49) _ = _
          simp only [Act.put, List.setIfInBounds_toArray, List.set_cons_zero, List.set_cons_succ]
          rfl
        refine q_off (by rfl) ?_
        refine q_norm (a' := ?_) ?_ ?_
        rotate_left
        · show Act.put _ (some 50) _ = _
          simp only [Act.put, List.setIfInBounds_toArray, List.set_cons_zero, List.set_cons_succ]
          rfl
        refine q_off (by rfl) ?_
        refine q_norm (a' := ?_) ?_ ?_
        rotate_left
        · show Act.put _ (some 51) _ = _
          simp only [Act.put, List.setIfInBounds_toArray, List.set_cons_zero, List.set_cons_succ]
          rfl
        refine q_off (by rfl) ?_
        refine q_norm (a' := ?_) ?_ ?_
        rotate_left
        · show Act.put _ (some 52) _ = _
          simp only [Act.put, List.setIfInBounds_toArray, List.set_cons_zero, List.set_cons_succ]
          rfl
        refine q_off (by rfl) ?_
        refine q_norm (a' := ?_) ?_ ?_
        rotate_left
        · show Act.put _ (some 53) _ = _
          simp only [Act.put, List.setIfInBounds_toArray, List.set_cons_zero, List.set_cons_succ]
          rfl
        refine q_off (by rfl) ?_
        refine q_norm (a' := ?_) ?_ ?_
        rotate_left
        · show Act.put _ (some 54) _ = _
          simp only [Act.put, List.setIfInBounds_toArray, List.set_cons_zero, List.set_cons_succ]
          rfl
        refine q_on (v := ?_) (by rfl) ?_ ?_
        rotate_left
        · intro w' hC
          go_simp
          with_reducible rfl
        rotate_left
        refine q_norm (a' := ?_) ?_ ?_
        rotate_left
        · show Act.put _ (some 55) _ = _
          simp only [Act.put, List.setIfInBounds_toArray, List.set_cons_zero, List.set_cons_succ]
          rfl
        refine wpQuiet_nil ?_
        exact ⟨_, _, _, _, _, _, _, _, _, _, _, _, _, _, _, _, _, _, _, _, _, _, _, _, _, _, _, _, _, _, _, _, _, _, _, _, _, _, _, _, _, _, _, rfl⟩
    · have g0 : decide (n ≥ 0) = false := decide_eq_false h0
      clear h0
      refine q_on (v := ?_) (by rfl) ?_ ?_
      rotate_left
      · intro w' hC
        go_simp
        with_reducible rfl
      rotate_left
      refine q_norm (a' := ?_) ?_ ?_
      rotate_left
      · show Act.put _ (some 27) _ = _
        simp only [Act.put, List.setIfInBounds_toArray, List.set_cons_zero, List.set_cons_succ]
        rfl
      refine q_on (v := ?_) (by rfl) ?_ ?_
      rotate_left
      · intro w' hC
        obtain ⟨c0, c1⟩ := two (D2.out.chg hC id)
        go_simp
        with_reducible rfl
      rotate_left
      refine q_norm (a' := ?_) ?_ ?_
      rotate_left
      · show Act.put _ (some 28) _ = _
        simp only [Act.put, List.setIfInBounds_toArray, List.set_cons_zero, List.set_cons_succ]
        rfl
      refine q_on (v := ?_) (by rfl) ?_ ?_
      rotate_left
      · intro w' hC
        go_simp
        with_reducible rfl
      rotate_left
      refine q_norm (a' := ?_) ?_ ?_
      rotate_left
      · show Act.put _ (some 29) _ = _
        simp only [Act.put, List.setIfInBounds_toArray, List.set_cons_zero, List.set_cons_succ]
        rfl
      refine q_on (v := ?_) (by rfl) ?_ ?_
      rotate_left
      · intro w' hC
        go_simp
        with_reducible rfl
      rotate_left
      refine q_norm (a' := ?_) ?_ ?_
      rotate_left
      · show Act.put _ (some 30) _ = _
        simp only [Act.put, List.setIfInBounds_toArray, List.set_cons_zero, List.set_cons_succ]
        rfl
      refine q_off (by rfl) ?_
      refine q_norm (a' := ?_) ?_ ?_
      rotate_left
      · show Act.put _ (some 31) _ = _
        simp only [Act.put, List.setIfInBounds_toArray, List.set_cons_zero, List.set_cons_succ]
        rfl
      refine q_off (by rfl) ?_
      refine q_norm (a' := ?_) ?_ ?_
      rotate_left
      · show Act.put _ (some 32) _ = _
        simp only [Act.put, List.setIfInBounds_toArray, List.set_cons_zero, List.set_cons_succ]
        rfl
      refine q_off (by rfl) ?_
      refine q_norm (a' := ?_) ?_ ?_
      rotate_left
      · show Act.put _ (some 33) _ = _
        simp only [Act.put, List.setIfInBounds_toArray, List.set_cons_zero, List.set_cons_succ]
        rfl
      refine q_on (v := ?_) (by rfl) ?_ ?_
      rotate_left
      · intro w' hC
        go_simp
        with_reducible rfl
      rotate_left
      refine q_norm (a' := ?_) ?_ ?_
      rotate_left
      · show Act.put _ (some 34) _ = _
        simp only [Act.put, List.setIfInBounds_toArray, List.set_cons_zero, List.set_cons_succ]
        rfl
      refine q_on (v := ?_) (by rfl) ?_ ?_
      rotate_left
      · intro w' hC
        go_simp
        with_reducible rfl
      rotate_left
      refine q_norm (a' := ?_) ?_ ?_
      rotate_left
      · show Act.put _ (some 35) _ = _
        simp only [Act.put, List.setIfInBounds_toArray, List.set_cons_zero, List.set_cons_succ]
        rfl
      refine q_off (by rfl) ?_
      refine q_norm (a' := ?_) ?_ ?_
      rotate_left
      · show Act.put _ (some 36) _ = _
        simp only [Act.put, List.setIfInBounds_toArray, List.set_cons_zero, List.set_cons_succ]
        rfl
      refine q_off (by rfl) ?_
      refine q_norm (a' := ?_) ?_ ?_
      rotate_left
      · show Act.put _ (some 37) _ = _
        simp only [Act.put, List.setIfInBounds_toArray, List.set_cons_zero, List.set_cons_succ]
        rfl
      refine q_off (by rfl) ?_
      refine q_norm (a' := ?_) ?_ ?_
      rotate_left
      · show Act.put _ (some 38) _ = _
        simp only [Act.put, List.setIfInBounds_toArray, List.set_cons_zero, List.set_cons_succ]
        rfl
      refine q_on (v := ?_) (by rfl) ?_ ?_
      rotate_left
      · intro w' hC
        go_simp
        with_reducible rfl
      rotate_left
      refine q_norm (a' := ?_) ?_ ?_
      rotate_left
      · show Act.put _ (some 39) _ = _
        simp only [Act.put, List.setIfInBounds_toArray, List.set_cons_zero, List.set_cons_succ]
        rfl
      refine q_on (v := ?_) (by rfl) ?_ ?_
      rotate_left
      · intro w' hC
        go_simp
        with_reducible rfl
      rotate_left
      refine q_norm (a' := ?_) ?_ ?_
      rotate_left
      · show Act.put _ (some 40) _ = _
        simp only [Act.put, List.setIfInBounds_toArray, List.set_cons_zero, List.set_cons_succ]
        rfl
      refine q_off (by rfl) ?_
      refine q_norm (a' := ?_) ?_ ?_
      rotate_left
      · show Act.put _ (some 41) _ = _
        simp only [Act.put, List.setIfInBounds_toArray, List.set_cons_zero, List.set_cons_succ]
        rfl
      refine q_off (by rfl) ?_
      refine q_norm (a' := ?_) ?_ ?_
      rotate_left
      · show Act.put _ (some 42) _ = _
        simp only [Act.put, List.setIfInBounds_toArray, List.set_cons_zero, List.set_cons_succ]
        rfl
      refine q_off (by rfl) ?_
      refine q_norm (a' := ?_) ?_ ?_
      rotate_left
      · show Act.put _ (some 43) _ = _
        simp only [Act.put, List.setIfInBounds_toArray, List.set_cons_zero, List.set_cons_succ]
        rfl
      refine q_off (by rfl) ?_
      refine q_norm (a' := ?_) ?_ ?_
      rotate_left
      · show Act.put _ (some 44) _ = _
        simp only [Act.put, List.setIfInBounds_toArray, List.set_cons_zero, List.set_cons_succ]
        rfl
      refine q_off (by rfl) ?_
      refine q_norm (a' := ?_) ?_ ?_
      rotate_left
      · show Act.put _ (some 45) _ = _
        simp only [Act.put, List.setIfInBounds_toArray, List.set_cons_zero, List.set_cons_succ]
        rfl
      refine q_off (by rfl) ?_
      refine q_norm (a' := ?_) ?_ ?_
      rotate_left
      · show Act.put _ (some 46) _ = _
        simp only [Act.put, List.setIfInBounds_toArray, List.set_cons_zero, List.set_cons_succ]
        rfl
      refine q_off (by rfl) ?_
      refine q_norm (a' := ?_) ?_ ?_
      rotate_left
      · show Act.put _ (some 47) _ = _
        simp only [Act.put, List.setIfInBounds_toArray, List.set_cons_zero, List.set_cons_succ]
        rfl
      refine q_off (by rfl) ?_
      refine q_norm (a' := ?_) ?_ ?_
      rotate_left
      · show Act.put _ (some 48) _ = _
        simp only [Act.put, List.setIfInBounds_toArray, List.set_cons_zero, List.set_cons_succ]
        rfl
      refine q_off (by rfl) ?_
      refine q_norm (a' := ?_) ?_ ?_
      rotate_left
      · show Act.put _ (some 49) _ = _
        simp only [Act.put, List.setIfInBounds_toArray, List.set_cons_zero, List.set_cons_succ]
        rfl
      refine q_off (by rfl) ?_
      refine q_norm (a' := ?_) ?_ ?_
      rotate_left
      · show Act.put _ (some 50) _ = _
        simp only [Act.put, List.setIfInBounds_toArray, List.set_cons_zero, List.set_cons_succ]
        rfl
      refine q_off (by rfl) ?_
      refine q_norm (a' := ?_) ?_ ?_
      rotate_left
      · show Act.put _ (some 51) _ = _
        simp only [Act.put, List.setIfInBounds_toArray, List.set_cons_zero, List.set_cons_succ]
        rfl
      refine q_off (by rfl) ?_
      refine q_norm (a' := ?_) ?_ ?_
      rotate_left
      · show Act.put _ (some 52) _ = _
        simp only [Act.put, List.setIfInBounds_toArray, List.set_cons_zero, List.set_cons_succ]
        rfl
      refine q_off (by rfl) ?_
      refine q_norm (a' := ?_) ?_ ?_
      rotate_left
      · show Act.put _ (some 53) _ = _
        simp only [Act.put, List.setIfInBounds_toArray, List.set_cons_zero, List.set_cons_succ]
        rfl
      refine q_off (by rfl) ?_
      refine q_norm (a' := ?_) ?_ ?_
      rotate_left
      · show Act.put _ (some 54) _ = _
        simp only [Act.put, List.setIfInBounds_toArray, List.set_cons_zero, List.set_cons_succ]
        rfl
      refine q_on (v := ?_) (by rfl) ?_ ?_
      rotate_left
      · intro w' hC
        go_simp
        with_reducible rfl
      rotate_left
      refine q_norm (a' := ?_) ?_ ?_
      rotate_left
      · show Act.put _ (some 55) _ = _
        simp only [Act.put, List.setIfInBounds_toArray, List.set_cons_zero, List.set_cons_succ]
        rfl
      refine wpQuiet_nil ?_
      exact ⟨_, _, _, _, _, _, _, _, _, _, _, _, _, _, _, _, _, _, _, _, _, _, _, _, _, _, _, _, _, _, _, _, _, _, _, _, _, _, _, _, _, _, _, rfl⟩
  rintro _ w3 ⟨t12, t13, t14, t15, t16, t17, t18, t19, t20, t21, t22, t23, t24, t25, t26, t27, t28, t29, t30, t31, t32, t33, t34, t35, t36, t37, t38, t39, t40, t41, t42, t43, t44, t45, t46, t47, t48, t49, t50, t51, t52, t53, t54, rfl⟩ hC
  have E0 := Lib.hid (D0.out.chg hC id)
  have HE := Lib.hid (HD.out.trans hC)
  clear hC D0 D1 D2 D3 HD HJ
  obtain ⟨c0, c1, c2, c3, c4, c5, c6, c7⟩ := eight E0.out
  go_wp2_with fail
  refine (next_any a node _ hlow).mono ?_
  clear c0 c1 c2 c3 c4 c5 c6 c7
  rintro e w4 ⟨rfl, hC⟩
  have F0 := Lib.hid (E0.out.chg hC id)
  have HF := Lib.hid (HE.out.trans hC)
  clear hC E0 HE
  have k1 := nxt_fresh (f := a) (n := node)
  have k2 := nxt_seen (f := a) (n := node)
  have k3 := nxt_may (f := a) (n := node)
  generalize nxtE a node = en at *
  generalize nxtN a node = mn at *
  generalize nxtX a node = mx' at *
  have K1 := Lib.hid k1
  have K2 := Lib.hid k2
  have K3 := Lib.hid k3
  clear k1 k2 k3
  have G0 := Lib.hid (F0.out.alloc (Obj.cells #[.int .i64 mn, .int .i64 mx'] 31))
  have G1 := Lib.hid (Blk.new w4 31 #[.int .i64 mn, .int .i64 mx'])
  have HG := Lib.hid (HF.out.alloc (Obj.cells #[.int .i64 mn, .int .i64 mx'] 31))
  obtain ⟨c0, c1, c2, c3, c4, c5, c6, c7⟩ := eight G0.out
  by_cases he : en = 0
  · have hb : (en != 0) = false := by simp [he]
    go_wp2_with fail
    clear c0 c1 c2 c3 c4 c5 c6 c7
    refine (may_any a _).mono ?_
    rintro e w5 ⟨rfl, hC⟩
    have H0 := Lib.hid (G0.out.chg hC id)
    have H1 := Lib.hid (G1.out.chg hC id)
    have HH := Lib.hid (HG.out.trans hC)
    clear hC G0 G1 HG
    cases hm : may a with
    | false =>
      clear hm
      go_wp2_with fail
      refine (awake_any _).mono ?_
      rintro e w6 ⟨rfl, hC⟩
      have HI := Lib.hid (HH.out.trans hC)
      clear hC
      go_wp2_with fail
      go_ret
      exact ⟨rfl, HI.out⟩
    | true =>
      have L1 := Lib.hid (K1.out he)
      have L2 := Lib.hid (K2.out he hm)
      have L3 := Lib.hid (K3.out he hm)
      clear hm K1 K2 K3
      generalize hu : wit a mn mx' = u at *
      have HU := Lib.hid hu
      clear hu he
      go_wp2_with fail
      refine q_start (by kernel_rfl) (by kernel_rfl) ?_
      refine q_on (v := ?_) (by rfl) ?_ ?_
      rotate_left
      · intro w' hC
        obtain ⟨c0, c1, c2, c3, c4, c5, c6, c7⟩ := eight (H0.out.chg hC id)
        go_simp
        with_reducible rfl
      rotate_left
      refine q_norm (a' := ?_) ?_ ?_
      rotate_left
      · show Act.put _ (some 70) _ = _
        simp only [Act.put, List.setIfInBounds_toArray, List.set_cons_zero, List.set_cons_succ]
        rfl
      refine q_on (v := ?_) (by rfl) ?_ ?_
      rotate_left
      · intro w' hC
        obtain ⟨c0, c1⟩ := two (H1.out.chg hC id)
        go_simp
        with_reducible rfl
      rotate_left
      refine q_norm (a' := ?_) ?_ ?_
      rotate_left
      · show Act.put _ (some 71) _ = _
        simp only [Act.put, List.setIfInBounds_toArray, List.set_cons_zero, List.set_cons_succ]
        rfl
      refine q_call (f := 14) Tryd.func14 (by kernel_rfl) rfl #[vec a, dot mn mx'] (by rfl) rfl (by simp only [List.map_toArray, List.map_cons, List.map_nil]; rfl) _ (fun w' hC => q_of hC (covers_is L1.out w')) ?_
      refine q_norm (a' := ?_) ?_ ?_
      rotate_left
      · show Act.put _ (some 72) _ = _
        simp only [Act.put, List.setIfInBounds_toArray, List.set_cons_zero, List.set_cons_succ]
        rfl
      refine q_on (v := ?_) (by rfl) ?_ ?_
      rotate_left
      · intro w' hC
        go_simp
        with_reducible rfl
      rotate_left
      refine q_norm (a' := ?_) ?_ ?_
      rotate_left
      · show Act.put _ (some 73) _ = _
        simp only [Act.put, List.setIfInBounds_toArray, List.set_cons_zero, List.set_cons_succ]
        rfl
      refine q_on (v := ?_) (by rfl) ?_ ?_
      rotate_left
      · intro w' hC
        go_simp
        with_reducible rfl
      rotate_left
      refine q_norm (a' := ?_) ?_ ?_
      rotate_left
      · show Act.put _ (some 74) _ = _
        simp only [Act.put, List.setIfInBounds_toArray, List.set_cons_zero, List.set_cons_succ]
        rfl
      refine q_on (v := ?_) (by rfl) ?_ ?_
      rotate_left
      · intro w' hC
        obtain ⟨c0, c1, c2, c3, c4, c5, c6, c7⟩ := eight (H0.out.chg hC id)
        go_simp
        with_reducible rfl
      rotate_left
      refine q_norm (a' := ?_) ?_ ?_
      rotate_left
      · show Act.put _ (some 75) _ = _
        simp only [Act.put, List.setIfInBounds_toArray, List.set_cons_zero, List.set_cons_succ]
        rfl
      refine q_on (v := ?_) (by rfl) ?_ ?_
      rotate_left
      · intro w' hC
        obtain ⟨c0, c1⟩ := two (H1.out.chg hC id)
        go_simp
        with_reducible rfl
      rotate_left
      refine q_norm (a' := ?_) ?_ ?_
      rotate_left
      · show Act.put _ (some 76) _ = _
        simp only [Act.put, List.setIfInBounds_toArray, List.set_cons_zero, List.set_cons_succ]
        rfl
      refine q_call (f := 15) Tryd.func15 (by kernel_rfl) rfl #[vec a, dot mn mx'] (by rfl) rfl (by simp only [List.map_toArray, List.map_cons, List.map_nil]; rfl) _ (fun w' hC => q_of hC (with_is HU.out w')) ?_
      refine q_norm (a' := ?_) ?_ ?_
      rotate_left
      · show Act.put _ (some 77) _ = _
        simp only [Act.put, List.setIfInBounds_toArray, List.set_cons_zero, List.set_cons_succ]
        rfl
      refine q_on (v := ?_) (by rfl) ?_ ?_
      rotate_left
      · intro w' hC
        obtain ⟨c0, c1⟩ := two (H1.out.chg hC id)
        go_simp
        with_reducible rfl
      rotate_left
      refine q_norm (a' := ?_) ?_ ?_
      rotate_left
      · show Act.put _ (some 78) _ = _
        simp only [Act.put, List.setIfInBounds_toArray, List.set_cons_zero, List.set_cons_succ]
        rfl
      refine q_call (f := 14) Tryd.func14 (by kernel_rfl) rfl #[vec u, dot mn mx'] (by rfl) rfl (by simp only [List.map_toArray, List.map_cons, List.map_nil]; rfl) _ (fun w' hC => q_of hC (covers_is L2.out w')) ?_
      refine q_norm (a' := ?_) ?_ ?_
      rotate_left
      · show Act.put _ (some 79) _ = _
        simp only [Act.put, List.setIfInBounds_toArray, List.set_cons_zero, List.set_cons_succ]
        rfl
      refine q_on (v := ?_) (by rfl) ?_ ?_
      rotate_left
      · intro w' hC
        go_simp
        with_reducible rfl
      rotate_left
      refine q_norm (a' := ?_) ?_ ?_
      rotate_left
      · show Act.put _ (some 80) _ = _
        simp only [Act.put, List.setIfInBounds_toArray, List.set_cons_zero, List.set_cons_succ]
        rfl
      refine q_on (v := ?_) (by rfl) ?_ ?_
      rotate_left
      · intro w' hC
        go_simp
        with_reducible rfl
      rotate_left
      refine q_norm (a' := ?_) ?_ ?_
      rotate_left
      · show Act.put _ (some 81) _ = _
        simp only [Act.put, List.setIfInBounds_toArray, List.set_cons_zero, List.set_cons_succ]
        rfl
      refine q_on (v := ?_) (by rfl) ?_ ?_
      rotate_left
      · intro w' hC
        obtain ⟨c0, c1, c2, c3, c4, c5, c6, c7⟩ := eight (H0.out.chg hC id)
        go_simp
        with_reducible rfl
      rotate_left
      refine q_norm (a' := ?_) ?_ ?_
      rotate_left
      · show Act.put _ (some 82) _ = _
        simp only [Act.put, List.setIfInBounds_toArray, List.set_cons_zero, List.set_cons_succ]
        rfl
      refine q_on (v := ?_) (by rfl) ?_ ?_
      rotate_left
      · intro w' hC
        obtain ⟨c0, c1⟩ := two (H1.out.chg hC id)
        go_simp
        with_reducible rfl
      rotate_left
      refine q_norm (a' := ?_) ?_ ?_
      rotate_left
      · show Act.put _ (some 83) _ = _
        simp only [Act.put, List.setIfInBounds_toArray, List.set_cons_zero, List.set_cons_succ]
        rfl
      refine q_call (f := 15) Tryd.func15 (by kernel_rfl) rfl #[vec a, dot mn mx'] (by rfl) rfl (by simp only [List.map_toArray, List.map_cons, List.map_nil]; rfl) _ (fun w' hC => q_of hC (with_is HU.out w')) ?_
      refine q_norm (a' := ?_) ?_ ?_
      rotate_left
      · show Act.put _ (some 84) _ = _
        simp only [Act.put, List.setIfInBounds_toArray, List.set_cons_zero, List.set_cons_succ]
        rfl
      refine q_call (f := 12) Tryd.func12 (by kernel_rfl) rfl #[vec u] (by rfl) rfl (by simp only [List.map_toArray, List.map_cons, List.map_nil]; rfl) _ (fun w' hC => q_of hC (may_is L3.out w')) ?_
      refine q_norm (a' := ?_) ?_ ?_
      rotate_left
      · show Act.put _ (some 85) _ = _
        simp only [Act.put, List.setIfInBounds_toArray, List.set_cons_zero, List.set_cons_succ]
        rfl
      refine q_on (v := ?_) (by rfl) ?_ ?_
      rotate_left
      · intro w' hC
        go_simp
        with_reducible rfl
      rotate_left
      refine q_norm (a' := ?_) ?_ ?_
      rotate_left
      · show Act.put _ (some 86) _ = _
        simp only [Act.put, List.setIfInBounds_toArray, List.set_cons_zero, List.set_cons_succ]
        rfl
      refine q_on (v := ?_) (by rfl) ?_ ?_
      rotate_left
      · intro w' hC
        go_simp
        with_reducible rfl
      rotate_left
      refine q_norm (a' := ?_) ?_ ?_
      rotate_left
      · show Act.put _ (some 87) _ = _
        simp only [Act.put, List.setIfInBounds_toArray, List.set_cons_zero, List.set_cons_succ]
        rfl
      refine q_call (f := 11) Tryd.func11 (by kernel_rfl) rfl #[] (by rfl) rfl (by simp only [List.map_toArray, List.map_nil]) _ (fun w' hC => q_of hC (awake_any w')) ?_
      refine q_norm (a' := ?_) ?_ ?_
      rotate_left
      · show Act.put _ (some 88) _ = _
        simp only [Act.put, List.setIfInBounds_toArray, List.set_cons_zero, List.set_cons_succ]
        rfl
      refine q_on (v := ?_) (by rfl) ?_ ?_
      rotate_left
      · intro w' hC
        go_simp
        with_reducible rfl
      rotate_left
      refine q_norm (a' := ?_) ?_ ?_
      rotate_left
      · show Act.put _ (some 89) _ = _
        simp only [Act.put, List.setIfInBounds_toArray, List.set_cons_zero, List.set_cons_succ]
        rfl
      refine q_on (v := ?_) (by rfl) ?_ ?_
      rotate_left
      · intro w' hC
        go_simp
        with_reducible rfl
      rotate_left
      refine q_norm (a' := ?_) ?_ ?_
      rotate_left
      · show Act.put _ (some 8) _ = _
        simp only [Act.put, List.setIfInBounds_toArray, List.set_cons_zero, List.set_cons_succ]
        rfl
      refine wpQuiet_nil ?_
      intro w' hC
      go_wp2_with fail
      go_ret
      exact ⟨rfl, HH.out.trans hC⟩
  · have hb : (en != 0) = true := by simpa using he
    clear he
    go_wp2_with fail
    refine (awake_any _).mono ?_
    rintro e w5 ⟨rfl, hC⟩
    have HH := Lib.hid (HG.out.trans hC)
    clear hC
    go_wp2_with fail
    go_ret
    exact ⟨rfl, HH.out⟩
theorem vectorCovers_walk (v0 : Value) (D0 : Vc) (v1 : Value) (D1 : Vc) (v2 : Value) (D2 : Int × Int) (a3 : Int) (w : World) (w0 : VecAt v0 D0) (w1 : VecAt v1 D1) (w2 : DotAt v2 D2) (_ : (Lit.int .i64 a3).wf = true) :
    Calls Tryd.prog 5 #[v0, v1, v2, .int .i64 a3] w fun e w' => e = .returned (.bool true) ∧ Below w.heap.size w w' := by
  have hl := w0.low
  obtain ⟨rfl, _⟩ := w0
  obtain ⟨rfl, _⟩ := w1
  obtain ⟨rfl, _⟩ := w2
  exact (vectorCovers_any D0 D1 D2.1 D2.2 a3 w hl).mono fun _ _ ⟨h1, h2⟩ => ⟨h1, h2.below⟩
end Go.Proofs.YthkmocfdpmlllaaDoor
