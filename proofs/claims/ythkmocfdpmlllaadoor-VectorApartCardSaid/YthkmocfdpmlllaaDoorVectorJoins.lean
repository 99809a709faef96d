/- VectorJoins: the walk. -/
import Derived.Test.YthkmocfdpmlllaaDoorVectorC
import Derived.Test.YthkmocfdpmlllaaDoorVArgs
namespace Go.Proofs.YthkmocfdpmlllaaDoor
open Go.RowKit
attribute [local go_sem] max2_mx max_two_ eq_nums
theorem jn_comm (f g : Vc) : jn g f = jn f g := by funext k; unfold jn mx; split <;> split <;> omega
theorem jn_self (f : Vc) : jn f f = f := by funext k; unfold jn mx; split <;> omega
theorem jn_assoc (f g h : Vc) : jn f (jn g h) = jn (jn f g) h := by
  funext k
  unfold jn mx
  by_cases h1 : g k < h k
  · by_cases h2 : f k < g k
    · simp [h1, h2]; omega
    · simp [h1, h2]
  · by_cases h2 : f k < g k
    · simp [h1, h2]
    · simp [h1, h2]; omega
theorem veq_self (f : Vc) : veq f f = true := veq_iff.2 fun _ _ => rfl
theorem leq_iff {f g : Vc} : leq f g = true ↔ ∀ k, k < 8 → f k ≤ g k := by
  unfold leq
  rw [veq_iff]
  refine forall_congr' fun k => forall_congr' fun _ => ?_
  unfold jn mx
  split <;> omega
theorem leq_jn (f g : Vc) : leq f (jn f g) = true := leq_iff.2 fun k _ => by unfold jn mx; split <;> omega
theorem leq_jn' (f g : Vc) : leq g (jn f g) = true := leq_iff.2 fun k _ => by unfold jn mx; split <;> omega
theorem jn_leq {f g h : Vc} (a : leq f h = true) (b : leq g h = true) : leq (jn f g) h = true := leq_iff.2 fun k hk => by
  have := leq_iff.1 a k hk
  have := leq_iff.1 b k hk
  unfold jn mx; split <;> omega
theorem leq_is {f g : Vc} {b : Bool} (h : leq f g = b) (w : World) : Calls Tryd.prog 10 #[vec f, vec g] w fun e w' => e = .returned (.bool b) ∧ Chg NoB w w' := h ▸ leq_any f g w
theorem join_is {f g h : Vc} (e : jn f g = h) (w : World) : Calls Tryd.prog 9 #[vec f, vec g] w fun e w' => e = .returned (vec h) ∧ Chg NoB w w' := e ▸ join_any f g w

set_option maxHeartbeats 8000000 in
theorem vectorJoins_any (a b c : Vc) (w : World) : Calls Tryd.prog 3 #[vec a, vec b, vec c] w fun e w' => e = .returned (.bool true) ∧ Chg NoB w w' := by
  go_enter Tryd.func3, Tryd.ntmps3
  go_wp2_with fail
  refine (join_any a b _).mono ?_
  rintro e w1 ⟨rfl, hC⟩
  have B0 := Lib.hid (Blk.chg (((Blk.new w 23 (va a)).alloc _).alloc _) hC id)
  have B1 := Lib.hid (Blk.chg ((Blk.new_ (k := w.heap.size + 1) _ 23 (va b) (by simp)).alloc _) hC id)
  have B2 := Lib.hid (Blk.chg (Blk.new_ (k := w.heap.size + 1 + 1) _ 23 (va c) (by simp)) hC id)
  have HC := Lib.hid ((((((Chg.refl NoB w).alloc _).alloc _).alloc _)).trans hC)
  clear hC
  have hba : jn b a = jn a b := jn_comm a b
  have haj := leq_jn a b
  have hbj := leq_jn' a b
  have hm : jn a (jn b c) = jn (jn a b) c := jn_assoc a b c
  have hr : leq a b = veq (jn a b) b := rfl
  have hjc : leq a c = true → leq b c = true → leq (jn a b) c = true := jn_leq
  generalize hj : jn a b = j at *
  generalize hn : jn b c = n at *
  generalize hm2 : jn j c = m at *
  generalize hr2 : leq a b = r at *
  have HR : Hid ((j 0 == b 0 && (j 1 == b 1 && (j 2 == b 2 && (j 3 == b 3 && (j 4 == b 4 && (j 5 == b 5 && (j 6 == b 6 && j 7 == b 7))))))) = r) := Lib.hid hr.symm
  have J1 := Lib.hid hj
  have J2 := Lib.hid hn
  have J3 := Lib.hid hm2
  have J4 := Lib.hid hm
  have J5 := Lib.hid hba
  have J6 := Lib.hid haj
  have J7 := Lib.hid hbj
  have J8 := Lib.hid hr2
  have J9 := Lib.hid hjc
  clear hba haj hbj hm hr hjc hj hn hm2 hr2
  go_wp2_with fail
  generalize hW : w1.alloc (Obj.cells (va j) 23) = W
  have C0 : Hid (Blk W w.heap.size 23 (va a)) := Lib.hid (by rw [← hW]; exact B0.out.alloc _)
  have C1 : Hid (Blk W (w.heap.size + 1) 23 (va b)) := Lib.hid (by rw [← hW]; exact B1.out.alloc _)
  have C2 : Hid (Blk W (w.heap.size + 1 + 1) 23 (va c)) := Lib.hid (by rw [← hW]; exact B2.out.alloc _)
  have C3 : Hid (Blk W w1.heap.size 23 (va j)) := Lib.hid (by rw [← hW]; exact Blk.new _ _ _)
  have HW : Hid (Chg NoB w W) := Lib.hid (by rw [← hW]; exact HC.out.alloc _)
  clear hW B0 B1 B2 HC
  refine q_start (by kernel_rfl) (by kernel_rfl) ?_
  refine q_on (v := ?_) (by rfl) ?_ ?_
  rotate_left
  · intro w' hC
    obtain ⟨c0, c1, c2, c3, c4, c5, c6, c7⟩ := eight (C3.out.chg hC id)
    go_simp
    with_reducible rfl
  rotate_left
  refine q_norm (a' := ?_) ?_ ?_
  rotate_left
  · show Act.put _ (some 11) _ = _
    simp only [Act.put, List.setIfInBounds_toArray, List.set_cons_zero, List.set_cons_succ]
    rfl
  refine q_on (v := ?_) (by rfl) ?_ ?_
  rotate_left
  · intro w' hC
    obtain ⟨c0, c1, c2, c3, c4, c5, c6, c7⟩ := eight (C1.out.chg hC id)
    go_simp
    with_reducible rfl
  rotate_left
  refine q_norm (a' := ?_) ?_ ?_
  rotate_left
  · show Act.put _ (some 12) _ = _
    simp only [Act.put, List.setIfInBounds_toArray, List.set_cons_zero, List.set_cons_succ]
    rfl
  refine q_on (v := ?_) (by rfl) ?_ ?_
  rotate_left
  · intro w' hC
    obtain ⟨c0, c1, c2, c3, c4, c5, c6, c7⟩ := eight (C0.out.chg hC id)
    go_simp
    with_reducible rfl
  rotate_left
  refine q_norm (a' := ?_) ?_ ?_
  rotate_left
  · show Act.put _ (some 13) _ = _
    simp only [Act.put, List.setIfInBounds_toArray, List.set_cons_zero, List.set_cons_succ]
    rfl
  refine q_call (f := 9) Tryd.func9 (by kernel_rfl) rfl #[vec b, vec a] (by rfl) rfl (by simp only [List.map_toArray, List.map_cons, List.map_nil]; rfl) _ (fun w' hC => q_of hC (join_is J5.out w')) ?_
  refine q_norm (a' := ?_) ?_ ?_
  rotate_left
  · show Act.put _ (some 14) _ = _
    simp only [Act.put, List.setIfInBounds_toArray, List.set_cons_zero, List.set_cons_succ]
    rfl
  refine q_on (v := ?_) (by rfl) ?_ ?_
  rotate_left
  · intro w' hC
    go_simp
    with_reducible rfl
  rotate_left
  refine q_norm (a' := ?_) ?_ ?_
  rotate_left
  · show Act.put _ (some 15) _ = _
    simp only [Act.put, List.setIfInBounds_toArray, List.set_cons_zero, List.set_cons_succ]
    rfl
  refine q_on (v := ?_) (by rfl) ?_ ?_
  rotate_left
  · intro w' hC
    go_simp
    with_reducible rfl
  rotate_left
  refine q_norm (a' := ?_) ?_ ?_
  rotate_left
  · show Act.put _ (some 16) _ = _
    simp only [Act.put, List.setIfInBounds_toArray, List.set_cons_zero, List.set_cons_succ]
    rfl
  refine q_on (v := ?_) (by rfl) ?_ ?_
  rotate_left
  · intro w' hC
    obtain ⟨c0, c1, c2, c3, c4, c5, c6, c7⟩ := eight (C0.out.chg hC id)
    go_simp
    with_reducible rfl
  rotate_left
  refine q_norm (a' := ?_) ?_ ?_
  rotate_left
  · show Act.put _ (some 17) _ = _
    simp only [Act.put, List.setIfInBounds_toArray, List.set_cons_zero, List.set_cons_succ]
    rfl
  refine q_on (v := ?_) (by rfl) ?_ ?_
  rotate_left
  · intro w' hC
    obtain ⟨c0, c1, c2, c3, c4, c5, c6, c7⟩ := eight (C0.out.chg hC id)
    go_simp
    with_reducible rfl
  rotate_left
  refine q_norm (a' := ?_) ?_ ?_
  rotate_left
  · show Act.put _ (some 18) _ = _
    simp only [Act.put, List.setIfInBounds_toArray, List.set_cons_zero, List.set_cons_succ]
    rfl
  refine q_call (f := 9) Tryd.func9 (by kernel_rfl) rfl #[vec a, vec a] (by rfl) rfl (by simp only [List.map_toArray, List.map_cons, List.map_nil]; rfl) _ (fun w' hC => q_of hC (join_is (jn_self a) w')) ?_
  refine q_norm (a' := ?_) ?_ ?_
  rotate_left
  · show Act.put _ (some 19) _ = _
    simp only [Act.put, List.setIfInBounds_toArray, List.set_cons_zero, List.set_cons_succ]
    rfl
  refine q_on (v := ?_) (by rfl) ?_ ?_
  rotate_left
  · intro w' hC
    obtain ⟨c0, c1, c2, c3, c4, c5, c6, c7⟩ := eight (C0.out.chg hC id)
    go_simp
    with_reducible rfl
  rotate_left
  refine q_norm (a' := ?_) ?_ ?_
  rotate_left
  · show Act.put _ (some 20) _ = _
    simp only [Act.put, List.setIfInBounds_toArray, List.set_cons_zero, List.set_cons_succ]
    rfl
  refine q_on (v := ?_) (by rfl) ?_ ?_
  rotate_left
  · intro w' hC
    go_simp
    with_reducible rfl
  rotate_left
  refine q_norm (a' := ?_) ?_ ?_
  rotate_left
  · show Act.put _ (some 21) _ = _
    simp only [Act.put, List.setIfInBounds_toArray, List.set_cons_zero, List.set_cons_succ]
    rfl
  refine q_on (v := ?_) (by rfl) ?_ ?_
  rotate_left
  · intro w' hC
    go_simp
    with_reducible rfl
  rotate_left
  refine q_norm (a' := ?_) ?_ ?_
  rotate_left
  · show Act.put _ (some 22) _ = _
    simp only [Act.put, List.setIfInBounds_toArray, List.set_cons_zero, List.set_cons_succ]
    rfl
  refine q_on (v := ?_) (by rfl) ?_ ?_
  rotate_left
  · intro w' hC
    go_simp
    with_reducible rfl
  rotate_left
  refine q_norm (a' := ?_) ?_ ?_
  rotate_left
  · show Act.put _ (some 23) _ = _
    simp only [Act.put, List.setIfInBounds_toArray, List.set_cons_zero, List.set_cons_succ]
    rfl
  refine q_on (v := ?_) (by rfl) ?_ ?_
  rotate_left
  · intro w' hC
    obtain ⟨c0, c1, c2, c3, c4, c5, c6, c7⟩ := eight (C3.out.chg hC id)
    go_simp
    with_reducible rfl
  rotate_left
  refine q_norm (a' := ?_) ?_ ?_
  rotate_left
  · show Act.put _ (some 24) _ = _
    simp only [Act.put, List.setIfInBounds_toArray, List.set_cons_zero, List.set_cons_succ]
    rfl
  refine q_on (v := ?_) (by rfl) ?_ ?_
  rotate_left
  · intro w' hC
    obtain ⟨c0, c1, c2, c3, c4, c5, c6, c7⟩ := eight (C2.out.chg hC id)
    go_simp
    with_reducible rfl
  rotate_left
  refine q_norm (a' := ?_) ?_ ?_
  rotate_left
  · show Act.put _ (some 25) _ = _
    simp only [Act.put, List.setIfInBounds_toArray, List.set_cons_zero, List.set_cons_succ]
    rfl
  refine q_call (f := 9) Tryd.func9 (by kernel_rfl) rfl #[vec j, vec c] (by rfl) rfl (by simp only [List.map_toArray, List.map_cons, List.map_nil]; rfl) _ (fun w' hC => q_of hC (join_is J3.out w')) ?_
  refine q_norm (a' := ?_) ?_ ?_
  rotate_left
  · show Act.put _ (some 26) _ = _
    simp only [Act.put, List.setIfInBounds_toArray, List.set_cons_zero, List.set_cons_succ]
    rfl
  refine q_on (v := ?_) (by rfl) ?_ ?_
  rotate_left
  · intro w' hC
    obtain ⟨c0, c1, c2, c3, c4, c5, c6, c7⟩ := eight (C0.out.chg hC id)
    go_simp
    with_reducible rfl
  rotate_left
  refine q_norm (a' := ?_) ?_ ?_
  rotate_left
  · show Act.put _ (some 27) _ = _
    simp only [Act.put, List.setIfInBounds_toArray, List.set_cons_zero, List.set_cons_succ]
    rfl
  refine q_on (v := ?_) (by rfl) ?_ ?_
  rotate_left
  · intro w' hC
    obtain ⟨c0, c1, c2, c3, c4, c5, c6, c7⟩ := eight (C1.out.chg hC id)
    go_simp
    with_reducible rfl
  rotate_left
  refine q_norm (a' := ?_) ?_ ?_
  rotate_left
  · show Act.put _ (some 28) _ = _
    simp only [Act.put, List.setIfInBounds_toArray, List.set_cons_zero, List.set_cons_succ]
    rfl
  refine q_on (v := ?_) (by rfl) ?_ ?_
  rotate_left
  · intro w' hC
    obtain ⟨c0, c1, c2, c3, c4, c5, c6, c7⟩ := eight (C2.out.chg hC id)
    go_simp
    with_reducible rfl
  rotate_left
  refine q_norm (a' := ?_) ?_ ?_
  rotate_left
  · show Act.put _ (some 29) _ = _
    simp only [Act.put, List.setIfInBounds_toArray, List.set_cons_zero, List.set_cons_succ]
    rfl
  refine q_call (f := 9) Tryd.func9 (by kernel_rfl) rfl #[vec b, vec c] (by rfl) rfl (by simp only [List.map_toArray, List.map_cons, List.map_nil]; rfl) _ (fun w' hC => q_of hC (join_is J2.out w')) ?_
  refine q_norm (a' := ?_) ?_ ?_
  rotate_left
  · show Act.put _ (some 30) _ = _
    simp only [Act.put, List.setIfInBounds_toArray, List.set_cons_zero, List.set_cons_succ]
    rfl
  refine q_call (f := 9) Tryd.func9 (by kernel_rfl) rfl #[vec a, vec n] (by rfl) rfl (by simp only [List.map_toArray, List.map_cons, List.map_nil]; rfl) _ (fun w' hC => q_of hC (join_is J4.out w')) ?_
  refine q_norm (a' := ?_) ?_ ?_
  rotate_left
  · show Act.put _ (some 31) _ = _
    simp only [Act.put, List.setIfInBounds_toArray, List.set_cons_zero, List.set_cons_succ]
    rfl
  refine q_on (v := ?_) (by rfl) ?_ ?_
  rotate_left
  · intro w' hC
    go_simp
    with_reducible rfl
  rotate_left
  refine q_norm (a' := ?_) ?_ ?_
  rotate_left
  · show Act.put _ (some 32) _ = _
    simp only [Act.put, List.setIfInBounds_toArray, List.set_cons_zero, List.set_cons_succ]
    rfl
  refine q_on (v := ?_) (by rfl) ?_ ?_
  rotate_left
  · intro w' hC
    go_simp
    with_reducible rfl
  rotate_left
  refine q_norm (a' := ?_) ?_ ?_
  rotate_left
  · show Act.put _ (some 33) _ = _
    simp only [Act.put, List.setIfInBounds_toArray, List.set_cons_zero, List.set_cons_succ]
    rfl
  refine q_on (v := ?_) (by rfl) ?_ ?_
  rotate_left
  · intro w' hC
    go_simp
    with_reducible rfl
  rotate_left
  refine q_norm (a' := ?_) ?_ ?_
  rotate_left
  · show Act.put _ (some 34) _ = _
    simp only [Act.put, List.setIfInBounds_toArray, List.set_cons_zero, List.set_cons_succ]
    rfl
  refine q_on (v := ?_) (by rfl) ?_ ?_
  rotate_left
  · intro w' hC
    obtain ⟨c0, c1, c2, c3, c4, c5, c6, c7⟩ := eight (C0.out.chg hC id)
    go_simp
    with_reducible rfl
  rotate_left
  refine q_norm (a' := ?_) ?_ ?_
  rotate_left
  · show Act.put _ (some 35) _ = _
    simp only [Act.put, List.setIfInBounds_toArray, List.set_cons_zero, List.set_cons_succ]
    rfl
  refine q_on (v := ?_) (by rfl) ?_ ?_
  rotate_left
  · intro w' hC
    obtain ⟨c0, c1, c2, c3, c4, c5, c6, c7⟩ := eight (C3.out.chg hC id)
    go_simp
    with_reducible rfl
  rotate_left
  refine q_norm (a' := ?_) ?_ ?_
  rotate_left
  · show Act.put _ (some 36) _ = _
    simp only [Act.put, List.setIfInBounds_toArray, List.set_cons_zero, List.set_cons_succ]
    rfl
  refine q_call (f := 10) Tryd.func10 (by kernel_rfl) rfl #[vec a, vec j] (by rfl) rfl (by simp only [List.map_toArray, List.map_cons, List.map_nil]; rfl) _ (fun w' hC => q_of hC (leq_is J6.out w')) ?_
  refine q_norm (a' := ?_) ?_ ?_
  rotate_left
  · show Act.put _ (some 37) _ = _
    simp only [Act.put, List.setIfInBounds_toArray, List.set_cons_zero, List.set_cons_succ]
    rfl
  refine q_on (v := ?_) (by rfl) ?_ ?_
  rotate_left
  · intro w' hC
    go_simp
    with_reducible rfl
  rotate_left
  refine q_norm (a' := ?_) ?_ ?_
  rotate_left
  · show Act.put _ (some 38) _ = _
    simp only [Act.put, List.setIfInBounds_toArray, List.set_cons_zero, List.set_cons_succ]
    rfl
  refine q_on (v := ?_) (by rfl) ?_ ?_
  rotate_left
  · intro w' hC
    go_simp
    with_reducible rfl
  rotate_left
  refine q_norm (a' := ?_) ?_ ?_
  rotate_left
  · show Act.put _ (some 39) _ = _
    simp only [Act.put, List.setIfInBounds_toArray, List.set_cons_zero, List.set_cons_succ]
    rfl
  refine q_on (v := ?_) (by rfl) ?_ ?_
  rotate_left
  · intro w' hC
    go_simp
    with_reducible rfl
  rotate_left
  refine q_norm (a' := ?_) ?_ ?_
  rotate_left
  · show Act.put _ (some 40) _ = _
    simp only [Act.put, List.setIfInBounds_toArray, List.set_cons_zero, List.set_cons_succ]
    rfl
  refine q_on (v := ?_) (by rfl) ?_ ?_
  rotate_left
  · intro w' hC
    obtain ⟨c0, c1, c2, c3, c4, c5, c6, c7⟩ := eight (C1.out.chg hC id)
    go_simp
    with_reducible rfl
  rotate_left
  refine q_norm (a' := ?_) ?_ ?_
  rotate_left
  · show Act.put _ (some 41) _ = _
    simp only [Act.put, List.setIfInBounds_toArray, List.set_cons_zero, List.set_cons_succ]
    rfl
  refine q_on (v := ?_) (by rfl) ?_ ?_
  rotate_left
  · intro w' hC
    obtain ⟨c0, c1, c2, c3, c4, c5, c6, c7⟩ := eight (C3.out.chg hC id)
    go_simp
    with_reducible rfl
  rotate_left
  refine q_norm (a' := ?_) ?_ ?_
  rotate_left
  · show Act.put _ (some 42) _ = _
    simp only [Act.put, List.setIfInBounds_toArray, List.set_cons_zero, List.set_cons_succ]
    rfl
  refine q_call (f := 10) Tryd.func10 (by kernel_rfl) rfl #[vec b, vec j] (by rfl) rfl (by simp only [List.map_toArray, List.map_cons, List.map_nil]; rfl) _ (fun w' hC => q_of hC (leq_is J7.out w')) ?_
  refine q_norm (a' := ?_) ?_ ?_
  rotate_left
  · show Act.put _ (some 43) _ = _
    simp only [Act.put, List.setIfInBounds_toArray, List.set_cons_zero, List.set_cons_succ]
    rfl
  refine q_on (v := ?_) (by rfl) ?_ ?_
  rotate_left
  · intro w' hC
    go_simp
    with_reducible rfl
  rotate_left
  refine q_norm (a' := ?_) ?_ ?_
  rotate_left
  · show Act.put _ (some 44) _ = _
    simp only [Act.put, List.setIfInBounds_toArray, List.set_cons_zero, List.set_cons_succ]
    rfl
  refine q_on (v := ?_) (by rfl) ?_ ?_
  rotate_left
  · intro w' hC
    go_simp
    with_reducible rfl
  rotate_left
  refine q_norm (a' := ?_) ?_ ?_
  rotate_left
  · show Act.put _ (some 45) _ = _
    simp only [Act.put, List.setIfInBounds_toArray, List.set_cons_zero, List.set_cons_succ]
    rfl
  refine wpQuiet_nil ?_
  intro w' hC
  have D0 := Lib.hid (C0.out.chg hC id)
  have D1 := Lib.hid (C1.out.chg hC id)
  have D2 := Lib.hid (C2.out.chg hC id)
  have D3 := Lib.hid (C3.out.chg hC id)
  have HD := Lib.hid (HW.out.trans hC)
  clear hC C0 C1 C2 C3 HW
  go_wp2_with fail
  have hr := HR.out
  cases hp : leq a c with
  | false =>
    have HP := Lib.hid hp
    clear hp
    refine q_start (by kernel_rfl) (by kernel_rfl) ?_
    refine q_on (v := ?_) (by rfl) ?_ ?_
    rotate_left
    · intro w' hC
      obtain ⟨c0, c1, c2, c3, c4, c5, c6, c7⟩ := eight (D0.out.chg hC id)
      go_simp
      with_reducible rfl
    rotate_left
    refine q_norm (a' := ?_) ?_ ?_
    rotate_left
    · show Act.put _ (some 46) _ = _
      simp only [Act.put, List.setIfInBounds_toArray, List.set_cons_zero, List.set_cons_succ]
      rfl
    refine q_on (v := ?_) (by rfl) ?_ ?_
    rotate_left
    · intro w' hC
      obtain ⟨c0, c1, c2, c3, c4, c5, c6, c7⟩ := eight (D2.out.chg hC id)
      go_simp
      with_reducible rfl
    rotate_left
    refine q_norm (a' := ?_) ?_ ?_
    rotate_left
    · show Act.put _ (some 47) _ = _
      simp only [Act.put, List.setIfInBounds_toArray, List.set_cons_zero, List.set_cons_succ]
      rfl
    refine q_call (f := 10) Tryd.func10 (by kernel_rfl) rfl #[vec a, vec c] (by rfl) rfl (by simp only [List.map_toArray, List.map_cons, List.map_nil]; rfl) _ (fun w' hC => q_of hC (leq_is HP.out w')) ?_
    refine q_norm (a' := ?_) ?_ ?_
    rotate_left
    · show Act.put _ (some 48) _ = _
      simp only [Act.put, List.setIfInBounds_toArray, List.set_cons_zero, List.set_cons_succ]
      rfl
    refine q_on (v := ?_) (by rfl) ?_ ?_
    rotate_left
    · intro w' hC
      go_simp
      with_reducible rfl
    rotate_left
    refine q_norm (a' := ?_) ?_ ?_
    rotate_left
    · show Act.put _ (some 49) _ = _
      simp only [Act.put, List.setIfInBounds_toArray, List.set_cons_zero, List.set_cons_succ]
      rfl
    refine q_on (v := ?_) (by rfl) ?_ ?_
    rotate_left
    · intro w' hC
      go_simp
      with_reducible rfl
    rotate_left
    refine q_norm (a' := ?_) ?_ ?_
    rotate_left
    · show Act.put _ (some 50) _ = _
      simp only [Act.put, List.setIfInBounds_toArray, List.set_cons_zero, List.set_cons_succ]
      rfl
    refine q_off (by rfl) ?_
    refine q_norm (a' := ?_) ?_ ?_
    rotate_left
    · show Act.put _ (some 51) _ = _
      simp only [Act.put, List.setIfInBounds_toArray, List.set_cons_zero, List.set_cons_succ]
      rfl
    refine q_off (by rfl) ?_
    refine q_norm (a' := ?_) ?_ ?_
    rotate_left
    · show Act.put _ (some 52) _ = _
      simp only [Act.put, List.setIfInBounds_toArray, List.set_cons_zero, List.set_cons_succ]
      rfl
    refine q_off (by rfl) ?_
    refine q_norm (a' := ?_) ?_ ?_
    rotate_left
    · show Act.put _ (some 53) _ = _
      simp only [Act.put, List.setIfInBounds_toArray, List.set_cons_zero, List.set_cons_succ]
      rfl
    refine q_off (by rfl) ?_
    refine q_norm (a' := ?_) ?_ ?_
    rotate_left
    · show Act.put _ (some 54) _ = _
      simp only [Act.put, List.setIfInBounds_toArray, List.set_cons_zero, List.set_cons_succ]
      rfl
    refine q_on (v := ?_) (by rfl) ?_ ?_
    rotate_left
    · intro w' hC
      go_simp
      with_reducible rfl
    rotate_left
    refine q_norm (a' := ?_) ?_ ?_
    rotate_left
    · show Act.put _ (some 55) _ = _
      simp only [Act.put, List.setIfInBounds_toArray, List.set_cons_zero, List.set_cons_succ]
      rfl
    refine q_on (v := ?_) (by rfl) ?_ ?_
    rotate_left
    · intro w' hC
      go_simp
      with_reducible rfl
    rotate_left
    refine q_norm (a' := ?_) ?_ ?_
    rotate_left
    · show Act.put _ (some 56) _ = _
      simp only [Act.put, List.setIfInBounds_toArray, List.set_cons_zero, List.set_cons_succ]
      rfl
    refine q_off (by rfl) ?_
    refine q_norm (a' := ?_) ?_ ?_
    rotate_left
    · show Act.put _ (some 57) _ = _
      simp only [Act.put, List.setIfInBounds_toArray, List.set_cons_zero, List.set_cons_succ]
      rfl
    refine q_off (by rfl) ?_
    refine q_norm (a' := ?_) ?_ ?_
    rotate_left
    · show Act.put _ (some 58) _ = _
      simp only [Act.put, List.setIfInBounds_toArray, List.set_cons_zero, List.set_cons_succ]
      rfl
    refine q_off (by rfl) ?_
    refine q_norm (a' := ?_) ?_ ?_
    rotate_left
    · show Act.put _ (some 59) _ = _
      simp only [Act.put, List.setIfInBounds_toArray, List.set_cons_zero, List.set_cons_succ]
      rfl
    refine q_on (v := ?_) (by rfl) ?_ ?_
    rotate_left
    · intro w' hC
      go_simp
      with_reducible rfl
    rotate_left
    refine q_norm (a' := ?_) ?_ ?_
    rotate_left
    · show Act.put _ (some 60) _ = _
      simp only [Act.put, List.setIfInBounds_toArray, List.set_cons_zero, List.set_cons_succ]
      rfl
    refine q_on (v := ?_) (by rfl) ?_ ?_
    rotate_left
    · intro w' hC
      go_simp
      with_reducible rfl
    rotate_left
    refine q_norm (a' := ?_) ?_ ?_
    rotate_left
    · show Act.put _ (some 61) _ = _
      simp only [Act.put, List.setIfInBounds_toArray, List.set_cons_zero, List.set_cons_succ]
      rfl
    refine q_on (v := ?_) (by rfl) ?_ ?_
    rotate_left
    · intro w' hC
      obtain ⟨c0, c1, c2, c3, c4, c5, c6, c7⟩ := eight (D0.out.chg hC id)
      go_simp
      with_reducible rfl
    rotate_left
    refine q_norm (a' := ?_) ?_ ?_
    rotate_left
    · show Act.put _ (some 62) _ = _
      simp only [Act.put, List.setIfInBounds_toArray, List.set_cons_zero, List.set_cons_succ]
      rfl
    refine q_on (v := ?_) (by rfl) ?_ ?_
    rotate_left
    · intro w' hC
      obtain ⟨c0, c1, c2, c3, c4, c5, c6, c7⟩ := eight (D1.out.chg hC id)
      go_simp
      with_reducible rfl
    rotate_left
    refine q_norm (a' := ?_) ?_ ?_
    rotate_left
    · show Act.put _ (some 63) _ = _
      simp only [Act.put, List.setIfInBounds_toArray, List.set_cons_zero, List.set_cons_succ]
      rfl
    refine q_call (f := 10) Tryd.func10 (by kernel_rfl) rfl #[vec a, vec b] (by rfl) rfl (by simp only [List.map_toArray, List.map_cons, List.map_nil]; rfl) _ (fun w' hC => q_of hC (leq_is J8.out w')) ?_
    refine q_norm (a' := ?_) ?_ ?_
    rotate_left
    · show Act.put _ (some 64) _ = _
      simp only [Act.put, List.setIfInBounds_toArray, List.set_cons_zero, List.set_cons_succ]
      rfl
    refine q_on (v := ?_) (by rfl) ?_ ?_
    rotate_left
    · intro w' hC
      obtain ⟨c0, c1, c2, c3, c4, c5, c6, c7⟩ := eight (D0.out.chg hC id)
      go_simp
      with_reducible rfl
    rotate_left
    refine q_norm (a' := ?_) ?_ ?_
    rotate_left
    · show Act.put _ (some 65) _ = _
      simp only [Act.put, List.setIfInBounds_toArray, List.set_cons_zero, List.set_cons_succ]
      rfl
    refine q_on (v := ?_) (by rfl) ?_ ?_
    rotate_left
    · intro w' hC
      obtain ⟨c0, c1, c2, c3, c4, c5, c6, c7⟩ := eight (D1.out.chg hC id)
      go_simp
      with_reducible rfl
    rotate_left
    refine q_norm (a' := ?_) ?_ ?_
    rotate_left
    · show Act.put _ (some 66) _ = _
      simp only [Act.put, List.setIfInBounds_toArray, List.set_cons_zero, List.set_cons_succ]
      rfl
    refine q_call (f := 9) Tryd.func9 (by kernel_rfl) rfl #[vec a, vec b] (by rfl) rfl (by simp only [List.map_toArray, List.map_cons, List.map_nil]; rfl) _ (fun w' hC => q_of hC (join_is J1.out w')) ?_
    refine q_norm (a' := ?_) ?_ ?_
    rotate_left
    · show Act.put _ (some 67) _ = _
      simp only [Act.put, List.setIfInBounds_toArray, List.set_cons_zero, List.set_cons_succ]
      rfl
    refine q_on (v := ?_) (by rfl) ?_ ?_
    rotate_left
    · intro w' hC
      obtain ⟨c0, c1, c2, c3, c4, c5, c6, c7⟩ := eight (D1.out.chg hC id)
      go_simp
      with_reducible rfl
    rotate_left
    refine q_norm (a' := ?_) ?_ ?_
    rotate_left
    · show Act.put _ (some 68) _ = _
      simp only [Act.put, List.setIfInBounds_toArray, List.set_cons_zero, List.set_cons_succ]
      rfl
    refine q_on (v := ?_) (by rfl) ?_ ?_
    rotate_left
    · intro w' hC
      go_simp
      with_reducible rfl
    rotate_left
    refine q_norm (a' := ?_) ?_ ?_
    rotate_left
    · show Act.put _ (some 69) _ = _
      simp only [Act.put, List.setIfInBounds_toArray, List.set_cons_zero, List.set_cons_succ]
      rfl
    refine q_on (v := ?_) (by rfl) ?_ ?_
    rotate_left
    · intro w' hC
      go_simp
      with_reducible rfl
    rotate_left
    refine q_norm (a' := ?_) ?_ ?_
    rotate_left
    · show Act.put _ (some 70) _ = _
      simp only [Act.put, List.setIfInBounds_toArray, List.set_cons_zero, List.set_cons_succ]
      rfl
    refine q_on (v := ?_) (by rfl) ?_ ?_
    rotate_left
    · intro w' hC
      go_simp
      with_reducible rfl
    rotate_left
    refine q_norm (a' := ?_) ?_ ?_
    rotate_left
    · show Act.put _ (some 71) _ = _
      simp only [Act.put, List.setIfInBounds_toArray, List.set_cons_zero, List.set_cons_succ]
      rfl
    refine q_on (v := ?_) (by rfl) ?_ ?_
    rotate_left
    · intro w' hC
      go_simp
      with_reducible rfl
    rotate_left
    refine q_norm (a' := ?_) ?_ ?_
    rotate_left
    · show Act.put _ (some 72) _ = _
      simp only [Act.put, List.setIfInBounds_toArray, List.set_cons_zero, List.set_cons_succ]
      rfl
    refine q_call (f := 11) Tryd.func11 (by kernel_rfl) rfl #[] (by rfl) rfl (by simp only [List.map_toArray, List.map_nil]) _ (fun w' hC => q_of hC (awake_any w')) ?_
    refine q_norm (a' := ?_) ?_ ?_
    rotate_left
    · show Act.put _ (some 73) _ = _
      simp only [Act.put, List.setIfInBounds_toArray, List.set_cons_zero, List.set_cons_succ]
      rfl
    refine q_on (v := ?_) (by rfl) ?_ ?_
    rotate_left
    · intro w' hC
      go_simp
      with_reducible rfl
    rotate_left
    refine q_norm (a' := ?_) ?_ ?_
    rotate_left
    · show Act.put _ (some 74) _ = _
      simp only [Act.put, List.setIfInBounds_toArray, List.set_cons_zero, List.set_cons_succ]
      rfl
    refine q_on (v := ?_) (by rfl) ?_ ?_
    rotate_left
    · intro w' hC
      go_simp
      with_reducible rfl
    rotate_left
    refine q_norm (a' := ?_) ?_ ?_
    rotate_left
    · show Act.put _ (some 6) _ = _
      simp only [Act.put, List.setIfInBounds_toArray, List.set_cons_zero, List.set_cons_succ]
      rfl
    refine wpQuiet_nil ?_
    intro w' hC
    clear hr
    go_wp2_with fail
    go_ret
    exact ⟨rfl, HD.out.trans hC⟩
  | true =>
    cases hq : leq b c with
    | false =>
      have HP := Lib.hid hp
      have HQ := Lib.hid hq
      clear hp hq
      refine q_start (by kernel_rfl) (by kernel_rfl) ?_
      refine q_on (v := ?_) (by rfl) ?_ ?_
      rotate_left
      · intro w' hC
        obtain ⟨c0, c1, c2, c3, c4, c5, c6, c7⟩ := eight (D0.out.chg hC id)
        go_simp
        with_reducible rfl
      rotate_left
      refine q_norm (a' := ?_) ?_ ?_
      rotate_left
      · show Act.put _ (some 46) _ = _
        simp only [Act.put, List.setIfInBounds_toArray, List.set_cons_zero, List.set_cons_succ]
        rfl
      refine q_on (v := ?_) (by rfl) ?_ ?_
      rotate_left
      · intro w' hC
        obtain ⟨c0, c1, c2, c3, c4, c5, c6, c7⟩ := eight (D2.out.chg hC id)
        go_simp
        with_reducible rfl
      rotate_left
      refine q_norm (a' := ?_) ?_ ?_
      rotate_left
      · show Act.put _ (some 47) _ = _
        simp only [Act.put, List.setIfInBounds_toArray, List.set_cons_zero, List.set_cons_succ]
        rfl
      refine q_call (f := 10) Tryd.func10 (by kernel_rfl) rfl #[vec a, vec c] (by rfl) rfl (by simp only [List.map_toArray, List.map_cons, List.map_nil]; rfl) _ (fun w' hC => q_of hC (leq_is HP.out w')) ?_
      refine q_norm (a' := ?_) ?_ ?_
      rotate_left
      · show Act.put _ (some 48) _ = _
        simp only [Act.put, List.setIfInBounds_toArray, List.set_cons_zero, List.set_cons_succ]
        rfl
      refine q_on (v := ?_) (by rfl) ?_ ?_
      rotate_left
      · intro w' hC
        go_simp
        with_reducible rfl
      rotate_left
      refine q_norm (a' := ?_) ?_ ?_
      rotate_left
      · show Act.put _ (some 49) _ = _
        simp only [Act.put, List.setIfInBounds_toArray, List.set_cons_zero, List.set_cons_succ]
        rfl
      refine q_on (v := ?_) (by rfl) ?_ ?_
      rotate_left
      · intro w' hC
        go_simp
        with_reducible rfl
      rotate_left
      refine q_norm (a' := ?_) ?_ ?_
      rotate_left
      · show Act.put _ (some 50) _ = _
        simp only [Act.put, List.setIfInBounds_toArray, List.set_cons_zero, List.set_cons_succ]
        rfl
      refine q_on (v := ?_) (by rfl) ?_ ?_
      rotate_left
      · intro w' hC
        obtain ⟨c0, c1, c2, c3, c4, c5, c6, c7⟩ := eight (D1.out.chg hC id)
        go_simp
        with_reducible rfl
      rotate_left
      refine q_norm (a' := ?_) ?_ ?_
      rotate_left
      · show Act.put _ (some 51) _ = _
        simp only [Act.put, List.setIfInBounds_toArray, List.set_cons_zero, List.set_cons_succ]
        rfl
      refine q_on (v := ?_) (by rfl) ?_ ?_
      rotate_left
      · intro w' hC
        obtain ⟨c0, c1, c2, c3, c4, c5, c6, c7⟩ := eight (D2.out.chg hC id)
        go_simp
        with_reducible rfl
      rotate_left
      refine q_norm (a' := ?_) ?_ ?_
      rotate_left
      · show Act.put _ (some 52) _ = _
        simp only [Act.put, List.setIfInBounds_toArray, List.set_cons_zero, List.set_cons_succ]
        rfl
      refine q_call (f := 10) Tryd.func10 (by kernel_rfl) rfl #[vec b, vec c] (by rfl) rfl (by simp only [List.map_toArray, List.map_cons, List.map_nil]; rfl) _ (fun w' hC => q_of hC (leq_is HQ.out w')) ?_
      refine q_norm (a' := ?_) ?_ ?_
      rotate_left
      · show Act.put _ (some 53) _ = _
        simp only [Act.put, List.setIfInBounds_toArray, List.set_cons_zero, List.set_cons_succ]
        rfl
      refine q_on (v := ?_) (by rfl) ?_ ?_
      rotate_left
      · intro w' hC
        go_simp
        with_reducible rfl
      rotate_left
      refine q_norm (a' := ?_) ?_ ?_
      rotate_left
      · show Act.put _ (some 54) _ = _
        simp only [Act.put, List.setIfInBounds_toArray, List.set_cons_zero, List.set_cons_succ]
        rfl
      refine q_on (v := ?_) (by rfl) ?_ ?_
      rotate_left
      · intro w' hC
        go_simp
        with_reducible rfl
      rotate_left
      refine q_norm (a' := ?_) ?_ ?_
      rotate_left
      · show Act.put _ (some 55) _ = _
        simp only [Act.put, List.setIfInBounds_toArray, List.set_cons_zero, List.set_cons_succ]
        rfl
      refine q_on (v := ?_) (by rfl) ?_ ?_
      rotate_left
      · intro w' hC
        go_simp
        with_reducible rfl
      rotate_left
      refine q_norm (a' := ?_) ?_ ?_
      rotate_left
      · show Act.put _ (some 56) _ = _
        simp only [Act.put, List.setIfInBounds_toArray, List.set_cons_zero, List.set_cons_succ]
        rfl
      refine q_off (by rfl) ?_
      refine q_norm (a' := ?_) ?_ ?_
      rotate_left
      · show Act.put _ (some 57) _ = _
        simp only [Act.put, List.setIfInBounds_toArray, List.set_cons_zero, List.set_cons_succ]
        rfl
      refine q_off (by rfl) ?_
      refine q_norm (a' := ?_) ?_ ?_
      rotate_left
      · show Act.put _ (some 58) _ = _
        simp only [Act.put, List.setIfInBounds_toArray, List.set_cons_zero, List.set_cons_succ]
        rfl
      refine q_off (by rfl) ?_
      refine q_norm (a' := ?_) ?_ ?_
      rotate_left
      · show Act.put _ (some 59) _ = _
        simp only [Act.put, List.setIfInBounds_toArray, List.set_cons_zero, List.set_cons_succ]
        rfl
      refine q_on (v := ?_) (by rfl) ?_ ?_
      rotate_left
      · intro w' hC
        go_simp
        with_reducible rfl
      rotate_left
      refine q_norm (a' := ?_) ?_ ?_
      rotate_left
      · show Act.put _ (some 60) _ = _
        simp only [Act.put, List.setIfInBounds_toArray, List.set_cons_zero, List.set_cons_succ]
        rfl
      refine q_on (v := ?_) (by rfl) ?_ ?_
      rotate_left
      · intro w' hC
        go_simp
        with_reducible rfl
      rotate_left
      refine q_norm (a' := ?_) ?_ ?_
      rotate_left
      · show Act.put _ (some 61) _ = _
        simp only [Act.put, List.setIfInBounds_toArray, List.set_cons_zero, List.set_cons_succ]
        rfl
      refine q_on (v := ?_) (by rfl) ?_ ?_
      rotate_left
      · intro w' hC
        obtain ⟨c0, c1, c2, c3, c4, c5, c6, c7⟩ := eight (D0.out.chg hC id)
        go_simp
        with_reducible rfl
      rotate_left
      refine q_norm (a' := ?_) ?_ ?_
      rotate_left
      · show Act.put _ (some 62) _ = _
        simp only [Act.put, List.setIfInBounds_toArray, List.set_cons_zero, List.set_cons_succ]
        rfl
      refine q_on (v := ?_) (by rfl) ?_ ?_
      rotate_left
      · intro w' hC
        obtain ⟨c0, c1, c2, c3, c4, c5, c6, c7⟩ := eight (D1.out.chg hC id)
        go_simp
        with_reducible rfl
      rotate_left
      refine q_norm (a' := ?_) ?_ ?_
      rotate_left
      · show Act.put _ (some 63) _ = _
        simp only [Act.put, List.setIfInBounds_toArray, List.set_cons_zero, List.set_cons_succ]
        rfl
      refine q_call (f := 10) Tryd.func10 (by kernel_rfl) rfl #[vec a, vec b] (by rfl) rfl (by simp only [List.map_toArray, List.map_cons, List.map_nil]; rfl) _ (fun w' hC => q_of hC (leq_is J8.out w')) ?_
      refine q_norm (a' := ?_) ?_ ?_
      rotate_left
      · show Act.put _ (some 64) _ = _
        simp only [Act.put, List.setIfInBounds_toArray, List.set_cons_zero, List.set_cons_succ]
        rfl
      refine q_on (v := ?_) (by rfl) ?_ ?_
      rotate_left
      · intro w' hC
        obtain ⟨c0, c1, c2, c3, c4, c5, c6, c7⟩ := eight (D0.out.chg hC id)
        go_simp
        with_reducible rfl
      rotate_left
      refine q_norm (a' := ?_) ?_ ?_
      rotate_left
      · show Act.put _ (some 65) _ = _
        simp only [Act.put, List.setIfInBounds_toArray, List.set_cons_zero, List.set_cons_succ]
        rfl
      refine q_on (v := ?_) (by rfl) ?_ ?_
      rotate_left
      · intro w' hC
        obtain ⟨c0, c1, c2, c3, c4, c5, c6, c7⟩ := eight (D1.out.chg hC id)
        go_simp
        with_reducible rfl
      rotate_left
      refine q_norm (a' := ?_) ?_ ?_
      rotate_left
      · show Act.put _ (some 66) _ = _
        simp only [Act.put, List.setIfInBounds_toArray, List.set_cons_zero, List.set_cons_succ]
        rfl
      refine q_call (f := 9) Tryd.func9 (by kernel_rfl) rfl #[vec a, vec b] (by rfl) rfl (by simp only [List.map_toArray, List.map_cons, List.map_nil]; rfl) _ (fun w' hC => q_of hC (join_is J1.out w')) ?_
      refine q_norm (a' := ?_) ?_ ?_
      rotate_left
      · show Act.put _ (some 67) _ = _
        simp only [Act.put, List.setIfInBounds_toArray, List.set_cons_zero, List.set_cons_succ]
        rfl
      refine q_on (v := ?_) (by rfl) ?_ ?_
      rotate_left
      · intro w' hC
        obtain ⟨c0, c1, c2, c3, c4, c5, c6, c7⟩ := eight (D1.out.chg hC id)
        go_simp
        with_reducible rfl
      rotate_left
      refine q_norm (a' := ?_) ?_ ?_
      rotate_left
      · show Act.put _ (some 68) _ = _
        simp only [Act.put, List.setIfInBounds_toArray, List.set_cons_zero, List.set_cons_succ]
        rfl
      refine q_on (v := ?_) (by rfl) ?_ ?_
      rotate_left
      · intro w' hC
        go_simp
        with_reducible rfl
      rotate_left
      refine q_norm (a' := ?_) ?_ ?_
      rotate_left
      · show Act.put _ (some 69) _ = _
        simp only [Act.put, List.setIfInBounds_toArray, List.set_cons_zero, List.set_cons_succ]
        rfl
      refine q_on (v := ?_) (by rfl) ?_ ?_
      rotate_left
      · intro w' hC
        go_simp
        with_reducible rfl
      rotate_left
      refine q_norm (a' := ?_) ?_ ?_
      rotate_left
      · show Act.put _ (some 70) _ = _
        simp only [Act.put, List.setIfInBounds_toArray, List.set_cons_zero, List.set_cons_succ]
        rfl
      refine q_on (v := ?_) (by rfl) ?_ ?_
      rotate_left
      · intro w' hC
        go_simp
        with_reducible rfl
      rotate_left
      refine q_norm (a' := ?_) ?_ ?_
      rotate_left
      · show Act.put _ (some 71) _ = _
        simp only [Act.put, List.setIfInBounds_toArray, List.set_cons_zero, List.set_cons_succ]
        rfl
      refine q_on (v := ?_) (by rfl) ?_ ?_
      rotate_left
      · intro w' hC
        go_simp
        with_reducible rfl
      rotate_left
      refine q_norm (a' := ?_) ?_ ?_
      rotate_left
      · show Act.put _ (some 72) _ = _
        simp only [Act.put, List.setIfInBounds_toArray, List.set_cons_zero, List.set_cons_succ]
        rfl
      refine q_call (f := 11) Tryd.func11 (by kernel_rfl) rfl #[] (by rfl) rfl (by simp only [List.map_toArray, List.map_nil]) _ (fun w' hC => q_of hC (awake_any w')) ?_
      refine q_norm (a' := ?_) ?_ ?_
      rotate_left
      · show Act.put _ (some 73) _ = _
        simp only [Act.put, List.setIfInBounds_toArray, List.set_cons_zero, List.set_cons_succ]
        rfl
      refine q_on (v := ?_) (by rfl) ?_ ?_
      rotate_left
      · intro w' hC
        go_simp
        with_reducible rfl
      rotate_left
      refine q_norm (a' := ?_) ?_ ?_
      rotate_left
      · show Act.put _ (some 74) _ = _
        simp only [Act.put, List.setIfInBounds_toArray, List.set_cons_zero, List.set_cons_succ]
        rfl
      refine q_on (v := ?_) (by rfl) ?_ ?_
      rotate_left
      · intro w' hC
        go_simp
        with_reducible rfl
      rotate_left
      refine q_norm (a' := ?_) ?_ ?_
      rotate_left
      · show Act.put _ (some 6) _ = _
        simp only [Act.put, List.setIfInBounds_toArray, List.set_cons_zero, List.set_cons_succ]
        rfl
      refine wpQuiet_nil ?_
      intro w' hC
      clear hr
      go_wp2_with fail
      go_ret
      exact ⟨rfl, HD.out.trans hC⟩
    | true =>
      have HP := Lib.hid hp
      have HQ := Lib.hid hq
      have HS := Lib.hid (J9.out hp hq)
      clear hp hq
      refine q_start (by kernel_rfl) (by kernel_rfl) ?_
      refine q_on (v := ?_) (by rfl) ?_ ?_
      rotate_left
      · intro w' hC
        obtain ⟨c0, c1, c2, c3, c4, c5, c6, c7⟩ := eight (D0.out.chg hC id)
        go_simp
        with_reducible rfl
      rotate_left
      refine q_norm (a' := ?_) ?_ ?_
      rotate_left
      · show Act.put _ (some 46) _ = _
        simp only [Act.put, List.setIfInBounds_toArray, List.set_cons_zero, List.set_cons_succ]
        rfl
      refine q_on (v := ?_) (by rfl) ?_ ?_
      rotate_left
      · intro w' hC
        obtain ⟨c0, c1, c2, c3, c4, c5, c6, c7⟩ := eight (D2.out.chg hC id)
        go_simp
        with_reducible rfl
      rotate_left
      refine q_norm (a' := ?_) ?_ ?_
      rotate_left
      · show Act.put _ (some 47) _ = _
        simp only [Act.put, List.setIfInBounds_toArray, List.set_cons_zero, List.set_cons_succ]
        rfl
      refine q_call (f := 10) Tryd.func10 (by kernel_rfl) rfl #[vec a, vec c] (by rfl) rfl (by simp only [List.map_toArray, List.map_cons, List.map_nil]; rfl) _ (fun w' hC => q_of hC (leq_is HP.out w')) ?_
      refine q_norm (a' := ?_) ?_ ?_
      rotate_left
      · show Act.put _ (some 48) _ = _
        simp only [Act.put, List.setIfInBounds_toArray, List.set_cons_zero, List.set_cons_succ]
        rfl
      refine q_on (v := ?_) (by rfl) ?_ ?_
      rotate_left
      · intro w' hC
        go_simp
        with_reducible rfl
      rotate_left
      refine q_norm (a' := ?_) ?_ ?_
      rotate_left
      · show Act.put _ (some 49) _ = _
        simp only [Act.put, List.setIfInBounds_toArray, List.set_cons_zero, List.set_cons_succ]
        rfl
      refine q_on (v := ?_) (by rfl) ?_ ?_
      rotate_left
      · intro w' hC
        go_simp
        with_reducible rfl
      rotate_left
      refine q_norm (a' := ?_) ?_ ?_
      rotate_left
      · show Act.put _ (some 50) _ = _
        simp only [Act.put, List.setIfInBounds_toArray, List.set_cons_zero, List.set_cons_succ]
        rfl
      refine q_on (v := ?_) (by rfl) ?_ ?_
      rotate_left
      · intro w' hC
        obtain ⟨c0, c1, c2, c3, c4, c5, c6, c7⟩ := eight (D1.out.chg hC id)
        go_simp
        with_reducible rfl
      rotate_left
      refine q_norm (a' := ?_) ?_ ?_
      rotate_left
      · show Act.put _ (some 51) _ = _
        simp only [Act.put, List.setIfInBounds_toArray, List.set_cons_zero, List.set_cons_succ]
        rfl
      refine q_on (v := ?_) (by rfl) ?_ ?_
      rotate_left
      · intro w' hC
        obtain ⟨c0, c1, c2, c3, c4, c5, c6, c7⟩ := eight (D2.out.chg hC id)
        go_simp
        with_reducible rfl
      rotate_left
      refine q_norm (a' := ?_) ?_ ?_
      rotate_left
      · show Act.put _ (some 52) _ = _
        simp only [Act.put, List.setIfInBounds_toArray, List.set_cons_zero, List.set_cons_succ]
        rfl
      refine q_call (f := 10) Tryd.func10 (by kernel_rfl) rfl #[vec b, vec c] (by rfl) rfl (by simp only [List.map_toArray, List.map_cons, List.map_nil]; rfl) _ (fun w' hC => q_of hC (leq_is HQ.out w')) ?_
      refine q_norm (a' := ?_) ?_ ?_
      rotate_left
      · show Act.put _ (some 53) _ = _
        simp only [Act.put, List.setIfInBounds_toArray, List.set_cons_zero, List.set_cons_succ]
        rfl
      refine q_on (v := ?_) (by rfl) ?_ ?_
      rotate_left
      · intro w' hC
        go_simp
        with_reducible rfl
      rotate_left
      refine q_norm (a' := ?_) ?_ ?_
      rotate_left
      · show Act.put _ (some 54) _ = _
        simp only [Act.put, List.setIfInBounds_toArray, List.set_cons_zero, List.set_cons_succ]
        rfl
      refine q_on (v := ?_) (by rfl) ?_ ?_
      rotate_left
      · intro w' hC
        go_simp
        with_reducible rfl
      rotate_left
      refine q_norm (a' := ?_) ?_ ?_
      rotate_left
      · show Act.put _ (some 55) _ = _
        simp only [Act.put, List.setIfInBounds_toArray, List.set_cons_zero, List.set_cons_succ]
        rfl
      refine q_on (v := ?_) (by rfl) ?_ ?_
      rotate_left
      · intro w' hC
        go_simp
        with_reducible rfl
      rotate_left
      refine q_norm (a' := ?_) ?_ ?_
      rotate_left
      · show Act.put _ (some 56) _ = _
        simp only [Act.put, List.setIfInBounds_toArray, List.set_cons_zero, List.set_cons_succ]
        rfl
      refine q_on (v := ?_) (by rfl) ?_ ?_
      rotate_left
      · intro w' hC
        obtain ⟨c0, c1, c2, c3, c4, c5, c6, c7⟩ := eight (D3.out.chg hC id)
        go_simp
        with_reducible rfl
      rotate_left
      refine q_norm (a' := ?_) ?_ ?_
      rotate_left
      · show Act.put _ (some 57) _ = _
        simp only [Act.put, List.setIfInBounds_toArray, List.set_cons_zero, List.set_cons_succ]
        rfl
      refine q_on (v := ?_) (by rfl) ?_ ?_
      rotate_left
      · intro w' hC
        obtain ⟨c0, c1, c2, c3, c4, c5, c6, c7⟩ := eight (D2.out.chg hC id)
        go_simp
        with_reducible rfl
      rotate_left
      refine q_norm (a' := ?_) ?_ ?_
      rotate_left
      · show Act.put _ (some 58) _ = _
        simp only [Act.put, List.setIfInBounds_toArray, List.set_cons_zero, List.set_cons_succ]
        rfl
      refine q_call (f := 10) Tryd.func10 (by kernel_rfl) rfl #[vec j, vec c] (by rfl) rfl (by simp only [List.map_toArray, List.map_cons, List.map_nil]; rfl) _ (fun w' hC => q_of hC (leq_is HS.out w')) ?_
      refine q_norm (a' := ?_) ?_ ?_
      rotate_left
      · show Act.put _ (some 59) _ = _
        simp only [Act.put, List.setIfInBounds_toArray, List.set_cons_zero, List.set_cons_succ]
        rfl
      refine q_on (v := ?_) (by rfl) ?_ ?_
      rotate_left
      · intro w' hC
        go_simp
        with_reducible rfl
      rotate_left
      refine q_norm (a' := ?_) ?_ ?_
      rotate_left
      · show Act.put _ (some 60) _ = _
        simp only [Act.put, List.setIfInBounds_toArray, List.set_cons_zero, List.set_cons_succ]
        rfl
      refine q_on (v := ?_) (by rfl) ?_ ?_
      rotate_left
      · intro w' hC
        go_simp
        with_reducible rfl
      rotate_left
      refine q_norm (a' := ?_) ?_ ?_
      rotate_left
      · show Act.put _ (some 61) _ = _
        simp only [Act.put, List.setIfInBounds_toArray, List.set_cons_zero, List.set_cons_succ]
        rfl
      refine q_on (v := ?_) (by rfl) ?_ ?_
      rotate_left
      · intro w' hC
        obtain ⟨c0, c1, c2, c3, c4, c5, c6, c7⟩ := eight (D0.out.chg hC id)
        go_simp
        with_reducible rfl
      rotate_left
      refine q_norm (a' := ?_) ?_ ?_
      rotate_left
      · show Act.put _ (some 62) _ = _
        simp only [Act.put, List.setIfInBounds_toArray, List.set_cons_zero, List.set_cons_succ]
        rfl
      refine q_on (v := ?_) (by rfl) ?_ ?_
      rotate_left
      · intro w' hC
        obtain ⟨c0, c1, c2, c3, c4, c5, c6, c7⟩ := eight (D1.out.chg hC id)
        go_simp
        with_reducible rfl
      rotate_left
      refine q_norm (a' := ?_) ?_ ?_
      rotate_left
      · show Act.put _ (some 63) _ = _
        simp only [Act.put, List.setIfInBounds_toArray, List.set_cons_zero, List.set_cons_succ]
        rfl
      refine q_call (f := 10) Tryd.func10 (by kernel_rfl) rfl #[vec a, vec b] (by rfl) rfl (by simp only [List.map_toArray, List.map_cons, List.map_nil]; rfl) _ (fun w' hC => q_of hC (leq_is J8.out w')) ?_
      refine q_norm (a' := ?_) ?_ ?_
      rotate_left
      · show Act.put _ (some 64) _ = _
        simp only [Act.put, List.setIfInBounds_toArray, List.set_cons_zero, List.set_cons_succ]
        rfl
      refine q_on (v := ?_) (by rfl) ?_ ?_
      rotate_left
      · intro w' hC
        obtain ⟨c0, c1, c2, c3, c4, c5, c6, c7⟩ := eight (D0.out.chg hC id)
        go_simp
        with_reducible rfl
      rotate_left
      refine q_norm (a' := ?_) ?_ ?_
      rotate_left
      · show Act.put _ (some 65) _ = _
        simp only [Act.put, List.setIfInBounds_toArray, List.set_cons_zero, List.set_cons_succ]
        rfl
      refine q_on (v := ?_) (by rfl) ?_ ?_
      rotate_left
      · intro w' hC
        obtain ⟨c0, c1, c2, c3, c4, c5, c6, c7⟩ := eight (D1.out.chg hC id)
        go_simp
        with_reducible rfl
      rotate_left
      refine q_norm (a' := ?_) ?_ ?_
      rotate_left
      · show Act.put _ (some 66) _ = _
        simp only [Act.put, List.setIfInBounds_toArray, List.set_cons_zero, List.set_cons_succ]
        rfl
      refine q_call (f := 9) Tryd.func9 (by kernel_rfl) rfl #[vec a, vec b] (by rfl) rfl (by simp only [List.map_toArray, List.map_cons, List.map_nil]; rfl) _ (fun w' hC => q_of hC (join_is J1.out w')) ?_
      refine q_norm (a' := ?_) ?_ ?_
      rotate_left
      · show Act.put _ (some 67) _ = _
        simp only [Act.put, List.setIfInBounds_toArray, List.set_cons_zero, List.set_cons_succ]
        rfl
      refine q_on (v := ?_) (by rfl) ?_ ?_
      rotate_left
      · intro w' hC
        obtain ⟨c0, c1, c2, c3, c4, c5, c6, c7⟩ := eight (D1.out.chg hC id)
        go_simp
        with_reducible rfl
      rotate_left
      refine q_norm (a' := ?_) ?_ ?_
      rotate_left
      · show Act.put _ (some 68) _ = _
        simp only [Act.put, List.setIfInBounds_toArray, List.set_cons_zero, List.set_cons_succ]
        rfl
      refine q_on (v := ?_) (by rfl) ?_ ?_
      rotate_left
      · intro w' hC
        go_simp
        with_reducible rfl
      rotate_left
      refine q_norm (a' := ?_) ?_ ?_
      rotate_left
      · show Act.put _ (some 69) _ = _
        simp only [Act.put, List.setIfInBounds_toArray, List.set_cons_zero, List.set_cons_succ]
        rfl
      refine q_on (v := ?_) (by rfl) ?_ ?_
      rotate_left
      · intro w' hC
        go_simp
        with_reducible rfl
      rotate_left
      refine q_norm (a' := ?_) ?_ ?_
      rotate_left
      · show Act.put _ (some 70) _ = _
        simp only [Act.put, List.setIfInBounds_toArray, List.set_cons_zero, List.set_cons_succ]
        rfl
      refine q_on (v := ?_) (by rfl) ?_ ?_
      rotate_left
      · intro w' hC
        go_simp
        with_reducible rfl
      rotate_left
      refine q_norm (a' := ?_) ?_ ?_
      rotate_left
      · show Act.put _ (some 71) _ = _
        simp only [Act.put, List.setIfInBounds_toArray, List.set_cons_zero, List.set_cons_succ]
        rfl
      refine q_on (v := ?_) (by rfl) ?_ ?_
      rotate_left
      · intro w' hC
        go_simp
        with_reducible rfl
      rotate_left
      refine q_norm (a' := ?_) ?_ ?_
      rotate_left
      · show Act.put _ (some 72) _ = _
        simp only [Act.put, List.setIfInBounds_toArray, List.set_cons_zero, List.set_cons_succ]
        rfl
      refine q_call (f := 11) Tryd.func11 (by kernel_rfl) rfl #[] (by rfl) rfl (by simp only [List.map_toArray, List.map_nil]) _ (fun w' hC => q_of hC (awake_any w')) ?_
      refine q_norm (a' := ?_) ?_ ?_
      rotate_left
      · show Act.put _ (some 73) _ = _
        simp only [Act.put, List.setIfInBounds_toArray, List.set_cons_zero, List.set_cons_succ]
        rfl
      refine q_on (v := ?_) (by rfl) ?_ ?_
      rotate_left
      · intro w' hC
        go_simp
        with_reducible rfl
      rotate_left
      refine q_norm (a' := ?_) ?_ ?_
      rotate_left
      · show Act.put _ (some 74) _ = _
        simp only [Act.put, List.setIfInBounds_toArray, List.set_cons_zero, List.set_cons_succ]
        rfl
      refine q_on (v := ?_) (by rfl) ?_ ?_
      rotate_left
      · intro w' hC
        go_simp
        with_reducible rfl
      rotate_left
      refine q_norm (a' := ?_) ?_ ?_
      rotate_left
      · show Act.put _ (some 6) _ = _
        simp only [Act.put, List.setIfInBounds_toArray, List.set_cons_zero, List.set_cons_succ]
        rfl
      refine wpQuiet_nil ?_
      intro w' hC
      clear hr
      go_wp2_with fail
      go_ret
      exact ⟨rfl, HD.out.trans hC⟩
theorem vectorJoins_walk (v0 : Value) (D0 : Vc) (v1 : Value) (D1 : Vc) (v2 : Value) (D2 : Vc) (w : World) (w0 : VecAt v0 D0) (w1 : VecAt v1 D1) (w2 : VecAt v2 D2) :
    Calls Tryd.prog 3 #[v0, v1, v2] w fun e w' => e = .returned (.bool true) ∧ Below w.heap.size w w' := by
  obtain ⟨rfl, _⟩ := w0
  obtain ⟨rfl, _⟩ := w1
  obtain ⟨rfl, _⟩ := w2
  exact (vectorJoins_any D0 D1 D2 w).mono fun _ _ ⟨h1, h2⟩ => ⟨h1, h2.below⟩
end Go.Proofs.YthkmocfdpmlllaaDoor
