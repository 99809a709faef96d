/- VectorTexts: the walk. -/
import Derived.Test.YthkmocfdpmlllabDoorVectorBack
import Derived.Test.YthkmocfdpmlllabDoorRefParse
namespace Go.Proofs.YthkmocfdpmlllabDoor
open Go.RowKit Go.Proofs.YthkmocfdpmlllabDoorW.PrintLast
attribute [local go_sem] max2_mx max_two_ eq_nums
attribute [local irreducible] wpQuiet
set_option maxRecDepth 100000 in
set_option maxHeartbeats 16000000 in
theorem vectorTexts_any (f : Vc) (s : ByteArray) (hf : ∀ k, k < 8 → -9223372036854775808 ≤ f k ∧ f k ≤ 9223372036854775807) (hs : s.size < 4294967281) (w : World) (hT : Tab w) (hE : Errs w) (hM : Mxl w) :
    Calls Tryd.prog 4 #[vec f, .string s] w fun e w' => e = .returned (.bool true) ∧ Chg NoB w w' := by
  have HF := Lib.hid hf
  have HT := Lib.hid hT
  have HE := Lib.hid hE
  have HM := Lib.hid hM
  clear hf hT hE hM
  have HSz := Lib.hid hs
  clear hs
  go_enter Tryd.func4, Tryd.ntmps4
  go_wp2_with fail
  have C1 := (Chg.refl NoB w).alloc (Obj.cells (va f) 23)
  refine (parse_any s HSz.out _ (tab_chg HT.out C1) (HE.out.chg C1) (HM.out.chg C1)).mono ?_
  rintro e w1 ⟨rfl, hC⟩
  obtain ⟨X, hX⟩ : ∃ X, pout s = X := ⟨_, rfl⟩
  obtain ⟨ok, hok⟩ : ∃ b, pok s = b := ⟨_, rfl⟩
  have HR : ∀ W, Tab W → Calls Tryd.prog 18 #[.string s] W fun e w' => e = .returned (.tuple #[vec X, .bool ok]) ∧ Chg NoB W w' := fun W h => by rw [← hX, ← hok]; exact rparse_any s W h
  rw [hX, hok]
  have HR := Lib.hid HR
  clear hX hok
  have D0 := Lib.hid (((Blk.new w 23 (va f)).chg hC id).alloc (Obj.cells (va X) 23))
  have D1 := Lib.hid (Blk.new w1 23 (va X))
  have HC := Lib.hid ((C1.trans hC).alloc (Obj.cells (va X) 23))
  clear hC C1
  go_wp2_with fail
  generalize w1.alloc (Obj.cells _ 23) = W1 at *
  refine (HR.out _ (tab_chg HT.out HC.out)).mono ?_
  rintro e w2 ⟨rfl, hC⟩
  have E0 := Lib.hid ((D0.out.chg hC id).alloc (Obj.cells (va X) 23))
  have E1 := Lib.hid ((D1.out.chg hC id).alloc (Obj.cells (va X) 23))
  have E2 := Lib.hid (Blk.new w2 23 (va X))
  have HD := Lib.hid ((HC.out.trans hC).alloc (Obj.cells (va X) 23))
  clear hC D0 D1 HC
  go_wp2_with fail
  generalize w2.alloc (Obj.cells _ 23) = W at *
  obtain ⟨t, ht⟩ : ∃ t, tx f = t := ⟨_, rfl⟩
  have T1 : Hid (∀ w', Chg NoB W w' → Calls Tryd.prog 19 #[vec f] w' fun e w'' => e = .returned (.string t) ∧ Chg NoB w' w'') := Lib.hid fun w' h => by rw [← ht]; exact text_int f HF.out w' (tab_chg HT.out (HD.out.trans h))
  have T2 : Hid (∀ w', Chg NoB W w' → Calls Tryd.prog 20 #[vec f] w' fun e w'' => e = .returned (.string t) ∧ Chg NoB w' w'') := Lib.hid fun w' h => by rw [← ht]; exact rtext_int f HF.out w' (tab_chg HT.out (HD.out.trans h))
  clear ht
  refine q_start (by kernel_rfl) (by kernel_rfl) ?_
  refine q_on (v := ?_) (by rfl) ?_ ?_
  rotate_left
  · intro w' hC
    obtain ⟨c0, c1, c2, c3, c4, c5, c6, c7⟩ := eight (E0.out.chg hC id)
    go_simp
    with_reducible rfl
  rotate_left
  refine q_norm (a' := ?_) ?_ ?_
  rotate_left
  · show Act.put _ (some 19) _ = _
    simp only [Act.put, List.setIfInBounds_toArray, List.set_cons_zero, List.set_cons_succ]
    rfl
  refine q_call (f := 19) Tryd.func19 (by kernel_rfl) rfl #[vec f] (by rfl) rfl (by simp only [List.map_toArray, List.map_cons, List.map_nil]; rfl) _ (fun w' hC => q_of hC (T1.out w' hC)) ?_
  refine q_norm (a' := ?_) ?_ ?_
  rotate_left
  · show Act.put _ (some 20) _ = _
    simp only [Act.put, List.setIfInBounds_toArray, List.set_cons_zero, List.set_cons_succ]
    rfl
  refine q_on (v := ?_) (by rfl) ?_ ?_
  rotate_left
  · intro w' hC
    obtain ⟨c0, c1, c2, c3, c4, c5, c6, c7⟩ := eight (E0.out.chg hC id)
    go_simp
    with_reducible rfl
  rotate_left
  refine q_norm (a' := ?_) ?_ ?_
  rotate_left
  · show Act.put _ (some 21) _ = _
    simp only [Act.put, List.setIfInBounds_toArray, List.set_cons_zero, List.set_cons_succ]
    rfl
  refine q_call (f := 20) Tryd.func20 (by kernel_rfl) rfl #[vec f] (by rfl) rfl (by simp only [List.map_toArray, List.map_cons, List.map_nil]; rfl) _ (fun w' hC => q_of hC (T2.out w' hC)) ?_
  refine q_norm (a' := ?_) ?_ ?_
  rotate_left
  · show Act.put _ (some 22) _ = _
    simp only [Act.put, List.setIfInBounds_toArray, List.set_cons_zero, List.set_cons_succ]
    rfl
  refine q_on (v := ?_) (by rfl) ?_ ?_
  rotate_left
  · intro w' hC
    go_simp
    with_reducible rfl
  rotate_left
  refine q_norm (a' := ?_) ?_ ?_
  rotate_left
  · show Act.put _ (some 23) _ = _
    simp only [Act.put, List.setIfInBounds_toArray, List.set_cons_zero, List.set_cons_succ]
    rfl
  refine q_on (v := ?_) (by rfl) ?_ ?_
  rotate_left
  · intro w' hC
    go_simp
    with_reducible rfl
  rotate_left
  refine q_norm (a' := ?_) ?_ ?_
  rotate_left
  · show Act.put _ (some 24) _ = _
    simp only [Act.put, List.setIfInBounds_toArray, List.set_cons_zero, List.set_cons_succ]
    rfl
  refine q_on (v := ?_) (by rfl) ?_ ?_
  rotate_left
  · intro w' hC
    obtain ⟨c0, c1, c2, c3, c4, c5, c6, c7⟩ := eight (E1.out.chg hC id)
    go_simp
    with_reducible rfl
  rotate_left
  refine q_norm (a' := ?_) ?_ ?_
  rotate_left
  · show Act.put _ (some 25) _ = _
    simp only [Act.put, List.setIfInBounds_toArray, List.set_cons_zero, List.set_cons_succ]
    rfl
  refine q_on (v := ?_) (by rfl) ?_ ?_
  rotate_left
  · intro w' hC
    obtain ⟨c0, c1, c2, c3, c4, c5, c6, c7⟩ := eight (E2.out.chg hC id)
    go_simp
    with_reducible rfl
  rotate_left
  refine q_norm (a' := ?_) ?_ ?_
  rotate_left
  · show Act.put _ (some 26) _ = _
    simp only [Act.put, List.setIfInBounds_toArray, List.set_cons_zero, List.set_cons_succ]
    rfl
  refine q_on (v := ?_) (by rfl) ?_ ?_
  rotate_left
  · intro w' hC
    go_simp
    with_reducible rfl
  rotate_left
  refine q_norm (a' := ?_) ?_ ?_
  rotate_left
  · show Act.put _ (some 27) _ = _
    simp only [Act.put, List.setIfInBounds_toArray, List.set_cons_zero, List.set_cons_succ]
    rfl
  refine q_on (v := ?_) (by rfl) ?_ ?_
  rotate_left
  · intro w' hC
    go_simp
    with_reducible rfl
  rotate_left
  refine q_norm (a' := ?_) ?_ ?_
  rotate_left
  · show Act.put _ (some 28) _ = _
    simp only [Act.put, List.setIfInBounds_toArray, List.set_cons_zero, List.set_cons_succ]
    rfl
  refine q_on (v := ?_) (by rfl) ?_ ?_
  rotate_left
  · intro w' hC
    go_simp
    with_reducible rfl
  rotate_left
  refine q_norm (a' := ?_) ?_ ?_
  rotate_left
  · show Act.put _ (some 29) _ = _
    simp only [Act.put, List.setIfInBounds_toArray, List.set_cons_zero, List.set_cons_succ]
    rfl
  refine q_on (v := ?_) (by rfl) ?_ ?_
  rotate_left
  · intro w' hC
    go_simp
    with_reducible rfl
  rotate_left
  refine q_norm (a' := ?_) ?_ ?_
  rotate_left
  · show Act.put _ (some 30) _ = _
    simp only [Act.put, List.setIfInBounds_toArray, List.set_cons_zero, List.set_cons_succ]
    rfl
  refine q_on (v := ?_) (by rfl) ?_ ?_
  rotate_left
  · intro w' hC
    go_simp
    with_reducible rfl
  rotate_left
  refine q_norm (a' := ?_) ?_ ?_
  rotate_left
  · show Act.put _ (some 31) _ = _
    simp only [Act.put, List.setIfInBounds_toArray, List.set_cons_zero, List.set_cons_succ]
    rfl
  refine q_on (v := ?_) (by rfl) ?_ ?_
  rotate_left
  · intro w' hC
    go_simp
    with_reducible rfl
  rotate_left
  refine q_norm (a' := ?_) ?_ ?_
  rotate_left
  · show Act.put _ (some 32) _ = _
    simp only [Act.put, List.setIfInBounds_toArray, List.set_cons_zero, List.set_cons_succ]
    rfl
  refine q_on (v := ?_) (by rfl) ?_ ?_
  rotate_left
  · intro w' hC
    go_simp
    with_reducible rfl
  rotate_left
  refine q_norm (a' := ?_) ?_ ?_
  rotate_left
  · show Act.put _ (some 33) _ = _
    simp only [Act.put, List.setIfInBounds_toArray, List.set_cons_zero, List.set_cons_succ]
    rfl
  refine q_on (v := ?_) (by rfl) ?_ ?_
  rotate_left
  · intro w' hC
    go_simp
    with_reducible rfl
  rotate_left
  refine q_norm (a' := ?_) ?_ ?_
  rotate_left
  · show Act.put _ (some 34) _ = _
    simp only [Act.put, List.setIfInBounds_toArray, List.set_cons_zero, List.set_cons_succ]
    rfl
  refine q_call (f := 16) Tryd.func16 (by kernel_rfl) rfl #[] (by rfl) rfl (by simp only [List.map_toArray, List.map_nil]) _ (fun w' hC => q_of hC (awake_any w')) ?_
  refine q_norm (a' := ?_) ?_ ?_
  rotate_left
  · show Act.put _ (some 35) _ = _
    simp only [Act.put, List.setIfInBounds_toArray, List.set_cons_zero, List.set_cons_succ]
    rfl
  refine q_on (v := ?_) (by rfl) ?_ ?_
  rotate_left
  · intro w' hC
    go_simp
    with_reducible rfl
  rotate_left
  refine q_norm (a' := ?_) ?_ ?_
  rotate_left
  · show Act.put _ (some 36) _ = _
    simp only [Act.put, List.setIfInBounds_toArray, List.set_cons_zero, List.set_cons_succ]
    rfl
  refine q_on (v := ?_) (by rfl) ?_ ?_
  rotate_left
  · intro w' hC
    go_simp
    with_reducible rfl
  rotate_left
  refine q_norm (a' := ?_) ?_ ?_
  rotate_left
  · show Act.put _ (some 4) _ = _
    simp only [Act.put, List.setIfInBounds_toArray, List.set_cons_zero, List.set_cons_succ]
    rfl
  refine wpQuiet_nil ?_
  intro w' hC
  go_wp2_with fail
  go_ret
  exact ⟨rfl, HD.out.trans hC⟩
end Go.Proofs.YthkmocfdpmlllabDoor
