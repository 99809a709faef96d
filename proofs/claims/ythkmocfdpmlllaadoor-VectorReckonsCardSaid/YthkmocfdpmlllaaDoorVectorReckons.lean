/- VectorReckons: the walk. -/
import Derived.Test.YthkmocfdpmlllaaDoorVectorRef
namespace Go.Proofs.YthkmocfdpmlllaaDoor
open Go.RowKit
attribute [local go_sem] max2_mx max_two_ eq_nums
attribute [local go_sem high] eq_dot
attribute [local irreducible] wpQuiet
set_option maxHeartbeats 16000000 in
theorem vectorReckons_any (a b : Vc) (n x m y node : Int) (w : World) (hlow : ∀ k, k < 8 → -9223372036854775808 ≤ a k) : Calls Tryd.prog 8 #[vec a, vec b, dot n x, dot m y, .int .i64 node] w fun e w' => e = .returned (.bool true) ∧ Chg NoB w w' := by
  have N1 := Lib.hid (fun w => next_any a node w hlow)
  have N2 := Lib.hid (fun w => rnext_any a node w hlow)
  generalize nxtE a node = en at *
  generalize nxtN a node = mn at *
  generalize nxtX a node = mx' at *
  go_enter Tryd.func8, Tryd.ntmps8
  go_wp2_with fail
  refine (N1.out _).mono ?_
  rintro e w1 ⟨rfl, hC⟩
  have B0 := Lib.hid (Blk.chg ((((Blk.new w 23 (va a)).alloc _).alloc _).alloc _) hC id)
  have B1 := Lib.hid (Blk.chg (((Blk.new_ (k := w.heap.size + 1) _ 23 (va b) (by simp)).alloc _).alloc _) hC id)
  have B2 := Lib.hid (Blk.chg ((Blk.new_ (k := w.heap.size + 1 + 1) _ 31 #[.int .i64 n, .int .i64 x] (by simp)).alloc _) hC id)
  have B3 := Lib.hid (Blk.chg (Blk.new_ (k := w.heap.size + 1 + 1 + 1) _ 31 #[.int .i64 m, .int .i64 y] (by simp)) hC id)
  have HC := Lib.hid (((((((Chg.refl NoB w).alloc _).alloc _).alloc _).alloc _)).trans hC)
  clear hC
  have C0 := Lib.hid (B0.out.alloc (Obj.cells #[.int .i64 mn, .int .i64 mx'] 31))
  have C1 := Lib.hid (B1.out.alloc (Obj.cells #[.int .i64 mn, .int .i64 mx'] 31))
  have C2 := Lib.hid (B2.out.alloc (Obj.cells #[.int .i64 mn, .int .i64 mx'] 31))
  have C3 := Lib.hid (B3.out.alloc (Obj.cells #[.int .i64 mn, .int .i64 mx'] 31))
  have C4 := Lib.hid (Blk.new w1 31 #[.int .i64 mn, .int .i64 mx'])
  have HD := Lib.hid (HC.out.alloc (Obj.cells #[.int .i64 mn, .int .i64 mx'] 31))
  clear B0 B1 B2 B3 HC
  obtain ⟨c0, c1, c2, c3, c4, c5, c6, c7⟩ := eight C0.out
  go_wp2_with fail
  refine (N2.out _).mono ?_
  clear c0 c1 c2 c3 c4 c5 c6 c7
  rintro e w2 ⟨rfl, hC⟩
  have D0 := Lib.hid ((C0.out.chg hC id).alloc (Obj.cells #[.int .i64 mn, .int .i64 mx'] 31))
  have D1 := Lib.hid ((C1.out.chg hC id).alloc (Obj.cells #[.int .i64 mn, .int .i64 mx'] 31))
  have D2 := Lib.hid ((C2.out.chg hC id).alloc (Obj.cells #[.int .i64 mn, .int .i64 mx'] 31))
  have D3 := Lib.hid ((C3.out.chg hC id).alloc (Obj.cells #[.int .i64 mn, .int .i64 mx'] 31))
  have D4 := Lib.hid ((C4.out.chg hC id).alloc (Obj.cells #[.int .i64 mn, .int .i64 mx'] 31))
  have D5 := Lib.hid (Blk.new w2 31 #[.int .i64 mn, .int .i64 mx'])
  have HE := Lib.hid ((HD.out.trans hC).alloc (Obj.cells #[.int .i64 mn, .int .i64 mx'] 31))
  clear hC C0 C1 C2 C3 C4 HD N1 N2
  go_wp2_with fail
  generalize w2.alloc (Obj.cells #[.int .i64 mn, .int .i64 mx'] 31) = W at *
  generalize hp1 : may a = p1
  generalize hp2 : cov a n x = p2
  generalize hj : jn a b = j
  generalize hl : leq a b = l
  generalize hu : wit a n x = u
  generalize hs : less n x m y = s
  have P1 := Lib.hid hp1
  have P2 := Lib.hid hp2
  have J := Lib.hid hj
  have L := Lib.hid hl
  have U := Lib.hid hu
  have S := Lib.hid hs
  clear hp1 hp2 hj hl hu hs
  refine q_start (by kernel_rfl) (by kernel_rfl) ?_
  refine q_on (v := ?_) (by rfl) ?_ ?_
  rotate_left
  · intro w' hC
    obtain ⟨c0, c1, c2, c3, c4, c5, c6, c7⟩ := eight (D0.out.chg hC id)
    go_simp
    with_reducible rfl
  rotate_left
  refine q_norm (a' := ?_) ?_ ?_
  rotate_left
  · show Act.put _ (some 27) _ = _
    simp only [Act.put, List.setIfInBounds_toArray, List.set_cons_zero, List.set_cons_succ]
    rfl
  refine q_call (f := 12) Tryd.func12 (by kernel_rfl) rfl #[vec a] (by rfl) rfl (by simp only [List.map_toArray, List.map_cons, List.map_nil]; rfl) _ (fun w' hC => q_of hC (P1.out ▸ may_any a w')) ?_
  refine q_norm (a' := ?_) ?_ ?_
  rotate_left
  · show Act.put _ (some 28) _ = _
    simp only [Act.put, List.setIfInBounds_toArray, List.set_cons_zero, List.set_cons_succ]
    rfl
  refine q_on (v := ?_) (by rfl) ?_ ?_
  rotate_left
  · intro w' hC
    obtain ⟨c0, c1, c2, c3, c4, c5, c6, c7⟩ := eight (D0.out.chg hC id)
    go_simp
    with_reducible rfl
  rotate_left
  refine q_norm (a' := ?_) ?_ ?_
  rotate_left
  · show Act.put _ (some 29) _ = _
    simp only [Act.put, List.setIfInBounds_toArray, List.set_cons_zero, List.set_cons_succ]
    rfl
  refine q_call (f := 19) Tryd.func19 (by kernel_rfl) rfl #[vec a] (by rfl) rfl (by simp only [List.map_toArray, List.map_cons, List.map_nil]; rfl) _ (fun w' hC => q_of hC (P1.out ▸ rmay_any a w')) ?_
  refine q_norm (a' := ?_) ?_ ?_
  rotate_left
  · show Act.put _ (some 30) _ = _
    simp only [Act.put, List.setIfInBounds_toArray, List.set_cons_zero, List.set_cons_succ]
    rfl
  refine q_on (v := ?_) (by rfl) ?_ ?_
  rotate_left
  · intro w' hC
    go_simp
    with_reducible rfl
  rotate_left
  refine q_norm (a' := ?_) ?_ ?_
  rotate_left
  · show Act.put _ (some 31) _ = _
    simp only [Act.put, List.setIfInBounds_toArray, List.set_cons_zero, List.set_cons_succ]
    rfl
  refine q_on (v := ?_) (by rfl) ?_ ?_
  rotate_left
  · intro w' hC
    go_simp
    with_reducible rfl
  rotate_left
  refine q_norm (a' := ?_) ?_ ?_
  rotate_left
  · show Act.put _ (some 32) _ = _
    simp only [Act.put, List.setIfInBounds_toArray, List.set_cons_zero, List.set_cons_succ]
    rfl
  refine q_on (v := ?_) (by rfl) ?_ ?_
  rotate_left
  · intro w' hC
    obtain ⟨c0, c1, c2, c3, c4, c5, c6, c7⟩ := eight (D0.out.chg hC id)
    go_simp
    with_reducible rfl
  rotate_left
  refine q_norm (a' := ?_) ?_ ?_
  rotate_left
  · show Act.put _ (some 33) _ = _
    simp only [Act.put, List.setIfInBounds_toArray, List.set_cons_zero, List.set_cons_succ]
    rfl
  refine q_on (v := ?_) (by rfl) ?_ ?_
  rotate_left
  · intro w' hC
    obtain ⟨c0, c1⟩ := two (D2.out.chg hC id)
    go_simp
    with_reducible rfl
  rotate_left
  refine q_norm (a' := ?_) ?_ ?_
  rotate_left
  · show Act.put _ (some 34) _ = _
    simp only [Act.put, List.setIfInBounds_toArray, List.set_cons_zero, List.set_cons_succ]
    rfl
  refine q_call (f := 14) Tryd.func14 (by kernel_rfl) rfl #[vec a, dot n x] (by rfl) rfl (by simp only [List.map_toArray, List.map_cons, List.map_nil]; rfl) _ (fun w' hC => q_of hC (P2.out ▸ covers_any a n x w')) ?_
  refine q_norm (a' := ?_) ?_ ?_
  rotate_left
  · show Act.put _ (some 35) _ = _
    simp only [Act.put, List.setIfInBounds_toArray, List.set_cons_zero, List.set_cons_succ]
    rfl
  refine q_on (v := ?_) (by rfl) ?_ ?_
  rotate_left
  · intro w' hC
    obtain ⟨c0, c1, c2, c3, c4, c5, c6, c7⟩ := eight (D0.out.chg hC id)
    go_simp
    with_reducible rfl
  rotate_left
  refine q_norm (a' := ?_) ?_ ?_
  rotate_left
  · show Act.put _ (some 36) _ = _
    simp only [Act.put, List.setIfInBounds_toArray, List.set_cons_zero, List.set_cons_succ]
    rfl
  refine q_on (v := ?_) (by rfl) ?_ ?_
  rotate_left
  · intro w' hC
    obtain ⟨c0, c1⟩ := two (D2.out.chg hC id)
    go_simp
    with_reducible rfl
  rotate_left
  refine q_norm (a' := ?_) ?_ ?_
  rotate_left
  · show Act.put _ (some 37) _ = _
    simp only [Act.put, List.setIfInBounds_toArray, List.set_cons_zero, List.set_cons_succ]
    rfl
  refine q_call (f := 20) Tryd.func20 (by kernel_rfl) rfl #[vec a, dot n x] (by rfl) rfl (by simp only [List.map_toArray, List.map_cons, List.map_nil]; rfl) _ (fun w' hC => q_of hC (P2.out ▸ rcovers_any a n x w')) ?_
  refine q_norm (a' := ?_) ?_ ?_
  rotate_left
  · show Act.put _ (some 38) _ = _
    simp only [Act.put, List.setIfInBounds_toArray, List.set_cons_zero, List.set_cons_succ]
    rfl
  refine q_on (v := ?_) (by rfl) ?_ ?_
  rotate_left
  · intro w' hC
    go_simp
    with_reducible rfl
  rotate_left
  refine q_norm (a' := ?_) ?_ ?_
  rotate_left
  · show Act.put _ (some 39) _ = _
    simp only [Act.put, List.setIfInBounds_toArray, List.set_cons_zero, List.set_cons_succ]
    rfl
  refine q_on (v := ?_) (by rfl) ?_ ?_
  rotate_left
  · intro w' hC
    go_simp
    with_reducible rfl
  rotate_left
  refine q_norm (a' := ?_) ?_ ?_
  rotate_left
  · show Act.put _ (some 40) _ = _
    simp only [Act.put, List.setIfInBounds_toArray, List.set_cons_zero, List.set_cons_succ]
    rfl
  refine q_on (v := ?_) (by rfl) ?_ ?_
  rotate_left
  · intro w' hC
    go_simp
    with_reducible rfl
  rotate_left
  refine q_norm (a' := ?_) ?_ ?_
  rotate_left
  · show Act.put _ (some 41) _ = _
    simp only [Act.put, List.setIfInBounds_toArray, List.set_cons_zero, List.set_cons_succ]
    rfl
  refine q_on (v := ?_) (by rfl) ?_ ?_
  rotate_left
  · intro w' hC
    obtain ⟨c0, c1, c2, c3, c4, c5, c6, c7⟩ := eight (D0.out.chg hC id)
    go_simp
    with_reducible rfl
  rotate_left
  refine q_norm (a' := ?_) ?_ ?_
  rotate_left
  · show Act.put _ (some 42) _ = _
    simp only [Act.put, List.setIfInBounds_toArray, List.set_cons_zero, List.set_cons_succ]
    rfl
  refine q_on (v := ?_) (by rfl) ?_ ?_
  rotate_left
  · intro w' hC
    obtain ⟨c0, c1, c2, c3, c4, c5, c6, c7⟩ := eight (D1.out.chg hC id)
    go_simp
    with_reducible rfl
  rotate_left
  refine q_norm (a' := ?_) ?_ ?_
  rotate_left
  · show Act.put _ (some 43) _ = _
    simp only [Act.put, List.setIfInBounds_toArray, List.set_cons_zero, List.set_cons_succ]
    rfl
  refine q_call (f := 9) Tryd.func9 (by kernel_rfl) rfl #[vec a, vec b] (by rfl) rfl (by simp only [List.map_toArray, List.map_cons, List.map_nil]; rfl) _ (fun w' hC => q_of hC (J.out ▸ join_any a b w')) ?_
  refine q_norm (a' := ?_) ?_ ?_
  rotate_left
  · show Act.put _ (some 44) _ = _
    simp only [Act.put, List.setIfInBounds_toArray, List.set_cons_zero, List.set_cons_succ]
    rfl
  refine q_on (v := ?_) (by rfl) ?_ ?_
  rotate_left
  · intro w' hC
    obtain ⟨c0, c1, c2, c3, c4, c5, c6, c7⟩ := eight (D0.out.chg hC id)
    go_simp
    with_reducible rfl
  rotate_left
  refine q_norm (a' := ?_) ?_ ?_
  rotate_left
  · show Act.put _ (some 45) _ = _
    simp only [Act.put, List.setIfInBounds_toArray, List.set_cons_zero, List.set_cons_succ]
    rfl
  refine q_on (v := ?_) (by rfl) ?_ ?_
  rotate_left
  · intro w' hC
    obtain ⟨c0, c1, c2, c3, c4, c5, c6, c7⟩ := eight (D1.out.chg hC id)
    go_simp
    with_reducible rfl
  rotate_left
  refine q_norm (a' := ?_) ?_ ?_
  rotate_left
  · show Act.put _ (some 46) _ = _
    simp only [Act.put, List.setIfInBounds_toArray, List.set_cons_zero, List.set_cons_succ]
    rfl
  refine q_call (f := 21) Tryd.func21 (by kernel_rfl) rfl #[vec a, vec b] (by rfl) rfl (by simp only [List.map_toArray, List.map_cons, List.map_nil]; rfl) _ (fun w' hC => q_of hC (J.out ▸ rjoin_any a b w')) ?_
  refine q_norm (a' := ?_) ?_ ?_
  rotate_left
  · show Act.put _ (some 47) _ = _
    simp only [Act.put, List.setIfInBounds_toArray, List.set_cons_zero, List.set_cons_succ]
    rfl
  refine q_on (v := ?_) (by rfl) ?_ ?_
  rotate_left
  · intro w' hC
    go_simp
    with_reducible rfl
  rotate_left
  refine q_norm (a' := ?_) ?_ ?_
  rotate_left
  · show Act.put _ (some 48) _ = _
    simp only [Act.put, List.setIfInBounds_toArray, List.set_cons_zero, List.set_cons_succ]
    rfl
  refine q_on (v := ?_) (by rfl) ?_ ?_
  rotate_left
  · intro w' hC
    go_simp
    with_reducible rfl
  rotate_left
  refine q_norm (a' := ?_) ?_ ?_
  rotate_left
  · show Act.put _ (some 49) _ = _
    simp only [Act.put, List.setIfInBounds_toArray, List.set_cons_zero, List.set_cons_succ]
    rfl
  refine q_on (v := ?_) (by rfl) ?_ ?_
  rotate_left
  · intro w' hC
    go_simp
    with_reducible rfl
  rotate_left
  refine q_norm (a' := ?_) ?_ ?_
  rotate_left
  · show Act.put _ (some 50) _ = _
    simp only [Act.put, List.setIfInBounds_toArray, List.set_cons_zero, List.set_cons_succ]
    rfl
  refine q_on (v := ?_) (by rfl) ?_ ?_
  rotate_left
  · intro w' hC
    obtain ⟨c0, c1, c2, c3, c4, c5, c6, c7⟩ := eight (D0.out.chg hC id)
    go_simp
    with_reducible rfl
  rotate_left
  refine q_norm (a' := ?_) ?_ ?_
  rotate_left
  · show Act.put _ (some 51) _ = _
    simp only [Act.put, List.setIfInBounds_toArray, List.set_cons_zero, List.set_cons_succ]
    rfl
  refine q_on (v := ?_) (by rfl) ?_ ?_
  rotate_left
  · intro w' hC
    obtain ⟨c0, c1, c2, c3, c4, c5, c6, c7⟩ := eight (D1.out.chg hC id)
    go_simp
    with_reducible rfl
  rotate_left
  refine q_norm (a' := ?_) ?_ ?_
  rotate_left
  · show Act.put _ (some 52) _ = _
    simp only [Act.put, List.setIfInBounds_toArray, List.set_cons_zero, List.set_cons_succ]
    rfl
  refine q_call (f := 10) Tryd.func10 (by kernel_rfl) rfl #[vec a, vec b] (by rfl) rfl (by simp only [List.map_toArray, List.map_cons, List.map_nil]; rfl) _ (fun w' hC => q_of hC (L.out ▸ leq_any a b w')) ?_
  refine q_norm (a' := ?_) ?_ ?_
  rotate_left
  · show Act.put _ (some 53) _ = _
    simp only [Act.put, List.setIfInBounds_toArray, List.set_cons_zero, List.set_cons_succ]
    rfl
  refine q_on (v := ?_) (by rfl) ?_ ?_
  rotate_left
  · intro w' hC
    obtain ⟨c0, c1, c2, c3, c4, c5, c6, c7⟩ := eight (D0.out.chg hC id)
    go_simp
    with_reducible rfl
  rotate_left
  refine q_norm (a' := ?_) ?_ ?_
  rotate_left
  · show Act.put _ (some 54) _ = _
    simp only [Act.put, List.setIfInBounds_toArray, List.set_cons_zero, List.set_cons_succ]
    rfl
  refine q_on (v := ?_) (by rfl) ?_ ?_
  rotate_left
  · intro w' hC
    obtain ⟨c0, c1, c2, c3, c4, c5, c6, c7⟩ := eight (D1.out.chg hC id)
    go_simp
    with_reducible rfl
  rotate_left
  refine q_norm (a' := ?_) ?_ ?_
  rotate_left
  · show Act.put _ (some 55) _ = _
    simp only [Act.put, List.setIfInBounds_toArray, List.set_cons_zero, List.set_cons_succ]
    rfl
  refine q_call (f := 22) Tryd.func22 (by kernel_rfl) rfl #[vec a, vec b] (by rfl) rfl (by simp only [List.map_toArray, List.map_cons, List.map_nil]; rfl) _ (fun w' hC => q_of hC (L.out ▸ rleq_any a b w')) ?_
  refine q_norm (a' := ?_) ?_ ?_
  rotate_left
  · show Act.put _ (some 56) _ = _
    simp only [Act.put, List.setIfInBounds_toArray, List.set_cons_zero, List.set_cons_succ]
    rfl
  refine q_on (v := ?_) (by rfl) ?_ ?_
  rotate_left
  · intro w' hC
    go_simp
    with_reducible rfl
  rotate_left
  refine q_norm (a' := ?_) ?_ ?_
  rotate_left
  · show Act.put _ (some 57) _ = _
    simp only [Act.put, List.setIfInBounds_toArray, List.set_cons_zero, List.set_cons_succ]
    rfl
  refine q_on (v := ?_) (by rfl) ?_ ?_
  rotate_left
  · intro w' hC
    go_simp
    with_reducible rfl
  rotate_left
  refine q_norm (a' := ?_) ?_ ?_
  rotate_left
  · show Act.put _ (some 58) _ = _
    simp only [Act.put, List.setIfInBounds_toArray, List.set_cons_zero, List.set_cons_succ]
    rfl
  refine q_on (v := ?_) (by rfl) ?_ ?_
  rotate_left
  · intro w' hC
    go_simp
    with_reducible rfl
  rotate_left
  refine q_norm (a' := ?_) ?_ ?_
  rotate_left
  · show Act.put _ (some 59) _ = _
    simp only [Act.put, List.setIfInBounds_toArray, List.set_cons_zero, List.set_cons_succ]
    rfl
  refine q_on (v := ?_) (by rfl) ?_ ?_
  rotate_left
  · intro w' hC
    obtain ⟨c0, c1, c2, c3, c4, c5, c6, c7⟩ := eight (D0.out.chg hC id)
    go_simp
    with_reducible rfl
  rotate_left
  refine q_norm (a' := ?_) ?_ ?_
  rotate_left
  · show Act.put _ (some 60) _ = _
    simp only [Act.put, List.setIfInBounds_toArray, List.set_cons_zero, List.set_cons_succ]
    rfl
  refine q_on (v := ?_) (by rfl) ?_ ?_
  rotate_left
  · intro w' hC
    obtain ⟨c0, c1⟩ := two (D2.out.chg hC id)
    go_simp
    with_reducible rfl
  rotate_left
  refine q_norm (a' := ?_) ?_ ?_
  rotate_left
  · show Act.put _ (some 61) _ = _
    simp only [Act.put, List.setIfInBounds_toArray, List.set_cons_zero, List.set_cons_succ]
    rfl
  refine q_call (f := 15) Tryd.func15 (by kernel_rfl) rfl #[vec a, dot n x] (by rfl) rfl (by simp only [List.map_toArray, List.map_cons, List.map_nil]; rfl) _ (fun w' hC => q_of hC (U.out ▸ with_any a n x w')) ?_
  refine q_norm (a' := ?_) ?_ ?_
  rotate_left
  · show Act.put _ (some 62) _ = _
    simp only [Act.put, List.setIfInBounds_toArray, List.set_cons_zero, List.set_cons_succ]
    rfl
  refine q_on (v := ?_) (by rfl) ?_ ?_
  rotate_left
  · intro w' hC
    obtain ⟨c0, c1, c2, c3, c4, c5, c6, c7⟩ := eight (D0.out.chg hC id)
    go_simp
    with_reducible rfl
  rotate_left
  refine q_norm (a' := ?_) ?_ ?_
  rotate_left
  · show Act.put _ (some 63) _ = _
    simp only [Act.put, List.setIfInBounds_toArray, List.set_cons_zero, List.set_cons_succ]
    rfl
  refine q_on (v := ?_) (by rfl) ?_ ?_
  rotate_left
  · intro w' hC
    obtain ⟨c0, c1⟩ := two (D2.out.chg hC id)
    go_simp
    with_reducible rfl
  rotate_left
  refine q_norm (a' := ?_) ?_ ?_
  rotate_left
  · show Act.put _ (some 64) _ = _
    simp only [Act.put, List.setIfInBounds_toArray, List.set_cons_zero, List.set_cons_succ]
    rfl
  refine q_call (f := 23) Tryd.func23 (by kernel_rfl) rfl #[vec a, dot n x] (by rfl) rfl (by simp only [List.map_toArray, List.map_cons, List.map_nil]; rfl) _ (fun w' hC => q_of hC (U.out ▸ rwith_any a n x w')) ?_
  refine q_norm (a' := ?_) ?_ ?_
  rotate_left
  · show Act.put _ (some 65) _ = _
    simp only [Act.put, List.setIfInBounds_toArray, List.set_cons_zero, List.set_cons_succ]
    rfl
  refine q_on (v := ?_) (by rfl) ?_ ?_
  rotate_left
  · intro w' hC
    go_simp
    with_reducible rfl
  rotate_left
  refine q_norm (a' := ?_) ?_ ?_
  rotate_left
  · show Act.put _ (some 66) _ = _
    simp only [Act.put, List.setIfInBounds_toArray, List.set_cons_zero, List.set_cons_succ]
    rfl
  refine q_on (v := ?_) (by rfl) ?_ ?_
  rotate_left
  · intro w' hC
    go_simp
    with_reducible rfl
  rotate_left
  refine q_norm (a' := ?_) ?_ ?_
  rotate_left
  · show Act.put _ (some 67) _ = _
    simp only [Act.put, List.setIfInBounds_toArray, List.set_cons_zero, List.set_cons_succ]
    rfl
  refine q_on (v := ?_) (by rfl) ?_ ?_
  rotate_left
  · intro w' hC
    go_simp
    with_reducible rfl
  rotate_left
  refine q_norm (a' := ?_) ?_ ?_
  rotate_left
  · show Act.put _ (some 68) _ = _
    simp only [Act.put, List.setIfInBounds_toArray, List.set_cons_zero, List.set_cons_succ]
    rfl
  refine q_on (v := ?_) (by rfl) ?_ ?_
  rotate_left
  · intro w' hC
    obtain ⟨c0, c1⟩ := two (D4.out.chg hC id)
    go_simp
    with_reducible rfl
  rotate_left
  refine q_norm (a' := ?_) ?_ ?_
  rotate_left
  · show Act.put _ (some 69) _ = _
    simp only [Act.put, List.setIfInBounds_toArray, List.set_cons_zero, List.set_cons_succ]
    rfl
  refine q_on (v := ?_) (by rfl) ?_ ?_
  rotate_left
  · intro w' hC
    obtain ⟨c0, c1⟩ := two (D5.out.chg hC id)
    go_simp
    with_reducible rfl
  rotate_left
  refine q_norm (a' := ?_) ?_ ?_
  rotate_left
  · show Act.put _ (some 70) _ = _
    simp only [Act.put, List.setIfInBounds_toArray, List.set_cons_zero, List.set_cons_succ]
    rfl
  refine q_on (v := ?_) (by rfl) ?_ ?_
  rotate_left
  · intro w' hC
    go_simp
    with_reducible rfl
  rotate_left
  refine q_norm (a' := ?_) ?_ ?_
  rotate_left
  · show Act.put _ (some 71) _ = _
    simp only [Act.put, List.setIfInBounds_toArray, List.set_cons_zero, List.set_cons_succ]
    rfl
  refine q_on (v := ?_) (by rfl) ?_ ?_
  rotate_left
  · intro w' hC
    go_simp
    with_reducible rfl
  rotate_left
  refine q_norm (a' := ?_) ?_ ?_
  rotate_left
  · show Act.put _ (some 72) _ = _
    simp only [Act.put, List.setIfInBounds_toArray, List.set_cons_zero, List.set_cons_succ]
    rfl
  refine q_on (v := ?_) (by rfl) ?_ ?_
  rotate_left
  · intro w' hC
    go_simp
    with_reducible rfl
  rotate_left
  refine q_norm (a' := ?_) ?_ ?_
  rotate_left
  · show Act.put _ (some 73) _ = _
    simp only [Act.put, List.setIfInBounds_toArray, List.set_cons_zero, List.set_cons_succ]
    rfl
  refine q_on (v := ?_) (by rfl) ?_ ?_
  rotate_left
  · intro w' hC
    go_simp
    with_reducible rfl
  rotate_left
  refine q_norm (a' := ?_) ?_ ?_
  rotate_left
  · show Act.put _ (some 74) _ = _
    simp only [Act.put, List.setIfInBounds_toArray, List.set_cons_zero, List.set_cons_succ]
    rfl
  refine q_on (v := ?_) (by rfl) ?_ ?_
  rotate_left
  · intro w' hC
    go_simp
    with_reducible rfl
  rotate_left
  refine q_norm (a' := ?_) ?_ ?_
  rotate_left
  · show Act.put _ (some 75) _ = _
    simp only [Act.put, List.setIfInBounds_toArray, List.set_cons_zero, List.set_cons_succ]
    rfl
  refine q_on (v := ?_) (by rfl) ?_ ?_
  rotate_left
  · intro w' hC
    go_simp
    with_reducible rfl
  rotate_left
  refine q_norm (a' := ?_) ?_ ?_
  rotate_left
  · show Act.put _ (some 76) _ = _
    simp only [Act.put, List.setIfInBounds_toArray, List.set_cons_zero, List.set_cons_succ]
    rfl
  refine q_on (v := ?_) (by rfl) ?_ ?_
  rotate_left
  · intro w' hC
    go_simp
    with_reducible rfl
  rotate_left
  refine q_norm (a' := ?_) ?_ ?_
  rotate_left
  · show Act.put _ (some 77) _ = _
    simp only [Act.put, List.setIfInBounds_toArray, List.set_cons_zero, List.set_cons_succ]
    rfl
  refine q_on (v := ?_) (by rfl) ?_ ?_
  rotate_left
  · intro w' hC
    go_simp
    with_reducible rfl
  rotate_left
  refine q_norm (a' := ?_) ?_ ?_
  rotate_left
  · show Act.put _ (some 78) _ = _
    simp only [Act.put, List.setIfInBounds_toArray, List.set_cons_zero, List.set_cons_succ]
    rfl
  refine q_on (v := ?_) (by rfl) ?_ ?_
  rotate_left
  · intro w' hC
    obtain ⟨c0, c1⟩ := two (D2.out.chg hC id)
    go_simp
    with_reducible rfl
  rotate_left
  refine q_norm (a' := ?_) ?_ ?_
  rotate_left
  · show Act.put _ (some 79) _ = _
    simp only [Act.put, List.setIfInBounds_toArray, List.set_cons_zero, List.set_cons_succ]
    rfl
  refine q_on (v := ?_) (by rfl) ?_ ?_
  rotate_left
  · intro w' hC
    obtain ⟨c0, c1⟩ := two (D3.out.chg hC id)
    go_simp
    with_reducible rfl
  rotate_left
  refine q_norm (a' := ?_) ?_ ?_
  rotate_left
  · show Act.put _ (some 80) _ = _
    simp only [Act.put, List.setIfInBounds_toArray, List.set_cons_zero, List.set_cons_succ]
    rfl
  refine q_call (f := 17) Tryd.func17 (by kernel_rfl) rfl #[dot n x, dot m y] (by rfl) rfl (by simp only [List.map_toArray, List.map_cons, List.map_nil]; rfl) _ (fun w' hC => q_of hC (S.out ▸ less_any n x m y w')) ?_
  refine q_norm (a' := ?_) ?_ ?_
  rotate_left
  · show Act.put _ (some 81) _ = _
    simp only [Act.put, List.setIfInBounds_toArray, List.set_cons_zero, List.set_cons_succ]
    rfl
  refine q_on (v := ?_) (by rfl) ?_ ?_
  rotate_left
  · intro w' hC
    obtain ⟨c0, c1⟩ := two (D2.out.chg hC id)
    go_simp
    with_reducible rfl
  rotate_left
  refine q_norm (a' := ?_) ?_ ?_
  rotate_left
  · show Act.put _ (some 82) _ = _
    simp only [Act.put, List.setIfInBounds_toArray, List.set_cons_zero, List.set_cons_succ]
    rfl
  refine q_on (v := ?_) (by rfl) ?_ ?_
  rotate_left
  · intro w' hC
    obtain ⟨c0, c1⟩ := two (D3.out.chg hC id)
    go_simp
    with_reducible rfl
  rotate_left
  refine q_norm (a' := ?_) ?_ ?_
  rotate_left
  · show Act.put _ (some 83) _ = _
    simp only [Act.put, List.setIfInBounds_toArray, List.set_cons_zero, List.set_cons_succ]
    rfl
  refine q_call (f := 24) Tryd.func24 (by kernel_rfl) rfl #[dot n x, dot m y] (by rfl) rfl (by simp only [List.map_toArray, List.map_cons, List.map_nil]; rfl) _ (fun w' hC => q_of hC (S.out ▸ rless_any n x m y w')) ?_
  refine q_norm (a' := ?_) ?_ ?_
  rotate_left
  · show Act.put _ (some 84) _ = _
    simp only [Act.put, List.setIfInBounds_toArray, List.set_cons_zero, List.set_cons_succ]
    rfl
  refine q_on (v := ?_) (by rfl) ?_ ?_
  rotate_left
  · intro w' hC
    go_simp
    with_reducible rfl
  rotate_left
  refine q_norm (a' := ?_) ?_ ?_
  rotate_left
  · show Act.put _ (some 85) _ = _
    simp only [Act.put, List.setIfInBounds_toArray, List.set_cons_zero, List.set_cons_succ]
    rfl
  refine q_on (v := ?_) (by rfl) ?_ ?_
  rotate_left
  · intro w' hC
    go_simp
    with_reducible rfl
  rotate_left
  refine q_norm (a' := ?_) ?_ ?_
  rotate_left
  · show Act.put _ (some 86) _ = _
    simp only [Act.put, List.setIfInBounds_toArray, List.set_cons_zero, List.set_cons_succ]
    rfl
  refine q_on (v := ?_) (by rfl) ?_ ?_
  rotate_left
  · intro w' hC
    go_simp
    with_reducible rfl
  rotate_left
  refine q_norm (a' := ?_) ?_ ?_
  rotate_left
  · show Act.put _ (some 87) _ = _
    simp only [Act.put, List.setIfInBounds_toArray, List.set_cons_zero, List.set_cons_succ]
    rfl
  refine q_call (f := 11) Tryd.func11 (by kernel_rfl) rfl #[] (by rfl) rfl (by simp only [List.map_toArray, List.map_nil]) _ (fun w' hC => q_of hC (awake_any w')) ?_
  refine q_norm (a' := ?_) ?_ ?_
  rotate_left
  · show Act.put _ (some 88) _ = _
    simp only [Act.put, List.setIfInBounds_toArray, List.set_cons_zero, List.set_cons_succ]
    rfl
  refine q_on (v := ?_) (by rfl) ?_ ?_
  rotate_left
  · intro w' hC
    go_simp
    with_reducible rfl
  rotate_left
  refine q_norm (a' := ?_) ?_ ?_
  rotate_left
  · show Act.put _ (some 89) _ = _
    simp only [Act.put, List.setIfInBounds_toArray, List.set_cons_zero, List.set_cons_succ]
    rfl
  refine q_on (v := ?_) (by rfl) ?_ ?_
  rotate_left
  · intro w' hC
    go_simp
    with_reducible rfl
  rotate_left
  refine q_norm (a' := ?_) ?_ ?_
  rotate_left
  · show Act.put _ (some 10) _ = _
    simp only [Act.put, List.setIfInBounds_toArray, List.set_cons_zero, List.set_cons_succ]
    rfl
  refine wpQuiet_nil ?_
  intro w' hC
  go_wp2_with fail
  go_ret
  exact ⟨rfl, HE.out.trans hC⟩
theorem vectorReckons_walk (v0 : Value) (D0 : Vc) (v1 : Value) (D1 : Vc) (v2 : Value) (D2 : Int × Int) (v3 : Value) (D3 : Int × Int) (a4 : Int) (w : World) (w0 : VecAt v0 D0) (w1 : VecAt v1 D1) (w2 : DotAt v2 D2) (w3 : DotAt v3 D3) (_ : (Lit.int .i64 a4).wf = true) :
    Calls Tryd.prog 8 #[v0, v1, v2, v3, .int .i64 a4] w fun e w' => e = .returned (.bool true) ∧ Below w.heap.size w w' := by
  have hl := w0.low
  obtain ⟨rfl, _⟩ := w0
  obtain ⟨rfl, _⟩ := w1
  obtain ⟨rfl, _⟩ := w2
  obtain ⟨rfl, _⟩ := w3
  exact (vectorReckons_any D0 D1 D2.1 D2.2 D3.1 D3.2 a4 w hl).mono fun _ _ ⟨h1, h2⟩ => ⟨h1, h2.below⟩
end Go.Proofs.YthkmocfdpmlllaaDoor
