/- Package view: New. No statement is proved here. -/
import Derived.Test.YtoefffjhjmjhfaaGreatPkBytes
import Derived.Test.YtoefffjhjmjhfaaGreatMsg
import Derived.Test.YtoefffjhjmjhfaaGreatQuiet
import Derived.Laws.MakeOwn
namespace Go.Proofs.YtoefffjhjmjhfaaGreat
open Go.RowKit Go.Proofs.YtoefffjhjmjhfaaGreatW.PrintLast
attribute [local go_sem] max2_mx min2_mn max_two_ min_two_
set_option maxRecDepth 100000

abbrev mbc (l : List (Int × Int)) : Array Value := (l.flatMap i2).toArray
abbrev inc (l : List Int) : Array Value := (l.map (Value.int .i64)).toArray
/-- Block v is a view of n nodes: its members, ages, open questions in blocks of their own. -/
structure VB (w : World) (v b1 b2 b3 n : Nat) (me : Int) : Prop where
  blk : Blk w v 121 #[.int .i64 me, .slice (some ⟨b1, 0, none⟩) n n, .slice (some ⟨b2, 0, none⟩) n n, .slice (some ⟨b3, 0, none⟩) n n]
  m : ∃ l : List (Int × Int), l.length = n ∧ Blk w b1 147 (mbc l)
  a : ∃ l : List Int, l.length = n ∧ Blk w b2 3 (inc l)
  s : ∃ l : List Int, l.length = n ∧ Blk w b3 3 (inc l)
  ne : v ≠ b1 ∧ v ≠ b2 ∧ v ≠ b3 ∧ b1 ≠ b2 ∧ b1 ≠ b3 ∧ b2 ≠ b3
theorem VB.chg_ {S : Nat → Prop} {w w' : World} {v b1 b2 b3 n : Nat} {me : Int} (h : VB w v b1 b2 b3 n me) (hC : Chg S w w') (h0 : ¬ S v) (h1 : ¬ S b1) (h2 : ¬ S b2) (h3 : ¬ S b3) : VB w' v b1 b2 b3 n me := by
  obtain ⟨hb, ⟨l1, e1, k1⟩, ⟨l2, e2, k2⟩, ⟨l3, e3, k3⟩, hn⟩ := h
  exact ⟨hb.chg hC h0, ⟨l1, e1, k1.chg hC h1⟩, ⟨l2, e2, k2.chg hC h2⟩, ⟨l3, e3, k3.chg hC h3⟩, hn⟩
theorem VB.st {w w' : World} {v b1 b2 b3 n : Nat} {me : Int} (h : VB w v b1 b2 b3 n me) (hC : Chg NoB w w') : VB w' v b1 b2 b3 n me := h.chg_ hC id id id id
theorem madeCells_const (k : Nat) (z : Value) : madeCells #[z] k = (List.replicate k z).toArray := by
  apply Array.ext
  · rw [size_madeCells]; simp
  · intro i h1 h2
    simp [madeCells]
    rw [Nat.mod_one]
    rfl
theorem made_int (n : Nat) : madeCells #[.int .i64 0] n = inc (List.replicate n 0) := by
  rw [madeCells_const]
  simp [inc]
theorem flat_rep (n : Nat) : (List.replicate n ((0 : Int), (0 : Int))).flatMap i2 = List.replicate (n * 2) (Value.int .i64 0) := by
  induction n with
  | zero => rfl
  | succ n ih =>
    rw [List.replicate_succ, List.flatMap_cons, ih, Nat.succ_mul]
    rfl
theorem made_mem (n : Nat) : madeCells #[.int .i64 0, .int .i64 0] (n * 2) = mbc (List.replicate n (0, 0)) := by
  unfold mbc
  rw [flat_rep]
  apply Array.ext
  · rw [size_madeCells]; simp
  · intro i h1 h2
    simp [madeCells]
    rcases Nat.mod_two_eq_zero_or_one i with h | h <;> simp [h]
theorem infInt : (Tryz.prog.info? 3).map (fun i => (i.zero, i.size, i.bytes)) = some (some (.int .i64 0), 1, 8) := by kernel_rfl
theorem infMem : (Tryz.prog.info? 147).map (fun i => (i.zero, i.size, i.bytes)) = some (some (.agg #[.int .i64 0, .int .i64 0]), 2, 16) := by kernel_rfl
theorem mk_int {n : Nat} (h : n ≤ 8) (w : World) : (Instr.makeSlice 88 (.int .i64 n) (.int .i64 n)).run Tryz.prog w = .ok (.slice (some ⟨w.heap.size, 0, none⟩) n n) (w.alloc (.cells (inc (List.replicate n 0)) 3)) := by
  obtain ⟨i, hi, hz, hs, hb⟩ := info_parts infInt
  have := run_make (P := Tryz.prog) w 88 3 i _ Tryz.underlying88 hi hz .i64 .i64 n n (by omega) (Int.le_refl _) (by rw [hb]; omega) (by omega)
  rw [hs] at this
  simp only [Int.toNat_natCast, Nat.mul_one] at this
  rw [this]
  rw [show (Value.int IntKind.i64 0).cells = #[.int .i64 0] from rfl, made_int]
theorem mk_mem {n : Nat} (h : n ≤ 8) (w : World) : (Instr.makeSlice 38 (.int .i64 n) (.int .i64 n)).run Tryz.prog w = .ok (.slice (some ⟨w.heap.size, 0, none⟩) n n) (w.alloc (.cells (mbc (List.replicate n (0, 0))) 147)) := by
  obtain ⟨i, hi, hz, hs, hb⟩ := info_parts infMem
  have := run_make (P := Tryz.prog) w 38 147 i _ Tryz.underlying38 hi hz .i64 .i64 n n (by omega) (Int.le_refl _) (by rw [hb]; omega) (by omega)
  rw [hs] at this
  simp only [Int.toNat_natCast] at this
  rw [this]
  rw [show (Value.agg #[.int .i64 0, .int .i64 0]).cells = #[.int .i64 0, .int .i64 0] from rfl, made_mem]
set_option maxHeartbeats 2000000 in
theorem viewNew_any {n : Nat} {id_ : Int} (hn : 1 ≤ n ∧ n ≤ 8) (hid : 0 ≤ id_ ∧ id_ < n) (w : World) : Calls Tryz.prog 18 #[.int .i64 n, .int .i64 id_] w fun e w' => (∃ v b1 b2 b3, e = .returned (.pointer (some ⟨v, 0, none⟩)) ∧ VB w' v b1 b2 b3 n id_ ∧ w.heap.size ≤ v ∧ w.heap.size ≤ b1 ∧ w.heap.size ≤ b2 ∧ w.heap.size ≤ b3) ∧ Chg NoB w w' := by
  have hm : mx 0 (mn (n : Int) 8) = (n : Int) := by unfold mx mn; split <;> split <;> omega
  have hd1 : decide (id_ < 0) = false := by simp; omega
  have hd2 : decide (id_ ≥ (n : Int)) = false := by simp; omega
  have m1 := mk_int hn.2
  have m2 := mk_mem hn.2
  go_enter Tryz.func18, Tryz.ntmps18
  go_upto_region 4 with fail
  refine start_ (n := 10) (S := fun w' => True) (ds := []) #[false, false, false, false, false, false, false, false, false, false] (by kernel_rfl) rfl rfl trivial (fun hHeld => ?_)
  refine pure_ (i := 0) (N := some 16) (v := ?_) (a' := ?_) #[true, false, false, false, false, false, false, false, false, false] rfl rfl (by kernel_rfl) (fun _ _ _ h => h) (Or.inl ⟨by rfl, ?_⟩) ?_ ?_
  rotate_left
  · intro w'
    go_simp
    with_reducible rfl
  rotate_left
  · simp only [Act.put, List.setIfInBounds_toArray, List.set_cons_zero, List.set_cons_succ]
    rfl
  refine pure_ (i := 1) (N := some 17) (v := ?_) (a' := ?_) #[true, true, false, false, false, false, false, false, false, false] rfl rfl (by kernel_rfl) (fun _ _ _ h => h) (Or.inl ⟨by rfl, ?_⟩) ?_ ?_
  rotate_left
  · intro w'
    go_simp
    with_reducible rfl
  rotate_left
  · simp only [Act.put, List.setIfInBounds_toArray, List.set_cons_zero, List.set_cons_succ]
    rfl
  refine pure_ (i := 3) (N := some 19) (v := ?_) (a' := ?_) #[true, true, false, true, false, false, false, false, false, false] rfl rfl (by kernel_rfl) (fun _ _ _ h => h) (Or.inl ⟨by rfl, ?_⟩) ?_ ?_
  rotate_left
  · intro w'
    go_simp
    with_reducible rfl
  rotate_left
  · simp only [Act.put, List.setIfInBounds_toArray, List.set_cons_zero, List.set_cons_succ]
    rfl
  refine pure_ (i := 5) (N := some 21) (v := ?_) (a' := ?_) #[true, true, false, true, false, true, false, false, false, false] rfl rfl (by kernel_rfl) (fun _ _ _ h => h) (Or.inl ⟨by rfl, ?_⟩) ?_ ?_
  rotate_left
  · intro w'
    go_simp
    with_reducible rfl
  rotate_left
  · simp only [Act.put, List.setIfInBounds_toArray, List.set_cons_zero, List.set_cons_succ]
    rfl
  refine join_ (σ := Nat × Nat × Nat) 3 #[true, true, true, true, true, true, true, false, false, false] (fun s => [(18, Value.slice (some ⟨s.1, 0, none⟩) n n), (20, Value.slice (some ⟨s.2.1, 0, none⟩) n n), (22, Value.slice (some ⟨s.2.2, 0, none⟩) n n)]) (fun s w' => Chg NoB w w' ∧ Blk w' s.1 147 (mbc (List.replicate n (0, 0))) ∧ Blk w' s.2.1 3 (inc (List.replicate n 0)) ∧ Blk w' s.2.2 3 (inc (List.replicate n 0)) ∧ w.heap.size ≤ s.1 ∧ w.heap.size ≤ s.2.1 ∧ w.heap.size ≤ s.2.2 ∧ s.1 ≠ s.2.1 ∧ s.1 ≠ s.2.2 ∧ s.2.1 ≠ s.2.2) ?_ ?_
  rotate_left
  · intro hCont
    refine three_ (i := 2) (j := 4) (k := 6) (Ni := some 18) (Nj := some 20) (Nk := some 22) #[true, true, true, true, false, true, false, false, false, false] #[true, true, false, true, true, true, false, false, false, false] #[true, true, false, true, false, true, true, false, false, false] rfl rfl rfl rfl rfl rfl (by kernel_rfl) (by decide) (by decide) (by decide) (fun K hK => ?_) (fun K hK => ?_) (fun K hK => ?_)
    · skip
      refine value_ (w1 := ?_) (v := ?_) (by rfl) rfl ?_ ?_
      rotate_left 2
      · go_simp
        constructor
        · rfl
        · rfl
      refine hK.out _ _ trivial (fun hHeld => ?_)
      clear hK K
      refine norm_ (a' := ?_) ?_ ?_
      rotate_left
      · show Act.put _ (some 18) _ = _
        simp only [Act.put, List.setIfInBounds_toArray, List.set_cons_zero, List.set_cons_succ]
        rfl
      refine two_ (i := 4) (j := 6) (Ni := some 20) (Nj := some 22) #[true, true, true, true, true, true, false, false, false, false] #[true, true, true, true, false, true, true, false, false, false] rfl rfl rfl rfl (by kernel_rfl) (by decide) (by decide) (fun K hK => ?_) (fun K hK => ?_)
      · skip
        refine value_ (w1 := ?_) (v := ?_) (by rfl) rfl ?_ ?_
        rotate_left 2
        · go_simp
          constructor
          · rfl
          · rfl
        refine hK.out _ _ trivial (fun hHeld => ?_)
        clear hK K
        refine norm_ (a' := ?_) ?_ ?_
        rotate_left
        · show Act.put _ (some 20) _ = _
          simp only [Act.put, List.setIfInBounds_toArray, List.set_cons_zero, List.set_cons_succ]
          rfl
        refine one_ (i := 6) (N := some 22) #[true, true, true, true, true, true, true, false, false, false] rfl rfl (by kernel_rfl) (by decide) (fun K hK => ?_)
        refine value_ (w1 := ?_) (v := ?_) (by rfl) rfl ?_ ?_
        rotate_left 2
        · go_simp
          constructor
          · rfl
          · rfl
        refine hK.out _ _ trivial (fun hHeld => ?_)
        clear hK K
        refine norm_ (a' := ?_) ?_ ?_
        rotate_left
        · show Act.put _ (some 22) _ = _
          simp only [Act.put, List.setIfInBounds_toArray, List.set_cons_zero, List.set_cons_succ]
          rfl
        exact norm_ (by simp only [putAll, Act.put, List.setIfInBounds_toArray, List.set_cons_zero, List.set_cons_succ]) (hCont (w.heap.size, w.heap.size + 1, w.heap.size + 2) _ ⟨((((Chg.dr w).alloc (Obj.cells (mbc (List.replicate n (0, 0))) 147)).alloc (Obj.cells (inc (List.replicate n 0)) 3)).alloc (Obj.cells (inc (List.replicate n 0)) 3)), (((Blk.new_ (k := w.heap.size) w.drew 147 (mbc (List.replicate n (0, 0))) (by simp)).alloc (Obj.cells (inc (List.replicate n 0)) 3)).alloc (Obj.cells (inc (List.replicate n 0)) 3)), ((Blk.new_ (k := w.heap.size + 1) (w.drew.alloc (Obj.cells (mbc (List.replicate n (0, 0))) 147)) 3 (inc (List.replicate n 0)) (by simp)).alloc (Obj.cells (inc (List.replicate n 0)) 3)), (Blk.new_ (k := w.heap.size + 2) ((w.drew.alloc (Obj.cells (mbc (List.replicate n (0, 0))) 147)).alloc (Obj.cells (inc (List.replicate n 0)) 3)) 3 (inc (List.replicate n 0)) (by simp)), by dsimp only; omega, by dsimp only; omega, by dsimp only; omega, by dsimp only; omega, by dsimp only; omega, by dsimp only; omega⟩)
      · skip
        refine value_ (w1 := ?_) (v := ?_) (by rfl) rfl ?_ ?_
        rotate_left 2
        · go_simp
          constructor
          · rfl
          · rfl
        refine hK.out _ _ trivial (fun hHeld => ?_)
        clear hK K
        refine norm_ (a' := ?_) ?_ ?_
        rotate_left
        · show Act.put _ (some 22) _ = _
          simp only [Act.put, List.setIfInBounds_toArray, List.set_cons_zero, List.set_cons_succ]
          rfl
        refine one_ (i := 4) (N := some 20) #[true, true, true, true, true, true, true, false, false, false] rfl rfl (by kernel_rfl) (by decide) (fun K hK => ?_)
        refine value_ (w1 := ?_) (v := ?_) (by rfl) rfl ?_ ?_
        rotate_left 2
        · go_simp
          constructor
          · rfl
          · rfl
        refine hK.out _ _ trivial (fun hHeld => ?_)
        clear hK K
        refine norm_ (a' := ?_) ?_ ?_
        rotate_left
        · show Act.put _ (some 20) _ = _
          simp only [Act.put, List.setIfInBounds_toArray, List.set_cons_zero, List.set_cons_succ]
          rfl
        exact norm_ (by simp only [putAll, Act.put, List.setIfInBounds_toArray, List.set_cons_zero, List.set_cons_succ]) (hCont (w.heap.size, w.heap.size + 2, w.heap.size + 1) _ ⟨((((Chg.dr w).alloc (Obj.cells (mbc (List.replicate n (0, 0))) 147)).alloc (Obj.cells (inc (List.replicate n 0)) 3)).alloc (Obj.cells (inc (List.replicate n 0)) 3)), (((Blk.new_ (k := w.heap.size) w.drew 147 (mbc (List.replicate n (0, 0))) (by simp)).alloc (Obj.cells (inc (List.replicate n 0)) 3)).alloc (Obj.cells (inc (List.replicate n 0)) 3)), (Blk.new_ (k := w.heap.size + 2) ((w.drew.alloc (Obj.cells (mbc (List.replicate n (0, 0))) 147)).alloc (Obj.cells (inc (List.replicate n 0)) 3)) 3 (inc (List.replicate n 0)) (by simp)), ((Blk.new_ (k := w.heap.size + 1) (w.drew.alloc (Obj.cells (mbc (List.replicate n (0, 0))) 147)) 3 (inc (List.replicate n 0)) (by simp)).alloc (Obj.cells (inc (List.replicate n 0)) 3)), by dsimp only; omega, by dsimp only; omega, by dsimp only; omega, by dsimp only; omega, by dsimp only; omega, by dsimp only; omega⟩)
    · skip
      refine value_ (w1 := ?_) (v := ?_) (by rfl) rfl ?_ ?_
      rotate_left 2
      · go_simp
        constructor
        · rfl
        · rfl
      refine hK.out _ _ trivial (fun hHeld => ?_)
      clear hK K
      refine norm_ (a' := ?_) ?_ ?_
      rotate_left
      · show Act.put _ (some 20) _ = _
        simp only [Act.put, List.setIfInBounds_toArray, List.set_cons_zero, List.set_cons_succ]
        rfl
      refine two_ (i := 2) (j := 6) (Ni := some 18) (Nj := some 22) #[true, true, true, true, true, true, false, false, false, false] #[true, true, false, true, true, true, true, false, false, false] rfl rfl rfl rfl (by kernel_rfl) (by decide) (by decide) (fun K hK => ?_) (fun K hK => ?_)
      · skip
        refine value_ (w1 := ?_) (v := ?_) (by rfl) rfl ?_ ?_
        rotate_left 2
        · go_simp
          constructor
          · rfl
          · rfl
        refine hK.out _ _ trivial (fun hHeld => ?_)
        clear hK K
        refine norm_ (a' := ?_) ?_ ?_
        rotate_left
        · show Act.put _ (some 18) _ = _
          simp only [Act.put, List.setIfInBounds_toArray, List.set_cons_zero, List.set_cons_succ]
          rfl
        refine one_ (i := 6) (N := some 22) #[true, true, true, true, true, true, true, false, false, false] rfl rfl (by kernel_rfl) (by decide) (fun K hK => ?_)
        refine value_ (w1 := ?_) (v := ?_) (by rfl) rfl ?_ ?_
        rotate_left 2
        · go_simp
          constructor
          · rfl
          · rfl
        refine hK.out _ _ trivial (fun hHeld => ?_)
        clear hK K
        refine norm_ (a' := ?_) ?_ ?_
        rotate_left
        · show Act.put _ (some 22) _ = _
          simp only [Act.put, List.setIfInBounds_toArray, List.set_cons_zero, List.set_cons_succ]
          rfl
        exact norm_ (by simp only [putAll, Act.put, List.setIfInBounds_toArray, List.set_cons_zero, List.set_cons_succ]) (hCont (w.heap.size + 1, w.heap.size, w.heap.size + 2) _ ⟨((((Chg.dr w).alloc (Obj.cells (inc (List.replicate n 0)) 3)).alloc (Obj.cells (mbc (List.replicate n (0, 0))) 147)).alloc (Obj.cells (inc (List.replicate n 0)) 3)), ((Blk.new_ (k := w.heap.size + 1) (w.drew.alloc (Obj.cells (inc (List.replicate n 0)) 3)) 147 (mbc (List.replicate n (0, 0))) (by simp)).alloc (Obj.cells (inc (List.replicate n 0)) 3)), (((Blk.new_ (k := w.heap.size) w.drew 3 (inc (List.replicate n 0)) (by simp)).alloc (Obj.cells (mbc (List.replicate n (0, 0))) 147)).alloc (Obj.cells (inc (List.replicate n 0)) 3)), (Blk.new_ (k := w.heap.size + 2) ((w.drew.alloc (Obj.cells (inc (List.replicate n 0)) 3)).alloc (Obj.cells (mbc (List.replicate n (0, 0))) 147)) 3 (inc (List.replicate n 0)) (by simp)), by dsimp only; omega, by dsimp only; omega, by dsimp only; omega, by dsimp only; omega, by dsimp only; omega, by dsimp only; omega⟩)
      · skip
        refine value_ (w1 := ?_) (v := ?_) (by rfl) rfl ?_ ?_
        rotate_left 2
        · go_simp
          constructor
          · rfl
          · rfl
        refine hK.out _ _ trivial (fun hHeld => ?_)
        clear hK K
        refine norm_ (a' := ?_) ?_ ?_
        rotate_left
        · show Act.put _ (some 22) _ = _
          simp only [Act.put, List.setIfInBounds_toArray, List.set_cons_zero, List.set_cons_succ]
          rfl
        refine one_ (i := 2) (N := some 18) #[true, true, true, true, true, true, true, false, false, false] rfl rfl (by kernel_rfl) (by decide) (fun K hK => ?_)
        refine value_ (w1 := ?_) (v := ?_) (by rfl) rfl ?_ ?_
        rotate_left 2
        · go_simp
          constructor
          · rfl
          · rfl
        refine hK.out _ _ trivial (fun hHeld => ?_)
        clear hK K
        refine norm_ (a' := ?_) ?_ ?_
        rotate_left
        · show Act.put _ (some 18) _ = _
          simp only [Act.put, List.setIfInBounds_toArray, List.set_cons_zero, List.set_cons_succ]
          rfl
        exact norm_ (by simp only [putAll, Act.put, List.setIfInBounds_toArray, List.set_cons_zero, List.set_cons_succ]) (hCont (w.heap.size + 2, w.heap.size, w.heap.size + 1) _ ⟨((((Chg.dr w).alloc (Obj.cells (inc (List.replicate n 0)) 3)).alloc (Obj.cells (inc (List.replicate n 0)) 3)).alloc (Obj.cells (mbc (List.replicate n (0, 0))) 147)), (Blk.new_ (k := w.heap.size + 2) ((w.drew.alloc (Obj.cells (inc (List.replicate n 0)) 3)).alloc (Obj.cells (inc (List.replicate n 0)) 3)) 147 (mbc (List.replicate n (0, 0))) (by simp)), (((Blk.new_ (k := w.heap.size) w.drew 3 (inc (List.replicate n 0)) (by simp)).alloc (Obj.cells (inc (List.replicate n 0)) 3)).alloc (Obj.cells (mbc (List.replicate n (0, 0))) 147)), ((Blk.new_ (k := w.heap.size + 1) (w.drew.alloc (Obj.cells (inc (List.replicate n 0)) 3)) 3 (inc (List.replicate n 0)) (by simp)).alloc (Obj.cells (mbc (List.replicate n (0, 0))) 147)), by dsimp only; omega, by dsimp only; omega, by dsimp only; omega, by dsimp only; omega, by dsimp only; omega, by dsimp only; omega⟩)
    · skip
      refine value_ (w1 := ?_) (v := ?_) (by rfl) rfl ?_ ?_
      rotate_left 2
      · go_simp
        constructor
        · rfl
        · rfl
      refine hK.out _ _ trivial (fun hHeld => ?_)
      clear hK K
      refine norm_ (a' := ?_) ?_ ?_
      rotate_left
      · show Act.put _ (some 22) _ = _
        simp only [Act.put, List.setIfInBounds_toArray, List.set_cons_zero, List.set_cons_succ]
        rfl
      refine two_ (i := 2) (j := 4) (Ni := some 18) (Nj := some 20) #[true, true, true, true, false, true, true, false, false, false] #[true, true, false, true, true, true, true, false, false, false] rfl rfl rfl rfl (by kernel_rfl) (by decide) (by decide) (fun K hK => ?_) (fun K hK => ?_)
      · skip
        refine value_ (w1 := ?_) (v := ?_) (by rfl) rfl ?_ ?_
        rotate_left 2
        · go_simp
          constructor
          · rfl
          · rfl
        refine hK.out _ _ trivial (fun hHeld => ?_)
        clear hK K
        refine norm_ (a' := ?_) ?_ ?_
        rotate_left
        · show Act.put _ (some 18) _ = _
          simp only [Act.put, List.setIfInBounds_toArray, List.set_cons_zero, List.set_cons_succ]
          rfl
        refine one_ (i := 4) (N := some 20) #[true, true, true, true, true, true, true, false, false, false] rfl rfl (by kernel_rfl) (by decide) (fun K hK => ?_)
        refine value_ (w1 := ?_) (v := ?_) (by rfl) rfl ?_ ?_
        rotate_left 2
        · go_simp
          constructor
          · rfl
          · rfl
        refine hK.out _ _ trivial (fun hHeld => ?_)
        clear hK K
        refine norm_ (a' := ?_) ?_ ?_
        rotate_left
        · show Act.put _ (some 20) _ = _
          simp only [Act.put, List.setIfInBounds_toArray, List.set_cons_zero, List.set_cons_succ]
          rfl
        exact norm_ (by simp only [putAll, Act.put, List.setIfInBounds_toArray, List.set_cons_zero, List.set_cons_succ]) (hCont (w.heap.size + 1, w.heap.size + 2, w.heap.size) _ ⟨((((Chg.dr w).alloc (Obj.cells (inc (List.replicate n 0)) 3)).alloc (Obj.cells (mbc (List.replicate n (0, 0))) 147)).alloc (Obj.cells (inc (List.replicate n 0)) 3)), ((Blk.new_ (k := w.heap.size + 1) (w.drew.alloc (Obj.cells (inc (List.replicate n 0)) 3)) 147 (mbc (List.replicate n (0, 0))) (by simp)).alloc (Obj.cells (inc (List.replicate n 0)) 3)), (Blk.new_ (k := w.heap.size + 2) ((w.drew.alloc (Obj.cells (inc (List.replicate n 0)) 3)).alloc (Obj.cells (mbc (List.replicate n (0, 0))) 147)) 3 (inc (List.replicate n 0)) (by simp)), (((Blk.new_ (k := w.heap.size) w.drew 3 (inc (List.replicate n 0)) (by simp)).alloc (Obj.cells (mbc (List.replicate n (0, 0))) 147)).alloc (Obj.cells (inc (List.replicate n 0)) 3)), by dsimp only; omega, by dsimp only; omega, by dsimp only; omega, by dsimp only; omega, by dsimp only; omega, by dsimp only; omega⟩)
      · skip
        refine value_ (w1 := ?_) (v := ?_) (by rfl) rfl ?_ ?_
        rotate_left 2
        · go_simp
          constructor
          · rfl
          · rfl
        refine hK.out _ _ trivial (fun hHeld => ?_)
        clear hK K
        refine norm_ (a' := ?_) ?_ ?_
        rotate_left
        · show Act.put _ (some 20) _ = _
          simp only [Act.put, List.setIfInBounds_toArray, List.set_cons_zero, List.set_cons_succ]
          rfl
        refine one_ (i := 2) (N := some 18) #[true, true, true, true, true, true, true, false, false, false] rfl rfl (by kernel_rfl) (by decide) (fun K hK => ?_)
        refine value_ (w1 := ?_) (v := ?_) (by rfl) rfl ?_ ?_
        rotate_left 2
        · go_simp
          constructor
          · rfl
          · rfl
        refine hK.out _ _ trivial (fun hHeld => ?_)
        clear hK K
        refine norm_ (a' := ?_) ?_ ?_
        rotate_left
        · show Act.put _ (some 18) _ = _
          simp only [Act.put, List.setIfInBounds_toArray, List.set_cons_zero, List.set_cons_succ]
          rfl
        exact norm_ (by simp only [putAll, Act.put, List.setIfInBounds_toArray, List.set_cons_zero, List.set_cons_succ]) (hCont (w.heap.size + 2, w.heap.size + 1, w.heap.size) _ ⟨((((Chg.dr w).alloc (Obj.cells (inc (List.replicate n 0)) 3)).alloc (Obj.cells (inc (List.replicate n 0)) 3)).alloc (Obj.cells (mbc (List.replicate n (0, 0))) 147)), (Blk.new_ (k := w.heap.size + 2) ((w.drew.alloc (Obj.cells (inc (List.replicate n 0)) 3)).alloc (Obj.cells (inc (List.replicate n 0)) 3)) 147 (mbc (List.replicate n (0, 0))) (by simp)), ((Blk.new_ (k := w.heap.size + 1) (w.drew.alloc (Obj.cells (inc (List.replicate n 0)) 3)) 3 (inc (List.replicate n 0)) (by simp)).alloc (Obj.cells (mbc (List.replicate n (0, 0))) 147)), (((Blk.new_ (k := w.heap.size) w.drew 3 (inc (List.replicate n 0)) (by simp)).alloc (Obj.cells (inc (List.replicate n 0)) 3)).alloc (Obj.cells (mbc (List.replicate n (0, 0))) 147)), by dsimp only; omega, by dsimp only; omega, by dsimp only; omega, by dsimp only; omega, by dsimp only; omega, by dsimp only; omega⟩)
  rintro ⟨b1, b2, b3⟩ w6 ⟨hc6, k1, k2, k3, l1, l2, l3, n1, n2, n3⟩
  have hHeld : True := trivial
  refine norm_ (a' := ?_) ?_ ?_
  rotate_left
  · simp only [putAll, Act.put, List.setIfInBounds_toArray, List.set_cons_zero, List.set_cons_succ]
    rfl
  refine pure_ (i := 7) (N := some 23) (v := ?_) (a' := ?_) #[true, true, true, true, true, true, true, true, false, false] rfl rfl (by kernel_rfl) (fun _ _ _ h => h) (Or.inl ⟨by rfl, ?_⟩) ?_ ?_
  rotate_left
  · intro w'
    go_simp
    with_reducible rfl
  rotate_left
  · simp only [Act.put, List.setIfInBounds_toArray, List.set_cons_zero, List.set_cons_succ]
    rfl
  refine one_ (i := 8) (N := some 24) #[true, true, true, true, true, true, true, true, true, false] rfl rfl (by kernel_rfl) (by decide) (fun K hK => ?_)
  refine value_ (w1 := ?_) (v := ?_) (by rfl) rfl ?_ ?_
  rotate_left 2
  · go_simp
    constructor
    · rfl
    · rfl
  refine hK.out _ _ trivial (fun hHeld => ?_)
  clear hK K
  refine norm_ (a' := ?_) ?_ ?_
  rotate_left
  · show Act.put _ (some 24) _ = _
    simp only [Act.put, List.setIfInBounds_toArray, List.set_cons_zero, List.set_cons_succ]
    rfl
  refine pure_ (i := 9) (N := some 4) (v := ?_) (a' := ?_) #[true, true, true, true, true, true, true, true, true, true] rfl rfl (by kernel_rfl) (fun _ _ _ h => h) (Or.inl ⟨by rfl, ?_⟩) ?_ ?_
  rotate_left
  · intro w'
    go_simp
    with_reducible rfl
  rotate_left
  · simp only [Act.put, List.setIfInBounds_toArray, List.set_cons_zero, List.set_cons_succ]
    rfl
  refine done_ (by kernel_rfl) ?_
  go_wp2_with fail
  go_ret
  have hal := Chg.al w6 (.cells #[.int .i64 id_, .slice (some ⟨b1, 0, none⟩) n n, .slice (some ⟨b2, 0, none⟩) n n, .slice (some ⟨b3, 0, none⟩) n n] 121)
  have q1 := k1.lt
  have q2 := k2.lt
  have q3 := k3.lt
  have q4 := hc6.size

  exact ⟨⟨_, rfl, b1, b2, b3, ⟨Blk.new _ _ _, ⟨_, List.length_replicate, k1.st hal⟩, ⟨_, List.length_replicate, k2.st hal⟩, ⟨_, List.length_replicate, k3.st hal⟩, by omega, by omega, by omega, n1, n2, n3⟩, q4, l1, l2, l3⟩, hc6.trans hal⟩
end Go.Proofs.YtoefffjhjmjhfaaGreat
