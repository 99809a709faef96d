/- A count of answers; an operation's end. No statement is proved here. A write's operation, begun and done at once. No statement is proved here. -/
import Derived.Test.YtoefffjhjmjhfaaGreatPkStore
namespace Go.Proofs.YtoefffjhjmjhfaaGreat
open Go.RowKit Go.Proofs.YtoefffjhjmjhfaaGreatW.PrintLast
attribute [local go_sem] max2_mx min2_mn max_two_ min_two_
set_option maxRecDepth 100000

section
variable {w w' : World} {A B : Nat → Prop}
abbrev qmc (n : Int) (b : Bool) : Array Value := #[.int .i64 n, .bool b, .bool false, .bool false, .bool false, .bool false, .bool false, .bool false, .bool false]
theorem qnew_any (n : Int) (w : World) : Calls Tryz.prog 150 #[.int .i64 n] w fun e w' => e = .returned (.pointer (some ⟨w.heap.size, 0, none⟩)) ∧ w' = w.alloc (.cells (qmc n false) 299) := by
  go_enter Tryz.func150, Tryz.ntmps150
  go_wp2_with fail
  go_ret
  exact ⟨rfl, rfl⟩
theorem ixb0 (w : World) : (Instr.index 297 (.agg #[.bool true, .bool false, .bool false, .bool false, .bool false, .bool false, .bool false, .bool false]) (.int .i64 0)).run Tryz.prog w = .ok (.bool true) w := by kernel_rfl
theorem ixb1 (w : World) : (Instr.index 297 (.agg #[.bool true, .bool false, .bool false, .bool false, .bool false, .bool false, .bool false, .bool false]) (.int .i64 1)).run Tryz.prog w = .ok (.bool false) w := by kernel_rfl
theorem ixb2 (w : World) : (Instr.index 297 (.agg #[.bool true, .bool false, .bool false, .bool false, .bool false, .bool false, .bool false, .bool false]) (.int .i64 2)).run Tryz.prog w = .ok (.bool false) w := by kernel_rfl
theorem ixb3 (w : World) : (Instr.index 297 (.agg #[.bool true, .bool false, .bool false, .bool false, .bool false, .bool false, .bool false, .bool false]) (.int .i64 3)).run Tryz.prog w = .ok (.bool false) w := by kernel_rfl
theorem ixb4 (w : World) : (Instr.index 297 (.agg #[.bool true, .bool false, .bool false, .bool false, .bool false, .bool false, .bool false, .bool false]) (.int .i64 4)).run Tryz.prog w = .ok (.bool false) w := by kernel_rfl
theorem ixb5 (w : World) : (Instr.index 297 (.agg #[.bool true, .bool false, .bool false, .bool false, .bool false, .bool false, .bool false, .bool false]) (.int .i64 5)).run Tryz.prog w = .ok (.bool false) w := by kernel_rfl
theorem ixb6 (w : World) : (Instr.index 297 (.agg #[.bool true, .bool false, .bool false, .bool false, .bool false, .bool false, .bool false, .bool false]) (.int .i64 6)).run Tryz.prog w = .ok (.bool false) w := by kernel_rfl
theorem ixb7 (w : World) : (Instr.index 297 (.agg #[.bool true, .bool false, .bool false, .bool false, .bool false, .bool false, .bool false, .bool false]) (.int .i64 7)).run Tryz.prog w = .ok (.bool false) w := by kernel_rfl
set_option maxHeartbeats 4000000 in
theorem qlen_one {g : Nat} {n : Int} (h : Blk w g 299 (qmc n true)) : Calls Tryz.prog 197 #[.pointer (some ⟨g, 0, none⟩)] w fun e w' => e = .returned (.int .i64 1) ∧ w' = w := by
  obtain ⟨c0, c1, c2, c3, c4, c5, c6, c7, c8⟩ := cells9 h
  have i0 := ixb0
  have i1 := ixb1
  have i2 := ixb2
  have i3 := ixb3
  have i4 := ixb4
  have i5 := ixb5
  have i6 := ixb6
  have i7 := ixb7
  clear h
  go_enter Tryz.func197, Tryz.ntmps197
  go_wp2_with fail
  refine wp_loop_rounds 9 ?_
  iterate 9
    rw [rounds_succ]
    go_wp2_with fail
  go_ret
  exact ⟨rfl, rfl⟩
set_option maxHeartbeats 4000000 in
theorem qadd_one {g : Nat} {n : Int} (h : Blk w g 299 (qmc n false)) : Calls Tryz.prog 151 #[.pointer (some ⟨g, 0, none⟩), .int .i64 0] w fun e w' => (∃ v, e = .returned v) ∧ Chg (Only g) w w' := by
  have HB := Lib.hid (h.set_ 1 (.bool true))
  have c1 := h.cell 1
  have f1 := h.frozen 1
  clear h
  go_enter Tryz.func151, Tryz.ntmps151
  go_upto_region 4 with fail
  have hC := (Chg.refl (Only g) w).setOwn 1 (.bool true)
  generalize w.setCell ⟨g, 1, none⟩ (.bool true) = W at *
  have HC := Lib.hid hC
  clear c1 f1 hC
  refine start_ (n := 8) (S := fun w' => w'.cell? ⟨g, 0, none⟩ = some (.int .i64 n)) (ds := []) #[false, false, false, false, false, false, false, false] (by kernel_rfl) rfl rfl ((HB.out.drew.cell 0)) (fun hHeld => ?_)
  refine pure_ (i := 0) (N := some 28) (v := ?_) (a' := ?_) #[true, false, false, false, false, false, false, false] rfl rfl (by kernel_rfl) (fun _ _ _ h => h) (Or.inl ⟨by rfl, ?_⟩) ?_ ?_
  rotate_left
  · intro w'
    go_simp
    with_reducible rfl
  rotate_left
  · simp only [Act.put, List.setIfInBounds_toArray, List.set_cons_zero, List.set_cons_succ]
    rfl
  refine pure_ (i := 2) (N := some 30) (v := ?_) (a' := ?_) #[true, false, true, false, false, false, false, false] rfl rfl (by kernel_rfl) (fun _ _ _ h => h) (Or.inl ⟨by rfl, ?_⟩) ?_ ?_
  rotate_left
  · intro w'
    go_simp
    with_reducible rfl
  rotate_left
  · simp only [Act.put, List.setIfInBounds_toArray, List.set_cons_zero, List.set_cons_succ]
    rfl
  refine pure_ (i := 3) (N := some 31) (v := ?_) (a' := ?_) #[true, false, true, true, false, false, false, false] rfl rfl (by kernel_rfl) (fun _ _ _ h => h) (Or.inl ⟨by rfl, ?_⟩) ?_ ?_
  rotate_left
  · intro w'
    go_simp
    with_reducible rfl
  rotate_left
  · simp only [Act.put, List.setIfInBounds_toArray, List.set_cons_zero, List.set_cons_succ]
    rfl
  refine pure_ (i := 4) (N := some 32) (v := ?_) (a' := ?_) #[true, false, true, true, true, false, false, false] rfl rfl (by kernel_rfl) (fun _ _ _ h => h) (Or.inl ⟨by rfl, ?_⟩) ?_ ?_
  rotate_left
  · intro w'
    go_simp
    with_reducible rfl
  rotate_left
  · simp only [Act.put, List.setIfInBounds_toArray, List.set_cons_zero, List.set_cons_succ]
    rfl
  refine take_ (i := 5) (N := some 33) (v := ?_) (a' := ?_) #[true, false, true, true, true, true, false, false] rfl rfl (by kernel_rfl) (fun _ _ _ h => h) (Or.inl ⟨by rfl, ?_⟩) hHeld ?_ ?_
  rotate_left
  · intro w' s0
    go_simp
    with_reducible rfl
  rotate_left
  · simp only [Act.put, List.setIfInBounds_toArray, List.set_cons_zero, List.set_cons_succ]
    rfl
  refine one_ (i := 1) (N := some 29) #[true, true, true, true, true, true, false, false] rfl rfl (by kernel_rfl) (by decide) (fun K hK => ?_)
  refine goes_ Tryz.func197 (by kernel_rfl) rfl #[.pointer (some ⟨g, 0, none⟩)] (by rfl) rfl rfl (by simp only [List.map_toArray, List.map_cons, List.map_nil]; rfl) ?_
  with_reducible refine ((qlen_one HB.out.drew)).mono ?_
  rintro e w1 ⟨rfl, hw⟩
  refine ⟨_, rfl, ?_⟩
  subst hw
  refine hK.out _ _ ((HB.out.drew.cell 0)) (fun hHeld => ?_)
  clear hK K
  refine norm_ (a' := ?_) ?_ ?_
  rotate_left
  · show Act.put _ (some 29) _ = _
    simp only [Act.put, List.setIfInBounds_toArray, List.set_cons_zero, List.set_cons_succ]
    rfl
  refine pure_ (i := 6) (N := some 34) (v := ?_) (a' := ?_) #[true, true, true, true, true, true, true, false] rfl rfl (by kernel_rfl) (fun _ _ _ h => h) (Or.inl ⟨by rfl, ?_⟩) ?_ ?_
  rotate_left
  · intro w'
    go_simp
    with_reducible rfl
  rotate_left
  · simp only [Act.put, List.setIfInBounds_toArray, List.set_cons_zero, List.set_cons_succ]
    rfl
  refine pure_ (i := 7) (N := some 4) (v := ?_) (a' := ?_) #[true, true, true, true, true, true, true, true] rfl rfl (by kernel_rfl) (fun _ _ _ h => h) (Or.inl ⟨by rfl, ?_⟩) ?_ ?_
  rotate_left
  · intro w'
    go_simp
    with_reducible rfl
  rotate_left
  · simp only [Act.put, List.setIfInBounds_toArray, List.set_cons_zero, List.set_cons_succ]
    rfl
  refine done_ (by kernel_rfl) ?_
  go_wp2_with fail
  go_ret
  exact ⟨⟨_, rfl⟩, HC.out.trans (Chg.of_no (Chg.dr W))⟩
theorem map_ne {w : World} {b m clock : Nat} {t : TypeId} {cs : Array Value} {es : Array MapEntry} (hB : Blk w b t cs) (hM : w.heap[m]? = some (.map es clock)) : b ≠ m := fun h => by
  unfold Blk at hB
  rw [h, hM] at hB
  cases hB
theorem Tryz.infAn : (Tryz.prog.info? 54).map (fun i => (i.zero, i.size, i.bytes)) = some (some (.agg #[.int .i64 0, .int .i64 0, .int .i64 0, .int .i64 0, .int .i64 0, .int .i64 0, .int .i64 0, .int .i64 0, .int .i64 0, .int .i64 0, .slice none 0 0]), 11, 104) := by kernel_rfl
/-- An answer's cells. -/
abbrev anc (n e : Int) (s : Sb) (p : Value) : List Value := [.int .i64 n, .int .i64 e, .int .i64 (s.seen 0), .int .i64 (s.seen 1), .int .i64 (s.seen 2), .int .i64 (s.seen 3), .int .i64 (s.seen 4), .int .i64 (s.seen 5), .int .i64 (s.seen 6), .int .i64 (s.seen 7), p]
set_option maxHeartbeats 4000000 in
theorem coEnd_one {co om ob born clock : Nat} {wt last : Int} (hB : Blk w co 133 (coc wt last om (.slice none 0 0))) (hM : w.heap[om]? = some (.map #[{ key := .int .i64 1, val := .pointer (some ⟨ob, 0, none⟩), born := born }] clock))
    {p1 : Option Addr} {c1 : Nat} (ho : ∀ i, i < 9 → w.cell? ⟨ob, 2 + i, none⟩ = (sbc sA (.slice p1 sA.vals.length c1))[i]?) (hp : Rd w A (vlsD sA.vals) (.slice p1 sA.vals.length c1)) :
    Calls Tryz.prog 50 #[.pointer (some ⟨co, 0, none⟩), .int .i64 1, .int .i64 0] w fun e w' => e = .returned (.tuple #[]) ∧ (∃ l a c, Blk w' co 133 (coc wt last om l) ∧ w'.ownsRow w.heap.size 54 11 l 1 (anc 1 0 sA (.slice a 1 c))) ∧ Chg (fun j => j = co ∨ j = om) w w' := by
  have d0 := ho 0 (by omega)
  have d1 := ho 1 (by omega)
  have d2 := ho 2 (by omega)
  have d3 := ho 3 (by omega)
  have d4 := ho 4 (by omega)
  have d5 := ho 5 (by omega)
  have d6 := ho 6 (by omega)
  have d7 := ho 7 (by omega)
  have d8 := ho 8 (by omega)
  have hC := Chg.al w (.cells #[.int .i64 1, .int .i64 0, .int .i64 0, .int .i64 0, .int .i64 0, .int .i64 0, .int .i64 0, .int .i64 0, .int .i64 0, .int .i64 0, .slice none 0 0] 54)
  have BA := Blk.new w 54 #[.int .i64 1, .int .i64 0, .int .i64 0, .int .i64 0, .int .i64 0, .int .i64 0, .int .i64 0, .int .i64 0, .int .i64 0, .int .i64 0, .slice none 0 0]
  have hco := map_ne hB hM
  have lB := hB.lt
  have lM := map_lt' hM
  have hM1 := (hC.block _ lM id).trans hM
  have hB1 := hB.st hC
  replace d0 := cell_old d0 hC
  replace d1 := cell_old d1 hC
  replace d2 := cell_old d2 hC
  replace d3 := cell_old d3 hC
  replace d4 := cell_old d4 hC
  replace d5 := cell_old d5 hC
  replace d6 := cell_old d6 hC
  replace d7 := cell_old d7 hC
  replace d8 := cell_old d8 hC
  have hp1 := hp.st hC
  have lA : w.heap.size + 1 ≤ (w.alloc (.cells #[.int .i64 1, .int .i64 0, .int .i64 0, .int .i64 0, .int .i64 0, .int .i64 0, .int .i64 0, .int .i64 0, .int .i64 0, .int .i64 0, .slice none 0 0] 54)).heap.size := by simp
  have HB1 := Lib.hid hB1
  have HM1 := Lib.hid hM1
  have HP1 := Lib.hid hp1
  clear hB hM hp ho hp1 hB1 hM1
  go_enter Tryz.func50, Tryz.ntmps50
  go_upto_region 1 with fail
  generalize w.alloc (Obj.cells _ 54) = W at *
  have b2 := HB1.out.cell 2
  have hlk := mlook_one (P := Tryz.prog) (t := 131) (key := .int .i64 1) Tryz.underlying131 Tryz.underlying2 rfl HM1.out
  go_wp2_with fail
  refine (ccopied_one one_A HP1.out).mono ?_
  rintro e w1 ⟨⟨p2, rfl, hp2⟩, hC1⟩
  obtain ⟨q2, k2, rfl, _⟩ := vls_form hp2
  clear hp2 d0 d1 d2 d3 d4 d5 d6 d7 d8 b2 hlk
  replace hC := hC.st hC1
  replace BA := BA.st hC1
  have HB2 := Lib.hid (HB1.out.st hC1)
  have HM2 : Hid (w1.heap[om]? = _) := Lib.hid ((hC1.block _ (map_lt' HM1.out) id).trans HM1.out)
  have lA1 := Nat.le_trans lA hC1.size
  clear hC1
  obtain ⟨a0, a1, a2, a3, a4, a5, a6, a7, a8, a9, a10⟩ := cells11 BA
  obtain ⟨f0, f1, f2, f3, f4, f5, f6, f7, f8, f9, f10⟩ := frz11 BA
  go_upto_region 3 with fail
  have hO := ((((((((((Chg.refl (Only w.heap.size) w1).setOwn 2 (Value.int .i64 (sA.seen 0))).setOwn 3 (Value.int .i64 (sA.seen 1))).setOwn 4 (Value.int .i64 (sA.seen 2))).setOwn 5 (Value.int .i64 (sA.seen 3))).setOwn 6 (Value.int .i64 (sA.seen 4))).setOwn 7 (Value.int .i64 (sA.seen 5))).setOwn 8 (Value.int .i64 (sA.seen 6))).setOwn 9 (Value.int .i64 (sA.seen 7))).setOwn 10 (Value.slice q2 sA.vals.length k2))
  have BA2 := (((((((((BA.set_ 2 (.int .i64 (sA.seen 0))).set_ 3 (.int .i64 (sA.seen 1))).set_ 4 (.int .i64 (sA.seen 2))).set_ 5 (.int .i64 (sA.seen 3))).set_ 6 (.int .i64 (sA.seen 4))).set_ 7 (.int .i64 (sA.seen 5))).set_ 8 (.int .i64 (sA.seen 6))).set_ 9 (.int .i64 (sA.seen 7))).set_ 10 (.slice q2 sA.vals.length k2))
  have hC2 := (((((((((hC.sc (b := w.heap.size) (i := 2) (Nat.le_refl _) (.int .i64 (sA.seen 0))).sc (b := w.heap.size) (i := 3) (Nat.le_refl _) (.int .i64 (sA.seen 1))).sc (b := w.heap.size) (i := 4) (Nat.le_refl _) (.int .i64 (sA.seen 2))).sc (b := w.heap.size) (i := 5) (Nat.le_refl _) (.int .i64 (sA.seen 3))).sc (b := w.heap.size) (i := 6) (Nat.le_refl _) (.int .i64 (sA.seen 4))).sc (b := w.heap.size) (i := 7) (Nat.le_refl _) (.int .i64 (sA.seen 5))).sc (b := w.heap.size) (i := 8) (Nat.le_refl _) (.int .i64 (sA.seen 6))).sc (b := w.heap.size) (i := 9) (Nat.le_refl _) (.int .i64 (sA.seen 7))).sc (b := w.heap.size) (i := 10) (Nat.le_refl _) (.slice q2 sA.vals.length k2))
  generalize (((((((((w1.setCell ⟨w.heap.size, 2, none⟩ (.int .i64 (sA.seen 0))).setCell ⟨w.heap.size, 3, none⟩ (.int .i64 (sA.seen 1))).setCell ⟨w.heap.size, 4, none⟩ (.int .i64 (sA.seen 2))).setCell ⟨w.heap.size, 5, none⟩ (.int .i64 (sA.seen 3))).setCell ⟨w.heap.size, 6, none⟩ (.int .i64 (sA.seen 4))).setCell ⟨w.heap.size, 7, none⟩ (.int .i64 (sA.seen 5))).setCell ⟨w.heap.size, 8, none⟩ (.int .i64 (sA.seen 6))).setCell ⟨w.heap.size, 9, none⟩ (.int .i64 (sA.seen 7))).setCell ⟨w.heap.size, 10, none⟩ (.slice q2 sA.vals.length k2)) = W2 at *
  clear a0 a1 a2 a3 a4 a5 a6 a7 a8 a9 a10 f0 f1 f2 f3 f4 f5 f6 f7 f8 f9 f10 BA hC
  have HB3 := Lib.hid (HB2.out.chg hO (by unfold Only; omega))
  have HM3 : Hid (W2.heap[om]? = _) := Lib.hid ((hO.block _ (map_lt' HM2.out) (by unfold Only; omega)).trans HM2.out)
  have HA3 : Hid (Blk W2 w.heap.size 54 (anc 1 0 sA (.slice q2 1 k2)).toArray) := Lib.hid BA2
  have HC3 := Lib.hid hC2
  have hz3 := hC2.size
  clear hO BA2 hC2 HB1 HM1 HB2 HM2 HP1
  obtain ⟨i9, hi9, z9, s9, y9⟩ := info_parts Tryz.infAn
  have H1 : Hid (∀ v ∈ anc 1 0 sA (.slice q2 1 k2), v.oneCell' = true) := Lib.hid (fun v hv => by
    simp only [List.mem_cons, List.mem_nil_iff, or_false] at hv
    rcases hv with rfl | rfl | rfl | rfl | rfl | rfl | rfl | rfl | rfl | rfl | rfl <;> rfl)
  refine start_ (n := 11) (S := fun w' => w'.cell? ⟨co, 3, none⟩ = some (.slice none 0 0) ∧ w'.cell? ⟨w.heap.size, 0, none⟩ = some (.int .i64 1) ∧ w'.cell? ⟨w.heap.size, 1, none⟩ = some (.int .i64 0) ∧ w'.cell? ⟨w.heap.size, 2, none⟩ = some (.int .i64 (sA.seen 0)) ∧ w'.cell? ⟨w.heap.size, 3, none⟩ = some (.int .i64 (sA.seen 1)) ∧ w'.cell? ⟨w.heap.size, 4, none⟩ = some (.int .i64 (sA.seen 2)) ∧ w'.cell? ⟨w.heap.size, 5, none⟩ = some (.int .i64 (sA.seen 3)) ∧ w'.cell? ⟨w.heap.size, 6, none⟩ = some (.int .i64 (sA.seen 4)) ∧ w'.cell? ⟨w.heap.size, 7, none⟩ = some (.int .i64 (sA.seen 5)) ∧ w'.cell? ⟨w.heap.size, 8, none⟩ = some (.int .i64 (sA.seen 6)) ∧ w'.cell? ⟨w.heap.size, 9, none⟩ = some (.int .i64 (sA.seen 7)) ∧ w'.cell? ⟨w.heap.size, 10, none⟩ = some (.slice q2 1 k2)) (ds := [10]) #[false, false, false, false, false, false, false, false, false, false, false] (by kernel_rfl) rfl rfl ⟨(HB3.out.drew.cell 3), (HA3.out.drew.cell 0), (HA3.out.drew.cell 1), (HA3.out.drew.cell 2), (HA3.out.drew.cell 3), (HA3.out.drew.cell 4), (HA3.out.drew.cell 5), (HA3.out.drew.cell 6), (HA3.out.drew.cell 7), (HA3.out.drew.cell 8), (HA3.out.drew.cell 9), (HA3.out.drew.cell 10)⟩ (fun hHeld => ?_)
  refine pure_ (i := 0) (N := some 23) (v := ?_) (a' := ?_) #[true, false, false, false, false, false, false, false, false, false, false] rfl rfl (by kernel_rfl) (fun _ _ _ h => h) (Or.inl ⟨by rfl, ?_⟩) ?_ ?_
  rotate_left
  · intro w'
    go_simp
    with_reducible rfl
  rotate_left
  · simp only [Act.put, List.setIfInBounds_toArray, List.set_cons_zero, List.set_cons_succ]
    rfl
  refine pure_ (i := 1) (N := some 24) (v := ?_) (a' := ?_) #[true, true, false, false, false, false, false, false, false, false, false] rfl rfl (by kernel_rfl) (fun _ _ _ h => h) (Or.inl ⟨by rfl, ?_⟩) ?_ ?_
  rotate_left
  · intro w'
    go_simp
    with_reducible rfl
  rotate_left
  · simp only [Act.put, List.setIfInBounds_toArray, List.set_cons_zero, List.set_cons_succ]
    rfl
  refine pure_ (i := 2) (N := some 25) (v := ?_) (a' := ?_) #[true, true, true, false, false, false, false, false, false, false, false] rfl rfl (by kernel_rfl) (fun _ _ _ h => h) (Or.inl ⟨by rfl, ?_⟩) ?_ ?_
  rotate_left
  · intro w'
    go_simp
    with_reducible rfl
  rotate_left
  · simp only [Act.put, List.setIfInBounds_toArray, List.set_cons_zero, List.set_cons_succ]
    rfl
  refine pure_ (i := 3) (N := some 26) (v := ?_) (a' := ?_) #[true, true, true, true, false, false, false, false, false, false, false] rfl rfl (by kernel_rfl) (fun _ _ _ h => h) (Or.inl ⟨by rfl, ?_⟩) ?_ ?_
  rotate_left
  · intro w'
    go_simp
    with_reducible rfl
  rotate_left
  · simp only [Act.put, List.setIfInBounds_toArray, List.set_cons_zero, List.set_cons_succ]
    rfl
  refine take_ (i := 4) (N := some 27) (v := ?_) (a' := ?_) #[true, true, true, true, true, false, false, false, false, false, false] rfl rfl (by kernel_rfl) (fun _ _ _ h => h) (Or.inl ⟨by rfl, ?_⟩) hHeld ?_ ?_
  rotate_left
  · rintro w' ⟨s0, s1, s2, s3, s4, s5, s6, s7, s8, s9, s10, s11⟩
    go_simp
    with_reducible rfl
  rotate_left
  · simp only [Act.put, List.setIfInBounds_toArray, List.set_cons_zero, List.set_cons_succ]
    rfl
  refine take_ (i := 5) (N := some 28) (v := ?_) (a' := ?_) #[true, true, true, true, true, true, false, false, false, false, false] rfl rfl (by kernel_rfl) (fun _ _ _ h => h) (Or.inl ⟨by rfl, ?_⟩) hHeld ?_ ?_
  rotate_left
  · rintro w' ⟨s0, s1, s2, s3, s4, s5, s6, s7, s8, s9, s10, s11⟩
    go_simp
    with_reducible rfl
  rotate_left
  · simp only [Act.put, List.setIfInBounds_toArray, List.set_cons_zero, List.set_cons_succ]
    rfl
  refine one_ (i := 6) (N := some 29) #[true, true, true, true, true, true, true, false, false, false, false] rfl rfl (by kernel_rfl) (by decide) (fun K hK => ?_)
  refine value_ (w1 := ?_) (v := ?_) (by rfl) rfl ?_ ?_
  rotate_left 2
  · go_simp
    constructor
    · rfl
    · rfl
  refine hK.out _ _ ⟨((HB3.out.drew.alloc _).cell 3), ((HA3.out.drew.alloc _).cell 0), ((HA3.out.drew.alloc _).cell 1), ((HA3.out.drew.alloc _).cell 2), ((HA3.out.drew.alloc _).cell 3), ((HA3.out.drew.alloc _).cell 4), ((HA3.out.drew.alloc _).cell 5), ((HA3.out.drew.alloc _).cell 6), ((HA3.out.drew.alloc _).cell 7), ((HA3.out.drew.alloc _).cell 8), ((HA3.out.drew.alloc _).cell 9), ((HA3.out.drew.alloc _).cell 10)⟩ (fun hHeld => ?_)
  clear hK K
  refine norm_ (a' := ?_) ?_ ?_
  rotate_left
  · show Act.put _ (some 29) _ = _
    simp only [Act.put, List.setIfInBounds_toArray, List.set_cons_zero, List.set_cons_succ]
    rfl
  refine one_ (i := 7) (N := some 30) #[true, true, true, true, true, true, true, true, false, false, false] rfl rfl (by kernel_rfl) (by decide) (fun K hK => ?_)
  refine step_append_lies _ (by rfl) _ _ _ (by rfl) w.heap.size 54 i9 _ 11 104 Tryz.underlying48 hi9 z9 s9 y9 rfl (by omega) (.slice none 0 0) 0 [] (by rfl) (World.ownsRow_nil _ _ _ _)
    ⟨W2.heap.size, 0, none⟩ 1 1 (anc 1 0 sA (.slice q2 1 k2)) (by rfl) (by rfl) (World.news_of_block (cs := (anc 1 0 sA (.slice q2 1 k2)).toArray) (t := 54) (fr := (0, 0)) (heap_alloc_new W2.drew _)) H1.out (by omega) (by unfold maxLen; omega) (by omega) (by simp; omega) (W2.heap.size + 1) (by simp) ?_
  intro g3 cap3 w5 hown hgrow hat hlt5
  have HO5 := Lib.hid hown
  have HC5 : Hid (Chg NoB (W2.drew.alloc (Obj.cells #[.int .i64 1, .int .i64 0, .int .i64 (sA.seen 0), .int .i64 (sA.seen 1), .int .i64 (sA.seen 2), .int .i64 (sA.seen 3), .int .i64 (sA.seen 4), .int .i64 (sA.seen 5), .int .i64 (sA.seen 6), .int .i64 (sA.seen 7), .slice q2 1 k2] 54)) w5) := Lib.hid (grown_nil hgrow)
  have HB5 := Lib.hid ((HB3.out.drew.alloc (Obj.cells #[.int .i64 1, .int .i64 0, .int .i64 (sA.seen 0), .int .i64 (sA.seen 1), .int .i64 (sA.seen 2), .int .i64 (sA.seen 3), .int .i64 (sA.seen 4), .int .i64 (sA.seen 5), .int .i64 (sA.seen 6), .int .i64 (sA.seen 7), .slice q2 1 k2] 54)).st HC5.out)
  have HA5 := Lib.hid ((HA3.out.drew.alloc (Obj.cells #[.int .i64 1, .int .i64 0, .int .i64 (sA.seen 0), .int .i64 (sA.seen 1), .int .i64 (sA.seen 2), .int .i64 (sA.seen 3), .int .i64 (sA.seen 4), .int .i64 (sA.seen 5), .int .i64 (sA.seen 6), .int .i64 (sA.seen 7), .slice q2 1 k2] 54)).st HC5.out)
  clear hown hgrow hat
  have fk := HB5.out.frozen 3
  refine hK.out _ _ ⟨(HB5.out.cell 3), (HA5.out.cell 0), (HA5.out.cell 1), (HA5.out.cell 2), (HA5.out.cell 3), (HA5.out.cell 4), (HA5.out.cell 5), (HA5.out.cell 6), (HA5.out.cell 7), (HA5.out.cell 8), (HA5.out.cell 9), (HA5.out.cell 10)⟩ (fun hHeld => ?_)
  clear hK K
  refine norm_ (a' := ?_) ?_ ?_
  rotate_left
  · show Act.put _ (some 30) _ = _
    simp only [Act.put, List.setIfInBounds_toArray, List.set_cons_zero, List.set_cons_succ]
    rfl
  refine pure_ (i := 8) (N := some 31) (v := ?_) (a' := ?_) #[true, true, true, true, true, true, true, true, true, false, false] rfl rfl (by kernel_rfl) (fun _ _ _ h => h) (Or.inl ⟨by rfl, ?_⟩) ?_ ?_
  rotate_left
  · intro w'
    go_simp
    with_reducible rfl
  rotate_left
  · simp only [Act.put, List.setIfInBounds_toArray, List.set_cons_zero, List.set_cons_succ]
    rfl
  refine pure_ (i := 9) (N := some 32) (v := ?_) (a' := ?_) #[true, true, true, true, true, true, true, true, true, true, false] rfl rfl (by kernel_rfl) (fun _ _ _ h => h) (Or.inl ⟨by rfl, ?_⟩) ?_ ?_
  rotate_left
  · intro w'
    go_simp
    with_reducible rfl
  rotate_left
  · simp only [Act.put, List.setIfInBounds_toArray, List.set_cons_zero, List.set_cons_succ]
    rfl
  refine last_ (i := 10) (N := none) #[true, true, true, true, true, true, true, true, true, true, true] rfl rfl (by kernel_rfl) (by decide) (fun K hK => ?_)
  refine skip_ (w1 := ?_) (by rfl) rfl ?_ ?_
  rotate_left
  · go_simp
    rfl
  refine hK.out _ _ ?_
  clear hK K
  refine done_ (by kernel_rfl) ?_
  have hCn : Chg NoB W2 w5 := (((Chg.dr W2).alloc _).trans HC5.out)
  have hB6 := HB5.out.set_ 3 (.slice (some ⟨g3, 0, none⟩) 1 cap3)
  have hO6 : (w5.setCell ⟨co, 3, none⟩ (.slice (some ⟨g3, 0, none⟩) 1 cap3)).ownsRow w.heap.size 54 11 (.slice (some ⟨g3, 0, none⟩) 1 cap3) 1 (anc 1 0 sA (.slice q2 1 k2)) := own_chg HO5.out ((Chg.refl (Only co) w5).setOwn 3 _) fun k hk => by have := (HO5.out.lt k hk).1; unfold Only; omega
  have hM6 : (w5.setCell ⟨co, 3, none⟩ (.slice (some ⟨g3, 0, none⟩) 1 cap3)).heap[om]? = _ := (((Chg.refl (Only co) w5).setOwn 3 _).block om (Nat.lt_of_lt_of_le (map_lt' HM3.out) hCn.size) (fun h => hco h.symm)).trans ((hCn.block om (map_lt' HM3.out) id).trans HM3.out)
  have hC6 : Chg (fun j => j = co ∨ j = om) w (w5.setCell ⟨co, 3, none⟩ (.slice (some ⟨g3, 0, none⟩) 1 cap3)) := (Chg.of_no (HC3.out.trans hCn)).setCell (p := ⟨co, 3, none⟩) (.inl (.inl rfl)) _
  generalize w5.setCell ⟨co, 3, none⟩ _ = W6 at *
  have HB6 := Lib.hid hB6
  have HO6 := Lib.hid hO6
  have HC6 := Lib.hid hC6
  have hdel := fun ty => mdel_one (P := Tryz.prog) (t := 131) (key := .int .i64 1) Tryz.underlying131 Tryz.underlying2 rfl hM6 ty
  have b2 := hB6.cell 2
  clear hCn hB6 hO6 hM6 hC6
  go_wp2_with fail
  go_end0
  have hz := setObj_chg W6 om (.map #[] clock)
  refine ⟨rfl, ⟨_, q2, k2, HB6.out.chg hz hco, own_chg HO6.out hz fun k hk h => ?_⟩, HC6.out.trans (hz.mono fun j _ hj => .inr hj)⟩
  have h1 := (HO6.out.lt k hk).1
  have h2 : k = om := h
  omega
end
end Go.Proofs.YtoefffjhjmjhfaaGreat
namespace Go.Proofs.YtoefffjhjmjhfaaGreat
open Go.RowKit Go.Proofs.YtoefffjhjmjhfaaGreatW.PrintLast
attribute [local go_sem] max2_mx min2_mn max_two_ min_two_
set_option maxRecDepth 100000

section
variable {w w' : World} {A B : Nat → Prop}
/-- The cells of an operation that is begun. -/
abbrev opc (k : ByteArray) (s : Sb) (p : Value) (q : Nat) : Array Value := #[.string k, .bool true, .int .i64 (s.seen 0), .int .i64 (s.seen 1), .int .i64 (s.seen 2), .int .i64 (s.seen 3), .int .i64 (s.seen 4), .int .i64 (s.seen 5), .int .i64 (s.seen 6), .int .i64 (s.seen 7), p, .pointer (some ⟨q, 0, none⟩), .int .i64 0, .int .i64 0, .int .i64 0, .int .i64 0, .int .i64 0, .int .i64 0, .int .i64 0, .int .i64 0, .slice none 0 0, .int .i64 0, .int .i64 0, .int .i64 0, .int .i64 0, .int .i64 0, .int .i64 0, .int .i64 0, .int .i64 0, .slice none 0 0, .int .i64 0, .int .i64 0, .int .i64 0, .int .i64 0, .int .i64 0, .int .i64 0, .int .i64 0, .int .i64 0, .slice none 0 0, .int .i64 0, .int .i64 0, .int .i64 0, .int .i64 0, .int .i64 0, .int .i64 0, .int .i64 0, .int .i64 0, .slice none 0 0, .int .i64 0, .int .i64 0, .int .i64 0, .int .i64 0, .int .i64 0, .int .i64 0, .int .i64 0, .int .i64 0, .slice none 0 0, .int .i64 0, .int .i64 0, .int .i64 0, .int .i64 0, .int .i64 0, .int .i64 0, .int .i64 0, .int .i64 0, .slice none 0 0, .int .i64 0, .int .i64 0, .int .i64 0, .int .i64 0, .int .i64 0, .int .i64 0, .int .i64 0, .int .i64 0, .slice none 0 0, .int .i64 0, .int .i64 0, .int .i64 0, .int .i64 0, .int .i64 0, .int .i64 0, .int .i64 0, .int .i64 0, .slice none 0 0, .int .i64 0]
theorem keep12 {w : World} {b i : Nat} {v : Value} (h : w.cell? ⟨b, i, none⟩ = some v) (hi : i < 12) (u0 u1 u2 u3 u4 u5 u6 u7 u8 : Value) : (((((((((w.setCell ⟨b, 12, none⟩ u0).setCell ⟨b, 13, none⟩ u1).setCell ⟨b, 14, none⟩ u2).setCell ⟨b, 15, none⟩ u3).setCell ⟨b, 16, none⟩ u4).setCell ⟨b, 17, none⟩ u5).setCell ⟨b, 18, none⟩ u6).setCell ⟨b, 19, none⟩ u7).setCell ⟨b, 20, none⟩ u8).cell? ⟨b, i, none⟩ = some v := by
  rw [World.cell?_setCell_other _ ⟨b, 20, none⟩ ⟨b, i, none⟩ _ (fun h => by have := congrArg Addr.off h; dsimp only at this; omega)]
  rw [World.cell?_setCell_other _ ⟨b, 19, none⟩ ⟨b, i, none⟩ _ (fun h => by have := congrArg Addr.off h; dsimp only at this; omega)]
  rw [World.cell?_setCell_other _ ⟨b, 18, none⟩ ⟨b, i, none⟩ _ (fun h => by have := congrArg Addr.off h; dsimp only at this; omega)]
  rw [World.cell?_setCell_other _ ⟨b, 17, none⟩ ⟨b, i, none⟩ _ (fun h => by have := congrArg Addr.off h; dsimp only at this; omega)]
  rw [World.cell?_setCell_other _ ⟨b, 16, none⟩ ⟨b, i, none⟩ _ (fun h => by have := congrArg Addr.off h; dsimp only at this; omega)]
  rw [World.cell?_setCell_other _ ⟨b, 15, none⟩ ⟨b, i, none⟩ _ (fun h => by have := congrArg Addr.off h; dsimp only at this; omega)]
  rw [World.cell?_setCell_other _ ⟨b, 14, none⟩ ⟨b, i, none⟩ _ (fun h => by have := congrArg Addr.off h; dsimp only at this; omega)]
  rw [World.cell?_setCell_other _ ⟨b, 13, none⟩ ⟨b, i, none⟩ _ (fun h => by have := congrArg Addr.off h; dsimp only at this; omega)]
  rw [World.cell?_setCell_other _ ⟨b, 12, none⟩ ⟨b, i, none⟩ _ (fun h => by have := congrArg Addr.off h; dsimp only at this; omega)]
  exact h
set_option maxHeartbeats 8000000 in
theorem begin_one {co om : Nat} {wt : Int} (hB : Blk w co 133 (coc wt 0 om (.slice none 0 0))) (hM : w.heap[om]? = some (.map #[] 0)) (k : ByteArray) (hk : 1 ≤ k.size ∧ k.size ≤ 32) {p : Value} (hp : Rd w A (vlsD sA.vals) p) (hA : ∀ j, A j → j ≠ co ∧ j ≠ om) :
    Calls Tryz.prog 85 #[.pointer (some ⟨co, 0, none⟩), .int .i64 0, .int .i64 1, .string k, sbv sA p, .bool true] w fun e w' => e = .returned (.tuple #[.int .i64 1, .int .i64 0]) ∧ (∃ l a c, Blk w' co 133 (coc wt 1 om l) ∧ w'.ownsRow w.heap.size 54 11 l 1 (anc 1 0 sA (.slice a 1 c))) ∧ Chg (fun j => j = co ∨ j = om) w w' := by
  obtain ⟨p1, c1, rfl, _⟩ := vls_form hp
  have hco := map_ne hB hM
  have lB := hB.lt
  have lM := map_lt' hM
  have B1 := Blk.new w 52 (sbc sA (.slice p1 sA.vals.length c1))
  have hC := (Chg.refl NoB w).alloc (.cells (sbc sA (.slice p1 sA.vals.length c1)) 52)
  have hz : w.heap.size + 1 ≤ (w.alloc (.cells (sbc sA (.slice p1 sA.vals.length c1)) 52)).heap.size := by simp
  replace hp := hp.st hC
  replace hB := hB.st hC
  replace hM := (hC.block _ lM id).trans hM
  have HB := Lib.hid hB
  have HM := Lib.hid hM
  have HP := Lib.hid hp
  have HA := Lib.hid hA
  clear hB hM hp hA
  go_enter Tryz.func85, Tryz.ntmps85
  go_upto_block 0 with fail
  generalize w.alloc (Obj.cells _ 52) = W at *
  have b2 := HB.out.cell 2
  have hl := fun ty => mlen (t := 131) Tryz.underlying131 HM.out ty
  simp only [List.size_toArray, List.length_nil] at hl
  obtain ⟨d0, d1, d2, d3, d4, d5, d6, d7, d8⟩ := cells9 B1
  go_wp2_with fail
  refine (mayE_yes (e := ⟨k, sA⟩) HP.out mayA hk).mono ?_
  rintro e w1 ⟨rfl, hC1⟩
  clear b2 hl d0 d1 d2 d3 d4 d5 d6 d7 d8
  replace hC := hC.st hC1
  replace B1 := B1.st hC1
  have HB1 := Lib.hid (HB.out.st hC1)
  have HM1 : Hid (w1.heap[om]? = some (.map #[] 0)) := Lib.hid ((hC1.block _ (map_lt' HM.out) id).trans HM.out)
  have HP1 := Lib.hid (HP.out.st hC1)
  have hz1 := Nat.le_trans hz hC1.size
  clear hC1 HB HM HP
  have b1 := HB1.out.cell 1
  have f1 := HB1.out.frozen 1
  go_upto_region 8 with fail
  have hCs := (Chg.refl (Only co) w1).setOwn 1 (.int .i64 1)
  have HB2 := Lib.hid (HB1.out.set_ 1 (.int .i64 1))
  generalize w1.setCell ⟨co, 1, none⟩ (.int .i64 1) = W2 at *
  have HC2 : Hid (Chg (fun j => j = co ∨ j = om) w W2) := Lib.hid ((Chg.of_no hC).trans (hCs.mono fun j _ hj => .inl hj))
  have B2 := B1.chg hCs (by show w.heap.size ≠ co; omega)
  have HM2 : Hid (W2.heap[om]? = some (.map #[] 0)) := Lib.hid ((hCs.block _ (map_lt' HM1.out) (fun h => hco h.symm)).trans HM1.out)
  have HP2 : Hid (Rd W2 A (vlsD sA.vals) (.slice p1 sA.vals.length c1)) := Lib.hid (HP1.out.chg hCs fun j hj _ h => (HA.out j hj).1 h)
  have hz2 := Nat.le_trans hz1 hCs.size
  clear hCs hC B1 HB1 HM1 HP1 b1 f1
  obtain ⟨d0, d1, d2, d3, d4, d5, d6, d7, d8⟩ := cells9 B2
  go_wp2_with fail
  refine (ccopied_one one_A HP2.out).mono ?_
  rintro e w3_ ⟨⟨p3, rfl, hp3⟩, hC3⟩
  obtain ⟨q3, k3, rfl, _⟩ := vls_form hp3
  have HB3 := Lib.hid (HB2.out.st hC3)
  have HM3 : Hid (w3_.heap[om]? = some (.map #[] 0)) := Lib.hid ((hC3.block _ (map_lt' HM2.out) id).trans HM2.out)
  have HP3 := Lib.hid hp3
  have HC3 := Lib.hid (HC2.out.st hC3)
  replace B2 := B2.st hC3
  have HPo := Lib.hid ((HP2.out.st hC3).old)
  have hz3 := Nat.le_trans hz2 hC3.size
  clear d0 d1 d2 d3 d4 d5 d6 d7 d8 hp3 hC3 HB2 HM2 HP2 HC2
  go_wp2_with fail
  refine (qnew_any 1 _).mono ?_
  rintro e w4 ⟨rfl, hw4⟩
  subst hw4
  go_upto_region 9 with fail
  have hE : ((((((((((((Tryz.zeroCells143.setIfInBounds 0 (.string k)).setIfInBounds 1 (.bool true)).setIfInBounds 2 (.int .i64 (sA.seen 0))).setIfInBounds 3 (.int .i64 (sA.seen 1))).setIfInBounds 4 (.int .i64 (sA.seen 2))).setIfInBounds 5 (.int .i64 (sA.seen 3))).setIfInBounds 6 (.int .i64 (sA.seen 4))).setIfInBounds 7 (.int .i64 (sA.seen 5))).setIfInBounds 8 (.int .i64 (sA.seen 6))).setIfInBounds 9 (.int .i64 (sA.seen 7))).setIfInBounds 10 (.slice q3 sA.vals.length k3)).setIfInBounds 11 (.pointer (some ⟨w3_.heap.size, 0, none⟩))) = opc k sA (.slice q3 sA.vals.length k3) w3_.heap.size := by
    unfold Tryz.zeroCells143
    simp only [List.append_eq, List.cons_append, List.nil_append, List.setIfInBounds_toArray, List.set_cons_zero, List.set_cons_succ]
  rw [hE]
  have hCa : Chg NoB w3_ ((w3_.alloc (.cells (qmc 1 false) 299)).alloc (.cells (opc k sA (.slice q3 sA.vals.length k3) w3_.heap.size) 143)) := (Chg.al w3_ _).trans (Chg.al _ _)
  have HBq := Lib.hid ((Blk.new w3_ 299 (qmc 1 false)).alloc (.cells (opc k sA (.slice q3 sA.vals.length k3) w3_.heap.size) 143))
  have HBo := Lib.hid (Blk.new_ (k := w3_.heap.size + 1) (w3_.alloc (.cells (qmc 1 false) 299)) 143 (opc k sA (.slice q3 sA.vals.length k3) w3_.heap.size) (by simp))
  generalize ((w3_.alloc (Obj.cells _ 299)).alloc (Obj.cells _ 143)) = W4 at *
  have HB4 := Lib.hid (HB3.out.st hCa)
  have HM4 : Hid (W4.heap[om]? = some (.map #[] 0)) := Lib.hid ((hCa.block _ (map_lt' HM3.out) id).trans HM3.out)
  have HP4 := Lib.hid (HP3.out.old.st hCa)
  have HC4 := Lib.hid (HC3.out.st hCa)
  replace B2 := B2.st hCa
  have HPo4 := Lib.hid (HPo.out.st hCa)
  have hz4 := Nat.le_trans hz3 hCa.size
  have hput := mput_none (P := Tryz.prog) (t := 131) (key := .int .i64 1) (val := .pointer (some ⟨w3_.heap.size + 1, 0, none⟩)) Tryz.underlying131 Tryz.underlying2 rfl (show W4.drew.heap[om]? = _ from HM4.out)
  clear hCa HB3 HM3 HP3 HC3 HPo hE
  refine start_ (n := 10) (S := fun w' => w'.cell? ⟨co, 1, none⟩ = some (.int .i64 1) ∧ w'.cell? ⟨co, 2, none⟩ = some (.map (some om))) (ds := [9]) #[false, false, false, false, false, false, false, false, false, false] (by kernel_rfl) rfl rfl ⟨(HB4.out.drew.cell 1), (HB4.out.drew.cell 2)⟩ (fun hHeld => ?_)
  refine pure_ (i := 0) (N := some 46) (v := ?_) (a' := ?_) #[true, false, false, false, false, false, false, false, false, false] rfl rfl (by kernel_rfl) (fun _ _ _ h => h) (Or.inl ⟨by rfl, ?_⟩) ?_ ?_
  rotate_left
  · intro w'
    go_simp
    with_reducible rfl
  rotate_left
  · simp only [Act.put, List.setIfInBounds_toArray, List.set_cons_zero, List.set_cons_succ]
    rfl
  refine pure_ (i := 1) (N := some 47) (v := ?_) (a' := ?_) #[true, true, false, false, false, false, false, false, false, false] rfl rfl (by kernel_rfl) (fun _ _ _ h => h) (Or.inl ⟨by rfl, ?_⟩) ?_ ?_
  rotate_left
  · intro w'
    go_simp
    with_reducible rfl
  rotate_left
  · simp only [Act.put, List.setIfInBounds_toArray, List.set_cons_zero, List.set_cons_succ]
    rfl
  refine pure_ (i := 2) (N := some 48) (v := ?_) (a' := ?_) #[true, true, true, false, false, false, false, false, false, false] rfl rfl (by kernel_rfl) (fun _ _ _ h => h) (Or.inl ⟨by rfl, ?_⟩) ?_ ?_
  rotate_left
  · intro w'
    go_simp
    with_reducible rfl
  rotate_left
  · simp only [Act.put, List.setIfInBounds_toArray, List.set_cons_zero, List.set_cons_succ]
    rfl
  refine pure_ (i := 4) (N := some 50) (v := ?_) (a' := ?_) #[true, true, true, false, true, false, false, false, false, false] rfl rfl (by kernel_rfl) (fun _ _ _ h => h) (Or.inl ⟨by rfl, ?_⟩) ?_ ?_
  rotate_left
  · intro w'
    go_simp
    with_reducible rfl
  rotate_left
  · simp only [Act.put, List.setIfInBounds_toArray, List.set_cons_zero, List.set_cons_succ]
    rfl
  refine pure_ (i := 5) (N := some 51) (v := ?_) (a' := ?_) #[true, true, true, false, true, true, false, false, false, false] rfl rfl (by kernel_rfl) (fun _ _ _ h => h) (Or.inl ⟨by rfl, ?_⟩) ?_ ?_
  rotate_left
  · intro w'
    go_simp
    with_reducible rfl
  rotate_left
  · simp only [Act.put, List.setIfInBounds_toArray, List.set_cons_zero, List.set_cons_succ]
    rfl
  refine pure_ (i := 6) (N := some 52) (v := ?_) (a' := ?_) #[true, true, true, false, true, true, true, false, false, false] rfl rfl (by kernel_rfl) (fun _ _ _ h => h) (Or.inl ⟨by rfl, ?_⟩) ?_ ?_
  rotate_left
  · intro w'
    go_simp
    with_reducible rfl
  rotate_left
  · simp only [Act.put, List.setIfInBounds_toArray, List.set_cons_zero, List.set_cons_succ]
    rfl
  refine pure_ (i := 8) (N := some 54) (v := ?_) (a' := ?_) #[true, true, true, false, true, true, true, false, true, false] rfl rfl (by kernel_rfl) (fun _ _ _ h => h) (Or.inl ⟨by rfl, ?_⟩) ?_ ?_
  rotate_left
  · intro w'
    go_simp
    with_reducible rfl
  rotate_left
  · simp only [Act.put, List.setIfInBounds_toArray, List.set_cons_zero, List.set_cons_succ]
    rfl
  refine take_ (i := 3) (N := some 49) (v := ?_) (a' := ?_) #[true, true, true, true, true, true, true, false, true, false] rfl rfl (by kernel_rfl) (fun _ _ _ h => h) (Or.inl ⟨by rfl, ?_⟩) hHeld ?_ ?_
  rotate_left
  · rintro w' ⟨s0, s1⟩
    go_simp
    with_reducible rfl
  rotate_left
  · simp only [Act.put, List.setIfInBounds_toArray, List.set_cons_zero, List.set_cons_succ]
    rfl
  refine take_ (i := 7) (N := some 53) (v := ?_) (a' := ?_) #[true, true, true, true, true, true, true, true, true, false] rfl rfl (by kernel_rfl) (fun _ _ _ h => h) (Or.inl ⟨by rfl, ?_⟩) hHeld ?_ ?_
  rotate_left
  · rintro w' ⟨s0, s1⟩
    go_simp
    with_reducible rfl
  rotate_left
  · simp only [Act.put, List.setIfInBounds_toArray, List.set_cons_zero, List.set_cons_succ]
    rfl
  refine last_ (i := 9) (N := none) #[true, true, true, true, true, true, true, true, true, true] rfl rfl (by kernel_rfl) (by decide) (fun K hK => ?_)
  refine skip_ (w1 := ?_) (by rfl) rfl ?_ ?_
  rotate_left
  · go_simp
    rfl
  refine hK.out _ _ ?_
  clear hK K
  refine done_ (by kernel_rfl) ?_
  have hCs : Chg (Only om) W4 (setObj_ W4.drew om (.map #[{ key := .int .i64 1, val := .pointer (some ⟨w3_.heap.size + 1, 0, none⟩), born := 0 }] (0 + 1))) := (Chg.of_no (Chg.dr W4)).trans (setObj_chg W4.drew om _)
  have hM5 := setObj_at (w := W4.drew) (b := om) (o' := .map #[{ key := .int .i64 1, val := .pointer (some ⟨w3_.heap.size + 1, 0, none⟩), born := 0 }] (0 + 1)) HM4.out
  generalize setObj_ W4.drew om _ = W5 at *
  have HM5 := Lib.hid hM5
  have HB5 := Lib.hid (HB4.out.chg hCs hco)
  have HBq5 := Lib.hid (HBq.out.chg hCs (by show w3_.heap.size ≠ om; omega))
  have HBo5 := Lib.hid (HBo.out.chg hCs (by show w3_.heap.size + 1 ≠ om; omega))
  have HC5 : Hid (Chg (fun j => j = co ∨ j = om) w W5) := Lib.hid (HC4.out.trans (hCs.mono fun j _ hj => .inr hj))
  have HP5 := Lib.hid (HP4.out.chg hCs fun j hj _ h => by
    have h1 : W2.heap.size ≤ j := hj.1
    have h2 : j = om := h
    omega)
  have B5 := B2.chg hCs (by show w.heap.size ≠ om; omega)
  have HPo5 := Lib.hid (HPo4.out.chg hCs fun j hj _ h => (HA.out j hj.1).2 h)
  have hz5 := Nat.le_trans hz4 hCs.size
  clear hput hM5 hCs HB4 HM4 HBq HBo HC4 HP4 HPo4 B2
  have o11 := HBo5.out.cell 11
  go_wp2_with fail
  refine (qadd_one HBq5.out).mono ?_
  rintro e w6 ⟨⟨vq, rfl⟩, hC6⟩
  clear o11
  have HB6 := Lib.hid (HB5.out.chg hC6 (by show co ≠ w3_.heap.size; omega))
  have HM6 : Hid (w6.heap[om]? = _) := Lib.hid ((hC6.block om (map_lt' HM5.out) (by show om ≠ w3_.heap.size; omega)).trans HM5.out)
  have HBo6 := Lib.hid (HBo5.out.chg hC6 (by show w3_.heap.size + 1 ≠ w3_.heap.size; omega))
  have HC6 : Hid (Chg (fun j => j = co ∨ j = om) w w6) := Lib.hid (HC5.out.then_ hC6 fun j hj h => by
    have h2 : j = w3_.heap.size := h
    omega)
  have HP6 := Lib.hid (HP5.out.chg hC6 fun j hj _ h => by
    have h1 := hj.2
    have h2 : j = w3_.heap.size := h
    omega)
  have B6 := Lib.hid (B5.chg hC6 (by show w.heap.size ≠ w3_.heap.size; omega))
  have HPo6 := Lib.hid (HPo5.out.chg hC6 fun j hj _ h => by
    have h1 := hj.2
    have h2 : j = w3_.heap.size := h
    omega)
  have hz6 := Nat.le_trans hz5 hC6.size
  have HBd := Lib.hid (HBo6.out.drew)
  have HCP := Lib.hid (ccopied_one one_A (HPo6.out.st (Chg.dr w6)))
  clear hC6 HB5 HM5 HBo5 HC5 HP5 HPo5 B5 HBq5
  go_upto_region 12 with fail
  refine start_ (n := 8) (S := fun w' => w'.cell? ⟨w.heap.size, 0, none⟩ = some (.int .i64 (sA.seen 0)) ∧ w'.cell? ⟨w.heap.size, 1, none⟩ = some (.int .i64 (sA.seen 1)) ∧ w'.cell? ⟨w.heap.size, 2, none⟩ = some (.int .i64 (sA.seen 2)) ∧ w'.cell? ⟨w.heap.size, 3, none⟩ = some (.int .i64 (sA.seen 3)) ∧ w'.cell? ⟨w.heap.size, 4, none⟩ = some (.int .i64 (sA.seen 4)) ∧ w'.cell? ⟨w.heap.size, 5, none⟩ = some (.int .i64 (sA.seen 5)) ∧ w'.cell? ⟨w.heap.size, 6, none⟩ = some (.int .i64 (sA.seen 6)) ∧ w'.cell? ⟨w.heap.size, 7, none⟩ = some (.int .i64 (sA.seen 7)) ∧ w'.cell? ⟨w.heap.size, 8, none⟩ = some (.slice p1 sA.vals.length c1)) (ds := [7]) #[false, false, false, false, false, false, false, false] (by kernel_rfl) rfl rfl ⟨(B6.out.drew.cell 0), (B6.out.drew.cell 1), (B6.out.drew.cell 2), (B6.out.drew.cell 3), (B6.out.drew.cell 4), (B6.out.drew.cell 5), (B6.out.drew.cell 6), (B6.out.drew.cell 7), (B6.out.drew.cell 8)⟩ (fun hHeld => ?_)
  refine pure_ (i := 0) (N := some 67) (v := ?_) (a' := ?_) #[true, false, false, false, false, false, false, false] rfl rfl (by kernel_rfl) (fun _ _ _ h => h) (Or.inl ⟨by rfl, ?_⟩) ?_ ?_
  rotate_left
  · intro w'
    go_simp
    with_reducible rfl
  rotate_left
  · simp only [Act.put, List.setIfInBounds_toArray, List.set_cons_zero, List.set_cons_succ]
    rfl
  refine pure_ (i := 1) (N := some 68) (v := ?_) (a' := ?_) #[true, true, false, false, false, false, false, false] rfl rfl (by kernel_rfl) (fun _ _ _ h => h) (Or.inl ⟨by rfl, ?_⟩) ?_ ?_
  rotate_left
  · intro w'
    go_simp
    with_reducible rfl
  rotate_left
  · simp only [Act.put, List.setIfInBounds_toArray, List.set_cons_zero, List.set_cons_succ]
    rfl
  refine pure_ (i := 4) (N := some 71) (v := ?_) (a' := ?_) #[true, true, false, false, true, false, false, false] rfl rfl (by kernel_rfl) (fun _ _ _ h => h) (Or.inl ⟨by rfl, ?_⟩) ?_ ?_
  rotate_left
  · intro w'
    go_simp
    with_reducible rfl
  rotate_left
  · simp only [Act.put, List.setIfInBounds_toArray, List.set_cons_zero, List.set_cons_succ]
    rfl
  refine pure_ (i := 5) (N := some 72) (v := ?_) (a' := ?_) #[true, true, false, false, true, true, false, false] rfl rfl (by kernel_rfl) (fun _ _ _ h => h) (Or.inl ⟨by rfl, ?_⟩) ?_ ?_
  rotate_left
  · intro w'
    go_simp
    with_reducible rfl
  rotate_left
  · simp only [Act.put, List.setIfInBounds_toArray, List.set_cons_zero, List.set_cons_succ]
    rfl
  refine take_ (i := 2) (N := some 69) (v := ?_) (a' := ?_) #[true, true, true, false, true, true, false, false] rfl rfl (by kernel_rfl) (fun _ _ _ h => h) (Or.inl ⟨by rfl, ?_⟩) hHeld ?_ ?_
  rotate_left
  · rintro w' ⟨s0, s1, s2, s3, s4, s5, s6, s7, s8⟩
    go_simp
    with_reducible rfl
  rotate_left
  · simp only [Act.put, List.setIfInBounds_toArray, List.set_cons_zero, List.set_cons_succ]
    rfl
  refine one_ (i := 3) (N := some 70) #[true, true, true, true, true, true, false, false] rfl rfl (by kernel_rfl) (by decide) (fun K hK => ?_)
  refine goes_ Tryz.func110 (by kernel_rfl) rfl #[sbv sA (.slice p1 sA.vals.length c1)] (by rfl) rfl rfl (by simp only [List.map_toArray, List.map_cons, List.map_nil]; rfl) ?_
  with_reducible refine (HCP.out).mono ?_
  rintro e w7 ⟨⟨p7, rfl, hp7⟩, hC7⟩
  refine ⟨_, rfl, ?_⟩
  obtain ⟨q7, k7, rfl, _⟩ := vls_form hp7
  have HC7 := Lib.hid hC7
  have HBo7 := Lib.hid (HBd.out.st hC7)
  have B7 := Lib.hid (B6.out.drew.st hC7)
  clear hp7 hC7
  have o12 := HBo7.out.cell 12
  have o13 := HBo7.out.cell 13
  have o14 := HBo7.out.cell 14
  have o15 := HBo7.out.cell 15
  have o16 := HBo7.out.cell 16
  have o17 := HBo7.out.cell 17
  have o18 := HBo7.out.cell 18
  have o19 := HBo7.out.cell 19
  have o20 := HBo7.out.cell 20
  have z12 := HBo7.out.frozen 12
  have z13 := HBo7.out.frozen 13
  have z14 := HBo7.out.frozen 14
  have z15 := HBo7.out.frozen 15
  have z16 := HBo7.out.frozen 16
  have z17 := HBo7.out.frozen 17
  have z18 := HBo7.out.frozen 18
  have z19 := HBo7.out.frozen 19
  have z20 := HBo7.out.frozen 20
  refine hK.out _ _ ⟨(B7.out.cell 0), (B7.out.cell 1), (B7.out.cell 2), (B7.out.cell 3), (B7.out.cell 4), (B7.out.cell 5), (B7.out.cell 6), (B7.out.cell 7), (B7.out.cell 8)⟩ (fun hHeld => ?_)
  clear hK K
  refine norm_ (a' := ?_) ?_ ?_
  rotate_left
  · show Act.put _ (some 70) _ = _
    simp only [Act.put, List.setIfInBounds_toArray, List.set_cons_zero, List.set_cons_succ]
    rfl
  refine pure_ (i := 6) (N := some 73) (v := ?_) (a' := ?_) #[true, true, true, true, true, true, true, false] rfl rfl (by kernel_rfl) (fun _ _ _ h => h) (Or.inl ⟨by rfl, ?_⟩) ?_ ?_
  rotate_left
  · intro w'
    go_simp
    with_reducible rfl
  rotate_left
  · simp only [Act.put, List.setIfInBounds_toArray, List.set_cons_zero, List.set_cons_succ]
    rfl
  refine last_ (i := 7) (N := none) #[true, true, true, true, true, true, true, true] rfl rfl (by kernel_rfl) (by decide) (fun K hK => ?_)
  refine skip_ (w1 := ?_) (by rfl) rfl ?_ ?_
  rotate_left
  · go_simp
    rfl
  refine hK.out _ _ ?_
  clear hK K
  refine done_ (by kernel_rfl) ?_
  clear o12 o13 o14 o15 o16 o17 o18 o19 o20 z12 z13 z14 z15 z16 z17 z18 z19 z20
  have hO := ((((((((((Chg.refl (Only (w3_.heap.size + 1)) w7).setOwn 12 (Value.int .i64 (sA.seen 0))).setOwn 13 (Value.int .i64 (sA.seen 1))).setOwn 14 (Value.int .i64 (sA.seen 2))).setOwn 15 (Value.int .i64 (sA.seen 3))).setOwn 16 (Value.int .i64 (sA.seen 4))).setOwn 17 (Value.int .i64 (sA.seen 5))).setOwn 18 (Value.int .i64 (sA.seen 6))).setOwn 19 (Value.int .i64 (sA.seen 7))).setOwn 20 (Value.slice q7 sA.vals.length k7))
  have h2 := keep12 (HBo7.out.cell 2) (by omega) (Value.int .i64 (sA.seen 0)) (Value.int .i64 (sA.seen 1)) (Value.int .i64 (sA.seen 2)) (Value.int .i64 (sA.seen 3)) (Value.int .i64 (sA.seen 4)) (Value.int .i64 (sA.seen 5)) (Value.int .i64 (sA.seen 6)) (Value.int .i64 (sA.seen 7)) (Value.slice q7 sA.vals.length k7)
  have h3 := keep12 (HBo7.out.cell 3) (by omega) (Value.int .i64 (sA.seen 0)) (Value.int .i64 (sA.seen 1)) (Value.int .i64 (sA.seen 2)) (Value.int .i64 (sA.seen 3)) (Value.int .i64 (sA.seen 4)) (Value.int .i64 (sA.seen 5)) (Value.int .i64 (sA.seen 6)) (Value.int .i64 (sA.seen 7)) (Value.slice q7 sA.vals.length k7)
  have h4 := keep12 (HBo7.out.cell 4) (by omega) (Value.int .i64 (sA.seen 0)) (Value.int .i64 (sA.seen 1)) (Value.int .i64 (sA.seen 2)) (Value.int .i64 (sA.seen 3)) (Value.int .i64 (sA.seen 4)) (Value.int .i64 (sA.seen 5)) (Value.int .i64 (sA.seen 6)) (Value.int .i64 (sA.seen 7)) (Value.slice q7 sA.vals.length k7)
  have h5 := keep12 (HBo7.out.cell 5) (by omega) (Value.int .i64 (sA.seen 0)) (Value.int .i64 (sA.seen 1)) (Value.int .i64 (sA.seen 2)) (Value.int .i64 (sA.seen 3)) (Value.int .i64 (sA.seen 4)) (Value.int .i64 (sA.seen 5)) (Value.int .i64 (sA.seen 6)) (Value.int .i64 (sA.seen 7)) (Value.slice q7 sA.vals.length k7)
  have h6 := keep12 (HBo7.out.cell 6) (by omega) (Value.int .i64 (sA.seen 0)) (Value.int .i64 (sA.seen 1)) (Value.int .i64 (sA.seen 2)) (Value.int .i64 (sA.seen 3)) (Value.int .i64 (sA.seen 4)) (Value.int .i64 (sA.seen 5)) (Value.int .i64 (sA.seen 6)) (Value.int .i64 (sA.seen 7)) (Value.slice q7 sA.vals.length k7)
  have h7 := keep12 (HBo7.out.cell 7) (by omega) (Value.int .i64 (sA.seen 0)) (Value.int .i64 (sA.seen 1)) (Value.int .i64 (sA.seen 2)) (Value.int .i64 (sA.seen 3)) (Value.int .i64 (sA.seen 4)) (Value.int .i64 (sA.seen 5)) (Value.int .i64 (sA.seen 6)) (Value.int .i64 (sA.seen 7)) (Value.slice q7 sA.vals.length k7)
  have h8 := keep12 (HBo7.out.cell 8) (by omega) (Value.int .i64 (sA.seen 0)) (Value.int .i64 (sA.seen 1)) (Value.int .i64 (sA.seen 2)) (Value.int .i64 (sA.seen 3)) (Value.int .i64 (sA.seen 4)) (Value.int .i64 (sA.seen 5)) (Value.int .i64 (sA.seen 6)) (Value.int .i64 (sA.seen 7)) (Value.slice q7 sA.vals.length k7)
  have h9 := keep12 (HBo7.out.cell 9) (by omega) (Value.int .i64 (sA.seen 0)) (Value.int .i64 (sA.seen 1)) (Value.int .i64 (sA.seen 2)) (Value.int .i64 (sA.seen 3)) (Value.int .i64 (sA.seen 4)) (Value.int .i64 (sA.seen 5)) (Value.int .i64 (sA.seen 6)) (Value.int .i64 (sA.seen 7)) (Value.slice q7 sA.vals.length k7)
  have h10 := keep12 (HBo7.out.cell 10) (by omega) (Value.int .i64 (sA.seen 0)) (Value.int .i64 (sA.seen 1)) (Value.int .i64 (sA.seen 2)) (Value.int .i64 (sA.seen 3)) (Value.int .i64 (sA.seen 4)) (Value.int .i64 (sA.seen 5)) (Value.int .i64 (sA.seen 6)) (Value.int .i64 (sA.seen 7)) (Value.slice q7 sA.vals.length k7)
  generalize (((((((((w7.setCell ⟨w3_.heap.size + 1, 12, none⟩ (Value.int .i64 (sA.seen 0))).setCell ⟨w3_.heap.size + 1, 13, none⟩ (Value.int .i64 (sA.seen 1))).setCell ⟨w3_.heap.size + 1, 14, none⟩ (Value.int .i64 (sA.seen 2))).setCell ⟨w3_.heap.size + 1, 15, none⟩ (Value.int .i64 (sA.seen 3))).setCell ⟨w3_.heap.size + 1, 16, none⟩ (Value.int .i64 (sA.seen 4))).setCell ⟨w3_.heap.size + 1, 17, none⟩ (Value.int .i64 (sA.seen 5))).setCell ⟨w3_.heap.size + 1, 18, none⟩ (Value.int .i64 (sA.seen 6))).setCell ⟨w3_.heap.size + 1, 19, none⟩ (Value.int .i64 (sA.seen 7))).setCell ⟨w3_.heap.size + 1, 20, none⟩ (Value.slice q7 sA.vals.length k7)) = W8 at *
  have HB7 := Lib.hid ((HB6.out.drew.st HC7.out).chg hO (by show co ≠ w3_.heap.size + 1; omega))
  have HM8 : Hid (W8.heap[om]? = _) := Lib.hid ((hO.block om (Nat.lt_of_lt_of_le (map_lt' HM6.out) ((Chg.dr w6).trans HC7.out).size) (by show om ≠ w3_.heap.size + 1; omega)).trans ((((Chg.dr w6).trans HC7.out).block om (map_lt' HM6.out) id).trans HM6.out))
  have HC8 : Hid (Chg (fun j => j = co ∨ j = om) w W8) := Lib.hid ((HC6.out.trans (Chg.of_no ((Chg.dr w6).trans HC7.out))).then_ hO fun j hj h => by
    have h2 : j = w3_.heap.size + 1 := h
    omega)
  have HP8 := Lib.hid ((HP6.out.st ((Chg.dr w6).trans HC7.out)).chg hO fun j hj _ h => by
    have h1 := hj.2
    have h2 : j = w3_.heap.size + 1 := h
    omega)
  have hz8 := hO.size
  have hz7 := ((Chg.dr w6).trans HC7.out).size
  have HE := Lib.hid (coEnd_one HB7.out HM8.out (p1 := q3) (c1 := k3) (ob := w3_.heap.size + 1) (fun i hi => by
    rcases (by omega : i = 0 ∨ i = 1 ∨ i = 2 ∨ i = 3 ∨ i = 4 ∨ i = 5 ∨ i = 6 ∨ i = 7 ∨ i = 8) with rfl | rfl | rfl | rfl | rfl | rfl | rfl | rfl | rfl
    · exact h2
    · exact h3
    · exact h4
    · exact h5
    · exact h6
    · exact h7
    · exact h8
    · exact h9
    · exact h10) HP8.out)
  have b1 := HB7.out.cell 1
  clear hO h2 h3 h4 h5 h6 h7 h8 h9 h10
  go_wp2_with fail
  refine HE.out.mono ?_
  rintro e w9 ⟨rfl, ⟨l, a, c, hB, hO⟩, hC9⟩
  have HB9 := Lib.hid hB
  have HO9 := Lib.hid (own_base_ (b2 := w.heap.size) hO fun j hj => by have := (hO.lt j hj).1; omega)
  have HC9 := Lib.hid (HC8.out.trans hC9)
  have b2 := hB.cell 1
  clear hB hO hC9 b1
  go_wp2_with fail
  go_ret2
  exact ⟨rfl, ⟨l, a, c, HB9.out, HO9.out⟩, HC9.out⟩
theorem cwrite_one {co om : Nat} {wt : Int} (hB : Blk w co 133 (coc wt 0 om (.slice none 0 0))) (hM : w.heap[om]? = some (.map #[] 0)) (k : ByteArray) (hk : 1 ≤ k.size ∧ k.size ≤ 32) {p : Value} (hp : Rd w A (vlsD sA.vals) p) (hA : ∀ j, A j → j ≠ co ∧ j ≠ om) :
    Calls Tryz.prog 35 #[.pointer (some ⟨co, 0, none⟩), .int .i64 0, .int .i64 1, .string k, sbv sA p] w fun e w' => e = .returned (.tuple #[.int .i64 1, .int .i64 0]) ∧ (∃ l a c, Blk w' co 133 (coc wt 1 om l) ∧ w'.ownsRow w.heap.size 54 11 l 1 (anc 1 0 sA (.slice a 1 c))) ∧ Chg (fun j => j = co ∨ j = om) w w' := by
  obtain ⟨p1, c1, rfl, _⟩ := vls_form hp
  have lM := map_lt' hM
  have B1 := Blk.new w 52 (sbc sA (.slice p1 sA.vals.length c1))
  have hC := (Chg.refl NoB w).alloc (.cells (sbc sA (.slice p1 sA.vals.length c1)) 52)
  have hz : w.heap.size + 1 ≤ (w.alloc (.cells (sbc sA (.slice p1 sA.vals.length c1)) 52)).heap.size := by simp
  replace hp := hp.st hC
  replace hB := hB.st hC
  replace hM := (hC.block _ lM id).trans hM
  have HG := Lib.hid (begin_one hB hM k hk hp hA)
  have HC := Lib.hid hC
  clear hB hM hp hA hC
  go_enter Tryz.func35, Tryz.ntmps35
  go_upto_region 1 with fail
  generalize w.alloc (Obj.cells _ 52) = W at *
  obtain ⟨d0, d1, d2, d3, d4, d5, d6, d7, d8⟩ := cells9 B1
  go_wp2_with fail
  refine HG.out.mono ?_
  rintro e w1 ⟨rfl, ⟨l, a, c, hB, hO⟩, hC1⟩
  have HE : Hid (∃ l a c, Blk w1 co 133 (coc wt 1 om l) ∧ w1.ownsRow w.heap.size 54 11 l 1 (anc 1 0 sA (.slice a 1 c))) := Lib.hid ⟨l, a, c, hB, own_base_ hO fun j hj => by have := (hO.lt j hj).1; omega⟩
  have HC1 := Lib.hid ((Chg.of_no HC.out).trans hC1)
  clear hB hO hC1
  go_wp2_with fail
  go_ret2
  exact ⟨rfl, HE.out, HC1.out⟩
theorem answers_any {co om : Nat} {wt last : Int} {a : Option Addr} {n c : Nat} (hB : Blk w co 133 (coc wt last om (.slice a n c))) :
    Calls Tryz.prog 40 #[.pointer (some ⟨co, 0, none⟩)] w fun e w' => e = .returned (.slice a n c) ∧ Chg (Only co) w w' := by
  have c3 := hB.cell 3
  have f3 := hB.frozen 3
  have hC := (Chg.refl (Only co) w).setOwn 3 (.slice none 0 0)
  have HC := Lib.hid hC
  clear hB hC
  go_enter Tryz.func40, Tryz.ntmps40
  go_wp2_with fail
  go_ret
  exact ⟨rfl, HC.out⟩
end
end Go.Proofs.YtoefffjhjmjhfaaGreat
