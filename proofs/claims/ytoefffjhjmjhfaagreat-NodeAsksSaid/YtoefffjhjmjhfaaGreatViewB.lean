/- Package view: what a node holds of all nodes, asked and turned. No statement is proved here. -/
import Derived.Test.YtoefffjhjmjhfaaGreatView
import Derived.Test.YtoefffjhjmjhfaaGreatWEqStruct
namespace Go.Proofs.YtoefffjhjmjhfaaGreat
open Go.RowKit Go.Proofs.YtoefffjhjmjhfaaGreatW.PrintLast
attribute [local irreducible] wpQuiet
set_option maxRecDepth 100000

theorem eq_mem'' (a0 a1 b0 b1 : Int) (w : World) : (Op.equalIn 10000 147 (.agg #[.int .i64 a0, .int .i64 a1]) (.agg #[.int .i64 b0, .int .i64 b1])).run Tryz.prog w = .ok (a0 == b0 && a1 == b1) w := by
  refine YtoefffjhjmjhfaaGreatW.PrintWords.eqA_of Tryz.underlying147 (by kernel_rfl) ?_
  exact YtoefffjhjmjhfaaGreatW.PrintWords.eqf_cons rfl (by kernel_rfl) (by kernel_rfl) (run_equalIn_int w 9998 3 .i64 .i64 a0 b0 Tryz.underlying3) (YtoefffjhjmjhfaaGreatW.PrintWords.eqf_last rfl (by kernel_rfl) (by kernel_rfl) (run_equalIn_int w 9998 2 .i64 .i64 a1 b1 Tryz.underlying2))
attribute [local go_sem high] eq_mem''
/-- The blocks that a turn of a view may write. -/
abbrev Vf (b1 b2 b3 : Nat) : Nat → Prop := fun k => k = b1 ∨ k = b2 ∨ k = b3
theorem mbc_at (l : List (Int × Int)) {k : Nat} (h : k < l.length) : (mbc l)[k * 2]? = some (.int .i64 l[k].1) ∧ (mbc l)[k * 2 + 1]? = some (.int .i64 l[k].2) := by
  have key : ∀ (l : List (Int × Int)) (k : Nat) (h : k < l.length), (l.flatMap i2)[k * 2]? = some (.int .i64 l[k].1) ∧ (l.flatMap i2)[k * 2 + 1]? = some (.int .i64 l[k].2) := by
    intro l
    induction l with
    | nil => intro k h; simp at h
    | cons x l ih =>
      intro k h
      cases k with
      | zero => simp
      | succ k =>
        have := ih k (by simpa using h)
        rw [List.flatMap_cons, Nat.succ_mul]
        simpa [List.getElem?_append_right] using this
  have := key l k h
  simpa using this
theorem inc_at (l : List Int) {k : Nat} (h : k < l.length) : (inc l)[k]? = some (.int .i64 l[k]) := by simp [inc, h]
theorem mbc_set (l : List (Int × Int)) {k : Nat} (h : k < l.length) (a b : Int) : ((mbc l).setIfInBounds (k * 2) (.int .i64 a)).setIfInBounds (k * 2 + 1) (.int .i64 b) = mbc (l.set k (a, b)) := by
  have key : ∀ (l : List (Int × Int)) (k : Nat) (h : k < l.length), ((l.flatMap i2).set (k * 2) (.int .i64 a)).set (k * 2 + 1) (.int .i64 b) = (l.set k (a, b)).flatMap i2 := by
    intro l
    induction l with
    | nil => intro k h; simp at h
    | cons x l ih =>
      intro k h
      cases k with
      | zero => simp
      | succ k =>
        have := ih k (by simpa using h)
        rw [List.set_cons_succ, List.flatMap_cons, List.flatMap_cons, ← this, Nat.succ_mul]
        rw [List.set_append_right _ _ (by simp), List.set_append_right _ _ (by simp)]
        congr 2
  apply Array.ext'
  simpa using key l k h
theorem inc_set (l : List Int) (k : Nat) (a : Int) : (inc l).setIfInBounds k (.int .i64 a) = inc (l.set k a) := by
  apply Array.ext'
  simp [inc, List.map_set]
section
variable {w w' : World} {v b1 b2 b3 n : Nat} {me : Int}
theorem VB.vcells (h : VB w v b1 b2 b3 n me) : w.cell? ⟨v, 0, none⟩ = some (.int .i64 me) ∧ w.cell? ⟨v, 1, none⟩ = some (.slice (some ⟨b1, 0, none⟩) n n) ∧ w.cell? ⟨v, 2, none⟩ = some (.slice (some ⟨b2, 0, none⟩) n n) ∧ w.cell? ⟨v, 3, none⟩ = some (.slice (some ⟨b3, 0, none⟩) n n) := ⟨h.blk.cell 0, h.blk.cell 1, h.blk.cell 2, h.blk.cell 3⟩
theorem VB.mcell (h : VB w v b1 b2 b3 n me) {k : Nat} (hk : k < n) : ∃ x y : Int, w.cell? ⟨b1, k * 2, none⟩ = some (.int .i64 x) ∧ w.cell? ⟨b1, k * 2 + 1, none⟩ = some (.int .i64 y) := by
  obtain ⟨l, hl, hB⟩ := h.m
  exact ⟨_, _, (hB.cell _).trans (mbc_at l (by omega)).1, (hB.cell _).trans (mbc_at l (by omega)).2⟩
theorem VB.acell (h : VB w v b1 b2 b3 n me) {k : Nat} (hk : k < n) : ∃ x : Int, w.cell? ⟨b2, k, none⟩ = some (.int .i64 x) := by
  obtain ⟨l, hl, hB⟩ := h.a
  exact ⟨_, (hB.cell _).trans (inc_at l (by omega))⟩
theorem VB.scell (h : VB w v b1 b2 b3 n me) {k : Nat} (hk : k < n) : ∃ x : Int, w.cell? ⟨b3, k, none⟩ = some (.int .i64 x) := by
  obtain ⟨l, hl, hB⟩ := h.s
  exact ⟨_, (hB.cell _).trans (inc_at l (by omega))⟩
theorem VB.frz (h : VB w v b1 b2 b3 n me) (k : Nat) : w.frozen? ⟨b1, k, none⟩ = false ∧ w.frozen? ⟨b2, k, none⟩ = false ∧ w.frozen? ⟨b3, k, none⟩ = false := by
  obtain ⟨_, _, h1⟩ := h.m
  obtain ⟨_, _, h2⟩ := h.a
  obtain ⟨_, _, h3⟩ := h.s
  exact ⟨h1.frozen k, h2.frozen k, h3.frozen k⟩
theorem VB.set_a (h : VB w v b1 b2 b3 n me) {k : Nat} (x : Int) : VB (w.setCell ⟨b2, k, none⟩ (.int .i64 x)) v b1 b2 b3 n me := by
  obtain ⟨hb, ⟨l1, e1, k1⟩, ⟨l2, e2, k2⟩, ⟨l3, e3, k3⟩, n1, n2, n3, n4, n5, n6⟩ := h
  exact ⟨hb.far n2 _, ⟨l1, e1, k1.far n4 _⟩, ⟨l2.set k x, by simpa using e2, by rw [← inc_set]; exact k2.set_ k _⟩, ⟨l3, e3, k3.far (fun e => n6 e.symm) _⟩, n1, n2, n3, n4, n5, n6⟩
theorem VB.set_s (h : VB w v b1 b2 b3 n me) {k : Nat} (x : Int) : VB (w.setCell ⟨b3, k, none⟩ (.int .i64 x)) v b1 b2 b3 n me := by
  obtain ⟨hb, ⟨l1, e1, k1⟩, ⟨l2, e2, k2⟩, ⟨l3, e3, k3⟩, n1, n2, n3, n4, n5, n6⟩ := h
  exact ⟨hb.far n3 _, ⟨l1, e1, k1.far n5 _⟩, ⟨l2, e2, k2.far n6 _⟩, ⟨l3.set k x, by simpa using e3, by rw [← inc_set]; exact k3.set_ k _⟩, n1, n2, n3, n4, n5, n6⟩
theorem VB.set_m (h : VB w v b1 b2 b3 n me) {k : Nat} (hk : k < n) (x y : Int) : VB ((w.setCell ⟨b1, k * 2, none⟩ (.int .i64 x)).setCell ⟨b1, k * 2 + 1, none⟩ (.int .i64 y)) v b1 b2 b3 n me := by
  obtain ⟨hb, ⟨l1, e1, k1⟩, ⟨l2, e2, k2⟩, ⟨l3, e3, k3⟩, n1, n2, n3, n4, n5, n6⟩ := h
  exact ⟨(hb.far n1 _).far n1 _, ⟨l1.set k (x, y), by simpa using e1, by rw [← mbc_set l1 (by omega)]; exact (k1.set_ (k * 2) _).set_ (k * 2 + 1) _⟩, ⟨l2, e2, (k2.far (fun e => n4 e.symm) _).far (fun e => n4 e.symm) _⟩, ⟨l3, e3, (k3.far (fun e => n5 e.symm) _).far (fun e => n5 e.symm) _⟩, n1, n2, n3, n4, n5, n6⟩
theorem vis_yes (h : VB w v b1 b2 b3 n me) {k : Nat} (hk : k < n) : Calls Tryz.prog 89 #[.pointer (some ⟨v, 0, none⟩), .int .i64 k] w fun e w' => e = .returned (.bool true) ∧ w' = w := by
  obtain ⟨c0, c1, c2, c3⟩ := h.vcells
  have hd1 : decide ((k : Int) < (n : Int)) = true := by simp; omega
  have hd2 : decide ((k : Int) ≥ 0) = true := by simp
  clear h
  go_enter Tryz.func89, Tryz.ntmps89
  go_wp2
  go_ret
  exact ⟨rfl, rfl⟩
theorem vmissed_any (h : VB w v b1 b2 b3 n me) {k : Nat} (hk : k < n) : Calls Tryz.prog 57 #[.pointer (some ⟨v, 0, none⟩), .int .i64 k] w fun e w' => (∃ x : Int, e = .returned (.int .i64 x)) ∧ w' = w := by
  obtain ⟨c0, c1, c2, c3⟩ := h.vcells
  obtain ⟨x, hx⟩ := h.scell hk
  have hk3 : (k : Int) < (n : Int) := by omega
  have HV := Lib.hid h
  clear h
  go_enter Tryz.func57, Tryz.ntmps57
  go_wp2_with fail
  refine (vis_yes HV.out hk).mono ?_
  rintro e w1 ⟨rfl, rfl⟩
  go_wp2_with fail
  go_ret
  exact ⟨⟨x, rfl⟩, rfl⟩
theorem vasked_any (h : VB w v b1 b2 b3 n me) {k : Nat} (hk : k < n) : Calls Tryz.prog 59 #[.pointer (some ⟨v, 0, none⟩), .int .i64 k] w fun e w' => e = .returned (.tuple #[]) ∧ VB w' v b1 b2 b3 n me ∧ Chg (Vf b1 b2 b3) w w' := by
  obtain ⟨c0, c1, c2, c3⟩ := h.vcells
  obtain ⟨x, hx⟩ := h.scell hk
  obtain ⟨_, _, f3⟩ := h.frz k
  have hk3 : (k : Int) < (n : Int) := by omega
  have HV := Lib.hid h
  clear h
  obtain ⟨y, hy⟩ : ∃ y, ((k : Int) != me) = y := ⟨_, rfl⟩
  go_enter Tryz.func59, Tryz.ntmps59
  go_wp2_with fail
  refine (vis_yes HV.out hk).mono ?_
  rintro e w1 ⟨rfl, rfl⟩
  cases y with
  | false =>
    go_wp2_with fail
    go_end0
    exact ⟨rfl, HV.out, Chg.refl _ _⟩
  | true =>
    go_wp2_with fail
    go_end0
    exact ⟨rfl, HV.out.set_s _, (Chg.refl (Vf b1 b2 b3) w1).setCell (p := ⟨b3, k, none⟩) (.inl (.inr (.inr rfl))) _⟩
theorem vother_any (h : VB w v b1 b2 b3 n me) {k : Nat} (hk : k < n) (st : Int) : Calls Tryz.prog 52 #[.pointer (some ⟨v, 0, none⟩), .int .i64 k, .int .i64 st] w fun e w' => (∃ b : Bool, e = .returned (.bool b)) ∧ w' = w := by
  obtain ⟨c0, c1, c2, c3⟩ := h.vcells
  obtain ⟨x, y, hx, hy⟩ := h.mcell hk
  have hk3 : (k : Int) < (n : Int) := by omega
  have HV := Lib.hid h
  clear h
  obtain ⟨z, hz⟩ : ∃ z, ((k : Int) != me) = z := ⟨_, rfl⟩
  obtain ⟨u, hu⟩ : ∃ u, (x == st) = u := ⟨_, rfl⟩
  cases z <;> cases u
  all_goals
    go_enter Tryz.func52, Tryz.ntmps52
    go_wp2_with fail
    refine (vis_yes HV.out hk).mono ?_
    rintro e w1 ⟨rfl, rfl⟩
    go_wp2_with fail
    go_ret
    exact ⟨⟨_, rfl⟩, rfl⟩
set_option maxHeartbeats 1000000 in
theorem vset_any (h : VB w v b1 b2 b3 n me) {k : Nat} (hk : k < n) (p q : Int) : Calls Tryz.prog 53 #[.pointer (some ⟨v, 0, none⟩), .int .i64 k, .agg #[.int .i64 p, .int .i64 q]] w fun e w' => (∃ b : Bool, e = .returned (.bool b)) ∧ VB w' v b1 b2 b3 n me ∧ Chg (Vf b1 b2 b3) w w' := by
  have hk3 : (k : Int) < (n : Int) := by omega
  have HV := Lib.hid h
  clear h
  go_enter Tryz.func53, Tryz.ntmps53
  go_upto_region 1 with fail
  have hC := Chg.al w (.cells #[.int .i64 p, .int .i64 q] 147)
  have HB := Lib.hid (Blk.new w 147 #[.int .i64 p, .int .i64 q])
  have HV1 := Lib.hid (HV.out.st hC)
  have HC := Lib.hid hC
  clear hC HV
  generalize w.alloc (Obj.cells _ 147) = W at *
  obtain ⟨x, y, hx, hy⟩ := HV1.out.mcell hk
  have HM : Hid (∀ w', Chg NoB W w' → w'.cell? ⟨b1, k * 2, none⟩ = some (.int .i64 x) ∧ w'.cell? ⟨b1, k * 2 + 1, none⟩ = some (.int .i64 y)) := Lib.hid fun w' hC => by
    obtain ⟨l, hl, hB⟩ := HV1.out.m
    have h1 := hB.lt
    exact ⟨(hC.cell (p := ⟨b1, k * 2, none⟩) h1 id).trans hx, (hC.cell (p := ⟨b1, k * 2 + 1, none⟩) h1 id).trans hy⟩
  obtain ⟨z, hz⟩ : ∃ z, (x == p && y == q) = z := ⟨_, rfl⟩
  clear hx hy
  cases z with
  | true =>
    refine q_start (by kernel_rfl) (by kernel_rfl) ?_
    refine q_on (v := ?_) (by rfl) ?_ ?_
    rotate_left
    · intro w' hC
      go_simp
      with_reducible rfl
    rotate_left
    refine q_norm (a' := ?_) ?_ ?_
    rotate_left
    · show Act.put _ (some 7) _ = _
      simp only [Act.put, List.setIfInBounds_toArray, List.set_cons_zero, List.set_cons_succ]
      rfl
    refine q_on (v := ?_) (by rfl) ?_ ?_
    rotate_left
    · intro w' hC
      go_simp
      with_reducible rfl
    rotate_left
    refine q_norm (a' := ?_) ?_ ?_
    rotate_left
    · show Act.put _ (some 8) _ = _
      simp only [Act.put, List.setIfInBounds_toArray, List.set_cons_zero, List.set_cons_succ]
      rfl
    refine q_on (v := ?_) (by rfl) ?_ ?_
    rotate_left
    · intro w' hC
      go_simp
      with_reducible rfl
    rotate_left
    refine q_norm (a' := ?_) ?_ ?_
    rotate_left
    · show Act.put _ (some 9) _ = _
      simp only [Act.put, List.setIfInBounds_toArray, List.set_cons_zero, List.set_cons_succ]
      rfl
    refine q_on (v := ?_) (by rfl) ?_ ?_
    rotate_left
    · intro w' hC
      obtain ⟨_, k1, _, _⟩ := (HV1.out.st hC).vcells
      go_simp
      with_reducible rfl
    rotate_left
    refine q_norm (a' := ?_) ?_ ?_
    rotate_left
    · show Act.put _ (some 10) _ = _
      simp only [Act.put, List.setIfInBounds_toArray, List.set_cons_zero, List.set_cons_succ]
      rfl
    refine q_on (v := ?_) (by rfl) ?_ ?_
    rotate_left
    · intro w' hC
      go_simp
      with_reducible rfl
    rotate_left
    refine q_norm (a' := ?_) ?_ ?_
    rotate_left
    · show Act.put _ (some 11) _ = _
      simp only [Act.put, List.setIfInBounds_toArray, List.set_cons_zero, List.set_cons_succ]
      rfl
    refine q_on (v := ?_) (by rfl) ?_ ?_
    rotate_left
    · intro w' hC
      go_simp
      with_reducible rfl
    rotate_left
    refine q_norm (a' := ?_) ?_ ?_
    rotate_left
    · show Act.put _ (some 12) _ = _
      simp only [Act.put, List.setIfInBounds_toArray, List.set_cons_zero, List.set_cons_succ]
      rfl
    refine q_on (v := ?_) (by rfl) ?_ ?_
    rotate_left
    · intro w' hC
      obtain ⟨k0, k1⟩ := HM.out w' hC
      go_simp
      with_reducible rfl
    rotate_left
    refine q_norm (a' := ?_) ?_ ?_
    rotate_left
    · show Act.put _ (some 13) _ = _
      simp only [Act.put, List.setIfInBounds_toArray, List.set_cons_zero, List.set_cons_succ]
      rfl
    refine q_on (v := ?_) (by rfl) ?_ ?_
    rotate_left
    · intro w' hC
      have k0 := (HB.out.st hC).cell 0
      have k1 := (HB.out.st hC).cell 1
      go_simp
      with_reducible rfl
    rotate_left
    refine q_norm (a' := ?_) ?_ ?_
    rotate_left
    · show Act.put _ (some 14) _ = _
      simp only [Act.put, List.setIfInBounds_toArray, List.set_cons_zero, List.set_cons_succ]
      rfl
    refine q_on (v := ?_) (by rfl) ?_ ?_
    rotate_left
    · intro w' hC
      go_simp
      with_reducible rfl
    rotate_left
    refine q_norm (a' := ?_) ?_ ?_
    rotate_left
    · show Act.put _ (some 15) _ = _
      simp only [Act.put, List.setIfInBounds_toArray, List.set_cons_zero, List.set_cons_succ]
      rfl
    refine wpQuiet_nil ?_
    intro w' hC
    go_wp2_with fail
    go_ret
    exact ⟨⟨_, rfl⟩, HV1.out.st hC, (HC.out.trans hC).of_no⟩
  | false =>
    refine q_start (by kernel_rfl) (by kernel_rfl) ?_
    refine q_on (v := ?_) (by rfl) ?_ ?_
    rotate_left
    · intro w' hC
      go_simp
      with_reducible rfl
    rotate_left
    refine q_norm (a' := ?_) ?_ ?_
    rotate_left
    · show Act.put _ (some 7) _ = _
      simp only [Act.put, List.setIfInBounds_toArray, List.set_cons_zero, List.set_cons_succ]
      rfl
    refine q_on (v := ?_) (by rfl) ?_ ?_
    rotate_left
    · intro w' hC
      go_simp
      with_reducible rfl
    rotate_left
    refine q_norm (a' := ?_) ?_ ?_
    rotate_left
    · show Act.put _ (some 8) _ = _
      simp only [Act.put, List.setIfInBounds_toArray, List.set_cons_zero, List.set_cons_succ]
      rfl
    refine q_on (v := ?_) (by rfl) ?_ ?_
    rotate_left
    · intro w' hC
      go_simp
      with_reducible rfl
    rotate_left
    refine q_norm (a' := ?_) ?_ ?_
    rotate_left
    · show Act.put _ (some 9) _ = _
      simp only [Act.put, List.setIfInBounds_toArray, List.set_cons_zero, List.set_cons_succ]
      rfl
    refine q_on (v := ?_) (by rfl) ?_ ?_
    rotate_left
    · intro w' hC
      obtain ⟨_, k1, _, _⟩ := (HV1.out.st hC).vcells
      go_simp
      with_reducible rfl
    rotate_left
    refine q_norm (a' := ?_) ?_ ?_
    rotate_left
    · show Act.put _ (some 10) _ = _
      simp only [Act.put, List.setIfInBounds_toArray, List.set_cons_zero, List.set_cons_succ]
      rfl
    refine q_on (v := ?_) (by rfl) ?_ ?_
    rotate_left
    · intro w' hC
      go_simp
      with_reducible rfl
    rotate_left
    refine q_norm (a' := ?_) ?_ ?_
    rotate_left
    · show Act.put _ (some 11) _ = _
      simp only [Act.put, List.setIfInBounds_toArray, List.set_cons_zero, List.set_cons_succ]
      rfl
    refine q_on (v := ?_) (by rfl) ?_ ?_
    rotate_left
    · intro w' hC
      go_simp
      with_reducible rfl
    rotate_left
    refine q_norm (a' := ?_) ?_ ?_
    rotate_left
    · show Act.put _ (some 12) _ = _
      simp only [Act.put, List.setIfInBounds_toArray, List.set_cons_zero, List.set_cons_succ]
      rfl
    refine q_on (v := ?_) (by rfl) ?_ ?_
    rotate_left
    · intro w' hC
      obtain ⟨k0, k1⟩ := HM.out w' hC
      go_simp
      with_reducible rfl
    rotate_left
    refine q_norm (a' := ?_) ?_ ?_
    rotate_left
    · show Act.put _ (some 13) _ = _
      simp only [Act.put, List.setIfInBounds_toArray, List.set_cons_zero, List.set_cons_succ]
      rfl
    refine q_on (v := ?_) (by rfl) ?_ ?_
    rotate_left
    · intro w' hC
      have k0 := (HB.out.st hC).cell 0
      have k1 := (HB.out.st hC).cell 1
      go_simp
      with_reducible rfl
    rotate_left
    refine q_norm (a' := ?_) ?_ ?_
    rotate_left
    · show Act.put _ (some 14) _ = _
      simp only [Act.put, List.setIfInBounds_toArray, List.set_cons_zero, List.set_cons_succ]
      rfl
    refine q_on (v := ?_) (by rfl) ?_ ?_
    rotate_left
    · intro w' hC
      go_simp
      with_reducible rfl
    rotate_left
    refine q_norm (a' := ?_) ?_ ?_
    rotate_left
    · show Act.put _ (some 15) _ = _
      simp only [Act.put, List.setIfInBounds_toArray, List.set_cons_zero, List.set_cons_succ]
      rfl
    refine wpQuiet_nil ?_
    intro w' hC
    have HV2 := Lib.hid (HV1.out.st hC)
    have HB2 := Lib.hid (HB.out.st hC)
    have HC2 := Lib.hid (HC.out.trans hC)
    clear HV1 HB HC HM hC hz
    obtain ⟨c0, c1, c2, c3⟩ := HV2.out.vcells
    obtain ⟨x, y, hx, hy⟩ := HV2.out.mcell hk
    obtain ⟨a, ha⟩ := HV2.out.acell hk
    have f1 := (HV2.out.frz (k * 2)).1
    have f1' := (HV2.out.frz (k * 2 + 1)).1
    have f2 := (HV2.out.frz k).2.1
    have d0 := HB2.out.cell 0
    have d1 := HB2.out.cell 1
    have hne : b1 ≠ b2 := HV2.out.ne.2.2.2.1
    have hne' : b2 ≠ b1 := hne.symm
    go_upto_region 3 with fail
    refine start_ (n := 15) (S := fun w' => w'.cell? ⟨v, 1, none⟩ = some (.slice (some ⟨b1, 0, none⟩) n n) ∧ w'.cell? ⟨v, 2, none⟩ = some (.slice (some ⟨b2, 0, none⟩) n n) ∧ w'.cell? ⟨w.heap.size, 0, none⟩ = some (.int .i64 p) ∧ w'.cell? ⟨w.heap.size, 1, none⟩ = some (.int .i64 q)) (ds := [12, 14]) #[false, false, false, false, false, false, false, false, false, false, false, false, false, false, false] (by kernel_rfl) rfl rfl ⟨c1, c2, d0, d1⟩ (fun hHeld => ?_)
    refine pure_ (i := 0) (N := some 16) (v := ?_) (a' := ?_) #[true, false, false, false, false, false, false, false, false, false, false, false, false, false, false] rfl rfl (by kernel_rfl) (fun _ _ _ h => h) (Or.inl ⟨by rfl, ?_⟩) ?_ ?_
    rotate_left
    · intro w'
      go_simp
      with_reducible rfl
    rotate_left
    · simp only [Act.put, List.setIfInBounds_toArray, List.set_cons_zero, List.set_cons_succ]
      rfl
    refine pure_ (i := 1) (N := some 17) (v := ?_) (a' := ?_) #[true, true, false, false, false, false, false, false, false, false, false, false, false, false, false] rfl rfl (by kernel_rfl) (fun _ _ _ h => h) (Or.inl ⟨by rfl, ?_⟩) ?_ ?_
    rotate_left
    · intro w'
      go_simp
      with_reducible rfl
    rotate_left
    · simp only [Act.put, List.setIfInBounds_toArray, List.set_cons_zero, List.set_cons_succ]
      rfl
    refine pure_ (i := 2) (N := some 18) (v := ?_) (a' := ?_) #[true, true, true, false, false, false, false, false, false, false, false, false, false, false, false] rfl rfl (by kernel_rfl) (fun _ _ _ h => h) (Or.inl ⟨by rfl, ?_⟩) ?_ ?_
    rotate_left
    · intro w'
      go_simp
      with_reducible rfl
    rotate_left
    · simp only [Act.put, List.setIfInBounds_toArray, List.set_cons_zero, List.set_cons_succ]
      rfl
    refine pure_ (i := 4) (N := some 20) (v := ?_) (a' := ?_) #[true, true, true, false, true, false, false, false, false, false, false, false, false, false, false] rfl rfl (by kernel_rfl) (fun _ _ _ h => h) (Or.inl ⟨by rfl, ?_⟩) ?_ ?_
    rotate_left
    · intro w'
      go_simp
      with_reducible rfl
    rotate_left
    · simp only [Act.put, List.setIfInBounds_toArray, List.set_cons_zero, List.set_cons_succ]
      rfl
    refine pure_ (i := 5) (N := some 21) (v := ?_) (a' := ?_) #[true, true, true, false, true, true, false, false, false, false, false, false, false, false, false] rfl rfl (by kernel_rfl) (fun _ _ _ h => h) (Or.inl ⟨by rfl, ?_⟩) ?_ ?_
    rotate_left
    · intro w'
      go_simp
      with_reducible rfl
    rotate_left
    · simp only [Act.put, List.setIfInBounds_toArray, List.set_cons_zero, List.set_cons_succ]
      rfl
    refine pure_ (i := 6) (N := some 22) (v := ?_) (a' := ?_) #[true, true, true, false, true, true, true, false, false, false, false, false, false, false, false] rfl rfl (by kernel_rfl) (fun _ _ _ h => h) (Or.inl ⟨by rfl, ?_⟩) ?_ ?_
    rotate_left
    · intro w'
      go_simp
      with_reducible rfl
    rotate_left
    · simp only [Act.put, List.setIfInBounds_toArray, List.set_cons_zero, List.set_cons_succ]
      rfl
    refine pure_ (i := 7) (N := some 23) (v := ?_) (a' := ?_) #[true, true, true, false, true, true, true, true, false, false, false, false, false, false, false] rfl rfl (by kernel_rfl) (fun _ _ _ h => h) (Or.inl ⟨by rfl, ?_⟩) ?_ ?_
    rotate_left
    · intro w'
      go_simp
      with_reducible rfl
    rotate_left
    · simp only [Act.put, List.setIfInBounds_toArray, List.set_cons_zero, List.set_cons_succ]
      rfl
    refine pure_ (i := 9) (N := some 25) (v := ?_) (a' := ?_) #[true, true, true, false, true, true, true, true, false, true, false, false, false, false, false] rfl rfl (by kernel_rfl) (fun _ _ _ h => h) (Or.inl ⟨by rfl, ?_⟩) ?_ ?_
    rotate_left
    · intro w'
      go_simp
      with_reducible rfl
    rotate_left
    · simp only [Act.put, List.setIfInBounds_toArray, List.set_cons_zero, List.set_cons_succ]
      rfl
    refine take_ (i := 3) (N := some 19) (v := ?_) (a' := ?_) #[true, true, true, true, true, true, true, true, false, true, false, false, false, false, false] rfl rfl (by kernel_rfl) (fun _ _ _ h => h) (Or.inl ⟨by rfl, ?_⟩) hHeld ?_ ?_
    rotate_left
    · rintro w' ⟨s0, s1, s2, s3⟩
      go_simp
      with_reducible rfl
    rotate_left
    · simp only [Act.put, List.setIfInBounds_toArray, List.set_cons_zero, List.set_cons_succ]
      rfl
    refine take_ (i := 8) (N := some 24) (v := ?_) (a' := ?_) #[true, true, true, true, true, true, true, true, true, true, false, false, false, false, false] rfl rfl (by kernel_rfl) (fun _ _ _ h => h) (Or.inl ⟨by rfl, ?_⟩) hHeld ?_ ?_
    rotate_left
    · rintro w' ⟨s0, s1, s2, s3⟩
      go_simp
      with_reducible rfl
    rotate_left
    · simp only [Act.put, List.setIfInBounds_toArray, List.set_cons_zero, List.set_cons_succ]
      rfl
    refine take_ (i := 10) (N := some 26) (v := ?_) (a' := ?_) #[true, true, true, true, true, true, true, true, true, true, true, false, false, false, false] rfl rfl (by kernel_rfl) (fun _ _ _ h => h) (Or.inl ⟨by rfl, ?_⟩) hHeld ?_ ?_
    rotate_left
    · rintro w' ⟨s0, s1, s2, s3⟩
      go_simp
      with_reducible rfl
    rotate_left
    · simp only [Act.put, List.setIfInBounds_toArray, List.set_cons_zero, List.set_cons_succ]
      rfl
    refine pure_ (i := 11) (N := some 27) (v := ?_) (a' := ?_) #[true, true, true, true, true, true, true, true, true, true, true, true, false, false, false] rfl rfl (by kernel_rfl) (fun _ _ _ h => h) (Or.inl ⟨by rfl, ?_⟩) ?_ ?_
    rotate_left
    · intro w'
      go_simp
      with_reducible rfl
    rotate_left
    · simp only [Act.put, List.setIfInBounds_toArray, List.set_cons_zero, List.set_cons_succ]
      rfl
    refine last_ (i := 12) (N := none) #[true, true, true, true, true, true, true, true, true, true, true, true, true, false, false] rfl rfl (by kernel_rfl) (by decide) (fun K hK => ?_)
    refine skip_ (w1 := ?_) (by rfl) rfl ?_ ?_
    rotate_left
    · go_simp
      rfl
    refine hK.out _ _ ?_
    clear hK K
    refine pure_ (i := 13) (N := some 28) (v := ?_) (a' := ?_) #[true, true, true, true, true, true, true, true, true, true, true, true, true, true, false] rfl rfl (by kernel_rfl) (fun _ _ _ h => h) (Or.inl ⟨by rfl, ?_⟩) ?_ ?_
    rotate_left
    · intro w'
      go_simp
      with_reducible rfl
    rotate_left
    · simp only [Act.put, List.setIfInBounds_toArray, List.set_cons_zero, List.set_cons_succ]
      rfl
    refine last_ (i := 14) (N := none) #[true, true, true, true, true, true, true, true, true, true, true, true, true, true, true] rfl rfl (by kernel_rfl) (by decide) (fun K hK => ?_)
    refine skip_ (w1 := ?_) (by rfl) rfl ?_ ?_
    rotate_left
    · go_simp
      rfl
    refine hK.out _ _ ?_
    clear hK K
    refine done_ (by kernel_rfl) ?_
    have HV3 := Lib.hid (((HV2.out.st (Chg.dr _)).set_m hk p q).set_a (k := k) 0)
    have HC3 : Hid (Chg (Vf b1 b2 b3) w _) := Lib.hid (((HC2.out.of_no.trans (Chg.dr _).of_no).setCell (p := ⟨b1, k * 2, none⟩) (.inl (.inl rfl)) (.int .i64 p)).setCell (p := ⟨b1, k * 2 + 1, none⟩) (.inl (.inl rfl)) (.int .i64 q) |>.setCell (p := ⟨b2, k, none⟩) (.inl (.inr (.inl rfl))) (.int .i64 0))
    go_wp2_with fail
    go_ret
    exact ⟨⟨_, rfl⟩, HV3.out, HC3.out⟩
set_option maxHeartbeats 1000000 in
theorem vsuspect_any (h : VB w v b1 b2 b3 n me) {k : Nat} (hk : k < n) : Calls Tryz.prog 58 #[.pointer (some ⟨v, 0, none⟩), .int .i64 k] w fun e w' => (∃ b : Bool, e = .returned (.bool b)) ∧ VB w' v b1 b2 b3 n me ∧ Chg (Vf b1 b2 b3) w w' := by
  have hk3 : (k : Int) < (n : Int) := by omega
  obtain ⟨c0, c1, c2, c3⟩ := h.vcells
  obtain ⟨x, y, hx, hy⟩ := h.mcell hk
  have HV := Lib.hid h
  clear h
  go_enter Tryz.func58, Tryz.ntmps58
  go_wp2_with fail
  refine (vother_any HV.out hk 0).mono ?_
  rintro e w1 ⟨⟨b, rfl⟩, hw⟩
  subst hw
  cases b with
  | false =>
    go_wp2_with fail
    go_ret
    exact ⟨⟨_, rfl⟩, HV.out, Chg.refl _ _⟩
  | true =>
    go_wp2_with fail
    refine (vset_any HV.out hk 1 y).mono ?_
    rintro e w2 ⟨⟨b, rfl⟩, hv, hc⟩
    have HV2 := Lib.hid hv
    have HC2 := Lib.hid hc
    clear hv hc
    go_wp2_with fail
    go_ret
    exact ⟨⟨_, rfl⟩, HV2.out, HC2.out⟩
theorem vall_any (h : VB w v b1 b2 b3 n me) (hn : n ≤ 8) : Calls Tryz.prog 51 #[.pointer (some ⟨v, 0, none⟩)] w fun e w' => (∃ (l : List (Int × Int)) (d : Value), e = .returned d ∧ l.length = n ∧ Rd w' (New w) (prsD l) d) ∧ Chg NoB w w' := by
  obtain ⟨c0, c1, c2, c3⟩ := h.vcells
  obtain ⟨l, hl, hB⟩ := h.m
  have hR : Rd w (fun _ => True) (prsD l) (.slice (some ⟨b1, 0, none⟩) n n) := by
    have := Rd.s (w := w) (A := fun _ => True) 2 ((l.map i2).map (·.map D.c)) b1 0 n (fun i j => (((mbc l)[i * 2 + j]?).getD undef)) (by simp [hl]) (by unfold maxLen; omega) (fun _ => ⟨trivial, hB.lt⟩) (fun i hi => by simp) (fun i j hi hj => by
      simp only [List.length_map] at hi
      rw [Nat.zero_add, hB.cell]
      rcases (by omega : j = 0 ∨ j = 1) with rfl | rfl
      · rw [Nat.add_zero, (mbc_at l hi).1]; rfl
      · rw [(mbc_at l hi).2]; rfl) (fun i hi j hj => by
      simp only [List.length_map] at hi
      simp only [List.getElem_map] at hj ⊢
      match j, hj with
      | 0, _ => rw [Nat.add_zero, (mbc_at l hi).1]; exact .c _ rfl
      | 1, _ => rw [(mbc_at l hi).2]; exact .c _ rfl)
    rw [List.length_map, List.length_map, hl] at this
    exact this
  have HR := Lib.hid (cloneM_any hR (by simp [hl]; omega))
  clear h hR
  go_enter Tryz.func51, Tryz.ntmps51
  go_wp2_with fail
  refine HR.out.mono ?_
  rintro e w1 ⟨⟨d, rfl, hd⟩, hC⟩
  have HD := Lib.hid hd
  have HC := Lib.hid hC
  clear hd hC HR
  go_wp2_with fail
  go_ret
  exact ⟨⟨l, d, rfl, hl, HD.out⟩, HC.out⟩
theorem VB.lts (h : VB w v b1 b2 b3 n me) : v < w.heap.size ∧ b1 < w.heap.size ∧ b2 < w.heap.size ∧ b3 < w.heap.size := by
  obtain ⟨hb, ⟨_, _, h1⟩, ⟨_, _, h2⟩, ⟨_, _, h3⟩, _⟩ := h
  exact ⟨hb.lt, h1.lt, h2.lt, h3.lt⟩
set_option maxHeartbeats 2000000 in
theorem vtick_any (h : VB w v b1 b2 b3 n me) (hn : n ≤ 8) : Calls Tryz.prog 23 #[.pointer (some ⟨v, 0, none⟩)] w fun e w' => (∃ x : Int, e = .returned (.int .i64 x)) ∧ VB w' v b1 b2 b3 n me ∧ Chg (Vf b1 b2 b3) w w' := by
  have HV := Lib.hid h
  have HLt := Lib.hid h.lts
  clear h
  go_enter Tryz.func23, Tryz.ntmps23
  go_wp2_with fail
  refine (vall_any HV.out hn).mono ?_
  rintro e w1 ⟨⟨l, d, rfl, hl, hd⟩, hC⟩
  obtain ⟨pd, cd, rfl, hd1, hd2, hd4⟩ := prs_form hd
  have HD := Lib.hid hd
  have HL := Lib.hid hl
  have HV1 := Lib.hid (HV.out.st hC)
  have HC1 : Hid (Chg (Vf b1 b2 b3) w w1) := Lib.hid hC.of_no
  have hl8 : l.length ≤ 8 := by omega
  clear hd hC HV hl
  go_wp2_with fail
  go_loopw [3, 9] (fun c i wr => ∃ (k : Nat) (cv : Nat), k ≤ l.length ∧ cv ≤ k ∧ i = .int .i64 k ∧ c = .int .i64 cv ∧ Hid (VB wr v b1 b2 b3 n me) ∧ Hid (Chg (Vf b1 b2 b3) w wr) ∧ Hid (Rd wr (New w) (prsD l) (.slice pd l.length cd))) (fun _ i _ => l.length - (intOf i).toNat)
  case atStart => exact ⟨0, 0, Nat.zero_le _, Nat.le_refl _, rfl, rfl, HV1, HC1, HD⟩
  case round =>
    clear HV1 HC1 HD
    obtain ⟨k, cv, hk, hcv, rfl, rfl, HV, HC, HD⟩ := hrel
    by_cases hlt : k < l.length
    · have hk2 : decide ((k : Int) < (l.length : Int)) = true := by simp; omega
      have hk3 : (k : Int) < (l.length : Int) := by omega
      obtain ⟨bd, od, rfl, _, hbd⟩ := rows_ptr HD.out (by simpa using Nat.lt_of_le_of_lt (Nat.zero_le _) hlt)
      obtain ⟨e0, e1⟩ := pr_at HD.out hlt
      generalize l[k] = m at *
      have hkn : k < n := by have := HL.out; omega
      go_upto_region 5 with fail
      have hAl := Chg.al wr (.cells #[.int .i64 m.1, .int .i64 m.2] 147)
      have HB5 := Lib.hid (Blk.new wr 147 #[.int .i64 m.1, .int .i64 m.2])
      have hls := HV.out.lts
      replace HV := Lib.hid (HV.out.st hAl)
      replace HD := Lib.hid (HD.out.st hAl)
      replace HC := Lib.hid (HC.out.trans hAl.of_no)
      have hbn : wr.heap.size ≠ b1 ∧ wr.heap.size ≠ b2 ∧ wr.heap.size ≠ b3 := by omega
      have HBN := Lib.hid hbn
      clear e0 e1 hAl hls hbn
      generalize wr.alloc (Obj.cells _ 147) = W1 at *
      have HMv : Hid (∀ w1 w2, Chg (Vf b1 b2 b3) w1 w2 → Rd w1 (New w) (prsD l) (.slice (some ⟨bd, od, none⟩) l.length cd) → Rd w2 (New w) (prsD l) (.slice (some ⟨bd, od, none⟩) l.length cd)) := Lib.hid fun w1 w2 hC hR => hR.chg hC fun j hj _ hq => by
        have h1 : w.heap.size ≤ j := hj
        have := HLt.out
        rcases hq with rfl | rfl | rfl <;> omega
      go_wp2_with fail
      refine (vother_any HV.out hkn 1).mono ?_
      rintro e w2 ⟨⟨b, rfl⟩, hw⟩
      subst hw
      cases b with
      | false =>
        go_wp2_with fail
        go_roundw
        case rel => exact ⟨k + 1, cv, by omega, by omega, by go_num, rfl, HV, HC, HD⟩
        case measure => simp [intOf]; omega
      | true =>
        obtain ⟨c0, c1, c2, c3⟩ := HV.out.vcells
        obtain ⟨a, ha⟩ := HV.out.acell hkn
        have f2 := (HV.out.frz k).2.1
        have hkn3 : (k : Int) < (n : Int) := by omega
        go_upto_region 7 with fail
        generalize wrap64 (a + 1) = a' at *
        have HV2 := Lib.hid (HV.out.set_a (k := k) (a'))
        have hcc := (Chg.refl (Vf b1 b2 b3) w2).setCell (p := ⟨b2, k, none⟩) (.inl (.inr (.inl rfl))) (.int .i64 (a'))
        have HC2 := Lib.hid (HC.out.trans hcc)
        have HD2 := Lib.hid (HMv.out _ _ hcc HD.out)
        have HB6 := Lib.hid (HB5.out.far (p := ⟨b2, k, none⟩) HBN.out.2.1 (.int .i64 (a')))
        clear c0 c1 c2 c3 ha f2 HB5 HV HC HD
        generalize w2.setCell ⟨b2, k, none⟩ (Value.int .i64 a') = W3 at *
        obtain ⟨c0, c1, c2, c3⟩ := HV2.out.vcells
        obtain ⟨a, ha⟩ := HV2.out.acell hkn
        have d1 := HB6.out.cell 1
        obtain ⟨z, hz⟩ : ∃ z, decide (a ≥ 6) = z := ⟨_, rfl⟩
        cases z with
        | false =>
          go_wp2_with fail
          go_roundw
          case rel => exact ⟨k + 1, cv, by omega, by omega, by go_num, rfl, HV2, HC2, HD2⟩
          case measure => simp [intOf]; omega
        | true =>
          go_wp2_with fail
          refine (vset_any HV2.out hkn 2 m.2).mono ?_
          rintro e w5 ⟨⟨b, rfl⟩, hv, hc⟩
          have HV5 := Lib.hid hv
          have HC5 := Lib.hid (HC2.out.trans hc)
          have HD5 := Lib.hid (HMv.out _ _ hc HD2.out)
          clear hv hc
          go_wp2_with fail
          go_roundw
          case rel => exact ⟨k + 1, cv + 1, by omega, by omega, by go_num, by go_num, HV5, HC5, HD5⟩
          case measure => simp [intOf]; omega
    · obtain rfl : k = l.length := by omega
      have hk2 : decide ((l.length : Int) < (l.length : Int)) = false := by simp
      go_wp2_with fail
      go_ret
      exact ⟨⟨_, rfl⟩, HV.out, HC.out⟩
end
end Go.Proofs.YtoefffjhjmjhfaaGreat
