/- Contracts of package vector, the rest. No statement is proved here. -/
import Derived.Test.YtoefffjhjmjhfaaGreatVector
import Derived.Sort.Grow
namespace Go.Proofs.YtoefffjhjmjhfaaGreat
open Go.RowKit
attribute [local go_sem] max2_mx max_two_ eq_nums

def wit (f : Vc) (n x : Int) : Vc := if 0 ≤ n ∧ n < 8 then upd f n.toNat (mx (f n.toNat) x) else f
set_option maxRecDepth 100000 in
set_option maxHeartbeats 4000000 in
theorem with_any (f : Vc) (n x : Int) (w : World) : Calls Tryz.prog 142 #[vec f, dot n x] w fun e w' => e = .returned (vec (wit f n x)) ∧ Chg NoB w w' := by
  by_cases hn : 0 ≤ n ∧ n < 8
  · obtain ⟨k, rfl⟩ := Int.eq_ofNat_of_zero_le hn.1
    have hk : k < 8 := by omega
    have hk2 : (k : Int) < 8 := hn.2
    have hwit : Hid (wit f k x = upd f k (mx (f k) x)) := Lib.hid (by rw [wit, if_pos hn]; rfl)
    clear hn
    rw [hwit.out]
    clear hwit
    go_enter Tryz.func142, Tryz.ntmps142
    go_wp2_with fail
    refine (is_yes hk _).mono ?_
    generalize hW : ((w.alloc (Obj.cells (va f) 46)).alloc (Obj.cells #[.int .i64 k, .int .i64 x] 177)).alloc (Obj.cells #[.int .i64 0, .int .i64 0, .int .i64 0, .int .i64 0, .int .i64 0, .int .i64 0, .int .i64 0, .int .i64 0] 46) = W
    rintro e W' ⟨rfl, hC⟩
    have hC0 : Chg NoB w W := by rw [← hW]; exact (((Chg.refl _ w).alloc _).alloc _).alloc _
    have B0 : Hid (Blk W' w.heap.size 46 (va f)) := Lib.hid (Blk.chg (by rw [← hW]; exact ((Blk.new _ _ _).alloc _).alloc _) hC id)
    have B1 : Hid (Blk W' (w.heap.size + 1) 177 #[.int .i64 k, .int .i64 x]) := Lib.hid (Blk.chg (by rw [← hW]; exact (Blk.new_ _ _ _ (by simp)).alloc _) hC id)
    have B2 : Hid (Blk W' (w.heap.size + 1 + 1) 46 (va fun _ => 0)) := Lib.hid (Blk.chg (by rw [← hW]; exact Blk.new_ _ _ _ (by simp)) hC id)
    have HC : Hid (Chg NoB w W') := Lib.hid (hC0.trans hC)
    clear hW hC0 hC
    have c0 := B1.out.cell 0
    have c1 := B1.out.cell 1
    have hv := (B0.out.cell k).trans (va_get f hk)
    have hf := B0.out.frozen k
    go_wp2_with fail
    refine region_tail 10 (by kernel_rfl) (by kernel_rfl) ?_
    simp only [List.take_succ_cons, List.take_zero, List.drop_succ_cons, List.drop_zero]
    iterate 10 still_step
    refine wpStill_nil ?_
    clear c0 c1 hv hf
    have hv := (B0.out.drew.cell k).trans (va_get f hk)
    have hf := B0.out.drew.frozen k
    have BS := Lib.hid (bset B0.out hk (mx (f k) x))
    have DS := Lib.hid (B2.out.far (p := ⟨w.heap.size, k, none⟩) (show w.heap.size + 1 + 1 ≠ w.heap.size by omega) (.int .i64 (mx (f k) x)))
    have CS := Lib.hid (HC.out.setCell (p := ⟨w.heap.size, k, none⟩) (.inr (Nat.le_refl _)) (.int .i64 (mx (f k) x)))
    obtain ⟨c0, c1, c2, c3, c4, c5, c6, c7⟩ := eight BS.out
    obtain ⟨d0, d1, d2, d3, d4, d5, d6, d7⟩ := eight DS.out
    obtain ⟨f0, f1, f2, f3, f4, f5, f6, f7⟩ := eight_frozen DS.out
    go_wp2_with fail
    exact back_vec rfl (upd f k (mx (f k) x)) rfl (eight_set DS.out _ _ _ _ _ _ _ _).drew rfl ⟨rfl, (eight_chg CS.out (.inr (by omega)) _ _ _ _ _ _ _ _).drew⟩
  · have hwit : Hid (wit f n x = f) := Lib.hid (by rw [wit, if_neg hn])
    rw [hwit.out]
    clear hwit
    go_enter Tryz.func142, Tryz.ntmps142
    go_wp2_with fail
    refine (is_no hn _).mono ?_
    generalize hW : ((w.alloc (Obj.cells (va f) 46)).alloc (Obj.cells #[.int .i64 n, .int .i64 x] 177)).alloc (Obj.cells #[.int .i64 0, .int .i64 0, .int .i64 0, .int .i64 0, .int .i64 0, .int .i64 0, .int .i64 0, .int .i64 0] 46) = W
    rintro e W' ⟨rfl, hC⟩
    have hC0 : Chg NoB w W := by rw [← hW]; exact (((Chg.refl _ w).alloc _).alloc _).alloc _
    have B0 : Hid (Blk W' w.heap.size 46 (va f)) := Lib.hid (Blk.chg (by rw [← hW]; exact ((Blk.new _ _ _).alloc _).alloc _) hC id)
    have B2 : Hid (Blk W' (w.heap.size + 1 + 1) 46 (va fun _ => 0)) := Lib.hid (Blk.chg (by rw [← hW]; exact Blk.new_ _ _ _ (by simp)) hC id)
    have HC : Hid (Chg NoB w W') := Lib.hid (hC0.trans hC)
    clear hW hC0 hC
    obtain ⟨c0, c1, c2, c3, c4, c5, c6, c7⟩ := eight B0.out
    obtain ⟨d0, d1, d2, d3, d4, d5, d6, d7⟩ := eight B2.out
    obtain ⟨f0, f1, f2, f3, f4, f5, f6, f7⟩ := eight_frozen B2.out
    go_wp2_with fail
    exact back_vec rfl f rfl (eight_set B2.out _ _ _ _ _ _ _ _) rfl ⟨rfl, eight_chg HC.out (.inr (by omega)) _ _ _ _ _ _ _ _⟩

theorem back_next {fn : Func} {p u : Tmp} (h : fn.results = #[.cell p 177, .tmp u]) {R : Ending → World → Prop} {a : Act} {w : World} {b : Nat} (n x : Int) (v : Value) (hp : a.tmps.getD p undef = .pointer (some ⟨b, 0, none⟩)) (hu : a.tmps.getD u undef = v) (hB : Blk w b 177 #[.int .i64 n, .int .i64 x]) (hd : a.defers = [])
    (hR : R (.returned (.tuple #[dot n x, v])) w) : bodyPost Tryz.prog fn R .ret a w := by
  refine bodyPost_ret ?_ hd hR
  rw [results_cell_tmp h, hp, hu]
  have hl := run_loadVar_row (P := Tryz.prog) w b 177 177 #[.int .i64 n, .int .i64 x] (0, 0) _ hB Tryz.underlying177 rfl (by kernel_rfl)
  simp [asAddr, hl]
def lim : Int := 1099511627776
def nxtN (f : Vc) (n : Int) : Int := if (0 ≤ n ∧ n < 8) ∧ f n.toNat < lim then n else 0
def nxtX (f : Vc) (n : Int) : Int := if (0 ≤ n ∧ n < 8) ∧ f n.toNat < lim then f n.toNat + 1 else 0
def nxtE (f : Vc) (n : Int) : Int := if 0 ≤ n ∧ n < 8 then (if f n.toNat < lim then 0 else 11) else 1
theorem next_any (f : Vc) (n : Int) (w : World) (hf : ∀ k, k < 8 → -9223372036854775808 ≤ f k) : Calls Tryz.prog 139 #[vec f, .int .i64 n] w fun e w' => e = .returned (.tuple #[dot (nxtN f n) (nxtX f n), .int .i64 (nxtE f n)]) ∧ Chg NoB w w' := by
  by_cases hn : 0 ≤ n ∧ n < 8
  · obtain ⟨k, rfl⟩ := Int.eq_ofNat_of_zero_le hn.1
    have hk : k < 8 := by omega
    have hk2 : (k : Int) < 8 := hn.2
    have hfk := hf k hk
    by_cases hl : f k < lim
    · have e1 : nxtN f k = k := if_pos ⟨hn, hl⟩
      have e2 : nxtX f k = f k + 1 := if_pos ⟨hn, hl⟩
      have e3 : nxtE f k = 0 := (if_pos hn).trans (if_pos hl)
      rw [e1, e2, e3]
      have hl2 : decide (f k ≥ 1099511627776) = false := decide_eq_false (by unfold lim at hl; omega)
      have hl3 : f k + 1 ≤ 9223372036854775807 := by unfold lim at hl; omega
      clear e1 e2 e3 hl hn hf
      go_enter Tryz.func139, Tryz.ntmps139
      go_wp2_with fail
      refine (is_yes hk _).mono ?_
      generalize hW : (w.alloc (Obj.cells (va f) 46)).alloc (Obj.cells #[.int .i64 0, .int .i64 0] 177) = W
      rintro e W' ⟨rfl, hC⟩
      have hC0 : Chg NoB w W := by rw [← hW]; exact ((Chg.refl _ w).alloc _).alloc _
      have B0 : Hid (Blk W' w.heap.size 46 (va f)) := Lib.hid (Blk.chg (by rw [← hW]; exact (Blk.new _ _ _).alloc _) hC id)
      have B1 : Hid (Blk W' (w.heap.size + 1) 177 #[.int .i64 0, .int .i64 0]) := Lib.hid (Blk.chg (by rw [← hW]; exact Blk.new_ _ _ _ (by simp)) hC id)
      have HC : Hid (Chg NoB w W') := Lib.hid (hC0.trans hC)
      clear hW hC0 hC
      have hv := (B0.out.cell k).trans (va_get f hk)
      have d0 := B1.out.cell 0
      have d1 := B1.out.cell 1
      have f0 := B1.out.frozen 0
      have f1 := B1.out.frozen 1
      go_wp2_with fail
      exact back_next rfl k (f k + 1) (.int .i64 0) rfl rfl ((B1.out.set_ 0 _).set_ 1 _) rfl ⟨rfl, (HC.out.setCell (p := ⟨w.heap.size + 1, 0, none⟩) (.inr (by show w.heap.size ≤ w.heap.size + 1; omega)) _).setCell (p := ⟨w.heap.size + 1, 1, none⟩) (.inr (by show w.heap.size ≤ w.heap.size + 1; omega)) _⟩
    · have e1 : nxtN f k = 0 := if_neg fun h => hl h.2
      have e2 : nxtX f k = 0 := if_neg fun h => hl h.2
      have e3 : nxtE f k = 11 := (if_pos hn).trans (if_neg hl)
      rw [e1, e2, e3]
      have hl2 : decide (f k ≥ 1099511627776) = true := decide_eq_true (by unfold lim at hl; omega)
      clear e1 e2 e3 hl hn hf
      go_enter Tryz.func139, Tryz.ntmps139
      go_wp2_with fail
      refine (is_yes hk _).mono ?_
      generalize hW : (w.alloc (Obj.cells (va f) 46)).alloc (Obj.cells #[.int .i64 0, .int .i64 0] 177) = W
      rintro e W' ⟨rfl, hC⟩
      have hC0 : Chg NoB w W := by rw [← hW]; exact ((Chg.refl _ w).alloc _).alloc _
      have B0 : Hid (Blk W' w.heap.size 46 (va f)) := Lib.hid (Blk.chg (by rw [← hW]; exact (Blk.new _ _ _).alloc _) hC id)
      have B1 : Hid (Blk W' (w.heap.size + 1) 177 #[.int .i64 0, .int .i64 0]) := Lib.hid (Blk.chg (by rw [← hW]; exact Blk.new_ _ _ _ (by simp)) hC id)
      have HC : Hid (Chg NoB w W') := Lib.hid (hC0.trans hC)
      clear hW hC0 hC
      have hv := (B0.out.cell k).trans (va_get f hk)
      have d0 := B1.out.cell 0
      have d1 := B1.out.cell 1
      have f0 := B1.out.frozen 0
      have f1 := B1.out.frozen 1
      go_wp2_with fail
      exact back_next rfl 0 (0) (.int .i64 11) rfl rfl ((B1.out.set_ 0 _).set_ 1 _) rfl ⟨rfl, (HC.out.setCell (p := ⟨w.heap.size + 1, 0, none⟩) (.inr (by show w.heap.size ≤ w.heap.size + 1; omega)) _).setCell (p := ⟨w.heap.size + 1, 1, none⟩) (.inr (by show w.heap.size ≤ w.heap.size + 1; omega)) _⟩
  · have e1 : nxtN f n = 0 := if_neg fun h => hn h.1
    have e2 : nxtX f n = 0 := if_neg fun h => hn h.1
    have e3 : nxtE f n = 1 := if_neg hn
    rw [e1, e2, e3]
    have hi := hn
    clear e1 e2 e3 hn
    go_enter Tryz.func139, Tryz.ntmps139
    go_wp2_with fail
    refine (is_no hi _).mono ?_
    generalize hW : (w.alloc (Obj.cells (va f) 46)).alloc (Obj.cells #[.int .i64 0, .int .i64 0] 177) = W
    rintro e W' ⟨rfl, hC⟩
    have hC0 : Chg NoB w W := by rw [← hW]; exact ((Chg.refl _ w).alloc _).alloc _
    have B0 : Hid (Blk W' w.heap.size 46 (va f)) := Lib.hid (Blk.chg (by rw [← hW]; exact (Blk.new _ _ _).alloc _) hC id)
    have B1 : Hid (Blk W' (w.heap.size + 1) 177 #[.int .i64 0, .int .i64 0]) := Lib.hid (Blk.chg (by rw [← hW]; exact Blk.new_ _ _ _ (by simp)) hC id)
    have HC : Hid (Chg NoB w W') := Lib.hid (hC0.trans hC)
    clear hW hC0 hC
    have d0 := B1.out.cell 0
    have d1 := B1.out.cell 1
    have f0 := B1.out.frozen 0
    have f1 := B1.out.frozen 1
    go_wp2_with fail
    exact back_next rfl 0 (0) (.int .i64 1) rfl rfl ((B1.out.set_ 0 _).set_ 1 _) rfl ⟨rfl, (HC.out.setCell (p := ⟨w.heap.size + 1, 0, none⟩) (.inr (by show w.heap.size ≤ w.heap.size + 1; omega)) _).setCell (p := ⟨w.heap.size + 1, 1, none⟩) (.inr (by show w.heap.size ≤ w.heap.size + 1; omega)) _⟩

/-- Some draws, some new blocks, and nothing else. -/
def Gr (w w' : World) : Prop := ∃ (q : Nat) (os : Array Obj), w' = Sort.grow (w.drewN q) os
theorem Gr.refl (w : World) : Gr w w := ⟨0, #[], by rw [Sort.grow_empty]; rfl⟩
theorem Gr.alloc {w0 w : World} (h : Gr w0 w) (o : Obj) : Gr w0 (w.alloc o) := by
  obtain ⟨q, os, rfl⟩ := h
  exact ⟨q, os ++ #[o], by rw [Sort.alloc_eq_grow, Sort.grow_grow]⟩
theorem Gr.trans {a b c : World} (h : Gr a b) (k : Gr b c) : Gr a c := by
  obtain ⟨q, os, rfl⟩ := h
  obtain ⟨r, os', rfl⟩ := k
  exact ⟨q + r, os ++ os', by rw [← Sort.grow_grow, ← World.drewN_drewN]; rfl⟩
theorem Gr.drew {w0 w : World} (h : Gr w0 w) : Gr w0 w.drew := h.trans ⟨1, #[], by rw [Sort.grow_empty]; rfl⟩
theorem Gr.chg {w w' : World} (h : Gr w w') : Chg NoB w w' := by
  obtain ⟨q, os, rfl⟩ := h
  exact ⟨rfl, rfl, rfl, by simp [Sort.grow, World.drewN], fun k hk _ => by simp [Sort.grow, World.drewN, Array.getElem?_append_left hk]⟩
theorem nan64 (x : Int) (w : World) : Calls Tryz.prog 268 #[.int .i64 x] w fun e w' => e = .returned (.bool false) ∧ w' = w := by
  go_enter Tryz.func268, Tryz.ntmps268
  go_wp2
  go_ret
  exact ⟨by simp, rfl⟩
theorem cmp64 (x y : Int) (w : World) : Calls Tryz.prog 238 #[.int .i64 x, .int .i64 y] w fun e w' => e = .returned (.int .i64 (Lib.compareInt x y)) ∧ w' = w := by
  by_cases h1 : x < y
  · have e : Lib.compareInt x y = -1 := if_pos h1
    rw [e]
    go_enter Tryz.func238, Tryz.ntmps238
    go_wp2_with (first | (go_at_call 268; refine (nan64 _ _).mono ?_; rintro e w' ⟨rfl, rfl⟩))
    go_ret
    exact ⟨rfl, rfl⟩
  · by_cases h2 : x > y
    · have e : Lib.compareInt x y = 1 := (if_neg h1).trans (if_pos h2)
      rw [e]
      go_enter Tryz.func238, Tryz.ntmps238
      go_wp2_with (first | (go_at_call 268; refine (nan64 _ _).mono ?_; rintro e w' ⟨rfl, rfl⟩))
      go_ret
      exact ⟨rfl, rfl⟩
    · have e : Lib.compareInt x y = 0 := (if_neg h1).trans (if_neg h2)
      rw [e]
      go_enter Tryz.func238, Tryz.ntmps238
      go_wp2_with (first | (go_at_call 268; refine (nan64 _ _).mono ?_; rintro e w' ⟨rfl, rfl⟩))
      go_ret
      exact ⟨rfl, rfl⟩
theorem nanI (x : Int) (w : World) : Calls Tryz.prog 254 #[.int .i64 x] w fun e w' => e = .returned (.bool false) ∧ w' = w := by
  go_enter Tryz.func254, Tryz.ntmps254
  go_wp2
  go_ret
  exact ⟨by simp, rfl⟩
theorem cmpI (x y : Int) (w : World) : Calls Tryz.prog 205 #[.int .i64 x, .int .i64 y] w fun e w' => e = .returned (.int .i64 (Lib.compareInt x y)) ∧ w' = w := by
  by_cases h1 : x < y
  · have e : Lib.compareInt x y = -1 := if_pos h1
    rw [e]
    go_enter Tryz.func205, Tryz.ntmps205
    go_wp2_with (first | (go_at_call 254; refine (nanI _ _).mono ?_; rintro e w' ⟨rfl, rfl⟩))
    go_ret
    exact ⟨rfl, rfl⟩
  · by_cases h2 : x > y
    · have e : Lib.compareInt x y = 1 := (if_neg h1).trans (if_pos h2)
      rw [e]
      go_enter Tryz.func205, Tryz.ntmps205
      go_wp2_with (first | (go_at_call 254; refine (nanI _ _).mono ?_; rintro e w' ⟨rfl, rfl⟩))
      go_ret
      exact ⟨rfl, rfl⟩
    · have e : Lib.compareInt x y = 0 := (if_neg h1).trans (if_neg h2)
      rw [e]
      go_enter Tryz.func205, Tryz.ntmps205
      go_wp2_with (first | (go_at_call 254; refine (nanI _ _).mono ?_; rintro e w' ⟨rfl, rfl⟩))
      go_ret
      exact ⟨rfl, rfl⟩
theorem or_two (x y : Int) (w : World) {b : Nat} (h0 : w.cell? ⟨b, 0, none⟩ = some (.int .i64 x)) (h1 : w.cell? ⟨b, 1, none⟩ = some (.int .i64 y)) :
    Calls Tryz.prog 203 #[.slice (some ⟨b, 0, none⟩) 2 2] w fun e w' => e = .returned (.int .i64 (if x = 0 then y else x)) ∧ w' = w := by
  by_cases hx : x = 0
  · subst hx
    rw [if_pos rfl]
    by_cases hy : y = 0
    · subst hy
      go_enter Tryz.func203, Tryz.ntmps203
      go_wp2_with fail
      refine wp_loop_rounds 3 ?_
      rw [rounds_succ]
      go_wp2_with fail
      rw [rounds_succ]
      go_wp2_with fail
      rw [rounds_succ]
      go_wp2_with fail
      go_ret
      exact ⟨rfl, rfl⟩
    · have hy2 : (y != 0) = true := by simpa using hy
      go_enter Tryz.func203, Tryz.ntmps203
      go_wp2_with fail
      refine wp_loop_rounds 3 ?_
      rw [rounds_succ]
      go_wp2_with fail
      rw [rounds_succ]
      go_wp2_with fail
      go_ret
      exact ⟨rfl, rfl⟩
  · have hx2 : (x != 0) = true := by simpa using hx
    rw [if_neg hx]
    go_enter Tryz.func203, Tryz.ntmps203
    go_wp2_with fail
    refine wp_loop_rounds 3 ?_
    rw [rounds_succ]
    go_wp2_with fail
    go_ret
    exact ⟨rfl, rfl⟩

def less (n x m y : Int) : Bool := decide (n < m ∨ n = m ∧ x < y)
theorem less_cmp (n x m y : Int) : decide ((if Lib.compareInt n m = 0 then Lib.compareInt x y else Lib.compareInt n m) < 0) = less n x m y := by
  unfold less Lib.compareInt
  rw [decide_eq_decide]
  repeat' split
  all_goals omega
set_option maxRecDepth 100000 in
theorem less_gr (n x m y : Int) (w : World) : Calls Tryz.prog 180 #[dot n x, dot m y] w fun e w' => e = .returned (.bool (less n x m y)) ∧ Gr w w' := by
  rw [← less_cmp]
  go_enter Tryz.func180, Tryz.ntmps180
  go_wp2_with fail
  generalize hW : (w.alloc (Obj.cells #[.int .i64 n, .int .i64 x] 177)).alloc (Obj.cells #[.int .i64 m, .int .i64 y] 177) = W
  have B0 : Hid (Blk W w.heap.size 177 #[.int .i64 n, .int .i64 x]) := by rw [← hW]; exact (Blk.new _ _ _).alloc _
  have B1 : Hid (Blk W (w.heap.size + 1) 177 #[.int .i64 m, .int .i64 y]) := by rw [← hW]; exact Blk.new_ _ _ _ (by simp)
  have HC : Hid (Gr w W) := by rw [← hW]; exact ((Gr.refl w).alloc _).alloc _
  clear hW
  have c0 := B0.out.cell 0
  have c1 := B0.out.cell 1
  have d0 := B1.out.cell 0
  have d1 := B1.out.cell 1
  refine region_tail 10 (by kernel_rfl) (by kernel_rfl) ?_
  simp only [List.take_succ_cons, List.take_zero, List.drop_succ_cons, List.drop_zero]
  iterate 4 still_step
  still_call (cmpI _ _ _)
  iterate 4 still_step
  still_call (cmp64 _ _ _)
  refine wpStill_nil ?_
  go_wp2_with fail
  refine (or_two (Lib.compareInt n m) (Lib.compareInt x y) _ ((Blk.new _ _ _).cell 0) ((Blk.new _ _ _).cell 1)).mono ?_
  rintro e w' ⟨rfl, rfl⟩
  go_wp2_with fail
  all_goals
    go_ret
    exact ⟨rfl, (HC.out.alloc _).drew⟩
theorem less_any (n x m y : Int) (w : World) : Calls Tryz.prog 180 #[dot n x, dot m y] w fun e w' => e = .returned (.bool (less n x m y)) ∧ Chg NoB w w' := (less_gr n x m y w).mono fun _ _ ⟨h1, h2⟩ => ⟨h1, h2.chg⟩
end Go.Proofs.YtoefffjhjmjhfaaGreat
