/- Contracts of package vector, function by function. No statement is proved here. -/
import Derived.Test.YtoefffjhjmjhfaaGreatProg
import Derived.Test.YtoefffjhjmjhfaaGreatPkBase
import Derived.Test.YtoefffjhjmjhfaaGreatShelf
import Derived.WalkKit
import Derived.ProofKit
import Derived.StillTailTactics
import Derived.BigQuiet
import Derived.ChangeKeysEq
import Derived.Laws.StructEq
import Derived.Deep.RegionHeld3
import Derived.Test.YtoefffjhjmjhfaaGreatWLast
import Derived.Test.YtoefffjhjmjhfaaGreatQuiet
namespace Go.Proofs.YtoefffjhjmjhfaaGreat
open Go.RowKit

attribute [local go_sem] max2_mx max_two_

/-- What '==' of two vectors says, the numbers spelt out. -/
theorem eq_nums (a0 a1 a2 a3 a4 a5 a6 a7 b0 b1 b2 b3 b4 b5 b6 b7 : Int) (w : World) : (Op.equalIn 10000 46 (.agg #[.int .i64 a0, .int .i64 a1, .int .i64 a2, .int .i64 a3, .int .i64 a4, .int .i64 a5, .int .i64 a6, .int .i64 a7]) (.agg #[.int .i64 b0, .int .i64 b1, .int .i64 b2, .int .i64 b3, .int .i64 b4, .int .i64 b5, .int .i64 b6, .int .i64 b7])).run Tryz.prog w
    = .ok (a0 == b0 && (a1 == b1 && (a2 == b2 && (a3 == b3 && (a4 == b4 && (a5 == b5 && (a6 == b6 && a7 == b7))))))) w :=
  eq_vec 9998 (fun k => [a0, a1, a2, a3, a4, a5, a6, a7].getD k 0) (fun k => [b0, b1, b2, b3, b4, b5, b6, b7].getD k 0) w
theorem ld {w : World} {b : Nat} {f : Vc} (h : Blk w b 46 (va f)) : (Instr.loadAt 46 (.pointer (some ⟨b, 0, none⟩))).run Tryz.prog w = .ok (vec f) w := by
  simp only [Instr.loadAt, Instr.sureAddr, Sem.run_bind, Sem.run_pure, Result.andThen]
  exact run_loadVar_row w b 46 46 (va f) (0, 0) _ h Tryz.underlying46 rfl (Tryz.inf46.trans rfl)
theorem ldc {w : World} {b : Nat} {f : Vc} (h : Blk w b 46 (va f)) : (loadCellsFrom ⟨b, 0, none⟩ 0 8 #[]).run Tryz.prog w = .ok (va f) w := by
  have := run_loadCells_list (P := Tryz.prog) w ⟨b, 0, none⟩ (va f).toList (fun j v hv => by
    have hadd : (⟨b, 0, none⟩ : Addr).add j = ⟨b, j, none⟩ := by unfold Addr.add; split <;> simp_all
    rw [hadd, h.cell]
    simpa using hv)
  exact this

/-- A whole row is written. -/
theorem Chg.row {S : Nat → Prop} {w0 w : World} (h : Chg S w0 w) {b : Nat} (hb : S b ∨ w0.heap.size ≤ b) (cs : Array Value) : Chg S w0 (w.setRow b cs) :=
  ⟨h.os, h.tape, h.output, by rw [setRow_size]; exact h.size, fun k hk hs => (setRow_other w b k cs (by rintro rfl; rcases hb with hb | hb; exact hs hb; omega)).trans (h.block k hk hs)⟩
theorem Blk.row {w : World} {b : Nat} {t : TypeId} {cs : Array Value} (h : Blk w b t cs) (cs' : Array Value) : Blk (w.setRow b cs') b t cs' := setRow_heap w b cs cs' t (0, 0) h
theorem Blk.rowFar {w : World} {b g : Nat} {t : TypeId} {cs : Array Value} (h : Blk w b t cs) (hg : b ≠ g) (cs' : Array Value) : Blk (w.setRow g cs') b t cs := (setRow_other w g b cs' hg).trans h
theorem stc {w : World} {b : Nat} {f : Vc} (h : Blk w b 46 (va f)) (a0 a1 a2 a3 a4 a5 a6 a7 : Int) : (storeCells ⟨b, 0, none⟩ [.int .i64 a0, .int .i64 a1, .int .i64 a2, .int .i64 a3, .int .i64 a4, .int .i64 a5, .int .i64 a6, .int .i64 a7] 0).run Tryz.prog w
    = .ok () (w.setRow b #[.int .i64 a0, .int .i64 a1, .int .i64 a2, .int .i64 a3, .int .i64 a4, .int .i64 a5, .int .i64 a6, .int .i64 a7]) := by
  have := run_storeCells_from (P := Tryz.prog) b 46 [.int .i64 a0, .int .i64 a1, .int .i64 a2, .int .i64 a3, .int .i64 a4, .int .i64 a5, .int .i64 a6, .int .i64 a7] 0 (va f) w h rfl (by intro v hv; simp only [List.mem_cons, List.not_mem_nil, or_false] at hv; rcases hv with rfl | rfl | rfl | rfl | rfl | rfl | rfl | rfl <;> rfl)
  exact this
theorem eight {w : World} {b : Nat} {f : Vc} (h : Blk w b 46 (va f)) : w.cell? ⟨b, 0, none⟩ = some (.int .i64 (f 0)) ∧ w.cell? ⟨b, 1, none⟩ = some (.int .i64 (f 1)) ∧ w.cell? ⟨b, 2, none⟩ = some (.int .i64 (f 2)) ∧ w.cell? ⟨b, 3, none⟩ = some (.int .i64 (f 3)) ∧ w.cell? ⟨b, 4, none⟩ = some (.int .i64 (f 4)) ∧ w.cell? ⟨b, 5, none⟩ = some (.int .i64 (f 5)) ∧ w.cell? ⟨b, 6, none⟩ = some (.int .i64 (f 6)) ∧ w.cell? ⟨b, 7, none⟩ = some (.int .i64 (f 7)) :=
  ⟨h.cell 0, h.cell 1, h.cell 2, h.cell 3, h.cell 4, h.cell 5, h.cell 6, h.cell 7⟩
theorem back_vec {fn : Func} {p : Tmp} (h : fn.results = #[.cell p 46]) {R : Ending → World → Prop} {a : Act} {w : World} {b : Nat} (f : Vc) (hp : a.tmps.getD p undef = .pointer (some ⟨b, 0, none⟩)) (hB : Blk w b 46 (va f)) (hd : a.defers = []) (hR : R (.returned (vec f)) w) :
    bodyPost Tryz.prog fn R .ret a w :=
  bodyPost_ret (results_cell_row h _ _ b _ (va f) (0, 0) _ hp hB Tryz.underlying46 rfl (Tryz.inf46.trans rfl)) hd hR
theorem eight_frozen {w : World} {b : Nat} {f : Vc} (h : Blk w b 46 (va f)) : w.frozen? ⟨b, 0, none⟩ = false ∧ w.frozen? ⟨b, 1, none⟩ = false ∧ w.frozen? ⟨b, 2, none⟩ = false ∧ w.frozen? ⟨b, 3, none⟩ = false ∧ w.frozen? ⟨b, 4, none⟩ = false ∧ w.frozen? ⟨b, 5, none⟩ = false ∧ w.frozen? ⟨b, 6, none⟩ = false ∧ w.frozen? ⟨b, 7, none⟩ = false :=
  ⟨h.frozen 0, h.frozen 1, h.frozen 2, h.frozen 3, h.frozen 4, h.frozen 5, h.frozen 6, h.frozen 7⟩
theorem bset {w : World} {b : Nat} {f : Vc} (h : Blk w b 46 (va f)) {k : Nat} (hk : k < 8) (x : Int) : Blk (w.setCell ⟨b, k, none⟩ (.int .i64 x)) b 46 (va (upd f k x)) := by
  rw [← va_set f hk]; exact h.set_ k _
/-- Eight cells, one behind the other, are a row. -/
theorem eight_set {w : World} {b : Nat} {f : Vc} (h : Blk w b 46 (va f)) (a0 a1 a2 a3 a4 a5 a6 a7 : Int) : Blk (((((((((w).setCell ⟨b, 0, none⟩ (.int .i64 a0)).setCell ⟨b, 1, none⟩ (.int .i64 a1)).setCell ⟨b, 2, none⟩ (.int .i64 a2)).setCell ⟨b, 3, none⟩ (.int .i64 a3)).setCell ⟨b, 4, none⟩ (.int .i64 a4)).setCell ⟨b, 5, none⟩ (.int .i64 a5)).setCell ⟨b, 6, none⟩ (.int .i64 a6)).setCell ⟨b, 7, none⟩ (.int .i64 a7)) b 46 #[.int .i64 a0, .int .i64 a1, .int .i64 a2, .int .i64 a3, .int .i64 a4, .int .i64 a5, .int .i64 a6, .int .i64 a7] := by
  have := (bset (bset (bset (bset (bset (bset (bset (bset h (show 0 < 8 by decide) a0) (show 1 < 8 by decide) a1) (show 2 < 8 by decide) a2) (show 3 < 8 by decide) a3) (show 4 < 8 by decide) a4) (show 5 < 8 by decide) a5) (show 6 < 8 by decide) a6) (show 7 < 8 by decide) a7)
  simpa only [va, upd, if_true, if_false, Nat.reduceEqDiff, reduceIte] using this
theorem eight_chg {S : Nat → Prop} {w0 w : World} {b : Nat} (h : Chg S w0 w) (hb : S b ∨ w0.heap.size ≤ b) (a0 a1 a2 a3 a4 a5 a6 a7 : Int) : Chg S w0 (((((((((w).setCell ⟨b, 0, none⟩ (.int .i64 a0)).setCell ⟨b, 1, none⟩ (.int .i64 a1)).setCell ⟨b, 2, none⟩ (.int .i64 a2)).setCell ⟨b, 3, none⟩ (.int .i64 a3)).setCell ⟨b, 4, none⟩ (.int .i64 a4)).setCell ⟨b, 5, none⟩ (.int .i64 a5)).setCell ⟨b, 6, none⟩ (.int .i64 a6)).setCell ⟨b, 7, none⟩ (.int .i64 a7)) :=
  ((((((((h.setCell (p := ⟨b, 0, none⟩) hb (.int .i64 a0)).setCell (p := ⟨b, 1, none⟩) hb (.int .i64 a1)).setCell (p := ⟨b, 2, none⟩) hb (.int .i64 a2)).setCell (p := ⟨b, 3, none⟩) hb (.int .i64 a3)).setCell (p := ⟨b, 4, none⟩) hb (.int .i64 a4)).setCell (p := ⟨b, 5, none⟩) hb (.int .i64 a5)).setCell (p := ⟨b, 6, none⟩) hb (.int .i64 a6)).setCell (p := ⟨b, 7, none⟩) hb (.int .i64 a7))

theorem is_any (n : Int) (w : World) : Calls Tryz.prog 187 #[.int .i64 n] w fun e w' => e = .returned (.bool (decide (0 ≤ n ∧ n < 8))) ∧ w' = w := by
  by_cases h0 : 0 ≤ n
  · by_cases h8 : n < 8
    · go_enter Tryz.func187, Tryz.ntmps187
      go_wp2
      go_ret
      exact ⟨by simp [h0, h8], rfl⟩
    · go_enter Tryz.func187, Tryz.ntmps187
      go_wp2
      go_ret
      exact ⟨by simp [h8], rfl⟩
  · go_enter Tryz.func187, Tryz.ntmps187
    go_wp2
    go_ret
    exact ⟨by have : decide (0 ≤ n) = false := by simp; omega
              rw [this]; rfl, rfl⟩

/-- What either has seen. -/
def jn (f g : Vc) : Vc := fun k => mx (f k) (g k)
theorem idx0 (f : Vc) (w : World) : (Instr.index 46 (vec f) (.int .i64 0)).run Tryz.prog w = .ok (.int .i64 (f 0)) w := by kernel_rfl
theorem idx1 (f : Vc) (w : World) : (Instr.index 46 (vec f) (.int .i64 1)).run Tryz.prog w = .ok (.int .i64 (f 1)) w := by kernel_rfl
theorem idx2 (f : Vc) (w : World) : (Instr.index 46 (vec f) (.int .i64 2)).run Tryz.prog w = .ok (.int .i64 (f 2)) w := by kernel_rfl
theorem idx3 (f : Vc) (w : World) : (Instr.index 46 (vec f) (.int .i64 3)).run Tryz.prog w = .ok (.int .i64 (f 3)) w := by kernel_rfl
theorem idx4 (f : Vc) (w : World) : (Instr.index 46 (vec f) (.int .i64 4)).run Tryz.prog w = .ok (.int .i64 (f 4)) w := by kernel_rfl
theorem idx5 (f : Vc) (w : World) : (Instr.index 46 (vec f) (.int .i64 5)).run Tryz.prog w = .ok (.int .i64 (f 5)) w := by kernel_rfl
theorem idx6 (f : Vc) (w : World) : (Instr.index 46 (vec f) (.int .i64 6)).run Tryz.prog w = .ok (.int .i64 (f 6)) w := by kernel_rfl
theorem idx7 (f : Vc) (w : World) : (Instr.index 46 (vec f) (.int .i64 7)).run Tryz.prog w = .ok (.int .i64 (f 7)) w := by kernel_rfl
theorem idx (f : Vc) {k : Nat} (h : k < 8) (w : World) : (Instr.index 46 (.agg #[.int .i64 (f 0), .int .i64 (f 1), .int .i64 (f 2), .int .i64 (f 3), .int .i64 (f 4), .int .i64 (f 5), .int .i64 (f 6), .int .i64 (f 7)]) (.int .i64 (k : Nat))).run Tryz.prog w = .ok (.int .i64 (f k)) w := by
  match k, h with
  | 0, _ => exact idx0 f w
  | 1, _ => exact idx1 f w
  | 2, _ => exact idx2 f w
  | 3, _ => exact idx3 f w
  | 4, _ => exact idx4 f w
  | 5, _ => exact idx5 f w
  | 6, _ => exact idx6 f w
  | 7, _ => exact idx7 f w
/-- Joined up to a place. -/
def jto (f g : Vc) (k : Nat) : Vc := fun i => if i < k then mx (f i) (g i) else f i
theorem jto_zero (f g : Vc) : jto f g 0 = f := by funext i; simp [jto]
theorem jto_at (f g : Vc) (k : Nat) : jto f g k k = f k := by simp [jto]
theorem jto_succ (f g : Vc) (k : Nat) : jto f g (k + 1) = upd (jto f g k) k (mx (f k) (g k)) := by
  funext i
  unfold jto upd
  by_cases h : i = k
  · subst h; simp
  · simp only [if_neg h]
    by_cases h2 : i < k
    · rw [if_pos h2, if_pos (by omega)]
    · rw [if_neg h2, if_neg (by omega)]
theorem jto_end (f g : Vc) : va (jto f g 8) = va (jn f g) := va_congr fun k hk => by simp [jto, jn, hk]
set_option maxHeartbeats 1000000 in
theorem join_any (f g : Vc) (w : World) : Calls Tryz.prog 138 #[vec f, vec g] w fun e w' => e = .returned (vec (jn f g)) ∧ Chg NoB w w' := by
  go_enter Tryz.func138, Tryz.ntmps138
  go_wp2_with fail
  generalize hW : (((w.alloc (Obj.cells (va f) 46)).alloc (Obj.cells (va g) 46)).alloc (Obj.cells #[.int .i64 0, .int .i64 0, .int .i64 0, .int .i64 0, .int .i64 0, .int .i64 0, .int .i64 0, .int .i64 0] 46)) = W
  have h0 : Blk W w.heap.size 46 (va (jto f g 0)) := by rw [← hW, jto_zero]; exact ((Blk.new _ _ _).alloc _).alloc _
  have h2 : Blk W (w.heap.size + 1 + 1) 46 (va fun _ => 0) := by rw [← hW]; exact Blk.new_ _ _ _ (by simp)
  have hC : Chg NoB w W := by rw [← hW]; exact (((Chg.refl _ w).alloc _).alloc _).alloc _
  have H0 := Lib.hid h0
  have H2 := Lib.hid h2
  have HC := Lib.hid hC
  clear hW h0 h2 hC
  go_loopw [8] (fun i wr => ∃ k : Nat, k ≤ 8 ∧ i = .int .i64 k ∧ Blk wr w.heap.size 46 (va (jto f g k)) ∧ Blk wr (w.heap.size + 1 + 1) 46 (va fun _ => 0) ∧ Chg NoB w wr) (fun i _ => 8 - (intOf i).toNat)
  case atStart => exact ⟨0, by decide, rfl, H0.out, H2.out, HC.out⟩
  case round =>
    clear H0 H2 HC
    obtain ⟨k, hk, rfl, h0, h2, hC⟩ := hrel
    have H0 := Lib.hid h0
    have H2 := Lib.hid h2
    have HC := Lib.hid hC
    clear h0 h2 hC
    by_cases hlt : k < 8
    · have hix := idx g hlt
      have hcell := (H0.out.cell k).trans ((va_get _ hlt).trans (by rw [jto_at]))
      have hfr := H0.out.frozen k
      have hk2 : ((k : Nat) : Int) < 8 := by omega
      go_wp2_with fail
      go_roundw
      case rel =>
        refine ⟨k + 1, by omega, by go_num, ?_, H2.out.far (show w.heap.size + 1 + 1 ≠ w.heap.size by omega) _, HC.out.setCell (.inr (Nat.le_refl _)) _⟩
        rw [jto_succ, ← va_set _ hlt]
        exact H0.out.set_ k _
      case measure => simp [intOf]; omega
    · obtain rfl : k = 8 := by omega
      obtain ⟨c0, c1, c2, c3, c4, c5, c6, c7⟩ := eight H0.out
      obtain ⟨d0, d1, d2, d3, d4, d5, d6, d7⟩ := eight H2.out
      obtain ⟨f0, f1, f2, f3, f4, f5, f6, f7⟩ := eight_frozen H2.out
      go_wp2_with fail
      exact back_vec rfl (jto f g 8) rfl (eight_set H2.out _ _ _ _ _ _ _ _) rfl ⟨congrArg (fun x => Ending.returned (Value.agg x)) (jto_end f g), eight_chg HC.out (.inr (by omega)) _ _ _ _ _ _ _ _⟩
theorem cov_no {f : Vc} {n x : Int} (h : ¬ 1 ≤ x) : decide ((0 ≤ n ∧ n < 8) ∧ 1 ≤ x ∧ x ≤ f n.toNat) = false := decide_eq_false fun k => h k.2.1
def cov (f : Vc) (n x : Int) : Bool := decide ((0 ≤ n ∧ n < 8) ∧ 1 ≤ x ∧ x ≤ f n.toNat)
abbrev dot (n x : Int) : Value := .agg #[.int .i64 n, .int .i64 x]
theorem is_chg (n : Int) (w : World) : Calls Tryz.prog 187 #[.int .i64 n] w fun e w' => e = .returned (.bool (decide (0 ≤ n ∧ n < 8))) ∧ Chg NoB w w' := (is_any n w).mono fun _ _ ⟨h1, h2⟩ => ⟨h1, h2 ▸ Chg.refl _ _⟩
theorem is_yes {k : Nat} (hk : k < 8) (w : World) : Calls Tryz.prog 187 #[.int .i64 (k : Nat)] w fun e w' => e = .returned (.bool true) ∧ Chg NoB w w' :=
  (is_chg k w).mono fun _ _ ⟨h1, h2⟩ => ⟨by rw [h1, decide_eq_true (show 0 ≤ (k : Int) ∧ (k : Int) < 8 by omega)], h2⟩
theorem is_no {n : Int} (hn : ¬ (0 ≤ n ∧ n < 8)) (w : World) : Calls Tryz.prog 187 #[.int .i64 n] w fun e w' => e = .returned (.bool false) ∧ Chg NoB w w' :=
  (is_chg n w).mono fun _ _ ⟨h1, h2⟩ => ⟨by rw [h1, decide_eq_false hn], h2⟩
set_option maxHeartbeats 4000000 in
theorem covers_any (f : Vc) (n x : Int) (w : World) : Calls Tryz.prog 140 #[vec f, dot n x] w fun e w' => e = .returned (.bool (cov f n x)) ∧ Chg NoB w w' := by
  go_enter Tryz.func140, Tryz.ntmps140
  go_wp2_with fail
  generalize hW : (w.alloc (Obj.cells (va f) 46)).alloc (Obj.cells #[.int .i64 n, .int .i64 x] 177) = W
  have B0 : Hid (Blk W w.heap.size 46 (va f)) := by rw [← hW]; exact (Blk.new _ _ _).alloc _
  have B1 : Hid (Blk W (w.heap.size + 1) 177 #[.int .i64 n, .int .i64 x]) := by rw [← hW]; exact Blk.new_ _ _ _ (by simp)
  have HC : Hid (Chg NoB w W) := by rw [← hW]; exact ((Chg.refl _ w).alloc _).alloc _
  clear hW
  by_cases hn : 0 ≤ n ∧ n < 8
  · obtain ⟨k, rfl⟩ := Int.eq_ofNat_of_zero_le hn.1
    have hk : k < 8 := by omega
    have hk2 : (k : Int) < 8 := hn.2
    clear hn
    by_cases hx : 1 ≤ x
    · have hx1 : decide (x ≥ 1) = true := decide_eq_true hx
      refine q_start (by kernel_rfl) (by kernel_rfl) ?_
      refine q_on (v := ?_) (by rfl) ?_ ?_
      rotate_left
      · intro w' hC
        go_simp
        with_reducible rfl
      rotate_left
      refine q_norm (a' := ?_) ?_ ?_
      rotate_left
      · show Act.put _ (some 5) _ = _
        simp only [Act.put, List.setIfInBounds_toArray, List.set_cons_zero, List.set_cons_succ]
        rfl
      refine q_on (v := ?_) (by rfl) ?_ ?_
      rotate_left
      · intro w' hC
        have c0 := (B1.out.chg hC id).cell 0
        have c1 := (B1.out.chg hC id).cell 1
        go_simp
        with_reducible rfl
      rotate_left
      refine q_norm (a' := ?_) ?_ ?_
      rotate_left
      · show Act.put _ (some 6) _ = _
        simp only [Act.put, List.setIfInBounds_toArray, List.set_cons_zero, List.set_cons_succ]
        rfl
      refine q_call (f := 187) Tryz.func187 (by kernel_rfl) rfl #[.int .i64 (k : Nat)] (by rfl) rfl (by simp only [List.map_toArray, List.map_cons, List.map_nil]; rfl) _ (fun w' hC => q_of hC (is_yes hk w')) ?_
      refine q_norm (a' := ?_) ?_ ?_
      rotate_left
      · show Act.put _ (some 7) _ = _
        simp only [Act.put, List.setIfInBounds_toArray, List.set_cons_zero, List.set_cons_succ]
        rfl
      refine q_on (v := ?_) (by rfl) ?_ ?_
      rotate_left
      · intro w' hC
        go_simp
        with_reducible rfl
      rotate_left
      refine q_norm (a' := ?_) ?_ ?_
      rotate_left
      · show Act.put _ (some 8) _ = _
        simp only [Act.put, List.setIfInBounds_toArray, List.set_cons_zero, List.set_cons_succ]
        rfl
      refine q_on (v := ?_) (by rfl) ?_ ?_
      rotate_left
      · intro w' hC
        go_simp
        with_reducible rfl
      rotate_left
      refine q_norm (a' := ?_) ?_ ?_
      rotate_left
      · show Act.put _ (some 9) _ = _
        simp only [Act.put, List.setIfInBounds_toArray, List.set_cons_zero, List.set_cons_succ]
        rfl
      refine q_on (v := ?_) (by rfl) ?_ ?_
      rotate_left
      · intro w' hC
        have c0 := (B1.out.chg hC id).cell 0
        have c1 := (B1.out.chg hC id).cell 1
        go_simp
        with_reducible rfl
      rotate_left
      refine q_norm (a' := ?_) ?_ ?_
      rotate_left
      · show Act.put _ (some 10) _ = _
        simp only [Act.put, List.setIfInBounds_toArray, List.set_cons_zero, List.set_cons_succ]
        rfl
      refine q_on (v := ?_) (by rfl) ?_ ?_
      rotate_left
      · intro w' hC
        go_simp
        with_reducible rfl
      rotate_left
      refine q_norm (a' := ?_) ?_ ?_
      rotate_left
      · show Act.put _ (some 11) _ = _
        simp only [Act.put, List.setIfInBounds_toArray, List.set_cons_zero, List.set_cons_succ]
        rfl
      refine q_on (v := ?_) (by rfl) ?_ ?_
      rotate_left
      · intro w' hC
        go_simp
        with_reducible rfl
      rotate_left
      refine q_norm (a' := ?_) ?_ ?_
      rotate_left
      · show Act.put _ (some 12) _ = _
        simp only [Act.put, List.setIfInBounds_toArray, List.set_cons_zero, List.set_cons_succ]
        rfl
      refine q_on (v := ?_) (by rfl) ?_ ?_
      rotate_left
      · intro w' hC
        go_simp
        with_reducible rfl
      rotate_left
      refine q_norm (a' := ?_) ?_ ?_
      rotate_left
      · show Act.put _ (some 13) _ = _
        simp only [Act.put, List.setIfInBounds_toArray, List.set_cons_zero, List.set_cons_succ]
        rfl
      refine q_on (v := ?_) (by rfl) ?_ ?_
      rotate_left
      · intro w' hC
        go_simp
        with_reducible rfl
      rotate_left
      refine q_norm (a' := ?_) ?_ ?_
      rotate_left
      · show Act.put _ (some 14) _ = _
        simp only [Act.put, List.setIfInBounds_toArray, List.set_cons_zero, List.set_cons_succ]
        rfl
      refine q_on (v := ?_) (by rfl) ?_ ?_
      rotate_left
      · intro w' hC
        have c0 := (B1.out.chg hC id).cell 0
        have c1 := (B1.out.chg hC id).cell 1
        go_simp
        with_reducible rfl
      rotate_left
      refine q_norm (a' := ?_) ?_ ?_
      rotate_left
      · show Act.put _ (some 15) _ = _
        simp only [Act.put, List.setIfInBounds_toArray, List.set_cons_zero, List.set_cons_succ]
        rfl
      refine q_on (v := ?_) (by rfl) ?_ ?_
      rotate_left
      · intro w' hC
        go_simp
        with_reducible rfl
      rotate_left
      refine q_norm (a' := ?_) ?_ ?_
      rotate_left
      · show Act.put _ (some 16) _ = _
        simp only [Act.put, List.setIfInBounds_toArray, List.set_cons_zero, List.set_cons_succ]
        rfl
      refine q_on (v := ?_) (by rfl) ?_ ?_
      rotate_left
      · intro w' hC
        have c0 := (B1.out.chg hC id).cell 0
        have c1 := (B1.out.chg hC id).cell 1
        go_simp
        with_reducible rfl
      rotate_left
      refine q_norm (a' := ?_) ?_ ?_
      rotate_left
      · show Act.put _ (some 17) _ = _
        simp only [Act.put, List.setIfInBounds_toArray, List.set_cons_zero, List.set_cons_succ]
        rfl
      refine q_on (v := ?_) (by rfl) ?_ ?_
      rotate_left
      · intro w' hC
        go_simp
        with_reducible rfl
      rotate_left
      refine q_norm (a' := ?_) ?_ ?_
      rotate_left
      · show Act.put _ (some 18) _ = _
        simp only [Act.put, List.setIfInBounds_toArray, List.set_cons_zero, List.set_cons_succ]
        rfl
      refine q_on (v := ?_) (by rfl) ?_ ?_
      rotate_left
      · intro w' hC
        have hv := ((B0.out.chg hC id).cell k).trans (va_get f hk)
        go_simp
        with_reducible rfl
      rotate_left
      refine q_norm (a' := ?_) ?_ ?_
      rotate_left
      · show Act.put _ (some 19) _ = _
        simp only [Act.put, List.setIfInBounds_toArray, List.set_cons_zero, List.set_cons_succ]
        rfl
      refine q_on (v := ?_) (by rfl) ?_ ?_
      rotate_left
      · intro w' hC
        go_simp
        with_reducible rfl
      rotate_left
      refine q_norm (a' := ?_) ?_ ?_
      rotate_left
      · show Act.put _ (some 20) _ = _
        simp only [Act.put, List.setIfInBounds_toArray, List.set_cons_zero, List.set_cons_succ]
        rfl
      refine q_on (v := ?_) (by rfl) ?_ ?_
      rotate_left
      · intro w' hC
        go_simp
        with_reducible rfl
      rotate_left
      refine q_norm (a' := ?_) ?_ ?_
      rotate_left
      · show Act.put _ (some 21) _ = _
        simp only [Act.put, List.setIfInBounds_toArray, List.set_cons_zero, List.set_cons_succ]
        rfl
      refine q_on (v := ?_) (by rfl) ?_ ?_
      rotate_left
      · intro w' hC
        go_simp
        with_reducible rfl
      rotate_left
      refine q_norm (a' := ?_) ?_ ?_
      rotate_left
      · show Act.put _ (some 4) _ = _
        simp only [Act.put, List.setIfInBounds_toArray, List.set_cons_zero, List.set_cons_succ]
        rfl
      refine wpQuiet_nil ?_
      intro w' hC
      go_wp2_with fail
      go_ret
      exact ⟨by simp [cov, hk2, hx], HC.out.trans hC⟩
    · have hx1 : decide (x ≥ 1) = false := decide_eq_false hx
      have HX := Lib.hid (cov_no (f := f) (n := k) hx)
      refine q_start (by kernel_rfl) (by kernel_rfl) ?_
      refine q_on (v := ?_) (by rfl) ?_ ?_
      rotate_left
      · intro w' hC
        go_simp
        with_reducible rfl
      rotate_left
      refine q_norm (a' := ?_) ?_ ?_
      rotate_left
      · show Act.put _ (some 5) _ = _
        simp only [Act.put, List.setIfInBounds_toArray, List.set_cons_zero, List.set_cons_succ]
        rfl
      refine q_on (v := ?_) (by rfl) ?_ ?_
      rotate_left
      · intro w' hC
        have c0 := (B1.out.chg hC id).cell 0
        have c1 := (B1.out.chg hC id).cell 1
        go_simp
        with_reducible rfl
      rotate_left
      refine q_norm (a' := ?_) ?_ ?_
      rotate_left
      · show Act.put _ (some 6) _ = _
        simp only [Act.put, List.setIfInBounds_toArray, List.set_cons_zero, List.set_cons_succ]
        rfl
      refine q_call (f := 187) Tryz.func187 (by kernel_rfl) rfl #[.int .i64 (k : Nat)] (by rfl) rfl (by simp only [List.map_toArray, List.map_cons, List.map_nil]; rfl) _ (fun w' hC => q_of hC (is_yes hk w')) ?_
      refine q_norm (a' := ?_) ?_ ?_
      rotate_left
      · show Act.put _ (some 7) _ = _
        simp only [Act.put, List.setIfInBounds_toArray, List.set_cons_zero, List.set_cons_succ]
        rfl
      refine q_on (v := ?_) (by rfl) ?_ ?_
      rotate_left
      · intro w' hC
        go_simp
        with_reducible rfl
      rotate_left
      refine q_norm (a' := ?_) ?_ ?_
      rotate_left
      · show Act.put _ (some 8) _ = _
        simp only [Act.put, List.setIfInBounds_toArray, List.set_cons_zero, List.set_cons_succ]
        rfl
      refine q_on (v := ?_) (by rfl) ?_ ?_
      rotate_left
      · intro w' hC
        go_simp
        with_reducible rfl
      rotate_left
      refine q_norm (a' := ?_) ?_ ?_
      rotate_left
      · show Act.put _ (some 9) _ = _
        simp only [Act.put, List.setIfInBounds_toArray, List.set_cons_zero, List.set_cons_succ]
        rfl
      refine q_on (v := ?_) (by rfl) ?_ ?_
      rotate_left
      · intro w' hC
        have c0 := (B1.out.chg hC id).cell 0
        have c1 := (B1.out.chg hC id).cell 1
        go_simp
        with_reducible rfl
      rotate_left
      refine q_norm (a' := ?_) ?_ ?_
      rotate_left
      · show Act.put _ (some 10) _ = _
        simp only [Act.put, List.setIfInBounds_toArray, List.set_cons_zero, List.set_cons_succ]
        rfl
      refine q_on (v := ?_) (by rfl) ?_ ?_
      rotate_left
      · intro w' hC
        go_simp
        with_reducible rfl
      rotate_left
      refine q_norm (a' := ?_) ?_ ?_
      rotate_left
      · show Act.put _ (some 11) _ = _
        simp only [Act.put, List.setIfInBounds_toArray, List.set_cons_zero, List.set_cons_succ]
        rfl
      refine q_on (v := ?_) (by rfl) ?_ ?_
      rotate_left
      · intro w' hC
        go_simp
        with_reducible rfl
      rotate_left
      refine q_norm (a' := ?_) ?_ ?_
      rotate_left
      · show Act.put _ (some 12) _ = _
        simp only [Act.put, List.setIfInBounds_toArray, List.set_cons_zero, List.set_cons_succ]
        rfl
      refine q_on (v := ?_) (by rfl) ?_ ?_
      rotate_left
      · intro w' hC
        go_simp
        with_reducible rfl
      rotate_left
      refine q_norm (a' := ?_) ?_ ?_
      rotate_left
      · show Act.put _ (some 13) _ = _
        simp only [Act.put, List.setIfInBounds_toArray, List.set_cons_zero, List.set_cons_succ]
        rfl
      refine q_off (by rfl) ?_
      refine q_norm (a' := ?_) ?_ ?_
      rotate_left
      · show Act.put _ (some 14) _ = _
        simp only [Act.put, List.setIfInBounds_toArray, List.set_cons_zero, List.set_cons_succ]
        rfl
      refine q_off (by rfl) ?_
      refine q_norm (a' := ?_) ?_ ?_
      rotate_left
      · show Act.put _ (some 15) _ = _
        simp only [Act.put, List.setIfInBounds_toArray, List.set_cons_zero, List.set_cons_succ]
        rfl
      refine q_off (by rfl) ?_
      refine q_norm (a' := ?_) ?_ ?_
      rotate_left
      · show Act.put _ (some 16) _ = _
        simp only [Act.put, List.setIfInBounds_toArray, List.set_cons_zero, List.set_cons_succ]
        rfl
      refine q_off (by rfl) ?_
      refine q_norm (a' := ?_) ?_ ?_
      rotate_left
      · show Act.put _ (some 17) _ = _
        simp only [Act.put, List.setIfInBounds_toArray, List.set_cons_zero, List.set_cons_succ]
        rfl
      refine q_off (by rfl) ?_
      refine q_norm (a' := ?_) ?_ ?_
      rotate_left
      · show Act.put _ (some 18) _ = _
        simp only [Act.put, List.setIfInBounds_toArray, List.set_cons_zero, List.set_cons_succ]
        rfl
      refine q_off (by rfl) ?_
      refine q_norm (a' := ?_) ?_ ?_
      rotate_left
      · show Act.put _ (some 19) _ = _
        simp only [Act.put, List.setIfInBounds_toArray, List.set_cons_zero, List.set_cons_succ]
        rfl
      refine q_off (by rfl) ?_
      refine q_norm (a' := ?_) ?_ ?_
      rotate_left
      · show Act.put _ (some 20) _ = _
        simp only [Act.put, List.setIfInBounds_toArray, List.set_cons_zero, List.set_cons_succ]
        rfl
      refine q_on (v := ?_) (by rfl) ?_ ?_
      rotate_left
      · intro w' hC
        go_simp
        with_reducible rfl
      rotate_left
      refine q_norm (a' := ?_) ?_ ?_
      rotate_left
      · show Act.put _ (some 21) _ = _
        simp only [Act.put, List.setIfInBounds_toArray, List.set_cons_zero, List.set_cons_succ]
        rfl
      refine q_on (v := ?_) (by rfl) ?_ ?_
      rotate_left
      · intro w' hC
        go_simp
        with_reducible rfl
      rotate_left
      refine q_norm (a' := ?_) ?_ ?_
      rotate_left
      · show Act.put _ (some 4) _ = _
        simp only [Act.put, List.setIfInBounds_toArray, List.set_cons_zero, List.set_cons_succ]
        rfl
      refine wpQuiet_nil ?_
      intro w' hC
      go_wp2_with fail
      go_ret
      exact ⟨by rw [cov, HX.out]; rfl, HC.out.trans hC⟩
  · have hi := hn
    refine q_start (by kernel_rfl) (by kernel_rfl) ?_
    refine q_on (v := ?_) (by rfl) ?_ ?_
    rotate_left
    · intro w' hC
      go_simp
      with_reducible rfl
    rotate_left
    refine q_norm (a' := ?_) ?_ ?_
    rotate_left
    · show Act.put _ (some 5) _ = _
      simp only [Act.put, List.setIfInBounds_toArray, List.set_cons_zero, List.set_cons_succ]
      rfl
    refine q_on (v := ?_) (by rfl) ?_ ?_
    rotate_left
    · intro w' hC
      have c0 := (B1.out.chg hC id).cell 0
      have c1 := (B1.out.chg hC id).cell 1
      go_simp
      with_reducible rfl
    rotate_left
    refine q_norm (a' := ?_) ?_ ?_
    rotate_left
    · show Act.put _ (some 6) _ = _
      simp only [Act.put, List.setIfInBounds_toArray, List.set_cons_zero, List.set_cons_succ]
      rfl
    refine q_call (f := 187) Tryz.func187 (by kernel_rfl) rfl #[.int .i64 n] (by rfl) rfl (by simp only [List.map_toArray, List.map_cons, List.map_nil]; rfl) _ (fun w' hC => q_of hC (is_no hi w')) ?_
    refine q_norm (a' := ?_) ?_ ?_
    rotate_left
    · show Act.put _ (some 7) _ = _
      simp only [Act.put, List.setIfInBounds_toArray, List.set_cons_zero, List.set_cons_succ]
      rfl
    refine q_on (v := ?_) (by rfl) ?_ ?_
    rotate_left
    · intro w' hC
      go_simp
      with_reducible rfl
    rotate_left
    refine q_norm (a' := ?_) ?_ ?_
    rotate_left
    · show Act.put _ (some 8) _ = _
      simp only [Act.put, List.setIfInBounds_toArray, List.set_cons_zero, List.set_cons_succ]
      rfl
    refine q_off (by rfl) ?_
    refine q_norm (a' := ?_) ?_ ?_
    rotate_left
    · show Act.put _ (some 9) _ = _
      simp only [Act.put, List.setIfInBounds_toArray, List.set_cons_zero, List.set_cons_succ]
      rfl
    refine q_off (by rfl) ?_
    refine q_norm (a' := ?_) ?_ ?_
    rotate_left
    · show Act.put _ (some 10) _ = _
      simp only [Act.put, List.setIfInBounds_toArray, List.set_cons_zero, List.set_cons_succ]
      rfl
    refine q_off (by rfl) ?_
    refine q_norm (a' := ?_) ?_ ?_
    rotate_left
    · show Act.put _ (some 11) _ = _
      simp only [Act.put, List.setIfInBounds_toArray, List.set_cons_zero, List.set_cons_succ]
      rfl
    refine q_on (v := ?_) (by rfl) ?_ ?_
    rotate_left
    · intro w' hC
      go_simp
      with_reducible rfl
    rotate_left
    refine q_norm (a' := ?_) ?_ ?_
    rotate_left
    · show Act.put _ (some 12) _ = _
      simp only [Act.put, List.setIfInBounds_toArray, List.set_cons_zero, List.set_cons_succ]
      rfl
    refine q_on (v := ?_) (by rfl) ?_ ?_
    rotate_left
    · intro w' hC
      go_simp
      with_reducible rfl
    rotate_left
    refine q_norm (a' := ?_) ?_ ?_
    rotate_left
    · show Act.put _ (some 13) _ = _
      simp only [Act.put, List.setIfInBounds_toArray, List.set_cons_zero, List.set_cons_succ]
      rfl
    refine q_off (by rfl) ?_
    refine q_norm (a' := ?_) ?_ ?_
    rotate_left
    · show Act.put _ (some 14) _ = _
      simp only [Act.put, List.setIfInBounds_toArray, List.set_cons_zero, List.set_cons_succ]
      rfl
    refine q_off (by rfl) ?_
    refine q_norm (a' := ?_) ?_ ?_
    rotate_left
    · show Act.put _ (some 15) _ = _
      simp only [Act.put, List.setIfInBounds_toArray, List.set_cons_zero, List.set_cons_succ]
      rfl
    refine q_off (by rfl) ?_
    refine q_norm (a' := ?_) ?_ ?_
    rotate_left
    · show Act.put _ (some 16) _ = _
      simp only [Act.put, List.setIfInBounds_toArray, List.set_cons_zero, List.set_cons_succ]
      rfl
    refine q_off (by rfl) ?_
    refine q_norm (a' := ?_) ?_ ?_
    rotate_left
    · show Act.put _ (some 17) _ = _
      simp only [Act.put, List.setIfInBounds_toArray, List.set_cons_zero, List.set_cons_succ]
      rfl
    refine q_off (by rfl) ?_
    refine q_norm (a' := ?_) ?_ ?_
    rotate_left
    · show Act.put _ (some 18) _ = _
      simp only [Act.put, List.setIfInBounds_toArray, List.set_cons_zero, List.set_cons_succ]
      rfl
    refine q_off (by rfl) ?_
    refine q_norm (a' := ?_) ?_ ?_
    rotate_left
    · show Act.put _ (some 19) _ = _
      simp only [Act.put, List.setIfInBounds_toArray, List.set_cons_zero, List.set_cons_succ]
      rfl
    refine q_off (by rfl) ?_
    refine q_norm (a' := ?_) ?_ ?_
    rotate_left
    · show Act.put _ (some 20) _ = _
      simp only [Act.put, List.setIfInBounds_toArray, List.set_cons_zero, List.set_cons_succ]
      rfl
    refine q_on (v := ?_) (by rfl) ?_ ?_
    rotate_left
    · intro w' hC
      go_simp
      with_reducible rfl
    rotate_left
    refine q_norm (a' := ?_) ?_ ?_
    rotate_left
    · show Act.put _ (some 21) _ = _
      simp only [Act.put, List.setIfInBounds_toArray, List.set_cons_zero, List.set_cons_succ]
      rfl
    refine q_on (v := ?_) (by rfl) ?_ ?_
    rotate_left
    · intro w' hC
      go_simp
      with_reducible rfl
    rotate_left
    refine q_norm (a' := ?_) ?_ ?_
    rotate_left
    · show Act.put _ (some 4) _ = _
      simp only [Act.put, List.setIfInBounds_toArray, List.set_cons_zero, List.set_cons_succ]
      rfl
    refine wpQuiet_nil ?_
    intro w' hC
    go_wp2_with fail
    go_ret
    exact ⟨by rw [cov, decide_eq_false (fun h => hn h.1)]; rfl, HC.out.trans hC⟩

def leq (f g : Vc) : Bool := veq (jn f g) g
attribute [local go_sem] eq_nums


def inr_ (x : Int) : Prop := 0 ≤ x ∧ x ≤ 1099511627776
instance (x : Int) : Decidable (inr_ x) := by unfold inr_; infer_instance
def may (f : Vc) : Bool := (List.range 8).all fun k => decide (inr_ (f k))
theorem may_iff {f : Vc} : may f = true ↔ ∀ k, k < 8 → inr_ (f k) := by simp [may]
theorem may_no {f : Vc} {k : Nat} (hk : k < 8) (h : ¬ inr_ (f k)) : may f = false := by
  cases hm : may f with
  | false => rfl
  | true => exact absurd (may_iff.1 hm k hk) h
theorem may_any (f : Vc) (w : World) : Calls Tryz.prog 136 #[vec f] w fun e w' => e = .returned (.bool (may f)) ∧ Chg NoB w w' := by
  go_enter Tryz.func136, Tryz.ntmps136
  go_wp2_with fail
  have HC : Hid (Chg NoB w (w.alloc (Obj.cells (va f) 46))) := Lib.hid ((Chg.refl _ w).alloc _)
  generalize w.alloc (Obj.cells (va f) 46) = W at *
  go_loopw [6] (fun i wr => ∃ k : Nat, k ≤ 8 ∧ i = .int .i64 k ∧ (∀ j, j < k → inr_ (f j)) ∧ W = wr) (fun i _ => 8 - (intOf i).toNat)
  case atStart => exact ⟨0, by decide, rfl, fun j h => absurd h (by omega), rfl⟩
  case round =>
    obtain ⟨k, hk, rfl, hj, rfl⟩ := hrel
    have HJ := Lib.hid hj
    clear hj
    by_cases hlt : k < 8
    · have hix := idx f hlt
      have hk2 : ((k : Nat) : Int) < 8 := by omega
      by_cases h0 : f k < 0
      · go_wp2_with fail
        go_ret
        exact ⟨by rw [may_no hlt (fun h => by have := h.1; omega)]; rfl, HC.out⟩
      · by_cases h1 : f k > 1099511627776
        · go_wp2_with fail
          go_ret
          exact ⟨by rw [may_no hlt (fun h => by have := h.2; omega)]; rfl, HC.out⟩
        · go_wp2_with fail
          go_roundw
          case rel =>
            refine ⟨k + 1, by omega, by go_num, fun j hj => ?_, by first | rfl | trivial⟩
            by_cases e : j = k
            · subst e; exact ⟨by omega, by omega⟩
            · exact HJ.out j (by omega)
          case measure => simp [intOf]; omega
    · obtain rfl : k = 8 := by omega
      go_wp2_with fail
      go_ret
      exact ⟨by rw [may_iff.2 HJ.out]; rfl, HC.out⟩
end Go.Proofs.YtoefffjhjmjhfaaGreat
