/- A vector's text, at the vector that every program must know; that knowledge. No statement is proved here. -/
import Derived.Test.YthkmocfdpmlllabDoorVectorB
import Derived.Deep.AppendLies
namespace Go.Proofs.YthkmocfdpmlllabDoor
open Go.RowKit
attribute [local go_sem] max2_mx max_two_ eq_nums
def f02 : Vc := fun k => if k = 1 then 2 else 0
theorem Tryd.infS : (Tryd.prog.info? 9).map (fun i => (i.zero, i.size, i.bytes)) = some (some (.string ByteArray.empty), 1, 16) := by kernel_rfl
theorem grown_chg {w w' : World} {g : Nat} {n c : Nat} (h : w.grownBy w' (Value.slice (some ⟨g, 0, none⟩) n c).ownBlock) : Chg (Only g) w w' := by
  exact ⟨h.1, h.2, h.3, h.4, fun k hk hn => h.5 k hk (fun e => hn (Option.some.inj e))⟩
set_option maxRecDepth 100000 in
set_option maxHeartbeats 2000000 in
theorem text02 (w : World) : Calls Tryd.prog 19 #[vec f02] w fun e w' => e = .returned (.string ⟨#[48, 44, 50]⟩) ∧ Chg NoB w w' := by
  have hd0 : Lib.decDigits 0 = [48] := by kernel_rfl
  have hd2 : Lib.decDigits 2 = [50] := by kernel_rfl
  have F0 : ∀ w, Calls Tryd.prog 35 #[.int .i64 0, .int .i64 10] w fun e w' => e = .returned (.string ⟨#[48]⟩) ∧ w' = w := fun w => hd0 ▸ Tryd.strconv_FormatInt_10_small 0 (by decide) w
  have F2 : ∀ w, Calls Tryd.prog 35 #[.int .i64 2, .int .i64 10] w fun e w' => e = .returned (.string ⟨#[50]⟩) ∧ w' = w := fun w => hd2 ▸ Tryd.strconv_FormatInt_10_small 2 (by decide) w
  have G0 := Lib.hid F0
  have G2 := Lib.hid F2
  clear F0 F2 hd0 hd2
  have hv : vec f02 = .agg #[.int .i64 0, .int .i64 2, .int .i64 0, .int .i64 0, .int .i64 0, .int .i64 0, .int .i64 0, .int .i64 0] := rfl
  rw [hv]
  clear hv
  go_enter Tryd.func19, Tryd.ntmps19
  go_wp2_with fail
  refine (G0.out _).mono ?_
  rintro e w1 ⟨rfl, rfl⟩
  go_wp2_with fail
  generalize hW : (w.alloc (Obj.cells #[.int .i64 0, .int .i64 2, .int .i64 0, .int .i64 0, .int .i64 0, .int .i64 0, .int .i64 0, .int .i64 0] 23)).alloc (Obj.cells #[.string ⟨#[48]⟩] 9) = W
  have hS : W.heap.size = w.heap.size + 1 + 1 := by rw [← hW]; simp
  have B0 : Hid (Blk W w.heap.size 23 (va f02)) := by rw [← hW]; exact (Blk.new _ _ _).alloc _
  have B1 : Hid (Blk W (w.heap.size + 1) 9 #[.string ⟨#[48]⟩]) := by rw [← hW]; exact Blk.new_ _ _ _ (by simp)
  have HC : Hid (Chg NoB w W) := by rw [← hW]; exact ((Chg.refl _ w).alloc _).alloc _
  clear hW
  have c0 : W.cell? ⟨w.heap.size, 0, none⟩ = some (.int .i64 0) := B0.out.cell 0
  have c1 : W.cell? ⟨w.heap.size, 1, none⟩ = some (.int .i64 2) := B0.out.cell 1
  have c2 : W.cell? ⟨w.heap.size, 2, none⟩ = some (.int .i64 0) := B0.out.cell 2
  have c3 : W.cell? ⟨w.heap.size, 3, none⟩ = some (.int .i64 0) := B0.out.cell 3
  have c4 : W.cell? ⟨w.heap.size, 4, none⟩ = some (.int .i64 0) := B0.out.cell 4
  have c5 : W.cell? ⟨w.heap.size, 5, none⟩ = some (.int .i64 0) := B0.out.cell 5
  have c6 : W.cell? ⟨w.heap.size, 6, none⟩ = some (.int .i64 0) := B0.out.cell 6
  have c7 : W.cell? ⟨w.heap.size, 7, none⟩ = some (.int .i64 0) := B0.out.cell 7
  refine wp_loop_rounds 8 ?_
  rw [rounds_succ]
  go_wp2_with fail
  refine wp_loop_rounds 1 ?_
  rw [rounds_succ]
  go_wp2_with fail
  refine (G2.out _).mono ?_
  rintro e W ⟨rfl, rfl⟩
  obtain ⟨i9, hi9, z9, s9, y9⟩ := info_parts Tryd.infS
  have hown : W.ownsRow (w.heap.size + 1) 9 1 (.slice (some ⟨w.heap.size + 1, 0, none⟩) 1 1) 1 [.string ⟨#[48]⟩] := ⟨rfl, .inr ⟨_, _, _, rfl, Nat.le_refl _, B1.out, Nat.le_refl _, by unfold maxLen; omega, rfl, rfl⟩⟩
  have hown2 := World.ownsRow.alloc hown (.cells #[.string ⟨#[50]⟩] 9)
  have hnw := World.news_of_block (w := W.alloc (.cells #[.string ⟨#[50]⟩] 9)) (heap_alloc_new W _)
  rw [hS] at hnw
  go_wp2_with (at_builtin; refine wpList_append_lies _ rfl _ _ _ rfl (w.heap.size + 1) 9 i9 _ 1 16 Tryd.underlying64 hi9 z9 s9 y9 rfl (by omega) _ 1 [.string ⟨#[48]⟩] rfl hown2 _ 1 1 [.string ⟨#[50]⟩] rfl rfl hnw (by intro u hu; simp only [List.mem_singleton] at hu; subst hu; rfl) (by omega) (by decide) (by decide) (by simp; omega) (w.heap.size + 1 + 1 + 1) (by simp [hS]) ?_)
  intro g cap w1 hown1 hgrow hat hlt
  have hC1 : Chg (Only (w.heap.size + 1)) W w1 := ((Chg.refl _ W).alloc (.cells #[.string ⟨#[50]⟩] 9)).trans (grown_chg hgrow)
  have hCW : Chg NoB w w1 := HC.out.then_ hC1 (fun j hj hs => by unfold Only at hs; omega)
  obtain ⟨_, hr⟩ := hown1
  rcases hr with ⟨h0, _⟩ | ⟨g', cap', cur, hv, _, hB, hn2, hcap, hsz, htk⟩
  · cases h0
  cases hv
  have hx : ∀ (j : Nat) (x : ByteArray), [(⟨#[48]⟩ : ByteArray), ⟨#[50]⟩][j]? = some x → w1.cell? ⟨g, 0 + j, none⟩ = some (.string x) := by
    intro j x hj
    have hj2 : j < 2 := (List.getElem?_eq_some_iff.1 hj).1
    rw [cell_of_row w1 g (0 + j) cur 9 (0, 0) hB, Nat.zero_add, ← Array.getElem?_toList, ← List.getElem?_take_of_lt (show j < 2 * 1 by omega), htk]
    match j, hj2, hj with
    | 0, _, hj => cases hj; rfl
    | 1, _, hj => cases hj; rfl
  have HX := Lib.hid hx
  have HCW := Lib.hid hCW
  have B2 := Lib.hid (B0.out.chg hC1 (by unfold Only; omega))
  have HL := Lib.hid hlt
  have HN := Lib.hid hn2
  clear c0 c1 c2 c3 c4 c5 c6 c7 hown hown2 hnw hgrow hat hC1 hCW hx hB hcap hsz htk B0 B1 HC G0 G2 hi9 z9 s9 y9 hS hlt hn2
  have c2 : w1.cell? ⟨w.heap.size, 2, none⟩ = some (.int .i64 0) := B2.out.cell 2
  have c3 : w1.cell? ⟨w.heap.size, 3, none⟩ = some (.int .i64 0) := B2.out.cell 3
  have c4 : w1.cell? ⟨w.heap.size, 4, none⟩ = some (.int .i64 0) := B2.out.cell 4
  have c5 : w1.cell? ⟨w.heap.size, 5, none⟩ = some (.int .i64 0) := B2.out.cell 5
  have c6 : w1.cell? ⟨w.heap.size, 6, none⟩ = some (.int .i64 0) := B2.out.cell 6
  have c7 : w1.cell? ⟨w.heap.size, 7, none⟩ = some (.int .i64 0) := B2.out.cell 7
  go_wp2_with fail
  rw [rounds_succ]
  go_wp2_with fail
  rw [rounds_succ]
  go_wp2_with fail
  rw [rounds_succ]
  go_wp2_with fail
  rw [rounds_succ]
  go_wp2_with fail
  rw [rounds_succ]
  go_wp2_with fail
  rw [rounds_succ]
  go_wp2_with fail
  rw [rounds_succ]
  go_wp2_with fail
  refine (Tryd.strings_Join g 0 cap [⟨#[48]⟩, ⟨#[50]⟩] ⟨#[44]⟩ w1 HX.out HL.out (by decide) HN.out (by decide)).mono ?_
  rintro e w2 ⟨rfl, hB⟩
  have HB := Lib.hid hB
  clear hB
  go_wp2_with fail
  go_ret
  exact ⟨rfl, HCW.out.trans (Chg.of_below HB.out)⟩

def v00 : Vc := fun _ => 0
set_option maxRecDepth 100000 in
set_option maxHeartbeats 2000000 in
theorem awake_any (w : World) : Calls Tryd.prog 16 #[] w fun e w' => e = .returned (.bool true) ∧ Chg NoB w w' := by
  have hw : ∀ w, Calls Tryd.prog 29 #[.agg #[.int .i64 0, .int .i64 0, .int .i64 0, .int .i64 0, .int .i64 0, .int .i64 0, .int .i64 0, .int .i64 0], .agg #[.int .i64 1, .int .i64 2]] w fun e w' => e = .returned (.agg #[.int .i64 0, .int .i64 2, .int .i64 0, .int .i64 0, .int .i64 0, .int .i64 0, .int .i64 0, .int .i64 0]) ∧ Chg NoB w w' := fun w => with_any v00 1 2 w
  have hc : ∀ w, Calls Tryd.prog 30 #[vec f02, .agg #[.int .i64 1, .int .i64 2]] w fun e w' => e = .returned (.bool true) ∧ Chg NoB w w' := fun w => covers_any f02 1 2 w
  have hl : ∀ w, Calls Tryd.prog 31 #[vec f02, vec v00] w fun e w' => e = .returned (.bool false) ∧ Chg NoB w w' := fun w => leq_any f02 v00 w
  have HW := Lib.hid hw
  have HCO := Lib.hid hc
  have HLE := Lib.hid hl
  clear hw hc hl
  go_enter Tryd.func16, Tryd.ntmps16
  go_wp2_with fail
  refine (HW.out _).mono ?_
  rintro e w1 ⟨rfl, hC⟩
  have HC := Lib.hid hC
  clear hC
  go_wp2_with fail
  generalize hW2 : w1.alloc (Obj.cells #[.int .i64 0, .int .i64 2, .int .i64 0, .int .i64 0, .int .i64 0, .int .i64 0, .int .i64 0, .int .i64 0] 23) = W2
  have B0 : Hid (Blk W2 w1.heap.size 23 (va f02)) := by rw [← hW2]; exact Blk.new _ _ _
  have HC2 : Hid (Chg NoB w W2) := by rw [← hW2]; exact HC.out.alloc _
  clear hW2
  refine (text02 _).mono ?_
  rintro e w3 ⟨rfl, hC⟩
  have B3 := Lib.hid (B0.out.chg hC id)
  have HC3 := Lib.hid (HC2.out.trans hC)
  clear hC B0 HC2
  have c0 : w3.cell? ⟨w1.heap.size, 0, none⟩ = some (.int .i64 0) := B3.out.cell 0
  have c1 : w3.cell? ⟨w1.heap.size, 1, none⟩ = some (.int .i64 2) := B3.out.cell 1
  have c2 : w3.cell? ⟨w1.heap.size, 2, none⟩ = some (.int .i64 0) := B3.out.cell 2
  have c3 : w3.cell? ⟨w1.heap.size, 3, none⟩ = some (.int .i64 0) := B3.out.cell 3
  have c4 : w3.cell? ⟨w1.heap.size, 4, none⟩ = some (.int .i64 0) := B3.out.cell 4
  have c5 : w3.cell? ⟨w1.heap.size, 5, none⟩ = some (.int .i64 0) := B3.out.cell 5
  have c6 : w3.cell? ⟨w1.heap.size, 6, none⟩ = some (.int .i64 0) := B3.out.cell 6
  have c7 : w3.cell? ⟨w1.heap.size, 7, none⟩ = some (.int .i64 0) := B3.out.cell 7
  go_wp2_with fail
  refine (HCO.out _).mono ?_
  rintro e w4 ⟨rfl, hC⟩
  have B4 := Lib.hid (B3.out.chg hC id)
  have HC4 := Lib.hid (HC3.out.trans hC)
  clear hC B3 HC3 c0 c1 c2 c3 c4 c5 c6 c7
  have c0 : w4.cell? ⟨w1.heap.size, 0, none⟩ = some (.int .i64 0) := B4.out.cell 0
  have c1 : w4.cell? ⟨w1.heap.size, 1, none⟩ = some (.int .i64 2) := B4.out.cell 1
  have c2 : w4.cell? ⟨w1.heap.size, 2, none⟩ = some (.int .i64 0) := B4.out.cell 2
  have c3 : w4.cell? ⟨w1.heap.size, 3, none⟩ = some (.int .i64 0) := B4.out.cell 3
  have c4 : w4.cell? ⟨w1.heap.size, 4, none⟩ = some (.int .i64 0) := B4.out.cell 4
  have c5 : w4.cell? ⟨w1.heap.size, 5, none⟩ = some (.int .i64 0) := B4.out.cell 5
  have c6 : w4.cell? ⟨w1.heap.size, 6, none⟩ = some (.int .i64 0) := B4.out.cell 6
  have c7 : w4.cell? ⟨w1.heap.size, 7, none⟩ = some (.int .i64 0) := B4.out.cell 7
  go_wp2_with fail
  refine (HLE.out _).mono ?_
  rintro e w5 ⟨rfl, hC⟩
  have HC5 := Lib.hid (HC4.out.trans hC)
  clear hC B4 HC4 c0 c1 c2 c3 c4 c5 c6 c7
  go_wp2_with fail
  go_ret
  exact ⟨rfl, HC5.out⟩
end Go.Proofs.YthkmocfdpmlllabDoor
