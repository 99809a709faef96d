/- Contracts of package vector, the rest. No statement is proved here. -/
import Derived.Test.YthkmocfdpmlllabDoorVector
namespace Go.Proofs.YthkmocfdpmlllabDoor
open Go.RowKit
attribute [local go_sem] max2_mx max_two_ eq_nums

def wit (f : Vc) (n x : Int) : Vc := if 0 ≤ n ∧ n < 8 then upd f n.toNat (mx (f n.toNat) x) else f
set_option maxRecDepth 100000 in
set_option maxHeartbeats 4000000 in
theorem with_any (f : Vc) (n x : Int) (w : World) : Calls Tryd.prog 29 #[vec f, dot n x] w fun e w' => e = .returned (vec (wit f n x)) ∧ Chg NoB w w' := by
  by_cases hn : 0 ≤ n ∧ n < 8
  · obtain ⟨k, rfl⟩ := Int.eq_ofNat_of_zero_le hn.1
    have hk : k < 8 := by omega
    have hk2 : (k : Int) < 8 := hn.2
    have hwit : Hid (wit f k x = upd f k (mx (f k) x)) := Lib.hid (by rw [wit, if_pos hn]; rfl)
    clear hn
    rw [hwit.out]
    clear hwit
    go_enter Tryd.func29, Tryd.ntmps29
    go_wp2_with fail
    refine (is_yes hk _).mono ?_
    generalize hW : ((w.alloc (Obj.cells (va f) 23)).alloc (Obj.cells #[.int .i64 k, .int .i64 x] 61)).alloc (Obj.cells #[.int .i64 0, .int .i64 0, .int .i64 0, .int .i64 0, .int .i64 0, .int .i64 0, .int .i64 0, .int .i64 0] 23) = W
    rintro e W' ⟨rfl, hC⟩
    have hC0 : Chg NoB w W := by rw [← hW]; exact (((Chg.refl _ w).alloc _).alloc _).alloc _
    have B0 : Hid (Blk W' w.heap.size 23 (va f)) := Lib.hid (Blk.chg (by rw [← hW]; exact ((Blk.new _ _ _).alloc _).alloc _) hC id)
    have B1 : Hid (Blk W' (w.heap.size + 1) 61 #[.int .i64 k, .int .i64 x]) := Lib.hid (Blk.chg (by rw [← hW]; exact (Blk.new_ _ _ _ (by simp)).alloc _) hC id)
    have B2 : Hid (Blk W' (w.heap.size + 1 + 1) 23 (va fun _ => 0)) := Lib.hid (Blk.chg (by rw [← hW]; exact Blk.new_ _ _ _ (by simp)) hC id)
    have HC : Hid (Chg NoB w W') := Lib.hid (hC0.trans hC)
    clear hW hC0 hC
    have c0 := B1.out.cell 0
    have c1 := B1.out.cell 1
    have hv := (B0.out.cell k).trans (va_get f hk)
    have hf := B0.out.frozen k
    go_wp2_with fail
    refine region_tail 10 (by kernel_rfl) (by kernel_rfl) ?_
    simp only [List.take_succ_cons, List.take_zero, List.drop_succ_cons, List.drop_zero]
    iterate 10 still_step
    refine wpStill_nil ?_
    clear c0 c1 hv hf
    have hv := (B0.out.drew.cell k).trans (va_get f hk)
    have hf := B0.out.drew.frozen k
    have BS := Lib.hid (bset B0.out hk (mx (f k) x))
    have DS := Lib.hid (B2.out.far (p := ⟨w.heap.size, k, none⟩) (show w.heap.size + 1 + 1 ≠ w.heap.size by omega) (.int .i64 (mx (f k) x)))
    have CS := Lib.hid (HC.out.setCell (p := ⟨w.heap.size, k, none⟩) (.inr (Nat.le_refl _)) (.int .i64 (mx (f k) x)))
    obtain ⟨c0, c1, c2, c3, c4, c5, c6, c7⟩ := eight BS.out
    obtain ⟨d0, d1, d2, d3, d4, d5, d6, d7⟩ := eight DS.out
    obtain ⟨f0, f1, f2, f3, f4, f5, f6, f7⟩ := eight_frozen DS.out
    go_wp2_with fail
    exact back_vec rfl (upd f k (mx (f k) x)) rfl (eight_set DS.out _ _ _ _ _ _ _ _).drew rfl ⟨rfl, (eight_chg CS.out (.inr (by omega)) _ _ _ _ _ _ _ _).drew⟩
  · have hwit : Hid (wit f n x = f) := Lib.hid (by rw [wit, if_neg hn])
    rw [hwit.out]
    clear hwit
    go_enter Tryd.func29, Tryd.ntmps29
    go_wp2_with fail
    refine (is_no hn _).mono ?_
    generalize hW : ((w.alloc (Obj.cells (va f) 23)).alloc (Obj.cells #[.int .i64 n, .int .i64 x] 61)).alloc (Obj.cells #[.int .i64 0, .int .i64 0, .int .i64 0, .int .i64 0, .int .i64 0, .int .i64 0, .int .i64 0, .int .i64 0] 23) = W
    rintro e W' ⟨rfl, hC⟩
    have hC0 : Chg NoB w W := by rw [← hW]; exact (((Chg.refl _ w).alloc _).alloc _).alloc _
    have B0 : Hid (Blk W' w.heap.size 23 (va f)) := Lib.hid (Blk.chg (by rw [← hW]; exact ((Blk.new _ _ _).alloc _).alloc _) hC id)
    have B2 : Hid (Blk W' (w.heap.size + 1 + 1) 23 (va fun _ => 0)) := Lib.hid (Blk.chg (by rw [← hW]; exact Blk.new_ _ _ _ (by simp)) hC id)
    have HC : Hid (Chg NoB w W') := Lib.hid (hC0.trans hC)
    clear hW hC0 hC
    obtain ⟨c0, c1, c2, c3, c4, c5, c6, c7⟩ := eight B0.out
    obtain ⟨d0, d1, d2, d3, d4, d5, d6, d7⟩ := eight B2.out
    obtain ⟨f0, f1, f2, f3, f4, f5, f6, f7⟩ := eight_frozen B2.out
    go_wp2_with fail
    exact back_vec rfl f rfl (eight_set B2.out _ _ _ _ _ _ _ _) rfl ⟨rfl, eight_chg HC.out (.inr (by omega)) _ _ _ _ _ _ _ _⟩



end Go.Proofs.YthkmocfdpmlllabDoor
