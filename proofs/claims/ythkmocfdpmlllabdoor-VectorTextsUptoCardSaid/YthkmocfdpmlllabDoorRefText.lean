/- The reference's vector as a text. No statement is proved here. -/
import Derived.Test.YthkmocfdpmlllabDoorVectorText
namespace Go.Proofs.YthkmocfdpmlllabDoor
open Go.RowKit
attribute [local go_sem] max2_mx max_two_ eq_nums

/-- The texts of the first k numbers, joined. -/
def jt (f : Vc) (k : Nat) : ByteArray := ⟨(Lib.join ((decs f k).map (·.data.toList)) [44]).toArray⟩
theorem tx_jt (f : Vc) : tx f = jt f (top f 7 + 1) := rfl
theorem jt_one (f : Vc) : jt f 1 = dec (f 0) := by
  unfold jt
  rw [show decs f 1 = [dec (f 0)] by simp [decs], List.map_cons, List.map_nil, Lib.join_one]
theorem join_snoc (y : List UInt8) : ∀ L : List (List UInt8), L ≠ [] → Lib.join (L ++ [y]) [44] = Lib.join L [44] ++ ([44] ++ y)
  | [], h => absurd rfl h
  | [x], _ => by simp [Lib.join, List.intercalate]
  | x :: z :: r, _ => by
    have ih := join_snoc y (z :: r) (by simp)
    have e : ∀ l : List (List UInt8), Lib.join (x :: z :: l) [44] = x ++ [44] ++ Lib.join (z :: l) [44] := fun l => by simp [Lib.join, List.intercalate]
    rw [List.cons_append, List.cons_append, e, e, ← List.cons_append, ih]
    simp
theorem jt_succ (f : Vc) (k : Nat) : jt f (k + 1) ++ (⟨#[44]⟩ ++ dec (f (k + 1))) = jt f (k + 1 + 1) := by
  apply ByteArray.ext
  apply Array.toList_inj.1
  rw [ByteArray.data_append, ByteArray.data_append, Array.toList_append, Array.toList_append]
  unfold jt
  rw [decs_succ f (k + 1), List.map_append, List.map_cons, List.map_nil, join_snoc _ _ (by simp [decs])]
set_option maxRecDepth 100000 in
set_option maxHeartbeats 8000000 in
theorem rtext_int (f : Vc) (hf : ∀ k, k < 8 → -9223372036854775808 ≤ f k ∧ f k ≤ 9223372036854775807) (w : World) (ht : Tab w) : Calls Tryd.prog 20 #[vec f] w fun e w' => e = .returned (.string (tx f)) ∧ Chg NoB w w' := by
  have HF := Lib.hid hf
  have HT := Lib.hid ht
  clear hf ht
  go_enter Tryd.func20, Tryd.ntmps20
  go_wp2_with fail
  have B0 := Lib.hid (Blk.new w 23 (va f))
  have HC := Lib.hid ((Chg.refl NoB w).alloc (Obj.cells (va f) 23))
  generalize w.alloc _ = W at *
  go_loopw [3, 7] (fun n i wr => ∃ k : Nat, k ≤ 8 ∧ i = .int .i64 k ∧ n = .int .i64 (top f (k - 1)) ∧ wr = W) (fun _ i _ => 8 - (intOf i).toNat)
  case atStart => exact ⟨0, by decide, rfl, rfl, rfl⟩
  case round =>
    obtain ⟨k, hk, rfl, rfl, rfl⟩ := hrel
    by_cases hlt : k < 8
    · have hk8 : (k : Int) < 8 := by omega
      have hv : wr.cell? ⟨w.heap.size, k, none⟩ = some (.int .i64 (f k)) := (B0.out.cell k).trans (va_get f hlt)
      by_cases hz : f k = 0
      · have hz1 : (f k == 0) = true := by simp [hz]
        have HTop : Hid (top f k = top f (k - 1)) := Lib.hid (by cases k with | zero => rfl | succ j => rw [top, if_pos hz]; rfl)
        clear hz
        go_wp2_with fail
        go_roundw
        case rel => exact ⟨k + 1, by omega, by go_num, by rw [Nat.add_sub_cancel, HTop.out], trivial⟩
        case measure => simp [intOf]; omega
      · have hz1 : (f k == 0) = false := by simpa using hz
        have HTop : Hid (top f k = k) := Lib.hid (by cases k with | zero => rfl | succ j => rw [top, if_neg hz])
        clear hz
        go_wp2_with fail
        go_roundw
        case rel => exact ⟨k + 1, by omega, by go_num, by rw [Nat.add_sub_cancel, HTop.out], trivial⟩
        case measure => simp [intOf]; omega
    · obtain rfl : k = 8 := by omega
      have ht7 := top_le f 7
      have hv : wr.cell? ⟨w.heap.size, 0, none⟩ = some (.int .i64 (f 0)) := (B0.out.cell 0).trans (va_get f (by decide))
      have HTx : Hid (tx f = jt f (top f 7 + 1)) := Lib.hid (tx_jt f)
      have e8 : top f (8 - 1) = top f 7 := rfl
      rw [e8]
      clear e8
      generalize top f 7 = N at *
      go_wp2_with fail
      refine (fmt_any (HF.out 0 (by decide)).1 (HF.out 0 (by decide)).2 _ (tab_chg HT.out HC.out)).mono ?_
      rintro e w2 ⟨rfl, hC⟩
      rw [← jt_one f]
      have B1 := Lib.hid (B0.out.chg hC id)
      have HC1 := Lib.hid (HC.out.trans hC)
      clear hC B0 HC
      go_wp2_with fail
      go_loopw [5, 6] (fun s i wr => ∃ k : Nat, k ≤ N ∧ i = .int .i64 (k + 1) ∧ s = .string (jt f (k + 1)) ∧ Blk wr w.heap.size 23 (va f) ∧ Chg NoB w wr) (fun _ i _ => 8 - (intOf i).toNat)
      case atStart => exact ⟨0, Nat.zero_le _, rfl, rfl, B1.out, HC1.out⟩
      case round =>
        clear B1 HC1
        obtain ⟨k, hk, rfl, rfl, h0, hC⟩ := hrel
        have B0 := Lib.hid h0
        have HC := Lib.hid hC
        clear h0 hC
        by_cases hlt : k < N
        · have hk1 : (k : Int) + 1 ≤ (N : Int) := by omega
          have hk8 : (k : Int) + 1 < 8 := by omega
          have hv : wr.cell? ⟨w.heap.size, k + 1, none⟩ = some (.int .i64 (f (k + 1))) := (B0.out.cell (k + 1)).trans (va_get f (by omega))
          have hk1d : decide ((k : Int) + 1 ≤ (N : Int)) = true := by simpa using hk1
          have hs1 : (dec (f (k + 1))).size ≤ 21 := by
            have := Lib.itoa_length_le _ (HF.out (k + 1) (by omega)).1 (HF.out (k + 1) (by omega)).2
            exact Nat.le_trans (Nat.le_of_eq (show (dec (f (k + 1))).size = _ from List.size_toArray)) this
          have hs2 : (jt f (k + 1)).size ≤ 140737488355328 := by
            have := decs_join_le f (show k + 1 ≤ 8 by omega) HF.out
            exact Nat.le_trans (Nat.le_of_eq (show (jt f (k + 1)).size = _ from List.size_toArray)) this
          have hs3 : ¬ 9223372036854775807 < 1 + (dec (f (k + 1))).size := by omega
          have hs4 : ¬ 9223372036854775807 < (jt f (k + 1)).size + (1 + (dec (f (k + 1))).size) := by omega
          go_wp2_with fail
          refine (fmt_any (HF.out (k + 1) (by omega)).1 (HF.out (k + 1) (by omega)).2 _ (tab_chg HT.out HC.out)).mono ?_
          rintro e w3 ⟨rfl, hC⟩
          have B1 := Lib.hid (B0.out.chg hC id)
          have HC1 := Lib.hid (HC.out.trans hC)
          clear hC B0 HC
          go_wp2_with fail
          go_roundw
          case rel => exact ⟨k + 1, by omega, by go_num, by rw [jt_succ], B1.out, HC1.out⟩
          case measure => simp [intOf]; omega
        · obtain rfl : k = N := by omega
          have hk1d : decide ((k : Int) + 1 ≤ (k : Int)) = false := by simp; omega
          go_wp2_with fail
          go_ret
          exact ⟨by rw [HTx.out]; rfl, HC.out⟩
end Go.Proofs.YthkmocfdpmlllabDoor
