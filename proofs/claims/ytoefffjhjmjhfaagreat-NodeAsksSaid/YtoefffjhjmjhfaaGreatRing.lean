/- Keys' places; the order of a ring's points. No statement is proved here. -/
import Derived.Test.YtoefffjhjmjhfaaGreatOnce
import Derived.Test.YtoefffjhjmjhfaaGreatSort
import Derived.Test.YtoefffjhjmjhfaaGreatShelf2
import Derived.Test.YtoefffjhjmjhfaaGreatNodeD
import Derived.Lib.ConvBytes
namespace Go.Proofs.YtoefffjhjmjhfaaGreat
open Go.RowKit Go.Proofs.YtoefffjhjmjhfaaGreatW.PrintLast
attribute [local go_sem] max2_mx min2_mn max_two_ min_two_
set_option maxRecDepth 100000

theorem may_key (k : ByteArray) (h : 1 ≤ k.size ∧ k.size ≤ 32) (w : World) : Calls Tryz.prog 76 #[.string k] w fun e w' => e = .returned (.bool true) ∧ w' = w := by
  have h1 : (k.size : Int) ≥ 1 := by omega
  have h2 : (k.size : Int) ≤ 32 := by omega
  go_enter Tryz.func76, Tryz.ntmps76
  go_wp2_with fail
  go_ret
  exact ⟨rfl, rfl⟩
theorem mix_any {w : World} {b off n cap : Nat} (h : ∀ i, i < n → ∃ z, w.cell? ⟨b, off + i, none⟩ = some (.int .u8 z)) (hn : n ≤ 1000000) :
    Calls Tryz.prog 207 #[.slice (some ⟨b, off, none⟩) n cap] w fun e w' => (∃ x, e = .returned (.int .u32 x)) ∧ w' = w := by
  have H := Lib.hid h
  clear h
  go_enter Tryz.func207, Tryz.ntmps207
  go_upto_block 0 with fail
  go_wp2_with fail
  go_loopw [3, 8] (fun c i wr => ∃ k : Nat, ∃ x : Int, k ≤ n ∧ c = .int .u32 x ∧ i = .int .i64 k ∧ wr = w) (fun _ i _ => n - (intOf i).toNat)
  case atStart => exact ⟨0, _, Nat.zero_le _, rfl, rfl, rfl⟩
  case round =>
    obtain ⟨k, x, hk, rfl, rfl, rfl⟩ := hrel
    by_cases hlt : k < n
    · obtain ⟨z, hc⟩ := H.out k hlt
      go_wp2_with fail
      go_roundw
      case rel => exact ⟨k + 1, _, hlt, rfl, by go_num, trivial⟩
      case measure => simp [intOf]; omega
    · go_wp2_with fail
      go_ret
      exact ⟨⟨_, rfl⟩, rfl⟩
theorem point_any (n k : Int) (w : World) : Calls Tryz.prog 200 #[.int .i64 n, .int .i64 k] w fun e w' => (∃ x, e = .returned (.int .u32 x)) ∧ Chg NoB w w' := by
  go_enter Tryz.func200, Tryz.ntmps200
  go_wp2_with fail
  refine (mix_any (b := w.heap.size) (off := 0) (n := 4) (fun i hi => ?_) (by omega)).mono ?_
  · rcases (by omega : i = 0 ∨ i = 1 ∨ i = 2 ∨ i = 3) with rfl | rfl | rfl | rfl
    · exact ⟨_, (Blk.new _ _ _).cell 0⟩
    · exact ⟨_, (Blk.new _ _ _).cell 1⟩
    · exact ⟨_, (Blk.new _ _ _).cell 2⟩
    · exact ⟨_, (Blk.new _ _ _).cell 3⟩
  rintro e w' ⟨⟨x, rfl⟩, rfl⟩
  go_wp2_with fail
  go_ret
  exact ⟨⟨_, rfl⟩, Chg.al _ _⟩
theorem place_any (k : ByteArray) (hk : k.size ≤ 1000000) (w : World) : Calls Tryz.prog 155 #[.string k] w fun e w' => (∃ x, e = .returned (.int .u32 x)) ∧ Chg NoB w w' := by
  have hcv := Lib.run_convert_string_bytes w 9 47 5 k Tryz.underlying9 Tryz.underlying47 Tryz.underlying5
  go_enter Tryz.func155, Tryz.ntmps155
  go_wp2_with fail
  refine (mix_any (b := w.heap.size) (off := 0) (n := k.size) (fun i hi => ⟨_, by rw [Nat.zero_add]; exact Lib.bytesWorld_cell w 5 k i hi⟩) hk).mono ?_
  rintro e w' ⟨⟨x, rfl⟩, rfl⟩
  go_wp2_with fail
  go_ret
  exact ⟨⟨_, rfl⟩, ⟨rfl, rfl, rfl, by rw [Lib.bytesWorld_size]; omega, fun k' hk _ => Lib.bytesWorld_at_old w _ k k' hk⟩⟩
theorem nanU (x : Int) (w : World) : Calls Tryz.prog 253 #[.int .u32 x] w fun e w' => e = .returned (.bool false) ∧ w' = w := by
  go_enter Tryz.func253, Tryz.ntmps253
  go_wp2
  go_ret
  exact ⟨by simp, rfl⟩
theorem cmpU (x y : Int) (w : World) : Calls Tryz.prog 204 #[.int .u32 x, .int .u32 y] w fun e w' => e = .returned (.int .i64 (Lib.compareInt x y)) ∧ w' = w := by
  by_cases h1 : x < y
  · have e : Lib.compareInt x y = -1 := if_pos h1
    rw [e]
    go_enter Tryz.func204, Tryz.ntmps204
    go_wp2_with (first | (go_at_call 253; refine (nanU _ _).mono ?_; rintro e w' ⟨rfl, rfl⟩))
    go_ret
    exact ⟨rfl, rfl⟩
  · by_cases h2 : x > y
    · have e : Lib.compareInt x y = 1 := (if_neg h1).trans (if_pos h2)
      rw [e]
      go_enter Tryz.func204, Tryz.ntmps204
      go_wp2_with (first | (go_at_call 253; refine (nanU _ _).mono ?_; rintro e w' ⟨rfl, rfl⟩))
      go_ret
      exact ⟨rfl, rfl⟩
    · have e : Lib.compareInt x y = 0 := (if_neg h1).trans (if_neg h2)
      rw [e]
      go_enter Tryz.func204, Tryz.ntmps204
      go_wp2_with (first | (go_at_call 253; refine (nanU _ _).mono ?_; rintro e w' ⟨rfl, rfl⟩))
      go_ret
      exact ⟨rfl, rfl⟩
def orL : List Int → Int
  | [] => 0
  | x :: l => if x = 0 then orL l else x
theorem or_any {w : World} (l : List Int) {b : Nat} (h : ∀ i (hi : i < l.length), w.cell? ⟨b, i, none⟩ = some (.int .i64 l[i])) (hn : l.length ≤ 1000) : Calls Tryz.prog 203 #[.slice (some ⟨b, 0, none⟩) l.length l.length] w fun e w' => e = .returned (.int .i64 (orL l)) ∧ w' = w := by
  have H := Lib.hid h
  clear h
  go_enter Tryz.func203, Tryz.ntmps203
  go_upto_block 0 with fail
  go_wp2_with fail
  go_loopw [8] (fun i wr => ∃ k : Nat, k ≤ l.length ∧ i = .int .i64 k ∧ wr = w ∧ Hid (orL l = orL (l.drop k))) (fun i _ => l.length - (intOf i).toNat)
  case atStart => exact ⟨0, Nat.zero_le _, rfl, rfl, Lib.hid rfl⟩
  case round =>
    obtain ⟨k, hk, rfl, rfl, HE⟩ := hrel
    by_cases hlt : k < l.length
    · have hc := H.out k hlt
      have hd : l.drop k = l[k] :: l.drop (k + 1) := by simp
      generalize l[k] = x at *
      have HD := Lib.hid hd
      clear hd
      by_cases hx : x = 0
      · subst hx
        go_wp2_with fail
        go_roundw
        case rel => exact ⟨k + 1, hlt, by go_num, trivial, Lib.hid (by rw [HE.out, HD.out]; rfl)⟩
        case measure => simp [intOf]; omega
      · have hx2 : (x != 0) = true := by simpa using hx
        have e : orL l = x := by rw [HE.out, HD.out]; exact if_neg hx
        go_wp2_with fail
        refine bodyPost_ret (results_tmp rfl _ _ _) rfl ?_
        exact ⟨by rw [e]; rfl, rfl⟩
    · obtain rfl : k = l.length := by omega
      go_wp2_with fail
      go_ret
      exact ⟨by rw [HE.out, List.drop_length]; rfl, rfl⟩
/-- A point: where it lies, its node, its number. -/
abbrev Pt := Int × Int × Int
abbrev encP (x : Pt) : List Value := [.int .u32 x.1, .int .i64 x.2.1, .int .i64 x.2.2]
def cmpP (a b : Pt) : Int := orL [Lib.compareInt a.1 b.1, Lib.compareInt a.2.1 b.2.1, Lib.compareInt a.2.2 b.2.2]
theorem cmpP_lt (a b : Pt) : cmpP a b < 0 ↔ a.1 < b.1 ∨ a.1 = b.1 ∧ (a.2.1 < b.2.1 ∨ a.2.1 = b.2.1 ∧ a.2.2 < b.2.2) := by
  unfold cmpP orL orL orL orL Lib.compareInt
  repeat' split
  all_goals omega
theorem ltP (a b : Pt) : ltOf cmpP a b = true ↔ a.1 < b.1 ∨ a.1 = b.1 ∧ (a.2.1 < b.2.1 ∨ a.2.1 = b.2.1 ∧ a.2.2 < b.2.2) := by
  rw [← cmpP_lt]
  unfold ltOf
  simp
theorem ltP_no (a b : Pt) : ltOf cmpP a b = false ↔ ¬ (a.1 < b.1 ∨ a.1 = b.1 ∧ (a.2.1 < b.2.1 ∨ a.2.1 = b.2.1 ∧ a.2.2 < b.2.2)) := by rw [← ltP, Bool.not_eq_true]
theorem swoP : Go.Sort.SWO (ltOf cmpP) where
  irrefl x := by rw [ltP_no]; omega
  trans x y z h1 h2 := by rw [ltP] at *; omega
  ntrans x y z h1 h2 := by rw [ltP_no] at *; omega
theorem fill1_any (a b : Pt) (w : World) : Calls Tryz.prog 202 #[.agg (encP a).toArray, .agg (encP b).toArray] w fun e w' => e = .returned (.int .i64 (cmpP a b)) ∧ Gr w w' := by
  obtain ⟨a1, a2, a3⟩ := a
  obtain ⟨b1, b2, b3⟩ := b
  go_enter Tryz.func202, Tryz.ntmps202
  go_upto_region 1 with fail
  generalize hW : (w.alloc (Obj.cells #[.int .u32 a1, .int .i64 a2, .int .i64 a3] 255)).alloc (Obj.cells #[.int .u32 b1, .int .i64 b2, .int .i64 b3] 255) = W
  have B0 : Hid (Blk W w.heap.size 255 #[.int .u32 a1, .int .i64 a2, .int .i64 a3]) := by rw [← hW]; exact (Blk.new _ _ _).alloc _
  have B1 : Hid (Blk W (w.heap.size + 1) 255 #[.int .u32 b1, .int .i64 b2, .int .i64 b3]) := by rw [← hW]; exact Blk.new_ _ _ _ (by simp)
  have HC : Hid (Gr w W) := by rw [← hW]; exact ((Gr.refl w).alloc _).alloc _
  clear hW
  have c0 := B0.out.cell 0
  have c1 := B0.out.cell 1
  have c2 := B0.out.cell 2
  have d0 := B1.out.cell 0
  have d1 := B1.out.cell 1
  have d2 := B1.out.cell 2
  refine region_tail 15 (by kernel_rfl) (by kernel_rfl) ?_
  simp only [List.take_succ_cons, List.take_zero, List.drop_succ_cons, List.drop_zero]
  iterate 4 still_step
  still_call (cmpU _ _ _)
  iterate 4 still_step
  still_call (cmpI _ _ _)
  iterate 4 still_step
  still_call (cmpI _ _ _)
  refine wpStill_nil ?_
  go_wp2_with fail
  have BN := fun (w : World) (x y z : Int) => Blk.new w 3 #[.int .i64 x, .int .i64 y, .int .i64 z]
  refine (or_any [Lib.compareInt a1 b1, Lib.compareInt a2 b2, Lib.compareInt a3 b3] (fun i hi => ?_) (by simp)).mono ?_
  · simp only [List.length_cons, List.length_nil] at hi
    rcases (by omega : i = 0 ∨ i = 1 ∨ i = 2) with rfl | rfl | rfl
    · exact (BN _ _ _ _).cell 0
    · exact (BN _ _ _ _).cell 1
    · exact (BN _ _ _ _).cell 2
  rintro e w' ⟨rfl, rfl⟩
  go_wp2_with fail
  all_goals
    go_ret
    exact ⟨rfl, (HC.out.alloc _).drew⟩
end Go.Proofs.YtoefffjhjmjhfaaGreat
