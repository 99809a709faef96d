/- The reference reads a vector. No statement is proved here. -/
import Derived.Test.YthkmocfdpmlllabDoorWireRefR
namespace Go.Proofs.YthkmocfdpmlllabDoor.RR
open Go.RowKit Go.Proofs.YthkmocfdpmlllabDoorW.PrintLast
attribute [local go_sem] max2_mx max_two_ eq_nums
set_option maxRecDepth 100000 in
set_option maxHeartbeats 4000000 in
theorem rmay_any (f : Vc) (w : World) : Calls Tryd.prog 28 #[vec f] w fun e w' => e = .returned (.bool (may f)) ∧ Chg NoB w w' := by
  go_enter Tryd.func28, Tryd.ntmps28
  go_wp2_with fail
  have HC : Hid (Chg NoB w (w.alloc (Obj.cells (va f) 23))) := Lib.hid ((Chg.refl _ w).alloc _)
  generalize w.alloc (Obj.cells (va f) 23) = W at *
  go_loopw [6] (fun i wr => ∃ k : Nat, k ≤ 8 ∧ i = .int .i64 k ∧ (∀ j, j < k → inr_ (f j)) ∧ W = wr) (fun i _ => 8 - (intOf i).toNat)
  case atStart => exact ⟨0, by decide, rfl, fun j h => absurd h (by omega), rfl⟩
  case round =>
    obtain ⟨k, hk, rfl, hj, rfl⟩ := hrel
    have HJ := Lib.hid hj
    clear hj
    by_cases hlt : k < 8
    · have hix := idx f hlt
      have hk2 : ((k : Nat) : Int) < 8 := by omega
      by_cases h0 : f k < 0
      · go_wp2_with fail
        go_ret
        exact ⟨by rw [may_no hlt (fun h => by have := h.1; omega)]; rfl, HC.out⟩
      · by_cases h1 : f k > 1099511627776
        · go_wp2_with fail
          go_ret
          exact ⟨by rw [may_no hlt (fun h => by have := h.2; omega)]; rfl, HC.out⟩
        · go_wp2_with fail
          go_roundw
          case rel =>
            refine ⟨k + 1, by omega, by go_num, fun j hj => ?_, by first | rfl | trivial⟩
            by_cases e : j = k
            · subst e; exact ⟨by omega, by omega⟩
            · exact HJ.out j (by omega)
          case measure => simp [intOf]; omega
    · obtain rfl : k = 8 := by omega
      go_wp2_with fail
      go_ret
      exact ⟨by rw [may_iff.2 HJ.out]; rfl, HC.out⟩
set_option maxRecDepth 100000 in
set_option maxHeartbeats 4000000 in
theorem read_all {w : World} {g : Nat} {zs : List Int} {v : Value} (q : RA w g 0 zs v) :
    Calls Tryd.prog 12 #[.pointer (some ⟨g, 0, none⟩)] w (Rdn w g (.tuple #[vec (rout zs), .bool (rok zs)]) (rst zs 8).1 (rst zs 8).2) := by
  have HQ := Lib.hid q
  have hgl := q.blk.lt
  clear q
  go_enter Tryd.func12, Tryd.ntmps12
  go_wp2_with fail
  have HQ1 := Lib.hid ((HQ.out.chg ((Chg.refl NoB w).alloc (Obj.cells (va v0_) 23))).chg ((Chg.refl NoB _).alloc (Obj.cells (va v0_) 23)))
  have HA := Lib.hid ((Blk.new w 23 (va v0_)).alloc (Obj.cells (va v0_) 23))
  have HB := Lib.hid (Blk.new_ (k := w.heap.size + 1) (w.alloc (Obj.cells (va v0_) 23)) 23 (va v0_) (by simp))
  have HC := Lib.hid (((Chg.refl (Only g) w).alloc (Obj.cells (va v0_) 23)).alloc (Obj.cells (va v0_) 23))
  clear HQ
  generalize (w.alloc (Obj.cells (va v0_) 23)).alloc (Obj.cells _ 23) = W at *
  go_loopw [7] (fun i wr => ∃ k : Nat, k ≤ 8 ∧ i = .int .i64 k ∧ (∃ v', RA wr g (rst zs k).1 (rst zs k).2 v') ∧ Blk wr w.heap.size 23 (va v0_) ∧ Blk wr (w.heap.size + 1) 23 (va (rvec zs k)) ∧ Chg (Only g) w wr) (fun i _ => 8 - (intOf i).toNat)
  case atStart => exact ⟨0, by decide, rfl, ⟨_, HQ1.out⟩, HA.out, HB.out, HC.out⟩
  case round =>
    clear HQ1 HA HB HC
    obtain ⟨k, hk, rfl, ⟨v2, hq⟩, hA, hB, hC⟩ := hrel
    have HQ := Lib.hid hq
    have HA := Lib.hid hA
    have HB := Lib.hid hB
    have HC := Lib.hid hC
    clear hq hA hB hC
    by_cases hlt : k < 8
    · have hk2 : decide ((k : Int) < 8) = true := by simp; omega
      go_wp2_with fail
      refine (int_all HQ.out).mono ?_
      rintro e w1 ⟨rfl, ⟨v3, hq⟩, hC⟩
      have hval : zd (rdn (rst zs k).1 (rst zs k).2).1 = rval zs k := rfl
      rw [hval]
      have HQ2 : Hid (RA w1 g (rst zs (k + 1)).1 (rst zs (k + 1)).2 v3) := Lib.hid hq
      have hg0 : w.heap.size ≠ g := by omega
      have hg1 : w.heap.size + 1 ≠ g := by omega
      have HA2 := Lib.hid (HA.out.chg hC (by unfold Only; omega))
      have HB2 := Lib.hid (HB.out.chg hC (by unfold Only; omega))
      have HC2 := Lib.hid (HC.out.trans hC)
      clear hq hC HQ HA HB HC hval
      generalize hxv : rval zs k = x
      have HXV := Lib.hid hxv
      clear hxv
      have hcx : w1.cell? ⟨w.heap.size + 1, k, none⟩ = some (.int .i64 (rvec zs k k)) := (HB2.out.cell k).trans (va_get _ hlt)
      have hfx : w1.frozen? ⟨w.heap.size + 1, k, none⟩ = false := HB2.out.frozen k
      have hk3 : (k : Int) < 8 := by omega
      have hs : Chg (Only (w.heap.size + 1)) w1 (w1.setCell ⟨w.heap.size + 1, k, none⟩ (.int .i64 x)) := (Chg.refl (Only (w.heap.size + 1)) w1).setOwn k _
      have HQ3 := Lib.hid (HQ2.out.other hs HB2.out (by decide) (by decide))
      have HA3 := Lib.hid (HA2.out.chg hs (by unfold Only; omega))
      have HB3 := Lib.hid (bset HB2.out hlt x)
      have HC3 := Lib.hid (HC2.out.setCell (p := ⟨w.heap.size + 1, k, none⟩) (.inr (by show w.heap.size ≤ w.heap.size + 1; omega)) (.int .i64 x))
      clear hs HQ2 HA2 HB2 HC2
      go_wp2_with fail
      go_roundw
      case rel => exact ⟨k + 1, by omega, by go_num, ⟨_, HQ3.out⟩, HA3.out, by rw [rvec_succ, HXV.out]; exact HB3.out, HC3.out⟩
      case measure => simp [intOf]; omega
    · obtain rfl : k = 8 := by omega
      have hk2 : decide (((8 : Nat) : Int) < 8) = false := by decide
      have k1 := HQ.out.blk.cell 1
      cases he : (rst zs 8).1 == 0 with
      | false =>
        have hne : ((rst zs 8).1 != 0) = true := by unfold bne; rw [he]; rfl
        have hr : rok zs = false := by unfold rok; rw [he]; rfl
        have hv : rout zs = v0_ := by unfold rout; rw [hr]; rfl
        have HR : Hid (rout zs = v0_ ∧ rok zs = false) := Lib.hid ⟨hv, hr⟩
        clear hr hv
        obtain ⟨c0, c1, c2, c3, c4, c5, c6, c7⟩ := eight HA.out
        obtain ⟨f0, f1, f2, f3, f4, f5, f6, f7⟩ := eight_frozen HA.out
        go_wp2_with fail
        exact back_vec2 rfl v0_ (.bool false) rfl rfl (eight_set HA.out 0 0 0 0 0 0 0 0) rfl ⟨by rw [HR.out.1, HR.out.2], ⟨_, HQ.out.other (eight_chg (Chg.refl (Only w.heap.size) wr) (.inl rfl) 0 0 0 0 0 0 0 0) HA.out (by decide) (by decide)⟩, eight_chg HC.out (.inr (Nat.le_refl _)) 0 0 0 0 0 0 0 0⟩
      | true =>
        have hne : ((rst zs 8).1 != 0) = false := by unfold bne; rw [he]; rfl
        have HE := Lib.hid he
        clear he
        obtain ⟨c0, c1, c2, c3, c4, c5, c6, c7⟩ := eight HB.out
        go_wp2_with fail
        refine (rmay_any (rvec zs 8) _).mono ?_
        clear c0 c1 c2 c3 c4 c5 c6 c7
        rintro e w2 ⟨rfl, hC⟩
        have HQ2 := Lib.hid (HQ.out.chg hC)
        have HA2 := Lib.hid (HA.out.chg hC id)
        have HB2 := Lib.hid (HB.out.chg hC id)
        have HC2 := Lib.hid (HC.out.trans hC.of_no)
        clear hC HQ HA HB HC
        obtain ⟨c0, c1, c2, c3, c4, c5, c6, c7⟩ := eight HB2.out
        obtain ⟨d0, d1, d2, d3, d4, d5, d6, d7⟩ := eight HA2.out
        obtain ⟨f0, f1, f2, f3, f4, f5, f6, f7⟩ := eight_frozen HA2.out
        cases hm : may (rvec zs 8) with
        | false =>
          have HR : Hid (rout zs = v0_ ∧ rok zs = false) := Lib.hid (by
            have h : rok zs = false := by unfold rok; rw [hm, Bool.and_false]
            exact ⟨by unfold rout; rw [h]; rfl, h⟩)
          clear hm
          go_wp2_with fail
          exact back_vec2 rfl v0_ (.bool false) rfl rfl (eight_set HA2.out 0 0 0 0 0 0 0 0) rfl ⟨by rw [HR.out.1, HR.out.2], ⟨_, HQ2.out.other (eight_chg (Chg.refl (Only w.heap.size) w2) (.inl rfl) 0 0 0 0 0 0 0 0) HA2.out (by decide) (by decide)⟩, eight_chg HC2.out (.inr (Nat.le_refl _)) 0 0 0 0 0 0 0 0⟩
        | true =>
          have HR : Hid (rout zs = rvec zs 8 ∧ rok zs = true) := Lib.hid (by
            have h : rok zs = true := by unfold rok; rw [hm, HE.out]; rfl
            exact ⟨by unfold rout; rw [h]; rfl, h⟩)
          clear hm
          go_wp2_with fail
          exact back_vec2 rfl (rvec zs 8) (.bool true) rfl rfl (eight_set HA2.out _ _ _ _ _ _ _ _) rfl ⟨by rw [HR.out.1, HR.out.2], ⟨_, HQ2.out.other (eight_chg (Chg.refl (Only w.heap.size) w2) (.inl rfl) _ _ _ _ _ _ _ _) HA2.out (by decide) (by decide)⟩, eight_chg HC2.out (.inr (Nat.le_refl _)) _ _ _ _ _ _ _ _⟩
end Go.Proofs.YthkmocfdpmlllabDoor.RR
