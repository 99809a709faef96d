/- VectorNexts: the walk. -/
import Derived.Test.YthkmocfdpmlllaaDoorVectorCovers
namespace Go.Proofs.YthkmocfdpmlllaaDoor
open Go.RowKit
attribute [local go_sem] max2_mx max_two_ eq_nums
attribute [local irreducible] wpQuiet
theorem mod_nat (x m : Int) (h : 0 < m) : ∃ k : Nat, IntKind.u64.wrap x % m = k ∧ (k : Int) < m := by
  obtain ⟨k, hk⟩ := Int.eq_ofNat_of_zero_le (Int.emod_nonneg (IntKind.u64.wrap x) (show m ≠ 0 by omega))
  exact ⟨k, hk, by have := Int.emod_lt_of_pos (IntKind.u64.wrap x) h; omega⟩
def adv (f : Vc) (K : Nat) (k : Int) : Vc := upd f K (f K + k)
theorem adv_at (f : Vc) (K : Nat) (k : Int) : adv f K k K = f K + k := by simp [adv, upd]
theorem adv_ne (f : Vc) {K j : Nat} (h : j ≠ K) (k : Int) : adv f K k j = f j := by simp [adv, upd, h]
theorem adv_zero (f : Vc) (K : Nat) : adv f K 0 = f := by
  funext i
  by_cases h : i = K
  · subst h; rw [adv_at]; omega
  · rw [adv_ne f h]
theorem adv_wit (f : Vc) {K : Nat} (hk : K < 8) (k : Int) : wit (adv f K k) K (f K + k + 1) = adv f K (k + 1) := by
  funext i
  rw [wit_at (show 0 ≤ (K : Int) ∧ (K : Int) < 8 by omega)]
  by_cases h : i = K
  · subst h
    rw [if_pos (by omega), adv_at, adv_at]
    unfold mx
    split <;> omega
  · rw [if_neg (by omega), adv_ne f h, adv_ne f h]
theorem next_adv (f : Vc) {K : Nat} (hk : K < 8) {k : Int} (h0 : ∀ j, j < 8 → 0 ≤ f j) (hk0 : 0 ≤ k) (hl : f K + k < lim) (w : World) :
    Calls Tryd.prog 16 #[vec (adv f K k), .int .i64 (K : Nat)] w fun e w' => e = .returned (.tuple #[dot K (f K + k + 1), .int .i64 0]) ∧ Chg NoB w w' := by
  have hr : (0 ≤ (K : Int) ∧ (K : Int) < 8) ∧ adv f K k (K : Int).toNat < lim := ⟨by omega, by rw [Int.toNat_natCast, adv_at]; exact hl⟩
  have e1 : nxtN (adv f K k) K = K := if_pos hr
  have e2 : nxtX (adv f K k) K = f K + k + 1 := (if_pos hr).trans (by rw [Int.toNat_natCast, adv_at])
  have e3 : nxtE (adv f K k) K = 0 := (if_pos hr.1).trans (if_pos hr.2)
  refine (next_any (adv f K k) K w fun j hj => ?_).mono fun _ _ ⟨h1, h2⟩ => ⟨by rw [h1, e1, e2, e3], h2⟩
  by_cases h : j = K
  · subst h; rw [adv_at]; have := h0 j hj; omega
  · rw [adv_ne f h]; have := h0 j hj; omega
theorem leq_adv (f : Vc) (K : Nat) {k : Int} (hk : 0 ≤ k) : leq f (adv f K k) = true := leq_iff.2 fun i _ => by
  by_cases h : i = K
  · subst h; rw [adv_at]; omega
  · rw [adv_ne f h]; exact Int.le_refl _
theorem eight_far {w : World} {b g : Nat} {t : TypeId} {cs : Array Value} (h : Blk w b t cs) (hg : b ≠ g) (a0 a1 a2 a3 a4 a5 a6 a7 : Int) : Blk (((((((((w).setCell ⟨g, 0, none⟩ (.int .i64 a0)).setCell ⟨g, 1, none⟩ (.int .i64 a1)).setCell ⟨g, 2, none⟩ (.int .i64 a2)).setCell ⟨g, 3, none⟩ (.int .i64 a3)).setCell ⟨g, 4, none⟩ (.int .i64 a4)).setCell ⟨g, 5, none⟩ (.int .i64 a5)).setCell ⟨g, 6, none⟩ (.int .i64 a6)).setCell ⟨g, 7, none⟩ (.int .i64 a7)) b t cs :=
  ((((((((h.far (p := ⟨g, 0, none⟩) hg (.int .i64 a0)).far (p := ⟨g, 1, none⟩) hg (.int .i64 a1)).far (p := ⟨g, 2, none⟩) hg (.int .i64 a2)).far (p := ⟨g, 3, none⟩) hg (.int .i64 a3)).far (p := ⟨g, 4, none⟩) hg (.int .i64 a4)).far (p := ⟨g, 5, none⟩) hg (.int .i64 a5)).far (p := ⟨g, 6, none⟩) hg (.int .i64 a6)).far (p := ⟨g, 7, none⟩) hg (.int .i64 a7))
set_option maxHeartbeats 16000000 in
theorem vectorNexts_any (f : Vc) (node n : Int) (w : World) : Calls Tryd.prog 6 #[vec f, .int .i64 node, .int .i64 n] w fun e w' => e = .returned (.bool true) ∧ Chg NoB w w' := by
  obtain ⟨K, hK, hK8⟩ := mod_nat node 8 (by decide)
  obtain ⟨M, hM, hM20⟩ := mod_nat n 20 (by decide)
  have hu0 : 0 ≤ IntKind.u64.wrap node := by rw [IntKind.wrap_u64]; omega
  have hu1 : 0 ≤ IntKind.u64.wrap n := by rw [IntKind.wrap_u64]; omega
  have hk : K < 8 := by omega
  go_enter Tryd.func6, Tryd.ntmps6
  have B := Lib.hid (Blk.new w 23 (va f))
  obtain ⟨c0, c1, c2, c3, c4, c5, c6, c7⟩ := eight B.out
  go_wp2_with fail
  refine (may_any f _).mono ?_
  rintro e w1 ⟨rfl, hC⟩
  have HC := Lib.hid (((Chg.refl NoB w).alloc _).trans hC)
  have B3 := Lib.hid (B.out.chg hC id)
  clear hC B c0 c1 c2 c3 c4 c5 c6 c7 hu0 hu1 hK hM
  cases hm : may f with
  | false =>
    go_wp2_with fail
    refine (awake_any _).mono ?_
    rintro e w2 ⟨rfl, hC⟩
    have HD := Lib.hid (HC.out.trans hC)
    clear hC
    go_wp2_with fail
    go_ret
    exact ⟨rfl, HD.out⟩
  | true =>
    have hmf := may_iff.1 hm
    have hfK := hmf K hk
    have H0 : Hid (∀ j, j < 8 → inr_ (f j)) := Lib.hid hmf
    have hK0 : 0 ≤ f K := hfK.1
    clear hm hmf hfK
    have hv := (B3.out.cell K).trans (va_get f hk)
    by_cases hb : f K > 1099511627746
    · go_wp2_with fail
      refine (awake_any _).mono ?_
      rintro e w2 ⟨rfl, hC⟩
      have HD := Lib.hid (HC.out.trans hC)
      clear hC
      go_wp2_with fail
      go_ret
      exact ⟨rfl, HD.out⟩
    · obtain ⟨c0, c1, c2, c3, c4, c5, c6, c7⟩ := eight B3.out
      go_wp2_with fail
      have hb' : f K ≤ 1099511627746 := by omega
      have hlt : Hid (w.heap.size < w1.heap.size) := Lib.hid B3.out.lt
      have C3 := Lib.hid (B3.out.alloc (Obj.cells (va f) 23))
      have C7 := Lib.hid (Blk.new w1 23 (va f))
      have HD := Lib.hid (HC.out.alloc (Obj.cells (va f) 23))
      clear c0 c1 c2 c3 c4 c5 c6 c7 hv B3 HC hb
      generalize w1.alloc (Obj.cells (va f) 23) = W at *
      generalize w1.heap.size = b7 at *
      go_loopw [33] (fun i wr => ∃ k : Nat, k ≤ M ∧ i = .int .i64 k ∧ Blk wr w.heap.size 23 (va f) ∧ Blk wr b7 23 (va (adv f K k)) ∧ Chg NoB w wr) (fun i _ => M - (intOf i).toNat)
      case atStart => exact ⟨0, Nat.zero_le _, rfl, C3.out, by rw [show ((0 : Nat) : Int) = 0 from rfl, adv_zero]; exact C7.out, HD.out⟩
      case round =>
        clear C3 C7 HD
        obtain ⟨k, hkM, rfl, h3, h7, hD⟩ := hrel
        have C3 := Lib.hid h3
        have C7 := Lib.hid h7
        have HD := Lib.hid hD
        clear h3 h7 hD
        by_cases hlt2 : k < M
        · have HN := Lib.hid (next_adv f hk (k := k) (fun j hj => (H0.out j hj).1) (by omega) (by unfold lim; omega))
          have HWI := Lib.hid (adv_wit f hk (k : Int))
          obtain ⟨c0, c1, c2, c3, c4, c5, c6, c7⟩ := eight C7.out
          go_wp2_with fail
          refine (HN.out _).mono ?_
          clear c0 c1 c2 c3 c4 c5 c6 c7
          rintro e w2 ⟨rfl, hC⟩
          have D3 := Lib.hid ((C3.out.chg hC id).alloc (Obj.cells #[.int .i64 K, .int .i64 (f K + k + 1)] 31))
          have D7 := Lib.hid ((C7.out.chg hC id).alloc (Obj.cells #[.int .i64 K, .int .i64 (f K + k + 1)] 31))
          have D9 := Lib.hid (Blk.new w2 31 #[.int .i64 K, .int .i64 (f K + k + 1)])
          have HE := Lib.hid ((HD.out.trans hC).alloc (Obj.cells #[.int .i64 K, .int .i64 (f K + k + 1)] 31))
          clear hC C3 C7 HD
          go_wp2_with fail
          generalize w2.alloc (Obj.cells #[.int .i64 K, .int .i64 (f K + k + 1)] 31) = W2 at *
          generalize w2.heap.size = b9 at *
          have hk20 : (k : Int) < 20 := by omega
          have HW1 : Hid (IntKind.i64.wrap (f K + k) = f K + k) := Lib.hid (by rw [IntKind.wrap_i64]; omega)
          have HW2 : Hid (IntKind.i64.wrap (f K + k + 1) = f K + k + 1) := Lib.hid (by rw [IntKind.wrap_i64]; omega)
          refine q_start (by kernel_rfl) (by kernel_rfl) ?_
          refine q_on (v := ?_) (by rfl) ?_ ?_
          rotate_left
          · intro w' hC
            have e1 := HW1.out
            have e2 := HW2.out
            go_simp
            with_reducible rfl
          rotate_left
          refine q_norm (a' := ?_) ?_ ?_
          rotate_left
          · show Act.put _ (some 42) _ = _
            simp only [Act.put, List.setIfInBounds_toArray, List.set_cons_zero, List.set_cons_succ]
            rfl
          refine q_on (v := ?_) (by rfl) ?_ ?_
          rotate_left
          · intro w' hC
            have e1 := HW1.out
            have e2 := HW2.out
            go_simp
            with_reducible rfl
          rotate_left
          refine q_norm (a' := ?_) ?_ ?_
          rotate_left
          · show Act.put _ (some 43) _ = _
            simp only [Act.put, List.setIfInBounds_toArray, List.set_cons_zero, List.set_cons_succ]
            rfl
          refine q_on (v := ?_) (by rfl) ?_ ?_
          rotate_left
          · intro w' hC
            have e1 := HW1.out
            have e2 := HW2.out
            go_simp
            with_reducible rfl
          rotate_left
          refine q_norm (a' := ?_) ?_ ?_
          rotate_left
          · show Act.put _ (some 44) _ = _
            simp only [Act.put, List.setIfInBounds_toArray, List.set_cons_zero, List.set_cons_succ]
            rfl
          refine q_on (v := ?_) (by rfl) ?_ ?_
          rotate_left
          · intro w' hC
            have e1 := HW1.out
            have e2 := HW2.out
            go_simp
            with_reducible rfl
          rotate_left
          refine q_norm (a' := ?_) ?_ ?_
          rotate_left
          · show Act.put _ (some 45) _ = _
            simp only [Act.put, List.setIfInBounds_toArray, List.set_cons_zero, List.set_cons_succ]
            rfl
          refine q_on (v := ?_) (by rfl) ?_ ?_
          rotate_left
          · intro w' hC
            have e1 := HW1.out
            have e2 := HW2.out
            obtain ⟨c0, c1⟩ := two (D9.out.chg hC id)
            go_simp
            with_reducible rfl
          rotate_left
          refine q_norm (a' := ?_) ?_ ?_
          rotate_left
          · show Act.put _ (some 46) _ = _
            simp only [Act.put, List.setIfInBounds_toArray, List.set_cons_zero, List.set_cons_succ]
            rfl
          refine q_on (v := ?_) (by rfl) ?_ ?_
          rotate_left
          · intro w' hC
            have e1 := HW1.out
            have e2 := HW2.out
            go_simp
            with_reducible rfl
          rotate_left
          refine q_norm (a' := ?_) ?_ ?_
          rotate_left
          · show Act.put _ (some 47) _ = _
            simp only [Act.put, List.setIfInBounds_toArray, List.set_cons_zero, List.set_cons_succ]
            rfl
          refine q_on (v := ?_) (by rfl) ?_ ?_
          rotate_left
          · intro w' hC
            have e1 := HW1.out
            have e2 := HW2.out
            go_simp
            with_reducible rfl
          rotate_left
          refine q_norm (a' := ?_) ?_ ?_
          rotate_left
          · show Act.put _ (some 48) _ = _
            simp only [Act.put, List.setIfInBounds_toArray, List.set_cons_zero, List.set_cons_succ]
            rfl
          refine q_on (v := ?_) (by rfl) ?_ ?_
          rotate_left
          · intro w' hC
            have e1 := HW1.out
            have e2 := HW2.out
            go_simp
            with_reducible rfl
          rotate_left
          refine q_norm (a' := ?_) ?_ ?_
          rotate_left
          · show Act.put _ (some 49) _ = _
            simp only [Act.put, List.setIfInBounds_toArray, List.set_cons_zero, List.set_cons_succ]
            rfl
          refine q_on (v := ?_) (by rfl) ?_ ?_
          rotate_left
          · intro w' hC
            have e1 := HW1.out
            have e2 := HW2.out
            go_simp
            with_reducible rfl
          rotate_left
          refine q_norm (a' := ?_) ?_ ?_
          rotate_left
          · show Act.put _ (some 50) _ = _
            simp only [Act.put, List.setIfInBounds_toArray, List.set_cons_zero, List.set_cons_succ]
            rfl
          refine q_on (v := ?_) (by rfl) ?_ ?_
          rotate_left
          · intro w' hC
            have e1 := HW1.out
            have e2 := HW2.out
            go_simp
            with_reducible rfl
          rotate_left
          refine q_norm (a' := ?_) ?_ ?_
          rotate_left
          · show Act.put _ (some 51) _ = _
            simp only [Act.put, List.setIfInBounds_toArray, List.set_cons_zero, List.set_cons_succ]
            rfl
          refine q_on (v := ?_) (by rfl) ?_ ?_
          rotate_left
          · intro w' hC
            have e1 := HW1.out
            have e2 := HW2.out
            obtain ⟨c0, c1⟩ := two (D9.out.chg hC id)
            go_simp
            with_reducible rfl
          rotate_left
          refine q_norm (a' := ?_) ?_ ?_
          rotate_left
          · show Act.put _ (some 52) _ = _
            simp only [Act.put, List.setIfInBounds_toArray, List.set_cons_zero, List.set_cons_succ]
            rfl
          refine q_on (v := ?_) (by rfl) ?_ ?_
          rotate_left
          · intro w' hC
            have e1 := HW1.out
            have e2 := HW2.out
            go_simp
            with_reducible rfl
          rotate_left
          refine q_norm (a' := ?_) ?_ ?_
          rotate_left
          · show Act.put _ (some 53) _ = _
            simp only [Act.put, List.setIfInBounds_toArray, List.set_cons_zero, List.set_cons_succ]
            rfl
          refine q_on (v := ?_) (by rfl) ?_ ?_
          rotate_left
          · intro w' hC
            have e1 := HW1.out
            have e2 := HW2.out
            go_simp
            with_reducible rfl
          rotate_left
          refine q_norm (a' := ?_) ?_ ?_
          rotate_left
          · show Act.put _ (some 54) _ = _
            simp only [Act.put, List.setIfInBounds_toArray, List.set_cons_zero, List.set_cons_succ]
            rfl
          refine q_on (v := ?_) (by rfl) ?_ ?_
          rotate_left
          · intro w' hC
            have e1 := HW1.out
            have e2 := HW2.out
            have hv := ((D3.out.chg hC id).cell K).trans (va_get f hk)
            go_simp
            with_reducible rfl
          rotate_left
          refine q_norm (a' := ?_) ?_ ?_
          rotate_left
          · show Act.put _ (some 55) _ = _
            simp only [Act.put, List.setIfInBounds_toArray, List.set_cons_zero, List.set_cons_succ]
            rfl
          refine q_on (v := ?_) (by rfl) ?_ ?_
          rotate_left
          · intro w' hC
            have e1 := HW1.out
            have e2 := HW2.out
            go_simp
            with_reducible rfl
          rotate_left
          refine q_norm (a' := ?_) ?_ ?_
          rotate_left
          · show Act.put _ (some 56) _ = _
            simp only [Act.put, List.setIfInBounds_toArray, List.set_cons_zero, List.set_cons_succ]
            rfl
          refine q_on (v := ?_) (by rfl) ?_ ?_
          rotate_left
          · intro w' hC
            have e1 := HW1.out
            have e2 := HW2.out
            go_simp
            with_reducible rfl
          rotate_left
          refine q_norm (a' := ?_) ?_ ?_
          rotate_left
          · show Act.put _ (some 57) _ = _
            simp only [Act.put, List.setIfInBounds_toArray, List.set_cons_zero, List.set_cons_succ]
            rfl
          refine q_on (v := ?_) (by rfl) ?_ ?_
          rotate_left
          · intro w' hC
            have e1 := HW1.out
            have e2 := HW2.out
            go_simp
            with_reducible rfl
          rotate_left
          refine q_norm (a' := ?_) ?_ ?_
          rotate_left
          · show Act.put _ (some 58) _ = _
            simp only [Act.put, List.setIfInBounds_toArray, List.set_cons_zero, List.set_cons_succ]
            rfl
          refine q_on (v := ?_) (by rfl) ?_ ?_
          rotate_left
          · intro w' hC
            have e1 := HW1.out
            have e2 := HW2.out
            go_simp
            with_reducible rfl
          rotate_left
          refine q_norm (a' := ?_) ?_ ?_
          rotate_left
          · show Act.put _ (some 59) _ = _
            simp only [Act.put, List.setIfInBounds_toArray, List.set_cons_zero, List.set_cons_succ]
            rfl
          refine q_on (v := ?_) (by rfl) ?_ ?_
          rotate_left
          · intro w' hC
            have e1 := HW1.out
            have e2 := HW2.out
            go_simp
            with_reducible rfl
          rotate_left
          refine q_norm (a' := ?_) ?_ ?_
          rotate_left
          · show Act.put _ (some 60) _ = _
            simp only [Act.put, List.setIfInBounds_toArray, List.set_cons_zero, List.set_cons_succ]
            rfl
          refine wpQuiet_nil ?_
          intro w' hC
          have E3 := Lib.hid (D3.out.chg hC id)
          have E7 := Lib.hid (D7.out.chg hC id)
          have E9 := Lib.hid (D9.out.chg hC id)
          have HF := Lib.hid (HE.out.trans hC)
          clear hC D3 D7 D9 HE
          obtain ⟨c0, c1, c2, c3, c4, c5, c6, c7⟩ := eight E7.out
          obtain ⟨d0, d1⟩ := two E9.out
          go_wp2_with fail
          refine (with_is HWI.out _).mono ?_
          clear c0 c1 c2 c3 c4 c5 c6 c7 d0 d1
          rintro e w3 ⟨rfl, hC⟩
          have G3 := Lib.hid (E3.out.chg hC id)
          have G7 := Lib.hid (E7.out.chg hC id)
          have HG := Lib.hid (HF.out.trans hC)
          clear hC E3 E7 E9 HF
          obtain ⟨c0, c1, c2, c3, c4, c5, c6, c7⟩ := eight G7.out
          obtain ⟨f0, f1, f2, f3, f4, f5, f6, f7⟩ := eight_frozen G7.out
          go_wp2_with fail
          go_roundw
          case rel =>
            refine ⟨k + 1, by omega, by go_num, eight_far G3.out (by have := hlt.out; omega) _ _ _ _ _ _ _ _, eight_set G7.out _ _ _ _ _ _ _ _, eight_chg HG.out (.inr (by have := hlt.out; omega)) _ _ _ _ _ _ _ _⟩
          case measure => simp [intOf]; omega
        · obtain rfl : k = M := by omega
          clear hkM hlt2
          go_wp2_with fail
          obtain ⟨wo, rfl⟩ : ∃ wo : World, wo = wr := ⟨_, rfl⟩
          go_loopw [65] (fun i wr => ∃ j : Nat, j ≤ 8 ∧ i = .int .i64 j ∧ wo = wr) (fun i _ => 8 - (intOf i).toNat)
          case atStart => exact ⟨0, by decide, rfl, rfl⟩
          case round =>
            obtain ⟨j, hj, rfl, rfl⟩ := hrel
            by_cases hlt3 : j < 8
            · have hj8 : (j : Int) < 8 := by omega
              by_cases hjK : j = K
              · have hv : wo.cell? ⟨w.heap.size, j, none⟩ = some (.int .i64 (f K)) := by rw [hjK]; exact (C3.out.cell K).trans (va_get f hk)
                have hv7 : wo.cell? ⟨b7, j, none⟩ = some (.int .i64 (f K + k)) := by rw [hjK]; exact (C7.out.cell K).trans ((va_get _ hk).trans (by rw [adv_at]))
                have hb1 : ((j : Int) == (K : Int)) = true := by simp [hjK]
                clear hjK
                go_wp2_with fail
                go_roundw
                case rel => exact ⟨j + 1, by omega, by go_num, by first | rfl | trivial⟩
                case measure => simp [intOf]; omega
              · have hv : wo.cell? ⟨w.heap.size, j, none⟩ = some (.int .i64 (f j)) := (C3.out.cell j).trans (va_get f hlt3)
                have hv7 : wo.cell? ⟨b7, j, none⟩ = some (.int .i64 (f j)) := (C7.out.cell j).trans ((va_get _ hlt3).trans (by rw [adv_ne f hjK]))
                have hb1 : ((j : Int) == (K : Int)) = false := by simp; omega
                clear hjK
                go_wp2_with fail
                go_roundw
                case rel => exact ⟨j + 1, by omega, by go_num, by first | rfl | trivial⟩
                case measure => simp [intOf]; omega
            · obtain rfl : j = 8 := by omega
              have HL := Lib.hid (leq_adv f K (k := k) (by omega))
              obtain ⟨c0, c1, c2, c3, c4, c5, c6, c7⟩ := eight C3.out
              obtain ⟨d0, d1, d2, d3, d4, d5, d6, d7⟩ := eight C7.out
              go_wp2_with fail
              refine (leq_is HL.out _).mono ?_
              clear c0 c1 c2 c3 c4 c5 c6 c7 d0 d1 d2 d3 d4 d5 d6 d7
              rintro e w2 ⟨rfl, hC⟩
              have HE := Lib.hid (HD.out.trans hC)
              clear hC
              go_wp2_with fail
              refine (awake_any _).mono ?_
              rintro e w3 ⟨rfl, hC⟩
              have HF := Lib.hid (HE.out.trans hC)
              clear hC
              go_wp2_with fail
              go_ret
              exact ⟨rfl, HF.out⟩
theorem vectorNexts_walk (v0 : Value) (D0 : Vc) (a1 a2 : Int) (w : World) (w0 : VecAt v0 D0) (_ : (Lit.int .i64 a1).wf = true) (_ : (Lit.int .i64 a2).wf = true) :
    Calls Tryd.prog 6 #[v0, .int .i64 a1, .int .i64 a2] w fun e w' => e = .returned (.bool true) ∧ Below w.heap.size w w' := by
  obtain ⟨rfl, _⟩ := w0
  exact (vectorNexts_any D0 a1 a2 w).mono fun _ _ ⟨h1, h2⟩ => ⟨h1, h2.below⟩
end Go.Proofs.YthkmocfdpmlllaaDoor
