/- VectorApart: the walk. -/
import Derived.Test.YthkmocfdpmlllaaDoorVectorApartLaw
import Derived.Test.YthkmocfdpmlllaaDoorVArgs
import Derived.LaidMore
namespace Go.Proofs.YthkmocfdpmlllaaDoor
open Go.RowKit
attribute [local go_sem] max2_mx max_two_ eq_nums
theorem commas_step (t : ByteArray) {k : Nat} (h : k < t.size) : commas (t.data.toList.take (k + 1)) = commas (t.data.toList.take k) + if ((t[k]'h).toNat : Int) == 44 then 1 else 0 := by
  have hl : k < t.data.toList.length := by simpa using h
  rw [List.take_succ_eq_append_getElem hl]
  unfold commas
  rw [List.countP_append]
  have e : t.data.toList[k] = t[k]'h := by simp [ByteArray.getElem_eq_getElem_data]
  rw [e]
  have h44 : ∀ c : UInt8, ((c.toNat : Int) == 44) = (c == 44) := by
    intro c
    rw [Bool.eq_iff_iff, beq_iff_eq, beq_iff_eq, ← UInt8.toNat_inj]
    show _ ↔ c.toNat = 44
    omega
  rw [h44]
  cases hc : (t[k]'h == 44) <;> simp_all
theorem commas_le (l : List UInt8) : commas l ≤ l.length := List.countP_le_length
theorem nat8_may {f : Vc} (h : may f = true) : Nat8 f := by
  have := may_iff.1 h
  intro k hk
  have := this k hk
  unfold inr_ at this
  omega
attribute [local irreducible] wpQuiet
set_option maxHeartbeats 16000000 in
theorem vectorApart_any (a b : Vc) (w : World) (hT : Tab w) : Calls Tryd.prog 4 #[vec a, vec b] w fun e w' => e = .returned (.bool true) ∧ Chg NoB w w' := by
  have HT := Lib.hid hT
  clear hT
  go_enter Tryd.func4, Tryd.ntmps4
  go_wp2_with fail
  refine (may_any a _).mono ?_
  rintro e w1 ⟨rfl, hC⟩
  have B0 := Lib.hid (Blk.chg ((Blk.new w 23 (va a)).alloc _) hC id)
  have B1 := Lib.hid (Blk.chg (Blk.new_ (k := w.heap.size + 1) _ 23 (va b) (by simp)) hC id)
  have HC := Lib.hid (((((Chg.refl NoB w).alloc _).alloc _)).trans hC)
  clear hC
  cases hm : may a with
  | false =>
    go_wp2_with fail
    refine (awake_any _).mono ?_
    rintro e w2 ⟨rfl, hC⟩
    have HD := Lib.hid (HC.out.trans hC)
    clear hC
    go_wp2_with fail
    go_ret
    exact ⟨rfl, HD.out⟩
  | true =>
    obtain ⟨c0, c1, c2, c3, c4, c5, c6, c7⟩ := eight B1.out
    go_wp2_with fail
    refine (may_any b _).mono ?_
    clear c0 c1 c2 c3 c4 c5 c6 c7
    rintro e w2 ⟨rfl, hC⟩
    have C0 := Lib.hid (B0.out.chg hC id)
    have C1 := Lib.hid (B1.out.chg hC id)
    have HD := Lib.hid (HC.out.trans hC)
    clear hC B0 B1 HC
    cases hmb : may b with
    | false =>
      go_wp2_with fail
      refine (awake_any _).mono ?_
      rintro e w3 ⟨rfl, hC⟩
      have HE := Lib.hid (HD.out.trans hC)
      clear hC
      go_wp2_with fail
      go_ret
      exact ⟨rfl, HE.out⟩
    | true =>
      have HM := Lib.hid hm
      have HN := Lib.hid hmb
      clear hm hmb
      obtain ⟨c0, c1, c2, c3, c4, c5, c6, c7⟩ := eight C0.out
      go_wp2_with fail
      refine (text_any a HM.out _ (tab_chg HT.out HD.out)).mono ?_
      clear c0 c1 c2 c3 c4 c5 c6 c7
      rintro e w3 ⟨rfl, hC⟩
      have D0 := Lib.hid (C0.out.chg hC id)
      have D1 := Lib.hid (C1.out.chg hC id)
      have HE := Lib.hid (HD.out.trans hC)
      clear hC C0 C1 HD
      have HCm := Lib.hid (commas_tx (nat8_may HM.out))
      have HSz : Hid ((tx a).size ≤ 140737488355328) := Lib.hid (by
        have h := decs_join_le a (n := top a 7 + 1) (by have := top_le a 7; omega) (by have := may_iff.1 HM.out; intro k hk; have := this k hk; unfold inr_ at this; omega)
        rw [← tx_list] at h
        simpa using h)
      have hq0 : ((tx a).toList == (tx b).toList) = veq a b := by
        cases hv : veq a b with
        | true => rw [tx_congr hv]; exact beq_self_eq_true _
        | false =>
          refine beq_eq_false_iff_ne.2 fun he => ?_
          rw [ByteArray.toList_eq, ByteArray.toList_eq] at he
          rw [tx_inj (nat8_may HM.out) (nat8_may HN.out) (ByteArray.ext (Array.toList_inj.1 he))] at hv
          cases hv
      have HTop := Lib.hid (top_le a 7)
      have HZ : Hid (∀ i, top a 7 < i → i ≤ 7 → a i = 0) := Lib.hid fun i h1 h2 => top_zero a h1 h2
      have HP : Hid (0 < top a 7 → a (top a 7) ≠ 0) := Lib.hid fun h => top_pos h
      generalize top a 7 = T at HCm HTop HZ HP
      generalize ht : tx a = t at HCm HSz hq0 ⊢
      clear ht
      generalize hs : tx b = s at hq0
      have HS := Lib.hid hs
      have HQ := Lib.hid hq0
      clear hs hq0
      go_wp2_with fail
      go_loopw [6, 22] (fun n i wr => wr = w3 ∧ ∃ k : Nat, k ≤ t.size ∧ i = .int .i64 k ∧ n = .int .i64 (1 + commas (t.data.toList.take k) : Nat)) (fun _ i _ => t.size - (intOf i).toNat)
      case atStart => exact ⟨rfl, 0, by omega, rfl, rfl⟩
      case round =>
        obtain ⟨rfl, k, hk, rfl, rfl⟩ := hrel
        have hsz := HSz.out
        by_cases hlt : k < t.size
        · have hk2 : decide ((k : Int) < (t.size : Int)) = true := by simpa using hlt
          have hs := commas_step t hlt
          obtain ⟨c, hc⟩ : ∃ c : Int, c = ((t[k]'hlt).toNat : Int) := ⟨_, rfl⟩
          have hix : (Instr.index 9 (.string t) (.int .i64 k)).run Tryd.prog wr = .ok (.int .u8 c) wr := by
            rw [run_index_string (P := Tryd.prog) wr 9 t .i64 k Tryd.underlying9, dif_pos ⟨by omega, by omega⟩, hc]
            rfl
          rw [← hc] at hs
          clear hc
          have hcl : commas (t.data.toList.take k) ≤ k := Nat.le_trans (commas_le _) (by simp; omega)
          cases hb : (c == (44 : Int)) with
          | true =>
            rw [hb, if_pos rfl] at hs
            have HI := Lib.hid hs
            clear hs
            go_wp2_with fail
            go_roundw
            case rel => exact ⟨trivial, k + 1, by omega, by go_num, by rw [HI.out]; go_num⟩
            case measure => simp [intOf]; omega
          | false =>
            rw [hb, if_neg (by decide)] at hs
            have HI := Lib.hid hs
            clear hs
            go_wp2_with fail
            go_roundw
            case rel => exact ⟨trivial, k + 1, by omega, by go_num, by rw [HI.out]; go_num⟩
            case measure => simp [intOf]; omega
        · obtain rfl : k = t.size := by omega
          have hk2 : decide ((t.size : Int) < (t.size : Int)) = false := by simp
          have hn : ((1 + commas (t.data.toList.take t.size) : Nat) : Int) = (T : Int) + 1 := by
            rw [List.take_of_length_le (by simp), HCm.out]; omega
          rw [hn]
          clear hn
          have hT7 := HTop.out
          go_wp2_with fail
          obtain ⟨wo, rfl⟩ : ∃ wo : World, wo = wr := ⟨_, rfl⟩
          go_loopw [8] (fun i wr => wr = wo ∧ ∃ j : Nat, T + 1 ≤ j ∧ j ≤ 8 ∧ i = .int .i64 j) (fun i _ => 8 - (intOf i).toNat)
          case atStart => exact ⟨rfl, T + 1, by omega, by omega, by go_num⟩
          case round =>
            obtain ⟨rfl, j, hj1, hj2, rfl⟩ := hrel
            by_cases hj : j < 8
            · have hj3 : decide ((j : Int) < 8) = true := by simp; omega
              have hv : wr.cell? ⟨w.heap.size, j, none⟩ = some (.int .i64 0) := (D0.out.cell j).trans ((va_get a hj).trans (by rw [HZ.out j (by omega) (by omega)]))
              go_wp2_with fail
              go_roundw
              case rel => exact ⟨trivial, j + 1, by omega, by omega, by go_num⟩
              case measure => simp [intOf]; omega
            · obtain rfl : j = 8 := by omega
              have hj3 : decide (((8 : Nat) : Int) < 8) = false := by decide
              go_wp2_with fail
              have hq : (t.toList == s.toList) = veq a b := HQ.out
              have hv0 : (a 0 == b 0 && (a 1 == b 1 && (a 2 == b 2 && (a 3 == b 3 && (a 4 == b 4 && (a 5 == b 5 && (a 6 == b 6 && a 7 == b 7))))))) = veq a b := rfl
              generalize veq a b = q at hq hv0
              by_cases hT0 : T = 0
              · subst hT0
                refine q_start (by kernel_rfl) (by kernel_rfl) ?_
                refine q_on (v := ?_) (by rfl) ?_ ?_
                rotate_left
                · intro w' hC
                  go_simp
                  with_reducible rfl
                rotate_left
                refine q_norm (a' := ?_) ?_ ?_
                rotate_left
                · show Act.put _ (some 41) _ = _
                  simp only [Act.put, List.setIfInBounds_toArray, List.set_cons_zero, List.set_cons_succ]
                  rfl
                refine q_on (v := ?_) (by rfl) ?_ ?_
                rotate_left
                · intro w' hC
                  obtain ⟨c0, c1, c2, c3, c4, c5, c6, c7⟩ := eight (D1.out.chg hC id)
                  go_simp
                  with_reducible rfl
                rotate_left
                refine q_norm (a' := ?_) ?_ ?_
                rotate_left
                · show Act.put _ (some 42) _ = _
                  simp only [Act.put, List.setIfInBounds_toArray, List.set_cons_zero, List.set_cons_succ]
                  rfl
                refine q_call (f := 13) Tryd.func13 (by kernel_rfl) rfl #[vec b] (by rfl) rfl (by simp only [List.map_toArray, List.map_cons, List.map_nil]; rfl) _ (fun w' hC => q_of hC (HS.out ▸ text_any b HN.out w' (tab_chg HT.out (HE.out.trans hC)))) ?_
                refine q_norm (a' := ?_) ?_ ?_
                rotate_left
                · show Act.put _ (some 43) _ = _
                  simp only [Act.put, List.setIfInBounds_toArray, List.set_cons_zero, List.set_cons_succ]
                  rfl
                refine q_on (v := ?_) (by rfl) ?_ ?_
                rotate_left
                · intro w' hC
                  go_simp
                  with_reducible rfl
                rotate_left
                refine q_norm (a' := ?_) ?_ ?_
                rotate_left
                · show Act.put _ (some 44) _ = _
                  simp only [Act.put, List.setIfInBounds_toArray, List.set_cons_zero, List.set_cons_succ]
                  rfl
                refine q_on (v := ?_) (by rfl) ?_ ?_
                rotate_left
                · intro w' hC
                  obtain ⟨c0, c1, c2, c3, c4, c5, c6, c7⟩ := eight (D0.out.chg hC id)
                  go_simp
                  with_reducible rfl
                rotate_left
                refine q_norm (a' := ?_) ?_ ?_
                rotate_left
                · show Act.put _ (some 45) _ = _
                  simp only [Act.put, List.setIfInBounds_toArray, List.set_cons_zero, List.set_cons_succ]
                  rfl
                refine q_on (v := ?_) (by rfl) ?_ ?_
                rotate_left
                · intro w' hC
                  obtain ⟨c0, c1, c2, c3, c4, c5, c6, c7⟩ := eight (D1.out.chg hC id)
                  go_simp
                  with_reducible rfl
                rotate_left
                refine q_norm (a' := ?_) ?_ ?_
                rotate_left
                · show Act.put _ (some 46) _ = _
                  simp only [Act.put, List.setIfInBounds_toArray, List.set_cons_zero, List.set_cons_succ]
                  rfl
                refine q_on (v := ?_) (by rfl) ?_ ?_
                rotate_left
                · intro w' hC
                  go_simp
                  with_reducible rfl
                rotate_left
                refine q_norm (a' := ?_) ?_ ?_
                rotate_left
                · show Act.put _ (some 47) _ = _
                  simp only [Act.put, List.setIfInBounds_toArray, List.set_cons_zero, List.set_cons_succ]
                  rfl
                refine q_on (v := ?_) (by rfl) ?_ ?_
                rotate_left
                · intro w' hC
                  go_simp
                  with_reducible rfl
                rotate_left
                refine q_norm (a' := ?_) ?_ ?_
                rotate_left
                · show Act.put _ (some 48) _ = _
                  simp only [Act.put, List.setIfInBounds_toArray, List.set_cons_zero, List.set_cons_succ]
                  rfl
                refine q_on (v := ?_) (by rfl) ?_ ?_
                rotate_left
                · intro w' hC
                  go_simp
                  with_reducible rfl
                rotate_left
                refine q_norm (a' := ?_) ?_ ?_
                rotate_left
                · show Act.put _ (some 49) _ = _
                  simp only [Act.put, List.setIfInBounds_toArray, List.set_cons_zero, List.set_cons_succ]
                  rfl
                refine q_on (v := ?_) (by rfl) ?_ ?_
                rotate_left
                · intro w' hC
                  go_simp
                  with_reducible rfl
                rotate_left
                refine q_norm (a' := ?_) ?_ ?_
                rotate_left
                · show Act.put _ (some 50) _ = _
                  simp only [Act.put, List.setIfInBounds_toArray, List.set_cons_zero, List.set_cons_succ]
                  rfl
                refine q_on (v := ?_) (by rfl) ?_ ?_
                rotate_left
                · intro w' hC
                  go_simp
                  with_reducible rfl
                rotate_left
                refine q_norm (a' := ?_) ?_ ?_
                rotate_left
                · show Act.put _ (some 51) _ = _
                  simp only [Act.put, List.setIfInBounds_toArray, List.set_cons_zero, List.set_cons_succ]
                  rfl
                refine q_on (v := ?_) (by rfl) ?_ ?_
                rotate_left
                · intro w' hC
                  go_simp
                  with_reducible rfl
                rotate_left
                refine q_norm (a' := ?_) ?_ ?_
                rotate_left
                · show Act.put _ (some 52) _ = _
                  simp only [Act.put, List.setIfInBounds_toArray, List.set_cons_zero, List.set_cons_succ]
                  rfl
                refine q_off (by rfl) ?_
                refine q_norm (a' := ?_) ?_ ?_
                rotate_left
                · show Act.put _ (some 53) _ = _
                  simp only [Act.put, List.setIfInBounds_toArray, List.set_cons_zero, List.set_cons_succ]
                  rfl
                refine q_off (by rfl) ?_
                refine q_norm (a' := ?_) ?_ ?_
                rotate_left
                · show Act.put _ (some 54) _ = _
                  simp only [Act.put, List.setIfInBounds_toArray, List.set_cons_zero, List.set_cons_succ]
                  rfl
                refine q_off (by rfl) ?_
                refine q_norm (a' := ?_) ?_ ?_
                rotate_left
                · show Act.put _ (some 55) _ = _
                  simp only [Act.put, List.setIfInBounds_toArray, List.set_cons_zero, List.set_cons_succ]
                  rfl
                refine q_off (by rfl) ?_
                refine q_norm (a' := ?_) ?_ ?_
                rotate_left
                · show Act.put _ (some 56) _ = _
                  simp only [Act.put, List.setIfInBounds_toArray, List.set_cons_zero, List.set_cons_succ]
                  rfl
                refine q_off (by rfl) ?_
                refine q_norm (a' := ?_) ?_ ?_
                rotate_left
                · show Act.put _ (some 57) _ = _
                  simp only [Act.put, List.setIfInBounds_toArray, List.set_cons_zero, List.set_cons_succ]
                  rfl
                refine q_on (v := ?_) (by rfl) ?_ ?_
                rotate_left
                · intro w' hC
                  go_simp
                  with_reducible rfl
                rotate_left
                refine q_norm (a' := ?_) ?_ ?_
                rotate_left
                · show Act.put _ (some 58) _ = _
                  simp only [Act.put, List.setIfInBounds_toArray, List.set_cons_zero, List.set_cons_succ]
                  rfl
                refine q_on (v := ?_) (by rfl) ?_ ?_
                rotate_left
                · intro w' hC
                  go_simp
                  with_reducible rfl
                rotate_left
                refine q_norm (a' := ?_) ?_ ?_
                rotate_left
                · show Act.put _ (some 59) _ = _
                  simp only [Act.put, List.setIfInBounds_toArray, List.set_cons_zero, List.set_cons_succ]
                  rfl
                refine q_on (v := ?_) (by rfl) ?_ ?_
                rotate_left
                · intro w' hC
                  go_simp
                  with_reducible rfl
                rotate_left
                refine q_norm (a' := ?_) ?_ ?_
                rotate_left
                · show Act.put _ (some 60) _ = _
                  simp only [Act.put, List.setIfInBounds_toArray, List.set_cons_zero, List.set_cons_succ]
                  rfl
                refine q_call (f := 11) Tryd.func11 (by kernel_rfl) rfl #[] (by rfl) rfl (by simp only [List.map_toArray, List.map_nil]) _ (fun w' hC => q_of hC (awake_any w')) ?_
                refine q_norm (a' := ?_) ?_ ?_
                rotate_left
                · show Act.put _ (some 61) _ = _
                  simp only [Act.put, List.setIfInBounds_toArray, List.set_cons_zero, List.set_cons_succ]
                  rfl
                refine q_on (v := ?_) (by rfl) ?_ ?_
                rotate_left
                · intro w' hC
                  go_simp
                  with_reducible rfl
                rotate_left
                refine q_norm (a' := ?_) ?_ ?_
                rotate_left
                · show Act.put _ (some 62) _ = _
                  simp only [Act.put, List.setIfInBounds_toArray, List.set_cons_zero, List.set_cons_succ]
                  rfl
                refine q_on (v := ?_) (by rfl) ?_ ?_
                rotate_left
                · intro w' hC
                  go_simp
                  with_reducible rfl
                rotate_left
                refine q_norm (a' := ?_) ?_ ?_
                rotate_left
                · show Act.put _ (some 4) _ = _
                  simp only [Act.put, List.setIfInBounds_toArray, List.set_cons_zero, List.set_cons_succ]
                  rfl
                refine wpQuiet_nil ?_
                intro w' hC
                go_wp2_with fail
                go_ret
                exact ⟨rfl, HE.out.trans hC⟩
              · have hn1 : ((T : Int) + 1 == 1) = false := beq_eq_false_iff_ne.2 (by omega)
                have hw1 : IntKind.i64.wrap (T : Int) = (T : Int) := by unfold IntKind.wrap; simp [IntKind.bits, IntKind.signed]; omega
                have hT8 : (T : Int) < 8 := by omega
                have hnz : (a T != 0) = true := bne_iff_ne.2 (HP.out (by omega))
                refine q_start (by kernel_rfl) (by kernel_rfl) ?_
                refine q_on (v := ?_) (by rfl) ?_ ?_
                rotate_left
                · intro w' hC
                  go_simp
                  with_reducible rfl
                rotate_left
                refine q_norm (a' := ?_) ?_ ?_
                rotate_left
                · show Act.put _ (some 41) _ = _
                  simp only [Act.put, List.setIfInBounds_toArray, List.set_cons_zero, List.set_cons_succ]
                  rfl
                refine q_on (v := ?_) (by rfl) ?_ ?_
                rotate_left
                · intro w' hC
                  obtain ⟨c0, c1, c2, c3, c4, c5, c6, c7⟩ := eight (D1.out.chg hC id)
                  go_simp
                  with_reducible rfl
                rotate_left
                refine q_norm (a' := ?_) ?_ ?_
                rotate_left
                · show Act.put _ (some 42) _ = _
                  simp only [Act.put, List.setIfInBounds_toArray, List.set_cons_zero, List.set_cons_succ]
                  rfl
                refine q_call (f := 13) Tryd.func13 (by kernel_rfl) rfl #[vec b] (by rfl) rfl (by simp only [List.map_toArray, List.map_cons, List.map_nil]; rfl) _ (fun w' hC => q_of hC (HS.out ▸ text_any b HN.out w' (tab_chg HT.out (HE.out.trans hC)))) ?_
                refine q_norm (a' := ?_) ?_ ?_
                rotate_left
                · show Act.put _ (some 43) _ = _
                  simp only [Act.put, List.setIfInBounds_toArray, List.set_cons_zero, List.set_cons_succ]
                  rfl
                refine q_on (v := ?_) (by rfl) ?_ ?_
                rotate_left
                · intro w' hC
                  go_simp
                  with_reducible rfl
                rotate_left
                refine q_norm (a' := ?_) ?_ ?_
                rotate_left
                · show Act.put _ (some 44) _ = _
                  simp only [Act.put, List.setIfInBounds_toArray, List.set_cons_zero, List.set_cons_succ]
                  rfl
                refine q_on (v := ?_) (by rfl) ?_ ?_
                rotate_left
                · intro w' hC
                  obtain ⟨c0, c1, c2, c3, c4, c5, c6, c7⟩ := eight (D0.out.chg hC id)
                  have hv : w'.cell? ⟨w.heap.size, T, none⟩ = some (.int .i64 (a T)) := ((D0.out.chg hC id).cell T).trans (va_get a (by omega))
                  go_simp
                  with_reducible rfl
                rotate_left
                refine q_norm (a' := ?_) ?_ ?_
                rotate_left
                · show Act.put _ (some 45) _ = _
                  simp only [Act.put, List.setIfInBounds_toArray, List.set_cons_zero, List.set_cons_succ]
                  rfl
                refine q_on (v := ?_) (by rfl) ?_ ?_
                rotate_left
                · intro w' hC
                  obtain ⟨c0, c1, c2, c3, c4, c5, c6, c7⟩ := eight (D1.out.chg hC id)
                  go_simp
                  with_reducible rfl
                rotate_left
                refine q_norm (a' := ?_) ?_ ?_
                rotate_left
                · show Act.put _ (some 46) _ = _
                  simp only [Act.put, List.setIfInBounds_toArray, List.set_cons_zero, List.set_cons_succ]
                  rfl
                refine q_on (v := ?_) (by rfl) ?_ ?_
                rotate_left
                · intro w' hC
                  go_simp
                  with_reducible rfl
                rotate_left
                refine q_norm (a' := ?_) ?_ ?_
                rotate_left
                · show Act.put _ (some 47) _ = _
                  simp only [Act.put, List.setIfInBounds_toArray, List.set_cons_zero, List.set_cons_succ]
                  rfl
                refine q_on (v := ?_) (by rfl) ?_ ?_
                rotate_left
                · intro w' hC
                  go_simp
                  with_reducible rfl
                rotate_left
                refine q_norm (a' := ?_) ?_ ?_
                rotate_left
                · show Act.put _ (some 48) _ = _
                  simp only [Act.put, List.setIfInBounds_toArray, List.set_cons_zero, List.set_cons_succ]
                  rfl
                refine q_on (v := ?_) (by rfl) ?_ ?_
                rotate_left
                · intro w' hC
                  go_simp
                  with_reducible rfl
                rotate_left
                refine q_norm (a' := ?_) ?_ ?_
                rotate_left
                · show Act.put _ (some 49) _ = _
                  simp only [Act.put, List.setIfInBounds_toArray, List.set_cons_zero, List.set_cons_succ]
                  rfl
                refine q_on (v := ?_) (by rfl) ?_ ?_
                rotate_left
                · intro w' hC
                  go_simp
                  with_reducible rfl
                rotate_left
                refine q_norm (a' := ?_) ?_ ?_
                rotate_left
                · show Act.put _ (some 50) _ = _
                  simp only [Act.put, List.setIfInBounds_toArray, List.set_cons_zero, List.set_cons_succ]
                  rfl
                refine q_on (v := ?_) (by rfl) ?_ ?_
                rotate_left
                · intro w' hC
                  go_simp
                  with_reducible rfl
                rotate_left
                refine q_norm (a' := ?_) ?_ ?_
                rotate_left
                · show Act.put _ (some 51) _ = _
                  simp only [Act.put, List.setIfInBounds_toArray, List.set_cons_zero, List.set_cons_succ]
                  rfl
                refine q_on (v := ?_) (by rfl) ?_ ?_
                rotate_left
                · intro w' hC
                  go_simp
                  with_reducible rfl
                rotate_left
                refine q_norm (a' := ?_) ?_ ?_
                rotate_left
                · show Act.put _ (some 52) _ = _
                  simp only [Act.put, List.setIfInBounds_toArray, List.set_cons_zero, List.set_cons_succ]
                  rfl
                refine q_on (v := ?_) (by rfl) ?_ ?_
                rotate_left
                · intro w' hC
                  go_simp
                  with_reducible rfl
                rotate_left
                refine q_norm (a' := ?_) ?_ ?_
                rotate_left
                · show Act.put _ (some 53) _ = _
                  simp only [Act.put, List.setIfInBounds_toArray, List.set_cons_zero, List.set_cons_succ]
                  rfl
                refine q_on (v := ?_) (by rfl) ?_ ?_
                rotate_left
                · intro w' hC
                  go_simp
                  with_reducible rfl
                rotate_left
                refine q_norm (a' := ?_) ?_ ?_
                rotate_left
                · show Act.put _ (some 54) _ = _
                  simp only [Act.put, List.setIfInBounds_toArray, List.set_cons_zero, List.set_cons_succ]
                  rfl
                refine q_on (v := ?_) (by rfl) ?_ ?_
                rotate_left
                · intro w' hC
                  go_simp
                  with_reducible rfl
                rotate_left
                refine q_norm (a' := ?_) ?_ ?_
                rotate_left
                · show Act.put _ (some 55) _ = _
                  simp only [Act.put, List.setIfInBounds_toArray, List.set_cons_zero, List.set_cons_succ]
                  rfl
                refine q_on (v := ?_) (by rfl) ?_ ?_
                rotate_left
                · intro w' hC
                  obtain ⟨c0, c1, c2, c3, c4, c5, c6, c7⟩ := eight (D0.out.chg hC id)
                  have hv : w'.cell? ⟨w.heap.size, T, none⟩ = some (.int .i64 (a T)) := ((D0.out.chg hC id).cell T).trans (va_get a (by omega))
                  go_simp
                  with_reducible rfl
                rotate_left
                refine q_norm (a' := ?_) ?_ ?_
                rotate_left
                · show Act.put _ (some 56) _ = _
                  simp only [Act.put, List.setIfInBounds_toArray, List.set_cons_zero, List.set_cons_succ]
                  rfl
                refine q_on (v := ?_) (by rfl) ?_ ?_
                rotate_left
                · intro w' hC
                  go_simp
                  with_reducible rfl
                rotate_left
                refine q_norm (a' := ?_) ?_ ?_
                rotate_left
                · show Act.put _ (some 57) _ = _
                  simp only [Act.put, List.setIfInBounds_toArray, List.set_cons_zero, List.set_cons_succ]
                  rfl
                refine q_on (v := ?_) (by rfl) ?_ ?_
                rotate_left
                · intro w' hC
                  go_simp
                  with_reducible rfl
                rotate_left
                refine q_norm (a' := ?_) ?_ ?_
                rotate_left
                · show Act.put _ (some 58) _ = _
                  simp only [Act.put, List.setIfInBounds_toArray, List.set_cons_zero, List.set_cons_succ]
                  rfl
                refine q_on (v := ?_) (by rfl) ?_ ?_
                rotate_left
                · intro w' hC
                  go_simp
                  with_reducible rfl
                rotate_left
                refine q_norm (a' := ?_) ?_ ?_
                rotate_left
                · show Act.put _ (some 59) _ = _
                  simp only [Act.put, List.setIfInBounds_toArray, List.set_cons_zero, List.set_cons_succ]
                  rfl
                refine q_on (v := ?_) (by rfl) ?_ ?_
                rotate_left
                · intro w' hC
                  go_simp
                  with_reducible rfl
                rotate_left
                refine q_norm (a' := ?_) ?_ ?_
                rotate_left
                · show Act.put _ (some 60) _ = _
                  simp only [Act.put, List.setIfInBounds_toArray, List.set_cons_zero, List.set_cons_succ]
                  rfl
                refine q_call (f := 11) Tryd.func11 (by kernel_rfl) rfl #[] (by rfl) rfl (by simp only [List.map_toArray, List.map_nil]) _ (fun w' hC => q_of hC (awake_any w')) ?_
                refine q_norm (a' := ?_) ?_ ?_
                rotate_left
                · show Act.put _ (some 61) _ = _
                  simp only [Act.put, List.setIfInBounds_toArray, List.set_cons_zero, List.set_cons_succ]
                  rfl
                refine q_on (v := ?_) (by rfl) ?_ ?_
                rotate_left
                · intro w' hC
                  go_simp
                  with_reducible rfl
                rotate_left
                refine q_norm (a' := ?_) ?_ ?_
                rotate_left
                · show Act.put _ (some 62) _ = _
                  simp only [Act.put, List.setIfInBounds_toArray, List.set_cons_zero, List.set_cons_succ]
                  rfl
                refine q_on (v := ?_) (by rfl) ?_ ?_
                rotate_left
                · intro w' hC
                  go_simp
                  with_reducible rfl
                rotate_left
                refine q_norm (a' := ?_) ?_ ?_
                rotate_left
                · show Act.put _ (some 4) _ = _
                  simp only [Act.put, List.setIfInBounds_toArray, List.set_cons_zero, List.set_cons_succ]
                  rfl
                refine wpQuiet_nil ?_
                intro w' hC
                go_wp2_with fail
                go_ret
                exact ⟨rfl, HE.out.trans hC⟩
theorem tab_of_laid {W : World} (h : laidMetH Tryd.prog [("math/bits.deBruijn32tab", Rows.laid_math_bits_deBruijn32tab), ("math/bits.deBruijn64tab", Rows.laid_math_bits_deBruijn64tab), ("internal/strconv.uint64pow10", Rows.laid_internal_strconv_uint64pow10)] W) : Tab W := by
  rw [MakeChecks.laidMetH_plain _ _ _ (by kernel_rfl)] at h
  obtain ⟨ps, ⟨_, _, _, _, _, _, _, _, _, _, ⟨_, _, _, _, _, _, _, _, _, _, ⟨g', t', cs, fuel, p, q, hg', ht', hvar, hd, _, _⟩, _⟩, _⟩, _⟩ := h
  obtain rfl := Option.some.inj ((show Tryd.prog.globalNamed "internal/strconv.uint64pow10" = some 0 by kernel_rfl).symm.trans hg')
  obtain rfl := Option.some.inj ((show (Tryd.prog.globals[0]?).map (·.type) = some 72 by kernel_rfl).symm.trans ht')
  have hd' : DataW.trod _ Tryd.prog W 0 _ _ fuel _ cs.toList = some (Lib.tabData .u64 Lib.pow10Tab, p) := hd
  unfold Tab Lib.TabIs
  rw [hvar, ← Lib.cells_of_tab Tryd.underlying72 Tryd.underlying38 (by kernel_rfl) (by kernel_rfl) hd']
theorem vectorApart_walk (v0 : Value) (D0 : Vc) (v1 : Value) (D1 : Vc) (w : World) (w0 : VecAt v0 D0) (w1 : VecAt v1 D1) (hL : laidMetH Tryd.prog [("math/bits.deBruijn32tab", Rows.laid_math_bits_deBruijn32tab), ("math/bits.deBruijn64tab", Rows.laid_math_bits_deBruijn64tab), ("internal/strconv.uint64pow10", Rows.laid_internal_strconv_uint64pow10)] w) :
    Calls Tryd.prog 4 #[v0, v1] w fun e w' => e = .returned (.bool true) ∧ Below w.heap.size w w' := by
  obtain ⟨rfl, _⟩ := w0
  obtain ⟨rfl, _⟩ := w1
  exact (vectorApart_any D0 D1 w (tab_of_laid hL)).mono fun _ _ ⟨h1, h2⟩ => ⟨h1, h2.below⟩
end Go.Proofs.YthkmocfdpmlllaaDoor
