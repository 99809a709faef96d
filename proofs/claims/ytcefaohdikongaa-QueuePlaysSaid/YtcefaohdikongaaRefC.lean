/- The reference's SameEntries, SameDigests. No statement is proved here. -/
import Derived.Test.YtcefaohdikongaaRefB
namespace Go.Proofs.Ytcefaohdikongaa
open Go.RowKit Go.Proofs.YtcefaohdikongaaW.PrintLast
attribute [local irreducible] wpQuiet
attribute [local go_sem high] eq_dot' eq_mem' eq_vec'

theorem key_ne (a b : ByteArray) : (!a.toList == b.toList) = false ↔ a = b := by
  rw [← beq_toListBytes, Bool.not_eq_false', ba_beq]
theorem map_get_ne {α β : Type} {f : α → β} {l m : List α} {k : Nat} (hl : k < l.length) (hm : k < m.length) (he : f l[k] ≠ f m[k]) : l.map f ≠ m.map f := by
  intro h
  have h1 : (l.map f)[k]? = (m.map f)[k]? := by rw [h]
  rw [List.getElem?_map, List.getElem?_map, List.getElem?_eq_getElem hl, List.getElem?_eq_getElem hm] at h1
  exact he (Option.some.inj h1)
theorem map_take_succ {α β : Type} {f : α → β} {l m : List α} {k : Nat} (h : (l.map f).take k = (m.map f).take k) (hl : k < l.length) (hm : k < m.length) (he : f l[k] = f m[k]) : (l.map f).take (k + 1) = (m.map f).take (k + 1) :=
  take_eq_succ' h (by simpa using hl) (by simpa using hm) (by simpa using he)
theorem map_take_all {α β : Type} {f : α → β} {l m : List α} (h : (l.map f).take l.length = (m.map f).take l.length) (hlm : m.length = l.length) : l.map f = m.map f := by
  rwa [List.take_of_length_le (by simp), List.take_of_length_le (by simp [hlm])] at h
set_option maxRecDepth 100000 in
set_option maxHeartbeats 2000000 in
theorem sameEntries_any {w : World} {A B : Nat → Prop} (l m : List En) (p q : Value) (hp : Rd w A (ensD l) p) (hq : Rd w B (ensD m) q) :
    Calls Try.prog 28 #[p, q] w fun e w' => e = .returned (.bool (decide (l.map enC = m.map enC))) ∧ Chg NoB w w' := by
  obtain ⟨p1, c1, rfl, h1, h2, h4⟩ := ens_form hp
  obtain ⟨q1, c2, rfl, k1, k2, k4⟩ := ens_form hq
  unfold maxLen at h2 k2
  obtain ⟨b, hb⟩ : ∃ b, ((l.length : Int) != m.length) = b := ⟨_, rfl⟩
  go_enter Try.func28, Try.ntmps28
  cases b with
  | true =>
    have hd : l.map enC ≠ m.map enC := fun h => by
      have := congrArg List.length h
      simp only [List.length_map] at this
      rw [this] at hb
      simp at hb
    go_wp2_with fail
    go_ret
    exact ⟨ret_bb (decide_eq_false hd).symm, Chg.refl _ _⟩
  | false =>
    have hlm : m.length = l.length := by simp at hb; omega
    have HLm := Lib.hid hlm
    rw [hlm] at hq k1 k4 ⊢
    clear hlm hb
    go_wp2_with fail
    go_loopw [13] (fun i wr => ∃ k : Nat, k ≤ l.length ∧ i = .int .i64 k ∧ Hid ((l.map enC).take k = (m.map enC).take k) ∧ Chg NoB w wr) (fun i _ => l.length - (intOf i).toNat)
    case atStart => exact ⟨0, Nat.zero_le _, rfl, Lib.hid rfl, Chg.refl _ _⟩
    case round =>
      obtain ⟨k, hk, rfl, HN, HC⟩ := hrel
      replace hp := hp.st HC
      replace hq := hq.st HC
      by_cases hlt : k < l.length
      · obtain ⟨b, off, rfl, hA, hb⟩ := h4 (by omega)
        obtain ⟨b', off', rfl, hA', hb'⟩ := k4 (by omega)
        have hltm : k < m.length := by rw [HLm.out]; exact hlt
        have HS : Hid (enC l[k] = enC m[k] → (l.map enC).take (k + 1) = (m.map enC).take (k + 1)) := Lib.hid fun h => map_take_succ HN.out hlt hltm h
        have HD : Hid (enC l[k] ≠ enC m[k] → l.map enC ≠ m.map enC) := Lib.hid fun h => map_get_ne hlt hltm h
        have hk3 : (k : Int) < (l.length : Int) := by omega
        have hbb : b < wr.heap.size := Nat.lt_of_lt_of_le hb HC.size
        have hbb' : b' < wr.heap.size := Nat.lt_of_lt_of_le hb' HC.size
        obtain ⟨q2, cp2, hv, hcs⟩ := en_at hp hlt
        obtain ⟨q3, cp3, hu, hct⟩ := en_at hq hltm
        generalize l[k] = u at *
        generalize m[k] = v at *
        have HP : Hid (∀ w', Chg NoB wr w' → w'.cell? ⟨b, off + k * 10, none⟩ = some (.string u.key) ∧ w'.cell? ⟨b, off + k * 10 + 1, none⟩ = some (.int .i64 (u.sb.seen 0)) ∧ w'.cell? ⟨b, off + k * 10 + 2, none⟩ = some (.int .i64 (u.sb.seen 1)) ∧ w'.cell? ⟨b, off + k * 10 + 3, none⟩ = some (.int .i64 (u.sb.seen 2)) ∧ w'.cell? ⟨b, off + k * 10 + 4, none⟩ = some (.int .i64 (u.sb.seen 3)) ∧ w'.cell? ⟨b, off + k * 10 + 5, none⟩ = some (.int .i64 (u.sb.seen 4)) ∧ w'.cell? ⟨b, off + k * 10 + 6, none⟩ = some (.int .i64 (u.sb.seen 5)) ∧ w'.cell? ⟨b, off + k * 10 + 7, none⟩ = some (.int .i64 (u.sb.seen 6)) ∧ w'.cell? ⟨b, off + k * 10 + 8, none⟩ = some (.int .i64 (u.sb.seen 7)) ∧ w'.cell? ⟨b, off + k * 10 + 9, none⟩ = some ((.slice q2 u.sb.vals.length cp2))) := Lib.hid fun w' hC => by
          refine ⟨(hC.cell (p := ⟨b, off + k * 10, none⟩) hbb id).trans (hcs 0 (by decide)), (hC.cell (p := ⟨b, off + k * 10 + 1, none⟩) hbb id).trans (hcs 1 (by decide)), (hC.cell (p := ⟨b, off + k * 10 + 2, none⟩) hbb id).trans (hcs 2 (by decide)), (hC.cell (p := ⟨b, off + k * 10 + 3, none⟩) hbb id).trans (hcs 3 (by decide)), (hC.cell (p := ⟨b, off + k * 10 + 4, none⟩) hbb id).trans (hcs 4 (by decide)), (hC.cell (p := ⟨b, off + k * 10 + 5, none⟩) hbb id).trans (hcs 5 (by decide)), (hC.cell (p := ⟨b, off + k * 10 + 6, none⟩) hbb id).trans (hcs 6 (by decide)), (hC.cell (p := ⟨b, off + k * 10 + 7, none⟩) hbb id).trans (hcs 7 (by decide)), (hC.cell (p := ⟨b, off + k * 10 + 8, none⟩) hbb id).trans (hcs 8 (by decide)), (hC.cell (p := ⟨b, off + k * 10 + 9, none⟩) hbb id).trans (hcs 9 (by decide))⟩
        have HQ : Hid (∀ w', Chg NoB wr w' → w'.cell? ⟨b', off' + k * 10, none⟩ = some (.string v.key) ∧ w'.cell? ⟨b', off' + k * 10 + 1, none⟩ = some (.int .i64 (v.sb.seen 0)) ∧ w'.cell? ⟨b', off' + k * 10 + 2, none⟩ = some (.int .i64 (v.sb.seen 1)) ∧ w'.cell? ⟨b', off' + k * 10 + 3, none⟩ = some (.int .i64 (v.sb.seen 2)) ∧ w'.cell? ⟨b', off' + k * 10 + 4, none⟩ = some (.int .i64 (v.sb.seen 3)) ∧ w'.cell? ⟨b', off' + k * 10 + 5, none⟩ = some (.int .i64 (v.sb.seen 4)) ∧ w'.cell? ⟨b', off' + k * 10 + 6, none⟩ = some (.int .i64 (v.sb.seen 5)) ∧ w'.cell? ⟨b', off' + k * 10 + 7, none⟩ = some (.int .i64 (v.sb.seen 6)) ∧ w'.cell? ⟨b', off' + k * 10 + 8, none⟩ = some (.int .i64 (v.sb.seen 7)) ∧ w'.cell? ⟨b', off' + k * 10 + 9, none⟩ = some ((.slice q3 v.sb.vals.length cp3))) := Lib.hid fun w' hC => by
          refine ⟨(hC.cell (p := ⟨b', off' + k * 10, none⟩) hbb' id).trans (hct 0 (by decide)), (hC.cell (p := ⟨b', off' + k * 10 + 1, none⟩) hbb' id).trans (hct 1 (by decide)), (hC.cell (p := ⟨b', off' + k * 10 + 2, none⟩) hbb' id).trans (hct 2 (by decide)), (hC.cell (p := ⟨b', off' + k * 10 + 3, none⟩) hbb' id).trans (hct 3 (by decide)), (hC.cell (p := ⟨b', off' + k * 10 + 4, none⟩) hbb' id).trans (hct 4 (by decide)), (hC.cell (p := ⟨b', off' + k * 10 + 5, none⟩) hbb' id).trans (hct 5 (by decide)), (hC.cell (p := ⟨b', off' + k * 10 + 6, none⟩) hbb' id).trans (hct 6 (by decide)), (hC.cell (p := ⟨b', off' + k * 10 + 7, none⟩) hbb' id).trans (hct 7 (by decide)), (hC.cell (p := ⟨b', off' + k * 10 + 8, none⟩) hbb' id).trans (hct 8 (by decide)), (hC.cell (p := ⟨b', off' + k * 10 + 9, none⟩) hbb' id).trans (hct 9 (by decide))⟩
        obtain ⟨x1, hx1⟩ : ∃ x, (!u.key.toList == v.key.toList) = x := ⟨_, rfl⟩
        obtain ⟨x2, hx2⟩ : ∃ x, decide (sbC u.sb = sbC v.sb) = x := ⟨_, rfl⟩
        have HE : Hid (enC u = enC v ↔ x1 = false ∧ x2 = true) := Lib.hid (by subst hx1 hx2; rw [key_ne, decide_eq_true_iff]; simp only [enC, Prod.mk.injEq])
        have HM : Hid (∀ w', Chg NoB wr w' → Calls Try.prog 37 #[sbv u.sb (.slice q2 u.sb.vals.length cp2), sbv v.sb (.slice q3 v.sb.vals.length cp3)] w' fun e w'' => e = .returned (.bool x2) ∧ Chg NoB w' w'') := Lib.hid fun w' hC => hx2 ▸ sameV_any u.sb v.sb _ _ (hv.st hC) (hu.st hC)
        clear hp hq hv hu hcs hct hx2
        have hk1 : k + 1 ≤ l.length := hlt
        go_upto_region 6 with fail
        cases x1 with
        | true =>
          have hs := Lib.hid (HD.out fun h => by have := HE.out.1 h; simp at this)
          clear HS HD HE
          refine q_start (by kernel_rfl) (by kernel_rfl) ?_
          refine q_on (v := ?_) (by rfl) ?_ ?_
          rotate_left
          · intro w' hC
            go_simp
            with_reducible rfl
          rotate_left
          refine q_norm (a' := ?_) ?_ ?_
          rotate_left
          · show Act.put _ (some 16) _ = _
            simp only [Act.put, List.setIfInBounds_toArray, List.set_cons_zero, List.set_cons_succ]
            rfl
          refine q_on (v := ?_) (by rfl) ?_ ?_
          rotate_left
          · intro w' hC
            go_simp
            with_reducible rfl
          rotate_left
          refine q_norm (a' := ?_) ?_ ?_
          rotate_left
          · show Act.put _ (some 17) _ = _
            simp only [Act.put, List.setIfInBounds_toArray, List.set_cons_zero, List.set_cons_succ]
            rfl
          refine q_on (v := ?_) (by rfl) ?_ ?_
          rotate_left
          · intro w' hC
            go_simp
            with_reducible rfl
          rotate_left
          refine q_norm (a' := ?_) ?_ ?_
          rotate_left
          · show Act.put _ (some 18) _ = _
            simp only [Act.put, List.setIfInBounds_toArray, List.set_cons_zero, List.set_cons_succ]
            rfl
          refine q_on (v := ?_) (by rfl) ?_ ?_
          rotate_left
          · intro w' hC
            go_simp
            with_reducible rfl
          rotate_left
          refine q_norm (a' := ?_) ?_ ?_
          rotate_left
          · show Act.put _ (some 19) _ = _
            simp only [Act.put, List.setIfInBounds_toArray, List.set_cons_zero, List.set_cons_succ]
            rfl
          refine q_on (v := ?_) (by rfl) ?_ ?_
          rotate_left
          · intro w' hC
            obtain ⟨c0, c1, c2, c3, c4, c5, c6, c7, c8, c9⟩ := HP.out w' hC
            go_simp
            with_reducible rfl
          rotate_left
          refine q_norm (a' := ?_) ?_ ?_
          rotate_left
          · show Act.put _ (some 20) _ = _
            simp only [Act.put, List.setIfInBounds_toArray, List.set_cons_zero, List.set_cons_succ]
            rfl
          refine q_on (v := ?_) (by rfl) ?_ ?_
          rotate_left
          · intro w' hC
            go_simp
            with_reducible rfl
          rotate_left
          refine q_norm (a' := ?_) ?_ ?_
          rotate_left
          · show Act.put _ (some 21) _ = _
            simp only [Act.put, List.setIfInBounds_toArray, List.set_cons_zero, List.set_cons_succ]
            rfl
          refine q_on (v := ?_) (by rfl) ?_ ?_
          rotate_left
          · intro w' hC
            go_simp
            with_reducible rfl
          rotate_left
          refine q_norm (a' := ?_) ?_ ?_
          rotate_left
          · show Act.put _ (some 22) _ = _
            simp only [Act.put, List.setIfInBounds_toArray, List.set_cons_zero, List.set_cons_succ]
            rfl
          refine q_on (v := ?_) (by rfl) ?_ ?_
          rotate_left
          · intro w' hC
            go_simp
            with_reducible rfl
          rotate_left
          refine q_norm (a' := ?_) ?_ ?_
          rotate_left
          · show Act.put _ (some 23) _ = _
            simp only [Act.put, List.setIfInBounds_toArray, List.set_cons_zero, List.set_cons_succ]
            rfl
          refine q_on (v := ?_) (by rfl) ?_ ?_
          rotate_left
          · intro w' hC
            go_simp
            with_reducible rfl
          rotate_left
          refine q_norm (a' := ?_) ?_ ?_
          rotate_left
          · show Act.put _ (some 24) _ = _
            simp only [Act.put, List.setIfInBounds_toArray, List.set_cons_zero, List.set_cons_succ]
            rfl
          refine q_on (v := ?_) (by rfl) ?_ ?_
          rotate_left
          · intro w' hC
            obtain ⟨c0, c1, c2, c3, c4, c5, c6, c7, c8, c9⟩ := HQ.out w' hC
            go_simp
            with_reducible rfl
          rotate_left
          refine q_norm (a' := ?_) ?_ ?_
          rotate_left
          · show Act.put _ (some 25) _ = _
            simp only [Act.put, List.setIfInBounds_toArray, List.set_cons_zero, List.set_cons_succ]
            rfl
          refine q_on (v := ?_) (by rfl) ?_ ?_
          rotate_left
          · intro w' hC
            go_simp
            with_reducible rfl
          rotate_left
          refine q_norm (a' := ?_) ?_ ?_
          rotate_left
          · show Act.put _ (some 26) _ = _
            simp only [Act.put, List.setIfInBounds_toArray, List.set_cons_zero, List.set_cons_succ]
            rfl
          refine q_on (v := ?_) (by rfl) ?_ ?_
          rotate_left
          · intro w' hC
            go_simp
            with_reducible rfl
          rotate_left
          refine q_norm (a' := ?_) ?_ ?_
          rotate_left
          · show Act.put _ (some 27) _ = _
            simp only [Act.put, List.setIfInBounds_toArray, List.set_cons_zero, List.set_cons_succ]
            rfl
          refine q_off (by rfl) ?_
          refine q_norm (a' := ?_) ?_ ?_
          rotate_left
          · show Act.put _ (some 28) _ = _
            simp only [Act.put, List.setIfInBounds_toArray, List.set_cons_zero, List.set_cons_succ]
            rfl
          refine q_off (by rfl) ?_
          refine q_norm (a' := ?_) ?_ ?_
          rotate_left
          · show Act.put _ (some 29) _ = _
            simp only [Act.put, List.setIfInBounds_toArray, List.set_cons_zero, List.set_cons_succ]
            rfl
          refine q_off (by rfl) ?_
          refine q_norm (a' := ?_) ?_ ?_
          rotate_left
          · show Act.put _ (some 30) _ = _
            simp only [Act.put, List.setIfInBounds_toArray, List.set_cons_zero, List.set_cons_succ]
            rfl
          refine q_off (by rfl) ?_
          refine q_norm (a' := ?_) ?_ ?_
          rotate_left
          · show Act.put _ (some 31) _ = _
            simp only [Act.put, List.setIfInBounds_toArray, List.set_cons_zero, List.set_cons_succ]
            rfl
          refine q_off (by rfl) ?_
          refine q_norm (a' := ?_) ?_ ?_
          rotate_left
          · show Act.put _ (some 32) _ = _
            simp only [Act.put, List.setIfInBounds_toArray, List.set_cons_zero, List.set_cons_succ]
            rfl
          refine q_off (by rfl) ?_
          refine q_norm (a' := ?_) ?_ ?_
          rotate_left
          · show Act.put _ (some 33) _ = _
            simp only [Act.put, List.setIfInBounds_toArray, List.set_cons_zero, List.set_cons_succ]
            rfl
          refine q_off (by rfl) ?_
          refine q_norm (a' := ?_) ?_ ?_
          rotate_left
          · show Act.put _ (some 34) _ = _
            simp only [Act.put, List.setIfInBounds_toArray, List.set_cons_zero, List.set_cons_succ]
            rfl
          refine q_off (by rfl) ?_
          refine q_norm (a' := ?_) ?_ ?_
          rotate_left
          · show Act.put _ (some 35) _ = _
            simp only [Act.put, List.setIfInBounds_toArray, List.set_cons_zero, List.set_cons_succ]
            rfl
          refine q_off (by rfl) ?_
          refine q_norm (a' := ?_) ?_ ?_
          rotate_left
          · show Act.put _ (some 36) _ = _
            simp only [Act.put, List.setIfInBounds_toArray, List.set_cons_zero, List.set_cons_succ]
            rfl
          refine q_off (by rfl) ?_
          refine q_norm (a' := ?_) ?_ ?_
          rotate_left
          · show Act.put _ (some 37) _ = _
            simp only [Act.put, List.setIfInBounds_toArray, List.set_cons_zero, List.set_cons_succ]
            rfl
          refine q_off (by rfl) ?_
          refine q_norm (a' := ?_) ?_ ?_
          rotate_left
          · show Act.put _ (some 38) _ = _
            simp only [Act.put, List.setIfInBounds_toArray, List.set_cons_zero, List.set_cons_succ]
            rfl
          refine q_off (by rfl) ?_
          refine q_norm (a' := ?_) ?_ ?_
          rotate_left
          · show Act.put _ (some 39) _ = _
            simp only [Act.put, List.setIfInBounds_toArray, List.set_cons_zero, List.set_cons_succ]
            rfl
          refine q_on (v := ?_) (by rfl) ?_ ?_
          rotate_left
          · intro w' hC
            go_simp
            with_reducible rfl
          rotate_left
          refine q_norm (a' := ?_) ?_ ?_
          rotate_left
          · show Act.put _ (some 40) _ = _
            simp only [Act.put, List.setIfInBounds_toArray, List.set_cons_zero, List.set_cons_succ]
            rfl
          refine wpQuiet_nil ?_
          intro w' hC
          go_wp2_with fail
          go_ret
          exact ⟨ret_bb (decide_eq_false hs.out).symm, HC.trans hC⟩
        | false =>
          cases x2 with
          | false =>
            have hs := Lib.hid (HD.out fun h => by have := HE.out.1 h; simp at this)
            clear HS HD HE
            refine q_start (by kernel_rfl) (by kernel_rfl) ?_
            refine q_on (v := ?_) (by rfl) ?_ ?_
            rotate_left
            · intro w' hC
              go_simp
              with_reducible rfl
            rotate_left
            refine q_norm (a' := ?_) ?_ ?_
            rotate_left
            · show Act.put _ (some 16) _ = _
              simp only [Act.put, List.setIfInBounds_toArray, List.set_cons_zero, List.set_cons_succ]
              rfl
            refine q_on (v := ?_) (by rfl) ?_ ?_
            rotate_left
            · intro w' hC
              go_simp
              with_reducible rfl
            rotate_left
            refine q_norm (a' := ?_) ?_ ?_
            rotate_left
            · show Act.put _ (some 17) _ = _
              simp only [Act.put, List.setIfInBounds_toArray, List.set_cons_zero, List.set_cons_succ]
              rfl
            refine q_on (v := ?_) (by rfl) ?_ ?_
            rotate_left
            · intro w' hC
              go_simp
              with_reducible rfl
            rotate_left
            refine q_norm (a' := ?_) ?_ ?_
            rotate_left
            · show Act.put _ (some 18) _ = _
              simp only [Act.put, List.setIfInBounds_toArray, List.set_cons_zero, List.set_cons_succ]
              rfl
            refine q_on (v := ?_) (by rfl) ?_ ?_
            rotate_left
            · intro w' hC
              go_simp
              with_reducible rfl
            rotate_left
            refine q_norm (a' := ?_) ?_ ?_
            rotate_left
            · show Act.put _ (some 19) _ = _
              simp only [Act.put, List.setIfInBounds_toArray, List.set_cons_zero, List.set_cons_succ]
              rfl
            refine q_on (v := ?_) (by rfl) ?_ ?_
            rotate_left
            · intro w' hC
              obtain ⟨c0, c1, c2, c3, c4, c5, c6, c7, c8, c9⟩ := HP.out w' hC
              go_simp
              with_reducible rfl
            rotate_left
            refine q_norm (a' := ?_) ?_ ?_
            rotate_left
            · show Act.put _ (some 20) _ = _
              simp only [Act.put, List.setIfInBounds_toArray, List.set_cons_zero, List.set_cons_succ]
              rfl
            refine q_on (v := ?_) (by rfl) ?_ ?_
            rotate_left
            · intro w' hC
              go_simp
              with_reducible rfl
            rotate_left
            refine q_norm (a' := ?_) ?_ ?_
            rotate_left
            · show Act.put _ (some 21) _ = _
              simp only [Act.put, List.setIfInBounds_toArray, List.set_cons_zero, List.set_cons_succ]
              rfl
            refine q_on (v := ?_) (by rfl) ?_ ?_
            rotate_left
            · intro w' hC
              go_simp
              with_reducible rfl
            rotate_left
            refine q_norm (a' := ?_) ?_ ?_
            rotate_left
            · show Act.put _ (some 22) _ = _
              simp only [Act.put, List.setIfInBounds_toArray, List.set_cons_zero, List.set_cons_succ]
              rfl
            refine q_on (v := ?_) (by rfl) ?_ ?_
            rotate_left
            · intro w' hC
              go_simp
              with_reducible rfl
            rotate_left
            refine q_norm (a' := ?_) ?_ ?_
            rotate_left
            · show Act.put _ (some 23) _ = _
              simp only [Act.put, List.setIfInBounds_toArray, List.set_cons_zero, List.set_cons_succ]
              rfl
            refine q_on (v := ?_) (by rfl) ?_ ?_
            rotate_left
            · intro w' hC
              go_simp
              with_reducible rfl
            rotate_left
            refine q_norm (a' := ?_) ?_ ?_
            rotate_left
            · show Act.put _ (some 24) _ = _
              simp only [Act.put, List.setIfInBounds_toArray, List.set_cons_zero, List.set_cons_succ]
              rfl
            refine q_on (v := ?_) (by rfl) ?_ ?_
            rotate_left
            · intro w' hC
              obtain ⟨c0, c1, c2, c3, c4, c5, c6, c7, c8, c9⟩ := HQ.out w' hC
              go_simp
              with_reducible rfl
            rotate_left
            refine q_norm (a' := ?_) ?_ ?_
            rotate_left
            · show Act.put _ (some 25) _ = _
              simp only [Act.put, List.setIfInBounds_toArray, List.set_cons_zero, List.set_cons_succ]
              rfl
            refine q_on (v := ?_) (by rfl) ?_ ?_
            rotate_left
            · intro w' hC
              go_simp
              with_reducible rfl
            rotate_left
            refine q_norm (a' := ?_) ?_ ?_
            rotate_left
            · show Act.put _ (some 26) _ = _
              simp only [Act.put, List.setIfInBounds_toArray, List.set_cons_zero, List.set_cons_succ]
              rfl
            refine q_on (v := ?_) (by rfl) ?_ ?_
            rotate_left
            · intro w' hC
              go_simp
              with_reducible rfl
            rotate_left
            refine q_norm (a' := ?_) ?_ ?_
            rotate_left
            · show Act.put _ (some 27) _ = _
              simp only [Act.put, List.setIfInBounds_toArray, List.set_cons_zero, List.set_cons_succ]
              rfl
            refine q_on (v := ?_) (by rfl) ?_ ?_
            rotate_left
            · intro w' hC
              go_simp
              with_reducible rfl
            rotate_left
            refine q_norm (a' := ?_) ?_ ?_
            rotate_left
            · show Act.put _ (some 28) _ = _
              simp only [Act.put, List.setIfInBounds_toArray, List.set_cons_zero, List.set_cons_succ]
              rfl
            refine q_on (v := ?_) (by rfl) ?_ ?_
            rotate_left
            · intro w' hC
              go_simp
              with_reducible rfl
            rotate_left
            refine q_norm (a' := ?_) ?_ ?_
            rotate_left
            · show Act.put _ (some 29) _ = _
              simp only [Act.put, List.setIfInBounds_toArray, List.set_cons_zero, List.set_cons_succ]
              rfl
            refine q_on (v := ?_) (by rfl) ?_ ?_
            rotate_left
            · intro w' hC
              go_simp
              with_reducible rfl
            rotate_left
            refine q_norm (a' := ?_) ?_ ?_
            rotate_left
            · show Act.put _ (some 30) _ = _
              simp only [Act.put, List.setIfInBounds_toArray, List.set_cons_zero, List.set_cons_succ]
              rfl
            refine q_on (v := ?_) (by rfl) ?_ ?_
            rotate_left
            · intro w' hC
              go_simp
              with_reducible rfl
            rotate_left
            refine q_norm (a' := ?_) ?_ ?_
            rotate_left
            · show Act.put _ (some 31) _ = _
              simp only [Act.put, List.setIfInBounds_toArray, List.set_cons_zero, List.set_cons_succ]
              rfl
            refine q_on (v := ?_) (by rfl) ?_ ?_
            rotate_left
            · intro w' hC
              obtain ⟨c0, c1, c2, c3, c4, c5, c6, c7, c8, c9⟩ := HP.out w' hC
              go_simp
              with_reducible rfl
            rotate_left
            refine q_norm (a' := ?_) ?_ ?_
            rotate_left
            · show Act.put _ (some 32) _ = _
              simp only [Act.put, List.setIfInBounds_toArray, List.set_cons_zero, List.set_cons_succ]
              rfl
            refine q_on (v := ?_) (by rfl) ?_ ?_
            rotate_left
            · intro w' hC
              go_simp
              with_reducible rfl
            rotate_left
            refine q_norm (a' := ?_) ?_ ?_
            rotate_left
            · show Act.put _ (some 33) _ = _
              simp only [Act.put, List.setIfInBounds_toArray, List.set_cons_zero, List.set_cons_succ]
              rfl
            refine q_on (v := ?_) (by rfl) ?_ ?_
            rotate_left
            · intro w' hC
              go_simp
              with_reducible rfl
            rotate_left
            refine q_norm (a' := ?_) ?_ ?_
            rotate_left
            · show Act.put _ (some 34) _ = _
              simp only [Act.put, List.setIfInBounds_toArray, List.set_cons_zero, List.set_cons_succ]
              rfl
            refine q_on (v := ?_) (by rfl) ?_ ?_
            rotate_left
            · intro w' hC
              go_simp
              with_reducible rfl
            rotate_left
            refine q_norm (a' := ?_) ?_ ?_
            rotate_left
            · show Act.put _ (some 35) _ = _
              simp only [Act.put, List.setIfInBounds_toArray, List.set_cons_zero, List.set_cons_succ]
              rfl
            refine q_on (v := ?_) (by rfl) ?_ ?_
            rotate_left
            · intro w' hC
              go_simp
              with_reducible rfl
            rotate_left
            refine q_norm (a' := ?_) ?_ ?_
            rotate_left
            · show Act.put _ (some 36) _ = _
              simp only [Act.put, List.setIfInBounds_toArray, List.set_cons_zero, List.set_cons_succ]
              rfl
            refine q_on (v := ?_) (by rfl) ?_ ?_
            rotate_left
            · intro w' hC
              obtain ⟨c0, c1, c2, c3, c4, c5, c6, c7, c8, c9⟩ := HQ.out w' hC
              go_simp
              with_reducible rfl
            rotate_left
            refine q_norm (a' := ?_) ?_ ?_
            rotate_left
            · show Act.put _ (some 37) _ = _
              simp only [Act.put, List.setIfInBounds_toArray, List.set_cons_zero, List.set_cons_succ]
              rfl
            refine q_call (f := 37) Try.func37 (by kernel_rfl) rfl #[sbv u.sb (.slice q2 u.sb.vals.length cp2), sbv v.sb (.slice q3 v.sb.vals.length cp3)] (by rfl) rfl (by simp only [List.map_toArray, List.map_cons, List.map_nil]; rfl) _ (fun w' hC => q_of hC (HM.out w' hC)) ?_
            refine q_norm (a' := ?_) ?_ ?_
            rotate_left
            · show Act.put _ (some 38) _ = _
              simp only [Act.put, List.setIfInBounds_toArray, List.set_cons_zero, List.set_cons_succ]
              rfl
            refine q_on (v := ?_) (by rfl) ?_ ?_
            rotate_left
            · intro w' hC
              go_simp
              with_reducible rfl
            rotate_left
            refine q_norm (a' := ?_) ?_ ?_
            rotate_left
            · show Act.put _ (some 39) _ = _
              simp only [Act.put, List.setIfInBounds_toArray, List.set_cons_zero, List.set_cons_succ]
              rfl
            refine q_on (v := ?_) (by rfl) ?_ ?_
            rotate_left
            · intro w' hC
              go_simp
              with_reducible rfl
            rotate_left
            refine q_norm (a' := ?_) ?_ ?_
            rotate_left
            · show Act.put _ (some 40) _ = _
              simp only [Act.put, List.setIfInBounds_toArray, List.set_cons_zero, List.set_cons_succ]
              rfl
            refine wpQuiet_nil ?_
            intro w' hC
            go_wp2_with fail
            go_ret
            exact ⟨ret_bb (decide_eq_false hs.out).symm, HC.trans hC⟩
          | true =>
            have hs := Lib.hid (HS.out (HE.out.2 ⟨rfl, rfl⟩))
            clear HS HD HE
            refine q_start (by kernel_rfl) (by kernel_rfl) ?_
            refine q_on (v := ?_) (by rfl) ?_ ?_
            rotate_left
            · intro w' hC
              go_simp
              with_reducible rfl
            rotate_left
            refine q_norm (a' := ?_) ?_ ?_
            rotate_left
            · show Act.put _ (some 16) _ = _
              simp only [Act.put, List.setIfInBounds_toArray, List.set_cons_zero, List.set_cons_succ]
              rfl
            refine q_on (v := ?_) (by rfl) ?_ ?_
            rotate_left
            · intro w' hC
              go_simp
              with_reducible rfl
            rotate_left
            refine q_norm (a' := ?_) ?_ ?_
            rotate_left
            · show Act.put _ (some 17) _ = _
              simp only [Act.put, List.setIfInBounds_toArray, List.set_cons_zero, List.set_cons_succ]
              rfl
            refine q_on (v := ?_) (by rfl) ?_ ?_
            rotate_left
            · intro w' hC
              go_simp
              with_reducible rfl
            rotate_left
            refine q_norm (a' := ?_) ?_ ?_
            rotate_left
            · show Act.put _ (some 18) _ = _
              simp only [Act.put, List.setIfInBounds_toArray, List.set_cons_zero, List.set_cons_succ]
              rfl
            refine q_on (v := ?_) (by rfl) ?_ ?_
            rotate_left
            · intro w' hC
              go_simp
              with_reducible rfl
            rotate_left
            refine q_norm (a' := ?_) ?_ ?_
            rotate_left
            · show Act.put _ (some 19) _ = _
              simp only [Act.put, List.setIfInBounds_toArray, List.set_cons_zero, List.set_cons_succ]
              rfl
            refine q_on (v := ?_) (by rfl) ?_ ?_
            rotate_left
            · intro w' hC
              obtain ⟨c0, c1, c2, c3, c4, c5, c6, c7, c8, c9⟩ := HP.out w' hC
              go_simp
              with_reducible rfl
            rotate_left
            refine q_norm (a' := ?_) ?_ ?_
            rotate_left
            · show Act.put _ (some 20) _ = _
              simp only [Act.put, List.setIfInBounds_toArray, List.set_cons_zero, List.set_cons_succ]
              rfl
            refine q_on (v := ?_) (by rfl) ?_ ?_
            rotate_left
            · intro w' hC
              go_simp
              with_reducible rfl
            rotate_left
            refine q_norm (a' := ?_) ?_ ?_
            rotate_left
            · show Act.put _ (some 21) _ = _
              simp only [Act.put, List.setIfInBounds_toArray, List.set_cons_zero, List.set_cons_succ]
              rfl
            refine q_on (v := ?_) (by rfl) ?_ ?_
            rotate_left
            · intro w' hC
              go_simp
              with_reducible rfl
            rotate_left
            refine q_norm (a' := ?_) ?_ ?_
            rotate_left
            · show Act.put _ (some 22) _ = _
              simp only [Act.put, List.setIfInBounds_toArray, List.set_cons_zero, List.set_cons_succ]
              rfl
            refine q_on (v := ?_) (by rfl) ?_ ?_
            rotate_left
            · intro w' hC
              go_simp
              with_reducible rfl
            rotate_left
            refine q_norm (a' := ?_) ?_ ?_
            rotate_left
            · show Act.put _ (some 23) _ = _
              simp only [Act.put, List.setIfInBounds_toArray, List.set_cons_zero, List.set_cons_succ]
              rfl
            refine q_on (v := ?_) (by rfl) ?_ ?_
            rotate_left
            · intro w' hC
              go_simp
              with_reducible rfl
            rotate_left
            refine q_norm (a' := ?_) ?_ ?_
            rotate_left
            · show Act.put _ (some 24) _ = _
              simp only [Act.put, List.setIfInBounds_toArray, List.set_cons_zero, List.set_cons_succ]
              rfl
            refine q_on (v := ?_) (by rfl) ?_ ?_
            rotate_left
            · intro w' hC
              obtain ⟨c0, c1, c2, c3, c4, c5, c6, c7, c8, c9⟩ := HQ.out w' hC
              go_simp
              with_reducible rfl
            rotate_left
            refine q_norm (a' := ?_) ?_ ?_
            rotate_left
            · show Act.put _ (some 25) _ = _
              simp only [Act.put, List.setIfInBounds_toArray, List.set_cons_zero, List.set_cons_succ]
              rfl
            refine q_on (v := ?_) (by rfl) ?_ ?_
            rotate_left
            · intro w' hC
              go_simp
              with_reducible rfl
            rotate_left
            refine q_norm (a' := ?_) ?_ ?_
            rotate_left
            · show Act.put _ (some 26) _ = _
              simp only [Act.put, List.setIfInBounds_toArray, List.set_cons_zero, List.set_cons_succ]
              rfl
            refine q_on (v := ?_) (by rfl) ?_ ?_
            rotate_left
            · intro w' hC
              go_simp
              with_reducible rfl
            rotate_left
            refine q_norm (a' := ?_) ?_ ?_
            rotate_left
            · show Act.put _ (some 27) _ = _
              simp only [Act.put, List.setIfInBounds_toArray, List.set_cons_zero, List.set_cons_succ]
              rfl
            refine q_on (v := ?_) (by rfl) ?_ ?_
            rotate_left
            · intro w' hC
              go_simp
              with_reducible rfl
            rotate_left
            refine q_norm (a' := ?_) ?_ ?_
            rotate_left
            · show Act.put _ (some 28) _ = _
              simp only [Act.put, List.setIfInBounds_toArray, List.set_cons_zero, List.set_cons_succ]
              rfl
            refine q_on (v := ?_) (by rfl) ?_ ?_
            rotate_left
            · intro w' hC
              go_simp
              with_reducible rfl
            rotate_left
            refine q_norm (a' := ?_) ?_ ?_
            rotate_left
            · show Act.put _ (some 29) _ = _
              simp only [Act.put, List.setIfInBounds_toArray, List.set_cons_zero, List.set_cons_succ]
              rfl
            refine q_on (v := ?_) (by rfl) ?_ ?_
            rotate_left
            · intro w' hC
              go_simp
              with_reducible rfl
            rotate_left
            refine q_norm (a' := ?_) ?_ ?_
            rotate_left
            · show Act.put _ (some 30) _ = _
              simp only [Act.put, List.setIfInBounds_toArray, List.set_cons_zero, List.set_cons_succ]
              rfl
            refine q_on (v := ?_) (by rfl) ?_ ?_
            rotate_left
            · intro w' hC
              go_simp
              with_reducible rfl
            rotate_left
            refine q_norm (a' := ?_) ?_ ?_
            rotate_left
            · show Act.put _ (some 31) _ = _
              simp only [Act.put, List.setIfInBounds_toArray, List.set_cons_zero, List.set_cons_succ]
              rfl
            refine q_on (v := ?_) (by rfl) ?_ ?_
            rotate_left
            · intro w' hC
              obtain ⟨c0, c1, c2, c3, c4, c5, c6, c7, c8, c9⟩ := HP.out w' hC
              go_simp
              with_reducible rfl
            rotate_left
            refine q_norm (a' := ?_) ?_ ?_
            rotate_left
            · show Act.put _ (some 32) _ = _
              simp only [Act.put, List.setIfInBounds_toArray, List.set_cons_zero, List.set_cons_succ]
              rfl
            refine q_on (v := ?_) (by rfl) ?_ ?_
            rotate_left
            · intro w' hC
              go_simp
              with_reducible rfl
            rotate_left
            refine q_norm (a' := ?_) ?_ ?_
            rotate_left
            · show Act.put _ (some 33) _ = _
              simp only [Act.put, List.setIfInBounds_toArray, List.set_cons_zero, List.set_cons_succ]
              rfl
            refine q_on (v := ?_) (by rfl) ?_ ?_
            rotate_left
            · intro w' hC
              go_simp
              with_reducible rfl
            rotate_left
            refine q_norm (a' := ?_) ?_ ?_
            rotate_left
            · show Act.put _ (some 34) _ = _
              simp only [Act.put, List.setIfInBounds_toArray, List.set_cons_zero, List.set_cons_succ]
              rfl
            refine q_on (v := ?_) (by rfl) ?_ ?_
            rotate_left
            · intro w' hC
              go_simp
              with_reducible rfl
            rotate_left
            refine q_norm (a' := ?_) ?_ ?_
            rotate_left
            · show Act.put _ (some 35) _ = _
              simp only [Act.put, List.setIfInBounds_toArray, List.set_cons_zero, List.set_cons_succ]
              rfl
            refine q_on (v := ?_) (by rfl) ?_ ?_
            rotate_left
            · intro w' hC
              go_simp
              with_reducible rfl
            rotate_left
            refine q_norm (a' := ?_) ?_ ?_
            rotate_left
            · show Act.put _ (some 36) _ = _
              simp only [Act.put, List.setIfInBounds_toArray, List.set_cons_zero, List.set_cons_succ]
              rfl
            refine q_on (v := ?_) (by rfl) ?_ ?_
            rotate_left
            · intro w' hC
              obtain ⟨c0, c1, c2, c3, c4, c5, c6, c7, c8, c9⟩ := HQ.out w' hC
              go_simp
              with_reducible rfl
            rotate_left
            refine q_norm (a' := ?_) ?_ ?_
            rotate_left
            · show Act.put _ (some 37) _ = _
              simp only [Act.put, List.setIfInBounds_toArray, List.set_cons_zero, List.set_cons_succ]
              rfl
            refine q_call (f := 37) Try.func37 (by kernel_rfl) rfl #[sbv u.sb (.slice q2 u.sb.vals.length cp2), sbv v.sb (.slice q3 v.sb.vals.length cp3)] (by rfl) rfl (by simp only [List.map_toArray, List.map_cons, List.map_nil]; rfl) _ (fun w' hC => q_of hC (HM.out w' hC)) ?_
            refine q_norm (a' := ?_) ?_ ?_
            rotate_left
            · show Act.put _ (some 38) _ = _
              simp only [Act.put, List.setIfInBounds_toArray, List.set_cons_zero, List.set_cons_succ]
              rfl
            refine q_on (v := ?_) (by rfl) ?_ ?_
            rotate_left
            · intro w' hC
              go_simp
              with_reducible rfl
            rotate_left
            refine q_norm (a' := ?_) ?_ ?_
            rotate_left
            · show Act.put _ (some 39) _ = _
              simp only [Act.put, List.setIfInBounds_toArray, List.set_cons_zero, List.set_cons_succ]
              rfl
            refine q_on (v := ?_) (by rfl) ?_ ?_
            rotate_left
            · intro w' hC
              go_simp
              with_reducible rfl
            rotate_left
            refine q_norm (a' := ?_) ?_ ?_
            rotate_left
            · show Act.put _ (some 40) _ = _
              simp only [Act.put, List.setIfInBounds_toArray, List.set_cons_zero, List.set_cons_succ]
              rfl
            refine wpQuiet_nil ?_
            intro w' hC
            go_wp2_with fail
            go_roundw
            case rel => exact ⟨k + 1, hk1, by go_num, hs, HC.trans hC⟩
            case measure => simp [intOf]; omega
      · obtain rfl : k = l.length := by omega
        have HL := Lib.hid (map_take_all HN.out HLm.out)
        go_wp2_with fail
        go_ret
        exact ⟨ret_bb (decide_eq_true HL.out).symm, HC⟩
set_option maxRecDepth 100000 in
set_option maxHeartbeats 2000000 in
theorem sameDigests_any {w : World} {A B : Nat → Prop} (l m : List Dg) (p q : Value) (hp : Rd w A (dgsD l) p) (hq : Rd w B (dgsD m) q) :
    Calls Try.prog 29 #[p, q] w fun e w' => e = .returned (.bool (decide (l.map dgC = m.map dgC))) ∧ Chg NoB w w' := by
  obtain ⟨p1, c1, rfl, h1, h2, h4⟩ := dgs_form hp
  obtain ⟨q1, c2, rfl, k1, k2, k4⟩ := dgs_form hq
  unfold maxLen at h2 k2
  obtain ⟨b, hb⟩ : ∃ b, ((l.length : Int) != m.length) = b := ⟨_, rfl⟩
  go_enter Try.func29, Try.ntmps29
  cases b with
  | true =>
    have hd : l.map dgC ≠ m.map dgC := fun h => by
      have := congrArg List.length h
      simp only [List.length_map] at this
      rw [this] at hb
      simp at hb
    go_wp2_with fail
    go_ret
    exact ⟨ret_bb (decide_eq_false hd).symm, Chg.refl _ _⟩
  | false =>
    have hlm : m.length = l.length := by simp at hb; omega
    have HLm := Lib.hid hlm
    rw [hlm] at hq k1 k4 ⊢
    clear hlm hb
    go_wp2_with fail
    go_loopw [13] (fun i wr => ∃ k : Nat, k ≤ l.length ∧ i = .int .i64 k ∧ Hid ((l.map dgC).take k = (m.map dgC).take k) ∧ Chg NoB w wr) (fun i _ => l.length - (intOf i).toNat)
    case atStart => exact ⟨0, Nat.zero_le _, rfl, Lib.hid rfl, Chg.refl _ _⟩
    case round =>
      obtain ⟨k, hk, rfl, HN, HC⟩ := hrel
      replace hp := hp.st HC
      replace hq := hq.st HC
      by_cases hlt : k < l.length
      · obtain ⟨b, off, rfl, hA, hb⟩ := h4 (by omega)
        obtain ⟨b', off', rfl, hA', hb'⟩ := k4 (by omega)
        have hltm : k < m.length := by rw [HLm.out]; exact hlt
        have HS : Hid (dgC l[k] = dgC m[k] → (l.map dgC).take (k + 1) = (m.map dgC).take (k + 1)) := Lib.hid fun h => map_take_succ HN.out hlt hltm h
        have HD : Hid (dgC l[k] ≠ dgC m[k] → l.map dgC ≠ m.map dgC) := Lib.hid fun h => map_get_ne hlt hltm h
        have hk3 : (k : Int) < (l.length : Int) := by omega
        have hbb : b < wr.heap.size := Nat.lt_of_lt_of_le hb HC.size
        have hbb' : b' < wr.heap.size := Nat.lt_of_lt_of_le hb' HC.size
        obtain ⟨q2, cp2, hv, hcs⟩ := dg_at hp hlt
        obtain ⟨q3, cp3, hu, hct⟩ := dg_at hq hltm
        generalize l[k] = u at *
        generalize m[k] = v at *
        have HP : Hid (∀ w', Chg NoB wr w' → w'.cell? ⟨b, off + k * 10, none⟩ = some (.string u.key) ∧ w'.cell? ⟨b, off + k * 10 + 1, none⟩ = some (.int .i64 (u.seen 0)) ∧ w'.cell? ⟨b, off + k * 10 + 2, none⟩ = some (.int .i64 (u.seen 1)) ∧ w'.cell? ⟨b, off + k * 10 + 3, none⟩ = some (.int .i64 (u.seen 2)) ∧ w'.cell? ⟨b, off + k * 10 + 4, none⟩ = some (.int .i64 (u.seen 3)) ∧ w'.cell? ⟨b, off + k * 10 + 5, none⟩ = some (.int .i64 (u.seen 4)) ∧ w'.cell? ⟨b, off + k * 10 + 6, none⟩ = some (.int .i64 (u.seen 5)) ∧ w'.cell? ⟨b, off + k * 10 + 7, none⟩ = some (.int .i64 (u.seen 6)) ∧ w'.cell? ⟨b, off + k * 10 + 8, none⟩ = some (.int .i64 (u.seen 7)) ∧ w'.cell? ⟨b, off + k * 10 + 9, none⟩ = some ((.slice q2 u.dots.length cp2))) := Lib.hid fun w' hC => by
          refine ⟨(hC.cell (p := ⟨b, off + k * 10, none⟩) hbb id).trans (hcs 0 (by decide)), (hC.cell (p := ⟨b, off + k * 10 + 1, none⟩) hbb id).trans (hcs 1 (by decide)), (hC.cell (p := ⟨b, off + k * 10 + 2, none⟩) hbb id).trans (hcs 2 (by decide)), (hC.cell (p := ⟨b, off + k * 10 + 3, none⟩) hbb id).trans (hcs 3 (by decide)), (hC.cell (p := ⟨b, off + k * 10 + 4, none⟩) hbb id).trans (hcs 4 (by decide)), (hC.cell (p := ⟨b, off + k * 10 + 5, none⟩) hbb id).trans (hcs 5 (by decide)), (hC.cell (p := ⟨b, off + k * 10 + 6, none⟩) hbb id).trans (hcs 6 (by decide)), (hC.cell (p := ⟨b, off + k * 10 + 7, none⟩) hbb id).trans (hcs 7 (by decide)), (hC.cell (p := ⟨b, off + k * 10 + 8, none⟩) hbb id).trans (hcs 8 (by decide)), (hC.cell (p := ⟨b, off + k * 10 + 9, none⟩) hbb id).trans (hcs 9 (by decide))⟩
        have HQ : Hid (∀ w', Chg NoB wr w' → w'.cell? ⟨b', off' + k * 10, none⟩ = some (.string v.key) ∧ w'.cell? ⟨b', off' + k * 10 + 1, none⟩ = some (.int .i64 (v.seen 0)) ∧ w'.cell? ⟨b', off' + k * 10 + 2, none⟩ = some (.int .i64 (v.seen 1)) ∧ w'.cell? ⟨b', off' + k * 10 + 3, none⟩ = some (.int .i64 (v.seen 2)) ∧ w'.cell? ⟨b', off' + k * 10 + 4, none⟩ = some (.int .i64 (v.seen 3)) ∧ w'.cell? ⟨b', off' + k * 10 + 5, none⟩ = some (.int .i64 (v.seen 4)) ∧ w'.cell? ⟨b', off' + k * 10 + 6, none⟩ = some (.int .i64 (v.seen 5)) ∧ w'.cell? ⟨b', off' + k * 10 + 7, none⟩ = some (.int .i64 (v.seen 6)) ∧ w'.cell? ⟨b', off' + k * 10 + 8, none⟩ = some (.int .i64 (v.seen 7)) ∧ w'.cell? ⟨b', off' + k * 10 + 9, none⟩ = some ((.slice q3 v.dots.length cp3))) := Lib.hid fun w' hC => by
          refine ⟨(hC.cell (p := ⟨b', off' + k * 10, none⟩) hbb' id).trans (hct 0 (by decide)), (hC.cell (p := ⟨b', off' + k * 10 + 1, none⟩) hbb' id).trans (hct 1 (by decide)), (hC.cell (p := ⟨b', off' + k * 10 + 2, none⟩) hbb' id).trans (hct 2 (by decide)), (hC.cell (p := ⟨b', off' + k * 10 + 3, none⟩) hbb' id).trans (hct 3 (by decide)), (hC.cell (p := ⟨b', off' + k * 10 + 4, none⟩) hbb' id).trans (hct 4 (by decide)), (hC.cell (p := ⟨b', off' + k * 10 + 5, none⟩) hbb' id).trans (hct 5 (by decide)), (hC.cell (p := ⟨b', off' + k * 10 + 6, none⟩) hbb' id).trans (hct 6 (by decide)), (hC.cell (p := ⟨b', off' + k * 10 + 7, none⟩) hbb' id).trans (hct 7 (by decide)), (hC.cell (p := ⟨b', off' + k * 10 + 8, none⟩) hbb' id).trans (hct 8 (by decide)), (hC.cell (p := ⟨b', off' + k * 10 + 9, none⟩) hbb' id).trans (hct 9 (by decide))⟩
        obtain ⟨x1, hx1⟩ : ∃ x, (!u.key.toList == v.key.toList) = x := ⟨_, rfl⟩
        obtain ⟨x2, hx2⟩ : ∃ x, veq u.seen v.seen = x := ⟨_, rfl⟩
        obtain ⟨x3, hx3⟩ : ∃ x, decide (u.dots = v.dots) = x := ⟨_, rfl⟩
        have HE : Hid (dgC u = dgC v ↔ x1 = false ∧ x2 = true ∧ x3 = true) := Lib.hid (by subst hx1 hx2 hx3; rw [key_ne, veq_seenL, decide_eq_true_iff, decide_eq_true_iff]; simp only [dgC, Prod.mk.injEq])
        have HM : Hid (∀ w', Chg NoB wr w' → Calls Try.prog 38 #[.slice q2 u.dots.length cp2, .slice q3 v.dots.length cp3] w' fun e w'' => e = .returned (.bool x3) ∧ Chg NoB w' w'') := Lib.hid fun w' hC => hx3 ▸ sameDots_any u.dots v.dots _ _ (hv.st hC) (hu.st hC)
        clear hp hq hv hu hcs hct hx3
        have hk1 : k + 1 ≤ l.length := hlt
        go_upto_region 6 with fail
        cases x1 with
        | true =>
          have hs := Lib.hid (HD.out fun h => by have := HE.out.1 h; simp at this)
          clear HS HD HE
          refine q_start (by kernel_rfl) (by kernel_rfl) ?_
          refine q_on (v := ?_) (by rfl) ?_ ?_
          rotate_left
          · intro w' hC
            go_simp
            with_reducible rfl
          rotate_left
          refine q_norm (a' := ?_) ?_ ?_
          rotate_left
          · show Act.put _ (some 16) _ = _
            simp only [Act.put, List.setIfInBounds_toArray, List.set_cons_zero, List.set_cons_succ]
            rfl
          refine q_on (v := ?_) (by rfl) ?_ ?_
          rotate_left
          · intro w' hC
            go_simp
            with_reducible rfl
          rotate_left
          refine q_norm (a' := ?_) ?_ ?_
          rotate_left
          · show Act.put _ (some 17) _ = _
            simp only [Act.put, List.setIfInBounds_toArray, List.set_cons_zero, List.set_cons_succ]
            rfl
          refine q_on (v := ?_) (by rfl) ?_ ?_
          rotate_left
          · intro w' hC
            go_simp
            with_reducible rfl
          rotate_left
          refine q_norm (a' := ?_) ?_ ?_
          rotate_left
          · show Act.put _ (some 18) _ = _
            simp only [Act.put, List.setIfInBounds_toArray, List.set_cons_zero, List.set_cons_succ]
            rfl
          refine q_on (v := ?_) (by rfl) ?_ ?_
          rotate_left
          · intro w' hC
            go_simp
            with_reducible rfl
          rotate_left
          refine q_norm (a' := ?_) ?_ ?_
          rotate_left
          · show Act.put _ (some 19) _ = _
            simp only [Act.put, List.setIfInBounds_toArray, List.set_cons_zero, List.set_cons_succ]
            rfl
          refine q_on (v := ?_) (by rfl) ?_ ?_
          rotate_left
          · intro w' hC
            obtain ⟨c0, c1, c2, c3, c4, c5, c6, c7, c8, c9⟩ := HP.out w' hC
            go_simp
            with_reducible rfl
          rotate_left
          refine q_norm (a' := ?_) ?_ ?_
          rotate_left
          · show Act.put _ (some 20) _ = _
            simp only [Act.put, List.setIfInBounds_toArray, List.set_cons_zero, List.set_cons_succ]
            rfl
          refine q_on (v := ?_) (by rfl) ?_ ?_
          rotate_left
          · intro w' hC
            go_simp
            with_reducible rfl
          rotate_left
          refine q_norm (a' := ?_) ?_ ?_
          rotate_left
          · show Act.put _ (some 21) _ = _
            simp only [Act.put, List.setIfInBounds_toArray, List.set_cons_zero, List.set_cons_succ]
            rfl
          refine q_on (v := ?_) (by rfl) ?_ ?_
          rotate_left
          · intro w' hC
            go_simp
            with_reducible rfl
          rotate_left
          refine q_norm (a' := ?_) ?_ ?_
          rotate_left
          · show Act.put _ (some 22) _ = _
            simp only [Act.put, List.setIfInBounds_toArray, List.set_cons_zero, List.set_cons_succ]
            rfl
          refine q_on (v := ?_) (by rfl) ?_ ?_
          rotate_left
          · intro w' hC
            go_simp
            with_reducible rfl
          rotate_left
          refine q_norm (a' := ?_) ?_ ?_
          rotate_left
          · show Act.put _ (some 23) _ = _
            simp only [Act.put, List.setIfInBounds_toArray, List.set_cons_zero, List.set_cons_succ]
            rfl
          refine q_on (v := ?_) (by rfl) ?_ ?_
          rotate_left
          · intro w' hC
            go_simp
            with_reducible rfl
          rotate_left
          refine q_norm (a' := ?_) ?_ ?_
          rotate_left
          · show Act.put _ (some 24) _ = _
            simp only [Act.put, List.setIfInBounds_toArray, List.set_cons_zero, List.set_cons_succ]
            rfl
          refine q_on (v := ?_) (by rfl) ?_ ?_
          rotate_left
          · intro w' hC
            obtain ⟨c0, c1, c2, c3, c4, c5, c6, c7, c8, c9⟩ := HQ.out w' hC
            go_simp
            with_reducible rfl
          rotate_left
          refine q_norm (a' := ?_) ?_ ?_
          rotate_left
          · show Act.put _ (some 25) _ = _
            simp only [Act.put, List.setIfInBounds_toArray, List.set_cons_zero, List.set_cons_succ]
            rfl
          refine q_on (v := ?_) (by rfl) ?_ ?_
          rotate_left
          · intro w' hC
            go_simp
            with_reducible rfl
          rotate_left
          refine q_norm (a' := ?_) ?_ ?_
          rotate_left
          · show Act.put _ (some 26) _ = _
            simp only [Act.put, List.setIfInBounds_toArray, List.set_cons_zero, List.set_cons_succ]
            rfl
          refine q_on (v := ?_) (by rfl) ?_ ?_
          rotate_left
          · intro w' hC
            go_simp
            with_reducible rfl
          rotate_left
          refine q_norm (a' := ?_) ?_ ?_
          rotate_left
          · show Act.put _ (some 27) _ = _
            simp only [Act.put, List.setIfInBounds_toArray, List.set_cons_zero, List.set_cons_succ]
            rfl
          refine q_off (by rfl) ?_
          refine q_norm (a' := ?_) ?_ ?_
          rotate_left
          · show Act.put _ (some 28) _ = _
            simp only [Act.put, List.setIfInBounds_toArray, List.set_cons_zero, List.set_cons_succ]
            rfl
          refine q_off (by rfl) ?_
          refine q_norm (a' := ?_) ?_ ?_
          rotate_left
          · show Act.put _ (some 29) _ = _
            simp only [Act.put, List.setIfInBounds_toArray, List.set_cons_zero, List.set_cons_succ]
            rfl
          refine q_off (by rfl) ?_
          refine q_norm (a' := ?_) ?_ ?_
          rotate_left
          · show Act.put _ (some 30) _ = _
            simp only [Act.put, List.setIfInBounds_toArray, List.set_cons_zero, List.set_cons_succ]
            rfl
          refine q_off (by rfl) ?_
          refine q_norm (a' := ?_) ?_ ?_
          rotate_left
          · show Act.put _ (some 31) _ = _
            simp only [Act.put, List.setIfInBounds_toArray, List.set_cons_zero, List.set_cons_succ]
            rfl
          refine q_off (by rfl) ?_
          refine q_norm (a' := ?_) ?_ ?_
          rotate_left
          · show Act.put _ (some 32) _ = _
            simp only [Act.put, List.setIfInBounds_toArray, List.set_cons_zero, List.set_cons_succ]
            rfl
          refine q_off (by rfl) ?_
          refine q_norm (a' := ?_) ?_ ?_
          rotate_left
          · show Act.put _ (some 33) _ = _
            simp only [Act.put, List.setIfInBounds_toArray, List.set_cons_zero, List.set_cons_succ]
            rfl
          refine q_off (by rfl) ?_
          refine q_norm (a' := ?_) ?_ ?_
          rotate_left
          · show Act.put _ (some 34) _ = _
            simp only [Act.put, List.setIfInBounds_toArray, List.set_cons_zero, List.set_cons_succ]
            rfl
          refine q_off (by rfl) ?_
          refine q_norm (a' := ?_) ?_ ?_
          rotate_left
          · show Act.put _ (some 35) _ = _
            simp only [Act.put, List.setIfInBounds_toArray, List.set_cons_zero, List.set_cons_succ]
            rfl
          refine q_off (by rfl) ?_
          refine q_norm (a' := ?_) ?_ ?_
          rotate_left
          · show Act.put _ (some 36) _ = _
            simp only [Act.put, List.setIfInBounds_toArray, List.set_cons_zero, List.set_cons_succ]
            rfl
          refine q_off (by rfl) ?_
          refine q_norm (a' := ?_) ?_ ?_
          rotate_left
          · show Act.put _ (some 37) _ = _
            simp only [Act.put, List.setIfInBounds_toArray, List.set_cons_zero, List.set_cons_succ]
            rfl
          refine q_off (by rfl) ?_
          refine q_norm (a' := ?_) ?_ ?_
          rotate_left
          · show Act.put _ (some 38) _ = _
            simp only [Act.put, List.setIfInBounds_toArray, List.set_cons_zero, List.set_cons_succ]
            rfl
          refine q_on (v := ?_) (by rfl) ?_ ?_
          rotate_left
          · intro w' hC
            go_simp
            with_reducible rfl
          rotate_left
          refine q_norm (a' := ?_) ?_ ?_
          rotate_left
          · show Act.put _ (some 39) _ = _
            simp only [Act.put, List.setIfInBounds_toArray, List.set_cons_zero, List.set_cons_succ]
            rfl
          refine q_on (v := ?_) (by rfl) ?_ ?_
          rotate_left
          · intro w' hC
            go_simp
            with_reducible rfl
          rotate_left
          refine q_norm (a' := ?_) ?_ ?_
          rotate_left
          · show Act.put _ (some 40) _ = _
            simp only [Act.put, List.setIfInBounds_toArray, List.set_cons_zero, List.set_cons_succ]
            rfl
          refine q_off (by rfl) ?_
          refine q_norm (a' := ?_) ?_ ?_
          rotate_left
          · show Act.put _ (some 41) _ = _
            simp only [Act.put, List.setIfInBounds_toArray, List.set_cons_zero, List.set_cons_succ]
            rfl
          refine q_off (by rfl) ?_
          refine q_norm (a' := ?_) ?_ ?_
          rotate_left
          · show Act.put _ (some 42) _ = _
            simp only [Act.put, List.setIfInBounds_toArray, List.set_cons_zero, List.set_cons_succ]
            rfl
          refine q_off (by rfl) ?_
          refine q_norm (a' := ?_) ?_ ?_
          rotate_left
          · show Act.put _ (some 43) _ = _
            simp only [Act.put, List.setIfInBounds_toArray, List.set_cons_zero, List.set_cons_succ]
            rfl
          refine q_off (by rfl) ?_
          refine q_norm (a' := ?_) ?_ ?_
          rotate_left
          · show Act.put _ (some 44) _ = _
            simp only [Act.put, List.setIfInBounds_toArray, List.set_cons_zero, List.set_cons_succ]
            rfl
          refine q_off (by rfl) ?_
          refine q_norm (a' := ?_) ?_ ?_
          rotate_left
          · show Act.put _ (some 45) _ = _
            simp only [Act.put, List.setIfInBounds_toArray, List.set_cons_zero, List.set_cons_succ]
            rfl
          refine q_off (by rfl) ?_
          refine q_norm (a' := ?_) ?_ ?_
          rotate_left
          · show Act.put _ (some 46) _ = _
            simp only [Act.put, List.setIfInBounds_toArray, List.set_cons_zero, List.set_cons_succ]
            rfl
          refine q_off (by rfl) ?_
          refine q_norm (a' := ?_) ?_ ?_
          rotate_left
          · show Act.put _ (some 47) _ = _
            simp only [Act.put, List.setIfInBounds_toArray, List.set_cons_zero, List.set_cons_succ]
            rfl
          refine q_off (by rfl) ?_
          refine q_norm (a' := ?_) ?_ ?_
          rotate_left
          · show Act.put _ (some 48) _ = _
            simp only [Act.put, List.setIfInBounds_toArray, List.set_cons_zero, List.set_cons_succ]
            rfl
          refine q_off (by rfl) ?_
          refine q_norm (a' := ?_) ?_ ?_
          rotate_left
          · show Act.put _ (some 49) _ = _
            simp only [Act.put, List.setIfInBounds_toArray, List.set_cons_zero, List.set_cons_succ]
            rfl
          refine q_off (by rfl) ?_
          refine q_norm (a' := ?_) ?_ ?_
          rotate_left
          · show Act.put _ (some 50) _ = _
            simp only [Act.put, List.setIfInBounds_toArray, List.set_cons_zero, List.set_cons_succ]
            rfl
          refine q_off (by rfl) ?_
          refine q_norm (a' := ?_) ?_ ?_
          rotate_left
          · show Act.put _ (some 51) _ = _
            simp only [Act.put, List.setIfInBounds_toArray, List.set_cons_zero, List.set_cons_succ]
            rfl
          refine q_off (by rfl) ?_
          refine q_norm (a' := ?_) ?_ ?_
          rotate_left
          · show Act.put _ (some 52) _ = _
            simp only [Act.put, List.setIfInBounds_toArray, List.set_cons_zero, List.set_cons_succ]
            rfl
          refine q_on (v := ?_) (by rfl) ?_ ?_
          rotate_left
          · intro w' hC
            go_simp
            with_reducible rfl
          rotate_left
          refine q_norm (a' := ?_) ?_ ?_
          rotate_left
          · show Act.put _ (some 53) _ = _
            simp only [Act.put, List.setIfInBounds_toArray, List.set_cons_zero, List.set_cons_succ]
            rfl
          refine wpQuiet_nil ?_
          intro w' hC
          go_wp2_with fail
          go_ret
          exact ⟨ret_bb (decide_eq_false hs.out).symm, HC.trans hC⟩
        | false =>
          cases x2 with
          | false =>
            have hs := Lib.hid (HD.out fun h => by have := HE.out.1 h; simp at this)
            clear HS HD HE
            refine q_start (by kernel_rfl) (by kernel_rfl) ?_
            refine q_on (v := ?_) (by rfl) ?_ ?_
            rotate_left
            · intro w' hC
              go_simp
              with_reducible rfl
            rotate_left
            refine q_norm (a' := ?_) ?_ ?_
            rotate_left
            · show Act.put _ (some 16) _ = _
              simp only [Act.put, List.setIfInBounds_toArray, List.set_cons_zero, List.set_cons_succ]
              rfl
            refine q_on (v := ?_) (by rfl) ?_ ?_
            rotate_left
            · intro w' hC
              go_simp
              with_reducible rfl
            rotate_left
            refine q_norm (a' := ?_) ?_ ?_
            rotate_left
            · show Act.put _ (some 17) _ = _
              simp only [Act.put, List.setIfInBounds_toArray, List.set_cons_zero, List.set_cons_succ]
              rfl
            refine q_on (v := ?_) (by rfl) ?_ ?_
            rotate_left
            · intro w' hC
              go_simp
              with_reducible rfl
            rotate_left
            refine q_norm (a' := ?_) ?_ ?_
            rotate_left
            · show Act.put _ (some 18) _ = _
              simp only [Act.put, List.setIfInBounds_toArray, List.set_cons_zero, List.set_cons_succ]
              rfl
            refine q_on (v := ?_) (by rfl) ?_ ?_
            rotate_left
            · intro w' hC
              go_simp
              with_reducible rfl
            rotate_left
            refine q_norm (a' := ?_) ?_ ?_
            rotate_left
            · show Act.put _ (some 19) _ = _
              simp only [Act.put, List.setIfInBounds_toArray, List.set_cons_zero, List.set_cons_succ]
              rfl
            refine q_on (v := ?_) (by rfl) ?_ ?_
            rotate_left
            · intro w' hC
              obtain ⟨c0, c1, c2, c3, c4, c5, c6, c7, c8, c9⟩ := HP.out w' hC
              go_simp
              with_reducible rfl
            rotate_left
            refine q_norm (a' := ?_) ?_ ?_
            rotate_left
            · show Act.put _ (some 20) _ = _
              simp only [Act.put, List.setIfInBounds_toArray, List.set_cons_zero, List.set_cons_succ]
              rfl
            refine q_on (v := ?_) (by rfl) ?_ ?_
            rotate_left
            · intro w' hC
              go_simp
              with_reducible rfl
            rotate_left
            refine q_norm (a' := ?_) ?_ ?_
            rotate_left
            · show Act.put _ (some 21) _ = _
              simp only [Act.put, List.setIfInBounds_toArray, List.set_cons_zero, List.set_cons_succ]
              rfl
            refine q_on (v := ?_) (by rfl) ?_ ?_
            rotate_left
            · intro w' hC
              go_simp
              with_reducible rfl
            rotate_left
            refine q_norm (a' := ?_) ?_ ?_
            rotate_left
            · show Act.put _ (some 22) _ = _
              simp only [Act.put, List.setIfInBounds_toArray, List.set_cons_zero, List.set_cons_succ]
              rfl
            refine q_on (v := ?_) (by rfl) ?_ ?_
            rotate_left
            · intro w' hC
              go_simp
              with_reducible rfl
            rotate_left
            refine q_norm (a' := ?_) ?_ ?_
            rotate_left
            · show Act.put _ (some 23) _ = _
              simp only [Act.put, List.setIfInBounds_toArray, List.set_cons_zero, List.set_cons_succ]
              rfl
            refine q_on (v := ?_) (by rfl) ?_ ?_
            rotate_left
            · intro w' hC
              go_simp
              with_reducible rfl
            rotate_left
            refine q_norm (a' := ?_) ?_ ?_
            rotate_left
            · show Act.put _ (some 24) _ = _
              simp only [Act.put, List.setIfInBounds_toArray, List.set_cons_zero, List.set_cons_succ]
              rfl
            refine q_on (v := ?_) (by rfl) ?_ ?_
            rotate_left
            · intro w' hC
              obtain ⟨c0, c1, c2, c3, c4, c5, c6, c7, c8, c9⟩ := HQ.out w' hC
              go_simp
              with_reducible rfl
            rotate_left
            refine q_norm (a' := ?_) ?_ ?_
            rotate_left
            · show Act.put _ (some 25) _ = _
              simp only [Act.put, List.setIfInBounds_toArray, List.set_cons_zero, List.set_cons_succ]
              rfl
            refine q_on (v := ?_) (by rfl) ?_ ?_
            rotate_left
            · intro w' hC
              go_simp
              with_reducible rfl
            rotate_left
            refine q_norm (a' := ?_) ?_ ?_
            rotate_left
            · show Act.put _ (some 26) _ = _
              simp only [Act.put, List.setIfInBounds_toArray, List.set_cons_zero, List.set_cons_succ]
              rfl
            refine q_on (v := ?_) (by rfl) ?_ ?_
            rotate_left
            · intro w' hC
              go_simp
              with_reducible rfl
            rotate_left
            refine q_norm (a' := ?_) ?_ ?_
            rotate_left
            · show Act.put _ (some 27) _ = _
              simp only [Act.put, List.setIfInBounds_toArray, List.set_cons_zero, List.set_cons_succ]
              rfl
            refine q_on (v := ?_) (by rfl) ?_ ?_
            rotate_left
            · intro w' hC
              go_simp
              with_reducible rfl
            rotate_left
            refine q_norm (a' := ?_) ?_ ?_
            rotate_left
            · show Act.put _ (some 28) _ = _
              simp only [Act.put, List.setIfInBounds_toArray, List.set_cons_zero, List.set_cons_succ]
              rfl
            refine q_on (v := ?_) (by rfl) ?_ ?_
            rotate_left
            · intro w' hC
              go_simp
              with_reducible rfl
            rotate_left
            refine q_norm (a' := ?_) ?_ ?_
            rotate_left
            · show Act.put _ (some 29) _ = _
              simp only [Act.put, List.setIfInBounds_toArray, List.set_cons_zero, List.set_cons_succ]
              rfl
            refine q_on (v := ?_) (by rfl) ?_ ?_
            rotate_left
            · intro w' hC
              go_simp
              with_reducible rfl
            rotate_left
            refine q_norm (a' := ?_) ?_ ?_
            rotate_left
            · show Act.put _ (some 30) _ = _
              simp only [Act.put, List.setIfInBounds_toArray, List.set_cons_zero, List.set_cons_succ]
              rfl
            refine q_on (v := ?_) (by rfl) ?_ ?_
            rotate_left
            · intro w' hC
              go_simp
              with_reducible rfl
            rotate_left
            refine q_norm (a' := ?_) ?_ ?_
            rotate_left
            · show Act.put _ (some 31) _ = _
              simp only [Act.put, List.setIfInBounds_toArray, List.set_cons_zero, List.set_cons_succ]
              rfl
            refine q_on (v := ?_) (by rfl) ?_ ?_
            rotate_left
            · intro w' hC
              obtain ⟨c0, c1, c2, c3, c4, c5, c6, c7, c8, c9⟩ := HP.out w' hC
              go_simp
              with_reducible rfl
            rotate_left
            refine q_norm (a' := ?_) ?_ ?_
            rotate_left
            · show Act.put _ (some 32) _ = _
              simp only [Act.put, List.setIfInBounds_toArray, List.set_cons_zero, List.set_cons_succ]
              rfl
            refine q_on (v := ?_) (by rfl) ?_ ?_
            rotate_left
            · intro w' hC
              go_simp
              with_reducible rfl
            rotate_left
            refine q_norm (a' := ?_) ?_ ?_
            rotate_left
            · show Act.put _ (some 33) _ = _
              simp only [Act.put, List.setIfInBounds_toArray, List.set_cons_zero, List.set_cons_succ]
              rfl
            refine q_on (v := ?_) (by rfl) ?_ ?_
            rotate_left
            · intro w' hC
              go_simp
              with_reducible rfl
            rotate_left
            refine q_norm (a' := ?_) ?_ ?_
            rotate_left
            · show Act.put _ (some 34) _ = _
              simp only [Act.put, List.setIfInBounds_toArray, List.set_cons_zero, List.set_cons_succ]
              rfl
            refine q_on (v := ?_) (by rfl) ?_ ?_
            rotate_left
            · intro w' hC
              go_simp
              with_reducible rfl
            rotate_left
            refine q_norm (a' := ?_) ?_ ?_
            rotate_left
            · show Act.put _ (some 35) _ = _
              simp only [Act.put, List.setIfInBounds_toArray, List.set_cons_zero, List.set_cons_succ]
              rfl
            refine q_on (v := ?_) (by rfl) ?_ ?_
            rotate_left
            · intro w' hC
              go_simp
              with_reducible rfl
            rotate_left
            refine q_norm (a' := ?_) ?_ ?_
            rotate_left
            · show Act.put _ (some 36) _ = _
              simp only [Act.put, List.setIfInBounds_toArray, List.set_cons_zero, List.set_cons_succ]
              rfl
            refine q_on (v := ?_) (by rfl) ?_ ?_
            rotate_left
            · intro w' hC
              obtain ⟨c0, c1, c2, c3, c4, c5, c6, c7, c8, c9⟩ := HQ.out w' hC
              go_simp
              with_reducible rfl
            rotate_left
            refine q_norm (a' := ?_) ?_ ?_
            rotate_left
            · show Act.put _ (some 37) _ = _
              simp only [Act.put, List.setIfInBounds_toArray, List.set_cons_zero, List.set_cons_succ]
              rfl
            refine q_on (v := ?_) (by rfl) ?_ ?_
            rotate_left
            · intro w' hC
              go_simp
              with_reducible rfl
            rotate_left
            refine q_norm (a' := ?_) ?_ ?_
            rotate_left
            · show Act.put _ (some 38) _ = _
              simp only [Act.put, List.setIfInBounds_toArray, List.set_cons_zero, List.set_cons_succ]
              rfl
            refine q_on (v := ?_) (by rfl) ?_ ?_
            rotate_left
            · intro w' hC
              go_simp
              with_reducible rfl
            rotate_left
            refine q_norm (a' := ?_) ?_ ?_
            rotate_left
            · show Act.put _ (some 39) _ = _
              simp only [Act.put, List.setIfInBounds_toArray, List.set_cons_zero, List.set_cons_succ]
              rfl
            refine q_on (v := ?_) (by rfl) ?_ ?_
            rotate_left
            · intro w' hC
              go_simp
              with_reducible rfl
            rotate_left
            refine q_norm (a' := ?_) ?_ ?_
            rotate_left
            · show Act.put _ (some 40) _ = _
              simp only [Act.put, List.setIfInBounds_toArray, List.set_cons_zero, List.set_cons_succ]
              rfl
            refine q_off (by rfl) ?_
            refine q_norm (a' := ?_) ?_ ?_
            rotate_left
            · show Act.put _ (some 41) _ = _
              simp only [Act.put, List.setIfInBounds_toArray, List.set_cons_zero, List.set_cons_succ]
              rfl
            refine q_off (by rfl) ?_
            refine q_norm (a' := ?_) ?_ ?_
            rotate_left
            · show Act.put _ (some 42) _ = _
              simp only [Act.put, List.setIfInBounds_toArray, List.set_cons_zero, List.set_cons_succ]
              rfl
            refine q_off (by rfl) ?_
            refine q_norm (a' := ?_) ?_ ?_
            rotate_left
            · show Act.put _ (some 43) _ = _
              simp only [Act.put, List.setIfInBounds_toArray, List.set_cons_zero, List.set_cons_succ]
              rfl
            refine q_off (by rfl) ?_
            refine q_norm (a' := ?_) ?_ ?_
            rotate_left
            · show Act.put _ (some 44) _ = _
              simp only [Act.put, List.setIfInBounds_toArray, List.set_cons_zero, List.set_cons_succ]
              rfl
            refine q_off (by rfl) ?_
            refine q_norm (a' := ?_) ?_ ?_
            rotate_left
            · show Act.put _ (some 45) _ = _
              simp only [Act.put, List.setIfInBounds_toArray, List.set_cons_zero, List.set_cons_succ]
              rfl
            refine q_off (by rfl) ?_
            refine q_norm (a' := ?_) ?_ ?_
            rotate_left
            · show Act.put _ (some 46) _ = _
              simp only [Act.put, List.setIfInBounds_toArray, List.set_cons_zero, List.set_cons_succ]
              rfl
            refine q_off (by rfl) ?_
            refine q_norm (a' := ?_) ?_ ?_
            rotate_left
            · show Act.put _ (some 47) _ = _
              simp only [Act.put, List.setIfInBounds_toArray, List.set_cons_zero, List.set_cons_succ]
              rfl
            refine q_off (by rfl) ?_
            refine q_norm (a' := ?_) ?_ ?_
            rotate_left
            · show Act.put _ (some 48) _ = _
              simp only [Act.put, List.setIfInBounds_toArray, List.set_cons_zero, List.set_cons_succ]
              rfl
            refine q_off (by rfl) ?_
            refine q_norm (a' := ?_) ?_ ?_
            rotate_left
            · show Act.put _ (some 49) _ = _
              simp only [Act.put, List.setIfInBounds_toArray, List.set_cons_zero, List.set_cons_succ]
              rfl
            refine q_off (by rfl) ?_
            refine q_norm (a' := ?_) ?_ ?_
            rotate_left
            · show Act.put _ (some 50) _ = _
              simp only [Act.put, List.setIfInBounds_toArray, List.set_cons_zero, List.set_cons_succ]
              rfl
            refine q_off (by rfl) ?_
            refine q_norm (a' := ?_) ?_ ?_
            rotate_left
            · show Act.put _ (some 51) _ = _
              simp only [Act.put, List.setIfInBounds_toArray, List.set_cons_zero, List.set_cons_succ]
              rfl
            refine q_off (by rfl) ?_
            refine q_norm (a' := ?_) ?_ ?_
            rotate_left
            · show Act.put _ (some 52) _ = _
              simp only [Act.put, List.setIfInBounds_toArray, List.set_cons_zero, List.set_cons_succ]
              rfl
            refine q_on (v := ?_) (by rfl) ?_ ?_
            rotate_left
            · intro w' hC
              go_simp
              with_reducible rfl
            rotate_left
            refine q_norm (a' := ?_) ?_ ?_
            rotate_left
            · show Act.put _ (some 53) _ = _
              simp only [Act.put, List.setIfInBounds_toArray, List.set_cons_zero, List.set_cons_succ]
              rfl
            refine wpQuiet_nil ?_
            intro w' hC
            go_wp2_with fail
            go_ret
            exact ⟨ret_bb (decide_eq_false hs.out).symm, HC.trans hC⟩
          | true =>
            cases x3 with
            | false =>
              have hs := Lib.hid (HD.out fun h => by have := HE.out.1 h; simp at this)
              clear HS HD HE
              refine q_start (by kernel_rfl) (by kernel_rfl) ?_
              refine q_on (v := ?_) (by rfl) ?_ ?_
              rotate_left
              · intro w' hC
                go_simp
                with_reducible rfl
              rotate_left
              refine q_norm (a' := ?_) ?_ ?_
              rotate_left
              · show Act.put _ (some 16) _ = _
                simp only [Act.put, List.setIfInBounds_toArray, List.set_cons_zero, List.set_cons_succ]
                rfl
              refine q_on (v := ?_) (by rfl) ?_ ?_
              rotate_left
              · intro w' hC
                go_simp
                with_reducible rfl
              rotate_left
              refine q_norm (a' := ?_) ?_ ?_
              rotate_left
              · show Act.put _ (some 17) _ = _
                simp only [Act.put, List.setIfInBounds_toArray, List.set_cons_zero, List.set_cons_succ]
                rfl
              refine q_on (v := ?_) (by rfl) ?_ ?_
              rotate_left
              · intro w' hC
                go_simp
                with_reducible rfl
              rotate_left
              refine q_norm (a' := ?_) ?_ ?_
              rotate_left
              · show Act.put _ (some 18) _ = _
                simp only [Act.put, List.setIfInBounds_toArray, List.set_cons_zero, List.set_cons_succ]
                rfl
              refine q_on (v := ?_) (by rfl) ?_ ?_
              rotate_left
              · intro w' hC
                go_simp
                with_reducible rfl
              rotate_left
              refine q_norm (a' := ?_) ?_ ?_
              rotate_left
              · show Act.put _ (some 19) _ = _
                simp only [Act.put, List.setIfInBounds_toArray, List.set_cons_zero, List.set_cons_succ]
                rfl
              refine q_on (v := ?_) (by rfl) ?_ ?_
              rotate_left
              · intro w' hC
                obtain ⟨c0, c1, c2, c3, c4, c5, c6, c7, c8, c9⟩ := HP.out w' hC
                go_simp
                with_reducible rfl
              rotate_left
              refine q_norm (a' := ?_) ?_ ?_
              rotate_left
              · show Act.put _ (some 20) _ = _
                simp only [Act.put, List.setIfInBounds_toArray, List.set_cons_zero, List.set_cons_succ]
                rfl
              refine q_on (v := ?_) (by rfl) ?_ ?_
              rotate_left
              · intro w' hC
                go_simp
                with_reducible rfl
              rotate_left
              refine q_norm (a' := ?_) ?_ ?_
              rotate_left
              · show Act.put _ (some 21) _ = _
                simp only [Act.put, List.setIfInBounds_toArray, List.set_cons_zero, List.set_cons_succ]
                rfl
              refine q_on (v := ?_) (by rfl) ?_ ?_
              rotate_left
              · intro w' hC
                go_simp
                with_reducible rfl
              rotate_left
              refine q_norm (a' := ?_) ?_ ?_
              rotate_left
              · show Act.put _ (some 22) _ = _
                simp only [Act.put, List.setIfInBounds_toArray, List.set_cons_zero, List.set_cons_succ]
                rfl
              refine q_on (v := ?_) (by rfl) ?_ ?_
              rotate_left
              · intro w' hC
                go_simp
                with_reducible rfl
              rotate_left
              refine q_norm (a' := ?_) ?_ ?_
              rotate_left
              · show Act.put _ (some 23) _ = _
                simp only [Act.put, List.setIfInBounds_toArray, List.set_cons_zero, List.set_cons_succ]
                rfl
              refine q_on (v := ?_) (by rfl) ?_ ?_
              rotate_left
              · intro w' hC
                go_simp
                with_reducible rfl
              rotate_left
              refine q_norm (a' := ?_) ?_ ?_
              rotate_left
              · show Act.put _ (some 24) _ = _
                simp only [Act.put, List.setIfInBounds_toArray, List.set_cons_zero, List.set_cons_succ]
                rfl
              refine q_on (v := ?_) (by rfl) ?_ ?_
              rotate_left
              · intro w' hC
                obtain ⟨c0, c1, c2, c3, c4, c5, c6, c7, c8, c9⟩ := HQ.out w' hC
                go_simp
                with_reducible rfl
              rotate_left
              refine q_norm (a' := ?_) ?_ ?_
              rotate_left
              · show Act.put _ (some 25) _ = _
                simp only [Act.put, List.setIfInBounds_toArray, List.set_cons_zero, List.set_cons_succ]
                rfl
              refine q_on (v := ?_) (by rfl) ?_ ?_
              rotate_left
              · intro w' hC
                go_simp
                with_reducible rfl
              rotate_left
              refine q_norm (a' := ?_) ?_ ?_
              rotate_left
              · show Act.put _ (some 26) _ = _
                simp only [Act.put, List.setIfInBounds_toArray, List.set_cons_zero, List.set_cons_succ]
                rfl
              refine q_on (v := ?_) (by rfl) ?_ ?_
              rotate_left
              · intro w' hC
                go_simp
                with_reducible rfl
              rotate_left
              refine q_norm (a' := ?_) ?_ ?_
              rotate_left
              · show Act.put _ (some 27) _ = _
                simp only [Act.put, List.setIfInBounds_toArray, List.set_cons_zero, List.set_cons_succ]
                rfl
              refine q_on (v := ?_) (by rfl) ?_ ?_
              rotate_left
              · intro w' hC
                go_simp
                with_reducible rfl
              rotate_left
              refine q_norm (a' := ?_) ?_ ?_
              rotate_left
              · show Act.put _ (some 28) _ = _
                simp only [Act.put, List.setIfInBounds_toArray, List.set_cons_zero, List.set_cons_succ]
                rfl
              refine q_on (v := ?_) (by rfl) ?_ ?_
              rotate_left
              · intro w' hC
                go_simp
                with_reducible rfl
              rotate_left
              refine q_norm (a' := ?_) ?_ ?_
              rotate_left
              · show Act.put _ (some 29) _ = _
                simp only [Act.put, List.setIfInBounds_toArray, List.set_cons_zero, List.set_cons_succ]
                rfl
              refine q_on (v := ?_) (by rfl) ?_ ?_
              rotate_left
              · intro w' hC
                go_simp
                with_reducible rfl
              rotate_left
              refine q_norm (a' := ?_) ?_ ?_
              rotate_left
              · show Act.put _ (some 30) _ = _
                simp only [Act.put, List.setIfInBounds_toArray, List.set_cons_zero, List.set_cons_succ]
                rfl
              refine q_on (v := ?_) (by rfl) ?_ ?_
              rotate_left
              · intro w' hC
                go_simp
                with_reducible rfl
              rotate_left
              refine q_norm (a' := ?_) ?_ ?_
              rotate_left
              · show Act.put _ (some 31) _ = _
                simp only [Act.put, List.setIfInBounds_toArray, List.set_cons_zero, List.set_cons_succ]
                rfl
              refine q_on (v := ?_) (by rfl) ?_ ?_
              rotate_left
              · intro w' hC
                obtain ⟨c0, c1, c2, c3, c4, c5, c6, c7, c8, c9⟩ := HP.out w' hC
                go_simp
                with_reducible rfl
              rotate_left
              refine q_norm (a' := ?_) ?_ ?_
              rotate_left
              · show Act.put _ (some 32) _ = _
                simp only [Act.put, List.setIfInBounds_toArray, List.set_cons_zero, List.set_cons_succ]
                rfl
              refine q_on (v := ?_) (by rfl) ?_ ?_
              rotate_left
              · intro w' hC
                go_simp
                with_reducible rfl
              rotate_left
              refine q_norm (a' := ?_) ?_ ?_
              rotate_left
              · show Act.put _ (some 33) _ = _
                simp only [Act.put, List.setIfInBounds_toArray, List.set_cons_zero, List.set_cons_succ]
                rfl
              refine q_on (v := ?_) (by rfl) ?_ ?_
              rotate_left
              · intro w' hC
                go_simp
                with_reducible rfl
              rotate_left
              refine q_norm (a' := ?_) ?_ ?_
              rotate_left
              · show Act.put _ (some 34) _ = _
                simp only [Act.put, List.setIfInBounds_toArray, List.set_cons_zero, List.set_cons_succ]
                rfl
              refine q_on (v := ?_) (by rfl) ?_ ?_
              rotate_left
              · intro w' hC
                go_simp
                with_reducible rfl
              rotate_left
              refine q_norm (a' := ?_) ?_ ?_
              rotate_left
              · show Act.put _ (some 35) _ = _
                simp only [Act.put, List.setIfInBounds_toArray, List.set_cons_zero, List.set_cons_succ]
                rfl
              refine q_on (v := ?_) (by rfl) ?_ ?_
              rotate_left
              · intro w' hC
                go_simp
                with_reducible rfl
              rotate_left
              refine q_norm (a' := ?_) ?_ ?_
              rotate_left
              · show Act.put _ (some 36) _ = _
                simp only [Act.put, List.setIfInBounds_toArray, List.set_cons_zero, List.set_cons_succ]
                rfl
              refine q_on (v := ?_) (by rfl) ?_ ?_
              rotate_left
              · intro w' hC
                obtain ⟨c0, c1, c2, c3, c4, c5, c6, c7, c8, c9⟩ := HQ.out w' hC
                go_simp
                with_reducible rfl
              rotate_left
              refine q_norm (a' := ?_) ?_ ?_
              rotate_left
              · show Act.put _ (some 37) _ = _
                simp only [Act.put, List.setIfInBounds_toArray, List.set_cons_zero, List.set_cons_succ]
                rfl
              refine q_on (v := ?_) (by rfl) ?_ ?_
              rotate_left
              · intro w' hC
                go_simp
                with_reducible rfl
              rotate_left
              refine q_norm (a' := ?_) ?_ ?_
              rotate_left
              · show Act.put _ (some 38) _ = _
                simp only [Act.put, List.setIfInBounds_toArray, List.set_cons_zero, List.set_cons_succ]
                rfl
              refine q_on (v := ?_) (by rfl) ?_ ?_
              rotate_left
              · intro w' hC
                go_simp
                with_reducible rfl
              rotate_left
              refine q_norm (a' := ?_) ?_ ?_
              rotate_left
              · show Act.put _ (some 39) _ = _
                simp only [Act.put, List.setIfInBounds_toArray, List.set_cons_zero, List.set_cons_succ]
                rfl
              refine q_on (v := ?_) (by rfl) ?_ ?_
              rotate_left
              · intro w' hC
                go_simp
                with_reducible rfl
              rotate_left
              refine q_norm (a' := ?_) ?_ ?_
              rotate_left
              · show Act.put _ (some 40) _ = _
                simp only [Act.put, List.setIfInBounds_toArray, List.set_cons_zero, List.set_cons_succ]
                rfl
              refine q_on (v := ?_) (by rfl) ?_ ?_
              rotate_left
              · intro w' hC
                go_simp
                with_reducible rfl
              rotate_left
              refine q_norm (a' := ?_) ?_ ?_
              rotate_left
              · show Act.put _ (some 41) _ = _
                simp only [Act.put, List.setIfInBounds_toArray, List.set_cons_zero, List.set_cons_succ]
                rfl
              refine q_on (v := ?_) (by rfl) ?_ ?_
              rotate_left
              · intro w' hC
                go_simp
                with_reducible rfl
              rotate_left
              refine q_norm (a' := ?_) ?_ ?_
              rotate_left
              · show Act.put _ (some 42) _ = _
                simp only [Act.put, List.setIfInBounds_toArray, List.set_cons_zero, List.set_cons_succ]
                rfl
              refine q_on (v := ?_) (by rfl) ?_ ?_
              rotate_left
              · intro w' hC
                go_simp
                with_reducible rfl
              rotate_left
              refine q_norm (a' := ?_) ?_ ?_
              rotate_left
              · show Act.put _ (some 43) _ = _
                simp only [Act.put, List.setIfInBounds_toArray, List.set_cons_zero, List.set_cons_succ]
                rfl
              refine q_on (v := ?_) (by rfl) ?_ ?_
              rotate_left
              · intro w' hC
                go_simp
                with_reducible rfl
              rotate_left
              refine q_norm (a' := ?_) ?_ ?_
              rotate_left
              · show Act.put _ (some 44) _ = _
                simp only [Act.put, List.setIfInBounds_toArray, List.set_cons_zero, List.set_cons_succ]
                rfl
              refine q_on (v := ?_) (by rfl) ?_ ?_
              rotate_left
              · intro w' hC
                obtain ⟨c0, c1, c2, c3, c4, c5, c6, c7, c8, c9⟩ := HP.out w' hC
                go_simp
                with_reducible rfl
              rotate_left
              refine q_norm (a' := ?_) ?_ ?_
              rotate_left
              · show Act.put _ (some 45) _ = _
                simp only [Act.put, List.setIfInBounds_toArray, List.set_cons_zero, List.set_cons_succ]
                rfl
              refine q_on (v := ?_) (by rfl) ?_ ?_
              rotate_left
              · intro w' hC
                go_simp
                with_reducible rfl
              rotate_left
              refine q_norm (a' := ?_) ?_ ?_
              rotate_left
              · show Act.put _ (some 46) _ = _
                simp only [Act.put, List.setIfInBounds_toArray, List.set_cons_zero, List.set_cons_succ]
                rfl
              refine q_on (v := ?_) (by rfl) ?_ ?_
              rotate_left
              · intro w' hC
                go_simp
                with_reducible rfl
              rotate_left
              refine q_norm (a' := ?_) ?_ ?_
              rotate_left
              · show Act.put _ (some 47) _ = _
                simp only [Act.put, List.setIfInBounds_toArray, List.set_cons_zero, List.set_cons_succ]
                rfl
              refine q_on (v := ?_) (by rfl) ?_ ?_
              rotate_left
              · intro w' hC
                go_simp
                with_reducible rfl
              rotate_left
              refine q_norm (a' := ?_) ?_ ?_
              rotate_left
              · show Act.put _ (some 48) _ = _
                simp only [Act.put, List.setIfInBounds_toArray, List.set_cons_zero, List.set_cons_succ]
                rfl
              refine q_on (v := ?_) (by rfl) ?_ ?_
              rotate_left
              · intro w' hC
                go_simp
                with_reducible rfl
              rotate_left
              refine q_norm (a' := ?_) ?_ ?_
              rotate_left
              · show Act.put _ (some 49) _ = _
                simp only [Act.put, List.setIfInBounds_toArray, List.set_cons_zero, List.set_cons_succ]
                rfl
              refine q_on (v := ?_) (by rfl) ?_ ?_
              rotate_left
              · intro w' hC
                obtain ⟨c0, c1, c2, c3, c4, c5, c6, c7, c8, c9⟩ := HQ.out w' hC
                go_simp
                with_reducible rfl
              rotate_left
              refine q_norm (a' := ?_) ?_ ?_
              rotate_left
              · show Act.put _ (some 50) _ = _
                simp only [Act.put, List.setIfInBounds_toArray, List.set_cons_zero, List.set_cons_succ]
                rfl
              refine q_call (f := 38) Try.func38 (by kernel_rfl) rfl #[.slice q2 u.dots.length cp2, .slice q3 v.dots.length cp3] (by rfl) rfl (by simp only [List.map_toArray, List.map_cons, List.map_nil]; rfl) _ (fun w' hC => q_of hC (HM.out w' hC)) ?_
              refine q_norm (a' := ?_) ?_ ?_
              rotate_left
              · show Act.put _ (some 51) _ = _
                simp only [Act.put, List.setIfInBounds_toArray, List.set_cons_zero, List.set_cons_succ]
                rfl
              refine q_on (v := ?_) (by rfl) ?_ ?_
              rotate_left
              · intro w' hC
                go_simp
                with_reducible rfl
              rotate_left
              refine q_norm (a' := ?_) ?_ ?_
              rotate_left
              · show Act.put _ (some 52) _ = _
                simp only [Act.put, List.setIfInBounds_toArray, List.set_cons_zero, List.set_cons_succ]
                rfl
              refine q_on (v := ?_) (by rfl) ?_ ?_
              rotate_left
              · intro w' hC
                go_simp
                with_reducible rfl
              rotate_left
              refine q_norm (a' := ?_) ?_ ?_
              rotate_left
              · show Act.put _ (some 53) _ = _
                simp only [Act.put, List.setIfInBounds_toArray, List.set_cons_zero, List.set_cons_succ]
                rfl
              refine wpQuiet_nil ?_
              intro w' hC
              go_wp2_with fail
              go_ret
              exact ⟨ret_bb (decide_eq_false hs.out).symm, HC.trans hC⟩
            | true =>
              have hs := Lib.hid (HS.out (HE.out.2 ⟨rfl, rfl, rfl⟩))
              clear HS HD HE
              refine q_start (by kernel_rfl) (by kernel_rfl) ?_
              refine q_on (v := ?_) (by rfl) ?_ ?_
              rotate_left
              · intro w' hC
                go_simp
                with_reducible rfl
              rotate_left
              refine q_norm (a' := ?_) ?_ ?_
              rotate_left
              · show Act.put _ (some 16) _ = _
                simp only [Act.put, List.setIfInBounds_toArray, List.set_cons_zero, List.set_cons_succ]
                rfl
              refine q_on (v := ?_) (by rfl) ?_ ?_
              rotate_left
              · intro w' hC
                go_simp
                with_reducible rfl
              rotate_left
              refine q_norm (a' := ?_) ?_ ?_
              rotate_left
              · show Act.put _ (some 17) _ = _
                simp only [Act.put, List.setIfInBounds_toArray, List.set_cons_zero, List.set_cons_succ]
                rfl
              refine q_on (v := ?_) (by rfl) ?_ ?_
              rotate_left
              · intro w' hC
                go_simp
                with_reducible rfl
              rotate_left
              refine q_norm (a' := ?_) ?_ ?_
              rotate_left
              · show Act.put _ (some 18) _ = _
                simp only [Act.put, List.setIfInBounds_toArray, List.set_cons_zero, List.set_cons_succ]
                rfl
              refine q_on (v := ?_) (by rfl) ?_ ?_
              rotate_left
              · intro w' hC
                go_simp
                with_reducible rfl
              rotate_left
              refine q_norm (a' := ?_) ?_ ?_
              rotate_left
              · show Act.put _ (some 19) _ = _
                simp only [Act.put, List.setIfInBounds_toArray, List.set_cons_zero, List.set_cons_succ]
                rfl
              refine q_on (v := ?_) (by rfl) ?_ ?_
              rotate_left
              · intro w' hC
                obtain ⟨c0, c1, c2, c3, c4, c5, c6, c7, c8, c9⟩ := HP.out w' hC
                go_simp
                with_reducible rfl
              rotate_left
              refine q_norm (a' := ?_) ?_ ?_
              rotate_left
              · show Act.put _ (some 20) _ = _
                simp only [Act.put, List.setIfInBounds_toArray, List.set_cons_zero, List.set_cons_succ]
                rfl
              refine q_on (v := ?_) (by rfl) ?_ ?_
              rotate_left
              · intro w' hC
                go_simp
                with_reducible rfl
              rotate_left
              refine q_norm (a' := ?_) ?_ ?_
              rotate_left
              · show Act.put _ (some 21) _ = _
                simp only [Act.put, List.setIfInBounds_toArray, List.set_cons_zero, List.set_cons_succ]
                rfl
              refine q_on (v := ?_) (by rfl) ?_ ?_
              rotate_left
              · intro w' hC
                go_simp
                with_reducible rfl
              rotate_left
              refine q_norm (a' := ?_) ?_ ?_
              rotate_left
              · show Act.put _ (some 22) _ = _
                simp only [Act.put, List.setIfInBounds_toArray, List.set_cons_zero, List.set_cons_succ]
                rfl
              refine q_on (v := ?_) (by rfl) ?_ ?_
              rotate_left
              · intro w' hC
                go_simp
                with_reducible rfl
              rotate_left
              refine q_norm (a' := ?_) ?_ ?_
              rotate_left
              · show Act.put _ (some 23) _ = _
                simp only [Act.put, List.setIfInBounds_toArray, List.set_cons_zero, List.set_cons_succ]
                rfl
              refine q_on (v := ?_) (by rfl) ?_ ?_
              rotate_left
              · intro w' hC
                go_simp
                with_reducible rfl
              rotate_left
              refine q_norm (a' := ?_) ?_ ?_
              rotate_left
              · show Act.put _ (some 24) _ = _
                simp only [Act.put, List.setIfInBounds_toArray, List.set_cons_zero, List.set_cons_succ]
                rfl
              refine q_on (v := ?_) (by rfl) ?_ ?_
              rotate_left
              · intro w' hC
                obtain ⟨c0, c1, c2, c3, c4, c5, c6, c7, c8, c9⟩ := HQ.out w' hC
                go_simp
                with_reducible rfl
              rotate_left
              refine q_norm (a' := ?_) ?_ ?_
              rotate_left
              · show Act.put _ (some 25) _ = _
                simp only [Act.put, List.setIfInBounds_toArray, List.set_cons_zero, List.set_cons_succ]
                rfl
              refine q_on (v := ?_) (by rfl) ?_ ?_
              rotate_left
              · intro w' hC
                go_simp
                with_reducible rfl
              rotate_left
              refine q_norm (a' := ?_) ?_ ?_
              rotate_left
              · show Act.put _ (some 26) _ = _
                simp only [Act.put, List.setIfInBounds_toArray, List.set_cons_zero, List.set_cons_succ]
                rfl
              refine q_on (v := ?_) (by rfl) ?_ ?_
              rotate_left
              · intro w' hC
                go_simp
                with_reducible rfl
              rotate_left
              refine q_norm (a' := ?_) ?_ ?_
              rotate_left
              · show Act.put _ (some 27) _ = _
                simp only [Act.put, List.setIfInBounds_toArray, List.set_cons_zero, List.set_cons_succ]
                rfl
              refine q_on (v := ?_) (by rfl) ?_ ?_
              rotate_left
              · intro w' hC
                go_simp
                with_reducible rfl
              rotate_left
              refine q_norm (a' := ?_) ?_ ?_
              rotate_left
              · show Act.put _ (some 28) _ = _
                simp only [Act.put, List.setIfInBounds_toArray, List.set_cons_zero, List.set_cons_succ]
                rfl
              refine q_on (v := ?_) (by rfl) ?_ ?_
              rotate_left
              · intro w' hC
                go_simp
                with_reducible rfl
              rotate_left
              refine q_norm (a' := ?_) ?_ ?_
              rotate_left
              · show Act.put _ (some 29) _ = _
                simp only [Act.put, List.setIfInBounds_toArray, List.set_cons_zero, List.set_cons_succ]
                rfl
              refine q_on (v := ?_) (by rfl) ?_ ?_
              rotate_left
              · intro w' hC
                go_simp
                with_reducible rfl
              rotate_left
              refine q_norm (a' := ?_) ?_ ?_
              rotate_left
              · show Act.put _ (some 30) _ = _
                simp only [Act.put, List.setIfInBounds_toArray, List.set_cons_zero, List.set_cons_succ]
                rfl
              refine q_on (v := ?_) (by rfl) ?_ ?_
              rotate_left
              · intro w' hC
                go_simp
                with_reducible rfl
              rotate_left
              refine q_norm (a' := ?_) ?_ ?_
              rotate_left
              · show Act.put _ (some 31) _ = _
                simp only [Act.put, List.setIfInBounds_toArray, List.set_cons_zero, List.set_cons_succ]
                rfl
              refine q_on (v := ?_) (by rfl) ?_ ?_
              rotate_left
              · intro w' hC
                obtain ⟨c0, c1, c2, c3, c4, c5, c6, c7, c8, c9⟩ := HP.out w' hC
                go_simp
                with_reducible rfl
              rotate_left
              refine q_norm (a' := ?_) ?_ ?_
              rotate_left
              · show Act.put _ (some 32) _ = _
                simp only [Act.put, List.setIfInBounds_toArray, List.set_cons_zero, List.set_cons_succ]
                rfl
              refine q_on (v := ?_) (by rfl) ?_ ?_
              rotate_left
              · intro w' hC
                go_simp
                with_reducible rfl
              rotate_left
              refine q_norm (a' := ?_) ?_ ?_
              rotate_left
              · show Act.put _ (some 33) _ = _
                simp only [Act.put, List.setIfInBounds_toArray, List.set_cons_zero, List.set_cons_succ]
                rfl
              refine q_on (v := ?_) (by rfl) ?_ ?_
              rotate_left
              · intro w' hC
                go_simp
                with_reducible rfl
              rotate_left
              refine q_norm (a' := ?_) ?_ ?_
              rotate_left
              · show Act.put _ (some 34) _ = _
                simp only [Act.put, List.setIfInBounds_toArray, List.set_cons_zero, List.set_cons_succ]
                rfl
              refine q_on (v := ?_) (by rfl) ?_ ?_
              rotate_left
              · intro w' hC
                go_simp
                with_reducible rfl
              rotate_left
              refine q_norm (a' := ?_) ?_ ?_
              rotate_left
              · show Act.put _ (some 35) _ = _
                simp only [Act.put, List.setIfInBounds_toArray, List.set_cons_zero, List.set_cons_succ]
                rfl
              refine q_on (v := ?_) (by rfl) ?_ ?_
              rotate_left
              · intro w' hC
                go_simp
                with_reducible rfl
              rotate_left
              refine q_norm (a' := ?_) ?_ ?_
              rotate_left
              · show Act.put _ (some 36) _ = _
                simp only [Act.put, List.setIfInBounds_toArray, List.set_cons_zero, List.set_cons_succ]
                rfl
              refine q_on (v := ?_) (by rfl) ?_ ?_
              rotate_left
              · intro w' hC
                obtain ⟨c0, c1, c2, c3, c4, c5, c6, c7, c8, c9⟩ := HQ.out w' hC
                go_simp
                with_reducible rfl
              rotate_left
              refine q_norm (a' := ?_) ?_ ?_
              rotate_left
              · show Act.put _ (some 37) _ = _
                simp only [Act.put, List.setIfInBounds_toArray, List.set_cons_zero, List.set_cons_succ]
                rfl
              refine q_on (v := ?_) (by rfl) ?_ ?_
              rotate_left
              · intro w' hC
                go_simp
                with_reducible rfl
              rotate_left
              refine q_norm (a' := ?_) ?_ ?_
              rotate_left
              · show Act.put _ (some 38) _ = _
                simp only [Act.put, List.setIfInBounds_toArray, List.set_cons_zero, List.set_cons_succ]
                rfl
              refine q_on (v := ?_) (by rfl) ?_ ?_
              rotate_left
              · intro w' hC
                go_simp
                with_reducible rfl
              rotate_left
              refine q_norm (a' := ?_) ?_ ?_
              rotate_left
              · show Act.put _ (some 39) _ = _
                simp only [Act.put, List.setIfInBounds_toArray, List.set_cons_zero, List.set_cons_succ]
                rfl
              refine q_on (v := ?_) (by rfl) ?_ ?_
              rotate_left
              · intro w' hC
                go_simp
                with_reducible rfl
              rotate_left
              refine q_norm (a' := ?_) ?_ ?_
              rotate_left
              · show Act.put _ (some 40) _ = _
                simp only [Act.put, List.setIfInBounds_toArray, List.set_cons_zero, List.set_cons_succ]
                rfl
              refine q_on (v := ?_) (by rfl) ?_ ?_
              rotate_left
              · intro w' hC
                go_simp
                with_reducible rfl
              rotate_left
              refine q_norm (a' := ?_) ?_ ?_
              rotate_left
              · show Act.put _ (some 41) _ = _
                simp only [Act.put, List.setIfInBounds_toArray, List.set_cons_zero, List.set_cons_succ]
                rfl
              refine q_on (v := ?_) (by rfl) ?_ ?_
              rotate_left
              · intro w' hC
                go_simp
                with_reducible rfl
              rotate_left
              refine q_norm (a' := ?_) ?_ ?_
              rotate_left
              · show Act.put _ (some 42) _ = _
                simp only [Act.put, List.setIfInBounds_toArray, List.set_cons_zero, List.set_cons_succ]
                rfl
              refine q_on (v := ?_) (by rfl) ?_ ?_
              rotate_left
              · intro w' hC
                go_simp
                with_reducible rfl
              rotate_left
              refine q_norm (a' := ?_) ?_ ?_
              rotate_left
              · show Act.put _ (some 43) _ = _
                simp only [Act.put, List.setIfInBounds_toArray, List.set_cons_zero, List.set_cons_succ]
                rfl
              refine q_on (v := ?_) (by rfl) ?_ ?_
              rotate_left
              · intro w' hC
                go_simp
                with_reducible rfl
              rotate_left
              refine q_norm (a' := ?_) ?_ ?_
              rotate_left
              · show Act.put _ (some 44) _ = _
                simp only [Act.put, List.setIfInBounds_toArray, List.set_cons_zero, List.set_cons_succ]
                rfl
              refine q_on (v := ?_) (by rfl) ?_ ?_
              rotate_left
              · intro w' hC
                obtain ⟨c0, c1, c2, c3, c4, c5, c6, c7, c8, c9⟩ := HP.out w' hC
                go_simp
                with_reducible rfl
              rotate_left
              refine q_norm (a' := ?_) ?_ ?_
              rotate_left
              · show Act.put _ (some 45) _ = _
                simp only [Act.put, List.setIfInBounds_toArray, List.set_cons_zero, List.set_cons_succ]
                rfl
              refine q_on (v := ?_) (by rfl) ?_ ?_
              rotate_left
              · intro w' hC
                go_simp
                with_reducible rfl
              rotate_left
              refine q_norm (a' := ?_) ?_ ?_
              rotate_left
              · show Act.put _ (some 46) _ = _
                simp only [Act.put, List.setIfInBounds_toArray, List.set_cons_zero, List.set_cons_succ]
                rfl
              refine q_on (v := ?_) (by rfl) ?_ ?_
              rotate_left
              · intro w' hC
                go_simp
                with_reducible rfl
              rotate_left
              refine q_norm (a' := ?_) ?_ ?_
              rotate_left
              · show Act.put _ (some 47) _ = _
                simp only [Act.put, List.setIfInBounds_toArray, List.set_cons_zero, List.set_cons_succ]
                rfl
              refine q_on (v := ?_) (by rfl) ?_ ?_
              rotate_left
              · intro w' hC
                go_simp
                with_reducible rfl
              rotate_left
              refine q_norm (a' := ?_) ?_ ?_
              rotate_left
              · show Act.put _ (some 48) _ = _
                simp only [Act.put, List.setIfInBounds_toArray, List.set_cons_zero, List.set_cons_succ]
                rfl
              refine q_on (v := ?_) (by rfl) ?_ ?_
              rotate_left
              · intro w' hC
                go_simp
                with_reducible rfl
              rotate_left
              refine q_norm (a' := ?_) ?_ ?_
              rotate_left
              · show Act.put _ (some 49) _ = _
                simp only [Act.put, List.setIfInBounds_toArray, List.set_cons_zero, List.set_cons_succ]
                rfl
              refine q_on (v := ?_) (by rfl) ?_ ?_
              rotate_left
              · intro w' hC
                obtain ⟨c0, c1, c2, c3, c4, c5, c6, c7, c8, c9⟩ := HQ.out w' hC
                go_simp
                with_reducible rfl
              rotate_left
              refine q_norm (a' := ?_) ?_ ?_
              rotate_left
              · show Act.put _ (some 50) _ = _
                simp only [Act.put, List.setIfInBounds_toArray, List.set_cons_zero, List.set_cons_succ]
                rfl
              refine q_call (f := 38) Try.func38 (by kernel_rfl) rfl #[.slice q2 u.dots.length cp2, .slice q3 v.dots.length cp3] (by rfl) rfl (by simp only [List.map_toArray, List.map_cons, List.map_nil]; rfl) _ (fun w' hC => q_of hC (HM.out w' hC)) ?_
              refine q_norm (a' := ?_) ?_ ?_
              rotate_left
              · show Act.put _ (some 51) _ = _
                simp only [Act.put, List.setIfInBounds_toArray, List.set_cons_zero, List.set_cons_succ]
                rfl
              refine q_on (v := ?_) (by rfl) ?_ ?_
              rotate_left
              · intro w' hC
                go_simp
                with_reducible rfl
              rotate_left
              refine q_norm (a' := ?_) ?_ ?_
              rotate_left
              · show Act.put _ (some 52) _ = _
                simp only [Act.put, List.setIfInBounds_toArray, List.set_cons_zero, List.set_cons_succ]
                rfl
              refine q_on (v := ?_) (by rfl) ?_ ?_
              rotate_left
              · intro w' hC
                go_simp
                with_reducible rfl
              rotate_left
              refine q_norm (a' := ?_) ?_ ?_
              rotate_left
              · show Act.put _ (some 53) _ = _
                simp only [Act.put, List.setIfInBounds_toArray, List.set_cons_zero, List.set_cons_succ]
                rfl
              refine wpQuiet_nil ?_
              intro w' hC
              go_wp2_with fail
              go_roundw
              case rel => exact ⟨k + 1, hk1, by go_num, hs, HC.trans hC⟩
              case measure => simp [intOf]; omega
      · obtain rfl : k = l.length := by omega
        have HL := Lib.hid (map_take_all HN.out HLm.out)
        go_wp2_with fail
        go_ret
        exact ⟨ret_bb (decide_eq_true HL.out).symm, HC⟩
end Go.Proofs.Ytcefaohdikongaa
