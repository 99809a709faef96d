/- The reference's SameDots, Same of siblings, SameEntries, SameDigests. No statement is proved here. -/
import Derived.Test.YtcefaohdikongaaRefA
import Derived.Test.YtcefaohdikongaaQuiet
import Derived.Test.YtcefaohdikongaaWEqStruct
namespace Go.Proofs.Ytcefaohdikongaa
open Go.RowKit Go.Proofs.YtcefaohdikongaaW.PrintLast
attribute [local irreducible] wpQuiet

theorem ret_bb {a b : Bool} (h : a = b) : Ending.returned (.bool a) = .returned (.bool b) := by rw [h]
theorem eq_dot' (a0 a1 b0 b1 : Int) (w : World) : (Op.equalIn 10000 91 (.agg #[.int .i64 a0, .int .i64 a1]) (.agg #[.int .i64 b0, .int .i64 b1])).run Try.prog w = .ok (a0 == b0 && a1 == b1) w := by
  refine YtcefaohdikongaaW.PrintWords.eqA_of Try.underlying91 (by kernel_rfl) ?_
  exact YtcefaohdikongaaW.PrintWords.eqf_cons rfl (by kernel_rfl) (by kernel_rfl) (run_equalIn_int w 9998 3 .i64 .i64 a0 b0 Try.underlying3) (YtcefaohdikongaaW.PrintWords.eqf_last rfl (by kernel_rfl) (by kernel_rfl) (run_equalIn_int w 9998 2 .i64 .i64 a1 b1 Try.underlying2))
theorem eq_mem' (a0 a1 b0 b1 : Int) (w : World) : (Op.equalIn 10000 72 (.agg #[.int .i64 a0, .int .i64 a1]) (.agg #[.int .i64 b0, .int .i64 b1])).run Try.prog w = .ok (a0 == b0 && a1 == b1) w := by
  refine YtcefaohdikongaaW.PrintWords.eqA_of Try.underlying72 (by kernel_rfl) ?_
  exact YtcefaohdikongaaW.PrintWords.eqf_cons rfl (by kernel_rfl) (by kernel_rfl) (run_equalIn_int w 9998 3 .i64 .i64 a0 b0 Try.underlying3) (YtcefaohdikongaaW.PrintWords.eqf_last rfl (by kernel_rfl) (by kernel_rfl) (run_equalIn_int w 9998 2 .i64 .i64 a1 b1 Try.underlying2))
theorem eq_vec' (f g : Vq) (w : World) : (Op.equalIn 10000 84 (.agg #[.int .i64 (f 0), .int .i64 (f 1), .int .i64 (f 2), .int .i64 (f 3), .int .i64 (f 4), .int .i64 (f 5), .int .i64 (f 6), .int .i64 (f 7)]) (.agg #[.int .i64 (g 0), .int .i64 (g 1), .int .i64 (g 2), .int .i64 (g 3), .int .i64 (g 4), .int .i64 (g 5), .int .i64 (g 6), .int .i64 (g 7)])).run Try.prog w = .ok (veq f g) w := eq_vec 9998 f g w
attribute [local go_sem high] eq_dot' eq_mem' eq_vec'
/-- All that counts of a vector, an entry, a digest. -/
def seenL (f : Vq) : List Int := [f 0, f 1, f 2, f 3, f 4, f 5, f 6, f 7]
def sbC (s : Sb) : List Int × List Vl := (seenL s.seen, s.vals)
def enC (e : En) : ByteArray × List Int × List Vl := (e.key, sbC e.sb)
def dgC (d : Dg) : ByteArray × List Int × List (Int × Int) := (d.key, seenL d.seen, d.dots)
theorem veq_seenL (f g : Vq) : veq f g = decide (seenL f = seenL g) := by
  rw [Bool.eq_iff_iff, decide_eq_true_iff]
  simp only [veq, seenL, Bool.and_eq_true, beq_iff_eq, List.cons.injEq, and_true]
theorem take_eq_succ' {α : Type} {l m : List α} {k : Nat} (h : l.take k = m.take k) (hl : k < l.length) (hm : k < m.length) (he : l[k] = m[k]) : l.take (k + 1) = m.take (k + 1) := by
  rw [List.take_succ_eq_append_getElem hl, List.take_succ_eq_append_getElem hm, h, he]
theorem ne_of_get' {α : Type} {l m : List α} {k : Nat} (hl : k < l.length) (hm : k < m.length) (he : l[k] ≠ m[k]) : l ≠ m := by
  rintro rfl
  exact he rfl
set_option maxRecDepth 100000 in
set_option maxHeartbeats 1000000 in
theorem sameDots_any {w : World} {A B : Nat → Prop} (l m : List (Int × Int)) (p q : Value) (hp : Rd w A (prsD l) p) (hq : Rd w B (prsD m) q) :
    Calls Try.prog 38 #[p, q] w fun e w' => e = .returned (.bool (decide (l = m))) ∧ Chg NoB w w' := by
  obtain ⟨p1, c1, rfl, h1, h2, h4⟩ := prs_form hp
  obtain ⟨q1, c2, rfl, k1, k2, k4⟩ := prs_form hq
  unfold maxLen at h2 k2
  obtain ⟨b, hb⟩ : ∃ b, ((l.length : Int) != m.length) = b := ⟨_, rfl⟩
  go_enter Try.func38, Try.ntmps38
  cases b with
  | true =>
    have hd : l ≠ m := fun h => by subst h; simp at hb
    go_wp2_with fail
    go_ret
    exact ⟨by simp [hd], Chg.refl _ _⟩
  | false =>
    have hlm : m.length = l.length := by simp at hb; omega
    have HLm := Lib.hid hlm
    rw [hlm] at hq k1 k4 ⊢
    clear hlm hb
    go_wp2_with fail
    go_loopw [13] (fun i wr => ∃ k : Nat, k ≤ l.length ∧ i = .int .i64 k ∧ Hid (l.take k = m.take k) ∧ Chg NoB w wr) (fun i _ => l.length - (intOf i).toNat)
    case atStart => exact ⟨0, Nat.zero_le _, rfl, Lib.hid rfl, Chg.refl _ _⟩
    case round =>
      obtain ⟨k, hk, rfl, HN, HC⟩ := hrel
      replace hp := hp.st HC
      replace hq := hq.st HC
      by_cases hlt : k < l.length
      · obtain ⟨b, off, rfl, hA, hb⟩ := h4 (by omega)
        obtain ⟨b', off', rfl, hA', hb'⟩ := k4 (by omega)
        have hltm : k < m.length := by rw [HLm.out]; exact hlt
        have HS : Hid (l[k] = m[k] → l.take (k + 1) = m.take (k + 1)) := Lib.hid fun h => take_eq_succ' HN.out hlt hltm h
        have HD : Hid (l[k] ≠ m[k] → l ≠ m) := Lib.hid fun h => ne_of_get' hlt hltm h
        have hk3 : (k : Int) < (l.length : Int) := by omega
        have HP : Hid (∀ w', Chg NoB wr w' → w'.cell? ⟨b, off + k * 2, none⟩ = some (.int .i64 l[k].1) ∧ w'.cell? ⟨b, off + k * 2 + 1, none⟩ = some (.int .i64 l[k].2)) := Lib.hid fun w' hC => pr_at (hp.st hC) hlt
        have HQ : Hid (∀ w', Chg NoB wr w' → w'.cell? ⟨b', off' + k * 2, none⟩ = some (.int .i64 m[k].1) ∧ w'.cell? ⟨b', off' + k * 2 + 1, none⟩ = some (.int .i64 m[k].2)) := Lib.hid fun w' hC => pr_at (hq.st hC) hltm
        generalize l[k] = u at *
        generalize m[k] = v at *
        clear hp hq
        go_upto_region 6 with fail
        have hk1 : k + 1 ≤ l.length := hlt
        obtain ⟨r, hr⟩ : ∃ r, (u.1 == v.1 && u.2 == v.2) = r := ⟨_, rfl⟩
        cases r with
        | true =>
          have hs := Lib.hid (HS.out (by simp only [Bool.and_eq_true, beq_iff_eq] at hr; exact Prod.ext hr.1 hr.2))
          clear HS HD
          refine q_start (by kernel_rfl) (by kernel_rfl) ?_
          refine q_on (v := ?_) (by rfl) ?_ ?_
          rotate_left
          · intro w' hC
            go_simp
            with_reducible rfl
          rotate_left
          refine q_norm (a' := ?_) ?_ ?_
          rotate_left
          · show Act.put _ (some 16) _ = _
            simp only [Act.put, List.setIfInBounds_toArray, List.set_cons_zero, List.set_cons_succ]
            rfl
          refine q_on (v := ?_) (by rfl) ?_ ?_
          rotate_left
          · intro w' hC
            go_simp
            with_reducible rfl
          rotate_left
          refine q_norm (a' := ?_) ?_ ?_
          rotate_left
          · show Act.put _ (some 17) _ = _
            simp only [Act.put, List.setIfInBounds_toArray, List.set_cons_zero, List.set_cons_succ]
            rfl
          refine q_on (v := ?_) (by rfl) ?_ ?_
          rotate_left
          · intro w' hC
            go_simp
            with_reducible rfl
          rotate_left
          refine q_norm (a' := ?_) ?_ ?_
          rotate_left
          · show Act.put _ (some 18) _ = _
            simp only [Act.put, List.setIfInBounds_toArray, List.set_cons_zero, List.set_cons_succ]
            rfl
          refine q_on (v := ?_) (by rfl) ?_ ?_
          rotate_left
          · intro w' hC
            obtain ⟨c0, c1⟩ := HP.out w' hC
            go_simp
            with_reducible rfl
          rotate_left
          refine q_norm (a' := ?_) ?_ ?_
          rotate_left
          · show Act.put _ (some 19) _ = _
            simp only [Act.put, List.setIfInBounds_toArray, List.set_cons_zero, List.set_cons_succ]
            rfl
          refine q_on (v := ?_) (by rfl) ?_ ?_
          rotate_left
          · intro w' hC
            go_simp
            with_reducible rfl
          rotate_left
          refine q_norm (a' := ?_) ?_ ?_
          rotate_left
          · show Act.put _ (some 20) _ = _
            simp only [Act.put, List.setIfInBounds_toArray, List.set_cons_zero, List.set_cons_succ]
            rfl
          refine q_on (v := ?_) (by rfl) ?_ ?_
          rotate_left
          · intro w' hC
            go_simp
            with_reducible rfl
          rotate_left
          refine q_norm (a' := ?_) ?_ ?_
          rotate_left
          · show Act.put _ (some 21) _ = _
            simp only [Act.put, List.setIfInBounds_toArray, List.set_cons_zero, List.set_cons_succ]
            rfl
          refine q_on (v := ?_) (by rfl) ?_ ?_
          rotate_left
          · intro w' hC
            go_simp
            with_reducible rfl
          rotate_left
          refine q_norm (a' := ?_) ?_ ?_
          rotate_left
          · show Act.put _ (some 22) _ = _
            simp only [Act.put, List.setIfInBounds_toArray, List.set_cons_zero, List.set_cons_succ]
            rfl
          refine q_on (v := ?_) (by rfl) ?_ ?_
          rotate_left
          · intro w' hC
            obtain ⟨c0, c1⟩ := HQ.out w' hC
            go_simp
            with_reducible rfl
          rotate_left
          refine q_norm (a' := ?_) ?_ ?_
          rotate_left
          · show Act.put _ (some 23) _ = _
            simp only [Act.put, List.setIfInBounds_toArray, List.set_cons_zero, List.set_cons_succ]
            rfl
          refine q_on (v := ?_) (by rfl) ?_ ?_
          rotate_left
          · intro w' hC
            go_simp
            with_reducible rfl
          rotate_left
          refine q_norm (a' := ?_) ?_ ?_
          rotate_left
          · show Act.put _ (some 24) _ = _
            simp only [Act.put, List.setIfInBounds_toArray, List.set_cons_zero, List.set_cons_succ]
            rfl
          refine wpQuiet_nil ?_
          intro w' hC
          go_wp2_with fail
          go_roundw
          case rel => exact ⟨k + 1, hk1, by go_num, hs, HC.trans hC⟩
          case measure => simp [intOf]; omega
        | false =>
          have hs := Lib.hid (HD.out (by rintro rfl; simp at hr))
          clear HS HD
          refine q_start (by kernel_rfl) (by kernel_rfl) ?_
          refine q_on (v := ?_) (by rfl) ?_ ?_
          rotate_left
          · intro w' hC
            go_simp
            with_reducible rfl
          rotate_left
          refine q_norm (a' := ?_) ?_ ?_
          rotate_left
          · show Act.put _ (some 16) _ = _
            simp only [Act.put, List.setIfInBounds_toArray, List.set_cons_zero, List.set_cons_succ]
            rfl
          refine q_on (v := ?_) (by rfl) ?_ ?_
          rotate_left
          · intro w' hC
            go_simp
            with_reducible rfl
          rotate_left
          refine q_norm (a' := ?_) ?_ ?_
          rotate_left
          · show Act.put _ (some 17) _ = _
            simp only [Act.put, List.setIfInBounds_toArray, List.set_cons_zero, List.set_cons_succ]
            rfl
          refine q_on (v := ?_) (by rfl) ?_ ?_
          rotate_left
          · intro w' hC
            go_simp
            with_reducible rfl
          rotate_left
          refine q_norm (a' := ?_) ?_ ?_
          rotate_left
          · show Act.put _ (some 18) _ = _
            simp only [Act.put, List.setIfInBounds_toArray, List.set_cons_zero, List.set_cons_succ]
            rfl
          refine q_on (v := ?_) (by rfl) ?_ ?_
          rotate_left
          · intro w' hC
            obtain ⟨c0, c1⟩ := HP.out w' hC
            go_simp
            with_reducible rfl
          rotate_left
          refine q_norm (a' := ?_) ?_ ?_
          rotate_left
          · show Act.put _ (some 19) _ = _
            simp only [Act.put, List.setIfInBounds_toArray, List.set_cons_zero, List.set_cons_succ]
            rfl
          refine q_on (v := ?_) (by rfl) ?_ ?_
          rotate_left
          · intro w' hC
            go_simp
            with_reducible rfl
          rotate_left
          refine q_norm (a' := ?_) ?_ ?_
          rotate_left
          · show Act.put _ (some 20) _ = _
            simp only [Act.put, List.setIfInBounds_toArray, List.set_cons_zero, List.set_cons_succ]
            rfl
          refine q_on (v := ?_) (by rfl) ?_ ?_
          rotate_left
          · intro w' hC
            go_simp
            with_reducible rfl
          rotate_left
          refine q_norm (a' := ?_) ?_ ?_
          rotate_left
          · show Act.put _ (some 21) _ = _
            simp only [Act.put, List.setIfInBounds_toArray, List.set_cons_zero, List.set_cons_succ]
            rfl
          refine q_on (v := ?_) (by rfl) ?_ ?_
          rotate_left
          · intro w' hC
            go_simp
            with_reducible rfl
          rotate_left
          refine q_norm (a' := ?_) ?_ ?_
          rotate_left
          · show Act.put _ (some 22) _ = _
            simp only [Act.put, List.setIfInBounds_toArray, List.set_cons_zero, List.set_cons_succ]
            rfl
          refine q_on (v := ?_) (by rfl) ?_ ?_
          rotate_left
          · intro w' hC
            obtain ⟨c0, c1⟩ := HQ.out w' hC
            go_simp
            with_reducible rfl
          rotate_left
          refine q_norm (a' := ?_) ?_ ?_
          rotate_left
          · show Act.put _ (some 23) _ = _
            simp only [Act.put, List.setIfInBounds_toArray, List.set_cons_zero, List.set_cons_succ]
            rfl
          refine q_on (v := ?_) (by rfl) ?_ ?_
          rotate_left
          · intro w' hC
            go_simp
            with_reducible rfl
          rotate_left
          refine q_norm (a' := ?_) ?_ ?_
          rotate_left
          · show Act.put _ (some 24) _ = _
            simp only [Act.put, List.setIfInBounds_toArray, List.set_cons_zero, List.set_cons_succ]
            rfl
          refine wpQuiet_nil ?_
          intro w' hC
          go_wp2_with fail
          go_ret
          exact ⟨by simp [hs.out], HC.trans hC⟩
      · obtain rfl : k = l.length := by omega
        have HL : Hid (l = m) := Lib.hid (by have := HN.out; rwa [List.take_of_length_le (Nat.le_refl _), List.take_of_length_le (by rw [HLm.out]; exact Nat.le_refl _)] at this)
        go_wp2_with fail
        go_ret
        exact ⟨by simp [HL.out], HC⟩
theorem ba_beq (a b : ByteArray) : ((a == b) = true) ↔ a = b := by
  obtain ⟨a⟩ := a
  obtain ⟨b⟩ := b
  constructor
  · intro h
    have : (a == b) = true := h
    rw [eq_of_beq this]
  · rintro h
    cases h
    show (a == a) = true
    simp
theorem strOf_inj {a b : List UInt8} (h : strOfNums (nums a) = strOfNums (nums b)) : a = b := by
  have key : ∀ l : List UInt8, (strOfNums (nums l)).data.toList = l := fun l => by
    have := bytesOf_nums l
    unfold Lib.bytesOf at this
    simp only [strOfNums]
    simpa using this
  rw [← key a, h, key b]
set_option maxRecDepth 100000 in
set_option maxHeartbeats 2000000 in
theorem sameV_any {w : World} {A B : Nat → Prop} (s t : Sb) (p q : Value) (hp : Rd w A (vlsD s.vals) p) (hq : Rd w B (vlsD t.vals) q) :
    Calls Try.prog 37 #[sbv s p, sbv t q] w fun e w' => e = .returned (.bool (decide (sbC s = sbC t))) ∧ Chg NoB w w' := by
  obtain ⟨p1, c1, rfl, h1, h2, _, h4, _⟩ := vls_form hp
  obtain ⟨q1, c2, rfl, k1, k2, _, k4, _⟩ := vls_form hq
  unfold maxLen at h2 k2
  have B1 := (Blk.new w 87 (sbc s (.slice p1 s.vals.length c1))).alloc (.cells (sbc t (.slice q1 t.vals.length c2)) 87)
  have B2 := Blk.new_ (k := w.heap.size + 1) (w.alloc (.cells (sbc s (.slice p1 s.vals.length c1)) 87)) 87 (sbc t (.slice q1 t.vals.length c2)) (by simp)
  have hC := ((Chg.refl NoB w).alloc (.cells (sbc s (.slice p1 s.vals.length c1)) 87)).alloc (.cells (sbc t (.slice q1 t.vals.length c2)) 87)
  have hz : w.heap.size + 2 ≤ ((w.alloc (.cells (sbc s (.slice p1 s.vals.length c1)) 87)).alloc (.cells (sbc t (.slice q1 t.vals.length c2)) 87)).heap.size := by simp
  have HS0 := Lib.hid (veq_seenL s.seen t.seen)
  obtain ⟨x, hx⟩ : ∃ x, veq s.seen t.seen = x := ⟨_, rfl⟩
  rw [hx] at HS0
  obtain ⟨b, hb⟩ : ∃ b, ((s.vals.length : Int) != t.vals.length) = b := ⟨_, rfl⟩
  go_enter Try.func37, Try.ntmps37
  cases x with
  | false =>
    have hne : sbC s ≠ sbC t := fun h => by
      have h1 : seenL s.seen = seenL t.seen := congrArg Prod.fst h
      exact absurd (of_decide_eq_false HS0.out.symm) (by simp [h1])
    go_wp2_with fail
    go_ret
    exact ⟨by simp [hne], (Chg.al _ _).trans (Chg.al _ _)⟩
  | true =>
    have HSe : Hid (seenL s.seen = seenL t.seen) := Lib.hid (of_decide_eq_true HS0.out.symm)
    cases b with
    | true =>
      have hne : sbC s ≠ sbC t := fun h => by
        have h1 : s.vals = t.vals := congrArg Prod.snd h
        rw [h1] at hb
        simp at hb
      go_wp2_with fail
      go_ret
      exact ⟨by simp [hne], (Chg.al _ _).trans (Chg.al _ _)⟩
    | false =>
      have hlm : t.vals.length = s.vals.length := by simp at hb; omega
      have HLm := Lib.hid hlm
      rw [hlm] at hq k1 k4 B1 B2 hC hz ⊢
      have hb' : ((s.vals.length : Int) != s.vals.length) = false := by simp
      clear hb hlm
      go_wp2_with fail
      generalize (w.alloc (Obj.cells _ 87)).alloc (Obj.cells _ 87) = W at *
      have HB2 := Lib.hid B2
      have HCW := Lib.hid hC
      clear B1 B2 hC hx hb'
      go_loopw [25] (fun i wr => ∃ k : Nat, k ≤ s.vals.length ∧ i = .int .i64 k ∧ Hid (s.vals.take k = t.vals.take k) ∧ Chg NoB W wr) (fun i _ => s.vals.length - (intOf i).toNat)
      case atStart => exact ⟨0, Nat.zero_le _, rfl, Lib.hid rfl, Chg.refl _ _⟩
      case round =>
        obtain ⟨k, hk, rfl, HN, HC⟩ := hrel
        have hC := HCW.out.st HC
        by_cases hlt : k < s.vals.length
        · obtain ⟨b, off, rfl, hA, hb⟩ := h4 (by omega)
          obtain ⟨b', off', rfl, hA', hb'⟩ := k4 (by omega)
          have hltm : k < t.vals.length := by rw [HLm.out]; exact hlt
          obtain ⟨p2, c3, hd, d0, d1, d2, d3⟩ := vls_at' (hp.st hC) hlt
          obtain ⟨q2, c4, he, e0, e1, e2, e3⟩ := vls_at' (hq.st hC) hltm
          have hb1 := Nat.lt_of_lt_of_le hb hC.size
          have hb2 := Nat.lt_of_lt_of_le hb' hC.size
          have HS : Hid (s.vals[k] = t.vals[k] → s.vals.take (k + 1) = t.vals.take (k + 1)) := Lib.hid fun h => take_eq_succ' HN.out hlt hltm h
          have HD : Hid (s.vals[k] ≠ t.vals[k] → s.vals ≠ t.vals) := Lib.hid fun h => ne_of_get' hlt hltm h
          have hk3 : (k : Int) < (s.vals.length : Int) := by omega
          generalize s.vals[k] = u at *
          generalize t.vals[k] = v at *
          obtain ⟨z0, z1, z2, z3, z4, z5, z6, z7, z8⟩ := cells9 (HB2.out.st HC)
          have hzr : w.heap.size + 1 < wr.heap.size := by have := HC.size; omega
          have hk1 : k + 1 ≤ s.vals.length := hlt
          go_upto_region 7 with fail
          have hC2 := (Chg.al wr (.cells (vlc u (.slice p2 u.data.length c3)) 94)).trans (Chg.al _ (.cells (vlc v (.slice q2 v.data.length c4)) 94))
          have B3 := (Blk.new wr 94 (vlc u (.slice p2 u.data.length c3))).alloc (.cells (vlc v (.slice q2 v.data.length c4)) 94)
          have B4 := Blk.new_ (k := wr.heap.size + 1) (wr.alloc (.cells (vlc u (.slice p2 u.data.length c3)) 94)) 94 (vlc v (.slice q2 v.data.length c4)) (by simp)
          have cv1 := conv_bytes (hd.st hC2)
          have cv2 := conv_bytes (he.st hC2)
          replace hC := hC.trans hC2
          replace HC := HC.trans hC2
          clear hd he d0 d1 d2 d3 e0 e1 e2 e3 z0 z1 z2 z3 z4 z5 z6 z7 z8 hC2
          generalize (wr.alloc (Obj.cells _ 94)).alloc (Obj.cells _ 94) = W2 at *
          obtain ⟨d0, d1, d2, d3⟩ := cells4 B3
          obtain ⟨e0, e1, e2, e3⟩ := cells4 B4
          clear B3 B4
          obtain ⟨x1, hx1⟩ : ∃ x, (u.node == v.node && u.n == v.n) = x := ⟨_, rfl⟩
          obtain ⟨x2, hx2⟩ : ∃ x, (!u.dead == v.dead) = x := ⟨_, rfl⟩
          obtain ⟨x3, hx3⟩ : ∃ x, (!(strOfNums (nums u.data)).toList == (strOfNums (nums v.data)).toList) = x := ⟨_, rfl⟩
          have HE : Hid (u = v ↔ x1 = true ∧ x2 = false ∧ x3 = false) := Lib.hid (by
            subst hx1 hx2 hx3
            obtain ⟨u0, u1, u2, u3⟩ := u
            obtain ⟨v0, v1, v2, v3⟩ := v
            have hs : (!(strOfNums (nums u2)).toList == (strOfNums (nums v2)).toList) = false ↔ u2 = v2 := by
              rw [← beq_toListBytes, Bool.not_eq_false', ba_beq]
              exact ⟨strOf_inj, fun h => by rw [h]⟩
            have hb : ((!u3 == v3) = false) ↔ u3 = v3 := by cases u3 <;> cases v3 <;> decide
            simp only [Vl.mk.injEq, Bool.and_eq_true, beq_iff_eq, hs, hb]
            exact ⟨fun ⟨a, b, c, d⟩ => ⟨⟨a, b⟩, d, c⟩, fun ⟨⟨a, b⟩, d, c⟩ => ⟨a, b, c, d⟩⟩)
          cases x1 with
          | false =>
            have hs := Lib.hid (HD.out fun h => by have := HE.out.1 h; simp at this)
            clear HS HD HE
            go_wp2_with fail
            go_ret
            exact ⟨ret_bb (decide_eq_false fun h => hs.out (congrArg Prod.snd h)).symm, hC⟩
          | true =>
            cases x2 with
            | true =>
              have hs := Lib.hid (HD.out fun h => by have := HE.out.1 h; simp at this)
              clear HS HD HE
              go_wp2_with fail
              go_ret
              exact ⟨ret_bb (decide_eq_false fun h => hs.out (congrArg Prod.snd h)).symm, hC⟩
            | false =>
              cases x3 with
              | true =>
                have hs := Lib.hid (HD.out fun h => by have := HE.out.1 h; simp at this)
                clear HS HD HE
                go_wp2_with fail
                go_ret
                exact ⟨ret_bb (decide_eq_false fun h => hs.out (congrArg Prod.snd h)).symm, hC⟩
              | false =>
                have hs := Lib.hid (HS.out (HE.out.2 ⟨rfl, rfl, rfl⟩))
                clear HS HD HE
                go_wp2_with fail
                go_roundw
                case rel => exact ⟨k + 1, hk1, by go_num, hs, HC⟩
                case measure => simp [intOf]; omega
        · obtain rfl : k = s.vals.length := by omega
          have HL : Hid (s.vals = t.vals) := Lib.hid (by have := HN.out; rwa [List.take_of_length_le (Nat.le_refl _), List.take_of_length_le (by rw [HLm.out]; exact Nat.le_refl _)] at this)
          go_wp2_with fail
          go_ret
          exact ⟨ret_bb (decide_eq_true (Prod.ext HSe.out HL.out)).symm, hC⟩
end Go.Proofs.Ytcefaohdikongaa
