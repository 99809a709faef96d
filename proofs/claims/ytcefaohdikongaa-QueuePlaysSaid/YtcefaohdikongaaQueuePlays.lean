/- QueuePlays: the walk. -/
import Derived.Test.YtcefaohdikongaaQPlSt
import Derived.Test.YtcefaohdikongaaQueueAll
namespace Go.Proofs.Ytcefaohdikongaa
open Go.RowKit Go.Proofs.YtcefaohdikongaaW.PrintLast
attribute [local go_sem] max2_mx min2_mn max_two_ min_two_
attribute [local irreducible] wpQuiet

theorem clip_in (n : Int) : 0 ≤ clip n ∧ clip n ≤ 1000 := by unfold clip mx mn; split <;> split <;> omega
theorem take_empty_no {w : World} {g r : Nat} {most now : Int} {s : Value} (q : QA w g r most now [] s) :
    Calls Try.prog 13 #[.pointer (some ⟨g, 0, none⟩)] w fun e w' => e = .returned (.tuple #[msv msz, .bool false]) ∧ Chg NoB w w' := by
  have HQ := Lib.hid q
  clear q
  go_enter Try.func13, Try.ntmps13
  go_wp2_with fail
  have HQ2 := Lib.hid (HQ.out.chg ((Chg.refl NoB w).alloc (Obj.cells (mc msz) 31)))
  have HB := Lib.hid (Blk.new w 31 (mc msz))
  have HC := Lib.hid ((Chg.refl NoB w).alloc (Obj.cells (mc msz) 31))
  generalize w.alloc (Obj.cells _ 31) = W at *
  refine (len_any HQ2.out).mono ?_
  rintro e w1 ⟨rfl, rfl⟩
  obtain ⟨c0, c1, c2, c3, c4, c5, c6, c7, c8, c9⟩ := ten HB.out
  obtain ⟨f0, f1, f2, f3, f4, f5, f6, f7, f8, f9, f10⟩ := ten_frozen HB.out
  go_wp2_with fail
  have hz := ten_chg HC.out (.inr (Nat.le_refl _)) (.int .i64 0) (.int .i64 0) (.int .i64 0) (.int .i64 0) (.int .i64 0) (.string ⟨#[]⟩) (.int .i64 0) nil_ nil_ nil_
  exact back_ms2 rfl msz (.bool false) rfl rfl (ten_set HB.out _ _ _ _ _ _ _ _ _ _) rfl ⟨rfl, hz⟩
abbrev mg0 : Mg := ⟨0, 0, 0, 0, 0, ⟨#[]⟩, 0, [], [], []⟩
theorem mr0 (w : World) (A : Nat → Prop) : MR w A mg0 msz := ⟨nil_, nil_, nil_, rfl, .nil _, .nil _, .nil _⟩
set_option maxRecDepth 100000 in
set_option maxHeartbeats 8000000 in
theorem queuePlays_any (mo : Int) (v : Value) (l : List Cl) (w : World) (hv : Rd w (fun k => k < w.heap.size) (clsD l) v) (hl : ∀ c ∈ l, Mv c.m) : Calls Try.prog 7 #[.int .i64 mo, v] w fun e w' => e = .returned (.bool true) ∧ Chg NoB w w' := by
  obtain ⟨p, cap, rfl, hcap, hmax, hp⟩ := cls_form hv
  unfold maxLen at hmax
  have HV := Lib.hid hv
  have HL := Lib.hid hl
  have hmo := clip_in mo
  clear hv hl
  go_enter Try.func7, Try.ntmps7
  go_wp2_with fail
  refine (new_any mo _).mono ?_
  rintro e w1 ⟨⟨g, rfl, hq⟩, hC⟩
  have HQ1 := Lib.hid hq
  have HC1 := Lib.hid hC
  clear hq hC
  go_wp2_with fail
  refine (newQ_any mo _).mono ?_
  rintro e w2 ⟨⟨rfl, hr⟩, hC⟩
  have HS1 : Hid (Sp w w2 g w1.heap.size (clip mo) (.slice none 0 0) (.slice none 0 0) 0 0 [] [] [] []) := Lib.hid ⟨HQ1.out.chg hC, hr, ⟨by have := HQ1.out.blk.lt; omega, by have := HQ1.out.ta.blk.lt; omega, by simp [Value.ownBlock]⟩, fun k hk => absurd hk (by simp [Value.ownBlock]), HC1.out.trans hC, trivial, trivial⟩
  obtain ⟨g2, hg2⟩ : ∃ g2, w1.heap.size = g2 := ⟨_, rfl⟩
  rw [hg2] at HS1 ⊢
  obtain ⟨cm, hcm⟩ : ∃ cm, clip mo = cm := ⟨_, rfl⟩
  rw [hcm] at HS1 hmo
  clear hr hC HQ1 HC1 hg2 hcm
  go_wp2_with fail
  go_loopw [7] (fun i wr => ∃ (k : Nat) (now : Int) (s s2 : Value) (L L2 : List (Ms × Int)) (P : List Mg), k ≤ l.length ∧ k ≤ 120 ∧ i = .int .i64 k ∧ Hid (Sp w wr g g2 cm s s2 now now L L2 P P) ∧ Hid (Wb L k) ∧ Hid (Wq L L2) ∧ (0 ≤ now ∧ now ≤ k) ∧ L.length ≤ k) (fun i _ => l.length - (intOf i).toNat)
  case atStart => exact ⟨0, 0, _, _, [], [], [], Nat.zero_le _, Nat.zero_le _, rfl, HS1, Lib.hid (fun p hp => by cases hp), Lib.hid rfl, ⟨by decide, by decide⟩, Nat.le_refl _⟩
  case round =>
    clear HS1
    obtain ⟨k, now, s, s2, L, L2, P, hk, hk120, rfl, HS, HW, HWq, hnow, hLk⟩ := hrel
    by_cases hgo : k < l.length ∧ k < 120
    · obtain ⟨hlt, h120⟩ := hgo
      have hk2 : decide ((k : Int) < (l.length : Int)) = true := by simp; omega
      have hk3 : decide ((k : Int) < 120) = true := by simp; omega
      have hk4 : (k : Int) < (l.length : Int) := by omega
      obtain ⟨b, off, rfl, hA, hb⟩ := hp (by omega)
      have hb1 := Nat.lt_of_lt_of_le hb HS.out.c.size
      obtain ⟨e, d, ss, ⟨he, hd, hs⟩, hcs⟩ := cl_at (HV.out.st HS.out.c) hlt
      obtain ⟨pe, ce, rfl, _⟩ := ens_form he
      obtain ⟨pd, cd, rfl, _⟩ := dgs_form hd
      obtain ⟨ps, cs, rfl, _⟩ := prs_form hs
      have hmv := HL.out _ (List.getElem_mem hlt)
      generalize l[k] = c at *
      have c0_ : wr.cell? ⟨b, off + k * 12, none⟩ = some (.int .i64 c.do_) := hcs 0 (by decide)
      have c1_ : wr.cell? ⟨b, off + k * 12 + 1, none⟩ = some (.int .i64 c.ur) := hcs 1 (by decide)
      have c2_ : wr.cell? ⟨b, off + k * 12 + 2, none⟩ = some (.int .i64 c.m.k) := hcs 2 (by decide)
      have c3_ : wr.cell? ⟨b, off + k * 12 + 3, none⟩ = some (.int .i64 c.m.f) := hcs 3 (by decide)
      have c4_ : wr.cell? ⟨b, off + k * 12 + 4, none⟩ = some (.int .i64 c.m.t) := hcs 4 (by decide)
      have c5_ : wr.cell? ⟨b, off + k * 12 + 5, none⟩ = some (.int .i64 c.m.op) := hcs 5 (by decide)
      have c6_ : wr.cell? ⟨b, off + k * 12 + 6, none⟩ = some (.int .i64 c.m.fr) := hcs 6 (by decide)
      have c7_ : wr.cell? ⟨b, off + k * 12 + 7, none⟩ = some (.string c.m.key) := hcs 7 (by decide)
      have c8_ : wr.cell? ⟨b, off + k * 12 + 8, none⟩ = some (.int .i64 c.m.bk) := hcs 8 (by decide)
      have c9_ : wr.cell? ⟨b, off + k * 12 + 9, none⟩ = some (.slice pe c.m.es.length ce) := hcs 9 (by decide)
      have c10_ : wr.cell? ⟨b, off + k * 12 + 10, none⟩ = some (.slice pd c.m.ds.length cd) := hcs 10 (by decide)
      have c11_ : wr.cell? ⟨b, off + k * 12 + 11, none⟩ = some (.slice ps c.m.ms.length cs) := hcs 11 (by decide)
      have HX : Hid (MR wr (fun k => k < w.heap.size) c.m (mgx c.m (.slice pe c.m.es.length ce) (.slice pd c.m.ds.length cd) (.slice ps c.m.ms.length cs))) := Lib.hid ⟨_, _, _, rfl, he, hd, hs⟩
      have HMv := Lib.hid hmv
      clear hcs he hd hs hmv
      go_upto_block 2 with fail
      have hAl := Chg.al wr (.cells (clc c (.slice pe c.m.es.length ce) (.slice pd c.m.ds.length cd) (.slice ps c.m.ms.length cs)) 44)
      have HB6 := Lib.hid (Blk.new wr 44 (clc c (.slice pe c.m.es.length ce) (.slice pd c.m.ds.length cd) (.slice ps c.m.ms.length cs)))
      have hbx : ¬ Qp g w.heap.size s wr.heap.size ∧ g2 < wr.heap.size := by
        obtain ⟨h1, h2, h3, h4, _⟩ := HS.out.lts
        refine ⟨fun hq => ?_, h4⟩
        rcases hq with h | h | h
        · omega
        · omega
        · have := h3 _ h; omega
      have HBX := Lib.hid hbx
      replace HX := Lib.hid (HX.out.st hAl)
      replace HS := Lib.hid (HS.out.st hAl)
      clear hbx hAl c0_ c1_ c2_ c3_ c4_ c5_ c6_ c7_ c8_ c9_ c10_ c11_
      generalize wr.alloc (Obj.cells _ 44) = W1 at *
      have HLt := Lib.hid (light_any c.m c.do_ c.ur _ HX.out)
      have hL : ltM c.m = (decide (c.m.es.length ≤ 3) && decide (c.m.ds.length ≤ 3) && decide (c.m.ms.length ≤ 10)) := rfl
      obtain ⟨x1, hx1⟩ : ∃ x, ltM c.m = x := ⟨_, rfl⟩
      rw [← hL, hx1] at HLt
      clear hL
      have c0 := HB6.out.cell 0
      have c1 := HB6.out.cell 1
      have c2 := HB6.out.cell 2
      have c3 := HB6.out.cell 3
      have c4 := HB6.out.cell 4
      have c5 := HB6.out.cell 5
      have c6 := HB6.out.cell 6
      have c7 := HB6.out.cell 7
      have c8 := HB6.out.cell 8
      have c9 := HB6.out.cell 9
      have c10 := HB6.out.cell 10
      have c11 := HB6.out.cell 11
      go_cut [9, 10, 11, 12, 98] from 33 (fun _ _ _ _ z98 w' => z98 = undef ∧ ∃ (now' : Int) (s s2 : Value) (L L2 : List (Ms × Int)) (P : List Mg), Hid (Sp w w' g g2 cm s s2 now' now' L L2 P P) ∧ Hid (Wb L (k + 1)) ∧ Hid (Wq L L2) ∧ (0 ≤ now' ∧ now' ≤ (k : Int) + 1) ∧ L.length ≤ k + 1)
      case first =>
        obtain ⟨x0, hx0⟩ : ∃ x, (c.do_ == 0) = x := ⟨_, rfl⟩
        have hwl := HWq.out.length
        have HWl := Lib.hid hwl
        clear hwl
        cases x0 with
        | true =>
          have hx2 : (c.do_ == 1) = false := by simp only [beq_iff_eq] at hx0; rw [hx0]; rfl
          go_wp2_with fail
          refine HLt.out.mono ?_
          rintro e W2 ⟨rfl, hC2⟩
          replace HS := Lib.hid (HS.out.st hC2)
          replace HX := Lib.hid (HX.out.st hC2)
          replace HB6 := Lib.hid (HB6.out.st hC2)
          clear hC2 HLt c0 c1 c2 c3 c4 c5 c6 c7 c8 c9 c10 c11
          have c0 := HB6.out.cell 0
          have c1 := HB6.out.cell 1
          have c2 := HB6.out.cell 2
          have c3 := HB6.out.cell 3
          have c4 := HB6.out.cell 4
          have c5 := HB6.out.cell 5
          have c6 := HB6.out.cell 6
          have c7 := HB6.out.cell 7
          have c8 := HB6.out.cell 8
          have c9 := HB6.out.cell 9
          have c10 := HB6.out.cell 10
          have c11 := HB6.out.cell 11
          cases x1 with
          | false =>
            go_wp2_with fail
            refine (tick_ft HS.out.q (fun p hp => by have := HW.out p hp; omega) (by omega)).mono ?_
            rintro e w3 ⟨rfl, hq, hC⟩
            have HS3 := Lib.hid (HS.out.tick hC hq)
            clear hq hC
            go_wp2_with fail
            refine (rtick_any HS3.out.r (fun p hp => by
              obtain ⟨j, hj, rfl⟩ := List.getElem_of_mem hp
              have h1 := HWq.out.wts j
              rw [wt_at L2 hj, wt_at L (by have := HWl.out; omega)] at h1
              have := HW.out _ (List.getElem_mem (show j < L.length by have := HWl.out; omega))
              omega) (by have := HWl.out; omega)).mono ?_
            rintro e w4 ⟨rfl, hT⟩
            obtain ⟨⟨s2', hr, hf⟩, hC⟩ := hT
            have HS4 := Lib.hid (HS3.out.rturn hC hr (fun k hk => .inr (hf k hk)) (All2.map_of (f := bp) (T := fun p m => MR w3 (fun k => k < w.heap.size) m p.1) (HS3.out.i.mono fun _ _ k => k)))
            clear hr hf hC
            go_wp2_with fail
            go_meet
            case rel => exact ⟨rfl, now, s, s2', L.map bp, L2.map bp, P, HS4, Lib.hid HW.out.tick, Lib.hid HWq.out.tick, ⟨hnow.1, by omega⟩, by rw [List.length_map]; omega⟩
          | true =>
            have HMz := Lib.hid (ltM_mz hx1 HMv.out)
            clear hx1
            go_upto_region 11 with fail
            clear c0 c1 c2 c3 c4 c5 c6 c7 c8 c9 c10 c11
            by_cases hroom : (L.length : Int) < cm
            · have HPut := Lib.hid (put_ft (HS.out.st (Chg.dr W2)).q (mgx c.m (.slice pe c.m.es.length ce) (.slice pd c.m.ds.length cd) (.slice ps c.m.ms.length cs)) c.ur hroom (by omega) (fun y w' => MR w' (New W2) c.m y) fun wc hwc => by
                obtain ⟨_, _, _, hxe, h1, h2, h3⟩ := ((HX.out.st (Chg.dr W2)).st hwc).ex
                simp only [Ms.mk.injEq, true_and] at hxe
                obtain ⟨rfl, rfl, rfl⟩ := hxe
                exact (copied_any c.m _ _ _ h1 h2 h3 HMz.out).mono fun e w' ⟨⟨y, h1, h2⟩, h3⟩ => ⟨y, h1, h2.one, h2.mono fun k hk _ => Nat.le_trans hwc.size hk, h3⟩)
              refine start_ (n := 13) (S := fun w' => w'.cell? ⟨wr.heap.size, 0, none⟩ = some (.int .i64 c.do_) ∧ w'.cell? ⟨wr.heap.size, 1, none⟩ = some (.int .i64 c.ur) ∧ w'.cell? ⟨wr.heap.size, 2, none⟩ = some (.int .i64 c.m.k) ∧ w'.cell? ⟨wr.heap.size, 3, none⟩ = some (.int .i64 c.m.f) ∧ w'.cell? ⟨wr.heap.size, 4, none⟩ = some (.int .i64 c.m.t) ∧ w'.cell? ⟨wr.heap.size, 5, none⟩ = some (.int .i64 c.m.op) ∧ w'.cell? ⟨wr.heap.size, 6, none⟩ = some (.int .i64 c.m.fr) ∧ w'.cell? ⟨wr.heap.size, 7, none⟩ = some (.string c.m.key) ∧ w'.cell? ⟨wr.heap.size, 8, none⟩ = some (.int .i64 c.m.bk) ∧ w'.cell? ⟨wr.heap.size, 9, none⟩ = some (.slice pe c.m.es.length ce) ∧ w'.cell? ⟨wr.heap.size, 10, none⟩ = some (.slice pd c.m.ds.length cd) ∧ w'.cell? ⟨wr.heap.size, 11, none⟩ = some (.slice ps c.m.ms.length cs)) (ds := []) #[false, false, false, false, false, false, false, false, false, false, false, false, false] (by kernel_rfl) rfl rfl ⟨((HB6.out.st (Chg.dr W2)).cell 0), ((HB6.out.st (Chg.dr W2)).cell 1), ((HB6.out.st (Chg.dr W2)).cell 2), ((HB6.out.st (Chg.dr W2)).cell 3), ((HB6.out.st (Chg.dr W2)).cell 4), ((HB6.out.st (Chg.dr W2)).cell 5), ((HB6.out.st (Chg.dr W2)).cell 6), ((HB6.out.st (Chg.dr W2)).cell 7), ((HB6.out.st (Chg.dr W2)).cell 8), ((HB6.out.st (Chg.dr W2)).cell 9), ((HB6.out.st (Chg.dr W2)).cell 10), ((HB6.out.st (Chg.dr W2)).cell 11)⟩ (fun hHeld => ?_)
              refine pure_ (i := 0) (N := some 45) (v := ?_) (a' := ?_) #[true, false, false, false, false, false, false, false, false, false, false, false, false] rfl rfl (by kernel_rfl) (fun _ _ _ h => h) (Or.inl ⟨by rfl, ?_⟩) ?_ ?_
              rotate_left
              · intro w'
                go_simp
                with_reducible rfl
              rotate_left
              · simp only [Act.put, List.setIfInBounds_toArray, List.set_cons_zero, List.set_cons_succ]
                rfl
              refine pure_ (i := 1) (N := some 46) (v := ?_) (a' := ?_) #[true, true, false, false, false, false, false, false, false, false, false, false, false] rfl rfl (by kernel_rfl) (fun _ _ _ h => h) (Or.inl ⟨by rfl, ?_⟩) ?_ ?_
              rotate_left
              · intro w'
                go_simp
                with_reducible rfl
              rotate_left
              · simp only [Act.put, List.setIfInBounds_toArray, List.set_cons_zero, List.set_cons_succ]
                rfl
              refine pure_ (i := 3) (N := some 48) (v := ?_) (a' := ?_) #[true, true, false, true, false, false, false, false, false, false, false, false, false] rfl rfl (by kernel_rfl) (fun _ _ _ h => h) (Or.inl ⟨by rfl, ?_⟩) ?_ ?_
              rotate_left
              · intro w'
                go_simp
                with_reducible rfl
              rotate_left
              · simp only [Act.put, List.setIfInBounds_toArray, List.set_cons_zero, List.set_cons_succ]
                rfl
              refine pure_ (i := 6) (N := some 51) (v := ?_) (a' := ?_) #[true, true, false, true, false, false, true, false, false, false, false, false, false] rfl rfl (by kernel_rfl) (fun _ _ _ h => h) (Or.inl ⟨by rfl, ?_⟩) ?_ ?_
              rotate_left
              · intro w'
                go_simp
                with_reducible rfl
              rotate_left
              · simp only [Act.put, List.setIfInBounds_toArray, List.set_cons_zero, List.set_cons_succ]
                rfl
              refine pure_ (i := 7) (N := some 52) (v := ?_) (a' := ?_) #[true, true, false, true, false, false, true, true, false, false, false, false, false] rfl rfl (by kernel_rfl) (fun _ _ _ h => h) (Or.inl ⟨by rfl, ?_⟩) ?_ ?_
              rotate_left
              · intro w'
                go_simp
                with_reducible rfl
              rotate_left
              · simp only [Act.put, List.setIfInBounds_toArray, List.set_cons_zero, List.set_cons_succ]
                rfl
              refine pure_ (i := 9) (N := some 54) (v := ?_) (a' := ?_) #[true, true, false, true, false, false, true, true, false, true, false, false, false] rfl rfl (by kernel_rfl) (fun _ _ _ h => h) (Or.inl ⟨by rfl, ?_⟩) ?_ ?_
              rotate_left
              · intro w'
                go_simp
                with_reducible rfl
              rotate_left
              · simp only [Act.put, List.setIfInBounds_toArray, List.set_cons_zero, List.set_cons_succ]
                rfl
              refine take_ (i := 2) (N := some 47) (v := ?_) (a' := ?_) #[true, true, true, true, false, false, true, true, false, true, false, false, false] rfl rfl (by kernel_rfl) (fun _ _ _ h => h) (Or.inl ⟨by rfl, ?_⟩) hHeld ?_ ?_
              rotate_left
              · rintro w' ⟨s0, s1, s2, s3, s4, s5, s6, s7, s8, s9, s10, s11⟩
                go_simp
                with_reducible rfl
              rotate_left
              · simp only [Act.put, List.setIfInBounds_toArray, List.set_cons_zero, List.set_cons_succ]
                rfl
              refine take_ (i := 4) (N := some 49) (v := ?_) (a' := ?_) #[true, true, true, true, true, false, true, true, false, true, false, false, false] rfl rfl (by kernel_rfl) (fun _ _ _ h => h) (Or.inl ⟨by rfl, ?_⟩) hHeld ?_ ?_
              rotate_left
              · rintro w' ⟨s0, s1, s2, s3, s4, s5, s6, s7, s8, s9, s10, s11⟩
                go_simp
                with_reducible rfl
              rotate_left
              · simp only [Act.put, List.setIfInBounds_toArray, List.set_cons_zero, List.set_cons_succ]
                rfl
              refine take_ (i := 8) (N := some 53) (v := ?_) (a' := ?_) #[true, true, true, true, true, false, true, true, true, true, false, false, false] rfl rfl (by kernel_rfl) (fun _ _ _ h => h) (Or.inl ⟨by rfl, ?_⟩) hHeld ?_ ?_
              rotate_left
              · rintro w' ⟨s0, s1, s2, s3, s4, s5, s6, s7, s8, s9, s10, s11⟩
                go_simp
                with_reducible rfl
              rotate_left
              · simp only [Act.put, List.setIfInBounds_toArray, List.set_cons_zero, List.set_cons_succ]
                rfl
              refine take_ (i := 10) (N := some 55) (v := ?_) (a' := ?_) #[true, true, true, true, true, false, true, true, true, true, true, false, false] rfl rfl (by kernel_rfl) (fun _ _ _ h => h) (Or.inl ⟨by rfl, ?_⟩) hHeld ?_ ?_
              rotate_left
              · rintro w' ⟨s0, s1, s2, s3, s4, s5, s6, s7, s8, s9, s10, s11⟩
                go_simp
                with_reducible rfl
              rotate_left
              · simp only [Act.put, List.setIfInBounds_toArray, List.set_cons_zero, List.set_cons_succ]
                rfl
              refine one_ (i := 5) (N := some 50) #[true, true, true, true, true, true, true, true, true, true, true, false, false] rfl rfl (by kernel_rfl) (by decide) (fun K hK => ?_)
              refine goes_ Try.func10 (by kernel_rfl) rfl #[.pointer (some ⟨g, 0, none⟩), msv (mgx c.m (.slice pe c.m.es.length ce) (.slice pd c.m.ds.length cd) (.slice ps c.m.ms.length cs)), .int .i64 c.ur] (by rfl) rfl rfl (by simp only [List.map_toArray, List.map_cons, List.map_nil]; rfl) ?_
              with_reducible refine (HPut.out).mono ?_
              rintro e w5 ⟨rfl, y, s', w4, hq, hy, hC4, hC5, hs'⟩
              refine ⟨_, rfl, ?_⟩
              have HS5 := Lib.hid ((HS.out.st (Chg.dr W2)).put hC4 hy hC5 hq hs')
              have HB5 := Lib.hid (((HB6.out.st (Chg.dr W2)).st hC4).chg hC5 HBX.out.1)
              have HX5 := Lib.hid (((HX.out.st (Chg.dr W2)).st hC4).chg hC5 fun j hj _ hqq => by have := HS.out.foot hqq; omega)
              clear hq hy hC4 hC5 hs'
              refine hK.out _ _ ⟨(HB5.out.cell 0), (HB5.out.cell 1), (HB5.out.cell 2), (HB5.out.cell 3), (HB5.out.cell 4), (HB5.out.cell 5), (HB5.out.cell 6), (HB5.out.cell 7), (HB5.out.cell 8), (HB5.out.cell 9), (HB5.out.cell 10), (HB5.out.cell 11)⟩ (fun hHeld => ?_)
              clear hK K
              refine norm_ (a' := ?_) ?_ ?_
              rotate_left
              · show Act.put _ (some 50) _ = _
                simp only [Act.put, List.setIfInBounds_toArray, List.set_cons_zero, List.set_cons_succ]
                rfl
              refine one_ (i := 11) (N := some 56) #[true, true, true, true, true, true, true, true, true, true, true, true, false] rfl rfl (by kernel_rfl) (by decide) (fun K hK => ?_)
              refine goes_ Try.func19 (by kernel_rfl) rfl #[.pointer (some ⟨g2, 0, none⟩), msv (mgx c.m (.slice pe c.m.es.length ce) (.slice pd c.m.ds.length cd) (.slice ps c.m.ms.length cs)), .int .i64 c.ur] (by rfl) rfl rfl (by simp only [List.map_toArray, List.map_cons, List.map_nil]; rfl) ?_
              with_reducible refine ((rput_ok HS5.out.r (mgx c.m (.slice pe c.m.es.length ce) (.slice pd c.m.ds.length cd) (.slice ps c.m.ms.length cs)) c.ur (by have := HWl.out; omega) (by have := HWl.out; omega) HX5.out.one)).mono ?_
              rintro e w6 ⟨rfl, hT⟩
              refine ⟨_, rfl, ?_⟩
              obtain ⟨⟨s2', hr, hf⟩, hC6⟩ := hT
              have HS6 := Lib.hid (HS5.out.rturn hC6 hr (fun k hk => .inr (hf k hk)) (All2.push HS5.out.i HX5.out))
              have HB7 := Lib.hid (HB5.out.chg hC6 (by have := HBX.out.2; unfold Only; omega))
              clear hr hf hC6
              refine hK.out _ _ ⟨(HB7.out.cell 0), (HB7.out.cell 1), (HB7.out.cell 2), (HB7.out.cell 3), (HB7.out.cell 4), (HB7.out.cell 5), (HB7.out.cell 6), (HB7.out.cell 7), (HB7.out.cell 8), (HB7.out.cell 9), (HB7.out.cell 10), (HB7.out.cell 11)⟩ (fun hHeld => ?_)
              clear hK K
              refine norm_ (a' := ?_) ?_ ?_
              rotate_left
              · show Act.put _ (some 56) _ = _
                simp only [Act.put, List.setIfInBounds_toArray, List.set_cons_zero, List.set_cons_succ]
                rfl
              refine pure_ (i := 12) (N := some 57) (v := ?_) (a' := ?_) #[true, true, true, true, true, true, true, true, true, true, true, true, true] rfl rfl (by kernel_rfl) (fun _ _ _ h => h) (Or.inl ⟨by rfl, ?_⟩) ?_ ?_
              rotate_left
              · intro w'
                go_simp
                with_reducible rfl
              rotate_left
              · simp only [Act.put, List.setIfInBounds_toArray, List.set_cons_zero, List.set_cons_succ]
                rfl
              refine done_ (by kernel_rfl) ?_
              go_wp2_with fail
              go_meet
              case rel => exact ⟨rfl, now, s', s2', L ++ [(y, w3 c.ur)], L2 ++ [((mgx c.m (.slice pe c.m.es.length ce) (.slice pd c.m.ds.length cd) (.slice ps c.m.ms.length cs)), w3 c.ur)], P ++ [c.m], HS6, Lib.hid (HW.out.put y c.ur), Lib.hid (HWq.out.put _ _ _), ⟨hnow.1, by omega⟩, by simp; omega⟩
            · have HPut := Lib.hid (put_full_ft (HS.out.st (Chg.dr W2)).q (mgx c.m (.slice pe c.m.es.length ce) (.slice pd c.m.ds.length cd) (.slice ps c.m.ms.length cs)) c.ur (by omega) (by omega))
              refine start_ (n := 13) (S := fun w' => w'.cell? ⟨wr.heap.size, 0, none⟩ = some (.int .i64 c.do_) ∧ w'.cell? ⟨wr.heap.size, 1, none⟩ = some (.int .i64 c.ur) ∧ w'.cell? ⟨wr.heap.size, 2, none⟩ = some (.int .i64 c.m.k) ∧ w'.cell? ⟨wr.heap.size, 3, none⟩ = some (.int .i64 c.m.f) ∧ w'.cell? ⟨wr.heap.size, 4, none⟩ = some (.int .i64 c.m.t) ∧ w'.cell? ⟨wr.heap.size, 5, none⟩ = some (.int .i64 c.m.op) ∧ w'.cell? ⟨wr.heap.size, 6, none⟩ = some (.int .i64 c.m.fr) ∧ w'.cell? ⟨wr.heap.size, 7, none⟩ = some (.string c.m.key) ∧ w'.cell? ⟨wr.heap.size, 8, none⟩ = some (.int .i64 c.m.bk) ∧ w'.cell? ⟨wr.heap.size, 9, none⟩ = some (.slice pe c.m.es.length ce) ∧ w'.cell? ⟨wr.heap.size, 10, none⟩ = some (.slice pd c.m.ds.length cd) ∧ w'.cell? ⟨wr.heap.size, 11, none⟩ = some (.slice ps c.m.ms.length cs)) (ds := []) #[false, false, false, false, false, false, false, false, false, false, false, false, false] (by kernel_rfl) rfl rfl ⟨((HB6.out.st (Chg.dr W2)).cell 0), ((HB6.out.st (Chg.dr W2)).cell 1), ((HB6.out.st (Chg.dr W2)).cell 2), ((HB6.out.st (Chg.dr W2)).cell 3), ((HB6.out.st (Chg.dr W2)).cell 4), ((HB6.out.st (Chg.dr W2)).cell 5), ((HB6.out.st (Chg.dr W2)).cell 6), ((HB6.out.st (Chg.dr W2)).cell 7), ((HB6.out.st (Chg.dr W2)).cell 8), ((HB6.out.st (Chg.dr W2)).cell 9), ((HB6.out.st (Chg.dr W2)).cell 10), ((HB6.out.st (Chg.dr W2)).cell 11)⟩ (fun hHeld => ?_)
              refine pure_ (i := 0) (N := some 45) (v := ?_) (a' := ?_) #[true, false, false, false, false, false, false, false, false, false, false, false, false] rfl rfl (by kernel_rfl) (fun _ _ _ h => h) (Or.inl ⟨by rfl, ?_⟩) ?_ ?_
              rotate_left
              · intro w'
                go_simp
                with_reducible rfl
              rotate_left
              · simp only [Act.put, List.setIfInBounds_toArray, List.set_cons_zero, List.set_cons_succ]
                rfl
              refine pure_ (i := 1) (N := some 46) (v := ?_) (a' := ?_) #[true, true, false, false, false, false, false, false, false, false, false, false, false] rfl rfl (by kernel_rfl) (fun _ _ _ h => h) (Or.inl ⟨by rfl, ?_⟩) ?_ ?_
              rotate_left
              · intro w'
                go_simp
                with_reducible rfl
              rotate_left
              · simp only [Act.put, List.setIfInBounds_toArray, List.set_cons_zero, List.set_cons_succ]
                rfl
              refine pure_ (i := 3) (N := some 48) (v := ?_) (a' := ?_) #[true, true, false, true, false, false, false, false, false, false, false, false, false] rfl rfl (by kernel_rfl) (fun _ _ _ h => h) (Or.inl ⟨by rfl, ?_⟩) ?_ ?_
              rotate_left
              · intro w'
                go_simp
                with_reducible rfl
              rotate_left
              · simp only [Act.put, List.setIfInBounds_toArray, List.set_cons_zero, List.set_cons_succ]
                rfl
              refine pure_ (i := 6) (N := some 51) (v := ?_) (a' := ?_) #[true, true, false, true, false, false, true, false, false, false, false, false, false] rfl rfl (by kernel_rfl) (fun _ _ _ h => h) (Or.inl ⟨by rfl, ?_⟩) ?_ ?_
              rotate_left
              · intro w'
                go_simp
                with_reducible rfl
              rotate_left
              · simp only [Act.put, List.setIfInBounds_toArray, List.set_cons_zero, List.set_cons_succ]
                rfl
              refine pure_ (i := 7) (N := some 52) (v := ?_) (a' := ?_) #[true, true, false, true, false, false, true, true, false, false, false, false, false] rfl rfl (by kernel_rfl) (fun _ _ _ h => h) (Or.inl ⟨by rfl, ?_⟩) ?_ ?_
              rotate_left
              · intro w'
                go_simp
                with_reducible rfl
              rotate_left
              · simp only [Act.put, List.setIfInBounds_toArray, List.set_cons_zero, List.set_cons_succ]
                rfl
              refine pure_ (i := 9) (N := some 54) (v := ?_) (a' := ?_) #[true, true, false, true, false, false, true, true, false, true, false, false, false] rfl rfl (by kernel_rfl) (fun _ _ _ h => h) (Or.inl ⟨by rfl, ?_⟩) ?_ ?_
              rotate_left
              · intro w'
                go_simp
                with_reducible rfl
              rotate_left
              · simp only [Act.put, List.setIfInBounds_toArray, List.set_cons_zero, List.set_cons_succ]
                rfl
              refine take_ (i := 2) (N := some 47) (v := ?_) (a' := ?_) #[true, true, true, true, false, false, true, true, false, true, false, false, false] rfl rfl (by kernel_rfl) (fun _ _ _ h => h) (Or.inl ⟨by rfl, ?_⟩) hHeld ?_ ?_
              rotate_left
              · rintro w' ⟨s0, s1, s2, s3, s4, s5, s6, s7, s8, s9, s10, s11⟩
                go_simp
                with_reducible rfl
              rotate_left
              · simp only [Act.put, List.setIfInBounds_toArray, List.set_cons_zero, List.set_cons_succ]
                rfl
              refine take_ (i := 4) (N := some 49) (v := ?_) (a' := ?_) #[true, true, true, true, true, false, true, true, false, true, false, false, false] rfl rfl (by kernel_rfl) (fun _ _ _ h => h) (Or.inl ⟨by rfl, ?_⟩) hHeld ?_ ?_
              rotate_left
              · rintro w' ⟨s0, s1, s2, s3, s4, s5, s6, s7, s8, s9, s10, s11⟩
                go_simp
                with_reducible rfl
              rotate_left
              · simp only [Act.put, List.setIfInBounds_toArray, List.set_cons_zero, List.set_cons_succ]
                rfl
              refine take_ (i := 8) (N := some 53) (v := ?_) (a' := ?_) #[true, true, true, true, true, false, true, true, true, true, false, false, false] rfl rfl (by kernel_rfl) (fun _ _ _ h => h) (Or.inl ⟨by rfl, ?_⟩) hHeld ?_ ?_
              rotate_left
              · rintro w' ⟨s0, s1, s2, s3, s4, s5, s6, s7, s8, s9, s10, s11⟩
                go_simp
                with_reducible rfl
              rotate_left
              · simp only [Act.put, List.setIfInBounds_toArray, List.set_cons_zero, List.set_cons_succ]
                rfl
              refine take_ (i := 10) (N := some 55) (v := ?_) (a' := ?_) #[true, true, true, true, true, false, true, true, true, true, true, false, false] rfl rfl (by kernel_rfl) (fun _ _ _ h => h) (Or.inl ⟨by rfl, ?_⟩) hHeld ?_ ?_
              rotate_left
              · rintro w' ⟨s0, s1, s2, s3, s4, s5, s6, s7, s8, s9, s10, s11⟩
                go_simp
                with_reducible rfl
              rotate_left
              · simp only [Act.put, List.setIfInBounds_toArray, List.set_cons_zero, List.set_cons_succ]
                rfl
              refine one_ (i := 5) (N := some 50) #[true, true, true, true, true, true, true, true, true, true, true, false, false] rfl rfl (by kernel_rfl) (by decide) (fun K hK => ?_)
              refine goes_ Try.func10 (by kernel_rfl) rfl #[.pointer (some ⟨g, 0, none⟩), msv (mgx c.m (.slice pe c.m.es.length ce) (.slice pd c.m.ds.length cd) (.slice ps c.m.ms.length cs)), .int .i64 c.ur] (by rfl) rfl rfl (by simp only [List.map_toArray, List.map_cons, List.map_nil]; rfl) ?_
              with_reducible refine (HPut.out).mono ?_
              rintro e w5 ⟨rfl, hq, hC5⟩
              refine ⟨_, rfl, ?_⟩
              have HS5 := Lib.hid ((HS.out.st (Chg.dr W2)).turn hC5 hq rfl (HS.out.st (Chg.dr W2)).l)
              have HB5 := Lib.hid ((HB6.out.st (Chg.dr W2)).chg hC5 HBX.out.1)
              clear hq hC5
              refine hK.out _ _ ⟨(HB5.out.cell 0), (HB5.out.cell 1), (HB5.out.cell 2), (HB5.out.cell 3), (HB5.out.cell 4), (HB5.out.cell 5), (HB5.out.cell 6), (HB5.out.cell 7), (HB5.out.cell 8), (HB5.out.cell 9), (HB5.out.cell 10), (HB5.out.cell 11)⟩ (fun hHeld => ?_)
              clear hK K
              refine norm_ (a' := ?_) ?_ ?_
              rotate_left
              · show Act.put _ (some 50) _ = _
                simp only [Act.put, List.setIfInBounds_toArray, List.set_cons_zero, List.set_cons_succ]
                rfl
              refine one_ (i := 11) (N := some 56) #[true, true, true, true, true, true, true, true, true, true, true, true, false] rfl rfl (by kernel_rfl) (by decide) (fun K hK => ?_)
              refine goes_ Try.func19 (by kernel_rfl) rfl #[.pointer (some ⟨g2, 0, none⟩), msv (mgx c.m (.slice pe c.m.es.length ce) (.slice pd c.m.ds.length cd) (.slice ps c.m.ms.length cs)), .int .i64 c.ur] (by rfl) rfl rfl (by simp only [List.map_toArray, List.map_cons, List.map_nil]; rfl) ?_
              with_reducible refine ((rput_full HS5.out.r (mgx c.m (.slice pe c.m.es.length ce) (.slice pd c.m.ds.length cd) (.slice ps c.m.ms.length cs)) c.ur (by have := HWl.out; omega) ⟨hnow.1, by omega⟩)).mono ?_
              rintro e w6 ⟨rfl, hr, hC6⟩
              refine ⟨_, rfl, ?_⟩
              have HS6 := Lib.hid (HS5.out.rturn hC6 hr (fun k hk => .inl hk) HS5.out.i)
              have HB7 := Lib.hid (HB5.out.chg hC6 (by have := HBX.out.2; unfold Only; omega))
              clear hr hC6
              refine hK.out _ _ ⟨(HB7.out.cell 0), (HB7.out.cell 1), (HB7.out.cell 2), (HB7.out.cell 3), (HB7.out.cell 4), (HB7.out.cell 5), (HB7.out.cell 6), (HB7.out.cell 7), (HB7.out.cell 8), (HB7.out.cell 9), (HB7.out.cell 10), (HB7.out.cell 11)⟩ (fun hHeld => ?_)
              clear hK K
              refine norm_ (a' := ?_) ?_ ?_
              rotate_left
              · show Act.put _ (some 56) _ = _
                simp only [Act.put, List.setIfInBounds_toArray, List.set_cons_zero, List.set_cons_succ]
                rfl
              refine pure_ (i := 12) (N := some 57) (v := ?_) (a' := ?_) #[true, true, true, true, true, true, true, true, true, true, true, true, true] rfl rfl (by kernel_rfl) (fun _ _ _ h => h) (Or.inl ⟨by rfl, ?_⟩) ?_ ?_
              rotate_left
              · intro w'
                go_simp
                with_reducible rfl
              rotate_left
              · simp only [Act.put, List.setIfInBounds_toArray, List.set_cons_zero, List.set_cons_succ]
                rfl
              refine done_ (by kernel_rfl) ?_
              go_wp2_with fail
              go_meet
              case rel => exact ⟨rfl, now + 1, s, s2, L, L2, P, HS6, Lib.hid HW.out.up, HWq, ⟨by omega, by omega⟩, by omega⟩
        | false =>
          obtain ⟨x2, hx2⟩ : ∃ x, (c.do_ == 1) = x := ⟨_, rfl⟩
          clear HLt
          have HB6_ := HB6
          cases x2 with
          | false =>
            go_wp2_with fail
            refine (tick_ft HS.out.q (fun p hp => by have := HW.out p hp; omega) (by omega)).mono ?_
            rintro e w3 ⟨rfl, hq, hC⟩
            have HS3 := Lib.hid (HS.out.tick hC hq)
            clear hq hC
            go_wp2_with fail
            refine (rtick_any HS3.out.r (fun p hp => by
              obtain ⟨j, hj, rfl⟩ := List.getElem_of_mem hp
              have h1 := HWq.out.wts j
              rw [wt_at L2 hj, wt_at L (by have := HWl.out; omega)] at h1
              have := HW.out _ (List.getElem_mem (show j < L.length by have := HWl.out; omega))
              omega) (by have := HWl.out; omega)).mono ?_
            rintro e w4 ⟨rfl, hT⟩
            obtain ⟨⟨s2', hr, hf⟩, hC⟩ := hT
            have HS4 := Lib.hid (HS3.out.rturn hC hr (fun k hk => .inr (hf k hk)) (All2.map_of (f := bp) (T := fun p m => MR w3 (fun k => k < w.heap.size) m p.1) (HS3.out.i.mono fun _ _ k => k)))
            clear hr hf hC
            go_wp2_with fail
            go_meet
            case rel => exact ⟨rfl, now, s, s2', L.map bp, L2.map bp, P, HS4, Lib.hid HW.out.tick, Lib.hid HWq.out.tick, ⟨hnow.1, by omega⟩, by rw [List.length_map]; omega⟩
          | true =>
            clear c0 c1 c2 c3 c4 c5 c6 c7 c8 c9 c10 c11 HX HB6 HBX
            by_cases hL0 : L.length = 0
            · have hL : L = [] := List.length_eq_zero_iff.1 hL0
              have hL2 : L2 = [] := List.length_eq_zero_iff.1 (by have := HWl.out; omega)
              subst hL hL2
              have c0 := HB6_.out.cell 0
              go_wp2_with fail
              refine (take_empty_no HS.out.q).mono ?_
              rintro e w3 ⟨rfl, hC3⟩
              go_wp2_with fail
              have hAl := hC3.trans (Chg.al w3 (.cells (mc msz) 31))
              have HB9 := Lib.hid (Blk.new w3 31 (mc msz))
              replace HS := Lib.hid (HS.out.st hAl)
              clear hAl hC3 c0
              generalize w3.alloc (Obj.cells (mc msz) 31) = W3 at *
              refine (rtake_empty HS.out.r).mono ?_
              rintro e w4 ⟨rfl, hC4⟩
              replace HS := Lib.hid (HS.out.st hC4)
              have hB9 := HB9.out.st hC4
              have hB9l := hB9.lt
              obtain ⟨d0, d1, d2, d3, d4, d5, d6, d7, d8, d9⟩ := cells10 hB9
              go_wp2_with fail
              have hAl := Chg.al w4 (.cells (mc msz) 31)
              replace HS := Lib.hid (HS.out.st hAl)
              clear hAl d0 d1 d2 d3 d4 d5 d6 d7 d8 d9 hB9
              generalize w4.alloc (Obj.cells (mc msz) 31) = W5 at *
              refine (sameM_any mg0 mg0 msz msz (mr0 W5 fun _ => True) (mr0 W5 fun _ => True)).mono ?_
              rintro e w6 ⟨rfl, hC6⟩
              rw [decide_eq_true (sameM_refl mg0)]
              replace HS := Lib.hid (HS.out.st hC6)
              clear hC6
              go_wp2_with fail
              go_meet
              case rel => exact ⟨rfl, now, s, s2, [], [], P, HS, Lib.hid HW.out.up, HWq, ⟨hnow.1, by omega⟩, by simp⟩
            · have c0 := HB6_.out.cell 0
              go_wp2_with fail
              clear c0
              refine (take_ft HS.out.q (by omega) (by omega)).mono ?_
              rintro e w3 ⟨⟨b', hb', hbst, rfl, s', hq, hs'⟩, hC⟩
              have hbP : b' < P.length := by rw [← HS.out.l.length]; exact hb'
              have hmx := HS.out.took hC hs' hb' hbP
              have HS3 := Lib.hid (HS.out.take hC hq hs')
              have HBst := Lib.hid hbst
              have HW3 : Hid (Wb (L.eraseIdx b') (k + 1)) := Lib.hid fun p hp => HW.out.up p (List.mem_of_mem_eraseIdx hp)
              have hEl : (L.eraseIdx b').length ≤ k + 1 := by rw [List.length_eraseIdx_of_lt hb']; omega
              obtain ⟨u, hu⟩ : ∃ u, P[b'] = u := ⟨_, rfl⟩
              rw [hu] at hmx
              have HU := Lib.hid hu
              obtain ⟨ue, ud, us, hxe, h1, h2, h3⟩ := hmx.ex
              obtain ⟨ue1, ue2, rfl, _⟩ := ens_form h1
              obtain ⟨ud1, ud2, rfl, _⟩ := dgs_form h2
              obtain ⟨us1, us2, rfl, _⟩ := prs_form h3
              rw [hxe]
              have HM3 := Lib.hid (hxe ▸ hmx)
              clear hq hC hs' hbst hmx h1 h2 h3 hxe HS hu
              go_wp2_with fail
              have hAl := Chg.al w3 (.cells (mc (mgx u (.slice ue1 u.es.length ue2) (.slice ud1 u.ds.length ud2) (.slice us1 u.ms.length us2))) 31)
              have HB9 := Lib.hid (Blk.new w3 31 (mc (mgx u (.slice ue1 u.es.length ue2) (.slice ud1 u.ds.length ud2) (.slice us1 u.ms.length us2))))
              replace HM3 := Lib.hid (HM3.out.st hAl)
              have HX3 := Lib.hid (show g2 < w3.heap.size from HS3.out.lts.2.2.2.1)
              replace HS3 := Lib.hid (HS3.out.st hAl)
              clear hAl
              generalize w3.alloc (Obj.cells _ 31) = W3 at *
              refine (rtake_some HS3.out.r (by have := HWl.out; omega) (by have := HWl.out; omega)).mono ?_
              rintro e w4 ⟨⟨b2, hb2, hbst2, rfl, hT⟩⟩
              obtain rfl : b2 = b' := HWq.out.same HBst.out hbst2 hb' hb2
              have hin := HS3.out.i.get hb2 hbP
              rw [HU.out] at hin
              obtain ⟨⟨s2', hr, hf⟩, hC4⟩ := hT
              have hgm := HS3.out.ga.2.1
              have hin4 := hin.chg hC4 (fun j hj _ hq => by unfold Only at hq; omega)
              have HM4 := Lib.hid (HM3.out.chg hC4 fun j hj _ hq => hj.2.2.2.2 hq)
              have HS4 := Lib.hid (HS3.out.rturn hC4 hr (fun k hk => .inr (hf k hk)) (HS3.out.i.erase b2))
              have hB9 := HB9.out.chg hC4 (by have := HX3.out; unfold Only; omega)
              obtain ⟨ve, vd, vs, hye, h1, h2, h3⟩ := hin4.ex
              obtain ⟨ve1, ve2, rfl, _⟩ := ens_form h1
              obtain ⟨vd1, vd2, rfl, _⟩ := dgs_form h2
              obtain ⟨vs1, vs2, rfl, _⟩ := prs_form h3
              rw [hye]
              have HN4 := Lib.hid (hye ▸ hin4)
              have hB9l := hB9.lt
              obtain ⟨d0, d1, d2, d3, d4, d5, d6, d7, d8, d9⟩ := cells10 hB9
              clear hr hf hC4 hin hin4 h1 h2 h3 hye HM3 HS3 hbst2 HBst HU
              go_wp2_with fail
              have hAl := Chg.al w4 (.cells (mc (mgx u (.slice ve1 u.es.length ve2) (.slice vd1 u.ds.length vd2) (.slice vs1 u.ms.length vs2))) 31)
              replace HS4 := Lib.hid (HS4.out.st hAl)
              replace HM4 := Lib.hid (HM4.out.st hAl)
              replace HN4 := Lib.hid (HN4.out.st hAl)
              clear hAl d0 d1 d2 d3 d4 d5 d6 d7 d8 d9 hB9
              generalize w4.alloc (Obj.cells _ 31) = W5 at *
              refine (sameM_any u u _ _ HM4.out HN4.out).mono ?_
              rintro e w6 ⟨rfl, hC6⟩
              rw [decide_eq_true (sameM_refl u)]
              replace HS4 := Lib.hid (HS4.out.st hC6)
              clear hC6
              go_wp2_with fail
              go_meet
              case rel => exact ⟨rfl, now, s', s2', _, _, _, HS4, HW3, Lib.hid (HWq.out.erase b2), ⟨hnow.1, by omega⟩, hEl⟩
      case rest =>
        obtain ⟨rfl, now', s', s2', L', L2', P', HS', HW', HWq', hnow', hLk'⟩ := hcut
        clear HS HW HWq HX HB6 HBX HLt c0 c1 c2 c3 c4 c5 c6 c7 c8 c9 c10 c11
        obtain ⟨p2, cap2, rfl, _⟩ := own_form HS'.out.r.own
        rw [HWq'.out.length] at HS'
        go_upto_region 18 with fail
        have KL := Lib.hid fun w' (hC : Chg NoB wc w') => len_any (HS'.out.st hC).q
        have KR := Lib.hid fun w' (hC : Chg NoB wc w') => refused_any (HS'.out.st hC).q
        have KB := Lib.hid fun w' (hC : Chg NoB wc w') => (HS'.out.r.st hC).blk
        have hne1 : ((L'.length : Int) != L'.length) = false := by simp
        have hne2 : (now' != now') = false := by simp
        refine q_start (by kernel_rfl) (by kernel_rfl) ?_
        refine q_on (v := ?_) (by rfl) ?_ ?_
        rotate_left
        · intro w' hC
          go_simp
          with_reducible rfl
        rotate_left
        refine q_norm (a' := ?_) ?_ ?_
        rotate_left
        · show Act.put _ (some 81) _ = _
          simp only [Act.put, List.setIfInBounds_toArray, List.set_cons_zero, List.set_cons_succ]
          rfl
        refine q_call (f := 15) Try.func15 (by kernel_rfl) rfl #[.pointer (some ⟨g, 0, none⟩)] (by rfl) rfl (by simp only [List.map_toArray, List.map_cons, List.map_nil]; rfl) _ (fun w' hC => (KL.out w' hC).mono fun e w'' ⟨he, hw⟩ => ⟨he, hw ▸ hC⟩) ?_
        refine q_norm (a' := ?_) ?_ ?_
        rotate_left
        · show Act.put _ (some 82) _ = _
          simp only [Act.put, List.setIfInBounds_toArray, List.set_cons_zero, List.set_cons_succ]
          rfl
        refine q_on (v := ?_) (by rfl) ?_ ?_
        rotate_left
        · intro w' hC
          go_simp
          with_reducible rfl
        rotate_left
        refine q_norm (a' := ?_) ?_ ?_
        rotate_left
        · show Act.put _ (some 83) _ = _
          simp only [Act.put, List.setIfInBounds_toArray, List.set_cons_zero, List.set_cons_succ]
          rfl
        refine q_on (v := ?_) (by rfl) ?_ ?_
        rotate_left
        · intro w' hC
          go_simp
          with_reducible rfl
        rotate_left
        refine q_norm (a' := ?_) ?_ ?_
        rotate_left
        · show Act.put _ (some 84) _ = _
          simp only [Act.put, List.setIfInBounds_toArray, List.set_cons_zero, List.set_cons_succ]
          rfl
        refine q_on (v := ?_) (by rfl) ?_ ?_
        rotate_left
        · intro w' hC
          go_simp
          with_reducible rfl
        rotate_left
        refine q_norm (a' := ?_) ?_ ?_
        rotate_left
        · show Act.put _ (some 85) _ = _
          simp only [Act.put, List.setIfInBounds_toArray, List.set_cons_zero, List.set_cons_succ]
          rfl
        refine q_on (v := ?_) (by rfl) ?_ ?_
        rotate_left
        · intro w' hC
          have k0 := (KB.out w' hC).cell 0
          go_simp
          with_reducible rfl
        rotate_left
        refine q_norm (a' := ?_) ?_ ?_
        rotate_left
        · show Act.put _ (some 86) _ = _
          simp only [Act.put, List.setIfInBounds_toArray, List.set_cons_zero, List.set_cons_succ]
          rfl
        refine q_on (v := ?_) (by rfl) ?_ ?_
        rotate_left
        · intro w' hC
          go_simp
          with_reducible rfl
        rotate_left
        refine q_norm (a' := ?_) ?_ ?_
        rotate_left
        · show Act.put _ (some 87) _ = _
          simp only [Act.put, List.setIfInBounds_toArray, List.set_cons_zero, List.set_cons_succ]
          rfl
        refine q_on (v := ?_) (by rfl) ?_ ?_
        rotate_left
        · intro w' hC
          go_simp
          with_reducible rfl
        rotate_left
        refine q_norm (a' := ?_) ?_ ?_
        rotate_left
        · show Act.put _ (some 88) _ = _
          simp only [Act.put, List.setIfInBounds_toArray, List.set_cons_zero, List.set_cons_succ]
          rfl
        refine q_on (v := ?_) (by rfl) ?_ ?_
        rotate_left
        · intro w' hC
          go_simp
          with_reducible rfl
        rotate_left
        refine q_norm (a' := ?_) ?_ ?_
        rotate_left
        · show Act.put _ (some 89) _ = _
          simp only [Act.put, List.setIfInBounds_toArray, List.set_cons_zero, List.set_cons_succ]
          rfl
        refine q_on (v := ?_) (by rfl) ?_ ?_
        rotate_left
        · intro w' hC
          go_simp
          with_reducible rfl
        rotate_left
        refine q_norm (a' := ?_) ?_ ?_
        rotate_left
        · show Act.put _ (some 90) _ = _
          simp only [Act.put, List.setIfInBounds_toArray, List.set_cons_zero, List.set_cons_succ]
          rfl
        refine q_call (f := 22) Try.func22 (by kernel_rfl) rfl #[.pointer (some ⟨g, 0, none⟩)] (by rfl) rfl (by simp only [List.map_toArray, List.map_cons, List.map_nil]; rfl) _ (fun w' hC => (KR.out w' hC).mono fun e w'' ⟨he, hw⟩ => ⟨he, hw ▸ hC⟩) ?_
        refine q_norm (a' := ?_) ?_ ?_
        rotate_left
        · show Act.put _ (some 91) _ = _
          simp only [Act.put, List.setIfInBounds_toArray, List.set_cons_zero, List.set_cons_succ]
          rfl
        refine q_on (v := ?_) (by rfl) ?_ ?_
        rotate_left
        · intro w' hC
          go_simp
          with_reducible rfl
        rotate_left
        refine q_norm (a' := ?_) ?_ ?_
        rotate_left
        · show Act.put _ (some 92) _ = _
          simp only [Act.put, List.setIfInBounds_toArray, List.set_cons_zero, List.set_cons_succ]
          rfl
        refine q_on (v := ?_) (by rfl) ?_ ?_
        rotate_left
        · intro w' hC
          go_simp
          with_reducible rfl
        rotate_left
        refine q_norm (a' := ?_) ?_ ?_
        rotate_left
        · show Act.put _ (some 93) _ = _
          simp only [Act.put, List.setIfInBounds_toArray, List.set_cons_zero, List.set_cons_succ]
          rfl
        refine q_on (v := ?_) (by rfl) ?_ ?_
        rotate_left
        · intro w' hC
          go_simp
          with_reducible rfl
        rotate_left
        refine q_norm (a' := ?_) ?_ ?_
        rotate_left
        · show Act.put _ (some 94) _ = _
          simp only [Act.put, List.setIfInBounds_toArray, List.set_cons_zero, List.set_cons_succ]
          rfl
        refine q_on (v := ?_) (by rfl) ?_ ?_
        rotate_left
        · intro w' hC
          have k2 := (KB.out w' hC).cell 2
          go_simp
          with_reducible rfl
        rotate_left
        refine q_norm (a' := ?_) ?_ ?_
        rotate_left
        · show Act.put _ (some 95) _ = _
          simp only [Act.put, List.setIfInBounds_toArray, List.set_cons_zero, List.set_cons_succ]
          rfl
        refine q_on (v := ?_) (by rfl) ?_ ?_
        rotate_left
        · intro w' hC
          go_simp
          with_reducible rfl
        rotate_left
        refine q_norm (a' := ?_) ?_ ?_
        rotate_left
        · show Act.put _ (some 96) _ = _
          simp only [Act.put, List.setIfInBounds_toArray, List.set_cons_zero, List.set_cons_succ]
          rfl
        refine q_on (v := ?_) (by rfl) ?_ ?_
        rotate_left
        · intro w' hC
          go_simp
          with_reducible rfl
        rotate_left
        refine q_norm (a' := ?_) ?_ ?_
        rotate_left
        · show Act.put _ (some 97) _ = _
          simp only [Act.put, List.setIfInBounds_toArray, List.set_cons_zero, List.set_cons_succ]
          rfl
        refine wpQuiet_nil ?_
        intro w' hC
        have HS6 := Lib.hid (HS'.out.st hC)
        clear KL KR KB HS' hC
        go_wp2_with fail
        go_roundw
        case rel => exact ⟨k + 1, now', s', _, L', L2', P', by omega, by omega, by go_num, HS6, HW', HWq', ⟨hnow'.1, by omega⟩, hLk'⟩
        case measure => simp [intOf]; omega
    · by_cases hlt : k < l.length
      · have hk2 : decide ((k : Int) < (l.length : Int)) = true := by simp; omega
        have hk3 : decide ((k : Int) < 120) = false := by simp; omega
        go_wp2_with fail
        refine (awake_any _).mono ?_
        rintro e w4 ⟨rfl, hC⟩
        have HC2 := Lib.hid (HS.out.c.trans hC)
        clear hC
        go_wp2_with fail
        go_ret
        exact ⟨rfl, HC2.out⟩
      · have hk2 : decide ((k : Int) < (l.length : Int)) = false := by simp; omega
        go_wp2_with fail
        refine (awake_any _).mono ?_
        rintro e w4 ⟨rfl, hC⟩
        have HC2 := Lib.hid (HS.out.c.trans hC)
        clear hC
        go_wp2_with fail
        go_ret
        exact ⟨rfl, HC2.out⟩
theorem queuePlays_walk (mo : Int) (v : Value) (l : List Cl) (W : World) (_w1 : (Lit.int .i64 mo).wf = true) (w0 : Rd W (fun k => k < W.heap.size) (clsD l) v ∧ ∀ c ∈ l, Mv c.m) :
    Calls Try.prog 7 #[.int .i64 mo, v] W fun e w' => e = .returned (.bool true) ∧ Below W.heap.size W w' :=
  (queuePlays_any mo v l W w0.1 w0.2).mono fun _ _ ⟨h1, h2⟩ => ⟨h1, h2.below⟩
end Go.Proofs.Ytcefaohdikongaa
