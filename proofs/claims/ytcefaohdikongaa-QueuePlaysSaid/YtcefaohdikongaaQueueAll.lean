/- QueueAll: the walk. -/
import Derived.Test.YtcefaohdikongaaQAllSt
namespace Go.Proofs.Ytcefaohdikongaa
open Go.RowKit Go.Proofs.YtcefaohdikongaaW.PrintLast
attribute [local go_sem] max2_mx min2_mn max_two_ min_two_

abbrev clc (c : Cl) (e d s : Value) : Array Value := #[.int .i64 c.do_, .int .i64 c.ur, .int .i64 c.m.k, .int .i64 c.m.f, .int .i64 c.m.t, .int .i64 c.m.op, .int .i64 c.m.fr, .string c.m.key, .int .i64 c.m.bk, e, d, s]
theorem infMs : (Try.prog.info? 31).map (fun i => (i.zero, i.size, i.bytes)) = some (some (.agg (mc msz)), 10, 136) := by kernel_rfl
def ltM (m : Mg) : Bool := decide (m.es.length ≤ 3) && decide (m.ds.length ≤ 3) && decide (m.ms.length ≤ 10)
theorem ltM_mz {m : Mg} (h : ltM m = true) (hv : Mv m) : Mz m := by
  simp only [ltM, Bool.and_eq_true, decide_eq_true_eq] at h
  exact ⟨by omega, hv.ev, by omega, hv.dd, hv.ms⟩
/-- Weights that a few ticks allow. -/
def Wb (L : List (Ms × Int)) (k : Nat) : Prop := ∀ p ∈ L, 0 ≤ p.2 ∧ p.2 ≤ 12 + (k : Int)
theorem Wb.up {L : List (Ms × Int)} {k : Nat} (h : Wb L k) : Wb L (k + 1) := fun p hp => by have := h p hp; omega
theorem Wb.tick {L : List (Ms × Int)} {k : Nat} (h : Wb L k) : Wb (L.map bp) (k + 1) := fun p hp => by
  obtain ⟨q, hq, rfl⟩ := List.mem_map.1 hp
  have := h q hq
  simp only [bp]
  omega
theorem w3_in (u : Int) : 0 ≤ w3 u ∧ w3 u ≤ 12 := by unfold w3 mx mn; split <;> split <;> omega
theorem Wb.put {L : List (Ms × Int)} {k : Nat} (h : Wb L k) (y : Ms) (u : Int) : Wb (L ++ [(y, w3 u)]) (k + 1) := fun p hp => by
  rcases List.mem_append.1 hp with hp | hp
  · have := h p hp; omega
  · rw [List.mem_singleton.1 hp]
    have := w3_in u
    simp only
    omega
set_option maxRecDepth 100000 in
set_option maxHeartbeats 4000000 in
theorem queueAll_any (v : Value) (l : List Cl) (w : World) (hv : Rd w (fun k => k < w.heap.size) (clsD l) v) (hl : ∀ c ∈ l, Mv c.m) : Calls Try.prog 5 #[v] w fun e w' => e = .returned (.bool true) ∧ Chg NoB w w' := by
  obtain ⟨p, cap, rfl, hcap, hmax, hp⟩ := cls_form hv
  unfold maxLen at hmax
  have HV := Lib.hid hv
  have HL := Lib.hid hl
  clear hv hl
  go_enter Try.func5, Try.ntmps5
  go_wp2_with fail
  refine (new_any 50 _).mono ?_
  rintro e w1 ⟨⟨g, rfl, hq⟩, hC⟩
  have HS1 : Hid (St w w1 g (.slice none 0 0) (.slice none 0 0) 0 [] [] [] []) := Lib.hid ⟨hq, ⟨rfl, .inl ⟨rfl, rfl⟩⟩, fun k hk => absurd hk (by simp [Value.ownBlock]), hC, trivial, trivial⟩
  clear hq hC
  go_upto_block 0 with fail
  go_cut [4, 5, 6] from 15 (fun vv _ _ w' => ∃ (now : Int) (s : Value) (L : List (Ms × Int)) (I : List Ms) (P : List Mg), Hid (St w w' g s vv now L P I P) ∧ L.length ≤ 60)
  case first =>
    go_wp2_with fail
    go_loopw [4, 5] (fun vv i wr => ∃ (k : Nat) (now : Int) (s : Value) (L : List (Ms × Int)) (I : List Ms) (P : List Mg), k ≤ l.length ∧ k ≤ 60 ∧ i = .int .i64 k ∧ Hid (St w wr g s vv now L P I P) ∧ Hid (Wb L k) ∧ (0 ≤ now ∧ now ≤ k) ∧ L.length ≤ k) (fun _ i _ => l.length - (intOf i).toNat)
    case atStart => exact ⟨0, 0, _, [], [], [], Nat.zero_le _, Nat.zero_le _, rfl, HS1, Lib.hid (fun p hp => by cases hp), ⟨by decide, by decide⟩, Nat.le_refl _⟩
    case round =>
      clear HS1
      obtain ⟨k, now, s, L, I, P, hk, hk60, rfl, HS, HW, hnow, hLk⟩ := hrel
      by_cases hgo : k < l.length ∧ k < 60
      · obtain ⟨hlt, h60⟩ := hgo
        have hk2 : decide ((k : Int) < (l.length : Int)) = true := by simp; omega
        have hk3 : decide ((k : Int) < 60) = true := by simp; omega
        have hk4 : (k : Int) < (l.length : Int) := by omega
        obtain ⟨b, off, rfl, hA, hb⟩ := hp (by omega)
        have hb1 := Nat.lt_of_lt_of_le hb HS.out.c.size
        obtain ⟨e, d, ss, ⟨he, hd, hs⟩, hcs⟩ := cl_at (HV.out.st HS.out.c) hlt
        obtain ⟨pe, ce, rfl, _⟩ := ens_form he
        obtain ⟨pd, cd, rfl, _⟩ := dgs_form hd
        obtain ⟨ps, cs, rfl, _⟩ := prs_form hs
        have hmv := HL.out _ (List.getElem_mem hlt)
        generalize l[k] = c at *
        have c0_ : wr.cell? ⟨b, off + k * 12, none⟩ = some (.int .i64 c.do_) := hcs 0 (by decide)
        have c1_ : wr.cell? ⟨b, off + k * 12 + 1, none⟩ = some (.int .i64 c.ur) := hcs 1 (by decide)
        have c2_ : wr.cell? ⟨b, off + k * 12 + 2, none⟩ = some (.int .i64 c.m.k) := hcs 2 (by decide)
        have c3_ : wr.cell? ⟨b, off + k * 12 + 3, none⟩ = some (.int .i64 c.m.f) := hcs 3 (by decide)
        have c4_ : wr.cell? ⟨b, off + k * 12 + 4, none⟩ = some (.int .i64 c.m.t) := hcs 4 (by decide)
        have c5_ : wr.cell? ⟨b, off + k * 12 + 5, none⟩ = some (.int .i64 c.m.op) := hcs 5 (by decide)
        have c6_ : wr.cell? ⟨b, off + k * 12 + 6, none⟩ = some (.int .i64 c.m.fr) := hcs 6 (by decide)
        have c7_ : wr.cell? ⟨b, off + k * 12 + 7, none⟩ = some (.string c.m.key) := hcs 7 (by decide)
        have c8_ : wr.cell? ⟨b, off + k * 12 + 8, none⟩ = some (.int .i64 c.m.bk) := hcs 8 (by decide)
        have c9_ : wr.cell? ⟨b, off + k * 12 + 9, none⟩ = some (.slice pe c.m.es.length ce) := hcs 9 (by decide)
        have c10_ : wr.cell? ⟨b, off + k * 12 + 10, none⟩ = some (.slice pd c.m.ds.length cd) := hcs 10 (by decide)
        have c11_ : wr.cell? ⟨b, off + k * 12 + 11, none⟩ = some (.slice ps c.m.ms.length cs) := hcs 11 (by decide)
        have HX : Hid (MR wr (fun k => k < w.heap.size) c.m (mgx c.m (.slice pe c.m.es.length ce) (.slice pd c.m.ds.length cd) (.slice ps c.m.ms.length cs))) := Lib.hid ⟨_, _, _, rfl, he, hd, hs⟩
        have HMv := Lib.hid hmv
        clear hcs he hd hs hmv
        go_wp2_with fail
        have hAl := Chg.al wr (.cells (clc c (.slice pe c.m.es.length ce) (.slice pd c.m.ds.length cd) (.slice ps c.m.ms.length cs)) 44)
        have B6 := Blk.new wr 44 (clc c (.slice pe c.m.es.length ce) (.slice pd c.m.ds.length cd) (.slice ps c.m.ms.length cs))
        have hbx : ¬ Qp g w.heap.size s wr.heap.size := fun hq => by
          obtain ⟨h1, h2, h3, _⟩ := HS.out.lts
          rcases hq with h | h | h
          · omega
          · omega
          · have := h3 _ h; omega
        have HBX := Lib.hid hbx
        replace HX := Lib.hid (HX.out.st hAl)
        replace HS := Lib.hid (HS.out.st hAl)
        clear hbx hAl c0_ c1_ c2_ c3_ c4_ c5_ c6_ c7_ c8_ c9_ c10_ c11_
        generalize wr.alloc (Obj.cells _ 44) = W1 at *
        refine (light_any c.m _ _ _ HX.out).mono ?_
        rintro e w2 ⟨rfl, hC2⟩
        replace B6 := B6.st hC2
        replace HX := Lib.hid (HX.out.st hC2)
        replace HS := Lib.hid (HS.out.st hC2)
        have hL : ltM c.m = (decide (c.m.es.length ≤ 3) && decide (c.m.ds.length ≤ 3) && decide (c.m.ms.length ≤ 10)) := rfl
        rw [← hL]
        obtain ⟨x, hx⟩ : ∃ x, ltM c.m = x := ⟨_, rfl⟩
        rw [hx]
        clear hC2 hL
        have c0 := B6.cell 0
        have c1 := B6.cell 1
        have c2 := B6.cell 2
        have c3 := B6.cell 3
        have c4 := B6.cell 4
        have c5 := B6.cell 5
        have c6 := B6.cell 6
        have c7 := B6.cell 7
        have c8 := B6.cell 8
        have c9 := B6.cell 9
        have c10 := B6.cell 10
        have c11 := B6.cell 11
        have HB6 := Lib.hid B6
        clear B6
        cases x with
        | false =>
          go_wp2_with fail
          go_roundw
          case rel => exact ⟨k + 1, now, s, L, I, P, by omega, by omega, by go_num, HS, Lib.hid HW.out.up, ⟨hnow.1, by omega⟩, by omega⟩
          case measure => simp [intOf]; omega
        | true =>
          have HMz := Lib.hid (ltM_mz hx HMv.out)
          clear hx
          obtain ⟨y, hy⟩ : ∃ y, (c.do_ == 2) = y := ⟨_, rfl⟩
          cases y with
          | true =>
            go_wp2_with fail
            refine (tick_ft HS.out.q (fun p hp => by have := HW.out p hp; omega) (by omega)).mono ?_
            rintro e w3 ⟨rfl, hq, hC⟩
            have HS3 := Lib.hid (HS.out.tick hC hq)
            clear hq hC
            go_wp2_with fail
            go_roundw
            case rel => exact ⟨k + 1, now, s, L.map bp, I, P, by omega, by omega, by go_num, HS3, Lib.hid HW.out.tick, ⟨hnow.1, by omega⟩, by rw [List.length_map]; omega⟩
            case measure => simp [intOf]; omega
          | false =>
            by_cases hroom : L.length < 50
            · have hr50 : (L.length : Int) < 50 := by omega
              have HPut := Lib.hid (put_ft HS.out.q (mgx c.m (.slice pe c.m.es.length ce) (.slice pd c.m.ds.length cd) (.slice ps c.m.ms.length cs)) c.ur hr50 (by omega) (fun y w' => MR w' (New w2) c.m y) fun wc hwc => by
                obtain ⟨_, _, _, hxe, h1, h2, h3⟩ := (HX.out.st hwc).ex
                simp only [Ms.mk.injEq, true_and] at hxe
                obtain ⟨rfl, rfl, rfl⟩ := hxe
                exact (copied_any c.m _ _ _ h1 h2 h3 HMz.out).mono fun e w' ⟨⟨y, h1, h2⟩, h3⟩ => ⟨y, h1, h2.one, h2.mono fun k hk _ => Nat.le_trans hwc.size hk, h3⟩)
              clear hr50
              go_wp2_with fail
              refine HPut.out.mono ?_
              clear HPut
              rintro e w5 ⟨rfl, y, s', w4, hq, hy, hC4, hC5, hs'⟩
              replace HX := Lib.hid ((HX.out.st hC4).chg hC5 fun j hj _ hqq => by have := (HS.out.st hC4).foot hqq; omega)
              have HS5 := Lib.hid (HS.out.put hC4 hy hC5 hq hs')
              have B6 := (HB6.out.st hC4).chg hC5 HBX.out
              clear c0 c1 c2 c3 c4 c5 c6 c7 c8 c9 c10 c11
              have c0 := B6.cell 0
              have c1 := B6.cell 1
              have c2 := B6.cell 2
              have c3 := B6.cell 3
              have c4 := B6.cell 4
              have c5 := B6.cell 5
              have c6 := B6.cell 6
              have c7 := B6.cell 7
              have c8 := B6.cell 8
              have c9 := B6.cell 9
              have c10 := B6.cell 10
              have c11 := B6.cell 11
              clear B6 hq hy hC4 hC5 hs' HS
              obtain ⟨i9, hi9, z9, s9, y9⟩ := info_parts infMs
              have hIl : I.length ≤ 60 := by
                have h1 := HS5.out.l.length
                have h2 := HS5.out.i.length
                simp only [List.length_append, List.length_cons, List.length_nil] at h1 h2
                omega
              go_wp2_with (at_builtin; refine wpList_append_lies _ rfl _ _ _ rfl w.heap.size 31 i9 _ 10 136 Try.underlying42 hi9 z9 s9 y9 rfl (by omega) _ I.length (fm I) rfl (World.ownsRow.alloc HS5.out.own _) ⟨w5.heap.size, 0, none⟩ 1 1 (mc (mgx c.m (.slice pe c.m.es.length ce) (.slice pd c.m.ds.length cd) (.slice ps c.m.ms.length cs))).toList rfl rfl (World.news_of_block (cs := mc (mgx c.m (.slice pe c.m.es.length ce) (.slice pd c.m.ds.length cd) (.slice ps c.m.ms.length cs))) (t := 31) (fr := (0, 0)) (heap_alloc_new w5 _)) (fun u hu => HX.out.one u (by simpa using hu)) (by omega) (by unfold maxLen; omega) (by omega) (by have := HS5.out.c.size; simp; omega) (w5.heap.size + 1) (by simp) ?_)
              intro g3 cap3 w6 hown hgrow hat hlt6
              have HS6 := Lib.hid ((HS5.out.st (Chg.al w5 _)).push (HX.out.st (Chg.al w5 _)) (cgrown hgrow) hown fun j hj => by
                have hj' : g3 = j := Option.some.inj hj
                subst hj'
                rcases hat with hat | hat
                · exact .inl hat
                · exact .inr (by simp; omega))
              clear hown hgrow hat c0 c1 c2 c3 c4 c5 c6 c7 c8 c9 c10 c11
              go_wp2_with fail
              go_roundw
              case rel => exact ⟨k + 1, now, s', L ++ [(y, w3 c.ur)], _, P ++ [c.m], by omega, by omega, by go_num, HS6, Lib.hid (HW.out.put y c.ur), ⟨hnow.1, by omega⟩, by simp; omega⟩
              case measure => simp [intOf]; omega
            · have HPut := Lib.hid (put_full_ft HS.out.q (mgx c.m (.slice pe c.m.es.length ce) (.slice pd c.m.ds.length cd) (.slice ps c.m.ms.length cs)) c.ur (by omega) (by omega))
              go_wp2_with fail
              refine HPut.out.mono ?_
              clear HPut
              rintro e w5 ⟨rfl, hq, hC⟩
              have HS5 := Lib.hid (HS.out.full hC hq)
              clear hq hC
              go_wp2_with fail
              go_roundw
              case rel => exact ⟨k + 1, now + 1, s, L, I, P, by omega, by omega, by go_num, HS5, Lib.hid HW.out.up, ⟨by omega, by omega⟩, by omega⟩
              case measure => simp [intOf]; omega
      · by_cases hlt : k < l.length
        · have hk2 : decide ((k : Int) < (l.length : Int)) = true := by simp; omega
          have hk3 : decide ((k : Int) < 60) = false := by simp; omega
          go_wp2_with fail
          go_meet
          case rel => exact ⟨now, s, L, I, P, HS, by omega⟩
        · have hk2 : decide ((k : Int) < (l.length : Int)) = false := by simp; omega
          go_wp2_with fail
          go_meet
          case rel => exact ⟨now, s, L, I, P, HS, by omega⟩
  case rest =>
    clear HS1
    obtain ⟨now, s, L, I, P, HS, hLl⟩ := hcut
    obtain ⟨pv, cv, rfl, _⟩ := own_form HS.out.own
    have hIL : I.length = L.length := by rw [HS.out.i.length, HS.out.l.length]
    obtain ⟨N, hN⟩ : ∃ N, I.length = N := ⟨_, rfl⟩
    have HN := Lib.hid hN
    have hN60 : N ≤ 60 := by omega
    rw [hN] at HS hIL ⊢
    have HIL0 := Lib.hid hIL
    clear hIL hN
    go_wp2_with fail
    go_loopw [4, 53] (fun vv i wr => ∃ (j : Nat) (s : Value) (L : List (Ms × Int)) (P1 : List Mg) (I : List Ms) (P2 : List Mg), j ≤ N ∧ i = .int .i64 j ∧ Hid (St w wr g s vv now L P1 I P2) ∧ Hid (Alike P1 P2) ∧ Hid (I.length + j = N ∧ L.length + j = N)) (fun _ i _ => N - (intOf i).toNat)
    case atStart => exact ⟨0, s, L, P, I, P, Nat.zero_le _, rfl, HS, Lib.hid (Alike.refl P), Lib.hid ⟨HN.out, HIL0.out.symm⟩⟩
    case round =>
      clear HS HIL0 HN hLl
      obtain ⟨j, s, L, P1, I, P2, hj, rfl, HS, HAl, HIL⟩ := hrel
      obtain ⟨wo, rfl⟩ : ∃ wo : World, wo = wr := ⟨_, rfl⟩
      by_cases hlt : j < N
      · have hk2 : decide ((j : Int) < (N : Int)) = true := by simp; omega
        go_wp2_with fail
        refine (take_ft HS.out.q (by have := HIL.out; omega) (by have := HIL.out; omega)).mono ?_
        rintro e w2 ⟨⟨b, hb, _, rfl, s', hq, hs'⟩, hC⟩
        have hb' : b < P1.length := by rw [← HS.out.l.length]; exact hb
        have hmx := HS.out.took hC hs' hb hb'
        have HS2 := Lib.hid (HS.out.take hC hq hs')
        have HFi := Lib.hid (HAl.out.find hb')
        have HEr : Hid (∀ i (hi : i < P2.length), sameM P2[i] P1[b] → Alike (P1.eraseIdx b) (P2.eraseIdx i)) := Lib.hid fun i hi h => HAl.out.erase hb' hi h
        have HIL2 : Hid (I.length + j = N ∧ (L.eraseIdx b).length + (j + 1) = N) := Lib.hid ⟨HIL.out.1, by rw [List.length_eraseIdx_of_lt hb]; have := HIL.out.2; omega⟩
        generalize L.eraseIdx b = L' at *
        generalize P1.eraseIdx b = P1' at *
        generalize P1[b] = u at *
        obtain ⟨ue, ud, us, hxe, h1, h2, h3⟩ := hmx.ex
        obtain ⟨ue1, ue2, rfl, _⟩ := ens_form h1
        obtain ⟨ud1, ud2, rfl, _⟩ := dgs_form h2
        obtain ⟨us1, us2, rfl, _⟩ := prs_form h3
        rw [hxe]
        have HM2 : Hid (MR w2 (Dt g w.heap.size s' u4) u (mgx u (.slice ue1 u.es.length ue2) (.slice ud1 u.ds.length ud2) (.slice us1 u.ms.length us2))) := Lib.hid (hxe ▸ hmx)
        have hIpos : 0 < I.length := by have := HIL.out; omega
        obtain ⟨_, cv', rfl, hcv1, hcv2, hcell⟩ := own_form HS2.out.own
        obtain ⟨gv, rfl, hgv, _, hcell⟩ := hcell hIpos
        unfold maxLen at hcv2
        have HCell := Lib.hid hcell
        clear hcell hq hC hs' hb hb' hmx h1 h2 h3 hxe HS HAl HIL
        go_wp2_with fail
        have hAl := Chg.al w2 (.cells (mc (mgx u (.slice ue1 u.es.length ue2) (.slice ud1 u.ds.length ud2) (.slice us1 u.ms.length us2))) 31)
        have HB8 := Lib.hid (Blk.new w2 31 (mc (mgx u (.slice ue1 u.es.length ue2) (.slice ud1 u.ds.length ud2) (.slice us1 u.ms.length us2))))
        replace HM2 := Lib.hid (HM2.out.st hAl)
        replace HS2 := Lib.hid (HS2.out.st hAl)
        have hgv2 : gv < (w2.alloc (.cells (mc (mgx u (.slice ue1 u.es.length ue2) (.slice ud1 u.ds.length ud2) (.slice us1 u.ms.length us2))) 31)).heap.size := Nat.lt_of_lt_of_le hgv hAl.size
        replace HCell : Hid (∀ j, j < I.length * 10 → (w2.alloc (.cells (mc (mgx u (.slice ue1 u.es.length ue2) (.slice ud1 u.ds.length ud2) (.slice us1 u.ms.length us2))) 31)).cell? ⟨gv, j, none⟩ = (fm I)[j]?) := Lib.hid fun j hj => by
          obtain ⟨p, cc, he, _, _, hcc⟩ := own_form HS2.out.own
          obtain ⟨g', rfl, _, _, hcc⟩ := hcc hIpos
          simp only [Value.slice.injEq, Option.some.injEq, Addr.mk.injEq, and_true] at he
          obtain ⟨rfl, _⟩ := he
          exact (hcc j hj).1
        clear hAl hgv
        generalize w2.alloc (Obj.cells _ 31) = W3 at *
        go_loopw [10, 64] (fun a i wr => ∃ (n : Nat) (av : Int), n ≤ I.length ∧ i = .int .i64 n ∧ a = .int .i64 av ∧ Hid (AtR P2 u n av) ∧ Chg NoB W3 wr) (fun _ i _ => I.length - (intOf i).toNat)
        case atStart => exact ⟨0, -1, Nat.zero_le _, rfl, rfl, Lib.hid (AtR.zero _ _), Chg.refl _ _⟩
        case round =>
          obtain ⟨n, av, hn, rfl, rfl, HA, HC⟩ := hrel
          by_cases hln : n < I.length
          · have hn2 : n < P2.length := by rw [← HS2.out.i.length]; exact hln
            have hk3 : (n : Int) < (I.length : Int) := by omega
            have hin := (HS2.out.i.get hln hn2).st HC
            have hcs : ∀ j, j < 10 → wr.cell? ⟨gv, n * 10 + j, none⟩ = (mc I[n])[j]? := fun j hj => (HC.cell (p := ⟨gv, n * 10 + j, none⟩) hgv2 id).trans ((HCell.out (n * 10 + j) (by omega)).trans (fm_at I hln hj))
            obtain ⟨ie, id_, is_, hie, h1, h2, h3⟩ := hin.ex
            obtain ⟨ie1, ie2, rfl, _⟩ := ens_form h1
            obtain ⟨id1, id2, rfl, _⟩ := dgs_form h2
            obtain ⟨is1, is2, rfl, _⟩ := prs_form h3
            rw [hie] at hcs hin
            have HNo := Lib.hid fun (hs : ¬ sameM P2[n] u) => HA.out.no hn2 hs
            have HYe := Lib.hid fun (hs : sameM P2[n] u) => AtR.yes (n := n) hn2 hs
            have hgv3 := Nat.lt_of_lt_of_le hgv2 HC.size
            generalize P2[n] = y at *
            have c0_ : wr.cell? ⟨gv, n * 10, none⟩ = some (.int .i64 y.k) := hcs 0 (by decide)
            have c1_ : wr.cell? ⟨gv, n * 10 + 1, none⟩ = some (.int .i64 y.f) := hcs 1 (by decide)
            have c2_ : wr.cell? ⟨gv, n * 10 + 2, none⟩ = some (.int .i64 y.t) := hcs 2 (by decide)
            have c3_ : wr.cell? ⟨gv, n * 10 + 3, none⟩ = some (.int .i64 y.op) := hcs 3 (by decide)
            have c4_ : wr.cell? ⟨gv, n * 10 + 4, none⟩ = some (.int .i64 y.fr) := hcs 4 (by decide)
            have c5_ : wr.cell? ⟨gv, n * 10 + 5, none⟩ = some (.string y.key) := hcs 5 (by decide)
            have c6_ : wr.cell? ⟨gv, n * 10 + 6, none⟩ = some (.int .i64 y.bk) := hcs 6 (by decide)
            have c7_ : wr.cell? ⟨gv, n * 10 + 7, none⟩ = some (.slice ie1 y.es.length ie2) := hcs 7 (by decide)
            have c8_ : wr.cell? ⟨gv, n * 10 + 8, none⟩ = some (.slice id1 y.ds.length id2) := hcs 8 (by decide)
            have c9_ : wr.cell? ⟨gv, n * 10 + 9, none⟩ = some (.slice is1 y.ms.length is2) := hcs 9 (by decide)
            have d0 := (HB8.out.st HC).cell 0
            have d1 := (HB8.out.st HC).cell 1
            have d2 := (HB8.out.st HC).cell 2
            have d3 := (HB8.out.st HC).cell 3
            have d4 := (HB8.out.st HC).cell 4
            have d5 := (HB8.out.st HC).cell 5
            have d6 := (HB8.out.st HC).cell 6
            have d7 := (HB8.out.st HC).cell 7
            have d8 := (HB8.out.st HC).cell 8
            have d9 := (HB8.out.st HC).cell 9
            have hB8lt := (HB8.out.st HC).lt
            clear hcs h1 h2 h3 hie
            go_upto_region 22 with fail
            have hAl := Chg.al wr (.cells (mc (mgx y (.slice ie1 y.es.length ie2) (.slice id1 y.ds.length id2) (.slice is1 y.ms.length is2))) 31)
            have B12 := Blk.new wr 31 (mc (mgx y (.slice ie1 y.es.length ie2) (.slice id1 y.ds.length id2) (.slice is1 y.ms.length is2)))
            have B8 := (HB8.out.st HC).st hAl
            have HSa := Lib.hid (sameM_any y u _ _ (hin.st hAl) ((HM2.out.st HC).st hAl))
            replace HC := HC.trans hAl
            clear c0_ c1_ c2_ c3_ c4_ c5_ c6_ c7_ c8_ c9_ d0 d1 d2 d3 d4 d5 d6 d7 d8 d9 hAl hin
            generalize wr.alloc (Obj.cells _ 31) = W4 at *
            obtain ⟨c0, c1, c2, c3, c4, c5, c6, c7, c8, c9⟩ := cells10 B12
            obtain ⟨d0, d1, d2, d3, d4, d5, d6, d7, d8, d9⟩ := cells10 B8
            obtain ⟨x, hx⟩ : ∃ x, decide (sameM y u) = x := ⟨_, rfl⟩
            rw [hx] at HSa
            clear B12 B8
            go_wp2_with fail
            refine HSa.out.mono ?_
            rintro e w5 ⟨rfl, hC5⟩
            replace HC := HC.trans hC5
            clear HSa hC5 c0 c1 c2 c3 c4 c5 c6 c7 c8 c9 d0 d1 d2 d3 d4 d5 d6 d7 d8 d9
            cases x with
            | false =>
              have HA2 := Lib.hid (HNo.out (of_decide_eq_false hx))
              clear hx HNo HYe
              go_wp2_with fail
              go_roundw
              case rel => exact ⟨n + 1, av, by omega, by go_num, rfl, HA2, HC⟩
              case measure => simp [intOf]; omega
            | true =>
              have HA2 := Lib.hid (HYe.out (of_decide_eq_true hx))
              clear hx HNo HYe
              obtain ⟨z, hz⟩ : ∃ z, decide (av < 0) = z := ⟨_, rfl⟩
              cases z with
              | true =>
                go_wp2_with fail
                go_roundw
                case rel => exact ⟨n + 1, n, by omega, by go_num, rfl, HA2, HC⟩
                case measure => simp [intOf]; omega
              | false =>
                have HA3 := Lib.hid (HA.out.up (by have := of_decide_eq_false hz; omega))
                go_wp2_with fail
                go_roundw
                case rel => exact ⟨n + 1, av, by omega, by go_num, rfl, HA3, HC⟩
                case measure => simp [intOf]; omega
          · obtain rfl : n = I.length := by omega
            have hIP : I.length = P2.length := HS2.out.i.length
            obtain ⟨j0, hj0, hs0⟩ := HFi.out
            obtain ⟨a, ha, rfl, hsa⟩ := AtR.found (by rw [← hIP]; exact HA.out) hj0 hs0
            have HAl2 := Lib.hid (HEr.out a ha hsa)
            have haI : a < I.length := by rw [hIP]; exact ha
            clear HEr HFi hs0 hj0 hsa HA
            replace HS2 := Lib.hid (HS2.out.st HC)
            clear HB8 HM2 HCell
            have hneg : decide ((a : Int) < 0) = false := by simp
            go_upto_region 27 with fail
            obtain ⟨N', hN'⟩ : ∃ N', I.length = N' + 1 := ⟨I.length - 1, by omega⟩
            have hown := HS2.out.own
            obtain ⟨_, cc, he, hcap', _, hcell⟩ := own_form hown
            obtain ⟨g', rfl, _, _, hcell⟩ := hcell (by omega)
            simp only [Value.slice.injEq, Option.some.injEq, Addr.mk.injEq, and_true, true_and] at he
            obtain ⟨rfl, rfl⟩ := he
            obtain ⟨news, hnews⟩ : ∃ news, news = fm (I.drop (a + 1)) := ⟨_, rfl⟩
            have hlen : news.length = (N' - a) * 10 := by rw [hnews, fm_length, List.length_drop, hN']; congr 1; omega
            obtain ⟨A, hA, hsrc⟩ : ∃ A : Addr, (if cv' = a + 1 then some (⟨gv, 0, none⟩ : Addr) else some ⟨gv, (a + 1) * 10, none⟩) = some A ∧ Hid (∀ t u, news[t]? = some u → wr.drew.cell? (A.add t) = some u) := by
              by_cases h : cv' = a + 1
              · refine ⟨⟨gv, 0, none⟩, by simp [h], fun t u hu => ?_⟩
                have h0 : news.length = 0 := by rw [hlen]; omega
                rw [List.length_eq_zero_iff.1 h0] at hu
                simp at hu
              · refine ⟨⟨gv, (a + 1) * 10, none⟩, by simp [h], fun t u hu => ?_⟩
                have ht : t < (N' - a) * 10 := by
                  have := (List.getElem?_eq_some_iff.1 hu).1
                  rwa [hlen] at this
                rw [Addr.add_lit]
                refine (hcell ((a + 1) * 10 + t) (by omega)).1.trans ?_
                rw [← List.getElem?_drop, fm_drop, ← hnews]
                exact hu
            have s1 : Hid (news.length = (N' - a) * 10) := hlen
            have s2 : Hid (∀ u ∈ news, u.oneCell' = true) := fun u hu => by
              have h1 : u ∈ (fm I).drop ((a + 1) * 10) := by rw [fm_drop, ← hnews]; exact hu
              obtain ⟨r, hr, hu⟩ := List.mem_flatten.1 (List.mem_of_mem_drop h1)
              obtain ⟨x, hx, rfl⟩ := List.mem_map.1 hr
              obtain ⟨i, hi, rfl⟩ := List.getElem_of_mem hx
              exact (HS2.out.i.get hi (by rw [← hIP]; exact hi)).one u (by simpa using hu)
            have s3 : Hid (∀ t, t < news.length → (wr.drew.cell? ⟨gv, 0 + a * 10 + t, none⟩).isSome = true ∧ wr.drew.frozen? ⟨gv, 0 + a * 10 + t, none⟩ = false) := by
              intro t ht
              rw [hlen] at ht
              rw [Nat.zero_add]
              have h := hcell (a * 10 + t) (by omega)
              refine ⟨?_, h.2⟩
              show (wr.cell? _).isSome = true
              rw [h.1, List.getElem?_eq_getElem (by rw [fm_length]; omega)]
              rfl
            obtain ⟨W1, hW1⟩ : ∃ W1, W1 = wr.drew.setCells gv (0 + a * 10) news := ⟨_, rfl⟩
            have hO1 := own_shrink (own_setCells (k := 10) news (0 + a * 10) wr.drew _ hown) (show N' ≤ I.length by omega)
            have hC1 : Chg (Only gv) wr W1 := by rw [hW1]; exact chg_setCells (S := Only gv) (.inl rfl) news _ _ (Chg.refl (Only gv) wr).drew
            have hEl : (I.eraseIdx a).length = N' := by rw [List.length_eraseIdx_of_lt haI]; omega
            have e3 : (setL (fm I) (0 + a * 10) news).take (N' * 10) = fm (I.eraseIdx a) := by
              rw [Nat.zero_add, setL_eq news _ _ (by rw [hlen, fm_length]; omega), List.take_append_of_le_length (by rw [List.length_append, List.length_take, hlen, fm_length]; omega), List.take_of_length_le (by rw [List.length_append, List.length_take, hlen, fm_length]; omega), fm_take, hnews, ← fm_append, List.eraseIdx_eq_take_drop_succ]
            rw [← hW1, e3] at hO1
            have HS6 := Lib.hid (HS2.out.drop (gv := gv) (v' := .slice (some ⟨gv, 0, none⟩) N' cv') rfl hC1 rfl (by rw [hEl]; exact hO1))
            have HIL6 : Hid ((I.eraseIdx a).length + (j + 1) = N ∧ L'.length + (j + 1) = N) := Lib.hid ⟨by rw [hEl]; have := HIL2.out.1; omega, HIL2.out.2⟩
            have hW : Hid (W1 = wr.drew.setCells gv (0 + a * 10) news) := hW1
            have hic : a ≤ cv' := by omega
            have hNc : N' ≤ cv' := by omega
            have hjc : a + 1 ≤ cv' := by omega
            have hNi : N' - a + a = N' := by omega
            have hNi2 : a + (N' - a) = N' := by omega
            have hne : a ≠ a + 1 := by omega
            have h01 : (0 : Int) ≤ (a : Int) + 1 := by omega
            have h02 : (a : Int) + 1 ≤ (N' : Int) + 1 := by omega
            have hN'2 : (a : Int) ≤ (N' : Int) + 1 := by omega
            have hwr : IntKind.i64.wrap ((a : Int) + 1) = (a : Int) + 1 := by rw [IntKind.wrap_i64]; omega
            have htn : ((a : Int) + 1).toNat = a + 1 := by omega
            obtain ⟨i9, hi9, z9, s9, y9⟩ := info_parts infMs
            have HN' := Lib.hid hN'
            rw [hN']
            clear hW1 hO1 hC1 hcell hlen hown hnews hEl e3 HS2 HIL2 hIP haI hIpos hN' hcap' hln hn
            refine start_ (n := 9) (S := fun w' => True) (ds := []) #[false, false, false, false, false, false, false, false, false] (by kernel_rfl) rfl rfl trivial (fun hHeld => ?_)
            refine pure_ (i := 0) (N := some 80) (v := ?_) (a' := ?_) #[true, false, false, false, false, false, false, false, false] rfl rfl (by kernel_rfl) (fun _ _ _ h => h) (Or.inl ⟨by rfl, ?_⟩) ?_ ?_
            rotate_left
            · intro w'
              go_simp
              with_reducible rfl
            rotate_left
            · simp only [Act.put, List.setIfInBounds_toArray, List.set_cons_zero, List.set_cons_succ]
              rfl
            refine pure_ (i := 1) (N := some 81) (v := ?_) (a' := ?_) #[true, true, false, false, false, false, false, false, false] rfl rfl (by kernel_rfl) (fun _ _ _ h => h) (Or.inl ⟨by rfl, ?_⟩) ?_ ?_
            rotate_left
            · intro w'
              go_simp
              with_reducible rfl
            rotate_left
            · simp only [Act.put, List.setIfInBounds_toArray, List.set_cons_zero, List.set_cons_succ]
              rfl
            refine pure_ (i := 2) (N := some 82) (v := ?_) (a' := ?_) #[true, true, true, false, false, false, false, false, false] rfl rfl (by kernel_rfl) (fun _ _ _ h => h) (Or.inl ⟨by rfl, ?_⟩) ?_ ?_
            rotate_left
            · intro w'
              go_simp
              with_reducible rfl
            rotate_left
            · simp only [Act.put, List.setIfInBounds_toArray, List.set_cons_zero, List.set_cons_succ]
              rfl
            refine pure_ (i := 3) (N := some 83) (v := ?_) (a' := ?_) #[true, true, true, true, false, false, false, false, false] rfl rfl (by kernel_rfl) (fun _ _ _ h => h) (Or.inl ⟨by rfl, ?_⟩) ?_ ?_
            rotate_left
            · intro w'
              go_simp
              with_reducible rfl
            rotate_left
            · simp only [Act.put, List.setIfInBounds_toArray, List.set_cons_zero, List.set_cons_succ]
              rfl
            refine pure_ (i := 4) (N := some 84) (v := ?_) (a' := ?_) #[true, true, true, true, true, false, false, false, false] rfl rfl (by kernel_rfl) (fun _ _ _ h => h) (Or.inl ⟨by rfl, ?_⟩) ?_ ?_
            rotate_left
            · intro w'
              go_simp
              with_reducible rfl
            rotate_left
            · simp only [Act.put, List.setIfInBounds_toArray, List.set_cons_zero, List.set_cons_succ]
              rfl
            refine pure_ (i := 5) (N := some 85) (v := ?_) (a' := ?_) #[true, true, true, true, true, true, false, false, false] rfl rfl (by kernel_rfl) (fun _ _ _ h => h) (Or.inl ⟨by rfl, ?_⟩) ?_ ?_
            rotate_left
            · intro w'
              go_simp
              with_reducible rfl
            rotate_left
            · simp only [Act.put, List.setIfInBounds_toArray, List.set_cons_zero, List.set_cons_succ]
              rfl
            refine pure_ (i := 6) (N := some 86) (v := ?_) (a' := ?_) #[true, true, true, true, true, true, true, false, false] rfl rfl (by kernel_rfl) (fun _ _ _ h => h) (Or.inl ⟨by rfl, ?_⟩) ?_ ?_
            rotate_left
            · intro w'
              go_simp
              with_reducible rfl
            rotate_left
            · simp only [Act.put, List.setIfInBounds_toArray, List.set_cons_zero, List.set_cons_succ]
              rfl
            refine one_ (i := 7) (N := some 87) #[true, true, true, true, true, true, true, true, false] rfl rfl (by kernel_rfl) (by decide) (fun K hK => ?_)
            refine step_append_room rfl (.tmp 82) (.tmp 86) 42 rfl 31 i9 10 Try.underlying42 hi9 s9 gv 0 a cv' (by simp [Act.eval]) A (N' - a) (cv' - (a + 1)) news (by simp [Act.eval]) s1.out hsrc.out s2.out (by omega) s3.out ?_
            rw [← hW.out]
            refine hK.out _ _ trivial (fun hHeld => ?_)
            clear hK K
            refine norm_ (a' := ?_) ?_ ?_
            rotate_left
            · show Act.put _ (some 87) _ = _
              simp only [Act.put, List.setIfInBounds_toArray, List.set_cons_zero, List.set_cons_succ]
              rfl
            refine pure_ (i := 8) (N := some 4) (v := ?_) (a' := ?_) #[true, true, true, true, true, true, true, true, true] rfl rfl (by kernel_rfl) (fun _ _ _ h => h) (Or.inl ⟨by rfl, ?_⟩) ?_ ?_
            rotate_left
            · intro w'
              go_simp
              with_reducible rfl
            rotate_left
            · simp only [Act.put, List.setIfInBounds_toArray, List.set_cons_zero, List.set_cons_succ]
              rfl
            refine done_ (by kernel_rfl) ?_
            go_wp2_with fail
            go_roundw
            case rel => exact ⟨j + 1, s', L', P1', I.eraseIdx a, P2.eraseIdx a, by omega, by go_num, HS6, HAl2, HIL6⟩
            case measure => simp [intOf]; omega
      · obtain rfl : j = N := by omega
        have hk2 : decide ((j : Int) < (j : Int)) = false := by simp
        have hL0 : L = [] := List.length_eq_zero_iff.1 (by have := HIL.out; omega)
        have hI0 : I = [] := List.length_eq_zero_iff.1 (by have := HIL.out; omega)
        subst hL0 hI0
        obtain ⟨pv', cv', rfl, _⟩ := own_form HS.out.own
        go_wp2_with fail
        refine (take_empty HS.out.q).mono ?_
        rintro e w2 ⟨rfl, _, hk⟩
        have HC2 := Lib.hid (Chg.of_kp HS.out.c hk)
        clear hk HS HAl HIL
        go_wp2_with fail
        refine (awake_any _).mono ?_
        rintro e w3 ⟨rfl, hC⟩
        have HC3 := Lib.hid ((HC2.out.trans (Chg.al _ _)).trans hC)
        clear hC
        go_wp2_with fail
        go_ret
        exact ⟨rfl, HC3.out⟩
theorem queueAll_walk (v : Value) (l : List Cl) (W : World) (w0 : Rd W (fun k => k < W.heap.size) (clsD l) v ∧ ∀ c ∈ l, Mv c.m) :
    Calls Try.prog 5 #[v] W fun e w' => e = .returned (.bool true) ∧ Below W.heap.size W w' :=
  (queueAll_any v l W w0.1 w0.2).mono fun _ _ ⟨h1, h2⟩ => ⟨h1, h2.below⟩
end Go.Proofs.Ytcefaohdikongaa
