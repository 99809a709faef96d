/- QueueWaits: the walk. -/
import Derived.Test.YtcefaohdikongaaQueueWaitsLaw
import Derived.Deep.CutBlock
namespace Go.Proofs.Ytcefaohdikongaa
open Go.RowKit Go.Proofs.YtcefaohdikongaaW.PrintLast
attribute [local go_sem] max2_mx min2_mn max_two_ min_two_

theorem wq_bp (W : Nat → Int) (S : List Nat) : (wq W S).map bp = wq (fun x => W x + 1) S := by simp [wq, bp]
theorem wq_succ (W : Nat → Int) (k : Nat) : wq W (List.range (k + 1)) = wq W (List.range k) ++ [(ms0 (k : Int), W k)] := by simp [wq, List.range_succ]
theorem wq_congr {W V : Nat → Int} {S : List Nat} (h : ∀ x ∈ S, W x = V x) : wq W S = wq V S := List.map_congr_left fun x hx => by rw [h x hx]
theorem Try.infB : (Try.prog.info? 4).map (fun i => (i.zero, i.size, i.bytes)) = some (some (.bool false), 1, 1) := by kernel_rfl
theorem make_bools (K : Nat) (hK : K ≤ 1000) (w : World) : (Instr.makeSlice 33 (.int .i64 K) (.int .i64 K)).run Try.prog w = .ok (.slice (some ⟨w.heap.size, 0, none⟩) K K) (w.alloc (.cells (madeCells #[.bool false] K) 4)) := by
  obtain ⟨i, hi, z, s, y⟩ := info_parts Try.infB
  have h := run_makeSlice (P := Try.prog) w 33 4 i _ Try.underlying33 hi z .i64 .i64 (K : Int) (K : Int) (by omega) (Int.le_refl _) (by rw [s, Int.toNat_natCast]; omega) (by rw [y]; omega) (by omega)
  rw [s, Int.toNat_natCast, Nat.mul_one] at h
  exact h
theorem made_at (K : Nat) {x : Nat} (h : x < K) : (madeCells #[.bool false] K)[x]? = some (.bool false) := by
  unfold madeCells
  rw [Array.getElem?_map, Array.getElem?_eq_getElem (by simpa using h)]
  simp [Nat.mod_one]
theorem QA.other {w w' : World} {g r b : Nat} {most now : Int} {L : List (Ms × Int)} {s : Value} (q : QA w g r most now L s) (h : Chg (Only b) w w') {t : TypeId} {cs : Array Value} (hb : Blk w b t cs) (h1 : t ≠ 62) (h2 : t ≠ 81) (h3 : t ≠ 67) : QA w' g r most now L s :=
  q.chg_ h (fun e => (q.blk.ne_ hb (Ne.symm h1)) e) (fun e => (q.ta.blk.ne_ hb (Ne.symm h2)) e) fun k hk e => by
    obtain ⟨_, cur, hB⟩ := q.own_at hk
    exact (Blk.ne_ hB hb (Ne.symm h3)) e
abbrev la4 (la : Nat → Int) : Array Value := #[.int .i64 (la 0), .int .i64 (la 1), .int .i64 (la 2), .int .i64 (la 3)]
theorem la4_at (la : Nat → Int) {u : Nat} (h : u < 4) : (la4 la)[u]? = some (.int .i64 (la u)) := by
  match u, h with
  | 0, _ => rfl
  | 1, _ => rfl
  | 2, _ => rfl
  | 3, _ => rfl
theorem la4_set (la : Nat → Int) {u : Nat} (h : u < 4) (x : Int) : (la4 la).setIfInBounds u (.int .i64 x) = la4 (updL la u x) := by
  match u, h with
  | 0, _ => rfl
  | 1, _ => rfl
  | 2, _ => rfl
  | 3, _ => rfl
set_option maxRecDepth 100000 in
set_option maxHeartbeats 8000000 in
theorem queueWaits_any (v1 v2 : Value) (D E : List Int) (w : World) (hs1 : SliceAt w v1 1 D.length (D.map (Value.int .i64))) (hs2 : SliceAt w v2 1 E.length (E.map (Value.int .i64))) :
    Calls Try.prog 3 #[v1, v2] w fun e w' => e = .returned (.bool true) ∧ Chg NoB w w' := by
  obtain ⟨A1, cap1, rfl, hcap1, hmax1, _, hcell1⟩ := hs1
  obtain ⟨A2, cap2, rfl, hcap2, hmax2, _, hcell2⟩ := hs2
  have HCell1 := Lib.hid hcell1
  have HCell2 := Lib.hid hcell2
  have hc1 : cap1 ≤ 9223372036854775807 := by unfold maxLen at hmax1; omega
  have hc2 : cap2 ≤ 9223372036854775807 := by unfold maxLen at hmax2; omega
  clear hcell1 hcell2 hmax1 hmax2
  obtain ⟨N, HN⟩ : ∃ N, Hid (N = min D.length 80) := ⟨_, Lib.hid rfl⟩
  obtain ⟨M, HM⟩ : ∃ M, Hid (M = min E.length 80) := ⟨_, Lib.hid rfl⟩
  have hN80 : N ≤ 80 := by have := HN.out; omega
  have hM80 : M ≤ 80 := by have := HM.out; omega
  obtain ⟨U, hU⟩ : ∃ U : Nat → Int, U = fun x => if x < N then u3 (D.getD x 0) else u3 (E.getD (x - N) 0) := ⟨_, rfl⟩
  have HU1 : Hid (∀ x, x < N → U x = u3 (D.getD x 0)) := Lib.hid fun x hx => by rw [hU]; exact if_pos hx
  have HU2 : Hid (∀ x, U (N + x) = u3 (E.getD x 0)) := Lib.hid fun x => by rw [hU]; show (if N + x < N then _ else _) = _; rw [if_neg (by omega), Nat.add_sub_cancel_left]
  have HU3 : Hid (∀ x, 0 ≤ U x ∧ U x ≤ 3) := Lib.hid fun x => by rw [hU]; show 0 ≤ (if x < N then _ else _) ∧ (if x < N then _ else _) ≤ 3; split <;> exact u3_in _
  clear hU
  go_enter Try.func3, Try.ntmps3
  go_wp2_with fail
  refine (new_any 200 _).mono ?_
  rintro e w1 ⟨⟨g, rfl, hq⟩, hC⟩
  have HQ1 := Lib.hid hq
  have HC1 := Lib.hid hC
  clear hq hC
  go_upto_block 0 with fail
  go_cut [6] from 20 (fun n w' => n = .int .i64 N ∧ (∃ s, QA w' g w.heap.size 200 0 (wq (fun x => 4 * U x) (List.range N)) s) ∧ Chg NoB w w')
  case first =>
    go_wp2_with fail
    go_loopw [6, 23] (fun m i wr => ∃ k : Nat, k ≤ N ∧ i = .int .i64 k ∧ m = .int .i64 k ∧ (∃ s, QA wr g w.heap.size 200 0 (wq (fun x => 4 * U x) (List.range k)) s) ∧ Chg NoB w wr) (fun _ i _ => D.length - (intOf i).toNat)
    case atStart => exact ⟨0, by omega, rfl, rfl, ⟨_, HQ1.out⟩, HC1.out⟩
    case round =>
      clear HQ1 HC1
      obtain ⟨k, hk, rfl, rfl, ⟨s, hq⟩, hC⟩ := hrel
      have HQ := Lib.hid hq
      have HC := Lib.hid hC
      clear hq hC
      by_cases hlt : k < D.length
      · have hk2 : decide ((k : Int) < (D.length : Int)) = true := by simpa using hlt
        obtain ⟨b, off, rfl, hbl, hcl⟩ := HCell1.out (by omega)
        have hv : wr.cell? ⟨b, off + k, none⟩ = some (.int .i64 D[k]) := (HC.out.cell (p := ⟨b, off + k, none⟩) hbl id).trans (hcl k _ (by rw [List.getElem?_map, List.getElem?_eq_getElem hlt]; rfl))
        clear hcl
        have hk3 : (k : Int) < (D.length : Int) := by omega
        have HT : Hid (k < 80 → w3 D[k] = 4 * U k) := Lib.hid fun h80 => by rw [HU1.out k (by have := HN.out; omega)]; simp [hlt, w3, u3]
        generalize D[k] = u at *
        by_cases h80 : k < 80
        · have hk4 : decide ((80 : Int) ≤ (k : Int)) = false := by simp; omega
          go_wp2_with fail
          refine (msg_any (k : Int) _).mono ?_
          rintro e w2 ⟨rfl, hC⟩
          have HQ2 := Lib.hid (HQ.out.chg hC)
          have HC2 := Lib.hid (HC.out.trans hC)
          clear hC HQ HC
          have hlen : (wq (fun x => 4 * U x) (List.range k)).length = k := by rw [wq_length, List.length_range]
          go_wp2_with fail
          refine (put_msg HQ2.out (k : Int) u (by rw [hlen]; omega) (by rw [hlen]; omega)).mono ?_
          rintro e w4 ⟨rfl, ⟨s4, hq⟩, hk'⟩
          rw [HT.out h80, ← wq_succ (fun x => 4 * U x)] at hq
          have HQ4 := Lib.hid hq
          have HC4 := Lib.hid (Chg.of_kp HC2.out hk')
          clear hq hk' HQ2 HC2
          go_wp2_with fail
          go_roundw
          case rel => exact ⟨k + 1, by have := HN.out; omega, by go_num, by go_num, ⟨s4, HQ4.out⟩, HC4.out⟩
          case measure => simp [intOf]; omega
        · have hk4 : decide ((80 : Int) ≤ (k : Int)) = true := by simp; omega
          have hkN : Hid (k = N) := Lib.hid (by have := HN.out; omega)
          go_wp2_with fail
          go_meet
          case rel => exact ⟨by rw [hkN.out], ⟨s, by rw [← hkN.out]; exact HQ.out⟩, HC.out⟩
      · have hk2 : decide ((k : Int) < (D.length : Int)) = false := by simp; omega
        obtain rfl : k = N := by have := HN.out; omega
        go_wp2_with fail
        go_meet
        case rel => exact ⟨rfl, ⟨s, HQ.out⟩, HC.out⟩
  case rest =>
    clear HQ1 HC1
    obtain ⟨rfl, ⟨s1, hq⟩, hC⟩ := hcut
    have HQ1 := Lib.hid hq
    have HC1 := Lib.hid hC
    clear hq hC
    go_wp2_with fail
    go_loopw [39] (fun i wr => ∃ k : Nat, k ≤ 13 ∧ i = .int .i64 k ∧ QA wr g w.heap.size 200 0 (wq (fun x => 4 * U x + (k : Int)) (List.range N)) s1 ∧ Chg NoB w wr) (fun i _ => 13 - (intOf i).toNat)
    case atStart => exact ⟨0, by decide, rfl, by simpa using HQ1.out, HC1.out⟩
    case round =>
      clear HQ1 HC1
      obtain ⟨k, hk, rfl, hq, hC⟩ := hrel
      have HQ := Lib.hid hq
      have HC := Lib.hid hC
      clear hq hC
      by_cases hlt : k < 13
      · have hk2 : decide ((k : Int) < 13) = true := by simp; omega
        go_wp2_with fail
        refine (tick_any HQ.out (by
          intro p hp
          obtain ⟨x, _, rfl⟩ := List.mem_map.1 hp
          have := HU3.out x
          exact ⟨by show 0 ≤ 4 * U x + (k : Int); omega, by show 4 * U x + (k : Int) < _; omega⟩) (by rw [wq_length, List.length_range]; omega)).mono ?_
        rintro e w4 ⟨rfl, hq, hk'⟩
        have HQ4 : Hid (QA w4 g w.heap.size 200 0 (wq (fun x => 4 * U x + ((k + 1 : Nat) : Int)) (List.range N)) s1) := Lib.hid (by
          rw [wq_bp] at hq
          rw [wq_congr (V := fun x => 4 * U x + (k : Int) + 1) fun x _ => by show 4 * U x + ((k + 1 : Nat) : Int) = 4 * U x + (k : Int) + 1; omega]
          exact hq)
        have HC4 := Lib.hid (Chg.of_kp HC.out hk')
        clear hq hk' HQ HC
        go_wp2_with fail
        go_roundw
        case rel => exact ⟨k + 1, by omega, by go_num, HQ4.out, HC4.out⟩
        case measure => simp [intOf]; omega
      · have h13 : Hid (k = 13) := Lib.hid (by omega)
        have hk2 : decide ((k : Int) < 13) = false := by simp; omega
        have HQ13 : Hid (QA wr g w.heap.size 200 0 (wq (wT N U) (List.range (N + 0))) s1) := Lib.hid (by
          rw [Nat.add_zero, wq_congr (V := fun x => 4 * U x + (k : Int)) fun x hx => by
            have : x < N := by simpa using hx
            unfold wT
            rw [if_pos this, h13.out]
            rfl]
          exact HQ.out)
        clear HQ
        go_upto_block 4 with fail
        go_cut [9] from 20 (fun m w' => m = .int .i64 (N + M : Nat) ∧ (∃ s, QA w' g w.heap.size 200 0 (wq (wT N U) (List.range (N + M))) s) ∧ Chg NoB w w')
        case first =>
          go_wp2_with fail
          go_loopw [9, 47] (fun m i wr => ∃ k : Nat, k ≤ M ∧ i = .int .i64 k ∧ m = .int .i64 (N + k : Nat) ∧ (∃ s, QA wr g w.heap.size 200 0 (wq (wT N U) (List.range (N + k))) s) ∧ Chg NoB w wr) (fun _ i _ => E.length - (intOf i).toNat)
          case atStart => exact ⟨0, by omega, rfl, rfl, ⟨_, HQ13.out⟩, HC.out⟩
          case round =>
            clear HQ13 HC
            obtain ⟨k, hk, rfl, rfl, ⟨s, hq⟩, hC⟩ := hrel
            have HQ := Lib.hid hq
            have HC := Lib.hid hC
            clear hq hC
            by_cases hlt : k < E.length
            · have hk2 : decide ((k : Int) < (E.length : Int)) = true := by simpa using hlt
              obtain ⟨b, off, rfl, hbl, hcl⟩ := HCell2.out (by omega)
              have hv : wr.cell? ⟨b, off + k, none⟩ = some (.int .i64 E[k]) := (HC.out.cell (p := ⟨b, off + k, none⟩) hbl id).trans (hcl k _ (by rw [List.getElem?_map, List.getElem?_eq_getElem hlt]; rfl))
              clear hcl
              have hk3 : (k : Int) < (E.length : Int) := by omega
              have HT : Hid (w3 E[k] = wT N U (N + k)) := Lib.hid (by unfold wT; rw [if_neg (by omega), HU2.out k]; simp [hlt, w3, u3])
              generalize E[k] = u at *
              by_cases h80 : k < 80
              · have hk4 : decide ((80 : Int) ≤ (k : Int)) = false := by simp; omega
                go_wp2_with fail
                refine (msg_any ((N + k : Nat) : Int) _).mono ?_
                rintro e w2 ⟨rfl, hC⟩
                have HQ2 := Lib.hid (HQ.out.chg hC)
                have HC2 := Lib.hid (HC.out.trans hC)
                clear hC HQ HC
                have hlen : (wq (wT N U) (List.range (N + k))).length = N + k := by rw [wq_length, List.length_range]
                go_wp2_with fail
                refine (put_msg HQ2.out ((N + k : Nat) : Int) u (by rw [hlen]; omega) (by rw [hlen]; omega)).mono ?_
                rintro e w4 ⟨rfl, ⟨s4, hq⟩, hk'⟩
                rw [HT.out, ← wq_succ (wT N U)] at hq
                have HQ4 := Lib.hid hq
                have HC4 := Lib.hid (Chg.of_kp HC2.out hk')
                clear hq hk' HQ2 HC2
                go_wp2_with fail
                go_roundw
                case rel => exact ⟨k + 1, by have := HM.out; omega, by go_num, by go_num, ⟨s4, HQ4.out⟩, HC4.out⟩
                case measure => simp [intOf]; omega
              · have hk4 : decide ((80 : Int) ≤ (k : Int)) = true := by simp; omega
                have hkN : Hid (k = M) := Lib.hid (by have := HM.out; omega)
                go_wp2_with fail
                go_meet
                case rel => exact ⟨by rw [hkN.out], ⟨s, by rw [← hkN.out]; exact HQ.out⟩, HC.out⟩
            · have hk2 : decide ((k : Int) < (E.length : Int)) = false := by simp; omega
              obtain rfl : k = M := by have := HM.out; omega
              go_wp2_with fail
              go_meet
              case rel => exact ⟨rfl, ⟨s, HQ.out⟩, HC.out⟩
        case rest =>
          clear HQ13 HC
          obtain ⟨rfl, ⟨s2, hq⟩, hC⟩ := hcut
          have HQ := Lib.hid hq
          have HC := Lib.hid hC
          clear hq hC
          obtain ⟨K, HK⟩ : ∃ K, Hid (K = N + M) := ⟨_, Lib.hid rfl⟩
          rw [← HK.out] at HQ ⊢
          have hK1 : N ≤ K := by have := HK.out; omega
          have hK2 : K ≤ 160 := by have := HK.out; omega
          have hms := make_bools K (by omega) wc
          go_wp2_with fail
          have hS0 : Blk ((wc.alloc (Obj.cells (madeCells #[.bool false] K) 4)).alloc (Obj.cells (la4 fun _ => -1) 34)) wc.heap.size 4 (madeCells #[.bool false] K) := (Blk.new wc _ _).alloc _
          have hL0 : Blk ((wc.alloc (Obj.cells (madeCells #[.bool false] K) 4)).alloc (Obj.cells (la4 fun _ => -1) 34)) (wc.heap.size + 1) 34 (la4 fun _ => -1) := Blk.new_ _ _ _ (by simp)
          have HS0 := Lib.hid hS0
          have HL0 := Lib.hid hL0
          have HQ0 := Lib.hid ((HQ.out.chg ((Chg.refl NoB wc).alloc (Obj.cells (madeCells #[.bool false] K) 4))).chg ((Chg.refl NoB _).alloc (Obj.cells (la4 fun _ => -1) 34)))
          have HC0 := Lib.hid ((HC.out.alloc (Obj.cells (madeCells #[.bool false] K) 4)).alloc (Obj.cells (la4 fun _ => -1) 34))
          have HB1 : Hid (w.heap.size ≤ wc.heap.size) := Lib.hid HC.out.size
          have HM0 : Hid (∃ cs : Array Value, Blk ((wc.alloc (Obj.cells (madeCells #[.bool false] K) 4)).alloc (Obj.cells (la4 fun _ => -1) 34)) wc.heap.size 4 cs ∧ ∀ x ∈ List.range K, cs[x]? = some (.bool false)) := Lib.hid ⟨_, hS0, fun x hx => made_at K (by simpa using hx)⟩
          clear hS0 hL0 HQ HC hms HS0
          generalize (wc.alloc (Obj.cells (madeCells #[.bool false] K) 4)).alloc _ = W0 at *
          generalize wc.heap.size = bs at *
          go_loopw [67] (fun i wr => ∃ (k : Nat) (S : List Nat) (la : Nat → Int) (cs : Array Value), k ≤ K ∧ i = .int .i64 k ∧ Wv N K k U S la ∧ (∃ s, QA wr g w.heap.size 200 0 (wq (wT N U) S) s) ∧ Blk wr bs 4 cs ∧ (∀ x ∈ S, cs[x]? = some (.bool false)) ∧ Blk wr (bs + 1) 34 (la4 la) ∧ Chg NoB w wr) (fun i _ => K - (intOf i).toNat)
          case atStart =>
            obtain ⟨cs, h1, h2⟩ := HM0.out
            exact ⟨0, List.range K, fun _ => -1, cs, by omega, rfl, Wv.start N K U hK1, ⟨_, HQ0.out⟩, h1, h2, HL0.out, HC0.out⟩
          case round =>
            clear HM0 HL0 HQ0 HC0
            obtain ⟨k, S, la, cs, hk, rfl, hV, ⟨s, hq⟩, hS, hcs, hL, hC⟩ := hrel
            have HV := Lib.hid hV
            have HQ := Lib.hid hq
            have HS := Lib.hid hS
            have HL := Lib.hid hL
            have HC := Lib.hid hC
            have HCs := Lib.hid hcs
            clear hV hq hS hL hC hcs
            by_cases hlt : k < K
            · have hk2 : decide ((k : Int) < (K : Int)) = true := by simpa using hlt
              have hlen : (wq (wT N U) S).length = K - k := by rw [wq_length, HV.out.len]
              go_wp2_with fail
              refine (take_some HQ.out (by omega) (by omega)).mono ?_
              rintro e w2 ⟨⟨b, hb, hB, rfl, s3, hq⟩, hk'⟩
              obtain ⟨x, hx, hxK, hxS, hxi, hla, hV2, hE, hnot⟩ := HV.out.step HU3.out hb hB
              rw [hx]
              rw [hE] at hq
              obtain ⟨hu0, hu3⟩ := HU3.out x
              obtain ⟨u, hu⟩ := Int.eq_ofNat_of_zero_le hu0
              have hu4 : u < 4 := by omega
              have HUx : Hid (U x = (u : Int)) := Lib.hid hu
              rw [hu, Int.toNat_natCast] at hla hV2
              have HV2 := Lib.hid hV2
              have HQ2 := Lib.hid hq
              have HS2 := Lib.hid (hk'.kept _ _ _ (by decide) (by decide) (by decide) HS.out)
              have HL2 := Lib.hid (hk'.kept _ _ _ (by decide) (by decide) (by decide) HL.out)
              have HC2 := Lib.hid (Chg.of_kp HC.out hk')
              have hcx := HCs.out x hxS
              have HCs2 : Hid (∀ y ∈ S.eraseIdx b, (cs.setIfInBounds x (.bool true))[y]? = some (.bool false)) := Lib.hid fun y hy => by
                rw [Array.getElem?_setIfInBounds_ne (by rintro rfl; exact hnot hy)]
                exact HCs.out y (List.mem_of_mem_eraseIdx hy)
              have hs2 : w2.cell? ⟨bs, x, none⟩ = some (.bool false) := (HS2.out.cell x).trans hcx
              have hf2 : w2.frozen? ⟨bs, x, none⟩ = false := HS2.out.frozen x
              have hbs : bs < w2.heap.size := HS2.out.lt
              have hne1 : w2.heap.size ≠ bs := by omega
              have hne2 : bs ≠ w2.heap.size := by omega
              have hx1 : decide ((x : Int) < 0) = false := by simp
              have hx2 : decide ((K : Int) ≤ (x : Int)) = false := by simp; omega
              have hx0 : (0 : Int) ≤ (x : Int) := by omega
              have hxK2 : (x : Int) < (K : Int) := by omega
              have hb1 := HB1.out
              clear hu hV2 hq hk' HV HQ HS HL HC HCs hx hB hE hu0 hu3 hcx hnot hxS
              by_cases hiN : k < N
              · have hxN := hxi.2 hiN
                have hy1 : decide ((x : Int) < (N : Int)) = true := by simp; omega
                have hy2 : decide ((k : Int) < (N : Int)) = true := by simp; omega
                have hxD : x < D.length := by have := HN.out; omega
                obtain ⟨b1, off, rfl, hbl, hcl⟩ := HCell1.out (by omega)
                have hv : w2.cell? ⟨b1, off + x, none⟩ = some (.int .i64 D[x]) := (HC2.out.cell (p := ⟨b1, off + x, none⟩) hbl id).trans (hcl x _ (by rw [List.getElem?_map, List.getElem?_eq_getElem hxD]; rfl))
                have hxD2 : (x : Int) < (D.length : Int) := by omega
                have hmu : mx 0 (mn D[x] 3) = (u : Int) := by
                  have h := HU1.out x hxN
                  rw [HUx.out] at h
                  rw [h]
                  simp [hxD, u3]
                generalize D[x] = d at *
                have hb2 : b1 < w2.heap.size := by have := HC2.out.size; omega
                have hne3 : b1 ≠ bs := by omega
                have hne4 : b1 ≠ w2.heap.size := by omega
                clear hcl
                go_wp2_with fail
                have HX := Lib.hid (Blk.new_ (k := w2.heap.size) (w2.setCell ⟨bs, x, none⟩ (.bool true)) 31 (mc (ms0 (x : Int))) (by simp))
                have HS3 := Lib.hid ((HS2.out.set_ x (.bool true)).alloc (Obj.cells (mc (ms0 (x : Int))) 31))
                have HL3 := Lib.hid ((HL2.out.far (p := ⟨bs, x, none⟩) (by show bs + 1 ≠ bs; omega) (.bool true)).alloc (Obj.cells (mc (ms0 (x : Int))) 31))
                have HQ3 := Lib.hid ((HQ2.out.other ((Chg.refl (Only bs) w2).setOwn x (.bool true)) HS2.out (by decide) (by decide) (by decide)).chg ((Chg.refl NoB _).alloc (Obj.cells (mc (ms0 (x : Int))) 31)))
                have HC3 := Lib.hid ((HC2.out.setCell (p := ⟨bs, x, none⟩) (.inr hb1) (.bool true)).alloc (Obj.cells (mc (ms0 (x : Int))) 31))
                generalize (w2.setCell ⟨bs, x, none⟩ (.bool true)).alloc _ = W3 at *
                have hX3 : W3.cell? ⟨w2.heap.size, 3, none⟩ = some (.int .i64 (x : Int)) := HX.out.cell 3
                have hL3 : W3.cell? ⟨bs + 1, u, none⟩ = some (.int .i64 (la u)) := (HL3.out.cell u).trans (la4_at la hu4)
                have hu0 : (0 : Int) ≤ (u : Int) := by omega
                have hu5 : (u : Int) < 4 := by omega
                have hlx : decide ((x : Int) < la u) = false := by simp; omega
                clear HS2 HL2 HQ2 HC2 hs2 hf2
                go_quiet (fail)
                have HX4 := Lib.hid (HX.out.drewN nq)
                have HS4 := Lib.hid (HS3.out.drewN nq)
                have HL4 := Lib.hid (HL3.out.drewN nq)
                have HQ4 := Lib.hid (HQ3.out.chg ((Chg.refl NoB W3).drewN nq))
                have HC4 := Lib.hid (HC3.out.drewN nq)
                clear HX HS3 HL3 HQ3 HC3 hX3 hL3
                generalize W3.drewN nq = W4 at *
                have hX4 : W4.cell? ⟨w2.heap.size, 3, none⟩ = some (.int .i64 (x : Int)) := HX4.out.cell 3
                have hL4 : W4.cell? ⟨bs + 1, u, none⟩ = some (.int .i64 (la u)) := (HL4.out.cell u).trans (la4_at la hu4)
                have hf4 : W4.frozen? ⟨bs + 1, u, none⟩ = false := HL4.out.frozen u
                have HL5 : Hid (Blk (W4.setCell ⟨bs + 1, u, none⟩ (.int .i64 (x : Int))) (bs + 1) 34 (la4 (updL la u x))) := Lib.hid (by rw [← la4_set la hu4]; exact HL4.out.set_ u _)
                have HS5 := Lib.hid (HS4.out.far (p := ⟨bs + 1, u, none⟩) (by show bs ≠ bs + 1; omega) (.int .i64 (x : Int)))
                have HQ5 := Lib.hid (HQ4.out.other ((Chg.refl (Only (bs + 1)) W4).setOwn u (.int .i64 (x : Int))) HL4.out (by decide) (by decide) (by decide))
                have HC5 := Lib.hid (HC4.out.setCell (p := ⟨bs + 1, u, none⟩) (.inr (by show w.heap.size ≤ bs + 1; omega)) (.int .i64 (x : Int)))
                clear HX4 HS4 HL4 HQ4 HC4
                go_wp2_with fail
                go_roundw
                case rel => exact ⟨k + 1, S.eraseIdx b, updL la u x, cs.setIfInBounds x (.bool true), by omega, by go_num, HV2.out, ⟨s3, HQ5.out⟩, HS5.out, HCs2.out, HL5.out, HC5.out⟩
                case measure => simp [intOf]; omega
              · have hxN : ¬ x < N := fun h => hiN (hxi.1 h)
                have hy1 : decide ((x : Int) < (N : Int)) = false := by simp; omega
                have hy2 : decide ((k : Int) < (N : Int)) = false := by simp; omega
                obtain ⟨y, rfl⟩ : ∃ y, x = N + y := ⟨x - N, by omega⟩
                have hyE : y < E.length := by have := HM.out; have := HK.out; omega
                obtain ⟨b1, off, rfl, hbl, hcl⟩ := HCell2.out (by omega)
                have hv : w2.cell? ⟨b1, off + y, none⟩ = some (.int .i64 E[y]) := (HC2.out.cell (p := ⟨b1, off + y, none⟩) hbl id).trans (hcl y _ (by rw [List.getElem?_map, List.getElem?_eq_getElem hyE]; rfl))
                have hyE2 : (y : Int) < (E.length : Int) := by omega
                have hy0 : (0 : Int) ≤ (y : Int) := by omega
                have hxy : ((N + y : Nat) : Int) - (N : Int) = (y : Int) := by omega
                have hmu : mx 0 (mn E[y] 3) = (u : Int) := by
                  have h := HU2.out y
                  rw [HUx.out] at h
                  rw [h]
                  simp [hyE, u3]
                generalize E[y] = d at *
                have hb2 : b1 < w2.heap.size := by have := HC2.out.size; omega
                have hne3 : b1 ≠ bs := by omega
                have hne4 : b1 ≠ w2.heap.size := by omega
                clear hcl
                generalize hxg : N + y = x at *
                have HXG := Lib.hid hxg
                clear hxg
                go_wp2_with fail
                have HX := Lib.hid (Blk.new_ (k := w2.heap.size) (w2.setCell ⟨bs, x, none⟩ (.bool true)) 31 (mc (ms0 (x : Int))) (by simp))
                have HS3 := Lib.hid ((HS2.out.set_ x (.bool true)).alloc (Obj.cells (mc (ms0 (x : Int))) 31))
                have HL3 := Lib.hid ((HL2.out.far (p := ⟨bs, x, none⟩) (by show bs + 1 ≠ bs; omega) (.bool true)).alloc (Obj.cells (mc (ms0 (x : Int))) 31))
                have HQ3 := Lib.hid ((HQ2.out.other ((Chg.refl (Only bs) w2).setOwn x (.bool true)) HS2.out (by decide) (by decide) (by decide)).chg ((Chg.refl NoB _).alloc (Obj.cells (mc (ms0 (x : Int))) 31)))
                have HC3 := Lib.hid ((HC2.out.setCell (p := ⟨bs, x, none⟩) (.inr hb1) (.bool true)).alloc (Obj.cells (mc (ms0 (x : Int))) 31))
                generalize (w2.setCell ⟨bs, x, none⟩ (.bool true)).alloc _ = W3 at *
                have hX3 : W3.cell? ⟨w2.heap.size, 3, none⟩ = some (.int .i64 (x : Int)) := HX.out.cell 3
                have hL3 : W3.cell? ⟨bs + 1, u, none⟩ = some (.int .i64 (la u)) := (HL3.out.cell u).trans (la4_at la hu4)
                have hu0 : (0 : Int) ≤ (u : Int) := by omega
                have hu5 : (u : Int) < 4 := by omega
                have hlx : decide ((x : Int) < la u) = false := by simp; omega
                clear HS2 HL2 HQ2 HC2 hs2 hf2
                go_quiet (fail)
                have HX4 := Lib.hid (HX.out.drewN nq)
                have HS4 := Lib.hid (HS3.out.drewN nq)
                have HL4 := Lib.hid (HL3.out.drewN nq)
                have HQ4 := Lib.hid (HQ3.out.chg ((Chg.refl NoB W3).drewN nq))
                have HC4 := Lib.hid (HC3.out.drewN nq)
                clear HX HS3 HL3 HQ3 HC3 hX3 hL3
                generalize W3.drewN nq = W4 at *
                have hX4 : W4.cell? ⟨w2.heap.size, 3, none⟩ = some (.int .i64 (x : Int)) := HX4.out.cell 3
                have hL4 : W4.cell? ⟨bs + 1, u, none⟩ = some (.int .i64 (la u)) := (HL4.out.cell u).trans (la4_at la hu4)
                have hf4 : W4.frozen? ⟨bs + 1, u, none⟩ = false := HL4.out.frozen u
                have HL5 : Hid (Blk (W4.setCell ⟨bs + 1, u, none⟩ (.int .i64 (x : Int))) (bs + 1) 34 (la4 (updL la u x))) := Lib.hid (by rw [← la4_set la hu4]; exact HL4.out.set_ u _)
                have HS5 := Lib.hid (HS4.out.far (p := ⟨bs + 1, u, none⟩) (by show bs ≠ bs + 1; omega) (.int .i64 (x : Int)))
                have HQ5 := Lib.hid (HQ4.out.other ((Chg.refl (Only (bs + 1)) W4).setOwn u (.int .i64 (x : Int))) HL4.out (by decide) (by decide) (by decide))
                have HC5 := Lib.hid (HC4.out.setCell (p := ⟨bs + 1, u, none⟩) (.inr (by show w.heap.size ≤ bs + 1; omega)) (.int .i64 (x : Int)))
                clear HX4 HS4 HL4 HQ4 HC4
                go_wp2_with fail
                go_roundw
                case rel => exact ⟨k + 1, S.eraseIdx b, updL la u x, cs.setIfInBounds x (.bool true), by omega, by go_num, HV2.out, ⟨s3, HQ5.out⟩, HS5.out, HCs2.out, HL5.out, HC5.out⟩
                case measure => simp [intOf]; omega
            · have hkK : Hid (k = K) := Lib.hid (by omega)
              have hk2 : decide ((k : Int) < (K : Int)) = false := by simp; omega
              have hE : wq (wT N U) S = [] := by
                have h : S.length = 0 := by rw [HV.out.len]; omega
                rw [List.length_eq_zero_iff.1 h]
                rfl
              rw [hE] at HQ
              go_wp2_with fail
              refine (take_empty HQ.out).mono ?_
              rintro e w2 ⟨rfl, _, hk'⟩
              have HC2 := Lib.hid (Chg.of_kp HC.out hk')
              clear hk'
              go_wp2_with fail
              refine (awake_any _).mono ?_
              rintro e w3 ⟨rfl, hC⟩
              have HC3 := Lib.hid ((HC2.out.alloc _).trans hC)
              clear hC
              go_wp2_with fail
              go_ret
              exact ⟨rfl, HC3.out⟩
theorem queueWaits_walk (v1 : Value) (D : List Int) (v2 : Value) (E : List Int) (W : World) (w0 : SliceAt W v1 1 D.length (D.map (Value.int .i64)) ∧ ∀ n ∈ D, (Lit.int .i64 n).wf = true) (w1 : SliceAt W v2 1 E.length (E.map (Value.int .i64)) ∧ ∀ n ∈ E, (Lit.int .i64 n).wf = true) :
    Calls Try.prog 3 #[v1, v2] W fun e w' => e = .returned (.bool true) ∧ Below W.heap.size W w' :=
  (queueWaits_any v1 v2 D E W w0.1 w1.1).mono fun _ _ ⟨h1, h2⟩ => ⟨h1, h2.below⟩
end Go.Proofs.Ytcefaohdikongaa
