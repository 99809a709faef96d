/- Contract of the reference's Parse. No statement is proved here. -/
import Derived.Test.YthkmocfdpmlllabDoorRefParseLaw
import Derived.Test.YthkmocfdpmlllabDoorRefText
import Derived.Test.YthkmocfdpmlllabDoorRefNumber
import Derived.Test.YthkmocfdpmlllabDoorWireRefV
namespace Go.Proofs.YthkmocfdpmlllabDoor
open Go.RowKit Go.Proofs.YthkmocfdpmlllabDoorW.PrintLast
attribute [local go_sem] max2_mx max_two_ eq_nums

def NumOut (x : ByteArray) (m : Int) (b : Bool) : Prop := ∀ n : Int, 0 ≤ n → n ≤ 1099511627776 → x = dec n → m = n ∧ b = true
theorem rnum_both (x : ByteArray) (hx : x.size ≤ 200) (w : World) : Calls Tryd.prog 34 #[.string x] w fun e w' => (∃ m b, e = .returned (.tuple #[.int .i64 m, .bool b]) ∧ NumOut x m b) ∧ w' = w := by
  by_cases h : ∃ n : Nat, n ≤ 1099511627776 ∧ x = dec (n : Int)
  · obtain ⟨n, hn, rfl⟩ := h
    refine (rnum_dec n hn w).mono ?_
    rintro e w' ⟨rfl, rfl⟩
    exact ⟨⟨_, _, rfl, fun n' h0 h1 he => ⟨itoa_inj_ (congrArg (fun z => z.data.toList) he), rfl⟩⟩, rfl⟩
  · refine (rnum_any x hx w).mono ?_
    rintro e w' ⟨⟨m, b, rfl⟩, rfl⟩
    refine ⟨⟨_, _, rfl, fun n h0 h1 he => absurd ?_ h⟩, rfl⟩
    obtain ⟨u, rfl⟩ := Int.eq_ofNat_of_zero_le h0
    exact ⟨u, by omega, he⟩
theorem may_int {f : Vc} (hm : may f = true) : ∀ k, k < 8 → -9223372036854775808 ≤ f k ∧ f k ≤ 9223372036854775807 := fun k hk => by
  have := may_iff.1 hm k hk
  unfold inr_ at this
  omega
theorem tx_short (f : Vc) (hf : ∀ k, k < 8 → -9223372036854775808 ≤ f k ∧ f k ≤ 9223372036854775807) : (tx f).size ≤ 200 := by
  have ht := top_le f 7
  have hx : ∀ x ∈ (decs f (top f 7 + 1)).map (·.data.toList), x.length ≤ 21 := by
    intro x hx
    simp only [decs, List.map_map, List.mem_map, List.mem_range] at hx
    obtain ⟨i, hi, rfl⟩ := hx
    exact Lib.itoa_length_le _ (hf i (by omega)).1 (hf i (by omega)).2
  have hl : ((decs f (top f 7 + 1)).map (·.data.toList)).length ≤ 8 := by rw [List.length_map, decs_length]; omega
  have hs : (tx f).size = (Lib.join ((decs f (top f 7 + 1)).map (·.data.toList)) [44]).length := by rw [← tx_list]; simp
  rw [hs]
  generalize (decs f (top f 7 + 1)).map (·.data.toList) = L at *
  match L, hx, hl with
  | [], _, _ => simp [Lib.join]
  | x :: r, hx, hl =>
    have h1 := hx x List.mem_cons_self
    have h2 := lens_le 21 r fun y hy => hx y (List.mem_cons_of_mem _ hy)
    simp only [List.length_cons] at hl
    rw [Lib.join_cons, List.length_append, Lib.joinTail_length]
    simp only [List.length_cons, List.length_nil]
    omega
set_option maxRecDepth 100000 in
set_option maxHeartbeats 8000000 in
theorem rparse_any (s : ByteArray) (w : World) (hT : Tab w) :
    Calls Tryd.prog 18 #[.string s] w fun e w' => e = .returned (.tuple #[vec (pout s), .bool (pok s)]) ∧ Chg NoB w w' := by
  have HT := Lib.hid hT
  clear hT
  go_enter Tryd.func18, Tryd.ntmps18
  by_cases h200 : s.size ≤ 200
  · have h2 : decide ((200 : Int) < (s.size : Int)) = false := decide_eq_false (by omega)
    go_wp2_with fail
    have HA := Lib.hid ((Blk.new w 23 (va v0_)).alloc (Obj.cells (va v0_) 23))
    have HB := Lib.hid (Blk.new_ (k := w.heap.size + 1) (w.alloc (Obj.cells (va v0_) 23)) 23 (va v0_) (by simp))
    have HC := Lib.hid (((Chg.refl NoB w).alloc (Obj.cells (va v0_) 23)).alloc (Obj.cells (va v0_) 23))
    have HR : Hid (Rat s 0 0 0 v0_) := Lib.hid (Rat.start s)
    generalize (w.alloc (Obj.cells (va v0_) 23)).alloc (Obj.cells _ 23) = W at *
    go_loopw [5, 6, 7] (fun a k i wr => ∃ (ai ki ii : Nat) (v : Vc), a = .int .i64 ai ∧ k = .int .i64 ki ∧ i = .int .i64 ii ∧ ai ≤ ii ∧ ii ≤ s.size + 1 ∧ ki ≤ 8 ∧ Hid (Rat s ii ai ki v) ∧ Hid (Blk wr w.heap.size 23 (va v0_)) ∧ Hid (Blk wr (w.heap.size + 1) 23 (va v)) ∧ Hid (Chg NoB w wr)) (fun _ _ i _ => s.size + 1 - (intOf i).toNat)
    case atStart => exact ⟨0, 0, 0, v0_, rfl, rfl, rfl, Nat.le_refl _, Nat.zero_le _, by decide, HR, HA, HB, HC⟩
    case round =>
      clear HA HB HC HR
      obtain ⟨a, k, i, v, rfl, rfl, rfl, hai, hi, hk, HR, HA, HB, HC⟩ := hrel
      by_cases hle : i ≤ s.size
      · have hle1 : (i : Int) ≤ (s.size : Int) := by omega
        have hle2 : decide ((i : Int) ≤ (s.size : Int)) = true := decide_eq_true hle1
        by_cases hgo : ∃ h : i < s.size, s[i] ≠ 44
        · obtain ⟨hlt, hne⟩ := hgo
          have hlt1 : (i : Int) < (s.size : Int) := by omega
          have hne1 : ((s[i].toNat : Int) == 44) = false := by
            simp
            intro h
            exact hne (UInt8.toNat_inj.1 (show s[i].toNat = 44 by omega))
          have HR2 : Hid (Rat s (i + 1) a k v) := Lib.hid (HR.out.next hlt hne)
          clear hne HR
          go_wp2_with fail
          go_roundw
          case rel => exact ⟨a, k, i + 1, v, rfl, rfl, by go_num, by omega, by omega, hk, HR2, HA, HB, HC⟩
          case measure => simp [intOf]; omega
        · have HS : Hid (s.data.toList[i]? = none ∨ s.data.toList[i]? = some 44) := Lib.hid (by
            rcases Nat.lt_or_ge i s.size with h | h
            · right
              have h3 : s[i] = 44 := by
                by_cases h4 : s[i] = 44
                · exact h4
                · exact absurd ⟨h, h4⟩ hgo
              rw [Array.getElem?_toList, Array.getElem?_eq_getElem (show i < s.data.size from h), ← h3]
              rfl
            · left
              exact List.getElem?_eq_none (by rw [sz_list]; exact h))
          go_upto_region 8 with fail
          go_cut [30] from 21 to 30 (fun c wx => c = .bool false ∧ wx = wr)
          case first =>
            by_cases hlt : i < s.size
            · have hlt1 : (i : Int) < (s.size : Int) := by omega
              have hne1 : ((s[i].toNat : Int) == 44) = true := by
                have h4 : s[i] = 44 := by
                  by_cases h4 : s[i] = 44
                  · exact h4
                  · exact absurd ⟨hlt, h4⟩ hgo
                rw [h4]
                rfl
              clear hgo
              have hne2 : ((s[i].toNat : Int) != 44) = false := by
                rw [bne, hne1]
                rfl
              go_wp2_with fail
              go_meet
              case rel => exact ⟨rfl, rfl⟩
            · have hlt1 : decide ((i : Int) < (s.size : Int)) = false := decide_eq_false (by omega)
              clear hgo
              go_wp2_with fail
              go_meet
              case rel => exact ⟨rfl, rfl⟩
          case rest =>
            obtain ⟨rfl, rfl⟩ := hcut
            clear hgo
            go_wp2_with fail
            refine (rnum_both (s.extract a i) (by rw [ByteArray.size_extract]; omega) _).mono ?_
            rintro e w1 ⟨⟨m, bb, rfl, hm⟩, rfl⟩
            have HM := Lib.hid hm
            clear hm
            have HP : Hid (∀ f, may f = true → tx f = s → k < 8 ∧ m = f k ∧ bb = true) := Lib.hid fun f hmf hs => by
              obtain ⟨h1, h2, h3, h4⟩ := HR.out.part HS.out hle f hmf hs
              obtain ⟨h5, h6⟩ := HM.out (f k) h3 h4 h2
              exact ⟨h1, h5, h6⟩
            cases bb with
            | false =>
              have HF : Hid (pok s = false) := Lib.hid (pok_none fun f hmf hs => by have := (HP.out f hmf hs).2.2; cases this)
              obtain ⟨c0, c1, c2, c3, c4, c5, c6, c7⟩ := eight HA.out
              have f0 := HA.out.frozen
              have Hf0 := Lib.hid f0
              clear f0
              have g0 := Hf0.out 0
              have g1 := Hf0.out 1
              have g2 := Hf0.out 2
              have g3 := Hf0.out 3
              have g4 := Hf0.out 4
              have g5 := Hf0.out 5
              have g6 := Hf0.out 6
              have g7 := Hf0.out 7
              go_wp2_with fail
              exact back_vec2 rfl v0_ (.bool false) rfl rfl (eight_set HA.out 0 0 0 0 0 0 0 0) rfl ⟨by rw [HF.out, pok_no HF.out], eight_chg HC.out (.inr (Nat.le_refl _)) 0 0 0 0 0 0 0 0⟩
            | true =>
              by_cases hk8 : k < 8
              · have hk8b : decide ((8 : Int) ≤ (k : Int)) = false := decide_eq_false (by omega)
                have hk8i : (k : Int) < 8 := by omega
                have e0 := (HB.out.cell k).trans (va_get v hk8)
                have g0 := HB.out.frozen k
                have HR2 := Lib.hid (HR.out.stop HS.out hle (m := m) fun f hmf hs => (HP.out f hmf hs).2.1)
                have hb2 := HB.out.set_ k (.int .i64 m)
                rw [va_set v hk8] at hb2
                have HB2 := Lib.hid hb2
                clear hb2
                have HA2 := Lib.hid (HA.out.far (p := ⟨w.heap.size + 1, k, none⟩) (by show w.heap.size ≠ w.heap.size + 1; omega) (.int .i64 m))
                have HC2 := Lib.hid (HC.out.setCell (p := ⟨w.heap.size + 1, k, none⟩) (.inr (by show w.heap.size ≤ w.heap.size + 1; omega)) (.int .i64 m))
                clear HB HA HC HR HS HP HM
                go_wp2_with fail
                go_roundw
                case rel => exact ⟨i + 1, k + 1, i + 1, upd v k m, by go_num, by go_num, by go_num, by omega, by omega, by omega, HR2, HA2, HB2, HC2⟩
                case measure => simp [intOf]; omega
              · have hk8b : decide ((8 : Int) ≤ (k : Int)) = true := decide_eq_true (by omega)
                have HF : Hid (pok s = false) := Lib.hid (pok_none fun f hmf hs => hk8 (HP.out f hmf hs).1)
                obtain ⟨c0, c1, c2, c3, c4, c5, c6, c7⟩ := eight HA.out
                have Hf0 := Lib.hid HA.out.frozen
                have g0 := Hf0.out 0
                have g1 := Hf0.out 1
                have g2 := Hf0.out 2
                have g3 := Hf0.out 3
                have g4 := Hf0.out 4
                have g5 := Hf0.out 5
                have g6 := Hf0.out 6
                have g7 := Hf0.out 7
                go_wp2_with fail
                exact back_vec2 rfl v0_ (.bool false) rfl rfl (eight_set HA.out 0 0 0 0 0 0 0 0) rfl ⟨by rw [HF.out, pok_no HF.out], eight_chg HC.out (.inr (Nat.le_refl _)) 0 0 0 0 0 0 0 0⟩
      · have hi1 : i = s.size + 1 := by omega
        have hle2 : decide ((i : Int) ≤ (s.size : Int)) = false := decide_eq_false (by omega)
        obtain ⟨d0, d1, d2, d3, d4, d5, d6, d7⟩ := eight HB.out
        go_wp2_with fail
        refine (RR.rmay_any v _).mono ?_
        rintro e w2 ⟨rfl, hC⟩
        have HB1 := Lib.hid (HB.out.chg hC id)
        have HA1 := Lib.hid (HA.out.chg hC id)
        have HC1 := Lib.hid (HC.out.trans hC)
        clear hC d0 d1 d2 d3 d4 d5 d6 d7 HB HA HC
        cases hmv : may v with
        | false =>
          have HF : Hid (pok s = false) := Lib.hid (HR.out.done hi1 fun h => by rw [hmv] at h; cases h.1)
          clear hmv
          obtain ⟨c0, c1, c2, c3, c4, c5, c6, c7⟩ := eight HA1.out
          have Hf0 := Lib.hid HA1.out.frozen
          have g0 := Hf0.out 0
          have g1 := Hf0.out 1
          have g2 := Hf0.out 2
          have g3 := Hf0.out 3
          have g4 := Hf0.out 4
          have g5 := Hf0.out 5
          have g6 := Hf0.out 6
          have g7 := Hf0.out 7
          go_wp2_with fail
          exact back_vec2 rfl v0_ (.bool false) rfl rfl (eight_set HA1.out 0 0 0 0 0 0 0 0) rfl ⟨by rw [HF.out, pok_no HF.out], eight_chg HC1.out (.inr (Nat.le_refl _)) 0 0 0 0 0 0 0 0⟩
        | true =>
          have HV := Lib.hid hmv
          clear hmv
          obtain ⟨d0, d1, d2, d3, d4, d5, d6, d7⟩ := eight HB1.out
          go_wp2_with fail
          clear d0 d1 d2 d3 d4 d5 d6 d7
          refine (rtext_int v (may_int HV.out) _ (tab_chg HT.out HC1.out)).mono ?_
          rintro e w3 ⟨rfl, hC⟩
          have HB2 := Lib.hid (HB1.out.chg hC id)
          have HA2 := Lib.hid (HA1.out.chg hC id)
          have HC2 := Lib.hid (HC1.out.trans hC)
          clear hC HB1 HA1 HC1
          obtain ⟨c0, c1, c2, c3, c4, c5, c6, c7⟩ := eight HA2.out
          obtain ⟨d0, d1, d2, d3, d4, d5, d6, d7⟩ := eight HB2.out
          have Hf0 := Lib.hid HA2.out.frozen
          have g0 := Hf0.out 0
          have g1 := Hf0.out 1
          have g2 := Hf0.out 2
          have g3 := Hf0.out 3
          have g4 := Hf0.out 4
          have g5 := Hf0.out 5
          have g6 := Hf0.out 6
          have g7 := Hf0.out 7
          by_cases he : tx v = s
          · have hp := pok_iff.2 ⟨v, HV.out, he⟩
            have HP := Lib.hid hp
            have HO := Lib.hid (pout_is HV.out he)
            clear hp
            have hb : ((tx v).toList == s.toList) = true := by rw [he]; simp
            clear he
            go_wp2_with fail
            exact back_vec2 rfl v (.bool true) rfl rfl (eight_set HA2.out _ _ _ _ _ _ _ _) rfl ⟨by rw [HP.out, HO.out], eight_chg HC2.out (.inr (Nat.le_refl _)) _ _ _ _ _ _ _ _⟩
          · have HF : Hid (pok s = false) := Lib.hid (HR.out.done hi1 fun h => he h.2)
            have hb : ((tx v).toList == s.toList) = false := by
              rw [Bool.eq_false_iff]
              intro h
              rw [beq_iff_eq, ByteArray.toList_eq, ByteArray.toList_eq] at h
              exact he (ByteArray.ext (Array.toList_inj.1 h))
            clear he
            go_wp2_with fail
            exact back_vec2 rfl v0_ (.bool false) rfl rfl (eight_set HA2.out 0 0 0 0 0 0 0 0) rfl ⟨by rw [HF.out, pok_no HF.out], eight_chg HC2.out (.inr (Nat.le_refl _)) 0 0 0 0 0 0 0 0⟩
  · have h2 : decide ((200 : Int) < (s.size : Int)) = true := decide_eq_true (by omega)
    have HF : Hid (pok s = false) := Lib.hid (pok_none fun f hm hs => by have := tx_short f (may_int hm); rw [hs] at this; omega)
    go_wp2_with fail
    have HA := ((Blk.new w 23 (va v0_)).alloc (Obj.cells (va v0_) 23))
    have HC := (((Chg.refl NoB w).alloc (Obj.cells (va v0_) 23)).alloc (Obj.cells (va v0_) 23))
    exact back_vec2 rfl v0_ (.bool false) rfl rfl HA rfl ⟨by rw [HF.out, pok_no HF.out], HC⟩
end Go.Proofs.YthkmocfdpmlllabDoor
