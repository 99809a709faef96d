/- Contract of vector.Parse. No statement is proved here. -/
import Derived.Test.YthkmocfdpmlllabDoorVectorText
import Derived.Test.YthkmocfdpmlllabDoorWireR
import Derived.Test.YthkmocfdpmlllabDoorShelf2
namespace Go.Proofs.YthkmocfdpmlllabDoor
open Go.RowKit Go.Proofs.YthkmocfdpmlllabDoorW.PrintLast
attribute [local go_sem] max2_mx max_two_ eq_nums

theorem bytesWorld_chg (w : World) (e : TypeId) (s : ByteArray) : Chg NoB w (Lib.bytesWorld w e s) :=
  ⟨rfl, rfl, rfl, by rw [Lib.bytesWorld_size]; omega, fun k hk _ => Lib.bytesWorld_at_old w e s k hk⟩
/-- One part of a text, as a number. -/
def pv (x : ByteArray) : Option Int := match Lib.parseIntB 64 x.data.toList with
  | .ok v => some v
  | _ => none
/-- The errors' variables hold what start-up laid. -/
def Errs (w : World) : Prop := (∃ te pe, w.cell? ⟨0, 0, none⟩ = some (.iface te pe)) ∧ ∃ te pe, w.cell? ⟨1, 0, none⟩ = some (.iface te pe)
theorem lt_cell {w : World} {a : Addr} {v : Value} (h : w.cell? a = some v) : a.block < w.heap.size := by
  unfold World.cell? at h
  rcases Nat.lt_or_ge a.block w.heap.size with hlt | hge
  · exact hlt
  · rw [Array.getElem?_eq_none hge] at h; cases h
theorem Errs.chg {w w' : World} (h : Errs w) (hC : Chg NoB w w') : Errs w' := by
  obtain ⟨⟨t1, p1, h1⟩, t2, p2, h2⟩ := h
  exact ⟨⟨t1, p1, (hC.cell (lt_cell h1) id).trans h1⟩, t2, p2, (hC.cell (lt_cell h2) id).trans h2⟩
theorem pi_ok {x : ByteArray} (hx : x.size ≤ 281474976710656) {v : Int} (h : pv x = some v) (w : World) : Calls Tryd.prog 33 #[.string x, .int .i64 10, .int .i64 64] w fun e w' => e = .returned (.tuple #[.int .i64 v, .nilIface]) ∧ Chg NoB w w' := by
  have h2 : Lib.parseIntB 64 x.data.toList = .ok v := by
    unfold pv at h
    split at h
    · next u hu => rw [hu]; rw [Option.some.inj h]
    · cases h
  refine (Tryd.strconv_ParseInt_10_at64_ok x (by omega) v h2 w).mono ?_
  rintro e w' ⟨rfl, rfl | ⟨t, rfl⟩⟩
  · exact ⟨rfl, Chg.refl _ _⟩
  · exact ⟨rfl, bytesWorld_chg _ _ _⟩
theorem pi_bad {x : ByteArray} (hx : x.size ≤ 281474976710656) (h : pv x = none) {w : World} (hE : Errs w) : Calls Tryd.prog 33 #[.string x, .int .i64 10, .int .i64 64] w fun e w' => (∃ n t p, e = .returned (.tuple #[.int .i64 n, .iface t p])) ∧ Chg NoB w w' := by
  obtain ⟨⟨t1, p1, h1⟩, t2, p2, h2⟩ := hE
  unfold pv at h
  cases hp : Lib.parseIntB 64 x.data.toList with
  | ok u => rw [hp] at h; cases h
  | «syntax» =>
    refine (Tryd.strconv_ParseInt_10_at64_syntax x hx hp _ w h1 (.inr ⟨t1, p1, rfl⟩)).mono ?_
    rintro e w' ⟨N, rfl, _, _, hB⟩
    exact ⟨⟨_, _, _, rfl⟩, Chg.of_below hB⟩
  | range =>
    refine (Tryd.strconv_ParseInt_10_at64_range x hx hp _ w h2 (.inr ⟨t2, p2, rfl⟩)).mono ?_
    rintro e w' ⟨N, rfl, _, _, hB⟩
    exact ⟨⟨_, _, _, rfl⟩, Chg.of_below hB⟩
abbrev cm : ByteArray := ⟨#[44]⟩
/-- The parts of a text. -/
def prts (s : ByteArray) : List ByteArray := Lib.splitB cm 0 (Lib.countB s cm) s
theorem prts_length (s : ByteArray) : (prts s).length = Lib.countB s cm + 1 := Lib.splitB_all cm (by decide) 0 _ s rfl
theorem split_size (sep : ByteArray) : ∀ (k : Nat) (s : ByteArray), ∀ x ∈ Lib.splitB sep 0 k s, x.size ≤ s.size
  | 0, s, x, hx => by
    rw [Lib.splitB_zero, List.mem_singleton] at hx
    rw [hx]
    exact Nat.le_refl _
  | k + 1, s, x, hx => by
    unfold Lib.splitB at hx
    split at hx
    · rw [List.mem_singleton] at hx
      rw [hx]
      exact Nat.le_refl _
    · rcases List.mem_cons.1 hx with rfl | hx
      · rw [ByteArray.size_extract]; omega
      · have := split_size sep k _ x hx
        rw [ByteArray.size_extract] at this
        omega
def pvec (P : List ByteArray) : Vc := fun j => ((P[j]?).bind pv).getD 0
def pvk (P : List ByteArray) (k : Nat) : Vc := fun j => if j < k then pvec P j else 0
theorem pvk_succ (P : List ByteArray) (k : Nat) : pvk P (k + 1) = upd (pvk P k) k (pvec P k) := by
  funext j
  unfold upd
  show (if j < k + 1 then pvec P j else 0) = if j = k then _ else if j < k then pvec P j else 0
  by_cases h : j = k
  · subst h; rw [if_pos (by omega), if_pos rfl]
  · rw [if_neg h]
    by_cases h2 : j < k
    · rw [if_pos h2, if_pos (by omega)]
    · rw [if_neg h2, if_neg (by omega)]
theorem pvk_all (P : List ByteArray) : pvk P P.length = pvec P := by
  funext j
  show (if j < P.length then pvec P j else 0) = pvec P j
  by_cases h : j < P.length
  · rw [if_pos h]
  · rw [if_neg h]
    unfold pvec
    rw [List.getElem?_eq_none (by omega)]
    rfl
def pok (s : ByteArray) : Bool := decide ((prts s).length ≤ 8) && ((prts s).all fun x => (pv x).isSome) && may (pvec (prts s)) && ((tx (pvec (prts s))).toList == s.toList)
def pout (s : ByteArray) : Vc := if pok s then pvec (prts s) else v0_
theorem pok_no {s : ByteArray} (h : pok s = false) : pout s = v0_ := by unfold pout; rw [h]; rfl
set_option maxRecDepth 100000 in
set_option maxHeartbeats 8000000 in
theorem parse_any (s : ByteArray) (hs : s.size < 4294967281) (w : World) (hT : Tab w) (hE : Errs w) (hM : ∃ m, w.cell? ⟨3, 0, none⟩ = some (.int .i64 m)) :
    Calls Tryd.prog 17 #[.string s] w fun e w' => e = .returned (.tuple #[vec (pout s), .bool (pok s)]) ∧ Chg NoB w w' := by
  obtain ⟨m, hm⟩ := hM
  have HT := Lib.hid hT
  have HE := Lib.hid hE
  have HM := Lib.hid hm
  have hml := lt_cell hm
  clear hT hE hm
  go_enter Tryd.func17, Tryd.ntmps17
  go_wp2_with fail
  have HA := Lib.hid ((Blk.new w 23 (va v0_)).alloc (Obj.cells (va v0_) 23))
  have HB := Lib.hid (Blk.new_ (k := w.heap.size + 1) (w.alloc (Obj.cells (va v0_) 23)) 23 (va v0_) (by simp))
  have HC := Lib.hid (((Chg.refl NoB w).alloc (Obj.cells (va v0_) 23)).alloc (Obj.cells (va v0_) 23))
  generalize (w.alloc (Obj.cells (va v0_) 23)).alloc (Obj.cells _ 23) = W at *
  refine (Tryd.strings_Split s cm m W hs ((HC.out.cell (p := ⟨3, 0, none⟩) hml id).trans HM.out) (by decide)).mono ?_
  rintro e w1 ⟨rfl, rfl⟩
  have hpl := prts_length s
  rw [← hpl]
  have HP := Lib.hid (Blk.new W 9 ((prts s).map Value.string).toArray)
  have HA1 := Lib.hid (HA.out.alloc (Obj.cells ((prts s).map Value.string).toArray 9))
  have HB1 := Lib.hid (HB.out.alloc (Obj.cells ((prts s).map Value.string).toArray 9))
  have HC1 := Lib.hid (HC.out.alloc (Obj.cells ((prts s).map Value.string).toArray 9))
  clear HA HB HC hpl
  have hpeq : Lib.splitB cm 0 (Lib.countB s cm) s = prts s := rfl
  rw [hpeq]
  have HT1 := Lib.hid (tab_chg HT.out HC1.out)
  have HE1 := Lib.hid (HE.out.chg HC1.out)
  have HSz : Hid (∀ x ∈ prts s, x.size ≤ 281474976710656) := Lib.hid fun x hx => by
    have := split_size cm _ s x hx
    omega
  have HE0 := HE
  have HT0 := HT
  clear hpeq HM hml HT1 HE1
  generalize W.heap.size = pb at *
  generalize W.alloc _ = W1 at *
  have HOk : Hid (pok s = (decide ((prts s).length ≤ 8) && ((prts s).all fun x => (pv x).isSome) && may (pvec (prts s)) && ((tx (pvec (prts s))).toList == s.toList))) := Lib.hid rfl
  have HOut : Hid (pout s = if pok s then pvec (prts s) else v0_) := Lib.hid rfl
  have hb10 : (1 : Nat) ≤ (prts s).length := by rw [prts_length]; omega
  generalize prts s = P at *
  obtain ⟨f0, f1, f2, f3, f4, f5, f6, f7⟩ := eight_frozen HA1.out
  obtain ⟨c0, c1, c2, c3, c4, c5, c6, c7⟩ := eight HA1.out
  by_cases h8 : P.length ≤ 8
  · have hd : decide ((8 : Int) < (P.length : Int)) = false := by simp; omega
    clear c0 c1 c2 c3 c4 c5 c6 c7 f0 f1 f2 f3 f4 f5 f6 f7
    go_wp2_with fail
    go_loopw [18] (fun i wr => ∃ k : Nat, k ≤ P.length ∧ i = .int .i64 k ∧ (∀ j (h : j < k), ∀ x, P[j]? = some x → (pv x).isSome = true) ∧ Blk wr pb 9 (P.map Value.string).toArray ∧ Blk wr w.heap.size 23 (va v0_) ∧ Blk wr (w.heap.size + 1) 23 (va (pvk P k)) ∧ Chg NoB w wr ∧ Chg (Only (w.heap.size + 1)) W1 wr) (fun i _ => P.length - (intOf i).toNat)
    case atStart => exact ⟨0, Nat.zero_le _, rfl, fun j h => absurd h (by omega), HP.out, HA1.out, HB1.out, HC1.out, Chg.refl _ _⟩
    case round =>
      clear HP HA1 HB1 HC1
      obtain ⟨k, hk, rfl, hall, hP, hA, hB, hC, hC1⟩ := hrel
      have HAll := Lib.hid hall
      have HP := Lib.hid hP
      have HA := Lib.hid hA
      have HB := Lib.hid hB
      have HC := Lib.hid hC
      have HC1 := Lib.hid hC1
      clear hall hP hA hB hC hC1
      by_cases hlt : k < P.length
      · have hk2 : decide ((k : Int) < (P.length : Int)) = true := by simpa using hlt
        have hk3 : (k : Int) < (P.length : Int) := by omega
        have hv : wr.cell? ⟨pb, k, none⟩ = some (.string P[k]) := (HP.out.cell k).trans (by simp [hlt])
        have HX : Hid (P[k]? = some P[k] ∧ P[k].size ≤ 281474976710656) := Lib.hid ⟨List.getElem?_eq_getElem hlt, HSz.out _ (List.getElem_mem hlt)⟩
        generalize P[k] = x at *
        have HER : Hid (Errs wr) := Lib.hid (HE0.out.chg HC.out)
        go_wp2_with fail
        cases hx : pv x with
        | some n =>
          refine (pi_ok HX.out.2 hx _).mono ?_
          rintro e w2 ⟨rfl, hC⟩
          have HP2 := Lib.hid (HP.out.chg hC id)
          have HA2 := Lib.hid (HA.out.chg hC id)
          have HB2 := Lib.hid (HB.out.chg hC id)
          have HC2 := Lib.hid (HC.out.trans hC)
          have HD2 := Lib.hid (HC1.out.trans hC.of_no)
          have HN : Hid (pvec P k = n) := Lib.hid (by unfold pvec; rw [HX.out.1]; simp [hx])
          have HX2 : Hid ((pv x).isSome = true) := Lib.hid (by rw [hx]; rfl)
          clear hC hx HP HA HB HC HC1
          have hcx : w2.cell? ⟨w.heap.size + 1, k, none⟩ = some (.int .i64 (pvk P k k)) := (HB2.out.cell k).trans (va_get _ (by omega))
          have hfx : w2.frozen? ⟨w.heap.size + 1, k, none⟩ = false := HB2.out.frozen k
          have hk8 : (k : Int) < 8 := by omega
          have HB3 := Lib.hid (bset HB2.out (show k < 8 by omega) n)
          have HP3 := Lib.hid (HP2.out.far (p := ⟨w.heap.size + 1, k, none⟩) (fun e => (Blk.ne_ HP2.out HB2.out (by decide)) e) (.int .i64 n))
          have HA3 := Lib.hid (HA2.out.far (p := ⟨w.heap.size + 1, k, none⟩) (by show w.heap.size ≠ w.heap.size + 1; omega) (.int .i64 n))
          have HC3 := Lib.hid (HC2.out.setCell (p := ⟨w.heap.size + 1, k, none⟩) (.inr (by show w.heap.size ≤ w.heap.size + 1; omega)) (.int .i64 n))
          have HD3 := Lib.hid (HD2.out.setCell (p := ⟨w.heap.size + 1, k, none⟩) (.inl rfl) (.int .i64 n))
          clear HP2 HA2 HB2 HC2 HD2
          go_wp2_with fail
          go_roundw
          case rel => exact ⟨k + 1, by omega, by go_num, fun j hj y hy => by
            rcases Nat.lt_succ_iff_lt_or_eq.1 hj with h | rfl
            · exact HAll.out j h y hy
            · rw [HX.out.1] at hy; cases hy; exact HX2.out, HP3.out, HA3.out, by rw [pvk_succ, HN.out]; exact HB3.out, HC3.out, HD3.out⟩
          case measure => simp [intOf]; omega
        | none =>
          refine (pi_bad HX.out.2 hx (HER.out)).mono ?_
          rintro e w2 ⟨⟨n, t, p, rfl⟩, hC⟩
          have hfalse : pok s = false := by
            have h1 : (P.all fun x => (pv x).isSome) = false := by
              rw [List.all_eq_false]
              exact ⟨x, List.mem_of_getElem? HX.out.1, by rw [hx]; simp⟩
            rw [HOk.out, h1]
            simp
          have HF : Hid (pout s = v0_ ∧ pok s = false) := Lib.hid ⟨pok_no hfalse, hfalse⟩
          have HA2 := Lib.hid (HA.out.chg hC id)
          have HC2 := Lib.hid (HC.out.trans hC)
          clear hC hx HP HA HB HC HC1 hfalse
          obtain ⟨f0, f1, f2, f3, f4, f5, f6, f7⟩ := eight_frozen HA2.out
          obtain ⟨c0, c1, c2, c3, c4, c5, c6, c7⟩ := eight HA2.out
          go_wp2_with fail
          exact back_vec2 rfl v0_ (.bool false) rfl rfl (eight_set HA2.out 0 0 0 0 0 0 0 0) rfl ⟨by rw [HF.out.1, HF.out.2], eight_chg HC2.out (.inr (Nat.le_refl _)) 0 0 0 0 0 0 0 0⟩
      · obtain rfl : k = P.length := by omega
        have hk2 : decide ((P.length : Int) < (P.length : Int)) = false := by simp
        have hall : (P.all fun x => (pv x).isSome) = true := by
          rw [List.all_eq_true]
          intro x hx
          obtain ⟨j, hj, rfl⟩ := List.getElem_of_mem hx
          exact HAll.out j hj _ (List.getElem?_eq_getElem hj)
        have HB2 : Hid (Blk wr (w.heap.size + 1) 23 (va (pvec P))) := Lib.hid (by rw [← pvk_all P]; exact HB.out)
        have HO2 : Hid (pok s = (may (pvec P) && ((tx (pvec P)).toList == s.toList))) := Lib.hid (by rw [HOk.out, decide_eq_true h8, hall]; simp)
        clear hall HB HAll HOk
        obtain ⟨c0, c1, c2, c3, c4, c5, c6, c7⟩ := eight HB2.out
        go_wp2_with fail
        refine (may_any (pvec P) _).mono ?_
        rintro e w2 ⟨rfl, hC⟩
        have HA3 := Lib.hid (HA.out.chg hC id)
        have HB3 := Lib.hid (HB2.out.chg hC id)
        have HC3 := Lib.hid (HC.out.trans hC)
        clear hC HA HB2 HC HC1 HP c0 c1 c2 c3 c4 c5 c6 c7
        cases hm : may (pvec P) with
        | false =>
          have hfalse : pok s = false := by rw [HO2.out, hm]; rfl
          have HF : Hid (pout s = v0_ ∧ pok s = false) := Lib.hid ⟨pok_no hfalse, hfalse⟩
          clear hfalse hm
          obtain ⟨f0, f1, f2, f3, f4, f5, f6, f7⟩ := eight_frozen HA3.out
          obtain ⟨c0, c1, c2, c3, c4, c5, c6, c7⟩ := eight HA3.out
          go_wp2_with fail
          exact back_vec2 rfl v0_ (.bool false) rfl rfl (eight_set HA3.out 0 0 0 0 0 0 0 0) rfl ⟨by rw [HF.out.1, HF.out.2], eight_chg HC3.out (.inr (Nat.le_refl _)) 0 0 0 0 0 0 0 0⟩
        | true =>
          have HMy := Lib.hid hm
          obtain ⟨c0, c1, c2, c3, c4, c5, c6, c7⟩ := eight HB3.out
          clear hm
          go_wp2_with fail
          refine (text_any (pvec P) HMy.out _ (tab_chg HT0.out HC3.out)).mono ?_
          clear c0 c1 c2 c3 c4 c5 c6 c7
          rintro e w3 ⟨rfl, hC⟩
          have HA4 := Lib.hid (HA3.out.chg hC id)
          have HB4 := Lib.hid (HB3.out.chg hC id)
          have HC4 := Lib.hid (HC3.out.trans hC)
          clear hC HA3 HB3 HC3
          obtain ⟨f0, f1, f2, f3, f4, f5, f6, f7⟩ := eight_frozen HA4.out
          obtain ⟨c0, c1, c2, c3, c4, c5, c6, c7⟩ := eight HA4.out
          cases ht : (tx (pvec P)).toList == s.toList with
          | false =>
            have hfalse : pok s = false := by rw [HO2.out, ht, Bool.and_false]
            have HF : Hid (pout s = v0_ ∧ pok s = false) := Lib.hid ⟨pok_no hfalse, hfalse⟩
            clear hfalse
            go_wp2_with fail
            exact back_vec2 rfl v0_ (.bool false) rfl rfl (eight_set HA4.out 0 0 0 0 0 0 0 0) rfl ⟨by rw [HF.out.1, HF.out.2], eight_chg HC4.out (.inr (Nat.le_refl _)) 0 0 0 0 0 0 0 0⟩
          | true =>
            have htrue : pok s = true := by rw [HO2.out, ht, HMy.out]; rfl
            have HF : Hid (pout s = pvec P ∧ pok s = true) := Lib.hid ⟨by rw [HOut.out, if_pos htrue], htrue⟩
            clear htrue
            obtain ⟨d0, d1, d2, d3, d4, d5, d6, d7⟩ := eight HB4.out
            go_wp2_with fail
            exact back_vec2 rfl (pvec P) (.bool true) rfl rfl (eight_set HA4.out _ _ _ _ _ _ _ _) rfl ⟨by rw [HF.out.1, HF.out.2], eight_chg HC4.out (.inr (Nat.le_refl _)) _ _ _ _ _ _ _ _⟩
  · have hd : decide ((8 : Int) < (P.length : Int)) = true := by simp; omega
    have hfalse : pok s = false := by rw [HOk.out, decide_eq_false h8]; rfl
    have HF : Hid (pout s = v0_ ∧ pok s = false) := Lib.hid ⟨pok_no hfalse, hfalse⟩
    clear hfalse
    go_wp2_with fail
    exact back_vec2 rfl v0_ (.bool false) rfl rfl (eight_set HA1.out 0 0 0 0 0 0 0 0) rfl ⟨by rw [HF.out.1, HF.out.2], eight_chg HC1.out (.inr (Nat.le_refl _)) 0 0 0 0 0 0 0 0⟩
end Go.Proofs.YthkmocfdpmlllabDoor
