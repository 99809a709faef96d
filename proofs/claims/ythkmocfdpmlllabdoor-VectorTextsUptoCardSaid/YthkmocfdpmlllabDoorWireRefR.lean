/- The reference's reader. No statement is proved here. -/
import Derived.Test.YthkmocfdpmlllabDoorWireR
namespace Go.Proofs.YthkmocfdpmlllabDoor.RR
open Go.RowKit Go.Proofs.YthkmocfdpmlllabDoorW.PrintLast

/-- Block g is the reference's reader. -/
structure RA (w : World) (g : Nat) (err : Int) (zs : List Int) (v : Value) : Prop where
  blk : Blk w g 39 #[v, .int .i64 err]
  rd : RdB w v zs
theorem RA.chg {w w' : World} {g : Nat} {err : Int} {zs : List Int} {v : Value} (q : RA w g err zs v) (h : Chg NoB w w') : RA w' g err zs v := ⟨q.blk.chg h id, q.rd.keep fun _ _ hb => hb.chg h id⟩
theorem RA.form {w : World} {g : Nat} {err : Int} {zs : List Int} {v : Value} (q : RA w g err zs v) : ∃ A cap, v = .slice A zs.length cap := by
  obtain ⟨A, cap, hv, _⟩ := q.rd.lies
  exact ⟨A, cap, hv⟩
theorem store_ {w w' : World} {g : Nat} {x : Value} {zs : List Int} {cs : Array Value} (h : RdB w x zs) (hb : Blk w g 39 cs) (hC : Chg (Only g) w w') : RdB w' x zs :=
  h.keep fun _ _ hB => hB.chg hC fun e => (Blk.ne_ hB hb (by decide)) e
theorem RA.other {w w' : World} {g b : Nat} {err : Int} {zs : List Int} {v : Value} {t : TypeId} {cs : Array Value} (q : RA w g err zs v) (h : Chg (Only b) w w') (hb : Blk w b t cs) (h1 : t ≠ 39) (h2 : t ≠ 5) : RA w' g err zs v :=
  ⟨q.blk.chg h (fun e => (q.blk.ne_ hb (Ne.symm h1)) e), q.rd.keep fun _ _ hB => hB.chg h fun e => (Blk.ne_ hB hb (Ne.symm h2)) e⟩
set_option maxRecDepth 100000 in
theorem fail_any {w : World} {g : Nat} {zs : List Int} {v : Value} (q : RA w g 0 zs v) (x : Int) :
    Calls Tryd.prog 54 #[.pointer (some ⟨g, 0, none⟩), .int .i64 x] w fun e w' => e = .returned (.tuple #[]) ∧ RA w' g x [] (.slice none 0 0) ∧ Chg (Only g) w w' := by
  obtain ⟨A, cap, rfl⟩ := q.form
  have c0 := q.blk.cell 0
  have c1 := q.blk.cell 1
  have f0 := q.blk.frozen 0
  have f1 := q.blk.frozen 1
  have HQ := Lib.hid q
  clear q
  go_enter Tryd.func54, Tryd.ntmps54
  go_wp2_with fail
  go_end0
  exact ⟨rfl, ⟨(HQ.out.blk.set_ 1 _).set_ 0 _, RdB.nil _⟩, ((Chg.refl (Only g) w).setOwn 1 _).setOwn 0 _⟩
set_option maxRecDepth 100000 in
theorem end_any {w : World} {g : Nat} {err : Int} {zs : List Int} {v : Value} (q : RA w g err zs v) :
    Calls Tryd.prog 15 #[.pointer (some ⟨g, 0, none⟩)] w fun e w' => e = .returned (.int .i64 (endE err zs)) ∧ w' = w := by
  obtain ⟨A, cap, rfl⟩ := q.form
  have c0 := q.blk.cell 0
  have c1 := q.blk.cell 1
  clear q
  cases he : err == 0 with
  | false =>
    have h1 : endE err zs = err := by unfold endE; rw [if_neg (by rintro ⟨rfl, _⟩; simp at he)]
    rw [h1]
    go_enter Tryd.func15, Tryd.ntmps15
    go_wp2_with fail
    go_ret
    exact ⟨rfl, rfl⟩
  | true =>
    have he0 : err = 0 := by simpa using he
    by_cases hl : 0 < zs.length
    · have h1 : endE err zs = 3 := by unfold endE; rw [if_pos ⟨he0, hl⟩]
      have hd : decide (0 < zs.length) = true := decide_eq_true hl
      rw [h1]
      clear he0 hl
      go_enter Tryd.func15, Tryd.ntmps15
      go_wp2_with fail
      go_ret
      exact ⟨rfl, rfl⟩
    · have h1 : endE err zs = err := by unfold endE; rw [if_neg (by rintro ⟨_, h⟩; exact hl h)]
      have hd : decide (0 < zs.length) = false := decide_eq_false hl
      rw [h1]
      clear he0 hl
      go_enter Tryd.func15, Tryd.ntmps15
      go_wp2_with fail
      go_ret
      exact ⟨rfl, rfl⟩
/-- What a reader's turn comes to. -/
structure Rdn (w : World) (g : Nat) (val : Value) (err : Int) (zs : List Int) (e : Ending) (w' : World) : Prop where
  end_ : e = .returned val
  at_ : ∃ v', RA w' g err zs v'
  chg : Chg (Only g) w w'
theorem rd_drop {w : World} {b off cap k : Nat} {zs : List Int} {cs : Array Value} (hB : Blk w b 5 cs) (hcl : ∀ j u, (by8 zs)[j]? = some u → cs[off + j]? = some u) (hk : k ≤ zs.length) (hcap : zs.length ≤ cap) (hmax : cap ≤ 9223372036854775807) (p : Option Addr) (hp : 0 < (zs.drop k).length → p = some ⟨b, off + k, none⟩) :
    RdB w (.slice p (zs.length - k) (cap - k)) (zs.drop k) :=
  ⟨⟨p, cap - k, by rw [List.length_drop], by rw [List.length_drop]; omega, by omega, fun h => ⟨b, off + k, cs, hp h, hB, fun j u hu => by
    have := hcl (k + j) u (by
      have e : by8 (zs.drop k) = (by8 zs).drop k := by simp [by8]
      rw [e, List.getElem?_drop] at hu
      exact hu)
    rwa [show off + k + j = off + (k + j) by omega]⟩⟩⟩
theorem and_not (x : Int) : bits .and .u8 x 127 = bits .andNot .u8 x 128 := by
  have h : ~~~(BitVec.ofInt 8 128) = BitVec.ofInt 8 127 := by decide
  show IntKind.u8.wrap ((BitVec.ofInt 8 x &&& BitVec.ofInt 8 127).toNat : Int) = IntKind.u8.wrap ((BitVec.ofInt 8 x &&& ~~~(BitVec.ofInt 8 128)).toNat : Int)
  rw [h]
set_option maxRecDepth 100000 in
set_option maxHeartbeats 8000000 in
theorem num_read {w : World} {g : Nat} {zs : List Int} {v : Value} (q : RA w g 0 zs v) :
    Calls Tryd.prog 42 #[.pointer (some ⟨g, 0, none⟩)] w (Rdn w g (.int .u64 (rnum 10 0 0 zs).1) (rnum 10 0 0 zs).2.1 (rnum 10 0 0 zs).2.2) := by
  have HQ := Lib.hid q
  obtain ⟨⟨N, Er, R⟩, hs⟩ : ∃ t, rnum 10 0 0 zs = t := ⟨_, rfl⟩
  rw [hs]
  have HS := Lib.hid hs
  clear q hs
  go_enter Tryd.func42, Tryd.ntmps42
  go_wp2_with fail
  go_loopw [3, 4] (fun n i wr => ∃ (k : Nat) (y : Int), k ≤ 9 ∧ k ≤ zs.length ∧ i = .int .i64 k ∧ n = .int .u64 y ∧ rnum (10 - k) k y (zs.drop k) = (N, Er, R) ∧ RA wr g 0 zs v ∧ Chg (Only g) w wr) (fun _ i _ => 10 - (intOf i).toNat)
  case atStart => exact ⟨0, 0, by decide, by omega, rfl, rfl, HS.out, HQ.out, Chg.refl _ _⟩
  case round =>
    clear HS HQ
    obtain ⟨k, y, hk, hkl, rfl, rfl, hs, hq, hC⟩ := hrel
    have hlt : k < 10 := by omega
    obtain ⟨A, cap, rfl, hcap, hmax, hl⟩ := hq.rd.lies
    have HQ2 := Lib.hid hq
    have HC := Lib.hid hC
    have HS := Lib.hid hs
    have c0 := hq.blk.cell 0
    have c1 := hq.blk.cell 1
    have f0 := hq.blk.frozen 0
    clear hq hC hs
    by_cases hlen : k < zs.length
    · obtain ⟨b, off, cs, rfl, hB, hcl⟩ := hl (by omega)
      have hkd : decide ((zs.length : Int) ≤ (k : Int)) = false := by simp; omega
      have hk0i : (0 : Int) ≤ (k : Int) := by omega
      have hk1i : (k : Int) < (zs.length : Int) := by omega
      have HB := Lib.hid hB
      have HCl := Lib.hid hcl
      have hxc : wr.cell? ⟨b, off + k, none⟩ = some (.int .u8 zs[k]) := (hB.cell (off + k)).trans (hcl k _ (by simp [by8, hlen]))
      have HS2 := Lib.hid (show rnum (10 - k) k y (zs[k] :: zs.drop (k + 1)) = (N, Er, R) by rw [← List.drop_eq_getElem_cons hlen]; exact HS.out)
      clear hB hcl hl HS
      generalize zs[k] = x at *
      have HS := HS2
      have hst : bits .or .u64 y (IntKind.u64.wrap (IntKind.u64.wrap (bits .andNot .u8 x 128) * 2 ^ (7 * k))) = stp k y x := rfl
      have hano := and_not x
      cases h9 : ((k : Int) == 9) with
      | true =>
        have hk9 : Hid (k = 9) := Lib.hid (by
          have : (k : Int) = 9 := by simpa using h9
          omega)
        have hkp : 0 < k := by have := hk9.out; omega
        have hk0 : decide ((0 : Int) < (k : Int)) = true := by simp; omega
        cases h1 : decide ((1 : Int) < x) with
        | true =>
          have h := HS.out
          rw [rnum_bad hlt _ _ _ (Or.inl ⟨hk9.out, by simpa using h1⟩)] at h
          simp only [Prod.mk.injEq] at h
          obtain ⟨rfl, rfl, rfl⟩ := h
          clear hst hano
          go_wp2_with fail
          refine (fail_any HQ2.out 3).mono ?_
          rintro e w2 ⟨rfl, hq, hC⟩
          have HQ4 := Lib.hid hq
          have HC4 := Lib.hid (HC.out.trans hC)
          clear hq hC
          go_wp2_with fail
          go_ret
          exact ⟨rfl, ⟨_, HQ4.out⟩, HC4.out⟩
        | false =>
          cases hx0 : x == 0 with
          | true =>
            have h := HS.out
            rw [rnum_bad hlt _ _ _ (Or.inr ⟨hkp, by simpa using hx0⟩)] at h
            simp only [Prod.mk.injEq] at h
            obtain ⟨rfl, rfl, rfl⟩ := h
            clear hst hano
            go_wp2_with fail
            refine (fail_any HQ2.out 3).mono ?_
            rintro e w2 ⟨rfl, hq, hC⟩
            have HQ4 := Lib.hid hq
            have HC4 := Lib.hid (HC.out.trans hC)
            clear hq hC
            go_wp2_with fail
            go_ret
            exact ⟨rfl, ⟨_, HQ4.out⟩, HC4.out⟩
          | false =>
            have g1 : ¬ 1 < x := by simpa using h1
            have g0 : ¬ x = 0 := by simpa using hx0
            have HNB : Hid (¬ bad k x) := Lib.hid (by unfold bad; omega)
            by_cases hx : x < 128
            · have hxd : decide (x < 128) = true := decide_eq_true hx
              have h := HS.out
              rw [rnum_last hlt _ _ _ HNB.out hx] at h
              simp only [Prod.mk.injEq] at h
              obtain ⟨rfl, rfl, rfl⟩ := h
              have hk1c : (k : Int) + 1 ≤ (zs.length : Int) := by omega
              have hk1p : (0 : Int) ≤ (k : Int) + 1 := by omega
              by_cases hc1 : cap = k + 1
              · have HR : Hid (∀ p : Option Addr, RdB wr (.slice p (zs.length - (k + 1)) (cap - (k + 1))) (zs.drop (k + 1))) := Lib.hid fun p => rd_drop HB.out HCl.out (by omega) hcap hmax p (fun h => by rw [List.length_drop] at h; omega)
                have HEq : Hid (zs.length - (k + 1) = 0 ∧ cap - (k + 1) = 0) := Lib.hid ⟨by omega, by omega⟩
                have hR := HR.out (some ⟨b, off, none⟩)
                rw [HEq.out.2] at hR
                have HR2 := Lib.hid hR
                clear hR
                go_wp2_with fail
                go_ret
                exact ⟨rfl, ⟨_, HQ2.out.blk.set_ 0 _, store_ HR2.out HQ2.out.blk ((Chg.refl (Only g) wr).setOwn 0 _)⟩, HC.out.setOwn 0 _⟩
              · go_wp2_with fail
                go_ret
                exact ⟨rfl, ⟨_, HQ2.out.blk.set_ 0 _, store_ (rd_drop HB.out HCl.out (by omega) hcap hmax _ (fun _ => rfl)) HQ2.out.blk ((Chg.refl (Only g) wr).setOwn 0 _)⟩, HC.out.setOwn 0 _⟩
            · exfalso
              omega
      | false =>
        have hk9 : k ≠ 9 := by rintro rfl; exact absurd h9 (by decide)
        by_cases hkp : 0 < k
        · have hk0 : decide ((0 : Int) < (k : Int)) = true := by simp; omega
          cases hx0 : x == 0 with
          | true =>
            have h := HS.out
            rw [rnum_bad hlt _ _ _ (Or.inr ⟨hkp, by simpa using hx0⟩)] at h
            simp only [Prod.mk.injEq] at h
            obtain ⟨rfl, rfl, rfl⟩ := h
            clear hst hano
            go_wp2_with fail
            refine (fail_any HQ2.out 3).mono ?_
            rintro e w2 ⟨rfl, hq, hC⟩
            have HQ4 := Lib.hid hq
            have HC4 := Lib.hid (HC.out.trans hC)
            clear hq hC
            go_wp2_with fail
            go_ret
            exact ⟨rfl, ⟨_, HQ4.out⟩, HC4.out⟩
          | false =>
            have g0 : ¬ x = 0 := by simpa using hx0
            have HNB : Hid (¬ bad k x) := Lib.hid (by unfold bad; omega)
            by_cases hx : x < 128
            · have hxd : decide (x < 128) = true := decide_eq_true hx
              have h := HS.out
              rw [rnum_last hlt _ _ _ HNB.out hx] at h
              simp only [Prod.mk.injEq] at h
              obtain ⟨rfl, rfl, rfl⟩ := h
              have hk1c : (k : Int) + 1 ≤ (zs.length : Int) := by omega
              have hk1p : (0 : Int) ≤ (k : Int) + 1 := by omega
              by_cases hc1 : cap = k + 1
              · have HR : Hid (∀ p : Option Addr, RdB wr (.slice p (zs.length - (k + 1)) (cap - (k + 1))) (zs.drop (k + 1))) := Lib.hid fun p => rd_drop HB.out HCl.out (by omega) hcap hmax p (fun h => by rw [List.length_drop] at h; omega)
                have HEq : Hid (zs.length - (k + 1) = 0 ∧ cap - (k + 1) = 0) := Lib.hid ⟨by omega, by omega⟩
                have hR := HR.out (some ⟨b, off, none⟩)
                rw [HEq.out.2] at hR
                have HR2 := Lib.hid hR
                clear hR
                go_wp2_with fail
                go_ret
                exact ⟨rfl, ⟨_, HQ2.out.blk.set_ 0 _, store_ HR2.out HQ2.out.blk ((Chg.refl (Only g) wr).setOwn 0 _)⟩, HC.out.setOwn 0 _⟩
              · go_wp2_with fail
                go_ret
                exact ⟨rfl, ⟨_, HQ2.out.blk.set_ 0 _, store_ (rd_drop HB.out HCl.out (by omega) hcap hmax _ (fun _ => rfl)) HQ2.out.blk ((Chg.refl (Only g) wr).setOwn 0 _)⟩, HC.out.setOwn 0 _⟩
            · have hxd : decide (x < 128) = false := decide_eq_false hx
              have h := HS.out
              rw [rnum_more hlt _ _ _ HNB.out hx] at h
              have HS2 := Lib.hid h
              clear h
              go_wp2_with fail
              go_roundw
              case rel => exact ⟨k + 1, stp k y x, by omega, by omega, by go_num, rfl, HS2.out, HQ2.out, HC.out⟩
              case measure => simp [intOf]; omega
        · have hk0 : decide ((0 : Int) < (k : Int)) = false := by simp; omega
          have HNB : Hid (¬ bad k x) := Lib.hid (by unfold bad; omega)
          by_cases hx : x < 128
          · have hxd : decide (x < 128) = true := decide_eq_true hx
            have h := HS.out
            rw [rnum_last hlt _ _ _ HNB.out hx] at h
            simp only [Prod.mk.injEq] at h
            obtain ⟨rfl, rfl, rfl⟩ := h
            have hk1c : (k : Int) + 1 ≤ (zs.length : Int) := by omega
            have hk1p : (0 : Int) ≤ (k : Int) + 1 := by omega
            by_cases hc1 : cap = k + 1
            · have HR : Hid (∀ p : Option Addr, RdB wr (.slice p (zs.length - (k + 1)) (cap - (k + 1))) (zs.drop (k + 1))) := Lib.hid fun p => rd_drop HB.out HCl.out (by omega) hcap hmax p (fun h => by rw [List.length_drop] at h; omega)
              have HEq : Hid (zs.length - (k + 1) = 0 ∧ cap - (k + 1) = 0) := Lib.hid ⟨by omega, by omega⟩
              have hR := HR.out (some ⟨b, off, none⟩)
              rw [HEq.out.2] at hR
              have HR2 := Lib.hid hR
              clear hR
              go_wp2_with fail
              go_ret
              exact ⟨rfl, ⟨_, HQ2.out.blk.set_ 0 _, store_ HR2.out HQ2.out.blk ((Chg.refl (Only g) wr).setOwn 0 _)⟩, HC.out.setOwn 0 _⟩
            · go_wp2_with fail
              go_ret
              exact ⟨rfl, ⟨_, HQ2.out.blk.set_ 0 _, store_ (rd_drop HB.out HCl.out (by omega) hcap hmax _ (fun _ => rfl)) HQ2.out.blk ((Chg.refl (Only g) wr).setOwn 0 _)⟩, HC.out.setOwn 0 _⟩
          · have hxd : decide (x < 128) = false := decide_eq_false hx
            have h := HS.out
            rw [rnum_more hlt _ _ _ HNB.out hx] at h
            have HS2 := Lib.hid h
            clear h
            go_wp2_with fail
            go_roundw
            case rel => exact ⟨k + 1, stp k y x, by omega, by omega, by go_num, rfl, HS2.out, HQ2.out, HC.out⟩
            case measure => simp [intOf]; omega
    · have hkd : decide ((zs.length : Int) ≤ (k : Int)) = true := by simp; omega
      have h := HS.out
      rw [List.drop_of_length_le (by omega), rnum_nil hlt] at h
      simp only [Prod.mk.injEq] at h
      obtain ⟨rfl, rfl, rfl⟩ := h
      go_wp2_with fail
      refine (fail_any HQ2.out 2).mono ?_
      rintro e w2 ⟨rfl, hq, hC⟩
      have HQ4 := Lib.hid hq
      have HC4 := Lib.hid (HC.out.trans hC)
      clear hq hC
      go_wp2_with fail
      go_ret
      exact ⟨rfl, ⟨_, HQ4.out⟩, HC4.out⟩
set_option maxRecDepth 100000 in
set_option maxHeartbeats 4000000 in
theorem num_err {w : World} {g : Nat} {err : Int} {zs : List Int} {v : Value} (q : RA w g err zs v) (he : err ≠ 0) :
    Calls Tryd.prog 42 #[.pointer (some ⟨g, 0, none⟩)] w fun e w' => e = .returned (.int .u64 0) ∧ w' = w := by
  have c1 := q.blk.cell 1
  have hb : (err == 0) = false := beq_eq_false_iff_ne.2 he
  clear q he
  go_enter Tryd.func42, Tryd.ntmps42
  go_wp2_with fail
  go_loopw [3, 4] (fun n i wr => n = .int .u64 0 ∧ i = .int .i64 0 ∧ wr = w) (fun _ _ _ => 0)
  case atStart => exact ⟨rfl, rfl, rfl⟩
  case round =>
    obtain ⟨rfl, rfl, rfl⟩ := hrel
    go_wp2_with fail
    go_ret
    exact ⟨rfl, rfl⟩
theorem zd_zero : zd 0 = 0 := by kernel_rfl
theorem rnum_left0 : ∀ (f i : Nat) (n : Int) (zs : List Int), (rnum f i n zs).2.1 ≠ 0 → (rnum f i n zs).1 = 0
  | 0, _, _, _, h => absurd rfl h
  | _ + 1, _, _, [], _ => rfl
  | f + 1, i, n, x :: r, h => by
    rw [rnum] at h ⊢
    split
    · rfl
    · next hb =>
      rw [if_neg hb] at h
      split
      · next hx => rw [if_pos hx] at h; exact absurd rfl h
      · next hx => rw [if_neg hx] at h; exact rnum_left0 f (i + 1) _ r h
theorem rdn_left0 (err : Int) (zs : List Int) (h : (rdn err zs).2.1 ≠ 0) : (rdn err zs).1 = 0 := by
  unfold rdn at h ⊢
  split
  · next he => rw [if_pos he] at h; exact rnum_left0 _ _ _ _ h
  · rfl
theorem num_all {w : World} {g : Nat} {err : Int} {zs : List Int} {v : Value} (q : RA w g err zs v) :
    Calls Tryd.prog 42 #[.pointer (some ⟨g, 0, none⟩)] w (Rdn w g (.int .u64 (rdn err zs).1) (rdn err zs).2.1 (rdn err zs).2.2) := by
  by_cases he : err = 0
  · subst he
    have : rdn 0 zs = rnum 10 0 0 zs := if_pos rfl
    rw [this]
    exact num_read q
  · have : rdn err zs = (0, err, zs) := if_neg he
    rw [this]
    exact (num_err q he).mono fun e w' ⟨h1, h2⟩ => ⟨h1, ⟨v, by rw [h2]; exact q⟩, by rw [h2]; exact Chg.refl _ _⟩
set_option maxRecDepth 100000 in
theorem int_all {w : World} {g : Nat} {err : Int} {zs : List Int} {v : Value} (q : RA w g err zs v) :
    Calls Tryd.prog 27 #[.pointer (some ⟨g, 0, none⟩)] w (Rdn w g (.int .i64 (zd (rdn err zs).1)) (rdn err zs).2.1 (rdn err zs).2.2) := by
  have HQ := Lib.hid q
  have HL := Lib.hid (rdn_left0 err zs)
  clear q
  go_enter Tryd.func27, Tryd.ntmps27
  go_wp2_with fail
  refine (num_all HQ.out).mono ?_
  rintro e w1 ⟨rfl, ⟨v2, hq⟩, hC⟩
  have c1 := hq.blk.cell 1
  have HQ2 := Lib.hid hq
  have HC := Lib.hid hC
  clear hq hC
  cases he : (rdn err zs).2.1 == 0 with
  | true =>
    have hne : ((rdn err zs).2.1 != 0) = false := by unfold bne; rw [he]; rfl
    clear he
    generalize (rdn err zs).1 = m at *
    generalize (rdn err zs).2.1 = E at *
    go_wp2_with fail
    go_ret
    exact ⟨rfl, ⟨_, HQ2.out⟩, HC.out⟩
  | false =>
    have hne : ((rdn err zs).2.1 != 0) = true := by unfold bne; rw [he]; rfl
    have h0 : (rdn err zs).1 = 0 := HL.out (by simpa using he)
    clear he
    rw [h0]
    have HZ : Hid (zd (rdn err zs).1 = 0) := Lib.hid (by rw [h0]; exact zd_zero)
    clear h0 HL
    generalize (rdn err zs).2.1 = E at *
    go_wp2_with fail
    go_ret
    exact ⟨by rw [HZ.out]; rfl, ⟨_, HQ2.out⟩, HC.out⟩
end Go.Proofs.YthkmocfdpmlllabDoor.RR
