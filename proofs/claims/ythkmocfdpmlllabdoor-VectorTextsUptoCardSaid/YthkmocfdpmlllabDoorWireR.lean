/- Contracts of package wire, the reader, function by function. No statement is proved here. -/
import Derived.Test.YthkmocfdpmlllabDoorWire
namespace Go.Proofs.YthkmocfdpmlllabDoor
open Go.RowKit Go.Proofs.YthkmocfdpmlllabDoorW.PrintLast

theorem RA.form {w : World} {g : Nat} {err : Int} {zs : List Int} {v : Value} (q : RA w g err zs v) : ∃ A cap, v = .slice A zs.length cap := by
  obtain ⟨A, cap, hv, _⟩ := q.rd.lies
  exact ⟨A, cap, hv⟩
/-- A store into a reader leaves all bytes alone. -/
theorem RdB.store {w w' : World} {g : Nat} {x : Value} {zs : List Int} {cs : Array Value} (h : RdB w x zs) (hb : Blk w g 56 cs) (hC : Chg (Only g) w w') : RdB w' x zs :=
  h.keep fun _ _ hB => hB.chg hC fun e => (Blk.ne_ hB hb (by decide)) e
set_option maxRecDepth 100000 in
theorem ok_any {w : World} {g : Nat} {err : Int} {zs : List Int} {v : Value} (q : RA w g err zs v) :
    Calls Tryd.prog 69 #[.pointer (some ⟨g, 0, none⟩)] w fun e w' => e = .returned (.bool (err == 0)) ∧ w' = w := by
  have c1 := q.blk.cell 1
  clear q
  go_enter Tryd.func69, Tryd.ntmps69
  go_wp2_with fail
  go_ret
  exact ⟨rfl, rfl⟩
set_option maxRecDepth 100000 in
theorem fail_any {w : World} {g : Nat} {err : Int} {zs : List Int} {v : Value} (q : RA w g err zs v) (x : Int) :
    Calls Tryd.prog 53 #[.pointer (some ⟨g, 0, none⟩), .int .i64 x] w fun e w' => e = .returned (.tuple #[]) ∧ RA w' g x [] (.slice none 0 0) ∧ Chg (Only g) w w' := by
  obtain ⟨A, cap, rfl⟩ := q.form
  have c0 := q.blk.cell 0
  have c1 := q.blk.cell 1
  have f0 := q.blk.frozen 0
  have f1 := q.blk.frozen 1
  have HQ := Lib.hid q
  clear q
  go_enter Tryd.func53, Tryd.ntmps53
  go_wp2_with fail
  go_end0
  exact ⟨rfl, ⟨(HQ.out.blk.set_ 1 _).set_ 0 _, RdB.nil _⟩, ((Chg.refl (Only g) w).setOwn 1 _).setOwn 0 _⟩
set_option maxRecDepth 100000 in
theorem left_any {w : World} {g : Nat} {err : Int} {zs : List Int} {v : Value} (q : RA w g err zs v) :
    Calls Tryd.prog 13 #[.pointer (some ⟨g, 0, none⟩)] w fun e w' => e = .returned (.int .i64 zs.length) ∧ w' = w := by
  obtain ⟨A, cap, rfl⟩ := q.form
  have c0 := q.blk.cell 0
  clear q
  go_enter Tryd.func13, Tryd.ntmps13
  go_wp2_with fail
  go_ret
  exact ⟨rfl, rfl⟩
def endE (err : Int) (zs : List Int) : Int := if err = 0 ∧ 0 < zs.length then 3 else err
set_option maxRecDepth 100000 in
theorem end_any {w : World} {g : Nat} {err : Int} {zs : List Int} {v : Value} (q : RA w g err zs v) :
    Calls Tryd.prog 14 #[.pointer (some ⟨g, 0, none⟩)] w fun e w' => e = .returned (.int .i64 (endE err zs)) ∧ w' = w := by
  obtain ⟨A, cap, rfl⟩ := q.form
  have c0 := q.blk.cell 0
  have c1 := q.blk.cell 1
  clear q
  cases he : err == 0 with
  | false =>
    have h1 : endE err zs = err := by unfold endE; rw [if_neg (by rintro ⟨rfl, _⟩; simp at he)]
    rw [h1]
    go_enter Tryd.func14, Tryd.ntmps14
    go_wp2_with fail
    go_ret
    exact ⟨rfl, rfl⟩
  | true =>
    have he0 : err = 0 := by simpa using he
    by_cases hl : 0 < zs.length
    · have h1 : endE err zs = 3 := by unfold endE; rw [if_pos ⟨he0, hl⟩]
      have hd : decide (0 < zs.length) = true := decide_eq_true hl
      rw [h1]
      clear he0 hl
      go_enter Tryd.func14, Tryd.ntmps14
      go_wp2_with fail
      go_ret
      exact ⟨rfl, rfl⟩
    · have h1 : endE err zs = err := by unfold endE; rw [if_neg (by rintro ⟨_, h⟩; exact hl h)]
      have hd : decide (0 < zs.length) = false := decide_eq_false hl
      rw [h1]
      clear he0 hl
      go_enter Tryd.func14, Tryd.ntmps14
      go_wp2_with fail
      go_ret
      exact ⟨rfl, rfl⟩
set_option maxRecDepth 100000 in
theorem good_any {w : World} {g : Nat} {err : Int} {zs : List Int} {v : Value} (q : RA w g err zs v) (h0 : err ≠ 0 → zs = []) :
    Calls Tryd.prog 26 #[.pointer (some ⟨g, 0, none⟩)] w fun e w' => e = .returned (.bool (err == 0)) ∧ w' = w := by
  have HQ := Lib.hid q
  clear q
  by_cases he : endE err zs = 0
  · have hr : (err == 0) = true := by
      unfold endE at he
      split at he
      · omega
      · simpa using he
    rw [hr]
    go_enter Tryd.func26, Tryd.ntmps26
    go_wp2_with fail
    refine (end_any HQ.out).mono ?_
    rintro e w1 ⟨rfl, rfl⟩
    rw [he]
    go_wp2_with fail
    go_ret
    exact ⟨rfl, rfl⟩
  · have hb : (endE err zs == 0) = false := beq_eq_false_iff_ne.2 he
    cases hr : err == 0 with
    | true =>
      have he0 : err = 0 := by simpa using hr
      have hl : 0 < zs.length := by
        unfold endE at he
        by_cases h : 0 < zs.length
        · exact h
        · rw [if_neg (fun hh => h hh.2)] at he; exact absurd he0 he
      have hd : decide (0 < zs.length) = true := decide_eq_true hl
      clear he0 hl he hr
      go_enter Tryd.func26, Tryd.ntmps26
      go_wp2_with fail
      refine (end_any HQ.out).mono ?_
      rintro e w1 ⟨rfl, rfl⟩
      go_wp2_with fail
      refine (left_any HQ.out).mono ?_
      rintro e w2 ⟨rfl, rfl⟩
      go_wp2_with fail
      go_ret
      exact ⟨rfl, rfl⟩
    | false =>
      have hz : zs = [] := h0 (by simpa using hr)
      subst hz
      clear he hr
      go_enter Tryd.func26, Tryd.ntmps26
      go_wp2_with fail
      refine (end_any HQ.out).mono ?_
      rintro e w1 ⟨rfl, rfl⟩
      go_wp2_with fail
      refine (left_any HQ.out).mono ?_
      rintro e w2 ⟨rfl, rfl⟩
      go_wp2_with fail
      go_ret
      exact ⟨rfl, rfl⟩
set_option maxRecDepth 100000 in
theorem byte_bad {w : World} {g : Nat} {err : Int} {zs : List Int} {v : Value} (q : RA w g err zs v) (he : err ≠ 0) :
    Calls Tryd.prog 52 #[.pointer (some ⟨g, 0, none⟩)] w fun e w' => e = .returned (.tuple #[.int .u8 0, .bool false]) ∧ w' = w := by
  have HQ := Lib.hid q
  have hb : (err == 0) = false := beq_eq_false_iff_ne.2 he
  clear q he
  go_enter Tryd.func52, Tryd.ntmps52
  go_wp2_with fail
  refine (ok_any HQ.out).mono ?_
  rintro e w1 ⟨rfl, rfl⟩
  go_wp2_with fail
  go_ret2
  exact ⟨rfl, rfl⟩
set_option maxRecDepth 100000 in
theorem byte_end {w : World} {g : Nat} {v : Value} (q : RA w g 0 [] v) :
    Calls Tryd.prog 52 #[.pointer (some ⟨g, 0, none⟩)] w fun e w' => e = .returned (.tuple #[.int .u8 0, .bool false]) ∧ RA w' g 2 [] (.slice none 0 0) ∧ Chg (Only g) w w' := by
  obtain ⟨A, cap, rfl⟩ := q.form
  have HQ := Lib.hid q
  clear q
  go_enter Tryd.func52, Tryd.ntmps52
  go_wp2_with fail
  refine (ok_any HQ.out).mono ?_
  rintro e w1 ⟨rfl, rfl⟩
  have c0 := HQ.out.blk.cell 0
  go_wp2_with fail
  refine (fail_any HQ.out 2).mono ?_
  rintro e w2 ⟨rfl, hq, hC⟩
  have HQ2 := Lib.hid hq
  have HC := Lib.hid hC
  clear hq hC c0
  go_wp2_with fail
  go_ret2
  exact ⟨rfl, HQ2.out, HC.out⟩
theorem rd_tail {w : World} {b off cap : Nat} {x : Int} {zs : List Int} {cs : Array Value} (hB : Blk w b 5 cs) (hcl : ∀ j u, (by8 (x :: zs))[j]? = some u → cs[off + j]? = some u) (hcap : zs.length + 1 ≤ cap) (hmax : cap ≤ 9223372036854775807) (p : Option Addr) (hp : 0 < zs.length → p = some ⟨b, off + 1, none⟩) :
    RdB w (.slice p zs.length (cap - 1)) zs :=
  ⟨⟨p, cap - 1, rfl, by omega, by omega, fun h => ⟨b, off + 1, cs, hp h, hB, fun j u hu => by
    have := hcl (j + 1) u (by simpa [by8] using hu)
    rwa [show off + 1 + j = off + (j + 1) by omega]⟩⟩⟩
set_option maxRecDepth 100000 in
theorem byte_some {w : World} {g : Nat} {x : Int} {zs : List Int} {v : Value} (q : RA w g 0 (x :: zs) v) :
    Calls Tryd.prog 52 #[.pointer (some ⟨g, 0, none⟩)] w fun e w' => e = .returned (.tuple #[.int .u8 x, .bool true]) ∧ (∃ v', RA w' g 0 zs v') ∧ Chg (Only g) w w' := by
  obtain ⟨A, cap, rfl, hcap, hmax, hl⟩ := q.rd.lies
  obtain ⟨b, off, cs, rfl, hB, hcl⟩ := hl (by simp)
  have HQ := Lib.hid q
  have hx : w.cell? ⟨b, off, none⟩ = some (.int .u8 x) := (hB.cell off).trans (by simpa using hcl 0 (.int .u8 x) rfl)
  have HB := Lib.hid hB
  have HCl := Lib.hid hcl
  simp only [List.length_cons] at hcap
  clear q hl hB hcl
  go_enter Tryd.func52, Tryd.ntmps52
  go_wp2_with fail
  refine (ok_any HQ.out).mono ?_
  rintro e w1 ⟨rfl, rfl⟩
  have c0 := HQ.out.blk.cell 0
  have f0 := HQ.out.blk.frozen 0
  have hne : ((zs.length : Int) + 1 == 0) = false := beq_eq_false_iff_ne.2 (by omega)
  simp only [List.length_cons] at c0
  by_cases hc1 : cap = 1
  · have hz : zs = [] := List.length_eq_zero_iff.1 (by omega)
    subst hc1 hz
    go_wp2_with fail
    go_ret2
    exact ⟨rfl, ⟨_, HQ.out.blk.set_ 0 _, (rd_tail HB.out HCl.out (Nat.le_refl _) (by omega) _ (fun h => absurd h (by simp))).store HQ.out.blk ((Chg.refl (Only g) w1).setOwn 0 _)⟩, (Chg.refl (Only g) w1).setOwn 0 _⟩
  · go_wp2_with fail
    go_ret2
    exact ⟨rfl, ⟨_, HQ.out.blk.set_ 0 _, (rd_tail HB.out HCl.out hcap hmax _ (fun _ => rfl)).store HQ.out.blk ((Chg.refl (Only g) w1).setOwn 0 _)⟩, (Chg.refl (Only g) w1).setOwn 0 _⟩
/-- One byte of a number. -/
def stp (i : Nat) (n x : Int) : Int := bits .or .u64 n (IntKind.u64.wrap (IntKind.u64.wrap (bits .andNot .u8 x 128) * 2 ^ (7 * i)))
def bad (i : Nat) (x : Int) : Prop := (i = 9 ∧ 1 < x) ∨ (0 < i ∧ x = 0)
instance (i : Nat) (x : Int) : Decidable (bad i x) := by unfold bad; infer_instance
/-- A number read: what it is, the error, what is left. -/
def rnum : Nat → Nat → Int → List Int → Int × Int × List Int
  | 0, _, n, zs => (n, 0, zs)
  | _ + 1, _, _, [] => (0, 2, [])
  | f + 1, i, n, x :: r => if bad i x then (0, 3, []) else if x < 128 then (stp i n x, 0, r) else rnum f (i + 1) (stp i n x) r
theorem rnum_nil {k : Nat} (h : k < 10) (y : Int) : rnum (10 - k) k y [] = (0, 2, []) := by
  obtain ⟨m, hm⟩ : ∃ m, 10 - k = m + 1 := ⟨9 - k, by omega⟩
  rw [hm, rnum]
theorem rnum_bad {k : Nat} (h : k < 10) (y x : Int) (r : List Int) (hb : bad k x) : rnum (10 - k) k y (x :: r) = (0, 3, []) := by
  obtain ⟨m, hm⟩ : ∃ m, 10 - k = m + 1 := ⟨9 - k, by omega⟩
  rw [hm, rnum, if_pos hb]
theorem rnum_last {k : Nat} (h : k < 10) (y x : Int) (r : List Int) (hb : ¬ bad k x) (hx : x < 128) : rnum (10 - k) k y (x :: r) = (stp k y x, 0, r) := by
  obtain ⟨m, hm⟩ : ∃ m, 10 - k = m + 1 := ⟨9 - k, by omega⟩
  rw [hm, rnum, if_neg hb, if_pos hx]
theorem rnum_more {k : Nat} (h : k < 10) (y x : Int) (r : List Int) (hb : ¬ bad k x) (hx : ¬ x < 128) : rnum (10 - k) k y (x :: r) = rnum (10 - (k + 1)) (k + 1) (stp k y x) r := by
  obtain ⟨m, hm⟩ : ∃ m, 10 - k = m + 1 := ⟨9 - k, by omega⟩
  rw [hm, show 10 - (k + 1) = m by omega, rnum, if_neg hb, if_neg hx]
/-- What a reader's turn comes to. -/
structure Rdn (w : World) (g : Nat) (val : Value) (err : Int) (zs : List Int) (e : Ending) (w' : World) : Prop where
  end_ : e = .returned val
  at_ : ∃ v', RA w' g err zs v'
  chg : Chg (Only g) w w'
set_option maxRecDepth 100000 in
set_option maxHeartbeats 8000000 in
theorem num_read {w : World} {g : Nat} {zs : List Int} {v : Value} (q : RA w g 0 zs v) :
    Calls Tryd.prog 41 #[.pointer (some ⟨g, 0, none⟩)] w (Rdn w g (.int .u64 (rnum 10 0 0 zs).1) (rnum 10 0 0 zs).2.1 (rnum 10 0 0 zs).2.2) := by
  have HQ := Lib.hid q
  obtain ⟨⟨N, Er, R⟩, hs⟩ : ∃ t, rnum 10 0 0 zs = t := ⟨_, rfl⟩
  rw [hs]
  have HS := Lib.hid hs
  clear q hs
  go_enter Tryd.func41, Tryd.ntmps41
  go_wp2_with fail
  go_loopw [3, 7] (fun n i wr => ∃ (k : Nat) (y : Int) (r : List Int), k ≤ 10 ∧ i = .int .i64 k ∧ n = .int .u64 y ∧ rnum (10 - k) k y r = (N, Er, R) ∧ (∃ v', RA wr g 0 r v') ∧ Chg (Only g) w wr) (fun _ i _ => 10 - (intOf i).toNat)
  case atStart => exact ⟨0, 0, zs, by decide, rfl, rfl, HS.out, ⟨v, HQ.out⟩, Chg.refl _ _⟩
  case round =>
    clear HS HQ
    obtain ⟨k, y, r, hk, rfl, rfl, hs, ⟨v2, hq⟩, hC⟩ := hrel
    have HQ2 := Lib.hid hq
    have HC := Lib.hid hC
    have HS := Lib.hid hs
    clear hq hC hs
    by_cases hlt : k < 10
    · have hk2 : decide ((k : Int) < 10) = true := by simp; omega
      match r, HQ2, HS with
      | [], HQ2, HS =>
        have h := HS.out
        rw [rnum_nil hlt] at h
        simp only [Prod.mk.injEq] at h
        obtain ⟨rfl, rfl, rfl⟩ := h
        go_wp2_with fail
        refine (byte_end HQ2.out).mono ?_
        rintro e w1 ⟨rfl, hq, hC⟩
        have HQ3 := Lib.hid hq
        have HC3 := Lib.hid (HC.out.trans hC)
        clear hq hC
        go_wp2_with fail
        go_ret
        exact ⟨rfl, ⟨_, HQ3.out⟩, HC3.out⟩
      | x :: r, HQ2, HS =>
        go_wp2_with fail
        refine (byte_some HQ2.out).mono ?_
        rintro e w1 ⟨rfl, ⟨v3, hq⟩, hC⟩
        have HQ3 := Lib.hid hq
        have HC3 := Lib.hid (HC.out.trans hC)
        clear hq hC HQ2 HC
        have hst : bits .or .u64 y (IntKind.u64.wrap (IntKind.u64.wrap (bits .andNot .u8 x 128) * 2 ^ (7 * k))) = stp k y x := rfl
        cases h9 : ((k : Int) == 9) with
        | true =>
          have hk9 : Hid (k = 9) := Lib.hid (by
            have : (k : Int) = 9 := by simpa using h9
            omega)
          have hkp : 0 < k := by have := hk9.out; omega
          have hk0 : decide ((0 : Int) < (k : Int)) = true := by simp; omega
          cases h1 : decide ((1 : Int) < x) with
          | true =>
            have h := HS.out
            rw [rnum_bad hlt _ _ _ (Or.inl ⟨hk9.out, by simpa using h1⟩)] at h
            simp only [Prod.mk.injEq] at h
            obtain ⟨rfl, rfl, rfl⟩ := h
            clear hst
            go_wp2_with fail
            refine (fail_any HQ3.out 3).mono ?_
            rintro e w2 ⟨rfl, hq, hC⟩
            have HQ4 := Lib.hid hq
            have HC4 := Lib.hid (HC3.out.trans hC)
            clear hq hC
            go_wp2_with fail
            go_ret
            exact ⟨rfl, ⟨_, HQ4.out⟩, HC4.out⟩
          | false =>
            cases hx0 : x == 0 with
            | true =>
              have h := HS.out
              rw [rnum_bad hlt _ _ _ (Or.inr ⟨hkp, by simpa using hx0⟩)] at h
              simp only [Prod.mk.injEq] at h
              obtain ⟨rfl, rfl, rfl⟩ := h
              clear hst
              go_wp2_with fail
              refine (fail_any HQ3.out 3).mono ?_
              rintro e w2 ⟨rfl, hq, hC⟩
              have HQ4 := Lib.hid hq
              have HC4 := Lib.hid (HC3.out.trans hC)
              clear hq hC
              go_wp2_with fail
              go_ret
              exact ⟨rfl, ⟨_, HQ4.out⟩, HC4.out⟩
            | false =>
              have g1 : ¬ 1 < x := by simpa using h1
              have g0 : ¬ x = 0 := by simpa using hx0
              have HNB : Hid (¬ bad k x) := Lib.hid (by unfold bad; omega)
              by_cases hx : x < 128
              · have hxd : decide (x < 128) = true := decide_eq_true hx
                have h := HS.out
                rw [rnum_last hlt _ _ _ HNB.out hx] at h
                simp only [Prod.mk.injEq] at h
                obtain ⟨rfl, rfl, rfl⟩ := h
                go_wp2_with fail
                go_ret
                exact ⟨rfl, ⟨_, HQ3.out⟩, HC3.out⟩
              · exfalso
                omega
        | false =>
          have hk9 : k ≠ 9 := by rintro rfl; exact absurd h9 (by decide)
          by_cases hkp : 0 < k
          · have hk0 : decide ((0 : Int) < (k : Int)) = true := by simp; omega
            cases hx0 : x == 0 with
            | true =>
              have h := HS.out
              rw [rnum_bad hlt _ _ _ (Or.inr ⟨hkp, by simpa using hx0⟩)] at h
              simp only [Prod.mk.injEq] at h
              obtain ⟨rfl, rfl, rfl⟩ := h
              clear hst
              go_wp2_with fail
              refine (fail_any HQ3.out 3).mono ?_
              rintro e w2 ⟨rfl, hq, hC⟩
              have HQ4 := Lib.hid hq
              have HC4 := Lib.hid (HC3.out.trans hC)
              clear hq hC
              go_wp2_with fail
              go_ret
              exact ⟨rfl, ⟨_, HQ4.out⟩, HC4.out⟩
            | false =>
              have g0 : ¬ x = 0 := by simpa using hx0
              have HNB : Hid (¬ bad k x) := Lib.hid (by unfold bad; omega)
              by_cases hx : x < 128
              · have hxd : decide (x < 128) = true := decide_eq_true hx
                have h := HS.out
                rw [rnum_last hlt _ _ _ HNB.out hx] at h
                simp only [Prod.mk.injEq] at h
                obtain ⟨rfl, rfl, rfl⟩ := h
                go_wp2_with fail
                go_ret
                exact ⟨rfl, ⟨_, HQ3.out⟩, HC3.out⟩
              · have hxd : decide (x < 128) = false := decide_eq_false hx
                have h := HS.out
                rw [rnum_more hlt _ _ _ HNB.out hx] at h
                have HS2 := Lib.hid h
                clear h
                go_wp2_with fail
                go_roundw
                case rel => exact ⟨k + 1, stp k y x, r, by omega, by go_num, rfl, HS2.out, ⟨_, HQ3.out⟩, HC3.out⟩
                case measure => simp [intOf]; omega
          · have hk0 : decide ((0 : Int) < (k : Int)) = false := by simp; omega
            have HNB : Hid (¬ bad k x) := Lib.hid (by unfold bad; omega)
            by_cases hx : x < 128
            · have hxd : decide (x < 128) = true := decide_eq_true hx
              have h := HS.out
              rw [rnum_last hlt _ _ _ HNB.out hx] at h
              simp only [Prod.mk.injEq] at h
              obtain ⟨rfl, rfl, rfl⟩ := h
              go_wp2_with fail
              go_ret
              exact ⟨rfl, ⟨_, HQ3.out⟩, HC3.out⟩
            · have hxd : decide (x < 128) = false := decide_eq_false hx
              have h := HS.out
              rw [rnum_more hlt _ _ _ HNB.out hx] at h
              have HS2 := Lib.hid h
              clear h
              go_wp2_with fail
              go_roundw
              case rel => exact ⟨k + 1, stp k y x, r, by omega, by go_num, rfl, HS2.out, ⟨_, HQ3.out⟩, HC3.out⟩
              case measure => simp [intOf]; omega
    · obtain rfl : k = 10 := by omega
      have hk2 : decide (((10 : Nat) : Int) < 10) = false := by decide
      have h := HS.out
      rw [show rnum (10 - 10) 10 y r = (y, 0, r) from rfl] at h
      simp only [Prod.mk.injEq] at h
      obtain ⟨rfl, rfl, rfl⟩ := h
      go_wp2_with fail
      go_ret
      exact ⟨rfl, ⟨_, HQ2.out⟩, HC.out⟩
def rdn (err : Int) (zs : List Int) : Int × Int × List Int := if err = 0 then rnum 10 0 0 zs else (0, err, zs)
set_option maxRecDepth 100000 in
set_option maxHeartbeats 4000000 in
theorem num_err {w : World} {g : Nat} {err : Int} {zs : List Int} {v : Value} (q : RA w g err zs v) (he : err ≠ 0) :
    Calls Tryd.prog 41 #[.pointer (some ⟨g, 0, none⟩)] w fun e w' => e = .returned (.int .u64 0) ∧ w' = w := by
  have HQ := Lib.hid q
  clear q
  go_enter Tryd.func41, Tryd.ntmps41
  go_wp2_with fail
  go_loopw [3, 7] (fun n i wr => n = .int .u64 0 ∧ i = .int .i64 0 ∧ wr = w) (fun _ _ _ => 0)
  case atStart => exact ⟨rfl, rfl, rfl⟩
  case round =>
    obtain ⟨rfl, rfl, rfl⟩ := hrel
    go_wp2_with fail
    refine (byte_bad HQ.out he).mono ?_
    rintro e w1 ⟨rfl, rfl⟩
    go_wp2_with fail
    go_ret
    exact ⟨rfl, rfl⟩
theorem num_all {w : World} {g : Nat} {err : Int} {zs : List Int} {v : Value} (q : RA w g err zs v) :
    Calls Tryd.prog 41 #[.pointer (some ⟨g, 0, none⟩)] w (Rdn w g (.int .u64 (rdn err zs).1) (rdn err zs).2.1 (rdn err zs).2.2) := by
  by_cases he : err = 0
  · subst he
    have : rdn 0 zs = rnum 10 0 0 zs := if_pos rfl
    rw [this]
    exact num_read q
  · have : rdn err zs = (0, err, zs) := if_neg he
    rw [this]
    exact (num_err q he).mono fun e w' ⟨h1, h2⟩ => ⟨h1, ⟨v, by rw [h2]; exact q⟩, by rw [h2]; exact Chg.refl _ _⟩
/-- A number of either sign, out of what was read. -/
def zd (m : Int) : Int := bits .xor .i64 (wrap64 (m / 2)) (wrap64 (-wrap64 (bits .and .u64 m 1)))
set_option maxRecDepth 100000 in
theorem int_all {w : World} {g : Nat} {err : Int} {zs : List Int} {v : Value} (q : RA w g err zs v) :
    Calls Tryd.prog 25 #[.pointer (some ⟨g, 0, none⟩)] w (Rdn w g (.int .i64 (zd (rdn err zs).1)) (rdn err zs).2.1 (rdn err zs).2.2) := by
  have HQ := Lib.hid q
  clear q
  go_enter Tryd.func25, Tryd.ntmps25
  go_wp2_with fail
  refine (num_all HQ.out).mono ?_
  rintro e w1 ⟨rfl, hq, hC⟩
  generalize (rdn err zs).1 = m at *
  go_wp2_with fail
  go_ret
  exact ⟨rfl, hq, hC⟩
/-- What is left, and the error, behind k numbers. -/
def rst (zs : List Int) : Nat → Int × List Int
  | 0 => (0, zs)
  | k + 1 => ((rdn (rst zs k).1 (rst zs k).2).2.1, (rdn (rst zs k).1 (rst zs k).2).2.2)
def rval (zs : List Int) (k : Nat) : Int := zd (rdn (rst zs k).1 (rst zs k).2).1
theorem rnum_left : ∀ (f i : Nat) (n : Int) (zs : List Int), (rnum f i n zs).2.1 ≠ 0 → (rnum f i n zs).2.2 = []
  | 0, _, _, _, h => absurd rfl h
  | _ + 1, _, _, [], _ => rfl
  | f + 1, i, n, x :: r, h => by
    rw [rnum] at h ⊢
    split
    · rfl
    · next hb =>
      rw [if_neg hb] at h
      split
      · next hx => rw [if_pos hx] at h; exact absurd rfl h
      · next hx => rw [if_neg hx] at h; exact rnum_left f (i + 1) _ r h
theorem rst_left (zs : List Int) (k : Nat) : (rst zs k).1 ≠ 0 → (rst zs k).2 = [] := by
  induction k with
  | zero => exact fun h => absurd rfl h
  | succ k ih =>
    intro h
    simp only [rst] at h ⊢
    by_cases he : (rst zs k).1 = 0
    · have e : rdn (rst zs k).1 (rst zs k).2 = rnum 10 0 0 (rst zs k).2 := if_pos he
      rw [e] at h ⊢
      exact rnum_left _ _ _ _ h
    · have e : rdn (rst zs k).1 (rst zs k).2 = (0, (rst zs k).1, (rst zs k).2) := if_neg he
      rw [e]
      exact ih he
def rvec (zs : List Int) (k : Nat) : Vc := fun j => if j < k then rval zs j else 0
theorem rvec_succ (zs : List Int) (k : Nat) : rvec zs (k + 1) = upd (rvec zs k) k (rval zs k) := by
  funext j
  unfold rvec upd
  by_cases h : j = k
  · subst h; rw [if_pos (by omega), if_pos rfl]
  · rw [if_neg h]
    show _ = if j < k then rval zs j else 0
    by_cases h2 : j < k
    · rw [if_pos h2, if_pos (by omega)]
    · rw [if_neg h2, if_neg (by omega)]
theorem RA.other {w w' : World} {g b : Nat} {err : Int} {zs : List Int} {v : Value} {t : TypeId} {cs : Array Value} (q : RA w g err zs v) (h : Chg (Only b) w w') (hb : Blk w b t cs) (h1 : t ≠ 56) (h2 : t ≠ 5) : RA w' g err zs v :=
  ⟨q.blk.chg h (fun e => (q.blk.ne_ hb (Ne.symm h1)) e), q.rd.keep fun _ _ hB => hB.chg h fun e => (Blk.ne_ hB hb (Ne.symm h2)) e⟩
theorem back_vec2 {fn : Func} {p u : Tmp} (h : fn.results = #[.cell p 23, .tmp u]) {R : Ending → World → Prop} {a : Act} {w : World} {b : Nat} (f : Vc) (v : Value) (hp : a.tmps.getD p undef = .pointer (some ⟨b, 0, none⟩)) (hu : a.tmps.getD u undef = v) (hB : Blk w b 23 (va f)) (hd : a.defers = [])
    (hR : R (.returned (.tuple #[vec f, v])) w) : bodyPost Tryd.prog fn R .ret a w := by
  refine bodyPost_ret ?_ hd hR
  rw [results_cell_tmp h, hp, hu]
  have hl := run_loadVar_row (P := Tryd.prog) w b 23 23 (va f) (0, 0) _ hB Tryd.underlying23 rfl (by kernel_rfl)
  simp [asAddr, hl]
abbrev v0_ : Vc := fun _ => 0
def rok (zs : List Int) : Bool := (rst zs 8).1 == 0 && may (rvec zs 8)
def rout (zs : List Int) : Vc := if rok zs then rvec zs 8 else v0_
set_option maxRecDepth 100000 in
set_option maxHeartbeats 4000000 in
theorem read_all {w : World} {g : Nat} {zs : List Int} {v : Value} (q : RA w g 0 zs v) :
    Calls Tryd.prog 11 #[.pointer (some ⟨g, 0, none⟩)] w (Rdn w g (.tuple #[vec (rout zs), .bool (rok zs)]) (rst zs 8).1 (rst zs 8).2) := by
  have HQ := Lib.hid q
  have hgl := q.blk.lt
  clear q
  go_enter Tryd.func11, Tryd.ntmps11
  go_wp2_with fail
  have HQ1 := Lib.hid ((HQ.out.chg ((Chg.refl NoB w).alloc (Obj.cells (va v0_) 23))).chg ((Chg.refl NoB _).alloc (Obj.cells (va v0_) 23)))
  have HA := Lib.hid ((Blk.new w 23 (va v0_)).alloc (Obj.cells (va v0_) 23))
  have HB := Lib.hid (Blk.new_ (k := w.heap.size + 1) (w.alloc (Obj.cells (va v0_) 23)) 23 (va v0_) (by simp))
  have HC := Lib.hid (((Chg.refl (Only g) w).alloc (Obj.cells (va v0_) 23)).alloc (Obj.cells (va v0_) 23))
  clear HQ
  generalize (w.alloc (Obj.cells (va v0_) 23)).alloc (Obj.cells _ 23) = W at *
  go_loopw [6] (fun i wr => ∃ k : Nat, k ≤ 8 ∧ i = .int .i64 k ∧ (∃ v', RA wr g (rst zs k).1 (rst zs k).2 v') ∧ Blk wr w.heap.size 23 (va v0_) ∧ Blk wr (w.heap.size + 1) 23 (va (rvec zs k)) ∧ Chg (Only g) w wr) (fun i _ => 8 - (intOf i).toNat)
  case atStart => exact ⟨0, by decide, rfl, ⟨_, HQ1.out⟩, HA.out, HB.out, HC.out⟩
  case round =>
    clear HQ1 HA HB HC
    obtain ⟨k, hk, rfl, ⟨v2, hq⟩, hA, hB, hC⟩ := hrel
    have HQ := Lib.hid hq
    have HA := Lib.hid hA
    have HB := Lib.hid hB
    have HC := Lib.hid hC
    clear hq hA hB hC
    by_cases hlt : k < 8
    · have hk2 : decide ((k : Int) < 8) = true := by simp; omega
      go_wp2_with fail
      refine (int_all HQ.out).mono ?_
      rintro e w1 ⟨rfl, ⟨v3, hq⟩, hC⟩
      have hval : zd (rdn (rst zs k).1 (rst zs k).2).1 = rval zs k := rfl
      rw [hval]
      have HQ2 : Hid (RA w1 g (rst zs (k + 1)).1 (rst zs (k + 1)).2 v3) := Lib.hid hq
      have hg0 : w.heap.size ≠ g := by omega
      have hg1 : w.heap.size + 1 ≠ g := by omega
      have HA2 := Lib.hid (HA.out.chg hC (by unfold Only; omega))
      have HB2 := Lib.hid (HB.out.chg hC (by unfold Only; omega))
      have HC2 := Lib.hid (HC.out.trans hC)
      clear hq hC HQ HA HB HC hval
      generalize hxv : rval zs k = x
      have HXV := Lib.hid hxv
      clear hxv
      have hcx : w1.cell? ⟨w.heap.size + 1, k, none⟩ = some (.int .i64 (rvec zs k k)) := (HB2.out.cell k).trans (va_get _ hlt)
      have hfx : w1.frozen? ⟨w.heap.size + 1, k, none⟩ = false := HB2.out.frozen k
      have hk3 : (k : Int) < 8 := by omega
      have hs : Chg (Only (w.heap.size + 1)) w1 (w1.setCell ⟨w.heap.size + 1, k, none⟩ (.int .i64 x)) := (Chg.refl (Only (w.heap.size + 1)) w1).setOwn k _
      have HQ3 := Lib.hid (HQ2.out.other hs HB2.out (by decide) (by decide))
      have HA3 := Lib.hid (HA2.out.chg hs (by unfold Only; omega))
      have HB3 := Lib.hid (bset HB2.out hlt x)
      have HC3 := Lib.hid (HC2.out.setCell (p := ⟨w.heap.size + 1, k, none⟩) (.inr (by show w.heap.size ≤ w.heap.size + 1; omega)) (.int .i64 x))
      clear hs HQ2 HA2 HB2 HC2
      go_wp2_with fail
      go_roundw
      case rel => exact ⟨k + 1, by omega, by go_num, ⟨_, HQ3.out⟩, HA3.out, by rw [rvec_succ, HXV.out]; exact HB3.out, HC3.out⟩
      case measure => simp [intOf]; omega
    · obtain rfl : k = 8 := by omega
      have hk2 : decide (((8 : Nat) : Int) < 8) = false := by decide
      go_wp2_with fail
      refine (good_any HQ.out (rst_left zs 8)).mono ?_
      rintro e w1 ⟨rfl, rfl⟩
      cases he : (rst zs 8).1 == 0 with
      | false =>
        have hr : rok zs = false := by unfold rok; rw [he]; rfl
        have hv : rout zs = v0_ := by unfold rout; rw [hr]; rfl
        have HR : Hid (rout zs = v0_ ∧ rok zs = false) := Lib.hid ⟨hv, hr⟩
        clear hr hv
        obtain ⟨c0, c1, c2, c3, c4, c5, c6, c7⟩ := eight HA.out
        obtain ⟨f0, f1, f2, f3, f4, f5, f6, f7⟩ := eight_frozen HA.out
        go_wp2_with fail
        exact back_vec2 rfl v0_ (.bool false) rfl rfl (eight_set HA.out 0 0 0 0 0 0 0 0) rfl ⟨by rw [HR.out.1, HR.out.2], ⟨_, HQ.out.other (eight_chg (Chg.refl (Only w.heap.size) w1) (.inl rfl) 0 0 0 0 0 0 0 0) HA.out (by decide) (by decide)⟩, eight_chg HC.out (.inr (Nat.le_refl _)) 0 0 0 0 0 0 0 0⟩
      | true =>
        have HE := Lib.hid he
        clear he
        obtain ⟨c0, c1, c2, c3, c4, c5, c6, c7⟩ := eight HB.out
        go_wp2_with fail
        refine (may_any (rvec zs 8) _).mono ?_
        clear c0 c1 c2 c3 c4 c5 c6 c7
        rintro e w2 ⟨rfl, hC⟩
        have HQ2 := Lib.hid (HQ.out.chg hC)
        have HA2 := Lib.hid (HA.out.chg hC id)
        have HB2 := Lib.hid (HB.out.chg hC id)
        have HC2 := Lib.hid (HC.out.trans hC.of_no)
        clear hC HQ HA HB HC
        obtain ⟨c0, c1, c2, c3, c4, c5, c6, c7⟩ := eight HB2.out
        obtain ⟨d0, d1, d2, d3, d4, d5, d6, d7⟩ := eight HA2.out
        obtain ⟨f0, f1, f2, f3, f4, f5, f6, f7⟩ := eight_frozen HA2.out
        cases hm : may (rvec zs 8) with
        | false =>
          have HR : Hid (rout zs = v0_ ∧ rok zs = false) := Lib.hid (by
            have h : rok zs = false := by unfold rok; rw [hm, Bool.and_false]
            exact ⟨by unfold rout; rw [h]; rfl, h⟩)
          clear hm
          go_wp2_with fail
          exact back_vec2 rfl v0_ (.bool false) rfl rfl (eight_set HA2.out 0 0 0 0 0 0 0 0) rfl ⟨by rw [HR.out.1, HR.out.2], ⟨_, HQ2.out.other (eight_chg (Chg.refl (Only w.heap.size) w2) (.inl rfl) 0 0 0 0 0 0 0 0) HA2.out (by decide) (by decide)⟩, eight_chg HC2.out (.inr (Nat.le_refl _)) 0 0 0 0 0 0 0 0⟩
        | true =>
          have HR : Hid (rout zs = rvec zs 8 ∧ rok zs = true) := Lib.hid (by
            have h : rok zs = true := by unfold rok; rw [hm, HE.out]; rfl
            exact ⟨by unfold rout; rw [h]; rfl, h⟩)
          clear hm
          go_wp2_with fail
          exact back_vec2 rfl (rvec zs 8) (.bool true) rfl rfl (eight_set HA2.out _ _ _ _ _ _ _ _) rfl ⟨by rw [HR.out.1, HR.out.2], ⟨_, HQ2.out.other (eight_chg (Chg.refl (Only w.heap.size) w2) (.inl rfl) _ _ _ _ _ _ _ _) HA2.out (by decide) (by decide)⟩, eight_chg HC2.out (.inr (Nat.le_refl _)) _ _ _ _ _ _ _ _⟩
end Go.Proofs.YthkmocfdpmlllabDoor
