/- Package wire: a writer that is new to some world, whatever is written. No statement is proved here. -/
import Derived.Test.YtoefffjhjmjhfaaGreatWire
import Derived.Test.YtoefffjhjmjhfaaGreatAppendAll
namespace Go.Proofs.YtoefffjhjmjhfaaGreat
open Go.RowKit Go.Proofs.YtoefffjhjmjhfaaGreatW.PrintLast

/-- Block g is a writer, made since w0; what it holds; nothing that was there has changed. -/
structure WZ (w0 w : World) (g : Nat) (most : Int) (zs : List Int) : Prop where
  ex : ∃ s, WA w g most zs s ∧ ∀ j, s.ownBlock = some j → w0.heap.size ≤ j
  chg : Chg NoB w0 w
  new : w0.heap.size ≤ g
/-- A block of another type than bytes, other than g, is left alone. -/
def Kt (g : Nat) (w w' : World) : Prop := ∀ b t cs, b ≠ g → t ≠ 5 → Blk w b t cs → Blk w' b t cs
theorem Kt.no {g : Nat} {w w' : World} (h : Chg NoB w w') : Kt g w w' := fun _ _ _ _ _ hB => hB.st h
theorem Kt.trans {g : Nat} {w w1 w2 : World} (h : Kt g w w1) (k : Kt g w1 w2) : Kt g w w2 := fun b t cs h1 h2 h3 => k b t cs h1 h2 (h b t cs h1 h2 h3)
theorem own_type {w : World} {base n k : Nat} {t : TypeId} {s : Value} {xs : List Value} (h : w.ownsRow base t k s n xs) {j : Nat} (hj : s.ownBlock = some j) : ∃ cur, Blk w j t cur := by
  obtain ⟨_, hr⟩ := h
  rcases hr with ⟨rfl, _⟩ | ⟨g', cap, cur, rfl, _, hB, _⟩
  · cases hj
  · cases hj; exact ⟨cur, hB⟩
section
variable {w0 w w' : World} {g : Nat} {most : Int} {zs : List Int}
theorem WZ.st (h : WZ w0 w g most zs) (hC : Chg NoB w w') : WZ w0 w' g most zs := by
  obtain ⟨⟨s, h1, h2⟩, h3, h4⟩ := h
  exact ⟨⟨s, h1.chg hC, h2⟩, h3.trans hC, h4⟩
theorem WZ.turn (h : WZ w0 w g most zs) {s : Value} (q : WA w g most zs s) (hs : ∀ j, s.ownBlock = some j → w0.heap.size ≤ j) {ys : List Int} (hw : (∃ s', WA w' g most (zs ++ ys) s' ∧ (s'.ownBlock = s.ownBlock ∨ ∀ j, s'.ownBlock = some j → w.heap.size ≤ j)) ∧ Chg (WS g s) w w') : WZ w0 w' g most (zs ++ ys) ∧ Kt g w w' := by
  obtain ⟨⟨s', h1, h2⟩, h3⟩ := hw
  refine ⟨⟨⟨s', h1, fun j hj => ?_⟩, h.chg.then_ h3 fun j hj hq => ?_, h.new⟩, fun b t cs hb ht hB => hB.chg h3 fun hq => ?_⟩
  · rcases h2 with h2 | h2
    · exact hs j (h2 ▸ hj)
    · exact Nat.le_trans h.chg.size (h2 j hj)
  · have := h.new
    rcases hq with hq | hq
    · omega
    · have := hs j hq; omega
  · rcases hq with hq | hq
    · exact hb hq
    · obtain ⟨cur, hB2⟩ := own_type q.own hq
      exact (Blk.ne_ hB hB2 ht) rfl
theorem own_new {w : World} {base n k : Nat} {t : TypeId} {v : Value} {xs : List Value} {s : Value} {m k2 : Nat} {t2 : TypeId} {ys : List Value} {b2 : Nat} {w1 : World} (hs : w.ownsRow b2 t2 k2 s m ys) (hv : w1.ownsRow base t k v n xs) (hb : w.heap.size ≤ base) : ∀ j, s.ownBlock = some j → v.ownBlock ≠ some j := fun j hj hj2 => by
  have h1 := (hs.lt j hj).2
  have h2 := (hv.lt j hj2).1
  omega
set_option maxRecDepth 100000 in
theorem wnum_z (h : WZ w0 w g most zs) (n : Nat) (hn : n < 18446744073709551616) (hroom : (zs.length : Int) + (nb n).length ≤ most) (hmost : most ≤ 4294967296) :
    Calls Tryz.prog 127 #[.pointer (some ⟨g, 0, none⟩), .int .u64 n] w fun e w' => e = .returned (.tuple #[]) ∧ WZ w0 w' g most (zs ++ nb n) ∧ Kt g w w' := by
  have HH := Lib.hid h
  obtain ⟨⟨s, hq, hs⟩, _, _⟩ := h
  have HQ := Lib.hid hq
  have HS := Lib.hid hs
  clear hq hs
  go_enter Tryz.func127, Tryz.ntmps127
  go_wp2_with fail
  refine (num_any n hn _).mono ?_
  rintro e w1 ⟨⟨v, rfl, hv⟩, hC⟩
  have HQ1 := Lib.hid (HQ.out.chg hC)
  have HD := Lib.hid (own_new HQ.out.own hv (Nat.le_refl _))
  have HH1 := Lib.hid (HH.out.st hC)
  have HK : Hid (Kt g w w1) := Lib.hid (.no hC)
  have HV := Lib.hid hv
  clear hv hC
  go_wp2_with fail
  refine (put_any HQ1.out HV.out (nb_pos _) HD.out hroom hmost).mono ?_
  rintro e w2 ⟨rfl, hw⟩
  have HR := Lib.hid (HH1.out.turn HQ1.out HS.out hw)
  clear hw
  go_wp2_with fail
  go_end0
  exact ⟨rfl, HR.out.1, HK.out.trans HR.out.2⟩
theorem wint_z (h : WZ w0 w g most zs) (n : Int) (hroom : (zs.length : Int) + 10 ≤ most) (hmost : most ≤ 4294967296) :
    Calls Tryz.prog 245 #[.pointer (some ⟨g, 0, none⟩), .int .i64 n] w fun e w' => e = .returned (.tuple #[]) ∧ WZ w0 w' g most (zs ++ ib n) ∧ Kt g w w' := by
  have HH := Lib.hid h
  obtain ⟨⟨s, hq, hs⟩, _, _⟩ := h
  exact (wint_any hq hroom hmost).mono fun e w' ⟨he, hw⟩ => ⟨he, HH.out.turn hq hs hw⟩
set_option maxRecDepth 100000 in
theorem wflag_z (h : WZ w0 w g most zs) (b : Bool) (hroom : (zs.length : Int) + 1 ≤ most) (hmost : most ≤ 4294967296) :
    Calls Tryz.prog 246 #[.pointer (some ⟨g, 0, none⟩), .bool b] w fun e w' => e = .returned (.tuple #[]) ∧ WZ w0 w' g most (zs ++ [if b then 1 else 0]) ∧ Kt g w w' := by
  have HH := Lib.hid h
  obtain ⟨⟨s, hq, hs⟩, _, _⟩ := h
  have HQ := Lib.hid hq
  have HS := Lib.hid hs
  clear hq hs
  cases b with
  | true =>
    go_enter Tryz.func246, Tryz.ntmps246
    go_wp2_with fail
    have hC := Chg.al w (.cells #[.int .u8 1] 5)
    have hv : (w.alloc (.cells #[.int .u8 1] 5)).ownsRow w.heap.size 5 1 (.slice (some ⟨w.heap.size, 0, none⟩) 1 1) [(1 : Int)].length (by8 [1]) := ⟨rfl, .inr ⟨_, _, _, rfl, Nat.le_refl _, Blk.new _ _ _, Nat.le_refl _, by unfold maxLen; omega, rfl, rfl⟩⟩
    have HQ1 := Lib.hid (HQ.out.chg hC)
    have HD := Lib.hid (own_new HQ.out.own hv (Nat.le_refl _))
    have HH1 := Lib.hid (HH.out.st hC)
    have HK := Lib.hid (Kt.no (g := g) hC)
    have HV := Lib.hid hv
    clear hv hC
    generalize w.alloc (Obj.cells _ 5) = W at *
    refine (put_any HQ1.out HV.out (by decide) HD.out (by simpa using hroom) hmost).mono ?_
    rintro e w2 ⟨rfl, hw⟩
    have HR := Lib.hid (HH1.out.turn HQ1.out HS.out hw)
    clear hw
    go_wp2_with fail
    go_end0
    exact ⟨rfl, HR.out.1, HK.out.trans HR.out.2⟩
  | false =>
    go_enter Tryz.func246, Tryz.ntmps246
    go_wp2_with fail
    have hC := Chg.al w (.cells #[.int .u8 0] 5)
    have hv : (w.alloc (.cells #[.int .u8 0] 5)).ownsRow w.heap.size 5 1 (.slice (some ⟨w.heap.size, 0, none⟩) 1 1) [(0 : Int)].length (by8 [0]) := ⟨rfl, .inr ⟨_, _, _, rfl, Nat.le_refl _, Blk.new _ _ _, Nat.le_refl _, by unfold maxLen; omega, rfl, rfl⟩⟩
    have HQ1 := Lib.hid (HQ.out.chg hC)
    have HD := Lib.hid (own_new HQ.out.own hv (Nat.le_refl _))
    have HH1 := Lib.hid (HH.out.st hC)
    have HK := Lib.hid (Kt.no (g := g) hC)
    have HV := Lib.hid hv
    clear hv hC
    generalize w.alloc (Obj.cells _ 5) = W at *
    refine (put_any HQ1.out HV.out (by decide) HD.out (by simpa using hroom) hmost).mono ?_
    rintro e w2 ⟨rfl, hw⟩
    have HR := Lib.hid (HH1.out.turn HQ1.out HS.out hw)
    clear hw
    go_wp2_with fail
    go_end0
    exact ⟨rfl, HR.out.1, HK.out.trans HR.out.2⟩
/-- A text's bytes, with their length ahead. -/
def tb (l : List UInt8) : List Int := nb l.length ++ nums l
set_option maxRecDepth 100000 in
set_option maxHeartbeats 1000000 in
theorem wtext_z {A : Nat → Prop} (h : WZ w0 w g most zs) (l : List UInt8) (v : Value) (hv : Rd w A (bD l) v) (hl : l.length ≤ 1000000) (hroom : (zs.length : Int) + (tb l).length ≤ most) (hmost : most ≤ 4294967296) :
    Calls Tryz.prog 128 #[.pointer (some ⟨g, 0, none⟩), v] w fun e w' => e = .returned (.tuple #[]) ∧ WZ w0 w' g most (zs ++ tb l) ∧ Kt g w w' := by
  have HH := Lib.hid h
  obtain ⟨⟨s, hq, hs⟩, _, _⟩ := h
  obtain ⟨p, cap, rfl, _⟩ := bytes_form hv
  have HQ := Lib.hid hq
  have HS := Lib.hid hs
  have HB := Lib.hid hv
  have hwr : IntKind.u64.wrap (l.length : Int) = (l.length : Int) := by rw [IntKind.wrap_u64]; omega
  clear hq hs hv
  obtain ⟨i9, hi9, z9, s9, y9⟩ := info_parts Tryz.infU8
  have hnl : (nb l.length).length ≤ 10 := nb_len 9 l.length (by omega)
  go_enter Tryz.func128, Tryz.ntmps128
  go_wp2_with fail
  refine (num_any l.length (by omega) _).mono ?_
  rintro e w1 ⟨⟨v1, rfl, hv1⟩, hC⟩
  have HQ1 := Lib.hid (HQ.out.chg hC)
  have HH1 := Lib.hid (HH.out.st hC)
  have HB1 := Lib.hid (HB.out.st hC)
  have HV := Lib.hid hv1
  have HCC := Lib.hid hC
  clear hv1 hC
  go_wp2_with (at_builtin; refine wpList_append_all rfl _ _ _ rfl w.heap.size 5 i9 _ 1 1 Tryz.underlying47 hi9 z9 s9 y9 rfl (by omega) _ (nb l.length).length (by8 (nb l.length)) rfl HV.out _ l.length ((nums l).map (Value.int .u8)) rfl (src_bytes HB1.out) (by8_one (nums l)) (by unfold maxLen; omega) (by omega) HCC.out.size ?_)
  intro v2 w2 hown2 hgrow2 hat2
  have hC2 : Chg NoB w w2 := HCC.out.then_ (cgrown hgrow2) fun j hj hs => by have := (HV.out.lt j hs).1; omega
  have hC12 : Chg (fun k => w.heap.size ≤ k) w1 w2 := (cgrown hgrow2).mono fun k _ hs => (HV.out.lt k hs).1
  have HV2 : Hid (w2.ownsRow w.heap.size 5 1 v2 (tb l).length (by8 (tb l))) := Lib.hid (by
    unfold tb
    rw [List.length_append, nums_length, by8_append]
    exact hown2)
  have HQ2 := Lib.hid (HQ.out.chg hC2)
  have HH2 := Lib.hid (HH.out.st hC2)
  have HK : Hid (Kt g w w2) := Lib.hid (.no hC2)
  have HD := Lib.hid (own_new HQ.out.own HV2.out (Nat.le_refl _))
  obtain ⟨p2, cap2, rfl, _⟩ := own_form HV2.out
  clear hown2 hgrow2 hat2 hC2 hC12
  go_wp2_with fail
  refine (put_any HQ2.out HV2.out (by unfold tb; have := nb_pos l.length; rw [List.length_append]; omega) HD.out hroom hmost).mono ?_
  rintro e w3 ⟨rfl, hw⟩
  have HR := Lib.hid (HH2.out.turn HQ2.out HS.out hw)
  clear hw
  go_wp2_with fail
  go_end0
  exact ⟨rfl, HR.out.1, HK.out.trans HR.out.2⟩
set_option maxRecDepth 100000 in
set_option maxHeartbeats 2000000 in
theorem writeV_z (h : WZ w0 w g most zs) (f : Vc) (hroom : (zs.length : Int) + 80 ≤ most) (hmost : most ≤ 4294967296) :
    Calls Tryz.prog 244 #[.pointer (some ⟨g, 0, none⟩), vec f] w fun e w' => e = .returned (.tuple #[]) ∧ WZ w0 w' g most (zs ++ ibs f 8) ∧ Kt g w w' := by
  have HH := Lib.hid h
  clear h
  go_enter Tryz.func244, Tryz.ntmps244
  go_wp2_with fail
  have HH1 := Lib.hid (HH.out.st (Chg.al w (Obj.cells (va f) 46)))
  have HK : Hid (Kt g w (w.alloc (Obj.cells (va f) 46))) := Lib.hid (.no (Chg.al w _))
  clear HH
  generalize w.alloc (Obj.cells (va f) 46) = W at *
  go_loopw [7] (fun i wr => ∃ k : Nat, k ≤ 8 ∧ i = .int .i64 k ∧ Hid (WZ w0 wr g most (zs ++ ibs f k)) ∧ Hid (Kt g w wr)) (fun i _ => 8 - (intOf i).toNat)
  case atStart => exact ⟨0, by decide, rfl, by simpa [ibs] using HH1, HK⟩
  case round =>
    clear HH1 HK
    obtain ⟨k, hk, rfl, HH, HK⟩ := hrel
    by_cases hlt : k < 8
    · have hk2 : decide ((k : Int) < 8) = true := by simp; omega
      have hl := ibs_len f k
      have hix := idx f hlt
      go_wp2_with fail
      refine (wint_z HH.out (f k) (by rw [List.length_append]; omega) hmost).mono ?_
      rintro e w2 ⟨rfl, hq, hk3⟩
      rw [List.append_assoc, ← ibs_succ] at hq
      have HH2 := Lib.hid hq
      have HK2 := Lib.hid (HK.out.trans hk3)
      clear hq hk3 HH HK
      go_wp2_with fail
      go_roundw
      case rel => exact ⟨k + 1, by omega, by go_num, HH2, HK2⟩
      case measure => simp [intOf]; omega
    · obtain rfl : k = 8 := by omega
      have hk2 : decide (((8 : Nat) : Int) < 8) = false := by decide
      go_wp2_with fail
      go_end0
      exact ⟨rfl, HH.out, HK.out⟩
end
end Go.Proofs.YtoefffjhjmjhfaaGreat
