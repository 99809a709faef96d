/- VectorBytes: the walk. -/
import Derived.Test.YthkmocfdpmlllabDoorWireRefW
import Derived.Test.YthkmocfdpmlllabDoorWireRefV
import Derived.Test.YthkmocfdpmlllabDoorVArgs
import Derived.Test.YthkmocfdpmlllabDoorArgs
import Derived.Laws.BytesArg
import Derived.Deep.CutBlock
namespace Go.Proofs.YthkmocfdpmlllabDoor
open Go.RowKit Go.Proofs.YthkmocfdpmlllabDoorW.PrintLast
attribute [local go_sem] max2_mx max_two_ eq_nums
attribute [local irreducible] wpQuiet

theorem rd_str {w : World} {v : Value} {xs : List Int} (h : Rd w v xs) (hl : 0 < xs.length) : (convert 24 9 v).run Tryd.prog w = .ok (.string (strOfNums xs)) w := by
  obtain ⟨A, cap, rfl, _, _, h3⟩ := h.lies
  obtain ⟨b, off, cs, rfl, hB, hcl⟩ := h3 hl
  exact run_convert_bytes_arg (P := Tryd.prog) w 24 5 Tryd.underlying24 Tryd.underlying5 b off xs.length cap xs rfl (fun i hi => (hB.cell (off + i)).trans (hcl i _ (by simp [by8, hi]))) 9 Tryd.underlying9
theorem ibs_pos (f : Vc) : 0 < (ibs f 8).length := by
  have : ibs f 8 = ibs f 7 ++ ib (f 7) := ibs_succ f 7
  rw [this, List.length_append]
  have := nb_pos (zz (f 7))
  unfold ib
  omega
set_option maxRecDepth 100000 in
set_option maxHeartbeats 2000000 in
theorem vectorBytes_any (f : Vc) (zs : List Int) (A : Option Addr) (cap : Nat) (w : World) (hz : zs.length ≤ 140737488355328) (hp : 0 < zs.length → ∃ b off, A = some ⟨b, off, none⟩ ∧ b < w.heap.size ∧ ∀ j u, (by8 zs)[j]? = some u → w.cell? ⟨b, off + j, none⟩ = some u) :
    Calls Tryd.prog 3 #[vec f, .slice A zs.length cap] w fun e w' => e = .returned (.bool true) ∧ Chg NoB w w' := by
  have HP := Lib.hid hp
  clear hp
  go_enter Tryd.func3, Tryd.ntmps3
  go_wp2_with fail
  refine (newWriter_any 200 _ (by decide)).mono ?_
  rintro e w1 ⟨rfl, hq, hC⟩
  have hsz : (w.alloc (Obj.cells (va f) 23)).heap.size = w.heap.size + 1 := by simp
  rw [hsz] at hq ⊢
  have B0 := Lib.hid ((Blk.new w 23 (va f)).chg hC id)
  have HQ1 := Lib.hid hq
  have HC1 := Lib.hid (((Chg.refl NoB w).alloc _).trans hC)
  clear hq hC
  obtain ⟨c0, c1, c2, c3, c4, c5, c6, c7⟩ := eight B0.out
  have hb0 := B0.out.lt
  go_wp2_with fail
  have hg0 : w.heap.size + 1 < w1.heap.size := HQ1.out.blk.lt
  have HQ2 := Lib.hid (HQ1.out.chg ((Chg.refl NoB w1).alloc (Obj.cells #[.slice none 0 0, .int .i64 200, .bool false] 29)))
  have B2 := Lib.hid (B0.out.alloc (Obj.cells #[.slice none 0 0, .int .i64 200, .bool false] 29))
  have HM2 : Hid (RW.WA (w1.alloc (Obj.cells #[.slice none 0 0, .int .i64 200, .bool false] 29)) w1.heap.size 200 [] (.slice none 0 0)) := Lib.hid ⟨Blk.new _ _ _, ⟨rfl, .inl ⟨rfl, rfl⟩⟩⟩
  have HC2 := Lib.hid (HC1.out.alloc (Obj.cells #[.slice none 0 0, .int .i64 200, .bool false] 29))
  clear HQ1 HC1 B0 c0 c1 c2 c3 c4 c5 c6 c7
  generalize w1.alloc (Obj.cells #[.slice none 0 0, .int .i64 200, .bool false] 29) = W2 at *
  refine (write_any f HQ2.out).mono ?_
  have hW2 := HM2.out.blk.lt
  rintro e w3 ⟨rfl, ⟨s3, hq, hf⟩, hC⟩
  have HQ3 := Lib.hid hq
  have HF3 := Lib.hid hf
  have B3 := Lib.hid (B2.out.chg hC (by unfold Only; omega))
  have HM3 : Hid (RW.WA w3 w1.heap.size 200 [] (.slice none 0 0)) := Lib.hid ⟨HM2.out.blk.chg hC (by unfold Only; omega), ⟨rfl, .inl ⟨rfl, rfl⟩⟩⟩
  have HC3 := Lib.hid (HC2.out.then_ hC (fun j hj hs => by unfold Only at hs; omega))
  clear hq hC hf HQ2 B2 HM2 HC2
  obtain ⟨c0, c1, c2, c3, c4, c5, c6, c7⟩ := eight B3.out
  go_wp2_with fail
  refine (RW.write_any f HM3.out).mono ?_
  rintro e w4 ⟨rfl, ⟨s4, hq, hf⟩, hC⟩
  have HM4 := Lib.hid hq
  have HQ4 : Hid (WA w4 (w.heap.size + 1) 200 (ibs f 8) s3) := Lib.hid ⟨HQ3.out.blk.chg hC (by unfold Only; omega), own_no HQ3.out.own hC (fun j hj => by have := HF3.out j hj; unfold Only; omega)⟩
  have HC4 := Lib.hid (HC3.out.then_ hC (fun j hj hs => by unfold Only at hs; omega))
  clear hq hC hf HQ3 HF3 B3 HM3 HC3 c0 c1 c2 c3 c4 c5 c6 c7
  have hl80 := ibs_len f 8
  go_wp2_with fail
  refine (done_any HQ4.out (by omega)).mono ?_
  rintro e w5 ⟨⟨vx, rfl, hv⟩, hC⟩
  have HX5 := Lib.hid (Rd.of_own hv)
  have HM5 := Lib.hid (HM4.out.chg hC)
  have HC5 := Lib.hid (HC4.out.trans hC)
  clear hv hC HQ4 HM4 HC4
  go_upto_region 5 with fail
  go_cut [9, 10] from 15 (fun r t w' => ∃ (g5 : Nat) (v5 : Value) (g6 : Nat) (v6 : Value), r = .pointer (some ⟨g5, 0, none⟩) ∧ t = .pointer (some ⟨g6, 0, none⟩) ∧ RA w' g5 0 zs v5 ∧ RR.RA w' g6 0 zs v6 ∧ w5.heap.size ≤ g5 ∧ w5.heap.size ≤ g6 ∧ Rd w' vx (ibs f 8) ∧ RW.WA w' w1.heap.size 200 (ibs f 8) s4 ∧ Chg NoB w w')
  case first =>
    have hp5 : 0 < zs.length → ∃ b off, A = some ⟨b, off, none⟩ ∧ b < w5.heap.size ∧ ∀ j u, (by8 zs)[j]? = some u → w5.cell? ⟨b, off + j, none⟩ = some u := fun h => by
      obtain ⟨b, off, hA, hb, hcl⟩ := HP.out h
      exact ⟨b, off, hA, Nat.lt_of_lt_of_le hb HC5.out.size, fun j u hu => (HC5.out.cell (p := ⟨b, off + j, none⟩) hb id).trans (hcl j u hu)⟩
    have HP5 := Lib.hid hp5
    clear hp5
    go_wp2_with fail
    refine (newReader_any zs A cap w5 hz HP5.out).mono ?_
    rintro e w6 ⟨⟨g5, v5, rfl, hr, hg5⟩, hC⟩
    have HR6 := Lib.hid hr
    have HX6 := Lib.hid (HX5.out.keep fun _ _ hb => hb.chg hC id)
    have HM6 := Lib.hid (HM5.out.chg hC)
    have HC6 := Lib.hid (HC5.out.trans hC)
    have h56 := hC.size
    have HP6 : Hid (0 < zs.length → ∃ b off, A = some ⟨b, off, none⟩ ∧ b < w6.heap.size ∧ ∀ j u, (by8 zs)[j]? = some u → w6.cell? ⟨b, off + j, none⟩ = some u) := Lib.hid fun h => by
      obtain ⟨b, off, hA, hb, hcl⟩ := HP5.out h
      exact ⟨b, off, hA, Nat.lt_of_lt_of_le hb hC.size, fun j u hu => (hC.cell (p := ⟨b, off + j, none⟩) hb id).trans (hcl j u hu)⟩
    clear hr hC HX5 HM5 HC5 HP HP5
    obtain ⟨i9, hi9, z9, s9, y9⟩ := info_parts Tryd.infU8
    by_cases hl : 0 < zs.length
    · obtain ⟨b, off, rfl, hb, hcl⟩ := HP6.out hl
      have hnw : ∀ j u, (by8 zs)[j]? = some u → w6.cell? ((⟨b, off, none⟩ : Addr).add j) = some u := fun j u hu => by rw [Addr.add_lit]; exact hcl j u hu
      have hown2 : w6.ownsRow w6.heap.size 5 1 (.slice none 0 0) 0 [] := ⟨rfl, .inl ⟨rfl, rfl⟩⟩
      clear hcl HP6
      go_wp2_with (at_builtin; refine wpList_append_lies _ rfl _ _ _ rfl w6.heap.size 5 i9 _ 1 1 Tryd.underlying24 hi9 z9 s9 y9 rfl (by omega) _ 0 [] rfl hown2 ⟨b, off, none⟩ zs.length cap (by8 zs) rfl (by rw [by8_length, Nat.mul_one]) hnw (by8_one zs) hl (by unfold maxLen; omega) (by omega) (by omega) w6.heap.size rfl ?_)
      intro g3 cap3 w7 hown3 hgrow hat hlt3
      have hC7 : Chg NoB w6 w7 := (grown_row hgrow).mono fun k _ hk => by cases hk
      have HR7 := Lib.hid (HR6.out.chg hC7)
      have HX7 := Lib.hid (HX6.out.keep fun _ _ hb => hb.chg hC7 id)
      have HM7 := Lib.hid (HM6.out.chg hC7)
      have HC7 := Lib.hid (HC6.out.trans hC7)
      have HB7 : Hid (Rd w7 (.slice (some ⟨g3, 0, none⟩) zs.length cap3) zs) := Lib.hid (Rd.of_own (base := w6.heap.size) (by simpa using hown3))
      have h67 := hC7.size
      clear hown2 hown3 hgrow hat hlt3 hC7 hnw HR6 HX6 HM6 HC6 hi9 z9 s9 y9
      go_wp2_with fail
      go_meet
      case rel => exact ⟨g5, v5, w7.heap.size, _, rfl, rfl, HR7.out.chg ((Chg.refl NoB w7).alloc _), ⟨Blk.new _ _ _, HB7.out.keep fun _ _ hb => hb.alloc _⟩, hg5, by omega, HX7.out.keep fun _ _ hb => hb.alloc _, HM7.out.chg ((Chg.refl NoB w7).alloc _), HC7.out.alloc _⟩
    · obtain rfl : zs = [] := List.length_eq_zero_iff.1 (by omega)
      clear HP6 hl hi9 z9 s9 y9
      cases A with
      | none =>
        go_wp2_with fail
        go_meet
        case rel => exact ⟨g5, v5, w6.heap.size, _, rfl, rfl, HR6.out.chg ((Chg.refl NoB w6).alloc _), ⟨Blk.new _ _ _, Rd.nil _⟩, hg5, by omega, HX6.out.keep fun _ _ hb => hb.alloc _, HM6.out.chg ((Chg.refl NoB w6).alloc _), HC6.out.alloc _⟩
      | some a =>
        go_wp2_with fail
        go_meet
        case rel => exact ⟨g5, v5, w6.heap.size, _, rfl, rfl, HR6.out.chg ((Chg.refl NoB w6).alloc _), ⟨Blk.new _ _ _, Rd.nil _⟩, hg5, by omega, HX6.out.keep fun _ _ hb => hb.alloc _, HM6.out.chg ((Chg.refl NoB w6).alloc _), HC6.out.alloc _⟩
  case rest =>
    obtain ⟨g5, v5, g6, v6, rfl, rfl, hr, hs, hg5, hg6, hx, hm, hC⟩ := hcut
    have hlen5 := HC5.out.size
    have hne : g5 ≠ g6 := fun e => (Blk.ne_ hr.blk hs.blk (by decide)) e
    have hmg : g5 ≠ w1.heap.size ∧ g6 ≠ w1.heap.size := by
      have := hm.blk
      exact ⟨Blk.ne_ hr.blk hm.blk (by decide), Blk.ne_ hs.blk hm.blk (by decide)⟩
    have HR := Lib.hid hr
    have HS := Lib.hid hs
    have HX := Lib.hid hx
    have HM := Lib.hid hm
    have HC := Lib.hid hC
    clear hr hs hx hm hC HX5 HM5 HP
    go_wp2_with fail
    refine (read_all HR.out).mono ?_
    rintro e w6 ⟨rfl, ⟨v7, hr⟩, hC⟩
    have HR2 := Lib.hid hr
    have HS2 : Hid (RR.RA w6 g6 0 zs v6) := Lib.hid (HS.out.other hC HR.out.blk (by decide) (by decide))
    have HX2 := Lib.hid (HX.out.store HR.out.blk hC)
    have HM2 : Hid (RW.WA w6 w1.heap.size 200 (ibs f 8) s4) := Lib.hid ⟨HM.out.blk.chg hC (by unfold Only; omega), own_no HM.out.own hC (fun j hj => by
      obtain ⟨_, ho⟩ := HM.out.own
      rcases ho with ⟨h0, _⟩ | ⟨g', cap', cur, h0, _, hB, _⟩
      · rw [h0] at hj; cases hj
      · rw [h0] at hj
        obtain rfl : g' = j := Option.some.inj hj
        exact fun e => (Blk.ne_ hB HR.out.blk (by decide)) e)⟩
    have HC2 := Lib.hid (HC.out.then_ hC (fun j hj hs => by unfold Only at hs; omega))
    clear hr hC HR HS HX HM HC
    go_wp2_with fail
    have hg67 : g5 < w6.heap.size ∧ g6 < w6.heap.size := ⟨HR2.out.blk.lt, HS2.out.blk.lt⟩
    have HR3 := Lib.hid (HR2.out.chg ((Chg.refl NoB w6).alloc (Obj.cells (va (rout zs)) 23)))
    have HS3 := Lib.hid (HS2.out.chg ((Chg.refl NoB w6).alloc (Obj.cells (va (rout zs)) 23)))
    have HX3 := Lib.hid (HX2.out.keep fun _ _ hb => hb.alloc (Obj.cells (va (rout zs)) 23))
    have HM3 := Lib.hid (HM2.out.chg ((Chg.refl NoB w6).alloc (Obj.cells (va (rout zs)) 23)))
    have HV3 := Lib.hid (Blk.new w6 23 (va (rout zs)))
    have HC3 := Lib.hid (HC2.out.alloc (Obj.cells (va (rout zs)) 23))
    have h67 : w6.heap.size < (w6.alloc (Obj.cells (va (rout zs)) 23)).heap.size := by simp
    clear HR2 HS2 HX2 HM2 HC2
    generalize w6.alloc (Obj.cells (va (rout zs)) 23) = W7 at *
    refine (RR.read_all HS3.out).mono ?_
    rintro e w8 ⟨rfl, ⟨v8, hr⟩, hC⟩
    have HS4 := Lib.hid hr
    have HR4 : Hid (RA w8 g5 (rst zs 8).1 (rst zs 8).2 v7) := Lib.hid (HR3.out.other hC HS3.out.blk (by decide) (by decide))
    have HX4 := Lib.hid (RR.store_ HX3.out HS3.out.blk hC)
    have HV4 := Lib.hid (HV3.out.chg hC (by unfold Only; omega))
    have HM4 : Hid (RW.WA w8 w1.heap.size 200 (ibs f 8) s4) := Lib.hid ⟨HM3.out.blk.chg hC (by unfold Only; omega), own_no HM3.out.own hC (fun j hj => by
      obtain ⟨_, ho⟩ := HM3.out.own
      rcases ho with ⟨h0, _⟩ | ⟨g', cap', cur, h0, _, hB, _⟩
      · rw [h0] at hj; cases hj
      · rw [h0] at hj
        obtain rfl : g' = j := Option.some.inj hj
        exact fun e => (Blk.ne_ hB HS3.out.blk (by decide)) e)⟩
    have HC4 := Lib.hid (HC3.out.then_ hC (fun j hj hs => by unfold Only at hs; omega))
    clear hr hC HR3 HS3 HX3 HM3 HV3 HC3
    obtain ⟨A8, cap8, rfl⟩ := HS4.out.form
    go_wp2_with fail
    have HR5 := Lib.hid (HR4.out.chg ((Chg.refl NoB w8).alloc (Obj.cells (va (rout zs)) 23)))
    have HS5 := Lib.hid (HS4.out.chg ((Chg.refl NoB w8).alloc (Obj.cells (va (rout zs)) 23)))
    have HX5 := Lib.hid (HX4.out.keep fun _ _ hb => hb.alloc (Obj.cells (va (rout zs)) 23))
    have HM5 := Lib.hid (HM4.out.chg ((Chg.refl NoB w8).alloc (Obj.cells (va (rout zs)) 23)))
    have HV5 := Lib.hid (HV4.out.alloc (Obj.cells (va (rout zs)) 23))
    have HU5 := Lib.hid (Blk.new w8 23 (va (rout zs)))
    have HC5 := Lib.hid (HC4.out.alloc (Obj.cells (va (rout zs)) 23))
    clear HR4 HS4 HX4 HM4 HC4 HV4
    generalize w8.alloc (Obj.cells (va (rout zs)) 23) = W9 at *
    generalize rout zs = q at *
    generalize rok zs = okq at *
    generalize (rst zs 8).1 = er at *
    generalize (rst zs 8).2 = rs at *
    refine q_start (by kernel_rfl) (by kernel_rfl) ?_
    refine q_on (v := ?_) (by rfl) ?_ ?_
    rotate_left
    · intro w' hC
      have hv1 := rd_str (HX5.out.keep fun _ _ hb => hb.chg hC id) (ibs_pos f)
      have hv2 := rd_str (Rd.of_own (HM5.out.chg hC).own) (ibs_pos f)
      go_simp
      with_reducible rfl
    rotate_left
    refine q_norm (a' := ?_) ?_ ?_
    rotate_left
    · show Act.put _ (some 45) _ = _
      simp only [Act.put, List.setIfInBounds_toArray, List.set_cons_zero, List.set_cons_succ]
      rfl
    refine q_on (v := ?_) (by rfl) ?_ ?_
    rotate_left
    · intro w' hC
      have hv1 := rd_str (HX5.out.keep fun _ _ hb => hb.chg hC id) (ibs_pos f)
      have hv2 := rd_str (Rd.of_own (HM5.out.chg hC).own) (ibs_pos f)
      go_simp
      with_reducible rfl
    rotate_left
    refine q_norm (a' := ?_) ?_ ?_
    rotate_left
    · show Act.put _ (some 46) _ = _
      simp only [Act.put, List.setIfInBounds_toArray, List.set_cons_zero, List.set_cons_succ]
      rfl
    refine q_on (v := ?_) (by rfl) ?_ ?_
    rotate_left
    · intro w' hC
      have hv1 := rd_str (HX5.out.keep fun _ _ hb => hb.chg hC id) (ibs_pos f)
      have hv2 := rd_str (Rd.of_own (HM5.out.chg hC).own) (ibs_pos f)
      go_simp
      with_reducible rfl
    rotate_left
    refine q_norm (a' := ?_) ?_ ?_
    rotate_left
    · show Act.put _ (some 47) _ = _
      simp only [Act.put, List.setIfInBounds_toArray, List.set_cons_zero, List.set_cons_succ]
      rfl
    refine q_on (v := ?_) (by rfl) ?_ ?_
    rotate_left
    · intro w' hC
      have hv1 := rd_str (HX5.out.keep fun _ _ hb => hb.chg hC id) (ibs_pos f)
      have hv2 := rd_str (Rd.of_own (HM5.out.chg hC).own) (ibs_pos f)
      go_simp
      with_reducible rfl
    rotate_left
    refine q_norm (a' := ?_) ?_ ?_
    rotate_left
    · show Act.put _ (some 48) _ = _
      simp only [Act.put, List.setIfInBounds_toArray, List.set_cons_zero, List.set_cons_succ]
      rfl
    refine q_on (v := ?_) (by rfl) ?_ ?_
    rotate_left
    · intro w' hC
      have hv1 := rd_str (HX5.out.keep fun _ _ hb => hb.chg hC id) (ibs_pos f)
      have hv2 := rd_str (Rd.of_own (HM5.out.chg hC).own) (ibs_pos f)
      go_simp
      with_reducible rfl
    rotate_left
    refine q_norm (a' := ?_) ?_ ?_
    rotate_left
    · show Act.put _ (some 49) _ = _
      simp only [Act.put, List.setIfInBounds_toArray, List.set_cons_zero, List.set_cons_succ]
      rfl
    refine q_on (v := ?_) (by rfl) ?_ ?_
    rotate_left
    · intro w' hC
      have hv1 := rd_str (HX5.out.keep fun _ _ hb => hb.chg hC id) (ibs_pos f)
      have hv2 := rd_str (Rd.of_own (HM5.out.chg hC).own) (ibs_pos f)
      go_simp
      with_reducible rfl
    rotate_left
    refine q_norm (a' := ?_) ?_ ?_
    rotate_left
    · show Act.put _ (some 50) _ = _
      simp only [Act.put, List.setIfInBounds_toArray, List.set_cons_zero, List.set_cons_succ]
      rfl
    refine q_on (v := ?_) (by rfl) ?_ ?_
    rotate_left
    · intro w' hC
      have hv1 := rd_str (HX5.out.keep fun _ _ hb => hb.chg hC id) (ibs_pos f)
      have hv2 := rd_str (Rd.of_own (HM5.out.chg hC).own) (ibs_pos f)
      go_simp
      with_reducible rfl
    rotate_left
    refine q_norm (a' := ?_) ?_ ?_
    rotate_left
    · show Act.put _ (some 51) _ = _
      simp only [Act.put, List.setIfInBounds_toArray, List.set_cons_zero, List.set_cons_succ]
      rfl
    refine q_on (v := ?_) (by rfl) ?_ ?_
    rotate_left
    · intro w' hC
      have hv1 := rd_str (HX5.out.keep fun _ _ hb => hb.chg hC id) (ibs_pos f)
      have hv2 := rd_str (Rd.of_own (HM5.out.chg hC).own) (ibs_pos f)
      go_simp
      with_reducible rfl
    rotate_left
    refine q_norm (a' := ?_) ?_ ?_
    rotate_left
    · show Act.put _ (some 52) _ = _
      simp only [Act.put, List.setIfInBounds_toArray, List.set_cons_zero, List.set_cons_succ]
      rfl
    refine q_on (v := ?_) (by rfl) ?_ ?_
    rotate_left
    · intro w' hC
      have hv1 := rd_str (HX5.out.keep fun _ _ hb => hb.chg hC id) (ibs_pos f)
      have hv2 := rd_str (Rd.of_own (HM5.out.chg hC).own) (ibs_pos f)
      have k0 := (HM5.out.blk.chg hC id).cell 0
      go_simp
      with_reducible rfl
    rotate_left
    refine q_norm (a' := ?_) ?_ ?_
    rotate_left
    · show Act.put _ (some 53) _ = _
      simp only [Act.put, List.setIfInBounds_toArray, List.set_cons_zero, List.set_cons_succ]
      rfl
    refine q_on (v := ?_) (by rfl) ?_ ?_
    rotate_left
    · intro w' hC
      have hv1 := rd_str (HX5.out.keep fun _ _ hb => hb.chg hC id) (ibs_pos f)
      have hv2 := rd_str (Rd.of_own (HM5.out.chg hC).own) (ibs_pos f)
      go_simp
      with_reducible rfl
    rotate_left
    refine q_norm (a' := ?_) ?_ ?_
    rotate_left
    · show Act.put _ (some 54) _ = _
      simp only [Act.put, List.setIfInBounds_toArray, List.set_cons_zero, List.set_cons_succ]
      rfl
    refine q_on (v := ?_) (by rfl) ?_ ?_
    rotate_left
    · intro w' hC
      have hv1 := rd_str (HX5.out.keep fun _ _ hb => hb.chg hC id) (ibs_pos f)
      have hv2 := rd_str (Rd.of_own (HM5.out.chg hC).own) (ibs_pos f)
      go_simp
      with_reducible rfl
    rotate_left
    refine q_norm (a' := ?_) ?_ ?_
    rotate_left
    · show Act.put _ (some 55) _ = _
      simp only [Act.put, List.setIfInBounds_toArray, List.set_cons_zero, List.set_cons_succ]
      rfl
    refine q_on (v := ?_) (by rfl) ?_ ?_
    rotate_left
    · intro w' hC
      have hv1 := rd_str (HX5.out.keep fun _ _ hb => hb.chg hC id) (ibs_pos f)
      have hv2 := rd_str (Rd.of_own (HM5.out.chg hC).own) (ibs_pos f)
      go_simp
      with_reducible rfl
    rotate_left
    refine q_norm (a' := ?_) ?_ ?_
    rotate_left
    · show Act.put _ (some 56) _ = _
      simp only [Act.put, List.setIfInBounds_toArray, List.set_cons_zero, List.set_cons_succ]
      rfl
    refine q_on (v := ?_) (by rfl) ?_ ?_
    rotate_left
    · intro w' hC
      have hv1 := rd_str (HX5.out.keep fun _ _ hb => hb.chg hC id) (ibs_pos f)
      have hv2 := rd_str (Rd.of_own (HM5.out.chg hC).own) (ibs_pos f)
      go_simp
      with_reducible rfl
    rotate_left
    refine q_norm (a' := ?_) ?_ ?_
    rotate_left
    · show Act.put _ (some 57) _ = _
      simp only [Act.put, List.setIfInBounds_toArray, List.set_cons_zero, List.set_cons_succ]
      rfl
    refine q_on (v := ?_) (by rfl) ?_ ?_
    rotate_left
    · intro w' hC
      have hv1 := rd_str (HX5.out.keep fun _ _ hb => hb.chg hC id) (ibs_pos f)
      have hv2 := rd_str (Rd.of_own (HM5.out.chg hC).own) (ibs_pos f)
      obtain ⟨c0, c1, c2, c3, c4, c5, c6, c7⟩ := eight (HV5.out.chg hC id)
      go_simp
      with_reducible rfl
    rotate_left
    refine q_norm (a' := ?_) ?_ ?_
    rotate_left
    · show Act.put _ (some 58) _ = _
      simp only [Act.put, List.setIfInBounds_toArray, List.set_cons_zero, List.set_cons_succ]
      rfl
    refine q_on (v := ?_) (by rfl) ?_ ?_
    rotate_left
    · intro w' hC
      have hv1 := rd_str (HX5.out.keep fun _ _ hb => hb.chg hC id) (ibs_pos f)
      have hv2 := rd_str (Rd.of_own (HM5.out.chg hC).own) (ibs_pos f)
      obtain ⟨c0, c1, c2, c3, c4, c5, c6, c7⟩ := eight (HU5.out.chg hC id)
      go_simp
      with_reducible rfl
    rotate_left
    refine q_norm (a' := ?_) ?_ ?_
    rotate_left
    · show Act.put _ (some 59) _ = _
      simp only [Act.put, List.setIfInBounds_toArray, List.set_cons_zero, List.set_cons_succ]
      rfl
    refine q_on (v := ?_) (by rfl) ?_ ?_
    rotate_left
    · intro w' hC
      have hv1 := rd_str (HX5.out.keep fun _ _ hb => hb.chg hC id) (ibs_pos f)
      have hv2 := rd_str (Rd.of_own (HM5.out.chg hC).own) (ibs_pos f)
      go_simp
      with_reducible rfl
    rotate_left
    refine q_norm (a' := ?_) ?_ ?_
    rotate_left
    · show Act.put _ (some 60) _ = _
      simp only [Act.put, List.setIfInBounds_toArray, List.set_cons_zero, List.set_cons_succ]
      rfl
    refine q_on (v := ?_) (by rfl) ?_ ?_
    rotate_left
    · intro w' hC
      have hv1 := rd_str (HX5.out.keep fun _ _ hb => hb.chg hC id) (ibs_pos f)
      have hv2 := rd_str (Rd.of_own (HM5.out.chg hC).own) (ibs_pos f)
      go_simp
      with_reducible rfl
    rotate_left
    refine q_norm (a' := ?_) ?_ ?_
    rotate_left
    · show Act.put _ (some 61) _ = _
      simp only [Act.put, List.setIfInBounds_toArray, List.set_cons_zero, List.set_cons_succ]
      rfl
    refine q_on (v := ?_) (by rfl) ?_ ?_
    rotate_left
    · intro w' hC
      have hv1 := rd_str (HX5.out.keep fun _ _ hb => hb.chg hC id) (ibs_pos f)
      have hv2 := rd_str (Rd.of_own (HM5.out.chg hC).own) (ibs_pos f)
      go_simp
      with_reducible rfl
    rotate_left
    refine q_norm (a' := ?_) ?_ ?_
    rotate_left
    · show Act.put _ (some 62) _ = _
      simp only [Act.put, List.setIfInBounds_toArray, List.set_cons_zero, List.set_cons_succ]
      rfl
    refine q_on (v := ?_) (by rfl) ?_ ?_
    rotate_left
    · intro w' hC
      have hv1 := rd_str (HX5.out.keep fun _ _ hb => hb.chg hC id) (ibs_pos f)
      have hv2 := rd_str (Rd.of_own (HM5.out.chg hC).own) (ibs_pos f)
      go_simp
      with_reducible rfl
    rotate_left
    refine q_norm (a' := ?_) ?_ ?_
    rotate_left
    · show Act.put _ (some 63) _ = _
      simp only [Act.put, List.setIfInBounds_toArray, List.set_cons_zero, List.set_cons_succ]
      rfl
    refine q_on (v := ?_) (by rfl) ?_ ?_
    rotate_left
    · intro w' hC
      have hv1 := rd_str (HX5.out.keep fun _ _ hb => hb.chg hC id) (ibs_pos f)
      have hv2 := rd_str (Rd.of_own (HM5.out.chg hC).own) (ibs_pos f)
      go_simp
      with_reducible rfl
    rotate_left
    refine q_norm (a' := ?_) ?_ ?_
    rotate_left
    · show Act.put _ (some 64) _ = _
      simp only [Act.put, List.setIfInBounds_toArray, List.set_cons_zero, List.set_cons_succ]
      rfl
    refine q_on (v := ?_) (by rfl) ?_ ?_
    rotate_left
    · intro w' hC
      have hv1 := rd_str (HX5.out.keep fun _ _ hb => hb.chg hC id) (ibs_pos f)
      have hv2 := rd_str (Rd.of_own (HM5.out.chg hC).own) (ibs_pos f)
      go_simp
      with_reducible rfl
    rotate_left
    refine q_norm (a' := ?_) ?_ ?_
    rotate_left
    · show Act.put _ (some 65) _ = _
      simp only [Act.put, List.setIfInBounds_toArray, List.set_cons_zero, List.set_cons_succ]
      rfl
    refine q_on (v := ?_) (by rfl) ?_ ?_
    rotate_left
    · intro w' hC
      have hv1 := rd_str (HX5.out.keep fun _ _ hb => hb.chg hC id) (ibs_pos f)
      have hv2 := rd_str (Rd.of_own (HM5.out.chg hC).own) (ibs_pos f)
      go_simp
      with_reducible rfl
    rotate_left
    refine q_norm (a' := ?_) ?_ ?_
    rotate_left
    · show Act.put _ (some 66) _ = _
      simp only [Act.put, List.setIfInBounds_toArray, List.set_cons_zero, List.set_cons_succ]
      rfl
    refine q_on (v := ?_) (by rfl) ?_ ?_
    rotate_left
    · intro w' hC
      have hv1 := rd_str (HX5.out.keep fun _ _ hb => hb.chg hC id) (ibs_pos f)
      have hv2 := rd_str (Rd.of_own (HM5.out.chg hC).own) (ibs_pos f)
      go_simp
      with_reducible rfl
    rotate_left
    refine q_norm (a' := ?_) ?_ ?_
    rotate_left
    · show Act.put _ (some 67) _ = _
      simp only [Act.put, List.setIfInBounds_toArray, List.set_cons_zero, List.set_cons_succ]
      rfl
    refine q_on (v := ?_) (by rfl) ?_ ?_
    rotate_left
    · intro w' hC
      have hv1 := rd_str (HX5.out.keep fun _ _ hb => hb.chg hC id) (ibs_pos f)
      have hv2 := rd_str (Rd.of_own (HM5.out.chg hC).own) (ibs_pos f)
      go_simp
      with_reducible rfl
    rotate_left
    refine q_norm (a' := ?_) ?_ ?_
    rotate_left
    · show Act.put _ (some 68) _ = _
      simp only [Act.put, List.setIfInBounds_toArray, List.set_cons_zero, List.set_cons_succ]
      rfl
    refine q_call (f := 13) Tryd.func13 (by kernel_rfl) rfl #[.pointer (some ⟨g5, 0, none⟩)] (by rfl) rfl (by simp only [List.map_toArray, List.map_cons, List.map_nil]; rfl) _ (fun w' hC => q_of hC ((left_any (HR5.out.chg hC)).mono fun _ _ h => ⟨h.1, h.2 ▸ Chg.refl _ _⟩)) ?_
    refine q_norm (a' := ?_) ?_ ?_
    rotate_left
    · show Act.put _ (some 69) _ = _
      simp only [Act.put, List.setIfInBounds_toArray, List.set_cons_zero, List.set_cons_succ]
      rfl
    refine q_on (v := ?_) (by rfl) ?_ ?_
    rotate_left
    · intro w' hC
      have hv1 := rd_str (HX5.out.keep fun _ _ hb => hb.chg hC id) (ibs_pos f)
      have hv2 := rd_str (Rd.of_own (HM5.out.chg hC).own) (ibs_pos f)
      go_simp
      with_reducible rfl
    rotate_left
    refine q_norm (a' := ?_) ?_ ?_
    rotate_left
    · show Act.put _ (some 70) _ = _
      simp only [Act.put, List.setIfInBounds_toArray, List.set_cons_zero, List.set_cons_succ]
      rfl
    refine q_on (v := ?_) (by rfl) ?_ ?_
    rotate_left
    · intro w' hC
      have hv1 := rd_str (HX5.out.keep fun _ _ hb => hb.chg hC id) (ibs_pos f)
      have hv2 := rd_str (Rd.of_own (HM5.out.chg hC).own) (ibs_pos f)
      go_simp
      with_reducible rfl
    rotate_left
    refine q_norm (a' := ?_) ?_ ?_
    rotate_left
    · show Act.put _ (some 71) _ = _
      simp only [Act.put, List.setIfInBounds_toArray, List.set_cons_zero, List.set_cons_succ]
      rfl
    refine q_on (v := ?_) (by rfl) ?_ ?_
    rotate_left
    · intro w' hC
      have hv1 := rd_str (HX5.out.keep fun _ _ hb => hb.chg hC id) (ibs_pos f)
      have hv2 := rd_str (Rd.of_own (HM5.out.chg hC).own) (ibs_pos f)
      go_simp
      with_reducible rfl
    rotate_left
    refine q_norm (a' := ?_) ?_ ?_
    rotate_left
    · show Act.put _ (some 72) _ = _
      simp only [Act.put, List.setIfInBounds_toArray, List.set_cons_zero, List.set_cons_succ]
      rfl
    refine q_on (v := ?_) (by rfl) ?_ ?_
    rotate_left
    · intro w' hC
      have hv1 := rd_str (HX5.out.keep fun _ _ hb => hb.chg hC id) (ibs_pos f)
      have hv2 := rd_str (Rd.of_own (HM5.out.chg hC).own) (ibs_pos f)
      have k0 := (HS5.out.blk.chg hC id).cell 0
      go_simp
      with_reducible rfl
    rotate_left
    refine q_norm (a' := ?_) ?_ ?_
    rotate_left
    · show Act.put _ (some 73) _ = _
      simp only [Act.put, List.setIfInBounds_toArray, List.set_cons_zero, List.set_cons_succ]
      rfl
    refine q_on (v := ?_) (by rfl) ?_ ?_
    rotate_left
    · intro w' hC
      have hv1 := rd_str (HX5.out.keep fun _ _ hb => hb.chg hC id) (ibs_pos f)
      have hv2 := rd_str (Rd.of_own (HM5.out.chg hC).own) (ibs_pos f)
      go_simp
      with_reducible rfl
    rotate_left
    refine q_norm (a' := ?_) ?_ ?_
    rotate_left
    · show Act.put _ (some 74) _ = _
      simp only [Act.put, List.setIfInBounds_toArray, List.set_cons_zero, List.set_cons_succ]
      rfl
    refine q_on (v := ?_) (by rfl) ?_ ?_
    rotate_left
    · intro w' hC
      have hv1 := rd_str (HX5.out.keep fun _ _ hb => hb.chg hC id) (ibs_pos f)
      have hv2 := rd_str (Rd.of_own (HM5.out.chg hC).own) (ibs_pos f)
      go_simp
      with_reducible rfl
    rotate_left
    refine q_norm (a' := ?_) ?_ ?_
    rotate_left
    · show Act.put _ (some 75) _ = _
      simp only [Act.put, List.setIfInBounds_toArray, List.set_cons_zero, List.set_cons_succ]
      rfl
    refine q_on (v := ?_) (by rfl) ?_ ?_
    rotate_left
    · intro w' hC
      have hv1 := rd_str (HX5.out.keep fun _ _ hb => hb.chg hC id) (ibs_pos f)
      have hv2 := rd_str (Rd.of_own (HM5.out.chg hC).own) (ibs_pos f)
      go_simp
      with_reducible rfl
    rotate_left
    refine q_norm (a' := ?_) ?_ ?_
    rotate_left
    · show Act.put _ (some 76) _ = _
      simp only [Act.put, List.setIfInBounds_toArray, List.set_cons_zero, List.set_cons_succ]
      rfl
    refine q_on (v := ?_) (by rfl) ?_ ?_
    rotate_left
    · intro w' hC
      have hv1 := rd_str (HX5.out.keep fun _ _ hb => hb.chg hC id) (ibs_pos f)
      have hv2 := rd_str (Rd.of_own (HM5.out.chg hC).own) (ibs_pos f)
      go_simp
      with_reducible rfl
    rotate_left
    refine q_norm (a' := ?_) ?_ ?_
    rotate_left
    · show Act.put _ (some 77) _ = _
      simp only [Act.put, List.setIfInBounds_toArray, List.set_cons_zero, List.set_cons_succ]
      rfl
    refine q_on (v := ?_) (by rfl) ?_ ?_
    rotate_left
    · intro w' hC
      have hv1 := rd_str (HX5.out.keep fun _ _ hb => hb.chg hC id) (ibs_pos f)
      have hv2 := rd_str (Rd.of_own (HM5.out.chg hC).own) (ibs_pos f)
      go_simp
      with_reducible rfl
    rotate_left
    refine q_norm (a' := ?_) ?_ ?_
    rotate_left
    · show Act.put _ (some 78) _ = _
      simp only [Act.put, List.setIfInBounds_toArray, List.set_cons_zero, List.set_cons_succ]
      rfl
    refine q_call (f := 14) Tryd.func14 (by kernel_rfl) rfl #[.pointer (some ⟨g5, 0, none⟩)] (by rfl) rfl (by simp only [List.map_toArray, List.map_cons, List.map_nil]; rfl) _ (fun w' hC => q_of hC ((end_any (HR5.out.chg hC)).mono fun _ _ h => ⟨h.1, h.2 ▸ Chg.refl _ _⟩)) ?_
    refine q_norm (a' := ?_) ?_ ?_
    rotate_left
    · show Act.put _ (some 79) _ = _
      simp only [Act.put, List.setIfInBounds_toArray, List.set_cons_zero, List.set_cons_succ]
      rfl
    refine q_on (v := ?_) (by rfl) ?_ ?_
    rotate_left
    · intro w' hC
      have hv1 := rd_str (HX5.out.keep fun _ _ hb => hb.chg hC id) (ibs_pos f)
      have hv2 := rd_str (Rd.of_own (HM5.out.chg hC).own) (ibs_pos f)
      go_simp
      with_reducible rfl
    rotate_left
    refine q_norm (a' := ?_) ?_ ?_
    rotate_left
    · show Act.put _ (some 80) _ = _
      simp only [Act.put, List.setIfInBounds_toArray, List.set_cons_zero, List.set_cons_succ]
      rfl
    refine q_call (f := 15) Tryd.func15 (by kernel_rfl) rfl #[.pointer (some ⟨g6, 0, none⟩)] (by rfl) rfl (by simp only [List.map_toArray, List.map_cons, List.map_nil]; rfl) _ (fun w' hC => q_of hC ((RR.end_any (HS5.out.chg hC)).mono fun _ _ h => ⟨h.1, h.2 ▸ Chg.refl _ _⟩)) ?_
    refine q_norm (a' := ?_) ?_ ?_
    rotate_left
    · show Act.put _ (some 81) _ = _
      simp only [Act.put, List.setIfInBounds_toArray, List.set_cons_zero, List.set_cons_succ]
      rfl
    refine q_on (v := ?_) (by rfl) ?_ ?_
    rotate_left
    · intro w' hC
      have hv1 := rd_str (HX5.out.keep fun _ _ hb => hb.chg hC id) (ibs_pos f)
      have hv2 := rd_str (Rd.of_own (HM5.out.chg hC).own) (ibs_pos f)
      go_simp
      with_reducible rfl
    rotate_left
    refine q_norm (a' := ?_) ?_ ?_
    rotate_left
    · show Act.put _ (some 82) _ = _
      simp only [Act.put, List.setIfInBounds_toArray, List.set_cons_zero, List.set_cons_succ]
      rfl
    refine q_on (v := ?_) (by rfl) ?_ ?_
    rotate_left
    · intro w' hC
      have hv1 := rd_str (HX5.out.keep fun _ _ hb => hb.chg hC id) (ibs_pos f)
      have hv2 := rd_str (Rd.of_own (HM5.out.chg hC).own) (ibs_pos f)
      go_simp
      with_reducible rfl
    rotate_left
    refine q_norm (a' := ?_) ?_ ?_
    rotate_left
    · show Act.put _ (some 83) _ = _
      simp only [Act.put, List.setIfInBounds_toArray, List.set_cons_zero, List.set_cons_succ]
      rfl
    refine q_on (v := ?_) (by rfl) ?_ ?_
    rotate_left
    · intro w' hC
      have hv1 := rd_str (HX5.out.keep fun _ _ hb => hb.chg hC id) (ibs_pos f)
      have hv2 := rd_str (Rd.of_own (HM5.out.chg hC).own) (ibs_pos f)
      go_simp
      with_reducible rfl
    rotate_left
    refine q_norm (a' := ?_) ?_ ?_
    rotate_left
    · show Act.put _ (some 84) _ = _
      simp only [Act.put, List.setIfInBounds_toArray, List.set_cons_zero, List.set_cons_succ]
      rfl
    refine q_call (f := 16) Tryd.func16 (by kernel_rfl) rfl #[] (by rfl) rfl (by simp only [List.map_toArray, List.map_nil]) _ (fun w' hC => q_of hC (awake_any w')) ?_
    refine q_norm (a' := ?_) ?_ ?_
    rotate_left
    · show Act.put _ (some 85) _ = _
      simp only [Act.put, List.setIfInBounds_toArray, List.set_cons_zero, List.set_cons_succ]
      rfl
    refine q_on (v := ?_) (by rfl) ?_ ?_
    rotate_left
    · intro w' hC
      have hv1 := rd_str (HX5.out.keep fun _ _ hb => hb.chg hC id) (ibs_pos f)
      have hv2 := rd_str (Rd.of_own (HM5.out.chg hC).own) (ibs_pos f)
      go_simp
      with_reducible rfl
    rotate_left
    refine q_norm (a' := ?_) ?_ ?_
    rotate_left
    · show Act.put _ (some 86) _ = _
      simp only [Act.put, List.setIfInBounds_toArray, List.set_cons_zero, List.set_cons_succ]
      rfl
    refine q_on (v := ?_) (by rfl) ?_ ?_
    rotate_left
    · intro w' hC
      have hv1 := rd_str (HX5.out.keep fun _ _ hb => hb.chg hC id) (ibs_pos f)
      have hv2 := rd_str (Rd.of_own (HM5.out.chg hC).own) (ibs_pos f)
      go_simp
      with_reducible rfl
    rotate_left
    refine q_norm (a' := ?_) ?_ ?_
    rotate_left
    · show Act.put _ (some 4) _ = _
      simp only [Act.put, List.setIfInBounds_toArray, List.set_cons_zero, List.set_cons_succ]
      rfl
    refine wpQuiet_nil ?_
    intro w' hC
    go_wp2_with fail
    go_ret
    exact ⟨rfl, HC5.out.trans hC⟩
theorem vectorBytes_walk (v0 : Value) (D0 : Vc) (v1 : Value) (D1 : List Int) (w : World) (w0 : VecAt v0 D0) (w1 : SliceAt w v1 1 D1.length (D1.map (Value.int .u8)) ∧ ∀ n ∈ D1, (Lit.int .u8 n).wf = true) (y1 : D1.length ≤ 140737488351232) :
    Calls Tryd.prog 3 #[v0, v1] w fun e w' => e = .returned (.bool true) ∧ Below w.heap.size w w' := by
  obtain ⟨rfl, _⟩ := w0
  obtain ⟨⟨A, cap, rfl, _, _, _, hc⟩, _⟩ := w1
  exact (vectorBytes_any D0 D1 A cap w (by omega) hc).mono fun _ _ ⟨h1, h2⟩ => ⟨h1, h2.below⟩
end Go.Proofs.YthkmocfdpmlllabDoor
