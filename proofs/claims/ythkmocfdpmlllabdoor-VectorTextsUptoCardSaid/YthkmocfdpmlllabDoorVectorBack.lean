/- VectorBack: the walk. -/
import Derived.Test.YthkmocfdpmlllabDoorVectorBackLaw
import Derived.Test.YthkmocfdpmlllabDoorWireBack
import Derived.Test.YthkmocfdpmlllabDoorVArgs
import Derived.LaidMore
namespace Go.Proofs.YthkmocfdpmlllabDoor
open Go.RowKit Go.Proofs.YthkmocfdpmlllabDoorW.PrintLast
attribute [local go_sem] max2_mx max_two_ eq_nums

/-- MaxLen's cell holds some number. -/
def Mxl (w : World) : Prop := ∃ m, w.cell? ⟨3, 0, none⟩ = some (.int .i64 m)
theorem Mxl.chg {w w' : World} (h : Mxl w) (hC : Chg NoB w w') : Mxl w' := by
  obtain ⟨m, hm⟩ := h
  exact ⟨m, (hC.cell (lt_cell hm) id).trans hm⟩
theorem both (f : Vc) (hf : ∀ k, k < 8 → -9223372036854775808 ≤ f k ∧ f k ≤ 9223372036854775807) : ∃ (X : Vc) (okb : Bool), vec (rout (ibs f 8)) = vec X ∧ rok (ibs f 8) = okb ∧ vec (pout (tx f)) = vec X ∧ pok (tx f) = okb ∧ may f = okb ∧ (okb = true → X = f) := by
  cases hm : may f with
  | true =>
    refine ⟨f, true, ?_, by rw [rok_back f hf, hm], ?_, by rw [pok_tx, hm], rfl, fun _ => rfl⟩
    · unfold rout
      rw [rok_back f hf, hm, if_pos rfl]
      exact congrArg Value.agg (rvec_back f hf)
    · exact congrArg Value.agg (pout_tx hm)
  | false =>
    refine ⟨v0_, false, ?_, by rw [rok_back f hf, hm], ?_, by rw [pok_tx, hm], rfl, fun h => by cases h⟩
    · unfold rout
      rw [rok_back f hf, hm]
      rfl
    · rw [pok_no (by rw [pok_tx, hm])]
set_option maxRecDepth 100000 in
set_option maxHeartbeats 4000000 in
theorem vectorBack_any (f : Vc) (hf : ∀ k, k < 8 → -9223372036854775808 ≤ f k ∧ f k ≤ 9223372036854775807) (w : World) (hT : Tab w) (hE : Errs w) (hM : Mxl w) :
    Calls Tryd.prog 5 #[vec f] w fun e w' => e = .returned (.bool true) ∧ Chg NoB w w' := by
  obtain ⟨X, okb, e1, e2, e3, e4, e5, e6⟩ := both f hf
  have HE1 := Lib.hid e1
  have HE2 := Lib.hid e2
  have HE3 := Lib.hid e3
  have HE4 := Lib.hid e4
  have HE5 := Lib.hid e5
  have HE6 := Lib.hid e6
  have HSt := Lib.hid (rst_end f hf)
  have HSz := Lib.hid (tx_size f hf)
  have HF := Lib.hid hf
  have HT := Lib.hid hT
  have HE := Lib.hid hE
  have HM := Lib.hid hM
  clear e1 e2 e3 e4 e5 e6 hf hT hE hM
  go_enter Tryd.func5, Tryd.ntmps5
  go_wp2_with fail
  refine (newWriter_any 200 _ (by decide)).mono ?_
  rintro e w1 ⟨rfl, hq, hC⟩
  have hsz : (w.alloc (Obj.cells (va f) 23)).heap.size = w.heap.size + 1 := by simp
  rw [hsz] at hq ⊢
  have B1 := Lib.hid ((Blk.new w 23 (va f)).chg hC id)
  have HQ1 := Lib.hid hq
  have HC1 := Lib.hid (((Chg.refl NoB w).alloc _).trans hC)
  clear hq hC
  obtain ⟨c0, c1, c2, c3, c4, c5, c6, c7⟩ := eight B1.out
  go_wp2_with fail
  refine (write_any f HQ1.out).mono ?_
  clear c0 c1 c2 c3 c4 c5 c6 c7
  rintro e w2 ⟨rfl, ⟨s2, hq, _⟩, hC⟩
  have HQ2 := Lib.hid hq
  have B2 := Lib.hid (B1.out.chg hC (by unfold Only; omega))
  have HC2 := Lib.hid (HC1.out.then_ hC (fun j hj hs => by unfold Only at hs; omega))
  clear hq hC HQ1 B1 HC1
  have hl80 := ibs_len f 8
  go_wp2_with fail
  refine (done_any HQ2.out (by omega)).mono ?_
  rintro e w3 ⟨⟨vx, rfl, hv⟩, hC⟩
  obtain ⟨b, cap, rfl, _, hbl, hcl⟩ := own_lies hv (by
    rw [show ibs f 8 = ibs f 7 ++ ib (f 7) from ibs_succ f 7, List.length_append]
    have := nb_pos (zz (f 7))
    unfold ib
    omega)
  have HL3 := Lib.hid hcl
  have B3 := Lib.hid (B2.out.chg hC id)
  have HC3 := Lib.hid (HC2.out.trans hC)
  clear hv hcl hC HQ2 B2 HC2
  go_wp2_with fail
  refine (newReader_any (ibs f 8) (some ⟨b, 0, none⟩) cap w3 (by omega) (fun _ => ⟨b, 0, rfl, hbl, HL3.out⟩)).mono ?_
  rintro e w4 ⟨⟨g, v, rfl, hr, hg⟩, hC⟩
  have HR4 := Lib.hid hr
  have B4 := Lib.hid (B3.out.chg hC id)
  have HC4 := Lib.hid (HC3.out.trans hC)
  have hb3 := B3.out.lt
  clear hr hC B3 HC3 HL3
  go_wp2_with fail
  refine (read_all HR4.out).mono ?_
  rintro e w5 ⟨rfl, ⟨v5, hr⟩, hC⟩
  rw [HSt.out] at hr
  rw [HE1.out, HE2.out]
  have HR5 : Hid (RA w5 g 0 [] v5) := Lib.hid hr
  have B5 := Lib.hid (B4.out.chg hC (by unfold Only; omega))
  have HC5 := Lib.hid (HC4.out.then_ hC (fun j hj hs => by unfold Only at hs; omega))
  clear hr hC HR4 B4 HC4
  obtain ⟨c0, c1, c2, c3, c4, c5, c6, c7⟩ := eight B5.out
  have hb5 := B5.out.lt
  go_wp2_with fail
  have HR6 := Lib.hid (HR5.out.chg ((Chg.refl NoB w5).alloc (Obj.cells (va X) 23)))
  have B6 := Lib.hid (B5.out.alloc (Obj.cells (va X) 23))
  have HX6 := Lib.hid (Blk.new w5 23 (va X))
  have HC6 := Lib.hid (HC5.out.alloc (Obj.cells (va X) 23))
  clear HR5 B5 HC5 c0 c1 c2 c3 c4 c5 c6 c7
  generalize w5.alloc (Obj.cells _ 23) = W6 at *
  refine (text_int f HF.out _ (tab_chg HT.out HC6.out)).mono ?_
  rintro e w7 ⟨rfl, hC⟩
  have HR7 := Lib.hid (HR6.out.chg hC)
  have B7 := Lib.hid (B6.out.chg hC id)
  have HX7 := Lib.hid (HX6.out.chg hC id)
  have HC7 := Lib.hid (HC6.out.trans hC)
  clear hC HR6 B6 HX6 HC6
  go_wp2_with fail
  refine (parse_any (tx f) HSz.out _ (tab_chg HT.out HC7.out) (HE.out.chg HC7.out) (HM.out.chg HC7.out)).mono ?_
  rintro e w8 ⟨rfl, hC⟩
  rw [HE3.out, HE4.out]
  have HR8 := Lib.hid (HR7.out.chg hC)
  have B8 := Lib.hid (B7.out.chg hC id)
  have HX8 := Lib.hid (HX7.out.chg hC id)
  have HC8 := Lib.hid (HC7.out.trans hC)
  clear hC HR7 B7 HX7 HC7
  obtain ⟨c0, c1, c2, c3, c4, c5, c6, c7⟩ := eight B8.out
  have hb8 := B8.out.lt
  go_wp2_with fail
  have HR9 := Lib.hid (HR8.out.chg ((Chg.refl NoB w8).alloc (Obj.cells (va X) 23)))
  have B9 := Lib.hid (B8.out.alloc (Obj.cells (va X) 23))
  have HX9 := Lib.hid (HX8.out.alloc (Obj.cells (va X) 23))
  have HY9 := Lib.hid (Blk.new w8 23 (va X))
  have HC9 := Lib.hid (HC8.out.alloc (Obj.cells (va X) 23))
  clear HR8 B8 HX8 HC8 c0 c1 c2 c3 c4 c5 c6 c7
  generalize w8.alloc (Obj.cells _ 23) = W9 at *
  refine (may_any f _).mono ?_
  rintro e w10 ⟨rfl, hC⟩
  rw [HE5.out]
  have HR10 := Lib.hid (HR9.out.chg hC)
  have B10 := Lib.hid (B9.out.chg hC id)
  have HX10 := Lib.hid (HX9.out.chg hC id)
  have HY10 := Lib.hid (HY9.out.chg hC id)
  have HC10 := Lib.hid (HC9.out.trans hC)
  clear hC HR9 B9 HX9 HY9 HC9
  cases okb with
  | false =>
    go_wp2_with fail
    refine (awake_any _).mono ?_
    rintro e w11 ⟨rfl, hC⟩
    have HC11 := Lib.hid (HC10.out.trans hC)
    clear hC
    go_wp2_with fail
    go_ret
    exact ⟨rfl, HC11.out⟩
  | true =>
    obtain rfl := HE6.out rfl
    obtain ⟨c0, c1, c2, c3, c4, c5, c6, c7⟩ := eight B10.out
    obtain ⟨d0, d1, d2, d3, d4, d5, d6, d7⟩ := eight HX10.out
    go_wp2_with fail
    clear c0 c1 c2 c3 c4 c5 c6 c7 d0 d1 d2 d3 d4 d5 d6 d7
    refine (end_any HR10.out).mono ?_
    rintro e w11 ⟨rfl, rfl⟩
    have he0 : endE 0 [] = 0 := by decide
    rw [he0]
    obtain ⟨c0, c1, c2, c3, c4, c5, c6, c7⟩ := eight B10.out
    obtain ⟨d0, d1, d2, d3, d4, d5, d6, d7⟩ := eight HY10.out
    go_wp2_with fail
    clear c0 c1 c2 c3 c4 c5 c6 c7 d0 d1 d2 d3 d4 d5 d6 d7
    refine (awake_any _).mono ?_
    rintro e w12 ⟨rfl, hC⟩
    have HC11 := Lib.hid (HC10.out.trans hC)
    clear hC
    go_wp2_with fail
    go_ret
    exact ⟨rfl, HC11.out⟩
end Go.Proofs.YthkmocfdpmlllabDoor
