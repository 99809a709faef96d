/- A node's wait, send, tell, pump. No statement is proved here. A node's send, pump. No statement is proved here. A node's tick. No statement is proved here. Package message: what is sent at a tick, as it is handed out. No statement is proved here. A node's Out. No statement is proved here. -/
import Derived.Test.YtoefffjhjmjhfaaGreatNState
import Derived.Test.YtoefffjhjmjhfaaGreatNPlan
import Derived.Deep.AppendLies
namespace Go.Proofs.YtoefffjhjmjhfaaGreat
open Go.RowKit Go.Proofs.YtoefffjhjmjhfaaGreatW.PrintLast
attribute [local go_sem] max2_mx min2_mn max_two_ min_two_
set_option maxRecDepth 100000

theorem Mz.from_ {mg : Mg} (h : Mz mg) (i : Int) : Mz { mg with f := i } := ⟨h.es, h.ev, h.ds, h.dd, h.ms⟩
section
variable {w w' : World} {p : Pl} {c : Cg} {id_ : Int} {m : Nat} {ticks sent now taken : Int} {L : List (Ms × Int)} {P : List Mg} {s out : Value} {I : List Ms} {Q : List Mg}
set_option maxHeartbeats 4000000 in
theorem nwait_any (h : NS w p c id_ m ticks sent now taken L P s out I Q) {A : Nat → Prop} (mg : Mg) {e0 d0 s0 : Value} (he : Rd w A (ensD mg.es) e0) (hd : Rd w A (dgsD mg.ds) d0) (hs : Rd w A (prsD mg.ms) s0) (ht : mg.t ≠ id_) (hM : Mz mg) (hl : (L.length : Int) < c.q) (hq : c.q ≤ 1000) (u : Int) :
    Calls Tryz.prog 60 #[.pointer (some ⟨p.n, 0, none⟩), msv (mgx mg e0 d0 s0), .int .i64 u] w fun e w' => e = .returned (.tuple #[]) ∧ (∃ y s', NS w' p c id_ m ticks sent now taken (L ++ [(y, w3 u)]) (P ++ [{ mg with f := id_ }]) s' out I Q) ∧ Chg (Nf p) w w' := by
  obtain ⟨p1, k1, rfl, _⟩ := ens_form he
  obtain ⟨p2, k2, rfl, _⟩ := dgs_form hd
  obtain ⟨p3, k3, rfl, _⟩ := prs_form hs
  have HT := Lib.hid ht
  have HL := Lib.hid hl
  have HQ := Lib.hid hq
  have hne : (mg.t != id_) = true := by simpa using ht
  have HX1 := Lib.hid (he.st (Chg.al w (.cells (mc (mgx { mg with f := id_ } (.slice p1 mg.es.length k1) (.slice p2 mg.ds.length k2) (.slice p3 mg.ms.length k3))) 40)))
  have HX2 := Lib.hid (hd.st (Chg.al w (.cells (mc (mgx { mg with f := id_ } (.slice p1 mg.es.length k1) (.slice p2 mg.ds.length k2) (.slice p3 mg.ms.length k3))) 40)))
  have HX3 := Lib.hid (hs.st (Chg.al w (.cells (mc (mgx { mg with f := id_ } (.slice p1 mg.es.length k1) (.slice p2 mg.ds.length k2) (.slice p3 mg.ms.length k3))) 40)))
  have HMz := Lib.hid hM
  have H0 := Lib.hid h
  have HN := Lib.hid (h.st (Chg.al w (.cells (mc (mgx { mg with f := id_ } (.slice p1 mg.es.length k1) (.slice p2 mg.ds.length k2) (.slice p3 mg.ms.length k3))) 40)))
  have n9 := (h.nd.blk.st (Chg.al w (.cells (mc (mgx mg (.slice p1 mg.es.length k1) (.slice p2 mg.ds.length k2) (.slice p3 mg.ms.length k3))) 40))).cell 9
  clear he hd hs ht hl hq hM h
  go_enter Tryz.func60, Tryz.ntmps60
  go_upto_region 2 with fail
  have BX := Blk.new w 40 (mc (mgx { mg with f := id_ } (.slice p1 mg.es.length k1) (.slice p2 mg.ds.length k2) (.slice p3 mg.ms.length k3)))
  have HC := Lib.hid (Chg.al w (.cells (mc (mgx { mg with f := id_ } (.slice p1 mg.es.length k1) (.slice p2 mg.ds.length k2) (.slice p3 mg.ms.length k3))) 40))
  clear n9
  generalize w.alloc (Obj.cells _ 40) = W at *
  have HB := Lib.hid BX
  clear BX
  have HWd : Hid (Chg NoB W W.drew.drew) := Lib.hid ((Chg.dr W).trans (Chg.dr _))
  have HCP : Hid (∀ wa, Chg NoB W wa → ∀ w1, Chg NoB wa w1 → Calls Tryz.prog 175 #[msv (mgx { mg with f := id_ } (.slice p1 mg.es.length k1) (.slice p2 mg.ds.length k2) (.slice p3 mg.ms.length k3))] w1 fun e w' => ∃ y, e = .returned (msv y) ∧ (∀ v ∈ mc y, v.oneCell' = true) ∧ MR w' (New w) { mg with f := id_ } y ∧ Chg NoB w1 w') := Lib.hid fun wa ha w1 h1 =>
    (copied_any { mg with f := id_ } _ _ _ (HX1.out.st (ha.trans h1)) (HX2.out.st (ha.trans h1)) (HX3.out.st (ha.trans h1)) (HMz.out.from_ id_)).mono fun e w' ⟨⟨y, he, hy⟩, hC⟩ => ⟨y, he, hy.one, hy.mono fun k hk _ => by
      have e1 := HC.out.size
      have e2 := ha.size
      have e3 := h1.size
      have e4 : w1.heap.size ≤ k := hk
      show w.heap.size ≤ k
      omega, hC⟩
  refine start_ (n := 7) (S := fun w' => w'.cell? ⟨p.n, 9, none⟩ = some (.int .i64 id_) ∧ w'.cell? ⟨p.n, 14, none⟩ = some (.pointer (some ⟨p.qg, 0, none⟩)) ∧ w'.cell? ⟨w.heap.size, 0, none⟩ = some (.int .i64 mg.k) ∧ w'.cell? ⟨w.heap.size, 1, none⟩ = some (.int .i64 id_) ∧ w'.cell? ⟨w.heap.size, 2, none⟩ = some (.int .i64 mg.t) ∧ w'.cell? ⟨w.heap.size, 3, none⟩ = some (.int .i64 mg.op) ∧ w'.cell? ⟨w.heap.size, 4, none⟩ = some (.int .i64 mg.fr) ∧ w'.cell? ⟨w.heap.size, 5, none⟩ = some (.string mg.key) ∧ w'.cell? ⟨w.heap.size, 6, none⟩ = some (.int .i64 mg.bk) ∧ w'.cell? ⟨w.heap.size, 7, none⟩ = some (.slice p1 mg.es.length k1) ∧ w'.cell? ⟨w.heap.size, 8, none⟩ = some (.slice p2 mg.ds.length k2) ∧ w'.cell? ⟨w.heap.size, 9, none⟩ = some (.slice p3 mg.ms.length k3)) (ds := []) #[false, false, false, false, false, false, false] (by kernel_rfl) rfl rfl ⟨(HN.out.nd.blk.drew.cell 9), (HN.out.nd.blk.drew.cell 14), (HB.out.drew.cell 0), (HB.out.drew.cell 1), (HB.out.drew.cell 2), (HB.out.drew.cell 3), (HB.out.drew.cell 4), (HB.out.drew.cell 5), (HB.out.drew.cell 6), (HB.out.drew.cell 7), (HB.out.drew.cell 8), (HB.out.drew.cell 9)⟩ (fun hHeld => ?_)
  refine pure_ (i := 0) (N := some 11) (v := ?_) (a' := ?_) #[true, false, false, false, false, false, false] rfl rfl (by kernel_rfl) (fun _ _ _ h => h) (Or.inl ⟨by rfl, ?_⟩) ?_ ?_
  rotate_left
  · intro w'
    go_simp
    with_reducible rfl
  rotate_left
  · simp only [Act.put, List.setIfInBounds_toArray, List.set_cons_zero, List.set_cons_succ]
    rfl
  refine pure_ (i := 2) (N := some 13) (v := ?_) (a' := ?_) #[true, false, true, false, false, false, false] rfl rfl (by kernel_rfl) (fun _ _ _ h => h) (Or.inl ⟨by rfl, ?_⟩) ?_ ?_
  rotate_left
  · intro w'
    go_simp
    with_reducible rfl
  rotate_left
  · simp only [Act.put, List.setIfInBounds_toArray, List.set_cons_zero, List.set_cons_succ]
    rfl
  refine pure_ (i := 3) (N := some 14) (v := ?_) (a' := ?_) #[true, false, true, true, false, false, false] rfl rfl (by kernel_rfl) (fun _ _ _ h => h) (Or.inl ⟨by rfl, ?_⟩) ?_ ?_
  rotate_left
  · intro w'
    go_simp
    with_reducible rfl
  rotate_left
  · simp only [Act.put, List.setIfInBounds_toArray, List.set_cons_zero, List.set_cons_succ]
    rfl
  refine pure_ (i := 4) (N := some 15) (v := ?_) (a' := ?_) #[true, false, true, true, true, false, false] rfl rfl (by kernel_rfl) (fun _ _ _ h => h) (Or.inl ⟨by rfl, ?_⟩) ?_ ?_
  rotate_left
  · intro w'
    go_simp
    with_reducible rfl
  rotate_left
  · simp only [Act.put, List.setIfInBounds_toArray, List.set_cons_zero, List.set_cons_succ]
    rfl
  refine take_ (i := 1) (N := some 12) (v := ?_) (a' := ?_) #[true, true, true, true, true, false, false] rfl rfl (by kernel_rfl) (fun _ _ _ h => h) (Or.inl ⟨by rfl, ?_⟩) hHeld ?_ ?_
  rotate_left
  · rintro w' ⟨s0, s1, s2, s3, s4, s5, s6, s7, s8, s9, s10, s11⟩
    go_simp
    with_reducible rfl
  rotate_left
  · simp only [Act.put, List.setIfInBounds_toArray, List.set_cons_zero, List.set_cons_succ]
    rfl
  refine take_ (i := 5) (N := some 16) (v := ?_) (a' := ?_) #[true, true, true, true, true, true, false] rfl rfl (by kernel_rfl) (fun _ _ _ h => h) (Or.inl ⟨by rfl, ?_⟩) hHeld ?_ ?_
  rotate_left
  · rintro w' ⟨s0, s1, s2, s3, s4, s5, s6, s7, s8, s9, s10, s11⟩
    go_simp
    with_reducible rfl
  rotate_left
  · simp only [Act.put, List.setIfInBounds_toArray, List.set_cons_zero, List.set_cons_succ]
    rfl
  refine pure_ (i := 6) (N := some 17) (v := ?_) (a' := ?_) #[true, true, true, true, true, true, true] rfl rfl (by kernel_rfl) (fun _ _ _ h => h) (Or.inl ⟨by rfl, ?_⟩) ?_ ?_
  rotate_left
  · intro w'
    go_simp
    with_reducible rfl
  rotate_left
  · simp only [Act.put, List.setIfInBounds_toArray, List.set_cons_zero, List.set_cons_succ]
    rfl
  refine done_ (by kernel_rfl) ?_
  go_wp2_with fail
  refine start_ (n := 7) (S := fun w' => w'.cell? ⟨p.n, 9, none⟩ = some (.int .i64 id_) ∧ w'.cell? ⟨p.n, 14, none⟩ = some (.pointer (some ⟨p.qg, 0, none⟩)) ∧ w'.cell? ⟨w.heap.size, 0, none⟩ = some (.int .i64 mg.k) ∧ w'.cell? ⟨w.heap.size, 1, none⟩ = some (.int .i64 id_) ∧ w'.cell? ⟨w.heap.size, 2, none⟩ = some (.int .i64 mg.t) ∧ w'.cell? ⟨w.heap.size, 3, none⟩ = some (.int .i64 mg.op) ∧ w'.cell? ⟨w.heap.size, 4, none⟩ = some (.int .i64 mg.fr) ∧ w'.cell? ⟨w.heap.size, 5, none⟩ = some (.string mg.key) ∧ w'.cell? ⟨w.heap.size, 6, none⟩ = some (.int .i64 mg.bk) ∧ w'.cell? ⟨w.heap.size, 7, none⟩ = some (.slice p1 mg.es.length k1) ∧ w'.cell? ⟨w.heap.size, 8, none⟩ = some (.slice p2 mg.ds.length k2) ∧ w'.cell? ⟨w.heap.size, 9, none⟩ = some (.slice p3 mg.ms.length k3)) (ds := [6]) #[false, false, false, false, false, false, false] (by kernel_rfl) rfl rfl ⟨(HN.out.nd.blk.drew.drew.cell 9), (HN.out.nd.blk.drew.drew.cell 14), (HB.out.drew.drew.cell 0), (HB.out.drew.drew.cell 1), (HB.out.drew.drew.cell 2), (HB.out.drew.drew.cell 3), (HB.out.drew.drew.cell 4), (HB.out.drew.drew.cell 5), (HB.out.drew.drew.cell 6), (HB.out.drew.drew.cell 7), (HB.out.drew.drew.cell 8), (HB.out.drew.drew.cell 9)⟩ (fun hHeld => ?_)
  refine pure_ (i := 0) (N := some 18) (v := ?_) (a' := ?_) #[true, false, false, false, false, false, false] rfl rfl (by kernel_rfl) (fun _ _ _ h => h) (Or.inl ⟨by rfl, ?_⟩) ?_ ?_
  rotate_left
  · intro w'
    go_simp
    with_reducible rfl
  rotate_left
  · simp only [Act.put, List.setIfInBounds_toArray, List.set_cons_zero, List.set_cons_succ]
    rfl
  refine pure_ (i := 1) (N := some 19) (v := ?_) (a' := ?_) #[true, true, false, false, false, false, false] rfl rfl (by kernel_rfl) (fun _ _ _ h => h) (Or.inl ⟨by rfl, ?_⟩) ?_ ?_
  rotate_left
  · intro w'
    go_simp
    with_reducible rfl
  rotate_left
  · simp only [Act.put, List.setIfInBounds_toArray, List.set_cons_zero, List.set_cons_succ]
    rfl
  refine pure_ (i := 2) (N := some 20) (v := ?_) (a' := ?_) #[true, true, true, false, false, false, false] rfl rfl (by kernel_rfl) (fun _ _ _ h => h) (Or.inl ⟨by rfl, ?_⟩) ?_ ?_
  rotate_left
  · intro w'
    go_simp
    with_reducible rfl
  rotate_left
  · simp only [Act.put, List.setIfInBounds_toArray, List.set_cons_zero, List.set_cons_succ]
    rfl
  refine pure_ (i := 5) (N := some 23) (v := ?_) (a' := ?_) #[true, true, true, false, false, true, false] rfl rfl (by kernel_rfl) (fun _ _ _ h => h) (Or.inl ⟨by rfl, ?_⟩) ?_ ?_
  rotate_left
  · intro w'
    go_simp
    with_reducible rfl
  rotate_left
  · simp only [Act.put, List.setIfInBounds_toArray, List.set_cons_zero, List.set_cons_succ]
    rfl
  refine take_ (i := 3) (N := some 21) (v := ?_) (a' := ?_) #[true, true, true, true, false, true, false] rfl rfl (by kernel_rfl) (fun _ _ _ h => h) (Or.inl ⟨by rfl, ?_⟩) hHeld ?_ ?_
  rotate_left
  · rintro w' ⟨s0, s1, s2, s3, s4, s5, s6, s7, s8, s9, s10, s11⟩
    go_simp
    with_reducible rfl
  rotate_left
  · simp only [Act.put, List.setIfInBounds_toArray, List.set_cons_zero, List.set_cons_succ]
    rfl
  refine take_ (i := 4) (N := some 22) (v := ?_) (a' := ?_) #[true, true, true, true, true, true, false] rfl rfl (by kernel_rfl) (fun _ _ _ h => h) (Or.inl ⟨by rfl, ?_⟩) hHeld ?_ ?_
  rotate_left
  · rintro w' ⟨s0, s1, s2, s3, s4, s5, s6, s7, s8, s9, s10, s11⟩
    go_simp
    with_reducible rfl
  rotate_left
  · simp only [Act.put, List.setIfInBounds_toArray, List.set_cons_zero, List.set_cons_succ]
    rfl
  refine last_ (i := 6) (N := some 24) #[true, true, true, true, true, true, true] rfl rfl (by kernel_rfl) (by decide) (fun K hK => ?_)
  refine goes_ Tryz.func112 (by kernel_rfl) rfl #[.pointer (some ⟨p.qg, 0, none⟩), msv (mgx { mg with f := id_ } (.slice p1 mg.es.length k1) (.slice p2 mg.ds.length k2) (.slice p3 mg.ms.length k3)), .int .i64 u] (by rfl) rfl rfl (by simp only [List.map_toArray, List.map_cons, List.map_nil]; rfl) ?_
  with_reducible refine ((put_ft (HN.out.st (HWd.out)).nd.q (mgx { mg with f := id_ } (.slice p1 mg.es.length k1) (.slice p2 mg.ds.length k2) (.slice p3 mg.ms.length k3)) u HL.out (by have := HL.out; have := HQ.out; omega) (fun y w' => MR w' (New w) { mg with f := id_ } y) (HCP.out _ HWd.out))).mono ?_
  rintro e w6 ⟨rfl, y, s', w4, hq, hz, h4, hC, hs'⟩
  refine ⟨_, rfl, ?_⟩
  have HN4 := Lib.hid (((HN.out.st HWd.out)).st h4)
  refine hK.out _ _ ?_
  clear hK K
  refine norm_ (a' := ?_) ?_ ?_
  rotate_left
  · show Act.put _ (some 24) _ = _
    simp only [Act.put, List.setIfInBounds_toArray, List.set_cons_zero, List.set_cons_succ]
    rfl
  refine done_ (by kernel_rfl) ?_
  go_end0
  have hC4 := (HC.out.trans HWd.out).trans h4
  exact ⟨rfl, ⟨y, s', H0.out.put hC4 hz hC hq hs'⟩, (Chg.of_no hC4).trans (HN4.out.nd.foot hC)⟩
theorem rd_none (w : World) (A : Nat → Prop) {n : Nat} {rows : List (List D)} (h : rows = []) : Rd w A (.s n rows) (.slice none 0 0) := by
  subst h
  exact .nil n
/-- The messages of a tick. -/
abbrev pingM (me k : Int) (l : List (Int × Int)) : Mg := ⟨8, me, k, 0, 0, ByteArray.empty, 0, [], [], l⟩
abbrev digM (me k b : Int) : Mg := ⟨6, me, k, 0, 0, ByteArray.empty, b, [], [], []⟩
theorem ping_mz {me k : Int} {l : List (Int × Int)} (h : l.length ≤ 8) : Mz (pingM me k l) := ⟨by simp, by simp, by simp, by simp, by show l.length ≤ 8796093021952; omega⟩
theorem dig_mz {me k b : Int} : Mz (digM me k b) := ⟨by simp, by simp, by simp, by simp, by simp⟩
set_option maxHeartbeats 4000000 in
theorem ntell_any (h : NS w p c id_ m ticks sent now taken L P s out I Q) {k : Nat} (hk : k < m) (hm : m ≤ 8) (b : Int) (hki : (k : Int) ≠ id_) (hl : (L.length : Int) + 1 < c.q) (hq : c.q ≤ 1000) :
    Calls Tryz.prog 28 #[.pointer (some ⟨p.n, 0, none⟩), .int .i64 k, .int .i64 b] w fun e w' => e = .returned (.tuple #[]) ∧ (∃ y1 y2 s' l, l.length = m ∧ NS w' p c id_ m ticks sent now taken (L ++ [(y1, w3 3)] ++ [(y2, w3 0)]) (P ++ [pingM id_ k l] ++ [digM id_ k b]) s' out I Q) ∧ Chg (Nf p) w w' := by
  have HN := Lib.hid h
  have n12 := h.nd.blk.cell 12
  have HK := Lib.hid hk
  have HM := Lib.hid hm
  have HKI := Lib.hid hki
  have HL := Lib.hid hl
  have HQ := Lib.hid hq
  clear h hk hm hki hl hq
  go_enter Tryz.func28, Tryz.ntmps28
  go_wp2_with fail
  refine (vmissed_any HN.out.nd.vw HK.out).mono ?_
  rintro e w1 ⟨⟨x, rfl⟩, hw⟩
  subst hw
  obtain ⟨t, ht⟩ : ∃ t, decide (x ≥ 2) = t := ⟨_, rfl⟩
  cases t
  · have HF : Hid (Chg (Nf p) w1 w1) := Lib.hid (Chg.refl _ _)
    go_wp2_with fail
    refine (vasked_any HN.out.nd.vw HK.out).mono ?_
    rintro e w3_ ⟨rfl, hv, hC⟩
    have HF3 : Hid (Chg (Nf p) w1 w3_) := Lib.hid (HF.out.trans (HN.out.nd.footV hC))
    have HN3 := Lib.hid (HN.out.vw hC hv)
    have n12 := HN3.out.nd.blk.cell 12
    clear hv hC
    go_wp2_with fail
    refine (vall_any HN3.out.nd.vw HM.out).mono ?_
    rintro e w4 ⟨⟨l, d, rfl, hll, hd⟩, hC⟩
    have HN4 := Lib.hid (HN3.out.st hC)
    have HF4 : Hid (Chg (Nf p) w1 w4) := Lib.hid (HF3.out.trans hC.of_no)
    obtain ⟨dp, dc, rfl, _⟩ := prs_form hd
    have HLL := Lib.hid hll
    have HD := Lib.hid hd
    clear hll hd hC n12
    go_wp2_with fail
    refine (nwait_any HN4.out (pingM 0 k l) (rd_none w4 (New w3_) rfl) (rd_none w4 (New w3_) rfl) HD.out HKI.out (ping_mz (by have := HLL.out; have := HM.out; omega)) (by have := HL.out; omega) HQ.out 3).mono ?_
    rintro e w5 ⟨rfl, ⟨y1, s1, hN5⟩, hC⟩
    have HN5 := Lib.hid hN5
    have HF5 : Hid (Chg (Nf p) w1 w5) := Lib.hid (HF4.out.trans hC)
    clear hN5 hC
    go_wp2_with fail
    refine (both_none HN5.out.nd.blk HN5.out.nd.se k b).mono ?_
    rintro e w6 ⟨rfl, hC⟩
    have HN6 := Lib.hid (HN5.out.st hC)
    have HF6 : Hid (Chg (Nf p) w1 w6) := Lib.hid (HF5.out.trans hC.of_no)
    clear hC
    go_wp2_with fail
    refine (dgOf_none _).mono ?_
    rintro e w7 ⟨rfl, hw⟩
    subst hw
    go_wp2_with fail
    refine (nwait_any HN6.out (digM 0 k b) (rd_none _ NoB rfl) (rd_none _ NoB rfl) (rd_none _ NoB rfl) HKI.out dig_mz (by have := HL.out; simp; omega) HQ.out 0).mono ?_
    rintro e w8 ⟨rfl, ⟨y2, s2, hN8⟩, hC⟩
    have HN8 := Lib.hid hN8
    have HF8 : Hid (Chg (Nf p) w1 w8) := Lib.hid (HF6.out.trans hC)
    clear hN8 hC
    go_wp2_with fail
    go_end0
    exact ⟨rfl, ⟨y1, y2, s2, l, HLL.out, HN8.out⟩, HF8.out⟩
  · go_wp2_with fail
    refine (vsuspect_any HN.out.nd.vw HK.out).mono ?_
    rintro e w2 ⟨⟨x2, rfl⟩, hv, hC⟩
    have HF2 : Hid (Chg (Nf p) w1 w2) := Lib.hid (HN.out.nd.footV hC)
    have HN2 := Lib.hid (HN.out.vw hC hv)
    have n12 := HN2.out.nd.blk.cell 12
    clear hv hC
    go_wp2_with fail
    refine (vasked_any HN2.out.nd.vw HK.out).mono ?_
    rintro e w3_ ⟨rfl, hv, hC⟩
    have HF3 : Hid (Chg (Nf p) w1 w3_) := Lib.hid (HF2.out.trans (HN2.out.nd.footV hC))
    have HN3 := Lib.hid (HN2.out.vw hC hv)
    have n12 := HN3.out.nd.blk.cell 12
    clear hv hC
    go_wp2_with fail
    refine (vall_any HN3.out.nd.vw HM.out).mono ?_
    rintro e w4 ⟨⟨l, d, rfl, hll, hd⟩, hC⟩
    have HN4 := Lib.hid (HN3.out.st hC)
    have HF4 : Hid (Chg (Nf p) w1 w4) := Lib.hid (HF3.out.trans hC.of_no)
    obtain ⟨dp, dc, rfl, _⟩ := prs_form hd
    have HLL := Lib.hid hll
    have HD := Lib.hid hd
    clear hll hd hC n12
    go_wp2_with fail
    refine (nwait_any HN4.out (pingM 0 k l) (rd_none w4 (New w3_) rfl) (rd_none w4 (New w3_) rfl) HD.out HKI.out (ping_mz (by have := HLL.out; have := HM.out; omega)) (by have := HL.out; omega) HQ.out 3).mono ?_
    rintro e w5 ⟨rfl, ⟨y1, s1, hN5⟩, hC⟩
    have HN5 := Lib.hid hN5
    have HF5 : Hid (Chg (Nf p) w1 w5) := Lib.hid (HF4.out.trans hC)
    clear hN5 hC
    go_wp2_with fail
    refine (both_none HN5.out.nd.blk HN5.out.nd.se k b).mono ?_
    rintro e w6 ⟨rfl, hC⟩
    have HN6 := Lib.hid (HN5.out.st hC)
    have HF6 : Hid (Chg (Nf p) w1 w6) := Lib.hid (HF5.out.trans hC.of_no)
    clear hC
    go_wp2_with fail
    refine (dgOf_none _).mono ?_
    rintro e w7 ⟨rfl, hw⟩
    subst hw
    go_wp2_with fail
    refine (nwait_any HN6.out (digM 0 k b) (rd_none _ NoB rfl) (rd_none _ NoB rfl) (rd_none _ NoB rfl) HKI.out dig_mz (by have := HL.out; simp; omega) HQ.out 0).mono ?_
    rintro e w8 ⟨rfl, ⟨y2, s2, hN8⟩, hC⟩
    have HN8 := Lib.hid hN8
    have HF8 : Hid (Chg (Nf p) w1 w8) := Lib.hid (HF6.out.trans hC)
    clear hN8 hC
    go_wp2_with fail
    go_end0
    exact ⟨rfl, ⟨y1, y2, s2, l, HLL.out, HN8.out⟩, HF8.out⟩
end
end Go.Proofs.YtoefffjhjmjhfaaGreat
namespace Go.Proofs.YtoefffjhjmjhfaaGreat
open Go.RowKit Go.Proofs.YtoefffjhjmjhfaaGreatW.PrintLast
attribute [local go_sem] max2_mx min2_mn max_two_ min_two_
set_option maxRecDepth 100000

section
variable {w w' w1 w2 : World} {p : Pl} {c : Cg} {id_ : Int} {m : Nat} {ticks sent now taken : Int} {L : List (Ms × Int)} {P : List Mg} {s out : Value} {I : List Ms} {Q : List Mg}
/-- A cell of the node's own block has turned. -/
theorem NS.node {ticks' sent' : Int} {out' : Value} {I' : List Ms} {Q' : List Mg} (h : NS w p c id_ m ticks sent now taken L P s out I Q) (hC : Chg (Only p.n) w w') (hB : Blk w' p.n 75 (ndc c id_ p.st p.rg p.v p.bg p.qg p.op ticks' sent' out'))
    (ho : w'.ownsRow (p.n + 1) 40 10 out' I'.length (fm I')) (hso : ∀ k, s.ownBlock = some k → out'.ownBlock ≠ some k) (hl : All2 (fun x y => MR w' (Dn p.n s out') y x.1) L P) (hi : All2 (fun x y => MR w' (Dn p.n s out') y x) I' Q') :
    NS w' p c id_ m ticks' sent' now taken L P s out' I' Q' := by
  obtain ⟨a1, a2, a3, a4, a5, a6, b0, b1, b2, b3, b4, b5, b6, b7, b8, b9⟩ := h.nd.up
  have no : ∀ k, k ≠ p.n → ¬ Only p.n k := fun k hk => by unfold Only; omega
  exact ⟨{ h.nd with
      blk := hB, se := h.nd.se.chg_ hC (no _ (by omega)) (no _ (by omega)) (no _ (by omega)) (no _ (by omega)) (no _ (by omega)) (no _ (by omega)), rg := h.nd.rg.chg hC (no _ (by omega)), vw := h.nd.vw.chg_ hC (no _ (by omega)) (no _ (by omega)) (no _ (by omega)) (no _ (by omega)),
      bk := h.nd.bk.chg hC (no _ (by omega)) (no _ (by omega)), q := h.nd.q.chg_ hC (no _ (by omega)) (no _ (by omega)) (fun k hk => no k (by have := h.nd.sn k hk; omega)), co := h.nd.co.chg hC (no _ (by omega)), cm := (hC.block _ (map_lt h.nd.cm) (no _ (by omega))).trans h.nd.cm, own := ho, so := hso }, hl, hi⟩
/-- The node's number of ticks or of messages sent has turned. -/
theorem NS.nums {ticks' sent' : Int} (h : NS w p c id_ m ticks sent now taken L P s out I Q) (hC : Chg (Only p.n) w w') (hB : Blk w' p.n 75 (ndc c id_ p.st p.rg p.v p.bg p.qg p.op ticks' sent' out)) : NS w' p c id_ m ticks' sent' now taken L P s out I Q :=
  h.node hC hB (own_chg h.nd.own hC fun k hk => by have := h.out_lt hk; unfold Only; omega) h.nd.so (h.l.mono fun _ _ k => k.chg hC fun j hj _ => by have := hj.1; unfold Only; omega) (h.i.mono fun _ _ k => k.chg hC fun j hj _ => by have := hj.1; unfold Only; omega)
/-- The row of messages sent has turned: a message more. -/
theorem NS.push {x : Ms} {mg : Mg} {g cap : Nat} (h : NS w p c id_ m ticks sent now taken L P s out I Q) (hx : MR w (Dn p.n s out) mg x) (h1 : Chg NoB w w1) (h2 : Chg (fun k => out.ownBlock = some k) w1 w2)
    (ho : w2.ownsRow (p.n + 1) 40 10 (.slice (some ⟨g, 0, none⟩) (I.length + 1) cap) (I.length + 1) (fm I ++ (mc x).toList)) (hg : out.ownBlock = some g ∨ g = w1.heap.size) :
    NS (w2.setCell ⟨p.n, 18, none⟩ (.slice (some ⟨g, 0, none⟩) (I.length + 1) cap)) p c id_ m ticks sent now taken L P s (.slice (some ⟨g, 0, none⟩) (I.length + 1) cap) (I ++ [x]) (Q ++ [mg]) := by
  have hn := h.nd.blk.lt
  have hz1 := h1.size
  have hon : ∀ k, k ≤ p.n → ¬ (out.ownBlock = some k) := fun k hk hk' => by have := h.out_lt hk'; omega
  obtain ⟨a1, a2, a3, a4, a5, a6, b0, b1, b2, b3, b4, b5, b6, b7, b8, b9⟩ := h.nd.up
  have hgn : p.n < g := by
    rcases hg with hg | hg
    · exact h.out_lt hg
    · omega
  have h12 : Chg (fun k => out.ownBlock = some k) w w2 := (Chg.of_no h1).trans h2
  have hC : Chg (fun k => Only p.n k ∨ out.ownBlock = some k) w (w2.setCell ⟨p.n, 18, none⟩ (.slice (some ⟨g, 0, none⟩) (I.length + 1) cap)) := (h12.mono fun _ _ hk => .inr hk).setCell (p := ⟨p.n, 18, none⟩) (.inl (.inl rfl)) _
  have no : ∀ k, k < p.n → ¬ (Only p.n k ∨ out.ownBlock = some k) := fun k hk hk' => by
    rcases hk' with h1 | h1
    · unfold Only at h1; omega
    · exact hon k (by omega) h1
  have hs : ∀ k, s.ownBlock = some k → ¬ (Only p.n k ∨ out.ownBlock = some k) := fun k hk hk' => by
    have := h.nd.sn k hk
    rcases hk' with h1 | h1
    · unfold Only at h1; omega
    · exact h.nd.so k hk h1
  have hdata : ∀ {y : Ms} {q : Mg}, MR w (Dn p.n s out) q y → MR (w2.setCell ⟨p.n, 18, none⟩ (.slice (some ⟨g, 0, none⟩) (I.length + 1) cap)) (Dn p.n s (.slice (some ⟨g, 0, none⟩) (I.length + 1) cap)) q y := fun k =>
    (k.old.chg hC fun j hj _ hj' => by
      rcases hj' with h1 | h1
      · have := hj.1.1; unfold Only at h1; omega
      · exact hj.1.2.2 h1).mono fun j hj _ => ⟨hj.1.1, hj.1.2.1, fun hk => by
        have e : g = j := Option.some.inj hk
        subst e
        rcases hg with hg | hg
        · exact hj.1.2.2 hg
        · have := hj.2; omega⟩
  refine ⟨{ h.nd with
      blk := (h.nd.blk.chg h12 (hon _ (Nat.le_refl _))).set_ 18 _, se := h.nd.se.chg_ hC (no _ (by omega)) (no _ (by omega)) (no _ (by omega)) (no _ (by omega)) (no _ (by omega)) (no _ (by omega)), rg := h.nd.rg.chg hC (no _ (by omega)), vw := h.nd.vw.chg_ hC (no _ (by omega)) (no _ (by omega)) (no _ (by omega)) (no _ (by omega)),
      bk := h.nd.bk.chg hC (no _ (by omega)) (no _ (by omega)), q := h.nd.q.chg_ hC (no _ (by omega)) (no _ (by omega)) hs, co := h.nd.co.chg hC (no _ (by omega)), cm := (hC.block _ (map_lt h.nd.cm) (no _ (by omega))).trans h.nd.cm,
      own := ?_, so := fun k hk hk' => ?_ }, h.l.mono fun _ _ k => hdata k, All2.push (h.i.mono fun _ _ k => hdata k) (hdata hx)⟩
  · rw [fm_append, fm_one, List.length_append]
    exact own_chg ho ((Chg.refl (Only p.n) w2).setOwn 18 _) fun k hk => by
      have e : g = k := Option.some.inj hk
      subst e
      unfold Only; omega
  · have e : g = k := Option.some.inj hk'
    subst e
    have h3 : g < w.heap.size := by
      obtain ⟨_, _, hB⟩ := h.nd.q.own_at hk
      exact hB.lt
    rcases hg with hg | hg
    · exact h.nd.so g hk hg
    · omega
theorem Tryz.infMs : (Tryz.prog.info? 40).map (fun i => (i.zero, i.size, i.bytes)) = some (some (.agg (mc msz)), 10, 136) := by kernel_rfl
set_option maxHeartbeats 4000000 in
theorem nsend_any (h : NS w p c id_ m ticks sent now taken L P s out I Q) (mg : Mg) {x : Ms} (hx : MR w (Dn p.n s out) mg x) (ht : mg.t ≠ id_) (hf : mg.f = id_) (hI : I.length ≤ 1000000) :
    Calls Tryz.prog 39 #[.pointer (some ⟨p.n, 0, none⟩), msv x] w fun e w' => e = .returned (.tuple #[]) ∧ (∃ out', NS w' p c id_ m ticks sent now taken L P s out' (I ++ [x]) (Q ++ [mg])) ∧ Chg (Nf p) w w' := by
  have HX0 := Lib.hid hx
  have H1 := Lib.hid hx.one
  obtain ⟨e0, d0, s0, rfl, he, hd, hs⟩ := hx
  obtain ⟨p1, k1, rfl, _⟩ := ens_form he
  obtain ⟨p2, k2, rfl, _⟩ := dgs_form hd
  obtain ⟨p3, k3, rfl, _⟩ := prs_form hs
  have HI := Lib.hid hI
  have H0 := Lib.hid h
  have hne : (mg.t != id_) = true := by simpa using ht
  obtain ⟨mk, mf, mt, mop, mfr, mkey, mbk, mes, mds, mms⟩ := mg
  dsimp only at hf hne
  subst hf
  dsimp only
  have hC0 := Chg.al w (.cells (mc (mgx ⟨mk, mf, mt, mop, mfr, mkey, mbk, mes, mds, mms⟩ (.slice p1 mes.length k1) (.slice p2 mds.length k2) (.slice p3 mms.length k3))) 40)
  have n9 := (h.nd.blk.st hC0).cell 9
  have BX := Blk.new w 40 (mc (mgx ⟨mk, mf, mt, mop, mfr, mkey, mbk, mes, mds, mms⟩ (.slice p1 mes.length k1) (.slice p2 mds.length k2) (.slice p3 mms.length k3)))
  have HN := Lib.hid (h.st hC0)
  have HC := Lib.hid hC0
  clear he hd hs ht hI h hC0
  go_enter Tryz.func39, Tryz.ntmps39
  go_upto_region 2 with fail
  clear n9
  have H1b : Hid (∀ v ∈ ([.int .i64 mk, .int .i64 mf, .int .i64 mt, .int .i64 mop, .int .i64 mfr, .string mkey, .int .i64 mbk, .slice p1 mes.length k1, .slice p2 mds.length k2, .slice p3 mms.length k3] : List Value), v.oneCell' = true) := Lib.hid fun v hv => H1.out v (List.mem_toArray.2 hv)
  have hB9 : Hid (Blk (w.alloc (.cells (mc (mgx ⟨mk, mf, mt, mop, mfr, mkey, mbk, mes, mds, mms⟩ (.slice p1 mes.length k1) (.slice p2 mds.length k2) (.slice p3 mms.length k3))) 40)) w.heap.size 40 #[.int .i64 mk, .int .i64 mf, .int .i64 mt, .int .i64 mop, .int .i64 mfr, .string mkey, .int .i64 mbk, .slice p1 mes.length k1, .slice p2 mds.length k2, .slice p3 mms.length k3]) := Lib.hid BX
  clear BX
  generalize hW : w.alloc (Obj.cells _ 40) = W at *
  obtain ⟨i9, hi9, z9, s9, y9⟩ := info_parts Tryz.infMs
  obtain ⟨ops_, oc, rfl⟩ : ∃ a b, out = .slice a I.length b := (own_form HN.out.nd.own).elim fun a h => h.elim fun b h => ⟨a, b, h.1⟩
  have HNo : Hid (¬ (Value.slice ops_ I.length oc).ownBlock = some p.n) := Lib.hid fun hk => absurd (HN.out.out_lt hk) (Nat.lt_irrefl _)
  have HNx : Hid (¬ (Value.slice ops_ I.length oc).ownBlock = some w.heap.size) := Lib.hid fun hk => absurd (H0.out.nd.own.lt _ hk).2 (Nat.lt_irrefl _)
  have hpn := HN.out.nd.blk.lt
  refine start_ (n := 7) (S := fun w' => w'.cell? ⟨p.n, 9, none⟩ = some (.int .i64 mf) ∧ w'.cell? ⟨p.n, 18, none⟩ = some (.slice ops_ I.length oc) ∧ w'.cell? ⟨w.heap.size, 0, none⟩ = some (.int .i64 mk) ∧ w'.cell? ⟨w.heap.size, 1, none⟩ = some (.int .i64 mf) ∧ w'.cell? ⟨w.heap.size, 2, none⟩ = some (.int .i64 mt) ∧ w'.cell? ⟨w.heap.size, 3, none⟩ = some (.int .i64 mop) ∧ w'.cell? ⟨w.heap.size, 4, none⟩ = some (.int .i64 mfr) ∧ w'.cell? ⟨w.heap.size, 5, none⟩ = some (.string mkey) ∧ w'.cell? ⟨w.heap.size, 6, none⟩ = some (.int .i64 mbk) ∧ w'.cell? ⟨w.heap.size, 7, none⟩ = some (.slice p1 mes.length k1) ∧ w'.cell? ⟨w.heap.size, 8, none⟩ = some (.slice p2 mds.length k2) ∧ w'.cell? ⟨w.heap.size, 9, none⟩ = some (.slice p3 mms.length k3)) (ds := []) #[false, false, false, false, false, false, false] (by kernel_rfl) rfl rfl ⟨(HN.out.nd.blk.drew.cell 9), (HN.out.nd.blk.drew.cell 18), (hB9.out.drew.cell 0), (hB9.out.drew.cell 1), (hB9.out.drew.cell 2), (hB9.out.drew.cell 3), (hB9.out.drew.cell 4), (hB9.out.drew.cell 5), (hB9.out.drew.cell 6), (hB9.out.drew.cell 7), (hB9.out.drew.cell 8), (hB9.out.drew.cell 9)⟩ (fun hHeld => ?_)
  refine pure_ (i := 0) (N := some 9) (v := ?_) (a' := ?_) #[true, false, false, false, false, false, false] rfl rfl (by kernel_rfl) (fun _ _ _ h => h) (Or.inl ⟨by rfl, ?_⟩) ?_ ?_
  rotate_left
  · intro w'
    go_simp
    with_reducible rfl
  rotate_left
  · simp only [Act.put, List.setIfInBounds_toArray, List.set_cons_zero, List.set_cons_succ]
    rfl
  refine pure_ (i := 2) (N := some 11) (v := ?_) (a' := ?_) #[true, false, true, false, false, false, false] rfl rfl (by kernel_rfl) (fun _ _ _ h => h) (Or.inl ⟨by rfl, ?_⟩) ?_ ?_
  rotate_left
  · intro w'
    go_simp
    with_reducible rfl
  rotate_left
  · simp only [Act.put, List.setIfInBounds_toArray, List.set_cons_zero, List.set_cons_succ]
    rfl
  refine pure_ (i := 3) (N := some 12) (v := ?_) (a' := ?_) #[true, false, true, true, false, false, false] rfl rfl (by kernel_rfl) (fun _ _ _ h => h) (Or.inl ⟨by rfl, ?_⟩) ?_ ?_
  rotate_left
  · intro w'
    go_simp
    with_reducible rfl
  rotate_left
  · simp only [Act.put, List.setIfInBounds_toArray, List.set_cons_zero, List.set_cons_succ]
    rfl
  refine pure_ (i := 4) (N := some 13) (v := ?_) (a' := ?_) #[true, false, true, true, true, false, false] rfl rfl (by kernel_rfl) (fun _ _ _ h => h) (Or.inl ⟨by rfl, ?_⟩) ?_ ?_
  rotate_left
  · intro w'
    go_simp
    with_reducible rfl
  rotate_left
  · simp only [Act.put, List.setIfInBounds_toArray, List.set_cons_zero, List.set_cons_succ]
    rfl
  refine take_ (i := 1) (N := some 10) (v := ?_) (a' := ?_) #[true, true, true, true, true, false, false] rfl rfl (by kernel_rfl) (fun _ _ _ h => h) (Or.inl ⟨by rfl, ?_⟩) hHeld ?_ ?_
  rotate_left
  · rintro w' ⟨s0, s1, s2, s3, s4, s5, s6, s7, s8, s9, s10, s11⟩
    go_simp
    with_reducible rfl
  rotate_left
  · simp only [Act.put, List.setIfInBounds_toArray, List.set_cons_zero, List.set_cons_succ]
    rfl
  refine take_ (i := 5) (N := some 14) (v := ?_) (a' := ?_) #[true, true, true, true, true, true, false] rfl rfl (by kernel_rfl) (fun _ _ _ h => h) (Or.inl ⟨by rfl, ?_⟩) hHeld ?_ ?_
  rotate_left
  · rintro w' ⟨s0, s1, s2, s3, s4, s5, s6, s7, s8, s9, s10, s11⟩
    go_simp
    with_reducible rfl
  rotate_left
  · simp only [Act.put, List.setIfInBounds_toArray, List.set_cons_zero, List.set_cons_succ]
    rfl
  refine pure_ (i := 6) (N := some 15) (v := ?_) (a' := ?_) #[true, true, true, true, true, true, true] rfl rfl (by kernel_rfl) (fun _ _ _ h => h) (Or.inl ⟨by rfl, ?_⟩) ?_ ?_
  rotate_left
  · intro w'
    go_simp
    with_reducible rfl
  rotate_left
  · simp only [Act.put, List.setIfInBounds_toArray, List.set_cons_zero, List.set_cons_succ]
    rfl
  refine done_ (by kernel_rfl) ?_
  go_wp2_with fail
  refine start_ (n := 11) (S := fun w' => w'.cell? ⟨p.n, 9, none⟩ = some (.int .i64 mf) ∧ w'.cell? ⟨p.n, 18, none⟩ = some (.slice ops_ I.length oc) ∧ w'.cell? ⟨w.heap.size, 0, none⟩ = some (.int .i64 mk) ∧ w'.cell? ⟨w.heap.size, 1, none⟩ = some (.int .i64 mf) ∧ w'.cell? ⟨w.heap.size, 2, none⟩ = some (.int .i64 mt) ∧ w'.cell? ⟨w.heap.size, 3, none⟩ = some (.int .i64 mop) ∧ w'.cell? ⟨w.heap.size, 4, none⟩ = some (.int .i64 mfr) ∧ w'.cell? ⟨w.heap.size, 5, none⟩ = some (.string mkey) ∧ w'.cell? ⟨w.heap.size, 6, none⟩ = some (.int .i64 mbk) ∧ w'.cell? ⟨w.heap.size, 7, none⟩ = some (.slice p1 mes.length k1) ∧ w'.cell? ⟨w.heap.size, 8, none⟩ = some (.slice p2 mds.length k2) ∧ w'.cell? ⟨w.heap.size, 9, none⟩ = some (.slice p3 mms.length k3)) (ds := [10]) #[false, false, false, false, false, false, false, false, false, false, false] (by kernel_rfl) rfl rfl ⟨(HN.out.nd.blk.drew.drew.cell 9), (HN.out.nd.blk.drew.drew.cell 18), (hB9.out.drew.drew.cell 0), (hB9.out.drew.drew.cell 1), (hB9.out.drew.drew.cell 2), (hB9.out.drew.drew.cell 3), (hB9.out.drew.drew.cell 4), (hB9.out.drew.drew.cell 5), (hB9.out.drew.drew.cell 6), (hB9.out.drew.drew.cell 7), (hB9.out.drew.drew.cell 8), (hB9.out.drew.drew.cell 9)⟩ (fun hHeld => ?_)
  refine pure_ (i := 0) (N := some 16) (v := ?_) (a' := ?_) #[true, false, false, false, false, false, false, false, false, false, false] rfl rfl (by kernel_rfl) (fun _ _ _ h => h) (Or.inl ⟨by rfl, ?_⟩) ?_ ?_
  rotate_left
  · intro w'
    go_simp
    with_reducible rfl
  rotate_left
  · simp only [Act.put, List.setIfInBounds_toArray, List.set_cons_zero, List.set_cons_succ]
    rfl
  refine pure_ (i := 1) (N := some 17) (v := ?_) (a' := ?_) #[true, true, false, false, false, false, false, false, false, false, false] rfl rfl (by kernel_rfl) (fun _ _ _ h => h) (Or.inl ⟨by rfl, ?_⟩) ?_ ?_
  rotate_left
  · intro w'
    go_simp
    with_reducible rfl
  rotate_left
  · simp only [Act.put, List.setIfInBounds_toArray, List.set_cons_zero, List.set_cons_succ]
    rfl
  refine pure_ (i := 2) (N := some 18) (v := ?_) (a' := ?_) #[true, true, true, false, false, false, false, false, false, false, false] rfl rfl (by kernel_rfl) (fun _ _ _ h => h) (Or.inl ⟨by rfl, ?_⟩) ?_ ?_
  rotate_left
  · intro w'
    go_simp
    with_reducible rfl
  rotate_left
  · simp only [Act.put, List.setIfInBounds_toArray, List.set_cons_zero, List.set_cons_succ]
    rfl
  refine pure_ (i := 3) (N := some 19) (v := ?_) (a' := ?_) #[true, true, true, true, false, false, false, false, false, false, false] rfl rfl (by kernel_rfl) (fun _ _ _ h => h) (Or.inl ⟨by rfl, ?_⟩) ?_ ?_
  rotate_left
  · intro w'
    go_simp
    with_reducible rfl
  rotate_left
  · simp only [Act.put, List.setIfInBounds_toArray, List.set_cons_zero, List.set_cons_succ]
    rfl
  refine take_ (i := 4) (N := some 20) (v := ?_) (a' := ?_) #[true, true, true, true, true, false, false, false, false, false, false] rfl rfl (by kernel_rfl) (fun _ _ _ h => h) (Or.inl ⟨by rfl, ?_⟩) hHeld ?_ ?_
  rotate_left
  · rintro w' ⟨s0, s1, s2, s3, s4, s5, s6, s7, s8, s9, s10, s11⟩
    go_simp
    with_reducible rfl
  rotate_left
  · simp only [Act.put, List.setIfInBounds_toArray, List.set_cons_zero, List.set_cons_succ]
    rfl
  refine take_ (i := 5) (N := some 21) (v := ?_) (a' := ?_) #[true, true, true, true, true, true, false, false, false, false, false] rfl rfl (by kernel_rfl) (fun _ _ _ h => h) (Or.inl ⟨by rfl, ?_⟩) hHeld ?_ ?_
  rotate_left
  · rintro w' ⟨s0, s1, s2, s3, s4, s5, s6, s7, s8, s9, s10, s11⟩
    go_simp
    with_reducible rfl
  rotate_left
  · simp only [Act.put, List.setIfInBounds_toArray, List.set_cons_zero, List.set_cons_succ]
    rfl
  refine one_ (i := 6) (N := some 22) #[true, true, true, true, true, true, true, false, false, false, false] rfl rfl (by kernel_rfl) (by decide) (fun K hK => ?_)
  refine value_ (w1 := ?_) (v := ?_) (by rfl) rfl ?_ ?_
  rotate_left 2
  · go_simp
    constructor
    · rfl
    · rfl
  refine hK.out _ _ ⟨((HN.out.nd.blk.drew.drew.alloc _).cell 9), ((HN.out.nd.blk.drew.drew.alloc _).cell 18), ((hB9.out.drew.drew.alloc _).cell 0), ((hB9.out.drew.drew.alloc _).cell 1), ((hB9.out.drew.drew.alloc _).cell 2), ((hB9.out.drew.drew.alloc _).cell 3), ((hB9.out.drew.drew.alloc _).cell 4), ((hB9.out.drew.drew.alloc _).cell 5), ((hB9.out.drew.drew.alloc _).cell 6), ((hB9.out.drew.drew.alloc _).cell 7), ((hB9.out.drew.drew.alloc _).cell 8), ((hB9.out.drew.drew.alloc _).cell 9)⟩ (fun hHeld => ?_)
  clear hK K
  refine norm_ (a' := ?_) ?_ ?_
  rotate_left
  · show Act.put _ (some 22) _ = _
    simp only [Act.put, List.setIfInBounds_toArray, List.set_cons_zero, List.set_cons_succ]
    rfl
  refine one_ (i := 7) (N := some 23) #[true, true, true, true, true, true, true, true, false, false, false] rfl rfl (by kernel_rfl) (by decide) (fun K hK => ?_)
  refine step_append_lies _ (by rfl) _ _ _ (by rfl) (p.n + 1) 40 i9 _ 10 136 Tryz.underlying33 hi9 z9 s9 y9 rfl (by omega) (.slice ops_ I.length oc) I.length (fm I) (by rfl) (World.ownsRow.alloc (HN.out.nd.own.drew.drew) _)
    ⟨W.heap.size, 0, none⟩ 1 1 [.int .i64 mk, .int .i64 mf, .int .i64 mt, .int .i64 mop, .int .i64 mfr, .string mkey, .int .i64 mbk, .slice p1 mes.length k1, .slice p2 mds.length k2, .slice p3 mms.length k3] (by rfl) (by rfl) (World.news_of_block (cs := #[.int .i64 mk, .int .i64 mf, .int .i64 mt, .int .i64 mop, .int .i64 mfr, .string mkey, .int .i64 mbk, .slice p1 mes.length k1, .slice p2 mds.length k2, .slice p3 mms.length k3]) (t := 40) (fr := (0, 0)) (heap_alloc_new W.drew.drew _)) H1b.out (by omega) (by have := HI.out; unfold maxLen; omega) (by have := HI.out; omega) (by simp; omega) (W.heap.size + 1) (by simp) ?_
  intro g3 cap3 w5 hown hgrow hat hlt
  have HO5 := Lib.hid hown
  have HC5 := Lib.hid (grow_chg hgrow)
  have HA5 := Lib.hid hat
  have HG5 := Lib.hid ((HN.out.nd.blk.drew.drew.alloc (Obj.cells #[.int .i64 mk, .int .i64 mf, .int .i64 mt, .int .i64 mop, .int .i64 mfr, .string mkey, .int .i64 mbk, .slice p1 mes.length k1, .slice p2 mds.length k2, .slice p3 mms.length k3] 40)).chg HC5.out HNo.out)
  have HB5 := Lib.hid ((hB9.out.drew.drew.alloc (Obj.cells #[.int .i64 mk, .int .i64 mf, .int .i64 mt, .int .i64 mop, .int .i64 mfr, .string mkey, .int .i64 mbk, .slice p1 mes.length k1, .slice p2 mds.length k2, .slice p3 mms.length k3] 40)).chg HC5.out HNx.out)
  clear hown hgrow hat
  have fk := HG5.out.frozen 18
  refine hK.out _ _ ⟨(HG5.out.cell 9), (HG5.out.cell 18), (HB5.out.cell 0), (HB5.out.cell 1), (HB5.out.cell 2), (HB5.out.cell 3), (HB5.out.cell 4), (HB5.out.cell 5), (HB5.out.cell 6), (HB5.out.cell 7), (HB5.out.cell 8), (HB5.out.cell 9)⟩ (fun hHeld => ?_)
  clear hK K
  refine norm_ (a' := ?_) ?_ ?_
  rotate_left
  · show Act.put _ (some 23) _ = _
    simp only [Act.put, List.setIfInBounds_toArray, List.set_cons_zero, List.set_cons_succ]
    rfl
  refine pure_ (i := 8) (N := some 24) (v := ?_) (a' := ?_) #[true, true, true, true, true, true, true, true, true, false, false] rfl rfl (by kernel_rfl) (fun _ _ _ h => h) (Or.inl ⟨by rfl, ?_⟩) ?_ ?_
  rotate_left
  · intro w'
    go_simp
    with_reducible rfl
  rotate_left
  · simp only [Act.put, List.setIfInBounds_toArray, List.set_cons_zero, List.set_cons_succ]
    rfl
  refine pure_ (i := 9) (N := some 25) (v := ?_) (a' := ?_) #[true, true, true, true, true, true, true, true, true, true, false] rfl rfl (by kernel_rfl) (fun _ _ _ h => h) (Or.inl ⟨by rfl, ?_⟩) ?_ ?_
  rotate_left
  · intro w'
    go_simp
    with_reducible rfl
  rotate_left
  · simp only [Act.put, List.setIfInBounds_toArray, List.set_cons_zero, List.set_cons_succ]
    rfl
  refine last_ (i := 10) (N := none) #[true, true, true, true, true, true, true, true, true, true, true] rfl rfl (by kernel_rfl) (by decide) (fun K hK => ?_)
  refine skip_ (w1 := ?_) (by rfl) rfl ?_ ?_
  rotate_left
  · go_simp
    rfl
  refine hK.out _ _ ?_
  clear hK K
  refine done_ (by kernel_rfl) ?_
  go_end0
  have hCw : Chg NoB w (W.drew.drew.alloc (Obj.cells #[.int .i64 mk, .int .i64 mf, .int .i64 mt, .int .i64 mop, .int .i64 mfr, .string mkey, .int .i64 mbk, .slice p1 mes.length k1, .slice p2 mds.length k2, .slice p3 mms.length k3] 40)) := ((HC.out.trans (Chg.dr W)).trans (Chg.dr _)).alloc _
  have hF : Chg (Nf p) w (w5.setCell ⟨p.n, 18, none⟩ (.slice (some ⟨g3, 0, none⟩) (I.length + 1) cap3)) := ((Chg.of_no hCw).trans (HC5.out.mono fun k _ hk => by
    have h1 := H0.out.out_lt hk
    have h2 := H0.out.nd.up
    show p.rg < k
    have := h2.v
    have := h2.bh
    have := h2.q
    have := h2.om
    have := h2.op
    have := h2.n
    omega)).setCell (p := ⟨p.n, 18, none⟩) (.inl (by
    have h2 := H0.out.nd.up
    show p.rg < p.n
    have := h2.v
    have := h2.bh
    have := h2.q
    have := h2.om
    have := h2.op
    have := h2.n
    omega)) _
  exact ⟨rfl, ⟨_, H0.out.push HX0.out hCw HC5.out HO5.out (HA5.out.imp id fun h => by rw [h]; simp)⟩, hF⟩
/-- How many wait, as the queue's block says it. -/
def qlen (w : World) (g : Nat) : Nat := match w.cell? ⟨g, 1, none⟩ with
  | some (.slice _ n _) => n
  | _ => 0
theorem QA.qlen_ {w : World} {g r : Nat} {most now : Int} {L : List (Ms × Int)} {s : Value} (q : QA w g r most now L s) : qlen w g = L.length := by
  have h := q.blk.cell 1
  obtain ⟨a, b, rfl⟩ := q.form
  unfold qlen
  rw [h]
  rfl
/-- Behind a take. -/
theorem NS.take {L' : List (Ms × Int)} {P' : List Mg} {s' : Value} (h : NS w p c id_ m ticks sent now taken L P s out I Q) (hC : Chg (Qp p.qg p.qr s) w w') (hq : QA w' p.qg p.qr c.q 0 L' s') (hs : s'.ownBlock = s.ownBlock) (hl : All2 (fun x y => MR w (Dn p.n s out) y x.1) L' P') : NS w' p c id_ m ticks sent now taken L' P' s' out I Q := by
  have e : Dn p.n s' out = Dn p.n s out := by unfold Dn; rw [hs]
  obtain ⟨a1, a2, a3, a4, a5, a6, b0, b1, b2, b3, b4, b5, b6, b7, b8, b9⟩ := h.nd.up
  have hd : ∀ {y : Ms} {q : Mg}, MR w (Dn p.n s out) q y → MR w' (Dn p.n s' out) q y := fun k => by
    rw [e]
    exact k.chg hC fun j hj _ hq => by
      have := hj.1
      rcases hq with hq | hq | hq
      · omega
      · omega
      · exact hj.2.1 hq
  exact ⟨h.nd.qu hC hq (fun k hk => h.nd.sn k (hs ▸ hk)) (fun k hk => h.nd.so k (hs ▸ hk)), hl.mono fun _ _ k => hd k, h.i.mono fun _ _ k => hd k⟩
set_option maxHeartbeats 4000000 in
theorem npump_two {y1 y2 : Ms} {ua ub : Int} {m1 m2 : Mg} (h : NS w p c id_ m ticks sent now taken [(y1, ua), (y2, ub)] [m1, m2] s out [] []) (hu : ub ≤ ua) (hn : 2 ≤ now) (ht : 0 ≤ taken ∧ taken < 1000000) (hs : 0 ≤ sent ∧ sent < 1000000) (h1 : m1.t ≠ id_ ∧ m1.f = id_) (h2 : m2.t ≠ id_ ∧ m2.f = id_) :
    Calls Tryz.prog 31 #[.pointer (some ⟨p.n, 0, none⟩)] w fun e w' => e = .returned (.tuple #[]) ∧ (∃ s' out', NS w' p c id_ m ticks (sent + 2) (now - 2) (taken + 2) [] [] s' out' [y1, y2] [m1, m2]) ∧ Chg (Nf p) w w' := by
  have HN := Lib.hid h
  have HU := Lib.hid hu
  have HW := Lib.hid hn
  have HT := Lib.hid ht
  have HS := Lib.hid hs
  have H1 := Lib.hid h1
  have H2 := Lib.hid h2
  clear h hu hn ht hs h1 h2
  go_enter Tryz.func31, Tryz.ntmps31
  go_wp2_with fail
  go_loopw [] (fun wr => ∃ k : Nat, k ≤ 2 ∧ (∃ s' out', NS wr p c id_ m ticks (sent + k) (now - k) (taken + k) ([(y1, ua), (y2, ub)].drop k) ([m1, m2].drop k) s' out' ([y1, y2].take k) ([m1, m2].take k)) ∧ Chg (Nf p) w wr) (fun wr => qlen wr p.qg)
  case atStart => exact ⟨0, by omega, ⟨s, out, by simpa using HN.out⟩, Chg.refl _ _⟩
  case round =>
    obtain ⟨k, hk, ⟨s', out', hN⟩, hC⟩ := hrel
    have HC := Lib.hid hC
    clear hC
    rcases (by omega : k = 0 ∨ k = 1 ∨ k = 2) with rfl | rfl | rfl
    · have HK : Hid (NS wr p c id_ m ticks sent now taken [(y1, ua), (y2, ub)] [m1, m2] s' out' [] []) := Lib.hid (by simpa using hN)
      clear hN
      have n13 := HK.out.nd.blk.cell 13
      have n14 := HK.out.nd.blk.cell 14
      go_wp2_with fail
      refine (len_any HK.out.nd.q).mono ?_
      rintro e w1 ⟨rfl, hw⟩
      subst hw
      go_wp2_with fail
      refine (bucket_take_yes HK.out.nd.bk (by have := HW.out; omega) (by have := HT.out; omega)).mono ?_
      rintro e w2 ⟨rfl, hb, hC⟩
      have HB2 := Lib.hid (HK.out.bk hC hb)
      have HC2 : Hid (Chg (Nf p) w w2) := Lib.hid (HC.out.trans (HK.out.nd.footB hC))
      have n14 := HB2.out.nd.blk.cell 14
      clear hb hC n13
      go_wp2_with fail
      refine (take_ft HB2.out.nd.q (by simp) (by simp)).mono ?_
      rintro e w3 ⟨⟨b, hbl, hB, rfl, s3, hq, hs3⟩, hC⟩
      have hb0 : b = 0 := by
        rcases Nat.eq_zero_or_pos b with h0 | h0
        · exact h0
        · obtain rfl : b = 1 := by simp at hbl; omega
          have h1 := hB.lt 0 (by omega)
          have h2 := HU.out
          simp [wt] at h1
          omega
      subst hb0
      have HQ3 := Lib.hid (HB2.out.take (L' := [(y2, ub)]) (P' := [m2]) hC (by simpa using hq) hs3 (by exact HB2.out.l.2))
      have HX3 : Hid (MR w3 (Dn p.n s3 out') m1 y1) := Lib.hid (by
        have e : Dn p.n s3 out' = Dn p.n s' out' := by unfold Dn; rw [hs3]
        rw [e]
        exact HB2.out.l.1.chg hC fun j hj _ hq => by
          have h1 := hj.1
          have h2 := HB2.out.nd.up
          have := h2.q
          have := h2.om
          have := h2.op
          have := h2.n
          rcases hq with hq | hq | hq
          · omega
          · omega
          · exact hj.2.1 hq)
      have HC3 : Hid (Chg (Nf p) w w3) := Lib.hid (HC2.out.trans (HB2.out.nd.foot hC))
      clear hq hs3 hB hC n14
      dsimp only [List.getElem_cons_zero]
      obtain ⟨e0, d0, s0, rfl, he, hd, hs⟩ := HX3.out.ex
      obtain ⟨p1, k1, rfl, _⟩ := ens_form he
      obtain ⟨p2, k2, rfl, _⟩ := dgs_form hd
      obtain ⟨p3, k3, rfl, _⟩ := prs_form hs
      clear he hd hs
      go_upto_region 2 with fail
      have hC4 := Chg.al w3 (.cells (mc (mgx m1 (.slice p1 m1.es.length k1) (.slice p2 m1.ds.length k2) (.slice p3 m1.ms.length k3))) 40)
      have BX := Blk.new w3 40 (mc (mgx m1 (.slice p1 m1.es.length k1) (.slice p2 m1.ds.length k2) (.slice p3 m1.ms.length k3)))
      have HN4 := Lib.hid (HQ3.out.st hC4)
      have HX4 := Lib.hid (HX3.out.st hC4)
      have HC4 : Hid (Chg (Nf p) w _) := Lib.hid (HC3.out.trans hC4.of_no)
      clear hC4
      generalize w3.alloc (Obj.cells _ 40) = W4 at *
      have HB4 := Lib.hid BX
      clear BX
      go_wp2_with fail
      refine (atomic_add p.n 17 sent 1 W4 (HN4.out.nd.blk.cell 17) (HN4.out.nd.blk.frozen 17) (by have := HS.out; omega) (by have := HS.out; omega)).mono ?_
      rintro e w5 ⟨rfl, rfl⟩
      have hB5 := HN4.out.nd.blk.set_ 17 (.int .i64 (sent + 1))
      have hC5 : Chg (Only p.n) W4 (W4.setCell ⟨p.n, 17, none⟩ (.int .i64 (sent + 1))) := (Chg.refl (Only p.n) W4).setOwn 17 _
      have HN5 := Lib.hid (HN4.out.nums (ticks' := ticks) (sent' := sent + 1) hC5 hB5)
      have HX5 := Lib.hid (HX4.out.chg hC5 fun j hj _ => by have := hj.1; unfold Only; omega)
      have hnx : ¬ Only p.n w3.heap.size := by have := HQ3.out.nd.blk.lt; unfold Only; omega
      have HB5 := Lib.hid (HB4.out.chg hC5 hnx)
      have HC5 : Hid (Chg (Nf p) w _) := Lib.hid (HC4.out.trans (HN4.out.nd.footN hC5))
      clear hB5 hC5 hnx
      generalize W4.setCell ⟨p.n, 17, none⟩ _ = W5 at *
      obtain ⟨b0, b1, b2, b3, b4, b5, b6, b7, b8, b9⟩ := ten_of (f := fun j => W5.cell? ⟨w3.heap.size, j, none⟩) (cs := mc (mgx m1 (.slice p1 m1.es.length k1) (.slice p2 m1.ds.length k2) (.slice p3 m1.ms.length k3))) fun j hj => by rw [Array.getElem?_toList]; exact HB5.out.cell j
      go_wp2_with fail
      refine (nsend_any HN5.out m1 HX5.out H1.out.1 H1.out.2 (by simp)).mono ?_
      rintro e w6 ⟨rfl, ⟨out6, hN6⟩, hC6⟩
      have HN6 := Lib.hid hN6
      have HC6 := Lib.hid (HC5.out.trans hC6)
      clear hN6 hC6
      go_wp2_with fail
      have hq0 := HK.out.nd.q.qlen_
      have hq1 := HN6.out.nd.q.qlen_
      refine ⟨⟨1, by omega, ⟨s3, out6, ?_⟩, HC6.out⟩, by rw [hq0, hq1]; simp⟩
      have := HN6.out
      simpa using this
    · have HK : Hid (NS wr p c id_ m ticks (sent + 1) (now - 1) (taken + 1) [(y2, ub)] [m2] s' out' [y1] [m1]) := Lib.hid (by simpa using hN)
      clear hN
      have n13 := HK.out.nd.blk.cell 13
      have n14 := HK.out.nd.blk.cell 14
      go_wp2_with fail
      refine (len_any HK.out.nd.q).mono ?_
      rintro e w1 ⟨rfl, hw⟩
      subst hw
      go_wp2_with fail
      refine (bucket_take_yes HK.out.nd.bk (by have := HW.out; omega) (by have := HT.out; omega)).mono ?_
      rintro e w2 ⟨rfl, hb, hC⟩
      have HB2 := Lib.hid (HK.out.bk hC hb)
      have HC2 : Hid (Chg (Nf p) w w2) := Lib.hid (HC.out.trans (HK.out.nd.footB hC))
      have n14 := HB2.out.nd.blk.cell 14
      clear hb hC n13
      go_wp2_with fail
      refine (take_ft HB2.out.nd.q (by simp) (by simp)).mono ?_
      rintro e w3 ⟨⟨b, hbl, hB, rfl, s3, hq, hs3⟩, hC⟩
      have hb0 : b = 0 := by simp at hbl; omega
      subst hb0
      have HQ3 := Lib.hid (HB2.out.take (L' := []) (P' := []) hC (by simpa using hq) hs3 (by exact HB2.out.l.2))
      have HX3 : Hid (MR w3 (Dn p.n s3 out') m2 y2) := Lib.hid (by
        have e : Dn p.n s3 out' = Dn p.n s' out' := by unfold Dn; rw [hs3]
        rw [e]
        exact HB2.out.l.1.chg hC fun j hj _ hq => by
          have h1 := hj.1
          have h2 := HB2.out.nd.up
          have := h2.q
          have := h2.om
          have := h2.op
          have := h2.n
          rcases hq with hq | hq | hq
          · omega
          · omega
          · exact hj.2.1 hq)
      have HC3 : Hid (Chg (Nf p) w w3) := Lib.hid (HC2.out.trans (HB2.out.nd.foot hC))
      clear hq hs3 hB hC n14
      dsimp only [List.getElem_cons_zero]
      obtain ⟨e0, d0, s0, rfl, he, hd, hs⟩ := HX3.out.ex
      obtain ⟨p1, k1, rfl, _⟩ := ens_form he
      obtain ⟨p2, k2, rfl, _⟩ := dgs_form hd
      obtain ⟨p3, k3, rfl, _⟩ := prs_form hs
      clear he hd hs
      go_upto_region 2 with fail
      have hC4 := Chg.al w3 (.cells (mc (mgx m2 (.slice p1 m2.es.length k1) (.slice p2 m2.ds.length k2) (.slice p3 m2.ms.length k3))) 40)
      have BX := Blk.new w3 40 (mc (mgx m2 (.slice p1 m2.es.length k1) (.slice p2 m2.ds.length k2) (.slice p3 m2.ms.length k3)))
      have HN4 := Lib.hid (HQ3.out.st hC4)
      have HX4 := Lib.hid (HX3.out.st hC4)
      have HC4 : Hid (Chg (Nf p) w _) := Lib.hid (HC3.out.trans hC4.of_no)
      clear hC4
      generalize w3.alloc (Obj.cells _ 40) = W4 at *
      have HB4 := Lib.hid BX
      clear BX
      go_wp2_with fail
      refine (atomic_add p.n 17 (sent + 1) 1 W4 (HN4.out.nd.blk.cell 17) (HN4.out.nd.blk.frozen 17) (by have := HS.out; omega) (by have := HS.out; omega)).mono ?_
      rintro e w5 ⟨rfl, rfl⟩
      have hB5 := HN4.out.nd.blk.set_ 17 (.int .i64 ((sent + 1) + 1))
      have hC5 : Chg (Only p.n) W4 (W4.setCell ⟨p.n, 17, none⟩ (.int .i64 ((sent + 1) + 1))) := (Chg.refl (Only p.n) W4).setOwn 17 _
      have HN5 := Lib.hid (HN4.out.nums (ticks' := ticks) (sent' := (sent + 1) + 1) hC5 hB5)
      have HX5 := Lib.hid (HX4.out.chg hC5 fun j hj _ => by have := hj.1; unfold Only; omega)
      have hnx : ¬ Only p.n w3.heap.size := by have := HQ3.out.nd.blk.lt; unfold Only; omega
      have HB5 := Lib.hid (HB4.out.chg hC5 hnx)
      have HC5 : Hid (Chg (Nf p) w _) := Lib.hid (HC4.out.trans (HN4.out.nd.footN hC5))
      clear hB5 hC5 hnx
      generalize W4.setCell ⟨p.n, 17, none⟩ _ = W5 at *
      obtain ⟨b0, b1, b2, b3, b4, b5, b6, b7, b8, b9⟩ := ten_of (f := fun j => W5.cell? ⟨w3.heap.size, j, none⟩) (cs := mc (mgx m2 (.slice p1 m2.es.length k1) (.slice p2 m2.ds.length k2) (.slice p3 m2.ms.length k3))) fun j hj => by rw [Array.getElem?_toList]; exact HB5.out.cell j
      go_wp2_with fail
      refine (nsend_any HN5.out m2 HX5.out H2.out.1 H2.out.2 (by simp)).mono ?_
      rintro e w6 ⟨rfl, ⟨out6, hN6⟩, hC6⟩
      have HN6 := Lib.hid hN6
      have HC6 := Lib.hid (HC5.out.trans hC6)
      clear hN6 hC6
      go_wp2_with fail
      have hq0 := HK.out.nd.q.qlen_
      have hq1 := HN6.out.nd.q.qlen_
      refine ⟨⟨2, by omega, ⟨s3, out6, ?_⟩, HC6.out⟩, by rw [hq0, hq1]; simp⟩
      have := HN6.out
      simpa [Int.add_assoc, Int.sub_sub] using this
    · have HK : Hid (NS wr p c id_ m ticks (sent + 2) (now - 2) (taken + 2) [] [] s' out' [y1, y2] [m1, m2]) := Lib.hid (by simpa using hN)
      clear hN
      have n14 := HK.out.nd.blk.cell 14
      go_wp2_with fail
      refine (len_any HK.out.nd.q).mono ?_
      rintro e w1 ⟨rfl, hw⟩
      subst hw
      go_wp2_with fail
      go_end0
      exact ⟨rfl, ⟨s', out', HK.out⟩, HC.out⟩
end
end Go.Proofs.YtoefffjhjmjhfaaGreat
namespace Go.Proofs.YtoefffjhjmjhfaaGreat
open Go.RowKit Go.Proofs.YtoefffjhjmjhfaaGreatW.PrintLast
attribute [local go_sem] max2_mx min2_mn max_two_ min_two_
set_option maxRecDepth 100000

section
variable {w : World} {p : Pl} {c : Cg} {id_ : Int} {m : Nat} {ticks sent now taken : Int} {s out : Value}
theorem peer_nat {n s t : Int} (hn : 2 ≤ n) : ∃ k : Nat, peerI n s t = (k : Int) ∧ (k : Int) < n := by
  obtain ⟨h0, h1⟩ := peerI_in (s := s) (t := t) hn
  exact ⟨(peerI n s t).toNat, by omega, by omega⟩
theorem peer_ne {n s t : Int} (hn : 2 ≤ n) (hs : 0 ≤ s ∧ s < n) : peerI n s t ≠ s := fun h => by
  unfold peerI at h
  have h1 : 0 ≤ t % (n - 1) := Int.emod_nonneg _ (by omega)
  have h2 : t % (n - 1) < n - 1 := Int.emod_lt_of_pos _ (by omega)
  generalize t % (n - 1) = j at *
  by_cases h3 : s + 1 + j < n
  · rw [Int.emod_eq_of_lt (by omega) h3] at h; omega
  · have h4 : (s + 1 + j) % n = s + 1 + j - n := by
      rw [← Int.sub_emod_right, Int.emod_eq_of_lt (by omega) (by omega)]
    omega
set_option maxHeartbeats 4000000 in
theorem ntick_any (h : NS w p c id_ m ticks sent now taken [] [] s out [] []) (hm : 2 ≤ m ∧ m ≤ 8) (hi : 0 ≤ id_ ∧ id_ < m) (ht : 0 ≤ ticks ∧ ticks < 1000000) (hs : 0 ≤ sent ∧ sent < 1000000) (hk : 0 ≤ taken ∧ taken < 1000000) (hr : 2 ≤ c.rate ∧ 2 ≤ c.burst) (hq : 2 ≤ c.q ∧ c.q ≤ 1000) (hw : 0 ≤ now) :
    Calls Tryz.prog 8 #[.pointer (some ⟨p.n, 0, none⟩)] w fun e w' => e = .returned (.tuple #[]) ∧ (∃ now' y1 y2 s' out' l, 0 ≤ now' ∧ l.length = m ∧ NS w' p c id_ m (ticks + 1) (sent + 2) now' (taken + 2) [] [] s' out' [y1, y2] [pingM id_ (peerI m id_ ticks) l, digM id_ (peerI m id_ ticks) (buckI m ticks)]) ∧ Chg (Nf p) w w' := by
  have HN := Lib.hid h
  have n15 := h.nd.blk.cell 15
  have HM := Lib.hid hm
  have HI := Lib.hid hi
  have HT := Lib.hid ht
  have HS := Lib.hid hs
  have HK := Lib.hid hk
  have HR := Lib.hid hr
  have HQ := Lib.hid hq
  have HW := Lib.hid hw
  have HCN := Lib.hid h.nd.hm
  obtain ⟨k, hkp, hkn⟩ := peer_nat (s := id_) (t := ticks) (show (2 : Int) ≤ (m : Int) by omega)
  have hne := peer_ne (t := ticks) (show (2 : Int) ≤ (m : Int) by omega) hi
  have HPP : Hid (∀ w, Calls Tryz.prog 26 #[.int .i64 c.n, .int .i64 id_, .int .i64 ticks] w fun e w' => e = .returned (.int .i64 (k : Int)) ∧ w' = w) := Lib.hid fun w => by
    rw [← h.nd.hm, ← hkp]
    exact ppeer_any (by omega) hi ht w
  have HPB : Hid (∀ w, Calls Tryz.prog 27 #[.int .i64 c.n, .int .i64 ticks] w fun e w' => e = .returned (.int .i64 (buckI m ticks)) ∧ w' = w) := Lib.hid fun w => by
    rw [← h.nd.hm]
    exact pbuck_any (by omega) ht w
  rw [hkp] at hne ⊢
  have HKP := Lib.hid hkp
  have HKN := Lib.hid hkn
  have HNE := Lib.hid hne
  clear h hm hi ht hs hk hr hq hw hkp hkn hne
  go_enter Tryz.func8, Tryz.ntmps8
  go_wp2_with fail
  refine (coTick_none HN.out.nd.co HN.out.nd.cm).mono ?_
  rintro e w1 ⟨rfl, hC⟩
  have HN1 := Lib.hid (HN.out.st hC)
  have HC1 : Hid (Chg (Nf p) w w1) := Lib.hid hC.of_no
  have n12 := HN1.out.nd.blk.cell 12
  clear hC n15
  go_wp2_with fail
  refine (vtick_any HN1.out.nd.vw HM.out.2).mono ?_
  rintro e w2 ⟨⟨x, rfl⟩, hv, hC⟩
  have HN2 := Lib.hid (HN1.out.vw hC hv)
  have HC2 : Hid (Chg (Nf p) w w2) := Lib.hid (HC1.out.trans (HN1.out.nd.footV hC))
  have n14 := HN2.out.nd.blk.cell 14
  clear hC hv n12
  go_wp2_with fail
  refine (tick_ft HN2.out.nd.q (fun _ h => by cases h) (by simp)).mono ?_
  rintro e wc ⟨rfl, hq, hC⟩
  have HN3 := Lib.hid (HN2.out.take (L' := []) (P' := []) hC hq rfl trivial)
  have HC3 : Hid (Chg (Nf p) w wc) := Lib.hid (HC2.out.trans (HN2.out.nd.foot hC))
  have n13 := HN3.out.nd.blk.cell 13
  clear hC hq n14
  go_wp2_with fail
  refine (bucket_tick HN3.out.nd.bk).mono ?_
  rintro e w4 ⟨rfl, hb, hC⟩
  have HN4 := Lib.hid (HN3.out.bk hC hb)
  have HC4 : Hid (Chg (Nf p) w w4) := Lib.hid (HC3.out.trans (HN3.out.nd.footB hC))
  have n16 := HN4.out.nd.blk.cell 16
  clear hC hb n13
  go_wp2_with fail
  clear n16
  refine start_ (n := 15) (S := fun w' => w'.cell? ⟨p.n, 0, none⟩ = some (.int .i64 c.n) ∧ w'.cell? ⟨p.n, 9, none⟩ = some (.int .i64 id_) ∧ w'.cell? ⟨p.n, 16, none⟩ = some (.int .i64 ticks)) (ds := []) #[false, false, false, false, false, false, false, false, false, false, false, false, false, false, false] (by kernel_rfl) rfl rfl ⟨(HN4.out.nd.blk.drew.cell 0), (HN4.out.nd.blk.drew.cell 9), (HN4.out.nd.blk.drew.cell 16)⟩ (fun hHeld => ?_)
  refine pure_ (i := 0) (N := some 31) (v := ?_) (a' := ?_) #[true, false, false, false, false, false, false, false, false, false, false, false, false, false, false] rfl rfl (by kernel_rfl) (fun _ _ _ h => h) (Or.inl ⟨by rfl, ?_⟩) ?_ ?_
  rotate_left
  · intro w'
    go_simp
    with_reducible rfl
  rotate_left
  · simp only [Act.put, List.setIfInBounds_toArray, List.set_cons_zero, List.set_cons_succ]
    rfl
  refine pure_ (i := 1) (N := some 32) (v := ?_) (a' := ?_) #[true, true, false, false, false, false, false, false, false, false, false, false, false, false, false] rfl rfl (by kernel_rfl) (fun _ _ _ h => h) (Or.inl ⟨by rfl, ?_⟩) ?_ ?_
  rotate_left
  · intro w'
    go_simp
    with_reducible rfl
  rotate_left
  · simp only [Act.put, List.setIfInBounds_toArray, List.set_cons_zero, List.set_cons_succ]
    rfl
  refine pure_ (i := 2) (N := some 33) (v := ?_) (a' := ?_) #[true, true, true, false, false, false, false, false, false, false, false, false, false, false, false] rfl rfl (by kernel_rfl) (fun _ _ _ h => h) (Or.inl ⟨by rfl, ?_⟩) ?_ ?_
  rotate_left
  · intro w'
    go_simp
    with_reducible rfl
  rotate_left
  · simp only [Act.put, List.setIfInBounds_toArray, List.set_cons_zero, List.set_cons_succ]
    rfl
  refine pure_ (i := 3) (N := some 34) (v := ?_) (a' := ?_) #[true, true, true, true, false, false, false, false, false, false, false, false, false, false, false] rfl rfl (by kernel_rfl) (fun _ _ _ h => h) (Or.inl ⟨by rfl, ?_⟩) ?_ ?_
  rotate_left
  · intro w'
    go_simp
    with_reducible rfl
  rotate_left
  · simp only [Act.put, List.setIfInBounds_toArray, List.set_cons_zero, List.set_cons_succ]
    rfl
  refine pure_ (i := 5) (N := some 36) (v := ?_) (a' := ?_) #[true, true, true, true, false, true, false, false, false, false, false, false, false, false, false] rfl rfl (by kernel_rfl) (fun _ _ _ h => h) (Or.inl ⟨by rfl, ?_⟩) ?_ ?_
  rotate_left
  · intro w'
    go_simp
    with_reducible rfl
  rotate_left
  · simp only [Act.put, List.setIfInBounds_toArray, List.set_cons_zero, List.set_cons_succ]
    rfl
  refine pure_ (i := 6) (N := some 37) (v := ?_) (a' := ?_) #[true, true, true, true, false, true, true, false, false, false, false, false, false, false, false] rfl rfl (by kernel_rfl) (fun _ _ _ h => h) (Or.inl ⟨by rfl, ?_⟩) ?_ ?_
  rotate_left
  · intro w'
    go_simp
    with_reducible rfl
  rotate_left
  · simp only [Act.put, List.setIfInBounds_toArray, List.set_cons_zero, List.set_cons_succ]
    rfl
  refine pure_ (i := 7) (N := some 38) (v := ?_) (a' := ?_) #[true, true, true, true, false, true, true, true, false, false, false, false, false, false, false] rfl rfl (by kernel_rfl) (fun _ _ _ h => h) (Or.inl ⟨by rfl, ?_⟩) ?_ ?_
  rotate_left
  · intro w'
    go_simp
    with_reducible rfl
  rotate_left
  · simp only [Act.put, List.setIfInBounds_toArray, List.set_cons_zero, List.set_cons_succ]
    rfl
  refine pure_ (i := 9) (N := some 40) (v := ?_) (a' := ?_) #[true, true, true, true, false, true, true, true, false, true, false, false, false, false, false] rfl rfl (by kernel_rfl) (fun _ _ _ h => h) (Or.inl ⟨by rfl, ?_⟩) ?_ ?_
  rotate_left
  · intro w'
    go_simp
    with_reducible rfl
  rotate_left
  · simp only [Act.put, List.setIfInBounds_toArray, List.set_cons_zero, List.set_cons_succ]
    rfl
  refine pure_ (i := 10) (N := some 41) (v := ?_) (a' := ?_) #[true, true, true, true, false, true, true, true, false, true, true, false, false, false, false] rfl rfl (by kernel_rfl) (fun _ _ _ h => h) (Or.inl ⟨by rfl, ?_⟩) ?_ ?_
  rotate_left
  · intro w'
    go_simp
    with_reducible rfl
  rotate_left
  · simp only [Act.put, List.setIfInBounds_toArray, List.set_cons_zero, List.set_cons_succ]
    rfl
  refine pure_ (i := 11) (N := some 42) (v := ?_) (a' := ?_) #[true, true, true, true, false, true, true, true, false, true, true, true, false, false, false] rfl rfl (by kernel_rfl) (fun _ _ _ h => h) (Or.inl ⟨by rfl, ?_⟩) ?_ ?_
  rotate_left
  · intro w'
    go_simp
    with_reducible rfl
  rotate_left
  · simp only [Act.put, List.setIfInBounds_toArray, List.set_cons_zero, List.set_cons_succ]
    rfl
  refine take_ (i := 4) (N := some 35) (v := ?_) (a' := ?_) #[true, true, true, true, true, true, true, true, false, true, true, true, false, false, false] rfl rfl (by kernel_rfl) (fun _ _ _ h => h) (Or.inl ⟨by rfl, ?_⟩) hHeld ?_ ?_
  rotate_left
  · rintro w' ⟨s0, s1, s2⟩
    go_simp
    with_reducible rfl
  rotate_left
  · simp only [Act.put, List.setIfInBounds_toArray, List.set_cons_zero, List.set_cons_succ]
    rfl
  refine take_ (i := 8) (N := some 39) (v := ?_) (a' := ?_) #[true, true, true, true, true, true, true, true, true, true, true, true, false, false, false] rfl rfl (by kernel_rfl) (fun _ _ _ h => h) (Or.inl ⟨by rfl, ?_⟩) hHeld ?_ ?_
  rotate_left
  · rintro w' ⟨s0, s1, s2⟩
    go_simp
    with_reducible rfl
  rotate_left
  · simp only [Act.put, List.setIfInBounds_toArray, List.set_cons_zero, List.set_cons_succ]
    rfl
  refine take_ (i := 12) (N := some 43) (v := ?_) (a' := ?_) #[true, true, true, true, true, true, true, true, true, true, true, true, true, false, false] rfl rfl (by kernel_rfl) (fun _ _ _ h => h) (Or.inl ⟨by rfl, ?_⟩) hHeld ?_ ?_
  rotate_left
  · rintro w' ⟨s0, s1, s2⟩
    go_simp
    with_reducible rfl
  rotate_left
  · simp only [Act.put, List.setIfInBounds_toArray, List.set_cons_zero, List.set_cons_succ]
    rfl
  refine one_ (i := 13) (N := some 44) #[true, true, true, true, true, true, true, true, true, true, true, true, true, true, false] rfl rfl (by kernel_rfl) (by decide) (fun K hK => ?_)
  refine goes_ Tryz.func26 (by kernel_rfl) rfl #[.int .i64 c.n, .int .i64 id_, .int .i64 ticks] (by rfl) rfl rfl (by simp only [List.map_toArray, List.map_cons, List.map_nil]; rfl) ?_
  with_reducible refine ((HPP.out _)).mono ?_
  rintro e w5 ⟨rfl, hw5⟩
  refine ⟨_, rfl, ?_⟩
  have HB5 : Hid (Blk w5 p.n 75 (ndc c id_ p.st p.rg p.v p.bg p.qg p.op ticks sent out)) := Lib.hid (hw5 ▸ HN4.out.nd.blk.drew)
  have HW5 := Lib.hid hw5
  clear hw5
  refine hK.out _ _ ⟨(HB5.out.cell 0), (HB5.out.cell 9), (HB5.out.cell 16)⟩ (fun hHeld => ?_)
  clear hK K
  refine norm_ (a' := ?_) ?_ ?_
  rotate_left
  · show Act.put _ (some 44) _ = _
    simp only [Act.put, List.setIfInBounds_toArray, List.set_cons_zero, List.set_cons_succ]
    rfl
  refine pure_ (i := 14) (N := some 3) (v := ?_) (a' := ?_) #[true, true, true, true, true, true, true, true, true, true, true, true, true, true, true] rfl rfl (by kernel_rfl) (fun _ _ _ h => h) (Or.inl ⟨by rfl, ?_⟩) ?_ ?_
  rotate_left
  · intro w'
    go_simp
    with_reducible rfl
  rotate_left
  · simp only [Act.put, List.setIfInBounds_toArray, List.set_cons_zero, List.set_cons_succ]
    rfl
  refine done_ (by kernel_rfl) ?_
  go_wp2_with fail
  refine start_ (n := 11) (S := fun w' => w'.cell? ⟨p.n, 0, none⟩ = some (.int .i64 c.n) ∧ w'.cell? ⟨p.n, 9, none⟩ = some (.int .i64 id_) ∧ w'.cell? ⟨p.n, 16, none⟩ = some (.int .i64 ticks)) (ds := []) #[false, false, false, false, false, false, false, false, false, false, false] (by kernel_rfl) rfl rfl ⟨(HB5.out.drew.cell 0), (HB5.out.drew.cell 9), (HB5.out.drew.cell 16)⟩ (fun hHeld => ?_)
  refine pure_ (i := 0) (N := some 47) (v := ?_) (a' := ?_) #[true, false, false, false, false, false, false, false, false, false, false] rfl rfl (by kernel_rfl) (fun _ _ _ h => h) (Or.inl ⟨by rfl, ?_⟩) ?_ ?_
  rotate_left
  · intro w'
    go_simp
    with_reducible rfl
  rotate_left
  · simp only [Act.put, List.setIfInBounds_toArray, List.set_cons_zero, List.set_cons_succ]
    rfl
  refine pure_ (i := 1) (N := some 48) (v := ?_) (a' := ?_) #[true, true, false, false, false, false, false, false, false, false, false] rfl rfl (by kernel_rfl) (fun _ _ _ h => h) (Or.inl ⟨by rfl, ?_⟩) ?_ ?_
  rotate_left
  · intro w'
    go_simp
    with_reducible rfl
  rotate_left
  · simp only [Act.put, List.setIfInBounds_toArray, List.set_cons_zero, List.set_cons_succ]
    rfl
  refine pure_ (i := 2) (N := some 49) (v := ?_) (a' := ?_) #[true, true, true, false, false, false, false, false, false, false, false] rfl rfl (by kernel_rfl) (fun _ _ _ h => h) (Or.inl ⟨by rfl, ?_⟩) ?_ ?_
  rotate_left
  · intro w'
    go_simp
    with_reducible rfl
  rotate_left
  · simp only [Act.put, List.setIfInBounds_toArray, List.set_cons_zero, List.set_cons_succ]
    rfl
  refine pure_ (i := 3) (N := some 50) (v := ?_) (a' := ?_) #[true, true, true, true, false, false, false, false, false, false, false] rfl rfl (by kernel_rfl) (fun _ _ _ h => h) (Or.inl ⟨by rfl, ?_⟩) ?_ ?_
  rotate_left
  · intro w'
    go_simp
    with_reducible rfl
  rotate_left
  · simp only [Act.put, List.setIfInBounds_toArray, List.set_cons_zero, List.set_cons_succ]
    rfl
  refine pure_ (i := 5) (N := some 52) (v := ?_) (a' := ?_) #[true, true, true, true, false, true, false, false, false, false, false] rfl rfl (by kernel_rfl) (fun _ _ _ h => h) (Or.inl ⟨by rfl, ?_⟩) ?_ ?_
  rotate_left
  · intro w'
    go_simp
    with_reducible rfl
  rotate_left
  · simp only [Act.put, List.setIfInBounds_toArray, List.set_cons_zero, List.set_cons_succ]
    rfl
  refine pure_ (i := 6) (N := some 53) (v := ?_) (a' := ?_) #[true, true, true, true, false, true, true, false, false, false, false] rfl rfl (by kernel_rfl) (fun _ _ _ h => h) (Or.inl ⟨by rfl, ?_⟩) ?_ ?_
  rotate_left
  · intro w'
    go_simp
    with_reducible rfl
  rotate_left
  · simp only [Act.put, List.setIfInBounds_toArray, List.set_cons_zero, List.set_cons_succ]
    rfl
  refine pure_ (i := 7) (N := some 54) (v := ?_) (a' := ?_) #[true, true, true, true, false, true, true, true, false, false, false] rfl rfl (by kernel_rfl) (fun _ _ _ h => h) (Or.inl ⟨by rfl, ?_⟩) ?_ ?_
  rotate_left
  · intro w'
    go_simp
    with_reducible rfl
  rotate_left
  · simp only [Act.put, List.setIfInBounds_toArray, List.set_cons_zero, List.set_cons_succ]
    rfl
  refine take_ (i := 4) (N := some 51) (v := ?_) (a' := ?_) #[true, true, true, true, true, true, true, true, false, false, false] rfl rfl (by kernel_rfl) (fun _ _ _ h => h) (Or.inl ⟨by rfl, ?_⟩) hHeld ?_ ?_
  rotate_left
  · rintro w' ⟨s0, s1, s2⟩
    go_simp
    with_reducible rfl
  rotate_left
  · simp only [Act.put, List.setIfInBounds_toArray, List.set_cons_zero, List.set_cons_succ]
    rfl
  refine take_ (i := 8) (N := some 55) (v := ?_) (a' := ?_) #[true, true, true, true, true, true, true, true, true, false, false] rfl rfl (by kernel_rfl) (fun _ _ _ h => h) (Or.inl ⟨by rfl, ?_⟩) hHeld ?_ ?_
  rotate_left
  · rintro w' ⟨s0, s1, s2⟩
    go_simp
    with_reducible rfl
  rotate_left
  · simp only [Act.put, List.setIfInBounds_toArray, List.set_cons_zero, List.set_cons_succ]
    rfl
  refine one_ (i := 9) (N := some 56) #[true, true, true, true, true, true, true, true, true, true, false] rfl rfl (by kernel_rfl) (by decide) (fun K hK => ?_)
  refine goes_ Tryz.func27 (by kernel_rfl) rfl #[.int .i64 c.n, .int .i64 ticks] (by rfl) rfl rfl (by simp only [List.map_toArray, List.map_cons, List.map_nil]; rfl) ?_
  with_reducible refine ((HPB.out _)).mono ?_
  rintro e w6 ⟨rfl, hw6⟩
  refine ⟨_, rfl, ?_⟩
  have HB6 : Hid (Blk w6 p.n 75 (ndc c id_ p.st p.rg p.v p.bg p.qg p.op ticks sent out)) := Lib.hid (hw6 ▸ HB5.out.drew)
  have HW6 := Lib.hid hw6
  clear hw6
  refine hK.out _ _ ⟨(HB6.out.cell 0), (HB6.out.cell 9), (HB6.out.cell 16)⟩ (fun hHeld => ?_)
  clear hK K
  refine norm_ (a' := ?_) ?_ ?_
  rotate_left
  · show Act.put _ (some 56) _ = _
    simp only [Act.put, List.setIfInBounds_toArray, List.set_cons_zero, List.set_cons_succ]
    rfl
  refine pure_ (i := 10) (N := some 2) (v := ?_) (a' := ?_) #[true, true, true, true, true, true, true, true, true, true, true] rfl rfl (by kernel_rfl) (fun _ _ _ h => h) (Or.inl ⟨by rfl, ?_⟩) ?_ ?_
  rotate_left
  · intro w'
    go_simp
    with_reducible rfl
  rotate_left
  · simp only [Act.put, List.setIfInBounds_toArray, List.set_cons_zero, List.set_cons_succ]
    rfl
  refine done_ (by kernel_rfl) ?_
  have hC6 : Chg NoB w4 w6 := by
    rw [HW6.out, HW5.out]
    exact (Chg.dr w4).trans (Chg.dr _)
  have HN6 := Lib.hid (HN4.out.st hC6)
  have HC6 : Hid (Chg (Nf p) w w6) := Lib.hid (HC4.out.trans hC6.of_no)
  clear hC6
  go_wp2_with fail
  refine (ntell_any HN6.out (by have := HKN.out; omega) HM.out.2 (buckI m ticks) HNE.out (by have := HQ.out; simp; omega) HQ.out.2).mono ?_
  rintro e w7 ⟨rfl, ⟨y1, y2, s7, l, hll, hN⟩, hC⟩
  have HN7 := Lib.hid hN
  have HLL := Lib.hid hll
  have HC7 : Hid (Chg (Nf p) w w7) := Lib.hid (HC6.out.trans hC)
  clear hN hll hC
  go_wp2_with fail
  refine (replay_none HN7.out.nd.blk HN7.out.nd.se).mono ?_
  rintro e w8 ⟨rfl, hC⟩
  have HN8 := Lib.hid (HN7.out.st hC)
  have HC8 : Hid (Chg (Nf p) w w8) := Lib.hid (HC7.out.trans hC.of_no)
  clear hC
  go_wp2_with fail
  refine (reap_none HN8.out.nd.blk HN8.out.nd.se _).mono ?_
  rintro e w9 ⟨rfl, hC⟩
  have HN9 := Lib.hid (HN8.out.st hC)
  have HC9 : Hid (Chg (Nf p) w w9) := Lib.hid (HC8.out.trans hC.of_no)
  have n16 := HN9.out.nd.blk.cell 16
  have f16 := HN9.out.nd.blk.frozen 16
  clear hC
  go_wp2_with fail
  have hwr : wrap64 (ticks + 1) = ticks + 1 := by have := HT.out; unfold wrap64; omega
  rw [hwr]
  have HNa : Hid (NS (w9.setCell ⟨p.n, 16, none⟩ (.int .i64 (ticks + 1))) p c id_ m (ticks + 1) sent (mn c.burst (now + c.rate)) taken [(y1, w3 3), (y2, w3 0)] [pingM id_ k l, digM id_ k (buckI m ticks)] s7 out [] []) :=
    Lib.hid (HN9.out.nums (ticks' := ticks + 1) (sent' := sent) ((Chg.refl (Only p.n) w9).setOwn 16 _) (HN9.out.nd.blk.set_ 16 (.int .i64 (ticks + 1))))
  have HCa : Hid (Chg (Nf p) w (w9.setCell ⟨p.n, 16, none⟩ (.int .i64 (ticks + 1)))) := Lib.hid (HC9.out.trans (HN9.out.nd.footN ((Chg.refl (Only p.n) w9).setOwn 16 _)))
  refine (npump_two HNa.out (by decide) (by have := HR.out; have := HW.out; unfold mn; split <;> omega) HK.out HS.out ⟨HNE.out, rfl⟩ ⟨HNE.out, rfl⟩).mono ?_
  rintro e w10 ⟨rfl, ⟨s10, out10, hN⟩, hC⟩
  have HNb := Lib.hid hN
  have HCb : Hid (Chg (Nf p) w w10) := Lib.hid (HCa.out.trans hC)
  clear hN hC
  go_wp2_with fail
  go_end0
  exact ⟨rfl, ⟨_, y1, y2, s10, out10, l, by have := HR.out; have := HW.out; unfold mn; split <;> omega, HLL.out, HNb.out⟩, HCb.out⟩
end
end Go.Proofs.YtoefffjhjmjhfaaGreat
namespace Go.Proofs.YtoefffjhjmjhfaaGreat
open Go.RowKit Go.Proofs.YtoefffjhjmjhfaaGreatW.PrintLast
attribute [local go_sem] max2_mx min2_mn max_two_ min_two_
set_option maxRecDepth 100000

theorem parts_ping (w : World) : Calls Tryz.prog 132 #[.int .i64 8] w fun e w' => e = .returned (.int .i64 64) ∧ w' = w := by
  go_enter Tryz.func132, Tryz.ntmps132
  go_wp2
  go_ret
  exact ⟨rfl, rfl⟩
theorem parts_dig (w : World) : Calls Tryz.prog 132 #[.int .i64 6] w fun e w' => e = .returned (.int .i64 40) ∧ w' = w := by
  go_enter Tryz.func132, Tryz.ntmps132
  go_wp2
  go_ret
  exact ⟨rfl, rfl⟩
set_option maxHeartbeats 1000000 in
theorem plain_ping (me k : Int) (l : List (Int × Int)) (p1 p2 p3 : Option Addr) (n1 n2 n3 k1 k2 k3 : Nat) (w : World) :
    Calls Tryz.prog 72 #[msv (mgx (pingM me k l) (.slice p1 n1 k1) (.slice p2 n2 k2) (.slice p3 n3 k3))] w fun e w' => e = .returned (msv (mgx (pingM me k l) (.slice none 0 0) (.slice none 0 0) (.slice p3 n3 k3))) ∧ Chg NoB w w' := by
  go_enter Tryz.func72, Tryz.ntmps72
  go_wp2_with fail
  refine (parts_ping _).mono ?_
  rintro e w1 ⟨rfl, rfl⟩
  go_wp2_with fail
  exact back_ms rfl (mgx (pingM me k l) (.slice none 0 0) (.slice none 0 0) (.slice p3 n3 k3)) rfl ((Blk.new_ (k := w.heap.size + 1) (w.alloc _) 40 (mc (mgx (pingM me k l) (.slice none 0 0) (.slice none 0 0) (.slice p3 n3 k3))) (by simp)).alloc _) rfl ⟨rfl, ((Chg.al w _).alloc _).alloc _⟩
set_option maxHeartbeats 1000000 in
theorem plain_dig (me k b : Int) (p1 p2 p3 : Option Addr) (n1 n2 n3 k1 k2 k3 : Nat) (w : World) :
    Calls Tryz.prog 72 #[msv (mgx (digM me k b) (.slice p1 n1 k1) (.slice p2 n2 k2) (.slice p3 n3 k3))] w fun e w' => e = .returned (msv (mgx (digM me k b) (.slice none 0 0) (.slice p2 n2 k2) (.slice none 0 0))) ∧ Chg NoB w w' := by
  go_enter Tryz.func72, Tryz.ntmps72
  go_wp2_with fail
  refine (parts_dig _).mono ?_
  rintro e w1 ⟨rfl, rfl⟩
  go_wp2_with fail
  exact back_ms rfl (mgx (digM me k b) (.slice none 0 0) (.slice p2 n2 k2) (.slice none 0 0)) rfl ((Blk.new_ (k := w.heap.size + 1) (w.alloc _) 40 (mc (mgx (digM me k b) (.slice none 0 0) (.slice p2 n2 k2) (.slice none 0 0))) (by simp)).alloc _) rfl ⟨rfl, ((Chg.al w _).alloc _).alloc _⟩
set_option maxHeartbeats 2000000 in
theorem Plain_ping (me k : Int) (l : List (Int × Int)) {w : World} {A : Nat → Prop} {x : Ms} (hx : MR w A (pingM me k l) x) (hl : l.length ≤ 8) :
    Calls Tryz.prog 32 #[msv x] w fun e w' => (∃ y, e = .returned (msv y) ∧ MR w' (New w) (pingM me k l) y) ∧ Chg NoB w w' := by
  obtain ⟨e0, d0, s0, rfl, he, hd, hs⟩ := hx
  obtain ⟨p1, k1, rfl, _⟩ := ens_form he
  obtain ⟨p2, k2, rfl, h2⟩ := dgs_form hd
  obtain ⟨p3, k3, rfl, _⟩ := prs_form hs
  have HX : Hid (Rd w (fun k => k < w.heap.size) (prsD (pingM me k l).ms) (.slice p3 (pingM me k l).ms.length k3)) := Lib.hid (hs.mono fun _ _ hk => hk)
  have HL := Lib.hid hl
  clear hl
  clear he hd hs
  dsimp only [List.length_nil]
  go_enter Tryz.func32, Tryz.ntmps32
  go_upto_region 1 with fail
  have B1 := (Blk.new w 40 (mc (mgx (pingM me k l) (.slice p1 0 k1) (.slice p2 0 k2) (.slice p3 l.length k3)))).alloc (.cells (mc msz) 40)
  have B2 := Blk.new_ (k := w.heap.size + 1) (w.alloc (.cells (mc (mgx (pingM me k l) (.slice p1 0 k1) (.slice p2 0 k2) (.slice p3 l.length k3))) 40)) 40 (mc msz) (by simp)
  have hC := (Chg.al w (.cells (mc (mgx (pingM me k l) (.slice p1 0 k1) (.slice p2 0 k2) (.slice p3 l.length k3))) 40)).alloc (.cells (mc msz) 40)
  have hz : ((w.alloc (.cells (mc (mgx (pingM me k l) (.slice p1 0 k1) (.slice p2 0 k2) (.slice p3 l.length k3))) 40)).alloc (.cells (mc msz) 40)).heap.size = w.heap.size + 2 := by simp
  generalize (w.alloc (Obj.cells _ 40)).alloc (Obj.cells _ 40) = W at *
  obtain ⟨c0, c1, c2, c3, c4, c5, c6, c7, c8, c9⟩ := cells10 B1
  have HX1 := Lib.hid (HX.out.st hC)
  go_wp2_with fail
  refine (plain_ping me k l p1 p2 p3 0 0 l.length k1 k2 k3 W).mono ?_
  rintro e w1 ⟨rfl, hC1⟩
  have hz1 := hC1.size
  replace B1 := B1.st hC1
  replace B2 := B2.st hC1
  replace hC := hC.trans hC1
  have HX2 := Lib.hid (HX1.out.st hC1)
  clear c0 c1 c2 c3 c4 c5 c6 c7 c8 c9 hC1
  obtain ⟨c0, c1, c2, c3, c4, c5, c6, c7, c8, c9⟩ := cells10 B1
  obtain ⟨g0, g1, g2, g3, g4, g5, g6, g7, g8, g9⟩ := frz10 B1
  go_upto_block 0 with fail
  have B1' : Blk _ w.heap.size 40 (mc (mgx (pingM me k l) (.slice none 0 0) (.slice none 0 0) (.slice p3 l.length k3))) := set10 B1 (.int .i64 8) (.int .i64 me) (.int .i64 k) (.int .i64 0) (.int .i64 0) (.string ByteArray.empty) (.int .i64 0) (.slice none 0 0) (.slice none 0 0) (.slice p3 l.length k3)
  have B2' := far10 B2 (b := w.heap.size) (by omega) (.int .i64 8) (.int .i64 me) (.int .i64 k) (.int .i64 0) (.int .i64 0) (.string ByteArray.empty) (.int .i64 0) (.slice none 0 0) (.slice none 0 0) (.slice p3 l.length k3)
  have hC' := chg10 (b := w.heap.size) hC (Nat.le_refl _) (.int .i64 8) (.int .i64 me) (.int .i64 k) (.int .i64 0) (.int .i64 0) (.string ByteArray.empty) (.int .i64 0) (.slice none 0 0) (.slice none 0 0) (.slice p3 l.length k3)
  have HX3 := Lib.hid (rd10 HX2.out (b := w.heap.size) (Nat.lt_irrefl _) (.int .i64 8) (.int .i64 me) (.int .i64 k) (.int .i64 0) (.int .i64 0) (.string ByteArray.empty) (.int .i64 0) (.slice none 0 0) (.slice none 0 0) (.slice p3 l.length k3))
  have HC' := Lib.hid hC'
  have hz' : w.heap.size + 2 ≤ (((((((((((w1.setCell ⟨w.heap.size, 0, none⟩ (.int .i64 8)).setCell ⟨w.heap.size, 1, none⟩ (.int .i64 me)).setCell ⟨w.heap.size, 2, none⟩ (.int .i64 k)).setCell ⟨w.heap.size, 3, none⟩ (.int .i64 0)).setCell ⟨w.heap.size, 4, none⟩ (.int .i64 0)).setCell ⟨w.heap.size, 5, none⟩ (.string ByteArray.empty)).setCell ⟨w.heap.size, 6, none⟩ (.int .i64 0)).setCell ⟨w.heap.size, 7, none⟩ (.slice none 0 0)).setCell ⟨w.heap.size, 8, none⟩ (.slice none 0 0)).setCell ⟨w.heap.size, 9, none⟩ (.slice p3 l.length k3))).heap.size := by have := hC'.size; simp; omega
  clear B1 B2 hC hC' HX2 HX1 c0 c1 c2 c3 c4 c5 c6 c7 c8 c9 g0 g1 g2 g3 g4 g5 g6 g7 g8 g9
  generalize hW2 : ((((((((((w1.setCell ⟨w.heap.size, 0, none⟩ (.int .i64 8)).setCell ⟨w.heap.size, 1, none⟩ (.int .i64 me)).setCell ⟨w.heap.size, 2, none⟩ (.int .i64 k)).setCell ⟨w.heap.size, 3, none⟩ (.int .i64 0)).setCell ⟨w.heap.size, 4, none⟩ (.int .i64 0)).setCell ⟨w.heap.size, 5, none⟩ (.string ByteArray.empty)).setCell ⟨w.heap.size, 6, none⟩ (.int .i64 0)).setCell ⟨w.heap.size, 7, none⟩ (.slice none 0 0)).setCell ⟨w.heap.size, 8, none⟩ (.slice none 0 0)).setCell ⟨w.heap.size, 9, none⟩ (.slice p3 l.length k3)) = W2 at *
  clear hW2
  go_wp2_with fail
  go_loopw [3, 14] (fun l i wr => l = .slice none 0 0 ∧ i = .int .i64 0 ∧ wr = W2) (fun _ _ _ => 0)
  case atStart => exact ⟨rfl, rfl, rfl⟩
  case round =>
    obtain ⟨rfl, rfl, rfl⟩ := hrel
    obtain ⟨wo, rfl⟩ : ∃ wo : World, wo = wr := ⟨_, rfl⟩
    obtain ⟨c0, c1, c2, c3, c4, c5, c6, c7, c8, c9⟩ := cells10 B1'
    go_wp2_with fail
    go_loopw [6, 27] (fun l i wr => l = .slice none 0 0 ∧ i = .int .i64 0 ∧ wr = wo) (fun _ _ _ => 0)
    case atStart => exact ⟨rfl, rfl, rfl⟩
    case round =>
      obtain ⟨rfl, rfl, rfl⟩ := hrel
      go_wp2_with fail
      refine (clonePm (l := (pingM me k l).ms) HX3.out (by have := HL.out; show l.length ≤ 8796093021952; omega)).mono ?_
      rintro e w4 ⟨⟨d2, rfl, hR9⟩, hC4⟩
      obtain ⟨p9, cp9, rfl, _⟩ := prs_form hR9
      have B1 := B1'.st hC4
      have B2 := B2'.st hC4
      have hC := HC'.out.trans hC4
      obtain ⟨f0, f1, f2, f3, f4, f5, f6, f7, f8, f9⟩ := cells10 B1
      obtain ⟨g0, g1, g2, g3, g4, g5, g6, g7, g8, g9⟩ := frz10 B1
      have hb : w.heap.size + 1 ≠ w.heap.size := by omega
      have B3 := ((B2.far (p := ⟨w.heap.size, 7, none⟩) hb (.slice none 0 0)).far (p := ⟨w.heap.size, 8, none⟩) hb (.slice none 0 0)).far (p := ⟨w.heap.size, 9, none⟩) hb (.slice p9 l.length cp9)
      obtain ⟨x0, x1, x2, x3, x4, x5, x6, x7, x8, x9⟩ := cells10 B3
      obtain ⟨y0, y1, y2, y3, y4, y5, y6, y7, y8, y9⟩ := frz10 B3
      clear B2 c0 c1 c2 c3 c4 c5 c6 c7 c8 c9 B1' B2'
      go_wp2_with fail
      have hw1 : ¬ wr.heap.size ≤ w.heap.size := by omega
      have hw2 : ¬ wr.heap.size ≤ w.heap.size + 1 := by omega
      have n9 := rd10 (((hR9.sc (b := w.heap.size) (i := 7) hw1 (.slice none 0 0)).sc (b := w.heap.size) (i := 8) hw1 (.slice none 0 0)).sc (b := w.heap.size) (i := 9) hw1 (.slice p9 l.length cp9)) (b := w.heap.size + 1) hw2 (.int .i64 8) (.int .i64 me) (.int .i64 k) (.int .i64 0) (.int .i64 0) (.string ByteArray.empty) (.int .i64 0) (.slice none 0 0) (.slice none 0 0) (.slice p9 l.length cp9)
      exact back_ms rfl (mgx (pingM me k l) (.slice none 0 0) (.slice none 0 0) (.slice p9 l.length cp9)) rfl (ten_set (x := msz) B3 _ _ _ _ _ _ _ _ _ _) rfl
        ⟨⟨_, rfl, ⟨_, _, _, rfl, .nil 10, .nil 10, n9.mono fun k hk _ => by (have h1 : wr.heap.size ≤ k := hk; show w.heap.size ≤ k; omega)⟩⟩,
          chg10 (((hC.sc (i := 7) (Nat.le_refl _) _).sc (i := 8) (Nat.le_refl _) _).sc (i := 9) (Nat.le_refl _) _) (by omega) _ _ _ _ _ _ _ _ _ _⟩
set_option maxHeartbeats 2000000 in
theorem Plain_dig (me k b : Int) {w : World} {A : Nat → Prop} {x : Ms} (hx : MR w A (digM me k b) x) :
    Calls Tryz.prog 32 #[msv x] w fun e w' => (∃ y, e = .returned (msv y) ∧ MR w' (New w) (digM me k b) y) ∧ Chg NoB w w' := by
  obtain ⟨e0, d0, s0, rfl, he, hd, hs⟩ := hx
  obtain ⟨p1, k1, rfl, _⟩ := ens_form he
  obtain ⟨p2, k2, rfl, h2⟩ := dgs_form hd
  obtain ⟨p3, k3, rfl, _⟩ := prs_form hs
  have HX : Hid (Rd w (fun k => k < w.heap.size) (prsD (digM me k b).ms) (.slice p3 (digM me k b).ms.length k3)) := Lib.hid (hs.mono fun _ _ hk => hk)
  skip
  clear he hd hs
  dsimp only [List.length_nil]
  go_enter Tryz.func32, Tryz.ntmps32
  go_upto_region 1 with fail
  have B1 := (Blk.new w 40 (mc (mgx (digM me k b) (.slice p1 0 k1) (.slice p2 0 k2) (.slice p3 0 k3)))).alloc (.cells (mc msz) 40)
  have B2 := Blk.new_ (k := w.heap.size + 1) (w.alloc (.cells (mc (mgx (digM me k b) (.slice p1 0 k1) (.slice p2 0 k2) (.slice p3 0 k3))) 40)) 40 (mc msz) (by simp)
  have hC := (Chg.al w (.cells (mc (mgx (digM me k b) (.slice p1 0 k1) (.slice p2 0 k2) (.slice p3 0 k3))) 40)).alloc (.cells (mc msz) 40)
  have hz : ((w.alloc (.cells (mc (mgx (digM me k b) (.slice p1 0 k1) (.slice p2 0 k2) (.slice p3 0 k3))) 40)).alloc (.cells (mc msz) 40)).heap.size = w.heap.size + 2 := by simp
  generalize (w.alloc (Obj.cells _ 40)).alloc (Obj.cells _ 40) = W at *
  obtain ⟨c0, c1, c2, c3, c4, c5, c6, c7, c8, c9⟩ := cells10 B1
  have HX1 := Lib.hid (HX.out.st hC)
  go_wp2_with fail
  refine (plain_dig me k b p1 p2 p3 0 0 0 k1 k2 k3 W).mono ?_
  rintro e w1 ⟨rfl, hC1⟩
  have hz1 := hC1.size
  replace B1 := B1.st hC1
  replace B2 := B2.st hC1
  replace hC := hC.trans hC1
  have HX2 := Lib.hid (HX1.out.st hC1)
  clear c0 c1 c2 c3 c4 c5 c6 c7 c8 c9 hC1
  obtain ⟨c0, c1, c2, c3, c4, c5, c6, c7, c8, c9⟩ := cells10 B1
  obtain ⟨g0, g1, g2, g3, g4, g5, g6, g7, g8, g9⟩ := frz10 B1
  go_upto_block 0 with fail
  have B1' : Blk _ w.heap.size 40 (mc (mgx (digM me k b) (.slice none 0 0) (.slice p2 0 k2) (.slice none 0 0))) := set10 B1 (.int .i64 6) (.int .i64 me) (.int .i64 k) (.int .i64 0) (.int .i64 0) (.string ByteArray.empty) (.int .i64 b) (.slice none 0 0) (.slice p2 0 k2) (.slice none 0 0)
  have B2' := far10 B2 (b := w.heap.size) (by omega) (.int .i64 6) (.int .i64 me) (.int .i64 k) (.int .i64 0) (.int .i64 0) (.string ByteArray.empty) (.int .i64 b) (.slice none 0 0) (.slice p2 0 k2) (.slice none 0 0)
  have hC' := chg10 (b := w.heap.size) hC (Nat.le_refl _) (.int .i64 6) (.int .i64 me) (.int .i64 k) (.int .i64 0) (.int .i64 0) (.string ByteArray.empty) (.int .i64 b) (.slice none 0 0) (.slice p2 0 k2) (.slice none 0 0)
  have HX3 := Lib.hid (rd10 HX2.out (b := w.heap.size) (Nat.lt_irrefl _) (.int .i64 6) (.int .i64 me) (.int .i64 k) (.int .i64 0) (.int .i64 0) (.string ByteArray.empty) (.int .i64 b) (.slice none 0 0) (.slice p2 0 k2) (.slice none 0 0))
  have HC' := Lib.hid hC'
  have hz' : w.heap.size + 2 ≤ (((((((((((w1.setCell ⟨w.heap.size, 0, none⟩ (.int .i64 6)).setCell ⟨w.heap.size, 1, none⟩ (.int .i64 me)).setCell ⟨w.heap.size, 2, none⟩ (.int .i64 k)).setCell ⟨w.heap.size, 3, none⟩ (.int .i64 0)).setCell ⟨w.heap.size, 4, none⟩ (.int .i64 0)).setCell ⟨w.heap.size, 5, none⟩ (.string ByteArray.empty)).setCell ⟨w.heap.size, 6, none⟩ (.int .i64 b)).setCell ⟨w.heap.size, 7, none⟩ (.slice none 0 0)).setCell ⟨w.heap.size, 8, none⟩ (.slice p2 0 k2)).setCell ⟨w.heap.size, 9, none⟩ (.slice none 0 0))).heap.size := by have := hC'.size; simp; omega
  clear B1 B2 hC hC' HX2 HX1 c0 c1 c2 c3 c4 c5 c6 c7 c8 c9 g0 g1 g2 g3 g4 g5 g6 g7 g8 g9
  generalize hW2 : ((((((((((w1.setCell ⟨w.heap.size, 0, none⟩ (.int .i64 6)).setCell ⟨w.heap.size, 1, none⟩ (.int .i64 me)).setCell ⟨w.heap.size, 2, none⟩ (.int .i64 k)).setCell ⟨w.heap.size, 3, none⟩ (.int .i64 0)).setCell ⟨w.heap.size, 4, none⟩ (.int .i64 0)).setCell ⟨w.heap.size, 5, none⟩ (.string ByteArray.empty)).setCell ⟨w.heap.size, 6, none⟩ (.int .i64 b)).setCell ⟨w.heap.size, 7, none⟩ (.slice none 0 0)).setCell ⟨w.heap.size, 8, none⟩ (.slice p2 0 k2)).setCell ⟨w.heap.size, 9, none⟩ (.slice none 0 0)) = W2 at *
  clear hW2
  go_wp2_with fail
  go_loopw [3, 14] (fun l i wr => l = .slice none 0 0 ∧ i = .int .i64 0 ∧ wr = W2) (fun _ _ _ => 0)
  case atStart => exact ⟨rfl, rfl, rfl⟩
  case round =>
    obtain ⟨rfl, rfl, rfl⟩ := hrel
    obtain ⟨wo, rfl⟩ : ∃ wo : World, wo = wr := ⟨_, rfl⟩
    obtain ⟨c0, c1, c2, c3, c4, c5, c6, c7, c8, c9⟩ := cells10 B1'
    go_wp2_with fail
    go_loopw [6, 27] (fun l i wr => l = .slice none 0 0 ∧ i = .int .i64 0 ∧ wr = wo) (fun _ _ _ => 0)
    case atStart => exact ⟨rfl, rfl, rfl⟩
    case round =>
      obtain ⟨rfl, rfl, rfl⟩ := hrel
      go_wp2_with fail
      refine (clonePm (l := (digM me k b).ms) (.nil 2 : Rd _ NoB (prsD []) (.slice none 0 0)) (by simp)).mono ?_
      rintro e w4 ⟨⟨d2, rfl, hR9⟩, hC4⟩
      obtain ⟨p9, cp9, rfl, _⟩ := prs_form hR9
      have B1 := B1'.st hC4
      have B2 := B2'.st hC4
      have hC := HC'.out.trans hC4
      obtain ⟨f0, f1, f2, f3, f4, f5, f6, f7, f8, f9⟩ := cells10 B1
      obtain ⟨g0, g1, g2, g3, g4, g5, g6, g7, g8, g9⟩ := frz10 B1
      have hb : w.heap.size + 1 ≠ w.heap.size := by omega
      have B3 := ((B2.far (p := ⟨w.heap.size, 7, none⟩) hb (.slice none 0 0)).far (p := ⟨w.heap.size, 8, none⟩) hb (.slice none 0 0)).far (p := ⟨w.heap.size, 9, none⟩) hb (.slice p9 0 cp9)
      obtain ⟨x0, x1, x2, x3, x4, x5, x6, x7, x8, x9⟩ := cells10 B3
      obtain ⟨y0, y1, y2, y3, y4, y5, y6, y7, y8, y9⟩ := frz10 B3
      clear B2 c0 c1 c2 c3 c4 c5 c6 c7 c8 c9 B1' B2'
      go_wp2_with fail
      have hw1 : ¬ wr.heap.size ≤ w.heap.size := by omega
      have hw2 : ¬ wr.heap.size ≤ w.heap.size + 1 := by omega
      have n9 := rd10 (((hR9.sc (b := w.heap.size) (i := 7) hw1 (.slice none 0 0)).sc (b := w.heap.size) (i := 8) hw1 (.slice none 0 0)).sc (b := w.heap.size) (i := 9) hw1 (.slice p9 0 cp9)) (b := w.heap.size + 1) hw2 (.int .i64 6) (.int .i64 me) (.int .i64 k) (.int .i64 0) (.int .i64 0) (.string ByteArray.empty) (.int .i64 b) (.slice none 0 0) (.slice none 0 0) (.slice p9 0 cp9)
      exact back_ms rfl (mgx (digM me k b) (.slice none 0 0) (.slice none 0 0) (.slice p9 0 cp9)) rfl (ten_set (x := msz) B3 _ _ _ _ _ _ _ _ _ _) rfl
        ⟨⟨_, rfl, ⟨_, _, _, rfl, .nil 10, .nil 10, n9.mono fun k hk _ => by (have h1 : wr.heap.size ≤ k := hk; show w.heap.size ≤ k; omega)⟩⟩,
          chg10 (((hC.sc (i := 7) (Nat.le_refl _) _).sc (i := 8) (Nat.le_refl _) _).sc (i := 9) (Nat.le_refl _) _) (by omega) _ _ _ _ _ _ _ _ _ _⟩
end Go.Proofs.YtoefffjhjmjhfaaGreat
namespace Go.Proofs.YtoefffjhjmjhfaaGreat
open Go.RowKit Go.Proofs.YtoefffjhjmjhfaaGreatW.PrintLast
attribute [local go_sem] max2_mx min2_mn max_two_ min_two_
set_option maxRecDepth 100000

def mgD (m : Mg) : List D := [iD m.k, iD m.f, iD m.t, iD m.op, iD m.fr, .c (.string m.key), iD m.bk, ensD m.es, dgsD m.ds, prsD m.ms]
section
variable {w : World} {A : Nat → Prop}
theorem mg_rds {m : Mg} {e d s : Value} (he : Rd w A (ensD m.es) e) (hd : Rd w A (dgsD m.ds) d) (hs : Rd w A (prsD m.ms) s) : Rds w A (mgD m) (mc (mgx m e d s)).toList :=
  ⟨.c _ rfl, .c _ rfl, .c _ rfl, .c _ rfl, .c _ rfl, .c _ rfl, .c _ rfl, he, hd, hs, trivial⟩
end
section
variable {w : World} {p : Pl} {c : Cg} {id_ : Int} {m : Nat} {ticks sent now taken : Int} {L : List (Ms × Int)} {P : List Mg} {s out : Value} {I : List Ms} {Q : List Mg}
set_option maxHeartbeats 4000000 in
theorem nout_any (h : NS w p c id_ m ticks sent now taken L P s out I Q) (hI : I.length ≤ 1000) (hP : ∀ mg ∈ Q, ∀ (A : Nat → Prop) (w1 : World) (x : Ms), MR w1 A mg x → Calls Tryz.prog 32 #[msv x] w1 fun e w' => (∃ y, e = .returned (msv y) ∧ MR w' (New w1) mg y) ∧ Chg NoB w1 w') :
    Calls Tryz.prog 9 #[.pointer (some ⟨p.n, 0, none⟩)] w fun e w' => (∃ v, e = .returned v ∧ Rd w' (New w) (.s 10 (Q.map mgD)) v) ∧ NS w' p c id_ m ticks sent now taken L P s (.slice none 0 0) [] [] ∧ Chg (Nf p) w w' := by
  have H0 := Lib.hid h
  have HI := Lib.hid hI
  have HP := Lib.hid hP
  have HL := Lib.hid h.i.length
  obtain ⟨op_, oc, rfl, ho1, ho2, ho3⟩ := own_form h.nd.own
  have HO3 := Lib.hid ho3
  have n18 := h.nd.blk.cell 18
  clear h hI hP ho1 ho2 ho3
  go_enter Tryz.func9, Tryz.ntmps9
  go_wp2_with fail
  go_loopw [3, 13] (fun l i wr => ∃ k : Nat, k ≤ I.length ∧ i = .int .i64 k ∧ Hid (OB wr w.heap.size (Fr w.heap.size) 40 10 l ((Q.map mgD).take k)) ∧ Chg NoB w wr) (fun _ i _ => I.length - (intOf i).toNat)
  case atStart => exact ⟨0, Nat.zero_le _, rfl, Lib.hid (OB.nil _ _ _ _ _), Chg.refl _ _⟩
  case round =>
    obtain ⟨k, hk, rfl, HO, hC⟩ := hrel
    have HC := Lib.hid hC
    clear hC
    by_cases hlt : k < I.length
    · obtain ⟨gv, rfl, hg1, hg2, hcell⟩ := HO3.out (by omega)
      have hltq : k < Q.length := by have := HL.out; omega
      obtain ⟨e0, d0, s0, hxe, he, hd, hs⟩ := All2.get H0.out.i hlt hltq
      have HMem := Lib.hid (HP.out Q[k] (List.getElem_mem hltq))
      generalize hgq : Q[k] = mg at *
      have HGq := Lib.hid hgq
      clear hgq
      obtain ⟨p1, k1, rfl, _⟩ := ens_form he
      obtain ⟨p2, k2, rfl, _⟩ := dgs_form hd
      obtain ⟨p3, k3, rfl, _⟩ := prs_form hs
      have hc : ∀ j, j < 10 → wr.cell? ⟨gv, k * 10 + j, none⟩ = (mc (mgx mg (.slice p1 mg.es.length k1) (.slice p2 mg.ds.length k2) (.slice p3 mg.ms.length k3)))[j]? := fun j hj => by
        rw [HC.out.cell (p := ⟨gv, k * 10 + j, none⟩) hg1 id, (hcell _ (by omega)).1, fm_at I hlt hj, hxe]
      have c0_ : wr.cell? ⟨gv, k * 10, none⟩ = some (.int .i64 mg.k) := hc 0 (by decide)
      have c1_ : wr.cell? ⟨gv, k * 10 + 1, none⟩ = some (.int .i64 mg.f) := hc 1 (by decide)
      have c2_ : wr.cell? ⟨gv, k * 10 + 2, none⟩ = some (.int .i64 mg.t) := hc 2 (by decide)
      have c3_ : wr.cell? ⟨gv, k * 10 + 3, none⟩ = some (.int .i64 mg.op) := hc 3 (by decide)
      have c4_ : wr.cell? ⟨gv, k * 10 + 4, none⟩ = some (.int .i64 mg.fr) := hc 4 (by decide)
      have c5_ : wr.cell? ⟨gv, k * 10 + 5, none⟩ = some (.string mg.key) := hc 5 (by decide)
      have c6_ : wr.cell? ⟨gv, k * 10 + 6, none⟩ = some (.int .i64 mg.bk) := hc 6 (by decide)
      have c7_ : wr.cell? ⟨gv, k * 10 + 7, none⟩ = some (.slice p1 mg.es.length k1) := hc 7 (by decide)
      have c8_ : wr.cell? ⟨gv, k * 10 + 8, none⟩ = some (.slice p2 mg.ds.length k2) := hc 8 (by decide)
      have c9_ : wr.cell? ⟨gv, k * 10 + 9, none⟩ = some (.slice p3 mg.ms.length k3) := hc 9 (by decide)
      have hb1 := Nat.lt_of_lt_of_le hg1 HC.out.size
      clear hc hcell
      go_wp2_with fail
      have hCa := Chg.al wr (.cells (mc (mgx mg (.slice p1 mg.es.length k1) (.slice p2 mg.ds.length k2) (.slice p3 mg.ms.length k3))) 40)
      have B3 := Blk.new wr 40 (mc (mgx mg (.slice p1 mg.es.length k1) (.slice p2 mg.ds.length k2) (.slice p3 mg.ms.length k3)))
      have hx4 : MR (wr.alloc (.cells (mc (mgx mg (.slice p1 mg.es.length k1) (.slice p2 mg.ds.length k2) (.slice p3 mg.ms.length k3))) 40)) (Dn p.n s (.slice (some ⟨gv, 0, none⟩) I.length oc)) mg (mgx mg (.slice p1 mg.es.length k1) (.slice p2 mg.ds.length k2) (.slice p3 mg.ms.length k3)) := ⟨_, _, _, rfl, he.st (HC.out.trans hCa), hd.st (HC.out.trans hCa), hs.st (HC.out.trans hCa)⟩
      have HO4 := Lib.hid (HO.out.st hCa)
      have HC4 := Lib.hid (HC.out.trans hCa)
      have HX4 := Lib.hid hx4
      have hz4 : wr.heap.size + 1 = (wr.alloc (.cells (mc (mgx mg (.slice p1 mg.es.length k1) (.slice p2 mg.ds.length k2) (.slice p3 mg.ms.length k3))) 40)).heap.size := by simp
      clear he hd hs hCa hx4 c0_ c1_ c2_ c3_ c4_ c5_ c6_ c7_ c8_ c9_ hb1 hxe
      generalize wr.alloc (Obj.cells _ 40) = W4 at *
      obtain ⟨b0, b1, b2, b3, b4, b5, b6, b7, b8, b9⟩ := cells10 B3
      clear B3
      go_wp2_with fail
      refine (HMem.out _ _ _ HX4.out).mono ?_
      rintro e w5 ⟨⟨y, rfl, hy⟩, hC5⟩
      obtain ⟨e5, d5, s5, rfl, he5, hd5, hs5⟩ := hy
      obtain ⟨q1, l1, rfl, _⟩ := ens_form he5
      obtain ⟨q2, l2, rfl, _⟩ := dgs_form hd5
      obtain ⟨q3, l3, rfl, _⟩ := prs_form hs5
      have HO5 := Lib.hid (HO4.out.st hC5)
      have HC5 := Lib.hid (HC4.out.trans hC5)
      have HR5 : Hid (Rds w5 (fun k => Fr w.heap.size k ∧ u3.ownBlock ≠ some k) (mgD mg) (mc (mgx mg (.slice q1 mg.es.length l1) (.slice q2 mg.ds.length l2) (.slice q3 mg.ms.length l3))).toList) := Lib.hid ((mg_rds he5 hd5 hs5).mono fun k hk _ => ⟨by have h1 : W4.heap.size ≤ k := hk; have h2 := HC4.out.size; show w.heap.size ≤ k; omega, fun ho => by have h1 : W4.heap.size ≤ k := hk; have := (HO4.out.lt k ho).2; omega⟩)
      have hlen : ((Q.map mgD).take k).length = k := by simp; omega
      have HLen := Lib.hid hlen
      have hI := HI.out
      clear hlen he5 hd5 hs5 hC5 b0 b1 b2 b3 b4 b5 b6 b7 b8 b9
      go_wp2_with (at_builtin; refine wpList_push rfl _ _ _ rfl w.heap.size 40 _ 10 136 Tryz.underlying33 Tryz.infMs rfl (by decide) _ _ (Fr w.heap.size) rfl (HO5.out.st (Chg.al _ _)) _ _ _ _ (mgD mg) rfl (Blk.new_ (k := w5.heap.size) w5 40 (mc (mgx mg (.slice q1 mg.es.length l1) (.slice q2 mg.ds.length l2) (.slice q3 mg.ms.length l3))) (by simp)) rfl (HR5.out.st (Chg.al _ _)) rfl (by rw [HLen.out]; omega) (by rw [HLen.out]; unfold maxLen; omega) (HC5.out.trans (Chg.al _ _)).size ?_)
      intro g cap3 w6 hO hC6 hat hlt3
      have hO2 := Lib.hid hO
      have HX6 := (HC5.out.trans (Chg.al _ _)).then_ hC6 (fun j hj hs => by have := (HO5.out.lt j hs).1; omega)
      clear hC6 hO hat HO5 HC5 HR5
      go_wp2_with fail
      go_roundw
      case rel => exact ⟨k + 1, by omega, by go_num, by rw [take_1 (by simpa using hltq) (by rw [List.getElem_map, HGq.out])]; exact hO2, HX6⟩
      case measure => simp [intOf]; omega
    · obtain rfl : k = I.length := by omega
      rw [List.take_of_length_le (by simp; have := HL.out; omega)] at HO
      have hR := HO.out.rd fun k hk => hk
      obtain ⟨q9, cp9, rfl, _⟩ := rows_form hR
      have HN1 := Lib.hid (H0.out.st HC.out)
      have f18 := HN1.out.nd.blk.frozen 18
      have m18 := HN1.out.nd.blk.cell 18
      have HR := Lib.hid hR
      have hn := H0.out.nd.blk.lt
      clear HO hR
      go_wp2_with fail
      go_ret
      have hC9 : Chg (Only p.n) wr (wr.setCell ⟨p.n, 18, none⟩ (.slice none 0 0)) := (Chg.refl (Only p.n) wr).setOwn 18 _
      refine ⟨⟨_, rfl, HR.out.chg hC9 fun k hk _ hk' => ?_⟩, HN1.out.node hC9 (HN1.out.nd.blk.set_ 18 (.slice none 0 0)) ⟨rfl, .inl ⟨rfl, rfl⟩⟩ (fun k _ h => by simp [Value.ownBlock] at h) ?_ trivial, (Chg.of_no HC.out).trans (HN1.out.nd.footN hC9)⟩
      · have h1 : w.heap.size ≤ k := hk
        unfold Only at hk'
        omega
      · exact HN1.out.l.mono fun x y k => (k.chg hC9 fun j hj _ hk' => by have := hj.1; unfold Only at hk'; omega).mono fun j hj _ => ⟨hj.1, hj.2.1, fun h => by simp [Value.ownBlock] at h⟩
end
end Go.Proofs.YtoefffjhjmjhfaaGreat
