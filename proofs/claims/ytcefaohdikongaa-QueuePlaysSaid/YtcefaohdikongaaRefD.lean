/- The reference's Same of messages. No statement is proved here. -/
import Derived.Test.YtcefaohdikongaaRefC
namespace Go.Proofs.Ytcefaohdikongaa
open Go.RowKit Go.Proofs.YtcefaohdikongaaW.PrintLast
attribute [local irreducible] wpQuiet
attribute [local go_sem high] eq_dot' eq_mem' eq_vec'

/-- All that counts of a message. -/
def mgC (m : Mg) := ((m.k, m.f, m.t), (m.op, m.fr, m.key), m.bk, m.es.map enC, m.ds.map dgC, m.ms)
def sameM (a b : Mg) : Prop := mgC (plain a) = mgC (plain b)
open Classical in
noncomputable instance (a b : Mg) : Decidable (sameM a b) := inferInstanceAs (Decidable (mgC (plain a) = mgC (plain b)))
theorem mgC_iff (a b : Mg) : mgC a = mgC b ↔ a.k = b.k ∧ a.f = b.f ∧ a.t = b.t ∧ a.op = b.op ∧ a.fr = b.fr ∧ a.key = b.key ∧ a.bk = b.bk ∧ a.es.map enC = b.es.map enC ∧ a.ds.map dgC = b.ds.map dgC ∧ a.ms = b.ms := by
  simp only [mgC, Prod.mk.injEq, and_assoc]
theorem prs_ptr {w : World} {A : Nat → Prop} {l : List (Int × Int)} {p : Option Addr} {m cap : Nat} (h : Rd w A (prsD l) (.slice p m cap)) (h0 : 0 < l.length) : ∃ b off, p = some ⟨b, off, none⟩ ∧ A b ∧ b < w.heap.size := rows_ptr h (by rw [List.length_map, List.length_map]; exact h0)
theorem int_ne (a b : Int) : (!a == b) = false ↔ a = b := by simp
set_option maxRecDepth 100000 in
set_option maxHeartbeats 8000000 in
theorem sameM_any {w : World} {A B : Nat → Prop} (m n : Mg) (x y : Ms) (hx : MR w A m x) (hy : MR w B n y) :
    Calls Try.prog 17 #[msv x, msv y] w fun e w' => e = .returned (.bool (decide (sameM m n))) ∧ Chg NoB w w' := by
  obtain ⟨e, d, s, rfl, he, hd, hs⟩ := hx
  obtain ⟨e', d', s', rfl, he', hd', hs'⟩ := hy
  replace he := he.old
  replace hd := hd.old
  replace hs := hs.old
  replace he' := he'.old
  replace hd' := hd'.old
  replace hs' := hs'.old
  obtain ⟨p1, c1, rfl, _⟩ := ens_form he
  obtain ⟨p2, c2, rfl, _⟩ := dgs_form hd
  obtain ⟨p3, c3, rfl, _⟩ := prs_form hs
  obtain ⟨q1, d1, rfl, _⟩ := ens_form he'
  obtain ⟨q2, d2, rfl, _⟩ := dgs_form hd'
  obtain ⟨q3, d3, rfl, _⟩ := prs_form hs'
  have B1 := (Blk.new w 31 (mc (mgx m (.slice p1 m.es.length c1) (.slice p2 m.ds.length c2) (.slice p3 m.ms.length c3)))).alloc (.cells (mc (mgx n (.slice q1 n.es.length d1) (.slice q2 n.ds.length d2) (.slice q3 n.ms.length d3))) 31)
  have B2 := Blk.new_ (k := w.heap.size + 1) (w.alloc (.cells (mc (mgx m (.slice p1 m.es.length c1) (.slice p2 m.ds.length c2) (.slice p3 m.ms.length c3))) 31)) 31 (mc (mgx n (.slice q1 n.es.length d1) (.slice q2 n.ds.length d2) (.slice q3 n.ms.length d3))) (by simp)
  have hC := ((Chg.refl NoB w).alloc (.cells (mc (mgx m (.slice p1 m.es.length c1) (.slice p2 m.ds.length c2) (.slice p3 m.ms.length c3))) 31)).alloc (.cells (mc (mgx n (.slice q1 n.es.length d1) (.slice q2 n.ds.length d2) (.slice q3 n.ms.length d3))) 31)
  have hz : w.heap.size + 2 ≤ ((w.alloc (.cells (mc (mgx m (.slice p1 m.es.length c1) (.slice p2 m.ds.length c2) (.slice p3 m.ms.length c3))) 31)).alloc (.cells (mc (mgx n (.slice q1 n.es.length d1) (.slice q2 n.ds.length d2) (.slice q3 n.ms.length d3))) 31)).heap.size := by simp
  replace he := he.st hC
  replace hd := hd.st hC
  replace hs := hs.st hC
  replace he' := he'.st hC
  replace hd' := hd'.st hC
  replace hs' := hs'.st hC
  go_enter Try.func17, Try.ntmps17
  go_upto_region 1 with fail
  generalize (w.alloc (Obj.cells _ 31)).alloc (Obj.cells _ 31) = W at *
  have HB1 := Lib.hid B1
  have HB2 := Lib.hid B2
  have HC := Lib.hid hC
  have HE := Lib.hid (And.intro he (And.intro hd hs))
  have HF := Lib.hid (And.intro he' (And.intro hd' hs'))
  clear B1 B2 hC he hd hs he' hd' hs'
  obtain ⟨pm, hpm⟩ : ∃ p, plain m = p := ⟨_, rfl⟩
  obtain ⟨pn, hpn⟩ : ∃ p, plain n = p := ⟨_, rfl⟩
  have PL1 := Lib.hid fun w' (hC : Chg NoB W w') => hpm ▸ plain_any m _ _ _ (HE.out.1.st hC) (HE.out.2.1.st hC) (HE.out.2.2.st hC)
  have PL2 := Lib.hid fun w' (hC : Chg NoB W w') => hpn ▸ plain_any n _ _ _ (HF.out.1.st hC) (HF.out.2.1.st hC) (HF.out.2.2.st hC)
  have HPm := Lib.hid hpm
  have HPn := Lib.hid hpn
  clear hpm hpn
  refine start_ (n := 6) (S := fun w' => w'.cell? ⟨w.heap.size, 0, none⟩ = some (.int .i64 m.k) ∧ w'.cell? ⟨w.heap.size, 1, none⟩ = some (.int .i64 m.f) ∧ w'.cell? ⟨w.heap.size, 2, none⟩ = some (.int .i64 m.t) ∧ w'.cell? ⟨w.heap.size, 3, none⟩ = some (.int .i64 m.op) ∧ w'.cell? ⟨w.heap.size, 4, none⟩ = some (.int .i64 m.fr) ∧ w'.cell? ⟨w.heap.size, 5, none⟩ = some (.string m.key) ∧ w'.cell? ⟨w.heap.size, 6, none⟩ = some (.int .i64 m.bk) ∧ w'.cell? ⟨w.heap.size, 7, none⟩ = some (.slice p1 m.es.length c1) ∧ w'.cell? ⟨w.heap.size, 8, none⟩ = some (.slice p2 m.ds.length c2) ∧ w'.cell? ⟨w.heap.size, 9, none⟩ = some (.slice p3 m.ms.length c3) ∧ w'.cell? ⟨w.heap.size + 1, 0, none⟩ = some (.int .i64 n.k) ∧ w'.cell? ⟨w.heap.size + 1, 1, none⟩ = some (.int .i64 n.f) ∧ w'.cell? ⟨w.heap.size + 1, 2, none⟩ = some (.int .i64 n.t) ∧ w'.cell? ⟨w.heap.size + 1, 3, none⟩ = some (.int .i64 n.op) ∧ w'.cell? ⟨w.heap.size + 1, 4, none⟩ = some (.int .i64 n.fr) ∧ w'.cell? ⟨w.heap.size + 1, 5, none⟩ = some (.string n.key) ∧ w'.cell? ⟨w.heap.size + 1, 6, none⟩ = some (.int .i64 n.bk) ∧ w'.cell? ⟨w.heap.size + 1, 7, none⟩ = some (.slice q1 n.es.length d1) ∧ w'.cell? ⟨w.heap.size + 1, 8, none⟩ = some (.slice q2 n.ds.length d2) ∧ w'.cell? ⟨w.heap.size + 1, 9, none⟩ = some (.slice q3 n.ms.length d3)) (ds := [4, 5]) #[false, false, false, false, false, false] (by kernel_rfl) rfl rfl ⟨(HB1.out.drew.cell 0), (HB1.out.drew.cell 1), (HB1.out.drew.cell 2), (HB1.out.drew.cell 3), (HB1.out.drew.cell 4), (HB1.out.drew.cell 5), (HB1.out.drew.cell 6), (HB1.out.drew.cell 7), (HB1.out.drew.cell 8), (HB1.out.drew.cell 9), (HB2.out.drew.cell 0), (HB2.out.drew.cell 1), (HB2.out.drew.cell 2), (HB2.out.drew.cell 3), (HB2.out.drew.cell 4), (HB2.out.drew.cell 5), (HB2.out.drew.cell 6), (HB2.out.drew.cell 7), (HB2.out.drew.cell 8), (HB2.out.drew.cell 9)⟩ (fun hHeld => ?_)
  refine take_ (i := 0) (N := some 6) (v := ?_) (a' := ?_) #[true, false, false, false, false, false] rfl rfl (by kernel_rfl) (fun _ _ _ h => h) (Or.inl ⟨by rfl, ?_⟩) hHeld ?_ ?_
  rotate_left
  · rintro w' ⟨s0, s1, s2, s3, s4, s5, s6, s7, s8, s9, s10, s11, s12, s13, s14, s15, s16, s17, s18, s19⟩
    go_simp
    with_reducible rfl
  rotate_left
  · simp only [Act.put, List.setIfInBounds_toArray, List.set_cons_zero, List.set_cons_succ]
    rfl
  refine take_ (i := 2) (N := some 8) (v := ?_) (a' := ?_) #[true, false, true, false, false, false] rfl rfl (by kernel_rfl) (fun _ _ _ h => h) (Or.inl ⟨by rfl, ?_⟩) hHeld ?_ ?_
  rotate_left
  · rintro w' ⟨s0, s1, s2, s3, s4, s5, s6, s7, s8, s9, s10, s11, s12, s13, s14, s15, s16, s17, s18, s19⟩
    go_simp
    with_reducible rfl
  rotate_left
  · simp only [Act.put, List.setIfInBounds_toArray, List.set_cons_zero, List.set_cons_succ]
    rfl
  refine one_ (i := 1) (N := some 7) #[true, true, true, false, false, false] rfl rfl (by kernel_rfl) (by decide) (fun K hK => ?_)
  refine goes_ Try.func27 (by kernel_rfl) rfl #[msv (mgx m (.slice p1 m.es.length c1) (.slice p2 m.ds.length c2) (.slice p3 m.ms.length c3))] (by rfl) rfl rfl (by simp only [List.map_toArray, List.map_cons, List.map_nil]; rfl) ?_
  with_reducible refine ((PL1.out _ (Chg.dr W))).mono ?_
  rintro e w1 ⟨⟨x1, rfl, hx1⟩, hC1⟩
  refine ⟨_, rfl, ?_⟩
  have HC1 := Lib.hid ((Chg.dr W).trans hC1)
  obtain ⟨e1, f1, g1, rfl, he1, hf1, hg1⟩ := hx1
  obtain ⟨r1, k1, rfl, _⟩ := ens_form he1
  obtain ⟨r2, k2, rfl, _⟩ := dgs_form hf1
  obtain ⟨r3, k3, rfl, _⟩ := prs_form hg1
  have HP1 := Lib.hid (And.intro he1 (And.intro hf1 hg1))
  clear hC1 he1 hf1 hg1
  refine hK.out _ _ ⟨((HB1.out.st HC1.out).cell 0), ((HB1.out.st HC1.out).cell 1), ((HB1.out.st HC1.out).cell 2), ((HB1.out.st HC1.out).cell 3), ((HB1.out.st HC1.out).cell 4), ((HB1.out.st HC1.out).cell 5), ((HB1.out.st HC1.out).cell 6), ((HB1.out.st HC1.out).cell 7), ((HB1.out.st HC1.out).cell 8), ((HB1.out.st HC1.out).cell 9), ((HB2.out.st HC1.out).cell 0), ((HB2.out.st HC1.out).cell 1), ((HB2.out.st HC1.out).cell 2), ((HB2.out.st HC1.out).cell 3), ((HB2.out.st HC1.out).cell 4), ((HB2.out.st HC1.out).cell 5), ((HB2.out.st HC1.out).cell 6), ((HB2.out.st HC1.out).cell 7), ((HB2.out.st HC1.out).cell 8), ((HB2.out.st HC1.out).cell 9)⟩ (fun hHeld => ?_)
  clear hK K
  refine norm_ (a' := ?_) ?_ ?_
  rotate_left
  · show Act.put _ (some 7) _ = _
    simp only [Act.put, List.setIfInBounds_toArray, List.set_cons_zero, List.set_cons_succ]
    rfl
  refine one_ (i := 3) (N := some 9) #[true, true, true, true, false, false] rfl rfl (by kernel_rfl) (by decide) (fun K hK => ?_)
  refine goes_ Try.func27 (by kernel_rfl) rfl #[msv (mgx n (.slice q1 n.es.length d1) (.slice q2 n.ds.length d2) (.slice q3 n.ms.length d3))] (by rfl) rfl rfl (by simp only [List.map_toArray, List.map_cons, List.map_nil]; rfl) ?_
  with_reducible refine ((PL2.out _ HC1.out)).mono ?_
  rintro e w2 ⟨⟨x2, rfl, hx2⟩, hC2⟩
  refine ⟨_, rfl, ?_⟩
  have HC2 := Lib.hid (HC1.out.trans hC2)
  have HCC := Lib.hid (HC.out.trans HC2.out)
  obtain ⟨e2, f2, g2, rfl, he2, hf2, hg2⟩ := hx2
  obtain ⟨s1, l1, rfl, _⟩ := ens_form he2
  obtain ⟨s2, l2, rfl, _⟩ := dgs_form hf2
  obtain ⟨s3, l3, rfl, _⟩ := prs_form hg2
  have HP2 := Lib.hid (And.intro he2 (And.intro hf2 hg2))
  replace HP1 := Lib.hid (And.intro (HP1.out.1.st hC2) (And.intro (HP1.out.2.1.st hC2) (HP1.out.2.2.st hC2)))
  clear hC2 he2 hf2 hg2
  obtain ⟨v0, v1, v2, v3, v4, v5, v6, v7, v8, v9⟩ := cells10 (HB1.out.st HC2.out)
  obtain ⟨u0, u1, u2, u3, u4, u5, u6, u7, u8, u9⟩ := cells10 (HB2.out.st HC2.out)
  obtain ⟨y0, y1, y2, y3, y4, y5, y6, y7, y8, y9⟩ := frz10 (HB1.out.st HC2.out)
  obtain ⟨z0, z1, z2, z3, z4, z5, z6, z7, z8, z9⟩ := frz10 (HB2.out.st HC2.out)
  refine hK.out _ _ ⟨((HB1.out.st HC2.out).cell 0), ((HB1.out.st HC2.out).cell 1), ((HB1.out.st HC2.out).cell 2), ((HB1.out.st HC2.out).cell 3), ((HB1.out.st HC2.out).cell 4), ((HB1.out.st HC2.out).cell 5), ((HB1.out.st HC2.out).cell 6), ((HB1.out.st HC2.out).cell 7), ((HB1.out.st HC2.out).cell 8), ((HB1.out.st HC2.out).cell 9), ((HB2.out.st HC2.out).cell 0), ((HB2.out.st HC2.out).cell 1), ((HB2.out.st HC2.out).cell 2), ((HB2.out.st HC2.out).cell 3), ((HB2.out.st HC2.out).cell 4), ((HB2.out.st HC2.out).cell 5), ((HB2.out.st HC2.out).cell 6), ((HB2.out.st HC2.out).cell 7), ((HB2.out.st HC2.out).cell 8), ((HB2.out.st HC2.out).cell 9)⟩ (fun hHeld => ?_)
  clear hK K
  refine norm_ (a' := ?_) ?_ ?_
  rotate_left
  · show Act.put _ (some 9) _ = _
    simp only [Act.put, List.setIfInBounds_toArray, List.set_cons_zero, List.set_cons_succ]
    rfl
  refine last_ (i := 4) (N := none) #[true, true, true, true, true, false] rfl rfl (by kernel_rfl) (by decide) (fun K hK => ?_)
  refine skip_ (w1 := ?_) (by rfl) rfl ?_ ?_
  rotate_left
  · go_simp
    with_reducible rfl
  have hb1 := set10 (HB1.out.st HC2.out) (.int .i64 pm.k) (.int .i64 pm.f) (.int .i64 pm.t) (.int .i64 pm.op) (.int .i64 pm.fr) (.string pm.key) (.int .i64 pm.bk) (.slice r1 pm.es.length k1) (.slice r2 pm.ds.length k2) (.slice r3 pm.ms.length k3)
  have hb2 := far10 (HB2.out.st HC2.out) (b := w.heap.size) (by show w.heap.size + 1 ≠ w.heap.size; omega) (.int .i64 pm.k) (.int .i64 pm.f) (.int .i64 pm.t) (.int .i64 pm.op) (.int .i64 pm.fr) (.string pm.key) (.int .i64 pm.bk) (.slice r1 pm.es.length k1) (.slice r2 pm.ds.length k2) (.slice r3 pm.ms.length k3)
  have hcc := chg10 (b := w.heap.size) HCC.out (by omega) (.int .i64 pm.k) (.int .i64 pm.f) (.int .i64 pm.t) (.int .i64 pm.op) (.int .i64 pm.fr) (.string pm.key) (.int .i64 pm.bk) (.slice r1 pm.es.length k1) (.slice r2 pm.ds.length k2) (.slice r3 pm.ms.length k3)
  have hr0 := rd10 HP1.out.1 (b := w.heap.size) (by rintro ⟨_, h⟩; omega) (.int .i64 pm.k) (.int .i64 pm.f) (.int .i64 pm.t) (.int .i64 pm.op) (.int .i64 pm.fr) (.string pm.key) (.int .i64 pm.bk) (.slice r1 pm.es.length k1) (.slice r2 pm.ds.length k2) (.slice r3 pm.ms.length k3)
  have hr1 := rd10 HP1.out.2.1 (b := w.heap.size) (by rintro ⟨_, h⟩; omega) (.int .i64 pm.k) (.int .i64 pm.f) (.int .i64 pm.t) (.int .i64 pm.op) (.int .i64 pm.fr) (.string pm.key) (.int .i64 pm.bk) (.slice r1 pm.es.length k1) (.slice r2 pm.ds.length k2) (.slice r3 pm.ms.length k3)
  have hr2 := rd10 HP1.out.2.2 (b := w.heap.size) (by rintro ⟨_, h⟩; omega) (.int .i64 pm.k) (.int .i64 pm.f) (.int .i64 pm.t) (.int .i64 pm.op) (.int .i64 pm.fr) (.string pm.key) (.int .i64 pm.bk) (.slice r1 pm.es.length k1) (.slice r2 pm.ds.length k2) (.slice r3 pm.ms.length k3)
  have hr3 := rd10 HP2.out.1 (b := w.heap.size) (by rintro ⟨_, h⟩; omega) (.int .i64 pm.k) (.int .i64 pm.f) (.int .i64 pm.t) (.int .i64 pm.op) (.int .i64 pm.fr) (.string pm.key) (.int .i64 pm.bk) (.slice r1 pm.es.length k1) (.slice r2 pm.ds.length k2) (.slice r3 pm.ms.length k3)
  have hr4 := rd10 HP2.out.2.1 (b := w.heap.size) (by rintro ⟨_, h⟩; omega) (.int .i64 pm.k) (.int .i64 pm.f) (.int .i64 pm.t) (.int .i64 pm.op) (.int .i64 pm.fr) (.string pm.key) (.int .i64 pm.bk) (.slice r1 pm.es.length k1) (.slice r2 pm.ds.length k2) (.slice r3 pm.ms.length k3)
  have hr5 := rd10 HP2.out.2.2 (b := w.heap.size) (by rintro ⟨_, h⟩; omega) (.int .i64 pm.k) (.int .i64 pm.f) (.int .i64 pm.t) (.int .i64 pm.op) (.int .i64 pm.fr) (.string pm.key) (.int .i64 pm.bk) (.slice r1 pm.es.length k1) (.slice r2 pm.ds.length k2) (.slice r3 pm.ms.length k3)
  generalize (((((((((w2.setCell ⟨w.heap.size, 0, none⟩ (.int .i64 pm.k)).setCell ⟨w.heap.size, 1, none⟩ (.int .i64 pm.f)).setCell ⟨w.heap.size, 2, none⟩ (.int .i64 pm.t)).setCell ⟨w.heap.size, 3, none⟩ (.int .i64 pm.op)).setCell ⟨w.heap.size, 4, none⟩ (.int .i64 pm.fr)).setCell ⟨w.heap.size, 5, none⟩ (.string pm.key)).setCell ⟨w.heap.size, 6, none⟩ (.int .i64 pm.bk)).setCell ⟨w.heap.size, 7, none⟩ (.slice r1 pm.es.length k1)).setCell ⟨w.heap.size, 8, none⟩ (.slice r2 pm.ds.length k2)).setCell ⟨w.heap.size, 9, none⟩ (.slice r3 pm.ms.length k3) = w3 at *
  clear HP1 HP2 HCC
  have HP1 := Lib.hid (And.intro hr0 (And.intro hr1 hr2))
  have HP2 := Lib.hid (And.intro hr3 (And.intro hr4 hr5))
  have HCC := Lib.hid hcc
  have HD1 := Lib.hid (And.intro hb1 hb2)
  clear hr0 hr1 hr2 hr3 hr4 hr5 hcc
  clear v0 v1 v2 v3 v4 v5 v6 v7 v8 v9 u0 u1 u2 u3 u4 u5 u6 u7 u8 u9 y0 y1 y2 y3 y4 y5 y6 y7 y8 y9 z0 z1 z2 z3 z4 z5 z6 z7 z8 z9
  obtain ⟨u0, u1, u2, u3, u4, u5, u6, u7, u8, u9⟩ := cells10 hb2
  obtain ⟨z0, z1, z2, z3, z4, z5, z6, z7, z8, z9⟩ := frz10 hb2
  clear hb1 hb2
  refine hK.out _ _ ?_
  clear hK K
  refine last_ (i := 5) (N := none) #[true, true, true, true, true, true] rfl rfl (by kernel_rfl) (by decide) (fun K hK => ?_)
  refine skip_ (w1 := ?_) (by rfl) rfl ?_ ?_
  rotate_left
  · go_simp
    with_reducible rfl
  have hb1 := set10 HD1.out.2 (.int .i64 pn.k) (.int .i64 pn.f) (.int .i64 pn.t) (.int .i64 pn.op) (.int .i64 pn.fr) (.string pn.key) (.int .i64 pn.bk) (.slice s1 pn.es.length l1) (.slice s2 pn.ds.length l2) (.slice s3 pn.ms.length l3)
  have hb2 := far10 HD1.out.1 (b := (w.heap.size + 1)) (by show w.heap.size ≠ (w.heap.size + 1); omega) (.int .i64 pn.k) (.int .i64 pn.f) (.int .i64 pn.t) (.int .i64 pn.op) (.int .i64 pn.fr) (.string pn.key) (.int .i64 pn.bk) (.slice s1 pn.es.length l1) (.slice s2 pn.ds.length l2) (.slice s3 pn.ms.length l3)
  have hcc := chg10 (b := (w.heap.size + 1)) HCC.out (by omega) (.int .i64 pn.k) (.int .i64 pn.f) (.int .i64 pn.t) (.int .i64 pn.op) (.int .i64 pn.fr) (.string pn.key) (.int .i64 pn.bk) (.slice s1 pn.es.length l1) (.slice s2 pn.ds.length l2) (.slice s3 pn.ms.length l3)
  have hr0 := rd10 HP1.out.1 (b := (w.heap.size + 1)) (by rintro ⟨_, h⟩; omega) (.int .i64 pn.k) (.int .i64 pn.f) (.int .i64 pn.t) (.int .i64 pn.op) (.int .i64 pn.fr) (.string pn.key) (.int .i64 pn.bk) (.slice s1 pn.es.length l1) (.slice s2 pn.ds.length l2) (.slice s3 pn.ms.length l3)
  have hr1 := rd10 HP1.out.2.1 (b := (w.heap.size + 1)) (by rintro ⟨_, h⟩; omega) (.int .i64 pn.k) (.int .i64 pn.f) (.int .i64 pn.t) (.int .i64 pn.op) (.int .i64 pn.fr) (.string pn.key) (.int .i64 pn.bk) (.slice s1 pn.es.length l1) (.slice s2 pn.ds.length l2) (.slice s3 pn.ms.length l3)
  have hr2 := rd10 HP1.out.2.2 (b := (w.heap.size + 1)) (by rintro ⟨_, h⟩; omega) (.int .i64 pn.k) (.int .i64 pn.f) (.int .i64 pn.t) (.int .i64 pn.op) (.int .i64 pn.fr) (.string pn.key) (.int .i64 pn.bk) (.slice s1 pn.es.length l1) (.slice s2 pn.ds.length l2) (.slice s3 pn.ms.length l3)
  have hr3 := rd10 HP2.out.1 (b := (w.heap.size + 1)) (by rintro ⟨_, h⟩; omega) (.int .i64 pn.k) (.int .i64 pn.f) (.int .i64 pn.t) (.int .i64 pn.op) (.int .i64 pn.fr) (.string pn.key) (.int .i64 pn.bk) (.slice s1 pn.es.length l1) (.slice s2 pn.ds.length l2) (.slice s3 pn.ms.length l3)
  have hr4 := rd10 HP2.out.2.1 (b := (w.heap.size + 1)) (by rintro ⟨_, h⟩; omega) (.int .i64 pn.k) (.int .i64 pn.f) (.int .i64 pn.t) (.int .i64 pn.op) (.int .i64 pn.fr) (.string pn.key) (.int .i64 pn.bk) (.slice s1 pn.es.length l1) (.slice s2 pn.ds.length l2) (.slice s3 pn.ms.length l3)
  have hr5 := rd10 HP2.out.2.2 (b := (w.heap.size + 1)) (by rintro ⟨_, h⟩; omega) (.int .i64 pn.k) (.int .i64 pn.f) (.int .i64 pn.t) (.int .i64 pn.op) (.int .i64 pn.fr) (.string pn.key) (.int .i64 pn.bk) (.slice s1 pn.es.length l1) (.slice s2 pn.ds.length l2) (.slice s3 pn.ms.length l3)
  generalize (((((((((w3.setCell ⟨(w.heap.size + 1), 0, none⟩ (.int .i64 pn.k)).setCell ⟨(w.heap.size + 1), 1, none⟩ (.int .i64 pn.f)).setCell ⟨(w.heap.size + 1), 2, none⟩ (.int .i64 pn.t)).setCell ⟨(w.heap.size + 1), 3, none⟩ (.int .i64 pn.op)).setCell ⟨(w.heap.size + 1), 4, none⟩ (.int .i64 pn.fr)).setCell ⟨(w.heap.size + 1), 5, none⟩ (.string pn.key)).setCell ⟨(w.heap.size + 1), 6, none⟩ (.int .i64 pn.bk)).setCell ⟨(w.heap.size + 1), 7, none⟩ (.slice s1 pn.es.length l1)).setCell ⟨(w.heap.size + 1), 8, none⟩ (.slice s2 pn.ds.length l2)).setCell ⟨(w.heap.size + 1), 9, none⟩ (.slice s3 pn.ms.length l3) = w4 at *
  clear HP1 HP2 HCC
  have HP1 := Lib.hid (And.intro hr0 (And.intro hr1 hr2))
  have HP2 := Lib.hid (And.intro hr3 (And.intro hr4 hr5))
  have HCC := Lib.hid hcc
  have HD2 := Lib.hid (And.intro hb1 hb2)
  clear hr0 hr1 hr2 hr3 hr4 hr5 hcc
  clear u0 u1 u2 u3 u4 u5 u6 u7 u8 u9 z0 z1 z2 z3 z4 z5 z6 z7 z8 z9 hb1 hb2
  refine hK.out _ _ ?_
  clear hK K
  refine done_ (by kernel_rfl) ?_
  have HS : Hid (sameM m n ↔ pm.k = pn.k ∧ pm.f = pn.f ∧ pm.t = pn.t ∧ pm.op = pn.op ∧ pm.fr = pn.fr ∧ pm.key = pn.key ∧ pm.bk = pn.bk ∧ pm.es.map enC = pn.es.map enC ∧ pm.ds.map dgC = pn.ds.map dgC ∧ pm.ms = pn.ms) := Lib.hid (by unfold sameM; rw [HPm.out, HPn.out, mgC_iff])
  clear HE HF HB1 HB2 HC HC1 HC2 HD1 PL1 PL2
  obtain ⟨u0, u1, u2, u3, u4, u5, u6, u7, u8, u9⟩ := cells10 HD2.out.1
  obtain ⟨v0, v1, v2, v3, v4, v5, v6, v7, v8, v9⟩ := cells10 HD2.out.2
  obtain ⟨x0, hx0⟩ : ∃ x, (pm.k != pn.k) = x := ⟨_, rfl⟩
  have HX0 : Hid (x0 = true → ¬ sameM m n) := Lib.hid fun hx h => by
    rw [hx0.symm] at hx
    rw [(HS.out.1 h).1] at hx
    simp at hx
  cases x0 with
  | true =>
    have HN := Lib.hid (HX0.out rfl)
    clear HS HX0
    go_wp2_with fail
    go_ret
    exact ⟨ret_bb (decide_eq_false HN.out).symm, HCC.out⟩
  | false =>
    have HY0 := Lib.hid (show pm.k = pn.k from by simpa using hx0)
    clear HX0
    obtain ⟨x1, hx1⟩ : ∃ x, (pm.f != pn.f) = x := ⟨_, rfl⟩
    have HX1 : Hid (x1 = true → ¬ sameM m n) := Lib.hid fun hx h => by
      rw [hx1.symm] at hx
      rw [(HS.out.1 h).2.1] at hx
      simp at hx
    cases x1 with
    | true =>
      have HN := Lib.hid (HX1.out rfl)
      clear HS HX1
      go_wp2_with fail
      go_ret
      exact ⟨ret_bb (decide_eq_false HN.out).symm, HCC.out⟩
    | false =>
      have HY1 := Lib.hid (show pm.f = pn.f from by simpa using hx1)
      clear HX1
      obtain ⟨x2, hx2⟩ : ∃ x, (pm.t != pn.t) = x := ⟨_, rfl⟩
      have HX2 : Hid (x2 = true → ¬ sameM m n) := Lib.hid fun hx h => by
        rw [hx2.symm] at hx
        rw [(HS.out.1 h).2.2.1] at hx
        simp at hx
      cases x2 with
      | true =>
        have HN := Lib.hid (HX2.out rfl)
        clear HS HX2
        go_wp2_with fail
        go_ret
        exact ⟨ret_bb (decide_eq_false HN.out).symm, HCC.out⟩
      | false =>
        have HY2 := Lib.hid (show pm.t = pn.t from by simpa using hx2)
        clear HX2
        obtain ⟨x3, hx3⟩ : ∃ x, (pm.op != pn.op) = x := ⟨_, rfl⟩
        have HX3 : Hid (x3 = true → ¬ sameM m n) := Lib.hid fun hx h => by
          rw [hx3.symm] at hx
          rw [(HS.out.1 h).2.2.2.1] at hx
          simp at hx
        cases x3 with
        | true =>
          have HN := Lib.hid (HX3.out rfl)
          clear HS HX3
          go_wp2_with fail
          go_ret
          exact ⟨ret_bb (decide_eq_false HN.out).symm, HCC.out⟩
        | false =>
          have HY3 := Lib.hid (show pm.op = pn.op from by simpa using hx3)
          clear HX3
          obtain ⟨x4, hx4⟩ : ∃ x, (pm.fr != pn.fr) = x := ⟨_, rfl⟩
          have HX4 : Hid (x4 = true → ¬ sameM m n) := Lib.hid fun hx h => by
            rw [hx4.symm] at hx
            rw [(HS.out.1 h).2.2.2.2.1] at hx
            simp at hx
          cases x4 with
          | true =>
            have HN := Lib.hid (HX4.out rfl)
            clear HS HX4
            go_wp2_with fail
            go_ret
            exact ⟨ret_bb (decide_eq_false HN.out).symm, HCC.out⟩
          | false =>
            have HY4 := Lib.hid (show pm.fr = pn.fr from by simpa using hx4)
            clear HX4
            obtain ⟨x5, hx5⟩ : ∃ x, (!pm.key.toList == pn.key.toList) = x := ⟨_, rfl⟩
            have HX5 : Hid (x5 = true → ¬ sameM m n) := Lib.hid fun hx h => by
              rw [hx5.symm] at hx
              rw [(HS.out.1 h).2.2.2.2.2.1] at hx
              have h0 := (key_ne pn.key pn.key).2 rfl
              rw [h0] at hx
              cases hx
            cases x5 with
            | true =>
              have HN := Lib.hid (HX5.out rfl)
              clear HS HX5
              go_wp2_with fail
              go_ret
              exact ⟨ret_bb (decide_eq_false HN.out).symm, HCC.out⟩
            | false =>
              have HY5 := Lib.hid (show pm.key = pn.key from (key_ne _ _).1 hx5)
              clear HX5
              obtain ⟨x6, hx6⟩ : ∃ x, (pm.bk != pn.bk) = x := ⟨_, rfl⟩
              have HX6 : Hid (x6 = true → ¬ sameM m n) := Lib.hid fun hx h => by
                rw [hx6.symm] at hx
                rw [(HS.out.1 h).2.2.2.2.2.2.1] at hx
                simp at hx
              cases x6 with
              | true =>
                have HN := Lib.hid (HX6.out rfl)
                clear HS HX6
                go_wp2_with fail
                go_ret
                exact ⟨ret_bb (decide_eq_false HN.out).symm, HCC.out⟩
              | false =>
                have HY6 := Lib.hid (show pm.bk = pn.bk from by simpa using hx6)
                clear HX6
                obtain ⟨x7, hx7⟩ : ∃ x, decide (pm.es.map enC = pn.es.map enC) = x := ⟨_, rfl⟩
                go_wp2_with fail
                refine (sameEntries_any pm.es pn.es _ _ HP1.out.1 HP2.out.1).mono ?_
                rintro e w5 ⟨rfl, hCn⟩
                rw [hx7]
                replace HP1 := Lib.hid (And.intro (HP1.out.1.st hCn) (And.intro (HP1.out.2.1.st hCn) (HP1.out.2.2.st hCn)))
                replace HP2 := Lib.hid (And.intro (HP2.out.1.st hCn) (And.intro (HP2.out.2.1.st hCn) (HP2.out.2.2.st hCn)))
                replace HCC := Lib.hid (HCC.out.trans hCn)
                replace HD2 := Lib.hid (And.intro (HD2.out.1.st hCn) (HD2.out.2.st hCn))
                clear hCn u0 u1 u2 u3 u4 u5 u6 u7 u8 u9 v0 v1 v2 v3 v4 v5 v6 v7 v8 v9
                obtain ⟨u0, u1, u2, u3, u4, u5, u6, u7, u8, u9⟩ := cells10 HD2.out.1
                obtain ⟨v0, v1, v2, v3, v4, v5, v6, v7, v8, v9⟩ := cells10 HD2.out.2
                cases x7 with
                | false =>
                  have HN : Hid (¬ sameM m n) := Lib.hid fun h => of_decide_eq_false hx7 (HS.out.1 h).2.2.2.2.2.2.2.1
                  clear HS hx7
                  go_wp2_with fail
                  go_ret
                  exact ⟨ret_bb (decide_eq_false HN.out).symm, HCC.out⟩
                | true =>
                  have HY7 := Lib.hid (of_decide_eq_true hx7)
                  clear hx7
                  obtain ⟨x8, hx8⟩ : ∃ x, decide (pm.ds.map dgC = pn.ds.map dgC) = x := ⟨_, rfl⟩
                  go_wp2_with fail
                  refine (sameDigests_any pm.ds pn.ds _ _ HP1.out.2.1 HP2.out.2.1).mono ?_
                  rintro e w6 ⟨rfl, hCn⟩
                  rw [hx8]
                  replace HP1 := Lib.hid (And.intro (HP1.out.1.st hCn) (And.intro (HP1.out.2.1.st hCn) (HP1.out.2.2.st hCn)))
                  replace HP2 := Lib.hid (And.intro (HP2.out.1.st hCn) (And.intro (HP2.out.2.1.st hCn) (HP2.out.2.2.st hCn)))
                  replace HCC := Lib.hid (HCC.out.trans hCn)
                  replace HD2 := Lib.hid (And.intro (HD2.out.1.st hCn) (HD2.out.2.st hCn))
                  clear hCn u0 u1 u2 u3 u4 u5 u6 u7 u8 u9 v0 v1 v2 v3 v4 v5 v6 v7 v8 v9
                  obtain ⟨u0, u1, u2, u3, u4, u5, u6, u7, u8, u9⟩ := cells10 HD2.out.1
                  obtain ⟨v0, v1, v2, v3, v4, v5, v6, v7, v8, v9⟩ := cells10 HD2.out.2
                  cases x8 with
                  | false =>
                    have HN : Hid (¬ sameM m n) := Lib.hid fun h => of_decide_eq_false hx8 (HS.out.1 h).2.2.2.2.2.2.2.2.1
                    clear HS hx8
                    go_wp2_with fail
                    go_ret
                    exact ⟨ret_bb (decide_eq_false HN.out).symm, HCC.out⟩
                  | true =>
                    have HY8 := Lib.hid (of_decide_eq_true hx8)
                    clear hx8
                    obtain ⟨x9, hx9⟩ : ∃ x, ((pm.ms.length : Int) != pn.ms.length) = x := ⟨_, rfl⟩
                    have HX9 : Hid (x9 = true → ¬ sameM m n) := Lib.hid fun hx h => by
                      rw [hx9.symm] at hx
                      rw [(HS.out.1 h).2.2.2.2.2.2.2.2.2] at hx
                      simp at hx
                    cases x9 with
                    | true =>
                      have HN := Lib.hid (HX9.out rfl)
                      clear HS HX9
                      go_wp2_with fail
                      go_ret
                      exact ⟨ret_bb (decide_eq_false HN.out).symm, HCC.out⟩
                    | false =>
                      have HY9 := Lib.hid (show pm.ms.length = pn.ms.length from by simp at hx9; omega)
                      clear HX9
                      have hlm := HY9.out.symm
                      rw [HY9.out] at hx9
                      have HLm := Lib.hid hlm
                      have HPM := Lib.hid HP1.out.2.2
                      have HPN := Lib.hid HP2.out.2.2
                      clear HP1 HP2
                      rw [hlm] at u9 HPN HD2
                      clear hlm
                      go_wp2_with fail
                      clear u0 u1 u2 u3 u4 u5 u6 u7 u8 u9 v0 v1 v2 v3 v4 v5 v6 v7 v8 v9 hx9
                      have hbig : pm.ms.length ≤ 9223372036854775807 := by
                        obtain ⟨_, _, _, h1, h2, _⟩ := prs_form HPM.out
                        unfold maxLen at h2
                        omega
                      go_loopw [85] (fun i wr => ∃ k : Nat, k ≤ pm.ms.length ∧ i = .int .i64 k ∧ Hid (pm.ms.take k = pn.ms.take k) ∧ Chg NoB w6 wr) (fun i _ => pm.ms.length - (intOf i).toNat)
                      case atStart => exact ⟨0, Nat.zero_le _, rfl, Lib.hid rfl, Chg.refl _ _⟩
                      case round =>
                        obtain ⟨k, hk, rfl, HN, HC⟩ := hrel
                        by_cases hlt : k < pm.ms.length
                        · have hltm : k < pn.ms.length := by rw [HLm.out]; exact hlt
                          obtain ⟨b, off, rfl, _, _⟩ := prs_ptr HPM.out (Nat.lt_of_le_of_lt (Nat.zero_le _) hlt)
                          obtain ⟨b', off', rfl, _, _⟩ := prs_ptr HPN.out (Nat.lt_of_le_of_lt (Nat.zero_le _) hltm)
                          have HS2 : Hid (pm.ms[k] = pn.ms[k] → pm.ms.take (k + 1) = pn.ms.take (k + 1)) := Lib.hid fun h => take_eq_succ' HN.out hlt hltm h
                          have HD : Hid (pm.ms[k] ≠ pn.ms[k] → pm.ms ≠ pn.ms) := Lib.hid fun h => ne_of_get' hlt hltm h
                          have hk3 : (k : Int) < (pm.ms.length : Int) := by omega
                          have HP : Hid (∀ w', Chg NoB wr w' → w'.cell? ⟨b, off + k * 2, none⟩ = some (.int .i64 pm.ms[k].1) ∧ w'.cell? ⟨b, off + k * 2 + 1, none⟩ = some (.int .i64 pm.ms[k].2)) := Lib.hid fun w' hC => pr_at (HPM.out.st (HC.trans hC)) hlt
                          have HQ : Hid (∀ w', Chg NoB wr w' → w'.cell? ⟨b', off' + k * 2, none⟩ = some (.int .i64 pn.ms[k].1) ∧ w'.cell? ⟨b', off' + k * 2 + 1, none⟩ = some (.int .i64 pn.ms[k].2)) := Lib.hid fun w' hC => pr_at (HPN.out.st (HC.trans hC)) hltm
                          have HB : Hid (∀ w', Chg NoB wr w' → w'.cell? ⟨w.heap.size, 9, none⟩ = some (.slice (some ⟨b, off, none⟩) pm.ms.length k3) ∧ w'.cell? ⟨w.heap.size + 1, 9, none⟩ = some (.slice (some ⟨b', off', none⟩) pm.ms.length l3)) := Lib.hid fun w' hC => ⟨(HD2.out.2.st (HC.trans hC)).cell 9, (HD2.out.1.st (HC.trans hC)).cell 9⟩
                          generalize pm.ms[k] = u at *
                          generalize pn.ms[k] = v at *
                          have hk1 : k + 1 ≤ pm.ms.length := hlt
                          go_upto_region 7 with fail
                          obtain ⟨r, hr⟩ : ∃ r, (u.1 == v.1 && u.2 == v.2) = r := ⟨_, rfl⟩
                          cases r with
                          | true =>
                            have hs := Lib.hid (HS2.out (by simp only [Bool.and_eq_true, beq_iff_eq] at hr; exact Prod.ext hr.1 hr.2))
                            clear HS2 HD HS
                            refine q_start (by kernel_rfl) (by kernel_rfl) ?_
                            refine q_on (v := ?_) (by rfl) ?_ ?_
                            rotate_left
                            · intro w' hC
                              go_simp
                              with_reducible rfl
                            rotate_left
                            refine q_norm (a' := ?_) ?_ ?_
                            rotate_left
                            · show Act.put _ (some 88) _ = _
                              simp only [Act.put, List.setIfInBounds_toArray, List.set_cons_zero, List.set_cons_succ]
                              rfl
                            refine q_on (v := ?_) (by rfl) ?_ ?_
                            rotate_left
                            · intro w' hC
                              obtain ⟨b1, b2⟩ := HB.out w' hC
                              go_simp
                              with_reducible rfl
                            rotate_left
                            refine q_norm (a' := ?_) ?_ ?_
                            rotate_left
                            · show Act.put _ (some 89) _ = _
                              simp only [Act.put, List.setIfInBounds_toArray, List.set_cons_zero, List.set_cons_succ]
                              rfl
                            refine q_on (v := ?_) (by rfl) ?_ ?_
                            rotate_left
                            · intro w' hC
                              go_simp
                              with_reducible rfl
                            rotate_left
                            refine q_norm (a' := ?_) ?_ ?_
                            rotate_left
                            · show Act.put _ (some 90) _ = _
                              simp only [Act.put, List.setIfInBounds_toArray, List.set_cons_zero, List.set_cons_succ]
                              rfl
                            refine q_on (v := ?_) (by rfl) ?_ ?_
                            rotate_left
                            · intro w' hC
                              go_simp
                              with_reducible rfl
                            rotate_left
                            refine q_norm (a' := ?_) ?_ ?_
                            rotate_left
                            · show Act.put _ (some 91) _ = _
                              simp only [Act.put, List.setIfInBounds_toArray, List.set_cons_zero, List.set_cons_succ]
                              rfl
                            refine q_on (v := ?_) (by rfl) ?_ ?_
                            rotate_left
                            · intro w' hC
                              obtain ⟨c0, c1⟩ := HP.out w' hC
                              go_simp
                              with_reducible rfl
                            rotate_left
                            refine q_norm (a' := ?_) ?_ ?_
                            rotate_left
                            · show Act.put _ (some 92) _ = _
                              simp only [Act.put, List.setIfInBounds_toArray, List.set_cons_zero, List.set_cons_succ]
                              rfl
                            refine q_on (v := ?_) (by rfl) ?_ ?_
                            rotate_left
                            · intro w' hC
                              go_simp
                              with_reducible rfl
                            rotate_left
                            refine q_norm (a' := ?_) ?_ ?_
                            rotate_left
                            · show Act.put _ (some 93) _ = _
                              simp only [Act.put, List.setIfInBounds_toArray, List.set_cons_zero, List.set_cons_succ]
                              rfl
                            refine q_on (v := ?_) (by rfl) ?_ ?_
                            rotate_left
                            · intro w' hC
                              obtain ⟨b1, b2⟩ := HB.out w' hC
                              go_simp
                              with_reducible rfl
                            rotate_left
                            refine q_norm (a' := ?_) ?_ ?_
                            rotate_left
                            · show Act.put _ (some 94) _ = _
                              simp only [Act.put, List.setIfInBounds_toArray, List.set_cons_zero, List.set_cons_succ]
                              rfl
                            refine q_on (v := ?_) (by rfl) ?_ ?_
                            rotate_left
                            · intro w' hC
                              go_simp
                              with_reducible rfl
                            rotate_left
                            refine q_norm (a' := ?_) ?_ ?_
                            rotate_left
                            · show Act.put _ (some 95) _ = _
                              simp only [Act.put, List.setIfInBounds_toArray, List.set_cons_zero, List.set_cons_succ]
                              rfl
                            refine q_on (v := ?_) (by rfl) ?_ ?_
                            rotate_left
                            · intro w' hC
                              go_simp
                              with_reducible rfl
                            rotate_left
                            refine q_norm (a' := ?_) ?_ ?_
                            rotate_left
                            · show Act.put _ (some 96) _ = _
                              simp only [Act.put, List.setIfInBounds_toArray, List.set_cons_zero, List.set_cons_succ]
                              rfl
                            refine q_on (v := ?_) (by rfl) ?_ ?_
                            rotate_left
                            · intro w' hC
                              obtain ⟨c0, c1⟩ := HQ.out w' hC
                              go_simp
                              with_reducible rfl
                            rotate_left
                            refine q_norm (a' := ?_) ?_ ?_
                            rotate_left
                            · show Act.put _ (some 97) _ = _
                              simp only [Act.put, List.setIfInBounds_toArray, List.set_cons_zero, List.set_cons_succ]
                              rfl
                            refine q_on (v := ?_) (by rfl) ?_ ?_
                            rotate_left
                            · intro w' hC
                              go_simp
                              with_reducible rfl
                            rotate_left
                            refine q_norm (a' := ?_) ?_ ?_
                            rotate_left
                            · show Act.put _ (some 98) _ = _
                              simp only [Act.put, List.setIfInBounds_toArray, List.set_cons_zero, List.set_cons_succ]
                              rfl
                            refine wpQuiet_nil ?_
                            intro w' hC
                            go_wp2_with fail
                            go_roundw
                            case rel => exact ⟨k + 1, hk1, by go_num, hs, HC.trans hC⟩
                            case measure => simp [intOf]; omega
                          | false =>
                            have hs := Lib.hid (HD.out (by rintro rfl; simp at hr))
                            have hs2 : Hid (¬ sameM m n) := Lib.hid fun h => hs.out (HS.out.1 h).2.2.2.2.2.2.2.2.2
                            clear HS2 HD HS
                            refine q_start (by kernel_rfl) (by kernel_rfl) ?_
                            refine q_on (v := ?_) (by rfl) ?_ ?_
                            rotate_left
                            · intro w' hC
                              go_simp
                              with_reducible rfl
                            rotate_left
                            refine q_norm (a' := ?_) ?_ ?_
                            rotate_left
                            · show Act.put _ (some 88) _ = _
                              simp only [Act.put, List.setIfInBounds_toArray, List.set_cons_zero, List.set_cons_succ]
                              rfl
                            refine q_on (v := ?_) (by rfl) ?_ ?_
                            rotate_left
                            · intro w' hC
                              obtain ⟨b1, b2⟩ := HB.out w' hC
                              go_simp
                              with_reducible rfl
                            rotate_left
                            refine q_norm (a' := ?_) ?_ ?_
                            rotate_left
                            · show Act.put _ (some 89) _ = _
                              simp only [Act.put, List.setIfInBounds_toArray, List.set_cons_zero, List.set_cons_succ]
                              rfl
                            refine q_on (v := ?_) (by rfl) ?_ ?_
                            rotate_left
                            · intro w' hC
                              go_simp
                              with_reducible rfl
                            rotate_left
                            refine q_norm (a' := ?_) ?_ ?_
                            rotate_left
                            · show Act.put _ (some 90) _ = _
                              simp only [Act.put, List.setIfInBounds_toArray, List.set_cons_zero, List.set_cons_succ]
                              rfl
                            refine q_on (v := ?_) (by rfl) ?_ ?_
                            rotate_left
                            · intro w' hC
                              go_simp
                              with_reducible rfl
                            rotate_left
                            refine q_norm (a' := ?_) ?_ ?_
                            rotate_left
                            · show Act.put _ (some 91) _ = _
                              simp only [Act.put, List.setIfInBounds_toArray, List.set_cons_zero, List.set_cons_succ]
                              rfl
                            refine q_on (v := ?_) (by rfl) ?_ ?_
                            rotate_left
                            · intro w' hC
                              obtain ⟨c0, c1⟩ := HP.out w' hC
                              go_simp
                              with_reducible rfl
                            rotate_left
                            refine q_norm (a' := ?_) ?_ ?_
                            rotate_left
                            · show Act.put _ (some 92) _ = _
                              simp only [Act.put, List.setIfInBounds_toArray, List.set_cons_zero, List.set_cons_succ]
                              rfl
                            refine q_on (v := ?_) (by rfl) ?_ ?_
                            rotate_left
                            · intro w' hC
                              go_simp
                              with_reducible rfl
                            rotate_left
                            refine q_norm (a' := ?_) ?_ ?_
                            rotate_left
                            · show Act.put _ (some 93) _ = _
                              simp only [Act.put, List.setIfInBounds_toArray, List.set_cons_zero, List.set_cons_succ]
                              rfl
                            refine q_on (v := ?_) (by rfl) ?_ ?_
                            rotate_left
                            · intro w' hC
                              obtain ⟨b1, b2⟩ := HB.out w' hC
                              go_simp
                              with_reducible rfl
                            rotate_left
                            refine q_norm (a' := ?_) ?_ ?_
                            rotate_left
                            · show Act.put _ (some 94) _ = _
                              simp only [Act.put, List.setIfInBounds_toArray, List.set_cons_zero, List.set_cons_succ]
                              rfl
                            refine q_on (v := ?_) (by rfl) ?_ ?_
                            rotate_left
                            · intro w' hC
                              go_simp
                              with_reducible rfl
                            rotate_left
                            refine q_norm (a' := ?_) ?_ ?_
                            rotate_left
                            · show Act.put _ (some 95) _ = _
                              simp only [Act.put, List.setIfInBounds_toArray, List.set_cons_zero, List.set_cons_succ]
                              rfl
                            refine q_on (v := ?_) (by rfl) ?_ ?_
                            rotate_left
                            · intro w' hC
                              go_simp
                              with_reducible rfl
                            rotate_left
                            refine q_norm (a' := ?_) ?_ ?_
                            rotate_left
                            · show Act.put _ (some 96) _ = _
                              simp only [Act.put, List.setIfInBounds_toArray, List.set_cons_zero, List.set_cons_succ]
                              rfl
                            refine q_on (v := ?_) (by rfl) ?_ ?_
                            rotate_left
                            · intro w' hC
                              obtain ⟨c0, c1⟩ := HQ.out w' hC
                              go_simp
                              with_reducible rfl
                            rotate_left
                            refine q_norm (a' := ?_) ?_ ?_
                            rotate_left
                            · show Act.put _ (some 97) _ = _
                              simp only [Act.put, List.setIfInBounds_toArray, List.set_cons_zero, List.set_cons_succ]
                              rfl
                            refine q_on (v := ?_) (by rfl) ?_ ?_
                            rotate_left
                            · intro w' hC
                              go_simp
                              with_reducible rfl
                            rotate_left
                            refine q_norm (a' := ?_) ?_ ?_
                            rotate_left
                            · show Act.put _ (some 98) _ = _
                              simp only [Act.put, List.setIfInBounds_toArray, List.set_cons_zero, List.set_cons_succ]
                              rfl
                            refine wpQuiet_nil ?_
                            intro w' hC
                            go_wp2_with fail
                            go_ret
                            exact ⟨ret_bb (decide_eq_false hs2.out).symm, HCC.out.trans (HC.trans hC)⟩
                        · obtain rfl : k = pm.ms.length := by omega
                          have HL : Hid (pm.ms = pn.ms) := Lib.hid (by have := HN.out; rwa [List.take_of_length_le (Nat.le_refl _), List.take_of_length_le (by rw [HLm.out]; exact Nat.le_refl _)] at this)
                          have hs2 : Hid (sameM m n) := Lib.hid (HS.out.2 ⟨HY0.out, HY1.out, HY2.out, HY3.out, HY4.out, HY5.out, HY6.out, HY7.out, HY8.out, HL.out⟩)
                          go_wp2_with fail
                          go_ret
                          exact ⟨ret_bb (decide_eq_true hs2.out).symm, HCC.out.trans HC⟩
end Go.Proofs.Ytcefaohdikongaa
