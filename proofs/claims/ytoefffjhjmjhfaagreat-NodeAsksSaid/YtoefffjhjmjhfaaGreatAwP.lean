/- A node of one: a client's first write. No statement is proved here. -/
import Derived.Test.YtoefffjhjmjhfaaGreatPkStore
import Derived.Test.YtoefffjhjmjhfaaGreatPkCoord
import Derived.Test.YtoefffjhjmjhfaaGreatPkRing
import Derived.Test.YtoefffjhjmjhfaaGreatNPlan
namespace Go.Proofs.YtoefffjhjmjhfaaGreat
open Go.RowKit Go.Proofs.YtoefffjhjmjhfaaGreatW.PrintLast
attribute [local go_sem] max2_mx min2_mn max_two_ min_two_
set_option maxRecDepth 100000

section
variable {w w' : World} {A B : Nat → Prop}
set_option maxHeartbeats 8000000 in
theorem nput_A {p : Pl} {m : Nat} {most now taken : Int} {s : Value} (h : NDm most w p cg0 0 m 0 0 now taken [] s (.slice none 0 0) 0 []) (hm : 208 ≤ most ∧ most ≤ 1048576) (k : ByteArray) (hk : 1 ≤ k.size ∧ k.size ≤ 32) {q : Value} (hq : Rd w B (bD [120]) q) (hqB : ∀ j, B j → j ≠ p.rg) :
    Calls Tryz.prog 12 #[.pointer (some ⟨p.n, 0, none⟩), .string k, vec (fun _ => 0), q, .bool false] w fun e w' => e = .returned (.tuple #[.int .i64 1, .int .i64 0]) ∧ (∃ l a c, Blk w' p.n 75 (ndc cg0 0 p.st p.rg p.v p.bg p.qg p.op 0 0 (.slice none 0 0)) ∧ Blk w' p.op 133 (coc 5 1 p.om l) ∧ w'.ownsRow w.heap.size 54 11 l 1 (anc 1 0 sA (.slice a 1 c))) ∧ Chg (fun j => p.d ≤ j) w w' := by
  obtain ⟨a1, a2, a3, a4, a5, a6, b0, b1, b2, b3, b4, b5, b6, b7, b8, b9⟩ := h.up
  have hnw := h.blk.lt
  have HU : Hid (p.n ≠ p.rg ∧ p.op ≠ p.rg ∧ p.om ≠ p.rg) := Lib.hid (by omega)
  have HUp := Lib.hid h.up
  have B1 := Blk.new w 46 (va fun _ => 0)
  have hC := (Chg.refl NoB w).alloc (.cells (va fun _ => 0) 46)
  have hz : w.heap.size + 1 ≤ (w.alloc (.cells (va fun _ => 0) 46)).heap.size := by simp
  replace hq := hq.st hC
  have hB := h.blk.st hC
  have hco := h.co.st hC
  have hse := h.se.st hC
  have hcm := (hC.block _ (map_lt h.cm) id).trans h.cm
  have HCl := Lib.hid (client_any (N := w.heap.size) hB (.inl (h.rg.st hC)) (by omega) h.up hco hcm k hk (by decide))
  have HB := Lib.hid hB
  have HCo := Lib.hid hco
  have HSe := Lib.hid hse
  have HCm := Lib.hid hcm
  have HQ := Lib.hid hq
  clear h hB hco hse hcm hq
  go_enter Tryz.func12, Tryz.ntmps12
  go_upto_region 1 with fail
  generalize w.alloc (Obj.cells _ 46) = W at *
  go_wp2_with fail
  refine HCl.out.mono ?_
  rintro e w1 ⟨rfl, hR, hC1⟩
  have no : ∀ j, j ≠ p.rg → ¬ Only p.rg j := fun j h1 h2 => h1 h2
  have HF1 : Hid (Chg (fun j => p.d ≤ j) w w1) := Lib.hid ((Chg.of_no hC).trans (hC1.mono fun j _ hj => by
    have h2 : j = p.rg := hj
    omega))
  have HR1 := Lib.hid hR
  have HB1 := Lib.hid (HB.out.chg hC1 HU.out.1)
  have HCo1 := Lib.hid (HCo.out.chg hC1 HU.out.2.1)
  have HCm1 : Hid (w1.heap[p.om]? = some (.map #[] 0)) := Lib.hid ((hC1.block _ (map_lt HCm.out) HU.out.2.2).trans HCm.out)
  have HSe1 := Lib.hid (HSe.out.chg_ hC1 (no _ (by omega)) (no _ (by omega)) (no _ (by omega)) (no _ (by omega)) (no _ (by omega)) (no _ (by omega)))
  have HV1 := Lib.hid (B1.chg hC1 (no _ (by omega)))
  have hz1 := Nat.le_trans hz hC1.size
  have HQ1 := Lib.hid (HQ.out.chg hC1 fun j hj _ => no j (hqB j hj))
  have HPu : Hid (∀ wa, Chg NoB w1 wa → Calls Tryz.prog 34 #[.pointer (some ⟨p.st, 0, none⟩), .int .i64 0, .string k, vec (fun _ => 0), q, .bool false] wa fun e w' => (∃ p, e = .returned (.tuple #[sbv sA p, .int .i64 0]) ∧ Rd w' (New wa) (vlsD sA.vals) p) ∧ Chg (Sf p.lg p.d p.mp) wa w') := Lib.hid fun wa ha => sput_none (HSe1.out.st ha) k hk (HQ1.out.st ha) hm
  have HHz1 := Lib.hid hz1
  have off : ∀ j, p.st < j → ¬ Sf p.lg p.d p.mp j := fun j h1 h => by
    rcases h with h | h | h <;> omega
  have offn := off p.n (by omega)
  have offv := off w.heap.size (by omega)
  have HOff := Lib.hid off
  clear hR hC1 hC hz B1 HB HCo HCm HSe HQ HCl no off
  go_upto_region 4 with fail
  refine start_ (n := 19) (S := fun w' => w'.cell? ⟨p.n, 9, none⟩ = some (.int .i64 0) ∧ w'.cell? ⟨p.n, 10, none⟩ = some (.pointer (some ⟨p.st, 0, none⟩)) ∧ w'.cell? ⟨w.heap.size, 0, none⟩ = some (.int .i64 0) ∧ w'.cell? ⟨w.heap.size, 1, none⟩ = some (.int .i64 0) ∧ w'.cell? ⟨w.heap.size, 2, none⟩ = some (.int .i64 0) ∧ w'.cell? ⟨w.heap.size, 3, none⟩ = some (.int .i64 0) ∧ w'.cell? ⟨w.heap.size, 4, none⟩ = some (.int .i64 0) ∧ w'.cell? ⟨w.heap.size, 5, none⟩ = some (.int .i64 0) ∧ w'.cell? ⟨w.heap.size, 6, none⟩ = some (.int .i64 0) ∧ w'.cell? ⟨w.heap.size, 7, none⟩ = some (.int .i64 0)) (ds := [17]) #[false, false, false, false, false, false, false, false, false, false, false, false, false, false, false, false, false, false, false] (by kernel_rfl) rfl rfl ⟨((HB1.out.chg (Chg.of_no (S := Sf p.lg p.d p.mp) (Chg.dr w1)) offn).cell 9), ((HB1.out.chg (Chg.of_no (S := Sf p.lg p.d p.mp) (Chg.dr w1)) offn).cell 10), ((HV1.out.chg (Chg.of_no (S := Sf p.lg p.d p.mp) (Chg.dr w1)) offv).cell 0), ((HV1.out.chg (Chg.of_no (S := Sf p.lg p.d p.mp) (Chg.dr w1)) offv).cell 1), ((HV1.out.chg (Chg.of_no (S := Sf p.lg p.d p.mp) (Chg.dr w1)) offv).cell 2), ((HV1.out.chg (Chg.of_no (S := Sf p.lg p.d p.mp) (Chg.dr w1)) offv).cell 3), ((HV1.out.chg (Chg.of_no (S := Sf p.lg p.d p.mp) (Chg.dr w1)) offv).cell 4), ((HV1.out.chg (Chg.of_no (S := Sf p.lg p.d p.mp) (Chg.dr w1)) offv).cell 5), ((HV1.out.chg (Chg.of_no (S := Sf p.lg p.d p.mp) (Chg.dr w1)) offv).cell 6), ((HV1.out.chg (Chg.of_no (S := Sf p.lg p.d p.mp) (Chg.dr w1)) offv).cell 7)⟩ (fun hHeld => ?_)
  refine pure_ (i := 0) (N := some 29) (v := ?_) (a' := ?_) #[true, false, false, false, false, false, false, false, false, false, false, false, false, false, false, false, false, false, false] rfl rfl (by kernel_rfl) (fun _ _ _ h => h) (Or.inl ⟨by rfl, ?_⟩) ?_ ?_
  rotate_left
  · intro w'
    go_simp
    with_reducible rfl
  rotate_left
  · simp only [Act.put, List.setIfInBounds_toArray, List.set_cons_zero, List.set_cons_succ]
    rfl
  refine pure_ (i := 1) (N := some 30) (v := ?_) (a' := ?_) #[true, true, false, false, false, false, false, false, false, false, false, false, false, false, false, false, false, false, false] rfl rfl (by kernel_rfl) (fun _ _ _ h => h) (Or.inl ⟨by rfl, ?_⟩) ?_ ?_
  rotate_left
  · intro w'
    go_simp
    with_reducible rfl
  rotate_left
  · simp only [Act.put, List.setIfInBounds_toArray, List.set_cons_zero, List.set_cons_succ]
    rfl
  refine pure_ (i := 2) (N := some 31) (v := ?_) (a' := ?_) #[true, true, true, false, false, false, false, false, false, false, false, false, false, false, false, false, false, false, false] rfl rfl (by kernel_rfl) (fun _ _ _ h => h) (Or.inl ⟨by rfl, ?_⟩) ?_ ?_
  rotate_left
  · intro w'
    go_simp
    with_reducible rfl
  rotate_left
  · simp only [Act.put, List.setIfInBounds_toArray, List.set_cons_zero, List.set_cons_succ]
    rfl
  refine pure_ (i := 4) (N := some 33) (v := ?_) (a' := ?_) #[true, true, true, false, true, false, false, false, false, false, false, false, false, false, false, false, false, false, false] rfl rfl (by kernel_rfl) (fun _ _ _ h => h) (Or.inl ⟨by rfl, ?_⟩) ?_ ?_
  rotate_left
  · intro w'
    go_simp
    with_reducible rfl
  rotate_left
  · simp only [Act.put, List.setIfInBounds_toArray, List.set_cons_zero, List.set_cons_succ]
    rfl
  refine pure_ (i := 5) (N := some 34) (v := ?_) (a' := ?_) #[true, true, true, false, true, true, false, false, false, false, false, false, false, false, false, false, false, false, false] rfl rfl (by kernel_rfl) (fun _ _ _ h => h) (Or.inl ⟨by rfl, ?_⟩) ?_ ?_
  rotate_left
  · intro w'
    go_simp
    with_reducible rfl
  rotate_left
  · simp only [Act.put, List.setIfInBounds_toArray, List.set_cons_zero, List.set_cons_succ]
    rfl
  refine pure_ (i := 6) (N := some 35) (v := ?_) (a' := ?_) #[true, true, true, false, true, true, true, false, false, false, false, false, false, false, false, false, false, false, false] rfl rfl (by kernel_rfl) (fun _ _ _ h => h) (Or.inl ⟨by rfl, ?_⟩) ?_ ?_
  rotate_left
  · intro w'
    go_simp
    with_reducible rfl
  rotate_left
  · simp only [Act.put, List.setIfInBounds_toArray, List.set_cons_zero, List.set_cons_succ]
    rfl
  refine pure_ (i := 8) (N := some 37) (v := ?_) (a' := ?_) #[true, true, true, false, true, true, true, false, true, false, false, false, false, false, false, false, false, false, false] rfl rfl (by kernel_rfl) (fun _ _ _ h => h) (Or.inl ⟨by rfl, ?_⟩) ?_ ?_
  rotate_left
  · intro w'
    go_simp
    with_reducible rfl
  rotate_left
  · simp only [Act.put, List.setIfInBounds_toArray, List.set_cons_zero, List.set_cons_succ]
    rfl
  refine pure_ (i := 10) (N := some 39) (v := ?_) (a' := ?_) #[true, true, true, false, true, true, true, false, true, false, true, false, false, false, false, false, false, false, false] rfl rfl (by kernel_rfl) (fun _ _ _ h => h) (Or.inl ⟨by rfl, ?_⟩) ?_ ?_
  rotate_left
  · intro w'
    go_simp
    with_reducible rfl
  rotate_left
  · simp only [Act.put, List.setIfInBounds_toArray, List.set_cons_zero, List.set_cons_succ]
    rfl
  refine pure_ (i := 11) (N := some 40) (v := ?_) (a' := ?_) #[true, true, true, false, true, true, true, false, true, false, true, true, false, false, false, false, false, false, false] rfl rfl (by kernel_rfl) (fun _ _ _ h => h) (Or.inl ⟨by rfl, ?_⟩) ?_ ?_
  rotate_left
  · intro w'
    go_simp
    with_reducible rfl
  rotate_left
  · simp only [Act.put, List.setIfInBounds_toArray, List.set_cons_zero, List.set_cons_succ]
    rfl
  refine take_ (i := 3) (N := some 32) (v := ?_) (a' := ?_) #[true, true, true, true, true, true, true, false, true, false, true, true, false, false, false, false, false, false, false] rfl rfl (by kernel_rfl) (fun _ _ _ h => h) (Or.inl ⟨by rfl, ?_⟩) hHeld ?_ ?_
  rotate_left
  · rintro w' ⟨s0, s1, s2, s3, s4, s5, s6, s7, s8, s9⟩
    go_simp
    with_reducible rfl
  rotate_left
  · simp only [Act.put, List.setIfInBounds_toArray, List.set_cons_zero, List.set_cons_succ]
    rfl
  refine take_ (i := 7) (N := some 36) (v := ?_) (a' := ?_) #[true, true, true, true, true, true, true, true, true, false, true, true, false, false, false, false, false, false, false] rfl rfl (by kernel_rfl) (fun _ _ _ h => h) (Or.inl ⟨by rfl, ?_⟩) hHeld ?_ ?_
  rotate_left
  · rintro w' ⟨s0, s1, s2, s3, s4, s5, s6, s7, s8, s9⟩
    go_simp
    with_reducible rfl
  rotate_left
  · simp only [Act.put, List.setIfInBounds_toArray, List.set_cons_zero, List.set_cons_succ]
    rfl
  refine take_ (i := 9) (N := some 38) (v := ?_) (a' := ?_) #[true, true, true, true, true, true, true, true, true, true, true, true, false, false, false, false, false, false, false] rfl rfl (by kernel_rfl) (fun _ _ _ h => h) (Or.inl ⟨by rfl, ?_⟩) hHeld ?_ ?_
  rotate_left
  · rintro w' ⟨s0, s1, s2, s3, s4, s5, s6, s7, s8, s9⟩
    go_simp
    with_reducible rfl
  rotate_left
  · simp only [Act.put, List.setIfInBounds_toArray, List.set_cons_zero, List.set_cons_succ]
    rfl
  refine join_ (σ := (Option Addr × Nat) × Nat) 2 #[true, true, true, true, true, true, true, true, true, true, true, true, true, true, true, true, true, false, false] (fun s => [(41, .tuple #[sbv sA (.slice s.1.1 sA.vals.length s.1.2), .int .i64 0]), (28, .tuple #[sbv sA (.slice s.1.1 sA.vals.length s.1.2), .int .i64 0]), (42, sbv sA (.slice s.1.1 sA.vals.length s.1.2)), (43, .int .i64 0), (13, .pointer (some ⟨s.2, 0, none⟩))]) (fun s w' => Chg (Sf p.lg p.d p.mp) w1 w' ∧ Blk w' s.2 52 sbz ∧ Rd w' (fun j => w1.heap.size ≤ j ∧ j ≠ s.2) (vlsD sA.vals) (.slice s.1.1 sA.vals.length s.1.2) ∧ w1.heap.size ≤ s.2) ?_ ?_
  rotate_left
  · intro hCont
    refine two_ (i := 12) (j := 16) (Ni := some 41) (Nj := some 13) #[true, true, true, true, true, true, true, true, true, true, true, true, true, false, false, false, false, false, false] #[true, true, true, true, true, true, true, true, true, true, true, true, false, false, false, false, true, false, false] rfl rfl rfl rfl (by kernel_rfl) (by decide) (by decide) (fun K hK => ?_) (fun K hK => ?_)
    · skip
      refine goes_ Tryz.func34 (by kernel_rfl) rfl #[.pointer (some ⟨p.st, 0, none⟩), .int .i64 0, .string k, vec (fun _ => 0), q, .bool false] (by rfl) rfl rfl (by simp only [List.map_toArray, List.map_cons, List.map_nil]; rfl) ?_
      with_reducible refine ((HPu.out _ (Chg.dr w1))).mono ?_
      rintro e w2 ⟨⟨p2, rfl, hp2⟩, hC2⟩
      refine ⟨_, rfl, ?_⟩
      obtain ⟨q2, k2, rfl, _⟩ := vls_form hp2
      have hcS := (Chg.of_no (S := Sf p.lg p.d p.mp) (Chg.dr w1)).trans hC2
      refine hK.out _ _ ⟨((HB1.out.chg hcS offn).cell 9), ((HB1.out.chg hcS offn).cell 10), ((HV1.out.chg hcS offv).cell 0), ((HV1.out.chg hcS offv).cell 1), ((HV1.out.chg hcS offv).cell 2), ((HV1.out.chg hcS offv).cell 3), ((HV1.out.chg hcS offv).cell 4), ((HV1.out.chg hcS offv).cell 5), ((HV1.out.chg hcS offv).cell 6), ((HV1.out.chg hcS offv).cell 7)⟩ (fun hHeld => ?_)
      clear hK K
      refine norm_ (a' := ?_) ?_ ?_
      rotate_left
      · show Act.put _ (some 41) _ = _
        simp only [Act.put, List.setIfInBounds_toArray, List.set_cons_zero, List.set_cons_succ]
        rfl
      refine pure_ (i := 13) (N := some 28) (v := ?_) (a' := ?_) #[true, true, true, true, true, true, true, true, true, true, true, true, true, true, false, false, false, false, false] rfl rfl (by kernel_rfl) (fun _ _ _ h => h) (Or.inl ⟨by rfl, ?_⟩) ?_ ?_
      rotate_left
      · intro w'
        go_simp
        with_reducible rfl
      rotate_left
      · simp only [Act.put, List.setIfInBounds_toArray, List.set_cons_zero, List.set_cons_succ]
        rfl
      refine pure_ (i := 14) (N := some 42) (v := ?_) (a' := ?_) #[true, true, true, true, true, true, true, true, true, true, true, true, true, true, true, false, false, false, false] rfl rfl (by kernel_rfl) (fun _ _ _ h => h) (Or.inl ⟨by rfl, ?_⟩) ?_ ?_
      rotate_left
      · intro w'
        go_simp
        with_reducible rfl
      rotate_left
      · simp only [Act.put, List.setIfInBounds_toArray, List.set_cons_zero, List.set_cons_succ]
        rfl
      refine pure_ (i := 15) (N := some 43) (v := ?_) (a' := ?_) #[true, true, true, true, true, true, true, true, true, true, true, true, true, true, true, true, false, false, false] rfl rfl (by kernel_rfl) (fun _ _ _ h => h) (Or.inl ⟨by rfl, ?_⟩) ?_ ?_
      rotate_left
      · intro w'
        go_simp
        with_reducible rfl
      rotate_left
      · simp only [Act.put, List.setIfInBounds_toArray, List.set_cons_zero, List.set_cons_succ]
        rfl
      refine one_ (i := 16) (N := some 13) #[true, true, true, true, true, true, true, true, true, true, true, true, true, true, true, true, true, false, false] rfl rfl (by kernel_rfl) (by decide) (fun K hK => ?_)
      refine value_ (w1 := ?_) (v := ?_) (by rfl) rfl ?_ ?_
      rotate_left 2
      · go_simp
        constructor
        · rfl
        · rfl
      refine hK.out _ _ ⟨((HB1.out.chg (hcS.trans (Chg.of_no (Chg.al w2 _))) offn).cell 9), ((HB1.out.chg (hcS.trans (Chg.of_no (Chg.al w2 _))) offn).cell 10), ((HV1.out.chg (hcS.trans (Chg.of_no (Chg.al w2 _))) offv).cell 0), ((HV1.out.chg (hcS.trans (Chg.of_no (Chg.al w2 _))) offv).cell 1), ((HV1.out.chg (hcS.trans (Chg.of_no (Chg.al w2 _))) offv).cell 2), ((HV1.out.chg (hcS.trans (Chg.of_no (Chg.al w2 _))) offv).cell 3), ((HV1.out.chg (hcS.trans (Chg.of_no (Chg.al w2 _))) offv).cell 4), ((HV1.out.chg (hcS.trans (Chg.of_no (Chg.al w2 _))) offv).cell 5), ((HV1.out.chg (hcS.trans (Chg.of_no (Chg.al w2 _))) offv).cell 6), ((HV1.out.chg (hcS.trans (Chg.of_no (Chg.al w2 _))) offv).cell 7)⟩ (fun hHeld => ?_)
      clear hK K
      refine norm_ (a' := ?_) ?_ ?_
      rotate_left
      · show Act.put _ (some 13) _ = _
        simp only [Act.put, List.setIfInBounds_toArray, List.set_cons_zero, List.set_cons_succ]
        rfl
      exact norm_ (by simp only [putAll, Act.put, List.setIfInBounds_toArray, List.set_cons_zero, List.set_cons_succ]) (hCont ((q2, k2), w2.heap.size) _ ⟨hcS.trans (Chg.of_no (Chg.al w2 _)), Blk.new _ _ _, (hp2.old.st (Chg.al w2 _)).mono fun j hj _ => ⟨hj.1, fun h => by have := hj.2; omega⟩, hcS.size⟩)
    · skip
      refine value_ (w1 := ?_) (v := ?_) (by rfl) rfl ?_ ?_
      rotate_left 2
      · go_simp
        constructor
        · rfl
        · rfl
      refine hK.out _ _ ⟨((HB1.out.chg (Chg.of_no (S := Sf p.lg p.d p.mp) ((Chg.dr w1).trans (Chg.al _ _))) offn).cell 9), ((HB1.out.chg (Chg.of_no (S := Sf p.lg p.d p.mp) ((Chg.dr w1).trans (Chg.al _ _))) offn).cell 10), ((HV1.out.chg (Chg.of_no (S := Sf p.lg p.d p.mp) ((Chg.dr w1).trans (Chg.al _ _))) offv).cell 0), ((HV1.out.chg (Chg.of_no (S := Sf p.lg p.d p.mp) ((Chg.dr w1).trans (Chg.al _ _))) offv).cell 1), ((HV1.out.chg (Chg.of_no (S := Sf p.lg p.d p.mp) ((Chg.dr w1).trans (Chg.al _ _))) offv).cell 2), ((HV1.out.chg (Chg.of_no (S := Sf p.lg p.d p.mp) ((Chg.dr w1).trans (Chg.al _ _))) offv).cell 3), ((HV1.out.chg (Chg.of_no (S := Sf p.lg p.d p.mp) ((Chg.dr w1).trans (Chg.al _ _))) offv).cell 4), ((HV1.out.chg (Chg.of_no (S := Sf p.lg p.d p.mp) ((Chg.dr w1).trans (Chg.al _ _))) offv).cell 5), ((HV1.out.chg (Chg.of_no (S := Sf p.lg p.d p.mp) ((Chg.dr w1).trans (Chg.al _ _))) offv).cell 6), ((HV1.out.chg (Chg.of_no (S := Sf p.lg p.d p.mp) ((Chg.dr w1).trans (Chg.al _ _))) offv).cell 7)⟩ (fun hHeld => ?_)
      clear hK K
      refine norm_ (a' := ?_) ?_ ?_
      rotate_left
      · show Act.put _ (some 13) _ = _
        simp only [Act.put, List.setIfInBounds_toArray, List.set_cons_zero, List.set_cons_succ]
        rfl
      refine one_ (i := 12) (N := some 41) #[true, true, true, true, true, true, true, true, true, true, true, true, true, false, false, false, true, false, false] rfl rfl (by kernel_rfl) (by decide) (fun K hK => ?_)
      refine goes_ Tryz.func34 (by kernel_rfl) rfl #[.pointer (some ⟨p.st, 0, none⟩), .int .i64 0, .string k, vec (fun _ => 0), q, .bool false] (by rfl) rfl rfl (by simp only [List.map_toArray, List.map_cons, List.map_nil]; rfl) ?_
      with_reducible refine ((HPu.out _ ((Chg.al w1 (.cells sbz 52)).drew))).mono ?_
      rintro e w2 ⟨⟨p2, rfl, hp2⟩, hC2⟩
      refine ⟨_, rfl, ?_⟩
      obtain ⟨q2, k2, rfl, _⟩ := vls_form hp2
      have hcS := (Chg.of_no (S := Sf p.lg p.d p.mp) ((Chg.al w1 (.cells sbz 52)).drew)).trans hC2
      have hb := ((Blk.new w1 52 sbz).drew).chg hC2 (HOff.out _ (by omega))
      refine hK.out _ _ ⟨((HB1.out.chg hcS offn).cell 9), ((HB1.out.chg hcS offn).cell 10), ((HV1.out.chg hcS offv).cell 0), ((HV1.out.chg hcS offv).cell 1), ((HV1.out.chg hcS offv).cell 2), ((HV1.out.chg hcS offv).cell 3), ((HV1.out.chg hcS offv).cell 4), ((HV1.out.chg hcS offv).cell 5), ((HV1.out.chg hcS offv).cell 6), ((HV1.out.chg hcS offv).cell 7)⟩ (fun hHeld => ?_)
      clear hK K
      refine norm_ (a' := ?_) ?_ ?_
      rotate_left
      · show Act.put _ (some 41) _ = _
        simp only [Act.put, List.setIfInBounds_toArray, List.set_cons_zero, List.set_cons_succ]
        rfl
      refine pure_ (i := 13) (N := some 28) (v := ?_) (a' := ?_) #[true, true, true, true, true, true, true, true, true, true, true, true, true, true, false, false, true, false, false] rfl rfl (by kernel_rfl) (fun _ _ _ h => h) (Or.inl ⟨by rfl, ?_⟩) ?_ ?_
      rotate_left
      · intro w'
        go_simp
        with_reducible rfl
      rotate_left
      · simp only [Act.put, List.setIfInBounds_toArray, List.set_cons_zero, List.set_cons_succ]
        rfl
      refine pure_ (i := 14) (N := some 42) (v := ?_) (a' := ?_) #[true, true, true, true, true, true, true, true, true, true, true, true, true, true, true, false, true, false, false] rfl rfl (by kernel_rfl) (fun _ _ _ h => h) (Or.inl ⟨by rfl, ?_⟩) ?_ ?_
      rotate_left
      · intro w'
        go_simp
        with_reducible rfl
      rotate_left
      · simp only [Act.put, List.setIfInBounds_toArray, List.set_cons_zero, List.set_cons_succ]
        rfl
      refine pure_ (i := 15) (N := some 43) (v := ?_) (a' := ?_) #[true, true, true, true, true, true, true, true, true, true, true, true, true, true, true, true, true, false, false] rfl rfl (by kernel_rfl) (fun _ _ _ h => h) (Or.inl ⟨by rfl, ?_⟩) ?_ ?_
      rotate_left
      · intro w'
        go_simp
        with_reducible rfl
      rotate_left
      · simp only [Act.put, List.setIfInBounds_toArray, List.set_cons_zero, List.set_cons_succ]
        rfl
      exact norm_ (by simp only [putAll, Act.put, List.setIfInBounds_toArray, List.set_cons_zero, List.set_cons_succ]) (hCont ((q2, k2), w1.heap.size) _ ⟨hcS, hb, hp2.mono fun j hj _ => ⟨by have : ((w1.alloc (.cells sbz 52)).drew).heap.size ≤ j := hj; simp at this; omega, fun h => by have : ((w1.alloc (.cells sbz 52)).drew).heap.size ≤ j := hj; simp at this; omega⟩, Nat.le_refl _⟩)
  rintro ⟨⟨q2, k2⟩, b2⟩ w2 ⟨hcS, hbz, hp2, hl2⟩
  dsimp only at hbz hp2 hl2
  have hHeld : w2.cell? ⟨p.n, 9, none⟩ = some (.int .i64 0) ∧ w2.cell? ⟨p.n, 10, none⟩ = some (.pointer (some ⟨p.st, 0, none⟩)) ∧ w2.cell? ⟨w.heap.size, 0, none⟩ = some (.int .i64 0) ∧ w2.cell? ⟨w.heap.size, 1, none⟩ = some (.int .i64 0) ∧ w2.cell? ⟨w.heap.size, 2, none⟩ = some (.int .i64 0) ∧ w2.cell? ⟨w.heap.size, 3, none⟩ = some (.int .i64 0) ∧ w2.cell? ⟨w.heap.size, 4, none⟩ = some (.int .i64 0) ∧ w2.cell? ⟨w.heap.size, 5, none⟩ = some (.int .i64 0) ∧ w2.cell? ⟨w.heap.size, 6, none⟩ = some (.int .i64 0) ∧ w2.cell? ⟨w.heap.size, 7, none⟩ = some (.int .i64 0) := ⟨((HB1.out.chg hcS offn).cell 9), ((HB1.out.chg hcS offn).cell 10), ((HV1.out.chg hcS offv).cell 0), ((HV1.out.chg hcS offv).cell 1), ((HV1.out.chg hcS offv).cell 2), ((HV1.out.chg hcS offv).cell 3), ((HV1.out.chg hcS offv).cell 4), ((HV1.out.chg hcS offv).cell 5), ((HV1.out.chg hcS offv).cell 6), ((HV1.out.chg hcS offv).cell 7)⟩
  obtain ⟨y0, y1, y2, y3, y4, y5, y6, y7, y8⟩ := cells9 hbz
  obtain ⟨z0, z1, z2, z3, z4, z5, z6, z7, z8⟩ := frz9 hbz
  refine norm_ (a' := ?_) ?_ ?_
  rotate_left
  · simp only [putAll, Act.put, List.setIfInBounds_toArray, List.set_cons_zero, List.set_cons_succ]
    rfl
  refine last_ (i := 17) (N := none) #[true, true, true, true, true, true, true, true, true, true, true, true, true, true, true, true, true, true, false] rfl rfl (by kernel_rfl) (by decide) (fun K hK => ?_)
  refine skip_ (w1 := ?_) (by rfl) rfl ?_ ?_
  rotate_left
  · go_simp
    rfl
  refine hK.out _ _ ?_
  clear hK K
  refine pure_ (i := 18) (N := some 14) (v := ?_) (a' := ?_) #[true, true, true, true, true, true, true, true, true, true, true, true, true, true, true, true, true, true, true] rfl rfl (by kernel_rfl) (fun _ _ _ h => h) (Or.inl ⟨by rfl, ?_⟩) ?_ ?_
  rotate_left
  · intro w'
    go_simp
    with_reducible rfl
  rotate_left
  · simp only [Act.put, List.setIfInBounds_toArray, List.set_cons_zero, List.set_cons_succ]
    rfl
  refine done_ (by kernel_rfl) ?_
  have hO := ((((((((((Chg.refl (Only b2) w2).setOwn 0 (Value.int .i64 (sA.seen 0))).setOwn 1 (Value.int .i64 (sA.seen 1))).setOwn 2 (Value.int .i64 (sA.seen 2))).setOwn 3 (Value.int .i64 (sA.seen 3))).setOwn 4 (Value.int .i64 (sA.seen 4))).setOwn 5 (Value.int .i64 (sA.seen 5))).setOwn 6 (Value.int .i64 (sA.seen 6))).setOwn 7 (Value.int .i64 (sA.seen 7))).setOwn 8 (Value.slice q2 sA.vals.length k2))
  have B3 := set9 hbz (Value.int .i64 (sA.seen 0)) (Value.int .i64 (sA.seen 1)) (Value.int .i64 (sA.seen 2)) (Value.int .i64 (sA.seen 3)) (Value.int .i64 (sA.seen 4)) (Value.int .i64 (sA.seen 5)) (Value.int .i64 (sA.seen 6)) (Value.int .i64 (sA.seen 7)) (Value.slice q2 sA.vals.length k2)
  generalize (((((((((w2.setCell ⟨b2, 0, none⟩ (Value.int .i64 (sA.seen 0))).setCell ⟨b2, 1, none⟩ (Value.int .i64 (sA.seen 1))).setCell ⟨b2, 2, none⟩ (Value.int .i64 (sA.seen 2))).setCell ⟨b2, 3, none⟩ (Value.int .i64 (sA.seen 3))).setCell ⟨b2, 4, none⟩ (Value.int .i64 (sA.seen 4))).setCell ⟨b2, 5, none⟩ (Value.int .i64 (sA.seen 5))).setCell ⟨b2, 6, none⟩ (Value.int .i64 (sA.seen 6))).setCell ⟨b2, 7, none⟩ (Value.int .i64 (sA.seen 7))).setCell ⟨b2, 8, none⟩ (Value.slice q2 sA.vals.length k2)) = W3 at *
  have HB1z := hcS.size
  have hC3 := hcS.then_ hO fun j hj h => by
    have h2 : j = b2 := h
    omega
  have HF3 : Hid (Chg (fun j => p.d ≤ j) w W3) := Lib.hid (HF1.out.trans (hC3.mono fun j _ hj => by rcases hj with h | h | h <;> omega))
  have HB3 := Lib.hid (HB1.out.chg hC3 offn)
  have HR3 := Lib.hid (HR1.out.chg hC3 (HOff.out _ (by omega)) fun j hj => HOff.out j (by omega))
  have HCo3 := Lib.hid (HCo1.out.chg hC3 (HOff.out _ (by omega)))
  have HCm3 : Hid (W3.heap[p.om]? = some (.map #[] 0)) := Lib.hid ((hC3.block _ (map_lt HCm1.out) (HOff.out _ (by omega))).trans HCm1.out)
  have HP3 := Lib.hid (hp2.chg hO fun j hj _ h => hj.2 h)
  have hz3 := Nat.le_trans HHz1.out hC3.size
  have hb2 : w.heap.size < b2 := by have := HHz1.out; omega
  have HWr := Lib.hid (cwrite_one (w := W3.drew) HCo3.out.drew (show W3.drew.heap[p.om]? = _ from HCm3.out) k hk (HP3.out.st (Chg.dr W3)) fun j hj => by
    have h1 := hj.1
    have := HHz1.out
    omega)
  have HB3s := Lib.hid B3
  clear y0 y1 y2 y3 y4 y5 y6 y7 y8 z0 z1 z2 z3 z4 z5 z6 z7 z8 hO hC3 hcS hbz hp2 offn offv B3 HB1 HV1 HPu HQ1 HSe1 HCo1 HCm1 HR1
  go_upto_region 7 with fail
  refine start_ (n := 21) (S := fun w' => w'.cell? ⟨p.n, 3, none⟩ = some (.int .i64 1) ∧ w'.cell? ⟨p.n, 9, none⟩ = some (.int .i64 0) ∧ w'.cell? ⟨p.n, 15, none⟩ = some (.pointer (some ⟨p.op, 0, none⟩)) ∧ w'.cell? ⟨b2, 0, none⟩ = some (.int .i64 (sA.seen 0)) ∧ w'.cell? ⟨b2, 1, none⟩ = some (.int .i64 (sA.seen 1)) ∧ w'.cell? ⟨b2, 2, none⟩ = some (.int .i64 (sA.seen 2)) ∧ w'.cell? ⟨b2, 3, none⟩ = some (.int .i64 (sA.seen 3)) ∧ w'.cell? ⟨b2, 4, none⟩ = some (.int .i64 (sA.seen 4)) ∧ w'.cell? ⟨b2, 5, none⟩ = some (.int .i64 (sA.seen 5)) ∧ w'.cell? ⟨b2, 6, none⟩ = some (.int .i64 (sA.seen 6)) ∧ w'.cell? ⟨b2, 7, none⟩ = some (.int .i64 (sA.seen 7)) ∧ w'.cell? ⟨b2, 8, none⟩ = some (.slice q2 sA.vals.length k2)) (ds := [15]) #[false, false, false, false, false, false, false, false, false, false, false, false, false, false, false, false, false, false, false, false, false] (by kernel_rfl) rfl rfl ⟨(HB3.out.drew.cell 3), (HB3.out.drew.cell 9), (HB3.out.drew.cell 15), (HB3s.out.drew.cell 0), (HB3s.out.drew.cell 1), (HB3s.out.drew.cell 2), (HB3s.out.drew.cell 3), (HB3s.out.drew.cell 4), (HB3s.out.drew.cell 5), (HB3s.out.drew.cell 6), (HB3s.out.drew.cell 7), (HB3s.out.drew.cell 8)⟩ (fun hHeld => ?_)
  refine pure_ (i := 0) (N := some 48) (v := ?_) (a' := ?_) #[true, false, false, false, false, false, false, false, false, false, false, false, false, false, false, false, false, false, false, false, false] rfl rfl (by kernel_rfl) (fun _ _ _ h => h) (Or.inl ⟨by rfl, ?_⟩) ?_ ?_
  rotate_left
  · intro w'
    go_simp
    with_reducible rfl
  rotate_left
  · simp only [Act.put, List.setIfInBounds_toArray, List.set_cons_zero, List.set_cons_succ]
    rfl
  refine pure_ (i := 1) (N := some 49) (v := ?_) (a' := ?_) #[true, true, false, false, false, false, false, false, false, false, false, false, false, false, false, false, false, false, false, false, false] rfl rfl (by kernel_rfl) (fun _ _ _ h => h) (Or.inl ⟨by rfl, ?_⟩) ?_ ?_
  rotate_left
  · intro w'
    go_simp
    with_reducible rfl
  rotate_left
  · simp only [Act.put, List.setIfInBounds_toArray, List.set_cons_zero, List.set_cons_succ]
    rfl
  refine pure_ (i := 2) (N := some 50) (v := ?_) (a' := ?_) #[true, true, true, false, false, false, false, false, false, false, false, false, false, false, false, false, false, false, false, false, false] rfl rfl (by kernel_rfl) (fun _ _ _ h => h) (Or.inl ⟨by rfl, ?_⟩) ?_ ?_
  rotate_left
  · intro w'
    go_simp
    with_reducible rfl
  rotate_left
  · simp only [Act.put, List.setIfInBounds_toArray, List.set_cons_zero, List.set_cons_succ]
    rfl
  refine pure_ (i := 4) (N := some 52) (v := ?_) (a' := ?_) #[true, true, true, false, true, false, false, false, false, false, false, false, false, false, false, false, false, false, false, false, false] rfl rfl (by kernel_rfl) (fun _ _ _ h => h) (Or.inl ⟨by rfl, ?_⟩) ?_ ?_
  rotate_left
  · intro w'
    go_simp
    with_reducible rfl
  rotate_left
  · simp only [Act.put, List.setIfInBounds_toArray, List.set_cons_zero, List.set_cons_succ]
    rfl
  refine pure_ (i := 5) (N := some 53) (v := ?_) (a' := ?_) #[true, true, true, false, true, true, false, false, false, false, false, false, false, false, false, false, false, false, false, false, false] rfl rfl (by kernel_rfl) (fun _ _ _ h => h) (Or.inl ⟨by rfl, ?_⟩) ?_ ?_
  rotate_left
  · intro w'
    go_simp
    with_reducible rfl
  rotate_left
  · simp only [Act.put, List.setIfInBounds_toArray, List.set_cons_zero, List.set_cons_succ]
    rfl
  refine pure_ (i := 6) (N := some 54) (v := ?_) (a' := ?_) #[true, true, true, false, true, true, true, false, false, false, false, false, false, false, false, false, false, false, false, false, false] rfl rfl (by kernel_rfl) (fun _ _ _ h => h) (Or.inl ⟨by rfl, ?_⟩) ?_ ?_
  rotate_left
  · intro w'
    go_simp
    with_reducible rfl
  rotate_left
  · simp only [Act.put, List.setIfInBounds_toArray, List.set_cons_zero, List.set_cons_succ]
    rfl
  refine pure_ (i := 8) (N := some 56) (v := ?_) (a' := ?_) #[true, true, true, false, true, true, true, false, true, false, false, false, false, false, false, false, false, false, false, false, false] rfl rfl (by kernel_rfl) (fun _ _ _ h => h) (Or.inl ⟨by rfl, ?_⟩) ?_ ?_
  rotate_left
  · intro w'
    go_simp
    with_reducible rfl
  rotate_left
  · simp only [Act.put, List.setIfInBounds_toArray, List.set_cons_zero, List.set_cons_succ]
    rfl
  refine pure_ (i := 9) (N := some 57) (v := ?_) (a' := ?_) #[true, true, true, false, true, true, true, false, true, true, false, false, false, false, false, false, false, false, false, false, false] rfl rfl (by kernel_rfl) (fun _ _ _ h => h) (Or.inl ⟨by rfl, ?_⟩) ?_ ?_
  rotate_left
  · intro w'
    go_simp
    with_reducible rfl
  rotate_left
  · simp only [Act.put, List.setIfInBounds_toArray, List.set_cons_zero, List.set_cons_succ]
    rfl
  refine pure_ (i := 10) (N := some 58) (v := ?_) (a' := ?_) #[true, true, true, false, true, true, true, false, true, true, true, false, false, false, false, false, false, false, false, false, false] rfl rfl (by kernel_rfl) (fun _ _ _ h => h) (Or.inl ⟨by rfl, ?_⟩) ?_ ?_
  rotate_left
  · intro w'
    go_simp
    with_reducible rfl
  rotate_left
  · simp only [Act.put, List.setIfInBounds_toArray, List.set_cons_zero, List.set_cons_succ]
    rfl
  refine pure_ (i := 11) (N := some 59) (v := ?_) (a' := ?_) #[true, true, true, false, true, true, true, false, true, true, true, true, false, false, false, false, false, false, false, false, false] rfl rfl (by kernel_rfl) (fun _ _ _ h => h) (Or.inl ⟨by rfl, ?_⟩) ?_ ?_
  rotate_left
  · intro w'
    go_simp
    with_reducible rfl
  rotate_left
  · simp only [Act.put, List.setIfInBounds_toArray, List.set_cons_zero, List.set_cons_succ]
    rfl
  refine pure_ (i := 13) (N := some 61) (v := ?_) (a' := ?_) #[true, true, true, false, true, true, true, false, true, true, true, true, false, true, false, false, false, false, false, false, false] rfl rfl (by kernel_rfl) (fun _ _ _ h => h) (Or.inl ⟨by rfl, ?_⟩) ?_ ?_
  rotate_left
  · intro w'
    go_simp
    with_reducible rfl
  rotate_left
  · simp only [Act.put, List.setIfInBounds_toArray, List.set_cons_zero, List.set_cons_succ]
    rfl
  refine take_ (i := 3) (N := some 51) (v := ?_) (a' := ?_) #[true, true, true, true, true, true, true, false, true, true, true, true, false, true, false, false, false, false, false, false, false] rfl rfl (by kernel_rfl) (fun _ _ _ h => h) (Or.inl ⟨by rfl, ?_⟩) hHeld ?_ ?_
  rotate_left
  · rintro w' ⟨s0, s1, s2, s3, s4, s5, s6, s7, s8, s9, s10, s11⟩
    go_simp
    with_reducible rfl
  rotate_left
  · simp only [Act.put, List.setIfInBounds_toArray, List.set_cons_zero, List.set_cons_succ]
    rfl
  refine take_ (i := 7) (N := some 55) (v := ?_) (a' := ?_) #[true, true, true, true, true, true, true, true, true, true, true, true, false, true, false, false, false, false, false, false, false] rfl rfl (by kernel_rfl) (fun _ _ _ h => h) (Or.inl ⟨by rfl, ?_⟩) hHeld ?_ ?_
  rotate_left
  · rintro w' ⟨s0, s1, s2, s3, s4, s5, s6, s7, s8, s9, s10, s11⟩
    go_simp
    with_reducible rfl
  rotate_left
  · simp only [Act.put, List.setIfInBounds_toArray, List.set_cons_zero, List.set_cons_succ]
    rfl
  refine take_ (i := 12) (N := some 60) (v := ?_) (a' := ?_) #[true, true, true, true, true, true, true, true, true, true, true, true, true, true, false, false, false, false, false, false, false] rfl rfl (by kernel_rfl) (fun _ _ _ h => h) (Or.inl ⟨by rfl, ?_⟩) hHeld ?_ ?_
  rotate_left
  · rintro w' ⟨s0, s1, s2, s3, s4, s5, s6, s7, s8, s9, s10, s11⟩
    go_simp
    with_reducible rfl
  rotate_left
  · simp only [Act.put, List.setIfInBounds_toArray, List.set_cons_zero, List.set_cons_succ]
    rfl
  refine take_ (i := 14) (N := some 62) (v := ?_) (a' := ?_) #[true, true, true, true, true, true, true, true, true, true, true, true, true, true, true, false, false, false, false, false, false] rfl rfl (by kernel_rfl) (fun _ _ _ h => h) (Or.inl ⟨by rfl, ?_⟩) hHeld ?_ ?_
  rotate_left
  · rintro w' ⟨s0, s1, s2, s3, s4, s5, s6, s7, s8, s9, s10, s11⟩
    go_simp
    with_reducible rfl
  rotate_left
  · simp only [Act.put, List.setIfInBounds_toArray, List.set_cons_zero, List.set_cons_succ]
    rfl
  refine last_ (i := 15) (N := some 63) #[true, true, true, true, true, true, true, true, true, true, true, true, true, true, true, true, false, false, false, false, false] rfl rfl (by kernel_rfl) (by decide) (fun K hK => ?_)
  refine goes_ Tryz.func35 (by kernel_rfl) rfl #[.pointer (some ⟨p.op, 0, none⟩), .int .i64 0, .int .i64 1, .string k, sbv sA (.slice q2 sA.vals.length k2)] (by rfl) rfl rfl (by simp only [List.map_toArray, List.map_cons, List.map_nil]; rfl) ?_
  with_reducible refine (HWr.out).mono ?_
  rintro e w4 ⟨rfl, ⟨l, a, c, hBc, hOl⟩, hC4⟩
  refine ⟨_, rfl, ?_⟩
  have HBc := Lib.hid hBc
  have HOl := Lib.hid hOl
  have HC4 := Lib.hid hC4
  clear hBc hOl hC4
  refine hK.out _ _ ?_
  clear hK K
  refine norm_ (a' := ?_) ?_ ?_
  rotate_left
  · show Act.put _ (some 63) _ = _
    simp only [Act.put, List.setIfInBounds_toArray, List.set_cons_zero, List.set_cons_succ]
    rfl
  refine pure_ (i := 16) (N := some 47) (v := ?_) (a' := ?_) #[true, true, true, true, true, true, true, true, true, true, true, true, true, true, true, true, true, false, false, false, false] rfl rfl (by kernel_rfl) (fun _ _ _ h => h) (Or.inl ⟨by rfl, ?_⟩) ?_ ?_
  rotate_left
  · intro w'
    go_simp
    with_reducible rfl
  rotate_left
  · simp only [Act.put, List.setIfInBounds_toArray, List.set_cons_zero, List.set_cons_succ]
    rfl
  refine pure_ (i := 17) (N := some 64) (v := ?_) (a' := ?_) #[true, true, true, true, true, true, true, true, true, true, true, true, true, true, true, true, true, true, false, false, false] rfl rfl (by kernel_rfl) (fun _ _ _ h => h) (Or.inl ⟨by rfl, ?_⟩) ?_ ?_
  rotate_left
  · intro w'
    go_simp
    with_reducible rfl
  rotate_left
  · simp only [Act.put, List.setIfInBounds_toArray, List.set_cons_zero, List.set_cons_succ]
    rfl
  refine pure_ (i := 18) (N := some 65) (v := ?_) (a' := ?_) #[true, true, true, true, true, true, true, true, true, true, true, true, true, true, true, true, true, true, true, false, false] rfl rfl (by kernel_rfl) (fun _ _ _ h => h) (Or.inl ⟨by rfl, ?_⟩) ?_ ?_
  rotate_left
  · intro w'
    go_simp
    with_reducible rfl
  rotate_left
  · simp only [Act.put, List.setIfInBounds_toArray, List.set_cons_zero, List.set_cons_succ]
    rfl
  refine pure_ (i := 19) (N := some 15) (v := ?_) (a' := ?_) #[true, true, true, true, true, true, true, true, true, true, true, true, true, true, true, true, true, true, true, true, false] rfl rfl (by kernel_rfl) (fun _ _ _ h => h) (Or.inl ⟨by rfl, ?_⟩) ?_ ?_
  rotate_left
  · intro w'
    go_simp
    with_reducible rfl
  rotate_left
  · simp only [Act.put, List.setIfInBounds_toArray, List.set_cons_zero, List.set_cons_succ]
    rfl
  refine pure_ (i := 20) (N := some 14) (v := ?_) (a' := ?_) #[true, true, true, true, true, true, true, true, true, true, true, true, true, true, true, true, true, true, true, true, true] rfl rfl (by kernel_rfl) (fun _ _ _ h => h) (Or.inl ⟨by rfl, ?_⟩) ?_ ?_
  rotate_left
  · intro w'
    go_simp
    with_reducible rfl
  rotate_left
  · simp only [Act.put, List.setIfInBounds_toArray, List.set_cons_zero, List.set_cons_succ]
    rfl
  refine done_ (by kernel_rfl) ?_
  have hC4 : Chg (fun j => j = p.op ∨ j = p.om) W3 w4 := (Chg.of_no (Chg.dr W3)).trans HC4.out
  have of4 : ∀ j, j ≠ p.op → j ≠ p.om → ¬ (j = p.op ∨ j = p.om) := fun j h1 h2 h => h.elim h1 h2
  have HF4 : Hid (Chg (fun j => p.d ≤ j) w w4) := Lib.hid (HF3.out.trans (hC4.mono fun j _ hj => by rcases hj with h | h <;> omega))
  have HB4 := Lib.hid (HB3.out.chg hC4 (of4 _ (by omega) (by omega)))
  have HB4s := HB3s.out.chg hC4 (of4 _ (by omega) (by omega))
  have HR4 := Lib.hid (HR3.out.chg hC4 (of4 _ (by omega) (by omega)) fun j hj => of4 _ (by omega) (by omega))
  have hz4 := Nat.le_trans hz3 hC4.size
  have hOl := own_baseR (b2 := w.heap.size) HOl.out fun j hj => by
    have h1 := (HOl.out.lt j hj).1
    have h2 : W3.heap.size ≤ j := h1
    omega
  have HOl4 := Lib.hid hOl
  clear hC4 of4 HB3 HB3s HR3 HCo3 HCm3 HP3 HWr HC4 HOl hOl
  obtain ⟨y0, y1, y2, y3, y4, y5, y6, y7, y8⟩ := cells9 HB4s
  go_upto_region 12 with fail
  clear y0 y1 y2 y3 y4 y5 y6 y7 y8 HB4s
  have hCe := Chg.al w4 (.cells (enc_ ⟨k, sA⟩ (.slice q2 sA.vals.length k2)) 87)
  have HF5 := Lib.hid (HF4.out.st hCe)
  have HB5 := Lib.hid (HB4.out.st hCe)
  have HR5 := Lib.hid (HR4.out.st hCe)
  have HBc5 := Lib.hid (HBc.out.st hCe)
  have HO5 := Lib.hid (own_chg HOl4.out hCe fun _ _ => id)
  have hz5 := Nat.le_trans hz4 hCe.size
  generalize w4.alloc (Obj.cells _ 87) = W5 at *
  have HOt := Lib.hid (others_any (N := w.heap.size) HB5.out (.inr HR5.out) (by omega) HU.out.1 k (by omega) (by decide))
  clear hCe
  go_wp2_with fail
  refine HOt.out.mono ?_
  rintro e w6 ⟨⟨oa, ocp, rfl⟩, hC6⟩
  have HE : Hid (∃ l a c, Blk w6 p.n 75 (ndc cg0 0 p.st p.rg p.v p.bg p.qg p.op 0 0 (.slice none 0 0)) ∧ Blk w6 p.op 133 (coc 5 1 p.om l) ∧ w6.ownsRow w.heap.size 54 11 l 1 (anc 1 0 sA (.slice a 1 c))) :=
    Lib.hid ⟨l, a, c, HB5.out.chg hC6 HU.out.1, HBc5.out.chg hC6 HU.out.2.1, own_chg HO5.out hC6 fun j hj h => by
      have h1 := (HO5.out.lt j hj).1
      have h2 : j = p.rg := h
      omega⟩
  have HF6 : Hid (Chg (fun j => p.d ≤ j) w w6) := Lib.hid (HF5.out.trans (hC6.mono fun j _ hj => by
    have h2 : j = p.rg := hj
    omega))
  clear hC6
  go_upto_block 0 with fail
  obtain ⟨wo, hwo⟩ : ∃ wo : World, wo = w6 := ⟨_, rfl⟩
  go_wp2_with fail
  go_loopw [77] (fun i wr => i = .int .i64 0 ∧ wr = wo) (fun _ _ => 0)
  case atStart => exact ⟨rfl, hwo.symm⟩
  case round =>
    obtain ⟨rfl, rfl⟩ := hrel
    subst hwo
    go_wp2_with fail
    go_ret2
    exact ⟨rfl, HE.out, HF6.out⟩
end
end Go.Proofs.YtoefffjhjmjhfaaGreat
