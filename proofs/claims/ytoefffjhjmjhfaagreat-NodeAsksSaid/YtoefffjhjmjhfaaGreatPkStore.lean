/- A store's first key: the record, the table's answer, the table's join. No statement is proved here. A store's first write. No statement is proved here. -/
import Derived.Test.YtoefffjhjmjhfaaGreatSWrite
import Derived.Test.YtoefffjhjmjhfaaGreatPkFrame
import Derived.Test.YtoefffjhjmjhfaaGreatPkSibt
import Derived.Test.YtoefffjhjmjhfaaGreatMaps
import Derived.Test.YtoefffjhjmjhfaaGreatRing
import Derived.Test.YtoefffjhjmjhfaaGreatNState
namespace Go.Proofs.YtoefffjhjmjhfaaGreat
open Go.RowKit Go.Proofs.YtoefffjhjmjhfaaGreatW.PrintLast
attribute [local go_sem] max2_mx min2_mn max_two_ min_two_
set_option maxRecDepth 100000

/-- Siblings of one value at most, that may be: joined with themselves they stay. -/
structure One (s : Sb) : Prop where
  may : maySb s = true
  jl : joinL s s = s.vals
  len : s.vals.length ≤ 1
theorem one_A : One sA := ⟨mayA, joinL_A, by decide⟩
theorem one_0 : One sb0 := ⟨may0, joinL_0, by decide⟩
section
variable {w w' : World} {A B : Nat → Prop}
theorem join_one {s : Sb} (h : One s) {p q : Value} (hp : Rd w A (vlsD s.vals) p) (hq : Rd w B (vlsD s.vals) q) : Calls Tryz.prog 149 #[sbv s p, sbv s q] w fun e w' => (∃ p, e = .returned (sbv s p) ∧ Rd w' (New w) (vlsD s.vals) p) ∧ Chg NoB w w' :=
  (joinS_any s s p q hp hq).mono fun _ _ hh => hh.to h.may h.may (jn_self _) h.jl h.len
theorem tcopied_one {s : Sb} (h : One s) {p : Value} (hp : Rd w A (vlsD s.vals) p) : Calls Tryz.prog 135 #[sbv s p] w fun e w' => (∃ p, e = .returned (sbv s p) ∧ Rd w' (New w) (vlsD s.vals) p) ∧ Chg NoB w w' := by
  obtain ⟨p1, c1, rfl, _⟩ := vls_form hp
  have B1 := (Blk.new w 52 (sbc s (.slice p1 s.vals.length c1))).alloc (.cells sbz 52)
  have B2 := Blk.new_ (k := w.heap.size + 1) (w.alloc (.cells (sbc s (.slice p1 s.vals.length c1)) 52)) 52 sbz (by simp)
  have hC := ((Chg.refl NoB w).alloc (.cells (sbc s (.slice p1 s.vals.length c1)) 52)).alloc (.cells sbz 52)
  replace hp := hp.st hC
  have hz : w.heap.size + 2 ≤ ((w.alloc (.cells (sbc s (.slice p1 s.vals.length c1)) 52)).alloc (.cells sbz 52)).heap.size := by simp
  go_enter Tryz.func135, Tryz.ntmps135
  go_upto_region 1 with fail
  generalize (w.alloc (Obj.cells _ 52)).alloc (Obj.cells _ 52) = W at *
  obtain ⟨d0, d1, d2, d3, d4, d5, d6, d7, d8⟩ := cells9 B1
  go_wp2_with fail
  refine (join_one h hp hp).mono ?_
  rintro e w1 ⟨⟨p2, rfl, hp2⟩, hC1⟩
  obtain ⟨q1, e1, rfl, _⟩ := vls_form hp2
  replace B2 := B2.st hC1
  replace hC := hC.st hC1
  have HP := Lib.hid hp2
  have hz1 := Nat.le_trans hz hC1.size
  clear hC1 hp2 d0 d1 d2 d3 d4 d5 d6 d7 d8
  obtain ⟨e0, e1, e2, e3, e4, e5, e6, e7, e8⟩ := cells9 B2
  obtain ⟨f0, f1, f2, f3, f4, f5, f6, f7, f8⟩ := frz9 B2
  go_wp2_with fail
  exact back_row rfl rfl (set9 B2 _ _ _ _ _ _ _ _ _) Tryz.underlying52 rfl infS rfl ⟨⟨_, rfl, (rd9 HP.out (by show ¬ W.heap.size ≤ w.heap.size + 1; omega) _ _ _ _ _ _ _ _ _).mono fun k hk _ => by have : W.heap.size ≤ k := hk; show w.heap.size ≤ k; omega⟩, chg9 hC (by omega) _ _ _ _ _ _ _ _ _⟩
theorem ccopied_one {s : Sb} (h : One s) {p : Value} (hp : Rd w A (vlsD s.vals) p) : Calls Tryz.prog 110 #[sbv s p] w fun e w' => (∃ p, e = .returned (sbv s p) ∧ Rd w' (New w) (vlsD s.vals) p) ∧ Chg NoB w w' := by
  obtain ⟨p1, c1, rfl, _⟩ := vls_form hp
  have B1 := (Blk.new w 52 (sbc s (.slice p1 s.vals.length c1))).alloc (.cells sbz 52)
  have B2 := Blk.new_ (k := w.heap.size + 1) (w.alloc (.cells (sbc s (.slice p1 s.vals.length c1)) 52)) 52 sbz (by simp)
  have hC := ((Chg.refl NoB w).alloc (.cells (sbc s (.slice p1 s.vals.length c1)) 52)).alloc (.cells sbz 52)
  replace hp := hp.st hC
  have hz : w.heap.size + 2 ≤ ((w.alloc (.cells (sbc s (.slice p1 s.vals.length c1)) 52)).alloc (.cells sbz 52)).heap.size := by simp
  go_enter Tryz.func110, Tryz.ntmps110
  go_upto_region 1 with fail
  generalize (w.alloc (Obj.cells _ 52)).alloc (Obj.cells _ 52) = W at *
  obtain ⟨d0, d1, d2, d3, d4, d5, d6, d7, d8⟩ := cells9 B1
  go_wp2_with fail
  refine (join_one h hp hp).mono ?_
  rintro e w1 ⟨⟨p2, rfl, hp2⟩, hC1⟩
  obtain ⟨q1, e1, rfl, _⟩ := vls_form hp2
  replace B2 := B2.st hC1
  replace hC := hC.st hC1
  have HP := Lib.hid hp2
  have hz1 := Nat.le_trans hz hC1.size
  clear hC1 hp2 d0 d1 d2 d3 d4 d5 d6 d7 d8
  obtain ⟨e0, e1, e2, e3, e4, e5, e6, e7, e8⟩ := cells9 B2
  obtain ⟨f0, f1, f2, f3, f4, f5, f6, f7, f8⟩ := frz9 B2
  go_wp2_with fail
  exact back_row rfl rfl (set9 B2 _ _ _ _ _ _ _ _ _) Tryz.underlying52 rfl infS rfl ⟨⟨_, rfl, (rd9 HP.out (by show ¬ W.heap.size ≤ w.heap.size + 1; omega) _ _ _ _ _ _ _ _ _).mono fun k hk _ => by have : W.heap.size ≤ k := hk; show w.heap.size ≤ k; omega⟩, chg9 hC (by omega) _ _ _ _ _ _ _ _ _⟩
theorem map_lt' {w : World} {m clock : Nat} {es : Array MapEntry} (h : w.heap[m]? = some (.map es clock)) : m < w.heap.size := (Array.getElem?_eq_some_iff.1 h).1
theorem zeroS (w : World) : (zeroValue 52).run Tryz.prog w = .ok (.agg sbz) w := by kernel_rfl
set_option maxHeartbeats 4000000 in
theorem tget_none {tb mp clock : Nat} (hB : Blk w tb 199 #[.map (some mp)]) (hM : w.heap[mp]? = some (.map #[] clock)) (k : ByteArray) :
    Calls Tryz.prog 79 #[.pointer (some ⟨tb, 0, none⟩), .string k] w fun e w' => (∃ p, e = .returned (.tuple #[sbv sb0 p, .bool false]) ∧ Rd w' (New w) (vlsD sb0.vals) p) ∧ Chg NoB w w' := by
  have B4 := Blk.new w 52 sbz
  have hC := Chg.al w (.cells sbz 52)
  have hM1 := (hC.block _ (map_lt' hM) id).trans hM
  have c0 := (hB.st hC).cell 0
  have hz : w.heap.size + 1 ≤ (w.alloc (.cells sbz 52)).heap.size := by simp
  clear hB hM
  go_enter Tryz.func79, Tryz.ntmps79
  go_upto_region 1 with fail
  generalize w.alloc (Obj.cells _ 52) = W at *
  have hlk := mlook_none (P := Tryz.prog) (t := 197) (key := .string k) Tryz.underlying197 Tryz.underlying9 trivial (zeroS W) hM1
  go_wp2_with fail
  have hC2 := Chg.al W (.cells sbz 52)
  generalize W.alloc (Obj.cells _ 52) = W2 at *
  refine (tcopied_one one_0 (A := NoB) (p := .slice none 0 0) (.nil 4)).mono ?_
  rintro e w1 ⟨⟨p2, rfl, hp2⟩, hC1⟩
  obtain ⟨q1, e1, rfl, _⟩ := vls_form hp2
  replace B4 := (B4.st hC2).st hC1
  replace hC := (hC.st hC2).st hC1
  have HP := Lib.hid hp2
  have hz1 := hC1.size
  have hz2 := hC2.size
  clear hC1 hp2 hC2 hM1 c0 hlk
  obtain ⟨e0, e1, e2, e3, e4, e5, e6, e7, e8⟩ := cells9 B4
  obtain ⟨f0, f1, f2, f3, f4, f5, f6, f7, f8⟩ := frz9 B4
  go_wp2_with fail
  exact back_row2 rfl rfl rfl (set9 B4 _ _ _ _ _ _ _ _ _) Tryz.underlying52 rfl infS rfl ⟨⟨_, rfl, (rd9 HP.out (by show ¬ W2.heap.size ≤ w.heap.size; omega) _ _ _ _ _ _ _ _ _).mono fun k hk _ => by have : W2.heap.size ≤ k := hk; show w.heap.size ≤ k; omega⟩, chg9 hC (by omega) _ _ _ _ _ _ _ _ _⟩
theorem tlen_none {tb mp clock : Nat} (hB : Blk w tb 199 #[.map (some mp)]) (hM : w.heap[mp]? = some (.map #[] clock)) :
    Calls Tryz.prog 81 #[.pointer (some ⟨tb, 0, none⟩)] w fun e w' => e = .returned (.int .i64 0) ∧ w' = w := by
  have c0 := hB.cell 0
  have hl := fun ty => mlen (t := 197) Tryz.underlying197 hM ty
  simp only [List.size_toArray, List.length_nil] at hl
  clear hB hM
  go_enter Tryz.func81, Tryz.ntmps81
  go_wp2_with fail
  go_ret
  exact ⟨rfl, rfl⟩
theorem mayE_yes {e : En} {p : Value} (hp : Rd w A (vlsD e.sb.vals) p) (hm : maySb e.sb = true) (hk : 1 ≤ e.key.size ∧ e.key.size ≤ 32) :
    Calls Tryz.prog 148 #[env_ e p] w fun x w' => x = .returned (.bool true) ∧ Chg NoB w w' := by
  obtain ⟨key, s⟩ := e
  dsimp only at *
  obtain ⟨p1, c1, rfl, _⟩ := vls_form hp
  have hC := Chg.al w (.cells (enc_ ⟨key, s⟩ (.slice p1 s.vals.length c1)) 87)
  have B := Blk.new w 87 (enc_ ⟨key, s⟩ (.slice p1 s.vals.length c1))
  have HS := Lib.hid (hm ▸ mayS_any s _ (hp.st hC))
  have h1 : (key.size : Int) ≥ 1 := by omega
  have h2 : (key.size : Int) ≤ 32 := by omega
  have HC := Lib.hid hC
  clear hp hC hm hk
  go_enter Tryz.func148, Tryz.ntmps148
  go_upto_region 1 with fail
  generalize w.alloc (Obj.cells _ 87) = W at *
  obtain ⟨d0, d1, d2, d3, d4, d5, d6, d7, d8, d9⟩ := cells10 B
  go_wp2_with fail
  refine HS.out.mono ?_
  rintro e w1 ⟨rfl, hC1⟩
  have HC1 := Lib.hid (HC.out.trans hC1)
  clear hC1
  go_wp2_with fail
  go_ret
  exact ⟨rfl, HC1.out⟩
set_option maxHeartbeats 4000000 in
theorem tjoin_none {tb mp clock : Nat} (hB : Blk w tb 199 #[.map (some mp)]) (hM : w.heap[mp]? = some (.map #[] clock)) (k : ByteArray) (hk : 1 ≤ k.size ∧ k.size ≤ 32) {p : Value} (hp : Rd w A (vlsD sA.vals) p) :
    Calls Tryz.prog 84 #[.pointer (some ⟨tb, 0, none⟩), env_ ⟨k, sA⟩ p] w fun e w' => (∃ v, e = .returned v) ∧ Chg (Only mp) w w' := by
  obtain ⟨p1, c1, rfl, _⟩ := vls_form hp
  have hmp := map_lt' hM
  have B1 := (Blk.new w 87 (enc_ ⟨k, sA⟩ (.slice p1 sA.vals.length c1))).alloc (.cells sbz 52)
  have B2 := Blk.new_ (k := w.heap.size + 1) (w.alloc (.cells (enc_ ⟨k, sA⟩ (.slice p1 sA.vals.length c1)) 87)) 52 sbz (by simp)
  have hC := ((Chg.refl NoB w).alloc (.cells (enc_ ⟨k, sA⟩ (.slice p1 sA.vals.length c1)) 87)).alloc (.cells sbz 52)
  have hz : w.heap.size + 2 ≤ ((w.alloc (.cells (enc_ ⟨k, sA⟩ (.slice p1 sA.vals.length c1)) 87)).alloc (.cells sbz 52)).heap.size := by simp
  replace hp := hp.st hC
  replace hB := hB.st hC
  replace hM := (hC.block _ (map_lt' hM) id).trans hM
  have HM := Lib.hid hM
  have HB := Lib.hid hB
  have htm : tb ≠ mp := fun h => by
    have h1 := hB
    unfold Blk at h1
    rw [h, hM] at h1
    cases h1
  clear hM hB
  go_enter Tryz.func84, Tryz.ntmps84
  go_upto_region 1 with fail
  generalize (w.alloc (Obj.cells _ 87)).alloc (Obj.cells _ 52) = W at *
  obtain ⟨d0, d1, d2, d3, d4, d5, d6, d7, d8, d9⟩ := cells10 B1
  go_wp2_with fail
  refine (mayE_yes (e := ⟨k, sA⟩) hp mayA hk).mono ?_
  rintro e w1 ⟨rfl, hC1⟩
  replace hC := hC.st hC1
  replace hp := hp.st hC1
  replace B1 := B1.st hC1
  replace B2 := B2.st hC1
  have HB1 := Lib.hid (HB.out.st hC1)
  have HM1 : Hid (w1.heap[mp]? = some (.map #[] clock)) := Lib.hid ((hC1.block _ (map_lt' HM.out) id).trans HM.out)
  have hz1 := Nat.le_trans hz hC1.size
  clear hC1 d0 d1 d2 d3 d4 d5 d6 d7 d8 d9
  go_upto_region 3 with fail
  have HB1k := Lib.hid B1
  refine start_ (n := 13) (S := fun w' => w'.cell? ⟨tb, 0, none⟩ = some (.map (some mp)) ∧ w'.cell? ⟨w.heap.size, 0, none⟩ = some (.string k) ∧ (Instr.lookup 197 (.map (some mp)) (.string k) true).run Tryz.prog w' = .ok (.tuple #[.agg sbz, .bool false]) w') (ds := [11]) #[false, false, false, false, false, false, false, false, false, false, false, false, false] (by kernel_rfl) rfl rfl ⟨(HB1.out.drew.cell 0), (HB1k.out.drew.cell 0), (mlook_none (P := Tryz.prog) (t := 197) (key := .string k) Tryz.underlying197 Tryz.underlying9 trivial (zeroS _) (show w1.drew.heap[mp]? = _ from HM1.out))⟩ (fun hHeld => ?_)
  refine pure_ (i := 0) (N := some 19) (v := ?_) (a' := ?_) #[true, false, false, false, false, false, false, false, false, false, false, false, false] rfl rfl (by kernel_rfl) (fun _ _ _ h => h) (Or.inl ⟨by rfl, ?_⟩) ?_ ?_
  rotate_left
  · intro w'
    go_simp
    with_reducible rfl
  rotate_left
  · simp only [Act.put, List.setIfInBounds_toArray, List.set_cons_zero, List.set_cons_succ]
    rfl
  refine pure_ (i := 1) (N := some 20) (v := ?_) (a' := ?_) #[true, true, false, false, false, false, false, false, false, false, false, false, false] rfl rfl (by kernel_rfl) (fun _ _ _ h => h) (Or.inl ⟨by rfl, ?_⟩) ?_ ?_
  rotate_left
  · intro w'
    go_simp
    with_reducible rfl
  rotate_left
  · simp only [Act.put, List.setIfInBounds_toArray, List.set_cons_zero, List.set_cons_succ]
    rfl
  refine pure_ (i := 2) (N := some 21) (v := ?_) (a' := ?_) #[true, true, true, false, false, false, false, false, false, false, false, false, false] rfl rfl (by kernel_rfl) (fun _ _ _ h => h) (Or.inl ⟨by rfl, ?_⟩) ?_ ?_
  rotate_left
  · intro w'
    go_simp
    with_reducible rfl
  rotate_left
  · simp only [Act.put, List.setIfInBounds_toArray, List.set_cons_zero, List.set_cons_succ]
    rfl
  refine pure_ (i := 4) (N := some 23) (v := ?_) (a' := ?_) #[true, true, true, false, true, false, false, false, false, false, false, false, false] rfl rfl (by kernel_rfl) (fun _ _ _ h => h) (Or.inl ⟨by rfl, ?_⟩) ?_ ?_
  rotate_left
  · intro w'
    go_simp
    with_reducible rfl
  rotate_left
  · simp only [Act.put, List.setIfInBounds_toArray, List.set_cons_zero, List.set_cons_succ]
    rfl
  refine take_ (i := 3) (N := some 22) (v := ?_) (a' := ?_) #[true, true, true, true, true, false, false, false, false, false, false, false, false] rfl rfl (by kernel_rfl) (fun _ _ _ h => h) (Or.inl ⟨by rfl, ?_⟩) hHeld ?_ ?_
  rotate_left
  · rintro w' ⟨s0, s1, s2⟩
    go_simp
    with_reducible rfl
  rotate_left
  · simp only [Act.put, List.setIfInBounds_toArray, List.set_cons_zero, List.set_cons_succ]
    rfl
  refine take_ (i := 5) (N := some 24) (v := ?_) (a' := ?_) #[true, true, true, true, true, true, false, false, false, false, false, false, false] rfl rfl (by kernel_rfl) (fun _ _ _ h => h) (Or.inl ⟨by rfl, ?_⟩) hHeld ?_ ?_
  rotate_left
  · rintro w' ⟨s0, s1, s2⟩
    go_simp
    with_reducible rfl
  rotate_left
  · simp only [Act.put, List.setIfInBounds_toArray, List.set_cons_zero, List.set_cons_succ]
    rfl
  refine take_ (i := 6) (N := some 25) (v := ?_) (a' := ?_) #[true, true, true, true, true, true, true, false, false, false, false, false, false] rfl rfl (by kernel_rfl) (fun _ _ _ h => h) (Or.inl ⟨by rfl, ?_⟩) hHeld ?_ ?_
  rotate_left
  · rintro w' ⟨s0, s1, s2⟩
    go_simp
    with_reducible rfl
  rotate_left
  · simp only [Act.put, List.setIfInBounds_toArray, List.set_cons_zero, List.set_cons_succ]
    rfl
  refine pure_ (i := 7) (N := some 18) (v := ?_) (a' := ?_) #[true, true, true, true, true, true, true, true, false, false, false, false, false] rfl rfl (by kernel_rfl) (fun _ _ _ h => h) (Or.inl ⟨by rfl, ?_⟩) ?_ ?_
  rotate_left
  · intro w'
    go_simp
    with_reducible rfl
  rotate_left
  · simp only [Act.put, List.setIfInBounds_toArray, List.set_cons_zero, List.set_cons_succ]
    rfl
  refine pure_ (i := 8) (N := some 26) (v := ?_) (a' := ?_) #[true, true, true, true, true, true, true, true, true, false, false, false, false] rfl rfl (by kernel_rfl) (fun _ _ _ h => h) (Or.inl ⟨by rfl, ?_⟩) ?_ ?_
  rotate_left
  · intro w'
    go_simp
    with_reducible rfl
  rotate_left
  · simp only [Act.put, List.setIfInBounds_toArray, List.set_cons_zero, List.set_cons_succ]
    rfl
  refine pure_ (i := 9) (N := some 27) (v := ?_) (a' := ?_) #[true, true, true, true, true, true, true, true, true, true, false, false, false] rfl rfl (by kernel_rfl) (fun _ _ _ h => h) (Or.inl ⟨by rfl, ?_⟩) ?_ ?_
  rotate_left
  · intro w'
    go_simp
    with_reducible rfl
  rotate_left
  · simp only [Act.put, List.setIfInBounds_toArray, List.set_cons_zero, List.set_cons_succ]
    rfl
  refine one_ (i := 10) (N := some 7) #[true, true, true, true, true, true, true, true, true, true, true, false, false] rfl rfl (by kernel_rfl) (by decide) (fun K hK => ?_)
  refine value_ (w1 := ?_) (v := ?_) (by rfl) rfl ?_ ?_
  rotate_left 2
  · go_simp
    constructor
    · rfl
    · rfl
  refine hK.out _ _ ⟨((HB1.out.drew.alloc _).cell 0), ((HB1k.out.drew.alloc _).cell 0), (mlook_none (P := Tryz.prog) (t := 197) (key := .string k) Tryz.underlying197 Tryz.underlying9 trivial (zeroS _) (((Chg.al w1.drew _).block mp (map_lt' HM1.out) id).trans HM1.out))⟩ (fun hHeld => ?_)
  clear hK K
  refine norm_ (a' := ?_) ?_ ?_
  rotate_left
  · show Act.put _ (some 7) _ = _
    simp only [Act.put, List.setIfInBounds_toArray, List.set_cons_zero, List.set_cons_succ]
    rfl
  refine last_ (i := 11) (N := none) #[true, true, true, true, true, true, true, true, true, true, true, true, false] rfl rfl (by kernel_rfl) (by decide) (fun K hK => ?_)
  refine skip_ (w1 := ?_) (by rfl) rfl ?_ ?_
  rotate_left
  · go_simp
    rfl
  refine hK.out _ _ ?_
  clear hK K
  refine pure_ (i := 12) (N := some 8) (v := ?_) (a' := ?_) #[true, true, true, true, true, true, true, true, true, true, true, true, true] rfl rfl (by kernel_rfl) (fun _ _ _ h => h) (Or.inl ⟨by rfl, ?_⟩) ?_ ?_
  rotate_left
  · intro w'
    go_simp
    with_reducible rfl
  rotate_left
  · simp only [Act.put, List.setIfInBounds_toArray, List.set_cons_zero, List.set_cons_succ]
    rfl
  refine done_ (by kernel_rfl) ?_
  go_upto_region 4 with fail
  have hCa : Chg NoB w1 (w1.alloc (.cells sbz 52)).drew := (Chg.al w1 _).drew
  have B7 := (Blk.new w1 52 sbz).drew
  have hz7 : w1.heap.size + 1 ≤ (w1.alloc (.cells sbz 52)).drew.heap.size := by simp
  generalize (w1.alloc (Obj.cells _ 52)).drew = W3 at *
  replace hC := hC.st hCa
  replace hp := hp.st hCa
  replace B1 := B1.st hCa
  replace B2 := B2.st hCa
  have HB3 := Lib.hid (HB1.out.st hCa)
  have HM3 : Hid (W3.heap[mp]? = some (.map #[] clock)) := Lib.hid ((hCa.block _ (map_lt' HM1.out) id).trans HM1.out)
  have hl := fun ty => mlen (t := 197) Tryz.underlying197 HM3.out ty
  simp only [List.size_toArray, List.length_nil] at hl
  have b0 := HB3.out.cell 0
  obtain ⟨d0, d1, d2, d3, d4, d5, d6, d7, d8, d9⟩ := cells10 B1
  obtain ⟨e0, e1, e2, e3, e4, e5, e6, e7, e8⟩ := cells9 B7
  clear hCa HB1 HM1 HB1k
  go_wp2_with fail
  refine (join_0A (A := NoB) (p := .slice none 0 0) (.nil 4) hp).mono ?_
  rintro e w4 ⟨⟨p4, rfl, hp4⟩, hC4⟩
  obtain ⟨q4, k4, rfl, _⟩ := vls_form hp4
  replace hC := hC.st hC4
  replace B1 := B1.st hC4
  replace B2 := B2.st hC4
  have HB4 := Lib.hid (HB3.out.st hC4)
  have HM4 : Hid (w4.heap[mp]? = some (.map #[] clock)) := Lib.hid ((hC4.block _ (map_lt' HM3.out) id).trans HM3.out)
  have HP4 := Lib.hid hp4
  have hz4 := Nat.le_trans hz7 hC4.size
  clear hl b0 d0 d1 d2 d3 d4 d5 d6 d7 d8 d9 e0 e1 e2 e3 e4 e5 e6 e7 e8 hC4 hp4 B7
  go_upto_region 7 with fail
  have hCb := Chg.al w4 (.cells (sbc sA (.slice q4 sA.vals.length k4)) 52)
  have B9 := Blk.new w4 52 (sbc sA (.slice q4 sA.vals.length k4))
  generalize w4.alloc (Obj.cells _ 52) = W5 at *
  replace hC := hC.st hCb
  replace B1 := B1.st hCb
  replace B2 := B2.st hCb
  have HB5 := Lib.hid (HB4.out.st hCb)
  have HM5 : Hid (W5.heap[mp]? = some (.map #[] clock)) := Lib.hid ((hCb.block _ (map_lt' HM4.out) id).trans HM4.out)
  have HP5 := Lib.hid (HP4.out.st hCb)
  have hz5 := Nat.le_trans hz4 hCb.size
  have HB1k := Lib.hid B1
  have HB9 := Lib.hid B9
  have hput := mput_none (P := Tryz.prog) (t := 197) (key := .string k) (val := sbv sA (.slice q4 sA.vals.length k4)) Tryz.underlying197 Tryz.underlying9 trivial (show W5.drew.heap[mp]? = _ from HM5.out)
  clear hCb HB4 HM4 HP4 B1 B9
  refine start_ (n := 8) (S := fun w' => w'.cell? ⟨tb, 0, none⟩ = some (.map (some mp)) ∧ w'.cell? ⟨w.heap.size, 0, none⟩ = some (.string k) ∧ w'.cell? ⟨w4.heap.size, 0, none⟩ = some (.int .i64 (sA.seen 0)) ∧ w'.cell? ⟨w4.heap.size, 1, none⟩ = some (.int .i64 (sA.seen 1)) ∧ w'.cell? ⟨w4.heap.size, 2, none⟩ = some (.int .i64 (sA.seen 2)) ∧ w'.cell? ⟨w4.heap.size, 3, none⟩ = some (.int .i64 (sA.seen 3)) ∧ w'.cell? ⟨w4.heap.size, 4, none⟩ = some (.int .i64 (sA.seen 4)) ∧ w'.cell? ⟨w4.heap.size, 5, none⟩ = some (.int .i64 (sA.seen 5)) ∧ w'.cell? ⟨w4.heap.size, 6, none⟩ = some (.int .i64 (sA.seen 6)) ∧ w'.cell? ⟨w4.heap.size, 7, none⟩ = some (.int .i64 (sA.seen 7)) ∧ w'.cell? ⟨w4.heap.size, 8, none⟩ = some (.slice q4 sA.vals.length k4)) (ds := [7]) #[false, false, false, false, false, false, false, false] (by kernel_rfl) rfl rfl ⟨(HB5.out.drew.cell 0), (HB1k.out.drew.cell 0), (HB9.out.drew.cell 0), (HB9.out.drew.cell 1), (HB9.out.drew.cell 2), (HB9.out.drew.cell 3), (HB9.out.drew.cell 4), (HB9.out.drew.cell 5), (HB9.out.drew.cell 6), (HB9.out.drew.cell 7), (HB9.out.drew.cell 8)⟩ (fun hHeld => ?_)
  refine pure_ (i := 0) (N := some 43) (v := ?_) (a' := ?_) #[true, false, false, false, false, false, false, false] rfl rfl (by kernel_rfl) (fun _ _ _ h => h) (Or.inl ⟨by rfl, ?_⟩) ?_ ?_
  rotate_left
  · intro w'
    go_simp
    with_reducible rfl
  rotate_left
  · simp only [Act.put, List.setIfInBounds_toArray, List.set_cons_zero, List.set_cons_succ]
    rfl
  refine pure_ (i := 1) (N := some 44) (v := ?_) (a' := ?_) #[true, true, false, false, false, false, false, false] rfl rfl (by kernel_rfl) (fun _ _ _ h => h) (Or.inl ⟨by rfl, ?_⟩) ?_ ?_
  rotate_left
  · intro w'
    go_simp
    with_reducible rfl
  rotate_left
  · simp only [Act.put, List.setIfInBounds_toArray, List.set_cons_zero, List.set_cons_succ]
    rfl
  refine pure_ (i := 2) (N := some 45) (v := ?_) (a' := ?_) #[true, true, true, false, false, false, false, false] rfl rfl (by kernel_rfl) (fun _ _ _ h => h) (Or.inl ⟨by rfl, ?_⟩) ?_ ?_
  rotate_left
  · intro w'
    go_simp
    with_reducible rfl
  rotate_left
  · simp only [Act.put, List.setIfInBounds_toArray, List.set_cons_zero, List.set_cons_succ]
    rfl
  refine pure_ (i := 4) (N := some 47) (v := ?_) (a' := ?_) #[true, true, true, false, true, false, false, false] rfl rfl (by kernel_rfl) (fun _ _ _ h => h) (Or.inl ⟨by rfl, ?_⟩) ?_ ?_
  rotate_left
  · intro w'
    go_simp
    with_reducible rfl
  rotate_left
  · simp only [Act.put, List.setIfInBounds_toArray, List.set_cons_zero, List.set_cons_succ]
    rfl
  refine take_ (i := 3) (N := some 46) (v := ?_) (a' := ?_) #[true, true, true, true, true, false, false, false] rfl rfl (by kernel_rfl) (fun _ _ _ h => h) (Or.inl ⟨by rfl, ?_⟩) hHeld ?_ ?_
  rotate_left
  · rintro w' ⟨s0, s1, s2, s3, s4, s5, s6, s7, s8, s9, s10⟩
    go_simp
    with_reducible rfl
  rotate_left
  · simp only [Act.put, List.setIfInBounds_toArray, List.set_cons_zero, List.set_cons_succ]
    rfl
  refine take_ (i := 5) (N := some 48) (v := ?_) (a' := ?_) #[true, true, true, true, true, true, false, false] rfl rfl (by kernel_rfl) (fun _ _ _ h => h) (Or.inl ⟨by rfl, ?_⟩) hHeld ?_ ?_
  rotate_left
  · rintro w' ⟨s0, s1, s2, s3, s4, s5, s6, s7, s8, s9, s10⟩
    go_simp
    with_reducible rfl
  rotate_left
  · simp only [Act.put, List.setIfInBounds_toArray, List.set_cons_zero, List.set_cons_succ]
    rfl
  refine take_ (i := 6) (N := some 49) (v := ?_) (a' := ?_) #[true, true, true, true, true, true, true, false] rfl rfl (by kernel_rfl) (fun _ _ _ h => h) (Or.inl ⟨by rfl, ?_⟩) hHeld ?_ ?_
  rotate_left
  · rintro w' ⟨s0, s1, s2, s3, s4, s5, s6, s7, s8, s9, s10⟩
    go_simp
    with_reducible rfl
  rotate_left
  · simp only [Act.put, List.setIfInBounds_toArray, List.set_cons_zero, List.set_cons_succ]
    rfl
  refine last_ (i := 7) (N := none) #[true, true, true, true, true, true, true, true] rfl rfl (by kernel_rfl) (by decide) (fun K hK => ?_)
  refine skip_ (w1 := ?_) (by rfl) rfl ?_ ?_
  rotate_left
  · go_simp
    rfl
  refine hK.out _ _ ?_
  clear hK K
  refine done_ (by kernel_rfl) ?_
  have hCs : Chg (Only mp) W5 (setObj_ W5.drew mp (.map #[{ key := .string k, val := sbv sA (.slice q4 sA.vals.length k4), born := clock }] (clock + 1))) := (Chg.of_no (Chg.dr W5)).trans (setObj_chg W5.drew mp _)
  generalize setObj_ W5.drew mp _ = W6 at *
  have HC6 := Lib.hid ((Chg.of_no (S := Only mp) hC).trans hCs)
  have hz6 := hCs.size
  have hw4 : w.heap.size ≤ w4.heap.size := by omega
  have B9 := HB9.out.chg hCs (by show w4.heap.size ≠ mp; omega)
  have B2' := B2.chg hCs (by show w.heap.size + 1 ≠ mp; omega)
  have hp6 := HP5.out.chg hCs fun j hj _ hs => by
    have h1 : W3.heap.size ≤ j := hj
    have h2 : j = mp := hs
    omega
  clear hput hCs B2 HB5 HM5 HP5 HB1k HB9 hC hp
  obtain ⟨e0, e1, e2, e3, e4, e5, e6, e7, e8⟩ := cells9 B9
  go_wp2_with fail
  refine (tcopied_one one_A hp6).mono ?_
  rintro e w7 ⟨⟨p7, rfl, hp7⟩, hC7⟩
  obtain ⟨q7, k7, rfl, _⟩ := vls_form hp7
  have B4 := B2'.st hC7
  have HC7 := Lib.hid (HC6.out.st hC7)
  clear hC7 hp7 e0 e1 e2 e3 e4 e5 e6 e7 e8 B9 B2' hp6
  obtain ⟨e0, e1, e2, e3, e4, e5, e6, e7, e8⟩ := cells9 B4
  obtain ⟨f0, f1, f2, f3, f4, f5, f6, f7, f8⟩ := frz9 B4
  go_wp2_with fail
  exact back_row3 rfl rfl rfl rfl (set9 B4 _ _ _ _ _ _ _ _ _) Tryz.underlying52 rfl infS rfl ⟨⟨_, rfl⟩, chg9 HC7.out (by omega) _ _ _ _ _ _ _ _ _⟩
end
end Go.Proofs.YtoefffjhjmjhfaaGreat
namespace Go.Proofs.YtoefffjhjmjhfaaGreat
open Go.RowKit Go.Proofs.YtoefffjhjmjhfaaGreatW.PrintLast
attribute [local go_sem] max2_mx min2_mn max_two_ min_two_
set_option maxRecDepth 100000

section
variable {w w' : World} {A B : Nat → Prop}
def recB (e : En) : List Int := nb 1 ++ enB e
theorem recB_len {e : En} (h : Vok e.sb.vals) (h2 : e.sb.vals.length ≤ 16) (h3 : e.key.size ≤ 32) : (recB e).length ≤ 4000 := by
  unfold recB enB
  rw [List.length_append, List.length_append]
  have h1 := nb_len 9 1 (by omega)
  have h4 := sbB_len h h2
  have h5 := tb_len (l := e.key.data.toList) (by have : e.key.data.toList.length = e.key.size := rfl; omega)
  have : e.key.data.toList.length = e.key.size := rfl
  omega
set_option maxHeartbeats 4000000 in
theorem closure_z {w0 w : World} {g bx : Nat} {e : En} {p1 : Option Addr} {c1 : Nat} (h : WZ w0 w g 60000 []) (hB : Blk w0 bx 87 (enc_ e (.slice p1 e.sb.vals.length c1))) (hp : Rd w0 A (vlsD e.sb.vals) (.slice p1 e.sb.vals.length c1)) (hv : Vok e.sb.vals) (hl : e.sb.vals.length ≤ 16) (hk : e.key.size ≤ 32) :
    Calls Tryz.prog 146 #[.pointer (some ⟨g, 0, none⟩), .pointer (some ⟨bx, 0, none⟩)] w fun x w' => x = .returned (.tuple #[]) ∧ WZ w0 w' g 60000 (recB e) := by
  have HH := Lib.hid h
  have HB := Lib.hid hB
  have HP := Lib.hid hp
  have HV := Lib.hid hv
  have hn := nb_len 9 1 (by omega)
  clear h hB hp hv
  go_enter Tryz.func146, Tryz.ntmps146
  go_wp2_with fail
  refine (wnum_z HH.out 1 (by omega) (by simp only [List.length_nil]; omega) (by omega)).mono ?_
  rintro x w1 ⟨rfl, hq, hk1⟩
  have HH1 := Lib.hid hq
  clear hq hk1
  obtain ⟨d0, d1, d2, d3, d4, d5, d6, d7, d8, d9⟩ := cells10 (HB.out.st HH1.out.chg)
  go_wp2_with fail
  refine (writeE_z HH1.out e _ HP.out HV.out hl (by omega) (by simp only [List.nil_append]; omega) (by omega)).mono ?_
  rintro x w2 ⟨rfl, hq, hk1⟩
  have HH2 := Lib.hid hq
  clear hq hk1
  go_wp2_with fail
  go_end0
  have h9 := HH2.out
  simp only [List.nil_append] at h9
  exact ⟨rfl, h9⟩
set_option maxHeartbeats 4000000 in
theorem record_any {bx : Nat} {e : En} {p1 : Option Addr} {c1 : Nat} (hB : Blk w bx 87 (enc_ e (.slice p1 e.sb.vals.length c1))) (hp : Rd w A (vlsD e.sb.vals) (.slice p1 e.sb.vals.length c1)) (hv : Vok e.sb.vals) (hl : e.sb.vals.length ≤ 16) (hk : e.key.size ≤ 32) :
    Calls Tryz.prog 125 #[.func (.func 146) #[] #[.pointer (some ⟨bx, 0, none⟩)]] w fun x w' => (∃ l, x = .returned l ∧ w'.ownsRow w.heap.size 5 1 l (recB e).length (by8 (recB e))) ∧ Chg NoB w w' := by
  have HB := Lib.hid hB
  have HP := Lib.hid hp
  have HV := Lib.hid hv
  have hr := recB_len hv hl hk
  clear hB hp hv
  go_enter Tryz.func125, Tryz.ntmps125
  go_wp2_with fail
  refine (newWriter_any 60000 _ (by decide)).mono ?_
  rintro x w1 ⟨rfl, hW, hC⟩
  have HZ : Hid (WZ w w1 w.heap.size 60000 []) := Lib.hid ⟨⟨_, hW, fun j hj => by cases hj⟩, hC, Nat.le_refl _⟩
  clear hW hC
  go_wp2_with fail
  refine (closure_z HZ.out HB.out HP.out HV.out hl hk).mono ?_
  rintro x w2 ⟨rfl, hq⟩
  obtain ⟨⟨s, hs, hs0⟩, hC2, _⟩ := hq
  have HS := Lib.hid hs
  have HC2 := Lib.hid hC2
  clear hs hC2 hs0
  go_wp2_with fail
  refine (done_any HS.out (by omega)).mono ?_
  rintro x w3_ ⟨⟨v, rfl, hv⟩, hC⟩
  have HV3 := Lib.hid (own_base_ (b2 := w.heap.size) hv fun j hj => Nat.le_trans HC2.out.size (hv.lt j hj).1)
  have HC3 := Lib.hid (HC2.out.trans hC)
  obtain ⟨lp, lc, rfl⟩ := (own_form hv).elim fun a h => h.elim fun c h => (⟨a, c, h.1⟩ : ∃ a c, v = .slice a _ c)
  clear hv hC
  go_wp2_with fail
  go_ret
  exact ⟨⟨_, rfl, HV3.out⟩, HC3.out⟩
set_option maxHeartbeats 4000000 in
theorem erecord_any {e : En} {p : Value} (hp : Rd w A (vlsD e.sb.vals) p) (hv : Vok e.sb.vals) (hl : e.sb.vals.length ≤ 16) (hk : e.key.size ≤ 32) :
    Calls Tryz.prog 83 #[env_ e p] w fun x w' => (∃ l, x = .returned l ∧ w'.ownsRow w.heap.size 5 1 l (recB e).length (by8 (recB e))) ∧ Chg NoB w w' := by
  obtain ⟨p1, c1, rfl, _⟩ := vls_form hp
  have hC := Chg.al w (.cells (enc_ e (.slice p1 e.sb.vals.length c1)) 87)
  have HR := Lib.hid (record_any (Blk.new w 87 (enc_ e (.slice p1 e.sb.vals.length c1))) (hp.st hC) hv hl hk)
  have HC := Lib.hid hC
  clear hp hC hv
  go_enter Tryz.func83, Tryz.ntmps83
  go_wp2_with fail
  refine HR.out.mono ?_
  rintro x w1 ⟨⟨l, rfl, hown⟩, hC⟩
  have HO := Lib.hid (own_base_ (b2 := w.heap.size) hown fun j hj => Nat.le_trans HC.out.size (hown.lt j hj).1)
  have HC1 := Lib.hid (HC.out.trans hC)
  obtain ⟨lp, lc, rfl⟩ := (own_form hown).elim fun a h => h.elim fun c h => (⟨a, c, h.1⟩ : ∃ a c, l = .slice a _ c)
  clear hown hC
  go_wp2_with fail
  go_ret
  exact ⟨⟨_, rfl, HO.out⟩, HC1.out⟩
theorem sappend_none {st lg tb mp hs d : Nat} {most : Int} (h : SE w st lg tb mp hs d most) {base : Nat} {ys : List Int} {v : Value} (hv : w.ownsRow base 5 1 v ys.length (by8 ys)) (hl : (ys.length : Int) + 8 ≤ most) (hy : ys.length ≤ 60000) (hm : most ≤ 1048576) :
    Calls Tryz.prog 82 #[.pointer (some ⟨st, 0, none⟩), v] w fun e w' => e = .returned (.int .i64 0) ∧ Chg (Two lg d) w w' := by
  obtain ⟨p, cap, rfl, _⟩ := own_form hv
  have HW := Lib.hid (wappend_none h.log h.dsk hv hl hy hm (by omega))
  have c0 := h.blk.cell 0
  clear h hv
  go_enter Tryz.func82, Tryz.ntmps82
  go_wp2_with fail
  refine HW.out.mono ?_
  rintro x w1 ⟨rfl, hC⟩
  have HC := Lib.hid hC
  clear hC
  go_wp2_with fail
  go_ret
  exact ⟨rfl, HC.out⟩
theorem vok_A : Vok sA.vals := fun v hv => by
  rw [List.mem_singleton.1 hv]
  decide
theorem recA_len {k : ByteArray} (hk : k.size ≤ 32) : (recB ⟨k, sA⟩).length ≤ 200 := by
  have e : sbB sA = ibs sA.seen 8 ++ (nb 1 ++ (nb 0 ++ (ib 1 ++ (0 :: tb [120])))) := by simp [sbB, sA, vA, vlB]
  have e1 : recB ⟨k, sA⟩ = nb 1 ++ (tb k.data.toList ++ sbB sA) := rfl
  rw [e1, e]
  simp only [List.length_append, List.length_cons]
  have h1 := nb_len 9 1 (by omega)
  have h2 := nb_len 9 0 (by omega)
  have h3 := ibs_len sA.seen 8
  have h4 := ib_len 1
  have h5 := tb_len (l := [120]) (by simp)
  have h6 : k.data.toList.length = k.size := rfl
  have h7 := tb_len (l := k.data.toList) (by omega)
  simp only [List.length_cons, List.length_nil] at h5
  omega
/-- What a store's first write turns. -/
abbrev Sf (lg d mp : Nat) : Nat → Prop := fun j => j = lg ∨ j = d ∨ j = mp
set_option maxHeartbeats 4000000 in
theorem sput_none {st lg tb mp hs d : Nat} {most : Int} (h : SE w st lg tb mp hs d most) (k : ByteArray) (hk : 1 ≤ k.size ∧ k.size ≤ 32) {q : Value} (hq : Rd w B (bD [120]) q) (hm : 208 ≤ most ∧ most ≤ 1048576) :
    Calls Tryz.prog 34 #[.pointer (some ⟨st, 0, none⟩), .int .i64 0, .string k, vec (fun _ => 0), q, .bool false] w fun e w' => (∃ p, e = .returned (.tuple #[sbv sA p, .int .i64 0]) ∧ Rd w' (New w) (vlsD sA.vals) p) ∧ Chg (Sf lg d mp) w w' := by
  have l1 := h.log.lt
  have l2 := h.dsk.blk.lt
  have l3 := map_lt' h.map
  have n1 : st ≠ lg := Blk.ne_ h.blk h.log (by decide)
  have n2 : st ≠ d := Blk.ne_ h.blk h.dsk.blk (by decide)
  have n3 : tb ≠ lg := Blk.ne_ h.tab h.log (by decide)
  have n4 : tb ≠ d := Blk.ne_ h.tab h.dsk.blk (by decide)
  have n5 : mp ≠ lg := fun e => by
    have h1 := h.log
    unfold LogB Blk at h1
    rw [← e, h.map] at h1
    cases h1
  have n6 : mp ≠ d := fun e => by
    have h1 := h.dsk.blk
    unfold Blk at h1
    rw [← e, h.map] at h1
    cases h1
  have HN := Lib.hid (And.intro n1 (And.intro n2 (And.intro n3 (And.intro n4 (And.intro n5 n6)))))
  have HLt := Lib.hid (And.intro l1 (And.intro l2 l3))
  have B1 := (Blk.new w 46 (va fun _ => 0)).alloc (.cells sbz 52)
  have B2 := Blk.new_ (k := w.heap.size + 1) (w.alloc (.cells (va fun _ => 0) 46)) 52 sbz (by simp)
  have hC := ((Chg.refl NoB w).alloc (.cells (va fun _ => 0) 46)).alloc (.cells sbz 52)
  have hz : w.heap.size + 2 ≤ ((w.alloc (.cells (va fun _ => 0) 46)).alloc (.cells sbz 52)).heap.size := by simp
  replace h := h.st hC
  replace hq := hq.st hC
  have HS := Lib.hid h
  have HQ := Lib.hid hq
  clear h hq l1 l2 l3 n1 n2 n3 n4 n5 n6
  go_enter Tryz.func34, Tryz.ntmps34
  go_upto_region 1 with fail
  generalize (w.alloc (Obj.cells _ 46)).alloc (Obj.cells _ 52) = W at *
  go_wp2_with fail
  refine (may_key k hk _).mono ?_
  rintro e w1 ⟨rfl, hw⟩
  subst hw
  have s1 := HS.out.blk.cell 1
  go_wp2_with fail
  refine (tget_none HS.out.tab HS.out.map k).mono ?_
  rintro e w2 ⟨⟨p2, rfl, hp2⟩, hC2⟩
  obtain ⟨q2, k2, rfl, _⟩ := vls_form hp2
  replace hC := hC.st hC2
  replace B1 := B1.st hC2
  replace B2 := B2.st hC2
  have HS2 := Lib.hid (HS.out.st hC2)
  have HQ2 := Lib.hid (HQ.out.st hC2)
  have HP2 := Lib.hid hp2
  have hz2 := Nat.le_trans hz hC2.size
  clear HS HQ hp2 hC2 s1
  go_upto_region 4 with fail
  have hCa := Chg.al w2 (.cells (sbc sb0 (.slice q2 sb0.vals.length k2)) 52)
  have B3 := Blk.new w2 52 (sbc sb0 (.slice q2 sb0.vals.length k2))
  generalize w2.alloc (Obj.cells _ 52) = W3 at *
  replace hC := hC.st hCa
  replace B1 := B1.st hCa
  replace B2 := B2.st hCa
  have HS3 := Lib.hid (HS2.out.st hCa)
  have HQ3 := Lib.hid (HQ2.out.st hCa)
  have HP3 := Lib.hid (HP2.out.st hCa)
  have hz3 := Nat.le_trans hz2 hCa.size
  clear HS2 HQ2 HP2 hCa
  obtain ⟨d0, d1, d2, d3, d4, d5, d6, d7⟩ := eight B1
  obtain ⟨e0, e1, e2, e3, e4, e5, e6, e7, e8⟩ := cells9 B3
  go_wp2_with fail
  refine (put_A HP3.out HQ3.out).mono ?_
  rintro e w4 ⟨⟨p4, rfl, hp4⟩, hC4⟩
  obtain ⟨q4, k4, rfl, _⟩ := vls_form hp4
  replace hC := hC.st hC4
  replace B2 := B2.st hC4
  have HS4 := Lib.hid (HS3.out.st hC4)
  have HP4 := Lib.hid hp4
  have hz4 := Nat.le_trans hz3 hC4.size
  clear HS3 HQ3 HP3 hp4 hC4 d0 d1 d2 d3 d4 d5 d6 d7 e0 e1 e2 e3 e4 e5 e6 e7 e8 B1 B3
  go_upto_block 0 with fail
  have hCb := Chg.al w4 (.cells (sbc sA (.slice q4 sA.vals.length k4)) 52)
  have B5 := Blk.new w4 52 (sbc sA (.slice q4 sA.vals.length k4))
  generalize w4.alloc (Obj.cells _ 52) = W5 at *
  replace hC := hC.st hCb
  replace B2 := B2.st hCb
  have HS5 := Lib.hid (HS4.out.st hCb)
  have HP5 := Lib.hid (HP4.out.st hCb)
  have hz5 := Nat.le_trans hz4 hCb.size
  have s1 := HS5.out.blk.cell 1
  clear HS4 HP4 hCb
  go_wp2_with fail
  refine (tlen_none HS5.out.tab HS5.out.map).mono ?_
  rintro e w6 ⟨rfl, hw⟩
  subst hw
  clear s1
  obtain ⟨e0, e1, e2, e3, e4, e5, e6, e7, e8⟩ := cells9 B5
  go_upto_region 10 with fail
  clear e0 e1 e2 e3 e4 e5 e6 e7 e8
  have hCc := Chg.al w6 (.cells (enc_ ⟨k, sA⟩ (.slice q4 sA.vals.length k4)) 87)
  have B7 := Blk.new w6 87 (enc_ ⟨k, sA⟩ (.slice q4 sA.vals.length k4))
  generalize w6.alloc (Obj.cells _ 87) = W7 at *
  replace hC := hC.st hCc
  replace B2 := B2.st hCc
  replace B5 := B5.st hCc
  have HS7 := Lib.hid (HS5.out.st hCc)
  have HP7 := Lib.hid (HP5.out.st hCc)
  have hz7 := Nat.le_trans hz5 hCc.size
  clear HS5 HP5 hCc
  obtain ⟨d0, d1, d2, d3, d4, d5, d6, d7, d8, d9⟩ := cells10 B7
  go_wp2_with fail
  refine (erecord_any (e := ⟨k, sA⟩) HP7.out vok_A (show sA.vals.length ≤ 16 from by decide) hk.2).mono ?_
  rintro e w8 ⟨⟨l, rfl, hown⟩, hC8⟩
  have HO8 := Lib.hid hown
  obtain ⟨lp, lc, rfl⟩ := (own_form hown).elim fun a h => h.elim fun c h => (⟨a, c, h.1⟩ : ∃ a c, l = .slice a _ c)
  replace hC := hC.st hC8
  replace B2 := B2.st hC8
  replace B5 := B5.st hC8
  replace B7 := B7.st hC8
  have HS8 := Lib.hid (HS7.out.st hC8)
  have HP8 := Lib.hid (HP7.out.st hC8)
  have hz8 := Nat.le_trans hz7 hC8.size
  clear HS7 HP7 hC8 hown d0 d1 d2 d3 d4 d5 d6 d7 d8 d9
  have hrl := recA_len (k := k) hk.2
  have HRL := Lib.hid hrl
  clear hrl
  go_wp2_with fail
  refine (sappend_none HS8.out HO8.out (by have := HRL.out; omega) (by have := HRL.out; omega) hm.2).mono ?_
  rintro e w9 ⟨rfl, hC9⟩
  obtain ⟨n1, n2, n3, n4, n5, n6⟩ := HN.out
  obtain ⟨l1, l2, l3⟩ := HLt.out
  have off : ∀ j, j ≠ lg → j ≠ d → ¬ Two lg d j := fun j h1 h2 h3 => by
    rcases h3 with h3 | h3
    · exact h1 h3
    · exact h2 h3
  have HC9 : Hid (Chg (Sf lg d mp) w w9) := Lib.hid ((Chg.of_no hC).trans (hC9.mono fun j _ hj => by
    rcases hj with hj | hj
    · exact .inl hj
    · exact .inr (.inl hj)))
  replace B2 := B2.chg hC9 (off _ (by omega) (by omega))
  replace B5 := B5.chg hC9 (off _ (by omega) (by omega))
  have HB7 := Lib.hid (B7.chg hC9 (off _ (by omega) (by omega)))
  have HT9 := Lib.hid (HS8.out.tab.chg hC9 (off _ n3 n4))
  have HT9s := Lib.hid (HS8.out.blk.chg hC9 (off _ n1 n2))
  have HM9 : Hid (w9.heap[mp]? = some (.map #[] 0)) := Lib.hid ((hC9.block mp (map_lt' HS8.out.map) (off _ n5 n6)).trans HS8.out.map)
  have HP9 := Lib.hid (HP8.out.chg hC9 fun j hj _ => off j (by have : W3.heap.size ≤ j := hj; omega) (by have : W3.heap.size ≤ j := hj; omega))
  have hz9 := Nat.le_trans hz8 hC9.size
  clear hC9 HS8 HP8 HO8 hC B7 off n1 n2 n3 n4 n5 n6 l1 l2 l3
  have HMd : Hid (w9.drew.heap[mp]? = some (.map #[] 0)) := Lib.hid HM9.out
  have HJ := Lib.hid (tjoin_none (w := w9.drew) HT9.out.drew HMd.out k hk (HP9.out.st (Chg.dr w9)))
  go_upto_region 13 with fail
  refine start_ (n := 6) (S := fun w' => w'.cell? ⟨st, 1, none⟩ = some (.pointer (some ⟨tb, 0, none⟩)) ∧ w'.cell? ⟨w6.heap.size, 0, none⟩ = some (.string k) ∧ w'.cell? ⟨w6.heap.size, 1, none⟩ = some (.int .i64 (sA.seen 0)) ∧ w'.cell? ⟨w6.heap.size, 2, none⟩ = some (.int .i64 (sA.seen 1)) ∧ w'.cell? ⟨w6.heap.size, 3, none⟩ = some (.int .i64 (sA.seen 2)) ∧ w'.cell? ⟨w6.heap.size, 4, none⟩ = some (.int .i64 (sA.seen 3)) ∧ w'.cell? ⟨w6.heap.size, 5, none⟩ = some (.int .i64 (sA.seen 4)) ∧ w'.cell? ⟨w6.heap.size, 6, none⟩ = some (.int .i64 (sA.seen 5)) ∧ w'.cell? ⟨w6.heap.size, 7, none⟩ = some (.int .i64 (sA.seen 6)) ∧ w'.cell? ⟨w6.heap.size, 8, none⟩ = some (.int .i64 (sA.seen 7)) ∧ w'.cell? ⟨w6.heap.size, 9, none⟩ = some (.slice q4 sA.vals.length k4)) (ds := [5]) #[false, false, false, false, false, false] (by kernel_rfl) rfl rfl ⟨(HT9s.out.drew.cell 1), (HB7.out.drew.cell 0), (HB7.out.drew.cell 1), (HB7.out.drew.cell 2), (HB7.out.drew.cell 3), (HB7.out.drew.cell 4), (HB7.out.drew.cell 5), (HB7.out.drew.cell 6), (HB7.out.drew.cell 7), (HB7.out.drew.cell 8), (HB7.out.drew.cell 9)⟩ (fun hHeld => ?_)
  refine pure_ (i := 0) (N := some 74) (v := ?_) (a' := ?_) #[true, false, false, false, false, false] rfl rfl (by kernel_rfl) (fun _ _ _ h => h) (Or.inl ⟨by rfl, ?_⟩) ?_ ?_
  rotate_left
  · intro w'
    go_simp
    with_reducible rfl
  rotate_left
  · simp only [Act.put, List.setIfInBounds_toArray, List.set_cons_zero, List.set_cons_succ]
    rfl
  refine pure_ (i := 1) (N := some 75) (v := ?_) (a' := ?_) #[true, true, false, false, false, false] rfl rfl (by kernel_rfl) (fun _ _ _ h => h) (Or.inl ⟨by rfl, ?_⟩) ?_ ?_
  rotate_left
  · intro w'
    go_simp
    with_reducible rfl
  rotate_left
  · simp only [Act.put, List.setIfInBounds_toArray, List.set_cons_zero, List.set_cons_succ]
    rfl
  refine pure_ (i := 2) (N := some 76) (v := ?_) (a' := ?_) #[true, true, true, false, false, false] rfl rfl (by kernel_rfl) (fun _ _ _ h => h) (Or.inl ⟨by rfl, ?_⟩) ?_ ?_
  rotate_left
  · intro w'
    go_simp
    with_reducible rfl
  rotate_left
  · simp only [Act.put, List.setIfInBounds_toArray, List.set_cons_zero, List.set_cons_succ]
    rfl
  refine take_ (i := 3) (N := some 77) (v := ?_) (a' := ?_) #[true, true, true, true, false, false] rfl rfl (by kernel_rfl) (fun _ _ _ h => h) (Or.inl ⟨by rfl, ?_⟩) hHeld ?_ ?_
  rotate_left
  · rintro w' ⟨s0, s1, s2, s3, s4, s5, s6, s7, s8, s9, s10⟩
    go_simp
    with_reducible rfl
  rotate_left
  · simp only [Act.put, List.setIfInBounds_toArray, List.set_cons_zero, List.set_cons_succ]
    rfl
  refine take_ (i := 4) (N := some 78) (v := ?_) (a' := ?_) #[true, true, true, true, true, false] rfl rfl (by kernel_rfl) (fun _ _ _ h => h) (Or.inl ⟨by rfl, ?_⟩) hHeld ?_ ?_
  rotate_left
  · rintro w' ⟨s0, s1, s2, s3, s4, s5, s6, s7, s8, s9, s10⟩
    go_simp
    with_reducible rfl
  rotate_left
  · simp only [Act.put, List.setIfInBounds_toArray, List.set_cons_zero, List.set_cons_succ]
    rfl
  refine last_ (i := 5) (N := some 79) #[true, true, true, true, true, true] rfl rfl (by kernel_rfl) (by decide) (fun K hK => ?_)
  refine goes_ Tryz.func84 (by kernel_rfl) rfl #[.pointer (some ⟨tb, 0, none⟩), env_ ⟨k, sA⟩ (.slice q4 sA.vals.length k4)] (by rfl) rfl rfl (by simp only [List.map_toArray, List.map_cons, List.map_nil]; rfl) ?_
  with_reducible refine (HJ.out).mono ?_
  rintro e w10 ⟨⟨vj, rfl⟩, hC10⟩
  refine ⟨_, rfl, ?_⟩
  have HC10 := Lib.hid hC10
  clear hC10
  refine hK.out _ _ ?_
  clear hK K
  refine norm_ (a' := ?_) ?_ ?_
  rotate_left
  · show Act.put _ (some 79) _ = _
    simp only [Act.put, List.setIfInBounds_toArray, List.set_cons_zero, List.set_cons_succ]
    rfl
  refine done_ (by kernel_rfl) ?_
  obtain ⟨l1, l2, l3⟩ := HLt.out
  have hC10 := (Chg.of_no (S := Only mp) (Chg.dr w9)).trans HC10.out
  have HC11 := Lib.hid (HC9.out.trans (hC10.mono fun j _ hj => .inr (.inr hj)))
  replace B2 := B2.chg hC10 (by show w.heap.size + 1 ≠ mp; omega)
  replace B5 := B5.chg hC10 (by show w4.heap.size ≠ mp; omega)
  have HP10 := Lib.hid (HP9.out.chg hC10 fun j hj _ h2 => by
    have h1 : W3.heap.size ≤ j := hj
    have h3 : j = mp := h2
    omega)
  clear hC10
  obtain ⟨d0, d1, d2, d3, d4, d5, d6, d7, d8⟩ := cells9 B5
  obtain ⟨e0, e1, e2, e3, e4, e5, e6, e7, e8⟩ := cells9 B2
  obtain ⟨f0, f1, f2, f3, f4, f5, f6, f7, f8⟩ := frz9 B2
  go_wp2_with fail
  exact back_row2 rfl rfl rfl (set9 B2 _ _ _ _ _ _ _ _ _) Tryz.underlying52 rfl infS rfl ⟨⟨_, rfl, (rd9 HP10.out (by show ¬ W3.heap.size ≤ w.heap.size + 1; omega) _ _ _ _ _ _ _ _ _).mono fun k hk _ => by have : W3.heap.size ≤ k := hk; show w.heap.size ≤ k; omega⟩, chg9 HC11.out (by omega) _ _ _ _ _ _ _ _ _⟩
end
end Go.Proofs.YtoefffjhjmjhfaaGreat
