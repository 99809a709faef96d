/- Package queue's copy of a message, whole. No statement is proved here. -/
import Derived.Test.YtoefffjhjmjhfaaGreatMsg
import Derived.Test.YtoefffjhjmjhfaaGreatPkQueue
namespace Go.Proofs.YtoefffjhjmjhfaaGreat
open Go.RowKit Go.Proofs.YtoefffjhjmjhfaaGreatW.PrintLast

abbrev mgx (m : Mg) (e d s : Value) : Ms := ⟨m.k, m.f, m.t, m.op, m.fr, m.key, m.bk, e, d, s⟩
/-- A message in memory. -/
structure MR (w : World) (A : Nat → Prop) (m : Mg) (x : Ms) : Prop where
  ex : ∃ e d s, x = mgx m e d s ∧ Rd w A (ensD m.es) e ∧ Rd w A (dgsD m.ds) d ∧ Rd w A (prsD m.ms) s
theorem MR.chg {w w' : World} {A S : Nat → Prop} {m : Mg} {x : Ms} (h : MR w A m x) (hC : Chg S w w') (hd : ∀ k, A k → k < w.heap.size → ¬ S k) : MR w' A m x := by
  obtain ⟨e, d, s, rfl, h1, h2, h3⟩ := h
  exact ⟨e, d, s, rfl, h1.chg hC hd, h2.chg hC hd, h3.chg hC hd⟩
theorem MR.st {w w' : World} {A : Nat → Prop} {m : Mg} {x : Ms} (h : MR w A m x) (hC : Chg NoB w w') : MR w' A m x := h.chg hC fun _ _ _ => id
theorem MR.mono {w : World} {A B : Nat → Prop} {m : Mg} {x : Ms} (h : MR w A m x) (hAB : ∀ k, A k → k < w.heap.size → B k) : MR w B m x := by
  obtain ⟨e, d, s, rfl, h1, h2, h3⟩ := h
  exact ⟨e, d, s, rfl, h1.mono hAB, h2.mono hAB, h3.mono hAB⟩
theorem MR.one {w : World} {A : Nat → Prop} {m : Mg} {x : Ms} (h : MR w A m x) : ∀ v ∈ mc x, v.oneCell' = true := by
  obtain ⟨e, d, s, rfl, h1, h2, h3⟩ := h
  intro v hv
  simp only [mc, List.mem_toArray, List.mem_cons, List.not_mem_nil, or_false] at hv
  rcases hv with rfl | rfl | rfl | rfl | rfl | rfl | rfl | rfl | rfl | rfl <;> first | rfl | exact h1.one | exact h2.one | exact h3.one
/-- A message in memory of its own. -/
structure OwnMg (w : World) (m : Mg) (e : Ending) (w' : World) : Prop where
  ex : ∃ y, e = .returned (msv y) ∧ MR w' (New w) m y
  chg : Chg NoB w w'
theorem cloneV {w : World} {A : Nat → Prop} {zs : List UInt8} {d : Value} (hd : Rd w A (bD zs) d) (hz : zs.length ≤ 140737488351232) : Calls Tryz.prog 133 #[d] w fun e w' => (∃ v', e = .returned v' ∧ Rd w' (New w) (bD zs) v') ∧ Chg NoB w w' := by
  rw [bD_plain] at hd ⊢
  exact cloneB_any hd (by simp [nums_length]; omega)
theorem clonePr {w : World} {A : Nat → Prop} {l : List (Int × Int)} {d : Value} (hd : Rd w A (prsD l) d) (hz : l.length ≤ 8796093021952) : Calls Tryz.prog 74 #[d] w fun e w' => (∃ v', e = .returned v' ∧ Rd w' (New w) (prsD l) v') ∧ Chg NoB w w' :=
  cloneD_any hd (by simp; omega)
theorem clonePm {w : World} {A : Nat → Prop} {l : List (Int × Int)} {d : Value} (hd : Rd w A (prsD l) d) (hz : l.length ≤ 8796093021952) : Calls Tryz.prog 75 #[d] w fun e w' => (∃ v', e = .returned v' ∧ Rd w' (New w) (prsD l) v') ∧ Chg NoB w w' :=
  cloneM_any hd (by simp; omega)
theorem take_1 {α : Type} {l : List α} {k : Nat} (h : k < l.length) {x : α} (hx : l[k] = x) : l.take (k + 1) = l.take k ++ [x] := by
  rw [List.take_succ_eq_append_getElem h, hx]
abbrev vz' : Array Value := #[.int .i64 0, .int .i64 0, .slice none 0 0, .bool false]
abbrev enz : En := ⟨⟨#[]⟩, fun _ => 0, []⟩
abbrev dgz : Dg := ⟨⟨#[]⟩, fun _ => 0, []⟩
theorem infVq : (Tryz.prog.info? 222).map (fun i => (i.zero, i.size, i.bytes)) = some (some (.agg vz'), 4, 48) := by kernel_rfl
theorem infEq : (Tryz.prog.info? 87).map (fun i => (i.zero, i.size, i.bytes)) = some (some (.agg (enc_ enz (.slice none 0 0))), 10, 104) := by kernel_rfl
theorem infDq : (Tryz.prog.info? 174).map (fun i => (i.zero, i.size, i.bytes)) = some (some (.agg (dgc dgz (.slice none 0 0))), 10, 104) := by kernel_rfl
theorem vls_at' {w : World} {A : Nat → Prop} {l : List Vl} {b off n cap : Nat} (h : Rd w A (vlsD l) (.slice (some ⟨b, off, none⟩) n cap)) {i : Nat} (hi : i < l.length) : ∃ q c, Rd w A (bD l[i].data) (.slice q l[i].data.length c) ∧ w.cell? ⟨b, off + i * 4, none⟩ = some (.int .i64 l[i].node) ∧ w.cell? ⟨b, off + i * 4 + 1, none⟩ = some (.int .i64 l[i].n) ∧ w.cell? ⟨b, off + i * 4 + 2, none⟩ = some (.slice q l[i].data.length c) ∧ w.cell? ⟨b, off + i * 4 + 3, none⟩ = some (.bool l[i].dead) := by
  obtain ⟨p, cap, he, _, _, _, _, h5⟩ := vls_form h
  simp only [Value.slice.injEq] at he
  obtain ⟨rfl, _, _⟩ := he
  obtain ⟨d, hd, h0, h1, h2, h3⟩ := h5 b off rfl i hi
  obtain ⟨q, c, rfl, _⟩ := bytes_form hd
  exact ⟨q, c, hd, h0, h1, h2, h3⟩
set_option maxRecDepth 100000 in
set_option maxHeartbeats 4000000 in
theorem copied_any {w : World} {A : Nat → Prop} (m : Mg) (e d s : Value) (he : Rd w A (ensD m.es) e) (hd : Rd w A (dgsD m.ds) d) (hs : Rd w A (prsD m.ms) s) (hM : Mz m) :
    Calls Tryz.prog 175 #[msv (mgx m e d s)] w (OwnMg w m) := by
  obtain ⟨p1, c1, rfl, h1, h2, h4⟩ := ens_form he
  obtain ⟨q1, c2, rfl, k1, k2, k4⟩ := dgs_form hd
  obtain ⟨r1, c3, rfl, l1, l2, l4⟩ := prs_form hs
  have HM := Lib.hid hM
  clear hM
  have hles := HM.out.es
  have hlds := HM.out.ds
  unfold maxLen at h2 k2 l2
  have B1 := (Blk.new w 40 (mc (mgx m (.slice p1 m.es.length c1) (.slice q1 m.ds.length c2) (.slice r1 m.ms.length c3)))).alloc (.cells (mc msz) 40)
  have B2 := Blk.new_ (k := w.heap.size + 1) (w.alloc (.cells (mc (mgx m (.slice p1 m.es.length c1) (.slice q1 m.ds.length c2) (.slice r1 m.ms.length c3))) 40)) 40 (mc msz) (by simp)
  have hC := ((Chg.refl NoB w).alloc (.cells (mc (mgx m (.slice p1 m.es.length c1) (.slice q1 m.ds.length c2) (.slice r1 m.ms.length c3))) 40)).alloc (.cells (mc msz) 40)
  have hz : w.heap.size + 2 ≤ ((w.alloc (.cells (mc (mgx m (.slice p1 m.es.length c1) (.slice q1 m.ds.length c2) (.slice r1 m.ms.length c3))) 40)).alloc (.cells (mc msz) 40)).heap.size := by simp
  go_enter Tryz.func175, Tryz.ntmps175
  go_wp2_with fail
  generalize (w.alloc (Obj.cells _ 40)).alloc (Obj.cells _ 40) = W at *
  go_loopw [3, 15] (fun l i wr => ∃ k : Nat, k ≤ m.es.length ∧ i = .int .i64 k ∧ Hid (OB wr (w.heap.size + 2) (Fr (w.heap.size + 2)) 87 10 l ((m.es.map enD).take k)) ∧ Chg NoB w wr ∧ w.heap.size + 2 ≤ wr.heap.size ∧ Blk wr w.heap.size 40 (mc (mgx m (.slice p1 m.es.length c1) (.slice q1 m.ds.length c2) (.slice r1 m.ms.length c3))) ∧ Blk wr (w.heap.size + 1) 40 (mc msz)) (fun _ i _ => m.es.length - (intOf i).toNat)
  case atStart => exact ⟨0, Nat.zero_le _, rfl, Lib.hid (OB.nil _ _ _ _ _), hC, hz, B1, B2⟩
  case round =>
    clear B1 B2 hC hz
    obtain ⟨k, hk, rfl, HO, HC, hz, B1, B2⟩ := hrel
    obtain ⟨wo, rfl⟩ : ∃ wo : World, wo = wr := ⟨_, rfl⟩
    by_cases hlt : k < m.es.length
    · obtain ⟨b, off, rfl, hA, hb⟩ := h4 (by omega)
      have hb1 := Nat.lt_of_lt_of_le hb HC.size
      obtain ⟨q2, cp2, hv, hcs⟩ := en_at (he.st HC) hlt
      have HEv := Lib.hid (HM.out.ev _ (List.getElem_mem hlt))
      generalize hg : m.es[k] = en at *
      have HV := Lib.hid hg
      clear hg
      have c0_ : wo.cell? ⟨b, off + k * 10, none⟩ = some (.string en.key) := hcs 0 (by decide)
      have c1_ : wo.cell? ⟨b, off + k * 10 + 1, none⟩ = some (.int .i64 (en.sb.seen 0)) := hcs 1 (by decide)
      have c2_ : wo.cell? ⟨b, off + k * 10 + 2, none⟩ = some (.int .i64 (en.sb.seen 1)) := hcs 2 (by decide)
      have c3_ : wo.cell? ⟨b, off + k * 10 + 3, none⟩ = some (.int .i64 (en.sb.seen 2)) := hcs 3 (by decide)
      have c4_ : wo.cell? ⟨b, off + k * 10 + 4, none⟩ = some (.int .i64 (en.sb.seen 3)) := hcs 4 (by decide)
      have c5_ : wo.cell? ⟨b, off + k * 10 + 5, none⟩ = some (.int .i64 (en.sb.seen 4)) := hcs 5 (by decide)
      have c6_ : wo.cell? ⟨b, off + k * 10 + 6, none⟩ = some (.int .i64 (en.sb.seen 5)) := hcs 6 (by decide)
      have c7_ : wo.cell? ⟨b, off + k * 10 + 7, none⟩ = some (.int .i64 (en.sb.seen 6)) := hcs 7 (by decide)
      have c8_ : wo.cell? ⟨b, off + k * 10 + 8, none⟩ = some (.int .i64 (en.sb.seen 7)) := hcs 8 (by decide)
      have c9_ : wo.cell? ⟨b, off + k * 10 + 9, none⟩ = some (.slice q2 en.sb.vals.length cp2) := hcs 9 (by decide)
      clear hcs
      go_wp2_with fail
      have hC := Chg.al wo (.cells (enc_ en (.slice q2 en.sb.vals.length cp2)) 87)
      have B3 := Blk.new wo 87 (enc_ en (.slice q2 en.sb.vals.length cp2))
      replace hv := hv.st hC
      have hz1 : wo.heap.size + 1 ≤ (wo.alloc (.cells (enc_ en (.slice q2 en.sb.vals.length cp2)) 87)).heap.size := by simp
      clear c0_ c1_ c2_ c3_ c4_ c5_ c6_ c7_ c8_ c9_
      have HC1 := Lib.hid hC
      have HB1 := Lib.hid B1
      have HB2 := Lib.hid B2
      have HB3 := Lib.hid B3
      clear hC B1 B2 B3
      generalize wo.alloc (Obj.cells _ 87) = W1 at *
      go_loopw [6, 23] (fun l6 j wx => ∃ n : Nat, n ≤ en.sb.vals.length ∧ j = .int .i64 n ∧ Hid (OB wx W1.heap.size (Fr W1.heap.size) 222 4 l6 ((en.sb.vals.map vlD).take n)) ∧ Chg NoB W1 wx) (fun _ j _ => en.sb.vals.length - (intOf j).toNat)
      case atStart => exact ⟨0, Nat.zero_le _, rfl, Lib.hid (OB.nil _ _ _ _ _), Chg.refl _ _⟩
      case round =>
        obtain ⟨n, hn, rfl, HI, HX⟩ := hrel
        by_cases hln : n < en.sb.vals.length
        · obtain ⟨b', off', rfl, hA', hb'⟩ := rows_ptr hv (by simp; omega)
          have hb2 := Nat.lt_of_lt_of_le hb' HX.size
          obtain ⟨q3, cp3, hdv, d0, d1, d2, d3⟩ := vls_at' (hv.st HX) hln
          have hl1 := HEv.out.2 _ (List.getElem_mem hln)
          generalize hgv : en.sb.vals[n] = v at *
          have HVv := Lib.hid hgv
          clear hgv
          go_wp2_with fail
          have hC := Chg.al wr (.cells (vlc v (.slice q3 v.data.length cp3)) 222)
          have B4 := Blk.new wr 222 (vlc v (.slice q3 v.data.length cp3))
          replace hdv := hdv.st hC
          have hz2 : (wr.alloc (.cells (vlc v (.slice q3 v.data.length cp3)) 222)).heap.size = wr.heap.size + 1 := by simp
          clear d0 d1 d2 d3
          generalize wr.alloc (Obj.cells _ 222) = W2 at *
          refine (cloneV hdv hl1).mono ?_
          rintro e w3 ⟨⟨d2, rfl, hd2⟩, hC3⟩
          obtain ⟨q5, cp5, rfl, _⟩ := bytes_form hd2
          replace B4 := B4.st hC3
          replace hC := hC.trans hC3
          have hz3 := hC3.size
          obtain ⟨f0, f1, f2, f3⟩ := cells4 B4
          obtain ⟨g0, g1, g2, g3⟩ := frz4 B4
          have hC5 := hC.sc (i := 2) (Nat.le_refl _) (.slice q5 v.data.length cp5)
          have HI5 := Lib.hid (HI.out.st hC5)
          have HX5 := Lib.hid (HX.st hC5)
          have HD5 := Lib.hid ((hd2.sc (b := wr.heap.size) (i := 2) (by show ¬ W2.heap.size ≤ wr.heap.size; omega) (.slice q5 v.data.length cp5)).mono (B := fun k => Fr W1.heap.size k ∧ u6.ownBlock ≠ some k) fun k hk _ => ⟨by have h1 : W2.heap.size ≤ k := hk; have h2 := HX.size; show W1.heap.size ≤ k; omega, fun ho => by have h1 : W2.heap.size ≤ k := hk; have := (HI.out.lt k ho).2; omega⟩)
          have hlen : ((en.sb.vals.map vlD).take n).length = n := by simp; omega
          have HLen := Lib.hid hlen
          have hev := HEv.out.1
          have hzz : W1.heap.size ≤ w3.heap.size := by have := HX.size; omega
          clear hlen hd2 hC5 hdv
          go_wp2_with (at_builtin; refine wpList_push rfl _ _ _ rfl W1.heap.size 222 _ 4 48 Tryz.underlying50 infVq rfl (by decide) _ _ (Fr W1.heap.size) rfl (HI5.out.st (Chg.al _ _)) _ _ _ _ (vlD v) rfl (Blk.new_ (k := w3.heap.size) (w3.setCell ⟨wr.heap.size, 2, none⟩ (.slice q5 v.data.length cp5)) 222 (vlc v (.slice q5 v.data.length cp5)) (by simp)) rfl (vl_rds (HD5.out.st (Chg.al _ _))) rfl (by rw [HLen.out]; omega) (by rw [HLen.out]; unfold maxLen; omega) (Nat.le_trans HX5.out.size (Chg.al _ _).size) ?_)
          intro g cap3 w6 hO hC6 hat hlt3
          have hO2 := Lib.hid hO
          have HX6 := (HX5.out.trans (Chg.al _ _)).then_ hC6 (fun j hj hs => by have := (HI5.out.lt j hs).1; omega)
          clear hC6 hO hat HD5 HI5 HX5 f0 f1 f2 f3 g0 g1 g2 g3 B4 hC hC3
          go_wp2_with fail
          go_roundw
          case rel => exact ⟨n + 1, by omega, by go_num, by rw [take_1 (by simpa using hln) (by rw [List.getElem_map, HVv.out])]; exact hO2, HX6⟩
          case measure => simp [intOf]; omega
        · obtain rfl : n = en.sb.vals.length := by omega
          rw [List.take_of_length_le (by simp)] at HI
          have hR := HI.out.rd fun k hk => hk
          obtain ⟨p6, cp6, rfl, _⟩ := vls_form hR
          have B3 := HB3.out.st HX
          have hC := HC1.out.trans HX
          obtain ⟨f0, f1, f2, f3, f4, f5, f6, f7, f8, f9⟩ := cells10 B3
          obtain ⟨g0, g1, g2, g3, g4, g5, g6, g7, g8, g9⟩ := frz10 B3
          have hC5 := hC.sc (i := 9) (Nat.le_refl _) (.slice p6 en.sb.vals.length cp6)
          have HO5 := Lib.hid (HO.out.st hC5)
          have HC5 := Lib.hid (HC.st hC5)
          have HD5 := Lib.hid ((hR.sc (b := wo.heap.size) (i := 9) (by show ¬ W1.heap.size ≤ wo.heap.size; omega) (.slice p6 en.sb.vals.length cp6)).mono (B := fun k => Fr (w.heap.size + 2) k ∧ u3.ownBlock ≠ some k) fun k hk _ => ⟨by have h1 : W1.heap.size ≤ k := hk; show w.heap.size + 2 ≤ k; omega, fun ho => by have h1 : W1.heap.size ≤ k := hk; have := (HO.out.lt k ho).2; omega⟩)
          have HB1' := Lib.hid (HB1.out.st hC5)
          have HB2' := Lib.hid (HB2.out.st hC5)
          have hlen : ((m.es.map enD).take k).length = k := by simp; omega
          have HLen := Lib.hid hlen
          have hzz : w.heap.size + 2 ≤ wr.heap.size := by have := hC.size; omega
          have HC7 := Lib.hid hC5
          clear hlen hC5 hR HI hv
          go_wp2_with (at_builtin; refine wpList_push rfl _ _ _ rfl (w.heap.size + 2) 87 _ 10 104 Tryz.underlying36 infEq rfl (by decide) _ _ (Fr (w.heap.size + 2)) rfl (HO5.out.st (Chg.al _ _)) _ _ _ _ (enD en) rfl (Blk.new_ (k := wr.heap.size) (wr.setCell ⟨wo.heap.size, 9, none⟩ (.slice p6 en.sb.vals.length cp6)) 87 (enc_ en (.slice p6 en.sb.vals.length cp6)) (by simp)) rfl (en_rds (HD5.out.st (Chg.al _ _))) rfl (by rw [HLen.out]; omega) (by rw [HLen.out]; unfold maxLen; omega) (Nat.le_trans hz (HC7.out.trans (Chg.al _ _)).size) ?_)
          intro g cap3 w6 hO hC6 hat hlt3
          have hO2 := Lib.hid hO
          have HX6 := (HC5.out.trans (Chg.al _ _)).then_ hC6 (fun j hj hs => by have := (HO5.out.lt j hs).1; omega)
          have B1 := (HB1'.out.st (Chg.al _ _)).chg hC6 (fun hs => by have := (HO5.out.lt _ hs).1; omega)
          have B2 := (HB2'.out.st (Chg.al _ _)).chg hC6 (fun hs => by have := (HO5.out.lt _ hs).1; omega)
          have hz6 : w.heap.size + 2 ≤ w6.heap.size := by have := hC6.size; simp at this; omega
          clear hC6 hO hat HD5 HO5 HC5 f0 f1 f2 f3 f4 f5 f6 f7 f8 f9 g0 g1 g2 g3 g4 g5 g6 g7 g8 g9 B3 hC HB1' HB2'
          go_wp2_with fail
          go_roundw
          case rel => exact ⟨k + 1, by omega, by go_num, by rw [take_1 (by simpa using hlt) (by rw [List.getElem_map, HV.out])]; exact hO2, HX6, hz6, B1, B2⟩
          case measure => simp [intOf]; omega
    · obtain rfl : k = m.es.length := by omega
      rw [List.take_of_length_le (by simp)] at HO
      have hR := HO.out.rd fun k hk => hk
      obtain ⟨p7, cp7, rfl, _⟩ := ens_form hR
      obtain ⟨f0, f1, f2, f3, f4, f5, f6, f7, f8, f9⟩ := cells10 B1
      obtain ⟨g0, g1, g2, g3, g4, g5, g6, g7, g8, g9⟩ := frz10 B1
      have B1' : Blk (wo.setCell ⟨w.heap.size, 7, none⟩ (.slice p7 m.es.length cp7)) w.heap.size 40 (mc (mgx m (.slice p7 m.es.length cp7) (.slice q1 m.ds.length c2) (.slice r1 m.ms.length c3))) := B1.set_ 7 _
      have B2' := B2.far (p := ⟨w.heap.size, 7, none⟩) (by show w.heap.size + 1 ≠ w.heap.size; omega) (.slice p7 m.es.length cp7)
      have hR7 := hR.sc (b := w.heap.size) (i := 7) (by show ¬ w.heap.size + 2 ≤ w.heap.size; omega) (.slice p7 m.es.length cp7)
      have HC7 := HC.sc (i := 7) (Nat.le_refl _) (.slice p7 m.es.length cp7)
      have hz7 : w.heap.size + 2 ≤ (wo.setCell ⟨w.heap.size, 7, none⟩ (.slice p7 m.es.length cp7)).heap.size := by simpa using hz
      obtain ⟨e0, e1, e2, e3, e4, e5, e6, e7, e8, e9⟩ := cells10 B1'
      go_wp2_with fail
      clear f0 f1 f2 f3 f4 f5 f6 f7 f8 f9 g0 g1 g2 g3 g4 g5 g6 g7 g8 g9 e0 e1 e2 e3 e4 e5 e6 e7 e8 e9 B1 B2 hR HC hz HO he
      have HB1 := Lib.hid B1'
      have HB2 := Lib.hid B2'
      have HR7 := Lib.hid hR7
      have HC7 := Lib.hid HC7
      clear B1' B2' hR7
      generalize wo.setCell ⟨w.heap.size, 7, none⟩ (Value.slice p7 m.es.length cp7) = W8 at *
      go_loopw [9, 49] (fun l i wr => ∃ k : Nat, k ≤ m.ds.length ∧ i = .int .i64 k ∧ Hid (OB wr W8.heap.size (Fr W8.heap.size) 174 10 l ((m.ds.map dgD).take k)) ∧ Chg NoB W8 wr) (fun _ i _ => m.ds.length - (intOf i).toNat)
      case atStart => exact ⟨0, Nat.zero_le _, rfl, Lib.hid (OB.nil _ _ _ _ _), Chg.refl _ _⟩
      case round =>
        obtain ⟨k, hk, rfl, HO, HC⟩ := hrel
        by_cases hlt : k < m.ds.length
        · obtain ⟨b, off, rfl, hA, hb⟩ := k4 (by omega)
          have hb1 := Nat.lt_of_lt_of_le hb (HC7.out.st HC).size
          obtain ⟨q2, cp2, hv, hcs⟩ := dg_at (hd.st (HC7.out.st HC)) hlt
          have hl1 := HM.out.dd _ (List.getElem_mem hlt)
          generalize hg : m.ds[k] = dg at *
          have HV := Lib.hid hg
          clear hg
          have c0_ : wr.cell? ⟨b, off + k * 10, none⟩ = some (.string dg.key) := hcs 0 (by decide)
          have c1_ : wr.cell? ⟨b, off + k * 10 + 1, none⟩ = some (.int .i64 (dg.seen 0)) := hcs 1 (by decide)
          have c2_ : wr.cell? ⟨b, off + k * 10 + 2, none⟩ = some (.int .i64 (dg.seen 1)) := hcs 2 (by decide)
          have c3_ : wr.cell? ⟨b, off + k * 10 + 3, none⟩ = some (.int .i64 (dg.seen 2)) := hcs 3 (by decide)
          have c4_ : wr.cell? ⟨b, off + k * 10 + 4, none⟩ = some (.int .i64 (dg.seen 3)) := hcs 4 (by decide)
          have c5_ : wr.cell? ⟨b, off + k * 10 + 5, none⟩ = some (.int .i64 (dg.seen 4)) := hcs 5 (by decide)
          have c6_ : wr.cell? ⟨b, off + k * 10 + 6, none⟩ = some (.int .i64 (dg.seen 5)) := hcs 6 (by decide)
          have c7_ : wr.cell? ⟨b, off + k * 10 + 7, none⟩ = some (.int .i64 (dg.seen 6)) := hcs 7 (by decide)
          have c8_ : wr.cell? ⟨b, off + k * 10 + 8, none⟩ = some (.int .i64 (dg.seen 7)) := hcs 8 (by decide)
          have c9_ : wr.cell? ⟨b, off + k * 10 + 9, none⟩ = some (.slice q2 dg.dots.length cp2) := hcs 9 (by decide)
          clear hcs
          go_wp2_with fail
          have hC := Chg.al wr (.cells (dgc dg (.slice q2 dg.dots.length cp2)) 174)
          have B3 := Blk.new wr 174 (dgc dg (.slice q2 dg.dots.length cp2))
          replace hv := hv.st hC
          have hz2 : (wr.alloc (.cells (dgc dg (.slice q2 dg.dots.length cp2)) 174)).heap.size = wr.heap.size + 1 := by simp
          clear c0_ c1_ c2_ c3_ c4_ c5_ c6_ c7_ c8_ c9_
          generalize wr.alloc (Obj.cells _ 174) = W2 at *
          refine (clonePr hv hl1).mono ?_
          rintro e w3 ⟨⟨d2, rfl, hd2⟩, hC3⟩
          obtain ⟨q5, cp5, rfl, _⟩ := prs_form hd2
          replace B3 := B3.st hC3
          replace hC := hC.trans hC3
          have hz3 := hC3.size
          obtain ⟨f0, f1, f2, f3, f4, f5, f6, f7, f8, f9⟩ := cells10 B3
          obtain ⟨g0, g1, g2, g3, g4, g5, g6, g7, g8, g9⟩ := frz10 B3
          have hC5 := hC.sc (i := 9) (Nat.le_refl _) (.slice q5 dg.dots.length cp5)
          have HO5 := Lib.hid (HO.out.st hC5)
          have HX5 := Lib.hid (HC.st hC5)
          have HD5 := Lib.hid ((hd2.sc (b := wr.heap.size) (i := 9) (by show ¬ W2.heap.size ≤ wr.heap.size; omega) (.slice q5 dg.dots.length cp5)).mono (B := fun k => Fr W8.heap.size k ∧ u9.ownBlock ≠ some k) fun k hk _ => ⟨by have h1 : W2.heap.size ≤ k := hk; have h2 := HC.size; show W8.heap.size ≤ k; omega, fun ho => by have h1 : W2.heap.size ≤ k := hk; have := (HO.out.lt k ho).2; omega⟩)
          have hlen : ((m.ds.map dgD).take k).length = k := by simp; omega
          have HLen := Lib.hid hlen
          clear hlen hd2 hC5 hv
          go_wp2_with (at_builtin; refine wpList_push rfl _ _ _ rfl W8.heap.size 174 _ 10 104 Tryz.underlying37 infDq rfl (by decide) _ _ (Fr W8.heap.size) rfl (HO5.out.st (Chg.al _ _)) _ _ _ _ (dgD dg) rfl (Blk.new_ (k := w3.heap.size) (w3.setCell ⟨wr.heap.size, 9, none⟩ (.slice q5 dg.dots.length cp5)) 174 (dgc dg (.slice q5 dg.dots.length cp5)) (by simp)) rfl (dg_rds (HD5.out.st (Chg.al _ _))) rfl (by rw [HLen.out]; omega) (by rw [HLen.out]; unfold maxLen; omega) (Nat.le_trans HX5.out.size (Chg.al _ _).size) ?_)
          intro g cap3 w6 hO hC6 hat hlt3
          have hO2 := Lib.hid hO
          have HX6 := (HX5.out.trans (Chg.al _ _)).then_ hC6 (fun j hj hs => by have := (HO5.out.lt j hs).1; omega)
          clear hC6 hO hat HD5 HO5 HX5 f0 f1 f2 f3 f4 f5 f6 f7 f8 f9 g0 g1 g2 g3 g4 g5 g6 g7 g8 g9 B3 hC hC3
          go_wp2_with fail
          go_roundw
          case rel => exact ⟨k + 1, by omega, by go_num, by rw [take_1 (by simpa using hlt) (by rw [List.getElem_map, HV.out])]; exact hO2, HX6⟩
          case measure => simp [intOf]; omega
        · obtain rfl : k = m.ds.length := by omega
          rw [List.take_of_length_le (by simp)] at HO
          have hR8 := HO.out.rd fun k hk => hk
          obtain ⟨p8, cp8, rfl, _⟩ := dgs_form hR8
          have B1 := HB1.out.st HC
          have B2 := HB2.out.st HC
          have hR7 := HR7.out.st HC
          have hC := HC7.out.st HC
          obtain ⟨f0, f1, f2, f3, f4, f5, f6, f7, f8, f9⟩ := cells10 B1
          obtain ⟨g0, g1, g2, g3, g4, g5, g6, g7, g8, g9⟩ := frz10 B1
          have B1' : Blk (wr.setCell ⟨w.heap.size, 8, none⟩ (.slice p8 m.ds.length cp8)) w.heap.size 40 (mc (mgx m (.slice p7 m.es.length cp7) (.slice p8 m.ds.length cp8) (.slice r1 m.ms.length c3))) := B1.set_ 8 _
          have B2' := B2.far (p := ⟨w.heap.size, 8, none⟩) (by show w.heap.size + 1 ≠ w.heap.size; omega) (.slice p8 m.ds.length cp8)
          replace hR7 := hR7.sc (b := w.heap.size) (i := 8) (by show ¬ w.heap.size + 2 ≤ w.heap.size; omega) (.slice p8 m.ds.length cp8)
          replace hR8 := hR8.sc (b := w.heap.size) (i := 8) (by show ¬ W8.heap.size ≤ w.heap.size; omega) (.slice p8 m.ds.length cp8)
          replace hC := hC.sc (i := 8) (Nat.le_refl _) (.slice p8 m.ds.length cp8)
          obtain ⟨e0, e1, e2, e3, e4, e5, e6, e7, e8, e9⟩ := cells10 B1'
          go_wp2_with fail
          clear f0 f1 f2 f3 f4 f5 f6 f7 f8 f9 g0 g1 g2 g3 g4 g5 g6 g7 g8 g9 e0 e1 e2 e3 e4 e5 e6 e7 e8 e9 B1 B2
          have hz9 : W8.heap.size ≤ (wr.setCell ⟨w.heap.size, 8, none⟩ (.slice p8 m.ds.length cp8)).heap.size := by have := HC.size; simpa using this
          clear HC HO
          have hs' := hs.st hC
          generalize wr.setCell ⟨w.heap.size, 8, none⟩ (Value.slice p8 m.ds.length cp8) = W9 at *
          refine (clonePm hs' HM.out.ms).mono ?_
          rintro e w4 ⟨⟨d2, rfl, hR9⟩, hC4⟩
          obtain ⟨p9, cp9, rfl, _⟩ := prs_form hR9
          have B1 := B1'.st hC4
          replace hR7 := hR7.st hC4
          replace hR8 := hR8.st hC4
          replace hC := hC.st hC4
          obtain ⟨f0, f1, f2, f3, f4, f5, f6, f7, f8, f9⟩ := cells10 B1
          obtain ⟨g0, g1, g2, g3, g4, g5, g6, g7, g8, g9⟩ := frz10 B1
          have B2 := (B2'.st hC4).far (p := ⟨w.heap.size, 9, none⟩) (by show w.heap.size + 1 ≠ w.heap.size; omega) (.slice p9 m.ms.length cp9)
          obtain ⟨x0, x1, x2, x3, x4, x5, x6, x7, x8, x9⟩ := cells10 B2
          obtain ⟨y0, y1, y2, y3, y4, y5, y6, y7, y8, y9⟩ := frz10 (w := w4) (B2'.st hC4)
          clear B1' B2' hC4 hs' hs hd
          go_wp2_with fail
          have n7 := rd10 (hR7.sc (b := w.heap.size) (i := 9) (by show ¬ w.heap.size + 2 ≤ w.heap.size; omega) (.slice p9 m.ms.length cp9)) (b := w.heap.size + 1) (by show ¬ w.heap.size + 2 ≤ w.heap.size + 1; omega) (.int .i64 m.k) (.int .i64 m.f) (.int .i64 m.t) (.int .i64 m.op) (.int .i64 m.fr) (.string m.key) (.int .i64 m.bk) (.slice p7 m.es.length cp7) (.slice p8 m.ds.length cp8) (.slice p9 m.ms.length cp9)
          have n8 := rd10 (hR8.sc (b := w.heap.size) (i := 9) (by show ¬ W8.heap.size ≤ w.heap.size; omega) (.slice p9 m.ms.length cp9)) (b := w.heap.size + 1) (by show ¬ W8.heap.size ≤ w.heap.size + 1; omega) (.int .i64 m.k) (.int .i64 m.f) (.int .i64 m.t) (.int .i64 m.op) (.int .i64 m.fr) (.string m.key) (.int .i64 m.bk) (.slice p7 m.es.length cp7) (.slice p8 m.ds.length cp8) (.slice p9 m.ms.length cp9)
          have n9 := rd10 (hR9.sc (b := w.heap.size) (i := 9) (by show ¬ W9.heap.size ≤ w.heap.size; omega) (.slice p9 m.ms.length cp9)) (b := w.heap.size + 1) (by show ¬ W9.heap.size ≤ w.heap.size + 1; omega) (.int .i64 m.k) (.int .i64 m.f) (.int .i64 m.t) (.int .i64 m.op) (.int .i64 m.fr) (.string m.key) (.int .i64 m.bk) (.slice p7 m.es.length cp7) (.slice p8 m.ds.length cp8) (.slice p9 m.ms.length cp9)
          exact back_ms rfl (mgx m (.slice p7 m.es.length cp7) (.slice p8 m.ds.length cp8) (.slice p9 m.ms.length cp9)) rfl (ten_set (x := msz) B2 _ _ _ _ _ _ _ _ _ _) rfl
            ⟨⟨_, rfl, ⟨_, _, _, rfl, n7.mono fun k hk _ => by (have h1 : w.heap.size + 2 ≤ k := hk; show w.heap.size ≤ k; omega), n8.mono fun k hk _ => by (have h1 : W8.heap.size ≤ k := hk; show w.heap.size ≤ k; omega), n9.mono fun k hk _ => by (have h1 : W9.heap.size ≤ k := hk; show w.heap.size ≤ k; omega)⟩⟩,
              chg10 (hC.sc (i := 9) (Nat.le_refl _) _) (by omega) _ _ _ _ _ _ _ _ _ _⟩
end Go.Proofs.YtoefffjhjmjhfaaGreat
