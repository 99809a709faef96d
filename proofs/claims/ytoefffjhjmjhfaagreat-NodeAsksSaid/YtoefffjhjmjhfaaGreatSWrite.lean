/- Siblings and entries, written. No statement is proved here. -/
import Derived.Test.YtoefffjhjmjhfaaGreatWireZ
import Derived.Test.YtoefffjhjmjhfaaGreatSibs
import Derived.Lib.ConvBytes
namespace Go.Proofs.YtoefffjhjmjhfaaGreat
open Go.RowKit Go.Proofs.YtoefffjhjmjhfaaGreatW.PrintLast
attribute [local go_sem] max2_mx min2_mn max_two_ min_two_
set_option maxRecDepth 100000

theorem cell_st {w w' : World} {a : Addr} {v : Value} (h : w.cell? a = some v) (hC : Chg NoB w w') : w'.cell? a = some v := (World.cell?_of_block (hC.block _ (cell_lt h) id)).trans h
theorem bytesWorld_no (w : World) (e : TypeId) (s : ByteArray) : Chg NoB w (Lib.bytesWorld w e s) :=
  ⟨rfl, rfl, rfl, by rw [Lib.bytesWorld_size]; omega, fun k hk _ => Lib.bytesWorld_at_old w e s k hk⟩
/-- A text's bytes, made anew. -/
theorem rd_bytes (w : World) (s : ByteArray) (hs : s.size ≤ 1000000) : Rd (Lib.bytesWorld w 5 s) (New w) (bD s.data.toList) (.slice (some ⟨w.heap.size, 0, none⟩) s.size (grownCap w s.size 0 5)) := by
  have hl : ((nums s.data.toList).map fun z => [D.c (.int .u8 z)]).length = s.size := by rw [List.length_map, nums_length]; rfl
  have h := Rd.s (w := Lib.bytesWorld w 5 s) (A := New w) 1 ((nums s.data.toList).map fun z => [D.c (.int .u8 z)]) w.heap.size 0 (grownCap w s.size 0 5) (fun i _ => .int .u8 (s.data.toList.getD i 0).toNat) (by rw [hl]; exact grownCap_ge _ _ _ _) (grownCap_le_maxLen _ _ _ _ (by unfold maxLen; omega))
    (fun _ => ⟨Nat.le_refl _, by rw [Lib.bytesWorld_size]; omega⟩) (fun i hi => by simp) (fun i j hi hj => by
      rw [hl] at hi
      obtain rfl : j = 0 := by omega
      have := Lib.bytesWorld_cell w 5 s i hi
      simpa using this) (fun i hi j hj => by
      have hi2 : i < s.data.toList.length := by rw [hl] at hi; exact hi
      simp only [List.getElem_map, List.length_singleton] at hj ⊢
      obtain rfl : j = 0 := by omega
      simp only [nums, List.getElem_map, List.getElem_cons_zero]
      rw [List.getD_eq_getElem?_getD, List.getElem?_eq_getElem hi2]
      exact .c _ rfl)
  rw [hl] at h
  exact h
def vlB (v : Vl) : List Int := nb v.node.toNat ++ (ib v.n ++ ((if v.dead then 1 else 0) :: tb v.data))
def sbB (s : Sb) : List Int := ibs s.seen 8 ++ (nb s.vals.length ++ s.vals.flatMap vlB)
theorem tb_len {l : List UInt8} (h : l.length ≤ 1000000) : (tb l).length ≤ 10 + l.length := by
  unfold tb
  rw [List.length_append, nums_length]
  have := nb_len 9 l.length (by omega)
  omega
/-- Values as they may be. -/
def Vok (l : List Vl) : Prop := ∀ v ∈ l, (0 ≤ v.node ∧ v.node < 8) ∧ v.data.length ≤ 200
theorem vlB_len {v : Vl} (h : (0 ≤ v.node ∧ v.node < 8) ∧ v.data.length ≤ 200) : (vlB v).length ≤ 231 := by
  unfold vlB
  rw [List.length_append, List.length_append, List.length_cons]
  have h1 := nb_len 9 v.node.toNat (by omega)
  have h2 := ib_len v.n
  have h3 := tb_len (l := v.data) (by omega)
  omega
theorem vlsB_len : ∀ {l : List Vl}, Vok l → (l.flatMap vlB).length ≤ 231 * l.length
  | [], _ => by simp
  | v :: l, h => by
    have h1 := vlB_len (h v (by simp))
    have h2 := vlsB_len (l := l) fun u hu => h u (by simp [hu])
    rw [List.flatMap_cons, List.length_append, List.length_cons]
    omega
theorem sbB_len {s : Sb} (h : Vok s.vals) (h2 : s.vals.length ≤ 16) : (sbB s).length ≤ 3786 := by
  unfold sbB
  rw [List.length_append, List.length_append]
  have h1 := ibs_len s.seen 8
  have h3 := nb_len 9 s.vals.length (by omega)
  have h4 := vlsB_len h
  omega
section
variable {w0 w w' : World} {g : Nat} {most : Int} {zs : List Int} {A : Nat → Prop}
theorem WZ.lt (h : WZ w0 w g most zs) : g < w.heap.size := by
  obtain ⟨⟨s, h1, _⟩, _⟩ := h
  exact h1.blk.lt
set_option maxHeartbeats 4000000 in
theorem writeS_z (h : WZ w0 w g most zs) (s : Sb) (p : Value) (hp : Rd w0 A (vlsD s.vals) p) (hv : Vok s.vals) (hl : s.vals.length ≤ 16) (hroom : (zs.length : Int) + 4000 ≤ most) (hmost : most ≤ 4294967296) :
    Calls Tryz.prog 194 #[.pointer (some ⟨g, 0, none⟩), sbv s p] w fun e w' => e = .returned (.tuple #[]) ∧ WZ w0 w' g most (zs ++ sbB s) ∧ Kt g w w' := by
  obtain ⟨p1, c1, rfl, h1, h2, _, h4, _⟩ := vls_form hp
  have HP0 := Lib.hid hp
  have HV := Lib.hid hv
  have HH := Lib.hid (h.st (Chg.al w (.cells (sbc s (.slice p1 s.vals.length c1)) 52)))
  have HK : Hid (Kt g w (w.alloc (.cells (sbc s (.slice p1 s.vals.length c1)) 52))) := Lib.hid (.no (Chg.al w _))
  have B := Blk.new w 52 (sbc s (.slice p1 s.vals.length c1))
  have hg : w.heap.size ≠ g := by have := h.lt; omega
  have HG := Lib.hid hg
  have hwr : IntKind.u64.wrap (s.vals.length : Int) = (s.vals.length : Int) := by rw [IntKind.wrap_u64]; omega
  clear h hp hv hg h2
  go_enter Tryz.func194, Tryz.ntmps194
  go_upto_region 1 with fail
  generalize w.alloc (Obj.cells _ 52) = W at *
  obtain ⟨d0, d1, d2, d3, d4, d5, d6, d7, d8⟩ := cells9 B
  go_wp2_with fail
  refine (writeV_z HH.out s.seen (by omega) hmost).mono ?_
  rintro e w1 ⟨rfl, hq, hk⟩
  have HH1 := Lib.hid hq
  have HK1 := Lib.hid (HK.out.trans hk)
  have B1 := hk _ _ _ HG.out (by decide) B
  clear hq hk B HH HK d0 d1 d2 d3 d4 d5 d6 d7 d8
  obtain ⟨d0, d1, d2, d3, d4, d5, d6, d7, d8⟩ := cells9 B1
  have hi := ibs_len s.seen 8
  have hn := nb_len 9 s.vals.length (by omega)
  go_wp2_with fail
  refine (wnum_z HH1.out s.vals.length (by omega) (by rw [List.length_append]; omega) hmost).mono ?_
  rintro e w2 ⟨rfl, hq, hk⟩
  have HH2 := Lib.hid hq
  have HK2 := Lib.hid (HK1.out.trans hk)
  have B2 := hk _ _ _ HG.out (by decide) B1
  clear hq hk B1 HH1 HK1 d0 d1 d2 d3 d4 d5 d6 d7 d8
  obtain ⟨d0, d1, d2, d3, d4, d5, d6, d7, d8⟩ := cells9 B2
  go_upto_block 0 with fail
  go_wp2_with fail
  clear d0 d1 d2 d3 d4 d5 d6 d7 d8 B2 hwr
  go_loopw [19] (fun i wr => ∃ k : Nat, k ≤ s.vals.length ∧ i = .int .i64 k ∧ Hid (WZ w0 wr g most (zs ++ ibs s.seen 8 ++ nb s.vals.length ++ (s.vals.take k).flatMap vlB)) ∧ Hid (Kt g w wr)) (fun i _ => s.vals.length - (intOf i).toNat)
  case atStart => exact ⟨0, Nat.zero_le _, rfl, Lib.hid (by simpa using HH2.out), HK2⟩
  case round =>
    clear HH2 HK2
    obtain ⟨k, hk, rfl, HH, HK⟩ := hrel
    by_cases hlt : k < s.vals.length
    · obtain ⟨b, off, rfl, hA, hb⟩ := h4 (by omega)
      obtain ⟨g1, cp1, hd, c0, c1, c2, c3⟩ := vls_at HP0.out hlt
      have HD := Lib.hid hd
      replace c0 := cell_st c0 HH.out.chg
      replace c1 := cell_st c1 HH.out.chg
      replace c2 := cell_st c2 HH.out.chg
      replace c3 := cell_st c3 HH.out.chg
      have hok := HV.out _ (List.getElem_mem hlt)
      have hpre := vlsB_len (l := s.vals.take k) fun u hu => HV.out u (List.mem_of_mem_take hu)
      rw [List.length_take] at hpre
      have hpre2 : ((s.vals.take k).flatMap vlB).length ≤ 3465 := by omega
      generalize hv : s.vals[k] = v at *
      obtain ⟨nd, xn, data, dead⟩ := v
      dsimp only at *
      obtain ⟨m, rfl⟩ : ∃ m : Nat, nd = (m : Int) := ⟨nd.toNat, by omega⟩
      have hvb : vlB ⟨(m : Int), xn, data, dead⟩ = nb m ++ (ib xn ++ ((if dead then 1 else 0) :: tb data)) := rfl
      have HX := Lib.hid hvb
      have hm1 := nb_len 9 m (by omega)
      have hm2 := ib_len xn
      have hm3 := tb_len (l := data) (by omega)
      have HVK := Lib.hid hv
      have hwr : IntKind.u64.wrap (m : Int) = (m : Int) := by rw [IntKind.wrap_u64]; omega
      have B := Blk.new wr 222 (vlc ⟨(m : Int), xn, data, dead⟩ (.slice g1 data.length cp1))
      have HG2 : Hid (wr.heap.size ≠ g) := Lib.hid (by have := HH.out.lt; omega)
      have HHa := Lib.hid (HH.out.st (Chg.al wr (.cells (vlc ⟨(m : Int), xn, data, dead⟩ (.slice g1 data.length cp1)) 222)))
      have HKa : Hid (Kt g w (wr.alloc (.cells (vlc ⟨(m : Int), xn, data, dead⟩ (.slice g1 data.length cp1)) 222))) := Lib.hid (HK.out.trans (.no (Chg.al wr _)))
      clear hv hvb HH HK hd hpre
      go_wp2_with fail
      clear c0 c1 c2 c3
      generalize wr.alloc (Obj.cells _ 222) = W2 at *
      refine (wnum_z HHa.out m (by omega) (by simp only [List.length_append]; omega) hmost).mono ?_
      rintro e w3_ ⟨rfl, hq, hk⟩
      have HH3 := Lib.hid hq
      have HK3 := Lib.hid (HKa.out.trans hk)
      have B3 := hk _ _ _ HG2.out (by decide) B
      clear hq hk B HHa HKa
      obtain ⟨c0, c1, c2, c3⟩ := cells4 B3
      go_wp2_with fail
      refine (wint_z HH3.out xn (by simp only [List.length_append]; omega) hmost).mono ?_
      rintro e w4 ⟨rfl, hq, hk⟩
      have HH4 := Lib.hid hq
      have HK4 := Lib.hid (HK3.out.trans hk)
      have B4 := hk _ _ _ HG2.out (by decide) B3
      clear hq hk B3 HH3 HK3 c0 c1 c2 c3
      obtain ⟨c0, c1, c2, c3⟩ := cells4 B4
      go_wp2_with fail
      refine (wflag_z HH4.out dead (by simp only [List.length_append]; omega) hmost).mono ?_
      rintro e w5 ⟨rfl, hq, hk⟩
      have HH5 := Lib.hid hq
      have HK5 := Lib.hid (HK4.out.trans hk)
      have B5 := hk _ _ _ HG2.out (by decide) B4
      clear hq hk B4 HH4 HK4 c0 c1 c2 c3
      obtain ⟨c0, c1, c2, c3⟩ := cells4 B5
      go_wp2_with fail
      refine (wtext_z HH5.out data _ (HD.out.st HH5.out.chg) (by omega) (by simp only [List.length_append, List.length_cons, List.length_nil]; omega) hmost).mono ?_
      rintro e w6 ⟨rfl, hq, hk⟩
      have HH6 := Lib.hid hq
      have HK6 := Lib.hid (HK5.out.trans hk)
      clear hq hk B5 HH5 HK5 c0 c1 c2 c3
      go_wp2_with fail
      go_roundw
      case rel =>
        refine ⟨k + 1, hlt, by go_num, Lib.hid ?_, HK6⟩
        rw [take_one hlt HVK.out, List.flatMap_append, List.flatMap_cons, List.flatMap_nil, List.append_nil, HX.out]
        simpa only [List.append_assoc, List.cons_append, List.nil_append] using HH6.out
      case measure => simp [intOf]; omega
    · obtain rfl : k = s.vals.length := by omega
      go_wp2_with fail
      go_end0
      refine ⟨rfl, ?_, HK.out⟩
      have := HH.out
      rw [List.take_of_length_le (Nat.le_refl _)] at this
      unfold sbB
      simpa only [List.append_assoc] using this
def enB (e : En) : List Int := tb e.key.data.toList ++ sbB e.sb
set_option maxHeartbeats 4000000 in
theorem writeE_z (h : WZ w0 w g most zs) (e : En) (p : Value) (hp : Rd w0 A (vlsD e.sb.vals) p) (hv : Vok e.sb.vals) (hl : e.sb.vals.length ≤ 16) (hk : e.key.size ≤ 1000) (hroom : (zs.length : Int) + 6000 ≤ most) (hmost : most ≤ 4294967296) :
    Calls Tryz.prog 147 #[.pointer (some ⟨g, 0, none⟩), env_ e p] w fun x w' => x = .returned (.tuple #[]) ∧ WZ w0 w' g most (zs ++ enB e) ∧ Kt g w w' := by
  obtain ⟨key, s⟩ := e
  dsimp only at *
  obtain ⟨p1, c1, rfl, _⟩ := vls_form hp
  have HP0 := Lib.hid hp
  have HV := Lib.hid hv
  have HH := Lib.hid (h.st (Chg.al w (.cells (enc_ ⟨key, s⟩ (.slice p1 s.vals.length c1)) 87)))
  have HK : Hid (Kt g w (w.alloc (.cells (enc_ ⟨key, s⟩ (.slice p1 s.vals.length c1)) 87))) := Lib.hid (.no (Chg.al w _))
  have B := Blk.new w 87 (enc_ ⟨key, s⟩ (.slice p1 s.vals.length c1))
  have HG : Hid (w.heap.size ≠ g) := Lib.hid (by have := h.lt; omega)
  have hkl : key.data.toList.length = key.size := rfl
  have ht := tb_len (l := key.data.toList) (by omega)
  clear h hp hv
  go_enter Tryz.func147, Tryz.ntmps147
  go_upto_region 1 with fail
  generalize w.alloc (Obj.cells _ 87) = W at *
  have hcv := Lib.run_convert_string_bytes W 9 47 5 key Tryz.underlying9 Tryz.underlying47 Tryz.underlying5
  have e0 := B.cell 0
  go_wp2_with fail
  clear hcv e0
  have hC := bytesWorld_no W 5 key
  have HRB := Lib.hid (rd_bytes W key (by omega))
  have HH1 := Lib.hid (HH.out.st hC)
  have HK1 : Hid (Kt g w (Lib.bytesWorld W 5 key)) := Lib.hid (HK.out.trans (.no hC))
  have B1 := B.st hC
  clear hC HH HK B
  generalize Lib.bytesWorld W 5 key = W1 at *
  refine (wtext_z HH1.out key.data.toList _ HRB.out (by omega) (by omega) hmost).mono ?_
  rintro e w1 ⟨rfl, hq, hk⟩
  have HH2 := Lib.hid hq
  have HK2 := Lib.hid (HK1.out.trans hk)
  have B2 := hk _ _ _ HG.out (by decide) B1
  clear hq hk B1 HH1 HK1 HRB
  obtain ⟨d0, d1, d2, d3, d4, d5, d6, d7, d8, d9⟩ := cells10 B2
  go_wp2_with fail
  refine (writeS_z HH2.out s _ HP0.out HV.out hl (by rw [List.length_append]; omega) hmost).mono ?_
  rintro e w2 ⟨rfl, hq, hk⟩
  have HH3 := Lib.hid hq
  have HK3 := Lib.hid (HK2.out.trans hk)
  clear hq hk
  go_wp2_with fail
  go_end0
  refine ⟨rfl, ?_, HK3.out⟩
  unfold enB
  simpa only [List.append_assoc] using HH3.out
end
end Go.Proofs.YtoefffjhjmjhfaaGreat
