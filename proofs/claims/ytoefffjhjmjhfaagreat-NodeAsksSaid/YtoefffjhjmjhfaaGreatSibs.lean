/- Contracts of package sibs, first part. No statement is proved here. -/
import Derived.Test.YtoefffjhjmjhfaaGreatPkData
import Derived.Test.YtoefffjhjmjhfaaGreatVectorB
import Derived.Test.YtoefffjhjmjhfaaGreatWire
import Derived.Lib.SliceRun
namespace Go.Proofs.YtoefffjhjmjhfaaGreat
open Go.RowKit Go.Proofs.YtoefffjhjmjhfaaGreatW.PrintLast
attribute [local go_sem] max2_mx max_two_ min2_mn min_two_

theorem ret_b {a b : Bool} (h : a = b) : Ending.returned (.bool a) = .returned (.bool b) := by rw [h]
/-- May a value be. -/
def mayVl (v : Vl) : Bool := decide (v.data.length ≤ 200) && (!v.dead || decide (v.data.length = 0))
theorem dec_i {n m : Nat} : decide ((n : Int) ≤ (m : Int)) = decide (n ≤ m) := by simp
theorem mayValue_any {w : World} {A : Nat → Prop} (v : Vl) (d : Value) (hd : Rd w A (bD v.data) d) : Calls Tryz.prog 137 #[vlv v d] w fun e w' => e = .returned (.bool (mayVl v)) ∧ Chg NoB w w' := by
  obtain ⟨p, cap, rfl, h1, h2, _⟩ := bytes_form hd
  clear hd
  obtain ⟨node, n, data, dead⟩ := v
  simp only at *
  unfold maxLen at h2
  obtain ⟨b1, hb1⟩ : ∃ b, decide ((data.length : Int) ≤ 200) = b := ⟨_, rfl⟩
  obtain ⟨b2, hb2⟩ : ∃ b, ((data.length : Int) == 0) = b := ⟨_, rfl⟩
  have HF : Hid (mayVl ⟨node, n, data, dead⟩ = (b1 && (!dead || b2))) := Lib.hid (by
    rw [← hb1, ← hb2]
    unfold mayVl
    congr 1
    · exact (dec_i (m := 200)).symm
    · congr 1
      rw [Bool.eq_iff_iff]
      simp)
  cases b1 <;> cases dead <;> cases b2
  all_goals
    go_enter Tryz.func137, Tryz.ntmps137
    go_wp2_with fail
    go_ret
    exact ⟨ret_b HF.out.symm, (Chg.refl NoB w).alloc _⟩
/-- A copy of bytes, read. -/
structure ClonedB (w : World) (zs : List UInt8) (e : Ending) (w' : World) : Prop where
  ex : ∃ d, e = .returned d ∧ Rd w' (New w) (bD zs) d
  chg : Chg NoB w w'
theorem flat_bytes {w : World} {A : Nat → Prop} : ∀ zs : List Int, Flat w A 1 (zs.map fun z => [.c (.int .u8 z)]) (by8 zs)
  | [] => rfl
  | z :: zs => ⟨[.int .u8 z], by8 zs, rfl, rfl, ⟨.c _ rfl, trivial⟩, flat_bytes zs⟩
theorem own_bytes {w : World} {base : Nat} {v : Value} {zs : List Int} {A : Nat → Prop} (h : w.ownsRow base 5 1 v zs.length (by8 zs)) (hA : ∀ k, base ≤ k → k < w.heap.size → A k) : Rd w A (bI zs) v :=
  Flat.rd (rows := zs.map fun z => [.c (.int .u8 z)]) (e := 5) (base := base) (by rw [List.length_map]; exact h) (flat_bytes zs) (fun r hr => by obtain ⟨z, _, rfl⟩ := List.mem_map.1 hr; rfl) fun k hk => hA k (h.lt k hk).1 (h.lt k hk).2
theorem clone_rd {w : World} {A : Nat → Prop} {zs : List UInt8} {d : Value} (hd : Rd w A (bD zs) d) (hz : zs.length ≤ 140737488355328) : Calls Tryz.prog 133 #[d] w (ClonedB w zs) := by
  obtain ⟨p, cap, rfl, h1, h2, _, h4, h5⟩ := bytes_form hd
  have e := clone_any (nums zs) p cap w (by rw [nums_length]; exact hz) fun h0 => ?_
  · rw [nums_length] at e
    exact e.mono fun e w' ⟨⟨v, he, hv⟩, hC⟩ => ⟨⟨v, he, own_bytes hv fun k hk _ => hk⟩, hC⟩
  · rw [nums_length] at h0
    obtain ⟨b, off, rfl, _, hb⟩ := h4 h0
    refine ⟨b, off, rfl, hb, fun j u hu => ?_⟩
    unfold by8 nums at hu
    rw [List.map_map, List.getElem?_map, Option.map_eq_some_iff] at hu
    obtain ⟨z, hz, rfl⟩ := hu
    obtain ⟨hj, rfl⟩ := List.getElem?_eq_some_iff.1 hz
    exact h5 b off rfl j hj
/-- A value of one's own. -/
structure OwnVl (w : World) (v : Vl) (e : Ending) (w' : World) : Prop where
  ex : ∃ d, e = .returned (vlv v d) ∧ Rd w' (New w) (bD v.data) d
  chg : Chg NoB w w'
abbrev vz : Array Value := #[.int .i64 0, .int .i64 0, .slice none 0 0, .bool false]
set_option maxRecDepth 100000 in
theorem own_any {w : World} {A : Nat → Prop} (v : Vl) (d : Value) (hd : Rd w A (bD v.data) d) (hl : v.data.length ≤ 140737488355328) : Calls Tryz.prog 141 #[vlv v d] w (OwnVl w v) := by
  go_enter Tryz.func141, Tryz.ntmps141
  go_wp2_with fail
  have B1 := (Blk.new w 222 (vlc v d)).alloc (.cells vz 222)
  have B2 := Blk.new_ (k := w.heap.size + 1) (w.alloc (.cells (vlc v d) 222)) 222 vz (by simp)
  have HC := ((Chg.refl NoB w).alloc (.cells (vlc v d) 222)).alloc (.cells vz 222)
  have hz : w.heap.size + 2 ≤ ((w.alloc (.cells (vlc v d) 222)).alloc (.cells vz 222)).heap.size := by simp
  replace hd := hd.st HC
  generalize (w.alloc (Obj.cells _ 222)).alloc (Obj.cells _ 222) = W at *
  refine (clone_rd hd hl).mono ?_
  rintro e w1 ⟨⟨d', rfl, hd'⟩, hC⟩
  obtain ⟨p', cap', rfl, _⟩ := bytes_form hd'
  replace B1 := B1.st hC
  replace B2 := B2.st hC
  replace HC := HC.st hC
  obtain ⟨c0, c1, c2, c3⟩ := cells4 B1
  obtain ⟨f0, f1, f2, f3⟩ := frz4 B1
  obtain ⟨e0, e1, e2, e3⟩ := cells4 B2
  obtain ⟨g0, g1, g2, g3⟩ := frz4 B2
  clear hC
  go_wp2_with fail
  exact back_row rfl rfl (set4 (B2.far (p := ⟨w.heap.size, 2, none⟩) (by show w.heap.size + 1 ≠ w.heap.size; omega) _) _ _ _ _) Tryz.underlying222 rfl infV rfl
    ⟨⟨_, rfl, (rd4 (hd'.sc (b := w.heap.size) (i := 2) (by show ¬ W.heap.size ≤ w.heap.size; omega) _) (by show ¬ W.heap.size ≤ w.heap.size + 1; omega) _ _ _ _).mono fun k hk _ => by have hk' : W.heap.size ≤ k := hk; show w.heap.size ≤ k; omega⟩, chg4 (HC.sc (Nat.le_refl _) _) (by omega) _ _ _ _⟩
theorem infVr : (Tryz.prog.info? 222).map (fun i => (i.zero, i.size, i.bytes)) = some (some (.agg vz), 4, 48) := by kernel_rfl
/-- Sibs of one's own. -/
structure OwnSb (w : World) (s : Sb) (e : Ending) (w' : World) : Prop where
  ex : ∃ p, e = .returned (sbv s p) ∧ Rd w' (New w) (vlsD s.vals) p
  chg : Chg NoB w w'
theorem take_one {α : Type} {l : List α} {k : Nat} (h : k < l.length) {x : α} (hx : l[k] = x) : l.take (k + 1) = l.take k ++ [x] := by
  rw [List.take_succ_eq_append_getElem h, hx]
abbrev sbz : Array Value := sbc ⟨fun _ => 0, []⟩ (.slice none 0 0)
theorem vls_at {w : World} {A : Nat → Prop} {l : List Vl} {b off n cap : Nat} (h : Rd w A (vlsD l) (.slice (some ⟨b, off, none⟩) n cap)) {i : Nat} (hi : i < l.length) : ∃ q c, Rd w A (bD l[i].data) (.slice q l[i].data.length c) ∧ w.cell? ⟨b, off + i * 4, none⟩ = some (.int .i64 l[i].node) ∧ w.cell? ⟨b, off + i * 4 + 1, none⟩ = some (.int .i64 l[i].n) ∧ w.cell? ⟨b, off + i * 4 + 2, none⟩ = some (.slice q l[i].data.length c) ∧ w.cell? ⟨b, off + i * 4 + 3, none⟩ = some (.bool l[i].dead) := by
  obtain ⟨p, cap, he, _, _, _, _, h5⟩ := vls_form h
  simp only [Value.slice.injEq] at he
  obtain ⟨rfl, _, _⟩ := he
  obtain ⟨d, hd, h0, h1, h2, h3⟩ := h5 b off rfl i hi
  obtain ⟨q, c, rfl, _⟩ := bytes_form hd
  exact ⟨q, c, hd, h0, h1, h2, h3⟩
set_option maxRecDepth 100000 in
set_option maxHeartbeats 1000000 in
theorem scopied_any {w : World} {A : Nat → Prop} (s : Sb) (p : Value) (hp : Rd w A (vlsD s.vals) p) (hn : s.vals.length ≤ 1000000) (hl : ∀ v ∈ s.vals, v.data.length ≤ 140737488355328) :
    Calls Tryz.prog 124 #[sbv s p] w (OwnSb w s) := by
  obtain ⟨q, cap, rfl, h1, h2, h3, h4, _⟩ := vls_form hp
  have HL := Lib.hid hl
  clear hl
  go_enter Tryz.func124, Tryz.ntmps124
  go_wp2_with fail
  have B1 := (Blk.new w 52 (sbc s (.slice q s.vals.length cap))).alloc (.cells sbz 52)
  have B2 := Blk.new_ (k := w.heap.size + 1) (w.alloc (.cells (sbc s (.slice q s.vals.length cap)) 52)) 52 sbz (by simp)
  have HC := ((Chg.refl NoB w).alloc (.cells (sbc s (.slice q s.vals.length cap)) 52)).alloc (.cells sbz 52)
  have hz : w.heap.size + 2 ≤ ((w.alloc (.cells (sbc s (.slice q s.vals.length cap)) 52)).alloc (.cells sbz 52)).heap.size := by simp
  generalize (w.alloc (Obj.cells _ 52)).alloc (Obj.cells _ 52) = W at *
  go_loopw [3, 9] (fun l i wr => ∃ k : Nat, k ≤ s.vals.length ∧ i = .int .i64 k ∧ Hid (OB wr (w.heap.size + 2) (Fr (w.heap.size + 2)) 222 4 l ((s.vals.map vlD).take k)) ∧ Chg NoB w wr ∧ w.heap.size + 2 ≤ wr.heap.size ∧ Blk wr w.heap.size 52 (sbc s (.slice q s.vals.length cap)) ∧ Blk wr (w.heap.size + 1) 52 sbz) (fun _ i _ => s.vals.length - (intOf i).toNat)
  case atStart => exact ⟨0, Nat.zero_le _, rfl, Lib.hid (OB.nil _ _ _ _ _), HC, hz, B1, B2⟩
  case round =>
    clear B1 B2 HC hz
    obtain ⟨k, hk, rfl, HO, HC, hz, B1, B2⟩ := hrel
    by_cases hlt : k < s.vals.length
    · obtain ⟨b, off, rfl, hA, hb⟩ := h4 (by omega)
      obtain ⟨q1, cp1, hd, c0, c1, c2, c3⟩ := vls_at (hp.st HC) hlt
      have hl1 := HL.out _ (List.getElem_mem hlt)
      generalize hv : s.vals[k] = v at *
      have HV := Lib.hid hv
      clear hv
      go_wp2_with fail
      have hC := Chg.al wr (.cells (vlc v (.slice q1 v.data.length cp1)) 222)
      replace hd := hd.st hC
      replace HO := Lib.hid (HO.out.st hC)
      replace HC := HC.st hC
      replace B1 := B1.st hC
      replace B2 := B2.st hC
      clear hC
      have hz1 : w.heap.size + 2 ≤ (wr.alloc (.cells (vlc v (.slice q1 v.data.length cp1)) 222)).heap.size := by simp; omega
      clear c0 c1 c2 c3
      generalize wr.alloc (Obj.cells _ 222) = W1 at *
      refine (own_any v _ hd hl1).mono ?_
      rintro e w2 ⟨⟨d2, rfl, hd2⟩, hC⟩
      obtain ⟨q2, cp2, rfl, _⟩ := bytes_form hd2
      have hz2 := Nat.le_trans hz1 hC.size
      have HD := Lib.hid (hd2.mono (B := fun k => Fr (w.heap.size + 2) k ∧ u3.ownBlock ≠ some k) fun k hk _ => ⟨by have : W1.heap.size ≤ k := hk; show w.heap.size + 2 ≤ k; omega, fun ho => by have := (HO.out.lt k ho).2; have : W1.heap.size ≤ k := hk; omega⟩)
      replace HO := Lib.hid (HO.out.st hC)
      replace HC := HC.st hC
      replace B1 := B1.st hC
      replace B2 := B2.st hC
      clear hC
      clear hd hd2
      have hlen : ((s.vals.map vlD).take k).length = k := by simp; omega
      have HLen := Lib.hid hlen
      clear hlen
      go_wp2_with (at_builtin; refine wpList_push rfl _ _ _ rfl (w.heap.size + 2) 222 _ 4 48 Tryz.underlying50 infVr rfl (by decide) _ _ (Fr (w.heap.size + 2)) rfl (HO.out.st (Chg.al w2 _)) _ _ _ _ (vlD v) rfl (Blk.new w2 222 (vlc v (.slice q2 v.data.length cp2))) rfl (vl_rds (HD.out.st (Chg.al w2 _))) rfl (by rw [HLen.out]; omega) (by rw [HLen.out]; unfold maxLen; omega) (by simp; omega) ?_)
      intro g cap3 w3 hO hC hat hlt3
      have hO2 := Lib.hid hO
      replace HC := (HC.trans (Chg.al w2 _)).then_ hC (fun j hj hs => by have := (HO.out.lt j hs).1; omega)
      replace B1 := (B1.st (Chg.al w2 _)).chg hC (fun hs => by have := (HO.out.lt _ hs).1; omega)
      replace B2 := (B2.st (Chg.al w2 _)).chg hC (fun hs => by have := (HO.out.lt _ hs).1; omega)
      have hz3 : w.heap.size + 2 ≤ w3.heap.size := by have := hC.size; simp at this; omega
      clear hC hO hat HO HD
      go_wp2_with fail
      go_roundw
      case rel => exact ⟨k + 1, by omega, by go_num, by rw [take_one (by simpa using hlt) (by rw [List.getElem_map, HV.out])]; exact hO2, HC, hz3, B1, B2⟩
      case measure => simp [intOf]; omega
    · obtain rfl : k = s.vals.length := by omega
      rw [List.take_of_length_le (by simp)] at HO
      have HR := Lib.hid (HO.out.rd fun k hk => hk)
      obtain ⟨c0, c1, c2, c3, c4, c5, c6, c7, c8⟩ := cells9 B1
      obtain ⟨e0, e1, e2, e3, e4, e5, e6, e7, e8⟩ := cells9 B2
      obtain ⟨f0, f1, f2, f3, f4, f5, f6, f7, f8⟩ := frz9 (w := wr) B2
      rcases HO.out.form with ⟨rfl, _⟩ | ⟨g, cp, rfl, _⟩
      all_goals
        clear HO
        try rw [List.length_map] at HR
        go_wp2_with fail
        exact back_row rfl rfl (set9 B2 _ _ _ _ _ _ _ _ _) Tryz.underlying52 rfl infS rfl
          ⟨⟨_, rfl, (rd9 HR.out (by show ¬ w.heap.size + 2 ≤ w.heap.size + 1; omega) _ _ _ _ _ _ _ _ _).mono fun k hk _ => by have : w.heap.size + 2 ≤ k := hk; show w.heap.size ≤ k; omega⟩, chg9 HC (by omega) _ _ _ _ _ _ _ _ _⟩
end Go.Proofs.YtoefffjhjmjhfaaGreat
