/- Contracts of package sibs, sixth part: two siblings' join. No statement is proved here. Contracts of package sibs, seventh part: a write. No statement is proved here. Siblings of one value, joined and put. No statement is proved here. -/
import Derived.Test.YtoefffjhjmjhfaaGreatPkSibs
namespace Go.Proofs.YtoefffjhjmjhfaaGreat
open Go.RowKit Go.Proofs.YtoefffjhjmjhfaaGreatW.PrintLast
attribute [local go_sem] max2_mx max_two_ min2_mn min_two_

theorem maySb_len {s : Sb} (h : maySb s = true) : s.vals.length ≤ 16 := by
  unfold maySb at h
  simp only [Bool.and_eq_true, decide_eq_true_eq] at h
  exact h.2.1
theorem maySb_ok {s : Sb} (h : maySb s = true) {k : Nat} (hk : k < s.vals.length) : mayVl s.vals[k] = true ∧ cov s.seen s.vals[k].node s.vals[k].n = true := by
  unfold maySb at h
  simp only [Bool.and_eq_true, List.all_eq_true] at h
  have := h.2.2 k (List.mem_range.2 hk)
  unfold okV at this
  rw [List.getElem?_eq_getElem hk] at this
  simp only [Bool.and_eq_true] at this
  exact ⟨this.1, this.2.1⟩
theorem maySb_mem {s : Sb} (h : maySb s = true) {v : Vl} (hv : v ∈ s.vals) : mayVl v = true ∧ cov s.seen v.node v.n = true := by
  obtain ⟨k, hk, rfl⟩ := List.getElem_of_mem hv
  exact maySb_ok h hk
theorem mayVl_len {v : Vl} (h : mayVl v = true) : v.data.length ≤ 200 := by
  unfold mayVl at h
  simp only [Bool.and_eq_true, decide_eq_true_eq] at h
  exact h.1
/-- What joining keeps of a value of the one. -/
def joinV (t : Sb) (v : Vl) : Option Vl :=
  match findV t.vals v.node v.n with
  | some u => some (better v u)
  | none => if cov t.seen v.node v.n then none else some v
def joinL (s t : Sb) : List Vl := s.vals.filterMap (joinV t) ++ t.vals.filter fun v => !cov s.seen v.node v.n
theorem fm_some {α β : Type} {l : List α} {g : α → Option β} {k : Nat} (hk : k < l.length) {x : α} {y : β} (hx : l[k] = x) (h : g x = some y) : (l.take (k + 1)).filterMap g = (l.take k).filterMap g ++ [y] := by
  rw [take_one hk hx, List.filterMap_append]
  simp [h]
theorem fm_none {α β : Type} {l : List α} {g : α → Option β} {k : Nat} (hk : k < l.length) {x : α} (hx : l[k] = x) (h : g x = none) : (l.take (k + 1)).filterMap g = (l.take k).filterMap g := by
  rw [take_one hk hx, List.filterMap_append]
  simp [h]
theorem ft_some {α : Type} {l : List α} {g : α → Bool} {k : Nat} (hk : k < l.length) {x : α} (hx : l[k] = x) (h : g x = true) : (l.take (k + 1)).filter g = (l.take k).filter g ++ [x] := by
  rw [take_one hk hx, List.filter_append]
  simp [h]
theorem ft_none {α : Type} {l : List α} {g : α → Bool} {k : Nat} (hk : k < l.length) {x : α} (hx : l[k] = x) (h : g x = false) : (l.take (k + 1)).filter g = (l.take k).filter g := by
  rw [take_one hk hx, List.filter_append]
  simp [h]
theorem fm_len {α β : Type} {l : List α} {g : α → Option β} {k N : Nat} (h : l.length ≤ N) : ((l.take k).filterMap g).length ≤ N := Nat.le_trans (List.length_filterMap_le _ _) (by rw [List.length_take]; omega)
theorem findV_mem {l : List Vl} {n x : Int} {u : Vl} (h : findV l n x = some u) : u ∈ l := List.mem_of_find?_eq_some h
theorem Rd.take {w : World} {A : Nat → Prop} {n : Nat} {rows : List (List D)} {p : Option Addr} {l cap : Nat} (h : Rd w A (.s n rows) (.slice p l cap)) (m : Nat) : Rd w A (.s n (rows.take m)) (.slice p (min m rows.length) cap) := by
  generalize hd : D.s n rows = d at h
  generalize hv : Value.slice p l cap = v at h
  cases h with
  | c => cases hd
  | nil =>
    cases hd
    cases hv
    rw [List.take_nil, List.length_nil, Nat.min_zero]
    exact .nil n
  | e _ a cp hm =>
    cases hd
    cases hv
    rw [List.take_nil, List.length_nil, Nat.min_zero]
    exact .e n a cap hm
  | s _ _ b off cp vs hc hm hA hn hcell hr =>
    cases hd
    cases hv
    have hl : (rows.take m).length = min m rows.length := List.length_take
    rw [← hl]
    exact .s n (rows.take m) b off cap vs (by omega) hm (fun h0 => hA (by omega)) (fun i h => by rw [List.getElem_take]; exact hn i (by omega)) (fun i j hi hj => hcell i j (by omega) hj) (fun i h j h' => by
      have e : (rows.take m)[i] = rows[i]'(by omega) := List.getElem_take
      have h2 : j < (rows[i]'(by omega)).length := by rw [← e]; exact h'
      have := hr i (by omega) j h2
      simpa [e] using this)
/-- What a join comes to. -/
structure JoinR (w : World) (s t : Sb) (e : Ending) (w' : World) : Prop where
  ex : ∃ (r : Sb) (p : Value), e = .returned (sbv r p) ∧ Rd w' (New w) (vlsD r.vals) p ∧ ((maySb s = false ∨ maySb t = false) ∧ r = ⟨fun _ => 0, []⟩ ∨ maySb s = true ∧ maySb t = true ∧ r.seen = jn s.seen t.seen ∧ ∃ l : List Vl, l.Perm (joinL s t) ∧ l.Pairwise (fun a b => lessV b a = false) ∧ r.vals = l.take 16)
  chg : Chg NoB w w'
set_option maxRecDepth 100000 in
set_option maxHeartbeats 4000000 in
theorem joinS_any {w : World} {A B : Nat → Prop} (s t : Sb) (p q : Value) (hp : Rd w A (vlsD s.vals) p) (hq : Rd w B (vlsD t.vals) q) :
    Calls Tryz.prog 149 #[sbv s p, sbv t q] w (JoinR w s t) := by
  replace hp := hp.old
  replace hq := hq.old
  obtain ⟨p1, c1, rfl, h1, h2, _, h4, _⟩ := vls_form hp
  obtain ⟨q1, c2, rfl, k1, k2, _, k4, _⟩ := vls_form hq
  unfold maxLen at h2 k2
  have HP0 := Lib.hid hp
  have HQ0 := Lib.hid hq
  have B1 := ((Blk.new w 52 (sbc s (.slice p1 s.vals.length c1))).alloc (.cells (sbc t (.slice q1 t.vals.length c2)) 52)).alloc (.cells sbz 52)
  have B2 := (Blk.new_ (k := w.heap.size + 1) (w.alloc (.cells (sbc s (.slice p1 s.vals.length c1)) 52)) 52 (sbc t (.slice q1 t.vals.length c2)) (by simp)).alloc (.cells sbz 52)
  have B3 := Blk.new_ (k := w.heap.size + 2) ((w.alloc (.cells (sbc s (.slice p1 s.vals.length c1)) 52)).alloc (.cells (sbc t (.slice q1 t.vals.length c2)) 52)) 52 sbz (by simp)
  have hC := (((Chg.refl NoB w).alloc (.cells (sbc s (.slice p1 s.vals.length c1)) 52)).alloc (.cells (sbc t (.slice q1 t.vals.length c2)) 52)).alloc (.cells sbz 52)
  have hz : w.heap.size + 3 ≤ (((w.alloc (.cells (sbc s (.slice p1 s.vals.length c1)) 52)).alloc (.cells (sbc t (.slice q1 t.vals.length c2)) 52)).alloc (.cells sbz 52)).heap.size := by simp
  replace hp := hp.st hC
  replace hq := hq.st hC
  go_enter Tryz.func149, Tryz.ntmps149
  go_upto_block 0 with fail
  generalize ((w.alloc (Obj.cells _ 52)).alloc (Obj.cells _ 52)).alloc (Obj.cells _ 52) = W at *
  have HB := Lib.hid (fun (x y : Bool) (hx : maySb s = x) (hy : x = true → maySb t = y) (h : (x && y) = false) => (show maySb s = false ∨ maySb t = false by cases x <;> cases y <;> simp_all))
  refine (mayS_any s _ hp).mono ?_
  rintro e w1 ⟨rfl, hC1⟩
  obtain ⟨x, hx⟩ : ∃ x, maySb s = x := ⟨_, rfl⟩
  rw [hx]
  replace hC := hC.st hC1
  replace hp := hp.st hC1
  replace hq := hq.st hC1
  replace B1 := B1.st hC1
  replace B2 := B2.st hC1
  replace B3 := B3.st hC1
  have hz := Nat.le_trans hz hC1.size
  clear hC1
  have HX := Lib.hid hx
  clear hx
  obtain ⟨d0, d1, d2, d3, d4, d5, d6, d7, d8⟩ := cells9 B2
  obtain ⟨e0, e1, e2, e3, e4, e5, e6, e7, e8⟩ := cells9 B3
  obtain ⟨f0, f1, f2, f3, f4, f5, f6, f7, f8⟩ := frz9 B3
  cases x with
  | false =>
    go_wp2_with fail
    exact back_row rfl rfl (set9 B3 _ _ _ _ _ _ _ _ _) Tryz.underlying52 rfl infS rfl
      ⟨⟨⟨fun _ => 0, []⟩, .slice none 0 0, rfl, Rd.nil 4, .inl ⟨.inl HX.out, rfl⟩⟩, chg9 hC (by omega) _ _ _ _ _ _ _ _ _⟩
  | true =>
    go_wp2_with fail
    refine (mayS_any t _ hq).mono ?_
    rintro e w2 ⟨rfl, hC1⟩
    obtain ⟨y, hy⟩ : ∃ y, maySb t = y := ⟨_, rfl⟩
    rw [hy]
    replace hC := hC.st hC1
    replace hp := hp.st hC1
    replace hq := hq.st hC1
    replace B1 := B1.st hC1
    replace B2 := B2.st hC1
    replace B3 := B3.st hC1
    have hz := Nat.le_trans hz hC1.size
    clear hC1 d0 d1 d2 d3 d4 d5 d6 d7 d8 e0 e1 e2 e3 e4 e5 e6 e7 e8 f0 f1 f2 f3 f4 f5 f6 f7 f8
    have HY := Lib.hid hy
    clear hy
    cases y with
    | false =>
      obtain ⟨e0, e1, e2, e3, e4, e5, e6, e7, e8⟩ := cells9 B3
      obtain ⟨f0, f1, f2, f3, f4, f5, f6, f7, f8⟩ := frz9 B3
      go_wp2_with fail
      exact back_row rfl rfl (set9 B3 _ _ _ _ _ _ _ _ _) Tryz.underlying52 rfl infS rfl
        ⟨⟨⟨fun _ => 0, []⟩, .slice none 0 0, rfl, Rd.nil 4, .inl ⟨.inr HY.out, rfl⟩⟩, chg9 hC (by omega) _ _ _ _ _ _ _ _ _⟩
    | true =>
      have hls := Lib.hid (maySb_len HX.out)
      have hlt_ := Lib.hid (maySb_len HY.out)
      obtain ⟨d0, d1, d2, d3, d4, d5, d6, d7, d8⟩ := cells9 B1
      go_wp2_with fail
      clear d0 d1 d2 d3 d4 d5 d6 d7 d8
      go_loopw [5, 24] (fun l i wr => ∃ k : Nat, k ≤ s.vals.length ∧ i = .int .i64 k ∧ Hid (OB wr (w.heap.size + 3) (Fr (w.heap.size + 3)) 222 4 l (((s.vals.take k).filterMap (joinV t)).map vlD)) ∧ Chg NoB w wr ∧ w.heap.size + 3 ≤ wr.heap.size ∧ Blk wr w.heap.size 52 (sbc s (.slice p1 s.vals.length c1)) ∧ Blk wr (w.heap.size + 1) 52 (sbc t (.slice q1 t.vals.length c2)) ∧ Blk wr (w.heap.size + 1 + 1) 52 sbz) (fun _ i _ => s.vals.length - (intOf i).toNat)
      case atStart => exact ⟨0, Nat.zero_le _, rfl, Lib.hid (OB.nil _ _ _ _ _), hC, hz, B1, B2, B3⟩
      case round =>
        clear B1 B2 B3 hC hz hp hq HB
        obtain ⟨k, hk, rfl, HO, HC, hz, B1, B2, B3⟩ := hrel
        by_cases hlt : k < s.vals.length
        · obtain ⟨b, off, rfl, hA, hb⟩ := h4 (by omega)
          obtain ⟨g1, cp1, hd, c0, c1, c2, c3⟩ := vls_at (HP0.out.st HC) hlt
          have hq := HQ0.out.st HC
          have hl1 := Lib.hid (mayVl_len (maySb_ok HX.out hlt).1)
          generalize hv : s.vals[k] = v at *
          have HV := Lib.hid hv
          clear hv
          have hk1 : k + 1 ≤ s.vals.length := hlt
          have l0 : w.heap.size < wr.heap.size := by omega
          have l1 : w.heap.size + 1 < wr.heap.size := by omega
          obtain ⟨d0, d1, d2, d3, d4, d5, d6, d7, d8⟩ := cells9 B2
          go_wp2_with fail
          clear c0 c1 c2 c3 d0 d1 d2 d3 d4 d5 d6 d7 d8
          have hAl := Chg.al wr (.cells (vlc v (.slice g1 v.data.length cp1)) 222)
          have B7 := Blk.new wr 222 (vlc v (.slice g1 v.data.length cp1))
          have hW1 : wr.heap.size < (wr.alloc (.cells (vlc v (.slice g1 v.data.length cp1)) 222)).heap.size := by simp
          replace HC := HC.st hAl
          replace HO := Lib.hid (HO.out.st hAl)
          replace B1 := B1.st hAl
          replace B2 := B2.st hAl
          replace B3 := B3.st hAl
          replace hd := hd.st hAl
          replace hq := hq.st hAl
          generalize wr.alloc (Obj.cells _ 222) = W1 at *
          have HLen : Hid ((((s.vals.take k).filterMap (joinV t)).map vlD).length ≤ 16) := Lib.hid (by rw [List.length_map]; exact fm_len hls.out)
          have hzW : w.heap.size + 3 ≤ W1.heap.size := by omega
          clear hAl
          refine (find_any t _ v.node v.n hq).mono ?_
          rintro e w4 ⟨⟨u, du, hf, rfl, hdu⟩ | ⟨hf, rfl⟩, hC⟩
          · obtain ⟨g2, cp2, rfl, _⟩ := bytes_form hdu
            have hl2 := Lib.hid (mayVl_len (maySb_mem HY.out (findV_mem hf)).1)
            have HJ : Hid (joinV t v = some (better v u)) := Lib.hid (by unfold joinV; rw [hf])
            clear hf
            have hW4 := hC.size
            replace hzW := Nat.le_trans hzW hW4
            replace HC := HC.st hC
            replace HO := Lib.hid (HO.out.st hC)
            replace B1 := B1.st hC
            replace B2 := B2.st hC
            replace B3 := B3.st hC
            replace hd := hd.st hC
            replace B7 := B7.st hC
            clear hC
            obtain ⟨c0, c1, c2, c3⟩ := cells4 B7
            have l7 : wr.heap.size < w4.heap.size := by omega
            go_wp2_with fail
            clear c0 c1 c2 c3
            have hAl := Chg.al w4 (.cells (vlc u (.slice g2 u.data.length cp2)) 222)
            replace HC := HC.st hAl
            replace HO := Lib.hid (HO.out.st hAl)
            replace B1 := B1.st hAl
            replace B2 := B2.st hAl
            replace B3 := B3.st hAl
            replace hd := hd.st hAl
            replace hdu := hdu.st hAl
            have hzX : w.heap.size + 3 ≤ (w4.alloc (.cells (vlc u (.slice g2 u.data.length cp2)) 222)).heap.size := Nat.le_trans hzW hAl.size
            generalize w4.alloc (Obj.cells _ 222) = W5 at *
            clear hAl hzW
            refine (better_any v u _ _ hd hdu).mono ?_
            rintro e w6 ⟨rfl, hC⟩
            have hzW := Nat.le_trans hzX hC.size
            replace HC := HC.st hC
            replace HO := Lib.hid (HO.out.st hC)
            replace B1 := B1.st hC
            replace B2 := B2.st hC
            replace B3 := B3.st hC
            replace hd := hd.st hC
            replace hdu := hdu.st hC
            clear hC
            unfold better at HJ
            obtain ⟨r, hr⟩ : ∃ r, betB v u = r := ⟨_, rfl⟩
            rw [hr] at HJ ⊢
            clear hr
            cases r with
            | true =>
              simp only [cond_true]
              rw [if_pos rfl] at HJ
              go_wp2_with fail
              refine (own_any u _ hdu (by have := hl2.out; omega)).mono ?_
              rintro e w8 ⟨⟨d8, rfl, hd8⟩, hC8⟩
              obtain ⟨q8, cp8, rfl, _⟩ := bytes_form hd8
              have hz8 := Nat.le_trans hzW hC8.size
              have HD := Lib.hid (hd8.mono (B := fun k => Fr (w.heap.size + 3) k ∧ u5.ownBlock ≠ some k) fun k hk _ => ⟨by have : w6.heap.size ≤ k := hk; show w.heap.size + 3 ≤ k; omega, fun ho => by have := (HO.out.lt k ho).2; have : w6.heap.size ≤ k := hk; omega⟩)
              replace HO := Lib.hid (HO.out.st hC8)
              replace HC := HC.st hC8
              replace B1 := B1.st hC8
              replace B2 := B2.st hC8
              replace B3 := B3.st hC8
              clear hd8 hC8
              go_wp2_with (at_builtin; refine wpList_push rfl _ _ _ rfl (w.heap.size + 3) 222 _ 4 48 Tryz.underlying50 infVr rfl (by decide) _ _ (Fr (w.heap.size + 3)) rfl (HO.out.st (Chg.al w8 _)) _ _ _ _ (vlD u) rfl (Blk.new w8 222 (vlc u (.slice q8 u.data.length cp8))) rfl (vl_rds (HD.out.st (Chg.al w8 _))) rfl (by have := HLen.out; omega) (by have := HLen.out; unfold maxLen; omega) (by simp; omega) ?_)
              intro g9 cap9 w9 hO hC9 hat hlt9
              have hO2 := Lib.hid hO
              replace HC := (HC.trans (Chg.al w8 _)).then_ hC9 (fun j hj hs => by have := (HO.out.lt j hs).1; omega)
              replace B1 := (B1.st (Chg.al w8 _)).chg hC9 (fun hs => by have := (HO.out.lt _ hs).1; omega)
              replace B2 := (B2.st (Chg.al w8 _)).chg hC9 (fun hs => by have := (HO.out.lt _ hs).1; omega)
              replace B3 := (B3.st (Chg.al w8 _)).chg hC9 (fun hs => by have := (HO.out.lt _ hs).1; omega)
              have hz9 : w.heap.size + 3 ≤ w9.heap.size := by have := hC9.size; simp at this; omega
              clear hC9 hO hat HO HD
              go_wp2_with fail
              go_roundw
              case rel => exact ⟨k + 1, hk1, by go_num, Lib.hid (by rw [fm_some hlt HV.out HJ.out]; simpa only [List.map_append, List.append_assoc, List.map_cons, List.map_nil] using hO2.out), HC, hz9, B1, B2, B3⟩
              case measure => simp [intOf]; omega
            | false =>
              simp only [cond_false]
              rw [if_neg Bool.false_ne_true] at HJ
              go_wp2_with fail
              refine (own_any v _ hd (by have := hl1.out; omega)).mono ?_
              rintro e w8 ⟨⟨d8, rfl, hd8⟩, hC8⟩
              obtain ⟨q8, cp8, rfl, _⟩ := bytes_form hd8
              have hz8 := Nat.le_trans hzW hC8.size
              have HD := Lib.hid (hd8.mono (B := fun k => Fr (w.heap.size + 3) k ∧ u5.ownBlock ≠ some k) fun k hk _ => ⟨by have : w6.heap.size ≤ k := hk; show w.heap.size + 3 ≤ k; omega, fun ho => by have := (HO.out.lt k ho).2; have : w6.heap.size ≤ k := hk; omega⟩)
              replace HO := Lib.hid (HO.out.st hC8)
              replace HC := HC.st hC8
              replace B1 := B1.st hC8
              replace B2 := B2.st hC8
              replace B3 := B3.st hC8
              clear hd8 hC8
              go_wp2_with (at_builtin; refine wpList_push rfl _ _ _ rfl (w.heap.size + 3) 222 _ 4 48 Tryz.underlying50 infVr rfl (by decide) _ _ (Fr (w.heap.size + 3)) rfl (HO.out.st (Chg.al w8 _)) _ _ _ _ (vlD v) rfl (Blk.new w8 222 (vlc v (.slice q8 v.data.length cp8))) rfl (vl_rds (HD.out.st (Chg.al w8 _))) rfl (by have := HLen.out; omega) (by have := HLen.out; unfold maxLen; omega) (by simp; omega) ?_)
              intro g9 cap9 w9 hO hC9 hat hlt9
              have hO2 := Lib.hid hO
              replace HC := (HC.trans (Chg.al w8 _)).then_ hC9 (fun j hj hs => by have := (HO.out.lt j hs).1; omega)
              replace B1 := (B1.st (Chg.al w8 _)).chg hC9 (fun hs => by have := (HO.out.lt _ hs).1; omega)
              replace B2 := (B2.st (Chg.al w8 _)).chg hC9 (fun hs => by have := (HO.out.lt _ hs).1; omega)
              replace B3 := (B3.st (Chg.al w8 _)).chg hC9 (fun hs => by have := (HO.out.lt _ hs).1; omega)
              have hz9 : w.heap.size + 3 ≤ w9.heap.size := by have := hC9.size; simp at this; omega
              clear hC9 hO hat HO HD
              go_wp2_with fail
              go_roundw
              case rel => exact ⟨k + 1, hk1, by go_num, Lib.hid (by rw [fm_some hlt HV.out HJ.out]; simpa only [List.map_append, List.append_assoc, List.map_cons, List.map_nil] using hO2.out), HC, hz9, B1, B2, B3⟩
              case measure => simp [intOf]; omega
          · have HJ : Hid (joinV t v = if cov t.seen v.node v.n then none else some v) := Lib.hid (by unfold joinV; rw [hf])
            clear hf
            have hW4 := hC.size
            replace hzW := Nat.le_trans hzW hW4
            replace HC := HC.st hC
            replace HO := Lib.hid (HO.out.st hC)
            replace B1 := B1.st hC
            replace B2 := B2.st hC
            replace B3 := B3.st hC
            replace hd := hd.st hC
            replace B7 := B7.st hC
            clear hC
            obtain ⟨c0, c1, c2, c3⟩ := cells4 B7
            obtain ⟨d0, d1, d2, d3, d4, d5, d6, d7, d8⟩ := cells9 B2
            have l7 : wr.heap.size < w4.heap.size := by omega
            have l1 : w.heap.size + 1 < w4.heap.size := by omega
            go_wp2_with fail
            clear c0 c1 c2 c3 d0 d1 d2 d3 d4 d5 d6 d7 d8
            have hAl := Chg.al w4 (.cells vz 222)
            replace HC := HC.st hAl
            replace HO := Lib.hid (HO.out.st hAl)
            replace B1 := B1.st hAl
            replace B2 := B2.st hAl
            replace B3 := B3.st hAl
            replace hd := hd.st hAl
            replace B7 := B7.st hAl
            have hzX : w.heap.size + 3 ≤ (w4.alloc (.cells vz 222)).heap.size := Nat.le_trans hzW hAl.size
            have lX : wr.heap.size < (w4.alloc (.cells vz 222)).heap.size := Nat.lt_of_lt_of_le l7 hAl.size
            generalize w4.alloc (Obj.cells _ 222) = W5 at *
            clear hAl hzW
            obtain ⟨r, hr⟩ : ∃ r, cov t.seen v.node v.n = r := ⟨_, rfl⟩
            rw [hr] at HJ
            refine (hr ▸ covers_any t.seen v.node v.n W5).mono ?_
            clear hr
            rintro e w6 ⟨rfl, hC⟩
            have hzW := Nat.le_trans hzX hC.size
            have lW := Nat.lt_of_lt_of_le lX hC.size
            replace HC := HC.st hC
            replace HO := Lib.hid (HO.out.st hC)
            replace B1 := B1.st hC
            replace B2 := B2.st hC
            replace B3 := B3.st hC
            replace hd := hd.st hC
            replace B7 := B7.st hC
            clear hC
            cases r with
            | true =>
              rw [if_pos rfl] at HJ
              go_wp2_with fail
              go_roundw
              case rel => exact ⟨k + 1, hk1, by go_num, Lib.hid (by rw [fm_none hlt HV.out HJ.out]; exact HO.out), HC, hzW, B1, B2, B3⟩
              case measure => simp [intOf]; omega
            | false =>
              rw [if_neg Bool.false_ne_true] at HJ
              obtain ⟨c0, c1, c2, c3⟩ := cells4 B7
              go_wp2_with fail
              clear c0 c1 c2 c3
              refine (own_any v _ hd (by have := hl1.out; omega)).mono ?_
              rintro e w8 ⟨⟨d8, rfl, hd8⟩, hC8⟩
              obtain ⟨q8, cp8, rfl, _⟩ := bytes_form hd8
              have hz8 := Nat.le_trans hzW hC8.size
              have HD := Lib.hid (hd8.mono (B := fun k => Fr (w.heap.size + 3) k ∧ u5.ownBlock ≠ some k) fun k hk _ => ⟨by have : w6.heap.size ≤ k := hk; show w.heap.size + 3 ≤ k; omega, fun ho => by have := (HO.out.lt k ho).2; have : w6.heap.size ≤ k := hk; omega⟩)
              replace HO := Lib.hid (HO.out.st hC8)
              replace HC := HC.st hC8
              replace B1 := B1.st hC8
              replace B2 := B2.st hC8
              replace B3 := B3.st hC8
              clear hd8 hC8
              go_wp2_with (at_builtin; refine wpList_push rfl _ _ _ rfl (w.heap.size + 3) 222 _ 4 48 Tryz.underlying50 infVr rfl (by decide) _ _ (Fr (w.heap.size + 3)) rfl (HO.out.st (Chg.al w8 _)) _ _ _ _ (vlD v) rfl (Blk.new w8 222 (vlc v (.slice q8 v.data.length cp8))) rfl (vl_rds (HD.out.st (Chg.al w8 _))) rfl (by have := HLen.out; omega) (by have := HLen.out; unfold maxLen; omega) (by simp; omega) ?_)
              intro g9 cap9 w9 hO hC9 hat hlt9
              have hO2 := Lib.hid hO
              replace HC := (HC.trans (Chg.al w8 _)).then_ hC9 (fun j hj hs => by have := (HO.out.lt j hs).1; omega)
              replace B1 := (B1.st (Chg.al w8 _)).chg hC9 (fun hs => by have := (HO.out.lt _ hs).1; omega)
              replace B2 := (B2.st (Chg.al w8 _)).chg hC9 (fun hs => by have := (HO.out.lt _ hs).1; omega)
              replace B3 := (B3.st (Chg.al w8 _)).chg hC9 (fun hs => by have := (HO.out.lt _ hs).1; omega)
              have hz9 : w.heap.size + 3 ≤ w9.heap.size := by have := hC9.size; simp at this; omega
              clear hC9 hO hat HO HD
              go_wp2_with fail
              go_roundw
              case rel => exact ⟨k + 1, hk1, by go_num, Lib.hid (by rw [fm_some hlt HV.out HJ.out]; simpa only [List.map_append, List.append_assoc, List.map_cons, List.map_nil] using hO2.out), HC, hz9, B1, B2, B3⟩
              case measure => simp [intOf]; omega
        · obtain rfl : k = s.vals.length := by omega
          rw [List.take_of_length_le (Nat.le_refl _)] at HO
          have l1 : w.heap.size + 1 < wr.heap.size := by omega
          obtain ⟨d0, d1, d2, d3, d4, d5, d6, d7, d8⟩ := cells9 B2
          clear h4 hlt hk
          go_wp2_with fail
          clear d0 d1 d2 d3 d4 d5 d6 d7 d8
          go_loopw [5, 58] (fun l i wr => ∃ k : Nat, k ≤ t.vals.length ∧ i = .int .i64 k ∧ Hid (OB wr (w.heap.size + 3) (Fr (w.heap.size + 3)) 222 4 l ((s.vals.filterMap (joinV t) ++ (t.vals.take k).filter fun v => !cov s.seen v.node v.n).map vlD)) ∧ Chg NoB w wr ∧ w.heap.size + 3 ≤ wr.heap.size ∧ Blk wr w.heap.size 52 (sbc s (.slice p1 s.vals.length c1)) ∧ Blk wr (w.heap.size + 1) 52 (sbc t (.slice q1 t.vals.length c2)) ∧ Blk wr (w.heap.size + 1 + 1) 52 sbz) (fun _ i _ => t.vals.length - (intOf i).toNat)
          case atStart => exact ⟨0, Nat.zero_le _, rfl, Lib.hid (by rw [List.take_zero, List.filter_nil, List.append_nil]; exact HO.out), HC, hz, B1, B2, B3⟩
          case round =>
            clear B1 B2 B3 HC hz HO l1
            obtain ⟨k, hk, rfl, HO, HC, hz, B1, B2, B3⟩ := hrel
            by_cases hlt : k < t.vals.length
            · obtain ⟨b, off, rfl, hA, hb⟩ := k4 (by omega)
              obtain ⟨g1, cp1, hd, c0, c1, c2, c3⟩ := vls_at (HQ0.out.st HC) hlt
              have hl1 := Lib.hid (mayVl_len (maySb_ok HY.out hlt).1)
              generalize hv : t.vals[k] = v at *
              have HV := Lib.hid hv
              clear hv
              have hk1 : k + 1 ≤ t.vals.length := hlt
              have l0 : w.heap.size < wr.heap.size := by omega
              obtain ⟨d0, d1, d2, d3, d4, d5, d6, d7, d8⟩ := cells9 B1
              go_wp2_with fail
              clear c0 c1 c2 c3 d0 d1 d2 d3 d4 d5 d6 d7 d8
              have hAl := Chg.al wr (.cells (vlc v (.slice g1 v.data.length cp1)) 222)
              have B7 := Blk.new wr 222 (vlc v (.slice g1 v.data.length cp1))
              have hW1 : wr.heap.size < (wr.alloc (.cells (vlc v (.slice g1 v.data.length cp1)) 222)).heap.size := by simp
              replace HC := HC.st hAl
              replace HO := Lib.hid (HO.out.st hAl)
              replace B1 := B1.st hAl
              replace B2 := B2.st hAl
              replace B3 := B3.st hAl
              replace hd := hd.st hAl
              generalize wr.alloc (Obj.cells _ 222) = W1 at *
              have HLen : Hid (((s.vals.filterMap (joinV t) ++ (t.vals.take k).filter fun v => !cov s.seen v.node v.n).map vlD).length ≤ 32) := Lib.hid (by
                have h1 := hls.out
                have h2 := hlt_.out
                have h3 : (s.vals.filterMap (joinV t)).length ≤ s.vals.length := List.length_filterMap_le _ _
                have h4 : ((t.vals.take k).filter fun v => !cov s.seen v.node v.n).length ≤ (t.vals.take k).length := List.length_filter_le _ _
                rw [List.length_take] at h4
                rw [List.length_map, List.length_append]
                omega)
              clear hAl
              obtain ⟨r, hr⟩ : ∃ r, cov s.seen v.node v.n = r := ⟨_, rfl⟩
              have HJ : Hid ((!cov s.seen v.node v.n) = !r) := Lib.hid (by rw [hr])
              refine (hr ▸ covers_any s.seen v.node v.n W1).mono ?_
              clear hr
              rintro e w6 ⟨rfl, hC⟩
              have hzW : w.heap.size + 3 ≤ w6.heap.size := by have := hC.size; omega
              have lW : wr.heap.size < w6.heap.size := Nat.lt_of_lt_of_le hW1 hC.size
              replace HC := HC.st hC
              replace HO := Lib.hid (HO.out.st hC)
              replace B1 := B1.st hC
              replace B2 := B2.st hC
              replace B3 := B3.st hC
              replace hd := hd.st hC
              replace B7 := B7.st hC
              clear hC
              cases r with
              | true =>
                go_wp2_with fail
                go_roundw
                case rel => exact ⟨k + 1, hk1, by go_num, Lib.hid (by rw [ft_none (g := fun v => !cov s.seen v.node v.n) hlt HV.out HJ.out]; exact HO.out), HC, hzW, B1, B2, B3⟩
                case measure => simp [intOf]; omega
              | false =>
                obtain ⟨c0, c1, c2, c3⟩ := cells4 B7
                go_wp2_with fail
                clear c0 c1 c2 c3
                refine (own_any v _ hd (by have := hl1.out; omega)).mono ?_
                rintro e w8 ⟨⟨d8, rfl, hd8⟩, hC8⟩
                obtain ⟨q8, cp8, rfl, _⟩ := bytes_form hd8
                have hz8 := Nat.le_trans hzW hC8.size
                have HD := Lib.hid (hd8.mono (B := fun k => Fr (w.heap.size + 3) k ∧ u5.ownBlock ≠ some k) fun k hk _ => ⟨by have : w6.heap.size ≤ k := hk; show w.heap.size + 3 ≤ k; omega, fun ho => by have := (HO.out.lt k ho).2; have : w6.heap.size ≤ k := hk; omega⟩)
                replace HO := Lib.hid (HO.out.st hC8)
                replace HC := HC.st hC8
                replace B1 := B1.st hC8
                replace B2 := B2.st hC8
                replace B3 := B3.st hC8
                clear hd8 hC8
                go_wp2_with (at_builtin; refine wpList_push rfl _ _ _ rfl (w.heap.size + 3) 222 _ 4 48 Tryz.underlying50 infVr rfl (by decide) _ _ (Fr (w.heap.size + 3)) rfl (HO.out.st (Chg.al w8 _)) _ _ _ _ (vlD v) rfl (Blk.new w8 222 (vlc v (.slice q8 v.data.length cp8))) rfl (vl_rds (HD.out.st (Chg.al w8 _))) rfl (by have := HLen.out; omega) (by have := HLen.out; unfold maxLen; omega) (by simp; omega) ?_)
                intro g9 cap9 w9 hO hC9 hat hlt9
                have hO2 := Lib.hid hO
                replace HC := (HC.trans (Chg.al w8 _)).then_ hC9 (fun j hj hs => by have := (HO.out.lt j hs).1; omega)
                replace B1 := (B1.st (Chg.al w8 _)).chg hC9 (fun hs => by have := (HO.out.lt _ hs).1; omega)
                replace B2 := (B2.st (Chg.al w8 _)).chg hC9 (fun hs => by have := (HO.out.lt _ hs).1; omega)
                replace B3 := (B3.st (Chg.al w8 _)).chg hC9 (fun hs => by have := (HO.out.lt _ hs).1; omega)
                have hz9 : w.heap.size + 3 ≤ w9.heap.size := by have := hC9.size; simp at this; omega
                clear hC9 hO hat HO HD
                go_wp2_with fail
                go_roundw
                case rel => exact ⟨k + 1, hk1, by go_num, Lib.hid (by rw [ft_some (g := fun v => !cov s.seen v.node v.n) hlt HV.out HJ.out, ← List.append_assoc]; simpa only [List.map_append, List.append_assoc, List.map_cons, List.map_nil] using hO2.out), HC, hz9, B1, B2, B3⟩
                case measure => simp [intOf]; omega
            · obtain rfl : k = t.vals.length := by omega
              rw [List.take_of_length_le (Nat.le_refl _)] at HO
              clear k4 hlt hk
              go_wp2_with fail
              refine (sorted_any HO.out (by
                have h1 := hls.out
                have h2 := hlt_.out
                have h3 : (s.vals.filterMap (joinV t)).length ≤ s.vals.length := List.length_filterMap_le _ _
                have h4 : (t.vals.filter fun v => !cov s.seen v.node v.n).length ≤ t.vals.length := List.length_filter_le _ _
                rw [List.length_append]
                omega)).mono ?_
              rintro e w7 ⟨rfl, ⟨l', hpm, hpw, hO⟩, hC⟩
              have hu5 : ∀ k, k < w.heap.size + 3 → ¬ u5.ownBlock = some k := fun k hk h => by have := (HO.out.lt k h).1; omega
              replace HC := HC.then_ hC (fun j hj hs => hu5 j (by omega) hs)
              replace B1 := Lib.hid (B1.chg hC (hu5 _ (by omega)))
              replace B2 := Lib.hid (B2.chg hC (hu5 _ (by omega)))
              replace B3 := Lib.hid (B3.chg hC (hu5 _ (by omega)))
              have hz7 := Nat.le_trans hz hC.size
              have HR := hO.rd fun k hk => hk
              obtain ⟨p5, c5, rfl, n1, n2, n3, _⟩ := vls_form HR
              replace HR := Lib.hid HR
              have HPM := Lib.hid hpm
              have HPW := Lib.hid hpw
              clear hC hO hpm hpw hu5 HO hz
              obtain ⟨m, hm⟩ : ∃ m : Nat, mn (l'.length : Int) 16 = (m : Int) := ⟨min 16 l'.length, by unfold mn; split <;> omega⟩
              have hm2 : m = min 16 l'.length := by unfold mn at hm; split at hm <;> omega
              have HM := Lib.hid hm2
              have hmc : (m : Int) ≤ (c5 : Int) := by omega
              have hm0 : (0 : Int) ≤ (m : Int) := by omega
              clear hm2
              go_upto_region 20 with fail
              refine start_ (n := 12) (S := fun w' => w'.cell? ⟨w.heap.size, 0, none⟩ = some (.int .i64 (s.seen 0)) ∧ w'.cell? ⟨w.heap.size, 1, none⟩ = some (.int .i64 (s.seen 1)) ∧ w'.cell? ⟨w.heap.size, 2, none⟩ = some (.int .i64 (s.seen 2)) ∧ w'.cell? ⟨w.heap.size, 3, none⟩ = some (.int .i64 (s.seen 3)) ∧ w'.cell? ⟨w.heap.size, 4, none⟩ = some (.int .i64 (s.seen 4)) ∧ w'.cell? ⟨w.heap.size, 5, none⟩ = some (.int .i64 (s.seen 5)) ∧ w'.cell? ⟨w.heap.size, 6, none⟩ = some (.int .i64 (s.seen 6)) ∧ w'.cell? ⟨w.heap.size, 7, none⟩ = some (.int .i64 (s.seen 7)) ∧ w'.cell? ⟨w.heap.size + 1, 0, none⟩ = some (.int .i64 (t.seen 0)) ∧ w'.cell? ⟨w.heap.size + 1, 1, none⟩ = some (.int .i64 (t.seen 1)) ∧ w'.cell? ⟨w.heap.size + 1, 2, none⟩ = some (.int .i64 (t.seen 2)) ∧ w'.cell? ⟨w.heap.size + 1, 3, none⟩ = some (.int .i64 (t.seen 3)) ∧ w'.cell? ⟨w.heap.size + 1, 4, none⟩ = some (.int .i64 (t.seen 4)) ∧ w'.cell? ⟨w.heap.size + 1, 5, none⟩ = some (.int .i64 (t.seen 5)) ∧ w'.cell? ⟨w.heap.size + 1, 6, none⟩ = some (.int .i64 (t.seen 6)) ∧ w'.cell? ⟨w.heap.size + 1, 7, none⟩ = some (.int .i64 (t.seen 7)) ∧ w'.cell? ⟨w.heap.size + 1 + 1, 0, none⟩ = some (.int .i64 0) ∧ w'.cell? ⟨w.heap.size + 1 + 1, 1, none⟩ = some (.int .i64 0) ∧ w'.cell? ⟨w.heap.size + 1 + 1, 2, none⟩ = some (.int .i64 0) ∧ w'.cell? ⟨w.heap.size + 1 + 1, 3, none⟩ = some (.int .i64 0) ∧ w'.cell? ⟨w.heap.size + 1 + 1, 4, none⟩ = some (.int .i64 0) ∧ w'.cell? ⟨w.heap.size + 1 + 1, 5, none⟩ = some (.int .i64 0) ∧ w'.cell? ⟨w.heap.size + 1 + 1, 6, none⟩ = some (.int .i64 0) ∧ w'.cell? ⟨w.heap.size + 1 + 1, 7, none⟩ = some (.int .i64 0) ∧ w'.cell? ⟨w.heap.size + 1 + 1, 8, none⟩ = some (.slice none 0 0) ∧ w'.frozen? ⟨w.heap.size + 1 + 1, 0, none⟩ = false ∧ w'.frozen? ⟨w.heap.size + 1 + 1, 1, none⟩ = false ∧ w'.frozen? ⟨w.heap.size + 1 + 1, 2, none⟩ = false ∧ w'.frozen? ⟨w.heap.size + 1 + 1, 3, none⟩ = false ∧ w'.frozen? ⟨w.heap.size + 1 + 1, 4, none⟩ = false ∧ w'.frozen? ⟨w.heap.size + 1 + 1, 5, none⟩ = false ∧ w'.frozen? ⟨w.heap.size + 1 + 1, 6, none⟩ = false ∧ w'.frozen? ⟨w.heap.size + 1 + 1, 7, none⟩ = false ∧ w'.frozen? ⟨w.heap.size + 1 + 1, 8, none⟩ = false) (ds := [11]) #[false, false, false, false, false, false, false, false, false, false, false, false] (by kernel_rfl) rfl rfl ⟨(B1.out.drew.cell 0), (B1.out.drew.cell 1), (B1.out.drew.cell 2), (B1.out.drew.cell 3), (B1.out.drew.cell 4), (B1.out.drew.cell 5), (B1.out.drew.cell 6), (B1.out.drew.cell 7), (B2.out.drew.cell 0), (B2.out.drew.cell 1), (B2.out.drew.cell 2), (B2.out.drew.cell 3), (B2.out.drew.cell 4), (B2.out.drew.cell 5), (B2.out.drew.cell 6), (B2.out.drew.cell 7), (B3.out.drew.cell 0), (B3.out.drew.cell 1), (B3.out.drew.cell 2), (B3.out.drew.cell 3), (B3.out.drew.cell 4), (B3.out.drew.cell 5), (B3.out.drew.cell 6), (B3.out.drew.cell 7), (B3.out.drew.cell 8), (B3.out.drew.frozen 0), (B3.out.drew.frozen 1), (B3.out.drew.frozen 2), (B3.out.drew.frozen 3), (B3.out.drew.frozen 4), (B3.out.drew.frozen 5), (B3.out.drew.frozen 6), (B3.out.drew.frozen 7), (B3.out.drew.frozen 8)⟩ (fun hHeld => ?_)
              refine pure_ (i := 0) (N := some 76) (v := ?_) (a' := ?_) #[true, false, false, false, false, false, false, false, false, false, false, false] rfl rfl (by kernel_rfl) (fun _ _ _ h => h) (Or.inl ⟨by rfl, ?_⟩) ?_ ?_
              rotate_left
              · intro w'
                go_simp
                with_reducible rfl
              rotate_left
              · simp only [Act.put, List.setIfInBounds_toArray, List.set_cons_zero, List.set_cons_succ]
                rfl
              refine pure_ (i := 2) (N := some 78) (v := ?_) (a' := ?_) #[true, false, true, false, false, false, false, false, false, false, false, false] rfl rfl (by kernel_rfl) (fun _ _ _ h => h) (Or.inl ⟨by rfl, ?_⟩) ?_ ?_
              rotate_left
              · intro w'
                go_simp
                with_reducible rfl
              rotate_left
              · simp only [Act.put, List.setIfInBounds_toArray, List.set_cons_zero, List.set_cons_succ]
                rfl
              refine pure_ (i := 5) (N := some 81) (v := ?_) (a' := ?_) #[true, false, true, false, false, true, false, false, false, false, false, false] rfl rfl (by kernel_rfl) (fun _ _ _ h => h) (Or.inl ⟨by rfl, ?_⟩) ?_ ?_
              rotate_left
              · intro w'
                go_simp
                with_reducible rfl
              rotate_left
              · simp only [Act.put, List.setIfInBounds_toArray, List.set_cons_zero, List.set_cons_succ]
                rfl
              refine pure_ (i := 6) (N := some 82) (v := ?_) (a' := ?_) #[true, false, true, false, false, true, true, false, false, false, false, false] rfl rfl (by kernel_rfl) (fun _ _ _ h => h) (Or.inl ⟨by rfl, ?_⟩) ?_ ?_
              rotate_left
              · intro w'
                go_simp
                with_reducible rfl
              rotate_left
              · simp only [Act.put, List.setIfInBounds_toArray, List.set_cons_zero, List.set_cons_succ]
                rfl
              refine pure_ (i := 7) (N := some 83) (v := ?_) (a' := ?_) #[true, false, true, false, false, true, true, true, false, false, false, false] rfl rfl (by kernel_rfl) (fun _ _ _ h => h) (Or.inl ⟨by rfl, ?_⟩) ?_ ?_
              rotate_left
              · intro w'
                go_simp
                with_reducible rfl
              rotate_left
              · simp only [Act.put, List.setIfInBounds_toArray, List.set_cons_zero, List.set_cons_succ]
                rfl
              refine pure_ (i := 8) (N := some 84) (v := ?_) (a' := ?_) #[true, false, true, false, false, true, true, true, true, false, false, false] rfl rfl (by kernel_rfl) (fun _ _ _ h => h) (Or.inl ⟨by rfl, ?_⟩) ?_ ?_
              rotate_left
              · intro w'
                go_simp
                with_reducible rfl
              rotate_left
              · simp only [Act.put, List.setIfInBounds_toArray, List.set_cons_zero, List.set_cons_succ]
                rfl
              refine pure_ (i := 9) (N := some 85) (v := ?_) (a' := ?_) #[true, false, true, false, false, true, true, true, true, true, false, false] rfl rfl (by kernel_rfl) (fun _ _ _ h => h) (Or.inl ⟨by rfl, ?_⟩) ?_ ?_
              rotate_left
              · intro w'
                go_simp
                with_reducible rfl
              rotate_left
              · simp only [Act.put, List.setIfInBounds_toArray, List.set_cons_zero, List.set_cons_succ]
                rfl
              refine take_ (i := 1) (N := some 77) (v := ?_) (a' := ?_) #[true, true, true, false, false, true, true, true, true, true, false, false] rfl rfl (by kernel_rfl) (fun _ _ _ h => h) (Or.inl ⟨by rfl, ?_⟩) hHeld ?_ ?_
              rotate_left
              · rintro w' ⟨s0, s1, s2, s3, s4, s5, s6, s7, s8, s9, s10, s11, s12, s13, s14, s15, s16, s17, s18, s19, s20, s21, s22, s23, s24, s25, s26, s27, s28, s29, s30, s31, s32, s33⟩
                go_simp
                with_reducible rfl
              rotate_left
              · simp only [Act.put, List.setIfInBounds_toArray, List.set_cons_zero, List.set_cons_succ]
                rfl
              refine take_ (i := 3) (N := some 79) (v := ?_) (a' := ?_) #[true, true, true, true, false, true, true, true, true, true, false, false] rfl rfl (by kernel_rfl) (fun _ _ _ h => h) (Or.inl ⟨by rfl, ?_⟩) hHeld ?_ ?_
              rotate_left
              · rintro w' ⟨s0, s1, s2, s3, s4, s5, s6, s7, s8, s9, s10, s11, s12, s13, s14, s15, s16, s17, s18, s19, s20, s21, s22, s23, s24, s25, s26, s27, s28, s29, s30, s31, s32, s33⟩
                go_simp
                with_reducible rfl
              rotate_left
              · simp only [Act.put, List.setIfInBounds_toArray, List.set_cons_zero, List.set_cons_succ]
                rfl
              refine one_ (i := 4) (N := some 80) #[true, true, true, true, true, true, true, true, true, true, false, false] rfl rfl (by kernel_rfl) (by decide) (fun K hK => ?_)
              refine goes_ Tryz.func138 (by kernel_rfl) rfl #[vec s.seen, vec t.seen] (by rfl) rfl rfl (by simp only [List.map_toArray, List.map_cons, List.map_nil]; rfl) ?_
              with_reducible refine ((join_any s.seen t.seen _)).mono ?_
              rintro e w8 ⟨rfl, hC8⟩
              refine ⟨_, rfl, ?_⟩
              have HC8 := Lib.hid (((Chg.refl NoB w7).drew).trans hC8)
              clear hC8
              have B1x := Lib.hid (B1.out.st HC8.out)
              have B2x := Lib.hid (B2.out.st HC8.out)
              have B3x := Lib.hid (B3.out.st HC8.out)
              refine hK.out _ _ ⟨(B1x.out.cell 0), (B1x.out.cell 1), (B1x.out.cell 2), (B1x.out.cell 3), (B1x.out.cell 4), (B1x.out.cell 5), (B1x.out.cell 6), (B1x.out.cell 7), (B2x.out.cell 0), (B2x.out.cell 1), (B2x.out.cell 2), (B2x.out.cell 3), (B2x.out.cell 4), (B2x.out.cell 5), (B2x.out.cell 6), (B2x.out.cell 7), (B3x.out.cell 0), (B3x.out.cell 1), (B3x.out.cell 2), (B3x.out.cell 3), (B3x.out.cell 4), (B3x.out.cell 5), (B3x.out.cell 6), (B3x.out.cell 7), (B3x.out.cell 8), (B3x.out.frozen 0), (B3x.out.frozen 1), (B3x.out.frozen 2), (B3x.out.frozen 3), (B3x.out.frozen 4), (B3x.out.frozen 5), (B3x.out.frozen 6), (B3x.out.frozen 7), (B3x.out.frozen 8)⟩ (fun hHeld => ?_)
              clear hK K
              refine norm_ (a' := ?_) ?_ ?_
              rotate_left
              · show Act.put _ (some 80) _ = _
                simp only [Act.put, List.setIfInBounds_toArray, List.set_cons_zero, List.set_cons_succ]
                rfl
              refine pure_ (i := 10) (N := some 86) (v := ?_) (a' := ?_) #[true, true, true, true, true, true, true, true, true, true, true, false] rfl rfl (by kernel_rfl) (fun _ _ _ h => h) (Or.inl ⟨by rfl, ?_⟩) ?_ ?_
              rotate_left
              · intro w'
                go_simp
                with_reducible rfl
              rotate_left
              · simp only [Act.put, List.setIfInBounds_toArray, List.set_cons_zero, List.set_cons_succ]
                rfl
              refine last_ (i := 11) (N := none) #[true, true, true, true, true, true, true, true, true, true, true, true] rfl rfl (by kernel_rfl) (by decide) (fun K hK => ?_)
              refine skip_ (w1 := ?_) (by rfl) rfl ?_ ?_
              rotate_left
              · go_simp
                rfl
              refine hK.out _ _ ?_
              clear hK K
              refine done_ (by kernel_rfl) ?_
              have HT : Rd w8 (Fr (w.heap.size + 3)) (vlsD (l'.take 16)) (.slice p5 m c5) := by
                have := Rd.take (HR.out.st HC8.out) 16
                rw [List.length_map, ← List.map_take] at this
                rw [HM.out]
                exact this
              have HT := Lib.hid HT
              have HC9 := HC.st HC8.out
              go_wp2_with fail
              exact back_row rfl rfl (set9 B3x.out _ _ _ _ _ _ _ _ _) Tryz.underlying52 rfl infS rfl
                ⟨⟨⟨jn s.seen t.seen, l'.take 16⟩, .slice p5 m c5, rfl, (rd9 HT.out (by show ¬ w.heap.size + 3 ≤ w.heap.size + 1 + 1; omega) _ _ _ _ _ _ _ _ _).mono fun k hk _ => by have : w.heap.size + 3 ≤ k := hk; show w.heap.size ≤ k; omega, .inr ⟨HX.out, HY.out, rfl, l', HPM.out, HPW.out, rfl⟩⟩, chg9 HC9 (by omega) _ _ _ _ _ _ _ _ _⟩
end Go.Proofs.YtoefffjhjmjhfaaGreat
namespace Go.Proofs.YtoefffjhjmjhfaaGreat
open Go.RowKit Go.Proofs.YtoefffjhjmjhfaaGreatW.PrintLast
attribute [local go_sem] max2_mx max_two_ min2_mn min_two_

/-- A row of one, made anew. -/
theorem OB.lit {w : World} {base n : Nat} {B : Nat → Prop} {e : TypeId} {r : List D} {cs : List Value} (hr : Rds w (fun k => B k ∧ k < w.heap.size) r cs) (hl : cs.length = n) (hrl : r.length = n) (hb : base ≤ w.heap.size) :
    OB (w.alloc (.cells cs.toArray e)) base B e n (.slice (some ⟨w.heap.size, 0, none⟩) 1 1) [r] := by
  refine ⟨⟨cs, World.ownsRow_lit w cs.toArray 1 hb (by decide) (by simp [hl]), Flat.one hl ((hr.st (Chg.al w _)).mono fun k hk _ => ⟨hk.1, ?_⟩)⟩, fun x hx => ?_⟩
  · intro h
    have h2 : (Value.slice (some ⟨w.heap.size, 0, none⟩) 1 1).ownBlock = some w.heap.size := rfl
    rw [h2] at h
    cases h
    exact Nat.lt_irrefl _ hk.2
  · rw [List.mem_singleton.1 hx]
    exact hrl
def sb0 : Sb := ⟨fun _ => 0, []⟩
def putOk (s : Sb) (seen : Vq) (n : Int) (data : List UInt8) (dead : Bool) : Bool := maySb s && (may seen && (decide (0 ≤ n) && (decide (n < 8) && mayVl ⟨0, 0, data, dead⟩)))
def putL (s : Sb) (seen : Vq) (n : Int) (data : List UInt8) (dead : Bool) : List Vl := ⟨nxtN (jn s.seen seen) n, nxtX (jn s.seen seen) n, data, dead⟩ :: s.vals.filter fun v => !cov seen v.node v.n
/-- What a write comes to. -/
structure PutR (w : World) (s : Sb) (seen : Vq) (n : Int) (data : List UInt8) (dead : Bool) (e : Ending) (w' : World) : Prop where
  ex : ∃ (r : Sb) (p : Value) (c : Int), e = .returned (.tuple #[sbv r p, .int .i64 c]) ∧ Rd w' (New w) (vlsD r.vals) p ∧
    (putOk s seen n data dead = false ∧ r = sb0 ∧ c = 1 ∨ putOk s seen n data dead = true ∧
      (nxtE (jn s.seen seen) n ≠ 0 ∧ r = sb0 ∧ c = nxtE (jn s.seen seen) n ∨ nxtE (jn s.seen seen) n = 0 ∧
        (16 < (putL s seen n data dead).length ∧ r = sb0 ∧ c = 11 ∨ (putL s seen n data dead).length ≤ 16 ∧ c = 0 ∧ r.seen = wit (jn s.seen seen) (nxtN (jn s.seen seen) n) (nxtX (jn s.seen seen) n) ∧ r.vals.Perm (putL s seen n data dead) ∧ r.vals.Pairwise (fun a b => lessV b a = false))))
  chg : Chg NoB w w'
set_option maxRecDepth 100000 in
set_option maxHeartbeats 4000000 in
theorem putS_any {w : World} {A B : Nat → Prop} (s : Sb) (seen : Vq) (n : Int) (data : List UInt8) (dead : Bool) (p q : Value) (hp : Rd w A (vlsD s.vals) p) (hq : Rd w B (bD data) q) (hl : data.length ≤ 140737488355328) :
    Calls Tryz.prog 80 #[sbv s p, vec seen, .int .i64 n, q, .bool dead] w (PutR w s seen n data dead) := by
  replace hp := hp.old
  obtain ⟨p1, c1, rfl, h1, h2, _, h4, _⟩ := vls_form hp
  unfold maxLen at h2
  have HP0 := Lib.hid hp
  have B1 := ((Blk.new w 52 (sbc s (.slice p1 s.vals.length c1))).alloc (.cells (va seen) 46)).alloc (.cells sbz 52)
  have B2 := (Blk.new_ (k := w.heap.size + 1) (w.alloc (.cells (sbc s (.slice p1 s.vals.length c1)) 52)) 46 (va seen) (by simp)).alloc (.cells sbz 52)
  have B3 := Blk.new_ (k := w.heap.size + 2) ((w.alloc (.cells (sbc s (.slice p1 s.vals.length c1)) 52)).alloc (.cells (va seen) 46)) 52 sbz (by simp)
  have hC := (((Chg.refl NoB w).alloc (.cells (sbc s (.slice p1 s.vals.length c1)) 52)).alloc (.cells (va seen) 46)).alloc (.cells sbz 52)
  have hz : w.heap.size + 3 ≤ (((w.alloc (.cells (sbc s (.slice p1 s.vals.length c1)) 52)).alloc (.cells (va seen) 46)).alloc (.cells sbz 52)).heap.size := by simp
  replace hp := hp.st hC
  replace hq := hq.st hC
  go_enter Tryz.func80, Tryz.ntmps80
  go_upto_region 2 with fail
  generalize ((w.alloc (Obj.cells _ 52)).alloc (Obj.cells _ 46)).alloc (Obj.cells _ 52) = W at *
  refine (clone_rd hq hl).mono ?_
  rintro e w1 ⟨⟨d4, rfl, hd⟩, hC1⟩
  obtain ⟨p4, c4, rfl, _⟩ := bytes_form hd
  have HD := Lib.hid (hd.mono (B := fun k => w.heap.size + 3 ≤ k ∧ k < w1.heap.size) fun k hk h => ⟨Nat.le_trans hz hk, h⟩)
  replace hp := hp.st hC1
  replace hC := hC.st hC1
  replace B1 := B1.st hC1
  replace B2 := B2.st hC1
  replace B3 := B3.st hC1
  have hz := Nat.le_trans hz hC1.size
  clear hd hq hC1
  go_upto_region 2 with fail
  have hAl := Chg.al w1 (.cells (vlc ⟨0, 0, data, dead⟩ (.slice p4 data.length c4)) 222)
  have B4 := Blk.new w1 222 (vlc ⟨0, 0, data, dead⟩ (.slice p4 data.length c4))
  replace hp := hp.st hAl
  replace hC := hC.st hAl
  replace B1 := B1.st hAl
  replace B2 := B2.st hAl
  replace B3 := B3.st hAl
  replace HD := Lib.hid (HD.out.st hAl)
  have hz2 : w.heap.size + 3 < (w1.alloc (.cells (vlc ⟨0, 0, data, dead⟩ (.slice p4 data.length c4)) 222)).heap.size := by simp; omega
  have hb4 := hz
  generalize hg4 : w1.heap.size = g4 at *
  generalize w1.alloc (Obj.cells _ 222) = W1 at *
  clear hAl hg4
  obtain ⟨x, hx⟩ : ∃ x, maySb s = x := ⟨_, rfl⟩
  obtain ⟨d0, d1, d2, d3, d4, d5, d6, d7, d8⟩ := cells9 B1
  go_wp2_with fail
  clear d0 d1 d2 d3 d4 d5 d6 d7 d8
  refine (hx ▸ mayS_any s _ hp).mono ?_
  have HX := Lib.hid hx
  clear hx
  rintro e w2 ⟨rfl, hC1⟩
  have hz := Nat.le_trans hz2 hC1.size
  replace hp := hp.st hC1
  replace hC := hC.st hC1
  replace B1 := B1.st hC1
  replace B2 := B2.st hC1
  replace B3 := B3.st hC1
  replace HD := Lib.hid (HD.out.st hC1)
  replace B4 := B4.st hC1
  clear hC1 hz2
  cases x with
  | false =>
    obtain ⟨e0, e1, e2, e3, e4, e5, e6, e7, e8⟩ := cells9 B3
    obtain ⟨f0, f1, f2, f3, f4, f5, f6, f7, f8⟩ := frz9 B3
    go_wp2_with fail
    exact back_row2 rfl rfl rfl (set9 B3 _ _ _ _ _ _ _ _ _) Tryz.underlying52 rfl infS rfl ⟨⟨sb0, .slice none 0 0, _, rfl, Rd.nil 4, .inl ⟨by unfold putOk; rw [HX.out]; rfl, rfl, rfl⟩⟩, chg9 hC (by omega) _ _ _ _ _ _ _ _ _⟩
  | true =>
    obtain ⟨y, hy⟩ : ∃ y, may seen = y := ⟨_, rfl⟩
    obtain ⟨d0, d1, d2, d3, d4, d5, d6, d7⟩ := eight B2
    go_wp2_with fail
    clear d0 d1 d2 d3 d4 d5 d6 d7
    refine (hy ▸ may_any seen _).mono ?_
    have HY := Lib.hid hy
    clear hy
    rintro e w3 ⟨rfl, hC1⟩
    have hz := Nat.le_trans hz hC1.size
    replace hp := hp.st hC1
    replace hC := hC.st hC1
    replace B1 := B1.st hC1
    replace B2 := B2.st hC1
    replace B3 := B3.st hC1
    replace HD := Lib.hid (HD.out.st hC1)
    replace B4 := B4.st hC1
    clear hC1
    cases y with
    | false =>
      obtain ⟨e0, e1, e2, e3, e4, e5, e6, e7, e8⟩ := cells9 B3
      obtain ⟨f0, f1, f2, f3, f4, f5, f6, f7, f8⟩ := frz9 B3
      go_wp2_with fail
      exact back_row2 rfl rfl rfl (set9 B3 _ _ _ _ _ _ _ _ _) Tryz.underlying52 rfl infS rfl ⟨⟨sb0, .slice none 0 0, _, rfl, Rd.nil 4, .inl ⟨by unfold putOk; rw [HX.out, HY.out]; rfl, rfl, rfl⟩⟩, chg9 hC (by omega) _ _ _ _ _ _ _ _ _⟩
    | true =>
      obtain ⟨b1, hb1⟩ : ∃ b, decide (n < 0) = b := ⟨_, rfl⟩
      obtain ⟨b2, hb2⟩ : ∃ b, decide (n ≥ 8) = b := ⟨_, rfl⟩
      cases b1 with
      | true =>
        have HN : Hid (decide (0 ≤ n) = false) := Lib.hid (by have := of_decide_eq_true hb1; exact decide_eq_false (by omega))
        obtain ⟨e0, e1, e2, e3, e4, e5, e6, e7, e8⟩ := cells9 B3
        obtain ⟨f0, f1, f2, f3, f4, f5, f6, f7, f8⟩ := frz9 B3
        go_wp2_with fail
        exact back_row2 rfl rfl rfl (set9 B3 _ _ _ _ _ _ _ _ _) Tryz.underlying52 rfl infS rfl ⟨⟨sb0, .slice none 0 0, _, rfl, Rd.nil 4, .inl ⟨by unfold putOk; rw [HX.out, HY.out, HN.out]; rfl, rfl, rfl⟩⟩, chg9 hC (by omega) _ _ _ _ _ _ _ _ _⟩
      | false =>
        have HN : Hid (decide (0 ≤ n) = true) := Lib.hid (by have := of_decide_eq_false hb1; exact decide_eq_true (by omega))
        cases b2 with
        | true =>
          have HN2 : Hid (decide (n < 8) = false) := Lib.hid (by have := of_decide_eq_true hb2; exact decide_eq_false (by omega))
          obtain ⟨e0, e1, e2, e3, e4, e5, e6, e7, e8⟩ := cells9 B3
          obtain ⟨f0, f1, f2, f3, f4, f5, f6, f7, f8⟩ := frz9 B3
          go_wp2_with fail
          exact back_row2 rfl rfl rfl (set9 B3 _ _ _ _ _ _ _ _ _) Tryz.underlying52 rfl infS rfl ⟨⟨sb0, .slice none 0 0, _, rfl, Rd.nil 4, .inl ⟨by unfold putOk; rw [HX.out, HY.out, HN.out, HN2.out]; rfl, rfl, rfl⟩⟩, chg9 hC (by omega) _ _ _ _ _ _ _ _ _⟩
        | false =>
          have HN2 : Hid (decide (n < 8) = true) := Lib.hid (by have := of_decide_eq_false hb2; exact decide_eq_true (by omega))
          obtain ⟨z, hzv⟩ : ∃ z, mayVl ⟨0, 0, data, dead⟩ = z := ⟨_, rfl⟩
          obtain ⟨d0, d1, d2, d3⟩ := cells4 B4
          go_wp2_with fail
          clear d0 d1 d2 d3
          refine (hzv ▸ mayValue_any ⟨0, 0, data, dead⟩ _ HD.out).mono ?_
          have HZ := Lib.hid hzv
          clear hzv
          rintro e w4 ⟨rfl, hC1⟩
          have hz := Nat.le_trans hz hC1.size
          replace hp := hp.st hC1
          replace hC := hC.st hC1
          replace B1 := B1.st hC1
          replace B2 := B2.st hC1
          replace B3 := B3.st hC1
          replace HD := Lib.hid (HD.out.st hC1)
          replace B4 := B4.st hC1
          clear hC1
          cases z with
          | false =>
            obtain ⟨e0, e1, e2, e3, e4, e5, e6, e7, e8⟩ := cells9 B3
            obtain ⟨f0, f1, f2, f3, f4, f5, f6, f7, f8⟩ := frz9 B3
            go_wp2_with fail
            exact back_row2 rfl rfl rfl (set9 B3 _ _ _ _ _ _ _ _ _) Tryz.underlying52 rfl infS rfl ⟨⟨sb0, .slice none 0 0, _, rfl, Rd.nil 4, .inl ⟨by unfold putOk; rw [HX.out, HY.out, HN.out, HN2.out, HZ.out]; rfl, rfl, rfl⟩⟩, chg9 hC (by omega) _ _ _ _ _ _ _ _ _⟩
          | true =>
            have HPK : Hid (putOk s seen n data dead = true) := Lib.hid (by unfold putOk; rw [HX.out, HY.out, HN.out, HN2.out, HZ.out]; rfl)
            have HF : Hid (∀ k, k < 8 → -9223372036854775808 ≤ jn s.seen seen k) := Lib.hid (fun k hk => by
              have := (may_iff.1 HY.out k hk).1
              unfold jn mx
              split <;> omega)
            clear HZ HN HN2 hb1 hb2 HY
            obtain ⟨d0, d1, d2, d3, d4, d5, d6, d7, d8⟩ := cells9 B1
            obtain ⟨e0, e1, e2, e3, e4, e5, e6, e7⟩ := eight B2
            go_wp2_with fail
            clear d0 d1 d2 d3 d4 d5 d6 d7 d8 e0 e1 e2 e3 e4 e5 e6 e7
            refine (join_any s.seen seen _).mono ?_
            rintro e w5 ⟨rfl, hC1⟩
            have hz := Nat.le_trans hz hC1.size
            replace hp := hp.st hC1
            replace hC := hC.st hC1
            replace B1 := B1.st hC1
            replace B2 := B2.st hC1
            replace B3 := B3.st hC1
            replace HD := Lib.hid (HD.out.st hC1)
            replace B4 := B4.st hC1
            clear hC1
            go_wp2_with fail
            have h45 := B4.cell 0
            have hAl := Chg.al w5 (.cells (va (jn s.seen seen)) 46)
            have B5 := Blk.new w5 46 (va (jn s.seen seen))
            replace hp := hp.st hAl
            replace hC := hC.st hAl
            replace B1 := B1.st hAl
            replace B2 := B2.st hAl
            replace B3 := B3.st hAl
            replace HD := Lib.hid (HD.out.st hAl)
            replace B4 := B4.st hAl
            have hz2 : w5.heap.size < (w5.alloc (.cells (va (jn s.seen seen)) 46)).heap.size := by simp
            have l45 : g4 ≠ w5.heap.size := by
              rintro rfl
              exact absurd (cell_lt h45) (Nat.lt_irrefl _)
            generalize hg5 : w5.heap.size = g5 at *
            generalize w5.alloc (Obj.cells _ 46) = W5 at *
            clear hAl hg5 h45
            refine (next_any (jn s.seen seen) n _ HF.out).mono ?_
            rintro e w6 ⟨rfl, hC1⟩
            have hz6 := Nat.lt_of_lt_of_le hz2 hC1.size
            replace hp := hp.st hC1
            replace hC := hC.st hC1
            replace B1 := B1.st hC1
            replace B2 := B2.st hC1
            replace B3 := B3.st hC1
            replace HD := Lib.hid (HD.out.st hC1)
            replace B4 := B4.st hC1
            replace B5 := B5.st hC1
            clear hC1 hz2 HF
            obtain ⟨E, hE⟩ : ∃ E, nxtE (jn s.seen seen) n = E := ⟨_, rfl⟩
            obtain ⟨N, hN⟩ : ∃ N, nxtN (jn s.seen seen) n = N := ⟨_, rfl⟩
            obtain ⟨X, hX⟩ : ∃ X, nxtX (jn s.seen seen) n = X := ⟨_, rfl⟩
            rw [hE, hN, hX]
            obtain ⟨b3, hb3⟩ : ∃ b, (E != 0) = b := ⟨_, rfl⟩
            have HE := Lib.hid hE
            have HN := Lib.hid hN
            have HXX := Lib.hid hX
            clear hE hN hX
            have B6 := Blk.new w6 177 #[.int .i64 N, .int .i64 X]
            cases b3 with
            | true =>
              have HNE : Hid (E ≠ 0) := Lib.hid (by simpa using hb3)
              have l6 : w.heap.size + 1 + 1 < w6.heap.size := by omega
              obtain ⟨e0, e1, e2, e3, e4, e5, e6, e7, e8⟩ := cells9 B3
              obtain ⟨f0, f1, f2, f3, f4, f5, f6, f7, f8⟩ := frz9 B3
              go_wp2_with fail
              exact back_row2 rfl rfl rfl ((set9 B3 _ _ _ _ _ _ _ _ _).alloc _) Tryz.underlying52 rfl infS rfl ⟨⟨sb0, .slice none 0 0, _, rfl, Rd.nil 4, .inr ⟨HPK.out, .inl ⟨by rw [HE.out]; exact HNE.out, rfl, HE.out.symm⟩⟩⟩, (chg9 hC (by omega) _ _ _ _ _ _ _ _ _).alloc _⟩
            | false =>
              obtain rfl : E = 0 := by simpa using hb3
              clear hb3
              have l4 : g4 < w6.heap.size := by have := (B4.cell 0 : w6.cell? ⟨g4, 0, none⟩ = _); exact cell_lt this
              have l0 : w.heap.size < w6.heap.size := by omega
              obtain ⟨e0, e1, e2, e3⟩ := cells4 B4
              obtain ⟨f0, f1, f2, f3⟩ := frz4 B4
              obtain ⟨d0, d1, d2, d3, d4, d5, d6, d7, d8⟩ := cells9 B1
              go_wp2_with fail
              clear d0 d1 d2 d3 d4 d5 d6 d7 d8 e0 e1 e2 e3 f0 f1 f2 f3
              have hg4b : w.heap.size + 3 ≤ g4 := hb4
              have D1 : Hid (Rd ((w6.setCell ⟨g4, 0, none⟩ (.int .i64 N)).setCell ⟨g4, 1, none⟩ (.int .i64 X)) (fun k => w.heap.size + 3 ≤ k ∧ k < g4) (bD data) (.slice p4 data.length c4)) := Lib.hid ((HD.out.sc (by omega) _).sc (by omega) _)
              have C1 := (((hC.sc (b := g4) (i := 0) (by omega) (.int .i64 N)).sc (b := g4) (i := 1) (by omega) (.int .i64 X)).alloc (.cells #[.int .i64 N, .int .i64 X] 177))
              have P1 := B1.far (p := ⟨g4, 0, none⟩) (by show w.heap.size ≠ g4; omega) (.int .i64 N)
              have P2 := B2.far (p := ⟨g4, 0, none⟩) (by show w.heap.size + 1 ≠ g4; omega) (.int .i64 N)
              have P3 := B3.far (p := ⟨g4, 0, none⟩) (by show w.heap.size + 1 + 1 ≠ g4; omega) (.int .i64 N)
              have P5 := B5.far (p := ⟨g4, 0, none⟩) (by show g5 ≠ g4; omega) (.int .i64 N)
              replace P1 := (P1.far (p := ⟨g4, 1, none⟩) (by show w.heap.size ≠ g4; omega) (.int .i64 X)).alloc (.cells #[.int .i64 N, .int .i64 X] 177)
              replace P2 := (P2.far (p := ⟨g4, 1, none⟩) (by show w.heap.size + 1 ≠ g4; omega) (.int .i64 X)).alloc (.cells #[.int .i64 N, .int .i64 X] 177)
              replace P3 := (P3.far (p := ⟨g4, 1, none⟩) (by show w.heap.size + 1 + 1 ≠ g4; omega) (.int .i64 X)).alloc (.cells #[.int .i64 N, .int .i64 X] 177)
              replace P5 := (P5.far (p := ⟨g4, 1, none⟩) (by show g5 ≠ g4; omega) (.int .i64 X)).alloc (.cells #[.int .i64 N, .int .i64 X] 177)
              clear B1 B2 B3 B4 B5 B6 hC HD hp
              have P6 := Blk.new_ (k := w6.heap.size) ((w6.setCell ⟨g4, 0, none⟩ (.int .i64 N)).setCell ⟨g4, 1, none⟩ (.int .i64 X)) 177 #[.int .i64 N, .int .i64 X] (by simp)
              have hsz : (((w6.setCell ⟨g4, 0, none⟩ (.int .i64 N)).setCell ⟨g4, 1, none⟩ (.int .i64 X)).alloc (.cells #[.int .i64 N, .int .i64 X] 177)).heap.size = w6.heap.size + 1 := by simp
              have D2 := Lib.hid (D1.out.st (Chg.al _ (.cells #[.int .i64 N, .int .i64 X] 177)))
              clear D1
              generalize ((w6.setCell ⟨g4, 0, none⟩ (.int .i64 N)).setCell ⟨g4, 1, none⟩ (.int .i64 X)).alloc (.cells #[.int .i64 N, .int .i64 X] 177) = W8 at *
              have HO := OB.lit (base := w6.heap.size + 1) (B := Fr (w.heap.size + 3)) (e := 222) (n := 4) (w := W8) (r := vlD ⟨N, X, data, dead⟩) (vl_rds (v := ⟨N, X, data, dead⟩) (D2.out.mono fun k hk _ => ⟨hk.1, by have := hk.2; omega⟩)) rfl rfl (by omega)
              rw [hsz] at HO
              replace HO := Lib.hid HO
              have hAl := Chg.al W8 (.cells (vlc ⟨N, X, data, dead⟩ (.slice p4 data.length c4)) 222)
              replace C1 := C1.st hAl
              replace P1 := P1.st hAl
              replace P2 := P2.st hAl
              replace P3 := P3.st hAl
              replace P5 := P5.st hAl
              replace P6 := P6.st hAl
              have hz9 : w6.heap.size + 2 ≤ (W8.alloc (.cells (vlc ⟨N, X, data, dead⟩ (.slice p4 data.length c4)) 222)).heap.size := by simp; omega
              clear D2 hAl hsz
              have HLs := Lib.hid (maySb_len HX.out)
              have HMs := Lib.hid fun (k : Nat) (hk : k < s.vals.length) => mayVl_len (maySb_ok HX.out hk).1
              go_loopw [16, 66] (fun l i wr => ∃ k : Nat, k ≤ s.vals.length ∧ i = .int .i64 k ∧ Hid (OB wr (w6.heap.size + 1) (Fr (w.heap.size + 3)) 222 4 l (((⟨N, X, data, dead⟩ : Vl) :: (s.vals.take k).filter fun v => !cov seen v.node v.n).map vlD)) ∧ Chg NoB w wr ∧ w6.heap.size + 2 ≤ wr.heap.size ∧ Blk wr (w.heap.size + 1) 46 (va seen) ∧ Blk wr (w.heap.size + 1 + 1) 52 sbz ∧ Blk wr g5 46 (va (jn s.seen seen)) ∧ Blk wr w6.heap.size 177 #[.int .i64 N, .int .i64 X]) (fun _ i _ => s.vals.length - (intOf i).toNat)
              case atStart => exact ⟨0, Nat.zero_le _, rfl, Lib.hid (by rw [List.take_zero, List.filter_nil]; exact HO.out), C1, hz9, P2, P3, P5, P6⟩
              case round =>
                clear P1 P2 P3 P5 P6 C1 hz9 HO
                obtain ⟨k, hk, rfl, HO, HC, hz9, P2, P3, P5, P6⟩ := hrel
                by_cases hlt : k < s.vals.length
                · obtain ⟨b, off, rfl, hA, hb⟩ := h4 (by omega)
                  obtain ⟨g1, cp1, hd, c0, c1, c2, c3⟩ := vls_at (HP0.out.st HC) hlt
                  have hl1 := Lib.hid (HMs.out k hlt)
                  generalize hv : s.vals[k] = v at *
                  have HV := Lib.hid hv
                  clear hv
                  have hk1 : k + 1 ≤ s.vals.length := hlt
                  have l1 : w.heap.size + 1 < wr.heap.size := by omega
                  obtain ⟨d0, d1, d2, d3, d4, d5, d6, d7⟩ := eight P2
                  go_wp2_with fail
                  clear c0 c1 c2 c3 d0 d1 d2 d3 d4 d5 d6 d7
                  have hAl := Chg.al wr (.cells (vlc v (.slice g1 v.data.length cp1)) 222)
                  have B7 := Blk.new wr 222 (vlc v (.slice g1 v.data.length cp1))
                  have hW1 : wr.heap.size < (wr.alloc (.cells (vlc v (.slice g1 v.data.length cp1)) 222)).heap.size := by simp
                  replace HO := Lib.hid (HO.out.st hAl)
                  replace HC := HC.st hAl
                  replace P2 := P2.st hAl
                  replace P3 := P3.st hAl
                  replace P5 := P5.st hAl
                  replace P6 := P6.st hAl
                  replace hd := hd.st hAl
                  generalize wr.alloc (Obj.cells _ 222) = W1 at *
                  clear hAl
                  obtain ⟨r, hr⟩ : ∃ r, cov seen v.node v.n = r := ⟨_, rfl⟩
                  have HJ : Hid ((!cov seen v.node v.n) = !r) := Lib.hid (by rw [hr])
                  refine (hr ▸ covers_any seen v.node v.n W1).mono ?_
                  clear hr
                  rintro e w7 ⟨rfl, hC⟩
                  have hzW : w6.heap.size + 2 ≤ w7.heap.size := by have := hC.size; omega
                  have lW : wr.heap.size < w7.heap.size := Nat.lt_of_lt_of_le hW1 hC.size
                  replace HO := Lib.hid (HO.out.st hC)
                  replace HC := HC.st hC
                  replace P2 := P2.st hC
                  replace P3 := P3.st hC
                  replace P5 := P5.st hC
                  replace P6 := P6.st hC
                  replace hd := hd.st hC
                  replace B7 := B7.st hC
                  clear hC
                  cases r with
                  | true =>
                    go_wp2_with fail
                    go_roundw
                    case rel => exact ⟨k + 1, hk1, by go_num, Lib.hid (by rw [ft_none (g := fun v => !cov seen v.node v.n) hlt HV.out HJ.out]; exact HO.out), HC, hzW, P2, P3, P5, P6⟩
                    case measure => simp [intOf]; omega
                  | false =>
                    obtain ⟨c0, c1, c2, c3⟩ := cells4 B7
                    go_wp2_with fail
                    clear c0 c1 c2 c3
                    refine (own_any v _ hd (by have := hl1.out; omega)).mono ?_
                    rintro e w8 ⟨⟨d8, rfl, hd8⟩, hC8⟩
                    obtain ⟨q8, cp8, rfl, _⟩ := bytes_form hd8
                    have hz8 := Nat.le_trans hzW hC8.size
                    have HDD := Lib.hid (hd8.mono (B := fun k => Fr (w.heap.size + 3) k ∧ u16.ownBlock ≠ some k) fun k hk _ => ⟨by have : w7.heap.size ≤ k := hk; show w.heap.size + 3 ≤ k; omega, fun ho => by have := (HO.out.lt k ho).2; have : w7.heap.size ≤ k := hk; omega⟩)
                    replace HO := Lib.hid (HO.out.st hC8)
                    replace HC := HC.st hC8
                    replace P2 := P2.st hC8
                    replace P3 := P3.st hC8
                    replace P5 := P5.st hC8
                    replace P6 := P6.st hC8
                    clear hd8 hC8
                    have HLen : Hid ((((⟨N, X, data, dead⟩ : Vl) :: (s.vals.take k).filter fun v => !cov seen v.node v.n).map vlD).length ≤ 17) := Lib.hid (by
                      have h1 := HLs.out
                      have h4 : ((s.vals.take k).filter fun v => !cov seen v.node v.n).length ≤ (s.vals.take k).length := List.length_filter_le _ _
                      rw [List.length_take] at h4
                      rw [List.length_map, List.length_cons]
                      omega)
                    go_wp2_with (at_builtin; refine wpList_push rfl _ _ _ rfl (w6.heap.size + 1) 222 _ 4 48 Tryz.underlying50 infVr rfl (by decide) _ _ (Fr (w.heap.size + 3)) rfl (HO.out.st (Chg.al w8 _)) _ _ _ _ (vlD v) rfl (Blk.new w8 222 (vlc v (.slice q8 v.data.length cp8))) rfl (vl_rds (HDD.out.st (Chg.al w8 _))) rfl (by have := HLen.out; omega) (by have := HLen.out; unfold maxLen; omega) (by simp; omega) ?_)
                    intro g9 cap9 w9 hO hC9 hat hlt9
                    have hO2 := Lib.hid hO
                    replace HC := (HC.trans (Chg.al w8 _)).then_ hC9 (fun j hj hs => by have := (HO.out.lt j hs).1; omega)
                    replace P2 := (P2.st (Chg.al w8 _)).chg hC9 (fun hs => by have := (HO.out.lt _ hs).1; omega)
                    replace P3 := (P3.st (Chg.al w8 _)).chg hC9 (fun hs => by have := (HO.out.lt _ hs).1; omega)
                    replace P5 := (P5.st (Chg.al w8 _)).chg hC9 (fun hs => by have := (HO.out.lt _ hs).1; omega)
                    replace P6 := (P6.st (Chg.al w8 _)).chg hC9 (fun hs => by have := (HO.out.lt _ hs).1; omega)
                    have hz10 : w6.heap.size + 2 ≤ w9.heap.size := by have := hC9.size; simp at this; omega
                    clear hC9 hO hat HO HDD
                    go_wp2_with fail
                    go_roundw
                    case rel => exact ⟨k + 1, hk1, by go_num, Lib.hid (by rw [ft_some (g := fun v => !cov seen v.node v.n) hlt HV.out HJ.out]; simpa only [List.map_append, List.append_assoc, List.map_cons, List.map_nil, List.cons_append] using hO2.out), HC, hz10, P2, P3, P5, P6⟩
                    case measure => simp [intOf]; omega
                · obtain rfl : k = s.vals.length := by omega
                  rw [List.take_of_length_le (Nat.le_refl _)] at HO
                  obtain ⟨L, hL⟩ : ∃ L, ((⟨N, X, data, dead⟩ : Vl) :: s.vals.filter fun v => !cov seen v.node v.n) = L := ⟨_, rfl⟩
                  rw [hL] at HO
                  have HL : Hid (putL s seen n data dead = L) := Lib.hid (by unfold putL; rw [HN.out, HXX.out]; exact hL)
                  have h0 : L ≠ [] := by rw [← hL]; simp
                  clear hL h4 hlt hk
                  obtain ⟨b5, hb5⟩ : ∃ b, decide ((L.length : Int) > 16) = b := ⟨_, rfl⟩
                  obtain ⟨g, cp, rfl, hgb⟩ : ∃ g cp, u16 = .slice (some ⟨g, 0, none⟩) L.length cp ∧ w6.heap.size + 1 ≤ g := by
                    rcases HO.out.form with ⟨_, h⟩ | ⟨g, cp, h, hb, _⟩
                    · exact absurd (List.map_eq_nil_iff.1 h) h0
                    · exact ⟨g, cp, by rw [h, List.length_map], hb⟩
                  have l2 : w.heap.size + 1 + 1 < wr.heap.size := by omega
                  cases b5 with
                  | true =>
                    have HB : Hid (16 < L.length) := Lib.hid (by have := of_decide_eq_true hb5; omega)
                    obtain ⟨e0, e1, e2, e3, e4, e5, e6, e7, e8⟩ := cells9 P3
                    obtain ⟨f0, f1, f2, f3, f4, f5, f6, f7, f8⟩ := frz9 P3
                    go_wp2_with fail
                    exact back_row2 rfl rfl rfl (set9 P3 _ _ _ _ _ _ _ _ _) Tryz.underlying52 rfl infS rfl ⟨⟨sb0, .slice none 0 0, _, rfl, Rd.nil 4, .inr ⟨HPK.out, .inr ⟨HE.out, .inl ⟨by rw [HL.out]; exact HB.out, rfl, rfl⟩⟩⟩⟩, chg9 HC (by omega) _ _ _ _ _ _ _ _ _⟩
                  | false =>
                    have HB : Hid (L.length ≤ 16) := Lib.hid (by have := of_decide_eq_false hb5; omega)
                    have l5 : g5 < wr.heap.size := by omega
                    obtain ⟨d0, d1, d2, d3, d4, d5, d6, d7⟩ := eight P5
                    obtain ⟨e0, e1⟩ := cells2 P6
                    go_wp2_with fail
                    clear d0 d1 d2 d3 d4 d5 d6 d7 e0 e1
                    refine (with_any (jn s.seen seen) N X _).mono ?_
                    rintro e w7 ⟨rfl, hC⟩
                    have hz10 := Nat.le_trans hz9 hC.size
                    replace HO := Lib.hid (HO.out.st hC)
                    replace HC := HC.st hC
                    replace P3 := P3.st hC
                    clear hC P2 P5 P6
                    go_wp2_with fail
                    refine (sorted_any HO.out (by have := HB.out; omega)).mono ?_
                    rintro e w10 ⟨rfl, ⟨l', hpm, hpw, hO⟩, hC⟩
                    have hu : ∀ k, k < w6.heap.size + 1 → ¬ (Value.slice (some ⟨g, 0, none⟩) L.length cp).ownBlock = some k := fun k hk h => by have := (HO.out.lt k h).1; omega
                    replace HC := HC.then_ hC (fun j hj hs => hu j (by omega) hs)
                    replace P3 := P3.chg hC (hu _ (by omega))
                    have HR := Lib.hid (hO.rd fun k hk => by show w.heap.size + 3 ≤ k; omega)
                    have HPM := Lib.hid hpm
                    have HPW := Lib.hid hpw
                    clear hC hO hpm hpw hu HO
                    obtain ⟨e0, e1, e2, e3, e4, e5, e6, e7, e8⟩ := cells9 P3
                    obtain ⟨f0, f1, f2, f3, f4, f5, f6, f7, f8⟩ := frz9 P3
                    go_wp2_with fail
                    exact back_row2 rfl rfl rfl (set9 P3 _ _ _ _ _ _ _ _ _) Tryz.underlying52 rfl infS rfl ⟨⟨⟨wit (jn s.seen seen) N X, l'⟩, _, _, rfl, (rd9 HR.out (by show ¬ w.heap.size + 3 ≤ w.heap.size + 1 + 1; omega) _ _ _ _ _ _ _ _ _).mono fun k hk _ => by have : w.heap.size + 3 ≤ k := hk; show w.heap.size ≤ k; omega, .inr ⟨HPK.out, .inr ⟨HE.out, .inr ⟨by rw [HL.out]; exact HB.out, rfl, by rw [HN.out, HXX.out], by rw [HL.out]; exact HPM.out, HPW.out⟩⟩⟩⟩, chg9 HC (by omega) _ _ _ _ _ _ _ _ _⟩
end Go.Proofs.YtoefffjhjmjhfaaGreat
namespace Go.Proofs.YtoefffjhjmjhfaaGreat
open Go.RowKit

/-- The one value of awake(). -/
def vA : Vl := ⟨0, 1, [120], false⟩
def sA : Sb := ⟨fun k => if k = 0 then 1 else 0, [vA]⟩
theorem mayA : maySb sA = true := by decide
theorem may0 : maySb sb0 = true := by decide
theorem jn_self (f : Vc) : jn f f = f := by
  funext k
  unfold jn mx
  split <;> rfl
theorem jn0A : jn sb0.seen sA.seen = sA.seen := by
  funext k
  show mx 0 (if k = 0 then 1 else 0) = if k = 0 then 1 else 0
  split <;> decide
theorem joinL_A : joinL sA sA = sA.vals := rfl
theorem joinL_0 : joinL sb0 sb0 = sb0.vals := rfl
theorem joinL_0A : joinL sb0 sA = sA.vals := rfl
theorem perm_one {α : Type} {l m : List α} (h : l.Perm m) (hm : m.length ≤ 1) : l = m := by
  match m, hm with
  | [], _ => exact List.perm_nil.1 h
  | [x], _ => exact List.perm_singleton.1 h
theorem JoinR.to {w w' : World} {s t u : Sb} {e : Ending} (h : JoinR w s t e w') (hs : maySb s = true) (ht : maySb t = true) (hu : jn s.seen t.seen = u.seen) (hl : joinL s t = u.vals) (h1 : u.vals.length ≤ 1) : (∃ p, e = .returned (sbv u p) ∧ Rd w' (New w) (vlsD u.vals) p) ∧ Chg NoB w w' := by
  obtain ⟨⟨r, p, he, hp, hr⟩, hC⟩ := h
  rcases hr with ⟨hn, _⟩ | ⟨_, _, h2, l, h3, _, h5⟩
  · rw [hs, ht] at hn
    rcases hn with hn | hn <;> cases hn
  · rw [hl] at h3
    have e1 := perm_one h3 h1
    have e2 : r.vals = u.vals := by rw [h5, e1, List.take_of_length_le (by omega)]
    have e3 : r = u := by
      obtain ⟨a, b⟩ := r
      obtain ⟨c, d⟩ := u
      simp only at h2 e2
      rw [h2, e2]
      exact congrArg (fun z => Sb.mk z d) hu
    subst e3
    exact ⟨⟨p, he, hp⟩, hC⟩
section
variable {w : World} {A B : Nat → Prop} {p q : Value}
theorem join_A (hp : Rd w A (vlsD sA.vals) p) (hq : Rd w B (vlsD sA.vals) q) : Calls Tryz.prog 149 #[sbv sA p, sbv sA q] w fun e w' => (∃ p, e = .returned (sbv sA p) ∧ Rd w' (New w) (vlsD sA.vals) p) ∧ Chg NoB w w' :=
  (joinS_any sA sA p q hp hq).mono fun _ _ h => h.to mayA mayA (jn_self _) joinL_A (by decide)
theorem join_0 (hp : Rd w A (vlsD sb0.vals) p) (hq : Rd w B (vlsD sb0.vals) q) : Calls Tryz.prog 149 #[sbv sb0 p, sbv sb0 q] w fun e w' => (∃ p, e = .returned (sbv sb0 p) ∧ Rd w' (New w) (vlsD sb0.vals) p) ∧ Chg NoB w w' :=
  (joinS_any sb0 sb0 p q hp hq).mono fun _ _ h => h.to may0 may0 (jn_self _) joinL_0 (by decide)
theorem join_0A (hp : Rd w A (vlsD sb0.vals) p) (hq : Rd w B (vlsD sA.vals) q) : Calls Tryz.prog 149 #[sbv sb0 p, sbv sA q] w fun e w' => (∃ p, e = .returned (sbv sA p) ∧ Rd w' (New w) (vlsD sA.vals) p) ∧ Chg NoB w w' :=
  (joinS_any sb0 sA p q hp hq).mono fun _ _ h => h.to may0 mayA jn0A joinL_0A (by decide)
theorem nx0 : nxtE (jn sb0.seen sb0.seen) 0 = 0 ∧ nxtN (jn sb0.seen sb0.seen) 0 = 0 ∧ nxtX (jn sb0.seen sb0.seen) 0 = 1 := by decide
theorem wit0 : wit (jn sb0.seen sb0.seen) 0 1 = sA.seen := by
  funext k
  unfold wit upd jn sb0 sA
  by_cases h : k = 0
  · subst h; decide
  · simp [h, mx]
theorem put_A (hp : Rd w A (vlsD sb0.vals) p) (hq : Rd w B (bD [120]) q) : Calls Tryz.prog 80 #[sbv sb0 p, vec (fun _ => 0), .int .i64 0, q, .bool false] w fun e w' => (∃ p, e = .returned (.tuple #[sbv sA p, .int .i64 0]) ∧ Rd w' (New w) (vlsD sA.vals) p) ∧ Chg NoB w w' := by
  refine (putS_any sb0 (fun _ => 0) 0 [120] false p q hp hq (by decide)).mono ?_
  rintro e w' ⟨⟨r, p, c, he, hr, hx⟩, hC⟩
  obtain ⟨n1, n2, n3⟩ := nx0
  change nxtE (jn sb0.seen (fun _ => 0)) 0 = 0 at n1
  change nxtN (jn sb0.seen (fun _ => 0)) 0 = 0 at n2
  change nxtX (jn sb0.seen (fun _ => 0)) 0 = 1 at n3
  have hL : putL sb0 (fun _ => 0) 0 [120] false = sA.vals := by unfold putL; rw [n2, n3]; rfl
  rcases hx with ⟨h, _⟩ | ⟨_, ⟨h, _⟩ | ⟨_, ⟨h, _⟩ | ⟨_, rfl, h2, h3, _⟩⟩⟩
  · exact absurd h (by decide)
  · exact absurd n1 h
  · rw [hL] at h; exact absurd h (by decide)
  · rw [hL] at h3
    rw [n2, n3] at h2
    have e2 := perm_one h3 (by decide)
    have e3 : r = sA := by
      obtain ⟨a, b⟩ := r
      simp only at h2 e2
      rw [h2, e2]
      exact congrArg (fun z => Sb.mk z sA.vals) wit0
    subst e3
    exact ⟨⟨p, he, hr⟩, hC⟩
end
end Go.Proofs.YtoefffjhjmjhfaaGreat
