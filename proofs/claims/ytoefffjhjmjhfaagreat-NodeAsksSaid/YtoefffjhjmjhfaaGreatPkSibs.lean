/- Contracts of package sibs, third part: values in the order of their dots. No statement is proved here. Contracts of package sibs, fourth part: are two alike. No statement is proved here. Contracts of package sibs, fifth part: may siblings be. No statement is proved here. -/
import Derived.Test.YtoefffjhjmjhfaaGreatSibsB
import Derived.Test.YtoefffjhjmjhfaaGreatSort
import Derived.Test.YtoefffjhjmjhfaaGreatShelf2
namespace Go.Proofs.YtoefffjhjmjhfaaGreat
open Go.RowKit Go.Proofs.YtoefffjhjmjhfaaGreatW.PrintLast
attribute [local go_sem] max2_mx max_two_ min2_mn min_two_

def lessV (a b : Vl) : Bool := less a.node a.n b.node b.n
def cmpV (a b : Vl) : Int := if lessV a b then -1 else if lessV b a then 1 else 0
set_option maxRecDepth 100000 in
theorem sorted1_any {w : World} (a b : Vl) (p1 p2 : Option Addr) (c1 c2 : Nat) :
    Calls Tryz.prog 189 #[vlv a (.slice p1 a.data.length c1), vlv b (.slice p2 b.data.length c2)] w fun e w' => e = .returned (.int .i64 (cmpV a b)) ∧ Gr w w' := by
  obtain ⟨x, hx⟩ : ∃ x, less a.node a.n b.node b.n = x := ⟨_, rfl⟩
  obtain ⟨y, hy⟩ : ∃ y, less b.node b.n a.node a.n = y := ⟨_, rfl⟩
  have hc : cmpV a b = if x then -1 else if y then 1 else 0 := by unfold cmpV lessV; rw [hx, hy]
  rw [hc]
  have L1 := Lib.hid (fun w => hx ▸ less_gr a.node a.n b.node b.n w)
  have L2 := Lib.hid (fun w => hy ▸ less_gr b.node b.n a.node a.n w)
  clear hx hy hc
  have B1 := (Blk.new w 222 (vlc a (.slice p1 a.data.length c1))).alloc (.cells (vlc b (.slice p2 b.data.length c2)) 222)
  have B2 := Blk.new_ (k := w.heap.size + 1) (w.alloc (.cells (vlc a (.slice p1 a.data.length c1)) 222)) 222 (vlc b (.slice p2 b.data.length c2)) (by simp)
  have hC := ((Chg.refl NoB w).alloc (.cells (vlc a (.slice p1 a.data.length c1)) 222)).alloc (.cells (vlc b (.slice p2 b.data.length c2)) 222)
  have hz : w.heap.size + 2 ≤ ((w.alloc (.cells (vlc a (.slice p1 a.data.length c1)) 222)).alloc (.cells (vlc b (.slice p2 b.data.length c2)) 222)).heap.size := by simp
  have HG := ((Gr.refl w).alloc (.cells (vlc a (.slice p1 a.data.length c1)) 222)).alloc (.cells (vlc b (.slice p2 b.data.length c2)) 222)
  go_enter Tryz.func189, Tryz.ntmps189
  go_upto_block 0 with fail
  generalize (w.alloc (Obj.cells _ 222)).alloc (Obj.cells _ 222) = W at *
  obtain ⟨d0, d1, d2, d3⟩ := cells4 B1
  obtain ⟨e0, e1, e2, e3⟩ := cells4 B2
  go_wp2_with fail
  refine (L1.out _).mono ?_
  rintro e w1 ⟨rfl, hG⟩
  clear d0 d1 d2 d3 e0 e1 e2 e3
  replace B1 := B1.st hG.chg
  replace B2 := B2.st hG.chg
  replace HG := HG.trans hG
  clear hG
  obtain ⟨d0, d1, d2, d3⟩ := cells4 B1
  obtain ⟨e0, e1, e2, e3⟩ := cells4 B2
  cases x with
  | true =>
    go_wp2_with fail
    go_ret
    exact ⟨rfl, HG⟩
  | false =>
    go_wp2_with fail
    refine (L2.out _).mono ?_
    rintro e w2 ⟨rfl, hG⟩
    replace HG := HG.trans hG
    cases y
    all_goals
      go_wp2_with fail
      go_ret
      exact ⟨rfl, HG⟩
/-- A value and its slice's place. -/
abbrev Pv := Vl × (Option Addr × Nat)
instance : Inhabited Pv := ⟨(⟨0, 0, [], false⟩, (none, 0))⟩
abbrev encV (x : Pv) : List Value := [.int .i64 x.1.node, .int .i64 x.1.n, .slice x.2.1 x.1.data.length x.2.2, .bool x.1.dead]
theorem ltV (x y : Pv) : ltOf (fun x y : Pv => cmpV x.1 y.1) x y = lessV x.1 y.1 := by
  unfold ltOf cmpV
  cases h1 : lessV x.1 y.1 with
  | true => simp [h1]
  | false => cases h2 : lessV y.1 x.1 <;> simp [h1, h2]
theorem lessV_iff {a b : Vl} : lessV a b = true ↔ a.node < b.node ∨ a.node = b.node ∧ a.n < b.n := by
  unfold lessV less
  simp
theorem lessV_no {a b : Vl} : lessV a b = false ↔ ¬ (a.node < b.node ∨ a.node = b.node ∧ a.n < b.n) := by rw [← lessV_iff, Bool.not_eq_true]
theorem swoV : Go.Sort.SWO (ltOf fun x y : Pv => cmpV x.1 y.1) where
  irrefl x := by rw [ltV, lessV_no]; omega
  trans x y z h1 h2 := by rw [ltV, lessV_iff] at *; omega
  ntrans x y z h1 h2 := by rw [ltV, lessV_no] at *; omega
theorem flatV {w : World} {A : Nat → Prop} : ∀ {l : List Vl} {xs : List Value}, Flat w A 4 (l.map vlD) xs → ∃ d : List Pv, d.map Prod.fst = l ∧ xs = d.flatMap encV ∧ ∀ x ∈ d, Rd w A (bD x.1.data) (.slice x.2.1 x.1.data.length x.2.2)
  | [], xs, h => ⟨[], rfl, h, fun x hx => by cases hx⟩
  | v :: l, xs, ⟨cs, ys, hx, _, hr, hf⟩ => by
    obtain ⟨d, h1, h2, h3⟩ := flatV hf
    obtain ⟨u, rfl, hu⟩ := vl_row hr
    obtain ⟨q, c, rfl, _⟩ := bytes_form hu
    refine ⟨(v, (q, c)) :: d, by simp [h1], by rw [hx, h2]; rfl, fun x hx => ?_⟩
    rcases List.mem_cons.1 hx with rfl | hx
    · exact hu
    · exact h3 x hx
theorem flatV_of {w : World} {A : Nat → Prop} : ∀ {d : List Pv}, (∀ x ∈ d, Rd w A (bD x.1.data) (.slice x.2.1 x.1.data.length x.2.2)) → Flat w A 4 ((d.map Prod.fst).map vlD) (d.flatMap encV)
  | [], _ => rfl
  | x :: d, h => ⟨encV x, d.flatMap encV, by rw [List.flatMap_cons], rfl, vl_rds (h x (by simp)), flatV_of fun y hy => h y (by simp [hy])⟩
theorem agV (w : World) : (isAgg 222).run Tryz.prog w = .ok true w := by kernel_rfl
theorem szV (w : World) : (Go.sizeOf 222).run Tryz.prog w = .ok 4 w := by kernel_rfl
/-- Values in order. -/
structure SortedV (w : World) (base : Nat) (B : Nat → Prop) (v : Value) (l : List Vl) (e : Ending) (w' : World) : Prop where
  ret : e = .returned v
  ex : ∃ l' : List Vl, l'.Perm l ∧ l'.Pairwise (fun a b => lessV b a = false) ∧ OB w' base B 222 4 v (l'.map vlD)
  chg : Chg (fun b => v.ownBlock = some b) w w'
theorem sorted_any {w : World} {base : Nat} {B : Nat → Prop} {v : Value} {l : List Vl} (h : OB w base B 222 4 v (l.map vlD)) (hsz : l.length < 4611686018427387904) :
    Calls Tryz.prog 143 #[v] w (SortedV w base B v l) := by
  obtain ⟨⟨xs, hown, hf⟩, hlen⟩ := h
  obtain ⟨d, rfl, rfl, hd⟩ := flatV hf
  rw [List.length_map, List.length_map] at hown
  have HS := Lib.hid (sort_rows (P := Tryz.prog) Tryz.sortF188 (k := 4) agV szV (enc := encV) (fun _ => rfl) (fun x u hu => by simp at hu; rcases hu with rfl | rfl | rfl | rfl <;> rfl) (fun x y => cmpV x.1 y.1) swoV 189 #[] (enters_of Tryz.func189 (by kernel_rfl) rfl) (fun w x y => sorted1_any x.1 y.1 x.2.1 y.2.1 x.2.2 y.2.2) hown (by simpa using hsz))
  have HD := Lib.hid hd
  obtain ⟨A, n, c, rfl⟩ : ∃ A n c, v = .slice A n c := by
    rcases hown.2 with ⟨rfl, _⟩ | ⟨g, cap, cur, rfl, _⟩
    · exact ⟨_, _, _, rfl⟩
    · exact ⟨_, _, _, rfl⟩
  clear hf hd hlen hown hsz
  go_enter Tryz.func143, Tryz.ntmps143
  go_wp2_with fail
  refine HS.out.mono ?_
  rintro e w' ⟨rfl, ⟨d', hp, hpw, hown'⟩, hC⟩
  have HO := Lib.hid hown'
  have HC := Lib.hid hC
  have HP := Lib.hid hp
  have HW := Lib.hid hpw
  clear hp hpw hown' hC
  go_wp2_with fail
  go_ret
  refine ⟨rfl, ⟨d'.map Prod.fst, HP.out.map _, ?_, ⟨⟨_, by rw [List.length_map, List.length_map]; exact HO.out, flatV_of fun x hx => (HD.out x (HP.out.mem_iff.1 hx)).chg HC.out fun k hk _ hs => hk.2 hs⟩, fun r hr => ?_⟩⟩, HC.out⟩
  · rw [List.pairwise_map]
    exact HW.out.imp fun {a b} hab => by rw [ltV] at hab; exact hab
  · obtain ⟨v, _, rfl⟩ := List.mem_map.1 hr
    rfl
end Go.Proofs.YtoefffjhjmjhfaaGreat
namespace Go.Proofs.YtoefffjhjmjhfaaGreat
open Go.RowKit Go.Proofs.YtoefffjhjmjhfaaGreatW.PrintLast
attribute [local go_sem] max2_mx max_two_ min2_mn min_two_

theorem take_eq_succ {α : Type} {l m : List α} {k : Nat} (h : l.take k = m.take k) (hl : k < l.length) (hm : k < m.length) (he : l[k] = m[k]) : l.take (k + 1) = m.take (k + 1) := by
  rw [List.take_succ_eq_append_getElem hl, List.take_succ_eq_append_getElem hm, h, he]
theorem ne_of_get {α : Type} {l m : List α} {k : Nat} (hl : k < l.length) (hm : k < m.length) (he : l[k] ≠ m[k]) : l ≠ m := by
  rintro rfl
  exact he rfl
set_option maxRecDepth 100000 in
set_option maxHeartbeats 1000000 in
theorem equalV_any {w : World} {A B : Nat → Prop} (l m : List Vl) (p q : Value) (hp : Rd w A (vlsD l) p) (hq : Rd w B (vlsD m) q) :
    Calls Tryz.prog 118 #[p, q, .func (.func 119) #[] #[]] w fun e w' => e = .returned (.bool (decide (l = m))) ∧ Chg NoB w w' := by
  obtain ⟨p1, c1, rfl, h1, h2, _, h4, _⟩ := vls_form hp
  obtain ⟨q1, c2, rfl, k1, k2, _, k4, _⟩ := vls_form hq
  unfold maxLen at h2 k2
  have heg : ∀ args w, (callFunc 119 args).run Tryz.prog w = .ok (.enter 119 args) w := enters_of Tryz.func119 (by kernel_rfl) rfl
  have HE := Lib.hid heg
  clear heg
  obtain ⟨b, hb⟩ : ∃ b, ((l.length : Int) != m.length) = b := ⟨_, rfl⟩
  go_enter Tryz.func118, Tryz.ntmps118
  cases b with
  | true =>
    have hd : l ≠ m := fun h => by subst h; simp at hb
    go_wp2_with fail
    go_ret
    exact ⟨by simp [hd], Chg.refl _ _⟩
  | false =>
    have hlm : m.length = l.length := by simp at hb; omega
    have HLm := Lib.hid hlm
    rw [hlm] at hq k1 k4 ⊢
    clear hlm
    clear hb
    go_wp2_with fail
    go_loopw [17] (fun i wr => ∃ k : Nat, k ≤ l.length ∧ i = .int .i64 k ∧ Hid (l.take k = m.take k) ∧ Chg NoB w wr) (fun i _ => l.length - (intOf i).toNat)
    case atStart => exact ⟨0, Nat.zero_le _, rfl, Lib.hid rfl, Chg.refl _ _⟩
    case round =>
      obtain ⟨k, hk, rfl, HN, HC⟩ := hrel
      replace hp := hp.st HC
      replace hq := hq.st HC
      by_cases hlt : k < l.length
      · obtain ⟨b, off, rfl, hA, hb⟩ := h4 (by omega)
        obtain ⟨b', off', rfl, hA', hb'⟩ := k4 (by omega)
        have hltm : k < m.length := by rw [HLm.out]; exact hlt
        obtain ⟨p2, c3, hd, d0, d1, d2, d3⟩ := vls_at hp hlt
        obtain ⟨q2, c4, he, e0, e1, e2, e3⟩ := vls_at hq hltm
        have hb1 := Nat.lt_of_lt_of_le hb HC.size
        have hb2 := Nat.lt_of_lt_of_le hb' HC.size
        have HS : Hid (l[k] = m[k] → l.take (k + 1) = m.take (k + 1)) := Lib.hid fun h => take_eq_succ HN.out hlt hltm h
        have HD : Hid (l[k] ≠ m[k] → l ≠ m) := Lib.hid fun h => ne_of_get hlt hltm h
        generalize l[k] = u at *
        generalize m[k] = v at *
        go_wp2_with fail
        have hC2 := (Chg.al wr (.cells (vlc u (.slice p2 u.data.length c3)) 222)).trans (Chg.al _ (.cells (vlc v (.slice q2 v.data.length c4)) 222))
        refine (same1_any u v _ _ (hd.st hC2) (he.st hC2)).mono ?_
        rintro e w2 ⟨rfl, hC3⟩
        replace HC := (HC.trans hC2).trans hC3
        clear hC2 hC3 hd he hp hq
        have hk1 : k + 1 ≤ l.length := hlt
        obtain ⟨r, hr⟩ : ∃ r, decide (u = v) = r := ⟨_, rfl⟩
        cases r with
        | true =>
          have hs := Lib.hid (HS.out (of_decide_eq_true hr))
          rw [hr]
          clear HS HD hr
          go_wp2_with fail
          go_roundw
          case rel => exact ⟨k + 1, hk1, by go_num, hs, HC⟩
          case measure => simp [intOf]; omega
        | false =>
          have hs := Lib.hid (HD.out (of_decide_eq_false hr))
          rw [hr]
          clear HS HD hr
          go_wp2_with fail
          go_ret
          exact ⟨by simp [hs.out], HC⟩
      · obtain rfl : k = l.length := by omega
        have HL : Hid (l = m) := Lib.hid (by have := HN.out; rwa [List.take_of_length_le (Nat.le_refl _), List.take_of_length_le (by rw [HLm.out]; exact Nat.le_refl _)] at this)
        go_wp2_with fail
        go_ret
        exact ⟨by simp [HL.out], HC⟩
theorem eq_seen (s t : Sb) (w : World) : (Op.equalIn 10000 46 (.agg #[.int .i64 (s.seen 0), .int .i64 (s.seen 1), .int .i64 (s.seen 2), .int .i64 (s.seen 3), .int .i64 (s.seen 4), .int .i64 (s.seen 5), .int .i64 (s.seen 6), .int .i64 (s.seen 7)]) (.agg #[.int .i64 (t.seen 0), .int .i64 (t.seen 1), .int .i64 (t.seen 2), .int .i64 (t.seen 3), .int .i64 (t.seen 4), .int .i64 (t.seen 5), .int .i64 (t.seen 6), .int .i64 (t.seen 7)])).run Tryz.prog w = .ok (veq s.seen t.seen) w := eq_vec 9998 s.seen t.seen w
attribute [local go_sem] eq_seen
set_option maxRecDepth 100000 in
theorem sameS_any {w : World} {A B : Nat → Prop} (s t : Sb) (p q : Value) (hp : Rd w A (vlsD s.vals) p) (hq : Rd w B (vlsD t.vals) q) :
    Calls Tryz.prog 65 #[sbv s p, sbv t q] w fun e w' => e = .returned (.bool (veq s.seen t.seen && decide (s.vals = t.vals))) ∧ Chg NoB w w' := by
  obtain ⟨p1, c1, rfl, _⟩ := vls_form hp
  obtain ⟨q1, c2, rfl, _⟩ := vls_form hq
  have B1 := (Blk.new w 52 (sbc s (.slice p1 s.vals.length c1))).alloc (.cells (sbc t (.slice q1 t.vals.length c2)) 52)
  have B2 := Blk.new_ (k := w.heap.size + 1) (w.alloc (.cells (sbc s (.slice p1 s.vals.length c1)) 52)) 52 (sbc t (.slice q1 t.vals.length c2)) (by simp)
  have hC := ((Chg.refl NoB w).alloc (.cells (sbc s (.slice p1 s.vals.length c1)) 52)).alloc (.cells (sbc t (.slice q1 t.vals.length c2)) 52)
  have hz : w.heap.size + 2 ≤ ((w.alloc (.cells (sbc s (.slice p1 s.vals.length c1)) 52)).alloc (.cells (sbc t (.slice q1 t.vals.length c2)) 52)).heap.size := by simp
  replace hp := hp.st hC
  replace hq := hq.st hC
  have HA := Lib.hid (equalV_any (w := (w.alloc (.cells (sbc s (.slice p1 s.vals.length c1)) 52)).alloc (.cells (sbc t (.slice q1 t.vals.length c2)) 52)) s.vals t.vals _ _ hp hq)
  obtain ⟨x, hx⟩ : ∃ x, veq s.seen t.seen = x := ⟨_, rfl⟩
  obtain ⟨y, hy⟩ : ∃ y, decide (s.vals = t.vals) = y := ⟨_, rfl⟩
  rw [hy] at HA ⊢
  rw [hx]
  clear hy hp hq
  go_enter Tryz.func65, Tryz.ntmps65
  cases x with
  | false =>
    go_wp2_with fail
    go_ret
    exact ⟨rfl, hC⟩
  | true =>
    go_wp2_with fail
    refine HA.out.mono ?_
    rintro e w1 ⟨rfl, hC3⟩
    go_wp2_with fail
    go_ret
    exact ⟨by simp, hC.trans hC3⟩
end Go.Proofs.YtoefffjhjmjhfaaGreat
namespace Go.Proofs.YtoefffjhjmjhfaaGreat
open Go.RowKit Go.Proofs.YtoefffjhjmjhfaaGreatW.PrintLast
attribute [local go_sem] max2_mx max_two_ min2_mn min_two_
attribute [local irreducible] wpQuiet

/-- The value at a place stands well. -/
def okV (f : Vc) (l : List Vl) (k : Nat) : Bool :=
  match l[k]? with
  | none => true
  | some v => mayVl v && (cov f v.node v.n && (match k with
    | 0 => true
    | j + 1 => match l[j]? with
      | none => true
      | some u => less u.node u.n v.node v.n))
def maySb (s : Sb) : Bool := may s.seen && (decide (s.vals.length ≤ 16) && (List.range s.vals.length).all (okV s.seen s.vals))
theorem okV_first {f : Vc} {l : List Vl} (h : 0 < l.length) : okV f l 0 = (mayVl l[0] && cov f l[0].node l[0].n) := by
  simp [okV, h]
theorem okV_next {f : Vc} {l : List Vl} {j : Nat} (h : j + 1 < l.length) : okV f l (j + 1) = (mayVl l[j + 1] && (cov f l[j + 1].node l[j + 1].n && less l[j].node l[j].n l[j + 1].node l[j + 1].n)) := by
  simp [okV, h, show j < l.length by omega]
theorem okV_no {f : Vc} {l : List Vl} {k : Nat} (h : k < l.length) (hn : mayVl l[k] = false ∨ cov f l[k].node l[k].n = false) : okV f l k = false := by
  unfold okV
  rw [List.getElem?_eq_getElem h]
  rcases hn with hn | hn <;> simp [hn]
theorem maySb_no {s : Sb} {k : Nat} (h : k < s.vals.length) (hk : okV s.seen s.vals k = false) : maySb s = false := by
  unfold maySb
  have : (List.range s.vals.length).all (okV s.seen s.vals) = false := List.all_eq_false.2 ⟨k, List.mem_range.2 h, by simp [hk]⟩
  simp [this]
theorem maySb_yes {s : Sb} (h1 : may s.seen = true) (h2 : s.vals.length ≤ 16) (h : ∀ j, j < s.vals.length → okV s.seen s.vals j = true) : maySb s = true := by
  unfold maySb
  rw [h1, decide_eq_true h2, List.all_eq_true.2 fun x hx => h x (List.mem_range.1 hx)]
  rfl
set_option maxRecDepth 100000 in
set_option maxHeartbeats 4000000 in
theorem mayS_any {w : World} {A : Nat → Prop} (s : Sb) (p : Value) (hp : Rd w A (vlsD s.vals) p) :
    Calls Tryz.prog 121 #[sbv s p] w fun e w' => e = .returned (.bool (maySb s)) ∧ Chg NoB w w' := by
  obtain ⟨p1, c1, rfl, h1, h2, _, h4, _⟩ := vls_form hp
  unfold maxLen at h2
  have B1 := Blk.new w 52 (sbc s (.slice p1 s.vals.length c1))
  have hC := (Chg.refl NoB w).alloc (.cells (sbc s (.slice p1 s.vals.length c1)) 52)
  have hz : w.heap.size + 1 ≤ (w.alloc (.cells (sbc s (.slice p1 s.vals.length c1)) 52)).heap.size := by simp
  replace hp := hp.st hC
  go_enter Tryz.func121, Tryz.ntmps121
  go_upto_block 0 with fail
  generalize w.alloc (Obj.cells _ 52) = W at *
  obtain ⟨d0, d1, d2, d3, d4, d5, d6, d7, d8⟩ := cells9 B1
  go_wp2_with fail
  refine (may_any s.seen _).mono ?_
  rintro e w1 ⟨rfl, hC1⟩
  obtain ⟨x, hx⟩ : ∃ x, may s.seen = x := ⟨_, rfl⟩
  rw [hx]
  replace hC := hC.st hC1
  replace hp := hp.st hC1
  replace B1 := B1.st hC1
  have hz := Nat.le_trans hz hC1.size
  clear hC1 d0 d1 d2 d3 d4 d5 d6 d7 d8
  obtain ⟨d0, d1, d2, d3, d4, d5, d6, d7, d8⟩ := cells9 B1
  cases x with
  | false =>
    go_wp2_with fail
    go_ret
    exact ⟨ret_b (by unfold maySb; rw [hx]; rfl), hC⟩
  | true =>
    obtain ⟨y, hy⟩ : ∃ y, decide ((s.vals.length : Int) > 16) = y := ⟨_, rfl⟩
    cases y with
    | true =>
      have hY : Hid (¬ s.vals.length ≤ 16) := Lib.hid (by have := of_decide_eq_true hy; omega)
      have HX := Lib.hid hx
      go_wp2_with fail
      go_ret
      exact ⟨ret_b (by unfold maySb; rw [HX.out, decide_eq_false hY.out]; rfl), hC⟩
    | false =>
      have hY : Hid (s.vals.length ≤ 16) := Lib.hid (by have := of_decide_eq_false hy; omega)
      have HX := Lib.hid hx
      go_wp2_with fail
      go_loopw [18] (fun i wr => ∃ k : Nat, k ≤ s.vals.length ∧ i = .int .i64 k ∧ Hid (∀ j, j < k → okV s.seen s.vals j = true) ∧ Chg NoB w1 wr) (fun i _ => s.vals.length - (intOf i).toNat)
      case atStart => exact ⟨0, Nat.zero_le _, rfl, Lib.hid fun j hj => by omega, Chg.refl _ _⟩
      case round =>
        clear d0 d1 d2 d3 d4 d5 d6 d7 d8
        obtain ⟨k, hk, rfl, HN, HC⟩ := hrel
        replace hp := hp.st HC
        replace B1 := B1.st HC
        replace hC := hC.st HC
        have hz := Nat.le_trans hz HC.size
        by_cases hlt : k < s.vals.length
        · obtain ⟨b, off, rfl, hA, hb⟩ := h4 (by omega)
          obtain ⟨q1, cp1, hd, c0, c1, c2, c3⟩ := vls_at hp hlt
          have HF : Hid (okV s.seen s.vals k = false → maySb s = false) := Lib.hid fun h => maySb_no hlt h
          have HT : Hid (okV s.seen s.vals k = true → ∀ j, j < k + 1 → okV s.seen s.vals j = true) := Lib.hid fun h j hj => by
            rcases Nat.lt_succ_iff_lt_or_eq.1 hj with h' | rfl
            · exact HN.out j h'
            · exact h
          have HO : Hid (mayVl s.vals[k] = false ∨ cov s.seen s.vals[k].node s.vals[k].n = false → okV s.seen s.vals k = false) := Lib.hid fun h => okV_no hlt h
          have HO0 : Hid (k = 0 → okV s.seen s.vals k = (mayVl s.vals[k] && cov s.seen s.vals[k].node s.vals[k].n)) := Lib.hid fun h => by subst h; exact okV_first hlt
          have HO1 : Hid (∀ j, (e : k = j + 1) → okV s.seen s.vals k = (mayVl s.vals[k] && (cov s.seen s.vals[k].node s.vals[k].n && less (s.vals[j]'(by omega)).node (s.vals[j]'(by omega)).n s.vals[k].node s.vals[k].n))) := Lib.hid fun j e => by subst e; exact okV_next hlt
          generalize hv : s.vals[k] = v at *
          clear hv
          have hz1 : w.heap.size < wr.heap.size := by omega
          go_upto_region 6 with fail
          have hAl := Chg.al wr (.cells (vlc v (.slice q1 v.data.length cp1)) 222)
          have B4 := Lib.hid (Blk.new wr 222 (vlc v (.slice q1 v.data.length cp1)))
          have HP := Lib.hid (hp.st hAl)
          replace B1 := Lib.hid (B1.st hAl)
          have HCC := Lib.hid (hC.st hAl)
          have HC4 := Lib.hid (HC.st hAl)
          have M := Lib.hid fun w' (hC : Chg NoB _ w') => mayValue_any v _ ((hd.st hAl).st hC)
          clear hC HC hAl hd hp c0 c1 c2 c3
          generalize wr.alloc (Obj.cells _ 222) = W1 at *
          have hlen : k + 1 ≤ s.vals.length := hlt
          cases hm : mayVl v with
          | false =>
            have HR : Hid (maySb s = false) := Lib.hid (HF.out (HO.out (.inl hm)))
            rw [hm] at M
            clear hm HF HT HO HO0 HO1 HN
            refine q_start (by kernel_rfl) (by kernel_rfl) ?_
            refine q_on (v := ?_) (by rfl) ?_ ?_
            rotate_left
            · intro w' hC
              obtain ⟨c0, c1, c2, c3⟩ := cells4 (B4.out.st hC)
              go_simp
              with_reducible rfl
            rotate_left
            refine q_norm (a' := ?_) ?_ ?_
            rotate_left
            · show Act.put _ (some 23) _ = _
              simp only [Act.put, List.setIfInBounds_toArray, List.set_cons_zero, List.set_cons_succ]
              rfl
            refine q_call (f := 137) Tryz.func137 (by kernel_rfl) rfl #[vlv v (.slice q1 v.data.length cp1)] (by rfl) rfl (by simp only [List.map_toArray, List.map_cons, List.map_nil]; rfl) _ (fun w' hC => q_of hC (M.out w' hC)) ?_
            refine q_norm (a' := ?_) ?_ ?_
            rotate_left
            · show Act.put _ (some 24) _ = _
              simp only [Act.put, List.setIfInBounds_toArray, List.set_cons_zero, List.set_cons_succ]
              rfl
            refine q_on (v := ?_) (by rfl) ?_ ?_
            rotate_left
            · intro w' hC
              go_simp
              with_reducible rfl
            rotate_left
            refine q_norm (a' := ?_) ?_ ?_
            rotate_left
            · show Act.put _ (some 25) _ = _
              simp only [Act.put, List.setIfInBounds_toArray, List.set_cons_zero, List.set_cons_succ]
              rfl
            refine q_on (v := ?_) (by rfl) ?_ ?_
            rotate_left
            · intro w' hC
              go_simp
              with_reducible rfl
            rotate_left
            refine q_norm (a' := ?_) ?_ ?_
            rotate_left
            · show Act.put _ (some 26) _ = _
              simp only [Act.put, List.setIfInBounds_toArray, List.set_cons_zero, List.set_cons_succ]
              rfl
            refine q_off (by rfl) ?_
            refine q_norm (a' := ?_) ?_ ?_
            rotate_left
            · show Act.put _ (some 27) _ = _
              simp only [Act.put, List.setIfInBounds_toArray, List.set_cons_zero, List.set_cons_succ]
              rfl
            refine q_off (by rfl) ?_
            refine q_norm (a' := ?_) ?_ ?_
            rotate_left
            · show Act.put _ (some 28) _ = _
              simp only [Act.put, List.setIfInBounds_toArray, List.set_cons_zero, List.set_cons_succ]
              rfl
            refine q_off (by rfl) ?_
            refine q_norm (a' := ?_) ?_ ?_
            rotate_left
            · show Act.put _ (some 29) _ = _
              simp only [Act.put, List.setIfInBounds_toArray, List.set_cons_zero, List.set_cons_succ]
              rfl
            refine q_off (by rfl) ?_
            refine q_norm (a' := ?_) ?_ ?_
            rotate_left
            · show Act.put _ (some 30) _ = _
              simp only [Act.put, List.setIfInBounds_toArray, List.set_cons_zero, List.set_cons_succ]
              rfl
            refine q_off (by rfl) ?_
            refine q_norm (a' := ?_) ?_ ?_
            rotate_left
            · show Act.put _ (some 31) _ = _
              simp only [Act.put, List.setIfInBounds_toArray, List.set_cons_zero, List.set_cons_succ]
              rfl
            refine q_off (by rfl) ?_
            refine q_norm (a' := ?_) ?_ ?_
            rotate_left
            · show Act.put _ (some 32) _ = _
              simp only [Act.put, List.setIfInBounds_toArray, List.set_cons_zero, List.set_cons_succ]
              rfl
            refine q_on (v := ?_) (by rfl) ?_ ?_
            rotate_left
            · intro w' hC
              go_simp
              with_reducible rfl
            rotate_left
            refine q_norm (a' := ?_) ?_ ?_
            rotate_left
            · show Act.put _ (some 33) _ = _
              simp only [Act.put, List.setIfInBounds_toArray, List.set_cons_zero, List.set_cons_succ]
              rfl
            refine q_on (v := ?_) (by rfl) ?_ ?_
            rotate_left
            · intro w' hC
              go_simp
              with_reducible rfl
            rotate_left
            refine q_norm (a' := ?_) ?_ ?_
            rotate_left
            · show Act.put _ (some 34) _ = _
              simp only [Act.put, List.setIfInBounds_toArray, List.set_cons_zero, List.set_cons_succ]
              rfl
            refine q_off (by rfl) ?_
            refine q_norm (a' := ?_) ?_ ?_
            rotate_left
            · show Act.put _ (some 35) _ = _
              simp only [Act.put, List.setIfInBounds_toArray, List.set_cons_zero, List.set_cons_succ]
              rfl
            refine q_off (by rfl) ?_
            refine q_norm (a' := ?_) ?_ ?_
            rotate_left
            · show Act.put _ (some 36) _ = _
              simp only [Act.put, List.setIfInBounds_toArray, List.set_cons_zero, List.set_cons_succ]
              rfl
            refine q_off (by rfl) ?_
            refine q_norm (a' := ?_) ?_ ?_
            rotate_left
            · show Act.put _ (some 37) _ = _
              simp only [Act.put, List.setIfInBounds_toArray, List.set_cons_zero, List.set_cons_succ]
              rfl
            refine q_off (by rfl) ?_
            refine q_norm (a' := ?_) ?_ ?_
            rotate_left
            · show Act.put _ (some 38) _ = _
              simp only [Act.put, List.setIfInBounds_toArray, List.set_cons_zero, List.set_cons_succ]
              rfl
            refine q_off (by rfl) ?_
            refine q_norm (a' := ?_) ?_ ?_
            rotate_left
            · show Act.put _ (some 39) _ = _
              simp only [Act.put, List.setIfInBounds_toArray, List.set_cons_zero, List.set_cons_succ]
              rfl
            refine q_off (by rfl) ?_
            refine q_norm (a' := ?_) ?_ ?_
            rotate_left
            · show Act.put _ (some 40) _ = _
              simp only [Act.put, List.setIfInBounds_toArray, List.set_cons_zero, List.set_cons_succ]
              rfl
            refine q_off (by rfl) ?_
            refine q_norm (a' := ?_) ?_ ?_
            rotate_left
            · show Act.put _ (some 41) _ = _
              simp only [Act.put, List.setIfInBounds_toArray, List.set_cons_zero, List.set_cons_succ]
              rfl
            refine q_off (by rfl) ?_
            refine q_norm (a' := ?_) ?_ ?_
            rotate_left
            · show Act.put _ (some 42) _ = _
              simp only [Act.put, List.setIfInBounds_toArray, List.set_cons_zero, List.set_cons_succ]
              rfl
            refine q_off (by rfl) ?_
            refine q_norm (a' := ?_) ?_ ?_
            rotate_left
            · show Act.put _ (some 43) _ = _
              simp only [Act.put, List.setIfInBounds_toArray, List.set_cons_zero, List.set_cons_succ]
              rfl
            refine q_off (by rfl) ?_
            refine q_norm (a' := ?_) ?_ ?_
            rotate_left
            · show Act.put _ (some 44) _ = _
              simp only [Act.put, List.setIfInBounds_toArray, List.set_cons_zero, List.set_cons_succ]
              rfl
            refine q_off (by rfl) ?_
            refine q_norm (a' := ?_) ?_ ?_
            rotate_left
            · show Act.put _ (some 45) _ = _
              simp only [Act.put, List.setIfInBounds_toArray, List.set_cons_zero, List.set_cons_succ]
              rfl
            refine q_off (by rfl) ?_
            refine q_norm (a' := ?_) ?_ ?_
            rotate_left
            · show Act.put _ (some 46) _ = _
              simp only [Act.put, List.setIfInBounds_toArray, List.set_cons_zero, List.set_cons_succ]
              rfl
            refine q_off (by rfl) ?_
            refine q_norm (a' := ?_) ?_ ?_
            rotate_left
            · show Act.put _ (some 47) _ = _
              simp only [Act.put, List.setIfInBounds_toArray, List.set_cons_zero, List.set_cons_succ]
              rfl
            refine q_off (by rfl) ?_
            refine q_norm (a' := ?_) ?_ ?_
            rotate_left
            · show Act.put _ (some 48) _ = _
              simp only [Act.put, List.setIfInBounds_toArray, List.set_cons_zero, List.set_cons_succ]
              rfl
            refine q_off (by rfl) ?_
            refine q_norm (a' := ?_) ?_ ?_
            rotate_left
            · show Act.put _ (some 49) _ = _
              simp only [Act.put, List.setIfInBounds_toArray, List.set_cons_zero, List.set_cons_succ]
              rfl
            refine q_on (v := ?_) (by rfl) ?_ ?_
            rotate_left
            · intro w' hC
              go_simp
              with_reducible rfl
            rotate_left
            refine q_norm (a' := ?_) ?_ ?_
            rotate_left
            · show Act.put _ (some 50) _ = _
              simp only [Act.put, List.setIfInBounds_toArray, List.set_cons_zero, List.set_cons_succ]
              rfl
            refine wpQuiet_nil ?_
            intro w' hC
            go_wp2_with fail
            go_ret
            exact ⟨ret_b HR.out.symm, HCC.out.trans hC⟩
          | true =>
            rw [hm] at M
            obtain ⟨cv, hcv⟩ : ∃ cv, cov s.seen v.node v.n = cv := ⟨_, rfl⟩
            have KV := Lib.hid fun w' => hcv ▸ covers_any s.seen v.node v.n w'
            cases cv with
            | false =>
              have HR : Hid (maySb s = false) := Lib.hid (HF.out (HO.out (.inr hcv)))
              clear hm hcv HF HT HO HO0 HO1 HN
              refine q_start (by kernel_rfl) (by kernel_rfl) ?_
              refine q_on (v := ?_) (by rfl) ?_ ?_
              rotate_left
              · intro w' hC
                obtain ⟨c0, c1, c2, c3⟩ := cells4 (B4.out.st hC)
                go_simp
                with_reducible rfl
              rotate_left
              refine q_norm (a' := ?_) ?_ ?_
              rotate_left
              · show Act.put _ (some 23) _ = _
                simp only [Act.put, List.setIfInBounds_toArray, List.set_cons_zero, List.set_cons_succ]
                rfl
              refine q_call (f := 137) Tryz.func137 (by kernel_rfl) rfl #[vlv v (.slice q1 v.data.length cp1)] (by rfl) rfl (by simp only [List.map_toArray, List.map_cons, List.map_nil]; rfl) _ (fun w' hC => q_of hC (M.out w' hC)) ?_
              refine q_norm (a' := ?_) ?_ ?_
              rotate_left
              · show Act.put _ (some 24) _ = _
                simp only [Act.put, List.setIfInBounds_toArray, List.set_cons_zero, List.set_cons_succ]
                rfl
              refine q_on (v := ?_) (by rfl) ?_ ?_
              rotate_left
              · intro w' hC
                go_simp
                with_reducible rfl
              rotate_left
              refine q_norm (a' := ?_) ?_ ?_
              rotate_left
              · show Act.put _ (some 25) _ = _
                simp only [Act.put, List.setIfInBounds_toArray, List.set_cons_zero, List.set_cons_succ]
                rfl
              refine q_on (v := ?_) (by rfl) ?_ ?_
              rotate_left
              · intro w' hC
                go_simp
                with_reducible rfl
              rotate_left
              refine q_norm (a' := ?_) ?_ ?_
              rotate_left
              · show Act.put _ (some 26) _ = _
                simp only [Act.put, List.setIfInBounds_toArray, List.set_cons_zero, List.set_cons_succ]
                rfl
              refine q_on (v := ?_) (by rfl) ?_ ?_
              rotate_left
              · intro w' hC
                go_simp
                with_reducible rfl
              rotate_left
              refine q_norm (a' := ?_) ?_ ?_
              rotate_left
              · show Act.put _ (some 27) _ = _
                simp only [Act.put, List.setIfInBounds_toArray, List.set_cons_zero, List.set_cons_succ]
                rfl
              refine q_on (v := ?_) (by rfl) ?_ ?_
              rotate_left
              · intro w' hC
                obtain ⟨c0, c1, c2, c3, c4, c5, c6, c7, c8⟩ := cells9 (B1.out.st hC)
                go_simp
                with_reducible rfl
              rotate_left
              refine q_norm (a' := ?_) ?_ ?_
              rotate_left
              · show Act.put _ (some 28) _ = _
                simp only [Act.put, List.setIfInBounds_toArray, List.set_cons_zero, List.set_cons_succ]
                rfl
              refine q_on (v := ?_) (by rfl) ?_ ?_
              rotate_left
              · intro w' hC
                go_simp
                with_reducible rfl
              rotate_left
              refine q_norm (a' := ?_) ?_ ?_
              rotate_left
              · show Act.put _ (some 29) _ = _
                simp only [Act.put, List.setIfInBounds_toArray, List.set_cons_zero, List.set_cons_succ]
                rfl
              refine q_on (v := ?_) (by rfl) ?_ ?_
              rotate_left
              · intro w' hC
                obtain ⟨c0, c1, c2, c3⟩ := cells4 (B4.out.st hC)
                go_simp
                with_reducible rfl
              rotate_left
              refine q_norm (a' := ?_) ?_ ?_
              rotate_left
              · show Act.put _ (some 30) _ = _
                simp only [Act.put, List.setIfInBounds_toArray, List.set_cons_zero, List.set_cons_succ]
                rfl
              refine q_call (f := 140) Tryz.func140 (by kernel_rfl) rfl #[vec s.seen, dot v.node v.n] (by rfl) rfl (by simp only [List.map_toArray, List.map_cons, List.map_nil]; rfl) _ (fun w' hC => q_of hC (KV.out w')) ?_
              refine q_norm (a' := ?_) ?_ ?_
              rotate_left
              · show Act.put _ (some 31) _ = _
                simp only [Act.put, List.setIfInBounds_toArray, List.set_cons_zero, List.set_cons_succ]
                rfl
              refine q_on (v := ?_) (by rfl) ?_ ?_
              rotate_left
              · intro w' hC
                go_simp
                with_reducible rfl
              rotate_left
              refine q_norm (a' := ?_) ?_ ?_
              rotate_left
              · show Act.put _ (some 32) _ = _
                simp only [Act.put, List.setIfInBounds_toArray, List.set_cons_zero, List.set_cons_succ]
                rfl
              refine q_on (v := ?_) (by rfl) ?_ ?_
              rotate_left
              · intro w' hC
                go_simp
                with_reducible rfl
              rotate_left
              refine q_norm (a' := ?_) ?_ ?_
              rotate_left
              · show Act.put _ (some 33) _ = _
                simp only [Act.put, List.setIfInBounds_toArray, List.set_cons_zero, List.set_cons_succ]
                rfl
              refine q_on (v := ?_) (by rfl) ?_ ?_
              rotate_left
              · intro w' hC
                go_simp
                with_reducible rfl
              rotate_left
              refine q_norm (a' := ?_) ?_ ?_
              rotate_left
              · show Act.put _ (some 34) _ = _
                simp only [Act.put, List.setIfInBounds_toArray, List.set_cons_zero, List.set_cons_succ]
                rfl
              refine q_off (by rfl) ?_
              refine q_norm (a' := ?_) ?_ ?_
              rotate_left
              · show Act.put _ (some 35) _ = _
                simp only [Act.put, List.setIfInBounds_toArray, List.set_cons_zero, List.set_cons_succ]
                rfl
              refine q_off (by rfl) ?_
              refine q_norm (a' := ?_) ?_ ?_
              rotate_left
              · show Act.put _ (some 36) _ = _
                simp only [Act.put, List.setIfInBounds_toArray, List.set_cons_zero, List.set_cons_succ]
                rfl
              refine q_off (by rfl) ?_
              refine q_norm (a' := ?_) ?_ ?_
              rotate_left
              · show Act.put _ (some 37) _ = _
                simp only [Act.put, List.setIfInBounds_toArray, List.set_cons_zero, List.set_cons_succ]
                rfl
              refine q_off (by rfl) ?_
              refine q_norm (a' := ?_) ?_ ?_
              rotate_left
              · show Act.put _ (some 38) _ = _
                simp only [Act.put, List.setIfInBounds_toArray, List.set_cons_zero, List.set_cons_succ]
                rfl
              refine q_off (by rfl) ?_
              refine q_norm (a' := ?_) ?_ ?_
              rotate_left
              · show Act.put _ (some 39) _ = _
                simp only [Act.put, List.setIfInBounds_toArray, List.set_cons_zero, List.set_cons_succ]
                rfl
              refine q_off (by rfl) ?_
              refine q_norm (a' := ?_) ?_ ?_
              rotate_left
              · show Act.put _ (some 40) _ = _
                simp only [Act.put, List.setIfInBounds_toArray, List.set_cons_zero, List.set_cons_succ]
                rfl
              refine q_off (by rfl) ?_
              refine q_norm (a' := ?_) ?_ ?_
              rotate_left
              · show Act.put _ (some 41) _ = _
                simp only [Act.put, List.setIfInBounds_toArray, List.set_cons_zero, List.set_cons_succ]
                rfl
              refine q_off (by rfl) ?_
              refine q_norm (a' := ?_) ?_ ?_
              rotate_left
              · show Act.put _ (some 42) _ = _
                simp only [Act.put, List.setIfInBounds_toArray, List.set_cons_zero, List.set_cons_succ]
                rfl
              refine q_off (by rfl) ?_
              refine q_norm (a' := ?_) ?_ ?_
              rotate_left
              · show Act.put _ (some 43) _ = _
                simp only [Act.put, List.setIfInBounds_toArray, List.set_cons_zero, List.set_cons_succ]
                rfl
              refine q_off (by rfl) ?_
              refine q_norm (a' := ?_) ?_ ?_
              rotate_left
              · show Act.put _ (some 44) _ = _
                simp only [Act.put, List.setIfInBounds_toArray, List.set_cons_zero, List.set_cons_succ]
                rfl
              refine q_off (by rfl) ?_
              refine q_norm (a' := ?_) ?_ ?_
              rotate_left
              · show Act.put _ (some 45) _ = _
                simp only [Act.put, List.setIfInBounds_toArray, List.set_cons_zero, List.set_cons_succ]
                rfl
              refine q_off (by rfl) ?_
              refine q_norm (a' := ?_) ?_ ?_
              rotate_left
              · show Act.put _ (some 46) _ = _
                simp only [Act.put, List.setIfInBounds_toArray, List.set_cons_zero, List.set_cons_succ]
                rfl
              refine q_off (by rfl) ?_
              refine q_norm (a' := ?_) ?_ ?_
              rotate_left
              · show Act.put _ (some 47) _ = _
                simp only [Act.put, List.setIfInBounds_toArray, List.set_cons_zero, List.set_cons_succ]
                rfl
              refine q_off (by rfl) ?_
              refine q_norm (a' := ?_) ?_ ?_
              rotate_left
              · show Act.put _ (some 48) _ = _
                simp only [Act.put, List.setIfInBounds_toArray, List.set_cons_zero, List.set_cons_succ]
                rfl
              refine q_off (by rfl) ?_
              refine q_norm (a' := ?_) ?_ ?_
              rotate_left
              · show Act.put _ (some 49) _ = _
                simp only [Act.put, List.setIfInBounds_toArray, List.set_cons_zero, List.set_cons_succ]
                rfl
              refine q_on (v := ?_) (by rfl) ?_ ?_
              rotate_left
              · intro w' hC
                go_simp
                with_reducible rfl
              rotate_left
              refine q_norm (a' := ?_) ?_ ?_
              rotate_left
              · show Act.put _ (some 50) _ = _
                simp only [Act.put, List.setIfInBounds_toArray, List.set_cons_zero, List.set_cons_succ]
                rfl
              refine wpQuiet_nil ?_
              intro w' hC
              go_wp2_with fail
              go_ret
              exact ⟨ret_b HR.out.symm, HCC.out.trans hC⟩
            | true =>
              rcases Nat.eq_zero_or_pos k with rfl | hk0
              · have HR := Lib.hid (HT.out (by rw [HO0.out rfl, hm, hcv]; rfl))
                clear hm hcv HF HT HO HO0 HO1 HN
                refine q_start (by kernel_rfl) (by kernel_rfl) ?_
                refine q_on (v := ?_) (by rfl) ?_ ?_
                rotate_left
                · intro w' hC
                  obtain ⟨c0, c1, c2, c3⟩ := cells4 (B4.out.st hC)
                  go_simp
                  with_reducible rfl
                rotate_left
                refine q_norm (a' := ?_) ?_ ?_
                rotate_left
                · show Act.put _ (some 23) _ = _
                  simp only [Act.put, List.setIfInBounds_toArray, List.set_cons_zero, List.set_cons_succ]
                  rfl
                refine q_call (f := 137) Tryz.func137 (by kernel_rfl) rfl #[vlv v (.slice q1 v.data.length cp1)] (by rfl) rfl (by simp only [List.map_toArray, List.map_cons, List.map_nil]; rfl) _ (fun w' hC => q_of hC (M.out w' hC)) ?_
                refine q_norm (a' := ?_) ?_ ?_
                rotate_left
                · show Act.put _ (some 24) _ = _
                  simp only [Act.put, List.setIfInBounds_toArray, List.set_cons_zero, List.set_cons_succ]
                  rfl
                refine q_on (v := ?_) (by rfl) ?_ ?_
                rotate_left
                · intro w' hC
                  go_simp
                  with_reducible rfl
                rotate_left
                refine q_norm (a' := ?_) ?_ ?_
                rotate_left
                · show Act.put _ (some 25) _ = _
                  simp only [Act.put, List.setIfInBounds_toArray, List.set_cons_zero, List.set_cons_succ]
                  rfl
                refine q_on (v := ?_) (by rfl) ?_ ?_
                rotate_left
                · intro w' hC
                  go_simp
                  with_reducible rfl
                rotate_left
                refine q_norm (a' := ?_) ?_ ?_
                rotate_left
                · show Act.put _ (some 26) _ = _
                  simp only [Act.put, List.setIfInBounds_toArray, List.set_cons_zero, List.set_cons_succ]
                  rfl
                refine q_on (v := ?_) (by rfl) ?_ ?_
                rotate_left
                · intro w' hC
                  go_simp
                  with_reducible rfl
                rotate_left
                refine q_norm (a' := ?_) ?_ ?_
                rotate_left
                · show Act.put _ (some 27) _ = _
                  simp only [Act.put, List.setIfInBounds_toArray, List.set_cons_zero, List.set_cons_succ]
                  rfl
                refine q_on (v := ?_) (by rfl) ?_ ?_
                rotate_left
                · intro w' hC
                  obtain ⟨c0, c1, c2, c3, c4, c5, c6, c7, c8⟩ := cells9 (B1.out.st hC)
                  go_simp
                  with_reducible rfl
                rotate_left
                refine q_norm (a' := ?_) ?_ ?_
                rotate_left
                · show Act.put _ (some 28) _ = _
                  simp only [Act.put, List.setIfInBounds_toArray, List.set_cons_zero, List.set_cons_succ]
                  rfl
                refine q_on (v := ?_) (by rfl) ?_ ?_
                rotate_left
                · intro w' hC
                  go_simp
                  with_reducible rfl
                rotate_left
                refine q_norm (a' := ?_) ?_ ?_
                rotate_left
                · show Act.put _ (some 29) _ = _
                  simp only [Act.put, List.setIfInBounds_toArray, List.set_cons_zero, List.set_cons_succ]
                  rfl
                refine q_on (v := ?_) (by rfl) ?_ ?_
                rotate_left
                · intro w' hC
                  obtain ⟨c0, c1, c2, c3⟩ := cells4 (B4.out.st hC)
                  go_simp
                  with_reducible rfl
                rotate_left
                refine q_norm (a' := ?_) ?_ ?_
                rotate_left
                · show Act.put _ (some 30) _ = _
                  simp only [Act.put, List.setIfInBounds_toArray, List.set_cons_zero, List.set_cons_succ]
                  rfl
                refine q_call (f := 140) Tryz.func140 (by kernel_rfl) rfl #[vec s.seen, dot v.node v.n] (by rfl) rfl (by simp only [List.map_toArray, List.map_cons, List.map_nil]; rfl) _ (fun w' hC => q_of hC (KV.out w')) ?_
                refine q_norm (a' := ?_) ?_ ?_
                rotate_left
                · show Act.put _ (some 31) _ = _
                  simp only [Act.put, List.setIfInBounds_toArray, List.set_cons_zero, List.set_cons_succ]
                  rfl
                refine q_on (v := ?_) (by rfl) ?_ ?_
                rotate_left
                · intro w' hC
                  go_simp
                  with_reducible rfl
                rotate_left
                refine q_norm (a' := ?_) ?_ ?_
                rotate_left
                · show Act.put _ (some 32) _ = _
                  simp only [Act.put, List.setIfInBounds_toArray, List.set_cons_zero, List.set_cons_succ]
                  rfl
                refine q_on (v := ?_) (by rfl) ?_ ?_
                rotate_left
                · intro w' hC
                  go_simp
                  with_reducible rfl
                rotate_left
                refine q_norm (a' := ?_) ?_ ?_
                rotate_left
                · show Act.put _ (some 33) _ = _
                  simp only [Act.put, List.setIfInBounds_toArray, List.set_cons_zero, List.set_cons_succ]
                  rfl
                refine q_on (v := ?_) (by rfl) ?_ ?_
                rotate_left
                · intro w' hC
                  go_simp
                  with_reducible rfl
                rotate_left
                refine q_norm (a' := ?_) ?_ ?_
                rotate_left
                · show Act.put _ (some 34) _ = _
                  simp only [Act.put, List.setIfInBounds_toArray, List.set_cons_zero, List.set_cons_succ]
                  rfl
                refine q_on (v := ?_) (by rfl) ?_ ?_
                rotate_left
                · intro w' hC
                  go_simp
                  with_reducible rfl
                rotate_left
                refine q_norm (a' := ?_) ?_ ?_
                rotate_left
                · show Act.put _ (some 35) _ = _
                  simp only [Act.put, List.setIfInBounds_toArray, List.set_cons_zero, List.set_cons_succ]
                  rfl
                refine q_on (v := ?_) (by rfl) ?_ ?_
                rotate_left
                · intro w' hC
                  go_simp
                  with_reducible rfl
                rotate_left
                refine q_norm (a' := ?_) ?_ ?_
                rotate_left
                · show Act.put _ (some 36) _ = _
                  simp only [Act.put, List.setIfInBounds_toArray, List.set_cons_zero, List.set_cons_succ]
                  rfl
                refine q_on (v := ?_) (by rfl) ?_ ?_
                rotate_left
                · intro w' hC
                  go_simp
                  with_reducible rfl
                rotate_left
                refine q_norm (a' := ?_) ?_ ?_
                rotate_left
                · show Act.put _ (some 37) _ = _
                  simp only [Act.put, List.setIfInBounds_toArray, List.set_cons_zero, List.set_cons_succ]
                  rfl
                refine q_off (by rfl) ?_
                refine q_norm (a' := ?_) ?_ ?_
                rotate_left
                · show Act.put _ (some 38) _ = _
                  simp only [Act.put, List.setIfInBounds_toArray, List.set_cons_zero, List.set_cons_succ]
                  rfl
                refine q_off (by rfl) ?_
                refine q_norm (a' := ?_) ?_ ?_
                rotate_left
                · show Act.put _ (some 39) _ = _
                  simp only [Act.put, List.setIfInBounds_toArray, List.set_cons_zero, List.set_cons_succ]
                  rfl
                refine q_off (by rfl) ?_
                refine q_norm (a' := ?_) ?_ ?_
                rotate_left
                · show Act.put _ (some 40) _ = _
                  simp only [Act.put, List.setIfInBounds_toArray, List.set_cons_zero, List.set_cons_succ]
                  rfl
                refine q_off (by rfl) ?_
                refine q_norm (a' := ?_) ?_ ?_
                rotate_left
                · show Act.put _ (some 41) _ = _
                  simp only [Act.put, List.setIfInBounds_toArray, List.set_cons_zero, List.set_cons_succ]
                  rfl
                refine q_off (by rfl) ?_
                refine q_norm (a' := ?_) ?_ ?_
                rotate_left
                · show Act.put _ (some 42) _ = _
                  simp only [Act.put, List.setIfInBounds_toArray, List.set_cons_zero, List.set_cons_succ]
                  rfl
                refine q_off (by rfl) ?_
                refine q_norm (a' := ?_) ?_ ?_
                rotate_left
                · show Act.put _ (some 43) _ = _
                  simp only [Act.put, List.setIfInBounds_toArray, List.set_cons_zero, List.set_cons_succ]
                  rfl
                refine q_off (by rfl) ?_
                refine q_norm (a' := ?_) ?_ ?_
                rotate_left
                · show Act.put _ (some 44) _ = _
                  simp only [Act.put, List.setIfInBounds_toArray, List.set_cons_zero, List.set_cons_succ]
                  rfl
                refine q_off (by rfl) ?_
                refine q_norm (a' := ?_) ?_ ?_
                rotate_left
                · show Act.put _ (some 45) _ = _
                  simp only [Act.put, List.setIfInBounds_toArray, List.set_cons_zero, List.set_cons_succ]
                  rfl
                refine q_off (by rfl) ?_
                refine q_norm (a' := ?_) ?_ ?_
                rotate_left
                · show Act.put _ (some 46) _ = _
                  simp only [Act.put, List.setIfInBounds_toArray, List.set_cons_zero, List.set_cons_succ]
                  rfl
                refine q_off (by rfl) ?_
                refine q_norm (a' := ?_) ?_ ?_
                rotate_left
                · show Act.put _ (some 47) _ = _
                  simp only [Act.put, List.setIfInBounds_toArray, List.set_cons_zero, List.set_cons_succ]
                  rfl
                refine q_off (by rfl) ?_
                refine q_norm (a' := ?_) ?_ ?_
                rotate_left
                · show Act.put _ (some 48) _ = _
                  simp only [Act.put, List.setIfInBounds_toArray, List.set_cons_zero, List.set_cons_succ]
                  rfl
                refine q_on (v := ?_) (by rfl) ?_ ?_
                rotate_left
                · intro w' hC
                  go_simp
                  with_reducible rfl
                rotate_left
                refine q_norm (a' := ?_) ?_ ?_
                rotate_left
                · show Act.put _ (some 49) _ = _
                  simp only [Act.put, List.setIfInBounds_toArray, List.set_cons_zero, List.set_cons_succ]
                  rfl
                refine q_on (v := ?_) (by rfl) ?_ ?_
                rotate_left
                · intro w' hC
                  go_simp
                  with_reducible rfl
                rotate_left
                refine q_norm (a' := ?_) ?_ ?_
                rotate_left
                · show Act.put _ (some 50) _ = _
                  simp only [Act.put, List.setIfInBounds_toArray, List.set_cons_zero, List.set_cons_succ]
                  rfl
                refine wpQuiet_nil ?_
                intro w' hC
                go_wp2_with fail
                go_roundw
                case rel => exact ⟨0 + 1, hlen, by go_num, HR, HC4.out.trans hC⟩
                case measure => simp [intOf]; omega
              · obtain ⟨j, rfl⟩ : ∃ j, k = j + 1 := ⟨k - 1, by omega⟩
                have hj : j < s.vals.length := by omega
                have HO2 := Lib.hid (HO1.out j rfl)
                rw [hm, hcv] at HO2
                clear hm hcv HO HO0 HO1 HN
                obtain ⟨u, hu⟩ : ∃ u, s.vals[j] = u := ⟨_, rfl⟩
                rw [hu] at HO2
                have HU := Lib.hid hu
                clear hu
                obtain ⟨ls, hls⟩ : ∃ ls, less u.node u.n v.node v.n = ls := ⟨_, rfl⟩
                have KL := Lib.hid fun w' => hls ▸ less_any u.node u.n v.node v.n w'
                rw [hls] at HO2
                clear hls
                have hpos : decide (((j : Int) + 1) > 0) = true := decide_eq_true (by omega)
                have hwr : IntKind.i64.wrap (j : Int) = (j : Int) := by rw [IntKind.wrap_i64]; omega
                have hlj : (j : Int) < (s.vals.length : Int) := by omega
                cases ls with
                | false =>
                  have HR : Hid (maySb s = false) := Lib.hid (HF.out HO2.out)
                  clear HF HT HO2
                  refine q_start (by kernel_rfl) (by kernel_rfl) ?_
                  refine q_on (v := ?_) (by rfl) ?_ ?_
                  rotate_left
                  · intro w' hC
                    obtain ⟨c0, c1, c2, c3⟩ := cells4 (B4.out.st hC)
                    go_simp
                    with_reducible rfl
                  rotate_left
                  refine q_norm (a' := ?_) ?_ ?_
                  rotate_left
                  · show Act.put _ (some 23) _ = _
                    simp only [Act.put, List.setIfInBounds_toArray, List.set_cons_zero, List.set_cons_succ]
                    rfl
                  refine q_call (f := 137) Tryz.func137 (by kernel_rfl) rfl #[vlv v (.slice q1 v.data.length cp1)] (by rfl) rfl (by simp only [List.map_toArray, List.map_cons, List.map_nil]; rfl) _ (fun w' hC => q_of hC (M.out w' hC)) ?_
                  refine q_norm (a' := ?_) ?_ ?_
                  rotate_left
                  · show Act.put _ (some 24) _ = _
                    simp only [Act.put, List.setIfInBounds_toArray, List.set_cons_zero, List.set_cons_succ]
                    rfl
                  refine q_on (v := ?_) (by rfl) ?_ ?_
                  rotate_left
                  · intro w' hC
                    go_simp
                    with_reducible rfl
                  rotate_left
                  refine q_norm (a' := ?_) ?_ ?_
                  rotate_left
                  · show Act.put _ (some 25) _ = _
                    simp only [Act.put, List.setIfInBounds_toArray, List.set_cons_zero, List.set_cons_succ]
                    rfl
                  refine q_on (v := ?_) (by rfl) ?_ ?_
                  rotate_left
                  · intro w' hC
                    go_simp
                    with_reducible rfl
                  rotate_left
                  refine q_norm (a' := ?_) ?_ ?_
                  rotate_left
                  · show Act.put _ (some 26) _ = _
                    simp only [Act.put, List.setIfInBounds_toArray, List.set_cons_zero, List.set_cons_succ]
                    rfl
                  refine q_on (v := ?_) (by rfl) ?_ ?_
                  rotate_left
                  · intro w' hC
                    go_simp
                    with_reducible rfl
                  rotate_left
                  refine q_norm (a' := ?_) ?_ ?_
                  rotate_left
                  · show Act.put _ (some 27) _ = _
                    simp only [Act.put, List.setIfInBounds_toArray, List.set_cons_zero, List.set_cons_succ]
                    rfl
                  refine q_on (v := ?_) (by rfl) ?_ ?_
                  rotate_left
                  · intro w' hC
                    obtain ⟨c0, c1, c2, c3, c4, c5, c6, c7, c8⟩ := cells9 (B1.out.st hC)
                    go_simp
                    with_reducible rfl
                  rotate_left
                  refine q_norm (a' := ?_) ?_ ?_
                  rotate_left
                  · show Act.put _ (some 28) _ = _
                    simp only [Act.put, List.setIfInBounds_toArray, List.set_cons_zero, List.set_cons_succ]
                    rfl
                  refine q_on (v := ?_) (by rfl) ?_ ?_
                  rotate_left
                  · intro w' hC
                    go_simp
                    with_reducible rfl
                  rotate_left
                  refine q_norm (a' := ?_) ?_ ?_
                  rotate_left
                  · show Act.put _ (some 29) _ = _
                    simp only [Act.put, List.setIfInBounds_toArray, List.set_cons_zero, List.set_cons_succ]
                    rfl
                  refine q_on (v := ?_) (by rfl) ?_ ?_
                  rotate_left
                  · intro w' hC
                    obtain ⟨c0, c1, c2, c3⟩ := cells4 (B4.out.st hC)
                    go_simp
                    with_reducible rfl
                  rotate_left
                  refine q_norm (a' := ?_) ?_ ?_
                  rotate_left
                  · show Act.put _ (some 30) _ = _
                    simp only [Act.put, List.setIfInBounds_toArray, List.set_cons_zero, List.set_cons_succ]
                    rfl
                  refine q_call (f := 140) Tryz.func140 (by kernel_rfl) rfl #[vec s.seen, dot v.node v.n] (by rfl) rfl (by simp only [List.map_toArray, List.map_cons, List.map_nil]; rfl) _ (fun w' hC => q_of hC (KV.out w')) ?_
                  refine q_norm (a' := ?_) ?_ ?_
                  rotate_left
                  · show Act.put _ (some 31) _ = _
                    simp only [Act.put, List.setIfInBounds_toArray, List.set_cons_zero, List.set_cons_succ]
                    rfl
                  refine q_on (v := ?_) (by rfl) ?_ ?_
                  rotate_left
                  · intro w' hC
                    go_simp
                    with_reducible rfl
                  rotate_left
                  refine q_norm (a' := ?_) ?_ ?_
                  rotate_left
                  · show Act.put _ (some 32) _ = _
                    simp only [Act.put, List.setIfInBounds_toArray, List.set_cons_zero, List.set_cons_succ]
                    rfl
                  refine q_on (v := ?_) (by rfl) ?_ ?_
                  rotate_left
                  · intro w' hC
                    go_simp
                    with_reducible rfl
                  rotate_left
                  refine q_norm (a' := ?_) ?_ ?_
                  rotate_left
                  · show Act.put _ (some 33) _ = _
                    simp only [Act.put, List.setIfInBounds_toArray, List.set_cons_zero, List.set_cons_succ]
                    rfl
                  refine q_on (v := ?_) (by rfl) ?_ ?_
                  rotate_left
                  · intro w' hC
                    go_simp
                    with_reducible rfl
                  rotate_left
                  refine q_norm (a' := ?_) ?_ ?_
                  rotate_left
                  · show Act.put _ (some 34) _ = _
                    simp only [Act.put, List.setIfInBounds_toArray, List.set_cons_zero, List.set_cons_succ]
                    rfl
                  refine q_on (v := ?_) (by rfl) ?_ ?_
                  rotate_left
                  · intro w' hC
                    go_simp
                    with_reducible rfl
                  rotate_left
                  refine q_norm (a' := ?_) ?_ ?_
                  rotate_left
                  · show Act.put _ (some 35) _ = _
                    simp only [Act.put, List.setIfInBounds_toArray, List.set_cons_zero, List.set_cons_succ]
                    rfl
                  refine q_on (v := ?_) (by rfl) ?_ ?_
                  rotate_left
                  · intro w' hC
                    go_simp
                    with_reducible rfl
                  rotate_left
                  refine q_norm (a' := ?_) ?_ ?_
                  rotate_left
                  · show Act.put _ (some 36) _ = _
                    simp only [Act.put, List.setIfInBounds_toArray, List.set_cons_zero, List.set_cons_succ]
                    rfl
                  refine q_on (v := ?_) (by rfl) ?_ ?_
                  rotate_left
                  · intro w' hC
                    go_simp
                    with_reducible rfl
                  rotate_left
                  refine q_norm (a' := ?_) ?_ ?_
                  rotate_left
                  · show Act.put _ (some 37) _ = _
                    simp only [Act.put, List.setIfInBounds_toArray, List.set_cons_zero, List.set_cons_succ]
                    rfl
                  refine q_on (v := ?_) (by rfl) ?_ ?_
                  rotate_left
                  · intro w' hC
                    go_simp
                    with_reducible rfl
                  rotate_left
                  refine q_norm (a' := ?_) ?_ ?_
                  rotate_left
                  · show Act.put _ (some 38) _ = _
                    simp only [Act.put, List.setIfInBounds_toArray, List.set_cons_zero, List.set_cons_succ]
                    rfl
                  refine q_on (v := ?_) (by rfl) ?_ ?_
                  rotate_left
                  · intro w' hC
                    obtain ⟨c0, c1, c2, c3, c4, c5, c6, c7, c8⟩ := cells9 (B1.out.st hC)
                    go_simp
                    with_reducible rfl
                  rotate_left
                  refine q_norm (a' := ?_) ?_ ?_
                  rotate_left
                  · show Act.put _ (some 39) _ = _
                    simp only [Act.put, List.setIfInBounds_toArray, List.set_cons_zero, List.set_cons_succ]
                    rfl
                  refine q_on (v := ?_) (by rfl) ?_ ?_
                  rotate_left
                  · intro w' hC
                    go_simp
                    with_reducible rfl
                  rotate_left
                  refine q_norm (a' := ?_) ?_ ?_
                  rotate_left
                  · show Act.put _ (some 40) _ = _
                    simp only [Act.put, List.setIfInBounds_toArray, List.set_cons_zero, List.set_cons_succ]
                    rfl
                  refine q_on (v := ?_) (by rfl) ?_ ?_
                  rotate_left
                  · intro w' hC
                    go_simp
                    with_reducible rfl
                  rotate_left
                  refine q_norm (a' := ?_) ?_ ?_
                  rotate_left
                  · show Act.put _ (some 41) _ = _
                    simp only [Act.put, List.setIfInBounds_toArray, List.set_cons_zero, List.set_cons_succ]
                    rfl
                  refine q_on (v := ?_) (by rfl) ?_ ?_
                  rotate_left
                  · intro w' hC
                    go_simp
                    with_reducible rfl
                  rotate_left
                  refine q_norm (a' := ?_) ?_ ?_
                  rotate_left
                  · show Act.put _ (some 42) _ = _
                    simp only [Act.put, List.setIfInBounds_toArray, List.set_cons_zero, List.set_cons_succ]
                    rfl
                  refine q_on (v := ?_) (by rfl) ?_ ?_
                  rotate_left
                  · intro w' hC
                    go_simp
                    with_reducible rfl
                  rotate_left
                  refine q_norm (a' := ?_) ?_ ?_
                  rotate_left
                  · show Act.put _ (some 43) _ = _
                    simp only [Act.put, List.setIfInBounds_toArray, List.set_cons_zero, List.set_cons_succ]
                    rfl
                  refine q_on (v := ?_) (by rfl) ?_ ?_
                  rotate_left
                  · intro w' hC
                    obtain ⟨_, _, _, c0, c1, _⟩ := vls_at (HP.out.st hC) hj
                    rw [HU.out] at c0 c1
                    go_simp
                    with_reducible rfl
                  rotate_left
                  refine q_norm (a' := ?_) ?_ ?_
                  rotate_left
                  · show Act.put _ (some 44) _ = _
                    simp only [Act.put, List.setIfInBounds_toArray, List.set_cons_zero, List.set_cons_succ]
                    rfl
                  refine q_on (v := ?_) (by rfl) ?_ ?_
                  rotate_left
                  · intro w' hC
                    go_simp
                    with_reducible rfl
                  rotate_left
                  refine q_norm (a' := ?_) ?_ ?_
                  rotate_left
                  · show Act.put _ (some 45) _ = _
                    simp only [Act.put, List.setIfInBounds_toArray, List.set_cons_zero, List.set_cons_succ]
                    rfl
                  refine q_on (v := ?_) (by rfl) ?_ ?_
                  rotate_left
                  · intro w' hC
                    obtain ⟨c0, c1, c2, c3⟩ := cells4 (B4.out.st hC)
                    go_simp
                    with_reducible rfl
                  rotate_left
                  refine q_norm (a' := ?_) ?_ ?_
                  rotate_left
                  · show Act.put _ (some 46) _ = _
                    simp only [Act.put, List.setIfInBounds_toArray, List.set_cons_zero, List.set_cons_succ]
                    rfl
                  refine q_call (f := 180) Tryz.func180 (by kernel_rfl) rfl #[dot u.node u.n, dot v.node v.n] (by rfl) rfl (by simp only [List.map_toArray, List.map_cons, List.map_nil]; rfl) _ (fun w' hC => q_of hC (KL.out w')) ?_
                  refine q_norm (a' := ?_) ?_ ?_
                  rotate_left
                  · show Act.put _ (some 47) _ = _
                    simp only [Act.put, List.setIfInBounds_toArray, List.set_cons_zero, List.set_cons_succ]
                    rfl
                  refine q_on (v := ?_) (by rfl) ?_ ?_
                  rotate_left
                  · intro w' hC
                    go_simp
                    with_reducible rfl
                  rotate_left
                  refine q_norm (a' := ?_) ?_ ?_
                  rotate_left
                  · show Act.put _ (some 48) _ = _
                    simp only [Act.put, List.setIfInBounds_toArray, List.set_cons_zero, List.set_cons_succ]
                    rfl
                  refine q_on (v := ?_) (by rfl) ?_ ?_
                  rotate_left
                  · intro w' hC
                    go_simp
                    with_reducible rfl
                  rotate_left
                  refine q_norm (a' := ?_) ?_ ?_
                  rotate_left
                  · show Act.put _ (some 49) _ = _
                    simp only [Act.put, List.setIfInBounds_toArray, List.set_cons_zero, List.set_cons_succ]
                    rfl
                  refine q_on (v := ?_) (by rfl) ?_ ?_
                  rotate_left
                  · intro w' hC
                    go_simp
                    with_reducible rfl
                  rotate_left
                  refine q_norm (a' := ?_) ?_ ?_
                  rotate_left
                  · show Act.put _ (some 50) _ = _
                    simp only [Act.put, List.setIfInBounds_toArray, List.set_cons_zero, List.set_cons_succ]
                    rfl
                  refine wpQuiet_nil ?_
                  intro w' hC
                  go_wp2_with fail
                  go_ret
                  exact ⟨ret_b HR.out.symm, HCC.out.trans hC⟩
                | true =>
                  have HR := Lib.hid (HT.out HO2.out)
                  clear HF HT HO2
                  refine q_start (by kernel_rfl) (by kernel_rfl) ?_
                  refine q_on (v := ?_) (by rfl) ?_ ?_
                  rotate_left
                  · intro w' hC
                    obtain ⟨c0, c1, c2, c3⟩ := cells4 (B4.out.st hC)
                    go_simp
                    with_reducible rfl
                  rotate_left
                  refine q_norm (a' := ?_) ?_ ?_
                  rotate_left
                  · show Act.put _ (some 23) _ = _
                    simp only [Act.put, List.setIfInBounds_toArray, List.set_cons_zero, List.set_cons_succ]
                    rfl
                  refine q_call (f := 137) Tryz.func137 (by kernel_rfl) rfl #[vlv v (.slice q1 v.data.length cp1)] (by rfl) rfl (by simp only [List.map_toArray, List.map_cons, List.map_nil]; rfl) _ (fun w' hC => q_of hC (M.out w' hC)) ?_
                  refine q_norm (a' := ?_) ?_ ?_
                  rotate_left
                  · show Act.put _ (some 24) _ = _
                    simp only [Act.put, List.setIfInBounds_toArray, List.set_cons_zero, List.set_cons_succ]
                    rfl
                  refine q_on (v := ?_) (by rfl) ?_ ?_
                  rotate_left
                  · intro w' hC
                    go_simp
                    with_reducible rfl
                  rotate_left
                  refine q_norm (a' := ?_) ?_ ?_
                  rotate_left
                  · show Act.put _ (some 25) _ = _
                    simp only [Act.put, List.setIfInBounds_toArray, List.set_cons_zero, List.set_cons_succ]
                    rfl
                  refine q_on (v := ?_) (by rfl) ?_ ?_
                  rotate_left
                  · intro w' hC
                    go_simp
                    with_reducible rfl
                  rotate_left
                  refine q_norm (a' := ?_) ?_ ?_
                  rotate_left
                  · show Act.put _ (some 26) _ = _
                    simp only [Act.put, List.setIfInBounds_toArray, List.set_cons_zero, List.set_cons_succ]
                    rfl
                  refine q_on (v := ?_) (by rfl) ?_ ?_
                  rotate_left
                  · intro w' hC
                    go_simp
                    with_reducible rfl
                  rotate_left
                  refine q_norm (a' := ?_) ?_ ?_
                  rotate_left
                  · show Act.put _ (some 27) _ = _
                    simp only [Act.put, List.setIfInBounds_toArray, List.set_cons_zero, List.set_cons_succ]
                    rfl
                  refine q_on (v := ?_) (by rfl) ?_ ?_
                  rotate_left
                  · intro w' hC
                    obtain ⟨c0, c1, c2, c3, c4, c5, c6, c7, c8⟩ := cells9 (B1.out.st hC)
                    go_simp
                    with_reducible rfl
                  rotate_left
                  refine q_norm (a' := ?_) ?_ ?_
                  rotate_left
                  · show Act.put _ (some 28) _ = _
                    simp only [Act.put, List.setIfInBounds_toArray, List.set_cons_zero, List.set_cons_succ]
                    rfl
                  refine q_on (v := ?_) (by rfl) ?_ ?_
                  rotate_left
                  · intro w' hC
                    go_simp
                    with_reducible rfl
                  rotate_left
                  refine q_norm (a' := ?_) ?_ ?_
                  rotate_left
                  · show Act.put _ (some 29) _ = _
                    simp only [Act.put, List.setIfInBounds_toArray, List.set_cons_zero, List.set_cons_succ]
                    rfl
                  refine q_on (v := ?_) (by rfl) ?_ ?_
                  rotate_left
                  · intro w' hC
                    obtain ⟨c0, c1, c2, c3⟩ := cells4 (B4.out.st hC)
                    go_simp
                    with_reducible rfl
                  rotate_left
                  refine q_norm (a' := ?_) ?_ ?_
                  rotate_left
                  · show Act.put _ (some 30) _ = _
                    simp only [Act.put, List.setIfInBounds_toArray, List.set_cons_zero, List.set_cons_succ]
                    rfl
                  refine q_call (f := 140) Tryz.func140 (by kernel_rfl) rfl #[vec s.seen, dot v.node v.n] (by rfl) rfl (by simp only [List.map_toArray, List.map_cons, List.map_nil]; rfl) _ (fun w' hC => q_of hC (KV.out w')) ?_
                  refine q_norm (a' := ?_) ?_ ?_
                  rotate_left
                  · show Act.put _ (some 31) _ = _
                    simp only [Act.put, List.setIfInBounds_toArray, List.set_cons_zero, List.set_cons_succ]
                    rfl
                  refine q_on (v := ?_) (by rfl) ?_ ?_
                  rotate_left
                  · intro w' hC
                    go_simp
                    with_reducible rfl
                  rotate_left
                  refine q_norm (a' := ?_) ?_ ?_
                  rotate_left
                  · show Act.put _ (some 32) _ = _
                    simp only [Act.put, List.setIfInBounds_toArray, List.set_cons_zero, List.set_cons_succ]
                    rfl
                  refine q_on (v := ?_) (by rfl) ?_ ?_
                  rotate_left
                  · intro w' hC
                    go_simp
                    with_reducible rfl
                  rotate_left
                  refine q_norm (a' := ?_) ?_ ?_
                  rotate_left
                  · show Act.put _ (some 33) _ = _
                    simp only [Act.put, List.setIfInBounds_toArray, List.set_cons_zero, List.set_cons_succ]
                    rfl
                  refine q_on (v := ?_) (by rfl) ?_ ?_
                  rotate_left
                  · intro w' hC
                    go_simp
                    with_reducible rfl
                  rotate_left
                  refine q_norm (a' := ?_) ?_ ?_
                  rotate_left
                  · show Act.put _ (some 34) _ = _
                    simp only [Act.put, List.setIfInBounds_toArray, List.set_cons_zero, List.set_cons_succ]
                    rfl
                  refine q_on (v := ?_) (by rfl) ?_ ?_
                  rotate_left
                  · intro w' hC
                    go_simp
                    with_reducible rfl
                  rotate_left
                  refine q_norm (a' := ?_) ?_ ?_
                  rotate_left
                  · show Act.put _ (some 35) _ = _
                    simp only [Act.put, List.setIfInBounds_toArray, List.set_cons_zero, List.set_cons_succ]
                    rfl
                  refine q_on (v := ?_) (by rfl) ?_ ?_
                  rotate_left
                  · intro w' hC
                    go_simp
                    with_reducible rfl
                  rotate_left
                  refine q_norm (a' := ?_) ?_ ?_
                  rotate_left
                  · show Act.put _ (some 36) _ = _
                    simp only [Act.put, List.setIfInBounds_toArray, List.set_cons_zero, List.set_cons_succ]
                    rfl
                  refine q_on (v := ?_) (by rfl) ?_ ?_
                  rotate_left
                  · intro w' hC
                    go_simp
                    with_reducible rfl
                  rotate_left
                  refine q_norm (a' := ?_) ?_ ?_
                  rotate_left
                  · show Act.put _ (some 37) _ = _
                    simp only [Act.put, List.setIfInBounds_toArray, List.set_cons_zero, List.set_cons_succ]
                    rfl
                  refine q_on (v := ?_) (by rfl) ?_ ?_
                  rotate_left
                  · intro w' hC
                    go_simp
                    with_reducible rfl
                  rotate_left
                  refine q_norm (a' := ?_) ?_ ?_
                  rotate_left
                  · show Act.put _ (some 38) _ = _
                    simp only [Act.put, List.setIfInBounds_toArray, List.set_cons_zero, List.set_cons_succ]
                    rfl
                  refine q_on (v := ?_) (by rfl) ?_ ?_
                  rotate_left
                  · intro w' hC
                    obtain ⟨c0, c1, c2, c3, c4, c5, c6, c7, c8⟩ := cells9 (B1.out.st hC)
                    go_simp
                    with_reducible rfl
                  rotate_left
                  refine q_norm (a' := ?_) ?_ ?_
                  rotate_left
                  · show Act.put _ (some 39) _ = _
                    simp only [Act.put, List.setIfInBounds_toArray, List.set_cons_zero, List.set_cons_succ]
                    rfl
                  refine q_on (v := ?_) (by rfl) ?_ ?_
                  rotate_left
                  · intro w' hC
                    go_simp
                    with_reducible rfl
                  rotate_left
                  refine q_norm (a' := ?_) ?_ ?_
                  rotate_left
                  · show Act.put _ (some 40) _ = _
                    simp only [Act.put, List.setIfInBounds_toArray, List.set_cons_zero, List.set_cons_succ]
                    rfl
                  refine q_on (v := ?_) (by rfl) ?_ ?_
                  rotate_left
                  · intro w' hC
                    go_simp
                    with_reducible rfl
                  rotate_left
                  refine q_norm (a' := ?_) ?_ ?_
                  rotate_left
                  · show Act.put _ (some 41) _ = _
                    simp only [Act.put, List.setIfInBounds_toArray, List.set_cons_zero, List.set_cons_succ]
                    rfl
                  refine q_on (v := ?_) (by rfl) ?_ ?_
                  rotate_left
                  · intro w' hC
                    go_simp
                    with_reducible rfl
                  rotate_left
                  refine q_norm (a' := ?_) ?_ ?_
                  rotate_left
                  · show Act.put _ (some 42) _ = _
                    simp only [Act.put, List.setIfInBounds_toArray, List.set_cons_zero, List.set_cons_succ]
                    rfl
                  refine q_on (v := ?_) (by rfl) ?_ ?_
                  rotate_left
                  · intro w' hC
                    go_simp
                    with_reducible rfl
                  rotate_left
                  refine q_norm (a' := ?_) ?_ ?_
                  rotate_left
                  · show Act.put _ (some 43) _ = _
                    simp only [Act.put, List.setIfInBounds_toArray, List.set_cons_zero, List.set_cons_succ]
                    rfl
                  refine q_on (v := ?_) (by rfl) ?_ ?_
                  rotate_left
                  · intro w' hC
                    obtain ⟨_, _, _, c0, c1, _⟩ := vls_at (HP.out.st hC) hj
                    rw [HU.out] at c0 c1
                    go_simp
                    with_reducible rfl
                  rotate_left
                  refine q_norm (a' := ?_) ?_ ?_
                  rotate_left
                  · show Act.put _ (some 44) _ = _
                    simp only [Act.put, List.setIfInBounds_toArray, List.set_cons_zero, List.set_cons_succ]
                    rfl
                  refine q_on (v := ?_) (by rfl) ?_ ?_
                  rotate_left
                  · intro w' hC
                    go_simp
                    with_reducible rfl
                  rotate_left
                  refine q_norm (a' := ?_) ?_ ?_
                  rotate_left
                  · show Act.put _ (some 45) _ = _
                    simp only [Act.put, List.setIfInBounds_toArray, List.set_cons_zero, List.set_cons_succ]
                    rfl
                  refine q_on (v := ?_) (by rfl) ?_ ?_
                  rotate_left
                  · intro w' hC
                    obtain ⟨c0, c1, c2, c3⟩ := cells4 (B4.out.st hC)
                    go_simp
                    with_reducible rfl
                  rotate_left
                  refine q_norm (a' := ?_) ?_ ?_
                  rotate_left
                  · show Act.put _ (some 46) _ = _
                    simp only [Act.put, List.setIfInBounds_toArray, List.set_cons_zero, List.set_cons_succ]
                    rfl
                  refine q_call (f := 180) Tryz.func180 (by kernel_rfl) rfl #[dot u.node u.n, dot v.node v.n] (by rfl) rfl (by simp only [List.map_toArray, List.map_cons, List.map_nil]; rfl) _ (fun w' hC => q_of hC (KL.out w')) ?_
                  refine q_norm (a' := ?_) ?_ ?_
                  rotate_left
                  · show Act.put _ (some 47) _ = _
                    simp only [Act.put, List.setIfInBounds_toArray, List.set_cons_zero, List.set_cons_succ]
                    rfl
                  refine q_on (v := ?_) (by rfl) ?_ ?_
                  rotate_left
                  · intro w' hC
                    go_simp
                    with_reducible rfl
                  rotate_left
                  refine q_norm (a' := ?_) ?_ ?_
                  rotate_left
                  · show Act.put _ (some 48) _ = _
                    simp only [Act.put, List.setIfInBounds_toArray, List.set_cons_zero, List.set_cons_succ]
                    rfl
                  refine q_on (v := ?_) (by rfl) ?_ ?_
                  rotate_left
                  · intro w' hC
                    go_simp
                    with_reducible rfl
                  rotate_left
                  refine q_norm (a' := ?_) ?_ ?_
                  rotate_left
                  · show Act.put _ (some 49) _ = _
                    simp only [Act.put, List.setIfInBounds_toArray, List.set_cons_zero, List.set_cons_succ]
                    rfl
                  refine q_on (v := ?_) (by rfl) ?_ ?_
                  rotate_left
                  · intro w' hC
                    go_simp
                    with_reducible rfl
                  rotate_left
                  refine q_norm (a' := ?_) ?_ ?_
                  rotate_left
                  · show Act.put _ (some 50) _ = _
                    simp only [Act.put, List.setIfInBounds_toArray, List.set_cons_zero, List.set_cons_succ]
                    rfl
                  refine wpQuiet_nil ?_
                  intro w' hC
                  go_wp2_with fail
                  go_roundw
                  case rel => exact ⟨j + 1 + 1, hlen, by go_num, HR, HC4.out.trans hC⟩
                  case measure => simp [intOf]; omega
        · obtain rfl : k = s.vals.length := by omega
          have hR := Lib.hid (maySb_yes HX.out hY.out HN.out)
          go_wp2_with fail
          go_ret
          exact ⟨ret_b hR.out.symm, hC⟩
end Go.Proofs.YtoefffjhjmjhfaaGreat
