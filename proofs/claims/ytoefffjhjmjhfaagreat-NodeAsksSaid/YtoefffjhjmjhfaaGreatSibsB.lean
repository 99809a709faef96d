/- Contracts of package sibs, second part: of two values, of one among many. No statement is proved here. -/
import Derived.Test.YtoefffjhjmjhfaaGreatSibs
import Derived.Test.YtoefffjhjmjhfaaGreatPkBytes
import Derived.Lib.Bytealg
import Derived.Laws.BytesArg
namespace Go.Proofs.YtoefffjhjmjhfaaGreat
open Go.RowKit Go.Proofs.YtoefffjhjmjhfaaGreatW.PrintLast
attribute [local go_sem] max2_mx max_two_ min2_mn min_two_

theorem bytesEqual_any {w : World} {A B : Nat → Prop} {l m : List UInt8} {d e : Value} (hd : Rd w A (bD l) d) (he : Rd w B (bD m) e) : Calls Tryz.prog 120 #[d, e] w fun x w' => x = .returned (.bool (l == m)) ∧ w' = w := by
  have h := Tryz.bytes_Equal d e (nums l) (nums m) w (conv_bytes hd) (conv_bytes he)
  rw [bytesOf_nums, bytesOf_nums] at h
  exact h
theorem run_loadBytes {P : Program} {w : World} : ∀ (l : List UInt8) (b off : Nat) (acc : ByteArray), (∀ i (h : i < l.length), w.cell? ⟨b, off + i, none⟩ = some (.int .u8 l[i].toNat)) → (Extern.Bytes.loadBytes ⟨b, off, none⟩ l.length acc).run P w = .ok ⟨(acc.data.toList ++ l).toArray⟩ w
  | [], _, _, acc, _ => by simp [Extern.Bytes.loadBytes]
  | c :: l, b, off, acc, h => by
    have h0 := h 0 (by simp)
    have ih := run_loadBytes (P := P) l b (off + 1) (acc.push c) (fun i hi => by
      have := h (i + 1) (by simpa using hi)
      rw [show off + 1 + i = off + (i + 1) by omega]
      simpa using this)
    simp only [List.length_cons, Extern.Bytes.loadBytes]
    rw [Sem.run_bind]
    have hl : (load (⟨b, off, none⟩ : Addr)).run P w = .ok (.int .u8 c.toNat) w := by
      simp [load, Sem.run, show w.cell? ⟨b, off, none⟩ = _ from h0]
    rw [hl]
    simp only [Result.andThen]
    have ha : (⟨b, off, none⟩ : Addr).add 1 = ⟨b, off + 1, none⟩ := rfl
    rw [ha, show (c.toNat : Int).toNat.toUInt8 = c by simp, ih]
    congr 2
    simp
theorem run_bytesOf {w : World} {A : Nat → Prop} {l : List UInt8} {d : Value} (hd : Rd w A (bD l) d) : (Extern.Bytes.bytesOf d).run Tryz.prog w = .ok ⟨l.toArray⟩ w := by
  obtain ⟨p, cap, rfl, h1, h2, h3, h4, h5⟩ := bytes_form hd
  rcases h3 with ⟨rfl, rfl⟩ | ⟨b, off, rfl⟩ | ⟨a, rfl, h0⟩
  · have e : l = [] := List.length_eq_zero_iff.1 (by omega)
    subst e
    rfl
  · exact (run_loadBytes l b off .empty (h5 b off rfl)).trans (by simp)
  · have e : l = [] := List.length_eq_zero_iff.1 h0
    subst e
    rfl
theorem run_cmpBytes {w : World} {A B : Nat → Prop} {l m : List UInt8} {d e : Value} (hd : Rd w A (bD l) d) (he : Rd w B (bD m) e) : (callFunc 281 #[d, e]).run Tryz.prog w = .ok (.value (.int .i64 (Lib.compareBytes l m))) w := by
  rw [run_callFunc_extern Tryz.func281 (by kernel_rfl) (by kernel_rfl) (by kernel_rfl) (show Extern.find _ = some Extern.BytealgCompare.compare by kernel_rfl)]
  have : (Extern.BytealgCompare.compare #[d, e]).run Tryz.prog w = .ok (.int .i64 (Lib.compareBytes l m)) w := by
    change Sem.run Tryz.prog (do pure (goInt (Extern.BytealgCompare.cmp (← Extern.Bytes.bytesOf d) (← Extern.Bytes.bytesOf e)))) w = _
    simp only [Sem.run_bind, run_bytesOf hd, run_bytesOf he, Sem.run_pure, Result.andThen]
    rw [Lib.cmp_eq]
    rfl
  rw [this]
  rfl
theorem bytesCompare_any {w : World} {A B : Nat → Prop} {l m : List UInt8} {d e : Value} (hd : Rd w A (bD l) d) (he : Rd w B (bD m) e) : Calls Tryz.prog 247 #[d, e] w fun x w' => x = .returned (.int .i64 (Lib.compareBytes l m)) ∧ w' = w := by
  have h := run_cmpBytes hd he
  clear hd he
  go_enter Tryz.func247, Tryz.ntmps247
  go_wp2
  go_ret
  exact ⟨rfl, rfl⟩
/-- Which of a dot's two values counts: the other one. -/
def betB (a b : Vl) : Bool := if a.dead != b.dead then a.dead else decide (Lib.compareBytes b.data a.data < 0)
def better (a b : Vl) : Vl := if betB a b then b else a
theorem better_any {w : World} {A B : Nat → Prop} (a b : Vl) (d f : Value) (hd : Rd w A (bD a.data) d) (hf : Rd w B (bD b.data) f) :
    Calls Tryz.prog 196 #[vlv a d, vlv b f] w fun e w' => e = .returned (bif betB a b then vlv b f else vlv a d) ∧ Chg NoB w w' := by
  obtain ⟨p1, c1, rfl, _⟩ := bytes_form hd
  obtain ⟨p2, c2, rfl, _⟩ := bytes_form hf
  obtain ⟨an, ax, ad, add⟩ := a
  obtain ⟨bn, bx, bd, bdd⟩ := b
  simp only at *
  obtain ⟨x, hx⟩ : ∃ x, decide (Lib.compareBytes bd ad < 0) = x := ⟨_, rfl⟩
  obtain ⟨r, hr⟩ : ∃ r, betB ⟨an, ax, ad, add⟩ ⟨bn, bx, bd, bdd⟩ = r := ⟨_, rfl⟩
  have key : (add = bdd ∧ r = x) ∨ (add = true ∧ bdd = false ∧ r = true) ∨ (add = false ∧ bdd = true ∧ r = false) := by
    unfold betB at hr
    simp only [hx] at hr
    cases add <;> cases bdd <;> simp_all
  rw [hr]
  clear hr
  have B1 := ((Blk.new w 222 (vlc ⟨an, ax, ad, add⟩ (.slice p1 ad.length c1))).alloc (.cells (vlc ⟨bn, bx, bd, bdd⟩ (.slice p2 bd.length c2)) 222)).alloc (.cells vz 222)
  have B2 := (Blk.new_ (k := w.heap.size + 1) (w.alloc (.cells (vlc ⟨an, ax, ad, add⟩ (.slice p1 ad.length c1)) 222)) 222 (vlc ⟨bn, bx, bd, bdd⟩ (.slice p2 bd.length c2)) (by simp)).alloc (.cells vz 222)
  have B3 := Blk.new_ (k := w.heap.size + 2) ((w.alloc (.cells (vlc ⟨an, ax, ad, add⟩ (.slice p1 ad.length c1)) 222)).alloc (.cells (vlc ⟨bn, bx, bd, bdd⟩ (.slice p2 bd.length c2)) 222)) 222 vz (by simp)
  have hC := (((Chg.refl NoB w).alloc (.cells (vlc ⟨an, ax, ad, add⟩ (.slice p1 ad.length c1)) 222)).alloc (.cells (vlc ⟨bn, bx, bd, bdd⟩ (.slice p2 bd.length c2)) 222)).alloc (.cells vz 222)
  have hz : w.heap.size + 3 ≤ (((w.alloc (.cells (vlc ⟨an, ax, ad, add⟩ (.slice p1 ad.length c1)) 222)).alloc (.cells (vlc ⟨bn, bx, bd, bdd⟩ (.slice p2 bd.length c2)) 222)).alloc (.cells vz 222)).heap.size := by simp
  replace hd := hd.st hC
  replace hf := hf.st hC
  have HXx := Lib.hid hx
  clear hx
  rcases key with ⟨rfl, rfl⟩ | ⟨rfl, rfl, rfl⟩ | ⟨rfl, rfl, rfl⟩
  all_goals
    go_enter Tryz.func196, Tryz.ntmps196
    go_upto_block 0 with fail
    generalize ((w.alloc (Obj.cells _ 222)).alloc (Obj.cells _ 222)).alloc (Obj.cells _ 222) = W at *
    obtain ⟨c0, c1, c2, c3⟩ := cells4 B1
    obtain ⟨d0, d1, d2, d3⟩ := cells4 B2
    obtain ⟨e0, e1, e2, e3⟩ := cells4 B3
    obtain ⟨g0, g1, g2, g3⟩ := frz4 B3
  · have hne : (add != add) = false := by simp
    go_wp2_with fail
    refine (bytesCompare_any hf hd).mono ?_
    rintro e w1 ⟨rfl, rfl⟩
    cases r with
    | true =>
      have hx := HXx.out
      go_wp2_with fail
      exact back_row rfl rfl (set4 B3 _ _ _ _) Tryz.underlying222 rfl infV rfl ⟨rfl, chg4 hC (by omega) _ _ _ _⟩
    | false =>
      have hx := HXx.out
      go_wp2_with fail
      exact back_row rfl rfl (set4 B3 _ _ _ _) Tryz.underlying222 rfl infV rfl ⟨rfl, chg4 hC (by omega) _ _ _ _⟩
  · go_wp2_with fail
    exact back_row rfl rfl (set4 B3 _ _ _ _) Tryz.underlying222 rfl infV rfl ⟨rfl, chg4 hC (by omega) _ _ _ _⟩
  · go_wp2_with fail
    exact back_row rfl rfl (set4 B3 _ _ _ _) Tryz.underlying222 rfl infV rfl ⟨rfl, chg4 hC (by omega) _ _ _ _⟩
theorem vl_eq {a b : Vl} : decide (a = b) = ((a.node == b.node) && ((a.n == b.n) && ((a.dead == b.dead) && (a.data == b.data)))) := by
  obtain ⟨an, ax, ad, add⟩ := a
  obtain ⟨bn, bx, bd, bdd⟩ := b
  rw [Bool.eq_iff_iff]
  simp only [decide_eq_true_eq, Vl.mk.injEq, Bool.and_eq_true, beq_iff_eq]
  exact ⟨fun ⟨h1, h2, h3, h4⟩ => ⟨h1, h2, h4, h3⟩, fun ⟨h1, h2, h3, h4⟩ => ⟨h1, h2, h4, h3⟩⟩
theorem same1_any {w : World} {A B : Nat → Prop} (a b : Vl) (d f : Value) (hd : Rd w A (bD a.data) d) (hf : Rd w B (bD b.data) f) :
    Calls Tryz.prog 119 #[vlv a d, vlv b f] w fun e w' => e = .returned (.bool (decide (a = b))) ∧ Chg NoB w w' := by
  obtain ⟨p1, c1, rfl, _⟩ := bytes_form hd
  obtain ⟨p2, c2, rfl, _⟩ := bytes_form hf
  rw [vl_eq]
  obtain ⟨an, ax, ad, add⟩ := a
  obtain ⟨bn, bx, bd, bdd⟩ := b
  simp only at *
  have hC := (Chg.al w (.cells (vlc ⟨an, ax, ad, add⟩ (.slice p1 ad.length c1)) 222)).trans (Chg.al _ (.cells (vlc ⟨bn, bx, bd, bdd⟩ (.slice p2 bd.length c2)) 222))
  have HD := Lib.hid (hd.st hC)
  have HF := Lib.hid (hf.st hC)
  have HC := Lib.hid hC
  clear hd hf hC
  go_enter Tryz.func119, Tryz.ntmps119
  obtain ⟨b1, h1⟩ : ∃ x, (an == bn) = x := ⟨_, rfl⟩
  obtain ⟨b2, h2⟩ : ∃ x, (ax == bx) = x := ⟨_, rfl⟩
  rw [h1, h2]
  cases b1 <;> cases b2 <;> cases add <;> cases bdd
  all_goals go_wp2_with fail
  all_goals
    first
    | (go_ret; exact ⟨rfl, HC.out⟩)
    | (refine (bytesEqual_any HD.out HF.out).mono ?_
       rintro e w1 ⟨rfl, rfl⟩
       go_wp2_with fail
       go_ret
       exact ⟨rfl, HC.out⟩)
def hasDot (n x : Int) (v : Vl) : Bool := v.node == n && v.n == x
def findV (l : List Vl) (n x : Int) : Option Vl := l.find? (hasDot n x)
/-- What a search for a dot's value comes to. -/
structure FindR (w : World) (A : Nat → Prop) (l : List Vl) (n x : Int) (e : Ending) (w' : World) : Prop where
  ex : (∃ v d, findV l n x = some v ∧ e = .returned (.tuple #[vlv v d, .bool true]) ∧ Rd w' A (bD v.data) d) ∨ (findV l n x = none ∧ e = .returned (.tuple #[.agg vz, .bool false]))
  chg : Chg NoB w w'
theorem find_take_none {l : List Vl} {p : Vl → Bool} {k : Nat} (h : (l.take k).find? p = none) (hk : k < l.length) (hp : p l[k] = false) : (l.take (k + 1)).find? p = none := by
  rw [List.take_succ_eq_append_getElem hk, List.find?_append, h]
  simp [hp]
theorem find_at {l : List Vl} {p : Vl → Bool} {k : Nat} (h : (l.take k).find? p = none) (hk : k < l.length) (hp : p l[k] = true) : l.find? p = some l[k] := by
  have e : l.find? p = (l.take k ++ l[k] :: l.drop (k + 1)).find? p := by rw [List.getElem_cons_drop, List.take_append_drop]
  rw [e, List.find?_append, h, List.find?_cons, hp]
  rfl
abbrev dotv (n x : Int) : Value := .agg #[.int .i64 n, .int .i64 x]
set_option maxRecDepth 100000 in
set_option maxHeartbeats 1000000 in
theorem find_any {w : World} {A : Nat → Prop} (s : Sb) (p : Value) (n x : Int) (hp : Rd w A (vlsD s.vals) p) : Calls Tryz.prog 195 #[sbv s p, dotv n x] w (FindR w A s.vals n x) := by
  replace hp := hp.old
  obtain ⟨q, cap, rfl, h1, h2, h3, h4, _⟩ := vls_form hp
  unfold maxLen at h2
  have B1 := ((Blk.new w 52 (sbc s (.slice q s.vals.length cap))).alloc (.cells #[.int .i64 n, .int .i64 x] 177)).alloc (.cells vz 222)
  have B2 := (Blk.new_ (k := w.heap.size + 1) (w.alloc (.cells (sbc s (.slice q s.vals.length cap)) 52)) 177 #[.int .i64 n, .int .i64 x] (by simp)).alloc (.cells vz 222)
  have B3 := Blk.new_ (k := w.heap.size + 2) ((w.alloc (.cells (sbc s (.slice q s.vals.length cap)) 52)).alloc (.cells #[.int .i64 n, .int .i64 x] 177)) 222 vz (by simp)
  have hC := (((Chg.refl NoB w).alloc (.cells (sbc s (.slice q s.vals.length cap)) 52)).alloc (.cells #[.int .i64 n, .int .i64 x] 177)).alloc (.cells vz 222)
  have hz : w.heap.size + 3 ≤ (((w.alloc (.cells (sbc s (.slice q s.vals.length cap)) 52)).alloc (.cells #[.int .i64 n, .int .i64 x] 177)).alloc (.cells vz 222)).heap.size := by simp
  replace hp := hp.st hC
  go_enter Tryz.func195, Tryz.ntmps195
  go_wp2_with fail
  generalize ((w.alloc (Obj.cells _ 52)).alloc (Obj.cells _ 177)).alloc (Obj.cells _ 222) = W at *
  go_loopw [11] (fun i wr => ∃ k : Nat, k ≤ s.vals.length ∧ i = .int .i64 k ∧ Hid ((s.vals.take k).find? (hasDot n x) = none) ∧ Chg NoB W wr) (fun i _ => s.vals.length - (intOf i).toNat)
  case atStart => exact ⟨0, Nat.zero_le _, rfl, Lib.hid rfl, Chg.refl _ _⟩
  case round =>
    obtain ⟨k, hk, rfl, HN, HW⟩ := hrel
    replace B2 := B2.st HW
    replace B3 := B3.st HW
    replace hp := hp.st HW
    replace hC := hC.st HW
    obtain ⟨d0, d1⟩ := cells2 B2
    obtain ⟨e0, e1, e2, e3⟩ := cells4 B3
    obtain ⟨g0, g1, g2, g3⟩ := frz4 B3
    have hz := Nat.le_trans hz HW.size
    have l1 : w.heap.size + 1 < wr.heap.size := by omega
    have l2 : w.heap.size + 2 < wr.heap.size := by omega
    by_cases hlt : k < s.vals.length
    · obtain ⟨b, off, rfl, hA, hb⟩ := h4 (by omega)
      obtain ⟨q1, cp1, hd, c0, c1, c2, c3⟩ := vls_at hp hlt
      generalize hv : s.vals[k] = v at *
      have HV := Lib.hid hv
      clear hv
      have hC2 := Chg.al wr (.cells (vlc v (.slice q1 v.data.length cp1)) 222)
      obtain ⟨b1, y1⟩ : ∃ y, (v.node == n) = y := ⟨_, rfl⟩
      obtain ⟨b2, y2⟩ : ∃ y, (v.n == x) = y := ⟨_, rfl⟩
      have HY : Hid (hasDot n x v = (b1 && b2)) := Lib.hid (by rw [← y1, ← y2]; rfl)
      have hk1 : k + 1 ≤ s.vals.length := hlt
      have ht : Hid ((b1 && b2) = true → findV s.vals n x = some v) := Lib.hid fun h => by rw [← HV.out]; exact find_at HN.out hlt (by rw [HV.out, HY.out, h])
      have hf : Hid ((b1 && b2) = false → (s.vals.take (k + 1)).find? (hasDot n x) = none) := Lib.hid fun h => find_take_none HN.out hlt (by rw [HV.out, HY.out, h])
      clear HY HV HN
      cases b1 <;> cases b2
      · go_wp2_with fail
        go_roundw
        case rel => exact ⟨k + 1, hk1, by go_num, Lib.hid (hf.out rfl), HW.st hC2⟩
        case measure => simp [intOf]; omega
      · go_wp2_with fail
        go_roundw
        case rel => exact ⟨k + 1, hk1, by go_num, Lib.hid (hf.out rfl), HW.st hC2⟩
        case measure => simp [intOf]; omega
      · go_wp2_with fail
        go_roundw
        case rel => exact ⟨k + 1, hk1, by go_num, Lib.hid (hf.out rfl), HW.st hC2⟩
        case measure => simp [intOf]; omega
      · go_wp2_with fail
        exact back_row2 rfl rfl rfl ((set4 B3 _ _ _ _).alloc _) Tryz.underlying222 rfl infV rfl
          ⟨.inl ⟨v, _, ht.out rfl, rfl, ((rd4 hd (fun h => by have := h.2; omega) _ _ _ _).st (Chg.al _ _)).mono fun _ h _ => h.1⟩, (chg4 hC (by omega) _ _ _ _).alloc _⟩
    · obtain rfl : k = s.vals.length := by omega
      rw [List.take_of_length_le (Nat.le_refl _)] at HN
      go_wp2_with fail
      exact back_row2 rfl rfl rfl (set4 B3 _ _ _ _) Tryz.underlying222 rfl infV rfl ⟨.inr ⟨HN.out, rfl⟩, chg4 hC (by omega) _ _ _ _⟩
end Go.Proofs.YtoefffjhjmjhfaaGreat
