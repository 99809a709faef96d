/- Contracts of package queue, function by function. No statement is proved here. Contracts of package queue: Tick. No statement is proved here. Contracts of package queue: slices.Delete at its elements. No statement is proved here. Contracts of package queue: Take. No statement is proved here. -/
import Derived.Test.YtoefffjhjmjhfaaGreatTally
import Derived.Test.YtoefffjhjmjhfaaGreatPkBase
import Derived.StillTailTactics
import Derived.Deep.RegionHeld3
import Derived.Deep.RegionLaw
import Derived.Deep.AppendLies
import Derived.Deep.DrawnRows
import Derived.Lib.SliceRun
import Derived.BigQuiet
import Derived.Test.YtoefffjhjmjhfaaGreatWLast
import Derived.Laws.IdiomCopy
namespace Go.Proofs.YtoefffjhjmjhfaaGreat
open Go.RowKit Go.Proofs.YtoefffjhjmjhfaaGreatW.PrintLast
attribute [local go_sem ↓] Go.wp_at_zero Go.wp_at_succ

attribute [local go_sem] max2_mx min2_mn max_two_ min_two_

/-- A message's cells. -/
structure Ms where
  a0 : Int
  a1 : Int
  a2 : Int
  a3 : Int
  a4 : Int
  key : ByteArray
  a6 : Int
  e : Value
  d : Value
  m : Value
abbrev mc (x : Ms) : Array Value := #[.int .i64 x.a0, .int .i64 x.a1, .int .i64 x.a2, .int .i64 x.a3, .int .i64 x.a4, .string x.key, .int .i64 x.a6, x.e, x.d, x.m]
abbrev msv (x : Ms) : Value := .agg (mc x)
/-- One that waits: its message, its weight. -/
abbrev el (p : Ms × Int) : List Value := [.int .i64 p.1.a0, .int .i64 p.1.a1, .int .i64 p.1.a2, .int .i64 p.1.a3, .int .i64 p.1.a4, .string p.1.key, .int .i64 p.1.a6, p.1.e, p.1.d, p.1.m, .int .i64 p.2]
def fl (L : List (Ms × Int)) : List Value := L.flatMap el
theorem fl_length (L : List (Ms × Int)) : (fl L).length = L.length * 11 := by
  induction L with
  | nil => rfl
  | cons p r ih =>
    have : fl (p :: r) = el p ++ fl r := by simp [fl]
    rw [this, List.length_append, ih]
    simp only [List.length_cons, List.length_nil]
    omega
theorem fl_append (L M : List (Ms × Int)) : fl (L ++ M) = fl L ++ fl M := by unfold fl; rw [List.flatMap_append]
theorem fl_one (p : Ms × Int) : fl [p] = el p := by simp [fl]
theorem fl_cons (p : Ms × Int) (L : List (Ms × Int)) : fl (p :: L) = el p ++ fl L := by simp [fl]
theorem fl_at (L : List (Ms × Int)) {i j : Nat} (hi : i < L.length) (hj : j < 11) : (fl L)[i * 11 + j]? = (el L[i])[j]? := by
  induction L generalizing i with
  | nil => simp at hi
  | cons p r ih =>
    rw [fl_cons]
    cases i with
    | zero => rw [Nat.zero_mul, Nat.zero_add, List.getElem?_append_left (by simpa using hj)]; rfl
    | succ i =>
      rw [List.getElem?_append_right (by simp; omega)]
      have := ih (i := i) (by simpa using hi)
      rw [show (i + 1) * 11 + j - (el p).length = i * 11 + j by simp; omega, this]
      rfl

/-- Block g is a queue: how many it may hold, what waits, how many were refused. -/
structure QA (w : World) (g r : Nat) (most now : Int) (L : List (Ms × Int)) (s : Value) : Prop where
  blk : Blk w g 130 #[.int .i64 most, s, .pointer (some ⟨r, 0, none⟩)]
  ta : TA w r now 9223372036854775807
  own : w.ownsRow (g + 1) 151 11 s L.length (fl L)
  rg : r < g
  one : ∀ u ∈ fl L, u.oneCell' = true
/-- What a queue's turn leaves alone. -/
structure Kp (r : Nat) (w w' : World) : Prop where
  chg : Chg (fun k => r ≤ k) w w'
  kept : ∀ b t cs, t ≠ 130 → t ≠ 213 → t ≠ 151 → Blk w b t cs → Blk w' b t cs
theorem Kp.of_no {r : Nat} {w w' : World} (h : Chg NoB w w') : Kp r w w' := ⟨h.of_no, fun _ _ _ _ _ _ hb => hb.chg h id⟩
theorem Kp.trans {r : Nat} {a b c : World} (h : Kp r a b) (k : Kp r b c) : Kp r a c := ⟨h.chg.trans k.chg, fun x t cs h1 h2 h3 hb => k.kept x t cs h1 h2 h3 (h.kept x t cs h1 h2 h3 hb)⟩
theorem Kp.of_own {r g : Nat} {w w' : World} {t : TypeId} {cs : Array Value} (h : Chg (Only g) w w') (hb : Blk w g t cs) (ht : t = 130 ∨ t = 213 ∨ t = 151) (hr : r ≤ g) : Kp r w w' :=
  ⟨h.mono fun _ _ hk => by unfold Only at hk; omega, fun x t' cs' h1 h2 h3 hx => hx.chg h fun hk => by
    unfold Only at hk
    subst hk
    have := hb.symm.trans hx
    simp only [Option.some.injEq, Obj.cells.injEq] at this
    rcases ht with rfl | rfl | rfl
    · exact h1 this.2.1.symm
    · exact h2 this.2.1.symm
    · exact h3 this.2.1.symm⟩
def clip (n : Int) : Int := mx 0 (mn n 1000)
/-- A new queue. -/
structure QNew (n : Int) (w : World) (e : Ending) (w' : World) : Prop where
  at_ : ∃ g, e = .returned (.pointer (some ⟨g, 0, none⟩)) ∧ QA w' g w.heap.size (clip n) 0 [] (.slice none 0 0)
  chg : Chg NoB w w'
theorem new_any (n : Int) (w : World) : Calls Tryz.prog 20 #[.int .i64 n] w (QNew n w) := by
  go_enter Tryz.func20, Tryz.ntmps20
  go_wp2_with fail
  refine (tally_new _ _ (by decide)).mono ?_
  rintro e w1 ⟨rfl, hT, hC⟩
  have HT := Lib.hid hT
  have HC := Lib.hid hC
  clear hT hC
  go_wp2_with fail
  go_ret
  exact ⟨⟨_, rfl, ⟨Blk.new _ _ _, HT.out.chg ((Chg.refl NoB w1).alloc _) id, ⟨rfl, .inl ⟨rfl, rfl⟩⟩, HT.out.blk.lt, by simp [fl]⟩⟩, HC.out.alloc _⟩
theorem len_any {w : World} {g r : Nat} {most now : Int} {L : List (Ms × Int)} {s : Value} (q : QA w g r most now L s) :
    Calls Tryz.prog 68 #[.pointer (some ⟨g, 0, none⟩)] w fun e w' => e = .returned (.int .i64 L.length) ∧ w' = w := by
  have c1 := q.blk.cell 1
  obtain ⟨_, ho⟩ := q.own
  rcases ho with ⟨rfl, h0⟩ | ⟨g', cap, cur, rfl, _⟩
  · rw [h0]
    clear q
    go_enter Tryz.func68, Tryz.ntmps68
    go_wp2
    go_ret
    exact ⟨rfl, rfl⟩
  · clear q
    go_enter Tryz.func68, Tryz.ntmps68
    go_wp2
    go_ret
    exact ⟨rfl, rfl⟩
theorem Tryz.infM : (Tryz.prog.info? 40).map (·.size) = some 10 := by kernel_rfl
theorem back_ms {fn : Func} {p : Tmp} (h : fn.results = #[.cell p 40]) {R : Ending → World → Prop} {a : Act} {w : World} {b : Nat} (x : Ms) (hp : a.tmps.getD p undef = .pointer (some ⟨b, 0, none⟩)) (hB : Blk w b 40 (mc x)) (hd : a.defers = []) (hR : R (.returned (msv x)) w) :
    bodyPost Tryz.prog fn R .ret a w :=
  bodyPost_ret (results_cell_row h _ _ b _ (mc x) (0, 0) _ hp hB Tryz.underlying40 rfl (Tryz.infM.trans rfl)) hd hR
abbrev nil_ : Value := .slice none 0 0
/-- A message without slices. -/
abbrev ms0 (n : Int) : Ms := ⟨4, 0, 0, n, 0, ⟨#[107]⟩, 0, nil_, nil_, nil_⟩
set_option maxRecDepth 100000 in
theorem clone_nil (w : World) : Calls Tryz.prog 75 #[nil_] w fun e w' => e = .returned nil_ ∧ w' = w := by
  have he := Lib.run_eql_slice_nil (P := Tryz.prog) w 38 147 none 0 0 0 0 Tryz.underlying38
  simp only [Option.isNone] at he
  go_enter Tryz.func75, Tryz.ntmps75
  go_wp2
  go_ret
  exact ⟨rfl, rfl⟩
theorem ten {w : World} {b : Nat} {x : Ms} (h : Blk w b 40 (mc x)) : w.cell? ⟨b, 0, none⟩ = some (.int .i64 x.a0) ∧ w.cell? ⟨b, 1, none⟩ = some (.int .i64 x.a1) ∧ w.cell? ⟨b, 2, none⟩ = some (.int .i64 x.a2) ∧ w.cell? ⟨b, 3, none⟩ = some (.int .i64 x.a3) ∧ w.cell? ⟨b, 4, none⟩ = some (.int .i64 x.a4) ∧
    w.cell? ⟨b, 5, none⟩ = some (.string x.key) ∧ w.cell? ⟨b, 6, none⟩ = some (.int .i64 x.a6) ∧ w.cell? ⟨b, 7, none⟩ = some x.e ∧ w.cell? ⟨b, 8, none⟩ = some x.d ∧ w.cell? ⟨b, 9, none⟩ = some x.m := ⟨h.cell 0, h.cell 1, h.cell 2, h.cell 3, h.cell 4, h.cell 5, h.cell 6, h.cell 7, h.cell 8, h.cell 9⟩
theorem ten_frozen {w : World} {b : Nat} {t : TypeId} {cs : Array Value} (h : Blk w b t cs) : w.frozen? ⟨b, 0, none⟩ = false ∧ w.frozen? ⟨b, 1, none⟩ = false ∧ w.frozen? ⟨b, 2, none⟩ = false ∧ w.frozen? ⟨b, 3, none⟩ = false ∧ w.frozen? ⟨b, 4, none⟩ = false ∧ w.frozen? ⟨b, 5, none⟩ = false ∧ w.frozen? ⟨b, 6, none⟩ = false ∧ w.frozen? ⟨b, 7, none⟩ = false ∧ w.frozen? ⟨b, 8, none⟩ = false ∧ w.frozen? ⟨b, 9, none⟩ = false ∧ w.frozen? ⟨b, 10, none⟩ = false :=
  ⟨h.frozen 0, h.frozen 1, h.frozen 2, h.frozen 3, h.frozen 4, h.frozen 5, h.frozen 6, h.frozen 7, h.frozen 8, h.frozen 9, h.frozen 10⟩
abbrev msz : Ms := ⟨0, 0, 0, 0, 0, ⟨#[]⟩, 0, nil_, nil_, nil_⟩
theorem ten_set {w : World} {b : Nat} {x : Ms} (h : Blk w b 40 (mc x)) (v0 v1 v2 v3 v4 v5 v6 v7 v8 v9 : Value) :
    Blk ((((((((((w.setCell ⟨b, 0, none⟩ v0).setCell ⟨b, 1, none⟩ v1).setCell ⟨b, 2, none⟩ v2).setCell ⟨b, 3, none⟩ v3).setCell ⟨b, 4, none⟩ v4).setCell ⟨b, 5, none⟩ v5).setCell ⟨b, 6, none⟩ v6).setCell ⟨b, 7, none⟩ v7).setCell ⟨b, 8, none⟩ v8).setCell ⟨b, 9, none⟩ v9) b 40 #[v0, v1, v2, v3, v4, v5, v6, v7, v8, v9] := by
  have := (((((((((h.set_ 0 v0).set_ 1 v1).set_ 2 v2).set_ 3 v3).set_ 4 v4).set_ 5 v5).set_ 6 v6).set_ 7 v7).set_ 8 v8).set_ 9 v9
  simpa only [List.setIfInBounds_toArray, List.set_cons_zero, List.set_cons_succ] using this
theorem ten_chg {S : Nat → Prop} {w0 w : World} {b : Nat} (h : Chg S w0 w) (hb : S b ∨ w0.heap.size ≤ b) (v0 v1 v2 v3 v4 v5 v6 v7 v8 v9 : Value) :
    Chg S w0 ((((((((((w.setCell ⟨b, 0, none⟩ v0).setCell ⟨b, 1, none⟩ v1).setCell ⟨b, 2, none⟩ v2).setCell ⟨b, 3, none⟩ v3).setCell ⟨b, 4, none⟩ v4).setCell ⟨b, 5, none⟩ v5).setCell ⟨b, 6, none⟩ v6).setCell ⟨b, 7, none⟩ v7).setCell ⟨b, 8, none⟩ v8).setCell ⟨b, 9, none⟩ v9) :=
  (((((((((h.setCell (p := ⟨b, 0, none⟩) hb v0).setCell (p := ⟨b, 1, none⟩) hb v1).setCell (p := ⟨b, 2, none⟩) hb v2).setCell (p := ⟨b, 3, none⟩) hb v3).setCell (p := ⟨b, 4, none⟩) hb v4).setCell (p := ⟨b, 5, none⟩) hb v5).setCell (p := ⟨b, 6, none⟩) hb v6).setCell (p := ⟨b, 7, none⟩) hb v7).setCell (p := ⟨b, 8, none⟩) hb v8).setCell (p := ⟨b, 9, none⟩) hb v9
set_option maxRecDepth 100000 in
set_option maxHeartbeats 4000000 in
theorem copied_nil (x : Ms) (he : x.e = nil_) (hd : x.d = nil_) (hm : x.m = nil_) (w : World) : Calls Tryz.prog 175 #[msv x] w fun e w' => e = .returned (msv x) ∧ Chg NoB w w' := by
  obtain ⟨a0, a1, a2, a3, a4, key, a6, _, _, _⟩ := x
  subst he hd hm
  go_enter Tryz.func175, Tryz.ntmps175
  go_wp2_with fail
  have B0 := Lib.hid ((Blk.new w 40 (mc ⟨a0, a1, a2, a3, a4, key, a6, nil_, nil_, nil_⟩)).alloc (Obj.cells (mc msz) 40))
  have B1 := Lib.hid (Blk.new_ (k := w.heap.size + 1) (w.alloc (Obj.cells (mc ⟨a0, a1, a2, a3, a4, key, a6, nil_, nil_, nil_⟩) 40)) 40 (mc msz) (by simp))
  have HC := Lib.hid (((Chg.refl NoB w).alloc (Obj.cells (mc ⟨a0, a1, a2, a3, a4, key, a6, nil_, nil_, nil_⟩) 40)).alloc (Obj.cells (mc msz) 40))
  generalize (w.alloc (Obj.cells (mc ⟨a0, a1, a2, a3, a4, key, a6, nil_, nil_, nil_⟩) 40)).alloc (Obj.cells _ 40) = W at *
  go_loopw [3, 15] (fun l i wr => l = nil_ ∧ i = .int .i64 0 ∧ wr = W) (fun _ _ _ => 0)
  case atStart => exact ⟨rfl, rfl, rfl⟩
  case round =>
    obtain ⟨rfl, rfl, rfl⟩ := hrel
    obtain ⟨c0, c1, c2, c3, c4, c5, c6, c7, c8, c9⟩ := ten B0.out
    obtain ⟨f0, f1, f2, f3, f4, f5, f6, f7, f8, f9, f10⟩ := ten_frozen B0.out
    go_wp2_with fail
    have C0 : Hid (Blk (wr.setCell ⟨w.heap.size, 7, none⟩ nil_) w.heap.size 40 (mc ⟨a0, a1, a2, a3, a4, key, a6, nil_, nil_, nil_⟩)) := Lib.hid (B0.out.set_ 7 nil_)
    have C1 := Lib.hid (B1.out.far (p := ⟨w.heap.size, 7, none⟩) (by show w.heap.size + 1 ≠ w.heap.size; omega) nil_)
    have HD := Lib.hid (HC.out.setCell (p := ⟨w.heap.size, 7, none⟩) (.inr (Nat.le_refl _)) nil_)
    clear B0 B1 HC c0 c1 c2 c3 c4 c5 c6 c7 c8 c9 f0 f1 f2 f3 f4 f5 f6 f7 f8 f9 f10
    generalize wr.setCell ⟨w.heap.size, 7, none⟩ nil_ = W2 at *
    go_loopw [9, 49] (fun l i wr => l = nil_ ∧ i = .int .i64 0 ∧ wr = W2) (fun _ _ _ => 0)
    case atStart => exact ⟨rfl, rfl, rfl⟩
    case round =>
      obtain ⟨rfl, rfl, rfl⟩ := hrel
      obtain ⟨c0, c1, c2, c3, c4, c5, c6, c7, c8, c9⟩ := ten C0.out
      obtain ⟨f0, f1, f2, f3, f4, f5, f6, f7, f8, f9, f10⟩ := ten_frozen C0.out
      go_wp2_with fail
      have B0 : Hid (Blk (wr.setCell ⟨w.heap.size, 8, none⟩ nil_) w.heap.size 40 (mc ⟨a0, a1, a2, a3, a4, key, a6, nil_, nil_, nil_⟩)) := Lib.hid (C0.out.set_ 8 nil_)
      have B1 := Lib.hid (C1.out.far (p := ⟨w.heap.size, 8, none⟩) (by show w.heap.size + 1 ≠ w.heap.size; omega) nil_)
      have HC := Lib.hid (HD.out.setCell (p := ⟨w.heap.size, 8, none⟩) (.inr (Nat.le_refl _)) nil_)
      clear C0 C1 HD c0 c1 c2 c3 c4 c5 c6 c7 c8 c9 f0 f1 f2 f3 f4 f5 f6 f7 f8 f9 f10
      generalize wr.setCell ⟨w.heap.size, 8, none⟩ nil_ = W3 at *
      refine (clone_nil _).mono ?_
      rintro e w4 ⟨rfl, rfl⟩
      obtain ⟨c0, c1, c2, c3, c4, c5, c6, c7, c8, c9⟩ := ten B0.out
      obtain ⟨f0, f1, f2, f3, f4, f5, f6, f7, f8, f9, f10⟩ := ten_frozen B0.out
      obtain ⟨d0, d1, d2, d3, d4, d5, d6, d7, d8, d9⟩ := ten B1.out
      obtain ⟨g0, g1, g2, g3, g4, g5, g6, g7, g8, g9, g10⟩ := ten_frozen B1.out
      go_wp2_with fail
      exact back_ms rfl ⟨a0, a1, a2, a3, a4, key, a6, nil_, nil_, nil_⟩ rfl (ten_set (x := msz) (B1.out.far (p := ⟨w.heap.size, 9, none⟩) (by show w.heap.size + 1 ≠ w.heap.size; omega) nil_) _ _ _ _ _ _ _ _ _ _) rfl
        ⟨rfl, ten_chg (HC.out.setCell (p := ⟨w.heap.size, 9, none⟩) (.inr (Nat.le_refl _)) nil_) (.inr (by omega)) _ _ _ _ _ _ _ _ _ _⟩
theorem QA.form {w : World} {g r : Nat} {most now : Int} {L : List (Ms × Int)} {s : Value} (q : QA w g r most now L s) : ∃ p cap, s = .slice p L.length cap := by
  obtain ⟨_, ho⟩ := q.own
  rcases ho with ⟨rfl, h0⟩ | ⟨g', cap, cur, rfl, _⟩
  · exact ⟨none, 0, by rw [h0]⟩
  · exact ⟨_, _, rfl⟩
theorem QA.chg {w w' : World} {g r : Nat} {most now : Int} {L : List (Ms × Int)} {s : Value} (q : QA w g r most now L s) (h : Chg NoB w w') : QA w' g r most now L s :=
  ⟨q.blk.chg h id, q.ta.chg h id, by
    obtain ⟨h1, hr⟩ := q.own
    refine ⟨h1, ?_⟩
    rcases hr with h0 | ⟨g', cap, cur, hv, hb, hB, hrest⟩
    · exact .inl h0
    · exact .inr ⟨g', cap, cur, hv, hb, Blk.chg (w := w) hB h id, hrest⟩, q.rg, q.one⟩
theorem QA.turn {w w' : World} {g r : Nat} {most now now' : Int} {L : List (Ms × Int)} {s : Value} (q : QA w g r most now L s) (h : Chg (Only r) w w') (ht : TA w' r now' 9223372036854775807) : QA w' g r most now' L s :=
  ⟨q.blk.chg h (by have := q.rg; unfold Only; omega), ht, by
    obtain ⟨h1, hr⟩ := q.own
    refine ⟨h1, ?_⟩
    rcases hr with h0 | ⟨g', cap, cur, hv, hb, hB, hrest⟩
    · exact .inl h0
    · exact .inr ⟨g', cap, cur, hv, hb, Blk.chg (w := w) hB h (by have := q.rg; unfold Only; omega), hrest⟩, q.rg, q.one⟩
theorem QA.own_at {w : World} {g r : Nat} {most now : Int} {L : List (Ms × Int)} {s : Value} (q : QA w g r most now L s) {k : Nat} (hk : s.ownBlock = some k) : g < k ∧ ∃ cur, Blk w k 151 cur := by
  obtain ⟨_, ho⟩ := q.own
  rcases ho with ⟨rfl, h0⟩ | ⟨g', cap, cur, rfl, h1, hB, _⟩
  · cases hk
  · cases hk
    exact ⟨h1, cur, hB⟩
theorem own_apart {w w' : World} {g n : Nat} {s : Value} {xs : List Value} {t : TypeId} {k : Nat} (h : w.ownsRow (g + 1) t k s n xs) (hC : Chg (Only g) w w') : w'.ownsRow (g + 1) t k s n xs := by
  obtain ⟨h1, hr⟩ := h
  refine ⟨h1, ?_⟩
  rcases hr with h0 | ⟨g', cap, cur, hv, hb, hB, hrest⟩
  · exact .inl h0
  · exact .inr ⟨g', cap, cur, hv, hb, Blk.chg (w := w) hB hC (by unfold Only; omega), hrest⟩
theorem Kp.grown {w w' : World} {g r : Nat} {most now : Int} {L : List (Ms × Int)} {s : Value} (q : QA w g r most now L s) (h : Chg (fun k => s.ownBlock = some k) w w') : Kp r w w' :=
  ⟨h.mono fun k _ hk => by have := (q.own_at hk).1; have := q.rg; omega, fun x t' cs' h1 h2 h3 hx => hx.chg h fun hk => by
    obtain ⟨_, cur, hB⟩ := q.own_at hk
    have := hB.symm.trans hx
    simp only [Option.some.injEq, Obj.cells.injEq] at this
    exact h3 this.2.1.symm⟩
theorem grown_row {w w' : World} {v : Value} (h : w.grownBy w' v.ownBlock) : Chg (fun k => v.ownBlock = some k) w w' :=
  ⟨h.1, h.2, h.3, h.4, fun k hk hn => h.5 k hk fun e => hn e.symm⟩
theorem Tryz.infW : (Tryz.prog.info? 151).map (fun i => (i.zero, i.size, i.bytes)) = some (some (.agg (el (msz, 0)).toArray), 11, 144) := by kernel_rfl
def w3 (u : Int) : Int := 4 * mx 0 (mn u 3)
/-- The blocks that a queue's turn may write. -/
abbrev Qp (g r : Nat) (s : Value) : Nat → Prop := fun k => k = g ∨ k = r ∨ s.ownBlock = some k
theorem Kp.of_foot {w w' : World} {g r : Nat} {most now : Int} {L : List (Ms × Int)} {s : Value} (q : QA w g r most now L s) (h : Chg (Qp g r s) w w') : Kp r w w' :=
  ⟨h.mono fun k _ hk => by
    have h1 := q.rg
    rcases hk with rfl | rfl | hk
    · omega
    · omega
    · have := (q.own_at hk).1; omega, fun x t' cs' h1 h2 h3 hx => hx.chg h fun hk => by
    rcases hk with rfl | rfl | hk
    · have := q.blk.symm.trans hx
      simp only [Option.some.injEq, Obj.cells.injEq] at this
      exact h1 this.2.1.symm
    · have := q.ta.blk.symm.trans hx
      simp only [Option.some.injEq, Obj.cells.injEq] at this
      exact h2 this.2.1.symm
    · obtain ⟨_, cur, hB⟩ := q.own_at hk
      have := hB.symm.trans hx
      simp only [Option.some.injEq, Obj.cells.injEq] at this
      exact h3 this.2.1.symm⟩
/-- Refused: there is no room. -/
theorem put_full_ft {w : World} {g r : Nat} {most now : Int} {L : List (Ms × Int)} {s : Value} (q : QA w g r most now L s) (x : Ms) (u : Int) (h : most ≤ L.length) (hn : now < 9223372036854775807) :
    Calls Tryz.prog 112 #[.pointer (some ⟨g, 0, none⟩), msv x, .int .i64 u] w fun e w' => e = .returned (.int .i64 7) ∧ QA w' g r most (now + 1) L s ∧ Chg (Qp g r s) w w' := by
  obtain ⟨p, cap, rfl⟩ := q.form
  have h0 := q.ta.lo
  have HQ := Lib.hid q
  have hd : decide (most ≤ (L.length : Int)) = true := by simpa using h
  clear q
  go_enter Tryz.func112, Tryz.ntmps112
  go_wp2_with fail
  have HQ2 := Lib.hid (HQ.out.chg ((Chg.refl NoB w).alloc (Obj.cells (mc x) 40)))
  have HC := Lib.hid ((Chg.refl NoB w).alloc (Obj.cells (mc x) 40))
  clear HQ
  generalize w.alloc (Obj.cells (mc x) 40) = W at *
  have c0 := HQ2.out.blk.cell 0
  have c1 := HQ2.out.blk.cell 1
  go_quiet (fail)
  have HQ3 := Lib.hid (HQ2.out.chg ((Chg.refl NoB W).drewN nq))
  have HC3 := Lib.hid (HC.out.drewN nq)
  clear HQ2 HC c0 c1
  generalize W.drewN nq = W3 at *
  have c2 := HQ3.out.blk.cell 2
  go_wp2_with fail
  refine (tally_add_yes HQ3.out.ta 1 (by omega) (by omega)).mono ?_
  rintro e w4 ⟨rfl, hT, hC⟩
  have HQ4 := Lib.hid (HQ3.out.turn hC hT)
  have HK : Hid (Chg (Qp g r (.slice p L.length cap)) w w4) := Lib.hid (HC3.out.of_no.trans (hC.mono fun k _ hk => .inr (.inl hk)))
  clear hT hC
  go_wp2_with fail
  go_ret
  exact ⟨rfl, HQ4.out, HK.out⟩
theorem put_full {w : World} {g r : Nat} {most now : Int} {L : List (Ms × Int)} {s : Value} (q : QA w g r most now L s) (x : Ms) (u : Int) (h : most ≤ L.length) (hn : now < 9223372036854775807) :
    Calls Tryz.prog 112 #[.pointer (some ⟨g, 0, none⟩), msv x, .int .i64 u] w fun e w' => e = .returned (.int .i64 7) ∧ QA w' g r most (now + 1) L s ∧ Kp r w w' :=
  (put_full_ft q x u h hn).mono fun _ _ ⟨he, hq, hC⟩ => ⟨he, hq, Kp.of_foot q hC⟩
set_option maxRecDepth 100000 in
set_option maxHeartbeats 600000 in
/-- Put where there is room. -/
theorem put_ft {w : World} {g r : Nat} {most now : Int} {L : List (Ms × Int)} {s : Value} (q : QA w g r most now L s) (x : Ms) (u : Int) (h : (L.length : Int) < most) (hl : L.length ≤ 1000) (Z : Ms → World → Prop)
    (hcp : ∀ w1, Chg NoB w w1 → Calls Tryz.prog 175 #[msv x] w1 fun e w' => ∃ y, e = .returned (msv y) ∧ (∀ v ∈ mc y, v.oneCell' = true) ∧ Z y w' ∧ Chg NoB w1 w') :
    Calls Tryz.prog 112 #[.pointer (some ⟨g, 0, none⟩), msv x, .int .i64 u] w fun e w' => e = .returned (.int .i64 0) ∧ ∃ y s' w4, QA w' g r most now (L ++ [(y, w3 u)]) s' ∧ Z y w4 ∧ Chg NoB w w4 ∧ Chg (Qp g r s) w4 w' ∧ ∀ k, s'.ownBlock = some k → s.ownBlock = some k ∨ w4.heap.size ≤ k := by
  obtain ⟨p, cap, rfl⟩ := q.form
  have HQ := Lib.hid q
  have hd : decide (most ≤ (L.length : Int)) = false := by simpa using h
  have HNg : Hid (¬ (Value.slice p L.length cap).ownBlock = some g) := Lib.hid fun hk => absurd (q.own_at hk).1 (Nat.lt_irrefl _)
  have HNw : Hid (¬ (Value.slice p L.length cap).ownBlock = some w.heap.size) := Lib.hid fun hk => by
    obtain ⟨_, cur, hB⟩ := q.own_at hk
    exact absurd hB.lt (Nat.lt_irrefl _)
  have HNr : Hid (¬ (Value.slice p L.length cap).ownBlock = some r) := Lib.hid fun hk => by have := (q.own_at hk).1; have := q.rg; omega
  clear q
  go_enter Tryz.func112, Tryz.ntmps112
  go_wp2_with fail
  have HQ2 := Lib.hid (HQ.out.chg ((Chg.refl NoB w).alloc (Obj.cells (mc x) 40)))
  have HB := Lib.hid (Blk.new w 40 (mc x))
  have HC := Lib.hid ((Chg.refl NoB w).alloc (Obj.cells (mc x) 40))
  clear HQ
  generalize w.alloc (Obj.cells (mc x) 40) = W at *
  have c0 := HQ2.out.blk.cell 0
  have c1 := HQ2.out.blk.cell 1
  go_quiet (fail)
  have HQ3 := Lib.hid (HQ2.out.chg ((Chg.refl NoB W).drewN nq))
  have HC3 := Lib.hid (HC.out.drewN nq)
  have HB3 := Lib.hid (HB.out.drewN nq)
  clear HQ2 HC c0 c1
  generalize W.drewN nq = W3 at *
  obtain ⟨c0, c1, c2, c3, c4, c5, c6, c7, c8, c9⟩ := ten HB3.out
  have e1 := HQ3.out.blk.cell 1
  have hwr : IntKind.i64.wrap (4 * mx 0 (mn u 3)) = w3 u := by rw [IntKind.wrap_i64]; unfold w3 mx mn; split <;> split <;> omega
  obtain ⟨i9, hi9, z9, s9, y9⟩ := info_parts Tryz.infW
  go_wp2_with fail
  refine start_ (n := 17) (S := fun w' => w'.cell? ⟨g, 1, none⟩ = some (.slice p L.length cap) ∧ w'.cell? ⟨w.heap.size, 0, none⟩ = some (.int .i64 x.a0) ∧ w'.cell? ⟨w.heap.size, 1, none⟩ = some (.int .i64 x.a1) ∧ w'.cell? ⟨w.heap.size, 2, none⟩ = some (.int .i64 x.a2) ∧ w'.cell? ⟨w.heap.size, 3, none⟩ = some (.int .i64 x.a3) ∧ w'.cell? ⟨w.heap.size, 4, none⟩ = some (.int .i64 x.a4) ∧ w'.cell? ⟨w.heap.size, 5, none⟩ = some (.string x.key) ∧ w'.cell? ⟨w.heap.size, 6, none⟩ = some (.int .i64 x.a6) ∧ w'.cell? ⟨w.heap.size, 7, none⟩ = some x.e ∧ w'.cell? ⟨w.heap.size, 8, none⟩ = some x.d ∧ w'.cell? ⟨w.heap.size, 9, none⟩ = some x.m) (ds := [16]) #[false, false, false, false, false, false, false, false, false, false, false, false, false, false, false, false, false] (by kernel_rfl) rfl rfl ⟨(HQ3.out.blk.drew.cell 1), (HB3.out.drew.cell 0), (HB3.out.drew.cell 1), (HB3.out.drew.cell 2), (HB3.out.drew.cell 3), (HB3.out.drew.cell 4), (HB3.out.drew.cell 5), (HB3.out.drew.cell 6), (HB3.out.drew.cell 7), (HB3.out.drew.cell 8), (HB3.out.drew.cell 9)⟩ (fun hHeld => ?_)
  refine pure_ (i := 0) (N := some 26) (v := ?_) (a' := ?_) #[true, false, false, false, false, false, false, false, false, false, false, false, false, false, false, false, false] rfl rfl (by kernel_rfl) (fun _ _ _ h => h) (Or.inl ⟨by rfl, ?_⟩) ?_ ?_
  rotate_left
  · intro w'
    go_simp
    with_reducible rfl
  rotate_left
  · simp only [Act.put, List.setIfInBounds_toArray, List.set_cons_zero, List.set_cons_succ]
    rfl
  refine pure_ (i := 1) (N := some 27) (v := ?_) (a' := ?_) #[true, true, false, false, false, false, false, false, false, false, false, false, false, false, false, false, false] rfl rfl (by kernel_rfl) (fun _ _ _ h => h) (Or.inl ⟨by rfl, ?_⟩) ?_ ?_
  rotate_left
  · intro w'
    go_simp
    with_reducible rfl
  rotate_left
  · simp only [Act.put, List.setIfInBounds_toArray, List.set_cons_zero, List.set_cons_succ]
    rfl
  refine pure_ (i := 2) (N := some 28) (v := ?_) (a' := ?_) #[true, true, true, false, false, false, false, false, false, false, false, false, false, false, false, false, false] rfl rfl (by kernel_rfl) (fun _ _ _ h => h) (Or.inl ⟨by rfl, ?_⟩) ?_ ?_
  rotate_left
  · intro w'
    go_simp
    with_reducible rfl
  rotate_left
  · simp only [Act.put, List.setIfInBounds_toArray, List.set_cons_zero, List.set_cons_succ]
    rfl
  refine pure_ (i := 3) (N := some 29) (v := ?_) (a' := ?_) #[true, true, true, true, false, false, false, false, false, false, false, false, false, false, false, false, false] rfl rfl (by kernel_rfl) (fun _ _ _ h => h) (Or.inl ⟨by rfl, ?_⟩) ?_ ?_
  rotate_left
  · intro w'
    go_simp
    with_reducible rfl
  rotate_left
  · simp only [Act.put, List.setIfInBounds_toArray, List.set_cons_zero, List.set_cons_succ]
    rfl
  refine pure_ (i := 7) (N := some 33) (v := ?_) (a' := ?_) #[true, true, true, true, false, false, false, true, false, false, false, false, false, false, false, false, false] rfl rfl (by kernel_rfl) (fun _ _ _ h => h) (Or.inl ⟨by rfl, ?_⟩) ?_ ?_
  rotate_left
  · intro w'
    go_simp
    with_reducible rfl
  rotate_left
  · simp only [Act.put, List.setIfInBounds_toArray, List.set_cons_zero, List.set_cons_succ]
    rfl
  refine pure_ (i := 8) (N := some 34) (v := ?_) (a' := ?_) #[true, true, true, true, false, false, false, true, true, false, false, false, false, false, false, false, false] rfl rfl (by kernel_rfl) (fun _ _ _ h => h) (Or.inl ⟨by rfl, ?_⟩) ?_ ?_
  rotate_left
  · intro w'
    go_simp
    with_reducible rfl
  rotate_left
  · simp only [Act.put, List.setIfInBounds_toArray, List.set_cons_zero, List.set_cons_succ]
    rfl
  refine pure_ (i := 9) (N := some 35) (v := ?_) (a' := ?_) #[true, true, true, true, false, false, false, true, true, true, false, false, false, false, false, false, false] rfl rfl (by kernel_rfl) (fun _ _ _ h => h) (Or.inl ⟨by rfl, ?_⟩) ?_ ?_
  rotate_left
  · intro w'
    go_simp
    with_reducible rfl
  rotate_left
  · simp only [Act.put, List.setIfInBounds_toArray, List.set_cons_zero, List.set_cons_succ]
    rfl
  refine pure_ (i := 10) (N := some 36) (v := ?_) (a' := ?_) #[true, true, true, true, false, false, false, true, true, true, true, false, false, false, false, false, false] rfl rfl (by kernel_rfl) (fun _ _ _ h => h) (Or.inl ⟨by rfl, ?_⟩) ?_ ?_
  rotate_left
  · intro w'
    go_simp
    with_reducible rfl
  rotate_left
  · simp only [Act.put, List.setIfInBounds_toArray, List.set_cons_zero, List.set_cons_succ]
    rfl
  refine take_ (i := 4) (N := some 30) (v := ?_) (a' := ?_) #[true, true, true, true, true, false, false, true, true, true, true, false, false, false, false, false, false] rfl rfl (by kernel_rfl) (fun _ _ _ h => h) (Or.inl ⟨by rfl, ?_⟩) hHeld ?_ ?_
  rotate_left
  · rintro w' ⟨s0, s1, s2, s3, s4, s5, s6, s7, s8, s9, s10⟩
    go_simp
    with_reducible rfl
  rotate_left
  · simp only [Act.put, List.setIfInBounds_toArray, List.set_cons_zero, List.set_cons_succ]
    rfl
  refine take_ (i := 5) (N := some 31) (v := ?_) (a' := ?_) #[true, true, true, true, true, true, false, true, true, true, true, false, false, false, false, false, false] rfl rfl (by kernel_rfl) (fun _ _ _ h => h) (Or.inl ⟨by rfl, ?_⟩) hHeld ?_ ?_
  rotate_left
  · rintro w' ⟨s0, s1, s2, s3, s4, s5, s6, s7, s8, s9, s10⟩
    go_simp
    with_reducible rfl
  rotate_left
  · simp only [Act.put, List.setIfInBounds_toArray, List.set_cons_zero, List.set_cons_succ]
    rfl
  refine one_ (i := 6) (N := some 32) #[true, true, true, true, true, true, true, true, true, true, true, false, false, false, false, false, false] rfl rfl (by kernel_rfl) (by decide) (fun K hK => ?_)
  refine goes_ Tryz.func175 (by kernel_rfl) rfl #[msv x] (by rfl) rfl rfl (by simp only [List.map_toArray, List.map_cons, List.map_nil]; rfl) ?_
  with_reducible refine ((hcp _ HC3.out.drew)).mono ?_
  rintro e w4 ⟨y, rfl, h1, hZ, hC4⟩
  refine ⟨_, rfl, ?_⟩
  have HQ4 := Lib.hid (HQ3.out.chg (((Chg.refl NoB W3).drew).trans hC4))
  have HB4 := Lib.hid (HB3.out.chg (((Chg.refl NoB W3).drew).trans hC4) id)
  have HC4 := Lib.hid (HC3.out.trans (((Chg.refl NoB W3).drew).trans hC4))
  have hg4 := HQ4.out.blk.lt
  have HZ := Lib.hid hZ
  clear hZ
  have H1 : Hid (∀ v ∈ el (y, w3 u), v.oneCell' = true) := Lib.hid fun v hv => by
    simp only [List.mem_cons, List.not_mem_nil, or_false] at hv
    rcases hv with rfl | rfl | rfl | rfl | rfl | rfl | rfl | rfl | rfl | rfl | rfl <;> first | rfl | exact h1 _ (by simp)
  clear h1
  refine hK.out _ _ ⟨(HQ4.out.blk.cell 1), (HB4.out.cell 0), (HB4.out.cell 1), (HB4.out.cell 2), (HB4.out.cell 3), (HB4.out.cell 4), (HB4.out.cell 5), (HB4.out.cell 6), (HB4.out.cell 7), (HB4.out.cell 8), (HB4.out.cell 9)⟩ (fun hHeld => ?_)
  clear hK K
  refine norm_ (a' := ?_) ?_ ?_
  rotate_left
  · show Act.put _ (some 32) _ = _
    simp only [Act.put, List.setIfInBounds_toArray, List.set_cons_zero, List.set_cons_succ]
    rfl
  refine pure_ (i := 11) (N := some 37) (v := ?_) (a' := ?_) #[true, true, true, true, true, true, true, true, true, true, true, true, false, false, false, false, false] rfl rfl (by kernel_rfl) (fun _ _ _ h => h) (Or.inl ⟨by rfl, ?_⟩) ?_ ?_
  rotate_left
  · intro w'
    go_simp
    with_reducible rfl
  rotate_left
  · simp only [Act.put, List.setIfInBounds_toArray, List.set_cons_zero, List.set_cons_succ]
    rfl
  refine one_ (i := 12) (N := some 38) #[true, true, true, true, true, true, true, true, true, true, true, true, true, false, false, false, false] rfl rfl (by kernel_rfl) (by decide) (fun K hK => ?_)
  refine value_ (w1 := ?_) (v := ?_) (by rfl) rfl ?_ ?_
  rotate_left 2
  · go_simp
    constructor
    · rfl
    · rfl
  refine hK.out _ _ ⟨((HQ4.out.blk.alloc _).cell 1), ((HB4.out.alloc _).cell 0), ((HB4.out.alloc _).cell 1), ((HB4.out.alloc _).cell 2), ((HB4.out.alloc _).cell 3), ((HB4.out.alloc _).cell 4), ((HB4.out.alloc _).cell 5), ((HB4.out.alloc _).cell 6), ((HB4.out.alloc _).cell 7), ((HB4.out.alloc _).cell 8), ((HB4.out.alloc _).cell 9)⟩ (fun hHeld => ?_)
  clear hK K
  refine norm_ (a' := ?_) ?_ ?_
  rotate_left
  · show Act.put _ (some 38) _ = _
    simp only [Act.put, List.setIfInBounds_toArray, List.set_cons_zero, List.set_cons_succ]
    rfl
  refine one_ (i := 13) (N := some 39) #[true, true, true, true, true, true, true, true, true, true, true, true, true, true, false, false, false] rfl rfl (by kernel_rfl) (by decide) (fun K hK => ?_)
  refine step_append_lies _ (by rfl) _ _ _ (by rfl) (g + 1) 151 i9 _ 11 144 Tryz.underlying128 hi9 z9 s9 y9 rfl (by omega) (.slice p L.length cap) L.length (fl L) (by rfl) (World.ownsRow.alloc HQ4.out.own _)
    ⟨w4.heap.size, 0, none⟩ 1 1 (el (y, w3 u)) (by rfl) (by rfl) (World.news_of_block (cs := (el (y, w3 u)).toArray) (t := 151) (fr := (0, 0)) (heap_alloc_new w4 _)) H1.out (by omega) (by unfold maxLen; omega) (by omega) (by simp; omega) (w4.heap.size + 1) (by simp) ?_
  intro g3 cap3 w5 hown hgrow hat hlt
  have HC5 := Lib.hid (grown_row hgrow)
  have HO5 := Lib.hid hown
  have HG5 := Lib.hid ((HQ4.out.blk.alloc (Obj.cells (el (y, w3 u)).toArray 151)).chg (grown_row hgrow) HNg.out)
  have HB5 := Lib.hid ((HB4.out.alloc (Obj.cells (el (y, w3 u)).toArray 151)).chg (grown_row hgrow) HNw.out)
  clear hown hgrow
  have k1 := HG5.out.cell 1
  have fk := HG5.out.frozen 1
  refine hK.out _ _ ⟨(HG5.out.cell 1), (HB5.out.cell 0), (HB5.out.cell 1), (HB5.out.cell 2), (HB5.out.cell 3), (HB5.out.cell 4), (HB5.out.cell 5), (HB5.out.cell 6), (HB5.out.cell 7), (HB5.out.cell 8), (HB5.out.cell 9)⟩ (fun hHeld => ?_)
  clear hK K
  refine norm_ (a' := ?_) ?_ ?_
  rotate_left
  · show Act.put _ (some 39) _ = _
    simp only [Act.put, List.setIfInBounds_toArray, List.set_cons_zero, List.set_cons_succ]
    rfl
  refine pure_ (i := 14) (N := some 40) (v := ?_) (a' := ?_) #[true, true, true, true, true, true, true, true, true, true, true, true, true, true, true, false, false] rfl rfl (by kernel_rfl) (fun _ _ _ h => h) (Or.inl ⟨by rfl, ?_⟩) ?_ ?_
  rotate_left
  · intro w'
    go_simp
    with_reducible rfl
  rotate_left
  · simp only [Act.put, List.setIfInBounds_toArray, List.set_cons_zero, List.set_cons_succ]
    rfl
  refine pure_ (i := 15) (N := some 41) (v := ?_) (a' := ?_) #[true, true, true, true, true, true, true, true, true, true, true, true, true, true, true, true, false] rfl rfl (by kernel_rfl) (fun _ _ _ h => h) (Or.inl ⟨by rfl, ?_⟩) ?_ ?_
  rotate_left
  · intro w'
    go_simp
    with_reducible rfl
  rotate_left
  · simp only [Act.put, List.setIfInBounds_toArray, List.set_cons_zero, List.set_cons_succ]
    rfl
  refine last_ (i := 16) (N := none) #[true, true, true, true, true, true, true, true, true, true, true, true, true, true, true, true, true] rfl rfl (by kernel_rfl) (by decide) (fun K hK => ?_)
  refine skip_ (w1 := ?_) (by rfl) rfl ?_ ?_
  rotate_left
  · go_simp
    rfl
  refine hK.out _ _ ?_
  clear hK K
  refine done_ (by kernel_rfl) ?_
  have hq := HQ4.out.chg ((Chg.refl NoB w4).alloc (Obj.cells (el (y, w3 u)).toArray 151))
  have hs : Chg (Only g) w5 (w5.setCell ⟨g, 1, none⟩ (.slice (some ⟨g3, 0, none⟩) (L.length + 1) cap3)) := (Chg.refl (Only g) w5).setOwn 1 _
  have hr := HQ4.out.rg
  have q6 : QA (w5.setCell ⟨g, 1, none⟩ (.slice (some ⟨g3, 0, none⟩) (L.length + 1) cap3)) g r most now (L ++ [(y, w3 u)]) (.slice (some ⟨g3, 0, none⟩) (L.length + 1) cap3) :=
    ⟨HG5.out.set_ 1 _, (hq.ta.chg HC5.out HNr.out).chg hs (by unfold Only; omega), by
      rw [fl_append, fl_one, List.length_append]
      exact own_apart HO5.out hs, hr, by
      rw [fl_append, fl_one]
      intro v hv
      rcases List.mem_append.1 hv with hv | hv
      · exact HQ4.out.one v hv
      · exact H1.out v hv⟩
  have HQ6 := Lib.hid q6
  have HK6 : Hid (Chg (Qp g r (.slice p L.length cap)) w4 (w5.setCell ⟨g, 1, none⟩ (.slice (some ⟨g3, 0, none⟩) (L.length + 1) cap3))) := Lib.hid ((((Chg.refl (Qp g r (.slice p L.length cap)) w4).alloc (Obj.cells (el (y, w3 u)).toArray 151)).trans (HC5.out.mono fun k _ hk => .inr (.inr hk))).trans (hs.mono fun k _ hk => .inl hk))
  have hat' : ∀ k, (Value.slice (some ⟨g3, 0, none⟩) (L.length + 1) cap3).ownBlock = some k → (Value.slice p L.length cap).ownBlock = some k ∨ w4.heap.size ≤ k := fun k hk => by
    have hk' : g3 = k := Option.some.inj hk
    subst hk'
    rcases hat with hat | hat
    · exact .inl hat
    · exact .inr (by omega)
  have HAT := Lib.hid hat'
  clear hq hs q6 hat'
  go_wp2_with fail
  go_ret
  exact ⟨rfl, y, _, w4, HQ6.out, HZ.out, HC4.out, HK6.out, HAT.out⟩
/-- Put where there is room, and copied does not change the message. -/
theorem put_ok {w : World} {g r : Nat} {most now : Int} {L : List (Ms × Int)} {s : Value} (q : QA w g r most now L s) (x : Ms) (u : Int) (h : (L.length : Int) < most) (hl : L.length ≤ 1000) (h1 : ∀ v ∈ mc x, v.oneCell' = true)
    (hcp : ∀ w1, Chg NoB w w1 → Calls Tryz.prog 175 #[msv x] w1 fun e w' => e = .returned (msv x) ∧ Chg NoB w1 w') :
    Calls Tryz.prog 112 #[.pointer (some ⟨g, 0, none⟩), msv x, .int .i64 u] w fun e w' => e = .returned (.int .i64 0) ∧ (∃ s', QA w' g r most now (L ++ [(x, w3 u)]) s') ∧ Kp r w w' :=
  (put_ft q x u h hl (fun y _ => y = x) fun w1 hw => (hcp w1 hw).mono fun e w' ⟨he, hC⟩ => ⟨x, he, h1, rfl, hC⟩).mono fun e w' ⟨he, y, s', w4, hq, hy, hC, hF, _⟩ => by
    subst hy
    exact ⟨he, ⟨s', hq⟩, (Kp.of_no hC).trans (Kp.of_foot (q.chg hC) hF)⟩
end Go.Proofs.YtoefffjhjmjhfaaGreat
namespace Go.Proofs.YtoefffjhjmjhfaaGreat
open Go.RowKit Go.Proofs.YtoefffjhjmjhfaaGreatW.PrintLast

def bp (p : Ms × Int) : Ms × Int := (p.1, p.2 + 1)
def tk (L : List (Ms × Int)) (k : Nat) : List (Ms × Int) := (L.take k).map bp ++ L.drop k
theorem tk_length (L : List (Ms × Int)) {k : Nat} (h : k ≤ L.length) : (tk L k).length = L.length := by simp [tk]; omega
theorem tk_all (L : List (Ms × Int)) : tk L L.length = L.map bp := by simp [tk]
theorem tk_at (L : List (Ms × Int)) {k : Nat} (h : k < L.length) : (tk L k)[k]'(by rw [tk_length L (by omega)]; exact h) = L[k] := by
  simp only [tk]
  rw [List.getElem_append_right (by simp; omega)]
  simp [Nat.min_eq_left (Nat.le_of_lt h)]
theorem tk_succ (L : List (Ms × Int)) {k : Nat} (h : k < L.length) : tk L (k + 1) = (tk L k).set k (bp L[k]) := by
  simp only [tk]
  rw [List.drop_eq_getElem_cons h, List.take_succ_eq_append_getElem h, List.map_append, List.set_append_right _ _ (by simp; omega)]
  simp only [List.map_cons, List.map_nil, List.append_assoc, List.length_map, List.length_take, Nat.min_eq_left (Nat.le_of_lt h), Nat.sub_self, List.set_cons_zero, List.cons_append, List.nil_append]
theorem fl_set (L : List (Ms × Int)) {k : Nat} (h : k < L.length) (v : Int) : fl (L.set k (L[k].1, v)) = (fl L).set (k * 11 + 10) (.int .i64 v) := by
  induction L generalizing k with
  | nil => simp at h
  | cons p r ih =>
    cases k with
    | zero => rw [List.set_cons_zero, fl_cons, fl_cons, Nat.zero_mul, Nat.zero_add, List.set_append_left _ _ (by simp)]; rfl
    | succ k =>
      have hk : k < r.length := by simpa using h
      rw [List.set_cons_succ, fl_cons, fl_cons, List.set_append_right _ _ (by simp; omega), List.getElem_cons_succ, ih hk]
      congr 2
      simp
      omega
theorem own_set {w : World} {base g n cap k : Nat} {t : TypeId} {xs : List Value} (h : w.ownsRow base t k (.slice (some ⟨g, 0, none⟩) n cap) n xs) {j : Nat} (u : Value) :
    (w.setCell ⟨g, j, none⟩ u).ownsRow base t k (.slice (some ⟨g, 0, none⟩) n cap) n (xs.set j u) := by
  obtain ⟨h1, hr⟩ := h
  refine ⟨by rw [List.length_set]; exact h1, ?_⟩
  rcases hr with ⟨h0, _⟩ | ⟨g', cap', cur, hv, hb, hB, hn, hc, hs, ht⟩
  · cases h0
  · cases hv
    exact .inr ⟨g, cap, _, rfl, hb, Blk.set_ (w := w) hB j u, hn, hc, by rw [Array.size_setIfInBounds]; exact hs, by rw [Array.toList_setIfInBounds, List.take_set, ht]⟩
/-- What lies in the row. -/
theorem own_cell {w : World} {base g n cap : Nat} {L : List (Ms × Int)} (h : w.ownsRow base 151 11 (.slice (some ⟨g, 0, none⟩) n cap) n (fl L)) {j : Nat} (hj : j < n * 11) : w.cell? ⟨g, j, none⟩ = (fl L)[j]? ∧ w.frozen? ⟨g, j, none⟩ = false := by
  obtain ⟨_, hr⟩ := h
  rcases hr with ⟨h0, _⟩ | ⟨g', cap', cur, hv, hb, hB, hn, hc, hs, ht⟩
  · cases h0
  · cases hv
    refine ⟨?_, Blk.frozen (w := w) hB j⟩
    rw [Blk.cell (w := w) hB j, ← ht, List.getElem?_take_of_lt hj, Array.getElem?_toList]
theorem QA.bump {w : World} {g r g' cap : Nat} {most now : Int} {L : List (Ms × Int)} (q : QA w g r most now L (.slice (some ⟨g', 0, none⟩) L.length cap)) {k : Nat} (hk : k < L.length) (v : Int) :
    QA (w.setCell ⟨g', k * 11 + 10, none⟩ (.int .i64 v)) g r most now (L.set k (L[k].1, v)) (.slice (some ⟨g', 0, none⟩) L.length cap) := by
  have hg := (q.own_at (k := g') rfl).1
  have hr := q.rg
  refine ⟨q.blk.far (by show g ≠ g'; omega) _, ⟨q.ta.blk.far (by show r ≠ g'; omega) _, q.ta.lo, q.ta.hi, q.ta.top⟩, ?_, hr, ?_⟩
  · rw [List.length_set, fl_set L hk]
    exact own_set q.own _
  · rw [fl_set L hk]
    intro u hu
    rcases List.mem_or_eq_of_mem_set hu with hu | rfl
    · exact q.one u hu
    · rfl
theorem QA.form1 {w : World} {g r : Nat} {most now : Int} {L : List (Ms × Int)} {s : Value} (q : QA w g r most now L s) (h : 0 < L.length) : ∃ g' cap, s = .slice (some ⟨g', 0, none⟩) L.length cap ∧ L.length ≤ cap := by
  obtain ⟨_, ho⟩ := q.own
  rcases ho with ⟨rfl, h0⟩ | ⟨g', cap, cur, rfl, _, _, hc, _⟩
  · omega
  · exact ⟨_, _, rfl, hc⟩
theorem QA.wt {w : World} {g r g' cap : Nat} {most now : Int} {L : List (Ms × Int)} (q : QA w g r most now L (.slice (some ⟨g', 0, none⟩) L.length cap)) {k j : Nat} (hk : k < L.length) (hj : j < 11) :
    w.cell? ⟨g', k * 11 + j, none⟩ = (el L[k])[j]? ∧ w.frozen? ⟨g', k * 11 + j, none⟩ = false := by
  obtain ⟨h1, h2⟩ := own_cell q.own (j := k * 11 + j) (by omega)
  exact ⟨h1.trans (fl_at L hk hj), h2⟩
set_option maxHeartbeats 2000000 in
theorem tick_ft {w : World} {g r : Nat} {most now : Int} {L : List (Ms × Int)} {s : Value} (q : QA w g r most now L s) (hB : ∀ p ∈ L, 0 ≤ p.2 ∧ p.2 < 4611686018427387904) (hl : L.length ≤ 1000) :
    Calls Tryz.prog 24 #[.pointer (some ⟨g, 0, none⟩)] w fun e w' => e = .returned (.tuple #[]) ∧ QA w' g r most now (L.map bp) s ∧ Chg (Qp g r s) w w' := by
  have HQ := Lib.hid q
  obtain ⟨p, cap, rfl⟩ := q.form
  have c1 := q.blk.cell 1
  clear q
  go_enter Tryz.func24, Tryz.ntmps24
  go_wp2_with fail
  clear c1
  go_loopw [10] (fun i wr => ∃ k : Nat, k ≤ L.length ∧ i = .int .i64 k ∧ QA wr g r most now (tk L k) (.slice p L.length cap) ∧ Chg (Qp g r (.slice p L.length cap)) w wr) (fun i _ => L.length - (intOf i).toNat)
  case atStart => exact ⟨0, Nat.zero_le _, rfl, HQ.out, Chg.refl _ w⟩
  case round =>
    obtain ⟨k, hk, rfl, hq, hK⟩ := hrel
    have HQ := Lib.hid hq
    have HK := Lib.hid hK
    have c1 := hq.blk.cell 1
    clear hq hK
    by_cases hlt : k < L.length
    · have hk2 : decide ((k : Int) < (L.length : Int)) = true := by simpa using hlt
      have hkt : k < (tk L k).length := by rw [tk_length L hk]; exact hlt
      obtain ⟨g', cap', hs, hcap⟩ := HQ.out.form1 (by omega)
      rw [tk_length L hk] at hs hcap
      obtain ⟨rfl, rfl⟩ : p = some ⟨g', 0, none⟩ ∧ cap = cap' := by simpa using hs
      have HQ2 : Hid (QA wr g r most now (tk L k) (.slice (some ⟨g', 0, none⟩) (tk L k).length cap)) := Lib.hid (by rw [tk_length L hk]; exact HQ.out)
      have hw := HQ2.out.wt hkt (j := 10) (by decide)
      rw [tk_at L hlt] at hw
      have hc : wr.cell? ⟨g', k * 11 + 10, none⟩ = some (.int .i64 L[k].2) := hw.1
      have hf := hw.2
      obtain ⟨hb0, hb1⟩ := hB L[k] (List.getElem_mem hlt)
      have HS : Hid (QA (wr.setCell ⟨g', k * 11 + 10, none⟩ (.int .i64 (L[k].2 + 1))) g r most now (tk L (k + 1)) (.slice (some ⟨g', 0, none⟩) L.length cap)) := Lib.hid (by
        have h := HQ2.out.bump hkt (L[k].2 + 1)
        rw [tk_at L hlt] at h
        have e := tk_length L hk
        rw [e] at h
        rw [tk_succ L hlt]
        exact h)
      have hrg := HQ.out.rg
      have HK2 := Lib.hid (HK.out.trans ((Chg.refl (Qp g r (.slice (some ⟨g', 0, none⟩) L.length cap)) wr).setCell (p := ⟨g', k * 11 + 10, none⟩) (.inl (.inr (.inr rfl))) (.int .i64 (L[k].2 + 1))))
      clear hw hs HQ HQ2 HK
      generalize L[k].2 = v at *
      have h0 : (0 : Int) ≤ (k : Int) := by omega
      have h2 : (k : Int) < (L.length : Int) := by omega
      go_wp2_with fail
      go_roundw
      case rel => exact ⟨k + 1, by omega, by go_num, HS.out, HK2.out⟩
      case measure => simp [intOf]; omega
    · obtain rfl : k = L.length := by omega
      have hk2 : decide ((L.length : Int) < (L.length : Int)) = false := by simp
      have HQ2 := Lib.hid (tk_all L ▸ HQ.out)
      go_wp2_with fail
      go_end0
      exact ⟨rfl, HQ2.out, HK.out⟩
theorem tick_any {w : World} {g r : Nat} {most now : Int} {L : List (Ms × Int)} {s : Value} (q : QA w g r most now L s) (hB : ∀ p ∈ L, 0 ≤ p.2 ∧ p.2 < 4611686018427387904) (hl : L.length ≤ 1000) :
    Calls Tryz.prog 24 #[.pointer (some ⟨g, 0, none⟩)] w fun e w' => e = .returned (.tuple #[]) ∧ QA w' g r most now (L.map bp) s ∧ Kp r w w' :=
  (tick_ft q hB hl).mono fun _ _ ⟨he, hq, hC⟩ => ⟨he, hq, Kp.of_foot q hC⟩
end Go.Proofs.YtoefffjhjmjhfaaGreat
namespace Go.Proofs.YtoefffjhjmjhfaaGreat
open Go.RowKit Go.Proofs.YtoefffjhjmjhfaaGreatW.PrintLast

theorem fl_take (L : List (Ms × Int)) (i : Nat) : (fl L).take (i * 11) = fl (L.take i) := by
  induction L generalizing i with
  | nil => simp [fl]
  | cons p r ih =>
    cases i with
    | zero => simp [fl]
    | succ i =>
      rw [List.take_succ_cons, fl_cons, fl_cons, List.take_append, List.take_of_length_le (by simp; omega), ← ih i]
      congr 2
      simp
      omega
theorem fl_drop (L : List (Ms × Int)) (i : Nat) : (fl L).drop (i * 11) = fl (L.drop i) := by
  induction L generalizing i with
  | nil => simp [fl]
  | cons p r ih =>
    cases i with
    | zero => simp
    | succ i =>
      rw [List.drop_succ_cons, fl_cons, List.drop_append, List.drop_of_length_le (by simp; omega), List.nil_append, ← ih i]
      congr 1
      simp
      omega
def setL (xs : List Value) : Nat → List Value → List Value
  | _, [] => xs
  | o, v :: r => setL (xs.set o v) (o + 1) r
theorem setL_eq : ∀ (vs : List Value) (o : Nat) (xs : List Value), o + vs.length ≤ xs.length → setL xs o vs = xs.take o ++ vs ++ xs.drop (o + vs.length)
  | [], o, xs, _ => by simp [setL]
  | v :: r, o, xs, h => by
    simp only [List.length_cons] at h
    rw [setL, setL_eq r (o + 1) (xs.set o v) (by rw [List.length_set]; omega)]
    have ho : o < xs.length := by omega
    have e1 : (xs.set o v).take (o + 1) = xs.take o ++ [v] := by
      rw [List.take_set, List.take_succ_eq_append_getElem ho, List.set_append_right _ _ (by simp; omega)]
      simp [Nat.min_eq_left (Nat.le_of_lt ho)]
    have e2 : (xs.set o v).drop (o + 1 + r.length) = xs.drop (o + (r.length + 1)) := by
      rw [List.drop_set_of_lt (by omega)]
      congr 1
      omega
    rw [e1, e2]
    simp
theorem own_setCells {base g n cap k : Nat} {t : TypeId} : ∀ (vs : List Value) (o : Nat) (w : World) (xs : List Value), w.ownsRow base t k (.slice (some ⟨g, 0, none⟩) n cap) n xs → (w.setCells g o vs).ownsRow base t k (.slice (some ⟨g, 0, none⟩) n cap) n (setL xs o vs)
  | [], _, _, _, h => h
  | v :: r, o, _, _, h => own_setCells r (o + 1) _ _ (own_set h v)
theorem chg_setCells {S : Nat → Prop} {w0 : World} {g : Nat} (hg : S g ∨ w0.heap.size ≤ g) : ∀ (vs : List Value) (o : Nat) (w : World), Chg S w0 w → Chg S w0 (w.setCells g o vs)
  | [], _, _, h => h
  | v :: r, o, _, h => chg_setCells hg r (o + 1) _ (h.setCell (p := ⟨g, o, none⟩) hg v)
theorem own_shrink {w : World} {base g n m cap k : Nat} {t : TypeId} {xs : List Value} (h : w.ownsRow base t k (.slice (some ⟨g, 0, none⟩) n cap) n xs) (hm : m ≤ n) : w.ownsRow base t k (.slice (some ⟨g, 0, none⟩) m cap) m (xs.take (m * k)) := by
  obtain ⟨h1, hr⟩ := h
  have hmk : m * k ≤ n * k := Nat.mul_le_mul_right k hm
  refine ⟨by rw [List.length_take, h1]; omega, ?_⟩
  rcases hr with ⟨h0, _⟩ | ⟨g', cap', cur, hv, hb, hB, hn, hc, hs, ht⟩
  · cases h0
  · cases hv
    exact .inr ⟨g, cap, cur, rfl, hb, hB, by omega, hc, hs, by rw [← ht, List.take_take, Nat.min_eq_left hmk]⟩
theorem own_cap {w : World} {base g n cap k : Nat} {t : TypeId} {xs : List Value} (h : w.ownsRow base t k (.slice (some ⟨g, 0, none⟩) n cap) n xs) : n ≤ cap ∧ cap ≤ 9223372036854775807 := by
  obtain ⟨_, hr⟩ := h
  rcases hr with ⟨h0, _⟩ | ⟨g', cap', cur, hv, hb, hB, hn, hc, hs, ht⟩
  · cases h0
  · cases hv
    exact ⟨hn, by unfold maxLen at hc; omega⟩
abbrev zw : List Value := el (msz, 0)
theorem clear_one (w : World) (b o c : Nat) (hc : ∀ j, j < 11 → (w.cell? ⟨b, o + j, none⟩).isSome = true ∧ w.frozen? ⟨b, o + j, none⟩ = false) (ty : TypeId) :
    (Builtin.clear_ #[128] ty #[.slice (some ⟨b, o, none⟩) 1 c]).run Tryz.prog w = .ok (.tuple #[]) (w.setCells b o zw) := by
  have hz : ∀ w, (zeroValue 151).run Tryz.prog w = .ok (.agg zw.toArray) w := fun w => by kernel_rfl
  have hst := run_storeCells_cells (P := Tryz.prog) b o zw 0 w (fun j hj => by rw [Nat.add_zero]; exact (hc j hj).1) (fun j hj => by rw [Nat.add_zero]; exact (hc j hj).2) (by intro v hv; simp only [List.mem_cons, List.not_mem_nil, or_false] at hv; rcases hv with rfl | rfl | rfl | rfl | rfl | rfl | rfl | rfl | rfl | rfl | rfl <;> rfl)
  have hzc : (Builtin.zeroCells (Value.agg zw.toArray).cells 1).toList = zw := by kernel_rfl
  simp only [Nat.add_zero] at hst
  simp [Builtin.clear_, run_underlying Tryz.underlying128, hz, hzc, hst]
set_option maxRecDepth 100000 in
set_option maxHeartbeats 4000000 in
theorem del_any (base b cap N i : Nat) (L : List (Ms × Int)) (w : World) (hL : L.length = N + 1) (hi : i ≤ N) (hown : w.ownsRow base 151 11 (.slice (some ⟨b, 0, none⟩) (N + 1) cap) (N + 1) (fl L)) (h1 : ∀ u ∈ fl L, u.oneCell' = true) :
    Calls Tryz.prog 130 #[.slice (some ⟨b, 0, none⟩) (N + 1 : Nat) cap, .int .i64 i, .int .i64 (i + 1 : Nat)] w fun e w' => e = .returned (.slice (some ⟨b, 0, none⟩) N cap) ∧ w'.ownsRow base 151 11 (.slice (some ⟨b, 0, none⟩) N cap) N (fl (L.eraseIdx i)) ∧ Chg (Only b) w w' := by
  obtain ⟨hcap, hmax⟩ := own_cap hown
  obtain ⟨i9, hi9, z9, s9, y9⟩ := info_parts Tryz.infW
  have hcell : ∀ j, j < (N + 1) * 11 → w.cell? ⟨b, j, none⟩ = (fl L)[j]? ∧ w.frozen? ⟨b, j, none⟩ = false := fun j hj => own_cell hown hj
  obtain ⟨news, hnews⟩ : ∃ news, news = fl (L.drop (i + 1)) := ⟨_, rfl⟩
  have hlen : news.length = (N - i) * 11 := by rw [hnews, fl_length, List.length_drop, hL]; congr 1; omega
  obtain ⟨A, hA, hsrc⟩ : ∃ A : Addr, (if cap = i + 1 then some (⟨b, 0, none⟩ : Addr) else some ⟨b, (i + 1) * 11, none⟩) = some A ∧ Hid (∀ t u, news[t]? = some u → w.drew.cell? (A.add t) = some u) := by
    by_cases h : cap = i + 1
    · refine ⟨⟨b, 0, none⟩, by simp [h], fun t u hu => ?_⟩
      have h0 : news.length = 0 := by rw [hlen]; omega
      rw [List.length_eq_zero_iff.1 h0] at hu
      simp at hu
    · refine ⟨⟨b, (i + 1) * 11, none⟩, by simp [h], fun t u hu => ?_⟩
      have ht : t < (N - i) * 11 := by
        have := (List.getElem?_eq_some_iff.1 hu).1
        rwa [hlen] at this
      rw [Addr.add_lit]
      refine (hcell ((i + 1) * 11 + t) (by omega)).1.trans ?_
      rw [← List.getElem?_drop, fl_drop, ← hnews]
      exact hu
  have s1 : Hid (news.length = (N - i) * 11) := hlen
  have s2 : Hid (∀ u ∈ news, u.oneCell' = true) := fun u hu => h1 u (List.mem_of_mem_drop (i := (i + 1) * 11) (by rw [fl_drop, ← hnews]; exact hu))
  have s3 : Hid (∀ t, t < news.length → (w.drew.cell? ⟨b, 0 + i * 11 + t, none⟩).isSome = true ∧ w.drew.frozen? ⟨b, 0 + i * 11 + t, none⟩ = false) := by
    intro t ht
    rw [hlen] at ht
    rw [Nat.zero_add]
    have h := hcell (i * 11 + t) (by omega)
    refine ⟨?_, h.2⟩
    show (w.cell? _).isSome = true
    rw [h.1, List.getElem?_eq_getElem (by rw [fl_length, hL]; omega)]
    rfl
  obtain ⟨W1, hW1⟩ : ∃ W1, W1 = w.drew.setCells b (0 + i * 11) news := ⟨_, rfl⟩
  have hO1 : W1.ownsRow base 151 11 (.slice (some ⟨b, 0, none⟩) (N + 1) cap) (N + 1) (setL (fl L) (0 + i * 11) news) := by rw [hW1]; exact own_setCells news _ _ _ hown
  have hC1 : Chg (Only b) w W1 := by rw [hW1]; exact chg_setCells (S := Only b) (.inl rfl) news _ _ (Chg.refl (Only b) w).drew
  have hcl := fun ty => clear_one W1 b (N * 11) (cap - N) (fun j hj => by
    have h := hO1
    obtain ⟨_, hr⟩ := h
    rcases hr with ⟨h0, _⟩ | ⟨g', cap', cur, hv, hb, hB, hn, hc, hs, ht⟩
    · cases h0
    · cases hv
      exact ⟨by rw [Blk.cell (w := W1) hB, Array.getElem?_eq_getElem (by omega)]; rfl, Blk.frozen (w := W1) hB _⟩) ty
  have hW : Hid (W1 = w.drew.setCells b (0 + i * 11) news) := hW1
  have HO := Lib.hid hO1
  have HC := Lib.hid hC1
  have HN := Lib.hid hnews
  have HL := Lib.hid hL
  have hic : i ≤ cap := by omega
  have hjc : i + 1 ≤ cap := by omega
  have hNi : N - i + i = N := by omega
  have hne : i ≠ i + 1 := by omega
  have hcN : ¬ cap = N := by omega
  have h01 : (0 : Int) ≤ (i : Int) + 1 := by omega
  have h02 : (i : Int) + 1 ≤ (N : Int) + 1 := by omega
  clear hW1 hO1 hC1 hcell hlen hown h1 hnews hL
  go_enter Tryz.func130, Tryz.ntmps130
  go_wp2_with fail
  refine start_ (n := 8) (S := fun w' => True) (ds := []) #[false, false, false, false, false, false, false, false] (by kernel_rfl) rfl rfl trivial (fun hHeld => ?_)
  refine pure_ (i := 0) (N := some 20) (v := ?_) (a' := ?_) #[true, false, false, false, false, false, false, false] rfl rfl (by kernel_rfl) (fun _ _ _ h => h) (Or.inl ⟨by rfl, ?_⟩) ?_ ?_
  rotate_left
  · intro w'
    go_simp
    with_reducible rfl
  rotate_left
  · simp only [Act.put, List.setIfInBounds_toArray, List.set_cons_zero, List.set_cons_succ]
    rfl
  refine pure_ (i := 1) (N := some 21) (v := ?_) (a' := ?_) #[true, true, false, false, false, false, false, false] rfl rfl (by kernel_rfl) (fun _ _ _ h => h) (Or.inl ⟨by rfl, ?_⟩) ?_ ?_
  rotate_left
  · intro w'
    go_simp
    with_reducible rfl
  rotate_left
  · simp only [Act.put, List.setIfInBounds_toArray, List.set_cons_zero, List.set_cons_succ]
    rfl
  refine pure_ (i := 2) (N := some 22) (v := ?_) (a' := ?_) #[true, true, true, false, false, false, false, false] rfl rfl (by kernel_rfl) (fun _ _ _ h => h) (Or.inl ⟨by rfl, ?_⟩) ?_ ?_
  rotate_left
  · intro w'
    go_simp
    with_reducible rfl
  rotate_left
  · simp only [Act.put, List.setIfInBounds_toArray, List.set_cons_zero, List.set_cons_succ]
    rfl
  refine pure_ (i := 3) (N := some 23) (v := ?_) (a' := ?_) #[true, true, true, true, false, false, false, false] rfl rfl (by kernel_rfl) (fun _ _ _ h => h) (Or.inl ⟨by rfl, ?_⟩) ?_ ?_
  rotate_left
  · intro w'
    go_simp
    with_reducible rfl
  rotate_left
  · simp only [Act.put, List.setIfInBounds_toArray, List.set_cons_zero, List.set_cons_succ]
    rfl
  refine pure_ (i := 4) (N := some 24) (v := ?_) (a' := ?_) #[true, true, true, true, true, false, false, false] rfl rfl (by kernel_rfl) (fun _ _ _ h => h) (Or.inl ⟨by rfl, ?_⟩) ?_ ?_
  rotate_left
  · intro w'
    go_simp
    with_reducible rfl
  rotate_left
  · simp only [Act.put, List.setIfInBounds_toArray, List.set_cons_zero, List.set_cons_succ]
    rfl
  refine pure_ (i := 5) (N := some 25) (v := ?_) (a' := ?_) #[true, true, true, true, true, true, false, false] rfl rfl (by kernel_rfl) (fun _ _ _ h => h) (Or.inl ⟨by rfl, ?_⟩) ?_ ?_
  rotate_left
  · intro w'
    go_simp
    with_reducible rfl
  rotate_left
  · simp only [Act.put, List.setIfInBounds_toArray, List.set_cons_zero, List.set_cons_succ]
    rfl
  refine one_ (i := 6) (N := some 26) #[true, true, true, true, true, true, true, false] rfl rfl (by kernel_rfl) (by decide) (fun K hK => ?_)
  refine step_append_room rfl (.tmp 22) (.tmp 25) 128 rfl 151 i9 11 Tryz.underlying128 hi9 s9 b 0 i cap (by simp [Act.eval]) A (N - i) (cap - (i + 1)) news (by simp [Act.eval]) s1.out hsrc.out s2.out (by omega) s3.out ?_
  rw [← hW.out]
  refine hK.out _ _ trivial (fun hHeld => ?_)
  clear hK K
  refine norm_ (a' := ?_) ?_ ?_
  rotate_left
  · show Act.put _ (some 26) _ = _
    simp only [Act.put, List.setIfInBounds_toArray, List.set_cons_zero, List.set_cons_succ]
    rfl
  refine pure_ (i := 7) (N := some 0) (v := ?_) (a' := ?_) #[true, true, true, true, true, true, true, true] rfl rfl (by kernel_rfl) (fun _ _ _ h => h) (Or.inl ⟨by rfl, ?_⟩) ?_ ?_
  rotate_left
  · intro w'
    go_simp
    with_reducible rfl
  rotate_left
  · simp only [Act.put, List.setIfInBounds_toArray, List.set_cons_zero]
    rfl
  refine done_ (by kernel_rfl) ?_
  go_wp2_with fail
  go_ret
  refine ⟨rfl, ?_, chg_setCells (S := Only b) (.inl rfl) zw _ _ HC.out⟩
  have h := own_shrink (own_setCells zw (N * 11) _ _ HO.out) (Nat.le_succ N)
  have hLl := HL.out
  have hfl : (fl L).length = (N + 1) * 11 := by rw [fl_length, hLl]
  have hnl := s1.out
  have e1 : setL (fl L) (0 + i * 11) news = (fl L).take (i * 11) ++ news ++ (fl L).drop (i * 11 + news.length) := by
    rw [Nat.zero_add]
    exact setL_eq news _ _ (by omega)
  have e2 : (setL (fl L) (0 + i * 11) news).length = (N + 1) * 11 := by
    rw [e1]
    simp only [List.length_append, List.length_take, List.length_drop]
    omega
  have e3 : (setL (setL (fl L) (0 + i * 11) news) (N * 11) zw).take (N * 11) = fl (L.eraseIdx i) := by
    rw [setL_eq zw _ _ (by rw [e2]; simp; omega), List.append_assoc, List.take_append_of_le_length (by rw [List.length_take, e2]; omega), List.take_take, Nat.min_self, e1]
    rw [List.take_append_of_le_length (by rw [List.length_append, List.length_take, hnl, hfl]; omega)]
    rw [List.take_of_length_le (by rw [List.length_append, List.length_take, hnl, hfl]; omega), fl_take, HN.out, ← fl_append, List.eraseIdx_eq_take_drop_succ]
  rw [e3] at h
  exact h
end Go.Proofs.YtoefffjhjmjhfaaGreat
namespace Go.Proofs.YtoefffjhjmjhfaaGreat
open Go.RowKit Go.Proofs.YtoefffjhjmjhfaaGreatW.PrintLast

theorem back_ms2 {fn : Func} {p u : Tmp} (h : fn.results = #[.cell p 40, .tmp u]) {R : Ending → World → Prop} {a : Act} {w : World} {b : Nat} (x : Ms) (v : Value) (hp : a.tmps.getD p undef = .pointer (some ⟨b, 0, none⟩)) (hu : a.tmps.getD u undef = v) (hB : Blk w b 40 (mc x)) (hd : a.defers = [])
    (hR : R (.returned (.tuple #[msv x, v])) w) : bodyPost Tryz.prog fn R .ret a w := by
  refine bodyPost_ret ?_ hd hR
  rw [results_cell_tmp h, hp, hu]
  have hl := run_loadVar_row (P := Tryz.prog) w b 40 40 (mc x) (0, 0) _ hB Tryz.underlying40 rfl (by kernel_rfl)
  simp [asAddr, hl]
def wt (L : List (Ms × Int)) (j : Nat) : Int := (L.getD j (msz, 0)).2
theorem wt_at (L : List (Ms × Int)) {j : Nat} (h : j < L.length) : wt L j = L[j].2 := by simp [wt, h]
/-- The first of the greatest among the first k. -/
structure Bst (L : List (Ms × Int)) (k c : Nat) : Prop where
  le : ∀ j, j < k → wt L j ≤ wt L c
  lt : ∀ j, j < c → wt L j < wt L c
  at0 : k = 0 → c = 0
theorem Bst.stay {L : List (Ms × Int)} {k c : Nat} (h : Bst L k c) (hk : wt L k ≤ wt L c) : Bst L (k + 1) c :=
  ⟨fun j hj => by rcases Nat.lt_succ_iff_lt_or_eq.1 hj with h1 | rfl; exact h.le j h1; exact hk, h.lt, fun h0 => by omega⟩
theorem Bst.move {L : List (Ms × Int)} {k c : Nat} (h : Bst L k c) (hk : wt L c < wt L k) : Bst L (k + 1) k :=
  ⟨fun j hj => by rcases Nat.lt_succ_iff_lt_or_eq.1 hj with h1 | rfl; exact Int.le_trans (h.le j h1) (Int.le_of_lt hk); exact Int.le_refl _, fun j hj => Int.lt_of_le_of_lt (h.le j hj) hk, fun h0 => by omega⟩
theorem take_empty {w : World} {g r : Nat} {most now : Int} {s : Value} (q : QA w g r most now [] s) :
    Calls Tryz.prog 70 #[.pointer (some ⟨g, 0, none⟩)] w fun e w' => e = .returned (.tuple #[msv msz, .bool false]) ∧ QA w' g r most now [] s ∧ Kp r w w' := by
  have HQ := Lib.hid q
  clear q
  go_enter Tryz.func70, Tryz.ntmps70
  go_wp2_with fail
  have HQ2 := Lib.hid (HQ.out.chg ((Chg.refl NoB w).alloc (Obj.cells (mc msz) 40)))
  have HB := Lib.hid (Blk.new w 40 (mc msz))
  have HC := Lib.hid ((Chg.refl NoB w).alloc (Obj.cells (mc msz) 40))
  generalize w.alloc (Obj.cells _ 40) = W at *
  refine (len_any HQ2.out).mono ?_
  rintro e w1 ⟨rfl, rfl⟩
  obtain ⟨c0, c1, c2, c3, c4, c5, c6, c7, c8, c9⟩ := ten HB.out
  obtain ⟨f0, f1, f2, f3, f4, f5, f6, f7, f8, f9, f10⟩ := ten_frozen HB.out
  go_wp2_with fail
  have hz := ten_chg HC.out (.inr (Nat.le_refl _)) (.int .i64 0) (.int .i64 0) (.int .i64 0) (.int .i64 0) (.int .i64 0) (.string ⟨#[]⟩) (.int .i64 0) nil_ nil_ nil_
  exact back_ms2 rfl msz (.bool false) rfl rfl (ten_set HB.out _ _ _ _ _ _ _ _ _ _) rfl ⟨rfl, HQ.out.chg hz, Kp.of_no hz⟩
theorem QA.chg_ {S : Nat → Prop} {w w' : World} {g r : Nat} {most now : Int} {L : List (Ms × Int)} {s : Value} (q : QA w g r most now L s) (h : Chg S w w') (hg : ¬ S g) (hr : ¬ S r) (hs : ∀ k, s.ownBlock = some k → ¬ S k) : QA w' g r most now L s :=
  ⟨q.blk.chg h hg, q.ta.chg h hr, by
    obtain ⟨h1, hr⟩ := q.own
    refine ⟨h1, ?_⟩
    rcases hr with h0 | ⟨g', cap, cur, hv, hb, hB, hrest⟩
    · exact .inl h0
    · exact .inr ⟨g', cap, cur, hv, hb, Blk.chg (w := w) hB h (hs g' (by rw [hv]; rfl)), hrest⟩, q.rg, q.one⟩
theorem Kp.fresh {r b : Nat} {w w1 w2 : World} (h : Kp r w w1) (k : Chg (Only b) w1 w2) (hb : w.heap.size ≤ b) : Kp r w w2 :=
  ⟨h.chg.then_ k (fun j hj hs => by unfold Only at hs; omega), fun x t cs h1 h2 h3 hx => (h.kept x t cs h1 h2 h3 hx).chg k (by have := hx.lt; unfold Only; omega)⟩
theorem del_len (base b cap i : Nat) (L : List (Ms × Int)) (w : World) (hi : i < L.length) (hown : w.ownsRow base 151 11 (.slice (some ⟨b, 0, none⟩) L.length cap) L.length (fl L)) (h1 : ∀ u ∈ fl L, u.oneCell' = true) :
    Calls Tryz.prog 130 #[.slice (some ⟨b, 0, none⟩) L.length cap, .int .i64 i, .int .i64 ((i : Int) + 1)] w fun e w' => e = .returned (.slice (some ⟨b, 0, none⟩) (L.eraseIdx i).length cap) ∧ w'.ownsRow base 151 11 (.slice (some ⟨b, 0, none⟩) (L.eraseIdx i).length cap) (L.eraseIdx i).length (fl (L.eraseIdx i)) ∧ Chg (Only b) w w' := by
  obtain ⟨N, hN⟩ : ∃ N, L.length = N + 1 := ⟨L.length - 1, by omega⟩
  have hE : (L.eraseIdx i).length = N := by rw [List.length_eraseIdx_of_lt hi]; omega
  rw [hE]
  rw [hN] at hown ⊢
  exact del_any base b cap N i L w hN (by omega) hown h1
/-- What a Take that takes something comes to. -/
structure TookF (w : World) (g r : Nat) (most now : Int) (L : List (Ms × Int)) (s : Value) (e : Ending) (w' : World) : Prop where
  at_ : ∃ b, ∃ h : b < L.length, Bst L L.length b ∧ e = .returned (.tuple #[msv L[b].1, .bool true]) ∧ ∃ s', QA w' g r most now (L.eraseIdx b) s' ∧ s'.ownBlock = s.ownBlock
  chg : Chg (Qp g r s) w w'
/-- What a Take that takes something comes to. -/
structure Took (w : World) (g r : Nat) (most now : Int) (L : List (Ms × Int)) (e : Ending) (w' : World) : Prop where
  at_ : ∃ b, ∃ h : b < L.length, Bst L L.length b ∧ e = .returned (.tuple #[msv L[b].1, .bool true]) ∧ ∃ s', QA w' g r most now (L.eraseIdx b) s'
  kp : Kp r w w'
set_option maxRecDepth 100000 in
set_option maxHeartbeats 4000000 in
theorem take_ft {w : World} {g r : Nat} {most now : Int} {L : List (Ms × Int)} {s : Value} (q : QA w g r most now L s) (hL : 0 < L.length) (hl : L.length ≤ 1000) :
    Calls Tryz.prog 70 #[.pointer (some ⟨g, 0, none⟩)] w (TookF w g r most now L s) := by
  obtain ⟨g', cap, rfl, hcap⟩ := q.form1 hL
  have HQ0 := Lib.hid q
  have HL3 : Hid (r < g ∧ g < g' ∧ g' < w.heap.size) := Lib.hid ⟨q.rg, (q.own_at (k := g') rfl).1, by
    obtain ⟨cur, hB⟩ := (q.own_at (k := g') rfl).2
    exact hB.lt⟩
  clear q
  go_enter Tryz.func70, Tryz.ntmps70
  go_wp2_with fail
  have HQ := Lib.hid (HQ0.out.chg ((Chg.refl NoB w).alloc (Obj.cells (mc msz) 40)))
  have HB := Lib.hid (Blk.new w 40 (mc msz))
  have HC := Lib.hid ((Chg.refl NoB w).alloc (Obj.cells (mc msz) 40))
  clear HQ0
  generalize w.alloc (Obj.cells _ 40) = W at *
  refine (len_any HQ.out).mono ?_
  rintro e w1 ⟨rfl, rfl⟩
  have hne : ((L.length : Int) == 0) = false := beq_eq_false_iff_ne.2 (by omega)
  have c1 := HQ.out.blk.cell 1
  go_wp2_with fail
  clear c1
  go_loopw [4, 17] (fun b i wr => ∃ k c : Nat, k ≤ L.length ∧ c < L.length ∧ i = .int .i64 k ∧ b = .int .i64 c ∧ Bst L k c ∧ QA wr g r most now L (.slice (some ⟨g', 0, none⟩) L.length cap) ∧ Blk wr w.heap.size 40 (mc msz) ∧ Chg NoB w wr) (fun _ i _ => L.length - (intOf i).toNat)
  case atStart => exact ⟨0, 0, Nat.zero_le _, hL, rfl, rfl, ⟨fun j hj => by omega, fun j hj => by omega, fun _ => rfl⟩, HQ.out, HB.out, HC.out⟩
  case round =>
    clear HQ HB HC
    obtain ⟨k, c, hk, hc, rfl, rfl, hb, hq, hB, hC⟩ := hrel
    have HBst := Lib.hid hb
    have HQ := Lib.hid hq
    have HB := Lib.hid hB
    have HC := Lib.hid hC
    have c1 := hq.blk.cell 1
    clear hb hq hB hC
    by_cases hlt : k < L.length
    · have hk2 : decide ((k : Int) < (L.length : Int)) = true := by simpa using hlt
      have hk3 : (k : Int) < (L.length : Int) := by omega
      have hk4 : (0 : Int) ≤ (k : Int) := by omega
      have hc3 : (c : Int) < (L.length : Int) := by omega
      have hc4 : (0 : Int) ≤ (c : Int) := by omega
      have k0 := (HQ.out.wt hlt (j := 0) (by decide)).1
      have k1 := (HQ.out.wt hlt (j := 1) (by decide)).1
      have k2 := (HQ.out.wt hlt (j := 2) (by decide)).1
      have k3 := (HQ.out.wt hlt (j := 3) (by decide)).1
      have k4 := (HQ.out.wt hlt (j := 4) (by decide)).1
      have k5 := (HQ.out.wt hlt (j := 5) (by decide)).1
      have k6 := (HQ.out.wt hlt (j := 6) (by decide)).1
      have k7 := (HQ.out.wt hlt (j := 7) (by decide)).1
      have k8 := (HQ.out.wt hlt (j := 8) (by decide)).1
      have k9 := (HQ.out.wt hlt (j := 9) (by decide)).1
      have k10 := (HQ.out.wt hlt (j := 10) (by decide)).1
      have hwk := wt_at L hlt
      have hwc := wt_at L hc
      simp only [el, List.getElem?_cons_zero, List.getElem?_cons_succ] at k0 k1 k2 k3 k4 k5 k6 k7 k8 k9 k10
      rw [← hwk] at k10
      rw [Nat.add_zero] at k0
      have H1 := Lib.hid (fun u hu => HQ.out.one u (List.mem_flatMap.2 ⟨L[k], List.getElem_mem hlt, hu⟩) : ∀ u ∈ el L[k], u.oneCell' = true)
      generalize L[k] = x at *
      have o7 := fun (a : Addr) (w : World) => run_store Tryz.prog w a x.1.e .plain (H1.out _ (by simp))
      have o8 := fun (a : Addr) (w : World) => run_store Tryz.prog w a x.1.d .plain (H1.out _ (by simp))
      have o9 := fun (a : Addr) (w : World) => run_store Tryz.prog w a x.1.m .plain (H1.out _ (by simp))
      go_wp2_with fail
      have HQ2 := Lib.hid (HQ.out.chg ((Chg.refl NoB wr).alloc (Obj.cells (el x).toArray 151)))
      have HB2 := Lib.hid (HB.out.alloc (Obj.cells (el x).toArray 151))
      have HC2 := Lib.hid (HC.out.alloc (Obj.cells (el x).toArray 151))
      have hx : (wr.alloc (Obj.cells (el x).toArray 151)).cell? ⟨wr.heap.size, 10, none⟩ = some (.int .i64 x.2) := (Blk.new wr 151 (el x).toArray).cell 10
      generalize wr.alloc (Obj.cells _ 151) = W2 at *
      clear HQ HB HC c1 k0 k1 k2 k3 k4 k5 k6 k7 k8 k9 k10 o7 o8 o9 H1
      have c1 := HQ2.out.blk.cell 1
      have hy := (HQ2.out.wt hc (j := 10) (by decide)).1
      simp only [el, List.getElem?_cons_zero, List.getElem?_cons_succ] at hy
      rw [← hwc] at hy
      rw [← hwk] at hx
      clear hwc hwk
      by_cases hgt : wt L c < wt L k
      · have hg2 : decide (wt L c < wt L k) = true := by simpa using hgt
        have HBk := Lib.hid (HBst.out.move hgt)
        clear hgt
        go_quiet (fail)
        have HQ3 := Lib.hid (HQ2.out.chg ((Chg.refl NoB W2).drewN nq))
        have HB3 := Lib.hid (HB2.out.drewN nq)
        have HC3 := Lib.hid (HC2.out.drewN nq)
        clear HQ2 HB2 HC2 c1 hy hx
        generalize W2.drewN nq = W3 at *
        go_wp2_with fail
        go_roundw
        case rel => exact ⟨k + 1, k, by omega, hlt, by go_num, rfl, HBk.out, HQ3.out, HB3.out, HC3.out⟩
        case measure => simp [intOf]; omega
      · have hg2 : decide (wt L c < wt L k) = false := by simpa using hgt
        have HBk := Lib.hid (HBst.out.stay (by omega))
        clear hgt
        go_quiet (fail)
        have HQ3 := Lib.hid (HQ2.out.chg ((Chg.refl NoB W2).drewN nq))
        have HB3 := Lib.hid (HB2.out.drewN nq)
        have HC3 := Lib.hid (HC2.out.drewN nq)
        clear HQ2 HB2 HC2 c1 hy hx
        generalize W2.drewN nq = W3 at *
        go_wp2_with fail
        go_roundw
        case rel => exact ⟨k + 1, c, by omega, hc, by go_num, rfl, HBk.out, HQ3.out, HB3.out, HC3.out⟩
        case measure => simp [intOf]; omega
    · obtain rfl : k = L.length := by omega
      have hk2 : decide ((L.length : Int) < (L.length : Int)) = false := by simp
      have hc3 : (c : Int) < (L.length : Int) := by omega
      have hc4 : (0 : Int) ≤ (c : Int) := by omega
      have k0 := (HQ.out.wt hc (j := 0) (by decide)).1
      have k1 := (HQ.out.wt hc (j := 1) (by decide)).1
      have k2 := (HQ.out.wt hc (j := 2) (by decide)).1
      have k3 := (HQ.out.wt hc (j := 3) (by decide)).1
      have k4 := (HQ.out.wt hc (j := 4) (by decide)).1
      have k5 := (HQ.out.wt hc (j := 5) (by decide)).1
      have k6 := (HQ.out.wt hc (j := 6) (by decide)).1
      have k7 := (HQ.out.wt hc (j := 7) (by decide)).1
      have k8 := (HQ.out.wt hc (j := 8) (by decide)).1
      have k9 := (HQ.out.wt hc (j := 9) (by decide)).1
      simp only [el, List.getElem?_cons_zero, List.getElem?_cons_succ] at k0 k1 k2 k3 k4 k5 k6 k7 k8 k9
      rw [Nat.add_zero] at k0
      have H1 := Lib.hid (fun u hu => HQ.out.one u (List.mem_flatMap.2 ⟨L[c], List.getElem_mem hc, hu⟩) : ∀ u ∈ el L[c], u.oneCell' = true)
      generalize hxc : L[c] = x at k0 k1 k2 k3 k4 k5 k6 k7 k8 k9 H1
      have HX := Lib.hid hxc
      clear hxc
      have o7 := fun (a : Addr) (w : World) => run_store Tryz.prog w a x.1.e .plain (H1.out _ (by simp))
      have o8 := fun (a : Addr) (w : World) => run_store Tryz.prog w a x.1.d .plain (H1.out _ (by simp))
      have o9 := fun (a : Addr) (w : World) => run_store Tryz.prog w a x.1.m .plain (H1.out _ (by simp))
      have cA : ∀ o : Obj, (wr.alloc o).cell? ⟨g, 1, none⟩ = some (.slice (some ⟨g', 0, none⟩) L.length cap) := fun o => (HQ.out.blk.alloc o).cell 1
      have hgl := HQ.out.blk.lt
      go_wp2_with fail
      have HQ2 := Lib.hid (HQ.out.chg ((Chg.refl NoB wr).alloc (Obj.cells (mc x.1) 40)))
      have HB2 := Lib.hid (HB.out.alloc (Obj.cells (mc x.1) 40))
      have HM2 := Lib.hid (Blk.new wr 40 (mc x.1))
      have HC2 := Lib.hid (HC.out.alloc (Obj.cells (mc x.1) 40))
      have hbn : w.heap.size < wr.heap.size := HB.out.lt
      clear HQ HB HC c1 k0 k1 k2 k3 k4 k5 k6 k7 k8 k9 cA o7 o8 o9
      generalize wr.alloc (Obj.cells _ 40) = W2 at *
      refine (del_len (g + 1) g' cap c L W2 hc HQ2.out.own HQ2.out.one).mono ?_
      rintro e w5 ⟨rfl, hO, hC⟩
      obtain ⟨hl1, hl2, hl3⟩ := HL3.out
      have HO5 := Lib.hid hO
      have HD5 := Lib.hid hC
      have HG5 := Lib.hid (HQ2.out.blk.chg hC (by unfold Only; omega))
      have HB5 := Lib.hid (HB2.out.chg hC (by unfold Only; omega))
      have HM5 := Lib.hid (HM2.out.chg hC (by unfold Only; omega))
      have HT5 := Lib.hid (HQ2.out.ta.chg hC (by unfold Only; omega))
      clear hO hC
      have k1 := HG5.out.cell 1
      have f1 := HG5.out.frozen 1
      obtain ⟨d0, d1, d2, d3, d4, d5, d6, d7, d8, d9⟩ := ten HM5.out
      obtain ⟨x0, x1, x2, x3, x4, x5, x6, x7, x8, x9⟩ := ten HB5.out
      obtain ⟨g0, g1, g2, g3, g4, g5, g6, g7, g8, g9, g10⟩ := ten_frozen HB5.out
      have n1 : g ≠ w.heap.size := by omega
      have n2 : g ≠ wr.heap.size := by omega
      have n3 : w.heap.size ≠ g := by omega
      have n4 : wr.heap.size ≠ g := by omega
      have n5 : w.heap.size ≠ wr.heap.size := by omega
      have n6 : wr.heap.size ≠ w.heap.size := by omega
      have o7 := fun (a : Addr) (w : World) => run_store Tryz.prog w a x.1.e .plain (H1.out _ (by simp))
      have o8 := fun (a : Addr) (w : World) => run_store Tryz.prog w a x.1.d .plain (H1.out _ (by simp))
      have o9 := fun (a : Addr) (w : World) => run_store Tryz.prog w a x.1.m .plain (H1.out _ (by simp))
      go_wp2_with fail
      obtain ⟨cur2, hB2⟩ := (HQ2.out.own_at (k := g') rfl).2
      have hs : Chg (Only g) w5 (w5.setCell ⟨g, 1, none⟩ (.slice (some ⟨g', 0, none⟩) (L.eraseIdx c).length cap)) := (Chg.refl (Only g) w5).setOwn 1 _
      have q6 : QA (w5.setCell ⟨g, 1, none⟩ (.slice (some ⟨g', 0, none⟩) (L.eraseIdx c).length cap)) g r most now (L.eraseIdx c) (.slice (some ⟨g', 0, none⟩) (L.eraseIdx c).length cap) :=
        ⟨HG5.out.set_ 1 _, HT5.out.chg hs (by unfold Only; omega), own_apart HO5.out hs, hl1, fun u hu => by
          obtain ⟨y, hy, hu⟩ := List.mem_flatMap.1 hu
          exact HQ2.out.one u (List.mem_flatMap.2 ⟨y, List.mem_of_mem_eraseIdx hy, hu⟩)⟩
      have hk : Chg (Qp g r (.slice (some ⟨g', 0, none⟩) L.length cap)) w (w5.setCell ⟨g, 1, none⟩ (.slice (some ⟨g', 0, none⟩) (L.eraseIdx c).length cap)) := (HC2.out.of_no.trans (HD5.out.mono fun k _ hk => .inr (.inr (congrArg some hk.symm)))).trans (hs.mono fun k _ hk => .inl hk)
      have hz := ten_chg (Chg.refl (Only w.heap.size) (w5.setCell ⟨g, 1, none⟩ (.slice (some ⟨g', 0, none⟩) (L.eraseIdx c).length cap))) (b := w.heap.size) (.inl rfl) (.int .i64 x.1.a0) (.int .i64 x.1.a1) (.int .i64 x.1.a2) (.int .i64 x.1.a3) (.int .i64 x.1.a4) (.string x.1.key) (.int .i64 x.1.a6) x.1.e x.1.d x.1.m
      have q7 := q6.chg_ hz (by unfold Only; omega) (by unfold Only; omega) (fun k hk => by
        have : g' = k := Option.some.inj hk
        unfold Only
        omega)
      exact back_ms2 rfl x.1 (.bool true) rfl rfl (ten_set (x := msz) (HB5.out.far (p := ⟨g, 1, none⟩) n3 _) _ _ _ _ _ _ _ _ _ _) rfl ⟨⟨c, hc, HBst.out, by rw [HX.out], ⟨_, q7, rfl⟩⟩, hk.then_ hz fun j hj hs => by unfold Only at hs; omega⟩
theorem take_some {w : World} {g r : Nat} {most now : Int} {L : List (Ms × Int)} {s : Value} (q : QA w g r most now L s) (hL : 0 < L.length) (hl : L.length ≤ 1000) :
    Calls Tryz.prog 70 #[.pointer (some ⟨g, 0, none⟩)] w (Took w g r most now L) :=
  (take_ft q hL hl).mono fun _ _ ⟨⟨b, hb, hB, he, s', hq, _⟩, hC⟩ => ⟨⟨b, hb, hB, he, s', hq⟩, Kp.of_foot q hC⟩
end Go.Proofs.YtoefffjhjmjhfaaGreat
