/- Contracts of package queue, function by function. No statement is proved here. -/
import Derived.Test.YtcefaohdikongaaTally
import Derived.Test.YtcefaohdikongaaNums
import Derived.StillTailTactics
import Derived.Deep.RegionHeld3
import Derived.Deep.RegionLaw
import Derived.Deep.AppendLies
import Derived.Deep.DrawnRows
import Derived.Lib.SliceRun
import Derived.BigQuiet
import Derived.Test.YtcefaohdikongaaWLast
namespace Go.Proofs.Ytcefaohdikongaa
open Go.RowKit Go.Proofs.YtcefaohdikongaaW.PrintLast
attribute [local go_sem ↓] Go.wp_at_zero Go.wp_at_succ

attribute [local go_sem] max2_mx min2_mn max_two_ min_two_

/-- A message's cells. -/
structure Ms where
  a0 : Int
  a1 : Int
  a2 : Int
  a3 : Int
  a4 : Int
  key : ByteArray
  a6 : Int
  e : Value
  d : Value
  m : Value
abbrev mc (x : Ms) : Array Value := #[.int .i64 x.a0, .int .i64 x.a1, .int .i64 x.a2, .int .i64 x.a3, .int .i64 x.a4, .string x.key, .int .i64 x.a6, x.e, x.d, x.m]
abbrev msv (x : Ms) : Value := .agg (mc x)
/-- One that waits: its message, its weight. -/
abbrev el (p : Ms × Int) : List Value := [.int .i64 p.1.a0, .int .i64 p.1.a1, .int .i64 p.1.a2, .int .i64 p.1.a3, .int .i64 p.1.a4, .string p.1.key, .int .i64 p.1.a6, p.1.e, p.1.d, p.1.m, .int .i64 p.2]
def fl (L : List (Ms × Int)) : List Value := L.flatMap el
theorem fl_length (L : List (Ms × Int)) : (fl L).length = L.length * 11 := by
  induction L with
  | nil => rfl
  | cons p r ih =>
    have : fl (p :: r) = el p ++ fl r := by simp [fl]
    rw [this, List.length_append, ih]
    simp only [List.length_cons, List.length_nil]
    omega
theorem fl_append (L M : List (Ms × Int)) : fl (L ++ M) = fl L ++ fl M := by unfold fl; rw [List.flatMap_append]
theorem fl_one (p : Ms × Int) : fl [p] = el p := by simp [fl]
theorem fl_cons (p : Ms × Int) (L : List (Ms × Int)) : fl (p :: L) = el p ++ fl L := by simp [fl]
theorem fl_at (L : List (Ms × Int)) {i j : Nat} (hi : i < L.length) (hj : j < 11) : (fl L)[i * 11 + j]? = (el L[i])[j]? := by
  induction L generalizing i with
  | nil => simp at hi
  | cons p r ih =>
    rw [fl_cons]
    cases i with
    | zero => rw [Nat.zero_mul, Nat.zero_add, List.getElem?_append_left (by simpa using hj)]; rfl
    | succ i =>
      rw [List.getElem?_append_right (by simp; omega)]
      have := ih (i := i) (by simpa using hi)
      rw [show (i + 1) * 11 + j - (el p).length = i * 11 + j by simp; omega, this]
      rfl

/-- Block g is a queue: how many it may hold, what waits, how many were refused. -/
structure QA (w : World) (g r : Nat) (most now : Int) (L : List (Ms × Int)) (s : Value) : Prop where
  blk : Blk w g 62 #[.int .i64 most, s, .pointer (some ⟨r, 0, none⟩)]
  ta : TA w r now 9223372036854775807
  own : w.ownsRow (g + 1) 67 11 s L.length (fl L)
  rg : r < g
  one : ∀ u ∈ fl L, u.oneCell' = true
/-- What a queue's turn leaves alone. -/
structure Kp (r : Nat) (w w' : World) : Prop where
  chg : Chg (fun k => r ≤ k) w w'
  kept : ∀ b t cs, t ≠ 62 → t ≠ 81 → t ≠ 67 → Blk w b t cs → Blk w' b t cs
theorem Kp.of_no {r : Nat} {w w' : World} (h : Chg NoB w w') : Kp r w w' := ⟨h.of_no, fun _ _ _ _ _ _ hb => hb.chg h id⟩
theorem Kp.trans {r : Nat} {a b c : World} (h : Kp r a b) (k : Kp r b c) : Kp r a c := ⟨h.chg.trans k.chg, fun x t cs h1 h2 h3 hb => k.kept x t cs h1 h2 h3 (h.kept x t cs h1 h2 h3 hb)⟩
theorem Kp.of_own {r g : Nat} {w w' : World} {t : TypeId} {cs : Array Value} (h : Chg (Only g) w w') (hb : Blk w g t cs) (ht : t = 62 ∨ t = 81 ∨ t = 67) (hr : r ≤ g) : Kp r w w' :=
  ⟨h.mono fun _ _ hk => by unfold Only at hk; omega, fun x t' cs' h1 h2 h3 hx => hx.chg h fun hk => by
    unfold Only at hk
    subst hk
    have := hb.symm.trans hx
    simp only [Option.some.injEq, Obj.cells.injEq] at this
    rcases ht with rfl | rfl | rfl
    · exact h1 this.2.1.symm
    · exact h2 this.2.1.symm
    · exact h3 this.2.1.symm⟩
def clip (n : Int) : Int := mx 0 (mn n 1000)
/-- A new queue. -/
structure QNew (n : Int) (w : World) (e : Ending) (w' : World) : Prop where
  at_ : ∃ g, e = .returned (.pointer (some ⟨g, 0, none⟩)) ∧ QA w' g w.heap.size (clip n) 0 [] (.slice none 0 0)
  chg : Chg NoB w w'
theorem new_any (n : Int) (w : World) : Calls Try.prog 9 #[.int .i64 n] w (QNew n w) := by
  go_enter Try.func9, Try.ntmps9
  go_wp2_with fail
  refine (tally_new _ _ (by decide)).mono ?_
  rintro e w1 ⟨rfl, hT, hC⟩
  have HT := Lib.hid hT
  have HC := Lib.hid hC
  clear hT hC
  go_wp2_with fail
  go_ret
  exact ⟨⟨_, rfl, ⟨Blk.new _ _ _, HT.out.chg ((Chg.refl NoB w1).alloc _) id, ⟨rfl, .inl ⟨rfl, rfl⟩⟩, HT.out.blk.lt, by simp [fl]⟩⟩, HC.out.alloc _⟩
theorem len_any {w : World} {g r : Nat} {most now : Int} {L : List (Ms × Int)} {s : Value} (q : QA w g r most now L s) :
    Calls Try.prog 15 #[.pointer (some ⟨g, 0, none⟩)] w fun e w' => e = .returned (.int .i64 L.length) ∧ w' = w := by
  have c1 := q.blk.cell 1
  obtain ⟨_, ho⟩ := q.own
  rcases ho with ⟨rfl, h0⟩ | ⟨g', cap, cur, rfl, _⟩
  · rw [h0]
    clear q
    go_enter Try.func15, Try.ntmps15
    go_wp2
    go_ret
    exact ⟨rfl, rfl⟩
  · clear q
    go_enter Try.func15, Try.ntmps15
    go_wp2
    go_ret
    exact ⟨rfl, rfl⟩
theorem refused_any {w : World} {g r : Nat} {most now : Int} {L : List (Ms × Int)} {s : Value} (q : QA w g r most now L s) :
    Calls Try.prog 22 #[.pointer (some ⟨g, 0, none⟩)] w fun e w' => e = .returned (.int .i64 now) ∧ w' = w := by
  have c2 := q.blk.cell 2
  have HT := Lib.hid q.ta
  clear q
  go_enter Try.func22, Try.ntmps22
  go_wp2_with fail
  refine (tally_now HT.out).mono ?_
  rintro e w1 ⟨rfl, rfl⟩
  go_wp2_with fail
  go_ret
  exact ⟨rfl, rfl⟩
theorem Try.infM : (Try.prog.info? 31).map (·.size) = some 10 := by kernel_rfl
theorem back_ms {fn : Func} {p : Tmp} (h : fn.results = #[.cell p 31]) {R : Ending → World → Prop} {a : Act} {w : World} {b : Nat} (x : Ms) (hp : a.tmps.getD p undef = .pointer (some ⟨b, 0, none⟩)) (hB : Blk w b 31 (mc x)) (hd : a.defers = []) (hR : R (.returned (msv x)) w) :
    bodyPost Try.prog fn R .ret a w :=
  bodyPost_ret (results_cell_row h _ _ b _ (mc x) (0, 0) _ hp hB Try.underlying31 rfl (Try.infM.trans rfl)) hd hR
abbrev nil_ : Value := .slice none 0 0
/-- A message without slices. -/
abbrev ms0 (n : Int) : Ms := ⟨4, 0, 0, n, 0, ⟨#[107]⟩, 0, nil_, nil_, nil_⟩
theorem msg_any (n : Int) (w : World) : Calls Try.prog 11 #[.int .i64 n] w fun e w' => e = .returned (msv (ms0 n)) ∧ Chg NoB w w' := by
  go_enter Try.func11, Try.ntmps11
  go_wp2_with fail
  exact back_ms rfl (ms0 n) rfl (Blk.new _ _ _) rfl ⟨rfl, (Chg.refl NoB w).alloc _⟩
set_option maxRecDepth 100000 in
theorem clone_nil (w : World) : Calls Try.prog 35 #[nil_] w fun e w' => e = .returned nil_ ∧ w' = w := by
  have he := Lib.run_eql_slice_nil (P := Try.prog) w 29 72 none 0 0 0 0 Try.underlying29
  simp only [Option.isNone] at he
  go_enter Try.func35, Try.ntmps35
  go_wp2
  go_ret
  exact ⟨rfl, rfl⟩
theorem ten {w : World} {b : Nat} {x : Ms} (h : Blk w b 31 (mc x)) : w.cell? ⟨b, 0, none⟩ = some (.int .i64 x.a0) ∧ w.cell? ⟨b, 1, none⟩ = some (.int .i64 x.a1) ∧ w.cell? ⟨b, 2, none⟩ = some (.int .i64 x.a2) ∧ w.cell? ⟨b, 3, none⟩ = some (.int .i64 x.a3) ∧ w.cell? ⟨b, 4, none⟩ = some (.int .i64 x.a4) ∧
    w.cell? ⟨b, 5, none⟩ = some (.string x.key) ∧ w.cell? ⟨b, 6, none⟩ = some (.int .i64 x.a6) ∧ w.cell? ⟨b, 7, none⟩ = some x.e ∧ w.cell? ⟨b, 8, none⟩ = some x.d ∧ w.cell? ⟨b, 9, none⟩ = some x.m := ⟨h.cell 0, h.cell 1, h.cell 2, h.cell 3, h.cell 4, h.cell 5, h.cell 6, h.cell 7, h.cell 8, h.cell 9⟩
theorem ten_frozen {w : World} {b : Nat} {t : TypeId} {cs : Array Value} (h : Blk w b t cs) : w.frozen? ⟨b, 0, none⟩ = false ∧ w.frozen? ⟨b, 1, none⟩ = false ∧ w.frozen? ⟨b, 2, none⟩ = false ∧ w.frozen? ⟨b, 3, none⟩ = false ∧ w.frozen? ⟨b, 4, none⟩ = false ∧ w.frozen? ⟨b, 5, none⟩ = false ∧ w.frozen? ⟨b, 6, none⟩ = false ∧ w.frozen? ⟨b, 7, none⟩ = false ∧ w.frozen? ⟨b, 8, none⟩ = false ∧ w.frozen? ⟨b, 9, none⟩ = false ∧ w.frozen? ⟨b, 10, none⟩ = false :=
  ⟨h.frozen 0, h.frozen 1, h.frozen 2, h.frozen 3, h.frozen 4, h.frozen 5, h.frozen 6, h.frozen 7, h.frozen 8, h.frozen 9, h.frozen 10⟩
abbrev msz : Ms := ⟨0, 0, 0, 0, 0, ⟨#[]⟩, 0, nil_, nil_, nil_⟩
theorem ten_set {w : World} {b : Nat} {x : Ms} (h : Blk w b 31 (mc x)) (v0 v1 v2 v3 v4 v5 v6 v7 v8 v9 : Value) :
    Blk ((((((((((w.setCell ⟨b, 0, none⟩ v0).setCell ⟨b, 1, none⟩ v1).setCell ⟨b, 2, none⟩ v2).setCell ⟨b, 3, none⟩ v3).setCell ⟨b, 4, none⟩ v4).setCell ⟨b, 5, none⟩ v5).setCell ⟨b, 6, none⟩ v6).setCell ⟨b, 7, none⟩ v7).setCell ⟨b, 8, none⟩ v8).setCell ⟨b, 9, none⟩ v9) b 31 #[v0, v1, v2, v3, v4, v5, v6, v7, v8, v9] := by
  have := (((((((((h.set_ 0 v0).set_ 1 v1).set_ 2 v2).set_ 3 v3).set_ 4 v4).set_ 5 v5).set_ 6 v6).set_ 7 v7).set_ 8 v8).set_ 9 v9
  simpa only [List.setIfInBounds_toArray, List.set_cons_zero, List.set_cons_succ] using this
theorem ten_chg {S : Nat → Prop} {w0 w : World} {b : Nat} (h : Chg S w0 w) (hb : S b ∨ w0.heap.size ≤ b) (v0 v1 v2 v3 v4 v5 v6 v7 v8 v9 : Value) :
    Chg S w0 ((((((((((w.setCell ⟨b, 0, none⟩ v0).setCell ⟨b, 1, none⟩ v1).setCell ⟨b, 2, none⟩ v2).setCell ⟨b, 3, none⟩ v3).setCell ⟨b, 4, none⟩ v4).setCell ⟨b, 5, none⟩ v5).setCell ⟨b, 6, none⟩ v6).setCell ⟨b, 7, none⟩ v7).setCell ⟨b, 8, none⟩ v8).setCell ⟨b, 9, none⟩ v9) :=
  (((((((((h.setCell (p := ⟨b, 0, none⟩) hb v0).setCell (p := ⟨b, 1, none⟩) hb v1).setCell (p := ⟨b, 2, none⟩) hb v2).setCell (p := ⟨b, 3, none⟩) hb v3).setCell (p := ⟨b, 4, none⟩) hb v4).setCell (p := ⟨b, 5, none⟩) hb v5).setCell (p := ⟨b, 6, none⟩) hb v6).setCell (p := ⟨b, 7, none⟩) hb v7).setCell (p := ⟨b, 8, none⟩) hb v8).setCell (p := ⟨b, 9, none⟩) hb v9
set_option maxRecDepth 100000 in
set_option maxHeartbeats 4000000 in
theorem copied_nil (x : Ms) (he : x.e = nil_) (hd : x.d = nil_) (hm : x.m = nil_) (w : World) : Calls Try.prog 25 #[msv x] w fun e w' => e = .returned (msv x) ∧ Chg NoB w w' := by
  obtain ⟨a0, a1, a2, a3, a4, key, a6, _, _, _⟩ := x
  subst he hd hm
  go_enter Try.func25, Try.ntmps25
  go_wp2_with fail
  have B0 := Lib.hid ((Blk.new w 31 (mc ⟨a0, a1, a2, a3, a4, key, a6, nil_, nil_, nil_⟩)).alloc (Obj.cells (mc msz) 31))
  have B1 := Lib.hid (Blk.new_ (k := w.heap.size + 1) (w.alloc (Obj.cells (mc ⟨a0, a1, a2, a3, a4, key, a6, nil_, nil_, nil_⟩) 31)) 31 (mc msz) (by simp))
  have HC := Lib.hid (((Chg.refl NoB w).alloc (Obj.cells (mc ⟨a0, a1, a2, a3, a4, key, a6, nil_, nil_, nil_⟩) 31)).alloc (Obj.cells (mc msz) 31))
  generalize (w.alloc (Obj.cells (mc ⟨a0, a1, a2, a3, a4, key, a6, nil_, nil_, nil_⟩) 31)).alloc (Obj.cells _ 31) = W at *
  go_loopw [3, 15] (fun l i wr => l = nil_ ∧ i = .int .i64 0 ∧ wr = W) (fun _ _ _ => 0)
  case atStart => exact ⟨rfl, rfl, rfl⟩
  case round =>
    obtain ⟨rfl, rfl, rfl⟩ := hrel
    obtain ⟨c0, c1, c2, c3, c4, c5, c6, c7, c8, c9⟩ := ten B0.out
    obtain ⟨f0, f1, f2, f3, f4, f5, f6, f7, f8, f9, f10⟩ := ten_frozen B0.out
    go_wp2_with fail
    have C0 : Hid (Blk (wr.setCell ⟨w.heap.size, 7, none⟩ nil_) w.heap.size 31 (mc ⟨a0, a1, a2, a3, a4, key, a6, nil_, nil_, nil_⟩)) := Lib.hid (B0.out.set_ 7 nil_)
    have C1 := Lib.hid (B1.out.far (p := ⟨w.heap.size, 7, none⟩) (by show w.heap.size + 1 ≠ w.heap.size; omega) nil_)
    have HD := Lib.hid (HC.out.setCell (p := ⟨w.heap.size, 7, none⟩) (.inr (Nat.le_refl _)) nil_)
    clear B0 B1 HC c0 c1 c2 c3 c4 c5 c6 c7 c8 c9 f0 f1 f2 f3 f4 f5 f6 f7 f8 f9 f10
    generalize wr.setCell ⟨w.heap.size, 7, none⟩ nil_ = W2 at *
    go_loopw [9, 49] (fun l i wr => l = nil_ ∧ i = .int .i64 0 ∧ wr = W2) (fun _ _ _ => 0)
    case atStart => exact ⟨rfl, rfl, rfl⟩
    case round =>
      obtain ⟨rfl, rfl, rfl⟩ := hrel
      obtain ⟨c0, c1, c2, c3, c4, c5, c6, c7, c8, c9⟩ := ten C0.out
      obtain ⟨f0, f1, f2, f3, f4, f5, f6, f7, f8, f9, f10⟩ := ten_frozen C0.out
      go_wp2_with fail
      have B0 : Hid (Blk (wr.setCell ⟨w.heap.size, 8, none⟩ nil_) w.heap.size 31 (mc ⟨a0, a1, a2, a3, a4, key, a6, nil_, nil_, nil_⟩)) := Lib.hid (C0.out.set_ 8 nil_)
      have B1 := Lib.hid (C1.out.far (p := ⟨w.heap.size, 8, none⟩) (by show w.heap.size + 1 ≠ w.heap.size; omega) nil_)
      have HC := Lib.hid (HD.out.setCell (p := ⟨w.heap.size, 8, none⟩) (.inr (Nat.le_refl _)) nil_)
      clear C0 C1 HD c0 c1 c2 c3 c4 c5 c6 c7 c8 c9 f0 f1 f2 f3 f4 f5 f6 f7 f8 f9 f10
      generalize wr.setCell ⟨w.heap.size, 8, none⟩ nil_ = W3 at *
      refine (clone_nil _).mono ?_
      rintro e w4 ⟨rfl, rfl⟩
      obtain ⟨c0, c1, c2, c3, c4, c5, c6, c7, c8, c9⟩ := ten B0.out
      obtain ⟨f0, f1, f2, f3, f4, f5, f6, f7, f8, f9, f10⟩ := ten_frozen B0.out
      obtain ⟨d0, d1, d2, d3, d4, d5, d6, d7, d8, d9⟩ := ten B1.out
      obtain ⟨g0, g1, g2, g3, g4, g5, g6, g7, g8, g9, g10⟩ := ten_frozen B1.out
      go_wp2_with fail
      exact back_ms rfl ⟨a0, a1, a2, a3, a4, key, a6, nil_, nil_, nil_⟩ rfl (ten_set (x := msz) (B1.out.far (p := ⟨w.heap.size, 9, none⟩) (by show w.heap.size + 1 ≠ w.heap.size; omega) nil_) _ _ _ _ _ _ _ _ _ _) rfl
        ⟨rfl, ten_chg (HC.out.setCell (p := ⟨w.heap.size, 9, none⟩) (.inr (Nat.le_refl _)) nil_) (.inr (by omega)) _ _ _ _ _ _ _ _ _ _⟩
theorem QA.form {w : World} {g r : Nat} {most now : Int} {L : List (Ms × Int)} {s : Value} (q : QA w g r most now L s) : ∃ p cap, s = .slice p L.length cap := by
  obtain ⟨_, ho⟩ := q.own
  rcases ho with ⟨rfl, h0⟩ | ⟨g', cap, cur, rfl, _⟩
  · exact ⟨none, 0, by rw [h0]⟩
  · exact ⟨_, _, rfl⟩
theorem QA.chg {w w' : World} {g r : Nat} {most now : Int} {L : List (Ms × Int)} {s : Value} (q : QA w g r most now L s) (h : Chg NoB w w') : QA w' g r most now L s :=
  ⟨q.blk.chg h id, q.ta.chg h id, by
    obtain ⟨h1, hr⟩ := q.own
    refine ⟨h1, ?_⟩
    rcases hr with h0 | ⟨g', cap, cur, hv, hb, hB, hrest⟩
    · exact .inl h0
    · exact .inr ⟨g', cap, cur, hv, hb, Blk.chg (w := w) hB h id, hrest⟩, q.rg, q.one⟩
theorem QA.turn {w w' : World} {g r : Nat} {most now now' : Int} {L : List (Ms × Int)} {s : Value} (q : QA w g r most now L s) (h : Chg (Only r) w w') (ht : TA w' r now' 9223372036854775807) : QA w' g r most now' L s :=
  ⟨q.blk.chg h (by have := q.rg; unfold Only; omega), ht, by
    obtain ⟨h1, hr⟩ := q.own
    refine ⟨h1, ?_⟩
    rcases hr with h0 | ⟨g', cap, cur, hv, hb, hB, hrest⟩
    · exact .inl h0
    · exact .inr ⟨g', cap, cur, hv, hb, Blk.chg (w := w) hB h (by have := q.rg; unfold Only; omega), hrest⟩, q.rg, q.one⟩
theorem QA.own_at {w : World} {g r : Nat} {most now : Int} {L : List (Ms × Int)} {s : Value} (q : QA w g r most now L s) {k : Nat} (hk : s.ownBlock = some k) : g < k ∧ ∃ cur, Blk w k 67 cur := by
  obtain ⟨_, ho⟩ := q.own
  rcases ho with ⟨rfl, h0⟩ | ⟨g', cap, cur, rfl, h1, hB, _⟩
  · cases hk
  · cases hk
    exact ⟨h1, cur, hB⟩
theorem own_apart {w w' : World} {g n : Nat} {s : Value} {xs : List Value} {t : TypeId} {k : Nat} (h : w.ownsRow (g + 1) t k s n xs) (hC : Chg (Only g) w w') : w'.ownsRow (g + 1) t k s n xs := by
  obtain ⟨h1, hr⟩ := h
  refine ⟨h1, ?_⟩
  rcases hr with h0 | ⟨g', cap, cur, hv, hb, hB, hrest⟩
  · exact .inl h0
  · exact .inr ⟨g', cap, cur, hv, hb, Blk.chg (w := w) hB hC (by unfold Only; omega), hrest⟩
theorem Kp.grown {w w' : World} {g r : Nat} {most now : Int} {L : List (Ms × Int)} {s : Value} (q : QA w g r most now L s) (h : Chg (fun k => s.ownBlock = some k) w w') : Kp r w w' :=
  ⟨h.mono fun k _ hk => by have := (q.own_at hk).1; have := q.rg; omega, fun x t' cs' h1 h2 h3 hx => hx.chg h fun hk => by
    obtain ⟨_, cur, hB⟩ := q.own_at hk
    have := hB.symm.trans hx
    simp only [Option.some.injEq, Obj.cells.injEq] at this
    exact h3 this.2.1.symm⟩
theorem grown_row {w w' : World} {v : Value} (h : w.grownBy w' v.ownBlock) : Chg (fun k => v.ownBlock = some k) w w' :=
  ⟨h.1, h.2, h.3, h.4, fun k hk hn => h.5 k hk fun e => hn e.symm⟩
theorem Try.infW : (Try.prog.info? 67).map (fun i => (i.zero, i.size, i.bytes)) = some (some (.agg (el (msz, 0)).toArray), 11, 144) := by kernel_rfl
def w3 (u : Int) : Int := 4 * mx 0 (mn u 3)
/-- The blocks that a queue's turn may write. -/
abbrev Qp (g r : Nat) (s : Value) : Nat → Prop := fun k => k = g ∨ k = r ∨ s.ownBlock = some k
theorem Kp.of_foot {w w' : World} {g r : Nat} {most now : Int} {L : List (Ms × Int)} {s : Value} (q : QA w g r most now L s) (h : Chg (Qp g r s) w w') : Kp r w w' :=
  ⟨h.mono fun k _ hk => by
    have h1 := q.rg
    rcases hk with rfl | rfl | hk
    · omega
    · omega
    · have := (q.own_at hk).1; omega, fun x t' cs' h1 h2 h3 hx => hx.chg h fun hk => by
    rcases hk with rfl | rfl | hk
    · have := q.blk.symm.trans hx
      simp only [Option.some.injEq, Obj.cells.injEq] at this
      exact h1 this.2.1.symm
    · have := q.ta.blk.symm.trans hx
      simp only [Option.some.injEq, Obj.cells.injEq] at this
      exact h2 this.2.1.symm
    · obtain ⟨_, cur, hB⟩ := q.own_at hk
      have := hB.symm.trans hx
      simp only [Option.some.injEq, Obj.cells.injEq] at this
      exact h3 this.2.1.symm⟩
/-- Refused: there is no room. -/
theorem put_full_ft {w : World} {g r : Nat} {most now : Int} {L : List (Ms × Int)} {s : Value} (q : QA w g r most now L s) (x : Ms) (u : Int) (h : most ≤ L.length) (hn : now < 9223372036854775807) :
    Calls Try.prog 10 #[.pointer (some ⟨g, 0, none⟩), msv x, .int .i64 u] w fun e w' => e = .returned (.int .i64 7) ∧ QA w' g r most (now + 1) L s ∧ Chg (Qp g r s) w w' := by
  obtain ⟨p, cap, rfl⟩ := q.form
  have h0 := q.ta.lo
  have HQ := Lib.hid q
  have hd : decide (most ≤ (L.length : Int)) = true := by simpa using h
  clear q
  go_enter Try.func10, Try.ntmps10
  go_wp2_with fail
  have HQ2 := Lib.hid (HQ.out.chg ((Chg.refl NoB w).alloc (Obj.cells (mc x) 31)))
  have HC := Lib.hid ((Chg.refl NoB w).alloc (Obj.cells (mc x) 31))
  clear HQ
  generalize w.alloc (Obj.cells (mc x) 31) = W at *
  have c0 := HQ2.out.blk.cell 0
  have c1 := HQ2.out.blk.cell 1
  go_quiet (fail)
  have HQ3 := Lib.hid (HQ2.out.chg ((Chg.refl NoB W).drewN nq))
  have HC3 := Lib.hid (HC.out.drewN nq)
  clear HQ2 HC c0 c1
  generalize W.drewN nq = W3 at *
  have c2 := HQ3.out.blk.cell 2
  go_wp2_with fail
  refine (tally_add_yes HQ3.out.ta 1 (by omega) (by omega)).mono ?_
  rintro e w4 ⟨rfl, hT, hC⟩
  have HQ4 := Lib.hid (HQ3.out.turn hC hT)
  have HK : Hid (Chg (Qp g r (.slice p L.length cap)) w w4) := Lib.hid (HC3.out.of_no.trans (hC.mono fun k _ hk => .inr (.inl hk)))
  clear hT hC
  go_wp2_with fail
  go_ret
  exact ⟨rfl, HQ4.out, HK.out⟩
theorem put_full {w : World} {g r : Nat} {most now : Int} {L : List (Ms × Int)} {s : Value} (q : QA w g r most now L s) (x : Ms) (u : Int) (h : most ≤ L.length) (hn : now < 9223372036854775807) :
    Calls Try.prog 10 #[.pointer (some ⟨g, 0, none⟩), msv x, .int .i64 u] w fun e w' => e = .returned (.int .i64 7) ∧ QA w' g r most (now + 1) L s ∧ Kp r w w' :=
  (put_full_ft q x u h hn).mono fun _ _ ⟨he, hq, hC⟩ => ⟨he, hq, Kp.of_foot q hC⟩
set_option maxRecDepth 100000 in
set_option maxHeartbeats 600000 in
/-- Put where there is room. -/
theorem put_ft {w : World} {g r : Nat} {most now : Int} {L : List (Ms × Int)} {s : Value} (q : QA w g r most now L s) (x : Ms) (u : Int) (h : (L.length : Int) < most) (hl : L.length ≤ 1000) (Z : Ms → World → Prop)
    (hcp : ∀ w1, Chg NoB w w1 → Calls Try.prog 25 #[msv x] w1 fun e w' => ∃ y, e = .returned (msv y) ∧ (∀ v ∈ mc y, v.oneCell' = true) ∧ Z y w' ∧ Chg NoB w1 w') :
    Calls Try.prog 10 #[.pointer (some ⟨g, 0, none⟩), msv x, .int .i64 u] w fun e w' => e = .returned (.int .i64 0) ∧ ∃ y s' w4, QA w' g r most now (L ++ [(y, w3 u)]) s' ∧ Z y w4 ∧ Chg NoB w w4 ∧ Chg (Qp g r s) w4 w' ∧ ∀ k, s'.ownBlock = some k → s.ownBlock = some k ∨ w4.heap.size ≤ k := by
  obtain ⟨p, cap, rfl⟩ := q.form
  have HQ := Lib.hid q
  have hd : decide (most ≤ (L.length : Int)) = false := by simpa using h
  have HNg : Hid (¬ (Value.slice p L.length cap).ownBlock = some g) := Lib.hid fun hk => absurd (q.own_at hk).1 (Nat.lt_irrefl _)
  have HNw : Hid (¬ (Value.slice p L.length cap).ownBlock = some w.heap.size) := Lib.hid fun hk => by
    obtain ⟨_, cur, hB⟩ := q.own_at hk
    exact absurd hB.lt (Nat.lt_irrefl _)
  have HNr : Hid (¬ (Value.slice p L.length cap).ownBlock = some r) := Lib.hid fun hk => by have := (q.own_at hk).1; have := q.rg; omega
  clear q
  go_enter Try.func10, Try.ntmps10
  go_wp2_with fail
  have HQ2 := Lib.hid (HQ.out.chg ((Chg.refl NoB w).alloc (Obj.cells (mc x) 31)))
  have HB := Lib.hid (Blk.new w 31 (mc x))
  have HC := Lib.hid ((Chg.refl NoB w).alloc (Obj.cells (mc x) 31))
  clear HQ
  generalize w.alloc (Obj.cells (mc x) 31) = W at *
  have c0 := HQ2.out.blk.cell 0
  have c1 := HQ2.out.blk.cell 1
  go_quiet (fail)
  have HQ3 := Lib.hid (HQ2.out.chg ((Chg.refl NoB W).drewN nq))
  have HC3 := Lib.hid (HC.out.drewN nq)
  have HB3 := Lib.hid (HB.out.drewN nq)
  clear HQ2 HC c0 c1
  generalize W.drewN nq = W3 at *
  obtain ⟨c0, c1, c2, c3, c4, c5, c6, c7, c8, c9⟩ := ten HB3.out
  have e1 := HQ3.out.blk.cell 1
  have hwr : IntKind.i64.wrap (4 * mx 0 (mn u 3)) = w3 u := by rw [IntKind.wrap_i64]; unfold w3 mx mn; split <;> split <;> omega
  obtain ⟨i9, hi9, z9, s9, y9⟩ := info_parts Try.infW
  go_wp2_with fail
  refine start_ (n := 17) (S := fun w' => w'.cell? ⟨g, 1, none⟩ = some (.slice p L.length cap) ∧ w'.cell? ⟨w.heap.size, 0, none⟩ = some (.int .i64 x.a0) ∧ w'.cell? ⟨w.heap.size, 1, none⟩ = some (.int .i64 x.a1) ∧ w'.cell? ⟨w.heap.size, 2, none⟩ = some (.int .i64 x.a2) ∧ w'.cell? ⟨w.heap.size, 3, none⟩ = some (.int .i64 x.a3) ∧ w'.cell? ⟨w.heap.size, 4, none⟩ = some (.int .i64 x.a4) ∧ w'.cell? ⟨w.heap.size, 5, none⟩ = some (.string x.key) ∧ w'.cell? ⟨w.heap.size, 6, none⟩ = some (.int .i64 x.a6) ∧ w'.cell? ⟨w.heap.size, 7, none⟩ = some x.e ∧ w'.cell? ⟨w.heap.size, 8, none⟩ = some x.d ∧ w'.cell? ⟨w.heap.size, 9, none⟩ = some x.m) (ds := [16]) #[false, false, false, false, false, false, false, false, false, false, false, false, false, false, false, false, false] (by kernel_rfl) rfl rfl ⟨(HQ3.out.blk.drew.cell 1), (HB3.out.drew.cell 0), (HB3.out.drew.cell 1), (HB3.out.drew.cell 2), (HB3.out.drew.cell 3), (HB3.out.drew.cell 4), (HB3.out.drew.cell 5), (HB3.out.drew.cell 6), (HB3.out.drew.cell 7), (HB3.out.drew.cell 8), (HB3.out.drew.cell 9)⟩ (fun hHeld => ?_)
  refine pure_ (i := 0) (N := some 26) (v := ?_) (a' := ?_) #[true, false, false, false, false, false, false, false, false, false, false, false, false, false, false, false, false] rfl rfl (by kernel_rfl) (fun _ _ _ h => h) (Or.inl ⟨by rfl, ?_⟩) ?_ ?_
  rotate_left
  · intro w'
    go_simp
    with_reducible rfl
  rotate_left
  · simp only [Act.put, List.setIfInBounds_toArray, List.set_cons_zero, List.set_cons_succ]
    rfl
  refine pure_ (i := 1) (N := some 27) (v := ?_) (a' := ?_) #[true, true, false, false, false, false, false, false, false, false, false, false, false, false, false, false, false] rfl rfl (by kernel_rfl) (fun _ _ _ h => h) (Or.inl ⟨by rfl, ?_⟩) ?_ ?_
  rotate_left
  · intro w'
    go_simp
    with_reducible rfl
  rotate_left
  · simp only [Act.put, List.setIfInBounds_toArray, List.set_cons_zero, List.set_cons_succ]
    rfl
  refine pure_ (i := 2) (N := some 28) (v := ?_) (a' := ?_) #[true, true, true, false, false, false, false, false, false, false, false, false, false, false, false, false, false] rfl rfl (by kernel_rfl) (fun _ _ _ h => h) (Or.inl ⟨by rfl, ?_⟩) ?_ ?_
  rotate_left
  · intro w'
    go_simp
    with_reducible rfl
  rotate_left
  · simp only [Act.put, List.setIfInBounds_toArray, List.set_cons_zero, List.set_cons_succ]
    rfl
  refine pure_ (i := 3) (N := some 29) (v := ?_) (a' := ?_) #[true, true, true, true, false, false, false, false, false, false, false, false, false, false, false, false, false] rfl rfl (by kernel_rfl) (fun _ _ _ h => h) (Or.inl ⟨by rfl, ?_⟩) ?_ ?_
  rotate_left
  · intro w'
    go_simp
    with_reducible rfl
  rotate_left
  · simp only [Act.put, List.setIfInBounds_toArray, List.set_cons_zero, List.set_cons_succ]
    rfl
  refine pure_ (i := 7) (N := some 33) (v := ?_) (a' := ?_) #[true, true, true, true, false, false, false, true, false, false, false, false, false, false, false, false, false] rfl rfl (by kernel_rfl) (fun _ _ _ h => h) (Or.inl ⟨by rfl, ?_⟩) ?_ ?_
  rotate_left
  · intro w'
    go_simp
    with_reducible rfl
  rotate_left
  · simp only [Act.put, List.setIfInBounds_toArray, List.set_cons_zero, List.set_cons_succ]
    rfl
  refine pure_ (i := 8) (N := some 34) (v := ?_) (a' := ?_) #[true, true, true, true, false, false, false, true, true, false, false, false, false, false, false, false, false] rfl rfl (by kernel_rfl) (fun _ _ _ h => h) (Or.inl ⟨by rfl, ?_⟩) ?_ ?_
  rotate_left
  · intro w'
    go_simp
    with_reducible rfl
  rotate_left
  · simp only [Act.put, List.setIfInBounds_toArray, List.set_cons_zero, List.set_cons_succ]
    rfl
  refine pure_ (i := 9) (N := some 35) (v := ?_) (a' := ?_) #[true, true, true, true, false, false, false, true, true, true, false, false, false, false, false, false, false] rfl rfl (by kernel_rfl) (fun _ _ _ h => h) (Or.inl ⟨by rfl, ?_⟩) ?_ ?_
  rotate_left
  · intro w'
    go_simp
    with_reducible rfl
  rotate_left
  · simp only [Act.put, List.setIfInBounds_toArray, List.set_cons_zero, List.set_cons_succ]
    rfl
  refine pure_ (i := 10) (N := some 36) (v := ?_) (a' := ?_) #[true, true, true, true, false, false, false, true, true, true, true, false, false, false, false, false, false] rfl rfl (by kernel_rfl) (fun _ _ _ h => h) (Or.inl ⟨by rfl, ?_⟩) ?_ ?_
  rotate_left
  · intro w'
    go_simp
    with_reducible rfl
  rotate_left
  · simp only [Act.put, List.setIfInBounds_toArray, List.set_cons_zero, List.set_cons_succ]
    rfl
  refine take_ (i := 4) (N := some 30) (v := ?_) (a' := ?_) #[true, true, true, true, true, false, false, true, true, true, true, false, false, false, false, false, false] rfl rfl (by kernel_rfl) (fun _ _ _ h => h) (Or.inl ⟨by rfl, ?_⟩) hHeld ?_ ?_
  rotate_left
  · rintro w' ⟨s0, s1, s2, s3, s4, s5, s6, s7, s8, s9, s10⟩
    go_simp
    with_reducible rfl
  rotate_left
  · simp only [Act.put, List.setIfInBounds_toArray, List.set_cons_zero, List.set_cons_succ]
    rfl
  refine take_ (i := 5) (N := some 31) (v := ?_) (a' := ?_) #[true, true, true, true, true, true, false, true, true, true, true, false, false, false, false, false, false] rfl rfl (by kernel_rfl) (fun _ _ _ h => h) (Or.inl ⟨by rfl, ?_⟩) hHeld ?_ ?_
  rotate_left
  · rintro w' ⟨s0, s1, s2, s3, s4, s5, s6, s7, s8, s9, s10⟩
    go_simp
    with_reducible rfl
  rotate_left
  · simp only [Act.put, List.setIfInBounds_toArray, List.set_cons_zero, List.set_cons_succ]
    rfl
  refine one_ (i := 6) (N := some 32) #[true, true, true, true, true, true, true, true, true, true, true, false, false, false, false, false, false] rfl rfl (by kernel_rfl) (by decide) (fun K hK => ?_)
  refine goes_ Try.func25 (by kernel_rfl) rfl #[msv x] (by rfl) rfl rfl (by simp only [List.map_toArray, List.map_cons, List.map_nil]; rfl) ?_
  with_reducible refine ((hcp _ HC3.out.drew)).mono ?_
  rintro e w4 ⟨y, rfl, h1, hZ, hC4⟩
  refine ⟨_, rfl, ?_⟩
  have HQ4 := Lib.hid (HQ3.out.chg (((Chg.refl NoB W3).drew).trans hC4))
  have HB4 := Lib.hid (HB3.out.chg (((Chg.refl NoB W3).drew).trans hC4) id)
  have HC4 := Lib.hid (HC3.out.trans (((Chg.refl NoB W3).drew).trans hC4))
  have hg4 := HQ4.out.blk.lt
  have HZ := Lib.hid hZ
  clear hZ
  have H1 : Hid (∀ v ∈ el (y, w3 u), v.oneCell' = true) := Lib.hid fun v hv => by
    simp only [List.mem_cons, List.not_mem_nil, or_false] at hv
    rcases hv with rfl | rfl | rfl | rfl | rfl | rfl | rfl | rfl | rfl | rfl | rfl <;> first | rfl | exact h1 _ (by simp)
  clear h1
  refine hK.out _ _ ⟨(HQ4.out.blk.cell 1), (HB4.out.cell 0), (HB4.out.cell 1), (HB4.out.cell 2), (HB4.out.cell 3), (HB4.out.cell 4), (HB4.out.cell 5), (HB4.out.cell 6), (HB4.out.cell 7), (HB4.out.cell 8), (HB4.out.cell 9)⟩ (fun hHeld => ?_)
  clear hK K
  refine norm_ (a' := ?_) ?_ ?_
  rotate_left
  · show Act.put _ (some 32) _ = _
    simp only [Act.put, List.setIfInBounds_toArray, List.set_cons_zero, List.set_cons_succ]
    rfl
  refine pure_ (i := 11) (N := some 37) (v := ?_) (a' := ?_) #[true, true, true, true, true, true, true, true, true, true, true, true, false, false, false, false, false] rfl rfl (by kernel_rfl) (fun _ _ _ h => h) (Or.inl ⟨by rfl, ?_⟩) ?_ ?_
  rotate_left
  · intro w'
    go_simp
    with_reducible rfl
  rotate_left
  · simp only [Act.put, List.setIfInBounds_toArray, List.set_cons_zero, List.set_cons_succ]
    rfl
  refine one_ (i := 12) (N := some 38) #[true, true, true, true, true, true, true, true, true, true, true, true, true, false, false, false, false] rfl rfl (by kernel_rfl) (by decide) (fun K hK => ?_)
  refine value_ (w1 := ?_) (v := ?_) (by rfl) rfl ?_ ?_
  rotate_left 2
  · go_simp
    constructor
    · rfl
    · rfl
  refine hK.out _ _ ⟨((HQ4.out.blk.alloc _).cell 1), ((HB4.out.alloc _).cell 0), ((HB4.out.alloc _).cell 1), ((HB4.out.alloc _).cell 2), ((HB4.out.alloc _).cell 3), ((HB4.out.alloc _).cell 4), ((HB4.out.alloc _).cell 5), ((HB4.out.alloc _).cell 6), ((HB4.out.alloc _).cell 7), ((HB4.out.alloc _).cell 8), ((HB4.out.alloc _).cell 9)⟩ (fun hHeld => ?_)
  clear hK K
  refine norm_ (a' := ?_) ?_ ?_
  rotate_left
  · show Act.put _ (some 38) _ = _
    simp only [Act.put, List.setIfInBounds_toArray, List.set_cons_zero, List.set_cons_succ]
    rfl
  refine one_ (i := 13) (N := some 39) #[true, true, true, true, true, true, true, true, true, true, true, true, true, true, false, false, false] rfl rfl (by kernel_rfl) (by decide) (fun K hK => ?_)
  refine step_append_lies _ (by rfl) _ _ _ (by rfl) (g + 1) 67 i9 _ 11 144 Try.underlying60 hi9 z9 s9 y9 rfl (by omega) (.slice p L.length cap) L.length (fl L) (by rfl) (World.ownsRow.alloc HQ4.out.own _)
    ⟨w4.heap.size, 0, none⟩ 1 1 (el (y, w3 u)) (by rfl) (by rfl) (World.news_of_block (cs := (el (y, w3 u)).toArray) (t := 67) (fr := (0, 0)) (heap_alloc_new w4 _)) H1.out (by omega) (by unfold maxLen; omega) (by omega) (by simp; omega) (w4.heap.size + 1) (by simp) ?_
  intro g3 cap3 w5 hown hgrow hat hlt
  have HC5 := Lib.hid (grown_row hgrow)
  have HO5 := Lib.hid hown
  have HG5 := Lib.hid ((HQ4.out.blk.alloc (Obj.cells (el (y, w3 u)).toArray 67)).chg (grown_row hgrow) HNg.out)
  have HB5 := Lib.hid ((HB4.out.alloc (Obj.cells (el (y, w3 u)).toArray 67)).chg (grown_row hgrow) HNw.out)
  clear hown hgrow
  have k1 := HG5.out.cell 1
  have fk := HG5.out.frozen 1
  refine hK.out _ _ ⟨(HG5.out.cell 1), (HB5.out.cell 0), (HB5.out.cell 1), (HB5.out.cell 2), (HB5.out.cell 3), (HB5.out.cell 4), (HB5.out.cell 5), (HB5.out.cell 6), (HB5.out.cell 7), (HB5.out.cell 8), (HB5.out.cell 9)⟩ (fun hHeld => ?_)
  clear hK K
  refine norm_ (a' := ?_) ?_ ?_
  rotate_left
  · show Act.put _ (some 39) _ = _
    simp only [Act.put, List.setIfInBounds_toArray, List.set_cons_zero, List.set_cons_succ]
    rfl
  refine pure_ (i := 14) (N := some 40) (v := ?_) (a' := ?_) #[true, true, true, true, true, true, true, true, true, true, true, true, true, true, true, false, false] rfl rfl (by kernel_rfl) (fun _ _ _ h => h) (Or.inl ⟨by rfl, ?_⟩) ?_ ?_
  rotate_left
  · intro w'
    go_simp
    with_reducible rfl
  rotate_left
  · simp only [Act.put, List.setIfInBounds_toArray, List.set_cons_zero, List.set_cons_succ]
    rfl
  refine pure_ (i := 15) (N := some 41) (v := ?_) (a' := ?_) #[true, true, true, true, true, true, true, true, true, true, true, true, true, true, true, true, false] rfl rfl (by kernel_rfl) (fun _ _ _ h => h) (Or.inl ⟨by rfl, ?_⟩) ?_ ?_
  rotate_left
  · intro w'
    go_simp
    with_reducible rfl
  rotate_left
  · simp only [Act.put, List.setIfInBounds_toArray, List.set_cons_zero, List.set_cons_succ]
    rfl
  refine last_ (i := 16) (N := none) #[true, true, true, true, true, true, true, true, true, true, true, true, true, true, true, true, true] rfl rfl (by kernel_rfl) (by decide) (fun K hK => ?_)
  refine skip_ (w1 := ?_) (by rfl) rfl ?_ ?_
  rotate_left
  · go_simp
    rfl
  refine hK.out _ _ ?_
  clear hK K
  refine done_ (by kernel_rfl) ?_
  have hq := HQ4.out.chg ((Chg.refl NoB w4).alloc (Obj.cells (el (y, w3 u)).toArray 67))
  have hs : Chg (Only g) w5 (w5.setCell ⟨g, 1, none⟩ (.slice (some ⟨g3, 0, none⟩) (L.length + 1) cap3)) := (Chg.refl (Only g) w5).setOwn 1 _
  have hr := HQ4.out.rg
  have q6 : QA (w5.setCell ⟨g, 1, none⟩ (.slice (some ⟨g3, 0, none⟩) (L.length + 1) cap3)) g r most now (L ++ [(y, w3 u)]) (.slice (some ⟨g3, 0, none⟩) (L.length + 1) cap3) :=
    ⟨HG5.out.set_ 1 _, (hq.ta.chg HC5.out HNr.out).chg hs (by unfold Only; omega), by
      rw [fl_append, fl_one, List.length_append]
      exact own_apart HO5.out hs, hr, by
      rw [fl_append, fl_one]
      intro v hv
      rcases List.mem_append.1 hv with hv | hv
      · exact HQ4.out.one v hv
      · exact H1.out v hv⟩
  have HQ6 := Lib.hid q6
  have HK6 : Hid (Chg (Qp g r (.slice p L.length cap)) w4 (w5.setCell ⟨g, 1, none⟩ (.slice (some ⟨g3, 0, none⟩) (L.length + 1) cap3))) := Lib.hid ((((Chg.refl (Qp g r (.slice p L.length cap)) w4).alloc (Obj.cells (el (y, w3 u)).toArray 67)).trans (HC5.out.mono fun k _ hk => .inr (.inr hk))).trans (hs.mono fun k _ hk => .inl hk))
  have hat' : ∀ k, (Value.slice (some ⟨g3, 0, none⟩) (L.length + 1) cap3).ownBlock = some k → (Value.slice p L.length cap).ownBlock = some k ∨ w4.heap.size ≤ k := fun k hk => by
    have hk' : g3 = k := Option.some.inj hk
    subst hk'
    rcases hat with hat | hat
    · exact .inl hat
    · exact .inr (by omega)
  have HAT := Lib.hid hat'
  clear hq hs q6 hat'
  go_wp2_with fail
  go_ret
  exact ⟨rfl, y, _, w4, HQ6.out, HZ.out, HC4.out, HK6.out, HAT.out⟩
/-- Put where there is room, and copied does not change the message. -/
theorem put_ok {w : World} {g r : Nat} {most now : Int} {L : List (Ms × Int)} {s : Value} (q : QA w g r most now L s) (x : Ms) (u : Int) (h : (L.length : Int) < most) (hl : L.length ≤ 1000) (h1 : ∀ v ∈ mc x, v.oneCell' = true)
    (hcp : ∀ w1, Chg NoB w w1 → Calls Try.prog 25 #[msv x] w1 fun e w' => e = .returned (msv x) ∧ Chg NoB w1 w') :
    Calls Try.prog 10 #[.pointer (some ⟨g, 0, none⟩), msv x, .int .i64 u] w fun e w' => e = .returned (.int .i64 0) ∧ (∃ s', QA w' g r most now (L ++ [(x, w3 u)]) s') ∧ Kp r w w' :=
  (put_ft q x u h hl (fun y _ => y = x) fun w1 hw => (hcp w1 hw).mono fun e w' ⟨he, hC⟩ => ⟨x, he, h1, rfl, hC⟩).mono fun e w' ⟨he, y, s', w4, hq, hy, hC, hF, _⟩ => by
    subst hy
    exact ⟨he, ⟨s', hq⟩, (Kp.of_no hC).trans (Kp.of_foot (q.chg hC) hF)⟩
end Go.Proofs.Ytcefaohdikongaa
