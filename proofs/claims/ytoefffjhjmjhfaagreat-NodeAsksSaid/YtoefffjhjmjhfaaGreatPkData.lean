/- What memory holds, read to its end: a word for all kinds of data, and how it stands when memory changes. No statement is proved here. The program's kinds of data, as plain Lean, and how they lie in cells. No statement is proved here. Blocks of a few cells, written whole; facts that stand when nothing that was there changes. No statement is proved here. -/
import Derived.Test.YtoefffjhjmjhfaaGreatPkBase
import Derived.Deep.AppendLies
import Derived.Test.YtoefffjhjmjhfaaGreatProg
import Derived.WalkKit
import Derived.Deep.CutBlock
namespace Go.Proofs.YtoefffjhjmjhfaaGreat
open Go.RowKit

/-- A cell's value, followed to its end: itself, or a slice's rows, n cells each. -/
inductive D where
  | c (v : Value)
  | s (n : Nat) (rows : List (List D))
/-- A value reads as data; all blocks on the way are of A. -/
inductive Rd (w : World) (A : Nat → Prop) : D → Value → Prop where
  | c (v : Value) (h : v.oneCell' = true) : Rd w A (.c v) v
  | nil (n : Nat) : Rd w A (.s n []) (.slice none 0 0)
  | e (n : Nat) (a : Addr) (cap : Nat) (hm : cap ≤ maxLen) : Rd w A (.s n []) (.slice (some a) 0 cap)
  | s (n : Nat) (rows : List (List D)) (b off cap : Nat) (vs : Nat → Nat → Value) (hc : rows.length ≤ cap) (hm : cap ≤ maxLen) (hA : 0 < rows.length → A b ∧ b < w.heap.size) (hn : ∀ i (h : i < rows.length), rows[i].length = n)
      (hcell : ∀ i j, i < rows.length → j < n → w.cell? ⟨b, off + i * n + j, none⟩ = some (vs i j)) (hr : ∀ i (h : i < rows.length) j (h' : j < rows[i].length), Rd w A rows[i][j] (vs i j)) : Rd w A (.s n rows) (.slice (some ⟨b, off, none⟩) rows.length cap)
def Rds (w : World) (A : Nat → Prop) : List D → List Value → Prop
  | [], [] => True
  | d :: ds, v :: vs => Rd w A d v ∧ Rds w A ds vs
  | _, _ => False
section
variable {w w' : World} {A B S : Nat → Prop}
theorem cell_lt {p : Addr} {v : Value} (h : w.cell? p = some v) : p.block < w.heap.size := by
  unfold World.cell? at h
  rcases Nat.lt_or_ge p.block w.heap.size with hlt | hge
  · exact hlt
  · rw [Array.getElem?_eq_none hge] at h; cases h
theorem Rd.move {d : D} {v : Value} (h : Rd w A d v) (hb : ∀ k, A k → k < w.heap.size → w'.heap[k]? = w.heap[k]?) (hz : w.heap.size ≤ w'.heap.size) : Rd w' A d v := by
  induction h with
  | c v h => exact .c v h
  | nil n => exact .nil n
  | e n a cap hm => exact .e n a cap hm
  | s n rows b off cap vs hc hm hA hn hcell hr ih =>
    exact .s n rows b off cap vs hc hm (fun h0 => ⟨(hA h0).1, Nat.lt_of_lt_of_le (hA h0).2 hz⟩) hn (fun i j hi hj => (World.cell?_of_block (a := ⟨b, off + i * n + j, none⟩) (hb b (hA (by omega)).1 (hA (by omega)).2)).trans (hcell i j hi hj)) ih
theorem Rd.chg {d : D} {v : Value} (h : Rd w A d v) (hC : Chg S w w') (hd : ∀ k, A k → k < w.heap.size → ¬ S k) : Rd w' A d v := h.move (fun k ha hk => hC.block k hk (hd k ha hk)) hC.size
theorem Rd.chg0 {d : D} {v : Value} (h : Rd w A d v) (hC : Chg NoB w w') : Rd w' A d v := h.chg hC fun _ _ _ => id
theorem Rd.mono {d : D} {v : Value} (h : Rd w A d v) (hAB : ∀ k, A k → k < w.heap.size → B k) : Rd w B d v := by
  induction h with
  | c v h => exact .c v h
  | nil n => exact .nil n
  | e n a cap hm => exact .e n a cap hm
  | s n rows b off cap vs hc hm hA hn hcell hr ih => exact .s n rows b off cap vs hc hm (fun h0 => ⟨hAB b (hA h0).1 (hA h0).2, (hA h0).2⟩) hn hcell ih
/-- What memory holds leads to blocks that are there. -/
theorem Rd.old {d : D} {v : Value} (h : Rd w A d v) : Rd w (fun k => A k ∧ k < w.heap.size) d v := h.mono fun _ ha hk => ⟨ha, hk⟩
theorem Rd.cell {v u : Value} (h : Rd w A (.c v) u) : u = v := by cases h; rfl
theorem Rd.one {d : D} {v : Value} (h : Rd w A d v) : v.oneCell' = true := by cases h <;> first | assumption | rfl
theorem Rds.mono : ∀ {ds : List D} {vs : List Value}, Rds w A ds vs → (∀ k, A k → k < w.heap.size → B k) → Rds w B ds vs
  | [], [], _, _ => trivial
  | _ :: _, _ :: _, h, k => ⟨h.1.mono k, Rds.mono h.2 k⟩
theorem Rds.chg : ∀ {ds : List D} {vs : List Value}, Rds w A ds vs → Chg S w w' → (∀ k, A k → k < w.heap.size → ¬ S k) → Rds w' A ds vs
  | [], [], _, _, _ => trivial
  | _ :: _, _ :: _, h, hC, k => ⟨h.1.chg hC k, Rds.chg h.2 hC k⟩
theorem Rds.chg0 {ds : List D} {vs : List Value} (h : Rds w A ds vs) (hC : Chg NoB w w') : Rds w' A ds vs := h.chg hC fun _ _ _ => id
theorem Rds.length : ∀ {ds : List D} {vs : List Value}, Rds w A ds vs → vs.length = ds.length
  | [], [], _ => rfl
  | _ :: _, _ :: _, h => by simp [Rds.length h.2]
theorem Rds.get : ∀ {ds : List D} {vs : List Value}, Rds w A ds vs → ∀ {j : Nat} (h : j < ds.length) (h' : j < vs.length), Rd w A ds[j] vs[j]
  | _ :: _, _ :: _, h, 0, _, _ => h.1
  | _ :: _, _ :: _, h, j + 1, h1, h2 => Rds.get h.2 (j := j) (by simpa using h1) (by simpa using h2)
theorem Rds.of_get : ∀ {ds : List D} {vs : List Value}, vs.length = ds.length → (∀ j (h : j < ds.length) (h' : j < vs.length), Rd w A ds[j] vs[j]) → Rds w A ds vs
  | [], [], _, _ => trivial
  | [], _ :: _, h, _ => by simp at h
  | _ :: _, [], h, _ => by simp at h
  | _ :: _, _ :: _, h, k => ⟨k 0 (by simp) (by simp), Rds.of_get (by simpa using h) fun j h1 h2 => k (j + 1) (by simpa using h1) (by simpa using h2)⟩
theorem Rds.one : ∀ {ds : List D} {vs : List Value}, Rds w A ds vs → ∀ v ∈ vs, v.oneCell' = true
  | [], [], _, v, h => by cases h
  | _ :: _, _ :: _, h, v, hv => by
    rcases List.mem_cons.1 hv with rfl | hv
    · exact h.1.one
    · exact Rds.one h.2 v hv
theorem Rds.append : ∀ {ds es : List D} {vs us : List Value}, Rds w A ds vs → Rds w A es us → Rds w A (ds ++ es) (vs ++ us)
  | [], _, [], _, _, h => h
  | _ :: _, _, _ :: _, _, h, k => ⟨h.1, Rds.append h.2 k⟩
theorem Rds.cs : ∀ {vs : List Value}, (∀ v ∈ vs, v.oneCell' = true) → Rds w A (vs.map .c) vs
  | [], _ => trivial
  | v :: vs, h => ⟨.c v (h v (by simp)), Rds.cs fun u hu => h u (by simp [hu])⟩
theorem Rds.of_cs : ∀ {us vs : List Value}, Rds w A (us.map .c) vs → vs = us
  | [], [], _ => rfl
  | _ :: _, _ :: _, h => by rw [h.1.cell, Rds.of_cs h.2]
/-- What a slice is, and what its rows' cells are. -/
theorem Rd.form {n : Nat} {rows : List (List D)} {v : Value} (h : Rd w A (.s n rows) v) : ∃ p cap, v = .slice p rows.length cap ∧ rows.length ≤ cap ∧ cap ≤ maxLen ∧ (p = none ∧ cap = 0 ∨ (∃ b off, p = some ⟨b, off, none⟩) ∨ ∃ a, p = some a ∧ rows.length = 0) ∧
    (0 < rows.length → ∃ b off, p = some ⟨b, off, none⟩ ∧ A b ∧ b < w.heap.size) ∧
    ∀ b off, p = some ⟨b, off, none⟩ → ∀ i (h : i < rows.length), ∃ cs, cs.length = n ∧ Rds w A rows[i] cs ∧ ∀ j, j < n → w.cell? ⟨b, off + i * n + j, none⟩ = cs[j]? := by
  cases h with
  | nil n => exact ⟨none, 0, rfl, Nat.le_refl _, Nat.zero_le _, .inl ⟨rfl, rfl⟩, fun h => absurd h (by simp), fun _ _ h => by cases h⟩
  | e n a cap hm => exact ⟨some a, cap, rfl, Nat.zero_le _, hm, .inr (.inr ⟨a, rfl, rfl⟩), fun h => absurd h (by simp), fun _ _ _ i h => absurd h (by simp)⟩
  | s n rows b off cap vs hc hm hA hn hcell hr =>
    refine ⟨_, cap, rfl, hc, hm, .inr (.inl ⟨_, _, rfl⟩), fun h => ⟨b, off, rfl, (hA h).1, (hA h).2⟩, fun b' off' he i hi => ?_⟩
    simp only [Option.some.injEq, Addr.mk.injEq, and_true] at he
    obtain ⟨rfl, rfl⟩ := he
    refine ⟨(List.range n).map (vs i), by simp, Rds.of_get (by simp [hn i hi]) (fun j h1 h2 => by simpa using hr i hi j h1), fun j hj => ?_⟩
    rw [hcell i j hi hj]
    simp [hj]
theorem Rd.cap {n : Nat} {rows : List (List D)} {p : Option Addr} {l cap : Nat} (h : Rd w A (.s n rows) (.slice p l cap)) : l = rows.length ∧ l ≤ cap ∧ cap ≤ maxLen := by
  obtain ⟨p', cap', he, h1, h2, _⟩ := h.form
  cases he
  exact ⟨rfl, h1, h2⟩
/-- Rows, laid one behind the other. -/
def Flat (w : World) (A : Nat → Prop) (n : Nat) : List (List D) → List Value → Prop
  | [], xs => xs = []
  | r :: rows, xs => ∃ cs ys, xs = cs ++ ys ∧ cs.length = n ∧ Rds w A r cs ∧ Flat w A n rows ys
theorem Flat.length {n : Nat} : ∀ {rows : List (List D)} {xs : List Value}, Flat w A n rows xs → xs.length = rows.length * n
  | [], xs, h => by rw [show xs = [] from h]; simp
  | r :: rows, xs, ⟨cs, ys, hx, hl, _, hf⟩ => by
    have := Flat.length hf
    rw [hx, List.length_append, hl, this, List.length_cons, Nat.succ_mul]
    omega
theorem Flat.mono {n : Nat} : ∀ {rows : List (List D)} {xs : List Value}, Flat w A n rows xs → (∀ k, A k → k < w.heap.size → B k) → Flat w B n rows xs
  | [], _, h, _ => h
  | _ :: _, _, ⟨cs, ys, hx, hl, hr, hf⟩, k => ⟨cs, ys, hx, hl, hr.mono k, Flat.mono hf k⟩
theorem Flat.chg {n : Nat} : ∀ {rows : List (List D)} {xs : List Value}, Flat w A n rows xs → Chg S w w' → (∀ k, A k → k < w.heap.size → ¬ S k) → Flat w' A n rows xs
  | [], _, h, _, _ => h
  | _ :: _, _, ⟨cs, ys, hx, hl, hr, hf⟩, hC, k => ⟨cs, ys, hx, hl, hr.chg hC k, Flat.chg hf hC k⟩
theorem Flat.append {n : Nat} : ∀ {rows rows' : List (List D)} {xs xs' : List Value}, Flat w A n rows xs → Flat w A n rows' xs' → Flat w A n (rows ++ rows') (xs ++ xs')
  | [], _, xs, _, h, h' => by rw [show xs = [] from h]; exact h'
  | _ :: _, _, _, _, ⟨cs, ys, hx, hl, hr, hf⟩, h' => ⟨cs, ys ++ _, by rw [hx, List.append_assoc], hl, hr, Flat.append hf h'⟩
theorem Flat.one {n : Nat} {r : List D} {cs : List Value} (hl : cs.length = n) (h : Rds w A r cs) : Flat w A n [r] cs := ⟨cs, [], by simp, hl, h, rfl⟩
theorem Flat.get {n : Nat} : ∀ {rows : List (List D)} {xs : List Value}, Flat w A n rows xs → ∀ {i : Nat} (h : i < rows.length), ∃ cs, cs.length = n ∧ Rds w A rows[i] cs ∧ ∀ j, j < n → xs[i * n + j]? = cs[j]?
  | _ :: _, _, ⟨cs, ys, hx, hl, hr, hf⟩, 0, _ => ⟨cs, hl, hr, fun j hj => by rw [hx, Nat.zero_mul, Nat.zero_add, List.getElem?_append_left (by omega)]⟩
  | _ :: rows, _, ⟨cs, ys, hx, hl, hr, hf⟩, i + 1, h => by
    obtain ⟨es, h1, h2, h3⟩ := Flat.get hf (i := i) (by simpa using h)
    refine ⟨es, h1, h2, fun j hj => ?_⟩
    rw [hx, List.getElem?_append_right (by rw [hl, Nat.succ_mul]; omega), hl, show (i + 1) * n + j - n = i * n + j by rw [Nat.succ_mul]; omega]
    exact h3 j hj
theorem Flat.ones {n : Nat} : ∀ {rows : List (List D)} {xs : List Value}, Flat w A n rows xs → ∀ v ∈ xs, v.oneCell' = true
  | [], xs, h, v, hv => by rw [show xs = [] from h] at hv; cases hv
  | _ :: _, _, ⟨cs, ys, hx, hl, hr, hf⟩, v, hv => by
    rw [hx] at hv
    rcases List.mem_append.1 hv with hv | hv
    · exact hr.one v hv
    · exact Flat.ones hf v hv
/-- A slice of the call's own, read. -/
theorem Flat.rd {n base : Nat} {e : TypeId} {rows : List (List D)} {xs : List Value} {v : Value} (hw : w.ownsRow base e n v rows.length xs) (h : Flat w A n rows xs) (hl : ∀ r ∈ rows, r.length = n) (hA : ∀ k, v.ownBlock = some k → A k) : Rd w A (.s n rows) v := by
  rcases hw.2 with ⟨rfl, h0⟩ | ⟨g, cap, cur, rfl, hb, hg, hn, hm, hs, ht⟩
  · obtain rfl : rows = [] := List.length_eq_zero_iff.1 h0
    exact .nil n
  · refine .s n rows g 0 cap (fun i j => (xs[i * n + j]?).getD undef) hn hm (fun _ => ⟨hA g rfl, (Array.getElem?_eq_some_iff.1 hg).1⟩) (fun i hi => hl _ (List.getElem_mem hi)) (fun i j hi hj => ?_) fun i hi j hj => ?_
    · obtain ⟨cs, h1, h2, h3⟩ := h.get hi
      rw [h3 j hj, show (0 + i * n + j) = i * n + j by omega, cell_of_row w g _ cur e (0, 0) hg, List.getElem?_eq_getElem (by omega)]
      have h4 := h3 j hj
      rw [← ht, List.getElem?_take_of_lt (by
        have : i * n + n ≤ rows.length * n := by rw [← Nat.succ_mul]; exact Nat.mul_le_mul_right n hi
        omega)] at h4
      rw [← Array.getElem?_toList, h4, List.getElem?_eq_getElem (by omega)]
      rfl
    · obtain ⟨cs, h1, h2, h3⟩ := h.get hi
      have hjn : j < n := by rw [← hl _ (List.getElem_mem hi)]; exact hj
      rw [h3 j hjn, List.getElem?_eq_getElem (by omega)]
      exact h2.get hj (by omega)
end
/-- New to a world. -/
abbrev New (w : World) : Nat → Prop := fun k => w.heap.size ≤ k
/-- A slice of the call's own: its rows. -/
structure OR (w : World) (base : Nat) (A : Nat → Prop) (e : TypeId) (n : Nat) (v : Value) (rows : List (List D)) : Prop where
  ex : ∃ xs, w.ownsRow base e n v rows.length xs ∧ Flat w A n rows xs
  len : ∀ r ∈ rows, r.length = n
section
variable {w w' : World} {A B S : Nat → Prop} {base n : Nat} {e : TypeId} {v : Value} {rows : List (List D)}
theorem OR.nil (w : World) (base : Nat) (A : Nat → Prop) (e : TypeId) (n : Nat) : OR w base A e n (.slice none 0 0) [] := ⟨⟨[], World.ownsRow_nil _ _ _ _, rfl⟩, fun r hr => by cases hr⟩
theorem own_chg {xs : List Value} {m : Nat} (h : w.ownsRow base e n v m xs) (hC : Chg S w w') (ho : ∀ k, v.ownBlock = some k → ¬ S k) : w'.ownsRow base e n v m xs := by
  refine ⟨h.1, ?_⟩
  rcases h.2 with h0 | ⟨g, cap, cur, rfl, hb, hg, hrest⟩
  · exact .inl h0
  · exact .inr ⟨g, cap, cur, rfl, hb, (hC.block g (Array.getElem?_eq_some_iff.1 hg).1 (ho g rfl)).trans hg, hrest⟩
theorem OR.chg (h : OR w base A e n v rows) (hC : Chg S w w') (hd : ∀ k, A k → k < w.heap.size → ¬ S k) (ho : ∀ k, v.ownBlock = some k → ¬ S k) : OR w' base A e n v rows := by
  obtain ⟨⟨xs, h1, h2⟩, h3⟩ := h
  exact ⟨⟨xs, own_chg h1 hC ho, h2.chg hC hd⟩, h3⟩
theorem OR.chg0 (h : OR w base A e n v rows) (hC : Chg NoB w w') : OR w' base A e n v rows := h.chg hC (fun _ _ _ => id) fun _ _ => id
theorem OR.mono (h : OR w base A e n v rows) (hAB : ∀ k, A k → k < w.heap.size → B k) : OR w base B e n v rows := by
  obtain ⟨⟨xs, h1, h2⟩, h3⟩ := h
  exact ⟨⟨xs, h1, h2.mono hAB⟩, h3⟩
theorem OR.rd (h : OR w base A e n v rows) (hA : ∀ k, base ≤ k → k < w.heap.size → A k) : Rd w A (.s n rows) v := by
  obtain ⟨⟨xs, h1, h2⟩, h3⟩ := h
  exact h2.rd h1 h3 fun k hk => hA k (h1.lt k hk).1 (h1.lt k hk).2
theorem OR.form (h : OR w base A e n v rows) : (v = .slice none 0 0 ∧ rows = []) ∨ ∃ g cap, v = .slice (some ⟨g, 0, none⟩) rows.length cap ∧ base ≤ g ∧ g < w.heap.size ∧ rows.length ≤ cap := by
  obtain ⟨⟨xs, h1, h2⟩, h3⟩ := h
  rcases h1.2 with ⟨h0, hn⟩ | ⟨g, cap, cur, hv, hb, hg, hn, _⟩
  · exact .inl ⟨h0, List.length_eq_zero_iff.1 hn⟩
  · exact .inr ⟨g, cap, hv, hb, (Array.getElem?_eq_some_iff.1 hg).1, hn⟩
theorem OR.lt (h : OR w base A e n v rows) : ∀ k, v.ownBlock = some k → base ≤ k ∧ k < w.heap.size := by
  obtain ⟨⟨xs, h1, h2⟩, h3⟩ := h
  exact h1.lt
theorem OR.own (h : OR w base A e n v rows) : ∃ xs, w.ownsRow base e n v rows.length xs ∧ Flat w A n rows xs := h.ex
end
end Go.Proofs.YtoefffjhjmjhfaaGreat
namespace Go.Proofs.YtoefffjhjmjhfaaGreat
open Go.RowKit

abbrev iD (n : Int) : D := .c (.int .i64 n)
/-- Bytes. -/
def bI (zs : List Int) : D := .s 1 (zs.map fun z => [.c (.int .u8 z)])
def nums (l : List UInt8) : List Int := l.map fun c => (c.toNat : Int)
theorem nums_length (l : List UInt8) : (nums l).length = l.length := List.length_map ..
theorem nums_inj {l m : List UInt8} (h : nums l = nums m) : l = m := by
  unfold nums at h
  exact List.map_inj_right (fun a b hab => UInt8.toNat_inj.1 (Int.ofNat_inj.1 hab)) |>.1 h
def bD (l : List UInt8) : D := bI (nums l)
/-- A value that stands: its event, its data; was it deleted. -/
structure Vl where
  node : Int
  n : Int
  data : List UInt8
  dead : Bool
deriving DecidableEq
def vlD (v : Vl) : List D := [iD v.node, iD v.n, bD v.data, .c (.bool v.dead)]
def vlsD (l : List Vl) : D := .s 4 (l.map vlD)
abbrev vlc (v : Vl) (d : Value) : Array Value := #[.int .i64 v.node, .int .i64 v.n, d, .bool v.dead]
abbrev vlv (v : Vl) (d : Value) : Value := .agg (vlc v d)
abbrev Vq := Nat → Int
/-- What is known of a key. -/
structure Sb where
  seen : Vq
  vals : List Vl
abbrev sbc (s : Sb) (p : Value) : Array Value := #[.int .i64 (s.seen 0), .int .i64 (s.seen 1), .int .i64 (s.seen 2), .int .i64 (s.seen 3), .int .i64 (s.seen 4), .int .i64 (s.seen 5), .int .i64 (s.seen 6), .int .i64 (s.seen 7), p]
abbrev sbv (s : Sb) (p : Value) : Value := .agg (sbc s p)
def sbD (s : Sb) : List D := [iD (s.seen 0), iD (s.seen 1), iD (s.seen 2), iD (s.seen 3), iD (s.seen 4), iD (s.seen 5), iD (s.seen 6), iD (s.seen 7), vlsD s.vals]
/-- A key, and what is known of it. -/
structure En where
  key : ByteArray
  sb : Sb
abbrev enc_ (e : En) (p : Value) : Array Value := #[.string e.key, .int .i64 (e.sb.seen 0), .int .i64 (e.sb.seen 1), .int .i64 (e.sb.seen 2), .int .i64 (e.sb.seen 3), .int .i64 (e.sb.seen 4), .int .i64 (e.sb.seen 5), .int .i64 (e.sb.seen 6), .int .i64 (e.sb.seen 7), p]
abbrev env_ (e : En) (p : Value) : Value := .agg (enc_ e p)
def enD (e : En) : List D := .c (.string e.key) :: sbD e.sb
section
variable {w w' : World} {A : Nat → Prop}
/-- Bytes in memory: their slice. -/
theorem bytes_formI {zs : List Int} {v : Value} (h : Rd w A (bI zs) v) : ∃ p cap, v = .slice p zs.length cap ∧ zs.length ≤ cap ∧ cap ≤ maxLen ∧ (p = none ∧ cap = 0 ∨ (∃ b off, p = some ⟨b, off, none⟩) ∨ ∃ a, p = some a ∧ zs.length = 0) ∧ (0 < zs.length → ∃ b off, p = some ⟨b, off, none⟩ ∧ A b ∧ b < w.heap.size) ∧
    ∀ b off, p = some ⟨b, off, none⟩ → ∀ i (h : i < zs.length), w.cell? ⟨b, off + i, none⟩ = some (.int .u8 zs[i]) := by
  obtain ⟨p, cap, rfl, h1, h2, h3, h4, h5⟩ := h.form
  simp only [List.length_map] at *
  refine ⟨p, cap, rfl, h1, h2, h3, h4, fun b off hp i hi => ?_⟩
  obtain ⟨cs, hl, hr, hc⟩ := h5 b off hp i hi
  match cs, hl with
  | [c], _ =>
    have := hc 0 (by decide)
    simp only [List.getElem_map] at hr
    rw [Nat.mul_one, Nat.add_zero] at this
    rw [this, ← hr.1.cell]
    rfl
theorem bytes_form {l : List UInt8} {v : Value} (h : Rd w A (bD l) v) : ∃ p cap, v = .slice p l.length cap ∧ l.length ≤ cap ∧ cap ≤ maxLen ∧ (p = none ∧ cap = 0 ∨ (∃ b off, p = some ⟨b, off, none⟩) ∨ ∃ a, p = some a ∧ l.length = 0) ∧ (0 < l.length → ∃ b off, p = some ⟨b, off, none⟩ ∧ A b ∧ b < w.heap.size) ∧
    ∀ b off, p = some ⟨b, off, none⟩ → ∀ i (h : i < l.length), w.cell? ⟨b, off + i, none⟩ = some (.int .u8 l[i].toNat) := by
  obtain ⟨p, cap, rfl, h1, h2, h3, h4, h5⟩ := bytes_formI h
  simp only [nums_length] at *
  refine ⟨p, cap, rfl, h1, h2, h3, h4, fun b off hp i hi => ?_⟩
  rw [h5 b off hp i hi]
  simp [nums]
theorem vl_row {v : Vl} {cs : List Value} (h : Rds w A (vlD v) cs) : ∃ d, cs = [.int .i64 v.node, .int .i64 v.n, d, .bool v.dead] ∧ Rd w A (bD v.data) d := by
  match cs, h with
  | [a, b, d, e], h => exact ⟨d, by rw [h.1.cell, h.2.1.cell, h.2.2.2.1.cell], h.2.2.1⟩
theorem vl_rds {v : Vl} {d : Value} (h : Rd w A (bD v.data) d) : Rds w A (vlD v) [.int .i64 v.node, .int .i64 v.n, d, .bool v.dead] := ⟨.c _ rfl, .c _ rfl, h, .c _ rfl, trivial⟩
/-- Values in memory: their slice; each one's four cells. -/
theorem vls_form {l : List Vl} {v : Value} (h : Rd w A (vlsD l) v) : ∃ p cap, v = .slice p l.length cap ∧ l.length ≤ cap ∧ cap ≤ maxLen ∧ (p = none ∧ cap = 0 ∨ (∃ b off, p = some ⟨b, off, none⟩) ∨ ∃ a, p = some a ∧ l.length = 0) ∧ (0 < l.length → ∃ b off, p = some ⟨b, off, none⟩ ∧ A b ∧ b < w.heap.size) ∧
    ∀ b off, p = some ⟨b, off, none⟩ → ∀ i (h : i < l.length), ∃ d, Rd w A (bD l[i].data) d ∧ w.cell? ⟨b, off + i * 4, none⟩ = some (.int .i64 l[i].node) ∧ w.cell? ⟨b, off + i * 4 + 1, none⟩ = some (.int .i64 l[i].n) ∧ w.cell? ⟨b, off + i * 4 + 2, none⟩ = some d ∧ w.cell? ⟨b, off + i * 4 + 3, none⟩ = some (.bool l[i].dead) := by
  obtain ⟨p, cap, rfl, h1, h2, h3, h4, h5⟩ := h.form
  simp only [List.length_map] at *
  refine ⟨p, cap, rfl, h1, h2, h3, h4, fun b off hp i hi => ?_⟩
  obtain ⟨cs, hl, hr, hc⟩ := h5 b off hp i hi
  simp only [List.getElem_map] at hr
  obtain ⟨d, rfl, hd⟩ := vl_row hr
  exact ⟨d, hd, hc 0 (by decide), hc 1 (by decide), hc 2 (by decide), hc 3 (by decide)⟩
end
end Go.Proofs.YtoefffjhjmjhfaaGreat
namespace Go.Proofs.YtoefffjhjmjhfaaGreat
open Go.RowKit
section
variable {w w' w0 W : World} {g n base : Nat} {t e : TypeId} {cs : Array Value} {S A : Nat → Prop} {d : D} {ds : List D} {v : Value} {vs : List Value} {rows : List (List D)}
theorem Blk.st (h : Blk w g t cs) (hC : Chg NoB w w') : Blk w' g t cs := h.chg hC id
theorem Chg.st (h : Chg S w0 w) (hC : Chg NoB w w') : Chg S w0 w' := h.trans hC.of_no
theorem Rd.st (h : Rd w A d v) (hC : Chg NoB w w') : Rd w' A d v := h.chg0 hC
theorem Rds.st (h : Rds w A ds vs) (hC : Chg NoB w w') : Rds w' A ds vs := h.chg0 hC
theorem OR.st (h : OR w base A e n v rows) (hC : Chg NoB w w') : OR w' base A e n v rows := h.chg0 hC
theorem Chg.al (w : World) (o : Obj) : Chg NoB w (w.alloc o) := (Chg.refl NoB w).alloc o
theorem Chg.dr (w : World) : Chg NoB w w.drew := (Chg.refl NoB w).drew
/-- A store into a block that is new to w0. -/
theorem Chg.sc (h : Chg S w0 w) {b i : Nat} (hb : w0.heap.size ≤ b) (u : Value) : Chg S w0 (w.setCell ⟨b, i, none⟩ u) := h.setCell (p := ⟨b, i, none⟩) (.inr hb) u
/-- Data stands when a cell of a block that is not its own is written. -/
theorem Rd.sc (h : Rd w A d v) {b i : Nat} (hb : ¬ A b) (u : Value) : Rd (w.setCell ⟨b, i, none⟩ u) A d v := h.chg ((Chg.refl (Only b) w).setOwn i u) fun _ hk _ hs => hb (hs ▸ hk)
theorem OR.sc (h : OR w base A e n v rows) {b i : Nat} (hb : ¬ A b) (ho : v.ownBlock ≠ some b) (u : Value) : OR (w.setCell ⟨b, i, none⟩ u) base A e n v rows := h.chg ((Chg.refl (Only b) w).setOwn i u) (fun _ hk _ hs => hb (hs ▸ hk)) fun _ hk hs => ho (hs ▸ hk)
end
/-- A slice that grows: what its rows lead to is of B, and not in its own array. -/
abbrev OB (w : World) (base : Nat) (B : Nat → Prop) (e : TypeId) (n : Nat) (v : Value) (rows : List (List D)) : Prop := OR w base (fun k => B k ∧ v.ownBlock ≠ some k) e n v rows
/-- From a block on. -/
abbrev Fr (N : Nat) : Nat → Prop := fun k => N ≤ k
theorem OB.rd {w : World} {B : Nat → Prop} {base n : Nat} {e : TypeId} {v : Value} {rows : List (List D)} (h : OB w base B e n v rows) (hB : ∀ k, base ≤ k → B k) : Rd w B (.s n rows) v := OR.rd (OR.mono h fun _ hk _ => hk.1) fun k hk _ => hB k hk
theorem grow_chg {w w' : World} {v : Value} (h : w.grownBy w' v.ownBlock) : Chg (fun k => v.ownBlock = some k) w w' :=
  ⟨h.1, h.2, h.3, h.4, fun k hk hn => h.5 k hk fun e => hn e.symm⟩
section
variable {P : Program} {w : World} {B : Nat → Prop} {base n : Nat} {e : TypeId} {v : Value} {rows : List (List D)}
theorem OB.nil (w : World) (base : Nat) (B : Nat → Prop) (e : TypeId) (n : Nat) : OB w base B e n (.slice none 0 0) [] := OR.nil _ _ _ _ _
theorem OB.push {w' : World} (h : OB w base B e n v rows) {r : List D} {cs : List Value} (hr : Rds w (fun k => B k ∧ v.ownBlock ≠ some k) r cs) (hl : cs.length = n) (hrl : r.length = n) {xs : List Value} (hf : Flat w (fun k => B k ∧ v.ownBlock ≠ some k) n rows xs) {g cap : Nat}
    (hown : w'.ownsRow base e n (.slice (some ⟨g, 0, none⟩) (rows.length + 1) cap) (rows.length + 1) (xs ++ cs)) (hg : Chg (fun k => v.ownBlock = some k) w w') (hat : v.ownBlock = some g ∨ g = w.heap.size) :
    OB w' base B e n (.slice (some ⟨g, 0, none⟩) (rows.length + 1) cap) (rows ++ [r]) := by
  have hm : ∀ k, (B k ∧ v.ownBlock ≠ some k) → k < w'.heap.size → k < w.heap.size → (B k ∧ (Value.slice (some ⟨g, 0, none⟩) (rows.length + 1) cap).ownBlock ≠ some k) := fun k ⟨h1, h2⟩ _ hk => ⟨h1, fun he => by
    simp only [Value.ownBlock, Option.some.injEq] at he
    subst he
    rcases hat with hat | hat
    · exact h2 hat
    · omega⟩
  have hd : ∀ k, (B k ∧ v.ownBlock ≠ some k) → k < w.heap.size → ¬ v.ownBlock = some k := fun k ⟨_, h2⟩ _ => h2
  have hf0 : Flat w (fun k => (B k ∧ v.ownBlock ≠ some k) ∧ k < w.heap.size) n rows xs := hf.mono fun k hk hlt => ⟨hk, hlt⟩
  have hr0 : Rds w (fun k => (B k ∧ v.ownBlock ≠ some k) ∧ k < w.heap.size) r cs := hr.mono fun k hk hlt => ⟨hk, hlt⟩
  have hf1 := (hf0.chg hg fun k hk hlt => hd k hk.1 hlt).mono (B := fun k => B k ∧ (Value.slice (some ⟨g, 0, none⟩) (rows.length + 1) cap).ownBlock ≠ some k) fun k hk hlt => hm k hk.1 hlt hk.2
  have hr1 := (hr0.chg hg fun k hk hlt => hd k hk.1 hlt).mono (B := fun k => B k ∧ (Value.slice (some ⟨g, 0, none⟩) (rows.length + 1) cap).ownBlock ≠ some k) fun k hk hlt => hm k hk.1 hlt hk.2
  refine ⟨⟨xs ++ cs, by simpa using hown, hf1.append (Flat.one hl hr1)⟩, fun r' hr' => ?_⟩
  rcases List.mem_append.1 hr' with h' | h'
  · exact h.len r' h'
  · rw [List.mem_singleton.1 h']
    exact hrl
/-- One row is appended. -/
theorem wpList_push {ops : Array Oper} {rest : List Oper} {o : Oper} {a : Act} {Q : Exit → Act → World → Prop} (hgd : o.guard = none) (s x : Operand) (t : TypeId)
    (ho : o.op = .call { callee := .builtin .append, args := #[s, x], argTypes := #[t, t] })
    (base : Nat) (e : TypeId) (z : Value) (size bytes : Nat) (ht : P.underlying t = some (.slice e)) (hi : (P.info? e).map (fun i => (i.zero, i.size, i.bytes)) = some (some z, size, bytes)) (hzs : z.cells.size = size) (hsz : 0 < size)
    (v : Value) (rows : List (List D)) (B : Nat → Prop) (hs : a.eval s = v) (h : OB w base B e size v rows)
    (b c : Nat) (te : TypeId) (cs : Array Value) (r : List D) (hx : a.eval x = .slice (some ⟨b, 0, none⟩) 1 c) (hb : Blk w b te cs) (hl : cs.size = size) (hr : Rds w (fun k => B k ∧ v.ownBlock ≠ some k) r cs.toList) (hrl : r.length = size)
    (hbytes : (rows.length + 1) * bytes ≤ 140737488355328) (h63 : rows.length + 1 ≤ maxLen) (hbase : base ≤ w.heap.size)
    (hK : ∀ g cap w', OB w' base B e size (.slice (some ⟨g, 0, none⟩) (rows.length + 1) cap) (rows ++ [r]) → Chg (fun k => v.ownBlock = some k) w w' → (v.ownBlock = some g ∨ g = w.heap.size) → g < w'.heap.size → wpList P ops Q rest (a.put o.dst (.slice (some ⟨g, 0, none⟩) (rows.length + 1) cap)) w') : wpList P ops Q (o :: rest) a w := by
  obtain ⟨i, hi, hz, hsize, hby⟩ := info_parts hi
  obtain ⟨xs, hown, hf⟩ := h.own
  refine wpList_append_lies w hgd s x t ho base e i z size bytes ht hi hz hsize hby hzs hsz v rows.length xs hs hown ⟨b, 0, none⟩ 1 c cs.toList hx (by simp [hl]) (World.news_of_block hb) (hr.one) (by decide) h63 hbytes hbase w.heap.size rfl fun g cap w' h1 h2 h3 h4 => ?_
  exact hK g cap w' (h.push hr (by simpa using hl) hrl hf h1 (grow_chg h2) h3) (grow_chg h2) h3 h4
end
theorem set2 {w : World} {b : Nat} {t : TypeId} {u0 u1 : Value} (h : Blk w b t #[u0, u1]) (v0 v1 : Value) : Blk ((w.setCell ⟨b, 0, none⟩ v0).setCell ⟨b, 1, none⟩ v1) b t #[v0, v1] := by
  have := ((h.set_ 0 v0).set_ 1 v1)
  simpa only [List.setIfInBounds_toArray, List.set_cons_zero, List.set_cons_succ] using this
theorem chg2 {S : Nat → Prop} {w0 w : World} {b : Nat} (h : Chg S w0 w) (hb : w0.heap.size ≤ b) (v0 v1 : Value) : Chg S w0 ((w.setCell ⟨b, 0, none⟩ v0).setCell ⟨b, 1, none⟩ v1) := ((h.sc (i := 0) hb v0).sc (i := 1) hb v1)
theorem far2 {w : World} {b g : Nat} {t : TypeId} {cs : Array Value} (h : Blk w g t cs) (hb : g ≠ b) (v0 v1 : Value) : Blk ((w.setCell ⟨b, 0, none⟩ v0).setCell ⟨b, 1, none⟩ v1) g t cs := ((h.far (p := ⟨b, 0, none⟩) hb v0).far (p := ⟨b, 1, none⟩) hb v1)
theorem rd2 {w : World} {b : Nat} {A : Nat → Prop} {d : D} {v : Value} (h : Rd w A d v) (hb : ¬ A b) (v0 v1 : Value) : Rd ((w.setCell ⟨b, 0, none⟩ v0).setCell ⟨b, 1, none⟩ v1) A d v := ((h.sc (i := 0) hb v0).sc (i := 1) hb v1)
theorem cells2 {w : World} {b : Nat} {t : TypeId} {u0 u1 : Value} (h : Blk w b t #[u0, u1]) : w.cell? ⟨b, 0, none⟩ = some u0 ∧ w.cell? ⟨b, 1, none⟩ = some u1 := ⟨h.cell 0, h.cell 1⟩
theorem frz2 {w : World} {b : Nat} {t : TypeId} {cs : Array Value} (h : Blk w b t cs) : w.frozen? ⟨b, 0, none⟩ = false ∧ w.frozen? ⟨b, 1, none⟩ = false := ⟨h.frozen 0, h.frozen 1⟩
theorem set4 {w : World} {b : Nat} {t : TypeId} {u0 u1 u2 u3 : Value} (h : Blk w b t #[u0, u1, u2, u3]) (v0 v1 v2 v3 : Value) : Blk ((((w.setCell ⟨b, 0, none⟩ v0).setCell ⟨b, 1, none⟩ v1).setCell ⟨b, 2, none⟩ v2).setCell ⟨b, 3, none⟩ v3) b t #[v0, v1, v2, v3] := by
  have := ((((h.set_ 0 v0).set_ 1 v1).set_ 2 v2).set_ 3 v3)
  simpa only [List.setIfInBounds_toArray, List.set_cons_zero, List.set_cons_succ] using this
theorem chg4 {S : Nat → Prop} {w0 w : World} {b : Nat} (h : Chg S w0 w) (hb : w0.heap.size ≤ b) (v0 v1 v2 v3 : Value) : Chg S w0 ((((w.setCell ⟨b, 0, none⟩ v0).setCell ⟨b, 1, none⟩ v1).setCell ⟨b, 2, none⟩ v2).setCell ⟨b, 3, none⟩ v3) := ((((h.sc (i := 0) hb v0).sc (i := 1) hb v1).sc (i := 2) hb v2).sc (i := 3) hb v3)
theorem far4 {w : World} {b g : Nat} {t : TypeId} {cs : Array Value} (h : Blk w g t cs) (hb : g ≠ b) (v0 v1 v2 v3 : Value) : Blk ((((w.setCell ⟨b, 0, none⟩ v0).setCell ⟨b, 1, none⟩ v1).setCell ⟨b, 2, none⟩ v2).setCell ⟨b, 3, none⟩ v3) g t cs := ((((h.far (p := ⟨b, 0, none⟩) hb v0).far (p := ⟨b, 1, none⟩) hb v1).far (p := ⟨b, 2, none⟩) hb v2).far (p := ⟨b, 3, none⟩) hb v3)
theorem rd4 {w : World} {b : Nat} {A : Nat → Prop} {d : D} {v : Value} (h : Rd w A d v) (hb : ¬ A b) (v0 v1 v2 v3 : Value) : Rd ((((w.setCell ⟨b, 0, none⟩ v0).setCell ⟨b, 1, none⟩ v1).setCell ⟨b, 2, none⟩ v2).setCell ⟨b, 3, none⟩ v3) A d v := ((((h.sc (i := 0) hb v0).sc (i := 1) hb v1).sc (i := 2) hb v2).sc (i := 3) hb v3)
theorem cells4 {w : World} {b : Nat} {t : TypeId} {u0 u1 u2 u3 : Value} (h : Blk w b t #[u0, u1, u2, u3]) : w.cell? ⟨b, 0, none⟩ = some u0 ∧ w.cell? ⟨b, 1, none⟩ = some u1 ∧ w.cell? ⟨b, 2, none⟩ = some u2 ∧ w.cell? ⟨b, 3, none⟩ = some u3 := ⟨h.cell 0, h.cell 1, h.cell 2, h.cell 3⟩
theorem frz4 {w : World} {b : Nat} {t : TypeId} {cs : Array Value} (h : Blk w b t cs) : w.frozen? ⟨b, 0, none⟩ = false ∧ w.frozen? ⟨b, 1, none⟩ = false ∧ w.frozen? ⟨b, 2, none⟩ = false ∧ w.frozen? ⟨b, 3, none⟩ = false := ⟨h.frozen 0, h.frozen 1, h.frozen 2, h.frozen 3⟩
theorem set8 {w : World} {b : Nat} {t : TypeId} {u0 u1 u2 u3 u4 u5 u6 u7 : Value} (h : Blk w b t #[u0, u1, u2, u3, u4, u5, u6, u7]) (v0 v1 v2 v3 v4 v5 v6 v7 : Value) : Blk ((((((((w.setCell ⟨b, 0, none⟩ v0).setCell ⟨b, 1, none⟩ v1).setCell ⟨b, 2, none⟩ v2).setCell ⟨b, 3, none⟩ v3).setCell ⟨b, 4, none⟩ v4).setCell ⟨b, 5, none⟩ v5).setCell ⟨b, 6, none⟩ v6).setCell ⟨b, 7, none⟩ v7) b t #[v0, v1, v2, v3, v4, v5, v6, v7] := by
  have := ((((((((h.set_ 0 v0).set_ 1 v1).set_ 2 v2).set_ 3 v3).set_ 4 v4).set_ 5 v5).set_ 6 v6).set_ 7 v7)
  simpa only [List.setIfInBounds_toArray, List.set_cons_zero, List.set_cons_succ] using this
theorem chg8 {S : Nat → Prop} {w0 w : World} {b : Nat} (h : Chg S w0 w) (hb : w0.heap.size ≤ b) (v0 v1 v2 v3 v4 v5 v6 v7 : Value) : Chg S w0 ((((((((w.setCell ⟨b, 0, none⟩ v0).setCell ⟨b, 1, none⟩ v1).setCell ⟨b, 2, none⟩ v2).setCell ⟨b, 3, none⟩ v3).setCell ⟨b, 4, none⟩ v4).setCell ⟨b, 5, none⟩ v5).setCell ⟨b, 6, none⟩ v6).setCell ⟨b, 7, none⟩ v7) := ((((((((h.sc (i := 0) hb v0).sc (i := 1) hb v1).sc (i := 2) hb v2).sc (i := 3) hb v3).sc (i := 4) hb v4).sc (i := 5) hb v5).sc (i := 6) hb v6).sc (i := 7) hb v7)
theorem far8 {w : World} {b g : Nat} {t : TypeId} {cs : Array Value} (h : Blk w g t cs) (hb : g ≠ b) (v0 v1 v2 v3 v4 v5 v6 v7 : Value) : Blk ((((((((w.setCell ⟨b, 0, none⟩ v0).setCell ⟨b, 1, none⟩ v1).setCell ⟨b, 2, none⟩ v2).setCell ⟨b, 3, none⟩ v3).setCell ⟨b, 4, none⟩ v4).setCell ⟨b, 5, none⟩ v5).setCell ⟨b, 6, none⟩ v6).setCell ⟨b, 7, none⟩ v7) g t cs := ((((((((h.far (p := ⟨b, 0, none⟩) hb v0).far (p := ⟨b, 1, none⟩) hb v1).far (p := ⟨b, 2, none⟩) hb v2).far (p := ⟨b, 3, none⟩) hb v3).far (p := ⟨b, 4, none⟩) hb v4).far (p := ⟨b, 5, none⟩) hb v5).far (p := ⟨b, 6, none⟩) hb v6).far (p := ⟨b, 7, none⟩) hb v7)
theorem rd8 {w : World} {b : Nat} {A : Nat → Prop} {d : D} {v : Value} (h : Rd w A d v) (hb : ¬ A b) (v0 v1 v2 v3 v4 v5 v6 v7 : Value) : Rd ((((((((w.setCell ⟨b, 0, none⟩ v0).setCell ⟨b, 1, none⟩ v1).setCell ⟨b, 2, none⟩ v2).setCell ⟨b, 3, none⟩ v3).setCell ⟨b, 4, none⟩ v4).setCell ⟨b, 5, none⟩ v5).setCell ⟨b, 6, none⟩ v6).setCell ⟨b, 7, none⟩ v7) A d v := ((((((((h.sc (i := 0) hb v0).sc (i := 1) hb v1).sc (i := 2) hb v2).sc (i := 3) hb v3).sc (i := 4) hb v4).sc (i := 5) hb v5).sc (i := 6) hb v6).sc (i := 7) hb v7)
theorem cells8 {w : World} {b : Nat} {t : TypeId} {u0 u1 u2 u3 u4 u5 u6 u7 : Value} (h : Blk w b t #[u0, u1, u2, u3, u4, u5, u6, u7]) : w.cell? ⟨b, 0, none⟩ = some u0 ∧ w.cell? ⟨b, 1, none⟩ = some u1 ∧ w.cell? ⟨b, 2, none⟩ = some u2 ∧ w.cell? ⟨b, 3, none⟩ = some u3 ∧ w.cell? ⟨b, 4, none⟩ = some u4 ∧ w.cell? ⟨b, 5, none⟩ = some u5 ∧ w.cell? ⟨b, 6, none⟩ = some u6 ∧ w.cell? ⟨b, 7, none⟩ = some u7 := ⟨h.cell 0, h.cell 1, h.cell 2, h.cell 3, h.cell 4, h.cell 5, h.cell 6, h.cell 7⟩
theorem frz8 {w : World} {b : Nat} {t : TypeId} {cs : Array Value} (h : Blk w b t cs) : w.frozen? ⟨b, 0, none⟩ = false ∧ w.frozen? ⟨b, 1, none⟩ = false ∧ w.frozen? ⟨b, 2, none⟩ = false ∧ w.frozen? ⟨b, 3, none⟩ = false ∧ w.frozen? ⟨b, 4, none⟩ = false ∧ w.frozen? ⟨b, 5, none⟩ = false ∧ w.frozen? ⟨b, 6, none⟩ = false ∧ w.frozen? ⟨b, 7, none⟩ = false := ⟨h.frozen 0, h.frozen 1, h.frozen 2, h.frozen 3, h.frozen 4, h.frozen 5, h.frozen 6, h.frozen 7⟩
theorem set9 {w : World} {b : Nat} {t : TypeId} {u0 u1 u2 u3 u4 u5 u6 u7 u8 : Value} (h : Blk w b t #[u0, u1, u2, u3, u4, u5, u6, u7, u8]) (v0 v1 v2 v3 v4 v5 v6 v7 v8 : Value) : Blk (((((((((w.setCell ⟨b, 0, none⟩ v0).setCell ⟨b, 1, none⟩ v1).setCell ⟨b, 2, none⟩ v2).setCell ⟨b, 3, none⟩ v3).setCell ⟨b, 4, none⟩ v4).setCell ⟨b, 5, none⟩ v5).setCell ⟨b, 6, none⟩ v6).setCell ⟨b, 7, none⟩ v7).setCell ⟨b, 8, none⟩ v8) b t #[v0, v1, v2, v3, v4, v5, v6, v7, v8] := by
  have := (((((((((h.set_ 0 v0).set_ 1 v1).set_ 2 v2).set_ 3 v3).set_ 4 v4).set_ 5 v5).set_ 6 v6).set_ 7 v7).set_ 8 v8)
  simpa only [List.setIfInBounds_toArray, List.set_cons_zero, List.set_cons_succ] using this
theorem chg9 {S : Nat → Prop} {w0 w : World} {b : Nat} (h : Chg S w0 w) (hb : w0.heap.size ≤ b) (v0 v1 v2 v3 v4 v5 v6 v7 v8 : Value) : Chg S w0 (((((((((w.setCell ⟨b, 0, none⟩ v0).setCell ⟨b, 1, none⟩ v1).setCell ⟨b, 2, none⟩ v2).setCell ⟨b, 3, none⟩ v3).setCell ⟨b, 4, none⟩ v4).setCell ⟨b, 5, none⟩ v5).setCell ⟨b, 6, none⟩ v6).setCell ⟨b, 7, none⟩ v7).setCell ⟨b, 8, none⟩ v8) := (((((((((h.sc (i := 0) hb v0).sc (i := 1) hb v1).sc (i := 2) hb v2).sc (i := 3) hb v3).sc (i := 4) hb v4).sc (i := 5) hb v5).sc (i := 6) hb v6).sc (i := 7) hb v7).sc (i := 8) hb v8)
theorem far9 {w : World} {b g : Nat} {t : TypeId} {cs : Array Value} (h : Blk w g t cs) (hb : g ≠ b) (v0 v1 v2 v3 v4 v5 v6 v7 v8 : Value) : Blk (((((((((w.setCell ⟨b, 0, none⟩ v0).setCell ⟨b, 1, none⟩ v1).setCell ⟨b, 2, none⟩ v2).setCell ⟨b, 3, none⟩ v3).setCell ⟨b, 4, none⟩ v4).setCell ⟨b, 5, none⟩ v5).setCell ⟨b, 6, none⟩ v6).setCell ⟨b, 7, none⟩ v7).setCell ⟨b, 8, none⟩ v8) g t cs := (((((((((h.far (p := ⟨b, 0, none⟩) hb v0).far (p := ⟨b, 1, none⟩) hb v1).far (p := ⟨b, 2, none⟩) hb v2).far (p := ⟨b, 3, none⟩) hb v3).far (p := ⟨b, 4, none⟩) hb v4).far (p := ⟨b, 5, none⟩) hb v5).far (p := ⟨b, 6, none⟩) hb v6).far (p := ⟨b, 7, none⟩) hb v7).far (p := ⟨b, 8, none⟩) hb v8)
theorem rd9 {w : World} {b : Nat} {A : Nat → Prop} {d : D} {v : Value} (h : Rd w A d v) (hb : ¬ A b) (v0 v1 v2 v3 v4 v5 v6 v7 v8 : Value) : Rd (((((((((w.setCell ⟨b, 0, none⟩ v0).setCell ⟨b, 1, none⟩ v1).setCell ⟨b, 2, none⟩ v2).setCell ⟨b, 3, none⟩ v3).setCell ⟨b, 4, none⟩ v4).setCell ⟨b, 5, none⟩ v5).setCell ⟨b, 6, none⟩ v6).setCell ⟨b, 7, none⟩ v7).setCell ⟨b, 8, none⟩ v8) A d v := (((((((((h.sc (i := 0) hb v0).sc (i := 1) hb v1).sc (i := 2) hb v2).sc (i := 3) hb v3).sc (i := 4) hb v4).sc (i := 5) hb v5).sc (i := 6) hb v6).sc (i := 7) hb v7).sc (i := 8) hb v8)
theorem cells9 {w : World} {b : Nat} {t : TypeId} {u0 u1 u2 u3 u4 u5 u6 u7 u8 : Value} (h : Blk w b t #[u0, u1, u2, u3, u4, u5, u6, u7, u8]) : w.cell? ⟨b, 0, none⟩ = some u0 ∧ w.cell? ⟨b, 1, none⟩ = some u1 ∧ w.cell? ⟨b, 2, none⟩ = some u2 ∧ w.cell? ⟨b, 3, none⟩ = some u3 ∧ w.cell? ⟨b, 4, none⟩ = some u4 ∧ w.cell? ⟨b, 5, none⟩ = some u5 ∧ w.cell? ⟨b, 6, none⟩ = some u6 ∧ w.cell? ⟨b, 7, none⟩ = some u7 ∧ w.cell? ⟨b, 8, none⟩ = some u8 := ⟨h.cell 0, h.cell 1, h.cell 2, h.cell 3, h.cell 4, h.cell 5, h.cell 6, h.cell 7, h.cell 8⟩
theorem frz9 {w : World} {b : Nat} {t : TypeId} {cs : Array Value} (h : Blk w b t cs) : w.frozen? ⟨b, 0, none⟩ = false ∧ w.frozen? ⟨b, 1, none⟩ = false ∧ w.frozen? ⟨b, 2, none⟩ = false ∧ w.frozen? ⟨b, 3, none⟩ = false ∧ w.frozen? ⟨b, 4, none⟩ = false ∧ w.frozen? ⟨b, 5, none⟩ = false ∧ w.frozen? ⟨b, 6, none⟩ = false ∧ w.frozen? ⟨b, 7, none⟩ = false ∧ w.frozen? ⟨b, 8, none⟩ = false := ⟨h.frozen 0, h.frozen 1, h.frozen 2, h.frozen 3, h.frozen 4, h.frozen 5, h.frozen 6, h.frozen 7, h.frozen 8⟩
theorem set10 {w : World} {b : Nat} {t : TypeId} {u0 u1 u2 u3 u4 u5 u6 u7 u8 u9 : Value} (h : Blk w b t #[u0, u1, u2, u3, u4, u5, u6, u7, u8, u9]) (v0 v1 v2 v3 v4 v5 v6 v7 v8 v9 : Value) : Blk ((((((((((w.setCell ⟨b, 0, none⟩ v0).setCell ⟨b, 1, none⟩ v1).setCell ⟨b, 2, none⟩ v2).setCell ⟨b, 3, none⟩ v3).setCell ⟨b, 4, none⟩ v4).setCell ⟨b, 5, none⟩ v5).setCell ⟨b, 6, none⟩ v6).setCell ⟨b, 7, none⟩ v7).setCell ⟨b, 8, none⟩ v8).setCell ⟨b, 9, none⟩ v9) b t #[v0, v1, v2, v3, v4, v5, v6, v7, v8, v9] := by
  have := ((((((((((h.set_ 0 v0).set_ 1 v1).set_ 2 v2).set_ 3 v3).set_ 4 v4).set_ 5 v5).set_ 6 v6).set_ 7 v7).set_ 8 v8).set_ 9 v9)
  simpa only [List.setIfInBounds_toArray, List.set_cons_zero, List.set_cons_succ] using this
theorem chg10 {S : Nat → Prop} {w0 w : World} {b : Nat} (h : Chg S w0 w) (hb : w0.heap.size ≤ b) (v0 v1 v2 v3 v4 v5 v6 v7 v8 v9 : Value) : Chg S w0 ((((((((((w.setCell ⟨b, 0, none⟩ v0).setCell ⟨b, 1, none⟩ v1).setCell ⟨b, 2, none⟩ v2).setCell ⟨b, 3, none⟩ v3).setCell ⟨b, 4, none⟩ v4).setCell ⟨b, 5, none⟩ v5).setCell ⟨b, 6, none⟩ v6).setCell ⟨b, 7, none⟩ v7).setCell ⟨b, 8, none⟩ v8).setCell ⟨b, 9, none⟩ v9) := ((((((((((h.sc (i := 0) hb v0).sc (i := 1) hb v1).sc (i := 2) hb v2).sc (i := 3) hb v3).sc (i := 4) hb v4).sc (i := 5) hb v5).sc (i := 6) hb v6).sc (i := 7) hb v7).sc (i := 8) hb v8).sc (i := 9) hb v9)
theorem far10 {w : World} {b g : Nat} {t : TypeId} {cs : Array Value} (h : Blk w g t cs) (hb : g ≠ b) (v0 v1 v2 v3 v4 v5 v6 v7 v8 v9 : Value) : Blk ((((((((((w.setCell ⟨b, 0, none⟩ v0).setCell ⟨b, 1, none⟩ v1).setCell ⟨b, 2, none⟩ v2).setCell ⟨b, 3, none⟩ v3).setCell ⟨b, 4, none⟩ v4).setCell ⟨b, 5, none⟩ v5).setCell ⟨b, 6, none⟩ v6).setCell ⟨b, 7, none⟩ v7).setCell ⟨b, 8, none⟩ v8).setCell ⟨b, 9, none⟩ v9) g t cs := ((((((((((h.far (p := ⟨b, 0, none⟩) hb v0).far (p := ⟨b, 1, none⟩) hb v1).far (p := ⟨b, 2, none⟩) hb v2).far (p := ⟨b, 3, none⟩) hb v3).far (p := ⟨b, 4, none⟩) hb v4).far (p := ⟨b, 5, none⟩) hb v5).far (p := ⟨b, 6, none⟩) hb v6).far (p := ⟨b, 7, none⟩) hb v7).far (p := ⟨b, 8, none⟩) hb v8).far (p := ⟨b, 9, none⟩) hb v9)
theorem rd10 {w : World} {b : Nat} {A : Nat → Prop} {d : D} {v : Value} (h : Rd w A d v) (hb : ¬ A b) (v0 v1 v2 v3 v4 v5 v6 v7 v8 v9 : Value) : Rd ((((((((((w.setCell ⟨b, 0, none⟩ v0).setCell ⟨b, 1, none⟩ v1).setCell ⟨b, 2, none⟩ v2).setCell ⟨b, 3, none⟩ v3).setCell ⟨b, 4, none⟩ v4).setCell ⟨b, 5, none⟩ v5).setCell ⟨b, 6, none⟩ v6).setCell ⟨b, 7, none⟩ v7).setCell ⟨b, 8, none⟩ v8).setCell ⟨b, 9, none⟩ v9) A d v := ((((((((((h.sc (i := 0) hb v0).sc (i := 1) hb v1).sc (i := 2) hb v2).sc (i := 3) hb v3).sc (i := 4) hb v4).sc (i := 5) hb v5).sc (i := 6) hb v6).sc (i := 7) hb v7).sc (i := 8) hb v8).sc (i := 9) hb v9)
theorem cells10 {w : World} {b : Nat} {t : TypeId} {u0 u1 u2 u3 u4 u5 u6 u7 u8 u9 : Value} (h : Blk w b t #[u0, u1, u2, u3, u4, u5, u6, u7, u8, u9]) : w.cell? ⟨b, 0, none⟩ = some u0 ∧ w.cell? ⟨b, 1, none⟩ = some u1 ∧ w.cell? ⟨b, 2, none⟩ = some u2 ∧ w.cell? ⟨b, 3, none⟩ = some u3 ∧ w.cell? ⟨b, 4, none⟩ = some u4 ∧ w.cell? ⟨b, 5, none⟩ = some u5 ∧ w.cell? ⟨b, 6, none⟩ = some u6 ∧ w.cell? ⟨b, 7, none⟩ = some u7 ∧ w.cell? ⟨b, 8, none⟩ = some u8 ∧ w.cell? ⟨b, 9, none⟩ = some u9 := ⟨h.cell 0, h.cell 1, h.cell 2, h.cell 3, h.cell 4, h.cell 5, h.cell 6, h.cell 7, h.cell 8, h.cell 9⟩
theorem frz10 {w : World} {b : Nat} {t : TypeId} {cs : Array Value} (h : Blk w b t cs) : w.frozen? ⟨b, 0, none⟩ = false ∧ w.frozen? ⟨b, 1, none⟩ = false ∧ w.frozen? ⟨b, 2, none⟩ = false ∧ w.frozen? ⟨b, 3, none⟩ = false ∧ w.frozen? ⟨b, 4, none⟩ = false ∧ w.frozen? ⟨b, 5, none⟩ = false ∧ w.frozen? ⟨b, 6, none⟩ = false ∧ w.frozen? ⟨b, 7, none⟩ = false ∧ w.frozen? ⟨b, 8, none⟩ = false ∧ w.frozen? ⟨b, 9, none⟩ = false := ⟨h.frozen 0, h.frozen 1, h.frozen 2, h.frozen 3, h.frozen 4, h.frozen 5, h.frozen 6, h.frozen 7, h.frozen 8, h.frozen 9⟩
theorem set11 {w : World} {b : Nat} {t : TypeId} {u0 u1 u2 u3 u4 u5 u6 u7 u8 u9 u10 : Value} (h : Blk w b t #[u0, u1, u2, u3, u4, u5, u6, u7, u8, u9, u10]) (v0 v1 v2 v3 v4 v5 v6 v7 v8 v9 v10 : Value) : Blk (((((((((((w.setCell ⟨b, 0, none⟩ v0).setCell ⟨b, 1, none⟩ v1).setCell ⟨b, 2, none⟩ v2).setCell ⟨b, 3, none⟩ v3).setCell ⟨b, 4, none⟩ v4).setCell ⟨b, 5, none⟩ v5).setCell ⟨b, 6, none⟩ v6).setCell ⟨b, 7, none⟩ v7).setCell ⟨b, 8, none⟩ v8).setCell ⟨b, 9, none⟩ v9).setCell ⟨b, 10, none⟩ v10) b t #[v0, v1, v2, v3, v4, v5, v6, v7, v8, v9, v10] := by
  have := (((((((((((h.set_ 0 v0).set_ 1 v1).set_ 2 v2).set_ 3 v3).set_ 4 v4).set_ 5 v5).set_ 6 v6).set_ 7 v7).set_ 8 v8).set_ 9 v9).set_ 10 v10)
  simpa only [List.setIfInBounds_toArray, List.set_cons_zero, List.set_cons_succ] using this
theorem chg11 {S : Nat → Prop} {w0 w : World} {b : Nat} (h : Chg S w0 w) (hb : w0.heap.size ≤ b) (v0 v1 v2 v3 v4 v5 v6 v7 v8 v9 v10 : Value) : Chg S w0 (((((((((((w.setCell ⟨b, 0, none⟩ v0).setCell ⟨b, 1, none⟩ v1).setCell ⟨b, 2, none⟩ v2).setCell ⟨b, 3, none⟩ v3).setCell ⟨b, 4, none⟩ v4).setCell ⟨b, 5, none⟩ v5).setCell ⟨b, 6, none⟩ v6).setCell ⟨b, 7, none⟩ v7).setCell ⟨b, 8, none⟩ v8).setCell ⟨b, 9, none⟩ v9).setCell ⟨b, 10, none⟩ v10) := (((((((((((h.sc (i := 0) hb v0).sc (i := 1) hb v1).sc (i := 2) hb v2).sc (i := 3) hb v3).sc (i := 4) hb v4).sc (i := 5) hb v5).sc (i := 6) hb v6).sc (i := 7) hb v7).sc (i := 8) hb v8).sc (i := 9) hb v9).sc (i := 10) hb v10)
theorem far11 {w : World} {b g : Nat} {t : TypeId} {cs : Array Value} (h : Blk w g t cs) (hb : g ≠ b) (v0 v1 v2 v3 v4 v5 v6 v7 v8 v9 v10 : Value) : Blk (((((((((((w.setCell ⟨b, 0, none⟩ v0).setCell ⟨b, 1, none⟩ v1).setCell ⟨b, 2, none⟩ v2).setCell ⟨b, 3, none⟩ v3).setCell ⟨b, 4, none⟩ v4).setCell ⟨b, 5, none⟩ v5).setCell ⟨b, 6, none⟩ v6).setCell ⟨b, 7, none⟩ v7).setCell ⟨b, 8, none⟩ v8).setCell ⟨b, 9, none⟩ v9).setCell ⟨b, 10, none⟩ v10) g t cs := (((((((((((h.far (p := ⟨b, 0, none⟩) hb v0).far (p := ⟨b, 1, none⟩) hb v1).far (p := ⟨b, 2, none⟩) hb v2).far (p := ⟨b, 3, none⟩) hb v3).far (p := ⟨b, 4, none⟩) hb v4).far (p := ⟨b, 5, none⟩) hb v5).far (p := ⟨b, 6, none⟩) hb v6).far (p := ⟨b, 7, none⟩) hb v7).far (p := ⟨b, 8, none⟩) hb v8).far (p := ⟨b, 9, none⟩) hb v9).far (p := ⟨b, 10, none⟩) hb v10)
theorem rd11 {w : World} {b : Nat} {A : Nat → Prop} {d : D} {v : Value} (h : Rd w A d v) (hb : ¬ A b) (v0 v1 v2 v3 v4 v5 v6 v7 v8 v9 v10 : Value) : Rd (((((((((((w.setCell ⟨b, 0, none⟩ v0).setCell ⟨b, 1, none⟩ v1).setCell ⟨b, 2, none⟩ v2).setCell ⟨b, 3, none⟩ v3).setCell ⟨b, 4, none⟩ v4).setCell ⟨b, 5, none⟩ v5).setCell ⟨b, 6, none⟩ v6).setCell ⟨b, 7, none⟩ v7).setCell ⟨b, 8, none⟩ v8).setCell ⟨b, 9, none⟩ v9).setCell ⟨b, 10, none⟩ v10) A d v := (((((((((((h.sc (i := 0) hb v0).sc (i := 1) hb v1).sc (i := 2) hb v2).sc (i := 3) hb v3).sc (i := 4) hb v4).sc (i := 5) hb v5).sc (i := 6) hb v6).sc (i := 7) hb v7).sc (i := 8) hb v8).sc (i := 9) hb v9).sc (i := 10) hb v10)
theorem cells11 {w : World} {b : Nat} {t : TypeId} {u0 u1 u2 u3 u4 u5 u6 u7 u8 u9 u10 : Value} (h : Blk w b t #[u0, u1, u2, u3, u4, u5, u6, u7, u8, u9, u10]) : w.cell? ⟨b, 0, none⟩ = some u0 ∧ w.cell? ⟨b, 1, none⟩ = some u1 ∧ w.cell? ⟨b, 2, none⟩ = some u2 ∧ w.cell? ⟨b, 3, none⟩ = some u3 ∧ w.cell? ⟨b, 4, none⟩ = some u4 ∧ w.cell? ⟨b, 5, none⟩ = some u5 ∧ w.cell? ⟨b, 6, none⟩ = some u6 ∧ w.cell? ⟨b, 7, none⟩ = some u7 ∧ w.cell? ⟨b, 8, none⟩ = some u8 ∧ w.cell? ⟨b, 9, none⟩ = some u9 ∧ w.cell? ⟨b, 10, none⟩ = some u10 := ⟨h.cell 0, h.cell 1, h.cell 2, h.cell 3, h.cell 4, h.cell 5, h.cell 6, h.cell 7, h.cell 8, h.cell 9, h.cell 10⟩
theorem frz11 {w : World} {b : Nat} {t : TypeId} {cs : Array Value} (h : Blk w b t cs) : w.frozen? ⟨b, 0, none⟩ = false ∧ w.frozen? ⟨b, 1, none⟩ = false ∧ w.frozen? ⟨b, 2, none⟩ = false ∧ w.frozen? ⟨b, 3, none⟩ = false ∧ w.frozen? ⟨b, 4, none⟩ = false ∧ w.frozen? ⟨b, 5, none⟩ = false ∧ w.frozen? ⟨b, 6, none⟩ = false ∧ w.frozen? ⟨b, 7, none⟩ = false ∧ w.frozen? ⟨b, 8, none⟩ = false ∧ w.frozen? ⟨b, 9, none⟩ = false ∧ w.frozen? ⟨b, 10, none⟩ = false := ⟨h.frozen 0, h.frozen 1, h.frozen 2, h.frozen 3, h.frozen 4, h.frozen 5, h.frozen 6, h.frozen 7, h.frozen 8, h.frozen 9, h.frozen 10⟩
theorem set14 {w : World} {b : Nat} {t : TypeId} {u0 u1 u2 u3 u4 u5 u6 u7 u8 u9 u10 u11 u12 u13 : Value} (h : Blk w b t #[u0, u1, u2, u3, u4, u5, u6, u7, u8, u9, u10, u11, u12, u13]) (v0 v1 v2 v3 v4 v5 v6 v7 v8 v9 v10 v11 v12 v13 : Value) : Blk ((((((((((((((w.setCell ⟨b, 0, none⟩ v0).setCell ⟨b, 1, none⟩ v1).setCell ⟨b, 2, none⟩ v2).setCell ⟨b, 3, none⟩ v3).setCell ⟨b, 4, none⟩ v4).setCell ⟨b, 5, none⟩ v5).setCell ⟨b, 6, none⟩ v6).setCell ⟨b, 7, none⟩ v7).setCell ⟨b, 8, none⟩ v8).setCell ⟨b, 9, none⟩ v9).setCell ⟨b, 10, none⟩ v10).setCell ⟨b, 11, none⟩ v11).setCell ⟨b, 12, none⟩ v12).setCell ⟨b, 13, none⟩ v13) b t #[v0, v1, v2, v3, v4, v5, v6, v7, v8, v9, v10, v11, v12, v13] := by
  have := ((((((((((((((h.set_ 0 v0).set_ 1 v1).set_ 2 v2).set_ 3 v3).set_ 4 v4).set_ 5 v5).set_ 6 v6).set_ 7 v7).set_ 8 v8).set_ 9 v9).set_ 10 v10).set_ 11 v11).set_ 12 v12).set_ 13 v13)
  simpa only [List.setIfInBounds_toArray, List.set_cons_zero, List.set_cons_succ] using this
theorem chg14 {S : Nat → Prop} {w0 w : World} {b : Nat} (h : Chg S w0 w) (hb : w0.heap.size ≤ b) (v0 v1 v2 v3 v4 v5 v6 v7 v8 v9 v10 v11 v12 v13 : Value) : Chg S w0 ((((((((((((((w.setCell ⟨b, 0, none⟩ v0).setCell ⟨b, 1, none⟩ v1).setCell ⟨b, 2, none⟩ v2).setCell ⟨b, 3, none⟩ v3).setCell ⟨b, 4, none⟩ v4).setCell ⟨b, 5, none⟩ v5).setCell ⟨b, 6, none⟩ v6).setCell ⟨b, 7, none⟩ v7).setCell ⟨b, 8, none⟩ v8).setCell ⟨b, 9, none⟩ v9).setCell ⟨b, 10, none⟩ v10).setCell ⟨b, 11, none⟩ v11).setCell ⟨b, 12, none⟩ v12).setCell ⟨b, 13, none⟩ v13) := ((((((((((((((h.sc (i := 0) hb v0).sc (i := 1) hb v1).sc (i := 2) hb v2).sc (i := 3) hb v3).sc (i := 4) hb v4).sc (i := 5) hb v5).sc (i := 6) hb v6).sc (i := 7) hb v7).sc (i := 8) hb v8).sc (i := 9) hb v9).sc (i := 10) hb v10).sc (i := 11) hb v11).sc (i := 12) hb v12).sc (i := 13) hb v13)
theorem far14 {w : World} {b g : Nat} {t : TypeId} {cs : Array Value} (h : Blk w g t cs) (hb : g ≠ b) (v0 v1 v2 v3 v4 v5 v6 v7 v8 v9 v10 v11 v12 v13 : Value) : Blk ((((((((((((((w.setCell ⟨b, 0, none⟩ v0).setCell ⟨b, 1, none⟩ v1).setCell ⟨b, 2, none⟩ v2).setCell ⟨b, 3, none⟩ v3).setCell ⟨b, 4, none⟩ v4).setCell ⟨b, 5, none⟩ v5).setCell ⟨b, 6, none⟩ v6).setCell ⟨b, 7, none⟩ v7).setCell ⟨b, 8, none⟩ v8).setCell ⟨b, 9, none⟩ v9).setCell ⟨b, 10, none⟩ v10).setCell ⟨b, 11, none⟩ v11).setCell ⟨b, 12, none⟩ v12).setCell ⟨b, 13, none⟩ v13) g t cs := ((((((((((((((h.far (p := ⟨b, 0, none⟩) hb v0).far (p := ⟨b, 1, none⟩) hb v1).far (p := ⟨b, 2, none⟩) hb v2).far (p := ⟨b, 3, none⟩) hb v3).far (p := ⟨b, 4, none⟩) hb v4).far (p := ⟨b, 5, none⟩) hb v5).far (p := ⟨b, 6, none⟩) hb v6).far (p := ⟨b, 7, none⟩) hb v7).far (p := ⟨b, 8, none⟩) hb v8).far (p := ⟨b, 9, none⟩) hb v9).far (p := ⟨b, 10, none⟩) hb v10).far (p := ⟨b, 11, none⟩) hb v11).far (p := ⟨b, 12, none⟩) hb v12).far (p := ⟨b, 13, none⟩) hb v13)
theorem rd14 {w : World} {b : Nat} {A : Nat → Prop} {d : D} {v : Value} (h : Rd w A d v) (hb : ¬ A b) (v0 v1 v2 v3 v4 v5 v6 v7 v8 v9 v10 v11 v12 v13 : Value) : Rd ((((((((((((((w.setCell ⟨b, 0, none⟩ v0).setCell ⟨b, 1, none⟩ v1).setCell ⟨b, 2, none⟩ v2).setCell ⟨b, 3, none⟩ v3).setCell ⟨b, 4, none⟩ v4).setCell ⟨b, 5, none⟩ v5).setCell ⟨b, 6, none⟩ v6).setCell ⟨b, 7, none⟩ v7).setCell ⟨b, 8, none⟩ v8).setCell ⟨b, 9, none⟩ v9).setCell ⟨b, 10, none⟩ v10).setCell ⟨b, 11, none⟩ v11).setCell ⟨b, 12, none⟩ v12).setCell ⟨b, 13, none⟩ v13) A d v := ((((((((((((((h.sc (i := 0) hb v0).sc (i := 1) hb v1).sc (i := 2) hb v2).sc (i := 3) hb v3).sc (i := 4) hb v4).sc (i := 5) hb v5).sc (i := 6) hb v6).sc (i := 7) hb v7).sc (i := 8) hb v8).sc (i := 9) hb v9).sc (i := 10) hb v10).sc (i := 11) hb v11).sc (i := 12) hb v12).sc (i := 13) hb v13)
theorem cells14 {w : World} {b : Nat} {t : TypeId} {u0 u1 u2 u3 u4 u5 u6 u7 u8 u9 u10 u11 u12 u13 : Value} (h : Blk w b t #[u0, u1, u2, u3, u4, u5, u6, u7, u8, u9, u10, u11, u12, u13]) : w.cell? ⟨b, 0, none⟩ = some u0 ∧ w.cell? ⟨b, 1, none⟩ = some u1 ∧ w.cell? ⟨b, 2, none⟩ = some u2 ∧ w.cell? ⟨b, 3, none⟩ = some u3 ∧ w.cell? ⟨b, 4, none⟩ = some u4 ∧ w.cell? ⟨b, 5, none⟩ = some u5 ∧ w.cell? ⟨b, 6, none⟩ = some u6 ∧ w.cell? ⟨b, 7, none⟩ = some u7 ∧ w.cell? ⟨b, 8, none⟩ = some u8 ∧ w.cell? ⟨b, 9, none⟩ = some u9 ∧ w.cell? ⟨b, 10, none⟩ = some u10 ∧ w.cell? ⟨b, 11, none⟩ = some u11 ∧ w.cell? ⟨b, 12, none⟩ = some u12 ∧ w.cell? ⟨b, 13, none⟩ = some u13 := ⟨h.cell 0, h.cell 1, h.cell 2, h.cell 3, h.cell 4, h.cell 5, h.cell 6, h.cell 7, h.cell 8, h.cell 9, h.cell 10, h.cell 11, h.cell 12, h.cell 13⟩
theorem frz14 {w : World} {b : Nat} {t : TypeId} {cs : Array Value} (h : Blk w b t cs) : w.frozen? ⟨b, 0, none⟩ = false ∧ w.frozen? ⟨b, 1, none⟩ = false ∧ w.frozen? ⟨b, 2, none⟩ = false ∧ w.frozen? ⟨b, 3, none⟩ = false ∧ w.frozen? ⟨b, 4, none⟩ = false ∧ w.frozen? ⟨b, 5, none⟩ = false ∧ w.frozen? ⟨b, 6, none⟩ = false ∧ w.frozen? ⟨b, 7, none⟩ = false ∧ w.frozen? ⟨b, 8, none⟩ = false ∧ w.frozen? ⟨b, 9, none⟩ = false ∧ w.frozen? ⟨b, 10, none⟩ = false ∧ w.frozen? ⟨b, 11, none⟩ = false ∧ w.frozen? ⟨b, 12, none⟩ = false ∧ w.frozen? ⟨b, 13, none⟩ = false := ⟨h.frozen 0, h.frozen 1, h.frozen 2, h.frozen 3, h.frozen 4, h.frozen 5, h.frozen 6, h.frozen 7, h.frozen 8, h.frozen 9, h.frozen 10, h.frozen 11, h.frozen 12, h.frozen 13⟩
def isAggD : TypeDesc → Bool
  | .struct _ | .array _ _ => true
  | _ => false
/-- A result that lies in a block. -/
theorem back_row {fn : Func} {p : Tmp} {T : TypeId} (h : fn.results = #[.cell p T]) {R : Ending → World → Prop} {a : Act} {w : World} {b : Nat} {cs : Array Value} {td : TypeDesc} (hp : a.tmps.getD p undef = .pointer (some ⟨b, 0, none⟩)) (hB : Blk w b T cs)
    (hu : Tryz.prog.underlying T = some td) (hagg : isAggD td = true) (hz : (Tryz.prog.info? T).map (·.size) = some cs.size) (hd : a.defers = []) (hR : R (.returned (.agg cs)) w) :
    bodyPost Tryz.prog fn R .ret a w := bodyPost_ret (results_cell_row h _ _ b _ cs (0, 0) _ hp hB hu (by cases td <;> first | rfl | exact absurd hagg Bool.false_ne_true) hz) hd hR
/-- One that lies in a block, and one more. -/
theorem back_row2 {fn : Func} {p u : Tmp} {T : TypeId} (h : fn.results = #[.cell p T, .tmp u]) {R : Ending → World → Prop} {a : Act} {w : World} {b : Nat} {cs : Array Value} {td : TypeDesc} {v : Value} (hp : a.tmps.getD p undef = .pointer (some ⟨b, 0, none⟩)) (hu' : a.tmps.getD u undef = v) (hB : Blk w b T cs)
    (hu : Tryz.prog.underlying T = some td) (hagg : isAggD td = true) (hz : (Tryz.prog.info? T).map (·.size) = some cs.size) (hd : a.defers = []) (hR : R (.returned (.tuple #[.agg cs, v])) w) :
    bodyPost Tryz.prog fn R .ret a w := by
  refine bodyPost_ret ?_ hd hR
  rw [results_cell_tmp h, hp, hu']
  simp [asAddr, run_loadVar_row (P := Tryz.prog) w b T T cs (0, 0) td hB hu (by cases td <;> first | rfl | exact absurd hagg Bool.false_ne_true) hz]
/-- One that lies in a block, and two more. -/
theorem back_row3 {fn : Func} {p u x : Tmp} {T : TypeId} (h : fn.results = #[.cell p T, .tmp u, .tmp x]) {R : Ending → World → Prop} {a : Act} {w : World} {b : Nat} {cs : Array Value} {td : TypeDesc} {v y : Value} (hp : a.tmps.getD p undef = .pointer (some ⟨b, 0, none⟩)) (hu' : a.tmps.getD u undef = v) (hx' : a.tmps.getD x undef = y) (hB : Blk w b T cs)
    (hu : Tryz.prog.underlying T = some td) (hagg : isAggD td = true) (hz : (Tryz.prog.info? T).map (·.size) = some cs.size) (hd : a.defers = []) (hR : R (.returned (.tuple #[.agg cs, v, y])) w) :
    bodyPost Tryz.prog fn R .ret a w := by
  refine bodyPost_ret ?_ hd hR
  have e : (results fn a.tmps).run Tryz.prog w = ((asAddr (a.tmps.getD p undef)).run Tryz.prog w).andThen fun b w₁ => ((loadVar T b).run Tryz.prog w₁).andThen fun v w₂ => .ok (.tuple #[v, a.tmps.getD u undef, a.tmps.getD x undef]) w₂ := by
    simp only [results, h]
    simp [Sem.run_bind, Result.andThen]
  rw [e, hp, hu', hx']
  simp [asAddr, run_loadVar_row (P := Tryz.prog) w b T T cs (0, 0) td hB hu (by cases td <;> first | rfl | exact absurd hagg Bool.false_ne_true) hz]
theorem infV : (Tryz.prog.info? 222).map (·.size) = some 4 := by kernel_rfl
theorem infS : (Tryz.prog.info? 52).map (·.size) = some 9 := by kernel_rfl
end Go.Proofs.YtoefffjhjmjhfaaGreat
