/- What memory holds, read to its end: a word for all kinds of data, and how it stands when memory changes. No statement is proved here. -/
import Derived.Test.YtcefaohdikongaaWords
import Derived.Deep.AppendLies
namespace Go.Proofs.Ytcefaohdikongaa
open Go.RowKit

/-- A cell's value, followed to its end: itself, or a slice's rows, n cells each. -/
inductive D where
  | c (v : Value)
  | s (n : Nat) (rows : List (List D))
/-- A value reads as data; all blocks on the way are of A. -/
inductive Rd (w : World) (A : Nat → Prop) : D → Value → Prop where
  | c (v : Value) (h : v.oneCell' = true) : Rd w A (.c v) v
  | nil (n : Nat) : Rd w A (.s n []) (.slice none 0 0)
  | e (n : Nat) (a : Addr) (cap : Nat) (hm : cap ≤ maxLen) : Rd w A (.s n []) (.slice (some a) 0 cap)
  | s (n : Nat) (rows : List (List D)) (b off cap : Nat) (vs : Nat → Nat → Value) (hc : rows.length ≤ cap) (hm : cap ≤ maxLen) (hA : 0 < rows.length → A b ∧ b < w.heap.size) (hn : ∀ i (h : i < rows.length), rows[i].length = n)
      (hcell : ∀ i j, i < rows.length → j < n → w.cell? ⟨b, off + i * n + j, none⟩ = some (vs i j)) (hr : ∀ i (h : i < rows.length) j (h' : j < rows[i].length), Rd w A rows[i][j] (vs i j)) : Rd w A (.s n rows) (.slice (some ⟨b, off, none⟩) rows.length cap)
def Rds (w : World) (A : Nat → Prop) : List D → List Value → Prop
  | [], [] => True
  | d :: ds, v :: vs => Rd w A d v ∧ Rds w A ds vs
  | _, _ => False
section
variable {w w' : World} {A B S : Nat → Prop}
theorem cell_lt {p : Addr} {v : Value} (h : w.cell? p = some v) : p.block < w.heap.size := by
  unfold World.cell? at h
  rcases Nat.lt_or_ge p.block w.heap.size with hlt | hge
  · exact hlt
  · rw [Array.getElem?_eq_none hge] at h; cases h
theorem Rd.move {d : D} {v : Value} (h : Rd w A d v) (hb : ∀ k, A k → k < w.heap.size → w'.heap[k]? = w.heap[k]?) (hz : w.heap.size ≤ w'.heap.size) : Rd w' A d v := by
  induction h with
  | c v h => exact .c v h
  | nil n => exact .nil n
  | e n a cap hm => exact .e n a cap hm
  | s n rows b off cap vs hc hm hA hn hcell hr ih =>
    exact .s n rows b off cap vs hc hm (fun h0 => ⟨(hA h0).1, Nat.lt_of_lt_of_le (hA h0).2 hz⟩) hn (fun i j hi hj => (World.cell?_of_block (a := ⟨b, off + i * n + j, none⟩) (hb b (hA (by omega)).1 (hA (by omega)).2)).trans (hcell i j hi hj)) ih
theorem Rd.chg {d : D} {v : Value} (h : Rd w A d v) (hC : Chg S w w') (hd : ∀ k, A k → k < w.heap.size → ¬ S k) : Rd w' A d v := h.move (fun k ha hk => hC.block k hk (hd k ha hk)) hC.size
theorem Rd.chg0 {d : D} {v : Value} (h : Rd w A d v) (hC : Chg NoB w w') : Rd w' A d v := h.chg hC fun _ _ _ => id
theorem Rd.mono {d : D} {v : Value} (h : Rd w A d v) (hAB : ∀ k, A k → k < w.heap.size → B k) : Rd w B d v := by
  induction h with
  | c v h => exact .c v h
  | nil n => exact .nil n
  | e n a cap hm => exact .e n a cap hm
  | s n rows b off cap vs hc hm hA hn hcell hr ih => exact .s n rows b off cap vs hc hm (fun h0 => ⟨hAB b (hA h0).1 (hA h0).2, (hA h0).2⟩) hn hcell ih
/-- What memory holds leads to blocks that are there. -/
theorem Rd.old {d : D} {v : Value} (h : Rd w A d v) : Rd w (fun k => A k ∧ k < w.heap.size) d v := h.mono fun _ ha hk => ⟨ha, hk⟩
theorem Rd.cell {v u : Value} (h : Rd w A (.c v) u) : u = v := by cases h; rfl
theorem Rd.one {d : D} {v : Value} (h : Rd w A d v) : v.oneCell' = true := by cases h <;> first | assumption | rfl
theorem Rds.mono : ∀ {ds : List D} {vs : List Value}, Rds w A ds vs → (∀ k, A k → k < w.heap.size → B k) → Rds w B ds vs
  | [], [], _, _ => trivial
  | _ :: _, _ :: _, h, k => ⟨h.1.mono k, Rds.mono h.2 k⟩
theorem Rds.chg : ∀ {ds : List D} {vs : List Value}, Rds w A ds vs → Chg S w w' → (∀ k, A k → k < w.heap.size → ¬ S k) → Rds w' A ds vs
  | [], [], _, _, _ => trivial
  | _ :: _, _ :: _, h, hC, k => ⟨h.1.chg hC k, Rds.chg h.2 hC k⟩
theorem Rds.chg0 {ds : List D} {vs : List Value} (h : Rds w A ds vs) (hC : Chg NoB w w') : Rds w' A ds vs := h.chg hC fun _ _ _ => id
theorem Rds.length : ∀ {ds : List D} {vs : List Value}, Rds w A ds vs → vs.length = ds.length
  | [], [], _ => rfl
  | _ :: _, _ :: _, h => by simp [Rds.length h.2]
theorem Rds.get : ∀ {ds : List D} {vs : List Value}, Rds w A ds vs → ∀ {j : Nat} (h : j < ds.length) (h' : j < vs.length), Rd w A ds[j] vs[j]
  | _ :: _, _ :: _, h, 0, _, _ => h.1
  | _ :: _, _ :: _, h, j + 1, h1, h2 => Rds.get h.2 (j := j) (by simpa using h1) (by simpa using h2)
theorem Rds.of_get : ∀ {ds : List D} {vs : List Value}, vs.length = ds.length → (∀ j (h : j < ds.length) (h' : j < vs.length), Rd w A ds[j] vs[j]) → Rds w A ds vs
  | [], [], _, _ => trivial
  | [], _ :: _, h, _ => by simp at h
  | _ :: _, [], h, _ => by simp at h
  | _ :: _, _ :: _, h, k => ⟨k 0 (by simp) (by simp), Rds.of_get (by simpa using h) fun j h1 h2 => k (j + 1) (by simpa using h1) (by simpa using h2)⟩
theorem Rds.one : ∀ {ds : List D} {vs : List Value}, Rds w A ds vs → ∀ v ∈ vs, v.oneCell' = true
  | [], [], _, v, h => by cases h
  | _ :: _, _ :: _, h, v, hv => by
    rcases List.mem_cons.1 hv with rfl | hv
    · exact h.1.one
    · exact Rds.one h.2 v hv
theorem Rds.append : ∀ {ds es : List D} {vs us : List Value}, Rds w A ds vs → Rds w A es us → Rds w A (ds ++ es) (vs ++ us)
  | [], _, [], _, _, h => h
  | _ :: _, _, _ :: _, _, h, k => ⟨h.1, Rds.append h.2 k⟩
theorem Rds.cs : ∀ {vs : List Value}, (∀ v ∈ vs, v.oneCell' = true) → Rds w A (vs.map .c) vs
  | [], _ => trivial
  | v :: vs, h => ⟨.c v (h v (by simp)), Rds.cs fun u hu => h u (by simp [hu])⟩
theorem Rds.of_cs : ∀ {us vs : List Value}, Rds w A (us.map .c) vs → vs = us
  | [], [], _ => rfl
  | _ :: _, _ :: _, h => by rw [h.1.cell, Rds.of_cs h.2]
/-- What a slice is, and what its rows' cells are. -/
theorem Rd.form {n : Nat} {rows : List (List D)} {v : Value} (h : Rd w A (.s n rows) v) : ∃ p cap, v = .slice p rows.length cap ∧ rows.length ≤ cap ∧ cap ≤ maxLen ∧ (p = none ∧ cap = 0 ∨ (∃ b off, p = some ⟨b, off, none⟩) ∨ ∃ a, p = some a ∧ rows.length = 0) ∧
    (0 < rows.length → ∃ b off, p = some ⟨b, off, none⟩ ∧ A b ∧ b < w.heap.size) ∧
    ∀ b off, p = some ⟨b, off, none⟩ → ∀ i (h : i < rows.length), ∃ cs, cs.length = n ∧ Rds w A rows[i] cs ∧ ∀ j, j < n → w.cell? ⟨b, off + i * n + j, none⟩ = cs[j]? := by
  cases h with
  | nil n => exact ⟨none, 0, rfl, Nat.le_refl _, Nat.zero_le _, .inl ⟨rfl, rfl⟩, fun h => absurd h (by simp), fun _ _ h => by cases h⟩
  | e n a cap hm => exact ⟨some a, cap, rfl, Nat.zero_le _, hm, .inr (.inr ⟨a, rfl, rfl⟩), fun h => absurd h (by simp), fun _ _ _ i h => absurd h (by simp)⟩
  | s n rows b off cap vs hc hm hA hn hcell hr =>
    refine ⟨_, cap, rfl, hc, hm, .inr (.inl ⟨_, _, rfl⟩), fun h => ⟨b, off, rfl, (hA h).1, (hA h).2⟩, fun b' off' he i hi => ?_⟩
    simp only [Option.some.injEq, Addr.mk.injEq, and_true] at he
    obtain ⟨rfl, rfl⟩ := he
    refine ⟨(List.range n).map (vs i), by simp, Rds.of_get (by simp [hn i hi]) (fun j h1 h2 => by simpa using hr i hi j h1), fun j hj => ?_⟩
    rw [hcell i j hi hj]
    simp [hj]
theorem Rd.cap {n : Nat} {rows : List (List D)} {p : Option Addr} {l cap : Nat} (h : Rd w A (.s n rows) (.slice p l cap)) : l = rows.length ∧ l ≤ cap ∧ cap ≤ maxLen := by
  obtain ⟨p', cap', he, h1, h2, _⟩ := h.form
  cases he
  exact ⟨rfl, h1, h2⟩
/-- Rows, laid one behind the other. -/
def Flat (w : World) (A : Nat → Prop) (n : Nat) : List (List D) → List Value → Prop
  | [], xs => xs = []
  | r :: rows, xs => ∃ cs ys, xs = cs ++ ys ∧ cs.length = n ∧ Rds w A r cs ∧ Flat w A n rows ys
theorem Flat.length {n : Nat} : ∀ {rows : List (List D)} {xs : List Value}, Flat w A n rows xs → xs.length = rows.length * n
  | [], xs, h => by rw [show xs = [] from h]; simp
  | r :: rows, xs, ⟨cs, ys, hx, hl, _, hf⟩ => by
    have := Flat.length hf
    rw [hx, List.length_append, hl, this, List.length_cons, Nat.succ_mul]
    omega
theorem Flat.mono {n : Nat} : ∀ {rows : List (List D)} {xs : List Value}, Flat w A n rows xs → (∀ k, A k → k < w.heap.size → B k) → Flat w B n rows xs
  | [], _, h, _ => h
  | _ :: _, _, ⟨cs, ys, hx, hl, hr, hf⟩, k => ⟨cs, ys, hx, hl, hr.mono k, Flat.mono hf k⟩
theorem Flat.chg {n : Nat} : ∀ {rows : List (List D)} {xs : List Value}, Flat w A n rows xs → Chg S w w' → (∀ k, A k → k < w.heap.size → ¬ S k) → Flat w' A n rows xs
  | [], _, h, _, _ => h
  | _ :: _, _, ⟨cs, ys, hx, hl, hr, hf⟩, hC, k => ⟨cs, ys, hx, hl, hr.chg hC k, Flat.chg hf hC k⟩
theorem Flat.append {n : Nat} : ∀ {rows rows' : List (List D)} {xs xs' : List Value}, Flat w A n rows xs → Flat w A n rows' xs' → Flat w A n (rows ++ rows') (xs ++ xs')
  | [], _, xs, _, h, h' => by rw [show xs = [] from h]; exact h'
  | _ :: _, _, _, _, ⟨cs, ys, hx, hl, hr, hf⟩, h' => ⟨cs, ys ++ _, by rw [hx, List.append_assoc], hl, hr, Flat.append hf h'⟩
theorem Flat.one {n : Nat} {r : List D} {cs : List Value} (hl : cs.length = n) (h : Rds w A r cs) : Flat w A n [r] cs := ⟨cs, [], by simp, hl, h, rfl⟩
theorem Flat.get {n : Nat} : ∀ {rows : List (List D)} {xs : List Value}, Flat w A n rows xs → ∀ {i : Nat} (h : i < rows.length), ∃ cs, cs.length = n ∧ Rds w A rows[i] cs ∧ ∀ j, j < n → xs[i * n + j]? = cs[j]?
  | _ :: _, _, ⟨cs, ys, hx, hl, hr, hf⟩, 0, _ => ⟨cs, hl, hr, fun j hj => by rw [hx, Nat.zero_mul, Nat.zero_add, List.getElem?_append_left (by omega)]⟩
  | _ :: rows, _, ⟨cs, ys, hx, hl, hr, hf⟩, i + 1, h => by
    obtain ⟨es, h1, h2, h3⟩ := Flat.get hf (i := i) (by simpa using h)
    refine ⟨es, h1, h2, fun j hj => ?_⟩
    rw [hx, List.getElem?_append_right (by rw [hl, Nat.succ_mul]; omega), hl, show (i + 1) * n + j - n = i * n + j by rw [Nat.succ_mul]; omega]
    exact h3 j hj
theorem Flat.ones {n : Nat} : ∀ {rows : List (List D)} {xs : List Value}, Flat w A n rows xs → ∀ v ∈ xs, v.oneCell' = true
  | [], xs, h, v, hv => by rw [show xs = [] from h] at hv; cases hv
  | _ :: _, _, ⟨cs, ys, hx, hl, hr, hf⟩, v, hv => by
    rw [hx] at hv
    rcases List.mem_append.1 hv with hv | hv
    · exact hr.one v hv
    · exact Flat.ones hf v hv
/-- A slice of the call's own, read. -/
theorem Flat.rd {n base : Nat} {e : TypeId} {rows : List (List D)} {xs : List Value} {v : Value} (hw : w.ownsRow base e n v rows.length xs) (h : Flat w A n rows xs) (hl : ∀ r ∈ rows, r.length = n) (hA : ∀ k, v.ownBlock = some k → A k) : Rd w A (.s n rows) v := by
  rcases hw.2 with ⟨rfl, h0⟩ | ⟨g, cap, cur, rfl, hb, hg, hn, hm, hs, ht⟩
  · obtain rfl : rows = [] := List.length_eq_zero_iff.1 h0
    exact .nil n
  · refine .s n rows g 0 cap (fun i j => (xs[i * n + j]?).getD undef) hn hm (fun _ => ⟨hA g rfl, (Array.getElem?_eq_some_iff.1 hg).1⟩) (fun i hi => hl _ (List.getElem_mem hi)) (fun i j hi hj => ?_) fun i hi j hj => ?_
    · obtain ⟨cs, h1, h2, h3⟩ := h.get hi
      rw [h3 j hj, show (0 + i * n + j) = i * n + j by omega, cell_of_row w g _ cur e (0, 0) hg, List.getElem?_eq_getElem (by omega)]
      have h4 := h3 j hj
      rw [← ht, List.getElem?_take_of_lt (by
        have : i * n + n ≤ rows.length * n := by rw [← Nat.succ_mul]; exact Nat.mul_le_mul_right n hi
        omega)] at h4
      rw [← Array.getElem?_toList, h4, List.getElem?_eq_getElem (by omega)]
      rfl
    · obtain ⟨cs, h1, h2, h3⟩ := h.get hi
      have hjn : j < n := by rw [← hl _ (List.getElem_mem hi)]; exact hj
      rw [h3 j hjn, List.getElem?_eq_getElem (by omega)]
      exact h2.get hj (by omega)
end
/-- New to a world. -/
abbrev New (w : World) : Nat → Prop := fun k => w.heap.size ≤ k
/-- A slice of the call's own: its rows. -/
structure OR (w : World) (base : Nat) (A : Nat → Prop) (e : TypeId) (n : Nat) (v : Value) (rows : List (List D)) : Prop where
  ex : ∃ xs, w.ownsRow base e n v rows.length xs ∧ Flat w A n rows xs
  len : ∀ r ∈ rows, r.length = n
section
variable {w w' : World} {A B S : Nat → Prop} {base n : Nat} {e : TypeId} {v : Value} {rows : List (List D)}
theorem OR.nil (w : World) (base : Nat) (A : Nat → Prop) (e : TypeId) (n : Nat) : OR w base A e n (.slice none 0 0) [] := ⟨⟨[], World.ownsRow_nil _ _ _ _, rfl⟩, fun r hr => by cases hr⟩
theorem own_chg {xs : List Value} {m : Nat} (h : w.ownsRow base e n v m xs) (hC : Chg S w w') (ho : ∀ k, v.ownBlock = some k → ¬ S k) : w'.ownsRow base e n v m xs := by
  refine ⟨h.1, ?_⟩
  rcases h.2 with h0 | ⟨g, cap, cur, rfl, hb, hg, hrest⟩
  · exact .inl h0
  · exact .inr ⟨g, cap, cur, rfl, hb, (hC.block g (Array.getElem?_eq_some_iff.1 hg).1 (ho g rfl)).trans hg, hrest⟩
theorem OR.chg (h : OR w base A e n v rows) (hC : Chg S w w') (hd : ∀ k, A k → k < w.heap.size → ¬ S k) (ho : ∀ k, v.ownBlock = some k → ¬ S k) : OR w' base A e n v rows := by
  obtain ⟨⟨xs, h1, h2⟩, h3⟩ := h
  exact ⟨⟨xs, own_chg h1 hC ho, h2.chg hC hd⟩, h3⟩
theorem OR.chg0 (h : OR w base A e n v rows) (hC : Chg NoB w w') : OR w' base A e n v rows := h.chg hC (fun _ _ _ => id) fun _ _ => id
theorem OR.mono (h : OR w base A e n v rows) (hAB : ∀ k, A k → k < w.heap.size → B k) : OR w base B e n v rows := by
  obtain ⟨⟨xs, h1, h2⟩, h3⟩ := h
  exact ⟨⟨xs, h1, h2.mono hAB⟩, h3⟩
theorem OR.rd (h : OR w base A e n v rows) (hA : ∀ k, base ≤ k → k < w.heap.size → A k) : Rd w A (.s n rows) v := by
  obtain ⟨⟨xs, h1, h2⟩, h3⟩ := h
  exact h2.rd h1 h3 fun k hk => hA k (h1.lt k hk).1 (h1.lt k hk).2
theorem OR.form (h : OR w base A e n v rows) : (v = .slice none 0 0 ∧ rows = []) ∨ ∃ g cap, v = .slice (some ⟨g, 0, none⟩) rows.length cap ∧ base ≤ g ∧ g < w.heap.size ∧ rows.length ≤ cap := by
  obtain ⟨⟨xs, h1, h2⟩, h3⟩ := h
  rcases h1.2 with ⟨h0, hn⟩ | ⟨g, cap, cur, hv, hb, hg, hn, _⟩
  · exact .inl ⟨h0, List.length_eq_zero_iff.1 hn⟩
  · exact .inr ⟨g, cap, hv, hb, (Array.getElem?_eq_some_iff.1 hg).1, hn⟩
theorem OR.lt (h : OR w base A e n v rows) : ∀ k, v.ownBlock = some k → base ≤ k ∧ k < w.heap.size := by
  obtain ⟨⟨xs, h1, h2⟩, h3⟩ := h
  exact h1.lt
theorem OR.own (h : OR w base A e n v rows) : ∃ xs, w.ownsRow base e n v rows.length xs ∧ Flat w A n rows xs := h.ex
end
end Go.Proofs.Ytcefaohdikongaa
