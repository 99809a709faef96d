/- Messages, digests, members, as plain Lean, and how they lie in cells. No statement is proved here. -/
import Derived.Test.YtoefffjhjmjhfaaGreatPkBytes
namespace Go.Proofs.YtoefffjhjmjhfaaGreat
open Go.RowKit

abbrev i2 (p : Int × Int) : List Value := [.int .i64 p.1, .int .i64 p.2]
def prsD (l : List (Int × Int)) : D := plainD 2 (l.map i2)
/-- What a node tells of a key: all events seen, the dots that stand. -/
structure Dg where
  key : ByteArray
  seen : Vq
  dots : List (Int × Int)
abbrev dgc (d : Dg) (p : Value) : Array Value := #[.string d.key, .int .i64 (d.seen 0), .int .i64 (d.seen 1), .int .i64 (d.seen 2), .int .i64 (d.seen 3), .int .i64 (d.seen 4), .int .i64 (d.seen 5), .int .i64 (d.seen 6), .int .i64 (d.seen 7), p]
def dgD (d : Dg) : List D := [.c (.string d.key), iD (d.seen 0), iD (d.seen 1), iD (d.seen 2), iD (d.seen 3), iD (d.seen 4), iD (d.seen 5), iD (d.seen 6), iD (d.seen 7), prsD d.dots]
def ensD (l : List En) : D := .s 10 (l.map enD)
def dgsD (l : List Dg) : D := .s 10 (l.map dgD)
/-- A message. -/
structure Mg where
  k : Int
  f : Int
  t : Int
  op : Int
  fr : Int
  key : ByteArray
  bk : Int
  es : List En
  ds : List Dg
  ms : List (Int × Int)
section
variable {w w' : World} {A : Nat → Prop}
theorem bD_plain (l : List UInt8) : bD l = plainD 1 ((nums l).map fun z => [.int .u8 z]) := by
  unfold bD bI plainD
  rw [List.map_map]
  rfl
theorem en_row {e : En} {cs : List Value} (h : Rds w A (enD e) cs) : ∃ p, cs = (enc_ e p).toList ∧ Rd w A (vlsD e.sb.vals) p := by
  match cs, h with
  | [a, b0, b1, b2, b3, b4, b5, b6, b7, p], h =>
    obtain ⟨ha, h0, h1, h2, h3, h4, h5, h6, h7, hp, _⟩ := h
    exact ⟨p, by rw [ha.cell, h0.cell, h1.cell, h2.cell, h3.cell, h4.cell, h5.cell, h6.cell, h7.cell], hp⟩
theorem en_rds {e : En} {p : Value} (h : Rd w A (vlsD e.sb.vals) p) : Rds w A (enD e) (enc_ e p).toList :=
  ⟨.c _ rfl, .c _ rfl, .c _ rfl, .c _ rfl, .c _ rfl, .c _ rfl, .c _ rfl, .c _ rfl, .c _ rfl, h, trivial⟩
theorem dg_row {e : Dg} {cs : List Value} (h : Rds w A (dgD e) cs) : ∃ p, cs = (dgc e p).toList ∧ Rd w A (prsD e.dots) p := by
  match cs, h with
  | [a, b0, b1, b2, b3, b4, b5, b6, b7, p], h =>
    obtain ⟨ha, h0, h1, h2, h3, h4, h5, h6, h7, hp, _⟩ := h
    exact ⟨p, by rw [ha.cell, h0.cell, h1.cell, h2.cell, h3.cell, h4.cell, h5.cell, h6.cell, h7.cell], hp⟩
theorem dg_rds {e : Dg} {p : Value} (h : Rd w A (prsD e.dots) p) : Rds w A (dgD e) (dgc e p).toList :=
  ⟨.c _ rfl, .c _ rfl, .c _ rfl, .c _ rfl, .c _ rfl, .c _ rfl, .c _ rfl, .c _ rfl, .c _ rfl, h, trivial⟩
/-- A slice of rows: its pointer. -/
theorem rows_form {n : Nat} {rows : List (List D)} {v : Value} (h : Rd w A (.s n rows) v) : ∃ p cap, v = .slice p rows.length cap ∧ rows.length ≤ cap ∧ cap ≤ maxLen ∧ (0 < rows.length → ∃ b off, p = some ⟨b, off, none⟩ ∧ A b ∧ b < w.heap.size) := by
  obtain ⟨p, cap, rfl, h1, h2, _, h4, _⟩ := h.form
  exact ⟨p, cap, rfl, h1, h2, h4⟩
theorem ens_form {l : List En} {v : Value} (h : Rd w A (ensD l) v) : ∃ p cap, v = .slice p l.length cap ∧ l.length ≤ cap ∧ cap ≤ maxLen ∧ (0 < l.length → ∃ b off, p = some ⟨b, off, none⟩ ∧ A b ∧ b < w.heap.size) := by
  have := rows_form h
  simpa only [List.length_map] using this
theorem dgs_form {l : List Dg} {v : Value} (h : Rd w A (dgsD l) v) : ∃ p cap, v = .slice p l.length cap ∧ l.length ≤ cap ∧ cap ≤ maxLen ∧ (0 < l.length → ∃ b off, p = some ⟨b, off, none⟩ ∧ A b ∧ b < w.heap.size) := by
  have := rows_form h
  simpa only [List.length_map] using this
theorem prs_form {l : List (Int × Int)} {v : Value} (h : Rd w A (prsD l) v) : ∃ p cap, v = .slice p l.length cap ∧ l.length ≤ cap ∧ cap ≤ maxLen ∧ (0 < l.length → ∃ b off, p = some ⟨b, off, none⟩ ∧ A b ∧ b < w.heap.size) := by
  have := rows_form h
  simpa only [List.length_map] using this
theorem rows_ptr {n : Nat} {rows : List (List D)} {p : Option Addr} {m cap : Nat} (h : Rd w A (.s n rows) (.slice p m cap)) (h0 : 0 < rows.length) : ∃ b off, p = some ⟨b, off, none⟩ ∧ A b ∧ b < w.heap.size := by
  obtain ⟨p', cap', he, _, _, h4⟩ := rows_form h
  simp only [Value.slice.injEq] at he
  rw [he.1]
  exact h4 h0
theorem rows_at {n : Nat} {rows : List (List D)} {b off m cap : Nat} (h : Rd w A (.s n rows) (.slice (some ⟨b, off, none⟩) m cap)) {i : Nat} (hi : i < rows.length) : ∃ cs, cs.length = n ∧ Rds w A rows[i] cs ∧ ∀ j, j < n → w.cell? ⟨b, off + i * n + j, none⟩ = cs[j]? := by
  obtain ⟨p, cap', he, _, _, _, _, h5⟩ := h.form
  simp only [Value.slice.injEq] at he
  exact h5 b off he.1.symm i hi
theorem pr_at {l : List (Int × Int)} {b off n cap : Nat} (h : Rd w A (prsD l) (.slice (some ⟨b, off, none⟩) n cap)) {i : Nat} (hi : i < l.length) : w.cell? ⟨b, off + i * 2, none⟩ = some (.int .i64 l[i].1) ∧ w.cell? ⟨b, off + i * 2 + 1, none⟩ = some (.int .i64 l[i].2) := by
  obtain ⟨cs, hl, hr, hc⟩ := rows_at h (i := i) (by simpa using hi)
  simp only [List.getElem_map] at hr
  have := Rds.of_cs hr
  subst this
  exact ⟨hc 0 (by decide), hc 1 (by decide)⟩
theorem en_at {l : List En} {b off n cap : Nat} (h : Rd w A (ensD l) (.slice (some ⟨b, off, none⟩) n cap)) {i : Nat} (hi : i < l.length) : ∃ q c, Rd w A (vlsD l[i].sb.vals) (.slice q l[i].sb.vals.length c) ∧ ∀ j, j < 10 → w.cell? ⟨b, off + i * 10 + j, none⟩ = (enc_ l[i] (.slice q l[i].sb.vals.length c)).toList[j]? := by
  obtain ⟨cs, hl, hr, hc⟩ := rows_at h (i := i) (by simpa using hi)
  simp only [List.getElem_map] at hr
  obtain ⟨p, rfl, hp⟩ := en_row hr
  obtain ⟨q, c, rfl, _⟩ := vls_form hp
  exact ⟨q, c, hp, hc⟩
theorem dg_at {l : List Dg} {b off n cap : Nat} (h : Rd w A (dgsD l) (.slice (some ⟨b, off, none⟩) n cap)) {i : Nat} (hi : i < l.length) : ∃ q c, Rd w A (prsD l[i].dots) (.slice q l[i].dots.length c) ∧ ∀ j, j < 10 → w.cell? ⟨b, off + i * 10 + j, none⟩ = (dgc l[i] (.slice q l[i].dots.length c)).toList[j]? := by
  obtain ⟨cs, hl, hr, hc⟩ := rows_at h (i := i) (by simpa using hi)
  simp only [List.getElem_map] at hr
  obtain ⟨p, rfl, hp⟩ := dg_row hr
  obtain ⟨q, c, rfl, _⟩ := prs_form hp
  exact ⟨q, c, hp, hc⟩
theorem ten_of {f : Nat → Option Value} {cs : Array Value} (h : ∀ j, j < 10 → f j = cs.toList[j]?) : f 0 = cs[0]? ∧ f 1 = cs[1]? ∧ f 2 = cs[2]? ∧ f 3 = cs[3]? ∧ f 4 = cs[4]? ∧ f 5 = cs[5]? ∧ f 6 = cs[6]? ∧ f 7 = cs[7]? ∧ f 8 = cs[8]? ∧ f 9 = cs[9]? := by
  simp only [Array.getElem?_toList] at h
  exact ⟨h 0 (by decide), h 1 (by decide), h 2 (by decide), h 3 (by decide), h 4 (by decide), h 5 (by decide), h 6 (by decide), h 7 (by decide), h 8 (by decide), h 9 (by decide)⟩
end
/-- How great a message may be: what a machine's memory can hold. -/
structure Mz (m : Mg) : Prop where
  es : m.es.length ≤ 1000
  ev : ∀ e ∈ m.es, e.sb.vals.length ≤ 2932031007317 ∧ ∀ v ∈ e.sb.vals, v.data.length ≤ 140737488351232
  ds : m.ds.length ≤ 1000
  dd : ∀ d ∈ m.ds, d.dots.length ≤ 8796093021952
  ms : m.ms.length ≤ 8796093021952
end Go.Proofs.YtoefffjhjmjhfaaGreat
