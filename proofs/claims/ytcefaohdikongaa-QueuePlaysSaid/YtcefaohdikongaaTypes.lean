/- The program's kinds of data, as plain Lean, and how they lie in cells. No statement is proved here. -/
import Derived.Test.YtcefaohdikongaaData
namespace Go.Proofs.Ytcefaohdikongaa
open Go.RowKit

abbrev iD (n : Int) : D := .c (.int .i64 n)
/-- Bytes. -/
def bI (zs : List Int) : D := .s 1 (zs.map fun z => [.c (.int .u8 z)])
def nums (l : List UInt8) : List Int := l.map fun c => (c.toNat : Int)
theorem nums_length (l : List UInt8) : (nums l).length = l.length := List.length_map ..
theorem nums_inj {l m : List UInt8} (h : nums l = nums m) : l = m := by
  unfold nums at h
  exact List.map_inj_right (fun a b hab => UInt8.toNat_inj.1 (Int.ofNat_inj.1 hab)) |>.1 h
def bD (l : List UInt8) : D := bI (nums l)
/-- A value that stands: its event, its data; was it deleted. -/
structure Vl where
  node : Int
  n : Int
  data : List UInt8
  dead : Bool
deriving DecidableEq
def vlD (v : Vl) : List D := [iD v.node, iD v.n, bD v.data, .c (.bool v.dead)]
def vlsD (l : List Vl) : D := .s 4 (l.map vlD)
abbrev vlc (v : Vl) (d : Value) : Array Value := #[.int .i64 v.node, .int .i64 v.n, d, .bool v.dead]
abbrev vlv (v : Vl) (d : Value) : Value := .agg (vlc v d)
abbrev Vq := Nat → Int
/-- What is known of a key. -/
structure Sb where
  seen : Vq
  vals : List Vl
abbrev sbc (s : Sb) (p : Value) : Array Value := #[.int .i64 (s.seen 0), .int .i64 (s.seen 1), .int .i64 (s.seen 2), .int .i64 (s.seen 3), .int .i64 (s.seen 4), .int .i64 (s.seen 5), .int .i64 (s.seen 6), .int .i64 (s.seen 7), p]
abbrev sbv (s : Sb) (p : Value) : Value := .agg (sbc s p)
def sbD (s : Sb) : List D := [iD (s.seen 0), iD (s.seen 1), iD (s.seen 2), iD (s.seen 3), iD (s.seen 4), iD (s.seen 5), iD (s.seen 6), iD (s.seen 7), vlsD s.vals]
/-- A key, and what is known of it. -/
structure En where
  key : ByteArray
  sb : Sb
abbrev enc_ (e : En) (p : Value) : Array Value := #[.string e.key, .int .i64 (e.sb.seen 0), .int .i64 (e.sb.seen 1), .int .i64 (e.sb.seen 2), .int .i64 (e.sb.seen 3), .int .i64 (e.sb.seen 4), .int .i64 (e.sb.seen 5), .int .i64 (e.sb.seen 6), .int .i64 (e.sb.seen 7), p]
abbrev env_ (e : En) (p : Value) : Value := .agg (enc_ e p)
def enD (e : En) : List D := .c (.string e.key) :: sbD e.sb
section
variable {w w' : World} {A : Nat → Prop}
/-- Bytes in memory: their slice. -/
theorem bytes_formI {zs : List Int} {v : Value} (h : Rd w A (bI zs) v) : ∃ p cap, v = .slice p zs.length cap ∧ zs.length ≤ cap ∧ cap ≤ maxLen ∧ (p = none ∧ cap = 0 ∨ (∃ b off, p = some ⟨b, off, none⟩) ∨ ∃ a, p = some a ∧ zs.length = 0) ∧ (0 < zs.length → ∃ b off, p = some ⟨b, off, none⟩ ∧ A b ∧ b < w.heap.size) ∧
    ∀ b off, p = some ⟨b, off, none⟩ → ∀ i (h : i < zs.length), w.cell? ⟨b, off + i, none⟩ = some (.int .u8 zs[i]) := by
  obtain ⟨p, cap, rfl, h1, h2, h3, h4, h5⟩ := h.form
  simp only [List.length_map] at *
  refine ⟨p, cap, rfl, h1, h2, h3, h4, fun b off hp i hi => ?_⟩
  obtain ⟨cs, hl, hr, hc⟩ := h5 b off hp i hi
  match cs, hl with
  | [c], _ =>
    have := hc 0 (by decide)
    simp only [List.getElem_map] at hr
    rw [Nat.mul_one, Nat.add_zero] at this
    rw [this, ← hr.1.cell]
    rfl
theorem bytes_form {l : List UInt8} {v : Value} (h : Rd w A (bD l) v) : ∃ p cap, v = .slice p l.length cap ∧ l.length ≤ cap ∧ cap ≤ maxLen ∧ (p = none ∧ cap = 0 ∨ (∃ b off, p = some ⟨b, off, none⟩) ∨ ∃ a, p = some a ∧ l.length = 0) ∧ (0 < l.length → ∃ b off, p = some ⟨b, off, none⟩ ∧ A b ∧ b < w.heap.size) ∧
    ∀ b off, p = some ⟨b, off, none⟩ → ∀ i (h : i < l.length), w.cell? ⟨b, off + i, none⟩ = some (.int .u8 l[i].toNat) := by
  obtain ⟨p, cap, rfl, h1, h2, h3, h4, h5⟩ := bytes_formI h
  simp only [nums_length] at *
  refine ⟨p, cap, rfl, h1, h2, h3, h4, fun b off hp i hi => ?_⟩
  rw [h5 b off hp i hi]
  simp [nums]
theorem vl_row {v : Vl} {cs : List Value} (h : Rds w A (vlD v) cs) : ∃ d, cs = [.int .i64 v.node, .int .i64 v.n, d, .bool v.dead] ∧ Rd w A (bD v.data) d := by
  match cs, h with
  | [a, b, d, e], h => exact ⟨d, by rw [h.1.cell, h.2.1.cell, h.2.2.2.1.cell], h.2.2.1⟩
theorem vl_rds {v : Vl} {d : Value} (h : Rd w A (bD v.data) d) : Rds w A (vlD v) [.int .i64 v.node, .int .i64 v.n, d, .bool v.dead] := ⟨.c _ rfl, .c _ rfl, h, .c _ rfl, trivial⟩
/-- Values in memory: their slice; each one's four cells. -/
theorem vls_form {l : List Vl} {v : Value} (h : Rd w A (vlsD l) v) : ∃ p cap, v = .slice p l.length cap ∧ l.length ≤ cap ∧ cap ≤ maxLen ∧ (p = none ∧ cap = 0 ∨ (∃ b off, p = some ⟨b, off, none⟩) ∨ ∃ a, p = some a ∧ l.length = 0) ∧ (0 < l.length → ∃ b off, p = some ⟨b, off, none⟩ ∧ A b ∧ b < w.heap.size) ∧
    ∀ b off, p = some ⟨b, off, none⟩ → ∀ i (h : i < l.length), ∃ d, Rd w A (bD l[i].data) d ∧ w.cell? ⟨b, off + i * 4, none⟩ = some (.int .i64 l[i].node) ∧ w.cell? ⟨b, off + i * 4 + 1, none⟩ = some (.int .i64 l[i].n) ∧ w.cell? ⟨b, off + i * 4 + 2, none⟩ = some d ∧ w.cell? ⟨b, off + i * 4 + 3, none⟩ = some (.bool l[i].dead) := by
  obtain ⟨p, cap, rfl, h1, h2, h3, h4, h5⟩ := h.form
  simp only [List.length_map] at *
  refine ⟨p, cap, rfl, h1, h2, h3, h4, fun b off hp i hi => ?_⟩
  obtain ⟨cs, hl, hr, hc⟩ := h5 b off hp i hi
  simp only [List.getElem_map] at hr
  obtain ⟨d, rfl, hd⟩ := vl_row hr
  exact ⟨d, hd, hc 0 (by decide), hc 1 (by decide), hc 2 (by decide), hc 3 (by decide)⟩
end
end Go.Proofs.Ytcefaohdikongaa
