/- How arguments that lie in memory are opened. No statement is proved here. -/
import Derived.Test.YtcefaohdikongaaRows
import Derived.Test.YtcefaohdikongaaWords
import Derived.WalkKit
import Derived.ChangeSlices
import Derived.Deep.Slices
import Derived.Deep.Fields
import Derived.ChangeSame
import Derived.OpenShut
import Derived.Laws.LoneSync
namespace Go.Proofs.Ytcefaohdikongaa
open Go.RowKit Go.ChangeShapes Go.WideShapes Go.Deep

/-- A slice that came in: its cells. -/
def SliceAt (W : World) (v : Value) (size n : Nat) (xs : List Value) : Prop :=
  ∃ (A : Option Addr) (cap : Nat), v = .slice A n cap ∧ n ≤ cap ∧ cap ≤ maxLen ∧ xs.length = n * size ∧ (0 < n → ∃ b off, A = some ⟨b, off, none⟩ ∧ b < W.heap.size ∧ ∀ j u, xs[j]? = some u → W.cell? ⟨b, off + j, none⟩ = some u)

theorem lt_of_cell {w : World} {a : Addr} {v : Value} (h : w.cell? a = some v) : a.block < w.heap.size := by
  unfold World.cell? at h
  rcases Nat.lt_or_ge a.block w.heap.size with hlt | hge
  · exact hlt
  · rw [Array.getElem?_eq_none hge] at h; cases h

theorem add_plain {w : World} {a : Addr} {v : Value} (h : w.cell? a = some v) : ∃ b off, a = ⟨b, off, none⟩ ∧ ∀ j, a.add j = ⟨b, off + j, none⟩ := by
  obtain ⟨e, n, _, _, hs⟩ := World.shape?_of_cell? h
  obtain ⟨b, off, spot⟩ := a
  obtain rfl : spot = none := hs
  refine ⟨b, off, rfl, fun j => ?_⟩
  unfold Addr.add
  split
  · next hj => subst hj; rfl
  · rfl

theorem block_of_add (a : Addr) (n : Nat) : (a.add n).block = a.block := by unfold Addr.add; split <;> rfl

/-- A slice of rows that came in: its cells, row by row. -/
def RowsAt (W : World) (v : Value) (size n : Nat) (c : Nat → Nat → Value) : Prop :=
  ∃ (A : Option Addr) (cap : Nat), v = .slice A n cap ∧ n ≤ cap ∧ cap ≤ maxLen ∧ (0 < n → ∃ b off, A = some ⟨b, off, none⟩ ∧ b < W.heap.size ∧ ∀ i j, i < n → j < size → W.cell? ⟨b, off + i * size + j, none⟩ = some (c i j))

namespace Args
section
variable {H : Type} {enc : TypeId × Value → H} {W : World} {base : Nat}

theorem ints {P : Program} {t e : TypeId} {k : IntKind} {v : Value} {d : DataW H} {p : List MemPlace} (ht : P.underlying t = some (.slice e)) (he : P.underlying e = some (.int k)) (hc : P.cellsOf e = 1)
    (hv : Value.okWide P W .any base t v) (h : DataW.Trod enc P W 0 (fun _ => true) true t v d p) :
    ∃ zs : List Int, SliceAt W v 1 zs.length (zs.map (Value.int k)) ∧ ∀ n ∈ zs, (Lit.int k n).wf = true := by
  obtain ⟨a, len, cap, rfl⟩ := okWide_slice ht hv
  obtain ⟨fuel, hf⟩ := h
  rcases open_ints ht he hc hf with ⟨hcs, _⟩ | ⟨x, l, c, zs, hcs, _, hl, hm, hz, _, hcell, hwz⟩
  · simp [Value.cells] at hcs
    obtain ⟨rfl, rfl, rfl⟩ := hcs
    exact ⟨[], ⟨none, 0, rfl, Nat.le_refl _, by unfold maxLen; omega, rfl, fun h => absurd h (by simp)⟩, by simp⟩
  · simp [Value.cells] at hcs
    obtain ⟨rfl, rfl, rfl⟩ := hcs
    simp at hz
    have hlen : (zs.take len).length = len := by simp; omega
    refine ⟨zs.take len, ⟨some x, cap, by rw [hlen], by rw [hlen]; exact hl, hm, by simp, fun hn => ?_⟩, fun n hn => hwz n (List.mem_of_mem_take hn)⟩
    obtain ⟨b, off, rfl, hadd⟩ := add_plain (a := x) (by simpa [Addr.add] using hcell 0 (by rw [hlen] at hn; omega))
    refine ⟨b, off, rfl, ?_, ?_⟩
    · have := lt_of_cell (hcell 0 (by rw [hlen] at hn; omega))
      rwa [block_of_add] at this
    · intro j u hu
      rw [← hadd]
      rw [List.getElem?_map, Option.map_eq_some_iff] at hu
      obtain ⟨y, hy, rfl⟩ := hu
      have hj : j < len := by have := (List.getElem?_eq_some_iff.1 hy).1; omega
      rw [List.getElem?_take_of_lt hj] at hy
      rw [hcell j (by omega), List.getD_eq_getElem?_getD, hy]; rfl

theorem slice_fields {P : Program} {t e : TypeId} {fs : Array Field} {fuel : Nat} {cs : List Value} {x : DataW H × List MemPlace} {spare : Nat → Bool} {held : Bool} (ht : P.underlying t = some (.slice e)) (he : P.underlying e = some (.struct fs))
    (hone : oneCellFields P fs = true) (hC : P.cellsOf e = fs.size) (h : DataW.trod enc P W base spare held fuel t cs = some x) :
    (cs = [.slice none 0 0]) ∨
    ∃ (a : Addr) (len cap : Nat), cs = [.slice (some a) len cap] ∧ len ≤ cap ∧ cap ≤ maxLen ∧
      ∀ i, i < len → ∀ (j : Nat) (f : Field), fs[j]? = some f → ∃ (v : Value) (y : DataW H × List MemPlace) (n : Nat), W.cell? (a.add (i * fs.size + j)) = some v ∧ DataW.trod enc P W base spare held n f.type [v] = some y := by
  rcases open_slice ht h with h0 | ⟨a, len, cap, m, n, D, Pl, hcs, hb, hl, hm, hmm, hx, hi⟩
  · exact .inl h0.1
  · refine .inr ⟨a, len, cap, hcs, hl, hm, fun i him j f hj => ?_⟩
    obtain ⟨cs', hc, ht'⟩ := hi i (by rw [hmm]; split <;> omega)
    rw [hC] at hc
    obtain ⟨ys, n', hn', hy, hlen, hyl, hf⟩ := DataW.trod_struct he ht'
    obtain ⟨_, hcl, hat⟩ := World.cells?_some hc
    obtain ⟨ho, hk⟩ := hone_of hone j f hj
    have hjl : j < fs.size := (Array.getElem?_eq_some_iff.1 hj).1
    have hcell := hat j hjl
    have hv : cs'[j]? = some (cs'[j]'(by omega)) := List.getElem?_eq_getElem (by omega)
    have h1 := hf j f hj
    rw [ho, hk] at h1
    have hone' : (cs'.drop j).take 1 = [cs'[j]'(by omega)] := by
      rw [List.drop_eq_getElem_cons (by omega)]
      rfl
    rw [hone'] at h1
    have hys : ys[j]? = some (ys[j]'(by omega)) := List.getElem?_eq_getElem (by omega)
    refine ⟨_, _, n', ?_, h1.trans hys⟩
    rw [← Go.Deep.add_add, hcell, hv]

/-- A slice of structs of integers. -/
theorem intRows {P : Program} {t e : TypeId} {fs : Array Field} {v : Value} {d : DataW H} {p : List MemPlace} (ks : Nat → IntKind) (ht : P.underlying t = some (.slice e)) (he : P.underlying e = some (.struct fs))
    (hone : oneCellFields P fs = true) (hC : P.cellsOf e = fs.size) (hks : ∀ j f, fs[j]? = some f → P.underlying f.type = some (.int (ks j)))
    (hv : Value.okWide P W .any base t v) (h : DataW.Trod enc P W 0 (fun _ => true) true t v d p) (h0 : 0 < fs.size) :
    ∃ D : Nat × (Nat → Nat → Int), RowsAt W v fs.size D.1 (fun i j => .int (ks j) (D.2 i j)) ∧ ∀ i j, i < D.1 → j < fs.size → (Lit.int (ks j) (D.2 i j)).wf = true := by
  obtain ⟨A, len, cap, rfl⟩ := okWide_slice ht hv
  obtain ⟨fuel, hf⟩ := h
  rcases slice_fields ht he hone hC hf with hcs | ⟨a, l, c, hcs, hl, hm, hi⟩
  · simp [Value.cells] at hcs
    obtain ⟨rfl, rfl, rfl⟩ := hcs
    exact ⟨⟨0, fun _ _ => 0⟩, ⟨none, 0, rfl, Nat.le_refl _, by unfold maxLen; omega, fun h => absurd h (by simp)⟩, fun i j h => absurd h (by simp)⟩
  · simp [Value.cells] at hcs
    obtain ⟨rfl, rfl, rfl⟩ := hcs
    have key : ∀ i j, i < len → j < fs.size → ∃ n, W.cell? (a.add (i * fs.size + j)) = some (.int (ks j) n) ∧ (Lit.int (ks j) n).wf = true := by
      intro i j hi' hj'
      obtain ⟨v, y, n, hc, ht'⟩ := hi i hi' j _ (Array.getElem?_eq_getElem hj')
      obtain ⟨q, hq, _, hw⟩ := DataW.trod_int (hks j _ (Array.getElem?_eq_getElem hj')) ht'
      simp only [List.cons.injEq, and_true] at hq
      subst hq
      exact ⟨q, hc, hw⟩
    refine ⟨⟨len, fun i j => intOf ((W.cell? (a.add (i * fs.size + j))).getD undef)⟩, ⟨some a, cap, rfl, hl, hm, fun hn => ?_⟩, ?_⟩
    · obtain ⟨n, hc, _⟩ := key 0 0 hn h0
      have hlt := lt_of_cell hc
      rw [block_of_add] at hlt
      obtain ⟨b, off, rfl, hadd⟩ := add_plain (a := a) (by simpa [Addr.add] using hc)
      refine ⟨b, off, rfl, hlt, ?_⟩
      intro i j hi' hj'
      obtain ⟨n, hc, _⟩ := key i j hi' hj'
      rw [Nat.add_assoc, ← hadd]
      show W.cell? (Addr.add ⟨b, off, none⟩ (i * fs.size + j)) = some (.int (ks j) (intOf ((W.cell? (Addr.add ⟨b, off, none⟩ (i * fs.size + j))).getD undef)))
      rw [hc]; rfl
    · intro i j hi' hj'
      obtain ⟨n, hc, hw⟩ := key i j hi' hj'
      show (Lit.int (ks j) (intOf ((W.cell? (a.add (i * fs.size + j))).getD undef))).wf = true
      rw [hc]; exact hw

theorem bools {P : Program} {t e : TypeId} {v : Value} {d : DataW H} {p : List MemPlace} (ht : P.underlying t = some (.slice e)) (he : P.underlying e = some .bool) (hc : P.cellsOf e = 1)
    (hv : Value.okWide P W .any base t v) (h : DataW.Trod enc P W 0 (fun _ => true) true t v d p) :
    ∃ bs : List Bool, SliceAt W v 1 bs.length (bs.map Value.bool) := by
  obtain ⟨a, len, cap, rfl⟩ := okWide_slice ht hv
  obtain ⟨fuel, hf⟩ := h
  rcases open_slice ht hf with ⟨hcs, _⟩ | ⟨x, l, c, m, n, D, Pl, hcs, _, hl, hm, hmm, _, hi⟩
  · simp [Value.cells] at hcs
    obtain ⟨rfl, rfl, rfl⟩ := hcs
    exact ⟨[], ⟨none, 0, rfl, Nat.le_refl _, by unfold maxLen; omega, rfl, fun h => absurd h (by simp)⟩⟩
  · simp [Value.cells] at hcs
    obtain ⟨rfl, rfl, rfl⟩ := hcs
    simp at hmm
    have key : ∀ i, i < len → ∃ b, W.cell? (x.add i) = some (.bool b) := by
      intro i hi'
      obtain ⟨cs', hcs', ht'⟩ := hi i (by omega)
      rw [hc] at hcs'
      obtain ⟨b, hb, _⟩ := DataW.trod_bool he ht'
      subst hb
      obtain ⟨_, _, hat⟩ := World.cells?_some hcs'
      have := hat 0 (by omega)
      rw [Nat.mul_one] at this
      exact ⟨b, by simpa [Addr.add] using this⟩
    let f : Nat → Bool := fun i => match W.cell? (x.add i) with | some (.bool b) => b | _ => false
    refine ⟨(List.range len).map f, ⟨some x, cap, by simp, by simpa using hl, hm, by simp, fun hn => ?_⟩⟩
    have hn' : 0 < len := by simpa using hn
    obtain ⟨b0, hb0⟩ := key 0 hn'
    obtain ⟨b, off, rfl, hadd⟩ := add_plain (a := x) (by simpa [Addr.add] using hb0)
    refine ⟨b, off, rfl, ?_, ?_⟩
    · have := lt_of_cell hb0
      rwa [block_of_add] at this
    · intro j u hu
      rw [List.getElem?_map, List.getElem?_map, Option.map_eq_some_iff] at hu
      obtain ⟨y, hy, rfl⟩ := hu
      rw [Option.map_eq_some_iff] at hy
      obtain ⟨i, hi', rfl⟩ := hy
      have hj : j < len := by have := (List.getElem?_eq_some_iff.1 hi').1; simpa using this
      rw [List.getElem?_range hj] at hi'
      injection hi' with hi'
      subst hi'
      obtain ⟨b1, hb1⟩ := key j hj
      rw [← hadd, hb1]
      simp only [f, hb1]

set_option maxRecDepth 100000 in
theorem open__bool {v : Value} {d : DataW H} {p : List MemPlace} (hv : Value.okWide Try.prog W .any base 33 v) (h : DataW.Trod enc Try.prog W 0 (fun _ => true) true 33 v d p) :
    ∃ bs : List Bool, SliceAt W v 1 bs.length (bs.map Value.bool) := bools Try.underlying33 Try.underlying4 (by kernel_rfl) hv h
set_option maxRecDepth 100000 in
theorem open__int {v : Value} {d : DataW H} {p : List MemPlace} (hv : Value.okWide Try.prog W .any base 22 v) (h : DataW.Trod enc Try.prog W 0 (fun _ => true) true 22 v d p) :
    ∃ zs : List Int, SliceAt W v 1 zs.length (zs.map (Value.int .i64)) ∧ ∀ n ∈ zs, (Lit.int .i64 n).wf = true := ints Try.underlying22 Try.underlying3 (by kernel_rfl) hv h
set_option maxRecDepth 100000 in
theorem open__uint8 {v : Value} {d : DataW H} {p : List MemPlace} (hv : Value.okWide Try.prog W .any base 92 v) (h : DataW.Trod enc Try.prog W 0 (fun _ => true) true 92 v d p) :
    ∃ zs : List Int, SliceAt W v 1 zs.length (zs.map (Value.int .u8)) ∧ ∀ n ∈ zs, (Lit.int .u8 n).wf = true := ints Try.underlying92 Try.underlying5 (by kernel_rfl) hv h
set_option maxRecDepth 100000 in
theorem len__uint8 {v : Value} {d : DataW H} {p : List MemPlace} {R : Nat} (zs : List Int) (hs : SliceAt W v 1 zs.length (zs.map (Value.int .u8))) (h : DataW.Trod enc Try.prog W 0 (fun _ => true) true 92 v d p)
    (hsz : ∀ elems spare, d = .slice elems spare → elems.length + spare.length ≤ R) : zs.length ≤ R := by
  obtain ⟨A, cap, rfl, _, _, _, _⟩ := hs
  obtain ⟨fuel, hf⟩ := h
  rcases open_ints Try.underlying92 Try.underlying5 (by kernel_rfl) hf with ⟨hcs, _⟩ | ⟨x, l, c, ys, hcs, _, hl, _, hz, hx, _⟩
  · simp [Value.cells] at hcs
    have := hcs.2.1
    subst this
    simp
  · simp [Value.cells] at hcs
    have h1 := hsz _ _ (congrArg Prod.fst hx)
    have h2 := hcs.2.1
    simp [lits] at h1 hz
    omega
end
end Args
end Go.Proofs.Ytcefaohdikongaa
