/- How arguments that lie in memory are opened. No statement is proved here. -/
import Derived.Test.YtiechceeiidelaaRows
import Derived.Test.YtiechceeiidelaaWords
import Derived.WalkKit
import Derived.ChangeSlices
import Derived.Deep.Slices
import Derived.OpenShut
namespace Go.Proofs.Ytiechceeiidelaa
open Go.RowKit Go.ChangeShapes Go.WideShapes Go.Deep

/-- A slice that came in: its cells. -/
def SliceAt (W : World) (v : Value) (size n : Nat) (xs : List Value) : Prop :=
  ∃ (A : Option Addr) (cap : Nat), v = .slice A n cap ∧ n ≤ cap ∧ cap ≤ maxLen ∧ xs.length = n * size ∧ (0 < n → ∃ a, A = some a ∧ a.block < W.heap.size ∧ ∀ j u, xs[j]? = some u → W.cell? (a.add j) = some u)

theorem lt_of_cell {w : World} {a : Addr} {v : Value} (h : w.cell? a = some v) : a.block < w.heap.size := by
  unfold World.cell? at h
  rcases Nat.lt_or_ge a.block w.heap.size with hlt | hge
  · exact hlt
  · rw [Array.getElem?_eq_none hge] at h; cases h

theorem block_of_add (a : Addr) (n : Nat) : (a.add n).block = a.block := by unfold Addr.add; split <;> rfl

namespace Args
section
variable {H : Type} {enc : TypeId × Value → H} {W : World} {base : Nat}

theorem ints {P : Program} {t e : TypeId} {k : IntKind} {v : Value} {d : DataW H} {p : List MemPlace} (ht : P.underlying t = some (.slice e)) (he : P.underlying e = some (.int k)) (hc : P.cellsOf e = 1)
    (hv : Value.okWide P W .any base t v) (h : DataW.Trod enc P W 0 (fun _ => true) true t v d p) :
    ∃ zs : List Int, SliceAt W v 1 zs.length (zs.map (Value.int k)) ∧ ∀ n ∈ zs, (Lit.int k n).wf = true := by
  obtain ⟨a, len, cap, rfl⟩ := okWide_slice ht hv
  obtain ⟨fuel, hf⟩ := h
  rcases open_ints ht he hc hf with ⟨hcs, _⟩ | ⟨x, l, c, zs, hcs, _, hl, hm, hz, _, hcell, hwz⟩
  · simp [Value.cells] at hcs
    obtain ⟨rfl, rfl, rfl⟩ := hcs
    exact ⟨[], ⟨none, 0, rfl, Nat.le_refl _, by unfold maxLen; omega, rfl, fun h => absurd h (by simp)⟩, by simp⟩
  · simp [Value.cells] at hcs
    obtain ⟨rfl, rfl, rfl⟩ := hcs
    simp at hz
    have hlen : (zs.take len).length = len := by simp; omega
    refine ⟨zs.take len, ⟨some x, cap, by rw [hlen], by rw [hlen]; exact hl, hm, by simp, fun hn => ⟨x, rfl, ?_, ?_⟩⟩, fun n hn => hwz n (List.mem_of_mem_take hn)⟩
    · have := lt_of_cell (hcell 0 (by rw [hlen] at hn; omega))
      rwa [block_of_add] at this
    · intro j u hu
      rw [List.getElem?_map, Option.map_eq_some_iff] at hu
      obtain ⟨y, hy, rfl⟩ := hu
      have hj : j < len := by have := (List.getElem?_eq_some_iff.1 hy).1; omega
      rw [List.getElem?_take_of_lt hj] at hy
      rw [hcell j (by omega), List.getD_eq_getElem?_getD, hy]; rfl

theorem open__int64 {v : Value} {d : DataW H} {p : List MemPlace} (hv : Value.okWide Try.prog W .any base 30 v) (h : DataW.Trod enc Try.prog W 0 (fun _ => true) true 30 v d p) :
    ∃ zs : List Int, SliceAt W v 1 zs.length (zs.map (Value.int .i64)) ∧ ∀ n ∈ zs, (Lit.int .i64 n).wf = true := ints Try.underlying30 Try.underlying2 (by kernel_rfl) hv h
end
end Args
end Go.Proofs.Ytiechceeiidelaa
