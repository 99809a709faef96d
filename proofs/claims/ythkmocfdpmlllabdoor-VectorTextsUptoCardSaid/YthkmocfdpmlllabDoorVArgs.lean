/- How a vector, a dot that came in are opened. No statement is proved here. -/
import Derived.Test.YthkmocfdpmlllabDoorRows
import Derived.Test.YthkmocfdpmlllabDoorVector
import Derived.WalkKit
import Derived.OpenShut
import Derived.ChangeSlices
import Derived.Deep.Slices
import Derived.Deep.Fields
import Derived.ChangeSame
import Derived.Laws.LoneSync
namespace Go.Proofs.YthkmocfdpmlllabDoor
open Go.RowKit Go.ChangeShapes Go.WideShapes Go.Deep

def VecAt (v : Value) (f : Vc) : Prop := v = vec f ∧ ∀ k, k < 8 → (Lit.int .i64 (f k)).wf = true
def DotAt (v : Value) (n : Int × Int) : Prop := v = dot n.1 n.2 ∧ (Lit.int .i64 n.1).wf = true ∧ (Lit.int .i64 n.2).wf = true
theorem VecAt.low {v : Value} {f : Vc} (h : VecAt v f) : ∀ k, k < 8 → -9223372036854775808 ≤ f k := fun k hk => by
  have := h.2 k hk
  simp [Lit.wf] at this
  have e : IntKind.i64.min = -9223372036854775808 := by decide
  omega
namespace Args
section
variable {H : Type} {enc : TypeId × Value → H} {W : World} {base : Nat}
set_option maxRecDepth 100000 in
theorem openapi_Vector {v : Value} {d : DataW H} {p : List MemPlace} (hv : Value.okWide Tryd.prog W .any base 23 v) (h : DataW.Trod enc Tryd.prog W 0 (fun _ => true) true 23 v d p) : ∃ f : Vc, VecAt v f := by
  unfold Value.okWide at hv
  rw [Tryd.underlying23] at hv
  obtain ⟨cs, rfl, hsz, _⟩ := hv
  have hs8 : cs.size = 8 := hsz.trans (by kernel_rfl)
  obtain ⟨fuel, hf⟩ := h
  obtain ⟨xs, m, _, _, _, hxl, hel⟩ := DataW.trod_array Tryd.underlying23 hf
  have hc : Tryd.prog.cellsOf 2 = 1 := by kernel_rfl
  rw [hc] at hel
  have key : ∀ k, k < 8 → ∃ n : Int, cs[k]? = some (.int .i64 n) ∧ (Lit.int .i64 n).wf = true := by
    intro k hk
    have hx : xs[k]? = some (xs[k]'(by omega)) := List.getElem?_eq_getElem (by omega)
    have h1 := (hel k hk).trans hx
    have hone : ((cs.toList.drop (k * 1)).take 1) = [cs[k]'(by omega)] := by
      rw [Nat.mul_one, List.drop_eq_getElem_cons (by simpa using by omega)]
      simp
    rw [show (Value.agg cs).cells.toList = cs.toList from rfl, hone] at h1
    obtain ⟨q, hq, _, hw⟩ := DataW.trod_int Tryd.underlying2 h1
    simp only [List.cons.injEq, and_true] at hq
    exact ⟨q, by rw [Array.getElem?_eq_getElem (by omega), hq], hw⟩
  have hi : ∀ k, k < 8 → cs[k]? = some (.int .i64 (intOf ((cs[k]?).getD undef))) ∧ (Lit.int .i64 (intOf ((cs[k]?).getD undef))).wf = true := by
    intro k hk
    obtain ⟨n, h1, h2⟩ := key k hk
    rw [h1]
    exact ⟨rfl, h2⟩
  refine ⟨fun k => intOf ((cs[k]?).getD undef), ?_, fun k hk => (hi k hk).2⟩
  have : cs = va (fun k => intOf ((cs[k]?).getD undef)) := by
    apply Array.ext_getElem?
    intro k
    by_cases hk : k < 8
    · rw [va_get _ hk]; exact (hi k hk).1
    · rw [Array.getElem?_eq_none (by omega), Array.getElem?_eq_none (by simp [va]; omega)]
  exact congrArg Value.agg this
set_option maxRecDepth 100000 in
theorem openapi_Dot {v : Value} {d : DataW H} {p : List MemPlace} (hv : Value.okWide Tryd.prog W .any base 61 v) (h : DataW.Trod enc Tryd.prog W 0 (fun _ => true) true 61 v d p) : ∃ n : Int × Int, DotAt v n := by
  unfold Value.okWide at hv
  rw [Tryd.underlying61] at hv
  obtain ⟨cs, rfl, hsz, _⟩ := hv
  have hs2 : cs.size = 2 := hsz.trans (by kernel_rfl)
  obtain ⟨fuel, hf⟩ := h
  obtain ⟨ys, n', hn', hy, hlen, hyl, hff⟩ := DataW.trod_struct Tryd.underlying61 hf
  obtain ⟨a, b, rfl⟩ : ∃ a b, cs = #[a, b] := by
    obtain ⟨l⟩ := cs
    match l, hs2 with
    | [a, b], _ => exact ⟨a, b, rfl⟩
  have h0 := hff 0 _ rfl
  have h1 := hff 1 _ rfl
  have y0 : ys[0]? = some (ys[0]'(by rw [hyl]; decide)) := List.getElem?_eq_getElem _
  have y1 : ys[1]? = some (ys[1]'(by rw [hyl]; decide)) := List.getElem?_eq_getElem _
  have e0 := h0.trans y0
  have e1 := h1.trans y1
  obtain ⟨q, hq, _, hw⟩ := DataW.trod_int (cs := [a]) Tryd.underlying3 e0
  obtain ⟨r, hr, _, hx⟩ := DataW.trod_int (cs := [b]) Tryd.underlying2 e1
  simp only [List.cons.injEq, and_true] at hq hr
  subst hq hr
  exact ⟨(q, r), rfl, hw, hx⟩
end
end Args
end Go.Proofs.YthkmocfdpmlllabDoor
