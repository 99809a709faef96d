/- VectorTexts: what the row's condition and the world's shape give the walk. -/
import Derived.Test.YthkmocfdpmlllabDoorVectorTexts
import Derived.Test.YthkmocfdpmlllabDoorRows
import Derived.HandedShaped
import Derived.Shelf.Vars
import Derived.Stop.LaidErr
import Derived.Stop.Joined
namespace Go.Proofs.YthkmocfdpmlllabDoor
open Go.RowKit
def laidV : List (String × DataW Unit) := [("math/bits.deBruijn32tab", Rows.laid_math_bits_deBruijn32tab), ("math/bits.deBruijn64tab", Rows.laid_math_bits_deBruijn64tab), ("internal/strconv.uint64pow10", Rows.laid_internal_strconv_uint64pow10), ("unicode/utf8.acceptRanges", Rows.laid_unicode_utf8_acceptRanges), ("strconv.ErrRange", Rows.laid_strconv_ErrRange), ("strconv.ErrSyntax", Rows.laid_strconv_ErrSyntax), ("unicode/utf8.first", Rows.laid_unicode_utf8_first)]
theorem met_of {W : World} (h : laidMetH Tryd.prog laidV W) : laidMet Tryd.prog laidV W := by rwa [MakeChecks.laidMetH_plain _ _ _ (by kernel_rfl)] at h
theorem tab_of {W : World} (h : laidMetH Tryd.prog laidV W) : Tab W := by
  obtain ⟨_, ⟨g', t', cs, fuel, p, q, hg', ht', hvar, hd, _, _⟩, _⟩ := (met_of h).tail.tail
  obtain rfl := Option.some.inj ((show Tryd.prog.globalNamed "internal/strconv.uint64pow10" = some 2 by kernel_rfl).symm.trans hg')
  obtain rfl := Option.some.inj ((show (Tryd.prog.globals[2]?).map (·.type) = some 121 by kernel_rfl).symm.trans ht')
  have hd' : DataW.trod _ Tryd.prog W 0 _ _ fuel _ cs.toList = some (Lib.tabData .u64 Lib.pow10Tab, p) := hd
  unfold Tab Lib.TabIs
  rw [hvar, ← Lib.cells_of_tab Tryd.underlying121 Tryd.underlying77 (by kernel_rfl) (by kernel_rfl) hd']
theorem star_ : "*" ++ "errors.errorString" = "*errors.errorString" := by decide
theorem rowE (u : TypeId) (h : Tryd.prog.typeName? 3 u = some "*errors.errorString") : u = 128 :=
  typeName_ptr_named (nm := "errors.errorString") (by rw [star_]; kernel_rfl) (by kernel_rfl) (by decide) u (by rw [star_]; exact h)
theorem ErrSyntax_of {W : World} (h : laidMetH Tryd.prog laidV W) : ∃ te pe, W.cell? ⟨0, 0, none⟩ = some (.iface te pe) := by
  have hg : Tryd.prog.globalNamed "strconv.ErrSyntax" = some 0 := by kernel_rfl
  obtain ⟨a, s, hv, _⟩ := laid_sentinel ((met_of h).tail.tail.tail.tail.tail) hg (ti := 67) (by kernel_rfl) Tryd.underlying67 rowE Tryd.underlying128 Tryd.underlying130 rfl rfl Tryd.underlying9 (by kernel_rfl) (by kernel_rfl)
  exact ⟨_, _, by simpa using World.var?_cell hg hv 0⟩
theorem ErrRange_of {W : World} (h : laidMetH Tryd.prog laidV W) : ∃ te pe, W.cell? ⟨1, 0, none⟩ = some (.iface te pe) := by
  have hg : Tryd.prog.globalNamed "strconv.ErrRange" = some 1 := by kernel_rfl
  obtain ⟨a, s, hv, _⟩ := laid_sentinel ((met_of h).tail.tail.tail.tail) hg (ti := 67) (by kernel_rfl) Tryd.underlying67 rowE Tryd.underlying128 Tryd.underlying130 rfl rfl Tryd.underlying9 (by kernel_rfl) (by kernel_rfl)
  exact ⟨_, _, by simpa using World.var?_cell hg hv 0⟩
theorem mxl_of {W : World} (h : W.ShapedOpen Tryd.prog) : Mxl W :=
  cell_of_shapedOpen_int (P := Tryd.prog) (g := 3) (t := 3) (zero := #[.int .i64 0]) h (of_decide_eq_true (by kernel_rfl)) (by kernel_rfl) rfl (by kernel_rfl) (by kernel_rfl) Tryd.underlying3
theorem bulk_part {H : Type} {d : DataW H} {l : List (DataW H)} (h : d ∈ l) : Rows.uptoBulk d ≤ Rows.uptoBulkAll l := by
  induction l with
  | nil => cases h
  | cons x r ih =>
    simp only [Rows.uptoBulkAll]
    cases List.mem_cons.1 h with
    | inl e => subst e; omega
    | inr e => have := ih e; omega
theorem vectorTexts_walk {H : Type} {d : DataW H} (v0 : Value) (D0 : Vc) (s : ByteArray) (w : World) (w0 : VecAt v0 D0) (_ : s.size ≤ 140737488351232) (hL : laidMetH Tryd.prog laidV w) (hS : w.ShapedOpen Tryd.prog) (hk : Rows.uptoSmall H ([d, .lit (.string s.data.toList)] ++ []) = true) :
    Calls Tryd.prog 4 #[v0, .string s] w fun e w' => e = .returned (.bool true) ∧ Below w.heap.size w w' := by
  obtain ⟨rfl, hr⟩ := w0
  have hf : ∀ k, k < 8 → -9223372036854775808 ≤ D0 k ∧ D0 k ≤ 9223372036854775807 := fun k hk => by
    have h := hr k hk
    simp [Lit.wf, IntKind.min, IntKind.max, IntKind.signed, IntKind.bits] at h
    omega
  have hs : s.size < 4294967281 := by
    have h1 : Rows.uptoBulkAll ([d, .lit (.string s.data.toList)] ++ []) ≤ 1048576 := of_decide_eq_true hk
    have h2 := bulk_part (H := H) (d := .lit (.string s.data.toList)) (l := [d, .lit (.string s.data.toList)] ++ []) (by simp)
    have h3 : Rows.uptoBulk (DataW.lit (H := H) (.string s.data.toList)) = s.data.toList.length + 1 := by simp [Rows.uptoBulk]
    have h4 : s.data.toList.length = s.size := Array.length_toList
    omega
  exact (vectorTexts_any D0 s hf hs w (tab_of hL) ⟨ErrSyntax_of hL, ErrRange_of hL⟩ (mxl_of hS)).mono fun _ _ ⟨h1, h2⟩ => ⟨h1, h2.below⟩
end Go.Proofs.YthkmocfdpmlllabDoor
