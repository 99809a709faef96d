/- VectorBack: what the row's condition and the world's shape give the walk. -/
import Derived.Test.YthkmocfdpmlllabDoorVectorBack
import Derived.Test.YthkmocfdpmlllabDoorRows
import Derived.HandedShaped
import Derived.Shelf.Vars
import Derived.Stop.LaidErr
import Derived.Stop.Joined
namespace Go
variable {H : Type} {enc : TypeId × Value → H}
/-- The wrap with a condition on the world, the world's shape kept. -/
theorem Proofs.YthkmocfdpmlllabDoor.handed_and_shaped {a : Assume} {C : Checked} {os : Os} {f : FuncId} {fn : Func} {s : ChangeSpec} {conds : List PathCond} {apart fresh handsOn again : Bool} {X : World → Array Value → Prop}
    (hX : ∀ (w w' : World) (args : Array Value), w.heap = w'.heap → X w args → X w' args)
    (own : ownKnob C.prog.godebug = none) (started : os.Started) (noInit : C.prog.inits.idxOf? f = none) (hfn : C.prog.funcs[f]? = some fn)
    (witness : ∃ (w : World) (tape : Tape) (i : Input), w.os = os ∧ (w.forCall tape i).Shaped C.prog ∧ i.vars = [] ∧ Input.okWide C.prog (w.forCall tape i) .any w.heap.size f i ∧
      ((s.pre enc C.prog fn conds apart (w.forCall tape i).memory i.args ∧ X (w.forCall tape i).memory i.args) ∧ sizedMet enc C.prog fn (OpenSpec.ofChange s) apart (w.forCall tape i).memory i.args) ∧ a.holds C.prog (lone (Frame.enter C.prog f i.args .normal) [] (w.forCall tape i)))
    (contract : ∀ (W : World) (base : Nat) (args : Array Value) (ds gs : List (DataW H)) (before : List MemPlace),
      (∀ (j : Nat) t v, fn.params[j]? = some t → args[j]? = some v → Value.okWide C.prog W .any base t v) →
      DataW.Whole enc C.prog fn.params.toList s.vars apart W args.toList ds gs before →
      conds.all (PathCond.test C.prog ⟨fn.params.toList, ds, s.plain.varTypes C.prog, gs⟩) = true →
      (DataW.weightsEach C.prog (fn.params.toList ++ s.plain.varTypes C.prog) (ds ++ gs)).all (· ≤ reachBytes) = true → X W args → W.ShapedOpen C.prog →
      a.holds C.prog (lone (Frame.enter C.prog f args .normal) [] W) →
      Calls C.prog f args W fun e W' => ∃ v, e = .returned v ∧ s.post enc C.prog fn apart fresh handsOn again W args v W') :
    ReturnsInHanded a C os f .any (fun w args => (s.pre enc C.prog fn conds apart w args ∧ X w args) ∧ sizedMet enc C.prog fn (OpenSpec.ofChange s) apart w args) (s.post enc C.prog fn apart fresh handsOn again) := by
  refine returnsInHanded_of_calls own started noInit witness ?_
  intro w tape i _ hsh _ hok hpre hholds
  obtain ⟨_, _, _, fn', hfn', _, _, _, _, hval⟩ := hok
  have e : fn' = fn := Option.some.inj (hfn'.symm.trans hfn)
  subst e
  obtain ⟨⟨⟨ds, gs, before, hw, hc⟩, hx⟩, hz⟩ := hpre
  have hw' := DataW.Whole.of_heap (w' := w.forCall tape i) (by rfl) hw
  refine (contract (w.forCall tape i) w.heap.size i.args ds gs before hval hw' hc (hz.weights hw) (hX _ _ _ (by rfl) hx) hsh hholds).mono fun e W' ⟨v, he, hp⟩ => ?_
  subst he
  exact ChangeSpec.post_blind hp
end Go
namespace Go.Proofs.YthkmocfdpmlllabDoor
open Go.RowKit
def laidV : List (String × DataW Unit) := [("math/bits.deBruijn32tab", Rows.laid_math_bits_deBruijn32tab), ("math/bits.deBruijn64tab", Rows.laid_math_bits_deBruijn64tab), ("internal/strconv.uint64pow10", Rows.laid_internal_strconv_uint64pow10), ("unicode/utf8.acceptRanges", Rows.laid_unicode_utf8_acceptRanges), ("strconv.ErrRange", Rows.laid_strconv_ErrRange), ("strconv.ErrSyntax", Rows.laid_strconv_ErrSyntax), ("unicode/utf8.first", Rows.laid_unicode_utf8_first)]
theorem met_of {W : World} (h : laidMetH Tryd.prog laidV W) : laidMet Tryd.prog laidV W := by rwa [MakeChecks.laidMetH_plain _ _ _ (by kernel_rfl)] at h
theorem tab_of {W : World} (h : laidMetH Tryd.prog laidV W) : Tab W := by
  obtain ⟨_, ⟨g', t', cs, fuel, p, q, hg', ht', hvar, hd, _, _⟩, _⟩ := (met_of h).tail.tail
  obtain rfl := Option.some.inj ((show Tryd.prog.globalNamed "internal/strconv.uint64pow10" = some 2 by kernel_rfl).symm.trans hg')
  obtain rfl := Option.some.inj ((show (Tryd.prog.globals[2]?).map (·.type) = some 121 by kernel_rfl).symm.trans ht')
  have hd' : DataW.trod _ Tryd.prog W 0 _ _ fuel _ cs.toList = some (Lib.tabData .u64 Lib.pow10Tab, p) := hd
  unfold Tab Lib.TabIs
  rw [hvar, ← Lib.cells_of_tab Tryd.underlying121 Tryd.underlying77 (by kernel_rfl) (by kernel_rfl) hd']
theorem star_ : "*" ++ "errors.errorString" = "*errors.errorString" := by decide
theorem rowE (u : TypeId) (h : Tryd.prog.typeName? 3 u = some "*errors.errorString") : u = 128 :=
  typeName_ptr_named (nm := "errors.errorString") (by rw [star_]; kernel_rfl) (by kernel_rfl) (by decide) u (by rw [star_]; exact h)
theorem ErrSyntax_of {W : World} (h : laidMetH Tryd.prog laidV W) : ∃ te pe, W.cell? ⟨0, 0, none⟩ = some (.iface te pe) := by
  have hg : Tryd.prog.globalNamed "strconv.ErrSyntax" = some 0 := by kernel_rfl
  obtain ⟨a, s, hv, _⟩ := laid_sentinel ((met_of h).tail.tail.tail.tail.tail) hg (ti := 67) (by kernel_rfl) Tryd.underlying67 rowE Tryd.underlying128 Tryd.underlying130 rfl rfl Tryd.underlying9 (by kernel_rfl) (by kernel_rfl)
  exact ⟨_, _, by simpa using World.var?_cell hg hv 0⟩
theorem ErrRange_of {W : World} (h : laidMetH Tryd.prog laidV W) : ∃ te pe, W.cell? ⟨1, 0, none⟩ = some (.iface te pe) := by
  have hg : Tryd.prog.globalNamed "strconv.ErrRange" = some 1 := by kernel_rfl
  obtain ⟨a, s, hv, _⟩ := laid_sentinel ((met_of h).tail.tail.tail.tail) hg (ti := 67) (by kernel_rfl) Tryd.underlying67 rowE Tryd.underlying128 Tryd.underlying130 rfl rfl Tryd.underlying9 (by kernel_rfl) (by kernel_rfl)
  exact ⟨_, _, by simpa using World.var?_cell hg hv 0⟩
theorem mxl_of {W : World} (h : W.ShapedOpen Tryd.prog) : Mxl W :=
  cell_of_shapedOpen_int (P := Tryd.prog) (g := 3) (t := 3) (zero := #[.int .i64 0]) h (of_decide_eq_true (by kernel_rfl)) (by kernel_rfl) rfl (by kernel_rfl) (by kernel_rfl) Tryd.underlying3
theorem vectorBack_walk (v0 : Value) (D0 : Vc) (w : World) (w0 : VecAt v0 D0) (hL : laidMetH Tryd.prog laidV w) (hS : w.ShapedOpen Tryd.prog) :
    Calls Tryd.prog 5 #[v0] w fun e w' => e = .returned (.bool true) ∧ Below w.heap.size w w' := by
  have hw := w0
  obtain ⟨rfl, hr⟩ := w0
  have hf : ∀ k, k < 8 → -9223372036854775808 ≤ D0 k ∧ D0 k ≤ 9223372036854775807 := fun k hk => by
    have h := hr k hk
    simp [Lit.wf, IntKind.min, IntKind.max, IntKind.signed, IntKind.bits] at h
    omega
  exact (vectorBack_any D0 hf w (tab_of hL) ⟨ErrSyntax_of hL, ErrRange_of hL⟩ (mxl_of hS)).mono fun _ _ ⟨h1, h2⟩ => ⟨h1, h2.below⟩
end Go.Proofs.YthkmocfdpmlllabDoor
