/- Regions that draw their order and only read; vectors as values, and their equality. No statement is proved here. -/
import Derived.Test.YtoefffjhjmjhfaaGreatProg
import Derived.Test.YtoefffjhjmjhfaaGreatPkBase
import Derived.WalkKit
import Derived.ProofKit
import Derived.StillTailTactics
import Derived.BigQuiet
import Derived.ChangeKeysEq
import Derived.Laws.StructEq
import Derived.Deep.RegionHeld3
import Derived.Test.YtoefffjhjmjhfaaGreatWLast
namespace Go.Proofs.YtoefffjhjmjhfaaGreat
open Go.RowKit

/-! A region that draws its order, whose operations only read and whose callees write to nothing that was there: one walk, in the order of the text. -/
section
variable {P : Program} {ops : Array Oper} {C : World → Prop} {Q : Act → Prop} {o : Oper} {rest : List Oper} {a : Act}
theorem q_start {id : Nat} {Q : Exit → Act → World → Prop} {w : World} {l : List Oper} (hm : P.follows .mixedOrders = true) (hB : Region.lexB .any l.toArray = true)
    (h : wpQuiet P l.toArray (Chg NoB w) (fun a' => ∀ w', Chg NoB w w' → Q .normal a' w') l a) : (Code.region id l.toArray true).wp P Q a w :=
  wp_region_quiet (C := Chg NoB w) hm hB ((Chg.refl NoB w).drew) (by simpa using h)
theorem q_norm {l : List Oper} {a' : Act} (ha : a = a') (h : wpQuiet P ops C Q l a') : wpQuiet P ops C Q l a := by subst ha; exact h
theorem q_off (hw : Region.wanted o (yielded ops a.tmps) = false) (h : wpQuiet P ops C Q rest (a.put o.dst undef)) : wpQuiet P ops C Q (o :: rest) a := by
  unfold wpQuiet
  rw [hw]
  exact h
theorem q_on {v : Value} (hw : Region.wanted o (yielded ops a.tmps) = true) (h1 : ∀ w', C w' → (execOp a.eval o).run P w' = .ok (.value v) w') (h2 : wpQuiet P ops C Q rest (a.put o.dst v)) : wpQuiet P ops C Q (o :: rest) a := by
  unfold wpQuiet
  rw [if_pos hw]
  refine ⟨v, fun w' hC => ?_, h2⟩
  unfold Oper.quietAt
  rw [h1 w' hC]
  exact ⟨rfl, rfl⟩
theorem q_call {f : FuncId} {fn : Func} {aa : Array Operand} {ts : Array TypeId} (hf : P.funcs[f]? = some fn) (hname : (fn.name == "runtime.NumGoroutine") = false) (hb : fn.body.isSome = true) (args : Array Value)
    (hw : Region.wanted o (yielded ops a.tmps) = true) (hop : o.op = .call { callee := .value (.func f), args := aa, argTypes := ts }) (hargs : aa.map a.eval = args) (v : Value) (hc : ∀ w', C w' → Calls P f args w' fun e w'' => e = .returned v ∧ C w'')
    (h : wpQuiet P ops C Q rest (a.put o.dst v)) : wpQuiet P ops C Q (o :: rest) a := by
  unfold wpQuiet
  rw [if_pos hw]
  refine ⟨v, fun w' hC => ?_, h⟩
  have he := YtoefffjhjmjhfaaGreatW.PrintLast.enters_ hf hname hb args w'
  have hrun : (execOp a.eval o).run P w' = .ok (.enter f args) w' := by
    unfold execOp
    simp [hop, resolve, Deferred.ofValue, invoke, Act.eval, hargs, he]
  unfold Oper.quietAt
  rw [hrun]
  exact ⟨rfl, hc w' hC⟩
/-- A callee's frame. -/
theorem q_of {f : FuncId} {args : Array Value} {w w0 : World} {v : Value} (hC : Chg NoB w0 w) (h : Calls P f args w fun e w' => e = .returned v ∧ Chg NoB w w') : Calls P f args w fun e w' => e = .returned v ∧ Chg NoB w0 w' :=
  h.mono fun _ _ ⟨h1, h2⟩ => ⟨h1, hC.trans h2⟩
end
/-- A region in the order of the text, from some operation on: the same walk. -/
theorem q_list {P : Program} {ops : Array Oper} {Q : Exit → Act → World → Prop} {w0 : World} : ∀ (l : List Oper) (a : Act) (w : World), Chg NoB w0 w → wpQuiet P ops (Chg NoB w0) (fun a' => ∀ w', Chg NoB w0 w' → Q .normal a' w') l a → wpList P ops Q l a w
  | [], _, w, hC, h => h w hC
  | o :: rest, a, w, hC, h => by
    unfold wpList
    unfold wpQuiet at h
    by_cases hw : Region.wanted o (yielded ops a.tmps) = true
    · rw [if_pos hw] at h ⊢
      exact .inl (Oper.wp_of_quiet (C := Chg NoB w0) hC (fun a' w' hC' hk => q_list rest a' w' hC' hk) h)
    · rw [if_neg hw] at h ⊢
      exact q_list rest _ w hC h
theorem q_start2 {P : Program} {id : Nat} {Q : Exit → Act → World → Prop} {a : Act} {w : World} {l : List Oper} (R : Act → Prop) (hm : P.follows .mixedOrders = true) (hB : Region.lexB .any l.toArray = true)
    (h : wpQuiet P l.toArray (Chg NoB w) R l a) (k : ∀ a' w', R a' → Chg NoB w w' → Q .normal a' w') : (Code.region id l.toArray true).wp P Q a w :=
  wp_region_quiet (C := Chg NoB w) hm hB ((Chg.refl NoB w).drew) (by
    have hmono : ∀ (l' : List Oper) (a : Act), wpQuiet P l.toArray (Chg NoB w) R l' a → wpQuiet P l.toArray (Chg NoB w) (fun a' => ∀ w', Chg NoB w w' → Q .normal a' w') l' a := by
      intro l'
      induction l' with
      | nil => exact fun a h w' hC => k a w' h hC
      | cons o rest ih =>
        intro a h
        unfold wpQuiet at h ⊢
        split at h
        · next hw => rw [if_pos hw]; exact Oper.quiet_mono ih h
        · next hw => rw [if_neg hw]; exact ih _ h
    simpa using hmono l a h)

attribute [local go_sem] max2_mx max_two_

abbrev Vc := Nat → Int
abbrev va (f : Vc) : Array Value := #[.int .i64 (f 0), .int .i64 (f 1), .int .i64 (f 2), .int .i64 (f 3), .int .i64 (f 4), .int .i64 (f 5), .int .i64 (f 6), .int .i64 (f 7)]
abbrev vec (f : Vc) : Value := .agg (va f)
theorem va_get (f : Vc) {k : Nat} (h : k < 8) : (va f)[k]? = some (.int .i64 (f k)) := by
  match k, h with
  | 0, _ => rfl
  | 1, _ => rfl
  | 2, _ => rfl
  | 3, _ => rfl
  | 4, _ => rfl
  | 5, _ => rfl
  | 6, _ => rfl
  | 7, _ => rfl
def upd (f : Vc) (k : Nat) (x : Int) : Vc := fun i => if i = k then x else f i
theorem va_set (f : Vc) {k : Nat} (h : k < 8) (x : Int) : (va f).setIfInBounds k (.int .i64 x) = va (upd f k x) := by
  match k, h with
  | 0, _ => rfl
  | 1, _ => rfl
  | 2, _ => rfl
  | 3, _ => rfl
  | 4, _ => rfl
  | 5, _ => rfl
  | 6, _ => rfl
  | 7, _ => rfl
theorem va_congr {f g : Vc} (h : ∀ k, k < 8 → f k = g k) : va f = va g := by
  simp only [va, h 0 (by decide), h 1 (by decide), h 2 (by decide), h 3 (by decide), h 4 (by decide), h 5 (by decide), h 6 (by decide), h 7 (by decide)]
/-- Two vectors are one. -/
def veq (f g : Vc) : Bool := f 0 == g 0 && (f 1 == g 1 && (f 2 == g 2 && (f 3 == g 3 && (f 4 == g 4 && (f 5 == g 5 && (f 6 == g 6 && f 7 == g 7))))))
theorem veq_iff {f g : Vc} : veq f g = true ↔ ∀ k, k < 8 → f k = g k := by
  simp only [veq, Bool.and_eq_true, beq_iff_eq]
  constructor
  · rintro ⟨h0, h1, h2, h3, h4, h5, h6, h7⟩ k hk
    match k, hk with
    | 0, _ => exact h0
    | 1, _ => exact h1
    | 2, _ => exact h2
    | 3, _ => exact h3
    | 4, _ => exact h4
    | 5, _ => exact h5
    | 6, _ => exact h6
    | 7, _ => exact h7
  · exact fun h => ⟨h 0 (by decide), h 1 (by decide), h 2 (by decide), h 3 (by decide), h 4 (by decide), h 5 (by decide), h 6 (by decide), h 7 (by decide)⟩
theorem Tryz.inf2 : (Tryz.prog.info? 2).isSome = true := by kernel_rfl
theorem Tryz.inf46 : (Tryz.prog.info? 46).map (·.size) = some 8 := by kernel_rfl
theorem eqItem (d : Nat) (a b : Int) (w : World) : (Op.equalIn (d + 1) 2 (.int .i64 a) (.int .i64 b)).run Tryz.prog w = .ok (a == b) w := run_equalIn_int w d 2 .i64 .i64 a b Tryz.underlying2
theorem eqItems_step {P : Program} {d : Nat} {e : TypeId} {n j : Nat} {xs ys : Array Value} {is : List Nat} {a b : Value} {r s : Bool} {w : World} (ha : (part e xs (j * n)).run P w = .ok a w) (hb : (part e ys (j * n)).run P w = .ok b w)
    (he : (Op.equalIn d e a b).run P w = .ok r w) (hr : (Op.eqItems d e n xs ys is).run P w = .ok s w) : (Op.eqItems d e n xs ys (j :: is)).run P w = .ok (r && s) w := by
  simp only [Op.eqItems, Sem.run_bind, ha, hb, he, Result.andThen_ok]
  cases r
  · simp
  · simpa using hr
theorem part0 (f : Vc) (w : World) : (part 2 (va f) (0 * 1)).run Tryz.prog w = .ok (.int .i64 (f 0)) w := by kernel_rfl
theorem part1 (f : Vc) (w : World) : (part 2 (va f) (1 * 1)).run Tryz.prog w = .ok (.int .i64 (f 1)) w := by kernel_rfl
theorem part2 (f : Vc) (w : World) : (part 2 (va f) (2 * 1)).run Tryz.prog w = .ok (.int .i64 (f 2)) w := by kernel_rfl
theorem part3 (f : Vc) (w : World) : (part 2 (va f) (3 * 1)).run Tryz.prog w = .ok (.int .i64 (f 3)) w := by kernel_rfl
theorem part4 (f : Vc) (w : World) : (part 2 (va f) (4 * 1)).run Tryz.prog w = .ok (.int .i64 (f 4)) w := by kernel_rfl
theorem part5 (f : Vc) (w : World) : (part 2 (va f) (5 * 1)).run Tryz.prog w = .ok (.int .i64 (f 5)) w := by kernel_rfl
theorem part6 (f : Vc) (w : World) : (part 2 (va f) (6 * 1)).run Tryz.prog w = .ok (.int .i64 (f 6)) w := by kernel_rfl
theorem part7 (f : Vc) (w : World) : (part 2 (va f) (7 * 1)).run Tryz.prog w = .ok (.int .i64 (f 7)) w := by kernel_rfl
theorem eq_vec (d : Nat) (f g : Vc) (w : World) : (Op.equalIn (d + 1 + 1) 46 (vec f) (vec g)).run Tryz.prog w = .ok (veq f g) w := by
  obtain ⟨i, hi⟩ := Option.isSome_iff_exists.1 Tryz.inf2
  rw [run_equalIn_array w (d + 1) _ _ Tryz.underlying46 hi]
  have hc : Tryz.prog.cellsOf 2 = 1 := by kernel_rfl
  rw [hc, veq, ← Bool.and_true (f 7 == g 7)]
  have hp : ∀ (f : Vc) (k : Nat), k < 8 → (part 2 (va f) (k * 1)).run Tryz.prog w = .ok (.int .i64 (f k)) w := by
    intro f k hk
    match k, hk with
    | 0, _ => exact part0 f w
    | 1, _ => exact part1 f w
    | 2, _ => exact part2 f w
    | 3, _ => exact part3 f w
    | 4, _ => exact part4 f w
    | 5, _ => exact part5 f w
    | 6, _ => exact part6 f w
    | 7, _ => exact part7 f w
  exact eqItems_step (hp f 0 (by decide)) (hp g 0 (by decide)) (eqItem d _ _ w) (eqItems_step (hp f 1 (by decide)) (hp g 1 (by decide)) (eqItem d _ _ w) (eqItems_step (hp f 2 (by decide)) (hp g 2 (by decide)) (eqItem d _ _ w) (eqItems_step (hp f 3 (by decide)) (hp g 3 (by decide)) (eqItem d _ _ w)
    (eqItems_step (hp f 4 (by decide)) (hp g 4 (by decide)) (eqItem d _ _ w) (eqItems_step (hp f 5 (by decide)) (hp g 5 (by decide)) (eqItem d _ _ w) (eqItems_step (hp f 6 (by decide)) (hp g 6 (by decide)) (eqItem d _ _ w) (eqItems_step (hp f 7 (by decide)) (hp g 7 (by decide)) (eqItem d _ _ w) (by simp [Op.eqItems]))))))))
end Go.Proofs.YtoefffjhjmjhfaaGreat
