/- Contracts of package tally, function by function: a counter with an end, in one goroutine. No statement is proved here. -/
import Derived.Test.YtoefffjhjmjhfaaGreatRows
import Derived.Test.YtoefffjhjmjhfaaGreatPkBase
import Derived.WalkKit
import Derived.Laws.LoneSync
import Derived.Deep.QuietTactic
import Derived.BigQuiet
namespace Go.Proofs.YtoefffjhjmjhfaaGreat
open Go.RowKit
set_option maxRecDepth 100000

/-- Block g is a counter: what it is, its end. -/
structure TA (w : World) (g : Nat) (now most : Int) : Prop where
  blk : Blk w g 213 #[.int .i64 now, .int .i64 most]
  lo : 0 ≤ now
  hi : now ≤ most
  top : most ≤ 9223372036854775807

theorem TA.chg {w w' : World} {g : Nat} {now most : Int} {S : Nat → Prop} (h : TA w g now most) (hc : Chg S w w') (hn : ¬ S g) : TA w' g now most := ⟨h.blk.chg hc hn, h.lo, h.hi, h.top⟩
theorem TA.set_ {w : World} {g : Nat} {now most : Int} (h : TA w g now most) {x : Int} (h0 : 0 ≤ x) (h1 : x ≤ most) : TA (w.setCell ⟨g, 0, none⟩ (.int .i64 x)) g x most := ⟨h.blk.set_ 0 _, h0, h1, h.top⟩

/-- sync/atomic.SwapInt64: the number is stored, the old one handed back. -/
theorem run_call_swap {P : Program} {f : FuncId} {fn : Func} (hf : P.funcs[f]? = some fn) (hname : (fn.name == "runtime.NumGoroutine") = false) (hb : fn.body.isNone = true) (hn : Extern.findNext fn = none) (k : IntKind)
    (he : Extern.find fn = some (Extern.Atomic.swapT (.int k))) {a : Addr} {x y : Int} {w : World} (hc : w.cell? a = some (.int k x)) (hz : w.frozen? a = false) :
    (callFunc f #[.pointer (some a), .int k y]).run P w = .ok (.value (.int k x)) (w.setCell a (.int k y)) := by
  rw [run_callFunc_extern hf hname hb hn he]
  change (Sem.run P (do
    let a' ← asAddr (.pointer (some a))
    let old ← Extern.Atomic.read (.int k) a'
    store a' (.int k y) .atomic
    pure old) w).andThen _ = _
  simp [Extern.Atomic.read, asAddr, hc, hz, run_store P w a (.int k y) .atomic rfl, Result.andThen]

def mx0 (n : Int) : Int := if 0 < n then n else 0

theorem tally_new (n : Int) (w : World) (hn : n ≤ 9223372036854775807) : Calls Tryz.prog 46 #[.int .i64 n] w fun e w' => e = .returned (.pointer (some ⟨w.heap.size, 0, none⟩)) ∧ TA w' w.heap.size 0 (mx0 n) ∧ Chg NoB w w' := by
  by_cases h : 0 < n
  · have e : mx0 n = n := by simp [mx0, h]
    rw [e]
    go_enter Tryz.func46, Tryz.ntmps46
    go_wp2
    go_ret
    exact ⟨rfl, ⟨Blk.new _ _ _, by omega, by omega, hn⟩, (Chg.refl _ _).alloc _⟩
  · have e : mx0 n = 0 := by simp [mx0, h]
    have h' : n ≤ 0 := by omega
    rw [e]
    go_enter Tryz.func46, Tryz.ntmps46
    go_wp2
    go_ret
    exact ⟨rfl, ⟨Blk.new _ _ _, by omega, by omega, by omega⟩, (Chg.refl _ _).alloc _⟩

theorem load_any (g i : Nat) (v : Int) (w : World) (h : w.cell? ⟨g, i, none⟩ = some (.int .i64 v)) :
    Calls Tryz.prog 170 #[.pointer (some ⟨g, i, none⟩)] w fun e w' => e = .returned (.int .i64 v) ∧ w' = w := by
  have hl := run_call_load (P := Tryz.prog) Tryz.func223 (by kernel_rfl) (by kernel_rfl) (by kernel_rfl) .i64 (by kernel_rfl) h
  go_enter Tryz.func170, Tryz.ntmps170
  go_wp2
  go_ret
  exact ⟨rfl, rfl⟩
theorem cas_any (g i : Nat) (v u : Int) (w : World) (h : w.cell? ⟨g, i, none⟩ = some (.int .i64 v)) (hf : w.frozen? ⟨g, i, none⟩ = false) :
    Calls Tryz.prog 171 #[.pointer (some ⟨g, i, none⟩), .int .i64 v, .int .i64 u] w fun e w' => e = .returned (.bool true) ∧ w' = w.setCell ⟨g, i, none⟩ (.int .i64 u) := by
  have hl := run_call_cas_hit (P := Tryz.prog) Tryz.func224 (by kernel_rfl) (by kernel_rfl) (by kernel_rfl) .i64 (by kernel_rfl) (y := u) h hf
  go_enter Tryz.func171, Tryz.ntmps171
  go_wp2
  go_ret
  exact ⟨rfl, rfl⟩

theorem turn_yes (K : Nat) (cap : Array Value) (now next most : Int) (g : Nat) (w : World) (hT : Blk w g 213 #[.int .i64 now, .int .i64 most])
    (hK : ∀ w, (callFunc K (#[.int .i64 now] ++ cap)).run Tryz.prog w = .ok (.enter K (#[.int .i64 now] ++ cap)) w)
    (hc : Calls Tryz.prog K (#[.int .i64 now] ++ cap) w fun e w' => e = .returned (.tuple #[.int .i64 next, .bool true]) ∧ ∃ k, w' = w.drewN k) :
    Calls Tryz.prog 105 #[.pointer (some ⟨g, 0, none⟩), .func (.func K) #[] cap] w fun e w' => e = .returned (.tuple #[.int .i64 next, .bool true]) ∧ ∃ k, w' = (w.drewN k).setCell ⟨g, 0, none⟩ (.int .i64 next) := by
  have c0 := hT.cell 0
  have f0 := hT.frozen 0
  have HC := Lib.hid hc
  have HK := Lib.hid hK
  clear hc hT hK
  go_enter Tryz.func105, Tryz.ntmps105
  go_wp2_with fail
  refine wp_loop_rounds 1 ?_
  rw [rounds_succ]
  go_wp2_with (first | (go_at_call 170; refine (load_any _ _ _ _ (by assumption)).mono ?_; rintro e w' ⟨rfl, rfl⟩))
  rw [HK.out, Oper.upon_enter]
  refine HC.out.mono ?_
  rintro e w1 ⟨rfl, k, rfl⟩
  go_wp2_with (first | (go_at_call 171; refine (cas_any _ _ _ _ _ (by assumption) (by assumption)).mono ?_; rintro e w' ⟨rfl, rfl⟩))
  go_ret2
  exact ⟨rfl, k, rfl⟩
theorem turn_no (K : Nat) (cap : Array Value) (now next most : Int) (g : Nat) (w : World) (hT : Blk w g 213 #[.int .i64 now, .int .i64 most])
    (hK : ∀ w, (callFunc K (#[.int .i64 now] ++ cap)).run Tryz.prog w = .ok (.enter K (#[.int .i64 now] ++ cap)) w)
    (hc : Calls Tryz.prog K (#[.int .i64 now] ++ cap) w fun e w' => e = .returned (.tuple #[.int .i64 next, .bool false]) ∧ ∃ k, w' = w.drewN k) :
    Calls Tryz.prog 105 #[.pointer (some ⟨g, 0, none⟩), .func (.func K) #[] cap] w fun e w' => e = .returned (.tuple #[.int .i64 now, .bool false]) ∧ ∃ k, w' = w.drewN k := by
  have c0 := hT.cell 0
  have f0 := hT.frozen 0
  have HC := Lib.hid hc
  have HK := Lib.hid hK
  clear hc hT hK
  go_enter Tryz.func105, Tryz.ntmps105
  go_wp2_with fail
  refine wp_loop_rounds 1 ?_
  rw [rounds_succ]
  go_wp2_with (first | (go_at_call 170; refine (load_any _ _ _ _ (by assumption)).mono ?_; rintro e w' ⟨rfl, rfl⟩))
  rw [HK.out, Oper.upon_enter]
  refine HC.out.mono ?_
  rintro e w1 ⟨rfl, k, rfl⟩
  go_wp2_with fail
  go_ret2
  exact ⟨rfl, k, rfl⟩

theorem add_lit_yes (now most n : Int) (g bn bt : Nat) (w : World) (h0 : 0 ≤ now) (h1 : now ≤ most) (h2 : most ≤ 9223372036854775807) (a : 0 ≤ n) (b : n ≤ most - now)
    (hn : w.cell? ⟨bn, 0, none⟩ = some (.int .i64 n)) (ht : w.cell? ⟨bt, 0, none⟩ = some (.pointer (some ⟨g, 0, none⟩))) (hm : w.cell? ⟨g, 1, none⟩ = some (.int .i64 most)) :
    Calls Tryz.prog 111 #[.int .i64 now, .pointer (some ⟨bn, 0, none⟩), .pointer (some ⟨bt, 0, none⟩)] w fun e w' => e = .returned (.tuple #[.int .i64 (now + n), .bool true]) ∧ ∃ k, w' = w.drewN k := by
  have a' : decide (n < 0) = false := by simpa using a
  go_enter Tryz.func111, Tryz.ntmps111
  go_wp2
  go_quiet (fail)
  go_wp2
  go_ret2
  exact ⟨rfl, _, rfl⟩
theorem add_lit_no (now most n : Int) (g bn bt : Nat) (w : World) (h0 : 0 ≤ now) (h1 : now ≤ most) (h2 : most ≤ 9223372036854775807) (a : ¬ (0 ≤ n ∧ n ≤ most - now))
    (hn : w.cell? ⟨bn, 0, none⟩ = some (.int .i64 n)) (ht : w.cell? ⟨bt, 0, none⟩ = some (.pointer (some ⟨g, 0, none⟩))) (hm : w.cell? ⟨g, 1, none⟩ = some (.int .i64 most)) :
    Calls Tryz.prog 111 #[.int .i64 now, .pointer (some ⟨bn, 0, none⟩), .pointer (some ⟨bt, 0, none⟩)] w fun e w' => e = .returned (.tuple #[.int .i64 0, .bool false]) ∧ ∃ k, w' = w.drewN k := by
  by_cases c : n < 0
  · clear a
    go_enter Tryz.func111, Tryz.ntmps111
    go_wp2
    go_quiet (fail)
    go_wp2
    go_ret2
    exact ⟨rfl, _, rfl⟩
  · have a' : decide (n < 0) = false := by simpa using c
    have b : most - now < n := by omega
    clear a
    go_enter Tryz.func111, Tryz.ntmps111
    go_wp2
    go_quiet (fail)
    go_wp2
    go_ret2
    exact ⟨rfl, _, rfl⟩

theorem take_lit (now n x : Int) (b : Bool) (bn : Nat) (w : World) (h0 : 0 ≤ now) (h2 : now ≤ 9223372036854775807) (hx : 0 ≤ n ∧ n ≤ now → x = now - n ∧ b = true) (hb : ¬ (0 ≤ n ∧ n ≤ now) → x = wrap64 (now - n) ∧ b = false)
    (hn : w.cell? ⟨bn, 0, none⟩ = some (.int .i64 n)) :
    Calls Tryz.prog 186 #[.int .i64 now, .pointer (some ⟨bn, 0, none⟩)] w fun e w' => e = .returned (.tuple #[.int .i64 x, .bool b]) ∧ ∃ k, w' = w.drewN k := by
  by_cases c : 0 ≤ n
  · have c' : decide (0 ≤ n) = true := by simpa using c
    by_cases d : n ≤ now
    · obtain ⟨rfl, rfl⟩ := hx ⟨c, d⟩
      clear hx hb
      go_enter Tryz.func186, Tryz.ntmps186
      go_wp2
      go_quiet (fail)
      go_wp2
      go_ret2
      exact ⟨rfl, _, rfl⟩
    · obtain ⟨rfl, rfl⟩ := hb (by omega)
      have d' : decide (n ≤ now) = false := by simpa using d
      clear hx hb d
      go_enter Tryz.func186, Tryz.ntmps186
      go_wp2
      go_quiet (fail)
      go_wp2
      go_ret2
      exact ⟨rfl, _, rfl⟩
  · obtain ⟨rfl, rfl⟩ := hb (by omega)
    have c' : decide (0 ≤ n) = false := by simpa using c
    clear hx hb
    go_enter Tryz.func186, Tryz.ntmps186
    go_wp2
    go_quiet (fail)
    go_wp2
    go_ret2
    exact ⟨rfl, _, rfl⟩

theorem raise_lit_yes (now most n : Int) (g bn bt : Nat) (w : World) (a : now < n) (b : n ≤ most)
    (hn : w.cell? ⟨bn, 0, none⟩ = some (.int .i64 n)) (ht : w.cell? ⟨bt, 0, none⟩ = some (.pointer (some ⟨g, 0, none⟩))) (hm : w.cell? ⟨g, 1, none⟩ = some (.int .i64 most)) :
    Calls Tryz.prog 106 #[.int .i64 now, .pointer (some ⟨bn, 0, none⟩), .pointer (some ⟨bt, 0, none⟩)] w fun e w' => e = .returned (.tuple #[.int .i64 n, .bool true]) ∧ ∃ k, w' = w.drewN k := by
  have a' : decide (now < n) = true := by simpa using a
  have b' : decide (n ≤ most) = true := by simpa using b
  clear a b
  go_enter Tryz.func106, Tryz.ntmps106
  go_wp2
  go_quiet (fail)
  go_wp2
  go_ret2
  exact ⟨rfl, _, rfl⟩
theorem raise_lit_no (now most n : Int) (g bn bt : Nat) (w : World) (a : ¬ (now < n ∧ n ≤ most))
    (hn : w.cell? ⟨bn, 0, none⟩ = some (.int .i64 n)) (ht : w.cell? ⟨bt, 0, none⟩ = some (.pointer (some ⟨g, 0, none⟩))) (hm : w.cell? ⟨g, 1, none⟩ = some (.int .i64 most)) :
    Calls Tryz.prog 106 #[.int .i64 now, .pointer (some ⟨bn, 0, none⟩), .pointer (some ⟨bt, 0, none⟩)] w fun e w' => e = .returned (.tuple #[.int .i64 n, .bool false]) ∧ ∃ k, w' = w.drewN k := by
  by_cases c : now < n
  · have a' : decide (now < n) = true := by simpa using c
    have b' : decide (n ≤ most) = false := by simp; omega
    clear a c
    go_enter Tryz.func106, Tryz.ntmps106
    go_wp2
    go_quiet (fail)
    go_wp2
    go_ret2
    exact ⟨rfl, _, rfl⟩
  · have a' : decide (now < n) = false := by simpa using c
    clear a c
    go_enter Tryz.func106, Tryz.ntmps106
    go_wp2
    go_quiet (fail)
    go_wp2
    go_ret2
    exact ⟨rfl, _, rfl⟩

theorem enter_add (a b c : Value) (w : World) : (callFunc 111 (#[a] ++ #[b, c])).run Tryz.prog w = .ok (.enter 111 (#[a] ++ #[b, c])) w := by kernel_rfl
theorem enter_take (a b : Value) (w : World) : (callFunc 186 (#[a] ++ #[b])).run Tryz.prog w = .ok (.enter 186 (#[a] ++ #[b])) w := by kernel_rfl
theorem enter_raise (a b c : Value) (w : World) : (callFunc 106 (#[a] ++ #[b, c])).run Tryz.prog w = .ok (.enter 106 (#[a] ++ #[b, c])) w := by kernel_rfl

/-- What a counter's change comes to. -/
structure Turned (w : World) (g : Nat) (now most : Int) (v : Value) (e : Ending) (w' : World) : Prop where
  end_ : e = .returned v
  at_ : TA w' g now most
  chg : Chg (Only g) w w'


theorem tally_add_yes {w : World} {g : Nat} {now most : Int} (hT : TA w g now most) (n : Int) (a : 0 ≤ n) (b : n ≤ most - now) :
    Calls Tryz.prog 54 #[.pointer (some ⟨g, 0, none⟩), .int .i64 n] w (Turned w g (now + n) most (.tuple #[.int .i64 (now + n), .bool true])) := by
  obtain ⟨hB, h0, h1, h2⟩ := hT
  have hlt := hB.lt
  have HB := Lib.hid hB
  clear hB
  go_enter Tryz.func54, Tryz.ntmps54
  go_wp2_with fail
  refine (turn_yes _ _ now (now + n) most g _ ((HB.out.alloc _).alloc _) (enter_add _ _ _) (add_lit_yes now most n g _ _ _ h0 h1 h2 a b ?_ ?_ ?_)).mono ?_
  · exact (Blk.new_ _ _ _ (by simp)).cell 0
  · exact ((Blk.new_ w 123 _ rfl).alloc _).cell 0
  · exact ((HB.out.alloc _).alloc _).cell 1
  rintro e w' ⟨rfl, k, rfl⟩
  go_wp2_with fail
  go_ret2
  exact ⟨rfl, ⟨(((HB.out.alloc _).alloc _).drewN k).set_ 0 _, by omega, by omega, h2⟩, ((((Chg.refl (Only g) w).alloc _).alloc _).drewN k).setOwn _ _⟩
theorem tally_add_no {w : World} {g : Nat} {now most : Int} (hT : TA w g now most) (n : Int) (a : ¬ (0 ≤ n ∧ n ≤ most - now)) :
    Calls Tryz.prog 54 #[.pointer (some ⟨g, 0, none⟩), .int .i64 n] w (Turned w g now most (.tuple #[.int .i64 now, .bool false])) := by
  obtain ⟨hB, h0, h1, h2⟩ := hT
  have hlt := hB.lt
  have HB := Lib.hid hB
  have HA := Lib.hid a
  clear hB a
  go_enter Tryz.func54, Tryz.ntmps54
  go_wp2_with fail
  refine (turn_no _ _ now 0 most g _ ((HB.out.alloc _).alloc _) (enter_add _ _ _) (add_lit_no now most n g _ _ _ h0 h1 h2 HA.out ?_ ?_ ?_)).mono ?_
  · exact (Blk.new_ _ _ _ (by simp)).cell 0
  · exact ((Blk.new_ w 123 _ rfl).alloc _).cell 0
  · exact ((HB.out.alloc _).alloc _).cell 1
  rintro e w' ⟨rfl, k, rfl⟩
  go_wp2_with fail
  go_ret2
  exact ⟨rfl, ⟨((HB.out.alloc _).alloc _).drewN k, by omega, by omega, h2⟩, (((Chg.refl (Only g) w).alloc _).alloc _).drewN k⟩
theorem tally_take_yes {w : World} {g : Nat} {now most : Int} (hT : TA w g now most) (n : Int) (a : 0 ≤ n) (b : n ≤ now) :
    Calls Tryz.prog 129 #[.pointer (some ⟨g, 0, none⟩), .int .i64 n] w (Turned w g (now - n) most (.bool true)) := by
  obtain ⟨hB, h0, h1, h2⟩ := hT
  have hlt := hB.lt
  have HB := Lib.hid hB
  clear hB
  go_enter Tryz.func129, Tryz.ntmps129
  go_wp2_with fail
  refine (turn_yes _ _ now (now - n) most g _ (HB.out.alloc _) (enter_take _ _) (take_lit now n _ _ _ _ h0 (by omega) (fun _ => ⟨rfl, rfl⟩) (fun h => absurd ⟨a, b⟩ h) ?_)).mono ?_
  · exact (Blk.new_ _ _ _ (by simp)).cell 0
  rintro e w' ⟨rfl, k, rfl⟩
  go_wp2_with fail
  go_ret
  exact ⟨rfl, ⟨((HB.out.alloc _).drewN k).set_ 0 _, by omega, by omega, h2⟩, (((Chg.refl (Only g) w).alloc _).drewN k).setOwn _ _⟩
theorem tally_take_no {w : World} {g : Nat} {now most : Int} (hT : TA w g now most) (n : Int) (a : ¬ (0 ≤ n ∧ n ≤ now)) :
    Calls Tryz.prog 129 #[.pointer (some ⟨g, 0, none⟩), .int .i64 n] w (Turned w g now most (.bool false)) := by
  obtain ⟨hB, h0, h1, h2⟩ := hT
  have hlt := hB.lt
  have HB := Lib.hid hB
  have HA := Lib.hid a
  clear hB a
  go_enter Tryz.func129, Tryz.ntmps129
  go_wp2_with fail
  refine (turn_no _ _ now (wrap64 (now - n)) most g _ (HB.out.alloc _) (enter_take _ _) (take_lit now n _ _ _ _ h0 (by omega) (fun h => absurd h HA.out) (fun _ => ⟨rfl, rfl⟩) ?_)).mono ?_
  · exact (Blk.new_ _ _ _ (by simp)).cell 0
  rintro e w' ⟨rfl, k, rfl⟩
  go_wp2_with fail
  go_ret
  exact ⟨rfl, ⟨(HB.out.alloc _).drewN k, by omega, by omega, h2⟩, ((Chg.refl (Only g) w).alloc _).drewN k⟩
theorem tally_raise_yes {w : World} {g : Nat} {now most : Int} (hT : TA w g now most) (n : Int) (a : now < n) (b : n ≤ most) :
    Calls Tryz.prog 47 #[.pointer (some ⟨g, 0, none⟩), .int .i64 n] w (Turned w g n most (.bool true)) := by
  obtain ⟨hB, h0, h1, h2⟩ := hT
  have hlt := hB.lt
  have HB := Lib.hid hB
  clear hB
  go_enter Tryz.func47, Tryz.ntmps47
  go_wp2_with fail
  refine (turn_yes _ _ now n most g _ ((HB.out.alloc _).alloc _) (enter_raise _ _ _) (raise_lit_yes now most n g _ _ _ a b ?_ ?_ ?_)).mono ?_
  · exact (Blk.new_ _ _ _ (by simp)).cell 0
  · exact ((Blk.new_ w 123 _ rfl).alloc _).cell 0
  · exact ((HB.out.alloc _).alloc _).cell 1
  rintro e w' ⟨rfl, k, rfl⟩
  go_wp2_with fail
  go_ret
  exact ⟨rfl, ⟨(((HB.out.alloc _).alloc _).drewN k).set_ 0 _, by omega, by omega, h2⟩, ((((Chg.refl (Only g) w).alloc _).alloc _).drewN k).setOwn _ _⟩
theorem tally_raise_no {w : World} {g : Nat} {now most : Int} (hT : TA w g now most) (n : Int) (a : ¬ (now < n ∧ n ≤ most)) :
    Calls Tryz.prog 47 #[.pointer (some ⟨g, 0, none⟩), .int .i64 n] w (Turned w g now most (.bool false)) := by
  obtain ⟨hB, h0, h1, h2⟩ := hT
  have hlt := hB.lt
  have HB := Lib.hid hB
  have HA := Lib.hid a
  clear hB a
  go_enter Tryz.func47, Tryz.ntmps47
  go_wp2_with fail
  refine (turn_no _ _ now n most g _ ((HB.out.alloc _).alloc _) (enter_raise _ _ _) (raise_lit_no now most n g _ _ _ HA.out ?_ ?_ ?_)).mono ?_
  · exact (Blk.new_ _ _ _ (by simp)).cell 0
  · exact ((Blk.new_ w 123 _ rfl).alloc _).cell 0
  · exact ((HB.out.alloc _).alloc _).cell 1
  rintro e w' ⟨rfl, k, rfl⟩
  go_wp2_with fail
  go_ret
  exact ⟨rfl, ⟨((HB.out.alloc _).alloc _).drewN k, by omega, by omega, h2⟩, (((Chg.refl (Only g) w).alloc _).alloc _).drewN k⟩

theorem tally_most {w : World} {g : Nat} {now most : Int} (hT : TA w g now most) :
    Calls Tryz.prog 55 #[.pointer (some ⟨g, 0, none⟩)] w fun e w' => e = .returned (.int .i64 most) ∧ w = w' := by
  have c0 := hT.blk.cell 1
  clear hT
  go_enter Tryz.func55, Tryz.ntmps55
  go_wp2
  go_ret
  exact ⟨rfl, rfl⟩
end Go.Proofs.YtoefffjhjmjhfaaGreat
