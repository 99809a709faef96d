/- Contracts of package tally, function by function: a counter with an end, in one goroutine. No statement is proved here. -/
import Derived.Test.YtcefaohdikongaaRows
import Derived.Test.YtcefaohdikongaaWords
import Derived.WalkKit
import Derived.Laws.LoneSync
import Derived.Deep.QuietTactic
import Derived.BigQuiet
namespace Go.Proofs.Ytcefaohdikongaa
open Go.RowKit

/-- Block g is a counter: what it is, its end. -/
structure TA (w : World) (g : Nat) (now most : Int) : Prop where
  blk : Blk w g 81 #[.int .i64 now, .int .i64 most]
  lo : 0 ≤ now
  hi : now ≤ most
  top : most ≤ 9223372036854775807

theorem TA.chg {w w' : World} {g : Nat} {now most : Int} {S : Nat → Prop} (h : TA w g now most) (hc : Chg S w w') (hn : ¬ S g) : TA w' g now most := ⟨h.blk.chg hc hn, h.lo, h.hi, h.top⟩
theorem TA.set_ {w : World} {g : Nat} {now most : Int} (h : TA w g now most) {x : Int} (h0 : 0 ≤ x) (h1 : x ≤ most) : TA (w.setCell ⟨g, 0, none⟩ (.int .i64 x)) g x most := ⟨h.blk.set_ 0 _, h0, h1, h.top⟩

/-- sync/atomic.SwapInt64: the number is stored, the old one handed back. -/
theorem run_call_swap {P : Program} {f : FuncId} {fn : Func} (hf : P.funcs[f]? = some fn) (hname : (fn.name == "runtime.NumGoroutine") = false) (hb : fn.body.isNone = true) (hn : Extern.findNext fn = none) (k : IntKind)
    (he : Extern.find fn = some (Extern.Atomic.swapT (.int k))) {a : Addr} {x y : Int} {w : World} (hc : w.cell? a = some (.int k x)) (hz : w.frozen? a = false) :
    (callFunc f #[.pointer (some a), .int k y]).run P w = .ok (.value (.int k x)) (w.setCell a (.int k y)) := by
  rw [run_callFunc_extern hf hname hb hn he]
  change (Sem.run P (do
    let a' ← asAddr (.pointer (some a))
    let old ← Extern.Atomic.read (.int k) a'
    store a' (.int k y) .atomic
    pure old) w).andThen _ = _
  simp [Extern.Atomic.read, asAddr, hc, hz, run_store P w a (.int k y) .atomic rfl, Result.andThen]

def mx0 (n : Int) : Int := if 0 < n then n else 0

theorem tally_new (n : Int) (w : World) (hn : n ≤ 9223372036854775807) : Calls Try.prog 23 #[.int .i64 n] w fun e w' => e = .returned (.pointer (some ⟨w.heap.size, 0, none⟩)) ∧ TA w' w.heap.size 0 (mx0 n) ∧ Chg NoB w w' := by
  by_cases h : 0 < n
  · have e : mx0 n = n := by simp [mx0, h]
    rw [e]
    go_enter Try.func23, Try.ntmps23
    go_wp2
    go_ret
    exact ⟨rfl, ⟨Blk.new _ _ _, by omega, by omega, hn⟩, (Chg.refl _ _).alloc _⟩
  · have e : mx0 n = 0 := by simp [mx0, h]
    have h' : n ≤ 0 := by omega
    rw [e]
    go_enter Try.func23, Try.ntmps23
    go_wp2
    go_ret
    exact ⟨rfl, ⟨Blk.new _ _ _, by omega, by omega, by omega⟩, (Chg.refl _ _).alloc _⟩

theorem load_any (g i : Nat) (v : Int) (w : World) (h : w.cell? ⟨g, i, none⟩ = some (.int .i64 v)) :
    Calls Try.prog 39 #[.pointer (some ⟨g, i, none⟩)] w fun e w' => e = .returned (.int .i64 v) ∧ w' = w := by
  have hl := run_call_load (P := Try.prog) Try.func41 (by kernel_rfl) (by kernel_rfl) (by kernel_rfl) .i64 (by kernel_rfl) h
  go_enter Try.func39, Try.ntmps39
  go_wp2
  go_ret
  exact ⟨rfl, rfl⟩
theorem cas_any (g i : Nat) (v u : Int) (w : World) (h : w.cell? ⟨g, i, none⟩ = some (.int .i64 v)) (hf : w.frozen? ⟨g, i, none⟩ = false) :
    Calls Try.prog 40 #[.pointer (some ⟨g, i, none⟩), .int .i64 v, .int .i64 u] w fun e w' => e = .returned (.bool true) ∧ w' = w.setCell ⟨g, i, none⟩ (.int .i64 u) := by
  have hl := run_call_cas_hit (P := Try.prog) Try.func42 (by kernel_rfl) (by kernel_rfl) (by kernel_rfl) .i64 (by kernel_rfl) (y := u) h hf
  go_enter Try.func40, Try.ntmps40
  go_wp2
  go_ret
  exact ⟨rfl, rfl⟩

theorem turn_yes (K : Nat) (cap : Array Value) (now next most : Int) (g : Nat) (w : World) (hT : Blk w g 81 #[.int .i64 now, .int .i64 most])
    (hK : ∀ w, (callFunc K (#[.int .i64 now] ++ cap)).run Try.prog w = .ok (.enter K (#[.int .i64 now] ++ cap)) w)
    (hc : Calls Try.prog K (#[.int .i64 now] ++ cap) w fun e w' => e = .returned (.tuple #[.int .i64 next, .bool true]) ∧ ∃ k, w' = w.drewN k) :
    Calls Try.prog 31 #[.pointer (some ⟨g, 0, none⟩), .func (.func K) #[] cap] w fun e w' => e = .returned (.tuple #[.int .i64 next, .bool true]) ∧ ∃ k, w' = (w.drewN k).setCell ⟨g, 0, none⟩ (.int .i64 next) := by
  have c0 := hT.cell 0
  have f0 := hT.frozen 0
  have HC := Lib.hid hc
  have HK := Lib.hid hK
  clear hc hT hK
  go_enter Try.func31, Try.ntmps31
  go_wp2_with fail
  refine wp_loop_rounds 1 ?_
  rw [rounds_succ]
  go_wp2_with (first | (go_at_call 39; refine (load_any _ _ _ _ (by assumption)).mono ?_; rintro e w' ⟨rfl, rfl⟩))
  rw [HK.out, Oper.upon_enter]
  refine HC.out.mono ?_
  rintro e w1 ⟨rfl, k, rfl⟩
  go_wp2_with (first | (go_at_call 40; refine (cas_any _ _ _ _ _ (by assumption) (by assumption)).mono ?_; rintro e w' ⟨rfl, rfl⟩))
  go_ret2
  exact ⟨rfl, k, rfl⟩
theorem turn_no (K : Nat) (cap : Array Value) (now next most : Int) (g : Nat) (w : World) (hT : Blk w g 81 #[.int .i64 now, .int .i64 most])
    (hK : ∀ w, (callFunc K (#[.int .i64 now] ++ cap)).run Try.prog w = .ok (.enter K (#[.int .i64 now] ++ cap)) w)
    (hc : Calls Try.prog K (#[.int .i64 now] ++ cap) w fun e w' => e = .returned (.tuple #[.int .i64 next, .bool false]) ∧ ∃ k, w' = w.drewN k) :
    Calls Try.prog 31 #[.pointer (some ⟨g, 0, none⟩), .func (.func K) #[] cap] w fun e w' => e = .returned (.tuple #[.int .i64 now, .bool false]) ∧ ∃ k, w' = w.drewN k := by
  have c0 := hT.cell 0
  have f0 := hT.frozen 0
  have HC := Lib.hid hc
  have HK := Lib.hid hK
  clear hc hT hK
  go_enter Try.func31, Try.ntmps31
  go_wp2_with fail
  refine wp_loop_rounds 1 ?_
  rw [rounds_succ]
  go_wp2_with (first | (go_at_call 39; refine (load_any _ _ _ _ (by assumption)).mono ?_; rintro e w' ⟨rfl, rfl⟩))
  rw [HK.out, Oper.upon_enter]
  refine HC.out.mono ?_
  rintro e w1 ⟨rfl, k, rfl⟩
  go_wp2_with fail
  go_ret2
  exact ⟨rfl, k, rfl⟩

theorem add_lit_yes (now most n : Int) (g bn bt : Nat) (w : World) (h0 : 0 ≤ now) (h1 : now ≤ most) (h2 : most ≤ 9223372036854775807) (a : 0 ≤ n) (b : n ≤ most - now)
    (hn : w.cell? ⟨bn, 0, none⟩ = some (.int .i64 n)) (ht : w.cell? ⟨bt, 0, none⟩ = some (.pointer (some ⟨g, 0, none⟩))) (hm : w.cell? ⟨g, 1, none⟩ = some (.int .i64 most)) :
    Calls Try.prog 32 #[.int .i64 now, .pointer (some ⟨bn, 0, none⟩), .pointer (some ⟨bt, 0, none⟩)] w fun e w' => e = .returned (.tuple #[.int .i64 (now + n), .bool true]) ∧ ∃ k, w' = w.drewN k := by
  have a' : decide (n < 0) = false := by simpa using a
  go_enter Try.func32, Try.ntmps32
  go_wp2
  go_quiet (fail)
  go_wp2
  go_ret2
  exact ⟨rfl, _, rfl⟩
theorem add_lit_no (now most n : Int) (g bn bt : Nat) (w : World) (h0 : 0 ≤ now) (h1 : now ≤ most) (h2 : most ≤ 9223372036854775807) (a : ¬ (0 ≤ n ∧ n ≤ most - now))
    (hn : w.cell? ⟨bn, 0, none⟩ = some (.int .i64 n)) (ht : w.cell? ⟨bt, 0, none⟩ = some (.pointer (some ⟨g, 0, none⟩))) (hm : w.cell? ⟨g, 1, none⟩ = some (.int .i64 most)) :
    Calls Try.prog 32 #[.int .i64 now, .pointer (some ⟨bn, 0, none⟩), .pointer (some ⟨bt, 0, none⟩)] w fun e w' => e = .returned (.tuple #[.int .i64 0, .bool false]) ∧ ∃ k, w' = w.drewN k := by
  by_cases c : n < 0
  · clear a
    go_enter Try.func32, Try.ntmps32
    go_wp2
    go_quiet (fail)
    go_wp2
    go_ret2
    exact ⟨rfl, _, rfl⟩
  · have a' : decide (n < 0) = false := by simpa using c
    have b : most - now < n := by omega
    clear a
    go_enter Try.func32, Try.ntmps32
    go_wp2
    go_quiet (fail)
    go_wp2
    go_ret2
    exact ⟨rfl, _, rfl⟩



theorem enter_add (a b c : Value) (w : World) : (callFunc 32 (#[a] ++ #[b, c])).run Try.prog w = .ok (.enter 32 (#[a] ++ #[b, c])) w := by kernel_rfl

/-- What a counter's change comes to. -/
structure Turned (w : World) (g : Nat) (now most : Int) (v : Value) (e : Ending) (w' : World) : Prop where
  end_ : e = .returned v
  at_ : TA w' g now most
  chg : Chg (Only g) w w'


theorem tally_add_yes {w : World} {g : Nat} {now most : Int} (hT : TA w g now most) (n : Int) (a : 0 ≤ n) (b : n ≤ most - now) :
    Calls Try.prog 24 #[.pointer (some ⟨g, 0, none⟩), .int .i64 n] w (Turned w g (now + n) most (.tuple #[.int .i64 (now + n), .bool true])) := by
  obtain ⟨hB, h0, h1, h2⟩ := hT
  have hlt := hB.lt
  have HB := Lib.hid hB
  clear hB
  go_enter Try.func24, Try.ntmps24
  go_wp2_with fail
  refine (turn_yes _ _ now (now + n) most g _ ((HB.out.alloc _).alloc _) (enter_add _ _ _) (add_lit_yes now most n g _ _ _ h0 h1 h2 a b ?_ ?_ ?_)).mono ?_
  · exact (Blk.new_ _ _ _ (by simp)).cell 0
  · exact ((Blk.new_ w 58 _ rfl).alloc _).cell 0
  · exact ((HB.out.alloc _).alloc _).cell 1
  rintro e w' ⟨rfl, k, rfl⟩
  go_wp2_with fail
  go_ret2
  exact ⟨rfl, ⟨(((HB.out.alloc _).alloc _).drewN k).set_ 0 _, by omega, by omega, h2⟩, ((((Chg.refl (Only g) w).alloc _).alloc _).drewN k).setOwn _ _⟩
theorem tally_add_no {w : World} {g : Nat} {now most : Int} (hT : TA w g now most) (n : Int) (a : ¬ (0 ≤ n ∧ n ≤ most - now)) :
    Calls Try.prog 24 #[.pointer (some ⟨g, 0, none⟩), .int .i64 n] w (Turned w g now most (.tuple #[.int .i64 now, .bool false])) := by
  obtain ⟨hB, h0, h1, h2⟩ := hT
  have hlt := hB.lt
  have HB := Lib.hid hB
  have HA := Lib.hid a
  clear hB a
  go_enter Try.func24, Try.ntmps24
  go_wp2_with fail
  refine (turn_no _ _ now 0 most g _ ((HB.out.alloc _).alloc _) (enter_add _ _ _) (add_lit_no now most n g _ _ _ h0 h1 h2 HA.out ?_ ?_ ?_)).mono ?_
  · exact (Blk.new_ _ _ _ (by simp)).cell 0
  · exact ((Blk.new_ w 58 _ rfl).alloc _).cell 0
  · exact ((HB.out.alloc _).alloc _).cell 1
  rintro e w' ⟨rfl, k, rfl⟩
  go_wp2_with fail
  go_ret2
  exact ⟨rfl, ⟨((HB.out.alloc _).alloc _).drewN k, by omega, by omega, h2⟩, (((Chg.refl (Only g) w).alloc _).alloc _).drewN k⟩

theorem tally_now {w : World} {g : Nat} {now most : Int} (hT : TA w g now most) :
    Calls Try.prog 30 #[.pointer (some ⟨g, 0, none⟩)] w fun e w' => e = .returned (.int .i64 now) ∧ w = w' := by
  have c0 := hT.blk.cell 0
  clear hT
  go_enter Try.func30, Try.ntmps30
  go_wp2_with (first | (go_at_call 39; refine (load_any _ _ _ _ (by assumption)).mono ?_; rintro e w' ⟨rfl, rfl⟩))
  go_ret
  exact ⟨rfl, rfl⟩
end Go.Proofs.Ytcefaohdikongaa
