/- The walk of PlanAll: it answers true. -/
import Derived.Test.YtmhbpnhkmnnapaaRows
import Derived.Test.YtmhbpnhkmnnapaaWords
import Derived.Test.YtmhbpnhkmnnapaaPlanCnt
import Derived.WalkKit
import Derived.Deep.QuietTactic
import Derived.BigQuiet
import Derived.StillTailTactics
import Derived.Laws.MakeOwn
import Derived.LoopTactic
namespace Go.Proofs.Ytmhbpnhkmnnapaa
open Go.RowKit Cnt

theorem region_tail {P : Program} {id : Nat} {Q : Exit → Act → World → Prop} {a : Act} {w : World} {l : List Oper} (n : Nat) (hm : P.follows .mixedOrders = true) (hB : Region.lexTailB .any l.toArray n = true)
    (h : wpStill P l.toArray w.drew (fun a' => wpList P l.toArray Q (l.drop n) a' w.drew) (l.take n) a) : (Code.region id l.toArray true).wp P Q a w := wp_region_still_tail n hm hB h

theorem may_any (n : Int) (w : World) (h : 2 ≤ n ∧ n ≤ 8) : Calls Try.prog 16 #[.int .i64 n] w fun e w' => e = .returned (.bool true) ∧ w' = w := by
  obtain ⟨h1, h2⟩ := h
  have d1 : decide (2 ≤ n) = true := by simpa using h1
  have d2 : decide (n ≤ 8) = true := by simpa using h2
  go_enter Try.func16, Try.ntmps16
  go_wp2
  go_ret
  exact ⟨rfl, rfl⟩

theorem peer_cast {n s t : Nat} (h : 2 ≤ n) : ((s : Int) + 1 + (t : Int) % ((n : Int) - 1)) % (n : Int) = ((peer n s t : Nat) : Int) := by
  unfold peer
  rw [Int.natCast_emod, Int.natCast_add, Int.natCast_add, Int.natCast_emod, Int.natCast_sub (by omega)]; rfl
theorem buck_cast {n t : Nat} (h : 2 ≤ n) : (t : Int) / ((n : Int) - 1) % 4 = ((buck n t : Nat) : Int) := by
  unfold buck
  rw [Int.natCast_emod, Int.natCast_ediv, Int.natCast_sub (by omega)]; rfl
theorem ret_int {k : IntKind} {a b : Int} (h : a = b) : Ending.returned (.int k a) = .returned (.int k b) := by rw [h]

theorem peer_any (n s t : Nat) (w : World) (h : 2 ≤ n ∧ n ≤ 8) (hs : s < n) (ht : t ≤ 2251799813685248) :
    Calls Try.prog 8 #[.int .i64 n, .int .i64 s, .int .i64 t] w fun e w' => e = .returned (.int .i64 (peer n s t : Nat)) ∧ w' = w := by
  have d1 : decide ((s : Int) < 0) = false := by simp
  have d2 : decide ((n : Int) ≤ s) = false := by simp; omega
  have d3 : decide ((t : Int) < 0) = false := by simp
  have m0 : 0 ≤ (t : Int) % ((n : Int) - 1) := Int.emod_nonneg _ (by omega)
  have m1 : (t : Int) % ((n : Int) - 1) < (n : Int) - 1 := Int.emod_lt_of_pos _ (by omega)
  have z1 : ((n : Int) - 1 == 0) = false := by simp; omega
  have z2 : ((n : Int) == 0) = false := by simp; omega
  go_enter Try.func8, Try.ntmps8
  go_wp2_with (first | (go_at_call 16; refine (may_any _ _ (by omega)).mono ?_; rintro e w' ⟨rfl, rfl⟩))
  go_ret
  exact ⟨ret_int (peer_cast h.1), rfl⟩

theorem buck_any (n t : Nat) (w : World) (h : 2 ≤ n ∧ n ≤ 8) (ht : t ≤ 2251799813685248) :
    Calls Try.prog 9 #[.int .i64 n, .int .i64 t] w fun e w' => e = .returned (.int .i64 (buck n t : Nat)) ∧ w' = w := by
  have d3 : decide ((t : Int) < 0) = false := by simp
  have m0 : 0 ≤ (t : Int) / ((n : Int) - 1) := Int.ediv_nonneg (by omega) (by omega)
  have m1 : (t : Int) / ((n : Int) - 1) ≤ t := Int.ediv_le_self _ (by omega)
  have z1 : ((n : Int) - 1 == 0) = false := by simp; omega
  go_enter Try.func9, Try.ntmps9
  go_wp2_with (first | (go_at_call 16; refine (may_any _ _ (by omega)).mono ?_; rintro e w' ⟨rfl, rfl⟩))
  go_ret
  exact ⟨ret_int (buck_cast h.1), rfl⟩

theorem round_any (n : Nat) (w : World) (h : 2 ≤ n ∧ n ≤ 8) :
    Calls Try.prog 7 #[.int .i64 n] w fun e w' => e = .returned (.int .i64 (((n - 1) * 4 : Nat) : Int)) ∧ w' = w := by
  go_enter Try.func7, Try.ntmps7
  go_wp2_with (first | (go_at_call 16; refine (may_any _ _ (by omega)).mono ?_; rintro e w' ⟨rfl, rfl⟩))
  go_ret
  exact ⟨ret_int (by omega), rfl⟩

theorem peer_at {n s t : Nat} {x y z : Int} (w : World) (hx : x = n) (hy : y = s) (hz : z = t) (h : 2 ≤ n ∧ n ≤ 8) (hs : s < n) (ht : t ≤ 2251799813685248) :
    Calls Try.prog 8 #[.int .i64 x, .int .i64 y, .int .i64 z] w fun e w' => e = .returned (.int .i64 (peer n s t : Nat)) ∧ w' = w := by subst hx hy hz; exact peer_any n s t w h hs ht
theorem buck_at {n t : Nat} {x z : Int} (w : World) (hx : x = n) (hz : z = t) (h : 2 ≤ n ∧ n ≤ 8) (ht : t ≤ 2251799813685248) :
    Calls Try.prog 9 #[.int .i64 x, .int .i64 z] w fun e w' => e = .returned (.int .i64 (buck n t : Nat)) ∧ w' = w := by subst hx hz; exact buck_any n t w h ht
theorem round_at {n : Nat} {x : Int} (w : World) (hx : x = n) (h : 2 ≤ n ∧ n ≤ 8) :
    Calls Try.prog 7 #[.int .i64 x] w fun e w' => e = .returned (.int .i64 (((n - 1) * 4 : Nat) : Int)) ∧ w' = w := by subst hx; exact round_any n w h

theorem awake_any (w : World) : Calls Try.prog 10 #[] w fun e w' => e = .returned (.bool true) ∧ w' = w := by
  go_enter Try.func10, Try.ntmps10
  go_wp2_with fail
  refine (peer_any 3 1 0 _ (by decide) (by decide) (by decide)).mono ?_
  rintro e w' ⟨rfl, rfl⟩
  rw [show peer 3 1 0 = 2 from rfl]
  go_wp2_with fail
  refine (peer_any 3 1 1 _ (by decide) (by decide) (by decide)).mono ?_
  rintro e w' ⟨rfl, rfl⟩
  rw [show peer 3 1 1 = 0 from rfl]
  go_wp2_with fail
  refine (round_any 3 _ (by decide)).mono ?_
  rintro e w' ⟨rfl, rfl⟩
  go_wp2_with fail
  refine (buck_any 3 2 _ (by decide) (by decide)).mono ?_
  rintro e w' ⟨rfl, rfl⟩
  rw [show buck 3 2 = 1 from rfl]
  go_wp2_with fail
  go_ret
  exact ⟨rfl, rfl⟩

theorem Try.info27 : (Try.prog.info? 27).map (fun i => (i.zero, i.size, i.bytes)) = some (some (.agg #[.int .i64 0, .int .i64 0, .int .i64 0, .int .i64 0]), 4, 32) := by kernel_rfl

theorem u64_nonneg_ (x : Int) : 0 ≤ IntKind.u64.wrap x := by rw [IntKind.wrap_u64]; omega
theorem u64_mod {x m : Int} (h : 0 < m) : 0 ≤ IntKind.u64.wrap x % m ∧ IntKind.u64.wrap x % m < m := ⟨Int.emod_nonneg _ (by omega), Int.emod_lt_of_pos _ h⟩

def row (l : List Nat) : Array Value := (l.map fun c => Value.int .i64 (c : Nat)).toArray
theorem row_set (l : List Nat) (i c : Nat) : (row l).setIfInBounds i (.int .i64 (c : Nat)) = row (l.set i c) := by
  unfold row
  rw [List.setIfInBounds_toArray, List.map_set]
theorem row_get {l : List Nat} {i : Nat} (h : i < l.length) : (row l)[i]? = some (.int .i64 ((l.getD i 0 : Nat) : Int)) := by
  unfold row
  rw [List.getElem?_toArray, List.getElem?_map, List.getD_eq_getElem?_getD, List.getElem?_eq_getElem h]; rfl


theorem made_four (n : Nat) (x : List Nat) (hx : x = List.replicate (n * 4) 0 := by rfl) : madeCells (Value.cells (.agg #[.int .i64 0, .int .i64 0, .int .i64 0, .int .i64 0])) (n * 4) = row x := by
  subst hx
  unfold row
  rw [List.map_replicate]
  apply Array.ext
  · simp [madeCells]
  · intro i h1 h2
    have h4 := Nat.mod_lt i (show 0 < 4 by omega)
    simp only [madeCells, Array.getElem_map, Array.getElem_range, List.getElem_toArray, List.getElem_replicate]
    show (#[Value.int .i64 0, .int .i64 0, .int .i64 0, .int .i64 0] : Array Value)[i % 4]! = _
    generalize i % 4 = j at *
    match j, h4 with
    | 0, _ => rfl
    | 1, _ => rfl
    | 2, _ => rfl
    | 3, _ => rfl
set_option maxHeartbeats 2000000 in
set_option maxRecDepth 100000 in
theorem all_any (n0 s0 t0 : Int) (w : World) :
    Calls Try.prog 3 #[.int .i64 n0, .int .i64 s0, .int .i64 t0] w fun e w' => e = .returned (.bool true) ∧ Chg NoB w w' := by
  have hu0 := u64_nonneg_ n0
  have hu1 := u64_nonneg_ s0
  have hu2 := u64_nonneg_ t0
  have ha := u64_mod (x := n0) (show (0 : Int) < 7 by decide)
  have hc := u64_mod (x := t0) (show (0 : Int) < 1125899906842624 by decide)
  generalize hn : IntKind.u64.wrap n0 % 7 = N' at *
  obtain ⟨N, rfl⟩ := Int.eq_ofNat_of_zero_le ha.1
  generalize ht : IntKind.u64.wrap t0 % 1125899906842624 = T' at *
  obtain ⟨T, rfl⟩ := Int.eq_ofNat_of_zero_le hc.1
  have hb := u64_mod (x := s0) (show (0 : Int) < (N : Int) + 2 by omega)
  generalize hs : IntKind.u64.wrap s0 % ((N : Int) + 2) = S' at *
  obtain ⟨S, rfl⟩ := Int.eq_ofNat_of_zero_le hb.1
  have hwn : IntKind.u64.wrap ((N : Int) + 2) = (N : Int) + 2 := by rw [IntKind.wrap_u64]; omega
  have ix0 : ∀ (w : World) (x y z u : Value), (Instr.index 27 (.agg #[x, y, z, u]) (.int .i64 0)).run Try.prog w = .ok x w := fun _ _ _ _ _ => by kernel_rfl
  have ix1 : ∀ (w : World) (x y z u : Value), (Instr.index 27 (.agg #[x, y, z, u]) (.int .i64 1)).run Try.prog w = .ok y w := fun _ _ _ _ _ => by kernel_rfl
  have ix2 : ∀ (w : World) (x y z u : Value), (Instr.index 27 (.agg #[x, y, z, u]) (.int .i64 2)).run Try.prog w = .ok z w := fun _ _ _ _ _ => by kernel_rfl
  have ix3 : ∀ (w : World) (x y z u : Value), (Instr.index 27 (.agg #[x, y, z, u]) (.int .i64 3)).run Try.prog w = .ok u w := fun _ _ _ _ _ => by kernel_rfl
  obtain ⟨i0, hi, hz0, hz1, hz2⟩ := info_parts Try.info27
  have hmk : ∀ w : World, (Instr.makeSlice 23 (.int .i64 ((N : Int) + 2)) (.int .i64 ((N : Int) + 2))).run Try.prog w = .ok (.slice (some ⟨w.heap.size, 0, none⟩) (N + 2) (N + 2)) (w.alloc (.cells (row (cells (N + 2) S T 0)) 27)) := by
    intro w
    have h := run_make (P := Try.prog) w 23 27 i0 _ Try.underlying23 hi hz0 .i64 .i64 ((N : Int) + 2) ((N : Int) + 2) (by omega) (by omega) (by rw [hz2]; omega) (by omega)
    rw [h]
    have e1 : ((N : Int) + 2).toNat = N + 2 := by omega
    have e2 : madeCells (Value.cells (.agg #[.int .i64 0, .int .i64 0, .int .i64 0, .int .i64 0])) ((N + 2) * i0.size) = row (cells (N + 2) S T 0) := by
      rw [hz1]
      exact made_four (N + 2) _
    rw [e1, e2]
  go_enter Try.func3, Try.ntmps3
  go_wp2_with fail
  refine (round_at (n := N + 2) _ (by omega) (by omega)).mono ?_
  rintro e w1 ⟨rfl, rfl⟩
  have HB0 : Hid (Blk (w.alloc (.cells (row (cells (N + 2) S T 0)) 27)) w.heap.size 27 (row (cells (N + 2) S T 0))) := Lib.hid (Blk.new _ _ _)
  have HC0 : Hid (Chg NoB w (w.alloc (.cells (row (cells (N + 2) S T 0)) 27))) := Lib.hid ((Chg.refl _ _).alloc _)
  generalize w.alloc (.cells (row (cells (N + 2) S T 0)) 27) = W at *
  clear hmk hwn hn ht hs hu0 hu1 hu2
  have e4 : (N + 2 - 1) * 4 = (N + 1) * 4 := by omega
  rw [e4]
  go_wp2_with fail
  go_loopw [33] (fun i wr => ∃ k : Nat, k ≤ (N + 1) * 4 ∧ i = .int .i64 k ∧ Blk wr w.heap.size 27 (row (cells (N + 2) S T k)) ∧ Chg NoB w wr) (fun i _ => (N + 1) * 4 - (intOf i).toNat)
  case atStart => exact ⟨0, Nat.zero_le _, rfl, HB0.out, HC0.out⟩
  case round =>
    clear HB0 HC0
    obtain ⟨k, hk, rfl, hB, hC⟩ := hrel
    have B := Lib.hid hB
    have C := Lib.hid hC
    clear hB hC
    by_cases hlt : k < (N + 1) * 4
    · have hp := peer_lt (n := N + 2) (by omega) S (T + k)
      have hb4 := buck_lt (N + 2) (T + k)
      have hne := peer_ne (n := N + 2) (s := S) (t := T + k) (by omega) (by omega)
      have hcl := cells_le (N + 2) S T k (peer (N + 2) S (T + k) * 4 + buck (N + 2) (T + k))
      have hstep : Hid (cells (N + 2) S T (k + 1) = (cells (N + 2) S T k).set (peer (N + 2) S (T + k) * 4 + buck (N + 2) (T + k)) ((cells (N + 2) S T k).getD (peer (N + 2) S (T + k) * 4 + buck (N + 2) (T + k)) 0 + 1)) := Lib.hid rfl
      have hcell := (B.out.cell (peer (N + 2) S (T + k) * 4 + buck (N + 2) (T + k))).trans (row_get (by rw [length_cells]; omega))
      have hfr := B.out.frozen (peer (N + 2) S (T + k) * 4 + buck (N + 2) (T + k))
      go_wp2_with fail
      refine (peer_at (n := N + 2) (s := S) (t := T + k) _ (by omega) rfl (by omega) (by omega) (by omega) (by omega)).mono ?_
      rintro e w1 ⟨rfl, rfl⟩
      go_wp2_with fail
      refine (buck_at (n := N + 2) (t := T + k) _ (by omega) (by omega) (by omega) (by omega)).mono ?_
      rintro e w1 ⟨rfl, rfl⟩
      generalize peer (N + 2) S (T + k) = p at *
      generalize buck (N + 2) (T + k) = q at *
      generalize (cells (N + 2) S T k).getD (p * 4 + q) 0 = c at *
      have hd1 : ((p : Int) == (S : Int)) = false := by simp; omega
      go_wp2_with fail
      refine region_tail 9 (by kernel_rfl) (by kernel_rfl) ?_
      simp only [List.take_succ_cons, List.take_zero, List.drop_succ_cons, List.drop_zero]
      iterate 9 still_step
      refine wpStill_nil ?_
      go_wp2_with fail
      go_roundw
      case rel =>
        refine ⟨k + 1, by omega, by go_num, ?_, C.out.drew.setCell (.inr (Nat.le_refl _)) _⟩
        rw [hstep.out, ← row_set]
        exact B.out.drew.set_ _ _
      case measure => simp [intOf]; omega
    · obtain rfl : k = (N + 1) * 4 := by omega
      have hfin := fun (i j : Nat) (hi : i < N + 2) (hj : j < 4) => told (n := N + 2) (s := S) (t := T) (by omega) (by omega) (by omega) hi hj
      rw [e4] at hfin
      have hlen := length_cells (N + 2) S T ((N + 1) * 4)
      generalize cells (N + 2) S T ((N + 1) * 4) = cs at *
      have HF := Lib.hid hfin
      have HL := Lib.hid hlen
      clear hfin hlen e4
      have hlt2 : decide ((((N + 1) * 4 : Nat) : Int) < ((N : Int) + 1) * 4) = false := by simp
      go_wp2_with fail
      obtain ⟨wo, rfl⟩ : ∃ wo : World, wo = wr := ⟨_, rfl⟩
      go_loopw [79] (fun i wr => ∃ k : Nat, k ≤ N + 2 ∧ i = .int .i64 k ∧ wo = wr) (fun i _ => N + 2 - (intOf i).toNat)
      case atStart => exact ⟨0, Nat.zero_le _, rfl, rfl⟩
      case round =>
        obtain ⟨i, hi, rfl, rfl⟩ := hrel
        by_cases hlt : i < N + 2
        · have hcell : ∀ j, j < 4 → wo.cell? ⟨w.heap.size, i * 4 + j, none⟩ = some (.int .i64 ((if i = S then 0 else 1 : Nat) : Int)) := by
            intro j hj
            rw [B.out.cell, row_get (by rw [HL.out]; omega), HF.out i j (by omega) hj]
          have c0 := hcell 0 (by decide)
          rw [Nat.add_zero] at c0
          have c1 := hcell 1 (by decide)
          have c2 := hcell 2 (by decide)
          have c3 := hcell 3 (by decide)
          clear hcell
          by_cases hS : i = S
          · have hb1 : ((i : Int) == (S : Int)) = true := by simp [hS]
            have hb2 : ((i : Int) != (S : Int)) = false := by simp [hS]
            rw [if_pos hS] at c0 c1 c2 c3
            clear hS
            go_wp2_with fail
            refine wp_loop_rounds 5 ?_
            rw [rounds_succ]
            go_wp2_with fail
            rw [rounds_succ]
            go_wp2_with fail
            rw [rounds_succ]
            go_wp2_with fail
            rw [rounds_succ]
            go_wp2_with fail
            rw [rounds_succ]
            go_wp2_with fail
            go_roundw
            case rel => exact ⟨i + 1, by omega, by go_num, trivial⟩
            case measure => simp [intOf]; omega
          · have hb1 : ((i : Int) == (S : Int)) = false := by simp; omega
            have hb2 : ((i : Int) != (S : Int)) = true := by simp; omega
            rw [if_neg hS] at c0 c1 c2 c3
            clear hS
            go_wp2_with fail
            refine wp_loop_rounds 5 ?_
            rw [rounds_succ]
            go_wp2_with fail
            rw [rounds_succ]
            go_wp2_with fail
            rw [rounds_succ]
            go_wp2_with fail
            rw [rounds_succ]
            go_wp2_with fail
            rw [rounds_succ]
            go_wp2_with fail
            go_roundw
            case rel => exact ⟨i + 1, by omega, by go_num, trivial⟩
            case measure => simp [intOf]; omega
        · go_wp2_with fail
          refine (awake_any _).mono ?_
          rintro e w1 ⟨rfl, rfl⟩
          go_wp2_with fail
          go_ret
          exact ⟨rfl, C.out⟩

theorem planAll_walk (n s t : Int) (W : World) (_w0 : (Lit.int .i64 n).wf = true) (_w1 : (Lit.int .i64 s).wf = true) (_w2 : (Lit.int .i64 t).wf = true) :
    Calls Try.prog 3 #[.int .i64 n, .int .i64 s, .int .i64 t] W fun e w' => e = .returned (.bool true) ∧ Below W.heap.size W w' :=
  (all_any n s t W).mono fun _ _ ⟨h1, h2⟩ => ⟨h1, h2.below⟩
end Go.Proofs.Ytmhbpnhkmnnapaa
