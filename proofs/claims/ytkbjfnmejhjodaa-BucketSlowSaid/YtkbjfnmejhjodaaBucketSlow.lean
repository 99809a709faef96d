/- The walk of BucketSlow: it answers true. -/
import Derived.Test.YtkbjfnmejhjodaaBucketBounds
namespace Go.Proofs.Ytkbjfnmejhjodaa
open Go.RowKit
attribute [local go_sem] max2_mx min2_mn max_two_ min_two_

theorem mn_comm (a b : Int) : mn a b = mn b a := by unfold mn; split <;> split <;> omega

structure AllEnd (w : World) (g h : Nat) (r n most t : Int) (e : Ending) (w' : World) : Prop where
  end_ : e = .returned (.int .i64 n)
  at_ : BA w' g h r 0 most (t + n)
  chg : Chg (Two g h) w w'

theorem all_any {w : World} {x g h : Nat} {r n most t : Int} (b : BA w g h r n most t) (hn : n ≤ 100) (ht : t ≤ 1000000) (hx : w.cell? ⟨x, 0, none⟩ = some (.pointer (some ⟨g, 0, none⟩))) (hxg : x ≠ g) (hxh : x ≠ h) :
    Calls Try.prog 13 #[.pointer (some ⟨x, 0, none⟩)] w (AllEnd w g h r n most t) := by
  have B := Lib.hid b
  have hlo := b.ta.lo
  have hxlt : x < w.heap.size := by
    rcases Nat.lt_or_ge x w.heap.size with hlt | hge
    · exact hlt
    · unfold World.cell? at hx; rw [Array.getElem?_eq_none hge] at hx; cases hx
  have HX := Lib.hid hx
  clear b hx
  go_enter Try.func13, Try.ntmps13
  go_wp2_with fail
  go_loopw [2] (fun i wr => ∃ q : Nat, (q : Int) ≤ n ∧ i = .int .i64 q ∧ BA wr g h r (n - (q : Int)) most (t + (q : Int)) ∧ Chg (Two g h) w wr) (fun i _ => (n - intOf i).toNat)
  case atStart => exact ⟨0, hlo, rfl, by simpa using B.out, Chg.refl _ _⟩
  case round =>
    clear B
    obtain ⟨q, hq, rfl, hB, hC⟩ := hrel
    have B := Lib.hid hB
    have C := Lib.hid hC
    clear hB hC
    have hc : wr.cell? ⟨x, 0, none⟩ = some (.pointer (some ⟨g, 0, none⟩)) := by
      rw [C.out.cell hxlt (by unfold Two; simp; omega)]; exact HX.out
    by_cases hqn : (q : Int) < n
    · go_wp2_with fail
      refine (bucket_take_yes B.out (by omega) (by omega)).mono ?_
      rintro e w2 ⟨rfl, hB, hC⟩
      have B2 := Lib.hid hB
      have C2 := Lib.hid (C.out.trans hC)
      clear hB hC
      go_wp2_with fail
      go_roundw
      case rel => exact ⟨q + 1, by omega, by go_num, by have := B2.out; rwa [show n - (q : Int) - 1 = n - ((q + 1 : Nat) : Int) by omega, show t + (q : Int) + 1 = t + ((q + 1 : Nat) : Int) by omega] at this, C2.out⟩
      case measure => simp [intOf]; omega
    · have hqe : (q : Int) = n := by omega
      have hB := B.out
      rw [show n - (q : Int) = 0 by omega] at hB
      have HQ := Lib.hid hqe
      clear hqe
      go_wp2_with fail
      refine (bucket_take_no hB).mono ?_
      rintro e w2 ⟨rfl, hB2, hC⟩
      have B2 := Lib.hid hB2
      have C2 := Lib.hid (C.out.trans hC)
      clear hB hB2 hC
      go_wp2_with fail
      go_ret
      exact ⟨by rw [← HQ.out]; rfl, by rw [← HQ.out]; exact B2.out, C2.out⟩

set_option maxHeartbeats 4000000 in
set_option maxRecDepth 100000 in
theorem slow_any (r0 b0 t0 : Int) (w : World) :
    Calls Try.prog 4 #[.int .i64 r0, .int .i64 b0, .int .i64 t0] w fun e w' => e = .returned (.bool true) ∧ Chg NoB w w' := by
  have hu0 := u64_nonneg_ r0
  have hu1 := u64_nonneg_ b0
  have hu2 := u64_nonneg_ t0
  have ha := u64_mod (x := r0) (show (0 : Int) < 30 by decide)
  have hb := u64_mod (x := b0) (show (0 : Int) < 30 by decide)
  have ht := u64_mod (x := t0) (show (0 : Int) < 30 by decide)
  go_enter Try.func4, Try.ntmps4
  go_wp2_with fail
  generalize IntKind.u64.wrap r0 % 30 = r at *
  generalize IntKind.u64.wrap b0 % 30 = most at *
  generalize IntKind.u64.wrap t0 % 30 = T' at *
  obtain ⟨T, rfl⟩ := Int.eq_ofNat_of_zero_le ht.1
  refine (bucket_new_id ha.1 (by omega) hb.1 (by omega) _).mono ?_
  rintro e w0 ⟨g, h, rfl, hg, hh, hB, hC⟩
  have hgl := hB.blk.lt
  have hhl := hB.ta.blk.lt
  have hz := hC.size
  have B0 := Lib.hid hB
  have C0 := Lib.hid hC
  clear hB hC
  have hmf : ∀ (fn : Fn) (first cap : Array Value) (w : World), (Instr.makeFunc fn first cap).run Try.prog w = .ok (.func fn first cap) w := fun _ _ _ _ => rfl
  go_wp2_with fail
  have HX0 : Hid (Blk (w0.alloc (.cells #[.pointer (some ⟨g, 0, none⟩)] 24)) w0.heap.size 24 #[.pointer (some ⟨g, 0, none⟩)]) := Lib.hid (Blk.new _ _ _)
  have HB0 : Hid (BA (w0.alloc (.cells #[.pointer (some ⟨g, 0, none⟩)] 24)) g h r most most 0) := Lib.hid (B0.out.chg ((Chg.refl NoB w0).alloc _) id id)
  have HC0 : Hid (Chg NoB w (w0.alloc (.cells #[.pointer (some ⟨g, 0, none⟩)] 24))) := Lib.hid (C0.out.alloc _)
  generalize w0.alloc (.cells #[.pointer (some ⟨g, 0, none⟩)] 24) = W at *
  generalize w0.heap.size = x at *
  have OW : Hid (∀ j, j < w.heap.size → Two g h j → NoB j) := Lib.hid fun j hj h => absurd h (by unfold Two; omega)
  clear B0 C0
  refine (all_any HB0.out (by omega) (by omega) (HX0.out.cell 0) (by omega) (by omega)).mono ?_
  rintro e w1 ⟨rfl, hB, hC⟩
  rw [Int.zero_add] at hB
  have B1 := Lib.hid hB
  have C1 := Lib.hid (HC0.out.then_ hC OW.out)
  have X1 := Lib.hid (HX0.out.chg hC (by unfold Two; omega))
  clear hB hC
  have hM0 : 0 ≤ mn r most ∧ mn r most ≤ 29 := by unfold mn; split <;> omega
  have HMC := Lib.hid (mn_comm most r)
  go_wp2_with fail
  go_loopw [30] (fun i wr => ∃ k : Nat, k ≤ T ∧ i = .int .i64 k ∧ BA wr g h r 0 most (most + (k : Int) * mn r most) ∧ Chg NoB w wr ∧ Blk wr x 24 #[.pointer (some ⟨g, 0, none⟩)]) (fun i _ => T - (intOf i).toNat)
  case atStart => exact ⟨0, Nat.zero_le _, rfl, by simpa using B1.out, C1.out, X1.out⟩
  case round =>
    clear B1 C1 X1 HX0 HB0 HC0
    obtain ⟨k, hk, rfl, hB, hC, hX⟩ := hrel
    have B := Lib.hid hB
    have C := Lib.hid hC
    have X := Lib.hid hX
    have hcx := hX.cell 0
    clear hB hC hX
    have hkm0 : 0 ≤ (k : Int) * mn r most := Int.mul_nonneg (by omega) hM0.1
    have hkm1 : (k : Int) * mn r most ≤ 900 := by
      have h1 : (k : Int) * mn r most ≤ (k : Int) * 29 := Int.mul_le_mul_of_nonneg_left hM0.2 (by omega)
      omega
    by_cases hlt : k < T
    · go_wp2_with fail
      refine (bucket_tick B.out).mono ?_
      rintro e w2 ⟨rfl, hB, hC⟩
      rw [Int.zero_add, HMC.out] at hB
      have B2 := Lib.hid hB
      have C2 := Lib.hid (C.out.then_ hC OW.out)
      have X2 := Lib.hid (X.out.chg hC (by unfold Two; omega))
      clear hB hC hcx
      go_wp2_with fail
      refine (all_any B2.out (by omega) (by omega) (X2.out.cell 0) (by omega) (by omega)).mono ?_
      rintro e w3 ⟨rfl, hB, hC⟩
      have B3 := Lib.hid hB
      have C3 := Lib.hid (C2.out.then_ hC OW.out)
      have X3 := Lib.hid (X2.out.chg hC (by unfold Two; omega))
      clear hB hC
      go_wp2_with fail
      go_roundw
      case rel => exact ⟨k + 1, by omega, by go_num, by have := B3.out; rwa [show most + (k : Int) * mn r most + mn r most = most + ((k + 1 : Nat) : Int) * mn r most by rw [show ((k + 1 : Nat) : Int) = (k : Int) + 1 from rfl, Int.add_mul, Int.one_mul]; omega] at this, C3.out, X3.out⟩
      case measure => simp [intOf]; omega
    · obtain rfl : k = T := by omega
      go_wp2_with fail
      refine (bucket_taken B.out).mono ?_
      rintro e w2 ⟨rfl, rfl⟩
      go_wp2_with fail
      refine (awake_any _).mono ?_
      rintro e w8 ⟨rfl, hC⟩
      have C8 := Lib.hid (C.out.trans hC)
      clear hC
      go_wp2_with fail
      go_ret
      exact ⟨rfl, C8.out⟩

theorem bucketSlow_walk (r b t : Int) (W : World) (_w0 : (Lit.int .i64 r).wf = true) (_w1 : (Lit.int .i64 b).wf = true) (_w2 : (Lit.int .i64 t).wf = true) :
    Calls Try.prog 4 #[.int .i64 r, .int .i64 b, .int .i64 t] W fun e w' => e = .returned (.bool true) ∧ Below W.heap.size W w' :=
  (slow_any r b t W).mono fun _ _ ⟨h1, h2⟩ => ⟨h1, h2.below⟩
end Go.Proofs.Ytkbjfnmejhjodaa
