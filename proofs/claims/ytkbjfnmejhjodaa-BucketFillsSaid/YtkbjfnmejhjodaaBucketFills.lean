/- The walk of BucketFills: it answers true. -/
import Derived.Test.YtkbjfnmejhjodaaBucketBounds
namespace Go.Proofs.Ytkbjfnmejhjodaa
open Go.RowKit

set_option maxHeartbeats 4000000 in
set_option maxRecDepth 100000 in
theorem fills_any (r0 b0 : Int) (v : Value) (bs : List Bool) (w : World) (hs : SliceAt w v 1 bs.length (bs.map Value.bool)) :
    Calls Try.prog 7 #[.int .i64 r0, .int .i64 b0, v] w fun e w' => e = .returned (.bool true) ∧ Chg NoB w w' := by
  obtain ⟨A, cap, rfl, hcap, hmax, _, hcells⟩ := hs
  unfold maxLen at hmax
  have HG : Hid (∀ k, k < bs.length → (bs.map Value.bool)[k]? = some (.bool (bs.getD k false))) := Lib.hid fun k hk => getD_cell false hk
  generalize bs.length = L at *
  have HCELLS := Lib.hid hcells
  clear hcells
  have hu0 := u64_nonneg_ r0
  have hu1 := u64_nonneg_ b0
  have ha := u64_mod (x := r0) (show (0 : Int) < 20 by decide)
  have hb := u64_mod (x := b0) (show (0 : Int) < 100 by decide)
  go_enter Try.func7, Try.ntmps7
  go_wp2_with fail
  generalize hr : IntKind.u64.wrap r0 % 20 + 1 = r at *
  have hr1 : 1 ≤ r ∧ r ≤ 20 := by omega
  generalize IntKind.u64.wrap b0 % 100 = most at *
  clear hr ha
  refine (bucket_new_id (by omega) (by omega) hb.1 (by omega) _).mono ?_
  rintro e w0 ⟨g, h, rfl, hg, hh, hB, hC⟩
  have OW : Hid (∀ j, j < w.heap.size → Two g h j → NoB j) := Lib.hid fun j hj h => absurd h (by unfold Two; omega)
  have B0 := Lib.hid hB
  have C0 := Lib.hid hC
  clear hB hC
  have hQ0 : 0 ≤ most / r := Int.ediv_nonneg hb.1 (by omega)
  have hQ1 : most / r ≤ most := Int.ediv_le_self _ hb.1
  have HQ' : most ≤ r * (most / r + 1) := by
    have h1 := Int.emod_add_mul_ediv most r
    have h2 := Int.emod_lt_of_pos most (show 0 < r by omega)
    rw [Int.mul_add, Int.mul_one]; omega
  have HQ := Lib.hid HQ'
  clear HQ'
  go_wp2_with fail
  go_loopw [24] (fun i wr => ∃ (n t : Int) (k : Nat), k ≤ L ∧ i = .int .i64 k ∧ k ≤ 200 ∧ t ≤ k ∧ BA wr g h r n most t ∧ Chg NoB w wr) (fun i _ => L - (intOf i).toNat)
  case atStart => exact ⟨most, 0, 0, Nat.zero_le _, rfl, by decide, by decide, B0.out, C0.out⟩
  case round =>
    clear B0 C0
    obtain ⟨n, t, k, hk, rfl, hk2, htk, hB, hC⟩ := hrel
    have B := Lib.hid hB
    have C := Lib.hid hC
    have hlo := hB.ta.lo
    have hhi := hB.ta.hi
    have ht0 := hB.t0
    clear hB hC
    by_cases hlt : k < L
    · obtain ⟨b, off, rfl, hab, hcell⟩ := HCELLS.out (by omega)
      have hc : wr.cell? ⟨b, off + k, none⟩ = some (.bool (bs.getD k false)) := by
        rw [C.out.cell hab id]
        exact hcell k _ (HG.out k hlt)
      generalize bs.getD k false = tick at *
      clear hcell HCELLS
      by_cases hlt2 : k < 200
      · cases tick
        · go_wp2_with fail
          refine (bucket_tick B.out).mono ?_
          rintro e w2 ⟨rfl, hB, hC⟩
          have B2 := Lib.hid hB
          have C2 := Lib.hid (C.out.then_ hC OW.out)
          clear hB hC
          have hlo2 := B2.out.ta.lo
          have hhi2 := B2.out.ta.hi
          go_wp2_with fail
          refine (bucket_left B2.out).mono ?_
          rintro e w3 ⟨rfl, rfl⟩
          go_wp2_with fail
          refine (bucket_left B2.out).mono ?_
          rintro e w3 ⟨rfl, rfl⟩
          go_wp2_with fail
          go_roundw
          case rel => exact ⟨_, t, k + 1, by omega, by go_num, by omega, by omega, B2.out, C2.out⟩
          case measure => simp [intOf]; omega
        · by_cases hn : 0 < n
          · go_wp2_with fail
            refine (bucket_take_yes B.out hn (by omega)).mono ?_
            rintro e w2 ⟨rfl, hB, hC⟩
            have B2 := Lib.hid hB
            have C2 := Lib.hid (C.out.then_ hC OW.out)
            clear hB hC
            have hlo2 := B2.out.ta.lo
            have hhi2 := B2.out.ta.hi
            go_wp2_with fail
            refine (bucket_left B2.out).mono ?_
            rintro e w3 ⟨rfl, rfl⟩
            go_wp2_with fail
            refine (bucket_left B2.out).mono ?_
            rintro e w3 ⟨rfl, rfl⟩
            go_wp2_with fail
            go_roundw
            case rel => exact ⟨_, _, k + 1, by omega, by go_num, by omega, by omega, B2.out, C2.out⟩
            case measure => simp [intOf]; omega
          · obtain rfl : n = 0 := by omega
            go_wp2_with fail
            refine (bucket_take_no B.out).mono ?_
            rintro e w2 ⟨rfl, hB, hC⟩
            have B2 := Lib.hid hB
            have C2 := Lib.hid (C.out.then_ hC OW.out)
            clear hB hC
            have hlo2 := B2.out.ta.lo
            have hhi2 := B2.out.ta.hi
            go_wp2_with fail
            refine (bucket_left B2.out).mono ?_
            rintro e w3 ⟨rfl, rfl⟩
            go_wp2_with fail
            refine (bucket_left B2.out).mono ?_
            rintro e w3 ⟨rfl, rfl⟩
            go_wp2_with fail
            go_roundw
            case rel => exact ⟨_, _, k + 1, by omega, by go_num, by omega, by omega, B2.out, C2.out⟩
            case measure => simp [intOf]; omega
      · obtain ⟨wo, rfl⟩ : ∃ wo : World, wo = wr := ⟨_, rfl⟩
        have hd1 : decide (200 ≤ (k : Int)) = true := by simp; omega
        have hd2 : decide ((k : Int) < (L : Int)) = true := by simp; omega
        go_wp2_with fail
        go_loopw [50] (fun i wr => ∃ (n : Int) (q : Nat), (q : Int) ≤ most / r + 1 ∧ i = .int .i64 q ∧ Hid (n = most ∨ r * q ≤ n) ∧ BA wr g h r n most t ∧ Chg NoB w wr) (fun i _ => (most / r + 1 - intOf i).toNat)
        case atStart => exact ⟨n, 0, by omega, rfl, .inr (by simp; omega), B.out, C.out⟩
        case round =>
          clear B C
          obtain ⟨n, q, hq, rfl, hinv, hB, hC⟩ := hrel
          have B := Lib.hid hB
          have C := Lib.hid hC
          have hlo := hB.ta.lo
          have hhi := hB.ta.hi
          clear hB hC
          by_cases hqq : (q : Int) < most / r + 1
          · go_wp2_with fail
            refine (bucket_tick B.out).mono ?_
            rintro e w2 ⟨rfl, hB, hC⟩
            have B2 := Lib.hid hB
            have C2 := Lib.hid (C.out.then_ hC OW.out)
            clear hB hC
            go_wp2_with fail
            go_roundw
            case rel => exact ⟨mn most (n + r), q + 1, by omega, by go_num, by
                have hq1 : r * ((q : Int) + 1) = r * q + r := by rw [Int.mul_add, Int.mul_one]
                show mn most (n + r) = most ∨ r * ((q + 1 : Nat) : Int) ≤ mn most (n + r)
                rw [show ((q + 1 : Nat) : Int) = (q : Int) + 1 from rfl, hq1]
                unfold mn
                rcases hinv.out with h1 | h1 <;> split <;> omega, B2.out, C2.out⟩
            case measure => simp [intOf]; omega
          · have hfull : n = most := by
              rcases hinv.out with h1 | h1
              · exact h1
              · have : r * (most / r + 1) ≤ n := by
                  have e : (q : Int) = most / r + 1 := by omega
                  rw [e] at h1; exact h1
                have := HQ.out
                omega
            clear hinv
            subst hfull
            obtain ⟨wo, rfl⟩ : ∃ wo : World, wo = wr := ⟨_, rfl⟩
            go_wp2_with fail
            go_loopw [56] (fun i wr => ∃ (q : Nat) (t : Int), (q : Int) ≤ n ∧ i = .int .i64 q ∧ t ≤ 1000 + (q : Int) ∧ BA wr g h r (n - (q : Int)) n t ∧ Chg NoB w wr) (fun i _ => (n - intOf i).toNat)
            case atStart => exact ⟨0, t, hlo, rfl, by omega, by simpa using B.out, C.out⟩
            case round =>
              clear B C
              obtain ⟨q, t, hq, rfl, htq, hB, hC⟩ := hrel
              have B := Lib.hid hB
              have C := Lib.hid hC
              have ht0 := hB.t0
              clear hB hC
              by_cases hqn : (q : Int) < n
              · go_wp2_with fail
                refine (bucket_take_yes B.out (by omega) (by omega)).mono ?_
                rintro e w2 ⟨rfl, hB, hC⟩
                have B2 := Lib.hid hB
                have C2 := Lib.hid (C.out.then_ hC OW.out)
                clear hB hC
                go_wp2_with fail
                go_roundw
                case rel => exact ⟨q + 1, t + 1, by omega, by go_num, by omega, by have := B2.out; rwa [show n - (q : Int) - 1 = n - ((q + 1 : Nat) : Int) by omega] at this, C2.out⟩
                case measure => simp [intOf]; omega
              · have hB := B.out
                rw [show n - (q : Int) = 0 by omega] at hB
                go_wp2_with fail
                refine (bucket_take_no hB).mono ?_
                rintro e w2 ⟨rfl, hB2, hC⟩
                have B2 := Lib.hid hB2
                have C2 := Lib.hid (C.out.then_ hC OW.out)
                clear hB hB2 hC B
                go_wp2_with fail
                refine (bucket_left B2.out).mono ?_
                rintro e w3 ⟨rfl, rfl⟩
                go_wp2_with fail
                refine (awake_any _).mono ?_
                rintro e w8 ⟨rfl, hC⟩
                have C8 := Lib.hid (C2.out.trans hC)
                clear hC
                go_wp2_with fail
                go_ret
                exact ⟨rfl, C8.out⟩
    · obtain ⟨wo, rfl⟩ : ∃ wo : World, wo = wr := ⟨_, rfl⟩
      have hd2 : decide ((k : Int) < (L : Int)) = false := by simp; omega
      go_wp2_with fail
      go_loopw [50] (fun i wr => ∃ (n : Int) (q : Nat), (q : Int) ≤ most / r + 1 ∧ i = .int .i64 q ∧ Hid (n = most ∨ r * q ≤ n) ∧ BA wr g h r n most t ∧ Chg NoB w wr) (fun i _ => (most / r + 1 - intOf i).toNat)
      case atStart => exact ⟨n, 0, by omega, rfl, .inr (by simp; omega), B.out, C.out⟩
      case round =>
        clear B C
        obtain ⟨n, q, hq, rfl, hinv, hB, hC⟩ := hrel
        have B := Lib.hid hB
        have C := Lib.hid hC
        have hlo := hB.ta.lo
        have hhi := hB.ta.hi
        clear hB hC
        by_cases hqq : (q : Int) < most / r + 1
        · go_wp2_with fail
          refine (bucket_tick B.out).mono ?_
          rintro e w2 ⟨rfl, hB, hC⟩
          have B2 := Lib.hid hB
          have C2 := Lib.hid (C.out.then_ hC OW.out)
          clear hB hC
          go_wp2_with fail
          go_roundw
          case rel => exact ⟨mn most (n + r), q + 1, by omega, by go_num, by
              have hq1 : r * ((q : Int) + 1) = r * q + r := by rw [Int.mul_add, Int.mul_one]
              show mn most (n + r) = most ∨ r * ((q + 1 : Nat) : Int) ≤ mn most (n + r)
              rw [show ((q + 1 : Nat) : Int) = (q : Int) + 1 from rfl, hq1]
              unfold mn
              rcases hinv.out with h1 | h1 <;> split <;> omega, B2.out, C2.out⟩
          case measure => simp [intOf]; omega
        · have hfull : n = most := by
            rcases hinv.out with h1 | h1
            · exact h1
            · have : r * (most / r + 1) ≤ n := by
                have e : (q : Int) = most / r + 1 := by omega
                rw [e] at h1; exact h1
              have := HQ.out
              omega
          clear hinv
          subst hfull
          obtain ⟨wo, rfl⟩ : ∃ wo : World, wo = wr := ⟨_, rfl⟩
          go_wp2_with fail
          go_loopw [56] (fun i wr => ∃ (q : Nat) (t : Int), (q : Int) ≤ n ∧ i = .int .i64 q ∧ t ≤ 1000 + (q : Int) ∧ BA wr g h r (n - (q : Int)) n t ∧ Chg NoB w wr) (fun i _ => (n - intOf i).toNat)
          case atStart => exact ⟨0, t, hlo, rfl, by omega, by simpa using B.out, C.out⟩
          case round =>
            clear B C
            obtain ⟨q, t, hq, rfl, htq, hB, hC⟩ := hrel
            have B := Lib.hid hB
            have C := Lib.hid hC
            have ht0 := hB.t0
            clear hB hC
            by_cases hqn : (q : Int) < n
            · go_wp2_with fail
              refine (bucket_take_yes B.out (by omega) (by omega)).mono ?_
              rintro e w2 ⟨rfl, hB, hC⟩
              have B2 := Lib.hid hB
              have C2 := Lib.hid (C.out.then_ hC OW.out)
              clear hB hC
              go_wp2_with fail
              go_roundw
              case rel => exact ⟨q + 1, t + 1, by omega, by go_num, by omega, by have := B2.out; rwa [show n - (q : Int) - 1 = n - ((q + 1 : Nat) : Int) by omega] at this, C2.out⟩
              case measure => simp [intOf]; omega
            · have hB := B.out
              rw [show n - (q : Int) = 0 by omega] at hB
              go_wp2_with fail
              refine (bucket_take_no hB).mono ?_
              rintro e w2 ⟨rfl, hB2, hC⟩
              have B2 := Lib.hid hB2
              have C2 := Lib.hid (C.out.then_ hC OW.out)
              clear hB hB2 hC B
              go_wp2_with fail
              refine (bucket_left B2.out).mono ?_
              rintro e w3 ⟨rfl, rfl⟩
              go_wp2_with fail
              refine (awake_any _).mono ?_
              rintro e w8 ⟨rfl, hC⟩
              have C8 := Lib.hid (C2.out.trans hC)
              clear hC
              go_wp2_with fail
              go_ret
              exact ⟨rfl, C8.out⟩

theorem bucketFills_walk (r b : Int) (v : Value) (D : List Bool) (W : World) (_w0 : (Lit.int .i64 r).wf = true) (_w1 : (Lit.int .i64 b).wf = true) (w2 : SliceAt W v 1 D.length (D.map Value.bool)) :
    Calls Try.prog 7 #[.int .i64 r, .int .i64 b, v] W fun e w' => e = .returned (.bool true) ∧ Below W.heap.size W w' :=
  (fills_any r b v D W w2).mono fun _ _ ⟨h1, h2⟩ => ⟨h1, h2.below⟩
end Go.Proofs.Ytkbjfnmejhjodaa
