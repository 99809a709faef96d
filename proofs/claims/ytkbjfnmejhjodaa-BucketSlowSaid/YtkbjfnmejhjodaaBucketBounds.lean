/- The walk of BucketBounds: it answers true. -/
import Derived.Test.YtkbjfnmejhjodaaBucketPlays
namespace Go.Proofs.Ytkbjfnmejhjodaa
open Go.RowKit

theorem u64_nonneg_ (x : Int) : 0 ≤ IntKind.u64.wrap x := by rw [IntKind.wrap_u64]; omega
theorem u64_mod {x m : Int} (h : 0 < m) : 0 ≤ IntKind.u64.wrap x % m ∧ IntKind.u64.wrap x % m < m := ⟨Int.emod_nonneg _ (by omega), Int.emod_lt_of_pos _ h⟩
theorem clip_id {n : Int} (h0 : 0 ≤ n) (h1 : n ≤ 1000000) : clip n = n := by unfold clip mx mn; split <;> split <;> omega

theorem bucket_new_id {r b : Int} (r0 : 0 ≤ r) (r1 : r ≤ 1000000) (b0 : 0 ≤ b) (b1 : b ≤ 1000000) (w : World) : Calls Try.prog 8 #[.int .i64 r, .int .i64 b] w fun e w' => ∃ g h, e = .returned (.pointer (some ⟨g, 0, none⟩)) ∧ w.heap.size ≤ g ∧ w.heap.size ≤ h ∧ BA w' g h r b b 0 ∧ Chg NoB w w' := by
  have h := bucket_new r b w
  refine h.mono ?_
  rintro e w' ⟨g, h, x⟩
  rw [clip_id r0 r1, clip_id b0 b1] at x
  exact ⟨g, h, x⟩

set_option maxHeartbeats 4000000 in
set_option maxRecDepth 100000 in
theorem bounds_any (r0 b0 f0 t0 : Int) (v : Value) (bs : List Bool) (w : World) (hs : SliceAt w v 1 bs.length (bs.map Value.bool)) :
    Calls Try.prog 3 #[.int .i64 r0, .int .i64 b0, v, .int .i64 f0, .int .i64 t0] w fun e w' => e = .returned (.bool true) ∧ Chg NoB w w' := by
  obtain ⟨A, cap, rfl, hcap, hmax, _, hcells⟩ := hs
  unfold maxLen at hmax
  have HG : Hid (∀ k, k < bs.length → (bs.map Value.bool)[k]? = some (.bool (bs.getD k false))) := Lib.hid fun k hk => getD_cell false hk
  generalize bs.length = L at *
  have HCELLS := Lib.hid hcells
  clear hcells
  have hu0 := u64_nonneg_ r0
  have hu1 := u64_nonneg_ b0
  have hu2 := u64_nonneg_ f0
  have hu3 := u64_nonneg_ t0
  have ha := u64_mod (x := r0) (show (0 : Int) < 50 by decide)
  have hb := u64_mod (x := b0) (show (0 : Int) < 50 by decide)
  by_cases h400 : 400 < L
  · have hf := u64_mod (x := f0) (show (0 : Int) < 401 by decide)
    have ht := u64_mod (x := t0) (show (0 : Int) < 401 by decide)
    generalize hF : IntKind.u64.wrap f0 % 401 = F' at *
    generalize hT : IntKind.u64.wrap t0 % 401 = T' at *
    obtain ⟨F, rfl⟩ := Int.eq_ofNat_of_zero_le hf.1
    obtain ⟨T, rfl⟩ := Int.eq_ofNat_of_zero_le ht.1
    by_cases hft : T < F
    · go_enter Try.func3, Try.ntmps3
      go_wp2_with fail
      go_quiet (fail)
      go_wp2_with fail
      refine (bucket_new_id ha.1 (by omega) hb.1 (by omega) _).mono ?_
      rintro e w0 ⟨g, h, rfl, hg, hh, hB, hC⟩
      have OW : Hid (∀ j, j < w.heap.size → Two g h j → NoB j) := Lib.hid fun j hj h => absurd h (by unfold Two; have := hg; have := hh; simp at *; omega)
      have B0 := Lib.hid hB
      have C0 := Lib.hid (((Chg.refl NoB w).drewN nq).trans hC)
      clear hB hC
      generalize IntKind.u64.wrap r0 % 50 = r at *
      generalize IntKind.u64.wrap b0 % 50 = most at *
      have hL : F ≤ L := by omega
      go_wp2_with fail
      go_loopw [12, 13, 57] (fun a b i wr => ∃ (q first n t : Int) (k : Nat), k ≤ F ∧ a = .int .i64 q ∧ b = .int .i64 first ∧ i = .int .i64 k ∧ 0 ≤ q ∧ q ≤ k ∧ 0 ≤ first ∧ first ≤ t ∧ t ≤ k ∧ Hid (T < k → t - first + n ≤ most + r * q) ∧ BA wr g h r n most t ∧ Chg NoB w wr) (fun _ _ i _ => F - (intOf i).toNat)
      case atStart => exact ⟨0, 0, most, 0, 0, Nat.zero_le _, rfl, rfl, rfl, by decide, by decide, by decide, by decide, by decide, fun h => absurd h (by omega), B0.out, C0.out⟩
      case round =>
        clear B0 C0
        obtain ⟨q, first, n, t, k, hk, rfl, rfl, rfl, hq0, hq1, hf0, hf1, ht1, hinv, hB, hC⟩ := hrel
        have B := Lib.hid hB
        have C := Lib.hid hC
        have hlo := hB.ta.lo
        have hhi := hB.ta.hi
        have hr0 := hB.r0
        clear hB hC
        have hrq0 : 0 ≤ r * q := Int.mul_nonneg hr0 hq0
        have hrq1 : r * q ≤ 20000 := by
          have h1 : r * q ≤ 50 * q := Int.mul_le_mul_of_nonneg_right (by omega) hq0
          omega
        by_cases hlt : k < F
        · obtain ⟨b, off, rfl, hab, hcell⟩ := HCELLS.out (by omega)
          have hc : wr.cell? ⟨b, off + k, none⟩ = some (.bool (bs.getD k false)) := by
            rw [C.out.cell hab id]
            exact hcell k _ (HG.out k (by omega))
          generalize bs.getD k false = tick at *
          clear hcell HCELLS
          by_cases hkf : k = T
          · have hkb : ((k : Int) == (T : Int)) = true := by simp; omega
            have hk1 : k ≤ T := by omega
            have hk2 : T ≤ k := by omega
            clear hkf
            cases tick
            · by_cases hn : 0 < n
              · go_wp2_with fail
                refine (bucket_taken B.out).mono ?_
                rintro e w1 ⟨rfl, rfl⟩
                go_wp2_with fail
                refine (bucket_take_yes B.out hn (by omega)).mono ?_
                rintro e w2 ⟨rfl, hB, hC⟩
                have B2 := Lib.hid hB
                have C2 := Lib.hid (C.out.then_ hC OW.out)
                clear hB hC
                go_wp2_with fail
                go_roundw
                case rel => exact ⟨0, t, n - 1, t + 1, k + 1, by omega, rfl, rfl, by go_num, by omega, by omega, by omega, by omega, by omega, fun _ => by rw [Int.mul_zero]; omega, B2.out, C2.out⟩
                case measure => simp [intOf]; omega
              · obtain rfl : n = 0 := by omega
                go_wp2_with fail
                refine (bucket_taken B.out).mono ?_
                rintro e w1 ⟨rfl, rfl⟩
                go_wp2_with fail
                refine (bucket_take_no B.out).mono ?_
                rintro e w2 ⟨rfl, hB, hC⟩
                have B2 := Lib.hid hB
                have C2 := Lib.hid (C.out.then_ hC OW.out)
                clear hB hC
                go_wp2_with fail
                go_roundw
                case rel => exact ⟨0, t, 0, t, k + 1, by omega, rfl, rfl, by go_num, by omega, by omega, by omega, by omega, by omega, fun _ => by rw [Int.mul_zero]; omega, B2.out, C2.out⟩
                case measure => simp [intOf]; omega
            · go_wp2_with fail
              refine (bucket_taken B.out).mono ?_
              rintro e w1 ⟨rfl, rfl⟩
              go_wp2_with fail
              refine (bucket_tick B.out).mono ?_
              rintro e w2 ⟨rfl, hB, hC⟩
              have B2 := Lib.hid hB
              have C2 := Lib.hid (C.out.then_ hC OW.out)
              clear hB hC
              go_wp2_with fail
              go_roundw
              case rel => exact ⟨1, t, mn most (n + r), t, k + 1, by omega, rfl, rfl, by go_num, by omega, by omega, by omega, by omega, by omega, fun _ => by rw [Int.mul_one]; unfold mn; split <;> omega, B2.out, C2.out⟩
              case measure => simp [intOf]; omega
          · have hkb : ((k : Int) == (T : Int)) = false := by simp; omega
            have hi : T < k → t - first + n ≤ most + r * q := hinv.out
            have hi2 := Lib.hid hi
            clear hi hinv
            cases tick
            · by_cases hn : 0 < n
              · go_wp2_with fail
                refine (bucket_take_yes B.out hn (by omega)).mono ?_
                rintro e w2 ⟨rfl, hB, hC⟩
                have B2 := Lib.hid hB
                have C2 := Lib.hid (C.out.then_ hC OW.out)
                clear hB hC
                go_wp2_with fail
                go_roundw
                case rel => exact ⟨q, first, n - 1, t + 1, k + 1, by omega, rfl, rfl, by go_num, by omega, by omega, by omega, by omega, by omega, fun h => by have := hi2.out (by omega); omega, B2.out, C2.out⟩
                case measure => simp [intOf]; omega
              · obtain rfl : n = 0 := by omega
                go_wp2_with fail
                refine (bucket_take_no B.out).mono ?_
                rintro e w2 ⟨rfl, hB, hC⟩
                have B2 := Lib.hid hB
                have C2 := Lib.hid (C.out.then_ hC OW.out)
                clear hB hC
                go_wp2_with fail
                go_roundw
                case rel => exact ⟨q, first, 0, t, k + 1, by omega, rfl, rfl, by go_num, by omega, by omega, by omega, by omega, by omega, fun h => by have := hi2.out (by omega); omega, B2.out, C2.out⟩
                case measure => simp [intOf]; omega
            · go_wp2_with fail
              refine (bucket_tick B.out).mono ?_
              rintro e w2 ⟨rfl, hB, hC⟩
              have B2 := Lib.hid hB
              have C2 := Lib.hid (C.out.then_ hC OW.out)
              clear hB hC
              go_wp2_with fail
              go_roundw
              case rel => exact ⟨q + 1, first, mn most (n + r), t, k + 1, by omega, rfl, rfl, by go_num, by omega, by omega, by omega, by omega, by omega, fun h => by have := hi2.out (by omega); rw [Int.mul_add, Int.mul_one]; unfold mn; split <;> omega, B2.out, C2.out⟩
              case measure => simp [intOf]; omega
        · by_cases hft2 : T = F
          · have hkb : ((T : Int) == (F : Int)) = true := by simp; omega
            clear hinv hft2
            go_wp2_with fail
            refine (awake_any _).mono ?_
            rintro e w8 ⟨rfl, hC⟩
            have C8 := Lib.hid (C.out.trans hC)
            clear hC
            go_wp2_with fail
            go_ret
            exact ⟨rfl, C8.out⟩
          · have hkb : ((T : Int) == (F : Int)) = false := by simp; omega
            have hi := hinv.out (by omega)
            clear hinv
            go_wp2_with fail
            refine (bucket_taken B.out).mono ?_
            rintro e w1 ⟨rfl, rfl⟩
            go_wp2_with fail
            refine (awake_any _).mono ?_
            rintro e w8 ⟨rfl, hC⟩
            have C8 := Lib.hid (C.out.trans hC)
            clear hC
            go_wp2_with fail
            go_ret
            exact ⟨rfl, C8.out⟩
    · go_enter Try.func3, Try.ntmps3
      go_wp2_with fail
      go_quiet (fail)
      go_wp2_with fail
      refine (bucket_new_id ha.1 (by omega) hb.1 (by omega) _).mono ?_
      rintro e w0 ⟨g, h, rfl, hg, hh, hB, hC⟩
      have OW : Hid (∀ j, j < w.heap.size → Two g h j → NoB j) := Lib.hid fun j hj h => absurd h (by unfold Two; have := hg; have := hh; simp at *; omega)
      have B0 := Lib.hid hB
      have C0 := Lib.hid (((Chg.refl NoB w).drewN nq).trans hC)
      clear hB hC
      generalize IntKind.u64.wrap r0 % 50 = r at *
      generalize IntKind.u64.wrap b0 % 50 = most at *
      have hL : T ≤ L := by omega
      go_wp2_with fail
      go_loopw [12, 13, 57] (fun a b i wr => ∃ (q first n t : Int) (k : Nat), k ≤ T ∧ a = .int .i64 q ∧ b = .int .i64 first ∧ i = .int .i64 k ∧ 0 ≤ q ∧ q ≤ k ∧ 0 ≤ first ∧ first ≤ t ∧ t ≤ k ∧ Hid (F < k → t - first + n ≤ most + r * q) ∧ BA wr g h r n most t ∧ Chg NoB w wr) (fun _ _ i _ => T - (intOf i).toNat)
      case atStart => exact ⟨0, 0, most, 0, 0, Nat.zero_le _, rfl, rfl, rfl, by decide, by decide, by decide, by decide, by decide, fun h => absurd h (by omega), B0.out, C0.out⟩
      case round =>
        clear B0 C0
        obtain ⟨q, first, n, t, k, hk, rfl, rfl, rfl, hq0, hq1, hf0, hf1, ht1, hinv, hB, hC⟩ := hrel
        have B := Lib.hid hB
        have C := Lib.hid hC
        have hlo := hB.ta.lo
        have hhi := hB.ta.hi
        have hr0 := hB.r0
        clear hB hC
        have hrq0 : 0 ≤ r * q := Int.mul_nonneg hr0 hq0
        have hrq1 : r * q ≤ 20000 := by
          have h1 : r * q ≤ 50 * q := Int.mul_le_mul_of_nonneg_right (by omega) hq0
          omega
        by_cases hlt : k < T
        · obtain ⟨b, off, rfl, hab, hcell⟩ := HCELLS.out (by omega)
          have hc : wr.cell? ⟨b, off + k, none⟩ = some (.bool (bs.getD k false)) := by
            rw [C.out.cell hab id]
            exact hcell k _ (HG.out k (by omega))
          generalize bs.getD k false = tick at *
          clear hcell HCELLS
          by_cases hkf : k = F
          · have hkb : ((k : Int) == (F : Int)) = true := by simp; omega
            have hk1 : k ≤ F := by omega
            have hk2 : F ≤ k := by omega
            clear hkf
            cases tick
            · by_cases hn : 0 < n
              · go_wp2_with fail
                refine (bucket_taken B.out).mono ?_
                rintro e w1 ⟨rfl, rfl⟩
                go_wp2_with fail
                refine (bucket_take_yes B.out hn (by omega)).mono ?_
                rintro e w2 ⟨rfl, hB, hC⟩
                have B2 := Lib.hid hB
                have C2 := Lib.hid (C.out.then_ hC OW.out)
                clear hB hC
                go_wp2_with fail
                go_roundw
                case rel => exact ⟨0, t, n - 1, t + 1, k + 1, by omega, rfl, rfl, by go_num, by omega, by omega, by omega, by omega, by omega, fun _ => by rw [Int.mul_zero]; omega, B2.out, C2.out⟩
                case measure => simp [intOf]; omega
              · obtain rfl : n = 0 := by omega
                go_wp2_with fail
                refine (bucket_taken B.out).mono ?_
                rintro e w1 ⟨rfl, rfl⟩
                go_wp2_with fail
                refine (bucket_take_no B.out).mono ?_
                rintro e w2 ⟨rfl, hB, hC⟩
                have B2 := Lib.hid hB
                have C2 := Lib.hid (C.out.then_ hC OW.out)
                clear hB hC
                go_wp2_with fail
                go_roundw
                case rel => exact ⟨0, t, 0, t, k + 1, by omega, rfl, rfl, by go_num, by omega, by omega, by omega, by omega, by omega, fun _ => by rw [Int.mul_zero]; omega, B2.out, C2.out⟩
                case measure => simp [intOf]; omega
            · go_wp2_with fail
              refine (bucket_taken B.out).mono ?_
              rintro e w1 ⟨rfl, rfl⟩
              go_wp2_with fail
              refine (bucket_tick B.out).mono ?_
              rintro e w2 ⟨rfl, hB, hC⟩
              have B2 := Lib.hid hB
              have C2 := Lib.hid (C.out.then_ hC OW.out)
              clear hB hC
              go_wp2_with fail
              go_roundw
              case rel => exact ⟨1, t, mn most (n + r), t, k + 1, by omega, rfl, rfl, by go_num, by omega, by omega, by omega, by omega, by omega, fun _ => by rw [Int.mul_one]; unfold mn; split <;> omega, B2.out, C2.out⟩
              case measure => simp [intOf]; omega
          · have hkb : ((k : Int) == (F : Int)) = false := by simp; omega
            have hi : F < k → t - first + n ≤ most + r * q := hinv.out
            have hi2 := Lib.hid hi
            clear hi hinv
            cases tick
            · by_cases hn : 0 < n
              · go_wp2_with fail
                refine (bucket_take_yes B.out hn (by omega)).mono ?_
                rintro e w2 ⟨rfl, hB, hC⟩
                have B2 := Lib.hid hB
                have C2 := Lib.hid (C.out.then_ hC OW.out)
                clear hB hC
                go_wp2_with fail
                go_roundw
                case rel => exact ⟨q, first, n - 1, t + 1, k + 1, by omega, rfl, rfl, by go_num, by omega, by omega, by omega, by omega, by omega, fun h => by have := hi2.out (by omega); omega, B2.out, C2.out⟩
                case measure => simp [intOf]; omega
              · obtain rfl : n = 0 := by omega
                go_wp2_with fail
                refine (bucket_take_no B.out).mono ?_
                rintro e w2 ⟨rfl, hB, hC⟩
                have B2 := Lib.hid hB
                have C2 := Lib.hid (C.out.then_ hC OW.out)
                clear hB hC
                go_wp2_with fail
                go_roundw
                case rel => exact ⟨q, first, 0, t, k + 1, by omega, rfl, rfl, by go_num, by omega, by omega, by omega, by omega, by omega, fun h => by have := hi2.out (by omega); omega, B2.out, C2.out⟩
                case measure => simp [intOf]; omega
            · go_wp2_with fail
              refine (bucket_tick B.out).mono ?_
              rintro e w2 ⟨rfl, hB, hC⟩
              have B2 := Lib.hid hB
              have C2 := Lib.hid (C.out.then_ hC OW.out)
              clear hB hC
              go_wp2_with fail
              go_roundw
              case rel => exact ⟨q + 1, first, mn most (n + r), t, k + 1, by omega, rfl, rfl, by go_num, by omega, by omega, by omega, by omega, by omega, fun h => by have := hi2.out (by omega); rw [Int.mul_add, Int.mul_one]; unfold mn; split <;> omega, B2.out, C2.out⟩
              case measure => simp [intOf]; omega
        · by_cases hft2 : F = T
          · have hkb : ((F : Int) == (T : Int)) = true := by simp; omega
            clear hinv hft2
            go_wp2_with fail
            refine (awake_any _).mono ?_
            rintro e w8 ⟨rfl, hC⟩
            have C8 := Lib.hid (C.out.trans hC)
            clear hC
            go_wp2_with fail
            go_ret
            exact ⟨rfl, C8.out⟩
          · have hkb : ((F : Int) == (T : Int)) = false := by simp; omega
            have hi := hinv.out (by omega)
            clear hinv
            go_wp2_with fail
            refine (bucket_taken B.out).mono ?_
            rintro e w1 ⟨rfl, rfl⟩
            go_wp2_with fail
            refine (awake_any _).mono ?_
            rintro e w8 ⟨rfl, hC⟩
            have C8 := Lib.hid (C.out.trans hC)
            clear hC
            go_wp2_with fail
            go_ret
            exact ⟨rfl, C8.out⟩
  · have hf := u64_mod (x := f0) (show (0 : Int) < (L : Int) + 1 by omega)
    have ht := u64_mod (x := t0) (show (0 : Int) < (L : Int) + 1 by omega)
    generalize hF : IntKind.u64.wrap f0 % ((L : Int) + 1) = F' at *
    generalize hT : IntKind.u64.wrap t0 % ((L : Int) + 1) = T' at *
    obtain ⟨F, rfl⟩ := Int.eq_ofNat_of_zero_le hf.1
    obtain ⟨T, rfl⟩ := Int.eq_ofNat_of_zero_le ht.1
    have hLu : IntKind.u64.wrap ((L : Int) + 1) = (L : Int) + 1 := by rw [IntKind.wrap_u64]; omega
    have hLi : IntKind.i64.wrap ((L : Int) + 1) = (L : Int) + 1 := by rw [IntKind.wrap_i64]; omega
    by_cases hft : T < F
    · go_enter Try.func3, Try.ntmps3
      go_wp2_with fail
      go_quiet (fail)
      go_wp2_with fail
      refine (bucket_new_id ha.1 (by omega) hb.1 (by omega) _).mono ?_
      rintro e w0 ⟨g, h, rfl, hg, hh, hB, hC⟩
      have OW : Hid (∀ j, j < w.heap.size → Two g h j → NoB j) := Lib.hid fun j hj h => absurd h (by unfold Two; have := hg; have := hh; simp at *; omega)
      have B0 := Lib.hid hB
      have C0 := Lib.hid (((Chg.refl NoB w).drewN nq).trans hC)
      clear hB hC
      generalize IntKind.u64.wrap r0 % 50 = r at *
      generalize IntKind.u64.wrap b0 % 50 = most at *
      have hL : F ≤ L := by omega
      go_wp2_with fail
      go_loopw [12, 13, 57] (fun a b i wr => ∃ (q first n t : Int) (k : Nat), k ≤ F ∧ a = .int .i64 q ∧ b = .int .i64 first ∧ i = .int .i64 k ∧ 0 ≤ q ∧ q ≤ k ∧ 0 ≤ first ∧ first ≤ t ∧ t ≤ k ∧ Hid (T < k → t - first + n ≤ most + r * q) ∧ BA wr g h r n most t ∧ Chg NoB w wr) (fun _ _ i _ => F - (intOf i).toNat)
      case atStart => exact ⟨0, 0, most, 0, 0, Nat.zero_le _, rfl, rfl, rfl, by decide, by decide, by decide, by decide, by decide, fun h => absurd h (by omega), B0.out, C0.out⟩
      case round =>
        clear B0 C0
        obtain ⟨q, first, n, t, k, hk, rfl, rfl, rfl, hq0, hq1, hf0, hf1, ht1, hinv, hB, hC⟩ := hrel
        have B := Lib.hid hB
        have C := Lib.hid hC
        have hlo := hB.ta.lo
        have hhi := hB.ta.hi
        have hr0 := hB.r0
        clear hB hC
        have hrq0 : 0 ≤ r * q := Int.mul_nonneg hr0 hq0
        have hrq1 : r * q ≤ 20000 := by
          have h1 : r * q ≤ 50 * q := Int.mul_le_mul_of_nonneg_right (by omega) hq0
          omega
        by_cases hlt : k < F
        · obtain ⟨b, off, rfl, hab, hcell⟩ := HCELLS.out (by omega)
          have hc : wr.cell? ⟨b, off + k, none⟩ = some (.bool (bs.getD k false)) := by
            rw [C.out.cell hab id]
            exact hcell k _ (HG.out k (by omega))
          generalize bs.getD k false = tick at *
          clear hcell HCELLS
          by_cases hkf : k = T
          · have hkb : ((k : Int) == (T : Int)) = true := by simp; omega
            have hk1 : k ≤ T := by omega
            have hk2 : T ≤ k := by omega
            clear hkf
            cases tick
            · by_cases hn : 0 < n
              · go_wp2_with fail
                refine (bucket_taken B.out).mono ?_
                rintro e w1 ⟨rfl, rfl⟩
                go_wp2_with fail
                refine (bucket_take_yes B.out hn (by omega)).mono ?_
                rintro e w2 ⟨rfl, hB, hC⟩
                have B2 := Lib.hid hB
                have C2 := Lib.hid (C.out.then_ hC OW.out)
                clear hB hC
                go_wp2_with fail
                go_roundw
                case rel => exact ⟨0, t, n - 1, t + 1, k + 1, by omega, rfl, rfl, by go_num, by omega, by omega, by omega, by omega, by omega, fun _ => by rw [Int.mul_zero]; omega, B2.out, C2.out⟩
                case measure => simp [intOf]; omega
              · obtain rfl : n = 0 := by omega
                go_wp2_with fail
                refine (bucket_taken B.out).mono ?_
                rintro e w1 ⟨rfl, rfl⟩
                go_wp2_with fail
                refine (bucket_take_no B.out).mono ?_
                rintro e w2 ⟨rfl, hB, hC⟩
                have B2 := Lib.hid hB
                have C2 := Lib.hid (C.out.then_ hC OW.out)
                clear hB hC
                go_wp2_with fail
                go_roundw
                case rel => exact ⟨0, t, 0, t, k + 1, by omega, rfl, rfl, by go_num, by omega, by omega, by omega, by omega, by omega, fun _ => by rw [Int.mul_zero]; omega, B2.out, C2.out⟩
                case measure => simp [intOf]; omega
            · go_wp2_with fail
              refine (bucket_taken B.out).mono ?_
              rintro e w1 ⟨rfl, rfl⟩
              go_wp2_with fail
              refine (bucket_tick B.out).mono ?_
              rintro e w2 ⟨rfl, hB, hC⟩
              have B2 := Lib.hid hB
              have C2 := Lib.hid (C.out.then_ hC OW.out)
              clear hB hC
              go_wp2_with fail
              go_roundw
              case rel => exact ⟨1, t, mn most (n + r), t, k + 1, by omega, rfl, rfl, by go_num, by omega, by omega, by omega, by omega, by omega, fun _ => by rw [Int.mul_one]; unfold mn; split <;> omega, B2.out, C2.out⟩
              case measure => simp [intOf]; omega
          · have hkb : ((k : Int) == (T : Int)) = false := by simp; omega
            have hi : T < k → t - first + n ≤ most + r * q := hinv.out
            have hi2 := Lib.hid hi
            clear hi hinv
            cases tick
            · by_cases hn : 0 < n
              · go_wp2_with fail
                refine (bucket_take_yes B.out hn (by omega)).mono ?_
                rintro e w2 ⟨rfl, hB, hC⟩
                have B2 := Lib.hid hB
                have C2 := Lib.hid (C.out.then_ hC OW.out)
                clear hB hC
                go_wp2_with fail
                go_roundw
                case rel => exact ⟨q, first, n - 1, t + 1, k + 1, by omega, rfl, rfl, by go_num, by omega, by omega, by omega, by omega, by omega, fun h => by have := hi2.out (by omega); omega, B2.out, C2.out⟩
                case measure => simp [intOf]; omega
              · obtain rfl : n = 0 := by omega
                go_wp2_with fail
                refine (bucket_take_no B.out).mono ?_
                rintro e w2 ⟨rfl, hB, hC⟩
                have B2 := Lib.hid hB
                have C2 := Lib.hid (C.out.then_ hC OW.out)
                clear hB hC
                go_wp2_with fail
                go_roundw
                case rel => exact ⟨q, first, 0, t, k + 1, by omega, rfl, rfl, by go_num, by omega, by omega, by omega, by omega, by omega, fun h => by have := hi2.out (by omega); omega, B2.out, C2.out⟩
                case measure => simp [intOf]; omega
            · go_wp2_with fail
              refine (bucket_tick B.out).mono ?_
              rintro e w2 ⟨rfl, hB, hC⟩
              have B2 := Lib.hid hB
              have C2 := Lib.hid (C.out.then_ hC OW.out)
              clear hB hC
              go_wp2_with fail
              go_roundw
              case rel => exact ⟨q + 1, first, mn most (n + r), t, k + 1, by omega, rfl, rfl, by go_num, by omega, by omega, by omega, by omega, by omega, fun h => by have := hi2.out (by omega); rw [Int.mul_add, Int.mul_one]; unfold mn; split <;> omega, B2.out, C2.out⟩
              case measure => simp [intOf]; omega
        · by_cases hft2 : T = F
          · have hkb : ((T : Int) == (F : Int)) = true := by simp; omega
            clear hinv hft2
            go_wp2_with fail
            refine (awake_any _).mono ?_
            rintro e w8 ⟨rfl, hC⟩
            have C8 := Lib.hid (C.out.trans hC)
            clear hC
            go_wp2_with fail
            go_ret
            exact ⟨rfl, C8.out⟩
          · have hkb : ((T : Int) == (F : Int)) = false := by simp; omega
            have hi := hinv.out (by omega)
            clear hinv
            go_wp2_with fail
            refine (bucket_taken B.out).mono ?_
            rintro e w1 ⟨rfl, rfl⟩
            go_wp2_with fail
            refine (awake_any _).mono ?_
            rintro e w8 ⟨rfl, hC⟩
            have C8 := Lib.hid (C.out.trans hC)
            clear hC
            go_wp2_with fail
            go_ret
            exact ⟨rfl, C8.out⟩
    · go_enter Try.func3, Try.ntmps3
      go_wp2_with fail
      go_quiet (fail)
      go_wp2_with fail
      refine (bucket_new_id ha.1 (by omega) hb.1 (by omega) _).mono ?_
      rintro e w0 ⟨g, h, rfl, hg, hh, hB, hC⟩
      have OW : Hid (∀ j, j < w.heap.size → Two g h j → NoB j) := Lib.hid fun j hj h => absurd h (by unfold Two; have := hg; have := hh; simp at *; omega)
      have B0 := Lib.hid hB
      have C0 := Lib.hid (((Chg.refl NoB w).drewN nq).trans hC)
      clear hB hC
      generalize IntKind.u64.wrap r0 % 50 = r at *
      generalize IntKind.u64.wrap b0 % 50 = most at *
      have hL : T ≤ L := by omega
      go_wp2_with fail
      go_loopw [12, 13, 57] (fun a b i wr => ∃ (q first n t : Int) (k : Nat), k ≤ T ∧ a = .int .i64 q ∧ b = .int .i64 first ∧ i = .int .i64 k ∧ 0 ≤ q ∧ q ≤ k ∧ 0 ≤ first ∧ first ≤ t ∧ t ≤ k ∧ Hid (F < k → t - first + n ≤ most + r * q) ∧ BA wr g h r n most t ∧ Chg NoB w wr) (fun _ _ i _ => T - (intOf i).toNat)
      case atStart => exact ⟨0, 0, most, 0, 0, Nat.zero_le _, rfl, rfl, rfl, by decide, by decide, by decide, by decide, by decide, fun h => absurd h (by omega), B0.out, C0.out⟩
      case round =>
        clear B0 C0
        obtain ⟨q, first, n, t, k, hk, rfl, rfl, rfl, hq0, hq1, hf0, hf1, ht1, hinv, hB, hC⟩ := hrel
        have B := Lib.hid hB
        have C := Lib.hid hC
        have hlo := hB.ta.lo
        have hhi := hB.ta.hi
        have hr0 := hB.r0
        clear hB hC
        have hrq0 : 0 ≤ r * q := Int.mul_nonneg hr0 hq0
        have hrq1 : r * q ≤ 20000 := by
          have h1 : r * q ≤ 50 * q := Int.mul_le_mul_of_nonneg_right (by omega) hq0
          omega
        by_cases hlt : k < T
        · obtain ⟨b, off, rfl, hab, hcell⟩ := HCELLS.out (by omega)
          have hc : wr.cell? ⟨b, off + k, none⟩ = some (.bool (bs.getD k false)) := by
            rw [C.out.cell hab id]
            exact hcell k _ (HG.out k (by omega))
          generalize bs.getD k false = tick at *
          clear hcell HCELLS
          by_cases hkf : k = F
          · have hkb : ((k : Int) == (F : Int)) = true := by simp; omega
            have hk1 : k ≤ F := by omega
            have hk2 : F ≤ k := by omega
            clear hkf
            cases tick
            · by_cases hn : 0 < n
              · go_wp2_with fail
                refine (bucket_taken B.out).mono ?_
                rintro e w1 ⟨rfl, rfl⟩
                go_wp2_with fail
                refine (bucket_take_yes B.out hn (by omega)).mono ?_
                rintro e w2 ⟨rfl, hB, hC⟩
                have B2 := Lib.hid hB
                have C2 := Lib.hid (C.out.then_ hC OW.out)
                clear hB hC
                go_wp2_with fail
                go_roundw
                case rel => exact ⟨0, t, n - 1, t + 1, k + 1, by omega, rfl, rfl, by go_num, by omega, by omega, by omega, by omega, by omega, fun _ => by rw [Int.mul_zero]; omega, B2.out, C2.out⟩
                case measure => simp [intOf]; omega
              · obtain rfl : n = 0 := by omega
                go_wp2_with fail
                refine (bucket_taken B.out).mono ?_
                rintro e w1 ⟨rfl, rfl⟩
                go_wp2_with fail
                refine (bucket_take_no B.out).mono ?_
                rintro e w2 ⟨rfl, hB, hC⟩
                have B2 := Lib.hid hB
                have C2 := Lib.hid (C.out.then_ hC OW.out)
                clear hB hC
                go_wp2_with fail
                go_roundw
                case rel => exact ⟨0, t, 0, t, k + 1, by omega, rfl, rfl, by go_num, by omega, by omega, by omega, by omega, by omega, fun _ => by rw [Int.mul_zero]; omega, B2.out, C2.out⟩
                case measure => simp [intOf]; omega
            · go_wp2_with fail
              refine (bucket_taken B.out).mono ?_
              rintro e w1 ⟨rfl, rfl⟩
              go_wp2_with fail
              refine (bucket_tick B.out).mono ?_
              rintro e w2 ⟨rfl, hB, hC⟩
              have B2 := Lib.hid hB
              have C2 := Lib.hid (C.out.then_ hC OW.out)
              clear hB hC
              go_wp2_with fail
              go_roundw
              case rel => exact ⟨1, t, mn most (n + r), t, k + 1, by omega, rfl, rfl, by go_num, by omega, by omega, by omega, by omega, by omega, fun _ => by rw [Int.mul_one]; unfold mn; split <;> omega, B2.out, C2.out⟩
              case measure => simp [intOf]; omega
          · have hkb : ((k : Int) == (F : Int)) = false := by simp; omega
            have hi : F < k → t - first + n ≤ most + r * q := hinv.out
            have hi2 := Lib.hid hi
            clear hi hinv
            cases tick
            · by_cases hn : 0 < n
              · go_wp2_with fail
                refine (bucket_take_yes B.out hn (by omega)).mono ?_
                rintro e w2 ⟨rfl, hB, hC⟩
                have B2 := Lib.hid hB
                have C2 := Lib.hid (C.out.then_ hC OW.out)
                clear hB hC
                go_wp2_with fail
                go_roundw
                case rel => exact ⟨q, first, n - 1, t + 1, k + 1, by omega, rfl, rfl, by go_num, by omega, by omega, by omega, by omega, by omega, fun h => by have := hi2.out (by omega); omega, B2.out, C2.out⟩
                case measure => simp [intOf]; omega
              · obtain rfl : n = 0 := by omega
                go_wp2_with fail
                refine (bucket_take_no B.out).mono ?_
                rintro e w2 ⟨rfl, hB, hC⟩
                have B2 := Lib.hid hB
                have C2 := Lib.hid (C.out.then_ hC OW.out)
                clear hB hC
                go_wp2_with fail
                go_roundw
                case rel => exact ⟨q, first, 0, t, k + 1, by omega, rfl, rfl, by go_num, by omega, by omega, by omega, by omega, by omega, fun h => by have := hi2.out (by omega); omega, B2.out, C2.out⟩
                case measure => simp [intOf]; omega
            · go_wp2_with fail
              refine (bucket_tick B.out).mono ?_
              rintro e w2 ⟨rfl, hB, hC⟩
              have B2 := Lib.hid hB
              have C2 := Lib.hid (C.out.then_ hC OW.out)
              clear hB hC
              go_wp2_with fail
              go_roundw
              case rel => exact ⟨q + 1, first, mn most (n + r), t, k + 1, by omega, rfl, rfl, by go_num, by omega, by omega, by omega, by omega, by omega, fun h => by have := hi2.out (by omega); rw [Int.mul_add, Int.mul_one]; unfold mn; split <;> omega, B2.out, C2.out⟩
              case measure => simp [intOf]; omega
        · by_cases hft2 : F = T
          · have hkb : ((F : Int) == (T : Int)) = true := by simp; omega
            clear hinv hft2
            go_wp2_with fail
            refine (awake_any _).mono ?_
            rintro e w8 ⟨rfl, hC⟩
            have C8 := Lib.hid (C.out.trans hC)
            clear hC
            go_wp2_with fail
            go_ret
            exact ⟨rfl, C8.out⟩
          · have hkb : ((F : Int) == (T : Int)) = false := by simp; omega
            have hi := hinv.out (by omega)
            clear hinv
            go_wp2_with fail
            refine (bucket_taken B.out).mono ?_
            rintro e w1 ⟨rfl, rfl⟩
            go_wp2_with fail
            refine (awake_any _).mono ?_
            rintro e w8 ⟨rfl, hC⟩
            have C8 := Lib.hid (C.out.trans hC)
            clear hC
            go_wp2_with fail
            go_ret
            exact ⟨rfl, C8.out⟩

theorem bucketBounds_walk (r b : Int) (v : Value) (D : List Bool) (f t : Int) (W : World) (_w0 : (Lit.int .i64 r).wf = true) (_w1 : (Lit.int .i64 b).wf = true) (w2 : SliceAt W v 1 D.length (D.map Value.bool)) (_w3 : (Lit.int .i64 f).wf = true) (_w4 : (Lit.int .i64 t).wf = true) :
    Calls Try.prog 3 #[.int .i64 r, .int .i64 b, v, .int .i64 f, .int .i64 t] W fun e w' => e = .returned (.bool true) ∧ Below W.heap.size W w' :=
  (bounds_any r b f t v D W w2).mono fun _ _ ⟨h1, h2⟩ => ⟨h1, h2.below⟩
end Go.Proofs.Ytkbjfnmejhjodaa
