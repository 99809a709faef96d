/- The walk of BucketPlays: it answers true. -/
import Derived.Test.YtkbjfnmejhjodaaBucketAwake
import Derived.Test.YtkbjfnmejhjodaaArgs
import Derived.LoopTactic
namespace Go.Proofs.Ytkbjfnmejhjodaa
open Go.RowKit
attribute [local go_sem] max2_mx min2_mn max_two_ min_two_

theorem clip_any (n : Int) (w : World) : Calls Try.prog 14 #[.int .i64 n] w fun e w' => e = .returned (.int .i64 (clip n)) ∧ w' = w := by
  go_enter Try.func14, Try.ntmps14
  go_wp2
  go_ret
  exact ⟨rfl, rfl⟩

theorem getD_cell {α : Type} {f : α → Value} {xs : List α} {k : Nat} (d : α) (h : k < xs.length) : (xs.map f)[k]? = some (f (xs.getD k d)) := by
  rw [List.getElem?_map, List.getD_eq_getElem?_getD, List.getElem?_eq_getElem h]; rfl

set_option maxRecDepth 100000 in
theorem plays_any (r0 b0 : Int) (v : Value) (bs : List Bool) (w : World) (hs : SliceAt w v 1 bs.length (bs.map Value.bool)) :
    Calls Try.prog 5 #[.int .i64 r0, .int .i64 b0, v] w fun e w' => e = .returned (.bool true) ∧ Chg NoB w w' := by
  obtain ⟨A, cap, rfl, hcap, hmax, _, hcells⟩ := hs
  unfold maxLen at hmax
  have HG : Hid (∀ k, k < bs.length → (bs.map Value.bool)[k]? = some (.bool (bs.getD k false))) := Lib.hid fun k hk => getD_cell false hk
  generalize bs.length = L at *
  have HCELLS := Lib.hid hcells
  clear hcells
  go_enter Try.func5, Try.ntmps5
  go_wp2_with fail
  refine (bucket_new r0 b0 _).mono ?_
  rintro e w0 ⟨g, h, rfl, hg, hh, hB, hC⟩
  have OW : Hid (∀ j, j < w.heap.size → Two g h j → NoB j) := Lib.hid fun j hj h => absurd h (by unfold Two; omega)
  have B0 := Lib.hid hB
  have C0 := Lib.hid hC
  clear hB hC
  go_wp2_with (first | (go_at_call 14; refine (clip_any _ _).mono ?_; rintro e w' ⟨rfl, rfl⟩))
  generalize clip r0 = r at *
  generalize clip b0 = most at *
  have r1 := B0.out.r0
  have r2 := B0.out.r1
  have m0 := B0.out.ta.lo
  have m1 := B0.out.m1
  go_loopw [10, 11, 25] (fun a b i wr => ∃ (n t : Int) (k : Nat), k ≤ L ∧ a = .int .i64 n ∧ b = .int .i64 t ∧ t ≤ k ∧ i = .int .i64 k ∧ BA wr g h r n most t ∧ Chg NoB w wr) (fun _ _ i _ => L - (intOf i).toNat)
  case atStart => exact ⟨most, 0, 0, Nat.zero_le _, rfl, rfl, by decide, rfl, B0.out, C0.out⟩
  case round =>
    clear B0 C0
    obtain ⟨n, t, k, hk, rfl, rfl, htk, rfl, hB, hC⟩ := hrel
    have B := Lib.hid hB
    have C := Lib.hid hC
    have hlo := hB.ta.lo
    have hhi := hB.ta.hi
    have ht0 := hB.t0
    clear hB hC
    by_cases hlt : k < L
    · obtain ⟨b, off, rfl, hab, hcell⟩ := HCELLS.out (by omega)
      have hc : wr.cell? ⟨b, off + k, none⟩ = some (.bool (bs.getD k false)) := by
        rw [C.out.cell hab id]
        exact hcell k _ (HG.out k hlt)
      generalize bs.getD k false = tick at *
      clear hcell HCELLS
      by_cases hlt2 : k < 300
      · cases tick
        · by_cases hn : 0 < n
          · go_wp2_with fail
            refine (bucket_take_yes B.out hn (by omega)).mono ?_
            rintro e w2 ⟨rfl, hB, hC⟩
            have B2 := Lib.hid hB
            have C2 := Lib.hid (C.out.then_ hC OW.out)
            clear hB hC
            go_wp2_with fail
            refine (bucket_left B2.out).mono ?_
            rintro e w3 ⟨rfl, rfl⟩
            go_wp2_with fail
            refine (bucket_taken B2.out).mono ?_
            rintro e w3 ⟨rfl, rfl⟩
            go_wp2_with fail
            go_roundw
            case rel => exact ⟨n - 1, t + 1, k + 1, by omega, rfl, rfl, by omega, by go_num, B2.out, C2.out⟩
            case measure => simp [intOf]; omega
          · obtain rfl : n = 0 := by omega
            go_wp2_with fail
            refine (bucket_take_no B.out).mono ?_
            rintro e w2 ⟨rfl, hB, hC⟩
            have B2 := Lib.hid hB
            have C2 := Lib.hid (C.out.then_ hC OW.out)
            clear hB hC
            go_wp2_with fail
            refine (bucket_left B2.out).mono ?_
            rintro e w3 ⟨rfl, rfl⟩
            go_wp2_with fail
            refine (bucket_taken B2.out).mono ?_
            rintro e w3 ⟨rfl, rfl⟩
            go_wp2_with fail
            go_roundw
            case rel => exact ⟨0, t, k + 1, by omega, rfl, rfl, by omega, by go_num, B2.out, C2.out⟩
            case measure => simp [intOf]; omega
        · go_wp2_with fail
          refine (bucket_tick B.out).mono ?_
          rintro e w2 ⟨rfl, hB, hC⟩
          have B2 := Lib.hid hB
          have C2 := Lib.hid (C.out.then_ hC OW.out)
          clear hB hC
          go_wp2_with fail
          refine (bucket_left B2.out).mono ?_
          rintro e w3 ⟨rfl, rfl⟩
          go_wp2_with fail
          refine (bucket_taken B2.out).mono ?_
          rintro e w3 ⟨rfl, rfl⟩
          go_wp2_with fail
          go_roundw
          case rel => exact ⟨_, t, k + 1, by omega, rfl, rfl, by omega, by go_num, B2.out, C2.out⟩
          case measure => simp [intOf]; omega
      · go_wp2_with fail
        refine (awake_any _).mono ?_
        rintro e w8 ⟨rfl, hC⟩
        have C8 := Lib.hid (C.out.trans hC)
        clear hC
        go_wp2_with fail
        go_ret
        exact ⟨rfl, C8.out⟩
    · go_wp2_with fail
      refine (awake_any _).mono ?_
      rintro e w8 ⟨rfl, hC⟩
      have C8 := Lib.hid (C.out.trans hC)
      clear hC
      go_wp2_with fail
      go_ret
      exact ⟨rfl, C8.out⟩

theorem bucketPlays_walk (r b : Int) (v : Value) (D : List Bool) (W : World) (_w0 : (Lit.int .i64 r).wf = true) (_w1 : (Lit.int .i64 b).wf = true) (w2 : SliceAt W v 1 D.length (D.map Value.bool)) :
    Calls Try.prog 5 #[.int .i64 r, .int .i64 b, v] W fun e w' => e = .returned (.bool true) ∧ Below W.heap.size W w' :=
  (plays_any r b v D W w2).mono fun _ _ ⟨h1, h2⟩ => ⟨h1, h2.below⟩
end Go.Proofs.Ytkbjfnmejhjodaa
