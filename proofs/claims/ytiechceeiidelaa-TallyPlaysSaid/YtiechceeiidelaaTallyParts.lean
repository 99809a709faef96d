/- The walk of TallyParts: it answers true. -/
import Derived.Test.YtiechceeiidelaaTallyAwake
namespace Go.Proofs.Ytiechceeiidelaa
open Go.RowKit

theorem i64_mask40 (n : Int) : bits .and .i64 n 1099511627775 = n % 1099511627776 := by
  have h40 : (BitVec.ofInt 64 1099511627775).toNat = 2 ^ 40 - 1 := by decide
  have key : (BitVec.ofInt 64 n &&& BitVec.ofInt 64 1099511627775).toNat = (n % ((2 ^ 64 : Nat) : Int)).toNat % 2 ^ 40 := by
    rw [BitVec.toNat_and, BitVec.toNat_ofInt, h40, Nat.and_two_pow_sub_one_eq_mod]
  show IntKind.i64.wrap ((BitVec.ofInt 64 n &&& BitVec.ofInt 64 1099511627775).toNat : Nat) = n % 1099511627776
  rw [key, IntKind.wrap_i64]
  omega

/-- Adding, whatever comes of it. -/
theorem tally_add {w : World} {g : Nat} {now most : Int} (hT : TA w g now most) (n : Int) :
    Calls Try.prog 10 #[.pointer (some ⟨g, 0, none⟩), .int .i64 n] w fun e w' => ∃ (x : Int) (b : Bool), e = .returned (.tuple #[.int .i64 x, .bool b]) ∧ TA w' g x most ∧ Chg (Only g) w w' ∧
      ((b = true ∧ x = now + n ∧ 0 ≤ n ∧ n ≤ most - now) ∨ (b = false ∧ x = now ∧ ¬ (0 ≤ n ∧ n ≤ most - now))) := by
  by_cases a : 0 ≤ n ∧ n ≤ most - now
  · exact (tally_add_yes hT n a.1 a.2).mono fun e w' ⟨h1, h2, h3⟩ => ⟨_, _, h1, h2, h3, .inl ⟨rfl, rfl, a⟩⟩
  · exact (tally_add_no hT n a).mono fun e w' ⟨h1, h2, h3⟩ => ⟨_, _, h1, h2, h3, .inr ⟨rfl, rfl, a⟩⟩

theorem parts_any (m a b a' b' : Int) (w : World) (hm : m ≤ 9223372036854775807) (ha : bits .and .i64 a 1099511627775 = a') (hb : bits .and .i64 b 1099511627775 = b')
    (ha0 : 0 ≤ a') (ha1 : a' < 1099511627776) (hb0 : 0 ≤ b') (hb1 : b' < 1099511627776) :
    Calls Try.prog 3 #[.int .i64 m, .int .i64 a, .int .i64 b] w fun e w' => e = .returned (.bool true) ∧ Chg NoB w w' := by
  go_enter Try.func3, Try.ntmps3
  go_wp2_with fail
  clear ha hb
  refine (tally_new m _ hm).mono ?_
  rintro e w1 ⟨rfl, hT, hC⟩
  have hz1 := hT.blk.lt
  have HC := Lib.hid hC
  clear hC
  go_wp2_with fail
  refine (tally_new m _ hm).mono ?_
  rintro e w2 ⟨rfl, hU, hC2⟩
  have hz2 := hU.blk.lt
  have hT := hT.chg hC2 id
  have HC := Lib.hid (HC.out.trans hC2)
  clear hC2
  go_wp2_with fail
  refine (tally_new m _ hm).mono ?_
  rintro e w3 ⟨rfl, hV, hC2⟩
  have hz3 := hV.blk.lt
  have hT := hT.chg hC2 id
  have hU := hU.chg hC2 id
  have HC := Lib.hid (HC.out.trans hC2)
  clear hC2
  generalize hg1 : w.heap.size = g1 at *
  generalize hg2 : w1.heap.size = g2 at *
  generalize hg3 : w2.heap.size = g3 at *
  have h12 : g1 < g2 := by omega
  have h23 : g2 < g3 := by omega
  have hwg : w.heap.size ≤ g1 := by omega
  clear hg1 hg2 hg3 hz1 hz2 hz3
  go_wp2_with fail
  refine (tally_add hT a').mono ?_
  rintro e w4 ⟨x, bx, rfl, hT4, hC, hx⟩
  have hU := hU.chg hC (by unfold Only; omega)
  have hV := hV.chg hC (by unfold Only; omega)
  have HC := Lib.hid (HC.out.then_ hC fun j hj h => absurd h (by unfold Only; omega))
  have HX := Lib.hid hx
  clear hC hT hx
  go_wp2_with fail
  refine (tally_add hT4 b').mono ?_
  rintro e w5 ⟨y, by_, rfl, hT, hC, hy⟩
  have hU := hU.chg hC (by unfold Only; omega)
  have hV := hV.chg hC (by unfold Only; omega)
  have HC := Lib.hid (HC.out.then_ hC fun j hj h => absurd h (by unfold Only; omega))
  have HY := Lib.hid hy
  clear hC hT4 hy
  go_wp2_with fail
  refine (tally_add hU (a' + b')).mono ?_
  rintro e w6 ⟨z, bz, rfl, hU, hC, hz⟩
  have hT := hT.chg hC (by unfold Only; omega)
  have hV := hV.chg hC (by unfold Only; omega)
  have HC := Lib.hid (HC.out.then_ hC fun j hj h => absurd h (by unfold Only; omega))
  have HZ := Lib.hid hz
  clear hC hz
  have h1 := HX.out
  have h2 := HY.out
  have h3 := HZ.out
  clear HX HY HZ
  generalize mx0 m = M at *
  have HT := Lib.hid hT
  have HV := Lib.hid hV
  clear hT hV hU
  rcases h1 with ⟨rfl, rfl, p1, p2⟩ | ⟨rfl, rfl, p⟩ <;> rcases h2 with ⟨rfl, rfl, q1, q2⟩ | ⟨rfl, rfl, q⟩ <;> rcases h3 with ⟨rfl, rfl, r1, r2⟩ | ⟨rfl, rfl, r⟩
  all_goals first | (exfalso; omega) | skip
  all_goals simp only [Int.zero_add] at *
  all_goals (try clear p); (try clear q); (try clear r)
  all_goals go_wp2_with fail
  all_goals (refine (tally_now HT.out).mono ?_; rintro e w7 ⟨rfl, rfl⟩)
  all_goals go_wp2_with fail
  all_goals (refine (tally_add HT.out 5).mono ?_; rintro e w7 ⟨x7, b7, rfl, hT, hC, hx⟩)
  all_goals
    have HV7 := Lib.hid (HV.out.chg hC (by unfold Only; omega))
    have HC7 := Lib.hid (HC.out.then_ hC fun j hj h => absurd h (by unfold Only; omega))
    have hM := hT.top
    have HT7 := Lib.hid hT
    clear hT HT HV HC hC
    rcases hx with ⟨rfl, rfl, s1, s2⟩ | ⟨rfl, rfl, t⟩
    · go_wp2_with fail
      refine (tally_take_yes HT7.out 5 (by decide) (by omega)).mono ?_
      rintro e w8 ⟨rfl, hT, hC⟩
      simp only [Int.add_sub_cancel] at hT
      have HV := Lib.hid (HV7.out.chg hC (by unfold Only; omega))
      have HC := Lib.hid (HC7.out.then_ hC fun j hj h => absurd h (by unfold Only; omega))
      have HT := Lib.hid hT
      clear hC hT
      go_wp2_with fail
      refine (tally_now HT.out).mono ?_
      rintro e w9 ⟨rfl, rfl⟩
      go_wp2_with fail
      refine (tally_now HV.out).mono ?_
      rintro e w9 ⟨rfl, rfl⟩
      go_wp2_with fail
      refine (awake_any _).mono ?_
      rintro e w9 ⟨rfl, hC⟩
      have HC := Lib.hid (HC.out.trans hC)
      clear hC
      go_wp2_with fail
      go_ret
      exact ⟨rfl, HC.out⟩
    · clear t
      go_wp2_with fail
      refine (tally_now HT7.out).mono ?_
      rintro e w9 ⟨rfl, rfl⟩
      go_wp2_with fail
      refine (tally_now HV7.out).mono ?_
      rintro e w9 ⟨rfl, rfl⟩
      go_wp2_with fail
      refine (awake_any _).mono ?_
      rintro e w9 ⟨rfl, hC⟩
      have HC := Lib.hid (HC7.out.trans hC)
      clear hC
      go_wp2_with fail
      go_ret
      exact ⟨rfl, HC.out⟩

theorem tallyParts_walk (m a b : Int) (W : World) (w0 : (Lit.int .i64 m).wf = true) (_w1 : (Lit.int .i64 a).wf = true) (_w2 : (Lit.int .i64 b).wf = true) :
    Calls Try.prog 3 #[.int .i64 m, .int .i64 a, .int .i64 b] W fun e w' => e = .returned (.bool true) ∧ Below W.heap.size W w' := by
  have h := w0
  simp only [Lit.wf, Bool.and_eq_true, decide_eq_true_eq] at h
  exact (parts_any m a b _ _ W h.2 (i64_mask40 a) (i64_mask40 b) (by omega) (by omega) (by omega) (by omega)).mono fun _ _ ⟨h1, h2⟩ => ⟨h1, h2.below⟩
end Go.Proofs.Ytiechceeiidelaa
