/- What is written is read as it was: bytes. The plain law: no program in sight. -/
import Derived.Test.YthkmocfdpmlllabDoorWireR
namespace Go.Proofs.YthkmocfdpmlllabDoor
open Go.RowKit

theorem bits_or_u64_nat (a b : Nat) (ha : a < 18446744073709551616) (hb : b < 18446744073709551616) : bits .or .u64 (a : Int) (b : Int) = ((a ||| b : Nat) : Int) := by
  have hx : a ||| b < 2 ^ 64 := Nat.or_lt_two_pow (by omega) (by omega)
  have h1 : (BitVec.ofInt 64 (a : Int)).toNat = a := by
    rw [BitVec.ofInt_natCast, BitVec.toNat_ofNat]; exact Nat.mod_eq_of_lt (by omega)
  have h2 : (BitVec.ofInt 64 (b : Int)).toNat = b := by
    rw [BitVec.ofInt_natCast, BitVec.toNat_ofNat]; exact Nat.mod_eq_of_lt (by omega)
  show IntKind.u64.wrap ((BitVec.ofInt 64 (a : Int) ||| BitVec.ofInt 64 (b : Int)).toNat : Int) = _
  rw [BitVec.toNat_or, h1, h2, IntKind.wrap_u64]
  omega
theorem or128 : ∀ c : Fin 256, bits .or .u8 ((c.val : Nat) : Int) 128 = ((c.val % 128 + 128 : Nat) : Int) := by decide +kernel
theorem andNot128 : ∀ c : Fin 256, bits .andNot .u8 ((c.val : Nat) : Int) 128 = ((c.val % 128 : Nat) : Int) := by decide +kernel
theorem stp_nat {i y c : Nat} (hc : c < 256) (hy : y < 2 ^ (7 * i)) (hb : y + (c % 128) * 2 ^ (7 * i) < 18446744073709551616) : stp i (y : Int) (c : Int) = ((y + (c % 128) * 2 ^ (7 * i) : Nat) : Int) := by
  have h1 := andNot128 ⟨c, hc⟩
  simp only at h1
  unfold stp
  have hw : IntKind.u64.wrap ((c % 128 : Nat) : Int) = ((c % 128 : Nat) : Int) := by rw [IntKind.wrap_u64]; omega
  have hp : ((2 : Int) ^ (7 * i)) = ((2 ^ (7 * i) : Nat) : Int) := by norm_cast
  have hz : (c % 128) * 2 ^ (7 * i) < 18446744073709551616 := by omega
  have hw2 : IntKind.u64.wrap (((c % 128 : Nat) : Int) * (2 : Int) ^ (7 * i)) = (((c % 128) * 2 ^ (7 * i) : Nat) : Int) := by
    rw [hp, ← Int.natCast_mul, IntKind.wrap_u64]
    omega
  rw [h1, hw, hw2, bits_or_u64_nat _ _ (by omega) hz]
  congr 1
  have := Nat.two_pow_add_eq_or_of_lt hy (c % 128)
  rw [Nat.or_comm, Nat.mul_comm, ← this, Nat.add_comm]
theorem read_back : ∀ (f i m y : Nat) (r : List Int), f + i = 10 → 0 < f → (0 < i → 0 < m) → y < 2 ^ (7 * i) → y + m * 2 ^ (7 * i) < 18446744073709551616 → rnum f i (y : Int) (nb m ++ r) = (((y + m * 2 ^ (7 * i) : Nat) : Int), 0, r)
  | 0, _, _, _, _, _, h0, _, _, _ => absurd h0 (by omega)
  | f + 1, i, m, y, r, hf, _, hm, hy, hb => by
    have hpow : (2 : Nat) ^ (7 * (i + 1)) = 128 * 2 ^ (7 * i) := by
      rw [show 7 * (i + 1) = 7 + 7 * i by omega, Nat.pow_add]
    by_cases h : m < 128
    · rw [nb_small h, List.singleton_append, rnum]
      have hnb : ¬ bad i (m : Int) := by
        unfold bad
        rintro (⟨rfl, h1⟩ | ⟨h1, h2⟩)
        · have : m * 9223372036854775808 < 18446744073709551616 := by
            have h9 : (2 : Nat) ^ (7 * 9) = 9223372036854775808 := by decide
            rw [h9] at hb
            omega
          omega
        · have := hm h1
          omega
      rw [if_neg hnb, if_pos (by omega)]
      have hmod : m % 128 = m := Nat.mod_eq_of_lt h
      have hs := stp_nat (i := i) (y := y) (c := m) (by omega) hy (by rw [hmod]; exact hb)
      rw [hs, hmod]
    · rw [nb_big h, List.cons_append, rnum]
      have hx : bits .or .u8 ((m : Int) % 256) 128 = ((m % 256 % 128 + 128 : Nat) : Int) := by
        have := or128 ⟨m % 256, Nat.mod_lt _ (by decide)⟩
        simpa using this
      have hx2 : m % 256 % 128 + 128 < 256 := by omega
      have hmm : (m % 256 % 128 + 128) % 128 = m % 128 := by omega
      rw [hx]
      have hi9 : i ≠ 9 := by
        rintro rfl
        have h9 : (2 : Nat) ^ (7 * 9) = 9223372036854775808 := by decide
        rw [h9] at hb
        omega
      have hnb : ¬ bad i ((m % 256 % 128 + 128 : Nat) : Int) := by
        unfold bad
        rintro (⟨h1, _⟩ | ⟨_, h2⟩)
        · exact hi9 h1
        · omega
      rw [if_neg hnb, if_neg (by omega)]
      have hdm : m = 128 * (m / 128) + m % 128 := (Nat.div_add_mod m 128).symm
      have hsum : y + (m % 128) * 2 ^ (7 * i) + (m / 128) * (128 * 2 ^ (7 * i)) = y + m * 2 ^ (7 * i) := by
        generalize (2 : Nat) ^ (7 * i) = P
        conv => rhs; rw [hdm]
        rw [Nat.add_mul]
        have : m / 128 * (128 * P) = 128 * (m / 128) * P := by rw [← Nat.mul_assoc, Nat.mul_comm (m / 128) 128]
        omega
      have hs := stp_nat (i := i) (y := y) (c := m % 256 % 128 + 128) hx2 hy (by rw [hmm]; omega)
      rw [hs, hmm]
      have hlt : y + (m % 128) * 2 ^ (7 * i) < 2 ^ (7 * (i + 1)) := by
        rw [hpow]
        have h1 : m % 128 ≤ 127 := by omega
        have h2 : (m % 128) * 2 ^ (7 * i) ≤ 127 * 2 ^ (7 * i) := Nat.mul_le_mul_right _ h1
        omega
      have hf0 : 0 < f := by omega
      have ih := read_back f (i + 1) (m / 128) (y + (m % 128) * 2 ^ (7 * i)) r (by omega) hf0 (fun _ => by omega) hlt (by rw [hpow, hsum]; exact hb)
      rw [ih, hpow, hsum]
theorem zz_pos {n : Int} (h0 : 0 ≤ n) (h1 : n < 9223372036854775808) : zz n = (2 * n).toNat := by
  unfold zz
  have e1 : IntKind.u64.wrap (IntKind.u64.wrap n * 2) = 2 * n := by rw [IntKind.wrap_u64, IntKind.wrap_u64]; omega
  have e2 : IntKind.u64.wrap (n / 9223372036854775808) = 0 := by rw [IntKind.wrap_u64]; omega
  rw [e1, e2]
  simp
theorem xor_ones {a : Nat} (h : a < 18446744073709551616) : a ^^^ 18446744073709551615 = 18446744073709551615 - a := by
  have h1 : (BitVec.ofNat 64 a ^^^ BitVec.allOnes 64).toNat = (~~~(BitVec.ofNat 64 a)).toNat := by rw [BitVec.xor_allOnes]
  rw [BitVec.toNat_xor, BitVec.toNat_not, BitVec.toNat_allOnes, BitVec.toNat_ofNat, Nat.mod_eq_of_lt (show a < 2 ^ 64 by omega)] at h1
  exact h1
theorem zz_neg {n : Int} (h0 : n < 0) (h1 : -9223372036854775808 ≤ n) : zz n = (-2 * n - 1).toNat := by
  unfold zz
  have e1 : IntKind.u64.wrap (IntKind.u64.wrap n * 2) = 2 * n + 18446744073709551616 := by rw [IntKind.wrap_u64, IntKind.wrap_u64]; omega
  have e2 : IntKind.u64.wrap (n / 9223372036854775808) = 18446744073709551615 := by rw [IntKind.wrap_u64]; omega
  rw [e1, e2]
  have := xor_ones (a := (2 * n + 18446744073709551616).toNat) (by omega)
  rw [show (18446744073709551615 : Int).toNat = 18446744073709551615 from rfl, this]
  omega
theorem ofInt_toNat {a : Int} (h0 : 0 ≤ a) (h1 : a < 18446744073709551616) : (BitVec.ofInt 64 a).toNat = a.toNat := by
  obtain ⟨k, rfl⟩ := Int.eq_ofNat_of_zero_le h0
  rw [BitVec.ofInt_natCast, BitVec.toNat_ofNat, Int.toNat_natCast]
  exact Nat.mod_eq_of_lt (by omega)
theorem and_one {m : Nat} (h : m < 18446744073709551616) : bits .and .u64 (m : Int) 1 = ((m % 2 : Nat) : Int) := by
  show IntKind.u64.wrap ((BitVec.ofInt 64 (m : Int) &&& BitVec.ofInt 64 1).toNat : Int) = _
  rw [BitVec.toNat_and, ofInt_toNat (by omega) (by omega), Int.toNat_natCast, show (BitVec.ofInt 64 1).toNat = 1 from rfl, Nat.and_one_is_mod, IntKind.wrap_u64]
  omega
theorem xor_zero_i {a : Int} (h0 : 0 ≤ a) (h1 : a < 9223372036854775808) : bits .xor .i64 a 0 = a := by
  show IntKind.i64.wrap ((BitVec.ofInt 64 a ^^^ BitVec.ofInt 64 0).toNat : Int) = _
  rw [show BitVec.ofInt 64 0 = 0#64 from rfl, BitVec.xor_zero, ofInt_toNat h0 (by omega), IntKind.wrap_i64]
  omega
theorem xor_neg_i {a : Int} (h0 : 0 ≤ a) (h1 : a < 9223372036854775808) : bits .xor .i64 a (-1) = -a - 1 := by
  show IntKind.i64.wrap ((BitVec.ofInt 64 a ^^^ BitVec.ofInt 64 (-1)).toNat : Int) = _
  rw [show BitVec.ofInt 64 (-1) = BitVec.allOnes 64 from rfl, BitVec.xor_allOnes, BitVec.toNat_not, ofInt_toNat h0 (by omega), IntKind.wrap_i64]
  omega
theorem zd_zz {n : Int} (h0 : -9223372036854775808 ≤ n) (h1 : n ≤ 9223372036854775807) : zd (zz n : Int) = n := by
  have hl := zz_lt n
  unfold zd
  rw [and_one hl]
  by_cases hn : 0 ≤ n
  · have hz := zz_pos hn (by omega)
    have e1 : wrap64 ((zz n : Int) / 2) = n := by rw [hz]; unfold wrap64; omega
    have e2 : zz n % 2 = 0 := by rw [hz]; omega
    have e3 : wrap64 (-wrap64 ((0 : Nat) : Int)) = 0 := by kernel_rfl
    rw [e1, e2, e3]
    exact xor_zero_i hn (by omega)
  · have hz := zz_neg (show n < 0 by omega) h0
    have e1 : wrap64 ((zz n : Int) / 2) = -n - 1 := by rw [hz]; unfold wrap64; omega
    have e2 : zz n % 2 = 1 := by rw [hz]; omega
    rw [e1, e2]
    have e3 : wrap64 (-wrap64 ((1 : Nat) : Int)) = -1 := by kernel_rfl
    rw [e3, xor_neg_i (by omega) (by omega)]
    omega
theorem rdn_back (n : Int) (r : List Int) : rdn 0 (ib n ++ r) = ((zz n : Int), 0, r) := by
  have h := read_back 10 0 (zz n) 0 r rfl (by decide) (fun h => absurd h (by decide)) (by decide) (by have := zz_lt n; simpa using this)
  have e : rdn 0 (ib n ++ r) = rnum 10 0 0 (nb (zz n) ++ r) := if_pos rfl
  rw [e, show (0 : Int) = ((0 : Nat) : Int) from rfl, h]
  simp
def ibsFrom (f : Vc) (k : Nat) : List Int := (List.range (8 - k)).flatMap fun i => ib (f (k + i))
theorem ibsFrom_zero (f : Vc) : ibsFrom f 0 = ibs f 8 := by simp [ibsFrom, ibs]
theorem ibsFrom_step (f : Vc) {k : Nat} (h : k < 8) : ibsFrom f k = ib (f k) ++ ibsFrom f (k + 1) := by
  unfold ibsFrom
  rw [show 8 - k = (8 - (k + 1)) + 1 by omega, List.range_succ_eq_map, List.flatMap_cons, List.flatMap_map]
  simp [Nat.add_assoc, Nat.add_comm 1]
theorem rst_back (f : Vc) (hf : ∀ k, k < 8 → -9223372036854775808 ≤ f k ∧ f k ≤ 9223372036854775807) : ∀ k, k ≤ 8 → rst (ibs f 8) k = (0, ibsFrom f k)
  | 0, _ => by rw [ibsFrom_zero]; rfl
  | k + 1, h => by
    have ih := rst_back f hf k (by omega)
    have e := rdn_back (f k) (ibsFrom f (k + 1))
    rw [← ibsFrom_step f (by omega)] at e
    show ((rdn (rst (ibs f 8) k).1 (rst (ibs f 8) k).2).2.1, (rdn (rst (ibs f 8) k).1 (rst (ibs f 8) k).2).2.2) = _
    rw [ih, e]
theorem rval_back (f : Vc) (hf : ∀ k, k < 8 → -9223372036854775808 ≤ f k ∧ f k ≤ 9223372036854775807) {k : Nat} (h : k < 8) : rval (ibs f 8) k = f k := by
  have e := rdn_back (f k) (ibsFrom f (k + 1))
  rw [← ibsFrom_step f h] at e
  unfold rval
  rw [rst_back f hf k (by omega), e]
  exact zd_zz (hf k h).1 (hf k h).2
theorem rst_end (f : Vc) (hf : ∀ k, k < 8 → -9223372036854775808 ≤ f k ∧ f k ≤ 9223372036854775807) : rst (ibs f 8) 8 = (0, []) := rst_back f hf 8 (Nat.le_refl _)
theorem rvec_back (f : Vc) (hf : ∀ k, k < 8 → -9223372036854775808 ≤ f k ∧ f k ≤ 9223372036854775807) : va (rvec (ibs f 8) 8) = va f := va_congr fun k hk => by
  unfold rvec
  rw [if_pos hk, rval_back f hf hk]
theorem may_va {f g : Vc} (h : va f = va g) : may f = may g := by
  have : ∀ k, k < 8 → f k = g k := fun k hk => by
    have h2 := congrArg (fun a => a[k]?) h
    rw [va_get f hk, va_get g hk] at h2
    simpa using h2
  cases hg : may g with
  | true => exact may_iff.2 fun k hk => by rw [this k hk]; exact may_iff.1 hg k hk
  | false =>
    cases hf : may f with
    | false => rfl
    | true => rw [may_iff.2 fun k hk => by rw [← this k hk]; exact may_iff.1 hf k hk] at hg; cases hg
theorem rok_back (f : Vc) (hf : ∀ k, k < 8 → -9223372036854775808 ≤ f k ∧ f k ≤ 9223372036854775807) : rok (ibs f 8) = may f := by
  unfold rok
  rw [rst_end f hf, may_va (rvec_back f hf)]
  rfl
end Go.Proofs.YthkmocfdpmlllabDoor
