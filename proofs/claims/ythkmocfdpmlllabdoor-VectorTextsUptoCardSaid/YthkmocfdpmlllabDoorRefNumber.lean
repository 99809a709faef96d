/- The reference's Number. No statement is proved here. -/
import Derived.Test.YthkmocfdpmlllabDoorVectorText
namespace Go.Proofs.YthkmocfdpmlllabDoor
open Go.RowKit
attribute [local go_sem] max2_mx max_two_ eq_nums
theorem noempty {y : ByteArray} (h : 0 < y.size) : y.toList.isEmpty = false := by
  have e : y.data.toList.length = y.size := Array.length_toList
  rw [ByteArray.toList_eq]
  match hl : y.data.toList with
  | [] => rw [hl] at e; simp at e; omega
  | a :: r => rfl
theorem isempty {y : ByteArray} (h : ¬ 0 < y.size) : y.toList.isEmpty = true := by
  have e : y.data.toList.length = y.size := Array.length_toList
  rw [ByteArray.toList_eq]
  match hl : y.data.toList with
  | [] => rfl
  | a :: r => rw [hl] at e; simp at e; omega
def NumAny (e : Ending) : Prop := ∃ m b, e = .returned (.tuple #[.int .i64 m, .bool b])
set_option maxRecDepth 100000 in
set_option maxHeartbeats 8000000 in
theorem rnum_any (x : ByteArray) (hx : x.size ≤ 200) (w : World) : Calls Tryd.prog 34 #[.string x] w fun e w' => NumAny e ∧ w' = w := by
  go_enter Tryd.func34, Tryd.ntmps34
  go_upto_region 2 with fail
  go_cut [5] from 9 to 17 (fun c wx => (∃ b : Bool, c = .bool b ∧ (b = true → 1 ≤ x.size)) ∧ wx = w)
  case first =>
    by_cases h0 : 0 < x.size
    · have h0' : (0 : Int) < (x.size : Int) := by omega
      by_cases h1 : (x[0].toNat : Int) = 45
      · have h1b : ((x[0].toNat : Int) == 45) = true := by simpa using h1
        go_wp2_with fail
        go_meet
        case rel => exact ⟨⟨true, rfl, fun _ => h0⟩, rfl⟩
      · have h1b : ((x[0].toNat : Int) == 45) = false := by simpa using h1
        go_wp2_with fail
        go_meet
        case rel => exact ⟨⟨false, rfl, fun h => by cases h⟩, rfl⟩
    · have h0' : decide ((0 : Int) < (x.size : Int)) = false := decide_eq_false (by omega)
      go_wp2_with fail
      go_meet
      case rel => exact ⟨⟨false, rfl, fun h => by cases h⟩, rfl⟩
  case rest =>
    obtain ⟨⟨b, rfl, hb⟩, rfl⟩ := hcut
    go_upto_if 17 with fail
    go_cut [4] from 18 to 20 (fun t wx => (∃ y : ByteArray, t = .string y ∧ y.size ≤ 200) ∧ wx = wc)
    case first =>
      cases b with
      | true =>
        have h1 := hb rfl
        go_wp2_with fail
        go_meet
        case rel => exact ⟨⟨_, rfl, by rw [ByteArray.size_extract]; omega⟩, rfl⟩
      | false =>
        go_wp2_with fail
        go_meet
        case rel => exact ⟨⟨_, rfl, hx⟩, rfl⟩
    case rest =>
      obtain ⟨⟨y, rfl, hy⟩, rfl⟩ := hcut
      go_upto_region 5 with fail
      go_cut [35] from 20 to 35 (fun c wx => (∃ b : Bool, c = .bool b) ∧ wx = wc)
      case first =>
        by_cases h0 : 0 < y.size
        · have h0' : y.toList.isEmpty = false := noempty h0
          by_cases h9 : (19 : Int) < (y.size : Int)
          · have h9b : decide ((19 : Int) < (y.size : Int)) = true := decide_eq_true h9
            go_wp2_with fail
            go_meet
            case rel => exact ⟨⟨_, rfl⟩, rfl⟩
          · have h9b : decide ((19 : Int) < (y.size : Int)) = false := decide_eq_false h9
            cases h8 : (y[0].toNat : Int) == 48 with
            | true =>
              go_wp2_with fail
              go_meet
              case rel => exact ⟨⟨_, rfl⟩, rfl⟩
            | false =>
              go_wp2_with fail
              go_meet
              case rel => exact ⟨⟨_, rfl⟩, rfl⟩
        · have h0' : y.toList.isEmpty = true := isempty h0
          go_wp2_with fail
          go_meet
          case rel => exact ⟨⟨_, rfl⟩, rfl⟩
      case rest =>
        obtain ⟨⟨c, rfl⟩, rfl⟩ := hcut
        cases c with
        | true =>
          go_wp2_with fail
          go_ret2
          exact ⟨⟨_, _, rfl⟩, rfl⟩
        | false =>
          go_wp2_with fail
          go_loopw [6, 38] (fun n i wr => ∃ (k : Nat) (N : Int), k ≤ y.size ∧ i = .int .i64 k ∧ n = .int .u64 N ∧ wr = wc) (fun _ i _ => y.size - (intOf i).toNat)
          case atStart => exact ⟨0, 0, Nat.zero_le _, rfl, rfl, rfl⟩
          case round =>
            obtain ⟨k, N, hk, rfl, rfl, rfl⟩ := hrel
            by_cases hlt : k < y.size
            · have hk2 : (k : Int) < (y.size : Int) := by omega
              cases h8 : decide ((y[k].toNat : Int) < 48) with
              | true =>
                go_wp2_with fail
                go_ret2
                exact ⟨⟨_, _, rfl⟩, rfl⟩
              | false =>
                cases h9 : decide ((57 : Int) < (y[k].toNat : Int)) with
                | true =>
                  go_wp2_with fail
                  go_ret2
                  exact ⟨⟨_, _, rfl⟩, rfl⟩
                | false =>
                  go_wp2_with fail
                  go_roundw
                  case rel => exact ⟨k + 1, _, by omega, by go_num, rfl, trivial⟩
                  case measure => simp [intOf]; omega
            · obtain rfl : k = y.size := by omega
              have hk2 : decide ((y.size : Int) < (y.size : Int)) = false := by simp
              cases b with
              | true =>
                cases hn : decide (N ≤ 9223372036854775808) with
                | true =>
                  go_wp2_with fail
                  go_ret2
                  exact ⟨⟨_, _, rfl⟩, rfl⟩
                | false =>
                  go_wp2_with fail
                  go_ret2
                  exact ⟨⟨_, _, rfl⟩, rfl⟩
              | false =>
                cases hn : decide (N < 9223372036854775808) with
                | true =>
                  go_wp2_with fail
                  go_ret2
                  exact ⟨⟨_, _, rfl⟩, rfl⟩
                | false =>
                  go_wp2_with fail
                  go_ret2
                  exact ⟨⟨_, _, rfl⟩, rfl⟩
/-- A row of digits, each letter a digit. -/
theorem digits_in (u : Nat) : ∀ c ∈ Lib.decDigits u, 48 ≤ c.toNat ∧ c.toNat ≤ 57 := by
  induction u using Nat.strongRecOn with
  | _ u ih =>
    have hd : ∀ d : Nat, d < 10 → 48 ≤ (UInt8.ofNat (48 + d)).toNat ∧ (UInt8.ofNat (48 + d)).toNat ≤ 57 := by decide
    rw [Lib.decDigits]
    split
    · next h =>
      intro c hc
      rw [List.mem_singleton] at hc
      rw [hc]
      exact hd u h
    · next h =>
      intro c hc
      rcases List.mem_append.1 hc with hc | hc
      · exact ih (u / 10) (by omega) c hc
      · rw [List.mem_singleton] at hc
        rw [hc]
        exact hd _ (Nat.mod_lt _ (by decide))
/-- The value of a row of digits. -/
def dval (l : List UInt8) : Nat := l.foldl (fun a c => 10 * a + (c.toNat - 48)) 0
theorem dval_snoc (l : List UInt8) (c : UInt8) : dval (l ++ [c]) = 10 * dval l + (c.toNat - 48) := by
  unfold dval
  rw [List.foldl_append]
  rfl
theorem dval_dec (u : Nat) : dval (Lib.decDigits u) = u := by
  induction u using Nat.strongRecOn with
  | _ u ih =>
    have hd : ∀ d : Nat, d < 10 → (UInt8.ofNat (48 + d)).toNat = 48 + d := by decide
    rw [Lib.decDigits]
    split
    · next h =>
      have := hd u h
      simp only [dval, List.foldl_cons, List.foldl_nil, this]
      omega
    · next h =>
      rw [dval_snoc, ih (u / 10) (by omega), hd _ (Nat.mod_lt _ (by decide))]
      omega
theorem dval_mono (l r : List UInt8) : dval l ≤ dval (l ++ r) := by
  induction r generalizing l with
  | nil => simp
  | cons c r ih =>
    have h1 := dval_snoc l c
    have h2 := ih (l ++ [c])
    rw [List.append_assoc, List.singleton_append] at h2
    omega
theorem digits_len (k : Nat) : ∀ u : Nat, u < 10 ^ (k + 1) → (Lib.decDigits u).length ≤ k + 1 := by
  induction k with
  | zero =>
    intro u hu
    have h10 : u < 10 := by simpa using hu
    rw [Lib.decDigits, dif_pos h10]
    exact Nat.le_refl _
  | succ k ih =>
    intro u hu
    rw [Lib.decDigits]
    split
    · simp
    · rw [List.length_append, List.length_singleton]
      have := ih (u / 10) (by rw [Nat.pow_succ] at hu; omega)
      omega
theorem head_pos (u : Nat) : 0 < u → ∃ c r, Lib.decDigits u = c :: r ∧ c ≠ 48 := by
  induction u using Nat.strongRecOn with
  | _ u ih =>
    intro hu
    have hd : ∀ d : Nat, d < 10 → 0 < d → UInt8.ofNat (48 + d) ≠ 48 := by decide
    rw [Lib.decDigits]
    split
    · next h => exact ⟨_, [], rfl, hd u h hu⟩
    · next h =>
      obtain ⟨c, r, he, hc⟩ := ih (u / 10) (by omega) (by omega)
      exact ⟨c, r ++ [_], by rw [he]; rfl, hc⟩
theorem digits_ne (u : Nat) : 0 < (Lib.decDigits u).length := by
  rw [Lib.decDigits]
  split
  · simp
  · simp
set_option maxRecDepth 100000 in
set_option maxHeartbeats 8000000 in
theorem rnum_dec (n : Nat) (hn : n ≤ 1099511627776) (w : World) : Calls Tryd.prog 34 #[.string (dec n)] w fun e w' => e = .returned (.tuple #[.int .i64 n, .bool true]) ∧ w' = w := by
  have hl : (dec (n : Int)).data.toList = Lib.decDigits n := Lib.itoa_nonneg n
  generalize dec (n : Int) = x at *
  have hsz : x.size = (Lib.decDigits n).length := by rw [← hl]; exact Array.length_toList.symm
  have hlen := digits_len 12 n (by omega)
  have hpos := digits_ne n
  have h0 : 0 < x.size := by omega
  have hget : ∀ (k : Nat) (h : k < x.size), (Lib.decDigits n)[k]? = some x[k] := fun k h => by
    rw [← hl, Array.getElem?_toList, Array.getElem?_eq_getElem (show k < x.data.size from h)]
    rfl
  have hin : ∀ (k : Nat) (h : k < x.size), 48 ≤ x[k].toNat ∧ x[k].toNat ≤ 57 := fun k h => digits_in n _ (List.mem_of_getElem? (hget k h))
  have HN : Hid (∀ k, k ≤ x.size → dval ((Lib.decDigits n).take k) ≤ n) := Lib.hid fun k hk => by
    have h1 := dval_mono ((Lib.decDigits n).take k) ((Lib.decDigits n).drop k)
    rw [List.take_append_drop, dval_dec] at h1
    exact h1
  have HS : Hid (∀ (k : Nat) (h : k < x.size), dval ((Lib.decDigits n).take (k + 1)) = 10 * dval ((Lib.decDigits n).take k) + (x[k].toNat - 48)) := Lib.hid fun k h => by
    rw [List.take_add_one, hget k h, Option.toList_some, dval_snoc]
  have HE : Hid (dval ((Lib.decDigits n).take x.size) = n) := Lib.hid (by rw [hsz, List.take_length, dval_dec])
  have h8z : ((x[0].toNat : Int) == 48) = true → (!x.toList == [48]) = false := fun h => by
    have hz : n = 0 := by
      rcases Nat.eq_zero_or_pos n with h1 | h1
      · exact h1
      · obtain ⟨c, r, he, hc⟩ := head_pos n h1
        have h2 := hget 0 h0
        rw [he] at h2
        have h3 : c = x[0] := Option.some.inj h2
        refine absurd (UInt8.toNat_inj.1 ?_) hc
        rw [h3]
        simp at h
        show x[0].toNat = 48
        omega
    subst hz
    have h3 : x.toList = [48] := by rw [ByteArray.toList_eq, hl, Lib.decDigits, dif_pos (by decide)]; rfl
    rw [h3]
    rfl
  have hs13 : x.size ≤ 13 := by omega
  clear hl hsz hget hpos hlen
  generalize Lib.decDigits n = D at *
  go_enter Tryd.func34, Tryd.ntmps34
  have h0' : (0 : Int) < (x.size : Int) := by omega
  have h1b : ((x[0].toNat : Int) == 45) = false := by
    have := hin 0 h0
    simp
    omega
  have he' : x.toList.isEmpty = false := noempty h0
  have h9b : decide ((19 : Int) < (x.size : Int)) = false := decide_eq_false (by omega)
  go_upto_region 5 with fail
  go_cut [35] from 20 to 35 (fun c wx => c = .bool false ∧ wx = w)
  case first =>
    cases h8 : (x[0].toNat : Int) == 48 with
    | true =>
      have h8y := h8z h8
      go_wp2_with fail
      go_meet
      case rel => exact ⟨rfl, rfl⟩
    | false =>
      go_wp2_with fail
      go_meet
      case rel => exact ⟨rfl, rfl⟩
  case rest =>
    obtain ⟨rfl, rfl⟩ := hcut
    clear h8z h9b he' h1b
    go_wp2_with fail
    go_loopw [6, 38] (fun v i wr => ∃ k : Nat, k ≤ x.size ∧ i = .int .i64 k ∧ v = .int .u64 (dval (D.take k) : Nat) ∧ wr = wc) (fun _ i _ => x.size - (intOf i).toNat)
    case atStart => exact ⟨0, Nat.zero_le _, rfl, rfl, rfl⟩
    case round =>
      obtain ⟨k, hk, rfl, rfl, rfl⟩ := hrel
      have hN := HN.out k hk
      by_cases hlt : k < x.size
      · have hk2 : (k : Int) < (x.size : Int) := by omega
        have hS := HS.out k hlt
        have hI := hin k hlt
        have h8 : decide ((x[k].toNat : Int) < 48) = false := decide_eq_false (by omega)
        have h9 : decide ((57 : Int) < (x[k].toNat : Int)) = false := decide_eq_false (by omega)
        have HW : Hid (Value.int .u64 (10 * ((dval (D.take k) : Nat) : Int) + ((x[k].toNat : Int) - 48)) = .int .u64 ((dval (D.take (k + 1)) : Nat) : Int)) := Lib.hid (by rw [hS]; congr 1; omega)
        clear hS
        go_wp2_with fail
        go_roundw
        case rel => exact ⟨k + 1, by omega, by go_num, HW.out, trivial⟩
        case measure => simp [intOf]; omega
      · obtain rfl : k = x.size := by omega
        have hk2 : decide ((x.size : Int) < (x.size : Int)) = false := by simp
        rw [HE.out] at hN ⊢
        have hn2 : decide ((n : Int) < 9223372036854775808) = true := decide_eq_true (by omega)
        go_wp2_with fail
        go_ret2
        exact ⟨rfl, rfl⟩
end Go.Proofs.YthkmocfdpmlllabDoor
