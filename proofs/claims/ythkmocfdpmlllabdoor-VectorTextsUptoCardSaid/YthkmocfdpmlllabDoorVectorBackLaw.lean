/- VectorBack: the plain law of texts: what is written is read as it was. No program in sight. -/
import Derived.Test.YthkmocfdpmlllabDoorVectorParse
import Derived.Test.YthkmocfdpmlllabDoorVectorApartLaw
import Derived.Lib.IndexBytes
import Derived.Lib.SplitLaws
import Derived.Lib.ParseIntBCases
namespace Go.Proofs.YthkmocfdpmlllabDoor

theorem itoa_clean_ (n : Int) : ∀ c ∈ Lib.itoa n, c ≠ 44 := by
  by_cases h : 0 ≤ n
  · exact itoa_clean h
  · obtain ⟨u, hu⟩ : ∃ u : Nat, n = -(u : Int) := ⟨n.natAbs, by omega⟩
    subst hu
    rw [Lib.itoa_neg u (by omega)]
    intro c hc
    rcases List.mem_cons.1 hc with rfl | hc
    · decide
    · exact dec_clean u c hc
theorem dec_head (u : Nat) : ∃ c r, Lib.decDigits u = c :: r ∧ 48 ≤ c.toNat ∧ c.toNat ≤ 57 := by
  induction u using Nat.strongRecOn with
  | _ u ih =>
    have hd : ∀ d : Nat, d < 10 → 48 ≤ (UInt8.ofNat (48 + d)).toNat ∧ (UInt8.ofNat (48 + d)).toNat ≤ 57 := by decide
    rw [Lib.decDigits]
    split
    · next h => exact ⟨_, [], rfl, hd u h⟩
    · next h =>
      obtain ⟨c, r, he, h1, h2⟩ := ih (u / 10) (by omega)
      exact ⟨c, r ++ [_], by rw [he]; rfl, h1, h2⟩
theorem itoa_inj_ {n m : Int} (h : Lib.itoa n = Lib.itoa m) : n = m := by
  by_cases hn : 0 ≤ n <;> by_cases hm : 0 ≤ m
  · exact itoa_inj hn hm h
  · exfalso
    obtain ⟨u, rfl⟩ := Int.eq_ofNat_of_zero_le hn
    obtain ⟨v, rfl⟩ : ∃ v : Nat, m = -(v : Int) := ⟨m.natAbs, by omega⟩
    rw [Lib.itoa_nonneg, Lib.itoa_neg v (by omega)] at h
    obtain ⟨c, r, he, h1, _⟩ := dec_head u
    rw [he] at h
    rw [(List.cons.inj h).1] at h1
    exact absurd h1 (by decide)
  · exfalso
    obtain ⟨u, rfl⟩ := Int.eq_ofNat_of_zero_le hm
    obtain ⟨v, rfl⟩ : ∃ v : Nat, n = -(v : Int) := ⟨n.natAbs, by omega⟩
    rw [Lib.itoa_nonneg, Lib.itoa_neg v (by omega)] at h
    obtain ⟨c, r, he, h1, _⟩ := dec_head u
    rw [he] at h
    rw [← (List.cons.inj h).1] at h1
    exact absurd h1 (by decide)
  · obtain ⟨u, rfl⟩ : ∃ v : Nat, n = -(v : Int) := ⟨n.natAbs, by omega⟩
    obtain ⟨v, rfl⟩ : ∃ v : Nat, m = -(v : Int) := ⟨m.natAbs, by omega⟩
    rw [Lib.itoa_neg u (by omega), Lib.itoa_neg v (by omega)] at h
    have h2 := congrArg valOf (List.cons.inj h).2
    rw [valOf_dec, valOf_dec] at h2
    rw [h2]
theorem decs_clean_ (f : Vc) (n : Nat) : ∀ x ∈ (decs f n).map (·.data.toList), ∀ c ∈ x, c ≠ 44 := by
  intro x hx
  simp only [decs, List.map_map, List.mem_map, List.mem_range] at hx
  obtain ⟨i, _, rfl⟩ := hx
  exact itoa_clean_ (f i)
theorem commas_tx_ (f : Vc) : commas (tx f).data.toList = top f 7 := by
  rw [tx_list, commas_join _ (decs_clean_ f _), List.length_map, decs_length]
  omega
theorem tx_inj_ {f g : Vc} (h : tx f = tx g) : veq f g = true := by
  have h1 := commas_tx_ f
  have h2 := commas_tx_ g
  rw [h, h2] at h1
  have hl : (tx f).data.toList = (tx g).data.toList := by rw [h]
  have tf := top_le f 7
  have tg := top_le g 7
  rw [tx_list, tx_list] at hl
  have hL := join_inj _ _ (decs_clean_ f _) (decs_clean_ g _) (by simp [decs]) (by simp [decs]) hl
  rw [veq_iff]
  intro k hk
  by_cases hkt : k < top f 7 + 1
  · have e := congrArg (fun l => l[k]?) hL
    simp only [decs, List.getElem?_map, List.getElem?_range hkt, List.getElem?_range (show k < top g 7 + 1 by omega), Option.map_some, Option.some.injEq] at e
    exact itoa_inj_ e
  · rw [top_zero f (show top f 7 < k by omega) (by omega), top_zero g (show top g 7 < k by omega) (by omega)]
theorem idx_clean {x r : List UInt8} (h : ∀ c ∈ x, c ≠ 44) : Lib.index (x ++ 44 :: r) [44] = (x.length : Int) := by
  rw [Lib.index_one]
  induction x with
  | nil => rfl
  | cons b x ih =>
    have hb : (b == 44) = false := beq_eq_false_iff_ne.2 (h b (by simp))
    have ih := ih fun c hc => h c (List.mem_cons_of_mem _ hc)
    rw [List.cons_append, Lib.indexByte, hb, ih]
    have : ((x.length : Int) == -1) = false := beq_eq_false_iff_ne.2 (by omega)
    rw [this]
    simp
theorem split_join : ∀ L : List (List UInt8), L ≠ [] → (∀ x ∈ L, ∀ c ∈ x, c ≠ 44) → Lib.splitK [44] 0 (L.length - 1) (Lib.join L [44]) = L
  | [], h, _ => absurd rfl h
  | [x], _, _ => by rw [Lib.join_one]; rfl
  | x :: y :: r, _, h => by
    have ih := split_join (y :: r) (by simp) fun z hz => h z (List.mem_cons_of_mem _ hz)
    have e : Lib.join (x :: y :: r) [44] = x ++ 44 :: Lib.join (y :: r) [44] := by simp [Lib.join, List.intercalate]
    have hi := idx_clean (r := Lib.join (y :: r) [44]) (h x (by simp))
    have hne : ((x.length : Int) == -1) = false := beq_eq_false_iff_ne.2 (by omega)
    rw [show (x :: y :: r).length - 1 = (y :: r).length - 1 + 1 by simp, Lib.splitK, e, hi, hne]
    simp only [Bool.false_eq_true, if_false, Int.toNat_natCast, Nat.add_zero, List.length_singleton]
    rw [List.take_left, show x ++ 44 :: Lib.join (y :: r) [44] = (x ++ [44]) ++ Lib.join (y :: r) [44] by simp, List.drop_left' (by simp), ih]
theorem countB_tx (f : Vc) : Lib.countB (tx f) cm = top f 7 := by
  have h := commas_tx_ f
  show Lib.count (tx f).data.toList [44] = _
  rw [Lib.count_one]
  exact h
theorem prts_tx (f : Vc) : prts (tx f) = decs f (top f 7 + 1) := by
  have h := Lib.splitB_data cm 0 (Lib.countB (tx f) cm) (tx f)
  have hs := split_join ((decs f (top f 7 + 1)).map (·.data.toList)) (by simp [decs]) (decs_clean_ f _)
  rw [← tx_list, List.length_map, decs_length, Nat.add_sub_cancel] at hs
  rw [countB_tx, show (cm.data.toList : List UInt8) = [44] from rfl, hs] at h
  have e : prts (tx f) = Lib.splitB cm 0 (top f 7) (tx f) := by unfold prts; rw [countB_tx]
  rw [e]
  exact (List.map_inj_right fun a b hab => ByteArray.ext (Array.toList_inj.1 hab)).1 h
theorem parse_append (M : Nat) (r : List UInt8) : ∀ (l : List UInt8) (acc a : Nat), Lib.parseUintM M acc l = .ok a → Lib.parseUintM M acc (l ++ r) = Lib.parseUintM M a r
  | [], acc, a, h => by
    rw [Lib.parseUintM] at h
    cases h
    rfl
  | c :: l, acc, a, h => by
    rw [Lib.parseUintM] at h
    rw [List.cons_append, Lib.parseUintM]
    split at h
    · next h1 =>
      rw [if_pos h1]
      split at h
      · cases h
      · next h2 =>
        rw [if_neg h2]
        split at h
        · cases h
        · next h3 =>
          rw [if_neg h3]
          exact parse_append M r l _ a h
    · cases h
theorem parse_dec (M : Nat) (hM : 9 ≤ M) : ∀ u : Nat, u ≤ M → u < 18446744073709551616 → Lib.parseUintM M 0 (Lib.decDigits u) = .ok u := by
  intro u
  induction u using Nat.strongRecOn with
  | _ u ih =>
    intro hu hu2
    have hd : ∀ d : Nat, d < 10 → (UInt8.ofNat (48 + d)).toNat = 48 + d := by decide
    rw [Lib.decDigits]
    split
    · next h =>
      rw [Lib.parseUintM, hd u h, if_pos (by omega), if_neg (by omega), if_neg (by omega), Lib.parseUintM]
      congr 1
      omega
    · next h =>
      have ih := ih (u / 10) (by omega) (by omega) (by omega)
      rw [parse_append M _ _ 0 _ ih, Lib.parseUintM, hd (u % 10) (Nat.mod_lt _ (by decide)), if_pos (by omega), if_neg (by omega), if_neg (by omega), Lib.parseUintM]
      congr 1
      omega
theorem pv_dec {n : Int} (h0 : 0 ≤ n) (h1 : n ≤ 1099511627776) : pv (dec n) = some n := by
  obtain ⟨u, rfl⟩ := Int.eq_ofNat_of_zero_le h0
  have hl : (dec (u : Int)).data.toList = Lib.decDigits u := by
    show Lib.itoa (u : Int) = _
    exact Lib.itoa_nonneg u
  unfold pv
  rw [hl]
  obtain ⟨c, r, he, h2, h3⟩ := dec_head u
  have hp := parse_dec (2 ^ 64 - 1) (by decide) u (by omega) (by omega)
  rw [he] at hp ⊢
  have hu : Lib.parseUintB 64 (c :: r) = .ok u := by unfold Lib.parseUintB; rw [if_neg (by simp)]; exact hp
  have hsm : ¬ (2 ^ (64 - 1) ≤ u) := by omega
  have : Lib.parseIntB 64 (c :: r) = .ok (u : Int) := by
    rw [Lib.parseIntB_plain 64 c r (by omega) (by omega), hu]
    simp only [Lib.signlessC]
    rw [if_neg hsm]
  rw [this]
theorem pvec_tx {f : Vc} (hm : may f = true) : va (pvec (prts (tx f))) = va f := va_congr fun k hk => by
  have ht := top_le f 7
  rw [prts_tx]
  unfold pvec
  have hr := may_iff.1 hm
  by_cases h : k < top f 7 + 1
  · have : (decs f (top f 7 + 1))[k]? = some (dec (f k)) := by simp [decs, h]
    have hk2 := hr k hk
    unfold inr_ at hk2
    rw [this, Option.bind_some, pv_dec hk2.1 hk2.2]
    rfl
  · have : (decs f (top f 7 + 1))[k]? = none := by simp [decs]; omega
    rw [this, top_zero f (show top f 7 < k by omega) (by omega)]
    rfl
theorem veq_va {f g : Vc} (h : va f = va g) : veq f g = true := veq_iff.2 fun k hk => by
  have h2 := congrArg (fun a => a[k]?) h
  rw [va_get f hk, va_get g hk] at h2
  simpa using h2
theorem may_va_ {f g : Vc} (h : veq f g = true) : may f = may g := by
  have hk := veq_iff.1 h
  cases hg : may g with
  | true => exact may_iff.2 fun k h8 => by rw [hk k h8]; exact may_iff.1 hg k h8
  | false =>
    cases hf : may f with
    | false => rfl
    | true => rw [may_iff.2 fun k h8 => by rw [← hk k h8]; exact may_iff.1 hf k h8] at hg; cases hg
theorem pok_tx (f : Vc) : pok (tx f) = may f := by
  cases hm : may f with
  | true =>
    have hv := veq_va (pvec_tx hm)
    have hr := may_iff.1 hm
    have ht := top_le f 7
    unfold pok
    rw [may_va_ hv, hm, tx_congr hv]
    have h1 : (prts (tx f)).length ≤ 8 := by rw [prts_tx, decs_length]; omega
    have h2 : ((prts (tx f)).all fun x => (pv x).isSome) = true := by
      rw [prts_tx, List.all_eq_true]
      intro x hx
      simp only [decs, List.mem_map, List.mem_range] at hx
      obtain ⟨i, hi, rfl⟩ := hx
      have hk2 := hr i (by omega)
      unfold inr_ at hk2
      rw [pv_dec hk2.1 hk2.2]
      rfl
    rw [decide_eq_true h1, h2]
    simp
  | false =>
    cases hp : pok (tx f) with
    | false => rfl
    | true =>
      unfold pok at hp
      simp only [Bool.and_eq_true, beq_iff_eq] at hp
      have he : tx (pvec (prts (tx f))) = tx f := by
        have h := hp.2
        rw [ByteArray.toList_eq, ByteArray.toList_eq] at h
        exact ByteArray.ext (Array.toList_inj.1 h)
      rw [may_va_ (tx_inj_ he)] at hp
      rw [hm] at hp
      exact absurd hp.1.2 (by decide)
theorem pout_tx {f : Vc} (hm : may f = true) : va (pout (tx f)) = va f := by
  unfold pout
  rw [pok_tx, hm, if_pos rfl]
  exact pvec_tx hm
theorem tx_size (f : Vc) (hf : ∀ k, k < 8 → -9223372036854775808 ≤ f k ∧ f k ≤ 9223372036854775807) : (tx f).size < 4294967281 := by
  have ht := top_le f 7
  have hx : ∀ x ∈ (decs f (top f 7 + 1)).map (·.data.toList), x.length ≤ 21 := by
    intro x hx
    simp only [decs, List.map_map, List.mem_map, List.mem_range] at hx
    obtain ⟨i, hi, rfl⟩ := hx
    exact Lib.itoa_length_le _ (hf i (by omega)).1 (hf i (by omega)).2
  have hl : ((decs f (top f 7 + 1)).map (·.data.toList)).length ≤ 8 := by rw [List.length_map, decs_length]; omega
  have hs : (tx f).size = (Lib.join ((decs f (top f 7 + 1)).map (·.data.toList)) [44]).length := by rw [← tx_list]; simp
  rw [hs]
  generalize (decs f (top f 7 + 1)).map (·.data.toList) = L at *
  match L, hx, hl with
  | [], _, _ => simp [Lib.join]
  | x :: r, hx, hl =>
    have h1 := hx x List.mem_cons_self
    have h2 := lens_le 21 r fun y hy => hx y (List.mem_cons_of_mem _ hy)
    simp only [List.length_cons] at hl
    rw [Lib.join_cons, List.length_append, Lib.joinTail_length]
    simp only [List.length_cons, List.length_nil]
    omega
end Go.Proofs.YthkmocfdpmlllabDoor
