/- Contracts of package wire, the writer, function by function. No statement is proved here. -/
import Derived.Test.YtoefffjhjmjhfaaGreatVectorB
import Derived.Lib.SliceRun
import Derived.Deep.AppendLies
namespace Go.Proofs.YtoefffjhjmjhfaaGreat
open Go.RowKit Go.Proofs.YtoefffjhjmjhfaaGreatW.PrintLast
attribute [local go_sem] max2_mx max_two_

theorem Tryz.infU8 : (Tryz.prog.info? 5).map (fun i => (i.zero, i.size, i.bytes)) = some (some (.int .u8 0), 1, 1) := by kernel_rfl
def by8 (zs : List Int) : List Value := zs.map (Value.int .u8)
theorem by8_length (zs : List Int) : (by8 zs).length = zs.length := by simp [by8]
theorem by8_append (zs ys : List Int) : by8 (zs ++ ys) = by8 zs ++ by8 ys := by simp [by8]
theorem by8_one (zs : List Int) : ∀ u ∈ by8 zs, u.oneCell' = true := by
  intro u hu
  obtain ⟨x, _, rfl⟩ := List.mem_map.1 hu
  rfl
/-- A number's bytes, as they are written. -/
def nb (n : Nat) : List Int := if n < 128 then [(n : Int)] else Go.bits .or .u8 (((n : Int) % 256)) 128 :: nb (n / 128)
theorem nb_small {n : Nat} (h : n < 128) : nb n = [(n : Int)] := by rw [nb, if_pos h]
theorem nb_big {n : Nat} (h : ¬ n < 128) : nb n = Go.bits .or .u8 (((n : Int) % 256)) 128 :: nb (n / 128) := by rw [nb, if_neg h]
theorem nb_len : ∀ (k n : Nat), n < 128 ^ (k + 1) → (nb n).length ≤ k + 1
  | 0, n, h => by rw [nb_small (by simpa using h)]; simp
  | k + 1, n, h => by
    by_cases hn : n < 128
    · rw [nb_small hn]; simp
    · rw [nb_big hn]
      have := nb_len k (n / 128) (by rw [Nat.div_lt_iff_lt_mul (by decide)]; rw [Nat.pow_succ] at h; exact h)
      simp only [List.length_cons]
      omega
theorem nb_pos (n : Nat) : 0 < (nb n).length := by
  by_cases hn : n < 128
  · rw [nb_small hn]; simp
  · rw [nb_big hn]; simp
theorem grown_row {w w' : World} {v : Value} (h : w.grownBy w' v.ownBlock) : Chg (fun k => v.ownBlock = some k) w w' :=
  ⟨h.1, h.2, h.3, h.4, fun k hk hn => h.5 k hk fun e => hn e.symm⟩
theorem own_base {w : World} {base n k : Nat} {t : TypeId} {v : Value} {xs : List Value} (h : w.ownsRow base t k v n xs) {j : Nat} (hj : v.ownBlock = some j) : base ≤ j := by
  obtain ⟨_, hr⟩ := h
  rcases hr with ⟨rfl, _⟩ | ⟨g', cap, cur, rfl, hb, _⟩
  · cases hj
  · cases hj; exact hb
theorem u64_ge {n : Nat} : ((n : Int) ≥ 128) ↔ ¬ n < 128 := by omega
set_option maxHeartbeats 4000000 in
set_option maxRecDepth 100000 in
theorem num_any (n : Nat) (hn : n < 18446744073709551616) (w : World) : Calls Tryz.prog 185 #[.int .u64 n] w fun e w' => (∃ v, e = .returned v ∧ w'.ownsRow w.heap.size 5 1 v (nb n).length (by8 (nb n))) ∧ Chg NoB w w' := by
  go_enter Tryz.func185, Tryz.ntmps185
  go_wp2_with fail
  go_loopw [0, 3] (fun x l wr => ∃ (m : Nat) (zs : List Int), m < 18446744073709551616 ∧ x = .int .u64 m ∧ zs.length + (nb m).length = (nb n).length ∧ zs ++ nb m = nb n ∧ wr.ownsRow w.heap.size 5 1 l zs.length (by8 zs) ∧ Chg NoB w wr) (fun x _ _ => (intOf x).toNat)
  case atStart => exact ⟨n, [], hn, rfl, by simp, rfl, ⟨rfl, .inl ⟨rfl, rfl⟩⟩, Chg.refl _ _⟩
  case round =>
    obtain ⟨m, zs, hm, rfl, hlen, he, hO, hC⟩ := hrel
    have hbb := hC.size
    have HO := Lib.hid hO
    have HC := Lib.hid hC
    have HE := Lib.hid he
    have HN : Hid ((nb n).length ≤ 10) := Lib.hid (nb_len 9 n (by omega))
    have hz10 : zs.length ≤ 10 := by have := HN.out; omega
    clear hO hC he
    obtain ⟨i9, hi9, z9, s9, y9⟩ := info_parts Tryz.infU8
    by_cases hlt : m < 128
    · have hd : decide ((128 : Int) ≤ (m : Int)) = false := by simp; omega
      have HB : Hid (by8 zs ++ [.int .u8 (m : Int)] = by8 (nb n) ∧ zs.length + 1 = (nb n).length) := Lib.hid (by
        rw [← HE.out, nb_small hlt]
        simp [by8])
      have hown2 := World.ownsRow.alloc HO.out (.cells #[.int .u8 (m : Int)] 5)
      have hnw := World.news_of_block (w := wr.alloc (.cells #[.int .u8 (m : Int)] 5)) (heap_alloc_new wr _)
      go_wp2_with (at_builtin; refine wpList_append_lies _ rfl _ _ _ rfl w.heap.size 5 i9 _ 1 1 Tryz.underlying47 hi9 z9 s9 y9 rfl (by omega) _ zs.length (by8 zs) rfl hown2 _ 1 1 [.int .u8 (m : Int)] rfl rfl hnw (by intro u hu; simp only [List.mem_singleton] at hu; subst hu; rfl) (by omega) (by unfold maxLen; omega) (by omega) (by simp; omega) (wr.heap.size + 1) (by simp) ?_)
      intro g3 cap3 w3 hown3 hgrow hat hlt3
      rw [HB.out.1] at hown3
      have HO3 := Lib.hid hown3
      have HL := HB.out.2
      have HC3 := Lib.hid (HC.out.then_ (((Chg.refl _ wr).alloc (.cells #[.int .u8 (m : Int)] 5)).trans (grown_row hgrow)) (fun j hj hs => by
        have := own_base HO.out hs
        omega))
      clear hown2 hnw hown3 hgrow hat hlt3 hi9 z9 s9 y9
      go_wp2_with fail
      go_ret
      exact ⟨⟨_, rfl, by rw [← HL]; exact HO3.out⟩, HC3.out⟩
    · have hd : decide ((128 : Int) ≤ (m : Int)) = true := by simp; omega
      have HB : Hid (by8 zs ++ [.int .u8 (Go.bits .or .u8 ((m : Int) % 256) 128)] = by8 (zs ++ [Go.bits .or .u8 ((m : Int) % 256) 128])) := Lib.hid (by simp [by8])
      have hown2 := World.ownsRow.alloc HO.out (.cells #[.int .u8 (Go.bits .or .u8 ((m : Int) % 256) 128)] 5)
      have hnw := World.news_of_block (w := wr.alloc (.cells #[.int .u8 (Go.bits .or .u8 ((m : Int) % 256) 128)] 5)) (heap_alloc_new wr _)
      go_wp2_with (at_builtin; refine wpList_append_lies _ rfl _ _ _ rfl w.heap.size 5 i9 _ 1 1 Tryz.underlying47 hi9 z9 s9 y9 rfl (by omega) _ zs.length (by8 zs) rfl hown2 _ 1 1 [.int .u8 (Go.bits .or .u8 ((m : Int) % 256) 128)] rfl rfl hnw (by intro u hu; simp only [List.mem_singleton] at hu; subst hu; rfl) (by omega) (by unfold maxLen; omega) (by omega) (by simp; omega) (wr.heap.size + 1) (by simp) ?_)
      intro g3 cap3 w3 hown3 hgrow hat hlt3
      rw [HB.out] at hown3
      have HO3 := Lib.hid hown3
      have HC3 := Lib.hid (HC.out.then_ (((Chg.refl _ wr).alloc (.cells #[.int .u8 (Go.bits .or .u8 ((m : Int) % 256) 128)] 5)).trans (grown_row hgrow)) (fun j hj hs => by
        have := own_base HO.out hs
        omega))
      have HE2 : Hid (zs ++ [Go.bits .or .u8 ((m : Int) % 256) 128] ++ nb (m / 128) = nb n) := Lib.hid (by rw [← HE.out, nb_big hlt]; simp)
      clear hown2 hnw hown3 hgrow hat hlt3 hi9 z9 s9 y9
      go_wp2_with fail
      go_roundw
      case rel => exact ⟨m / 128, zs ++ [Go.bits .or .u8 ((m : Int) % 256) 128], by omega, by go_num, by rw [← HE2.out]; simp; omega, HE2.out, by rw [List.length_append]; exact HO3.out, HC3.out⟩
      case measure => simp [intOf]; omega

/-- Block g is a writer that is not at its end: its bytes, its end. -/
structure WA (w : World) (g : Nat) (most : Int) (zs : List Int) (s : Value) : Prop where
  blk : Blk w g 337 #[s, .int .i64 most, .bool false]
  own : w.ownsRow (g + 1) 5 1 s zs.length (by8 zs)
theorem WA.form {w : World} {g : Nat} {most : Int} {zs : List Int} {s : Value} (q : WA w g most zs s) : ∃ p cap, s = .slice p zs.length cap := by
  obtain ⟨_, ho⟩ := q.own
  rcases ho with ⟨rfl, h0⟩ | ⟨g', cap, cur, rfl, _⟩
  · exact ⟨none, 0, by rw [h0]⟩
  · exact ⟨_, _, rfl⟩
theorem own_no {w w' : World} {base n k : Nat} {t : TypeId} {s : Value} {xs : List Value} {S : Nat → Prop} (h : w.ownsRow base t k s n xs) (hC : Chg S w w') (hs : ∀ j, s.ownBlock = some j → ¬ S j) : w'.ownsRow base t k s n xs := by
  obtain ⟨h1, hr⟩ := h
  refine ⟨h1, ?_⟩
  rcases hr with h0 | ⟨g', cap, cur, hv, hb, hB, hrest⟩
  · exact .inl h0
  · exact .inr ⟨g', cap, cur, hv, hb, Blk.chg (w := w) hB hC (hs g' (by rw [hv]; rfl)), hrest⟩
theorem WA.chg {w w' : World} {g : Nat} {most : Int} {zs : List Int} {s : Value} (q : WA w g most zs s) (h : Chg NoB w w') : WA w' g most zs s := ⟨q.blk.chg h id, own_no q.own h fun _ _ => id⟩
/-- Where a value lies that its owner alone knows. -/
theorem own_lies {w : World} {base n k : Nat} {t : TypeId} {v : Value} {xs : List Value} (h : w.ownsRow base t k v n xs) (hn : 0 < n) : ∃ b cap, v = .slice (some ⟨b, 0, none⟩) n cap ∧ base ≤ b ∧ b < w.heap.size ∧ ∀ j u, xs[j]? = some u → w.cell? ⟨b, 0 + j, none⟩ = some u := by
  obtain ⟨h1, hr⟩ := h
  rcases hr with ⟨_, h0⟩ | ⟨g', cap, cur, hv, hb, hB, hn2, hc, hs, ht⟩
  · omega
  · refine ⟨g', cap, hv, hb, Blk.lt (w := w) hB, fun j u hu => ?_⟩
    rw [Nat.zero_add, Blk.cell (w := w) hB j, ← Array.getElem?_toList]
    rw [← ht] at hu
    have hj : j < n * k := by
      have := (List.getElem?_eq_some_iff.1 hu).1
      rw [List.length_take] at this
      omega
    rwa [List.getElem?_take_of_lt hj] at hu
theorem newWriter_any (n : Int) (w : World) (hn : 0 < n) : Calls Tryz.prog 182 #[.int .i64 n] w fun e w' => e = .returned (.pointer (some ⟨w.heap.size, 0, none⟩)) ∧ WA w' w.heap.size n [] (.slice none 0 0) ∧ Chg NoB w w' := by
  have hm : mx 0 n = n := by unfold mx; rw [if_pos hn]
  go_enter Tryz.func182, Tryz.ntmps182
  go_wp2_with fail
  go_ret
  exact ⟨rfl, ⟨Blk.new _ _ _, ⟨rfl, .inl ⟨rfl, rfl⟩⟩⟩, (Chg.refl NoB w).alloc _⟩
/-- What a writer's turn may change: itself, its bytes. -/
def WS (g : Nat) (s : Value) : Nat → Prop := fun k => k = g ∨ s.ownBlock = some k
set_option maxRecDepth 100000 in
set_option maxHeartbeats 4000000 in
theorem put_any {w : World} {g : Nat} {most : Int} {zs ys : List Int} {s v : Value} {base : Nat} (q : WA w g most zs s) (hv : w.ownsRow base 5 1 v ys.length (by8 ys)) (hy : 0 < ys.length) (hdj : ∀ j, s.ownBlock = some j → v.ownBlock ≠ some j)
    (hroom : (zs.length : Int) + ys.length ≤ most) (hmost : most ≤ 4294967296) :
    Calls Tryz.prog 184 #[.pointer (some ⟨g, 0, none⟩), v] w fun e w' => e = .returned (.tuple #[]) ∧ (∃ s', WA w' g most (zs ++ ys) s' ∧ (s'.ownBlock = s.ownBlock ∨ ∀ j, s'.ownBlock = some j → w.heap.size ≤ j)) ∧ Chg (WS g s) w w' := by
  obtain ⟨p, cap, rfl⟩ := q.form
  obtain ⟨b, cap2, rfl, hbb, hbl, hcl⟩ := own_lies hv hy
  have HQ := Lib.hid q
  have HV := Lib.hid hv
  have HD := Lib.hid hdj
  have c0 := q.blk.cell 0
  have c1 := q.blk.cell 1
  have c2 := q.blk.cell 2
  clear q hv hdj
  go_enter Tryz.func184, Tryz.ntmps184
  have hgt : decide (most - (zs.length : Int) < (ys.length : Int)) = false := by simp; omega
  have hwr : IntKind.i64.wrap (most - (zs.length : Int)) = most - (zs.length : Int) := by rw [IntKind.wrap_i64]; omega
  go_wp2_with fail
  refine start_ (n := 23) (S := fun w' => w'.cell? ⟨g, 0, none⟩ = some (.slice p zs.length cap) ∧ w'.cell? ⟨g, 1, none⟩ = some (.int .i64 most) ∧ w'.cell? ⟨g, 2, none⟩ = some (.bool false)) (ds := []) #[false, false, false, false, false, false, false, false, false, false, false, false, false, false, false, false, false, false, false, false, false, false, false] (by kernel_rfl) rfl rfl ⟨c0, c1, c2⟩ (fun hHeld => ?_)
  refine pure_ (i := 0) (N := some 4) (v := ?_) (a' := ?_) #[true, false, false, false, false, false, false, false, false, false, false, false, false, false, false, false, false, false, false, false, false, false, false] rfl rfl (by kernel_rfl) (fun _ _ _ h => h) (Or.inl ⟨by rfl, ?_⟩) ?_ ?_
  rotate_left
  · intro w'
    go_simp
    with_reducible rfl
  rotate_left
  · simp only [Act.put, List.setIfInBounds_toArray, List.set_cons_zero, List.set_cons_succ]
    rfl
  refine pure_ (i := 1) (N := some 5) (v := ?_) (a' := ?_) #[true, true, false, false, false, false, false, false, false, false, false, false, false, false, false, false, false, false, false, false, false, false, false] rfl rfl (by kernel_rfl) (fun _ _ _ h => h) (Or.inl ⟨by rfl, ?_⟩) ?_ ?_
  rotate_left
  · intro w'
    go_simp
    with_reducible rfl
  rotate_left
  · simp only [Act.put, List.setIfInBounds_toArray, List.set_cons_zero, List.set_cons_succ]
    rfl
  refine pure_ (i := 2) (N := some 6) (v := ?_) (a' := ?_) #[true, true, true, false, false, false, false, false, false, false, false, false, false, false, false, false, false, false, false, false, false, false, false] rfl rfl (by kernel_rfl) (fun _ _ _ h => h) (Or.inl ⟨by rfl, ?_⟩) ?_ ?_
  rotate_left
  · intro w'
    go_simp
    with_reducible rfl
  rotate_left
  · simp only [Act.put, List.setIfInBounds_toArray, List.set_cons_zero, List.set_cons_succ]
    rfl
  refine pure_ (i := 3) (N := some 7) (v := ?_) (a' := ?_) #[true, true, true, true, false, false, false, false, false, false, false, false, false, false, false, false, false, false, false, false, false, false, false] rfl rfl (by kernel_rfl) (fun _ _ _ h => h) (Or.inl ⟨by rfl, ?_⟩) ?_ ?_
  rotate_left
  · intro w'
    go_simp
    with_reducible rfl
  rotate_left
  · simp only [Act.put, List.setIfInBounds_toArray, List.set_cons_zero, List.set_cons_succ]
    rfl
  refine pure_ (i := 4) (N := some 8) (v := ?_) (a' := ?_) #[true, true, true, true, true, false, false, false, false, false, false, false, false, false, false, false, false, false, false, false, false, false, false] rfl rfl (by kernel_rfl) (fun _ _ _ h => h) (Or.inl ⟨by rfl, ?_⟩) ?_ ?_
  rotate_left
  · intro w'
    go_simp
    with_reducible rfl
  rotate_left
  · simp only [Act.put, List.setIfInBounds_toArray, List.set_cons_zero, List.set_cons_succ]
    rfl
  refine pure_ (i := 5) (N := some 9) (v := ?_) (a' := ?_) #[true, true, true, true, true, true, false, false, false, false, false, false, false, false, false, false, false, false, false, false, false, false, false] rfl rfl (by kernel_rfl) (fun _ _ _ h => h) (Or.inl ⟨by rfl, ?_⟩) ?_ ?_
  rotate_left
  · intro w'
    go_simp
    with_reducible rfl
  rotate_left
  · simp only [Act.put, List.setIfInBounds_toArray, List.set_cons_zero, List.set_cons_succ]
    rfl
  refine take_ (i := 6) (N := some 10) (v := ?_) (a' := ?_) #[true, true, true, true, true, true, true, false, false, false, false, false, false, false, false, false, false, false, false, false, false, false, false] rfl rfl (by kernel_rfl) (fun _ _ _ h => h) (Or.inl ⟨by rfl, ?_⟩) hHeld ?_ ?_
  rotate_left
  · rintro w' ⟨s0, s1, s2⟩
    go_simp
    with_reducible rfl
  rotate_left
  · simp only [Act.put, List.setIfInBounds_toArray, List.set_cons_zero, List.set_cons_succ]
    rfl
  refine pure_ (i := 7) (N := some 11) (v := ?_) (a' := ?_) #[true, true, true, true, true, true, true, true, false, false, false, false, false, false, false, false, false, false, false, false, false, false, false] rfl rfl (by kernel_rfl) (fun _ _ _ h => h) (Or.inl ⟨by rfl, ?_⟩) ?_ ?_
  rotate_left
  · intro w'
    go_simp
    with_reducible rfl
  rotate_left
  · simp only [Act.put, List.setIfInBounds_toArray, List.set_cons_zero, List.set_cons_succ]
    rfl
  refine pure_ (i := 8) (N := some 12) (v := ?_) (a' := ?_) #[true, true, true, true, true, true, true, true, true, false, false, false, false, false, false, false, false, false, false, false, false, false, false] rfl rfl (by kernel_rfl) (fun _ _ _ h => h) (Or.inl ⟨by rfl, ?_⟩) ?_ ?_
  rotate_left
  · intro w'
    go_simp
    with_reducible rfl
  rotate_left
  · simp only [Act.put, List.setIfInBounds_toArray, List.set_cons_zero, List.set_cons_succ]
    rfl
  refine pure_ (i := 9) (N := some 13) (v := ?_) (a' := ?_) #[true, true, true, true, true, true, true, true, true, true, false, false, false, false, false, false, false, false, false, false, false, false, false] rfl rfl (by kernel_rfl) (fun _ _ _ h => h) (Or.inl ⟨by rfl, ?_⟩) ?_ ?_
  rotate_left
  · intro w'
    go_simp
    with_reducible rfl
  rotate_left
  · simp only [Act.put, List.setIfInBounds_toArray, List.set_cons_zero, List.set_cons_succ]
    rfl
  refine pure_ (i := 10) (N := some 14) (v := ?_) (a' := ?_) #[true, true, true, true, true, true, true, true, true, true, true, false, false, false, false, false, false, false, false, false, false, false, false] rfl rfl (by kernel_rfl) (fun _ _ _ h => h) (Or.inl ⟨by rfl, ?_⟩) ?_ ?_
  rotate_left
  · intro w'
    go_simp
    with_reducible rfl
  rotate_left
  · simp only [Act.put, List.setIfInBounds_toArray, List.set_cons_zero, List.set_cons_succ]
    rfl
  refine pure_ (i := 11) (N := some 15) (v := ?_) (a' := ?_) #[true, true, true, true, true, true, true, true, true, true, true, true, false, false, false, false, false, false, false, false, false, false, false] rfl rfl (by kernel_rfl) (fun _ _ _ h => h) (Or.inl ⟨by rfl, ?_⟩) ?_ ?_
  rotate_left
  · intro w'
    go_simp
    with_reducible rfl
  rotate_left
  · simp only [Act.put, List.setIfInBounds_toArray, List.set_cons_zero, List.set_cons_succ]
    rfl
  refine pure_ (i := 12) (N := some 16) (v := ?_) (a' := ?_) #[true, true, true, true, true, true, true, true, true, true, true, true, true, false, false, false, false, false, false, false, false, false, false] rfl rfl (by kernel_rfl) (fun _ _ _ h => h) (Or.inl ⟨by rfl, ?_⟩) ?_ ?_
  rotate_left
  · intro w'
    go_simp
    with_reducible rfl
  rotate_left
  · simp only [Act.put, List.setIfInBounds_toArray, List.set_cons_zero, List.set_cons_succ]
    rfl
  refine pure_ (i := 13) (N := some 17) (v := ?_) (a' := ?_) #[true, true, true, true, true, true, true, true, true, true, true, true, true, true, false, false, false, false, false, false, false, false, false] rfl rfl (by kernel_rfl) (fun _ _ _ h => h) (Or.inl ⟨by rfl, ?_⟩) ?_ ?_
  rotate_left
  · intro w'
    go_simp
    with_reducible rfl
  rotate_left
  · simp only [Act.put, List.setIfInBounds_toArray, List.set_cons_zero, List.set_cons_succ]
    rfl
  refine pure_ (i := 15) (N := some 19) (v := ?_) (a' := ?_) #[true, true, true, true, true, true, true, true, true, true, true, true, true, true, false, true, false, false, false, false, false, false, false] rfl rfl (by kernel_rfl) (fun _ _ _ h => h) (Or.inl ⟨by rfl, ?_⟩) ?_ ?_
  rotate_left
  · intro w'
    go_simp
    with_reducible rfl
  rotate_left
  · simp only [Act.put, List.setIfInBounds_toArray, List.set_cons_zero, List.set_cons_succ]
    rfl
  refine pure_ (i := 16) (N := some 20) (v := ?_) (a' := ?_) #[true, true, true, true, true, true, true, true, true, true, true, true, true, true, false, true, true, false, false, false, false, false, false] rfl rfl (by kernel_rfl) (fun _ _ _ h => h) (Or.inl ⟨by rfl, ?_⟩) ?_ ?_
  rotate_left
  · intro w'
    go_simp
    with_reducible rfl
  rotate_left
  · simp only [Act.put, List.setIfInBounds_toArray, List.set_cons_zero, List.set_cons_succ]
    rfl
  refine pure_ (i := 17) (N := some 21) (v := ?_) (a' := ?_) #[true, true, true, true, true, true, true, true, true, true, true, true, true, true, false, true, true, true, false, false, false, false, false] rfl rfl (by kernel_rfl) (fun _ _ _ h => h) (Or.inl ⟨by rfl, ?_⟩) ?_ ?_
  rotate_left
  · intro w'
    go_simp
    with_reducible rfl
  rotate_left
  · simp only [Act.put, List.setIfInBounds_toArray, List.set_cons_zero, List.set_cons_succ]
    rfl
  refine take_ (i := 14) (N := some 18) (v := ?_) (a' := ?_) #[true, true, true, true, true, true, true, true, true, true, true, true, true, true, true, true, true, true, false, false, false, false, false] rfl rfl (by kernel_rfl) (fun _ _ _ h => h) (Or.inl ⟨by rfl, ?_⟩) hHeld ?_ ?_
  rotate_left
  · rintro w' ⟨s0, s1, s2⟩
    go_simp
    with_reducible rfl
  rotate_left
  · simp only [Act.put, List.setIfInBounds_toArray, List.set_cons_zero, List.set_cons_succ]
    rfl
  refine take_ (i := 18) (N := some 22) (v := ?_) (a' := ?_) #[true, true, true, true, true, true, true, true, true, true, true, true, true, true, true, true, true, true, true, false, false, false, false] rfl rfl (by kernel_rfl) (fun _ _ _ h => h) (Or.inl ⟨by rfl, ?_⟩) hHeld ?_ ?_
  rotate_left
  · rintro w' ⟨s0, s1, s2⟩
    go_simp
    with_reducible rfl
  rotate_left
  · simp only [Act.put, List.setIfInBounds_toArray, List.set_cons_zero, List.set_cons_succ]
    rfl
  refine pure_ (i := 19) (N := some 23) (v := ?_) (a' := ?_) #[true, true, true, true, true, true, true, true, true, true, true, true, true, true, true, true, true, true, true, true, false, false, false] rfl rfl (by kernel_rfl) (fun _ _ _ h => h) (Or.inl ⟨by rfl, ?_⟩) ?_ ?_
  rotate_left
  · intro w'
    go_simp
    with_reducible rfl
  rotate_left
  · simp only [Act.put, List.setIfInBounds_toArray, List.set_cons_zero, List.set_cons_succ]
    rfl
  refine pure_ (i := 20) (N := some 24) (v := ?_) (a' := ?_) #[true, true, true, true, true, true, true, true, true, true, true, true, true, true, true, true, true, true, true, true, true, false, false] rfl rfl (by kernel_rfl) (fun _ _ _ h => h) (Or.inl ⟨by rfl, ?_⟩) ?_ ?_
  rotate_left
  · intro w'
    go_simp
    with_reducible rfl
  rotate_left
  · simp only [Act.put, List.setIfInBounds_toArray, List.set_cons_zero, List.set_cons_succ]
    rfl
  refine pure_ (i := 21) (N := some 25) (v := ?_) (a' := ?_) #[true, true, true, true, true, true, true, true, true, true, true, true, true, true, true, true, true, true, true, true, true, true, false] rfl rfl (by kernel_rfl) (fun _ _ _ h => h) (Or.inl ⟨by rfl, ?_⟩) ?_ ?_
  rotate_left
  · intro w'
    go_simp
    with_reducible rfl
  rotate_left
  · simp only [Act.put, List.setIfInBounds_toArray, List.set_cons_zero, List.set_cons_succ]
    rfl
  refine pure_ (i := 22) (N := some 26) (v := ?_) (a' := ?_) #[true, true, true, true, true, true, true, true, true, true, true, true, true, true, true, true, true, true, true, true, true, true, true] rfl rfl (by kernel_rfl) (fun _ _ _ h => h) (Or.inl ⟨by rfl, ?_⟩) ?_ ?_
  rotate_left
  · intro w'
    go_simp
    with_reducible rfl
  rotate_left
  · simp only [Act.put, List.setIfInBounds_toArray, List.set_cons_zero, List.set_cons_succ]
    rfl
  refine done_ (by kernel_rfl) ?_
  have HQ2 := Lib.hid (HQ.out.chg (Chg.refl NoB w).drew)
  have HC2 := Lib.hid ((Chg.refl NoB w).drew)
  have HN : Hid (∀ j u, (by8 ys)[j]? = some u → w.drew.cell? ((⟨b, 0, none⟩ : Addr).add j) = some u) := Lib.hid fun j u hu => by
    rw [Addr.add_lit]
    exact hcl j u hu
  clear HQ c0 c1 c2 hcl HV
  generalize w.drew = W at *
  have c0 := HQ2.out.blk.cell 0
  have hbW := HQ2.out.blk.lt
  obtain ⟨i9, hi9, z9, s9, y9⟩ := info_parts Tryz.infU8
  have hown2 := HQ2.out.own
  have hnw := HN.out
  go_wp2_with (at_builtin; refine wpList_append_lies _ rfl _ _ _ rfl (g + 1) 5 i9 _ 1 1 Tryz.underlying47 hi9 z9 s9 y9 rfl (by omega) _ zs.length (by8 zs) rfl hown2 ⟨b, 0, none⟩ ys.length cap2 (by8 ys) rfl (by rw [by8_length, Nat.mul_one]) hnw (by8_one ys) hy (by unfold maxLen; omega) (by omega) (by omega) W.heap.size rfl ?_)
  intro g3 cap3 w3 hown3 hgrow hat hlt3
  have hne : ¬ (Value.slice p zs.length cap).ownBlock = some g := fun hk => absurd (own_base HQ2.out.own hk) (by omega)
  have HG3 := Lib.hid (HQ2.out.blk.chg (grown_row hgrow) hne)
  have hs : Chg (Only g) w3 (w3.setCell ⟨g, 0, none⟩ (.slice (some ⟨g3, 0, none⟩) (zs.length + ys.length) cap3)) := (Chg.refl (Only g) w3).setOwn 0 _
  have hO3 := own_no hown3 hs (fun j hj => by
    have := own_base hown3 hj
    unfold Only
    omega)
  have HQ3 : Hid (WA (w3.setCell ⟨g, 0, none⟩ (.slice (some ⟨g3, 0, none⟩) (zs.length + ys.length) cap3)) g most (zs ++ ys) (.slice (some ⟨g3, 0, none⟩) (zs.length + ys.length) cap3)) := Lib.hid ⟨HG3.out.set_ 0 _, by
    rw [List.length_append, by8_append]
    exact hO3⟩
  have HL : Hid ((Value.slice (some ⟨g3, 0, none⟩) (zs.length + ys.length) cap3).ownBlock = (Value.slice p zs.length cap).ownBlock ∨ ∀ j, (Value.slice (some ⟨g3, 0, none⟩) (zs.length + ys.length) cap3).ownBlock = some j → w.heap.size ≤ j) := Lib.hid (by
    have hz := HC2.out.size
    rcases hat with h | h
    · exact .inl h.symm
    · exact .inr fun j hj => by
        have : g3 = j := Option.some.inj hj
        omega)
  have HK : Hid (Chg (WS g (.slice p zs.length cap)) w (w3.setCell ⟨g, 0, none⟩ (.slice (some ⟨g3, 0, none⟩) (zs.length + ys.length) cap3))) := Lib.hid
    (((HC2.out.of_no (S := WS g (.slice p zs.length cap))).trans ((grown_row hgrow).mono fun k _ hk => .inr hk)).trans (hs.mono fun k _ hk => .inl hk))
  have k0 := HG3.out.cell 0
  have f0 := HG3.out.frozen 0
  clear hown2 hnw hown3 hgrow hat hlt3 hne hs hO3 hi9 z9 s9 y9
  go_wp2_with fail
  go_end0
  exact ⟨rfl, ⟨_, HQ3.out, HL.out⟩, HK.out⟩
/-- A number, its sign last. -/
def zz (n : Int) : Nat := (IntKind.u64.wrap (IntKind.u64.wrap n * 2)).toNat ^^^ (IntKind.u64.wrap (n / 9223372036854775808)).toNat
theorem u64_in (x : Int) : 0 ≤ IntKind.u64.wrap x ∧ IntKind.u64.wrap x < 18446744073709551616 := by rw [IntKind.wrap_u64]; omega
theorem zz_lt (n : Int) : zz n < 18446744073709551616 := by
  have h1 := u64_in (IntKind.u64.wrap n * 2)
  have h2 := u64_in (n / 9223372036854775808)
  exact Nat.xor_lt_two_pow (n := 64) (by omega) (by omega)
theorem zz_eq (n : Int) : Go.bits .xor .u64 (IntKind.u64.wrap (IntKind.u64.wrap n * 2)) (IntKind.u64.wrap (n / 9223372036854775808)) = (zz n : Int) := by
  have h1 := u64_in (IntKind.u64.wrap n * 2)
  have h2 := u64_in (n / 9223372036854775808)
  have h := bits_xor_u64_nat (IntKind.u64.wrap (IntKind.u64.wrap n * 2)).toNat (IntKind.u64.wrap (n / 9223372036854775808)).toNat (by omega) (by omega)
  rw [Int.toNat_of_nonneg h1.1, Int.toNat_of_nonneg h2.1] at h
  exact h
/-- A number of either sign, as bytes. -/
def ib (n : Int) : List Int := nb (zz n)
theorem ib_len (n : Int) : (ib n).length ≤ 10 := nb_len 9 (zz n) (by have := zz_lt n; omega)
set_option maxRecDepth 100000 in
set_option maxHeartbeats 4000000 in
theorem wint_any {w : World} {g : Nat} {most n : Int} {zs : List Int} {s : Value} (q : WA w g most zs s) (hroom : (zs.length : Int) + 10 ≤ most) (hmost : most ≤ 4294967296) :
    Calls Tryz.prog 245 #[.pointer (some ⟨g, 0, none⟩), .int .i64 n] w fun e w' => e = .returned (.tuple #[]) ∧ (∃ s', WA w' g most (zs ++ ib n) s' ∧ (s'.ownBlock = s.ownBlock ∨ ∀ j, s'.ownBlock = some j → w.heap.size ≤ j)) ∧ Chg (WS g s) w w' := by
  have HQ := Lib.hid q
  have HZ := zz_eq n
  have hl := ib_len n
  clear q
  go_enter Tryz.func245, Tryz.ntmps245
  go_wp2_with fail
  refine (num_any (zz n) (zz_lt n) _).mono ?_
  rintro e w1 ⟨⟨v, rfl, hv⟩, hC⟩
  have HQ1 := Lib.hid (HQ.out.chg hC)
  have HV := Lib.hid hv
  have HC := Lib.hid hC
  clear hv hC
  go_wp2_with fail
  refine (put_any (ys := ib n) HQ1.out HV.out (nb_pos _) (fun j hj hj2 => ?_) (by omega) hmost).mono ?_
  · have h1 := own_base HV.out hj2
    obtain ⟨_, ho⟩ := HQ.out.own
    rcases ho with ⟨h0, _⟩ | ⟨g', cap', cur, h0, _, hB, _⟩
    · rw [h0] at hj; cases hj
    · rw [h0] at hj
      obtain rfl : g' = j := Option.some.inj hj
      have := Blk.lt (w := w) hB
      omega
  rintro e w2 ⟨rfl, ⟨s', hq, hf⟩, hk⟩
  have HQ2 := Lib.hid hq
  have HF := Lib.hid (hf.imp id fun h j hj => Nat.le_trans HC.out.size (h j hj))
  have HK := Lib.hid ((HC.out.of_no (S := WS g s)).trans hk)
  clear hq hk hf
  go_wp2_with fail
  go_end0
  exact ⟨rfl, ⟨s', HQ2.out, HF.out⟩, HK.out⟩
def ibs (f : Vc) (k : Nat) : List Int := (List.range k).flatMap fun i => ib (f i)
theorem ibs_succ (f : Vc) (k : Nat) : ibs f (k + 1) = ibs f k ++ ib (f k) := by simp [ibs, List.range_succ]
theorem ibs_len (f : Vc) (k : Nat) : (ibs f k).length ≤ 10 * k := by
  induction k with
  | zero => simp [ibs]
  | succ k ih =>
    rw [ibs_succ, List.length_append]
    have := ib_len (f k)
    omega
set_option maxRecDepth 100000 in
set_option maxHeartbeats 4000000 in
theorem write_any {w : World} {g : Nat} (f : Vc) (q : WA w g 200 [] (.slice none 0 0)) :
    Calls Tryz.prog 244 #[.pointer (some ⟨g, 0, none⟩), vec f] w fun e w' => e = .returned (.tuple #[]) ∧ (∃ s', WA w' g 200 (ibs f 8) s' ∧ ∀ j, s'.ownBlock = some j → w.heap.size ≤ j) ∧ Chg (Only g) w w' := by
  have HQ := Lib.hid q
  clear q
  go_enter Tryz.func244, Tryz.ntmps244
  go_wp2_with fail
  have HQ1 := Lib.hid (HQ.out.chg ((Chg.refl NoB w).alloc (Obj.cells (va f) 46)))
  have HC1 := Lib.hid ((Chg.refl (Only g) w).alloc (Obj.cells (va f) 46))
  clear HQ
  generalize w.alloc (Obj.cells (va f) 46) = W at *
  go_loopw [7] (fun i wr => ∃ k : Nat, k ≤ 8 ∧ i = .int .i64 k ∧ (∃ s', WA wr g 200 (ibs f k) s' ∧ ∀ j, s'.ownBlock = some j → w.heap.size ≤ j) ∧ Chg (Only g) w wr) (fun i _ => 8 - (intOf i).toNat)
  case atStart => exact ⟨0, by decide, rfl, ⟨_, HQ1.out, fun j hj => by cases hj⟩, HC1.out⟩
  case round =>
    clear HQ1 HC1
    obtain ⟨k, hk, rfl, ⟨s2, hq, hf⟩, hK⟩ := hrel
    have HF := Lib.hid hf
    have HQ := Lib.hid hq
    have HK := Lib.hid hK
    clear hq hK hf
    by_cases hlt : k < 8
    · have hk2 : decide ((k : Int) < 8) = true := by simp; omega
      have hl := ibs_len f k
      have hix := idx f hlt
      go_wp2_with fail
      refine (wint_any (n := f k) HQ.out (by omega) (by decide)).mono ?_
      rintro e w2 ⟨rfl, ⟨s4, hq, hf⟩, hk'⟩
      rw [← ibs_succ] at hq
      have HQ2 := Lib.hid hq
      have HF2 : Hid (∀ j, s4.ownBlock = some j → w.heap.size ≤ j) := Lib.hid fun j hj => by
        rcases hf with h | h
        · exact HF.out j (h ▸ hj)
        · exact Nat.le_trans HK.out.size (h j hj)
      have HK2 := Lib.hid (HK.out.then_ hk' fun j hj hs => by
        rcases hs with h | h
        · exact h
        · have := HF.out j h
          omega)
      clear hq hk' HQ HK HF hf
      go_wp2_with fail
      go_roundw
      case rel => exact ⟨k + 1, by omega, by go_num, ⟨s4, HQ2.out, HF2.out⟩, HK2.out⟩
      case measure => simp [intOf]; omega
    · obtain rfl : k = 8 := by omega
      have hk2 : decide (((8 : Nat) : Int) < 8) = false := by decide
      go_wp2_with fail
      go_end0
      exact ⟨rfl, ⟨s2, HQ.out, HF.out⟩, HK.out⟩
/-- A copy of bytes. -/
structure Cloned (w : World) (zs : List Int) (e : Ending) (w' : World) : Prop where
  at_ : ∃ v, e = .returned v ∧ w'.ownsRow w.heap.size 5 1 v zs.length (by8 zs)
  chg : Chg NoB w w'
set_option maxRecDepth 100000 in
set_option maxHeartbeats 4000000 in
theorem clone_any (zs : List Int) (p : Option Addr) (cap : Nat) (w : World) (hz : zs.length ≤ 140737488355328) (hp : 0 < zs.length → ∃ b off, p = some ⟨b, off, none⟩ ∧ b < w.heap.size ∧ ∀ j u, (by8 zs)[j]? = some u → w.cell? ⟨b, off + j, none⟩ = some u) :
    Calls Tryz.prog 133 #[.slice p zs.length cap] w (Cloned w zs) := by
  have he := Lib.run_eql_slice_nil (P := Tryz.prog) w 47 5 p zs.length cap 0 0 Tryz.underlying47
  obtain ⟨i9, hi9, z9, s9, y9⟩ := info_parts Tryz.infU8
  by_cases hl : 0 < zs.length
  · obtain ⟨b, off, rfl, hbl, hcl⟩ := hp hl
    simp only [Option.isNone] at he
    have hnw : ∀ j u, (by8 zs)[j]? = some u → (w.alloc (.cells #[] 5)).cell? ((⟨b, off, none⟩ : Addr).add j) = some u := fun j u hu => by
      rw [Addr.add_lit]
      exact Lib.cell?_alloc_some _ (hcl j u hu)
    have hown2 : (w.alloc (.cells #[] 5)).ownsRow w.heap.size 5 1 (.slice (some ⟨w.heap.size, 0, none⟩) 0 0) 0 [] := ⟨rfl, .inr ⟨_, _, _, rfl, Nat.le_refl _, Blk.new _ _ _, Nat.le_refl _, by unfold maxLen; omega, rfl, rfl⟩⟩
    clear hp hcl
    go_enter Tryz.func133, Tryz.ntmps133
    go_wp2_with (at_builtin; refine wpList_append_lies _ rfl _ _ _ rfl w.heap.size 5 i9 _ 1 1 Tryz.underlying47 hi9 z9 s9 y9 rfl (by omega) _ 0 [] rfl hown2 ⟨b, off, none⟩ zs.length cap (by8 zs) rfl (by rw [by8_length, Nat.mul_one]) hnw (by8_one zs) hl (by unfold maxLen; omega) (by omega) (by simp) (w.heap.size + 1) (by simp) ?_)
    intro g3 cap3 w3 hown3 hgrow hat hlt3
    have hC3 : Chg NoB w w3 := ((Chg.refl NoB w).alloc (.cells #[] 5)).then_ (grown_row hgrow) (fun j hj hs => by
      have := own_base hown2 hs
      omega)
    have HO := Lib.hid hown3
    have HC := Lib.hid hC3
    clear hown2 hown3 hgrow hat hC3 hnw
    go_wp2_with fail
    go_ret
    exact ⟨⟨_, rfl, by simpa using HO.out⟩, HC.out⟩
  · have h0 : zs = [] := List.length_eq_zero_iff.1 (by omega)
    subst h0
    clear hp
    cases p with
    | none =>
      simp only [Option.isNone, List.length_nil] at he
      go_enter Tryz.func133, Tryz.ntmps133
      go_wp2
      go_ret
      exact ⟨⟨_, rfl, rfl, .inl ⟨rfl, rfl⟩⟩, Chg.refl NoB w⟩
    | some a =>
      simp only [Option.isNone, List.length_nil] at he
      go_enter Tryz.func133, Tryz.ntmps133
      go_wp2_with fail
      go_ret
      exact ⟨⟨_, rfl, rfl, .inr ⟨_, _, _, rfl, Nat.le_refl _, Blk.new _ _ _, Nat.le_refl _, by unfold maxLen; omega, rfl, rfl⟩⟩, (Chg.refl NoB w).alloc _⟩
set_option maxRecDepth 100000 in
theorem done_any {w : World} {g : Nat} {most : Int} {zs : List Int} {s : Value} (q : WA w g most zs s) (hz : zs.length ≤ 140737488355328) :
    Calls Tryz.prog 183 #[.pointer (some ⟨g, 0, none⟩)] w fun e w' => (∃ v, e = .returned (.tuple #[v, .int .i64 0]) ∧ w'.ownsRow w.heap.size 5 1 v zs.length (by8 zs)) ∧ Chg NoB w w' := by
  obtain ⟨p, cap, rfl⟩ := q.form
  have c0 := q.blk.cell 0
  have c2 := q.blk.cell 2
  have hp : 0 < zs.length → ∃ b off, p = some ⟨b, off, none⟩ ∧ b < w.heap.size ∧ ∀ j u, (by8 zs)[j]? = some u → w.cell? ⟨b, off + j, none⟩ = some u := fun h => by
    obtain ⟨b, cap2, hv, _, hbl, hcl⟩ := own_lies q.own h
    cases hv
    exact ⟨b, 0, rfl, hbl, hcl⟩
  have HP := Lib.hid hp
  clear q hp
  go_enter Tryz.func183, Tryz.ntmps183
  go_wp2_with fail
  refine (clone_any zs p cap w hz HP.out).mono ?_
  rintro e w1 ⟨⟨v, rfl, hv⟩, hC⟩
  have HV := Lib.hid hv
  have HC := Lib.hid hC
  clear hv hC
  go_wp2_with fail
  go_ret2
  exact ⟨⟨v, rfl, HV.out⟩, HC.out⟩
/-- A slice of bytes that lies somewhere. -/
structure RdB (w : World) (v : Value) (zs : List Int) : Prop where
  lies : ∃ A cap, v = .slice A zs.length cap ∧ zs.length ≤ cap ∧ cap ≤ 9223372036854775807 ∧ (0 < zs.length → ∃ b off cs, A = some ⟨b, off, none⟩ ∧ Blk w b 5 cs ∧ ∀ j u, (by8 zs)[j]? = some u → cs[off + j]? = some u)
theorem RdB.nil (w : World) : RdB w (.slice none 0 0) [] := ⟨⟨none, 0, rfl, Nat.le_refl _, by omega, fun h => absurd h (by simp)⟩⟩
theorem RdB.of_own {w : World} {base : Nat} {v : Value} {zs : List Int} (h : w.ownsRow base 5 1 v zs.length (by8 zs)) : RdB w v zs := by
  obtain ⟨_, hr⟩ := h
  rcases hr with ⟨rfl, h0⟩ | ⟨g', cap, cur, rfl, _, hB, hn, hc, hs, ht⟩
  · rw [List.length_eq_zero_iff.1 h0]
    exact RdB.nil w
  · refine ⟨⟨_, cap, rfl, hn, by unfold maxLen at hc; omega, fun _ => ⟨g', 0, cur, rfl, hB, fun j u hu => ?_⟩⟩⟩
    rw [Nat.zero_add, ← Array.getElem?_toList]
    rw [← ht] at hu
    have hj : j < zs.length * 1 := by
      have := (List.getElem?_eq_some_iff.1 hu).1
      rw [List.length_take] at this
      omega
    rwa [List.getElem?_take_of_lt hj] at hu
theorem RdB.keep {w w' : World} {v : Value} {zs : List Int} (h : RdB w v zs) (k : ∀ b cs, Blk w b 5 cs → Blk w' b 5 cs) : RdB w' v zs := by
  obtain ⟨A, cap, hv, h1, h2, h3⟩ := h.lies
  exact ⟨⟨A, cap, hv, h1, h2, fun hl => by
    obtain ⟨b, off, cs, hA, hB, hcl⟩ := h3 hl
    exact ⟨b, off, cs, hA, k b cs hB, hcl⟩⟩⟩
/-- Block g is a reader: what is left, its error. -/
structure RA (w : World) (g : Nat) (err : Int) (zs : List Int) (v : Value) : Prop where
  blk : Blk w g 264 #[v, .int .i64 err]
  rd : RdB w v zs
theorem RA.chg {w w' : World} {g : Nat} {err : Int} {zs : List Int} {v : Value} (q : RA w g err zs v) (h : Chg NoB w w') : RA w' g err zs v := ⟨q.blk.chg h id, q.rd.keep fun _ _ hb => hb.chg h id⟩
set_option maxRecDepth 100000 in
theorem newReader_any (zs : List Int) (p : Option Addr) (cap : Nat) (w : World) (hz : zs.length ≤ 140737488355328) (hp : 0 < zs.length → ∃ b off, p = some ⟨b, off, none⟩ ∧ b < w.heap.size ∧ ∀ j u, (by8 zs)[j]? = some u → w.cell? ⟨b, off + j, none⟩ = some u) :
    Calls Tryz.prog 96 #[.slice p zs.length cap] w fun e w' => (∃ g v, e = .returned (.pointer (some ⟨g, 0, none⟩)) ∧ RA w' g 0 zs v ∧ w.heap.size ≤ g) ∧ Chg NoB w w' := by
  have HP := Lib.hid hp
  clear hp
  go_enter Tryz.func96, Tryz.ntmps96
  go_wp2_with fail
  refine (clone_any zs p cap w hz HP.out).mono ?_
  rintro e w1 ⟨⟨v, rfl, hv⟩, hC⟩
  have HV := Lib.hid (RdB.of_own hv)
  have HC := Lib.hid hC
  clear hv hC
  obtain ⟨A, c2, rfl, _⟩ := HV.out.lies
  go_wp2_with fail
  go_ret
  exact ⟨⟨_, _, rfl, ⟨Blk.new _ _ _, HV.out.keep fun _ _ hb => hb.alloc _⟩, HC.out.size⟩, HC.out.alloc _⟩
end Go.Proofs.YtoefffjhjmjhfaaGreat
