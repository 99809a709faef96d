/- The reference's writer. No statement is proved here. -/
import Derived.Test.YthkmocfdpmlllabDoorWire
namespace Go.Proofs.YthkmocfdpmlllabDoor.RW
open Go.RowKit Go.Proofs.YthkmocfdpmlllabDoorW.PrintLast
attribute [local go_sem] max2_mx max_two_

set_option maxHeartbeats 4000000 in
set_option maxRecDepth 100000 in
theorem num_any (n : Nat) (hn : n < 18446744073709551616) (w : World) : Calls Tryd.prog 40 #[.int .u64 n] w fun e w' => (∃ v, e = .returned v ∧ w'.ownsRow w.heap.size 5 1 v (nb n).length (by8 (nb n))) ∧ Chg NoB w w' := by
  go_enter Tryd.func40, Tryd.ntmps40
  go_wp2_with fail
  go_loopw [0, 3] (fun x l wr => ∃ (m : Nat) (zs : List Int), m < 18446744073709551616 ∧ x = .int .u64 m ∧ zs.length + (nb m).length = (nb n).length ∧ zs ++ nb m = nb n ∧ wr.ownsRow w.heap.size 5 1 l zs.length (by8 zs) ∧ Chg NoB w wr) (fun x _ _ => (intOf x).toNat)
  case atStart => exact ⟨n, [], hn, rfl, by simp, rfl, ⟨rfl, .inl ⟨rfl, rfl⟩⟩, Chg.refl _ _⟩
  case round =>
    obtain ⟨m, zs, hm, rfl, hlen, he, hO, hC⟩ := hrel
    have hbb := hC.size
    have HO := Lib.hid hO
    have HC := Lib.hid hC
    have HE := Lib.hid he
    have HN : Hid ((nb n).length ≤ 10) := Lib.hid (nb_len 9 n (by omega))
    have hz10 : zs.length ≤ 10 := by have := HN.out; omega
    clear hO hC he
    obtain ⟨i9, hi9, z9, s9, y9⟩ := info_parts Tryd.infU8
    by_cases hlt : m < 128
    · have hd : decide ((128 : Int) ≤ (m : Int)) = false := by simp; omega
      have HB : Hid (by8 zs ++ [.int .u8 (m : Int)] = by8 (nb n) ∧ zs.length + 1 = (nb n).length) := Lib.hid (by
        rw [← HE.out, nb_small hlt]
        simp [by8])
      have hown2 := World.ownsRow.alloc HO.out (.cells #[.int .u8 (m : Int)] 5)
      have hnw := World.news_of_block (w := wr.alloc (.cells #[.int .u8 (m : Int)] 5)) (heap_alloc_new wr _)
      go_wp2_with (at_builtin; refine wpList_append_lies _ rfl _ _ _ rfl w.heap.size 5 i9 _ 1 1 Tryd.underlying24 hi9 z9 s9 y9 rfl (by omega) _ zs.length (by8 zs) rfl hown2 _ 1 1 [.int .u8 (m : Int)] rfl rfl hnw (by intro u hu; simp only [List.mem_singleton] at hu; subst hu; rfl) (by omega) (by unfold maxLen; omega) (by omega) (by simp; omega) (wr.heap.size + 1) (by simp) ?_)
      intro g3 cap3 w3 hown3 hgrow hat hlt3
      rw [HB.out.1] at hown3
      have HO3 := Lib.hid hown3
      have HL := HB.out.2
      have HC3 := Lib.hid (HC.out.then_ (((Chg.refl _ wr).alloc (.cells #[.int .u8 (m : Int)] 5)).trans (grown_row hgrow)) (fun j hj hs => by
        have := own_base HO.out hs
        omega))
      clear hown2 hnw hown3 hgrow hat hlt3 hi9 z9 s9 y9
      go_wp2_with fail
      go_ret
      exact ⟨⟨_, rfl, by rw [← HL]; exact HO3.out⟩, HC3.out⟩
    · have hd : decide ((128 : Int) ≤ (m : Int)) = true := by simp; omega
      have HB : Hid (by8 zs ++ [.int .u8 (Go.bits .or .u8 ((m : Int) % 256) 128)] = by8 (zs ++ [Go.bits .or .u8 ((m : Int) % 256) 128])) := Lib.hid (by simp [by8])
      have hown2 := World.ownsRow.alloc HO.out (.cells #[.int .u8 (Go.bits .or .u8 ((m : Int) % 256) 128)] 5)
      have hnw := World.news_of_block (w := wr.alloc (.cells #[.int .u8 (Go.bits .or .u8 ((m : Int) % 256) 128)] 5)) (heap_alloc_new wr _)
      go_wp2_with (at_builtin; refine wpList_append_lies _ rfl _ _ _ rfl w.heap.size 5 i9 _ 1 1 Tryd.underlying24 hi9 z9 s9 y9 rfl (by omega) _ zs.length (by8 zs) rfl hown2 _ 1 1 [.int .u8 (Go.bits .or .u8 ((m : Int) % 256) 128)] rfl rfl hnw (by intro u hu; simp only [List.mem_singleton] at hu; subst hu; rfl) (by omega) (by unfold maxLen; omega) (by omega) (by simp; omega) (wr.heap.size + 1) (by simp) ?_)
      intro g3 cap3 w3 hown3 hgrow hat hlt3
      rw [HB.out] at hown3
      have HO3 := Lib.hid hown3
      have HC3 := Lib.hid (HC.out.then_ (((Chg.refl _ wr).alloc (.cells #[.int .u8 (Go.bits .or .u8 ((m : Int) % 256) 128)] 5)).trans (grown_row hgrow)) (fun j hj hs => by
        have := own_base HO.out hs
        omega))
      have HE2 : Hid (zs ++ [Go.bits .or .u8 ((m : Int) % 256) 128] ++ nb (m / 128) = nb n) := Lib.hid (by rw [← HE.out, nb_big hlt]; simp)
      clear hown2 hnw hown3 hgrow hat hlt3 hi9 z9 s9 y9
      go_wp2_with fail
      go_roundw
      case rel => exact ⟨m / 128, zs ++ [Go.bits .or .u8 ((m : Int) % 256) 128], by omega, by go_num, by rw [← HE2.out]; simp; omega, HE2.out, by rw [List.length_append]; exact HO3.out, HC3.out⟩
      case measure => simp [intOf]; omega

/-- Block g is a writer that is not at its end: its bytes, its end. -/
structure WA (w : World) (g : Nat) (most : Int) (zs : List Int) (s : Value) : Prop where
  blk : Blk w g 29 #[s, .int .i64 most, .bool false]
  own : w.ownsRow (g + 1) 5 1 s zs.length (by8 zs)
theorem WA.form {w : World} {g : Nat} {most : Int} {zs : List Int} {s : Value} (q : WA w g most zs s) : ∃ p cap, s = .slice p zs.length cap := by
  obtain ⟨_, ho⟩ := q.own
  rcases ho with ⟨rfl, h0⟩ | ⟨g', cap, cur, rfl, _⟩
  · exact ⟨none, 0, by rw [h0]⟩
  · exact ⟨_, _, rfl⟩
theorem WA.chg {w w' : World} {g : Nat} {most : Int} {zs : List Int} {s : Value} (q : WA w g most zs s) (h : Chg NoB w w') : WA w' g most zs s := ⟨q.blk.chg h id, own_no q.own h fun _ _ => id⟩
set_option maxRecDepth 100000 in
set_option maxHeartbeats 4000000 in
theorem put_any {w : World} {g : Nat} {most : Int} {zs ys : List Int} {s v : Value} {base : Nat} (q : WA w g most zs s) (hv : w.ownsRow base 5 1 v ys.length (by8 ys)) (hy : 0 < ys.length) (hdj : ∀ j, s.ownBlock = some j → v.ownBlock ≠ some j)
    (hroom : (zs.length : Int) + ys.length ≤ most) (hmost : most ≤ 1000) :
    Calls Tryd.prog 39 #[.pointer (some ⟨g, 0, none⟩), v] w fun e w' => e = .returned (.tuple #[]) ∧ (∃ s', WA w' g most (zs ++ ys) s' ∧ (s'.ownBlock = s.ownBlock ∨ ∀ j, s'.ownBlock = some j → w.heap.size ≤ j)) ∧ Chg (WS g s) w w' := by
  obtain ⟨p, cap, rfl⟩ := q.form
  obtain ⟨b, cap2, rfl, hbb, hbl, hcl⟩ := own_lies hv hy
  have HQ := Lib.hid q
  have HV := Lib.hid hv
  have HD := Lib.hid hdj
  have c0 := q.blk.cell 0
  have c1 := q.blk.cell 1
  have c2 := q.blk.cell 2
  clear q hv hdj
  go_enter Tryd.func39, Tryd.ntmps39
  have hgt : decide (most - (zs.length : Int) < (ys.length : Int)) = false := by simp; omega
  have hwr : IntKind.i64.wrap (most - (zs.length : Int)) = most - (zs.length : Int) := by rw [IntKind.wrap_i64]; omega
  go_wp2_with fail
  refine start_ (n := 19) (S := fun w' => w'.cell? ⟨g, 0, none⟩ = some (.slice p zs.length cap) ∧ w'.cell? ⟨g, 1, none⟩ = some (.int .i64 most) ∧ w'.cell? ⟨g, 2, none⟩ = some (.bool false)) (ds := []) #[false, false, false, false, false, false, false, false, false, false, false, false, false, false, false, false, false, false, false] (by kernel_rfl) rfl rfl ⟨c0, c1, c2⟩ (fun hHeld => ?_)
  refine pure_ (i := 0) (N := some 4) (v := ?_) (a' := ?_) #[true, false, false, false, false, false, false, false, false, false, false, false, false, false, false, false, false, false, false] rfl rfl (by kernel_rfl) (fun _ _ _ h => h) (Or.inl ⟨by rfl, ?_⟩) ?_ ?_
  rotate_left
  · intro w'
    go_simp
    with_reducible rfl
  rotate_left
  · simp only [Act.put, List.setIfInBounds_toArray, List.set_cons_zero, List.set_cons_succ]
    rfl
  refine pure_ (i := 1) (N := some 5) (v := ?_) (a' := ?_) #[true, true, false, false, false, false, false, false, false, false, false, false, false, false, false, false, false, false, false] rfl rfl (by kernel_rfl) (fun _ _ _ h => h) (Or.inl ⟨by rfl, ?_⟩) ?_ ?_
  rotate_left
  · intro w'
    go_simp
    with_reducible rfl
  rotate_left
  · simp only [Act.put, List.setIfInBounds_toArray, List.set_cons_zero, List.set_cons_succ]
    rfl
  refine pure_ (i := 2) (N := some 6) (v := ?_) (a' := ?_) #[true, true, true, false, false, false, false, false, false, false, false, false, false, false, false, false, false, false, false] rfl rfl (by kernel_rfl) (fun _ _ _ h => h) (Or.inl ⟨by rfl, ?_⟩) ?_ ?_
  rotate_left
  · intro w'
    go_simp
    with_reducible rfl
  rotate_left
  · simp only [Act.put, List.setIfInBounds_toArray, List.set_cons_zero, List.set_cons_succ]
    rfl
  refine take_ (i := 3) (N := some 7) (v := ?_) (a' := ?_) #[true, true, true, true, false, false, false, false, false, false, false, false, false, false, false, false, false, false, false] rfl rfl (by kernel_rfl) (fun _ _ _ h => h) (Or.inl ⟨by rfl, ?_⟩) hHeld ?_ ?_
  rotate_left
  · rintro w' ⟨s0, s1, s2⟩
    go_simp
    with_reducible rfl
  rotate_left
  · simp only [Act.put, List.setIfInBounds_toArray, List.set_cons_zero, List.set_cons_succ]
    rfl
  refine pure_ (i := 4) (N := some 8) (v := ?_) (a' := ?_) #[true, true, true, true, true, false, false, false, false, false, false, false, false, false, false, false, false, false, false] rfl rfl (by kernel_rfl) (fun _ _ _ h => h) (Or.inl ⟨by rfl, ?_⟩) ?_ ?_
  rotate_left
  · intro w'
    go_simp
    with_reducible rfl
  rotate_left
  · simp only [Act.put, List.setIfInBounds_toArray, List.set_cons_zero, List.set_cons_succ]
    rfl
  refine pure_ (i := 5) (N := some 9) (v := ?_) (a' := ?_) #[true, true, true, true, true, true, false, false, false, false, false, false, false, false, false, false, false, false, false] rfl rfl (by kernel_rfl) (fun _ _ _ h => h) (Or.inl ⟨by rfl, ?_⟩) ?_ ?_
  rotate_left
  · intro w'
    go_simp
    with_reducible rfl
  rotate_left
  · simp only [Act.put, List.setIfInBounds_toArray, List.set_cons_zero, List.set_cons_succ]
    rfl
  refine pure_ (i := 6) (N := some 10) (v := ?_) (a' := ?_) #[true, true, true, true, true, true, true, false, false, false, false, false, false, false, false, false, false, false, false] rfl rfl (by kernel_rfl) (fun _ _ _ h => h) (Or.inl ⟨by rfl, ?_⟩) ?_ ?_
  rotate_left
  · intro w'
    go_simp
    with_reducible rfl
  rotate_left
  · simp only [Act.put, List.setIfInBounds_toArray, List.set_cons_zero, List.set_cons_succ]
    rfl
  refine pure_ (i := 7) (N := some 11) (v := ?_) (a' := ?_) #[true, true, true, true, true, true, true, true, false, false, false, false, false, false, false, false, false, false, false] rfl rfl (by kernel_rfl) (fun _ _ _ h => h) (Or.inl ⟨by rfl, ?_⟩) ?_ ?_
  rotate_left
  · intro w'
    go_simp
    with_reducible rfl
  rotate_left
  · simp only [Act.put, List.setIfInBounds_toArray, List.set_cons_zero, List.set_cons_succ]
    rfl
  refine pure_ (i := 8) (N := some 12) (v := ?_) (a' := ?_) #[true, true, true, true, true, true, true, true, true, false, false, false, false, false, false, false, false, false, false] rfl rfl (by kernel_rfl) (fun _ _ _ h => h) (Or.inl ⟨by rfl, ?_⟩) ?_ ?_
  rotate_left
  · intro w'
    go_simp
    with_reducible rfl
  rotate_left
  · simp only [Act.put, List.setIfInBounds_toArray, List.set_cons_zero, List.set_cons_succ]
    rfl
  refine pure_ (i := 9) (N := some 13) (v := ?_) (a' := ?_) #[true, true, true, true, true, true, true, true, true, true, false, false, false, false, false, false, false, false, false] rfl rfl (by kernel_rfl) (fun _ _ _ h => h) (Or.inl ⟨by rfl, ?_⟩) ?_ ?_
  rotate_left
  · intro w'
    go_simp
    with_reducible rfl
  rotate_left
  · simp only [Act.put, List.setIfInBounds_toArray, List.set_cons_zero, List.set_cons_succ]
    rfl
  refine pure_ (i := 11) (N := some 15) (v := ?_) (a' := ?_) #[true, true, true, true, true, true, true, true, true, true, false, true, false, false, false, false, false, false, false] rfl rfl (by kernel_rfl) (fun _ _ _ h => h) (Or.inl ⟨by rfl, ?_⟩) ?_ ?_
  rotate_left
  · intro w'
    go_simp
    with_reducible rfl
  rotate_left
  · simp only [Act.put, List.setIfInBounds_toArray, List.set_cons_zero, List.set_cons_succ]
    rfl
  refine pure_ (i := 12) (N := some 16) (v := ?_) (a' := ?_) #[true, true, true, true, true, true, true, true, true, true, false, true, true, false, false, false, false, false, false] rfl rfl (by kernel_rfl) (fun _ _ _ h => h) (Or.inl ⟨by rfl, ?_⟩) ?_ ?_
  rotate_left
  · intro w'
    go_simp
    with_reducible rfl
  rotate_left
  · simp only [Act.put, List.setIfInBounds_toArray, List.set_cons_zero, List.set_cons_succ]
    rfl
  refine pure_ (i := 13) (N := some 17) (v := ?_) (a' := ?_) #[true, true, true, true, true, true, true, true, true, true, false, true, true, true, false, false, false, false, false] rfl rfl (by kernel_rfl) (fun _ _ _ h => h) (Or.inl ⟨by rfl, ?_⟩) ?_ ?_
  rotate_left
  · intro w'
    go_simp
    with_reducible rfl
  rotate_left
  · simp only [Act.put, List.setIfInBounds_toArray, List.set_cons_zero, List.set_cons_succ]
    rfl
  refine take_ (i := 10) (N := some 14) (v := ?_) (a' := ?_) #[true, true, true, true, true, true, true, true, true, true, true, true, true, true, false, false, false, false, false] rfl rfl (by kernel_rfl) (fun _ _ _ h => h) (Or.inl ⟨by rfl, ?_⟩) hHeld ?_ ?_
  rotate_left
  · rintro w' ⟨s0, s1, s2⟩
    go_simp
    with_reducible rfl
  rotate_left
  · simp only [Act.put, List.setIfInBounds_toArray, List.set_cons_zero, List.set_cons_succ]
    rfl
  refine take_ (i := 14) (N := some 18) (v := ?_) (a' := ?_) #[true, true, true, true, true, true, true, true, true, true, true, true, true, true, true, false, false, false, false] rfl rfl (by kernel_rfl) (fun _ _ _ h => h) (Or.inl ⟨by rfl, ?_⟩) hHeld ?_ ?_
  rotate_left
  · rintro w' ⟨s0, s1, s2⟩
    go_simp
    with_reducible rfl
  rotate_left
  · simp only [Act.put, List.setIfInBounds_toArray, List.set_cons_zero, List.set_cons_succ]
    rfl
  refine pure_ (i := 15) (N := some 19) (v := ?_) (a' := ?_) #[true, true, true, true, true, true, true, true, true, true, true, true, true, true, true, true, false, false, false] rfl rfl (by kernel_rfl) (fun _ _ _ h => h) (Or.inl ⟨by rfl, ?_⟩) ?_ ?_
  rotate_left
  · intro w'
    go_simp
    with_reducible rfl
  rotate_left
  · simp only [Act.put, List.setIfInBounds_toArray, List.set_cons_zero, List.set_cons_succ]
    rfl
  refine pure_ (i := 16) (N := some 20) (v := ?_) (a' := ?_) #[true, true, true, true, true, true, true, true, true, true, true, true, true, true, true, true, true, false, false] rfl rfl (by kernel_rfl) (fun _ _ _ h => h) (Or.inl ⟨by rfl, ?_⟩) ?_ ?_
  rotate_left
  · intro w'
    go_simp
    with_reducible rfl
  rotate_left
  · simp only [Act.put, List.setIfInBounds_toArray, List.set_cons_zero, List.set_cons_succ]
    rfl
  refine pure_ (i := 17) (N := some 21) (v := ?_) (a' := ?_) #[true, true, true, true, true, true, true, true, true, true, true, true, true, true, true, true, true, true, false] rfl rfl (by kernel_rfl) (fun _ _ _ h => h) (Or.inl ⟨by rfl, ?_⟩) ?_ ?_
  rotate_left
  · intro w'
    go_simp
    with_reducible rfl
  rotate_left
  · simp only [Act.put, List.setIfInBounds_toArray, List.set_cons_zero, List.set_cons_succ]
    rfl
  refine pure_ (i := 18) (N := some 22) (v := ?_) (a' := ?_) #[true, true, true, true, true, true, true, true, true, true, true, true, true, true, true, true, true, true, true] rfl rfl (by kernel_rfl) (fun _ _ _ h => h) (Or.inl ⟨by rfl, ?_⟩) ?_ ?_
  rotate_left
  · intro w'
    go_simp
    with_reducible rfl
  rotate_left
  · simp only [Act.put, List.setIfInBounds_toArray, List.set_cons_zero, List.set_cons_succ]
    rfl
  refine done_ (by kernel_rfl) ?_
  have HQ2 := Lib.hid (HQ.out.chg (Chg.refl NoB w).drew)
  have HC2 := Lib.hid ((Chg.refl NoB w).drew)
  have HN : Hid (∀ j u, (by8 ys)[j]? = some u → w.drew.cell? ((⟨b, 0, none⟩ : Addr).add j) = some u) := Lib.hid fun j u hu => by
    rw [Addr.add_lit]
    exact hcl j u hu
  clear HQ c0 c1 c2 hcl HV
  generalize w.drew = W at *
  have c0 := HQ2.out.blk.cell 0
  have hbW := HQ2.out.blk.lt
  obtain ⟨i9, hi9, z9, s9, y9⟩ := info_parts Tryd.infU8
  have hown2 := HQ2.out.own
  have hnw := HN.out
  go_wp2_with (at_builtin; refine wpList_append_lies _ rfl _ _ _ rfl (g + 1) 5 i9 _ 1 1 Tryd.underlying24 hi9 z9 s9 y9 rfl (by omega) _ zs.length (by8 zs) rfl hown2 ⟨b, 0, none⟩ ys.length cap2 (by8 ys) rfl (by rw [by8_length, Nat.mul_one]) hnw (by8_one ys) hy (by unfold maxLen; omega) (by omega) (by omega) W.heap.size rfl ?_)
  intro g3 cap3 w3 hown3 hgrow hat hlt3
  have hne : ¬ (Value.slice p zs.length cap).ownBlock = some g := fun hk => absurd (own_base HQ2.out.own hk) (by omega)
  have HG3 := Lib.hid (HQ2.out.blk.chg (grown_row hgrow) hne)
  have hs : Chg (Only g) w3 (w3.setCell ⟨g, 0, none⟩ (.slice (some ⟨g3, 0, none⟩) (zs.length + ys.length) cap3)) := (Chg.refl (Only g) w3).setOwn 0 _
  have hO3 := own_no hown3 hs (fun j hj => by
    have := own_base hown3 hj
    unfold Only
    omega)
  have HQ3 : Hid (WA (w3.setCell ⟨g, 0, none⟩ (.slice (some ⟨g3, 0, none⟩) (zs.length + ys.length) cap3)) g most (zs ++ ys) (.slice (some ⟨g3, 0, none⟩) (zs.length + ys.length) cap3)) := Lib.hid ⟨HG3.out.set_ 0 _, by
    rw [List.length_append, by8_append]
    exact hO3⟩
  have HL : Hid ((Value.slice (some ⟨g3, 0, none⟩) (zs.length + ys.length) cap3).ownBlock = (Value.slice p zs.length cap).ownBlock ∨ ∀ j, (Value.slice (some ⟨g3, 0, none⟩) (zs.length + ys.length) cap3).ownBlock = some j → w.heap.size ≤ j) := Lib.hid (by
    have hz := HC2.out.size
    rcases hat with h | h
    · exact .inl h.symm
    · exact .inr fun j hj => by
        have : g3 = j := Option.some.inj hj
        omega)
  have HK : Hid (Chg (WS g (.slice p zs.length cap)) w (w3.setCell ⟨g, 0, none⟩ (.slice (some ⟨g3, 0, none⟩) (zs.length + ys.length) cap3))) := Lib.hid
    (((HC2.out.of_no (S := WS g (.slice p zs.length cap))).trans ((grown_row hgrow).mono fun k _ hk => .inr hk)).trans (hs.mono fun k _ hk => .inl hk))
  have k0 := HG3.out.cell 0
  have f0 := HG3.out.frozen 0
  clear hown2 hnw hown3 hgrow hat hlt3 hne hs hO3 hi9 z9 s9 y9
  go_wp2_with fail
  go_end0
  exact ⟨rfl, ⟨_, HQ3.out, HL.out⟩, HK.out⟩
set_option maxRecDepth 100000 in
set_option maxHeartbeats 4000000 in
theorem wint_any {w : World} {g : Nat} {most n : Int} {zs : List Int} {s : Value} (q : WA w g most zs s) (hroom : (zs.length : Int) + 10 ≤ most) (hmost : most ≤ 1000) :
    Calls Tryd.prog 23 #[.pointer (some ⟨g, 0, none⟩), .int .i64 n] w fun e w' => e = .returned (.tuple #[]) ∧ (∃ s', WA w' g most (zs ++ ib n) s' ∧ (s'.ownBlock = s.ownBlock ∨ ∀ j, s'.ownBlock = some j → w.heap.size ≤ j)) ∧ Chg (WS g s) w w' := by
  have HQ := Lib.hid q
  have HZ := zz_eq n
  have hl := ib_len n
  clear q
  go_enter Tryd.func23, Tryd.ntmps23
  go_wp2_with fail
  refine (num_any (zz n) (zz_lt n) _).mono ?_
  rintro e w1 ⟨⟨v, rfl, hv⟩, hC⟩
  have HQ1 := Lib.hid (HQ.out.chg hC)
  have HV := Lib.hid hv
  have HC := Lib.hid hC
  clear hv hC
  go_wp2_with fail
  refine (put_any (ys := ib n) HQ1.out HV.out (nb_pos _) (fun j hj hj2 => ?_) (by omega) hmost).mono ?_
  · have h1 := own_base HV.out hj2
    obtain ⟨_, ho⟩ := HQ.out.own
    rcases ho with ⟨h0, _⟩ | ⟨g', cap', cur, h0, _, hB, _⟩
    · rw [h0] at hj; cases hj
    · rw [h0] at hj
      obtain rfl : g' = j := Option.some.inj hj
      have := Blk.lt (w := w) hB
      omega
  rintro e w2 ⟨rfl, ⟨s', hq, hf⟩, hk⟩
  have HQ2 := Lib.hid hq
  have HF := Lib.hid (hf.imp id fun h j hj => Nat.le_trans HC.out.size (h j hj))
  have HK := Lib.hid ((HC.out.of_no (S := WS g s)).trans hk)
  clear hq hk hf
  go_wp2_with fail
  go_end0
  exact ⟨rfl, ⟨s', HQ2.out, HF.out⟩, HK.out⟩
set_option maxRecDepth 100000 in
set_option maxHeartbeats 4000000 in
theorem write_any {w : World} {g : Nat} (f : Vc) (q : WA w g 200 [] (.slice none 0 0)) :
    Calls Tryd.prog 8 #[.pointer (some ⟨g, 0, none⟩), vec f] w fun e w' => e = .returned (.tuple #[]) ∧ (∃ s', WA w' g 200 (ibs f 8) s' ∧ ∀ j, s'.ownBlock = some j → w.heap.size ≤ j) ∧ Chg (Only g) w w' := by
  have HQ := Lib.hid q
  clear q
  go_enter Tryd.func8, Tryd.ntmps8
  go_wp2_with fail
  have HQ1 := Lib.hid (HQ.out.chg ((Chg.refl NoB w).alloc (Obj.cells (va f) 23)))
  have HC1 := Lib.hid ((Chg.refl (Only g) w).alloc (Obj.cells (va f) 23))
  clear HQ
  generalize w.alloc (Obj.cells (va f) 23) = W at *
  go_loopw [7] (fun i wr => ∃ k : Nat, k ≤ 8 ∧ i = .int .i64 k ∧ (∃ s', WA wr g 200 (ibs f k) s' ∧ ∀ j, s'.ownBlock = some j → w.heap.size ≤ j) ∧ Chg (Only g) w wr) (fun i _ => 8 - (intOf i).toNat)
  case atStart => exact ⟨0, by decide, rfl, ⟨_, HQ1.out, fun j hj => by cases hj⟩, HC1.out⟩
  case round =>
    clear HQ1 HC1
    obtain ⟨k, hk, rfl, ⟨s2, hq, hf⟩, hK⟩ := hrel
    have HF := Lib.hid hf
    have HQ := Lib.hid hq
    have HK := Lib.hid hK
    clear hq hK hf
    by_cases hlt : k < 8
    · have hk2 : decide ((k : Int) < 8) = true := by simp; omega
      have hl := ibs_len f k
      have hix := idx f hlt
      go_wp2_with fail
      refine (wint_any (n := f k) HQ.out (by omega) (by decide)).mono ?_
      rintro e w2 ⟨rfl, ⟨s4, hq, hf⟩, hk'⟩
      rw [← ibs_succ] at hq
      have HQ2 := Lib.hid hq
      have HF2 : Hid (∀ j, s4.ownBlock = some j → w.heap.size ≤ j) := Lib.hid fun j hj => by
        rcases hf with h | h
        · exact HF.out j (h ▸ hj)
        · exact Nat.le_trans HK.out.size (h j hj)
      have HK2 := Lib.hid (HK.out.then_ hk' fun j hj hs => by
        rcases hs with h | h
        · exact h
        · have := HF.out j h
          omega)
      clear hq hk' HQ HK HF hf
      go_wp2_with fail
      go_roundw
      case rel => exact ⟨k + 1, by omega, by go_num, ⟨s4, HQ2.out, HF2.out⟩, HK2.out⟩
      case measure => simp [intOf]; omega
    · obtain rfl : k = 8 := by omega
      have hk2 : decide (((8 : Nat) : Int) < 8) = false := by decide
      go_wp2_with fail
      go_end0
      exact ⟨rfl, ⟨s2, HQ.out, HF.out⟩, HK.out⟩
end Go.Proofs.YthkmocfdpmlllabDoor.RW
