/- Contracts of the reference's queue. No statement is proved here. -/
import Derived.Test.YtcefaohdikongaaQAllSt
namespace Go.Proofs.Ytcefaohdikongaa
open Go.RowKit Go.Proofs.YtcefaohdikongaaW.PrintLast
attribute [local go_sem ↓] Go.wp_at_zero Go.wp_at_succ
attribute [local go_sem] max2_mx min2_mn max_two_ min_two_

/-- What is to be appended: nothing, or cells in memory. -/
def Src (w : World) (v : Value) (m size : Nat) (ys : List Value) : Prop := (v = .slice none 0 0 ∧ m = 0 ∧ ys = []) ∨ ∃ ad c, v = .slice (some ad) m c ∧ ys.length = m * size ∧ ∀ j u, ys[j]? = some u → w.cell? (ad.add j) = some u
theorem wp_append_all {P : Program} {w : World} {o : Oper} {a : Act} {K : Act → World → Prop} {Q : Exit → Act → World → Prop} (s x : Operand) (t : TypeId) (ho : o.op = .call { callee := .builtin .append, args := #[s, x], argTypes := #[t, t] })
    (base : Nat) (e : TypeId) (i : TypeInfo) (z : Value) (size bytes : Nat) (ht : P.underlying t = some (.slice e)) (hi : P.info? e = some i) (hz : i.zero = some z) (hsize : i.size = size) (hby : i.bytes = bytes) (hzs : z.cells.size = size) (hsz : 0 < size)
    (v : Value) (n : Nat) (xs : List Value) (hs : a.eval s = v) (hown : w.ownsRow base e size v n xs) (src : Value) (m : Nat) (ys : List Value) (hx : a.eval x = src) (hsrc : Src w src m size ys) (h1 : ∀ u ∈ ys, u.oneCell' = true)
    (h63 : n + m ≤ maxLen) (hbytes : (n + m) * bytes ≤ 140737488355328) (hbase : base ≤ w.heap.size)
    (h : ∀ v' w', w'.ownsRow base e size v' (n + m) (xs ++ ys) → w.grownBy w' v.ownBlock → (v'.ownBlock = v.ownBlock ∨ v'.ownBlock = some w.heap.size) → K (a.put o.dst v') w') : o.wp P a w K Q := by
  rcases hsrc with ⟨rfl, rfl, rfl⟩ | ⟨ad, c, rfl, hl, hc⟩
  · have hr := run_append_owned_none (P := P) (w := w) base t o.type e i size ht hi v n xs hown
    unfold Oper.wp execOp
    simp only [ho, resolve, invoke, builtin, Sem.run_bind, Sem.run_pure, Result.andThen_ok, List.map_toArray, List.map_cons, List.map_nil, hs, hx, hr]
    exact h v w (by simpa using hown) (World.grownBy.refl _ _) (.inl rfl)
  · obtain ⟨v', w', hr, h2, h3, _, h5⟩ := run_append_own_at (P := P) w base t o.type e i z size bytes ht hi hz hsize hby hzs hsz v n xs hown ad m c ys hl hc h1 h63 hbytes hbase
    unfold Oper.wp execOp
    simp only [ho, resolve, invoke, builtin, Sem.run_bind, Sem.run_pure, Result.andThen_ok, List.map_toArray, List.map_cons, List.map_nil, hs, hx, hr]
    exact h v' w' h2 h3 h5
theorem wpList_append_all {P : Program} {w : World} {ops : Array Oper} {rest : List Oper} {o : Oper} {a : Act} {Q : Exit → Act → World → Prop} (hgd : o.guard = none) (s x : Operand) (t : TypeId) (ho : o.op = .call { callee := .builtin .append, args := #[s, x], argTypes := #[t, t] })
    (base : Nat) (e : TypeId) (i : TypeInfo) (z : Value) (size bytes : Nat) (ht : P.underlying t = some (.slice e)) (hi : P.info? e = some i) (hz : i.zero = some z) (hsize : i.size = size) (hby : i.bytes = bytes) (hzs : z.cells.size = size) (hsz : 0 < size)
    (v : Value) (n : Nat) (xs : List Value) (hs : a.eval s = v) (hown : w.ownsRow base e size v n xs) (src : Value) (m : Nat) (ys : List Value) (hx : a.eval x = src) (hsrc : Src w src m size ys) (h1 : ∀ u ∈ ys, u.oneCell' = true)
    (h63 : n + m ≤ maxLen) (hbytes : (n + m) * bytes ≤ 140737488355328) (hbase : base ≤ w.heap.size)
    (h : ∀ v' w', w'.ownsRow base e size v' (n + m) (xs ++ ys) → w.grownBy w' v.ownBlock → (v'.ownBlock = v.ownBlock ∨ v'.ownBlock = some w.heap.size) → wpList P ops Q rest (a.put o.dst v') w') : wpList P ops Q (o :: rest) a w :=
  wpList_plain hgd fun _ hK => wp_append_all s x t ho base e i z size bytes ht hi hz hsize hby hzs hsz v n xs hs hown src m ys hx hsrc h1 h63 hbytes hbase fun v' w' h2 h3 h4 => hK _ _ (h v' w' h2 h3 h4)
theorem step_append_all {P : Program} {w : World} {ops : Array Oper} {o : Oper} {a : Act} {K : Act → World → Prop} {Q : Exit → Act → World → Prop} {E : Prop} (hgd : o.guard = none) (s x : Operand) (t : TypeId) (ho : o.op = .call { callee := .builtin .append, args := #[s, x], argTypes := #[t, t] })
    (base : Nat) (e : TypeId) (i : TypeInfo) (z : Value) (size bytes : Nat) (ht : P.underlying t = some (.slice e)) (hi : P.info? e = some i) (hz : i.zero = some z) (hsize : i.size = size) (hby : i.bytes = bytes) (hzs : z.cells.size = size) (hsz : 0 < size)
    (v : Value) (n : Nat) (xs : List Value) (hs : a.eval s = v) (hown : w.ownsRow base e size v n xs) (src : Value) (m : Nat) (ys : List Value) (hx : a.eval x = src) (hsrc : Src w src m size ys) (h1 : ∀ u ∈ ys, u.oneCell' = true)
    (h63 : n + m ≤ maxLen) (hbytes : (n + m) * bytes ≤ 140737488355328) (hbase : base ≤ w.heap.size)
    (h : ∀ v' w', w'.ownsRow base e size v' (n + m) (xs ++ ys) → w.grownBy w' v.ownBlock → (v'.ownBlock = v.ownBlock ∨ v'.ownBlock = some w.heap.size) → K (a.put o.dst v') w') :
    if Region.wanted o (yielded ops a.tmps) = true then Oper.wp P o a w K Q else E := by
  have hw : Region.wanted o (yielded ops a.tmps) = true := by simp [Region.wanted, hgd]
  rw [if_pos hw]
  exact wp_append_all s x t ho base e i z size bytes ht hi hz hsize hby hzs hsz v n xs hs hown src m ys hx hsrc h1 h63 hbytes hbase h
theorem src_own {w : World} {base n k : Nat} {t : TypeId} {v : Value} {xs : List Value} (h : w.ownsRow base t k v n xs) : Src w v n k xs := by
  obtain ⟨hxl, h2⟩ := h
  rcases h2 with ⟨rfl, h0⟩ | ⟨gv, cap, cur, rfl, hb, hB, hn, hc, hs, ht⟩
  · subst h0
    exact .inl ⟨rfl, rfl, List.length_eq_zero_iff.1 (by simpa using hxl)⟩
  · refine .inr ⟨_, cap, rfl, hxl, fun j u hu => ?_⟩
    rw [Addr.add_lit]
    have hj := (List.getElem?_eq_some_iff.1 hu).1
    rw [Nat.zero_add, Blk.cell (w := w) hB, ← Array.getElem?_toList, ← List.getElem?_take_of_lt (by omega : j < n * k), ht, hu]
theorem grown_nil {w w' : World} (h : w.grownBy w' (Value.slice none 0 0).ownBlock) : Chg NoB w w' := (cgrown h).mono fun _ _ hk => by cases hk
/-- Block g is the reference's queue: how many it may hold, how many were refused, what waits. -/
structure RA (w : World) (g : Nat) (most ref : Int) (L : List (Ms × Int)) (s : Value) : Prop where
  blk : Blk w g 54 #[s, .int .i64 most, .int .i64 ref]
  own : w.ownsRow (g + 1) 74 11 s L.length (fl L)
  one : ∀ u ∈ fl L, u.oneCell' = true
section
variable {w w' : World} {g : Nat} {most ref ref' : Int} {L L' : List (Ms × Int)} {s s' : Value}
theorem RA.chg_ {S : Nat → Prop} (q : RA w g most ref L s) (h : Chg S w w') (hg : ¬ S g) (hs : ∀ k, s.ownBlock = some k → ¬ S k) : RA w' g most ref L s := ⟨q.blk.chg h hg, own_chg q.own h hs, q.one⟩
theorem RA.st (q : RA w g most ref L s) (h : Chg NoB w w') : RA w' g most ref L s := q.chg_ h id fun _ _ => id
theorem infI : (Try.prog.info? 74).map (fun i => (i.zero, i.size, i.bytes)) = some (some (.agg (el (msz, 0)).toArray), 11, 144) := by kernel_rfl
/-- Behind a turn: its own row is new, or there is none. -/
structure RTurn (w : World) (g : Nat) (most ref : Int) (L : List (Ms × Int)) (w' : World) : Prop where
  ex : ∃ s, RA w' g most ref L s ∧ ∀ k, s.ownBlock = some k → w.heap.size ≤ k
  chg : Chg (Only g) w w'
theorem newQ_any (n : Int) (w : World) : Calls Try.prog 18 #[.int .i64 n] w fun e w' => (e = .returned (.pointer (some ⟨w.heap.size, 0, none⟩)) ∧ RA w' w.heap.size (clip n) 0 [] (.slice none 0 0)) ∧ Chg NoB w w' := by
  go_enter Try.func18, Try.ntmps18
  go_wp2_with fail
  go_ret
  exact ⟨⟨rfl, Blk.new _ _ _, ⟨rfl, .inl ⟨rfl, rfl⟩⟩, by simp [fl]⟩, Chg.al _ _⟩
theorem rput_full (q : RA w g most ref L s) (x : Ms) (u : Int) (h : most ≤ L.length) (hn : 0 ≤ ref ∧ ref < 9223372036854775807) :
    Calls Try.prog 19 #[.pointer (some ⟨g, 0, none⟩), msv x, .int .i64 u] w fun e w' => e = .returned (.int .i64 7) ∧ RA w' g most (ref + 1) L s ∧ Chg (Only g) w w' := by
  obtain ⟨p, cap, rfl, _⟩ := own_form q.own
  have HQ := Lib.hid q
  have hd : decide ((L.length : Int) ≥ most) = true := by simpa using h
  clear q
  go_enter Try.func19, Try.ntmps19
  go_wp2_with fail
  have HQ2 := Lib.hid (HQ.out.st (Chg.al w (Obj.cells (mc x) 31)))
  have HC := Lib.hid (Chg.al w (Obj.cells (mc x) 31))
  clear HQ
  generalize w.alloc (Obj.cells (mc x) 31) = W at *
  have c0 := HQ2.out.blk.cell 0
  have c1 := HQ2.out.blk.cell 1
  go_quiet (fail)
  have HQ3 := Lib.hid (HQ2.out.st ((Chg.refl NoB W).drewN nq))
  have HC3 := Lib.hid (HC.out.drewN nq)
  clear HQ2 HC c0 c1
  generalize W.drewN nq = W3 at *
  have c2 := HQ3.out.blk.cell 2
  have f2 := HQ3.out.blk.frozen 2
  have hwr : IntKind.i64.wrap (ref + 1) = ref + 1 := by rw [IntKind.wrap_i64]; omega
  have hN : ¬ (Value.slice p L.length cap).ownBlock = some g := fun hk => by have := (HQ3.out.own.lt g hk).1; omega
  go_wp2_with fail
  go_ret
  have hs : Chg (Only g) W3 (W3.setCell ⟨g, 2, none⟩ (.int .i64 (ref + 1))) := (Chg.refl (Only g) W3).setOwn 2 _
  exact ⟨rfl, ⟨HQ3.out.blk.set_ 2 _, own_chg HQ3.out.own hs fun k hk hs => hN (by unfold Only at hs; rw [← hs]; exact hk), HQ3.out.one⟩, HC3.out.of_no.trans hs⟩
theorem own_low {w : World} {base base' k n : Nat} {t : TypeId} {v : Value} {xs : List Value} (h : w.ownsRow base t k v n xs) (hb : base' ≤ base) : w.ownsRow base' t k v n xs := by
  obtain ⟨h1, h2⟩ := h
  refine ⟨h1, ?_⟩
  rcases h2 with h2 | ⟨g, cap, cur, rfl, hg, r⟩
  · exact .inl h2
  · exact .inr ⟨g, cap, cur, rfl, Nat.le_trans hb hg, r⟩
set_option maxRecDepth 100000 in
set_option maxHeartbeats 2000000 in
theorem rput_ok (q : RA w g most ref L s) (x : Ms) (u : Int) (h : (L.length : Int) < most) (hl : L.length ≤ 1000) (h1 : ∀ v ∈ mc x, v.oneCell' = true) :
    Calls Try.prog 19 #[.pointer (some ⟨g, 0, none⟩), msv x, .int .i64 u] w fun e w' => e = .returned (.int .i64 0) ∧ RTurn w g most ref (L ++ [(x, w3 u)]) w' := by
  obtain ⟨p, cap, rfl, _⟩ := own_form q.own
  have HQ := Lib.hid q
  have H1 : Hid (∀ v ∈ el (x, w3 u), v.oneCell' = true) := Lib.hid fun v hv => by
    simp only [List.mem_cons, List.not_mem_nil, or_false] at hv
    rcases hv with rfl | rfl | rfl | rfl | rfl | rfl | rfl | rfl | rfl | rfl | rfl <;> first | rfl | exact h1 _ (by simp)
  have hd : decide ((L.length : Int) ≥ most) = false := by simpa using h
  clear q h1
  go_enter Try.func19, Try.ntmps19
  go_wp2_with fail
  have HQ2 := Lib.hid (HQ.out.st (Chg.al w (Obj.cells (mc x) 31)))
  have HB := Lib.hid (Blk.new w 31 (mc x))
  have HC := Lib.hid (Chg.al w (Obj.cells (mc x) 31))
  clear HQ
  generalize w.alloc (Obj.cells (mc x) 31) = W at *
  have c0 := HQ2.out.blk.cell 0
  have c1 := HQ2.out.blk.cell 1
  go_quiet (fail)
  have HQ3 := Lib.hid (HQ2.out.st ((Chg.refl NoB W).drewN nq))
  have HB3 := Lib.hid (HB.out.drewN nq)
  have HC3 := Lib.hid (HC.out.drewN nq)
  clear HQ2 HC HB c0 c1
  generalize W.drewN nq = W3 at *
  have hwr : IntKind.i64.wrap (4 * mx 0 (mn u 3)) = w3 u := by rw [IntKind.wrap_i64]; unfold w3 mx mn; split <;> split <;> omega
  obtain ⟨i9, hi9, z9, s9, y9⟩ := info_parts infI
  have hgl : g < W3.heap.size := HQ3.out.blk.lt
  go_wp2_with fail
  refine start_ (n := 17) (S := fun w' => w'.cell? ⟨g, 0, none⟩ = some (.slice p L.length cap) ∧ w'.cell? ⟨w.heap.size, 0, none⟩ = some (.int .i64 x.a0) ∧ w'.cell? ⟨w.heap.size, 1, none⟩ = some (.int .i64 x.a1) ∧ w'.cell? ⟨w.heap.size, 2, none⟩ = some (.int .i64 x.a2) ∧ w'.cell? ⟨w.heap.size, 3, none⟩ = some (.int .i64 x.a3) ∧ w'.cell? ⟨w.heap.size, 4, none⟩ = some (.int .i64 x.a4) ∧ w'.cell? ⟨w.heap.size, 5, none⟩ = some (.string x.key) ∧ w'.cell? ⟨w.heap.size, 6, none⟩ = some (.int .i64 x.a6) ∧ w'.cell? ⟨w.heap.size, 7, none⟩ = some x.e ∧ w'.cell? ⟨w.heap.size, 8, none⟩ = some x.d ∧ w'.cell? ⟨w.heap.size, 9, none⟩ = some x.m) (ds := [16]) #[false, false, false, false, false, false, false, false, false, false, false, false, false, false, false, false, false] (by kernel_rfl) rfl rfl ⟨((HQ3.out.blk.st (Chg.dr W3)).cell 0), ((HB3.out.st (Chg.dr W3)).cell 0), ((HB3.out.st (Chg.dr W3)).cell 1), ((HB3.out.st (Chg.dr W3)).cell 2), ((HB3.out.st (Chg.dr W3)).cell 3), ((HB3.out.st (Chg.dr W3)).cell 4), ((HB3.out.st (Chg.dr W3)).cell 5), ((HB3.out.st (Chg.dr W3)).cell 6), ((HB3.out.st (Chg.dr W3)).cell 7), ((HB3.out.st (Chg.dr W3)).cell 8), ((HB3.out.st (Chg.dr W3)).cell 9)⟩ (fun hHeld => ?_)
  refine pure_ (i := 0) (N := some 24) (v := ?_) (a' := ?_) #[true, false, false, false, false, false, false, false, false, false, false, false, false, false, false, false, false] rfl rfl (by kernel_rfl) (fun _ _ _ h => h) (Or.inl ⟨by rfl, ?_⟩) ?_ ?_
  rotate_left
  · intro w'
    go_simp
    with_reducible rfl
  rotate_left
  · simp only [Act.put, List.setIfInBounds_toArray, List.set_cons_zero, List.set_cons_succ]
    rfl
  refine pure_ (i := 1) (N := some 25) (v := ?_) (a' := ?_) #[true, true, false, false, false, false, false, false, false, false, false, false, false, false, false, false, false] rfl rfl (by kernel_rfl) (fun _ _ _ h => h) (Or.inl ⟨by rfl, ?_⟩) ?_ ?_
  rotate_left
  · intro w'
    go_simp
    with_reducible rfl
  rotate_left
  · simp only [Act.put, List.setIfInBounds_toArray, List.set_cons_zero, List.set_cons_succ]
    rfl
  refine pure_ (i := 2) (N := some 26) (v := ?_) (a' := ?_) #[true, true, true, false, false, false, false, false, false, false, false, false, false, false, false, false, false] rfl rfl (by kernel_rfl) (fun _ _ _ h => h) (Or.inl ⟨by rfl, ?_⟩) ?_ ?_
  rotate_left
  · intro w'
    go_simp
    with_reducible rfl
  rotate_left
  · simp only [Act.put, List.setIfInBounds_toArray, List.set_cons_zero, List.set_cons_succ]
    rfl
  refine pure_ (i := 3) (N := some 27) (v := ?_) (a' := ?_) #[true, true, true, true, false, false, false, false, false, false, false, false, false, false, false, false, false] rfl rfl (by kernel_rfl) (fun _ _ _ h => h) (Or.inl ⟨by rfl, ?_⟩) ?_ ?_
  rotate_left
  · intro w'
    go_simp
    with_reducible rfl
  rotate_left
  · simp only [Act.put, List.setIfInBounds_toArray, List.set_cons_zero, List.set_cons_succ]
    rfl
  refine pure_ (i := 7) (N := some 31) (v := ?_) (a' := ?_) #[true, true, true, true, false, false, false, true, false, false, false, false, false, false, false, false, false] rfl rfl (by kernel_rfl) (fun _ _ _ h => h) (Or.inl ⟨by rfl, ?_⟩) ?_ ?_
  rotate_left
  · intro w'
    go_simp
    with_reducible rfl
  rotate_left
  · simp only [Act.put, List.setIfInBounds_toArray, List.set_cons_zero, List.set_cons_succ]
    rfl
  refine pure_ (i := 8) (N := some 32) (v := ?_) (a' := ?_) #[true, true, true, true, false, false, false, true, true, false, false, false, false, false, false, false, false] rfl rfl (by kernel_rfl) (fun _ _ _ h => h) (Or.inl ⟨by rfl, ?_⟩) ?_ ?_
  rotate_left
  · intro w'
    go_simp
    with_reducible rfl
  rotate_left
  · simp only [Act.put, List.setIfInBounds_toArray, List.set_cons_zero, List.set_cons_succ]
    rfl
  refine pure_ (i := 9) (N := some 33) (v := ?_) (a' := ?_) #[true, true, true, true, false, false, false, true, true, true, false, false, false, false, false, false, false] rfl rfl (by kernel_rfl) (fun _ _ _ h => h) (Or.inl ⟨by rfl, ?_⟩) ?_ ?_
  rotate_left
  · intro w'
    go_simp
    with_reducible rfl
  rotate_left
  · simp only [Act.put, List.setIfInBounds_toArray, List.set_cons_zero, List.set_cons_succ]
    rfl
  refine pure_ (i := 10) (N := some 34) (v := ?_) (a' := ?_) #[true, true, true, true, false, false, false, true, true, true, true, false, false, false, false, false, false] rfl rfl (by kernel_rfl) (fun _ _ _ h => h) (Or.inl ⟨by rfl, ?_⟩) ?_ ?_
  rotate_left
  · intro w'
    go_simp
    with_reducible rfl
  rotate_left
  · simp only [Act.put, List.setIfInBounds_toArray, List.set_cons_zero, List.set_cons_succ]
    rfl
  refine take_ (i := 4) (N := some 28) (v := ?_) (a' := ?_) #[true, true, true, true, true, false, false, true, true, true, true, false, false, false, false, false, false] rfl rfl (by kernel_rfl) (fun _ _ _ h => h) (Or.inl ⟨by rfl, ?_⟩) hHeld ?_ ?_
  rotate_left
  · rintro w' ⟨s0, s1, s2, s3, s4, s5, s6, s7, s8, s9, s10⟩
    go_simp
    with_reducible rfl
  rotate_left
  · simp only [Act.put, List.setIfInBounds_toArray, List.set_cons_zero, List.set_cons_succ]
    rfl
  refine take_ (i := 6) (N := some 30) (v := ?_) (a' := ?_) #[true, true, true, true, true, false, true, true, true, true, true, false, false, false, false, false, false] rfl rfl (by kernel_rfl) (fun _ _ _ h => h) (Or.inl ⟨by rfl, ?_⟩) hHeld ?_ ?_
  rotate_left
  · rintro w' ⟨s0, s1, s2, s3, s4, s5, s6, s7, s8, s9, s10⟩
    go_simp
    with_reducible rfl
  rotate_left
  · simp only [Act.put, List.setIfInBounds_toArray, List.set_cons_zero, List.set_cons_succ]
    rfl
  refine pure_ (i := 11) (N := some 35) (v := ?_) (a' := ?_) #[true, true, true, true, true, false, true, true, true, true, true, true, false, false, false, false, false] rfl rfl (by kernel_rfl) (fun _ _ _ h => h) (Or.inl ⟨by rfl, ?_⟩) ?_ ?_
  rotate_left
  · intro w'
    go_simp
    with_reducible rfl
  rotate_left
  · simp only [Act.put, List.setIfInBounds_toArray, List.set_cons_zero, List.set_cons_succ]
    rfl
  refine join_ (σ := Value × Nat) 4 #[true, true, true, true, true, true, true, true, true, true, true, true, true, false, false, false, false] (fun s => [(29, s.1), (36, Value.slice (some ⟨s.2, 0, none⟩) 1 1)]) (fun s w' => w'.ownsRow W3.heap.size 74 11 s.1 L.length (fl L) ∧ Chg NoB W3 w' ∧ Blk w' s.2 74 (el (x, w3 u)).toArray ∧ s.1.ownBlock ≠ some s.2 ∧ W3.heap.size ≤ s.2) ?_ ?_
  rotate_left
  · intro hCont
    refine two_ (i := 5) (j := 12) (Ni := some 29) (Nj := some 36) #[true, true, true, true, true, true, true, true, true, true, true, true, false, false, false, false, false] #[true, true, true, true, true, false, true, true, true, true, true, true, true, false, false, false, false] rfl rfl rfl rfl (by kernel_rfl) (by decide) (by decide) (fun K hK => ?_) (fun K hK => ?_)
    · skip
      refine step_append_all (by rfl) _ _ 52 (by rfl) W3.heap.size 74 i9 _ 11 144 Try.underlying52 hi9 z9 s9 y9 rfl (by omega) (.slice none 0 0) 0 [] (by rfl) ⟨rfl, .inl ⟨rfl, rfl⟩⟩ (.slice p L.length cap) L.length (fl L) (by rfl) (src_own (own_chg HQ3.out.own (Chg.dr W3) fun _ _ => id)) HQ3.out.one (by unfold maxLen; omega) (by omega) (Nat.le_refl _) ?_
      intro v5 w5 hown5 hgrow5 hat5
      have hc5 := (Chg.dr W3).trans (grown_nil hgrow5)
      rw [Nat.zero_add, List.nil_append] at hown5
      refine hK.out _ _ ⟨((HQ3.out.blk.st hc5).cell 0), ((HB3.out.st hc5).cell 0), ((HB3.out.st hc5).cell 1), ((HB3.out.st hc5).cell 2), ((HB3.out.st hc5).cell 3), ((HB3.out.st hc5).cell 4), ((HB3.out.st hc5).cell 5), ((HB3.out.st hc5).cell 6), ((HB3.out.st hc5).cell 7), ((HB3.out.st hc5).cell 8), ((HB3.out.st hc5).cell 9)⟩ (fun hHeld => ?_)
      clear hK K
      refine norm_ (a' := ?_) ?_ ?_
      rotate_left
      · show Act.put _ (some 29) _ = _
        simp only [Act.put, List.setIfInBounds_toArray, List.set_cons_zero, List.set_cons_succ]
        rfl
      refine one_ (i := 12) (N := some 36) #[true, true, true, true, true, true, true, true, true, true, true, true, true, false, false, false, false] rfl rfl (by kernel_rfl) (by decide) (fun K hK => ?_)
      refine value_ (w1 := ?_) (v := ?_) (by rfl) rfl ?_ ?_
      rotate_left 2
      · go_simp
        constructor
        · rfl
        · rfl
      refine hK.out _ _ ⟨((HQ3.out.blk.st (hc5.trans (Chg.al _ _))).cell 0), ((HB3.out.st (hc5.trans (Chg.al _ _))).cell 0), ((HB3.out.st (hc5.trans (Chg.al _ _))).cell 1), ((HB3.out.st (hc5.trans (Chg.al _ _))).cell 2), ((HB3.out.st (hc5.trans (Chg.al _ _))).cell 3), ((HB3.out.st (hc5.trans (Chg.al _ _))).cell 4), ((HB3.out.st (hc5.trans (Chg.al _ _))).cell 5), ((HB3.out.st (hc5.trans (Chg.al _ _))).cell 6), ((HB3.out.st (hc5.trans (Chg.al _ _))).cell 7), ((HB3.out.st (hc5.trans (Chg.al _ _))).cell 8), ((HB3.out.st (hc5.trans (Chg.al _ _))).cell 9)⟩ (fun hHeld => ?_)
      clear hK K
      refine norm_ (a' := ?_) ?_ ?_
      rotate_left
      · show Act.put _ (some 36) _ = _
        simp only [Act.put, List.setIfInBounds_toArray, List.set_cons_zero, List.set_cons_succ]
        rfl
      exact norm_ (by simp only [putAll, Act.put, List.setIfInBounds_toArray, List.set_cons_zero, List.set_cons_succ]) (hCont (v5, w5.heap.size) _ ⟨World.ownsRow.alloc hown5 _, hc5.trans (Chg.al _ _), Blk.new _ _ _, fun h => by have := (hown5.lt _ h).2; omega, hc5.size⟩)
    · skip
      refine value_ (w1 := ?_) (v := ?_) (by rfl) rfl ?_ ?_
      rotate_left 2
      · go_simp
        constructor
        · rfl
        · rfl
      refine hK.out _ _ ⟨((HQ3.out.blk.st ((Chg.dr W3).trans (Chg.al _ _))).cell 0), ((HB3.out.st ((Chg.dr W3).trans (Chg.al _ _))).cell 0), ((HB3.out.st ((Chg.dr W3).trans (Chg.al _ _))).cell 1), ((HB3.out.st ((Chg.dr W3).trans (Chg.al _ _))).cell 2), ((HB3.out.st ((Chg.dr W3).trans (Chg.al _ _))).cell 3), ((HB3.out.st ((Chg.dr W3).trans (Chg.al _ _))).cell 4), ((HB3.out.st ((Chg.dr W3).trans (Chg.al _ _))).cell 5), ((HB3.out.st ((Chg.dr W3).trans (Chg.al _ _))).cell 6), ((HB3.out.st ((Chg.dr W3).trans (Chg.al _ _))).cell 7), ((HB3.out.st ((Chg.dr W3).trans (Chg.al _ _))).cell 8), ((HB3.out.st ((Chg.dr W3).trans (Chg.al _ _))).cell 9)⟩ (fun hHeld => ?_)
      clear hK K
      refine norm_ (a' := ?_) ?_ ?_
      rotate_left
      · show Act.put _ (some 36) _ = _
        simp only [Act.put, List.setIfInBounds_toArray, List.set_cons_zero, List.set_cons_succ]
        rfl
      refine one_ (i := 5) (N := some 29) #[true, true, true, true, true, true, true, true, true, true, true, true, true, false, false, false, false] rfl rfl (by kernel_rfl) (by decide) (fun K hK => ?_)
      refine step_append_all (by rfl) _ _ 52 (by rfl) W3.heap.size 74 i9 _ 11 144 Try.underlying52 hi9 z9 s9 y9 rfl (by omega) (.slice none 0 0) 0 [] (by rfl) ⟨rfl, .inl ⟨rfl, rfl⟩⟩ (.slice p L.length cap) L.length (fl L) (by rfl) (src_own (own_chg HQ3.out.own ((Chg.dr W3).trans (Chg.al _ (.cells (el (x, w3 u)).toArray 74))) fun _ _ => id)) HQ3.out.one (by unfold maxLen; omega) (by omega) (by simp) ?_
      intro v5 w5 hown5 hgrow5 hat5
      have hc5 := ((Chg.dr W3).trans (Chg.al _ (.cells (el (x, w3 u)).toArray 74))).trans (grown_nil hgrow5)
      have hb5 := (Blk.new_ (k := W3.heap.size) W3.drew 74 (el (x, w3 u)).toArray (by simp)).chg (grown_nil hgrow5) id
      rw [Nat.zero_add, List.nil_append] at hown5
      refine hK.out _ _ ⟨((HQ3.out.blk.st hc5).cell 0), ((HB3.out.st hc5).cell 0), ((HB3.out.st hc5).cell 1), ((HB3.out.st hc5).cell 2), ((HB3.out.st hc5).cell 3), ((HB3.out.st hc5).cell 4), ((HB3.out.st hc5).cell 5), ((HB3.out.st hc5).cell 6), ((HB3.out.st hc5).cell 7), ((HB3.out.st hc5).cell 8), ((HB3.out.st hc5).cell 9)⟩ (fun hHeld => ?_)
      clear hK K
      refine norm_ (a' := ?_) ?_ ?_
      rotate_left
      · show Act.put _ (some 29) _ = _
        simp only [Act.put, List.setIfInBounds_toArray, List.set_cons_zero, List.set_cons_succ]
        rfl
      exact norm_ (by simp only [putAll, Act.put, List.setIfInBounds_toArray, List.set_cons_zero, List.set_cons_succ]) (hCont (v5, W3.heap.size) _ ⟨hown5, hc5, hb5, fun h => by rcases hat5 with h5 | h5 <;> rw [h5] at h <;> simp [Value.ownBlock] at h, Nat.le_refl _⟩)
  rintro ⟨v6, b6⟩ w6 ⟨hown6, hc6, hb6, hn6, hl6⟩
  have hHeld : w6.cell? ⟨g, 0, none⟩ = some (.slice p L.length cap) ∧ w6.cell? ⟨w.heap.size, 0, none⟩ = some (.int .i64 x.a0) ∧ w6.cell? ⟨w.heap.size, 1, none⟩ = some (.int .i64 x.a1) ∧ w6.cell? ⟨w.heap.size, 2, none⟩ = some (.int .i64 x.a2) ∧ w6.cell? ⟨w.heap.size, 3, none⟩ = some (.int .i64 x.a3) ∧ w6.cell? ⟨w.heap.size, 4, none⟩ = some (.int .i64 x.a4) ∧ w6.cell? ⟨w.heap.size, 5, none⟩ = some (.string x.key) ∧ w6.cell? ⟨w.heap.size, 6, none⟩ = some (.int .i64 x.a6) ∧ w6.cell? ⟨w.heap.size, 7, none⟩ = some x.e ∧ w6.cell? ⟨w.heap.size, 8, none⟩ = some x.d ∧ w6.cell? ⟨w.heap.size, 9, none⟩ = some x.m := ⟨((HQ3.out.blk.st hc6).cell 0), ((HB3.out.st hc6).cell 0), ((HB3.out.st hc6).cell 1), ((HB3.out.st hc6).cell 2), ((HB3.out.st hc6).cell 3), ((HB3.out.st hc6).cell 4), ((HB3.out.st hc6).cell 5), ((HB3.out.st hc6).cell 6), ((HB3.out.st hc6).cell 7), ((HB3.out.st hc6).cell 8), ((HB3.out.st hc6).cell 9)⟩
  refine norm_ (a' := ?_) ?_ ?_
  rotate_left
  · simp only [putAll, Act.put, List.setIfInBounds_toArray, List.set_cons_zero, List.set_cons_succ]
    rfl
  refine one_ (i := 13) (N := some 37) #[true, true, true, true, true, true, true, true, true, true, true, true, true, true, false, false, false] rfl rfl (by kernel_rfl) (by decide) (fun K hK => ?_)
  refine step_append_lies _ (by rfl) _ _ _ (by rfl) W3.heap.size 74 i9 _ 11 144 Try.underlying52 hi9 z9 s9 y9 rfl (by omega) v6 L.length (fl L) (by rfl) hown6 ⟨b6, 0, none⟩ 1 1 (el (x, w3 u)) (by rfl) (by rfl) (World.news_of_block hb6) H1.out (by omega) (by unfold maxLen; omega) (by omega) hc6.size w6.heap.size rfl ?_
  intro g7 cap7 w7 hown7 hgrow7 hat7 hlt7
  have hc7 := hc6.then_ (cgrown hgrow7) fun j hj hs => by have := (hown6.lt j hs).1; omega
  have hg7 : W3.heap.size ≤ g7 := by (rcases hat7 with h | h; exact (hown6.lt _ h).1; have := hc6.size; omega)
  have HB7 := Lib.hid (HQ3.out.blk.st hc7)
  have HC7 := Lib.hid hc7
  have HO7 := Lib.hid hown7
  have k0 := HB7.out.cell 0
  have f0 := HB7.out.frozen 0
  clear hgrow7 hown7 hat7 hown6 hc6 hb6
  refine hK.out _ _ ⟨((HQ3.out.blk.st HC7.out).cell 0), ((HB3.out.st HC7.out).cell 0), ((HB3.out.st HC7.out).cell 1), ((HB3.out.st HC7.out).cell 2), ((HB3.out.st HC7.out).cell 3), ((HB3.out.st HC7.out).cell 4), ((HB3.out.st HC7.out).cell 5), ((HB3.out.st HC7.out).cell 6), ((HB3.out.st HC7.out).cell 7), ((HB3.out.st HC7.out).cell 8), ((HB3.out.st HC7.out).cell 9)⟩ (fun hHeld => ?_)
  clear hK K
  refine norm_ (a' := ?_) ?_ ?_
  rotate_left
  · show Act.put _ (some 37) _ = _
    simp only [Act.put, List.setIfInBounds_toArray, List.set_cons_zero, List.set_cons_succ]
    rfl
  refine pure_ (i := 14) (N := some 38) (v := ?_) (a' := ?_) #[true, true, true, true, true, true, true, true, true, true, true, true, true, true, true, false, false] rfl rfl (by kernel_rfl) (fun _ _ _ h => h) (Or.inl ⟨by rfl, ?_⟩) ?_ ?_
  rotate_left
  · intro w'
    go_simp
    with_reducible rfl
  rotate_left
  · simp only [Act.put, List.setIfInBounds_toArray, List.set_cons_zero, List.set_cons_succ]
    rfl
  refine pure_ (i := 15) (N := some 39) (v := ?_) (a' := ?_) #[true, true, true, true, true, true, true, true, true, true, true, true, true, true, true, true, false] rfl rfl (by kernel_rfl) (fun _ _ _ h => h) (Or.inl ⟨by rfl, ?_⟩) ?_ ?_
  rotate_left
  · intro w'
    go_simp
    with_reducible rfl
  rotate_left
  · simp only [Act.put, List.setIfInBounds_toArray, List.set_cons_zero, List.set_cons_succ]
    rfl
  refine last_ (i := 16) (N := none) #[true, true, true, true, true, true, true, true, true, true, true, true, true, true, true, true, true] rfl rfl (by kernel_rfl) (by decide) (fun K hK => ?_)
  refine skip_ (w1 := ?_) (by rfl) rfl ?_ ?_
  rotate_left
  · go_simp
    rfl
  refine hK.out _ _ ?_
  clear hK K
  refine done_ (by kernel_rfl) ?_
  go_wp2_with fail
  go_ret
  have hs : Chg (Only g) w7 (w7.setCell ⟨g, 0, none⟩ (.slice (some ⟨g7, 0, none⟩) (L.length + 1) cap7)) := (Chg.refl (Only g) w7).setOwn 0 _
  have hwl := HC3.out.size
  exact ⟨rfl, ⟨_, ⟨HB7.out.set_ 0 _, own_chg (own_low (by rw [fl_append, fl_one, List.length_append]; exact HO7.out) (by omega)) hs fun k hk hs => by have e : g7 = k := Option.some.inj hk; unfold Only at hs; omega, by
    rw [fl_append, fl_one]
    intro v hv
    rcases List.mem_append.1 hv with hv | hv
    · exact HQ3.out.one v hv
    · exact H1.out v hv⟩, fun k hk => by have e : g7 = k := Option.some.inj hk; omega⟩, (HC3.out.trans HC7.out).of_no.trans hs⟩
end
end Go.Proofs.Ytcefaohdikongaa
