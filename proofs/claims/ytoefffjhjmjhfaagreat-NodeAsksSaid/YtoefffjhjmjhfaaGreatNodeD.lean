/- A node's ring and operations, new; a node, opened. No statement is proved here. -/
import Derived.Test.YtoefffjhjmjhfaaGreatPkNode
import Derived.Test.YtoefffjhjmjhfaaGreatViewB
import Derived.Test.YtoefffjhjmjhfaaGreatBucket
import Derived.Test.YtoefffjhjmjhfaaGreatPkQueue
namespace Go.Proofs.YtoefffjhjmjhfaaGreat
open Go.RowKit Go.Proofs.YtoefffjhjmjhfaaGreatW.PrintLast
attribute [local go_sem] max2_mx min2_mn max_two_ min_two_ run_makeMap_plain
set_option maxRecDepth 100000

abbrev rgc (n : Int) : Array Value := #[.int .i64 n, .int .u32 0, .int .i32 0, .int .u32 0, .int .i32 0, .slice none 0 0]
abbrev coc (wt last : Int) (m : Nat) (s : Value) : Array Value := #[.int .i64 wt, .int .i64 last, .map (some m), s]
theorem ringNew_any (n : Int) (w : World) : Calls Tryz.prog 17 #[.int .i64 n] w fun e w' => e = .returned (.pointer (some ⟨w.heap.size, 0, none⟩)) ∧ w' = w.alloc (.cells (rgc (mx 0 (mn n 8))) 119) := by
  go_enter Tryz.func17, Tryz.ntmps17
  go_wp2_with fail
  go_ret
  exact ⟨rfl, rfl⟩
theorem coordNew_any (n : Int) (w : World) : Calls Tryz.prog 21 #[.int .i64 n] w fun e w' => e = .returned (.pointer (some ⟨w.heap.size + 1, 0, none⟩)) ∧ w' = (w.alloc (.map #[] 0)).alloc (.cells (coc (mx 1 n) 0 w.heap.size (.slice none 0 0)) 133) := by
  go_enter Tryz.func21, Tryz.ntmps21
  go_wp2_with fail
  go_ret
  exact ⟨rfl, rfl⟩
/-- The cells of a node. -/
abbrev ndc (c : Cg) (id_ : Int) (st rg v bg qg op : Nat) (ticks sent : Int) (out : Value) : Array Value :=
  #[.int .i64 c.n, .int .i64 c.o, .int .i64 c.r, .int .i64 c.w, .int .i64 c.wait, .int .i64 c.q, .int .i64 c.rate, .int .i64 c.burst, .int .i64 c.disk,
    .int .i64 id_, .pointer (some ⟨st, 0, none⟩), .pointer (some ⟨rg, 0, none⟩), .pointer (some ⟨v, 0, none⟩), .pointer (some ⟨bg, 0, none⟩), .pointer (some ⟨qg, 0, none⟩), .pointer (some ⟨op, 0, none⟩), .int .i64 ticks, .int .i64 sent, out]
/-- Where the parts of a node lie. -/
structure Pl where
  d : Nat
  lg : Nat
  mp : Nat
  tb : Nat
  hs : Nat
  st : Nat
  rg : Nat
  v : Nat
  b1 : Nat
  b2 : Nat
  b3 : Nat
  bh : Nat
  bg : Nat
  qr : Nat
  qg : Nat
  om : Nat
  op : Nat
  n : Nat
/-- In which order they lie. -/
structure Pl.Up (p : Pl) : Prop where
  a1 : p.d < p.lg
  a2 : p.lg < p.mp
  a3 : p.mp < p.tb
  a4 : p.tb < p.hs
  a5 : p.hs < p.st
  a6 : p.st < p.rg
  v : p.rg < p.v ∧ p.v < p.bh ∧ p.v < p.bg
  b1 : p.rg < p.b1 ∧ p.b1 < p.bh ∧ p.b1 < p.bg
  b2 : p.rg < p.b2 ∧ p.b2 < p.bh ∧ p.b2 < p.bg
  b3 : p.rg < p.b3 ∧ p.b3 < p.bh ∧ p.b3 < p.bg
  bh : p.bh < p.qr
  bg : p.bg < p.qr
  q : p.qr < p.qg
  om : p.qg < p.om
  op : p.om < p.op
  n : p.op < p.n
/-- A node whose store is empty and whose operations are none. -/
structure NDm (most : Int) (w : World) (p : Pl) (c : Cg) (id_ : Int) (m : Nat) (ticks sent now taken : Int) (L : List (Ms × Int)) (s out : Value) (outs : Nat) (fl_ : List Value) : Prop where
  blk : Blk w p.n 75 (ndc c id_ p.st p.rg p.v p.bg p.qg p.op ticks sent out)
  se : SE w p.st p.lg p.tb p.mp p.hs p.d most
  rg : Blk w p.rg 119 (rgc c.n)
  vw : VB w p.v p.b1 p.b2 p.b3 m id_
  bk : BA w p.bg p.bh c.rate now c.burst taken
  q : QA w p.qg p.qr c.q 0 L s
  co : Blk w p.op 133 (coc c.wait 0 p.om (.slice none 0 0))
  cm : w.heap[p.om]? = some (.map #[] 0)
  own : w.ownsRow (p.n + 1) 40 10 out outs fl_
  up : p.Up
  hm : (m : Int) = c.n
  sn : ∀ k, s.ownBlock = some k → p.n < k
  so : ∀ k, s.ownBlock = some k → out.ownBlock ≠ some k
abbrev ND (w : World) (p : Pl) (c : Cg) (id_ : Int) (m : Nat) (ticks sent now taken : Int) (L : List (Ms × Int)) (s out : Value) (outs : Nat) (fl_ : List Value) : Prop := NDm c.disk w p c id_ m ticks sent now taken L s out outs fl_
theorem viewNew_int {m : Nat} {n id_ : Int} (hm : (m : Int) = n) (hn : 1 ≤ n ∧ n ≤ 8) (hid : 0 ≤ id_ ∧ id_ < n) (w : World) : Calls Tryz.prog 18 #[.int .i64 n, .int .i64 id_] w fun e w' => (∃ v b1 b2 b3, e = .returned (.pointer (some ⟨v, 0, none⟩)) ∧ VB w' v b1 b2 b3 m id_ ∧ w.heap.size ≤ v ∧ w.heap.size ≤ b1 ∧ w.heap.size ≤ b2 ∧ w.heap.size ≤ b3) ∧ Chg NoB w w' := by
  subst hm
  exact viewNew_any ⟨by omega, by omega⟩ hid w
set_option maxHeartbeats 4000000 in
theorem nodeOpen_m {w : World} {g m : Nat} {most : Int} {c : Cg} {id_ : Int} (hc : Cok c) (hi : 0 ≤ id_ ∧ id_ < c.n) (hm : (m : Int) = c.n) (h : DA w g most [] 0 (.slice none 0 0)) :
    Calls Tryz.prog 6 #[cgv c, .int .i64 id_, .pointer (some ⟨g, 0, none⟩)] w fun e w' => (∃ p : Pl, e = .returned (.tuple #[.pointer (some ⟨p.n, 0, none⟩), .int .i64 0]) ∧ NDm most w' p c id_ m 0 0 c.burst 0 [] (.slice none 0 0) (.slice none 0 0) 0 [] ∧ p.d = g ∧ w.heap.size ≤ p.lg) ∧ Chg NoB w w' := by
  have hn1 := hc.n
  have W1 := Lib.hid (fun w => within_yes (n := id_) (a := 0) (b := c.n - 1) (by omega) w)
  have HK := Lib.hid hc
  have HI := Lib.hid hi
  have HM := Lib.hid hm
  have HD := Lib.hid h
  have E1 : Hid (mx 0 (mn c.n 8) = c.n) := Lib.hid (by have := hc.n; unfold mx mn; split <;> split <;> omega)
  have E2 : Hid (mx 1 c.wait = c.wait) := Lib.hid (by have := hc.wait; unfold mx; split <;> omega)
  have E3 : Hid (bclip c.rate = c.rate) := Lib.hid (by have := hc.rate; unfold bclip mx mn; split <;> split <;> omega)
  have E4 : Hid (bclip c.burst = c.burst) := Lib.hid (by have := hc.burst; unfold bclip mx mn; split <;> split <;> omega)
  have E5 : Hid (clip c.q = c.q) := Lib.hid (by have := hc.q; unfold clip mx mn; split <;> split <;> omega)
  have hq9 : Hid (c.n - 1 = c.n - 1) := Lib.hid rfl
  clear hc hi hm h
  go_enter Tryz.func6, Tryz.ntmps6
  go_wp2_with fail
  have B := Blk.new w 23 (cgc c)
  have HC := Lib.hid (Chg.al w (.cells (cgc c) 23))
  have HD0 : Hid (DA (w.alloc (.cells (cgc c) 23)) g most [] 0 (.slice none 0 0)) := Lib.hid ⟨HD.out.blk.st (Chg.al _ _), own_chg HD.out.own (Chg.al _ _) fun _ _ => id⟩
  have hz0 : w.heap.size < (w.alloc (.cells (cgc c) 23)).heap.size := by simp
  generalize w.alloc (Obj.cells _ 23) = W at *
  have HB := Lib.hid B
  obtain ⟨c0, c1, c2, c3, c4, c5, c6, c7, c8⟩ := cells9 B
  clear B
  go_wp2_with fail
  refine (nmay_any HK.out _).mono ?_
  rintro e w1 ⟨rfl, hC1⟩
  have HC1 := Lib.hid hC1
  clear hC1
  have HB1 := Lib.hid (HB.out.st HC1.out)
  obtain ⟨d0, d1, d2, d3, d4, d5, d6, d7, d8⟩ := cells9 HB1.out
  go_wp2_with fail
  refine (W1.out _).mono ?_
  rintro e w1 ⟨rfl, hwn⟩
  subst hwn
  go_wp2_with fail
  have HD1 : Hid (DA w1 g most [] 0 (.slice none 0 0)) := Lib.hid ⟨HD0.out.blk.st HC1.out, own_chg HD0.out.own HC1.out fun _ _ => id⟩
  refine (localOpen_none HD1.out).mono ?_
  rintro e w2 ⟨⟨st, lg, tb, mp, hs, rfl, hS, o1, o2, o3, o4, o5⟩, hC2⟩
  have HS2 := Lib.hid hS
  have HC2 := Lib.hid hC2
  have HB2 := Lib.hid (HB1.out.st hC2)
  have hst := hS.blk.lt
  clear hS hC2 d0 d1 d2 d3 d4 d5 d6 d7 d8 c0 c1 c2 c3 c4 c5 c6 c7 c8
  obtain ⟨d0, d1, d2, d3, d4, d5, d6, d7, d8⟩ := cells9 HB2.out
  go_upto_region 6 with fail
  refine start_ (n := 25) (S := fun w' => w'.cell? ⟨w.heap.size, 0, none⟩ = some (.int .i64 c.n) ∧ w'.cell? ⟨w.heap.size, 1, none⟩ = some (.int .i64 c.o) ∧ w'.cell? ⟨w.heap.size, 2, none⟩ = some (.int .i64 c.r) ∧ w'.cell? ⟨w.heap.size, 3, none⟩ = some (.int .i64 c.w) ∧ w'.cell? ⟨w.heap.size, 4, none⟩ = some (.int .i64 c.wait) ∧ w'.cell? ⟨w.heap.size, 5, none⟩ = some (.int .i64 c.q) ∧ w'.cell? ⟨w.heap.size, 6, none⟩ = some (.int .i64 c.rate) ∧ w'.cell? ⟨w.heap.size, 7, none⟩ = some (.int .i64 c.burst) ∧ w'.cell? ⟨w.heap.size, 8, none⟩ = some (.int .i64 c.disk)) (ds := []) #[false, false, false, false, false, false, false, false, false, false, false, false, false, false, false, false, false, false, false, false, false, false, false, false, false] (by kernel_rfl) rfl rfl ⟨((HB2.out.st (Chg.dr w2)).cell 0), ((HB2.out.st (Chg.dr w2)).cell 1), ((HB2.out.st (Chg.dr w2)).cell 2), ((HB2.out.st (Chg.dr w2)).cell 3), ((HB2.out.st (Chg.dr w2)).cell 4), ((HB2.out.st (Chg.dr w2)).cell 5), ((HB2.out.st (Chg.dr w2)).cell 6), ((HB2.out.st (Chg.dr w2)).cell 7), ((HB2.out.st (Chg.dr w2)).cell 8)⟩ (fun hHeld => ?_)
  refine pure_ (i := 1) (N := some 30) (v := ?_) (a' := ?_) #[false, true, false, false, false, false, false, false, false, false, false, false, false, false, false, false, false, false, false, false, false, false, false, false, false] rfl rfl (by kernel_rfl) (fun _ _ _ h => h) (Or.inl ⟨by rfl, ?_⟩) ?_ ?_
  rotate_left
  · intro w'
    go_simp
    with_reducible rfl
  rotate_left
  · simp only [Act.put, List.setIfInBounds_toArray, List.set_cons_zero, List.set_cons_succ]
    rfl
  refine pure_ (i := 2) (N := some 31) (v := ?_) (a' := ?_) #[false, true, true, false, false, false, false, false, false, false, false, false, false, false, false, false, false, false, false, false, false, false, false, false, false] rfl rfl (by kernel_rfl) (fun _ _ _ h => h) (Or.inl ⟨by rfl, ?_⟩) ?_ ?_
  rotate_left
  · intro w'
    go_simp
    with_reducible rfl
  rotate_left
  · simp only [Act.put, List.setIfInBounds_toArray, List.set_cons_zero, List.set_cons_succ]
    rfl
  refine pure_ (i := 3) (N := some 32) (v := ?_) (a' := ?_) #[false, true, true, true, false, false, false, false, false, false, false, false, false, false, false, false, false, false, false, false, false, false, false, false, false] rfl rfl (by kernel_rfl) (fun _ _ _ h => h) (Or.inl ⟨by rfl, ?_⟩) ?_ ?_
  rotate_left
  · intro w'
    go_simp
    with_reducible rfl
  rotate_left
  · simp only [Act.put, List.setIfInBounds_toArray, List.set_cons_zero, List.set_cons_succ]
    rfl
  refine pure_ (i := 6) (N := some 35) (v := ?_) (a' := ?_) #[false, true, true, true, false, false, true, false, false, false, false, false, false, false, false, false, false, false, false, false, false, false, false, false, false] rfl rfl (by kernel_rfl) (fun _ _ _ h => h) (Or.inl ⟨by rfl, ?_⟩) ?_ ?_
  rotate_left
  · intro w'
    go_simp
    with_reducible rfl
  rotate_left
  · simp only [Act.put, List.setIfInBounds_toArray, List.set_cons_zero, List.set_cons_succ]
    rfl
  refine pure_ (i := 8) (N := some 37) (v := ?_) (a' := ?_) #[false, true, true, true, false, false, true, false, true, false, false, false, false, false, false, false, false, false, false, false, false, false, false, false, false] rfl rfl (by kernel_rfl) (fun _ _ _ h => h) (Or.inl ⟨by rfl, ?_⟩) ?_ ?_
  rotate_left
  · intro w'
    go_simp
    with_reducible rfl
  rotate_left
  · simp only [Act.put, List.setIfInBounds_toArray, List.set_cons_zero, List.set_cons_succ]
    rfl
  refine pure_ (i := 10) (N := some 39) (v := ?_) (a' := ?_) #[false, true, true, true, false, false, true, false, true, false, true, false, false, false, false, false, false, false, false, false, false, false, false, false, false] rfl rfl (by kernel_rfl) (fun _ _ _ h => h) (Or.inl ⟨by rfl, ?_⟩) ?_ ?_
  rotate_left
  · intro w'
    go_simp
    with_reducible rfl
  rotate_left
  · simp only [Act.put, List.setIfInBounds_toArray, List.set_cons_zero, List.set_cons_succ]
    rfl
  refine pure_ (i := 12) (N := some 41) (v := ?_) (a' := ?_) #[false, true, true, true, false, false, true, false, true, false, true, false, true, false, false, false, false, false, false, false, false, false, false, false, false] rfl rfl (by kernel_rfl) (fun _ _ _ h => h) (Or.inl ⟨by rfl, ?_⟩) ?_ ?_
  rotate_left
  · intro w'
    go_simp
    with_reducible rfl
  rotate_left
  · simp only [Act.put, List.setIfInBounds_toArray, List.set_cons_zero, List.set_cons_succ]
    rfl
  refine pure_ (i := 15) (N := some 44) (v := ?_) (a' := ?_) #[false, true, true, true, false, false, true, false, true, false, true, false, true, false, false, true, false, false, false, false, false, false, false, false, false] rfl rfl (by kernel_rfl) (fun _ _ _ h => h) (Or.inl ⟨by rfl, ?_⟩) ?_ ?_
  rotate_left
  · intro w'
    go_simp
    with_reducible rfl
  rotate_left
  · simp only [Act.put, List.setIfInBounds_toArray, List.set_cons_zero, List.set_cons_succ]
    rfl
  refine pure_ (i := 18) (N := some 47) (v := ?_) (a' := ?_) #[false, true, true, true, false, false, true, false, true, false, true, false, true, false, false, true, false, false, true, false, false, false, false, false, false] rfl rfl (by kernel_rfl) (fun _ _ _ h => h) (Or.inl ⟨by rfl, ?_⟩) ?_ ?_
  rotate_left
  · intro w'
    go_simp
    with_reducible rfl
  rotate_left
  · simp only [Act.put, List.setIfInBounds_toArray, List.set_cons_zero, List.set_cons_succ]
    rfl
  refine take_ (i := 0) (N := some 29) (v := ?_) (a' := ?_) #[true, true, true, true, false, false, true, false, true, false, true, false, true, false, false, true, false, false, true, false, false, false, false, false, false] rfl rfl (by kernel_rfl) (fun _ _ _ h => h) (Or.inl ⟨by rfl, ?_⟩) hHeld ?_ ?_
  rotate_left
  · rintro w' ⟨s0, s1, s2, s3, s4, s5, s6, s7, s8⟩
    go_simp
    with_reducible rfl
  rotate_left
  · simp only [Act.put, List.setIfInBounds_toArray, List.set_cons_zero, List.set_cons_succ]
    rfl
  refine take_ (i := 4) (N := some 33) (v := ?_) (a' := ?_) #[true, true, true, true, true, false, true, false, true, false, true, false, true, false, false, true, false, false, true, false, false, false, false, false, false] rfl rfl (by kernel_rfl) (fun _ _ _ h => h) (Or.inl ⟨by rfl, ?_⟩) hHeld ?_ ?_
  rotate_left
  · rintro w' ⟨s0, s1, s2, s3, s4, s5, s6, s7, s8⟩
    go_simp
    with_reducible rfl
  rotate_left
  · simp only [Act.put, List.setIfInBounds_toArray, List.set_cons_zero, List.set_cons_succ]
    rfl
  refine take_ (i := 7) (N := some 36) (v := ?_) (a' := ?_) #[true, true, true, true, true, false, true, true, true, false, true, false, true, false, false, true, false, false, true, false, false, false, false, false, false] rfl rfl (by kernel_rfl) (fun _ _ _ h => h) (Or.inl ⟨by rfl, ?_⟩) hHeld ?_ ?_
  rotate_left
  · rintro w' ⟨s0, s1, s2, s3, s4, s5, s6, s7, s8⟩
    go_simp
    with_reducible rfl
  rotate_left
  · simp only [Act.put, List.setIfInBounds_toArray, List.set_cons_zero, List.set_cons_succ]
    rfl
  refine take_ (i := 11) (N := some 40) (v := ?_) (a' := ?_) #[true, true, true, true, true, false, true, true, true, false, true, true, true, false, false, true, false, false, true, false, false, false, false, false, false] rfl rfl (by kernel_rfl) (fun _ _ _ h => h) (Or.inl ⟨by rfl, ?_⟩) hHeld ?_ ?_
  rotate_left
  · rintro w' ⟨s0, s1, s2, s3, s4, s5, s6, s7, s8⟩
    go_simp
    with_reducible rfl
  rotate_left
  · simp only [Act.put, List.setIfInBounds_toArray, List.set_cons_zero, List.set_cons_succ]
    rfl
  refine take_ (i := 13) (N := some 42) (v := ?_) (a' := ?_) #[true, true, true, true, true, false, true, true, true, false, true, true, true, true, false, true, false, false, true, false, false, false, false, false, false] rfl rfl (by kernel_rfl) (fun _ _ _ h => h) (Or.inl ⟨by rfl, ?_⟩) hHeld ?_ ?_
  rotate_left
  · rintro w' ⟨s0, s1, s2, s3, s4, s5, s6, s7, s8⟩
    go_simp
    with_reducible rfl
  rotate_left
  · simp only [Act.put, List.setIfInBounds_toArray, List.set_cons_zero, List.set_cons_succ]
    rfl
  refine take_ (i := 16) (N := some 45) (v := ?_) (a' := ?_) #[true, true, true, true, true, false, true, true, true, false, true, true, true, true, false, true, true, false, true, false, false, false, false, false, false] rfl rfl (by kernel_rfl) (fun _ _ _ h => h) (Or.inl ⟨by rfl, ?_⟩) hHeld ?_ ?_
  rotate_left
  · rintro w' ⟨s0, s1, s2, s3, s4, s5, s6, s7, s8⟩
    go_simp
    with_reducible rfl
  rotate_left
  · simp only [Act.put, List.setIfInBounds_toArray, List.set_cons_zero, List.set_cons_succ]
    rfl
  refine take_ (i := 19) (N := some 48) (v := ?_) (a' := ?_) #[true, true, true, true, true, false, true, true, true, false, true, true, true, true, false, true, true, false, true, true, false, false, false, false, false] rfl rfl (by kernel_rfl) (fun _ _ _ h => h) (Or.inl ⟨by rfl, ?_⟩) hHeld ?_ ?_
  rotate_left
  · rintro w' ⟨s0, s1, s2, s3, s4, s5, s6, s7, s8⟩
    go_simp
    with_reducible rfl
  rotate_left
  · simp only [Act.put, List.setIfInBounds_toArray, List.set_cons_zero, List.set_cons_succ]
    rfl
  refine one_ (i := 5) (N := some 34) #[true, true, true, true, true, true, true, true, true, false, true, true, true, true, false, true, true, false, true, true, false, false, false, false, false] rfl rfl (by kernel_rfl) (by decide) (fun K hK => ?_)
  refine goes_ Tryz.func17 (by kernel_rfl) rfl #[.int .i64 c.n] (by rfl) rfl rfl (by simp only [List.map_toArray, List.map_cons, List.map_nil]; rfl) ?_
  with_reducible refine ((ringNew_any c.n _)).mono ?_
  rintro e w3 ⟨rfl, hw3⟩
  refine ⟨_, rfl, ?_⟩
  rw [E1.out] at hw3
  subst hw3
  have HB3 := Lib.hid ((HB2.out.st (Chg.dr w2)).alloc (Obj.cells (rgc c.n) 119))
  have HR3 := Lib.hid (Blk.new w2.drew 119 (rgc c.n))
  have HC3 : Hid (Chg NoB w2 (w2.drew.alloc (Obj.cells (rgc c.n) 119))) := Lib.hid ((Chg.dr w2).alloc _)
  have hz3 : (w2.drew.alloc (Obj.cells (rgc c.n) 119)).heap.size = w2.heap.size + 1 := by simp
  generalize hW3 : w2.drew.alloc (Obj.cells (rgc c.n) 119) = w3 at *
  clear hW3
  refine hK.out _ _ ⟨(HB3.out.cell 0), (HB3.out.cell 1), (HB3.out.cell 2), (HB3.out.cell 3), (HB3.out.cell 4), (HB3.out.cell 5), (HB3.out.cell 6), (HB3.out.cell 7), (HB3.out.cell 8)⟩ (fun hHeld => ?_)
  clear hK K
  refine norm_ (a' := ?_) ?_ ?_
  rotate_left
  · show Act.put _ (some 34) _ = _
    simp only [Act.put, List.setIfInBounds_toArray, List.set_cons_zero, List.set_cons_succ]
    rfl
  refine one_ (i := 9) (N := some 38) #[true, true, true, true, true, true, true, true, true, true, true, true, true, true, false, true, true, false, true, true, false, false, false, false, false] rfl rfl (by kernel_rfl) (by decide) (fun K hK => ?_)
  refine goes_ Tryz.func18 (by kernel_rfl) rfl #[.int .i64 c.n, .int .i64 id_] (by rfl) rfl rfl (by simp only [List.map_toArray, List.map_cons, List.map_nil]; rfl) ?_
  with_reducible refine ((viewNew_int HM.out HK.out.n HI.out w3)).mono ?_
  rintro e w4 ⟨⟨v, b1, b2, b3, rfl, hV, v0, v1, v2, v3⟩, hC4⟩
  refine ⟨_, rfl, ?_⟩
  have HV4 := Lib.hid hV
  have HC4 := Lib.hid hC4
  have HB4 := Lib.hid (HB3.out.st hC4)
  have hlts := hV.lts
  clear hV hC4
  refine hK.out _ _ ⟨(HB4.out.cell 0), (HB4.out.cell 1), (HB4.out.cell 2), (HB4.out.cell 3), (HB4.out.cell 4), (HB4.out.cell 5), (HB4.out.cell 6), (HB4.out.cell 7), (HB4.out.cell 8)⟩ (fun hHeld => ?_)
  clear hK K
  refine norm_ (a' := ?_) ?_ ?_
  rotate_left
  · show Act.put _ (some 38) _ = _
    simp only [Act.put, List.setIfInBounds_toArray, List.set_cons_zero, List.set_cons_succ]
    rfl
  refine one_ (i := 14) (N := some 43) #[true, true, true, true, true, true, true, true, true, true, true, true, true, true, true, true, true, false, true, true, false, false, false, false, false] rfl rfl (by kernel_rfl) (by decide) (fun K hK => ?_)
  refine goes_ Tryz.func19 (by kernel_rfl) rfl #[.int .i64 c.rate, .int .i64 c.burst] (by rfl) rfl rfl (by simp only [List.map_toArray, List.map_cons, List.map_nil]; rfl) ?_
  with_reducible refine ((bucket_new c.rate c.burst w4)).mono ?_
  rintro e w5 ⟨⟨bg, bh, rfl, k1, k2, hK, hC5⟩⟩
  refine ⟨_, rfl, ?_⟩
  rw [E3.out, E4.out] at hK
  have HK5 := Lib.hid hK
  have HC5 := Lib.hid hC5
  have HB5 := Lib.hid (HB4.out.st hC5)
  have k3 := hK.blk.lt
  have k4 := hK.ta.blk.lt
  clear hK hC5
  refine hK.out _ _ ⟨(HB5.out.cell 0), (HB5.out.cell 1), (HB5.out.cell 2), (HB5.out.cell 3), (HB5.out.cell 4), (HB5.out.cell 5), (HB5.out.cell 6), (HB5.out.cell 7), (HB5.out.cell 8)⟩ (fun hHeld => ?_)
  clear hK K
  refine norm_ (a' := ?_) ?_ ?_
  rotate_left
  · show Act.put _ (some 43) _ = _
    simp only [Act.put, List.setIfInBounds_toArray, List.set_cons_zero, List.set_cons_succ]
    rfl
  refine one_ (i := 17) (N := some 46) #[true, true, true, true, true, true, true, true, true, true, true, true, true, true, true, true, true, true, true, true, false, false, false, false, false] rfl rfl (by kernel_rfl) (by decide) (fun K hK => ?_)
  refine goes_ Tryz.func20 (by kernel_rfl) rfl #[.int .i64 c.q] (by rfl) rfl rfl (by simp only [List.map_toArray, List.map_cons, List.map_nil]; rfl) ?_
  with_reducible refine ((new_any c.q w5)).mono ?_
  rintro e w6 ⟨⟨qg, rfl, hQ⟩, hC6⟩
  refine ⟨_, rfl, ?_⟩
  rw [E5.out] at hQ
  have HQ6 := Lib.hid hQ
  have HC6 := Lib.hid hC6
  have HB6 := Lib.hid (HB5.out.st hC6)
  have q1 := hQ.rg
  have q2 := hQ.blk.lt
  clear hQ hC6
  refine hK.out _ _ ⟨(HB6.out.cell 0), (HB6.out.cell 1), (HB6.out.cell 2), (HB6.out.cell 3), (HB6.out.cell 4), (HB6.out.cell 5), (HB6.out.cell 6), (HB6.out.cell 7), (HB6.out.cell 8)⟩ (fun hHeld => ?_)
  clear hK K
  refine norm_ (a' := ?_) ?_ ?_
  rotate_left
  · show Act.put _ (some 46) _ = _
    simp only [Act.put, List.setIfInBounds_toArray, List.set_cons_zero, List.set_cons_succ]
    rfl
  refine one_ (i := 20) (N := some 49) #[true, true, true, true, true, true, true, true, true, true, true, true, true, true, true, true, true, true, true, true, true, false, false, false, false] rfl rfl (by kernel_rfl) (by decide) (fun K hK => ?_)
  refine goes_ Tryz.func21 (by kernel_rfl) rfl #[.int .i64 c.wait] (by rfl) rfl rfl (by simp only [List.map_toArray, List.map_cons, List.map_nil]; rfl) ?_
  with_reducible refine ((coordNew_any c.wait w6)).mono ?_
  rintro e w7 ⟨rfl, hw7⟩
  refine ⟨_, rfl, ?_⟩
  rw [E2.out] at hw7
  subst hw7
  have hC7 : Chg NoB w6 ((w6.alloc (Obj.map #[] 0)).alloc (Obj.cells (coc c.wait 0 w6.heap.size (.slice none 0 0)) 133)) := (Chg.al w6 _).trans (Chg.al _ _)
  have HB7 := Lib.hid (HB6.out.st hC7)
  have HC7 := Lib.hid hC7
  have HO7 := Lib.hid (Blk.new_ (k := w6.heap.size + 1) (w6.alloc (Obj.map #[] 0)) 133 (coc c.wait 0 w6.heap.size (.slice none 0 0)) (by simp))
  have HM7 : Hid (((w6.alloc (Obj.map #[] 0)).alloc (Obj.cells (coc c.wait 0 w6.heap.size (.slice none 0 0)) 133)).heap[w6.heap.size]? = some (Obj.map #[] 0)) := Lib.hid (((Chg.al (w6.alloc (Obj.map #[] 0)) (Obj.cells (coc c.wait 0 w6.heap.size (.slice none 0 0)) 133)).block w6.heap.size (by simp) id).trans (heap_alloc_new w6 _))
  clear hC7
  have hz7 : ((w6.alloc (Obj.map #[] 0)).alloc (Obj.cells (coc c.wait 0 w6.heap.size (.slice none 0 0)) 133)).heap.size = w6.heap.size + 2 := by simp
  generalize hW7 : (w6.alloc (Obj.map #[] 0)).alloc (Obj.cells (coc c.wait 0 w6.heap.size (.slice none 0 0)) 133) = w7 at *
  clear hW7
  refine hK.out _ _ ⟨(HB7.out.cell 0), (HB7.out.cell 1), (HB7.out.cell 2), (HB7.out.cell 3), (HB7.out.cell 4), (HB7.out.cell 5), (HB7.out.cell 6), (HB7.out.cell 7), (HB7.out.cell 8)⟩ (fun hHeld => ?_)
  clear hK K
  refine norm_ (a' := ?_) ?_ ?_
  rotate_left
  · show Act.put _ (some 49) _ = _
    simp only [Act.put, List.setIfInBounds_toArray, List.set_cons_zero, List.set_cons_succ]
    rfl
  refine pure_ (i := 21) (N := some 50) (v := ?_) (a' := ?_) #[true, true, true, true, true, true, true, true, true, true, true, true, true, true, true, true, true, true, true, true, true, true, false, false, false] rfl rfl (by kernel_rfl) (fun _ _ _ h => h) (Or.inl ⟨by rfl, ?_⟩) ?_ ?_
  rotate_left
  · intro w'
    go_simp
    with_reducible rfl
  rotate_left
  · simp only [Act.put, List.setIfInBounds_toArray, List.set_cons_zero, List.set_cons_succ]
    rfl
  refine one_ (i := 22) (N := some 51) #[true, true, true, true, true, true, true, true, true, true, true, true, true, true, true, true, true, true, true, true, true, true, true, false, false] rfl rfl (by kernel_rfl) (by decide) (fun K hK => ?_)
  refine value_ (w1 := ?_) (v := ?_) (by rfl) rfl ?_ ?_
  rotate_left 2
  · go_simp
    constructor
    · rfl
    · rfl
  refine hK.out _ _ ⟨(((HB7.out.alloc _)).cell 0), (((HB7.out.alloc _)).cell 1), (((HB7.out.alloc _)).cell 2), (((HB7.out.alloc _)).cell 3), (((HB7.out.alloc _)).cell 4), (((HB7.out.alloc _)).cell 5), (((HB7.out.alloc _)).cell 6), (((HB7.out.alloc _)).cell 7), (((HB7.out.alloc _)).cell 8)⟩ (fun hHeld => ?_)
  clear hK K
  refine norm_ (a' := ?_) ?_ ?_
  rotate_left
  · show Act.put _ (some 51) _ = _
    simp only [Act.put, List.setIfInBounds_toArray, List.set_cons_zero, List.set_cons_succ]
    rfl
  refine pure_ (i := 23) (N := some 6) (v := ?_) (a' := ?_) #[true, true, true, true, true, true, true, true, true, true, true, true, true, true, true, true, true, true, true, true, true, true, true, true, false] rfl rfl (by kernel_rfl) (fun _ _ _ h => h) (Or.inl ⟨by rfl, ?_⟩) ?_ ?_
  rotate_left
  · intro w'
    go_simp
    with_reducible rfl
  rotate_left
  · simp only [Act.put, List.setIfInBounds_toArray, List.set_cons_zero, List.set_cons_succ]
    rfl
  refine pure_ (i := 24) (N := some 7) (v := ?_) (a' := ?_) #[true, true, true, true, true, true, true, true, true, true, true, true, true, true, true, true, true, true, true, true, true, true, true, true, true] rfl rfl (by kernel_rfl) (fun _ _ _ h => h) (Or.inl ⟨by rfl, ?_⟩) ?_ ?_
  rotate_left
  · intro w'
    go_simp
    with_reducible rfl
  rotate_left
  · simp only [Act.put, List.setIfInBounds_toArray, List.set_cons_zero, List.set_cons_succ]
    rfl
  refine done_ (by kernel_rfl) ?_
  go_wp2_with fail
  go_ret2
  have hal : Chg NoB w7 (w7.alloc (.cells (ndc c id_ st w2.heap.size v bg qg (w6.heap.size + 1) 0 0 (.slice none 0 0)) 75)) := Chg.al w7 _
  have t7 := HC7.out.trans hal
  have t6 := HC6.out.trans t7
  have t5 := HC5.out.trans t6
  have t4 := HC4.out.trans t5
  have t3 := HC3.out.trans t4
  have s1 := HD.out.blk.lt
  have s2 := HC.out.size
  have s3 := HC1.out.size
  have s4 := HC2.out.size
  have s5 := HC4.out.size
  have s6 := HC5.out.size
  have s7 := HC6.out.size
  refine ⟨⟨⟨g, lg, mp, tb, hs, st, w2.heap.size, v, b1, b2, b3, bh, bg, w5.heap.size, qg, w6.heap.size, w6.heap.size + 1, w6.heap.size + 2⟩, rfl,
    { blk := Blk.new_ _ _ _ hz7.symm, se := HS2.out.st t3, rg := HR3.out.st t4, vw := HV4.out.st t5, bk := HK5.out.chg t6 id id, q := HQ6.out.chg_ t7 id id (fun _ _ => id), co := HO7.out.st hal,
      cm := (hal.block w6.heap.size (by omega) id).trans HM7.out, own := ⟨rfl, .inl ⟨rfl, rfl⟩⟩, up := by constructor <;> dsimp only <;> omega, hm := HM.out, sn := fun k hk => by simp [Value.ownBlock] at hk, so := fun k hk => by simp [Value.ownBlock] at hk }, rfl, ?_⟩, ?_⟩
  · show w.heap.size ≤ lg
    omega
  · exact ((HC.out.trans HC1.out).trans HC2.out).trans t3
theorem nodeOpen_any {w : World} {g m : Nat} {c : Cg} {id_ : Int} (hc : Cok c) (hi : 0 ≤ id_ ∧ id_ < c.n) (hm : (m : Int) = c.n) (h : DA w g c.disk [] 0 (.slice none 0 0)) :
    Calls Tryz.prog 6 #[cgv c, .int .i64 id_, .pointer (some ⟨g, 0, none⟩)] w fun e w' => (∃ p : Pl, e = .returned (.tuple #[.pointer (some ⟨p.n, 0, none⟩), .int .i64 0]) ∧ ND w' p c id_ m 0 0 c.burst 0 [] (.slice none 0 0) (.slice none 0 0) 0 [] ∧ p.d = g ∧ w.heap.size ≤ p.lg) ∧ Chg NoB w w' := nodeOpen_m hc hi hm h
end Go.Proofs.YtoefffjhjmjhfaaGreat
