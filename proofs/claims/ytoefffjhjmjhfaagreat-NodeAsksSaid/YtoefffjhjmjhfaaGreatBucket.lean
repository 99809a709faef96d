/- Contracts of package bucket, function by function. No statement is proved here. -/
import Derived.Test.YtoefffjhjmjhfaaGreatTally
import Derived.Test.YtoefffjhjmjhfaaGreatPkBase
import Derived.StillTailTactics
import Derived.Deep.RegionHeld3
namespace Go.Proofs.YtoefffjhjmjhfaaGreat
open Go.RowKit
set_option maxRecDepth 100000

attribute [local go_sem] max2_mx min2_mn max_two_ min_two_

def bclip (n : Int) : Int := mx 0 (mn n 1000000)
theorem bclip_in (n : Int) : 0 ≤ bclip n ∧ bclip n ≤ 1000000 := by unfold bclip mx mn; omega
theorem bclip_mx0 (n : Int) : mx0 (bclip n) = bclip n := by unfold mx0 bclip mx mn; split <;> omega

structure BA (w : World) (g h : Nat) (rate now most taken : Int) : Prop where
  blk : Blk w g 126 #[.int .i64 rate, .pointer (some ⟨h, 0, none⟩), .int .i64 taken]
  ta : TA w h now most
  r0 : 0 ≤ rate
  r1 : rate ≤ 1000000
  m1 : most ≤ 1000000
  t0 : 0 ≤ taken

def Two (g h : Nat) : Nat → Prop := fun k => k = g ∨ k = h

theorem BA.ne {w : World} {g h : Nat} {rate now most taken : Int} (b : BA w g h rate now most taken) : g ≠ h := b.blk.ne_ b.ta.blk (by decide)
theorem BA.chg {w w' : World} {g h : Nat} {rate now most taken : Int} {S : Nat → Prop} (b : BA w g h rate now most taken) (hc : Chg S w w') (hg : ¬ S g) (hh : ¬ S h) : BA w' g h rate now most taken :=
  ⟨b.blk.chg hc hg, b.ta.chg hc hh, b.r0, b.r1, b.m1, b.t0⟩
/-- The counter has turned. -/
theorem BA.turn {w w' : World} {g h : Nat} {rate now most taken now' : Int} (b : BA w g h rate now most taken) (hc : Chg (Only h) w w') (ht : TA w' h now' most) : BA w' g h rate now' most taken :=
  ⟨b.blk.chg hc b.ne, ht, b.r0, b.r1, b.m1, b.t0⟩

theorem within_any (n : Int) (w : World) : Calls Tryz.prog 45 #[.int .i64 n] w fun e w' => e = .returned (.int .i64 (bclip n)) ∧ w' = w := by
  go_enter Tryz.func45, Tryz.ntmps45
  go_wp2
  go_ret
  exact ⟨rfl, rfl⟩

/-- Raising to the end. -/
theorem tally_fill {w : World} {g : Nat} {now most n : Int} (hT : TA w g now most) (hn : n = most) :
    Calls Tryz.prog 47 #[.pointer (some ⟨g, 0, none⟩), .int .i64 n] w fun e w' => ∃ b, e = .returned (.bool b) ∧ TA w' g most most ∧ Chg (Only g) w w' := by
  subst hn
  by_cases a : now < n
  · exact (tally_raise_yes hT n a (Int.le_refl _)).mono fun _ _ ⟨h1, h2, h3⟩ => ⟨_, h1, h2, h3⟩
  · have e : now = n := by have := hT.hi; omega
    subst e
    exact (tally_raise_no hT now (by omega)).mono fun _ _ ⟨h1, h2, h3⟩ => ⟨_, h1, h2, h3⟩

structure BNew (r b : Int) (w : World) (e : Ending) (w' : World) : Prop where
  x : ∃ g h, e = .returned (.pointer (some ⟨g, 0, none⟩)) ∧ w.heap.size ≤ g ∧ w.heap.size ≤ h ∧ BA w' g h (bclip r) (bclip b) (bclip b) 0 ∧ Chg NoB w w'

theorem bucket_new (r b : Int) (w : World) : Calls Tryz.prog 19 #[.int .i64 r, .int .i64 b] w (BNew r b w) := by
  have hr := bclip_in r
  have hb := bclip_in b
  have HB := Lib.hid (bclip_mx0 b)
  go_enter Tryz.func19, Tryz.ntmps19
  go_wp2_with (first | (go_at_call 45; refine (within_any _ _).mono ?_; rintro e w' ⟨rfl, rfl⟩))
  refine (tally_new (bclip b) _ (by omega)).mono ?_
  rw [HB.out]
  rintro e w1 ⟨rfl, hT, hC⟩
  have HC := Lib.hid hC
  have HT := Lib.hid hT
  clear hC hT
  go_wp2_with fail
  have c1 := (Blk.new w1 126 #[.int .i64 (bclip r), .pointer (some ⟨w'.heap.size, 0, none⟩), .int .i64 0]).cell 1
  refine region_tail 7 (by kernel_rfl) (by kernel_rfl) ?_
  simp only [List.take_succ_cons, List.take_zero, List.drop_succ_cons, List.drop_zero]
  iterate 6 still_step
  still_call (within_any _ _)
  refine wpStill_nil ?_
  have hz := HC.out.size
  have hlt := HT.out.blk.lt
  generalize hW : (w1.alloc (.cells #[.int .i64 (bclip r), .pointer (some ⟨w'.heap.size, 0, none⟩), .int .i64 0] 126)).drew = W at *
  have HB2 : Hid (Blk W w1.heap.size 126 #[.int .i64 (bclip r), .pointer (some ⟨w'.heap.size, 0, none⟩), .int .i64 0]) := by rw [← hW]; exact (Blk.new _ _ _).drew
  have HC2 : Hid (Chg NoB w' W) := by rw [← hW]; exact (HC.out.alloc _).drew
  have HT2 : Hid (TA W w'.heap.size 0 (bclip b)) := by rw [← hW]; exact HT.out.chg (((Chg.refl NoB w1).alloc _).drew) id
  clear hW c1
  go_wp2_with fail
  refine (tally_fill HT2.out rfl).mono ?_
  rintro e w2 ⟨b', rfl, hT, hC⟩
  have HC3 := Lib.hid hC
  have HT3 := Lib.hid hT
  clear hT hC
  go_wp2_with fail
  go_ret
  refine ⟨⟨_, _, rfl, hz, Nat.le_refl _, ⟨HB2.out.chg HC3.out (by unfold Only; omega), HT3.out, hr.1, hr.2, hb.2, by decide⟩, HC2.out.then_ HC3.out fun j hj h => absurd h (by unfold Only; omega)⟩⟩

/-- What a bucket's change comes to. -/
structure BTurned (w : World) (g h : Nat) (rate now most taken : Int) (v : Value) (e : Ending) (w' : World) : Prop where
  end_ : e = .returned v
  at_ : BA w' g h rate now most taken
  chg : Chg (Two g h) w w'

theorem Only.two {g h : Nat} {w w' : World} (c : Chg (Only h) w w') : Chg (Two g h) w w' := c.mono fun _ _ hs => .inr hs

theorem atomic_add (g i : Nat) (v n : Int) (w : World) (h : w.cell? ⟨g, i, none⟩ = some (.int .i64 v)) (hf : w.frozen? ⟨g, i, none⟩ = false) (h0 : -9223372036854775808 ≤ v + n) (h1 : v + n ≤ 9223372036854775807) :
    Calls Tryz.prog 71 #[.pointer (some ⟨g, i, none⟩), .int .i64 n] w fun e w' => e = .returned (.int .i64 (v + n)) ∧ w' = w.setCell ⟨g, i, none⟩ (.int .i64 (v + n)) := by
  have hs : (Op.intArith .add .i64 v n).run Tryz.prog w = .ok (.int .i64 (v + n)) w := by
    have : IntKind.i64.wrap (v + n) = v + n := by rw [IntKind.wrap_i64]; omega
    simp [Op.intArith, this]
  have hl := run_call_add (P := Tryz.prog) Tryz.func131 (by kernel_rfl) (by kernel_rfl) (by kernel_rfl) .i64 (by kernel_rfl) h hf hs
  clear hs
  go_enter Tryz.func71, Tryz.ntmps71
  go_wp2
  go_ret
  exact ⟨rfl, rfl⟩

theorem bucket_take_no {w : World} {g h : Nat} {rate most taken : Int} (b : BA w g h rate 0 most taken) :
    Calls Tryz.prog 69 #[.pointer (some ⟨g, 0, none⟩)] w (BTurned w g h rate 0 most taken (.bool false)) := by
  have B := Lib.hid b
  have c1 := b.blk.cell 1
  clear b
  go_enter Tryz.func69, Tryz.ntmps69
  go_wp2_with fail
  refine (tally_take_no B.out.ta 1 (by omega)).mono ?_
  rintro e w1 ⟨rfl, hT, hC⟩
  have HC := Lib.hid hC
  have HT := Lib.hid hT
  clear hT hC
  go_wp2_with fail
  go_ret
  exact ⟨rfl, B.out.turn HC.out HT.out, Only.two HC.out⟩
theorem bucket_take_yes {w : World} {g h : Nat} {rate now most taken : Int} (b : BA w g h rate now most taken) (hn : 0 < now) (ht : taken < 9223372036854775807) :
    Calls Tryz.prog 69 #[.pointer (some ⟨g, 0, none⟩)] w (BTurned w g h rate (now - 1) most (taken + 1) (.bool true)) := by
  have B := Lib.hid b
  have c1 := b.blk.cell 1
  have ht0 := b.t0
  clear b
  go_enter Tryz.func69, Tryz.ntmps69
  go_wp2_with fail
  refine (tally_take_yes B.out.ta 1 (by omega) (by omega)).mono ?_
  rintro e w1 ⟨rfl, hT, hC⟩
  have B1 := Lib.hid (B.out.turn hC hT)
  have HC := Lib.hid hC
  clear hT hC
  go_wp2_with fail
  refine (atomic_add g 2 taken 1 _ (B1.out.blk.cell 2) (B1.out.blk.frozen 2) (by omega) (by omega)).mono ?_
  rintro e w2 ⟨rfl, rfl⟩
  go_wp2_with fail
  go_ret
  exact ⟨rfl, ⟨B1.out.blk.set_ 2 _, B1.out.ta.chg (Chg.setOwn (g := g) (Chg.refl _ w1) 2 _) (fun e => B1.out.ne e.symm), B1.out.r0, B1.out.r1, B1.out.m1, by omega⟩,
    (Only.two HC.out).setCell (p := ⟨g, 2, none⟩) (.inl (.inl rfl)) _⟩

theorem bucket_tick {w : World} {g h : Nat} {rate now most taken : Int} (b : BA w g h rate now most taken) :
    Calls Tryz.prog 25 #[.pointer (some ⟨g, 0, none⟩)] w (BTurned w g h rate (mn most (now + rate)) most taken (.tuple #[])) := by
  have B := Lib.hid b
  have c0 := b.blk.cell 0
  have c1 := b.blk.cell 1
  have r0 := b.r0
  clear b
  by_cases hf : rate ≤ most - now
  · have hmn : mn most (now + rate) = now + rate := by unfold mn; split <;> omega
    rw [hmn]
    clear hmn
    go_enter Tryz.func25, Tryz.ntmps25
    go_wp2_with fail
    go_region_held3 (fun w' => w'.cell? ⟨g, 0, none⟩ = some (.int .i64 rate) ∧ w'.cell? ⟨g, 1, none⟩ = some (.pointer (some ⟨h, 0, none⟩))) (first | exact ⟨c0, c1⟩ | exact ⟨by assumption, by assumption⟩ | exact ⟨d0, d1⟩)
      (first | (go_at_call 54; refine (tally_add_yes (B.out.ta.chg ((Chg.refl NoB w).drew) id) rate r0 hf).mono ?_; rintro e w1 ⟨rfl, hT, hC⟩; have HC := Lib.hid (((Chg.refl (Only h) w).drew).trans hC); clear hC; have B1 := Lib.hid (B.out.turn HC.out hT); clear hT; have d0 := B1.out.blk.cell 0; have d1 := B1.out.blk.cell 1))
    go_wp2_with fail
    go_end0
    exact ⟨rfl, B1.out, Only.two HC.out⟩
  · have hmn : mn most (now + rate) = most := by unfold mn; split <;> omega
    rw [hmn]
    have HF := Lib.hid hf
    clear hmn hf
    go_enter Tryz.func25, Tryz.ntmps25
    go_wp2_with fail
    go_region_held3 (fun w' => w'.cell? ⟨g, 0, none⟩ = some (.int .i64 rate) ∧ w'.cell? ⟨g, 1, none⟩ = some (.pointer (some ⟨h, 0, none⟩))) (first | exact ⟨c0, c1⟩ | exact ⟨by assumption, by assumption⟩ | exact ⟨d0, d1⟩)
      (first | (go_at_call 54; refine (tally_add_no (B.out.ta.chg ((Chg.refl NoB w).drew) id) rate (by have := HF.out; omega)).mono ?_; rintro e w1 ⟨rfl, hT, hC⟩; have HC := Lib.hid (((Chg.refl (Only h) w).drew).trans hC); clear hC; have B1 := Lib.hid (B.out.turn HC.out hT); clear hT; have d0 := B1.out.blk.cell 0; have d1 := B1.out.blk.cell 1))
    go_wp2_with fail
    refine region_tail 9 (by kernel_rfl) (by kernel_rfl) ?_
    simp only [List.take_succ_cons, List.take_zero, List.drop_succ_cons, List.drop_zero]
    iterate 8 still_step
    still_call ((tally_most (B1.out.ta.chg ((Chg.refl NoB w1).drew) id)).mono fun _ _ ⟨h1, h2⟩ => ⟨h1, h2.symm⟩)
    refine wpStill_nil ?_
    go_wp2_with fail
    refine (tally_fill (B1.out.ta.chg ((Chg.refl NoB w1).drew) id) rfl).mono ?_
    rintro e w2 ⟨b', rfl, hT, hC⟩
    have HC2 := Lib.hid (((Chg.refl (Only h) w1).drew).trans hC)
    clear hC
    have B2 := Lib.hid (B1.out.turn HC2.out hT)
    clear hT
    go_wp2_with fail
    go_end0
    exact ⟨rfl, B2.out, Only.two (HC.out.trans HC2.out)⟩

end Go.Proofs.YtoefffjhjmjhfaaGreat
