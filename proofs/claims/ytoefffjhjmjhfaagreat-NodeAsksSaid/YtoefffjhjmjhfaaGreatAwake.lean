/- awake(): a node that every program must know. No statement is proved here. -/
import Derived.Test.YtoefffjhjmjhfaaGreatAwP
import Derived.Lib.SlBytesConst
import Derived.Lib.SmallJoins
namespace Go.Proofs.YtoefffjhjmjhfaaGreat
open Go.RowKit Go.Proofs.YtoefffjhjmjhfaaGreatW.PrintLast
attribute [local go_sem] max2_mx min2_mn max_two_ min_two_
set_option maxRecDepth 100000

section
variable {w w' : World}
theorem nanswers_any {n om : Nat} {c : Cg} {st rg v bg qg op : Nat} {t sn wt last : Int} {out : Value} (hB : Blk w n 75 (ndc c 0 st rg v bg qg op t sn out)) {a : Option Addr} {k cp : Nat} (hco : Blk w op 133 (coc wt last om (.slice a k cp))) :
    Calls Tryz.prog 13 #[.pointer (some ⟨n, 0, none⟩)] w fun e w' => e = .returned (.slice a k cp) ∧ Chg (Only op) w w' := by
  have HA := Lib.hid (answers_any hco)
  have c15 := hB.cell 15
  clear hB hco
  go_enter Tryz.func13, Tryz.ntmps13
  go_wp2_with fail
  refine HA.out.mono ?_
  rintro e w1 ⟨rfl, hC⟩
  have HC := Lib.hid hC
  clear hC
  go_wp2_with fail
  go_ret
  exact ⟨rfl, HC.out⟩
theorem nout_none {n : Nat} {c : Cg} {id_ : Int} {st rg v bg qg op : Nat} {t sn : Int} (hB : Blk w n 75 (ndc c id_ st rg v bg qg op t sn (.slice none 0 0))) :
    Calls Tryz.prog 9 #[.pointer (some ⟨n, 0, none⟩)] w fun e w' => e = .returned (.slice none 0 0) ∧ Chg (Only n) w w' := by
  have c18 := hB.cell 18
  have f18 := hB.frozen 18
  have HC := Lib.hid ((Chg.refl (Only n) w).setOwn 18 (.slice none 0 0))
  clear hB
  go_enter Tryz.func9, Tryz.ntmps9
  go_upto_block 0 with fail
  obtain ⟨wo, hwo⟩ : ∃ wo : World, wo = w := ⟨_, rfl⟩
  go_wp2_with fail
  go_loopw [3, 13] (fun o i wr => o = .slice none 0 0 ∧ i = .int .i64 0 ∧ wr = wo) (fun _ _ _ => 0)
  case atStart => exact ⟨rfl, rfl, hwo.symm⟩
  case round =>
    obtain ⟨rfl, rfl, rfl⟩ := hrel
    subst hwo
    go_wp2_with fail
    go_ret
    exact ⟨rfl, HC.out⟩
theorem rd_x (w : World) : Rd (w.alloc (.cells #[.int .u8 120] 5 (1, 2))) (New w) (bD [120]) (.slice (some ⟨w.heap.size, 0, none⟩) 1 1) := by
  have h := Rd.s (w := w.alloc (.cells #[.int .u8 120] 5 (1, 2))) (A := New w) 1 [[.c (.int .u8 120)]] w.heap.size 0 1 (fun _ _ => .int .u8 120) (by simp) (by unfold maxLen; omega) (fun _ => ⟨Nat.le_refl _, by simp⟩) (fun i hi => by
    simp only [List.length_singleton] at hi
    obtain rfl : i = 0 := by omega
    rfl) (fun i j hi hj => by
    simp only [List.length_singleton] at hi
    obtain rfl : i = 0 := by omega
    obtain rfl : j = 0 := by omega
    exact Go.Joins.cell_alloc_mark_at w #[.int .u8 120] 5 (1, 2) w.heap.size 0 rfl) (fun i hi j hj => by
    simp only [List.length_singleton] at hi
    obtain rfl : i = 0 := by omega
    simp only [List.getElem_cons_zero, List.length_singleton] at hj ⊢
    obtain rfl : j = 0 := by omega
    exact .c _ rfl)
  exact h
set_option maxHeartbeats 8000000 in
theorem awake_any (w : World) : Calls Tryz.prog 5 #[] w fun e w' => e = .returned (.bool true) ∧ Chg NoB w w' := by
  go_enter Tryz.func5, Tryz.ntmps5
  go_wp2_with fail
  refine (config_0 _).mono ?_
  rintro e w1 ⟨rfl, hC1⟩
  have HC1 := Lib.hid hC1
  clear hC1
  go_wp2_with fail
  refine (diskNew_any 1000 _).mono ?_
  rintro e w2 ⟨rfl, hD, hC2, _⟩
  have HC2 := Lib.hid (HC1.out.trans hC2)
  clear hC2
  rw [show mx 0 (mn 1000 1048576) = 1000 from by decide] at hD
  have HD := Lib.hid hD
  clear hD
  go_wp2_with fail
  refine (nodeOpen_m (m := 1) (c := cg0) (id_ := 0) ⟨by decide, by decide, by decide, by decide, by decide, by decide, by decide, by decide, by decide⟩ (by decide) rfl HD.out).mono ?_
  rintro e w3_ ⟨⟨p, rfl, hN, hpd, _⟩, hC3⟩
  have HC3 := Lib.hid (HC2.out.trans hC3)
  have hpd2 : w.heap.size ≤ p.d := by have := HC1.out.size; omega
  have HPd := Lib.hid hpd2
  clear hC3 hpd hpd2
  have HN := Lib.hid hN
  clear hN HD
  have hcv := Lib.run_convert_bytes_const (P := Tryz.prog) w3_ 47 5 #[.int .u8 120] 1 1 Tryz.underlying47 Tryz.underlying5
  go_wp2_with fail
  have hCa := Chg.al w3_ (.cells #[.int .u8 120] 5 (1, 2))
  have hnw := HN.out.blk.lt
  have hRX := rd_x w3_
  have hNa : NDm 1000 (w3_.alloc (.cells #[.int .u8 120] 5 (1, 2))) p cg0 0 1 0 0 cg0.burst 0 [] (.slice none 0 0) (.slice none 0 0) 0 [] :=
    { HN.out with blk := HN.out.blk.st hCa, se := HN.out.se.st hCa, rg := HN.out.rg.st hCa, vw := HN.out.vw.st hCa, bk := HN.out.bk.chg hCa id id, q := HN.out.q.chg_ hCa id id (fun _ _ => id), co := HN.out.co.st hCa, cm := (hCa.block _ (map_lt HN.out.cm) id).trans HN.out.cm, own := own_chg HN.out.own hCa fun _ _ => id }
  have HUp := Lib.hid HN.out.up
  have HC4 := Lib.hid (HC3.out.trans hCa)
  have HP := Lib.hid (nput_A hNa (by decide) ⟨#[107]⟩ (by decide) hRX fun j hj h => by
    have h1 : w3_.heap.size ≤ j := hj
    have h2 := HN.out.rg.lt
    omega)
  have hzz : w3_.heap.size ≤ (w3_.alloc (.cells #[.int .u8 120] 5 (1, 2))).heap.size := hCa.size
  clear hCa hRX hNa hcv HN
  refine HP.out.mono ?_
  rintro e w4 ⟨rfl, ⟨l, a, c, hB, hCo, hO⟩, hC4⟩
  have HC5 : Hid (Chg NoB w w4) := Lib.hid (HC4.out.then_ hC4 fun j hj h => by
    have := HPd.out
    have h2 : p.d ≤ j := h
    omega)
  clear hC4
  obtain ⟨lp, lc, rfl, _, _, hf⟩ := own_form hO
  obtain ⟨gl, rfl, hg1, hg2, hcl⟩ := hf (by decide)
  have HB := Lib.hid hB
  have HCo := Lib.hid hCo
  have HCl := Lib.hid hcl
  have hup := HUp.out
  have hne : gl ≠ p.op := by have := hup.n; omega
  have hnop : p.n ≠ p.op := by have := hup.n; omega
  clear hB hCo hO hf hcl hup HP
  go_wp2_with fail
  refine (nanswers_any HB.out HCo.out).mono ?_
  rintro e w5 ⟨rfl, hC⟩
  have HB5 := Lib.hid (HB.out.chg hC hnop)
  have HC6 : Hid (Chg NoB w w5) := Lib.hid (HC5.out.then_ hC fun j hj h => by
    obtain ⟨a1, a2, a3, a4, a5, a6, b0, b1, b2, b3, b4, b5, b6, b7, b8, b9⟩ := HUp.out
    have := HPd.out
    have h2 : j = p.op := h
    omega)
  have x1 : w5.cell? ⟨gl, 1, none⟩ = some (.int .i64 0) := (World.cell?_of_block (hC.block gl hg1 hne)).trans (HCl.out 1 (by decide)).1
  have x10 : w5.cell? ⟨gl, 10, none⟩ = some (.slice a 1 c) := (World.cell?_of_block (hC.block gl hg1 hne)).trans (HCl.out 10 (by decide)).1
  clear hC
  go_wp2_with fail
  refine (nout_none HB5.out).mono ?_
  rintro e w6 ⟨rfl, hC7⟩
  have HC7 : Hid (Chg NoB w w6) := Lib.hid (HC6.out.then_ hC7 fun j hj h => by
    obtain ⟨a1, a2, a3, a4, a5, a6, b0, b1, b2, b3, b4, b5, b6, b7, b8, b9⟩ := HUp.out
    have := HPd.out
    have h2 : j = p.n := h
    omega)
  clear hC7
  go_wp2_with fail
  go_ret
  exact ⟨rfl, HC7.out⟩
end
end Go.Proofs.YtoefffjhjmjhfaaGreat
