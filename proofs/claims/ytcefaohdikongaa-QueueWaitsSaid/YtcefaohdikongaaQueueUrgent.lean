/- QueueUrgent: the walk. -/
import Derived.Test.YtcefaohdikongaaQueueAges
import Derived.Test.YtcefaohdikongaaArgs
namespace Go.Proofs.Ytcefaohdikongaa
open Go.RowKit Go.Proofs.YtcefaohdikongaaW.PrintLast
attribute [local go_sem] max2_mx min2_mn max_two_ min_two_

def u3 (u : Int) : Int := mx 0 (mn u 3)
theorem u3_in (u : Int) : 0 ≤ u3 u ∧ u3 u ≤ 3 := by unfold u3 mx mn; split <;> split <;> omega
/-- Each message tells its weight. -/
def uq (l : List Int) : List (Ms × Int) := l.map fun u => (ms0 (u3 u), 4 * u3 u)
theorem uq_length (l : List Int) : (uq l).length = l.length := by simp [uq]
/-- What waits tells its weight; none tells more than was. -/
def Uq (was : Int) (L : List (Ms × Int)) : Prop := ∀ p ∈ L, ∃ x : Int, p = (ms0 x, 4 * x) ∧ x ≤ was
theorem wt_mem (L : List (Ms × Int)) {p : Ms × Int} (h : p ∈ L) : ∃ j, j < L.length ∧ wt L j = p.2 := by
  obtain ⟨j, hj, rfl⟩ := List.getElem_of_mem h
  exact ⟨j, hj, wt_at L hj⟩
theorem Uq.take {was : Int} {L : List (Ms × Int)} (h : Uq was L) {b : Nat} (hb : b < L.length) (hB : Bst L L.length b) : ∃ x : Int, L[b].1 = ms0 x ∧ x ≤ was ∧ Uq x (L.eraseIdx b) := by
  obtain ⟨x, hx, hw⟩ := h L[b] (List.getElem_mem hb)
  refine ⟨x, by rw [hx], hw, fun p hp => ?_⟩
  have hp' := List.mem_of_mem_eraseIdx hp
  obtain ⟨y, rfl, hy⟩ := h p hp'
  obtain ⟨j, hj, hwj⟩ := wt_mem L hp'
  have h1 := hB.le j hj
  rw [hwj, wt_at L hb, hx] at h1
  exact ⟨y, rfl, by have : 4 * y ≤ 4 * x := h1; omega⟩
set_option maxHeartbeats 4000000 in
theorem queueUrgent_any (v : Value) (D : List Int) (w : World) (hs : SliceAt w v 1 D.length (D.map (Value.int .i64))) : Calls Try.prog 4 #[v] w fun e w' => e = .returned (.bool true) ∧ Chg NoB w w' := by
  obtain ⟨A, cap, rfl, hcap, hmax, _, hcell⟩ := hs
  have HCell := Lib.hid hcell
  have hcap2 : cap ≤ 9223372036854775807 := by unfold maxLen at hmax; omega
  clear hcell hmax
  go_enter Try.func4, Try.ntmps4
  go_wp2_with fail
  refine (new_any 100 _).mono ?_
  rintro e w1 ⟨⟨g, rfl, hq⟩, hC⟩
  have HQ1 := Lib.hid hq
  have HC1 := Lib.hid hC
  clear hq hC
  go_wp2_with fail
  go_loopw [4, 13] (fun m i wr => ∃ k : Nat, k ≤ D.length ∧ i = .int .i64 k ∧ m = .int .i64 (min k 80 : Nat) ∧ (∃ s, QA wr g w.heap.size 100 0 (uq (D.take (min k 80))) s) ∧ Chg NoB w wr) (fun _ i _ => D.length - (intOf i).toNat)
  case atStart => exact ⟨0, by omega, rfl, rfl, ⟨_, HQ1.out⟩, HC1.out⟩
  case round =>
    clear HQ1 HC1
    obtain ⟨k, hk, rfl, rfl, ⟨s, hq⟩, hC⟩ := hrel
    have HQ := Lib.hid hq
    have HC := Lib.hid hC
    clear hq hC
    by_cases hlt : k < D.length
    · have hk2 : decide ((k : Int) < (D.length : Int)) = true := by simpa using hlt
      obtain ⟨b, off, rfl, hbl, hcl⟩ := HCell.out (by omega)
      have hv : wr.cell? ⟨b, off + k, none⟩ = some (.int .i64 D[k]) := (HC.out.cell (p := ⟨b, off + k, none⟩) hbl id).trans (hcl k _ (by rw [List.getElem?_map, List.getElem?_eq_getElem hlt]; rfl))
      clear hcl
      have hk3 : (k : Int) < (D.length : Int) := by omega
      have HT : Hid (D.take (k + 1) = D.take k ++ [D[k]]) := Lib.hid (List.take_succ_eq_append_getElem hlt)
      generalize D[k] = u at *
      have hu3 : mx 0 (mn u 3) = u3 u := rfl
      by_cases h80 : k < 80
      · have hk4 : decide ((k : Int) < 80) = true := by simp; omega
        have e1 : min k 80 = k := by omega
        have e2 : min (k + 1) 80 = k + 1 := by omega
        rw [e1] at HQ
        rw [e1]
        go_wp2_with fail
        refine (msg_any (u3 u) _).mono ?_
        rintro e w2 ⟨rfl, hC⟩
        have HQ2 := Lib.hid (HQ.out.chg hC)
        have HC2 := Lib.hid (HC.out.trans hC)
        clear hC HQ HC
        have hlen : (uq (D.take k)).length = k := by rw [uq_length, List.length_take]; omega
        go_wp2_with fail
        refine (put_msg HQ2.out (u3 u) u (by rw [hlen]; omega) (by rw [hlen]; omega)).mono ?_
        rintro e w4 ⟨rfl, ⟨s4, hq⟩, hk'⟩
        have HQ4 : Hid (QA w4 g w.heap.size 100 0 (uq (D.take (k + 1))) s4) := Lib.hid (by rw [HT.out]; simpa [uq, w3, u3] using hq)
        have HC4 := Lib.hid (Chg.of_kp HC2.out hk')
        clear hq hk' HQ2 HC2
        go_wp2_with fail
        go_roundw
        case rel => exact ⟨k + 1, by omega, by go_num, by rw [e2]; go_num, ⟨s4, by rw [e2]; exact HQ4.out⟩, HC4.out⟩
        case measure => simp [intOf]; omega
      · have hk4 : decide ((k : Int) < 80) = false := by simp; omega
        have e1 : min k 80 = 80 := by omega
        have e2 : min (k + 1) 80 = 80 := by omega
        rw [e1] at HQ
        rw [e1]
        go_wp2_with fail
        go_roundw
        case rel => exact ⟨k + 1, by omega, by go_num, by rw [e2], ⟨s, by rw [e2]; exact HQ.out⟩, HC.out⟩
        case measure => simp [intOf]; omega
    · obtain rfl : k = D.length := by omega
      have hk2 : decide ((D.length : Int) < (D.length : Int)) = false := by simp
      have HU : Hid (Uq 3 (uq (D.take (min D.length 80)))) := Lib.hid (by
        intro p hp
        obtain ⟨u, _, rfl⟩ := List.mem_map.1 hp
        exact ⟨u3 u, rfl, (u3_in u).2⟩)
      have hlen : (uq (D.take (min D.length 80))).length = min D.length 80 := by rw [uq_length, List.length_take]; omega
      generalize uq (D.take (min D.length 80)) = L0 at *
      generalize hm : min D.length 80 = M at *
      have hM : M ≤ 80 := by omega
      clear hm
      go_wp2_with fail
      obtain ⟨wo, rfl⟩ : ∃ wo : World, wo = wr := ⟨_, rfl⟩
      go_loopw [7, 34] (fun x i wr => ∃ (k : Nat) (was : Int) (L : List (Ms × Int)), k ≤ M ∧ i = .int .i64 k ∧ x = .int .i64 was ∧ Uq was L ∧ L.length = M - k ∧ (∃ s, QA wr g w.heap.size 100 0 L s) ∧ Chg NoB w wr) (fun _ i _ => M - (intOf i).toNat)
      case atStart => exact ⟨0, 3, L0, by omega, rfl, rfl, HU.out, by omega, ⟨s, HQ.out⟩, HC.out⟩
      case round =>
        clear HQ HC HU hlen
        obtain ⟨k, was, L, hk, rfl, rfl, hU, hL, ⟨s2, hq⟩, hC⟩ := hrel
        have HQ := Lib.hid hq
        have HC := Lib.hid hC
        clear hq hC
        by_cases hlt : k < M
        · have hk3 : decide ((k : Int) < (M : Int)) = true := by simpa using hlt
          have HU := Lib.hid hU
          clear hU
          go_wp2_with fail
          refine (take_some HQ.out (by omega) (by omega)).mono ?_
          rintro e w2 ⟨⟨b, hb, hB, rfl, s3, hq⟩, hk'⟩
          obtain ⟨x, hx, hxw, hU⟩ := HU.out.take hb hB
          rw [hx]
          have HU2 := Lib.hid hU
          have HQ2 := Lib.hid hq
          have HC2 := Lib.hid (Chg.of_kp HC.out hk')
          have hlen : (L.eraseIdx b).length = M - (k + 1) := by rw [List.length_eraseIdx_of_lt hb]; omega
          have hxw2 : decide (was < x) = false := by simpa using hxw
          clear hU hq hk' HU HQ HC hx hB
          go_wp2_with fail
          go_roundw
          case rel => exact ⟨k + 1, x, _, by omega, by go_num, rfl, HU2.out, hlen, ⟨s3, HQ2.out.chg ((Chg.refl NoB w2).alloc _)⟩, HC2.out.alloc _⟩
          case measure => simp [intOf]; omega
        · obtain rfl : k = M := by omega
          have hk3 : decide ((k : Int) < (k : Int)) = false := by simp
          have hl0 : (L.length : Int) = 0 := by omega
          go_wp2_with fail
          refine (len_any HQ.out).mono ?_
          rintro e w2 ⟨rfl, rfl⟩
          rw [hl0]
          go_wp2_with fail
          refine (awake_any _).mono ?_
          rintro e w4 ⟨rfl, hC⟩
          have HC2 := Lib.hid (HC.out.trans hC)
          clear hC
          go_wp2_with fail
          go_ret
          exact ⟨rfl, HC2.out⟩
theorem queueUrgent_walk (v : Value) (D : List Int) (W : World) (w0 : SliceAt W v 1 D.length (D.map (Value.int .i64)) ∧ ∀ n ∈ D, (Lit.int .i64 n).wf = true) :
    Calls Try.prog 4 #[v] W fun e w' => e = .returned (.bool true) ∧ Below W.heap.size W w' :=
  (queueUrgent_any v D W w0.1).mono fun _ _ ⟨h1, h2⟩ => ⟨h1, h2.below⟩
end Go.Proofs.Ytcefaohdikongaa
