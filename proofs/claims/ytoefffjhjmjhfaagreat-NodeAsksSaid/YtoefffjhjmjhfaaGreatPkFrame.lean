/- slices.Concat of bytes; a table of sums; a frame. No statement is proved here. A record's sum; a frame; a disk, a log that is appended to. No statement is proved here. -/
import Derived.Test.YtoefffjhjmjhfaaGreatOnce
import Derived.Test.YtoefffjhjmjhfaaGreatPkNode
import Derived.Test.YtoefffjhjmjhfaaGreatAppendAll
import Derived.Test.YtoefffjhjmjhfaaGreatBucket
import Derived.Test.YtoefffjhjmjhfaaGreatWire
import Derived.Lib.AppendZeros
import Derived.Deep.AppendLies
namespace Go.Proofs.YtoefffjhjmjhfaaGreat
open Go.RowKit Go.Proofs.YtoefffjhjmjhfaaGreatW.PrintLast
attribute [local go_sem] max2_mx min2_mn max_two_ min_two_
set_option maxRecDepth 100000

theorem own_base_ {w : World} {b1 b2 n k : Nat} {t : TypeId} {v : Value} {xs : List Value} (h : w.ownsRow b1 t k v n xs) (hb : ∀ j, v.ownBlock = some j → b2 ≤ j) : w.ownsRow b2 t k v n xs := by
  obtain ⟨h1, hr⟩ := h
  refine ⟨h1, ?_⟩
  rcases hr with h0 | ⟨g', cap, cur, rfl, _, hrest⟩
  · exact .inl h0
  · exact .inr ⟨g', cap, cur, rfl, hb g' rfl, hrest⟩
theorem Src.st {w w' : World} {v : Value} {m size : Nat} {ys : List Value} (h : Src w v m size ys) (hC : Chg NoB w w') : Src w' v m size ys := by
  rcases h with h | ⟨ad, c, h1, h2, h3⟩
  · exact .inl h
  · exact .inr ⟨ad, c, h1, h2, fun j u hu => (World.cell?_of_block (hC.block _ (cell_lt (h3 j u hu)) id)).trans (h3 j u hu)⟩
/-- slices.Grow of no slice. -/
theorem grow_nil (n : Nat) (w : World) (h0 : 0 < n) (hn : n ≤ 1000000) : Calls Tryz.prog 280 #[.slice none 0 0, .int .i64 n] w fun e w' => (∃ l, e = .returned l ∧ w'.ownsRow w.heap.size 5 1 l 0 []) ∧ Chg NoB w w' := by
  obtain ⟨i9, hi9, z9, s9, y9⟩ := info_parts Tryz.infU8
  have hr := fun ty => Lib.run_append_nil_zeros (P := Tryz.prog) w 47 3 ty 5 i9 (.int .u8 0) .i64 .i64 Tryz.underlying47 Tryz.underlying3 hi9 z9 n h0 (by omega) (by omega) (by rw [y9]; omega)
  have hge := grownCap_ge w n 0 5
  have hle := grownCap_le_maxLen w n 0 5 (by unfold maxLen; omega)
  have HR := Lib.hid hr
  have hpos : (n : Int) > 0 := by omega
  have hneg : ¬ (n : Int) < 0 := by omega
  clear hr
  go_enter Tryz.func280, Tryz.ntmps280
  go_wp2_with (at_builtin; refine Lib.wpList_append_run _ rfl _ _ _ _ rfl _ _ rfl rfl _ _ (HR.out _) ?_)
  generalize hG : grownCap w n 0 5 = G at *
  have HB := Lib.hid ((Blk.new w 5 (Builtin.zeroCells #[Value.int .u8 0] n ++ Builtin.zeroCells #[Value.int .u8 0] (G - n))).drew)
  have hsz : (Builtin.zeroCells #[Value.int .u8 0] n ++ Builtin.zeroCells #[Value.int .u8 0] (G - n)).size = G * 1 := by simp [Builtin.zeroCells]; omega
  have HS := Lib.hid hsz
  have HC : Hid (Chg NoB w ((w.alloc (.cells (Builtin.zeroCells #[Value.int .u8 0] n ++ Builtin.zeroCells #[Value.int .u8 0] (G - n)) 5)).drew)) := Lib.hid ((Chg.al w _).trans (Chg.dr _))
  clear hsz
  go_wp2_with fail
  go_ret
  exact ⟨⟨_, rfl, rfl, .inr ⟨_, G, _, rfl, Nat.le_refl _, HB.out, by omega, hle, HS.out, by simp⟩⟩, HC.out⟩
/-- A piece: its value, its bytes. -/
abbrev Pc := Value × List Value
theorem src_form {w : World} {v : Value} {m size : Nat} {ys : List Value} (h : Src w v m size ys) : ∃ a c, v = .slice a m c := by
  rcases h with ⟨rfl, rfl, _⟩ | ⟨ad, c, rfl, _⟩
  · exact ⟨none, 0, rfl⟩
  · exact ⟨some ad, c, rfl⟩
theorem pc_take {cs : List Pc} {k : Nat} (h : k < cs.length) : (cs.take (k + 1)).flatMap Prod.snd = (cs.take k).flatMap Prod.snd ++ cs[k].2 := by
  rw [List.take_add_one, List.flatMap_append]
  simp [h]
theorem pc_le {cs : List Pc} {k : Nat} (h : k < cs.length) : ((cs.take k).flatMap Prod.snd).length + cs[k].2.length ≤ (cs.flatMap Prod.snd).length := by
  have h1 := congrArg (fun l => (List.flatMap Prod.snd l).length) (List.take_append_drop (k + 1) cs)
  simp only [List.flatMap_append, List.length_append, pc_take h] at h1
  omega
theorem cell_old {w w' : World} {a : Addr} {v : Value} (h : w.cell? a = some v) (hC : Chg NoB w w') : w'.cell? a = some v := (World.cell?_of_block (hC.block _ (cell_lt h) id)).trans h
def tot (cs : List Pc) : Nat := (cs.flatMap Prod.snd).length
set_option maxHeartbeats 4000000 in
theorem concat_any {w : World} (cs : List Pc) {b cap : Nat} (hcell : ∀ i (h : i < cs.length), w.cell? ⟨b, i, none⟩ = some cs[i].1) (hsrc : ∀ c ∈ cs, Src w c.1 c.2.length 1 c.2 ∧ ∀ u ∈ c.2, u.oneCell' = true) (hl : cs.length ≤ 100) (hn : tot cs ≤ 100000) (h0 : 0 < tot cs) :
    Calls Tryz.prog 240 #[.slice (some ⟨b, 0, none⟩) cs.length cap] w fun e w' => (∃ l, e = .returned l ∧ w'.ownsRow w.heap.size 5 1 l (tot cs) (cs.flatMap Prod.snd)) ∧ Chg NoB w w' := by
  obtain ⟨i9, hi9, z9, s9, y9⟩ := info_parts Tryz.infU8
  have HC := Lib.hid hcell
  have HS := Lib.hid hsrc
  have HN := Lib.hid hn
  have H0 := Lib.hid h0
  clear hcell hsrc hn h0
  go_enter Tryz.func240, Tryz.ntmps240
  go_upto_block 0 with fail
  obtain ⟨wo, hwo⟩ : ∃ wo : World, wo = w := ⟨_, rfl⟩
  go_wp2_with fail
  go_loopw [3, 11] (fun n i wr => ∃ k : Nat, k ≤ cs.length ∧ n = .int .i64 (tot (cs.take k)) ∧ i = .int .i64 k ∧ wr = wo) (fun _ i _ => cs.length - (intOf i).toNat)
  case atStart => exact ⟨0, Nat.zero_le _, rfl, rfl, hwo.symm⟩
  case round =>
    obtain ⟨k, hk, rfl, rfl, rfl⟩ := hrel
    subst hwo
    by_cases hlt : k < cs.length
    · have hc := HC.out k hlt
      obtain ⟨a, c, hv⟩ := src_form (HS.out _ (List.getElem_mem hlt)).1
      rw [hv] at hc
      have hle : tot (cs.take k) + cs[k].2.length ≤ 100000 := Nat.le_trans (pc_le hlt) HN.out
      have htk := pc_take hlt
      have hlen : tot (cs.take (k + 1)) = tot (cs.take k) + cs[k].2.length := by unfold tot; rw [htk, List.length_append]
      clear htk hv
      generalize tot (cs.take k) = S at *
      generalize cs[k].2.length = m at *
      have HL := Lib.hid hlen
      have hneg : ¬ ((S : Int) + (m : Int) < 0) := by omega
      clear hlen
      go_wp2_with fail
      go_roundw
      case rel => exact ⟨k + 1, hlt, by rw [HL.out, Int.natCast_add], by go_num, trivial⟩
      case measure => simp [intOf]; omega
    · obtain rfl : k = cs.length := by omega
      have htk : cs.take cs.length = cs := List.take_of_length_le (Nat.le_refl _)
      rw [htk]
      clear htk
      go_wp2_with fail
      refine (grow_nil _ _ H0.out (by have := HN.out; omega)).mono ?_
      rintro e w1 ⟨⟨l, rfl, hown⟩, hC⟩
      have HO := Lib.hid hown
      have HK := Lib.hid hC
      obtain ⟨la, lc, rfl⟩ := (own_form hown).elim fun a h => h.elim fun c h => (⟨a, c, h.1⟩ : ∃ a c, l = .slice a 0 c)
      clear hown hC
      go_upto_block 2 with fail
      go_wp2_with fail
      generalize hwz : wr = wo at *
      have HWZ := Lib.hid hwz
      clear hwz
      go_loopw [6, 27] (fun o i wr => ∃ k : Nat, k ≤ cs.length ∧ i = .int .i64 k ∧ Hid (wr.ownsRow wo.heap.size 5 1 o (tot (cs.take k)) ((cs.take k).flatMap Prod.snd)) ∧ Hid (Chg NoB wo wr)) (fun _ i _ => cs.length - (intOf i).toNat)
      case atStart => exact ⟨0, Nat.zero_le _, rfl, HO, HK⟩
      case round =>
        clear HO HK
        obtain ⟨k, hk, rfl, HO, HK⟩ := hrel
        by_cases hlt : k < cs.length
        · have hc := cell_old (HC.out k hlt) HK.out
          have hS := (HS.out _ (List.getElem_mem hlt)).1.st HK.out
          have h1 := (HS.out _ (List.getElem_mem hlt)).2
          obtain ⟨a, c, hv⟩ := src_form hS
          have hle : tot (cs.take k) + cs[k].2.length ≤ 100000 := Nat.le_trans (pc_le hlt) HN.out
          have htk := pc_take hlt
          have hlen : tot (cs.take (k + 1)) = tot (cs.take k) + cs[k].2.length := by unfold tot; rw [htk, List.length_append]
          generalize cs[k] = z at *
          obtain ⟨v, ys⟩ := z
          dsimp only at *
          subst hv
          have HSr := Lib.hid hS
          have H1 := Lib.hid h1
          have HT := Lib.hid htk
          have HL := Lib.hid hlen
          have HLe := Lib.hid hle
          have hz := HK.out.size
          clear hS h1 htk hlen hle
          go_wp2_with (at_builtin; refine wpList_append_all rfl _ _ _ rfl wo.heap.size 5 i9 _ 1 1 Tryz.underlying47 hi9 z9 s9 y9 rfl (by omega) _ (tot (cs.take k)) ((cs.take k).flatMap Prod.snd) rfl HO.out _ ys.length ys rfl HSr.out H1.out (by have := HLe.out; unfold maxLen; omega) (by have := HLe.out; omega) hz ?_)
          intro v2 w2 hown hgrow hat
          have HO2 := Lib.hid hown
          have HK2 : Hid (Chg NoB wo w2) := Lib.hid (HK.out.then_ (cgrown hgrow) fun j hj hs => by have := (HO.out.lt j hs).1; omega)
          obtain ⟨la2, lc2, rfl⟩ := (own_form hown).elim fun a h => h.elim fun c h => (⟨a, c, h.1⟩ : ∃ a c, v2 = .slice a _ c)
          clear hown hgrow hat
          go_wp2_with fail
          go_roundw
          case rel => exact ⟨k + 1, hlt, by go_num, by rw [HL.out, HT.out]; exact HO2, HK2⟩
          case measure => simp [intOf]; omega
        · obtain rfl : k = cs.length := by omega
          have htk : cs.take cs.length = cs := List.take_of_length_le (Nat.le_refl _)
          rw [htk] at HO
          obtain ⟨la2, lc2, rfl⟩ := (own_form HO.out).elim fun a h => h.elim fun c h => (⟨a, c, h.1⟩ : ∃ a c, u6 = .slice a _ c)
          clear htk
          go_wp2_with fail
          go_ret
          rw [HWZ.out]
          exact ⟨⟨_, rfl, HO.out⟩, HK.out⟩
theorem word_any (n : Int) (w : World) : Calls Tryz.prog 241 #[.int .u32 n] w fun e w' => (∃ zs, e = .returned (.slice (some ⟨w.heap.size, 0, none⟩) 4 4) ∧ Src w' (.slice (some ⟨w.heap.size, 0, none⟩) 4 4) 4 1 (by8 zs) ∧ zs.length = 4) ∧ Chg NoB w w' := by
  go_enter Tryz.func241, Tryz.ntmps241
  go_wp2_with fail
  go_ret
  exact ⟨⟨[_, _, _, _], rfl, src_own (World.ownsRow_lit (base := w.heap.size) w #[_, _, _, _] 4 (Nat.le_refl _) (by decide) rfl), rfl⟩, Chg.al _ _⟩
theorem entry_any (n : Int) (w : World) : Calls Tryz.prog 257 #[.int .i64 n] w fun e w' => (∃ x, e = .returned (.int .u32 x)) ∧ w' = w := by
  go_enter Tryz.func257, Tryz.ntmps257
  go_upto_block 0 with fail
  obtain ⟨wo, hwo⟩ : ∃ wo : World, wo = w := ⟨_, rfl⟩
  go_wp2_with fail
  go_loopw [3, 6] (fun c i wr => ∃ k : Nat, ∃ x : Int, k ≤ 8 ∧ c = .int .u32 x ∧ i = .int .i64 k ∧ wr = wo) (fun _ i _ => 8 - (intOf i).toNat)
  case atStart => exact ⟨0, _, by omega, rfl, rfl, hwo.symm⟩
  case round =>
    obtain ⟨k, x, hk, rfl, rfl, rfl⟩ := hrel
    by_cases hlt : k < 8
    · go_wp2_with fail
      all_goals
        go_roundw
        case rel => exact ⟨k + 1, _, hlt, rfl, by go_num, hwo.symm⟩
        case measure => simp [intOf]; omega
    · go_wp2_with fail
      go_ret
      exact ⟨⟨_, rfl⟩, rfl⟩
theorem Tryz.infU32 : (Tryz.prog.info? 106).map (fun i => (i.zero, i.size, i.bytes)) = some (some (.int .u32 0), 1, 4) := by kernel_rfl
abbrev lzf (d st mk : Int) (l : Value) : Array Value := #[.int .i64 256, .func (.func 257) #[] #[], .int .u32 d, .int .i32 st, .int .u32 0, .int .i64 mk, l]
/-- A table of sums that is being made. -/
structure LF (w0 w : World) (b k : Nat) (xs : List Int) : Prop where
  ex : ∃ l, Blk w b 379 (lzf 0 1 k l) ∧ w.ownsRow w0.heap.size 106 1 l xs.length (xs.map (Value.int .u32))
  chg : Chg (Only b) w0 w
theorem goesV_ {P : Program} {ops : Array Oper} {Q : Exit → Act → World → Prop} {oi : Oper} {N : Option Tmp} {a : Act} {w : World} {K : Act → World → Prop} {f : FuncId} {fn : Func} {o : Operand} {as_ : Array Operand} {ts : Array TypeId} (hf : P.funcs[f]? = some fn) (hname : (fn.name == "runtime.NumGoroutine") = false) (hb : fn.body.isSome = true) (args : Array Value)
    (hw : Region.wanted oi (yielded ops a.tmps) = true) (hN : oi.dst = N) (hop : oi.op = .call { callee := .value o, args := as_, argTypes := ts }) (ho : a.eval o = .func (.func f) #[] #[]) (hargs : as_.map a.eval = args)
    (h : Calls P f args w fun e w' => ∃ v, e = .returned v ∧ K (a.put N v) w') : if Region.wanted oi (yielded ops a.tmps) = true then Oper.wp P oi a w K Q else K (a.put N undef) w := by
  refine call_ f args hw hN ?_ h
  have he := enters_ hf hname hb args w
  unfold execOp
  simp [hop, resolve, Deferred.ofValue, invoke, ho, hargs, he]
theorem func_nil (w : World) : (binOp .eql 355 (.func (.func 257) #[] #[]) .nilFunc).run Tryz.prog w = .ok (.bool false) w := by kernel_rfl
set_option maxHeartbeats 4000000 in
theorem lfill_any {w : World} {b : Nat} (h : Blk w b 379 (lzf 0 1 0 (.slice none 0 0))) :
    Calls Tryz.prog 313 #[.pointer (some ⟨b, 0, none⟩)] w fun e w' => e = .returned (.tuple #[]) ∧ ∃ xs, xs.length = 256 ∧ LF w w' b 256 xs := by
  have hbw := h.lt
  have HR : Hid (LF w w b 0 []) := Lib.hid ⟨⟨_, h, World.ownsRow_nil _ _ _ _⟩, Chg.refl _ _⟩
  have c0 := h.cell 0
  have c1 := h.cell 1
  have hnf := func_nil
  obtain ⟨i9, hi9, z9, s9, y9⟩ := info_parts Tryz.infU32
  clear h
  go_enter Tryz.func313, Tryz.ntmps313
  go_upto_block 0 with fail
  obtain ⟨wo, hwo⟩ : ∃ wo : World, wo = w := ⟨_, rfl⟩
  go_wp2_with fail
  clear c0 c1 hnf
  go_loopw [12] (fun i wr => ∃ k : Nat, k ≤ 256 ∧ i = .int .i64 k ∧ ∃ xs, Hid (xs.length = k) ∧ Hid (LF wo wr b k xs)) (fun i _ => 256 - (intOf i).toNat)
  case atStart => exact ⟨0, by omega, rfl, [], Lib.hid rfl, hwo ▸ HR⟩
  case round =>
    clear HR
    obtain ⟨k, hk, rfl, xs, HL, HR⟩ := hrel
    by_cases hlt : k < 256
    · obtain ⟨⟨l, hB, hO⟩, hC⟩ := HR.out
      obtain ⟨op_, oc, rfl⟩ : ∃ a b, l = .slice a xs.length b := (own_form hO).elim fun a h => h.elim fun b h => ⟨a, b, h.1⟩
      have HB := Lib.hid hB
      have HO := Lib.hid hO
      have HNo : Hid (¬ (Value.slice op_ xs.length oc).ownBlock = some b) := Lib.hid fun hk => by have := (hO.lt b hk).1; rw [hwo] at this; omega
      clear hB hO hC
      go_upto_region 4 with fail
      refine start_ (n := 16) (S := fun w' => w'.cell? ⟨b, 6, none⟩ = some (.slice op_ xs.length oc) ∧ w'.cell? ⟨b, 1, none⟩ = some (.func (.func 257) #[] #[])) (ds := [15]) #[false, false, false, false, false, false, false, false, false, false, false, false, false, false, false, false] (by kernel_rfl) rfl rfl ⟨(HB.out.drew.cell 6), (HB.out.drew.cell 1)⟩ (fun hHeld => ?_)
      refine pure_ (i := 0) (N := some 15) (v := ?_) (a' := ?_) #[true, false, false, false, false, false, false, false, false, false, false, false, false, false, false, false] rfl rfl (by kernel_rfl) (fun _ _ _ h => h) (Or.inl ⟨by rfl, ?_⟩) ?_ ?_
      rotate_left
      · intro w'
        go_simp
        with_reducible rfl
      rotate_left
      · simp only [Act.put, List.setIfInBounds_toArray, List.set_cons_zero, List.set_cons_succ]
        rfl
      refine pure_ (i := 1) (N := some 16) (v := ?_) (a' := ?_) #[true, true, false, false, false, false, false, false, false, false, false, false, false, false, false, false] rfl rfl (by kernel_rfl) (fun _ _ _ h => h) (Or.inl ⟨by rfl, ?_⟩) ?_ ?_
      rotate_left
      · intro w'
        go_simp
        with_reducible rfl
      rotate_left
      · simp only [Act.put, List.setIfInBounds_toArray, List.set_cons_zero, List.set_cons_succ]
        rfl
      refine pure_ (i := 2) (N := some 17) (v := ?_) (a' := ?_) #[true, true, true, false, false, false, false, false, false, false, false, false, false, false, false, false] rfl rfl (by kernel_rfl) (fun _ _ _ h => h) (Or.inl ⟨by rfl, ?_⟩) ?_ ?_
      rotate_left
      · intro w'
        go_simp
        with_reducible rfl
      rotate_left
      · simp only [Act.put, List.setIfInBounds_toArray, List.set_cons_zero, List.set_cons_succ]
        rfl
      refine pure_ (i := 3) (N := some 18) (v := ?_) (a' := ?_) #[true, true, true, true, false, false, false, false, false, false, false, false, false, false, false, false] rfl rfl (by kernel_rfl) (fun _ _ _ h => h) (Or.inl ⟨by rfl, ?_⟩) ?_ ?_
      rotate_left
      · intro w'
        go_simp
        with_reducible rfl
      rotate_left
      · simp only [Act.put, List.setIfInBounds_toArray, List.set_cons_zero, List.set_cons_succ]
        rfl
      refine pure_ (i := 5) (N := some 20) (v := ?_) (a' := ?_) #[true, true, true, true, false, true, false, false, false, false, false, false, false, false, false, false] rfl rfl (by kernel_rfl) (fun _ _ _ h => h) (Or.inl ⟨by rfl, ?_⟩) ?_ ?_
      rotate_left
      · intro w'
        go_simp
        with_reducible rfl
      rotate_left
      · simp only [Act.put, List.setIfInBounds_toArray, List.set_cons_zero, List.set_cons_succ]
        rfl
      refine pure_ (i := 6) (N := some 21) (v := ?_) (a' := ?_) #[true, true, true, true, false, true, true, false, false, false, false, false, false, false, false, false] rfl rfl (by kernel_rfl) (fun _ _ _ h => h) (Or.inl ⟨by rfl, ?_⟩) ?_ ?_
      rotate_left
      · intro w'
        go_simp
        with_reducible rfl
      rotate_left
      · simp only [Act.put, List.setIfInBounds_toArray, List.set_cons_zero, List.set_cons_succ]
        rfl
      refine pure_ (i := 7) (N := some 22) (v := ?_) (a' := ?_) #[true, true, true, true, false, true, true, true, false, false, false, false, false, false, false, false] rfl rfl (by kernel_rfl) (fun _ _ _ h => h) (Or.inl ⟨by rfl, ?_⟩) ?_ ?_
      rotate_left
      · intro w'
        go_simp
        with_reducible rfl
      rotate_left
      · simp only [Act.put, List.setIfInBounds_toArray, List.set_cons_zero, List.set_cons_succ]
        rfl
      refine pure_ (i := 9) (N := some 24) (v := ?_) (a' := ?_) #[true, true, true, true, false, true, true, true, false, true, false, false, false, false, false, false] rfl rfl (by kernel_rfl) (fun _ _ _ h => h) (Or.inl ⟨by rfl, ?_⟩) ?_ ?_
      rotate_left
      · intro w'
        go_simp
        with_reducible rfl
      rotate_left
      · simp only [Act.put, List.setIfInBounds_toArray, List.set_cons_zero, List.set_cons_succ]
        rfl
      refine take_ (i := 4) (N := some 19) (v := ?_) (a' := ?_) #[true, true, true, true, true, true, true, true, false, true, false, false, false, false, false, false] rfl rfl (by kernel_rfl) (fun _ _ _ h => h) (Or.inl ⟨by rfl, ?_⟩) hHeld ?_ ?_
      rotate_left
      · rintro w' ⟨s0, s1⟩
        go_simp
        with_reducible rfl
      rotate_left
      · simp only [Act.put, List.setIfInBounds_toArray, List.set_cons_zero, List.set_cons_succ]
        rfl
      refine take_ (i := 8) (N := some 23) (v := ?_) (a' := ?_) #[true, true, true, true, true, true, true, true, true, true, false, false, false, false, false, false] rfl rfl (by kernel_rfl) (fun _ _ _ h => h) (Or.inl ⟨by rfl, ?_⟩) hHeld ?_ ?_
      rotate_left
      · rintro w' ⟨s0, s1⟩
        go_simp
        with_reducible rfl
      rotate_left
      · simp only [Act.put, List.setIfInBounds_toArray, List.set_cons_zero, List.set_cons_succ]
        rfl
      refine one_ (i := 10) (N := some 25) #[true, true, true, true, true, true, true, true, true, true, true, false, false, false, false, false] rfl rfl (by kernel_rfl) (by decide) (fun K hK => ?_)
      refine goesV_ Tryz.func257 (by kernel_rfl) rfl #[.int .i64 k] (by rfl) rfl rfl (by rfl) (by simp only [List.map_toArray, List.map_cons, List.map_nil]; rfl) ?_
      with_reducible refine (entry_any k _).mono ?_
      rintro e wp ⟨⟨x, rfl⟩, hwp⟩
      refine ⟨_, rfl, ?_⟩
      subst hwp
      refine hK.out _ _ ⟨(HB.out.drew.cell 6), (HB.out.drew.cell 1)⟩ (fun hHeld => ?_)
      clear hK K
      refine norm_ (a' := ?_) ?_ ?_
      rotate_left
      · show Act.put _ (some 25) _ = _
        simp only [Act.put, List.setIfInBounds_toArray, List.set_cons_zero, List.set_cons_succ]
        rfl
      refine one_ (i := 11) (N := some 26) #[true, true, true, true, true, true, true, true, true, true, true, true, false, false, false, false] rfl rfl (by kernel_rfl) (by decide) (fun K hK => ?_)
      refine value_ (w1 := ?_) (v := ?_) (by rfl) rfl ?_ ?_
      rotate_left 2
      · go_simp
        constructor
        · rfl
        · rfl
      refine hK.out _ _ ⟨((HB.out.drew.alloc _).cell 6), ((HB.out.drew.alloc _).cell 1)⟩ (fun hHeld => ?_)
      clear hK K
      refine norm_ (a' := ?_) ?_ ?_
      rotate_left
      · show Act.put _ (some 26) _ = _
        simp only [Act.put, List.setIfInBounds_toArray, List.set_cons_zero, List.set_cons_succ]
        rfl
      refine one_ (i := 12) (N := some 27) #[true, true, true, true, true, true, true, true, true, true, true, true, true, false, false, false] rfl rfl (by kernel_rfl) (by decide) (fun K hK => ?_)
      refine step_append_lies _ (by rfl) _ _ _ (by rfl) wo.heap.size 106 i9 _ 1 4 Tryz.underlying377 hi9 z9 s9 y9 rfl (by omega) (.slice op_ xs.length oc) xs.length (xs.map (Value.int .u32)) (by rfl) (World.ownsRow.alloc HO.out.drew _)
        ⟨wr.heap.size, 0, none⟩ 1 1 [.int .u32 x] (by rfl) (by rfl) (World.news_of_block (cs := #[.int .u32 x]) (t := 106) (fr := (0, 0)) (heap_alloc_new wr.drew _)) (by intro v hv; rw [List.mem_singleton.1 hv]; rfl) (by omega) (by have := HL.out; unfold maxLen; omega) (by have := HL.out; omega) (by have := HR.out.chg.size; simp at this ⊢; omega) (wr.heap.size + 1) (by simp) ?_
      intro g3 cap3 w5 hown hgrow hat hlt5
      have HO5 := Lib.hid hown
      have HC5 := Lib.hid (grow_chg hgrow)
      have HA5 := Lib.hid hat
      have HB5 := Lib.hid ((HB.out.drew.alloc (Obj.cells #[.int .u32 x] 106)).chg HC5.out HNo.out)
      clear hown hgrow hat
      have fk := HB5.out.frozen 6
      refine hK.out _ _ ⟨(HB5.out.cell 6), (HB5.out.cell 1)⟩ (fun hHeld => ?_)
      clear hK K
      refine norm_ (a' := ?_) ?_ ?_
      rotate_left
      · show Act.put _ (some 27) _ = _
        simp only [Act.put, List.setIfInBounds_toArray, List.set_cons_zero, List.set_cons_succ]
        rfl
      refine pure_ (i := 13) (N := some 28) (v := ?_) (a' := ?_) #[true, true, true, true, true, true, true, true, true, true, true, true, true, true, false, false] rfl rfl (by kernel_rfl) (fun _ _ _ h => h) (Or.inl ⟨by rfl, ?_⟩) ?_ ?_
      rotate_left
      · intro w'
        go_simp
        with_reducible rfl
      rotate_left
      · simp only [Act.put, List.setIfInBounds_toArray, List.set_cons_zero, List.set_cons_succ]
        rfl
      refine pure_ (i := 14) (N := some 29) (v := ?_) (a' := ?_) #[true, true, true, true, true, true, true, true, true, true, true, true, true, true, true, false] rfl rfl (by kernel_rfl) (fun _ _ _ h => h) (Or.inl ⟨by rfl, ?_⟩) ?_ ?_
      rotate_left
      · intro w'
        go_simp
        with_reducible rfl
      rotate_left
      · simp only [Act.put, List.setIfInBounds_toArray, List.set_cons_zero, List.set_cons_succ]
        rfl
      refine last_ (i := 15) (N := none) #[true, true, true, true, true, true, true, true, true, true, true, true, true, true, true, true] rfl rfl (by kernel_rfl) (by decide) (fun K hK => ?_)
      refine skip_ (w1 := ?_) (by rfl) rfl ?_ ?_
      rotate_left
      · go_simp
        rfl
      refine hK.out _ _ ?_
      clear hK K
      refine done_ (by kernel_rfl) ?_
      go_wp2_with fail
      have HB6 := Lib.hid (HB5.out.set_ 6 (.slice (some ⟨g3, 0, none⟩) (xs.length + 1) cap3))
      refine (atomic_add b 5 k 1 _ (HB6.out.cell 5) (HB6.out.frozen 5) (by omega) (by omega)).mono ?_
      rintro e w' ⟨rfl, hw⟩
      subst hw
      go_wp2_with fail
      go_roundw
      case rel =>
        refine ⟨k + 1, hlt, by go_num, xs ++ [x], Lib.hid (by rw [List.length_append, List.length_singleton, HL.out]), Lib.hid ⟨⟨_, HB6.out.set_ 5 _, ?_⟩, ?_⟩⟩
        · rw [List.length_append, List.length_singleton, List.map_append]
          exact own_chg HO5.out (((Chg.refl (Only b) w5).setOwn 6 _).setOwn 5 _) fun k hk => by have := (HO5.out.lt k hk).1; rw [hwo] at this; unfold Only; omega
        · exact (((HR.out.chg.drew.alloc _).then_ HC5.out fun j hj hs => by have := (HO.out.lt j hs).1; omega).setOwn 6 _).setOwn 5 _
      case measure => simp [intOf]; omega
    · obtain rfl : k = 256 := by omega
      go_wp2_with fail
      go_end0
      exact ⟨rfl, xs, HL.out, hwo ▸ HR.out⟩
/-- A table of sums: as it is made, or made. -/
def TS (w : World) (b : Nat) : Prop := Blk w b 379 lzc ∨ ∃ (l : Value) (xs : List Int), Blk w b 379 (lzf 1 0 256 l) ∧ w.ownsRow (b + 1) 106 1 l xs.length (xs.map (Value.int .u32)) ∧ xs.length = 256
section
variable {w w' : World} {b : Nat}
theorem TS.st (h : TS w b) (hC : Chg NoB w w') : TS w' b := by
  rcases h with h | ⟨l, xs, h1, h2, h3⟩
  · exact .inl (h.st hC)
  · exact .inr ⟨l, xs, h1.st hC, own_chg h2 hC fun _ _ => id, h3⟩
theorem TS.len (h : TS w b) : w.cell? ⟨b, 0, none⟩ = some (.int .i64 256) := by
  rcases h with h | ⟨l, xs, h1, _⟩
  · exact h.cell 0
  · exact h1.cell 0
theorem once_lazy (h : TS w b) : Calls Tryz.prog 153 #[.pointer (some ⟨b, 2, none⟩), .func (.func 313) #[.pointer (some ⟨b, 0, none⟩)] #[]] w fun e w' => e = .returned (.tuple #[]) ∧ (∃ (l : Value) (xs : List Int), Blk w' b 379 (lzf 1 0 256 l) ∧ w'.ownsRow (b + 1) 106 1 l xs.length (xs.map (Value.int .u32)) ∧ xs.length = 256) ∧ Chg (Only b) w w' := by
  rcases h with h | ⟨l, xs, hB, hO, hl⟩
  · refine (once_first b 2 w (fun w2 => ∃ xs, xs.length = 256 ∧ LF (w.setCell ⟨b, 3, none⟩ (.int .i32 1)) w2 b 256 xs) (h.cell 2) (h.cell 3) (h.frozen 3) ?_ (fun w => enters_of Tryz.func313 (by kernel_rfl) rfl _ w)).mono ?_
    · refine (lfill_any (h.set_ 3 (.int .i32 1))).mono ?_
      rintro e w2 ⟨he, xs, hl, hR⟩
      obtain ⟨l, hB, _⟩ := hR.ex
      exact ⟨he, ⟨xs, hl, hR⟩, hB.cell 2, hB.cell 3, hB.frozen 2, hB.frozen 3⟩
    · rintro e w' ⟨he, w2, ⟨xs, hl, hR⟩, rfl⟩
      obtain ⟨l, hB, hO⟩ := hR.ex
      have hz : (w.setCell ⟨b, 3, none⟩ (.int .i32 1)).heap.size = w.heap.size := by simp
      rw [hz] at hO
      have hb : b < w.heap.size := h.lt
      have hown := own_chg hO (((Chg.refl (Only b) w2).drew.setOwn 2 (.int .u32 1)).setOwn 3 (.int .i32 0)) fun k hk => by have := (hO.lt k hk).1; unfold Only; omega
      exact ⟨he, ⟨l, xs, (hB.drew.set_ 2 _).set_ 3 _, own_base_ hown fun k hk => by have := (hO.lt k hk).1; omega, hl⟩, ((((Chg.refl (Only b) w).setOwn 3 _).trans hR.chg).drew.setOwn 2 _).setOwn 3 _⟩
  · refine (once_done ⟨b, 2, none⟩ 1 (by decide) _ _ w (hB.cell 2)).mono ?_
    rintro e w' ⟨he, rfl⟩
    exact ⟨he, ⟨l, xs, hB, hO, hl⟩, Chg.refl _ _⟩
theorem llen_any (h : TS w b) : Calls Tryz.prog 312 #[.pointer (some ⟨b, 0, none⟩)] w fun e w' => e = .returned (.int .i64 256) ∧ w' = w := by
  have c0 := h.len
  clear h
  go_enter Tryz.func312, Tryz.ntmps312
  go_wp2_with fail
  go_ret
  exact ⟨rfl, rfl⟩
set_option maxHeartbeats 4000000 in
theorem at_any (h : TS w b) (i : Int) : Calls Tryz.prog 294 #[.pointer (some ⟨b, 0, none⟩), .int .i64 i] w fun e w' => (∃ x, e = .returned (.int .u32 x)) ∧ TS w' b ∧ Chg (Only b) w w' := by
  have HT := Lib.hid h
  clear h
  by_cases h1 : i < 0
  · go_enter Tryz.func294, Tryz.ntmps294
    go_wp2_with fail
    go_ret
    exact ⟨⟨_, rfl⟩, HT.out, Chg.refl _ _⟩
  · by_cases h2 : i ≥ 256
    · go_enter Tryz.func294, Tryz.ntmps294
      go_wp2_with fail
      refine (llen_any HT.out).mono ?_
      rintro e w1 ⟨rfl, hw⟩
      subst hw
      go_wp2_with fail
      go_ret
      exact ⟨⟨_, rfl⟩, HT.out, Chg.refl _ _⟩
    · obtain ⟨n, rfl⟩ : ∃ n : Nat, i = (n : Int) := ⟨i.toNat, by omega⟩
      go_enter Tryz.func294, Tryz.ntmps294
      go_wp2_with fail
      refine (llen_any HT.out).mono ?_
      rintro e w1 ⟨rfl, hw⟩
      subst hw
      go_wp2_with fail
      refine (once_lazy HT.out).mono ?_
      rintro e w2 ⟨rfl, ⟨l, xs, hB, hO, hl⟩, hC⟩
      obtain ⟨p_, cap, rfl, _, _, hf⟩ := own_form hO
      obtain ⟨gl, rfl, _, _, hcl⟩ := hf (by omega)
      have hn : n < xs.length := by omega
      have hc := (hcl n (by omega)).1
      rw [List.getElem?_map, List.getElem?_eq_getElem hn, Option.map_some] at hc
      have HE : Hid (TS w2 b ∧ Chg (Only b) w1 w2) := Lib.hid ⟨.inr ⟨_, xs, hB, hO, hl⟩, hC⟩
      have c6 := hB.cell 6
      rw [hl] at c6
      generalize xs[n] = x at *
      clear hB hO hC hcl hf hl hn
      go_wp2_with fail
      go_ret
      exact ⟨⟨_, rfl⟩, HE.out⟩
end
end Go.Proofs.YtoefffjhjmjhfaaGreat
namespace Go.Proofs.YtoefffjhjmjhfaaGreat
open Go.RowKit Go.Proofs.YtoefffjhjmjhfaaGreatW.PrintLast
attribute [local go_sem] max2_mx min2_mn max_two_ min_two_
set_option maxRecDepth 100000

theorem own_type_ {w : World} {base n k : Nat} {t : TypeId} {s : Value} {xs : List Value} (h : w.ownsRow base t k s n xs) {j : Nat} (hj : s.ownBlock = some j) : ∃ cur, Blk w j t cur := by
  obtain ⟨_, hr⟩ := h
  rcases hr with ⟨rfl, _⟩ | ⟨g', cap, cur, rfl, _, hB, _⟩
  · cases hj
  · cases hj; exact ⟨cur, hB⟩
section
variable {w w' : World} {b : Nat} {most sure : Int} {zs : List Int} {s : Value} {S : Nat → Prop}
theorem TS.blk (h : TS w b) : ∃ cs, Blk w b 379 cs := by
  rcases h with h | ⟨l, xs, h1, _⟩
  · exact ⟨_, h⟩
  · exact ⟨_, h1⟩
theorem own_not {w : World} {base n k g : Nat} {t t' : TypeId} {s : Value} {xs : List Value} {cs : Array Value} (h : w.ownsRow base t k s n xs) (hB : Blk w g t' cs) (ht : t ≠ t') {j : Nat} (hj : s.ownBlock = some j) : j ≠ g := by
  obtain ⟨cur, h1⟩ := own_type_ h hj
  exact Blk.ne_ h1 hB ht
set_option maxHeartbeats 4000000 in
theorem lsum_any (h : TS w b) {base : Nat} {zs : List Int} {v : Value} (hv : w.ownsRow base 5 1 v zs.length (by8 zs)) (hl : zs.length ≤ 1000000) :
    Calls Tryz.prog 258 #[.pointer (some ⟨b, 0, none⟩), v] w fun e w' => (∃ x, e = .returned (.int .u32 x)) ∧ TS w' b ∧ Chg (Only b) w w' := by
  obtain ⟨p, cap, rfl, _, _, hf⟩ := own_form hv
  obtain ⟨cs, hB⟩ := h.blk
  have HT := Lib.hid h
  have HF := Lib.hid hf
  have HNE := Lib.hid (fun (j : Nat) (hj : (Value.slice p zs.length cap).ownBlock = some j) => own_not hv hB (by decide) hj)
  clear hf hv hB h
  go_enter Tryz.func258, Tryz.ntmps258
  go_upto_block 0 with fail
  obtain ⟨wo, hwo⟩ : ∃ wo : World, wo = w := ⟨_, rfl⟩
  rw [← hwo] at HT HF
  go_wp2_with fail
  go_loopw [5, 10] (fun c i wr => ∃ k : Nat, ∃ x : Int, k ≤ zs.length ∧ c = .int .u32 x ∧ i = .int .i64 k ∧ Hid (TS wr b) ∧ Hid (Chg (Only b) wo wr)) (fun _ i _ => zs.length - (intOf i).toNat)
  case atStart => exact ⟨0, _, by omega, rfl, rfl, by rw [← hwo]; exact HT, Lib.hid (by rw [← hwo]; exact Chg.refl _ _)⟩
  case round =>
    clear HT
    obtain ⟨k, x, hk, rfl, rfl, HT, HC⟩ := hrel
    by_cases hlt : k < zs.length
    · obtain ⟨gv, rfl, hg1, _, hcl⟩ := HF.out (by omega)
      have hne : gv ≠ b := HNE.out gv rfl
      have hc : wr.cell? ⟨gv, k, none⟩ = some (.int .u8 zs[k]) := (World.cell?_of_block (HC.out.block gv hg1 hne)).trans ((hcl k (by omega)).1.trans (by simp [by8, hlt]))
      generalize zs[k] = z at *
      clear hcl
      go_wp2_with fail
      refine (at_any HT.out _).mono ?_
      rintro e w2 ⟨⟨y, rfl⟩, hT, hC⟩
      have HT2 := Lib.hid hT
      have HC2 := Lib.hid (HC.out.trans hC)
      clear hT hC hc
      go_wp2_with fail
      go_roundw
      case rel => exact ⟨k + 1, _, hlt, rfl, by go_num, HT2, HC2⟩
      case measure => simp [intOf]; omega
    · go_wp2_with fail
      go_ret
      exact ⟨⟨_, rfl⟩, HT.out, hwo ▸ HC.out⟩
theorem fsum_any (h : TS w b) {base : Nat} {zs : List Int} {v : Value} (hv : w.ownsRow base 5 1 v zs.length (by8 zs)) (hl : zs.length ≤ 1000000) :
    Calls Tryz.prog 210 #[.agg #[.pointer (some ⟨b, 0, none⟩)], v] w fun e w' => (∃ x, e = .returned (.int .u32 x)) ∧ TS w' b ∧ Chg (Only b) w w' := by
  obtain ⟨p, cap, rfl, _⟩ := own_form hv
  have hC0 := Chg.al w (.cells #[.pointer (some ⟨b, 0, none⟩)] 259)
  have HS := Lib.hid (lsum_any (h.st hC0) (own_chg hv hC0 fun _ _ => id) hl)
  have HC0 := Lib.hid hC0
  clear hC0 h hv
  go_enter Tryz.func210, Tryz.ntmps210
  go_wp2_with fail
  refine HS.out.mono ?_
  rintro e w1 ⟨⟨x, rfl⟩, hT, hC⟩
  have HT := Lib.hid hT
  have HC := Lib.hid ((Chg.of_no HC0.out).trans hC)
  clear hT hC
  go_wp2_with fail
  go_ret
  exact ⟨⟨_, rfl⟩, HT.out, HC.out⟩
set_option maxHeartbeats 4000000 in
theorem fput_any {base : Nat} {zs : List Int} {v : Value} (hv : w.ownsRow base 5 1 v zs.length (by8 zs)) (hl : zs.length ≤ 60000) :
    Calls Tryz.prog 190 #[.slice none 0 0, v] w fun e w' => (∃ l ys, e = .returned (.tuple #[l, .int .i64 0]) ∧ w'.ownsRow w.heap.size 5 1 l ys.length (by8 ys) ∧ ys.length = zs.length + 8) ∧ Chg NoB w w' := by
  obtain ⟨p, cap, rfl, _⟩ := own_form hv
  have HV := Lib.hid hv
  clear hv
  go_enter Tryz.func190, Tryz.ntmps190
  go_wp2_with fail
  refine (word_any _ _).mono ?_
  rintro e w1 ⟨⟨z1, rfl, hs1, hz1⟩, hC1⟩
  have HS1 := Lib.hid hs1
  have HC1 := Lib.hid hC1
  clear hs1 hC1
  go_wp2_with fail
  refine (fpoly_any _).mono ?_
  rintro e w2 ⟨⟨b, rfl, hB, hb⟩, hC2⟩
  have HB2 := Lib.hid hB
  have HC2 := Lib.hid hC2
  clear hB hC2
  go_wp2_with fail
  refine (fsum_any (.inl HB2.out) (own_chg HV.out (HC1.out.trans HC2.out) fun _ _ => id) (by omega)).mono ?_
  rintro e w3_ ⟨⟨x, rfl⟩, _, hC3⟩
  have HC3 : Hid (Chg NoB w1 w3_) := Lib.hid (HC2.out.then_ hC3 fun j hj hs => by unfold Only at hs; omega)
  clear hC3
  go_wp2_with fail
  refine (word_any _ _).mono ?_
  rintro e w4 ⟨⟨z2, rfl, hs2, hz2⟩, hC4⟩
  have HS2 := Lib.hid hs2
  have HC4 := Lib.hid (HC3.out.trans hC4)
  clear hs2 hC4
  go_wp2_with fail
  have hA := Chg.al w4 (.cells #[.slice none 0 0, .slice (some ⟨w.heap.size, 0, none⟩) 4 4, .slice (some ⟨w3_.heap.size, 0, none⟩) 4 4, .slice p zs.length cap] 47)
  have BB := Blk.new w4 47 #[.slice none 0 0, .slice (some ⟨w.heap.size, 0, none⟩) 4 4, .slice (some ⟨w3_.heap.size, 0, none⟩) 4 4, .slice p zs.length cap]
  have e1 : (by8 z1).length = 4 := by rw [by8_length, hz1]
  have e2 : (by8 z2).length = 4 := by rw [by8_length, hz2]
  have e3 : (by8 zs).length = zs.length := by8_length _
  have hcc := concat_any (w := w4.alloc (.cells #[.slice none 0 0, .slice (some ⟨w.heap.size, 0, none⟩) 4 4, .slice (some ⟨w3_.heap.size, 0, none⟩) 4 4, .slice p zs.length cap] 47)) [(.slice none 0 0, []), (.slice (some ⟨w.heap.size, 0, none⟩) 4 4, by8 z1), (.slice (some ⟨w3_.heap.size, 0, none⟩) 4 4, by8 z2), (.slice p zs.length cap, by8 zs)] (b := w4.heap.size) (cap := 4)
    (fun i hi => by
      simp only [List.length_cons, List.length_nil] at hi
      rcases (by omega : i = 0 ∨ i = 1 ∨ i = 2 ∨ i = 3) with rfl | rfl | rfl | rfl
      · exact BB.cell 0
      · exact BB.cell 1
      · exact BB.cell 2
      · exact BB.cell 3)
    (fun c hc => by
      simp only [List.mem_cons, List.mem_nil_iff, or_false] at hc
      rcases hc with rfl | rfl | rfl | rfl
      · exact ⟨.inl ⟨rfl, rfl, rfl⟩, fun u hu => by cases hu⟩
      · exact ⟨by rw [e1]; exact (HS1.out.st (HC4.out.trans hA)), by8_one _⟩
      · exact ⟨by rw [e2]; exact HS2.out.st hA, by8_one _⟩
      · exact ⟨by rw [e3]; exact src_own (own_chg HV.out ((HC1.out.trans HC4.out).trans hA) fun _ _ => id), by8_one _⟩)
    (by simp) (by simp [tot, e1, e2, e3]; omega) (by simp [tot, e1, e2, e3]; omega)
  have HCC := Lib.hid hcc
  have HA := Lib.hid ((HC1.out.trans HC4.out).trans hA)
  clear hcc hA BB
  refine HCC.out.mono ?_
  rintro e w5 ⟨⟨l, rfl, hown⟩, hC5⟩
  have HO := Lib.hid hown
  have HC5 := Lib.hid (HA.out.trans hC5)
  have hz := HA.out.size
  obtain ⟨lp, lc, rfl⟩ := (own_form hown).elim fun a h => h.elim fun c h => (⟨a, c, h.1⟩ : ∃ a c, l = .slice a _ c)
  clear hown hC5
  go_wp2_with fail
  go_ret2
  refine ⟨⟨_, z1 ++ z2 ++ zs, rfl, ?_, by simp [hz1, hz2]; omega⟩, HC5.out⟩
  have h5 := own_base_ (b2 := w.heap.size) HO.out fun j hj => by have := (HO.out.lt j hj).1; omega
  have e4 : List.flatMap Prod.snd [((.slice none 0 0 : Value), ([] : List Value)), (.slice (some ⟨w.heap.size, 0, none⟩) 4 4, by8 z1), (.slice (some ⟨w3_.heap.size, 0, none⟩) 4 4, by8 z2), (.slice p zs.length cap, by8 zs)] = by8 (z1 ++ z2 ++ zs) := by simp [by8]
  have e5 : tot [((.slice none 0 0 : Value), ([] : List Value)), (.slice (some ⟨w.heap.size, 0, none⟩) 4 4, by8 z1), (.slice (some ⟨w3_.heap.size, 0, none⟩) 4 4, by8 z2), (.slice p zs.length cap, by8 zs)] = (z1 ++ z2 ++ zs).length := by unfold tot; rw [e4, by8_length]
  rw [e4] at h5
  simp only [e5] at h5 ⊢
  exact h5
theorem DA.chg (h : DA w b most zs sure s) (hC : Chg S w w') (h1 : ¬ S b) (h2 : ∀ k, s.ownBlock = some k → ¬ S k) : DA w' b most zs sure s := ⟨h.blk.chg hC h1, own_chg h.own hC h2⟩
set_option maxHeartbeats 4000000 in
theorem dappend_any (h : DA w b most zs sure s) {base : Nat} {ys : List Int} {v : Value} (hv : w.ownsRow base 5 1 v ys.length (by8 ys)) (hl : (ys.length : Int) ≤ most - zs.length) (hm : most ≤ 1048576) :
    Calls Tryz.prog 191 #[.pointer (some ⟨b, 0, none⟩), v] w fun e w' => e = .returned (.int .i64 0) ∧ (∃ s', DA w' b most (zs ++ ys) sure s') ∧ Chg (WS b s) w w' := by
  obtain ⟨p, cap, rfl, _⟩ := own_form hv
  obtain ⟨sp, sc, rfl, _⟩ := own_form h.own
  obtain ⟨i9, hi9, z9, s9, y9⟩ := info_parts Tryz.infU8
  have HV := Lib.hid hv
  have HD := Lib.hid h
  have hb := h.blk.lt
  have hsub : IntKind.i64.wrap (most - (zs.length : Int)) = most - zs.length := by rw [IntKind.wrap_i64]; omega
  have hno : ¬ (most - (zs.length : Int) < ys.length) := by omega
  have HNo : Hid (¬ (Value.slice sp zs.length sc).ownBlock = some b) := Lib.hid fun hk => by have := (h.own.lt b hk).1; omega
  clear hv h
  go_enter Tryz.func191, Tryz.ntmps191
  go_upto_region 3 with fail
  refine start_ (n := 14) (S := fun w' => w'.cell? ⟨b, 0, none⟩ = some (.int .i64 most) ∧ w'.cell? ⟨b, 1, none⟩ = some (.slice sp zs.length sc)) (ds := []) #[false, false, false, false, false, false, false, false, false, false, false, false, false, false] (by kernel_rfl) rfl rfl ⟨(HD.out.blk.drew.cell 0), (HD.out.blk.drew.cell 1)⟩ (fun hHeld => ?_)
  refine pure_ (i := 0) (N := some 9) (v := ?_) (a' := ?_) #[true, false, false, false, false, false, false, false, false, false, false, false, false, false] rfl rfl (by kernel_rfl) (fun _ _ _ h => h) (Or.inl ⟨by rfl, ?_⟩) ?_ ?_
  rotate_left
  · intro w'
    go_simp
    with_reducible rfl
  rotate_left
  · simp only [Act.put, List.setIfInBounds_toArray, List.set_cons_zero, List.set_cons_succ]
    rfl
  refine pure_ (i := 1) (N := some 10) (v := ?_) (a' := ?_) #[true, true, false, false, false, false, false, false, false, false, false, false, false, false] rfl rfl (by kernel_rfl) (fun _ _ _ h => h) (Or.inl ⟨by rfl, ?_⟩) ?_ ?_
  rotate_left
  · intro w'
    go_simp
    with_reducible rfl
  rotate_left
  · simp only [Act.put, List.setIfInBounds_toArray, List.set_cons_zero, List.set_cons_succ]
    rfl
  refine pure_ (i := 2) (N := some 11) (v := ?_) (a' := ?_) #[true, true, true, false, false, false, false, false, false, false, false, false, false, false] rfl rfl (by kernel_rfl) (fun _ _ _ h => h) (Or.inl ⟨by rfl, ?_⟩) ?_ ?_
  rotate_left
  · intro w'
    go_simp
    with_reducible rfl
  rotate_left
  · simp only [Act.put, List.setIfInBounds_toArray, List.set_cons_zero, List.set_cons_succ]
    rfl
  refine pure_ (i := 3) (N := some 12) (v := ?_) (a' := ?_) #[true, true, true, true, false, false, false, false, false, false, false, false, false, false] rfl rfl (by kernel_rfl) (fun _ _ _ h => h) (Or.inl ⟨by rfl, ?_⟩) ?_ ?_
  rotate_left
  · intro w'
    go_simp
    with_reducible rfl
  rotate_left
  · simp only [Act.put, List.setIfInBounds_toArray, List.set_cons_zero, List.set_cons_succ]
    rfl
  refine pure_ (i := 4) (N := some 13) (v := ?_) (a' := ?_) #[true, true, true, true, true, false, false, false, false, false, false, false, false, false] rfl rfl (by kernel_rfl) (fun _ _ _ h => h) (Or.inl ⟨by rfl, ?_⟩) ?_ ?_
  rotate_left
  · intro w'
    go_simp
    with_reducible rfl
  rotate_left
  · simp only [Act.put, List.setIfInBounds_toArray, List.set_cons_zero, List.set_cons_succ]
    rfl
  refine pure_ (i := 6) (N := some 15) (v := ?_) (a' := ?_) #[true, true, true, true, true, false, true, false, false, false, false, false, false, false] rfl rfl (by kernel_rfl) (fun _ _ _ h => h) (Or.inl ⟨by rfl, ?_⟩) ?_ ?_
  rotate_left
  · intro w'
    go_simp
    with_reducible rfl
  rotate_left
  · simp only [Act.put, List.setIfInBounds_toArray, List.set_cons_zero, List.set_cons_succ]
    rfl
  refine pure_ (i := 7) (N := some 16) (v := ?_) (a' := ?_) #[true, true, true, true, true, false, true, true, false, false, false, false, false, false] rfl rfl (by kernel_rfl) (fun _ _ _ h => h) (Or.inl ⟨by rfl, ?_⟩) ?_ ?_
  rotate_left
  · intro w'
    go_simp
    with_reducible rfl
  rotate_left
  · simp only [Act.put, List.setIfInBounds_toArray, List.set_cons_zero, List.set_cons_succ]
    rfl
  refine pure_ (i := 8) (N := some 17) (v := ?_) (a' := ?_) #[true, true, true, true, true, false, true, true, true, false, false, false, false, false] rfl rfl (by kernel_rfl) (fun _ _ _ h => h) (Or.inl ⟨by rfl, ?_⟩) ?_ ?_
  rotate_left
  · intro w'
    go_simp
    with_reducible rfl
  rotate_left
  · simp only [Act.put, List.setIfInBounds_toArray, List.set_cons_zero, List.set_cons_succ]
    rfl
  refine take_ (i := 5) (N := some 14) (v := ?_) (a' := ?_) #[true, true, true, true, true, true, true, true, true, false, false, false, false, false] rfl rfl (by kernel_rfl) (fun _ _ _ h => h) (Or.inl ⟨by rfl, ?_⟩) hHeld ?_ ?_
  rotate_left
  · rintro w' ⟨s0, s1⟩
    go_simp
    with_reducible rfl
  rotate_left
  · simp only [Act.put, List.setIfInBounds_toArray, List.set_cons_zero, List.set_cons_succ]
    rfl
  refine take_ (i := 9) (N := some 18) (v := ?_) (a' := ?_) #[true, true, true, true, true, true, true, true, true, true, false, false, false, false] rfl rfl (by kernel_rfl) (fun _ _ _ h => h) (Or.inl ⟨by rfl, ?_⟩) hHeld ?_ ?_
  rotate_left
  · rintro w' ⟨s0, s1⟩
    go_simp
    with_reducible rfl
  rotate_left
  · simp only [Act.put, List.setIfInBounds_toArray, List.set_cons_zero, List.set_cons_succ]
    rfl
  refine pure_ (i := 10) (N := some 19) (v := ?_) (a' := ?_) #[true, true, true, true, true, true, true, true, true, true, true, false, false, false] rfl rfl (by kernel_rfl) (fun _ _ _ h => h) (Or.inl ⟨by rfl, ?_⟩) ?_ ?_
  rotate_left
  · intro w'
    go_simp
    with_reducible rfl
  rotate_left
  · simp only [Act.put, List.setIfInBounds_toArray, List.set_cons_zero, List.set_cons_succ]
    rfl
  refine pure_ (i := 11) (N := some 20) (v := ?_) (a' := ?_) #[true, true, true, true, true, true, true, true, true, true, true, true, false, false] rfl rfl (by kernel_rfl) (fun _ _ _ h => h) (Or.inl ⟨by rfl, ?_⟩) ?_ ?_
  rotate_left
  · intro w'
    go_simp
    with_reducible rfl
  rotate_left
  · simp only [Act.put, List.setIfInBounds_toArray, List.set_cons_zero, List.set_cons_succ]
    rfl
  refine pure_ (i := 12) (N := some 21) (v := ?_) (a' := ?_) #[true, true, true, true, true, true, true, true, true, true, true, true, true, false] rfl rfl (by kernel_rfl) (fun _ _ _ h => h) (Or.inl ⟨by rfl, ?_⟩) ?_ ?_
  rotate_left
  · intro w'
    go_simp
    with_reducible rfl
  rotate_left
  · simp only [Act.put, List.setIfInBounds_toArray, List.set_cons_zero, List.set_cons_succ]
    rfl
  refine pure_ (i := 13) (N := some 8) (v := ?_) (a' := ?_) #[true, true, true, true, true, true, true, true, true, true, true, true, true, true] rfl rfl (by kernel_rfl) (fun _ _ _ h => h) (Or.inl ⟨by rfl, ?_⟩) ?_ ?_
  rotate_left
  · intro w'
    go_simp
    with_reducible rfl
  rotate_left
  · simp only [Act.put, List.setIfInBounds_toArray, List.set_cons_zero, List.set_cons_succ]
    rfl
  refine done_ (by kernel_rfl) ?_
  have c1 := HD.out.blk.drew.cell 1
  go_wp2_with (at_builtin; refine wpList_append_all rfl _ _ _ rfl (b + 1) 5 i9 _ 1 1 Tryz.underlying47 hi9 z9 s9 y9 rfl (by omega) _ zs.length (by8 zs) rfl (own_chg HD.out.own (Chg.dr w) fun _ _ => id) _ ys.length (by8 ys) rfl (src_own (own_chg HV.out (Chg.dr w) fun _ _ => id)) (by8_one _) (by unfold maxLen; omega) (by omega) (by simp; omega) ?_)
  intro v2 w2 hown hgrow hat
  have HO := Lib.hid hown
  have HC := Lib.hid (cgrown hgrow)
  have HB := Lib.hid (HD.out.blk.drew.chg HC.out HNo.out)
  have HA := Lib.hid hat
  have fk := HB.out.frozen 1
  have ck := HB.out.cell 1
  obtain ⟨lp, lc, rfl⟩ := (own_form hown).elim fun a h => h.elim fun c h => (⟨a, c, h.1⟩ : ∃ a c, v2 = .slice a _ c)
  clear hown hgrow hat c1
  go_wp2_with fail
  go_ret
  refine ⟨rfl, ⟨_, HB.out.set_ 1 _, ?_⟩, (((Chg.of_no (Chg.dr w)).trans (HC.out.mono fun k _ hk => .inr hk)).setCell (p := ⟨b, 1, none⟩) (.inl (.inl rfl)) _)⟩
  have h5 := own_chg HO.out ((Chg.refl (Only b) w2).setOwn 1 (.slice lp (zs.length + ys.length) lc)) fun k hk => by have := (HO.out.lt k hk).1; unfold Only; omega
  rw [← by8_append, ← List.length_append] at h5
  simp only [← List.length_append]
  exact h5
theorem dsync_any (h : DA w b most zs sure s) :
    Calls Tryz.prog 159 #[.pointer (some ⟨b, 0, none⟩)] w fun e w' => e = .returned (.int .i64 0) ∧ DA w' b most zs zs.length s ∧ Chg (Only b) w w' := by
  obtain ⟨sp, sc, rfl, _⟩ := own_form h.own
  have HD := Lib.hid h
  have c1 := h.blk.cell 1
  have f2 := h.blk.frozen 2
  have c2 := h.blk.cell 2
  clear h
  go_enter Tryz.func159, Tryz.ntmps159
  go_wp2_with fail
  go_ret
  exact ⟨rfl, ⟨HD.out.blk.set_ 2 _, own_chg HD.out.own ((Chg.refl (Only b) w).setOwn 2 _) fun k hk => by have := (HD.out.own.lt k hk).1; unfold Only; omega⟩, (Chg.refl (Only b) w).setOwn 2 _⟩
set_option maxHeartbeats 4000000 in
theorem wappend_none {lg : Nat} {n : Int} (hL : LogB w lg b n) (h : DA w b most [] sure (.slice none 0 0)) {base : Nat} {ys : List Int} {v : Value} (hv : w.ownsRow base 5 1 v ys.length (by8 ys)) (hl : (ys.length : Int) + 8 ≤ most) (hy : ys.length ≤ 60000) (hm : most ≤ 1048576) (hn : 0 ≤ n ∧ n < 1000) :
    Calls Tryz.prog 144 #[.pointer (some ⟨lg, 0, none⟩), v] w fun e w' => e = .returned (.int .i64 0) ∧ Chg (Two lg b) w w' := by
  obtain ⟨p, cap, rfl, _⟩ := own_form hv
  have HP := Lib.hid (fput_any hv hy)
  have HD := Lib.hid h
  have HL := Lib.hid hL
  have hne : lg ≠ b := Blk.ne_ hL h.blk (by decide)
  have hbw := h.blk.lt
  clear hv h hL
  go_enter Tryz.func144, Tryz.ntmps144
  go_wp2_with fail
  refine HP.out.mono ?_
  rintro e w1 ⟨⟨l, zs, rfl, hown, hz⟩, hC⟩
  have HO := Lib.hid hown
  have HC := Lib.hid hC
  have HD1 := Lib.hid (HD.out.chg hC id fun k hk => by cases hk)
  have HL1 := Lib.hid (HL.out.st hC)
  obtain ⟨lp, lc, rfl⟩ := (own_form hown).elim fun a h => h.elim fun c h => (⟨a, c, h.1⟩ : ∃ a c, l = .slice a _ c)
  have c0 := HL1.out.cell 0
  have HZ := Lib.hid hz
  clear hown hC hz
  go_wp2_with fail
  refine (dappend_any HD1.out HO.out (by have := HZ.out; simp only [List.length_nil]; omega) hm).mono ?_
  rintro e w2 ⟨rfl, ⟨s', hD⟩, hC⟩
  have HD2 := Lib.hid hD
  have hC2 : Chg (Only b) w1 w2 := hC.mono fun k _ hk => by
    rcases hk with hk | hk
    · exact hk
    · cases hk
  have HL2 := Lib.hid (HL1.out.chg hC2 hne)
  have HC2 := Lib.hid (((Chg.of_no (S := Two lg b) HC.out).trans (hC2.mono fun k _ hk => .inr hk)))
  have d1 := HL2.out.cell 1
  have d0 := HL2.out.cell 0
  have f1 := HL2.out.frozen 1
  clear hD hC hC2 c0
  go_wp2_with fail
  have HD3 := Lib.hid (HD2.out.chg ((Chg.refl (Only lg) w2).setOwn 1 (.int .i64 (n + 1))) (fun h => hne h.symm) fun k hk h => by
    unfold Only at h
    exact own_not HD2.out.own HL2.out (by decide) hk h)
  have HC3 := Lib.hid (HC2.out.setCell (p := ⟨lg, 1, none⟩) (.inl (.inl rfl)) (.int .i64 (n + 1)))
  refine (dsync_any HD3.out).mono ?_
  rintro e w3_ ⟨rfl, _, hC⟩
  have HC4 := Lib.hid (HC3.out.trans (hC.mono fun k _ hk => .inr hk))
  clear hC d0 d1 f1
  go_wp2_with fail
  go_ret
  exact ⟨rfl, HC4.out⟩
end
end Go.Proofs.YtoefffjhjmjhfaaGreat
