/- Bytes as a text, and copies of plain rows. No statement is proved here. slices.Clone of rows that lead nowhere: bytes, dots, members. No statement is proved here. -/
import Derived.Test.YtoefffjhjmjhfaaGreatPkData
import Derived.Test.YtoefffjhjmjhfaaGreatPkBase
import Derived.Lib.SliceRun
import Derived.Lib.Bytealg
import Derived.Lib.Bytes
import Derived.Laws.BytesArg
import Derived.Deep.AppendLies
import Derived.BigQuiet
namespace Go.Proofs.YtoefffjhjmjhfaaGreat
open Go.RowKit

theorem run_convert_bytes_none {P : Program} (w : World) (src e : TypeId) (hs : P.underlying src = some (.slice e)) (he : P.underlying e = some (.int .u8)) (a : Addr) (cap : Nat) (dst : TypeId) (hd : P.underlying dst = some .string) :
    (convert src dst (.slice (some a) 0 cap)).run P w = .ok (.string ByteArray.empty) w := by
  have hl : (loadCells a 0).run P w = .ok ([] : List Value).toArray w := by
    have := run_loadCells_list (P := P) w a [] (fun j v hj => by simp at hj)
    simpa using this
  rw [run_convert_bytes_string w src dst e _ 0 cap hs he hd, run_bytesToString w a 0 cap [] (by simpa using hl), foldl_push_bytes]
  rfl
theorem bytesOf_nums (l : List UInt8) : Lib.bytesOf (nums l) = l := by
  unfold Lib.bytesOf nums
  rw [List.map_map]
  conv => rhs; rw [← List.map_id l]
  apply List.map_congr_left
  intro c _
  simp
theorem nums_getD (l : List UInt8) {i : Nat} (h : i < l.length) : (nums l).getD i 0 = (l[i].toNat : Int) := by simp [nums, h]
/-- What string(..) of bytes gives. -/
theorem conv_bytes {w : World} {A : Nat → Prop} {l : List UInt8} {d : Value} (hd : Rd w A (bD l) d) : (convert 47 9 d).run Tryz.prog w = .ok (.string (strOfNums (nums l))) w := by
  obtain ⟨p, cap, rfl, h1, h2, h3, h4, h5⟩ := bytes_form hd
  by_cases h0 : 0 < l.length
  · obtain ⟨b, off, rfl, _, _⟩ := h4 h0
    exact run_convert_bytes_arg (P := Tryz.prog) w 47 5 Tryz.underlying47 Tryz.underlying5 b off l.length cap (nums l) (nums_length l) (fun i hi => by rw [nums_getD l hi]; exact h5 b off rfl i hi) _ Tryz.underlying9
  · have e : l = [] := List.length_eq_zero_iff.1 (by omega)
    subst e
    rcases h3 with ⟨rfl, rfl⟩ | ⟨b, off, rfl⟩ | ⟨a, rfl, _⟩
    · exact run_convert_bytes_nil (P := Tryz.prog) w 47 5 Tryz.underlying47 Tryz.underlying5 _ _ _ Tryz.underlying9
    · exact run_convert_bytes_arg (P := Tryz.prog) w 47 5 Tryz.underlying47 Tryz.underlying5 b off 0 cap [] rfl (fun i hi => by omega) _ Tryz.underlying9
    · exact run_convert_bytes_none w 47 5 Tryz.underlying47 Tryz.underlying5 a cap _ Tryz.underlying9
end Go.Proofs.YtoefffjhjmjhfaaGreat
namespace Go.Proofs.YtoefffjhjmjhfaaGreat
open Go.RowKit

theorem cgrown {w w' : World} {v : Value} (h : w.grownBy w' v.ownBlock) : Chg (fun k => v.ownBlock = some k) w w' :=
  ⟨h.1, h.2, h.3, h.4, fun k hk hn => h.5 k hk fun e => hn e.symm⟩
theorem cbase {w : World} {base n k : Nat} {t : TypeId} {v : Value} {xs : List Value} (h : w.ownsRow base t k v n xs) {j : Nat} (hj : v.ownBlock = some j) : base ≤ j := (h.lt j hj).1
/-- Rows of plain cells. -/
abbrev plainD (n : Nat) (rows : List (List Value)) : D := .s n (rows.map (·.map D.c))
theorem flat_plain {w : World} {A : Nat → Prop} {n : Nat} : ∀ {rows : List (List Value)}, (∀ r ∈ rows, r.length = n) → (∀ r ∈ rows, ∀ v ∈ r, v.oneCell' = true) → Flat w A n (rows.map (·.map D.c)) rows.flatten
  | [], _, _ => rfl
  | r :: rows, hl, h1 => ⟨r, rows.flatten, by simp, hl r (by simp), Rds.cs (h1 r (by simp)), flat_plain (fun x hx => hl x (by simp [hx])) fun x hx => h1 x (by simp [hx])⟩
theorem flat_len {n : Nat} : ∀ {rows : List (List Value)}, (∀ r ∈ rows, r.length = n) → rows.flatten.length = rows.length * n
  | [], _ => by simp
  | r :: rows, hl => by rw [List.flatten_cons, List.length_append, hl r (by simp), flat_len fun x hx => hl x (by simp [hx]), List.length_cons, Nat.succ_mul]; omega
theorem flat_get {n : Nat} : ∀ {rows : List (List Value)} {j : Nat} {u : Value}, (∀ r ∈ rows, r.length = n) → rows.flatten[j]? = some u → ∃ (i r : Nat) (hi : i < rows.length), r < n ∧ j = i * n + r ∧ rows[i][r]? = some u
  | [], _, _, _, h => by simp at h
  | x :: rows, j, u, hl, h => by
    have hx : x.length = n := hl x (by simp)
    rw [List.flatten_cons] at h
    rcases Nat.lt_or_ge j n with hj | hj
    · rw [List.getElem?_append_left (by omega)] at h
      exact ⟨0, j, by simp, hj, by omega, h⟩
    · rw [List.getElem?_append_right (by omega), hx] at h
      obtain ⟨i, r, hi, h1, h2, h3⟩ := flat_get (fun y hy => hl y (by simp [hy])) h
      exact ⟨i + 1, r, by simpa using hi, h1, by rw [Nat.succ_mul]; omega, by simpa using h3⟩
theorem plain_one {w : World} {A : Nat → Prop} {n : Nat} {rows : List (List Value)} {v : Value} (h : Rd w A (plainD n rows) v) : (∀ r ∈ rows, r.length = n) ∧ ∀ r ∈ rows, ∀ v ∈ r, v.oneCell' = true := by
  unfold plainD at h
  generalize hR : rows.map (·.map D.c) = R at h
  have key : (∀ x ∈ R, x.length = n) ∧ ∀ x ∈ R, ∀ d ∈ x, ∀ u, d = D.c u → u.oneCell' = true := by
    cases h with
    | nil => exact ⟨fun x hx => by simp at hx, fun x hx => by simp at hx⟩
    | e => exact ⟨fun x hx => by simp at hx, fun x hx => by simp at hx⟩
    | s n rows b off cap vs hc hm hA hn hcell hr =>
      refine ⟨fun x hx => ?_, fun x hx d hd u hu => ?_⟩
      · obtain ⟨i, hi, rfl⟩ := List.getElem_of_mem hx
        exact hn i hi
      · obtain ⟨i, hi, rfl⟩ := List.getElem_of_mem hx
        obtain ⟨j, hj, rfl⟩ := List.getElem_of_mem hd
        have := hr i hi j hj
        rw [hu] at this
        exact this.cell ▸ this.one
  refine ⟨fun r hr => ?_, fun r hr v hv => key.2 _ (by rw [← hR]; exact List.mem_map.2 ⟨r, hr, rfl⟩) (D.c v) (List.mem_map.2 ⟨v, hv, rfl⟩) v rfl⟩
  have := key.1 _ (by rw [← hR]; exact List.mem_map.2 ⟨r, hr, rfl⟩)
  simpa using this
/-- Where plain rows lie. -/
theorem plain_form {w : World} {A : Nat → Prop} {n : Nat} {rows : List (List Value)} {v : Value} (h : Rd w A (plainD n rows) v) : ∃ p cap, v = .slice p rows.length cap ∧ rows.length ≤ cap ∧ cap ≤ maxLen ∧ (p = none → cap = 0) ∧
    (0 < rows.length → ∃ b off, p = some ⟨b, off, none⟩ ∧ A b ∧ b < w.heap.size ∧ ∀ j u, rows.flatten[j]? = some u → w.cell? ⟨b, off + j, none⟩ = some u) := by
  obtain ⟨hl, h1⟩ := plain_one h
  obtain ⟨p, cap, rfl, k1, k2, k3, k4, k5⟩ := h.form
  simp only [List.length_map] at *
  refine ⟨p, cap, rfl, k1, k2, fun h0 => ?_, fun h0 => ?_⟩
  · subst h0
    rcases k3 with ⟨_, h⟩ | ⟨_, _, h⟩ | ⟨_, h, _⟩
    · exact h
    · cases h
    · cases h
  obtain ⟨b, off, rfl, hA, hb⟩ := k4 h0
  refine ⟨b, off, rfl, hA, hb, fun j u hu => ?_⟩
  obtain ⟨i, r, hi, hr, rfl, hv⟩ := flat_get hl hu
  obtain ⟨cs, g1, g2, g3⟩ := k5 b off rfl i hi
  have e := g3 r hr
  rw [List.getElem_map] at g2
  rw [Rds.of_cs g2] at e
  rw [← Nat.add_assoc, e, hv]
theorem infCB : (Tryz.prog.info? 5).map (fun i => (i.zero, i.size, i.bytes)) = some (some (.int .u8 0), 1, 1) := by kernel_rfl
set_option maxRecDepth 100000 in
set_option maxHeartbeats 4000000 in
theorem cloneB_any {w : World} {A : Nat → Prop} {rows : List (List Value)} {v : Value} (hv : Rd w A (plainD 1 rows) v) (hz : rows.length * 1 ≤ 140737488355328) :
    Calls Tryz.prog 133 #[v] w fun e w' => (∃ v', e = .returned v' ∧ Rd w' (New w) (plainD 1 rows) v') ∧ Chg NoB w w' := by
  obtain ⟨hl, h1⟩ := plain_one hv
  obtain ⟨p, cap, rfl, hc, hm, hcn, hp⟩ := plain_form hv
  have he := Lib.run_eql_slice_nil (P := Tryz.prog) w 47 5 p rows.length cap 0 0 Tryz.underlying47
  obtain ⟨i9, hi9, z9, s9, y9⟩ := info_parts infCB
  have HL := Lib.hid hl
  have H1 := Lib.hid h1
  clear hv hl h1
  by_cases hlt : 0 < rows.length
  · obtain ⟨b, off, rfl, hA, hbl, hcl⟩ := hp hlt
    simp only [Option.isNone] at he
    have hnw : ∀ j u, rows.flatten[j]? = some u → (w.alloc (.cells #[] 5)).cell? ((⟨b, off, none⟩ : Addr).add j) = some u := fun j u hu => by
      rw [Addr.add_lit]
      exact Lib.cell?_alloc_some _ (hcl j u hu)
    have hown2 : (w.alloc (.cells #[] 5)).ownsRow w.heap.size 5 1 (.slice (some ⟨w.heap.size, 0, none⟩) 0 0) 0 [] := ⟨rfl, .inr ⟨_, _, _, rfl, Nat.le_refl _, Blk.new _ _ _, Nat.le_refl _, by unfold maxLen; omega, rfl, rfl⟩⟩
    have h1f : ∀ u ∈ rows.flatten, u.oneCell' = true := fun u hu => by
      obtain ⟨r, hr, hu⟩ := List.mem_flatten.1 hu
      exact H1.out r hr u hu
    have hfl := flat_len HL.out
    have HN := Lib.hid hnw
    have HF := Lib.hid h1f
    have HFl := Lib.hid hfl
    have HO := Lib.hid hown2
    clear hp hcl hnw h1f hfl hown2
    go_enter Tryz.func133, Tryz.ntmps133
    go_wp2_with (at_builtin; refine wpList_append_lies _ rfl _ _ _ rfl w.heap.size 5 i9 _ 1 1 Tryz.underlying47 hi9 z9 s9 y9 rfl (by omega) _ 0 [] rfl HO.out ⟨b, off, none⟩ rows.length cap rows.flatten rfl HFl.out HN.out HF.out hlt (by unfold maxLen; omega) (by omega) (by simp) (w.heap.size + 1) (by simp) ?_)
    intro g3 cap3 w3 hown3 hgrow hat hlt3
    have hC3 : Chg NoB w w3 := ((Chg.refl NoB w).alloc (.cells #[] 5)).then_ (cgrown hgrow) (fun j hj hs => by
      have := cbase HO.out hs
      omega)
    have HO3 : Hid (w3.ownsRow w.heap.size 5 1 (.slice (some ⟨g3, 0, none⟩) rows.length cap3) rows.length rows.flatten) := Lib.hid (by simpa using hown3)
    have HC := Lib.hid hC3
    clear hown3 hgrow hat hC3 HN HO
    go_wp2_with fail
    go_ret
    exact ⟨⟨_, by simp, Flat.rd (rows := rows.map (·.map D.c)) (by rw [List.length_map]; exact HO3.out) (flat_plain HL.out H1.out) (fun r hr => by obtain ⟨x, hx, rfl⟩ := List.mem_map.1 hr; simpa using HL.out x hx) fun k hk => (HO3.out.lt k hk).1⟩, HC.out⟩
  · have h0 : rows = [] := List.length_eq_zero_iff.1 (by omega)
    subst h0
    clear hp
    cases p with
    | none =>
      simp only [Option.isNone, List.length_nil] at he
      obtain rfl : cap = 0 := hcn rfl
      go_enter Tryz.func133, Tryz.ntmps133
      go_wp2
      go_ret
      exact ⟨⟨_, rfl, .nil _⟩, Chg.refl NoB w⟩
    | some a =>
      simp only [Option.isNone, List.length_nil] at he
      go_enter Tryz.func133, Tryz.ntmps133
      go_wp2_with fail
      go_ret
      exact ⟨⟨_, rfl, .e _ _ _ (Nat.zero_le _)⟩, (Chg.refl NoB w).alloc _⟩
theorem infCD : (Tryz.prog.info? 177).map (fun i => (i.zero, i.size, i.bytes)) = some (some (.agg #[.int .i64 0, .int .i64 0]), 2, 16) := by kernel_rfl
set_option maxRecDepth 100000 in
set_option maxHeartbeats 4000000 in
theorem cloneD_any {w : World} {A : Nat → Prop} {rows : List (List Value)} {v : Value} (hv : Rd w A (plainD 2 rows) v) (hz : rows.length * 16 ≤ 140737488355328) :
    Calls Tryz.prog 74 #[v] w fun e w' => (∃ v', e = .returned v' ∧ Rd w' (New w) (plainD 2 rows) v') ∧ Chg NoB w w' := by
  obtain ⟨hl, h1⟩ := plain_one hv
  obtain ⟨p, cap, rfl, hc, hm, hcn, hp⟩ := plain_form hv
  have he := Lib.run_eql_slice_nil (P := Tryz.prog) w 172 177 p rows.length cap 0 0 Tryz.underlying172
  obtain ⟨i9, hi9, z9, s9, y9⟩ := info_parts infCD
  have HL := Lib.hid hl
  have H1 := Lib.hid h1
  clear hv hl h1
  by_cases hlt : 0 < rows.length
  · obtain ⟨b, off, rfl, hA, hbl, hcl⟩ := hp hlt
    simp only [Option.isNone] at he
    have hnw : ∀ j u, rows.flatten[j]? = some u → (w.alloc (.cells #[] 177)).cell? ((⟨b, off, none⟩ : Addr).add j) = some u := fun j u hu => by
      rw [Addr.add_lit]
      exact Lib.cell?_alloc_some _ (hcl j u hu)
    have hown2 : (w.alloc (.cells #[] 177)).ownsRow w.heap.size 177 2 (.slice (some ⟨w.heap.size, 0, none⟩) 0 0) 0 [] := ⟨rfl, .inr ⟨_, _, _, rfl, Nat.le_refl _, Blk.new _ _ _, Nat.le_refl _, by unfold maxLen; omega, rfl, rfl⟩⟩
    have h1f : ∀ u ∈ rows.flatten, u.oneCell' = true := fun u hu => by
      obtain ⟨r, hr, hu⟩ := List.mem_flatten.1 hu
      exact H1.out r hr u hu
    have hfl := flat_len HL.out
    have HN := Lib.hid hnw
    have HF := Lib.hid h1f
    have HFl := Lib.hid hfl
    have HO := Lib.hid hown2
    clear hp hcl hnw h1f hfl hown2
    go_enter Tryz.func74, Tryz.ntmps74
    go_wp2_with (at_builtin; refine wpList_append_lies _ rfl _ _ _ rfl w.heap.size 177 i9 _ 2 16 Tryz.underlying172 hi9 z9 s9 y9 rfl (by omega) _ 0 [] rfl HO.out ⟨b, off, none⟩ rows.length cap rows.flatten rfl HFl.out HN.out HF.out hlt (by unfold maxLen; omega) (by omega) (by simp) (w.heap.size + 1) (by simp) ?_)
    intro g3 cap3 w3 hown3 hgrow hat hlt3
    have hC3 : Chg NoB w w3 := ((Chg.refl NoB w).alloc (.cells #[] 177)).then_ (cgrown hgrow) (fun j hj hs => by
      have := cbase HO.out hs
      omega)
    have HO3 : Hid (w3.ownsRow w.heap.size 177 2 (.slice (some ⟨g3, 0, none⟩) rows.length cap3) rows.length rows.flatten) := Lib.hid (by simpa using hown3)
    have HC := Lib.hid hC3
    clear hown3 hgrow hat hC3 HN HO
    go_wp2_with fail
    go_ret
    exact ⟨⟨_, by simp, Flat.rd (rows := rows.map (·.map D.c)) (by rw [List.length_map]; exact HO3.out) (flat_plain HL.out H1.out) (fun r hr => by obtain ⟨x, hx, rfl⟩ := List.mem_map.1 hr; simpa using HL.out x hx) fun k hk => (HO3.out.lt k hk).1⟩, HC.out⟩
  · have h0 : rows = [] := List.length_eq_zero_iff.1 (by omega)
    subst h0
    clear hp
    cases p with
    | none =>
      simp only [Option.isNone, List.length_nil] at he
      obtain rfl : cap = 0 := hcn rfl
      go_enter Tryz.func74, Tryz.ntmps74
      go_wp2
      go_ret
      exact ⟨⟨_, rfl, .nil _⟩, Chg.refl NoB w⟩
    | some a =>
      simp only [Option.isNone, List.length_nil] at he
      go_enter Tryz.func74, Tryz.ntmps74
      go_wp2_with fail
      go_ret
      exact ⟨⟨_, rfl, .e _ _ _ (Nat.zero_le _)⟩, (Chg.refl NoB w).alloc _⟩
theorem infCM : (Tryz.prog.info? 147).map (fun i => (i.zero, i.size, i.bytes)) = some (some (.agg #[.int .i64 0, .int .i64 0]), 2, 16) := by kernel_rfl
set_option maxRecDepth 100000 in
set_option maxHeartbeats 4000000 in
theorem cloneM_any {w : World} {A : Nat → Prop} {rows : List (List Value)} {v : Value} (hv : Rd w A (plainD 2 rows) v) (hz : rows.length * 16 ≤ 140737488355328) :
    Calls Tryz.prog 75 #[v] w fun e w' => (∃ v', e = .returned v' ∧ Rd w' (New w) (plainD 2 rows) v') ∧ Chg NoB w w' := by
  obtain ⟨hl, h1⟩ := plain_one hv
  obtain ⟨p, cap, rfl, hc, hm, hcn, hp⟩ := plain_form hv
  have he := Lib.run_eql_slice_nil (P := Tryz.prog) w 38 147 p rows.length cap 0 0 Tryz.underlying38
  obtain ⟨i9, hi9, z9, s9, y9⟩ := info_parts infCM
  have HL := Lib.hid hl
  have H1 := Lib.hid h1
  clear hv hl h1
  by_cases hlt : 0 < rows.length
  · obtain ⟨b, off, rfl, hA, hbl, hcl⟩ := hp hlt
    simp only [Option.isNone] at he
    have hnw : ∀ j u, rows.flatten[j]? = some u → (w.alloc (.cells #[] 147)).cell? ((⟨b, off, none⟩ : Addr).add j) = some u := fun j u hu => by
      rw [Addr.add_lit]
      exact Lib.cell?_alloc_some _ (hcl j u hu)
    have hown2 : (w.alloc (.cells #[] 147)).ownsRow w.heap.size 147 2 (.slice (some ⟨w.heap.size, 0, none⟩) 0 0) 0 [] := ⟨rfl, .inr ⟨_, _, _, rfl, Nat.le_refl _, Blk.new _ _ _, Nat.le_refl _, by unfold maxLen; omega, rfl, rfl⟩⟩
    have h1f : ∀ u ∈ rows.flatten, u.oneCell' = true := fun u hu => by
      obtain ⟨r, hr, hu⟩ := List.mem_flatten.1 hu
      exact H1.out r hr u hu
    have hfl := flat_len HL.out
    have HN := Lib.hid hnw
    have HF := Lib.hid h1f
    have HFl := Lib.hid hfl
    have HO := Lib.hid hown2
    clear hp hcl hnw h1f hfl hown2
    go_enter Tryz.func75, Tryz.ntmps75
    go_wp2_with (at_builtin; refine wpList_append_lies _ rfl _ _ _ rfl w.heap.size 147 i9 _ 2 16 Tryz.underlying38 hi9 z9 s9 y9 rfl (by omega) _ 0 [] rfl HO.out ⟨b, off, none⟩ rows.length cap rows.flatten rfl HFl.out HN.out HF.out hlt (by unfold maxLen; omega) (by omega) (by simp) (w.heap.size + 1) (by simp) ?_)
    intro g3 cap3 w3 hown3 hgrow hat hlt3
    have hC3 : Chg NoB w w3 := ((Chg.refl NoB w).alloc (.cells #[] 147)).then_ (cgrown hgrow) (fun j hj hs => by
      have := cbase HO.out hs
      omega)
    have HO3 : Hid (w3.ownsRow w.heap.size 147 2 (.slice (some ⟨g3, 0, none⟩) rows.length cap3) rows.length rows.flatten) := Lib.hid (by simpa using hown3)
    have HC := Lib.hid hC3
    clear hown3 hgrow hat hC3 HN HO
    go_wp2_with fail
    go_ret
    exact ⟨⟨_, by simp, Flat.rd (rows := rows.map (·.map D.c)) (by rw [List.length_map]; exact HO3.out) (flat_plain HL.out H1.out) (fun r hr => by obtain ⟨x, hx, rfl⟩ := List.mem_map.1 hr; simpa using HL.out x hx) fun k hk => (HO3.out.lt k hk).1⟩, HC.out⟩
  · have h0 : rows = [] := List.length_eq_zero_iff.1 (by omega)
    subst h0
    clear hp
    cases p with
    | none =>
      simp only [Option.isNone, List.length_nil] at he
      obtain rfl : cap = 0 := hcn rfl
      go_enter Tryz.func75, Tryz.ntmps75
      go_wp2
      go_ret
      exact ⟨⟨_, rfl, .nil _⟩, Chg.refl NoB w⟩
    | some a =>
      simp only [Option.isNone, List.length_nil] at he
      go_enter Tryz.func75, Tryz.ntmps75
      go_wp2_with fail
      go_ret
      exact ⟨⟨_, rfl, .e _ _ _ (Nat.zero_le _)⟩, (Chg.refl NoB w).alloc _⟩
end Go.Proofs.YtoefffjhjmjhfaaGreat
