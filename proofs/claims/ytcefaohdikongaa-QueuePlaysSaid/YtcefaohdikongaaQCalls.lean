/- The laws' calls: how a slice of calls that came in is read. No statement is proved here. -/
import Derived.Test.YtcefaohdikongaaReads
import Derived.Test.YtcefaohdikongaaCopied
import Derived.OpenShut
namespace Go.Proofs.Ytcefaohdikongaa
open Go.RowKit Go.ChangeShapes Go.WideShapes Go.Deep
set_option maxRecDepth 100000

/-- A call: what to do, how urgent, the message. -/
structure Cl where
  do_ : Int
  ur : Int
  m : Mg
def mgD (m : Mg) : List D := [iD m.k, iD m.f, iD m.t, iD m.op, iD m.fr, .c (.string m.key), iD m.bk, ensD m.es, dgsD m.ds, prsD m.ms]
def clD (c : Cl) : List D := iD c.do_ :: iD c.ur :: mgD c.m
def clsD (l : List Cl) : D := .s 12 (l.map clD)
/-- Of what a machine's memory can hold. -/
structure Mv (m : Mg) : Prop where
  ev : ∀ e ∈ m.es, e.sb.vals.length ≤ 2932031007317 ∧ ∀ v ∈ e.sb.vals, v.data.length ≤ 140737488351232
  dd : ∀ d ∈ m.ds, d.dots.length ≤ 8796093021952
  ms : m.ms.length ≤ 8796093021952
section
variable {H : Type} {enc : TypeId × Value → H} {W : World}
def RI (ds : List D) : Prop := ∃ n, ds = [.c (.int .i64 n)]
theorem tyI {t : TypeId} (ht : Try.prog.underlying t = some (.int .i64)) : Ty enc Try.prog W t RI := (ty_int ht).mono fun _ ⟨n, h, _⟩ => ⟨n, h⟩
theorem tyPair {t : TypeId} {fs : Array Field} (ht : Try.prog.underlying t = some (.struct fs)) (ho : Offs Try.prog 0 fs.toList) (hz : Try.prog.cellsOf t = total Try.prog fs.toList) (hT : TyAll enc Try.prog W fs.toList [RI, RI]) : Ty enc Try.prog W t fun ds => ∃ p : Int × Int, ds = [iD p.1, iD p.2] :=
  (ty_struct ht ho hz hT).mono fun ds ⟨dss, h1, h2⟩ => by
    match dss, h2 with
    | [a, b], ⟨⟨n, ha⟩, ⟨m, hb⟩, _⟩ => exact ⟨(n, m), by rw [h1, ha, hb]; rfl⟩
theorem tyDot : Ty enc Try.prog W 91 fun ds => ∃ p : Int × Int, ds = [iD p.1, iD p.2] :=
  tyPair Try.underlying91 ⟨rfl, by kernel_rfl, trivial⟩ (by kernel_rfl) ⟨tyI Try.underlying3, tyI Try.underlying2, trivial⟩
theorem tyMem : Ty enc Try.prog W 72 fun ds => ∃ p : Int × Int, ds = [iD p.1, iD p.2] :=
  tyPair Try.underlying72 ⟨rfl, by kernel_rfl, trivial⟩ (by kernel_rfl) ⟨tyI Try.underlying3, tyI Try.underlying2, trivial⟩
theorem prs_of {rows : List (List D)} (h : ∀ r ∈ rows, ∃ p : Int × Int, r = [iD p.1, iD p.2]) : ∃ l : List (Int × Int), rows = (l.map i2).map (·.map D.c) := by
  obtain ⟨l, hl, _⟩ := list_ex (f := fun p : Int × Int => [iD p.1, iD p.2]) (Q := fun _ => True) fun x hx => by
    obtain ⟨p, hp⟩ := h x hx
    exact ⟨p, hp, trivial⟩
  exact ⟨l, by rw [hl, List.map_map]; rfl⟩
theorem tyDots : Ty enc Try.prog W 96 fun ds => ∃ l : List (Int × Int), ds = [prsD l] ∧ l.length ≤ 8796093021952 :=
  (ty_slice Try.underlying96 (n := 2) (by kernel_rfl) (by decide) tyDot).mono fun ds ⟨rows, h1, h2, h3⟩ => by
    obtain ⟨l, rfl⟩ := prs_of h2
    rw [show Try.prog.bytesOf 91 = 16 by kernel_rfl] at h3
    simp only [List.length_map, reachBytes] at h3
    exact ⟨l, h1, by omega⟩
theorem tyMems : Ty enc Try.prog W 29 fun ds => ∃ l : List (Int × Int), ds = [prsD l] ∧ l.length ≤ 8796093021952 :=
  (ty_slice Try.underlying29 (n := 2) (by kernel_rfl) (by decide) tyMem).mono fun ds ⟨rows, h1, h2, h3⟩ => by
    obtain ⟨l, rfl⟩ := prs_of h2
    rw [show Try.prog.bytesOf 72 = 16 by kernel_rfl] at h3
    simp only [List.length_map, reachBytes] at h3
    exact ⟨l, h1, by omega⟩
theorem tyBytes : Ty enc Try.prog W 92 fun ds => ∃ l : List UInt8, ds = [bD l] ∧ l.length ≤ 140737488351232 :=
  (ty_slice Try.underlying92 (n := 1) (by kernel_rfl) (by decide) (ty_int Try.underlying5)).mono fun ds ⟨rows, h1, h2, h3⟩ => by
    obtain ⟨l, hl, _⟩ := list_ex (f := fun c : UInt8 => [D.c (.int .u8 c.toNat)]) (Q := fun _ => True) fun x hx => by
      obtain ⟨n, hn, hw⟩ := h2 x hx
      have hb : 0 ≤ n ∧ n ≤ 255 := by
        simp only [Lit.wf] at hw
        simpa [IntKind.min, IntKind.max, IntKind.signed, IntKind.bits] using hw
      refine ⟨UInt8.ofNat n.toNat, ?_, trivial⟩
      rw [hn]
      have : ((UInt8.ofNat n.toNat).toNat : Int) = n := by
        simp
        omega
      rw [this]
    subst hl
    rw [show Try.prog.bytesOf 5 = 1 by kernel_rfl] at h3
    simp only [List.length_map, reachBytes] at h3
    exact ⟨l, by rw [h1]; unfold bD bI nums; rw [List.map_map]; rfl, by omega⟩
theorem tyVal : Ty enc Try.prog W 94 fun ds => ∃ v : Vl, ds = vlD v ∧ v.data.length ≤ 140737488351232 :=
  (ty_struct (Rs := [_, _, _]) Try.underlying94 ⟨rfl, by kernel_rfl, by kernel_rfl, trivial⟩ (by kernel_rfl) ⟨tyDot, tyBytes, ty_bool Try.underlying4, trivial⟩).mono fun ds ⟨dss, h1, h2⟩ => by
    match dss, h2 with
    | [a, b, c], ⟨⟨p, ha⟩, ⟨l, hb, hl⟩, ⟨x, hc⟩, _⟩ => exact ⟨⟨p.1, p.2, l, x⟩, by rw [h1, ha, hb, hc]; rfl, hl⟩
theorem tyVals : Ty enc Try.prog W 85 fun ds => ∃ l : List Vl, ds = [vlsD l] ∧ l.length ≤ 2932031007317 ∧ ∀ v ∈ l, v.data.length ≤ 140737488351232 :=
  (ty_slice Try.underlying85 (n := 4) (by kernel_rfl) (by decide) tyVal).mono fun ds ⟨rows, h1, h2, h3⟩ => by
    obtain ⟨l, rfl, hl⟩ := list_ex h2
    rw [show Try.prog.bytesOf 94 = 48 by kernel_rfl] at h3
    simp only [List.length_map, reachBytes] at h3
    exact ⟨l, h1, by omega, hl⟩
theorem tyVec : Ty enc Try.prog W 84 fun ds => ∃ f : Vq, ds = [iD (f 0), iD (f 1), iD (f 2), iD (f 3), iD (f 4), iD (f 5), iD (f 6), iD (f 7)] := fun fuel cs x hx _ => by
  obtain ⟨xs, m, _, _, hl, hlen, hi⟩ := DataW.trod_array Try.underlying84 hx
  rw [show Try.prog.cellsOf 84 = 8 by kernel_rfl] at hl
  rw [show Try.prog.cellsOf 2 = 1 by kernel_rfl] at hi
  have key : ∀ i (h : i < 8), ∃ n : Int, cs[i]? = some (.int .i64 n) := fun i h => by
    have h1 := hi i h
    rw [List.getElem?_eq_getElem (by omega)] at h1
    obtain ⟨n, hn, _⟩ := DataW.trod_int Try.underlying2 h1
    rw [Nat.mul_one, List.drop_eq_getElem_cons (by omega)] at hn
    simp only [List.take_succ_cons, List.take_zero, List.cons.injEq, and_true] at hn
    exact ⟨n, by rw [List.getElem?_eq_getElem (by omega), hn]⟩
  obtain ⟨f, hf⟩ : ∃ f : Vq, ∀ i, i < 8 → cs[i]? = some (.int .i64 (f i)) := ⟨fun i => intOf ((cs[i]?).getD undef), fun i h => by
    obtain ⟨n, hn⟩ := key i h
    simp only [hn]
    rfl⟩
  have e : cs = [.int .i64 (f 0), .int .i64 (f 1), .int .i64 (f 2), .int .i64 (f 3), .int .i64 (f 4), .int .i64 (f 5), .int .i64 (f 6), .int .i64 (f 7)] := by
    refine List.ext_getElem? fun i => ?_
    rcases Nat.lt_or_ge i 8 with h | h
    · rw [hf i h]
      match i, h with
      | 0, _ => rfl
      | 1, _ => rfl
      | 2, _ => rfl
      | 3, _ => rfl
      | 4, _ => rfl
      | 5, _ => rfl
      | 6, _ => rfl
      | 7, _ => rfl
    · rw [List.getElem?_eq_none (by omega), List.getElem?_eq_none (by simpa using h)]
  exact ⟨_, e ▸ ⟨.c _ rfl, .c _ rfl, .c _ rfl, .c _ rfl, .c _ rfl, .c _ rfl, .c _ rfl, .c _ rfl, trivial⟩, f, rfl⟩
theorem tySibs : Ty enc Try.prog W 87 fun ds => ∃ s : Sb, ds = sbD s ∧ s.vals.length ≤ 2932031007317 ∧ ∀ v ∈ s.vals, v.data.length ≤ 140737488351232 :=
  (ty_struct (Rs := [_, _]) Try.underlying87 ⟨rfl, by kernel_rfl, trivial⟩ (by kernel_rfl) ⟨tyVec, tyVals, trivial⟩).mono fun ds ⟨dss, h1, h2⟩ => by
    match dss, h2 with
    | [a, b], ⟨⟨f, ha⟩, ⟨l, hb, hl⟩, _⟩ => exact ⟨⟨f, l⟩, by rw [h1, ha, hb]; rfl, hl⟩
theorem tyEntry : Ty enc Try.prog W 89 fun ds => ∃ e : En, ds = enD e ∧ e.sb.vals.length ≤ 2932031007317 ∧ ∀ v ∈ e.sb.vals, v.data.length ≤ 140737488351232 :=
  (ty_struct (Rs := [_, _]) Try.underlying89 ⟨rfl, by kernel_rfl, trivial⟩ (by kernel_rfl) ⟨ty_str Try.underlying9, tySibs, trivial⟩).mono fun ds ⟨dss, h1, h2⟩ => by
    match dss, h2 with
    | [a, b], ⟨⟨k, ha⟩, ⟨s, hb, hl⟩, _⟩ => exact ⟨⟨k, s⟩, by rw [h1, ha, hb]; simp [enD], hl⟩
theorem tyEntries : Ty enc Try.prog W 27 fun ds => ∃ l : List En, ds = [ensD l] ∧ ∀ e ∈ l, e.sb.vals.length ≤ 2932031007317 ∧ ∀ v ∈ e.sb.vals, v.data.length ≤ 140737488351232 :=
  (ty_slice Try.underlying27 (n := 10) (by kernel_rfl) (by decide) tyEntry).mono fun ds ⟨rows, h1, h2, _⟩ => by
    obtain ⟨l, rfl, hl⟩ := list_ex h2
    exact ⟨l, h1, hl⟩
theorem tyDigest : Ty enc Try.prog W 98 fun ds => ∃ d : Dg, ds = dgD d ∧ d.dots.length ≤ 8796093021952 :=
  (ty_struct (Rs := [_, _, _]) Try.underlying98 ⟨rfl, by kernel_rfl, by kernel_rfl, trivial⟩ (by kernel_rfl) ⟨ty_str Try.underlying9, tyVec, tyDots, trivial⟩).mono fun ds ⟨dss, h1, h2⟩ => by
    match dss, h2 with
    | [a, b, c], ⟨⟨k, ha⟩, ⟨f, hb⟩, ⟨l, hc, hl⟩, _⟩ => exact ⟨⟨k, f, l⟩, by rw [h1, ha, hb, hc]; rfl, hl⟩
theorem tyDigests : Ty enc Try.prog W 28 fun ds => ∃ l : List Dg, ds = [dgsD l] ∧ ∀ d ∈ l, d.dots.length ≤ 8796093021952 :=
  (ty_slice Try.underlying28 (n := 10) (by kernel_rfl) (by decide) tyDigest).mono fun ds ⟨rows, h1, h2, _⟩ => by
    obtain ⟨l, rfl, hl⟩ := list_ex h2
    exact ⟨l, h1, hl⟩
theorem tyMsg : Ty enc Try.prog W 31 fun ds => ∃ m : Mg, ds = mgD m ∧ Mv m :=
  (ty_struct (Rs := [_, _, _, _, _, _, _, _, _, _]) Try.underlying31 ⟨rfl, by kernel_rfl, by kernel_rfl, by kernel_rfl, by kernel_rfl, by kernel_rfl, by kernel_rfl, by kernel_rfl, by kernel_rfl, by kernel_rfl, trivial⟩ (by kernel_rfl)
    ⟨tyI Try.underlying3, tyI Try.underlying3, tyI Try.underlying3, tyI Try.underlying2, tyI Try.underlying3, ty_str Try.underlying9, tyI Try.underlying3, tyEntries, tyDigests, tyMems, trivial⟩).mono fun ds ⟨dss, h1, h2⟩ => by
    match dss, h2 with
    | [a0, a1, a2, a3, a4, a5, a6, a7, a8, a9], ⟨⟨n0, h0⟩, ⟨n1, hb1⟩, ⟨n2, hb2⟩, ⟨n3, hb3⟩, ⟨n4, hb4⟩, ⟨k, hb5⟩, ⟨n6, hb6⟩, ⟨es, hb7, he⟩, ⟨ds', hb8, hd⟩, ⟨ms, hb9, hm⟩, _⟩ =>
      exact ⟨⟨n0, n1, n2, n3, n4, k, n6, es, ds', ms⟩, by rw [h1, h0, hb1, hb2, hb3, hb4, hb5, hb6, hb7, hb8, hb9]; rfl, ⟨he, hd, hm⟩⟩
theorem tyCall : Ty enc Try.prog W 44 fun ds => ∃ c : Cl, ds = clD c ∧ Mv c.m :=
  (ty_struct (Rs := [_, _, _]) Try.underlying44 ⟨rfl, by kernel_rfl, by kernel_rfl, trivial⟩ (by kernel_rfl) ⟨tyI Try.underlying3, tyI Try.underlying3, tyMsg, trivial⟩).mono fun ds ⟨dss, h1, h2⟩ => by
    match dss, h2 with
    | [a, b, c], ⟨⟨n, ha⟩, ⟨u, hb⟩, ⟨m, hc, hm⟩, _⟩ => exact ⟨⟨n, u, m⟩, by rw [h1, ha, hb, hc]; simp [clD, iD], hm⟩
theorem tyCalls : Ty enc Try.prog W 41 fun ds => ∃ l : List Cl, ds = [clsD l] ∧ ∀ c ∈ l, Mv c.m :=
  (ty_slice Try.underlying41 (n := 12) (by kernel_rfl) (by decide) tyCall).mono fun ds ⟨rows, h1, h2, _⟩ => by
    obtain ⟨l, rfl, hl⟩ := list_ex h2
    exact ⟨l, h1, hl⟩
/-- What a call's cells are. -/
theorem cl_row {A : Nat → Prop} {c : Cl} {cs : List Value} (h : Rds W A (clD c) cs) : ∃ e d s, cs = [.int .i64 c.do_, .int .i64 c.ur, .int .i64 c.m.k, .int .i64 c.m.f, .int .i64 c.m.t, .int .i64 c.m.op, .int .i64 c.m.fr, .string c.m.key, .int .i64 c.m.bk, e, d, s] ∧ Rd W A (ensD c.m.es) e ∧ Rd W A (dgsD c.m.ds) d ∧ Rd W A (prsD c.m.ms) s := by
  match cs, h with
  | [a, b, c0, c1, c2, c3, c4, c5, c6, e, d, s], h =>
    obtain ⟨ha, hb, h0, h1, h2, h3, h4, h5, h6, he, hd, hs, _⟩ := h
    exact ⟨e, d, s, by rw [ha.cell, hb.cell, h0.cell, h1.cell, h2.cell, h3.cell, h4.cell, h5.cell, h6.cell], he, hd, hs⟩
theorem cls_form {A : Nat → Prop} {l : List Cl} {v : Value} (h : Rd W A (clsD l) v) : ∃ p cap, v = .slice p l.length cap ∧ l.length ≤ cap ∧ cap ≤ maxLen ∧ (0 < l.length → ∃ b off, p = some ⟨b, off, none⟩ ∧ A b ∧ b < W.heap.size) := by
  have := rows_form h
  simpa only [List.length_map] using this
theorem cl_at {A : Nat → Prop} {l : List Cl} {b off n cap : Nat} (h : Rd W A (clsD l) (.slice (some ⟨b, off, none⟩) n cap)) {i : Nat} (hi : i < l.length) : ∃ e d s, (Rd W A (ensD l[i].m.es) e ∧ Rd W A (dgsD l[i].m.ds) d ∧ Rd W A (prsD l[i].m.ms) s) ∧
    ∀ j, j < 12 → W.cell? ⟨b, off + i * 12 + j, none⟩ = [Value.int .i64 l[i].do_, .int .i64 l[i].ur, .int .i64 l[i].m.k, .int .i64 l[i].m.f, .int .i64 l[i].m.t, .int .i64 l[i].m.op, .int .i64 l[i].m.fr, .string l[i].m.key, .int .i64 l[i].m.bk, e, d, s][j]? := by
  obtain ⟨cs, hl, hr, hc⟩ := rows_at h (i := i) (by simpa using hi)
  simp only [List.getElem_map] at hr
  obtain ⟨e, d, s, rfl, h1⟩ := cl_row hr
  exact ⟨e, d, s, h1, hc⟩
end
namespace Args
theorem open__tattlerlaw18_Call {H : Type} {enc : TypeId × Value → H} {W : World} {base : Nat} {v : Value} {d : DataW H} {p : List MemPlace} (hv : Value.okWide Try.prog W .any base 41 v) (h : DataW.Trod enc Try.prog W 0 (fun _ => true) true 41 v d p) (hw : ∀ n ∈ d.weights Try.prog 41, n ≤ reachBytes) :
    ∃ l : List Cl, Rd W (fun k => k < W.heap.size) (clsD l) v ∧ ∀ c ∈ l, Mv c.m := by
  obtain ⟨a, len, cap, rfl⟩ := okWide_slice Try.underlying41 hv
  obtain ⟨fuel, hf⟩ := h
  obtain ⟨ds, h1, l, rfl, hl⟩ := tyCalls _ _ _ hf hw
  simp only [Value.cells] at h1
  exact ⟨l, h1.1, hl⟩
end Args
end Go.Proofs.Ytcefaohdikongaa
