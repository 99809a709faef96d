/- Maps of no entry, of one. No statement is proved here. -/
import Derived.Test.YtoefffjhjmjhfaaGreatPkData
import Derived.MapKept
namespace Go.Proofs.YtoefffjhjmjhfaaGreat
open Go.RowKit

section
variable {P : Program} {w : World} {t k e : TypeId} {b clock : Nat} {d : TypeDesc}
/-- The world, with block b another object. -/
abbrev setObj_ (w : World) (b : Nat) (o : Obj) : World := { w with heap := w.heap.setIfInBounds b o }
theorem setObj_chg (w : World) (b : Nat) (o : Obj) : Chg (Only b) w (setObj_ w b o) :=
  ⟨rfl, rfl, rfl, by simp, fun k _ hn => by
    have hne : ¬ b = k := fun h => hn h.symm
    simp [hne]⟩
theorem setObj_at {o o' : Obj} (hb : w.heap[b]? = some o) : (setObj_ w b o').heap[b]? = some o' := by
  have hlt := (Array.getElem?_eq_some_iff.1 hb).1
  simp [hlt]
theorem mlen (ht : P.underlying t = some (.map k e)) {es : Array MapEntry} (hb : w.heap[b]? = some (.map es clock)) (ty : TypeId) : (Builtin.len_ #[t] ty #[.map (some b)]).run P w = .ok (.int .i64 es.size) w := by
  simp [Builtin.len_, run_underlying ht, MapKept.run_getObj_map hb, goInt]
theorem mlook_none (ht : P.underlying t = some (.map k e)) (hk : P.underlying k = some d) {key z : Value} (hkey : MapKept.IsKey d key) (hz : (zeroValue e).run P w = .ok z w) (hb : w.heap[b]? = some (.map #[] clock)) :
    (Instr.lookup t (.map (some b)) key true).run P w = .ok (.tuple #[z, .bool false]) w := by
  have hf : Instr.findNow d key ([] : List MapEntry) 0 = some none := rfl
  have hc := MapKept.run_checkKey (w := w) hk hkey true 9999
  simp [Instr.lookup, run_underlying ht, MapKept.run_getObj_map hb, hc, MapKept.run_findKey hk hf, hz, Result.andThen]
theorem mlook_one (ht : P.underlying t = some (.map k e)) (hk : P.underlying k = some d) {key val : Value} {born : Nat} (hkey : MapKept.IsKey d key) (hb : w.heap[b]? = some (.map #[{ key := key, val := val, born := born }] clock)) :
    (Instr.lookup t (.map (some b)) key false).run P w = .ok val w := by
  have hf : Instr.findNow d key [{ key := key, val := val, born := born }] 0 = some (some (0, val)) := by
    obtain ⟨r, h1, h2⟩ := MapKept.sameNow_of_keys hkey hkey
    obtain rfl : r = true := h2.2 rfl
    simp [Instr.findNow, h1]
  have hc := MapKept.run_checkKey (w := w) hk hkey false 9999
  simp [Instr.lookup, run_underlying ht, MapKept.run_getObj_map hb, hc, MapKept.run_findKey hk hf, Result.andThen]
theorem mput_none (ht : P.underlying t = some (.map k e)) (hk : P.underlying k = some d) {key val : Value} (hkey : MapKept.IsKey d key) (hb : w.heap[b]? = some (.map #[] clock)) :
    (Instr.mapUpdate t (.map (some b)) key val).run P w = .ok () (setObj_ w b (.map #[{ key := key, val := val, born := clock }] (clock + 1))) := by
  have hf : Instr.findNow d key ([] : List MapEntry) 0 = some none := rfl
  have hc := MapKept.run_checkKey (w := w) hk hkey false 9999
  simp [Instr.mapUpdate, run_underlying ht, MapKept.run_getObj_map hb, hc, MapKept.run_findKey hk hf, MapKept.run_setObj_map _ hb, Result.andThen]
theorem mdel_one (ht : P.underlying t = some (.map k e)) (hk : P.underlying k = some d) {key val : Value} {born : Nat} (hkey : MapKept.IsKey d key) (hb : w.heap[b]? = some (.map #[{ key := key, val := val, born := born }] clock)) (ty : TypeId) :
    (Builtin.delete_ #[t, k] ty #[.map (some b), key]).run P w = .ok (.tuple #[]) (setObj_ w b (.map #[] clock)) := by
  have hf : Instr.findNow d key [{ key := key, val := val, born := born }] 0 = some (some (0, val)) := by
    obtain ⟨r, h1, h2⟩ := MapKept.sameNow_of_keys hkey hkey
    obtain rfl : r = true := h2.2 rfl
    simp [Instr.findNow, h1]
  have hc := MapKept.run_checkKey (w := w) hk hkey false 9999
  simp [Builtin.delete_, run_underlying ht, MapKept.run_getObj_map hb, hc, MapKept.run_findKey hk hf, MapKept.run_setObj_map _ hb, Result.andThen]
end
end Go.Proofs.YtoefffjhjmjhfaaGreat
