/- Bytes as a text, and copies of plain rows. No statement is proved here. -/
import Derived.Test.YtcefaohdikongaaCells
import Derived.Test.YtcefaohdikongaaNums
import Derived.Lib.SliceRun
import Derived.Lib.Bytealg
import Derived.Lib.Bytes
import Derived.Laws.BytesArg
import Derived.Deep.AppendLies
import Derived.BigQuiet
namespace Go.Proofs.Ytcefaohdikongaa
open Go.RowKit

theorem run_convert_bytes_none {P : Program} (w : World) (src e : TypeId) (hs : P.underlying src = some (.slice e)) (he : P.underlying e = some (.int .u8)) (a : Addr) (cap : Nat) (dst : TypeId) (hd : P.underlying dst = some .string) :
    (convert src dst (.slice (some a) 0 cap)).run P w = .ok (.string ByteArray.empty) w := by
  have hl : (loadCells a 0).run P w = .ok ([] : List Value).toArray w := by
    have := run_loadCells_list (P := P) w a [] (fun j v hj => by simp at hj)
    simpa using this
  rw [run_convert_bytes_string w src dst e _ 0 cap hs he hd, run_bytesToString w a 0 cap [] (by simpa using hl), foldl_push_bytes]
  rfl
theorem bytesOf_nums (l : List UInt8) : Lib.bytesOf (nums l) = l := by
  unfold Lib.bytesOf nums
  rw [List.map_map]
  conv => rhs; rw [← List.map_id l]
  apply List.map_congr_left
  intro c _
  simp
theorem nums_getD (l : List UInt8) {i : Nat} (h : i < l.length) : (nums l).getD i 0 = (l[i].toNat : Int) := by simp [nums, h]
/-- What string(..) of bytes gives. -/
theorem conv_bytes {w : World} {A : Nat → Prop} {l : List UInt8} {d : Value} (hd : Rd w A (bD l) d) : (convert 92 9 d).run Try.prog w = .ok (.string (strOfNums (nums l))) w := by
  obtain ⟨p, cap, rfl, h1, h2, h3, h4, h5⟩ := bytes_form hd
  by_cases h0 : 0 < l.length
  · obtain ⟨b, off, rfl, _, _⟩ := h4 h0
    exact run_convert_bytes_arg (P := Try.prog) w 92 5 Try.underlying92 Try.underlying5 b off l.length cap (nums l) (nums_length l) (fun i hi => by rw [nums_getD l hi]; exact h5 b off rfl i hi) _ Try.underlying9
  · have e : l = [] := List.length_eq_zero_iff.1 (by omega)
    subst e
    rcases h3 with ⟨rfl, rfl⟩ | ⟨b, off, rfl⟩ | ⟨a, rfl, _⟩
    · exact run_convert_bytes_nil (P := Try.prog) w 92 5 Try.underlying92 Try.underlying5 _ _ _ Try.underlying9
    · exact run_convert_bytes_arg (P := Try.prog) w 92 5 Try.underlying92 Try.underlying5 b off 0 cap [] rfl (fun i hi => by omega) _ Try.underlying9
    · exact run_convert_bytes_none w 92 5 Try.underlying92 Try.underlying5 a cap _ Try.underlying9
end Go.Proofs.Ytcefaohdikongaa
