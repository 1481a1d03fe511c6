/-
  Strings as lists of bytes.
-/
import Derived.Test.YtkobngipbhjfjaaDoorBytes
import Derived.Test.YtkobngipbhjfjaaDoorMfPlain
namespace Go.Proofs.YtkobngipbhjfjaaDoor
open Go.RowKit

theorem strOf_size (l : List UInt8) : (strOf l).size = l.length := by unfold strOf; show l.toArray.size = _; simp
theorem strOf_toList (l : List UInt8) : (strOf l).toList = l := ByteArray.toList_mk l
theorem strOf_data (l : List UInt8) : (strOf l).data.toList = l := by unfold strOf; simp
theorem strOf_inj {a b : List UInt8} (h : strOf a = strOf b) : a = b := by rw [← strOf_toList a, h, strOf_toList]
theorem strOf_of (s : ByteArray) : strOf s.data.toList = s := by cases s; rfl
theorem run_index_strOf {P : Program} {t : TypeId} (l : List UInt8) (q : IntKind) (k : Nat) (c : UInt8) (h : P.underlying t = some .string) (hk : l[k]? = some c) (w : World) :
    (Instr.index t (.string (strOf l)) (.int q (k : Int))).run P w = .ok (.int .u8 (c.toNat : Int)) w := by
  obtain ⟨hlt, he⟩ := List.getElem?_eq_some_iff.1 hk
  rw [run_index_string w t (strOf l) q k h, dif_pos ⟨by omega, by rw [strOf_size]; omega⟩]
  congr 3
  show ((strOf l)[k]'(by rw [strOf_size]; exact hlt)).toNat = c.toNat
  rw [← he]
  rfl
theorem getE {l : List UInt8} {k : Nat} (h : k < l.length) : l[k]? = some l[k] := List.getElem?_eq_getElem h
theorem all_snoc {p : UInt8 → Bool} {l : List UInt8} {k : Nat} {c : UInt8} (h : (l.take k).all p = true) (hk : l[k]? = some c) (hc : p c = true) : (l.take (k + 1)).all p = true := by
  rw [List.take_add_one, hk, List.all_append, h]
  simp [hc]
theorem all_not {p : UInt8 → Bool} {l : List UInt8} {k : Nat} {c : UInt8} (hk : l[k]? = some c) (hc : p c = false) : l.all p = false := by
  rw [List.all_eq_false]
  exact ⟨c, List.mem_of_getElem? hk, by simp [hc]⟩
theorem all_end {p : UInt8 → Bool} {l : List UInt8} (h : (l.take l.length).all p = true) : l.all p = true := by rwa [List.take_length] at h
end Go.Proofs.YtkobngipbhjfjaaDoor
