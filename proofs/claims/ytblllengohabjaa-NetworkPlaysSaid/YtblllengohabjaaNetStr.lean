/-
  string(b) of bytes.
-/
import Derived.Test.YtblllengohabjaaNetBend
import Derived.Laws.BytesString
import Derived.Laws.IdiomStrings
namespace Go.Proofs.Ytblllengohabjaa
open Go.RowKit

/-- The string of bytes. -/
def strOf (l : List UInt8) : ByteArray := ⟨l.toArray⟩

theorem str_src (w : World) (A : Option Addr) (n c : Nat) (l : List UInt8) (hl : l.length = n) (h : Src w 1 A n (u8s l)) : (convert 29 9 (.slice A n c)).run Try.prog w = .ok (.string (strOf l)) w := by
  rw [run_convert_bytes_string w 29 9 5 A n c Try.underlying29 Try.underlying5 Try.underlying9]
  cases A with
  | none =>
    obtain rfl := h.2.1 rfl
    obtain rfl : l = [] := List.eq_nil_of_length_eq_zero hl
    rfl
  | some ad =>
    have hload := run_loadCells_list (P := Try.prog) (w := w) ad (u8s l) (h.2.2 ad rfl)
    rw [u8s_length, hl] at hload
    have e : u8s l = (l.map fun b => (b.toNat : Int)).map (Value.int .u8) := by simp [u8s]
    rw [e] at hload
    rw [run_bytesToString w ad n c (l.map fun b => (b.toNat : Int)) hload, foldl_push_byteCells]
    simp [strOf]
theorem str_bytes {w : World} {B : Nat} {A : Option Addr} {m c : Nat} {l : List UInt8} (h : Bytes w B (.slice A m c) l) : (convert 29 9 (.slice A m c)).run Try.prog w = .ok (.string (strOf l)) w := by
  obtain ⟨rfl, hs⟩ := Src.of_own h
  exact str_src w A _ c l rfl hs
end Go.Proofs.Ytblllengohabjaa
