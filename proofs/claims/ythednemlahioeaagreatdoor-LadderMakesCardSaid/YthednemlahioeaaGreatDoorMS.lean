/-
  Short spellings: terms by coercions, closing tactics by defaults.
-/
import Derived.Test.YthednemlahioeaaGreatDoorRows
import Derived.ProofKit
import Derived.WalkKit
import Derived.Laws.Rows
import Derived.Lib.Hide
namespace Go.Proofs.YthednemlahioeaaGreatDoor
open Go.RowKit
theorem Z8 {p : Prop} (h : p := by omega) : p := h
theorem ZR {p : Prop} (h : p := by kernel_rfl) : p := h
theorem ZU {p : Prop} (h : p := by decide) : p := h
theorem Zr {p : Prop} (h : p := by go_num) : p := h
theorem WL {p : Prop} (h : p := by assumption) : p := h
theorem Ze {p : Prop} (h : p := by simp) : p := h
theorem Cv {p : Prop} [Decidable p] (h : ¬ p := by omega) : decide p = false := decide_eq_false h
theorem oN {p : Prop} [Decidable p] (h : p := by omega) : decide p = true := decide_eq_true h
theorem Xb {c : Prop} [Decidable c] {α : Sort _} {t e : α} (h : ¬ c := by omega) : ite c t e = e := if_neg h
theorem VI {c : Prop} [Decidable c] {α : Sort _} {t e : α} (h : c := by omega) : ite c t e = t := if_pos h
theorem Xc {p : Prop} (h : p := by intro _ _ _ d _ h; cases d <;> exact h) : p := h
theorem Z5 {a b : Prop} (x : a) (y : b) : RowKit.Hid (a ∧ b) := Lib.hid (And.intro x y)
theorem Zb (p : Prop) [Decidable p] (h : p := by omega) : decide p = true := decide_eq_true h
theorem Za (p : Prop) [Decidable p] (h : ¬ p := by omega) : decide p = false := decide_eq_false h
theorem ZL {α : Sort _} (a : α) : ∃ x, x = a := ⟨_, rfl⟩
theorem YD {p : Prop} (h : p := by simp [intOf]; omega) : p := h
theorem Yp {A : Act → Prop} {a a' : Act} (h : A a') (e : ∀ K : Act → Prop, K a' → K a := by intro K hK; go_simp; exact hK) : ∀ K : Act → Prop, (∀ a', A a' → K a') → K a := fun K hK => e K (hK _ h)
theorem YX {P : Program} {id : FuncId} {args : Array Value} {w : World} {v : Value} {R : World → Prop} {Q : Ending → World → Prop} (h : Calls P id args w fun e w' => e = .returned v ∧ R w') (k : ∀ w', R w' → Q (.returned v) w') : Calls P id args w Q :=
  h.mono fun e w' h => by obtain ⟨rfl, h⟩ := h; exact k w' h
theorem YH {P : Program} {id : FuncId} {args : Array Value} {w : World} {v : Value} {Q : Ending → World → Prop} (h : Calls P id args w fun e w' => e = .returned v ∧ w = w') (k : Q (.returned v) w) : Calls P id args w Q :=
  h.mono fun e w' h => by obtain ⟨rfl, rfl⟩ := h; exact k
inductive SZ where
  | mk : Nat → SZ
def Z0 : SZ := .mk 0
inductive SN where
  | mk : Nat → SN
def Zd : SN := .mk 0
inductive SF where
  | mk : Nat → SF
def ZW : SF := .mk 0
inductive SS where
  | mk : Nat → Nat → Nat → SS
def ZZ := SS.mk
inductive SP where
  | mk : Nat → Nat → SP
def ZC := SP.mk
instance alv : Coe Int Value := ⟨fun z => .int .i64 z⟩
instance alu : Coe Nat Value := ⟨fun n => .int .i64 (n : Int)⟩
instance als : Coe SZ Value := ⟨fun _ => .int .i64 0⟩
instance alr : Coe SN Value := ⟨fun _ => .slice none 0 0⟩
instance alq : Coe SF (Nat → Prop) := ⟨fun _ _ => False⟩
instance alp (b k c : Nat) : CoeDep SS (ZZ b k c) Value := ⟨.slice (some ⟨b, 0, none⟩) k c⟩
instance alo (b i : Nat) : CoeDep SP (ZC b i) Value := ⟨.pointer (some ⟨b, i, none⟩)⟩
instance aln : Coe Nat Addr := ⟨fun g => ⟨g, 0, none⟩⟩
inductive SA0 where
  | mk : Nat → SA0
def Ns : SA0 := .mk 0
instance alm : Coe SA0 (Array Value) := ⟨fun _ => #[↑Z0, .bool false, ↑Z0, ↑Z0, ↑Zd, ↑Z0, ↑Z0, ↑Zd, ↑Z0, ↑Z0, ↑Zd, ↑Z0, ↑Z0, ↑Zd, ↑Z0, ↑Z0, ↑Zd, ↑Z0, ↑Z0, ↑Zd, ↑Z0, ↑Z0, ↑Zd, ↑Z0, ↑Z0, ↑Zd, ↑Z0, ↑Z0, ↑Zd, .pointer none, .pointer none]⟩
inductive SA1 where
  | mk : Nat → SA1
def qJ : SA1 := .mk 0
instance alk : Coe SA1 (List Value) := ⟨fun _ => [↑Z0, .bool false, ↑Z0, ↑Z0, ↑Zd, ↑Z0, ↑Z0, ↑Zd, ↑Z0, ↑Z0, ↑Zd, ↑Z0, ↑Z0, ↑Zd, ↑Z0, ↑Z0, ↑Zd, ↑Z0, ↑Z0, ↑Zd, ↑Z0, ↑Z0, ↑Zd, ↑Z0, ↑Z0, ↑Zd, ↑Z0, ↑Z0, ↑Zd, .pointer none, .pointer none]⟩
inductive SA2 where
  | mk : Nat → SA2
def qK : SA2 := .mk 0
instance alj : Coe SA2 (Array Value) := ⟨fun _ => #[↑Z0, .int .u8 0, .int .u8 0, .int .u8 0, .int .u8 0, .int .u8 0, .int .u8 0, .int .u8 0, .int .u8 0, .int .u8 0, .int .u8 0, .int .u8 0, .int .u8 0, .int .u8 0, .int .u8 0, .int .u8 0, .int .u8 0, .int .u8 0]⟩
inductive SA3 where
  | mk : Nat → SA3
def EZ : SA3 := .mk 0
instance ali : Coe SA3 (Array Value) := ⟨fun _ => #[.string ⟨#[]⟩, ↑Z0, ↑Z0, ↑Z0, ↑Z0, ↑Z0, ↑Z0, ↑Zd]⟩
inductive SA4 where
  | mk : Nat → SA4
def WK : SA4 := .mk 0
instance alh : Coe SA4 (Array Value) := ⟨fun _ => #[↑Z0, ↑Z0, ↑Zd, ↑Z0, ↑Z0, ↑Zd, ↑Z0, ↑Z0, ↑Zd]⟩
inductive SA5 where
  | mk : Nat → SA5
def yh : SA5 := .mk 0
instance alg : Coe SA5 (List Value) := ⟨fun _ => [↑Z0, ↑Z0, ↑Zd, ↑Z0, ↑Z0, ↑Zd, ↑Z0, ↑Z0, ↑Zd]⟩
inductive SA6 where
  | mk : Nat → SA6
def MR : SA6 := .mk 0
instance alf : Coe SA6 (Array Value) := ⟨fun _ => #[↑Z0, ↑Z0, ↑Z0, ↑Z0, ↑Z0, ↑Z0, ↑Z0, ↑Z0]⟩
end Go.Proofs.YthednemlahioeaaGreatDoor
