/-
  Manifests in memory.
-/
import Derived.Test.YtkobngipbhjfjaaDoorMfStr
namespace Go.Proofs.YtkobngipbhjfjaaDoor
open Go.RowKit

def I64 (x : Int) : Prop := -9223372036854775808 ≤ x ∧ x ≤ 9223372036854775807
/-- Its numbers are ints, its texts no longer than a text may be. -/
def Pc.Ok (p : Pc) : Prop := I64 p.fr ∧ I64 p.sz ∧ p.path.length ≤ 9223372036854775807
def pcV (p : Pc) : List Value := [.int .i64 p.fr, .int .i64 p.sz, .string (strOf p.path)]
def PcAt (w : World) (b o : Nat) (p : Pc) : Prop := w.cell? ⟨b, o, none⟩ = some (.int .i64 p.fr) ∧ w.cell? ⟨b, o + 1, none⟩ = some (.int .i64 p.sz) ∧ w.cell? ⟨b, o + 2, none⟩ = some (.string (strOf p.path))
structure PcsIn (w : World) (A : Option Addr) (n : Nat) (l : List Pc) : Prop where
  len : l.length = n
  ok : ∀ p ∈ l, p.Ok
  at_ : ∀ (i : Nat) (p : Pc), l[i]? = some p → ∃ b o, A = some ⟨b, o, none⟩ ∧ b < w.heap.size ∧ PcAt w b (o + i * 3) p
def lsV (l : Ls) (A : Option Addr) (n c : Nat) : List Value := [.string (strOf l.name), .int .i64 l.w, .int .i64 l.h, .int .i64 l.bw, .int .i64 l.init.fr, .int .i64 l.init.sz, .string (strOf l.init.path), .slice A n c]
def Ls.Ok (l : Ls) : Prop := l.name.length ≤ 9223372036854775807 ∧ I64 l.w ∧ I64 l.h ∧ I64 l.bw ∧ l.init.Ok ∧ l.pieces.length ≤ 9223372036854775807
structure LsAt (w : World) (b o : Nat) (l : Ls) (A : Option Addr) (n c : Nat) : Prop where
  cells : ∀ (i : Nat) (v : Value), (lsV l A n c)[i]? = some v → w.cell? ⟨b, o + i, none⟩ = some v
  ok : l.Ok
  pcs : PcsIn w A n l.pieces
structure RsIn (w : World) (A : Option Addr) (n : Nat) (ls : List Ls) : Prop where
  len : ls.length = n
  at_ : ∀ (i : Nat) (l : Ls), ls[i]? = some l → ∃ b o A' n' c', A = some ⟨b, o, none⟩ ∧ b < w.heap.size ∧ LsAt w b (o + i * 8) l A' n' c'
/-- A manifest whose renditions lie at A. -/
structure MfIn (w : World) (A : Option Addr) (n : Nat) (m : Mf) : Prop where
  nums : I64 m.scale ∧ I64 m.tick ∧ n ≤ 9223372036854775807
  rs : RsIn w A n m.rends
def mfV (m : Mf) (A : Option Addr) (n c : Nat) : List Value := [.int .i64 m.scale, .int .i64 m.tick, .slice A n c]

section
variable {w w' : World}
theorem cellq {b o : Nat} (hm : Mod (fun _ => False) w w') (hb : b < w.heap.size) : w'.cell? ⟨b, o, none⟩ = w.cell? ⟨b, o, none⟩ := World.cell?_of_block (hm.block b hb (fun h => h))
theorem PcAt.quiet {b o : Nat} {p : Pc} (h : PcAt w b o p) (hm : Mod (fun _ => False) w w') (hb : b < w.heap.size) : PcAt w' b o p :=
  ⟨(cellq hm hb).trans h.1, (cellq hm hb).trans h.2.1, (cellq hm hb).trans h.2.2⟩
theorem PcsIn.quiet {A : Option Addr} {n : Nat} {l : List Pc} (h : PcsIn w A n l) (hm : Mod (fun _ => False) w w') : PcsIn w' A n l :=
  ⟨h.len, h.ok, fun i p hp => by
    obtain ⟨b, o, h1, h2, h3⟩ := h.at_ i p hp
    exact ⟨b, o, h1, Nat.lt_of_lt_of_le h2 hm.size, h3.quiet hm h2⟩⟩
theorem LsAt.quiet {b o : Nat} {l : Ls} {A : Option Addr} {n c : Nat} (h : LsAt w b o l A n c) (hm : Mod (fun _ => False) w w') (hb : b < w.heap.size) : LsAt w' b o l A n c :=
  ⟨fun i v hv => (cellq hm hb).trans (h.cells i v hv), h.ok, h.pcs.quiet hm⟩
theorem RsIn.quiet {A : Option Addr} {n : Nat} {ls : List Ls} (h : RsIn w A n ls) (hm : Mod (fun _ => False) w w') : RsIn w' A n ls :=
  ⟨h.len, fun i l hl => by
    obtain ⟨b, o, A', n', c', h1, h2, h3⟩ := h.at_ i l hl
    exact ⟨b, o, A', n', c', h1, Nat.lt_of_lt_of_le h2 hm.size, h3.quiet hm h2⟩⟩
theorem MfIn.quiet {A : Option Addr} {n : Nat} {m : Mf} (h : MfIn w A n m) (hm : Mod (fun _ => False) w w') : MfIn w' A n m := ⟨h.nums, h.rs.quiet hm⟩
end
end Go.Proofs.YtkobngipbhjfjaaDoor
