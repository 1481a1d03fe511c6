/-
  decoder.Decoder: New, Reset, Sequence, Next; Frame of none; coder.Open of too little.
-/
import Derived.Test.YteppnjgfebcmjaaGreatSynHdr
namespace Go.Proofs.YteppnjgfebcmjaaGreat
open Go.RowKit

def decCells (W H G nx : Int) (fr : List Value) : Array Value := (.int .i64 W :: .int .i64 H :: .int .i64 G :: .int .i64 nx :: fr).toArray
def noFrame : List Value := [.int .i64 0, .int .i64 0, .slice none 0 0, .int .i64 0, .int .i64 0, .slice none 0 0, .int .i64 0, .int .i64 0, .slice none 0 0]

theorem decNext_nil (w : World) : Calls Tryz.prog 16 #[.pointer none] w fun e w' => e = .returned (.int .i64 0) ∧ w = w' := by
  go_enter Tryz.func16, Tryz.ntmps16
  go_wp2_with fail
  go_ret
  exact ⟨rfl, rfl⟩
theorem decSeq_nil (w : World) : Calls Tryz.prog 17 #[.pointer none] w fun e w' => e = .returned (.agg #[.int .i64 0, .int .i64 0, .int .i64 0]) ∧ Mod (fun _ => False) w w' := by
  go_enter Tryz.func17, Tryz.ntmps17
  go_wp2_with fail
  exact bodyPost_ret (v := .agg #[.int .i64 0, .int .i64 0, .int .i64 0]) (by simp [results, Tryz.results17, go_sem]) rfl ⟨rfl, (Mod.refl _ _).alloc _⟩
theorem decReset_nil (w : World) (A : Option Addr) (n c : Nat) : Calls Tryz.prog 20 #[.pointer none, .slice A n c] w fun e w' => e = .returned (.int .i64 1) ∧ w = w' := by
  go_enter Tryz.func20, Tryz.ntmps20
  go_wp2_with fail
  go_ret
  exact ⟨rfl, rfl⟩
set_option maxHeartbeats 1000000 in
theorem decFrame_nil (w : World) (A : Option Addr) (n c : Nat) : Calls Tryz.prog 13 #[.pointer none, .slice A n c] w fun e w' => e = .returned (.tuple #[.agg noFrame.toArray, .int .i64 1]) ∧ Mod (fun _ => False) w w' := by
  go_enter Tryz.func13, Tryz.ntmps13
  go_wp2_with fail
  exact bodyPost_ret (v := .tuple #[.agg noFrame.toArray, .int .i64 1]) (by simp [results, Tryz.results13, go_sem, noFrame]) rfl ⟨rfl, (Mod.refl _ _).alloc _⟩
theorem decNext (w : World) (g : Nat) (W H G nx : Int) (fr : List Value) (hb : Blk w g 60 (decCells W H G nx fr)) : Calls Tryz.prog 16 #[.pointer (some ⟨g, 0, none⟩)] w fun e w' => e = .returned (.int .i64 nx) ∧ w = w' := by
  have c3 : w.cell? ⟨g, 3, none⟩ = some (.int .i64 nx) := hb.cell 3
  clear hb
  go_enter Tryz.func16, Tryz.ntmps16
  go_wp2_with fail
  go_ret
  exact ⟨rfl, rfl⟩
theorem decSeq (w : World) (g : Nat) (W H G nx : Int) (fr : List Value) (hb : Blk w g 60 (decCells W H G nx fr)) : Calls Tryz.prog 17 #[.pointer (some ⟨g, 0, none⟩)] w fun e w' => e = .returned (.agg #[.int .i64 W, .int .i64 H, .int .i64 G]) ∧ Mod (fun _ => False) w w' := by
  have c0 : w.cell? ⟨g, 0, none⟩ = some (.int .i64 W) := hb.cell 0
  have c1 : w.cell? ⟨g, 1, none⟩ = some (.int .i64 H) := hb.cell 1
  have c2 : w.cell? ⟨g, 2, none⟩ = some (.int .i64 G) := hb.cell 2
  have hl := hb.lt
  clear hb
  go_enter Tryz.func17, Tryz.ntmps17
  go_wp2_with fail
  exact bodyPost_ret (v := .agg #[.int .i64 W, .int .i64 H, .int .i64 G]) (by simp [results, Tryz.results17, go_sem]) rfl ⟨rfl, (Mod.refl _ _).alloc _⟩
theorem coderOpen_short (w : World) (A : Option Addr) (n c : Nat) (h : n < 4) : Calls Tryz.prog 60 #[.slice A n c] w fun e w' => e = .returned (.tuple #[.pointer none, .int .i64 41]) ∧ w = w' := by
  go_enter Tryz.func60, Tryz.ntmps60
  go_wp2_with fail
  go_ret2
  exact ⟨rfl, rfl⟩

def ResetPost (w : World) (g : Nat) (l : List UInt8) (e : Ending) (w' : World) : Prop :=
  (seqParse l = none ∧ e = .returned (.int .i64 121) ∧ Mod (fun _ => False) w w') ∨
  ∃ W H G, seqParse l = some (W, H, G) ∧ e = .returned (.int .i64 0) ∧ Blk w' g 60 (decCells W H G 0 noFrame) ∧ Mod (· = g) w w'

set_option maxRecDepth 100000 in
set_option maxHeartbeats 2000000 in
theorem decReset (w : World) (g : Nat) (W0 H0 G0 nx : Int) (fr : List Value) (hfr : fr.length = 9) (hb : Blk w g 60 (decCells W0 H0 G0 nx fr)) (A : Option Addr) (n c : Nat) (l : List UInt8) (hin : BytesIn w A n c l) (hn : n ≤ 1048576) :
    Calls Tryz.prog 20 #[.pointer (some ⟨g, 0, none⟩), .slice A n c] w (ResetPost w g l) := by
  match fr, hfr with
  | [f0, f1, f2, f3, f4, f5, f6, f7, f8], _ =>
    go_enter Tryz.func20, Tryz.ntmps20
    go_wp2_with fail
    refine (parseSeq _ A n c l hin hn).mono ?_
    rintro e w1 ⟨hm, ⟨hnone, rfl⟩ | ⟨W, H, G, hsome, rfl⟩⟩
    · have HN := Lib.hid (And.intro hnone hm)
      clear hnone hm
      go_wp2_with fail
      go_ret
      exact .inl ⟨HN.out.1, rfl, HN.out.2.alloc _⟩
    · have hb1 := hb.keep hm (fun h => h)
      obtain ⟨hc, hf⟩ := hb1.both
      unfold decCells at hc
      have hl := hb1.lt
      have HN := Lib.hid (And.intro hsome (And.intro hm hb1))
      clear hsome hm hb1 hb
      go_wp2_with fail
      go_ret
      obtain ⟨z1, z2, z3⟩ := HN.out
      refine .inr ⟨W, H, G, z1, rfl, ?_, ?_⟩
      · refine Blk.alloc ?_ _
        have z5 := ((((((((((((z3.set_ 0 (.int .i64 W)).set_ 1 (.int .i64 H)).set_ 2 (.int .i64 G)).set_ 3 (.int .i64 0)).set_ 4 (.int .i64 0)).set_ 5 (.int .i64 0)).set_ 6 (.slice none 0 0)).set_ 7 (.int .i64 0)).set_ 8 (.int .i64 0)).set_ 9 (.slice none 0 0)).set_ 10 (.int .i64 0)).set_ 11 (.int .i64 0)).set_ 12 (.slice none 0 0)
        rwa [show (((((((((((((decCells W0 H0 G0 nx [f0, f1, f2, f3, f4, f5, f6, f7, f8]).setIfInBounds 0 (.int .i64 W)).setIfInBounds 1 (.int .i64 H)).setIfInBounds 2 (.int .i64 G)).setIfInBounds 3 (.int .i64 0)).setIfInBounds 4 (.int .i64 0)).setIfInBounds 5 (.int .i64 0)).setIfInBounds 6 (.slice none 0 0)).setIfInBounds 7 (.int .i64 0)).setIfInBounds 8 (.int .i64 0)).setIfInBounds 9 (.slice none 0 0)).setIfInBounds 10 (.int .i64 0)).setIfInBounds 11 (.int .i64 0)).setIfInBounds 12 (.slice none 0 0) = decCells W H G 0 noFrame by simp [decCells, noFrame]] at z5
      · have z4 : Mod (· = g) w w1 := z2.mono (fun _ h => h.elim)
        refine Mod.alloc ?_ _
        exact (by repeat' (first | with_reducible exact z4 | with_reducible refine Mod.setCell ?_ ?_ _ | exact Or.inl rfl))

def NewPost (w : World) (l : List UInt8) (e : Ending) (w' : World) : Prop :=
  Mod (fun _ => False) w w' ∧ ((seqParse l = none ∧ e = .returned (.tuple #[.pointer none, .int .i64 121])) ∨
  ∃ W H G g, seqParse l = some (W, H, G) ∧ e = .returned (.tuple #[.pointer (some ⟨g, 0, none⟩), .int .i64 0]) ∧ Blk w' g 60 (decCells W H G 0 noFrame) ∧ w.heap.size ≤ g)

set_option maxRecDepth 100000 in
set_option maxHeartbeats 2000000 in
theorem decNew (w : World) (A : Option Addr) (n c : Nat) (l : List UInt8) (hin : BytesIn w A n c l) (hn : n ≤ 1048576) : Calls Tryz.prog 11 #[.slice A n c] w (NewPost w l) := by
  have hb : Blk (w.alloc (.cells (decCells 0 0 0 0 noFrame) 60)) w.heap.size 60 (decCells 0 0 0 0 noFrame) := Blk.new _ _ _
  have M0 : Mod (fun _ => False) w (w.alloc (.cells (decCells 0 0 0 0 noFrame) 60)) := (Mod.refl _ _).alloc _
  have c1 := decReset _ w.heap.size 0 0 0 0 noFrame rfl hb A n c l (hin.quiet M0) hn
  clear hin hb
  unfold decCells noFrame at c1 M0
  go_enter Tryz.func11, Tryz.ntmps11
  go_wp2_with fail
  refine c1.mono ?_
  clear c1
  rintro e w1 (⟨hnone, rfl, hm⟩ | ⟨W, H, G, hsome, rfl, hb1, hm⟩)
  · have HN := Lib.hid (And.intro hnone (M0.trans hm))
    clear hnone hm M0
    go_wp2_with fail
    go_ret2
    exact ⟨HN.out.2, .inl ⟨HN.out.1, rfl⟩⟩
  · have HN := Lib.hid (And.intro hsome (And.intro (M0.into hm (fun i e => .inr (by omega))) hb1))
    clear hsome hm M0 hb1
    go_wp2_with fail
    go_ret2
    exact ⟨HN.out.2.1, .inr ⟨W, H, G, _, HN.out.1, rfl, HN.out.2.2, Nat.le_refl _⟩⟩
end Go.Proofs.YteppnjgfebcmjaaGreat
