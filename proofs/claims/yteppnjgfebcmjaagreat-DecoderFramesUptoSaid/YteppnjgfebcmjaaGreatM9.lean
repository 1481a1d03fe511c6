/-
  decoder.Decoder: New, Reset, Sequence, Next; Frame of none; coder.Open of too little.
-/
import Derived.Test.YteppnjgfebcmjaaGreatM8
import Derived.Test.YteppnjgfebcmjaaGreatM5
import Derived.BigQuiet
import Derived.ProofKit
import Derived.OpenShut
import Derived.Lib.SmallJoins
namespace Go.Proofs.YteppnjgfebcmjaaGreat
open Go.RowKit

def decCells (W H G nx : Int) (fr : List Value) : Array Value := (.int .i64 W :: .int .i64 H :: .int .i64 G :: .int .i64 nx :: fr).toArray
def noFrame : List Value := [.int .i64 0, .int .i64 0, .slice none 0 0, .int .i64 0, .int .i64 0, .slice none 0 0, .int .i64 0, .int .i64 0, .slice none 0 0]

theorem decNext_nil (w : World) : Calls Tryz.prog 16 #[.pointer none] w fun e w' => e = .returned (.int .i64 0) ∧ w = w' := by
  go_enter Tryz.func16, Tryz.ntmps16
  go_wp2_with fail
  go_ret
  exact ⟨rfl, rfl⟩
theorem decSeq_nil (w : World) : Calls Tryz.prog 17 #[.pointer none] w fun e w' => e = .returned (.agg #[.int .i64 0, .int .i64 0, .int .i64 0]) ∧ Mod (fun _ => False) w w' := by
  go_enter Tryz.func17, Tryz.ntmps17
  go_wp2_with fail
  exact bodyPost_ret (v := .agg #[.int .i64 0, .int .i64 0, .int .i64 0]) (by simp [results, Tryz.results17, go_sem]) rfl ⟨rfl, (Mod.refl _ _).alloc _⟩
theorem decReset_nil (w : World) (A : Option Addr) (n c : Nat) : Calls Tryz.prog 20 #[.pointer none, .slice A n c] w fun e w' => e = .returned (.int .i64 1) ∧ w = w' := by
  go_enter Tryz.func20, Tryz.ntmps20
  go_wp2_with fail
  go_ret
  exact ⟨rfl, rfl⟩
set_option maxHeartbeats 1000000 in
theorem decFrame_nil (w : World) (A : Option Addr) (n c : Nat) : Calls Tryz.prog 13 #[.pointer none, .slice A n c] w fun e w' => e = .returned (.tuple #[.agg noFrame.toArray, .int .i64 1]) ∧ Mod (fun _ => False) w w' := by
  go_enter Tryz.func13, Tryz.ntmps13
  go_wp2_with fail
  exact bodyPost_ret (v := .tuple #[.agg noFrame.toArray, .int .i64 1]) (by simp [results, Tryz.results13, go_sem, noFrame]) rfl ⟨rfl, (Mod.refl _ _).alloc _⟩
theorem decNext (w : World) (g : Nat) (W H G nx : Int) (fr : List Value) (hb : Blk w g 60 (decCells W H G nx fr)) : Calls Tryz.prog 16 #[.pointer (some ⟨g, 0, none⟩)] w fun e w' => e = .returned (.int .i64 nx) ∧ w = w' := by
  have c3 : w.cell? ⟨g, 3, none⟩ = some (.int .i64 nx) := hb.cell 3
  clear hb
  go_enter Tryz.func16, Tryz.ntmps16
  go_wp2_with fail
  go_ret
  exact ⟨rfl, rfl⟩
theorem decSeq (w : World) (g : Nat) (W H G nx : Int) (fr : List Value) (hb : Blk w g 60 (decCells W H G nx fr)) : Calls Tryz.prog 17 #[.pointer (some ⟨g, 0, none⟩)] w fun e w' => e = .returned (.agg #[.int .i64 W, .int .i64 H, .int .i64 G]) ∧ Mod (fun _ => False) w w' := by
  have c0 : w.cell? ⟨g, 0, none⟩ = some (.int .i64 W) := hb.cell 0
  have c1 : w.cell? ⟨g, 1, none⟩ = some (.int .i64 H) := hb.cell 1
  have c2 : w.cell? ⟨g, 2, none⟩ = some (.int .i64 G) := hb.cell 2
  have hl := hb.lt
  clear hb
  go_enter Tryz.func17, Tryz.ntmps17
  go_wp2_with fail
  exact bodyPost_ret (v := .agg #[.int .i64 W, .int .i64 H, .int .i64 G]) (by simp [results, Tryz.results17, go_sem]) rfl ⟨rfl, (Mod.refl _ _).alloc _⟩
theorem coderOpen_short (w : World) (A : Option Addr) (n c : Nat) (h : n < 4) : Calls Tryz.prog 60 #[.slice A n c] w fun e w' => e = .returned (.tuple #[.pointer none, .int .i64 41]) ∧ w = w' := by
  go_enter Tryz.func60, Tryz.ntmps60
  go_wp2_with fail
  go_ret2
  exact ⟨rfl, rfl⟩

def ResetPost (w : World) (g : Nat) (l : List UInt8) (e : Ending) (w' : World) : Prop :=
  (seqParse l = none ∧ e = .returned (.int .i64 121) ∧ Mod (fun _ => False) w w') ∨
  ∃ W H G, seqParse l = some (W, H, G) ∧ e = .returned (.int .i64 0) ∧ Blk w' g 60 (decCells W H G 0 noFrame) ∧ Mod (· = g) w w'

set_option maxRecDepth 100000 in
set_option maxHeartbeats 2000000 in
theorem decReset (w : World) (g : Nat) (W0 H0 G0 nx : Int) (fr : List Value) (hfr : fr.length = 9) (hb : Blk w g 60 (decCells W0 H0 G0 nx fr)) (A : Option Addr) (n c : Nat) (l : List UInt8) (hin : BytesIn w A n c l) (hn : n ≤ 1048576) :
    Calls Tryz.prog 20 #[.pointer (some ⟨g, 0, none⟩), .slice A n c] w (ResetPost w g l) := by
  match fr, hfr with
  | [f0, f1, f2, f3, f4, f5, f6, f7, f8], _ =>
    go_enter Tryz.func20, Tryz.ntmps20
    go_wp2_with fail
    refine (parseSeq _ A n c l hin hn).mono ?_
    rintro e w1 ⟨hm, ⟨hnone, rfl⟩ | ⟨W, H, G, hsome, rfl⟩⟩
    · have HN := Lib.hid (And.intro hnone hm)
      clear hnone hm
      go_wp2_with fail
      go_ret
      exact .inl ⟨HN.out.1, rfl, HN.out.2.alloc _⟩
    · have hb1 := hb.keep hm (fun h => h)
      obtain ⟨hc, hf⟩ := hb1.both
      unfold decCells at hc
      have hl := hb1.lt
      have HN := Lib.hid (And.intro hsome (And.intro hm hb1))
      clear hsome hm hb1 hb
      go_wp2_with fail
      go_ret
      obtain ⟨z1, z2, z3⟩ := HN.out
      refine .inr ⟨W, H, G, z1, rfl, ?_, ?_⟩
      · refine Blk.alloc ?_ _
        have z5 := ((((((((((((z3.set_ 0 (.int .i64 W)).set_ 1 (.int .i64 H)).set_ 2 (.int .i64 G)).set_ 3 (.int .i64 0)).set_ 4 (.int .i64 0)).set_ 5 (.int .i64 0)).set_ 6 (.slice none 0 0)).set_ 7 (.int .i64 0)).set_ 8 (.int .i64 0)).set_ 9 (.slice none 0 0)).set_ 10 (.int .i64 0)).set_ 11 (.int .i64 0)).set_ 12 (.slice none 0 0)
        rwa [show (((((((((((((decCells W0 H0 G0 nx [f0, f1, f2, f3, f4, f5, f6, f7, f8]).setIfInBounds 0 (.int .i64 W)).setIfInBounds 1 (.int .i64 H)).setIfInBounds 2 (.int .i64 G)).setIfInBounds 3 (.int .i64 0)).setIfInBounds 4 (.int .i64 0)).setIfInBounds 5 (.int .i64 0)).setIfInBounds 6 (.slice none 0 0)).setIfInBounds 7 (.int .i64 0)).setIfInBounds 8 (.int .i64 0)).setIfInBounds 9 (.slice none 0 0)).setIfInBounds 10 (.int .i64 0)).setIfInBounds 11 (.int .i64 0)).setIfInBounds 12 (.slice none 0 0) = decCells W H G 0 noFrame by simp [decCells, noFrame]] at z5
      · have z4 : Mod (· = g) w w1 := z2.mono (fun _ h => h.elim)
        refine Mod.alloc ?_ _
        exact (by repeat' (first | with_reducible exact z4 | with_reducible refine Mod.setCell ?_ ?_ _ | exact Or.inl rfl))

def NewPost (w : World) (l : List UInt8) (e : Ending) (w' : World) : Prop :=
  Mod (fun _ => False) w w' ∧ ((seqParse l = none ∧ e = .returned (.tuple #[.pointer none, .int .i64 121])) ∨
  ∃ W H G g, seqParse l = some (W, H, G) ∧ e = .returned (.tuple #[.pointer (some ⟨g, 0, none⟩), .int .i64 0]) ∧ Blk w' g 60 (decCells W H G 0 noFrame) ∧ w.heap.size ≤ g)

set_option maxRecDepth 100000 in
set_option maxHeartbeats 2000000 in
theorem decNew (w : World) (A : Option Addr) (n c : Nat) (l : List UInt8) (hin : BytesIn w A n c l) (hn : n ≤ 1048576) : Calls Tryz.prog 11 #[.slice A n c] w (NewPost w l) := by
  have hb : Blk (w.alloc (.cells (decCells 0 0 0 0 noFrame) 60)) w.heap.size 60 (decCells 0 0 0 0 noFrame) := Blk.new _ _ _
  have M0 : Mod (fun _ => False) w (w.alloc (.cells (decCells 0 0 0 0 noFrame) 60)) := (Mod.refl _ _).alloc _
  have c1 := decReset _ w.heap.size 0 0 0 0 noFrame rfl hb A n c l (hin.quiet M0) hn
  clear hin hb
  unfold decCells noFrame at c1 M0
  go_enter Tryz.func11, Tryz.ntmps11
  go_wp2_with fail
  refine c1.mono ?_
  clear c1
  rintro e w1 (⟨hnone, rfl, hm⟩ | ⟨W, H, G, hsome, rfl, hb1, hm⟩)
  · have HN := Lib.hid (And.intro hnone (M0.trans hm))
    clear hnone hm M0
    go_wp2_with fail
    go_ret2
    exact ⟨HN.out.2, .inl ⟨HN.out.1, rfl⟩⟩
  · have HN := Lib.hid (And.intro hsome (And.intro (M0.into hm (fun i e => .inr (by omega))) hb1))
    clear hsome hm M0 hb1
    go_wp2_with fail
    go_ret2
    exact ⟨HN.out.2.1, .inr ⟨W, H, G, _, HN.out.1, rfl, HN.out.2.2, Nat.le_refl _⟩⟩
end Go.Proofs.YteppnjgfebcmjaaGreat

/-
  The reference's Sequence at one sequence.
-/
namespace Go.Proofs.YteppnjgfebcmjaaGreat
open Go.RowKit

set_option maxRecDepth 100000 in
set_option maxHeartbeats 4000000 in
theorem refRight4 (w : World) : Calls Tryz.prog 49 #[.agg #[.int .i64 16, .int .i64 16, .int .i64 4]] w fun e w' => e = .returned (.bool true) ∧ Mod (fun _ => False) w w' := by
  go_enter Tryz.func49, Tryz.ntmps49
  go_wp2_with fail
  go_ret
  exact ⟨rfl, (Mod.refl _ _).alloc _⟩

def bits4 : List UInt8 := digitsL 19273 16 ++ codeL 0 ++ codeL 0 ++ codeL 3
theorem pack4 : packL bits4 = [75, 73, 200] := by decide +kernel
theorem seq4 : seqParse [75, 73, 200] = some (16, 16, 4) := by decide +kernel
theorem hdr4 : hdrParse [192] 16 16 4 = some ((true, 0, 0), 8) := by decide +kernel

theorem own_low {w : World} {B B' : Nat} {e : TypeId} {size n : Nat} {v : Value} {xs : List Value} (h : w.ownsRow B e size v n xs) (hB : B' ≤ B) : w.ownsRow B' e size v n xs := by
  refine ⟨h.1, ?_⟩
  rcases h.2 with hn | ⟨g, cap, cur, hv, hb, rest⟩
  · exact .inl hn
  · exact .inr ⟨g, cap, cur, hv, Nat.le_trans hB hb, rest⟩
set_option maxRecDepth 100000 in
set_option maxHeartbeats 4000000 in
theorem refSeq4 (w : World) : Calls Tryz.prog 24 #[.agg #[.int .i64 16, .int .i64 16, .int .i64 4]] w fun e w' => ∃ s, e = .returned (.tuple #[s, .int .i64 0]) ∧ Bytes w' w.heap.size s [75, 73, 200] ∧ Mod (fun _ => False) w w' := by
  obtain ⟨i0, hi0, hz0, hz1, hz2⟩ := info_parts u8_info
  go_enter Tryz.func24, Tryz.ntmps24
  go_wp2_with fail
  refine (refRight4 _).mono ?_
  rintro e w1 ⟨rfl, hm1⟩
  have hb0 : Blk (w.alloc (.cells #[.int .i64 16, .int .i64 16, .int .i64 4] 43)) w.heap.size 43 #[.int .i64 16, .int .i64 16, .int .i64 4] := Blk.new _ _ _
  have hb1 : Blk w1 w.heap.size 43 #[.int .i64 16, .int .i64 16, .int .i64 4] := hb0.keep hm1 (fun h => h)
  have M1 : Mod (fun _ => False) w w1 := ((Mod.refl _ _).alloc _).trans hm1
  have hlt := M1.size
  clear hm1 hb0
  go_wp2_with fail
  refine (refDigits w1 19273 16 (by omega) (by omega)).mono ?_
  rintro e w2 ⟨s2, rfl, hs2, hm2⟩
  have hs2' : w2.ownsRow w.heap.size 5 1 s2 16 (u8s (digitsL 19273 16)) := by
    have := own_low hs2 hlt
    rwa [digitsL_length] at this
  obtain ⟨A2, d2, rfl⟩ := own_shape hs2'
  have hb2 := hb1.keep hm2 (fun h => h)
  have M2 := M1.trans hm2
  clear hm2 hs2 hb1 M1 hlt
  have f2 : w2.cell? ⟨w.heap.size, 0, none⟩ = some (.int .i64 16) := hb2.cell 0
  have HK2 := Lib.hid (And.intro hs2' (And.intro hb2 M2))
  have hlt2 := M2.size
  clear hs2' hb2 M2
  go_wp2_with fail
  refine (refCode w2 0 (by omega)).mono ?_
  rintro e w3 ⟨s3, rfl, hs3, hm3⟩
  have hs3' : w3.ownsRow w2.heap.size 5 1 s3 1 (u8s (codeL 0)) := hs3
  obtain ⟨A3, d3, rfl⟩ := own_shape hs3'
  obtain ⟨hs2', hb2, M2⟩ := HK2.out
  have q2a : w3.ownsRow w.heap.size 5 1 (.slice A2 16 d2) 16 (u8s (digitsL 19273 16)) := own_mod hs2' hm3 (fun _ _ h => h)
  have q2b := (Src.of_own hs3').2
  have q2c : A3 = none → d3 = 0 := (Bytes.in_ hs3').2.1
  have M3 := M2.trans hm3
  have hb3 := hb2.keep hm3 (fun h => h)
  have HX2 := Lib.hid (And.intro q2a (And.intro q2b (And.intro q2c (And.intro M3.size (And.intro hb3 M3)))))
  clear hs3 hm3 hs3' hs2' hb2 M2 q2a q2b q2c hb3 M3 f2 HK2 hlt2
  go_upto_region 6 with (at_builtin; have _t := HX2; refine wpList_append_src _ rfl (.tmp 11) (.tmp 17) _ rfl w.heap.size 5 i0 _ 1 1 Tryz.underlying22 hi0 hz0 hz1 hz2 rfl (by omega) (.slice A2 16 d2) 16 (u8s (digitsL 19273 16)) rfl HX2.out.1 A3 1 d3 (u8s (codeL 0)) rfl HX2.out.2.1 HX2.out.2.2.1 (u8s_one _) (by decide) (by decide) HX2.out.2.2.2.1 ?_; intro v4 w4 hown4 hg4 hat4; have HO4 := Lib.hid (And.intro hown4 hg4); clear hown4 hg4 hat4 _t)
  have hs4' : w4.ownsRow w.heap.size 5 1 v4 17 (u8s (digitsL 19273 16 ++ codeL 0)) := by
    have := HO4.out.1
    rwa [show u8s (digitsL 19273 16 ++ codeL 0) = _ from List.map_append]
  have Ma4 : Mod (fun i => (Value.slice A2 16 d2).ownBlock = some i) w3 w4 := (Mod.refl _ _).grown HO4.out.2 (fun i hi => .inl hi)
  obtain ⟨A4, d4, rfl⟩ := own_shape hs4'
  have M4 := HX2.out.2.2.2.2.2.into Ma4 (fun i e => .inr (HX2.out.1.lt i e).1)
  have hb4 := HX2.out.2.2.2.2.1.keep Ma4 (own_ne_blk HX2.out.1 HX2.out.2.2.2.2.1 (by decide))
  clear HO4 Ma4 HX2
  have f4 : w4.cell? ⟨w.heap.size, 1, none⟩ = some (.int .i64 16) := hb4.cell 1
  have HK4 := Lib.hid (And.intro hs4' (And.intro hb4 M4))
  have hlt4 := M4.size
  clear hs4' hb4 M4
  go_wp2_with fail
  refine (refCode w4 0 (by omega)).mono ?_
  rintro e w5 ⟨s5, rfl, hs5, hm5⟩
  have hs5' : w5.ownsRow w4.heap.size 5 1 s5 1 (u8s (codeL 0)) := hs5
  obtain ⟨A5, d5, rfl⟩ := own_shape hs5'
  obtain ⟨hs4', hb4, M4⟩ := HK4.out
  have q4a : w5.ownsRow w.heap.size 5 1 (.slice A4 17 d4) 17 (u8s (digitsL 19273 16 ++ codeL 0)) := own_mod hs4' hm5 (fun _ _ h => h)
  have q4b := (Src.of_own hs5').2
  have q4c : A5 = none → d5 = 0 := (Bytes.in_ hs5').2.1
  have M5 := M4.trans hm5
  have hb5 := hb4.keep hm5 (fun h => h)
  have HX4 := Lib.hid (And.intro q4a (And.intro q4b (And.intro q4c (And.intro M5.size (And.intro hb5 M5)))))
  clear hs5 hm5 hs5' hs4' hb4 M4 q4a q4b q4c hb5 M5 f4 HK4 hlt4
  go_upto_region 7 with (at_builtin; have _t := HX4; refine wpList_append_src _ rfl (.tmp 19) (.tmp 25) _ rfl w.heap.size 5 i0 _ 1 1 Tryz.underlying22 hi0 hz0 hz1 hz2 rfl (by omega) (.slice A4 17 d4) 17 (u8s (digitsL 19273 16 ++ codeL 0)) rfl HX4.out.1 A5 1 d5 (u8s (codeL 0)) rfl HX4.out.2.1 HX4.out.2.2.1 (u8s_one _) (by decide) (by decide) HX4.out.2.2.2.1 ?_; intro v6 w6 hown6 hg6 hat6; have HO6 := Lib.hid (And.intro hown6 hg6); clear hown6 hg6 hat6 _t)
  have hs6' : w6.ownsRow w.heap.size 5 1 v6 18 (u8s (digitsL 19273 16 ++ codeL 0 ++ codeL 0)) := by
    have := HO6.out.1
    rwa [show u8s (digitsL 19273 16 ++ codeL 0 ++ codeL 0) = _ from List.map_append]
  have Ma6 : Mod (fun i => (Value.slice A4 17 d4).ownBlock = some i) w5 w6 := (Mod.refl _ _).grown HO6.out.2 (fun i hi => .inl hi)
  obtain ⟨A6, d6, rfl⟩ := own_shape hs6'
  have M6 := HX4.out.2.2.2.2.2.into Ma6 (fun i e => .inr (HX4.out.1.lt i e).1)
  have hb6 := HX4.out.2.2.2.2.1.keep Ma6 (own_ne_blk HX4.out.1 HX4.out.2.2.2.2.1 (by decide))
  clear HO6 Ma6 HX4
  have f6 : w6.cell? ⟨w.heap.size, 2, none⟩ = some (.int .i64 4) := hb6.cell 2
  have HK6 := Lib.hid (And.intro hs6' (And.intro hb6 M6))
  have hlt6 := M6.size
  clear hs6' hb6 M6
  go_wp2_with fail
  refine (refCode w6 3 (by omega)).mono ?_
  rintro e w7 ⟨s7, rfl, hs7, hm7⟩
  have hs7' : w7.ownsRow w6.heap.size 5 1 s7 5 (u8s (codeL 3)) := hs7
  obtain ⟨A7, d7, rfl⟩ := own_shape hs7'
  obtain ⟨hs6', hb6, M6⟩ := HK6.out
  have q6a : w7.ownsRow w.heap.size 5 1 (.slice A6 18 d6) 18 (u8s (digitsL 19273 16 ++ codeL 0 ++ codeL 0)) := own_mod hs6' hm7 (fun _ _ h => h)
  have q6b := (Src.of_own hs7').2
  have q6c : A7 = none → d7 = 0 := (Bytes.in_ hs7').2.1
  have M7 := M6.trans hm7
  have hb7 := hb6.keep hm7 (fun h => h)
  have HX6 := Lib.hid (And.intro q6a (And.intro q6b (And.intro q6c (And.intro M7.size (And.intro hb7 M7)))))
  clear hs7 hm7 hs7' hs6' hb6 M6 q6a q6b q6c hb7 M7 f6 HK6 hlt6
  go_upto_region 8 with (at_builtin; have _t := HX6; refine wpList_append_src _ rfl (.tmp 27) (.tmp 32) _ rfl w.heap.size 5 i0 _ 1 1 Tryz.underlying22 hi0 hz0 hz1 hz2 rfl (by omega) (.slice A6 18 d6) 18 (u8s (digitsL 19273 16 ++ codeL 0 ++ codeL 0)) rfl HX6.out.1 A7 5 d7 (u8s (codeL 3)) rfl HX6.out.2.1 HX6.out.2.2.1 (u8s_one _) (by decide) (by decide) HX6.out.2.2.2.1 ?_; intro v8 w8 hown8 hg8 hat8; have HO8 := Lib.hid (And.intro hown8 hg8); clear hown8 hg8 hat8 _t)
  have hs8' : w8.ownsRow w.heap.size 5 1 v8 23 (u8s (digitsL 19273 16 ++ codeL 0 ++ codeL 0 ++ codeL 3)) := by
    have := HO8.out.1
    rwa [show u8s (digitsL 19273 16 ++ codeL 0 ++ codeL 0 ++ codeL 3) = _ from List.map_append]
  have Ma8 : Mod (fun i => (Value.slice A6 18 d6).ownBlock = some i) w7 w8 := (Mod.refl _ _).grown HO8.out.2 (fun i hi => .inl hi)
  obtain ⟨A8, d8, rfl⟩ := own_shape hs8'
  have M8 := HX6.out.2.2.2.2.2.into Ma8 (fun i e => .inr (HX6.out.1.lt i e).1)
  have hb8 := HX6.out.2.2.2.2.1.keep Ma8 (own_ne_blk HX6.out.1 HX6.out.2.2.2.2.1 (by decide))
  clear HO8 Ma8 HX6
  have HK8 := Lib.hid (And.intro hs8' M8)
  have hin8 : BytesIn w8 A8 23 d8 bits4 := Bytes.in_ hs8'
  have HIN := Lib.hid hin8
  have hlt8 := M8.size
  clear hs8' M8 hb8 hin8
  go_wp2_with fail
  refine (refPack w8 A8 23 d8 bits4 HIN.out (by omega) (by omega)).mono ?_
  rintro e w9 ⟨s9, rfl, hs9, hm9⟩
  rw [pack4] at hs9
  have HF := Lib.hid (And.intro (own_low hs9 hlt8) hm9)
  obtain ⟨A9, d9, rfl⟩ := own_shape hs9
  clear hs9 hm9
  go_wp2_with fail
  go_ret2
  exact ⟨_, rfl, HF.out.1, HK8.out.2.trans HF.out.2⟩
end Go.Proofs.YteppnjgfebcmjaaGreat

/-
  A decoder's Frame of one byte.
-/
namespace Go.Proofs.YteppnjgfebcmjaaGreat
open Go.RowKit

set_option maxRecDepth 100000 in
set_option maxHeartbeats 4000000 in
theorem built_short (w : World) (g : Nat) (K : Bool) (N Q : Int) (A : Option Addr) (n c : Nat) (h : n < 4) : Calls Tryz.prog 26 #[.pointer (some ⟨g, 0, none⟩), .agg #[.bool K, .int .i64 N, .int .i64 Q], .slice A n c] w fun e w' => e = .returned (.tuple #[.agg noFrame.toArray, .int .i64 41]) ∧ Mod (fun _ => False) w w' := by
  go_enter Tryz.func26, Tryz.ntmps26
  go_wp2_with fail
  refine (coderOpen_short _ A n c h).mono ?_
  rintro e w1 ⟨rfl, rfl⟩
  go_wp2_with fail
  exact bodyPost_ret (v := .tuple #[.agg noFrame.toArray, .int .i64 41]) (by simp [results, Tryz.results26, go_sem, noFrame]) rfl ⟨rfl, ((Mod.refl _ _).alloc _).alloc _⟩

set_option maxRecDepth 100000 in
set_option maxHeartbeats 4000000 in
theorem frame_short (w : World) (g : Nat) (fr : List Value) (hb : Blk w g 60 (decCells 16 16 4 0 fr)) (A : Option Addr) (c : Nat) (hin : BytesIn w A 1 c [192]) : Calls Tryz.prog 13 #[.pointer (some ⟨g, 0, none⟩), .slice A 1 c] w fun e w' => e = .returned (.tuple #[.agg noFrame.toArray, .int .i64 132]) ∧ Mod (fun _ => False) w w' := by
  have c0 : w.cell? ⟨g, 0, none⟩ = some (.int .i64 16) := hb.cell 0
  have c1 : w.cell? ⟨g, 1, none⟩ = some (.int .i64 16) := hb.cell 1
  have c2 : w.cell? ⟨g, 2, none⟩ = some (.int .i64 4) := hb.cell 2
  have hF : Blk (w.alloc (.cells noFrame.toArray 37)) w.heap.size 37 noFrame.toArray := Blk.new _ _ _
  have M0 : Mod (fun _ => False) w (w.alloc (.cells noFrame.toArray 37)) := (Mod.refl _ _).alloc _
  have p1 := parseHdr _ A 1 c [192] 16 16 4 (hin.quiet M0) (by omega)
  have hg := hb.lt
  clear hin hb
  unfold noFrame at *
  go_enter Tryz.func13, Tryz.ntmps13
  go_wp2_with fail
  refine p1.mono ?_
  clear p1
  rintro e w1 ⟨hm1, ⟨hnone, rfl⟩ | ⟨K, N, Q, a4, v, hsome, rfl, hv⟩⟩
  · rw [hdr4] at hnone
    cases hnone
  rw [hdr4] at hsome
  obtain ⟨⟨rfl, rfl, rfl⟩, rfl⟩ : (K = true ∧ 0 = N ∧ 0 = Q) ∧ 8 = a4 := by simpa using hsome
  have hF1 := hF.keep hm1 (fun h => h)
  have M1 := M0.trans hm1
  obtain ⟨A1, d1, rfl⟩ := own_shape hv
  have HH := Lib.hid (And.intro hF1 M1)
  clear hF hm1 M0 hsome hv hF1 M1 c0 c1 c2
  go_upto_region 6 with (fail)
  go_quiet (fail)
  go_wp2_with fail
  refine (built_short _ g true 0 0 A1 _ d1 (by simp)).mono ?_
  rintro e w3 ⟨rfl, hm3⟩
  have hF3 := Blk.keep ((HH.out.1.alloc _).drewN _) hm3 (fun h => h)
  have M3 := Mod.trans ((HH.out.2.alloc _).drewN _) hm3
  obtain ⟨hc, hf⟩ := hF3.both
  have hl := hF3.lt
  have HM := Lib.hid (And.intro hF3 M3)
  clear HH hm3 hF3 M3
  unfold noFrame
  go_wp2_with fail
  refine bodyPost_ret (v := .tuple #[.agg noFrame.toArray, .int .i64 132]) (by simp [results, Tryz.results13, go_sem, noFrame, hc, hl]) rfl ⟨rfl, ?_⟩
  have M3 := HM.out.2
  exact (by repeat' (first | with_reducible exact M3 | with_reducible refine Mod.alloc ?_ _ | with_reducible refine Mod.setCell ?_ ?_ _ | exact Or.inr (Nat.le_refl _)))
end Go.Proofs.YteppnjgfebcmjaaGreat

/-
  The live question of layer 13.
-/
namespace Go.Proofs.YteppnjgfebcmjaaGreat
open Go.RowKit

theorem IntsOwn.of_blk {w : World} {B g : Nat} {l : List Int} (hB : B ≤ g) (h : Blk w g 3 (i64s l).toArray) (hl : l.length ≤ maxLen) : IntsOwn w B (.slice (some ⟨g, 0, none⟩) l.length l.length) l :=
  ⟨by simp [i64s], .inr ⟨g, l.length, _, rfl, hB, h, Nat.le_refl _, hl, by simp [i64s], by rw [Nat.mul_one]; exact List.take_of_length_le (by simp [i64s])⟩⟩
def lv30 : List Int := 30 :: List.replicate 63 0
theorem build30 : buildL (List.replicate 64 0) lv30 0 = some (List.replicate 64 30) := by decide +kernel

set_option maxRecDepth 100000 in
set_option maxHeartbeats 4000000 in
theorem alive13 (w : World) : Calls Tryz.prog 10 #[] w fun e w' => e = .returned (.bool true) ∧ Mod (fun _ => False) w w' := by
  obtain ⟨i0, hi0, hz0, hz1, hz2⟩ := info_parts u8_info
  obtain ⟨i1, hi1, hy0, hy1, hy2⟩ := info_parts int_info
  have x1 : i0.bytes * 64 ≤ 281474976710656 := by rw [hz2]; omega
  have x2 : 64 ≤ maxLen := by unfold maxLen; omega
  have x3 : i1.bytes * 64 ≤ 281474976710656 := by rw [hy2]; omega
  have HX := Lib.hid (And.intro x1 (And.intro x2 x3))
  clear x1 x2 x3
  go_enter Tryz.func10, Tryz.ntmps10
  go_upto_region 2 with (refine wpList_make_full _ rfl (.const (.int .i64 64)) (.const (.int .i64 64)) _ rfl w.heap.size 5 i0 (.int .u8 0) 1 Tryz.underlying22 hi0 hz0 hz1 _ _ _ _ 64 rfl rfl rfl rfl HX.out.1 HX.out.2.1 (Nat.le_refl _) ?_; intro w4 hown4 hg4; have HO := Lib.hid (And.intro hown4 hg4); clear hown4 hg4)
  have M4 : Mod (fun _ => False) w w4 := (Mod.refl _ _).grown HO.out.2 (fun k hk => by cases hk)
  have G4 : Bytes w4 w.heap.size (.slice (some ⟨w.heap.size, 0, none⟩) 64 64) (List.replicate 64 0) := by
    have h := HO.out.1
    rw [Nat.mul_one, made_u8] at h
    exact h
  have HG := Lib.hid (And.intro M4 G4)
  clear M4 G4 HO
  go_upto_region 3 with (refine wpList_make_full _ rfl (.const (.int .i64 64)) (.const (.int .i64 64)) _ rfl w4.heap.size 3 i1 (.int .i64 0) 1 Tryz.underlying48 hi1 hy0 hy1 _ _ _ _ 64 rfl rfl rfl rfl HX.out.2.2 HX.out.2.1 (Nat.le_refl _) ?_; intro w5 hown5 hg5; have HO := Lib.hid (And.intro hown5 hg5); clear hown5 hg5)
  have m5 : Mod (fun _ => False) w4 w5 := (Mod.refl _ _).grown HO.out.2 (fun k hk => by cases hk)
  obtain ⟨hob, _⟩ := own_whole HO.out.1
  rw [Nat.mul_one, made_int] at hob
  obtain ⟨hc, hf⟩ := hob.both
  have c0 : w5.cell? ⟨w4.heap.size, 0, none⟩ = some (.int .i64 0) := by rw [hc]; rfl
  have f0 : w5.frozen? ⟨w4.heap.size, 0, none⟩ = false := hf 0
  have hl := hob.lt
  have hob' := hob.put (i := 0) (u := .int .i64 30) (cs' := (i64s lv30).toArray) (by rfl)
  have m6 : Mod (fun _ => False) w4 (w5.setCell ⟨w4.heap.size, 0, none⟩ (.int .i64 30)) := m5.setCell (.inr (Nat.le_refl _)) _
  have hin : BytesIn (w5.setCell ⟨w4.heap.size, 0, none⟩ (.int .i64 30)) (some ⟨w.heap.size, 0, none⟩) 64 64 (List.replicate 64 0) := HG.out.2.in_.quiet m6
  have hli : IntsIn (w5.setCell ⟨w4.heap.size, 0, none⟩ (.int .i64 30)) (some ⟨w4.heap.size, 0, none⟩) 64 64 lv30 := (IntsOwn.of_blk (Nat.zero_le _) hob' HX.out.2.1).in_
  have B1 := decBuild _ _ 64 64 _ _ 64 64 _ 0 hin hli (by omega) (by omega)
  have HM := Lib.hid (HG.out.1.trans m6)
  clear hc hf hob hob' m5 m6 hin hli HO HG
  go_wp2_with fail
  refine B1.mono ?_
  clear B1
  rintro e w6 ⟨hm6, ⟨hnone, rfl⟩ | ⟨v, bs, hsome, rfl, hv⟩⟩
  · rw [build30] at hnone
    cases hnone
  rw [build30] at hsome
  obtain rfl : List.replicate 64 30 = bs := by injection hsome
  obtain ⟨A1, d1, rfl⟩ := own_shape hv
  have HV := Lib.hid (And.intro (own_base hv HM.out.size) (HM.out.trans hm6))
  rw [List.length_replicate]
  clear hv hm6 HM hsome
  go_wp2_with fail
  refine (refSeq4 _).mono ?_
  rintro e w7 ⟨s7, rfl, hs7, hm7⟩
  obtain ⟨A7, d7, rfl⟩ := own_shape hs7
  have HS := Lib.hid (And.intro hs7 hm7)
  clear hs7 hm7
  go_wp2_with fail
  refine (decNew _ A7 _ d7 [75, 73, 200] HS.out.1.in_ (by simp)).mono ?_
  rintro e w8 ⟨hm8, ⟨hnone, rfl⟩ | ⟨W, H, G, g, hsome, rfl, hb8, hg8⟩⟩
  · rw [seq4] at hnone
    cases hnone
  rw [seq4] at hsome
  obtain ⟨rfl, rfl, rfl⟩ : 16 = W ∧ 16 = H ∧ 4 = G := by simpa using hsome
  have HB := Lib.hid (And.intro hb8 (And.intro hm8 (And.intro hg8 (HV.out.2.trans (HS.out.2.trans hm8)))))
  have hb9 : Bytes w8 w.heap.size (.slice A1 64 d1) (List.replicate 64 30) := own_mod HV.out.1 (HS.out.2.trans hm8) (fun _ _ h => h)
  obtain ⟨r, rfl, hd⟩ := hb9.some_ (by simp)
  have H9 := Lib.hid hb9
  have hl8 := hb8.lt
  clear hsome hb8 hm8 hg8 hb9
  go_upto_region 9 with (fail)
  have F9 := frame_short (w8.alloc (.cells #[.int .u8 192] 5)) g noFrame (HB.out.1.alloc _) (some ⟨w8.heap.size, 0, none⟩) 1 (Bytes.of_blk (l := [192]) (Nat.zero_le _) (Blk.new w8 5 #[.int .u8 192]) (by unfold maxLen; decide)).in_
  go_wp2_with fail
  refine F9.mono ?_
  clear F9
  rintro e w9 ⟨rfl, hm9⟩
  have M9 : Mod (fun _ => False) w8 w9 := ((Mod.refl _ _).alloc _).trans hm9
  have hc9 := own_mod H9.out M9 (fun _ _ h => h)
  have c0 : w9.cell? ⟨r, 0, none⟩ = some (.int .u8 30) := Bytes.cell hc9 0 (by simp)
  have c63 : w9.cell? ⟨r, 63, none⟩ = some (.int .u8 30) := Bytes.cell hc9 63 (by simp)
  have hb9 := HB.out.1.keep M9 (fun h => h)
  have hr : r < w9.heap.size := (Bytes.in_ hc9).2.2.2 (by omega) _ rfl
  have S9 := decSeq _ g 16 16 4 0 noFrame (hb9.alloc (.cells noFrame.toArray 37))
  have HK := Lib.hid (And.intro hb9 (HB.out.2.2.2.trans M9))
  clear hm9 M9 hc9 hb9
  unfold noFrame
  go_wp2_with fail
  refine S9.mono ?_
  clear S9
  rintro e w10 ⟨rfl, hm10⟩
  have N10 := decNext w10 g 16 16 4 0 noFrame ((HK.out.1.alloc _).keep hm10 (fun h => h))
  have HL := Lib.hid ((HK.out.2.alloc _).trans hm10)
  clear hm10
  have fk : ∀ w, (Instr.field 43 (.agg #[.int .i64 16, .int .i64 16, .int .i64 4]) 2).run Tryz.prog w = .ok (.int .i64 4) w := fun _ => by kernel_rfl
  go_wp2_with fail
  refine N10.mono ?_
  rintro e w11 ⟨rfl, rfl⟩
  go_wp2_with fail
  go_ret
  exact ⟨rfl, HL.out⟩
end Go.Proofs.YteppnjgfebcmjaaGreat

/-
  Arguments opened: bytes, ints.
-/
namespace Go.Proofs.YteppnjgfebcmjaaGreat
open Go.RowKit Go.ChangeShapes Go.WideShapes Go.ChangeAt Go.Joins

section
variable {H : Type} {enc : TypeId × Value → H} {w : World} {base : Nat} {held : Bool}

theorem u8_back (zs : List Int) (h : ∀ n ∈ zs, (Lit.int .u8 n).wf = true) : u8s (zs.map fun n => UInt8.ofNat n.toNat) = zs.map (Value.int .u8) := by
  unfold u8s
  rw [List.map_map]
  refine List.map_congr_left fun n hn => ?_
  have hb := bounds_u8 (h n hn)
  have e : ((UInt8.ofNat n.toNat).toNat : Int) = n := by
    rw [UInt8.toNat_ofNat', Nat.mod_eq_of_lt (by omega)]
    omega
  simp only [Function.comp, e]

/-- A []byte cell that came in. -/
theorem bytes_form {fuel : Nat} {v : Value} {x : DataW H × List MemPlace} (h : DataW.trod enc Tryz.prog w base (fun _ => true) held fuel 22 [v] = some x) :
    ∃ (A : Option Addr) (n c : Nat) (l : List UInt8), v = .slice A n c ∧ n ≤ maxLen ∧ BytesIn w A n c l := by
  rcases open_ints Tryz.underlying22 Tryz.underlying5 (by kernel_rfl) h with ⟨hcs, _⟩ | ⟨a, n, c, zs, hcs, _, hl, hm, hz, _, hcell, hwz⟩
  · injection hcs with hcs
    exact ⟨none, 0, 0, [], hcs, by decide, rfl, fun _ => rfl, Src.nil, fun h0 => absurd h0 (by omega)⟩
  · injection hcs with hcs
    have hz' : zs.length = c := by simpa using hz
    have hb := u8_back (zs.take n) (fun m hm => hwz m (List.mem_of_mem_take hm))
    refine ⟨some a, n, c, (zs.take n).map fun m => UInt8.ofNat m.toNat, hcs, by omega, ?_, (fun h => by cases h), ?_, fun h0 ad e => ?_⟩
    · simp; omega
    · rw [hb]
      refine ⟨by simp; omega, (fun h => by cases h), fun ad e j u hu => ?_⟩
      injection e with e
      subst e
      have hj : j < n := by
        have := (List.getElem?_eq_some_iff.1 hu).1
        simp at this
        omega
      have := hcell j (by omega)
      rw [this, ← hu]
      simp [List.getD_eq_getElem?_getD, hj, show j < zs.length by omega]
    · injection e with e
      subst e
      have := World.block_lt_of_cell? w _ (hcell 0 (by omega))
      rwa [addr_block] at this

theorem bytes_cap {fuel : Nat} {A : Option Addr} {n c : Nat} {x : DataW H × List MemPlace} (h : DataW.trod enc Tryz.prog w base (fun _ => true) held fuel 22 [.slice A n c] = some x) : n ≤ c := by
  rcases open_ints Tryz.underlying22 Tryz.underlying5 (by kernel_rfl) h with ⟨hcs, _⟩ | ⟨a, n', c', zs, hcs, _, hl, _⟩
  · injection hcs with hcs
    injection hcs with _ e2 e3
    omega
  · injection hcs with hcs
    injection hcs with _ e2 e3
    omega
/-- A []int cell that came in. -/
theorem ints_form {fuel : Nat} {v : Value} {x : DataW H × List MemPlace} (h : DataW.trod enc Tryz.prog w base (fun _ => true) held fuel 48 [v] = some x) :
    ∃ (A : Option Addr) (n c : Nat) (l : List Int), v = .slice A n c ∧ n ≤ maxLen ∧ IntsIn w A n c l ∧ (∀ x ∈ l, -9223372036854775808 ≤ x ∧ x ≤ 9223372036854775807) := by
  rcases open_ints Tryz.underlying48 Tryz.underlying3 (by kernel_rfl) h with ⟨hcs, _⟩ | ⟨a, n, c, zs, hcs, _, hl, hm, hz, _, hcell, hwz⟩
  · injection hcs with hcs
    exact ⟨none, 0, 0, [], hcs, by decide, ⟨rfl, fun _ => rfl, Src.nil, fun h0 => absurd h0 (by omega)⟩, fun _ h => by cases h⟩
  · injection hcs with hcs
    have hz' : zs.length = c := by simpa using hz
    refine ⟨some a, n, c, zs.take n, hcs, by omega, ⟨?_, (fun h => by cases h), ?_, fun h0 ad e => ?_⟩, fun x hx => bounds_i64 (hwz x (List.mem_of_mem_take hx))⟩
    · simp; omega
    · refine ⟨by simp [i64s]; omega, (fun h => by cases h), fun ad e j u hu => ?_⟩
      injection e with e
      subst e
      have hj : j < n := by
        have := (List.getElem?_eq_some_iff.1 hu).1
        simp [i64s] at this
        omega
      have := hcell j (by omega)
      rw [this, ← hu]
      simp [i64s, List.getD_eq_getElem?_getD, hj, show j < zs.length by omega]
    · injection e with e
      subst e
      have := World.block_lt_of_cell? w _ (hcell 0 (by omega))
      rwa [addr_block] at this
end
end Go.Proofs.YteppnjgfebcmjaaGreat
