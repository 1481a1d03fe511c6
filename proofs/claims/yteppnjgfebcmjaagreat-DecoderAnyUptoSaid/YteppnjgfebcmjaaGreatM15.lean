/-
  decoder.Decoder: New, Reset, Sequence, Next; Frame of none; coder.Open of too little.
-/
import Derived.Test.YteppnjgfebcmjaaGreatM14
import Derived.Test.YteppnjgfebcmjaaGreatM8
namespace Go.Proofs.YteppnjgfebcmjaaGreat
open Go.RowKit

def decCells (W H G nx : Int) (fr : List Value) : Array Value := (.int .i64 W :: .int .i64 H :: .int .i64 G :: .int .i64 nx :: fr).toArray
def noFrame : List Value := [.int .i64 0, .int .i64 0, .slice none 0 0, .int .i64 0, .int .i64 0, .slice none 0 0, .int .i64 0, .int .i64 0, .slice none 0 0]

theorem decNext_nil (w : World) : Calls Tryz.prog 16 #[.pointer none] w fun e w' => e = .returned (.int .i64 0) ∧ w = w' := by
  go_enter Tryz.func16, Tryz.ntmps16
  go_wp2_with fail
  go_ret
  exact ⟨rfl, rfl⟩
theorem decSeq_nil (w : World) : Calls Tryz.prog 17 #[.pointer none] w fun e w' => e = .returned (.agg #[.int .i64 0, .int .i64 0, .int .i64 0]) ∧ Mod (fun _ => False) w w' := by
  go_enter Tryz.func17, Tryz.ntmps17
  go_wp2_with fail
  exact bodyPost_ret (v := .agg #[.int .i64 0, .int .i64 0, .int .i64 0]) (by simp [results, Tryz.results17, go_sem]) rfl ⟨rfl, (Mod.refl _ _).alloc _⟩
theorem decReset_nil (w : World) (A : Option Addr) (n c : Nat) : Calls Tryz.prog 20 #[.pointer none, .slice A n c] w fun e w' => e = .returned (.int .i64 1) ∧ w = w' := by
  go_enter Tryz.func20, Tryz.ntmps20
  go_wp2_with fail
  go_ret
  exact ⟨rfl, rfl⟩
set_option maxHeartbeats 1000000 in
theorem decFrame_nil (w : World) (A : Option Addr) (n c : Nat) : Calls Tryz.prog 13 #[.pointer none, .slice A n c] w fun e w' => e = .returned (.tuple #[.agg noFrame.toArray, .int .i64 1]) ∧ Mod (fun _ => False) w w' := by
  go_enter Tryz.func13, Tryz.ntmps13
  go_wp2_with fail
  exact bodyPost_ret (v := .tuple #[.agg noFrame.toArray, .int .i64 1]) (by simp [results, Tryz.results13, go_sem, noFrame]) rfl ⟨rfl, (Mod.refl _ _).alloc _⟩
theorem decNext (w : World) (g : Nat) (W H G nx : Int) (fr : List Value) (hb : Blk w g 60 (decCells W H G nx fr)) : Calls Tryz.prog 16 #[.pointer (some ⟨g, 0, none⟩)] w fun e w' => e = .returned (.int .i64 nx) ∧ w = w' := by
  have c3 : w.cell? ⟨g, 3, none⟩ = some (.int .i64 nx) := hb.cell 3
  clear hb
  go_enter Tryz.func16, Tryz.ntmps16
  go_wp2_with fail
  go_ret
  exact ⟨rfl, rfl⟩
theorem decSeq (w : World) (g : Nat) (W H G nx : Int) (fr : List Value) (hb : Blk w g 60 (decCells W H G nx fr)) : Calls Tryz.prog 17 #[.pointer (some ⟨g, 0, none⟩)] w fun e w' => e = .returned (.agg #[.int .i64 W, .int .i64 H, .int .i64 G]) ∧ Mod (fun _ => False) w w' := by
  have c0 : w.cell? ⟨g, 0, none⟩ = some (.int .i64 W) := hb.cell 0
  have c1 : w.cell? ⟨g, 1, none⟩ = some (.int .i64 H) := hb.cell 1
  have c2 : w.cell? ⟨g, 2, none⟩ = some (.int .i64 G) := hb.cell 2
  have hl := hb.lt
  clear hb
  go_enter Tryz.func17, Tryz.ntmps17
  go_wp2_with fail
  exact bodyPost_ret (v := .agg #[.int .i64 W, .int .i64 H, .int .i64 G]) (by simp [results, Tryz.results17, go_sem]) rfl ⟨rfl, (Mod.refl _ _).alloc _⟩
theorem coderOpen_short (w : World) (A : Option Addr) (n c : Nat) (h : n < 4) : Calls Tryz.prog 60 #[.slice A n c] w fun e w' => e = .returned (.tuple #[.pointer none, .int .i64 41]) ∧ w = w' := by
  go_enter Tryz.func60, Tryz.ntmps60
  go_wp2_with fail
  go_ret2
  exact ⟨rfl, rfl⟩

def ResetPost (w : World) (g : Nat) (l : List UInt8) (e : Ending) (w' : World) : Prop :=
  (seqParse l = none ∧ e = .returned (.int .i64 121) ∧ Mod (fun _ => False) w w') ∨
  ∃ W H G, seqParse l = some (W, H, G) ∧ e = .returned (.int .i64 0) ∧ Blk w' g 60 (decCells W H G 0 noFrame) ∧ Mod (· = g) w w'

set_option maxRecDepth 100000 in
set_option maxHeartbeats 2000000 in
theorem decReset (w : World) (g : Nat) (W0 H0 G0 nx : Int) (fr : List Value) (hfr : fr.length = 9) (hb : Blk w g 60 (decCells W0 H0 G0 nx fr)) (A : Option Addr) (n c : Nat) (l : List UInt8) (hin : BytesIn w A n c l) (hn : n ≤ 1048576) :
    Calls Tryz.prog 20 #[.pointer (some ⟨g, 0, none⟩), .slice A n c] w (ResetPost w g l) := by
  match fr, hfr with
  | [f0, f1, f2, f3, f4, f5, f6, f7, f8], _ =>
    go_enter Tryz.func20, Tryz.ntmps20
    go_wp2_with fail
    refine (parseSeq _ A n c l hin hn).mono ?_
    rintro e w1 ⟨hm, ⟨hnone, rfl⟩ | ⟨W, H, G, hsome, rfl⟩⟩
    · have HN := Lib.hid (And.intro hnone hm)
      clear hnone hm
      go_wp2_with fail
      go_ret
      exact .inl ⟨HN.out.1, rfl, HN.out.2.alloc _⟩
    · have hb1 := hb.keep hm (fun h => h)
      obtain ⟨hc, hf⟩ := hb1.both
      unfold decCells at hc
      have hl := hb1.lt
      have HN := Lib.hid (And.intro hsome (And.intro hm hb1))
      clear hsome hm hb1 hb
      go_wp2_with fail
      go_ret
      obtain ⟨z1, z2, z3⟩ := HN.out
      refine .inr ⟨W, H, G, z1, rfl, ?_, ?_⟩
      · refine Blk.alloc ?_ _
        have z5 := ((((((((((((z3.set_ 0 (.int .i64 W)).set_ 1 (.int .i64 H)).set_ 2 (.int .i64 G)).set_ 3 (.int .i64 0)).set_ 4 (.int .i64 0)).set_ 5 (.int .i64 0)).set_ 6 (.slice none 0 0)).set_ 7 (.int .i64 0)).set_ 8 (.int .i64 0)).set_ 9 (.slice none 0 0)).set_ 10 (.int .i64 0)).set_ 11 (.int .i64 0)).set_ 12 (.slice none 0 0)
        rwa [show (((((((((((((decCells W0 H0 G0 nx [f0, f1, f2, f3, f4, f5, f6, f7, f8]).setIfInBounds 0 (.int .i64 W)).setIfInBounds 1 (.int .i64 H)).setIfInBounds 2 (.int .i64 G)).setIfInBounds 3 (.int .i64 0)).setIfInBounds 4 (.int .i64 0)).setIfInBounds 5 (.int .i64 0)).setIfInBounds 6 (.slice none 0 0)).setIfInBounds 7 (.int .i64 0)).setIfInBounds 8 (.int .i64 0)).setIfInBounds 9 (.slice none 0 0)).setIfInBounds 10 (.int .i64 0)).setIfInBounds 11 (.int .i64 0)).setIfInBounds 12 (.slice none 0 0) = decCells W H G 0 noFrame by simp [decCells, noFrame]] at z5
      · have z4 : Mod (· = g) w w1 := z2.mono (fun _ h => h.elim)
        refine Mod.alloc ?_ _
        exact (by repeat' (first | with_reducible exact z4 | with_reducible refine Mod.setCell ?_ ?_ _ | exact Or.inl rfl))

def NewPost (w : World) (l : List UInt8) (e : Ending) (w' : World) : Prop :=
  Mod (fun _ => False) w w' ∧ ((seqParse l = none ∧ e = .returned (.tuple #[.pointer none, .int .i64 121])) ∨
  ∃ W H G g, seqParse l = some (W, H, G) ∧ e = .returned (.tuple #[.pointer (some ⟨g, 0, none⟩), .int .i64 0]) ∧ Blk w' g 60 (decCells W H G 0 noFrame) ∧ w.heap.size ≤ g)

set_option maxRecDepth 100000 in
set_option maxHeartbeats 2000000 in
theorem decNew (w : World) (A : Option Addr) (n c : Nat) (l : List UInt8) (hin : BytesIn w A n c l) (hn : n ≤ 1048576) : Calls Tryz.prog 11 #[.slice A n c] w (NewPost w l) := by
  have hb : Blk (w.alloc (.cells (decCells 0 0 0 0 noFrame) 60)) w.heap.size 60 (decCells 0 0 0 0 noFrame) := Blk.new _ _ _
  have M0 : Mod (fun _ => False) w (w.alloc (.cells (decCells 0 0 0 0 noFrame) 60)) := (Mod.refl _ _).alloc _
  have c1 := decReset _ w.heap.size 0 0 0 0 noFrame rfl hb A n c l (hin.quiet M0) hn
  clear hin hb
  unfold decCells noFrame at c1 M0
  go_enter Tryz.func11, Tryz.ntmps11
  go_wp2_with fail
  refine c1.mono ?_
  clear c1
  rintro e w1 (⟨hnone, rfl, hm⟩ | ⟨W, H, G, hsome, rfl, hb1, hm⟩)
  · have HN := Lib.hid (And.intro hnone (M0.trans hm))
    clear hnone hm M0
    go_wp2_with fail
    go_ret2
    exact ⟨HN.out.2, .inl ⟨HN.out.1, rfl⟩⟩
  · have HN := Lib.hid (And.intro hsome (And.intro (M0.into hm (fun i e => .inr (by omega))) hb1))
    clear hsome hm M0 hb1
    go_wp2_with fail
    go_ret2
    exact ⟨HN.out.2.1, .inr ⟨W, H, G, _, HN.out.1, rfl, HN.out.2.2, Nat.le_refl _⟩⟩
end Go.Proofs.YteppnjgfebcmjaaGreat

/-
  The reference's Sequence at one sequence.
-/
namespace Go.Proofs.YteppnjgfebcmjaaGreat
open Go.RowKit

set_option maxRecDepth 100000 in
set_option maxHeartbeats 4000000 in
theorem refRight4 (w : World) : Calls Tryz.prog 49 #[.agg #[.int .i64 16, .int .i64 16, .int .i64 4]] w fun e w' => e = .returned (.bool true) ∧ Mod (fun _ => False) w w' := by
  go_enter Tryz.func49, Tryz.ntmps49
  go_wp2_with fail
  go_ret
  exact ⟨rfl, (Mod.refl _ _).alloc _⟩

def bits4 : List UInt8 := digitsL 19273 16 ++ codeL 0 ++ codeL 0 ++ codeL 3
theorem pack4 : packL bits4 = [75, 73, 200] := by decide +kernel
theorem seq4 : seqParse [75, 73, 200] = some (16, 16, 4) := by decide +kernel
theorem hdr4 : hdrParse [192] 16 16 4 = some ((true, 0, 0), 8) := by decide +kernel

theorem own_low {w : World} {B B' : Nat} {e : TypeId} {size n : Nat} {v : Value} {xs : List Value} (h : w.ownsRow B e size v n xs) (hB : B' ≤ B) : w.ownsRow B' e size v n xs := by
  refine ⟨h.1, ?_⟩
  rcases h.2 with hn | ⟨g, cap, cur, hv, hb, rest⟩
  · exact .inl hn
  · exact .inr ⟨g, cap, cur, hv, Nat.le_trans hB hb, rest⟩
set_option maxRecDepth 100000 in
set_option maxHeartbeats 4000000 in
theorem refSeq4 (w : World) : Calls Tryz.prog 24 #[.agg #[.int .i64 16, .int .i64 16, .int .i64 4]] w fun e w' => ∃ s, e = .returned (.tuple #[s, .int .i64 0]) ∧ Bytes w' w.heap.size s [75, 73, 200] ∧ Mod (fun _ => False) w w' := by
  obtain ⟨i0, hi0, hz0, hz1, hz2⟩ := info_parts u8_info
  go_enter Tryz.func24, Tryz.ntmps24
  go_wp2_with fail
  refine (refRight4 _).mono ?_
  rintro e w1 ⟨rfl, hm1⟩
  have hb0 : Blk (w.alloc (.cells #[.int .i64 16, .int .i64 16, .int .i64 4] 43)) w.heap.size 43 #[.int .i64 16, .int .i64 16, .int .i64 4] := Blk.new _ _ _
  have hb1 : Blk w1 w.heap.size 43 #[.int .i64 16, .int .i64 16, .int .i64 4] := hb0.keep hm1 (fun h => h)
  have M1 : Mod (fun _ => False) w w1 := ((Mod.refl _ _).alloc _).trans hm1
  have hlt := M1.size
  clear hm1 hb0
  go_wp2_with fail
  refine (refDigits w1 19273 16 (by omega) (by omega)).mono ?_
  rintro e w2 ⟨s2, rfl, hs2, hm2⟩
  have hs2' : w2.ownsRow w.heap.size 5 1 s2 16 (u8s (digitsL 19273 16)) := by
    have := own_low hs2 hlt
    rwa [digitsL_length] at this
  obtain ⟨A2, d2, rfl⟩ := own_shape hs2'
  have hb2 := hb1.keep hm2 (fun h => h)
  have M2 := M1.trans hm2
  clear hm2 hs2 hb1 M1 hlt
  have f2 : w2.cell? ⟨w.heap.size, 0, none⟩ = some (.int .i64 16) := hb2.cell 0
  have HK2 := Lib.hid (And.intro hs2' (And.intro hb2 M2))
  have hlt2 := M2.size
  clear hs2' hb2 M2
  go_wp2_with fail
  refine (refCode w2 0 (by omega)).mono ?_
  rintro e w3 ⟨s3, rfl, hs3, hm3⟩
  have hs3' : w3.ownsRow w2.heap.size 5 1 s3 1 (u8s (codeL 0)) := hs3
  obtain ⟨A3, d3, rfl⟩ := own_shape hs3'
  obtain ⟨hs2', hb2, M2⟩ := HK2.out
  have q2a : w3.ownsRow w.heap.size 5 1 (.slice A2 16 d2) 16 (u8s (digitsL 19273 16)) := own_mod hs2' hm3 (fun _ _ h => h)
  have q2b := (Src.of_own hs3').2
  have q2c : A3 = none → d3 = 0 := (Bytes.in_ hs3').2.1
  have M3 := M2.trans hm3
  have hb3 := hb2.keep hm3 (fun h => h)
  have HX2 := Lib.hid (And.intro q2a (And.intro q2b (And.intro q2c (And.intro M3.size (And.intro hb3 M3)))))
  clear hs3 hm3 hs3' hs2' hb2 M2 q2a q2b q2c hb3 M3 f2 HK2 hlt2
  go_upto_region 6 with (at_builtin; have _t := HX2; refine wpList_append_src _ rfl (.tmp 11) (.tmp 17) _ rfl w.heap.size 5 i0 _ 1 1 Tryz.underlying22 hi0 hz0 hz1 hz2 rfl (by omega) (.slice A2 16 d2) 16 (u8s (digitsL 19273 16)) rfl HX2.out.1 A3 1 d3 (u8s (codeL 0)) rfl HX2.out.2.1 HX2.out.2.2.1 (u8s_one _) (by decide) (by decide) HX2.out.2.2.2.1 ?_; intro v4 w4 hown4 hg4 hat4; have HO4 := Lib.hid (And.intro hown4 hg4); clear hown4 hg4 hat4 _t)
  have hs4' : w4.ownsRow w.heap.size 5 1 v4 17 (u8s (digitsL 19273 16 ++ codeL 0)) := by
    have := HO4.out.1
    rwa [show u8s (digitsL 19273 16 ++ codeL 0) = _ from List.map_append]
  have Ma4 : Mod (fun i => (Value.slice A2 16 d2).ownBlock = some i) w3 w4 := (Mod.refl _ _).grown HO4.out.2 (fun i hi => .inl hi)
  obtain ⟨A4, d4, rfl⟩ := own_shape hs4'
  have M4 := HX2.out.2.2.2.2.2.into Ma4 (fun i e => .inr (HX2.out.1.lt i e).1)
  have hb4 := HX2.out.2.2.2.2.1.keep Ma4 (own_ne_blk HX2.out.1 HX2.out.2.2.2.2.1 (by decide))
  clear HO4 Ma4 HX2
  have f4 : w4.cell? ⟨w.heap.size, 1, none⟩ = some (.int .i64 16) := hb4.cell 1
  have HK4 := Lib.hid (And.intro hs4' (And.intro hb4 M4))
  have hlt4 := M4.size
  clear hs4' hb4 M4
  go_wp2_with fail
  refine (refCode w4 0 (by omega)).mono ?_
  rintro e w5 ⟨s5, rfl, hs5, hm5⟩
  have hs5' : w5.ownsRow w4.heap.size 5 1 s5 1 (u8s (codeL 0)) := hs5
  obtain ⟨A5, d5, rfl⟩ := own_shape hs5'
  obtain ⟨hs4', hb4, M4⟩ := HK4.out
  have q4a : w5.ownsRow w.heap.size 5 1 (.slice A4 17 d4) 17 (u8s (digitsL 19273 16 ++ codeL 0)) := own_mod hs4' hm5 (fun _ _ h => h)
  have q4b := (Src.of_own hs5').2
  have q4c : A5 = none → d5 = 0 := (Bytes.in_ hs5').2.1
  have M5 := M4.trans hm5
  have hb5 := hb4.keep hm5 (fun h => h)
  have HX4 := Lib.hid (And.intro q4a (And.intro q4b (And.intro q4c (And.intro M5.size (And.intro hb5 M5)))))
  clear hs5 hm5 hs5' hs4' hb4 M4 q4a q4b q4c hb5 M5 f4 HK4 hlt4
  go_upto_region 7 with (at_builtin; have _t := HX4; refine wpList_append_src _ rfl (.tmp 19) (.tmp 25) _ rfl w.heap.size 5 i0 _ 1 1 Tryz.underlying22 hi0 hz0 hz1 hz2 rfl (by omega) (.slice A4 17 d4) 17 (u8s (digitsL 19273 16 ++ codeL 0)) rfl HX4.out.1 A5 1 d5 (u8s (codeL 0)) rfl HX4.out.2.1 HX4.out.2.2.1 (u8s_one _) (by decide) (by decide) HX4.out.2.2.2.1 ?_; intro v6 w6 hown6 hg6 hat6; have HO6 := Lib.hid (And.intro hown6 hg6); clear hown6 hg6 hat6 _t)
  have hs6' : w6.ownsRow w.heap.size 5 1 v6 18 (u8s (digitsL 19273 16 ++ codeL 0 ++ codeL 0)) := by
    have := HO6.out.1
    rwa [show u8s (digitsL 19273 16 ++ codeL 0 ++ codeL 0) = _ from List.map_append]
  have Ma6 : Mod (fun i => (Value.slice A4 17 d4).ownBlock = some i) w5 w6 := (Mod.refl _ _).grown HO6.out.2 (fun i hi => .inl hi)
  obtain ⟨A6, d6, rfl⟩ := own_shape hs6'
  have M6 := HX4.out.2.2.2.2.2.into Ma6 (fun i e => .inr (HX4.out.1.lt i e).1)
  have hb6 := HX4.out.2.2.2.2.1.keep Ma6 (own_ne_blk HX4.out.1 HX4.out.2.2.2.2.1 (by decide))
  clear HO6 Ma6 HX4
  have f6 : w6.cell? ⟨w.heap.size, 2, none⟩ = some (.int .i64 4) := hb6.cell 2
  have HK6 := Lib.hid (And.intro hs6' (And.intro hb6 M6))
  have hlt6 := M6.size
  clear hs6' hb6 M6
  go_wp2_with fail
  refine (refCode w6 3 (by omega)).mono ?_
  rintro e w7 ⟨s7, rfl, hs7, hm7⟩
  have hs7' : w7.ownsRow w6.heap.size 5 1 s7 5 (u8s (codeL 3)) := hs7
  obtain ⟨A7, d7, rfl⟩ := own_shape hs7'
  obtain ⟨hs6', hb6, M6⟩ := HK6.out
  have q6a : w7.ownsRow w.heap.size 5 1 (.slice A6 18 d6) 18 (u8s (digitsL 19273 16 ++ codeL 0 ++ codeL 0)) := own_mod hs6' hm7 (fun _ _ h => h)
  have q6b := (Src.of_own hs7').2
  have q6c : A7 = none → d7 = 0 := (Bytes.in_ hs7').2.1
  have M7 := M6.trans hm7
  have hb7 := hb6.keep hm7 (fun h => h)
  have HX6 := Lib.hid (And.intro q6a (And.intro q6b (And.intro q6c (And.intro M7.size (And.intro hb7 M7)))))
  clear hs7 hm7 hs7' hs6' hb6 M6 q6a q6b q6c hb7 M7 f6 HK6 hlt6
  go_upto_region 8 with (at_builtin; have _t := HX6; refine wpList_append_src _ rfl (.tmp 27) (.tmp 32) _ rfl w.heap.size 5 i0 _ 1 1 Tryz.underlying22 hi0 hz0 hz1 hz2 rfl (by omega) (.slice A6 18 d6) 18 (u8s (digitsL 19273 16 ++ codeL 0 ++ codeL 0)) rfl HX6.out.1 A7 5 d7 (u8s (codeL 3)) rfl HX6.out.2.1 HX6.out.2.2.1 (u8s_one _) (by decide) (by decide) HX6.out.2.2.2.1 ?_; intro v8 w8 hown8 hg8 hat8; have HO8 := Lib.hid (And.intro hown8 hg8); clear hown8 hg8 hat8 _t)
  have hs8' : w8.ownsRow w.heap.size 5 1 v8 23 (u8s (digitsL 19273 16 ++ codeL 0 ++ codeL 0 ++ codeL 3)) := by
    have := HO8.out.1
    rwa [show u8s (digitsL 19273 16 ++ codeL 0 ++ codeL 0 ++ codeL 3) = _ from List.map_append]
  have Ma8 : Mod (fun i => (Value.slice A6 18 d6).ownBlock = some i) w7 w8 := (Mod.refl _ _).grown HO8.out.2 (fun i hi => .inl hi)
  obtain ⟨A8, d8, rfl⟩ := own_shape hs8'
  have M8 := HX6.out.2.2.2.2.2.into Ma8 (fun i e => .inr (HX6.out.1.lt i e).1)
  have hb8 := HX6.out.2.2.2.2.1.keep Ma8 (own_ne_blk HX6.out.1 HX6.out.2.2.2.2.1 (by decide))
  clear HO8 Ma8 HX6
  have HK8 := Lib.hid (And.intro hs8' M8)
  have hin8 : BytesIn w8 A8 23 d8 bits4 := Bytes.in_ hs8'
  have HIN := Lib.hid hin8
  have hlt8 := M8.size
  clear hs8' M8 hb8 hin8
  go_wp2_with fail
  refine (refPack w8 A8 23 d8 bits4 HIN.out (by omega) (by omega)).mono ?_
  rintro e w9 ⟨s9, rfl, hs9, hm9⟩
  rw [pack4] at hs9
  have HF := Lib.hid (And.intro (own_low hs9 hlt8) hm9)
  obtain ⟨A9, d9, rfl⟩ := own_shape hs9
  clear hs9 hm9
  go_wp2_with fail
  go_ret2
  exact ⟨_, rfl, HF.out.1, HK8.out.2.trans HF.out.2⟩
end Go.Proofs.YteppnjgfebcmjaaGreat
