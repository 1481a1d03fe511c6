/-
  OriginNil, walked.
-/
import Derived.Test.YtnnpoodcdibpiaaGreatDoorBOrBase
namespace Go.Proofs.YtnnpoodcdibpiaaGreatDoor
open Go.RowKit

set_option maxRecDepth 100000 in
set_option maxHeartbeats 2000000 in
theorem actFits (w : World) (kd id fr tt : Int) (p : List UInt8) (hp : p.length ≤ 9223372036854775807) (A : Option Addr) (n c : Nat) (hn : n ≤ 9223372036854775807) :
    Calls Tryz.prog 13 #[.agg #[.int .i64 kd, .int .i64 id, .int .i64 fr, .int .i64 tt, .string (strOf p), .slice A n c]] w fun e w' => e = .returned (.bool (decide (n ≤ 400) && decide (p.length ≤ 400))) ∧ Mod (fun _ => False) w w' := by
  have hs := strOf_size p
  cases d1 : decide ((n : Int) ≤ 400) <;> cases d2 : decide ((p.length : Int) ≤ 400)
  all_goals (
    have e1 : decide (n ≤ 400) = _ := (show decide (n ≤ 400) = decide ((n : Int) ≤ 400) by congr 1; exact propext ⟨fun h => by omega, fun h => by omega⟩).trans d1
    have e2 : decide (p.length ≤ 400) = _ := (show decide (p.length ≤ 400) = decide ((p.length : Int) ≤ 400) by congr 1; exact propext ⟨fun h => by omega, fun h => by omega⟩).trans d2
    have HE := Lib.hid (And.intro e1 e2)
    clear e1 e2
    go_enter Tryz.func13, Tryz.ntmps13
    go_wp2_with fail
    go_ret
    exact ⟨by rw [HE.out.1, HE.out.2]; rfl, (Mod.refl _ w).alloc _⟩)
set_option maxRecDepth 100000 in
set_option maxHeartbeats 4000000 in
theorem originNil_walk (w : World) (he : EnvP w) (hv : EnvW w) (kd id fr tt : Int) (p : List UInt8) (hp : p.length ≤ 9223372036854775807) (A : Option Addr) (n c : Nat) (hn : n ≤ 9223372036854775807) :
    Calls Tryz.prog 6 #[.agg #[.int .i64 kd, .int .i64 id, .int .i64 fr, .int .i64 tt, .string (strOf p), .slice A n c]] w fun e w' => e = .returned (.bool true) ∧ Mod (fun _ => False) w w' := by
  have hb := Blk.new w 44 #[.int .i64 kd, .int .i64 id, .int .i64 fr, .int .i64 tt, .string (strOf p), .slice A n c]
  have hm := (Mod.refl (fun _ => False) w).alloc (.cells #[.int .i64 kd, .int .i64 id, .int .i64 fr, .int .i64 tt, .string (strOf p), .slice A n c] 44)
  obtain ⟨bc, bf⟩ := hb.both
  have bl := hb.lt
  have H0 := Lib.hid (And.intro he (And.intro hv (And.intro hb hm)))
  clear he hv hb hm
  go_enter Tryz.func6, Tryz.ntmps6
  go_upto_region 1 with (fail)
  obtain ⟨ab, hab⟩ : ∃ ab, ab = w.heap.size := ⟨_, rfl⟩
  rw [← hab] at H0 bc bf bl ⊢
  clear hab
  generalize w.alloc (.cells #[.int .i64 kd, .int .i64 id, .int .i64 fr, .int .i64 tt, .string (strOf p), .slice A n c] 44) = w1 at *
  go_wp2_with fail
  refine (actFits w1 kd id fr tt p hp A n c hn).mono ?_
  rintro e w2 ⟨rfl, hm2⟩
  have hb2 := H0.out.2.2.1.keep hm2 (fun h => h)
  have H2 := Lib.hid (And.intro hb2 (H0.out.2.2.2.trans hm2))
  clear hm2 bc bf bl
  obtain ⟨bc, bf⟩ := hb2.both
  have bl := hb2.lt
  clear hb2
  cases hf : decide (n ≤ 400) && decide (p.length ≤ 400) with
  | false =>
    go_wp2_with fail
    refine (alive19 w2 (H0.out.1.quiet H2.out.2) (H0.out.2.1.quiet H2.out.2)).mono ?_
    rintro e w3 ⟨rfl, hm3⟩
    go_wp2_with fail
    go_ret
    exact ⟨rfl, H2.out.2.trans hm3⟩
  | true =>
    clear hf
    go_wp2_with fail
    refine (orGetNil w2 p).mono ?_
    rintro e w3 ⟨rfl, rfl⟩
    go_wp2_with fail
    refine (orRangeNil w2 p fr tt).mono ?_
    rintro e w3 ⟨rfl, rfl⟩
    go_wp2_with fail
    refine (orPubNil _ _ _ _ _ _).mono ?_
    rintro e w4 ⟨rfl, hm4⟩
    have hA := ((Mod.refl (fun _ => False) w2).alloc (.cells #[.string ⟨#[97]⟩, .int .i64 0, .int .i64 0, .int .i64 0] 68)).trans hm4
    have hb4 := H2.out.1.keep hA (fun h => h)
    have H4 := Lib.hid (And.intro hb4 (H2.out.2.trans hA))
    clear bc bf bl hA hm4
    have bc := hb4.both.1
    have bl := hb4.lt
    clear hb4
    go_wp2_with fail
    refine (orServeNil _ id p 0 0).mono ?_
    rintro e w5 ⟨rfl, hm5⟩
    unfold rsV
    dsimp only []
    have hA := ((Mod.refl (fun _ => False) w4).alloc (.cells #[.int .i64 0, .int .i64 0, .slice none 0 0] 59)).trans hm5
    have hb5 := H4.out.1.keep hA (fun h => h)
    have hb6 := Blk.new w5 33 #[.int .i64 id, .int .i64 4, .int .i64 0, .int .i64 0, .slice none 0 0]
    have hma : Mod (fun _ => False) w5 (w5.alloc (.cells #[.int .i64 id, .int .i64 4, .int .i64 0, .int .i64 0, .slice none 0 0] 33)) := (Mod.refl _ w5).alloc _
    have H6 := Lib.hid (And.intro (hb5.keep hma (fun h => h)) (And.intro hb6 ((H4.out.2.trans hA).trans hma)))
    clear bc bl hA hm5 hb5 hb6 hma
    go_upto_region 9 with (fail)
    obtain ⟨sb, hsb⟩ : ∃ sb, sb = w5.heap.size := ⟨_, rfl⟩
    rw [← hsb] at H6 ⊢
    clear hsb
    generalize w5.alloc (.cells #[.int .i64 id, .int .i64 4, .int .i64 0, .int .i64 0, .slice none 0 0] 33) = w6 at *
    go_wp2_with fail
    refine (alive19 w6 (H0.out.1.quiet H6.out.2.2) (H0.out.2.1.quiet H6.out.2.2)).mono ?_
    rintro e w7 ⟨rfl, hm7⟩
    have hb7 := H6.out.1.keep hm7 (fun h => h)
    have hs7 := H6.out.2.1.keep hm7 (fun h => h)
    have HM := Lib.hid (H6.out.2.2.trans hm7)
    have bc := hb7.both.1
    have bl := hb7.lt
    have sc := hs7.both.1
    have sl := hs7.lt
    clear hm7 hb7 hs7
    go_wp2_with fail
    refine (orPutNil w7 p (.slice A n c)).mono ?_
    rintro e w8 ⟨rfl, rfl⟩
    go_wp2_with fail
    refine (orPathsNil w7).mono ?_
    rintro e w8 ⟨rfl, rfl⟩
    go_wp2_with fail
    go_ret
    exact ⟨rfl, HM.out⟩
end Go.Proofs.YtnnpoodcdibpiaaGreatDoor
