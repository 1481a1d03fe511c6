/-
  kinoralaw21.NetworkPlays: the walk.
-/
import Derived.Test.YtblllengohabjaaNetPlaysC
namespace Go.Proofs.Ytblllengohabjaa
open Go.RowKit

set_option maxRecDepth 100000 in
set_option maxHeartbeats 8000000 in
theorem networkPlays_walk (A : Option Addr) (n c : Nat) (acts : Nat → ActV) (w : World) (hin : Acts w A n acts) (hn : n ≤ 9223372036854775807) :
    Calls Try.prog 3 #[.slice A n c] w fun e w' => e = .returned (.bool true) ∧ Below w.heap.size w w' := by
  have HIN := Lib.hid hin
  clear hin
  go_enter Try.func3, Try.ntmps3
  go_wp2_with fail
  refine (netNew w w.heap.size (Nat.le_refl _)).mono ?_
  rintro e w1 ⟨rfl, hn1, hm1, hsz⟩
  obtain ⟨g, hg⟩ : ∃ g, g = w.heap.size := ⟨_, rfl⟩
  rw [show NetIs w1 w.heap.size w.heap.size 0 0 [] [] = NetIs w1 w.heap.size g 0 0 [] [] by rw [hg]] at hn1
  rw [← hg]
  have hgw : w.heap.size ≤ g := by omega
  have hg2 : w.heap.size ≤ w1.heap.size := by omega
  have HS : Hid (PlaysAt w g w1.heap.size 0 0 0 [] [] [] (w1.alloc (.cells #[.int .i64 0, .slice none 0 0] 28))) := ⟨hn1.quiet ((Mod.refl _ _).alloc _), ⟨hg2, ⟨_, Blk.new _ _ _, World.ownsRow_nil _ _ _ _⟩, (fun r hr => by cases hr), by simp, by omega⟩, Cpl.nil 0, by omega, by omega, (TMod.of_quiet hm1).alloc _⟩
  clear hg hm1 hn1 hsz
  go_wp2_with fail
  obtain ⟨g2, hg2e⟩ : ∃ g2, g2 = w1.heap.size := ⟨_, rfl⟩
  rw [← hg2e] at HS ⊢
  have hgg : w.heap.size ≤ g2 := by omega
  clear hg2e hg2
  generalize w1.alloc (.cells #[.int .i64 0, .slice none 0 0] 28) = w2 at *
  go_loopw [5] (PlaysRel w g g2 n) (fun i _ => 200 - (intOf i).toNat)
  case atStart => exact ⟨0, 0, 0, [], [], [], by omega, by omega, rfl, HS.out⟩
  case round =>
    clear HS w1 w2
    obtain ⟨k, t, s, P0, P1, L, hk, hk2, rfl, hat⟩ := hrel
    by_cases hlt : k < n ∧ k < 200
    · obtain ⟨hl1, hl2⟩ := hlt
      obtain ⟨b, off, rfl, hc⟩ := HIN.out (by omega)
      obtain ⟨⟨c0, c1, c2, c3, c4, c5⟩, hby, hml, hfn⟩ := hc k hl1
      have low : ∀ o v, w.cell? ⟨b, o, none⟩ = some v → wr.cell? ⟨b, o, none⟩ = some v := fun o v hv => cell_low hat.T (World.block_lt_of_cell? w _ hv) hv
      replace c0 := low _ _ c0
      replace c1 := low _ _ c1
      replace c2 := low _ _ c2
      replace c3 := low _ _ c3
      replace c4 := low _ _ c4
      replace c5 := low _ _ c5
      have HB := Lib.hid hby
      clear low hc hby
      generalize acts k = a at *
      obtain ⟨kind, side, fk, fd, fn, Aa, na, ca, la⟩ := a
      dsimp only at c0 c1 c2 c3 c4 c5 HB hml hfn
      unfold maxLen at hml
      have i1 : (0 : Int) ≤ (k : Int) := by omega
      have i2 : (k : Int) < (n : Int) := by omega
      have hbl := hat.T.size
      have hbx : Blk (wr.alloc (.cells #[.int .i64 kind, .int .i64 side, .slice Aa na ca, .int .i64 fk, .int .i64 fd, .int .i64 fn] 33)) wr.heap.size 33 #[.int .i64 kind, .int .i64 side, .slice Aa na ca, .int .i64 fk, .int .i64 fd, .int .i64 fn] := Blk.new _ _ _
      have HA : Hid (PlaysAt w g g2 k t s P0 P1 L (wr.alloc (.cells #[.int .i64 kind, .int .i64 side, .slice Aa na ca, .int .i64 fk, .int .i64 fd, .int .i64 fn] 33))) := hat.quiet ((Mod.refl _ _).alloc _)
      have HX := Lib.hid hbx
      clear hat hbx
      go_upto_region 7 with (fail)
      obtain ⟨ab, hab⟩ : ∃ ab, ab = wr.heap.size := ⟨_, rfl⟩
      obtain ⟨wb, hwb⟩ : ∃ wb : World, wb = wr.alloc (.cells #[.int .i64 kind, .int .i64 side, .slice Aa na ca, .int .i64 fk, .int .i64 fd, .int .i64 fn] 33) := ⟨_, rfl⟩
      rw [← hwb, ← hab] at HX
      rw [← hwb] at HA
      rw [← hwb, ← hab]
      clear hwb c0 c1 c2 c3 c4 c5 hbl hab
      have x0 : wb.cell? ⟨ab, 0, none⟩ = some (.int .i64 kind) := HX.out.cell 0
      have x1 : wb.cell? ⟨ab, 1, none⟩ = some (.int .i64 side) := HX.out.cell 1
      have x2 : wb.cell? ⟨ab, 2, none⟩ = some (.slice Aa na ca) := HX.out.cell 2
      have x3 : wb.cell? ⟨ab, 3, none⟩ = some (.int .i64 fk) := HX.out.cell 3
      have x4 : wb.cell? ⟨ab, 4, none⟩ = some (.int .i64 fd) := HX.out.cell 4
      have x5 : wb.cell? ⟨ab, 5, none⟩ = some (.int .i64 fn) := HX.out.cell 5
      by_cases hlong : 300 < na
      · go_wp2_with fail
        go_roundw
        case rel => exact ⟨k + 1, t, s, P0, P1, L, by omega, by omega, by go_num, HA.out.up⟩
        case measure => simp [intOf]; omega
      · have hna : na ≤ 300 := by omega
        clear hlong
        have ht := HA.out.time
        have hs := HA.out.sent
        by_cases hk1 : kind = 1
        · have e1 : (kind == 1) = true := beq_iff_eq.2 hk1
          clear hk1
          cases hok : fateOk side fk fd with
          | false =>
            have hbad := hok
            go_wp2_with fail
            go_region_held3 (fun w' => w'.cell? ⟨ab, 1, none⟩ = some (.int .i64 side) ∧ w'.cell? ⟨ab, 2, none⟩ = some (.slice Aa na ca) ∧ w'.cell? ⟨ab, 3, none⟩ = some (.int .i64 fk) ∧ w'.cell? ⟨ab, 4, none⟩ = some (.int .i64 fd) ∧ w'.cell? ⟨ab, 5, none⟩ = some (.int .i64 fn)) (first | exact ⟨x1, x2, x3, x4, x5⟩ | exact k3 | exact k4 | exact k5) (first | (go_at_call 9; refine (send_no _ _ side fk fd fn Aa na ca hbad).mono ?_; rintro e w3 ⟨rfl, m3⟩; have M3 : Mod (fun _ => False) wb w3 := ((Mod.refl _ _).drew).trans m3; have bx3 := HX.out.keep M3 (fun h => h); have k3 : w3.cell? ⟨ab, 1, none⟩ = some (.int .i64 side) ∧ w3.cell? ⟨ab, 2, none⟩ = some (.slice Aa na ca) ∧ w3.cell? ⟨ab, 3, none⟩ = some (.int .i64 fk) ∧ w3.cell? ⟨ab, 4, none⟩ = some (.int .i64 fd) ∧ w3.cell? ⟨ab, 5, none⟩ = some (.int .i64 fn) := ⟨bx3.cell 1, bx3.cell 2, bx3.cell 3, bx3.cell 4, bx3.cell 5⟩; have HM3 := Lib.hid M3; have HX3 := Lib.hid bx3; clear m3 M3 bx3) | (go_at_call 11; refine (fate_any _ fk fd fn).mono ?_; rintro e w4 ⟨rfl, m4⟩; have bx4 := HX3.out.keep m4 (fun h => h); have k4 : w4.cell? ⟨ab, 1, none⟩ = some (.int .i64 side) ∧ w4.cell? ⟨ab, 2, none⟩ = some (.slice Aa na ca) ∧ w4.cell? ⟨ab, 3, none⟩ = some (.int .i64 fk) ∧ w4.cell? ⟨ab, 4, none⟩ = some (.int .i64 fd) ∧ w4.cell? ⟨ab, 5, none⟩ = some (.int .i64 fn) := ⟨bx4.cell 1, bx4.cell 2, bx4.cell 3, bx4.cell 4, bx4.cell 5⟩; have HM4 := Lib.hid m4; have HX4 := Lib.hid bx4; clear m4 bx4) | (go_at_call 10; refine (rsend_no _ _ side fk fd fn Aa na ca hbad).mono ?_; rintro e w5 ⟨rfl, m5⟩; have bx5 := HX4.out.keep m5 (fun h => h); have k5 : w5.cell? ⟨ab, 1, none⟩ = some (.int .i64 side) ∧ w5.cell? ⟨ab, 2, none⟩ = some (.slice Aa na ca) ∧ w5.cell? ⟨ab, 3, none⟩ = some (.int .i64 fk) ∧ w5.cell? ⟨ab, 4, none⟩ = some (.int .i64 fd) ∧ w5.cell? ⟨ab, 5, none⟩ = some (.int .i64 fn) := ⟨bx5.cell 1, bx5.cell 2, bx5.cell 3, bx5.cell 4, bx5.cell 5⟩; have HP := Lib.hid ((HA.out.quiet ((HM3.out.trans HM4.out).trans m5)).up); clear m5 bx5))
            clear x1 x2 x3 x4 x5 k3 k4 k5 HM3 HM4 HX3 HX4
            obtain ⟨A7, c7, v7⟩ : ∃ A c, Blk w5 g2 28 #[.int .i64 (t), .slice A L.length c] := by
              obtain ⟨_, ⟨v, hb, hr⟩, _⟩ := HP.out.ref
              obtain ⟨A, c, e⟩ := own_shape hr
              subst e
              exact ⟨A, c, hb⟩
            have d0 : w5.cell? ⟨g2, 0, none⟩ = some (.int .i64 (t)) := v7.cell 0
            have d1 : w5.cell? ⟨g2, 1, none⟩ = some (.slice A7 L.length c7) := v7.cell 1
            clear v7
            go_wp2_with fail
            go_quiet (first | (go_at_call 15; exact Calls.quiet_of_same (plays_now (HP.out.drewN _))) | (go_at_call 16; exact Calls.quiet_of_same (plays_len (HP.out.drewN _))))
            go_wp2_with fail
            go_roundw
            case rel => exact ⟨k + 1, _, _, _, _, _, by omega, by omega, by go_num, HP.out.drewN _⟩
            case measure => simp [intOf]; omega
          | true =>
            obtain ⟨sd, hsd, hsd2⟩ : ∃ sd : Nat, side = sd ∧ (sd = 0 ∨ sd = 1) := by
              have := hok
              unfold fateOk at this
              simp only [decide_eq_true_eq] at this
              exact ⟨side.toNat, by omega, by omega⟩
            have hok2 : fateOk sd fk fd = true := by rw [← hsd]; exact hok
            have HSD := Lib.hid hsd
            clear hsd
            by_cases hfull : 200 < P0.length + P1.length + (if fk = 1 then 0 else if fk = 2 then 2 else 1)
            · go_wp2_with fail
              go_region_held3 (fun w' => w'.cell? ⟨ab, 1, none⟩ = some (.int .i64 side) ∧ w'.cell? ⟨ab, 2, none⟩ = some (.slice Aa na ca) ∧ w'.cell? ⟨ab, 3, none⟩ = some (.int .i64 fk) ∧ w'.cell? ⟨ab, 4, none⟩ = some (.int .i64 fd) ∧ w'.cell? ⟨ab, 5, none⟩ = some (.int .i64 fn)) (first | exact ⟨x1, x2, x3, x4, x5⟩ | exact k3 | exact k4 | exact k5) (first | (go_at_call 9; refine (send_full' _ w.heap.size g sd side t s P0 P1 (HA.out.net.quiet ((Mod.refl _ _).drew)) fk fd fn Aa na ca HSD.out hsd2 hok2 hfull).mono ?_; rintro e w3 ⟨rfl, m3⟩; have M3 : Mod (fun _ => False) wb w3 := ((Mod.refl _ _).drew).trans m3; have bx3 := HX.out.keep M3 (fun h => h); have k3 : w3.cell? ⟨ab, 1, none⟩ = some (.int .i64 side) ∧ w3.cell? ⟨ab, 2, none⟩ = some (.slice Aa na ca) ∧ w3.cell? ⟨ab, 3, none⟩ = some (.int .i64 fk) ∧ w3.cell? ⟨ab, 4, none⟩ = some (.int .i64 fd) ∧ w3.cell? ⟨ab, 5, none⟩ = some (.int .i64 fn) := ⟨bx3.cell 1, bx3.cell 2, bx3.cell 3, bx3.cell 4, bx3.cell 5⟩; have HM3 := Lib.hid M3; have HX3 := Lib.hid bx3; clear m3 M3 bx3) | (go_at_call 11; refine (fate_any _ fk fd fn).mono ?_; rintro e w4 ⟨rfl, m4⟩; have bx4 := HX3.out.keep m4 (fun h => h); have k4 : w4.cell? ⟨ab, 1, none⟩ = some (.int .i64 side) ∧ w4.cell? ⟨ab, 2, none⟩ = some (.slice Aa na ca) ∧ w4.cell? ⟨ab, 3, none⟩ = some (.int .i64 fk) ∧ w4.cell? ⟨ab, 4, none⟩ = some (.int .i64 fd) ∧ w4.cell? ⟨ab, 5, none⟩ = some (.int .i64 fn) := ⟨bx4.cell 1, bx4.cell 2, bx4.cell 3, bx4.cell 4, bx4.cell 5⟩; have HM4 := Lib.hid m4; have HX4 := Lib.hid bx4; clear m4 bx4) | (go_at_call 10; refine (rsend_any _ w.heap.size g2 t side L (HA.out.ref.quiet (HM3.out.trans HM4.out)) fk fd fn Aa na ca la (HB.out.arg (HA.out.T.trans (.of_quiet (HM3.out.trans HM4.out)))) (by omega) hfn hok).mono ?_; intro e w5 hp5; obtain ⟨he5, hpl⟩ := cut_full HA.out (HM3.out.trans HM4.out) (by rw [rnews_length]; exact hfull) hp5; subst he5; have bx5 := HX4.out.tmod hp5.1 (by decide); have k5 : w5.cell? ⟨ab, 1, none⟩ = some (.int .i64 side) ∧ w5.cell? ⟨ab, 2, none⟩ = some (.slice Aa na ca) ∧ w5.cell? ⟨ab, 3, none⟩ = some (.int .i64 fk) ∧ w5.cell? ⟨ab, 4, none⟩ = some (.int .i64 fd) ∧ w5.cell? ⟨ab, 5, none⟩ = some (.int .i64 fn) := ⟨bx5.cell 1, bx5.cell 2, bx5.cell 3, bx5.cell 4, bx5.cell 5⟩; have HP := Lib.hid hpl; clear hp5 hpl bx5))
              clear x1 x2 x3 x4 x5 k3 k4 k5 HM3 HM4 HX3 HX4
              obtain ⟨A7, c7, v7⟩ : ∃ A c, Blk w5 g2 28 #[.int .i64 (t), .slice A L.length c] := by
                obtain ⟨_, ⟨v, hb, hr⟩, _⟩ := HP.out.ref
                obtain ⟨A, c, e⟩ := own_shape hr
                subst e
                exact ⟨A, c, hb⟩
              have d0 : w5.cell? ⟨g2, 0, none⟩ = some (.int .i64 (t)) := v7.cell 0
              have d1 : w5.cell? ⟨g2, 1, none⟩ = some (.slice A7 L.length c7) := v7.cell 1
              clear v7
              go_wp2_with fail
              go_quiet (first | (go_at_call 15; exact Calls.quiet_of_same (plays_now (HP.out.drewN _))) | (go_at_call 16; exact Calls.quiet_of_same (plays_len (HP.out.drewN _))))
              go_wp2_with fail
              go_roundw
              case rel => exact ⟨k + 1, _, _, _, _, _, by omega, by omega, by go_num, HP.out.drewN _⟩
              case measure => simp [intOf]; omega
            · have hroom : P0.length + P1.length + (sendNews t s fk fd fn la).length ≤ 200 := by rw [sendNews_length]; omega
              clear hfull
              go_wp2_with fail
              go_region_held3 (fun w' => w'.cell? ⟨ab, 1, none⟩ = some (.int .i64 side) ∧ w'.cell? ⟨ab, 2, none⟩ = some (.slice Aa na ca) ∧ w'.cell? ⟨ab, 3, none⟩ = some (.int .i64 fk) ∧ w'.cell? ⟨ab, 4, none⟩ = some (.int .i64 fd) ∧ w'.cell? ⟨ab, 5, none⟩ = some (.int .i64 fn)) (first | exact ⟨x1, x2, x3, x4, x5⟩ | exact k3 | exact k4 | exact k5) (first | (go_at_call 9; refine (netSend' _ w.heap.size g sd side t s P0 P1 (HA.out.net.quiet ((Mod.refl _ _).drew)) fk fd fn Aa na ca la (HB.out.arg (HA.out.T.trans (.of_quiet ((Mod.refl _ _).drew)))) (by omega) hfn HSD.out hsd2 hok2 hroom (by omega)).mono ?_; intro e w3 hp3; have he3 := hp3.1; subst he3; have T3 : TMod w.heap.size netT wb w3 := ((TMod.refl _ _ _).drew).trans hp3.2.choose_spec.2.2.1; have bx3 := HX.out.tmod T3 (by decide); have k3 : w3.cell? ⟨ab, 1, none⟩ = some (.int .i64 side) ∧ w3.cell? ⟨ab, 2, none⟩ = some (.slice Aa na ca) ∧ w3.cell? ⟨ab, 3, none⟩ = some (.int .i64 fk) ∧ w3.cell? ⟨ab, 4, none⟩ = some (.int .i64 fd) ∧ w3.cell? ⟨ab, 5, none⟩ = some (.int .i64 fn) := ⟨bx3.cell 1, bx3.cell 2, bx3.cell 3, bx3.cell 4, bx3.cell 5⟩; have HM3 := Lib.hid hp3; have HX3 := Lib.hid bx3; have HT3 := Lib.hid T3; clear hp3 bx3 T3) | (go_at_call 11; refine (fate_any _ fk fd fn).mono ?_; rintro e w4 ⟨rfl, m4⟩; have bx4 := HX3.out.keep m4 (fun h => h); have k4 : w4.cell? ⟨ab, 1, none⟩ = some (.int .i64 side) ∧ w4.cell? ⟨ab, 2, none⟩ = some (.slice Aa na ca) ∧ w4.cell? ⟨ab, 3, none⟩ = some (.int .i64 fk) ∧ w4.cell? ⟨ab, 4, none⟩ = some (.int .i64 fd) ∧ w4.cell? ⟨ab, 5, none⟩ = some (.int .i64 fn) := ⟨bx4.cell 1, bx4.cell 2, bx4.cell 3, bx4.cell 4, bx4.cell 5⟩; have HM4 := Lib.hid m4; have HX4 := Lib.hid bx4; clear m4 bx4) | (go_at_call 10; refine (rsend_any _ w.heap.size g2 t side L ((HA.out.ref.tmod HT3.out (by decide) (by decide) (by decide)).quiet HM4.out) fk fd fn Aa na ca la (HB.out.arg ((HA.out.T.trans (HT3.out.mono (fun _ _ => rfl))).trans (.of_quiet HM4.out))) (by omega) hfn hok).mono ?_; intro e w5 hp5; obtain ⟨he5, Q0, Q1, L9, s9, hpl⟩ := cut_send (HA.out.quiet ((Mod.refl _ _).drew)) hsd2 hroom HM3.out HM4.out (by rw [← HSD.out]; exact hp5); subst he5; have bx5 := HX4.out.tmod hp5.1 (by decide); have k5 : w5.cell? ⟨ab, 1, none⟩ = some (.int .i64 side) ∧ w5.cell? ⟨ab, 2, none⟩ = some (.slice Aa na ca) ∧ w5.cell? ⟨ab, 3, none⟩ = some (.int .i64 fk) ∧ w5.cell? ⟨ab, 4, none⟩ = some (.int .i64 fd) ∧ w5.cell? ⟨ab, 5, none⟩ = some (.int .i64 fn) := ⟨bx5.cell 1, bx5.cell 2, bx5.cell 3, bx5.cell 4, bx5.cell 5⟩; have HP := Lib.hid hpl; clear hp5 hpl bx5))
              clear x1 x2 x3 x4 x5 k3 k4 k5 HM3 HM4 HX3 HX4
              obtain ⟨A7, c7, v7⟩ : ∃ A c, Blk w5 g2 28 #[.int .i64 (t), .slice A L9.length c] := by
                obtain ⟨_, ⟨v, hb, hr⟩, _⟩ := HP.out.ref
                obtain ⟨A, c, e⟩ := own_shape hr
                subst e
                exact ⟨A, c, hb⟩
              have d0 : w5.cell? ⟨g2, 0, none⟩ = some (.int .i64 (t)) := v7.cell 0
              have d1 : w5.cell? ⟨g2, 1, none⟩ = some (.slice A7 L9.length c7) := v7.cell 1
              clear v7
              go_wp2_with fail
              go_quiet (first | (go_at_call 15; exact Calls.quiet_of_same (plays_now (HP.out.drewN _))) | (go_at_call 16; exact Calls.quiet_of_same (plays_len (HP.out.drewN _))))
              go_wp2_with fail
              go_roundw
              case rel => exact ⟨k + 1, _, _, _, _, _, by omega, by omega, by go_num, HP.out.drewN _⟩
              case measure => simp [intOf]; omega
        · have e1 : (kind == 1) = false := beq_eq_false_iff_ne.2 hk1
          by_cases hk2 : kind = 2
          · have e2 : (kind == 2) = true := beq_iff_eq.2 hk2
            clear hk1 hk2
            obtain ⟨_, ⟨vv, hb2, _⟩, _⟩ := HA.out.ref
            have r0 : wb.cell? ⟨g2, 0, none⟩ = some (.int .i64 t) := hb2.cell 0
            have r1 := hb2.frozen 0
            have r2 := hb2.lt
            have hn2 := HA.out.net.tmod (HA.out.ref.tick (by omega)).2 (by decide) (by decide) (by decide)
            clear hb2
            go_wp2_with fail
            refine (netTick _ w.heap.size g t s P0 P1 hn2 (by omega)).mono ?_
            rintro e w3 ⟨rfl, hn3, hT3⟩
            have HP := Lib.hid (cut_tick HA.out (by omega) hn3 hT3)
            clear hn3 hT3 hn2 r0 r1 r2
            obtain ⟨A7, c7, v7⟩ : ∃ A c, Blk w3 g2 28 #[.int .i64 (t + 1), .slice A L.length c] := by
              obtain ⟨_, ⟨v, hb, hr⟩, _⟩ := HP.out.ref
              obtain ⟨A, c, e⟩ := own_shape hr
              subst e
              exact ⟨A, c, hb⟩
            have d0 : w3.cell? ⟨g2, 0, none⟩ = some (.int .i64 (t + 1)) := v7.cell 0
            have d1 : w3.cell? ⟨g2, 1, none⟩ = some (.slice A7 L.length c7) := v7.cell 1
            clear v7
            go_wp2_with fail
            go_quiet (first | (go_at_call 15; exact Calls.quiet_of_same (plays_now (HP.out.drewN _))) | (go_at_call 16; exact Calls.quiet_of_same (plays_len (HP.out.drewN _))))
            go_wp2_with fail
            go_roundw
            case rel => exact ⟨k + 1, _, _, _, _, _, by omega, by omega, by go_num, HP.out.drewN _⟩
            case measure => simp [intOf]; omega
          · have e2 : (kind == 2) = false := beq_eq_false_iff_ne.2 hk2
            by_cases hk3 : kind = 3
            · have e3 : (kind == 3) = true := beq_iff_eq.2 hk3
              clear hk1 hk2 hk3
              by_cases hside : side < 0 ∨ 2 ≤ side
              · go_wp2_with fail
                refine (next_no _ _ side hside).mono ?_
                rintro e w3 ⟨rfl, rfl⟩
                go_wp2_with fail
                refine (rnext_any _ w.heap.size g2 t side L HA.out.ref).mono ?_
                intro e2 w4 hp2
                obtain ⟨x, y, q, lx, Q0, Q1, L9, he1, he2, hbx, hby, hpl⟩ := cut_next HA.out (.inl ⟨hside, rfl, rfl⟩) hp2
                obtain ⟨rfl, rfl⟩ := pair_inj he1
                subst he2
                have HP := Lib.hid hpl
                obtain ⟨Ay, cy, hye⟩ := own_shape hby
                subst hye
                have s1 := str_bytes hbx
                have s2 := str_bytes hby
                clear hpl hp2 hbx hby he1
                go_upto_region 19 with (fail)
                clear s1 s2
                obtain ⟨A7, c7, v7⟩ : ∃ A c, Blk w4 g2 28 #[.int .i64 (t), .slice A L9.length c] := by
                  obtain ⟨_, ⟨v, hb, hr⟩, _⟩ := HP.out.ref
                  obtain ⟨A, c, e⟩ := own_shape hr
                  subst e
                  exact ⟨A, c, hb⟩
                have d0 : w4.cell? ⟨g2, 0, none⟩ = some (.int .i64 (t)) := v7.cell 0
                have d1 : w4.cell? ⟨g2, 1, none⟩ = some (.slice A7 L9.length c7) := v7.cell 1
                clear v7
                go_wp2_with fail
                go_quiet (first | (go_at_call 15; exact Calls.quiet_of_same (plays_now (HP.out.drewN _))) | (go_at_call 16; exact Calls.quiet_of_same (plays_len (HP.out.drewN _))))
                go_wp2_with fail
                go_roundw
                case rel => exact ⟨k + 1, _, _, _, _, _, by omega, by omega, by go_num, HP.out.drewN _⟩
                case measure => simp [intOf]; omega
              · obtain ⟨sd, hsd, hsd2⟩ : ∃ sd : Nat, side = sd ∧ (sd = 0 ∨ sd = 1) := ⟨side.toNat, by omega, by omega⟩
                have HSD := Lib.hid hsd
                clear hsd
                go_wp2_with fail
                refine (netNext_any _ w.heap.size g sd side t s P0 P1 HA.out.net HSD.out hsd2).mono ?_
                intro e1 w3 hp1
                obtain ⟨vx1, q1, he1⟩ := hp1.form
                subst he1
                have hx3 : w3.cell? ⟨ab, 1, none⟩ = some (.int .i64 side) := by
                  rcases hp1 with ⟨_, ⟨n6, rfl⟩, _⟩ | ⟨_, _, _, _, _, _, _, _, hT⟩
                  · exact x1
                  · exact (HX.out.tmod hT (by decide)).cell 1
                have HP1 := Lib.hid hp1
                clear hp1
                go_wp2_with fail
                refine (rnext_any _ w.heap.size g2 t side L (HP1.out.ref HA.out.ref)).mono ?_
                intro e2 w4 hp2
                obtain ⟨x, y, q, lx, Q0, Q1, L9, he1, he2, hbx, hby, hpl⟩ := cut_next HA.out (.inr ⟨sd, HSD.out, hsd2, HP1.out⟩) hp2
                obtain ⟨rfl, rfl⟩ := pair_inj he1
                subst he2
                clear HP1 hx3
                have HP := Lib.hid hpl
                obtain ⟨Ax, cx, hxe⟩ := own_shape hbx
                obtain ⟨Ay, cy, hye⟩ := own_shape hby
                subst hxe
                subst hye
                have s1 := str_bytes hbx
                have s2 := str_bytes hby
                clear hpl hp2 hbx hby he1
                go_upto_region 19 with (fail)
                clear s1 s2
                obtain ⟨A7, c7, v7⟩ : ∃ A c, Blk w4 g2 28 #[.int .i64 (t), .slice A L9.length c] := by
                  obtain ⟨_, ⟨v, hb, hr⟩, _⟩ := HP.out.ref
                  obtain ⟨A, c, e⟩ := own_shape hr
                  subst e
                  exact ⟨A, c, hb⟩
                have d0 : w4.cell? ⟨g2, 0, none⟩ = some (.int .i64 (t)) := v7.cell 0
                have d1 : w4.cell? ⟨g2, 1, none⟩ = some (.slice A7 L9.length c7) := v7.cell 1
                clear v7
                go_wp2_with fail
                go_quiet (first | (go_at_call 15; exact Calls.quiet_of_same (plays_now (HP.out.drewN _))) | (go_at_call 16; exact Calls.quiet_of_same (plays_len (HP.out.drewN _))))
                go_wp2_with fail
                go_roundw
                case rel => exact ⟨k + 1, _, _, _, _, _, by omega, by omega, by go_num, HP.out.drewN _⟩
                case measure => simp [intOf]; omega
            · have e3 : (kind == 3) = false := beq_eq_false_iff_ne.2 hk3
              clear hk1 hk2 hk3
              have HP := Lib.hid HA.out.up
              obtain ⟨A7, c7, v7⟩ : ∃ A c, Blk wb g2 28 #[.int .i64 (t), .slice A L.length c] := by
                obtain ⟨_, ⟨v, hb, hr⟩, _⟩ := HP.out.ref
                obtain ⟨A, c, e⟩ := own_shape hr
                subst e
                exact ⟨A, c, hb⟩
              have d0 : wb.cell? ⟨g2, 0, none⟩ = some (.int .i64 (t)) := v7.cell 0
              have d1 : wb.cell? ⟨g2, 1, none⟩ = some (.slice A7 L.length c7) := v7.cell 1
              clear v7
              go_wp2_with fail
              go_quiet (first | (go_at_call 15; exact Calls.quiet_of_same (plays_now (HP.out.drewN _))) | (go_at_call 16; exact Calls.quiet_of_same (plays_len (HP.out.drewN _))))
              go_wp2_with fail
              go_roundw
              case rel => exact ⟨k + 1, _, _, _, _, _, by omega, by omega, by go_num, HP.out.drewN _⟩
              case measure => simp [intOf]; omega
    · have hkn : n ≤ k ∨ 200 ≤ k := by omega
      clear hlt
      have HT := hat.T
      clear hat
      by_cases h1 : k < n
      all_goals
        go_wp2_with fail
        refine (alive21 _).mono ?_
        rintro e w6 ⟨rfl, hb6⟩
        have HF : Hid (TMod w.heap.size netA w w6) := HT.trans (.of_quiet (Mod.of_low hb6))
        clear hb6 HT
        go_wp2_with fail
        go_ret
        exact ⟨rfl, HF.out.below⟩
end Go.Proofs.Ytblllengohabjaa
