/-
  kinoralaw21.NetworkBends: k4.
-/
import Derived.Test.YtblllengohabjaaNetBendsC
import Derived.Deep.RegionHeld3
namespace Go.Proofs.Ytblllengohabjaa
open Go.RowKit

set_option maxRecDepth 100000 in
set_option maxHeartbeats 8000000 in
theorem networkBends_k4 (A : Option Addr) (n c : Nat) (l : List UInt8) (kind delay num : Int) (w : World) (hin : BytesIn w A n c l) (h0 : 0 < n) (hcap : n ≤ c) (hn : n ≤ 300) (hk : 4 ≤ kind ∧ kind ≤ 4) (hnum : -9223372036854775808 ≤ num ∧ num ≤ 9223372036854775807) :
    Calls Try.prog 5 #[.slice A n c, .agg #[.int .i64 kind, .int .i64 delay, .int .i64 num]] w fun e w' => e = .returned (.bool true) ∧ Below w.heap.size w w' := by
  have hl0 := hin.1
  have HIN := Lib.hid hin
  obtain rfl : l.length = n := hl0
  clear hin
  have n0 : ((l.length : Int) == 0) = false := beq_eq_false_iff_ne.2 (by omega)
  have n1 : (l.length == 0) = false := beq_eq_false_iff_ne.2 (by omega)
  have HD : Hid (bits BinOp.and IntKind.i64 delay 15 = delay % 16) := i64_and15 delay
  have hbx : Blk (w.alloc (.cells #[.int .i64 kind, .int .i64 delay, .int .i64 num] 31)) w.heap.size 31 #[.int .i64 kind, .int .i64 delay, .int .i64 num] := Blk.new _ _ _
  have M0 : Mod (fun _ => False) w (w.alloc (.cells #[.int .i64 kind, .int .i64 delay, .int .i64 num] 31)) := (Mod.refl _ _).alloc _
  have hz0 : (w.alloc (.cells #[.int .i64 kind, .int .i64 delay, .int .i64 num] 31)).heap.size = w.heap.size + 1 := by simp
  go_enter Try.func5, Try.ntmps5
  go_wp2_with fail
  generalize w.alloc (.cells #[.int .i64 kind, .int .i64 delay, .int .i64 num] 31) = w0 at *
  refine (netNew w0 w.heap.size (by omega)).mono ?_
  rintro e w1 ⟨rfl, hn1, hm1, hsz⟩
  have hbx1 := hbx.keep hm1 (fun h => h)
  obtain ⟨hc, hf⟩ := hbx1.both
  have T1 : TMod w.heap.size netA w w1 := .of_quiet (M0.trans hm1)
  obtain ⟨g, hg⟩ : ∃ g, g = w0.heap.size := ⟨_, rfl⟩
  rw [← hg] at hn1 ⊢
  have hgw : w.heap.size < g := by omega
  clear hsz hm1 M0 hbx hz0 hg
  go_wp2_with fail
  rw [HD.out]
  have hdl : 0 ≤ delay % 16 ∧ delay % 16 ≤ 15 := by omega
  generalize delay % 16 = dl at *
  have hbx2 : Blk (w1.setCell ⟨w.heap.size, 1, none⟩ (.int .i64 dl)) w.heap.size 31 #[.int .i64 kind, .int .i64 dl, .int .i64 num] := hbx1.put rfl
  have hn2 : NetIs (w1.setCell ⟨w.heap.size, 1, none⟩ (.int .i64 dl)) w.heap.size g 0 0 [] [] := hn1.tmod (B' := 0) (T := fun t => t == 31) ((TMod.refl _ _ _).setCell hbx1 (Nat.zero_le _) (by decide) _) (by decide) (by decide) (by decide)
  have T2 : TMod w.heap.size netA w (w1.setCell ⟨w.heap.size, 1, none⟩ (.int .i64 dl)) := T1.setCell hbx1 (Nat.le_refl _) rfl _
  have ar2 := HIN.out.arg T2
  clear hn1 T1 hc hf hbx1
  generalize w1.setCell ⟨w.heap.size, 1, none⟩ (.int .i64 dl) = w2 at *
  have c1 := netSend w2 w.heap.size g 1 0 0 [] [] hn2 kind dl num A l.length c l ar2 (by omega) hnum (.inr rfl) (fate_side 1 (.inr rfl) _ _ (by omega) (by omega)) (by rw [sendNews_length]; show 0 + 0 + (if kind = 1 then 0 else if kind = 2 then 2 else 1) ≤ 200; split; omega; split <;> omega) (by omega)
  refine c1.mono ?_
  clear c1 ar2 hn2
  rintro e w3 ⟨rfl, P, hnews, hn3, T3', hfr⟩
  have hb3 := hbx2.tmod T3' (by decide)
  have T3 : TMod w.heap.size netA w w3 := T2.trans (T3'.mono (fun _ _ => rfl))
  have HN := Lib.hid hnews
  have hn3' : NetIs w3 w.heap.size g 0 (0 + ((sendNews 0 0 kind dl num l).length : Int)) [] P := hn3
  clear hnews hfr T2 T3' hbx2 hn3 HD
  generalize 0 + ((sendNews 0 0 kind dl num l).length : Int) = s at *
  go_wp2_with fail
  go_loopw [6] (BendsRel w g s kind dl num P) (fun i _ => 31 - (intOf i).toNat)
  case atStart => exact ⟨0, by omega, rfl, hn3', hb3, T3⟩
  case round =>
  clear hn3' hb3 T3
  obtain ⟨k, hk2, rfl, hnet, hbox, T⟩ := hrel
  by_cases hlt : k < 31
  · go_wp2_with fail
    refine (netTick _ w.heap.size g k s _ _ hnet (by omega)).mono ?_
    rintro e w4 ⟨rfl, hn4, T4⟩
    have HR : Hid (NetIs w4 w.heap.size g ((k + 1 : Nat) : Int) s [] P ∧ Blk w4 w.heap.size 31 #[.int .i64 kind, .int .i64 dl, .int .i64 num] ∧ TMod w.heap.size netA w w4) := ⟨hn4, hbox.tmod T4 (by decide), T.trans (T4.mono (fun _ _ => rfl))⟩
    clear hn4 T4 hnet hbox T
    go_wp2_with fail
    go_roundw
    case rel => exact ⟨k + 1, by omega, by go_num, HR.out⟩
    case measure => simp [intOf]; omega
  · obtain rfl : k = 31 := by omega
    have hkk : kind = 4 := by omega
    clear hk hk2 hlt
    · subst hkk
      obtain ⟨hP, hP0⟩ := news_all1 (4) (dl) num l P HN.out (by omega) (by omega) (by omega)
      obtain ⟨lb, hlb⟩ : ∃ lb, lb = bentL l 4 num := ⟨_, rfl⟩
      rw [← hlb] at hP
      have HLB := Lib.hid hlb
      clear hlb
      go_wp2_with fail
      refine (next_all1 _ w.heap.size g 31 s P lb hnet hP hP0).mono ?_
      rintro e w4 ⟨d4, P4, rfl, hby4, hn4, hl4, hP4, T4'⟩
      have hb4 := hbox.tmod T4' (by decide)
      have T4 : TMod w.heap.size netA w w4 := T.trans (T4'.mono (fun _ _ => rfl))
      obtain ⟨A4, c4, rfl⟩ := own_shape hby4
      clear T4' hnet hbox T hP
      go_wp2_with fail
      obtain rfl : P4 = [] := List.eq_nil_of_length_eq_zero (by omega)
      refine (next_none1 _ w.heap.size g 31 s hn4).mono ?_
      rintro e w5 ⟨rfl, hm5⟩
      have hn5 := hn4.quiet hm5
      have hb5 := hb4.keep hm5 (fun h => h)
      have T5 : TMod w.heap.size netA w w5 := T4.trans (.of_quiet hm5)
      have hby5 : Bytes w5 w.heap.size (.slice A4 lb.length c4) lb := own_mod hby4 hm5 (fun _ _ h => h)
      clear hm5 hn4 hb4 T4 hby4 hP4 hl4
      go_wp2_with fail
      refine (next_none0 _ w.heap.size g 31 s [] hn5).mono ?_
      rintro e w6 ⟨rfl, hm6⟩
      have hn6 := hn5.quiet hm6
      have hb6 := hb5.keep hm6 (fun h => h)
      have T6 : TMod w.heap.size netA w w6 := T5.trans (.of_quiet hm6)
      have hby6 : Bytes w6 w.heap.size (.slice A4 lb.length c4) lb := own_mod hby5 hm6 (fun _ _ h => h)
      obtain ⟨hc6, hf6⟩ := hb6.both
      clear hm6 hn5 hb5 T5 hb6 hby5
      go_wp2_with fail
      obtain ⟨q, m, hq, hm, hbent⟩ := flip_bent l num h0
      have hlb : lb = l.set q (flip8 (l.getD q 0) m) := HLB.out.trans hbent
      have hll : lb.length = l.length := by rw [hlb, List.length_set]
      rw [hll] at hby6 ⊢
      have HL := Lib.hid (And.intro hlb hll)
      clear hlb hll hbent
      obtain ⟨r4, hr4⟩ : ∃ r, A4 = some ⟨r, 0, none⟩ := by
        rcases hby6.2 with ⟨_, h1⟩ | ⟨r, cap, cur, hv, _⟩
        · have := HL.out.2; omega
        · injection hv with e1; exact ⟨r, e1⟩
      subst hr4
      obtain ⟨b, off, hA⟩ : ∃ b off, A = some ⟨b, off, none⟩ := in_place HIN.out h0
      subst hA
      have HB6 := Lib.hid (And.intro hby6 (And.intro hn6 T6))
      clear hby6 hn6 T6 hc6 hf6
      go_loopw [13, 14] (fun bt i wr => ∃ k : Nat, k ≤ l.length ∧ i = .int .i64 k ∧ bt = .int .i64 (upTo q k) ∧ Mod (fun _ => False) w6 wr) (fun _ i _ => l.length - (intOf i).toNat)
      case atStart => exact ⟨0, by omega, rfl, rfl, Mod.refl _ _⟩
      case round =>
        obtain ⟨k, hk, rfl, rfl, hM⟩ := hrel
        by_cases hlt : k < l.length
        · obtain ⟨x, y, hx, hy, hxc, hyc, hxy⟩ := flip_cells HIN.out HB6.out.1 HB6.out.2.2 hM hlt HL.out.2 HL.out.1 hm
          obtain ⟨D, hD⟩ : ∃ D, D = x ^^^ y := ⟨_, rfl⟩
          have hbx : bits BinOp.xor IntKind.u8 (x : Int) (y : Int) = (D : Int) := by rw [hD]; exact u8_xor_nat x y hx hy
          have hD2 : D < 256 := by rw [hD]; exact Nat.xor_lt_two_pow (n := 8) hx hy
          have HS : Hid (upTo q k + pop D = upTo q (k + 1)) := by show _ = _; rw [hD, hxy]; exact upTo_step q k m
          have hub : upTo q (k + 1) ≤ 1 := by unfold upTo; split <;> omega
          have i1 : (0 : Int) ≤ (k : Int) := by omega
          have i2 : (k : Int) < (l.length : Int) := by omega
          clear hD hxy
          go_wp2_with fail
          go_quiet (fail)
          go_wp2_with fail
          have hM2 : Mod (fun _ => False) w6 (wr.drewN nq) := hM.drewN _
          generalize wr.drewN nq = wo at *
          clear hxc hyc hbx hM
          go_loop [13, 15] (fun bt d => ∃ dd bb : Nat, dd < 256 ∧ d = .int .u8 dd ∧ bt = .int .i64 bb ∧ bb + pop dd = upTo q (k + 1)) (fun _ d => (intOf d).toNat)
          case atStart => exact ⟨D, upTo q k, hD2, rfl, rfl, HS.out⟩
          case round =>
            obtain ⟨dd, bb, hdd, rfl, rfl, hsum⟩ := hrel
            have hbb : bb ≤ 1 := by omega
            have HS2 := Lib.hid hsum
            clear hsum
            by_cases hz : 0 < dd
            · go_wp2_with fail
              go_round
              case rel => exact ⟨dd / 2, bb + dd % 2, by omega, by go_num, by go_num, by rw [← HS2.out, pop_pos dd hz]; omega⟩
              case measure => simp [intOf]; omega
            · obtain rfl : dd = 0 := by omega
              have hbb2 : bb = upTo q (k + 1) := by have := HS2.out; rw [pop_zero] at this; omega
              subst hbb2
              go_wp2_with fail
              go_roundw
              case rel => exact ⟨k + 1, by omega, by go_num, rfl, hM2⟩
              case measure => simp [intOf]; omega
        · obtain rfl : k = l.length := by omega
          have hup : upTo q l.length = 1 := by unfold upTo; rw [if_pos hq]
          rw [hup]
          have T6 : TMod w.heap.size netA w wr := HB6.out.2.2.trans (.of_quiet hM)
          clear hM hup
          go_wp2_with fail
          refine (alive21 _).mono ?_
          rintro e w7 ⟨rfl, hb7⟩
          have HT : Hid (TMod w.heap.size netA w w7) := T6.trans (.of_quiet (Mod.of_low hb7))
          clear hb7 T6
          go_wp2_with fail
          go_ret
          exact ⟨rfl, HT.out.below⟩
end Go.Proofs.Ytblllengohabjaa
