/-
  kinoralaw21.NetworkBends: k3.
-/
import Derived.Test.YtblllengohabjaaNetBendsC
import Derived.Deep.RegionHeld3
namespace Go.Proofs.Ytblllengohabjaa
open Go.RowKit

set_option maxRecDepth 100000 in
set_option maxHeartbeats 8000000 in
theorem networkBends_k3 (A : Option Addr) (n c : Nat) (l : List UInt8) (kind delay num : Int) (w : World) (hin : BytesIn w A n c l) (h0 : 0 < n) (hcap : n ≤ c) (hn : n ≤ 300) (hk : 3 ≤ kind ∧ kind ≤ 3) (hnum : -9223372036854775808 ≤ num ∧ num ≤ 9223372036854775807) :
    Calls Try.prog 5 #[.slice A n c, .agg #[.int .i64 kind, .int .i64 delay, .int .i64 num]] w fun e w' => e = .returned (.bool true) ∧ Below w.heap.size w w' := by
  have hl0 := hin.1
  have HIN := Lib.hid hin
  obtain rfl : l.length = n := hl0
  clear hin
  have n0 : ((l.length : Int) == 0) = false := beq_eq_false_iff_ne.2 (by omega)
  have n1 : (l.length == 0) = false := beq_eq_false_iff_ne.2 (by omega)
  have HD : Hid (bits BinOp.and IntKind.i64 delay 15 = delay % 16) := i64_and15 delay
  have hbx : Blk (w.alloc (.cells #[.int .i64 kind, .int .i64 delay, .int .i64 num] 31)) w.heap.size 31 #[.int .i64 kind, .int .i64 delay, .int .i64 num] := Blk.new _ _ _
  have M0 : Mod (fun _ => False) w (w.alloc (.cells #[.int .i64 kind, .int .i64 delay, .int .i64 num] 31)) := (Mod.refl _ _).alloc _
  have hz0 : (w.alloc (.cells #[.int .i64 kind, .int .i64 delay, .int .i64 num] 31)).heap.size = w.heap.size + 1 := by simp
  go_enter Try.func5, Try.ntmps5
  go_wp2_with fail
  generalize w.alloc (.cells #[.int .i64 kind, .int .i64 delay, .int .i64 num] 31) = w0 at *
  refine (netNew w0 w.heap.size (by omega)).mono ?_
  rintro e w1 ⟨rfl, hn1, hm1, hsz⟩
  have hbx1 := hbx.keep hm1 (fun h => h)
  obtain ⟨hc, hf⟩ := hbx1.both
  have T1 : TMod w.heap.size netA w w1 := .of_quiet (M0.trans hm1)
  obtain ⟨g, hg⟩ : ∃ g, g = w0.heap.size := ⟨_, rfl⟩
  rw [← hg] at hn1 ⊢
  have hgw : w.heap.size < g := by omega
  clear hsz hm1 M0 hbx hz0 hg
  go_wp2_with fail
  rw [HD.out]
  have hdl : 0 ≤ delay % 16 ∧ delay % 16 ≤ 15 := by omega
  generalize delay % 16 = dl at *
  have hbx2 : Blk (w1.setCell ⟨w.heap.size, 1, none⟩ (.int .i64 dl)) w.heap.size 31 #[.int .i64 kind, .int .i64 dl, .int .i64 num] := hbx1.put rfl
  have hn2 : NetIs (w1.setCell ⟨w.heap.size, 1, none⟩ (.int .i64 dl)) w.heap.size g 0 0 [] [] := hn1.tmod (B' := 0) (T := fun t => t == 31) ((TMod.refl _ _ _).setCell hbx1 (Nat.zero_le _) (by decide) _) (by decide) (by decide) (by decide)
  have T2 : TMod w.heap.size netA w (w1.setCell ⟨w.heap.size, 1, none⟩ (.int .i64 dl)) := T1.setCell hbx1 (Nat.le_refl _) rfl _
  have ar2 := HIN.out.arg T2
  clear hn1 T1 hc hf hbx1
  generalize w1.setCell ⟨w.heap.size, 1, none⟩ (.int .i64 dl) = w2 at *
  have c1 := netSend w2 w.heap.size g 1 0 0 [] [] hn2 kind dl num A l.length c l ar2 (by omega) hnum (.inr rfl) (fate_side 1 (.inr rfl) _ _ (by omega) (by omega)) (by rw [sendNews_length]; show 0 + 0 + (if kind = 1 then 0 else if kind = 2 then 2 else 1) ≤ 200; split; omega; split <;> omega) (by omega)
  refine c1.mono ?_
  clear c1 ar2 hn2
  rintro e w3 ⟨rfl, P, hnews, hn3, T3', hfr⟩
  have hb3 := hbx2.tmod T3' (by decide)
  have T3 : TMod w.heap.size netA w w3 := T2.trans (T3'.mono (fun _ _ => rfl))
  have HN := Lib.hid hnews
  have hn3' : NetIs w3 w.heap.size g 0 (0 + ((sendNews 0 0 kind dl num l).length : Int)) [] P := hn3
  clear hnews hfr T2 T3' hbx2 hn3 HD
  generalize 0 + ((sendNews 0 0 kind dl num l).length : Int) = s at *
  go_wp2_with fail
  go_loopw [6] (BendsRel w g s kind dl num P) (fun i _ => 31 - (intOf i).toNat)
  case atStart => exact ⟨0, by omega, rfl, hn3', hb3, T3⟩
  case round =>
  clear hn3' hb3 T3
  obtain ⟨k, hk2, rfl, hnet, hbox, T⟩ := hrel
  by_cases hlt : k < 31
  · go_wp2_with fail
    refine (netTick _ w.heap.size g k s _ _ hnet (by omega)).mono ?_
    rintro e w4 ⟨rfl, hn4, T4⟩
    have HR : Hid (NetIs w4 w.heap.size g ((k + 1 : Nat) : Int) s [] P ∧ Blk w4 w.heap.size 31 #[.int .i64 kind, .int .i64 dl, .int .i64 num] ∧ TMod w.heap.size netA w w4) := ⟨hn4, hbox.tmod T4 (by decide), T.trans (T4.mono (fun _ _ => rfl))⟩
    clear hn4 T4 hnet hbox T
    go_wp2_with fail
    go_roundw
    case rel => exact ⟨k + 1, by omega, by go_num, HR.out⟩
    case measure => simp [intOf]; omega
  · obtain rfl : k = 31 := by omega
    have hkk : kind = 3 := by omega
    clear hk hk2 hlt
    · subst hkk
      obtain ⟨hP, hP0⟩ := news_all1 (3) (dl) num l P HN.out (by omega) (by omega) (by omega)
      obtain ⟨lb, hlb⟩ : ∃ lb, lb = bentL l 3 num := ⟨_, rfl⟩
      rw [← hlb] at hP
      have HLB := Lib.hid hlb
      clear hlb
      go_wp2_with fail
      refine (next_all1 _ w.heap.size g 31 s P lb hnet hP hP0).mono ?_
      rintro e w4 ⟨d4, P4, rfl, hby4, hn4, hl4, hP4, T4'⟩
      have hb4 := hbox.tmod T4' (by decide)
      have T4 : TMod w.heap.size netA w w4 := T.trans (T4'.mono (fun _ _ => rfl))
      obtain ⟨A4, c4, rfl⟩ := own_shape hby4
      clear T4' hnet hbox T hP
      go_wp2_with fail
      obtain rfl : P4 = [] := List.eq_nil_of_length_eq_zero (by omega)
      refine (next_none1 _ w.heap.size g 31 s hn4).mono ?_
      rintro e w5 ⟨rfl, hm5⟩
      have hn5 := hn4.quiet hm5
      have hb5 := hb4.keep hm5 (fun h => h)
      have T5 : TMod w.heap.size netA w w5 := T4.trans (.of_quiet hm5)
      have hby5 : Bytes w5 w.heap.size (.slice A4 lb.length c4) lb := own_mod hby4 hm5 (fun _ _ h => h)
      clear hm5 hn4 hb4 T4 hby4 hP4 hl4
      go_wp2_with fail
      refine (next_none0 _ w.heap.size g 31 s [] hn5).mono ?_
      rintro e w6 ⟨rfl, hm6⟩
      have hn6 := hn5.quiet hm6
      have hb6 := hb5.keep hm6 (fun h => h)
      have T6 : TMod w.heap.size netA w w6 := T5.trans (.of_quiet hm6)
      have hby6 : Bytes w6 w.heap.size (.slice A4 lb.length c4) lb := own_mod hby5 hm6 (fun _ _ h => h)
      obtain ⟨hc6, hf6⟩ := hb6.both
      clear hm6 hn5 hb5 T5 hb6 hby5
      go_wp2_with fail
      have hq := take_bent l num h0
      obtain ⟨q, hq1, hq2⟩ := hq
      have e : lb = l.take q := HLB.out.trans hq2
      have hlq : lb.length = q := by rw [e, List.length_take]; omega
      have HE := Lib.hid (And.intro e hlq)
      have hlq1 : lb.length < l.length := by omega
      have hlq2 : (lb.length : Int) ≤ (c : Int) := by omega
      have hlq3 : (lb.length : Int) < (l.length : Int) := by omega
      have hlq4 : decide ((lb.length : Int) < (l.length : Int)) = true := by simp; omega
      have s01 := str_bytes hby6
      have ar6 := HIN.out.arg T6
      have s02 := str_take w6 A l.length c l ar6.1.1 ar6.1.2.2.1 lb.length (by omega)
      rw [show l.take lb.length = lb by rw [hlq]; exact e.symm] at s02
      have s11 := str_bytes (own_mod hby6 ((Mod.refl (fun _ => False) w6).drew) (fun _ _ h => h))
      have ar6' := HIN.out.arg T6.drew
      have s12 := str_take w6.drew A l.length c l ar6'.1.1 ar6'.1.2.2.1 lb.length (by omega)
      rw [show l.take lb.length = lb by rw [hlq]; exact e.symm] at s12
      clear hq2 e hlq ar6 ar6'
      go_region_held3 (fun w' => (convert 29 9 (.slice A4 lb.length c4)).run Try.prog w' = .ok (.string (strOf lb)) w' ∧ (convert 29 9 (.slice A lb.length c)).run Try.prog w' = .ok (.string (strOf lb)) w') (first | exact ⟨s01, s02⟩ | exact ⟨s11, s12⟩ | exact ⟨s1, s2⟩) (first | (go_at_call 17; refine (alive21 _).mono ?_; rintro e w7 ⟨rfl, hb7⟩; have M7 : Mod (fun _ => False) w6 w7 := ((Mod.refl _ _).drew).trans (Mod.of_low hb7); have T7 : TMod w.heap.size netA w w7 := T6.trans (.of_quiet M7); have hby7 : Bytes w7 w.heap.size (.slice A4 lb.length c4) lb := own_mod hby6 M7 (fun _ _ h => h); have s1 := str_bytes hby7; have ar7 := HIN.out.arg T7; have s2 := str_take w7 A l.length c l ar7.1.1 ar7.1.2.2.1 lb.length (by omega); rw [show l.take lb.length = lb by rw [HE.out.2]; exact HE.out.1.symm] at s2; have HT := Lib.hid T7; clear hb7 M7 T7 ar7 hby7))
      go_wp2_with fail
      go_ret
      exact ⟨rfl, HT.out.below⟩
end Go.Proofs.Ytblllengohabjaa
