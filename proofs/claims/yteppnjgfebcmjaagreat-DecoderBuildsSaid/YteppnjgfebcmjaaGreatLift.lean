/-
  lift: side, within, block.
-/
import Derived.Test.YteppnjgfebcmjaaGreatQuantAll
namespace Go.Proofs.YteppnjgfebcmjaaGreat
open Go.RowKit

theorem liftSide (w : World) (n : Nat) (hn : n ≤ 9223372036854775807) : Calls Tryz.prog 128 #[.int .i64 (n : Int)] w fun e w' => e = .returned (.int .i64 ((sideOf n : Nat) : Int)) ∧ w = w' := by
  unfold sideOf
  by_cases h1 : n = 16
  · subst h1
    go_enter Tryz.func128, Tryz.ntmps128
    go_wp2_with fail
    go_ret
    exact ⟨rfl, rfl⟩
  · by_cases h2 : n = 64
    · subst h2
      go_enter Tryz.func128, Tryz.ntmps128
      go_wp2_with fail
      go_ret
      exact ⟨rfl, rfl⟩
    · rw [if_neg h1, if_neg h2]
      have e1 : ((n : Int) == 16) = false := beq_eq_false_iff_ne.2 (by omega)
      have e2 : ((n : Int) == 64) = false := beq_eq_false_iff_ne.2 (by omega)
      go_enter Tryz.func128, Tryz.ntmps128
      go_wp2_with fail
      go_ret
      exact ⟨rfl, rfl⟩

theorem liftWithin (w : World) (m : Int) : Calls Tryz.prog 83 #[.int .i64 m] w fun e w' => e = .returned (.func (.func 129) #[] #[.pointer (some ⟨w.heap.size, 0, none⟩)]) ∧ Blk w' w.heap.size 3 #[.int .i64 m] ∧ Mod (fun _ => False) w w' := by
  go_enter Tryz.func83, Tryz.ntmps83
  go_wp2_with fail
  go_ret
  exact ⟨rfl, Blk.new _ _ _, (Mod.refl _ _).alloc _⟩
theorem liftIn (w : World) (b : Nat) (m v : Int) (hm : 0 ≤ m ∧ m ≤ 1099511627776) (hb : Blk w b 3 #[.int .i64 m]) : Calls Tryz.prog 129 #[.int .i64 v, .pointer (some ⟨b, 0, none⟩)] w fun e w' => e = .returned (.bool (inB m v)) ∧ w = w' := by
  obtain ⟨hc, hf⟩ := hb.both
  unfold inB
  clear hb
  by_cases h : -m ≤ v
  · have e1 : decide (-m ≤ v) = true := by simpa using h
    rw [show decide (-m ≤ v ∧ v ≤ m) = decide (v ≤ m) by simp [h]]
    go_enter Tryz.func129, Tryz.ntmps129
    go_wp2_with fail
    go_ret
    exact ⟨rfl, rfl⟩
  · have e1 : decide (-m ≤ v) = false := by simpa using h
    rw [show decide (-m ≤ v ∧ v ≤ m) = false by simp [h]]
    go_enter Tryz.func129, Tryz.ntmps129
    go_wp2_with fail
    go_ret
    exact ⟨rfl, rfl⟩

def BlockPost (w : World) (m : Int) (l : List Int) (e : Ending) (w' : World) : Prop :=
  Mod (fun _ => False) w w' ∧ ((allB m l = false ∧ e = .returned (.tuple #[.slice none 0 0, .int .i64 0, .int .i64 1])) ∨ ∃ v, allB m l = true ∧ e = .returned (.tuple #[v, .int .i64 ((sideOf l.length : Nat) : Int), .int .i64 0]) ∧ IntsOwn w' w.heap.size v l)

set_option maxRecDepth 100000 in
set_option maxHeartbeats 2000000 in
theorem liftBlock (w : World) (A : Option Addr) (n c bb : Nat) (l : List Int) (m : Int) (hin : IntsIn w A n c l) (hn : n ≤ 1048576) (hm : 0 ≤ m ∧ m ≤ 1099511627776) (hb : Blk w bb 3 #[.int .i64 m]) :
    Calls Tryz.prog 82 #[.slice A n c, .func (.func 129) #[] #[.pointer (some ⟨bb, 0, none⟩)]] w (BlockPost w m l) := by
  obtain ⟨i0, hi0, hz0, hz1, hz2⟩ := info_parts int_info
  obtain rfl : l.length = n := hin.1
  by_cases hs : sideOf l.length = 0
  · have HA : Hid (allB m l = false) := by show _ = _; unfold allB; rw [hs]; rfl
    go_enter Tryz.func82, Tryz.ntmps82
    go_wp2_with fail
    refine (liftSide _ l.length (by omega)).mono ?_
    rintro e w1 ⟨rfl, rfl⟩
    rw [hs]
    clear hs
    go_wp2_with fail
    go_ret3
    exact ⟨Mod.refl _ _, .inl ⟨HA.out, rfl⟩⟩
  · have hs1 : (((sideOf l.length : Nat) : Int) == 0) = false := beq_eq_false_iff_ne.2 (by omega)
    have h0 : 0 < l.length := by
      rcases Nat.eq_zero_or_pos l.length with e | e
      · rw [e] at hs; exact absurd rfl hs
      · exact e
    have HIN := Lib.hid hin
    obtain ⟨b, off, rfl, _, hc⟩ := hin.place h0
    have HC := Lib.hid hc
    have HS := Lib.hid hs
    clear hin hc hs
    go_enter Tryz.func82, Tryz.ntmps82
    go_wp2_with fail
    refine (liftSide _ l.length (by omega)).mono ?_
    rintro e w1 ⟨rfl, rfl⟩
    obtain ⟨sd, hsd⟩ : ∃ sd, sd = ((sideOf l.length : Nat) : Int) := ⟨_, rfl⟩
    rw [← hsd] at hs1 ⊢
    have HSD := Lib.hid hsd
    clear hsd
    go_wp2_with fail
    go_loop [17] (fun i => ∃ k : Nat, k ≤ l.length ∧ i = .int .i64 k ∧ ∀ j < k, inB m (l.getD j 0) = true) (fun i => l.length - (intOf i).toNat)
    case atStart => exact ⟨0, by omega, rfl, fun j hj => by omega⟩
    case round =>
      obtain ⟨k, hk, rfl, hall⟩ := hrel
      have HL := Lib.hid hall
      clear hall
      by_cases hlt : k < l.length
      · have hck := HC.out k hlt
        have i1 : (0 : Int) ≤ (k : Int) := by omega
        have i2 : (k : Int) < (l.length : Int) := by omega
        cases hv : inB m (l.getD k 0) with
        | true =>
          generalize hx : l.getD k 0 = x at *
          have HX := Lib.hid (And.intro hx hv)
          clear hx
          go_wp2_with fail
          refine (liftIn _ bb m x hm hb).mono ?_
          rintro e w1 ⟨rfl, rfl⟩
          rw [hv]
          clear hv
          go_wp2_with fail
          go_round
          case rel => exact ⟨k + 1, by omega, by go_num, fun j hj => by
            by_cases e : j = k
            · subst e; rw [HX.out.1]; exact HX.out.2
            · exact HL.out j (by omega)⟩
          case measure => simp [intOf]; omega
        | false =>
          have HA : Hid (allB m l = false) := allB_no k hlt hv
          generalize hx : l.getD k 0 = x at *
          clear hx
          go_wp2_with fail
          refine (liftIn _ bb m x hm hb).mono ?_
          rintro e w1 ⟨rfl, rfl⟩
          rw [hv]
          clear hv
          go_wp2_with fail
          go_ret3
          exact ⟨Mod.refl _ _, .inl ⟨HA.out, rfl⟩⟩
      · have HA : Hid (allB m l = true) := allB_yes HS.out (fun j hj => HL.out j (by omega))
        have x1 : 0 + l.length ≤ maxLen := by unfold maxLen; omega
        have x2 : (0 + l.length) * 8 ≤ 140737488355328 := by omega
        have HX := Lib.hid (And.intro x1 x2)
        clear x1 x2
        go_wp2_with (at_builtin; have _t := HX; refine wpList_append_src _ rfl (.const (.slice none 0 0)) (.tmp 26) _ rfl w.heap.size 3 i0 _ 1 8 Tryz.underlying48 hi0 hz0 hz1 hz2 rfl (by omega) (.slice none 0 0) 0 [] rfl (World.ownsRow_nil _ _ _ _) (some ⟨b, off, none⟩) l.length c (i64s l) rfl HIN.out.2.2.1 (fun h => by cases h) (i64s_one l) HX.out.1 HX.out.2 (Nat.le_refl _) ?_; intro v4 w4 hown4 hg4 hat4; have HO := Lib.hid (And.intro hown4 hg4); clear HX _t hown4 hg4 hat4)
        go_ret3
        refine ⟨(Mod.refl _ _).grown HO.out.2 (fun k hk => by simp [Value.ownBlock] at hk), .inr ⟨_, HA.out, by rw [← HSD.out]; rfl, ?_⟩⟩
        have := HO.out.1
        unfold IntsOwn
        simpa using this
end Go.Proofs.YteppnjgfebcmjaaGreat
