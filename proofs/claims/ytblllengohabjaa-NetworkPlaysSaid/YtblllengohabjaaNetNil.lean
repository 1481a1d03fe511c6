/-
  kinoralaw21.NetworkNil: the walk.
-/
import Derived.Test.YtblllengohabjaaNetAlive
namespace Go.Proofs.Ytblllengohabjaa
open Go.RowKit

theorem Mod.of_low {w w' : World} (h : Below w.heap.size w w') : Mod (fun _ => False) w w' := ⟨h.os, h.tape, h.output, h.size, fun k hk _ => h.block k hk⟩

set_option maxRecDepth 100000 in
set_option maxHeartbeats 1000000 in
theorem networkNil_walk (kind side fk fd fn : Int) (A : Option Addr) (n c : Nat) (w : World) (hn : n ≤ 9223372036854775807) :
    Calls Try.prog 7 #[.agg #[.int .i64 kind, .int .i64 side, .slice A n c, .int .i64 fk, .int .i64 fd, .int .i64 fn]] w fun e w' => e = .returned (.bool true) ∧ Below w.heap.size w w' := by
  by_cases h : 300 < n
  · have h' : decide ((300 : Int) < (n : Int)) = true := by simp; omega
    go_enter Try.func7, Try.ntmps7
    go_wp2_with fail
    refine (alive21 _).mono ?_
    rintro e w1 ⟨rfl, hb⟩
    have M : Hid (Mod (fun _ => False) w w1) := ((Mod.refl _ _).alloc _).trans (Mod.of_low hb)
    clear hb
    go_wp2_with fail
    go_ret
    exact ⟨rfl, M.out.below (fun _ h => h.elim)⟩
  · have h' : decide ((300 : Int) < (n : Int)) = false := by simp; omega
    go_enter Try.func7, Try.ntmps7
    go_wp2_with fail
    refine (next_nil _ _).mono ?_
    rintro e w1 ⟨rfl, rfl⟩
    go_wp2_with fail
    refine (alive21 _).mono ?_
    rintro e w1 ⟨rfl, hb⟩
    have hm := Mod.of_low hb
    have hb1 := (Blk.new w 33 #[.int .i64 kind, .int .i64 side, .slice A n c, .int .i64 fk, .int .i64 fd, .int .i64 fn]).keep hm (fun h => h)
    have M : Hid (Mod (fun _ => False) w w1) := ((Mod.refl _ _).alloc _).trans hm
    obtain ⟨hc, hf⟩ := hb1.both
    clear hb hm hb1
    go_wp2_with fail
    refine (send_nil _ _ _ _ _ _ _ _).mono ?_
    rintro e w2 ⟨rfl, hm2⟩
    have M2 : Hid (Mod (fun _ => False) w w2) := M.out.trans hm2
    clear hm2
    go_wp2_with fail
    refine (tick_nil _).mono ?_
    rintro e w3 ⟨rfl, rfl⟩
    go_wp2_with fail
    refine (now_nil _).mono ?_
    rintro e w3 ⟨rfl, rfl⟩
    go_wp2_with fail
    refine (nlen_nil _).mono ?_
    rintro e w3 ⟨rfl, rfl⟩
    go_wp2_with fail
    go_ret
    exact ⟨rfl, M2.out.below (fun _ h => h.elim)⟩
end Go.Proofs.Ytblllengohabjaa
