/-
  The statements' Fits: it answers.
-/
import Derived.Test.YtkobngipbhjfjaaDoorMfRow
import Derived.Test.YtkobngipbhjfjaaDoorMfOk
import Derived.Deep.DeepCutAuto
namespace Go.Proofs.YtkobngipbhjfjaaDoor
open Go.RowKit

def FitsPost (w : World) (e : Ending) (w' : World) : Prop := ∃ b, e = .returned (.bool b) ∧ Mod (fun _ => False) w w'
def FtRel (w : World) (mb : Nat) (cs : Array Value) (n : Nat) (v : Value) (wr : World) : Prop := ∃ k : Nat, k ≤ n ∧ v = .int .i64 (k : Int) ∧ Blk wr mb 24 cs ∧ Mod (fun _ => False) w wr
def FtIn (w : World) (mb lb : Nat) (cs ls : Array Value) (n : Nat) (v : Value) (wr : World) : Prop := ∃ k : Nat, k ≤ n ∧ v = .int .i64 (k : Int) ∧ Blk wr mb 24 cs ∧ Blk wr lb 35 ls ∧ Mod (fun _ => False) w wr
set_option maxRecDepth 100000 in
set_option maxHeartbeats 4000000 in
theorem pFits (w : World) (m : Mf) (A : Option Addr) (n c : Nat) (h : MfIn w A n m) : Calls Tryd.prog 9 #[.agg (mfV m A n c).toArray] w (FitsPost w) := by
  have mA : Mod (fun _ => False) w (w.alloc (.cells (mfV m A n c).toArray 24)) := (Mod.refl _ w).alloc _
  have hb0 : Blk (w.alloc (.cells (mfV m A n c).toArray 24)) w.heap.size 24 (mfV m A n c).toArray := Blk.new _ _ _
  have hn := h.nums.2.2
  have hln : m.rends.length = n := h.rs.len
  have H := Lib.hid (And.intro h (And.intro mA hb0))
  clear h mA hb0
  unfold mfV at H ⊢
  go_enter Tryd.func9, Tryd.ntmps9
  go_wp2_with fail
  go_loopw [3] (FtRel w w.heap.size #[.int .i64 m.scale, .int .i64 m.tick, .slice A n c] n) (fun s _ => n - (intOf s).toNat)
  case atStart => exact ⟨0, by omega, rfl, H.out.2.2, H.out.2.1⟩
  case round =>
    rename World => wr
    obtain ⟨k, hk, rfl, hbm, hM⟩ := hrel
    have cm := hbm.cell
    by_cases hlt : k < n
    · obtain ⟨l, hl⟩ : ∃ l, m.rends[k]? = some l := ⟨_, List.getElem?_eq_getElem (by omega)⟩
      obtain ⟨b, o, A1, n1, c1, hA, hb, hls⟩ := H.out.1.rs.at_ k l hl
      subst hA
      have d6 : decide ((k : Int) < (n : Int)) = true := decide_eq_true (by omega)
      have hlp : n1 ≤ 9223372036854775807 := by have := hls.ok.2.2.2.2.2; rw [hls.pcs.len] at this; exact this
      have e0 := (hls.quiet hM hb).cells 0 _ rfl
      have e1 := (hls.quiet hM hb).cells 1 _ rfl
      have e2 := (hls.quiet hM hb).cells 2 _ rfl
      have e3 := (hls.quiet hM hb).cells 3 _ rfl
      have e4 := (hls.quiet hM hb).cells 4 _ rfl
      have e5 := (hls.quiet hM hb).cells 5 _ rfl
      have e6 := (hls.quiet hM hb).cells 6 _ rfl
      have e7 := (hls.quiet hM hb).cells 7 _ rfl
      rw [Nat.add_zero] at e0
      have mA1 : Mod (fun _ => False) wr (wr.alloc (.cells (lsV l A1 n1 c1).toArray 35)) := (Mod.refl _ wr).alloc _
      have hbl : Blk (wr.alloc (.cells (lsV l A1 n1 c1).toArray 35)) wr.heap.size 35 (lsV l A1 n1 c1).toArray := Blk.new _ _ _
      have hbm1 := hbm.keep mA1 (fun h => h)
      have HK := Lib.hid (And.intro hls.pcs (And.intro (hM.trans mA1) (And.intro hbl hbm1)))
      unfold lsV at HK
      clear hls mA1 hbl hbm1 hbm hM hl
      go_wp2_with fail
      all_goals first
        | (go_ret
           exact ⟨false, rfl, HK.out.2.1⟩)
        | skip
      go_loopw [5] (FtIn w w.heap.size wr.heap.size #[.int .i64 m.scale, .int .i64 m.tick, .slice (some ⟨b, o, none⟩) n c] #[.string (strOf l.name), .int .i64 l.w, .int .i64 l.h, .int .i64 l.bw, .int .i64 l.init.fr, .int .i64 l.init.sz, .string (strOf l.init.path), .slice A1 n1 c1] n1) (fun s _ => n1 - (intOf s).toNat)
      case atStart => exact ⟨0, by omega, rfl, HK.out.2.2.2, HK.out.2.2.1, HK.out.2.1⟩
      case round =>
        rename World => wq
        clear e0 e1 e2 e3 e4 e5 e6 e7 cm
        obtain ⟨j, hj, rfl, hbm4, hbl4, hM4⟩ := hrel
        have cl := hbl4.cell
        have cm4 := hbm4.cell
        by_cases hjl : j < n1
        · obtain ⟨p, hp⟩ : ∃ p, l.pieces[j]? = some p := ⟨_, List.getElem?_eq_getElem (by rw [HK.out.1.len]; exact hjl)⟩
          obtain ⟨b', o', hA', hb', hpc⟩ := (HK.out.1.quiet hM4).at_ j p hp
          subst hA'
          have d7 : decide ((j : Int) < (n1 : Int)) = true := decide_eq_true (by omega)
          have k2 := hpc.2.2
          have HJ := Lib.hid (And.intro hbm4 (And.intro hbl4 hM4))
          clear hbm4 hbl4 hM4 hp hpc
          go_wp2_with fail
          all_goals first
            | (go_ret
               exact ⟨false, rfl, HJ.out.2.2⟩)
            | skip
          go_roundw
          case rel => exact ⟨j + 1, by omega, by go_num, HJ.out⟩
          case measure => simp [intOf]; omega
        · obtain rfl : j = n1 := by omega
          have d7 : decide ((j : Int) < (j : Int)) = false := decide_eq_false (by omega)
          have HJ := Lib.hid (And.intro hbm4 hM4)
          clear hbm4 hbl4 hM4
          go_wp2_with fail
          go_roundw
          case rel => exact ⟨k + 1, by omega, by go_num, HJ.out⟩
          case measure => simp [intOf]; omega
    · obtain rfl : k = n := by omega
      have d6 : decide ((k : Int) < (k : Int)) = false := decide_eq_false (by omega)
      have HK := Lib.hid hM
      clear hM hbm
      go_wp2_with fail
      go_ret
      exact ⟨true, rfl, HK.out⟩
end Go.Proofs.YtkobngipbhjfjaaDoor
