/-
  manifest.Total, walked.
-/
import Derived.Test.YtkobngipbhjfjaaDoorMfRep
import Derived.Test.YtkobngipbhjfjaaDoorMfOk
import Derived.Deep.DeepCutAuto
namespace Go.Proofs.YtkobngipbhjfjaaDoor
open Go.RowKit

def totL (l : List Pc) : Int := l.foldl (fun a p => wrap64 (a + (if 0 < p.fr then p.fr else 0))) 0
theorem totL_snoc {l : List Pc} {j : Nat} {p : Pc} (h : l[j]? = some p) : totL (l.take (j + 1)) = wrap64 (totL (l.take j) + (if 0 < p.fr then p.fr else 0)) := by
  unfold totL
  rw [take_snoc h, List.foldl_append]
  rfl
theorem totL_in (l : List Pc) : -9223372036854775808 ≤ totL l ∧ totL l ≤ 9223372036854775807 := by
  unfold totL
  have key : ∀ (l : List Pc) (a : Int), (-9223372036854775808 ≤ a ∧ a ≤ 9223372036854775807) → -9223372036854775808 ≤ l.foldl (fun a p => wrap64 (a + (if 0 < p.fr then p.fr else 0))) a ∧ l.foldl (fun a p => wrap64 (a + (if 0 < p.fr then p.fr else 0))) a ≤ 9223372036854775807 := by
    intro l
    induction l with
    | nil => exact fun a h => h
    | cons p r ih => exact fun a h => ih _ (by show -9223372036854775808 ≤ wrap64 _ ∧ wrap64 _ ≤ 9223372036854775807; unfold wrap64; omega)
  exact key l 0 (by omega)
def TtRel (w : World) (l : Ls) (v3 v9 : Value) (wr : World) : Prop :=
  ∃ j : Nat, j ≤ l.pieces.length ∧ v3 = .int .i64 (totL (l.pieces.take j)) ∧ v9 = .int .i64 (j : Int) ∧ Mod (fun _ => False) w wr
set_option maxRecDepth 100000 in
set_option maxHeartbeats 4000000 in
theorem pTotal (w : World) (l : Ls) (A : Option Addr) (n c : Nat) (h : PcsIn w A n l.pieces) (hn : n ≤ 9223372036854775807) : Calls Tryd.prog 13 #[.agg (lsV l A n c).toArray] w fun e w' => e = .returned (.int .i64 (totL l.pieces)) ∧ Mod (fun _ => False) w w' := by
  have hln := h.len
  have mA : Mod (fun _ => False) w (w.alloc (.cells (lsV l A n c).toArray 35)) := (Mod.refl _ w).alloc _
  have H := Lib.hid (And.intro h mA)
  clear h mA
  unfold lsV at H ⊢
  go_enter Tryd.func13, Tryd.ntmps13
  go_wp2_with fail
  go_loopw [3, 9] (TtRel w l) (fun _ s _ => n - (intOf s).toNat)
  case atStart => exact ⟨0, by omega, by simp [totL], rfl, H.out.2⟩
  case round =>
    rename World => wr
    obtain ⟨j, hj, rfl, rfl, hM⟩ := hrel
    have hti := totL_in (l.pieces.take j)
    by_cases hjl : j < n
    · obtain ⟨p, hp⟩ : ∃ p, l.pieces[j]? = some p := ⟨_, List.getElem?_eq_getElem (by omega)⟩
      obtain ⟨b, o, hA, hb, hpc⟩ := (H.out.1.quiet hM).at_ j p hp
      subst hA
      have d7 : decide ((j : Int) < (n : Int)) = true := decide_eq_true (by omega)
      have hpok := (H.out.1.ok p (List.mem_of_getElem? hp)).1
      obtain ⟨x1, x2⟩ := hpok
      obtain ⟨k0, k1, k2⟩ := hpc
      have hts := totL_snoc hp
      generalize totL (l.pieces.take j) = t at hti hts ⊢
      obtain ⟨y1, y2⟩ := hti
      have HT := Lib.hid (And.intro hts ((hM.alloc (.cells (pcV p).toArray 32))))
      clear hts hM hp
      unfold pcV at HT
      by_cases hp0 : 0 < p.fr
      · rw [if_pos hp0] at HT
        have m0 : decide (p.fr < 0) = false := decide_eq_false (by omega)
        have m1 : decide (0 < p.fr) = true := decide_eq_true hp0
        go_wp2_with fail
        go_roundw
        case rel => exact ⟨j + 1, by omega, by rw [HT.out.1], by go_num, HT.out.2⟩
        case measure => simp [intOf]; omega
      · rw [if_neg hp0] at HT
        have m0 : decide (0 < p.fr) = false := decide_eq_false hp0
        go_wp2_with fail
        go_roundw
        case rel => exact ⟨j + 1, by omega, by rw [HT.out.1, IntWalk.wrap64_in (t + 0) ⟨by omega, by omega⟩]; congr 1; split <;> omega, by go_num, HT.out.2⟩
        case measure => simp [intOf]; omega
    · obtain rfl : j = n := by omega
      have d7 : decide ((j : Int) < (j : Int)) = false := decide_eq_false (by omega)
      have ht : l.pieces.take j = l.pieces := by rw [← hln, List.take_length]
      rw [ht] at hti ⊢
      have HM := Lib.hid hM
      clear hM ht
      go_wp2_with fail
      go_ret
      exact ⟨rfl, HM.out⟩
end Go.Proofs.YtkobngipbhjfjaaDoor
