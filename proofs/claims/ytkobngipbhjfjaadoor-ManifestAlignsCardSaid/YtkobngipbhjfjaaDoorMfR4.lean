/-
  The reference's Paths, walked.
-/
import Derived.Test.YtkobngipbhjfjaaDoorMfR3
namespace Go.Proofs.YtkobngipbhjfjaaDoor
open Go.RowKit

theorem paths_le {ls : List Ls} {k : Nat} {l : Ls} (h : ls[k]? = some l) (j : Nat) : (pathsR (ls.take k) ++ filesJ l j).length ≤ (pathsR ls).length := by
  have e := split_at h
  have h2 : pathsR ls = pathsR (ls.take k) ++ (filesL l ++ pathsR (ls.drop (k + 1))) := by
    conv => lhs; rw [e]
    unfold pathsR
    rw [List.flatMap_append, List.flatMap_cons]
  rw [h2, filesJ_split l j]
  simp only [List.length_append]
  omega
theorem files_lt {l : Ls} {j : Nat} (h : j < l.pieces.length) : (filesJ l j).length < (filesJ l (j + 1)).length := by
  unfold filesJ
  simp only [List.length_cons, List.length_map, List.length_take]
  omega
theorem paths_lt {ls : List Ls} {k : Nat} {l : Ls} (h : ls[k]? = some l) : (pathsR (ls.take k)).length < (pathsR ls).length := by
  have := paths_le h 0
  simp only [List.length_append, filesJ, List.length_cons] at this
  omega
def PtRel (wb : World) (ls : List Ls) (v3 v4 : Value) (wr : World) : Prop := ∃ i : Nat, i ≤ ls.length ∧ v4 = .int .i64 (i : Int) ∧ StrsOwn wr wb.heap.size v3 (pathsR (ls.take i)) ∧ Mod (fun _ => False) wb wr
def PtIn (wb : World) (ls : List Ls) (i : Nat) (l : Ls) (v3 v5 : Value) (wr : World) : Prop := ∃ j : Nat, j ≤ l.pieces.length ∧ v5 = .int .i64 (j : Int) ∧ StrsOwn wr wb.heap.size v3 (pathsR (ls.take i) ++ filesJ l j) ∧ Mod (fun _ => False) wb wr
def PathsPost (w : World) (m : Mf) (e : Ending) (w' : World) : Prop := ∃ A n c, e = .returned (.slice A n c) ∧ StrsOwn w' w.heap.size (.slice A n c) (pathsR m.rends) ∧ Mod (fun _ => False) w w'
set_option maxRecDepth 100000 in
set_option maxHeartbeats 8000000 in
theorem rPaths (w : World) (m : Mf) (A : Option Addr) (n c : Nat) (h : MfIn w A n m) (hp : (pathsR m.rends).length ≤ 1000000) : Calls Tryd.prog 34 #[.agg (mfV m A n c).toArray] w (PathsPost w m) := by
  obtain ⟨wb, hwb⟩ : ∃ wb, wb = w.alloc (.cells (mfV m A n c).toArray 24) := ⟨_, rfl⟩
  have mA : Mod (fun _ => False) w wb := hwb ▸ (Mod.refl _ w).alloc _
  have hb0 : Blk wb w.heap.size 24 (mfV m A n c).toArray := hwb ▸ Blk.new _ _ _
  have hln := h.rs.len
  have hn := h.nums.2.2
  have hsz : wb.heap.size = w.heap.size + 1 := by rw [hwb]; simp
  have H := Lib.hid (And.intro (h.rs.quiet mA) (And.intro mA (And.intro hb0 (And.intro hp hsz))))
  clear h mA hb0 hp
  unfold mfV at H hwb ⊢
  go_enter Tryd.func34, Tryd.ntmps34
  go_wp2_with fail
  rw [← hwb]
  go_loopw [3, 4] (PtRel wb m.rends) (fun _ s _ => n - (intOf s).toNat)
  case atStart => exact ⟨0, by omega, rfl, StrsOwn.nil _ _, Mod.refl _ _⟩
  case round =>
    rename World => wr
    obtain ⟨i, hi, rfl, hown, hM⟩ := hrel
    have cB := (H.out.2.2.1.keep hM (fun h => h)).cell
    obtain ⟨A3, c3, hv3⟩ := own_shape hown
    obtain ⟨L, hL⟩ : ∃ L, L = (pathsR (m.rends.take i)).length := ⟨_, rfl⟩
    rw [← hL] at hv3
    subst hv3
    by_cases hin : i < n
    · obtain ⟨l, hl⟩ : ∃ l, m.rends[i]? = some l := ⟨_, List.getElem?_eq_getElem (by omega)⟩
      obtain ⟨b, o, B1, n1, c1, hA, hb, hlc⟩ := (H.out.1.quiet hM).at_ i l hl
      subst hA
      have d0 : decide ((i : Int) < (n : Int)) = true := decide_eq_true (by omega)
      have e6 := hlc.cells 6 _ rfl
      have HI := Lib.hid (And.intro hown (And.intro hM (And.intro hl (And.intro hlc (And.intro hb hM.size)))))
      clear hown hM hl hlc
      have hsmall := paths_lt HI.out.2.2.1
      have hpp := H.out.2.2.2.1
      rw [← hL] at hsmall
      have HL := Lib.hid hL
      clear hL
      go_wp2_with (at_builtin; have _t := HI; refine wpList_app_str _ rfl (.tmp 13) (.tmp 21) rfl wb.heap.size _ _ l.init.path rfl rfl HI.out.1 HI.out.2.2.2.2.2 (by rw [← HL.out]; omega) ?_; intro v6 w6 hown6 hMo hM6 _; have HO := Lib.hid (And.intro hown6 (hM6 wb (fun _ => False) (Nat.le_refl _) HI.out.2.1)); clear hown6 hM6)
      go_loopw [3, 5] (PtIn wb m.rends i l) (fun _ s _ => l.pieces.length - (intOf s).toNat)
      case atStart => exact ⟨0, by omega, rfl, HO.out.1, HO.out.2⟩
      case round =>
        rename World => wq
        clear e6 cB
        obtain ⟨j, hj, rfl, hown, hM⟩ := hrel
        have cB := (H.out.2.2.1.keep hM (fun h => h)).cell
        obtain ⟨b', o', B2, n2, c2, hA, hb', hlc⟩ := (H.out.1.quiet hM).at_ i l HI.out.2.2.1
        injection hA with hA
        injection hA with hA1 hA2
        subst hA1
        subst hA2
        have e7 := hlc.cells 7 _ rfl
        have hpl := hlc.pcs.len
        have hn2 : n2 ≤ 9223372036854775807 := by have := hlc.ok.2.2.2.2.2; omega
        obtain ⟨A3, c3, hv3⟩ := own_shape hown
        obtain ⟨L, hL⟩ : ∃ L, L = (pathsR (m.rends.take i) ++ filesJ l j).length := ⟨_, rfl⟩
        rw [← hL] at hv3
        subst hv3
        by_cases hjl : j < n2
        · obtain ⟨p, hp⟩ : ∃ p, l.pieces[j]? = some p := ⟨_, List.getElem?_eq_getElem (by omega)⟩
          obtain ⟨b3, o3, hA3, hb3, hpc⟩ := hlc.pcs.at_ j p hp
          subst hA3
          have d1 : decide ((j : Int) < (n2 : Int)) = true := decide_eq_true (by omega)
          have x2 := hpc.2.2
          have hle := paths_le HI.out.2.2.1 (j + 1)
          have hlt := files_lt (l := l) (j := j) (by omega)
          have hsmall : L < 1048576 := by
            have := H.out.2.2.2.1
            rw [List.length_append] at hle hL
            omega
          have HJ := Lib.hid (And.intro hown (And.intro hM (And.intro hp (And.intro hM.size (And.intro hL (show j < l.pieces.length by omega))))))
          clear hown hM hp hL hlc hpc hle hlt
          go_wp2_with (at_builtin; have _t := HJ; refine wpList_app_str _ rfl (.tmp 34) (.tmp 45) rfl wb.heap.size _ _ p.path rfl rfl HJ.out.1 HJ.out.2.2.2.1 (by rw [← HJ.out.2.2.2.2.1]; exact hsmall) ?_; intro v7 w7 hown7 hMo hM7 _; have HQ := Lib.hid (And.intro hown7 (hM7 wb (fun _ => False) (Nat.le_refl _) HJ.out.2.1)); clear hown7 hM7)
          go_roundw
          case rel => exact ⟨j + 1, HJ.out.2.2.2.2.2, by go_num, by rw [filesJ_snoc HJ.out.2.2.1, ← List.append_assoc]; exact HQ.out.1, HQ.out.2⟩
          case measure =>
            have := HJ.out.2.2.2.2.2
            simp [intOf]; omega
        · obtain rfl : j = n2 := by omega
          have d1 : decide ((j : Int) < (j : Int)) = false := decide_eq_false (by omega)
          rw [← hpl, filesJ_end, ← paths_snoc HI.out.2.2.1] at hown
          rw [← hpl, filesJ_end, ← paths_snoc HI.out.2.2.1] at hL
          have HJ := Lib.hid (And.intro hown hM)
          clear hown hM hlc
          go_wp2_with fail
          go_roundw
          case rel => exact ⟨i + 1, by omega, by go_num, HJ.out.1, HJ.out.2⟩
          case measure => simp [intOf]; omega
    · obtain rfl : i = n := by omega
      have d0 : decide ((i : Int) < (i : Int)) = false := decide_eq_false (by omega)
      have HI := Lib.hid (And.intro hown hM)
      clear hown hM
      rw [← hln, List.take_length] at HI hL
      go_wp2_with fail
      go_ret
      exact ⟨_, _, _, rfl, own_base HI.out.1 (by omega), H.out.2.1.trans HI.out.2⟩
end Go.Proofs.YtkobngipbhjfjaaDoor
