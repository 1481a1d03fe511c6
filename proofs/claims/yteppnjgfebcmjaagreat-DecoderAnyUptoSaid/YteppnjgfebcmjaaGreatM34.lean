/-
  decoder: what is read, in memory; a vector.
-/
import Derived.Test.YteppnjgfebcmjaaGreatM28
import Derived.Test.YteppnjgfebcmjaaGreatM33
namespace Go.Proofs.YteppnjgfebcmjaaGreat
open Go.RowKit

/-- A reading's cells: the header, its book and code, where it builds, what was ahead. -/
def rdV (K : Bool) (N Q : Int) (bk g fr dg : Nat) : Array Value :=
  #[.bool K, .int .i64 N, .int .i64 Q, .pointer (some ⟨bk, 0, none⟩), .pointer (some ⟨g, 0, none⟩), .pointer (some ⟨fr, 0, none⟩), .pointer (some ⟨fr, 3, none⟩), .pointer (some ⟨fr, 6, none⟩), .pointer (some ⟨dg, 4, none⟩), .pointer (some ⟨dg, 7, none⟩), .pointer (some ⟨dg, 10, none⟩)]
def vecTo : Nat → St → Int → Int → Option ((Int × Int) × St)
  | 0, s, a, b => some ((a, b), s)
  | n + 1, s, a, b => (ssigned (7 - n) s).bind fun x => if x.1 < -128 ∨ 128 < x.1 then none else vecTo n x.2 (if n = 1 then x.1 else a) (if n = 0 then x.1 else b)
theorem vecTo_2 (s : St) (a b : Int) : vecTo 2 s a b = (ssigned 6 s).bind fun x => if x.1 < -128 ∨ 128 < x.1 then none else vecTo 1 x.2 x.1 b := rfl
theorem vecTo_1 (s : St) (a b : Int) : vecTo 1 s a b = (ssigned 7 s).bind fun x => if x.1 < -128 ∨ 128 < x.1 then none else vecTo 0 x.2 a x.1 := rfl
/-- The next vector. -/
def svec (s : St) : Option ((Int × Int) × St) := vecTo 2 s 0 0
def VPost (w : World) (bk g : Nat) (P : Nat → Prop) (r : Option ((Int × Int) × St)) (e : Ending) (w' : World) : Prop :=
  (r = none ∧ ∃ er : Int, (er == 0) = false ∧ e = .returned (.tuple #[.agg #[.int .i64 0, .int .i64 0], .int .i64 er]) ∧ Mod (fun j => j = g ∨ j = bk) w w') ∨
  ∃ (a b : Int) (s' : St), r = some ((a, b), s') ∧ e = .returned (.tuple #[.agg #[.int .i64 a, .int .i64 b], .int .i64 0]) ∧ SAt w' bk g P s' ∧ Mod (fun j => j = g ∨ j = bk) w w'
def VRel (w : World) (bk g rb : Nat) (P : Nat → Prop) (rv : Array Value) (r : Option ((Int × Int) × St)) (s10 : Value) (wr : World) : Prop :=
  ∃ (k : Nat) (s : St) (a b : Int), k ≤ 2 ∧ s10 = .int .i64 (k : Int) ∧ SAt wr bk g P s ∧ vecTo (2 - k) s a b = r ∧
    Sat (fun j => j = g ∨ j = bk) w wr [⟨w.heap.size + 1, 198, #[.int .i64 a, .int .i64 b]⟩, ⟨w.heap.size, 125, #[.int .i64 0, .int .i64 0]⟩] [⟨rb, 110, rv⟩]

set_option maxRecDepth 100000 in
set_option maxHeartbeats 4000000 in
theorem dVector (w : World) (bk g rb fr dg : Nat) (P : Nat → Prop) (hPg : ¬ P g) (hPb : ¬ P bk) (hPw : ∀ j, P j → j < w.heap.size) (hgb : g ≠ bk) (K : Bool) (N Q : Int) (s : St) (h : SAt w bk g P s)
    (hr : Blk w rb 110 (rdV K N Q bk g fr dg)) (hrg : rb ≠ g) (hrb : rb ≠ bk) : Calls Tryz.prog 105 #[.pointer (some ⟨rb, 0, none⟩)] w (VPost w bk g P (svec s)) := by
  have hbw : bk < w.heap.size := h.1.lt
  have hgw : g < w.heap.size := by obtain ⟨_, _, _, hb, _⟩ := h.2.2; exact hb.lt
  have HS0 := ((Sat.one (fun j => j = g ∨ j = bk) hr).alloc 125 #[.int .i64 0, .int .i64 0] rfl).alloc (g := w.heap.size + 1) 198 #[.int .i64 0, .int .i64 0] (by simp)
  have h1 : SAt ((w.alloc (.cells #[.int .i64 0, .int .i64 0] 125)).alloc (.cells #[.int .i64 0, .int .i64 0] 198)) bk g P s := h.mod (((Mod.refl (fun _ => False) w).alloc _).alloc _) (fun h => h) (fun h => h) (fun _ _ h => h)
  have H0 := Lib.hid (And.intro HS0 (And.intro h1 hPw))
  clear HS0 h1 h hr hPw
  go_enter Tryz.func105, Tryz.ntmps105
  go_wp2_with fail
  go_loopw [10] (VRel w bk g rb P (rdV K N Q bk g fr dg) (svec s)) (fun s _ => 2 - (intOf s).toNat)
  case atStart => exact ⟨0, s, 0, 0, by omega, rfl, H0.out.2.1, rfl, H0.out.1⟩
  case round =>
    obtain ⟨k, s1, a, b, hk, rfl, hs1, hR, HS⟩ := hrel
    have hb0 := HS.old_ 0 rfl
    dsimp only at hb0
    have r3 : wr.cell? ⟨rb, 3, none⟩ = some (.pointer (some ⟨bk, 0, none⟩)) := hb0.cell 3
    have r4 : wr.cell? ⟨rb, 4, none⟩ = some (.pointer (some ⟨g, 0, none⟩)) := hb0.cell 4
    obtain ⟨vc, vf⟩ := (HS.own_ 0 rfl).both
    have vl := (HS.own_ 0 rfl).lt
    have hsz := HS.mod.size
    have HK := Lib.hid (And.intro HS (And.intro hs1 hR))
    clear HS hs1 hR hb0
    have i0 : ∀ w, (Instr.index 198 (.agg #[.int .i64 6, .int .i64 7]) (.int .i64 0)).run Tryz.prog w = .ok (.int .i64 6) w := fun _ => by kernel_rfl
    have i1 : ∀ w, (Instr.index 198 (.agg #[.int .i64 6, .int .i64 7]) (.int .i64 1)).run Tryz.prog w = .ok (.int .i64 7) w := fun _ => by kernel_rfl
    have hcs : k = 0 ∨ k = 1 ∨ k = 2 := by omega
    clear hk
    rcases hcs with rfl | rfl | rfl
    · go_upto_region 5 with (fail)
      refine wp_region_plan [9] [] [0, 1, 2, 3, 4, 5, 6, 7, 8, 9, 10, 11, 12, 13, 14] (by kernel_rfl) (by kernel_rfl) (fun _ _ _ d _ h => by cases d <;> exact h) ?_
      iterate 9 (refine plan_still rfl rfl (fun K hK => ?_); go_simp; refine hK _ ?_; clear hK K)
      refine plan_loud rfl rfl (fun K hK => ?_)
      go_simp
      refine (bookSigned _ bk g P hPg hPb (fun j hj => by have := H0.out.2.2 j hj; simp; omega) hgb s1 6 (by omega) (HK.out.2.1.mod ((Mod.refl (fun _ => False) _).drew) (fun h => h) (fun h => h) (fun _ _ h => h))).mono ?_
      rintro e w2 (⟨hr, er, her, rfl, hm⟩ | ⟨v, s2, hr, rfl, hs2, hm⟩)
      · have HS2 := Sat.beside hm HK.out.1.drew (fun _ h => .inl h) (by intro e he; simp only [List.mem_append, List.mem_cons, List.not_mem_nil, or_false] at he; rcases he with (rfl | rfl) | rfl <;> (dsimp only; omega))
        have hR0 : vecTo 2 s1 a b = svec s := HK.out.2.2
        rw [vecTo_2, hr] at hR0
        have hR : svec s = none := hR0.symm
        clear hR0
        have H2 := Lib.hid (And.intro HS2 hR)
        obtain ⟨rc, rf⟩ := (HS2.own_ 1 rfl).both
        have rl := (HS2.own_ 1 rfl).lt
        have her' : (er != 0) = true := by rw [bne, her]; rfl
        clear HS2 hR hm r3 r4 vc vf vl hr her i0 i1
        dsimp only []
        refine hK _ _ ?_
        clear hK K
        iterate 5 (refine plan_still rfl rfl (fun K hK => ?_); go_simp; refine hK _ ?_; clear hK K)
        refine plan_done ?_
        go_wp2_with fail
        have HE := (H2.out.1.put (g := w.heap.size) (i := 0) (u := .int .i64 0) (.there (.here rfl))).put (g := w.heap.size) (i := 1) (u := .int .i64 0) (.there (.here rfl))
        refine bodyPost_ret (v := .tuple #[.agg #[.int .i64 0, .int .i64 0], .int .i64 er]) (by simp [results, Tryz.results105, go_sem, rc]) rfl (.inl ⟨H2.out.2, er, by simpa using her', rfl, HE.mod⟩)
      · have HS2 := Sat.beside hm HK.out.1.drew (fun _ h => .inl h) (by intro e he; simp only [List.mem_append, List.mem_cons, List.not_mem_nil, or_false] at he; rcases he with (rfl | rfl) | rfl <;> (dsimp only; omega))
        have hle := ssigned_le hr
        obtain ⟨hl1, hl2⟩ := hle
        by_cases hv : v < -128 ∨ 128 < v
        · have hR0 : vecTo 2 s1 a b = svec s := HK.out.2.2
          rw [vecTo_2, hr] at hR0
          have hR0 : (if v < -128 ∨ 128 < v then none else vecTo 1 s2 v b) = svec s := hR0
          rw [if_pos hv] at hR0
          have hR := hR0.symm
          clear hR0
          have H2 := Lib.hid (And.intro HS2 hR)
          obtain ⟨rc, rf⟩ := (HS2.own_ 1 rfl).both
          have rl := (HS2.own_ 1 rfl).lt
          clear HS2 hR hm r3 r4 vc vf vl hr i0 i1 hs2
          dsimp only []
          refine hK _ _ ?_
          clear hK K
          iterate 5 (refine plan_still rfl rfl (fun K hK => ?_); go_simp; refine hK _ ?_; clear hK K)
          refine plan_done ?_
          have HE := (H2.out.1.put (g := w.heap.size) (i := 0) (u := .int .i64 0) (.there (.here rfl))).put (g := w.heap.size) (i := 1) (u := .int .i64 0) (.there (.here rfl))
          by_cases hv1 : v < -128
          · have d1 : decide (v < -128) = true := decide_eq_true hv1
            have HE := Lib.hid HE
            go_wp2_with fail
            refine bodyPost_ret (v := .tuple #[.agg #[.int .i64 0, .int .i64 0], .int .i64 132]) (by simp [results, Tryz.results105, go_sem, rc]) rfl (.inl ⟨H2.out.2, 132, rfl, rfl, HE.out.mod⟩)
          · have d1 : decide (v < -128) = false := decide_eq_false hv1
            have d2 : decide (128 < v) = true := decide_eq_true (by omega)
            have HE := Lib.hid HE
            go_wp2_with fail
            refine bodyPost_ret (v := .tuple #[.agg #[.int .i64 0, .int .i64 0], .int .i64 132]) (by simp [results, Tryz.results105, go_sem, rc]) rfl (.inl ⟨H2.out.2, 132, rfl, rfl, HE.out.mod⟩)
        · have hR0 : vecTo 2 s1 a b = svec s := HK.out.2.2
          rw [vecTo_2, hr] at hR0
          have hR0 : (if v < -128 ∨ 128 < v then none else vecTo 1 s2 v b) = svec s := hR0
          rw [if_neg hv] at hR0
          have hR := hR0
          clear hR0
          have d1 : decide (v < -128) = false := decide_eq_false (by omega)
          have d2 : decide (128 < v) = false := decide_eq_false (by omega)
          obtain ⟨vc, vf⟩ := (HS2.own_ 0 rfl).both
          have vl := (HS2.own_ 0 rfl).lt
          have H2 := Lib.hid (And.intro HS2 (And.intro hR hs2))
          clear HS2 hR hm r3 r4 hr i0 i1 hs2 hv
          dsimp only []
          refine hK _ _ ?_
          clear hK K
          iterate 5 (refine plan_still rfl rfl (fun K hK => ?_); go_simp; refine hK _ ?_; clear hK K)
          refine plan_done ?_
          go_wp2_with fail
          go_roundw
          case rel =>
            have HE := H2.out.1.put (g := w.heap.size + 1) (i := 0) (u := .int .i64 v) (.here rfl)
            have hm2 := HE.mod
            exact ⟨1, s2, v, b, by omega, rfl, H2.out.2.2.mod ((Mod.refl (· = w.heap.size + 1) _).setCell (p := ⟨w.heap.size + 1, 0, none⟩) (.inl rfl) _) (by omega) (by omega) (fun j hj e => by have := H0.out.2.2 j hj; omega), H2.out.2.1, HE⟩
          case measure => simp [intOf]
    · go_upto_region 5 with (fail)
      refine wp_region_plan [9] [] [0, 1, 2, 3, 4, 5, 6, 7, 8, 9, 10, 11, 12, 13, 14] (by kernel_rfl) (by kernel_rfl) (fun _ _ _ d _ h => by cases d <;> exact h) ?_
      iterate 9 (refine plan_still rfl rfl (fun K hK => ?_); go_simp; refine hK _ ?_; clear hK K)
      refine plan_loud rfl rfl (fun K hK => ?_)
      go_simp
      refine (bookSigned _ bk g P hPg hPb (fun j hj => by have := H0.out.2.2 j hj; simp; omega) hgb s1 7 (by omega) (HK.out.2.1.mod ((Mod.refl (fun _ => False) _).drew) (fun h => h) (fun h => h) (fun _ _ h => h))).mono ?_
      rintro e w2 (⟨hr, er, her, rfl, hm⟩ | ⟨v, s2, hr, rfl, hs2, hm⟩)
      · have HS2 := Sat.beside hm HK.out.1.drew (fun _ h => .inl h) (by intro e he; simp only [List.mem_append, List.mem_cons, List.not_mem_nil, or_false] at he; rcases he with (rfl | rfl) | rfl <;> (dsimp only; omega))
        have hR0 : vecTo 1 s1 a b = svec s := HK.out.2.2
        rw [vecTo_1, hr] at hR0
        have hR : svec s = none := hR0.symm
        clear hR0
        have H2 := Lib.hid (And.intro HS2 hR)
        obtain ⟨rc, rf⟩ := (HS2.own_ 1 rfl).both
        have rl := (HS2.own_ 1 rfl).lt
        have her' : (er != 0) = true := by rw [bne, her]; rfl
        clear HS2 hR hm r3 r4 vc vf vl hr her i0 i1
        dsimp only []
        refine hK _ _ ?_
        clear hK K
        iterate 5 (refine plan_still rfl rfl (fun K hK => ?_); go_simp; refine hK _ ?_; clear hK K)
        refine plan_done ?_
        go_wp2_with fail
        have HE := (H2.out.1.put (g := w.heap.size) (i := 0) (u := .int .i64 0) (.there (.here rfl))).put (g := w.heap.size) (i := 1) (u := .int .i64 0) (.there (.here rfl))
        refine bodyPost_ret (v := .tuple #[.agg #[.int .i64 0, .int .i64 0], .int .i64 er]) (by simp [results, Tryz.results105, go_sem, rc]) rfl (.inl ⟨H2.out.2, er, by simpa using her', rfl, HE.mod⟩)
      · have HS2 := Sat.beside hm HK.out.1.drew (fun _ h => .inl h) (by intro e he; simp only [List.mem_append, List.mem_cons, List.not_mem_nil, or_false] at he; rcases he with (rfl | rfl) | rfl <;> (dsimp only; omega))
        have hle := ssigned_le hr
        obtain ⟨hl1, hl2⟩ := hle
        by_cases hv : v < -128 ∨ 128 < v
        · have hR0 : vecTo 1 s1 a b = svec s := HK.out.2.2
          rw [vecTo_1, hr] at hR0
          have hR0 : (if v < -128 ∨ 128 < v then none else vecTo 0 s2 a v) = svec s := hR0
          rw [if_pos hv] at hR0
          have hR := hR0.symm
          clear hR0
          have H2 := Lib.hid (And.intro HS2 hR)
          obtain ⟨rc, rf⟩ := (HS2.own_ 1 rfl).both
          have rl := (HS2.own_ 1 rfl).lt
          clear HS2 hR hm r3 r4 vc vf vl hr i0 i1 hs2
          dsimp only []
          refine hK _ _ ?_
          clear hK K
          iterate 5 (refine plan_still rfl rfl (fun K hK => ?_); go_simp; refine hK _ ?_; clear hK K)
          refine plan_done ?_
          have HE := (H2.out.1.put (g := w.heap.size) (i := 0) (u := .int .i64 0) (.there (.here rfl))).put (g := w.heap.size) (i := 1) (u := .int .i64 0) (.there (.here rfl))
          by_cases hv1 : v < -128
          · have d1 : decide (v < -128) = true := decide_eq_true hv1
            have HE := Lib.hid HE
            go_wp2_with fail
            refine bodyPost_ret (v := .tuple #[.agg #[.int .i64 0, .int .i64 0], .int .i64 132]) (by simp [results, Tryz.results105, go_sem, rc]) rfl (.inl ⟨H2.out.2, 132, rfl, rfl, HE.out.mod⟩)
          · have d1 : decide (v < -128) = false := decide_eq_false hv1
            have d2 : decide (128 < v) = true := decide_eq_true (by omega)
            have HE := Lib.hid HE
            go_wp2_with fail
            refine bodyPost_ret (v := .tuple #[.agg #[.int .i64 0, .int .i64 0], .int .i64 132]) (by simp [results, Tryz.results105, go_sem, rc]) rfl (.inl ⟨H2.out.2, 132, rfl, rfl, HE.out.mod⟩)
        · have hR0 : vecTo 1 s1 a b = svec s := HK.out.2.2
          rw [vecTo_1, hr] at hR0
          have hR0 : (if v < -128 ∨ 128 < v then none else vecTo 0 s2 a v) = svec s := hR0
          rw [if_neg hv] at hR0
          have hR := hR0
          clear hR0
          have d1 : decide (v < -128) = false := decide_eq_false (by omega)
          have d2 : decide (128 < v) = false := decide_eq_false (by omega)
          obtain ⟨vc, vf⟩ := (HS2.own_ 0 rfl).both
          have vl := (HS2.own_ 0 rfl).lt
          have H2 := Lib.hid (And.intro HS2 (And.intro hR hs2))
          clear HS2 hR hm r3 r4 hr i0 i1 hs2 hv
          dsimp only []
          refine hK _ _ ?_
          clear hK K
          iterate 5 (refine plan_still rfl rfl (fun K hK => ?_); go_simp; refine hK _ ?_; clear hK K)
          refine plan_done ?_
          go_wp2_with fail
          go_roundw
          case rel =>
            have HE := H2.out.1.put (g := w.heap.size + 1) (i := 1) (u := .int .i64 v) (.here rfl)
            have hm2 := HE.mod
            exact ⟨2, s2, a, v, by omega, rfl, H2.out.2.2.mod ((Mod.refl (· = w.heap.size + 1) _).setCell (p := ⟨w.heap.size + 1, 1, none⟩) (.inl rfl) _) (by omega) (by omega) (fun j hj e => by have := H0.out.2.2 j hj; omega), H2.out.2.1, HE⟩
          case measure => simp [intOf]
    · obtain ⟨rc, rf⟩ := (HK.out.1.own_ 1 rfl).both
      have rl := (HK.out.1.own_ 1 rfl).lt
      clear i0 i1 r3 r4
      go_wp2_with fail
      have HE := (HK.out.1.put (g := w.heap.size) (i := 0) (u := .int .i64 a) (.there (.here rfl))).put (g := w.heap.size) (i := 1) (u := .int .i64 b) (.there (.here rfl))
      refine bodyPost_ret (v := .tuple #[.agg #[.int .i64 a, .int .i64 b], .int .i64 0]) (by simp [results, Tryz.results105, go_sem, rc]) rfl (.inr ⟨a, b, s1, HK.out.2.2.symm, rfl, ?_, HE.mod⟩)
      exact HK.out.2.1.mod (((Mod.refl (· = w.heap.size) _).setCell (p := ⟨w.heap.size, 0, none⟩) (.inl rfl) _).setCell (p := ⟨w.heap.size, 1, none⟩) (.inl rfl) _) (by omega) (by omega) (fun j hj e => by have := H0.out.2.2 j hj; omega)
end Go.Proofs.YteppnjgfebcmjaaGreat
