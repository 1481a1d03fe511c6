/-
  manifest.read, walked: one line's fields taken in. Written by gen_read.py.
-/
import Derived.Test.YtkobngipbhjfjaaDoorMfRead1
import Derived.Test.YtkobngipbhjfjaaDoorMfStep
import Derived.Test.YtkobngipbhjfjaaDoorMfLine
import Derived.Test.YtkobngipbhjfjaaDoorMfStepO
import Derived.Test.YtkobngipbhjfjaaDoorPlanT
import Derived.Deep.DeepCutAuto
import Derived.Laws.EntriesVeiled
namespace Go.Proofs.YtkobngipbhjfjaaDoor
open Go.RowKit

def RdPost (w : World) (B mb : Nat) (f : List Str) (m : Mf) (e : Ending) (w' : World) : Prop :=
  ∃ r m', e = .returned (.bool r) ∧ (∃ v' ps', MfOwn w' B mb v' ps' m') ∧ Fr B mb w w' ∧ stepO numP f m = (if r then some m' else none) ∧ cnt m' ≤ cnt m + 1
set_option maxRecDepth 100000 in
set_option maxHeartbeats 8000000 in
theorem pRead (W w : World) (B mb fb n : Nat) (v : Value) (ps : List (Ls × Value)) (m : Mf) (f : List Str) (hW : Mod (fun _ => False) W w) (heW : Env W) (hB : W.heap.size ≤ B) (hBw : B ≤ w.heap.size) (h : MfOwn w B mb v ps m)
    (hf : Blk w fb 9 (strsV f).toArray) (hn : f.length = n) (h0 : 0 < n) (hfl : ∀ s ∈ f, s.length ≤ 1048576) (hc : cnt m < 1048576) :
    Calls Tryd.prog 38 #[.pointer (some ⟨mb, 0, none⟩), .slice (some ⟨fb, 0, none⟩) n n] w (RdPost w B mb f m) := by
  obtain ⟨A, c, hv⟩ := own_shape h.row
  subst hv
  have hf1 := hf.alloc (.cells #[.bool true] 4)
  have hk1 : Blk (w.alloc (.cells #[.bool true] 4)) w.heap.size 4 #[.bool true] := Blk.new _ _ _
  have mA : Mod (fun _ => False) w (w.alloc (.cells #[.bool true] 4)) := (Mod.refl _ w).alloc _
  have ho1 := h.quiet mA
  have hfr1 : Fr B mb w (w.alloc (.cells #[.bool true] 4)) := (Fr.refl B mb w).quiet mA
  have hW1 := hW.trans mA
  have hfc := hf1.cell
  obtain ⟨f0, hf0⟩ : ∃ s, f[0]? = some s := ⟨_, List.getElem?_eq_getElem (by omega)⟩
  have c0 := hfc 0
  rw [strsV_get hf0] at c0
  have hmb : mb ≠ w.heap.size := by have := h.blk.lt; omega
  have hr0 := h.rends
  have hflt := hf.lt
  have hWw := hW
  have cm2 := h.blk.cell 2
  have hpn : ps.length ≤ 1048576 := by rw [← List.length_map (f := Prod.fst), hr0]; exact h.nums.2.2
  have H := Lib.hid (And.intro h (And.intro ho1 (And.intro hf1 (And.intro hk1 (And.intro hfr1 (And.intro hW1 (And.intro hn (And.intro hf0 hr0))))))))
  clear h hf hfc hW hf1 hk1 mA ho1 hfr1 hW1 hr0
  have hfk : fb ≠ w.heap.size := by have := H.out.2.2.1.lt; have := hflt; omega
  have hfm : fb ≠ mb := Blk.ne_ H.out.2.2.1 H.out.2.1.blk (by decide)
  have hmB : W.heap.size ≤ mb := Nat.le_trans hB H.out.1.low
  by_cases q1 : f0 = kScale ∧ n = 4
  · obtain ⟨q0, rfl⟩ := q1
    have q00 : f0 = kScale := q0
    have e0 : (strOf f0).toList = [115, 99, 97, 108, 101] := by rw [strOf_toList, q0]; rfl
    obtain ⟨f1, hf1⟩ : ∃ s, f[1]? = some s := ⟨_, List.getElem?_eq_getElem (by omega)⟩
    obtain ⟨f3, hf3⟩ : ∃ s, f[3]? = some s := ⟨_, List.getElem?_eq_getElem (by omega)⟩
    have c1 : (w.alloc (.cells #[.bool true] 4)).drew.cell? ⟨fb, 1, none⟩ = some (.string (strOf f1)) := by have := H.out.2.2.1.drew.cell 1; rw [strsV_get hf1] at this; exact this
    have HQ := Lib.hid q00
    clear q0 q00
    go_enter Tryd.func38, Tryd.ntmps38
    go_upto_region 5 with (fail)
    refine wp_region_planT [6, 11, 14, 17] [0, 1, 7, 8, 9, 10] (2 :: 3 :: 4 :: 5 :: 0 :: 1 :: 7 :: 8 :: 9 :: 10 :: 6 :: 11 :: 12 :: 13 :: 14 :: 15 :: 16 :: 17 :: []) (fun w' => Blk w' fb 9 (strsV f).toArray) (by kernel_rfl) (by kernel_rfl) (fun _ _ _ d _ h => by cases d <;> exact h) H.out.2.2.1.drew ?_
    iterate 4 (refine planT_still rfl rfl (fun K hK => ?_); go_simp; refine hK _ ?_; clear hK K)
    refine planT_read (v := .pointer (some ⟨mb, 0, none⟩)) rfl rfl rfl (fun _ _ => rfl) (fun K hK => ?_)
    go_simp
    refine hK _ ?_
    clear hK K
    refine planT_read (v := .pointer (some ⟨mb, 0, none⟩)) rfl rfl rfl (fun _ _ => rfl) (fun K hK => ?_)
    go_simp
    refine hK _ ?_
    clear hK K
    refine planT_read (v := .func (.func 54) #[] #[.pointer (some ⟨w.heap.size, 0, none⟩)]) rfl rfl rfl (fun _ _ => rfl) (fun K hK => ?_)
    go_simp
    refine hK _ ?_
    clear hK K
    refine planT_read (v := .slice (some ⟨fb, 0, none⟩) 4 4) rfl rfl rfl (fun _ _ => rfl) (fun K hK => ?_)
    go_simp
    refine hK _ ?_
    clear hK K
    refine planT_read (v := .pointer (some ⟨fb, 3, none⟩)) rfl rfl rfl (fun _ _ => rfl) (fun K hK => ?_)
    go_simp
    refine hK _ ?_
    clear hK K
    refine planT_read (v := .string (strOf f3)) rfl rfl rfl (fun w' hS => ?_) (fun K hK => ?_)
    · have cS := (hS : Blk w' fb 9 (strsV f).toArray).cell 3; rw [strsV_get hf3] at cS
      go_simp
    go_simp
    refine hK _ ?_
    clear hK K
    have own1 := H.out.2.1.quiet (Mod.refl (fun _ => False) _).drew
    have ok1 := H.out.2.2.2.1.drew
    have fr1 := H.out.2.2.2.2.1.quiet (Mod.refl (fun _ => False) _).drew
    have fb1 := H.out.2.2.1.drew
    have W1 := H.out.2.2.2.2.2.1.drew
    refine planT_loud rfl rfl (fun K hK => ?_)
    go_simp
    refine (pRead1 _ w.heap.size true f1 (hfl f1 (List.mem_of_getElem? (by assumption))) (heW.quiet W1) ok1).mono ?_
    rintro e w2 ⟨x1, ix1, rfl, hx1, ok2, m2⟩
    have own2 := own1.other m2 ok1 rfl hmb
    have fr2 := fr1.step m2 (fun i e => .inl (by omega))
    have fb2 := fb1.keep m2 hfk
    have W2 := Fr.base hWw fr2 hB hmB
    dsimp only []
    refine hK _ _ fb2 ?_
    clear hK K m2 own1 fr1 fb1 ok1 W1
    refine planT_loud rfl rfl (fun K hK => ?_)
    go_simp
    refine (pRead1 _ w.heap.size (true && (numP f1).isSome) f3 (hfl f3 (List.mem_of_getElem? (by assumption))) (heW.quiet W2) ok2).mono ?_
    rintro e w3 ⟨x3, ix3, rfl, hx3, ok3, m3⟩
    have own3 := own2.other m3 ok2 rfl hmb
    have fr3 := fr2.step m3 (fun i e => .inl (by omega))
    have fb3 := fb2.keep m3 hfk
    have W3 := Fr.base hWw fr3 hB hmB
    dsimp only []
    refine hK _ _ fb3 ?_
    clear hK K m3 own2 fr2 fb2 ok2 W2
    obtain ⟨bv, hbv⟩ : ∃ bv, bv = (true && (numP f1).isSome && (numP f3).isSome) := ⟨_, rfl⟩
    rw [← hbv] at ok3
    obtain ⟨gc, gf⟩ := own3.blk.both
    obtain ⟨own4, m4⟩ := own3.scale_ x1 x3 ix1 ix3
    have fr4 := fr3.step m4 (fun i e => .inr (.inl e))
    have ok4 := (ok3.far (p := ⟨mb, 0, none⟩) (Ne.symm hmb) (.int .i64 x1)).far (p := ⟨mb, 1, none⟩) (Ne.symm hmb) (.int .i64 x3)
    have fb4 := fb3.far (p := ⟨mb, 0, none⟩) hfm (.int .i64 x1)
    have fb5 := fb4.far (p := ⟨mb, 1, none⟩) hfm (.int .i64 x3)
    have k4 := ok4.cell 0
    have HE := Lib.hid (And.intro hbv (And.intro own4 (And.intro fr4 (And.intro hx1 hx3))))
    clear hbv own3 fr3 ok3 fb3 W3 own4 fr4 ok4 hx1 hx3 m4
    iterate 2 (refine planT_still rfl rfl (fun K hK => ?_); go_simp; refine hK _ ?_; clear hK K)
    refine planT_loud rfl rfl (fun K hK => ?_)
    go_simp
    refine hK _ _ fb4 ?_
    clear hK K
    iterate 2 (refine planT_still rfl rfl (fun K hK => ?_); go_simp; refine hK _ ?_; clear hK K)
    refine planT_loud rfl rfl (fun K hK => ?_)
    go_simp
    refine hK _ _ fb5 ?_
    clear hK K fb4 fb5
    refine planT_done ?_
    go_wp2_with fail
    go_ret
    exact ⟨bv, _, rfl, ⟨_, _, HE.out.2.1⟩, HE.out.2.2.1, by rw [HE.out.1]; exact step_scale (HQ.out ▸ hf0) hn hf1 hf3 HE.out.2.2.2.1 HE.out.2.2.2.2, Nat.le_succ _⟩
  by_cases q2 : f0 = kRend ∧ n = 5
  · obtain ⟨q0, rfl⟩ := q2
    have q00 : f0 = kRend := q0
    have e0 : (strOf f0).toList = [114, 101, 110, 100, 105, 116, 105, 111, 110] := by rw [strOf_toList, q0]; rfl
    obtain ⟨f1, hf1⟩ : ∃ s, f[1]? = some s := ⟨_, List.getElem?_eq_getElem (by omega)⟩
    obtain ⟨f2, hf2⟩ : ∃ s, f[2]? = some s := ⟨_, List.getElem?_eq_getElem (by omega)⟩
    obtain ⟨f3, hf3⟩ : ∃ s, f[3]? = some s := ⟨_, List.getElem?_eq_getElem (by omega)⟩
    obtain ⟨f4, hf4⟩ : ∃ s, f[4]? = some s := ⟨_, List.getElem?_eq_getElem (by omega)⟩
    have c2 : (w.alloc (.cells #[.bool true] 4)).drew.cell? ⟨fb, 2, none⟩ = some (.string (strOf f2)) := by have := H.out.2.2.1.drew.cell 2; rw [strsV_get hf2] at this; exact this
    have hf1l : f1.length ≤ 9223372036854775807 := Nat.le_trans (hfl f1 (List.mem_of_getElem? hf1)) (by decide)
    have HQ := Lib.hid q00
    clear q0 q00 q1
    go_enter Tryd.func38, Tryd.ntmps38
    go_upto_region 7 with (fail)
    refine wp_region_planT [12, 17, 22, 24, 25, 28] [0, 1, 2, 3, 4, 5, 6, 7, 13, 14, 15, 16, 18, 19, 20, 21] (8 :: 9 :: 10 :: 11 :: 0 :: 1 :: 2 :: 3 :: 4 :: 5 :: 6 :: 7 :: 13 :: 14 :: 15 :: 16 :: 18 :: 19 :: 20 :: 21 :: 12 :: 17 :: 22 :: 23 :: 24 :: 25 :: 26 :: 27 :: 28 :: []) (fun w' => Blk w' fb 9 (strsV f).toArray ∧ Blk w' mb 24 #[.int .i64 m.scale, .int .i64 m.tick, .slice A ps.length c]) (by kernel_rfl) (by kernel_rfl) (fun _ _ _ d _ h => by cases d <;> exact h) ⟨H.out.2.2.1.drew, H.out.2.1.blk.drew⟩ ?_
    iterate 4 (refine planT_still rfl rfl (fun K hK => ?_); go_simp; refine hK _ ?_; clear hK K)
    refine planT_read (v := .pointer (some ⟨mb, 0, none⟩)) rfl rfl rfl (fun _ _ => rfl) (fun K hK => ?_)
    go_simp
    refine hK _ ?_
    clear hK K
    refine planT_read (v := .pointer (some ⟨mb, 0, none⟩)) rfl rfl rfl (fun _ _ => rfl) (fun K hK => ?_)
    go_simp
    refine hK _ ?_
    clear hK K
    refine planT_read (v := .pointer (some ⟨mb, 0, none⟩)) rfl rfl rfl (fun _ _ => rfl) (fun K hK => ?_)
    go_simp
    refine hK _ ?_
    clear hK K
    refine planT_read (v := .pointer (some ⟨mb, 2, none⟩)) rfl rfl rfl (fun _ _ => rfl) (fun K hK => ?_)
    go_simp
    refine hK _ ?_
    clear hK K
    refine planT_read (v := .slice A ps.length c) rfl rfl rfl (fun w' hS => ?_) (fun K hK => ?_)
    · have cS := hS.2.cell 2
      go_simp
    go_simp
    refine hK _ ?_
    clear hK K
    refine planT_read (v := .slice (some ⟨fb, 0, none⟩) 5 5) rfl rfl rfl (fun _ _ => rfl) (fun K hK => ?_)
    go_simp
    refine hK _ ?_
    clear hK K
    refine planT_read (v := .pointer (some ⟨fb, 1, none⟩)) rfl rfl rfl (fun _ _ => rfl) (fun K hK => ?_)
    go_simp
    refine hK _ ?_
    clear hK K
    refine planT_read (v := .string (strOf f1)) rfl rfl rfl (fun w' hS => ?_) (fun K hK => ?_)
    · have cS := (hS.1 : Blk w' fb 9 (strsV f).toArray).cell 1; rw [strsV_get hf1] at cS
      go_simp
    go_simp
    refine hK _ ?_
    clear hK K
    refine planT_read (v := .func (.func 54) #[] #[.pointer (some ⟨w.heap.size, 0, none⟩)]) rfl rfl rfl (fun _ _ => rfl) (fun K hK => ?_)
    go_simp
    refine hK _ ?_
    clear hK K
    refine planT_read (v := .slice (some ⟨fb, 0, none⟩) 5 5) rfl rfl rfl (fun _ _ => rfl) (fun K hK => ?_)
    go_simp
    refine hK _ ?_
    clear hK K
    refine planT_read (v := .pointer (some ⟨fb, 3, none⟩)) rfl rfl rfl (fun _ _ => rfl) (fun K hK => ?_)
    go_simp
    refine hK _ ?_
    clear hK K
    refine planT_read (v := .string (strOf f3)) rfl rfl rfl (fun w' hS => ?_) (fun K hK => ?_)
    · have cS := (hS.1 : Blk w' fb 9 (strsV f).toArray).cell 3; rw [strsV_get hf3] at cS
      go_simp
    go_simp
    refine hK _ ?_
    clear hK K
    refine planT_read (v := .func (.func 54) #[] #[.pointer (some ⟨w.heap.size, 0, none⟩)]) rfl rfl rfl (fun _ _ => rfl) (fun K hK => ?_)
    go_simp
    refine hK _ ?_
    clear hK K
    refine planT_read (v := .slice (some ⟨fb, 0, none⟩) 5 5) rfl rfl rfl (fun _ _ => rfl) (fun K hK => ?_)
    go_simp
    refine hK _ ?_
    clear hK K
    refine planT_read (v := .pointer (some ⟨fb, 4, none⟩)) rfl rfl rfl (fun _ _ => rfl) (fun K hK => ?_)
    go_simp
    refine hK _ ?_
    clear hK K
    refine planT_read (v := .string (strOf f4)) rfl rfl rfl (fun w' hS => ?_) (fun K hK => ?_)
    · have cS := (hS.1 : Blk w' fb 9 (strsV f).toArray).cell 4; rw [strsV_get hf4] at cS
      go_simp
    go_simp
    refine hK _ ?_
    clear hK K
    have own1 := H.out.2.1.quiet (Mod.refl (fun _ => False) _).drew
    have ok1 := H.out.2.2.2.1.drew
    have fr1 := H.out.2.2.2.2.1.quiet (Mod.refl (fun _ => False) _).drew
    have fb1 := H.out.2.2.1.drew
    have W1 := H.out.2.2.2.2.2.1.drew
    refine planT_loud rfl rfl (fun K hK => ?_)
    go_simp
    refine (pRead1 _ w.heap.size true f2 (hfl f2 (List.mem_of_getElem? (by assumption))) (heW.quiet W1) ok1).mono ?_
    rintro e w2 ⟨x2, ix2, rfl, hx2, ok2, m2⟩
    have own2 := own1.other m2 ok1 rfl hmb
    have fr2 := fr1.step m2 (fun i e => .inl (by omega))
    have fb2 := fb1.keep m2 hfk
    have W2 := Fr.base hWw fr2 hB hmB
    dsimp only []
    refine hK _ _ ⟨fb2, own2.blk⟩ ?_
    clear hK K m2 own1 fr1 fb1 ok1 W1
    refine planT_loud rfl rfl (fun K hK => ?_)
    go_simp
    refine (pRead1 _ w.heap.size (true && (numP f2).isSome) f3 (hfl f3 (List.mem_of_getElem? (by assumption))) (heW.quiet W2) ok2).mono ?_
    rintro e w3 ⟨x3, ix3, rfl, hx3, ok3, m3⟩
    have own3 := own2.other m3 ok2 rfl hmb
    have fr3 := fr2.step m3 (fun i e => .inl (by omega))
    have fb3 := fb2.keep m3 hfk
    have W3 := Fr.base hWw fr3 hB hmB
    dsimp only []
    refine hK _ _ ⟨fb3, own3.blk⟩ ?_
    clear hK K m3 own2 fr2 fb2 ok2 W2
    refine planT_loud rfl rfl (fun K hK => ?_)
    go_simp
    refine (pRead1 _ w.heap.size (true && (numP f2).isSome && (numP f3).isSome) f4 (hfl f4 (List.mem_of_getElem? (by assumption))) (heW.quiet W3) ok3).mono ?_
    rintro e w4 ⟨x4, ix4, rfl, hx4, ok4, m4⟩
    have own4 := own3.other m4 ok3 rfl hmb
    have fr4 := fr3.step m4 (fun i e => .inl (by omega))
    have fb4 := fb3.keep m4 hfk
    have W4 := Fr.base hWw fr4 hB hmB
    dsimp only []
    refine hK _ _ ⟨fb4, own4.blk⟩ ?_
    clear hK K m4 own3 fr3 fb3 ok3 W3
    obtain ⟨bv, hbv⟩ : ∃ bv, bv = (true && (numP f2).isSome && (numP f3).isSome && (numP f4).isSome) := ⟨_, rfl⟩
    rw [← hbv] at ok4
    have hlo : Ls.Ok ⟨f1, x2, x3, x4, ⟨0, 0, []⟩, []⟩ := ⟨hf1l, ix2, ix3, ix4, pc0_ok, by simp⟩
    have hrl : m.rends.length < 1048576 := by unfold cnt at hc; omega
    have HE := Lib.hid (And.intro hbv (And.intro hx2 (And.intro hx3 (And.intro hx4 (And.intro hlo (And.intro own4 (And.intro fr4 (And.intro ok4 (And.intro fb4 W4)))))))))
    clear hbv hx2 hx3 hx4 hlo own4 fr4 ok4 fb4 W4
    iterate 1 (refine planT_still rfl rfl (fun K hK => ?_); go_simp; refine hK _ ?_; clear hK K)
    refine planT_loud rfl rfl (fun K hK => ?_)
    go_simp
    refine hK _ _ ⟨HE.out.2.2.2.2.2.2.2.2.1.alloc _, HE.out.2.2.2.2.2.1.blk.alloc _⟩ ?_
    clear hK K
    refine planT_loud rfl rfl (fun K hK => ?_)
    obtain ⟨i0, hi0, hz0, hz1, hz2⟩ := info_parts ls_info
    refine step_append_src _ rfl (.tmp 56) (.tmp 76) 22 rfl B 35 i0 _ 8 96 Tryd.underlying22 hi0 hz0 hz1 hz2 rfl (by omega) (.slice A ps.length c) ps.length (ps.flatMap fun p => lsU p.1 p.2) rfl (own_mod HE.out.2.2.2.2.2.1.row ((Mod.refl (fun _ => False) w4).alloc _) (fun _ _ h => h)) (some ⟨w4.heap.size, 0, none⟩) 1 1 (lsU ⟨f1, x2, x3, x4, ⟨0, 0, []⟩, []⟩ (.slice none 0 0)) rfl (Src.new w4 35 (lsU ⟨f1, x2, x3, x4, ⟨0, 0, []⟩, []⟩ (.slice none 0 0))) (fun h => by cases h) (lsU_one _ _ rfl) (by unfold maxLen; omega) (by omega) (by rw [World.size_alloc]; have := HE.out.2.2.2.2.2.2.1.size; omega) ?_
    intro v' w5 h1 h2 h3
    have hM5 : Mod (fun j => (Value.slice A ps.length c).ownBlock = some j) w4 w5 := ((Mod.refl _ _).alloc _).grown h2 (fun k hk => .inl hk)
    obtain ⟨A5, n5, c5, rfl⟩ := own_form h1
    have fb5 := HE.out.2.2.2.2.2.2.2.2.1.keep hM5 (own_ne_blk HE.out.2.2.2.2.2.1.row HE.out.2.2.2.2.2.2.2.2.1 (by decide))
    have mb5 := HE.out.2.2.2.2.2.1.blk.keep hM5 (own_ne_blk HE.out.2.2.2.2.2.1.row HE.out.2.2.2.2.2.1.blk (by decide))
    have ok5 := (HE.out.2.2.2.2.2.2.2.1.keep hM5 (own_ne_blk HE.out.2.2.2.2.2.1.row HE.out.2.2.2.2.2.2.2.1 (by decide))).far (p := ⟨mb, 2, none⟩) (Ne.symm hmb) (.slice A5 n5 c5)
    obtain ⟨own6, m6⟩ := HE.out.2.2.2.2.2.1.addR ⟨f1, x2, x3, x4, ⟨0, 0, []⟩, []⟩ rfl HE.out.2.2.2.2.1 hrl h1 hM5
    have fr6 := HE.out.2.2.2.2.2.2.1.step m6 (fun i e => by
      rcases e with e | e
      · exact .inr (.inl e)
      · obtain ⟨h1, cs, h2⟩ := own_blk HE.out.2.2.2.2.2.1.row e
        exact .inr (.inr ⟨h1, _, cs, h2, rfl⟩))
    refine hK _ _ ⟨fb5, mb5⟩ ?_
    clear hK K
    have gc := mb5.cell
    have gf := mb5.frozen
    have k5 := ok5.cell 0
    have HF := Lib.hid (And.intro own6 fr6)
    clear own6 fr6 m6 h1 h2 h3 hM5 fb5 mb5 ok5 i0 hi0 hz0 hz1 hz2
    iterate 2 (refine planT_still rfl rfl (fun K hK => ?_); go_simp; refine hK _ ?_; clear hK K)
    refine planT_last (by kernel_rfl) rfl (fun K hK => ?_)
    go_simp
    refine hK _ _ ?_
    clear hK K
    refine planT_done ?_
    go_wp2_with fail
    go_ret
    exact ⟨bv, _, rfl, ⟨_, _, HF.out.1⟩, HF.out.2, by rw [HE.out.1]; exact step_rend (HQ.out ▸ hf0) hn hf1 hf2 hf3 hf4 HE.out.2.1 HE.out.2.2.1 HE.out.2.2.2.1, cnt_rend rfl⟩
  by_cases q3 : f0 = kInit ∧ n = 3 ∧ ps ≠ []
  · obtain ⟨q0, rfl, qn⟩ := q3
    have q00 : f0 = kInit := q0
    have e0 : (strOf f0).toList = [105, 110, 105, 116] := by rw [strOf_toList, q0]; rfl
    obtain ⟨ps0, ⟨l, u⟩, hps⟩ : ∃ ps0 p, ps = ps0 ++ [p] := by
      rcases List.eq_nil_or_concat ps with h | ⟨a, b, h⟩
      · exact absurd h qn
      · exact ⟨a, b, by rw [h, List.concat_eq_append]⟩
    subst hps
    obtain ⟨k, hk⟩ : ∃ k, k = ps0.length := ⟨_, rfl⟩
    have hlen : (ps0 ++ [(l, u)]).length = k + 1 := by rw [List.length_append, List.length_singleton, hk]
    rw [hlen] at H cm2 hpn
    obtain ⟨g, cap, cur0, hv, _⟩ := own_some H.out.1.row (by omega)
    rw [hlen] at hv
    injection hv with hA _ _
    subst hA
    have hre : m.rends = ps0.map Prod.fst ++ [l] := by rw [← H.out.2.2.2.2.2.2.2.2]; simp
    have hlm : l ∈ m.rends := by rw [hre]; simp
    have hok := H.out.1.ok l hlm
    have hcl := cnt_in hlm
    obtain ⟨f1, hf1⟩ : ∃ s, f[1]? = some s := ⟨_, List.getElem?_eq_getElem (by omega)⟩
    obtain ⟨f2, hf2⟩ : ∃ s, f[2]? = some s := ⟨_, List.getElem?_eq_getElem (by omega)⟩
    have c1 : (w.alloc (.cells #[.bool true] 4)).drew.cell? ⟨fb, 1, none⟩ = some (.string (strOf f1)) := by have := H.out.2.2.1.drew.cell 1; rw [strsV_get hf1] at this; exact this
    have hf2l : f2.length ≤ 9223372036854775807 := Nat.le_trans (hfl f2 (List.mem_of_getElem? hf2)) (by decide)
    have hne : m.rends ≠ [] := by rw [hre]; simp
    have HQ := Lib.hid (And.intro q00 (And.intro hre (And.intro hk (And.intro hlen (And.intro hok hne)))))
    clear q0 q00 q1 q2 hre hk hlen hok qn hcl hlm hne
    go_enter Tryd.func38, Tryd.ntmps38
    go_upto_region 9 with (fail)
    refine wp_region_planT [9, 16] [0, 1, 2, 3, 4, 10, 11, 12] (5 :: 6 :: 7 :: 8 :: 0 :: 1 :: 2 :: 3 :: 4 :: 10 :: 11 :: 12 :: 9 :: 13 :: 14 :: 15 :: 16 :: []) (fun w' => Blk w' fb 9 (strsV f).toArray ∧ Blk w' mb 24 #[.int .i64 m.scale, .int .i64 m.tick, .slice (some ⟨g, 0, none⟩) (k + 1) c]) (by kernel_rfl) (by kernel_rfl) (fun _ _ _ d _ h => by cases d <;> exact h) ⟨H.out.2.2.1.drew, H.out.2.1.blk.drew⟩ ?_
    iterate 4 (refine planT_still rfl rfl (fun K hK => ?_); go_simp; refine hK _ ?_; clear hK K)
    refine planT_read (v := .pointer (some ⟨mb, 0, none⟩)) rfl rfl rfl (fun _ _ => rfl) (fun K hK => ?_)
    go_simp
    refine hK _ ?_
    clear hK K
    refine planT_read (v := .pointer (some ⟨mb, 0, none⟩)) rfl rfl rfl (fun _ _ => rfl) (fun K hK => ?_)
    go_simp
    refine hK _ ?_
    clear hK K
    refine planT_read (v := .pointer (some ⟨mb, 2, none⟩)) rfl rfl rfl (fun _ _ => rfl) (fun K hK => ?_)
    go_simp
    refine hK _ ?_
    clear hK K
    refine planT_read (v := .slice (some ⟨g, 0, none⟩) (k + 1) c) rfl rfl rfl (fun w' hS => ?_) (fun K hK => ?_)
    · have cS := hS.2.cell 2
      go_simp
    go_simp
    refine hK _ ?_
    clear hK K
    refine planT_read (v := .int .i64 (k : Int)) rfl rfl rfl (fun _ _ => rfl) (fun K hK => ?_)
    go_simp
    refine hK _ ?_
    clear hK K
    refine planT_read (v := .slice (some ⟨fb, 0, none⟩) 3 3) rfl rfl rfl (fun _ _ => rfl) (fun K hK => ?_)
    go_simp
    refine hK _ ?_
    clear hK K
    refine planT_read (v := .pointer (some ⟨fb, 2, none⟩)) rfl rfl rfl (fun _ _ => rfl) (fun K hK => ?_)
    go_simp
    refine hK _ ?_
    clear hK K
    refine planT_read (v := .string (strOf f2)) rfl rfl rfl (fun w' hS => ?_) (fun K hK => ?_)
    · have cS := (hS.1 : Blk w' fb 9 (strsV f).toArray).cell 2; rw [strsV_get hf2] at cS
      go_simp
    go_simp
    refine hK _ ?_
    clear hK K
    have own1 := H.out.2.1.quiet (Mod.refl (fun _ => False) _).drew
    have ok1 := H.out.2.2.2.1.drew
    have fr1 := H.out.2.2.2.2.1.quiet (Mod.refl (fun _ => False) _).drew
    have fb1 := H.out.2.2.1.drew
    have W1 := H.out.2.2.2.2.2.1.drew
    refine planT_loud rfl rfl (fun K hK => ?_)
    go_simp
    refine (pRead1 _ w.heap.size true f1 (hfl f1 (List.mem_of_getElem? (by assumption))) (heW.quiet W1) ok1).mono ?_
    rintro e w2 ⟨x1, ix1, rfl, hx1, ok2, m2⟩
    have own2 := own1.other m2 ok1 rfl hmb
    have fr2 := fr1.step m2 (fun i e => .inl (by omega))
    have fb2 := fb1.keep m2 hfk
    have W2 := Fr.base hWw fr2 hB hmB
    dsimp only []
    refine hK _ _ ⟨fb2, own2.blk⟩ ?_
    clear hK K m2 own1 fr1 fb1 ok1 W1
    obtain ⟨bv, hbv⟩ : ∃ bv, bv = (true && (numP f1).isSome) := ⟨_, rfl⟩
    rw [← hbv] at ok2
    obtain ⟨g', cap', cur, hv', hg', hgb, _, _, hcs, _⟩ := own_some own2.row (by rw [HQ.out.2.2.2.1]; omega)
    rw [HQ.out.2.2.2.1] at hv'
    injection hv' with hA' _ _
    injection hA' with hA'
    injection hA' with hA'
    subst hA'
    have hcap : k * 8 + 8 ≤ cur.size := by
      have h1 : k + 1 ≤ cap' := by have := HQ.out.2.2.2.1; omega
      rw [hcs]
      omega
    have hkk : (k : Int) < (k : Int) + 1 := by omega
    iterate 3 (refine planT_still rfl rfl (fun K hK => ?_); go_simp; refine hK _ ?_; clear hK K)
    have hup := own2.pcs (l, u) (by simp)
    have HE := Lib.hid (And.intro hbv (And.intro hx1 (And.intro own2 (And.intro fr2 (And.intro ok2 (And.intro hgb hup))))))
    clear hbv hx1 own2 fr2 ok2 fb2 W2 hgb hup
    refine planT_last (by kernel_rfl) rfl (fun K hK => ?_)
    refine step_store_part rfl 32 (.tmp 109) (.tmp 107) rfl g (k * 8 + 4) (pcV ⟨0, x1, f2⟩) rfl rfl 35 cur.toList HE.out.2.2.2.2.2.1 (by kernel_rfl) (by rw [Array.length_toList]; simp [pcV]; omega) (pcV_one _) ?_
    intro w3 hb3 hm3
    have hS3 : Mod (fun j => j = g ∨ (fun _ : Nat => False) j) w2 w3 := hm3.mono (fun j e => .inl e)
    rw [HQ.out.2.2.1] at hb3
    have own3 := HE.out.2.2.1.last_ (l' := { l with init := ⟨0, x1, f2⟩ }) (u' := u) (i := 4) (cells := pcV ⟨0, x1, f2⟩) HE.out.2.2.2.2.2.1 rfl (by simp [pcV]) hb3 (fun _ => False) hS3 (fun _ h => h.elim)
      (own_mod HE.out.2.2.2.2.2.2 hm3 (fun j hj e => own_ne_blk HE.out.2.2.2.2.2.2 HE.out.2.2.2.2.2.1 (by decide) (by rw [hj, e]))) (fun _ h => .inl h)
      ⟨⟨HQ.out.2.2.2.2.1.1.1, HQ.out.2.2.2.2.1.1.2.1, HQ.out.2.2.2.2.1.1.2.2.1, HQ.out.2.2.2.2.1.1.2.2.2.1, pcI_ok ix1 hf2l, HQ.out.2.2.2.2.1.1.2.2.2.2.2⟩, HQ.out.2.2.2.2.1.2⟩
    have fr3 := HE.out.2.2.2.1.step hm3 (fun i e => by subst e; exact .inr (.inr ⟨hg', _, _, HE.out.2.2.2.2.2.1, rfl⟩))
    have ok3 := HE.out.2.2.2.2.1.keep hm3 (fun e => Blk.ne_ (e ▸ HE.out.2.2.2.2.1) HE.out.2.2.2.2.2.1 (by decide) rfl)
    have k3 := ok3.cell 0
    have HF := Lib.hid (And.intro own3 fr3)
    clear own3 fr3 ok3 hb3 hm3 hS3
    refine hK _ _ ?_
    clear hK K
    refine planT_done ?_
    go_wp2_with fail
    go_ret
    exact ⟨bv, _, rfl, ⟨_, _, HF.out.1⟩, HF.out.2, by rw [HE.out.1, onLast_is (fun l => { l with init := ⟨0, x1, f2⟩ }) HQ.out.2.1]; exact step_init (HQ.out.1 ▸ hf0) hn HQ.out.2.2.2.2.2 hf1 hf2 HE.out.2.1, cnt_last HQ.out.2.1 (Nat.le_succ _)⟩
  by_cases q4 : f0 = kPiece ∧ n = 4 ∧ ps ≠ []
  · obtain ⟨q0, rfl, qn⟩ := q4
    have q00 : f0 = kPiece := q0
    have e0 : (strOf f0).toList = [112, 105, 101, 99, 101] := by rw [strOf_toList, q0]; rfl
    obtain ⟨ps0, ⟨l, u⟩, hps⟩ : ∃ ps0 p, ps = ps0 ++ [p] := by
      rcases List.eq_nil_or_concat ps with h | ⟨a, b, h⟩
      · exact absurd h qn
      · exact ⟨a, b, by rw [h, List.concat_eq_append]⟩
    subst hps
    obtain ⟨k, hk⟩ : ∃ k, k = ps0.length := ⟨_, rfl⟩
    have hlen : (ps0 ++ [(l, u)]).length = k + 1 := by rw [List.length_append, List.length_singleton, hk]
    rw [hlen] at H cm2 hpn
    obtain ⟨g, cap, cur0, hv, _⟩ := own_some H.out.1.row (by omega)
    rw [hlen] at hv
    injection hv with hA _ _
    subst hA
    have hre : m.rends = ps0.map Prod.fst ++ [l] := by rw [← H.out.2.2.2.2.2.2.2.2]; simp
    have hlm : l ∈ m.rends := by rw [hre]; simp
    have hok := H.out.1.ok l hlm
    have hcl := cnt_in hlm
    obtain ⟨f1, hf1⟩ : ∃ s, f[1]? = some s := ⟨_, List.getElem?_eq_getElem (by omega)⟩
    obtain ⟨f2, hf2⟩ : ∃ s, f[2]? = some s := ⟨_, List.getElem?_eq_getElem (by omega)⟩
    obtain ⟨f3, hf3⟩ : ∃ s, f[3]? = some s := ⟨_, List.getElem?_eq_getElem (by omega)⟩
    have c1 : (w.alloc (.cells #[.bool true] 4)).drew.cell? ⟨fb, 1, none⟩ = some (.string (strOf f1)) := by have := H.out.2.2.1.drew.cell 1; rw [strsV_get hf1] at this; exact this
    have hf3l : f3.length ≤ 9223372036854775807 := Nat.le_trans (hfl f3 (List.mem_of_getElem? hf3)) (by decide)
    have hne : m.rends ≠ [] := by rw [hre]; simp
    have hlc : l.pieces.length < 1048576 := by omega
    obtain ⟨Au, cu, hu0⟩ := own_shape (H.out.1.pcs (l, u) (by simp))
    obtain ⟨np, hnp⟩ : ∃ np, np = l.pieces.length := ⟨_, rfl⟩
    dsimp only at hu0
    rw [← hnp] at hu0 hlc
    subst hu0
    have HQ := Lib.hid (And.intro q00 (And.intro hre (And.intro hk (And.intro hlen (And.intro hok (And.intro hne hnp))))))
    clear q0 q00 q1 q2 q3 hre hk hlen hok qn hcl hlm hne hnp
    have hkk : (k : Int) < (k : Int) + 1 := by omega
    have cm3 := H.out.2.1.blk.cell 2
    go_enter Tryd.func38, Tryd.ntmps38
    go_upto_region 12 with (fail)
    have s7 : (w.alloc (.cells #[.bool true] 4)).cell? ⟨g, k * 8 + 7, none⟩ = some (.slice Au np cu) := by have := H.out.2.1.cell7 HQ.out.2.2.2.1.symm; rw [← HQ.out.2.2.1] at this; exact this
    refine wp_region_planT [9, 14, 19, 20, 23] [0, 1, 2, 3, 4, 10, 11, 12, 13, 15, 16, 17] (5 :: 6 :: 7 :: 8 :: 0 :: 1 :: 2 :: 3 :: 4 :: 10 :: 11 :: 12 :: 13 :: 15 :: 16 :: 17 :: 9 :: 14 :: 18 :: 19 :: 20 :: 21 :: 22 :: 23 :: []) (fun w' => Blk w' fb 9 (strsV f).toArray ∧ w'.cell? ⟨g, k * 8 + 7, none⟩ = some (.slice Au np cu)) (by kernel_rfl) (by kernel_rfl) (fun _ _ _ d _ h => by cases d <;> exact h) ⟨H.out.2.2.1.drew, s7⟩ ?_
    iterate 4 (refine planT_still rfl rfl (fun K hK => ?_); go_simp; refine hK _ ?_; clear hK K)
    refine planT_read (v := .pointer (some ⟨g, k * 8, none⟩)) rfl rfl rfl (fun _ _ => rfl) (fun K hK => ?_)
    go_simp
    refine hK _ ?_
    clear hK K
    refine planT_read (v := .pointer (some ⟨g, k * 8, none⟩)) rfl rfl rfl (fun _ _ => rfl) (fun K hK => ?_)
    go_simp
    refine hK _ ?_
    clear hK K
    refine planT_read (v := .pointer (some ⟨g, k * 8, none⟩)) rfl rfl rfl (fun _ _ => rfl) (fun K hK => ?_)
    go_simp
    refine hK _ ?_
    clear hK K
    refine planT_read (v := .pointer (some ⟨g, k * 8 + 7, none⟩)) rfl rfl rfl (fun _ _ => rfl) (fun K hK => ?_)
    go_simp
    refine hK _ ?_
    clear hK K
    refine planT_read (v := .slice Au np cu) rfl rfl rfl (fun w' hS => ?_) (fun K hK => ?_)
    · have cS := hS.2
      go_simp
    go_simp
    refine hK _ ?_
    clear hK K
    refine planT_read (v := .func (.func 54) #[] #[.pointer (some ⟨w.heap.size, 0, none⟩)]) rfl rfl rfl (fun _ _ => rfl) (fun K hK => ?_)
    go_simp
    refine hK _ ?_
    clear hK K
    refine planT_read (v := .slice (some ⟨fb, 0, none⟩) 4 4) rfl rfl rfl (fun _ _ => rfl) (fun K hK => ?_)
    go_simp
    refine hK _ ?_
    clear hK K
    refine planT_read (v := .pointer (some ⟨fb, 2, none⟩)) rfl rfl rfl (fun _ _ => rfl) (fun K hK => ?_)
    go_simp
    refine hK _ ?_
    clear hK K
    refine planT_read (v := .string (strOf f2)) rfl rfl rfl (fun w' hS => ?_) (fun K hK => ?_)
    · have cS := (hS.1 : Blk w' fb 9 (strsV f).toArray).cell 2; rw [strsV_get hf2] at cS
      go_simp
    go_simp
    refine hK _ ?_
    clear hK K
    refine planT_read (v := .slice (some ⟨fb, 0, none⟩) 4 4) rfl rfl rfl (fun _ _ => rfl) (fun K hK => ?_)
    go_simp
    refine hK _ ?_
    clear hK K
    refine planT_read (v := .pointer (some ⟨fb, 3, none⟩)) rfl rfl rfl (fun _ _ => rfl) (fun K hK => ?_)
    go_simp
    refine hK _ ?_
    clear hK K
    refine planT_read (v := .string (strOf f3)) rfl rfl rfl (fun w' hS => ?_) (fun K hK => ?_)
    · have cS := (hS.1 : Blk w' fb 9 (strsV f).toArray).cell 3; rw [strsV_get hf3] at cS
      go_simp
    go_simp
    refine hK _ ?_
    clear hK K
    have own1 := H.out.2.1.quiet (Mod.refl (fun _ => False) _).drew
    have ok1 := H.out.2.2.2.1.drew
    have fr1 := H.out.2.2.2.2.1.quiet (Mod.refl (fun _ => False) _).drew
    have fb1 := H.out.2.2.1.drew
    have W1 := H.out.2.2.2.2.2.1.drew
    refine planT_loud rfl rfl (fun K hK => ?_)
    go_simp
    refine (pRead1 _ w.heap.size true f1 (hfl f1 (List.mem_of_getElem? (by assumption))) (heW.quiet W1) ok1).mono ?_
    rintro e w2 ⟨x1, ix1, rfl, hx1, ok2, m2⟩
    have own2 := own1.other m2 ok1 rfl hmb
    have fr2 := fr1.step m2 (fun i e => .inl (by omega))
    have fb2 := fb1.keep m2 hfk
    have W2 := Fr.base hWw fr2 hB hmB
    dsimp only []
    refine hK _ _ ⟨fb2, by have := own2.cell7 HQ.out.2.2.2.1.symm; rw [← HQ.out.2.2.1] at this; exact this⟩ ?_
    clear hK K m2 own1 fr1 fb1 ok1 W1
    refine planT_loud rfl rfl (fun K hK => ?_)
    go_simp
    refine (pRead1 _ w.heap.size (true && (numP f1).isSome) f2 (hfl f2 (List.mem_of_getElem? (by assumption))) (heW.quiet W2) ok2).mono ?_
    rintro e w3 ⟨x2, ix2, rfl, hx2, ok3, m3⟩
    have own3 := own2.other m3 ok2 rfl hmb
    have fr3 := fr2.step m3 (fun i e => .inl (by omega))
    have fb3 := fb2.keep m3 hfk
    have W3 := Fr.base hWw fr3 hB hmB
    dsimp only []
    refine hK _ _ ⟨fb3, by have := own3.cell7 HQ.out.2.2.2.1.symm; rw [← HQ.out.2.2.1] at this; exact this⟩ ?_
    clear hK K m3 own2 fr2 fb2 ok2 W2
    obtain ⟨bv, hbv⟩ : ∃ bv, bv = (true && (numP f1).isSome && (numP f2).isSome) := ⟨_, rfl⟩
    rw [← hbv] at ok3
    have s73 : w3.cell? ⟨g, k * 8 + 7, none⟩ = some (.slice Au np cu) := by have := own3.cell7 HQ.out.2.2.2.1.symm; rw [← HQ.out.2.2.1] at this; exact this
    obtain ⟨g', cap', cur, hv', hg', hgb, _, _, hcs, _⟩ := own_some own3.row (by rw [HQ.out.2.2.2.1]; omega)
    rw [HQ.out.2.2.2.1] at hv'
    injection hv' with hA' _ _
    injection hA' with hA'
    injection hA' with hA'
    subst hA'
    have hcap : k * 8 + 7 < cur.size := by
      have h1 : k + 1 ≤ cap' := by have := HQ.out.2.2.2.1; omega
      rw [hcs]
      omega
    have hup : w3.ownsRow B 32 3 (.slice Au np cu) np (l.pieces.flatMap pcV) := by have := own3.pcs (l, .slice Au np cu) (by simp); unfold PcsOwn at this; rw [← HQ.out.2.2.2.2.2.2] at this; exact this
    have HE := Lib.hid (And.intro hbv (And.intro hx1 (And.intro hx2 (And.intro own3 (And.intro fr3 (And.intro ok3 (And.intro hgb (And.intro hup (And.intro fb3 s73)))))))))
    clear hbv hx1 hx2 own3 fr3 ok3 fb3 W3 hgb hup s73 s7
    iterate 1 (refine planT_still rfl rfl (fun K hK => ?_); go_simp; refine hK _ ?_; clear hK K)
    refine planT_loud rfl rfl (fun K hK => ?_)
    go_simp
    refine hK _ _ ⟨HE.out.2.2.2.2.2.2.2.2.1.alloc _, (cellq ((Mod.refl (fun _ => False) w3).alloc _) HE.out.2.2.2.2.2.2.1.lt).trans HE.out.2.2.2.2.2.2.2.2.2⟩ ?_
    clear hK K
    refine planT_loud rfl rfl (fun K hK => ?_)
    obtain ⟨i0, hi0, hz0, hz1, hz2⟩ := info_parts pc_info
    refine step_append_src _ rfl (.tmp 134) (.tmp 149) 33 rfl B 32 i0 _ 3 32 Tryd.underlying33 hi0 hz0 hz1 hz2 rfl (by omega) (.slice Au np cu) np (l.pieces.flatMap pcV) rfl (own_mod HE.out.2.2.2.2.2.2.2.1 ((Mod.refl (fun _ => False) w3).alloc _) (fun _ _ h => h)) (some ⟨w3.heap.size, 0, none⟩) 1 1 (pcV ⟨x1, x2, f3⟩) rfl (Src.new w3 32 (pcV ⟨x1, x2, f3⟩)) (fun h => by cases h) (pcV_one _) (by unfold maxLen; omega) (by omega) (by rw [World.size_alloc]; have := HE.out.2.2.2.2.1.size; omega) ?_
    intro u' w5 h1 h2 h3
    have hM5 : Mod (fun j => (Value.slice Au np cu).ownBlock = some j) w3 w5 := ((Mod.refl _ _).alloc _).grown h2 (fun k hk => .inl hk)
    obtain ⟨A5, n5, c5, rfl⟩ := own_form h1
    have hgn : (Value.slice Au np cu).ownBlock ≠ some g := own_ne_blk HE.out.2.2.2.2.2.2.2.1 HE.out.2.2.2.2.2.2.1 (by decide)
    have hgb5 := HE.out.2.2.2.2.2.2.1.keep hM5 hgn
    have fb5 := HE.out.2.2.2.2.2.2.2.2.1.keep hM5 (own_ne_blk HE.out.2.2.2.2.2.2.2.1 HE.out.2.2.2.2.2.2.2.2.1 (by decide))
    have ok5 := HE.out.2.2.2.2.2.1.keep hM5 (own_ne_blk HE.out.2.2.2.2.2.2.2.1 HE.out.2.2.2.2.2.1 (by decide))
    have gc : w5.cell? ⟨g, k * 8 + 7, none⟩ = some (.slice Au np cu) := by
      rw [hgb5.cell, ← HE.out.2.2.2.2.2.2.1.cell]
      exact HE.out.2.2.2.2.2.2.2.2.2
    have gf := hgb5.frozen
    have hm6 : Mod (· = g) w5 (w5.setCell ⟨g, k * 8 + 7, none⟩ (.slice A5 n5 c5)) := (Mod.refl (· = g) w5).setCell (p := ⟨g, k * 8 + 7, none⟩) (.inl rfl) _
    have hM6 : Mod (fun j => j = g ∨ (Value.slice Au np cu).ownBlock = some j) w3 (w5.setCell ⟨g, k * 8 + 7, none⟩ (.slice A5 n5 c5)) := (hM5.mono (fun _ h => .inr h)).trans (hm6.mono (fun _ h => .inl h))
    have hgb6 : Blk (w5.setCell ⟨g, k * 8 + 7, none⟩ (.slice A5 n5 c5)) g 35 (splice cur.toList (ps0.length * 8 + 7) [.slice A5 n5 c5]).toArray := by
      rw [← HQ.out.2.2.1, ← set_splice hcap]
      exact hgb5.set_ _ _
    have hrow6 : PcsOwn (w5.setCell ⟨g, k * 8 + 7, none⟩ (.slice A5 n5 c5)) B (.slice A5 n5 c5) (l.pieces ++ [⟨x1, x2, f3⟩]) := by
      have h4 := own_mod h1 hm6 (fun j hj e => own_ne_blk h1 hgb5 (by decide) (by rw [hj, e]))
      unfold PcsOwn
      rw [List.length_append, List.length_singleton, List.flatMap_append, List.flatMap_singleton, ← HQ.out.2.2.2.2.2.2]
      exact h4
    have own6 := HE.out.2.2.2.1.last_ (l' := { l with pieces := l.pieces ++ [⟨x1, x2, f3⟩] }) (u' := .slice A5 n5 c5) (i := 7) (cells := [.slice A5 n5 c5]) HE.out.2.2.2.2.2.2.1 rfl (by simp) hgb6 _ hM6 (fun _ h => h) hrow6
      (fun j hj => by
        rcases h3 with h3 | h3
        · exact .inl (h3 ▸ hj)
        · rw [h3] at hj
          injection hj with hj
          exact .inr (by rw [World.size_alloc] at hj; omega))
      ⟨⟨HQ.out.2.2.2.2.1.1.1, HQ.out.2.2.2.2.1.1.2.1, HQ.out.2.2.2.2.1.1.2.2.1, HQ.out.2.2.2.2.1.1.2.2.2.1, HQ.out.2.2.2.2.1.1.2.2.2.2.1, by show (l.pieces ++ [_]).length ≤ 9223372036854775807; rw [List.length_append, List.length_singleton, ← HQ.out.2.2.2.2.2.2]; omega⟩, pcsOk_snoc HQ.out.2.2.2.2.1.2 ⟨ix1, ix2, hf3l⟩ (by rw [← HQ.out.2.2.2.2.2.2]; exact hlc)⟩
    have fr6 := HE.out.2.2.2.2.1.step hM6 (fun i e => by
      rcases e with e | e
      · subst e
        exact .inr (.inr ⟨hg', _, _, HE.out.2.2.2.2.2.2.1, rfl⟩)
      · obtain ⟨h1, cs, h2⟩ := own_blk HE.out.2.2.2.2.2.2.2.1 e
        exact .inr (.inr ⟨h1, _, cs, h2, rfl⟩))
    have ok6 := ok5.keep hm6 (fun e => Blk.ne_ (e ▸ ok5) hgb5 (by decide) rfl)
    refine hK _ _ ⟨fb5, gc⟩ ?_
    clear hK K
    have k6 := ok6.cell 0
    have HF := Lib.hid (And.intro own6 fr6)
    clear own6 fr6 h1 h2 h3 hM5 fb5 hgb5 ok5 i0 hi0 hz0 hz1 hz2 hm6 hM6 hgb6 hrow6 ok6
    iterate 2 (refine planT_still rfl rfl (fun K hK => ?_); go_simp; refine hK _ ?_; clear hK K)
    refine planT_last (by kernel_rfl) rfl (fun K hK => ?_)
    go_simp
    refine hK _ _ ?_
    clear hK K
    refine planT_done ?_
    go_wp2_with fail
    go_ret
    exact ⟨bv, _, rfl, ⟨_, _, HF.out.1⟩, HF.out.2, by rw [HE.out.1, onLast_is (fun l => { l with pieces := l.pieces ++ [⟨x1, x2, f3⟩] }) HQ.out.2.1]; exact step_piece (HQ.out.1 ▸ hf0) hn HQ.out.2.2.2.2.2.1 hf1 hf2 hf3 HE.out.2.1 HE.out.2.2.1, cnt_last HQ.out.2.1 (by show (l.pieces ++ [_]).length ≤ _; rw [List.length_append]; exact Nat.le_refl _)⟩
  have hpr : ps = [] ↔ m.rends = [] := by
    rw [← H.out.2.2.2.2.2.2.2.2, List.map_eq_nil_iff]
  have hso : stepO numP f m = some m := step_else hf0 (by rw [hn]; exact q1) (by rw [hn]; exact q2) (by rw [hn]; exact fun h => q3 ⟨h.1, h.2.1, fun e => h.2.2 (hpr.1 e)⟩) (by rw [hn]; exact fun h => q4 ⟨h.1, h.2.1, fun e => h.2.2 (hpr.1 e)⟩)
  have k1 := H.out.2.2.2.1.cell 0
  have HS := Lib.hid hso
  clear hso hpr
  have hl0 : ps = [] → (ps.length : Int) = 0 := fun e => by rw [e]; rfl
  go_enter Tryd.func38, Tryd.ntmps38
  go_wp2_with fail
  all_goals first
    | (go_ret
       exact ⟨true, m, rfl, ⟨_, _, H.out.2.1⟩, H.out.2.2.2.2.1, by rw [HS.out]; rfl, Nat.le_succ _⟩)
    | (exfalso
       simp only [beq_iff_eq, strOf_toList] at *
       first
         | exact q1 ⟨(by assumption : f0 = [115, 99, 97, 108, 101]), by omega⟩
         | exact q2 ⟨(by assumption : f0 = [114, 101, 110, 100, 105, 116, 105, 111, 110]), by omega⟩
         | exact q3 ⟨(by assumption : f0 = [105, 110, 105, 116]), by omega, fun e => by have := hl0 e; omega⟩
         | exact q4 ⟨(by assumption : f0 = [112, 105, 101, 99, 101]), by omega, fun e => by have := hl0 e; omega⟩)
end Go.Proofs.YtkobngipbhjfjaaDoor
