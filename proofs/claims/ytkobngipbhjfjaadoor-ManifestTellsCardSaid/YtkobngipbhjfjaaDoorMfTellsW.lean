/-
  kinoralaw18.ManifestTells, walked.
-/
import Derived.Test.YtkobngipbhjfjaaDoorMfBack
import Derived.Test.YtkobngipbhjfjaaDoorMfFitsB
import Derived.Test.YtkobngipbhjfjaaDoorMfR7
import Derived.Test.YtkobngipbhjfjaaDoorMfR8
namespace Go.Proofs.YtkobngipbhjfjaaDoor
open Go.RowKit

theorem paths_ten {ls : List Ls} (h : ls.length ≤ 10 ∧ ∀ l ∈ ls, l.pieces.length ≤ 10) : (pathsR ls).length ≤ 1000000 := by
  have key : ∀ ls : List Ls, (∀ l ∈ ls, l.pieces.length ≤ 10) → (pathsR ls).length ≤ 11 * ls.length := by
    intro ls
    induction ls with
    | nil => simp [pathsR]
    | cons x r ih =>
      intro hh
      have h1 := ih (fun l hl => hh l (by simp [hl]))
      have h2 := hh x (by simp)
      unfold pathsR at h1 ⊢
      rw [List.flatMap_cons, List.length_append, List.length_cons]
      have : (filesL x).length = x.pieces.length + 1 := by simp [filesL]
      omega
  have := key ls h.2
  omega
def TlRel (w : World) (mb : Nat) (cs : Array Value) (m : Mf) (v : Value) (wr : World) : Prop := ∃ k : Nat, k ≤ m.rends.length ∧ v = .int .i64 (k : Int) ∧ Blk wr mb 24 cs ∧ Mod (fun _ => False) w wr
def TlS (mb b o : Nat) (cs : Array Value) (vs : List Value) (w' : World) : Prop := Blk w' mb 24 cs ∧ ∀ (i : Nat) (v : Value), vs[i]? = some v → w'.cell? ⟨b, o + i, none⟩ = some v
set_option maxRecDepth 100000 in
set_option maxHeartbeats 8000000 in
theorem tells_walk (w : World) (m : Mf) (A : Option Addr) (n c : Nat) (h : MfIn w A n m) (he : Env w) : Calls Tryd.prog 3 #[.agg (mfV m A n c).toArray] w (BackPost w) := by
  have mA : Mod (fun _ => False) w (w.alloc (.cells (mfV m A n c).toArray 24)) := (Mod.refl _ w).alloc _
  have hb0 : Blk (w.alloc (.cells (mfV m A n c).toArray 24)) w.heap.size 24 (mfV m A n c).toArray := Blk.new _ _ _
  have H := Lib.hid (And.intro h (And.intro he (And.intro mA hb0)))
  have hln := h.rs.len
  have hnn := h.nums.2.2
  clear h he mA hb0
  unfold mfV at H ⊢
  go_enter Tryd.func3, Tryd.ntmps3
  go_wp2_with fail
  refine (pFitsB _ m A n c (H.out.1.quiet H.out.2.2.1)).mono ?_
  rintro e w1 ⟨p, rfl, hp, hm1⟩
  have c1 := (H.out.2.2.2.keep hm1 (fun h => h)).cell
  have H1 := Lib.hid (H.out.2.2.1.trans hm1)
  have K1 := Lib.hid hm1
  clear hm1
  cases p with
  | false =>
    clear hp
    go_wp2_with fail
    refine (pAlive _ (H.out.2.1.quiet H1.out)).mono ?_
    rintro e w3 ⟨rfl, hm3⟩
    have H3 := Lib.hid (H1.out.trans hm3)
    clear hm3
    go_wp2_with fail
    go_ret
    exact ⟨rfl, H3.out⟩
  | true =>
    have HP := Lib.hid (paths_ten (hp rfl))
    have HT := Lib.hid (hp rfl)
    clear hp
    go_wp2_with fail
    refine (pWrite _ m A n c (H.out.1.quiet H1.out) (H.out.2.1.quiet H1.out)).mono ?_
    rintro e w2 ⟨rfl, hm2⟩
    have H2 := Lib.hid (H1.out.trans hm2)
    have K2 := Lib.hid (K1.out.trans hm2)
    clear hm2 c1
    obtain ⟨sa, ka, hwa⟩ : ∃ sa ka, writeOut m = #[.string (strOf sa), .int .i64 ka] := by
      unfold writeOut
      by_cases hr : rightB m = true
      · rw [if_pos hr]
        exact ⟨_, _, rfl⟩
      · rw [if_neg hr]
        exact ⟨_, _, rfl⟩
    rw [hwa]
    have HW := Lib.hid hwa
    clear hwa
    have c2 := (H.out.2.2.2.keep K2.out (fun h => h)).cell
    go_wp2_with fail
    refine (rWrite _ m A n c (H.out.1.quiet H2.out) HP.out).mono ?_
    rintro e w3 ⟨rfl, hm3⟩
    rw [HW.out]
    have H3 := Lib.hid (H2.out.trans hm3)
    have K3 := Lib.hid (K2.out.trans hm3)
    clear hm3 c2
    go_wp2_with fail
    go_loopw [8] (TlRel w w.heap.size #[.int .i64 m.scale, .int .i64 m.tick, .slice A n c] m) (fun s _ => n - (intOf s).toNat)
    case atStart => exact ⟨0, by omega, rfl, H.out.2.2.2.keep K3.out (fun h => h), H3.out⟩
    case round =>
      rename World => wr
      obtain ⟨k, hk, rfl, hbm, hM⟩ := hrel
      have cB := hbm.cell
      by_cases hlt : k < n
      · obtain ⟨l, hl⟩ : ∃ l, m.rends[k]? = some l := ⟨_, List.getElem?_eq_getElem (by omega)⟩
        obtain ⟨b, o, A1, n1, c1, hA, hb, hls⟩ := (H.out.1.rs.quiet hM).at_ k l hl
        subst hA
        have d6 : decide ((k : Int) < (n : Int)) = true := decide_eq_true (by omega)
        have hS : TlS w.heap.size b (o + k * 8) #[.int .i64 m.scale, .int .i64 m.tick, .slice (some ⟨b, o, none⟩) n c] (lsV l A1 n1 c1) wr.drew := ⟨hbm.drew, hls.cells⟩
        have e0 := hS.2 0 _ rfl
        have e1 := hS.2 1 _ rfl
        have e2 := hS.2 2 _ rfl
        have e3 := hS.2 3 _ rfl
        have e4 := hS.2 4 _ rfl
        have e5 := hS.2 5 _ rfl
        have e6 := hS.2 6 _ rfl
        have e7 := hS.2 7 _ rfl
        rw [Nat.add_zero] at e0
        have cD := hS.1.cell
        have hn1 : n1 ≤ 9223372036854775807 := by
          have h1 := hls.ok.2.2.2.2.2
          have h2 := hls.pcs.len
          omega
        have HK := Lib.hid (And.intro hls.pcs (And.intro hM.drew (And.intro hS (And.intro hn1 hb))))
        clear hls hM hbm hS hn1
        go_upto_region 9 with (fail)
        refine wp_region_planS [5, 11] [6, 7, 8, 9, 10] (0 :: 1 :: 2 :: 3 :: 4 :: 6 :: 7 :: 8 :: 9 :: 10 :: 5 :: 11 :: 12 :: []) (TlS w.heap.size b (o + k * 8) #[.int .i64 m.scale, .int .i64 m.tick, .slice (some ⟨b, o, none⟩) n c] (lsV l A1 n1 c1)) (by kernel_rfl) (by kernel_rfl) (fun _ _ _ d _ h => by cases d <;> exact h) HK.out.2.2.1 ?_
        iterate 5 (refine planS_still rfl rfl (fun K hK => ?_); go_simp; refine hK _ ?_; clear hK K)
        refine planS_pure rfl rfl rfl (fun _ _ => rfl) ?_
        refine planS_pure (v := .slice (some ⟨b, o, none⟩) n c) rfl rfl rfl (fun w' hS => ?_) ?_
        · have cS := hS.1.cell
          go_simp
        refine planS_pure rfl rfl rfl (fun _ _ => rfl) ?_
        refine planS_pure (v := .pointer (some ⟨b, o + k * 8, none⟩)) rfl rfl rfl (fun w' hS => ?_) ?_
        · clear hS
          go_simp
        refine planS_pure (v := .agg (lsV l A1 n1 c1).toArray) rfl rfl rfl (fun w' hS => ?_) ?_
        · have f0 := hS.2 0 _ rfl
          have f1 := hS.2 1 _ rfl
          have f2 := hS.2 2 _ rfl
          have f3 := hS.2 3 _ rfl
          have f4 := hS.2 4 _ rfl
          have f5 := hS.2 5 _ rfl
          have f6 := hS.2 6 _ rfl
          have f7 := hS.2 7 _ rfl
          rw [Nat.add_zero] at f0
          clear hS e0 e1 e2 e3 e4 e5 e6 e7
          unfold lsV
          go_simp
        refine planS_loud rfl rfl (fun K hK => ?_)
        go_simp
        refine (pTotal _ l A1 n1 c1 (HK.out.1.quiet ((Mod.refl (fun _ => False) wr).drew)) HK.out.2.2.2.1).mono ?_
        rintro e w4 ⟨rfl, hm4⟩
        have hti := totL_in l.pieces
        obtain ⟨t, ht⟩ : ∃ t, t = totL l.pieces := ⟨_, rfl⟩
        rw [← ht] at hti ⊢
        obtain ⟨ti1, ti2⟩ := hti
        have HTt := Lib.hid ht
        clear ht
        have hS4 : TlS w.heap.size b (o + k * 8) #[.int .i64 m.scale, .int .i64 m.tick, .slice (some ⟨b, o, none⟩) n c] (lsV l A1 n1 c1) w4 := ⟨HK.out.2.2.1.1.keep hm4 (fun h => h), fun i v hv => (cellq hm4 HK.out.2.2.2.2).trans (HK.out.2.2.1.2 i v hv)⟩
        have H4 := Lib.hid (And.intro hS4 (And.intro hm4 (HK.out.2.1.trans hm4)))
        dsimp only []
        refine hK _ _ hS4 ?_
        clear hK K hm4 hS4 e0 e1 e2 e3 e4 e5 e6 e7 cD cB
        refine planS_loud rfl rfl (fun K hK => ?_)
        go_simp
        refine (rTotal _ l A1 n1 c1 (HK.out.1.quiet (((Mod.refl (fun _ => False) wr).drew).trans H4.out.2.1)) HK.out.2.2.2.1).mono ?_
        rintro e w5 ⟨rfl, hm5⟩
        rw [← HTt.out]
        have hb4 : b < w4.heap.size := Nat.lt_of_lt_of_le HK.out.2.2.2.2 H4.out.2.1.size
        have hS5 : TlS w.heap.size b (o + k * 8) #[.int .i64 m.scale, .int .i64 m.tick, .slice (some ⟨b, o, none⟩) n c] (lsV l A1 n1 c1) w5 := ⟨H4.out.1.1.keep hm5 (fun h => h), fun i v hv => (cellq hm5 hb4).trans (H4.out.1.2 i v hv)⟩
        have H5 := Lib.hid (And.intro hS5.1 (H4.out.2.2.trans hm5))
        dsimp only []
        refine hK _ _ hS5 ?_
        clear hK K hm5 hS5
        have d9 : (t != t) = false := by simp
        refine planS_still rfl rfl (fun K hK => ?_); go_simp; refine hK _ ?_; clear hK K
        refine planS_done ?_
        go_wp2_with fail
        go_roundw
        case rel => exact ⟨k + 1, by omega, by go_num, H5.out.1, H5.out.2⟩
        case measure => simp [intOf]; omega
      · obtain rfl : k = n := by omega
        have d6 : decide ((k : Int) < (k : Int)) = false := decide_eq_false (by omega)
        have hbd := hbm.drew
        have HK := Lib.hid (And.intro hM.drew hbd)
        clear hbm hM hbd
        go_upto_region 11 with (fail)
        refine wp_region_planS [0, 3, 5, 20, 22] [4, 21] (0 :: 1 :: 2 :: 4 :: 3 :: 5 :: 6 :: 7 :: 8 :: 9 :: 10 :: 11 :: 12 :: 13 :: 14 :: 15 :: 16 :: 17 :: 18 :: 19 :: 21 :: 20 :: 22 :: 23 :: 24 :: 25 :: []) (fun w' => Blk w' w.heap.size 24 #[.int .i64 m.scale, .int .i64 m.tick, .slice A k c]) (by kernel_rfl) (by kernel_rfl) (fun _ _ _ d _ h => by cases d <;> exact h) HK.out.2 ?_
        refine planS_loud rfl rfl (fun K hK => ?_)
        go_simp
        refine (pAlive _ (H.out.2.1.quiet HK.out.1)).mono ?_
        rintro e w10 ⟨rfl, hm10⟩
        have hb10 := HK.out.2.keep hm10 (fun h => h)
        have H10 := Lib.hid (And.intro (HK.out.1.trans hm10) hb10)
        have gx := hb10.cell
        dsimp only []
        refine hK _ _ hb10 ?_
        clear hK K hm10 hb10 cB
        iterate 2 (refine planS_still rfl rfl (fun K hK => ?_); go_simp; refine hK _ ?_; clear hK K)
        refine planS_pure (v := .agg #[.int .i64 m.scale, .int .i64 m.tick, .slice A k c]) rfl rfl rfl (fun w' hS => ?_) ?_
        · have cS := hS.cell
          clear gx
          go_simp
        refine planS_loud rfl rfl (fun K hK => ?_)
        go_simp
        refine (pRight _ m A k c (H.out.1.quiet H10.out.1)).mono ?_
        rintro e w11 ⟨rfl, hm⟩
        dsimp only []
        have H11 := Lib.hid (And.intro (H10.out.1.trans hm) (H10.out.2.keep hm (fun h => h)))
        refine hK _ _ H11.out.2 ?_
        clear hK K hm
        clear gx
        have gx := H11.out.2.cell
        refine planS_loud rfl rfl (fun K hK => ?_)
        go_simp
        refine (rRight _ m A k c (H.out.1.quiet H11.out.1) HP.out).mono ?_
        rintro e w12 ⟨rfl, hm⟩
        dsimp only []
        have H12 := Lib.hid (And.intro (H11.out.1.trans hm) (H11.out.2.keep hm (fun h => h)))
        refine hK _ _ H12.out.2 ?_
        clear hK K hm
        clear gx
        have gx := H12.out.2.cell
        iterate 14 (refine planS_still rfl rfl (fun K hK => ?_); go_simp; refine hK _ ?_; clear hK K)
        refine planS_pure (v := .agg #[.int .i64 m.scale, .int .i64 m.tick, .slice A k c]) rfl rfl rfl (fun w' hS => ?_) ?_
        · have cS := hS.cell
          clear gx
          go_simp
        refine planS_loud rfl rfl (fun K hK => ?_)
        go_simp
        refine (pAlign _ m A k c (H.out.1.quiet H12.out.1)).mono ?_
        rintro e w13 ⟨rfl, hm⟩
        dsimp only []
        have H13 := Lib.hid (And.intro (H12.out.1.trans hm) (H12.out.2.keep hm (fun h => h)))
        refine hK _ _ H13.out.2 ?_
        clear hK K hm
        clear gx
        refine planS_loud rfl rfl (fun K hK => ?_)
        go_simp
        refine (rAlign _ m A k c (H.out.1.quiet H13.out.1) HP.out).mono ?_
        rintro e w14 ⟨rfl, hm⟩
        dsimp only []
        have H14 := Lib.hid (And.intro (H13.out.1.trans hm) (H13.out.2.keep hm (fun h => h)))
        refine hK _ _ H14.out.2 ?_
        clear hK K hm
        iterate 3 (refine planS_still rfl rfl (fun K hK => ?_); go_simp; refine hK _ ?_; clear hK K)
        refine planS_done ?_
        go_wp2_with fail
        go_ret
        exact ⟨rfl, H14.out.1⟩
end Go.Proofs.YtkobngipbhjfjaaDoor
