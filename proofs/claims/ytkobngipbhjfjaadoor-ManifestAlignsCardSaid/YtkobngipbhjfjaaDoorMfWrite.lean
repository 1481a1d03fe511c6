/-
  manifest.Write, walked.
-/
import Derived.Test.YtkobngipbhjfjaaDoorMfRight
import Derived.Test.YtkobngipbhjfjaaDoorMfLine
import Derived.Test.YtkobngipbhjfjaaDoorMfEnv
import Derived.Test.YtkobngipbhjfjaaDoorMfText
import Derived.Test.YtkobngipbhjfjaaDoorPlanS
import Derived.Deep.DeepCutAuto
namespace Go.Proofs.YtkobngipbhjfjaaDoor
open Go.RowKit

theorem SB.fresh (w : World) : SB (w.alloc (.cells #[.pointer none, .slice none 0 0] 51)) w.heap.size w.heap.size (.pointer none) (.slice none 0 0) [] :=
  ⟨Blk.new _ _ _, .inl rfl, World.ownsRow_nil _ _ _ _, Nat.le_refl _⟩
theorem SB.lower {w : World} {B B' b : Nat} {p v : Value} {l : Str} (h : SB w B b p v l) (hB : B' ≤ B) : SB w B' b p v l := ⟨h.blk, h.adr, own_base h.row hB, Nat.le_trans hB h.low⟩
theorem SB.quiet {w w' : World} {B b : Nat} {p v : Value} {l : Str} (h : SB w B b p v l) (hm : Mod (fun _ => False) w w') : SB w' B b p v l :=
  ⟨h.blk.keep hm (fun h => h), h.adr, own_mod h.row hm (fun _ _ h => h), h.low⟩
theorem tm_quiet {W w w' : World} (h : Mod (fun _ => False) W w) (k : TMod W.heap.size TB w w') : Mod (fun _ => False) W w' :=
  ⟨k.os.trans h.os, k.tape.trans h.tape, k.output.trans h.output, Nat.le_trans h.size k.size, fun i hi _ => (k.low i hi (Nat.lt_of_lt_of_le hi h.size)).trans (h.block i hi (fun h => h))⟩
theorem pLineNew (w : World) (B b n : Nat) (p v : Value) (l : Str) (ss : List Str) (vs : Array Value) (hvs : vs = (strsV ss).toArray) (h : SB w B b p v l) (hn : ss.length = n) (hl : l.length + (lineL ss).length ≤ 1048576) (hB : B ≤ w.heap.size) (g : Nat) (hg : g = w.heap.size) :
    Calls Tryd.prog 25 #[.pointer (some ⟨b, 0, none⟩), .slice (some ⟨g, 0, none⟩) n n] (w.alloc (.cells vs 9)) fun e w' => e = .returned (.tuple #[]) ∧ SbPost w B b (l ++ lineL ss) w' := by
  subst hvs
  subst hg
  refine (pLine _ B b w.heap.size n p v l ss (h.quiet ((Mod.refl _ w).alloc _)) (Blk.new _ _ _) hn hl (by rw [World.size_alloc]; omega)).mono ?_
  rintro e w' ⟨rfl, h1, h2⟩
  exact ⟨rfl, h1, ((TMod.refl B TB w).alloc _).trans h2⟩
def WrRel (w : World) (b : Nat) (m : Mf) (vk : Value) (wr : World) : Prop :=
  ∃ k : Nat, k ≤ m.rends.length ∧ vk = .int .i64 (k : Int) ∧ (∃ p v, SB wr w.heap.size b p v (headL m ++ (m.rends.take k).flatMap textR)) ∧ Mod (fun _ => False) w wr
def WrIn (w : World) (b : Nat) (m : Mf) (k : Nat) (l : Ls) (vj : Value) (wr : World) : Prop :=
  ∃ j : Nat, j ≤ l.pieces.length ∧ vj = .int .i64 (j : Int) ∧ (∃ p v, SB wr w.heap.size b p v (headL m ++ (m.rends.take k).flatMap textR ++ lineR l ++ lineI l ++ (l.pieces.take j).flatMap lineP)) ∧ Mod (fun _ => False) w wr
def writeOut (m : Mf) : Array Value := if rightB m then #[.string (strOf (writeL m)), .int .i64 0] else #[.string (strOf []), .int .i64 181]
set_option maxRecDepth 100000 in
set_option maxHeartbeats 4000000 in
theorem pWrite (w : World) (m : Mf) (A : Option Addr) (n c : Nat) (h : MfIn w A n m) (he : Env w) : Calls Tryd.prog 11 #[.agg (mfV m A n c).toArray] w fun e w' => e = .returned (.tuple (writeOut m)) ∧ Mod (fun _ => False) w w' := by
  have mA : Mod (fun _ => False) w (w.alloc (.cells (mfV m A n c).toArray 24)) := (Mod.refl _ w).alloc _
  have hb0 : Blk (w.alloc (.cells (mfV m A n c).toArray 24)) w.heap.size 24 (mfV m A n c).toArray := Blk.new _ _ _
  have H := Lib.hid (And.intro h (And.intro he (And.intro mA hb0)))
  clear h he mA hb0
  unfold mfV at H ⊢
  go_enter Tryd.func11, Tryd.ntmps11
  go_wp2_with fail
  refine (pRight _ m A n c (H.out.1.quiet H.out.2.2.1)).mono ?_
  rintro e w1 ⟨rfl, hm1⟩
  have hM1 := H.out.2.2.1.trans hm1
  have hb1 := H.out.2.2.2.keep hm1 (fun h => h)
  cases hr : rightB m with
  | false =>
    have HR := Lib.hid (And.intro hr hM1)
    clear hr hM1 hm1 hb1
    go_wp2_with fail
    go_ret2
    exact ⟨by unfold writeOut; rw [HR.out.1]; rfl, HR.out.2⟩
  | true =>
    have HR := Lib.hid (And.intro hr (And.intro hM1 hb1))
    clear hr hM1 hm1 hb1
    go_wp2_with fail
    have hS1 := (SB.fresh w1).low
    refine (pLineNew (w1.alloc (.cells #[.pointer none, .slice none 0 0] 51)) w.heap.size w1.heap.size 1 _ _ [] [[107, 105, 110, 111, 114, 97, 32, 49]] _ rfl (SB.lower (SB.fresh w1) HR.out.2.1.size) rfl (by decide) (by rw [World.size_alloc]; have := HR.out.2.1.size; omega) _ (by rw [World.size_alloc])).mono ?_
    rintro e w2 ⟨rfl, ⟨v2, hs2⟩, ht2⟩
    have hM2 := tm_quiet (HR.out.2.1.alloc _) ht2
    have hb2 := (HR.out.2.2.alloc (.cells #[.pointer none, .slice none 0 0] 51)).tmod ht2 rfl
    have H2 := Lib.hid (And.intro hs2 (And.intro hM2 hb2))
    clear hs2 ht2 hM2 hb2
    go_upto_region 5 with (fail)
    obtain ⟨⟨r1, r2, r3, r4⟩, ⟨r5, r6⟩, hlst⟩ := right_bounds HR.out.1
    have c0 := H2.out.2.2.drew.cell 0
    have hhl := headL_len HR.out.1
    have HB := Lib.hid (And.intro hlst hhl)
    clear hlst hhl hS1
    refine wp_region_planS [2, 5, 6, 7] [3, 4] (0 :: 1 :: 3 :: 4 :: 2 :: 5 :: 6 :: 7 :: []) (fun w' => Blk w' w.heap.size 24 #[.int .i64 m.scale, .int .i64 m.tick, .slice A n c]) (by kernel_rfl) (by kernel_rfl) (fun _ _ _ d _ h => by cases d <;> exact h) H2.out.2.2.drew ?_
    iterate 2 (refine planS_still rfl rfl (fun K hK => ?_); go_simp; refine hK _ ?_; clear hK K)
    refine planS_pure rfl rfl rfl (fun _ _ => rfl) ?_
    refine planS_pure (v := .int .i64 m.tick) rfl rfl rfl (fun w' hS => ?_) ?_
    · have cS := hS.cell 1
      go_simp
    clear c0
    have he2 : Env w2.drew := H.out.2.1.quiet H2.out.2.1.drew
    have hb2 := H2.out.2.2.drew
    have hs2 := H2.out.1.quiet (Mod.refl (fun _ => False) w2).drew
    have hM2 := H2.out.2.1.drew
    clear H2
    refine planS_loud rfl rfl (fun K hK => ?_)
    go_simp
    refine (cItoa _ m.scale (by omega) (by omega) he2).mono ?_
    rintro e w3 ⟨rfl, hm3⟩
    have hb3 := hb2.keep hm3 (fun h => h)
    have hs3 := hs2.quiet hm3
    have hM3 := hM2.trans hm3
    have he3 := he2.quiet hm3
    dsimp only []
    refine hK _ _ hb3 ?_
    clear hK K hm3 hb2 hs2 hM2 he2
    refine planS_loud rfl rfl (fun K hK => ?_)
    go_simp
    refine (cItoa _ m.tick (by omega) (by omega) he3).mono ?_
    rintro e w4 ⟨rfl, hm4⟩
    have hb4 := hb3.keep hm4 (fun h => h)
    have hs4 := hs3.quiet hm4
    have hM4 := hM3.trans hm4
    have he4 := he3.quiet hm4
    dsimp only []
    refine hK _ _ hb4 ?_
    clear hK K hm4 hb3 hs3 hM3 he3
    have H4 := Lib.hid (And.intro hs4 (And.intro hM4 hb4))
    clear hs4 hM4 hb4 he4
    refine planS_loud rfl rfl (fun K hK => ?_)
    go_simp
    refine hK _ _ (H4.out.2.2.alloc _) ?_
    clear hK K
    refine planS_loud rfl rfl (fun K hK => ?_)
    go_simp
    refine (pLineNew w4 w.heap.size w1.heap.size 4 _ _ _ [[115, 99, 97, 108, 101], dec m.scale, [116, 105, 99, 107], dec m.tick] _ rfl H4.out.1 rfl (by have := HB.out.2; unfold headL at this; rw [List.length_append] at this; exact Nat.le_trans this (by decide)) H4.out.2.1.size _ rfl).mono ?_
    rintro e w5 ⟨rfl, ⟨v5, hs5⟩, ht5⟩
    have hM5 := tm_quiet H4.out.2.1 ht5
    have hb5 := H4.out.2.2.tmod ht5 rfl
    dsimp only []
    refine hK _ _ hb5 ?_
    clear hK K ht5 H4
    refine planS_done ?_
    have H5 := Lib.hid (And.intro hs5 (And.intro hM5 hb5))
    clear hs5 hM5 hb5
    have f5 := H5.out.2.2.cell
    go_wp2_with fail
    go_loopw [25] (WrRel w w1.heap.size m) (fun s _ => n - (intOf s).toNat)
    case atStart => exact ⟨0, by omega, rfl, ⟨_, v5, by rw [List.take_zero, List.flatMap_nil, List.append_nil]; exact H5.out.1⟩, H5.out.2.1⟩
    case round =>
      clear f5 H5
      obtain ⟨k, hk, rfl, ⟨p6, v6, hs6⟩, hM6⟩ := hrel
      have hln : m.rends.length = n := H.out.1.rs.len
      have hrl := rends_len HR.out.1 k
      by_cases hlt : k < n
      · obtain ⟨l, hl⟩ : ∃ l, m.rends[k]? = some l := ⟨_, List.getElem?_eq_getElem (by omega)⟩
        obtain ⟨b, o, A', n', c', hA, hb, hls⟩ := H.out.1.rs.at_ k l hl
        subst hA
        have d6 : decide ((k : Int) < (n : Int)) = true := decide_eq_true (by omega)
        have hlb := HB.out.1 l (List.mem_of_getElem? hl)
        obtain ⟨q1, q2, q3, q4, q5, q6, q7, q8, q9, _⟩ := listed_parts hlb
        have l1 := lineR_len q1 q2 q3 q5
        have l2 := lineI_len q6
        have l3 := HB.out.2
        have q2' := q2
        have q3' := q3
        have q6' := q6
        unfold sideB at q2' q3'
        unfold pieceB at q6'
        simp only [Bool.and_eq_true, decide_eq_true_eq] at q2' q3' q6'
        obtain ⟨z1, z2, _⟩ := q2'
        obtain ⟨z3, z4, _⟩ := q3'
        obtain ⟨⟨_, _, z5, z6⟩, _⟩ := q6'
        have HQ := Lib.hid (And.intro q7 (And.intro hlb (And.intro hl (And.intro hls hb))))
        clear q1 q2 q3 q6 q7 hlb hl
        have e0 := (hls.quiet hM6 hb).cells 0 _ rfl
        have e1 := (hls.quiet hM6 hb).cells 1 _ rfl
        have e2 := (hls.quiet hM6 hb).cells 2 _ rfl
        have e3 := (hls.quiet hM6 hb).cells 3 _ rfl
        have e4 := (hls.quiet hM6 hb).cells 4 _ rfl
        have e5 := (hls.quiet hM6 hb).cells 5 _ rfl
        have e6 := (hls.quiet hM6 hb).cells 6 _ rfl
        have e7 := (hls.quiet hM6 hb).cells 7 _ rfl
        rw [Nat.add_zero] at e0
        clear hls hb
        have hb7 : Blk (wr.alloc (.cells (lsV l A' n' c').toArray 35)) wr.heap.size 35 (lsV l A' n' c').toArray := Blk.new _ _ _
        have mA7 : Mod (fun _ => False) wr (wr.alloc (.cells (lsV l A' n' c').toArray 35)) := (Mod.refl _ wr).alloc _
        have hs7 := (hs6.quiet mA7).quiet (Mod.refl (fun _ => False) _).drew
        have hM7 := (hM6.trans mA7).drew
        have he7 : Env (wr.alloc (.cells (lsV l A' n' c').toArray 35)).drew := H.out.2.1.quiet hM7
        have c1 := hb7.drew.cell 1
        unfold lsV at hb7 hs7 hM7 he7 c1
        clear mA7 hs6 hM6
        have H7 := Lib.hid (And.intro hs7 (And.intro hM7 (And.intro hb7 he7)))
        clear hs7 hM7 hb7 he7
        go_upto_region 9 with (fail)
        refine wp_region_planS [4, 7, 10, 11, 12] [0, 1, 5, 6, 8, 9] (2 :: 3 :: 0 :: 1 :: 5 :: 6 :: 8 :: 9 :: 4 :: 7 :: 10 :: 11 :: 12 :: []) (fun w' => Blk w' wr.heap.size 35 #[.string (strOf l.name), .int .i64 l.w, .int .i64 l.h, .int .i64 l.bw, .int .i64 l.init.fr, .int .i64 l.init.sz, .string (strOf l.init.path), .slice A' n' c']) (by kernel_rfl) (by kernel_rfl) (fun _ _ _ d _ h => by cases d <;> exact h) H7.out.2.2.1.drew ?_
        iterate 2 (refine planS_still rfl rfl (fun K hK => ?_); go_simp; refine hK _ ?_; clear hK K)
        refine planS_pure rfl rfl rfl (fun _ _ => rfl) ?_
        refine planS_pure (v := .string (strOf l.name)) rfl rfl rfl (fun w' hS => ?_) ?_
        · have cS := hS.cell 0
          go_simp
        refine planS_pure rfl rfl rfl (fun _ _ => rfl) ?_
        refine planS_pure (v := .int .i64 l.h) rfl rfl rfl (fun w' hS => ?_) ?_
        · have cS := hS.cell 2
          go_simp
        refine planS_pure rfl rfl rfl (fun _ _ => rfl) ?_
        refine planS_pure (v := .int .i64 l.bw) rfl rfl rfl (fun w' hS => ?_) ?_
        · have cS := hS.cell 3
          go_simp
        clear c1 e0 e1 e2 e3 e4 e5 e6 e7
        have hb7 := H7.out.2.2.1.drew
        have hs7 := H7.out.1
        have hM7 := H7.out.2.1
        have he7 := H7.out.2.2.2
        clear H7
        refine planS_loud rfl rfl (fun K hK => ?_)
        go_simp
        refine (cItoa _ l.w (by omega) (by omega) he7).mono ?_
        rintro e w8 ⟨rfl, hm8⟩
        have hb8 := hb7.keep hm8 (fun h => h)
        have hs8 := hs7.quiet hm8
        have hM8 := hM7.trans hm8
        have he8 := he7.quiet hm8
        dsimp only []
        refine hK _ _ hb8 ?_
        clear hK K hm8 hb7 hs7 hM7 he7
        refine planS_loud rfl rfl (fun K hK => ?_)
        go_simp
        refine (cItoa _ l.h (by omega) (by omega) he8).mono ?_
        rintro e w9 ⟨rfl, hm9⟩
        have hb9 := hb8.keep hm9 (fun h => h)
        have hs9 := hs8.quiet hm9
        have hM9 := hM8.trans hm9
        have he9 := he8.quiet hm9
        dsimp only []
        refine hK _ _ hb9 ?_
        clear hK K hm9 hb8 hs8 hM8 he8
        refine planS_loud rfl rfl (fun K hK => ?_)
        go_simp
        refine (cItoa _ l.bw (by omega) (by omega) he9).mono ?_
        rintro e w10 ⟨rfl, hm10⟩
        have hb10 := hb9.keep hm10 (fun h => h)
        have hs10 := hs9.quiet hm10
        have hM10 := hM9.trans hm10
        have he10 := he9.quiet hm10
        dsimp only []
        refine hK _ _ hb10 ?_
        clear hK K hm10 hb9 hs9 hM9 he9
        have H10 := Lib.hid (And.intro hs10 (And.intro hM10 hb10))
        clear hs10 hM10 hb10 he10
        refine planS_loud rfl rfl (fun K hK => ?_)
        go_simp
        refine hK _ _ (H10.out.2.2.alloc _) ?_
        clear hK K
        refine planS_loud rfl rfl (fun K hK => ?_)
        go_simp
        refine (pLineNew w10 w.heap.size w1.heap.size 5 _ _ _ [[114, 101, 110, 100, 105, 116, 105, 111, 110], l.name, dec l.w, dec l.h, dec l.bw] _ rfl H10.out.1 rfl (by rw [List.length_append]; exact Nat.le_trans (Nat.add_le_add (Nat.add_le_add l3 hrl) l1) (by decide)) H10.out.2.1.size _ rfl).mono ?_
        rintro e w11 ⟨rfl, ⟨v11, hs11⟩, ht11⟩
        have hM11 := tm_quiet H10.out.2.1 ht11
        have hb11 := H10.out.2.2.tmod ht11 rfl
        dsimp only []
        refine hK _ _ hb11 ?_
        clear hK K ht11 H10
        refine planS_done ?_
        have H11 := Lib.hid (And.intro hs11 (And.intro hM11 hb11))
        clear hs11 hM11 hb11
        have c5 := H11.out.2.2.drew.cell 5
        go_upto_region 10 with (fail)
        refine wp_region_planS [3, 7, 8] [4, 5, 6] (0 :: 1 :: 2 :: 4 :: 5 :: 6 :: 3 :: 7 :: 8 :: []) (fun w' => Blk w' wr.heap.size 35 #[.string (strOf l.name), .int .i64 l.w, .int .i64 l.h, .int .i64 l.bw, .int .i64 l.init.fr, .int .i64 l.init.sz, .string (strOf l.init.path), .slice A' n' c']) (by kernel_rfl) (by kernel_rfl) (fun _ _ _ d _ h => by cases d <;> exact h) H11.out.2.2.drew ?_
        iterate 3 (refine planS_still rfl rfl (fun K hK => ?_); go_simp; refine hK _ ?_; clear hK K)
        iterate 2 (refine planS_pure rfl rfl rfl (fun _ _ => rfl) ?_)
        refine planS_pure (v := .string (strOf l.init.path)) rfl rfl rfl (fun w' hS => ?_) ?_
        · have cS := hS.cell 6
          go_simp
        clear c5
        have hb11 := H11.out.2.2.drew
        have hs11 := H11.out.1.quiet (Mod.refl (fun _ => False) w11).drew
        have hM11 := H11.out.2.1.drew
        have he11 : Env w11.drew := H.out.2.1.quiet hM11
        clear H11
        refine planS_loud rfl rfl (fun K hK => ?_)
        go_simp
        refine (cItoa _ l.init.sz (by omega) (by omega) he11).mono ?_
        rintro e w12 ⟨rfl, hm12⟩
        have hb12 := hb11.keep hm12 (fun h => h)
        have hs12 := hs11.quiet hm12
        have hM12 := hM11.trans hm12
        have he12 := he11.quiet hm12
        dsimp only []
        refine hK _ _ hb12 ?_
        clear hK K hm12 hb11 hs11 hM11 he11
        have H12 := Lib.hid (And.intro hs12 (And.intro hM12 hb12))
        clear hs12 hM12 hb12 he12
        refine planS_loud rfl rfl (fun K hK => ?_)
        go_simp
        refine hK _ _ (H12.out.2.2.alloc _) ?_
        clear hK K
        refine planS_loud rfl rfl (fun K hK => ?_)
        go_simp
        refine (pLineNew w12 w.heap.size w1.heap.size 3 _ _ _ [[105, 110, 105, 116], dec l.init.sz, l.init.path] _ rfl H12.out.1 rfl (by rw [List.length_append, List.length_append]; exact Nat.le_trans (Nat.add_le_add (Nat.add_le_add (Nat.add_le_add l3 hrl) l1) l2) (by decide)) H12.out.2.1.size _ rfl).mono ?_
        rintro e w13 ⟨rfl, ⟨v13, hs13⟩, ht13⟩
        have hM13 := tm_quiet H12.out.2.1 ht13
        have hb13 := H12.out.2.2.tmod ht13 rfl
        dsimp only []
        refine hK _ _ hb13 ?_
        clear hK K ht13 H12
        refine planS_done ?_
        have H13 := Lib.hid (And.intro hs13 (And.intro hM13 hb13))
        clear hs13 hM13 hb13
        have f13 := H13.out.2.2.cell
        have hpl : l.pieces.length = n' := HQ.out.2.2.2.1.pcs.len
        go_wp2_with fail
        go_loopw [54] (WrIn w w1.heap.size m k l) (fun s _ => n' - (intOf s).toNat)
        case atStart => exact ⟨0, by omega, rfl, ⟨_, v13, by rw [List.take_zero, List.flatMap_nil, List.append_nil]; exact H13.out.1⟩, H13.out.2.1⟩
        case round =>
          rename World => wq
          clear f13 H13
          obtain ⟨j, hj, rfl, ⟨p14, v14, hs14⟩, hM14⟩ := hrel
          have hpj := pieces_len HQ.out.2.1 j
          by_cases hjl : j < n'
          · obtain ⟨p, hp⟩ : ∃ p, l.pieces[j]? = some p := ⟨_, List.getElem?_eq_getElem (by omega)⟩
            obtain ⟨b', o', hA', hb', hpc⟩ := (HQ.out.2.2.2.1.pcs.quiet hM14).at_ j p hp
            subst hA'
            have d7 : decide ((j : Int) < (n' : Int)) = true := decide_eq_true (by omega)
            have hpr := HQ.out.1 p (List.mem_of_getElem? hp)
            have l4 := lineP_len hpr
            unfold pieceB at hpr
            simp only [Bool.and_eq_true, decide_eq_true_eq] at hpr
            obtain ⟨⟨y1, y2, y3, y4⟩, _⟩ := hpr
            have k0 := hpc.1
            have k1 := hpc.2.1
            have k2 := hpc.2.2
            have hb15 : Blk (wq.alloc (.cells (pcV p).toArray 32)) wq.heap.size 32 (pcV p).toArray := Blk.new _ _ _
            have mA15 : Mod (fun _ => False) wq (wq.alloc (.cells (pcV p).toArray 32)) := (Mod.refl _ wq).alloc _
            have hs15 := (hs14.quiet mA15).quiet (Mod.refl (fun _ => False) _).drew
            have hM15 := (hM14.trans mA15).drew
            have he15 : Env (wq.alloc (.cells (pcV p).toArray 32)).drew := H.out.2.1.quiet hM15
            have c0 := hb15.drew.cell 0
            unfold pcV at hb15 hs15 hM15 he15 c0
            clear mA15 hs14 hM14
            have H15 := Lib.hid (And.intro hs15 (And.intro hM15 (And.intro hb15 (And.intro he15 hp))))
            clear hs15 hM15 hb15 he15 hp hpc
            go_upto_region 14 with (fail)
            refine wp_region_planS [2, 5, 8, 9] [3, 4, 6, 7] (0 :: 1 :: 3 :: 4 :: 6 :: 7 :: 2 :: 5 :: 8 :: 9 :: []) (fun w' => Blk w' wq.heap.size 32 #[.int .i64 p.fr, .int .i64 p.sz, .string (strOf p.path)]) (by kernel_rfl) (by kernel_rfl) (fun _ _ _ d _ h => by cases d <;> exact h) H15.out.2.2.1.drew ?_
            iterate 2 (refine planS_still rfl rfl (fun K hK => ?_); go_simp; refine hK _ ?_; clear hK K)
            refine planS_pure rfl rfl rfl (fun _ _ => rfl) ?_
            refine planS_pure (v := .int .i64 p.sz) rfl rfl rfl (fun w' hS => ?_) ?_
            · have cS := hS.cell 1
              go_simp
            refine planS_pure rfl rfl rfl (fun _ _ => rfl) ?_
            refine planS_pure (v := .string (strOf p.path)) rfl rfl rfl (fun w' hS => ?_) ?_
            · have cS := hS.cell 2
              go_simp
            clear c0 k0 k1 k2
            have hb15 := H15.out.2.2.1.drew
            have hs15 := H15.out.1
            have hM15 := H15.out.2.1
            have he15 := H15.out.2.2.2.1
            have HP := Lib.hid H15.out.2.2.2.2
            clear H15
            refine planS_loud rfl rfl (fun K hK => ?_)
            go_simp
            refine (cItoa _ p.fr (by omega) (by omega) he15).mono ?_
            rintro e w16 ⟨rfl, hm16⟩
            have hb16 := hb15.keep hm16 (fun h => h)
            have hs16 := hs15.quiet hm16
            have hM16 := hM15.trans hm16
            have he16 := he15.quiet hm16
            dsimp only []
            refine hK _ _ hb16 ?_
            clear hK K hm16 hb15 hs15 hM15 he15
            refine planS_loud rfl rfl (fun K hK => ?_)
            go_simp
            refine (cItoa _ p.sz (by omega) (by omega) he16).mono ?_
            rintro e w17 ⟨rfl, hm17⟩
            have hb17 := hb16.keep hm17 (fun h => h)
            have hs17 := hs16.quiet hm17
            have hM17 := hM16.trans hm17
            have he17 := he16.quiet hm17
            dsimp only []
            refine hK _ _ hb17 ?_
            clear hK K hm17 hb16 hs16 hM16 he16
            have H17 := Lib.hid (And.intro hs17 (And.intro hM17 hb17))
            clear hs17 hM17 hb17 he17
            refine planS_loud rfl rfl (fun K hK => ?_)
            go_simp
            refine hK _ _ (H17.out.2.2.alloc _) ?_
            clear hK K
            refine planS_loud rfl rfl (fun K hK => ?_)
            go_simp
            refine (pLineNew w17 w.heap.size w1.heap.size 4 _ _ _ [[112, 105, 101, 99, 101], dec p.fr, dec p.sz, p.path] _ rfl H17.out.1 rfl (by rw [List.length_append, List.length_append, List.length_append, List.length_append]; exact Nat.le_trans (Nat.add_le_add (Nat.add_le_add (Nat.add_le_add (Nat.add_le_add (Nat.add_le_add l3 hrl) l1) l2) hpj) l4) (by decide)) H17.out.2.1.size _ rfl).mono ?_
            rintro e w18 ⟨rfl, ⟨v18, hs18⟩, ht18⟩
            have hM18 := tm_quiet H17.out.2.1 ht18
            have hb18 := H17.out.2.2.tmod ht18 rfl
            dsimp only []
            refine hK _ _ hb18 ?_
            clear hK K ht18 H17
            refine planS_done ?_
            have H18 := Lib.hid (And.intro hs18 (And.intro hM18 hb18))
            clear hs18 hM18 hb18
            go_wp2_with fail
            go_roundw
            case rel => exact ⟨j + 1, by omega, by go_num, ⟨_, v18, by rw [take_snoc HP.out, List.flatMap_append, List.flatMap_singleton, ← List.append_assoc]; exact H18.out.1⟩, H18.out.2.1⟩
            case measure => simp [intOf]; omega
          · obtain rfl : j = n' := by omega
            have d7 : decide ((j : Int) < (j : Int)) = false := decide_eq_false (by omega)
            have ht : l.pieces.take j = l.pieces := by rw [← hpl, List.take_length]
            rw [ht] at hs14
            have H14 := Lib.hid (And.intro hs14 hM14)
            clear hs14 hM14 ht
            go_wp2_with fail
            go_roundw
            case rel => exact ⟨k + 1, by omega, by go_num, ⟨p14, v14, by rw [take_snoc HQ.out.2.2.1, List.flatMap_append, List.flatMap_singleton]; unfold textR; rw [← List.append_assoc, ← List.append_assoc, ← List.append_assoc]; exact H14.out.1⟩, H14.out.2⟩
            case measure => simp [intOf]; omega
      · obtain rfl : k = n := by omega
        have d6 : decide ((k : Int) < (k : Int)) = false := decide_eq_false (by omega)
        have ht : m.rends.take k = m.rends := by rw [← hln, List.take_length]
        rw [ht] at hs6 hrl
        have l3 := HB.out.2
        have H6 := Lib.hid (And.intro hs6 hM6)
        clear hs6 hM6 ht
        go_wp2_with fail
        refine (pLineNew wr w.heap.size w1.heap.size 1 _ _ _ [[101, 110, 100]] _ rfl H6.out.1 rfl (by rw [List.length_append]; exact Nat.le_trans (Nat.add_le_add (Nat.add_le_add l3 hrl) (show (lineL [[101, 110, 100]]).length ≤ 4 by decide)) (by decide)) H6.out.2.size _ rfl).mono ?_
        rintro e w19 ⟨rfl, ⟨v19, hs19⟩, ht19⟩
        have hM19 := tm_quiet H6.out.2 ht19
        have H19 := Lib.hid (And.intro hs19 hM19)
        clear hs19 ht19 hM19
        go_wp2_with fail
        refine (pString w19 w.heap.size w1.heap.size _ v19 _ H19.out.1 (by simp [lineL])).mono ?_
        rintro e w20 ⟨rfl, hbe⟩
        have hM20 : Mod (fun _ => False) w w20 := ⟨hbe.os.trans H19.out.2.os, hbe.tape.trans H19.out.2.tape, hbe.output.trans H19.out.2.output, Nat.le_trans H19.out.2.size hbe.size, fun i hi hn => (hbe.block i hi).trans (H19.out.2.block i hi hn)⟩
        have H20 := Lib.hid hM20
        clear hM20 hbe
        go_wp2_with fail
        go_ret2
        exact ⟨by unfold writeOut; rw [HR.out.1, if_pos rfl, writeL_eq, List.append_assoc]; rfl, H20.out⟩
end Go.Proofs.YtkobngipbhjfjaaDoor
