/-
  The reference's Parse, walked.
-/
import Derived.Test.YtkobngipbhjfjaaDoorMfN1
import Derived.Test.YtkobngipbhjfjaaDoorMfN2
import Derived.Test.YtkobngipbhjfjaaDoorMfStepO
import Derived.Test.YtkobngipbhjfjaaDoorPlanT
namespace Go.Proofs.YtkobngipbhjfjaaDoor
open Go.RowKit

theorem numF_bd : ∀ (s : Str) (i : Nat) (a : Int), i ≤ 15 → 0 ≤ a → a < 10 ^ i → 0 ≤ numF i a s ∧ numF i a s ≤ 1000000000000000
  | [], i, a, h, h0, h1 => by
    have := ten_le h
    simp only [numF]
    omega
  | c :: r, i, a, h, h0, h1 => by
    rw [numF]
    split
    · omega
    · rename_i hc
      refine numF_bd r (i + 1) _ (by omega) (by omega) ?_
      rw [Int.pow_succ]
      omega
theorem num_i64 (s : Str) : I64 (numF 0 0 s) := by
  have := numF_bd s 0 0 (by omega) (by omega) (by decide)
  unfold I64
  omega
theorem numR_is (s : Str) : ∀ v, numR s = some v → numF 0 0 s = v := fun v h => by unfold numR at h; injection h
theorem numR_some (s : Str) : (numR s).isSome = true := rfl
theorem StrsOwn.fr {B0 B mb : Nat} {w w' : World} {v : Value} {l : List Str} (h : StrsOwn w B0 v l) (hf : Fr B mb w w') {c : Array Value} (hm : Blk w mb 24 c) : StrsOwn w' B0 v l := by
  refine ⟨h.1, ?_⟩
  rcases h.2 with h2 | ⟨g, cap, cur, hv, h3, h4, h5⟩
  · exact .inl h2
  · exact .inr ⟨g, cap, cur, hv, h3, Blk.fr h4 hf (Blk.ne_ h4 hm (by decide)) rfl, h5⟩
theorem StrsOwn.cell {w : World} {B g n c : Nat} {l : List Str} (h : StrsOwn w B (.slice (some ⟨g, 0, none⟩) n c) l) {i : Nat} {s : Str} (hi : l[i]? = some s) : w.cell? ⟨g, i, none⟩ = some (.string (strOf s)) := by
  obtain ⟨g', hA, h2⟩ := h.at_ hi
  injection hA with hA
  injection hA with hA
  rw [hA]
  exact h2
theorem StrsOwn.ne {w : World} {B g n c mb : Nat} {l : List Str} {cs : Array Value} (h : StrsOwn w B (.slice (some ⟨g, 0, none⟩) n c) l) (hm : Blk w mb 24 cs) : ∀ j, (Value.slice (some ⟨g, 0, none⟩) n c).ownBlock = some j → j ≠ mb := fun j hj e => own_ne_blk h hm (by decide) (by rw [hj, e])
theorem paths_cnt : ∀ ls : List Ls, (pathsR ls).length = ls.length + (ls.map fun l => l.pieces.length).sum
  | [] => by simp [pathsR]
  | x :: r => by
    have ih := paths_cnt r
    unfold pathsR at ih ⊢
    rw [List.flatMap_cons, List.length_append, List.length_cons, List.map_cons, List.sum_cons, ih]
    have : (filesL x).length = x.pieces.length + 1 := by simp [filesL]
    omega
structure PaSt (w : World) (lines : List Str) (i : Nat) (v5 : Value) (wr : World) : Prop where
  man : ∃ m v ps, foldO numR (lines.take i) m0 = some m ∧ MfOwn wr w.heap.size (w.heap.size + 1) v ps m ∧ cnt m ≤ i
  lin : StrsOwn wr w.heap.size v5 lines
  res : Blk wr w.heap.size 24 #[.int .i64 0, .int .i64 0, .slice none 0 0]
  old : Mod (fun _ => False) w wr
def PaRel (w : World) (lines : List Str) (v5 v : Value) (wr : World) : Prop := ∃ i : Nat, i ≤ lines.length ∧ v = .int .i64 (i : Int) ∧ PaSt w lines i v5 wr
def RParsePost (w : World) (s : Str) (e : Ending) (w' : World) : Prop :=
  Mod (fun _ => False) w w' ∧ ((parseO numR s = none ∧ e = .returned (.tuple #[.agg #[.int .i64 0, .int .i64 0, .slice none 0 0], .int .i64 181])) ∨
    ∃ m A n c, parseO numR s = some m ∧ e = .returned (.tuple #[.agg (mfV m A n c).toArray, .int .i64 0]) ∧ MfIn w' A n m)
theorem rparse_start (w : World) :
    Blk ((w.alloc (.cells #[.int .i64 0, .int .i64 0, .slice none 0 0] 24)).alloc (.cells #[.int .i64 0, .int .i64 0, .slice none 0 0] 24)) w.heap.size 24 #[.int .i64 0, .int .i64 0, .slice none 0 0] ∧
    MfOwn ((w.alloc (.cells #[.int .i64 0, .int .i64 0, .slice none 0 0] 24)).alloc (.cells #[.int .i64 0, .int .i64 0, .slice none 0 0] 24)) w.heap.size (w.heap.size + 1) (.slice none 0 0) [] m0 := by
  have a1 := Blk.new w 24 #[.int .i64 0, .int .i64 0, .slice none 0 0]
  have a2 := Blk.new (w.alloc (.cells #[.int .i64 0, .int .i64 0, .slice none 0 0] 24)) 24 #[.int .i64 0, .int .i64 0, .slice none 0 0]
  simp only [World.size_alloc] at a2
  exact ⟨a1.alloc _, a2, World.ownsRow_nil _ _ _ _, rfl, fun _ h => (by cases h), List.Pairwise.nil, by omega, ⟨i64_0, i64_0, by simp [m0]⟩, fun _ h => (by cases h)⟩
/-- One line taken in. -/
theorem PaSt.step {w wr w' : World} {lines : List Str} {i : Nat} {v5 : Value} {x : Str} {m m' : Mf} {v' : Value} {ps' : List (Ls × Value)} {v : Value} (hx : lines[i]? = some x) (hf : foldO numR (lines.take i) m0 = some m) (hc : cnt m ≤ i)
    (hw : Blk wr (w.heap.size + 1) 24 #[.int .i64 m.scale, .int .i64 m.tick, v]) (hl : StrsOwn wr w.heap.size v5 lines) (hr : Blk wr w.heap.size 24 #[.int .i64 0, .int .i64 0, .slice none 0 0]) (ho : Mod (fun _ => False) w wr)
    (hown : MfOwn w' w.heap.size (w.heap.size + 1) v' ps' m') (hfr : Fr w.heap.size (w.heap.size + 1) wr w') (hs : stepO numR (cutL 32 x) m = some m') (hc' : cnt m' ≤ cnt m + 1) : PaSt w lines (i + 1) v5 w' :=
  ⟨⟨m', v', ps', by rw [take_snoc hx, foldO_snoc, hf]; exact hs, hown, by omega⟩, hl.fr hfr hw, hr.fr hfr (by omega) rfl, Fr.base ho hfr (Nat.le_refl _) (by omega)⟩
set_option maxRecDepth 100000 in
set_option maxHeartbeats 8000000 in
theorem rParse (w : World) (s : Str) (hs : s.length ≤ 500000) : Calls Tryd.prog 20 #[.string (strOf s)] w (RParsePost w s) := by
  have H0 := Lib.hid (rparse_start w)
  go_enter Tryd.func20, Tryd.ntmps20
  go_wp2_with fail
  refine (rCut _ s 10 (by omega)).mono ?_
  rintro e w1 ⟨A5, n5, k5, rfl, hown5, hm1⟩
  have hn5 := hown5.len
  have hcnt := cutL_count (c := 10) s
  have hst : PaSt w (cutL 10 s) 0 (.slice A5 n5 k5) w1 := ⟨⟨m0, _, _, rfl, H0.out.2.quiet hm1, by simp [cnt, m0]⟩, own_base hown5 (by simp; omega), H0.out.1.keep hm1 (fun h => h), (((Mod.refl (fun _ => False) w).alloc _).alloc _).trans hm1⟩
  have HS := Lib.hid hst
  clear hst hown5 hm1
  go_wp2_with fail
  go_loopw [6] (PaRel w (cutL 10 s) (.slice A5 n5 k5)) (fun v _ => n5 - (intOf v).toNat)
  case atStart => exact ⟨0, by omega, rfl, HS.out⟩
  case round =>
    rename World => wr
    obtain ⟨i, hi, rfl, hst⟩ := hrel
    obtain ⟨m, v, ps, hfo, hman, hcm⟩ := hst.man
    obtain ⟨A, c, hv⟩ := own_shape hman.row
    obtain ⟨np, hnp⟩ : ∃ np, np = ps.length := ⟨_, rfl⟩
    have hnr : ps.length = m.rends.length := by rw [← hman.rends, List.length_map]
    rw [← hnp] at hv
    subst hv
    have hnp2 : np ≤ 500002 := by
      have : m.rends.length ≤ cnt m := by unfold cnt; omega
      omega
    have cB := hman.blk.cell
    have HW := Lib.hid (And.intro hfo (And.intro hman (And.intro hcm (And.intro hst.lin (And.intro hst.res (And.intro hst.old hnp))))))
    clear hfo hcm hst hnp
    by_cases hin : i < n5
    · obtain ⟨x, hx⟩ : ∃ x, (cutL 10 s)[i]? = some x := ⟨_, List.getElem?_eq_getElem (by omega)⟩
      have d0 : decide ((i : Int) < (n5 : Int)) = true := decide_eq_true (by omega)
      obtain ⟨g5, hA5, q5⟩ := HW.out.2.2.2.1.at_ hx
      subst hA5
      have hxl : x.length ≤ s.length := cutL_len (List.mem_of_getElem? hx)
      clear hman
      go_wp2_with fail
      refine (rCut _ x 32 (by omega)).mono ?_
      rintro e w2 ⟨A7, n7, k7, rfl, hown7, hm2⟩
      have hn7 := hown7.len
      have own2 := HW.out.2.1.quiet hm2
      have hfr2 : Fr w.heap.size (w.heap.size + 1) wr w2 := (Fr.refl _ _ wr).quiet hm2
      have hso := fun (num : Str → Option Int) (m' : Mf) => (Iff.rfl : stepO num (cutL 32 x) m = some m' ↔ stepO num (cutL 32 x) m = some m')
      have hfl : ∀ y ∈ cutL 32 x, y.length ≤ 500000 := fun y hy => Nat.le_trans (cutL_len hy) (by omega)
      have hne := cutL_ne 32 x
      obtain ⟨f, hf⟩ : ∃ f, f = cutL 32 x := ⟨_, rfl⟩
      rw [← hf] at hown7 hn7 hfl hne
      have hf0n : 0 < n7 := by rw [← hn7]; exact List.length_pos_iff.2 hne
      have hown7b : StrsOwn w2 w.heap.size (.slice A7 n7 k7) f := own_base hown7 HW.out.2.2.2.2.2.1.size
      obtain ⟨f0, hf0⟩ : ∃ y, f[0]? = some y := ⟨_, List.getElem?_eq_getElem (by omega)⟩
      obtain ⟨fb, hA7, c0⟩ := hown7b.at_ hf0
      subst hA7
      have cm2 := own2.blk.cell 2
      have hpr : np = 0 ↔ m.rends = [] := by
        rw [HW.out.2.2.2.2.2.2, hnr, List.length_eq_zero_iff]
      have H := Lib.hid (And.intro own2 (And.intro hown7b (And.intro hfr2 (And.intro hf (And.intro hf0 (And.intro hn7 (And.intro hx (And.intro hpr (hown7b.ne own2.blk)))))))))
      clear own2 hown7 hown7b hfr2 hf hm2 hso hne hx q5
      have hn7b : n7 ≤ 500001 := by have h3 := cutL_count (c := 32) x; rw [← H.out.2.2.2.1, H.out.2.2.2.2.2.1] at h3; omega
      by_cases q1 : f0 = kScale ∧ n7 = 4
      · obtain ⟨q0, rfl⟩ := q1
        have e0 : (strOf f0).toList = [115, 99, 97, 108, 101] := by rw [strOf_toList, q0]; rfl
        have hn := H.out.2.2.2.2.2.1
        obtain ⟨f1, hf1⟩ : ∃ y, f[1]? = some y := ⟨_, List.getElem?_eq_getElem (by omega)⟩
        obtain ⟨f3, hf3⟩ : ∃ y, f[3]? = some y := ⟨_, List.getElem?_eq_getElem (by omega)⟩
        have c1 := H.out.2.1.cell hf1
        have c3w := H.out.2.1.cell hf3
        have l1 := hfl f1 (List.mem_of_getElem? hf1)
        have l3 := hfl f3 (List.mem_of_getElem? hf3)
        obtain ⟨own4, m4⟩ := H.out.1.scale_ (numF 0 0 f1) (numF 0 0 f3) (num_i64 _) (num_i64 _)
        have c3 : (w2.setCell ⟨w.heap.size + 1, 0, none⟩ (.int .i64 (numF 0 0 f1))).cell? ⟨fb, 3, none⟩ = some (.string (strOf f3)) := (H.out.2.1.mod ((Mod.refl (· = w.heap.size + 1) w2).setCell (p := ⟨w.heap.size + 1, 0, none⟩) (.inl rfl) _) H.out.2.2.2.2.2.2.2.2).cell hf3
        obtain ⟨gc, gf⟩ := H.out.1.blk.both
        have fr4 := H.out.2.2.1.step m4 (fun i e => .inr (.inl e))
        have hstep : stepO numR (cutL 32 x) m = some { m with scale := numF 0 0 f1, tick := numF 0 0 f3 } := by
          rw [← H.out.2.2.2.1, step_scale (q0 ▸ H.out.2.2.2.2.1) hn hf1 hf3 (numR_is f1) (numR_is f3)]
          rfl
        have HF := Lib.hid (PaSt.step H.out.2.2.2.2.2.2.1 HW.out.1 HW.out.2.2.1 HW.out.2.1.blk HW.out.2.2.2.1 HW.out.2.2.2.2.1 HW.out.2.2.2.2.2.1 own4 fr4 hstep (Nat.le_succ _))
        clear q0 own4 m4 fr4 hstep hfl cB
        have L1 := Lib.hid (Nat.le_trans l1 (show 500000 ≤ 9223372036854775807 by decide))
        have L3 := Lib.hid (Nat.le_trans l3 (show 500000 ≤ 9223372036854775807 by decide))
        go_wp2_with fail
        refine (rNumber _ f1 L1.out).mono ?_
        rintro e w3 ⟨rfl, rfl⟩
        go_wp2_with fail
        refine (rNumber _ f3 L3.out).mono ?_
        rintro e w3 ⟨rfl, rfl⟩
        go_wp2_with fail
        go_roundw
        case rel => exact ⟨i + 1, by omega, by go_num, HF.out⟩
        case measure => simp [intOf]; omega
      by_cases q2 : f0 = kRend ∧ n7 = 5
      · obtain ⟨q0, rfl⟩ := q2
        have e0 : (strOf f0).toList = [114, 101, 110, 100, 105, 116, 105, 111, 110] := by rw [strOf_toList, q0]; rfl
        have hn := H.out.2.2.2.2.2.1
        obtain ⟨f1, hf1⟩ : ∃ y, f[1]? = some y := ⟨_, List.getElem?_eq_getElem (by omega)⟩
        obtain ⟨f2, hf2⟩ : ∃ y, f[2]? = some y := ⟨_, List.getElem?_eq_getElem (by omega)⟩
        obtain ⟨f3, hf3⟩ : ∃ y, f[3]? = some y := ⟨_, List.getElem?_eq_getElem (by omega)⟩
        obtain ⟨f4, hf4⟩ : ∃ y, f[4]? = some y := ⟨_, List.getElem?_eq_getElem (by omega)⟩
        have hrow := H.out.2.1.quiet ((Mod.refl (fun _ => False) w2).drew)
        have c1 := hrow.cell hf1
        have c2 := hrow.cell hf2
        have c3 := hrow.cell hf3
        have c4 := hrow.cell hf4
        have L1 := Lib.hid (Nat.le_trans (hfl f1 (List.mem_of_getElem? hf1)) (show 500000 ≤ 9223372036854775807 by decide))
        have L2 := Lib.hid (Nat.le_trans (hfl f2 (List.mem_of_getElem? hf2)) (show 500000 ≤ 9223372036854775807 by decide))
        have L3 := Lib.hid (Nat.le_trans (hfl f3 (List.mem_of_getElem? hf3)) (show 500000 ≤ 9223372036854775807 by decide))
        have L4 := Lib.hid (Nat.le_trans (hfl f4 (List.mem_of_getElem? hf4)) (show 500000 ≤ 9223372036854775807 by decide))
        have hlo : Ls.Ok ⟨f1, numF 0 0 f2, numF 0 0 f3, numF 0 0 f4, ⟨0, 0, []⟩, []⟩ := ⟨L1.out, num_i64 _, num_i64 _, num_i64 _, pc0_ok, by simp⟩
        have hrl : m.rends.length < 1048576 := by rw [← hnr, ← HW.out.2.2.2.2.2.2]; omega
        have hps : ps.length ≤ 500002 := by rw [← HW.out.2.2.2.2.2.2]; exact hnp2
        have hstep : stepO numR (cutL 32 x) m = some { m with rends := m.rends ++ [⟨f1, numF 0 0 f2, numF 0 0 f3, numF 0 0 f4, ⟨0, 0, []⟩, []⟩] } := by
          rw [← H.out.2.2.2.1, step_rend (q0 ▸ H.out.2.2.2.2.1) hn hf1 hf2 hf3 hf4 (numR_is f2) (numR_is f3) (numR_is f4)]
          rfl
        have own2 := H.out.1.quiet ((Mod.refl (fun _ => False) w2).drew)
        have fr2 := H.out.2.2.1.quiet ((Mod.refl (fun _ => False) w2).drew)
        have hgs : w.heap.size ≤ w2.heap.size := Nat.le_trans HW.out.2.2.2.2.2.1.size H.out.2.2.1.size
        have HE := Lib.hid (And.intro hlo (And.intro hrl (And.intro hstep (And.intro own2 (And.intro fr2 hgs)))))
        clear q0 hfl cB hrow hlo hrl hstep own2 fr2 hgs q1
        go_upto_region 12 with (fail)
        refine wp_region_planT [18, 19, 21] [0, 1] (2 :: 3 :: 4 :: 5 :: 6 :: 7 :: 8 :: 9 :: 10 :: 11 :: 12 :: 13 :: 14 :: 15 :: 16 :: 17 :: 0 :: 1 :: 18 :: 19 :: 20 :: 21 :: []) (fun w' => Blk w' (w.heap.size + 1) 24 #[.int .i64 m.scale, .int .i64 m.tick, .slice A np c]) (by kernel_rfl) (by kernel_rfl) (fun _ _ _ d _ h => by cases d <;> exact h) HE.out.2.2.2.1.blk ?_
        iterate 6 (refine planT_still rfl rfl (fun K hK => ?_); go_simp; refine hK _ ?_; clear hK K)
        refine planT_still rfl rfl (fun K hK => ?_); go_simp; refine ⟨_, (rNumber _ f2 L2.out).mono (fun _ _ ⟨a, b⟩ => ⟨a, b.symm⟩), hK _ ?_⟩; clear hK K
        iterate 3 (refine planT_still rfl rfl (fun K hK => ?_); go_simp; refine hK _ ?_; clear hK K)
        refine planT_still rfl rfl (fun K hK => ?_); go_simp; refine ⟨_, (rNumber _ f3 L3.out).mono (fun _ _ ⟨a, b⟩ => ⟨a, b.symm⟩), hK _ ?_⟩; clear hK K
        iterate 3 (refine planT_still rfl rfl (fun K hK => ?_); go_simp; refine hK _ ?_; clear hK K)
        refine planT_still rfl rfl (fun K hK => ?_); go_simp; refine ⟨_, (rNumber _ f4 L4.out).mono (fun _ _ ⟨a, b⟩ => ⟨a, b.symm⟩), hK _ ?_⟩; clear hK K
        iterate 1 (refine planT_still rfl rfl (fun K hK => ?_); go_simp; refine hK _ ?_; clear hK K)
        refine planT_read (v := .pointer (some ⟨w.heap.size + 1, 2, none⟩)) rfl rfl rfl (fun _ _ => rfl) (fun K hK => ?_); go_simp; refine hK _ ?_; clear hK K
        refine planT_read (v := .slice A np c) rfl rfl rfl (fun w' hS => ?_) (fun K hK => ?_)
        · have cS := hS.cell 2
          go_simp
        go_simp
        refine hK _ ?_
        clear hK K
        refine planT_loud rfl rfl (fun K hK => ?_)
        go_simp
        refine hK _ _ (HE.out.2.2.2.1.blk.alloc _) ?_
        clear hK K
        refine planT_loud rfl rfl (fun K hK => ?_)
        obtain ⟨i0, hi0, hz0, hz1, hz2⟩ := info_parts ls_info
        refine step_append_src _ rfl (.tmp 59) (.tmp 76) 22 rfl w.heap.size 35 i0 _ 8 96 Tryd.underlying22 hi0 hz0 hz1 hz2 rfl (by omega) (.slice A np c) ps.length (ps.flatMap fun p => lsU p.1 p.2) rfl (own_mod HE.out.2.2.2.1.row ((Mod.refl (fun _ => False) w2.drew).alloc _) (fun _ _ h => h)) (some ⟨w2.heap.size, 0, none⟩) 1 1 (lsU ⟨f1, numF 0 0 f2, numF 0 0 f3, numF 0 0 f4, ⟨0, 0, []⟩, []⟩ (.slice none 0 0)) rfl (Src.new w2.drew 35 (lsU ⟨f1, numF 0 0 f2, numF 0 0 f3, numF 0 0 f4, ⟨0, 0, []⟩, []⟩ (.slice none 0 0))) (fun h => by cases h) (lsU_one _ _ rfl) (by unfold maxLen; omega) (by omega) (by have := HE.out.2.2.2.2.2; show w.heap.size ≤ (w2.alloc _).heap.size; rw [World.size_alloc]; omega) ?_
        intro v' w5 h1 h2 h3
        have hM5 : Mod (fun j => (Value.slice A np c).ownBlock = some j) w2.drew w5 := ((Mod.refl _ _).alloc _).grown h2 (fun k hk => .inl hk)
        obtain ⟨A6, n6, c6, rfl⟩ := own_form h1
        have mb5 := HE.out.2.2.2.1.blk.keep hM5 (own_ne_blk HE.out.2.2.2.1.row HE.out.2.2.2.1.blk (by decide))
        obtain ⟨own6, m6⟩ := HE.out.2.2.2.1.addR ⟨f1, numF 0 0 f2, numF 0 0 f3, numF 0 0 f4, ⟨0, 0, []⟩, []⟩ rfl HE.out.1 HE.out.2.1 h1 hM5
        have fr6 := HE.out.2.2.2.2.1.step m6 (fun i e => by
          rcases e with e | e
          · exact .inr (.inl e)
          · obtain ⟨h1, cs, h2⟩ := own_blk HE.out.2.2.2.1.row e
            exact .inr (.inr ⟨h1, _, cs, h2, rfl⟩))
        refine hK _ _ mb5 ?_
        clear hK K
        have gc := mb5.cell
        have gf := mb5.frozen
        have HF := Lib.hid (PaSt.step H.out.2.2.2.2.2.2.1 HW.out.1 HW.out.2.2.1 HW.out.2.1.blk HW.out.2.2.2.1 HW.out.2.2.2.2.1 HW.out.2.2.2.2.2.1 own6 fr6 HE.out.2.2.1 (cnt_rend rfl))
        clear own6 fr6 m6 h1 h2 h3 hM5 mb5 i0 hi0 hz0 hz1 hz2 c0 c1 c2 c3 c4 cm2
        iterate 1 (refine planT_still rfl rfl (fun K hK => ?_); go_simp; refine hK _ ?_; clear hK K)
        refine planT_last (by kernel_rfl) rfl (fun K hK => ?_)
        go_simp
        refine hK _ _ ?_
        clear hK K
        refine planT_done ?_
        go_wp2_with fail
        go_roundw
        case rel => exact ⟨i + 1, by omega, by go_num, HF.out⟩
        case measure => simp [intOf]; omega
      by_cases q3 : f0 = kInit ∧ n7 = 3 ∧ np ≠ 0
      · obtain ⟨q0, rfl, qn⟩ := q3
        have e0 : (strOf f0).toList = [105, 110, 105, 116] := by rw [strOf_toList, q0]; rfl
        have hn := H.out.2.2.2.2.2.1
        have hnps := HW.out.2.2.2.2.2.2
        obtain ⟨ps0, ⟨l, u⟩, hps⟩ : ∃ ps0 p, ps = ps0 ++ [p] := by
          rcases List.eq_nil_or_concat ps with h | ⟨a, b, h⟩
          · exact absurd (by rw [hnps, h]; rfl) qn
          · exact ⟨a, b, by rw [h, List.concat_eq_append]⟩
        subst hps
        obtain ⟨k, hk⟩ : ∃ k, k = ps0.length := ⟨_, rfl⟩
        have hlen : np = k + 1 := by rw [hnps, List.length_append, List.length_singleton, hk]
        subst hlen
        have own2 := H.out.1.quiet ((Mod.refl (fun _ => False) w2).drew)
        obtain ⟨g, cap, cur, hv, hg, hgb, hcap1, _, hcs, _⟩ := own_some own2.row (by simp)
        injection hv with hA h1 h2
        subst hA
        subst h2
        have hre : m.rends = ps0.map Prod.fst ++ [l] := by rw [← H.out.1.rends]; simp
        have hlm : l ∈ m.rends := by rw [hre]; simp
        have hok := H.out.1.ok l hlm
        obtain ⟨f1, hf1⟩ : ∃ y, f[1]? = some y := ⟨_, List.getElem?_eq_getElem (by omega)⟩
        obtain ⟨f2, hf2⟩ : ∃ y, f[2]? = some y := ⟨_, List.getElem?_eq_getElem (by omega)⟩
        have hrow := H.out.2.1.quiet ((Mod.refl (fun _ => False) w2).drew)
        have c1 := hrow.cell hf1
        have c2 := hrow.cell hf2
        have cm3 := own2.blk.cell 2
        have L1 := Lib.hid (Nat.le_trans (hfl f1 (List.mem_of_getElem? hf1)) (show 500000 ≤ 9223372036854775807 by decide))
        have L2 := Lib.hid (Nat.le_trans (hfl f2 (List.mem_of_getElem? hf2)) (show 500000 ≤ 9223372036854775807 by decide))
        have hstep : stepO numR (cutL 32 x) m = some { m with rends := onLast (fun l => { l with init := ⟨0, numF 0 0 f1, f2⟩ }) m.rends } := by
          rw [← H.out.2.2.2.1, step_init (q0 ▸ H.out.2.2.2.2.1) hn (by rw [hre]; simp) hf1 hf2 (numR_is f1)]
          rfl
        have fr2 := H.out.2.2.1.quiet ((Mod.refl (fun _ => False) w2).drew)
        have hup := own2.pcs (l, u) (by simp)
        have hcap : k * 8 + 8 ≤ cur.size := by
          rw [hcs]
          rw [List.length_append, List.length_singleton, ← hk] at hcap1
          omega
        have hkk : (k : Int) < (k : Int) + 1 := by omega
        have HE := Lib.hid (And.intro hstep (And.intro own2 (And.intro fr2 (And.intro hgb (And.intro hg (And.intro hup (And.intro hok (And.intro hk hre))))))))
        clear q0 hfl cB hrow hstep own2 fr2 hgb hg hup hok hk hre hlm q1 q2 h1 hcap1 hcs qn hnps hnr
        go_upto_region 14 with (fail)
        refine wp_region_planT [13] [] (0 :: 1 :: 2 :: 3 :: 4 :: 5 :: 6 :: 7 :: 8 :: 9 :: 10 :: 11 :: 12 :: 13 :: []) (fun _ => True) (by kernel_rfl) (by kernel_rfl) (fun _ _ _ d _ h => by cases d <;> exact h) trivial ?_
        iterate 6 (refine planT_still rfl rfl (fun K hK => ?_); go_simp; refine hK _ ?_; clear hK K)
        refine planT_still rfl rfl (fun K hK => ?_); go_simp; refine ⟨_, (rNumber _ f1 L1.out).mono (fun _ _ ⟨a, b⟩ => ⟨a, b.symm⟩), hK _ ?_⟩; clear hK K
        iterate 6 (refine planT_still rfl rfl (fun K hK => ?_); go_simp; refine hK _ ?_; clear hK K)
        refine planT_last (by kernel_rfl) rfl (fun K hK => ?_)
        refine step_store_part rfl 32 (.tmp 105) (.tmp 103) rfl g (k * 8 + 4) (pcV ⟨0, numF 0 0 f1, f2⟩) rfl rfl 35 cur.toList HE.out.2.2.2.1 (by kernel_rfl) (by rw [Array.length_toList]; simp [pcV]; omega) (pcV_one _) ?_
        intro w3 hb3 hm3
        have hS3 : Mod (fun j => j = g ∨ (fun _ : Nat => False) j) w2.drew w3 := hm3.mono (fun j e => .inl e)
        rw [HE.out.2.2.2.2.2.2.2.1] at hb3
        have own3 := HE.out.2.1.last_ (l' := { l with init := ⟨0, numF 0 0 f1, f2⟩ }) (u' := u) (i := 4) (cells := pcV ⟨0, numF 0 0 f1, f2⟩) HE.out.2.2.2.1 rfl (by simp [pcV]) hb3 (fun _ => False) hS3 (fun _ h => h.elim)
          (own_mod HE.out.2.2.2.2.2.1 hm3 (fun j hj e => own_ne_blk HE.out.2.2.2.2.2.1 HE.out.2.2.2.1 (by decide) (by rw [hj, e]))) (fun _ h => .inl h)
          ⟨⟨HE.out.2.2.2.2.2.2.1.1.1, HE.out.2.2.2.2.2.2.1.1.2.1, HE.out.2.2.2.2.2.2.1.1.2.2.1, HE.out.2.2.2.2.2.2.1.1.2.2.2.1, pcI_ok (num_i64 _) L2.out, HE.out.2.2.2.2.2.2.1.1.2.2.2.2.2⟩, HE.out.2.2.2.2.2.2.1.2⟩
        rw [onLast_is (fun l => { l with init := ⟨0, numF 0 0 f1, f2⟩ }) HE.out.2.2.2.2.2.2.2.2] at own3
        have fr3 := HE.out.2.2.1.step hm3 (fun i e => by subst e; exact .inr (.inr ⟨HE.out.2.2.2.2.1, _, _, HE.out.2.2.2.1, rfl⟩))
        have hcl : cnt { m with rends := onLast (fun l => { l with init := ⟨0, numF 0 0 f1, f2⟩ }) m.rends } ≤ cnt m + 1 := by
          rw [← onLast_is (fun l => { l with init := ⟨0, numF 0 0 f1, f2⟩ }) HE.out.2.2.2.2.2.2.2.2]
          exact cnt_last HE.out.2.2.2.2.2.2.2.2 (Nat.le_succ _)
        have HF := Lib.hid (PaSt.step H.out.2.2.2.2.2.2.1 HW.out.1 HW.out.2.2.1 HW.out.2.1.blk HW.out.2.2.2.1 HW.out.2.2.2.2.1 HW.out.2.2.2.2.2.1 own3 fr3 HE.out.1 hcl)
        clear own3 fr3 hb3 hm3 hS3 hcl c0 c1 c2 cm2 cm3
        refine hK _ _ ?_
        clear hK K
        refine planT_done ?_
        go_wp2_with fail
        go_roundw
        case rel => exact ⟨i + 1, by omega, by go_num, HF.out⟩
        case measure => simp [intOf]; omega
      by_cases q4 : f0 = kPiece ∧ n7 = 4 ∧ np ≠ 0
      · obtain ⟨q0, rfl, qn⟩ := q4
        have e0 : (strOf f0).toList = [112, 105, 101, 99, 101] := by rw [strOf_toList, q0]; rfl
        have hn := H.out.2.2.2.2.2.1
        have hnps := HW.out.2.2.2.2.2.2
        obtain ⟨ps0, ⟨l, u⟩, hps⟩ : ∃ ps0 p, ps = ps0 ++ [p] := by
          rcases List.eq_nil_or_concat ps with h | ⟨a, b, h⟩
          · exact absurd (by rw [hnps, h]; rfl) qn
          · exact ⟨a, b, by rw [h, List.concat_eq_append]⟩
        subst hps
        obtain ⟨k, hk⟩ : ∃ k, k = ps0.length := ⟨_, rfl⟩
        have hlen : np = k + 1 := by rw [hnps, List.length_append, List.length_singleton, hk]
        subst hlen
        have own2 := H.out.1.quiet ((Mod.refl (fun _ => False) w2).drew)
        obtain ⟨g, cap, cur, hv, hg, hgb, hcap1, _, hcs, _⟩ := own_some own2.row (by simp)
        injection hv with hA h1 h2
        subst hA
        subst h2
        have hre : m.rends = ps0.map Prod.fst ++ [l] := by rw [← H.out.1.rends]; simp
        have hlm : l ∈ m.rends := by rw [hre]; simp
        have hok := H.out.1.ok l hlm
        have hcl0 := cnt_in hlm
        have hlc : l.pieces.length < 1048576 := by have := HW.out.2.2.1; omega
        obtain ⟨Au, cu, hu0⟩ := own_shape (H.out.1.pcs (l, u) (by simp))
        obtain ⟨nq, hnq⟩ : ∃ nq, nq = l.pieces.length := ⟨_, rfl⟩
        dsimp only at hu0
        rw [← hnq] at hu0
        subst hu0
        obtain ⟨f1, hf1⟩ : ∃ y, f[1]? = some y := ⟨_, List.getElem?_eq_getElem (by omega)⟩
        obtain ⟨f2, hf2⟩ : ∃ y, f[2]? = some y := ⟨_, List.getElem?_eq_getElem (by omega)⟩
        obtain ⟨f3, hf3⟩ : ∃ y, f[3]? = some y := ⟨_, List.getElem?_eq_getElem (by omega)⟩
        have hrow := H.out.2.1.quiet ((Mod.refl (fun _ => False) w2).drew)
        have c1 := hrow.cell hf1
        have c2 := hrow.cell hf2
        have c3 := hrow.cell hf3
        have cm3 := own2.blk.cell 2
        have L1 := Lib.hid (Nat.le_trans (hfl f1 (List.mem_of_getElem? hf1)) (show 500000 ≤ 9223372036854775807 by decide))
        have L2 := Lib.hid (Nat.le_trans (hfl f2 (List.mem_of_getElem? hf2)) (show 500000 ≤ 9223372036854775807 by decide))
        have L3 := Lib.hid (Nat.le_trans (hfl f3 (List.mem_of_getElem? hf3)) (show 500000 ≤ 9223372036854775807 by decide))
        have hstep : stepO numR (cutL 32 x) m = some { m with rends := onLast (fun l => { l with pieces := l.pieces ++ [⟨numF 0 0 f1, numF 0 0 f2, f3⟩] }) m.rends } := by
          rw [← H.out.2.2.2.1, step_piece (q0 ▸ H.out.2.2.2.2.1) hn (by rw [hre]; simp) hf1 hf2 hf3 (numR_is f1) (numR_is f2)]
          rfl
        have fr2 := H.out.2.2.1.quiet ((Mod.refl (fun _ => False) w2).drew)
        have hup : w2.drew.ownsRow w.heap.size 32 3 (.slice Au nq cu) nq (l.pieces.flatMap pcV) := by have := own2.pcs (l, .slice Au nq cu) (by simp); unfold PcsOwn at this; rw [← hnq] at this; exact this
        have s7 : w2.drew.cell? ⟨g, k * 8 + 7, none⟩ = some (.slice Au nq cu) := by
          have := own2.cell7 (by rw [List.length_append, List.length_singleton, hk])
          rw [← hk] at this
          exact this
        have hcap : k * 8 + 7 < cur.size := by
          rw [hcs]
          rw [List.length_append, List.length_singleton, ← hk] at hcap1
          omega
        have hkk : (k : Int) < (k : Int) + 1 := by omega
        have hnq2 : nq < 1048576 := by rw [hnq]; exact hlc
        have hgs : w.heap.size ≤ w2.heap.size := Nat.le_trans HW.out.2.2.2.2.2.1.size H.out.2.2.1.size
        have HE := Lib.hid (And.intro hstep (And.intro own2 (And.intro fr2 (And.intro hgb (And.intro hg (And.intro hup (And.intro hok (And.intro hk (And.intro hre (And.intro s7 (And.intro hnq hgs)))))))))))
        clear q0 hfl cB hrow hstep own2 fr2 hgb hg hup hok hk hre hlm q1 q2 q3 h1 hcap1 hcs qn hnps hnr hcl0 hlc hnq hgs
        go_upto_region 16 with (fail)
        refine wp_region_planT [21, 22, 25] [0, 1, 2, 3, 4, 5, 6, 7, 8] (9 :: 10 :: 11 :: 12 :: 13 :: 14 :: 15 :: 16 :: 17 :: 18 :: 19 :: 20 :: 0 :: 1 :: 2 :: 3 :: 4 :: 5 :: 6 :: 7 :: 8 :: 21 :: 22 :: 23 :: 24 :: 25 :: []) (fun w' => Blk w' (w.heap.size + 1) 24 #[.int .i64 m.scale, .int .i64 m.tick, .slice (some ⟨g, 0, none⟩) (k + 1) c] ∧ w'.cell? ⟨g, k * 8 + 7, none⟩ = some (.slice Au nq cu)) (by kernel_rfl) (by kernel_rfl) (fun _ _ _ d _ h => by cases d <;> exact h) ⟨HE.out.2.1.blk, s7⟩ ?_
        iterate 3 (refine planT_still rfl rfl (fun K hK => ?_); go_simp; refine hK _ ?_; clear hK K)
        refine planT_still rfl rfl (fun K hK => ?_); go_simp; refine ⟨_, (rNumber _ f1 L1.out).mono (fun _ _ ⟨a, b⟩ => ⟨a, b.symm⟩), hK _ ?_⟩; clear hK K
        iterate 3 (refine planT_still rfl rfl (fun K hK => ?_); go_simp; refine hK _ ?_; clear hK K)
        refine planT_still rfl rfl (fun K hK => ?_); go_simp; refine ⟨_, (rNumber _ f2 L2.out).mono (fun _ _ ⟨a, b⟩ => ⟨a, b.symm⟩), hK _ ?_⟩; clear hK K
        iterate 4 (refine planT_still rfl rfl (fun K hK => ?_); go_simp; refine hK _ ?_; clear hK K)
        refine planT_read (v := .pointer (some ⟨w.heap.size + 1, 2, none⟩)) rfl rfl rfl (fun _ _ => rfl) (fun K hK => ?_); go_simp; refine hK _ ?_; clear hK K
        refine planT_read (v := .slice (some ⟨g, 0, none⟩) (k + 1) c) rfl rfl rfl (fun w' hS => ?_) (fun K hK => ?_)
        · have cS := hS.1.cell 2
          go_simp
        go_simp
        refine hK _ ?_
        clear hK K
        refine planT_read (v := .int .i64 (k : Int)) rfl rfl rfl (fun _ _ => rfl) (fun K hK => ?_); go_simp; refine hK _ ?_; clear hK K
        refine planT_read (v := .pointer (some ⟨w.heap.size + 1, 2, none⟩)) rfl rfl rfl (fun _ _ => rfl) (fun K hK => ?_); go_simp; refine hK _ ?_; clear hK K
        refine planT_read (v := .slice (some ⟨g, 0, none⟩) (k + 1) c) rfl rfl rfl (fun w' hS => ?_) (fun K hK => ?_)
        · have cS := hS.1.cell 2
          go_simp
        go_simp
        refine hK _ ?_
        clear hK K
        refine planT_read (v := .int .i64 (k : Int)) rfl rfl rfl (fun _ _ => rfl) (fun K hK => ?_); go_simp; refine hK _ ?_; clear hK K
        refine planT_read (v := .pointer (some ⟨g, k * 8, none⟩)) rfl rfl rfl (fun w' hS => ?_) (fun K hK => ?_)
        · clear hS
          go_simp
        go_simp
        refine hK _ ?_
        clear hK K
        refine planT_read (v := .pointer (some ⟨g, k * 8 + 7, none⟩)) rfl rfl rfl (fun _ _ => rfl) (fun K hK => ?_); go_simp; refine hK _ ?_; clear hK K
        refine planT_read (v := .slice Au nq cu) rfl rfl rfl (fun w' hS => ?_) (fun K hK => ?_)
        · have cS := hS.2
          go_simp
        go_simp
        refine hK _ ?_
        clear hK K
        refine planT_loud rfl rfl (fun K hK => ?_)
        go_simp
        refine hK _ _ ⟨HE.out.2.1.blk.alloc _, (cellq ((Mod.refl (fun _ => False) w2.drew).alloc _) HE.out.2.2.2.1.lt).trans HE.out.2.2.2.2.2.2.2.2.2.1⟩ ?_
        clear hK K
        refine planT_loud rfl rfl (fun K hK => ?_)
        obtain ⟨i0, hi0, hz0, hz1, hz2⟩ := info_parts pc_info
        refine step_append_src _ rfl (.tmp 128) (.tmp 141) 33 rfl w.heap.size 32 i0 _ 3 32 Tryd.underlying33 hi0 hz0 hz1 hz2 rfl (by omega) (.slice Au nq cu) nq (l.pieces.flatMap pcV) rfl (own_mod HE.out.2.2.2.2.2.1 ((Mod.refl (fun _ => False) w2.drew).alloc _) (fun _ _ h => h)) (some ⟨w2.heap.size, 0, none⟩) 1 1 (pcV ⟨numF 0 0 f1, numF 0 0 f2, f3⟩) rfl (Src.new w2.drew 32 (pcV ⟨numF 0 0 f1, numF 0 0 f2, f3⟩)) (fun h => by cases h) (pcV_one _) (by unfold maxLen; omega) (by omega) (by have := HE.out.2.2.2.2.2.2.2.2.2.2.2; show w.heap.size ≤ (w2.alloc _).heap.size; rw [World.size_alloc]; omega) ?_
        intro u' w5 h1 h2 h3
        have hM5 : Mod (fun j => (Value.slice Au nq cu).ownBlock = some j) w2.drew w5 := ((Mod.refl _ _).alloc _).grown h2 (fun k hk => .inl hk)
        obtain ⟨A6, n6, c6, rfl⟩ := own_form h1
        have hgn : (Value.slice Au nq cu).ownBlock ≠ some g := own_ne_blk HE.out.2.2.2.2.2.1 HE.out.2.2.2.1 (by decide)
        have hgb5 := HE.out.2.2.2.1.keep hM5 hgn
        have mb5 := HE.out.2.1.blk.keep hM5 (own_ne_blk HE.out.2.2.2.2.2.1 HE.out.2.1.blk (by decide))
        have gc : w5.cell? ⟨g, k * 8 + 7, none⟩ = some (.slice Au nq cu) := by
          rw [hgb5.cell, ← HE.out.2.2.2.1.cell]
          exact HE.out.2.2.2.2.2.2.2.2.2.1
        have gf := hgb5.frozen
        have hm6 : Mod (· = g) w5 (w5.setCell ⟨g, k * 8 + 7, none⟩ (.slice A6 n6 c6)) := (Mod.refl (· = g) w5).setCell (p := ⟨g, k * 8 + 7, none⟩) (.inl rfl) _
        have hM6 : Mod (fun j => j = g ∨ (Value.slice Au nq cu).ownBlock = some j) w2.drew (w5.setCell ⟨g, k * 8 + 7, none⟩ (.slice A6 n6 c6)) := (hM5.mono (fun _ h => .inr h)).trans (hm6.mono (fun _ h => .inl h))
        have hgb6 : Blk (w5.setCell ⟨g, k * 8 + 7, none⟩ (.slice A6 n6 c6)) g 35 (splice cur.toList (ps0.length * 8 + 7) [.slice A6 n6 c6]).toArray := by
          rw [← HE.out.2.2.2.2.2.2.2.1, ← set_splice hcap]
          exact hgb5.set_ _ _
        have hrow6 : PcsOwn (w5.setCell ⟨g, k * 8 + 7, none⟩ (.slice A6 n6 c6)) w.heap.size (.slice A6 n6 c6) (l.pieces ++ [⟨numF 0 0 f1, numF 0 0 f2, f3⟩]) := by
          have h4 := own_mod h1 hm6 (fun j hj e => own_ne_blk h1 hgb5 (by decide) (by rw [hj, e]))
          unfold PcsOwn
          rw [List.length_append, List.length_singleton, List.flatMap_append, List.flatMap_singleton, ← HE.out.2.2.2.2.2.2.2.2.2.2.1]
          exact h4
        have own6 := HE.out.2.1.last_ (l' := { l with pieces := l.pieces ++ [⟨numF 0 0 f1, numF 0 0 f2, f3⟩] }) (u' := .slice A6 n6 c6) (i := 7) (cells := [.slice A6 n6 c6]) HE.out.2.2.2.1 rfl (by simp) hgb6 _ hM6 (fun _ h => h) hrow6
          (fun j hj => by
            rcases h3 with h3 | h3
            · exact .inl (h3 ▸ hj)
            · rw [h3] at hj
              injection hj with hj
              refine .inr ?_
              have h5 : (w2.drew.alloc (.cells (pcV ⟨numF 0 0 f1, numF 0 0 f2, f3⟩).toArray 32)).heap.size = w2.drew.heap.size + 1 := World.size_alloc _ _
              have h6 : (w2.drew.alloc (.cells (pcV ⟨numF 0 0 f1, numF 0 0 f2, f3⟩).toArray 32)).heap.size = j := hj
              omega)
          ⟨⟨HE.out.2.2.2.2.2.2.1.1.1, HE.out.2.2.2.2.2.2.1.1.2.1, HE.out.2.2.2.2.2.2.1.1.2.2.1, HE.out.2.2.2.2.2.2.1.1.2.2.2.1, HE.out.2.2.2.2.2.2.1.1.2.2.2.2.1, by show (l.pieces ++ [_]).length ≤ 9223372036854775807; rw [List.length_append, List.length_singleton, ← HE.out.2.2.2.2.2.2.2.2.2.2.1]; omega⟩, pcsOk_snoc HE.out.2.2.2.2.2.2.1.2 ⟨num_i64 _, num_i64 _, L3.out⟩ (by rw [← HE.out.2.2.2.2.2.2.2.2.2.2.1]; exact hnq2)⟩
        rw [onLast_is (fun l => { l with pieces := l.pieces ++ [⟨numF 0 0 f1, numF 0 0 f2, f3⟩] }) HE.out.2.2.2.2.2.2.2.2.1] at own6
        have fr6 := HE.out.2.2.1.step hM6 (fun i e => by
          rcases e with e | e
          · subst e
            exact .inr (.inr ⟨HE.out.2.2.2.2.1, _, _, HE.out.2.2.2.1, rfl⟩)
          · obtain ⟨h1, cs, h2⟩ := own_blk HE.out.2.2.2.2.2.1 e
            exact .inr (.inr ⟨h1, _, cs, h2, rfl⟩))
        have hcl : cnt { m with rends := onLast (fun l => { l with pieces := l.pieces ++ [⟨numF 0 0 f1, numF 0 0 f2, f3⟩] }) m.rends } ≤ cnt m + 1 := by
          rw [← onLast_is (fun l => { l with pieces := l.pieces ++ [⟨numF 0 0 f1, numF 0 0 f2, f3⟩] }) HE.out.2.2.2.2.2.2.2.2.1]
          exact cnt_last HE.out.2.2.2.2.2.2.2.2.1 (by show (l.pieces ++ [_]).length ≤ _; rw [List.length_append, List.length_singleton]; omega)
        have HF := Lib.hid (PaSt.step H.out.2.2.2.2.2.2.1 HW.out.1 HW.out.2.2.1 HW.out.2.1.blk HW.out.2.2.2.1 HW.out.2.2.2.2.1 HW.out.2.2.2.2.2.1 own6 fr6 HE.out.1 hcl)
        refine hK _ _ ⟨mb5, gc⟩ ?_
        clear hK K
        clear own6 fr6 h1 h2 h3 hM5 hgb5 mb5 i0 hi0 hz0 hz1 hz2 hm6 hM6 hgb6 hrow6 hcl hgn c0 c1 c2 c3 cm2 cm3 s7
        iterate 2 (refine planT_still rfl rfl (fun K hK => ?_); go_simp; refine hK _ ?_; clear hK K)
        refine planT_last (by kernel_rfl) rfl (fun K hK => ?_)
        go_simp
        refine hK _ _ ?_
        clear hK K
        refine planT_done ?_
        go_wp2_with fail
        go_roundw
        case rel => exact ⟨i + 1, by omega, by go_num, HF.out⟩
        case measure => simp [intOf]; omega
      have hso : stepO numR (cutL 32 x) m = some m := by
        rw [← H.out.2.2.2.1]
        have hn := H.out.2.2.2.2.2.1
        have hpr := H.out.2.2.2.2.2.2.2.1
        exact step_else H.out.2.2.2.2.1 (by rw [hn]; exact q1) (by rw [hn]; exact q2) (by rw [hn]; exact fun h => q3 ⟨h.1, h.2.1, fun e => h.2.2 (hpr.1 e)⟩) (by rw [hn]; exact fun h => q4 ⟨h.1, h.2.1, fun e => h.2.2 (hpr.1 e)⟩)
      have HF := Lib.hid (PaSt.step H.out.2.2.2.2.2.2.1 HW.out.1 HW.out.2.2.1 HW.out.2.1.blk HW.out.2.2.2.1 HW.out.2.2.2.2.1 HW.out.2.2.2.2.2.1 H.out.1 H.out.2.2.1 hso (Nat.le_succ _))
      clear hso hfl cB
      go_wp2_with fail
      all_goals first
        | (go_roundw
           · exact ⟨i + 1, by omega, by go_num, HF.out⟩
           · simp [intOf]; omega)
        | (exfalso
           simp only [beq_iff_eq, strOf_toList] at *
           first
             | exact q1 ⟨(by assumption : f0 = [115, 99, 97, 108, 101]), by omega⟩
             | exact q2 ⟨(by assumption : f0 = [114, 101, 110, 100, 105, 116, 105, 111, 110]), by omega⟩
             | exact q3 ⟨(by assumption : f0 = [105, 110, 105, 116]), by omega, by omega⟩
             | exact q4 ⟨(by assumption : f0 = [112, 105, 101, 99, 101]), by omega, by omega⟩)
    · obtain rfl : i = n5 := by omega
      have d0 : decide ((i : Int) < (i : Int)) = false := decide_eq_false (by omega)
      have hpo : parseO numR s = if rightB m = true ∧ writeL m = s then some m else none := by
        have h1 := HW.out.1
        rw [← hn5, List.take_length] at h1
        unfold parseO
        rw [h1]
        rfl
      have hpc : (pathsR m.rends).length ≤ 1000000 := by
        rw [paths_cnt]
        have h1 := HW.out.2.2.1
        unfold cnt at h1
        omega
      go_wp2_with fail
      refine (rWrite _ m A np c hman.in_ hpc).mono ?_
      rintro e w2 ⟨rfl, hm2⟩
      have hr2 := HW.out.2.2.2.2.1.keep hm2 (fun h => h)
      have own2 := HW.out.2.1.quiet hm2
      obtain ⟨rc, rf⟩ := hr2.both
      have mc2 := own2.blk.cell
      have hmS : ∀ a b v, Mod (· = w.heap.size) w2 (((w2.setCell ⟨w.heap.size, 0, none⟩ a).setCell ⟨w.heap.size, 1, none⟩ b).setCell ⟨w.heap.size, 2, none⟩ v) := fun a b v => (((Mod.refl (· = w.heap.size) w2).setCell (p := ⟨w.heap.size, 0, none⟩) (.inl rfl) _).setCell (p := ⟨w.heap.size, 1, none⟩) (.inl rfl) _).setCell (p := ⟨w.heap.size, 2, none⟩) (.inl rfl) _
      have hbS : ∀ a b v, Blk (((w2.setCell ⟨w.heap.size, 0, none⟩ a).setCell ⟨w.heap.size, 1, none⟩ b).setCell ⟨w.heap.size, 2, none⟩ v) w.heap.size 24 #[a, b, v] := fun a b v => ((hr2.put (i := 0) (u := a) (cs' := #[a, .int .i64 0, .slice none 0 0]) rfl).put (i := 1) (u := b) (cs' := #[a, b, .slice none 0 0]) rfl).put (i := 2) (u := v) (cs' := #[a, b, v]) rfl
      have hmW : ∀ a b v, Mod (fun _ => False) w (((w2.setCell ⟨w.heap.size, 0, none⟩ a).setCell ⟨w.heap.size, 1, none⟩ b).setCell ⟨w.heap.size, 2, none⟩ v) := fun a b v => (HW.out.2.2.2.2.2.1.trans hm2).into (hmS a b v) (fun i e => .inr (by omega))
      have hin2 : ∀ a b v, MfIn (((w2.setCell ⟨w.heap.size, 0, none⟩ a).setCell ⟨w.heap.size, 1, none⟩ b).setCell ⟨w.heap.size, 2, none⟩ v) A np m := fun a b v => (own2.other (hmS a b v) hr2 rfl (by omega)).in_
      by_cases hrb : rightB m = true
      · have hwo : writeOut m = #[.string (strOf (writeL m)), .int .i64 0] := by unfold writeOut; rw [if_pos hrb]
        rw [hwo]
        clear hwo
        by_cases hws : writeL m = s
        · rw [if_pos ⟨hrb, hws⟩] at hpo
          have hse : (strOf (writeL m)).toList = (strOf s).toList := by rw [hws]
          have HE := Lib.hid (And.intro hpo (And.intro hbS (And.intro hmW hin2)))
          clear hr2 hm2 hpo own2 hws hrb hmS hbS hmW hin2 hman cB
          go_wp2_with fail
          refine bodyPost_ret (v := .tuple #[.agg #[.int .i64 m.scale, .int .i64 m.tick, .slice A np c], .int .i64 0]) ?_ rfl ⟨HE.out.2.2.1 _ _ _, .inr ⟨m, A, np, c, HE.out.1, rfl, HE.out.2.2.2 _ _ _⟩⟩
          have r0 := (HE.out.2.1 (.int .i64 m.scale) (.int .i64 m.tick) (.slice A np c)).cell
          have s0 := r0 0
          have s1 := r0 1
          have s2 := r0 2
          simp [results, Tryd.f20, go_sem, s0, s1, s2]
        · rw [if_neg (fun h => hws h.2)] at hpo
          have hse : ((strOf (writeL m)).toList == (strOf s).toList) = false := by rw [strOf_toList, strOf_toList]; exact beq_eq_false_iff_ne.2 hws
          have HE := Lib.hid (And.intro hpo (And.intro hbS hmW))
          clear hr2 hm2 hpo own2 hws hrb hmS hbS hmW hin2 hman cB
          go_wp2_with fail
          refine bodyPost_ret (v := .tuple #[.agg #[.int .i64 0, .int .i64 0, .slice none 0 0], .int .i64 181]) ?_ rfl ⟨HE.out.2.2 _ _ _, .inl ⟨HE.out.1, rfl⟩⟩
          have r0 := (HE.out.2.1 (.int .i64 0) (.int .i64 0) (.slice none 0 0)).cell
          have s0 := r0 0
          have s1 := r0 1
          have s2 := r0 2
          simp [results, Tryd.f20, go_sem, s0, s1, s2]
      · have hwo : writeOut m = #[.string (strOf []), .int .i64 181] := by unfold writeOut; rw [if_neg hrb]
        rw [hwo]
        clear hwo
        rw [if_neg (fun h => hrb h.1)] at hpo
        have HE := Lib.hid (And.intro hpo (And.intro hbS hmW))
        clear hr2 hm2 hpo own2 hrb hmS hbS hmW hin2 hman cB
        go_wp2_with fail
        refine bodyPost_ret (v := .tuple #[.agg #[.int .i64 0, .int .i64 0, .slice none 0 0], .int .i64 181]) ?_ rfl ⟨HE.out.2.2 _ _ _, .inl ⟨HE.out.1, rfl⟩⟩
        have r0 := (HE.out.2.1 (.int .i64 0) (.int .i64 0) (.slice none 0 0)).cell
        have s0 := r0 0
        have s1 := r0 1
        have s2 := r0 2
        simp [results, Tryd.f20, go_sem, s0, s1, s2]
end Go.Proofs.YtkobngipbhjfjaaDoor
