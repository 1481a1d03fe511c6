/-
  strings.SplitSeq at one byte.
-/
import Derived.Test.YtkobngipbhjfjaaDoorMfRange
import Derived.Shelf.Abstract
import Derived.WalkKit
import Derived.OwnWalkIn
import Derived.TacticsInMore
import Derived.LoopNIn
import Derived.LoopIn
namespace Go.Proofs.YtkobngipbhjfjaaDoor
open Go.RowKit Go.Shelf
attribute [local go_sem] Oper.semAt_some

theorem cut_head (a r : Str) : (strOf (a ++ 10 :: r)).extract 0 a.length = strOf a := by
  rw [← strOf_of ((strOf (a ++ 10 :: r)).extract 0 a.length), Lib.extract_from_zero, strOf_data, List.take_left]
theorem cut_tail (a r : Str) (R : Nat) (h : R = (a ++ 10 :: r).length) : (strOf (a ++ 10 :: r)).extract (a.length + 1) R = strOf r := by
  rw [← strOf_of ((strOf (a ++ 10 :: r)).extract (a.length + 1) R), h, ← strOf_size (a ++ 10 :: r), Lib.extract_to_end, strOf_data, ← List.drop_drop, List.drop_left]
  rfl
def strLen (sb : Nat) (w : World) : Nat := match w.cell? ⟨sb, 0, none⟩ with
  | some (.string b) => b.size
  | _ => 0
def SqRel (s : Str) (sb pb vb : Nat) (J : List Str → World → Prop) (wr : World) : Prop :=
  ∃ pre r, cutL 10 s = pre ++ cutL 10 r ∧ r.length ≤ s.length ∧ Blk wr sb 9 #[.string (strOf r)] ∧ Blk wr pb 9 #[.string (strOf [10])] ∧ Blk wr vb 3 #[.int .i64 0] ∧ J pre wr
set_option maxRecDepth 100000 in
set_option maxHeartbeats 4000000 in
theorem splitIter (n : Nat) (h1 : 1 ≤ n) (w : World) (s : Str) (sb pb vb : Nat) (hl : s.length ≤ 1048576) (hs : Blk w sb 9 #[.string (strOf s)]) (hp : Blk w pb 9 #[.string (strOf [10])]) (hv : Blk w vb 3 #[.int .i64 0]) (hsp : sb ≠ pb) (hsv : sb ≠ vb) :
    IterC Tryd.prog n 61 #[.pointer (some ⟨pb, 0, none⟩), .pointer (some ⟨sb, 0, none⟩), .pointer (some ⟨vb, 0, none⟩)] (fun x => #[.string (strOf x)]) sb (Keep3 sb pb vb) (fun xs => xs <+: cutL 10 s) (fun xs => xs = cutL 10 s) w := by
  intro l J Jx W hW hJE hJs hY h0
  have hs1 := hs.below hW hs.lt
  have hp1 := hp.below hW hp.lt
  have hv1 := hv.below hW hv.lt
  have hz : (strOf [10]).size = 1 := rfl
  refine callsIn_of_wp Tryd.func61 rfl trivial ?_ rfl
  simp only [Tryd.ntmps61, List.size_toArray, List.length_cons, List.length_nil, Nat.reduceAdd, Nat.reduceSub, Array.replicate_succ, Array.replicate_zero, List.push_toArray, List.append_toArray, List.nil_append, List.cons_append]
  have cp := hp1.cell 0
  have HS := Lib.hid (And.intro hs1 (And.intro hp1 hv1))
  clear hs1 hp1 hv1 hs hp hv
  gi_wp2_with fail
  gi_loopw [7] (fun _ wr => SqRel s sb pb vb J wr) (fun _ wr => strLen sb wr)
  case atStart => exact ⟨[], s, rfl, Nat.le_refl _, HS.out.1, HS.out.2.1, HS.out.2.2, h0⟩
  case round =>
    clear HS cp
    obtain ⟨pre, r, hcut, hrl, hsb, hpb, hvb, hJ⟩ := hrel
    have cs := hsb.cell 0
    have cp := hpb.cell 0
    have cv := hvb.cell 0
    have hrz := strOf_size r
    rcases cut_or 10 r with hno | ⟨a, r', rfl, ha⟩
    · have HK := Lib.hid (And.intro hcut (And.intro hno hJ))
      clear hcut hno hJ
      gi_wp2_with fail
      refine ⟨trivial, (callsIn_wide.2 (cIndex wr 10 r (by omega) (hJE _ _ HK.out.2.2))).mono ?_⟩
      rintro e w2 ⟨rfl, rfl⟩
      rw [index_one_none HK.out.2.1]
      obtain ⟨fn, tmps, assign, body, hy, hR⟩ := hY pre r w2 HK.out.2.2 ⟨[], by rw [HK.out.1, cutL_none HK.out.2.1, List.append_nil]⟩
      gi_wp2_with fail
      refine hR.mono ?_
      have hfin : pre ++ [r] = cutL 10 s := by rw [HK.out.1, cutL_none HK.out.2.1]
      rintro e w3 (⟨rfl, hJ3, hk3⟩ | ⟨rfl, hJx3⟩)
      · have H3 := Lib.hid (And.intro hJ3 hfin)
        clear hJ3 hfin hk3
        gi_wp2_with fail
        go_end0
        exact ⟨⟨_, rfl⟩, .inl ⟨_, H3.out.2, H3.out.1⟩⟩
      · gi_wp2_with fail
        go_end0
        exact ⟨⟨_, rfl⟩, .inr hJx3⟩
    · have hla : a.length + 1 + r'.length = (a ++ 10 :: r').length := by rw [List.length_append, List.length_cons]; omega
      obtain ⟨R, hR0⟩ : ∃ R, R = (a ++ 10 :: r').length := ⟨_, rfl⟩
      rw [← hR0] at hla hrz hrl
      have HK := Lib.hid (And.intro hcut (And.intro ha (And.intro hJ (And.intro hsb (And.intro hpb (And.intro hvb hR0))))))
      clear hcut ha hJ hR0 hsb hpb hvb
      gi_wp2_with fail
      refine ⟨trivial, (callsIn_wide.2 (cIndex wr 10 (a ++ 10 :: r') (by rw [← HK.out.2.2.2.2.2.2]; omega) (hJE _ _ HK.out.2.2.1))).mono ?_⟩
      rintro e w2 ⟨rfl, rfl⟩
      rw [index_one_app r' HK.out.2.1]
      obtain ⟨fn, tmps, assign, body, hy, hR⟩ := hY pre a w2 HK.out.2.2.1 ⟨cutL 10 r', by rw [HK.out.1, cutL_app r' HK.out.2.1]; simp⟩
      rw [← cut_head a r'] at hy
      have dn : decide ((a.length : Int) < 0) = false := decide_eq_false (by omega)
      gi_wp2_with fail
      refine hR.mono ?_
      rintro e w3 (⟨rfl, hJ3, hk3⟩ | ⟨rfl, hJx3⟩)
      · have hsb3 : Blk w3 sb 9 #[.string (strOf (a ++ 10 :: r'))] := hk3.1.trans HK.out.2.2.2.1
        have hpb3 : Blk w3 pb 9 #[.string (strOf [10])] := hk3.2.1.trans HK.out.2.2.2.2.1
        have hvb3 : Blk w3 vb 3 #[.int .i64 0] := hk3.2.2.trans HK.out.2.2.2.2.2.1
        have s3 := hsb3.cell 0
        have g3 := hsb3.frozen 0
        have p3 := hpb3.cell 0
        have H3 := Lib.hid (And.intro hJ3 (And.intro hsb3 (And.intro hpb3 hvb3)))
        clear hJ3 hsb3 hpb3 hvb3 hk3 hy hR cs cp cv
        gi_wp2_with fail
        rw [cut_tail a r' R HK.out.2.2.2.2.2.2]
        have hput : Blk (w3.setCell ⟨sb, 0, none⟩ (.string (strOf r'))) sb 9 #[.string (strOf r')] := H3.out.2.1.put rfl
        refine ⟨⟨pre ++ [a], r', ?_, by omega, hput, H3.out.2.2.1.far (p := ⟨sb, 0, none⟩) (Ne.symm hsp) _, H3.out.2.2.2.far (p := ⟨sb, 0, none⟩) (Ne.symm hsv) _, hJs _ _ _ H3.out.1⟩, ?_⟩
        · rw [HK.out.1, cutL_app r' HK.out.2.1]
          simp
        · unfold strLen
          rw [hput.cell 0, HK.out.2.2.2.1.cell 0]
          show (strOf r').size < (strOf (a ++ 10 :: r')).size
          rw [strOf_size, hrz]
          omega
      · clear hy hR cs cp cv
        gi_wp2_with fail
        refine bodyPost_ret (results_none rfl _ _ _) rfl ?_
        exact ⟨⟨_, rfl⟩, .inr hJx3⟩
set_option maxHeartbeats 1000000 in
theorem pSeq0 (w : World) (s t : ByteArray) : Calls Tryd.prog 53 #[.string s, .string t, .int .i64 0] w fun e w' => e = .returned (.func (.func 61) #[] #[.pointer (some ⟨w.heap.size + 1, 0, none⟩), .pointer (some ⟨w.heap.size, 0, none⟩), .pointer (some ⟨w.heap.size + 1 + 1, 0, none⟩)]) ∧ w' = ((w.alloc (.cells #[.string s] 9)).alloc (.cells #[.string t] 9)).alloc (.cells #[.int .i64 0] 3) := by
  go_enter Tryd.func53, Tryd.ntmps53
  go_wp2_with fail
  go_ret
  exact ⟨rfl, rfl⟩
set_option maxHeartbeats 1000000 in
theorem pSeq (w : World) (s t : ByteArray) : Calls Tryd.prog 37 #[.string s, .string t] w fun e w' => e = .returned (.func (.func 61) #[] #[.pointer (some ⟨w.heap.size + 1, 0, none⟩), .pointer (some ⟨w.heap.size, 0, none⟩), .pointer (some ⟨w.heap.size + 1 + 1, 0, none⟩)]) ∧ w' = ((w.alloc (.cells #[.string s] 9)).alloc (.cells #[.string t] 9)).alloc (.cells #[.int .i64 0] 3) := by
  go_enter Tryd.func37, Tryd.ntmps37
  go_wp2_with fail
  refine (pSeq0 w s t).mono ?_
  rintro e w1 ⟨rfl, rfl⟩
  go_wp2_with fail
  go_ret
  exact ⟨rfl, rfl⟩
end Go.Proofs.YtkobngipbhjfjaaDoor
