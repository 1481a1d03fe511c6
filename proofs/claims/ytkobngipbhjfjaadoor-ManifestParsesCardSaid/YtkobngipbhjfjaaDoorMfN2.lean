/-
  The reference's Cut, walked.
-/
import Derived.Test.YtkobngipbhjfjaaDoorMfR3
import Derived.Test.YtkobngipbhjfjaaDoorMfR7
import Derived.Test.YtkobngipbhjfjaaDoorMfParse
namespace Go.Proofs.YtkobngipbhjfjaaDoor
open Go.RowKit

theorem cutL_at {c : UInt8} : ∀ (t : Str), cutL c (t ++ [c]) = cutL c t ++ [[]]
  | [] => by simp [cutL]
  | x :: t => by
    have ih := cutL_at (c := c) t
    rw [List.cons_append, cutL, cutL]
    by_cases hx : x = c
    · rw [if_pos hx, if_pos hx, ih]
      rfl
    · rw [if_neg hx, if_neg hx, ih]
      cases hq : cutL c t with
      | nil => exact absurd hq (cutL_ne c t)
      | cons p ps => rfl
theorem cutL_more {c b : UInt8} (hb : b ≠ c) : ∀ (t : Str) (pre : List Str) (z : Str), cutL c t = pre ++ [z] → cutL c (t ++ [b]) = pre ++ [z ++ [b]]
  | [], pre, z, h => by
    cases pre with
    | nil =>
      simp [cutL] at h
      subst h
      simp [cutL, hb]
    | cons q qs =>
      have := congrArg List.length h
      simp [cutL] at this
  | x :: t, pre, z, h => by
    rw [List.cons_append, cutL]
    rw [cutL] at h
    by_cases hx : x = c
    · rw [if_pos hx] at h ⊢
      cases pre with
      | nil =>
        have h2 := congrArg List.tail h
        exact absurd h2 (cutL_ne c t)
      | cons q qs =>
        rw [List.cons_append] at h ⊢
        injection h with h1 h2
        rw [cutL_more hb t qs z h2, h1]
    · rw [if_neg hx] at h ⊢
      cases hq : cutL c t with
      | nil => exact absurd hq (cutL_ne c t)
      | cons p ps =>
        rw [hq] at h
        cases pre with
        | nil =>
          simp only [List.nil_append] at h
          injection h with h1 h2
          subst h2
          subst h1
          rw [cutL_more hb t [] p (by rw [hq]; rfl)]
          rfl
        | cons q qs =>
          rw [List.cons_append] at h
          injection h with h1 h2
          subst h1
          rw [cutL_more hb t (p :: qs) z (by rw [hq, h2]; rfl)]
          rfl
theorem cutL_split (c : UInt8) (t : Str) : ∃ pre z, cutL c t = pre ++ [z] := by
  rcases List.eq_nil_or_concat (cutL c t) with h | ⟨p, z, h⟩
  · exact absurd h (cutL_ne c t)
  · exact ⟨p, z, by rw [h, List.concat_eq_append]⟩
theorem one_of (s : Str) {i : Nat} {b : UInt8} (h : s[i]? = some b) : (strOf s).extract i (i + 1) = strOf [b] := by
  obtain ⟨hlt, he⟩ := List.getElem?_eq_some_iff.1 h
  apply ByteArray.ext
  unfold strOf
  simp only [ByteArray.data_extract]
  apply Array.ext'
  simp only [Array.toList_extract, List.extract_eq_drop_take']
  rw [take_snoc h, List.drop_left' (by simp; omega)]
def CuRel (w : World) (s : Str) (c : UInt8) (v5 v6 : Value) (wr : World) : Prop := ∃ i : Nat, i ≤ s.length ∧ v6 = .int .i64 (i : Int) ∧ StrsOwn wr w.heap.size v5 (cutL c (s.take i)) ∧ Mod (fun _ => False) w wr
def CutPost (w : World) (s : Str) (c : UInt8) (e : Ending) (w' : World) : Prop := ∃ A n k, e = .returned (.slice A n k) ∧ StrsOwn w' w.heap.size (.slice A n k) (cutL c s) ∧ Mod (fun _ => False) w w'
theorem strsV_snoc (pre : List Str) (z : Str) : strsV (pre ++ [z]) = strsV pre ++ [.string (strOf z)] := by simp [strsV]
theorem cut_turn {w' : World} {B g n cap : Nat} {pre : List Str} {z z' : Str} {cur : Array Value} (hl : n = (pre ++ [z]).length) (hg : B ≤ g) (hb : Blk w' g 9 cur) (hn : n ≤ cap) (hc : cap ≤ maxLen) (hs : cur.size = cap * 1) (ht : cur.toList.take (n * 1) = strsV (pre ++ [z])) :
    StrsOwn (w'.setCell ⟨g, pre.length, none⟩ (.string (strOf z'))) B (.slice (some ⟨g, 0, none⟩) n cap) (pre ++ [z']) := by
  have hn1 : n = pre.length + 1 := by rw [hl]; simp
  have hb2 : Blk (w'.setCell ⟨g, pre.length, none⟩ (.string (strOf z'))) g 9 (splice cur.toList pre.length [.string (strOf z')]).toArray := by
    rw [← set_splice (by omega)]
    exact hb.put rfl
  have hx : (strsV (pre ++ [z])).length = n * 1 := by simp [strsV, hn1]
  have h := own_splice (w := w'.setCell ⟨g, pre.length, none⟩ (.string (strOf z'))) hx hg hb2 hn hc (by simpa using hs) ht (by rw [hx]; simp; omega)
  rw [strsV_snoc, show splice (strsV pre ++ [Value.string (strOf z)]) pre.length [Value.string (strOf z')] = strsV (pre ++ [z']) by
    rw [strsV_snoc]
    have := splice_at (strsV pre) [.string (strOf z)] [.string (strOf z')] 0
    rw [show (strsV pre).length + 0 = pre.length by simp [strsV]] at this
    rw [this]
    rfl] at h
  unfold StrsOwn
  rw [show (pre ++ [z']).length = n by rw [hn1]; simp]
  exact h
set_option maxRecDepth 100000 in
set_option maxHeartbeats 8000000 in
theorem rCut (w : World) (s : Str) (c : UInt8) (hs : s.length ≤ 1000000) : Calls Tryd.prog 40 #[.string (strOf s), .int .u8 (c.toNat : Int)] w (CutPost w s c) := by
  have hsz := strOf_size s
  have hcl := c.toNat_lt
  have hown0 : StrsOwn (w.alloc (.cells #[.string (strOf [])] 9)) w.heap.size (.slice (some ⟨w.heap.size, 0, none⟩) 1 1) (cutL c (s.take 0)) := by
    rw [List.take_zero]
    exact ⟨rfl, .inr ⟨w.heap.size, 1, _, rfl, Nat.le_refl _, Blk.new w 9 _, Nat.le_refl _, by decide, rfl, rfl⟩⟩
  have HO := Lib.hid hown0
  clear hown0
  go_enter Tryd.func40, Tryd.ntmps40
  go_wp2_with fail
  go_loopw [5, 6] (CuRel w s c) (fun _ b _ => s.length - (intOf b).toNat)
  case atStart => exact ⟨0, by omega, rfl, HO.out, (Mod.refl _ w).alloc _⟩
  case round =>
    rename World => wr
    obtain ⟨i, hi, rfl, hown, hM⟩ := hrel
    obtain ⟨A5, k5, hv5⟩ := own_shape hown
    obtain ⟨L, hL⟩ : ∃ L, L = (cutL c (s.take i)).length := ⟨_, rfl⟩
    rw [← hL] at hv5
    subst hv5
    have hcnt := cutL_count (c := c) (s.take i)
    rw [← hL, List.length_take] at hcnt
    by_cases hlt : i < s.length
    · have hc := getE hlt
      have d0 : decide ((i : Int) < (s.length : Int)) = true := decide_eq_true (by omega)
      have hx := run_index_strOf (P := Tryd.prog) (t := 9) s .i64 i _ Tryd.underlying9 hc
      generalize hcc : s[i] = b at hc hx
      have hbl := b.toNat_lt
      by_cases hbc : b = c
      · subst hbc
        have d1 : ((b.toNat : Int) == (b.toNat : Int)) = true := by simp
        have HI := Lib.hid (And.intro hown (And.intro hM (And.intro hc (And.intro hM.size hL))))
        clear hown hM hc hcc hL
        go_wp2_with (at_builtin; have _t := HI; refine wpList_app_str _ rfl (.tmp 19) (.tmp 20) rfl w.heap.size _ _ [] rfl rfl HI.out.1 HI.out.2.2.2.1 (by rw [← HI.out.2.2.2.2]; omega) ?_; intro v7 w7 hown7 hMo hM7 _; have HQ := Lib.hid (And.intro hown7 (hM7 w (fun _ => False) (Nat.le_refl _) HI.out.2.1)); clear hown7 hM7)
        go_roundw
        case rel => exact ⟨i + 1, by omega, by go_num, by rw [take_snoc HI.out.2.2.1, cutL_at]; exact HQ.out.1, HQ.out.2⟩
        case measure => simp [intOf]; omega
      · have d1 : ((b.toNat : Int) == (c.toNat : Int)) = false := by
          simp only [beq_eq_false_iff_ne]
          exact fun e => hbc (UInt8.toNat_inj.1 (by omega))
        obtain ⟨pre, z, hz⟩ := cutL_split c (s.take i)
        obtain ⟨p, hp⟩ : ∃ p, p = pre.length := ⟨_, rfl⟩
        have hLp : L = p + 1 := by rw [hL, hz, hp]; simp
        obtain ⟨g, cap, cur, hv, hg, hb, hcap, hmax, hsize, htake⟩ := own_some hown (by omega)
        injection hv with hA h1 h2
        subst hA
        subst h2
        clear h1
        rw [← hL, hz] at htake
        have hzl : z.length ≤ s.length := by
          have h3 := cutL_len (c := c) (s := s.take i) (x := z) (by rw [hz]; simp)
          rw [List.length_take] at h3
          omega
        subst hLp
        have hp6 : p ≤ 1000000 := by omega
        have hwp : IntKind.i64.wrap (p : Int) = (p : Int) := IntWalk.i64_in _ ⟨by omega, by omega⟩
        have hwi : IntKind.i64.wrap ((i : Int) + 1) = ((i + 1 : Nat) : Int) := by rw [IntWalk.i64_in _ ⟨by omega, by omega⟩]; omega
        have hwi1 : (0 : Int) ≤ (i : Int) + 1 := by omega
        have hwi2 : (i : Int) + 1 ≤ (s.length : Int) := by omega
        have hwi3 : (i : Int) ≤ (i : Int) + 1 := by omega
        have hp0 : (0 : Int) ≤ (p : Int) := by omega
        have hp1 : (p : Int) < (p : Int) + 1 := by omega
        have hx2 := one_of s hc
        have q0 : wr.drew.cell? ⟨g, p, none⟩ = some (.string (strOf z)) := by
          have h5 := hown.quiet ((Mod.refl (fun _ => False) wr).drew)
          rw [hz] at h5
          obtain ⟨g', hA', h6⟩ := StrsOwn.at_ h5 (i := p) (s := z) (by rw [hp]; simp)
          injection hA' with hA'
          injection hA' with hA'
          rw [hA']
          exact h6
        have hb2 := hb.drew
        have hfz := hb2.frozen p
        have HI := Lib.hid (And.intro hz (And.intro hM (And.intro hc (And.intro hb2 (And.intro hg (And.intro htake (And.intro hbc hp)))))))
        have HL2 := Lib.hid hL
        clear hown hM hc hcc hL hb hb2 hg htake hz hbc hp
        go_upto_region 7 with (fail)
        refine wp_region_planS [17] [] (0 :: 1 :: 2 :: 3 :: 4 :: 5 :: 6 :: 7 :: 8 :: 9 :: 10 :: 11 :: 12 :: 13 :: 14 :: 15 :: 16 :: 17 :: []) (fun _ => True) (by kernel_rfl) (by kernel_rfl) (fun _ _ _ d _ h => by cases d <;> exact h) trivial ?_
        iterate 15 (refine planS_still rfl rfl (fun K hK => ?_); go_simp; refine hK _ ?_; clear hK K)
        refine planS_cat rfl rfl rfl _ _ _ _ rfl _ _ rfl rfl (by simp <;> omega) ?_
        refine planS_still rfl rfl (fun K hK => ?_); go_simp; refine hK _ ?_; clear hK K
        refine planS_loud rfl rfl (fun K hK => ?_)
        go_simp
        refine hK _ _ trivial ?_
        clear hK K q0
        have hfin := cut_turn (z' := z ++ [b]) (show p + 1 = (pre ++ [z]).length by rw [HI.out.2.2.2.2.2.2.2]; simp) HI.out.2.2.2.2.1 HI.out.2.2.2.1 (by rw [HL2.out]; exact hcap) hmax hsize HI.out.2.2.2.2.2.1
        rw [← HI.out.2.2.2.2.2.2.2] at hfin
        have HF := Lib.hid hfin
        clear hfin
        refine planS_done ?_
        go_wp2_with fail
        go_roundw
        case rel =>
          refine ⟨i + 1, by omega, by go_num, ?_, ?_⟩
          · rw [take_snoc HI.out.2.2.1, cutL_more HI.out.2.2.2.2.2.2.1 _ _ _ HI.out.1]
            exact HF.out
          · exact HI.out.2.1.into (((Mod.refl (· = g) wr).drew).setCell (p := ⟨g, p, none⟩) (.inl rfl) _) (fun j hj => .inr (by rw [hj]; exact HI.out.2.2.2.2.1))
        case measure => simp [intOf]; omega
    · obtain rfl : i = s.length := by omega
      have d0 : decide ((s.length : Int) < (s.length : Int)) = false := decide_eq_false (by omega)
      rw [List.take_length] at hown hL
      have HI := Lib.hid (And.intro hown hM)
      clear hown hM
      go_wp2_with fail
      go_ret
      exact ⟨_, _, _, rfl, HI.out.1, HI.out.2⟩
end Go.Proofs.YtkobngipbhjfjaaDoor
