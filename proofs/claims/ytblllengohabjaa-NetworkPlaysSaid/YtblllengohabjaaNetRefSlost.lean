/-
  The reference's Send: lost.
-/
import Derived.Test.YtblllengohabjaaNetRef
namespace Go.Proofs.Ytblllengohabjaa
open Go.RowKit

set_option maxRecDepth 100000 in
set_option maxHeartbeats 4000000 in
theorem rsend_lost (w : World) (B g : Nat) (t side : Int) (L : List RP) (h : RNet w B g t L) (kind delay num : Int) (A : Option Addr) (n c : Nat) 
    (hf : fateOk side kind delay = true) (hk1 : kind = 1) :
    Calls Try.prog 10 #[.pointer (some ⟨g, 0, none⟩), .int .i64 side, .slice A n c, .agg #[.int .i64 kind, .int .i64 delay, .int .i64 num]] w (RSendPost w B g t L []) := by
  obtain ⟨i0, hi0, hz0, hz1, hz2⟩ := info_parts rp_info
  obtain ⟨hB, ⟨vL, hblk, hrow⟩, hdat, hfew, ht⟩ := h
  have hgl := hblk.lt
  have T1 : TMod B refT w (w.alloc (.cells #[.int .i64 kind, .int .i64 delay, .int .i64 num] 37)) := (TMod.refl _ _ _).alloc _
  have hbx : Blk (w.alloc (.cells #[.int .i64 kind, .int .i64 delay, .int .i64 num] 37)) w.heap.size 37 #[.int .i64 kind, .int .i64 delay, .int .i64 num] := Blk.new _ _ _
  have M0 : Mod (fun _ => False) w (w.alloc (.cells #[.int .i64 kind, .int .i64 delay, .int .i64 num] 37)) := (Mod.refl _ _).alloc _
  replace hblk := hblk.keep M0 (fun h => h)
  replace hrow := own_mod hrow M0 (fun _ _ h => h)
  replace hdat := hdat.tmod (B' := 0) (T := fun _ => false) (.of_quiet M0) rfl
  unfold fateOk at hf
  simp only [decide_eq_true_eq] at hf
  obtain ⟨f1, f2, k1, k2, d1, d2⟩ := hf
  clear M0
  have e3 : (kind != 1) = false := by simp [hk1]
  have e2 : (kind == 2) = false := by simp [hk1]
  clear hk1
  obtain ⟨hc, hfz⟩ := hbx.both
  go_enter Try.func10, Try.ntmps10
  go_upto_region 4 with (fail)
  generalize w.alloc (.cells #[.int .i64 kind, .int .i64 delay, .int .i64 num] 37) = w1 at *
  have hls : RData w1 B [] := fun r hr => by cases hr
  have hrow1 : w1.ownsRow B 63 3 (.slice none 0 0) 0 (rpc []) := World.ownsRow_nil _ _ _ _
  have har : True := trivial
  clear hc hfz
  obtain ⟨A3, c3, hv3⟩ := own_shape hrow
  subst hv3
  by_cases hfull : 200 < L.length + 0
  · omega
  · have x1 : 0 + L.length ≤ maxLen := by unfold maxLen; omega
    have x2 : (0 + L.length) * 40 ≤ 140737488355328 := by omega
    have x4 : (0 + L.length) + 0 ≤ maxLen := by unfold maxLen; omega
    have x5 : ((0 + L.length) + 0) * 40 ≤ 140737488355328 := by omega
    have hglw : g < w1.heap.size := hblk.lt
    have hbw : B ≤ w1.heap.size := by omega
    have ho : (w1.alloc (.cells #[] 63)).ownsRow B 63 3 (.slice (some ⟨w1.heap.size, 0, none⟩) 0 0) 0 [] := World.ownsRow_made w1 #[] 0 hbw (by decide) rfl
    have Mx : Mod (fun _ => False) w1 (w1.alloc (.cells #[] 63)) := (Mod.refl _ _).alloc _
    have s1 : Src (w1.alloc (.cells #[] 63)) 3 A3 L.length (rpc L) := (Src.of_own (own_mod hrow Mx (fun _ _ h => h))).2
    have n1 : A3 = none → c3 = 0 := own_none hrow
    have b3 : B ≤ (w1.alloc (.cells #[] 63)).heap.size := by simp; omega
    have HX := Lib.hid (And.intro x1 (And.intro x2 (And.intro b3 (And.intro s1 (And.intro ho (And.intro n1 hdat.one))))))
    have HF := Lib.hid (And.intro T1 (And.intro hblk (And.intro hrow (And.intro hdat (And.intro hls (And.intro hrow1 (And.intro x4 (And.intro x5 hbw))))))))
    obtain ⟨hc, hfz⟩ := hblk.both
    obtain ⟨hc', hfz'⟩ := hbx.both
    clear x1 x2 x4 x5 b3 s1 ho n1 hblk hrow hdat hbx T1 hls hrow1 har hbw Mx
    go_upto_region 10 with (fail)
    go_wp2_with (first
      | (at_builtin; have _t := HX; refine wpList_append_src _ rfl (.tmp 83) (.tmp 87) _ rfl B 63 i0 _ 3 40 Try.underlying26 hi0 hz0 hz1 hz2 rfl (by omega) (.slice (some ⟨w1.heap.size, 0, none⟩) 0 0) 0 [] rfl HX.out.2.2.2.2.1 A3 L.length c3 (rpc L) rfl HX.out.2.2.2.1 HX.out.2.2.2.2.2.1 HX.out.2.2.2.2.2.2 HX.out.1 HX.out.2.1 HX.out.2.2.1 ?_; intro v4 w4 hown4 hg4 hat4; have M4 : Mod (fun _ => False) w1 w4 := ((Mod.refl _ _).alloc _).grown hg4 (fun k hk => .inr (by simp [Value.ownBlock] at hk; omega)); have hv4 : ∀ k, v4.ownBlock = some k → w1.heap.size ≤ k := (fun k hk => by rcases hat4 with e | e <;> (rw [e] at hk; simp [Value.ownBlock] at hk; omega)); have HY := Lib.hid (And.intro hown4 (And.intro M4 (And.intro hv4 ((Src.of_own (own_mod HF.out.2.2.2.2.2.1 M4 (fun _ _ h => h))).2)))); clear HX _t hown4 hg4 hat4 M4 hv4)
      | (at_builtin; have _t := HY; refine wpList_append_src _ rfl (.tmp 88) (.tmp 89) _ rfl B 63 i0 _ 3 40 Try.underlying26 hi0 hz0 hz1 hz2 rfl (by omega) v4 (0 + L.length) ([] ++ rpc L) rfl HY.out.1 none 0 0 (rpc []) rfl HY.out.2.2.2 (fun _ => rfl) HF.out.2.2.2.2.1.one HF.out.2.2.2.2.2.2.1 HF.out.2.2.2.2.2.2.2.1 (Nat.le_trans HF.out.2.2.2.2.2.2.2.2 HY.out.2.1.size) ?_; intro v5 w5 hown5 hg5 hat5; obtain ⟨A5, c5, hv5⟩ := own_shape hown5; subst hv5; have M5 : Mod (fun k => w1.heap.size ≤ k) w1 w5 := (HY.out.2.1.mono (fun _ h => h.elim)).grown hg5 (fun k hk => .inl (HY.out.2.2.1 k hk)); have bk5 := HF.out.2.1.keep M5 (by have := HF.out.2.1.lt; omega); obtain ⟨hc5, hfz5⟩ := bk5.both; have HZ := Lib.hid (And.intro hown5 (And.intro M5 bk5)); clear _t hown5 hg5 hat5 M5 bk5))
    go_ret
    obtain ⟨a1, a2, a3, a4, a5, _⟩ := HF.out
    obtain ⟨z1, z2, z3⟩ := HZ.out
    simp only [Nat.zero_add, List.nil_append] at z1
    have T5 : TMod B refT w (w5.setCell ⟨g, 1, none⟩ (.slice A5 (L.length + 0) c5)) := (a1.trans (.of_quiet ⟨z2.os, z2.tape, z2.output, z2.size, fun k hk _ => z2.block k hk (by omega)⟩)).setCell z3 hB (by decide) _
    have T6 : TMod 0 (fun t => t == 28) w5 (w5.setCell ⟨g, 1, none⟩ (.slice A5 (L.length + 0) c5)) := (TMod.refl _ _ _).setCell z3 (Nat.zero_le _) (by decide) _
    have Mq : Mod (fun _ => False) w1 w5 := ⟨z2.os, z2.tape, z2.output, z2.size, fun k hk _ => z2.block k hk (by omega)⟩
    have T7 : TMod 0 (fun _ => false) w1 w5 := .of_quiet Mq
    refine ⟨T5, .inr ⟨by simp only [List.length_nil]; omega, rfl, [], rfl, hB, ⟨_, z3.put rfl, ?_⟩, ((a4.tmod T7 rfl).tmod T6 (by decide)).app ((a5.tmod T7 rfl).tmod T6 (by decide)), by rw [List.length_append]; simp only [List.length_nil]; omega, ht⟩⟩
    have z4 := own_tmod z1 T6 (by decide)
    rw [List.length_append, rpc_append]
    exact z4
end Go.Proofs.Ytblllengohabjaa
