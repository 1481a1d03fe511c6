/-
  The reference's Send: two.
-/
import Derived.Test.YtblllengohabjaaNetRef
namespace Go.Proofs.Ytblllengohabjaa
open Go.RowKit

set_option maxRecDepth 100000 in
set_option maxHeartbeats 4000000 in
theorem rsend_two (w : World) (B g : Nat) (t side : Int) (L : List RP) (h : RNet w B g t L) (kind delay num : Int) (A : Option Addr) (n c : Nat) (l : List UInt8) (har : ArgBytes w B A n c l) (hn : n ≤ 1048576) (hnum : -9223372036854775808 ≤ num ∧ num ≤ 9223372036854775807)
    (hf : fateOk side kind delay = true) (hk2 : kind = 2) :
    Calls Try.prog 10 #[.pointer (some ⟨g, 0, none⟩), .int .i64 side, .slice A n c, .agg #[.int .i64 kind, .int .i64 delay, .int .i64 num]] w (RSendPost w B g t L [(side, t + delay, bentL l kind num), (side, t + 2 * delay, bentL l kind num)]) := by
  obtain ⟨i0, hi0, hz0, hz1, hz2⟩ := info_parts rp_info
  obtain ⟨hB, ⟨vL, hblk, hrow⟩, hdat, hfew, ht⟩ := h
  have hgl := hblk.lt
  have T1 : TMod B refT w (w.alloc (.cells #[.int .i64 kind, .int .i64 delay, .int .i64 num] 37)) := (TMod.refl _ _ _).alloc _
  have hbx : Blk (w.alloc (.cells #[.int .i64 kind, .int .i64 delay, .int .i64 num] 37)) w.heap.size 37 #[.int .i64 kind, .int .i64 delay, .int .i64 num] := Blk.new _ _ _
  have M0 : Mod (fun _ => False) w (w.alloc (.cells #[.int .i64 kind, .int .i64 delay, .int .i64 num] 37)) := (Mod.refl _ _).alloc _
  replace hblk := hblk.keep M0 (fun h => h)
  replace hrow := own_mod hrow M0 (fun _ _ h => h)
  replace hdat := hdat.tmod (B' := 0) (T := fun _ => false) (.of_quiet M0) rfl
  replace har := har.tmod T1 (by decide)
  unfold fateOk at hf
  simp only [decide_eq_true_eq] at hf
  obtain ⟨f1, f2, k1, k2, d1, d2⟩ := hf
  clear M0
  have e3 : (kind != 1) = true := by simp [hk2]
  have e2 : (kind == 2) = true := beq_iff_eq.2 hk2
  clear hk2
  obtain ⟨hc, hfz⟩ := hbx.both
  go_enter Try.func10, Try.ntmps10
  go_wp2_with fail
  generalize w.alloc (.cells #[.int .i64 kind, .int .i64 delay, .int .i64 num] 37) = w1 at *
  have t1 : w1.cell? ⟨g, 0, none⟩ = some (.int .i64 t) := hblk.cell 0
  have x10 : w1.cell? ⟨w.heap.size, 0, none⟩ = some (.int .i64 kind) := hbx.cell 0
  have x11 : w1.cell? ⟨w.heap.size, 1, none⟩ = some (.int .i64 delay) := hbx.cell 1
  have x12 : w1.cell? ⟨w.heap.size, 2, none⟩ = some (.int .i64 num) := hbx.cell 2
  have hbz1 : B ≤ w1.heap.size := by have := hblk.lt; omega
  have HB1 := Lib.hid (And.intro hblk (And.intro hbx (And.intro hrow (And.intro hdat (And.intro har T1)))))
  clear hblk hbx hrow hdat har hc hfz
  have y10 : IntKind.i64.wrap (t + delay) = t + delay := IntWalk.i64_in _ ⟨by omega, by omega⟩
  go_region_held3 (fun w' => w'.cell? ⟨g, 0, none⟩ = some (.int .i64 t) ∧ w'.cell? ⟨w.heap.size, 0, none⟩ = some (.int .i64 kind) ∧ w'.cell? ⟨w.heap.size, 1, none⟩ = some (.int .i64 delay) ∧ w'.cell? ⟨w.heap.size, 2, none⟩ = some (.int .i64 num)) (first | exact ⟨t1, x10, x11, x12⟩ | exact kb1 | exact ka1 | exact ⟨(((HK1.out.1.alloc _).alloc _).drew).cell 0, (((HK1.out.2.alloc _).alloc _).drew).cell 0, (((HK1.out.2.alloc _).alloc _).drew).cell 1, (((HK1.out.2.alloc _).alloc _).drew).cell 2⟩) (first | (go_at_call 20; refine (bent_any _ A n c l kind delay num (HB1.out.2.2.2.2.1.tmod ((TMod.refl B netT _).drew) (by decide)).1 hn hnum).mono ?_; rintro e wb1 ⟨vb1, rfl, hv1, mb1⟩; have M1 : Mod (fun _ => False) w1 wb1 := ((Mod.refl _ _).drew).trans mb1; have bk1 := HB1.out.1.keep M1 (fun h => h); have bx1 := HB1.out.2.1.keep M1 (fun h => h); have kb1 : wb1.cell? ⟨g, 0, none⟩ = some (.int .i64 t) ∧ wb1.cell? ⟨w.heap.size, 0, none⟩ = some (.int .i64 kind) ∧ wb1.cell? ⟨w.heap.size, 1, none⟩ = some (.int .i64 delay) ∧ wb1.cell? ⟨w.heap.size, 2, none⟩ = some (.int .i64 num) := ⟨bk1.cell 0, bx1.cell 0, bx1.cell 1, bx1.cell 2⟩; obtain ⟨Ab1, cb1, rfl⟩ := own_shape hv1; have ka1 : (wb1.alloc (.cells #[.int .i64 side, .int .i64 (t + delay), .slice Ab1 (bentL l kind num).length cb1] 63)).cell? ⟨g, 0, none⟩ = some (.int .i64 t) ∧ (wb1.alloc (.cells #[.int .i64 side, .int .i64 (t + delay), .slice Ab1 (bentL l kind num).length cb1] 63)).cell? ⟨w.heap.size, 0, none⟩ = some (.int .i64 kind) ∧ (wb1.alloc (.cells #[.int .i64 side, .int .i64 (t + delay), .slice Ab1 (bentL l kind num).length cb1] 63)).cell? ⟨w.heap.size, 1, none⟩ = some (.int .i64 delay) ∧ (wb1.alloc (.cells #[.int .i64 side, .int .i64 (t + delay), .slice Ab1 (bentL l kind num).length cb1] 63)).cell? ⟨w.heap.size, 2, none⟩ = some (.int .i64 num) := ⟨(bk1.alloc _).cell 0, (bx1.alloc _).cell 0, (bx1.alloc _).cell 1, (bx1.alloc _).cell 2⟩; have HK1 := Lib.hid (And.intro bk1 bx1); have HP1 := Lib.hid (And.intro M1 (own_base hv1 (show B ≤ w1.drew.heap.size from hbz1))); clear bk1 bx1 hv1 mb1 M1))
  clear t1 x10 x11 x12 kb1 ka1 y10
  have hbw1 : B ≤ wb1.heap.size := Nat.le_trans hbz1 HP1.out.1.size
  have hrow1 := nil_grown wb1 B hbw1 (.int .i64 side) (.int .i64 (t + delay)) (.slice Ab1 (bentL l kind num).length cb1)
  have Mw1 : Mod (fun _ => False) w1 (((wb1.alloc (.cells #[.int .i64 side, .int .i64 (t + delay), .slice Ab1 (bentL l kind num).length cb1] 63)).alloc (.cells (#[.int .i64 side, .int .i64 (t + delay), .slice Ab1 (bentL l kind num).length cb1] ++ Builtin.zeroCells #[.int .i64 0, .int .i64 0, .slice none 0 0] (((Question.appendCap 1 0 63).cut (wb1.tape wb1.drawn (Question.appendCap 1 0 63))) - 1)) 63)).drew) := HP1.out.1.trans (nil_grown_mod wb1 _ _)
  have hby1 : Bytes (((wb1.alloc (.cells #[.int .i64 side, .int .i64 (t + delay), .slice Ab1 (bentL l kind num).length cb1] 63)).alloc (.cells (#[.int .i64 side, .int .i64 (t + delay), .slice Ab1 (bentL l kind num).length cb1] ++ Builtin.zeroCells #[.int .i64 0, .int .i64 0, .slice none 0 0] (((Question.appendCap 1 0 63).cut (wb1.tape wb1.drawn (Question.appendCap 1 0 63))) - 1)) 63)).drew) B (.slice Ab1 (bentL l kind num).length cb1) (bentL l kind num) := own_mod HP1.out.2 (nil_grown_mod wb1 _ _) (fun _ _ h => h)
  generalize ((wb1.alloc (.cells #[.int .i64 side, .int .i64 (t + delay), .slice Ab1 (bentL l kind num).length cb1] 63)).alloc (.cells (#[.int .i64 side, .int .i64 (t + delay), .slice Ab1 (bentL l kind num).length cb1] ++ Builtin.zeroCells #[.int .i64 0, .int .i64 0, .slice none 0 0] (((Question.appendCap 1 0 63).cut (wb1.tape wb1.drawn (Question.appendCap 1 0 63))) - 1)) 63)).drew = wa1 at *
  obtain ⟨r1, hr1⟩ : ∃ r1, r1 = wb1.heap.size + 1 := ⟨_, rfl⟩
  have hr1s : w1.heap.size < r1 := by have := HP1.out.1.size; omega
  rw [← hr1] at hrow1 ⊢
  clear hr1
  generalize ((Question.appendCap 1 0 63).cut (wb1.tape wb1.drawn (Question.appendCap 1 0 63))) = c1 at *
  have hblk := HB1.out.1.keep Mw1 (fun h => h)
  have hbx := HB1.out.2.1.keep Mw1 (fun h => h)
  have hrow := own_mod HB1.out.2.2.1 Mw1 (fun _ _ h => h)
  have hdat := HB1.out.2.2.2.1.tmod (B' := 0) (T := fun _ => false) (.of_quiet Mw1) rfl
  have har := HB1.out.2.2.2.2.1.tmod (T := fun _ => false) (.of_quiet Mw1) rfl
  have T2 : TMod B refT w wa1 := HB1.out.2.2.2.2.2.trans (.of_quiet Mw1)
  have hls : RData wa1 B [⟨side, t + delay, .slice Ab1 (bentL l kind num).length cb1, bentL l kind num⟩] := fun r hr => by rw [List.mem_singleton.1 hr]; exact hby1
  have hrow1 : wa1.ownsRow B 63 3 (.slice (some ⟨r1, 0, none⟩) 1 c1) 1 (rpc [⟨side, t + delay, .slice Ab1 (bentL l kind num).length cb1, bentL l kind num⟩]) := hrow1
  have hr1g : ¬ g = r1 := by have := HB1.out.2.1.lt; omega
  have hr1x : ¬ w.heap.size = r1 := by have := HB1.out.2.1.lt; omega
  have hr1L : ∀ k, vL.ownBlock = some k → ¬ k = r1 := fun k hk e => by have := (HB1.out.2.2.1.lt k hk).2; omega
  clear HK1 HB1 HP1 Mw1 hby1 hbw1 hr1s hbz1
  obtain ⟨hc, hfz⟩ := hbx.both
  go_wp2_with fail
  clear hc hfz
  have t2 : wa1.cell? ⟨g, 0, none⟩ = some (.int .i64 t) := hblk.cell 0
  have x20 : wa1.cell? ⟨w.heap.size, 0, none⟩ = some (.int .i64 kind) := hbx.cell 0
  have x21 : wa1.cell? ⟨w.heap.size, 1, none⟩ = some (.int .i64 delay) := hbx.cell 1
  have x22 : wa1.cell? ⟨w.heap.size, 2, none⟩ = some (.int .i64 num) := hbx.cell 2
  have hbz2 : B ≤ wa1.heap.size := by have := hblk.lt; omega
  have HB2 := Lib.hid (And.intro hblk (And.intro hbx (And.intro hrow (And.intro hdat (And.intro har (And.intro hls hrow1))))))
  clear hblk hbx hrow hdat har hls hrow1
  have y20 : IntKind.i64.wrap (2 * delay) = 2 * delay := IntWalk.i64_in _ ⟨by omega, by omega⟩
  have y21 : IntKind.i64.wrap (t + 2 * delay) = t + 2 * delay := IntWalk.i64_in _ ⟨by omega, by omega⟩
  go_region_held3 (fun w' => w'.cell? ⟨g, 0, none⟩ = some (.int .i64 t) ∧ w'.cell? ⟨w.heap.size, 0, none⟩ = some (.int .i64 kind) ∧ w'.cell? ⟨w.heap.size, 1, none⟩ = some (.int .i64 delay) ∧ w'.cell? ⟨w.heap.size, 2, none⟩ = some (.int .i64 num)) (first | exact ⟨t2, x20, x21, x22⟩ | exact kb2 | exact ka2 | exact kq2) (first | (go_at_call 20; refine (bent_any _ A n c l kind delay num (HB2.out.2.2.2.2.1.tmod ((TMod.refl B netT _).drew) (by decide)).1 hn hnum).mono ?_; rintro e wb2 ⟨vb2, rfl, hv2, mb2⟩; have M2 : Mod (fun _ => False) wa1 wb2 := ((Mod.refl _ _).drew).trans mb2; have bk2 := HB2.out.1.keep M2 (fun h => h); have bx2 := HB2.out.2.1.keep M2 (fun h => h); have kb2 : wb2.cell? ⟨g, 0, none⟩ = some (.int .i64 t) ∧ wb2.cell? ⟨w.heap.size, 0, none⟩ = some (.int .i64 kind) ∧ wb2.cell? ⟨w.heap.size, 1, none⟩ = some (.int .i64 delay) ∧ wb2.cell? ⟨w.heap.size, 2, none⟩ = some (.int .i64 num) := ⟨bk2.cell 0, bx2.cell 0, bx2.cell 1, bx2.cell 2⟩; obtain ⟨Ab2, cb2, rfl⟩ := own_shape hv2; have ka2 : (wb2.alloc (.cells #[.int .i64 side, .int .i64 (t + 2 * delay), .slice Ab2 (bentL l kind num).length cb2] 63)).cell? ⟨g, 0, none⟩ = some (.int .i64 t) ∧ (wb2.alloc (.cells #[.int .i64 side, .int .i64 (t + 2 * delay), .slice Ab2 (bentL l kind num).length cb2] 63)).cell? ⟨w.heap.size, 0, none⟩ = some (.int .i64 kind) ∧ (wb2.alloc (.cells #[.int .i64 side, .int .i64 (t + 2 * delay), .slice Ab2 (bentL l kind num).length cb2] 63)).cell? ⟨w.heap.size, 1, none⟩ = some (.int .i64 delay) ∧ (wb2.alloc (.cells #[.int .i64 side, .int .i64 (t + 2 * delay), .slice Ab2 (bentL l kind num).length cb2] 63)).cell? ⟨w.heap.size, 2, none⟩ = some (.int .i64 num) := ⟨(bk2.alloc _).cell 0, (bx2.alloc _).cell 0, (bx2.alloc _).cell 1, (bx2.alloc _).cell 2⟩; have HK2 := Lib.hid (And.intro bk2 bx2); have HP2 := Lib.hid (And.intro M2 (own_base hv2 (show B ≤ wa1.drew.heap.size from hbz2))); clear bk2 bx2 hv2 mb2 M2) | (refine step_append_src _ (by rfl) _ _ _ (by rfl) B 63 i0 _ 3 40 Try.underlying26 hi0 hz0 hz1 hz2 rfl (by omega) (.slice (some ⟨r1, 0, none⟩) 1 c1) 1 (rpc [⟨side, t + delay, .slice Ab1 (bentL l kind num).length cb1, bentL l kind num⟩]) (by rfl) (own_mod HB2.out.2.2.2.2.2.2 (HP2.out.1.alloc _) (fun _ _ h => h)) (some ⟨wb2.heap.size, 0, none⟩) 1 1 [.int .i64 side, .int .i64 (t + 2 * delay), .slice Ab2 (bentL l kind num).length cb2] (by rfl) (Src.new wb2 63 [.int .i64 side, .int .i64 (t + 2 * delay), .slice Ab2 (bentL l kind num).length cb2]) (fun h => by cases h) (fun u hu => by simp only [List.mem_cons, List.not_mem_nil, or_false] at hu; rcases hu with rfl | rfl | rfl <;> rfl) (by decide) (by omega) (by have := HP2.out.1.size; simp; omega) ?_; intro va2 wa2 hown2 hg2 hat2; have Ma2 : Mod (· = r1) wb2 wa2 := ((Mod.refl _ _).alloc _).grown hg2 (fun k hk => .inl (by simpa [Value.ownBlock] using hk.symm)); have bka2 := (HB2.out.1.keep HP2.out.1 (fun h => h)).keep Ma2 hr1g; have bxa2 := (HB2.out.2.1.keep HP2.out.1 (fun h => h)).keep Ma2 hr1x; have kq2 : wa2.cell? ⟨g, 0, none⟩ = some (.int .i64 t) ∧ wa2.cell? ⟨w.heap.size, 0, none⟩ = some (.int .i64 kind) ∧ wa2.cell? ⟨w.heap.size, 1, none⟩ = some (.int .i64 delay) ∧ wa2.cell? ⟨w.heap.size, 2, none⟩ = some (.int .i64 num) := ⟨bka2.cell 0, bxa2.cell 0, bxa2.cell 1, bxa2.cell 2⟩; have HQ2 := Lib.hid (And.intro Ma2 (And.intro hown2 (And.intro bka2 bxa2))); clear Ma2 hown2 hg2 hat2 bka2 bxa2))
  clear t2 x20 x21 x22 kb2 ka2 y20 y21 kq2
  obtain ⟨A2, c2, hv2⟩ := own_shape HQ2.out.2.1
  subst hv2
  have hblk := HQ2.out.2.2.1
  have hbx := HQ2.out.2.2.2
  have Tw2 : TMod B (fun t => t == 63) wa1 wa2 := (TMod.of_quiet HP2.out.1).trans (.of_mod HQ2.out.1 (fun k _ hk => by
    subst hk
    obtain ⟨h1, cs1, h2⟩ := own_blk (own_mod HB2.out.2.2.2.2.2.2 HP2.out.1 (fun _ _ h => h)) (k := k) rfl
    exact ⟨h1, _, _, h2, by decide⟩))
  have hrow : wa2.ownsRow B 63 3 vL L.length (rpc L) := own_mod (own_mod HB2.out.2.2.1 HP2.out.1 (fun _ _ h => h)) HQ2.out.1 hr1L
  have hdat := HB2.out.2.2.2.1.tmod Tw2 (by decide)
  have hls0 := HB2.out.2.2.2.2.2.1.tmod Tw2 (by decide)
  have hby2 : Bytes wa2 B (.slice Ab2 (bentL l kind num).length cb2) (bentL l kind num) := own_tmod HP2.out.2 (TMod.of_mod (B := 0) (T := fun t => t == 63) HQ2.out.1 (fun k _ hk => by
    subst hk
    obtain ⟨h1, cs1, h2⟩ := own_blk (own_mod HB2.out.2.2.2.2.2.2 HP2.out.1 (fun _ _ h => h)) (k := k) rfl
    exact ⟨Nat.zero_le _, _, _, h2, by decide⟩)) (by decide)
  have hls : RData wa2 B [⟨side, t + delay, .slice Ab1 (bentL l kind num).length cb1, bentL l kind num⟩, ⟨side, t + 2 * delay, .slice Ab2 (bentL l kind num).length cb2, bentL l kind num⟩] := fun r hr => by
    simp only [List.mem_cons, List.not_mem_nil, or_false] at hr
    rcases hr with rfl | rfl
    · exact hls0 _ (by simp)
    · exact hby2
  have hrow1 : wa2.ownsRow B 63 3 (.slice A2 2 c2) 2 (rpc [⟨side, t + delay, .slice Ab1 (bentL l kind num).length cb1, bentL l kind num⟩, ⟨side, t + 2 * delay, .slice Ab2 (bentL l kind num).length cb2, bentL l kind num⟩]) := HQ2.out.2.1
  have hn2 : A2 = none → c2 = 0 := own_none hrow1
  have T3 : TMod B refT w wa2 := T2.trans (Tw2.mono (fun t h => by unfold refT; rw [h]; simp))
  have har : True := trivial
  clear HK2 HB2 HP2 HQ2 Tw2 hls0 hby2 T2 hr1L hr1g hr1x
  obtain ⟨A3, c3, hv3⟩ := own_shape hrow
  subst hv3
  by_cases hfull : 200 < L.length + 2
  · skip
    have HF := Lib.hid (And.intro T3 (And.intro hblk (And.intro hrow hdat)))
    obtain ⟨hc, hfz⟩ := hblk.both
    obtain ⟨hc', hfz'⟩ := hbx.both
    clear hblk hrow hdat hbx T3 hls hrow1 har
    go_wp2_with fail
    go_ret
    obtain ⟨a1, a2, a3, a4⟩ := HF.out
    exact ⟨a1, .inl ⟨hfull, rfl, hB, ⟨_, a2, a3⟩, a4, hfew, ht⟩⟩
  · have x1 : 0 + L.length ≤ maxLen := by unfold maxLen; omega
    have x2 : (0 + L.length) * 40 ≤ 140737488355328 := by omega
    have x4 : (0 + L.length) + 2 ≤ maxLen := by unfold maxLen; omega
    have x5 : ((0 + L.length) + 2) * 40 ≤ 140737488355328 := by omega
    have hglw : g < wa2.heap.size := hblk.lt
    have hbw : B ≤ wa2.heap.size := by omega
    have ho : (wa2.alloc (.cells #[] 63)).ownsRow B 63 3 (.slice (some ⟨wa2.heap.size, 0, none⟩) 0 0) 0 [] := World.ownsRow_made wa2 #[] 0 hbw (by decide) rfl
    have Mx : Mod (fun _ => False) wa2 (wa2.alloc (.cells #[] 63)) := (Mod.refl _ _).alloc _
    have s1 : Src (wa2.alloc (.cells #[] 63)) 3 A3 L.length (rpc L) := (Src.of_own (own_mod hrow Mx (fun _ _ h => h))).2
    have n1 : A3 = none → c3 = 0 := own_none hrow
    have b3 : B ≤ (wa2.alloc (.cells #[] 63)).heap.size := by simp; omega
    have HX := Lib.hid (And.intro x1 (And.intro x2 (And.intro b3 (And.intro s1 (And.intro ho (And.intro n1 hdat.one))))))
    have HF := Lib.hid (And.intro T3 (And.intro hblk (And.intro hrow (And.intro hdat (And.intro hls (And.intro hrow1 (And.intro x4 (And.intro x5 hbw))))))))
    obtain ⟨hc, hfz⟩ := hblk.both
    obtain ⟨hc', hfz'⟩ := hbx.both
    clear x1 x2 x4 x5 b3 s1 ho n1 hblk hrow hdat hbx T3 hls hrow1 har hbw Mx
    go_upto_region 10 with (fail)
    go_wp2_with (first
      | (at_builtin; have _t := HX; refine wpList_append_src _ rfl (.tmp 83) (.tmp 87) _ rfl B 63 i0 _ 3 40 Try.underlying26 hi0 hz0 hz1 hz2 rfl (by omega) (.slice (some ⟨wa2.heap.size, 0, none⟩) 0 0) 0 [] rfl HX.out.2.2.2.2.1 A3 L.length c3 (rpc L) rfl HX.out.2.2.2.1 HX.out.2.2.2.2.2.1 HX.out.2.2.2.2.2.2 HX.out.1 HX.out.2.1 HX.out.2.2.1 ?_; intro v4 w4 hown4 hg4 hat4; have M4 : Mod (fun _ => False) wa2 w4 := ((Mod.refl _ _).alloc _).grown hg4 (fun k hk => .inr (by simp [Value.ownBlock] at hk; omega)); have hv4 : ∀ k, v4.ownBlock = some k → wa2.heap.size ≤ k := (fun k hk => by rcases hat4 with e | e <;> (rw [e] at hk; simp [Value.ownBlock] at hk; omega)); have HY := Lib.hid (And.intro hown4 (And.intro M4 (And.intro hv4 ((Src.of_own (own_mod HF.out.2.2.2.2.2.1 M4 (fun _ _ h => h))).2)))); clear HX _t hown4 hg4 hat4 M4 hv4)
      | (at_builtin; have _t := HY; refine wpList_append_src _ rfl (.tmp 88) (.tmp 89) _ rfl B 63 i0 _ 3 40 Try.underlying26 hi0 hz0 hz1 hz2 rfl (by omega) v4 (0 + L.length) ([] ++ rpc L) rfl HY.out.1 A2 2 c2 (rpc [⟨side, t + delay, .slice Ab1 (bentL l kind num).length cb1, bentL l kind num⟩, ⟨side, t + 2 * delay, .slice Ab2 (bentL l kind num).length cb2, bentL l kind num⟩]) rfl HY.out.2.2.2 hn2 HF.out.2.2.2.2.1.one HF.out.2.2.2.2.2.2.1 HF.out.2.2.2.2.2.2.2.1 (Nat.le_trans HF.out.2.2.2.2.2.2.2.2 HY.out.2.1.size) ?_; intro v5 w5 hown5 hg5 hat5; obtain ⟨A5, c5, hv5⟩ := own_shape hown5; subst hv5; have M5 : Mod (fun k => wa2.heap.size ≤ k) wa2 w5 := (HY.out.2.1.mono (fun _ h => h.elim)).grown hg5 (fun k hk => .inl (HY.out.2.2.1 k hk)); have bk5 := HF.out.2.1.keep M5 (by have := HF.out.2.1.lt; omega); obtain ⟨hc5, hfz5⟩ := bk5.both; have HZ := Lib.hid (And.intro hown5 (And.intro M5 bk5)); clear _t hown5 hg5 hat5 M5 bk5))
    go_ret
    obtain ⟨a1, a2, a3, a4, a5, _⟩ := HF.out
    obtain ⟨z1, z2, z3⟩ := HZ.out
    simp only [Nat.zero_add, List.nil_append] at z1
    have T5 : TMod B refT w (w5.setCell ⟨g, 1, none⟩ (.slice A5 (L.length + 2) c5)) := (a1.trans (.of_quiet ⟨z2.os, z2.tape, z2.output, z2.size, fun k hk _ => z2.block k hk (by omega)⟩)).setCell z3 hB (by decide) _
    have T6 : TMod 0 (fun t => t == 28) w5 (w5.setCell ⟨g, 1, none⟩ (.slice A5 (L.length + 2) c5)) := (TMod.refl _ _ _).setCell z3 (Nat.zero_le _) (by decide) _
    have Mq : Mod (fun _ => False) wa2 w5 := ⟨z2.os, z2.tape, z2.output, z2.size, fun k hk _ => z2.block k hk (by omega)⟩
    have T7 : TMod 0 (fun _ => false) wa2 w5 := .of_quiet Mq
    refine ⟨T5, .inr ⟨by simp only [List.length_cons, List.length_nil]; omega, rfl, [⟨side, t + delay, .slice Ab1 (bentL l kind num).length cb1, bentL l kind num⟩, ⟨side, t + 2 * delay, .slice Ab2 (bentL l kind num).length cb2, bentL l kind num⟩], rfl, hB, ⟨_, z3.put rfl, ?_⟩, ((a4.tmod T7 rfl).tmod T6 (by decide)).app ((a5.tmod T7 rfl).tmod T6 (by decide)), by rw [List.length_append]; simp only [List.length_cons, List.length_nil]; omega, ht⟩⟩
    have z4 := own_tmod z1 T6 (by decide)
    rw [List.length_append, rpc_append]
    exact z4
end Go.Proofs.Ytblllengohabjaa
