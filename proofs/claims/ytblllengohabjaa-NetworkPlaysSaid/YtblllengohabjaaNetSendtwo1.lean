/-
  network.Network.Send: two1.
-/
import Derived.Test.YtblllengohabjaaNetSend
namespace Go.Proofs.Ytblllengohabjaa
open Go.RowKit

set_option maxRecDepth 100000 in
set_option maxHeartbeats 4000000 in
theorem send_two1 (w : World) (B g : Nat) (t s : Int) (P0 P1 : List Pk) (h : NetIs w B g t s P0 P1) (kind delay num : Int) (A : Option Addr) (n c : Nat) (l : List UInt8) (har : ArgBytes w B A n c l) (hn : n ≤ 1048576) (hnum : -9223372036854775808 ≤ num ∧ num ≤ 9223372036854775807)
    (hf : fateOk 1 kind delay = true) (hroom : P0.length + P1.length + 2 ≤ 200) (hk2 : kind = 2) (hst : s < 1099511627775) :
    Calls Try.prog 9 #[.pointer (some ⟨g, 0, none⟩), .int .i64 1, .slice A n c, .agg #[.int .i64 kind, .int .i64 delay, .int .i64 num]] w (SendPost w B g 1 t s P0 P1 [(t + delay, s, bentL l kind num), (t + 2 * delay, s + 1, bentL l kind num)]) := by
  obtain ⟨v0, v1, q0, q1, hpt, p0, p1⟩ := h.parts
  have hfew := h.few
  have ht := h.time
  have hs := h.sent
  have hgl := h.lt
  have hbase := hpt.base
  have hbx : Blk (w.alloc (.cells #[.int .i64 kind, .int .i64 delay, .int .i64 num] 31)) w.heap.size 31 #[.int .i64 kind, .int .i64 delay, .int .i64 num] := Blk.new _ _ _
  have hpt1 : Parts (w.alloc (.cells #[.int .i64 kind, .int .i64 delay, .int .i64 num] 31)) B g t s v0 v1 q0 q1 := hpt.quiet ((Mod.refl _ _).alloc _)
  have hn1 : NetIs (w.alloc (.cells #[.int .i64 kind, .int .i64 delay, .int .i64 num] 31)) B g t s P0 P1 := h.quiet ((Mod.refl _ _).alloc _)
  have T1 : TMod B netT w (w.alloc (.cells #[.int .i64 kind, .int .i64 delay, .int .i64 num] 31)) := (TMod.refl _ _ _).alloc _
  have har1 : ArgBytes (w.alloc (.cells #[.int .i64 kind, .int .i64 delay, .int .i64 num] 31)) B A n c l := har.tmod T1 (by decide)
  clear h hpt har
  unfold fateOk at hf
  simp only [decide_eq_true_eq] at hf
  obtain ⟨_, _, k1, k2, d1, d2⟩ := hf
  have e2 : (kind == 2) = true := beq_iff_eq.2 hk2
  have HPM := Lib.hid (And.intro p0 p1)
  have hql : q1.length + 1 < 1000 := by have := p1.length_eq; omega
  clear hk2 p0 p1
  go_enter Try.func9, Try.ntmps9
  go_wp2_with fail
  generalize w.alloc (.cells #[.int .i64 kind, .int .i64 delay, .int .i64 num] 31) = w1 at *
  refine (netLen _ B g t s P0 P1 hn1).mono ?_
  rintro e w2 ⟨rfl, rfl⟩
  clear hn1
  go_wp2_with fail
  refine wp_loop_rounds 3 ?_; rw [rounds_succ]
  go_wp2_with fail
  obtain ⟨hc1, hf1⟩ := hpt1.blk.both
  have t1 : w1.cell? ⟨g, 0, none⟩ = some (.int .i64 t) := hc1 0
  have s1 : w1.cell? ⟨g, 1, none⟩ = some (.int .i64 s) := hc1 1
  have x10 : w1.cell? ⟨w.heap.size, 0, none⟩ = some (.int .i64 kind) := hbx.cell 0
  have x11 : w1.cell? ⟨w.heap.size, 1, none⟩ = some (.int .i64 delay) := hbx.cell 1
  have x12 : w1.cell? ⟨w.heap.size, 2, none⟩ = some (.int .i64 num) := hbx.cell 2
  have HB1 := Lib.hid (And.intro hpt1 (And.intro hbx har1))
  clear hc1 hf1 hpt1 hbx har1
  have HW1 : Hid (IntKind.i64.wrap (t + IntKind.i64.wrap (IntKind.i64.wrap 1 * delay)) = t + delay) := by have := due_wrap t delay 1 (by omega) ht (by omega); rwa [Int.one_mul] at this
  have hws1 : w.heap.size ≤ w1.heap.size := T1.size
  go_region_held3 (fun w' => w'.cell? ⟨g, 0, none⟩ = some (.int .i64 t) ∧ w'.cell? ⟨g, 1, none⟩ = some (.int .i64 s) ∧ w'.cell? ⟨w.heap.size, 0, none⟩ = some (.int .i64 kind) ∧ w'.cell? ⟨w.heap.size, 1, none⟩ = some (.int .i64 delay) ∧ w'.cell? ⟨w.heap.size, 2, none⟩ = some (.int .i64 num)) (first | exact ⟨t1, s1, x10, x11, x12⟩ | exact kb1 | exact kp1) (first | (go_at_call 19; refine (bend_any _ A n c l kind delay num (HB1.out.2.2.tmod ((TMod.refl B netT _).drew) (by decide)).1 hn hnum).mono ?_; rintro e wb1 ⟨vb1, rfl, hv1, mb1⟩; have ptb1 := (HB1.out.1.quiet ((Mod.refl _ _).drew)).quiet mb1; have bxb1 := (Blk.drew HB1.out.2.1).keep mb1 (fun h => h); have kb1 : wb1.cell? ⟨g, 0, none⟩ = some (.int .i64 t) ∧ wb1.cell? ⟨g, 1, none⟩ = some (.int .i64 s) ∧ wb1.cell? ⟨w.heap.size, 0, none⟩ = some (.int .i64 kind) ∧ wb1.cell? ⟨w.heap.size, 1, none⟩ = some (.int .i64 delay) ∧ wb1.cell? ⟨w.heap.size, 2, none⟩ = some (.int .i64 num) := ⟨ptb1.blk.cell 0, ptb1.blk.cell 1, bxb1.cell 0, bxb1.cell 1, bxb1.cell 2⟩; obtain ⟨Ab1, cb1, rfl⟩ := own_shape hv1; have hz1 : B ≤ wb1.heap.size := (by have := ptb1.blk.lt; have := ptb1.base; omega); have hv1' : Bytes wb1 B (.slice Ab1 (bentL l kind num).length cb1) (bentL l kind num) := own_base hv1 (by have h1 := HB1.out.1.blk.lt; have h2 := HB1.out.1.base; simp; omega); have fr1 : ∀ k, (Value.slice Ab1 (bentL l kind num).length cb1).ownBlock = some k → w.heap.size ≤ k := fun k hk => Nat.le_trans hws1 (show w1.heap.size ≤ k from (hv1.lt k hk).1); have HP1 := Lib.hid (And.intro ptb1 (And.intro bxb1 (And.intro hv1' (And.intro mb1 fr1)))); clear fr1 ptb1 bxb1 hv1 hv1' mb1) | (go_at_call 18; rw [HW1.out]; refine (hPush _ g 3 B _ v1 q1 ⟨t + delay, s, .slice Ab1 (bentL l kind num).length cb1, bentL l kind num⟩ HP1.out.1.blk rfl HP1.out.1.r1 ⟨_, _, _, rfl⟩ HP1.out.1.d1.sl HP1.out.1.h1 (by omega) hz1).mono ?_; rintro e wp1 ⟨vp1, qp1, rfl, pb1, pq1, pp1, ph1, pm1, pa1⟩; obtain ⟨ptp1, tp1⟩ := HP1.out.1.push1 HP1.out.2.2.1 pb1 pq1 pp1 ph1 pm1 pa1; have bxp1 := HP1.out.2.1.tmod tp1 (by decide); have kp1 : wp1.cell? ⟨g, 0, none⟩ = some (.int .i64 t) ∧ wp1.cell? ⟨g, 1, none⟩ = some (.int .i64 s) ∧ wp1.cell? ⟨w.heap.size, 0, none⟩ = some (.int .i64 kind) ∧ wp1.cell? ⟨w.heap.size, 1, none⟩ = some (.int .i64 delay) ∧ wp1.cell? ⟨w.heap.size, 2, none⟩ = some (.int .i64 num) := ⟨ptp1.blk.cell 0, ptp1.blk.cell 1, bxp1.cell 0, bxp1.cell 1, bxp1.cell 2⟩; have HQ1 := Lib.hid (And.intro ptp1 (And.intro bxp1 (And.intro tp1 pp1))); clear ptp1 bxp1 tp1 pb1 pq1 pp1 ph1 pm1 pa1))
  obtain ⟨ptq1, bxq1, tq1, pq1⟩ := HQ1.out
  have T1a : TMod B netT w1 wp1 := (((TMod.refl B netT w1).drew).trans (.of_quiet HP1.out.2.2.2.1)).trans tq1
  obtain ⟨hcq1, hfq1⟩ := ptq1.blk.both
  have arq1 := HB1.out.2.2.tmod T1a (by decide)
  have HZ1 := Lib.hid (And.intro ptq1 (And.intro bxq1 (And.intro T1a (And.intro pq1 arq1))))
  clear ptq1 bxq1 tq1 pq1 T1a arq1 kb1 kp1 t1 s1 x10 x11 x12
  go_wp2_with fail
  rw [rounds_succ]
  obtain ⟨ptz, bxz, Tz, pz, arz⟩ := HZ1.out
  obtain ⟨ptc, Tc⟩ := ptz.count (s + 1)
  have bxc := bxz.tmod Tc (by decide)
  have arc := arz.tmod Tc (by decide)
  have hql2 : qp1.length < 1000 := by have := pz.length_eq; rw [List.length_append, List.length_singleton] at this; omega
  have HT := Lib.hid (And.intro ((T1.trans Tz).trans Tc) pz)
  clear ptz bxz Tz pz arz Tc HZ1 hcq1 hfq1 T1
  generalize wp1.setCell ⟨g, 1, none⟩ (.int .i64 (s + 1)) = wc at *
  go_wp2_with fail
  obtain ⟨hc2, hf2⟩ := ptc.blk.both
  have t2 : wc.cell? ⟨g, 0, none⟩ = some (.int .i64 t) := hc2 0
  have s2 : wc.cell? ⟨g, 1, none⟩ = some (.int .i64 (s + 1)) := hc2 1
  have x20 : wc.cell? ⟨w.heap.size, 0, none⟩ = some (.int .i64 kind) := bxc.cell 0
  have x21 : wc.cell? ⟨w.heap.size, 1, none⟩ = some (.int .i64 delay) := bxc.cell 1
  have x22 : wc.cell? ⟨w.heap.size, 2, none⟩ = some (.int .i64 num) := bxc.cell 2
  have HB2 := Lib.hid (And.intro ptc (And.intro bxc arc))
  clear hc2 hf2 ptc bxc arc
  have HW2 : Hid (IntKind.i64.wrap (t + IntKind.i64.wrap (IntKind.i64.wrap 2 * delay)) = t + 2 * delay) := by have := due_wrap t delay 2 (by omega) ht (by omega); exact this
  have hws2 : w.heap.size ≤ wc.heap.size := HT.out.1.size
  go_region_held3 (fun w' => w'.cell? ⟨g, 0, none⟩ = some (.int .i64 t) ∧ w'.cell? ⟨g, 1, none⟩ = some (.int .i64 (s + 1)) ∧ w'.cell? ⟨w.heap.size, 0, none⟩ = some (.int .i64 kind) ∧ w'.cell? ⟨w.heap.size, 1, none⟩ = some (.int .i64 delay) ∧ w'.cell? ⟨w.heap.size, 2, none⟩ = some (.int .i64 num)) (first | exact ⟨t2, s2, x20, x21, x22⟩ | exact kb2 | exact kp2) (first | (go_at_call 19; refine (bend_any _ A n c l kind delay num (HB2.out.2.2.tmod ((TMod.refl B netT _).drew) (by decide)).1 hn hnum).mono ?_; rintro e wb2 ⟨vb2, rfl, hv2, mb2⟩; have ptb2 := (HB2.out.1.quiet ((Mod.refl _ _).drew)).quiet mb2; have bxb2 := (Blk.drew HB2.out.2.1).keep mb2 (fun h => h); have kb2 : wb2.cell? ⟨g, 0, none⟩ = some (.int .i64 t) ∧ wb2.cell? ⟨g, 1, none⟩ = some (.int .i64 (s + 1)) ∧ wb2.cell? ⟨w.heap.size, 0, none⟩ = some (.int .i64 kind) ∧ wb2.cell? ⟨w.heap.size, 1, none⟩ = some (.int .i64 delay) ∧ wb2.cell? ⟨w.heap.size, 2, none⟩ = some (.int .i64 num) := ⟨ptb2.blk.cell 0, ptb2.blk.cell 1, bxb2.cell 0, bxb2.cell 1, bxb2.cell 2⟩; obtain ⟨Ab2, cb2, rfl⟩ := own_shape hv2; have hz2 : B ≤ wb2.heap.size := (by have := ptb2.blk.lt; have := ptb2.base; omega); have hv2' : Bytes wb2 B (.slice Ab2 (bentL l kind num).length cb2) (bentL l kind num) := own_base hv2 (by have h1 := HB2.out.1.blk.lt; have h2 := HB2.out.1.base; simp; omega); have fr2 : ∀ k, (Value.slice Ab2 (bentL l kind num).length cb2).ownBlock = some k → w.heap.size ≤ k := fun k hk => Nat.le_trans hws2 (show wc.heap.size ≤ k from (hv2.lt k hk).1); have HP2 := Lib.hid (And.intro ptb2 (And.intro bxb2 (And.intro hv2' (And.intro mb2 fr2)))); clear fr2 ptb2 bxb2 hv2 hv2' mb2) | (go_at_call 18; rw [HW2.out]; refine (hPush _ g 3 B _ vp1 qp1 ⟨t + 2 * delay, (s + 1), .slice Ab2 (bentL l kind num).length cb2, bentL l kind num⟩ HP2.out.1.blk rfl HP2.out.1.r1 ⟨_, _, _, rfl⟩ HP2.out.1.d1.sl HP2.out.1.h1 (by omega) hz2).mono ?_; rintro e wp2 ⟨vp2, qp2, rfl, pb2, pq2, pp2, ph2, pm2, pa2⟩; obtain ⟨ptp2, tp2⟩ := HP2.out.1.push1 HP2.out.2.2.1 pb2 pq2 pp2 ph2 pm2 pa2; have bxp2 := HP2.out.2.1.tmod tp2 (by decide); have kp2 : wp2.cell? ⟨g, 0, none⟩ = some (.int .i64 t) ∧ wp2.cell? ⟨g, 1, none⟩ = some (.int .i64 (s + 1)) ∧ wp2.cell? ⟨w.heap.size, 0, none⟩ = some (.int .i64 kind) ∧ wp2.cell? ⟨w.heap.size, 1, none⟩ = some (.int .i64 delay) ∧ wp2.cell? ⟨w.heap.size, 2, none⟩ = some (.int .i64 num) := ⟨ptp2.blk.cell 0, ptp2.blk.cell 1, bxp2.cell 0, bxp2.cell 1, bxp2.cell 2⟩; have HQ2 := Lib.hid (And.intro ptp2 (And.intro bxp2 (And.intro tp2 pp2))); clear ptp2 bxp2 tp2 pb2 pq2 pp2 ph2 pm2 pa2))
  obtain ⟨ptq2, bxq2, tq2, pq2⟩ := HQ2.out
  have T2a : TMod B netT wc wp2 := (((TMod.refl B netT wc).drew).trans (.of_quiet HP2.out.2.2.2.1)).trans tq2
  obtain ⟨hcq2, hfq2⟩ := ptq2.blk.both
  have arq2 := HB2.out.2.2.tmod T2a (by decide)
  have HZ2 := Lib.hid (And.intro ptq2 (And.intro bxq2 (And.intro T2a (And.intro pq2 arq2))))
  clear ptq2 bxq2 tq2 pq2 T2a arq2 kb2 kp2 t2 s2 x20 x21 x22
  go_wp2_with fail
  rw [rounds_succ]
  go_wp2_with fail
  obtain ⟨ptz, bxz, Tz, pz, arz⟩ := HZ2.out
  obtain ⟨Th, pz1⟩ := HT.out
  obtain ⟨p0, p1⟩ := HPM.out
  obtain ⟨ptc, Tc⟩ := ptz.count (s + 1 + 1)
  go_ret
  refine ⟨rfl, [⟨t + delay, s, .slice Ab1 (bentL l kind num).length cb1, bentL l kind num⟩, ⟨t + 2 * delay, s + 1, .slice Ab2 (bentL l kind num).length cb2, bentL l kind num⟩], rfl, ?_, (Th.trans Tz).trans Tc, fun p hp => by simp only [List.mem_cons, List.not_mem_nil, or_false] at hp; rcases hp with rfl | rfl; exact HP1.out.2.2.2.2; exact HP2.out.2.2.2.2⟩
  have hpp : qp2.Perm (P1 ++ [⟨t + delay, s, .slice Ab1 (bentL l kind num).length cb1, bentL l kind num⟩, ⟨t + 2 * delay, s + 1, .slice Ab2 (bentL l kind num).length cb2, bentL l kind num⟩]) := by
    have := pz.trans ((pz1.trans (p1.append_right _)).append_right _)
    rwa [List.append_assoc] at this
  have hs2 : s + (([(t + delay, s, bentL l kind num), (t + 2 * delay, s + 1, bentL l kind num)] : List (Int × Int × List UInt8)).length : Int) = s + 1 + 1 := by show s + 2 = s + 1 + 1; omega
  rw [hs2]
  exact ptc.is p0 hpp (by show P0.length + (P1 ++ [_, _]).length ≤ 200; rw [List.length_append]; show _ ≤ _; simp only [List.length_cons, List.length_nil]; omega) ht (by omega)
end Go.Proofs.Ytblllengohabjaa
