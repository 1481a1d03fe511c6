/-
  network.Network.Send: one0.
-/
import Derived.Test.YtblllengohabjaaNetSend
namespace Go.Proofs.Ytblllengohabjaa
open Go.RowKit

set_option maxRecDepth 100000 in
set_option maxHeartbeats 4000000 in
theorem send_one0 (w : World) (B g : Nat) (t s : Int) (P0 P1 : List Pk) (h : NetIs w B g t s P0 P1) (kind delay num : Int) (A : Option Addr) (n c : Nat) (l : List UInt8) (har : ArgBytes w B A n c l) (hn : n ≤ 1048576) (hnum : -9223372036854775808 ≤ num ∧ num ≤ 9223372036854775807)
    (hf : fateOk 0 kind delay = true) (hroom : P0.length + P1.length + 1 ≤ 200) (hk1 : kind ≠ 1) (hk2 : kind ≠ 2) (hst : s < 1099511627776) :
    Calls Try.prog 9 #[.pointer (some ⟨g, 0, none⟩), .int .i64 0, .slice A n c, .agg #[.int .i64 kind, .int .i64 delay, .int .i64 num]] w (SendPost w B g 0 t s P0 P1 [(t + delay, s, bentL l kind num)]) := by
  obtain ⟨v0, v1, q0, q1, hpt, p0, p1⟩ := h.parts
  have hfew := h.few
  have ht := h.time
  have hs := h.sent
  have hgl := h.lt
  have hbase := hpt.base
  have hbx : Blk (w.alloc (.cells #[.int .i64 kind, .int .i64 delay, .int .i64 num] 31)) w.heap.size 31 #[.int .i64 kind, .int .i64 delay, .int .i64 num] := Blk.new _ _ _
  have hpt1 : Parts (w.alloc (.cells #[.int .i64 kind, .int .i64 delay, .int .i64 num] 31)) B g t s v0 v1 q0 q1 := hpt.quiet ((Mod.refl _ _).alloc _)
  have hn1 : NetIs (w.alloc (.cells #[.int .i64 kind, .int .i64 delay, .int .i64 num] 31)) B g t s P0 P1 := h.quiet ((Mod.refl _ _).alloc _)
  have T1 : TMod B netT w (w.alloc (.cells #[.int .i64 kind, .int .i64 delay, .int .i64 num] 31)) := (TMod.refl _ _ _).alloc _
  have har1 : ArgBytes (w.alloc (.cells #[.int .i64 kind, .int .i64 delay, .int .i64 num] 31)) B A n c l := har.tmod T1 (by decide)
  clear h hpt har
  unfold fateOk at hf
  simp only [decide_eq_true_eq] at hf
  obtain ⟨_, _, k1, k2, d1, d2⟩ := hf
  have e1 : (kind == 1) = false := beq_eq_false_iff_ne.2 hk1
  have e2 : (kind == 2) = false := beq_eq_false_iff_ne.2 hk2
  have HPM := Lib.hid (And.intro p0 p1)
  have hql : q0.length < 1000 := by have := p0.length_eq; omega
  clear hk1 hk2 p0 p1
  go_enter Try.func9, Try.ntmps9
  go_wp2_with fail
  generalize w.alloc (.cells #[.int .i64 kind, .int .i64 delay, .int .i64 num] 31) = w1 at *
  refine (netLen _ B g t s P0 P1 hn1).mono ?_
  rintro e w2 ⟨rfl, rfl⟩
  clear hn1
  go_wp2_with fail
  refine wp_loop_rounds 2 ?_; rw [rounds_succ]
  go_wp2_with fail
  obtain ⟨hc1, hf1⟩ := hpt1.blk.both
  have t1 : w1.cell? ⟨g, 0, none⟩ = some (.int .i64 t) := hc1 0
  have s1 : w1.cell? ⟨g, 1, none⟩ = some (.int .i64 s) := hc1 1
  have x10 : w1.cell? ⟨w.heap.size, 0, none⟩ = some (.int .i64 kind) := hbx.cell 0
  have x11 : w1.cell? ⟨w.heap.size, 1, none⟩ = some (.int .i64 delay) := hbx.cell 1
  have x12 : w1.cell? ⟨w.heap.size, 2, none⟩ = some (.int .i64 num) := hbx.cell 2
  have HB1 := Lib.hid (And.intro hpt1 (And.intro hbx har1))
  clear hc1 hf1 hpt1 hbx har1
  have HW1 : Hid (IntKind.i64.wrap (t + IntKind.i64.wrap (IntKind.i64.wrap 1 * delay)) = t + delay) := by have := due_wrap t delay 1 (by omega) ht (by omega); rwa [Int.one_mul] at this
  have hws1 : w.heap.size ≤ w1.heap.size := T1.size
  go_region_held3 (fun w' => w'.cell? ⟨g, 0, none⟩ = some (.int .i64 t) ∧ w'.cell? ⟨g, 1, none⟩ = some (.int .i64 s) ∧ w'.cell? ⟨w.heap.size, 0, none⟩ = some (.int .i64 kind) ∧ w'.cell? ⟨w.heap.size, 1, none⟩ = some (.int .i64 delay) ∧ w'.cell? ⟨w.heap.size, 2, none⟩ = some (.int .i64 num)) (first | exact ⟨t1, s1, x10, x11, x12⟩ | exact kb1 | exact kp1) (first | (go_at_call 19; refine (bend_any _ A n c l kind delay num (HB1.out.2.2.tmod ((TMod.refl B netT _).drew) (by decide)).1 hn hnum).mono ?_; rintro e wb1 ⟨vb1, rfl, hv1, mb1⟩; have ptb1 := (HB1.out.1.quiet ((Mod.refl _ _).drew)).quiet mb1; have bxb1 := (Blk.drew HB1.out.2.1).keep mb1 (fun h => h); have kb1 : wb1.cell? ⟨g, 0, none⟩ = some (.int .i64 t) ∧ wb1.cell? ⟨g, 1, none⟩ = some (.int .i64 s) ∧ wb1.cell? ⟨w.heap.size, 0, none⟩ = some (.int .i64 kind) ∧ wb1.cell? ⟨w.heap.size, 1, none⟩ = some (.int .i64 delay) ∧ wb1.cell? ⟨w.heap.size, 2, none⟩ = some (.int .i64 num) := ⟨ptb1.blk.cell 0, ptb1.blk.cell 1, bxb1.cell 0, bxb1.cell 1, bxb1.cell 2⟩; obtain ⟨Ab1, cb1, rfl⟩ := own_shape hv1; have hz1 : B ≤ wb1.heap.size := (by have := ptb1.blk.lt; have := ptb1.base; omega); have hv1' : Bytes wb1 B (.slice Ab1 (bentL l kind num).length cb1) (bentL l kind num) := own_base hv1 (by have h1 := HB1.out.1.blk.lt; have h2 := HB1.out.1.base; simp; omega); have fr1 : ∀ k, (Value.slice Ab1 (bentL l kind num).length cb1).ownBlock = some k → w.heap.size ≤ k := fun k hk => Nat.le_trans hws1 (show w1.heap.size ≤ k from (hv1.lt k hk).1); have HP1 := Lib.hid (And.intro ptb1 (And.intro bxb1 (And.intro hv1' (And.intro mb1 fr1)))); clear fr1 ptb1 bxb1 hv1 hv1' mb1) | (go_at_call 18; rw [HW1.out]; refine (hPush _ g 2 B _ v0 q0 ⟨t + delay, s, .slice Ab1 (bentL l kind num).length cb1, bentL l kind num⟩ HP1.out.1.blk rfl HP1.out.1.r0 ⟨_, _, _, rfl⟩ HP1.out.1.d0.sl HP1.out.1.h0 (by omega) hz1).mono ?_; rintro e wp1 ⟨vp1, qp1, rfl, pb1, pq1, pp1, ph1, pm1, pa1⟩; obtain ⟨ptp1, tp1⟩ := HP1.out.1.push0 HP1.out.2.2.1 pb1 pq1 pp1 ph1 pm1 pa1; have bxp1 := HP1.out.2.1.tmod tp1 (by decide); have kp1 : wp1.cell? ⟨g, 0, none⟩ = some (.int .i64 t) ∧ wp1.cell? ⟨g, 1, none⟩ = some (.int .i64 s) ∧ wp1.cell? ⟨w.heap.size, 0, none⟩ = some (.int .i64 kind) ∧ wp1.cell? ⟨w.heap.size, 1, none⟩ = some (.int .i64 delay) ∧ wp1.cell? ⟨w.heap.size, 2, none⟩ = some (.int .i64 num) := ⟨ptp1.blk.cell 0, ptp1.blk.cell 1, bxp1.cell 0, bxp1.cell 1, bxp1.cell 2⟩; have HQ1 := Lib.hid (And.intro ptp1 (And.intro bxp1 (And.intro tp1 pp1))); clear ptp1 bxp1 tp1 pb1 pq1 pp1 ph1 pm1 pa1))
  obtain ⟨ptq1, bxq1, tq1, pq1⟩ := HQ1.out
  have T1a : TMod B netT w1 wp1 := (((TMod.refl B netT w1).drew).trans (.of_quiet HP1.out.2.2.2.1)).trans tq1
  obtain ⟨hcq1, hfq1⟩ := ptq1.blk.both
  have arq1 := HB1.out.2.2.tmod T1a (by decide)
  have HZ1 := Lib.hid (And.intro ptq1 (And.intro bxq1 (And.intro T1a (And.intro pq1 arq1))))
  clear ptq1 bxq1 tq1 pq1 T1a arq1 kb1 kp1 t1 s1 x10 x11 x12
  go_wp2_with fail
  rw [rounds_succ]
  go_wp2_with fail
  obtain ⟨ptz, bxz, Tz, pz, arz⟩ := HZ1.out
  obtain ⟨p0, p1⟩ := HPM.out
  obtain ⟨ptc, Tc⟩ := ptz.count (s + 1)
  go_ret
  refine ⟨rfl, [⟨t + delay, s, .slice Ab1 (bentL l kind num).length cb1, bentL l kind num⟩], rfl, ?_, (T1.trans Tz).trans Tc, fun p hp => by rw [List.mem_singleton.1 hp]; exact HP1.out.2.2.2.2⟩
  exact ptc.is (pz.trans (p0.append_right _)) p1 (by show (P0 ++ [_]).length + P1.length ≤ 200; rw [List.length_append, List.length_singleton]; omega) ht (by omega)
end Go.Proofs.Ytblllengohabjaa
