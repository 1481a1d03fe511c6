/-
  network.queue.Push.
-/
import Derived.Test.YtblllengohabjaaNetDown
import Derived.Deep.RegionLaw
namespace Go.Proofs.Ytblllengohabjaa
open Go.RowKit

theorem pk_info : (Try.prog.info? 60).map (fun i => (i.zero, i.size, i.bytes)) = some (some (.agg #[.int .i64 0, .int .i64 0, .slice none 0 0]), 3, 40) := by kernel_rfl

theorem assert_pk (x : Value) (w : World) : (Instr.typeAssert (.iface 60 x) 20 60 true).run Try.prog w = .ok (.tuple #[x, .bool true]) w := by kernel_rfl

set_option maxHeartbeats 1000000 in
theorem qPush (w : World) (g off B : Nat) (cs : Array Value) (v : Value) (ps : List Pk) (p : Pk) (hb : Blk w g 55 cs) (hv : cs[off]? = some v) (h : QRow w B v ps) (hd : ∃ A n c, p.data = .slice A n c) (hn : ps.length ≤ 1000) (hB : B ≤ w.heap.size) :
    Calls Try.prog 48 #[.pointer (some ⟨g, off, none⟩), .iface 60 (.agg #[.int .i64 p.due, .int .i64 p.num, p.data])] w fun e w' => ∃ v' : Value, e = .returned (.tuple #[]) ∧ Blk w' g 55 (cs.setIfInBounds off v') ∧ QRow w' B v' (ps ++ [p]) ∧ Mod (fun k => k = g ∨ v.ownBlock = some k) w w' ∧ (v'.ownBlock = v.ownBlock ∨ ∃ k, v'.ownBlock = some k ∧ w.heap.size ≤ k) := by
  obtain ⟨A0, n0, c0, hd⟩ := hd
  obtain ⟨due, num, data, bytes⟩ := p
  dsimp only at hd
  subst hd
  obtain ⟨i0, hi0, hz0, hz1, hz2⟩ := info_parts pk_info
  obtain ⟨A, c, rfl⟩ := h.form
  have hgl := hb.lt
  have hc : w.cell? ⟨g, off, none⟩ = some (.slice A ps.length c) := by rw [hb.cell off, hv]
  have hf := hb.frozen off
  have H := Lib.hid h
  clear h
  have hta := assert_pk (.agg #[.int .i64 due, .int .i64 num, .slice A0 n0 c0])
  go_enter Try.func48, Try.ntmps48
  go_wp2_with fail
  have hb1 : Blk (w.alloc (.cells #[.int .i64 due, .int .i64 num, .slice A0 n0 c0] 60)) g 55 cs := hb.alloc _
  have hl1 : Blk (w.alloc (.cells #[.int .i64 due, .int .i64 num, .slice A0 n0 c0] 60)) w.heap.size 60 #[.int .i64 due, .int .i64 num, .slice A0 n0 c0] := Blk.new _ _ _
  have hq1 : QRow (w.alloc (.cells #[.int .i64 due, .int .i64 num, .slice A0 n0 c0] 60)) B (.slice A ps.length c) ps := H.out.alloc _
  have M1 : Mod (fun k => k = g ∨ (Value.slice A ps.length c).ownBlock = some k) w (w.alloc (.cells #[.int .i64 due, .int .i64 num, .slice A0 n0 c0] 60)) := (Mod.refl _ _).alloc _
  have hz : w.heap.size < (w.alloc (.cells #[.int .i64 due, .int .i64 num, .slice A0 n0 c0] 60)).heap.size := by simp
  have hgn : g ≠ w.heap.size := by omega
  clear hc hf
  generalize w.alloc (.cells #[.int .i64 due, .int .i64 num, .slice A0 n0 c0] 60) = w1 at *
  have hgl1 := hb1.lt
  have hc1 : w1.cell? ⟨g, off, none⟩ = some (.slice A ps.length c) := by rw [hb1.cell off, hv]
  have hf1 := hb1.frozen off
  have l0 : w1.cell? ⟨w.heap.size, 0, none⟩ = some (.int .i64 due) := hl1.cell 0
  have l1 : w1.cell? ⟨w.heap.size, 1, none⟩ = some (.int .i64 num) := hl1.cell 1
  have l2 : w1.cell? ⟨w.heap.size, 2, none⟩ = some (.slice A0 n0 c0) := hl1.cell 2
  have hne : (Value.slice A ps.length c).ownBlock ≠ some g := own_ne_blk hq1 hb1 (by decide)
  have hnl : (Value.slice A ps.length c).ownBlock ≠ some w.heap.size := fun e => by have := (H.out.lt _ e).2; omega
  have x1 : ps.length + 1 ≤ maxLen := by unfold maxLen; omega
  have x2 : (ps.length + 1) * 40 ≤ 140737488355328 := by omega
  have x3 : B ≤ ((w1.alloc (.cells #[.int .i64 due, .int .i64 num, .slice A0 n0 c0] 60)).drew).heap.size := by simp; omega
  have ho2 : ((w1.alloc (.cells #[.int .i64 due, .int .i64 num, .slice A0 n0 c0] 60)).drew).ownsRow B 60 3 (.slice A ps.length c) ps.length (pkCells ps) := (QRow.drew (h := (hq1.alloc _ : QRow (w1.alloc (.cells #[.int .i64 due, .int .i64 num, .slice A0 n0 c0] 60)) B (.slice A ps.length c) ps)))
  have hsrc : Src ((w1.alloc (.cells #[.int .i64 due, .int .i64 num, .slice A0 n0 c0] 60)).drew) 3 (some ⟨w1.heap.size, 0, none⟩) 1 [.int .i64 due, .int .i64 num, .slice A0 n0 c0] := Src.new w1 60 [.int .i64 due, .int .i64 num, .slice A0 n0 c0]
  have HX := Lib.hid (And.intro x1 (And.intro x2 (And.intro x3 (And.intro ho2 hsrc))))
  have HQ := Lib.hid (And.intro hq1 (And.intro hb1 (And.intro hl1 M1)))
  clear x1 x2 x3 ho2 hsrc hq1 hb1 hl1 M1 H
  go_region_law
    ((refine step_append_src _ (by rfl) _ _ _ (by rfl) B 60 i0 _ 3 40 Try.underlying52 hi0 hz0 hz1 hz2 rfl (by omega) (.slice A ps.length c) ps.length (pkCells ps) (by rfl) HX.out.2.2.2.1 (some ⟨w1.heap.size, 0, none⟩) 1 1 [.int .i64 due, .int .i64 num, .slice A0 n0 c0] (by rfl) HX.out.2.2.2.2 (fun h => by cases h) (fun u hu => by simp only [List.mem_cons, List.not_mem_nil, or_false] at hu; rcases hu with rfl | rfl | rfl <;> rfl) HX.out.1 HX.out.2.1 HX.out.2.2.1 ?_; intro v2 w2 hown2 hg2 hat2; have M2 : Mod (fun k => (Value.slice A ps.length c).ownBlock = some k) w1 w2 := (((Mod.refl _ _).alloc _).drew).grown hg2 (fun k hk => .inl hk); have hb2 := HQ.out.2.1.keep M2 hne; have k0 : w2.cell? ⟨g, off, none⟩ = some (.slice A ps.length c) := (by rw [hb2.cell off, hv]); have kf := hb2.frozen off; have kl := hb2.lt; have hl2 : ∀ i, w2.cell? ⟨w.heap.size, i, none⟩ = w1.cell? ⟨w.heap.size, i, none⟩ := (fun i => World.cell?_of_block (M2.block w.heap.size hz hnl)); have k1 := (hl2 0).trans l0; have k2 := (hl2 1).trans l1; have k3 := (hl2 2).trans l2; obtain ⟨A2, c2, rfl⟩ := own_shape hown2; clear hl2))
  all_goals
    obtain ⟨hq1, hb1, hl1, M1⟩ := HQ.out
    go_end0
    have hne2 : (Value.slice A2 (ps.length + 1) c2).ownBlock ≠ some g := own_ne_blk hown2 hb2 (by decide)
    refine ⟨_, rfl, hb2.set_ off _, ?_, ?_, ?_⟩
    · have := own_mod hown2 ((Mod.refl (· = g) _).setCell (p := ⟨g, off, none⟩) (by exact .inl rfl) (Value.slice A2 (ps.length + 1) c2)) (fun k hk e => hne2 (by rw [hk, e]))
      unfold QRow
      rw [pkCells_append, List.length_append]
      exact this
    · exact Mod.setCell (M1.into M2 (fun i e => .inl (.inr e))) (by exact .inl (.inl rfl)) _
    · rcases hat2 with e | e
      · exact .inl e
      · exact .inr ⟨_, e, by simp; omega⟩
end Go.Proofs.Ytblllengohabjaa
