/-
  The reference's Next.
-/
import Derived.Test.YtblllengohabjaaNetRef
namespace Go.Proofs.Ytblllengohabjaa
open Go.RowKit

/-- Is the packet one that is looked for? -/
def mat (t side : Int) (r : RP) : Prop := r.side = side ∧ r.due ≤ t
def rpAt (L : List RP) (i : Nat) : RP := L.getD i ⟨0, 0, .slice none 0 0, []⟩
theorem rpAt_get (L : List RP) (i : Nat) (h : i < L.length) : L[i]? = some (rpAt L i) := by
  unfold rpAt
  rw [List.getD_eq_getElem?_getD, List.getElem?_eq_getElem h]
  rfl
/-- Among the first k there is none. -/
def NoneTo (L : List RP) (t side : Int) (k : Nat) : Prop := ∀ j < k, ¬ mat t side (rpAt L j)
/-- Among the first k, number b is the first of the least. -/
def BestTo (L : List RP) (t side : Int) (k b : Nat) : Prop := b < k ∧ mat t side (rpAt L b) ∧ (∀ j < b, mat t side (rpAt L j) → (rpAt L b).due < (rpAt L j).due) ∧ ∀ j, b ≤ j → j < k → mat t side (rpAt L j) → (rpAt L b).due ≤ (rpAt L j).due

theorem NoneTo.skip {L : List RP} {t side : Int} {k : Nat} (h : NoneTo L t side k) (hn : ¬ mat t side (rpAt L k)) : NoneTo L t side (k + 1) := fun j hj => by
  by_cases e : j = k
  · subst e; exact hn
  · exact h j (by omega)
theorem NoneTo.take {L : List RP} {t side : Int} {k : Nat} (h : NoneTo L t side k) (hm : mat t side (rpAt L k)) : BestTo L t side (k + 1) k :=
  ⟨by omega, hm, fun j hj hmj => absurd hmj (h j hj), fun j h1 h2 _ => (show j = k by omega) ▸ Int.le_refl _⟩
theorem BestTo.skip {L : List RP} {t side : Int} {k b : Nat} (h : BestTo L t side k b) (hn : mat t side (rpAt L k) → (rpAt L b).due ≤ (rpAt L k).due) : BestTo L t side (k + 1) b :=
  ⟨by have := h.1; omega, h.2.1, h.2.2.1, fun j h1 h2 hm => by
    by_cases e : j = k
    · subst e; exact hn hm
    · exact h.2.2.2 j h1 (by omega) hm⟩
theorem BestTo.take {L : List RP} {t side : Int} {k b : Nat} (h : BestTo L t side k b) (hm : mat t side (rpAt L k)) (hlt : (rpAt L k).due < (rpAt L b).due) : BestTo L t side (k + 1) k :=
  ⟨by omega, hm, fun j hj hmj => by
    by_cases e : j < b
    · have := h.2.2.1 j e hmj; omega
    · have := h.2.2.2 j (by omega) hj hmj; omega, fun j h1 h2 _ => (show j = k by omega) ▸ Int.le_refl _⟩

def RNextRel (w : World) (L : List RP) (t side : Int) (best i : Value) (wr : World) : Prop :=
  ∃ k : Nat, k ≤ L.length ∧ i = .int .i64 k ∧ Mod (fun _ => False) w wr ∧ ((best = .int .i64 (-1) ∧ NoneTo L t side k) ∨ ∃ b : Nat, best = .int .i64 b ∧ BestTo L t side k b)

/-- What Next leaves. -/
def RNextPost (w : World) (B g : Nat) (t side : Int) (L : List RP) (e : Ending) (w' : World) : Prop :=
  (e = .returned (.tuple #[.slice none 0 0, .bool false]) ∧ NoneTo L t side L.length ∧ Mod (fun _ => False) w w') ∨
  ∃ b, BestTo L t side L.length b ∧ e = .returned (.tuple #[(rpAt L b).dat, .bool true]) ∧ RNet w' B g t (L.take b ++ L.drop (b + 1)) ∧ Bytes w' B (rpAt L b).dat (rpAt L b).bytes ∧ TMod B refT w w'

theorem rnext_cells {w wr : World} {B r c k : Nat} {L : List RP} (hrow : w.ownsRow B 63 3 (.slice (some ⟨r, 0, none⟩) L.length c) L.length (rpc L)) (hM : Mod (fun _ => False) w wr) (hk : k < L.length) :
    wr.cell? ⟨r, k * 3, none⟩ = some (.int .i64 (rpAt L k).side) ∧ wr.cell? ⟨r, k * 3 + 1, none⟩ = some (.int .i64 (rpAt L k).due) ∧ wr.cell? ⟨r, k * 3 + 2, none⟩ = some (rpAt L k).dat := by
  have h := own_mod hrow hM (fun _ _ h => h)
  obtain ⟨h1, h2, h3⟩ := rpc_at L k _ (rpAt_get L k hk)
  rw [h.cellAt (k * 3) (by omega), h.cellAt (k * 3 + 1) (by omega), h.cellAt (k * 3 + 2) (by omega)]
  rw [Nat.mul_comm] at h1 h2 h3
  exact ⟨h1, h2, h3⟩

theorem src_take {w : World} {r n : Nat} {L : List RP} (h : Src w 3 (some ⟨r, 0, none⟩) n (rpc L)) (b : Nat) (hb : b ≤ L.length) : Src w 3 (some ⟨r, 0, none⟩) b (rpc (L.take b)) := by
  refine ⟨by rw [rpc_length, List.length_take]; omega, fun e => (by cases e), fun ad e j u hu => h.2.2 ad e j u ?_⟩
  rw [rpc_take, List.getElem?_take] at hu
  split at hu
  · exact hu
  · cases hu
theorem src_drop {w : World} {r : Nat} {L : List RP} (h : Src w 3 (some ⟨r, 0, none⟩) L.length (rpc L)) (b : Nat) (hb : b ≤ L.length) (c : Nat) (hc : L.length ≤ c := by omega) : Src w 3 (if c = b then some ⟨r, 0, none⟩ else some ⟨r, b * 3, none⟩) (L.length - b) (rpc (L.drop b)) := by
  by_cases e : c = b
  · rw [if_pos e]
    have e2 : L.drop b = [] := List.drop_eq_nil_of_le (by omega)
    rw [e2]
    exact ⟨by simp [rpc]; omega, fun e => (by cases e), fun ad e j u hu => by simp [rpc] at hu⟩
  · rw [if_neg e]
    refine ⟨by rw [rpc_length, List.length_drop], fun e => (by cases e), fun ad e j u hu => ?_⟩
    injection e with e
    subst e
    rw [rpc_drop, List.getElem?_drop] at hu
    have := h.2.2 _ rfl _ _ hu
    have ha : ∀ o i, (⟨r, o, none⟩ : Addr).add i = ⟨r, o + i, none⟩ := fun o i => by unfold Addr.add; split <;> simp_all
    rw [ha] at this ⊢
    rwa [Nat.zero_add] at this
theorem RData.sub {w : World} {B : Nat} {l l' : List RP} (h : RData w B l) (hs : ∀ x ∈ l', x ∈ l) : RData w B l' := fun r hr => h r (hs r hr)

set_option maxRecDepth 100000 in
set_option maxHeartbeats 4000000 in
theorem rnext_any (w : World) (B g : Nat) (t side : Int) (L : List RP) (h : RNet w B g t L) :
    Calls Try.prog 14 #[.pointer (some ⟨g, 0, none⟩), .int .i64 side] w (RNextPost w B g t side L) := by
  obtain ⟨i0, hi0, hz0, hz1, hz2⟩ := info_parts rp_info
  obtain ⟨hB, ⟨vL, hblk, hrow⟩, hdat, hfew, ht⟩ := h
  obtain ⟨A3, c3, hv3⟩ := own_shape hrow
  subst hv3
  have HH := Lib.hid (And.intro hblk (And.intro hrow hdat))
  obtain ⟨hc, hfz⟩ := hblk.both
  have g0 : w.cell? ⟨g, 1, none⟩ = some (.slice A3 L.length c3) := hc 1
  clear hblk hrow hdat hc hfz
  go_enter Try.func14, Try.ntmps14
  go_wp2_with fail
  go_loopw [6, 7] (RNextRel w L t side) (fun _ i _ => L.length - (intOf i).toNat)
  case atStart => exact ⟨0, by omega, rfl, Mod.refl _ _, .inl ⟨rfl, fun j hj => by omega⟩⟩
  case round =>
    clear g0
    obtain ⟨k, hk, rfl, hM, hor⟩ := hrel
    have hb := HH.out.1.keep hM (fun h => h)
    obtain ⟨hc, hfz⟩ := hb.both
    have g1 : wr.cell? ⟨g, 1, none⟩ = some (.slice A3 L.length c3) := hc 1
    have g2 : wr.cell? ⟨g, 0, none⟩ = some (.int .i64 t) := hc 0
    clear hc
    by_cases hlt : k < L.length
    · obtain ⟨r, hr⟩ : ∃ r, A3 = some ⟨r, 0, none⟩ := by
        rcases HH.out.2.1.2 with ⟨_, h1⟩ | ⟨r, cap, cur, hv, _⟩
        · omega
        · injection hv with e1; exact ⟨r, e1⟩
      subst hr
      obtain ⟨k1, k2, _⟩ := rnext_cells HH.out.2.1 hM hlt
      have i1 : (0 : Int) ≤ (k : Int) := by omega
      have i2 : (k : Int) < (L.length : Int) := by omega
      obtain ⟨x, hx⟩ : ∃ x, x = rpAt L k := ⟨_, rfl⟩
      have HXX := Lib.hid hx
      rw [← hx] at k1 k2
      clear hx hb hfz
      by_cases hs : x.side = side
      · have hs1 : (x.side == side) = true := beq_iff_eq.2 hs
        by_cases hd : x.due ≤ t
        · have hd1 : decide (x.due ≤ t) = true := by simpa using hd
          have hm : Hid (mat t side (rpAt L k)) := by rw [← HXX.out]; exact ⟨hs, hd⟩
          clear hs
          rcases hor with ⟨rfl, hno⟩ | ⟨b, rfl, hbest⟩
          · have HN := Lib.hid hno
            clear hno
            go_wp2_with fail
            go_quiet (fail)
            go_wp2_with fail
            go_roundw
            case rel => exact ⟨k + 1, by omega, by go_num, hM.drewN _, .inr ⟨k, rfl, HN.out.take hm.out⟩⟩
            case measure => simp [intOf]; omega
          · have hbk := hbest.1
            obtain ⟨b1, b2, _⟩ := rnext_cells HH.out.2.1 hM (show b < L.length by omega)
            obtain ⟨y, hy⟩ : ∃ y, y = rpAt L b := ⟨_, rfl⟩
            have HYY := Lib.hid hy
            rw [← hy] at b2
            have HN := Lib.hid hbest
            have j1 : (0 : Int) ≤ (b : Int) := by omega
            have j2 : (b : Int) < (L.length : Int) := by omega
            have j3 : decide ((b : Int) < 0) = false := by simp
            clear hy hbest b1
            by_cases hl : x.due < y.due
            · have hl1 : decide (x.due < y.due) = true := by simpa using hl
              go_wp2_with fail
              go_quiet (fail)
              go_wp2_with fail
              go_roundw
              case rel => exact ⟨k + 1, by omega, by go_num, hM.drewN _, .inr ⟨k, rfl, HN.out.take hm.out (by rw [← HXX.out, ← HYY.out]; exact hl)⟩⟩
              case measure => simp [intOf]; omega
            · have hl1 : decide (x.due < y.due) = false := by simpa using hl
              go_wp2_with fail
              go_quiet (fail)
              go_wp2_with fail
              go_roundw
              case rel => exact ⟨k + 1, by omega, by go_num, hM.drewN _, .inr ⟨b, rfl, HN.out.skip (fun _ => by rw [← HXX.out, ← HYY.out]; omega)⟩⟩
              case measure => simp [intOf]; omega
        · have hd1 : decide (x.due ≤ t) = false := by simpa using hd
          have hm : Hid (¬ mat t side (rpAt L k)) := by rw [← HXX.out]; exact fun h => hd h.2
          have HO : Hid ((u6 = .int .i64 (-1) ∧ NoneTo L t side (k + 1)) ∨ ∃ b : Nat, u6 = .int .i64 b ∧ BestTo L t side (k + 1) b) := hor.imp (fun h => ⟨h.1, h.2.skip hm.out⟩) (fun ⟨b, h1, h2⟩ => ⟨b, h1, h2.skip (fun h => absurd h hm.out)⟩)
          clear hor hs
          go_wp2_with fail
          go_quiet (fail)
          go_wp2_with fail
          go_roundw
          case rel => exact ⟨k + 1, by omega, by go_num, hM.drewN _, HO.out⟩
          case measure => simp [intOf]; omega
      · have hs1 : (x.side == side) = false := beq_eq_false_iff_ne.2 hs
        have hm : Hid (¬ mat t side (rpAt L k)) := by rw [← HXX.out]; exact fun h => hs h.1
        have HO : Hid ((u6 = .int .i64 (-1) ∧ NoneTo L t side (k + 1)) ∨ ∃ b : Nat, u6 = .int .i64 b ∧ BestTo L t side (k + 1) b) := hor.imp (fun h => ⟨h.1, h.2.skip hm.out⟩) (fun ⟨b, h1, h2⟩ => ⟨b, h1, h2.skip (fun h => absurd h hm.out)⟩)
        clear hor hs
        go_wp2_with fail
        go_quiet (fail)
        go_wp2_with fail
        go_roundw
        case rel => exact ⟨k + 1, by omega, by go_num, hM.drewN _, HO.out⟩
        case measure => simp [intOf]; omega
    · obtain rfl : k = L.length := by omega
      rcases hor with ⟨rfl, hno⟩ | ⟨b, rfl, hbest⟩
      · have HN := Lib.hid hno
        clear hno hb hfz
        go_wp2_with fail
        go_ret2
        exact .inl ⟨rfl, HN.out, hM⟩
      · have hbl := hbest.1
        have HN := Lib.hid hbest
        clear hbest
        obtain ⟨r, hr⟩ : ∃ r, A3 = some ⟨r, 0, none⟩ := by
          rcases HH.out.2.1.2 with ⟨_, h1⟩ | ⟨r, cap, cur, hv, _⟩
          · omega
          · injection hv with e1; exact ⟨r, e1⟩
        subst hr
        have hcap : L.length ≤ c3 := by
          rcases HH.out.2.1.2 with ⟨hv, _⟩ | ⟨_, _, _, hv, _, _, h, _⟩
          · cases hv
          · injection hv with _ _ h3; omega
        obtain ⟨_, _, k3⟩ := rnext_cells HH.out.2.1 hM hbl
        have hby := own_mod (HH.out.2.2 _ (List.mem_of_getElem? (rpAt_get L b hbl))) hM (fun _ _ h => h)
        obtain ⟨A9, c9, h9⟩ := own_shape hby
        have HBY := Lib.hid hby
        have H9 := Lib.hid h9
        rw [h9] at k3
        have i1 : (0 : Int) ≤ (b : Int) := by omega
        have i2 : (b : Int) < (L.length : Int) := by omega
        have i3 : decide ((b : Int) < 0) = false := by simp
        have i4 : (b : Int) + 1 ≤ (L.length : Int) := by omega
        have i5 : (b : Int) ≤ (c3 : Int) := by omega
        have i6 : (b : Int) + 1 ≤ (c3 : Int) := by omega
        have hgl := hb.lt
        have hrow := own_mod HH.out.2.1 hM (fun _ _ h => h)
        have hdat := HH.out.2.2.tmod (B' := 0) (T := fun _ => false) (.of_quiet hM) rfl
        have HB := Lib.hid (And.intro hb (And.intro hrow (And.intro hdat hM)))
        have hfg := hfz 1
        clear hb hby h9 hrow hdat hfz HH hM
        have g3 : wr.frozen? ⟨g, 1, none⟩ = false := hfg
        clear hfg
        go_wp2_with fail
        have y1 : IntKind.i64.wrap ((b : Int) + 1) = (b : Int) + 1 := IntWalk.i64_in _ ⟨by omega, by omega⟩
        have y2 : (0 : Int) ≤ (b : Int) + 1 := by omega
        have y3 : ((b : Int) + 1).toNat = b + 1 := by omega
        have ho1 : ((wr.alloc (.cells #[] 63)).drew).ownsRow B 63 3 (.slice (some ⟨wr.heap.size, 0, none⟩) 0 0) 0 [] := World.ownsRow_made wr #[] 0 (by omega) (by decide) rfl
        have s1 : Src ((wr.alloc (.cells #[] 63)).drew) 3 (some ⟨r, 0, none⟩) b (rpc (L.take b)) := src_take (Src.of_own (own_mod HB.out.2.1 (((Mod.refl (fun _ => False) wr).alloc (.cells #[] 63)).drew) (fun _ _ h => h))).2 b (by omega)
        have x1 : 0 + b ≤ maxLen := by unfold maxLen; omega
        have x2 : (0 + b) * 40 ≤ 140737488355328 := by omega
        have x3 : B ≤ ((wr.alloc (.cells #[] 63)).drew).heap.size := by simp; omega
        have x4 : ∀ u ∈ rpc (L.take b), u.oneCell' = true := RData.one (fun r hr => HB.out.2.2.1 r (List.mem_of_mem_take hr))
        have HX := Lib.hid (And.intro x1 (And.intro x2 (And.intro x3 (And.intro ho1 (And.intro s1 x4)))))
        clear x1 x2 x3 x4 ho1 s1
        go_region_law
          (first
            | (refine step_append_src _ (by rfl) (.tmp 78) (.tmp 84) _ (by rfl) B 63 i0 _ 3 40 Try.underlying26 hi0 hz0 hz1 hz2 rfl (by omega) (.slice (some ⟨wr.heap.size, 0, none⟩) 0 0) 0 [] (by rfl) HX.out.2.2.2.1 (some ⟨r, 0, none⟩) b c3 (rpc (L.take b)) (by rfl) HX.out.2.2.2.2.1 (fun h => by cases h) HX.out.2.2.2.2.2 HX.out.1 HX.out.2.1 HX.out.2.2.1 ?_; intro v4 w4 hown4 hg4 hat4; have M4 : Mod (fun _ => False) wr w4 := (((Mod.refl _ _).alloc _).drew).grown hg4 (fun k hk => .inr (by simp [Value.ownBlock] at hk; omega)); have hv4 : ∀ k, v4.ownBlock = some k → wr.heap.size ≤ k := (fun k hk => by rcases hat4 with e | e <;> (rw [e] at hk; simp [Value.ownBlock] at hk; omega)); have bk4 := HB.out.1.keep M4 (fun h => h); have q1 : w4.cell? ⟨g, 1, none⟩ = some (.slice (some ⟨r, 0, none⟩) L.length c3) := bk4.cell 1; have q2 := bk4.frozen 1; have q3 := bk4.lt; simp only [Nat.zero_add, List.nil_append] at hown4; obtain ⟨A4, c4, hv4'⟩ := own_shape hown4; subst hv4'; have s4 := src_drop (Src.of_own (own_mod HB.out.2.1 M4 (fun _ _ h => h))).2 (b + 1) (by omega) c3; have HY := Lib.hid (And.intro hown4 (And.intro M4 (And.intro hv4 s4))); clear hown4 hg4 hat4 M4 hv4 bk4 s4)
            | (refine step_append_src _ (by rfl) (.tmp 85) (.tmp 92) _ (by rfl) B 63 i0 _ 3 40 Try.underlying26 hi0 hz0 hz1 hz2 rfl (by omega) (.slice A4 b c4) b (rpc (L.take b)) (by rfl) HY.out.1 (if c3 = b + 1 then some ⟨r, 0, none⟩ else some ⟨r, (b + 1) * 3, none⟩) (L.length - (b + 1)) (c3 - (b + 1)) (rpc (L.drop (b + 1))) (by rfl) HY.out.2.2.2 (fun h => by split at h <;> cases h) (RData.one (fun r hr => HB.out.2.2.1 r (List.mem_of_mem_drop hr))) (by unfold maxLen; omega) (by omega) (by have := HY.out.2.1.size; omega) ?_; intro v5 w5 hown5 hg5 hat5; have M5 : Mod (fun k => wr.heap.size ≤ k) wr w5 := (HY.out.2.1.mono (fun _ h => h.elim)).grown hg5 (fun k hk => .inl (HY.out.2.2.1 k hk)); have bk5 := HB.out.1.keep M5 (by omega); have q4 : w5.cell? ⟨g, 1, none⟩ = some (.slice (some ⟨r, 0, none⟩) L.length c3) := bk5.cell 1; have q5 := bk5.frozen 1; have q6 := bk5.lt; obtain ⟨A5, c5, hv5⟩ := own_shape hown5; subst hv5; have HZ := Lib.hid (And.intro hown5 (And.intro M5 bk5)); clear hown5 hg5 hat5 M5 bk5))
        all_goals clear y1 y2 y3
        all_goals (go_wp2_with fail)
        all_goals
          go_ret2
          obtain ⟨a1, a2, a3, a4⟩ := HB.out
          obtain ⟨z1, z2, z3⟩ := HZ.out
          have Mq : Mod (fun _ => False) wr w5 := ⟨z2.os, z2.tape, z2.output, z2.size, fun k hk _ => z2.block k hk (by omega)⟩
          have T7 : TMod 0 (fun _ => false) wr w5 := .of_quiet Mq
          have T6 : TMod 0 (fun t => t == 28) w5 (w5.setCell ⟨g, 1, none⟩ (.slice A5 (b + (L.length - (b + 1))) c5)) := (TMod.refl _ _ _).setCell z3 (Nat.zero_le _) (by decide) _
          have T5 : TMod B refT w (w5.setCell ⟨g, 1, none⟩ (.slice A5 (b + (L.length - (b + 1))) c5)) := (TMod.of_quiet (a4.trans Mq)).setCell z3 hB (by decide) _
          have elen : (L.take b ++ L.drop (b + 1)).length = b + (L.length - (b + 1)) := by rw [List.length_append, List.length_take, List.length_drop]; omega
          refine .inr ⟨b, HN.out, by rw [H9.out]; rfl, ⟨hB, ⟨_, z3.put rfl, ?_⟩, ?_, by omega, ht⟩, own_tmod (own_tmod HBY.out T7 rfl) T6 (by decide), T5⟩
          · rw [elen, rpc_append]
            exact own_tmod z1 T6 (by decide)
          · refine ((a3.tmod T7 rfl).tmod T6 (by decide)).sub (fun x hx => ?_)
            rcases List.mem_append.1 hx with hx | hx
            · exact List.mem_of_mem_take hx
            · exact List.mem_of_mem_drop hx
end Go.Proofs.Ytblllengohabjaa
