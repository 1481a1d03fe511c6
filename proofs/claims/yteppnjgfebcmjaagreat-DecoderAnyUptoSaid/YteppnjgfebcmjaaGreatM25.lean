/-
  intra: what is around a block, and the four modes.
-/
import Derived.Test.YteppnjgfebcmjaaGreatM24
import Derived.Test.YteppnjgfebcmjaaGreatM17
import Derived.Laws.Tables
import Derived.Laws.Rows
import Derived.StillTailTactics
namespace Go.Proofs.YteppnjgfebcmjaaGreat
open Go.RowKit

/-- What is around a block of eight, as cells. -/
def arL (ab lf : List UInt8) (co : UInt8) : List Value := .int .i64 8 :: (u8s ab ++ (u8s lf ++ [.int .u8 (co.toNat : Int)]))
def arV (ab lf : List UInt8) (co : UInt8) : Array Value := (arL ab lf co).toArray
section
variable {ab lf : List UInt8} {co : UInt8} {w : World} {p : Nat}
theorem ar_n (hb : Blk w p 223 (arV ab lf co)) : w.cell? ⟨p, 0, none⟩ = some (.int .i64 8) := hb.cell 0
theorem ar_above (hb : Blk w p 223 (arV ab lf co)) (h1 : ab.length = 8) {i : Nat} (hi : i < 8) : w.cell? ⟨p, 1 + i, none⟩ = some (.int .u8 ((ab.getD i 0).toNat : Int)) := by
  rw [hb.cell, arV, List.getElem?_toArray, arL, Nat.add_comm 1 i, List.getElem?_cons_succ, List.getElem?_append_left (by rw [u8s_length]; omega)]
  simp [u8s, h1, hi]
theorem ar_left (hb : Blk w p 223 (arV ab lf co)) (h1 : ab.length = 8) (h2 : lf.length = 8) {i : Nat} (hi : i < 8) : w.cell? ⟨p, 9 + i, none⟩ = some (.int .u8 ((lf.getD i 0).toNat : Int)) := by
  rw [hb.cell, arV, List.getElem?_toArray, arL, show 9 + i = (8 + i) + 1 by omega, List.getElem?_cons_succ, List.getElem?_append_right (by rw [u8s_length]; omega), u8s_length, h1, Nat.add_sub_cancel_left, List.getElem?_append_left (by rw [u8s_length]; omega)]
  simp [u8s, h2, hi]
theorem ar_corner (hb : Blk w p 223 (arV ab lf co)) (h1 : ab.length = 8) (h2 : lf.length = 8) : w.cell? ⟨p, 17, none⟩ = some (.int .u8 (co.toNat : Int)) := by
  rw [hb.cell, arV, List.getElem?_toArray, arL, show 17 = 16 + 1 by omega, List.getElem?_cons_succ, List.getElem?_append_right (by rw [u8s_length]; omega), u8s_length, h1, List.getElem?_append_right (by rw [u8s_length]; omega), u8s_length, h2]
  rfl
theorem ar_set_above {v : Nat} (h1 : ab.length = 8) {i : Nat} (hi : i < 8) (hv : v < 256) : (arV ab lf co).setIfInBounds (1 + i) (.int .u8 (v : Int)) = arV (ab.set i (UInt8.ofNat v)) lf co := by
  have e := u8s_set ab i v hv
  unfold arV arL
  rw [List.setIfInBounds_toArray, Nat.add_comm 1 i, List.set_cons_succ, List.set_append_left _ _ (by rw [u8s_length]; omega), e]
theorem ar_set_left {v : Nat} (h1 : ab.length = 8) (h2 : lf.length = 8) {i : Nat} (hi : i < 8) (hv : v < 256) : (arV ab lf co).setIfInBounds (9 + i) (.int .u8 (v : Int)) = arV ab (lf.set i (UInt8.ofNat v)) co := by
  have e := u8s_set lf i v hv
  unfold arV arL
  rw [List.setIfInBounds_toArray, show 9 + i = (8 + i) + 1 by omega, List.set_cons_succ, List.set_append_right _ _ (by rw [u8s_length]; omega), u8s_length, h1, Nat.add_sub_cancel_left, List.set_append_left _ _ (by rw [u8s_length]; omega), e]
theorem ar_set_corner {v : Nat} (h1 : ab.length = 8) (h2 : lf.length = 8) (hv : v < 256) : (arV ab lf co).setIfInBounds 17 (.int .u8 (v : Int)) = arV ab lf (UInt8.ofNat v) := by
  unfold arV arL
  rw [List.setIfInBounds_toArray, show 17 = 16 + 1 by omega, List.set_cons_succ, List.set_append_right _ _ (by rw [u8s_length]; omega), u8s_length, h1, List.set_append_right _ _ (by rw [u8s_length]; omega), u8s_length, h2]
  simp [UInt8.toNat_ofNat', Nat.mod_eq_of_lt hv]
end

set_option maxRecDepth 100000 in
theorem iDown (w : World) (ab lf : List UInt8) (co : UInt8) (h1 : ab.length = 8) (x : Nat) (y : Int) (hx : x < 8) : Calls Tryz.prog 184 #[.agg (arV ab lf co), .int .i64 (x : Int), .int .i64 y] w fun e w' => e = .returned (.int .u8 ((ab.getD x 0).toNat : Int)) ∧ Mod (fun _ => False) w w' := by
  have hb : Blk (w.alloc (.cells (arV ab lf co) 223)) w.heap.size 223 (arV ab lf co) := Blk.new _ _ _
  have k0 := ar_above hb h1 hx
  generalize (ab.getD x 0).toNat = v at *
  generalize arV ab lf co = cs at *
  clear hb
  go_enter Tryz.func184, Tryz.ntmps184
  go_wp2_with fail
  go_ret
  exact ⟨rfl, (Mod.refl _ _).alloc _⟩
set_option maxRecDepth 100000 in
theorem iAcross (w : World) (ab lf : List UInt8) (co : UInt8) (h1 : ab.length = 8) (h2 : lf.length = 8) (x : Int) (y : Nat) (hy : y < 8) : Calls Tryz.prog 185 #[.agg (arV ab lf co), .int .i64 x, .int .i64 (y : Int)] w fun e w' => e = .returned (.int .u8 ((lf.getD y 0).toNat : Int)) ∧ Mod (fun _ => False) w w' := by
  have hb : Blk (w.alloc (.cells (arV ab lf co) 223)) w.heap.size 223 (arV ab lf co) := Blk.new _ _ _
  have k0 := ar_left hb h1 h2 hy
  generalize (lf.getD y 0).toNat = v at *
  generalize arV ab lf co = cs at *
  clear hb
  go_enter Tryz.func185, Tryz.ntmps185
  go_wp2_with fail
  go_ret
  exact ⟨rfl, (Mod.refl _ _).alloc _⟩

def slopeN (ab lf : List UInt8) (co : UInt8) (x y : Nat) : Nat := clipN (((ab.getD x 0).toNat : Int) + ((lf.getD y 0).toNat : Int) - (co.toNat : Int))
set_option maxRecDepth 100000 in
set_option maxHeartbeats 1000000 in
theorem iSlope (w : World) (ab lf : List UInt8) (co : UInt8) (h1 : ab.length = 8) (h2 : lf.length = 8) (x y : Nat) (hx : x < 8) (hy : y < 8) : Calls Tryz.prog 186 #[.agg (arV ab lf co), .int .i64 (x : Int), .int .i64 (y : Int)] w fun e w' => e = .returned (.int .u8 ((slopeN ab lf co x y : Nat) : Int)) ∧ Mod (fun _ => False) w w' := by
  have hb : Blk (w.alloc (.cells (arV ab lf co) 223)) w.heap.size 223 (arV ab lf co) := Blk.new _ _ _
  have k0 := ar_above hb h1 hx
  have k1 := ar_left hb h1 h2 hy
  have k2 := ar_corner hb h1 h2
  have x0 : (ab.getD x 0).toNat < 256 := UInt8.toNat_lt _
  have x1 : (lf.getD y 0).toNat < 256 := UInt8.toNat_lt _
  have x2 : co.toNat < 256 := UInt8.toNat_lt _
  unfold slopeN
  generalize (ab.getD x 0).toNat = u at *
  generalize (lf.getD y 0).toNat = v at *
  generalize co.toNat = z at *
  have M0 : Mod (fun _ => False) w (w.alloc (.cells (arV ab lf co) 223)) := (Mod.refl _ _).alloc _
  generalize arV ab lf co = cs at *
  clear hb
  have e0 : IntKind.i64.wrap (u : Int) = (u : Int) := IntWalk.i64_in _ ⟨by omega, by omega⟩
  have e1 : IntKind.i64.wrap (v : Int) = (v : Int) := IntWalk.i64_in _ ⟨by omega, by omega⟩
  have e2 : IntKind.i64.wrap (z : Int) = (z : Int) := IntWalk.i64_in _ ⟨by omega, by omega⟩
  have e3 : IntKind.i64.wrap ((u : Int) + (v : Int)) = (u : Int) + (v : Int) := IntWalk.i64_in _ ⟨by omega, by omega⟩
  have e4 : IntKind.i64.wrap ((u : Int) + (v : Int) - (z : Int)) = (u : Int) + (v : Int) - (z : Int) := IntWalk.i64_in _ ⟨by omega, by omega⟩
  have p0 : (0 : Int) ≤ (x : Int) := by omega
  have p1 : (x : Int) < 8 := by omega
  have p2 : (0 : Int) ≤ (y : Int) := by omega
  have p3 : (y : Int) < 8 := by omega
  have q0 : -9223372036854775808 ≤ (u : Int) + (v : Int) - (z : Int) ∧ (u : Int) + (v : Int) - (z : Int) ≤ 9223372036854775807 := ⟨by omega, by omega⟩
  have HQ := Lib.hid (And.intro q0 (And.intro M0 (And.intro e0 (And.intro e1 (And.intro e2 (And.intro e3 e4))))))
  clear q0 M0 e0 e1 e2 e3 e4
  go_enter Tryz.func186, Tryz.ntmps186
  go_wp2_with fail
  obtain ⟨_, _, e0, e1, e2, e3, e4⟩ := HQ.out
  go_quiet ((go_at_call 88; exact Calls.quiet_of_same ((clip_any _ _ HQ.out.1).mono fun _ _ ⟨a, b⟩ => ⟨a, b.symm⟩)))
  clear e0 e1 e2 e3 e4
  go_wp2_with fail
  go_ret
  exact ⟨rfl, HQ.out.2.1.drewN _⟩

def flS (ab lf : List UInt8) : Nat → Nat
  | 0 => 8
  | k + 1 => flS ab lf k + ((ab.getD k 0).toNat + (lf.getD k 0).toNat)
theorem flS_le (ab lf : List UInt8) : ∀ k, flS ab lf k ≤ 8 + 510 * k
  | 0 => Nat.le_refl _
  | k + 1 => by
    have := flS_le ab lf k
    have h1 : (ab.getD k 0).toNat < 256 := UInt8.toNat_lt _
    have h2 : (lf.getD k 0).toNat < 256 := UInt8.toNat_lt _
    unfold flS
    omega
def flatN (ab lf : List UInt8) : Nat := flS ab lf 8 / 16
def FlatRel (w : World) (p : Nat) (cs : Array Value) (ab lf : List UInt8) (s7 s13 : Value) (wr : World) : Prop :=
  ∃ k : Nat, k ≤ 8 ∧ s13 = .int .i64 (k : Int) ∧ s7 = .int .i64 ((flS ab lf k : Nat) : Int) ∧ Sat (fun _ => False) w wr [⟨p, 223, cs⟩] []
set_option maxRecDepth 100000 in
set_option maxHeartbeats 1000000 in
theorem iFlat (w : World) (ab lf : List UInt8) (co : UInt8) (h1 : ab.length = 8) (h2 : lf.length = 8) (x y : Int) : Calls Tryz.prog 183 #[.agg (arV ab lf co), .int .i64 x, .int .i64 y] w fun e w' => e = .returned (.int .u8 ((flatN ab lf : Nat) : Int)) ∧ Mod (fun _ => False) w w' := by
  have HS := (Sat.nil (fun _ => False) w).alloc 223 (arV ab lf co) rfl
  have k0 := ar_n (HS.own_ 0 rfl)
  have H0 := Lib.hid HS
  clear HS
  obtain ⟨cs, hcs⟩ : ∃ cs, cs = arV ab lf co := ⟨_, rfl⟩
  rw [← hcs] at k0 H0 ⊢
  have HC := Lib.hid hcs
  clear hcs
  go_enter Tryz.func183, Tryz.ntmps183
  go_wp2_with fail
  clear k0
  go_loopw [7, 13] (FlatRel w w.heap.size cs ab lf) (fun _ s _ => 8 - (intOf s).toNat)
  case atStart => exact ⟨0, by omega, rfl, rfl, H0.out⟩
  case round =>
    clear H0
    obtain ⟨k, hk, rfl, rfl, HS⟩ := hrel
    have hfl := flS_le ab lf k
    by_cases hlt : k < 8
    · have hb := HS.own_ 0 rfl
      dsimp only at hb
      rw [HC.out] at hb
      have c0 := ar_above hb h1 hlt
      have c1 := ar_left hb h1 h2 hlt
      have x0 : (ab.getD k 0).toNat < 256 := UInt8.toNat_lt _
      have x1 : (lf.getD k 0).toNat < 256 := UInt8.toNat_lt _
      have hst : flS ab lf (k + 1) = flS ab lf k + ((ab.getD k 0).toNat + (lf.getD k 0).toNat) := rfl
      generalize (ab.getD k 0).toNat = u at *
      generalize (lf.getD k 0).toNat = v at *
      obtain ⟨z, hz⟩ : ∃ z, z = flS ab lf k := ⟨_, rfl⟩
      rw [← hz] at hfl hst ⊢
      have e0 : IntKind.i64.wrap (u : Int) = (u : Int) := IntWalk.i64_in _ ⟨by omega, by omega⟩
      have e1 : IntKind.i64.wrap (v : Int) = (v : Int) := IntWalk.i64_in _ ⟨by omega, by omega⟩
      have e3 : IntKind.i64.wrap ((u : Int) + (v : Int)) = (u : Int) + (v : Int) := IntWalk.i64_in _ ⟨by omega, by omega⟩
      have e4 : IntKind.i64.wrap ((z : Int) + ((u : Int) + (v : Int))) = (z : Int) + ((u : Int) + (v : Int)) := IntWalk.i64_in _ ⟨by omega, by omega⟩
      have p0 : (0 : Int) ≤ (k : Int) := by omega
      have p1 : (k : Int) < 8 := by omega
      have HK := Lib.hid (And.intro HS (And.intro hst (And.intro e0 (And.intro e1 (And.intro e3 e4)))))
      clear HS hst hb e0 e1 e3 e4 hz
      go_upto_region 5 with (fail)
      obtain ⟨_, _, e0, e1, e3, e4⟩ := HK.out
      go_quiet (fail)
      clear e0 e1 e3 e4
      go_wp2_with fail
      go_roundw
      case rel => exact ⟨k + 1, by omega, by go_num, by rw [HK.out.2.1]; go_num, HK.out.1.drewN _⟩
      case measure => simp [intOf]; omega
    · obtain rfl : k = 8 := by omega
      have k0 : wr.cell? ⟨w.heap.size, 0, none⟩ = some (.int .i64 8) := by
        have hb := HS.own_ 0 rfl
        dsimp only at hb
        rw [HC.out] at hb
        exact ar_n hb
      have HK := Lib.hid HS
      clear HS
      obtain ⟨z, hz⟩ : ∃ z, z = flS ab lf 8 := ⟨_, rfl⟩
      rw [← hz] at hfl ⊢
      have HZ := Lib.hid hz
      clear hz
      go_wp2_with fail
      go_ret
      refine ⟨congrArg (fun z => Ending.returned (.int .u8 z)) ?_, HK.out.mod⟩
      unfold flatN
      rw [← HZ.out]
      omega
end Go.Proofs.YteppnjgfebcmjaaGreat

/-
  Whole rows: an aggregate stored into a part of a block; a whole block loaded.
-/
namespace Go.Proofs.YteppnjgfebcmjaaGreat
open Go.RowKit

section
variable {P : Program}
theorem run_storeCells_part (g : Nat) (t : TypeId) (off : Nat) : ∀ (vs : List Value) (i : Nat) (cur : List Value) (w : World), Blk w g t cur.toArray → off + i + vs.length ≤ cur.length → (∀ v ∈ vs, v.oneCell' = true) →
    ∃ w', (storeCells ⟨g, off, none⟩ vs i).run P w = .ok () w' ∧ Blk w' g t (splice cur (off + i) vs).toArray ∧ Mod (· = g) w w'
  | [], i, cur, w, hb, hl, h1 => ⟨w, rfl, by
      have : splice cur (off + i) [] = cur := by simp [splice]
      rw [this]; exact hb, Mod.refl _ _⟩
  | v :: rest, i, cur, w, hb, hl, h1 => by
    have hi : off + i < cur.length := by simp at hl; omega
    have hcell : w.cell? ⟨g, off + i, none⟩ = some cur[off + i] := by rw [hb.cell]; simp [hi]
    have hfro := hb.frozen (off + i)
    have hst : (store ((⟨g, off, none⟩ : Addr).add i) v).run P w = .ok () (w.setCell ⟨g, off + i, none⟩ v) := by
      rw [addr_add', run_store P w _ v _ (h1 v (by simp)), hcell]
      simp [hfro]
    have hb1 : Blk (w.setCell ⟨g, off + i, none⟩ v) g t (cur.set (off + i) v).toArray := hb.put (by simp)
    obtain ⟨w', e, hb2, hm⟩ := run_storeCells_part g t off rest (i + 1) (cur.set (off + i) v) _ hb1 (by simp at hl ⊢; omega) (fun x hx => h1 x (by simp [hx]))
    refine ⟨w', ?_, ?_, (((Mod.refl (· = g) w).setCell (p := ⟨g, off + i, none⟩) (.inl rfl) v)).trans hm⟩
    · simp only [storeCells, Sem.run_bind, hst, Result.andThen_ok, e]
    · have e2 : splice (cur.set (off + i) v) (off + (i + 1)) rest = splice cur (off + i) (v :: rest) := by
        unfold splice
        have a1 : (cur.set (off + i) v).take (off + (i + 1)) = cur.take (off + i) ++ [v] := by
          rw [show off + (i + 1) = (off + i) + 1 by omega, List.take_succ_eq_append_getElem (by simp; exact hi)]
          rw [List.take_set_of_le (Nat.le_refl _)]
          simp
        have a2 : (cur.set (off + i) v).drop (off + (i + 1) + rest.length) = cur.drop (off + i + (v :: rest).length) := by
          rw [List.drop_set_of_lt (by omega)]
          congr 1
          simp; omega
        rw [a1, a2]
        simp
      rwa [e2] at hb2

theorem run_storeVar_part (w : World) (g : Nat) (t ty : TypeId) (off : Nat) (cur cells : List Value) (hb : Blk w g t cur.toArray) (hi : (P.info? ty).map (·.size) = some cells.length) (hl : off + cells.length ≤ cur.length) (h1 : ∀ v ∈ cells, v.oneCell' = true) :
    ∃ w', (storeVar ty ⟨g, off, none⟩ (.agg cells.toArray)).run P w = .ok () w' ∧ Blk w' g t (splice cur off cells).toArray ∧ Mod (· = g) w w' := by
  obtain ⟨w', e, h2, h3⟩ := run_storeCells_part (P := P) g t off cells 0 cur w hb (by omega) h1
  refine ⟨w', ?_, by rwa [Nat.add_zero] at h2, h3⟩
  cases hq : P.info? ty with
  | none => simp [hq] at hi
  | some i =>
    have hs : cells.length = i.size := by simp [hq] at hi; omega
    simp [storeVar, sizeOf, typeInfo, hq, Value.cells, hs, e]
theorem wp_store_part {o : Oper} {a : Act} {w : World} {K : Act → World → Prop} {Q : Exit → Act → World → Prop} (ty : TypeId) (x y : Operand) (ho : o.op = .store ty x y)
    (g off : Nat) (cells : List Value) (hx : a.eval x = .pointer (some ⟨g, off, none⟩)) (hy : a.eval y = .agg cells.toArray)
    (t : TypeId) (cur : List Value) (hb : Blk w g t cur.toArray) (hi : (P.info? ty).map (·.size) = some cells.length) (hl : off + cells.length ≤ cur.length) (h1 : ∀ v ∈ cells, v.oneCell' = true)
    (h : ∀ w', Blk w' g t (splice cur off cells).toArray → Mod (· = g) w w' → K (a.put o.dst undef) w') : o.wp P a w K Q := by
  obtain ⟨w', e, h2, h3⟩ := run_storeVar_part (P := P) w g t ty off cur cells hb hi hl h1
  unfold Oper.wp execOp
  simp only [ho, hx, hy, Instr.storeAt, Instr.sureAddr, Sem.run_bind, Sem.run_pure, Result.andThen_ok, e]
  exact h w' h2 h3
theorem wpList_store_part {ops : Array Oper} {rest : List Oper} {o : Oper} {a : Act} {w : World} {Q : Exit → Act → World → Prop} (hgd : o.guard = none) (ty : TypeId) (x y : Operand) (ho : o.op = .store ty x y)
    (g off : Nat) (cells : List Value) (hx : a.eval x = .pointer (some ⟨g, off, none⟩)) (hy : a.eval y = .agg cells.toArray)
    (t : TypeId) (cur : List Value) (hb : Blk w g t cur.toArray) (hi : (P.info? ty).map (·.size) = some cells.length) (hl : off + cells.length ≤ cur.length) (h1 : ∀ v ∈ cells, v.oneCell' = true)
    (h : ∀ w', Blk w' g t (splice cur off cells).toArray → Mod (· = g) w w' → wpList P ops Q rest (a.put o.dst undef) w') : wpList P ops Q (o :: rest) a w :=
  wpList_plain hgd fun _ hK => wp_store_part ty x y ho g off cells hx hy t cur hb hi hl h1 (fun w' a b => hK _ _ (h w' a b))
theorem step_store_part {ops : Array Oper} {o : Oper} {a : Act} {w : World} {K : Act → World → Prop} {Q : Exit → Act → World → Prop} {E : Prop} (hgd : o.guard = none) (ty : TypeId) (x y : Operand) (ho : o.op = .store ty x y)
    (g off : Nat) (cells : List Value) (hx : a.eval x = .pointer (some ⟨g, off, none⟩)) (hy : a.eval y = .agg cells.toArray)
    (t : TypeId) (cur : List Value) (hb : Blk w g t cur.toArray) (hi : (P.info? ty).map (·.size) = some cells.length) (hl : off + cells.length ≤ cur.length) (h1 : ∀ v ∈ cells, v.oneCell' = true)
    (h : ∀ w', Blk w' g t (splice cur off cells).toArray → Mod (· = g) w w' → K (a.put o.dst undef) w') :
    if Region.wanted o (yielded ops a.tmps) = true then Oper.wp P o a w K Q else E := by
  have hw : Region.wanted o (yielded ops a.tmps) = true := by simp [Region.wanted, hgd]
  rw [if_pos hw]
  exact wp_store_part ty x y ho g off cells hx hy t cur hb hi hl h1 h
theorem step_load_row {ops : Array Oper} {o : Oper} {a : Act} {w : World} {K : Act → World → Prop} {Q : Exit → Act → World → Prop} {E : Prop} (hgd : o.guard = none) (ty : TypeId) (x : Operand) (ho : o.op = .load ty x)
    (g : Nat) (hx : a.eval x = .pointer (some ⟨g, 0, none⟩)) (t : TypeId) (cs : Array Value) (d : TypeDesc) (hb : Blk w g t cs)
    (hu : P.underlying ty = some d) (hd : (match d with | .struct _ | .array _ _ => true | _ => false) = true) (hi : (P.info? ty).map (·.size) = some cs.size)
    (h : K (a.put o.dst (.agg cs)) w) :
    if Region.wanted o (yielded ops a.tmps) = true then Oper.wp P o a w K Q else E := by
  have hw : Region.wanted o (yielded ops a.tmps) = true := by simp [Region.wanted, hgd]
  rw [if_pos hw]
  exact wp_load_row ty x ho g hx t cs (0, 0) d hb hu hd hi h
theorem wpStill_load_row {ops : Array Oper} {w : World} {o : Oper} {rest : List Oper} {a : Act} {Q : Act → Prop} (hgd : o.guard = none) (ty : TypeId) (x : Operand) (ho : o.op = .load ty x)
    (g : Nat) (hx : a.eval x = .pointer (some ⟨g, 0, none⟩)) (t : TypeId) (cs : Array Value) (d : TypeDesc) (hb : Blk w g t cs)
    (hu : P.underlying ty = some d) (hd : (match d with | .struct _ | .array _ _ => true | _ => false) = true) (hi : (P.info? ty).map (·.size) = some cs.size)
    (h : wpStill P ops w Q rest (a.put o.dst (.agg cs))) : wpStill P ops w Q (o :: rest) a := by
  refine wpStill_step (fun K hK => ?_)
  have hw : Region.wanted o (yielded ops a.tmps) = true := by simp [Region.wanted, hgd]
  rw [if_pos hw]
  unfold Oper.still execOp
  simp only [ho, hx, Instr.loadAt, Instr.sureAddr, Sem.run_bind, Sem.run_pure, Result.andThen_ok, run_loadVar_row w g t ty cs (0, 0) d hb hu hd hi]
  exact ⟨rfl, hK _ h⟩
end
end Go.Proofs.YteppnjgfebcmjaaGreat
