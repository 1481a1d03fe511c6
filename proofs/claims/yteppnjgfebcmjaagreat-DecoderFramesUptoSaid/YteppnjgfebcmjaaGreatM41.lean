/-
  The reference's Build.
-/
import Derived.Test.YteppnjgfebcmjaaGreatM40
import Derived.Test.YteppnjgfebcmjaaGreatM30
import Derived.Test.YteppnjgfebcmjaaGreatM16
import Derived.Test.YteppnjgfebcmjaaGreatM32
import Derived.Test.YteppnjgfebcmjaaGreatM37
import Derived.Deep.MidRow
namespace Go.Proofs.YteppnjgfebcmjaaGreat
open Go.RowKit

set_option maxRecDepth 100000 in
set_option maxHeartbeats 1000000 in
theorem refBuild (w : World) (A : Option Addr) (n c : Nat) (g : List UInt8) (A2 : Option Addr) (n2 c2 : Nat) (l : List Int) (q : Int) (hg : BytesIn w A n c g) (hl : IntsIn w A2 n2 c2 l) (hn : n ≤ 1048576) (hn2 : n2 ≤ 1048576) :
    Calls Tryz.prog 19 #[.slice A n c, .slice A2 n2 c2, .int .i64 q] w (BuildPost w g l q) := by
  obtain rfl : g.length = n := hg.1
  obtain rfl : l.length = n2 := hl.1
  by_cases h1 : g.length = 64
  · by_cases h2 : l.length = 64
    · have HG := Lib.hid hg
      have HL := Lib.hid hl
      have HBD : Hid (buildL g l q = (qFine l q).map (fun v => clipL g (backL v))) := if_pos ⟨h1, h2⟩
      rw [h1] at HG ⊢
      rw [h2] at HL ⊢
      clear hg hl
      have HH := Lib.hid (And.intro h1 h2)
      clear h1 h2
      go_enter Tryz.func19, Tryz.ntmps19
      go_wp2_with fail
      refine (rfine _ A2 64 c2 l q HL.out (by omega)).mono ?_
      rintro e w1 ⟨hm1, ⟨hq, rfl⟩ | ⟨v, hq, rfl, hv⟩⟩
      · have HQ := Lib.hid (And.intro hq hm1)
        clear hq hm1
        go_wp2_with fail
        go_ret2
        exact ⟨HQ.out.2, .inl ⟨by rw [HBD.out, HQ.out.1]; rfl, rfl⟩⟩
      · obtain ⟨hfl, hfa⟩ := qFine_all hq HH.out.2
        obtain ⟨A3, c3, hv3⟩ := own_shape hv
        subst hv3
        rw [hfl]
        have hin3 := hv.in_
        rw [hfl] at hin3
        have HV := Lib.hid (And.intro hq (And.intro hm1 (And.intro hin3 hfa)))
        clear hq hm1 hv hin3 hfa
        go_wp2_with fail
        refine (rback _ A3 c3 _ HV.out.2.2.1).mono ?_
        rintro e w2 ⟨hm2, ⟨h1, rfl⟩ | ⟨A4, c4, h1, rfl, h2⟩⟩
        · exact absurd h1 (by rw [HV.out.2.2.2]; decide)
        · have hin4 := h2
          rw [rback_eq _ hfl] at hin4
          have HV2 := Lib.hid (And.intro hin4 (HV.out.2.1.trans hm2))
          clear h1 h2 hin4 hm2
          go_wp2_with fail
          refine (rclipAll _ A 64 c g A4 c4 _ (HG.out.quiet HV2.out.2) HV2.out.1 (by omega) (by omega)).mono ?_
          rintro e w3 ⟨v3, rfl, hb3, hm3⟩
          obtain ⟨A5, c5, hv5⟩ := own_shape hb3
          subst hv5
          have HV3 := Lib.hid (And.intro hb3 (HV2.out.2.trans hm3))
          have hsz := HV2.out.2.size
          clear hb3 hm3
          go_wp2_with fail
          go_ret2
          exact ⟨HV3.out.2, .inr ⟨_, _, by rw [HBD.out, HV.out.1]; rfl, rfl, own_base HV3.out.1 hsz⟩⟩
    · have hz : ((l.length : Int) != 64) = true := by simp; omega
      have HBD : Hid (buildL g l q = none) := if_neg (fun h => h2 h.2)
      rw [h1]
      clear hg hl h1
      go_enter Tryz.func19, Tryz.ntmps19
      go_wp2_with fail
      go_ret2
      exact ⟨Mod.refl _ _, .inl ⟨HBD.out, rfl⟩⟩
  · have hz : ((g.length : Int) != 64) = true := by simp; omega
    have HBD : Hid (buildL g l q = none) := if_neg (fun h => h1 h.1)
    clear hg hl
    go_enter Tryz.func19, Tryz.ntmps19
    go_wp2_with fail
    go_ret2
    exact ⟨Mod.refl _ _, .inl ⟨HBD.out, rfl⟩⟩
end Go.Proofs.YteppnjgfebcmjaaGreat

/-
  A struct read as a step of a plan, from the middle of a block.
-/
namespace Go.Proofs.YteppnjgfebcmjaaGreat
open Go.RowKit

section
variable {P : Program} {ops : Array Oper} {loud pure_ : List Nat} {S : World → Prop} {Q : Exit → Act → World → Prop}
theorem planS_load {i : Nat} {is : List Nat} {op : Oper} {a : Act} {w : World} (hl : (!loud.contains i && pure_.contains i) = true) (ho : ops[i]? = some op) (ty : TypeId) (x : Operand) (hop : op.op = .load ty x) (hg : Region.wanted op (yielded ops a.tmps) = true)
    (b o : Nat) (hx : a.eval x = .pointer (some ⟨b, o, none⟩)) (cs : List Value) (d : TypeDesc) (hS : ∀ w, S w → w.rangeAt b o cs)
    (hu : P.underlying ty = some d) (hd : d.isRow = true) (hi : (P.info? ty).map (·.size) = some cs.length)
    (h : PlanG P ops loud pure_ S Q is (a.put op.dst (.agg cs.toArray)) w) : PlanG P ops loud pure_ S Q (i :: is) a w :=
  planS_pure hl ho hg (fun w' hS' => by
    unfold execOp
    simp only [hop, hx, Instr.loadAt, Instr.sureAddr, Sem.run_bind, Sem.run_pure, Result.andThen_ok, run_loadVar_mid w' b o ty cs d (hS w' hS') hu hd hi]) h
theorem planS_loadw {i : Nat} {is : List Nat} {op : Oper} {a : Act} {w : World} (hl : (loud.contains i || pure_.contains i) = false) (ho : ops[i]? = some op) (ty : TypeId) (x : Operand) (hop : op.op = .load ty x) (hg : Region.wanted op (yielded ops a.tmps) = true)
    (b o : Nat) (hx : a.eval x = .pointer (some ⟨b, o, none⟩)) (cs : List Value) (d : TypeDesc) (hc : w.rangeAt b o cs)
    (hu : P.underlying ty = some d) (hd : d.isRow = true) (hi : (P.info? ty).map (·.size) = some cs.length)
    (h : PlanG P ops loud pure_ S Q is (a.put op.dst (.agg cs.toArray)) w) : PlanG P ops loud pure_ S Q (i :: is) a w := by
  refine planS_still hl ho (fun K hK => ?_)
  rw [if_pos hg]
  unfold Oper.still execOp
  simp only [hop, hx, Instr.loadAt, Instr.sureAddr, Sem.run_bind, Sem.run_pure, Result.andThen_ok, run_loadVar_mid w b o ty cs d hc hu hd hi]
  exact ⟨rfl, hK _ h⟩
theorem run_loadVar_one (w : World) (a : Addr) (ty : TypeId) (v : Value) (d : TypeDesc) (hc : w.cell? a = some v) (hu : P.underlying ty = some d) (hd : d.isRow = false) : (loadVar ty a).run P w = .ok v w := by
  have hagg : (isAgg ty).run P w = .ok false w := by
    unfold isAgg
    rw [Sem.run_bind, run_underlying hu w]
    cases d <;> simp_all
  simp only [loadVar, Sem.run_bind, hagg, Result.andThen_ok, Bool.false_eq_true, if_false]
  rw [run_load, hc]
theorem planS_one {i : Nat} {is : List Nat} {op : Oper} {a : Act} {w : World} (hl : (!loud.contains i && pure_.contains i) = true) (ho : ops[i]? = some op) (ty : TypeId) (x : Operand) (hop : op.op = .load ty x) (hg : Region.wanted op (yielded ops a.tmps) = true)
    (b o : Nat) (hx : a.eval x = .pointer (some ⟨b, o, none⟩)) (v : Value) (d : TypeDesc) (hS : ∀ w, S w → w.cell? ⟨b, o, none⟩ = some v)
    (hu : P.underlying ty = some d) (hd : d.isRow = false)
    (h : PlanG P ops loud pure_ S Q is (a.put op.dst v) w) : PlanG P ops loud pure_ S Q (i :: is) a w :=
  planS_pure hl ho hg (fun w' hS' => by
    unfold execOp
    simp only [hop, hx, Instr.loadAt, Instr.sureAddr, Sem.run_bind, Sem.run_pure, Result.andThen_ok, run_loadVar_one w' _ ty v d (hS w' hS') hu hd]) h
/-- The values that are yielded, in their plain form. -/
theorem planS_norm {is : List Nat} {a a' : Act} {w : World} (e : a = a') (h : PlanG P ops loud pure_ S Q is a' w) : PlanG P ops loud pure_ S Q is a w := e ▸ h
/-- A field's cell read where S gives it. -/
theorem planS_cell {i : Nat} {is : List Nat} {op : Oper} {a : Act} {w : World} (hl : (!loud.contains i && pure_.contains i) = true) (ho : ops[i]? = some op) (hg : Region.wanted op (yielded ops a.tmps) = true)
    (v : Value) (hr : ∀ w, S w → (execOp a.eval op).run P w = .ok (.value v) w) (h : PlanG P ops loud pure_ S Q is (a.put op.dst v) w) : PlanG P ops loud pure_ S Q (i :: is) a w :=
  planS_pure hl ho hg hr h
end
theorem Blk.range {w : World} {g : Nat} {t : TypeId} {C : Array Value} (h : Blk w g t C) (o : Nat) (cs : List Value) (hc : (C.extract o (o + cs.length)).toList = cs) : w.rangeAt g o cs := by
  have := World.rangeAt_of_block h o cs.length
  rwa [hc] at this
/-- A place of six, in memory. -/
theorem pl_part (x y i : Nat) (hi : i < 6) : (((plL x y).toArray).extract (i * 3) (i * 3 + [Value.int .i64 (pcP i : Int), .int .i64 (pcX x i : Int), .int .i64 (pcY y i : Int)].length)).toList = [Value.int .i64 (pcP i : Int), .int .i64 (pcX x i : Int), .int .i64 (pcY y i : Int)] := by
  have h6 : i = 0 ∨ i = 1 ∨ i = 2 ∨ i = 3 ∨ i = 4 ∨ i = 5 := by omega
  rcases h6 with rfl | rfl | rfl | rfl | rfl | rfl <;> rfl
end Go.Proofs.YteppnjgfebcmjaaGreat

/-
  The reference's decoder: a square's state.
-/
namespace Go.Proofs.YteppnjgfebcmjaaGreat
open Go.RowKit

theorem RSAt.kinds {w : World} {bk g : Nat} {P : Nat → Prop} {s : St} (h : RSAt w bk g P s) {rb : Nat} {ok : Bool} (hr : Blk w rb 75 (rdrV bk g ok)) : ∀ j, RB3 bk g rb j → w.heap.size ≤ j ∨ ∃ t cs, Blk w j t cs ∧ t ≠ 5 := by
  intro j hj
  obtain ⟨A, n, cp, l, i, hb, _⟩ := h.2.2.2
  rcases hj with rfl | rfl | rfl
  · exact .inr ⟨_, _, hb, by decide⟩
  · exact .inr ⟨_, _, h.1, by decide⟩
  · exact .inr ⟨_, _, hr, by decide⟩
theorem RSAt.lts {w : World} {bk g : Nat} {P : Nat → Prop} {s : St} (h : RSAt w bk g P s) {rb : Nat} {ok : Bool} (hr : Blk w rb 75 (rdrV bk g ok)) : bk < w.heap.size ∧ g < w.heap.size ∧ rb < w.heap.size := by
  obtain ⟨A, n, cp, l, i, hb, _⟩ := h.2.2.2
  exact ⟨h.1.lt, hb.lt, hr.lt⟩
theorem Sat.keep3 {w wx w' : World} {bk g rb : Nat} {L O : List Ent} (h : Sat (RB3 bk g rb) w wx L O) (hb : bk < w.heap.size ∧ g < w.heap.size ∧ rb < w.heap.size) (hL : ∀ e ∈ L, w.heap.size ≤ e.g) (hO : ∀ e ∈ O, ¬ RB3 bk g rb e.g) (hm : Mod (RB3 bk g rb) wx w') : Sat (RB3 bk g rb) w w' L O :=
  Sat.beside hm h (fun _ e => .inl e) (fun e he hj => by
    rcases List.mem_append.1 he with he | he
    · have := hL e he
      unfold RB3 at hj
      omega
    · exact hO e he hj)
theorem rb3_one {bk g rb : Nat} {w : World} (i : Nat) (u : Value) : Mod (RB3 bk g rb) w (w.setCell ⟨rb, i, none⟩ u) := (Mod.refl _ w).setCell (p := ⟨rb, i, none⟩) (.inl (.inr (.inr rfl))) u
/-- The reference's decoder's cells. -/
def rdecV (W H G nx : Int) (fr : List Value) : Array Value := (.int .i64 W :: .int .i64 H :: .int .i64 G :: (fr ++ [.int .i64 nx])).toArray
theorem rdecV_part (W H G nx : Int) (d : Dim) (b0 k0 b1 k1 b2 k2 : Nat) : ((rdecV W H G nx (frV d b0 k0 b1 k1 b2 k2)).extract 3 (3 + (frV d b0 k0 b1 k1 b2 k2).length)).toList = frV d b0 k0 b1 k1 b2 k2 := rfl
/-- Between a square's steps. -/
structure SqT (w0 wr : World) (mg bk g rb : Nat) (P : Nat → Prop) (L : List Ent) (dv : Array Value) (ok : Bool) (s : St) : Prop where
  sat : Sat (RB3 bk g rb) w0 wr L [⟨mg, 45, dv⟩]
  rd : Blk wr rb 75 (rdrV bk g ok)
  rs : ok = true → RSAt wr bk g P s
/-- What a square knows from the start. -/
structure SqK (w0 : World) (mg bk g rb : Nat) (P : Nat → Prop) (dv : Array Value) : Prop where
  id : RId P bk g rb
  pw : ∀ j, P j → j < w0.heap.size
  lt : bk < w0.heap.size ∧ g < w0.heap.size ∧ rb < w0.heap.size
  mg_ : ¬ RB3 bk g rb mg
  mgl : mg < w0.heap.size
  kin : ∀ j, RB3 bk g rb j → w0.heap.size ≤ j ∨ ∃ t cs, Blk w0 j t cs ∧ t ≠ 5
section
variable {w0 wr w' : World} {mg bk g rb : Nat} {P : Nat → Prop} {L : List Ent} {dv : Array Value} {ok ok' : Bool} {s s' : St}
theorem SqK.of (hi : RId P bk g rb) (hpw : ∀ j, P j → j < w0.heap.size) (h : RSAt w0 bk g P s) (hr : Blk w0 rb 75 (rdrV bk g ok)) (hm : Blk w0 mg 45 dv) : SqK w0 mg bk g rb P dv := by
  refine ⟨hi, hpw, h.lts hr, fun hj => ?_, hm.lt, h.kinds hr⟩
  obtain ⟨A, n, cp, l, i, hb, _⟩ := h.2.2.2
  rcases hj with rfl | rfl | rfl
  · exact hm.ne_ hb (by decide) rfl
  · exact hm.ne_ h.1 (by decide) rfl
  · exact hm.ne_ hr (by decide) rfl
theorem SqT.step (h : SqT w0 wr mg bk g rb P L dv ok s) (k : SqK w0 mg bk g rb P dv) (hL : ∀ e ∈ L, w0.heap.size ≤ e.g) (hm : Mod (RB3 bk g rb) wr w') (hr : Blk w' rb 75 (rdrV bk g ok')) (hs : ok' = true → RSAt w' bk g P s') : SqT w0 w' mg bk g rb P L dv ok' s' :=
  ⟨h.sat.keep3 k.lt hL (fun e he => by
    rw [List.mem_singleton] at he
    subst he
    exact k.mg_) hm, hr, hs⟩
theorem SqT.quiet (h : SqT w0 wr mg bk g rb P L dv ok s) (hm : Mod (fun _ => False) wr w') : SqT w0 w' mg bk g rb P L dv ok s :=
  ⟨h.sat.quiet hm, h.rd.keep hm (fun h => h), fun e => (h.rs e).mod hm (fun h => h) (fun h => h) (fun _ _ h => h)⟩
theorem SqT.drew (h : SqT w0 wr mg bk g rb P L dv ok s) : SqT w0 wr.drew mg bk g rb P L dv ok s := h.quiet ((Mod.refl _ wr).drew)
/-- An own block turned by stores. -/
theorem SqT.turn {L' : List Ent} {gq : Nat} {t : TypeId} {cs' : Array Value} (h : SqT w0 wr mg bk g rb P L dv ok s) (k : SqK w0 mg bk g rb P dv) (hm : Mod (· = gq) wr w') (hb : Blk w' gq t cs') (hr : Rep gq t cs' L L') (hg : w0.heap.size ≤ gq) : SqT w0 w' mg bk g rb P L' dv ok s := by
  obtain ⟨h1, h2, h3⟩ := k.lt
  exact ⟨h.sat.turn hm hb hr, h.rd.keep hm (by omega), fun e => (h.rs e).mod hm (by omega) (by omega) (fun j hj e => by have := k.pw j hj; omega)⟩
theorem SqT.grew {gq : Nat} {t : TypeId} {cs : Array Value} (h : SqT w0 wr mg bk g rb P L dv ok s) (hm : Mod (fun _ => False) wr w') (hb : Blk w' gq t cs) (hg : wr.heap.size ≤ gq) : SqT w0 w' mg bk g rb P (⟨gq, t, cs⟩ :: L) dv ok s :=
  ⟨Sat.grew hm h.sat hb hg, h.rd.keep hm (fun h => h), fun e => (h.rs e).mod hm (fun h => h) (fun h => h) (fun _ _ h => h)⟩
/-- A frame that was there at first. -/
theorem SqT.fr {B : Nat} {d : Dim} {b0 k0 b1 k1 b2 k2 : Nat} {f : Pix} (h : SqT w0 wr mg bk g rb P L dv ok s) (k : SqK w0 mg bk g rb P dv) (hf : FrB w0 B d b0 k0 b1 k1 b2 k2 f) : FrB wr B d b0 k0 b1 k1 b2 k2 f := hf.mod h.sat.mod k.kin
/-- A frame, behind a step. -/
theorem SqT.frs {B : Nat} {d : Dim} {b0 k0 b1 k1 b2 k2 : Nat} {f : Pix} (h : SqT w0 wr mg bk g rb P L dv ok s) (hok : ok = true) (hf : FrB wr B d b0 k0 b1 k1 b2 k2 f) (hm : Mod (RB3 bk g rb) wr w') : FrB w' B d b0 k0 b1 k1 b2 k2 f := hf.mod hm ((h.rs hok).kinds h.rd)
end
end Go.Proofs.YteppnjgfebcmjaaGreat

/-
  The reference's decoder: a block with its levels.
-/
namespace Go.Proofs.YteppnjgfebcmjaaGreat
open Go.RowKit

def RBlkPost (w : World) (bk g rb : Nat) (P : Nat → Prop) (B : Nat) (d : Dim) (r : Option (Pix × St)) (e : Ending) (w' : World) : Prop :=
  Mod (RB3 bk g rb) w w' ∧
  ((r = none ∧ (∃ b0 k0 b1 k1 b2 k2, e = .returned (.agg (frV d b0 k0 b1 k1 b2 k2).toArray)) ∧ Blk w' rb 75 (rdrV bk g false)) ∨
   ∃ v f' s', r = some (f', s') ∧ e = .returned v ∧ FrIn w' B d v f' ∧ RSAt w' bk g P s' ∧ Blk w' rb 75 (rdrV bk g true))

theorem rblk_none {w wx : World} {bk g rb : Nat} {P : Nat → Prop} {B : Nat} {d : Dim} {zb : Nat} (hm : Mod (RB3 bk g rb) w wx) (hz : Blk wx zb 37 #[.int .i64 0, .int .i64 0, .slice none 0 0, .int .i64 0, .int .i64 0, .slice none 0 0, .int .i64 0, .int .i64 0, .slice none 0 0]) (hr : Blk wx rb 75 (rdrV bk g false)) (h0 : w.heap.size ≤ zb) (h1 : rb < w.heap.size) (b0 k0 b1 k1 b2 k2 : Nat) :
    RBlkPost w bk g rb P B d none (.returned (.agg (frV d b0 k0 b1 k1 b2 k2).toArray)) ((((((((((wx).setCell ⟨zb, 0, none⟩ (.int .i64 (d.W : Int))).setCell ⟨zb, 1, none⟩ (.int .i64 (d.H : Int))).setCell ⟨zb, 2, none⟩ (.slice (some ⟨b0, 0, none⟩) d.nY k0)).setCell ⟨zb, 3, none⟩ (.int .i64 (d.W2 : Int))).setCell ⟨zb, 4, none⟩ (.int .i64 (d.H2 : Int))).setCell ⟨zb, 5, none⟩ (.slice (some ⟨b1, 0, none⟩) d.nC k1)).setCell ⟨zb, 6, none⟩ (.int .i64 (d.W2 : Int))).setCell ⟨zb, 7, none⟩ (.int .i64 (d.H2 : Int))).setCell ⟨zb, 8, none⟩ (.slice (some ⟨b2, 0, none⟩) d.nC k2)) := by
  have hp := (fr_put9 hz (.int .i64 (d.W : Int)) (.int .i64 (d.H : Int)) (.slice (some ⟨b0, 0, none⟩) d.nY k0) (.int .i64 (d.W2 : Int)) (.int .i64 (d.H2 : Int)) (.slice (some ⟨b1, 0, none⟩) d.nC k1) (.int .i64 (d.W2 : Int)) (.int .i64 (d.H2 : Int)) (.slice (some ⟨b2, 0, none⟩) d.nC k2)).2
  exact ⟨hm.into hp (fun i e => .inr (by omega)), .inl ⟨rfl, ⟨b0, k0, b1, k1, b2, k2, rfl⟩, hr.keep hp (by omega)⟩⟩
theorem rblk_some {w wx : World} {bk g rb : Nat} {P : Nat → Prop} {B : Nat} {d : Dim} {zb : Nat} {b0 k0 b1 k1 b2 k2 : Nat} {f : Pix} {s : St} (hm : Mod (RB3 bk g rb) w wx) (hz : Blk wx zb 37 #[.int .i64 0, .int .i64 0, .slice none 0 0, .int .i64 0, .int .i64 0, .slice none 0 0, .int .i64 0, .int .i64 0, .slice none 0 0]) (hr : Blk wx rb 75 (rdrV bk g true)) (hs : RSAt wx bk g P s) (hf : FrB wx B d b0 k0 b1 k1 b2 k2 f) (h0 : w.heap.size ≤ zb)
    (h1 : bk < w.heap.size ∧ g < w.heap.size ∧ rb < w.heap.size) (hP : ∀ j, P j → j < w.heap.size) :
    RBlkPost w bk g rb P B d (some (f, s)) (.returned (.agg (frV d b0 k0 b1 k1 b2 k2).toArray)) ((((((((((wx).setCell ⟨zb, 0, none⟩ (.int .i64 (d.W : Int))).setCell ⟨zb, 1, none⟩ (.int .i64 (d.H : Int))).setCell ⟨zb, 2, none⟩ (.slice (some ⟨b0, 0, none⟩) d.nY k0)).setCell ⟨zb, 3, none⟩ (.int .i64 (d.W2 : Int))).setCell ⟨zb, 4, none⟩ (.int .i64 (d.H2 : Int))).setCell ⟨zb, 5, none⟩ (.slice (some ⟨b1, 0, none⟩) d.nC k1)).setCell ⟨zb, 6, none⟩ (.int .i64 (d.W2 : Int))).setCell ⟨zb, 7, none⟩ (.int .i64 (d.H2 : Int))).setCell ⟨zb, 8, none⟩ (.slice (some ⟨b2, 0, none⟩) d.nC k2)) := by
  have hp := (fr_put9 hz (.int .i64 (d.W : Int)) (.int .i64 (d.H : Int)) (.slice (some ⟨b0, 0, none⟩) d.nY k0) (.int .i64 (d.W2 : Int)) (.int .i64 (d.H2 : Int)) (.slice (some ⟨b1, 0, none⟩) d.nC k1) (.int .i64 (d.W2 : Int)) (.int .i64 (d.H2 : Int)) (.slice (some ⟨b2, 0, none⟩) d.nC k2)).2
  refine ⟨hm.into hp (fun i e => .inr (by omega)), .inr ⟨_, f, s, rfl, rfl, ⟨_, _, _, _, _, _, rfl, hf.mod hp (fun j e => .inr ⟨_, _, by subst e; exact hz, by decide⟩)⟩, hs.mod hp (by omega) (by omega) (fun j hj e => by have := hP j hj; omega), hr.keep hp (by omega)⟩⟩
theorem Bytes.rb3 {w w' : World} {bk g rb B : Nat} {v : Value} {l : List UInt8} (h : Bytes w B v l) (hm : Mod (RB3 bk g rb) w w') (hk : ∀ j, RB3 bk g rb j → w.heap.size ≤ j ∨ ∃ t cs, Blk w j t cs ∧ t ≠ 5) : Bytes w' B v l := h.mod hm (fun j e hj => by
  rcases hk j hj with h1 | ⟨t, cs, hb, ht⟩
  · have := (World.ownsRow.lt h j e).2
    omega
  · exact h.apart hb ht e)
set_option maxRecDepth 100000 in
set_option maxHeartbeats 4000000 in
theorem fRBlock (w : World) (bk g rb : Nat) (P : Nat → Prop) (hi : RId P bk g rb) (hPw : ∀ j, P j → j < w.heap.size) (s : St) (h : RSAt w bk g P s) (hr : Blk w rb 75 (rdrV bk g true))
    (B : Nat) (hB : B ≤ w.heap.size) (d : Dim) (hd : d.Ok) (hs : d.nY ≤ 1048576) (b0 k0 b1 k1 b2 k2 : Nat) (f : Pix) (hf : FrB w B d b0 k0 b1 k1 b2 k2 f) (pl x y : Nat) (hpl : pl < 3) (hx : x + 8 ≤ d.wOf pl) (hy : y + 8 ≤ d.hOf pl)
    (Bg : Nat) (v : Value) (gl : List UInt8) (hgv : Bytes w Bg v gl) (hgl : gl.length = 64) (Q : Int) :
    Calls Tryz.prog 75 #[.pointer (some ⟨rb, 0, none⟩), .agg (frV d b0 k0 b1 k1 b2 k2).toArray, .agg #[.int .i64 (pl : Int), .int .i64 (x : Int), .int .i64 (y : Int)], v, .int .i64 Q] w
      (RBlkPost w bk g rb P B d ((sblock (if 0 < pl then 4 else 2) s).bind fun b => (buildL gl b.1 Q).map fun l => (f.set pl (layTo (d.wOf pl) x y l (f.get pl) 8), b.2))) := by
  obtain ⟨tn, htn⟩ : ∃ tn : Nat, tn = if 0 < pl then 4 else 2 := ⟨_, rfl⟩
  rw [← htn]
  have hT : ∀ (w : World) (x y : Int), Calls Tryz.prog 119 #[.agg #[.int .i64 (pl : Int), .int .i64 x, .int .i64 y]] w fun e w' => e = .returned (.int .i64 (tn : Int)) ∧ Mod (fun _ => False) w w' := fun w x y => by rw [htn]; exact fTopic13 w pl x y
  have ht15 : tn < 15 := by rw [htn]; split <;> omega
  clear htn
  obtain ⟨C, cc, hv⟩ := own_shape hgv
  rw [hgl] at hv
  subst hv
  have hks := h.lts hr
  have h0 := (((Sat.nil (RB3 bk g rb) w).alloc 37 #[.int .i64 (d.W : Int), .int .i64 (d.H : Int), .slice (some ⟨b0, 0, none⟩) d.nY k0, .int .i64 (d.W2 : Int), .int .i64 (d.H2 : Int), .slice (some ⟨b1, 0, none⟩) d.nC k1, .int .i64 (d.W2 : Int), .int .i64 (d.H2 : Int), .slice (some ⟨b2, 0, none⟩) d.nC k2] rfl).alloc (g := w.heap.size + 1) 131 #[.int .i64 (pl : Int), .int .i64 (x : Int), .int .i64 (y : Int)] (by simp)).alloc (g := w.heap.size + 1 + 1) 37 #[.int .i64 0, .int .i64 0, .slice none 0 0, .int .i64 0, .int .i64 0, .slice none 0 0, .int .i64 0, .int .i64 0, .slice none 0 0] (by simp)
  have m0 : Mod (fun _ => False) w (((w.alloc (.cells #[.int .i64 (d.W : Int), .int .i64 (d.H : Int), .slice (some ⟨b0, 0, none⟩) d.nY k0, .int .i64 (d.W2 : Int), .int .i64 (d.H2 : Int), .slice (some ⟨b1, 0, none⟩) d.nC k1, .int .i64 (d.W2 : Int), .int .i64 (d.H2 : Int), .slice (some ⟨b2, 0, none⟩) d.nC k2] 37)).alloc (.cells #[.int .i64 (pl : Int), .int .i64 (x : Int), .int .i64 (y : Int)] 131)).alloc (.cells #[.int .i64 0, .int .i64 0, .slice none 0 0, .int .i64 0, .int .i64 0, .slice none 0 0, .int .i64 0, .int .i64 0, .slice none 0 0] 37)) := (((Mod.refl _ w).alloc _).alloc _).alloc _
  have hr0 := (hr.keep m0 (fun h => h)).drew
  obtain ⟨fc, ff⟩ := (h0.drew.own_ 2 rfl).both
  obtain ⟨pc, pf⟩ := (h0.drew.own_ 1 rfl).both
  have H0 := Lib.hid (And.intro h0 (And.intro m0 (And.intro hi (And.intro hPw (And.intro h (And.intro hr (And.intro hf (And.intro hgv (And.intro hgl (And.intro hks (And.intro hd (And.intro hs hB))))))))))))
  have HS0 := Lib.hid hr0
  clear h0 m0 hi hPw h hr hf hgv hgl hks hr0 hd hs hB
  unfold frV
  go_enter Tryz.func75, Tryz.ntmps75
  go_upto_region 1 with (fail)
  refine wp_region_planS [9, 10] [0, 1, 2, 3, 4, 5, 6, 7] (8 :: 0 :: 1 :: 2 :: 3 :: 4 :: 5 :: 6 :: 7 :: 9 :: 10 :: 11 :: 12 :: 13 :: 14 :: 15 :: []) (fun w' => Blk w' rb 75 (rdrV bk g true)) (by kernel_rfl) (by kernel_rfl) (fun _ _ _ d _ h => by cases d <;> exact h) HS0.out ?_
  iterate 1 (refine planS_still rfl rfl (fun K hK => ?_); go_simp; refine hK _ ?_; clear hK K)
  clear fc ff pc pf
  refine planS_pure (v := .pointer (some ⟨rb, 0, none⟩)) rfl rfl rfl (fun _ _ => rfl) ?_
  refine planS_norm (by go_simp; rfl) ?_
  refine planS_pure (v := .pointer (some ⟨rb, 0, none⟩)) rfl rfl rfl (fun _ _ => rfl) ?_
  refine planS_norm (by go_simp; rfl) ?_
  refine planS_pure (v := .pointer (some ⟨rb, 0, none⟩)) rfl rfl rfl (fun _ _ => rfl) ?_
  refine planS_norm (by go_simp; rfl) ?_
  refine planS_one rfl rfl _ _ rfl rfl rb 0 rfl (.pointer (some ⟨bk, 0, none⟩)) _ (fun w' hS => hS.cell 0) Tryz.underlying72 rfl ?_
  refine planS_norm (by go_simp; rfl) ?_
  refine planS_pure (v := .pointer (some ⟨rb, 0, none⟩)) rfl rfl rfl (fun _ _ => rfl) ?_
  refine planS_norm (by go_simp; rfl) ?_
  refine planS_pure (v := .pointer (some ⟨rb, 0, none⟩)) rfl rfl rfl (fun _ _ => rfl) ?_
  refine planS_norm (by go_simp; rfl) ?_
  refine planS_pure (v := .pointer (some ⟨rb, 1, none⟩)) rfl rfl rfl (fun _ _ => rfl) ?_
  refine planS_norm (by go_simp; rfl) ?_
  refine planS_one rfl rfl _ _ rfl rfl rb 1 rfl (.pointer (some ⟨g, 0, none⟩)) _ (fun w' hS => hS.cell 1) Tryz.underlying68 rfl ?_
  refine planS_norm (by go_simp; rfl) ?_
  refine planS_loud rfl rfl (fun K hK => ?_)
  go_simp
  refine (hT _ _ _).mono ?_
  rintro e w2 ⟨rfl, hm2⟩
  have H2 := Lib.hid (And.intro (H0.out.1.drew.quiet hm2) (And.intro ((H0.out.2.1.drew).trans hm2) (HS0.out.keep hm2 (fun h => h))))
  dsimp only []
  refine hK _ _ H2.out.2.2 ?_
  clear hK K hm2
  refine planS_loud rfl rfl (fun K hK => ?_)
  go_simp
  refine (fQGet w2 bk g P H0.out.2.2.1.pg H0.out.2.2.1.pb (fun j hj => Nat.lt_of_lt_of_le (H0.out.2.2.2.1 j hj) H2.out.2.1.size) H0.out.2.2.1.gb s tn ht15 (H0.out.2.2.2.2.1.mod H2.out.2.1 (fun h => h) (fun h => h) (fun _ _ h => h))).mono ?_
  rintro e w3 (⟨hr3, er, her, rfl, hm3⟩ | ⟨l, s3, ob, hr3, rfl, hob, hll, hoz, hs3, hm3⟩)
  · have HS3 := H2.out.1.keep3 H0.out.2.2.2.2.2.2.2.2.2.1 (by intro e he; simp at he; rcases he with rfl | rfl | rfl <;> (dsimp only; omega)) (by intro e he; cases he) (rb3 hm3)
    have hrd3 := H2.out.2.2.keep hm3 (by intro e; rcases e with e | e; exact H0.out.2.2.1.rg e; exact H0.out.2.2.1.rbk e)
    obtain ⟨rc, rf⟩ := hrd3.both
    unfold rdrV at rc
    have rl := hrd3.lt
    have rl2 := H0.out.2.2.2.2.2.2.2.2.2.1.2.2
    obtain ⟨fc, ff⟩ := (HS3.own_ 2 rfl).both
    obtain ⟨zc, zf⟩ := (HS3.own_ 0 rfl).both
    have zl := (HS3.own_ 0 rfl).lt
    have H3 := Lib.hid (And.intro HS3 (And.intro hrd3 hr3))
    clear HS3 hrd3 hr3 hm3
    dsimp only []
    refine hK _ _ H3.out.2.1 ?_
    clear hK K
    iterate 5 (refine planS_still rfl rfl (fun K hK => ?_); go_simp; refine hK _ ?_; clear hK K)
    refine planS_done ?_
    go_wp2_with fail
    have hz := (H3.out.1.own_ 0 rfl).far (p := ⟨rb, 2, none⟩) (by dsimp only; omega) (.bool false)
    refine bodyPost_ret (v := .agg (frV d b0 k0 b1 k1 b2 k2).toArray) (by simp [results, Tryz.results75, go_sem, zc, frV]) rfl ?_
    rw [H3.out.2.2]
    exact rblk_none (H3.out.1.mod.trans (rb3_one 2 (.bool false))) hz (H3.out.2.1.put rfl) (by dsimp only; omega) rl2 _ _ _ _ _ _
  · have hlts := H0.out.2.2.2.2.2.2.2.2.2.1
    have hlow : ∀ e ∈ ([⟨w.heap.size + 1 + 1, 37, #[.int .i64 0, .int .i64 0, .slice none 0 0, .int .i64 0, .int .i64 0, .slice none 0 0, .int .i64 0, .int .i64 0, .slice none 0 0]⟩, ⟨w.heap.size + 1, 131, #[.int .i64 (pl : Int), .int .i64 (x : Int), .int .i64 (y : Int)]⟩, ⟨w.heap.size, 37, #[.int .i64 (d.W : Int), .int .i64 (d.H : Int), .slice (some ⟨b0, 0, none⟩) d.nY k0, .int .i64 (d.W2 : Int), .int .i64 (d.H2 : Int), .slice (some ⟨b1, 0, none⟩) d.nC k1, .int .i64 (d.W2 : Int), .int .i64 (d.H2 : Int), .slice (some ⟨b2, 0, none⟩) d.nC k2]⟩] : List Ent), w.heap.size ≤ e.g := by intro e he; simp at he; rcases he with rfl | rfl | rfl <;> (dsimp only; omega)
    have HS3 := H2.out.1.keep3 hlts hlow (by intro e he; cases he) (rb3 hm3)
    have hrd3 := H2.out.2.2.keep hm3 (by intro e; rcases e with e | e; exact H0.out.2.2.1.rg e; exact H0.out.2.2.1.rbk e)
    have m3 : Mod (RB3 bk g rb) w w3 := (Mod.mono H2.out.2.1 (fun _ h => h.elim)).trans (rb3 hm3)
    obtain ⟨rc, rf⟩ := hrd3.both
    unfold rdrV at rc
    have rl := hrd3.lt
    have rl2 := hlts.2.2
    have hro : rb ≠ ob := by have := H2.out.2.1.size; omega
    have m4 : Mod (RB3 bk g rb) w (w3.setCell ⟨rb, 2, none⟩ (.bool true)) := m3.trans (rb3_one 2 (.bool true))
    have HS4 := HS3.keep3 hlts hlow (by intro e he; cases he) (rb3_one 2 (.bool true))
    have hin4 := (H0.out.2.2.2.2.2.2.2.1.rb3 m4 (H0.out.2.2.2.2.1.kinds H0.out.2.2.2.2.2.1)).in_
    have hli4 := intsIn_blk (hob.far (p := ⟨rb, 2, none⟩) hro.symm (.bool true)) hll
    have hrd4 : Blk (w3.setCell ⟨rb, 2, none⟩ (.bool true)) rb 75 (rdrV bk g true) := hrd3.put rfl
    have hs4 := hs3.far H0.out.2.2.1 2 (.bool true)
    have H4 := Lib.hid (And.intro HS4 (And.intro hin4 (And.intro hli4 (And.intro hrd4 (And.intro hs4 (And.intro m4 (And.intro hr3 hlow)))))))
    have H3 := Lib.hid hrd3
    clear HS3 HS4 hin4 hli4 hrd4 hs4 m3 m4 hr3 hm3 hob hll hoz hs3 hrd3 hlow
    dsimp only []
    refine hK _ _ H3.out ?_
    clear hK K
    iterate 5 (refine planS_still rfl rfl (fun K hK => ?_); go_simp; refine hK _ ?_; clear hK K)
    refine planS_done ?_
    go_wp2_with fail
    clear rc rf rl
    refine (refBuild _ C 64 cc gl (some ⟨ob, 0, none⟩) 64 64 l Q H4.out.2.1 H4.out.2.2.1 (by omega) (by omega)).mono ?_
    rintro e w5 ⟨hm5, (⟨hb5, rfl⟩ | ⟨v5, bs, hb5, rfl, hv5⟩)⟩
    · have HS5 := H4.out.1.quiet hm5
      have hrd5 := H4.out.2.2.2.1.keep hm5 (fun h => h)
      obtain ⟨rc, rf⟩ := hrd5.both
      unfold rdrV at rc
      have rl := hrd5.lt
      obtain ⟨fc, ff⟩ := (HS5.own_ 2 rfl).both
      obtain ⟨zc, zf⟩ := (HS5.own_ 0 rfl).both
      have zl := (HS5.own_ 0 rfl).lt
      have H5 := Lib.hid (And.intro HS5 (And.intro hrd5 hb5))
      clear HS5 hrd5 hb5 hm5
      go_wp2_with fail
      have hz := (H5.out.1.own_ 0 rfl).far (p := ⟨rb, 2, none⟩) (by dsimp only; omega) (.bool false)
      refine bodyPost_ret (v := .agg (frV d b0 k0 b1 k1 b2 k2).toArray) (by simp [results, Tryz.results75, go_sem, zc, frV]) rfl ?_
      rw [H4.out.2.2.2.2.2.2.1]
      show RBlkPost w bk g rb P B d ((buildL gl l Q).map _) _ _
      rw [H5.out.2.2]
      exact rblk_none (H5.out.1.mod.trans (rb3_one 2 (.bool false))) hz (H5.out.2.1.put rfl) (by dsimp only; omega) rl2 _ _ _ _ _ _
    · have hbl : bs.length = 64 := (buildL_length hb5).trans H0.out.2.2.2.2.2.2.2.2.1
      have HS5 := H4.out.1.quiet hm5
      have hrd5 := H4.out.2.2.2.1.keep hm5 (fun h => h)
      have hs5 := H4.out.2.2.2.2.1.mod hm5 (fun h => h) (fun h => h) (fun _ _ h => h)
      obtain ⟨C5, c5, rfl⟩ := own_shape hv5
      rw [hbl] at hv5 ⊢
      obtain ⟨rc, rf⟩ := hrd5.both
      unfold rdrV at rc
      have rl := hrd5.lt
      obtain ⟨fc, ff⟩ := (HS5.own_ 2 rfl).both
      obtain ⟨pc, pf⟩ := (HS5.own_ 1 rfl).both
      have m6 : Mod (RB3 bk g rb) w (w5.setCell ⟨rb, 2, none⟩ (.bool true)) := HS5.mod.trans (rb3_one 2 (.bool true))
      have HS6 := HS5.keep3 hlts H4.out.2.2.2.2.2.2.2 (by intro e he; cases he) (rb3_one 2 (.bool true))
      have hin6 := ((hv5.mod (rb3_one (bk := bk) (g := g) 2 (.bool true)) (fun j e hj => by
        rcases hs5.kinds hrd5 j hj with h1 | ⟨t, cs, hb, ht⟩
        · have := (World.ownsRow.lt hv5 j e).2
          omega
        · exact hv5.apart hb ht e))).in_
      have hrd6 : Blk (w5.setCell ⟨rb, 2, none⟩ (.bool true)) rb 75 (rdrV bk g true) := hrd5.put rfl
      have hs6 := hs5.far H0.out.2.2.1 2 (.bool true)
      have hf6 := H0.out.2.2.2.2.2.2.1.mod m6 (H0.out.2.2.2.2.1.kinds H0.out.2.2.2.2.2.1)
      have H6 := Lib.hid (And.intro HS6 (And.intro hin6 (And.intro hrd6 (And.intro hs6 (And.intro m6 (And.intro hf6 hb5))))))
      clear HS5 HS6 hrd5 hs5 hv5 hin6 hrd6 hs6 m6 hf6 hb5 hm5 hbl
      go_wp2_with fail
      refine (fLayF _ B (Nat.le_trans H0.out.2.2.2.2.2.2.2.2.2.2.2.2 H6.out.2.2.2.2.1.size) d H0.out.2.2.2.2.2.2.2.2.2.2.1 H0.out.2.2.2.2.2.2.2.2.2.2.2.1 b0 k0 b1 k1 b2 k2 f H6.out.2.2.2.2.2.1 pl x y hpl hx hy C5 c5 bs H6.out.2.1).mono ?_
      rintro e w7 ⟨v7, rfl, ⟨c0, e0, c1, e1, c2, e2, rfl, hf7⟩, hm7⟩
      have HS7 := H6.out.1.quiet hm7
      obtain ⟨zc, zf⟩ := (HS7.own_ 0 rfl).both
      have zl := (HS7.own_ 0 rfl).lt
      have H7 := Lib.hid (And.intro HS7 (And.intro hf7 hm7))
      clear HS7 hf7 hm7 rc rf rl fc ff pc pf
      unfold frV
      go_wp2_with fail
      refine bodyPost_ret (v := .agg (frV d c0 e0 c1 e1 c2 e2).toArray) (by simp [results, Tryz.results75, go_sem, zc, frV]) rfl ?_
      rw [H4.out.2.2.2.2.2.2.1]
      show RBlkPost w bk g rb P B d ((buildL gl l Q).map _) _ _
      rw [H6.out.2.2.2.2.2.2]
      exact rblk_some H7.out.1.mod (H7.out.1.own_ 0 rfl) (H6.out.2.2.1.keep H7.out.2.2 (fun h => h)) (H6.out.2.2.2.1.mod H7.out.2.2 (fun h => h) (fun h => h) (fun _ _ h => h)) H7.out.2.1 (by omega) hlts H0.out.2.2.2.1
end Go.Proofs.YteppnjgfebcmjaaGreat
