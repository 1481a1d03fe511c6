/-
  The book's numbers are put.
-/
import Derived.Test.YtmkopcojnibhlaaGreatDoorM24
import Derived.Test.YtmkopcojnibhlaaGreatDoorM10
namespace Go.Proofs.YtmkopcojnibhlaaGreatDoor
open Go.RowKit

/-- A number's length, one by one. -/
def elens (t : Nat) : Nat → Nat → Es → Es
  | 0, _, s => s
  | m + 1, i, s => elens t m (i + 1) (eputAt s (t * 37 + i) 1)
def estop (t n : Nat) (s : Es) : Es := if n < 21 then eputAt s (t * 37 + (n - 1)) 0 else s
def enum (t v : Nat) (s : Es) : Es := elow t (v + 1) (blen (v + 1) - 1) 0 0 (estop t (blen (v + 1)) (elens t (blen (v + 1) - 1) 0 s))
theorem elens_len (t m : Nat) : ∀ (i : Nat) (s : Es), s.code.length ≤ (elens t m i s).code.length ∧ (elens t m i s).code.length ≤ s.code.length + m := by
  induction m with
  | zero => intro i s; exact ⟨Nat.le_refl _, Nat.le_refl _⟩
  | succ m ih =>
    intro i s
    have h1 := eputAt_len s (t * 37 + i) 1
    have h2 := ih (i + 1) (eputAt s (t * 37 + i) 1)
    unfold elens
    omega
theorem estop_len (t n : Nat) (s : Es) : s.code.length ≤ (estop t n s).code.length ∧ (estop t n s).code.length ≤ s.code.length + 1 := by
  unfold estop
  split
  · exact eputAt_len _ _ _
  · omega
theorem blen_pos {x : Nat} (h : 0 < x) : 1 ≤ blen x := by
  unfold blen
  rw [if_neg (by omega)]
  omega
/-- A step that follows a step. -/
theorem EbPost.next {w w1 w' : World} {bk g : Nat} {v v1 : Value} {s' : Es} {e : Ending} (hf : ∀ j, v1.ownBlock = some j → v.ownBlock = some j ∨ w.heap.size ≤ j) (hm : Mod (fun j => j = g ∨ j = bk ∨ v.ownBlock = some j) w w1) (h : EbPost w1 bk g v1 s' e w') : EbPost w bk g v s' e w' := by
  obtain ⟨v2, rfl, hE, hF, hM⟩ := h
  refine ⟨v2, rfl, hE, fun j e => ?_, hm.into hM (fun j e => ?_)⟩
  · rcases hF j e with h1 | h1
    · exact hf j h1
    · exact .inr (Nat.le_trans hm.size h1)
  · rcases e with e | e | e
    · exact .inl (.inl e)
    · exact .inl (.inr (.inl e))
    · rcases hf j e with h1 | h1
      · exact .inl (.inr (.inr h1))
      · exact .inr h1
def ELenRel (w : World) (bk g : Nat) (v : Value) (t n : Nat) (tg : Es) (v17 : Value) (wr : World) : Prop :=
  ∃ (i : Nat) (s : Es) (v1 : Value), i ≤ n ∧ v17 = .int .i64 (i : Int) ∧ EbAt wr bk g v1 s ∧ elens t (n - i) i s = tg ∧ s.code.length + (n - i) + 22 ≤ 1048575 + 1 ∧
    (∀ j, v1.ownBlock = some j → v.ownBlock = some j ∨ w.heap.size ≤ j) ∧ Mod (fun j => j = g ∨ j = bk ∨ v.ownBlock = some j) w wr

set_option maxRecDepth 100000 in
set_option maxHeartbeats 4000000 in
theorem ebPutNum (w : World) (bk g : Nat) (v : Value) (s : Es) (t x : Nat) (ht : t < 16) (hx : x ≤ 1048576) (h : EbAt w bk g v s) (hl : s.code.length + 43 ≤ 1048575 + 1) :
    Calls Tryz.prog 139 #[.pointer (some ⟨bk, t * 37, none⟩), .pointer (some ⟨g, 0, none⟩), .int .i64 (x : Int)] w (EbPost w bk g v (enum t x s)) := by
  obtain ⟨n, hn⟩ : ∃ n, n = blen (x + 1) := ⟨_, rfl⟩
  have hn1 : 1 ≤ n := by rw [hn]; exact blen_pos (by omega)
  have hn2 : n ≤ 21 := by rw [hn]; exact blen_pw (by omega)
  obtain ⟨m, rfl⟩ : ∃ m, n = m + 1 := ⟨n - 1, by omega⟩
  have hBL : ∀ w, Calls Tryz.prog 138 #[.int .u64 ((x : Int) + 1)] w fun e w' => e = .returned (.int .i64 ((m + 1 : Nat) : Int)) ∧ w = w' := fun w => by
    have := bitsLen w (x + 1) (by omega)
    rw [← hn] at this
    exact this
  obtain ⟨s1, hs1⟩ : ∃ s1, s1 = elens t m 0 s := ⟨_, rfl⟩
  have hnum : enum t x s = elow t (x + 1) m 0 0 (estop t (m + 1) s1) := by
    unfold enum
    rw [← hn, hs1]
    rfl
  have hw1 : IntKind.u64.wrap ((x : Int) + 1) = (x : Int) + 1 := IntWalk.u64_in _ ⟨by omega, by omega⟩
  have e1 : (((m + 1 : Nat) : Int) - 1) = (m : Int) := by omega
  have hlen := elens_len t m 0 s
  rw [← hs1] at hlen
  have H := Lib.hid (And.intro h (And.intro hl (And.intro hnum (And.intro hBL (And.intro hs1 (And.intro hn hlen))))))
  clear h hl hnum hBL hs1 hn hlen
  go_enter Tryz.func139, Tryz.ntmps139
  go_wp2_with fail
  refine (H.out.2.2.2.1 _).mono ?_
  rintro e w1 ⟨rfl, rfl⟩
  go_wp2_with fail
  go_loopw [17] (ELenRel w bk g v t m s1) (fun i _ => m - (intOf i).toNat)
  case atStart => exact ⟨0, s, v, by omega, rfl, H.out.1, H.out.2.2.2.2.1.symm, by have := H.out.2.1; omega, fun j e => .inl e, Mod.refl _ _⟩
  case round =>
    obtain ⟨i, sa, va, hi, rfl, hs, hg, hl1, hf1, hM⟩ := hrel
    rename World => wr
    by_cases hlt : i < m
    · have hge : elens t (m - i) i sa = elens t (m - (i + 1)) (i + 1) (eputAt sa (t * 37 + i) 1) := by
        rw [show m - i = (m - (i + 1)) + 1 by omega]
        rfl
      rw [hg] at hge
      have hcl := eputAt_len sa (t * 37 + i) 1
      have PT := ebPut_at wr bk g va sa (t * 37 + i) 1 (by omega) (by omega) hs (by omega)
      have d1 : decide ((i : Int) < (m : Int)) = true := decide_eq_true (by omega)
      have i20 : i < 20 := by omega
      have HB := Lib.hid (And.intro hge (And.intro hl1 (And.intro hf1 (And.intro hM (And.intro PT hcl)))))
      clear hs hg hge hl1 hf1 hM PT hcl
      go_wp2_with fail
      refine HB.out.2.2.2.2.1.mono ?_
      rintro e w3 hp
      have hp2 := EbPost.next HB.out.2.2.1 HB.out.2.2.2.1 hp
      obtain ⟨v3, rfl, hE3, hF3, hM3⟩ := hp2
      have H3 := Lib.hid (And.intro hE3 (And.intro hF3 hM3))
      clear hp hE3 hF3 hM3
      go_wp2_with fail
      go_roundw
      case rel => exact ⟨i + 1, _, v3, by omega, by go_num, H3.out.1, HB.out.1.symm, by have := HB.out.2.1; have := HB.out.2.2.2.2.2.2; omega, H3.out.2.1, H3.out.2.2⟩
      case measure => simp [intOf]; omega
    · obtain rfl : i = m := by omega
      rw [Nat.sub_self] at hg
      have hg2 : sa = s1 := hg
      subst hg2
      have d1 : decide ((i : Int) < (i : Int)) = false := decide_eq_false (by omega)
      have HB := Lib.hid (And.intro hs (And.intro hl1 (And.intro hf1 hM)))
      clear hs hg hl1 hf1 hM
      by_cases h21 : i + 1 < 21
      · have d2 : decide ((i : Int) + 1 < 21) = true := decide_eq_true (by omega)
        have d2' : decide (((i + 1 : Nat) : Int) < 21) = true := decide_eq_true (by omega)
        have i20 : i < 20 := by omega
        have PT := ebPut_at wr bk g va sa (t * 37 + i) 0 (by omega) (by omega) HB.out.1 (by have := HB.out.2.1; omega)
        have HP := Lib.hid PT
        clear PT
        go_wp2_with fail
        refine HP.out.mono ?_
        rintro e w3 hp
        obtain ⟨v3, rfl, hE3, hF3, hM3⟩ := EbPost.next HB.out.2.2.1 HB.out.2.2.2 hp
        have H3 := Lib.hid (And.intro hE3 (And.intro hF3 hM3))
        clear hp hE3 hF3 hM3
        have LW : Calls Tryz.prog 137 #[.pointer (some ⟨bk, t * 37, none⟩), .pointer (some ⟨g, 0, none⟩), .int .i64 ((x : Int) + 1), .int .i64 (i : Int)] w3 (EbPost w3 bk g v3 (elow t (x + 1) i 0 0 (eputAt sa (t * 37 + i) 0))) := ebPutLow w3 bk g v3 (eputAt sa (t * 37 + i) 0) t (x + 1) i ht (by omega) (by omega) H3.out.1 (by have := HB.out.2.1; have := H.out.2.1; have := H.out.2.2.2.2.2.2; have := eputAt_len sa (t * 37 + i) 0; omega)
        have HL := Lib.hid LW
        clear LW
        go_wp2_with fail
        refine HL.out.mono ?_
        rintro e w5 hp5
        obtain ⟨v5, rfl, hE5, hF5, hM5⟩ := EbPost.next H3.out.2.1 H3.out.2.2 hp5
        have H5 := Lib.hid (And.intro hE5 (And.intro hF5 hM5))
        clear hp5 hE5 hF5 hM5
        go_wp2_with fail
        go_ret
        refine ⟨v5, rfl, ?_, H5.out.2.1, H5.out.2.2⟩
        rw [H.out.2.2.1]
        unfold estop
        rw [if_pos h21]
        exact H5.out.1
      · have d2 : decide ((i : Int) + 1 < 21) = false := decide_eq_false (by omega)
        have d2' : decide (((i + 1 : Nat) : Int) < 21) = false := decide_eq_false (by omega)
        have LW : Calls Tryz.prog 137 #[.pointer (some ⟨bk, t * 37, none⟩), .pointer (some ⟨g, 0, none⟩), .int .i64 ((x : Int) + 1), .int .i64 (i : Int)] wr (EbPost wr bk g va (elow t (x + 1) i 0 0 sa)) := ebPutLow wr bk g va sa t (x + 1) i ht (by omega) (by omega) HB.out.1 (by have := HB.out.2.1; have := H.out.2.1; have := H.out.2.2.2.2.2.2;  omega)
        have HL := Lib.hid LW
        clear LW
        go_wp2_with fail
        refine HL.out.mono ?_
        rintro e w5 hp5
        obtain ⟨v5, rfl, hE5, hF5, hM5⟩ := EbPost.next HB.out.2.2.1 HB.out.2.2.2 hp5
        have H5 := Lib.hid (And.intro hE5 (And.intro hF5 hM5))
        clear hp5 hE5 hF5 hM5
        go_wp2_with fail
        go_ret
        refine ⟨v5, rfl, ?_, H5.out.2.1, H5.out.2.2⟩
        rw [H.out.2.2.1]
        unfold estop
        rw [if_neg h21]
        exact H5.out.1
end Go.Proofs.YtmkopcojnibhlaaGreatDoor

/-
  The book's Put, PutSigned, PutOne.
-/
namespace Go.Proofs.YtmkopcojnibhlaaGreatDoor
open Go.RowKit

def esigned (t : Nat) (v : Int) (s : Es) : Es := if v = 0 then enum t v.natAbs s else eputAt (enum t v.natAbs s) (t * 37 + 36) (if v < 0 then 1 else 0)
theorem enum_len {t x : Nat} (hx : x ≤ 1048576) (s : Es) : s.code.length ≤ (enum t x s).code.length ∧ (enum t x s).code.length ≤ s.code.length + 41 := by
  have h0 : blen (x + 1) ≤ 21 := blen_pw (by omega)
  have h1 := elens_len t (blen (x + 1) - 1) 0 s
  have h2 := estop_len t (blen (x + 1)) (elens t (blen (x + 1) - 1) 0 s)
  have h3 := elow_len t (x + 1) (blen (x + 1) - 1) 0 0 (estop t (blen (x + 1)) (elens t (blen (x + 1) - 1) 0 s))
  unfold enum
  omega

set_option maxRecDepth 100000 in
set_option maxHeartbeats 1000000 in
theorem ebBook (w : World) (bk g : Nat) (v : Value) (s : Es) (t x : Nat) (ht : t < 16) (hx : x ≤ 1048576) (h : EbAt w bk g v s) (hl : s.code.length + 43 ≤ 1048575 + 1) :
    Calls Tryz.prog 212 #[.pointer (some ⟨bk, 0, none⟩), .pointer (some ⟨g, 0, none⟩), .int .i64 (t : Int), .int .i64 (x : Int)] w (EbPost w bk g v (enum t x s)) := by
  have p0 : decide ((x : Int) < 0) = false := decide_eq_false (by omega)
  have p1 : decide (1048576 < (x : Int)) = false := decide_eq_false (by omega)
  have HP := Lib.hid (ebPutNum w bk g v s t x ht hx h hl)
  clear h hl
  go_enter Tryz.func212, Tryz.ntmps212
  go_wp2_with fail
  refine (bTopic w bk t ht).mono ?_
  rintro e w1 ⟨rfl, rfl⟩
  go_wp2_with fail
  refine HP.out.mono ?_
  rintro e w2 ⟨v2, rfl, hE, hF, hM⟩
  have H2 := Lib.hid (And.intro hE (And.intro hF hM))
  clear hE hF hM
  go_wp2_with fail
  go_ret
  exact ⟨v2, rfl, H2.out.1, H2.out.2.1, H2.out.2.2⟩
set_option maxRecDepth 100000 in
set_option maxHeartbeats 1000000 in
theorem ebOne (w : World) (bk g : Nat) (v : Value) (s : Es) (t n x : Nat) (ht : t < 16) (hn : n = 3 ∨ n = 4) (hx : x < n) (h : EbAt w bk g v s) (hl : s.code.length + 43 ≤ 1048575 + 1) :
    Calls Tryz.prog 88 #[.pointer (some ⟨bk, 0, none⟩), .pointer (some ⟨g, 0, none⟩), .int .i64 (t : Int), .int .i64 (n : Int), .int .i64 (x : Int)] w (EbPost w bk g v (elow t x 2 0 0 s)) := by
  have p0 : decide ((x : Int) < 0) = false := decide_eq_false (by omega)
  have p1 : decide ((n : Int) ≤ (x : Int)) = false := decide_eq_false (by omega)
  have HP := Lib.hid (ebPutLow w bk g v s t x 2 ht (by omega) (by omega) h (by omega))
  clear h hl
  rcases hn with rfl | rfl
  · go_enter Tryz.func88, Tryz.ntmps88
    go_wp2_with fail
    refine (bTopic w bk t ht).mono ?_
    rintro e w1 ⟨rfl, rfl⟩
    go_wp2_with fail
    refine (bitsLen2 _).mono ?_
    rintro e w1 ⟨rfl, rfl⟩
    go_wp2_with fail
    refine HP.out.mono ?_
    rintro e w2 ⟨v2, rfl, hE, hF, hM⟩
    have H2 := Lib.hid (And.intro hE (And.intro hF hM))
    clear hE hF hM
    go_wp2_with fail
    go_ret
    exact ⟨v2, rfl, H2.out.1, H2.out.2.1, H2.out.2.2⟩
  · go_enter Tryz.func88, Tryz.ntmps88
    go_wp2_with fail
    refine (bTopic w bk t ht).mono ?_
    rintro e w1 ⟨rfl, rfl⟩
    go_wp2_with fail
    refine (bitsLen3 _).mono ?_
    rintro e w1 ⟨rfl, rfl⟩
    go_wp2_with fail
    refine HP.out.mono ?_
    rintro e w2 ⟨v2, rfl, hE, hF, hM⟩
    have H2 := Lib.hid (And.intro hE (And.intro hF hM))
    clear hE hF hM
    go_wp2_with fail
    go_ret
    exact ⟨v2, rfl, H2.out.1, H2.out.2.1, H2.out.2.2⟩
set_option maxRecDepth 100000 in
set_option maxHeartbeats 2000000 in
theorem ebSigned (w : World) (bk g : Nat) (v : Value) (s : Es) (t : Nat) (x : Int) (ht : t < 16) (hx : -1048576 ≤ x ∧ x ≤ 1048576) (h : EbAt w bk g v s) (hl : s.code.length + 43 ≤ 1048575 + 1) :
    Calls Tryz.prog 89 #[.pointer (some ⟨bk, 0, none⟩), .pointer (some ⟨g, 0, none⟩), .int .i64 (t : Int), .int .i64 x] w (EbPost w bk g v (esigned t x s)) := by
  obtain ⟨hx1, hx2⟩ := hx
  have p0 : decide (x < -1048576) = false := decide_eq_false (by omega)
  have p1 : decide (1048576 < x) = false := decide_eq_false (by omega)
  have HP := Lib.hid (And.intro (ebPutNum w bk g v s t x.natAbs ht (by omega) h hl) (And.intro hl (enum_len (t := t) (x := x.natAbs) (by omega) s)))
  clear h hl
  by_cases h0 : x = 0
  · subst h0
    go_enter Tryz.func89, Tryz.ntmps89
    go_wp2_with fail
    refine (bTopic w bk t ht).mono ?_
    rintro e w1 ⟨rfl, rfl⟩
    go_wp2_with fail
    refine HP.out.1.mono ?_
    rintro e w2 ⟨v2, rfl, hE, hF, hM⟩
    have H2 := Lib.hid (And.intro hE (And.intro hF hM))
    clear hE hF hM
    go_wp2_with fail
    go_ret
    exact ⟨v2, rfl, H2.out.1, H2.out.2.1, H2.out.2.2⟩
  · by_cases hneg : x < 0
    · have d1 : decide (x < 0) = true := decide_eq_true hneg
      obtain ⟨y, hyn⟩ : ∃ y : Nat, y = x.natAbs := ⟨_, rfl⟩
      have d2 : ((y : Int) == 0) = false := by simp; omega
      have hw1 : IntKind.i64.wrap (-x) = (y : Int) := by
        rw [show -x = (y : Int) by omega]
        exact IntWalk.i64_in _ ⟨by omega, by omega⟩
      have hy1 : y ≤ 1048576 := by omega
      rw [← hyn] at HP
      have HQ : Hid (esigned t x s = eputAt (enum t y s) (t * 37 + 36) 1) := by
        show _ = _
        unfold esigned
        rw [if_neg h0, if_pos hneg, ← hyn]
      clear h0 hneg hyn
      go_enter Tryz.func89, Tryz.ntmps89
      go_wp2_with fail
      refine (bTopic w bk t ht).mono ?_
      rintro e w1 ⟨rfl, rfl⟩
      go_wp2_with fail
      refine HP.out.1.mono ?_
      rintro e w2 ⟨v2, rfl, hE, hF, hM⟩
      have PT := ebPut_at w2 bk g v2 (enum t y s) (t * 37 + 36) 1 (by omega) (by omega) hE (by have := HP.out.2.1; have := HP.out.2.2; omega)
      have H2 := Lib.hid (And.intro PT (And.intro hF hM))
      clear hE hF hM PT
      go_wp2_with fail
      refine H2.out.1.mono ?_
      rintro e w3 hp
      obtain ⟨v3, rfl, hE3, hF3, hM3⟩ := EbPost.next H2.out.2.1 H2.out.2.2 hp
      have H3 := Lib.hid (And.intro hE3 (And.intro hF3 hM3))
      clear hp hE3 hF3 hM3
      go_wp2_with fail
      go_ret
      refine ⟨v3, rfl, ?_, H3.out.2.1, H3.out.2.2⟩
      rw [HQ.out]
      exact H3.out.1
    · have d1 : decide (x < 0) = false := decide_eq_false hneg
      obtain ⟨y, rfl⟩ : ∃ y : Nat, x = (y : Int) := ⟨x.natAbs, by omega⟩
      have hyn : ((y : Int)).natAbs = y := by omega
      have d2 : ((y : Int) == 0) = false := by simp; omega
      rw [hyn] at HP
      have HQ : Hid (esigned t (y : Int) s = eputAt (enum t y s) (t * 37 + 36) 0) := by
        show _ = _
        unfold esigned
        rw [if_neg h0, if_neg hneg, hyn]
      clear h0 hneg hyn
      go_enter Tryz.func89, Tryz.ntmps89
      go_wp2_with fail
      refine (bTopic w bk t ht).mono ?_
      rintro e w1 ⟨rfl, rfl⟩
      go_wp2_with fail
      refine HP.out.1.mono ?_
      rintro e w2 ⟨v2, rfl, hE, hF, hM⟩
      have PT := ebPut_at w2 bk g v2 (enum t y s) (t * 37 + 36) 0 (by omega) (by omega) hE (by have := HP.out.2.1; have := HP.out.2.2; omega)
      have H2 := Lib.hid (And.intro PT (And.intro hF hM))
      clear hE hF hM PT
      go_wp2_with fail
      refine H2.out.1.mono ?_
      rintro e w3 hp
      obtain ⟨v3, rfl, hE3, hF3, hM3⟩ := EbPost.next H2.out.2.1 H2.out.2.2 hp
      have H3 := Lib.hid (And.intro hE3 (And.intro hF3 hM3))
      clear hp hE3 hF3 hM3
      go_wp2_with fail
      go_ret
      refine ⟨v3, rfl, ?_, H3.out.2.1, H3.out.2.2⟩
      rw [HQ.out]
      exact H3.out.1
end Go.Proofs.YtmkopcojnibhlaaGreatDoor
