/-
  The book's put: a bit by a chance that becomes the next one.
-/
import Derived.Test.YtmkopcojnibhlaaGreatDoorM23
import Derived.Test.YtmkopcojnibhlaaGreatDoorM9
import Derived.Test.YtmkopcojnibhlaaGreatDoorM16
namespace Go.Proofs.YtmkopcojnibhlaaGreatDoor
open Go.RowKit

/-- What is written: the chances of a book, the code, the range. -/
structure Es where
  ch : List Nat
  code : List UInt8
  wide : Nat
def eputAt (s : Es) (i bit : Nat) : Es := ⟨s.ch.set i (cnext (s.ch.getD i 0) bit), (eput s.code s.wide (s.ch.getD i 0) bit).1, (eput s.code s.wide (s.ch.getD i 0) bit).2⟩
def eputEven (s : Es) (bit : Nat) : Es := ⟨s.ch, (eput s.code s.wide 1024 bit).1, (eput s.code s.wide 1024 bit).2⟩
structure EbAt (w : World) (bk g : Nat) (v : Value) (s : Es) : Prop where
  bk_ : Blk w bk 150 (u16s s.ch).toArray
  len : s.ch.length = 592
  ok : ∀ i, i < 592 → chanceOk (s.ch.getD i 0) = true
  enc : EAt w g v s.code s.wide
/-- What a put of the book's does. -/
def EbPost (w : World) (bk g : Nat) (v : Value) (s' : Es) (e : Ending) (w' : World) : Prop :=
  ∃ v', e = .returned (.int .i64 0) ∧ EbAt w' bk g v' s' ∧ (∀ j, v'.ownBlock = some j → v.ownBlock = some j ∨ w.heap.size ≤ j) ∧ Mod (fun j => j = g ∨ j = bk ∨ v.ownBlock = some j) w w'
theorem EbAt.apart {w : World} {bk g : Nat} {v : Value} {s : Es} (h : EbAt w bk g v s) : g ≠ bk ∧ ¬ v.ownBlock = some bk :=
  ⟨fun e => by subst e; exact h.enc.blk.ne_ h.bk_ (by decide) rfl, h.enc.own.apart h.bk_ (by decide)⟩
theorem EbAt.quiet {w w' : World} {bk g : Nat} {v : Value} {s : Es} (h : EbAt w bk g v s) (hm : Mod (fun _ => False) w w') : EbAt w' bk g v s := ⟨h.bk_.keep hm (fun h => h), h.len, h.ok, h.enc.quiet hm⟩
theorem eputAt_ok {s : Es} {i bit : Nat} (hl : s.ch.length = 592) (h : ∀ j, j < 592 → chanceOk (s.ch.getD j 0) = true) (hi : i < 592) : (eputAt s i bit).ch.length = 592 ∧ ∀ j, j < 592 → chanceOk ((eputAt s i bit).ch.getD j 0) = true := by
  refine ⟨by simp [eputAt, hl], fun j hj => ?_⟩
  unfold eputAt
  dsimp only
  rw [List.getD_eq_getElem?_getD, List.getElem?_set]
  split
  · rename_i e
    subst e
    rw [if_pos (by omega)]
    exact cnext_ok _ _ (h i hi)
  · rw [← List.getD_eq_getElem?_getD]
    exact h j hj

set_option maxRecDepth 100000 in
set_option maxHeartbeats 1000000 in
theorem ebPut (w : World) (g gb : Nat) (tb : TypeId) (cs : Array Value) (i p bit : Nat) (v : Value) (code : List UInt8) (wide : Nat) (h : EAt w g v code wide) (hl : code.length ≤ 1048575) (hgb : g ≠ gb) (hgo : ¬ v.ownBlock = some gb) (hb : Blk w gb tb cs) (hi : cs[i]? = some (.int .u16 (p : Int))) (hp : chanceOk p = true) (hbit : bit ≤ 1) :
    Calls Tryz.prog 140 #[.pointer (some ⟨g, 0, none⟩), .pointer (some ⟨gb, i, none⟩), .int .i64 (bit : Int)] w fun e w' =>
      ∃ v', e = .returned (.int .i64 0) ∧ EAt w' g v' (eput code wide p bit).1 (eput code wide p bit).2 ∧ (∀ j, v'.ownBlock = some j → v.ownBlock = some j ∨ w.heap.size ≤ j) ∧ Blk w' gb tb (cs.setIfInBounds i (.int .u16 ((cnext p bit : Nat) : Int))) ∧ Mod (fun j => j = g ∨ j = gb ∨ v.ownBlock = some j) w w' := by
  have c0 : w.cell? ⟨gb, i, none⟩ = some (.int .u16 (p : Int)) := (hb.cell i).trans hi
  have G1 := ePut w g v code wide p bit h hl hp hbit
  have HH := Lib.hid (And.intro hb (And.intro hi (And.intro G1 (And.intro hp hgo))))
  clear hb hi G1 hp h hgo
  go_enter Tryz.func140, Tryz.ntmps140
  go_wp2_with fail
  refine HH.out.2.2.1.mono ?_
  rintro e w1 ⟨v1, rfl, hE1, hF1, hm⟩
  have hap : ¬ (gb = g ∨ v.ownBlock = some gb) := fun h => by
    rcases h with h | h
    · exact hgb h.symm
    · exact HH.out.2.2.2.2 h
  have hb1 := HH.out.1.keep hm hap
  have k0 : w1.cell? ⟨gb, i, none⟩ = some (.int .u16 (p : Int)) := (hb1.cell i).trans HH.out.2.1
  have f0 := hb1.frozen i
  have hl1 := hb1.lt
  have hgl := HH.out.1.lt
  have HR := Lib.hid (And.intro hE1 (And.intro hF1 (And.intro hm hb1)))
  clear hE1 hF1 hm hb1 c0 hap
  go_wp2_with fail
  refine (cNext _ p bit hbit HH.out.2.2.2.1).mono ?_
  rintro e w2 ⟨rfl, rfl⟩
  go_wp2_with fail
  go_ret
  obtain ⟨hE1, hF1, hm, hb1⟩ := HR.out
  have hs : Mod (fun j => j = gb) w1 (w1.setCell ⟨gb, i, none⟩ (.int .u16 ((cnext p bit : Nat) : Int))) := (Mod.refl (fun j => j = gb) w1).setCell (p := ⟨gb, i, none⟩) (.inl rfl) _
  refine ⟨v1, rfl, ⟨hE1.blk.keep hs hgb, hE1.own.mod hs (fun j e hj => ?_), hE1.four, hE1.lo, hE1.hi⟩, hF1, hb1.set_ i _, ?_⟩
  · subst hj
    rcases hF1 _ e with h | h
    · exact HH.out.2.2.2.2 h
    · omega
  · exact (hm.mono (fun _ h => by rcases h with h | h; exact .inl h; exact .inr (.inr h))).setCell (p := ⟨gb, i, none⟩) (.inl (.inr (.inl rfl))) _
theorem ebPut_at (w : World) (bk g : Nat) (v : Value) (s : Es) (i bit : Nat) (hi : i < 592) (hbit : bit ≤ 1) (h : EbAt w bk g v s) (hl : s.code.length ≤ 1048575) :
    Calls Tryz.prog 140 #[.pointer (some ⟨g, 0, none⟩), .pointer (some ⟨bk, i, none⟩), .int .i64 (bit : Int)] w (EbPost w bk g v (eputAt s i bit)) := by
  obtain ⟨a1, a2⟩ := h.apart
  have hx : (u16s s.ch).toArray[i]? = some (.int .u16 ((s.ch.getD i 0 : Nat) : Int)) := by simp [u16s, List.getD_eq_getElem?_getD, h.len, hi]
  refine (ebPut w g bk _ _ i _ bit v _ _ h.enc hl a1 a2 h.bk_ hx (h.ok i hi) hbit).mono ?_
  rintro e w1 ⟨v1, rfl, hE, hF, hb1, hm⟩
  have e1 : ((u16s s.ch).toArray.setIfInBounds i (.int .u16 ((cnext (s.ch.getD i 0) bit : Nat) : Int))) = (u16s (s.ch.set i (cnext (s.ch.getD i 0) bit))).toArray := by simp [u16s, List.map_set]
  rw [e1] at hb1
  obtain ⟨k1, k2⟩ := eputAt_ok (bit := bit) h.len h.ok hi
  exact ⟨v1, rfl, ⟨hb1, k1, k2, hE⟩, hF, hm⟩
theorem ebPut_even (w : World) (bk g : Nat) (v : Value) (s : Es) (ge bit : Nat) (hbit : bit ≤ 1) (hge : g ≠ ge) (hbe : bk ≠ ge) (hve : ¬ v.ownBlock = some ge) (h : EbAt w bk g v s) (hl : s.code.length ≤ 1048575) (he : Blk w ge 143 #[.int .u16 1024]) :
    Calls Tryz.prog 140 #[.pointer (some ⟨g, 0, none⟩), .pointer (some ⟨ge, 0, none⟩), .int .i64 (bit : Int)] w fun e w' =>
      ∃ v', e = .returned (.int .i64 0) ∧ EbAt w' bk g v' (eputEven s bit) ∧ (∀ j, v'.ownBlock = some j → v.ownBlock = some j ∨ w.heap.size ≤ j) ∧ Mod (fun j => j = g ∨ j = ge ∨ v.ownBlock = some j) w w' := by
  obtain ⟨a1, a2⟩ := h.apart
  refine (ebPut w g ge _ _ 0 1024 bit v _ _ h.enc hl hge hve he rfl (by decide) hbit).mono ?_
  rintro e w1 ⟨v1, rfl, hE, hF, _, hm⟩
  exact ⟨v1, rfl, ⟨h.bk_.keep hm (fun h => by rcases h with h | h | h; exact a1 h.symm; exact hbe h; exact a2 h), h.len, h.ok, hE⟩, hF, hm⟩
end Go.Proofs.YtmkopcojnibhlaaGreatDoor

/-
  The book's putLow: the lowest bits of a number.
-/
namespace Go.Proofs.YtmkopcojnibhlaaGreatDoor
open Go.RowKit

/-- The i-th of the low bits behind a number is put. -/
def eslow (s : Es) (t i ahead bit : Nat) : Es := if i < 4 then eputAt s (t * 37 + atIdx i ahead) bit else eputEven s bit
def elow (t x : Nat) : Nat → Nat → Nat → Es → Es
  | 0, _, _, s => s
  | m + 1, i, ahead, s => elow t x m (i + 1) (2 * ahead + x / 2 ^ m % 2) (eslow s t i ahead (x / 2 ^ m % 2))
theorem eputAt_len (s : Es) (i bit : Nat) : s.code.length ≤ (eputAt s i bit).code.length ∧ (eputAt s i bit).code.length ≤ s.code.length + 1 := eput_length _ _ _ _
theorem eputEven_len (s : Es) (bit : Nat) : s.code.length ≤ (eputEven s bit).code.length ∧ (eputEven s bit).code.length ≤ s.code.length + 1 := eput_length _ _ _ _
theorem eslow_len (s : Es) (t i a bit : Nat) : s.code.length ≤ (eslow s t i a bit).code.length ∧ (eslow s t i a bit).code.length ≤ s.code.length + 1 := by
  unfold eslow
  split
  · exact eputAt_len _ _ _
  · exact eputEven_len _ _
theorem elow_len (t x m : Nat) : ∀ (i a : Nat) (s : Es), s.code.length ≤ (elow t x m i a s).code.length ∧ (elow t x m i a s).code.length ≤ s.code.length + m := by
  induction m with
  | zero => intro i a s; exact ⟨Nat.le_refl _, Nat.le_refl _⟩
  | succ m ih =>
    intro i a s
    have h1 := eslow_len s t i a (x / 2 ^ m % 2)
    have h2 := ih (i + 1) (2 * a + x / 2 ^ m % 2) (eslow s t i a (x / 2 ^ m % 2))
    unfold elow
    omega
theorem and64 (y : Nat) (hy : y < 1099511627776) : bits BinOp.and IntKind.i64 (y : Int) 1 = ((y % 2 : Nat) : Int) := by
  have e1 : (BitVec.ofInt 64 (y : Int)).toNat = y := by rw [BitVec.toNat_ofInt]; omega
  have e2 : (BitVec.ofInt 64 1).toNat = 1 := by rw [BitVec.toNat_ofInt]; omega
  have key : (BitVec.ofInt 64 (y : Int) &&& BitVec.ofInt 64 1).toNat = y % 2 := by
    rw [BitVec.toNat_and, e1, e2, Nat.and_one_is_mod]
  show IntKind.i64.wrap ((BitVec.ofInt 64 (y : Int) &&& BitVec.ofInt 64 1).toNat : Nat) = _
  rw [key]
  exact IntWalk.i64_in _ ⟨by omega, by omega⟩
def ELowRel (w : World) (bk g : Nat) (v : Value) (t x n : Nat) (tg : Es) (v9 v16 : Value) (wr : World) : Prop :=
  ∃ (i ahead : Nat) (s : Es) (v1 : Value), i ≤ n ∧ ahead < 2 ^ i ∧ v9 = .int .i64 (ahead : Int) ∧ v16 = .int .i64 (i : Int) ∧ EbAt wr bk g v1 s ∧ elow t x (n - i) i ahead s = tg ∧ s.code.length + (n - i) ≤ 1048575 + 1 ∧
    (∀ j, v1.ownBlock = some j → v.ownBlock = some j ∨ w.heap.size ≤ j) ∧ Mod (fun j => j = g ∨ j = bk ∨ v.ownBlock = some j) w wr

set_option maxRecDepth 100000 in
set_option maxHeartbeats 4000000 in
theorem ebPutLow (w : World) (bk g : Nat) (v : Value) (s : Es) (t x n : Nat) (ht : t < 16) (hn : n ≤ 20) (hx : x < 4294967296) (h : EbAt w bk g v s) (hl : s.code.length + n ≤ 1048575 + 1) :
    Calls Tryz.prog 137 #[.pointer (some ⟨bk, t * 37, none⟩), .pointer (some ⟨g, 0, none⟩), .int .i64 (x : Int), .int .i64 (n : Int)] w (EbPost w bk g v (elow t x n 0 0 s)) := by
  obtain ⟨tg, htg⟩ : ∃ tg, tg = elow t x n 0 0 s := ⟨_, rfl⟩
  rw [← htg]
  have hbw := h.bk_.lt
  have hgw := h.enc.blk.lt
  have HH := Lib.hid (And.intro h (And.intro htg hl))
  clear h htg hl
  go_enter Tryz.func137, Tryz.ntmps137
  go_wp2_with fail
  go_loopw [9, 16] (ELowRel w bk g v t x n tg) (fun _ i _ => n - (intOf i).toNat)
  case atStart => exact ⟨0, 0, s, v, by omega, by simp, rfl, rfl, HH.out.1, HH.out.2.1.symm, HH.out.2.2, fun j e => .inl e, Mod.refl _ _⟩
  case round =>
    obtain ⟨i, ahead, s1, v1, hi, ha, rfl, rfl, hs, hg, hl1, hf1, hM⟩ := hrel
    rename World => wr
    have ha20 : ahead < 1048576 := Nat.lt_of_lt_of_le ha (Nat.pow_le_pow_right (n := 2) (by omega) (show i ≤ 20 by omega))
    by_cases hlt : i < n
    · have hsz := hM.size
      obtain ⟨m, hm⟩ : ∃ m, n - i = m + 1 := ⟨n - i - 1, by omega⟩
      have em : ((n : Int) - 1 - (i : Int)) = (m : Int) := by omega
      obtain ⟨bt, hbt⟩ : ∃ bt, bt = x / 2 ^ m % 2 := ⟨_, rfl⟩
      have hb1 : bt ≤ 1 := by omega
      have eb : bits BinOp.and IntKind.i64 ((x : Int) / 2 ^ m) 1 = (bt : Int) := by
        have h1 : x / 2 ^ m ≤ x := Nat.div_le_self _ _
        have := and64 (x / 2 ^ m) (by omega)
        rw [hbt, ← this]
        congr 1
      have hge : elow t x (n - i) i ahead s1 = elow t x (n - (i + 1)) (i + 1) (2 * ahead + bt) (eslow s1 t i ahead bt) := by
        rw [hbt, hm, show n - (i + 1) = m by omega]
        rfl
      rw [hg] at hge
      have hs2 := hs.quiet ((Mod.refl (fun _ => False) wr).alloc (.cells #[.int .u16 1024] 143))
      have hbe : Blk (wr.alloc (.cells #[.int .u16 1024] 143)) wr.heap.size 143 #[.int .u16 1024] := Blk.new _ _ _
      have hM2 := hM.alloc (.cells #[.int .u16 1024] 143)
      have hlen := eslow_len s1 t i ahead bt
      have hvl : ∀ j, v1.ownBlock = some j → j < wr.heap.size := fun j e => (World.ownsRow.lt hs.enc.own j e).2
      have HB := Lib.hid (And.intro hs2 (And.intro hge (And.intro hl1 (And.intro hf1 (And.intro hM2 (And.intro ha (And.intro hbe (And.intro hbt (And.intro hlen hvl)))))))))
      clear hs2 hs hg hge hl1 hf1 hM hM2 ha hbe hbt hlen hvl
      by_cases h4 : i < 4
      · have d4 : decide ((i : Int) < 4) = true := decide_eq_true (by omega)
        have hia : t * 37 + atIdx i ahead < 592 := by
          have : ahead < 2 ^ i := HB.out.2.2.2.2.2.1
          have h3 : 2 ^ i ≤ 8 := Nat.pow_le_pow_right (n := 2) (j := 3) (by omega) (by omega)
          unfold atIdx
          omega
        have HA := Lib.hid hia
        clear hia
        go_wp2_with fail
        refine (bAt _ bk (t * 37) i ahead h4 HB.out.2.2.2.2.2.1).mono ?_
        rintro e w2 ⟨rfl, hm2⟩
        have G2 := ebPut_at w2 bk g v1 s1 (t * 37 + atIdx i ahead) bt HA.out hb1 (HB.out.1.quiet hm2) (by have := HB.out.2.2.1; omega)
        have HM2 := Lib.hid (And.intro G2 hm2)
        clear hm2 G2
        go_wp2_with fail
        refine HM2.out.1.mono ?_
        rintro e w3 ⟨v3, rfl, hs3, hf3, hm3⟩
        have H3 := Lib.hid (And.intro hs3 (And.intro hf3 (HM2.out.2.mono (S' := fun j => j = g ∨ j = bk ∨ v1.ownBlock = some j) (fun _ h => h.elim) |>.trans hm3)))
        have hsz3 := HM2.out.2.size
        have HO := Lib.hid (or64 ahead bt (by omega) hb1)
        clear hs3 hf3 hm3
        go_wp2_with fail
        go_roundw
        case rel =>
          have hE := H3.out.1
          refine ⟨i + 1, 2 * ahead + bt, eslow s1 t i ahead bt, v3, by omega, by have := HB.out.2.2.2.2.2.1; rw [Nat.pow_succ]; omega, ?_, by go_num, by unfold eslow; rw [if_pos h4]; exact hE, HB.out.2.1.symm, by have := HB.out.2.2.1; have := HB.out.2.2.2.2.2.2.2.2.1; omega, fun j e => ?_, HB.out.2.2.2.2.1.into H3.out.2.2 (fun j e => ?_)⟩
          · rw [HO.out]
          · rcases H3.out.2.1 j e with h1 | h1
            · exact HB.out.2.2.2.1 j h1
            · exact .inr (by first | (simp at hsz3; omega) | (simp at h1; omega))
          · rcases e with e | e | e
            · exact .inl (.inl e)
            · exact .inl (.inr (.inl e))
            · rcases HB.out.2.2.2.1 j e with h1 | h1
              · exact .inl (.inr (.inr h1))
              · exact .inr h1
        case measure => simp [intOf]; omega
      · have d4 : decide ((i : Int) < 4) = false := decide_eq_false (by omega)
        have G2 := ebPut_even (wr.alloc (.cells #[.int .u16 1024] 143)) bk g v1 s1 wr.heap.size bt hb1 (by omega) (by omega) (fun e => by have := HB.out.2.2.2.2.2.2.2.2.2 _ e; omega) HB.out.1 (by have := HB.out.2.2.1; omega) HB.out.2.2.2.2.2.2.1
        have HG2 := Lib.hid G2
        clear G2
        go_wp2_with fail
        refine HG2.out.mono ?_
        rintro e w3 ⟨v3, rfl, hs3, hf3, hm3⟩
        have H3 := Lib.hid (And.intro hs3 (And.intro hf3 hm3))
        have hsz3 : wr.heap.size ≤ (wr.alloc (.cells #[.int .u16 1024] 143)).heap.size := by simp
        have HO := Lib.hid (or64 ahead bt (by omega) hb1)
        clear hs3 hf3 hm3
        go_wp2_with fail
        go_roundw
        case rel =>
          have hE := H3.out.1
          refine ⟨i + 1, 2 * ahead + bt, eslow s1 t i ahead bt, v3, by omega, by have := HB.out.2.2.2.2.2.1; rw [Nat.pow_succ]; omega, ?_, by go_num, by unfold eslow; rw [if_neg h4]; exact hE, HB.out.2.1.symm, by have := HB.out.2.2.1; have := HB.out.2.2.2.2.2.2.2.2.1; omega, fun j e => ?_, HB.out.2.2.2.2.1.into H3.out.2.2 (fun j e => ?_)⟩
          · rw [HO.out]
          · rcases H3.out.2.1 j e with h1 | h1
            · exact HB.out.2.2.2.1 j h1
            · exact .inr (by first | (simp at hsz3; omega) | (simp at h1; omega))
          · rcases e with e | e | e
            · exact .inl (.inl e)
            · exact .inr (by omega)
            · rcases HB.out.2.2.2.1 j e with h1 | h1
              · exact .inl (.inr (.inr h1))
              · exact .inr h1
        case measure => simp [intOf]; omega
    · obtain rfl : i = n := by omega
      have HB := Lib.hid (And.intro hs (And.intro hg (And.intro hf1 hM)))
      clear hs hg hl1 hf1 hM
      go_wp2_with fail
      go_ret
      refine ⟨v1, rfl, ?_, HB.out.2.2.1, HB.out.2.2.2⟩
      have := HB.out.2.1
      rw [Nat.sub_self] at this
      rw [← this]
      exact HB.out.1
end Go.Proofs.YtmkopcojnibhlaaGreatDoor

/-
  The reference's bits: Digits, Code.
-/
namespace Go.Proofs.YtmkopcojnibhlaaGreatDoor
open Go.RowKit

/-- A number's lowest n bits, the highest first. -/
def digitsL (v : Nat) : Nat → List UInt8
  | 0 => []
  | n + 1 => UInt8.ofNat (v / 2 ^ n % 2) :: digitsL v n
theorem digitsL_length (v n : Nat) : (digitsL v n).length = n := by
  induction n with
  | zero => rfl
  | succ n ih => simp [digitsL, ih]
def digK (v n k : Nat) : List UInt8 := List.replicate (n - k) 0 ++ digitsL v k
theorem digK_length (v n k : Nat) (h : k ≤ n) : (digK v n k).length = n := by simp [digK, digitsL_length]; omega
theorem digK_set (v n k : Nat) (h : k < n) : (digK v n k).set (n - k - 1) (UInt8.ofNat (v / 2 ^ k % 2)) = digK v n (k + 1) := by
  unfold digK
  rw [List.set_append_left _ _ (by simp; omega), digitsL]
  have e : n - k = (n - (k + 1)) + 1 := by omega
  rw [e, List.replicate_succ', show n - (k + 1) + 1 - 1 = n - (k + 1) by omega, List.set_append_right _ _ (by simp)]
  simp
theorem bit_nat (x : Nat) : (UInt8.ofNat (x % 2)).toNat = x % 2 := by
  have : x % 2 < 2 := Nat.mod_lt _ (by omega)
  simp
  omega

def digRel (w : World) (ob v n : Nat) (vv iv : Value) (wr : World) : Prop :=
  ∃ k : Nat, k ≤ n ∧ vv = .int .u64 ((v / 2 ^ k : Nat) : Int) ∧ iv = .int .i64 ((n : Int) - (k : Int) - 1) ∧ Blk wr ob 5 (u8s (digK v n k)).toArray ∧ Mod (· = ob) w wr

set_option maxRecDepth 100000 in
set_option maxHeartbeats 1000000 in
theorem refDigits (w : World) (v n : Nat) (hv : v < 18446744073709551616) (hn : n ≤ 4096) : Calls Tryz.prog 97 #[.int .u64 (v : Int), .int .i64 (n : Int)] w fun e w' => ∃ s, e = .returned s ∧ Bytes w' w.heap.size s (digitsL v n) ∧ Mod (fun _ => False) w w' := by
  obtain ⟨i0, hi0, hz0, hz1, hz2⟩ := info_parts u8_info
  have x1 : i0.bytes * n ≤ 281474976710656 := by rw [hz2]; omega
  have x2 : n ≤ maxLen := by unfold maxLen; omega
  have HX := Lib.hid (And.intro x1 x2)
  clear x1 x2
  go_enter Tryz.func97, Tryz.ntmps97
  go_upto_region 2 with (with_reducible refine wpList_make_full _ rfl (.tmp 7) (.tmp 7) _ rfl w.heap.size 5 i0 (.int .u8 0) 1 Tryz.underlying36 hi0 hz0 hz1 _ _ _ _ n rfl rfl rfl rfl HX.out.1 HX.out.2 (Nat.le_refl _) ?_; intro w1 hown1 hg1; have HO := Lib.hid (And.intro hown1 hg1); clear hown1 hg1)
  have hob := (own_whole HO.out.1).1
  have m1 : Mod (fun _ => False) w w1 := (Mod.refl _ _).grown HO.out.2 (fun k hk => by cases hk)
  have hob' : Blk w1 w.heap.size 5 (u8s (digK v n 0)).toArray := by
    rw [Nat.mul_one, made_u8] at hob
    simpa [digK, digitsL] using hob
  have HI := Lib.hid (And.intro hob' m1)
  clear hob hob' m1 HO
  go_wp2_with fail
  go_loopw [0, 6] (digRel w1 w.heap.size v n) (fun _ i _ => (intOf i + 1).toNat)
  case atStart => exact ⟨0, by omega, by simp, by simp, HI.out.1, Mod.refl _ _⟩
  case round =>
    obtain ⟨k, hk, rfl, rfl, hb, hm⟩ := hrel
    by_cases hlt : k < n
    · obtain ⟨j, hj, hj2⟩ : ∃ j : Nat, (n : Int) - (k : Int) - 1 = (j : Int) ∧ n - k - 1 = j := ⟨n - k - 1, by omega, rfl⟩
      rw [hj]
      have hx : v / 2 ^ k < 18446744073709551616 := Nat.lt_of_le_of_lt (Nat.div_le_self _ _) hv
      have hset := digK_set v n k hlt
      rw [hj2] at hset
      have hdiv : v / 2 ^ (k + 1) = v / 2 ^ k / 2 := by rw [Nat.pow_succ, Nat.div_div_eq_div_mul]
      have hbit := bit_nat (v / 2 ^ k)
      have hjn : j < n := by omega
      have c1 : wr.cell? ⟨w.heap.size, j, none⟩ = some (.int .u8 (((digK v n k).getD j 0).toNat : Int)) := by
        rw [hb.cell j]; simp [u8s, List.getD_eq_getElem?_getD, digK_length v n k hk, hjn]
      have c2 := hb.frozen
      generalize hxx : v / 2 ^ k = x at *
      have HH := Lib.hid (And.intro hset (And.intro hdiv (And.intro hbit (And.intro hb (And.intro hm hj)))))
      clear hset hdiv hbit hb hm hj hxx hj2
      have i1 : (0 : Int) ≤ (j : Int) := by omega
      have i2 : (j : Int) < (n : Int) := by omega
      go_wp2_with fail
      obtain ⟨hset, hdiv, hbit, hb, hm, hj⟩ := HH.out
      refine ⟨⟨k + 1, by omega, by rw [hdiv]; simp, by congr 1; omega, ?_, hm.setCell (.inl rfl) _⟩, by simp [intOf]⟩
      refine hb.put ?_
      rw [← hset]
      have e : (x : Int) % 2 = (((UInt8.ofNat (x % 2)).toNat : Nat) : Int) := by rw [hbit]; omega
      rw [e]
      simp [u8s, List.map_set]
    · obtain rfl : k = n := by omega
      have HF := Lib.hid (And.intro hb hm)
      clear hb hm
      have hneg : (k : Int) - (k : Int) - 1 = -1 := by omega
      rw [hneg]
      go_wp2_with fail
      go_ret
      have hb := HF.out.1
      have e : digK v k k = digitsL v k := by simp [digK]
      rw [e] at hb
      have := Bytes.of_blk (B := w.heap.size) (Nat.le_refl _) hb (by rw [digitsL_length]; exact HX.out.2)
      rw [digitsL_length] at this
      exact ⟨_, rfl, this, HI.out.2.into HF.out.2 (fun i e => .inr (by omega))⟩

/-- How many bits a number has. -/
def blen (m : Nat) : Nat := if m = 0 then 0 else Nat.log2 m + 1
theorem blen_half (m : Nat) (h : 0 < m) : blen m = blen (m / 2) + 1 := by
  unfold blen
  rw [if_neg (by omega), Nat.log2_def]
  by_cases h2 : 2 ≤ m
  · rw [if_pos h2, if_neg (by omega)]
  · rw [if_neg h2, if_pos (by omega)]
theorem blen_le (m : Nat) (h : m < 18446744073709551616) : blen m ≤ 64 := by
  unfold blen
  split
  · omega
  · rename_i h0
    have := (Nat.log2_lt h0 (k := 64)).2 (by omega)
    omega
/-- A number's code, as noughts and ones. -/
def codeL (v : Nat) : List UInt8 := digitsL (v + 1) (2 * blen (v + 1) - 1)
def codeRel (v : Nat) (nv kv : Value) : Prop := ∃ t k : Nat, k ≤ v + 1 ∧ t + blen k = blen (v + 1) ∧ nv = .int .i64 (t : Int) ∧ kv = .int .u64 (k : Int)

set_option maxRecDepth 100000 in
set_option maxHeartbeats 1000000 in
theorem refCode (w : World) (v : Nat) (hv : v < 9223372036854775808) : Calls Tryz.prog 96 #[.int .u64 (v : Int)] w fun e w' => ∃ s, e = .returned s ∧ Bytes w' w.heap.size s (codeL v) ∧ Mod (fun _ => False) w w' := by
  have hbl := blen_le (v + 1) (by omega)
  have hbp : 0 < blen (v + 1) := by rw [blen_half _ (by omega)]; omega
  go_enter Tryz.func96, Tryz.ntmps96
  go_wp2_with fail
  go_loop [3, 4] (codeRel v) (fun _ k => (intOf k).toNat)
  case atStart => exact ⟨0, v + 1, by omega, by omega, rfl, by simp⟩
  case round =>
    obtain ⟨t, k, hk, ht, rfl, rfl⟩ := hrel
    by_cases hp : 0 < k
    · have hh := blen_half k hp
      have HT : Hid (t + 1 + blen (k / 2) = blen (v + 1)) := by show _ = _; omega
      have htl : t ≤ 64 := by omega
      clear ht hh
      clear hbl hbp
      go_wp2_with fail
      refine ⟨⟨t + 1, k / 2, by omega, HT.out, by go_num, by simp⟩, ?_⟩
      simp [intOf]
      omega
    · obtain rfl : k = 0 := by omega
      have ht' : t = blen (v + 1) := by simpa [blen] using ht
      have HC : Hid (codeL v = digitsL (v + 1) (2 * t - 1)) := by show _ = _; rw [ht']; rfl
      have htl : t ≤ 64 := by omega
      have htp : 0 < t := by omega
      clear ht ht' hbl hbp
      obtain ⟨n2, e1, e2⟩ : ∃ n2 : Nat, (2 : Int) * (t : Int) - 1 = (n2 : Int) ∧ 2 * t - 1 = n2 := ⟨2 * t - 1, by omega, rfl⟩
      rw [e2] at HC
      have HE := Lib.hid e2
      clear e2
      go_wp2_with fail
      have hcall := refDigits w (v + 1) n2 (by omega) (by omega)
      rw [show ((v + 1 : Nat) : Int) = (v : Int) + 1 by omega] at hcall
      refine hcall.mono ?_
      rintro e w1 ⟨s, rfl, hs, hm⟩
      obtain ⟨A1, c1, hv1⟩ := own_shape hs
      subst hv1
      have HF := Lib.hid (And.intro hs hm)
      clear hs hm hcall
      go_wp2_with fail
      go_ret
      exact ⟨_, rfl, by rw [HC.out]; exact HF.out.1, HF.out.2⟩
end Go.Proofs.YtmkopcojnibhlaaGreatDoor

/-
  math/bits: how many bits a number has.
-/
namespace Go.Proofs.YtmkopcojnibhlaaGreatDoor
open Go.RowKit

theorem blen_pw {x k : Nat} (h : x < 2 ^ k) : blen x ≤ k := by
  unfold blen
  split
  · omega
  · rename_i h0
    have := (Nat.log2_lt h0).2 h
    omega
theorem blen_div {x k : Nat} (h : 2 ^ k ≤ x) : blen x = blen (x / 2 ^ k) + k := by
  have hk : 0 < 2 ^ k := Nat.two_pow_pos k
  have hx : x ≠ 0 := by omega
  have hy : x / 2 ^ k ≠ 0 := by
    have := Nat.div_pos h hk
    omega
  have hm := (Nat.log2_eq_iff hy (k := Nat.log2 (x / 2 ^ k))).1 rfl
  have hl : Nat.log2 x = Nat.log2 (x / 2 ^ k) + k := by
    rw [Nat.log2_eq_iff hx]
    constructor
    · rw [Nat.pow_add]
      exact (Nat.le_div_iff_mul_le hk).1 hm.1
    · rw [show Nat.log2 (x / 2 ^ k) + k + 1 = (Nat.log2 (x / 2 ^ k) + 1) + k by omega, Nat.pow_add]
      exact (Nat.div_lt_iff_lt_mul hk).1 hm.2
  unfold blen
  rw [if_neg hx, if_neg hy, hl]
  omega
def tabB (s : ByteArray) : Bool := (List.range 256).all fun i => decide (s.data[i]? = some (UInt8.ofNat (blen i)))
theorem tab_run {s : ByteArray} (hs : tabB s = true) (y : Nat) (hy : y < 256) (w : World) : (Instr.index 9 (.string s) (.int .u8 (y : Int))).run Tryz.prog w = .ok (.int .u8 ((blen y : Nat) : Int)) w := by
  rw [run_index_string w _ _ _ _ Tryz.underlying9]
  unfold tabB at hs
  rw [List.all_eq_true] at hs
  have h := of_decide_eq_true (hs y (List.mem_range.2 hy))
  obtain ⟨h1, h2⟩ := Array.getElem?_eq_some_iff.1 h
  have hsz : y < s.size := h1
  rw [dif_pos ⟨by omega, by omega⟩]
  congr 3
  simp only [Int.toNat_natCast]
  have h3 : (UInt8.ofNat (blen y)).toNat = blen y := by
    have := blen_pw (x := y) (k := 8) hy
    rw [UInt8.toNat_ofNat', Nat.mod_eq_of_lt (by omega)]
  exact (congrArg UInt8.toNat h2).trans h3
theorem wpList_tab {ops : Array Oper} {rest : List Oper} {op : Oper} {a : Act} {w : World} {Q : Exit → Act → World → Prop} (hgd : op.guard = none) (x ix : Operand) (ho : op.op = .index 9 x ix) (s : ByteArray) (y : Nat) (hx : a.eval x = .string s) (hi : a.eval ix = .int .u8 (y : Int)) (hy : y < 256) (hs : tabB s = true)
    (h : wpList Tryz.prog ops Q rest (a.put op.dst (.int .u8 ((blen y : Nat) : Int))) w) : wpList Tryz.prog ops Q (op :: rest) a w :=
  wpList_plain hgd fun _ hK => by
    unfold Oper.wp execOp
    simp only [ho, hx, hi, Sem.run_bind, Sem.run_pure, Result.andThen_ok, tab_run hs y hy w]
    exact hK _ _ h

set_option maxRecDepth 100000 in
set_option maxHeartbeats 2000000 in
theorem bitsLen64 (w : World) (x : Nat) (hx : x < 4194304) : Calls Tryz.prog 195 #[.int .u64 (x : Int)] w fun e w' => e = .returned (.int .i64 ((blen x : Nat) : Int)) ∧ w = w' := by
  have d1 : decide (4294967296 ≤ (x : Int)) = false := decide_eq_false (by omega)
  have d1' : decide (4294967296 ≤ x) = false := decide_eq_false (by omega)
  by_cases h16 : 65536 ≤ x
  · have d2 : decide (65536 ≤ (x : Int)) = true := decide_eq_true (by omega)
    have d2' : decide (65536 ≤ x) = true := decide_eq_true h16
    obtain ⟨y, hy⟩ : ∃ y, y = x / 65536 := ⟨_, rfl⟩
    have ey : (x : Int) / 65536 = (y : Int) := by omega
    have hy8 : y < 256 := by omega
    have hb := blen_div (x := x) (k := 16) h16
    rw [show (2 : Nat) ^ 16 = 65536 by decide, ← hy] at hb
    have hbl := blen_pw (x := y) (k := 8) hy8
    have d3 : decide (256 ≤ (y : Int)) = false := decide_eq_false (by omega)
    have d3' : decide (256 ≤ y) = false := decide_eq_false (by omega)
    have hx8 : IntKind.u8.wrap (y : Int) = (y : Int) := IntWalk.u8_in _ ⟨by omega, by omega⟩
    have HB := Lib.hid (And.intro hb hy)
    clear hb hy
    go_enter Tryz.func195, Tryz.ntmps195
    go_wp2_with (refine wpList_tab rfl _ _ rfl _ y rfl rfl (by omega) (by decide +kernel) ?_)
    go_ret
    refine ⟨?_, rfl⟩
    rw [HB.out.1, show (((blen y + 16 : Nat)) : Int) = 16 + (blen y : Int) by omega]
    rfl
  · have d2 : decide (65536 ≤ (x : Int)) = false := decide_eq_false (by omega)
    have d2' : decide (65536 ≤ x) = false := decide_eq_false (by omega)
    by_cases h8 : 256 ≤ x
    · have d4 : decide (256 ≤ (x : Int)) = true := decide_eq_true (by omega)
      have d4' : decide (256 ≤ x) = true := decide_eq_true h8
      obtain ⟨y, hy⟩ : ∃ y, y = x / 256 := ⟨_, rfl⟩
      have ey : (x : Int) / 256 = (y : Int) := by omega
      have hy8 : y < 256 := by omega
      have hb := blen_div (x := x) (k := 8) h8
      rw [show (2 : Nat) ^ 8 = 256 by decide, ← hy] at hb
      have hbl := blen_pw (x := y) (k := 8) hy8
      have hx8 : IntKind.u8.wrap (y : Int) = (y : Int) := IntWalk.u8_in _ ⟨by omega, by omega⟩
      have HB := Lib.hid (And.intro hb hy)
      clear hb hy
      go_enter Tryz.func195, Tryz.ntmps195
      go_wp2_with (refine wpList_tab rfl _ _ rfl _ y rfl rfl (by omega) (by decide +kernel) ?_)
      go_ret
      refine ⟨?_, rfl⟩
      rw [HB.out.1, show (((blen y + 8 : Nat)) : Int) = 8 + (blen y : Int) by omega]
      rfl
    · have d3 : decide (256 ≤ (x : Int)) = false := decide_eq_false (by omega)
      have d3' : decide (256 ≤ x) = false := decide_eq_false (by omega)
      have hx8 : IntKind.u8.wrap (x : Int) = (x : Int) := IntWalk.u8_in _ ⟨by omega, by omega⟩
      have hbl := blen_pw (x := x) (k := 8) (by omega)
      go_enter Tryz.func195, Tryz.ntmps195
      go_wp2_with (refine wpList_tab rfl _ _ rfl _ x rfl rfl (by omega) (by decide +kernel) ?_)
      go_ret
      exact ⟨rfl, rfl⟩
set_option maxRecDepth 100000 in
theorem bitsLen (w : World) (x : Nat) (hx : x < 4194304) : Calls Tryz.prog 138 #[.int .u64 (x : Int)] w fun e w' => e = .returned (.int .i64 ((blen x : Nat) : Int)) ∧ w = w' := by
  go_enter Tryz.func138, Tryz.ntmps138
  go_wp2_with fail
  refine (bitsLen64 w x hx).mono ?_
  rintro e w1 ⟨rfl, rfl⟩
  go_wp2_with fail
  go_ret
  exact ⟨rfl, rfl⟩
end Go.Proofs.YtmkopcojnibhlaaGreatDoor
