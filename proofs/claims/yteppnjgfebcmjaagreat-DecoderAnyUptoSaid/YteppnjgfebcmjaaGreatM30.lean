/-
  coder.Decoder.Get, End.
-/
import Derived.Test.YteppnjgfebcmjaaGreatM29
namespace Go.Proofs.YteppnjgfebcmjaaGreat
open Go.RowKit

def cnorm : List UInt8 → Nat → Nat → Option (List UInt8 × Nat × Nat)
  | [], r, w => if 16777216 ≤ w then some ([], r, w) else none
  | b :: t, r, w => if 16777216 ≤ w then some (b :: t, r, w) else cnorm t (r * 256 + b.toNat) (w * 256)
theorem cnorm_done (code : List UInt8) (r w : Nat) (h : 16777216 ≤ w) : cnorm code r w = some (code, r, w) := by
  cases code <;> simp [cnorm, h]
theorem cnorm_none (r w : Nat) (h : w < 16777216) : cnorm [] r w = none := by simp [cnorm]; omega
theorem cnorm_step (b : UInt8) (t : List UInt8) (r w : Nat) (h : w < 16777216) : cnorm (b :: t) r w = cnorm t (r * 256 + b.toNat) (w * 256) := by
  rw [cnorm, if_neg (by omega)]
/-- The next bit of a code, and what is left. -/
def cget (code : List UInt8) (rest wide c : Nat) : Option (Nat × List UInt8 × Nat × Nat) :=
  if chanceOk c = true ∧ rest < wide then
    if rest < wide / 2048 * c then (cnorm code rest (wide / 2048 * c)).map (fun x => (0, x))
    else (cnorm code (rest - wide / 2048 * c) (wide - wide / 2048 * c)).map (fun x => (1, x))
  else none

def GetPost (w : World) (g : Nat) (P : Nat → Prop) (r : Option (Nat × List UInt8 × Nat × Nat)) (e : Ending) (w' : World) : Prop :=
  (r = none ∧ ∃ er : Int, (er == 0) = false ∧ e = .returned (.tuple #[.int .i64 0, .int .i64 er]) ∧ Mod (fun _ => False) w w') ∨
  ∃ bit code rest wide, r = some (bit, code, rest, wide) ∧ bit ≤ 1 ∧ e = .returned (.tuple #[.int .i64 (bit : Int), .int .i64 0]) ∧ CodeAt w' g P code rest wide ∧ Mod (· = g) w w'

def NormRel (w : World) (g : Nat) (P : Nat → Prop) (cs : Array Value) (r : Option (List UInt8 × Nat × Nat)) (v8 v9 v10 : Value) (wr : World) : Prop :=
  Blk wr g 160 cs ∧ Mod (fun _ => False) w wr ∧ ∃ (code : List UInt8) (rest wide : Nat) (A : Option Addr) (n c : Nat), v8 = .int .u32 (rest : Int) ∧ v9 = .int .u32 (wide : Int) ∧ v10 = .slice A n c ∧ BytesIn wr A n c code ∧ n ≤ c ∧ (0 < n → ∀ ad, A = some ad → P ad.block) ∧ rest < wide ∧ wide < 4294967296 ∧ n ≤ 1048576 ∧ cnorm code rest wide = r

theorem bound_lt (wide c : Nat) (hc : c ≤ 2017) : wide / 2048 * c ≤ wide := by
  have h1 : wide / 2048 * c ≤ wide / 2048 * 2048 := Nat.mul_le_mul_left _ (by omega)
  omega

set_option maxRecDepth 100000 in
set_option maxHeartbeats 4000000 in
theorem cGet (w : World) (g : Nat) (P : Nat → Prop) (hPg : ¬ P g) (code : List UInt8) (rest wide c : Nat) (h : CodeAt w g P code rest wide) : Calls Tryz.prog 173 #[.pointer (some ⟨g, 0, none⟩), .int .u16 (c : Int)] w (GetPost w g P (cget code rest wide c)) := by
  obtain ⟨A, n, cp, hb, hin, hcap, hP, hr, hw, hn⟩ := h
  have c0 : w.cell? ⟨g, 0, none⟩ = some (.slice A n cp) := hb.cell 0
  have c1 : w.cell? ⟨g, 1, none⟩ = some (.int .u32 (rest : Int)) := hb.cell 1
  have c2 : w.cell? ⟨g, 2, none⟩ = some (.int .u32 (wide : Int)) := hb.cell 2
  have hf := hb.frozen
  have f0 := hf 0
  have f1 := hf 1
  have f2 := hf 2
  have hlt := hb.lt
  have HH := Lib.hid (And.intro hb (And.intro hin (And.intro hP hf)))
  clear hb hin hP hf
  cases hc : chanceOk c with
  | false =>
    have HR : Hid (cget code rest wide c = none) := if_neg (fun h => by rw [hc] at h; cases h.1)
    have HC := Lib.hid hc
    clear hc
    go_enter Tryz.func173, Tryz.ntmps173
    go_wp2_with fail
    refine (cRight _ c).mono ?_
    rintro e w1 ⟨rfl, rfl⟩
    rw [HC.out]
    go_wp2_with fail
    go_ret2
    exact .inl ⟨HR.out, 1, rfl, rfl, Mod.refl _ _⟩
  | true =>
    have hcb : 31 ≤ c ∧ c ≤ 2017 := by unfold chanceOk at hc; rwa [decide_eq_true_eq] at hc
    obtain ⟨hc1, hc2⟩ := hcb
    have HC := Lib.hid hc
    clear hc
    by_cases hrw : rest < wide
    · have d1 : decide (wide ≤ rest) = false := decide_eq_false (by omega)
      have hbd := bound_lt wide c hc2
      obtain ⟨bd, hbe⟩ : ∃ bd, bd = wide / 2048 * c := ⟨_, rfl⟩
      rw [← hbe] at hbd
      have e1 : (wide : Int) / 2048 * (c : Int) % 4294967296 = (bd : Int) := by
        have : (wide : Int) / 2048 * (c : Int) = (bd : Int) := by rw [hbe]; simp
        rw [this]
        omega
      have HE := Lib.hid (And.intro e1 hbe)
      clear e1 hbe
      go_enter Tryz.func173, Tryz.ntmps173
      go_wp2_with fail
      refine (cRight _ c).mono ?_
      rintro e w1 ⟨rfl, rfl⟩
      rw [HC.out]
      go_upto_region 3 with (fail)
      go_quiet (fail)
      go_upto_region 6 with (fail)
      rw [HE.out.1]
      go_quiet (fail)
      by_cases hbit : rest < bd
      · have d2 : decide (bd ≤ rest) = false := decide_eq_false (by omega)
        have HG : Hid (cget code rest wide c = (cnorm code rest bd).map (fun x => (0, x))) := by
          show _ = _
          unfold cget
          rw [if_pos ⟨HC.out, hrw⟩, ← HE.out.2, if_pos hbit]
        have hrw0 := hbit
        go_wp2_with fail
        go_loopw [8, 9, 10] (NormRel w g P #[.slice A n cp, .int .u32 (rest : Int), .int .u32 (wide : Int)] (cnorm code rest bd)) (fun _ _ v _ => match v with | .slice _ n _ => n | _ => 0)
        case atStart => exact ⟨HH.out.1, (by repeat' (first | with_reducible exact Mod.refl _ _ | with_reducible refine Mod.drewN ?_ _ | with_reducible refine Mod.drew ?_ | with_reducible refine Mod.setCell ?_ ?_ _ | exact Or.inl rfl)), code, rest, bd, A, n, cp, rfl, rfl, rfl, HH.out.2.1, hcap, HH.out.2.2.1, by omega, by omega, hn, rfl⟩
        case round =>
          obtain ⟨hbr, hMr, code1, r1, w1, A1, n1, c1, rfl, rfl, rfl, hin1, hcap1, hP1, hrw1, hw1, hn1, hcn⟩ := hrel
          have k0 : wr.cell? ⟨g, 0, none⟩ = some (.slice A n cp) := hbr.cell 0
          have k1 : wr.cell? ⟨g, 1, none⟩ = some (.int .u32 (rest : Int)) := hbr.cell 1
          have k2 : wr.cell? ⟨g, 2, none⟩ = some (.int .u32 (wide : Int)) := hbr.cell 2
          have g0 := hbr.frozen 0
          have g1 := hbr.frozen 1
          have g2 := hbr.frozen 2
          have hlr := hbr.lt
          have HBR := Lib.hid (And.intro hbr hMr)
          clear hbr hMr
          have hl1 := hin1.1
          by_cases hdone : 16777216 ≤ w1
          · have d3 : decide ((w1 : Int) < 16777216) = false := decide_eq_false (by omega)
            have HN : Hid (cget code rest wide c = some (0, code1, r1, w1)) := by
              show _ = _
              rw [HG.out, ← hcn, cnorm_done _ _ _ hdone]
              rfl
            have HI := Lib.hid (And.intro hin1 hP1)
            clear hin1 hP1 hcn hl1
            go_wp2_with fail
            go_ret2
            refine .inr ⟨0, code1, r1, w1, HN.out, by omega, rfl, ⟨A1, n1, c1, ?_, ?_, hcap1, HI.out.2, by omega, by omega, hn1⟩, ?_⟩
            · refine Blk.put (i := 2) (cs := #[.slice A1 n1 c1, .int .u32 (r1 : Int), .int .u32 (wide : Int)]) ?_ rfl
              refine Blk.put (i := 1) (cs := #[.slice A1 n1 c1, .int .u32 (rest : Int), .int .u32 (wide : Int)]) ?_ rfl
              refine Blk.put (i := 0) (cs := #[.slice A n cp, .int .u32 (rest : Int), .int .u32 (wide : Int)]) ?_ rfl
              exact HBR.out.1
            · exact HI.out.1.mod (S := (· = g)) (by repeat' (first | with_reducible exact Mod.refl _ _ | with_reducible refine Mod.drewN ?_ _ | with_reducible refine Mod.drew ?_ | with_reducible refine Mod.setCell ?_ ?_ _ | exact Or.inl rfl)) (fun h0 ad e hj => hPg (hj ▸ HI.out.2 h0 ad e))
            · exact (HBR.out.2.mono (fun _ h => h.elim)).trans (S := (· = g)) (by repeat' (first | with_reducible exact Mod.refl _ _ | with_reducible refine Mod.drewN ?_ _ | with_reducible refine Mod.drew ?_ | with_reducible refine Mod.setCell ?_ ?_ _ | exact Or.inl rfl))
          · have d3 : decide ((w1 : Int) < 16777216) = true := decide_eq_true (by omega)
            cases code1 with
            | nil =>
              obtain rfl : n1 = 0 := by simpa using hl1.symm
              have HN : Hid (cget code rest wide c = none) := by
                show _ = _
                rw [HG.out, ← hcn, cnorm_none _ _ (by omega)]
                rfl
              clear hin1 hP1 hcn hl1
              go_wp2_with fail
              go_ret2
              exact .inl ⟨HN.out, 41, rfl, rfl, HBR.out.2⟩
            | cons b t =>
              have hn0 : 0 < n1 := by simp at hl1; omega
              obtain ⟨bb, off, hA1, hbb, hcell⟩ := hin1.place hn0
              subst hA1
              have k0 := hcell 0 hn0
              rw [Nat.add_zero] at k0
              simp only [List.getD_cons_zero] at k0
              have hx : b.toNat < 256 := UInt8.toNat_lt b
              have d4 : ((n1 : Int) == 0) = false := beq_eq_false_iff_ne.2 (by omega)
              have hin2 := hin1.from_ (k := 1) (by omega) hcap1
              have HI := Lib.hid (And.intro hin2 (And.intro hP1 (And.intro hcn (And.intro hn0 (or32 r1 b.toNat (by omega) hx)))))
              clear hin1 hP1 hcn hl1 hin2 hcell
              go_wp2_with fail
              go_roundw
              case rel =>
                refine ⟨HBR.out.1, HBR.out.2, t, r1 * 256 + b.toNat, w1 * 256, _, n1 - 1, c1 - 1, ?_, ?_, rfl, HI.out.1, by omega, ?_, by omega, by omega, by omega, ?_⟩
                · rw [HI.out.2.2.2.2]
                · go_num
                · intro _ ad e
                  have hp := HI.out.2.1 HI.out.2.2.2.1 _ rfl
                  split at e <;> (injection e with e; subst e; exact hp)
                · rw [← HI.out.2.2.1, cnorm_step _ _ _ _ (by omega)]
              case measure => simp; omega
      · have d2 : decide (bd ≤ rest) = true := decide_eq_true (by omega)
        have HG : Hid (cget code rest wide c = (cnorm code (rest - bd) (wide - bd)).map (fun x => (1, x))) := by
          show _ = _
          unfold cget
          rw [if_pos ⟨HC.out, hrw⟩, ← HE.out.2, if_neg hbit]
        go_upto_region 8 with (fail)
        have s1 : IntKind.u32.wrap ((rest : Int) - (bd : Int)) = ((rest - bd : Nat) : Int) := by rw [IntWalk.u32_in _ ⟨by omega, by omega⟩]; omega
        have s2 : IntKind.u32.wrap ((wide : Int) - (bd : Int)) = ((wide - bd : Nat) : Int) := by rw [IntWalk.u32_in _ ⟨by omega, by omega⟩]; omega
        go_quiet (fail)
        clear s1 s2
        obtain ⟨r0, hr0⟩ : ∃ r0, r0 = rest - bd := ⟨_, rfl⟩
        obtain ⟨w0, hw0⟩ : ∃ w0, w0 = wide - bd := ⟨_, rfl⟩
        rw [← hr0, ← hw0] at HG ⊢
        have hrw0 : r0 < w0 := by omega
        have hw00 : w0 < 4294967296 := by omega
        clear hr0 hw0
        go_wp2_with fail
        go_loopw [8, 9, 10] (NormRel w g P #[.slice A n cp, .int .u32 (rest : Int), .int .u32 (wide : Int)] (cnorm code r0 w0)) (fun _ _ v _ => match v with | .slice _ n _ => n | _ => 0)
        case atStart => exact ⟨HH.out.1, (by repeat' (first | with_reducible exact Mod.refl _ _ | with_reducible refine Mod.drewN ?_ _ | with_reducible refine Mod.drew ?_ | with_reducible refine Mod.setCell ?_ ?_ _ | exact Or.inl rfl)), code, r0, w0, A, n, cp, rfl, rfl, rfl, HH.out.2.1, hcap, HH.out.2.2.1, by omega, by omega, hn, rfl⟩
        case round =>
          obtain ⟨hbr, hMr, code1, r1, w1, A1, n1, c1, rfl, rfl, rfl, hin1, hcap1, hP1, hrw1, hw1, hn1, hcn⟩ := hrel
          have k0 : wr.cell? ⟨g, 0, none⟩ = some (.slice A n cp) := hbr.cell 0
          have k1 : wr.cell? ⟨g, 1, none⟩ = some (.int .u32 (rest : Int)) := hbr.cell 1
          have k2 : wr.cell? ⟨g, 2, none⟩ = some (.int .u32 (wide : Int)) := hbr.cell 2
          have g0 := hbr.frozen 0
          have g1 := hbr.frozen 1
          have g2 := hbr.frozen 2
          have hlr := hbr.lt
          have HBR := Lib.hid (And.intro hbr hMr)
          clear hbr hMr
          have hl1 := hin1.1
          by_cases hdone : 16777216 ≤ w1
          · have d3 : decide ((w1 : Int) < 16777216) = false := decide_eq_false (by omega)
            have HN : Hid (cget code rest wide c = some (1, code1, r1, w1)) := by
              show _ = _
              rw [HG.out, ← hcn, cnorm_done _ _ _ hdone]
              rfl
            have HI := Lib.hid (And.intro hin1 hP1)
            clear hin1 hP1 hcn hl1
            go_wp2_with fail
            go_ret2
            refine .inr ⟨1, code1, r1, w1, HN.out, by omega, rfl, ⟨A1, n1, c1, ?_, ?_, hcap1, HI.out.2, by omega, by omega, hn1⟩, ?_⟩
            · refine Blk.put (i := 2) (cs := #[.slice A1 n1 c1, .int .u32 (r1 : Int), .int .u32 (wide : Int)]) ?_ rfl
              refine Blk.put (i := 1) (cs := #[.slice A1 n1 c1, .int .u32 (rest : Int), .int .u32 (wide : Int)]) ?_ rfl
              refine Blk.put (i := 0) (cs := #[.slice A n cp, .int .u32 (rest : Int), .int .u32 (wide : Int)]) ?_ rfl
              exact HBR.out.1
            · exact HI.out.1.mod (S := (· = g)) (by repeat' (first | with_reducible exact Mod.refl _ _ | with_reducible refine Mod.drewN ?_ _ | with_reducible refine Mod.drew ?_ | with_reducible refine Mod.setCell ?_ ?_ _ | exact Or.inl rfl)) (fun h0 ad e hj => hPg (hj ▸ HI.out.2 h0 ad e))
            · exact (HBR.out.2.mono (fun _ h => h.elim)).trans (S := (· = g)) (by repeat' (first | with_reducible exact Mod.refl _ _ | with_reducible refine Mod.drewN ?_ _ | with_reducible refine Mod.drew ?_ | with_reducible refine Mod.setCell ?_ ?_ _ | exact Or.inl rfl))
          · have d3 : decide ((w1 : Int) < 16777216) = true := decide_eq_true (by omega)
            cases code1 with
            | nil =>
              obtain rfl : n1 = 0 := by simpa using hl1.symm
              have HN : Hid (cget code rest wide c = none) := by
                show _ = _
                rw [HG.out, ← hcn, cnorm_none _ _ (by omega)]
                rfl
              clear hin1 hP1 hcn hl1
              go_wp2_with fail
              go_ret2
              exact .inl ⟨HN.out, 41, rfl, rfl, HBR.out.2⟩
            | cons b t =>
              have hn0 : 0 < n1 := by simp at hl1; omega
              obtain ⟨bb, off, hA1, hbb, hcell⟩ := hin1.place hn0
              subst hA1
              have k0 := hcell 0 hn0
              rw [Nat.add_zero] at k0
              simp only [List.getD_cons_zero] at k0
              have hx : b.toNat < 256 := UInt8.toNat_lt b
              have d4 : ((n1 : Int) == 0) = false := beq_eq_false_iff_ne.2 (by omega)
              have hin2 := hin1.from_ (k := 1) (by omega) hcap1
              have HI := Lib.hid (And.intro hin2 (And.intro hP1 (And.intro hcn (And.intro hn0 (or32 r1 b.toNat (by omega) hx)))))
              clear hin1 hP1 hcn hl1 hin2 hcell
              go_wp2_with fail
              go_roundw
              case rel =>
                refine ⟨HBR.out.1, HBR.out.2, t, r1 * 256 + b.toNat, w1 * 256, _, n1 - 1, c1 - 1, ?_, ?_, rfl, HI.out.1, by omega, ?_, by omega, by omega, by omega, ?_⟩
                · rw [HI.out.2.2.2.2]
                · go_num
                · intro _ ad e
                  have hp := HI.out.2.1 HI.out.2.2.2.1 _ rfl
                  split at e <;> (injection e with e; subst e; exact hp)
                · rw [← HI.out.2.2.1, cnorm_step _ _ _ _ (by omega)]
              case measure => simp; omega
    · have d1 : decide (wide ≤ rest) = true := decide_eq_true (by omega)
      have HR : Hid (cget code rest wide c = none) := if_neg (fun h => hrw h.2)
      go_enter Tryz.func173, Tryz.ntmps173
      go_wp2_with fail
      refine (cRight _ c).mono ?_
      rintro e w1 ⟨rfl, rfl⟩
      rw [HC.out]
      go_upto_region 3 with (fail)
      go_quiet (fail)
      go_wp2_with fail
      go_ret2
      exact .inl ⟨HR.out, 41, rfl, rfl, (Mod.refl _ _).drewN _⟩
end Go.Proofs.YteppnjgfebcmjaaGreat
