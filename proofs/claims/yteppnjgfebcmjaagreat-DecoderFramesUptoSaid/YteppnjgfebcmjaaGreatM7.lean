/-
  syntax.ParseSequence.
-/
import Derived.Test.YteppnjgfebcmjaaGreatM6
namespace Go.Proofs.YteppnjgfebcmjaaGreat
open Go.RowKit

/-- A sequence's bytes read. -/
def seqParse (l : List UInt8) : Option (Int × Int × Int) :=
  if 16 ≤ 8 * l.length then
    match gget l 16 0 32 with
    | none => none
    | some (x, a1) =>
      match gget l a1 0 32 with
      | none => none
      | some (y, a2) =>
        match gget l a2 0 32 with
        | none => none
        | some (z, a3) => if numAt l 0 16 = 19273 ∧ seqRight (((x : Int) + 1) * 16) (((y : Int) + 1) * 16) ((z : Int) + 1) = true ∧ alignAt l a3 = some (8 * l.length) then some (((x : Int) + 1) * 16, ((y : Int) + 1) * 16, (z : Int) + 1) else none
  else none
theorem seqParse_right {l : List UInt8} {s : Int × Int × Int} (h : seqParse l = some s) : seqRight s.1 s.2.1 s.2.2 = true := by
  unfold seqParse at h
  split at h
  · split at h
    · cases h
    · split at h
      · cases h
      · split at h
        · cases h
        · split at h
          · rename_i hh
            injection h with h
            rw [← h]
            exact hh.2.1
          · cases h
  · cases h

def SeqPost (w : World) (l : List UInt8) (e : Ending) (w' : World) : Prop :=
  Mod (fun _ => False) w w' ∧ ((seqParse l = none ∧ e = .returned (.tuple #[.agg #[.int .i64 0, .int .i64 0, .int .i64 0], .int .i64 121])) ∨ ∃ W H G, seqParse l = some (W, H, G) ∧ e = .returned (.tuple #[.agg #[.int .i64 W, .int .i64 H, .int .i64 G], .int .i64 0]))

theorem seq_mod {w w4 : World} {q0 : Nat} (h : Mod (fun _ => False) w w4) (hq : w.heap.size ≤ q0) (a b c : Value) (o : Obj) : Mod (fun _ => False) w ((((w4.setCell ⟨q0, 0, none⟩ a).setCell ⟨q0, 1, none⟩ b).setCell ⟨q0, 2, none⟩ c).alloc o) :=
  (((h.setCell (p := ⟨q0, 0, none⟩) (.inr hq) _).setCell (p := ⟨q0, 1, none⟩) (.inr hq) _).setCell (p := ⟨q0, 2, none⟩) (.inr hq) _).alloc _

theorem seq_mod3 {w w4 : World} {q0 : Nat} (h : Mod (fun _ => False) w w4) (hq : w.heap.size ≤ q0) (a b c : Value) : Mod (fun _ => False) w (((w4.setCell ⟨q0, 0, none⟩ a).setCell ⟨q0, 1, none⟩ b).setCell ⟨q0, 2, none⟩ c) :=
  ((h.setCell (p := ⟨q0, 0, none⟩) (.inr hq) _).setCell (p := ⟨q0, 1, none⟩) (.inr hq) _).setCell (p := ⟨q0, 2, none⟩) (.inr hq) _

set_option maxRecDepth 100000 in
set_option maxHeartbeats 4000000 in
theorem parseSeq (w : World) (A : Option Addr) (n c : Nat) (l : List UInt8) (hin : BytesIn w A n c l) (hn : n ≤ 1048576) : Calls Tryz.prog 43 #[.slice A n c] w (SeqPost w l) := by
  have hq0 : Blk (w.alloc (.cells #[.int .i64 0, .int .i64 0, .int .i64 0] 43)) w.heap.size 43 #[.int .i64 0, .int .i64 0, .int .i64 0] := Blk.new _ _ _
  have M0 : Mod (fun _ => False) w (w.alloc (.cells #[.int .i64 0, .int .i64 0, .int .i64 0] 43)) := (Mod.refl _ _).alloc _
  have hin0 := hin.quiet M0
  clear hin
  go_enter Tryz.func43, Tryz.ntmps43
  go_wp2_with fail
  obtain ⟨q0, hq⟩ : ∃ q0, q0 = w.heap.size := ⟨_, rfl⟩
  rw [← hq] at hq0 ⊢
  have hqw : w.heap.size ≤ q0 := by omega
  clear hq
  generalize w.alloc (.cells #[.int .i64 0, .int .i64 0, .int .i64 0] 43) = w0 at *
  refine (bitsOpen w0 A n c l hin0 hn).mono ?_
  rintro e w1 ⟨g, rfl, hR, hm1⟩
  have M1 := M0.trans hm1
  have hq1 := hq0.keep hm1 (fun h => h)
  have hB : w.heap.size ≤ w0.heap.size := M0.size
  clear hq0 M0 hm1 hin0
  -- r's variable
  have hrb : Blk (w1.alloc (.cells #[.pointer (some ⟨g, 0, none⟩)] 95)) w1.heap.size 95 #[.pointer (some ⟨g, 0, none⟩)] := Blk.new _ _ _
  have hq2 := hq1.alloc (.cells #[.pointer (some ⟨g, 0, none⟩)] 95)
  have hR2 := hR.quiet ((Mod.refl _ w1).alloc (.cells #[.pointer (some ⟨g, 0, none⟩)] 95))
  have M2 := M1.alloc (.cells #[.pointer (some ⟨g, 0, none⟩)] 95)
  obtain ⟨rb, hrbe⟩ : ∃ rb, rb = w1.heap.size := ⟨_, rfl⟩
  rw [← hrbe] at hrb
  have hrw : w.heap.size ≤ rb := by rw [hrbe]; exact M1.size
  clear hq1 hR M1
  go_upto_region 2 with (fail)
  rw [← hrbe]
  clear hrbe
  generalize w1.alloc (.cells #[.pointer (some ⟨g, 0, none⟩)] 95) = w2 at *
  obtain ⟨hcr, hfr⟩ := hrb.both
  by_cases hshort : 8 * l.length < 16
  · have HP : Hid (seqParse l = none) := if_neg (by omega)
    go_wp2_with fail
    refine (bitsGet_short _ w0.heap.size g 0 16 l hR2 (by omega) (by omega)).mono ?_
    rintro e w3 ⟨rfl, m, rfl⟩
    have Mm : Mod (fun _ => False) w2 (w2.drewN m) := (Mod.refl _ _).drewN _
    generalize w2.drewN m = w3 at *
    have hq3 := hq2.keep Mm (fun h => h)
    have hr3 := hrb.keep Mm (fun h => h)
    have M3 : Mod (fun _ => False) w w3 := M2.trans Mm
    have heb : Blk (w3.alloc (.cells #[.int .i64 11] 28)) w3.heap.size 28 #[.int .i64 11] := Blk.new _ _ _
    have hq4 := hq3.alloc (.cells #[.int .i64 11] 28)
    have hr4 := hr3.alloc (.cells #[.int .i64 11] 28)
    have M4 := M3.alloc (.cells #[.int .i64 11] 28)
    obtain ⟨eb, hebe⟩ : ∃ eb, eb = w3.heap.size := ⟨_, rfl⟩
    rw [← hebe] at heb
    have hew : w.heap.size ≤ eb := by rw [hebe]; exact M3.size
    clear hq2 hrb hcr hfr hq3 hr3 M3 M2 Mm
    go_upto_region 3 with (fail)
    rw [← hebe]
    clear hebe
    generalize w3.alloc (.cells #[.int .i64 11] 28) = w4 at *
    obtain ⟨hce, hfe⟩ := heb.both
    go_wp2_with fail
    refine (snext_err _ eb rb 11 (by omega) heb).mono ?_
    rintro e wx ⟨rfl, rfl⟩
    go_wp2_with fail
    refine (snext_err _ eb rb 11 (by omega) heb).mono ?_
    rintro e wx ⟨rfl, rfl⟩
    go_wp2_with fail
    refine (snext_err _ eb rb 11 (by omega) heb).mono ?_
    rintro e wx ⟨rfl, rfl⟩
    have hqf := hq4.lt
    have hel := heb.lt
    have heq : ¬ eb = q0 := heb.ne_ hq4 (by decide)
    obtain ⟨hcq, hfq⟩ := hq4.both
    have HQ := Lib.hid (And.intro hq4 M4)
    clear hq4 M4 hr4
    go_wp2_with fail
    refine bodyPost_ret (v := .tuple #[.agg #[.int .i64 0, .int .i64 0, .int .i64 0], .int .i64 121]) (by simp [results, Tryz.results43, go_sem, hcq, hqf]) rfl ⟨?_, .inl ⟨HP.out, rfl⟩⟩
    exact seq_mod HQ.out.2 hqw _ _ _ _
  · go_wp2_with fail
    refine (bitsGet _ w0.heap.size g 0 16 l hR2 (by omega) (by omega)).mono ?_
    rintro e w3 ⟨rfl, hR3, Mm'⟩
    have Mm : Mod (· = g) w2 w3 := Mm'
    clear Mm'
    have h16 : 16 ≤ 8 * l.length := by omega
    clear hshort
    obtain ⟨Ag, cg, hbg, _⟩ := hR2.ex
    have nq : ¬ q0 = g := hq2.ne_ hbg (by decide)
    have nr : ¬ rb = g := hrb.ne_ hbg (by decide)
    have hgw : w.heap.size ≤ g := Nat.le_trans hB hR3.base
    have hq3 := hq2.keep Mm nq
    have hr3 := hrb.keep Mm nr
    have M3 : Mod (fun _ => False) w w3 := M2.into Mm (fun i e => .inr (by omega))
    have heb : Blk (w3.alloc (.cells #[.int .i64 0] 28)) w3.heap.size 28 #[.int .i64 0] := Blk.new _ _ _
    have hq4 := hq3.alloc (.cells #[.int .i64 0] 28)
    have hr4 := hr3.alloc (.cells #[.int .i64 0] 28)
    have hR4 := hR3.quiet ((Mod.refl _ w3).alloc (.cells #[.int .i64 0] 28))
    have M4 := M3.alloc (.cells #[.int .i64 0] 28)
    obtain ⟨eb, hebe⟩ : ∃ eb, eb = w3.heap.size := ⟨_, rfl⟩
    rw [← hebe] at heb
    have hew : w.heap.size ≤ eb := by rw [hebe]; exact M3.size
    clear hbg hq2 hrb hcr hfr hq3 hr3 M3 M2 Mm hR2 hR3
    go_upto_region 3 with (fail)
    rw [← hebe]
    clear hebe
    generalize w3.alloc (.cells #[.int .i64 0] 28) = w4 at *
    have nqe : ¬ q0 = eb := hq4.ne_ heb (by decide)
    rw [show (0 : Nat) + 16 = 16 from rfl] at hR4
    go_wp2_with fail
    refine (snext_ok _ w0.heap.size eb rb g 16 l heb hr4 hR4).mono ?_
    rintro e w5 ⟨hrk, hmk, hor⟩
    have hqk := hq4.keep hmk (fun h => h.elim nqe nq)
    have Mk := M4.into hmk (fun i e => .inr (by omega))
    clear heb hr4 hR4 hq4 M4 hmk
    have hq4 := hqk
    have M4 := Mk
    have hr4 := hrk
    clear hqk Mk hrk
    rcases hor with ⟨hnone, ⟨code, hcode, heb⟩, hR4, rfl⟩ | ⟨x, a1, hsome, heb, hR4, rfl⟩
    · have HP : Hid (seqParse l = none) := by show _ = _; unfold seqParse; rw [if_pos h16]; rw [hnone]
      clear hnone
      go_wp2_with fail
      refine (snext_err _ eb rb code hcode heb).mono ?_
      rintro e wx ⟨rfl, rfl⟩
      go_wp2_with fail
      refine (snext_err _ eb rb code hcode heb).mono ?_
      rintro e wx ⟨rfl, rfl⟩
      have hcb : (code != 0) = true := by simp [hcode]
      have hqf := hq4.lt
      have hel := heb.lt
      obtain ⟨hcq, hfq⟩ := hq4.both
      obtain ⟨hce, hfe⟩ := heb.both
      have HQ := Lib.hid (And.intro hq4 M4)
      clear hq4 M4 hr4 hR4 hcode heb
      go_wp2_with fail
      refine bodyPost_ret (v := .tuple #[.agg #[.int .i64 0, .int .i64 0, .int .i64 0], .int .i64 121]) (by simp [results, Tryz.results43, go_sem, hcq, hqf]) rfl ⟨?_, .inl ⟨HP.out, rfl⟩⟩
      exact seq_mod HQ.out.2 hqw _ _ _ _
    have HG1 := Lib.hid hsome
    have hv1 := gget_lt l 16 0 32 x a1 hsome (by omega)
    clear hsome
    go_wp2_with fail
    refine (snext_ok _ w0.heap.size eb rb g a1 l heb hr4 hR4).mono ?_
    rintro e w6 ⟨hrk, hmk, hor⟩
    have hqk := hq4.keep hmk (fun h => h.elim nqe nq)
    have Mk := M4.into hmk (fun i e => .inr (by omega))
    clear heb hr4 hR4 hq4 M4 hmk
    have hq4 := hqk
    have M4 := Mk
    have hr4 := hrk
    clear hqk Mk hrk
    rcases hor with ⟨hnone, ⟨code, hcode, heb⟩, hR4, rfl⟩ | ⟨y, a2, hsome, heb, hR4, rfl⟩
    · have HP : Hid (seqParse l = none) := by show _ = _; unfold seqParse; rw [if_pos h16]; rw [HG1.out]; dsimp only; rw [hnone]
      clear hnone
      go_wp2_with fail
      refine (snext_err _ eb rb code hcode heb).mono ?_
      rintro e wx ⟨rfl, rfl⟩
      have hcb : (code != 0) = true := by simp [hcode]
      have hqf := hq4.lt
      have hel := heb.lt
      obtain ⟨hcq, hfq⟩ := hq4.both
      obtain ⟨hce, hfe⟩ := heb.both
      have HQ := Lib.hid (And.intro hq4 M4)
      clear hq4 M4 hr4 hR4 hcode heb
      go_wp2_with fail
      refine bodyPost_ret (v := .tuple #[.agg #[.int .i64 0, .int .i64 0, .int .i64 0], .int .i64 121]) (by simp [results, Tryz.results43, go_sem, hcq, hqf]) rfl ⟨?_, .inl ⟨HP.out, rfl⟩⟩
      exact seq_mod HQ.out.2 hqw _ _ _ _
    have HG2 := Lib.hid hsome
    have hv2 := gget_lt l a1 0 32 y a2 hsome (by omega)
    clear hsome
    go_wp2_with fail
    refine (snext_ok _ w0.heap.size eb rb g a2 l heb hr4 hR4).mono ?_
    rintro e w7 ⟨hrk, hmk, hor⟩
    have hqk := hq4.keep hmk (fun h => h.elim nqe nq)
    have Mk := M4.into hmk (fun i e => .inr (by omega))
    clear heb hr4 hR4 hq4 M4 hmk
    have hq4 := hqk
    have M4 := Mk
    have hr4 := hrk
    clear hqk Mk hrk
    rcases hor with ⟨hnone, ⟨code, hcode, heb⟩, hR4, rfl⟩ | ⟨z, a3, hsome, heb, hR4, rfl⟩
    · have HP : Hid (seqParse l = none) := by show _ = _; unfold seqParse; rw [if_pos h16]; rw [HG1.out]; dsimp only; rw [HG2.out]; dsimp only; rw [hnone]
      clear hnone
      have hcb : (code != 0) = true := by simp [hcode]
      have hqf := hq4.lt
      have hel := heb.lt
      obtain ⟨hcq, hfq⟩ := hq4.both
      obtain ⟨hce, hfe⟩ := heb.both
      have HQ := Lib.hid (And.intro hq4 M4)
      clear hq4 M4 hr4 hR4 hcode heb
      go_wp2_with fail
      refine bodyPost_ret (v := .tuple #[.agg #[.int .i64 0, .int .i64 0, .int .i64 0], .int .i64 121]) (by simp [results, Tryz.results43, go_sem, hcq, hqf]) rfl ⟨?_, .inl ⟨HP.out, rfl⟩⟩
      exact seq_mod HQ.out.2 hqw _ _ _ _
    have HG3 := Lib.hid hsome
    have hv3 := gget_lt l a2 0 32 z a3 hsome (by omega)
    clear hsome
    have hsb : Blk (w7.alloc (.cells #[.int .i64 (((x : Int) + 1) * 16), .int .i64 (((y : Int) + 1) * 16), .int .i64 ((z : Int) + 1)] 43)) w7.heap.size 43 #[.int .i64 (((x : Int) + 1) * 16), .int .i64 (((y : Int) + 1) * 16), .int .i64 ((z : Int) + 1)] := Blk.new _ _ _
    have hq5 := hq4.alloc (.cells #[.int .i64 (((x : Int) + 1) * 16), .int .i64 (((y : Int) + 1) * 16), .int .i64 ((z : Int) + 1)] 43)
    have he5 := heb.alloc (.cells #[.int .i64 (((x : Int) + 1) * 16), .int .i64 (((y : Int) + 1) * 16), .int .i64 ((z : Int) + 1)] 43)
    have hr5 := hr4.alloc (.cells #[.int .i64 (((x : Int) + 1) * 16), .int .i64 (((y : Int) + 1) * 16), .int .i64 ((z : Int) + 1)] 43)
    have hR5 := hR4.quiet ((Mod.refl _ w7).alloc (.cells #[.int .i64 (((x : Int) + 1) * 16), .int .i64 (((y : Int) + 1) * 16), .int .i64 ((z : Int) + 1)] 43))
    have M5 := M4.alloc (.cells #[.int .i64 (((x : Int) + 1) * 16), .int .i64 (((y : Int) + 1) * 16), .int .i64 ((z : Int) + 1)] 43)
    obtain ⟨sb, hsbe⟩ : ∃ sb, sb = w7.heap.size := ⟨_, rfl⟩
    rw [← hsbe] at hsb
    have nqs : ¬ sb = q0 := by have := hq4.lt; omega
    clear hq4 heb hr4 hR4 M4
    go_upto_region 8 with (fail)
    rw [← hsbe]
    clear hsbe
    generalize w7.alloc (.cells #[.int .i64 (((x : Int) + 1) * 16), .int .i64 (((y : Int) + 1) * 16), .int .i64 ((z : Int) + 1)] 43) = w8 at *
    have hq4 := hq5
    have M4 := M5
    clear hq5 M5
    obtain ⟨hce, hfe⟩ := he5.both
    obtain ⟨hcs, hfs⟩ := hsb.both
    obtain ⟨hcr, hfr⟩ := hr5.both
    have HH : ∀ r, (numAt l 0 16 = 19273 ∧ seqRight (((x : Int) + 1) * 16) (((y : Int) + 1) * 16) ((z : Int) + 1) = true ∧ alignAt l a3 = some (8 * l.length) → r = some (((x : Int) + 1) * 16, ((y : Int) + 1) * 16, (z : Int) + 1)) → (¬ (numAt l 0 16 = 19273 ∧ seqRight (((x : Int) + 1) * 16) (((y : Int) + 1) * 16) ((z : Int) + 1) = true ∧ alignAt l a3 = some (8 * l.length)) → r = none) → seqParse l = r := by
      intro r h1 h2
      unfold seqParse
      rw [if_pos h16, HG1.out]
      dsimp only
      rw [HG2.out]
      dsimp only
      rw [HG3.out]
      dsimp only
      split
      · rename_i hh; exact (h1 hh).symm
      · rename_i hh; exact (h2 hh).symm
    have HS := Lib.hid HH
    clear HH
    by_cases hmark : numAt l 0 16 = 19273
    · rw [hmark]
      have HMK := Lib.hid hmark
      clear hmark
      cases hright : seqRight (((x : Int) + 1) * 16) (((y : Int) + 1) * 16) ((z : Int) + 1) with
      | false =>
        have HP : Hid (seqParse l = none) := HS.out none (fun h => by rw [hright] at h; cases h.2.1) (fun _ => rfl)
        go_wp2_with fail
        refine (synRight_no _ _ _ _ hright).mono ?_
        rintro e w9 ⟨rfl, m9⟩
        replace hq4 := hq4.keep m9 (fun h => h)
        replace M4 := M4.trans m9
        clear m9 hright
        obtain ⟨hcq, hfq⟩ := hq4.both
        have HQ := Lib.hid M4
        clear hq4 M4
        go_wp2_with fail
        refine bodyPost_ret (v := .tuple #[.agg #[.int .i64 0, .int .i64 0, .int .i64 0], .int .i64 121]) (by simp [results, Tryz.results43, go_sem, hcq]) rfl ⟨?_, .inl ⟨HP.out, rfl⟩⟩
        exact seq_mod3 HQ.out hqw _ _ _
      | true =>
        go_wp2_with fail
        refine (synRight_yes _ _ _ _ hright).mono ?_
        rintro e w9 ⟨rfl, m9⟩
        replace hq4 := hq4.keep m9 (fun h => h)
        replace M4 := M4.trans m9
        replace hr5 := hr5.keep m9 (fun h => h)
        replace hR5 := hR5.quiet m9
        replace hsb := hsb.keep m9 (fun h => h)
        clear hcr hfr hce hfe hcs hfs he5
        obtain ⟨hcr, hfr⟩ := hr5.both
        have HRT := Lib.hid hright
        clear m9 hright
        go_wp2_with fail
        refine (bitsAlign _ w0.heap.size g a3 l hR5).mono ?_
        rintro e w10 (⟨rfl, hal, hR6, m10⟩ | ⟨a4, hal, rfl, hR6, m10⟩)
        · have HP : Hid (seqParse l = none) := HS.out none (fun h => by rw [hal] at h; cases h.2.2) (fun _ => rfl)
          replace hq4 := hq4.keep m10 nq
          replace M4 := M4.into m10 (fun i e => .inr (by omega))
          clear m10 hR5 hR6 hcr hfr hr5 hal
          obtain ⟨hcq, hfq⟩ := hq4.both
          have HQ := Lib.hid M4
          clear hq4 M4
          go_wp2_with fail
          refine bodyPost_ret (v := .tuple #[.agg #[.int .i64 0, .int .i64 0, .int .i64 0], .int .i64 121]) (by simp [results, Tryz.results43, go_sem, hcq]) rfl ⟨?_, .inl ⟨HP.out, rfl⟩⟩
          exact seq_mod3 HQ.out hqw _ _ _
        · replace hq4 := hq4.keep m10 nq
          replace M4 := M4.into m10 (fun i e => .inr (by omega))
          replace hr5 := hr5.keep m10 nr
          obtain ⟨Ag2, cg2, hbg2, _⟩ := hR5.ex
          have nsg : ¬ sb = g := hsb.ne_ hbg2 (by decide)
          replace hsb := hsb.keep m10 nsg
          have ha4 := hR6.at_
          have HAL := Lib.hid hal
          clear hcr hfr hbg2 hR5 m10 hal
          obtain ⟨hcr, hfr⟩ := hr5.both
          by_cases hend : a4 = 8 * l.length
          · have HP : Hid (seqParse l = some (((x : Int) + 1) * 16, ((y : Int) + 1) * 16, (z : Int) + 1)) := HS.out _ (fun _ => rfl) (fun h => absurd ⟨HMK.out, HRT.out, by rw [HAL.out, hend]⟩ h)
            have e0 : ((8 * l.length - a4 : Nat) : Int) = 0 := by omega
            go_wp2_with fail
            refine (bitsLeft _ w0.heap.size g a4 l hR6).mono ?_
            rintro e w11 ⟨rfl, m, rfl⟩
            rw [e0]
            replace hq4 := hq4.drewN m
            replace M4 := M4.drewN m
            replace hsb := hsb.drewN m
            generalize w10.drewN m = w11 at *
            clear hR6 hcr hfr hr5 hend e0
            obtain ⟨hcs, hfs⟩ := hsb.both
            obtain ⟨hcq, hfq⟩ := hq4.both
            have HQ := Lib.hid M4
            clear hq4 M4 hsb
            go_wp2_with fail
            refine bodyPost_ret (v := .tuple #[.agg #[.int .i64 (((x : Int) + 1) * 16), .int .i64 (((y : Int) + 1) * 16), .int .i64 ((z : Int) + 1)], .int .i64 0]) (by simp [results, Tryz.results43, go_sem, hcq]) rfl ⟨?_, .inr ⟨_, _, _, HP.out, rfl⟩⟩
            exact seq_mod3 HQ.out hqw _ _ _
          · have HP : Hid (seqParse l = none) := HS.out none (fun h => by have := h.2.2; rw [HAL.out] at this; injection this with this; exact absurd this hend) (fun _ => rfl)
            have e0 : (((8 * l.length - a4 : Nat) : Int) != 0) = true := by simp; omega
            go_wp2_with fail
            refine (bitsLeft _ w0.heap.size g a4 l hR6).mono ?_
            rintro e w11 ⟨rfl, m, rfl⟩
            generalize ((8 * l.length - a4 : Nat) : Int) = left at *
            replace hq4 := hq4.drewN m
            replace M4 := M4.drewN m
            generalize w10.drewN m = w11 at *
            clear hR6 hcr hfr hr5 hend hsb
            obtain ⟨hcq, hfq⟩ := hq4.both
            have HQ := Lib.hid M4
            clear hq4 M4
            go_wp2_with fail
            refine bodyPost_ret (v := .tuple #[.agg #[.int .i64 0, .int .i64 0, .int .i64 0], .int .i64 121]) (by simp [results, Tryz.results43, go_sem, hcq]) rfl ⟨?_, .inl ⟨HP.out, rfl⟩⟩
            exact seq_mod3 HQ.out hqw _ _ _
    · have HP : Hid (seqParse l = none) := HS.out none (fun h => absurd h.1 hmark) (fun _ => rfl)
      have hmk : (((numAt l 0 16 : Nat) : Int) != 19273) = true := by simp; omega
      generalize ((numAt l 0 16 : Nat) : Int) = hd at *
      clear hmark hr5 hR5 hcr hfr hsb hcs hfs he5
      obtain ⟨hcq, hfq⟩ := hq4.both
      have HQ := Lib.hid M4
      clear hq4 M4
      go_wp2_with fail
      refine bodyPost_ret (v := .tuple #[.agg #[.int .i64 0, .int .i64 0, .int .i64 0], .int .i64 121]) (by simp [results, Tryz.results43, go_sem, hcq]) rfl ⟨?_, .inl ⟨HP.out, rfl⟩⟩
      exact seq_mod3 HQ.out hqw _ _ _
end Go.Proofs.YteppnjgfebcmjaaGreat
