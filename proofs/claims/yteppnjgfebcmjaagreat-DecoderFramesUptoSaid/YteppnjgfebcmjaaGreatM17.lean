/-
  The reference's coder: Right, Next.
-/
import Derived.Test.YteppnjgfebcmjaaGreatM16
import Derived.Deep.DeepCutAuto
namespace Go.Proofs.YteppnjgfebcmjaaGreat
open Go.RowKit

theorem fRight (w : World) (c : Nat) (hc : c ≤ 65535) : Calls Tryz.prog 179 #[.int .i64 (c : Int)] w fun e w' => e = .returned (.bool (chanceOk c)) ∧ w = w' := by
  have he : chanceOk c = (decide ((31 : Int) ≤ (c : Int)) && decide ((c : Int) ≤ 2017)) := by
    unfold chanceOk
    rw [Bool.eq_iff_iff]
    simp only [Bool.and_eq_true, decide_eq_true_eq]
    omega
  have HE := Lib.hid he
  clear he
  cases d1 : decide ((31 : Int) ≤ (c : Int))
  · go_enter Tryz.func179, Tryz.ntmps179
    go_wp2_with fail
    go_ret
    exact ⟨by rw [HE.out, d1]; rfl, rfl⟩
  cases d2 : decide ((c : Int) ≤ 2017)
  · go_enter Tryz.func179, Tryz.ntmps179
    go_wp2_with fail
    go_ret
    exact ⟨by rw [HE.out, d1, d2]; rfl, rfl⟩
  · go_enter Tryz.func179, Tryz.ntmps179
    go_wp2_with fail
    go_ret
    exact ⟨by rw [HE.out, d1, d2]; rfl, rfl⟩
set_option maxRecDepth 100000 in
set_option maxHeartbeats 4000000 in
theorem fNext (w : World) (c bit : Nat) (hb : bit ≤ 1) (h : chanceOk c = true) : Calls Tryz.prog 166 #[.int .i64 (c : Int), .int .i64 (bit : Int)] w fun e w' => e = .returned (.int .i64 ((cnext c bit : Nat) : Int)) ∧ w = w' := by
  have hc : 31 ≤ c ∧ c ≤ 2017 := by unfold chanceOk at h; rwa [decide_eq_true_eq] at h
  obtain ⟨h1, h2⟩ := hc
  have m0 : decide ((c : Int) < 31) = false := decide_eq_false (by omega)
  have m1 : decide ((2017 : Int) < (c : Int)) = false := decide_eq_false (by omega)
  clear h
  have hb2 : bit = 0 ∨ bit = 1 := by omega
  have e0 : ((cnext c 0 : Nat) : Int) = (c : Int) + (2048 - (c : Int)) / 32 := by unfold cnext; rw [if_pos rfl]; omega
  have e1 : ((cnext c 1 : Nat) : Int) = (c : Int) - (c : Int) / 32 := by unfold cnext; rw [if_neg (by decide)]; omega
  have HE := Lib.hid (And.intro e0 e1)
  clear e0 e1
  cases d1 : decide ((31 : Int) < (c : Int)) <;> cases d2 : decide ((c : Int) < 2017) <;> rcases hb2 with rfl | rfl <;> (
    go_enter Tryz.func166, Tryz.ntmps166
    go_wp2_with fail
    go_ret
    first
    | exact ⟨by rw [HE.out.1]; rfl, rfl⟩
    | exact ⟨by rw [HE.out.2]; rfl, rfl⟩)
/-- The reference's decoder of a code in memory. -/
def RCode (w : World) (g : Nat) (P : Nat → Prop) (code : List UInt8) (rest wide : Nat) : Prop :=
  ∃ A n c l i, Blk w g 118 #[.slice A n c, .int .i64 ((i : Nat) : Int), .int .i64 (rest : Int), .int .i64 (wide : Int)] ∧ BytesIn w A n c l ∧ code = l.drop i ∧ i ≤ n ∧ (0 < n → ∀ ad, A = some ad → P ad.block) ∧ rest < 4294967296 ∧ wide < 4294967296 ∧ n ≤ 1048576
theorem RCode.mod {w w' : World} {S P : Nat → Prop} {g : Nat} {code : List UInt8} {rest wide : Nat} (h : RCode w g P code rest wide) (hm : Mod S w w') (hg : ¬ S g) (hP : ∀ j, P j → ¬ S j) : RCode w' g P code rest wide := by
  obtain ⟨A, n, c, l, i, h1, h2, h3, h4, h5, h6⟩ := h
  exact ⟨A, n, c, l, i, h1.keep hm hg, h2.mod hm (fun h0 ad e => hP _ (h5 h0 ad e)), h3, h4, h5, h6⟩
def FOpenRel (w : World) (g : Nat) (A : Option Addr) (n c : Nat) (l : List UInt8) (v : Value) (wr : World) : Prop :=
  ∃ k : Nat, k ≤ 4 ∧ v = .int .i64 (k : Int) ∧ Blk wr g 118 #[.slice A n c, .int .i64 4, .int .i64 ((be (l.take k) : Nat) : Int), .int .i64 4294967295] ∧ Mod (fun _ => False) w wr
def FOpenPost (w : World) (P : Nat → Prop) (l : List UInt8) (e : Ending) (w' : World) : Prop :=
  ∃ g, e = .returned (.tuple #[.pointer (some ⟨g, 0, none⟩), .int .i64 0]) ∧ RCode w' g P (l.drop 4) (be (l.take 4)) 4294967295 ∧ w.heap.size ≤ g ∧ Mod (fun _ => False) w w'
set_option maxRecDepth 100000 in
set_option maxHeartbeats 4000000 in
theorem fOpen (w : World) (P : Nat → Prop) (A : Option Addr) (n c : Nat) (l : List UInt8) (h4 : 4 ≤ n) (hn : n ≤ 1048576) (hin : BytesIn w A n c l) (hP : ∀ ad, A = some ad → P ad.block) : Calls Tryz.prog 30 #[.slice A n c] w (FOpenPost w P l) := by
  obtain ⟨b, off, hA, hb, hcell⟩ := hin.place (by omega)
  subst hA
  have hl := hin.1
  have d0 : decide ((n : Int) < 4) = false := decide_eq_false (by omega)
  have hb0 : Blk (w.alloc (.cells #[.slice (some ⟨b, off, none⟩) n c, .int .i64 4, .int .i64 0, .int .i64 4294967295] 118)) w.heap.size 118 #[.slice (some ⟨b, off, none⟩) n c, .int .i64 4, .int .i64 0, .int .i64 4294967295] := Blk.new _ _ _
  have H := Lib.hid (And.intro hin (And.intro hcell (And.intro hb0 (And.intro hP hb))))
  clear hin hcell hb0 hP
  go_enter Tryz.func30, Tryz.ntmps30
  go_wp2_with fail
  go_loopw [5] (FOpenRel w w.heap.size (some ⟨b, off, none⟩) n c l) (fun v _ => 4 - (intOf v).toNat)
  case atStart => exact ⟨0, by omega, rfl, H.out.2.2.1, (Mod.refl _ w).alloc _⟩
  case round =>
    rename World => wr
    obtain ⟨k, hk, rfl, hB, hM⟩ := hrel
    by_cases hlt : k < 4
    · have d1 : decide ((k : Int) < 4) = true := decide_eq_true (by omega)
      obtain ⟨x, hx⟩ : ∃ x : UInt8, x = l.getD k 0 := ⟨_, rfl⟩
      have hxl := x.toNat_lt
      have hcx : wr.drew.cell? ⟨b, off + k, none⟩ = some (.int .u8 (x.toNat : Int)) := (World.cell?_of_block (hM.block b H.out.2.2.2.2 (fun h => h))).trans (hx ▸ H.out.2.1 k (by omega))
      have hkn : k < n := by omega
      have hbe := be_take l k (by omega)
      have hbl := be_lt (l.take k)
      rw [← hx] at hbe
      have hp3 : (256 : Nat) ^ (l.take k).length ≤ 16777216 := by
        rw [List.length_take]
        have : min k l.length ≤ 3 := by omega
        calc (256 : Nat) ^ (min k l.length) ≤ 256 ^ 3 := Nat.pow_le_pow_right (by omega) this
          _ = 16777216 := by decide
      obtain ⟨r, hr⟩ : ∃ r, r = be (l.take k) := ⟨_, rfl⟩
      rw [← hr] at hB hbl hbe
      have hr3 : r < 16777216 := by omega
      have hB2 := hB.drew
      obtain ⟨gc, gf⟩ := hB2.both
      have HK := Lib.hid (And.intro hB2 (And.intro hM hbe))
      clear hB hM hbe hbl hp3 hB2 hx hr
      go_upto_region 7 with (fail)
      refine wp_region_planS [14] [] (0 :: 1 :: 2 :: 3 :: 4 :: 5 :: 6 :: 7 :: 8 :: 9 :: 10 :: 11 :: 12 :: 13 :: 14 :: []) (fun _ => True) (by kernel_rfl) (by kernel_rfl) (fun _ _ _ d _ h => by cases d <;> exact h) trivial ?_
      iterate 14 (refine planS_still rfl rfl (fun K hK => ?_); go_simp; refine hK _ ?_; clear hK K)
      refine planS_loud rfl rfl (fun K hK => ?_)
      go_simp
      refine hK _ _ trivial ?_
      clear hK K
      refine planS_done ?_
      go_wp2_with fail
      go_roundw
      case rel =>
        refine ⟨k + 1, by omega, by go_num, ?_, (HK.out.2.1.drew).setCell (.inr (Nat.le_refl _)) _⟩
        rw [HK.out.2.2, show ((r * 256 + x.toNat : Nat) : Int) = 256 * (r : Int) + (x.toNat : Int) by omega]
        exact HK.out.1.put rfl
      case measure => simp [intOf]; omega
    · obtain rfl : k = 4 := by omega
      have HK := Lib.hid (And.intro hB hM)
      clear hB hM
      go_wp2_with fail
      go_ret2
      have hbl := be_lt (l.take 4)
      rw [List.length_take, show min 4 l.length = 4 by omega] at hbl
      exact ⟨_, rfl, ⟨_, n, c, l, 4, HK.out.1, H.out.1.quiet HK.out.2, rfl, h4, fun _ ad e => H.out.2.2.2.1 ad e, by omega, by omega, hn⟩, Nat.le_refl _, HK.out.2⟩
def FGetPost (w : World) (g : Nat) (P : Nat → Prop) (r : Option (Nat × List UInt8 × Nat × Nat)) (e : Ending) (w' : World) : Prop :=
  (r = none ∧ ∃ er : Int, (er == 0) = false ∧ e = .returned (.tuple #[.int .i64 0, .int .i64 er]) ∧ Mod (fun _ => False) w w') ∨
  ∃ bit code rest wide, r = some (bit, code, rest, wide) ∧ bit ≤ 1 ∧ e = .returned (.tuple #[.int .i64 (bit : Int), .int .i64 0]) ∧ RCode w' g P code rest wide ∧ Mod (· = g) w w'
def FNRel (w : World) (g yb : Nat) (cs : Array Value) (A : Option Addr) (n c : Nat) (l : List UInt8) (r : Option (List UInt8 × Nat × Nat)) (wr : World) : Prop :=
  Blk wr g 118 cs ∧ Mod (fun _ => False) w wr ∧ ∃ i rest wide : Nat, Blk wr yb 118 #[.slice A n c, .int .i64 (i : Int), .int .i64 (rest : Int), .int .i64 (wide : Int)] ∧ i ≤ n ∧ rest < wide ∧ wide < 4294967296 ∧ cnorm (l.drop i) rest wide = r
def fIdx (yb : Nat) (w : World) : Nat := match w.cell? ⟨yb, 1, none⟩ with
  | some (.int _ i) => i.toNat
  | _ => 0
theorem fIdx_of {w : World} {yb i : Nat} {a b c : Value} (h : Blk w yb 118 #[a, .int .i64 (i : Int), b, c]) : fIdx yb w = i := by
  unfold fIdx
  rw [h.cell 1]
  simp
theorem f_fresh {w : World} {g : Nat} {cs cells : Array Value} (hb : Blk w g 118 cs) : Blk (w.alloc (.cells cells 118)).drew g 118 cs ∧ Mod (fun _ => False) w (w.alloc (.cells cells 118)).drew ∧ Blk (w.alloc (.cells cells 118)).drew w.heap.size 118 cells :=
  ⟨(hb.alloc _).drew, ((Mod.refl _ w).alloc _).drew, (Blk.new w 118 cells).drew⟩
set_option maxRecDepth 100000 in
set_option maxHeartbeats 8000000 in
theorem fGet (w : World) (g : Nat) (P : Nat → Prop) (hPg : ¬ P g) (code : List UInt8) (rest wide c : Nat) (hc : c ≤ 65535) (h : RCode w g P code rest wide) : Calls Tryz.prog 165 #[.pointer (some ⟨g, 0, none⟩), .int .i64 (c : Int)] w (FGetPost w g P (cget code rest wide c)) := by
  obtain ⟨A, n, cp, l, i, hb, hin, hcode, hin2, hP, hr, hw, hn⟩ := h
  have hb2 := hb.drew
  have hbc := hb2.cell
  have hlt := hb.lt
  have HH := Lib.hid (And.intro hb (And.intro hin (And.intro hP (And.intro hcode (And.intro hb2 hlt)))))
  have C0 := Lib.hid fun w => fRight w c hc
  clear hb hin hP hcode hb2
  cases hch : chanceOk c with
  | false =>
    have HR : Hid (cget code rest wide c = none) := if_neg (fun h => by rw [hch] at h; cases h.1)
    have HC := Lib.hid hch
    clear hch
    go_enter Tryz.func165, Tryz.ntmps165
    go_wp2_with fail
    refine (C0.out _).mono ?_
    rintro e w1 ⟨rfl, rfl⟩
    rw [HC.out]
    go_wp2_with fail
    go_ret2
    exact .inl ⟨HR.out, 1, rfl, rfl, Mod.refl _ _⟩
  | true =>
    have hcb : 31 ≤ c ∧ c ≤ 2017 := by unfold chanceOk at hch; rwa [decide_eq_true_eq] at hch
    obtain ⟨hc1, hc2⟩ := hcb
    have HC := Lib.hid hch
    clear hch
    by_cases hrw : rest < wide
    · have d1 : decide ((wide : Int) ≤ (rest : Int)) = false := decide_eq_false (by omega)
      have d1n : decide (wide ≤ rest) = false := decide_eq_false (by omega)
      have hbl := bound_lt wide c hc2
      obtain ⟨bd, hbe⟩ : ∃ bd, bd = wide / 2048 * c := ⟨_, rfl⟩
      rw [← hbe] at hbl
      have e1 : wrap64 ((wide : Int) / 2048 * (c : Int)) = (bd : Int) := by
        rw [show (wide : Int) / 2048 * (c : Int) = (bd : Int) by rw [hbe]; simp]
        exact IntWalk.wrap64_in _ ⟨by omega, by omega⟩
      have HE := Lib.hid (And.intro e1 hbe)
      clear e1 hbe
      go_enter Tryz.func165, Tryz.ntmps165
      go_wp2_with fail
      refine (C0.out _).mono ?_
      rintro e w1 ⟨rfl, rfl⟩
      rw [HC.out]
      go_upto_region 4 with (fail)
      refine wp_region_planS [] [] (0 :: 1 :: 2 :: 3 :: 4 :: 5 :: 6 :: 7 :: 8 :: []) (fun _ => True) (by kernel_rfl) (by kernel_rfl) (fun _ _ _ d _ h => by cases d <;> exact h) trivial ?_
      iterate 9 (refine planS_still rfl rfl (fun K hK => ?_); go_simp; refine hK _ ?_; clear hK K)
      refine planS_done ?_
      go_upto_region 8 with (fail)
      rw [HE.out.1]
      by_cases hbit : rest < bd
      · have HG : Hid (cget code rest wide c = (cnorm code (rest) (bd)).map (fun x => (0, x))) := by
          show _ = _
          unfold cget
          rw [if_pos ⟨HC.out, hrw⟩, ← HE.out.2, if_pos hbit]
        obtain ⟨tg, htg⟩ : ∃ tg, tg = cnorm code (rest) (bd) := ⟨_, rfl⟩
        have HT := Lib.hid htg
        have hcs0 : cnorm (l.drop i) (rest) (bd) = tg := by rw [htg, HH.out.2.2.2.1]
        have d2 : decide ((rest : Int) < (bd : Int)) = true := decide_eq_true (by omega)
        have HS := Lib.hid (f_fresh (cells := #[.slice A n cp, .int .i64 (i : Int), .int .i64 (rest : Int), .int .i64 (bd : Int)]) HH.out.1)
        clear htg
        go_wp2_with fail
        go_loopw [] (FNRel w g w.heap.size #[.slice A n cp, .int .i64 (i : Int), .int .i64 (rest : Int), .int .i64 (wide : Int)] A n cp l tg) (fun wr => n - fIdx w.heap.size wr)
        case atStart => exact ⟨HS.out.1, HS.out.2.1, i, rest, bd, HS.out.2.2, hin2, by omega, by omega, hcs0⟩
        case round =>
          rename World => wr
          clear hcs0
          obtain ⟨hbg, hM, k, r1, w1, hby, hk, hrw1, hww, hcn⟩ := hrel
          obtain ⟨gc, gf⟩ := hby.both
          have hix := fIdx_of hby
          by_cases h24 : w1 < 16777216
          · have d3 : decide ((w1 : Int) < 16777216) = true := decide_eq_true (by omega)
            by_cases hkn : k < n
            · have d4 : decide ((n : Int) ≤ (k : Int)) = false := decide_eq_false (by omega)
              obtain ⟨b, off, hA, hbw, hcell⟩ := HH.out.2.1.place (by omega)
              subst hA
              obtain ⟨x, hx⟩ : ∃ x : UInt8, x = l.getD k 0 := ⟨_, rfl⟩
              have hxl := x.toNat_lt
              have hll := HH.out.2.1.1
              have hcn2 : cnorm (l.drop (k + 1)) (r1 * 256 + x.toNat) (w1 * 256) = tg := by
                rw [← hcn, List.drop_eq_getElem_cons (show k < l.length by omega), cnorm_step _ _ _ _ h24, hx, List.getD_eq_getElem?_getD, List.getElem?_eq_getElem (by omega)]
                rfl
              have hb3 := hby.put (i := 3) (u := .int .i64 (256 * (w1 : Int))) (cs' := #[.slice (some ⟨b, off, none⟩) n cp, .int .i64 (k : Int), .int .i64 (r1 : Int), .int .i64 (256 * (w1 : Int))]) rfl
              have hb3d := hb3.drew
              have m3 : Mod (fun _ => False) w (wr.setCell ⟨w.heap.size, 3, none⟩ (.int .i64 (256 * (w1 : Int)))) := hM.setCell (.inr (Nat.le_refl _)) _
              have hcx : (wr.setCell ⟨w.heap.size, 3, none⟩ (.int .i64 (256 * (w1 : Int)))).drew.cell? ⟨b, off + k, none⟩ = some (.int .u8 (x.toNat : Int)) := (World.cell?_of_block (m3.block b hbw (fun h => h))).trans (hx ▸ hcell k hkn)
              have hg3 := hbg.far (p := ⟨w.heap.size, 3, none⟩) (Nat.ne_of_lt HH.out.2.2.2.2.2) (.int .i64 (256 * (w1 : Int)))
              have HK := Lib.hid (And.intro hb3d (And.intro m3.drew (And.intro hg3.drew (And.intro hcn2 (And.intro hix hcx)))))
              clear hby hM hbg hcn hcn2 hb3 hb3d m3 hg3 hx hcell hix hcx
              have H24 := Lib.hid h24
              go_upto_region 15 with (fail)
              clear d3 h24
              go_upto_region 18 with (fail)
              obtain ⟨gc3, gf3⟩ := HK.out.1.both
              have hcx := HK.out.2.2.2.2.2
              refine wp_region_planS [12] [] (0 :: 1 :: 2 :: 3 :: 4 :: 5 :: 6 :: 7 :: 8 :: 9 :: 10 :: 11 :: 12 :: []) (fun _ => True) (by kernel_rfl) (by kernel_rfl) (fun _ _ _ d _ h => by cases d <;> exact h) trivial ?_
              have HW1 : Hid (wr.cell? ⟨w.heap.size, 1, none⟩ = some (.int .i64 (k : Int)) ∧ w1 < 16777216) := Lib.hid ⟨gc 1, H24.out⟩
              clear gc
              iterate 12 (refine planS_still rfl rfl (fun K hK => ?_); go_simp; refine hK _ ?_; clear hK K)
              refine planS_loud rfl rfl (fun K hK => ?_)
              go_simp
              refine hK _ _ trivial ?_
              clear hK K
              refine planS_done ?_
              have hb4 := HK.out.1.put (i := 2) (u := .int .i64 (256 * (r1 : Int) + (x.toNat : Int))) (cs' := #[.slice (some ⟨b, off, none⟩) n cp, .int .i64 (k : Int), .int .i64 (256 * (r1 : Int) + (x.toNat : Int)), .int .i64 (256 * (w1 : Int))]) rfl
              have hb5 := hb4.put (i := 1) (u := .int .i64 ((k : Int) + 1)) (cs' := #[.slice (some ⟨b, off, none⟩) n cp, .int .i64 ((k : Int) + 1), .int .i64 (256 * (r1 : Int) + (x.toNat : Int)), .int .i64 (256 * (w1 : Int))]) rfl
              have m5 := (HK.out.2.1.setCell (p := ⟨w.heap.size, 2, none⟩) (.inr (Nat.le_refl _)) (.int .i64 (256 * (r1 : Int) + (x.toNat : Int)))).setCell (p := ⟨w.heap.size, 1, none⟩) (.inr (Nat.le_refl _)) (.int .i64 ((k : Int) + 1))
              have hg5 := (HK.out.2.2.1.far (p := ⟨w.heap.size, 2, none⟩) (Nat.ne_of_lt HH.out.2.2.2.2.2) (.int .i64 (256 * (r1 : Int) + (x.toNat : Int)))).far (p := ⟨w.heap.size, 1, none⟩) (Nat.ne_of_lt HH.out.2.2.2.2.2) (.int .i64 ((k : Int) + 1))
              obtain ⟨gc4, gf4⟩ := hb4.both
              have H5 := Lib.hid (And.intro hb5 (And.intro m5 hg5))
              clear hb4 hb5 m5 hg5 gc3 gf3 hcx
              have cw1 := HW1.out.1
              go_wp2_with fail
              have hrel5 : FNRel w g w.heap.size #[.slice (some ⟨b, off, none⟩) n cp, .int .i64 (i : Int), .int .i64 (rest : Int), .int .i64 (wide : Int)] (some ⟨b, off, none⟩) n cp l tg (((wr.setCell ⟨w.heap.size, 3, none⟩ (.int .i64 (256 * (w1 : Int)))).drew.setCell ⟨w.heap.size, 2, none⟩ (.int .i64 (256 * (r1 : Int) + (x.toNat : Int)))).setCell ⟨w.heap.size, 1, none⟩ (.int .i64 ((k : Int) + 1))) := by
                refine ⟨H5.out.2.2, H5.out.2.1, k + 1, r1 * 256 + x.toNat, w1 * 256, ?_, by omega, by omega, by have := HW1.out.2; omega, HK.out.2.2.2.1⟩
                rw [show ((r1 * 256 + x.toNat : Nat) : Int) = 256 * (r1 : Int) + (x.toNat : Int) by omega, show ((w1 * 256 : Nat) : Int) = 256 * (w1 : Int) by omega, show ((k + 1 : Nat) : Int) = (k : Int) + 1 by omega]
                exact H5.out.1
              have hix5 : fIdx w.heap.size (((wr.setCell ⟨w.heap.size, 3, none⟩ (.int .i64 (256 * (w1 : Int)))).drew.setCell ⟨w.heap.size, 2, none⟩ (.int .i64 (256 * (r1 : Int) + (x.toNat : Int)))).setCell ⟨w.heap.size, 1, none⟩ (.int .i64 ((k : Int) + 1))) = k + 1 := by
                unfold fIdx
                rw [H5.out.1.cell 1]
                simp
              refine ⟨?_, ?_⟩
              · first
                | exact hrel5
                | ((repeat apply Exists.intro)
                   exact ⟨hrel5, rfl⟩)
              · have h7 := HK.out.2.2.2.2.1
                have h8 : fIdx w.heap.size (((wr.setCell ⟨w.heap.size, 3, none⟩ (.int .i64 (256 * (w1 : Int)))).setCell ⟨w.heap.size, 2, none⟩ (.int .i64 (256 * (r1 : Int) + (x.toNat : Int)))).setCell ⟨w.heap.size, 1, none⟩ (.int .i64 ((k : Int) + 1))).drew = k + 1 := hix5
                rw [h8, h7]
                omega
            · have hkn2 : k = n := by omega
              have d4 : decide ((n : Int) ≤ (k : Int)) = true := decide_eq_true (by omega)
              have hno : tg = none := by
                rw [← hcn, List.drop_eq_nil_of_le (by rw [HH.out.2.1.1]; omega)]
                exact cnorm_none _ _ h24
              have HN := Lib.hid (And.intro hno hM)
              clear hno hM hcn hbg hby hix
              go_upto_region 15 with (fail)
              clear d3 h24
              go_wp2_with fail
              go_ret2
              exact .inl ⟨by rw [HG, ← HT.out, HN.out.1]; rfl, 41, rfl, rfl, HN.out.2⟩
          · have d3 : decide ((w1 : Int) < 16777216) = false := decide_eq_false (by omega)
            have hso : tg = some (l.drop k, r1, w1) := by rw [← hcn]; exact cnorm_done _ _ _ (by omega)
            have hM0 : Mod (· = g) w wr := hM.mono (fun _ h => h.elim)
            have hmS : ∀ a b c d, Mod (· = g) w ((((wr.setCell ⟨g, 0, none⟩ a).setCell ⟨g, 1, none⟩ b).setCell ⟨g, 2, none⟩ c).setCell ⟨g, 3, none⟩ d) := fun a b c d => (((hM0.setCell (p := ⟨g, 0, none⟩) (.inl rfl) a).setCell (p := ⟨g, 1, none⟩) (.inl rfl) b).setCell (p := ⟨g, 2, none⟩) (.inl rfl) c).setCell (p := ⟨g, 3, none⟩) (.inl rfl) d
            have hbS : ∀ a b c d, Blk ((((wr.setCell ⟨g, 0, none⟩ a).setCell ⟨g, 1, none⟩ b).setCell ⟨g, 2, none⟩ c).setCell ⟨g, 3, none⟩ d) g 118 #[a, b, c, d] := fun a b c d => (((hbg.put (i := 0) (u := a) (cs' := #[a, .int .i64 (i : Int), .int .i64 (rest : Int), .int .i64 (wide : Int)]) rfl).put (i := 1) (u := b) (cs' := #[a, b, .int .i64 (rest : Int), .int .i64 (wide : Int)]) rfl).put (i := 2) (u := c) (cs' := #[a, b, c, .int .i64 (wide : Int)]) rfl).put (i := 3) (u := d) (cs' := #[a, b, c, d]) rfl
            have hiS := fun a b c d => (HH.out.2.1).mod (hmS a b c d) (fun h0 ad e hs => hPg (hs ▸ HH.out.2.2.1 h0 ad e))
            obtain ⟨gg, gfg⟩ := hbg.both
            have HN := Lib.hid (And.intro hso (And.intro hmS (And.intro hbS hiS)))
            clear hso hM hcn hbg hby hix hmS hbS hiS hM0
            go_upto_region 20 with (fail)
            clear d3 h24
            go_wp2_with fail
            go_ret2
            exact .inr ⟨0, l.drop k, r1, w1, by rw [HG, ← HT.out, HN.out.1]; rfl, by omega, rfl, ⟨A, n, cp, l, k, HN.out.2.2.1 _ _ _ _, HN.out.2.2.2 _ _ _ _, rfl, hk, HH.out.2.2.1, by omega, hww, hn⟩, HN.out.2.1 _ _ _ _⟩
      · have HG : Hid (cget code rest wide c = (cnorm code (rest - bd) (wide - bd)).map (fun x => (1, x))) := by
          show _ = _
          unfold cget
          rw [if_pos ⟨HC.out, hrw⟩, ← HE.out.2, if_neg hbit]
        obtain ⟨tg, htg⟩ : ∃ tg, tg = cnorm code (rest - bd) (wide - bd) := ⟨_, rfl⟩
        have HT := Lib.hid htg
        have hcs0 : cnorm (l.drop i) (rest - bd) (wide - bd) = tg := by rw [htg, HH.out.2.2.2.1]
        have d2 : decide ((rest : Int) < (bd : Int)) = false := decide_eq_false (by omega)
        have HS := Lib.hid (f_fresh (cells := #[.slice A n cp, .int .i64 (i : Int), .int .i64 ((rest : Int) - (bd : Int)), .int .i64 ((wide : Int) - (bd : Int))]) HH.out.1)
        clear htg
        go_wp2_with fail
        go_loopw [] (FNRel w g w.heap.size #[.slice A n cp, .int .i64 (i : Int), .int .i64 (rest : Int), .int .i64 (wide : Int)] A n cp l tg) (fun wr => n - fIdx w.heap.size wr)
        case atStart => exact ⟨HS.out.1, HS.out.2.1, i, rest - bd, wide - bd, by rw [show ((rest - bd : Nat) : Int) = (rest : Int) - (bd : Int) by omega, show ((wide - bd : Nat) : Int) = (wide : Int) - (bd : Int) by omega]; exact HS.out.2.2, hin2, by omega, by omega, hcs0⟩
        case round =>
          rename World => wr
          clear hcs0
          obtain ⟨hbg, hM, k, r1, w1, hby, hk, hrw1, hww, hcn⟩ := hrel
          obtain ⟨gc, gf⟩ := hby.both
          have hix := fIdx_of hby
          by_cases h24 : w1 < 16777216
          · have d3 : decide ((w1 : Int) < 16777216) = true := decide_eq_true (by omega)
            by_cases hkn : k < n
            · have d4 : decide ((n : Int) ≤ (k : Int)) = false := decide_eq_false (by omega)
              obtain ⟨b, off, hA, hbw, hcell⟩ := HH.out.2.1.place (by omega)
              subst hA
              obtain ⟨x, hx⟩ : ∃ x : UInt8, x = l.getD k 0 := ⟨_, rfl⟩
              have hxl := x.toNat_lt
              have hll := HH.out.2.1.1
              have hcn2 : cnorm (l.drop (k + 1)) (r1 * 256 + x.toNat) (w1 * 256) = tg := by
                rw [← hcn, List.drop_eq_getElem_cons (show k < l.length by omega), cnorm_step _ _ _ _ h24, hx, List.getD_eq_getElem?_getD, List.getElem?_eq_getElem (by omega)]
                rfl
              have hb3 := hby.put (i := 3) (u := .int .i64 (256 * (w1 : Int))) (cs' := #[.slice (some ⟨b, off, none⟩) n cp, .int .i64 (k : Int), .int .i64 (r1 : Int), .int .i64 (256 * (w1 : Int))]) rfl
              have hb3d := hb3.drew
              have m3 : Mod (fun _ => False) w (wr.setCell ⟨w.heap.size, 3, none⟩ (.int .i64 (256 * (w1 : Int)))) := hM.setCell (.inr (Nat.le_refl _)) _
              have hcx : (wr.setCell ⟨w.heap.size, 3, none⟩ (.int .i64 (256 * (w1 : Int)))).drew.cell? ⟨b, off + k, none⟩ = some (.int .u8 (x.toNat : Int)) := (World.cell?_of_block (m3.block b hbw (fun h => h))).trans (hx ▸ hcell k hkn)
              have hg3 := hbg.far (p := ⟨w.heap.size, 3, none⟩) (Nat.ne_of_lt HH.out.2.2.2.2.2) (.int .i64 (256 * (w1 : Int)))
              have HK := Lib.hid (And.intro hb3d (And.intro m3.drew (And.intro hg3.drew (And.intro hcn2 (And.intro hix hcx)))))
              clear hby hM hbg hcn hcn2 hb3 hb3d m3 hg3 hx hcell hix hcx
              have H24 := Lib.hid h24
              go_upto_region 15 with (fail)
              clear d3 h24
              go_upto_region 18 with (fail)
              obtain ⟨gc3, gf3⟩ := HK.out.1.both
              have hcx := HK.out.2.2.2.2.2
              refine wp_region_planS [12] [] (0 :: 1 :: 2 :: 3 :: 4 :: 5 :: 6 :: 7 :: 8 :: 9 :: 10 :: 11 :: 12 :: []) (fun _ => True) (by kernel_rfl) (by kernel_rfl) (fun _ _ _ d _ h => by cases d <;> exact h) trivial ?_
              have HW1 : Hid (wr.cell? ⟨w.heap.size, 1, none⟩ = some (.int .i64 (k : Int)) ∧ w1 < 16777216) := Lib.hid ⟨gc 1, H24.out⟩
              clear gc
              iterate 12 (refine planS_still rfl rfl (fun K hK => ?_); go_simp; refine hK _ ?_; clear hK K)
              refine planS_loud rfl rfl (fun K hK => ?_)
              go_simp
              refine hK _ _ trivial ?_
              clear hK K
              refine planS_done ?_
              have hb4 := HK.out.1.put (i := 2) (u := .int .i64 (256 * (r1 : Int) + (x.toNat : Int))) (cs' := #[.slice (some ⟨b, off, none⟩) n cp, .int .i64 (k : Int), .int .i64 (256 * (r1 : Int) + (x.toNat : Int)), .int .i64 (256 * (w1 : Int))]) rfl
              have hb5 := hb4.put (i := 1) (u := .int .i64 ((k : Int) + 1)) (cs' := #[.slice (some ⟨b, off, none⟩) n cp, .int .i64 ((k : Int) + 1), .int .i64 (256 * (r1 : Int) + (x.toNat : Int)), .int .i64 (256 * (w1 : Int))]) rfl
              have m5 := (HK.out.2.1.setCell (p := ⟨w.heap.size, 2, none⟩) (.inr (Nat.le_refl _)) (.int .i64 (256 * (r1 : Int) + (x.toNat : Int)))).setCell (p := ⟨w.heap.size, 1, none⟩) (.inr (Nat.le_refl _)) (.int .i64 ((k : Int) + 1))
              have hg5 := (HK.out.2.2.1.far (p := ⟨w.heap.size, 2, none⟩) (Nat.ne_of_lt HH.out.2.2.2.2.2) (.int .i64 (256 * (r1 : Int) + (x.toNat : Int)))).far (p := ⟨w.heap.size, 1, none⟩) (Nat.ne_of_lt HH.out.2.2.2.2.2) (.int .i64 ((k : Int) + 1))
              obtain ⟨gc4, gf4⟩ := hb4.both
              have H5 := Lib.hid (And.intro hb5 (And.intro m5 hg5))
              clear hb4 hb5 m5 hg5 gc3 gf3 hcx
              have cw1 := HW1.out.1
              go_wp2_with fail
              have hrel5 : FNRel w g w.heap.size #[.slice (some ⟨b, off, none⟩) n cp, .int .i64 (i : Int), .int .i64 (rest : Int), .int .i64 (wide : Int)] (some ⟨b, off, none⟩) n cp l tg (((wr.setCell ⟨w.heap.size, 3, none⟩ (.int .i64 (256 * (w1 : Int)))).drew.setCell ⟨w.heap.size, 2, none⟩ (.int .i64 (256 * (r1 : Int) + (x.toNat : Int)))).setCell ⟨w.heap.size, 1, none⟩ (.int .i64 ((k : Int) + 1))) := by
                refine ⟨H5.out.2.2, H5.out.2.1, k + 1, r1 * 256 + x.toNat, w1 * 256, ?_, by omega, by omega, by have := HW1.out.2; omega, HK.out.2.2.2.1⟩
                rw [show ((r1 * 256 + x.toNat : Nat) : Int) = 256 * (r1 : Int) + (x.toNat : Int) by omega, show ((w1 * 256 : Nat) : Int) = 256 * (w1 : Int) by omega, show ((k + 1 : Nat) : Int) = (k : Int) + 1 by omega]
                exact H5.out.1
              have hix5 : fIdx w.heap.size (((wr.setCell ⟨w.heap.size, 3, none⟩ (.int .i64 (256 * (w1 : Int)))).drew.setCell ⟨w.heap.size, 2, none⟩ (.int .i64 (256 * (r1 : Int) + (x.toNat : Int)))).setCell ⟨w.heap.size, 1, none⟩ (.int .i64 ((k : Int) + 1))) = k + 1 := by
                unfold fIdx
                rw [H5.out.1.cell 1]
                simp
              refine ⟨?_, ?_⟩
              · first
                | exact hrel5
                | ((repeat apply Exists.intro)
                   exact ⟨hrel5, rfl⟩)
              · have h7 := HK.out.2.2.2.2.1
                have h8 : fIdx w.heap.size (((wr.setCell ⟨w.heap.size, 3, none⟩ (.int .i64 (256 * (w1 : Int)))).setCell ⟨w.heap.size, 2, none⟩ (.int .i64 (256 * (r1 : Int) + (x.toNat : Int)))).setCell ⟨w.heap.size, 1, none⟩ (.int .i64 ((k : Int) + 1))).drew = k + 1 := hix5
                rw [h8, h7]
                omega
            · have hkn2 : k = n := by omega
              have d4 : decide ((n : Int) ≤ (k : Int)) = true := decide_eq_true (by omega)
              have hno : tg = none := by
                rw [← hcn, List.drop_eq_nil_of_le (by rw [HH.out.2.1.1]; omega)]
                exact cnorm_none _ _ h24
              have HN := Lib.hid (And.intro hno hM)
              clear hno hM hcn hbg hby hix
              go_upto_region 15 with (fail)
              clear d3 h24
              go_wp2_with fail
              go_ret2
              exact .inl ⟨by rw [HG, ← HT.out, HN.out.1]; rfl, 41, rfl, rfl, HN.out.2⟩
          · have d3 : decide ((w1 : Int) < 16777216) = false := decide_eq_false (by omega)
            have hso : tg = some (l.drop k, r1, w1) := by rw [← hcn]; exact cnorm_done _ _ _ (by omega)
            have hM0 : Mod (· = g) w wr := hM.mono (fun _ h => h.elim)
            have hmS : ∀ a b c d, Mod (· = g) w ((((wr.setCell ⟨g, 0, none⟩ a).setCell ⟨g, 1, none⟩ b).setCell ⟨g, 2, none⟩ c).setCell ⟨g, 3, none⟩ d) := fun a b c d => (((hM0.setCell (p := ⟨g, 0, none⟩) (.inl rfl) a).setCell (p := ⟨g, 1, none⟩) (.inl rfl) b).setCell (p := ⟨g, 2, none⟩) (.inl rfl) c).setCell (p := ⟨g, 3, none⟩) (.inl rfl) d
            have hbS : ∀ a b c d, Blk ((((wr.setCell ⟨g, 0, none⟩ a).setCell ⟨g, 1, none⟩ b).setCell ⟨g, 2, none⟩ c).setCell ⟨g, 3, none⟩ d) g 118 #[a, b, c, d] := fun a b c d => (((hbg.put (i := 0) (u := a) (cs' := #[a, .int .i64 (i : Int), .int .i64 (rest : Int), .int .i64 (wide : Int)]) rfl).put (i := 1) (u := b) (cs' := #[a, b, .int .i64 (rest : Int), .int .i64 (wide : Int)]) rfl).put (i := 2) (u := c) (cs' := #[a, b, c, .int .i64 (wide : Int)]) rfl).put (i := 3) (u := d) (cs' := #[a, b, c, d]) rfl
            have hiS := fun a b c d => (HH.out.2.1).mod (hmS a b c d) (fun h0 ad e hs => hPg (hs ▸ HH.out.2.2.1 h0 ad e))
            obtain ⟨gg, gfg⟩ := hbg.both
            have HN := Lib.hid (And.intro hso (And.intro hmS (And.intro hbS hiS)))
            clear hso hM hcn hbg hby hix hmS hbS hiS hM0
            go_upto_region 20 with (fail)
            clear d3 h24
            go_wp2_with fail
            go_ret2
            exact .inr ⟨1, l.drop k, r1, w1, by rw [HG, ← HT.out, HN.out.1]; rfl, by omega, rfl, ⟨A, n, cp, l, k, HN.out.2.2.1 _ _ _ _, HN.out.2.2.2 _ _ _ _, rfl, hk, HH.out.2.2.1, by omega, hww, hn⟩, HN.out.2.1 _ _ _ _⟩
    · have d1 : decide ((wide : Int) ≤ (rest : Int)) = true := decide_eq_true (by omega)
      have HR : Hid (cget code rest wide c = none) := if_neg (fun h => hrw h.2)
      go_enter Tryz.func165, Tryz.ntmps165
      go_wp2_with fail
      refine (C0.out _).mono ?_
      rintro e w1 ⟨rfl, rfl⟩
      rw [HC.out]
      go_upto_region 4 with (fail)
      refine wp_region_planS [] [] (0 :: 1 :: 2 :: 3 :: 4 :: 5 :: 6 :: 7 :: 8 :: []) (fun _ => True) (by kernel_rfl) (by kernel_rfl) (fun _ _ _ d _ h => by cases d <;> exact h) trivial ?_
      iterate 9 (refine planS_still rfl rfl (fun K hK => ?_); go_simp; refine hK _ ?_; clear hK K)
      refine planS_done ?_
      go_wp2_with fail
      go_ret2
      exact .inl ⟨HR.out, 41, rfl, rfl, (Mod.refl _ _).drew⟩
end Go.Proofs.YteppnjgfebcmjaaGreat
