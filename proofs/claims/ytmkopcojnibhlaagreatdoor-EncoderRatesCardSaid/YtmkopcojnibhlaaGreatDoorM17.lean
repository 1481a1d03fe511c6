/-
  decoder: a block is read, built and laid.
-/
import Derived.Test.YtmkopcojnibhlaaGreatDoorM14
import Derived.Test.YtmkopcojnibhlaaGreatDoorM16
namespace Go.Proofs.YtmkopcojnibhlaaGreatDoor
open Go.RowKit

/-- A block of a guess: as it is, or with the levels that are read. -/
def sblk (gr : Option (List UInt8 × St)) (kind : Int) (pl : Nat) (Q : Int) : Option (List UInt8 × St) :=
  gr.bind fun a => if kind = 0 then some a else (sblock (if 0 < pl then 4 else 2) a.2).bind fun b => (buildL a.1 b.1 Q).map fun l => (l, b.2)
theorem sblk_none (kind : Int) (pl : Nat) (Q : Int) : sblk none kind pl Q = none := rfl
/-- A block's first j rows, laid. -/
def layTo (W x y : Nat) (l pix : List UInt8) : Nat → List UInt8
  | 0 => pix
  | j + 1 => splice (layTo W x y l pix j) ((y + j) * W + x) ((l.drop (j * 8)).take 8)
theorem lay_in {W H x y j : Nat} (hx : x + 8 ≤ W) (hy : y + 8 ≤ H) (hj : j < 8) : (y + j) * W + x + 8 ≤ W * H := by
  have h1 : (y + j + 1) * W ≤ H * W := Nat.mul_le_mul_right W (by omega)
  rw [Nat.add_mul, Nat.one_mul, Nat.mul_comm H W] at h1
  omega
theorem lay_row {l : List UInt8} (hl : l.length = 64) {j : Nat} (hj : j < 8) : ((l.drop (j * 8)).take 8).length = 8 := by simp; omega
theorem layTo_length {W H x y : Nat} {l pix : List UInt8} (hx : x + 8 ≤ W) (hy : y + 8 ≤ H) (hp : pix.length = W * H) (hl : l.length = 64) : ∀ j, j ≤ 8 → (layTo W x y l pix j).length = W * H := by
  intro j
  induction j with
  | zero => intro _; exact hp
  | succ j ih =>
    intro h
    show (splice _ _ _).length = _
    rw [length_splice _ _ _ (by rw [lay_row hl (by omega), ih (by omega)]; exact lay_in hx hy (by omega)), ih (by omega)]
theorem u8s_splice (L c : List UInt8) (a : Nat) : splice (u8s L) a (u8s c) = u8s (splice L a c) := by
  simp only [splice, u8s, List.map_append, List.map_take, List.map_drop, List.length_map]
theorem intsIn_blk {w : World} {g : Nat} {l : List Int} (hb : Blk w g 3 (i64s l).toArray) (hl : l.length = 64) : IntsIn w (some ⟨g, 0, none⟩) 64 64 l :=
  ⟨hl, (fun h => by cases h), by have := src_blk hb 0 64 (by omega); rwa [List.drop_zero, List.take_of_length_le (by omega)] at this, fun _ ad e => by injection e with e; subst e; exact hb.lt⟩
theorem buildL_length {a bs : List UInt8} {b : List Int} {q : Int} (h : buildL a b q = some bs) : bs.length = a.length := by
  unfold buildL at h
  split at h
  · simp only [Option.map_eq_some_iff] at h
    obtain ⟨v, _, rfl⟩ := h
    exact cpL_length _ _ _
  · cases h
def BKPost (w : World) (bk g gq : Nat) (P : Nat → Prop) (W x y : Nat) (pix : List UInt8) (r : Option (List UInt8 × St)) (e : Ending) (w' : World) : Prop :=
  (r = none ∧ ∃ er : Int, (er == 0) = false ∧ e = .returned (.int .i64 er) ∧ Mod (fun j => j = g ∨ j = bk ∨ j = gq) w w') ∨
  ∃ (l : List UInt8) (s' : St), r = some (l, s') ∧ e = .returned (.int .i64 0) ∧ Blk w' gq 5 (u8s (layTo W x y l pix 8)).toArray ∧ SAt w' bk g P s' ∧ Mod (fun j => j = g ∨ j = bk ∨ j = gq) w w'
def BKCut (w : World) (bk g rb fr gq : Nat) (P : Nat → Prop) (pl x y : Nat) (vv : Array Value) (rv fc : Array Value) (pix : List UInt8) (r : Option (List UInt8 × St)) (v9 : Value) (wx : World) : Prop :=
  ∃ (l : List UInt8) (s' : St) (ob c : Nat), r = some (l, s') ∧ v9 = .slice (some ⟨ob, 0, none⟩) 64 c ∧ BytesIn wx (some ⟨ob, 0, none⟩) 64 c l ∧ 64 ≤ c ∧ l.length = 64 ∧ w.heap.size ≤ ob ∧ SAt wx bk g P s' ∧
    Sat (fun j => j = g ∨ j = bk ∨ j = gq) w wx [⟨w.heap.size + 1, 156, vv⟩, ⟨w.heap.size, 264, #[.int .i64 (pl : Int), .int .i64 (x : Int), .int .i64 (y : Int)]⟩, ⟨gq, 5, (u8s pix).toArray⟩] [⟨fr, 40, fc⟩, ⟨rb, 217, rv⟩]
def BKRel (w : World) (bk g rb fr gq : Nat) (P : Nat → Prop) (pl W x y : Nat) (vv : Array Value) (rv fc : Array Value) (pix l : List UInt8) (s' : St) (ob c : Nat) (v70 : Value) (wr : World) : Prop :=
  ∃ k : Nat, k ≤ 8 ∧ v70 = .int .i64 (k : Int) ∧ BytesIn wr (some ⟨ob, 0, none⟩) 64 c l ∧ SAt wr bk g P s' ∧
    Sat (fun j => j = g ∨ j = bk ∨ j = gq) w wr [⟨w.heap.size + 1, 156, vv⟩, ⟨w.heap.size, 264, #[.int .i64 (pl : Int), .int .i64 (x : Int), .int .i64 (y : Int)]⟩, ⟨gq, 5, (u8s (layTo W x y l pix k)).toArray⟩] [⟨fr, 40, fc⟩, ⟨rb, 217, rv⟩]

set_option maxRecDepth 100000 in
set_option maxHeartbeats 4000000 in
theorem dBlock (w : World) (bk g rb fr dg : Nat) (P : Nat → Prop) (hPg : ¬ P g) (hPb : ¬ P bk) (hPw : ∀ j, P j → j < w.heap.size) (hgb : g ≠ bk) (K : Bool) (N Q : Int) (s : St) (h : SAt w bk g P s)
    (hr : Blk w rb 217 (rdV K N Q bk g fr dg)) (hrg : rb ≠ g) (hrb : rb ≠ bk) (kind : Int)
    (W H n gq fo pl : Nat) (pix : List UInt8) (hsd : sidesB W H = true) (hn : n = W * H) (fc : Array Value) (hf : Blk w fr 40 fc) (hf0 : fc[fo]? = some (.int .i64 (W : Int))) (hf2 : fc[fo + 2]? = some (.slice (some ⟨gq, 0, none⟩) n n))
    (hpl : pl < 3) (hro : (rdV K N Q bk g fr dg)[5 + pl]? = some (.pointer (some ⟨fr, fo, none⟩)))
    (hq : Blk w gq 5 (u8s pix).toArray) (hql : pix.length = n) (hPq : ¬ P gq) (a1 : fr ≠ g) (a2 : fr ≠ bk) (a3 : gq ≠ g) (a4 : gq ≠ bk) (a5 : rb ≠ fr) (a6 : rb ≠ gq) (a7 : fr ≠ gq)
    (x y : Nat) (hx : x + 8 ≤ W) (hy : y + 8 ≤ H) (vx vy : Int) (gr : Option (List UInt8 × St))
    (hG : ∀ w1, Mod (fun _ => False) w w1 → Calls Tryz.prog 234 #[.pointer (some ⟨rb, 0, none⟩), .int .i64 kind, .agg #[.int .i64 (pl : Int), .int .i64 (x : Int), .int .i64 (y : Int)], .agg #[.int .i64 vx, .int .i64 vy]] w1 (GPost w1 bk g P gr)) :
    Calls Tryz.prog 188 #[.pointer (some ⟨rb, 0, none⟩), .int .i64 kind, .agg #[.int .i64 (pl : Int), .int .i64 (x : Int), .int .i64 (y : Int)], .agg #[.int .i64 vx, .int .i64 vy]] w (BKPost w bk g gq P W x y pix (sblk gr kind pl Q)) := by
  have hbw : bk < w.heap.size := h.1.lt
  have hgw : g < w.heap.size := by obtain ⟨_, _, _, hb, _⟩ := h.2.2; exact hb.lt
  have hrl := hr.lt
  have hql' := hq.lt
  have hfl := hf.lt
  obtain ⟨hnle, _⟩ := area_le hsd
  rw [← hn] at hnle
  have HS0 := ((((Sat.one (fun j => j = g ∨ j = bk ∨ j = gq) hr).add_old hf (by intro e he; simp only [List.nil_append, List.mem_cons, List.not_mem_nil, or_false] at he; subst he; exact a5)).add_own hq (.inl (.inr (.inr rfl))) (by intro e he; simp only [List.nil_append, List.mem_cons, List.not_mem_nil, or_false] at he; rcases he with rfl | rfl; exact a7; exact a6)).alloc 264 #[.int .i64 (pl : Int), .int .i64 (x : Int), .int .i64 (y : Int)] rfl).alloc (g := w.heap.size + 1) 156 #[.int .i64 vx, .int .i64 vy] (by simp)
  have hM0 : Mod (fun _ => False) w (((w.alloc (.cells #[.int .i64 (pl : Int), .int .i64 (x : Int), .int .i64 (y : Int)] 264)).alloc (.cells #[.int .i64 vx, .int .i64 vy] 156))) := ((Mod.refl (fun _ => False) w).alloc _).alloc _
  have hG0 := hG _ hM0
  have H0 := Lib.hid (And.intro HS0 (And.intro hPw (And.intro hf0 (And.intro hf2 (And.intro hro (And.intro hql (And.intro hsd hn)))))))
  clear HS0 h hr hPw hf hq hf0 hf2 hro hql hsd hn hM0 hG
  go_enter Tryz.func188, Tryz.ntmps188
  go_wp2_with fail
  refine hG0.mono ?_
  clear hG0
  rintro e w2 (⟨hr, er, her, rfl, hm⟩ | ⟨l0, s2, ob, hr, rfl, hbo, hl0, hob, hs2, hm⟩)
  · have HS2 := Sat.beside hm H0.out.1 (fun _ h => .inl (h.elim .inl (fun h => .inr (.inl h)))) (by intro e he; simp only [List.mem_append, List.mem_cons, List.not_mem_nil, or_false] at he; rcases he with (rfl | rfl | rfl) | rfl | rfl <;> (dsimp only; omega))
    subst hr
    have H2 := Lib.hid HS2.mod
    have her' : (er != 0) = true := by rw [bne, her]; rfl
    clear HS2 hm her
    go_wp2_with fail
    go_ret
    exact .inl ⟨rfl, er, by simpa using her', rfl, H2.out⟩
  · have HS2 := Sat.beside hm H0.out.1 (fun _ h => .inl (h.elim .inl (fun h => .inr (.inl h)))) (by intro e he; simp only [List.mem_append, List.mem_cons, List.not_mem_nil, or_false] at he; rcases he with (rfl | rfl | rfl) | rfl | rfl <;> (dsimp only; omega))
    subst hr
    have hob' : w.heap.size + 2 ≤ ob := by simpa using hob
    have H2 := Lib.hid (And.intro HS2 (And.intro hbo (And.intro hl0 hs2)))
    clear HS2 hm hbo hl0 hob hs2
    go_upto_if 29 with (fail)
    go_cut [9] (fun v9 wx => BKCut w bk g rb fr gq P pl x y #[.int .i64 vx, .int .i64 vy] (rdV K N Q bk g fr dg) fc pix (sblk (some (l0, s2)) kind pl Q) v9 wx)
    case first =>
      by_cases hk0 : kind = 0
      · have d1 : (kind != 0) = false := by simp [hk0]
        go_wp2_with fail
        go_meet
        exact ⟨l0, s2, ob, 64, by simp [sblk, hk0], rfl, blkIn H2.out.2.1 H2.out.2.2.1 (by omega), by omega, H2.out.2.2.1, by omega, H2.out.2.2.2, H2.out.1⟩
      · have d1 : (kind != 0) = true := by simp [hk0]
        have pb := H2.out.1.own_ 1 rfl
        dsimp only at pb
        have p0 : w2.cell? ⟨w.heap.size, 0, none⟩ = some (.int .i64 (pl : Int)) := pb.cell 0
        obtain ⟨tp, htp⟩ : ∃ tp, tp = if 0 < pl then 4 else 2 := ⟨_, rfl⟩
        have htp' : tp < 15 := by rw [htp]; split <;> omega
        have HT := Lib.hid htp
        clear htp pb
        go_upto_if 32 with (fail)
        go_cut [11] (fun v wx => v = .int .i64 (tp : Int) ∧ wx = w2)
        case first =>
          by_cases hp : 0 < pl
          · have d2 : decide (0 < (pl : Int)) = true := decide_eq_true (by omega)
            go_wp2_with fail
            go_meet
            exact ⟨by rw [HT.out, if_pos hp]; rfl, rfl⟩
          · have d2 : decide (0 < (pl : Int)) = false := decide_eq_false (by omega)
            go_wp2_with fail
            go_meet
            exact ⟨by rw [HT.out, if_neg hp]; rfl, rfl⟩
        case rest =>
          obtain ⟨rfl, rfl⟩ := hcut
          rename World => w2
          have rb0 := H2.out.1.old_ 1 rfl
          dsimp only at rb0
          have r3 : w2.cell? ⟨rb, 3, none⟩ = some (.pointer (some ⟨bk, 0, none⟩)) := rb0.cell 3
          have r4 : w2.cell? ⟨rb, 4, none⟩ = some (.pointer (some ⟨g, 0, none⟩)) := rb0.cell 4
          clear rb0
          go_wp2_with fail
          refine wp_region_plan [9] [] [0, 1, 2, 3, 4, 5, 6, 7, 8, 9, 10, 11, 12, 13, 14] (by kernel_rfl) (by kernel_rfl) (fun _ _ _ d _ h => by cases d <;> exact h) ?_
          iterate 9 (refine plan_still rfl rfl (fun K hK => ?_); go_simp; refine hK _ ?_; clear hK K)
          refine plan_loud rfl rfl (fun K hK => ?_)
          go_simp
          refine (qGet _ bk g P hPg hPb (fun j hj => by have := H0.out.2.1 j hj; have := H2.out.1.mod.size; simp; omega) hgb s2 tp htp' (H2.out.2.2.2.mod ((Mod.refl (fun _ => False) w2).drew) (fun h => h) (fun h => h) (fun _ _ h => h))).mono ?_
          rintro e w3 (⟨hr, er, her, rfl, hm⟩ | ⟨lv, s3, ob2, hr, rfl, hb2, hl2, hob2, hs3, hm⟩)
          · have hM3 : Mod (fun j => j = g ∨ j = bk) w2 w3 := ((Mod.refl (fun j => j = g ∨ j = bk) w2).drew).trans hm
            have HS3 := Sat.beside hM3 H2.out.1 (fun _ h => .inl (h.elim .inl (fun h => .inr (.inl h)))) (by intro e he; simp only [List.mem_append, List.mem_cons, List.not_mem_nil, or_false] at he; rcases he with (rfl | rfl | rfl) | rfl | rfl <;> (dsimp only; omega))
            have hR : sblk (some (l0, s2)) kind pl Q = none := by
              show (if kind = 0 then _ else _) = _
              rw [if_neg hk0, ← HT.out, hr]
              rfl
            have H3 := Lib.hid (And.intro HS3.mod hR)
            have her' : (er != 0) = true := by rw [bne, her]; rfl
            clear HS3 hR hm hr her r3 r4 hM3
            dsimp only []
            refine hK _ _ ?_
            clear hK K
            iterate 5 (refine plan_still rfl rfl (fun K hK => ?_); go_simp; refine hK _ ?_; clear hK K)
            refine plan_done ?_
            go_wp2_with fail
            go_ret
            exact .inl ⟨H3.out.2, er, by simpa using her', rfl, H3.out.1⟩
          · have hM3 : Mod (fun j => j = g ∨ j = bk) w2 w3 := ((Mod.refl (fun j => j = g ∨ j = bk) w2).drew).trans hm
            have HS3 := Sat.beside hM3 H2.out.1 (fun _ h => .inl (h.elim .inl (fun h => .inr (.inl h)))) (by intro e he; simp only [List.mem_append, List.mem_cons, List.not_mem_nil, or_false] at he; rcases he with (rfl | rfl | rfl) | rfl | rfl <;> (dsimp only; omega))
            have hR : sblk (some (l0, s2)) kind pl Q = (buildL l0 lv Q).map fun l => (l, s3) := by
              show (if kind = 0 then _ else _) = _
              rw [if_neg hk0, ← HT.out, hr]
              rfl
            have rb0 := HS3.old_ 1 rfl
            dsimp only at rb0
            have r2 : w3.cell? ⟨rb, 2, none⟩ = some (.int .i64 Q) := rb0.cell 2
            have hg3 := (blkIn H2.out.2.1 H2.out.2.2.1 (by omega)).mod hM3 (by intro _ ad e; injection e with e; subst e; dsimp only; omega)
            have hl3 := intsIn_blk hb2 hl2
            have H3 := Lib.hid (And.intro HS3 (And.intro hR (And.intro hs3 (And.intro hg3 hl3))))
            clear HS3 hR hm hr r3 r4 hs3 hb2 hob2 hM3 rb0 hg3 hl3
            dsimp only []
            refine hK _ _ ?_
            clear hK K
            iterate 5 (refine plan_still rfl rfl (fun K hK => ?_); go_simp; refine hK _ ?_; clear hK K)
            refine plan_done ?_
            go_wp2_with fail
            refine (decBuild _ (some ⟨ob, 0, none⟩) 64 64 l0 (some ⟨_, 0, none⟩) 64 64 lv Q H3.out.2.2.2.1 H3.out.2.2.2.2 (by omega) (by omega)).mono ?_
            rintro e w4 ⟨hm, ⟨hr, rfl⟩ | ⟨v, bs, hr, rfl, hbs⟩⟩
            · have hR' := H3.out.2.1
              rw [hr] at hR'
              have H4 := Lib.hid (And.intro (H3.out.1.quiet hm).mod hR')
              clear hm hr hR' r2
              go_wp2_with fail
              go_ret
              exact .inl ⟨H4.out.2, 1, by decide, rfl, H4.out.1⟩
            · have hbl : bs.length = 64 := (buildL_length hr).trans H2.out.2.2.1
              obtain ⟨g4, c4, rfl, hB4⟩ : ∃ g4 c4, v = .slice (some ⟨g4, 0, none⟩) bs.length c4 ∧ w3.heap.size ≤ g4 := by
                rcases hbs.2 with ⟨_, h0⟩ | ⟨g4, c4, cur, h1, h2, _⟩
                · omega
                · exact ⟨g4, c4, h1, h2⟩
              have hR' := H3.out.2.1
              rw [hr] at hR'
              have hc4 := Bytes.cap hbs
              have hin4 := hbs.in_
              rw [hbl] at hin4 hc4
              have hs4 := H3.out.2.2.1.mod hm (fun h => h) (fun h => h) (fun _ _ h => h)
              have hB4' : w.heap.size ≤ g4 := Nat.le_trans H3.out.1.mod.size hB4
              have H4 := Lib.hid (And.intro (H3.out.1.quiet hm) (And.intro hR' (And.intro hc4 (And.intro hin4 (And.intro hs4 (And.intro hbl hB4'))))))
              clear hm hr hR' r2 hbs hc4 hin4 hs4 hB4 hB4'
              go_wp2_with fail
              go_meet
              exact ⟨bs, s3, g4, c4, H4.out.2.1, rfl, H4.out.2.2.2.1, H4.out.2.2.1, H4.out.2.2.2.2.2.1, H4.out.2.2.2.2.2.2, H4.out.2.2.2.2.1, H4.out.1⟩
    case rest =>
      clear H2
      obtain ⟨l, s', ob2, c, hR, rfl, hin, hc, hll, hob2, hs, HS⟩ := hcut
      rename World => wx
      have rb0 := HS.old_ 1 rfl
      have pb := HS.own_ 1 rfl
      dsimp only at rb0 pb
      have p0 : wx.cell? ⟨w.heap.size, 0, none⟩ = some (.int .i64 (pl : Int)) := pb.cell 0
      have c5 : wx.cell? ⟨rb, 5 + pl, none⟩ = some (.pointer (some ⟨fr, fo, none⟩)) := (rb0.cell _).trans H0.out.2.2.2.2.1
      have i1 : (0 : Int) ≤ (pl : Int) := by omega
      have i2 : (pl : Int) < 3 := by omega
      have HD := HS.quiet ((Mod.refl (fun _ => False) wx).drew)
      have HX := Lib.hid (And.intro HD (And.intro hR (And.intro (hin.quiet ((Mod.refl (fun _ => False) wx).drew)) (hs.mod ((Mod.refl (fun _ => False) wx).drew) (fun h => h) (fun h => h) (fun _ _ h => h)))))
      clear HS hR hin hs HD rb0 pb
      go_wp2_with fail
      refine wp_region_plan [] [] [0, 1, 2, 3, 4, 5, 6, 7] (by kernel_rfl) (by kernel_rfl) (fun _ _ _ d _ h => by cases d <;> exact h) ?_
      iterate 8 (refine plan_still rfl rfl (fun K hK => ?_); go_simp; refine hK _ ?_; clear hK K)
      refine plan_done ?_
      clear p0 c5 i1 i2
      go_wp2_with fail
      go_loopw [70] (BKRel w bk g rb fr gq P pl W x y #[.int .i64 vx, .int .i64 vy] (rdV K N Q bk g fr dg) fc pix l s' ob2 c) (fun s _ => 8 - (intOf s).toNat)
      case atStart => exact ⟨0, by omega, rfl, HX.out.2.2.1, HX.out.2.2.2, HX.out.1⟩
      case round =>
        obtain ⟨k, hk, rfl, hin, hs, HS⟩ := hrel
        have rb0 := HS.old_ 0 rfl
        have pb := HS.own_ 1 rfl
        dsimp only at rb0 pb
        have p1 : wr.cell? ⟨w.heap.size, 1, none⟩ = some (.int .i64 (x : Int)) := pb.cell 1
        have p2 : wr.cell? ⟨w.heap.size, 2, none⟩ = some (.int .i64 (y : Int)) := pb.cell 2
        have f0 : wr.cell? ⟨fr, fo, none⟩ = some (.int .i64 (W : Int)) := (rb0.cell _).trans H0.out.2.2.1
        have f2 : wr.cell? ⟨fr, fo + 2, none⟩ = some (.slice (some ⟨gq, 0, none⟩) n n) := (rb0.cell _).trans H0.out.2.2.2.1
        have HK := Lib.hid (And.intro HS (And.intro hin hs))
        clear HS hin hs rb0 pb
        by_cases hlt : k < 8
        · have d1 : decide ((k : Int) < 8) = true := decide_eq_true (by omega)
          obtain ⟨m, hm⟩ : ∃ m, m = (y + k) * W := ⟨_, rfl⟩
          have hmn : m + x + 8 ≤ n := by rw [hm, H0.out.2.2.2.2.2.2.2]; exact lay_in hx hy hlt
          have HM := Lib.hid hm
          clear hm
          go_wp2_with fail
          refine wp_region_plan [] [] [0, 1, 2, 3, 4, 5, 6, 7, 8, 9, 10, 11, 12] (by kernel_rfl) (by kernel_rfl) (fun _ _ _ d _ h => by cases d <;> exact h) ?_
          iterate 13 (refine plan_still rfl rfl (fun K hK => ?_); go_simp; refine hK _ ?_; clear hK K)
          refine plan_done ?_
          obtain ⟨row, hrow⟩ : ∃ row, row = m + x := ⟨_, rfl⟩
          obtain ⟨k8, hk8⟩ : ∃ k8, k8 = k * 8 := ⟨_, rfl⟩
          have hW := (area_le H0.out.2.2.2.2.2.2.1).2
          have eR : IntKind.i64.wrap (IntKind.i64.wrap (IntKind.i64.wrap ((y : Int) + (k : Int)) * (W : Int)) + (x : Int)) = (row : Int) := by
            rw [IntWalk.i64_in ((y : Int) + (k : Int)) ⟨by omega, by omega⟩, show ((y : Int) + (k : Int)) * (W : Int) = (m : Int) by rw [HM.out]; push_cast; rfl, IntWalk.i64_in (m : Int) ⟨by omega, by omega⟩, IntWalk.i64_in _ ⟨by omega, by omega⟩, hrow]
            push_cast
            rfl
          have e1 : IntKind.i64.wrap ((row : Int) + 8) = (row : Int) + 8 := IntWalk.i64_in _ ⟨by omega, by omega⟩
          have e2 : IntKind.i64.wrap ((k : Int) * 8) = (k8 : Int) := by rw [IntWalk.i64_in _ ⟨by omega, by omega⟩]; omega
          have e3 : IntKind.i64.wrap ((k8 : Int) + 8) = (k8 : Int) + 8 := IntWalk.i64_in _ ⟨by omega, by omega⟩
          rw [eR]
          have q1 : (0 : Int) ≤ (row : Int) := by omega
          have q2 : (row : Int) ≤ (row : Int) + 8 := by omega
          have q3 : (row : Int) + 8 ≤ (n : Int) := by omega
          have q4 : ¬ n = row := by omega
          have q5 : (0 : Int) ≤ (k8 : Int) := by omega
          have q6 : (k8 : Int) ≤ (k8 : Int) + 8 := by omega
          have q7 : (k8 : Int) + 8 ≤ (c : Int) := by omega
          have q8 : ¬ c = k8 := by omega
          have HE := Lib.hid (And.intro e1 (And.intro e2 (And.intro e3 (And.intro hrow hk8))))
          clear e1 e2 e3 eR hrow hk8 p1 p2 f0
          go_upto_region 19 with (fail)
          have e1 := HE.out.1
          have e2 := HE.out.2.1
          have e3 := HE.out.2.2.1
          refine wp_region_plan [15] [] [0, 1, 2, 3, 4, 5, 6, 7, 8, 9, 10, 11, 12, 13, 14, 15] (by kernel_rfl) (by kernel_rfl) (fun _ _ _ d _ h => by cases d <;> exact h) ?_
          iterate 15 (refine plan_still rfl rfl (fun K hK => ?_); go_simp; refine hK _ ?_; clear hK K)
          have hMd : Mod (fun _ => False) wr wr.drew.drew := ((Mod.refl (fun _ => False) wr).drew).drew
          have hsrc := (HK.out.2.1.quiet hMd).part (lo := k8) (m := 8) (by have := HE.out.2.2.2.2; omega)
          rw [Nat.zero_add] at hsrc
          have hdst : Blk wr.drew.drew gq 5 (u8s (layTo W x y l pix k)).toArray := (HK.out.1.own_ 2 rfl).drew.drew
          have hll2 : (layTo W x y l pix k).length = n := (layTo_length hx hy (H0.out.2.2.2.2.2.1.trans H0.out.2.2.2.2.2.2.2) hll k (by omega)).trans H0.out.2.2.2.2.2.2.2.symm
          have hfit : row + 8 ≤ (u8s (layTo W x y l pix k)).length := by rw [u8s_length, hll2]; omega
          have hlr := lay_row hll hlt
          rw [← HE.out.2.2.2.2] at hlr
          have HY := Lib.hid (And.intro hsrc (And.intro hdst (And.intro hfit hlr)))
          clear hsrc hdst hll2 hfit hlr hMd
          refine plan_loud rfl rfl (fun K hK => ?_)
          refine step_copy_blk rfl (.tmp 92) (.tmp 99) _ _ rfl 5 Tryz.underlying36 (by kernel_rfl) (some ⟨gq, row, none⟩) 8 (n - row) (some ⟨ob2, k8, none⟩) 8 (c - k8) _ (by simp [Act.eval]; omega) (by simp [Act.eval]; omega) HY.out.1 gq row _ 5 HY.out.2.1 8 rfl (fun _ => rfl) HY.out.2.2.1 (u8s_one _) ?_
          intro w5 hb5 hm5
          have HB5 := Lib.hid (And.intro hb5 hm5)
          clear hb5 hm5
          refine hK _ _ ?_
          clear hK K
          refine plan_done ?_
          clear e1 e2 e3
          go_wp2_with fail
          go_roundw
          case rel =>
            have hb5 := HB5.out.1
            have hm5 := HB5.out.2
            rw [List.take_of_length_le (by rw [u8s_length, HY.out.2.2.2]; exact Nat.le_refl _), u8s_splice] at hb5
            have hly : layTo W x y l pix (k + 1) = splice (layTo W x y l pix k) row (List.take 8 (List.drop k8 l)) := by
              show splice _ _ _ = _
              rw [HE.out.2.2.2.1, HE.out.2.2.2.2, HM.out]
            have hmm : Mod (· = gq) wr w5 := (((Mod.refl (· = gq) wr).drew).drew).trans hm5
            refine ⟨k + 1, by omega, by go_num, HK.out.2.1.mod hmm (by intro _ ad e; injection e with e; subst e; dsimp only; omega), HK.out.2.2.mod hmm (fun h => a4 h.symm) (fun h => a3 h.symm) (fun j hj e => hPq (e ▸ hj)), ?_⟩
            rw [hly]
            exact Sat.turn hmm HK.out.1 hb5 (.there (.there .here))
          case measure => simp [intOf]; omega
        · obtain rfl : k = 8 := by omega
          go_wp2_with fail
          go_ret
          exact .inr ⟨l, s', HX.out.2.1, rfl, HK.out.1.own_ 2 rfl, HK.out.2.2, HK.out.1.mod⟩
end Go.Proofs.YtmkopcojnibhlaaGreatDoor
