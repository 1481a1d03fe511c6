/-
  decoder: the guess of a block by its mode.
-/
import Derived.Test.YteppnjgfebcmjaaGreatM34
import Derived.Test.YteppnjgfebcmjaaGreatM38
namespace Go.Proofs.YteppnjgfebcmjaaGreat
open Go.RowKit

def GPost (w : World) (bk g : Nat) (P : Nat → Prop) (r : Option (List UInt8 × St)) (e : Ending) (w' : World) : Prop :=
  (r = none ∧ ∃ er : Int, (er == 0) = false ∧ e = .returned (.tuple #[.slice none 0 0, .int .i64 er]) ∧ Mod (fun j => j = g ∨ j = bk) w w') ∨
  ∃ (l : List UInt8) (s' : St) (ob : Nat), r = some (l, s') ∧ e = .returned (.tuple #[.slice (some ⟨ob, 0, none⟩) 64 64, .int .i64 0]) ∧ Blk w' ob 5 (u8s l).toArray ∧ l.length = 64 ∧ w.heap.size ≤ ob ∧ SAt w' bk g P s' ∧ Mod (fun j => j = g ∨ j = bk) w w'
theorem guessL_length (W : Nat) (pix : List UInt8) (x y m : Nat) : (guessL W pix x y m).length = 64 := by simp [guessL]
theorem mvL_length (W H : Nat) (pix : List UInt8) (x y : Int) (n : Nat) (vx vy : Int) : (mvL W H pix x y n vx vy).length = n * n := by simp [mvL]
theorem sone_lt {t n : Nat} {s s' : St} {v : Nat} (h : sone t n s = some (v, s')) : v < n := by
  unfold sone at h
  simp only [Option.bind_eq_some_iff] at h
  obtain ⟨y, _, h2⟩ := h
  split at h2
  · cases h2
  · injection h2 with h2
    subst h2
    omega
def sguess (W : Nat) (pix : List UInt8) (x y : Nat) (s : St) : Option (List UInt8 × St) := (sone 0 4 s).map fun m => (guessL W pix x y m.1, m.2)

set_option maxRecDepth 100000 in
set_option maxHeartbeats 4000000 in
theorem gOwn (w : World) (bk g rb fr dg : Nat) (P : Nat → Prop) (hPg : ¬ P g) (hPb : ¬ P bk) (hPw : ∀ j, P j → j < w.heap.size) (hgb : g ≠ bk) (K : Bool) (N Q : Int) (s : St) (h : SAt w bk g P s)
    (hr : Blk w rb 110 (rdV K N Q bk g fr dg)) (hrg : rb ≠ g) (hrb : rb ≠ bk)
    (W H n gq fo pl : Nat) (pix : List UInt8) (hsd : sidesB W H = true) (hn : n = W * H) (fc : Array Value) (hf : Blk w fr 37 fc) (hf0 : fc[fo]? = some (.int .i64 (W : Int))) (hf1 : fc[fo + 1]? = some (.int .i64 (H : Int))) (hf2 : fc[fo + 2]? = some (.slice (some ⟨gq, 0, none⟩) n n))
    (hpl : pl < 3) (hro : (rdV K N Q bk g fr dg)[5 + pl]? = some (.pointer (some ⟨fr, fo, none⟩)))
    (hq : Blk w gq 5 (u8s pix).toArray) (hql : pix.length = n) (a1 : fr ≠ g) (a2 : fr ≠ bk) (a3 : gq ≠ g) (a4 : gq ≠ bk) (a5 : rb ≠ fr) (a6 : rb ≠ gq) (a7 : fr ≠ gq)
    (x y : Nat) (hx : x + 8 ≤ W) (hy : y + 8 ≤ H) (vx vy : Int) :
    Calls Tryz.prog 136 #[.pointer (some ⟨rb, 0, none⟩), .int .i64 2, .agg #[.int .i64 (pl : Int), .int .i64 (x : Int), .int .i64 (y : Int)], .agg #[.int .i64 vx, .int .i64 vy]] w (GPost w bk g P (sguess W pix x y s)) := by
  have hbw : bk < w.heap.size := h.1.lt
  have hgw : g < w.heap.size := by obtain ⟨_, _, _, hb, _⟩ := h.2.2; exact hb.lt
  obtain ⟨hnle, _⟩ := area_le hsd
  rw [← hn] at hnle
  have HS0 := (((((Sat.one (fun j => j = g ∨ j = bk) hr).add_old hf (by intro e he; simp only [List.nil_append, List.mem_cons, List.not_mem_nil, or_false] at he; subst he; exact a5)).add_old hq (by intro e he; simp only [List.nil_append, List.mem_cons, List.not_mem_nil, or_false] at he; rcases he with rfl | rfl; exact a7; exact a6)).alloc 174 #[.int .i64 (pl : Int), .int .i64 (x : Int), .int .i64 (y : Int)] rfl).alloc (g := w.heap.size + 1) 125 #[.int .i64 vx, .int .i64 vy] (by simp)).drew
  have h1 : SAt (((w.alloc (.cells #[.int .i64 (pl : Int), .int .i64 (x : Int), .int .i64 (y : Int)] 174)).alloc (.cells #[.int .i64 vx, .int .i64 vy] 125)).drew) bk g P s := h.mod ((((Mod.refl (fun _ => False) w).alloc _).alloc _).drew) (fun h => h) (fun h => h) (fun _ _ h => h)
  have r3 : w.cell? ⟨rb, 3, none⟩ = some (.pointer (some ⟨bk, 0, none⟩)) := hr.cell 3
  have r4 : w.cell? ⟨rb, 4, none⟩ = some (.pointer (some ⟨g, 0, none⟩)) := hr.cell 4
  have hrl := hr.lt
  have H0 := Lib.hid (And.intro HS0 (And.intro h1 (And.intro hPw (And.intro hf0 (And.intro hf1 (And.intro hf2 (And.intro hro (And.intro hql (And.intro hsd hn)))))))))
  clear HS0 h1 h hr hPw hf hq hf0 hf1 hf2 hro hql hsd hn
  go_enter Tryz.func136, Tryz.ntmps136
  go_wp2_with fail
  refine wp_region_plan [8] [] [0, 1, 2, 3, 4, 5, 6, 7, 8, 9, 10, 11, 12, 13] (by kernel_rfl) (by kernel_rfl) (fun _ _ _ d _ h => by cases d <;> exact h) ?_
  iterate 8 (refine plan_still rfl rfl (fun K hK => ?_); go_simp; refine hK _ ?_; clear hK K)
  refine plan_loud rfl rfl (fun K hK => ?_)
  go_simp
  refine (bookOne4 _ bk g P hPg hPb (fun j hj => by have := H0.out.2.2.1 j hj; simp; omega) hgb s 0 (by omega) H0.out.2.1).mono ?_
  rintro e w2 (⟨hr, er, her, rfl, hm⟩ | ⟨v, s2, hr, rfl, hs2, hm⟩)
  · have HS2 := Sat.beside hm H0.out.1 (fun _ h => .inl h) (by intro e he; simp only [List.mem_append, List.mem_cons, List.not_mem_nil, or_false] at he; rcases he with (rfl | rfl) | rfl | rfl | rfl <;> (dsimp only; omega))
    have hR : sguess W pix x y s = none := by unfold sguess; rw [hr]; rfl
    have H2 := Lib.hid (And.intro HS2.mod hR)
    have her' : (er != 0) = true := by rw [bne, her]; rfl
    clear HS2 hR hm hr her r3 r4
    dsimp only []
    refine hK _ _ ?_
    clear hK K
    iterate 5 (refine plan_still rfl rfl (fun K hK => ?_); go_simp; refine hK _ ?_; clear hK K)
    refine plan_done ?_
    go_wp2_with fail
    go_ret2
    exact .inl ⟨H2.out.2, er, by simpa using her', rfl, H2.out.1⟩
  · have HS2 := Sat.beside hm H0.out.1 (fun _ h => .inl h) (by intro e he; simp only [List.mem_append, List.mem_cons, List.not_mem_nil, or_false] at he; rcases he with (rfl | rfl) | rfl | rfl | rfl <;> (dsimp only; omega))
    have hv := sone_lt hr
    have hR : sguess W pix x y s = some (guessL W pix x y v, s2) := by unfold sguess; rw [hr]; rfl
    have hb0 := HS2.old_ 2 rfl
    have hb1 := HS2.old_ 1 rfl
    have hb2 := HS2.old_ 0 rfl
    dsimp only at hb0 hb1 hb2
    have c5 : w2.cell? ⟨rb, 5 + pl, none⟩ = some (.pointer (some ⟨fr, fo, none⟩)) := (hb0.cell _).trans H0.out.2.2.2.2.2.2.1
    have f0 : w2.cell? ⟨fr, fo, none⟩ = some (.int .i64 (W : Int)) := (hb1.cell _).trans H0.out.2.2.2.1
    have f1 : w2.cell? ⟨fr, fo + 1, none⟩ = some (.int .i64 (H : Int)) := (hb1.cell _).trans H0.out.2.2.2.2.1
    have f2 : w2.cell? ⟨fr, fo + 2, none⟩ = some (.slice (some ⟨gq, 0, none⟩) n n) := (hb1.cell _).trans H0.out.2.2.2.2.2.1
    have pb := HS2.own_ 1 rfl
    dsimp only at pb
    have p0 : w2.cell? ⟨w.heap.size, 0, none⟩ = some (.int .i64 (pl : Int)) := pb.cell 0
    have p1 : w2.cell? ⟨w.heap.size, 1, none⟩ = some (.int .i64 (x : Int)) := pb.cell 1
    have p2 : w2.cell? ⟨w.heap.size, 2, none⟩ = some (.int .i64 (y : Int)) := pb.cell 2
    have i1 : (0 : Int) ≤ (pl : Int) := by omega
    have i2 : (pl : Int) < 3 := by omega
    have H2 := Lib.hid (And.intro HS2 (And.intro hR (And.intro hs2 (blkIn hb2 H0.out.2.2.2.2.2.2.2.1 hnle))))
    clear HS2 hR hm hr r3 r4 hs2 hb0 hb1 hb2 pb
    dsimp only []
    refine hK _ _ ?_
    clear hK K
    iterate 5 (refine plan_still rfl rfl (fun K hK => ?_); go_simp; refine hK _ ?_; clear hK K)
    refine plan_done ?_
    go_wp2_with fail
    refine wp_region_plan [14] [] [0, 1, 2, 3, 4, 5, 6, 7, 8, 9, 10, 11, 12, 13, 14, 15, 16, 17, 18] (by kernel_rfl) (by kernel_rfl) (fun _ _ _ d _ h => by cases d <;> exact h) ?_
    iterate 14 (refine plan_still rfl rfl (fun K hK => ?_); go_simp; refine hK _ ?_; clear hK K)
    refine plan_loud rfl rfl (fun K hK => ?_)
    go_simp
    refine (iGuess _ W H _ n n pix H0.out.2.2.2.2.2.2.2.2.1 H0.out.2.2.2.2.2.2.2.2.2 (H2.out.2.2.2.quiet ((Mod.refl (fun _ => False) _).drew)) (Nat.le_refl _) x y v hx hy hv).mono ?_
    rintro e w3 ⟨ob, rfl, hbo, hob, hm3⟩
    have hM : Mod (fun _ => False) w2 w3 := ((Mod.refl (fun _ => False) w2).drew).trans hm3
    have HS3 := H2.out.1.quiet hM
    have hs3 := H2.out.2.2.1.mod hM (fun h => h) (fun h => h) (fun _ _ h => h)
    have H3 := Lib.hid (And.intro HS3.mod (And.intro hs3 (And.intro hbo (Nat.le_trans H2.out.1.mod.size hob))))
    clear HS3 hs3 hbo hob hm3 hM c5 f0 f1 f2 p0 p1 p2
    dsimp only []
    refine hK _ _ ?_
    clear hK K
    iterate 4 (refine plan_still rfl rfl (fun K hK => ?_); go_simp; refine hK _ ?_; clear hK K)
    refine plan_done ?_
    go_wp2_with fail
    go_ret2
    exact .inr ⟨_, s2, ob, H2.out.2.1, rfl, H3.out.2.2.1, guessL_length _ _ _ _ _, H3.out.2.2.2, H3.out.2.1, H3.out.1⟩
end Go.Proofs.YteppnjgfebcmjaaGreat

/-
  decoder: the guess of a block out of the frame ahead.
-/
namespace Go.Proofs.YteppnjgfebcmjaaGreat
open Go.RowKit

def smoved (W H : Nat) (pix : List UInt8) (x y pl : Nat) (vx vy : Int) : List UInt8 := mvL W H pix x y 8 (if 0 < pl then vx / 2 else vx) (if 0 < pl then vy / 2 else vy)
theorem smoved_length (W H : Nat) (pix : List UInt8) (x y pl : Nat) (vx vy : Int) : (smoved W H pix x y pl vx vy).length = 64 := by unfold smoved; rw [mvL_length]

set_option maxRecDepth 100000 in
set_option maxHeartbeats 4000000 in
theorem gMoved (w : World) (bk g rb fr dg : Nat) (P : Nat → Prop) (K : Bool) (N Q : Int) (s : St) (h : SAt w bk g P s) (hPw : ∀ j, P j → j < w.heap.size)
    (hr : Blk w rb 110 (rdV K N Q bk g fr dg)) (kind : Int) (hk : (kind == 2) = false)
    (W H n aq ao pl : Nat) (pix : List UInt8) (hsd : sidesB W H = true) (hn : n = W * H) (dc : Array Value) (hd : Blk w dg 60 dc) (hd0 : dc[ao]? = some (.int .i64 (W : Int))) (hd1 : dc[ao + 1]? = some (.int .i64 (H : Int))) (hd2 : dc[ao + 2]? = some (.slice (some ⟨aq, 0, none⟩) n n))
    (hpl : pl < 3) (hro : (rdV K N Q bk g fr dg)[8 + pl]? = some (.pointer (some ⟨dg, ao, none⟩)))
    (hq : Blk w aq 5 (u8s pix).toArray) (hql : pix.length = n) (a5 : rb ≠ dg) (a6 : rb ≠ aq) (a7 : dg ≠ aq)
    (x y : Nat) (hx : x + 8 ≤ W) (hy : y + 8 ≤ H) (vx vy : Int) (hvx : -128 ≤ vx ∧ vx ≤ 128) (hvy : -128 ≤ vy ∧ vy ≤ 128) :
    Calls Tryz.prog 136 #[.pointer (some ⟨rb, 0, none⟩), .int .i64 kind, .agg #[.int .i64 (pl : Int), .int .i64 (x : Int), .int .i64 (y : Int)], .agg #[.int .i64 vx, .int .i64 vy]] w (GPost w bk g P (some (smoved W H pix x y pl vx vy, s))) := by
  obtain ⟨hnle, hW1, hW2, hH1, hH2, _⟩ := area_le hsd
  rw [← hn] at hnle
  obtain ⟨hvx1, hvx2⟩ := hvx
  obtain ⟨hvy1, hvy2⟩ := hvy
  have HS0 := ((((Sat.one (fun _ => False) hr).add_old hd (by intro e he; simp only [List.nil_append, List.mem_cons, List.not_mem_nil, or_false] at he; subst he; exact a5)).add_old hq (by intro e he; simp only [List.nil_append, List.mem_cons, List.not_mem_nil, or_false] at he; rcases he with rfl | rfl; exact a7; exact a6)).alloc 174 #[.int .i64 (pl : Int), .int .i64 (x : Int), .int .i64 (y : Int)] rfl).alloc (g := w.heap.size + 1) 125 #[.int .i64 vx, .int .i64 vy] (by simp)
  have hrl := hr.lt
  have H0 := Lib.hid (And.intro HS0 (And.intro h (And.intro hPw (And.intro hd0 (And.intro hd1 (And.intro hd2 (And.intro hro (And.intro hql (And.intro hsd hn)))))))))
  clear HS0 h hr hPw hd hq hd0 hd1 hd2 hro hql hsd hn
  obtain ⟨ux, hux⟩ : ∃ ux, ux = if 0 < pl then vx / 2 else vx := ⟨_, rfl⟩
  obtain ⟨uy, huy⟩ : ∃ uy, uy = if 0 < pl then vy / 2 else vy := ⟨_, rfl⟩
  have HU := Lib.hid (And.intro hux huy)
  have bx : -128 ≤ ux ∧ ux ≤ 128 := by rw [hux]; split <;> omega
  have by_ : -128 ≤ uy ∧ uy ≤ 128 := by rw [huy]; split <;> omega
  clear hux huy
  go_enter Tryz.func136, Tryz.ntmps136
  go_upto_if 48 with (fail)
  go_cut [] (fun wx => Sat (fun _ => False) w wx [⟨w.heap.size + 1, 125, #[.int .i64 ux, .int .i64 uy]⟩, ⟨w.heap.size, 174, #[.int .i64 (pl : Int), .int .i64 (x : Int), .int .i64 (y : Int)]⟩] [⟨aq, 5, (u8s pix).toArray⟩, ⟨dg, 60, dc⟩, ⟨rb, 110, rdV K N Q bk g fr dg⟩])
  case first =>
    by_cases hp : 0 < pl
    · have d1 : decide (0 < (pl : Int)) = true := decide_eq_true (by omega)
      go_wp2_with fail
      refine (mChroma _ vx vy ⟨by omega, by omega⟩ ⟨by omega, by omega⟩).mono ?_
      rintro e w2 ⟨rfl, hm⟩
      have HS2 := H0.out.1.quiet hm
      obtain ⟨vc, vf⟩ := (HS2.own_ 0 rfl).both
      have vl := (HS2.own_ 0 rfl).lt
      have H2 := Lib.hid HS2
      clear HS2 hm
      go_wp2_with fail
      go_meet
      have e1 : ux = vx / 2 := HU.out.1.trans (if_pos hp)
      have e2 : uy = vy / 2 := HU.out.2.trans (if_pos hp)
      rw [e1, e2]
      exact (H2.out.put (g := w.heap.size + 1) (i := 0) (u := .int .i64 (vx / 2)) (.here rfl)).put (g := w.heap.size + 1) (i := 1) (u := .int .i64 (vy / 2)) (.here rfl)
    · have d1 : decide (0 < (pl : Int)) = false := decide_eq_false (by omega)
      go_wp2_with fail
      go_meet
      have e1 : ux = vx := HU.out.1.trans (if_neg hp)
      have e2 : uy = vy := HU.out.2.trans (if_neg hp)
      rw [e1, e2]
      exact H0.out.1
  case rest =>
    rename World => w2
    have hb0 := hcut.old_ 2 rfl
    have hb1 := hcut.old_ 1 rfl
    have hb2 := hcut.old_ 0 rfl
    have pb := hcut.own_ 1 rfl
    have vb := hcut.own_ 0 rfl
    dsimp only at hb0 hb1 hb2 pb vb
    have c8 : w2.cell? ⟨rb, 8 + pl, none⟩ = some (.pointer (some ⟨dg, ao, none⟩)) := (hb0.cell _).trans H0.out.2.2.2.2.2.2.1
    have f0 : w2.cell? ⟨dg, ao, none⟩ = some (.int .i64 (W : Int)) := (hb1.cell _).trans H0.out.2.2.2.1
    have f1 : w2.cell? ⟨dg, ao + 1, none⟩ = some (.int .i64 (H : Int)) := (hb1.cell _).trans H0.out.2.2.2.2.1
    have f2 : w2.cell? ⟨dg, ao + 2, none⟩ = some (.slice (some ⟨aq, 0, none⟩) n n) := (hb1.cell _).trans H0.out.2.2.2.2.2.1
    have p0 : w2.cell? ⟨w.heap.size, 0, none⟩ = some (.int .i64 (pl : Int)) := pb.cell 0
    have p1 : w2.cell? ⟨w.heap.size, 1, none⟩ = some (.int .i64 (x : Int)) := pb.cell 1
    have p2 : w2.cell? ⟨w.heap.size, 2, none⟩ = some (.int .i64 (y : Int)) := pb.cell 2
    have v0 : w2.cell? ⟨w.heap.size + 1, 0, none⟩ = some (.int .i64 ux) := vb.cell 0
    have v1 : w2.cell? ⟨w.heap.size + 1, 1, none⟩ = some (.int .i64 uy) := vb.cell 1
    have i1 : (0 : Int) ≤ (pl : Int) := by omega
    have i2 : (pl : Int) < 3 := by omega
    have H2 := Lib.hid (And.intro hcut (blkIn hb2 H0.out.2.2.2.2.2.2.2.1 hnle))
    clear hcut hb0 hb1 hb2 pb vb
    go_wp2_with fail
    refine wp_region_plan [14] [] [0, 1, 2, 3, 4, 5, 6, 7, 8, 9, 10, 11, 12, 13, 14, 15, 16] (by kernel_rfl) (by kernel_rfl) (fun _ _ _ d _ h => by cases d <;> exact h) ?_
    iterate 14 (refine plan_still rfl rfl (fun K hK => ?_); go_simp; refine hK _ ?_; clear hK K)
    refine plan_loud rfl rfl (fun K hK => ?_)
    go_simp
    refine (mBlock _ W H _ n n pix H0.out.2.2.2.2.2.2.2.2.1 H0.out.2.2.2.2.2.2.2.2.2 (by rw [← H0.out.2.2.2.2.2.2.2.2.2]; exact H2.out.2.quiet ((Mod.refl (fun _ => False) _).drew)) x y ux uy 8 ⟨by omega, by omega⟩ ⟨by omega, by omega⟩ ⟨by omega, by omega⟩ ⟨by omega, by omega⟩ ⟨by omega, by omega⟩).mono ?_
    rintro e w3 ⟨ob, N8, hN8, rfl, hbo, hob, hm3⟩
    obtain rfl : N8 = 64 := hN8
    have hM : Mod (fun _ => False) w w3 := H2.out.1.mod.trans (((Mod.refl (fun _ => False) w2).drew).trans hm3)
    have hs3 := H0.out.2.1.mod hM (fun h => h) (fun h => h) (fun _ _ h => h)
    have H3 := Lib.hid (And.intro hM (And.intro hs3 (And.intro hbo (Nat.le_trans H2.out.1.mod.size hob))))
    clear hs3 hbo hob hm3 hM c8 f0 f1 f2 p0 p1 p2 v0 v1
    dsimp only []
    refine hK _ _ ?_
    clear hK K
    iterate 2 (refine plan_still rfl rfl (fun K hK => ?_); go_simp; refine hK _ ?_; clear hK K)
    refine plan_done ?_
    go_wp2_with fail
    go_ret2
    refine .inr ⟨_, s, ob, rfl, rfl, ?_, smoved_length _ _ _ _ _ _ _ _, H3.out.2.2.2, H3.out.2.1, H3.out.1.mono (fun _ h => h.elim)⟩
    have hb := H3.out.2.2.1
    unfold smoved
    rw [← HU.out.1, ← HU.out.2]
    exact hb
end Go.Proofs.YteppnjgfebcmjaaGreat
