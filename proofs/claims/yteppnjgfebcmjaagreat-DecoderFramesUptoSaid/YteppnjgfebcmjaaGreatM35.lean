/-
  The reference's decoder: Lay.
-/
import Derived.Test.YteppnjgfebcmjaaGreatM34
import Derived.Test.YteppnjgfebcmjaaGreatM16
import Derived.Test.YteppnjgfebcmjaaGreatM18
namespace Go.Proofs.YteppnjgfebcmjaaGreat
open Go.RowKit

theorem cells93 {w : World} {p q : Nat} {t u : TypeId} {a0 a1 a2 a3 a4 a5 a6 a7 a8 c0 c1 c2 : Value} (h : Blk w p t #[a0, a1, a2, a3, a4, a5, a6, a7, a8]) (k : Blk w q u #[c0, c1, c2]) :
    w.cell? ⟨p, 0, none⟩ = some a0 ∧ w.cell? ⟨p, 1, none⟩ = some a1 ∧ w.cell? ⟨p, 2, none⟩ = some a2 ∧ w.cell? ⟨p, 3, none⟩ = some a3 ∧ w.cell? ⟨p, 4, none⟩ = some a4 ∧ w.cell? ⟨p, 5, none⟩ = some a5 ∧ w.cell? ⟨p, 6, none⟩ = some a6 ∧ w.cell? ⟨p, 7, none⟩ = some a7 ∧ w.cell? ⟨p, 8, none⟩ = some a8 ∧ w.cell? ⟨q, 0, none⟩ = some c0 ∧ w.cell? ⟨q, 1, none⟩ = some c1 ∧ w.cell? ⟨q, 2, none⟩ = some c2 :=
  ⟨h.cell 0, h.cell 1, h.cell 2, h.cell 3, h.cell 4, h.cell 5, h.cell 6, h.cell 7, h.cell 8, k.cell 0, k.cell 1, k.cell 2⟩
theorem cells93_put {w : World} {p q z : Nat} {t u : TypeId} {a0 a1 a2 a3 a4 a5 a6 a7 a8 c0 c1 c2 : Value} (h : Blk w p t #[a0, a1, a2, a3, a4, a5, a6, a7, a8]) (k : Blk w q u #[c0, c1, c2]) (n1 : p ≠ z) (n2 : q ≠ z) (u0 u1 u2 : Value) :
    (((w.setCell ⟨z, 0, none⟩ u0).setCell ⟨z, 1, none⟩ u1).setCell ⟨z, 2, none⟩ u2).cell? ⟨p, 0, none⟩ = some a0 ∧ (((w.setCell ⟨z, 0, none⟩ u0).setCell ⟨z, 1, none⟩ u1).setCell ⟨z, 2, none⟩ u2).cell? ⟨p, 1, none⟩ = some a1 ∧ (((w.setCell ⟨z, 0, none⟩ u0).setCell ⟨z, 1, none⟩ u1).setCell ⟨z, 2, none⟩ u2).cell? ⟨p, 2, none⟩ = some a2 ∧ (((w.setCell ⟨z, 0, none⟩ u0).setCell ⟨z, 1, none⟩ u1).setCell ⟨z, 2, none⟩ u2).cell? ⟨p, 3, none⟩ = some a3 ∧ (((w.setCell ⟨z, 0, none⟩ u0).setCell ⟨z, 1, none⟩ u1).setCell ⟨z, 2, none⟩ u2).cell? ⟨p, 4, none⟩ = some a4 ∧ (((w.setCell ⟨z, 0, none⟩ u0).setCell ⟨z, 1, none⟩ u1).setCell ⟨z, 2, none⟩ u2).cell? ⟨p, 5, none⟩ = some a5 ∧ (((w.setCell ⟨z, 0, none⟩ u0).setCell ⟨z, 1, none⟩ u1).setCell ⟨z, 2, none⟩ u2).cell? ⟨p, 6, none⟩ = some a6 ∧ (((w.setCell ⟨z, 0, none⟩ u0).setCell ⟨z, 1, none⟩ u1).setCell ⟨z, 2, none⟩ u2).cell? ⟨p, 7, none⟩ = some a7 ∧ (((w.setCell ⟨z, 0, none⟩ u0).setCell ⟨z, 1, none⟩ u1).setCell ⟨z, 2, none⟩ u2).cell? ⟨p, 8, none⟩ = some a8 ∧ (((w.setCell ⟨z, 0, none⟩ u0).setCell ⟨z, 1, none⟩ u1).setCell ⟨z, 2, none⟩ u2).cell? ⟨q, 0, none⟩ = some c0 ∧ (((w.setCell ⟨z, 0, none⟩ u0).setCell ⟨z, 1, none⟩ u1).setCell ⟨z, 2, none⟩ u2).cell? ⟨q, 1, none⟩ = some c1 ∧ (((w.setCell ⟨z, 0, none⟩ u0).setCell ⟨z, 1, none⟩ u1).setCell ⟨z, 2, none⟩ u2).cell? ⟨q, 2, none⟩ = some c2 :=
  cells93 (((h.far (p := ⟨z, 0, none⟩) n1 u0).far (p := ⟨z, 1, none⟩) n1 u1).far (p := ⟨z, 2, none⟩) n1 u2) (((k.far (p := ⟨z, 0, none⟩) n2 u0).far (p := ⟨z, 1, none⟩) n2 u1).far (p := ⟨z, 2, none⟩) n2 u2)
def LyCut (w : World) (d : Dim) (b0 k0 b1 k1 b2 k2 pl : Nat) (x y : Int) (l : List UInt8) (v7 : Value) (wx : World) : Prop :=
  ∃ pb b k, v7 = .pointer (some ⟨pb, 0, none⟩) ∧ GrowS w wx [⟨pb, 35, plV d pl b k⟩, ⟨w.heap.size + 1 + 1, 37, #[.int .i64 0, .int .i64 0, .slice none 0 0, .int .i64 0, .int .i64 0, .slice none 0 0, .int .i64 0, .int .i64 0, .slice none 0 0]⟩, ⟨w.heap.size + 1, 131, #[.int .i64 (pl : Int), .int .i64 x, .int .i64 y]⟩, ⟨w.heap.size, 37, #[.int .i64 (d.W : Int), .int .i64 (d.H : Int), .slice (some ⟨b0, 0, none⟩) d.nY k0, .int .i64 (d.W2 : Int), .int .i64 (d.H2 : Int), .slice (some ⟨b1, 0, none⟩) d.nC k1, .int .i64 (d.W2 : Int), .int .i64 (d.H2 : Int), .slice (some ⟨b2, 0, none⟩) d.nC k2]⟩] (.slice (some ⟨b, 0, none⟩) (d.nOf pl) k) l

set_option maxRecDepth 100000 in
set_option maxHeartbeats 4000000 in
theorem fLayF (w : World) (B : Nat) (hB : B ≤ w.heap.size) (d : Dim) (hd : d.Ok) (hs : d.nY ≤ 1048576) (b0 k0 b1 k1 b2 k2 : Nat) (f : Pix) (hf : FrB w B d b0 k0 b1 k1 b2 k2 f) (pl x y : Nat) (hpl : pl < 3) (hx : x + 8 ≤ d.wOf pl) (hy : y + 8 ≤ d.hOf pl) (C : Option Addr) (cc : Nat) (l : List UInt8) (hl : BytesIn w C 64 cc l) :
    Calls Tryz.prog 73 #[.agg (frV d b0 k0 b1 k1 b2 k2).toArray, .agg #[.int .i64 (pl : Int), .int .i64 (x : Int), .int .i64 (y : Int)], .slice C 64 cc] w fun e w' => ∃ v, e = .returned v ∧ FrIn w' B d v (f.set pl (layTo (d.wOf pl) x y l (f.get pl) 8)) ∧ Mod (fun _ => False) w w' := by
  have h0 := (((Sat.nil (fun _ => False) w).alloc 37 #[.int .i64 (d.W : Int), .int .i64 (d.H : Int), .slice (some ⟨b0, 0, none⟩) d.nY k0, .int .i64 (d.W2 : Int), .int .i64 (d.H2 : Int), .slice (some ⟨b1, 0, none⟩) d.nC k1, .int .i64 (d.W2 : Int), .int .i64 (d.H2 : Int), .slice (some ⟨b2, 0, none⟩) d.nC k2] rfl).alloc (g := w.heap.size + 1) 131 #[.int .i64 (pl : Int), .int .i64 (x : Int), .int .i64 (y : Int)] (by simp)).alloc (g := w.heap.size + 1 + 1) 37 #[.int .i64 0, .int .i64 0, .slice none 0 0, .int .i64 0, .int .i64 0, .slice none 0 0, .int .i64 0, .int .i64 0, .slice none 0 0] (by simp)
  obtain ⟨hbp, hlp⟩ := hf.of hpl
  obtain ⟨hsd, hnn⟩ := hd.of pl
  have hnl := hd.nle hs pl
  have hLL : (layTo (d.wOf pl) x y l (f.get pl) 8).length = d.nOf pl := (layTo_length hx hy (hlp.trans hnn) hl.1 8 (Nat.le_refl _)).trans hnn.symm
  have HI := Lib.hid (And.intro hf (And.intro (hbp.in_n hlp) (And.intro hsd (And.intro hnn (And.intro hnl (And.intro hl hLL))))))
  have H0 := Lib.hid h0
  obtain ⟨pb, hpb⟩ : ∃ pb, pb = pick3 pl b0 b1 b2 := ⟨_, rfl⟩
  obtain ⟨pk, hpk⟩ : ∃ pk, pk = pick3 pl k0 k1 k2 := ⟨_, rfl⟩
  have HP := Lib.hid (And.intro hpb hpk)
  clear hf hbp hlp hsd hnn hnl hl h0 hpb hpk hd hs
  have HS1 := H0.out.drew
  have hSA := cells93 (HS1.own_ 2 rfl) (HS1.own_ 1 rfl)
  have hSB := cells93 (((H0.out.alloc (g := w.heap.size + 1 + 1 + 1) 35 #[.int .i64 0, .int .i64 0, .slice none 0 0] (by simp)).drew).own_ 3 rfl) (((H0.out.alloc (g := w.heap.size + 1 + 1 + 1) 35 #[.int .i64 0, .int .i64 0, .slice none 0 0] (by simp)).drew).own_ 2 rfl)
  unfold frV
  go_enter Tryz.func73, Tryz.ntmps73
  go_upto_region 1 with (fail)
  go_cut [7] (fun v7 wx => LyCut w d b0 k0 b1 k1 b2 k2 pl (x : Int) (y : Int) (layTo (d.wOf pl) x y l (f.get pl) 8) v7 wx)
  case first =>
    go_region_held3 (fun w' => w'.cell? ⟨w.heap.size, 0, none⟩ = some (.int .i64 (d.W : Int)) ∧ w'.cell? ⟨w.heap.size, 1, none⟩ = some (.int .i64 (d.H : Int)) ∧ w'.cell? ⟨w.heap.size, 2, none⟩ = some (.slice (some ⟨b0, 0, none⟩) d.nY k0) ∧ w'.cell? ⟨w.heap.size, 3, none⟩ = some (.int .i64 (d.W2 : Int)) ∧ w'.cell? ⟨w.heap.size, 4, none⟩ = some (.int .i64 (d.H2 : Int)) ∧ w'.cell? ⟨w.heap.size, 5, none⟩ = some (.slice (some ⟨b1, 0, none⟩) d.nC k1) ∧ w'.cell? ⟨w.heap.size, 6, none⟩ = some (.int .i64 (d.W2 : Int)) ∧ w'.cell? ⟨w.heap.size, 7, none⟩ = some (.int .i64 (d.H2 : Int)) ∧ w'.cell? ⟨w.heap.size, 8, none⟩ = some (.slice (some ⟨b2, 0, none⟩) d.nC k2) ∧ w'.cell? ⟨w.heap.size + 1, 0, none⟩ = some (.int .i64 (pl : Int)) ∧ w'.cell? ⟨w.heap.size + 1, 1, none⟩ = some (.int .i64 (x : Int)) ∧ w'.cell? ⟨w.heap.size + 1, 2, none⟩ = some (.int .i64 (y : Int)))
      (first | with_reducible exact hSA | with_reducible exact hSB | with_reducible exact hSC | with_reducible exact hSE _ _ _ )
      (first | (go_at_call 77; refine (fPlaneOf _ d b0 k0 b1 k1 b2 k2 pl hpl).mono ?_; rintro e w2 ⟨rfl, hm2⟩; (first | (have HS1 := HS1.quiet hm2; have hSA := cells93 (HS1.own_ 2 rfl) (HS1.own_ 1 rfl); have hSB := cells93 ((HS1.alloc 35 #[.int .i64 0, .int .i64 0, .slice none 0 0] rfl).own_ 3 rfl) ((HS1.alloc 35 #[.int .i64 0, .int .i64 0, .slice none 0 0] rfl).own_ 2 rfl)) | (have HS1 := ((H0.out.alloc (g := w.heap.size + 1 + 1 + 1) 35 #[.int .i64 0, .int .i64 0, .slice none 0 0] (by simp)).drew).quiet hm2; have hSA := cells93 (HS1.own_ 3 rfl) (HS1.own_ 2 rfl))); clear hm2) | (go_at_call 114; (first | (refine (fPLay _ (d.wOf pl) (d.hOf pl) _ (d.nOf pl) _ (f.get pl) HI.out.2.2.1 HI.out.2.2.2.1 HI.out.2.2.2.2.1 (HI.out.2.1.quiet HS1.mod) C cc l (HI.out.2.2.2.2.2.1.quiet HS1.mod) x y hx hy).mono ?_) | (have HS1 := HS1.alloc 35 #[.int .i64 0, .int .i64 0, .slice none 0 0] rfl; refine (fPLay _ (d.wOf pl) (d.hOf pl) _ (d.nOf pl) _ (f.get pl) HI.out.2.2.1 HI.out.2.2.2.1 HI.out.2.2.2.2.1 (HI.out.2.1.quiet HS1.mod) C cc l (HI.out.2.2.2.2.2.1.quiet HS1.mod) x y hx hy).mono ?_)); rintro e w3 ⟨b, k, rfl, hb3, hm3⟩; have hsz := HS1.mod.size; have HS1 := HS1.quiet hm3; clear hm3; (first | (have hfr := HS1.own_ 3 rfl; go_loud (have hpl' := HS1.own_ 2 rfl; have n1 := Ne.symm (HS1.apart 0 3 rfl rfl (by omega)); have n2 := Ne.symm (HS1.apart 0 2 rfl rfl (by omega)); have hSA := cells93 hfr hpl'; have hSE := cells93_put hfr hpl' n1 n2; obtain ⟨zc, zf⟩ := (HS1.own_ 0 rfl).both; have zl := (HS1.own_ 0 rfl).lt; clear hfr hpl' n1 n2)) | (have hSA := cells93 (HS1.own_ 2 rfl) (HS1.own_ 1 rfl); have hSB := cells93 ((HS1.alloc 35 #[.int .i64 0, .int .i64 0, .slice none 0 0] rfl).own_ 3 rfl) ((HS1.alloc 35 #[.int .i64 0, .int .i64 0, .slice none 0 0] rfl).own_ 2 rfl); have hSC := cells93 ((HS1.alloc 35 #[.int .i64 (d.wOf pl : Int), .int .i64 (d.hOf pl : Int), .slice (some ⟨b, 0, none⟩) (d.nOf pl) k] rfl).own_ 3 rfl) ((HS1.alloc 35 #[.int .i64 (d.wOf pl : Int), .int .i64 (d.hOf pl : Int), .slice (some ⟨b, 0, none⟩) (d.nOf pl) k] rfl).own_ 2 rfl)))))
    all_goals (go_wp2_with fail; go_meet)
    all_goals first
      | exact ⟨_, b, k, rfl, (hb3.down hsz).quiet ((Mod.refl _ w3).alloc _), HS1.alloc 35 #[.int .i64 (d.wOf pl : Int), .int .i64 (d.hOf pl : Int), .slice (some ⟨b, 0, none⟩) (d.nOf pl) k] rfl⟩
      | (have hz := HS1.own_ 0 rfl
         have hne := hb3.ne_ hz (show 35 ≠ 5 by decide)
         exact ⟨_, b, k, rfl, (((hb3.down hsz).far (p := ⟨_, 0, none⟩) hne _).far (p := ⟨_, 1, none⟩) hne _).far (p := ⟨_, 2, none⟩) hne _, ((HS1.put (i := 0) (u := .int .i64 (d.wOf pl : Int)) (.here rfl)).put (i := 1) (u := .int .i64 (d.hOf pl : Int)) (.here rfl)).put (i := 2) (u := .slice (some ⟨b, 0, none⟩) (d.nOf pl) k) (.here rfl)⟩)
  case rest =>
    clear hSA hSB HS1
    obtain ⟨zb, b, k, rfl, hG⟩ := hcut
    rename World => wx
    obtain ⟨pc, pf⟩ := (hG.2.own_ 3 rfl).both
    obtain ⟨qc, qf⟩ := (hG.2.own_ 2 rfl).both
    obtain ⟨zc, zf⟩ := (hG.2.own_ 0 rfl).both
    unfold plV at zc
    have HW := fWith wx d b0 k0 b1 k1 b2 k2 pl b k hpl
    obtain ⟨c0, hc0⟩ : ∃ c, c = if pl = 0 then b else b0 := ⟨_, rfl⟩
    obtain ⟨c1, hc1⟩ : ∃ c, c = if pl = 1 then b else b1 := ⟨_, rfl⟩
    obtain ⟨c2, hc2⟩ : ∃ c, c = if pl = 2 then b else b2 := ⟨_, rfl⟩
    obtain ⟨e0, he0⟩ : ∃ c, c = if pl = 0 then k else k0 := ⟨_, rfl⟩
    obtain ⟨e1, he1⟩ : ∃ c, c = if pl = 1 then k else k1 := ⟨_, rfl⟩
    obtain ⟨e2, he2⟩ : ∃ c, c = if pl = 2 then k else k2 := ⟨_, rfl⟩
    have hF := (HI.out.1.quiet hG.2.mod).set hpl (hG.1.down hB) HI.out.2.2.2.2.2.2
    rw [← hc0, ← hc1, ← hc2, ← he0, ← he1, ← he2] at HW hF
    have H1 := Lib.hid (And.intro hG.2 hF)
    have HW' := Lib.hid HW
    clear hG hc0 hc1 hc2 he0 he1 he2 hF HW
    go_wp2_with fail
    refine HW'.out.mono ?_
    rintro e w4 ⟨rfl, hm4⟩
    have HS4 := H1.out.1.quiet hm4
    have hres := HS4.own_ 1 rfl
    dsimp only at hres
    obtain ⟨rc, rf⟩ := hres.both
    have rl := hres.lt
    have H4 := Lib.hid (And.intro HS4 (And.intro (H1.out.2.quiet hm4) hres))
    unfold frV
    clear HS4 hres hm4 pc pf qc qf zc zf HW'
    go_wp2_with fail
    have hp := (fr_put9 H4.out.2.2 (.int .i64 (d.W : Int)) (.int .i64 (d.H : Int)) (.slice (some ⟨c0, 0, none⟩) d.nY e0) (.int .i64 (d.W2 : Int)) (.int .i64 (d.H2 : Int)) (.slice (some ⟨c1, 0, none⟩) d.nC e1) (.int .i64 (d.W2 : Int)) (.int .i64 (d.H2 : Int)) (.slice (some ⟨c2, 0, none⟩) d.nC e2)).2
    refine bodyPost_ret (v := .agg (frV d c0 e0 c1 e1 c2 e2).toArray) (by simp [results, Tryz.results73, go_sem, rc, frV]) rfl ⟨_, rfl, ⟨_, _, _, _, _, _, rfl, H4.out.2.1.mod hp (fun j e => .inr ⟨_, _, by subst e; exact H4.out.2.2, by decide⟩)⟩, H4.out.1.mod.into hp (fun i e => .inr (by omega))⟩
end Go.Proofs.YteppnjgfebcmjaaGreat

/-
  The reference's decoder: Moved.
-/
namespace Go.Proofs.YteppnjgfebcmjaaGreat
open Go.RowKit

def MvS (pb vb : Nat) (pl x y : Nat) (ux uy : Int) (w' : World) : Prop := Blk w' pb 131 #[.int .i64 (pl : Int), .int .i64 (x : Int), .int .i64 (y : Int)] ∧ Blk w' vb 125 #[.int .i64 ux, .int .i64 uy]
theorem MvS.quiet {pb vb pl x y : Nat} {ux uy : Int} {w w' : World} (h : MvS pb vb pl x y ux uy w) (hm : Mod (fun _ => False) w w') : MvS pb vb pl x y ux uy w' := ⟨h.1.keep hm (fun h => h), h.2.keep hm (fun h => h)⟩

set_option maxRecDepth 100000 in
set_option maxHeartbeats 4000000 in
theorem fMoved (w : World) (B : Nat) (d : Dim) (hd : d.Ok) (b0 k0 b1 k1 b2 k2 : Nat) (f : Pix) (hf : FrB w B d b0 k0 b1 k1 b2 k2 f) (pl x y : Nat) (hpl : pl < 3) (hx : x + 8 ≤ d.wOf pl) (hy : y + 8 ≤ d.hOf pl) (vx vy : Int) (hvx : -128 ≤ vx ∧ vx ≤ 128) (hvy : -128 ≤ vy ∧ vy ≤ 128) :
    Calls Tryz.prog 74 #[.agg (frV d b0 k0 b1 k1 b2 k2).toArray, .agg #[.int .i64 (pl : Int), .int .i64 (x : Int), .int .i64 (y : Int)], .agg #[.int .i64 vx, .int .i64 vy]] w fun e w' => ∃ v, e = .returned v ∧ Bytes w' w.heap.size v (smoved (d.wOf pl) (d.hOf pl) (f.get pl) x y pl vx vy) ∧ Mod (fun _ => False) w w' := by
  have h0 := (((Sat.nil (fun _ => False) w).alloc 37 #[.int .i64 (d.W : Int), .int .i64 (d.H : Int), .slice (some ⟨b0, 0, none⟩) d.nY k0, .int .i64 (d.W2 : Int), .int .i64 (d.H2 : Int), .slice (some ⟨b1, 0, none⟩) d.nC k1, .int .i64 (d.W2 : Int), .int .i64 (d.H2 : Int), .slice (some ⟨b2, 0, none⟩) d.nC k2] rfl).alloc (g := w.heap.size + 1) 131 #[.int .i64 (pl : Int), .int .i64 (x : Int), .int .i64 (y : Int)] (by simp)).alloc (g := w.heap.size + 1 + 1) 125 #[.int .i64 vx, .int .i64 vy] (by simp)
  obtain ⟨hbp, hlp⟩ := hf.of hpl
  obtain ⟨hsd, hnn⟩ := hd.of pl
  obtain ⟨_, z1, z2, z3, z4, _⟩ := area_le hsd
  obtain ⟨hvx1, hvx2⟩ := hvx
  obtain ⟨hvy1, hvy2⟩ := hvy
  have hx4 : x ≤ 4096 := by omega
  have hy4 : y ≤ 4096 := by omega
  have HI := Lib.hid (And.intro hsd (And.intro hnn (hbp.in_n hlp)))
  have H0 := Lib.hid h0
  clear hf hbp hlp hsd hnn h0 hd z1 z2 z3 z4 hx hy
  obtain ⟨ux, hux⟩ : ∃ ux, ux = if 0 < pl then vx / 2 else vx := ⟨_, rfl⟩
  obtain ⟨uy, huy⟩ : ∃ uy, uy = if 0 < pl then vy / 2 else vy := ⟨_, rfl⟩
  have bx : -128 ≤ ux ∧ ux ≤ 128 := by rw [hux]; split <;> omega
  have by_ : -128 ≤ uy ∧ uy ≤ 128 := by rw [huy]; split <;> omega
  have HU := Lib.hid (And.intro hux huy)
  obtain ⟨bx1, bx2⟩ := bx
  obtain ⟨by1, by2⟩ := by_
  clear hux huy
  unfold frV
  go_enter Tryz.func74, Tryz.ntmps74
  go_upto_if 9 with (fail)
  go_cut [] (fun wx => Sat (fun _ => False) w wx [⟨w.heap.size + 1 + 1, 125, #[.int .i64 ux, .int .i64 uy]⟩, ⟨w.heap.size + 1, 131, #[.int .i64 (pl : Int), .int .i64 (x : Int), .int .i64 (y : Int)]⟩, ⟨w.heap.size, 37, #[.int .i64 (d.W : Int), .int .i64 (d.H : Int), .slice (some ⟨b0, 0, none⟩) d.nY k0, .int .i64 (d.W2 : Int), .int .i64 (d.H2 : Int), .slice (some ⟨b1, 0, none⟩) d.nC k1, .int .i64 (d.W2 : Int), .int .i64 (d.H2 : Int), .slice (some ⟨b2, 0, none⟩) d.nC k2]⟩] [])
  case first =>
    by_cases hp : 0 < pl
    · have d1 : decide (0 < (pl : Int)) = true := decide_eq_true (by omega)
      go_wp2_with fail
      refine (fChroma _ vx vy ⟨by omega, by omega⟩ ⟨by omega, by omega⟩).mono ?_
      rintro e w2 ⟨rfl, hm⟩
      have HS2 := H0.out.quiet hm
      obtain ⟨vc, vf⟩ := (HS2.own_ 0 rfl).both
      have vl := (HS2.own_ 0 rfl).lt
      have H2 := Lib.hid HS2
      clear HS2 hm
      go_wp2_with fail
      go_meet
      rw [HU.out.1, HU.out.2, if_pos hp, if_pos hp]
      exact (H2.out.put (g := w.heap.size + 1 + 1) (i := 0) (u := .int .i64 (vx / 2)) (.here rfl)).put (g := w.heap.size + 1 + 1) (i := 1) (u := .int .i64 (vy / 2)) (.here rfl)
    · have d1 : decide (0 < (pl : Int)) = false := decide_eq_false (by omega)
      go_wp2_with fail
      go_meet
      rw [HU.out.1, HU.out.2, if_neg hp, if_neg hp]
      exact H0.out
  case rest =>
    rename World => wx
    have HS := hcut.drew
    obtain ⟨fc, ff⟩ := (HS.own_ 2 rfl).both
    obtain ⟨pc, pf⟩ := (HS.own_ 1 rfl).both
    have hS0 : MvS (w.heap.size + 1) (w.heap.size + 1 + 1) pl x y ux uy wx.drew := ⟨HS.own_ 1 rfl, HS.own_ 0 rfl⟩
    have H1 := Lib.hid (And.intro HS hS0)
    clear hcut HS
    go_upto_region 3 with (fail)
    refine wp_region_planS [3, 9] [4, 5, 6, 7, 8] (0 :: 1 :: 2 :: 4 :: 5 :: 6 :: 7 :: 8 :: 3 :: 9 :: 10 :: []) (MvS (w.heap.size + 1) (w.heap.size + 1 + 1) pl x y ux uy) (by kernel_rfl) (by kernel_rfl) (fun _ _ _ d _ h => by cases d <;> exact h) hS0 ?_
    clear hS0
    iterate 3 (refine planS_still rfl rfl (fun K hK => ?_); go_simp; refine hK _ ?_; clear hK K)
    clear fc ff pc pf
    refine planS_pure rfl rfl rfl (fun _ _ => rfl) ?_
    refine planS_pure (v := .int .i64 (x : Int)) rfl rfl rfl (fun w' hS => ?_) ?_
    · have cS := hS.1.cell
      go_simp
    refine planS_pure rfl rfl rfl (fun _ _ => rfl) ?_
    refine planS_pure (v := .int .i64 (y : Int)) rfl rfl rfl (fun w' hS => ?_) ?_
    · have cS := hS.1.cell
      go_simp
    refine planS_pure (v := .agg #[.int .i64 ux, .int .i64 uy]) rfl rfl rfl (fun w' hS => ?_) ?_
    · have cS := hS.2.cell
      go_simp
    refine planS_loud rfl rfl (fun K hK => ?_)
    go_simp
    refine (fPlaneOf _ d b0 k0 b1 k1 b2 k2 pl hpl).mono ?_
    rintro e w2 ⟨rfl, hm2⟩
    have H2 := Lib.hid (And.intro (H1.out.1.quiet hm2) (H1.out.2.quiet hm2))
    dsimp only []
    refine hK _ _ H2.out.2 ?_
    clear hK K hm2
    refine planS_loud rfl rfl (fun K hK => ?_)
    go_simp
    refine (fMvBlock _ (d.wOf pl) (d.hOf pl) _ (d.nOf pl) _ (f.get pl) HI.out.1 HI.out.2.1 (HI.out.2.2.quiet H2.out.1.mod) x y ux uy hx4 hy4 ⟨bx1, bx2⟩ ⟨by1, by2⟩).mono ?_
    rintro e w3 ⟨v3, rfl, hv3, hm3⟩
    have H3 := Lib.hid (And.intro (hv3.down H2.out.1.mod.size) (H2.out.1.mod.trans hm3))
    dsimp only []
    refine hK _ _ (H2.out.2.quiet hm3) ?_
    clear hK K hm3 hv3
    refine planS_still rfl rfl (fun K hK => ?_); go_simp; refine hK _ ?_; clear hK K
    refine planS_done ?_
    go_wp2_with fail
    go_ret
    refine ⟨v3, rfl, ?_, H3.out.2⟩
    unfold smoved
    rw [← HU.out.1, ← HU.out.2]
    exact H3.out.1
end Go.Proofs.YteppnjgfebcmjaaGreat

/-
  The reference's book: topic, Get.
-/
namespace Go.Proofs.YteppnjgfebcmjaaGreat
open Go.RowKit

set_option maxRecDepth 100000 in
theorem fTopic (w : World) (t : Nat) (ht : t < 16) : Calls Tryz.prog 140 #[.int .i64 (t : Int)] w fun e w' => e = .returned (.bool true) ∧ w = w' := by
  have d1 : decide ((0 : Int) ≤ (t : Int)) = true := decide_eq_true (by omega)
  have d2 : decide ((t : Int) < 16) = true := decide_eq_true (by omega)
  go_enter Tryz.func140, Tryz.ntmps140
  go_wp2_with fail
  go_ret
  exact ⟨rfl, rfl⟩
theorem fLow (w : World) (bk g : Nat) (P : Nat → Prop) (hPg : ¬ P g) (hPb : ¬ P bk) (hgb : g ≠ bk) (s : St) (t i ahead : Nat) (ht : t < 16) (hi : i ≤ 20) (ha : ahead < 2 ^ i) (h : RSAt w bk g P s) :
    ∃ pl : Int, (∀ w, Calls Tryz.prog 143 #[.int .i64 (i : Int), .int .i64 (ahead : Int)] w fun e w' => e = .returned (.int .i64 pl) ∧ w = w') ∧ (-1 ≤ pl ∧ pl < 37) ∧ Calls Tryz.prog 142 #[.pointer (some ⟨bk, 0, none⟩), .pointer (some ⟨g, 0, none⟩), .int .i64 (t : Int), .int .i64 pl] w (FSPost w bk g P (slow s t i ahead)) := by
  have hp20 : 2 ^ i ≤ 1048576 := Nat.pow_le_pow_right (n := 2) (by omega) hi
  unfold slow
  by_cases h4 : i < 4
  · have hx : atIdx i ahead < 37 := by
      have h4' : i = 0 ∨ i = 1 ∨ i = 2 ∨ i = 3 := by omega
      unfold atIdx
      rcases h4' with rfl | rfl | rfl | rfl <;> omega
    rw [if_pos h4]
    exact ⟨((atIdx i ahead : Nat) : Int), fun w => fPlace w i ahead h4 (by omega), by omega, fBookGet w bk g P hPg hgb s t _ ht hx hPb h⟩
  · rw [if_neg h4]
    exact ⟨-1, fun w => fPlace4 w i ahead (by omega) (by omega), by omega, fBookEven w bk g P hPg hgb s t h⟩
theorem wrap_ahead {i ahead : Nat} (hi : 2 ^ i ≤ 1048576) (ha : ahead < 2 ^ i) : wrap64 ((2 : Int) ^ i + (ahead : Int) - wrap64 ((2 : Int) ^ i)) = (ahead : Int) := by
  have hpi : (2 : Int) ^ i = ((2 ^ i : Nat) : Int) := by simp
  rw [hpi]
  generalize 2 ^ i = p at hi ha
  unfold wrap64
  omega
def FLenRel (w : World) (bk g : Nat) (P : Nat → Prop) (t : Nat) (r : Option (Nat × St)) (v9 : Value) (wr : World) : Prop :=
  ∃ (n : Nat) (s : St), 1 ≤ n ∧ n ≤ 21 ∧ v9 = .int .i64 (n : Int) ∧ RSAt wr bk g P s ∧ (glen t (21 - n) n s).bind (fun x => gfin t x.1 x.2) = r ∧ Mod (fun j => j = g ∨ j = bk) w wr
def FLowRel (w : World) (bk g : Nat) (P : Nat → Prop) (t n : Nat) (r : Option (Nat × St)) (v12 v13 : Value) (wr : World) : Prop :=
  ∃ (i ahead : Nat) (s : St), i ≤ n - 1 ∧ ahead < 2 ^ i ∧ v12 = .int .i64 ((2 ^ i + ahead : Nat) : Int) ∧ v13 = .int .i64 (i : Int) ∧ RSAt wr bk g P s ∧ ((glow t (n - 1 - i) i ahead s).bind fun y => if 1048576 < 2 ^ (n - 1) + y.1 - 1 then none else some (2 ^ (n - 1) + y.1 - 1, y.2)) = r ∧ Mod (fun j => j = g ∨ j = bk) w wr
set_option maxRecDepth 100000 in
set_option maxHeartbeats 8000000 in
theorem fBookNum (w : World) (bk g : Nat) (P : Nat → Prop) (hPg : ¬ P g) (hPb : ¬ P bk) (hgb : g ≠ bk) (s : St) (t : Nat) (ht : t < 16) (h : RSAt w bk g P s) :
    Calls Tryz.prog 144 #[.pointer (some ⟨bk, 0, none⟩), .pointer (some ⟨g, 0, none⟩), .int .i64 (t : Int)] w (FSPost w bk g P (snum t s)) := by
  obtain ⟨tg, htg⟩ : ∃ tg, tg = snum t s := ⟨_, rfl⟩
  rw [← htg]
  have HH := Lib.hid (And.intro h htg)
  clear h htg
  go_enter Tryz.func144, Tryz.ntmps144
  go_wp2_with fail
  refine (fTopic _ t ht).mono ?_
  rintro e w0 ⟨rfl, rfl⟩
  go_wp2_with fail
  go_loopw [9] (FLenRel w bk g P t tg) (fun i _ => 21 - (intOf i).toNat)
  case atStart => exact ⟨1, s, by omega, by omega, rfl, HH.out.1, HH.out.2.symm, Mod.refl _ _⟩
  case round =>
    rename World => wr
    obtain ⟨n, s1, hn1, hn2, rfl, hs, hg, hM⟩ := hrel
    by_cases hlt : n < 21
    · have d1 : decide ((n : Int) < 21) = true := decide_eq_true (by omega)
      have hge : (glen t (21 - n) n s1).bind (fun x => gfin t x.1 x.2) = (sget s1 (t * 37 + (n - 1))).bind fun x => if x.1 = 0 then gfin t n x.2 else (glen t (21 - (n + 1)) (n + 1) x.2).bind (fun x => gfin t x.1 x.2) := by
        rw [show 21 - n = (21 - (n + 1)) + 1 by omega]
        simp only [glen, Option.bind_assoc]
        congr 1
        funext x
        split <;> rfl
      rw [hg] at hge
      obtain ⟨q, hq⟩ : ∃ q, q = n - 1 := ⟨_, rfl⟩
      have hnq : (n : Int) - 1 = (q : Int) := by omega
      rw [← hq] at hge
      have G2 := Lib.hid (fBookGet wr bk g P hPg hgb s1 t q ht (by omega) hPb hs)
      have HB := Lib.hid (And.intro hge (And.intro hM hq))
      clear hge hg hM hs hq
      go_wp2_with fail
      refine G2.out.mono ?_
      rintro e w3 (⟨hr, er, her, rfl, hm3⟩ | ⟨v, s3, hr, rfl, hs3, hm3⟩)
      · have her2 : (er != 0) = true := by simp [bne, her]
        have HR : Hid (tg = none) := by show _ = _; rw [HB.out.1, hr]; rfl
        have HM3 := Lib.hid (HB.out.2.1.trans hm3)
        have HEr := Lib.hid her
        clear hr hm3 her
        go_wp2_with fail
        go_ret2
        exact .inl ⟨HR, er, HEr.out, rfl, HM3.out⟩
      · have hv := sget_bit hr
        have hge2 := HB.out.1
        rw [hr] at hge2
        dsimp only [Option.bind_some] at hge2
        by_cases hv0 : v = 0
        · subst hv0
          rw [if_pos rfl] at hge2
          have hM3 := HB.out.2.1.trans hm3
          clear hr hm3 hv
          have HT := Lib.hid (And.intro hge2 (And.intro hs3 hM3))
          clear hge2 hs3 hM3
          go_wp2_with fail
          go_loopw [12, 13] (FLowRel w bk g P t n tg) (fun _ i _ => n - (intOf i).toNat)
          case atStart => exact ⟨0, 0, s3, by omega, by simp, rfl, rfl, HT.out.2.1, by rw [HT.out.1]; rfl, HT.out.2.2⟩
          case round =>
            rename World => wq
            obtain ⟨i, ahead, s4, hi, ha, rfl, rfl, hs4, hg4, hM4⟩ := hrel
            have hp20 : 2 ^ i ≤ 1048576 := Nat.pow_le_pow_right (n := 2) (by omega) (show i ≤ 20 by omega)
            by_cases hin : i < n - 1
            · have d5 : decide ((i : Int) < (n : Int) - 1) = true := decide_eq_true (by omega)
              obtain ⟨pl, hpl, ⟨hpl1, hpl2⟩, hG⟩ := fLow wq bk g P hPg hPb hgb s4 t i ahead ht (by omega) ha hs4
              have hge : glow t (n - 1 - i) i ahead s4 = (slow s4 t i ahead).bind fun x => glow t (n - 1 - (i + 1)) (i + 1) (2 * ahead + x.1) x.2 := by
                rw [show n - 1 - i = (n - 1 - (i + 1)) + 1 by omega]
                rfl
              rw [hge] at hg4
              have HK := Lib.hid (And.intro hpl (And.intro hG (And.intro hg4 (And.intro hM4 (And.intro ha hp20)))))
              clear hpl hG hg4 hM4 hs4 hge
              go_wp2_with fail
              rw [wrap_ahead hp20 ha]
              refine (HK.out.1 _).mono ?_
              rintro e w5 ⟨rfl, rfl⟩
              go_wp2_with fail
              refine HK.out.2.1.mono ?_
              rintro e w6 (⟨hr, er, her, rfl, hm6⟩ | ⟨b, s6, hr, rfl, hs6, hm6⟩)
              · have her2 : (er != 0) = true := by simp [bne, her]
                have hno : tg = none := by rw [← HK.out.2.2.1, hr]; rfl
                have HR := Lib.hid (And.intro hno (And.intro her (HK.out.2.2.2.1.trans hm6)))
                clear hr hm6 her hno
                go_wp2_with fail
                go_ret2
                exact .inl ⟨HR.out.1, er, HR.out.2.1, rfl, HR.out.2.2⟩
              · have hb := slow_bit hr
                have hnx : ((glow t (n - 1 - (i + 1)) (i + 1) (2 * ahead + b) s6).bind fun y => if 1048576 < 2 ^ (n - 1) + y.1 - 1 then none else some (2 ^ (n - 1) + y.1 - 1, y.2)) = tg := by rw [← HK.out.2.2.1, hr]; rfl
                have hpe : 2 ^ (i + 1) + (2 * ahead + b) = 2 * (2 ^ i + ahead) + b := by rw [Nat.pow_succ]; omega
                have hpa : 2 * ahead + b < 2 ^ (i + 1) := by rw [Nat.pow_succ]; omega
                obtain ⟨V, hV⟩ : ∃ V, V = 2 ^ i + ahead := ⟨_, rfl⟩
                rw [← hV] at hpe
                rw [show (2 : Int) ^ i + (ahead : Int) = (V : Int) by rw [hV]; simp]
                have hVb : V ≤ 2097152 := by omega
                have HR := Lib.hid (And.intro hnx (And.intro hs6 (And.intro (HK.out.2.2.2.1.trans hm6) (And.intro hpe hpa))))
                clear hr hm6 hnx hs6 hpe hpa hV hp20 ha
                go_wp2_with fail
                go_roundw
                case rel =>
                  first
                  | exact ⟨i + 1, 2 * ahead + b, s6, by omega, HR.out.2.2.2.2, by rw [HR.out.2.2.2.1]; go_num, by go_num, HR.out.2.1, HR.out.1, HR.out.2.2.1⟩
                  | ((repeat apply Exists.intro)
                     exact ⟨⟨i + 1, 2 * ahead + b, s6, by omega, HR.out.2.2.2.2, by rw [HR.out.2.2.2.1]; go_num, by go_num, HR.out.2.1, HR.out.1, HR.out.2.2.1⟩, rfl⟩)
                case measure => simp [intOf]; omega
            · obtain ⟨V, hV⟩ : ∃ V, V = 2 ^ i + ahead := ⟨_, rfl⟩
              have hie : i = n - 1 := by omega
              have d5 : decide ((i : Int) < (n : Int) - 1) = false := decide_eq_false (by omega)
              have hp1 : 1 ≤ 2 ^ i := Nat.one_le_two_pow
              have hres : tg = if 1048576 < V - 1 then none else some (V - 1, s4) := by
                rw [← hg4, hV, hie, Nat.sub_self]
                rfl
              rw [← hV]
              have hVb : 1 ≤ V ∧ V ≤ 2097152 := by omega
              obtain ⟨hV1, hV2⟩ := hVb
              have HR := Lib.hid (And.intro hres (And.intro hs4 hM4))
              clear hres hs4 hM4 hg4 hV ha hp20 hp1 hie
              by_cases hbig : 1048576 < V - 1
              · have dB : decide ((1048576 : Int) < (V : Int) - 1) = true := decide_eq_true (by omega)
                go_wp2_with fail
                go_ret2
                exact .inl ⟨by rw [HR.out.1, if_pos hbig], 51, rfl, rfl, HR.out.2.2⟩
              · have dB : decide ((1048576 : Int) < (V : Int) - 1) = false := decide_eq_false (by omega)
                go_wp2_with fail
                go_ret2
                refine .inr ⟨V - 1, s4, by rw [HR.out.1, if_neg hbig], ?_, HR.out.2.1, HR.out.2.2⟩
                rw [show ((V - 1 : Nat) : Int) = (V : Int) - 1 by omega]
                rfl
        · have hv1 : v = 1 := by omega
          subst hv1
          rw [if_neg (by decide)] at hge2
          have HC := Lib.hid (And.intro hge2 (And.intro hs3 (HB.out.2.1.trans hm3)))
          clear hr hm3 hv hge2 hs3
          go_wp2_with fail
          go_roundw
          case rel => exact ⟨n + 1, s3, by omega, by omega, by go_num, HC.out.2.1, HC.out.1.symm, HC.out.2.2⟩
          case measure => simp [intOf]; omega
    · have hn21 : n = 21 := by omega
      subst hn21
      have hge2 : tg = gfin t 21 s1 := by rw [← hg]; rfl
      clear hg hlt
      have HT := Lib.hid (And.intro hge2 (And.intro hs hM))
      clear hge2 hs hM
      go_wp2_with fail
      go_loopw [12, 13] (FLowRel w bk g P t 21 tg) (fun _ i _ => 21 - (intOf i).toNat)
      case atStart => exact ⟨0, 0, s1, by omega, by simp, rfl, rfl, HT.out.2.1, by rw [HT.out.1]; rfl, HT.out.2.2⟩
      case round =>
        rename World => wq
        obtain ⟨i, ahead, s4, hi, ha, rfl, rfl, hs4, hg4, hM4⟩ := hrel
        have hp20 : 2 ^ i ≤ 1048576 := Nat.pow_le_pow_right (n := 2) (by omega) (show i ≤ 20 by omega)
        by_cases hin : i < 21 - 1
        · have d5 : decide ((i : Int) < (21 : Int) - 1) = true := decide_eq_true (by omega)
          obtain ⟨pl, hpl, ⟨hpl1, hpl2⟩, hG⟩ := fLow wq bk g P hPg hPb hgb s4 t i ahead ht (by omega) ha hs4
          have hge : glow t (21 - 1 - i) i ahead s4 = (slow s4 t i ahead).bind fun x => glow t (21 - 1 - (i + 1)) (i + 1) (2 * ahead + x.1) x.2 := by
            rw [show 21 - 1 - i = (21 - 1 - (i + 1)) + 1 by omega]
            rfl
          rw [hge] at hg4
          have HK := Lib.hid (And.intro hpl (And.intro hG (And.intro hg4 (And.intro hM4 (And.intro ha hp20)))))
          clear hpl hG hg4 hM4 hs4 hge
          go_wp2_with fail
          rw [wrap_ahead hp20 ha]
          refine (HK.out.1 _).mono ?_
          rintro e w5 ⟨rfl, rfl⟩
          go_wp2_with fail
          refine HK.out.2.1.mono ?_
          rintro e w6 (⟨hr, er, her, rfl, hm6⟩ | ⟨b, s6, hr, rfl, hs6, hm6⟩)
          · have her2 : (er != 0) = true := by simp [bne, her]
            have hno : tg = none := by rw [← HK.out.2.2.1, hr]; rfl
            have HR := Lib.hid (And.intro hno (And.intro her (HK.out.2.2.2.1.trans hm6)))
            clear hr hm6 her hno
            go_wp2_with fail
            go_ret2
            exact .inl ⟨HR.out.1, er, HR.out.2.1, rfl, HR.out.2.2⟩
          · have hb := slow_bit hr
            have hnx : ((glow t (21 - 1 - (i + 1)) (i + 1) (2 * ahead + b) s6).bind fun y => if 1048576 < 2 ^ (21 - 1) + y.1 - 1 then none else some (2 ^ (21 - 1) + y.1 - 1, y.2)) = tg := by rw [← HK.out.2.2.1, hr]; rfl
            have hpe : 2 ^ (i + 1) + (2 * ahead + b) = 2 * (2 ^ i + ahead) + b := by rw [Nat.pow_succ]; omega
            have hpa : 2 * ahead + b < 2 ^ (i + 1) := by rw [Nat.pow_succ]; omega
            obtain ⟨V, hV⟩ : ∃ V, V = 2 ^ i + ahead := ⟨_, rfl⟩
            rw [← hV] at hpe
            rw [show (2 : Int) ^ i + (ahead : Int) = (V : Int) by rw [hV]; simp]
            have hVb : V ≤ 2097152 := by omega
            have HR := Lib.hid (And.intro hnx (And.intro hs6 (And.intro (HK.out.2.2.2.1.trans hm6) (And.intro hpe hpa))))
            clear hr hm6 hnx hs6 hpe hpa hV hp20 ha
            go_wp2_with fail
            go_roundw
            case rel =>
              first
              | exact ⟨i + 1, 2 * ahead + b, s6, by omega, HR.out.2.2.2.2, by rw [HR.out.2.2.2.1]; go_num, by go_num, HR.out.2.1, HR.out.1, HR.out.2.2.1⟩
              | ((repeat apply Exists.intro)
                 exact ⟨⟨i + 1, 2 * ahead + b, s6, by omega, HR.out.2.2.2.2, by rw [HR.out.2.2.2.1]; go_num, by go_num, HR.out.2.1, HR.out.1, HR.out.2.2.1⟩, rfl⟩)
            case measure => simp [intOf]; omega
        · obtain ⟨V, hV⟩ : ∃ V, V = 2 ^ i + ahead := ⟨_, rfl⟩
          have hie : i = 21 - 1 := by omega
          have d5 : decide ((i : Int) < (21 : Int) - 1) = false := decide_eq_false (by omega)
          have hp1 : 1 ≤ 2 ^ i := Nat.one_le_two_pow
          have hres : tg = if 1048576 < V - 1 then none else some (V - 1, s4) := by
            rw [← hg4, hV, hie, Nat.sub_self]
            rfl
          rw [← hV]
          have hVb : 1 ≤ V ∧ V ≤ 2097152 := by omega
          obtain ⟨hV1, hV2⟩ := hVb
          have HR := Lib.hid (And.intro hres (And.intro hs4 hM4))
          clear hres hs4 hM4 hg4 hV ha hp20 hp1 hie
          by_cases hbig : 1048576 < V - 1
          · have dB : decide ((1048576 : Int) < (V : Int) - 1) = true := decide_eq_true (by omega)
            go_wp2_with fail
            go_ret2
            exact .inl ⟨by rw [HR.out.1, if_pos hbig], 51, rfl, rfl, HR.out.2.2⟩
          · have dB : decide ((1048576 : Int) < (V : Int) - 1) = false := decide_eq_false (by omega)
            go_wp2_with fail
            go_ret2
            refine .inr ⟨V - 1, s4, by rw [HR.out.1, if_neg hbig], ?_, HR.out.2.1, HR.out.2.2⟩
            rw [show ((V - 1 : Nat) : Int) = (V : Int) - 1 by omega]
            rfl
end Go.Proofs.YteppnjgfebcmjaaGreat
