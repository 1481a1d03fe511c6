/-
  The reference's decoder: Lay.
-/
import Derived.Test.YtmkopcojnibhlaaGreatDoorP29
import Derived.Test.YtmkopcojnibhlaaGreatDoorP10
import Derived.Test.YtmkopcojnibhlaaGreatDoorP3
import Derived.Test.YtmkopcojnibhlaaGreatDoorP25
import Derived.Test.YtmkopcojnibhlaaGreatDoorP27
import Derived.Test.YtmkopcojnibhlaaGreatDoorP15
import Derived.Test.YtmkopcojnibhlaaGreatDoorP17
namespace Go.Proofs.YtmkopcojnibhlaaGreatDoor
open Go.RowKit
set_option maxRecDepth 100000
set_option maxHeartbeats 8000000
theorem cells93 {w:World} {p q:Nat} {t u:TypeId} {a0 a1 a2 a3 a4 a5 a6 a7 a8 c0 c1 c2:Value} (h:Blk w p t #[a0,a1,a2,a3,a4,a5,a6,a7,a8]) (k:Blk w q u #[c0,c1,c2]) :
  w.cell? ⟨p,0,none⟩ = some a0 ∧ w.cell? ⟨p,1,none⟩ = some a1 ∧ w.cell? ⟨p,2,none⟩ = some a2 ∧ w.cell? ⟨p,3,none⟩ = some a3 ∧ w.cell? ⟨p,4,none⟩ = some a4 ∧ w.cell? ⟨p,5,none⟩ = some a5 ∧ w.cell? ⟨p,6,none⟩ = some a6 ∧ w.cell? ⟨p,7,none⟩ = some a7 ∧ w.cell? ⟨p,8,none⟩ = some a8 ∧ w.cell? ⟨q,0,none⟩ = some c0 ∧ w.cell? ⟨q,1,none⟩ = some c1 ∧ w.cell? ⟨q,2,none⟩ = some c2:=
 ⟨h.cell 0,h.cell 1,h.cell 2,h.cell 3,h.cell 4,h.cell 5,h.cell 6,h.cell 7,h.cell 8,k.cell 0,k.cell 1,k.cell 2⟩
theorem cells93_put {w:World} {p q z:Nat} {t u:TypeId} {a0 a1 a2 a3 a4 a5 a6 a7 a8 c0 c1 c2:Value} (h:Blk w p t #[a0,a1,a2,a3,a4,a5,a6,a7,a8]) (k:Blk w q u #[c0,c1,c2]) (n1:p ≠ z) (n2:q ≠ z) (u0 u1 u2:Value) :
  (((w.setCell ⟨z,0,none⟩ u0).setCell ⟨z,1,none⟩ u1).setCell ⟨z,2,none⟩ u2).cell? ⟨p,0,none⟩ = some a0 ∧ (((w.setCell ⟨z,0,none⟩ u0).setCell ⟨z,1,none⟩ u1).setCell ⟨z,2,none⟩ u2).cell? ⟨p,1,none⟩ = some a1 ∧ (((w.setCell ⟨z,0,none⟩ u0).setCell ⟨z,1,none⟩ u1).setCell ⟨z,2,none⟩ u2).cell? ⟨p,2,none⟩ = some a2 ∧ (((w.setCell ⟨z,0,none⟩ u0).setCell ⟨z,1,none⟩ u1).setCell ⟨z,2,none⟩ u2).cell? ⟨p,3,none⟩ = some a3 ∧ (((w.setCell ⟨z,0,none⟩ u0).setCell ⟨z,1,none⟩ u1).setCell ⟨z,2,none⟩ u2).cell? ⟨p,4,none⟩ = some a4 ∧ (((w.setCell ⟨z,0,none⟩ u0).setCell ⟨z,1,none⟩ u1).setCell ⟨z,2,none⟩ u2).cell? ⟨p,5,none⟩ = some a5 ∧ (((w.setCell ⟨z,0,none⟩ u0).setCell ⟨z,1,none⟩ u1).setCell ⟨z,2,none⟩ u2).cell? ⟨p,6,none⟩ = some a6 ∧ (((w.setCell ⟨z,0,none⟩ u0).setCell ⟨z,1,none⟩ u1).setCell ⟨z,2,none⟩ u2).cell? ⟨p,7,none⟩ = some a7 ∧ (((w.setCell ⟨z,0,none⟩ u0).setCell ⟨z,1,none⟩ u1).setCell ⟨z,2,none⟩ u2).cell? ⟨p,8,none⟩ = some a8 ∧ (((w.setCell ⟨z,0,none⟩ u0).setCell ⟨z,1,none⟩ u1).setCell ⟨z,2,none⟩ u2).cell? ⟨q,0,none⟩ = some c0 ∧ (((w.setCell ⟨z,0,none⟩ u0).setCell ⟨z,1,none⟩ u1).setCell ⟨z,2,none⟩ u2).cell? ⟨q,1,none⟩ = some c1 ∧ (((w.setCell ⟨z,0,none⟩ u0).setCell ⟨z,1,none⟩ u1).setCell ⟨z,2,none⟩ u2).cell? ⟨q,2,none⟩ = some c2:=
 cells93 (((h.far (p:=⟨z,0,none⟩) n1 u0).far (p:=⟨z,1,none⟩) n1 u1).far (p:=⟨z,2,none⟩) n1 u2) (((k.far (p:=⟨z,0,none⟩) n2 u0).far (p:=⟨z,1,none⟩) n2 u1).far (p:=⟨z,2,none⟩) n2 u2)
def LyCut (w:World) (d:Dim) (b0 k0 b1 k1 b2 k2 pl:Nat) (x y:Int) (l:List UInt8) (v7:Value) (wx:World):Prop:=
 ∃ pb b k,v7 = .pointer (some ⟨pb,0,none⟩) ∧ GrowS w wx [⟨pb,38,plV d pl b k⟩,⟨w.heap.size + 1 + 1,40,#[.int .i64 0,.int .i64 0,.slice none 0 0,.int .i64 0,.int .i64 0,.slice none 0 0,.int .i64 0,.int .i64 0,.slice none 0 0]⟩,⟨w.heap.size + 1,185,#[.int .i64 (pl:Int),.int .i64 x,.int .i64 y]⟩,⟨w.heap.size,40,#[.int .i64 (d.W:Int),.int .i64 (d.H:Int),.slice (some ⟨b0,0,none⟩) d.nY k0,.int .i64 (d.W2:Int),.int .i64 (d.H2:Int),.slice (some ⟨b1,0,none⟩) d.nC k1,.int .i64 (d.W2:Int),.int .i64 (d.H2:Int),.slice (some ⟨b2,0,none⟩) d.nC k2]⟩] (.slice (some ⟨b,0,none⟩) (d.nP pl) k) l
theorem fLayF (w : World) (B : Nat) (hB : B ≤ w.heap.size) (d : Dim) (hd : d.Ok) (hs : d.nY ≤ 1048576) (b0 k0 b1 k1 b2 k2 : Nat) (f : Pix) (hf : FrB w B d b0 k0 b1 k1 b2 k2 f) (pl x y : Nat) (hpl : pl < 3) (hx : x + 8 ≤ d.wOf pl) (hy : y + 8 ≤ d.hOf pl) (C : Option Addr) (cc : Nat) (l : List UInt8) (hl : BytesIn w C 64 cc l) :
    Calls Tryz.prog 105 #[.agg (frV d b0 k0 b1 k1 b2 k2).toArray, .agg #[.int .i64 (pl : Int), .int .i64 (x : Int), .int .i64 (y : Int)], .slice C 64 cc] w fun e w' => ∃ v, e = .returned v ∧ FrO w' B d v (f.set pl (layTo (d.wOf pl) x y l (f.get pl) 8)) ∧ Mod (fun _ => False) w w' := by
  have h0 := (((Sat.nil (fun _ => False) w).alloc 40 #[.int .i64 (d.W : Int), .int .i64 (d.H : Int), .slice (some ⟨b0, 0, none⟩) d.nY k0, .int .i64 (d.W2 : Int), .int .i64 (d.H2 : Int), .slice (some ⟨b1, 0, none⟩) d.nC k1, .int .i64 (d.W2 : Int), .int .i64 (d.H2 : Int), .slice (some ⟨b2, 0, none⟩) d.nC k2] rfl).alloc (g := w.heap.size + 1) 185 #[.int .i64 (pl : Int), .int .i64 (x : Int), .int .i64 (y : Int)] (by simp)).alloc (g := w.heap.size + 1 + 1) 40 #[.int .i64 0, .int .i64 0, .slice none 0 0, .int .i64 0, .int .i64 0, .slice none 0 0, .int .i64 0, .int .i64 0, .slice none 0 0] (by simp)
  obtain ⟨hbp, hlp⟩ := hf.of hpl
  obtain ⟨hsd, hnn⟩ := hd.of pl
  have hnl := hd.nle hs pl
  have hLL : (layTo (d.wOf pl) x y l (f.get pl) 8).length = d.nP pl := (layTo_length hx hy (hlp.trans hnn) hl.1 8 (Nat.le_refl _)).trans hnn.symm
  have HI := Lib.hid (And.intro hf (And.intro (hbp.in_n hlp) (And.intro hsd (And.intro hnn (And.intro hnl (And.intro hl hLL))))))
  have H0 := Lib.hid h0
  obtain ⟨pb, hpb⟩ : ∃ pb, pb = pick3 pl b0 b1 b2 := ⟨_, rfl⟩
  obtain ⟨pk, hpk⟩ : ∃ pk, pk = pick3 pl k0 k1 k2 := ⟨_, rfl⟩
  have HP := Lib.hid (And.intro hpb hpk)
  clear hf hbp hlp hsd hnn hnl hl h0 hpb hpk hd hs
  have HS1 := H0.out.drew
  have hSA := cells93 (HS1.own_ 2 rfl) (HS1.own_ 1 rfl)
  have hSB := cells93 (((H0.out.alloc (g := w.heap.size + 1 + 1 + 1) 38 #[.int .i64 0, .int .i64 0, .slice none 0 0] (by simp)).drew).own_ 3 rfl) (((H0.out.alloc (g := w.heap.size + 1 + 1 + 1) 38 #[.int .i64 0, .int .i64 0, .slice none 0 0] (by simp)).drew).own_ 2 rfl)
  unfold frV
  go_enter Tryz.func105, Tryz.ntmps105
  go_upto_region 1 with (fail)
  go_cut [7] (fun v7 wx => LyCut w d b0 k0 b1 k1 b2 k2 pl (x : Int) (y : Int) (layTo (d.wOf pl) x y l (f.get pl) 8) v7 wx)
  case first =>
    go_region_held3 (fun w' => w'.cell? ⟨w.heap.size, 0, none⟩ = some (.int .i64 (d.W : Int)) ∧ w'.cell? ⟨w.heap.size, 1, none⟩ = some (.int .i64 (d.H : Int)) ∧ w'.cell? ⟨w.heap.size, 2, none⟩ = some (.slice (some ⟨b0, 0, none⟩) d.nY k0) ∧ w'.cell? ⟨w.heap.size, 3, none⟩ = some (.int .i64 (d.W2 : Int)) ∧ w'.cell? ⟨w.heap.size, 4, none⟩ = some (.int .i64 (d.H2 : Int)) ∧ w'.cell? ⟨w.heap.size, 5, none⟩ = some (.slice (some ⟨b1, 0, none⟩) d.nC k1) ∧ w'.cell? ⟨w.heap.size, 6, none⟩ = some (.int .i64 (d.W2 : Int)) ∧ w'.cell? ⟨w.heap.size, 7, none⟩ = some (.int .i64 (d.H2 : Int)) ∧ w'.cell? ⟨w.heap.size, 8, none⟩ = some (.slice (some ⟨b2, 0, none⟩) d.nC k2) ∧ w'.cell? ⟨w.heap.size + 1, 0, none⟩ = some (.int .i64 (pl : Int)) ∧ w'.cell? ⟨w.heap.size + 1, 1, none⟩ = some (.int .i64 (x : Int)) ∧ w'.cell? ⟨w.heap.size + 1, 2, none⟩ = some (.int .i64 (y : Int)))
      (first | with_reducible exact hSA | with_reducible exact hSB | with_reducible exact hSC | with_reducible exact hSE _ _ _ )
      (first | (go_at_call 108; refine (fPlaneOf _ d b0 k0 b1 k1 b2 k2 pl hpl).mono ?_; rintro e w2 ⟨rfl, hm2⟩; (first | (have HS1 := HS1.quiet hm2; have hSA := cells93 (HS1.own_ 2 rfl) (HS1.own_ 1 rfl); have hSB := cells93 ((HS1.alloc 38 #[.int .i64 0, .int .i64 0, .slice none 0 0] rfl).own_ 3 rfl) ((HS1.alloc 38 #[.int .i64 0, .int .i64 0, .slice none 0 0] rfl).own_ 2 rfl)) | (have HS1 := ((H0.out.alloc (g := w.heap.size + 1 + 1 + 1) 38 #[.int .i64 0, .int .i64 0, .slice none 0 0] (by simp)).drew).quiet hm2; have hSA := cells93 (HS1.own_ 3 rfl) (HS1.own_ 2 rfl))); clear hm2) | (go_at_call 165; (first | (refine (fPLay _ (d.wOf pl) (d.hOf pl) _ (d.nP pl) _ (f.get pl) HI.out.2.2.1 HI.out.2.2.2.1 HI.out.2.2.2.2.1 (HI.out.2.1.quiet HS1.mod) C cc l (HI.out.2.2.2.2.2.1.quiet HS1.mod) x y hx hy).mono ?_) | (have HS1 := HS1.alloc 38 #[.int .i64 0, .int .i64 0, .slice none 0 0] rfl; refine (fPLay _ (d.wOf pl) (d.hOf pl) _ (d.nP pl) _ (f.get pl) HI.out.2.2.1 HI.out.2.2.2.1 HI.out.2.2.2.2.1 (HI.out.2.1.quiet HS1.mod) C cc l (HI.out.2.2.2.2.2.1.quiet HS1.mod) x y hx hy).mono ?_)); rintro e w3 ⟨b, k, rfl, hb3, hm3⟩; have hsz := HS1.mod.size; have HS1 := HS1.quiet hm3; clear hm3; (first | (have hfr := HS1.own_ 3 rfl; go_loud (have hpl' := HS1.own_ 2 rfl; have n1 := Ne.symm (HS1.apart 0 3 rfl rfl (by omega)); have n2 := Ne.symm (HS1.apart 0 2 rfl rfl (by omega)); have hSA := cells93 hfr hpl'; have hSE := cells93_put hfr hpl' n1 n2; obtain ⟨zc, zf⟩ := (HS1.own_ 0 rfl).both; have zl := (HS1.own_ 0 rfl).lt; clear hfr hpl' n1 n2)) | (have hSA := cells93 (HS1.own_ 2 rfl) (HS1.own_ 1 rfl); have hSB := cells93 ((HS1.alloc 38 #[.int .i64 0, .int .i64 0, .slice none 0 0] rfl).own_ 3 rfl) ((HS1.alloc 38 #[.int .i64 0, .int .i64 0, .slice none 0 0] rfl).own_ 2 rfl); have hSC := cells93 ((HS1.alloc 38 #[.int .i64 (d.wOf pl : Int), .int .i64 (d.hOf pl : Int), .slice (some ⟨b, 0, none⟩) (d.nP pl) k] rfl).own_ 3 rfl) ((HS1.alloc 38 #[.int .i64 (d.wOf pl : Int), .int .i64 (d.hOf pl : Int), .slice (some ⟨b, 0, none⟩) (d.nP pl) k] rfl).own_ 2 rfl)))))
    all_goals (go_wp2_with fail; go_meet)
    all_goals first
      | exact ⟨_, b, k, rfl, (hb3.down hsz).quiet ((Mod.refl _ w3).alloc _), HS1.alloc 38 #[.int .i64 (d.wOf pl : Int), .int .i64 (d.hOf pl : Int), .slice (some ⟨b, 0, none⟩) (d.nP pl) k] rfl⟩
      | (have hz := HS1.own_ 0 rfl
         have hne := hb3.ne_ hz (show 38 ≠ 5 by decide)
         exact ⟨_, b, k, rfl, (((hb3.down hsz).far (p := ⟨_, 0, none⟩) hne _).far (p := ⟨_, 1, none⟩) hne _).far (p := ⟨_, 2, none⟩) hne _, ((HS1.put (i := 0) (u := .int .i64 (d.wOf pl : Int)) (.here rfl)).put (i := 1) (u := .int .i64 (d.hOf pl : Int)) (.here rfl)).put (i := 2) (u := .slice (some ⟨b, 0, none⟩) (d.nP pl) k) (.here rfl)⟩)
  case rest =>
    clear hSA hSB HS1
    obtain ⟨zb, b, k, rfl, hG⟩ := hcut
    rename World => wx
    obtain ⟨pc, pf⟩ := (hG.2.own_ 3 rfl).both
    obtain ⟨qc, qf⟩ := (hG.2.own_ 2 rfl).both
    obtain ⟨zc, zf⟩ := (hG.2.own_ 0 rfl).both
    unfold plV at zc
    have HW := fWith wx d b0 k0 b1 k1 b2 k2 pl b k hpl
    obtain ⟨c0, hc0⟩ : ∃ c, c = if pl = 0 then b else b0 := ⟨_, rfl⟩
    obtain ⟨c1, hc1⟩ : ∃ c, c = if pl = 1 then b else b1 := ⟨_, rfl⟩
    obtain ⟨c2, hc2⟩ : ∃ c, c = if pl = 2 then b else b2 := ⟨_, rfl⟩
    obtain ⟨e0, he0⟩ : ∃ c, c = if pl = 0 then k else k0 := ⟨_, rfl⟩
    obtain ⟨e1, he1⟩ : ∃ c, c = if pl = 1 then k else k1 := ⟨_, rfl⟩
    obtain ⟨e2, he2⟩ : ∃ c, c = if pl = 2 then k else k2 := ⟨_, rfl⟩
    have hF := (HI.out.1.quiet hG.2.mod).set hpl (hG.1.down hB) HI.out.2.2.2.2.2.2
    rw [← hc0, ← hc1, ← hc2, ← he0, ← he1, ← he2] at HW hF
    have H1 := Lib.hid (And.intro hG.2 hF)
    have HW' := Lib.hid HW
    clear hG hc0 hc1 hc2 he0 he1 he2 hF HW
    go_wp2_with fail
    refine HW'.out.mono ?_
    rintro e w4 ⟨rfl, hm4⟩
    have HS4 := H1.out.1.quiet hm4
    have hres := HS4.own_ 1 rfl
    dsimp only at hres
    obtain ⟨rc, rf⟩ := hres.both
    have rl := hres.lt
    have H4 := Lib.hid (And.intro HS4 (And.intro (H1.out.2.quiet hm4) hres))
    unfold frV
    clear HS4 hres hm4 pc pf qc qf zc zf HW'
    go_wp2_with fail
    have hp := (fr_put9 H4.out.2.2 (.int .i64 (d.W : Int)) (.int .i64 (d.H : Int)) (.slice (some ⟨c0, 0, none⟩) d.nY e0) (.int .i64 (d.W2 : Int)) (.int .i64 (d.H2 : Int)) (.slice (some ⟨c1, 0, none⟩) d.nC e1) (.int .i64 (d.W2 : Int)) (.int .i64 (d.H2 : Int)) (.slice (some ⟨c2, 0, none⟩) d.nC e2)).2
    refine bodyPost_ret (v := .agg (frV d c0 e0 c1 e1 c2 e2).toArray) (by simp [results, Tryz.results105, go_sem, rc, frV]) rfl ⟨_, rfl, ⟨_, _, _, _, _, _, rfl, H4.out.2.1.mod hp (fun j e => .inr ⟨_, _, by subst e; exact H4.out.2.2, by decide⟩)⟩, H4.out.1.mod.into hp (fun i e => .inr (by omega))⟩
def MvS (pb vb:Nat) (pl x y:Nat) (ux uy:Int) (w':World):Prop:=Blk w' pb 185 #[.int .i64 (pl:Int),.int .i64 (x:Int),.int .i64 (y:Int)] ∧ Blk w' vb 156 #[.int .i64 ux,.int .i64 uy]
theorem MvS.quiet {pb vb pl x y:Nat} {ux uy:Int} {w w':World} (h:MvS pb vb pl x y ux uy w) (hm:Mod (fun _=>False) w w'):MvS pb vb pl x y ux uy w':=⟨h.1.keep hm (fun h=>h),h.2.keep hm (fun h=>h)⟩
theorem fMoved (w:World) (B:Nat) (d:Dim) (hd:d.Ok) (b0 k0 b1 k1 b2 k2:Nat) (f:Pix) (hf:FrB w B d b0 k0 b1 k1 b2 k2 f) (pl x y:Nat) (hpl:pl < 3) (hx:x + 8 ≤ d.wOf pl) (hy:y + 8 ≤ d.hOf pl) (vx vy:Int) (hvx:-128 ≤ vx ∧ vx ≤ 128) (hvy:-128 ≤ vy ∧ vy ≤ 128) :
  Calls Tryz.prog 104 #[.agg (frV d b0 k0 b1 k1 b2 k2).toArray,.agg #[.int .i64 (pl:Int),.int .i64 (x:Int),.int .i64 (y:Int)],.agg #[.int .i64 vx,.int .i64 vy]] w fun e w'=>∃ v,e = .returned v ∧ Bytes w' w.heap.size v (smoved (d.wOf pl) (d.hOf pl) (f.get pl) x y pl vx vy) ∧ Mod (fun _=>False) w w':=by
 have h0:=(((Sat.nil (fun _=>False) w).alloc 40 #[.int .i64 (d.W:Int),.int .i64 (d.H:Int),.slice (some ⟨b0,0,none⟩) d.nY k0,.int .i64 (d.W2:Int),.int .i64 (d.H2:Int),.slice (some ⟨b1,0,none⟩) d.nC k1,.int .i64 (d.W2:Int),.int .i64 (d.H2:Int),.slice (some ⟨b2,0,none⟩) d.nC k2] rfl).alloc (g:=w.heap.size + 1) 185 #[.int .i64 (pl:Int),.int .i64 (x:Int),.int .i64 (y:Int)] (by simp)).alloc (g:=w.heap.size + 1 + 1) 156 #[.int .i64 vx,.int .i64 vy] (by simp)
 obtain ⟨hbp,hlp⟩:=hf.of hpl
 obtain ⟨hsd,hnn⟩:=hd.of pl
 obtain ⟨_,z1,z2,z3,z4,_⟩:=area_le hsd
 obtain ⟨hvx1,hvx2⟩:=hvx
 obtain ⟨hvy1,hvy2⟩:=hvy
 have hx4:x ≤ 4096:=by omega
 have hy4:y ≤ 4096:=by omega
 have HI:=Lib.hid (And.intro hsd (And.intro hnn (hbp.in_n hlp)))
 have H0:=Lib.hid h0
 clear hf hbp hlp hsd hnn h0 hd z1 z2 z3 z4 hx hy
 obtain ⟨ux,hux⟩:∃ ux,ux = if 0 < pl then vx / 2 else vx:=⟨_,rfl⟩
 obtain ⟨uy,huy⟩:∃ uy,uy = if 0 < pl then vy / 2 else vy:=⟨_,rfl⟩
 have bx:-128 ≤ ux ∧ ux ≤ 128:=by rw [hux];split <;> omega
 have by_:-128 ≤ uy ∧ uy ≤ 128:=by rw [huy];split <;> omega
 have HU:=Lib.hid (And.intro hux huy)
 obtain ⟨bx1,bx2⟩:=bx
 obtain ⟨by1,by2⟩:=by_
 clear hux huy
 unfold frV
 go_enter Tryz.func104,Tryz.ntmps104
 go_upto_if 9 with (fail)
 go_cut [] (fun wx=>Sat (fun _=>False) w wx [⟨w.heap.size + 1 + 1,156,#[.int .i64 ux,.int .i64 uy]⟩,⟨w.heap.size + 1,185,#[.int .i64 (pl:Int),.int .i64 (x:Int),.int .i64 (y:Int)]⟩,⟨w.heap.size,40,#[.int .i64 (d.W:Int),.int .i64 (d.H:Int),.slice (some ⟨b0,0,none⟩) d.nY k0,.int .i64 (d.W2:Int),.int .i64 (d.H2:Int),.slice (some ⟨b1,0,none⟩) d.nC k1,.int .i64 (d.W2:Int),.int .i64 (d.H2:Int),.slice (some ⟨b2,0,none⟩) d.nC k2]⟩] [])
 case first=>
  by_cases hp:0 < pl
  ·have d1:decide (0 < (pl:Int)) = true:=decide_eq_true (by omega)
   go_wp2_with fail
   refine (fChroma _ vx vy ⟨by omega,by omega⟩ ⟨by omega,by omega⟩).mono ?_
   rintro e w2 ⟨rfl,hm⟩
   have HS2:=H0.out.quiet hm
   obtain ⟨vc,vf⟩:=(HS2.own_ 0 rfl).both
   have vl:=(HS2.own_ 0 rfl).lt
   have H2:=Lib.hid HS2
   clear HS2 hm
   go_wp2_with fail
   go_meet
   rw [HU.out.1,HU.out.2,if_pos hp,if_pos hp]
   exact (H2.out.put (g:=w.heap.size + 1 + 1) (i:=0) (u:=.int .i64 (vx / 2)) (.here rfl)).put (g:=w.heap.size + 1 + 1) (i:=1) (u:=.int .i64 (vy / 2)) (.here rfl)
  ·have d1:decide (0 < (pl:Int)) = false:=decide_eq_false (by omega)
   go_wp2_with fail
   go_meet
   rw [HU.out.1,HU.out.2,if_neg hp,if_neg hp]
   exact H0.out
 case rest=>
  rename World=>wx
  have HS:=hcut.drew
  obtain ⟨fc,ff⟩:=(HS.own_ 2 rfl).both
  obtain ⟨pc,pf⟩:=(HS.own_ 1 rfl).both
  have hS0:MvS (w.heap.size + 1) (w.heap.size + 1 + 1) pl x y ux uy wx.drew:=⟨HS.own_ 1 rfl,HS.own_ 0 rfl⟩
  have H1:=Lib.hid (And.intro HS hS0)
  clear hcut HS
  go_upto_region 3 with (fail)
  refine wp_region_planS [3,9] [4,5,6,7,8] (0 :: 1 :: 2 :: 4 :: 5 :: 6 :: 7 :: 8 :: 3 :: 9 :: 10 :: []) (MvS (w.heap.size + 1) (w.heap.size + 1 + 1) pl x y ux uy) (by kernel_rfl) (by kernel_rfl) (fun _ _ _ d _ h=>by cases d <;> exact h) hS0 ?_
  clear hS0
  iterate 3 (refine planS_still rfl rfl (fun K hK=>?_);go_simp;refine hK _ ?_;clear hK K)
  clear fc ff pc pf
  refine planS_pure rfl rfl rfl (fun _ _=>rfl) ?_
  refine planS_pure (v:=.int .i64 (x:Int)) rfl rfl rfl (fun w' hS=>?_) ?_
  ·have cS:=hS.1.cell
   go_simp
  refine planS_pure rfl rfl rfl (fun _ _=>rfl) ?_
  refine planS_pure (v:=.int .i64 (y:Int)) rfl rfl rfl (fun w' hS=>?_) ?_
  ·have cS:=hS.1.cell
   go_simp
  refine planS_pure (v:=.agg #[.int .i64 ux,.int .i64 uy]) rfl rfl rfl (fun w' hS=>?_) ?_
  ·have cS:=hS.2.cell
   go_simp
  refine planS_loud rfl rfl (fun K hK=>?_)
  go_simp
  refine (fPlaneOf _ d b0 k0 b1 k1 b2 k2 pl hpl).mono ?_
  rintro e w2 ⟨rfl,hm2⟩
  have H2:=Lib.hid (And.intro (H1.out.1.quiet hm2) (H1.out.2.quiet hm2))
  dsimp only []
  refine hK _ _ H2.out.2 ?_
  clear hK K hm2
  refine planS_loud rfl rfl (fun K hK=>?_)
  go_simp
  refine (fMvBlock _ (d.wOf pl) (d.hOf pl) _ (d.nP pl) _ (f.get pl) HI.out.1 HI.out.2.1 (HI.out.2.2.quiet H2.out.1.mod) x y ux uy hx4 hy4 ⟨bx1,bx2⟩ ⟨by1,by2⟩).mono ?_
  rintro e w3 ⟨v3,rfl,hv3,hm3⟩
  have H3:=Lib.hid (And.intro (hv3.down H2.out.1.mod.size) (H2.out.1.mod.trans hm3))
  dsimp only []
  refine hK _ _ (H2.out.2.quiet hm3) ?_
  clear hK K hm3 hv3
  refine planS_still rfl rfl (fun K hK=>?_);go_simp;refine hK _ ?_;clear hK K
  refine planS_done ?_
  go_wp2_with fail
  go_ret
  refine ⟨v3,rfl,?_,H3.out.2⟩
  unfold smoved
  rw [← HU.out.1,← HU.out.2]
  exact H3.out.1
theorem pow_bd (p:Int) (k:Nat) (hk:k ≤ 7) (h1:4 ≤ p) (h2:p ≤ 7):4 ≤ p * 2 ^ k ∧ p * 2 ^ k ≤ 896:=by
 have hk:k = 0 ∨ k = 1 ∨ k = 2 ∨ k = 3 ∨ k = 4 ∨ k = 5 ∨ k = 6 ∨ k = 7:=by omega
 rcases hk with e | e | e | e | e | e | e | e <;> rw [e] <;> simp only [Int.reducePow] <;> omega
theorem rstep_yes (w:World) (q x y:Int) (h:stepOk q x y = true):Calls Tryz.prog 154 #[.int .i64 q,.int .i64 x,.int .i64 y] w fun e w'=>e = .returned (.tuple #[.int .i64 (stepOf q x y),.int .i64 0]) ∧ w = w':=by
 unfold stepOk at h
 simp only [decide_eq_true_eq] at h
 obtain ⟨q1,q2,x1,x2,y1,y2⟩:=h
 go_enter Tryz.func154,Tryz.ntmps154
 go_wp2_with fail
 go_loop [8,9] (fun s i=>∃ k:Nat,(k:Int) ≤ q / 4 ∧ i = .int .i64 k ∧ s = .int .i64 ((4 + q % 4) * 2 ^ k)) (fun _ i=>(q / 4 - intOf i).toNat)
 case atStart=>exact ⟨0,by omega,rfl,by simp⟩
 case round=>
  obtain ⟨k,hk,rfl,rfl⟩:=hrel
  have hb:=pow_bd (4 + q % 4) k (by omega) (by omega) (by omega)
  by_cases hlt:(k:Int) < q / 4
  ·have HS:Hid (2 * ((4 + q % 4) * 2 ^ k) = (4 + q % 4) * 2 ^ (k + 1)):=by show _ = _;rw [Int.pow_succ,Int.mul_comm 2,Int.mul_assoc]
   generalize (4 + q % 4) * 2 ^ k = p at *
   go_wp2_with fail
   go_round
   case rel=>exact ⟨k + 1,by omega,by go_num,by rw [← HS.out]⟩
   case measure=>simp [intOf];omega
  ·have hk2:k = (q / 4).toNat:=by omega
   have HE:Hid (stepOf q x y = (4 + q % 4) * 2 ^ k / 4 * (4 + x + y) / 4):=by show _ = _;rw [hk2];rfl
   clear hk2
   generalize (4 + q % 4) * 2 ^ k = p at *
   have h1:1 ≤ p / 4 ∧ p / 4 ≤ 224:=by omega
   have h2:4 ≤ p / 4 * (4 + x + y):=by
    have:=Int.mul_le_mul h1.1 (show 4 ≤ 4 + x + y by omega) (by omega) (by omega)
    omega
   have h3:p / 4 * (4 + x + y) ≤ 224 * 18:=Int.mul_le_mul h1.2 (show 4 + x + y ≤ 18 by omega) (by omega) (by omega)
   go_wp2_with fail
   go_ret2
   exact ⟨by rw [HE.out];rfl,rfl⟩
def rencV (W H G q tg nu:Int) (al:List Value):Array Value:=(.int .i64 W :: .int .i64 H :: .int .i64 G :: .int .i64 q :: .int .i64 tg :: .int .i64 nu :: al).toArray
theorem rencV_part (W H G q tg nu:Int) (d:Dim) (b0 k0 b1 k1 b2 k2:Nat):((rencV W H G q tg nu (frV d b0 k0 b1 k1 b2 k2)).extract 6 (6 + (frV d b0 k0 b1 k1 b2 k2).length)).toList = frV d b0 k0 b1 k1 b2 k2:=rfl
theorem re_pl_idx (pb:Nat) {i:Nat} (hi:i < 6):∀ w,(Instr.indexAt 181 (.slice (some ⟨pb,0,none⟩) 6 6) (.int .i64 (i:Int))).run Tryz.prog w = .ok (.pointer (some ⟨pb,i * 3,none⟩)) w:=by
 have h6:i = 0 ∨ i = 1 ∨ i = 2 ∨ i = 3 ∨ i = 4 ∨ i = 5:=by omega
 rcases h6 with rfl | rfl | rfl | rfl | rfl | rfl <;> intro w <;> kernel_rfl
def RkS (g fb pb:Nat) (rv fv:Array Value) (X Y:Nat) (w':World):Prop:=Blk w' fb 40 fv ∧ Blk w' pb 185 (plL X Y).toArray ∧ Blk w' g 46 rv
theorem RkS.quiet {g fb pb:Nat} {rv fv:Array Value} {X Y:Nat} {w w':World} (h:RkS g fb pb rv fv X Y w) (hm:Mod (fun _=>False) w w'):RkS g fb pb rv fv X Y w':=⟨h.1.keep hm (fun h=>h),h.2.1.keep hm (fun h=>h),h.2.2.keep hm (fun h=>h)⟩
def RkRel (w:World) (g fb pb rb:Nat) (rv fv:Array Value) (X Y:Nat) (F:Nat → Nat) (v11 v12:Value) (wr:World):Prop:=
 ∃ i:Nat,i ≤ 6 ∧ v12 = .int .i64 (i:Int) ∧ v11 = .int .i64 ((F i:Nat):Int) ∧ RkS g fb pb rv fv X Y wr ∧ Blk wr rb 156 #[.int .i64 0,.int .i64 0] ∧ Mod (fun _=>False) w wr
def RkSum (wq:World) (b:List UInt8) (v16 v17:Value) (wr:World):Prop:=∃ i:Nat,i ≤ 256 ∧ v17 = .int .i64 (i:Int) ∧ v16 = .int .i64 ((sumTo b i:Nat):Int) ∧ wq = wr
def RkOff (wq:World) (b:List UInt8) (m:Nat) (v18 v19:Value) (wr:World):Prop:=∃ i:Nat,i ≤ 256 ∧ v19 = .int .i64 (i:Int) ∧ v18 = .int .i64 ((offTo b m i:Nat):Int) ∧ wq = wr
theorem reKind (w:World) (g:Nat) (G tg nu:Int) (q:Nat) (hq:q ≤ 31) (d:Dim) (hd:d.Ok) (B b0 k0 b1 k1 b2 k2:Nat) (ahd:Pix) (hah:FrB w B d b0 k0 b1 k1 b2 k2 ahd) (hx:Blk w g 46 (rencV (d.W:Int) (d.H:Int) G (q:Int) tg nu (frV d b0 k0 b1 k1 b2 k2)))
  (A0 A1 A2:Option Addr) (c0 c1 c2:Nat) (fr:Pix) (hf:FrIn w d (flV d A0 A1 A2 c0 c1 c2) fr) (sx sy:Nat) (hsx:16 * sx + 16 ≤ d.W) (hsy:16 * sy + 16 ≤ d.H) :
  Calls Tryz.prog 100 #[.pointer (some ⟨g,0,none⟩),.agg (flV d A0 A1 A2 c0 c1 c2).toArray,.int .i64 ((16 * sx:Nat):Int),.int .i64 ((16 * sy:Nat):Int)] w (EChPost w (kindS d fr ahd (q:Int) sx sy)):=by
 obtain ⟨_,_,hW,_,hH,_⟩:=area_le hd.sides
 obtain ⟨F,hF⟩:∃ F,F = stillTo d fr ahd sx sy:=⟨_,rfl⟩
 have HFs:=Lib.hid (And.intro hF (fun k=>by rw [hF];exact stillTo_le d fr ahd sx sy k:∀ k,F k ≤ k * 16320))
 obtain ⟨X,hX⟩:∃ X,X = 16 * sx:=⟨_,rfl⟩
 obtain ⟨Y,hY⟩:∃ Y,Y = 16 * sy:=⟨_,rfl⟩
 have HXY:=Lib.hid (And.intro hX hY)
 rw [← hX,← hY]
 rw [← hX] at hsx
 rw [← hY] at hsy
 have h0:=((Sat.nil (fun _=>False) w).alloc 40 (flV d A0 A1 A2 c0 c1 c2).toArray rfl).alloc (g:=w.heap.size + 1) 156 #[.int .i64 0,.int .i64 0] (by simp)
 have HI:=Lib.hid (And.intro hd (And.intro hah (And.intro hx (And.intro hf (And.intro h0 (And.intro hsx hsy))))))
 have hgl:=hx.lt
 clear hF hX hY h0 hd hah hx hf
 have PLc:=fun w=>fPlaces w X Y (by omega) (by omega)
 unfold flV
 go_enter Tryz.func100,Tryz.ntmps100
 go_wp2_with fail
 refine (PLc _).mono ?_
 rintro e w1 ⟨pb,rfl,hpb,hpbl,hm1⟩
 have hS1:RkS g w.heap.size pb (rencV (d.W:Int) (d.H:Int) G (q:Int) tg nu (frV d b0 k0 b1 k1 b2 k2)) (flV d A0 A1 A2 c0 c1 c2).toArray X Y w1:=⟨(HI.out.2.2.2.2.1.quiet hm1).own_ 1 rfl,hpb,HI.out.2.2.1.keep (HI.out.2.2.2.2.1.quiet hm1).mod (fun h=>h)⟩
 have H1:=Lib.hid (And.intro hS1 (And.intro ((HI.out.2.2.2.2.1.quiet hm1).own_ 0 rfl) (HI.out.2.2.2.2.1.quiet hm1).mod))
 clear hpb hpbl hm1 hS1 PLc
 go_wp2_with fail
 go_loopw [11,12] (RkRel w g w.heap.size pb (w.heap.size + 1) (rencV (d.W:Int) (d.H:Int) G (q:Int) tg nu (frV d b0 k0 b1 k1 b2 k2)) (flV d A0 A1 A2 c0 c1 c2).toArray X Y F) (fun _ s _=>6 - (intOf s).toNat)
 case atStart=>exact ⟨0,by omega,rfl,by rw [HFs.out.1];rfl,H1.out⟩
 case round=>
  clear H1
  obtain ⟨i,hi,rfl,rfl,hS,hrb,hM⟩:=hrel
  rename World=>wr
  by_cases hlt:i < 6
  ·have d1:decide ((i:Int) < 6) = true:=decide_eq_true (by omega)
   obtain ⟨p1,p2,p3⟩:=pc_in HI.out.1 hlt HI.out.2.2.2.2.2.1 HI.out.2.2.2.2.2.2
   have hix:=re_pl_idx pb hlt
   have hFb:F i ≤ 97920:=by have:=HFs.out.2 i;omega
   have hFn:Hid (F (i + 1) = F i + farTo (sqL (d.wOf (pcP i)) (fr.get (pcP i)) (pcX X i) (pcY Y i) 8) (sqL (d.wOf (pcP i)) (ahd.get (pcP i)) (pcX X i) (pcY Y i) 8) 64):=by
    show _ = _
    rw [HFs.out.1,HXY.out.1,HXY.out.2]
    rfl
   have HK:=Lib.hid (And.intro hrb hM)
   clear hrb hM
   go_upto_region 6 with (fail)
   refine wp_region_planT [6,16,17] [0,1,2,3,4,5,7,8,9,10,11,12,13,14,15] (1 :: 2 :: 3 :: 4 :: 5 :: 0 :: 7 :: 8 :: 9 :: 10 :: 11 :: 12 :: 13 :: 14 :: 15 :: 6 :: 16 :: 17 :: 18 :: 19 :: []) (RkS g w.heap.size pb (rencV (d.W:Int) (d.H:Int) G (q:Int) tg nu (frV d b0 k0 b1 k1 b2 k2)) (flV d A0 A1 A2 c0 c1 c2).toArray X Y) (by kernel_rfl) (by kernel_rfl) (fun _ _ _ d _ h=>by cases d <;> exact h) (hS.quiet (Mod.refl (fun _=>False) wr).drew) ?_
   have hSd:=Lib.hid (hS.quiet (Mod.refl (fun _=>False) wr).drew)
   clear hS
   refine planT_load rfl rfl _ _ rfl rfl (w.heap.size) 0 rfl (flV d A0 A1 A2 c0 c1 c2) _ (fun w' hS=>hS.1.range 0 _ rfl) Tryz.underlying40 rfl (by kernel_rfl) (fun K hK=>?_);go_simp;refine hK _ ?_;clear hK K
   refine planT_read (v:=(.slice (some ⟨pb,0,none⟩) 6 6)) rfl rfl rfl (fun _ _=>rfl) (fun K hK=>?_);go_simp;refine hK _ ?_;clear hK K
   refine planT_read (v:=.int .i64 (i:Int)) rfl rfl rfl (fun _ _=>rfl) (fun K hK=>?_);go_simp;refine hK _ ?_;clear hK K
   refine planT_idx rfl rfl _ _ _ rfl rfl (.slice (some ⟨pb,0,none⟩) 6 6) (.int .i64 (i:Int)) (.pointer (some ⟨pb,i * 3,none⟩)) rfl rfl hix (fun K hK=>?_);go_simp;refine hK _ ?_;clear hK K
   refine planT_load rfl rfl _ _ rfl rfl pb (i * 3) rfl [.int .i64 (pcP i:Int),.int .i64 (pcX X i:Int),.int .i64 (pcY Y i:Int)] _ (fun w' hS=>hS.2.1.range (i * 3) _ (pl_part X Y i hlt)) Tryz.underlying185 rfl (by kernel_rfl) (fun K hK=>?_);go_simp;refine hK _ ?_;clear hK K
   refine planT_read (v:=.int .i64 ((F i:Nat):Int)) rfl rfl rfl (fun _ _=>rfl) (fun K hK=>?_);go_simp;refine hK _ ?_;clear hK K
   refine planT_read (v:=.pointer (some ⟨g,0,none⟩)) rfl rfl rfl (fun _ _=>rfl) (fun K hK=>?_);go_simp;refine hK _ ?_;clear hK K
   refine planT_read (v:=.pointer (some ⟨g,0,none⟩)) rfl rfl rfl (fun _ _=>rfl) (fun K hK=>?_);go_simp;refine hK _ ?_;clear hK K
   refine planT_read (v:=.pointer (some ⟨g,6,none⟩)) rfl rfl rfl (fun _ _=>rfl) (fun K hK=>?_);go_simp;refine hK _ ?_;clear hK K
   refine planT_load rfl rfl _ _ rfl rfl g 6 rfl (frV d b0 k0 b1 k1 b2 k2) _ (fun w' hS=>hS.2.2.range 6 _ (rencV_part _ _ _ _ _ _ _ _ _ _ _ _ _)) Tryz.underlying40 rfl (by kernel_rfl) (fun K hK=>?_);go_simp;refine hK _ ?_;clear hK K
   refine planT_read (v:=(.slice (some ⟨pb,0,none⟩) 6 6)) rfl rfl rfl (fun _ _=>rfl) (fun K hK=>?_);go_simp;refine hK _ ?_;clear hK K
   refine planT_read (v:=.int .i64 (i:Int)) rfl rfl rfl (fun _ _=>rfl) (fun K hK=>?_);go_simp;refine hK _ ?_;clear hK K
   refine planT_idx rfl rfl _ _ _ rfl rfl (.slice (some ⟨pb,0,none⟩) 6 6) (.int .i64 (i:Int)) (.pointer (some ⟨pb,i * 3,none⟩)) rfl rfl hix (fun K hK=>?_);go_simp;refine hK _ ?_;clear hK K
   refine planT_load rfl rfl _ _ rfl rfl pb (i * 3) rfl [.int .i64 (pcP i:Int),.int .i64 (pcX X i:Int),.int .i64 (pcY Y i:Int)] _ (fun w' hS=>hS.2.1.range (i * 3) _ (pl_part X Y i hlt)) Tryz.underlying185 rfl (by kernel_rfl) (fun K hK=>?_);go_simp;refine hK _ ?_;clear hK K
   refine planT_read (v:=.agg #[.int .i64 0,.int .i64 0]) rfl rfl rfl (fun w' _=>by first | kernel_rfl | go_simp) (fun K hK=>?_);go_simp;refine hK _ ?_;clear hK K
   refine planT_loud rfl rfl (fun K hK=>?_)
   go_simp
   have RB:=Lib.hid (reBlk wr.drew d HI.out.1 A0 A1 A2 c0 c1 c2 fr (HI.out.2.2.2.1.quiet HK.out.2.drew) (pcP i) (pcX X i) (pcY Y i) p1 p2 p3)
   refine RB.out.mono ?_
   rintro e w6 ⟨v6,rfl,hv6,hm6⟩
   obtain ⟨C6,n6,rfl⟩:=own_shape hv6
   have hl6:(sqL (d.wOf (pcP i)) (fr.get (pcP i)) (pcX X i) (pcY Y i) 8).length = 64:=sqL_length _ _ _ _ _
   rw [hl6] at hv6 ⊢
   have H6:=Lib.hid (And.intro hv6.in_ (And.intro (hSd.out.quiet hm6) ((Mod.refl (fun _=>False) wr).drew.trans hm6)))
   dsimp only []
   refine hK _ _ H6.out.2.1 ?_
   clear hK K hm6 hv6 hl6 RB
   have MV:=fMoved w6 B d HI.out.1 b0 k0 b1 k1 b2 k2 ahd (HI.out.2.1.quiet (HK.out.2.trans H6.out.2.2)) (pcP i) (pcX X i) (pcY Y i) p1 p2 p3 0 0 ⟨by omega,by omega⟩ ⟨by omega,by omega⟩
   rw [smoved_zero _ _ p2 p3] at MV
   have HMV:=Lib.hid MV
   clear MV
   refine planT_loud rfl rfl (fun K hK=>?_)
   go_simp
   refine HMV.out.mono ?_
   rintro e w7 ⟨v7,rfl,hv7,hm7⟩
   obtain ⟨C7,n7,rfl⟩:=own_shape hv7
   have hl7:(sqL (d.wOf (pcP i)) (ahd.get (pcP i)) (pcX X i) (pcY Y i) 8).length = 64:=sqL_length _ _ _ _ _
   rw [hl7] at hv7 ⊢
   have H7:=Lib.hid (And.intro (H6.out.1.quiet hm7) (And.intro hv7.in_ (And.intro (H6.out.2.1.quiet hm7) (H6.out.2.2.trans hm7))))
   dsimp only []
   refine hK _ _ H7.out.2.2.1 ?_
   clear hK K hm7 hv7 hl7 HMV
   have FA:=Lib.hid (reFar w7 C6 64 n6 _ C7 n7 _ H7.out.1 H7.out.2.1 (by omega) (by omega))
   refine planT_loud rfl rfl (fun K hK=>?_)
   go_simp
   refine FA.out.mono ?_
   rintro e w8 ⟨rfl,m8,rfl⟩
   have H8:=Lib.hid (And.intro (H7.out.2.2.1.quiet (Mod.drewN (Mod.refl _ _) m8)) (H7.out.2.2.2.drewN m8))
   dsimp only []
   refine hK _ _ H8.out.1 ?_
   clear hK K FA
   have hfl:=farTo_le (sqL (d.wOf (pcP i)) (fr.get (pcP i)) (pcX X i) (pcY Y i) 8) (sqL (d.wOf (pcP i)) (ahd.get (pcP i)) (pcX X i) (pcY Y i) 8) 64
   generalize farTo (sqL (d.wOf (pcP i)) (fr.get (pcP i)) (pcX X i) (pcY Y i) 8) (sqL (d.wOf (pcP i)) (ahd.get (pcP i)) (pcX X i) (pcY Y i) 8) 64 = z at *
   iterate 2 (refine planT_still rfl rfl (fun K hK=>?_);go_simp;refine hK _ ?_;clear hK K)
   refine planT_done ?_
   go_wp2_with fail
   go_roundw
   case rel=>exact ⟨i + 1,by omega,by go_num,congrArg (Value.int .i64) (by rw [hFn.out,IntWalk.i64_in _ ⟨by omega,by omega⟩];omega),H8.out.1,HK.out.1.keep H8.out.2 (fun h=>h),HK.out.2.trans H8.out.2⟩
   case measure=>simp [intOf];omega
  ·obtain rfl:i = 6:=by omega
   have hF6:=HFs.out.2 6
   obtain ⟨st,hst⟩:∃ st,st = F 6:=⟨_,rfl⟩
   rw [← hst] at hF6 ⊢
   have HST:=Lib.hid hst
   clear hst
   have hok:stepOk (q:Int) 0 0 = true:=by unfold stepOk;rw [decide_eq_true_eq];omega
   have hbd:=step_bd (q:Int) 0 0 hok
   obtain ⟨_,st1,st2,_⟩:=hbd
   have SP:=Lib.hid (fun w=>rstep_yes w (q:Int) 0 0 hok)
   obtain ⟨sp,hsp⟩:∃ sp,sp = stepOf (q:Int) 0 0:=⟨_,rfl⟩
   rw [← hsp] at SP st1 st2
   have HSP:=Lib.hid hsp
   clear hsp hok
   have gc:=hS.2.2.cell
   have q3:wr.cell? ⟨g,3,none⟩ = some (.int .i64 (q:Int)):=gc 3
   clear gc
   have HB:=Lib.hid (And.intro hS (And.intro hrb hM))
   clear hS hrb hM
   by_cases hstill:(st:Int) ≤ 16 * sp
   ·have d1:decide ((st:Int) ≤ 16 * sp) = true:=decide_eq_true hstill
    have hR:kindS d fr ahd (q:Int) sx sy = ⟨0,0,0⟩:=by
     unfold kindS
     rw [if_pos (by rw [← HSP.out,← HFs.out.1,← HST.out];exact hstill)]
    have HR:=Lib.hid hR
    obtain ⟨rc,rf⟩:=HB.out.2.1.both
    have rl:=HB.out.2.1.lt
    clear hR
    go_wp2_with fail
    refine (SP.out _).mono ?_
    rintro e w2 ⟨rfl,rfl⟩
    go_wp2_with fail
    have hb2:Blk ((wr.setCell ⟨w.heap.size + 1,0,none⟩ (.int .i64 0)).setCell ⟨w.heap.size + 1,1,none⟩ (.int .i64 0)) (w.heap.size + 1) 156 #[.int .i64 0,.int .i64 0]:=(HB.out.2.1.put rfl).put rfl
    have hm2:Mod (fun _=>False) w ((wr.setCell ⟨w.heap.size + 1,0,none⟩ (.int .i64 0)).setCell ⟨w.heap.size + 1,1,none⟩ (.int .i64 0)):=(HB.out.2.2.setCell (.inr (Nat.le_succ _)) _).setCell (.inr (Nat.le_succ _)) _
    generalize (wr.setCell ⟨w.heap.size + 1,0,none⟩ (.int .i64 0)).setCell ⟨w.heap.size + 1,1,none⟩ (.int .i64 0) = w9 at *
    obtain ⟨rc2,_⟩:=hb2.both
    rw [HR.out]
    exact bodyPost_ret (v:=.tuple #[.int .i64 0,.agg #[.int .i64 0,.int .i64 0]]) (by simp [results,Tryz.results100,go_sem,rc2]) rfl ⟨rfl,hm2⟩
   ·have d1:decide ((st:Int) ≤ 16 * sp) = false:=decide_eq_false hstill
    go_wp2_with fail
    refine (SP.out _).mono ?_
    rintro e w2 ⟨rfl,rfl⟩
    go_upto_region 10 with (fail)
    have hfc:=HB.out.1.1.cell
    have fc0:wr.cell? ⟨w.heap.size,0,none⟩ = some (.int .i64 (d.W:Int)):=hfc 0
    have fc1:wr.cell? ⟨w.heap.size,1,none⟩ = some (.int .i64 (d.H:Int)):=hfc 1
    have fc2:wr.cell? ⟨w.heap.size,2,none⟩ = some (.slice A0 d.nY c0):=hfc 2
    clear hfc
    obtain ⟨hin0,_⟩:=(HI.out.2.2.2.1.quiet HB.out.2.2).at_ (pl:=0) (by omega)
    obtain ⟨hsd0,hnn0⟩:=HI.out.1.nOf 0
    have PB:=Lib.hid (rePBlk16 wr d.W d.H A0 d.nY c0 fr.Y hsd0 hnn0 hin0 X Y HI.out.2.2.2.2.2.1 HI.out.2.2.2.2.2.2)
    clear hin0 hsd0 hnn0
    go_wp2_with fail
    refine PB.out.mono ?_
    rintro e w2 ⟨v2,rfl,hv2,hm2⟩
    obtain ⟨C2,n2,rfl⟩:=own_shape hv2
    have hl2:(sqL d.W fr.Y X Y 16).length = 256:=sqL_length _ _ _ _ _
    rw [hl2] at hv2 ⊢
    have HU:Hid (sqL d.W fr.Y X Y 16 = sqL d.W fr.Y (16 * sx) (16 * sy) 16):=by show _ = _;rw [← HXY.out.1,← HXY.out.2]
    have hin2:=hv2.in_
    have H2:=Lib.hid (And.intro (HB.out.1.quiet hm2) (And.intro (HB.out.2.1.keep hm2 (fun h=>h)) (HB.out.2.2.trans hm2)))
    clear hv2 hm2 fc0 fc1 fc2 q3 PB hl2
    generalize sqL d.W fr.Y X Y 16 = L at *
    obtain ⟨lb,lo,rfl,hlb,hlc⟩:=hin2.place (by omega)
    have HL:=Lib.hid (And.intro hlc hin2)
    clear hlc hin2
    go_wp2_with fail
    go_loopw [16,17] (RkSum w2 L) (fun _ s _=>256 - (intOf s).toNat)
    case atStart=>exact ⟨0,by omega,rfl,rfl,rfl⟩
    case round=>
     obtain ⟨i,hi,rfl,rfl,rfl⟩:=hrel
     by_cases hli:i < 256
     ·have d2:decide ((i:Int) < 256) = true:=decide_eq_true (by omega)
      have hc:=HL.out.1 i hli
      have h8:(L.getD i 0).toNat < 256:=UInt8.toNat_lt _
      have hsb:=sumTo_le L i
      have hn:Hid (sumTo L (i + 1) = sumTo L i + (L.getD i 0).toNat):=rfl
      generalize (L.getD i 0).toNat = z at *
      generalize sumTo L i = s0 at *
      have i0:(0:Int) ≤ (i:Int):=by omega
      have i1:(i:Int) < 256:=by omega
      have hs0:s0 ≤ 65280:=by omega
      go_wp2_with fail
      go_roundw
      case rel=>exact ⟨i + 1,by omega,by go_num,by rw [hn.out];go_num,rfl⟩
      case measure=>simp [intOf];omega
     ·obtain rfl:i = 256:=by omega
      have hsb:=sumTo_le L 256
      have hRL:Hid (roughL L = offTo L (sumTo L 256 / 256) 256):=rfl
      generalize sumTo L 256 = s0 at *
      obtain ⟨m,hm⟩:∃ m,m = s0 / 256:=⟨_,rfl⟩
      rw [← hm] at hRL
      have hm1:(s0:Int) / 256 = (m:Int):=by omega
      have hm2:(s0:Int).tdiv 256 = (m:Int):=by rw [Int.tdiv_eq_ediv_of_nonneg (by omega)];exact hm1
      have hm8:m ≤ 255:=by omega
      have hs0:s0 ≤ 65280:=by omega
      clear hm hsb
      go_wp2_with fail
      go_loopw [18,19] (RkOff w2 L m) (fun _ s _=>256 - (intOf s).toNat)
      case atStart=>exact ⟨0,by omega,rfl,rfl,rfl⟩
      case round=>
       obtain ⟨i,hi,rfl,rfl,rfl⟩:=hrel
       by_cases hli:i < 256
       ·have d2:decide ((i:Int) < 256) = true:=decide_eq_true (by omega)
        have hc:=HL.out.1 i hli
        have h8:(L.getD i 0).toNat < 256:=UInt8.toNat_lt _
        have hob:=offTo_le L m i hm8
        have hn:Hid (offTo L m (i + 1) = offTo L m i + (((L.getD i 0).toNat:Int) - (m:Int)).natAbs):=rfl
        generalize (L.getD i 0).toNat = z at *
        generalize offTo L m i = o0 at *
        have i0:(0:Int) ≤ (i:Int):=by omega
        have i1:(i:Int) < 256:=by omega
        have hs1:o0 ≤ 65280:=by omega
        clear hob
        obtain ⟨y,hy⟩:∃ y,y = (z:Int) - (m:Int):=⟨_,rfl⟩
        have hy':(z:Int) - (m:Int) = y:=hy.symm
        rw [hy'] at hn
        have hy1:-256 < y:=by omega
        have hy2:y < 256:=by omega
        have hw1:IntKind.i64.wrap ((z:Int) - (m:Int)) = y:=by rw [hy'];exact IntWalk.i64_in _ ⟨by omega,by omega⟩
        clear hy
        go_wp2_with fail
        go_roundw
        case rel=>exact ⟨i + 1,by omega,by go_num,congrArg (Value.int .i64) (by rw [hn.out];first | omega | (split <;> omega)),rfl⟩
        case measure=>simp [intOf];omega
       ·obtain rfl:i = 256:=by omega
        rw [← hRL.out]
        have hrl:roughL L ≤ 65280:=by rw [hRL.out];exact offTo_le L m 256 hm8
        have hKS:kindS d fr ahd (q:Int) sx sy = if (searchS d.W d.H ahd.Y X Y L).far ≤ roughL L then ⟨1,(searchS d.W d.H ahd.Y X Y L).vx,(searchS d.W d.H ahd.Y X Y L).vy⟩ else ⟨2,0,0⟩:=by
         unfold kindS
         rw [if_neg (by rw [← HSP.out,← HFs.out.1,← HST.out];omega),← HU.out,← HXY.out.1,← HXY.out.2]
        have gc:=H2.out.1.2.2.cell
        have g6:w2.cell? ⟨g,6,none⟩ = some (.int .i64 (d.W:Int)):=gc 6
        have g7:w2.cell? ⟨g,7,none⟩ = some (.int .i64 (d.H:Int)):=gc 7
        have g8:w2.cell? ⟨g,8,none⟩ = some (.slice (some ⟨b0,0,none⟩) d.nY k0):=gc 8
        clear gc hRL hm1 hm2
        obtain ⟨hsd0,hnn0⟩:=HI.out.1.nOf 0
        have hfy:=HI.out.2.1.quiet H2.out.2.2
        have SE:=reSearch w2 d.W d.H (some ⟨b0,0,none⟩) d.nY k0 ahd.Y hsd0 hnn0 (hfy.y.in_n hfy.ly) X Y HI.out.2.2.2.2.2.1 HI.out.2.2.2.2.2.2 (some ⟨lb,lo,none⟩) n2 L HL.out.2
        have hbd:=seTo_bd d.W d.H ahd.Y X Y L 81 (Nat.le_refl _)
        obtain ⟨sr,hsr⟩:∃ sr,sr = searchS d.W d.H ahd.Y X Y L:=⟨_,rfl⟩
        have hsr2:seTo d.W d.H ahd.Y X Y L 81 = sr:=hsr.symm
        rw [hsr2] at hbd
        rw [← hsr] at SE hKS
        obtain ⟨⟨bd1,bd2⟩,⟨bd3,bd4⟩,bd5⟩:=hbd
        have HSE:=Lib.hid (And.intro SE hKS)
        clear SE hKS hfy hsd0 hnn0 hsr hsr2
        generalize roughL L = rl at *
        go_wp2_with fail
        refine HSE.out.1.mono ?_
        rintro e w3 ⟨v3,rfl,hm3⟩
        have H3:=Lib.hid (And.intro (H2.out.2.1.keep hm3 (fun h=>h)) (H2.out.2.2.trans hm3))
        clear hm3 g6 g7 g8
        have h3a:=(Sat.nil (fun _=>False) w3).alloc 156 #[.int .i64 sr.vx,.int .i64 sr.vy] rfl
        have hrb3:Blk (w3.alloc (.cells #[.int .i64 sr.vx,.int .i64 sr.vy] 156)) (w.heap.size + 1) 156 #[.int .i64 0,.int .i64 0]:=H3.out.1.alloc _
        have H4:=Lib.hid (And.intro (h3a.own_ 0 rfl) (And.intro hrb3 (H3.out.2.alloc (.cells #[.int .i64 sr.vx,.int .i64 sr.vy] 156))))
        clear h3a hrb3
        by_cases hfr:sr.far ≤ rl
        ·have d3:decide ((sr.far:Int) ≤ (rl:Int)) = true:=decide_eq_true (by omega)
         have HR:=Lib.hid (HSE.out.2.trans (if_pos hfr))
         clear HSE
         go_upto_region 24 with (fail)
         generalize w3.alloc (.cells #[.int .i64 sr.vx,.int .i64 sr.vy] 156) = w4 at *
         refine wp_region_planS [2] [] (0 :: 1 :: 2 :: []) (fun _=>True) (by kernel_rfl) (by kernel_rfl) (fun _ _ _ d _ h=>by cases d <;> exact h) trivial ?_
         obtain ⟨vc,vf⟩:=H4.out.1.both
         obtain ⟨rc,rf⟩:=H4.out.2.1.both
         have rl0:=H4.out.2.1.lt
         iterate 2 (refine planS_still rfl rfl (fun K hK=>?_);go_simp;refine hK _ ?_;clear hK K)
         refine planS_loud rfl rfl (fun K hK=>?_)
         go_simp
         refine hK _ _ trivial ?_
         clear hK K
         refine planS_done ?_
         have hb2:Blk ((w4.setCell ⟨w.heap.size + 1,0,none⟩ (.int .i64 sr.vx)).setCell ⟨w.heap.size + 1,1,none⟩ (.int .i64 sr.vy)).drew (w.heap.size + 1) 156 #[.int .i64 sr.vx,.int .i64 sr.vy]:=((H4.out.2.1.put rfl).put rfl).drew
         have hm2:Mod (fun _=>False) w ((w4.setCell ⟨w.heap.size + 1,0,none⟩ (.int .i64 sr.vx)).setCell ⟨w.heap.size + 1,1,none⟩ (.int .i64 sr.vy)).drew:=((H4.out.2.2.setCell (.inr (Nat.le_succ _)) _).setCell (.inr (Nat.le_succ _)) _).drew
         generalize ((w4.setCell ⟨w.heap.size + 1,0,none⟩ (.int .i64 sr.vx)).setCell ⟨w.heap.size + 1,1,none⟩ (.int .i64 sr.vy)).drew = w9 at *
         obtain ⟨rc2,_⟩:=hb2.both
         clear hb2 rc rf rl0 vc vf
         go_wp2_with fail
         rw [HR.out]
         exact bodyPost_ret (v:=.tuple #[.int .i64 1,.agg #[.int .i64 sr.vx,.int .i64 sr.vy]]) (by simp [results,Tryz.results100,go_sem,rc2]) rfl ⟨rfl,hm2⟩
        ·have d3:decide ((sr.far:Int) ≤ (rl:Int)) = false:=decide_eq_false (by omega)
         have HR:=Lib.hid (HSE.out.2.trans (if_neg hfr))
         clear HSE
         go_upto_region 25 with (fail)
         generalize w3.alloc (.cells #[.int .i64 sr.vx,.int .i64 sr.vy] 156) = w4 at *
         obtain ⟨rc,rf⟩:=H4.out.2.1.both
         have rl0:=H4.out.2.1.lt
         go_wp2_with fail
         have hb2:Blk ((w4.setCell ⟨w.heap.size + 1,0,none⟩ (.int .i64 0)).setCell ⟨w.heap.size + 1,1,none⟩ (.int .i64 0)) (w.heap.size + 1) 156 #[.int .i64 0,.int .i64 0]:=(H4.out.2.1.put rfl).put rfl
         have hm2:Mod (fun _=>False) w ((w4.setCell ⟨w.heap.size + 1,0,none⟩ (.int .i64 0)).setCell ⟨w.heap.size + 1,1,none⟩ (.int .i64 0)):=(H4.out.2.2.setCell (.inr (Nat.le_succ _)) _).setCell (.inr (Nat.le_succ _)) _
         generalize (w4.setCell ⟨w.heap.size + 1,0,none⟩ (.int .i64 0)).setCell ⟨w.heap.size + 1,1,none⟩ (.int .i64 0) = w9 at *
         obtain ⟨rc2,_⟩:=hb2.both
         rw [HR.out]
         exact bodyPost_ret (v:=.tuple #[.int .i64 2,.agg #[.int .i64 0,.int .i64 0]]) (by simp [results,Tryz.results100,go_sem,rc2]) rfl ⟨rfl,hm2⟩
end Go.Proofs.YtmkopcojnibhlaaGreatDoor

