/-
  The reference's encoder: a square.
-/
import Derived.Test.YtmkopcojnibhlaaGreatDoorP34
import Derived.Test.YtmkopcojnibhlaaGreatDoorP35
import Derived.Test.YtmkopcojnibhlaaGreatDoorP24
namespace Go.Proofs.YtmkopcojnibhlaaGreatDoor
open Go.RowKit
set_option maxRecDepth 100000
set_option maxHeartbeats 8000000
def RSqPost (wA w:World) (bk cg:Nat) (v:Value) (B:Nat) (d:Dim) (r:Pix × Es) (e:Ending) (w':World):Prop:=
 ∃ v' e0 j0 e1 j1 e2 j2,e = .returned (.agg (frV d e0 j0 e1 j1 e2 j2).toArray) ∧ RSq wA w' bk cg v' r.2 B d e0 j0 e1 j1 e2 j2 r.1 ∧ (∀ j,v'.ownBlock = some j → v.ownBlock = some j ∨ w.heap.size ≤ j) ∧ Mod (Sq3 bk cg v) w w'
structure SqB4 (wr:World) (gb fb vb rb:Nat) (gv fv:Array Value) (vx vy:Int):Prop where
 g_:Blk wr gb 40 gv
 f_:Blk wr fb 40 fv
 v_:Blk wr vb 156 #[.int .i64 vx,.int .i64 vy]
 r_:Blk wr rb 40 zeroFr.toArray
theorem SqB4.quiet {wr w':World} {gb fb vb rb:Nat} {gv fv:Array Value} {vx vy:Int} (h:SqB4 wr gb fb vb rb gv fv vx vy) (hm:Mod (fun _=>False) wr w'):SqB4 w' gb fb vb rb gv fv vx vy:=
 ⟨h.g_.keep hm (fun h=>h),h.f_.keep hm (fun h=>h),h.v_.keep hm (fun h=>h),h.r_.keep hm (fun h=>h)⟩
theorem SqB4.put {wr w':World} {bk cg:Nat} {v:Value} {s:Es} {gb fb vb rb:Nat} {gv fv:Array Value} {vx vy:Int} (h:SqB4 wr gb fb vb rb gv fv vx vy) (he:REb wr bk cg v s) (hm:Mod (Sq3 bk cg v) wr w'):SqB4 w' gb fb vb rb gv fv vx vy:=
 ⟨h.g_.keep hm (he.off h.g_ (by decide) (by decide) (by decide)),h.f_.keep hm (he.off h.f_ (by decide) (by decide) (by decide)),h.v_.keep hm (he.off h.v_ (by decide) (by decide) (by decide)),h.r_.keep hm (he.off h.r_ (by decide) (by decide) (by decide))⟩
def RSqC (wA w:World) (bk cg:Nat) (v:Value) (B:Nat) (d:Dim) (e0 j0 e1 j1 e2 j2:Nat) (f:Pix) (gb fb vb rb:Nat) (gv fv:Array Value) (kd:Kind) (s2:Es) (v15:Value) (wx:World):Prop:=
 v15 = .int .i64 (kd.k:Int) ∧ ∃ v',RSq wA wx bk cg v' s2 B d e0 j0 e1 j1 e2 j2 f ∧ SqB4 wx gb fb vb rb gv fv kd.vx kd.vy ∧ (∀ j,v'.ownBlock = some j → v.ownBlock = some j ∨ w.heap.size ≤ j) ∧ Mod (Sq3 bk cg v) w wx
def RSqRel (wA w:World) (bk cg:Nat) (v:Value) (B:Nat) (d:Dim) (gb fb pb vb rb:Nat) (fv:Array Value) (X Y:Nat) (kd:Kind) (F:Nat → Pix × Es) (v18:Value) (wr:World):Prop:=
 ∃ (i:Nat) (v':Value) (e0 j0 e1 j1 e2 j2:Nat),i ≤ 6 ∧ v18 = .int .i64 (i:Int) ∧ RSq wA wr bk cg v' (F i).2 B d e0 j0 e1 j1 e2 j2 (F i).1 ∧ SqB wr gb fb pb vb rb d e0 j0 e1 j1 e2 j2 fv X Y kd.vx kd.vy ∧ (∀ j,v'.ownBlock = some j → v.ownBlock = some j ∨ w.heap.size ≤ j) ∧ Mod (Sq3 bk cg v) w wr
def SqMid (wA w wr:World) (g:Nat) (rv:Array Value) (bk cg:Nat) (v:Value) (B:Nat) (d:Dim) (e0 j0 e1 j1 e2 j2:Nat) (f:Pix) (gb fb pb vb rb:Nat) (fv:Array Value) (X Y:Nat) (vx vy:Int) (C4:Option Addr) (n4:Nat) (C5:Option Addr) (n5:Nat) (b gs:List UInt8) (q:Int) (pl x y:Nat) (r:Pix × Es):Prop:=
 ∃ (v':Value) (s5:Es) (Bw Bg:Nat),SqR wA w wr g rv bk cg v v' s5 B d e0 j0 e1 j1 e2 j2 f gb fb pb vb rb fv X Y vx vy ∧ Bytes wr Bw (.slice C4 64 n4) b ∧ Bytes wr Bg (.slice C5 64 n5) gs ∧ gs.length = 64 ∧ b.length = 64 ∧ s5.code.length + 2780 ≤ 1048576 ∧ r = eblkG d b gs q pl x y f s5
theorem reSquare (wA w:World) (g:Nat) (G tg:Int) (q nu:Nat) (hq:q ≤ 31) (d:Dim) (hd:d.Ok) (hs:d.nY ≤ 1048576) (al:List Value) (ahd:Pix) (hx:Blk wA g 46 (rencV (d.W:Int) (d.H:Int) G (q:Int) tg (nu:Int) al))
  (hah:nu ≠ 0 → ∃ B' b0 k0 b1 k1 b2 k2,al = frV d b0 k0 b1 k1 b2 k2 ∧ FrB wA B' d b0 k0 b1 k1 b2 k2 ahd)
  (A0 A1 A2:Option Addr) (c0 c1 c2:Nat) (fr:Pix) (hf:FrIn wA d (flV d A0 A1 A2 c0 c1 c2) fr)
  (bk cg:Nat) (v:Value) (s:Es) (B e0 j0 e1 j1 e2 j2:Nat) (f:Pix) (h:RSq wA w bk cg v s B d e0 j0 e1 j1 e2 j2 f)
  (sx sy:Nat) (hsx:16 * sx + 16 ≤ d.W) (hsy:16 * sy + 16 ≤ d.H) (hl:s.code.length + 20000 ≤ 1048576) :
  Calls Tryz.prog 58 #[.pointer (some ⟨g,0,none⟩),.pointer (some ⟨cg,0,none⟩),.pointer (some ⟨bk,0,none⟩),.agg (flV d A0 A1 A2 c0 c1 c2).toArray,.agg (frV d e0 j0 e1 j1 e2 j2).toArray,.int .i64 ((16 * sx:Nat):Int),.int .i64 ((16 * sy:Nat):Int)] w
   (RSqPost wA w bk cg v B d (esquareS d fr ahd (nu == 0) (q:Int) sx sy f s)):=by
 obtain ⟨kd,hkd⟩:∃ kd,kd = ekind d fr ahd (nu == 0) (q:Int) sx sy:=⟨_,rfl⟩
 have hkf:=ekind_facts d fr ahd (nu == 0) (q:Int) sx sy
 have hln:=eput3_len (d:=d) (fr:=fr) (ahd:=ahd) (K:=(nu == 0)) (Q:=(q:Int)) sx sy s
 have hR:esquareS d fr ahd (nu == 0) (q:Int) sx sy f s = eblkTo d fr ahd kd.k (q:Int) sx sy kd.vx kd.vy f (evput kd (ekput (nu == 0) kd.k s)) 6:=by rw [hkd];rfl
 rw [← hkd] at hkf hln
 have hb0:=(((((Sat.nil (fun _=>False) w).alloc 40 #[.int .i64 (d.W:Int),.int .i64 (d.H:Int),.slice A0 d.nY c0,.int .i64 (d.W2:Int),.int .i64 (d.H2:Int),.slice A1 d.nC c1,.int .i64 (d.W2:Int),.int .i64 (d.H2:Int),.slice A2 d.nC c2] rfl).alloc (g:=w.heap.size + 1) 40 #[.int .i64 (d.W:Int),.int .i64 (d.H:Int),.slice (some ⟨e0,0,none⟩) d.nY j0,.int .i64 (d.W2:Int),.int .i64 (d.H2:Int),.slice (some ⟨e1,0,none⟩) d.nC j1,.int .i64 (d.W2:Int),.int .i64 (d.H2:Int),.slice (some ⟨e2,0,none⟩) d.nC j2] (by simp)).alloc (g:=w.heap.size + 1 + 1) 40 #[.int .i64 0,.int .i64 0,.slice none 0 0,.int .i64 0,.int .i64 0,.slice none 0 0,.int .i64 0,.int .i64 0,.slice none 0 0] (by simp)).alloc (g:=w.heap.size + 1 + 1 + 1) 156 #[.int .i64 0,.int .i64 0] (by simp))
 have H0:=Lib.hid (And.intro h (And.intro hb0 (And.intro hx (And.intro hah (And.intro hf (And.intro hkd (And.intro hkf (And.intro hln hR))))))))
 clear hx hah hf h hb0 hkd hkf hln hR
 unfold flV frV
 go_enter Tryz.func58,Tryz.ntmps58
 go_upto_region 3 with (fail)
 generalize (((w.alloc (.cells #[.int .i64 (d.W:Int),.int .i64 (d.H:Int),.slice A0 d.nY c0,.int .i64 (d.W2:Int),.int .i64 (d.H2:Int),.slice A1 d.nC c1,.int .i64 (d.W2:Int),.int .i64 (d.H2:Int),.slice A2 d.nC c2] 40)).alloc (.cells #[.int .i64 (d.W:Int),.int .i64 (d.H:Int),.slice (some ⟨e0,0,none⟩) d.nY j0,.int .i64 (d.W2:Int),.int .i64 (d.H2:Int),.slice (some ⟨e1,0,none⟩) d.nC j1,.int .i64 (d.W2:Int),.int .i64 (d.H2:Int),.slice (some ⟨e2,0,none⟩) d.nC j2] 40)).alloc (.cells #[.int .i64 0,.int .i64 0,.slice none 0 0,.int .i64 0,.int .i64 0,.slice none 0 0,.int .i64 0,.int .i64 0,.slice none 0 0] 40)).alloc (.cells #[.int .i64 0,.int .i64 0] 156) = w1 at *
 have hM1:=H0.out.1.mod.trans H0.out.2.1.mod
 have hx1:=H0.out.2.2.1.keep hM1 (fun h=>h)
 have n5:w1.cell? ⟨g,5,none⟩ = some (.int .i64 (nu:Int)):=hx1.cell 5
 have hB1:SqB4 w1 (w.heap.size + 1) w.heap.size (w.heap.size + 1 + 1 + 1) (w.heap.size + 1 + 1) #[.int .i64 (d.W:Int),.int .i64 (d.H:Int),.slice (some ⟨e0,0,none⟩) d.nY j0,.int .i64 (d.W2:Int),.int .i64 (d.H2:Int),.slice (some ⟨e1,0,none⟩) d.nC j1,.int .i64 (d.W2:Int),.int .i64 (d.H2:Int),.slice (some ⟨e2,0,none⟩) d.nC j2] #[.int .i64 (d.W:Int),.int .i64 (d.H:Int),.slice A0 d.nY c0,.int .i64 (d.W2:Int),.int .i64 (d.H2:Int),.slice A1 d.nC c1,.int .i64 (d.W2:Int),.int .i64 (d.H2:Int),.slice A2 d.nC c2] 0 0:=⟨H0.out.2.1.own_ 2 rfl,H0.out.2.1.own_ 3 rfl,H0.out.2.1.own_ 0 rfl,H0.out.2.1.own_ 1 rfl⟩
 have H1:=Lib.hid (And.intro (H0.out.1.quiet H0.out.2.1.mod) (And.intro hB1 (And.intro H0.out.2.1.mod hx1)))
 clear hM1 hx1 hB1
 go_upto_if 34 with (fail)
 go_cut [15] (fun v15 wx=>RSqC wA w bk cg v B d e0 j0 e1 j1 e2 j2 f (w.heap.size + 1) w.heap.size (w.heap.size + 1 + 1 + 1) (w.heap.size + 1 + 1) #[.int .i64 (d.W:Int),.int .i64 (d.H:Int),.slice (some ⟨e0,0,none⟩) d.nY j0,.int .i64 (d.W2:Int),.int .i64 (d.H2:Int),.slice (some ⟨e1,0,none⟩) d.nC j1,.int .i64 (d.W2:Int),.int .i64 (d.H2:Int),.slice (some ⟨e2,0,none⟩) d.nC j2] #[.int .i64 (d.W:Int),.int .i64 (d.H:Int),.slice A0 d.nY c0,.int .i64 (d.W2:Int),.int .i64 (d.H2:Int),.slice A1 d.nC c1,.int .i64 (d.W2:Int),.int .i64 (d.H2:Int),.slice A2 d.nC c2] kd (ekput (nu == 0) kd.k s) v15 wx)
 case first=>
  by_cases hnu:nu = 0
  ·subst hnu
   have hk:kd = ⟨2,0,0⟩:=H0.out.2.2.2.2.2.1
   have HKD:=Lib.hid hk
   clear hk
   go_wp2_with fail
   go_meet
   rw [HKD.out]
   exact ⟨rfl,v,H1.out.1,H1.out.2.1,fun j e=>.inl e,H1.out.2.2.1.mono (fun _ h=>h.elim)⟩
  ·have d1:decide (0 < (nu:Int)) = true:=decide_eq_true (by omega)
   obtain ⟨B',b0,k0,b1,k1,b2,k2,rfl,hfa⟩:=H0.out.2.2.2.1 hnu
   have hK:(nu == 0) = false:=by simpa using hnu
   have KC:=reKind w1 g G tg (nu:Int) q hq d hd B' b0 k0 b1 k1 b2 k2 ahd (hfa.quiet H1.out.1.mod) H1.out.2.2.2 A0 A1 A2 c0 c1 c2 fr (H0.out.2.2.2.2.1.quiet H1.out.1.mod) sx sy hsx hsy
   have hke:kindS d fr ahd (q:Int) sx sy = kd:=by rw [H0.out.2.2.2.2.2.1,hK];rfl
   rw [hke] at KC
   unfold flV at KC
   have hkf:=H0.out.2.2.2.2.2.2.1
   obtain ⟨kk,hkk⟩:∃ kk,kk = kd.k:=⟨_,rfl⟩
   obtain ⟨kx,hkx⟩:∃ kx,kx = kd.vx:=⟨_,rfl⟩
   obtain ⟨ky,hky⟩:∃ ky,ky = kd.vy:=⟨_,rfl⟩
   unfold EChPost at KC
   rw [← hkk,← hkx,← hky] at KC
   have hk3:kk < 3:=by rw [hkk];exact hkf.1
   have HKC:=Lib.hid KC
   have HN:=Lib.hid (And.intro hK (And.intro hkk (And.intro hkx hky)))
   obtain ⟨fc,ff⟩:=H1.out.2.1.f_.both
   clear KC hke hkf hkk hkx hky hK hfa
   go_wp2_with fail
   refine HKC.out.mono ?_
   rintro e w2 ⟨rfl,hm2⟩
   have hb2:=H1.out.2.1.quiet hm2
   have H2:=Lib.hid (And.intro (H1.out.1.quiet hm2) (And.intro hb2 (H1.out.2.2.1.trans hm2)))
   obtain ⟨vc,vf⟩:=hb2.v_.both
   have vl:=hb2.v_.lt
   clear hm2 hb2 fc ff HKC
   go_upto_region 5 with (fail)
   have hm3:Mod (· = w.heap.size + 1 + 1 + 1) w2 ((w2.setCell ⟨w.heap.size + 1 + 1 + 1,0,none⟩ (.int .i64 kx)).setCell ⟨w.heap.size + 1 + 1 + 1,1,none⟩ (.int .i64 ky)):=((Mod.refl (· = w.heap.size + 1 + 1 + 1) w2).setCell (.inl rfl) _).setCell (.inl rfl) _
   have hb3:Blk ((w2.setCell ⟨w.heap.size + 1 + 1 + 1,0,none⟩ (.int .i64 kx)).setCell ⟨w.heap.size + 1 + 1 + 1,1,none⟩ (.int .i64 ky)) (w.heap.size + 1 + 1 + 1) 156 #[.int .i64 kx,.int .i64 ky]:=(H2.out.2.1.v_.put rfl).put rfl
   generalize (w2.setCell ⟨w.heap.size + 1 + 1 + 1,0,none⟩ (.int .i64 kx)).setCell ⟨w.heap.size + 1 + 1 + 1,1,none⟩ (.int .i64 ky) = w3 at *
   have hr3:=H2.out.1.box H2.out.2.1.v_ (by decide) (by decide) (by decide) (by decide) (by have:=H0.out.1.mod.size;omega) hm3
   have hq3:SqB4 w3 (w.heap.size + 1) w.heap.size (w.heap.size + 1 + 1 + 1) (w.heap.size + 1 + 1) #[.int .i64 (d.W:Int),.int .i64 (d.H:Int),.slice (some ⟨e0,0,none⟩) d.nY j0,.int .i64 (d.W2:Int),.int .i64 (d.H2:Int),.slice (some ⟨e1,0,none⟩) d.nC j1,.int .i64 (d.W2:Int),.int .i64 (d.H2:Int),.slice (some ⟨e2,0,none⟩) d.nC j2] #[.int .i64 (d.W:Int),.int .i64 (d.H:Int),.slice A0 d.nY c0,.int .i64 (d.W2:Int),.int .i64 (d.H2:Int),.slice A1 d.nC c1,.int .i64 (d.W2:Int),.int .i64 (d.H2:Int),.slice A2 d.nC c2] kx ky:=⟨H2.out.2.1.g_.keep hm3 (by show ¬ _ = _;omega),H2.out.2.1.f_.keep hm3 (by show ¬ _ = _;omega),hb3,H2.out.2.1.r_.keep hm3 (by show ¬ _ = _;omega)⟩
   have hM3:Mod (fun _=>False) w w3:=H2.out.2.2.into hm3 (fun j e=>.inr (by have e2:j = w.heap.size + 1 + 1 + 1:=e;omega))
   have P3:=Lib.hid (rbOne w3 bk cg v s 1 3 kk (by omega) (.inl rfl) hk3 hr3.eb (by omega))
   have H3:=Lib.hid (And.intro hr3 (And.intro hq3 hM3))
   clear hr3 hq3 hM3 hb3 hm3 vc vf vl
   go_wp2_with fail
   refine P3.out.mono ?_
   rintro e w4 ⟨rfl,hg⟩
   obtain ⟨v4,hr4,hF4,hm4⟩:=H3.out.1.put hg
   have H4:=Lib.hid (And.intro hr4 (And.intro (H3.out.2.1.put H3.out.1.eb hm4) (And.intro (fun j e=>(hF4 j e).imp id (Nat.le_trans H3.out.2.2.size):∀ j,v4.ownBlock = some j → v.ownBlock = some j ∨ w.heap.size ≤ j) ((H3.out.2.2.mono (fun _ h=>h.elim)).trans hm4))))
   clear hg hr4 hF4 hm4 P3
   go_wp2_with fail
   go_meet
   unfold RSqC
   rw [HN.out.1,← HN.out.2.1,← HN.out.2.2.1,← HN.out.2.2.2]
   exact ⟨rfl,v4,H4.out⟩
 case rest=>
  clear n5 H1
  rename World=>w2
  obtain ⟨rfl,v2,hr2,hq2,hF2,hM2⟩:=hcut
  have hkf:=H0.out.2.2.2.2.2.2.1
  have hln:=H0.out.2.2.2.2.2.2.2.1
  have hk3:=hkf.1
  have H2:=Lib.hid (And.intro hr2 (And.intro hq2 (And.intro hF2 (And.intro hM2 (And.intro hkf hln)))))
  clear hr2 hq2 hF2 hM2 hkf hln
  go_upto_if 48 with (fail)
  go_cut [] (fun wx=>RSqC wA w bk cg v B d e0 j0 e1 j1 e2 j2 f (w.heap.size + 1) w.heap.size (w.heap.size + 1 + 1 + 1) (w.heap.size + 1 + 1) #[.int .i64 (d.W:Int),.int .i64 (d.H:Int),.slice (some ⟨e0,0,none⟩) d.nY j0,.int .i64 (d.W2:Int),.int .i64 (d.H2:Int),.slice (some ⟨e1,0,none⟩) d.nC j1,.int .i64 (d.W2:Int),.int .i64 (d.H2:Int),.slice (some ⟨e2,0,none⟩) d.nC j2] #[.int .i64 (d.W:Int),.int .i64 (d.H:Int),.slice A0 d.nY c0,.int .i64 (d.W2:Int),.int .i64 (d.H2:Int),.slice A1 d.nC c1,.int .i64 (d.W2:Int),.int .i64 (d.H2:Int),.slice A2 d.nC c2] kd (evput kd (ekput (nu == 0) kd.k s)) (.int .i64 (kd.k:Int)) wx)
  case first=>
   have hkb:=H2.out.2.2.2.2.1
   have hlb:=H2.out.2.2.2.2.2
   obtain ⟨s1,hs1⟩:∃ s1,s1 = ekput (nu == 0) kd.k s:=⟨_,rfl⟩
   have H2a:=H2.out.1
   rw [← hs1] at H2a hlb
   obtain ⟨kx,hkx⟩:∃ kx,kx = kd.vx:=⟨_,rfl⟩
   obtain ⟨ky,hky⟩:∃ ky,ky = kd.vy:=⟨_,rfl⟩
   have hbx:=hkb.2.1
   have hby:=hkb.2.2.1
   rw [← hkx] at hbx
   rw [← hky] at hby
   have hq2:=H2.out.2.1
   rw [← hkx,← hky] at hq2
   have HKE:=Lib.hid (And.intro hs1 (And.intro hkx hky))
   have HE:Hid (evput kd s1 = if kd.k = 1 then esigned 7 ky (esigned 6 kx s1) else s1):=by show _ = _;rw [hkx,hky];rfl
   have hl1:s1.code.length ≤ s.code.length + 2:=hlb.2.1
   have HQ:=Lib.hid (And.intro H2a (And.intro hq2 H2.out.2.2))
   obtain ⟨vc,vf⟩:=hq2.v_.both
   clear hkb hlb H2a hkx hky hs1 hq2
   by_cases h1:kd.k = 1
   ·have b1:((kd.k:Int) == 1) = true:=by simp;omega
    have HE2:=Lib.hid (HE.out.trans (if_pos h1))
    clear HE h1
    have P1:=Lib.hid (rbSigned w2 bk cg v2 s1 6 kx (by omega) ⟨by omega,by omega⟩ HQ.out.1.eb (by omega))
    have hl2:=esigned_len (t:=6) (x:=kx) ⟨by omega,by omega⟩ s1
    go_wp2_with fail
    refine P1.out.mono ?_
    rintro e w3 ⟨rfl,hg⟩
    obtain ⟨v3,hr3,hF3,hm3⟩:=HQ.out.1.put hg
    have hq3:=HQ.out.2.1.put HQ.out.1.eb hm3
    have hfr3:∀ j,v3.ownBlock = some j → v.ownBlock = some j ∨ w.heap.size ≤ j:=fun j e=>by
     rcases hF3 j e with e | e
     ·exact HQ.out.2.2.1 j e
     ·exact .inr (Nat.le_trans HQ.out.2.2.2.1.size e)
    have hmm3:Mod (Sq3 bk cg v) w w3:=HQ.out.2.2.2.1.into hm3 (fun j e=>by
     rcases e with e | e | e
     ·exact .inl (.inl e)
     ·exact .inl (.inr (.inl e))
     ·rcases HQ.out.2.2.1 j e with e | e
      ·exact .inl (.inr (.inr e))
      ·exact .inr e)
    have P2:=Lib.hid (rbSigned w3 bk cg v3 (esigned 6 kx s1) 7 ky (by omega) ⟨by omega,by omega⟩ hr3.eb (by omega))
    obtain ⟨vc3,vf3⟩:=hq3.v_.both
    have H3:=Lib.hid (And.intro hr3 (And.intro hq3 (And.intro hfr3 hmm3)))
    clear hr3 hq3 hfr3 hmm3 hF3 hm3 hg vc vf P1
    go_wp2_with fail
    refine P2.out.mono ?_
    rintro e w4 ⟨rfl,hg⟩
    obtain ⟨v4,hr4,hF4,hm4⟩:=H3.out.1.put hg
    have hq4:=H3.out.2.1.put H3.out.1.eb hm4
    have hfr4:∀ j,v4.ownBlock = some j → v.ownBlock = some j ∨ w.heap.size ≤ j:=fun j e=>by
     rcases hF4 j e with e | e
     ·exact H3.out.2.2.1 j e
     ·exact .inr (Nat.le_trans H3.out.2.2.2.size e)
    have hmm4:Mod (Sq3 bk cg v) w w4:=H3.out.2.2.2.into hm4 (fun j e=>by
     rcases e with e | e | e
     ·exact .inl (.inl e)
     ·exact .inl (.inr (.inl e))
     ·rcases H3.out.2.2.1 j e with e | e
      ·exact .inl (.inr (.inr e))
      ·exact .inr e)
    have H4:=Lib.hid (And.intro hr4 (And.intro hq4 (And.intro hfr4 hmm4)))
    clear hr4 hq4 hfr4 hmm4 hF4 hm4 hg vc3 vf3 P2
    go_wp2_with fail
    go_meet
    unfold RSqC
    rw [← HKE.out.1,HE2.out,← HKE.out.2.1,← HKE.out.2.2]
    exact ⟨rfl,v4,H4.out⟩
   ·have b1:((kd.k:Int) == 1) = false:=by simp;omega
    have HE2:=Lib.hid (HE.out.trans (if_neg h1))
    clear HE
    go_wp2_with fail
    go_meet
    unfold RSqC
    rw [← HKE.out.1,HE2.out,← HKE.out.2.1,← HKE.out.2.2]
    exact ⟨rfl,v2,HQ.out.1,HQ.out.2.1,HQ.out.2.2.1,HQ.out.2.2.2.1⟩
  case rest=>
   clear H2 hk3
   rename World=>w3
   obtain ⟨_,v3,hr3,hq3,hF3,hM3⟩:=hcut
   obtain ⟨_,_,hW,_,hH,_⟩:=area_le hd.sides
   have PLc:=Lib.hid (fPlaces w3 (16 * sx) (16 * sy) (by omega) (by omega))
   have H3:=Lib.hid (And.intro hr3 (And.intro hq3 (And.intro hF3 hM3)))
   clear hr3 hq3 hF3 hM3
   go_wp2_with fail
   refine PLc.out.mono ?_
   rintro e w4 ⟨pb,rfl,hpb,hpbl,hm4⟩
   have hq4:=H3.out.2.1.quiet hm4
   obtain ⟨F,hF⟩:∃ F,F = eblkTo d fr ahd kd.k (q:Int) sx sy kd.vx kd.vy f (evput kd (ekput (nu == 0) kd.k s)):=⟨_,rfl⟩
   have HQ:Hid (RSqRel wA w bk cg v B d (w.heap.size + 1) w.heap.size pb (w.heap.size + 1 + 1 + 1) (w.heap.size + 1 + 1) #[.int .i64 (d.W:Int),.int .i64 (d.H:Int),.slice A0 d.nY c0,.int .i64 (d.W2:Int),.int .i64 (d.H2:Int),.slice A1 d.nC c1,.int .i64 (d.W2:Int),.int .i64 (d.H2:Int),.slice A2 d.nC c2] (16 * sx) (16 * sy) kd F (.int .i64 0) w4):=
    ⟨0,v3,e0,j0,e1,j1,e2,j2,by omega,rfl,by rw [hF];exact H3.out.1.quiet hm4,⟨hq4.g_,hq4.f_,hpb,hq4.v_,hq4.r_⟩,H3.out.2.2.1,H3.out.2.2.2.trans (hm4.mono (fun _ h=>h.elim))⟩
   have HFF:=Lib.hid hF
   clear hq4 hpb hpbl hm4 hF H3 PLc
   go_wp2_with fail
   go_loopw [18] (RSqRel wA w bk cg v B d (w.heap.size + 1) w.heap.size pb (w.heap.size + 1 + 1 + 1) (w.heap.size + 1 + 1) #[.int .i64 (d.W:Int),.int .i64 (d.H:Int),.slice A0 d.nY c0,.int .i64 (d.W2:Int),.int .i64 (d.H2:Int),.slice A1 d.nC c1,.int .i64 (d.W2:Int),.int .i64 (d.H2:Int),.slice A2 d.nC c2] (16 * sx) (16 * sy) kd F) (fun i _=>6 - (intOf i).toNat)
   case atStart=>exact HQ.out
   case round=>
    clear HQ
    obtain ⟨i,v5,e0',j0',e1',j1',e2',j2',hi,rfl,hr5,hq5,hF5,hM5⟩:=hrel
    rename World=>w5
    by_cases hlt:i < 6
    ·have d1:decide ((i:Int) < 6) = true:=decide_eq_true (by omega)
     have HIx:=hlt
     obtain ⟨p1,p2,p3⟩:=pc_in hd hlt hsx hsy
     have hix:=re_pl_idx pb hlt
     obtain ⟨hsd,hnn⟩:=hd.of (pcP i)
     obtain ⟨f1,hf1⟩:∃ x,x = (F i).1:=⟨_,rfl⟩
     obtain ⟨s1,hs1⟩:∃ x,x = (F i).2:=⟨_,rfl⟩
     rw [← hf1,← hs1] at hr5
     have hT:SqR wA w w5 g (rencV (d.W:Int) (d.H:Int) G (q:Int) tg (nu:Int) al) bk cg v v5 s1 B d e0' j0' e1' j1' e2' j2' f1 (w.heap.size + 1) w.heap.size pb (w.heap.size + 1 + 1 + 1) (w.heap.size + 1 + 1) #[.int .i64 (d.W:Int),.int .i64 (d.H:Int),.slice A0 d.nY c0,.int .i64 (d.W2:Int),.int .i64 (d.H2:Int),.slice A1 d.nC c1,.int .i64 (d.W2:Int),.int .i64 (d.H2:Int),.slice A2 d.nC c2] (16 * sx) (16 * sy) kd.vx kd.vy:=⟨hr5,hq5,hF5,hM5,H0.out.2.2.1.keep hr5.mod (fun h=>h)⟩
     have hl1:s1.code.length + 2830 ≤ 1048576:=by
      have h1:=eblkTo_len (d:=d) (fr:=fr) (ahd:=ahd) (kind:=kd.k) (Q:=(q:Int)) ⟨by omega,by omega⟩ sx sy kd.vx kd.vy f (evput kd (ekput (nu == 0) kd.k s)) i
      rw [hs1,HFF.out]
      have h2:=H0.out.2.2.2.2.2.2.2.1
      omega
     have HN:Hid (F (i + 1) = eblkS d fr ahd kd.k (q:Int) (pcP i) (pcX (16 * sx) i) (pcY (16 * sy) i) kd.vx kd.vy f1 s1):=by show _ = _;rw [hf1,hs1,HFF.out];rfl
     have HT0:=Lib.hid hT
     have HL:=Lib.hid (And.intro hl1 (And.intro hsd hnn))
     have hkf:=H0.out.2.2.2.2.2.2.1
     have hwA:wA.heap.size ≤ w.heap.size:=H0.out.1.mod.size
     obtain ⟨hk3,⟨vx1,vx2⟩,⟨vy1,vy2⟩,_,hkK⟩:=hkf
     clear hr5 hq5 hF5 hM5 hf1 hs1 hT hl1 hsd hnn
     go_upto_region 14 with (fail)
     have HT:=Lib.hid (HT0.out.quiet ((Mod.refl (fun _=>False) w5).alloc (.cells #[] 5)))
     generalize w5.alloc (.cells #[] 5) = w6 at *
     clear HT0
     have hk4:kd.k = 0 ∨ kd.k = 1 ∨ kd.k = 2:=by omega
     rcases hk4 with hk | hk4
     ·have d2:decide ((kd.k:Int) < 2) = true:=decide_eq_true (by omega)
      have d3:((kd.k:Int) == 0) = true:=by simp;omega
      have hnu:nu ≠ 0:=fun e=>by have:=hkK (by simp [e]);omega
      obtain ⟨B',b0,k0,b1,k1,b2,k2,rfl,hfa⟩:=H0.out.2.2.2.1 hnu
      have HA:=Lib.hid (And.intro hfa hk)
      clear hfa hk hkK hnu
      go_upto_region 15 with (fail)
      refine wp_region_planT [9] [0,1,2,3,4,5,6,7,8] (0 :: 1 :: 2 :: 3 :: 4 :: 5 :: 6 :: 7 :: 8 :: 9 :: 10 :: []) (SqV g (w.heap.size + 1) w.heap.size pb (w.heap.size + 1 + 1 + 1) _ (frV d e0' j0' e1' j1' e2' j2').toArray _ (16 * sx) (16 * sy) kd.vx kd.vy) (by kernel_rfl) (by kernel_rfl) (fun _ _ _ d _ h=>by cases d <;> exact h) HT.out.drew.vs ?_
      refine planT_read (v:=.pointer (some ⟨g,0,none⟩)) rfl rfl rfl (fun _ _=>rfl) (fun K hK=>?_);go_simp;refine hK _ ?_;clear hK K
      refine planT_read (v:=.pointer (some ⟨g,0,none⟩)) rfl rfl rfl (fun _ _=>rfl) (fun K hK=>?_);go_simp;refine hK _ ?_;clear hK K
      refine planT_read (v:=.pointer (some ⟨g,6,none⟩)) rfl rfl rfl (fun _ _=>rfl) (fun K hK=>?_);go_simp;refine hK _ ?_;clear hK K
      refine planT_load rfl rfl _ _ rfl rfl g 6 rfl (frV d b0 k0 b1 k1 b2 k2) _ (fun w' hS=>hS.x_.range 6 _ (rencV_part _ _ _ _ _ _ _ _ _ _ _ _ _)) Tryz.underlying40 rfl (by kernel_rfl) (fun K hK=>?_);go_simp;refine hK _ ?_;clear hK K
      refine planT_read (v:=(.slice (some ⟨pb,0,none⟩) 6 6)) rfl rfl rfl (fun _ _=>rfl) (fun K hK=>?_);go_simp;refine hK _ ?_;clear hK K
      refine planT_read (v:=.int .i64 (i:Int)) rfl rfl rfl (fun _ _=>rfl) (fun K hK=>?_);go_simp;refine hK _ ?_;clear hK K
      refine planT_idx rfl rfl _ _ _ rfl rfl (.slice (some ⟨pb,0,none⟩) 6 6) (.int .i64 (i:Int)) (.pointer (some ⟨pb,i * 3,none⟩)) rfl rfl hix (fun K hK=>?_);go_simp;refine hK _ ?_;clear hK K
      refine planT_load rfl rfl _ _ rfl rfl pb (i * 3) rfl [.int .i64 (pcP i:Int),.int .i64 (pcX (16 * sx) i:Int),.int .i64 (pcY (16 * sy) i:Int)] _ (fun w' hS=>hS.p_.range (i * 3) _ (pl_part (16 * sx) (16 * sy) i hlt)) Tryz.underlying185 rfl (by kernel_rfl) (fun K hK=>?_);go_simp;refine hK _ ?_;clear hK K
      refine planT_load rfl rfl _ _ rfl rfl (w.heap.size + 1 + 1 + 1) 0 rfl [.int .i64 kd.vx,.int .i64 kd.vy] _ (fun w' hS=>hS.v_.range 0 _ rfl) Tryz.underlying156 rfl (by kernel_rfl) (fun K hK=>?_);go_simp;refine hK _ ?_;clear hK K
      refine planT_last rfl rfl (fun K hK=>?_)
      go_simp
      obtain ⟨gl,hgl⟩:∃ gl,gl = smoved (d.wOf (pcP i)) (d.hOf (pcP i)) (ahd.get (pcP i)) (pcX (16 * sx) i) (pcY (16 * sy) i) (pcP i) kd.vx kd.vy:=⟨_,rfl⟩
      have hgl64:gl.length = 64:=by rw [hgl,smoved_length]
      have MV:=fMoved w6.drew B' d hd b0 k0 b1 k1 b2 k2 ahd (HA.out.1.quiet HT.out.drew.sq.mod) (pcP i) (pcX (16 * sx) i) (pcY (16 * sy) i) p1 p2 p3 kd.vx kd.vy ⟨vx1,vx2⟩ ⟨vy1,vy2⟩
      rw [← hgl] at MV
      have HG:=Lib.hid hgl
      clear hgl
      refine MV.mono ?_
      clear MV
      rintro e w7 ⟨v7,rfl,hv7,hm7⟩
      obtain ⟨C7,n7,rfl⟩:=own_shape hv7
      rw [hgl64] at hv7 ⊢
      have H7:=Lib.hid (And.intro (HT.out.drew.quiet hm7) hv7)
      dsimp only []
      refine hK _ _ ?_
      clear hK K hm7 hv7
      refine planT_still rfl rfl (fun K hK=>?_);go_simp;refine hK _ ?_;clear hK K
      refine planT_done ?_
      go_upto_region 17 with (fail)
      refine wp_region_planT [6,7] [0,1,2,3,4,5] (0 :: 1 :: 2 :: 3 :: 4 :: 5 :: 6 :: 7 :: []) (SqV g (w.heap.size + 1) w.heap.size pb (w.heap.size + 1 + 1 + 1) _ (frV d e0' j0' e1' j1' e2' j2').toArray _ (16 * sx) (16 * sy) kd.vx kd.vy) (by kernel_rfl) (by kernel_rfl) (fun _ _ _ d _ h=>by cases d <;> exact h) H7.out.1.drew.vs ?_
      refine planT_load rfl rfl _ _ rfl rfl (w.heap.size + 1) 0 rfl (frV d e0' j0' e1' j1' e2' j2') _ (fun w' hS=>hS.g_.range 0 _ rfl) Tryz.underlying40 rfl (by kernel_rfl) (fun K hK=>?_);go_simp;refine hK _ ?_;clear hK K
      refine planT_read (v:=(.slice (some ⟨pb,0,none⟩) 6 6)) rfl rfl rfl (fun _ _=>rfl) (fun K hK=>?_);go_simp;refine hK _ ?_;clear hK K
      refine planT_read (v:=.int .i64 (i:Int)) rfl rfl rfl (fun _ _=>rfl) (fun K hK=>?_);go_simp;refine hK _ ?_;clear hK K
      refine planT_idx rfl rfl _ _ _ rfl rfl (.slice (some ⟨pb,0,none⟩) 6 6) (.int .i64 (i:Int)) (.pointer (some ⟨pb,i * 3,none⟩)) rfl rfl hix (fun K hK=>?_);go_simp;refine hK _ ?_;clear hK K
      refine planT_load rfl rfl _ _ rfl rfl pb (i * 3) rfl [.int .i64 (pcP i:Int),.int .i64 (pcX (16 * sx) i:Int),.int .i64 (pcY (16 * sy) i:Int)] _ (fun w' hS=>hS.p_.range (i * 3) _ (pl_part (16 * sx) (16 * sy) i hlt)) Tryz.underlying185 rfl (by kernel_rfl) (fun K hK=>?_);go_simp;refine hK _ ?_;clear hK K
      refine planT_read (v:=.slice C7 64 n7) rfl rfl rfl (fun _ _=>rfl) (fun K hK=>?_);go_simp;refine hK _ ?_;clear hK K
      refine planT_last rfl rfl (fun K hK=>?_)
      go_simp
      have LF:=Lib.hid (fLayF w7.drew B H7.out.1.drew.sq.fr.low d hd hs e0' j0' e1' j1' e2' j2' f1 H7.out.1.drew.sq.fr (pcP i) (pcX (16 * sx) i) (pcY (16 * sy) i) p1 p2 p3 C7 n7 gl (H7.out.2.quiet ((Mod.refl (fun _=>False) w7).drew)).in_)
      refine LF.out.mono ?_
      clear LF
      rintro e w8 ⟨v8,rfl,⟨q0,r0,q1,r1,q2,r2,rfl,hf8⟩,hm8⟩
      have hT8:=H7.out.1.drew.quiet hm8
      obtain ⟨fc,ff⟩:=hT8.bx.g_.both
      unfold frV at fc
      have fl:=hT8.bx.g_.lt
      have H8:=Lib.hid (And.intro hT8 hf8)
      dsimp only []
      refine hK _ _ ?_
      clear hK K hT8 hf8 hm8
      unfold frV
      refine planT_last rfl rfl (fun K hK=>?_)
      go_simp
      refine hK _ _ ?_
      clear hK K
      refine planT_done ?_
      go_wp2_with fail
      go_roundw
      case rel=>
       have hz:=H8.out.1.lay (by omega) (by omega) (by omega) (by omega) H8.out.2
       have hN:F (i + 1) = (f1.set (pcP i) (layTo (d.wOf (pcP i)) (pcX (16 * sx) i) (pcY (16 * sy) i) gl (f1.get (pcP i)) 8),s1):=by rw [HN.out,HA.out.2,eblkS_0,HG.out]
       refine ⟨i + 1,v5,q0,r0,q1,r1,q2,r2,by omega,by go_num,?_,hz.bx,hz.fr,hz.mod⟩
       rw [hN]
       exact hz.sq
      case measure=>simp [intOf];omega
     ·have d3:((kd.k:Int) == 0) = false:=by simp;omega
      rcases hk4 with hk | hk
      case' inl=>
       have d2:decide ((kd.k:Int) < 2) = true:=decide_eq_true (by omega)
       have d4:((kd.k:Int) == 2) = false:=by simp;omega
       have hnu:nu ≠ 0:=fun e=>by have:=hkK (by simp [e]);omega
       obtain ⟨B',b0,k0,b1,k1,b2,k2,rfl,hfa⟩:=H0.out.2.2.2.1 hnu
       have HA:=Lib.hid (And.intro hfa hk)
       clear hfa hk hkK hnu
       go_upto_region 15 with (fail)
       refine wp_region_planT [9] [0,1,2,3,4,5,6,7,8] (0 :: 1 :: 2 :: 3 :: 4 :: 5 :: 6 :: 7 :: 8 :: 9 :: 10 :: []) (SqV g (w.heap.size + 1) w.heap.size pb (w.heap.size + 1 + 1 + 1) _ (frV d e0' j0' e1' j1' e2' j2').toArray _ (16 * sx) (16 * sy) kd.vx kd.vy) (by kernel_rfl) (by kernel_rfl) (fun _ _ _ d _ h=>by cases d <;> exact h) HT.out.drew.vs ?_
       refine planT_read (v:=.pointer (some ⟨g,0,none⟩)) rfl rfl rfl (fun _ _=>rfl) (fun K hK=>?_);go_simp;refine hK _ ?_;clear hK K
       refine planT_read (v:=.pointer (some ⟨g,0,none⟩)) rfl rfl rfl (fun _ _=>rfl) (fun K hK=>?_);go_simp;refine hK _ ?_;clear hK K
       refine planT_read (v:=.pointer (some ⟨g,6,none⟩)) rfl rfl rfl (fun _ _=>rfl) (fun K hK=>?_);go_simp;refine hK _ ?_;clear hK K
       refine planT_load rfl rfl _ _ rfl rfl g 6 rfl (frV d b0 k0 b1 k1 b2 k2) _ (fun w' hS=>hS.x_.range 6 _ (rencV_part _ _ _ _ _ _ _ _ _ _ _ _ _)) Tryz.underlying40 rfl (by kernel_rfl) (fun K hK=>?_);go_simp;refine hK _ ?_;clear hK K
       refine planT_read (v:=(.slice (some ⟨pb,0,none⟩) 6 6)) rfl rfl rfl (fun _ _=>rfl) (fun K hK=>?_);go_simp;refine hK _ ?_;clear hK K
       refine planT_read (v:=.int .i64 (i:Int)) rfl rfl rfl (fun _ _=>rfl) (fun K hK=>?_);go_simp;refine hK _ ?_;clear hK K
       refine planT_idx rfl rfl _ _ _ rfl rfl (.slice (some ⟨pb,0,none⟩) 6 6) (.int .i64 (i:Int)) (.pointer (some ⟨pb,i * 3,none⟩)) rfl rfl hix (fun K hK=>?_);go_simp;refine hK _ ?_;clear hK K
       refine planT_load rfl rfl _ _ rfl rfl pb (i * 3) rfl [.int .i64 (pcP i:Int),.int .i64 (pcX (16 * sx) i:Int),.int .i64 (pcY (16 * sy) i:Int)] _ (fun w' hS=>hS.p_.range (i * 3) _ (pl_part (16 * sx) (16 * sy) i hlt)) Tryz.underlying185 rfl (by kernel_rfl) (fun K hK=>?_);go_simp;refine hK _ ?_;clear hK K
       refine planT_load rfl rfl _ _ rfl rfl (w.heap.size + 1 + 1 + 1) 0 rfl [.int .i64 kd.vx,.int .i64 kd.vy] _ (fun w' hS=>hS.v_.range 0 _ rfl) Tryz.underlying156 rfl (by kernel_rfl) (fun K hK=>?_);go_simp;refine hK _ ?_;clear hK K
       refine planT_last rfl rfl (fun K hK=>?_)
       go_simp
       obtain ⟨gl,hgl⟩:∃ gl,gl = smoved (d.wOf (pcP i)) (d.hOf (pcP i)) (ahd.get (pcP i)) (pcX (16 * sx) i) (pcY (16 * sy) i) (pcP i) kd.vx kd.vy:=⟨_,rfl⟩
       have hgl64:gl.length = 64:=by rw [hgl,smoved_length]
       have MV:=fMoved w6.drew B' d hd b0 k0 b1 k1 b2 k2 ahd (HA.out.1.quiet HT.out.drew.sq.mod) (pcP i) (pcX (16 * sx) i) (pcY (16 * sy) i) p1 p2 p3 kd.vx kd.vy ⟨vx1,vx2⟩ ⟨vy1,vy2⟩
       rw [← hgl] at MV
       have HG:=Lib.hid hgl
       clear hgl
       refine MV.mono ?_
       clear MV
       rintro e w7 ⟨v7,rfl,hv7,hm7⟩
       obtain ⟨C7,n7,rfl⟩:=own_shape hv7
       rw [hgl64] at hv7 ⊢
       have H7:=Lib.hid (And.intro (HT.out.drew.quiet hm7) hv7)
       dsimp only []
       refine hK _ _ ?_
       clear hK K hm7 hv7
       refine planT_still rfl rfl (fun K hK=>?_);go_simp;refine hK _ ?_;clear hK K
       refine planT_done ?_
       go_upto_region 18 with (fail)
       refine wp_region_planT [5] [0,1,2,3,4] (0 :: 1 :: 2 :: 3 :: 4 :: 5 :: 6 :: []) (SqV g (w.heap.size + 1) w.heap.size pb (w.heap.size + 1 + 1 + 1) _ (frV d e0' j0' e1' j1' e2' j2').toArray _ (16 * sx) (16 * sy) kd.vx kd.vy) (by kernel_rfl) (by kernel_rfl) (fun _ _ _ d _ h=>by cases d <;> exact h) H7.out.1.drew.vs ?_
       refine planT_load rfl rfl _ _ rfl rfl w.heap.size 0 rfl (flV d A0 A1 A2 c0 c1 c2) _ (fun w' hS=>hS.f_.range 0 _ rfl) Tryz.underlying40 rfl (by kernel_rfl) (fun K hK=>?_);go_simp;refine hK _ ?_;clear hK K
       refine planT_read (v:=(.slice (some ⟨pb,0,none⟩) 6 6)) rfl rfl rfl (fun _ _=>rfl) (fun K hK=>?_);go_simp;refine hK _ ?_;clear hK K
       refine planT_read (v:=.int .i64 (i:Int)) rfl rfl rfl (fun _ _=>rfl) (fun K hK=>?_);go_simp;refine hK _ ?_;clear hK K
       refine planT_idx rfl rfl _ _ _ rfl rfl (.slice (some ⟨pb,0,none⟩) 6 6) (.int .i64 (i:Int)) (.pointer (some ⟨pb,i * 3,none⟩)) rfl rfl hix (fun K hK=>?_);go_simp;refine hK _ ?_;clear hK K
       refine planT_load rfl rfl _ _ rfl rfl pb (i * 3) rfl [.int .i64 (pcP i:Int),.int .i64 (pcX (16 * sx) i:Int),.int .i64 (pcY (16 * sy) i:Int)] _ (fun w' hS=>hS.p_.range (i * 3) _ (pl_part (16 * sx) (16 * sy) i hlt)) Tryz.underlying185 rfl (by kernel_rfl) (fun K hK=>?_);go_simp;refine hK _ ?_;clear hK K
       refine planT_last rfl rfl (fun K hK=>?_)
       go_simp
       obtain ⟨b,hb⟩:∃ b,b = sqL (d.wOf (pcP i)) (fr.get (pcP i)) (pcX (16 * sx) i) (pcY (16 * sy) i) 8:=⟨_,rfl⟩
       have hb64:b.length = 64:=by rw [hb,sqL_length]
       have BL:=reBlk w7.drew d hd A0 A1 A2 c0 c1 c2 fr (H0.out.2.2.2.2.1.quiet H7.out.1.drew.sq.mod) (pcP i) (pcX (16 * sx) i) (pcY (16 * sy) i) p1 p2 p3
       rw [← hb] at BL
       have HB:=Lib.hid hb
       clear hb
       refine BL.mono ?_
       clear BL
       rintro e w8 ⟨v8,rfl,hv8,hm8⟩
       obtain ⟨C8,n8,rfl⟩:=own_shape hv8
       rw [hb64] at hv8 ⊢
       have H8:=Lib.hid (And.intro (H7.out.1.drew.quiet hm8) hv8)
       have HM8:=Lib.hid hm8
       dsimp only []
       refine hK _ _ ?_
       clear hK K hm8 hv8
       refine planT_still rfl rfl (fun K hK=>?_);go_simp;refine hK _ ?_;clear hK K
       refine planT_done ?_
       have hX9:SqMid wA w w8 g _ bk cg v B d e0' j0' e1' j1' e2' j2' f1 (w.heap.size + 1) w.heap.size pb (w.heap.size + 1 + 1 + 1) (w.heap.size + 1 + 1) #[.int .i64 (d.W:Int),.int .i64 (d.H:Int),.slice A0 d.nY c0,.int .i64 (d.W2:Int),.int .i64 (d.H2:Int),.slice A1 d.nC c1,.int .i64 (d.W2:Int),.int .i64 (d.H2:Int),.slice A2 d.nC c2] (16 * sx) (16 * sy) kd.vx kd.vy C8 n8 C7 n7 b gl (q:Int) (pcP i) (pcX (16 * sx) i) (pcY (16 * sy) i) (F (i + 1)):=
        ⟨v5,s1,w7.drew.heap.size,w6.drew.heap.size,H8.out.1,H8.out.2,(H7.out.2.quiet ((Mod.refl (fun _=>False) w7).drew)).quiet HM8.out,by rw [HG.out,smoved_length],by rw [HB.out,sqL_length],by have:=HL.out.1;omega,by rw [HN.out,HA.out.2,eblkS_1,HG.out,HB.out]⟩
       have HX:=Lib.hid hX9
       clear hX9 HG HB HM8 H8 H7 HA HN
      case' inr=>
       have d2:decide ((kd.k:Int) < 2) = false:=decide_eq_false (by omega)
       have d4:((kd.k:Int) == 2) = true:=by simp;omega
       have HA:=Lib.hid hk
       clear hk hkK
       go_upto_region 18 with (fail)
       refine wp_region_planT [5] [0,1,2,3,4] (0 :: 1 :: 2 :: 3 :: 4 :: 5 :: 6 :: []) (SqV g (w.heap.size + 1) w.heap.size pb (w.heap.size + 1 + 1 + 1) _ (frV d e0' j0' e1' j1' e2' j2').toArray _ (16 * sx) (16 * sy) kd.vx kd.vy) (by kernel_rfl) (by kernel_rfl) (fun _ _ _ d _ h=>by cases d <;> exact h) HT.out.drew.vs ?_
       refine planT_load rfl rfl _ _ rfl rfl w.heap.size 0 rfl (flV d A0 A1 A2 c0 c1 c2) _ (fun w' hS=>hS.f_.range 0 _ rfl) Tryz.underlying40 rfl (by kernel_rfl) (fun K hK=>?_);go_simp;refine hK _ ?_;clear hK K
       refine planT_read (v:=(.slice (some ⟨pb,0,none⟩) 6 6)) rfl rfl rfl (fun _ _=>rfl) (fun K hK=>?_);go_simp;refine hK _ ?_;clear hK K
       refine planT_read (v:=.int .i64 (i:Int)) rfl rfl rfl (fun _ _=>rfl) (fun K hK=>?_);go_simp;refine hK _ ?_;clear hK K
       refine planT_idx rfl rfl _ _ _ rfl rfl (.slice (some ⟨pb,0,none⟩) 6 6) (.int .i64 (i:Int)) (.pointer (some ⟨pb,i * 3,none⟩)) rfl rfl hix (fun K hK=>?_);go_simp;refine hK _ ?_;clear hK K
       refine planT_load rfl rfl _ _ rfl rfl pb (i * 3) rfl [.int .i64 (pcP i:Int),.int .i64 (pcX (16 * sx) i:Int),.int .i64 (pcY (16 * sy) i:Int)] _ (fun w' hS=>hS.p_.range (i * 3) _ (pl_part (16 * sx) (16 * sy) i hlt)) Tryz.underlying185 rfl (by kernel_rfl) (fun K hK=>?_);go_simp;refine hK _ ?_;clear hK K
       refine planT_last rfl rfl (fun K hK=>?_)
       go_simp
       obtain ⟨b,hb⟩:∃ b,b = sqL (d.wOf (pcP i)) (fr.get (pcP i)) (pcX (16 * sx) i) (pcY (16 * sy) i) 8:=⟨_,rfl⟩
       have hb64:b.length = 64:=by rw [hb,sqL_length]
       have BL:=reBlk w6.drew d hd A0 A1 A2 c0 c1 c2 fr (H0.out.2.2.2.2.1.quiet HT.out.drew.sq.mod) (pcP i) (pcX (16 * sx) i) (pcY (16 * sy) i) p1 p2 p3
       rw [← hb] at BL
       have HB:=Lib.hid hb
       clear hb
       refine BL.mono ?_
       clear BL
       rintro e w8 ⟨v8,rfl,hv8,hm8⟩
       obtain ⟨C8,n8,rfl⟩:=own_shape hv8
       rw [hb64] at hv8 ⊢
       have H8:=Lib.hid (And.intro (HT.out.drew.quiet hm8) hv8)
       have HM8:=Lib.hid hm8
       dsimp only []
       refine hK _ _ ?_
       clear hK K hm8 hv8
       refine planT_still rfl rfl (fun K hK=>?_);go_simp;refine hK _ ?_;clear hK K
       refine planT_done ?_
       go_upto_region 20 with (fail)
       refine wp_region_planT [6,18] [0,1,2,3,4,5,7,8,9,10,11,12,13,14,15,16,17] (0 :: 1 :: 2 :: 3 :: 4 :: 5 :: 7 :: 8 :: 9 :: 10 :: 11 :: 12 :: 13 :: 14 :: 15 :: 16 :: 17 :: 6 :: 18 :: 19 :: 20 :: 21 :: 22 :: 23 :: 24 :: 25 :: []) (SqV g (w.heap.size + 1) w.heap.size pb (w.heap.size + 1 + 1 + 1) _ (frV d e0' j0' e1' j1' e2' j2').toArray _ (16 * sx) (16 * sy) kd.vx kd.vy) (by kernel_rfl) (by kernel_rfl) (fun _ _ _ d _ h=>by cases d <;> exact h) H8.out.1.drew.vs ?_
       refine planT_load rfl rfl _ _ rfl rfl (w.heap.size + 1) 0 rfl (frV d e0' j0' e1' j1' e2' j2') _ (fun w' hS=>hS.g_.range 0 _ rfl) Tryz.underlying40 rfl (by kernel_rfl) (fun K hK=>?_);go_simp;refine hK _ ?_;clear hK K
       refine planT_read (v:=(.slice (some ⟨pb,0,none⟩) 6 6)) rfl rfl rfl (fun _ _=>rfl) (fun K hK=>?_);go_simp;refine hK _ ?_;clear hK K
       refine planT_read (v:=.int .i64 (i:Int)) rfl rfl rfl (fun _ _=>rfl) (fun K hK=>?_);go_simp;refine hK _ ?_;clear hK K
       refine planT_idx rfl rfl _ _ _ rfl rfl (.slice (some ⟨pb,0,none⟩) 6 6) (.int .i64 (i:Int)) (.pointer (some ⟨pb,i * 3,none⟩)) rfl rfl hix (fun K hK=>?_);go_simp;refine hK _ ?_;clear hK K
       refine planT_read (v:=.pointer (some ⟨pb,i * 3,none⟩)) rfl rfl rfl (fun _ _=>rfl) (fun K hK=>?_);go_simp;refine hK _ ?_;clear hK K
       refine planT_one rfl rfl _ _ rfl rfl pb (i * 3) rfl (.int .i64 (pcP i:Int)) _ (fun w' hS=>(re_pl_cell hS.p_ hlt).1) Tryz.underlying3 rfl (fun K hK=>?_);go_simp;refine hK _ ?_;clear hK K
       refine planT_read (v:=(.slice (some ⟨pb,0,none⟩) 6 6)) rfl rfl rfl (fun _ _=>rfl) (fun K hK=>?_);go_simp;refine hK _ ?_;clear hK K
       refine planT_read (v:=.int .i64 (i:Int)) rfl rfl rfl (fun _ _=>rfl) (fun K hK=>?_);go_simp;refine hK _ ?_;clear hK K
       refine planT_idx rfl rfl _ _ _ rfl rfl (.slice (some ⟨pb,0,none⟩) 6 6) (.int .i64 (i:Int)) (.pointer (some ⟨pb,i * 3,none⟩)) rfl rfl hix (fun K hK=>?_);go_simp;refine hK _ ?_;clear hK K
       refine planT_read (v:=.pointer (some ⟨pb,i * 3 + 1,none⟩)) rfl rfl rfl (fun _ _=>rfl) (fun K hK=>?_);go_simp;refine hK _ ?_;clear hK K
       refine planT_one rfl rfl _ _ rfl rfl pb (i * 3 + 1) rfl (.int .i64 (pcX (16 * sx) i:Int)) _ (fun w' hS=>(re_pl_cell hS.p_ hlt).2.1) Tryz.underlying3 rfl (fun K hK=>?_);go_simp;refine hK _ ?_;clear hK K
       refine planT_read (v:=(.slice (some ⟨pb,0,none⟩) 6 6)) rfl rfl rfl (fun _ _=>rfl) (fun K hK=>?_);go_simp;refine hK _ ?_;clear hK K
       refine planT_read (v:=.int .i64 (i:Int)) rfl rfl rfl (fun _ _=>rfl) (fun K hK=>?_);go_simp;refine hK _ ?_;clear hK K
       refine planT_idx rfl rfl _ _ _ rfl rfl (.slice (some ⟨pb,0,none⟩) 6 6) (.int .i64 (i:Int)) (.pointer (some ⟨pb,i * 3,none⟩)) rfl rfl hix (fun K hK=>?_);go_simp;refine hK _ ?_;clear hK K
       refine planT_read (v:=.pointer (some ⟨pb,i * 3 + 2,none⟩)) rfl rfl rfl (fun _ _=>rfl) (fun K hK=>?_);go_simp;refine hK _ ?_;clear hK K
       refine planT_one rfl rfl _ _ rfl rfl pb (i * 3 + 2) rfl (.int .i64 (pcY (16 * sy) i:Int)) _ (fun w' hS=>(re_pl_cell hS.p_ hlt).2.2) Tryz.underlying3 rfl (fun K hK=>?_);go_simp;refine hK _ ?_;clear hK K
       refine planT_read (v:=.slice C8 64 n8) rfl rfl rfl (fun _ _=>rfl) (fun K hK=>?_);go_simp;refine hK _ ?_;clear hK K
       refine planT_loud rfl rfl (fun K hK=>?_)
       go_simp
       refine (fPlaneOf _ d e0' j0' e1' j1' e2' j2' (pcP i) p1).mono ?_
       rintro e w9 ⟨rfl,hm9⟩
       have H9:=Lib.hid (And.intro (H8.out.1.drew.quiet hm9) ((H8.out.2.quiet ((Mod.refl (fun _=>False) w8).drew)).quiet hm9))
       dsimp only []
       refine hK _ _ (H8.out.1.drew.vs.quiet hm9) ?_
       clear hK K hm9
       have hfo:=H9.out.1.sq.fr.of p1
       obtain ⟨m,hm⟩:∃ m,m = chMode (d.wOf (pcP i)) (f1.get (pcP i)) (pcX (16 * sx) i) (pcY (16 * sy) i) b:=⟨_,rfl⟩
       obtain ⟨gl,hgl⟩:∃ gl,gl = guessL (d.wOf (pcP i)) (f1.get (pcP i)) (pcX (16 * sx) i) (pcY (16 * sy) i) m:=⟨_,rfl⟩
       have hgl64:gl.length = 64:=by rw [hgl,guessL_length]
       have hm4:m < 4:=by rw [hm];exact chMode_lt _ _ _ _ _
       have CH:=reChoose w9 (d.wOf (pcP i)) (d.hOf (pcP i)) _ (d.nP (pcP i)) _ (f1.get (pcP i)) HL.out.2.1 HL.out.2.2 (hfo.1.in_n hfo.2) (pcX (16 * sx) i) (pcY (16 * sy) i) p2 p3 C8 n8 b H9.out.2.in_
       unfold RcPost at CH
       rw [← hm,← hgl] at CH
       have HG:=Lib.hid (And.intro hgl hm)
       have HCH:=Lib.hid CH
       clear CH hgl hm hfo
       refine planT_last rfl rfl (fun K hK=>?_)
       go_simp
       refine HCH.out.mono ?_
       rintro e w10 ⟨C7,n7,rfl,hv10,hm10⟩
       have H10:=Lib.hid (And.intro (H9.out.1.quiet hm10) (And.intro (H9.out.2.quiet hm10) hv10))
       dsimp only []
       refine hK _ _ ?_
       clear hK K hm10 hv10 HCH H9 H8
       iterate 7 (refine planT_still rfl rfl (fun K hK=>?_);go_simp;refine hK _ ?_;clear hK K)
       refine planT_done ?_
       have P1:=Lib.hid (rbOne w10 bk cg v5 s1 0 4 m (by omega) (.inr rfl) hm4 H10.out.1.sq.eb (by have:=HL.out.1;omega))
       have hln4:=elow_len 0 m 2 0 0 s1
       go_wp2_with fail
       refine P1.out.mono ?_
       rintro e w11 ⟨rfl,hgo⟩
       obtain ⟨vX,hT11,hM11⟩:=H10.out.1.put hgo
       have hX9:=(⟨vX,elow 0 m 2 0 0 s1,_,_,hT11,H10.out.2.1.sq3 H10.out.1.sq.eb hM11,H10.out.2.2.sq3 H10.out.1.sq.eb hM11,hgl64,by rw [HB.out,sqL_length],by have:=HL.out.1;omega,by rw [HN.out,HA.out,eblkS_2,← HB.out,← HG.out.2,← HG.out.1]⟩ :
        SqMid wA w w11 g _ bk cg v B d e0' j0' e1' j1' e2' j2' f1 (w.heap.size + 1) w.heap.size pb (w.heap.size + 1 + 1 + 1) (w.heap.size + 1 + 1) #[.int .i64 (d.W:Int),.int .i64 (d.H:Int),.slice A0 d.nY c0,.int .i64 (d.W2:Int),.int .i64 (d.H2:Int),.slice A1 d.nC c1,.int .i64 (d.W2:Int),.int .i64 (d.H2:Int),.slice A2 d.nC c2] (16 * sx) (16 * sy) kd.vx kd.vy C8 n8 C7 n7 b gl (q:Int) (pcP i) (pcX (16 * sx) i) (pcY (16 * sy) i) (F (i + 1)))
       have HX:=Lib.hid hX9
       clear hX9 HG HB H10 HN HA hgo hT11 hM11 P1 hln4 hm4 hgl64
       generalize w11 = w8 at *
      all_goals
       clear HT
       obtain ⟨vX,s5,Bw,Bg,hX⟩:=HX.out
       have HX:=Lib.hid hX
       clear hX
       have hF:=fwd_rest (gs:=gl) hb64
       have hrl:(restL b gl).length = 64:=by rw [restL_length];exact hb64
       have hE:=elev_all (gs:=gl) hb64 (Q:=(q:Int)) ⟨by omega,by omega⟩
       have hEl:=elev_length (gs:=gl) hb64 (q:Int)
       have hBs:=ebuilt_some (gs:=gl) hb64 HX.out.2.2.2.1 (Q:=(q:Int)) ⟨by omega,by omega⟩
       have hBl:=ebuilt_length (gs:=gl) hb64 HX.out.2.2.2.1 (Q:=(q:Int)) ⟨by omega,by omega⟩
       have hra1:(restL b gl).all (inB 1048576) = true:=by
        have:=allB_of_within (m:=1048576) (l:=restL b gl) (by rw [hrl];decide) (fun i=>by have:=restL_within b gl i;omega)
        unfold allB at this
        rw [Bool.and_eq_true] at this
        exact this.2
       have hra2:rightB (fwdL (restL b gl)) (q:Int) 67108864 = true:=by
        unfold rightB
        rw [allB_of_within (by rw [hF.1];decide) (fun i=>by have:=hF.2 i;omega),decide_eq_true (by omega)]
        rfl
       have HE:=Lib.hid (And.intro hE (And.intro hEl (And.intro hBs (And.intro hBl (And.intro hra1 hra2)))))
       have HR1:=Lib.hid (reRest w8 C8 64 n8 b C7 n7 gl HX.out.2.1.in_ HX.out.2.2.1.in_ (by omega) (by omega))
       clear hF hrl hE hEl hBs hBl hra1 hra2 HL hb64
       go_wp2_with fail
       refine HR1.out.mono ?_
       rintro e wa ⟨ob,ca,rfl,hca,hra,hma⟩
       have Ha:=Lib.hid (And.intro (HX.out.1.quiet hma) (HX.out.2.2.1.quiet hma))
       have HR2:=Lib.hid (rfwd wa (some ⟨ob,0,none⟩) ca (restL b gl) hca hra HE.out.2.2.2.2.1)
       clear hca hra hma HR1
       go_wp2_with fail
       refine HR2.out.mono ?_
       rintro e wb ⟨A6,c6,rfl,hrb,hmb⟩
       have Hb:=Lib.hid (And.intro (Ha.out.1.quiet hmb) (Ha.out.2.quiet hmb))
       have HR3:=Lib.hid (rcoarse wb A6 64 c6 (fwdL (restL b gl)) (q:Int) hrb (by omega) HE.out.2.2.2.2.2)
       have q3:wb.cell? ⟨g,3,none⟩ = some (.int .i64 (q:Int)):=Hb.out.1.x.cell 3
       clear hrb hmb HR2 Ha
       go_wp2_with fail
       refine HR3.out.mono ?_
       rintro e wc ⟨oc,cc,rfl,hrc,hoc,hmc⟩
       have hrc2:IntsIn wc (some ⟨oc,0,none⟩) 64 cc (elev b gl (q:Int)):=hrc
       have Hc:=Lib.hid (And.intro (Hb.out.1.quiet hmc) (And.intro (Hb.out.2.quiet hmc) (And.intro hrc2 hoc)))
       obtain ⟨pc0,pc1,pc2⟩:=re_pl_cell Hc.out.1.bx.p_ hlt
       obtain ⟨tn,htn⟩:∃ tn:Nat,tn = if 0 < pcP i then 4 else 2:=⟨_,rfl⟩
       have T13:∀ w:World,Calls Tryz.prog 113 #[.agg #[.int .i64 (pcP i:Int),.int .i64 (pcX (16 * sx) i:Int),.int .i64 (pcY (16 * sy) i:Int)]] w fun e w'=>e = .returned (.int .i64 (tn:Int)) ∧ Mod (fun _=>False) w w':=fun w=>by rw [htn];exact fTopic13 w (pcP i) (pcX (16 * sx) i:Int) (pcY (16 * sy) i:Int)
       have HT13:=Lib.hid T13
       clear T13
       have HTN:=Lib.hid htn
       have ht15:tn < 15:=by rw [htn];split <;> omega
       clear hrc hrc2 hoc hmc q3 HR3 htn
       go_wp2_with fail
       refine (HT13.out _).mono ?_
       rintro e wd ⟨rfl,hmd⟩
       have Hd:=Lib.hid (And.intro (Hc.out.1.quiet hmd) (And.intro (Hc.out.2.1.quiet hmd) (Hc.out.2.2.1.quiet hmd)))
       have HQP:=Lib.hid (rqPut wd bk cg vX s5 tn ht15 (some ⟨oc,0,none⟩) cc (elev b gl (q:Int)) Hd.out.2.2 HE.out.1 Hd.out.1.sq.eb HX.out.2.2.2.2.2.1)
       clear hmd HT13 pc0 pc1 pc2
       go_wp2_with fail
       refine HQP.out.mono ?_
       rintro e we ⟨rfl,hgo⟩
       obtain ⟨vY,hTe,hMe⟩:=Hd.out.1.put hgo
       have He:=Lib.hid (And.intro hTe (And.intro (Hd.out.2.1.sq3 Hd.out.1.sq.eb hMe) (Hd.out.2.2.sq3 Hb.out.1.sq.eb Hc.out.2.2.2 hMe)))
       have q3:we.cell? ⟨g,3,none⟩ = some (.int .i64 (q:Int)):=hTe.x.cell 3
       have HBd:=Lib.hid (refBuild we C7 64 n7 gl (some ⟨oc,0,none⟩) 64 cc (elev b gl (q:Int)) (q:Int) He.out.2.1.in_ He.out.2.2 (by omega) (by omega))
       clear hgo hTe hMe HQP Hb Hc Hd
       go_wp2_with fail
       refine HBd.out.mono ?_
       rintro e wf ⟨hmf,⟨h1,rfl⟩ | ⟨bv,bs,h1,rfl,hbs⟩⟩
       ·exact absurd h1 (by rw [HE.out.2.2.1];intro h;cases h)
       obtain rfl:bs = ebuilt gl (elev b gl (q:Int)) (q:Int):=by
        have h2:=HE.out.2.2.1
        rw [h1] at h2
        exact Option.some.inj h2
       obtain ⟨Cf,nf,rfl⟩:=own_shape hbs
       rw [HE.out.2.2.2.1] at hbs ⊢
       obtain ⟨bl,hbl⟩:∃ bl,bl = ebuilt gl (elev b gl (q:Int)) (q:Int):=⟨_,rfl⟩
       rw [← hbl] at hbs
       have HBl:=Lib.hid hbl
       have Hf:=Lib.hid (And.intro (He.out.1.quiet hmf) hbs)
       clear hmf h1 hbs hbl q3 HBd He
       go_upto_region 27 with (fail)
       refine wp_region_planT [6,7] [0,1,2,3,4,5] (0 :: 1 :: 2 :: 3 :: 4 :: 5 :: 6 :: 7 :: []) (SqV g (w.heap.size + 1) w.heap.size pb (w.heap.size + 1 + 1 + 1) _ (frV d e0' j0' e1' j1' e2' j2').toArray _ (16 * sx) (16 * sy) kd.vx kd.vy) (by kernel_rfl) (by kernel_rfl) (fun _ _ _ d _ h=>by cases d <;> exact h) Hf.out.1.drew.vs ?_
       refine planT_load rfl rfl _ _ rfl rfl (w.heap.size + 1) 0 rfl (frV d e0' j0' e1' j1' e2' j2') _ (fun w' hS=>hS.g_.range 0 _ rfl) Tryz.underlying40 rfl (by kernel_rfl) (fun K hK=>?_);go_simp;refine hK _ ?_;clear hK K
       refine planT_read (v:=(.slice (some ⟨pb,0,none⟩) 6 6)) rfl rfl rfl (fun _ _=>rfl) (fun K hK=>?_);go_simp;refine hK _ ?_;clear hK K
       refine planT_read (v:=.int .i64 (i:Int)) rfl rfl rfl (fun _ _=>rfl) (fun K hK=>?_);go_simp;refine hK _ ?_;clear hK K
       refine planT_idx rfl rfl _ _ _ rfl rfl (.slice (some ⟨pb,0,none⟩) 6 6) (.int .i64 (i:Int)) (.pointer (some ⟨pb,i * 3,none⟩)) rfl rfl hix (fun K hK=>?_);go_simp;refine hK _ ?_;clear hK K
       refine planT_load rfl rfl _ _ rfl rfl pb (i * 3) rfl [.int .i64 (pcP i:Int),.int .i64 (pcX (16 * sx) i:Int),.int .i64 (pcY (16 * sy) i:Int)] _ (fun w' hS=>hS.p_.range (i * 3) _ (pl_part (16 * sx) (16 * sy) i hlt)) Tryz.underlying185 rfl (by kernel_rfl) (fun K hK=>?_);go_simp;refine hK _ ?_;clear hK K
       refine planT_read (v:=.slice Cf 64 nf) rfl rfl rfl (fun _ _=>rfl) (fun K hK=>?_);go_simp;refine hK _ ?_;clear hK K
       refine planT_last rfl rfl (fun K hK=>?_)
       go_simp
       have LF:=Lib.hid (fLayF wf.drew B Hf.out.1.drew.sq.fr.low d hd hs e0' j0' e1' j1' e2' j2' f1 Hf.out.1.drew.sq.fr (pcP i) (pcX (16 * sx) i) (pcY (16 * sy) i) p1 p2 p3 Cf nf bl (Hf.out.2.quiet ((Mod.refl (fun _=>False) wf).drew)).in_)
       refine LF.out.mono ?_
       clear LF
       rintro e w8 ⟨v8,rfl,⟨q0,r0,q1,r1,q2,r2,rfl,hf8⟩,hm8⟩
       have hT8:=Hf.out.1.drew.quiet hm8
       obtain ⟨fc,ff⟩:=hT8.bx.g_.both
       unfold frV at fc
       have fl:=hT8.bx.g_.lt
       have H8:=Lib.hid (And.intro hT8 hf8)
       dsimp only []
       refine hK _ _ ?_
       clear hK K hT8 hf8 hm8
       unfold frV
       refine planT_last rfl rfl (fun K hK=>?_)
       go_simp
       refine hK _ _ ?_
       clear hK K
       refine planT_done ?_
       go_wp2_with fail
       go_roundw
       case rel=>
        have hz:=H8.out.1.lay (by omega) (by omega) (by omega) (by omega) H8.out.2
        have hN:F (i + 1) = (f1.set (pcP i) (layTo (d.wOf (pcP i)) (pcX (16 * sx) i) (pcY (16 * sy) i) bl (f1.get (pcP i)) 8),eblk tn (elev b gl (q:Int)) s5):=by rw [HX.out.2.2.2.2.2.2,HTN.out,HBl.out];rfl
        refine ⟨i + 1,vY,q0,r0,q1,r1,q2,r2,by omega,by go_num,?_,hz.bx,hz.fr,hz.mod⟩
        rw [hN]
        dsimp only
        exact hz.sq
       case measure=>simp [intOf];omega
    ·obtain rfl:i = 6:=by omega
     have HE6:Hid (esquareS d fr ahd (nu == 0) (q:Int) sx sy f s = F 6):=by show _ = _;rw [H0.out.2.2.2.2.2.2.2.2,HFF.out]
     obtain ⟨gc,gf⟩:=hq5.g_.both
     unfold frV at gc
     obtain ⟨rc,rf⟩:=hq5.r_.both
     unfold zeroFr at rc
     have rl:=hq5.r_.lt
     have H5:=Lib.hid (And.intro hr5 (And.intro hq5 (And.intro hF5 hM5)))
     clear hr5 hq5 hF5 hM5
     have hwA:wA.heap.size ≤ w.heap.size:=H0.out.1.mod.size
     go_wp2_with fail
     refine bodyPost_ret (v:=.agg (frV d e0' j0' e1' j1' e2' j2').toArray) (by simp [results,Tryz.results58,go_sem,rc,frV]) rfl ?_
     rw [HE6.out]
     have hp:=fr_put9 (H5.out.2.1.r_:Blk w5 _ 40 #[.int .i64 0,.int .i64 0,.slice none 0 0,.int .i64 0,.int .i64 0,.slice none 0 0,.int .i64 0,.int .i64 0,.slice none 0 0]) (.int .i64 (d.W:Int)) (.int .i64 (d.H:Int)) (.slice (some ⟨e0',0,none⟩) d.nY j0') (.int .i64 (d.W2:Int)) (.int .i64 (d.H2:Int)) (.slice (some ⟨e1',0,none⟩) d.nC j1') (.int .i64 (d.W2:Int)) (.int .i64 (d.H2:Int)) (.slice (some ⟨e2',0,none⟩) d.nC j2')
     have hbx:=H5.out.1.box H5.out.2.1.r_ (by decide) (by decide) (by decide) (by decide) (by omega) hp.2
     exact ⟨v5,e0',j0',e1',j1',e2',j2',rfl,hbx,H5.out.2.2.1,H5.out.2.2.2.into hp.2 (fun j e=>.inr (by have e2:j = w.heap.size + 1 + 1:=e;omega))⟩
end Go.Proofs.YtmkopcojnibhlaaGreatDoor
