/-
  The reference's deblock: one line made smooth.
-/
import Derived.Test.YtmkopcojnibhlaaGreatDoorP28
import Derived.Test.YtmkopcojnibhlaaGreatDoorP6
import Derived.Test.YtmkopcojnibhlaaGreatDoorP25
import Derived.Test.YtmkopcojnibhlaaGreatDoorP7
import Derived.Test.YtmkopcojnibhlaaGreatDoorP22
import Derived.Test.YtmkopcojnibhlaaGreatDoorP9
namespace Go.Proofs.YtmkopcojnibhlaaGreatDoor
open Go.RowKit
set_option maxRecDepth 100000
set_option maxHeartbeats 8000000
theorem quiet_fLine (w:World) (a b c d q:Nat) (ha:a < 256) (hb:b < 256) (hc:c < 256) (hd:d < 256) (hq:q ≤ 31) (n:Nat) :
  Calls Tryz.prog 230 #[.int .u8 (a:Int),.int .u8 (b:Int),.int .u8 (c:Int),.int .u8 (d:Int),.int .i64 (q:Int)] (w.drewN n)
   fun e w'=>e = .returned (.tuple #[.int .u8 (((lineN a b c d q).1:Nat):Int),.int .u8 (((lineN a b c d q).2:Nat):Int)]) ∧ w' = w.drewN n:=(fLine _ a b c d q ha hb hc hd hq).mono fun _ _ ⟨a,b⟩=>⟨a,b.symm⟩
theorem fDone (w:World) (W H:Int) (B g n k q p0 s:Nat) (L:List UInt8) (hL:L.length = n) (hq:q ≤ 31) (hs:1 ≤ s) (h2:p0 + 3 * s < n) (hn:n ≤ 16777216) (hb:Bytes w B (.slice (some ⟨g,0,none⟩) n k) L) :
  Calls Tryz.prog 180 #[.agg #[.int .i64 W,.int .i64 H,.slice (some ⟨g,0,none⟩) n k],.int .i64 (p0:Int),.int .i64 (s:Int),.int .i64 (q:Int)] w fun e w'=>e = .returned (.tuple #[]) ∧ Bytes w' B (.slice (some ⟨g,0,none⟩) n k) (smo q L (p0 + 2 * s) s) ∧ Mod (· = g) w w':=by
 obtain ⟨p1,hp1⟩:∃ p1,p1 = p0 + s:=⟨_,rfl⟩
 obtain ⟨p2,hp2⟩:∃ p2,p2 = p0 + 2 * s:=⟨_,rfl⟩
 obtain ⟨p3,hp3⟩:∃ p3,p3 = p0 + 3 * s:=⟨_,rfl⟩
 have hR:smo q L (p0 + 2 * s) s = (L.set p1 (UInt8.ofNat (lineN (L.getD p0 0).toNat (L.getD p1 0).toNat (L.getD p2 0).toNat (L.getD p3 0).toNat q).1)).set p2
  (UInt8.ofNat (lineN (L.getD p0 0).toNat (L.getD p1 0).toNat (L.getD p2 0).toNat (L.getD p3 0).toNat q).2):=by
  unfold smo
  rw [show p0 + 2 * s - s = p1 by omega,show p0 + 2 * s - 2 * s = p0 by omega,show p0 + 2 * s + s = p3 by omega,← hp2]
 have hB0:Bytes (w.alloc (.cells #[.int .i64 W,.int .i64 H,.slice (some ⟨g,0,none⟩) n k] 38)) B (.slice (some ⟨g,0,none⟩) n k) L:=hb.quiet ((Mod.refl _ _).alloc _)
 have k0:=hB0.cell p0 (by omega)
 have k1:=hB0.cell p1 (by omega)
 have k2:=hB0.cell p2 (by omega)
 have k3:=hB0.cell p3 (by omega)
 have hlt:=lineN_lt (L.getD p0 0).toNat (L.getD p1 0).toNat (L.getD p2 0).toNat (L.getD p3 0).toNat q (UInt8.toNat_lt _) (UInt8.toNat_lt _)
 have x0:(L.getD p0 0).toNat < 256:=UInt8.toNat_lt _
 have x1:(L.getD p1 0).toNat < 256:=UInt8.toNat_lt _
 have x2:(L.getD p2 0).toNat < 256:=UInt8.toNat_lt _
 have x3:(L.getD p3 0).toNat < 256:=UInt8.toNat_lt _
 obtain ⟨v0,hv0⟩:∃ v,v = (L.getD p0 0).toNat:=⟨_,rfl⟩
 obtain ⟨v1,hv1⟩:∃ v,v = (L.getD p1 0).toNat:=⟨_,rfl⟩
 obtain ⟨v2,hv2⟩:∃ v,v = (L.getD p2 0).toNat:=⟨_,rfl⟩
 obtain ⟨v3,hv3⟩:∃ v,v = (L.getD p3 0).toNat:=⟨_,rfl⟩
 rw [← hv0,← hv1,← hv2,← hv3] at hR hlt
 rw [← hv0] at k0 x0
 rw [← hv1] at k1 x1
 rw [← hv2] at k2 x2
 rw [← hv3] at k3 x3
 obtain ⟨l1,l2⟩:=hlt
 have e1:IntKind.i64.wrap ((p0:Int) + (s:Int)) = (p1:Int):=by rw [IntWalk.i64_in _ ⟨by omega,by omega⟩];omega
 have e2:IntKind.i64.wrap (2 * (s:Int)) = 2 * (s:Int):=IntWalk.i64_in _ ⟨by omega,by omega⟩
 have e3:IntKind.i64.wrap ((p0:Int) + 2 * (s:Int)) = (p2:Int):=by rw [IntWalk.i64_in _ ⟨by omega,by omega⟩];omega
 have e4:IntKind.i64.wrap (3 * (s:Int)) = 3 * (s:Int):=IntWalk.i64_in _ ⟨by omega,by omega⟩
 have e5:IntKind.i64.wrap ((p0:Int) + 3 * (s:Int)) = (p3:Int):=by rw [IntWalk.i64_in _ ⟨by omega,by omega⟩];omega
 have i0:(0:Int) ≤ (p0:Int):=by omega
 have i1:(0:Int) ≤ (p1:Int):=by omega
 have i2:(0:Int) ≤ (p2:Int):=by omega
 have i3:(0:Int) ≤ (p3:Int):=by omega
 have j0:(p0:Int) < (n:Int):=by omega
 have j1:(p1:Int) < (n:Int):=by omega
 have j2:(p2:Int) < (n:Int):=by omega
 have j3:(p3:Int) < (n:Int):=by omega
 have hne:p1 ≠ p2:=by omega
 have f1:(p0:Int) + (s:Int) = (p1:Int):=by omega
 have f2:(p0:Int) + 2 * (s:Int) = (p2:Int):=by omega
 have fz:=hB0.frozen
 have gl:=hB0.low.2
 have gl0:=hb.low.2
 have HE:=Lib.hid (And.intro e1 (And.intro e2 (And.intro e3 (And.intro e4 e5))))
 have HH:=Lib.hid (And.intro hR (And.intro hB0 (And.intro hL (And.intro f1 f2))))
 clear hR hb hB0 hL hp1 hp2 hp3 hv0 hv1 hv2 hv3 e1 e2 e3 e4 e5 f1 f2
 go_enter Tryz.func180,Tryz.ntmps180
 go_upto_region 1 with (fail)
 obtain ⟨e1,e2,e3,e4,e5⟩:=HE.out
 go_quiet ((go_at_call 230;exact Calls.quiet_of_same (quiet_fLine _ v0 v1 v2 v3 q x0 x1 x2 x3 hq _)))
 clear e1 e2 e3 e4 e5
 have f1:=HH.out.2.2.2.1
 have f2:=HH.out.2.2.2.2
 go_wp2_with fail
 go_end0
 refine ⟨rfl,?_,?_⟩
 ·rw [HH.out.1]
  exact ((HH.out.2.1.quiet ((Mod.refl _ _).drewN _)).putN p1 _ l1).putN p2 _ l2
 ·exact ((((Mod.refl (· = g) w).alloc _).drewN _).setCell (p:=⟨g,p1,none⟩) (.inl rfl) _).setCell (p:=⟨g,p2,none⟩) (.inl rfl) _
theorem GrowS.turn {w wr w':World} {L:List Ent} {b n k:Nat} {l l':List UInt8} (h:GrowS w wr L (.slice (some ⟨b,0,none⟩) n k) l) (hL:∀ e ∈ L,e.t ≠ 5) (ho:Bytes w' w.heap.size (.slice (some ⟨b,0,none⟩) n k) l') (hm:Mod (· = b) wr w'):GrowS w w' L (.slice (some ⟨b,0,none⟩) n k) l':=
 h.app hL ho (hm.mono fun j e=>by subst e;rfl)
def FDRows (w:World) (Ls:List Ent) (v:Value) (n q W H:Nat) (R:List UInt8) (s31:Value) (wr:World):Prop:=
 ∃ y L,y ≤ H ∧ s31 = .int .i64 (y:Int) ∧ L.length = n ∧ smRows q W (H - y) y L = R ∧ GrowS w wr Ls v L
def FDRow (w:World) (Ls:List Ent) (v:Value) (n q W y:Nat) (R:List UInt8) (s9:Value) (wr:World):Prop:=
 ∃ x f L,8 ≤ x ∧ x ≤ W + 8 ∧ W ≤ x + f ∧ s9 = .int .i64 (x:Int) ∧ L.length = n ∧ smRow q W y f x L = R ∧ GrowS w wr Ls v L
def FDCols (w:World) (Ls:List Ent) (v:Value) (n q W H:Nat) (R:List UInt8) (s52:Value) (wr:World):Prop:=
 ∃ x L,x ≤ W ∧ s52 = .int .i64 (x:Int) ∧ L.length = n ∧ smCols q W H (W - x) x L = R ∧ GrowS w wr Ls v L
def FDCol (w:World) (Ls:List Ent) (v:Value) (n q W H x:Nat) (R:List UInt8) (s11:Value) (wr:World):Prop:=
 ∃ y f L,8 ≤ y ∧ y ≤ H + 8 ∧ H ≤ y + f ∧ s11 = .int .i64 (y:Int) ∧ L.length = n ∧ smCol q W H x f y L = R ∧ GrowS w wr Ls v L
theorem fDebPlane (w:World) (W H:Nat) (A:Option Addr) (n c:Nat) (pix:List UInt8) (q:Nat) (h:sidesB W H = true) (hn:n = W * H) (hs:n ≤ 1048576) (hin:BytesIn w A n c pix) (hq:q ≤ 31) :
  Calls Tryz.prog 115 #[.agg #[.int .i64 (W:Int),.int .i64 (H:Int),.slice A n c],.int .i64 (q:Int)] w
   fun e w'=>∃ b k,e = .returned (.tuple #[.agg #[.int .i64 (W:Int),.int .i64 (H:Int),.slice (some ⟨b,0,none⟩) n k],.int .i64 0]) ∧ Bytes w' w.heap.size (.slice (some ⟨b,0,none⟩) n k) (smPlane q W H pix) ∧ Mod (fun _=>False) w w':=by
 obtain ⟨ha,hW1,hW2,hH1,hH2,hn1⟩:=area_le h
 have hpl:pix.length = n:=hin.1
 rw [← hn] at ha hn1
 have h0:=((Sat.nil (fun _=>False) w).alloc 38 #[.int .i64 (W:Int),.int .i64 (H:Int),.slice A n c] rfl).alloc (g:=w.heap.size + 1) 38 #[.int .i64 0,.int .i64 0,.slice none 0 0] (by simp)
 have HI:=Lib.hid (And.intro h (And.intro hin (And.intro hn hpl)))
 have H0:=Lib.hid h0
 clear h hin hn hpl h0
 have t1:decide ((q:Int) < 0) = false:=decide_eq_false (by omega)
 have t2:decide (31 < (q:Int)) = false:=decide_eq_false (by omega)
 go_enter Tryz.func115,Tryz.ntmps115
 go_wp2_with fail
 refine (fPRight _ W H A n c HI.out.1 HI.out.2.2.1).mono ?_
 rintro e w1 ⟨rfl,hm1⟩
 have HS:=H0.out.quiet hm1
 obtain ⟨pc,pf⟩:=(HS.own_ 1 rfl).both
 have pl:=(HS.own_ 1 rfl).lt
 have HH:=Lib.hid HS
 clear HS hm1 H0
 go_wp2_with fail
 refine (fPCopy _ (W:Int) (H:Int) A n c pix (by omega) hs (HI.out.2.1.quiet HH.out.mod)).mono ?_
 rintro e w2 ⟨b,k,rfl,hb2,hm2⟩
 have HS2:=(HH.out.quiet hm2).alloc (g:=w2.heap.size) 38 #[.int .i64 (W:Int),.int .i64 (H:Int),.slice (some ⟨b,0,none⟩) n k] rfl
 have hle:w.heap.size ≤ w1.heap.size:=HH.out.mod.size
 have hb3:Bytes (w2.alloc (.cells #[.int .i64 (W:Int),.int .i64 (H:Int),.slice (some ⟨b,0,none⟩) n k] 38)) w.heap.size (.slice (some ⟨b,0,none⟩) n k) pix:=by
  have h:=hb2.quiet ((Mod.refl (fun _=>False) w2).alloc (.cells #[.int .i64 (W:Int),.int .i64 (H:Int),.slice (some ⟨b,0,none⟩) n k] 38))
  exact h.down hle
 have HG:Hid (GrowS w _ _ (.slice (some ⟨b,0,none⟩) n k) pix):=⟨hb3,HS2⟩
 obtain ⟨pc,pf⟩:=(HS2.own_ 2 rfl).both
 obtain ⟨oc,of_⟩:=(HS2.own_ 0 rfl).both
 have pl:=(HS2.own_ 2 rfl).lt
 have ol:=(HS2.own_ 0 rfl).lt
 clear HS2 hb3 hb2 hm2 hle HH
 go_wp2_with fail
 go_loopw [8] (FDRows w _ (.slice (some ⟨b,0,none⟩) n k) n q W H (smRows q W H 0 pix)) (fun s _=>H - (intOf s).toNat)
 case atStart=>exact ⟨0,pix,by omega,rfl,HI.out.2.2.2,rfl,HG.out⟩
 case round=>
  clear HG pc pf oc of_ pl ol
  obtain ⟨y,L,hy,rfl,hL,hR,HS⟩:=hrel
  obtain ⟨pc,pf⟩:=(HS.2.own_ 2 rfl).both
  have HY:=Lib.hid (And.intro hL (And.intro hR HS))
  clear hL hR HS
  by_cases hlt:y < H
  ·have d1:decide ((y:Int) < (H:Int)) = true:=decide_eq_true (by omega)
   go_wp2_with fail
   go_loopw [9] (FDRow w _ (.slice (some ⟨b,0,none⟩) n k) n q W y (smRow q W y W 8 L)) (fun s _=>W + 8 - (intOf s).toNat)
   case atStart=>exact ⟨8,W,L,by omega,by omega,by omega,rfl,HY.out.1,rfl,HY.out.2.2⟩
   case round=>
    rename World=>w6
    clear pc pf
    obtain ⟨x,f,L1,hx1,hx2,hf,rfl,hL1,hR1,HS1⟩:=hrel
    obtain ⟨pc,pf⟩:=(HS1.2.own_ 2 rfl).both
    obtain ⟨oc,of_⟩:=(HS1.2.own_ 0 rfl).both
    have HX:=Lib.hid (And.intro hL1 (And.intro hR1 HS1))
    clear hL1 hR1 HS1
    by_cases hlx:x + 1 < W
    ·have d2:decide ((x:Int) + 1 < (W:Int)) = true:=decide_eq_true (by omega)
     obtain ⟨m0,hm0⟩:∃ m0,m0 = y * W:=⟨_,rfl⟩
     obtain ⟨b1,b2⟩:=at_in (x:=x) HI.out.2.2.1 hlt (by omega)
     rw [← hm0] at b1 b2
     have hmw:wrap64 ((y:Int) * (W:Int)) = (m0:Int):=by
      rw [show (y:Int) * (W:Int) = (m0:Int) by rw [hm0];simp]
      exact IntWalk.wrap64_in _ ⟨by omega,by omega⟩
     have HM:=Lib.hid (And.intro hm0 hmw)
     clear hm0 hmw
     go_wp2_with fail
     rw [HM.out.2,IntWalk.wrap64_in ((m0:Int) + (x:Int)) ⟨by omega,by omega⟩,IntWalk.wrap64_in ((m0:Int) + (x:Int) - 2) ⟨by omega,by omega⟩,show (m0:Int) + (x:Int) - 2 = ((m0 + x - 2:Nat):Int) by omega]
     refine (fDone _ (W:Int) (H:Int) w.heap.size b n k q (m0 + x - 2) 1 L1 HX.out.1 hq (by omega) (by omega) ha HX.out.2.2.1).mono ?_
     rintro e w7 ⟨rfl,hb7,hm7⟩
     rw [show m0 + x - 2 + 2 * 1 = m0 + x by omega] at hb7
     have HS7:=HX.out.2.2.turn (by intro e he;simp at he;rcases he with rfl | rfl | rfl <;> (dsimp only;decide)) hb7 hm7
     clear hb7 hm7 pc pf oc of_
     have H7:=Lib.hid HS7
     clear HS7
     go_wp2_with fail
     go_roundw
     case rel=>
      obtain ⟨f',rfl⟩:∃ f',f = f' + 1:=⟨f - 1,by omega⟩
      refine ⟨x + 8,f',smo q L1 (m0 + x) 1,by omega,by omega,by omega,by go_num,by rw [smo_length];exact HX.out.1,?_,H7.out⟩
      have:=HX.out.2.1
      rw [smRow_step hlx,← HM.out.1] at this
      exact this
     case measure=>simp [intOf];omega
    ·have d2:decide ((x:Int) + 1 < (W:Int)) = false:=decide_eq_false (by omega)
     go_wp2_with fail
     go_roundw
     case rel=>
      have h1:=HX.out.2.1
      rw [smRow_done hlx] at h1
      refine ⟨y + 1,L1,by omega,by go_num,HX.out.1,?_,HX.out.2.2⟩
      rw [h1,← smRows_step hlt]
      exact HY.out.2.1
     case measure=>simp [intOf];omega
  ·obtain rfl:y = H:=by omega
   have hd:=HY.out.2.1
   rw [Nat.sub_self] at hd
   have hd:L = smRows q W y 0 pix:=hd
   subst hd
   have H5:=Lib.hid HY.out.2.2
   clear HY
   go_wp2_with fail
   clear pc pf
   go_loopw [10] (FDCols w _ (.slice (some ⟨b,0,none⟩) n k) n q W y (smPlane q W y pix)) (fun s _=>W - (intOf s).toNat)
   case atStart=>exact ⟨0,_,by omega,rfl,by rw [smRows_length];exact HI.out.2.2.2,rfl,H5.out⟩
   case round=>
    clear H5
    rename World=>w8
    obtain ⟨x,L,hx,rfl,hL,hR,HS⟩:=hrel
    obtain ⟨pc,pf⟩:=(HS.2.own_ 2 rfl).both
    obtain ⟨oc,of_⟩:=(HS.2.own_ 0 rfl).both
    obtain ⟨rc,rf⟩:=(HS.2.own_ 1 rfl).both
    have rl:=(HS.2.own_ 1 rfl).lt
    have HY:=Lib.hid (And.intro hL (And.intro hR HS))
    clear hL hR HS
    by_cases hlt:x < W
    ·have d1:decide ((x:Int) < (W:Int)) = true:=decide_eq_true (by omega)
     go_wp2_with fail
     go_loopw [11] (FDCol w _ (.slice (some ⟨b,0,none⟩) n k) n q W y x (smCol q W y x y 8 L)) (fun s _=>y + 8 - (intOf s).toNat)
     case atStart=>exact ⟨8,y,L,by omega,by omega,by omega,rfl,HY.out.1,rfl,HY.out.2.2⟩
     case round=>
      rename World=>w6
      clear pc pf oc of_ rc rf rl
      obtain ⟨z,f,L1,hz1,hz2,hf,rfl,hL1,hR1,HS1⟩:=hrel
      obtain ⟨pc,pf⟩:=(HS1.2.own_ 2 rfl).both
      obtain ⟨oc,of_⟩:=(HS1.2.own_ 0 rfl).both
      have HX:=Lib.hid (And.intro hL1 (And.intro hR1 HS1))
      clear hL1 hR1 HS1
      by_cases hlz:z + 1 < y
      ·have d2:decide ((z:Int) + 1 < (y:Int)) = true:=decide_eq_true (by omega)
       obtain ⟨m0,hm0⟩:∃ m0,m0 = z * W:=⟨_,rfl⟩
       obtain ⟨m1,hm1⟩:∃ m1,m1 = (z - 2) * W:=⟨_,rfl⟩
       obtain ⟨b1,b2⟩:=at_in (x:=x) HI.out.2.2.1 hlz hlt
       rw [Nat.add_mul,Nat.one_mul,← hm0] at b1 b2
       have b3:m0 = m1 + 2 * W:=by rw [hm0,hm1,← Nat.add_mul];congr 1;omega
       have hmw:wrap64 (((z:Int) - 2) * (W:Int)) = (m1:Int):=by
        rw [show (z:Int) - 2 = ((z - 2:Nat):Int) by omega,show ((z - 2:Nat):Int) * (W:Int) = (m1:Int) by rw [hm1];simp]
        exact IntWalk.wrap64_in _ ⟨by omega,by omega⟩
       have HM:=Lib.hid (And.intro hm0 hmw)
       clear hm0 hmw hm1
       go_wp2_with fail
       rw [HM.out.2,IntWalk.wrap64_in ((m1:Int) + (x:Int)) ⟨by omega,by omega⟩,show (m1:Int) + (x:Int) = ((m1 + x:Nat):Int) by omega]
       refine (fDone _ (W:Int) (y:Int) w.heap.size b n k q (m1 + x) W L1 HX.out.1 hq (by omega) (by omega) ha HX.out.2.2.1).mono ?_
       rintro e w7 ⟨rfl,hb7,hm7⟩
       rw [show m1 + x + 2 * W = m0 + x by omega] at hb7
       have HS7:=HX.out.2.2.turn (by intro e he;simp at he;rcases he with rfl | rfl | rfl <;> (dsimp only;decide)) hb7 hm7
       clear hb7 hm7 pc pf oc of_
       have H7:=Lib.hid HS7
       clear HS7
       go_wp2_with fail
       go_roundw
       case rel=>
        obtain ⟨f',rfl⟩:∃ f',f = f' + 1:=⟨f - 1,by omega⟩
        refine ⟨z + 8,f',smo q L1 (m0 + x) W,by omega,by omega,by omega,by go_num,by rw [smo_length];exact HX.out.1,?_,H7.out⟩
        have:=HX.out.2.1
        rw [smCol_step hlz,← HM.out.1] at this
        exact this
       case measure=>simp [intOf];omega
      ·have d2:decide ((z:Int) + 1 < (y:Int)) = false:=decide_eq_false (by omega)
       go_wp2_with fail
       go_roundw
       case rel=>
        have h1:=HX.out.2.1
        rw [smCol_done hlz] at h1
        refine ⟨x + 1,L1,by omega,by go_num,HX.out.1,?_,HX.out.2.2⟩
        rw [h1,← smCols_step hlt]
        exact HY.out.2.1
       case measure=>simp [intOf];omega
    ·obtain rfl:x = W:=by omega
     have hd:=HY.out.2.1
     rw [Nat.sub_self] at hd
     have hd:L = smPlane q x y pix:=hd
     subst hd
     have d1:decide ((x:Int) < (x:Int)) = false:=decide_eq_false (by omega)
     go_wp2_with fail
     have hr:=HY.out.2.2.1.ne_ (HY.out.2.2.2.own_ 1 rfl) (show 38 ≠ 5 by decide)
     dsimp only at hr
     have HE:=((HY.out.2.2.2.put (g:=w.heap.size + 1) (i:=0) (u:=.int .i64 (x:Int)) (.there (.here rfl))).put (g:=w.heap.size + 1) (i:=1) (u:=.int .i64 (y:Int)) (.there (.here rfl))).put (g:=w.heap.size + 1) (i:=2) (u:=.slice (some ⟨b,0,none⟩) n k) (.there (.here rfl))
     have hB:=((HY.out.2.2.1.far (p:=⟨w.heap.size + 1,0,none⟩) hr (.int .i64 (x:Int))).far (p:=⟨w.heap.size + 1,1,none⟩) hr (.int .i64 (y:Int))).far (p:=⟨w.heap.size + 1,2,none⟩) hr (.slice (some ⟨b,0,none⟩) n k)
     exact bodyPost_ret (v:=.tuple #[.agg #[.int .i64 (x:Int),.int .i64 (y:Int),.slice (some ⟨b,0,none⟩) n k],.int .i64 0]) (by simp [results,Tryz.results115,go_sem,rc]) rfl ⟨b,k,rfl,hB,HE.mod⟩
def frV (d:Dim) (b0 k0 b1 k1 b2 k2:Nat):List Value:=
 [.int .i64 (d.W:Int),.int .i64 (d.H:Int),.slice (some ⟨b0,0,none⟩) d.nY k0,.int .i64 (d.W2:Int),.int .i64 (d.H2:Int),.slice (some ⟨b1,0,none⟩) d.nC k1,.int .i64 (d.W2:Int),.int .i64 (d.H2:Int),.slice (some ⟨b2,0,none⟩) d.nC k2]
structure FrB (w:World) (B:Nat) (d:Dim) (b0 k0 b1 k1 b2 k2:Nat) (f:Pix):Prop where
 y:Bytes w B (.slice (some ⟨b0,0,none⟩) d.nY k0) f.Y
 u:Bytes w B (.slice (some ⟨b1,0,none⟩) d.nC k1) f.U
 v:Bytes w B (.slice (some ⟨b2,0,none⟩) d.nC k2) f.V
 ly:f.Y.length = d.nY
 lu:f.U.length = d.nC
 lv:f.V.length = d.nC
theorem FrB.quiet {w w':World} {B:Nat} {d:Dim} {b0 k0 b1 k1 b2 k2:Nat} {f:Pix} (h:FrB w B d b0 k0 b1 k1 b2 k2 f) (hm:Mod (fun _=>False) w w'):FrB w' B d b0 k0 b1 k1 b2 k2 f:=⟨h.y.quiet hm,h.u.quiet hm,h.v.quiet hm,h.ly,h.lu,h.lv⟩
theorem FrB.mod {S:Nat → Prop} {w w':World} {B:Nat} {d:Dim} {b0 k0 b1 k1 b2 k2:Nat} {f:Pix} (h:FrB w B d b0 k0 b1 k1 b2 k2 f) (hm:Mod S w w') (hS:∀ j,S j → w.heap.size ≤ j ∨ ∃ t cs,Blk w j t cs ∧ t ≠ 5):FrB w' B d b0 k0 b1 k1 b2 k2 f:=by
 have go:∀ {b n k:Nat} {l:List UInt8},Bytes w B (.slice (some ⟨b,0,none⟩) n k) l → Bytes w' B (.slice (some ⟨b,0,none⟩) n k) l:=fun hb=>hb.mod hm (fun g e hg=>by
  rcases hS g hg with h1 | ⟨t,cs,h1,h2⟩
  ·have:=(World.ownsRow.lt hb g e).2;omega
  ·exact hb.apart h1 h2 e)
 exact ⟨go h.y,go h.u,go h.v,h.ly,h.lu,h.lv⟩
theorem FrB.down {w:World} {B B':Nat} {d:Dim} {b0 k0 b1 k1 b2 k2:Nat} {f:Pix} (h:FrB w B d b0 k0 b1 k1 b2 k2 f) (hB:B' ≤ B):FrB w B' d b0 k0 b1 k1 b2 k2 f:=⟨h.y.down hB,h.u.down hB,h.v.down hB,h.ly,h.lu,h.lv⟩
def FrO (w:World) (B:Nat) (d:Dim) (v:Value) (f:Pix):Prop:=∃ b0 k0 b1 k1 b2 k2,v = .agg (frV d b0 k0 b1 k1 b2 k2).toArray ∧ FrB w B d b0 k0 b1 k1 b2 k2 f
theorem Bytes.in_n {w:World} {B b n k:Nat} {l:List UInt8} (h:Bytes w B (.slice (some ⟨b,0,none⟩) n k) l) (hl:l.length = n):BytesIn w (some ⟨b,0,none⟩) n k l:=by
 subst hl
 exact h.in_
theorem fWhole (w:World) (d:Dim) (hd:d.Ok) (b0 k0 b1 k1 b2 k2:Nat):Calls Tryz.prog 53 #[.agg (frV d b0 k0 b1 k1 b2 k2).toArray] w fun e w'=>e = .returned (.bool true) ∧ Mod (fun _=>False) w w':=by
 have h0:=((Sat.nil (fun _=>False) w).alloc 40 (frV d b0 k0 b1 k1 b2 k2).toArray rfl)
 have hw16:=hd.w16
 have hh16:=hd.h16
 have hq1:=hd.w2
 have hq2:=hd.h2
 have m1:((d.W:Int) % 16 == 0) = true:=by simp;omega
 have m2:((d.H:Int) % 16 == 0) = true:=by simp;omega
 have q1:(d.W:Int) / 2 = (d.W2:Int):=by omega
 have q2:(d.H:Int) / 2 = (d.H2:Int):=by omega
 obtain ⟨_,z1,z2,z3,z4,_⟩:=area_le hd.sides
 obtain ⟨_,z5,z6,z7,z8,_⟩:=area_le hd.half
 have HD:=Lib.hid (And.intro hd (And.intro hd.half (And.intro q1 (And.intro q2 (And.intro m1 m2)))))
 have H0:=Lib.hid h0
 clear hd h0 hw16 hh16 hq1 hq2 q1 q2 m1 m2
 unfold frV
 go_enter Tryz.func53,Tryz.ntmps53
 go_wp2_with fail
 refine (fPRight _ d.W d.H _ d.nY k0 HD.out.1.sides HD.out.1.ny).mono ?_
 rintro e w1 ⟨rfl,hm1⟩
 have HS1:=H0.out.quiet hm1
 obtain ⟨pc,pf⟩:=(HS1.own_ 0 rfl).both
 unfold frV at pc
 have H1:=Lib.hid HS1
 clear hm1 HS1 H0
 go_wp2_with fail
 refine (fPRight _ d.W2 d.H2 _ d.nC k1 HD.out.2.1 HD.out.1.nc).mono ?_
 rintro e w2 ⟨rfl,hm1⟩
 have HS2:=H1.out.quiet hm1
 clear pc pf
 obtain ⟨pc,pf⟩:=(HS2.own_ 0 rfl).both
 unfold frV at pc
 have H2:=Lib.hid HS2
 clear hm1 HS2 H1
 go_wp2_with fail
 refine (fPRight _ d.W2 d.H2 _ d.nC k2 HD.out.2.1 HD.out.1.nc).mono ?_
 rintro e w3 ⟨rfl,hm1⟩
 have HS3:=H2.out.quiet hm1
 clear pc pf
 obtain ⟨pc,pf⟩:=(HS3.own_ 0 rfl).both
 unfold frV at pc
 have H3:=Lib.hid HS3.mod
 clear hm1 HS3 H2
 obtain ⟨_,_,q1,q2,m1,m2⟩:=HD.out
 go_wp2_with fail
 go_ret
 exact ⟨rfl,H3.out⟩
theorem bytes_rep {w:World} {B g n:Nat} {v:UInt8} (hB:B ≤ g) (hb:Blk w g 5 (u8s (List.replicate n v)).toArray) (hn:n ≤ 16777216):Bytes w B (.slice (some ⟨g,0,none⟩) n n) (List.replicate n v):=by
 have h:=Bytes.of_blk hB hb (by rw [List.length_replicate];unfold maxLen;omega)
 rwa [List.length_replicate] at h
def FBlankPost (w:World) (d:Dim) (f:Pix) (e:Ending) (w':World):Prop:=∃ p,e = .returned (.tuple #[p,.int .i64 0]) ∧ FrO w' w.heap.size d p f ∧ Mod (fun _=>False) w w'
theorem fBlank (w:World) (d:Dim) (hd:d.Ok) (v:UInt8):Calls Tryz.prog 57 #[.int .i64 (d.W:Int),.int .i64 (d.H:Int),.int .u8 (v.toNat:Int)] w (FBlankPost w d (blankPix d v)):=by
 have hh:=hd.half
 obtain ⟨a1,a2,a3,a4,a5,a6⟩:=area_le hd.sides
 obtain ⟨c1,c2,c3,c4,c5,c6⟩:=area_le hh
 rw [← hd.ny] at a1 a6
 rw [← hd.nc] at c1 c6
 have hw16:=hd.w16
 have hh16:=hd.h16
 have m1:((d.W:Int) % 16 != 0) = false:=by simp;omega
 have m2:((d.H:Int) % 16 != 0) = false:=by simp;omega
 have q1:(d.W:Int) / 2 = (d.W2:Int):=by have:=hd.w2;omega
 have q2:(d.H:Int) / 2 = (d.H2:Int):=by have:=hd.h2;omega
 have HD:=Lib.hid (And.intro hd (And.intro hh (And.intro q1 q2)))
 have h0:=(Sat.nil (fun _=>False) w).alloc 40 #[.int .i64 0,.int .i64 0,.slice none 0 0,.int .i64 0,.int .i64 0,.slice none 0 0,.int .i64 0,.int .i64 0,.slice none 0 0] rfl
 have H0:=Lib.hid h0
 clear hd hh hw16 hh16 q1 q2 h0
 go_enter Tryz.func57,Tryz.ntmps57
 go_wp2_with fail
 refine (fPNew' _ d.W d.H d.nY v HD.out.1.sides HD.out.1.ny).mono ?_
 rintro e w1 ⟨g1,rfl,hb1,hg1,hm1⟩
 have HS1:=(H0.out.quiet hm1).alloc (g:=w1.heap.size) 38 #[.int .i64 (d.W:Int),.int .i64 (d.H:Int),.slice (some ⟨g1,0,none⟩) d.nY d.nY] rfl
 have B1:=(bytes_rep (B:=w.heap.size) (Nat.le_trans H0.out.mod.size hg1) hb1 a1).quiet ((Mod.refl (fun _=>False) w1).alloc (.cells #[.int .i64 (d.W:Int),.int .i64 (d.H:Int),.slice (some ⟨g1,0,none⟩) d.nY d.nY] 38))
 have H1:=Lib.hid (And.intro HS1 B1)
 clear HS1 B1 hb1 hg1 hm1 H0
 obtain ⟨_,_,q1,q2⟩:=HD.out
 go_wp2_with fail
 clear q1 q2
 refine (fPNew' _ d.W2 d.H2 d.nC v HD.out.2.1 HD.out.1.nc).mono ?_
 rintro e w2 ⟨g2,rfl,hb1,hg1,hm1⟩
 have mm:=hm1.trans ((Mod.refl (fun _=>False) w2).alloc (.cells #[.int .i64 (d.W2:Int),.int .i64 (d.H2:Int),.slice (some ⟨g2,0,none⟩) d.nC d.nC] 38))
 have HS1:=(H1.out.1.quiet hm1).alloc (g:=w2.heap.size) 38 #[.int .i64 (d.W2:Int),.int .i64 (d.H2:Int),.slice (some ⟨g2,0,none⟩) d.nC d.nC] rfl
 have B2:=(bytes_rep (B:=w.heap.size) (Nat.le_trans H1.out.1.mod.size hg1) hb1 c1).quiet ((Mod.refl (fun _=>False) w2).alloc (.cells #[.int .i64 (d.W2:Int),.int .i64 (d.H2:Int),.slice (some ⟨g2,0,none⟩) d.nC d.nC] 38))
 have H2:=Lib.hid (And.intro HS1 (And.intro (H1.out.2.quiet mm) B2))
 clear HS1 B2 hb1 hg1 hm1 mm H1
 obtain ⟨_,_,q1,q2⟩:=HD.out
 go_wp2_with fail
 clear q1 q2
 refine (fPNew' _ d.W2 d.H2 d.nC v HD.out.2.1 HD.out.1.nc).mono ?_
 rintro e w3 ⟨g3,rfl,hb1,hg1,hm1⟩
 have mm:=hm1.trans ((Mod.refl (fun _=>False) w3).alloc (.cells #[.int .i64 (d.W2:Int),.int .i64 (d.H2:Int),.slice (some ⟨g3,0,none⟩) d.nC d.nC] 38))
 have HS1:=(H2.out.1.quiet hm1).alloc (g:=w3.heap.size) 38 #[.int .i64 (d.W2:Int),.int .i64 (d.H2:Int),.slice (some ⟨g3,0,none⟩) d.nC d.nC] rfl
 have B2:=(bytes_rep (B:=w.heap.size) (Nat.le_trans H2.out.1.mod.size hg1) hb1 c1).quiet ((Mod.refl (fun _=>False) w3).alloc (.cells #[.int .i64 (d.W2:Int),.int .i64 (d.H2:Int),.slice (some ⟨g3,0,none⟩) d.nC d.nC] 38))
 obtain ⟨c80,c8f⟩:=(HS1.own_ 2 rfl).both
 obtain ⟨c90,c9f⟩:=(HS1.own_ 1 rfl).both
 obtain ⟨c70,c7f⟩:=(HS1.own_ 0 rfl).both
 obtain ⟨rc,rf⟩:=(HS1.own_ 3 rfl).both
 have rl:=(HS1.own_ 3 rfl).lt
 have H3:=Lib.hid (And.intro HS1 (And.intro (H2.out.2.1.quiet mm) (And.intro (H2.out.2.2.quiet mm) B2)))
 clear HS1 B2 hb1 hg1 hm1 mm H2
 go_wp2_with fail
 have hres:=H3.out.1.own_ 3 rfl
 dsimp only at hres
 have hp:=(fr_put9 hres (.int .i64 (d.W:Int)) (.int .i64 (d.H:Int)) (.slice (some ⟨g1,0,none⟩) d.nY d.nY) (.int .i64 (d.W2:Int)) (.int .i64 (d.H2:Int)) (.slice (some ⟨g2,0,none⟩) d.nC d.nC) (.int .i64 (d.W2:Int)) (.int .i64 (d.H2:Int)) (.slice (some ⟨g3,0,none⟩) d.nC d.nC)).2
 have hf:FrB _ w.heap.size d g1 d.nY g2 d.nC g3 d.nC (blankPix d v):=⟨H3.out.2.1,H3.out.2.2.1,H3.out.2.2.2,by simp [blankPix],by simp [blankPix],by simp [blankPix]⟩
 refine bodyPost_ret (v:=.tuple #[.agg (frV d g1 d.nY g2 d.nC g3 d.nC).toArray,.int .i64 0]) (by simp [results,Tryz.results57,go_sem,rc,frV]) rfl ⟨_,rfl,⟨_,_,_,_,_,_,rfl,hf.mod hp (fun j e=>.inr ⟨_,_,by subst e;exact hres,by decide⟩)⟩,H3.out.1.mod.into hp (fun i e=>.inr (by omega))⟩
theorem fDebFrame (w:World) (B:Nat) (d:Dim) (hd:d.Ok) (hs:d.nY ≤ 1048576) (b0 k0 b1 k1 b2 k2:Nat) (f:Pix) (hf:FrB w B d b0 k0 b1 k1 b2 k2 f) (q:Nat) (hq:q ≤ 31):Calls Tryz.prog 60 #[.agg (frV d b0 k0 b1 k1 b2 k2).toArray,.int .i64 (q:Int)] w (FBlankPost w d (smPix q d f)):=by
 have HC:=fWhole ((w.alloc (.cells (frV d b0 k0 b1 k1 b2 k2).toArray 40)).alloc (.cells #[.int .i64 0,.int .i64 0,.slice none 0 0,.int .i64 0,.int .i64 0,.slice none 0 0,.int .i64 0,.int .i64 0,.slice none 0 0] 40)) d hd b0 k0 b1 k1 b2 k2
 have hh:=hd.half
 obtain ⟨a1,a2,a3,a4,a5,a6⟩:=area_le hd.sides
 obtain ⟨c1,c2,c3,c4,c5,c6⟩:=area_le hh
 rw [← hd.ny] at a1 a6
 rw [← hd.nc] at c1 c6
 have hsc:d.nC ≤ 1048576:=by
  have h1:=hd.w2
  have h2:=hd.h2
  have h3:d.W2 * d.H2 ≤ d.W * d.H:=Nat.mul_le_mul (by omega) (by omega)
  rw [← hd.nc,← hd.ny] at h3
  omega
 have t1:decide ((q:Int) < 0) = false:=decide_eq_false (by omega)
 have t2:decide (31 < (q:Int)) = false:=decide_eq_false (by omega)
 have h0:=((Sat.nil (fun _=>False) w).alloc 40 (frV d b0 k0 b1 k1 b2 k2).toArray rfl).alloc (g:=w.heap.size + 1) 40 #[.int .i64 0,.int .i64 0,.slice none 0 0,.int .i64 0,.int .i64 0,.slice none 0 0,.int .i64 0,.int .i64 0,.slice none 0 0] (by simp)
 have HD:=Lib.hid (And.intro hd (And.intro hh (And.intro (And.intro hs hsc) (And.intro hf (And.intro a6 c6)))))
 have H0:=Lib.hid h0
 clear hd hh h0 hs hsc hf a1 a6 c1 c6
 unfold frV at HC ⊢
 go_enter Tryz.func60,Tryz.ntmps60
 go_wp2_with fail
 refine HC.mono ?_
 clear HC
 rintro e w1 ⟨rfl,hm1⟩
 have HS:=H0.out.quiet hm1
 obtain ⟨pc,pf⟩:=(HS.own_ 1 rfl).both
 unfold frV at pc
 have H1:=Lib.hid HS
 clear hm1 HS H0
 go_wp2_with fail
 refine (fDebPlane _ d.W d.H _ d.nY k0 f.Y q HD.out.1.sides HD.out.1.ny HD.out.2.2.1.1 ((HD.out.2.2.2.1.y.in_n HD.out.2.2.2.1.ly).quiet H1.out.mod) hq).mono ?_
 rintro e w2 ⟨g1,l1,rfl,hb1,hm1⟩
 have mm:=hm1.trans ((Mod.refl (fun _=>False) w2).alloc (.cells #[.int .i64 (d.W:Int),.int .i64 (d.H:Int),.slice (some ⟨g1,0,none⟩) d.nY l1] 38))
 have HS1:=(H1.out.quiet hm1).alloc (g:=w2.heap.size) 38 #[.int .i64 (d.W:Int),.int .i64 (d.H:Int),.slice (some ⟨g1,0,none⟩) d.nY l1] rfl
 have B1:=(hb1.down H1.out.mod.size).quiet ((Mod.refl (fun _=>False) w2).alloc (.cells #[.int .i64 (d.W:Int),.int .i64 (d.H:Int),.slice (some ⟨g1,0,none⟩) d.nY l1] 38))
 clear pc pf
 obtain ⟨pc,pf⟩:=(HS1.own_ 2 rfl).both
 unfold frV at pc
 have H2:=Lib.hid (And.intro HS1 B1)
 clear HS1 B1 hb1 hm1 mm H1
 go_wp2_with fail
 refine (fDebPlane _ d.W2 d.H2 _ d.nC k1 f.U q HD.out.2.1 HD.out.1.nc HD.out.2.2.1.2 ((HD.out.2.2.2.1.u.in_n HD.out.2.2.2.1.lu).quiet H2.out.1.mod) hq).mono ?_
 rintro e w3 ⟨g2,l2,rfl,hb1,hm1⟩
 have mm:=hm1.trans ((Mod.refl (fun _=>False) w3).alloc (.cells #[.int .i64 (d.W2:Int),.int .i64 (d.H2:Int),.slice (some ⟨g2,0,none⟩) d.nC l2] 38))
 have HS1:=(H2.out.1.quiet hm1).alloc (g:=w3.heap.size) 38 #[.int .i64 (d.W2:Int),.int .i64 (d.H2:Int),.slice (some ⟨g2,0,none⟩) d.nC l2] rfl
 have B2:=(hb1.down H2.out.1.mod.size).quiet ((Mod.refl (fun _=>False) w3).alloc (.cells #[.int .i64 (d.W2:Int),.int .i64 (d.H2:Int),.slice (some ⟨g2,0,none⟩) d.nC l2] 38))
 clear pc pf
 obtain ⟨pc,pf⟩:=(HS1.own_ 3 rfl).both
 unfold frV at pc
 have H3:=Lib.hid (And.intro HS1 (And.intro (H2.out.2.quiet mm) B2))
 clear HS1 B2 hb1 hm1 mm H2
 go_wp2_with fail
 refine (fDebPlane _ d.W2 d.H2 _ d.nC k2 f.V q HD.out.2.1 HD.out.1.nc HD.out.2.2.1.2 ((HD.out.2.2.2.1.v.in_n HD.out.2.2.2.1.lv).quiet H3.out.1.mod) hq).mono ?_
 rintro e w4 ⟨g3,l3,rfl,hb1,hm1⟩
 have mm:=hm1.trans ((Mod.refl (fun _=>False) w4).alloc (.cells #[.int .i64 (d.W2:Int),.int .i64 (d.H2:Int),.slice (some ⟨g3,0,none⟩) d.nC l3] 38))
 have HS1:=(H3.out.1.quiet hm1).alloc (g:=w4.heap.size) 38 #[.int .i64 (d.W2:Int),.int .i64 (d.H2:Int),.slice (some ⟨g3,0,none⟩) d.nC l3] rfl
 have B2:=(hb1.down H3.out.1.mod.size).quiet ((Mod.refl (fun _=>False) w4).alloc (.cells #[.int .i64 (d.W2:Int),.int .i64 (d.H2:Int),.slice (some ⟨g3,0,none⟩) d.nC l3] 38))
 clear pc pf
 obtain ⟨c80,c8f⟩:=(HS1.own_ 2 rfl).both
 obtain ⟨c90,c9f⟩:=(HS1.own_ 1 rfl).both
 obtain ⟨c70,c7f⟩:=(HS1.own_ 0 rfl).both
 obtain ⟨rc,rf⟩:=(HS1.own_ 3 rfl).both
 have rl:=(HS1.own_ 3 rfl).lt
 have H4:=Lib.hid (And.intro HS1 (And.intro (H3.out.2.1.quiet mm) (And.intro (H3.out.2.2.quiet mm) B2)))
 clear HS1 B2 hb1 hm1 mm H3
 go_wp2_with fail
 have hres:=H4.out.1.own_ 3 rfl
 dsimp only at hres
 have hp:=(fr_put9 hres (.int .i64 (d.W:Int)) (.int .i64 (d.H:Int)) (.slice (some ⟨g1,0,none⟩) d.nY l1) (.int .i64 (d.W2:Int)) (.int .i64 (d.H2:Int)) (.slice (some ⟨g2,0,none⟩) d.nC l2) (.int .i64 (d.W2:Int)) (.int .i64 (d.H2:Int)) (.slice (some ⟨g3,0,none⟩) d.nC l3)).2
 have hf:FrB _ w.heap.size d g1 l1 g2 l2 g3 l3 (smPix q d f):=⟨H4.out.2.1,H4.out.2.2.1,H4.out.2.2.2,smPlane_length.trans HD.out.2.2.2.1.ly,smPlane_length.trans HD.out.2.2.2.1.lu,smPlane_length.trans HD.out.2.2.2.1.lv⟩
 refine bodyPost_ret (v:=.tuple #[.agg (frV d g1 l1 g2 l2 g3 l3).toArray,.int .i64 0]) (by simp [results,Tryz.results60,go_sem,rc,frV]) rfl ⟨_,rfl,⟨_,_,_,_,_,_,rfl,hf.mod hp (fun j e=>.inr ⟨_,_,by subst e;exact hres,by decide⟩)⟩,H4.out.1.mod.into hp (fun i e=>.inr (by omega))⟩
def pick3 (pl a b c:Nat):Nat:=if pl = 0 then a else if pl = 1 then b else c
def Dim.nP (d:Dim) (pl:Nat):Nat:=if pl = 0 then d.nY else d.nC
def plV (d:Dim) (pl b k:Nat):Array Value:=#[.int .i64 (d.wOf pl:Int),.int .i64 (d.hOf pl:Int),.slice (some ⟨b,0,none⟩) (d.nP pl) k]
theorem FrB.of {w:World} {B:Nat} {d:Dim} {b0 k0 b1 k1 b2 k2:Nat} {f:Pix} (h:FrB w B d b0 k0 b1 k1 b2 k2 f) {pl:Nat} (hpl:pl < 3):Bytes w B (.slice (some ⟨pick3 pl b0 b1 b2,0,none⟩) (d.nP pl) (pick3 pl k0 k1 k2)) (f.get pl) ∧ (f.get pl).length = d.nP pl:=by
 have h3:pl = 0 ∨ pl = 1 ∨ pl = 2:=by omega
 rcases h3 with rfl | rfl | rfl
 ·exact ⟨h.y,h.ly⟩
 ·exact ⟨h.u,h.lu⟩
 ·exact ⟨h.v,h.lv⟩
theorem FrB.set {w:World} {B:Nat} {d:Dim} {b0 k0 b1 k1 b2 k2:Nat} {f:Pix} (h:FrB w B d b0 k0 b1 k1 b2 k2 f) {pl b k:Nat} (hpl:pl < 3) {l:List UInt8} (hb:Bytes w B (.slice (some ⟨b,0,none⟩) (d.nP pl) k) l) (hl:l.length = d.nP pl) :
  FrB w B d (if pl = 0 then b else b0) (if pl = 0 then k else k0) (if pl = 1 then b else b1) (if pl = 1 then k else k1) (if pl = 2 then b else b2) (if pl = 2 then k else k2) (f.set pl l):=by
 have h3:pl = 0 ∨ pl = 1 ∨ pl = 2:=by omega
 rcases h3 with rfl | rfl | rfl
 ·exact ⟨hb,h.u,h.v,hl,h.lu,h.lv⟩
 ·exact ⟨h.y,hb,h.v,h.ly,hl,h.lv⟩
 ·exact ⟨h.y,h.u,hb,h.ly,h.lu,hl⟩
theorem Dim.Ok.of {d:Dim} (h:d.Ok) (pl:Nat):sidesB (d.wOf pl) (d.hOf pl) = true ∧ d.nP pl = d.wOf pl * d.hOf pl:=by
 unfold Dim.wOf Dim.hOf Dim.nP
 by_cases e:pl = 0
 ·rw [if_pos e,if_pos e,if_pos e];exact ⟨h.sides,h.ny⟩
 ·rw [if_neg e,if_neg e,if_neg e];exact ⟨h.half,h.nc⟩
theorem Dim.Ok.nle {d:Dim} (h:d.Ok) (hs:d.nY ≤ 1048576) (pl:Nat):d.nP pl ≤ 1048576:=by
 unfold Dim.nP
 by_cases e:pl = 0
 ·rw [if_pos e];exact hs
 ·rw [if_neg e]
  have h1:=h.w2
  have h2:=h.h2
  have h3:d.W2 * d.H2 ≤ d.W * d.H:=Nat.mul_le_mul (by omega) (by omega)
  rw [← h.nc,← h.ny] at h3
  omega
theorem fPlaneOf (w:World) (d:Dim) (b0 k0 b1 k1 b2 k2 pl:Nat) (hpl:pl < 3):Calls Tryz.prog 108 #[.agg (frV d b0 k0 b1 k1 b2 k2).toArray,.int .i64 (pl:Int)] w fun e w'=>e = .returned (.agg (plV d pl (pick3 pl b0 b1 b2) (pick3 pl k0 k1 k2))) ∧ Mod (fun _=>False) w w':=by
 have h3:pl = 0 ∨ pl = 1 ∨ pl = 2:=by omega
 have hM:∀ o o' u0 u1 u2,Mod (fun _=>False) w (((((w.alloc o).alloc o').setCell ⟨w.heap.size + 1,0,none⟩ u0).setCell ⟨w.heap.size + 1,1,none⟩ u1).setCell ⟨w.heap.size + 1,2,none⟩ u2):=fun o o' u0 u1 u2=>
  (((((Mod.refl _ _).alloc o).alloc o').setCell (.inr (Nat.le_succ _)) u0).setCell (.inr (Nat.le_succ _)) u1).setCell (.inr (Nat.le_succ _)) u2
 rcases h3 with rfl | rfl | rfl
 ·unfold frV plV
  go_enter Tryz.func108,Tryz.ntmps108
  go_wp2_with fail
  exact bodyPost_ret (v:=.agg #[.int .i64 (d.W:Int),.int .i64 (d.H:Int),.slice (some ⟨b0,0,none⟩) d.nY k0]) (by simp [results,Tryz.results108,go_sem]) rfl ⟨rfl,((Mod.refl _ _).alloc _).alloc _⟩
 ·unfold frV plV
  go_enter Tryz.func108,Tryz.ntmps108
  go_wp2_with fail
  exact bodyPost_ret (v:=.agg #[.int .i64 (d.W2:Int),.int .i64 (d.H2:Int),.slice (some ⟨b1,0,none⟩) d.nC k1]) (by simp [results,Tryz.results108,go_sem]) rfl ⟨rfl,((Mod.refl _ _).alloc _).alloc _⟩
 ·unfold frV plV
  go_enter Tryz.func108,Tryz.ntmps108
  go_wp2_with fail
  exact bodyPost_ret (v:=.agg #[.int .i64 (d.W2:Int),.int .i64 (d.H2:Int),.slice (some ⟨b2,0,none⟩) d.nC k2]) (by simp [results,Tryz.results108,go_sem]) rfl ⟨rfl,((Mod.refl _ _).alloc _).alloc _⟩
theorem fWith (w:World) (d:Dim) (b0 k0 b1 k1 b2 k2 pl b k:Nat) (hpl:pl < 3):Calls Tryz.prog 166 #[.agg (frV d b0 k0 b1 k1 b2 k2).toArray,.int .i64 (pl:Int),.agg (plV d pl b k)] w fun e w'=>e = .returned (.agg (frV d (if pl = 0 then b else b0) (if pl = 0 then k else k0) (if pl = 1 then b else b1) (if pl = 1 then k else k1) (if pl = 2 then b else b2) (if pl = 2 then k else k2)).toArray) ∧ Mod (fun _=>False) w w':=by
 have h3:pl = 0 ∨ pl = 1 ∨ pl = 2:=by omega
 rcases h3 with rfl | rfl | rfl
 ·refine Calls.mono (R:=fun e w'=>e = .returned (.agg (frV d b k b1 k1 b2 k2).toArray) ∧ Mod (fun _=>False) w w') ?_ (fun _ _ h=>h)
  unfold frV plV
  go_enter Tryz.func166,Tryz.ntmps166
  go_wp2_with fail
  exact bodyPost_ret (v:=.agg #[.int .i64 (d.W:Int),.int .i64 (d.H:Int),.slice (some ⟨b,0,none⟩) d.nY k,.int .i64 (d.W2:Int),.int .i64 (d.H2:Int),.slice (some ⟨b1,0,none⟩) d.nC k1,.int .i64 (d.W2:Int),.int .i64 (d.H2:Int),.slice (some ⟨b2,0,none⟩) d.nC k2]) (by simp [results,Tryz.results166,go_sem,Dim.wOf,Dim.hOf,Dim.nP]) rfl ⟨rfl,(((Mod.refl _ _).alloc _).alloc _).alloc _⟩
 ·refine Calls.mono (R:=fun e w'=>e = .returned (.agg (frV d b0 k0 b k b2 k2).toArray) ∧ Mod (fun _=>False) w w') ?_ (fun _ _ h=>h)
  unfold frV plV
  go_enter Tryz.func166,Tryz.ntmps166
  go_wp2_with fail
  exact bodyPost_ret (v:=.agg #[.int .i64 (d.W:Int),.int .i64 (d.H:Int),.slice (some ⟨b0,0,none⟩) d.nY k0,.int .i64 (d.W2:Int),.int .i64 (d.H2:Int),.slice (some ⟨b,0,none⟩) d.nC k,.int .i64 (d.W2:Int),.int .i64 (d.H2:Int),.slice (some ⟨b2,0,none⟩) d.nC k2]) (by simp [results,Tryz.results166,go_sem,Dim.wOf,Dim.hOf,Dim.nP]) rfl ⟨rfl,(((Mod.refl _ _).alloc _).alloc _).alloc _⟩
 ·refine Calls.mono (R:=fun e w'=>e = .returned (.agg (frV d b0 k0 b1 k1 b k).toArray) ∧ Mod (fun _=>False) w w') ?_ (fun _ _ h=>h)
  unfold frV plV
  go_enter Tryz.func166,Tryz.ntmps166
  go_wp2_with fail
  exact bodyPost_ret (v:=.agg #[.int .i64 (d.W:Int),.int .i64 (d.H:Int),.slice (some ⟨b0,0,none⟩) d.nY k0,.int .i64 (d.W2:Int),.int .i64 (d.H2:Int),.slice (some ⟨b1,0,none⟩) d.nC k1,.int .i64 (d.W2:Int),.int .i64 (d.H2:Int),.slice (some ⟨b,0,none⟩) d.nC k]) (by simp [results,Tryz.results166,go_sem,Dim.wOf,Dim.hOf,Dim.nP]) rfl ⟨rfl,(((Mod.refl _ _).alloc _).alloc _).alloc _⟩
theorem fTopic13 (w:World) (pl:Nat) (x y:Int):Calls Tryz.prog 113 #[.agg #[.int .i64 (pl:Int),.int .i64 x,.int .i64 y]] w fun e w'=>e = .returned (.int .i64 (((if 0 < pl then 4 else 2:Nat)):Int)) ∧ Mod (fun _=>False) w w':=by
 by_cases h:pl = 0
 ·subst h
  go_enter Tryz.func113,Tryz.ntmps113
  go_wp2_with fail
  go_ret
  exact ⟨rfl,(Mod.refl _ _).alloc _⟩
 ·have d1:((pl:Int) == 0) = false:=by rw [beq_eq_false_iff_ne];omega
  rw [if_pos (by omega)]
  clear h
  go_enter Tryz.func113,Tryz.ntmps113
  go_wp2_with fail
  go_ret
  exact ⟨rfl,(Mod.refl _ _).alloc _⟩
theorem fPlaces (w:World) (x y:Nat) (hx:x ≤ 4096) (hy:y ≤ 4096):Calls Tryz.prog 103 #[.int .i64 (x:Int),.int .i64 (y:Int)] w fun e w'=>∃ b,e = .returned (.slice (some ⟨b,0,none⟩) 6 6) ∧ Blk w' b 185 (plL x y).toArray ∧ w.heap.size ≤ b ∧ Mod (fun _=>False) w w':=by
 go_enter Tryz.func103,Tryz.ntmps103
 go_wp2_with fail
 go_ret
 exact ⟨w.heap.size,rfl,Blk.new _ _ _,Nat.le_refl _,(Mod.refl _ _).alloc _⟩
end Go.Proofs.YtmkopcojnibhlaaGreatDoor

