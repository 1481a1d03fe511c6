/-
  The reference's deblock: one line made smooth.
-/
import Derived.Test.YthednemlahioeaaGreatDoorM25
namespace Go.Proofs.YthednemlahioeaaGreatDoor
open Go.RowKit
open UInt8 renaming ofNat→Zl,toNat_lt→ZN
open IntWalk renaming i64_in→Z4,wrap64_in→ZA
open And renaming intro→Z9
open Lib renaming hid→Z7
open Nat renaming sub_self→XY,add_mul→Y5,le_trans→ZQ,mul_le_mul→Yt,le_succ→TW
open List renaming replicate→ZM,length_replicate→XH
open Go.Proofs.Tryz
set_option maxRecDepth 100000
set_option maxHeartbeats 8000000
theorem aaP(w:World)(a b c d q:Nat)(ha:a<256)(hb:b<256)(hc:c<256)(hd:d<256)(hq:q<=31)(n:Nat):
  Calls prog 317 #[.int .u8 (a:Int),.int .u8 (b:Int),.int .u8 (c:Int),.int .u8 (d:Int),↑q] (w.drewN n)
   fun e w'=>e=.returned (.tuple #[.int .u8 (((Ty a b c d q).1:Nat):Int),.int .u8 (((Ty a b c d q).2:Nat):Int)])/\w'=w.drewN n:=(ajl _ a b c d q ha hb hc hd hq).mono fun _ _ ⟨a,b⟩=>⟨a,b.symm⟩
theorem dF(w:World)(W H:Int)(B g n k q p0 s:Nat)(L:List UInt8)(hL:L.length=n)(hq:q<=31)(hs:1<=s)(h2:p0+3*s<n)(hn:n<=16777216)(hb:Bytes w B ↑(ZZ g n k) L):
  Calls prog 248 #[.agg #[↑W,↑H,↑(ZZ g n k)],↑p0,↑s,↑q] w fun e w'=>e=.returned (.tuple #[])/\Bytes w' B ↑(ZZ g n k) (uZ q L (p0+2*s) s)/\Mod (·=g) w w':=by
 obtain⟨p1,EE⟩:=ZL (p0+s);obtain⟨p2,CF⟩:=ZL (p0+2*s);obtain⟨p3,hp3⟩:=ZL (p0+3*s)
 have hR:uZ q L (p0+2*s) s=(L.set p1 (Zl (Ty (L.getD p0 0).toNat (L.getD p1 0).toNat (L.getD p2 0).toNat (L.getD p3 0).toNat q).1)).set p2
  (Zl (Ty (L.getD p0 0).toNat (L.getD p1 0).toNat (L.getD p2 0).toNat (L.getD p3 0).toNat q).2):=by
  unfold uZ;rw [show p0+2*s-s=p1 by omega,show p0+2*s-2*s=p0 by omega,show p0+2*s+s=p3 by omega,<-CF]
 have vE:Bytes (w.alloc (.cells #[↑W,↑H,↑(ZZ g n k)] 56)) B ↑(ZZ g n k) L:=hb.quiet ((Mod.refl _ _).alloc _);have k0:=vE.cell p0 Z8;have k1:=vE.cell p1 Z8;have k2:=vE.cell p2 Z8;have k3:=vE.cell p3 Z8;have hlt:=xK (L.getD p0 0).toNat (L.getD p1 0).toNat (L.getD p2 0).toNat (L.getD p3 0).toNat q (ZN _) (ZN _);have x0:(L.getD p0 0).toNat<256:=ZN _;have x1:(L.getD p1 0).toNat<256:=ZN _;have x2:(L.getD p2 0).toNat<256:=ZN _;have x3:(L.getD p3 0).toNat<256:=ZN _;obtain⟨v0,hv0⟩:=ZL ((L.getD p0 0).toNat);obtain⟨v1,Gr⟩:=ZL ((L.getD p1 0).toNat);obtain⟨v2,hv2⟩:=ZL ((L.getD p2 0).toNat);obtain⟨v3,hv3⟩:=ZL ((L.getD p3 0).toNat);rw [<-hv0,<-Gr,<-hv2,<-hv3]at hR hlt;rw [<-hv0]at k0 x0;rw [<-Gr]at k1 x1;rw [<-hv2]at k2 x2;rw [<-hv3]at k3 x3;obtain⟨l1,l2⟩:=hlt;have e1:IntKind.i64.wrap ((p0:Int)+(s:Int))=(p1:Int):=by rw [Z4 _ ⟨Z8,Z8⟩];omega
 have e2:IntKind.i64.wrap (2*(s:Int))=2*(s:Int):=Z4 _ ⟨Z8,Z8⟩;have e3:IntKind.i64.wrap ((p0:Int)+2*(s:Int))=(p2:Int):=by rw [Z4 _ ⟨Z8,Z8⟩];omega
 have e4:IntKind.i64.wrap (3*(s:Int))=3*(s:Int):=Z4 _ ⟨Z8,Z8⟩;have e5:IntKind.i64.wrap ((p0:Int)+3*(s:Int))=(p3:Int):=by rw [Z4 _ ⟨Z8,Z8⟩];omega
 have i0:(0:Int)<=(p0:Int):=Z8;have i1:(0:Int)<=(p1:Int):=Z8;have i2:(0:Int)<=(p2:Int):=Z8;have i3:(0:Int)<=(p3:Int):=Z8;have j0:(p0:Int)<(n:Int):=Z8;have j1:(p1:Int)<(n:Int):=Z8;have j2:(p2:Int)<(n:Int):=Z8;have j3:(p3:Int)<(n:Int):=Z8;have hne:p1≠p2:=Z8;have f1:(p0:Int)+(s:Int)=(p1:Int):=Z8;have f2:(p0:Int)+2*(s:Int)=(p2:Int):=Z8;have fz:=vE.frozen;have gl:=vE.low.2;have gl0:=hb.low.2;have HE:=Z5 e1 (Z9 e2 (Z9 e3 (Z9 e4 e5)));have HH:=Z5 hR (Z9 vE (Z9 hL (Z9 f1 f2)));clear hR hb vE hL EE CF hp3 hv0 Gr hv2 hv3 e1 e2 e3 e4 e5 f1 f2;go_enter func248,ntmps248;go_upto_region 1 with(fail)
 obtain⟨e1,e2,e3,e4,e5⟩:=HE.out;go_quiet ((go_at_call 317;exact Calls.quiet_of_same (aaP _ v0 v1 v2 v3 q x0 x1 x2 x3 hq _)))
 clear e1 e2 e3 e4 e5;have f1:=HH.out.2.2.2.1;have f2:=HH.out.2.2.2.2;go_wp2_with fail;go_end0
 refine⟨rfl,?_,?_⟩
 ·rw [HH.out.1];exact((HH.out.2.1.quiet ((Mod.refl _ _).drewN _)).ji p1 _ l1).ji p2 _ l2
 ·exact((((Mod.refl (·=g) w).alloc _).drewN _).setCell (p:=⟨g,p1,none⟩) (.inl rfl) _).setCell (p:=⟨g,p2,none⟩) (.inl rfl) _
theorem R7.turn{w wr w':World}{L:List Nf}{b n k:Nat}{l l':List UInt8}(h:R7 w wr L ↑(ZZ b n k) l)(hL:∀e∈L,e.t≠5)(ho:Bytes w' w.heap.size ↑(ZZ b n k) l')(hm:Mod (·=b) wr w'):R7 w w' L ↑(ZZ b n k) l':=
 h.app hL ho (hm.mono fun j e=>by subst e;rfl)
def ahw(w:World)(Ls:List Nf)(v:Value)(n q W H:Nat)(R:List UInt8)(s31:Value)(wr:World):Prop:=
 ∃y L,y<=H/\s31=↑y/\L.length=n/\PE q W (H-y) y L=R/\R7 w wr Ls v L
def aj0(w:World)(Ls:List Nf)(v:Value)(n q W y:Nat)(R:List UInt8)(s9:Value)(wr:World):Prop:=
 ∃x f L,8<=x/\x<=W+8/\W<=x+f/\s9=↑x/\L.length=n/\NV q W y f x L=R/\R7 w wr Ls v L
def ahx(w:World)(Ls:List Nf)(v:Value)(n q W H:Nat)(R:List UInt8)(s52:Value)(wr:World):Prop:=
 ∃x L,x<=W/\s52=↑x/\L.length=n/\Lc q W H (W-x) x L=R/\R7 w wr Ls v L
def aj1(w:World)(Ls:List Nf)(v:Value)(n q W H x:Nat)(R:List UInt8)(s11:Value)(wr:World):Prop:=
 ∃y f L,8<=y/\y<=H+8/\H<=y+f/\s11=↑y/\L.length=n/\NU q W H x f y L=R/\R7 w wr Ls v L
theorem Gf(w:World)(W H:Nat)(A:Option Addr)(n c:Nat)(ZJ:List UInt8)(q:Nat)(h:Yx W H=true)(hn:n=W*H)(hs:n<=1048576)(YZ:BytesIn w A n c ZJ)(hq:q<=31):
  Calls prog 180 #[.agg #[↑W,↑H,.slice A n c],↑q] w
   fun e w'=>∃b k,e=.returned (.tuple #[.agg #[↑W,↑H,↑(ZZ b n k)],↑Z0])/\Bytes w' w.heap.size ↑(ZZ b n k) (Rv q W H ZJ)/\Mod ↑ZW w w':=by
 obtain⟨ha,hW1,hW2,hH1,qi,qA⟩:=YB h;have hpl:ZJ.length=n:=YZ.1;rw [<-hn]at ha qA;have h0:=((Sat.nil ↑ZW w).alloc 56 #[↑W,↑H,.slice A n c] rfl).alloc (g:=w.heap.size+1) 56 #[↑Z0,↑Z0,↑Zd] Ze;have HI:=Z5 h (Z9 YZ (Z9 hn hpl));have H0:=Z7 h0;clear h YZ hn hpl h0;have t1:=Za ((q:Int)<0);have t2:=Za (31<(q:Int));go_enter func180,ntmps180;go_wp2_with fail;refine YX (Ur _ W H A n c HI.out.1 HI.out.2.2.1) fun w1 Y6=>?_;have HS:=H0.out.quiet Y6;obtain⟨pc,pf⟩:=(HS.ZX 1 rfl).both;have pl:=(HS.ZX 1 rfl).lt;have HH:=Z7 HS;clear HS Y6 H0;go_wp2_with fail;refine(lD _ (W:Int) (H:Int) A n c ZJ Z8 hs (HI.out.2.1.quiet HH.out.mod)).mono ?_;rintro e w2 ⟨b,k,rfl,hb2,Y3⟩;have V4:=(HH.out.quiet Y3).alloc (g:=w2.heap.size) 56 #[↑W,↑H,↑(ZZ b n k)] rfl;have hle:w.heap.size<=w1.heap.size:=HH.out.mod.size;have hb3:Bytes (w2.alloc (.cells #[↑W,↑H,↑(ZZ b n k)] 56)) w.heap.size ↑(ZZ b n k) ZJ:=by
  have h:=hb2.quiet ((Mod.refl ↑ZW w2).alloc (.cells #[↑W,↑H,↑(ZZ b n k)] 56));exact h.down hle
 have HG:Hid (R7 w _ _ ↑(ZZ b n k) ZJ):=⟨hb3,V4⟩
 obtain⟨pc,pf⟩:=(V4.ZX 2 rfl).both;obtain⟨oc,bO⟩:=(V4.ZX 0 rfl).both;have pl:=(V4.ZX 2 rfl).lt;have ol:=(V4.ZX 0 rfl).lt;clear V4 hb3 hb2 Y3 hle HH;go_wp2_with fail;go_loopw [8] (ahw w _ ↑(ZZ b n k) n q W H (PE q W H 0 ZJ)) (fun s _=>H-(intOf s).toNat)
 case atStart=>exact⟨0,ZJ,Z8,rfl,HI.out.2.2.2,rfl,HG.out⟩
 case round=>
  clear HG pc pf oc bO pl ol;obtain⟨y,L,hy,rfl,hL,hR,HS⟩:=hrel;obtain⟨pc,pf⟩:=(HS.2.ZX 2 rfl).both;have HY:=Z5 hL (Z9 hR HS);clear hL hR HS;by_cases hlt:y<H
  ·have d1:=Zb ((y:Int)<(H:Int));go_wp2_with fail;go_loopw [9] (aj0 w _ ↑(ZZ b n k) n q W y (NV q W y W 8 L)) (fun s _=>W+8-(intOf s).toNat)
   case atStart=>exact⟨8,W,L,Z8,Z8,Z8,rfl,HY.out.1,rfl,HY.out.2.2⟩
   case round=>
    rename World=>w6
    clear pc pf;obtain⟨x,f,L1,hx1,hx2,hf,rfl,qm,lN,XZ⟩:=hrel;obtain⟨pc,pf⟩:=(XZ.2.ZX 2 rfl).both;obtain⟨oc,bO⟩:=(XZ.2.ZX 0 rfl).both;have HX:=Z5 qm (Z9 lN XZ);clear qm lN XZ;by_cases hlx:x+1<W
    ·have d2:=Zb ((x:Int)+1<(W:Int));obtain⟨m0,QN⟩:=ZL (y*W);obtain⟨b1,b2⟩:=rD (x:=x) HI.out.2.2.1 hlt Z8;rw [<-QN]at b1 b2;have Dw:wrap64 ((y:Int)*(W:Int))=(m0:Int):=by
      rw [show(y:Int)*(W:Int)=(m0:Int)by rw [QN];simp];exact ZA _ ⟨Z8,Z8⟩
     have HM:=Z5 QN Dw;clear QN Dw;go_wp2_with fail;rw [HM.out.2,ZA ((m0:Int)+(x:Int)) ⟨Z8,Z8⟩,ZA ((m0:Int)+(x:Int)-2) ⟨Z8,Z8⟩,show(m0:Int)+(x:Int)-2=((m0+x-2:Nat):Int)by omega];refine(dF _ (W:Int) (H:Int) w.heap.size b n k q (m0+x-2) 1 L1 HX.out.1 hq Z8 Z8 ha HX.out.2.2.1).mono ?_;rintro e w7 ⟨rfl,yx,Sn⟩;rw [show m0+x-2+2*1=m0+x by omega]at yx;have GJ:=HX.out.2.2.turn (by intro e he;simp at he;rcases he with rfl|rfl|rfl<;>(dsimp only;decide)) yx Sn;clear yx Sn pc pf oc bO;have H7:=Z7 GJ;clear GJ;go_wp2_with fail;go_roundw
     case rel=>
      obtain⟨f',rfl⟩:∃f',f=f'+1:=⟨f-1,Z8⟩
      refine⟨x+8,f',uZ q L1 (m0+x) 1,Z8,Z8,Z8,Zr,by rw [QD];exact HX.out.1,?_,H7.out⟩;have:=HX.out.2.1;rw [Eo hlx,<-HM.out.1]at this;exact this
     case measure=>exact YD
    ·have d2:=Za ((x:Int)+1<(W:Int));go_wp2_with fail;go_roundw
     case rel=>
      have h1:=HX.out.2.1;rw [En hlx]at h1;refine⟨y+1,L1,Z8,Zr,HX.out.1,?_,HX.out.2.2⟩;rw [h1,<-FP hlt];exact HY.out.2.1
     case measure=>exact YD
  ·obtain rfl:y=H:=Z8;have hd:=HY.out.2.1;rw [XY]at hd;have hd:L=PE q W y 0 ZJ:=hd;subst hd;have H5:=Z7 HY.out.2.2;clear HY;go_wp2_with fail;clear pc pf;go_loopw [10] (ahx w _ ↑(ZZ b n k) n q W y (Rv q W y ZJ)) (fun s _=>W-(intOf s).toNat)
   case atStart=>exact⟨0,_,Z8,rfl,by rw [Qj];exact HI.out.2.2.2,rfl,H5.out⟩
   case round=>
    clear H5;rename World=>w8
    obtain⟨x,L,hx,rfl,hL,hR,HS⟩:=hrel;obtain⟨pc,pf⟩:=(HS.2.ZX 2 rfl).both;obtain⟨oc,bO⟩:=(HS.2.ZX 0 rfl).both;obtain⟨rc,rf⟩:=(HS.2.ZX 1 rfl).both;have rl:=(HS.2.ZX 1 rfl).lt;have HY:=Z5 hL (Z9 hR HS);clear hL hR HS;by_cases hlt:x<W
    ·have d1:=Zb ((x:Int)<(W:Int));go_wp2_with fail;go_loopw [11] (aj1 w _ ↑(ZZ b n k) n q W y x (NU q W y x y 8 L)) (fun s _=>y+8-(intOf s).toNat)
     case atStart=>exact⟨8,y,L,Z8,Z8,Z8,rfl,HY.out.1,rfl,HY.out.2.2⟩
     case round=>
      rename World=>w6
      clear pc pf oc bO rc rf rl;obtain⟨z,f,L1,hz1,hz2,hf,rfl,qm,lN,XZ⟩:=hrel;obtain⟨pc,pf⟩:=(XZ.2.ZX 2 rfl).both;obtain⟨oc,bO⟩:=(XZ.2.ZX 0 rfl).both;have HX:=Z5 qm (Z9 lN XZ);clear qm lN XZ;by_cases hlz:z+1<y
      ·have d2:=Zb ((z:Int)+1<(y:Int));obtain⟨m0,QN⟩:=ZL (z*W);obtain⟨m1,Y6⟩:=ZL ((z-2)*W);obtain⟨b1,b2⟩:=rD (x:=x) HI.out.2.2.1 hlz hlt;rw [Y5,Nat.one_mul,<-QN]at b1 b2;have b3:m0=m1+2*W:=by rw [QN,Y6,<-Y5];congr 1;omega
       have Dw:wrap64 (((z:Int)-2)*(W:Int))=(m1:Int):=by
        rw [show(z:Int)-2=((z-2:Nat):Int)by omega,show((z-2:Nat):Int)*(W:Int)=(m1:Int)by rw [Y6];simp];exact ZA _ ⟨Z8,Z8⟩
       have HM:=Z5 QN Dw;clear QN Dw Y6;go_wp2_with fail;rw [HM.out.2,ZA ((m1:Int)+(x:Int)) ⟨Z8,Z8⟩,show(m1:Int)+(x:Int)=((m1+x:Nat):Int)by omega];refine(dF _ (W:Int) (y:Int) w.heap.size b n k q (m1+x) W L1 HX.out.1 hq Z8 Z8 ha HX.out.2.2.1).mono ?_;rintro e w7 ⟨rfl,yx,Sn⟩;rw [show m1+x+2*W=m0+x by omega]at yx;have GJ:=HX.out.2.2.turn (by intro e he;simp at he;rcases he with rfl|rfl|rfl<;>(dsimp only;decide)) yx Sn;clear yx Sn pc pf oc bO;have H7:=Z7 GJ;clear GJ;go_wp2_with fail;go_roundw
       case rel=>
        obtain⟨f',rfl⟩:∃f',f=f'+1:=⟨f-1,Z8⟩
        refine⟨z+8,f',uZ q L1 (m0+x) W,Z8,Z8,Z8,Zr,by rw [QD];exact HX.out.1,?_,H7.out⟩;have:=HX.out.2.1;rw [Em hlz,<-HM.out.1]at this;exact this
       case measure=>exact YD
      ·have d2:=Za ((z:Int)+1<(y:Int));go_wp2_with fail;go_roundw
       case rel=>
        have h1:=HX.out.2.1;rw [El hlz]at h1;refine⟨x+1,L1,Z8,Zr,HX.out.1,?_,HX.out.2.2⟩;rw [h1,<-FN hlt];exact HY.out.2.1
       case measure=>exact YD
    ·obtain rfl:x=W:=Z8;have hd:=HY.out.2.1;rw [XY]at hd;have hd:L=Rv q x y ZJ:=hd;subst hd;have d1:=Za ((x:Int)<(x:Int));go_wp2_with fail;have hr:=HY.out.2.2.1.SL (HY.out.2.2.2.ZX 1 rfl) (show 56≠5 by decide);dsimp only at hr;have HE:=((HY.out.2.2.2.put (g:=w.heap.size+1) (i:=0) (u:=↑x) (.there (.here rfl))).put (g:=w.heap.size+1) (i:=1) (u:=↑y) (.there (.here rfl))).put (g:=w.heap.size+1) (i:=2) (u:=↑(ZZ b n k)) (.there (.here rfl));have hB:=((HY.out.2.2.1.far (p:=↑(w.heap.size+1)) hr ↑x).far (p:=⟨w.heap.size+1,1,none⟩) hr ↑y).far (p:=⟨w.heap.size+1,2,none⟩) hr ↑(ZZ b n k);exact bodyPost_ret (v:=.tuple #[.agg #[↑x,↑y,↑(ZZ b n k)],↑Z0]) (by simp [results,results180,go_sem,rc]) rfl ⟨b,k,rfl,hB,HE.mod⟩
def V9(d:Yz)(b0 k0 b1 k1 b2 k2:Nat):List Value:=
 [↑d.W,↑d.H,↑(ZZ b0 d.nY k0),↑d.W2,↑d.H2,↑(ZZ b1 d.nC k1),↑d.W2,↑d.H2,↑(ZZ b2 d.nC k2)]
structure MX(w:World)(B:Nat)(d:Yz)(b0 k0 b1 k1 b2 k2:Nat)(f:Yy):Prop where
 y:Bytes w B ↑(ZZ b0 d.nY k0) f.Y
 u:Bytes w B ↑(ZZ b1 d.nC k1) f.U
 v:Bytes w B ↑(ZZ b2 d.nC k2) f.V
 ly:f.Y.length=d.nY
 lu:f.U.length=d.nC
 lv:f.V.length=d.nC
theorem MX.quiet{w w':World}{B:Nat}{d:Yz}{b0 k0 b1 k1 b2 k2:Nat}{f:Yy}(h:MX w B d b0 k0 b1 k1 b2 k2 f)(hm:Mod ↑ZW w w'):MX w' B d b0 k0 b1 k1 b2 k2 f:=⟨h.y.quiet hm,h.u.quiet hm,h.v.quiet hm,h.ly,h.lu,h.lv⟩
theorem MX.mod{S:Nat->Prop}{w w':World}{B:Nat}{d:Yz}{b0 k0 b1 k1 b2 k2:Nat}{f:Yy}(h:MX w B d b0 k0 b1 k1 b2 k2 f)(hm:Mod S w w')(hS:∀j,S j->w.heap.size<=j\/∃t cs,ZI w j t cs/\t≠5):MX w' B d b0 k0 b1 k1 b2 k2 f:=by
 have go:∀ {b n k:Nat} {l:List UInt8},Bytes w B ↑(ZZ b n k) l->Bytes w' B ↑(ZZ b n k) l:=fun hb=>hb.mod hm (fun g e hg=>by
  rcases hS g hg with h1|⟨t,cs,h1,h2⟩
  ·have:=(World.ownsRow.lt hb g e).2;omega
  ·exact hb.apart h1 h2 e)
 exact⟨go h.y,go h.u,go h.v,h.ly,h.lu,h.lv⟩
theorem MX.down{w:World}{B B':Nat}{d:Yz}{b0 k0 b1 k1 b2 k2:Nat}{f:Yy}(h:MX w B d b0 k0 b1 k1 b2 k2 f)(hB:B'<=B):MX w B' d b0 k0 b1 k1 b2 k2 f:=⟨h.y.down hB,h.u.down hB,h.v.down hB,h.ly,h.lu,h.lv⟩
def jW(w:World)(B:Nat)(d:Yz)(v:Value)(f:Yy):Prop:=∃b0 k0 b1 k1 b2 k2,v=.agg (V9 d b0 k0 b1 k1 b2 k2).toArray/\MX w B d b0 k0 b1 k1 b2 k2 f
theorem jW.quiet{w w':World}{B:Nat}{d:Yz}{v:Value}{f:Yy}(h:jW w B d v f)(hm:Mod ↑ZW w w'):jW w' B d v f:=by
 obtain⟨b0,k0,b1,k1,b2,k2,e,h⟩:=h;exact⟨b0,k0,b1,k1,b2,k2,e,h.quiet hm⟩
theorem jW.mod{S:Nat->Prop}{w w':World}{B:Nat}{d:Yz}{v:Value}{f:Yy}(h:jW w B d v f)(hm:Mod S w w')(hS:∀j,S j->w.heap.size<=j\/∃t cs,ZI w j t cs/\t≠5):jW w' B d v f:=by
 obtain⟨b0,k0,b1,k1,b2,k2,e,h⟩:=h;exact⟨b0,k0,b1,k1,b2,k2,e,h.mod hm hS⟩
theorem jW.down{w:World}{B B':Nat}{d:Yz}{v:Value}{f:Yy}(h:jW w B d v f)(hB:B'<=B):jW w B' d v f:=by
 obtain⟨b0,k0,b1,k1,b2,k2,e,h⟩:=h;exact⟨b0,k0,b1,k1,b2,k2,e,h.down hB⟩
theorem Bytes.uO{w:World}{B b n k:Nat}{l:List UInt8}(h:Bytes w B ↑(ZZ b n k) l)(hl:l.length=n):BytesIn w (some ↑b) n k l:=by
 subst hl;exact h.RU
theorem agH(w:World)(d:Yz)(hd:d.Ok)(b0 k0 b1 k1 b2 k2:Nat):Calls prog 99 #[.agg (V9 d b0 k0 b1 k1 b2 k2).toArray] w fun e w'=>e=.returned (.bool true)/\Mod ↑ZW w w':=by
 have h0:=((Sat.nil ↑ZW w).alloc 58 (V9 d b0 k0 b1 k1 b2 k2).toArray rfl)
 have qD:=hd.jm;have qx:=hd.h16;have EX:=hd.w2;have qC:=hd.h2;have m1:((d.W:Int) % 16 == 0)=true:=by simp;omega
 have m2:((d.H:Int) % 16 == 0)=true:=by simp;omega
 have q1:(d.W:Int)/2=(d.W2:Int):=Z8;have q2:(d.H:Int)/2=(d.H2:Int):=Z8;obtain⟨_,z1,z2,z3,z4,_⟩:=YB hd.sides;obtain⟨_,z5,z6,z7,z8,_⟩:=YB hd.half;have HD:=Z5 hd (Z9 hd.half (Z9 q1 (Z9 q2 (Z9 m1 m2))));have H0:=Z7 h0;clear hd h0 qD qx EX qC q1 q2 m1 m2;unfold V9;go_enter func99,ntmps99;go_wp2_with fail;refine YX (Ur _ d.W d.H _ d.nY k0 HD.out.1.sides HD.out.1.ny) fun w1 Y6=>?_;have XZ:=H0.out.quiet Y6;obtain⟨pc,pf⟩:=(XZ.ZX 0 rfl).both;unfold V9 at pc;have H1:=Z7 XZ;clear Y6 XZ H0;go_wp2_with fail;refine YX (Ur _ d.W2 d.H2 _ d.nC k1 HD.out.2.1 HD.out.1.nc) fun w2 Y6=>?_;have V4:=H1.out.quiet Y6;clear pc pf;obtain⟨pc,pf⟩:=(V4.ZX 0 rfl).both;unfold V9 at pc;have H2:=Z7 V4;clear Y6 V4 H1;go_wp2_with fail;refine YX (Ur _ d.W2 d.H2 _ d.nC k2 HD.out.2.1 HD.out.1.nc) fun w3 Y6=>?_;have Td:=H2.out.quiet Y6;clear pc pf;obtain⟨pc,pf⟩:=(Td.ZX 0 rfl).both;unfold V9 at pc;have H3:=Z7 Td.mod;clear Y6 Td H2;obtain⟨_,_,q1,q2,m1,m2⟩:=HD.out;go_wp2_with fail;go_ret;exact⟨rfl,H3.out⟩
theorem F7{w:World}{B g n:Nat}{v:UInt8}(hB:B<=g)(hb:ZI w g 5 (Yw (ZM n v)).toArray)(hn:n<=16777216):Bytes w B ↑(ZZ g n n) (ZM n v):=by
 have h:=Bytes.DW hB hb (by rw [XH];unfold maxLen;omega);rwa [XH]at h
def I1(w:World)(d:Yz)(f:Yy)(e:Ending)(w':World):Prop:=∃p,e=.returned (.tuple #[p,↑Z0])/\jW w' w.heap.size d p f/\Mod ↑ZW w w'
theorem agL(w:World)(d:Yz)(hd:d.Ok)(v:UInt8):Calls prog 104 #[↑d.W,↑d.H,.int .u8 (v.toNat:Int)] w (I1 w d (YC d v)):=by
 have hh:=hd.half;obtain⟨a1,a2,a3,a4,a5,a6⟩:=YB hd.sides;obtain⟨c1,c2,c3,c4,c5,c6⟩:=YB hh;rw [<-hd.ny]at a1 a6;rw [<-hd.nc]at c1 c6;have qD:=hd.jm;have qx:=hd.h16;have m1:((d.W:Int) % 16 != 0)=false:=by simp;omega
 have m2:((d.H:Int) % 16 != 0)=false:=by simp;omega
 have q1:(d.W:Int)/2=(d.W2:Int):=by have:=hd.w2;omega
 have q2:(d.H:Int)/2=(d.H2:Int):=by have:=hd.h2;omega
 have HD:=Z5 hd (Z9 hh (Z9 q1 q2));have h0:=(Sat.nil ↑ZW w).alloc 58 ↑WK rfl;have H0:=Z7 h0;clear hd hh qD qx q1 q2 h0;go_enter func104,ntmps104;go_wp2_with fail;refine(zq _ d.W d.H d.nY v HD.out.1.sides HD.out.1.ny).mono ?_;rintro e w1 ⟨g1,rfl,hb1,hg1,Y6⟩;have XZ:=(H0.out.quiet Y6).alloc (g:=w1.heap.size) 56 #[↑d.W,↑d.H,↑(ZZ g1 d.nY d.nY)] rfl;have B1:=(F7 (B:=w.heap.size) (ZQ H0.out.mod.size hg1) hb1 a1).quiet ((Mod.refl ↑ZW w1).alloc (.cells #[↑d.W,↑d.H,↑(ZZ g1 d.nY d.nY)] 56));have H1:=Z5 XZ B1;clear XZ B1 hb1 hg1 Y6 H0;obtain⟨_,_,q1,q2⟩:=HD.out;go_wp2_with fail;clear q1 q2;refine(zq _ d.W2 d.H2 d.nC v HD.out.2.1 HD.out.1.nc).mono ?_;rintro e w2 ⟨g2,rfl,hb1,hg1,Y6⟩;have mm:=Y6.trans ((Mod.refl ↑ZW w2).alloc (.cells #[↑d.W2,↑d.H2,↑(ZZ g2 d.nC d.nC)] 56));have XZ:=(H1.out.1.quiet Y6).alloc (g:=w2.heap.size) 56 #[↑d.W2,↑d.H2,↑(ZZ g2 d.nC d.nC)] rfl;have B2:=(F7 (B:=w.heap.size) (ZQ H1.out.1.mod.size hg1) hb1 c1).quiet ((Mod.refl ↑ZW w2).alloc (.cells #[↑d.W2,↑d.H2,↑(ZZ g2 d.nC d.nC)] 56));have H2:=Z5 XZ (Z9 (H1.out.2.quiet mm) B2);clear XZ B2 hb1 hg1 Y6 mm H1;obtain⟨_,_,q1,q2⟩:=HD.out;go_wp2_with fail;clear q1 q2;refine(zq _ d.W2 d.H2 d.nC v HD.out.2.1 HD.out.1.nc).mono ?_;rintro e w3 ⟨g3,rfl,hb1,hg1,Y6⟩;have mm:=Y6.trans ((Mod.refl ↑ZW w3).alloc (.cells #[↑d.W2,↑d.H2,↑(ZZ g3 d.nC d.nC)] 56));have XZ:=(H2.out.1.quiet Y6).alloc (g:=w3.heap.size) 56 #[↑d.W2,↑d.H2,↑(ZZ g3 d.nC d.nC)] rfl;have B2:=(F7 (B:=w.heap.size) (ZQ H2.out.1.mod.size hg1) hb1 c1).quiet ((Mod.refl ↑ZW w3).alloc (.cells #[↑d.W2,↑d.H2,↑(ZZ g3 d.nC d.nC)] 56));obtain⟨c80,c8f⟩:=(XZ.ZX 2 rfl).both;obtain⟨c90,c9f⟩:=(XZ.ZX 1 rfl).both;obtain⟨c70,c7f⟩:=(XZ.ZX 0 rfl).both;obtain⟨rc,rf⟩:=(XZ.ZX 3 rfl).both;have rl:=(XZ.ZX 3 rfl).lt;have H3:=Z5 XZ (Z9 (H2.out.2.1.quiet mm) (Z9 (H2.out.2.2.quiet mm) B2));clear XZ B2 hb1 hg1 Y6 mm H2;go_wp2_with fail;have hres:=H3.out.1.ZX 3 rfl;dsimp only at hres;have hp:=(J5 hres ↑d.W ↑d.H ↑(ZZ g1 d.nY d.nY) ↑d.W2 ↑d.H2 ↑(ZZ g2 d.nC d.nC) ↑d.W2 ↑d.H2 ↑(ZZ g3 d.nC d.nC)).2;have hf:MX _ w.heap.size d g1 d.nY g2 d.nC g3 d.nC (YC d v):=⟨H3.out.2.1,H3.out.2.2.1,H3.out.2.2.2,by simp [YC],by simp [YC],by simp [YC]⟩
 refine bodyPost_ret (v:=.tuple #[.agg (V9 d g1 d.nY g2 d.nC g3 d.nC).toArray,↑Z0]) (by simp [results,results104,go_sem,rc,V9]) rfl ⟨_,rfl,⟨_,_,_,_,_,_,rfl,hf.mod hp (fun j e=>.inr ⟨_,_,by subst e;exact hres,ZU⟩)⟩,H3.out.1.mod.into hp (fun i e=>.inr Z8)⟩
theorem AV(w:World)(B:Nat)(d:Yz)(hd:d.Ok)(hs:d.nY<=1048576)(b0 k0 b1 k1 b2 k2:Nat)(f:Yy)(hf:MX w B d b0 k0 b1 k1 b2 k2 f)(q:Nat)(hq:q<=31):Calls prog 107 #[.agg (V9 d b0 k0 b1 k1 b2 k2).toArray,↑q] w (I1 w d (FO q d f)):=by
 have HC:=agH ((w.alloc (.cells (V9 d b0 k0 b1 k1 b2 k2).toArray 58)).alloc (.cells ↑WK 58)) d hd b0 k0 b1 k1 b2 k2;have hh:=hd.half;obtain⟨a1,a2,a3,a4,a5,a6⟩:=YB hd.sides;obtain⟨c1,c2,c3,c4,c5,c6⟩:=YB hh;rw [<-hd.ny]at a1 a6;rw [<-hd.nc]at c1 c6;have hsc:d.nC<=1048576:=by
  have h1:=hd.w2;have h2:=hd.h2;have h3:d.W2*d.H2<=d.W*d.H:=Yt Z8 Z8;rw [<-hd.nc,<-hd.ny]at h3;omega
 have t1:=Za ((q:Int)<0);have t2:=Za (31<(q:Int));have h0:=((Sat.nil ↑ZW w).alloc 58 (V9 d b0 k0 b1 k1 b2 k2).toArray rfl).alloc (g:=w.heap.size+1) 58 ↑WK Ze;have HD:=Z5 hd (Z9 hh (Z9 (Z9 hs hsc) (Z9 hf (Z9 a6 c6))));have H0:=Z7 h0;clear hd hh h0 hs hsc hf a1 a6 c1 c6;unfold V9 at HC ⊢;go_enter func107,ntmps107;go_wp2_with fail;refine HC.mono ?_;clear HC;rintro e w1 ⟨rfl,Y6⟩;have HS:=H0.out.quiet Y6;obtain⟨pc,pf⟩:=(HS.ZX 1 rfl).both;unfold V9 at pc;have H1:=Z7 HS;clear Y6 HS H0;go_wp2_with fail;refine(Gf _ d.W d.H _ d.nY k0 f.Y q HD.out.1.sides HD.out.1.ny HD.out.2.2.1.1 ((HD.out.2.2.2.1.y.uO HD.out.2.2.2.1.ly).quiet H1.out.mod) hq).mono ?_;rintro e w2 ⟨g1,l1,rfl,hb1,Y6⟩;have mm:=Y6.trans ((Mod.refl ↑ZW w2).alloc (.cells #[↑d.W,↑d.H,↑(ZZ g1 d.nY l1)] 56));have XZ:=(H1.out.quiet Y6).alloc (g:=w2.heap.size) 56 #[↑d.W,↑d.H,↑(ZZ g1 d.nY l1)] rfl;have B1:=(hb1.down H1.out.mod.size).quiet ((Mod.refl ↑ZW w2).alloc (.cells #[↑d.W,↑d.H,↑(ZZ g1 d.nY l1)] 56));clear pc pf;obtain⟨pc,pf⟩:=(XZ.ZX 2 rfl).both;unfold V9 at pc;have H2:=Z5 XZ B1;clear XZ B1 hb1 Y6 mm H1;go_wp2_with fail;refine(Gf _ d.W2 d.H2 _ d.nC k1 f.U q HD.out.2.1 HD.out.1.nc HD.out.2.2.1.2 ((HD.out.2.2.2.1.u.uO HD.out.2.2.2.1.lu).quiet H2.out.1.mod) hq).mono ?_;rintro e w3 ⟨g2,l2,rfl,hb1,Y6⟩;have mm:=Y6.trans ((Mod.refl ↑ZW w3).alloc (.cells #[↑d.W2,↑d.H2,↑(ZZ g2 d.nC l2)] 56));have XZ:=(H2.out.1.quiet Y6).alloc (g:=w3.heap.size) 56 #[↑d.W2,↑d.H2,↑(ZZ g2 d.nC l2)] rfl;have B2:=(hb1.down H2.out.1.mod.size).quiet ((Mod.refl ↑ZW w3).alloc (.cells #[↑d.W2,↑d.H2,↑(ZZ g2 d.nC l2)] 56));clear pc pf;obtain⟨pc,pf⟩:=(XZ.ZX 3 rfl).both;unfold V9 at pc;have H3:=Z5 XZ (Z9 (H2.out.2.quiet mm) B2);clear XZ B2 hb1 Y6 mm H2;go_wp2_with fail;refine(Gf _ d.W2 d.H2 _ d.nC k2 f.V q HD.out.2.1 HD.out.1.nc HD.out.2.2.1.2 ((HD.out.2.2.2.1.v.uO HD.out.2.2.2.1.lv).quiet H3.out.1.mod) hq).mono ?_;rintro e w4 ⟨g3,l3,rfl,hb1,Y6⟩;have mm:=Y6.trans ((Mod.refl ↑ZW w4).alloc (.cells #[↑d.W2,↑d.H2,↑(ZZ g3 d.nC l3)] 56));have XZ:=(H3.out.1.quiet Y6).alloc (g:=w4.heap.size) 56 #[↑d.W2,↑d.H2,↑(ZZ g3 d.nC l3)] rfl;have B2:=(hb1.down H3.out.1.mod.size).quiet ((Mod.refl ↑ZW w4).alloc (.cells #[↑d.W2,↑d.H2,↑(ZZ g3 d.nC l3)] 56));clear pc pf;obtain⟨c80,c8f⟩:=(XZ.ZX 2 rfl).both;obtain⟨c90,c9f⟩:=(XZ.ZX 1 rfl).both;obtain⟨c70,c7f⟩:=(XZ.ZX 0 rfl).both;obtain⟨rc,rf⟩:=(XZ.ZX 3 rfl).both;have rl:=(XZ.ZX 3 rfl).lt;have H4:=Z5 XZ (Z9 (H3.out.2.1.quiet mm) (Z9 (H3.out.2.2.quiet mm) B2));clear XZ B2 hb1 Y6 mm H3;go_wp2_with fail;have hres:=H4.out.1.ZX 3 rfl;dsimp only at hres;have hp:=(J5 hres ↑d.W ↑d.H ↑(ZZ g1 d.nY l1) ↑d.W2 ↑d.H2 ↑(ZZ g2 d.nC l2) ↑d.W2 ↑d.H2 ↑(ZZ g3 d.nC l3)).2;have hf:MX _ w.heap.size d g1 l1 g2 l2 g3 l3 (FO q d f):=⟨H4.out.2.1,H4.out.2.2.1,H4.out.2.2.2,Um.trans HD.out.2.2.2.1.ly,Um.trans HD.out.2.2.2.1.lu,Um.trans HD.out.2.2.2.1.lv⟩
 refine bodyPost_ret (v:=.tuple #[.agg (V9 d g1 l1 g2 l2 g3 l3).toArray,↑Z0]) (by simp [results,results107,go_sem,rc,V9]) rfl ⟨_,rfl,⟨_,_,_,_,_,_,rfl,hf.mod hp (fun j e=>.inr ⟨_,_,by subst e;exact hres,ZU⟩)⟩,H4.out.1.mod.into hp (fun i e=>.inr Z8)⟩
def BM(pl a b c:Nat):Nat:=if pl=0 then a else if pl=1 then b else c
def Yz.nP(d:Yz)(pl:Nat):Nat:=if pl=0 then d.nY else d.nC
def jS(d:Yz)(pl b k:Nat):Array Value:=#[↑(d.T9 pl),↑(d.MN pl),↑(ZZ b (d.nP pl) k)]
theorem MX.of{w:World}{B:Nat}{d:Yz}{b0 k0 b1 k1 b2 k2:Nat}{f:Yy}(h:MX w B d b0 k0 b1 k1 b2 k2 f){pl:Nat}(hpl:pl<3):Bytes w B ↑(ZZ (BM pl b0 b1 b2) (d.nP pl) (BM pl k0 k1 k2)) (f.get pl)/\(f.get pl).length=d.nP pl:=by
 have h3:pl=0\/pl=1\/pl=2:=Z8;rcases h3 with rfl|rfl|rfl
 ·exact⟨h.y,h.ly⟩
 ·exact⟨h.u,h.lu⟩
 ·exact⟨h.v,h.lv⟩
theorem MX.set{w:World}{B:Nat}{d:Yz}{b0 k0 b1 k1 b2 k2:Nat}{f:Yy}(h:MX w B d b0 k0 b1 k1 b2 k2 f){pl b k:Nat}(hpl:pl<3){l:List UInt8}(hb:Bytes w B ↑(ZZ b (d.nP pl) k) l)(hl:l.length=d.nP pl):
  MX w B d (if pl=0 then b else b0) (if pl=0 then k else k0) (if pl=1 then b else b1) (if pl=1 then k else k1) (if pl=2 then b else b2) (if pl=2 then k else k2) (f.set pl l):=by
 have h3:pl=0\/pl=1\/pl=2:=Z8;rcases h3 with rfl|rfl|rfl
 ·exact⟨hb,h.u,h.v,hl,h.lu,h.lv⟩
 ·exact⟨h.y,hb,h.v,h.ly,hl,h.lv⟩
 ·exact⟨h.y,h.u,hb,h.ly,h.lu,hl⟩
theorem Yz.Ok.of{d:Yz}(h:d.Ok)(pl:Nat):Yx (d.T9 pl) (d.MN pl)=true/\d.nP pl=d.T9 pl*d.MN pl:=by
 unfold Yz.T9 Yz.MN Yz.nP;by_cases e:pl=0
 ·rw [if_pos e,if_pos e,if_pos e];exact⟨h.sides,h.ny⟩
 ·rw [if_neg e,if_neg e,if_neg e];exact⟨h.half,h.nc⟩
theorem Yz.Ok.nle{d:Yz}(h:d.Ok)(hs:d.nY<=1048576)(pl:Nat):d.nP pl<=1048576:=by
 unfold Yz.nP;by_cases e:pl=0
 ·rw [if_pos e];exact hs
 ·rw [if_neg e];have h1:=h.w2;have h2:=h.h2;have h3:d.W2*d.H2<=d.W*d.H:=Yt Z8 Z8;rw [<-h.nc,<-h.ny]at h3;omega
theorem De(w:World)(d:Yz)(b0 k0 b1 k1 b2 k2 pl:Nat)(hpl:pl<3):Calls prog 173 #[.agg (V9 d b0 k0 b1 k1 b2 k2).toArray,↑pl] w fun e w'=>e=.returned (.agg (jS d pl (BM pl b0 b1 b2) (BM pl k0 k1 k2)))/\Mod ↑ZW w w':=by
 have h3:pl=0\/pl=1\/pl=2:=Z8;have hM:∀o o' u0 u1 u2,Mod ↑ZW w (((((w.alloc o).alloc o').setCell ↑(w.heap.size+1) u0).setCell ⟨w.heap.size+1,1,none⟩ u1).setCell ⟨w.heap.size+1,2,none⟩ u2):=fun o o' u0 u1 u2=>
  (((((Mod.refl _ _).alloc o).alloc o').setCell (.inr (TW _)) u0).setCell (.inr (TW _)) u1).setCell (.inr (TW _)) u2
 rcases h3 with rfl|rfl|rfl
 ·unfold V9 jS;go_enter func173,ntmps173;go_wp2_with fail;exact bodyPost_ret (v:=.agg #[↑d.W,↑d.H,↑(ZZ b0 d.nY k0)]) (by simp [results,results173,go_sem]) rfl ⟨rfl,((Mod.refl _ _).alloc _).alloc _⟩
 ·unfold V9 jS;go_enter func173,ntmps173;go_wp2_with fail;exact bodyPost_ret (v:=.agg #[↑d.W2,↑d.H2,↑(ZZ b1 d.nC k1)]) (by simp [results,results173,go_sem]) rfl ⟨rfl,((Mod.refl _ _).alloc _).alloc _⟩
 ·unfold V9 jS;go_enter func173,ntmps173;go_wp2_with fail;exact bodyPost_ret (v:=.agg #[↑d.W2,↑d.H2,↑(ZZ b2 d.nC k2)]) (by simp [results,results173,go_sem]) rfl ⟨rfl,((Mod.refl _ _).alloc _).alloc _⟩
theorem ajf(w:World)(d:Yz)(b0 k0 b1 k1 b2 k2 pl b k:Nat)(hpl:pl<3):Calls prog 234 #[.agg (V9 d b0 k0 b1 k1 b2 k2).toArray,↑pl,.agg (jS d pl b k)] w fun e w'=>e=.returned (.agg (V9 d (if pl=0 then b else b0) (if pl=0 then k else k0) (if pl=1 then b else b1) (if pl=1 then k else k1) (if pl=2 then b else b2) (if pl=2 then k else k2)).toArray)/\Mod ↑ZW w w':=by
 have h3:pl=0\/pl=1\/pl=2:=Z8;rcases h3 with rfl|rfl|rfl
 ·refine Calls.mono (R:=fun e w'=>e=.returned (.agg (V9 d b k b1 k1 b2 k2).toArray)/\Mod ↑ZW w w') ?_ (fun _ _ h=>h);unfold V9 jS;go_enter func234,ntmps234;go_wp2_with fail;exact bodyPost_ret (v:=.agg #[↑d.W,↑d.H,↑(ZZ b d.nY k),↑d.W2,↑d.H2,↑(ZZ b1 d.nC k1),↑d.W2,↑d.H2,↑(ZZ b2 d.nC k2)]) (by simp [results,results234,go_sem,Yz.T9,Yz.MN,Yz.nP]) rfl ⟨rfl,(((Mod.refl _ _).alloc _).alloc _).alloc _⟩
 ·refine Calls.mono (R:=fun e w'=>e=.returned (.agg (V9 d b0 k0 b k b2 k2).toArray)/\Mod ↑ZW w w') ?_ (fun _ _ h=>h);unfold V9 jS;go_enter func234,ntmps234;go_wp2_with fail;exact bodyPost_ret (v:=.agg #[↑d.W,↑d.H,↑(ZZ b0 d.nY k0),↑d.W2,↑d.H2,↑(ZZ b d.nC k),↑d.W2,↑d.H2,↑(ZZ b2 d.nC k2)]) (by simp [results,results234,go_sem,Yz.T9,Yz.MN,Yz.nP]) rfl ⟨rfl,(((Mod.refl _ _).alloc _).alloc _).alloc _⟩
 ·refine Calls.mono (R:=fun e w'=>e=.returned (.agg (V9 d b0 k0 b1 k1 b k).toArray)/\Mod ↑ZW w w') ?_ (fun _ _ h=>h);unfold V9 jS;go_enter func234,ntmps234;go_wp2_with fail;exact bodyPost_ret (v:=.agg #[↑d.W,↑d.H,↑(ZZ b0 d.nY k0),↑d.W2,↑d.H2,↑(ZZ b1 d.nC k1),↑d.W2,↑d.H2,↑(ZZ b d.nC k)]) (by simp [results,results234,go_sem,Yz.T9,Yz.MN,Yz.nP]) rfl ⟨rfl,(((Mod.refl _ _).alloc _).alloc _).alloc _⟩
theorem adB(w:World)(pl:Nat)(x y:Int):Calls prog 178 #[.agg #[↑pl,↑x,↑y]] w fun e w'=>e=.returned ↑((if 0<pl then 4 else 2:Nat))/\Mod ↑ZW w w':=by
 by_cases h:pl=0
 ·subst h;go_enter func178,ntmps178;go_wp2_with fail;go_ret;exact⟨rfl,(Mod.refl _ _).alloc _⟩
 ·have d1:((pl:Int) == 0)=false:=by rw [beq_eq_false_iff_ne];omega
  rw [VI];clear h;go_enter func178,ntmps178;go_wp2_with fail;go_ret;exact⟨rfl,(Mod.refl _ _).alloc _⟩
theorem rR(w:World)(x y:Nat)(hx:x<=4096)(hy:y<=4096):Calls prog 168 #[↑x,↑y] w fun e w'=>∃b,e=.returned ↑(ZZ b 6 6)/\ZI w' b 282 (plL x y).toArray/\w.heap.size<=b/\Mod ↑ZW w w':=by
 go_enter func168,ntmps168;go_wp2_with fail;go_ret;exact⟨w.heap.size,rfl,ZI.new _ _ _,Nat.le_refl _,(Mod.refl _ _).alloc _⟩
end Go.Proofs.YthednemlahioeaaGreatDoor
