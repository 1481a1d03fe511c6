/-
  Two rows of bytes that hold the same.
-/
import Derived.Test.YthednemlahioeaaGreatDoorM38
import Derived.OpenShut
import Derived.Lib.SmallJoins
import Derived.Laws.IdiomArrays
import Derived.Deep.Slices
import Derived.Deep.Strs
import Derived.ChangeArms
import Derived.ShutString
import Derived.ChangeOld
import Derived.JoinedCond
import Derived.Lib.LaidIn
import Derived.Lib.LaidTab
import Derived.Deep.DeepWitnessRowRef
import Derived.Deep.DeepHandedRow
import Derived.MakeChecks
import Derived.FnData
import Derived.Test.YthednemlahioeaaGreatDoorCards
import Derived.Test.YthednemlahioeaaGreatDoorTie
import Derived.SevenTiedAt
namespace Go.Proofs.YthednemlahioeaaGreatDoor
open Go.RowKit
open Lib renaming hid→Z7
open And renaming intro→Z9
open Nat renaming mul_one→XX,add_zero→WV,le_refl→ZY
open List renaming getElem?_eq_getElem→ZP,getD_eq_getElem?_getD→Z6,getElem?_eq_none→Zi,length_map→Zg,length_range→XO,getElem?_map→XN,getElem?_range→WS,mem_of_getElem?→Xg
open Exists renaming intro→TK
open Go.Proofs.Tryz
set_option maxRecDepth 100000
set_option maxHeartbeats 8000000
theorem I7{w w':World}{A B:Option Addr}{n c m k:Nat}(h:∃l,BytesIn w A n c l/\BytesIn w B m k l)(hm:Mod ↑ZW w w'):∃l,BytesIn w' A n c l/\BytesIn w' B m k l:=by
 obtain⟨l,h1,h2⟩:=h;exact⟨l,h1.quiet hm,h2.quiet hm⟩
theorem agM(w:World)(W H:Int)(A B:Option Addr)(n c m k:Nat)(l:List UInt8)(ha:BytesIn w A n c l)(hb:BytesIn w B m k l):
  Calls prog 108 #[.agg #[↑W,↑H,.slice A n c],.agg #[↑W,↑H,.slice B m k]] w fun e w'=>e=.returned (.bool true)/\Mod ↑ZW w w':=by
 have M:=(((Mod.refl ↑ZW w).alloc (.cells #[↑W,↑H,.slice A n c] 56)).alloc (.cells #[↑W,↑H,.slice B m k] 56))
 have ha':=ha.quiet M;have hb':=hb.quiet M;have s1:=EK _ A n c l ha'.1 ha'.2.2.1;have s2:=EK _ B m k l hb'.1 hb'.2.2.1;have HM:=Z7 M;clear M ha' hb' ha hb;go_enter func108,ntmps108;go_wp2_with fail;go_ret;exact⟨rfl,HM.out⟩
theorem zo(w:World)(W H:Int)(A B:Option Addr)(n c m k:Nat)(h:∃l,BytesIn w A n c l/\BytesIn w B m k l):
  Calls prog 108 #[.agg #[↑W,↑H,.slice A n c],.agg #[↑W,↑H,.slice B m k]] w fun e w'=>e=.returned (.bool true)/\Mod ↑ZW w w':=by
 obtain⟨l,h1,h2⟩:=h;exact agM w W H A B n c m k l h1 h2
theorem ajh(w:World)(W H W1 H1 W2 H2:Int)(A B A1 B1 A2 B2:Option Addr)(n c m k n1 c1 m1 k1 n2 c2 m2 k2:Nat)
  (h:∃l,BytesIn w A n c l/\BytesIn w B m k l)(h1:∃l,BytesIn w A1 n1 c1 l/\BytesIn w B1 m1 k1 l)(h2:∃l,BytesIn w A2 n2 c2 l/\BytesIn w B2 m2 k2 l):
  Calls prog 59 #[.agg #[↑W,↑H,.slice A n c,↑W1,↑H1,.slice A1 n1 c1,↑W2,↑H2,.slice A2 n2 c2],.agg #[↑W,↑H,.slice B m k,↑W1,↑H1,.slice B1 m1 k1,↑W2,↑H2,.slice B2 m2 k2]] w fun e w'=>e=.returned (.bool true)/\Mod ↑ZW w w':=by
 have M8:=((Sat.nil ↑ZW w).alloc 58 #[↑W,↑H,.slice A n c,↑W1,↑H1,.slice A1 n1 c1,↑W2,↑H2,.slice A2 n2 c2] rfl).alloc (g:=w.heap.size+1) 58 #[↑W,↑H,.slice B m k,↑W1,↑H1,.slice B1 m1 k1,↑W2,↑H2,.slice B2 m2 k2] Ze;have E0:=Z5 M8 (Z9 h (Z9 h1 h2));clear M8 h h1 h2;go_enter func59,ntmps59;go_wp2_with fail;refine YX (zo _ W H A B n c m k (I7 E0.out.2.1 E0.out.1.mod)) fun w1 hm=>?_;have XZ:=Sat.after hm E0.out.1;obtain⟨pc,pf⟩:=(XZ.ZX 1 rfl).both;obtain⟨qc,qf⟩:=(XZ.ZX 0 rfl).both;have E1:=Z7 XZ;clear XZ hm;go_wp2_with fail;refine YX (zo _ W1 H1 A1 B1 n1 c1 m1 k1 (I7 E0.out.2.2.1 E1.out.mod)) fun w2 hm=>?_;have V4:=Sat.after hm E1.out;clear pc pf qc qf;obtain⟨pc,pf⟩:=(V4.ZX 1 rfl).both;obtain⟨qc,qf⟩:=(V4.ZX 0 rfl).both;have E2:=Z7 V4;clear V4 hm;go_wp2_with fail;refine YX (zo _ W2 H2 A2 B2 n2 c2 m2 k2 (I7 E0.out.2.2.2 E2.out.mod)) fun w3 hm=>?_;have E3:=Z7 (E2.out.quiet hm).mod;clear hm pc pf qc qf;go_wp2_with fail;go_ret;exact⟨rfl,E3.out⟩
theorem WA.bytes{w:World}{F:Nat->Prop}{v:Value}{n:Nat}{l:List UInt8}(h:WA w F 1 v n (Yw l)):∃A c,v=.slice A n c/\BytesIn w A n c l:=by
 have hl:=h.len;rw [YG,XX]at hl;obtain⟨A,c,h1,h2,h3,h4,h5⟩:=h.ex;exact⟨A,c,h1,hl,h3,h4,fun h0 ad e=>(h5 ad e h0).1⟩
theorem agI(w:World)(F1 F2:Nat->Prop)(d:Yz)(f:Yy)(c1 c2:List Value)(h1:Wd w F1 d f c1)(h2:Wd w F2 d f c2):
  Calls prog 59 #[.agg c1.toArray,.agg c2.toArray] w fun e w'=>e=.returned (.bool true)/\Mod ↑ZW w w':=by
 obtain⟨x0,x1,x2,rfl,a0,a1,a2⟩:=h1.ex;obtain⟨y0,y1,y2,rfl,b0,b1,b2⟩:=h2.ex;obtain⟨A0,k0,rfl,i0⟩:=a0.bytes;obtain⟨A1,k1,rfl,i1⟩:=a1.bytes;obtain⟨A2,k2,rfl,i2⟩:=a2.bytes;obtain⟨B0,m0,rfl,j0⟩:=b0.bytes;obtain⟨B1,m1,rfl,j1⟩:=b1.bytes;obtain⟨B2,m2,rfl,j2⟩:=b2.bytes;exact ajh w d.W d.H d.W2 d.H2 d.W2 d.H2 A0 B0 A1 B1 A2 B2 d.nY k0 d.nY m0 d.nC k1 d.nC m1 d.nC k2 d.nC m2 ⟨_,i0,j0⟩ ⟨_,i1,j1⟩ ⟨_,i2,j2⟩
theorem Wd.cells{w:World}{F:Nat->Prop}{d:Yz}{f:Yy}{c:List Value}(h:Wd w F d f c):∃x0 x1 x2 x3 x4 x5 x6 x7 x8,c=[x0,x1,x2,x3,x4,x5,x6,x7,x8]:=by
 obtain⟨x0,x1,x2,rfl,_⟩:=h.ex;exact⟨_,_,_,_,_,_,_,_,_,rfl⟩
def GX(n:Nat)(w:World)(v:Value)(wr:World):Prop:=∃k:Nat,k<=n/\v=↑k/\Mod ↑ZW w wr
section
variable {w wr : World} {F : Nat → Prop} {v : Value} {l : List (List UInt8)} {d : Yz} {fs : List Yy}
theorem NT(h:WI w F 1 (PM w F) v l)(hm:Mod ↑ZW w wr):WI wr F 1 (PM wr F) v l:=
 h.turn hm (fun _ _ _ h=>h) (fun _ h _=>h) (fun _ _ _ k=>k.turn hm (fun _ _ _ h=>h) (fun _ h _=>h))
theorem O0(h:WI w F 9 (Wd w F d) v fs)(hm:Mod ↑ZW w wr):WI wr F 9 (Wd wr F d) v fs:=
 h.turn hm (fun _ _ _ h=>h) (fun _ h _=>h) (fun _ _ _ k=>k.turn hm (fun _ _ _ h=>h) (fun _ h _=>h))
end
theorem aeM(w:World)(F1 F2:Nat->Prop)(v1 v2:Value)(l:List (List UInt8))(h1:WI w F1 1 (PM w F1) v1 l)(h2:WI w F2 1 (PM w F2) v2 l)(hl:l.length<=9223372036854775807):
  Calls prog 19 #[v1,v2] w fun e w'=>e=.returned (.bool true)/\Mod ↑ZW w w':=by
 obtain⟨A1,c1,rfl,_⟩:=h1.shape;obtain⟨A2,c2,rfl,_⟩:=h2.shape;obtain⟨n,hn⟩:=ZL (l.length);rw [<-hn]at h1 h2 hl ⊢;have H0:=Z5 h1 (Z9 h2 hn);clear h1 h2 hn;go_enter func19,ntmps19;go_wp2_with fail;go_loopw [5] (GX n w) (fun v _=>n-(intOf v).toNat)
 case atStart=>exact⟨0,Z8,rfl,Mod.refl _ _⟩
 case round=>
  rename World=>wr
  obtain⟨k,hk,rfl,hM⟩:=hrel;by_cases hlt:k<n
  ·have d1:=Zb ((k:Int)<(n:Int));obtain⟨x,hx⟩:∃x,l[k]?=some x:=⟨_,ZP (by rw [<-H0.out.2.2];exact hlt)⟩
   obtain⟨b1,o1,cp1,cc1,Gr,_,_,_,⟨u1,rfl,hs1⟩,_,hx1⟩:=(NT H0.out.1 hM).at_ hx ZU;obtain⟨b2,o2,cp2,kY,hv2,_,_,_,⟨u2,rfl,hs2⟩,_,hx2⟩:=(NT H0.out.2.1 hM).at_ hx ZU;injection Gr with e1 e3 Ol;injection hv2 with e2 e4 Om;clear e3 e4;subst e1 Ol e2 Om;obtain⟨U1,d1',rfl,_,qy⟩:=hs1.RU;obtain⟨U2,d2',rfl,_,Vr⟩:=hs2.RU;have k1:wr.cell? ⟨b1,o1+k,none⟩=some (.slice U1 x.length d1'):=by have:=hx1 0 _ rfl;rwa [XX,WV]at this
   have k2:wr.cell? ⟨b2,o2+k,none⟩=some (.slice U2 x.length d2'):=by have:=hx2 0 _ rfl;rwa [XX,WV]at this
   have s1:=EK wr.drew U1 _ d1' x rfl (qy.quiet ((Mod.refl _ wr).drew)).2.2.1;have s2:=EK wr.drew U2 _ d2' x rfl (Vr.quiet ((Mod.refl _ wr).drew)).2.2.1;have H1:=Z7 hM;clear hM hx hx1 hx2 hs1 hs2 qy Vr;go_upto_region 6 with(fail)
   refine YK [] [] [0,1,2,3,4,5,6,7,8,9,10] ZR ZR Xc ?_
   (iterate 11 (refine Yd ?_))
   refine XD ?_;have H2:=Z7 (H1.out.drew);clear k1 k2 s1 s2;go_wp2_with fail;go_roundw
   case rel=>first|exact⟨k+1,Z8,Zr,H2.out⟩|((repeat apply TK);exact⟨⟨k+1,Z8,Zr,H2.out⟩,rfl⟩)
   case measure=>exact YD
  ·obtain rfl:k=n:=Z8;have d1:=Za ((k:Int)<(k:Int));have H1:=Z7 hM;clear hM;go_wp2_with fail;go_ret;exact⟨rfl,H1.out⟩
theorem ac3(w:World)(F1 F2:Nat->Prop)(d:Yz)(v1 v2:Value)(l:List Yy)(h1:WI w F1 9 (Wd w F1 d) v1 l)(h2:WI w F2 9 (Wd w F2 d) v2 l)(hl:l.length<=9223372036854775807):
  Calls prog 18 #[v1,v2] w fun e w'=>e=.returned (.bool true)/\Mod ↑ZW w w':=by
 obtain⟨A1,c1,rfl,_⟩:=h1.shape;obtain⟨A2,c2,rfl,_⟩:=h2.shape;obtain⟨n,hn⟩:=ZL (l.length);rw [<-hn]at h1 h2 hl ⊢;have H0:=Z5 h1 (Z9 h2 hn);clear h1 h2 hn;go_enter func18,ntmps18;go_wp2_with fail;go_loopw [5] (GX n w) (fun v _=>n-(intOf v).toNat)
 case atStart=>exact⟨0,Z8,rfl,Mod.refl _ _⟩
 case round=>
  rename World=>wr
  obtain⟨k,hk,rfl,hM⟩:=hrel;by_cases hlt:k<n
  ·have d1:=Zb ((k:Int)<(n:Int));obtain⟨x,hx⟩:∃x,l[k]?=some x:=⟨_,ZP (by rw [<-H0.out.2.2];exact hlt)⟩
   obtain⟨b1,o1,cp1,cc1,Gr,_,_,_,hs1,_,hx1⟩:=(O0 H0.out.1 hM).at_ hx ZU;obtain⟨b2,o2,cp2,kY,hv2,_,_,_,hs2,_,hx2⟩:=(O0 H0.out.2.1 hM).at_ hx ZU;injection Gr with e1 e3 Ol;injection hv2 with e2 e4 Om;clear e3 e4;subst e1 Ol e2 Om;have QJ:=fun w' (hm:Mod ↑ZW wr w')=>agI w' F1 F2 d x cc1 kY (hs1.turn hm (fun _ _ _ h=>h) (fun _ h _=>h)) (hs2.turn hm (fun _ _ _ h=>h) (fun _ h _=>h));obtain⟨p0,p1,p2,p3,p4,p5,p6,p7,p8,rfl⟩:=hs1.cells;obtain⟨q0,q1,q2,q3,q4,q5,q6,q7,q8,rfl⟩:=hs2.cells;have k0:=hx1 0 _ rfl;have k1:=hx1 1 _ rfl;have k2:=hx1 2 _ rfl;have k3:=hx1 3 _ rfl;have k4:=hx1 4 _ rfl;have k5:=hx1 5 _ rfl;have k6:=hx1 6 _ rfl;have k7:=hx1 7 _ rfl;have k8:=hx1 8 _ rfl;have l0:=hx2 0 _ rfl;have l1:=hx2 1 _ rfl;have l2:=hx2 2 _ rfl;have l3:=hx2 3 _ rfl;have l4:=hx2 4 _ rfl;have l5:=hx2 5 _ rfl;have l6:=hx2 6 _ rfl;have l7:=hx2 7 _ rfl;have l8:=hx2 8 _ rfl;rw [WV]at k0 l0;have H1:=Z5 hM QJ;clear hM hx hx1 hx2 hs1 hs2 QJ;go_upto_region 6 with(fail)
   refine YK [8] [] [0,1,2,3,4,5,6,7,8,9] ZR ZR Xc ?_
   (iterate 8 (refine Yd ?_))
   refine XJ rfl rfl (fun K hK=>?_);go_simp;refine YX (H1.out.2 _ ((Mod.refl _ wr).drew)) fun w2 Y3=>?_;have H2:=Z7 ((H1.out.1.drew).trans Y3);clear Y3 k0 k1 k2 k3 k4 k5 k6 k7 k8 l0 l1 l2 l3 l4 l5 l6 l7 l8;dsimp only [];refine hK _ _ ?_;clear hK K;refine Yd ?_;refine XD ?_;go_wp2_with fail;go_roundw
   case rel=>first|exact⟨k+1,Z8,Zr,H2.out⟩|((repeat apply TK);exact⟨⟨k+1,Z8,Zr,H2.out⟩,rfl⟩)
   case measure=>exact YD
  ·obtain rfl:k=n:=Z8;have d1:=Za ((k:Int)<(k:Int));have H1:=Z7 hM;clear hM;go_wp2_with fail;go_ret;exact⟨rfl,H1.out⟩
theorem Ej{w wr:World}{F:Nat->Prop}{d:Yz}{v:Value}{l:List (List (List UInt8 × Yy))}(h:WI w F 2 (OQ w F d) v l)(hm:Mod ↑ZW w wr):WI wr F 2 (OQ wr F d) v l:=
 h.turn hm (fun _ _ _ h=>h) (fun _ h _=>h) (fun _ _ _ k=>k.turn hm (fun _ _ _ h=>h) (fun _ h _=>h))
def d32:Yz:=⟨32,32,16,16,1024,256⟩
theorem yX:d32.Ok:=⟨ZU,ZU,ZU,ZU,ZU,ZU,ZU⟩
def Gj:Yy:=YC d32 128
def Po(gy gu gv:Nat):Ya:=Ya.mk 32 32 (some ↑gy) 1024 1024 16 16 (some ↑gu) 256 256 16 16 (some ↑gv) 256 256 Gj.Y Gj.U Gj.V
def IC:List Rg:=[⟨[104,105],0,5,0⟩,⟨[108,111],1,20,0⟩]
theorem adw{w:World}{gy gu gv:Nat}(hf:WN w d32 gy gu gv Gj):(Po gy gu gv).In w:=
 ⟨UF hf.Ff hf.ly yX.zZ,UF hf.bu hf.lu yX.Lt,UF hf.bv hf.lv yX.Lt,ZY _,ZY _,ZY _,(by decide:1024<=9223372036854775807),(by decide:256<=9223372036854775807),(by decide:256<=9223372036854775807)⟩
theorem aje{w:World}{gy gu gv fb:Nat}(hf:WN w d32 gy gu gv Gj)(hb:ZI w fb 58 #[.int .i64 32,.int .i64 32,↑(ZZ gy 1024 1024),.int .i64 16,.int .i64 16,↑(ZZ gu 256 256),.int .i64 16,.int .i64 16,↑(ZZ gv 256 256),.int .i64 32,.int .i64 32,↑(ZZ gy 1024 1024),.int .i64 16,.int .i64 16,↑(ZZ gu 256 256),.int .i64 16,.int .i64 16,↑(ZZ gv 256 256),.int .i64 32,.int .i64 32,↑(ZZ gy 1024 1024),.int .i64 16,.int .i64 16,↑(ZZ gu 256 256),.int .i64 16,.int .i64 16,↑(ZZ gv 256 256)]):ME w (some ↑fb) 3 [Po gy gu gv,Po gy gu gv,Po gy gu gv]:=by
 refine⟨rfl,fun i hi=>⟨fb,0,rfl,hb.lt,fun j v hv=>?_,?_⟩⟩
 ·have h3:i=0\/i=1\/i=2:=Z8;have hj:j<9:=(List.getElem?_eq_some_iff.1 hv).1;have h9:j=0\/j=1\/j=2\/j=3\/j=4\/j=5\/j=6\/j=7\/j=8:=Z8;rcases h3 with rfl|rfl|rfl<;>rcases h9 with rfl|rfl|rfl|rfl|rfl|rfl|rfl|rfl|rfl<;>exact(hb.cell _).trans hv
 ·have h3:i=0\/i=1\/i=2:=Z8;rcases h3 with rfl|rfl|rfl<;>exact adw hf
theorem ahN{w:World}{rb:Nat}(hb:ZI w rb 38 #[.string ⟨#[104,105]⟩,↑Z0,.int .i64 5,↑Z0,.string ⟨#[108,111]⟩,.int .i64 1,.int .i64 20,↑Z0]):Nz w (some ↑rb) 2 2 IC:=by
 refine⟨rfl,ZY _,fun i=>?_,fun i hi=>⟨rb,0,rfl,hb.lt,fun j v hv=>?_⟩⟩
 ·by_cases h:i<2
  ·have h2:i=0\/i=1:=Z8;rcases h2 with rfl|rfl<;>decide
  ·rw [Z6,Zi (show IC.length<=i by show 2<=i;omega)];decide
 ·have h2:i=0\/i=1:=Z8;have hj:j<4:=(List.getElem?_eq_some_iff.1 hv).1;have h4:j=0\/j=1\/j=2\/j=3:=Z8;rcases h2 with rfl|rfl<;>rcases h4 with rfl|rfl|rfl|rfl<;>exact(hb.cell _).trans hv
theorem afS{w:World}{rb:Nat}(hb:ZI w rb 38 #[.string ⟨#[108,111]⟩,.int .i64 1,↑Z0,↑Z0]):Nz w (some ↑rb) 1 1 [⟨[108,111],1,0,0⟩]:=by
 refine⟨rfl,ZY _,fun i=>?_,fun i hi=>⟨rb,0,rfl,hb.lt,fun j v hv=>?_⟩⟩
 ·by_cases h:i=0
  ·subst h;decide
  ·rw [Z6,Zi (show 1<=i by omega)];decide
 ·obtain rfl:i=0:=Z8;have hj:j<4:=(List.getElem?_eq_some_iff.1 hv).1;have h4:j=0\/j=1\/j=2\/j=3:=Z8;rcases h4 with rfl|rfl|rfl|rfl<;>exact(hb.cell _).trans hv
theorem af7(gy gu gv:Nat):QK [Po gy gu gv,Po gy gu gv,Po gy gu gv] 2 IC=true:=ZR
theorem yl{fs:List Ya}(hl:fs.length=3)(r:Rg):(Tz fs 2 r).TD.length=2/\∃s0 s1,(Tz fs 2 r).TD[0]?=some s0/\(Tz fs 2 r).TD[1]?=some s1/\s0.length=2/\s1.length=1:=by
 unfold Tz Nt;dsimp only;rw [Zg,XO,Zg,hl];refine⟨ZU,_,_,by rw [XN,WS ZU];rfl,by rw [XN,WS ZU];rfl,?_,?_⟩
 ·unfold SI Rl;rw [Zg,XO,Zg,hl];decide
 ·unfold SI Rl;rw [Zg,XO,Zg,hl];decide
theorem ajo(gy gu gv:Nat):((Vy [Po gy gu gv,Po gy gu gv,Po gy gu gv]).Xu 1).W=16/\((Vy [Po gy gu gv,Po gy gu gv,Po gy gu gv]).Xu 1).H=16:=⟨ZR,ZR⟩
theorem acb{w:World}{F:Nat->Prop}{v:Value}{fs:List Ya}(hl:fs.length=3)(hd:((Vy fs).Xu 1).W=16/\((Vy fs).Xu 1).H=16)(h:OP w F v (IC.map (Tz fs 2))):
  ∃vb vo cp sb so c0 A1 c1 As cs Af cf,v=.slice (some ⟨vb,vo,none⟩) 2 cp/\2<=cp/\w.cell? ⟨vb,vo+7,none⟩=some (.slice (some ⟨sb,so,none⟩) 2 c0)/\w.cell? ⟨vb,vo+8+7,none⟩=some (.slice A1 2 c1) /\
   w.cell? ⟨vb,vo+8+4,none⟩=some (.int .i64 16)/\w.cell? ⟨vb,vo+8+5,none⟩=some (.int .i64 16)/\w.cell? ⟨vb,vo+8+6,none⟩=some (.int .i64 2) /\
   w.cell? ⟨sb,so,none⟩=some (.slice As 2 cs)/\w.cell? ⟨sb,so+2+1,none⟩=some (.slice Af 1 cf):=by
 obtain⟨vb,vo,cp,c0,hv,hcp,_,_,⟨sv0,hc0,hs0⟩,_,hx0⟩:=WI.at_ (i:=0) h rfl ZU;obtain⟨vb',vo',cp',c1,hv',_,_,_,⟨sv1,hc1,hs1⟩,_,hx1⟩:=WI.at_ (i:=1) h rfl ZU;rw [hv]at hv';injection hv' with e1;injection e1 with e1;injection e1 with e1 e2;subst e1 e2;obtain⟨l0,s0,s1,q0,q1,n0,n1⟩:=yl hl ⟨[104,105],0,5,0⟩;obtain⟨l1,_⟩:=yl hl ⟨[108,111],1,20,0⟩;obtain⟨sb,so,cap0,k0,aN,_,_,_,⟨sm0,fr0,KQ,akn,alO⟩,_,fE⟩:=hs0.at_ (i:=0) q0 ZU;obtain⟨sb',so',alW,k1,aij,_,_,_,⟨sm1,fr1,zJ,nk,zH⟩,_,Bt⟩:=hs0.at_ (i:=1) q1 ZU;rw [aN]at aij;injection aij with e1;injection e1 with e1;injection e1 with e1 e2;subst e1 e2;obtain⟨A1,ca1,fu,_⟩:=hs1.shape;obtain⟨As,ca,hsm,_⟩:=akn.shape;obtain⟨Af,cf,Oc,_⟩:=zH.shape;rw [l0]at aN;rw [l1]at fu;rw [Zg,n0]at hsm;rw [Zg,n1]at Oc;subst hc0 hc1 KQ zJ aN fu hsm Oc;have z1:=hx0 7 _ rfl;have z2:=hx1 7 _ rfl;have z3:=hx1 4 _ rfl;have z4:=hx1 5 _ rfl;have z5:=hx1 6 _ rfl;have z6:=fE 0 _ rfl;have z7:=Bt 1 _ rfl;rw [show vo+0*8+7=vo+7 by omega]at z1;rw [show vo+1*8+7=vo+8+7 by omega]at z2;rw [show vo+1*8+4=vo+8+4 by omega]at z3;rw [show vo+1*8+5=vo+8+5 by omega]at z4;rw [show vo+1*8+6=vo+8+6 by omega]at z5;rw [show so+0*2+0=so by omega]at z6;rw [show so+1*2+1=so+2+1 by omega]at z7;have w1:(((Tz fs 2 ⟨[108,111],1,20,0⟩).d.W:Nat):Int)=16:=by show((((Vy fs).Xu 1).W:Nat):Int)=16;rw [hd.1];rfl
 have w2:(((Tz fs 2 ⟨[108,111],1,20,0⟩).d.H:Nat):Int)=16:=by show((((Vy fs).Xu 1).H:Nat):Int)=16;rw [hd.2];rfl
 rw [w1]at z3;rw [w2]at z4;exact⟨vb,vo,cp,sb,so,cap0,A1,ca1,As,ca,Af,cf,hv,hcp,z1,z2,z3,z4,z5,z6,z7⟩
theorem yP(w:World)(he:Kk w):Calls prog 12 #[] w fun e w'=>e=.returned (.bool true)/\Mod ↑ZW w w':=by
 have HE0:=Z7 he;clear he;go_enter func12,ntmps12;go_wp2_with fail;refine(ow _ d32 yX 128).mono ?_;rintro e w1 ⟨p,rfl,⟨gy,gu,gv,rfl,hf,_,_,_⟩,Y6⟩;have hf':WN w1 d32 gy gu gv Gj:=hf;have H1:=Z5 hf' Y6;clear hf hf' Y6;unfold YF d32;go_upto_region 2 with(fail)
 have hb:=ZI.new w1 58 #[.int .i64 32,.int .i64 32,↑(ZZ gy 1024 1024),.int .i64 16,.int .i64 16,↑(ZZ gu 256 256),.int .i64 16,.int .i64 16,↑(ZZ gv 256 256)];have Me:Mod ↑ZW w1 (w1.alloc (.cells #[.int .i64 32,.int .i64 32,↑(ZZ gy 1024 1024),.int .i64 16,.int .i64 16,↑(ZZ gu 256 256),.int .i64 16,.int .i64 16,↑(ZZ gv 256 256)] 58)):=(Mod.refl _ w1).alloc _;obtain⟨fb,Px⟩:=ZL (w1.heap.size);rw [<-Px]at hb ⊢;clear Px;generalize w1.alloc (.cells #[.int .i64 32,.int .i64 32,↑(ZZ gy 1024 1024),.int .i64 16,.int .i64 16,↑(ZZ gu 256 256),.int .i64 16,.int .i64 16,↑(ZZ gv 256 256)] 58)=w2 at hb Me ⊢;obtain⟨fc,ff⟩:=hb.both;have fl:=hb.lt;have H2:=Z5 (H1.out.1.quiet Me) (H1.out.2.trans Me);clear hb Me H1;go_wp2_with fail;have hb3:=ZI.new w2 58 #[.int .i64 32,.int .i64 32,↑(ZZ gy 1024 1024),.int .i64 16,.int .i64 16,↑(ZZ gu 256 256),.int .i64 16,.int .i64 16,↑(ZZ gv 256 256),.int .i64 32,.int .i64 32,↑(ZZ gy 1024 1024),.int .i64 16,.int .i64 16,↑(ZZ gu 256 256),.int .i64 16,.int .i64 16,↑(ZZ gv 256 256),.int .i64 32,.int .i64 32,↑(ZZ gy 1024 1024),.int .i64 16,.int .i64 16,↑(ZZ gu 256 256),.int .i64 16,.int .i64 16,↑(ZZ gv 256 256)];have X7:Mod ↑ZW w2 (w2.alloc (.cells #[.int .i64 32,.int .i64 32,↑(ZZ gy 1024 1024),.int .i64 16,.int .i64 16,↑(ZZ gu 256 256),.int .i64 16,.int .i64 16,↑(ZZ gv 256 256),.int .i64 32,.int .i64 32,↑(ZZ gy 1024 1024),.int .i64 16,.int .i64 16,↑(ZZ gu 256 256),.int .i64 16,.int .i64 16,↑(ZZ gv 256 256),.int .i64 32,.int .i64 32,↑(ZZ gy 1024 1024),.int .i64 16,.int .i64 16,↑(ZZ gu 256 256),.int .i64 16,.int .i64 16,↑(ZZ gv 256 256)] 58)):=(Mod.refl _ w2).alloc _;have hb4:=ZI.new (w2.alloc (.cells #[.int .i64 32,.int .i64 32,↑(ZZ gy 1024 1024),.int .i64 16,.int .i64 16,↑(ZZ gu 256 256),.int .i64 16,.int .i64 16,↑(ZZ gv 256 256),.int .i64 32,.int .i64 32,↑(ZZ gy 1024 1024),.int .i64 16,.int .i64 16,↑(ZZ gu 256 256),.int .i64 16,.int .i64 16,↑(ZZ gv 256 256),.int .i64 32,.int .i64 32,↑(ZZ gy 1024 1024),.int .i64 16,.int .i64 16,↑(ZZ gu 256 256),.int .i64 16,.int .i64 16,↑(ZZ gv 256 256)] 58)) 38 #[.string ⟨#[104,105]⟩,↑Z0,.int .i64 5,↑Z0,.string ⟨#[108,111]⟩,.int .i64 1,.int .i64 20,↑Z0];have Xl:Mod ↑ZW (w2.alloc (.cells #[.int .i64 32,.int .i64 32,↑(ZZ gy 1024 1024),.int .i64 16,.int .i64 16,↑(ZZ gu 256 256),.int .i64 16,.int .i64 16,↑(ZZ gv 256 256),.int .i64 32,.int .i64 32,↑(ZZ gy 1024 1024),.int .i64 16,.int .i64 16,↑(ZZ gu 256 256),.int .i64 16,.int .i64 16,↑(ZZ gv 256 256),.int .i64 32,.int .i64 32,↑(ZZ gy 1024 1024),.int .i64 16,.int .i64 16,↑(ZZ gu 256 256),.int .i64 16,.int .i64 16,↑(ZZ gv 256 256)] 58)) ((w2.alloc (.cells #[.int .i64 32,.int .i64 32,↑(ZZ gy 1024 1024),.int .i64 16,.int .i64 16,↑(ZZ gu 256 256),.int .i64 16,.int .i64 16,↑(ZZ gv 256 256),.int .i64 32,.int .i64 32,↑(ZZ gy 1024 1024),.int .i64 16,.int .i64 16,↑(ZZ gu 256 256),.int .i64 16,.int .i64 16,↑(ZZ gv 256 256),.int .i64 32,.int .i64 32,↑(ZZ gy 1024 1024),.int .i64 16,.int .i64 16,↑(ZZ gu 256 256),.int .i64 16,.int .i64 16,↑(ZZ gv 256 256)] 58)).alloc (.cells #[.string ⟨#[104,105]⟩,↑Z0,.int .i64 5,↑Z0,.string ⟨#[108,111]⟩,.int .i64 1,.int .i64 20,↑Z0] 38)):=(Mod.refl _ _).alloc _;have hM:=H2.out.2.trans (X7.trans Xl);rw [World.size_alloc]at hb4;refine(fH _ (HE0.out.quiet hM) (some ↑w2.heap.size) 3 3 [Po gy gu gv,Po gy gu gv,Po gy gu gv] (aje (H2.out.1.quiet (X7.trans Xl)) (hb3.keep Xl (fun h=>h))) (ZY _) ZU 2 (some ↑(w2.heap.size+1)) 2 2 IC (ahN hb4) ZU (show(32:Int)<=64 by decide) (show(32:Int)<=64 by decide)).mono ?_;rintro e w5 ⟨UR,⟨h,_⟩|⟨_,v,rfl,Rc⟩⟩
 ·exact absurd (h.symm.trans (af7 gy gu gv)) ZU
 obtain⟨vb,vo,cp,sb,so,c0,A1,c1,As,cs,Af,cf,rfl,hcp,z1,z2,z3,z4,z5,z6,z7⟩:=acb rfl (ajo gy gu gv) Rc;have H5:=Z7 (hM.trans UR);clear hb3 X7 hb4 Xl hM UR Rc fc ff fl H2;go_wp2_with fail;have ET:=ZI.new w5 38 #[.string ⟨#[108,111]⟩,.int .i64 1,↑Z0,↑Z0];have Xt:Mod ↑ZW w5 (w5.alloc (.cells #[.string ⟨#[108,111]⟩,.int .i64 1,↑Z0,↑Z0] 38)):=(Mod.refl _ w5).alloc _;refine YX (nR _ 48 48 2 (some ↑w5.heap.size) 1 1 [⟨[108,111],1,0,0⟩] (afS ET) ZU ⟨ZU,ZU⟩ ⟨ZU,ZU⟩) fun w7 Sn=>?_;have hE:U4 48 48 2 [⟨[108,111],1,0,0⟩]=151:=ZR;rw [hE];have H7:=Z7 (H5.out.trans (Xt.trans Sn));clear hE ET Xt Sn z1 z2 z3 z4 z5 z6 z7;go_wp2_with fail;go_ret;exact⟨rfl,H7.out⟩
def FrR(w:World)(F:Nat->Prop)(f:Ya)(c:List Value):Prop:=c=f.cells/\f.In w/\∀ad,(f.A0=some ad\/f.A1=some ad\/f.A2=some ad)->F ad.block/\ad.block<w.heap.size
theorem FrR.turn{w w':World}{F F' S:Nat->Prop}{f:Ya}{c:List Value}(h:FrR w F f c)(hm:Mod S w w')(hS:∀k,F k->k<w.heap.size->¬S k)(hF:∀k,F k->k<w.heap.size->F' k):FrR w' F' f c:=
 ⟨h.1,h.2.1.mod hm (fun ad e=>hS _ (h.2.2 ad e).1 (h.2.2 ad e).2),fun ad e=>⟨hF _ (h.2.2 ad e).1 (h.2.2 ad e).2,Nat.lt_of_lt_of_le (h.2.2 ad e).2 hm.size⟩⟩
def cz(w:World)(F:Nat->Prop)(b:Bool)(X:Value)(E:Int)(m:Lx):Prop:=(b=false/\E=151)\/(b=true/\E=0/\OP w F X [m])
theorem cz.of{w w':World}{fs:List Ya}{G:Int}{r:Rg}{e:Ending}(h:GU w fs G [r] e w'):∃X E,e=.returned (.tuple #[X,.int .i64 E])/\cz w' (fun k=>w.heap.size<=k) (QK fs G [r]) X E (Tz fs G r)/\Mod ↑ZW w w':=by
 rcases h with⟨hm,⟨h1,rfl⟩|⟨h1,v,rfl,h2⟩⟩
 ·exact⟨_,_,rfl,.inl ⟨h1,rfl⟩,hm⟩
 ·exact⟨_,_,rfl,.inr ⟨h1,rfl,h2⟩,hm⟩
theorem EJ{fs:List Ya}(h:∀j,j<fs.length->(fs.getD j Ya.zero).small):(fs.getD 0 Ya.zero).W0<=32/\(fs.getD 0 Ya.zero).H0<=32:=by
 by_cases h0:0<fs.length
 ·exact(h 0 h0).2
 ·rw [Z6,Zi Z8];decide
theorem sO{w:World}{F:Nat->Prop}{v:Value}{ms:List Lx}{i:Nat}{m:Lx}(h:OP w F v ms)(hi:ms[i]?=some m):∃b o c A k,v=.slice (some ⟨b,o,none⟩) ms.length c/\b<w.heap.size/\w.rangeAt b (o+i*8) (m.r.cells++[.int .i64 (m.d.W:Int),.int .i64 (m.d.H:Int),.int .i64 m.G,.slice A m.TD.length k]) /\
  WI w F 2 (OQ w F m.d) (.slice A m.TD.length k) m.TD:=by
 obtain⟨b,o,c,cc,hv,hc,hb,_,⟨sv,rfl,hs⟩,_,hx⟩:=WI.at_ h hi (by decide);obtain⟨A,k,rfl,_⟩:=hs.shape;exact⟨b,o,c,A,k,hv,hb,fun j u hu=>hx j u hu,hs⟩
theorem aaZ{fs:List Ya}{G:Int}{rs:List Rg}(h:QK fs G rs=true)(hn:fs.length<=5):∀m∈rs.map (Tz fs G),m.TD.length<=9223372036854775807/\∀s∈m.TD,s.length<=9223372036854775807:=by
 intro m hm;obtain⟨r,hr,rfl⟩:=List.mem_map.1 hm;have hG:1<=G/\G<=64:=by
  unfold QK at h;rw [Bool.and_eq_true]at h;obtain⟨i,hi,rfl⟩:=List.getElem_of_mem hr;have h2:=Gs h.2 hi;unfold Yb seqRight at h2;simp only [Bool.and_eq_true,decide_eq_true_eq]at h2;omega
 unfold Tz Nt;dsimp only;rw [Zg,XO,Zg];constructor
 ·unfold Lu;have:(fs.length+G.toNat-1)/G.toNat<=fs.length+G.toNat-1:=Nat.div_le_self _ _;omega
 ·intro s hs;obtain⟨i,_,rfl⟩:=List.mem_map.1 hs;unfold SI Rl;rw [Zg,XO,Zg];omega
theorem KY{w wr:World}{F:Nat->Prop}{v:Value}{ms:List Lx}(h:OP w F v ms)(hm:Mod ↑ZW w wr):OP wr F v ms:=h.turn hm (fun _ _ _ h=>h) (fun _ h _=>h)
theorem aae(w:World)(he:Kk w)(A:Option Addr)(n c:Nat)(fs:List Ya)(YZ:ME w A n fs)(xA:n<=c)(hc:c<=9223372036854775807)(G:Int)(A2:Option Addr)(m c2:Nat)(rs:List Rg)(hr:Nz w A2 m c2 rs)(hm:m<=9223372036854775807):
  Calls prog 4 #[.slice A n c,.int .i64 G,.slice A2 m c2] w fun e w'=>e=.returned (.bool true)/\Mod (fun _=>False) w w':=by
 have mM:n<=9223372036854775807:=Nat.le_trans xA hc;have H0:=Z7 (Z9 he (Z9 YZ (Z9 xA (Z9 hc (Z9 hr YZ.len)))));clear he YZ xA hc hr;go_enter func4,ntmps4;go_wp2_with fail;refine(aeN _ A n c fs H0.out.2.1 mM A2 m c2 rs H0.out.2.2.2.2.1 hm).mono ?_;rintro e w1 ⟨t,rfl,ht,Y6⟩;have HE:=Z7 Y6;clear Y6;cases t with
 | false=>
  clear ht;go_wp2_with fail;refine(yP _ (H0.out.1.quiet HE.out)).mono ?_;rintro e w9 ⟨rfl,VK⟩;have H9:=Z7 (HE.out.trans VK);clear VK;go_wp2_with fail;go_ret;exact⟨rfl,H9.out⟩
 | true=>
 obtain⟨Cr,hsm,_⟩:=ht rfl;rw [<-H0.out.2.2.2.2.2]at hsm;have HS:=Z7 hsm;clear ht hsm;go_wp2_with fail;refine(fH _ (H0.out.1.quiet HE.out) A n c fs (H0.out.2.1.quiet HE.out) H0.out.2.2.1 H0.out.2.2.2.1 G A2 m c2 rs (H0.out.2.2.2.2.1.quiet HE.out) hm (by have:=(EJ HS.out).1;omega) (by have:=(EJ HS.out).2;omega)).mono ?_;intro e w2 EE;have su:∀w',Mod (fun _=>False) w w'->Calls prog 17 #[.slice A n c,.int .i64 G,.slice A2 m c2] w' (GU w' fs G rs):=fun w' Dw=>ahS w' A n c fs (H0.out.2.1.quiet Dw) mM G A2 m c2 rs (H0.out.2.2.2.2.1.quiet Dw) hm (by have:=(EJ HS.out).1;omega) (by have:=(EJ HS.out).2;omega);have gH:=Z7 su;clear su;obtain⟨Y3,EE|EE⟩:=EE
 ·obtain⟨hb,rfl⟩:=EE;have H2:=Z7 (HE.out.trans Y3);have HB:=Z7 hb;clear Y3 hb HE;go_wp2_with fail;refine(gH.out _ H2.out).mono ?_;intro e w3 CF;obtain⟨X7,CF|CF⟩:=CF
  ·obtain⟨_,rfl⟩:=CF;have HE:=Z7 (H2.out.trans X7);clear X7;go_wp2_with fail;go_loopw [12] (GX 0 w) (fun v _=>0-(intOf v).toNat)
   case atStart=>exact⟨0,by omega,rfl,HE.out⟩
   case round=>
    rename World=>wr
    obtain⟨k,hk,rfl,hM⟩:=hrel;obtain rfl:k=0:=by omega
    have HE:=Z7 hM;clear hM;go_wp2_with fail;refine(yP _ (H0.out.1.quiet HE.out)).mono ?_;rintro e w9 ⟨rfl,VK⟩;have H9:=Z7 (HE.out.trans VK);clear VK;go_wp2_with fail;go_ret;exact⟨rfl,H9.out⟩
  ·exact absurd (HB.out.symm.trans CF.1) (by decide)
 ·obtain⟨hb,X,rfl,hX⟩:=EE;obtain⟨AX,cX,rfl,_⟩:=hX.shape;obtain⟨nr,hnr⟩:∃x,x=(rs.map (Tz fs G)).length:=⟨_,rfl⟩
  rw [<-hnr]at hX ⊢;have H2:=Z7 (Z9 (HE.out.trans Y3) (Z9 hb (Z9 hX hnr)));clear Y3 hb hX hnr HE;go_wp2_with fail;refine(gH.out _ H2.out.1).mono ?_;intro e w3 CF;obtain⟨X7,CF|CF⟩:=CF
  ·exact absurd (H2.out.2.1.symm.trans CF.1) (by decide)
  ·obtain⟨_,Y,rfl,hY⟩:=CF;obtain⟨AY,cY,rfl,_⟩:=hY.shape;rw [<-H2.out.2.2.2]at hY ⊢;have H3:=Z7 (Z9 (H2.out.1.trans X7) (Z9 (KY H2.out.2.2.1 X7) hY));clear X7 hY;go_wp2_with fail;have alD:nr<=9223372036854775807:=by rw [H2.out.2.2.2,Zg,H0.out.2.2.2.2.1.len];exact hm
   go_loopw [12] (GX nr w3) (fun v _=>nr-(intOf v).toNat)
   case atStart=>exact⟨0,by omega,rfl,Mod.refl _ _⟩
   case round=>
    rename World=>wr
    obtain⟨k,hk,rfl,hM⟩:=hrel;by_cases hlt:k<nr
    ·have d1:decide ((k:Int)<(nr:Int))=true:=decide_eq_true (by omega);obtain⟨mx,hmx⟩:∃x,(rs.map (Tz fs G))[k]?=some x:=⟨_,ZP (by rw [<-H2.out.2.2.2];exact hlt)⟩
     have LG:=aaZ H2.out.2.1 (by rw [H0.out.2.2.2.2.2];exact Cr) mx (Xg hmx);obtain⟨b1,o1,cc1,A1,k1,Gr,hb1,hr1,hs1⟩:=sO (KY H3.out.2.1 hM) hmx;obtain⟨b2,o2,kY,A2',k2,hv2,hb2,hr2,hs2⟩:=sO (KY H3.out.2.2 hM) hmx;injection Gr with e1 e3 Ol;injection hv2 with e2 e4 Om;clear e3 e4;subst e1 Ol e2 Om;have p0:wr.cell? ⟨b1,o1+k*8,none⟩=some (.string (strOf mx.r.name)):=hr1 0 _ rfl;have p1:=hr1 1 _ rfl;have p2:=hr1 2 _ rfl;have p3:=hr1 3 _ rfl;have p4:=hr1 4 _ rfl;have p5:=hr1 5 _ rfl;have p6:=hr1 6 _ rfl;have p7:=hr1 7 _ rfl;have q0:wr.cell? ⟨b2,o2+k*8,none⟩=some (.string (strOf mx.r.name)):=hr2 0 _ rfl;have q1:=hr2 1 _ rfl;have q2:=hr2 2 _ rfl;have q3:=hr2 3 _ rfl;have q4:=hr2 4 _ rfl;have q5:=hr2 5 _ rfl;have q6:=hr2 6 _ rfl;have q7:=hr2 7 _ rfl;obtain⟨ns,hns⟩:∃x,x=mx.TD.length:=⟨_,rfl⟩
     rw [<-hns]at p7 q7 hs1 hs2 LG;have HX:=Z7 (Z9 p7 (Z9 q7 (Z9 hb1 (Z9 hb2 (Z9 hs1 (Z9 hs2 (Z9 hns LG.2)))))));have alC:=LG.1;have H4:=Z7 hM;clear hmx hr1 hr2 hs1 hs2 hns LG hM;go_upto_region 11 with(fail)
     go_quiet (fail)
     have H5:=Z7 ((Mod.refl (fun _=>False) wr).drewN nq);clear p0 p1 p2 p3 p4 p5 p6 p7 q0 q1 q2 q3 q4 q5 q6 q7;generalize wr.drewN nq=w5 at *;go_wp2_with fail;go_loopw [13] (GX ns wr) (fun v _=>ns-(intOf v).toNat)
     case atStart=>exact⟨0,by omega,rfl,H5.out⟩
     case round=>
      clear H5;rename World=>wq
      obtain⟨j,hj,rfl,dU⟩:=hrel;have p7:=(Vx dU HX.out.2.2.1).trans HX.out.1;have q7:=(Vx dU HX.out.2.2.2.1).trans HX.out.2.1;by_cases GL:j<ns
      ·have d2:decide ((j:Int)<(ns:Int))=true:=decide_eq_true (by omega);obtain⟨x,hx⟩:∃x,mx.TD[j]?=some x:=⟨_,ZP (by rw [<-HX.out.2.2.2.2.2.2.1];exact GL)⟩
       have qE:=HX.out.2.2.2.2.2.2.2 x (Xg hx);obtain⟨b3,o3,cp1,z1,sK,_,hb3,_,⟨sv1,fv1,rfl,nk,zH⟩,_,hx1⟩:=(Ej HX.out.2.2.2.2.1 dU).at_ hx (by decide);obtain⟨b4,o4,cp2,z2,hw2,_,hb4,_,⟨sv2,fv2,rfl,ja,hfr2⟩,_,hx2⟩:=(Ej HX.out.2.2.2.2.2.1 dU).at_ hx (by decide);injection sK with e1 e3 Ol;injection hw2 with e2 e4 Om;clear e3 e4;subst e1 Ol e2 Om;obtain⟨S1,t1,rfl,_⟩:=nk.shape;obtain⟨S2,t2,rfl,_⟩:=ja.shape;obtain⟨G1,g1,rfl,_⟩:=zH.shape;obtain⟨G2,g2,rfl,_⟩:=hfr2.shape;obtain⟨la,hla⟩:∃y,y=(x.map Prod.fst).length:=⟨_,rfl⟩
       obtain⟨lb,Fw⟩:∃y,y=(x.map Prod.snd).length:=⟨_,rfl⟩
       rw [<-hla]at nk ja hx1 hx2;rw [<-Fw]at zH hfr2 hx1 hx2;have x0:=hx1 0 _ rfl;have x1:=hx1 1 _ rfl;have y0:=hx2 0 _ rfl;have y1:=hx2 1 _ rfl;rw [WV]at x0 y0;have hcS:=fun w' (hm:Mod (fun _=>False) wq w')=>aeM w' _ _ _ _ _ (NT nk hm) (NT ja hm) (by rw [Zg];exact qE);have hcF:=fun w' (hm:Mod (fun _=>False) wq w')=>ac3 w' _ _ mx.d _ _ _ (O0 zH hm) (O0 hfr2 hm) (by rw [Zg];exact qE);have hs0:=((Sat.nil (fun _=>False) wq).alloc 49 #[.slice S1 la t1,.slice G1 lb g1] rfl).alloc (g:=wq.heap.size+1) 50 #[.slice S2 la t2,.slice G2 lb g2] (by simp);have H6:=Z7 (Z9 dU (Z9 hcS (Z9 hcF hs0)));clear dU hx hx1 hx2 nk ja zH hfr2 hcS hcF qE hs0 hla Fw;have lt1:=World.block_lt_of_cell? _ _ p7;have lt2:=World.block_lt_of_cell? _ _ q7;dsimp only at lt1 lt2;go_wp2_with fail;refine(H6.out.2.2.1 _ H6.out.2.2.2.mod).mono ?_;rintro e w6 ⟨rfl,Xt⟩;have J7:=H6.out.2.2.2.quiet Xt;obtain⟨uc,uf⟩:=(J7.ZX 1 rfl).both;obtain⟨vc,vf⟩:=(J7.ZX 0 rfl).both;dsimp only at uc vc;have H7:=Z7 J7;clear J7 Xt x0 x1 y0 y1 p7 q7 lt1 lt2 hb3 hb4;go_wp2_with fail;refine(H6.out.2.1 _ H7.out.mod).mono ?_;rintro e w7 ⟨rfl,Sn⟩;have H8:=Z7 (H6.out.1.trans (H7.out.mod.trans Sn));clear Sn uc uf vc vf;go_wp2_with fail;go_roundw
       case rel=>first|exact⟨j+1,by omega,by go_num,H8.out⟩|((repeat apply TK);exact⟨⟨j+1,by omega,by go_num,H8.out⟩,rfl⟩)
       case measure=>simp [intOf];omega
      ·obtain rfl:j=ns:=by omega
       have d2:decide ((j:Int)<(j:Int))=false:=decide_eq_false (by omega);have H6:=Z7 (H4.out.trans dU);clear dU;go_wp2_with fail;go_roundw
       case rel=>first|exact⟨k+1,by omega,by go_num,H6.out⟩|((repeat apply TK);exact⟨⟨k+1,by omega,by go_num,H6.out⟩,rfl⟩)
       case measure=>simp [intOf];omega
    ·obtain rfl:k=nr:=by omega
     have d1:decide ((k:Int)<(k:Int))=false:=decide_eq_false (by omega);have HE:=Z7 (H3.out.1.trans hM);clear hM;go_wp2_with fail;refine(yP _ (H0.out.1.quiet HE.out)).mono ?_;rintro e w9 ⟨rfl,VK⟩;have H9:=Z7 (HE.out.trans VK);clear VK;go_wp2_with fail;go_ret;exact⟨rfl,H9.out⟩
end Go.Proofs.YthednemlahioeaaGreatDoor
namespace Go.Proofs.YthednemlahioeaaGreatDoor
open Go.RowKit Go.ChangeShapes Go.WideShapes Go.ChangeAt Go.Joins
open Go.Proofs.Tryz
set_option maxRecDepth 100000
set_option maxHeartbeats 8000000
section
variable {H : Type} {enc : TypeId × Value → H} {w : World} {base : Nat} {held : Bool}
theorem ad5(zs:List Int)(h:∀n∈zs,(Lit.int .u8 n).wf=true):Yw (zs.map fun n=>UInt8.ofNat n.toNat)=zs.map (Value.int .u8):=by
 unfold Yw;rw [List.map_map];refine List.map_congr_left fun n hn=>?_;have hb:=bounds_u8 (h n hn);have e:((UInt8.ofNat n.toNat).toNat:Int)=n:=by
  rw [UInt8.toNat_ofNat',Nat.mod_eq_of_lt Z8];omega
 simp only [Function.comp,e]
theorem abO{fuel:Nat}{v:Value}{x:DataW H × List MemPlace}(h:DataW.trod enc prog w base (fun _=>true) held fuel 54 [v]=some x):
  ∃(A:Option Addr) (n c:Nat) (l:List UInt8),v=.slice A n c/\n<=maxLen/\BytesIn w A n c l:=by
 rcases open_ints underlying54 underlying5 ZR h with⟨hcs,_⟩|⟨a,n,c,zs,hcs,_,hl,hm,hz,_,hcell,jd⟩
 ·injection hcs with hcs;exact⟨none,0,0,[],hcs,ZU,rfl,fun _=>rfl,Src.nil,fun h0=>absurd h0 Z8⟩
 ·injection hcs with hcs;have hz':zs.length=c:=by simpa using hz
  have hb:=ad5 (zs.take n) (fun m hm=>jd m (List.mem_of_mem_take hm));refine⟨some a,n,c,(zs.take n).map fun m=>UInt8.ofNat m.toNat,hcs,Z8,?_,(fun h=>by cases h),?_,fun h0 ad e=>?_⟩
  ·simp;omega
  ·rw [hb];refine⟨by simp;omega,(fun h=>by cases h),fun ad e j u hu=>?_⟩;injection e with e;subst e;have hj:j<n:=by
    have:=(List.getElem?_eq_some_iff.1 hu).1;simp at this;omega
   have:=hcell j Z8;rw [this,<-hu];simp [List.getD_eq_getElem?_getD,hj,show j<zs.length by omega]
  ·injection e with e;subst e;have:=World.block_lt_of_cell? w _ (hcell 0 Z8);rwa [Qo]at this
theorem acA{fuel:Nat}{A:Option Addr}{n c:Nat}{x:DataW H × List MemPlace}(h:DataW.trod enc prog w base (fun _=>true) held fuel 54 [.slice A n c]=some x):n<=c:=by
 rcases open_ints underlying54 underlying5 ZR h with⟨hcs,_⟩|⟨a,n',c',zs,hcs,_,hl,_⟩
 ·injection hcs with hcs;injection hcs with _ e2 e3;omega
 ·injection hcs with hcs;injection hcs with _ e2 e3;omega
end
end Go.Proofs.YthednemlahioeaaGreatDoor
namespace Go.Proofs.YthednemlahioeaaGreatDoor
open Go.RowKit Go.ChangeShapes Go.WideShapes Go.ChangeAt Go.Joins Go.Deep
open Go.Proofs.Tryz
set_option maxRecDepth 100000
set_option maxHeartbeats 8000000
section
variable {H : Type} {enc : TypeId × Value → H} {w : World} {base : Nat} {held : Bool}
theorem rF:Tryz.prog.cellsOf 3=1:=ZR
theorem aff:Tryz.prog.cellsOf 54=1:=ZR
theorem rG:Tryz.prog.cellsOf 56=3:=ZR
theorem G9:Tryz.prog.cellsOf 58=9:=ZR
theorem KU{fuel:Nat}{v:Value}{x:DataW H × List MemPlace}(h:DataW.trod enc prog w base (fun _=>true) held fuel 3 [v]=some x):∃n,v=.int .i64 n /\ -9223372036854775808<=n/\n<=9223372036854775807:=by
 obtain⟨n,e,_,hw⟩:=DataW.trod_int underlying3 h;injection e with e;exact⟨n,e,bounds_i64 hw⟩
theorem Ac{fuel:Nat}{cs:List Value}{x:DataW H × List MemPlace}(h:DataW.trod enc prog w base (fun _=>true) held fuel 56 cs=some x):
  ∃(W Y:Int) (A:Option Addr) (n c:Nat) (l:List UInt8),cs=[↑W,↑Y,.slice A n c]/\BytesIn w A n c l/\n<=c/\n<=9223372036854775807:=by
 obtain⟨y0,y1,y2,n,_,hl,h0,h1,h2⟩:=trod_struct3 underlying56 h;rw [rG]at hl;rw [rF]at h0 h1;rw [aff]at h2
 match cs,hl with
 | [a,b,c],_=>
  obtain⟨x0,rfl,_⟩:=KU h0;obtain⟨x1,rfl,_⟩:=KU h1;obtain⟨A,n,k,l,rfl,hn,YZ⟩:=abO h2;exact⟨x0,x1,A,n,k,l,rfl,YZ,acA h2,by unfold maxLen at hn;omega⟩
theorem aeT{fuel:Nat}{cs:List Value}{x:DataW H × List MemPlace}(h:DataW.trod enc prog w base (fun _=>true) held fuel 58 cs=some x):∃f:Ya,f.In w/\cs=f.cells:=by
 obtain⟨y0,y1,y2,n,_,hl,h0,h1,h2⟩:=trod_struct3 underlying58 h;rw [G9]at hl;rw [rG]at h0 h1 h2
 match cs,hl with
 | [a0,a1,a2,a3,a4,a5,a6,a7,a8],_=>
  obtain⟨W0,Y0,A0,n0,c0,l0,e0,b0,k0,m0⟩:=Ac h0;obtain⟨W1,Y1,A1,n1,c1,l1,e1,b1,k1,m1⟩:=Ac h1;obtain⟨W2,Y2,A2,n2,c2,l2,e2,b2,k2,m2⟩:=Ac h2;have Cz:[a0,a1,a2]=[↑W0,↑Y0,.slice A0 n0 c0]:=e0;have Ol:[a3,a4,a5]=[↑W1,↑Y1,.slice A1 n1 c1]:=e1;have Om:[a6,a7,a8]=[↑W2,↑Y2,.slice A2 n2 c2]:=e2;simp only [List.cons.injEq,and_true]at Cz Ol Om;obtain⟨rfl,rfl,rfl⟩:=Cz;obtain⟨rfl,rfl,rfl⟩:=Ol;obtain⟨rfl,rfl,rfl⟩:=Om;exact⟨⟨W0,Y0,A0,n0,c0,W1,Y1,A1,n1,c1,W2,Y2,A2,n2,c2,l0,l1,l2⟩,⟨b0,b1,b2,k0,k1,k2,m0,m1,m2⟩,rfl⟩
theorem acm(n:Nat)(P:Nat->Ya->Prop)(h:∀i,i<n->∃l,P i l):∃ls:List Ya,ls.length=n/\∀i,i<n->P i (ls.getD i Ya.zero):=by
 induction n with
 | zero=>exact⟨[],rfl,fun i h=>absurd h Z8⟩
 | succ n ih=>
  obtain⟨ls,h1,h2⟩:=ih (fun i hi=>h i Z8);obtain⟨l,hl⟩:=h n Z8;refine⟨ls++[l],by simp [h1],fun i hi=>?_⟩;rw [List.getD_eq_getElem?_getD];by_cases e:i=n
  ·subst e;rw [List.getElem?_append_right Z8,h1,Nat.sub_self];exact hl
  ·rw [List.getElem?_append_left Z8,<-List.getD_eq_getElem?_getD];exact h2 i Z8
theorem adx{fuel:Nat}{v:Value}{x:DataW H × List MemPlace}(h:DataW.trod enc prog w base (fun _=>true) held fuel 29 [v]=some x):∃A n c fs,v=.slice A n c/\n<=9223372036854775807/\ME w A n fs:=by
 rcases open_slice underlying29 h with⟨hcs,_⟩|⟨a,len,cap,m,n,D,Pl,hcs,_,hl,hm,Ti,_,hall⟩
 ·injection hcs with hcs;exact⟨none,0,0,[],hcs,Z8,rfl,fun i hi=>absurd hi Z8⟩
 ·injection hcs with hcs;rw [if_pos rfl]at Ti;subst Ti;have each:∀i,i<len->∃f:Ya,∃b o,some a=some ⟨b,o,none⟩/\b<w.heap.size/\(∀(j:Nat) (v:Value),f.cells[j]?=some v->w.cell? ⟨b,o+i*9+j,none⟩=some v)/\f.In w:=by
   intro i hi;obtain⟨cs',hc,ht⟩:=hall i Z8;rw [G9]at hc;obtain⟨_,SB,hat⟩:=World.cells?_some hc;obtain⟨f,hf,rfl⟩:=aeT ht;obtain⟨b,off,spot⟩:=a;have hspot:spot=none:=by
    obtain⟨cs0,hc0,aQ⟩:=hall 0 Z8;obtain⟨_,hcl0,agv⟩:=World.cells?_some hc0;have z0:=agv 0 (by have:=G9;omega);rw [Nat.zero_mul]at z0;obtain⟨v0,hv0⟩:∃v,cs0[0]?=some v:=⟨_,List.getElem?_eq_getElem (by have:=G9;omega)⟩
    rw [hv0]at z0;exact World.cell?_spot z0
   subst hspot;have hk:∀(j:Nat) (v:Value),f.cells[j]?=some v->w.cell? ⟨b,off+i*9+j,none⟩=some v:=by
    intro j v hv;have hj:j<9:=by
     have:=(List.getElem?_eq_some_iff.1 hv).1;exact this
    have k:=hat j Z8;rw [VW,VW]at k;rw [k];exact hv
   have k0:=hk 0 _ rfl;exact⟨f,b,off,rfl,World.block_lt_of_cell? w _ k0,hk,hf⟩
  obtain⟨ls,e1,e2⟩:=acm len (fun i f=>∃b o,some a=some ⟨b,o,none⟩/\b<w.heap.size/\(∀(j:Nat) (v:Value),f.cells[j]?=some v->w.cell? ⟨b,o+i*9+j,none⟩=some v)/\f.In w) each;exact⟨some a,len,_,ls,hcs,by unfold maxLen at hm;omega,e1,e2⟩
theorem adh{r:Reach}{b0:Nat}{v:Value}{d:DataW H}{p:List MemPlace}(hv:Value.okWide prog w r b0 29 v)(h:DataW.Trod enc prog w base (fun _=>true) held 29 v d p):∃A n c fs,v=.slice A n c/\n<=9223372036854775807/\ME w A n fs:=by
 obtain⟨a0,bG,cap0,rfl⟩:=okWide_slice underlying29 hv;obtain⟨fuel,hf⟩:=h;have hf':DataW.trod enc prog w base (fun _=>true) held fuel 29 [.slice a0 bG cap0]=some (d,p):=by simpa [Value.cells]using hf
 exact adx hf'
end
section
variable {H : Type} {enc : TypeId × Value → H} {w : World} {base : Nat} {held : Bool}
theorem aes:Tryz.prog.cellsOf 9=1:=ZR
theorem IA:Tryz.prog.cellsOf 38=4:=ZR
theorem ab0(s:ByteArray):s=strOf s.data.toList:=by cases s;simp [strOf]
theorem aeh{fuel:Nat}{v:Value}{x:DataW H × List MemPlace}(h:DataW.trod enc prog w base (fun _=>true) held fuel 9 [v]=some x):∃s:List UInt8,v=.string (strOf s)/\s.length<=9223372036854775807:=by
 obtain⟨s,e,_,hw⟩:=DataW.trod_string underlying9 h;injection e with e;refine⟨s.data.toList,?_,?_⟩
 ·rw [e];exact congrArg Value.string (ab0 s)
 ·have hz:s.data.toList.length=s.size:=Array.length_toList;unfold maxLen at hw;omega
theorem aek{fuel:Nat}{cs:List Value}{x:DataW H × List MemPlace}(h:DataW.trod enc prog w base (fun _=>true) held fuel 38 cs=some x):∃r:Rg,r.name.length<=9223372036854775807/\cs=r.cells:=by
 obtain⟨xs,n,_,_,hl,qE,hf⟩:=DataW.trod_struct underlying38 h;rw [IA]at hl;have g0:DataW.trod enc prog w base (fun _=>true) held n 9 ((cs.drop 0).take (Tryz.prog.cellsOf 9))=xs[0]?:=hf 0 _ rfl;have g1:DataW.trod enc prog w base (fun _=>true) held n 3 ((cs.drop 1).take (Tryz.prog.cellsOf 3))=xs[1]?:=hf 1 _ rfl;have g2:DataW.trod enc prog w base (fun _=>true) held n 3 ((cs.drop 2).take (Tryz.prog.cellsOf 3))=xs[2]?:=hf 2 _ rfl;have g3:DataW.trod enc prog w base (fun _=>true) held n 3 ((cs.drop 3).take (Tryz.prog.cellsOf 3))=xs[3]?:=hf 3 _ rfl;clear hf;rw [rF]at g1 g2 g3;rw [aes]at g0;have hne:∀i,i<4->∃x,xs[i]?=some x:=fun i hi=>⟨_,List.getElem?_eq_getElem (by have:xs.length=4:=qE;omega)⟩
 obtain⟨y0,e0⟩:=hne 0 Z8;obtain⟨y1,e1⟩:=hne 1 Z8;obtain⟨y2,e2⟩:=hne 2 Z8;obtain⟨y3,e3⟩:=hne 3 Z8;rw [e0]at g0;rw [e1]at g1;rw [e2]at g2;rw [e3]at g3;clear hne e0 e1 e2 e3
 match cs,hl with
 | [a0,a1,a2,a3],_=>
  obtain⟨s,rfl,hs⟩:=aeh g0;obtain⟨x1,rfl,_⟩:=KU (v:=a1) g1;obtain⟨x2,rfl,_⟩:=KU (v:=a2) g2;obtain⟨x3,rfl,_⟩:=KU (v:=a3) g3;exact⟨⟨s,x1,x2,x3⟩,hs,rfl⟩
theorem ab3(n:Nat)(P:Nat->Rg->Prop)(h:∀i,i<n->∃l,P i l):∃ls:List Rg,ls.length=n/\∀i,i<n->P i (ls.getD i Rg.zero):=by
 induction n with
 | zero=>exact⟨[],rfl,fun i h=>absurd h Z8⟩
 | succ n ih=>
  obtain⟨ls,h1,h2⟩:=ih (fun i hi=>h i Z8);obtain⟨l,hl⟩:=h n Z8;refine⟨ls++[l],by simp [h1],fun i hi=>?_⟩;rw [List.getD_eq_getElem?_getD];by_cases e:i=n
  ·subst e;rw [List.getElem?_append_right Z8,h1,Nat.sub_self];exact hl
  ·rw [List.getElem?_append_left Z8,<-List.getD_eq_getElem?_getD];exact h2 i Z8
theorem acT{fuel:Nat}{v:Value}{x:DataW H × List MemPlace}(h:DataW.trod enc prog w base (fun _=>true) held fuel 23 [v]=some x):∃A n c rs,v=.slice A n c/\n<=9223372036854775807/\Nz w A n c rs:=by
 rcases open_slice underlying23 h with⟨hcs,_⟩|⟨a,len,cap,m,n,D,Pl,hcs,_,hl,hm,Ti,_,hall⟩
 ·injection hcs with hcs;exact⟨none,0,0,[],hcs,Z8,rfl,Nat.le_refl _,fun i=>by simp [Rg.zero],fun i hi=>absurd hi Z8⟩
 ·injection hcs with hcs;rw [if_pos rfl]at Ti;subst Ti;have each:∀i,i<len->∃r:Rg,r.name.length<=9223372036854775807/\∃b o,some a=some ⟨b,o,none⟩/\b<w.heap.size/\(∀(j:Nat) (v:Value),r.cells[j]?=some v->w.cell? ⟨b,o+i*4+j,none⟩=some v):=by
   intro i hi;obtain⟨cs',hc,ht⟩:=hall i Z8;rw [IA]at hc;obtain⟨_,SB,hat⟩:=World.cells?_some hc;obtain⟨r,hr,rfl⟩:=aek ht;obtain⟨b,off,spot⟩:=a;have hspot:spot=none:=by
    obtain⟨cs0,hc0,aQ⟩:=hall 0 Z8;obtain⟨_,hcl0,agv⟩:=World.cells?_some hc0;have z0:=agv 0 (by have:=IA;omega);rw [Nat.zero_mul]at z0;obtain⟨v0,hv0⟩:∃v,cs0[0]?=some v:=⟨_,List.getElem?_eq_getElem (by have:=IA;omega)⟩
    rw [hv0]at z0;exact World.cell?_spot z0
   subst hspot;have hk:∀(j:Nat) (v:Value),r.cells[j]?=some v->w.cell? ⟨b,off+i*4+j,none⟩=some v:=by
    intro j v hv;have hj:j<4:=(List.getElem?_eq_some_iff.1 hv).1;have k:=hat j Z8;rw [VW,VW]at k;rw [k];exact hv
   have k0:=hk 0 _ rfl;exact⟨r,hr,b,off,rfl,World.block_lt_of_cell? w _ k0,hk⟩
  obtain⟨ls,e1,e2⟩:=ab3 len (fun i r=>r.name.length<=9223372036854775807/\∃b o,some a=some ⟨b,o,none⟩/\b<w.heap.size/\(∀(j:Nat) (v:Value),r.cells[j]?=some v->w.cell? ⟨b,o+i*4+j,none⟩=some v)) each;refine⟨some a,len,_,ls,hcs,by unfold maxLen at hm;omega,e1,hl,fun i=>?_,fun i hi=>(e2 i hi).2⟩;by_cases hi:i<len
  ·exact(e2 i hi).1
  ·rw [List.getD_eq_getElem?_getD,List.getElem?_eq_none Z8];exact Nat.zero_le _
theorem adg{r:Reach}{b0:Nat}{v:Value}{d:DataW H}{p:List MemPlace}(hv:Value.okWide prog w r b0 23 v)(h:DataW.Trod enc prog w base (fun _=>true) held 23 v d p):∃A n c rs,v=.slice A n c/\n<=9223372036854775807/\Nz w A n c rs:=by
 obtain⟨a0,bG,cap0,rfl⟩:=okWide_slice underlying23 hv;obtain⟨fuel,hf⟩:=h;have hf':DataW.trod enc prog w base (fun _=>true) held fuel 23 [.slice a0 bG cap0]=some (d,p):=by simpa [Value.cells]using hf
 exact acT hf'
end
section
variable {H : Type} {enc : TypeId × Value → H} {w : World} {base : Nat} {held : Bool}
theorem aeS{A:Option Addr}{n c:Nat}{d:DataW H}{p:List MemPlace}(h:DataW.Trod enc prog w base (fun _=>true) held 29 (.slice A n c) d p):n<=c/\c<=9223372036854775807:=by
 obtain⟨fuel,hf⟩:=h;have hf':DataW.trod enc prog w base (fun _=>true) held fuel 29 [.slice A n c]=some (d,p):=by simpa [Value.cells]using hf
 rcases open_slice underlying29 hf' with⟨hcs,_⟩|⟨a,len,cap,m,k,D,Pl,hcs,_,hl,hm,_⟩
 ·injection hcs with hcs;injection hcs with e1 e2 e3;omega
 ·injection hcs with hcs;injection hcs with e1 e2 e3;unfold maxLen at hm;omega
end
end Go.Proofs.YthednemlahioeaaGreatDoor
namespace Go.Proofs.YthednemlahioeaaGreatDoor
open Go Go.RowKit Go.ChangeShapes Go.WideShapes Go.ChangeAt Go.Joins Go.Deep
open Go.Proofs.Tryz
set_option maxRecDepth 100000
set_option maxHeartbeats 8000000
def laidAll : List (String × DataW Unit) := [("kinora/encoder.places", Rows.laid_kinora_encoder_places)]
theorem abC{W:World}(h:laidMetH prog laidAll W):laidMet prog laidAll W:=by
 rw [Go.MakeChecks.laidMetH_plain prog laidAll W ZR]at h;exact h
section
variable {H : Type} {enc : TypeId × Value → H} {w : World} {base : Nat} {sp : Nat → Bool} {held : Bool}
theorem wD:Tryz.prog.cellsOf 343=3:=ZR
theorem acz:Tryz.prog.cellsOf 3=1:=ZR
theorem zP{fuel:Nat}{v:Value}{x:DataW H × List MemPlace}(h:DataW.trod enc prog w base sp held fuel 3 [v]=some x):∃n,v=.int .i64 n/\x=(.lit (.int .i64 n),[]):=by
 obtain⟨n,e,e2,_⟩:=DataW.trod_int underlying3 h;injection e with e;exact⟨n,e,e2⟩
theorem ab9{fuel:Nat}{L:List Value}{a b c:Int}{ps:List MemPlace}(h:DataW.trod enc prog w base sp held fuel 343 L=some (.agg [.lit (.int .i64 a),.lit (.int .i64 b),.lit (.int .i64 c)],ps)):L=[.int .i64 a,.int .i64 b,.int .i64 c]:=by
 obtain⟨y0,y1,y2,n,hx,hl,h0,h1,h2⟩:=trod_struct3 underlying343 h;rw [wD]at hl;rw [acz]at h0 h1 h2
 match L,hl with
 | [v0,v1,v2],_=>
  obtain⟨n0,rfl,rfl⟩:=zP h0;obtain⟨n1,rfl,rfl⟩:=zP h1;obtain⟨n2,rfl,rfl⟩:=zP h2;simp only [Prod.mk.injEq,DataW.agg.injEq,List.cons.injEq,DataW.lit.injEq,Lit.int.injEq,true_and,and_true]at hx;obtain⟨⟨rfl,rfl,rfl⟩,_⟩:=hx;rfl
theorem aau{fuel:Nat}{cs:List Value}{p:List MemPlace}(h:DataW.trod enc prog w base sp held fuel 344 cs=some (Rows.laid_kinora_encoder_places,p)):∀i,i<18->cs[i]?=Iw[i]?:=by
 obtain⟨xs,m,rfl,hx,hl,qE,hall⟩:=DataW.trod_array underlying344 h;rw [wD]at hall;have hm:(Rows.laid_kinora_encoder_places:DataW H)=.agg (xs.map (·.1)):=congrArg Prod.fst hx;unfold Rows.laid_kinora_encoder_places at hm;injection hm with hm;have key:∀k a b c,k<6->(xs.map (·.1))[k]?=some (.agg [.lit (.int .i64 a),.lit (.int .i64 b),.lit (.int .i64 c)])->∀j,j<3->cs[k*3+j]?=[Value.int .i64 a,.int .i64 b,.int .i64 c][j]?:=by
  intro k a b c hk he j hj;rw [List.getElem?_map,Option.map_eq_some_iff]at he;obtain⟨y,hy,Bt⟩:=he;have h1:=hall k hk;rw [hy]at h1;obtain⟨y1,y2⟩:=y;dsimp only at Bt;subst Bt;rw [<-ab9 h1,List.getElem?_take_of_lt hj,List.getElem?_drop]
 intro i hi;have e0:=key 0 0 0 0 (by omega) (by rw [<-hm];rfl);have e1:=key 1 0 8 0 (by omega) (by rw [<-hm];rfl);have e2:=key 2 0 0 8 (by omega) (by rw [<-hm];rfl);have e3:=key 3 0 8 8 (by omega) (by rw [<-hm];rfl);have e4:=key 4 1 0 0 (by omega) (by rw [<-hm];rfl);have e5:=key 5 2 0 0 (by omega) (by rw [<-hm];rfl);clear key hm hall hx
 match i,hi with
 | 0,_=>exact e0 0 (by omega)
 | 1,_=>exact e0 1 (by omega)
 | 2,_=>exact e0 2 (by omega)
 | 3,_=>exact e1 0 (by omega)
 | 4,_=>exact e1 1 (by omega)
 | 5,_=>exact e1 2 (by omega)
 | 6,_=>exact e2 0 (by omega)
 | 7,_=>exact e2 1 (by omega)
 | 8,_=>exact e2 2 (by omega)
 | 9,_=>exact e3 0 (by omega)
 | 10,_=>exact e3 1 (by omega)
 | 11,_=>exact e3 2 (by omega)
 | 12,_=>exact e4 0 (by omega)
 | 13,_=>exact e4 1 (by omega)
 | 14,_=>exact e4 2 (by omega)
 | 15,_=>exact e5 0 (by omega)
 | 16,_=>exact e5 1 (by omega)
 | 17,_=>exact e5 2 (by omega)
 | n+18,h=>exact absurd h (by omega)
end
theorem aa7{W:World}(h:laidMet prog laidAll W):Kk W:=by
 obtain ⟨ps,⟨g',t',cs,fuel,p,q,hg',fA,akj,hd,_,_⟩,_⟩:=h;have hg : Tryz.prog.globalNamed "kinora/encoder.places" = some 5 := by kernel_rfl
 obtain rfl:=Option.some.inj (hg.symm.trans hg');have hty:(Tryz.prog.globals[5]?).map (·.type)=some 344:=ZR;obtain rfl:=Option.some.inj (hty.symm.trans fA);have hcs:=aau hd
 have hc:∀i,i<18->W.cell? ⟨5,i,none⟩=Iw[i]?:=fun i hi=>by
  rw [World.var?_cell hg akj i,<-hcs i hi,Array.getElem?_toList]
 exact⟨hc,World.block_lt_of_cell? W _ (hc 0 Z8)⟩
/-! ### One start that fits -/
noncomputable def J9 (os:Os):World:=
 let w0:=World.holding prog os ⟨#[],#[],[]⟩
 let put (h:Array Obj) (g:Nat) (cs:Array Value):Array Obj:=h.modify g fun
  | .cells _ t frozen=>.cells cs t frozen
  | o=>o
 { w0 with heap:=put w0.heap 5 Iw }
theorem adr(os:Os)(args:Array Value):laidMet prog laidAll ((J9 os).forCall (fun _ _=>0) ⟨#[],args,[]⟩).memory:=
 LaidIn.met (LaidIn.of_run [5] 8 ZR ZR ZR ZR)
end Go.Proofs.YthednemlahioeaaGreatDoor
namespace Go.Proofs.YthednemlahioeaaGreatDoor
open Go.ChangeShapes Go.WideShapes Go.ChangeAt Go.RowKit
set_option maxRecDepth 100000
set_option maxHeartbeats 8000000
theorem afP:laidOutB Tryz.prog=true:=ZR
theorem aed:mapsRowed Tryz.prog=true:=ZR
theorem aeg:Tryz.prog.mayEnter=true:=ZR
theorem aef:Tryz.prog.stopsHeard=true:=ZR
theorem afO : Tryz.pinned.checked.prog.mainIs = some (true, ("0901637a7163c00ab74897054a05ebfc26105b53c584f0ed4435d1a232147e76" : String).toList) := by kernel_rfl
theorem aee:true=Tryz.pinned.checked.prog.looks []:=ZR
end Go.Proofs.YthednemlahioeaaGreatDoor
namespace Go.Proofs.YthednemlahioeaaGreatDoor.ladderMakes
open Go.ChangeShapes Go.WideShapes Go.ChangeAt Go.RowKit
set_option maxRecDepth 100000
set_option maxHeartbeats 8000000
theorem akW:Rows.ladderMakesRow.wf (OpenSpec.ofChange (OpenSpec.ofChange Rows.ladderMakesSpec).bare)=true:=ZR
theorem afg:Tryz.prog.inPlace 4=Rows.ladderMakesRow.inPlace:=ZR
theorem ajq:Tryz.prog.unfollowed 4=Rows.ladderMakesRow.unfollowed:=ZR
theorem ajr:Tryz.prog.recurses 4=Rows.ladderMakesRow.recurses:=ZR
theorem afh:Tryz.prog.varsNamed 4=Rows.ladderMakesRow.named:=ZR
theorem ag0:Tryz.prog.liftsFinal=Rows.ladderMakesRow.lifted:=ZR
theorem joined:joinedFacts Tryz.prog 4 Tryz.f4 (OpenSpec.ofChange Rows.ladderMakesSpec).bare Rows.ladderMakesRow=true:=by
 unfold joinedFacts;rw [akW,afP,aed,afg,ajq,ajr,afh,aeg,ag0,aef]
 kernel_rfl
theorem akO:Rows.ladderMakesRow.wfByText (OpenSpec.ofChange Rows.ladderMakesSpec)=true:=ZR
theorem agF : Tryz.pinned.checked.prog.mainIs = some (true, ("0901637a7163c00ab74897054a05ebfc26105b53c584f0ed4435d1a232147e76" : String).toList) := afO
theorem aeY:true=Tryz.pinned.checked.prog.looks []:=aee
theorem agG:false=Rows.ladderMakesRow.goesBy Tryz.pinned.checked.prog:=ZR
theorem aeX : Tryz.prog.funcNamed "kinora/kinoralaw15.LadderMakes" = some 4 := by kernel_rfl
end Go.Proofs.YthednemlahioeaaGreatDoor.ladderMakes
