/-
  The reference's Make.
-/
import Derived.Test.YthednemlahioeaaGreatDoorM36
import Derived.Test.YthednemlahioeaaGreatDoorM37
namespace Go.Proofs.YthednemlahioeaaGreatDoor
open Go.RowKit
open World.ownsRow renaming lt→X4
open List renaming eq_nil_of_length_eq_zero→Xw,flatten_cons→SX,mem_cons→WH,not_mem_nil→Xp,length_append→YW,getElem?_append_right→ZF,length_map→Zg,map_append→YP
open Prod renaming fst→Sv,snd→Rx
open Nat renaming zero_add→WW,zero_le→XI,le_trans→ZQ,le_refl→ZY,mod_lt→VV
open Ya renaming zero→YL,cells→Vh
open And renaming intro→Z9
open Lib renaming hid→Z7
open Int renaming tdiv_eq_ediv_of_nonneg→ZK
open ZI renaming new→Zn
open Value renaming slice→Xi,ownBlock→YQ
open IntWalk renaming i64_in→Z4
open Yr renaming push→Vn
open Go.Proofs.Tryz
set_option maxRecDepth 100000
set_option maxHeartbeats 8000000
theorem acS:(Tryz.prog.info? 46).map (fun i=>(i.zero,i.size,i.bytes))=some (some (.agg ↑EZ),8,88):=ZR
theorem acQ:(Tryz.prog.info? 50).map (fun i=>(i.zero,i.size,i.bytes))=some (some (.agg #[↑Zd,↑Zd]),2,48):=ZR
theorem acU{w w':World}{W H G q tg:Int}{e:Ending}(h:Ar w W H G q tg e w')(h1:seqRight W H G=true)(h2:Rp q tg=true):∃g,e=.returned (.tuple #[↑(ZC g 0),↑Z0])/\ZI w' g 193 (Ta W H G q tg 0 Q3)/\w.heap.size<=g/\Mod ↑ZW w w':=by
 obtain⟨hm,⟨h,_⟩|⟨_,h,_⟩|⟨g,_,_,he,hb,hl⟩⟩:=h
 ·exact absurd (h1.symm.trans h) ZU
 ·exact absurd (h2.symm.trans h) ZU
 ·exact⟨g,he,hb,hl,hm⟩
theorem dL{w:World}{B:Nat}{F:Nat->Prop}{d:Yz}{b0 k0 b1 k1 b2 k2:Nat}{f:Yy}(h:MX w B d b0 k0 b1 k1 b2 k2 f)(hF:∀k,B<=k->F k):Wd w F d f (V9 d b0 k0 b1 k1 b2 k2):=by
 have go:∀ {b n k:Nat} {l:List UInt8},Bytes w B ↑(ZZ b n k) l->l.length=n->WA w F 1 ↑(ZZ b n k) n (Yw l):=fun hb hl=>by
  have:=WA.Oy (F:=F) hb (fun k hk=>hF k (X4 hb k hk).1);rwa [hl]at this
 exact⟨_,_,_,rfl,go h.y h.ly,go h.u h.lu,go h.v h.lv⟩
theorem WA.jl{w:World}{F:Nat->Prop}{size n c:Nat}{A:Option Addr}{xs:List Value}(h:WA w F size (.slice A n c) n xs):Src w size A n xs/\(A=none->c=0):=by
 obtain⟨A',c',h1,h2,h3,h4,h5⟩:=h.ex;injection h1 with e1 _ e2;subst e1 e2;exact⟨h4,h3⟩
theorem Ei{w:World}{F:Nat->Prop}{l:List (List UInt8)}{xs:List Value}(h:WB 1 (PM w F) l xs):∀u∈xs,u.oneCell'=true:=by
 induction l generalizing xs with
 | nil=>intro u hu;obtain⟨cs,h1,rfl,_⟩:=h;have:cs=[]:=Xw h1;rw [this]at hu;simp at hu
 | cons x l ih=>
  obtain⟨cs,h1,rfl,h3,h4⟩:=h;cases cs with
  | nil=>simp at h1
  | cons c cs=>
   intro u hu;rw [SX]at hu;rcases List.mem_append.1 hu with hu|hu
   ·obtain⟨v,rfl,hv⟩:=h4 0 x c rfl rfl;obtain⟨A,k,rfl,_⟩:=hv.RU;rw [List.mem_singleton.1 hu];rfl
   ·exact ih ⟨cs,by simpa using h1,rfl,fun d hd=>h3 d (by simp [hd]),fun i y d hy hd=>h4 (i+1) y d (by simpa using hy) (by simpa using hd)⟩ u hu
theorem Fq{w:World}{F:Nat->Prop}{d:Yz}{l:List Yy}{xs:List Value}(h:WB 9 (Wd w F d) l xs):∀u∈xs,u.oneCell'=true:=by
 induction l generalizing xs with
 | nil=>intro u hu;obtain⟨cs,h1,rfl,_⟩:=h;have:cs=[]:=Xw h1;rw [this]at hu;simp at hu
 | cons x l ih=>
  obtain⟨cs,h1,rfl,h3,h4⟩:=h;cases cs with
  | nil=>simp at h1
  | cons c cs=>
   intro u hu;rw [SX]at hu;rcases List.mem_append.1 hu with hu|hu
   ·obtain⟨v0,v1,v2,rfl,r0,r1,r2⟩:=(h4 0 x c rfl rfl).ex;obtain⟨A0,k0,rfl,_⟩:=r0.shape;obtain⟨A1,k1,rfl,_⟩:=r1.shape;obtain⟨A2,k2,rfl,_⟩:=r2.shape;simp only [WH,Xp,or_false]at hu;rcases hu with rfl|rfl|rfl|rfl|rfl|rfl|rfl|rfl|rfl<;>rfl
   ·exact ih ⟨cs,by simpa using h1,rfl,fun d hd=>h3 d (by simp [hd]),fun i y d hy hd=>h4 (i+1) y d (by simpa using hy) (by simpa using hd)⟩ u hu
theorem ade{w:World}{B:Nat}{e:TypeId}{size n:Nat}{v:Value}{xs:List Value}(h:w.ownsRow B e size v n xs)(hn:0<n):∃g c,v=↑(ZZ g n c):=by
 rcases h.2 with⟨_,h0⟩|⟨g,cap,cur,hv,_⟩
 ·omega
 ·exact⟨g,cap,hv⟩
theorem DK{w:World}{B:Nat}{e:TypeId}{F:Nat->Prop}{d:Yz}{v:Value}{l:List (List (List UInt8 × Yy))}{s:List (List UInt8 × Yy)}(h:Yr w B e 2 (OQ w F d) v (l++[s])):
  ∃g c sv fv,v=↑(ZZ g (l.length+1) c)/\w.cell? ⟨g,l.length*2,none⟩=some sv/\w.cell? ⟨g,l.length*2+1,none⟩=some fv/\WI w F 1 (PM w F) sv (s.map Sv)/\WI w F 9 (Wd w F d) fv (s.map Rx)/\∃cs,ZI w g e cs/\l.length*2+2<=cs.size:=by
 obtain⟨xs,hrow,hc⟩:=h;rw [YW,List.length_singleton]at hrow;obtain⟨g,c,rfl⟩:=ade hrow Z8;obtain⟨ys,c2,rfl,hys,⟨sv,fv,rfl,h1,h2⟩,_⟩:=hc.oQ;have hl:=hys.len;refine⟨g,c,sv,fv,rfl,?_,?_,h1,h2,?_⟩
 ·have z:=hrow.cells (g:=g) rfl (l.length*2) sv (by rw [ZF Z8,hl,Nat.sub_self];rfl);rwa [VW,WW]at z
 ·have z:=hrow.cells (g:=g) rfl (l.length*2+1) fv (by rw [ZF Z8,hl,Nat.add_sub_cancel_left];rfl);rwa [VW,WW]at z
 ·rcases hrow.2 with⟨hv,_⟩|⟨g',cap,cur,hv,_,hb,hn,_,hs,_⟩
  ·cases hv
  ·injection hv with e1 _ e2;injection e1 with e1;injection e1 with e1;subst e1 e2;exact⟨cur,hb,Z8⟩
def vZ(w:World)(fs:List Ya)(G:Int)(rs:List Rg)(v9 v10:Value)(wr:World):Prop:=
 ∃i:Nat,i<=rs.length/\v10=↑i/\Yr wr w.heap.size 46 8 (Ny wr (FM w.heap.size v9)) v9 ((rs.take i).map (Tz fs G))/\Mod ↑ZW w wr
def ak5(wr:World)(cells:List Value)(v11:Value)(wx:World):Prop:=∃mb,v11=↑(ZC mb 0)/\wr.heap.size<=mb/\ZI wx mb 46 cells.toArray/\Mod ↑ZW wr wx
def ahe(wb:World)(p:jD)(q:Nat)(Xa:List Yy)(n:Nat)(v14:Value)(wr:World):Prop:=
 ∃(k:Nat) (v:Value),k<=n/\v14=↑k/\Nh wb p v (SK p.d p.G p.tg q Xa k) (Xr p.d p.G p.tg q Xa k).1 (k % p.G) (Xr p.d p.G p.tg q Xa k).2 wr
def ahf(W wr:World)(fb dn:Nat)(d0:Yz)(P:Yy)(v16:Value)(wq:World):Prop:=
 ∃(m:Nat) (fx:Ya),m<=dn/\v16=↑m/\ZI wq fb 58 fx.cells.toArray/\fx.In wq/\fx.UG (d0.Xu m)=true/\fx.ZJ=Tu d0 P m/\(∀ad,(fx.A0=some ad\/fx.A1=some ad\/fx.A2=some ad)->ad.block≠fb/\(ad.block<W.heap.size\/wr.heap.size<=ad.block))/\Mod ↑ZW wr wq
theorem ahS(w:World)(A:Option Addr)(n c:Nat)(fs:List Ya)(YZ:ME w A n fs)(mM:n<=9223372036854775807)(G:Int)(A2:Option Addr)(m c2:Nat)(rs:List Rg)(hr:Nz w A2 m c2 rs)(hm:m<=9223372036854775807)
  (hW:(fs.getD 0 YL).W0<=64)(hH:(fs.getD 0 YL).H0<=64):
  Calls prog 17 #[.slice A n c,↑G,.slice A2 m c2] w (GU w fs G rs):=by
 have H0:=Z5 YZ (Z9 hr YZ.len);cases SB:Pj fs with
 | false=>
  have Dv:QK fs G rs=false:=by unfold QK;rw [SB,Bool.false_and]
  have HB:=Z5 SB Dv;clear SB Dv YZ hr;go_enter func17,ntmps17;go_wp2_with fail;refine YX (fP _ A n c fs H0.out.1 mM) fun w1 Y6=>?_;rw [HB.out.1];have H1:=Z7 Y6;clear Y6;go_upto_region 2 with(fail)
  refine YY [15] [] [0,1,2,3,4,5,6,7,8,9,10,11,12,13,14,15,16,17] (fun _=>True) ZR ZR Xc trivial ?_
  (iterate 15 (refine Zc ?_))
  refine Zf rfl rfl (fun K hK=>?_);go_simp;refine hK _ _ trivial ?_;clear hK K
  (iterate 2 (refine Zc ?_))
  refine Yg ?_;have H2:=Z7 (H1.out.drew);go_wp2_with fail;go_ret2;exact⟨H2.out,.inl ⟨HB.out.2,rfl⟩⟩
 | true=>
  obtain⟨hdo,gz,dO,hl,Ib⟩:=J2 SB;have hlen:=YZ.len;have JD:0<n:=Z8;obtain⟨b,o,hA,Fw,Zm,_⟩:=YZ.at_ 0 JD;subst hA;obtain⟨W0,hW0⟩:=ZL ((fs.getD 0 YL).W0);obtain⟨MZ,vG⟩:=ZL ((fs.getD 0 YL).H0);have c0:w.cell? ⟨b,o,none⟩=some ↑W0:=by have:=Zm 0 _ rfl;rw [hW0];simpa using this
  have c1:w.cell? ⟨b,o+1,none⟩=some ↑MZ:=by have:=Zm 1 _ rfl;rw [vG];simpa using this
  have bW:(0:Int)<=W0/\W0<=64:=by rw [hW0];exact⟨by rw [<-gz];omega,hW⟩
  have bH:(0:Int)<=MZ/\MZ<=64:=by rw [vG];exact⟨by rw [<-dO];omega,hH⟩
  have lC:∀w',Mod ↑ZW w w'->Calls prog 14 #[↑W0,↑MZ,↑G,.slice A2 m c2] w' fun e w''=>e=.returned (.int .i64 (U4 W0 MZ G rs))/\Mod ↑ZW w' w'':=
   fun w' hm'=>afZ w' W0 MZ G A2 m c2 rs (hr.quiet hm') hm ⟨Z8,Z8⟩ ⟨Z8,Z8⟩
  have HL:=Z5 lC (Z9 c0 (Z9 c1 Fw));have HC:=Z5 SB (Z9 hdo (Z9 Ib (Z9 hW0 (Z9 vG (Z9 hlen (Z9 bW bH))))));have Na:n<=1024:=Z8;clear lC c0 c1 Fw Zm SB hdo Ib YZ hr gz dO bW bH hlen hl;go_enter func17,ntmps17;go_wp2_with fail;refine YX (fP _ (some ⟨b,o,none⟩) n c fs H0.out.1 mM) fun w1 Y6=>?_;rw [HC.out.1];have c0:w1.cell? ⟨b,o,none⟩=some ↑W0:=(Vx Y6 HL.out.2.2.2).trans HL.out.2.1;have c1:w1.cell? ⟨b,o+1,none⟩=some ↑MZ:=(Vx Y6 HL.out.2.2.2).trans HL.out.2.2.1;have H1:=Z7 Y6;clear Y6;go_upto_region 2 with(fail)
  obtain⟨E,hE⟩:=ZL (U4 W0 MZ G rs);have hlC:=HL.out.1 _ (H1.out.drew);rw [<-hE]at hlC;have HE:=Z5 hE hlC;clear hE hlC hW0 vG;refine YK [15] [] [0,1,2,3,4,5,6,7,8,9,10,11,12,13,14,15,16,17] ZR ZR Xc ?_
  (iterate 15 (refine Yd ?_))
  refine XJ rfl rfl (fun K hK=>?_);go_simp;refine HE.out.2.mono ?_;rintro e w2 ⟨rfl,Y3⟩;have H2:=Z7 (H1.out.drew.trans Y3);clear Y3 c0 c1;dsimp only [];refine hK _ _ ?_;clear hK K
  (iterate 2 (refine Yd ?_))
  refine XD ?_;cases Nr:Us W0 MZ G rs with
  | false=>
   have Dv:QK fs G rs=false:=by unfold QK;rw [HC.out.1,<-HC.out.2.2.2.1,<-HC.out.2.2.2.2.1,Nr];rfl
   have yw:E=151:=by rw [HE.out.1,J8,Nr];rfl
   have HB:=Z7 Dv;clear Dv Nr HE;subst yw;go_wp2_with fail;go_ret2;exact⟨H2.out,.inl ⟨HB.out,rfl⟩⟩
  | true=>
   have Dv:QK fs G rs=true:=by unfold QK;rw [HC.out.1,<-HC.out.2.2.2.1,<-HC.out.2.2.2.2.1,Nr];rfl
   have yw:E=0:=by rw [HE.out.1,J8,Nr];rfl
   have akw:1<=m/\m<=8:=by
    unfold Us at Nr;rw [Bool.and_eq_true,decide_eq_true_eq,H0.out.2.1.len]at Nr;exact Nr.1
   have HB:=Z5 Dv Nr;clear Dv Nr HE;subst yw;go_wp2_with fail;go_loopw [9,10] (vZ w fs G rs) (fun _ i _=>m-(intOf i).toNat)
   case atStart=>exact⟨0,XI _,rfl,⟨[],World.ownsRow_nil _ _ _ _,.nil⟩,H2.out⟩
   case round=>
    clear H2 H1;obtain⟨i,hi,rfl,hL,hM⟩:=hrel;rename World=>wr
    have Lr:=H0.out.2.1.len;obtain⟨Ao,co,uM⟩:=hL.shape;have Pq:((rs.take i).map (Tz fs G)).length=i:=by rw [Zg,List.length_take];omega
    rw [Pq]at uM;subst uM;by_cases hlt:i<m
    ·have d3:=Zb ((i:Int)<(m:Int));obtain⟨b2,o2,rfl,lW,Zm⟩:=(H0.out.2.1.quiet hM).at_ i hlt;obtain⟨r,hr⟩:=ZL (rs.getD i Rg.zero);have Rq:=Gs HB.out.2 (show i<rs.length by omega);rw [<-hr]at Zm Rq;rw [HC.out.2.2.2.1,HC.out.2.2.2.2.1]at Rq;obtain⟨dn,q,tg,g,x1,x2,x3,x4,y1,y2,y3,y4,y5,y6,y7,y8,y9⟩:=Eh HC.out.1 Rq hW hH;subst x4;have k0:wr.cell? ⟨b2,o2+i*4,none⟩=some (.string (strOf r.name)):=Zm 0 _ rfl;have k1:wr.cell? ⟨b2,o2+i*4+1,none⟩=some ↑dn:=by rw [<-x1];exact Zm 1 _ rfl
     have k2:wr.cell? ⟨b2,o2+i*4+2,none⟩=some ↑q:=by rw [<-x2];exact Zm 2 _ rfl
     have k3:wr.cell? ⟨b2,o2+i*4+3,none⟩=some ↑tg:=by rw [<-x3];exact Zm 3 _ rfl
     obtain⟨d,hd⟩:=ZL ((Vy fs).Xu dn);have hmx:Tz fs (g:Int) r=⟨⟨r.name,(dn:Int),(q:Int),(tg:Int)⟩,(g:Int),d,Nt d g tg q (fs.map fun f=>Tu (Vy fs) f.ZJ dn)⟩:=by
      obtain⟨nm,rd,rq,rt⟩:=r;dsimp only at x1 x2 x3;subst x1 x2 x3 hd;rfl
     have hsq:W0.tdiv ((2 ^ dn:Nat):Int)=(d.W:Int)/\MZ.tdiv ((2 ^ dn:Nat):Int)=(d.H:Int):=by
      have h2:(Vy fs).W2=(Vy fs).W/2/\(Vy fs).H2=(Vy fs).H/2:=by have:=HC.out.2.1.w2;have:=HC.out.2.1.h2;omega
      obtain⟨e1,e2⟩:=KJ (Vy fs) h2 dn;obtain⟨_,gz,dO,_⟩:=J2 HC.out.1;rw [<-HC.out.2.2.2.1]at gz;rw [<-HC.out.2.2.2.2.1]at dO;rw [ZK HC.out.2.2.2.2.2.2.1.1,ZK HC.out.2.2.2.2.2.2.2.1,hd,<-e1,<-e2,gz,dO];exact⟨rfl,rfl⟩
     have hbW:=HC.out.2.2.2.2.2.2.1;have hbH:=HC.out.2.2.2.2.2.2.2
     have hSQ:∀w',Calls prog 49 #[↑W0,↑MZ,↑g,.agg #[.string (strOf r.name),↑dn,↑q,↑tg]] w' fun e w''=>e=.returned (.agg #[.int .i64 (d.W:Int),.int .i64 (d.H:Int),↑g])/\Mod ↑ZW w' w'':=fun w'=>by
      have:=MO w' W0 MZ (g:Int) ⟨r.name,(dn:Int),(q:Int),(tg:Int)⟩ dn rfl y1 ⟨Z8,Z8⟩ ⟨Z8,Z8⟩;rw [hsq.1,hsq.2]at this;exact this
     have hrg:∀w',Mod ↑ZW wr w'->w'.rangeAt b2 (o2+i*4) [.string (strOf r.name),↑dn,↑q,↑tg]:=fun w' hm j v hv=>(Vx hm lW).trans (by
      have hj:j<4:=(List.getElem?_eq_some_iff.1 hv).1;have h4:j=0\/j=1\/j=2\/j=3:=Z8;rcases h4 with rfl|rfl|rfl|rfl<;>(rw [<-hv];first|exact k0|exact k1|exact k2|exact k3))
     have hc0:∀w',Mod ↑ZW wr w'->w'.cell? ⟨b,o,none⟩=some ↑W0/\w'.cell? ⟨b,o+1,none⟩=some ↑MZ:=fun w' hm=>⟨(Vx (hM.trans hm) HL.out.2.2.2).trans HL.out.2.1,(Vx (hM.trans hm) HL.out.2.2.2).trans HL.out.2.2.1⟩
     have HQ:=Z5 hSQ (Z9 hrg (Z9 hc0 (Z9 hmx (Z9 hr (Z9 hL hM)))));have HD:=Z5 hd (Z9 y1 (Z9 y2 (Z9 y3 (Z9 y4 (Z9 y5 (Z9 y6 (Z9 y7 (Z9 y8 (Z9 y9 lW)))))))));have dnn:(0:Int)<(n:Int):=Z8;clear hsq hSQ hrg hc0 hmx hr hL hM hd y2 y3 y5 y6 y7 y8 y9 hbW hbH Zm Rq k0 k1 k2 k3 x1 x2 x3;go_upto_region 8 with(fail)
     go_cut [11] (fun v11 wx=>ak5 wr [.string (strOf r.name),↑dn,↑q,↑tg,.int .i64 (d.W:Int),.int .i64 (d.H:Int),↑g,↑Zd] v11 wx)
     case first=>
      refine WG [19,21,22] [0,1,2,3,4,5,6,7,8,9,10,11,12,13,14,15,16,17,18,20] (PTree.after [0,1,2,3,4,5,6,7,8,9,10,11,12,13,14,15,16,17,18] (.fork 19 21 (.seq 20 (.seq 21 (.seq 22 .nil))) (.seq 19 (.seq 20 (.seq 22 .nil))))) (fun w'=>Mod ↑ZW wr w') ZR ZR Xc ((Mod.refl _ wr).drew) ?_;refine Zh (v:=.slice (some ⟨b2,o2,none⟩) m c2) ?_;refine Zh (v:=↑i) ?_;refine Yu (v:=↑(ZC b2 (o2+i*4))) rfl rfl rfl (fun w' _=>by go_simp) (Yp ?_);refine TS rfl rfl _ _ rfl rfl b2 (o2+i*4) rfl [.string (strOf r.name),↑dn,↑q,↑tg] _ HQ.out.2.1 underlying38 rfl ZR (Yp ?_);refine Zh (v:=.slice (some ⟨b,o,none⟩) n c) ?_;refine Yu (v:=↑(ZC b o)) rfl rfl rfl (fun w' _=>by go_simp) (Yp ?_);refine Zh (v:=↑(ZC b o)) ?_;refine Zh (v:=↑(ZC b o)) ?_;refine Ww rfl rfl _ _ rfl rfl b o rfl ↑W0 _ (fun w' hS=>(HQ.out.2.2.1 w' hS).1) underlying3 rfl (Yp ?_);refine Zh (v:=.slice (some ⟨b,o,none⟩) n c) ?_;refine Yu (v:=↑(ZC b o)) rfl rfl rfl (fun w' _=>by go_simp) (Yp ?_);refine Zh (v:=↑(ZC b o)) ?_;refine Zh (v:=↑(ZC b (o+1))) ?_;refine Ww rfl rfl _ _ rfl rfl b (o+1) rfl ↑MZ _ (fun w' hS=>(HQ.out.2.2.1 w' hS).2) underlying3 rfl (Yp ?_);refine Zh (v:=↑g) ?_;refine Zh (v:=.slice (some ⟨b2,o2,none⟩) m c2) ?_;refine Zh (v:=↑i) ?_;refine Yu (v:=↑(ZC b2 (o2+i*4))) rfl rfl rfl (fun w' _=>by go_simp) (Yp ?_);refine TS rfl rfl _ _ rfl rfl b2 (o2+i*4) rfl [.string (strOf r.name),↑dn,↑q,↑tg] _ HQ.out.2.1 underlying38 rfl ZR (Yp ?_);have HM:=Z7 ((Mod.refl ↑ZW wr).drew);generalize wr.drew=w3 at HM ⊢;refine Vd rfl rfl (fun K hK=>?_) (fun K hK=>?_)
      ·go_simp;refine YX (HQ.out.1 w3) fun w4 Xl=>?_;have gJ:=Z7 (HM.out.trans Xl);clear Xl;dsimp only [];refine hK _ _ gJ.out ?_;clear hK K;refine Yu (v:=.agg #[.string (strOf r.name),↑dn,↑q,↑tg,.int .i64 (d.W:Int),.int .i64 (d.H:Int),↑g,↑Zd]) rfl rfl rfl (fun _ _=>by kernel_rfl) (Yp ?_);refine YO rfl rfl (fun K hK=>?_);go_simp;have Ut:=Zn w4 46 ↑EZ;have UR:Mod ↑ZW w4 (w4.alloc (.cells ↑EZ 46)):=(Mod.refl _ w4).alloc _;have xk:=gJ.out.size;obtain⟨mb,emb⟩:=ZL (w4.heap.size);rw [<-emb]at Ut xk ⊢;clear emb;generalize w4.alloc (.cells ↑EZ 46)=w5 at Ut UR ⊢;refine hK _ _ (gJ.out.trans UR) ?_;clear hK K;refine Wm rfl rfl (fun K hK=>?_);rw [if_pos (by rfl)];refine wp_store_row 46 (.tmp 11) (.tmp 67) rfl mb [.string (strOf r.name),↑dn,↑q,↑tg,.int .i64 (d.W:Int),.int .i64 (d.H:Int),↑g,↑Zd] rfl rfl 46 [.string ⟨#[]⟩,↑Z0,↑Z0,↑Z0,↑Z0,↑Z0,↑Z0,↑Zd] Ut rfl ZR ZR (fun LM Tw Xk=>?_);go_simp;refine hK _ _ ?_;clear hK K;refine XC ?_;have HF:=Z5 xk (Z9 Tw ((gJ.out.trans UR).into Xk (fun i e=>.inr (by have e2:i=mb:=e;omega))));clear xk Tw Xk Ut UR;go_wp2_with fail;go_meet;exact⟨mb,rfl,HF.out.1,HF.out.2.1,HF.out.2.2⟩
      ·go_simp;have Ut:=Zn w3 46 ↑EZ;have UR:Mod ↑ZW w3 (w3.alloc (.cells ↑EZ 46)):=(Mod.refl _ w3).alloc _;have xk:=HM.out.size;obtain⟨mb,emb⟩:=ZL (w3.heap.size);rw [<-emb]at Ut xk ⊢;clear emb;generalize w3.alloc (.cells ↑EZ 46)=w4 at Ut UR ⊢;refine hK _ _ (HM.out.trans UR) ?_;clear hK K;refine YO rfl rfl (fun K hK=>?_);go_simp;refine YX (HQ.out.1 w4) fun w5 Xl=>?_;have ET:=Ut.keep Xl (fun h=>h);have Xt:=HM.out.trans (UR.trans Xl);clear Xl Ut UR;dsimp only [];refine hK _ _ Xt ?_;clear hK K;refine Yu (v:=.agg #[.string (strOf r.name),↑dn,↑q,↑tg,.int .i64 (d.W:Int),.int .i64 (d.H:Int),↑g,↑Zd]) rfl rfl rfl (fun _ _=>by kernel_rfl) (Yp ?_);refine Wm rfl rfl (fun K hK=>?_);rw [if_pos (by rfl)];refine wp_store_row 46 (.tmp 11) (.tmp 67) rfl mb [.string (strOf r.name),↑dn,↑q,↑tg,.int .i64 (d.W:Int),.int .i64 (d.H:Int),↑g,↑Zd] rfl rfl 46 [.string ⟨#[]⟩,↑Z0,↑Z0,↑Z0,↑Z0,↑Z0,↑Z0,↑Zd] ET rfl ZR ZR (fun LM Tw Xk=>?_);go_simp;refine hK _ _ ?_;clear hK K;refine XC ?_;have HF:=Z5 xk (Z9 Tw (Xt.into Xk (fun i e=>.inr (by have e2:i=mb:=e;omega))));clear xk Tw Xk ET Xt;go_wp2_with fail;go_meet;exact⟨mb,rfl,HF.out.1,HF.out.2.1,HF.out.2.2⟩
     case rest=>
      obtain⟨mb,rfl,aiD,ag,Ti⟩:=hcut;rename World=>w3
      obtain⟨bc,bf⟩:=ag.both;have q2:w3.cell? ⟨b2,o2+i*4+2,none⟩=some ↑q:=HQ.out.2.1 w3 Ti 2 _ rfl;have q3:w3.cell? ⟨b2,o2+i*4+3,none⟩=some ↑tg:=HQ.out.2.1 w3 Ti 3 _ rfl;have H3:=Z5 aiD (Z9 ag Ti);clear aiD ag Ti;go_upto_region 9 with(fail)
      refine YK [12] [] [0,1,2,3,4,5,6,7,8,9,10,11,12,13,14,15,16,17] ZR ZR Xc ?_
      (iterate 12 (refine Yd ?_))
      refine XJ rfl rfl (fun K hK=>?_);go_simp;refine(aeo _ (d.W:Int) (d.H:Int) (g:Int) (q:Int) (tg:Int)).mono ?_;intro e w4 Ii;obtain⟨eg,rfl,heb,hel,Xl⟩:=acU Ii (by have h:=HD.out.2.2.2.2.2.2.2.1;rw [<-HD.out.1]at h;exact h) (by unfold Rp;have h1:=HD.out.2.2.1;have h2:=HD.out.2.2.2.1;simp;omega);clear Ii bc bf q2 q3;have Ig:=((Mod.refl ↑ZW w3).drew).trans Xl;have akC:w3.heap.size<=eg:=ZQ ((Mod.refl ↑ZW w3).drew).size hel;have aI:Nh wr ⟨mb,eg,w4.heap.size,⟨r.name,(dn:Int),(q:Int),(tg:Int)⟩,g,tg,d⟩ ↑Zd [] q 0 KZ w4:=by
       have h1:=H3.out.1;have h2:=H3.out.2.1.lt;have h3:=H3.out.2.2.size;have h4:=Ig.size;exact⟨⟨h1,show mb<w4.heap.size by omega,show wr.heap.size<=eg by omega,heb.lt,show mb≠eg by omega⟩,ZY _,H3.out.2.1.keep Ig (fun h=>h),⟨Q3,rfl,heb,fun h=>absurd rfl h⟩,⟨[],World.ownsRow_nil _ _ _ _,.nil⟩,H3.out.2.2.trans Ig⟩
      dsimp only [];refine hK _ _ ?_;clear hK K
      (iterate 5 (refine Yd ?_))
      refine XD ?_;obtain⟨Z,hZ⟩:=ZL (w4.heap.size);rw [<-hZ]at aI;obtain⟨Xa,wZ⟩:=ZL (fs.map (fun f=>Tu (Vy fs) f.ZJ dn));have Md:Xa.length=n:=by rw [wZ,Zg];exact HC.out.2.2.2.2.2.1
      have HR0:=Z7 aI;have HFP:=Z5 wZ Md;clear aI Ig Xl hel akC heb hZ wZ Md;go_wp2_with fail;go_loopw [14] (ahe wr ⟨mb,eg,Z,⟨r.name,(dn:Int),(q:Int),(tg:Int)⟩,g,tg,d⟩ q Xa n) (fun v _=>n-(intOf v).toNat)
      case atStart=>exact⟨0,↑Zd,Z8,rfl,by rw [aaI,abK,Nat.zero_mod];exact HR0.out⟩
      case round=>
       clear HR0;rename World=>wk
       obtain⟨k,v,hk,rfl,pG⟩:=hrel;by_cases mE:k<n
       ·have aiJ:k<fs.length:=by rw [HC.out.2.2.2.2.2.1];exact mE
        obtain⟨b',o',hA',hbl,vL,JP⟩:=(H0.out.1.quiet (HQ.out.2.2.2.2.2.2.trans pG.mod)).at_ k mE;injection hA' with hA';injection hA' with z1 z2;subst z1 z2;have mg:=HC.out.2.2.1 k aiJ;obtain⟨f,hf⟩:=ZL (fs.getD k YL);rw [<-hf]at vL JP mg;have e0:wk.cell? ⟨b,o+k*9,none⟩=some (.int .i64 f.W0):=vL 0 _ rfl;have e1:=vL 1 _ rfl;have e2:=vL 2 _ rfl;have e3:=vL 3 _ rfl;have e4:=vL 4 _ rfl;have e5:=vL 5 _ rfl;have e6:=vL 6 _ rfl;have e7:=vL 7 _ rfl;have e8:=vL 8 _ rfl;have dk:=Zb ((k:Int)<(n:Int));have HK:=Z5 pG (Z9 hf (Z9 JP mg));clear pG hf JP mg vL hbl aiJ;go_upto_region 14 with(fail)
        have hbN:=Zn wk 58 f.cells.toArray;unfold Vh at hbN;have hmN:Mod ↑ZW wk (wk.alloc (.cells #[.int .i64 f.W0,.int .i64 f.H0,.slice f.A0 f.n0 f.c0,.int .i64 f.W1,.int .i64 f.H1,.slice f.A1 f.n1 f.c1,.int .i64 f.W2,.int .i64 f.H2,.slice f.A2 f.n2 f.c2] 58)):=(Mod.refl _ wk).alloc _
        have Dz:∀ad,(f.A0=some ad\/f.A1=some ad\/f.A2=some ad)->ad.block≠wk.heap.size/\(ad.block<w.heap.size\/wk.heap.size<=ad.block):=fun ad e=>by
         obtain⟨_,_,_,_,_,xh⟩:=H0.out.1.at_ k mE;rw [<-HK.out.2.1]at xh;exact⟨Nat.ne_of_lt (Ya.low HC.out.2.1 HK.out.2.2.2 HK.out.2.2.1 ad e),.inl (Ya.low HC.out.2.1 HK.out.2.2.2 xh ad e)⟩
        obtain⟨fb,Px⟩:=ZL (wk.heap.size);have iF:wk.heap.size<=fb:=Z8;rw [<-Px]at hbN Dz ⊢;have tX:=Z7 iF;clear Px iF e0 e1 e2 e3 e4 e5 e6 e7 e8;generalize wk.alloc (.cells #[.int .i64 f.W0,.int .i64 f.H0,.slice f.A0 f.n0 f.c0,.int .i64 f.W1,.int .i64 f.H1,.slice f.A1 f.n1 f.c1,.int .i64 f.W2,.int .i64 f.H2,.slice f.A2 f.n2 f.c2] 58)=w5 at hbN hmN ⊢;have H5:=Z5 hbN (Z9 hmN Dz);clear hbN hmN Dz;go_wp2_with fail;go_loopw [16] (ahf w wk fb dn (Vy fs) f.ZJ) (fun v _=>dn-(intOf v).toNat)
        case atStart=>exact⟨0,f,XI _,rfl,H5.out.1,HK.out.2.2.1.quiet H5.out.2.1,HK.out.2.2.2,rfl,fun ad e=>⟨(H5.out.2.2 ad e).1,(H5.out.2.2 ad e).2.imp id (fun z=>ZQ tX.out z)⟩,H5.out.2.1⟩
        case round=>
         clear H5;rename World=>wq
         obtain⟨m',fx,hm',rfl,Px,sD,iG,iH,agk,hmq⟩:=hrel;have l1:wq.cell? ⟨b2,o2+i*4+1,none⟩=some ↑dn:=HQ.out.2.1 wq (HK.out.1.mod.trans hmq) 1 _ rfl;unfold Vh at Px;obtain⟨fc,ff⟩:=Px.both;have fl:=Px.lt;by_cases Rc:m'<dn
         ·have dm:=Zb ((m':Int)<(dn:Int));have aiU:=HD.out.2.2.2.2.2.1 m' Z8;have agp:=HD.out.2.2.2.2.2.1 (m'+1) Z8;have QJ:=afY wq ((Vy fs).Xu m') aiU agp fx iG sD;unfold Vh at QJ;have HX:=Z5 Px (Z9 iH (Z9 hmq (Z9 QJ agp)));clear Px sD iG iH agk hmq QJ aiU agp;go_wp2_with fail;refine HX.out.2.2.2.1.mono ?_;rintro e w6 ⟨fy,rfl,aib,hyg,hyp,hyo,Xt⟩;have agm:=HX.out.1.keep Xt (fun h=>h);clear fc ff l1;obtain⟨fc,ff⟩:=agm.both;have HY:=Z5 agm (Z9 aib (Z9 hyg (Z9 hyp (Z9 hyo Xt))));clear agm aib hyg hyp hyo Xt;go_wp2_with fail;obtain⟨b9,m9⟩:=Qg HY.out.1 ↑fy.W0 ↑fy.H0 (.slice fy.A0 fy.n0 fy.c0) ↑fy.W1 ↑fy.H1 (.slice fy.A1 fy.n1 fy.c1) ↑fy.W2 ↑fy.H2 (.slice fy.A2 fy.n2 fy.c2);have Dz:∀ad,(fy.A0=some ad\/fy.A1=some ad\/fy.A2=some ad)->ad.block≠fb/\(ad.block<w.heap.size\/wk.heap.size<=ad.block):=fun ad e=>by have h1:=HY.out.2.2.2.2.1 ad e;have h2:=HX.out.2.2.1.size;exact⟨Z8,.inr Z8⟩
          refine⟨⟨m'+1,fy,Z8,rfl,b9,HY.out.2.1.mod m9 (fun ad e=>(Dz ad e).1),HY.out.2.2.1,?_,Dz,(HX.out.2.2.1.trans HY.out.2.2.2.2.2).into m9 (fun z e=>.inr (by have e2:z=fb:=e;have:=tX.out;omega))⟩,Rb Rc⟩;rw [HY.out.2.2.2.1,HX.out.2.1];rfl
         ·obtain rfl:dn=m':=Z8;have dm:=Za ((dn:Int)<(dn:Int));have hgd:fx.UG d=true:=by rw [HD.out.1];exact iG
          have jN:fx.ZJ=Xa.getD k KZ:=by
           rw [HFP.out.1,xO (by rw [HC.out.2.2.2.2.2.1];exact mE),<-HK.out.2.1];exact iH
          have hrq:=HK.out.1.quiet hmq;obtain⟨rm,eZ⟩:=ZL (k % g);obtain⟨kd,yz⟩:=ZL (k/g);have hg1:1<=g/\g<=64:=HD.out.2.2.2.2.1;have gne:¬g=0:=Z8;have t2:(k:Int) % (g:Int)=(rm:Int):=by rw [eZ];rfl
          have t1:(k:Int).tmod (g:Int)=(rm:Int):=by rw [Int.tmod_eq_emod_of_nonneg Z8];exact t2
          have u2:(k:Int)/(g:Int)=(kd:Int):=by rw [yz];rfl
          have u1:(k:Int).tdiv (g:Int)=(kd:Int):=by rw [ZK Z8];exact u2
          have Rq:rm<=63:=by have:=VV k (show g > 0 by omega);omega
          have hkb:kd<=1024:=by have:=Nat.div_le_self k g;omega
          have Jh:(SK d g tg q Xa k).length<=1026:=by
           unfold SK;rw [YW,P6,<-yz];split<;>simp<;>omega
          have HS:=Z5 hrq (Z9 Px (Z9 sD (Z9 agk (Z9 hmq Jh))));have HP:=Z5 hgd (Z9 jN (Z9 eZ (Z9 yz (Z9 u1 u2))));clear hrq Px sD agk hmq Jh hgd jN eZ yz u1 u2 iG iH;go_upto_region 18 with(fail)
          clear l1;by_cases hz:rm=0
          ·have dz:((rm:Int) == 0)=true:=by simp;omega
           go_upto_region 19 with(fail)
           have HZ:=Z7 hz;clear t1 t2 dz hz;obtain⟨nl,Gn⟩:=ZL ((SK d g tg q Xa k).length);obtain⟨Av,cv,hv⟩:=HS.out.1.TD.shape;have hsg:=HS.out.1.TD;have zD:=HS.out.1.box;rw [<-Gn]at hv;subst hv;obtain⟨xs,hrow,Hy⟩:=hsg;unfold jD.cells at zD;rw [<-Gn]at hrow;have yD:nl<=1026:=by rw [Gn];exact HS.out.2.2.2.2.2
           have hzl:=HS.out.1.zl;have HN:=Z5 Gn (Z9 Hy (Z9 hrow (Z9 zD hzl)));clear Gn Hy hrow zD hzl fc ff fl;obtain⟨bc,bf⟩:=HN.out.2.2.2.1.both;go_wp2_with (at_builtin;refine Hid.out ?_)
           refine Z7 ?_;refine OD wq rfl (.tmp 113) (.tmp 115) 44 50 rfl underlying44 (.agg #[↑Zd,↑Zd]) 2 48 acQ rfl ZU Z (.slice Av nl cv) nl xs [↑Zd,↑Zd] rfl (by intro u hu;simp only [WH,Xp,or_false]at hu;rcases hu with rfl|rfl<;>rfl) wq.heap.size rfl rfl rfl HN.out.2.2.1 HN.out.2.2.2.2 (by unfold maxLen;omega) Z8 ?_;intro v' w8 y1 y2 y3 y4;obtain⟨As,cs2,rfl⟩:=ZG y1;have y2q:Mod (fun j=>(Xi Av nl cv).ownBlock=some j) wq w8:=y2;clear bc bf;have hop:=Nh.open_ HS.out.1 HN.out.2.1 (by rw [<-HN.out.1];exact y1) y2q y4;have hlt:=HS.out.1.TD.lt;have Fy:=HS.out.1.ok.m2;have hz4:=HK.out.1.zl;have iF:=tX.out;have hwk:∀z,(Xi Av nl cv).ownBlock=some z->Z<=z/\z<wk.heap.size:=HK.out.1.TD.lt;have hw0:w.heap.size<=wr.heap.size:=HQ.out.2.2.2.2.2.2.size;have Y6:=HS.out.1.ok.m1;have hb8:ZI w8 mb 46 #[.string (strOf r.name),↑dn,↑q,↑tg,.int .i64 (d.W:Int),.int .i64 (d.H:Int),↑g,.slice Av nl cv]:=HN.out.2.2.2.1.keep y2q (fun e=>by have:=(hwk _ e).1;have e3:mb<Z:=Fy;omega);have KS:Mod (·=mb) w8 (w8.setCell ⟨mb,7,none⟩ (.slice As (nl+1) cs2)):=(Mod.refl (·=mb) w8).setCell (p:=⟨mb,7,none⟩) (.inl rfl) _;have aiP:=(HS.out.2.1.keep y2q (fun e=>by have:=(hwk _ e).2;omega)).keep KS (fun e=>by have e3:mb<Z:=Fy;have e4:Z<=wk.heap.size:=hz4;omega);have Du:fx.In (w8.setCell ⟨mb,7,none⟩ (.slice As (nl+1) cs2)):=(HS.out.2.2.1.mod y2q (fun ad e e2=>by have h1:=hwk _ e2;have e3:mb<Z:=Fy;have e4:wr.heap.size<=mb:=Y6;rcases(HS.out.2.2.2.1 ad e).2 with h|h<;>omega)).mod KS (fun ad e e2=>by have e5:ad.block=mb:=e2;have e3:mb<Z:=Fy;have e4:wr.heap.size<=mb:=Y6;have e6:Z<=wk.heap.size:=hz4;rcases(HS.out.2.2.2.1 ad e).2 with h|h<;>omega);have hst:Nh wr ⟨mb,eg,Z,⟨r.name,(dn:Int),(q:Int),(tg:Int)⟩,g,tg,d⟩ (.slice As (nl+1) cs2) (Iz d g tg q Xa kd++[V8 d g tg q Xa kd rm]) (Xr d g tg q Xa k).1 (k % g) (Xr d g tg q Xa k).2 (w8.setCell ⟨mb,7,none⟩ (.slice As (nl+1) cs2)):=by
            have h1:k % g=0:=by rw [<-HP.out.2.2.1];exact HZ.out
            have h2:=aaJ (d:=d) (tg:=tg) (q:=q) (fs:=Xa) h1;rw [<-HP.out.2.2.1,<-HP.out.2.2.2.1]at h2;rw [<-h2];exact hop
           obtain⟨bc,bf⟩:=hb8.both;have bl:=hb8.lt;have HX:=Z5 hst (Z9 aiP Du);clear y1 y2 y3 y4 y2q hop hlt Fy hz4 iF hwk hw0 Y6 hb8 KS aiP Du hst;go_upto_region 20 with(fail)
           clear bc bf bl;clear HN HZ;obtain⟨vx,Im⟩:=ZL (Xi As (nl+1) cs2);rw [<-Im]at HX ⊢;clear Im;generalize w8.setCell ⟨mb,7,none⟩ vx=wx at HX ⊢;obtain⟨fc,ff⟩:=HX.out.2.1.both;have mo:=HX.out.2.2;have lZ:=HX.out.1.enc;have mV:(Xr d g tg q Xa k).1<=31:=zk HD.out.2.2.1 k;have EU:k % g<g:=VV k Z8;have jI:d.Ok:=by have h:=HD.out.2.2.2.2.2.1 dn (ZY _);rw [<-HD.out.1]at h;exact h
           have RQ:seqRight (d.W:Int) (d.H:Int) (g:Int)=true:=by have h:=HD.out.2.2.2.2.2.2.2.1;rw [<-HD.out.1]at h;exact h
           have vI:d.W<=64:=by rw [HD.out.1];exact HD.out.2.2.2.2.2.2.2.2.1
           have qj:d.H<=64:=by rw [HD.out.1];exact HD.out.2.2.2.2.2.2.2.2.2.1
           have QJ:=BR lZ jI vI qj hg1 RQ mV HD.out.2.2.2.1 EU fx mo;unfold Vh at QJ;have HF:=Z5 QJ jI;clear QJ mo lZ mV EU jI RQ vI qj;go_wp2_with fail;refine HF.out.1.mono ?_;intro e w9 Ii;rcases Ii with⟨hb0,_⟩|⟨_,v17,z0,j0,z1,j1,z2,j2,rfl,gZ,hFr,ic,VK⟩
           ·exact absurd (hb0.symm.trans HP.out.1) ZU
           have hr:Uy d fx.ZJ (Xr d g tg q Xa k).2 (k % g) (Xr d g tg q Xa k).1=U0 d g tg q Xa k:=by unfold U0;rw [HP.out.2.1]
           rw [hr]at gZ hFr ic;rw [Gt hg1.1]at ic;have hrx:=HX.out.1.rJ VK (q':=(Xr d g tg q Xa (k+1)).1) (bN:=(k+1) % g) (ug:=(Xr d g tg q Xa (k+1)).2) ic;obtain⟨An,cn,nI⟩:=ZG gZ;obtain⟨nn,Na⟩:=ZL ((U0 d g tg q Xa k).1.length);rw [<-Na]at nI;subst nI;have nM:=VK.size;have hzx:=HX.out.1.zl;have H9:=Z5 gZ (Z9 hFr (Z9 hrx (Z9 Na (Z9 nM hzx))));clear hr gZ hFr ic VK hrx Na nM hzx HF fc ff;unfold V9;go_upto_region 21 with(fail)
           have zB:=Zn w9 58 #[.int .i64 (d.W:Int),.int .i64 (d.H:Int),↑(ZZ z0 d.nY j0),.int .i64 (d.W2:Int),.int .i64 (d.H2:Int),↑(ZZ z1 d.nC j1),.int .i64 (d.W2:Int),.int .i64 (d.H2:Int),↑(ZZ z2 d.nC j2)];have TR:Mod ↑ZW w9 (w9.alloc (.cells #[.int .i64 (d.W:Int),.int .i64 (d.H:Int),↑(ZZ z0 d.nY j0),.int .i64 (d.W2:Int),.int .i64 (d.H2:Int),↑(ZZ z1 d.nC j1),.int .i64 (d.W2:Int),.int .i64 (d.H2:Int),↑(ZZ z2 d.nC j2)] 58)):=(Mod.refl _ w9).alloc _;obtain⟨gb,hgb⟩:=ZL (w9.heap.size);rw [<-hgb]at zB ⊢;clear hgb;generalize w9.alloc (.cells #[.int .i64 (d.W:Int),.int .i64 (d.H:Int),↑(ZZ z0 d.nY j0),.int .i64 (d.W2:Int),.int .i64 (d.H2:Int),↑(ZZ z1 d.nC j1),.int .i64 (d.W2:Int),.int .i64 (d.H2:Int),↑(ZZ z2 d.nC j2)] 58)=Le at zB TR ⊢;have Ij:=H9.out.2.2.1.quiet TR;obtain⟨sg,c8,sv,fv,Im,x0,x1,iL,hlf,cs,hcb,hcs⟩:=DK Ij.TD;rw [P6]at Im x0 x1 hcs;subst Im;have Dp:=Ij.box;unfold jD.cells at Dp;obtain⟨tO,pF,hcA⟩:=iL;obtain⟨tQ,iX,hcB⟩:=hlf;rw [Zg,Sm]at pF iX;obtain⟨AA,cA,rfl,_⟩:=pF.shape;obtain⟨AB,cB,rfl,_⟩:=iX.shape;have PI:=Z5 Ij (Z9 zB (Z9 TR (Z9 (Z9 pF hcA) (Z9 (Z9 iX hcB) (Z9 (Z9 x0 x1) (Z9 (Z9 hcb hcs) Dp))))));clear Ij zB TR pF hcA iX hcB x0 x1 hcb hcs Dp;have u1:=HP.out.2.2.2.2.1;have u2:=HP.out.2.2.2.2.2;have yA:(kd:Int)<((kd+1:Nat):Int):=Z8
           have ni:∀w',Mod ↑ZW Le w'->w'.rangeAt sg (kd*2) [.slice AA rm cA,.slice AB rm cB]:=fun w' hm j v hv=>(Vx hm PI.out.2.2.2.2.2.2.1.1.lt).trans (by
            have hj:j<2:=(List.getElem?_eq_some_iff.1 hv).1;have h2:j=0\/j=1:=Z8;rcases h2 with rfl|rfl<;>(rw [<-hv];first|exact PI.out.2.2.2.2.2.1.1|exact PI.out.2.2.2.2.2.1.2))
           refine WG [7,8] [0,1,2,3,4,5,6] (PTree.after [0,1,2,3,4,5,6,7,8] .nil) (fun w'=>Mod ↑ZW Le w') ZR ZR Xc ((Mod.refl _ Le).drew) ?_;refine Zh (v:=↑(ZC mb 7)) ?_;refine Ww rfl rfl _ _ rfl rfl mb 7 rfl ↑(ZZ sg (kd+1) c8) _ (fun w' hS=>(PI.out.2.2.2.2.2.2.2.keep hS (fun h=>h)).cell 7) underlying44 rfl (Yp ?_);refine Zh (v:=↑k) ?_;refine Zh (v:=↑g) ?_;refine Yu (v:=↑kd) rfl rfl rfl (fun w' _=>by go_simp;exact Z4 _ ⟨Z8,Z8⟩) (Yp ?_);refine Yu (v:=↑(ZC sg (kd*2))) rfl rfl rfl (fun w' _=>by go_simp;exact fun h=>absurd h Z8) (Yp ?_);refine TS rfl rfl _ _ rfl rfl sg (kd*2) rfl [.slice AA rm cA,.slice AB rm cB] _ ni underlying50 rfl ZR (Yp ?_);have Rc:Mod ↑ZW Le Le.drew:=(Mod.refl _ Le).drew;generalize Le.drew=wd at Rc ⊢;refine YO rfl rfl (fun K hK=>?_);go_simp;have Tw:=Zn wd 50 #[↑Zd,↑Zd];have Xk:Mod ↑ZW Le (wd.alloc (.cells #[↑Zd,↑Zd] 50)):=Rc.alloc _;have mF:Le.heap.size<=wd.heap.size:=Rc.size;obtain⟨tb,jP⟩:=ZL (wd.heap.size);rw [<-jP]at Tw mF ⊢;clear jP Rc;generalize wd.alloc (.cells #[↑Zd,↑Zd] 50)=LM at Tw Xk ⊢;refine hK _ _ Xk ?_;clear hK K;refine Wm rfl rfl (fun K hK=>?_);rw [if_pos (by rfl)];refine wp_store_row 50 (.tmp 20) (.tmp 131) rfl tb [.slice AA rm cA,.slice AB rm cB] rfl rfl 50 [↑Zd,↑Zd] Tw rfl ZR ZR (fun Ew Dn Tx=>?_);go_simp;refine hK _ _ ?_;clear hK K;refine XC ?_;have xu:Mod ↑ZW Le Ew:=Xk.into Tx (fun z e=>.inr (by have e2:z=tb:=e;omega));have H12:=Z5 Dn xu;clear Tw Xk mF Dn Tx xu ni;go_upto_region 22 with(fail)
           refine LP [5,8,10,11,12,15,17,18,21] [0,1,2,3,4,6,7,9,13,14,16] (PTrP.after [0,1,2,3,4,6,7,9,13,14,16] (.pool JQ (.seq 19 (.seq 20 (.seq 21 .nil))))) (fun w'=>Mod ↑ZW Ew.drew w') ZR ZR Xc (Mod.refl _ _) ?_;have Qz:Mod ↑ZW Le Ew.drew:=H12.out.2.drew;have uw:=H12.out.1.drew;have xe:=PI.out.2.1.keep Qz (fun h=>h);have wY:=PI.out.2.2.2.2.2.2.2.keep Qz (fun h=>h);generalize Ew.drew=Ex at Qz uw xe wY ⊢;refine TC (v:=↑(ZC mb 7)) ?_;refine OI rfl rfl _ _ rfl rfl mb 7 rfl ↑(ZZ sg (kd+1) c8) _ (fun w' hS=>(wY.keep hS (fun h=>h)).cell 7) underlying44 rfl (Yp ?_);refine TC (v:=↑k) ?_;refine TC (v:=↑g) ?_;refine OA (v:=↑kd) rfl rfl rfl (fun w' _=>by go_simp;exact Z4 _ ⟨Z8,Z8⟩) (Yp ?_);refine TC (v:=↑(ZC tb 0)) ?_;refine OI rfl rfl _ _ rfl rfl tb 0 rfl (.slice AA rm cA) _ (fun w' hS=>(uw.keep hS (fun h=>h)).cell 0) underlying47 rfl (Yp ?_);refine TC (v:=.slice An nn cn) ?_;refine TC (v:=↑(ZC tb 1)) ?_;refine OI rfl rfl _ _ rfl rfl tb 1 rfl (.slice AB rm cB) _ (fun w' hS=>(uw.keep hS (fun h=>h)).cell 1) underlying29 rfl (Yp ?_);refine Ea rfl rfl _ _ rfl rfl gb 0 rfl [.int .i64 (d.W:Int),.int .i64 (d.H:Int),↑(ZZ z0 d.nY j0),.int .i64 (d.W2:Int),.int .i64 (d.H2:Int),↑(ZZ z1 d.nC j1),.int .i64 (d.W2:Int),.int .i64 (d.H2:Int),↑(ZZ z2 d.nC j2)] _ (fun w' hS=>(xe.keep hS (fun h=>h)).range 0 _ rfl) underlying58 rfl ZR (Yp ?_);have aJ:=fun w' (hm:Mod ↑ZW Ex w')=>((PI.out.2.2.2.1.1.quiet (Qz.trans hm)).jl)
           have aK:=fun w' (hm:Mod ↑ZW Ex w')=>((PI.out.2.2.2.2.1.1.quiet (Qz.trans hm)).jl)
           refine xZ (t5:=137) (t8:=140) (t10:=142) (t11:=143) (t12:=144) (t15:=147) (t17:=149) (t18:=150) (vk:=139) (qM:=141) (vw:=146) (qN:=148) rfl rfl rfl rfl rfl rfl rfl rfl rfl rfl rfl rfl rfl rfl rfl rfl ZR ZR ZR ZR rfl rfl rfl rfl (fun w' hm=>(aJ w' hm).1) (fun w' hm=>(aK w' hm).1) (aJ Ex (Mod.refl _ _)).2 (aK Ex (Mod.refl _ _)).2 (Ei PI.out.2.2.2.1.2) (Fq PI.out.2.2.2.2.1.2) (by intro u hu;simp only [WH,Xp,or_false]at hu;rcases hu with rfl|rfl|rfl|rfl|rfl|rfl|rfl|rfl|rfl<;>rfl) Z8 Z8 ?_;intro v5 v8 v10 v11 v12 v15 v17 v18 Cx QA DD DF _;obtain⟨vB,c11,rfl⟩:=ZG DD;obtain⟨gG,c18,rfl⟩:=ZG DF;have hk3:(kd:Int)<(kd:Int)+1:=Z8;have Dq:=PI.out.2.2.2.2.2.2.1.1.keep (Qz.trans QA) (fun h=>h)
           have hth:Cx.there sg (kd*2) 2:=fun j hj=>by
            have h1:=PI.out.2.2.2.2.2.2.1.2;rw [Dq.cell (kd*2+j),Array.getElem?_eq_getElem Z8];exact⟨rfl,Dq.both.2 _⟩
           have xD:=PI.out.1.quiet (Qz.trans QA);have bF:Z<=wx.heap.size:=H9.out.2.2.2.2.2;have aL:Z<=sg/\sg<wx.heap.size:=HX.out.1.TD.lt sg rfl;have aX:wx.heap.size<=Ex.heap.size:=by
            have h1:=H9.out.2.2.2.2.1;have h2:=PI.out.2.2.1.size;have h3:=Qz.size;omega
           have lJ:∀z,wx.heap.size<=z->FM Z ↑(ZZ sg (kd+1) c8) z:=fun z hz=>⟨Z8,fun e=>by simp only [YQ,Option.some.injEq]at e;omega⟩
           have uH:Mod ↑ZW w9 Cx:=PI.out.2.2.1.trans (Qz.trans QA);have Jh:OQ Cx (FM Z ↑(ZZ sg (kd+1) c8)) d (V8 d g tg q Xa kd rm++[U0 d g tg q Xa k]) [.slice vB (rm+1) c11,.slice gG (rm+1) c18]:=by
            have la:((V8 d g tg q Xa kd rm).map Sv).length=rm:=by rw [Zg,Sm]
            have lb:((V8 d g tg q Xa kd rm).map Rx).length=rm:=by rw [Zg,Sm]
            have mY:PM Cx (FM Z ↑(ZZ sg (kd+1) c8)) (U0 d g tg q Xa k).1 [.slice An nn cn]:=⟨_,rfl,Nb.Oy (XT H9.out.1 uH (fun _ _ h=>h)) (fun z hz=>lJ z (X4 H9.out.1 z hz).1)⟩
            have agl:Wd Cx (FM Z ↑(ZZ sg (kd+1) c8)) d (U0 d g tg q Xa k).2 [.int .i64 (d.W:Int),.int .i64 (d.H:Int),↑(ZZ z0 d.nY j0),.int .i64 (d.W2:Int),.int .i64 (d.H2:Int),↑(ZZ z1 d.nC j1),.int .i64 (d.W2:Int),.int .i64 (d.H2:Int),↑(ZZ z2 d.nC j2)]:=dL (H9.out.2.1.quiet uH) lJ;have LA:=Vn (l:=(V8 d g tg q Xa kd rm).map Sv) (x:=(U0 d g tg q Xa k).1) (by rw [la];exact DD) (PI.out.2.2.2.1.2.mono (fun _ _ _ z=>z.turn (Qz.trans QA) (fun _ _ _ h=>h) (fun _ h _=>h))) mY rfl;have LB:=Vn (l:=(V8 d g tg q Xa kd rm).map Rx) (x:=(U0 d g tg q Xa k).2) (by rw [lb];exact DF) (PI.out.2.2.2.2.1.2.mono (fun _ _ _ z=>z.turn (Qz.trans QA) (fun _ _ _ h=>h) (fun _ h _=>h))) agl rfl;refine⟨_,_,rfl,?_,?_⟩
            ·rw [YP];exact LA.RU (fun z hz=>lJ z (by have:=(LA.lt z hz).1;omega))
            ·rw [YP];exact LB.RU (fun z hz=>lJ z (by have:=(LB.lt z hz).1;omega))
           have Ie:=Nh.laid xD Jh;rw [P6]at Ie;have uK:=FL (d:=d) (G:=g) (tg:=tg) (q:=q) (fs:=Xa) (m:=k) hg1.1;rw [<-HP.out.2.2.1,<-HP.out.2.2.2.1]at uK;rw [uK]at Ie;have HLD:=Z7 Ie;clear Ie uK Jh uH lJ aX aL bF xD DD DF aJ aK Dq;refine NP rfl rfl (fun K hK=>?_);go_simp;refine hK _ ?_;clear hK K;refine NP rfl rfl (fun K hK=>?_);go_simp
           try rw [if_pos hk3]
           refine hK _ ?_;clear hK K;refine D9 rfl rfl (fun K hK=>?_);rw [if_pos (by rfl)];refine wp_store_mid 50 (.tmp 152) (.tmp 151) rfl sg (kd*2) #[.slice vB (rm+1) c11,.slice gG (rm+1) c18] rfl rfl hth ZR ZR ?_;refine hK _ _ ?_;clear hK K hth;refine D8 ?_;have jY:Hid (Nh wr ⟨mb,eg,Z,⟨r.name,(dn:Int),(q:Int),(tg:Int)⟩,g,tg,d⟩ ↑(ZZ sg (kd+1) c8) (SK d g tg q Xa (k+1)) (Xr d g tg q Xa (k+1)).1 ((k+1) % g) (Xr d g tg q Xa (k+1)).2 (Cx.setCells sg (kd*2) [.slice vB (rm+1) c11,.slice gG (rm+1) c18])):=HLD;clear HLD;generalize Cx.setCells sg (kd*2) [.slice vB (rm+1) c11,.slice gG (rm+1) c18]=jT at jY ⊢;go_wp2_with fail;refine⟨⟨k+1,_,Z8,rfl,jY.out⟩,Rb mE⟩
          ·have dz:((rm:Int) == 0)=false:=by simp;omega
           go_upto_region 20 with(fail)
           have hst:Nh wr ⟨mb,eg,Z,⟨r.name,(dn:Int),(q:Int),(tg:Int)⟩,g,tg,d⟩ v (Iz d g tg q Xa kd++[V8 d g tg q Xa kd rm]) (Xr d g tg q Xa k).1 (k % g) (Xr d g tg q Xa k).2 wq:=by
            have h2:=abX (d:=d) (tg:=tg) (q:=q) (fs:=Xa) (m:=k) (G:=g) (by rw [<-HP.out.2.2.1];exact hz);rw [<-HP.out.2.2.1,<-HP.out.2.2.2.1]at h2;rw [<-h2];exact HS.out.1
           have HX:=Z5 hst (Z9 HS.out.2.1 HS.out.2.2.1);clear hst t1 t2 dz hz fc ff fl;obtain⟨vx,Im⟩:=ZL (v);obtain⟨wx,hwx⟩:=ZL (wq);rw [<-Im,<-hwx]at HX;rw [<-hwx];clear Im hwx;obtain⟨fc,ff⟩:=HX.out.2.1.both;have mo:=HX.out.2.2;have lZ:=HX.out.1.enc;have mV:(Xr d g tg q Xa k).1<=31:=zk HD.out.2.2.1 k;have EU:k % g<g:=VV k Z8;have jI:d.Ok:=by have h:=HD.out.2.2.2.2.2.1 dn (ZY _);rw [<-HD.out.1]at h;exact h
           have RQ:seqRight (d.W:Int) (d.H:Int) (g:Int)=true:=by have h:=HD.out.2.2.2.2.2.2.2.1;rw [<-HD.out.1]at h;exact h
           have vI:d.W<=64:=by rw [HD.out.1];exact HD.out.2.2.2.2.2.2.2.2.1
           have qj:d.H<=64:=by rw [HD.out.1];exact HD.out.2.2.2.2.2.2.2.2.2.1
           have QJ:=BR lZ jI vI qj hg1 RQ mV HD.out.2.2.2.1 EU fx mo;unfold Vh at QJ;have HF:=Z5 QJ jI;clear QJ mo lZ mV EU jI RQ vI qj;go_wp2_with fail;refine HF.out.1.mono ?_;intro e w9 Ii;rcases Ii with⟨hb0,_⟩|⟨_,v17,z0,j0,z1,j1,z2,j2,rfl,gZ,hFr,ic,VK⟩
           ·exact absurd (hb0.symm.trans HP.out.1) ZU
           have hr:Uy d fx.ZJ (Xr d g tg q Xa k).2 (k % g) (Xr d g tg q Xa k).1=U0 d g tg q Xa k:=by unfold U0;rw [HP.out.2.1]
           rw [hr]at gZ hFr ic;rw [Gt hg1.1]at ic;have hrx:=HX.out.1.rJ VK (q':=(Xr d g tg q Xa (k+1)).1) (bN:=(k+1) % g) (ug:=(Xr d g tg q Xa (k+1)).2) ic;obtain⟨An,cn,nI⟩:=ZG gZ;obtain⟨nn,Na⟩:=ZL ((U0 d g tg q Xa k).1.length);rw [<-Na]at nI;subst nI;have nM:=VK.size;have hzx:=HX.out.1.zl;have H9:=Z5 gZ (Z9 hFr (Z9 hrx (Z9 Na (Z9 nM hzx))));clear hr gZ hFr ic VK hrx Na nM hzx HF fc ff;unfold V9;go_upto_region 21 with(fail)
           have zB:=Zn w9 58 #[.int .i64 (d.W:Int),.int .i64 (d.H:Int),↑(ZZ z0 d.nY j0),.int .i64 (d.W2:Int),.int .i64 (d.H2:Int),↑(ZZ z1 d.nC j1),.int .i64 (d.W2:Int),.int .i64 (d.H2:Int),↑(ZZ z2 d.nC j2)];have TR:Mod ↑ZW w9 (w9.alloc (.cells #[.int .i64 (d.W:Int),.int .i64 (d.H:Int),↑(ZZ z0 d.nY j0),.int .i64 (d.W2:Int),.int .i64 (d.H2:Int),↑(ZZ z1 d.nC j1),.int .i64 (d.W2:Int),.int .i64 (d.H2:Int),↑(ZZ z2 d.nC j2)] 58)):=(Mod.refl _ w9).alloc _;obtain⟨gb,hgb⟩:=ZL (w9.heap.size);rw [<-hgb]at zB ⊢;clear hgb;generalize w9.alloc (.cells #[.int .i64 (d.W:Int),.int .i64 (d.H:Int),↑(ZZ z0 d.nY j0),.int .i64 (d.W2:Int),.int .i64 (d.H2:Int),↑(ZZ z1 d.nC j1),.int .i64 (d.W2:Int),.int .i64 (d.H2:Int),↑(ZZ z2 d.nC j2)] 58)=Le at zB TR ⊢;have Ij:=H9.out.2.2.1.quiet TR;obtain⟨sg,c8,sv,fv,Im,x0,x1,iL,hlf,cs,hcb,hcs⟩:=DK Ij.TD;rw [P6]at Im x0 x1 hcs;subst Im;have Dp:=Ij.box;unfold jD.cells at Dp;obtain⟨tO,pF,hcA⟩:=iL;obtain⟨tQ,iX,hcB⟩:=hlf;rw [Zg,Sm]at pF iX;obtain⟨AA,cA,rfl,_⟩:=pF.shape;obtain⟨AB,cB,rfl,_⟩:=iX.shape;have PI:=Z5 Ij (Z9 zB (Z9 TR (Z9 (Z9 pF hcA) (Z9 (Z9 iX hcB) (Z9 (Z9 x0 x1) (Z9 (Z9 hcb hcs) Dp))))));clear Ij zB TR pF hcA iX hcB x0 x1 hcb hcs Dp;have u1:=HP.out.2.2.2.2.1;have u2:=HP.out.2.2.2.2.2;have yA:(kd:Int)<((kd+1:Nat):Int):=Z8
           have ni:∀w',Mod ↑ZW Le w'->w'.rangeAt sg (kd*2) [.slice AA rm cA,.slice AB rm cB]:=fun w' hm j v hv=>(Vx hm PI.out.2.2.2.2.2.2.1.1.lt).trans (by
            have hj:j<2:=(List.getElem?_eq_some_iff.1 hv).1;have h2:j=0\/j=1:=Z8;rcases h2 with rfl|rfl<;>(rw [<-hv];first|exact PI.out.2.2.2.2.2.1.1|exact PI.out.2.2.2.2.2.1.2))
           refine WG [7,8] [0,1,2,3,4,5,6] (PTree.after [0,1,2,3,4,5,6,7,8] .nil) (fun w'=>Mod ↑ZW Le w') ZR ZR Xc ((Mod.refl _ Le).drew) ?_;refine Zh (v:=↑(ZC mb 7)) ?_;refine Ww rfl rfl _ _ rfl rfl mb 7 rfl ↑(ZZ sg (kd+1) c8) _ (fun w' hS=>(PI.out.2.2.2.2.2.2.2.keep hS (fun h=>h)).cell 7) underlying44 rfl (Yp ?_);refine Zh (v:=↑k) ?_;refine Zh (v:=↑g) ?_;refine Yu (v:=↑kd) rfl rfl rfl (fun w' _=>by go_simp;exact Z4 _ ⟨Z8,Z8⟩) (Yp ?_);refine Yu (v:=↑(ZC sg (kd*2))) rfl rfl rfl (fun w' _=>by go_simp;exact fun h=>absurd h Z8) (Yp ?_);refine TS rfl rfl _ _ rfl rfl sg (kd*2) rfl [.slice AA rm cA,.slice AB rm cB] _ ni underlying50 rfl ZR (Yp ?_);have Rc:Mod ↑ZW Le Le.drew:=(Mod.refl _ Le).drew;generalize Le.drew=wd at Rc ⊢;refine YO rfl rfl (fun K hK=>?_);go_simp;have Tw:=Zn wd 50 #[↑Zd,↑Zd];have Xk:Mod ↑ZW Le (wd.alloc (.cells #[↑Zd,↑Zd] 50)):=Rc.alloc _;have mF:Le.heap.size<=wd.heap.size:=Rc.size;obtain⟨tb,jP⟩:=ZL (wd.heap.size);rw [<-jP]at Tw mF ⊢;clear jP Rc;generalize wd.alloc (.cells #[↑Zd,↑Zd] 50)=LM at Tw Xk ⊢;refine hK _ _ Xk ?_;clear hK K;refine Wm rfl rfl (fun K hK=>?_);rw [if_pos (by rfl)];refine wp_store_row 50 (.tmp 20) (.tmp 131) rfl tb [.slice AA rm cA,.slice AB rm cB] rfl rfl 50 [↑Zd,↑Zd] Tw rfl ZR ZR (fun Ew Dn Tx=>?_);go_simp;refine hK _ _ ?_;clear hK K;refine XC ?_;have xu:Mod ↑ZW Le Ew:=Xk.into Tx (fun z e=>.inr (by have e2:z=tb:=e;omega));have H12:=Z5 Dn xu;clear Tw Xk mF Dn Tx xu ni;go_upto_region 22 with(fail)
           refine LP [5,8,10,11,12,15,17,18,21] [0,1,2,3,4,6,7,9,13,14,16] (PTrP.after [0,1,2,3,4,6,7,9,13,14,16] (.pool JQ (.seq 19 (.seq 20 (.seq 21 .nil))))) (fun w'=>Mod ↑ZW Ew.drew w') ZR ZR Xc (Mod.refl _ _) ?_;have Qz:Mod ↑ZW Le Ew.drew:=H12.out.2.drew;have uw:=H12.out.1.drew;have xe:=PI.out.2.1.keep Qz (fun h=>h);have wY:=PI.out.2.2.2.2.2.2.2.keep Qz (fun h=>h);generalize Ew.drew=Ex at Qz uw xe wY ⊢;refine TC (v:=↑(ZC mb 7)) ?_;refine OI rfl rfl _ _ rfl rfl mb 7 rfl ↑(ZZ sg (kd+1) c8) _ (fun w' hS=>(wY.keep hS (fun h=>h)).cell 7) underlying44 rfl (Yp ?_);refine TC (v:=↑k) ?_;refine TC (v:=↑g) ?_;refine OA (v:=↑kd) rfl rfl rfl (fun w' _=>by go_simp;exact Z4 _ ⟨Z8,Z8⟩) (Yp ?_);refine TC (v:=↑(ZC tb 0)) ?_;refine OI rfl rfl _ _ rfl rfl tb 0 rfl (.slice AA rm cA) _ (fun w' hS=>(uw.keep hS (fun h=>h)).cell 0) underlying47 rfl (Yp ?_);refine TC (v:=.slice An nn cn) ?_;refine TC (v:=↑(ZC tb 1)) ?_;refine OI rfl rfl _ _ rfl rfl tb 1 rfl (.slice AB rm cB) _ (fun w' hS=>(uw.keep hS (fun h=>h)).cell 1) underlying29 rfl (Yp ?_);refine Ea rfl rfl _ _ rfl rfl gb 0 rfl [.int .i64 (d.W:Int),.int .i64 (d.H:Int),↑(ZZ z0 d.nY j0),.int .i64 (d.W2:Int),.int .i64 (d.H2:Int),↑(ZZ z1 d.nC j1),.int .i64 (d.W2:Int),.int .i64 (d.H2:Int),↑(ZZ z2 d.nC j2)] _ (fun w' hS=>(xe.keep hS (fun h=>h)).range 0 _ rfl) underlying58 rfl ZR (Yp ?_);have aJ:=fun w' (hm:Mod ↑ZW Ex w')=>((PI.out.2.2.2.1.1.quiet (Qz.trans hm)).jl)
           have aK:=fun w' (hm:Mod ↑ZW Ex w')=>((PI.out.2.2.2.2.1.1.quiet (Qz.trans hm)).jl)
           refine xZ (t5:=137) (t8:=140) (t10:=142) (t11:=143) (t12:=144) (t15:=147) (t17:=149) (t18:=150) (vk:=139) (qM:=141) (vw:=146) (qN:=148) rfl rfl rfl rfl rfl rfl rfl rfl rfl rfl rfl rfl rfl rfl rfl rfl ZR ZR ZR ZR rfl rfl rfl rfl (fun w' hm=>(aJ w' hm).1) (fun w' hm=>(aK w' hm).1) (aJ Ex (Mod.refl _ _)).2 (aK Ex (Mod.refl _ _)).2 (Ei PI.out.2.2.2.1.2) (Fq PI.out.2.2.2.2.1.2) (by intro u hu;simp only [WH,Xp,or_false]at hu;rcases hu with rfl|rfl|rfl|rfl|rfl|rfl|rfl|rfl|rfl<;>rfl) Z8 Z8 ?_;intro v5 v8 v10 v11 v12 v15 v17 v18 Cx QA DD DF _;obtain⟨vB,c11,rfl⟩:=ZG DD;obtain⟨gG,c18,rfl⟩:=ZG DF;have hk3:(kd:Int)<(kd:Int)+1:=Z8;have Dq:=PI.out.2.2.2.2.2.2.1.1.keep (Qz.trans QA) (fun h=>h)
           have hth:Cx.there sg (kd*2) 2:=fun j hj=>by
            have h1:=PI.out.2.2.2.2.2.2.1.2;rw [Dq.cell (kd*2+j),Array.getElem?_eq_getElem Z8];exact⟨rfl,Dq.both.2 _⟩
           have xD:=PI.out.1.quiet (Qz.trans QA);have bF:Z<=wx.heap.size:=H9.out.2.2.2.2.2;have aL:Z<=sg/\sg<wx.heap.size:=HX.out.1.TD.lt sg rfl;have aX:wx.heap.size<=Ex.heap.size:=by
            have h1:=H9.out.2.2.2.2.1;have h2:=PI.out.2.2.1.size;have h3:=Qz.size;omega
           have lJ:∀z,wx.heap.size<=z->FM Z ↑(ZZ sg (kd+1) c8) z:=fun z hz=>⟨Z8,fun e=>by simp only [YQ,Option.some.injEq]at e;omega⟩
           have uH:Mod ↑ZW w9 Cx:=PI.out.2.2.1.trans (Qz.trans QA);have Jh:OQ Cx (FM Z ↑(ZZ sg (kd+1) c8)) d (V8 d g tg q Xa kd rm++[U0 d g tg q Xa k]) [.slice vB (rm+1) c11,.slice gG (rm+1) c18]:=by
            have la:((V8 d g tg q Xa kd rm).map Sv).length=rm:=by rw [Zg,Sm]
            have lb:((V8 d g tg q Xa kd rm).map Rx).length=rm:=by rw [Zg,Sm]
            have mY:PM Cx (FM Z ↑(ZZ sg (kd+1) c8)) (U0 d g tg q Xa k).1 [.slice An nn cn]:=⟨_,rfl,Nb.Oy (XT H9.out.1 uH (fun _ _ h=>h)) (fun z hz=>lJ z (X4 H9.out.1 z hz).1)⟩
            have agl:Wd Cx (FM Z ↑(ZZ sg (kd+1) c8)) d (U0 d g tg q Xa k).2 [.int .i64 (d.W:Int),.int .i64 (d.H:Int),↑(ZZ z0 d.nY j0),.int .i64 (d.W2:Int),.int .i64 (d.H2:Int),↑(ZZ z1 d.nC j1),.int .i64 (d.W2:Int),.int .i64 (d.H2:Int),↑(ZZ z2 d.nC j2)]:=dL (H9.out.2.1.quiet uH) lJ;have LA:=Vn (l:=(V8 d g tg q Xa kd rm).map Sv) (x:=(U0 d g tg q Xa k).1) (by rw [la];exact DD) (PI.out.2.2.2.1.2.mono (fun _ _ _ z=>z.turn (Qz.trans QA) (fun _ _ _ h=>h) (fun _ h _=>h))) mY rfl;have LB:=Vn (l:=(V8 d g tg q Xa kd rm).map Rx) (x:=(U0 d g tg q Xa k).2) (by rw [lb];exact DF) (PI.out.2.2.2.2.1.2.mono (fun _ _ _ z=>z.turn (Qz.trans QA) (fun _ _ _ h=>h) (fun _ h _=>h))) agl rfl;refine⟨_,_,rfl,?_,?_⟩
            ·rw [YP];exact LA.RU (fun z hz=>lJ z (by have:=(LA.lt z hz).1;omega))
            ·rw [YP];exact LB.RU (fun z hz=>lJ z (by have:=(LB.lt z hz).1;omega))
           have Ie:=Nh.laid xD Jh;rw [P6]at Ie;have uK:=FL (d:=d) (G:=g) (tg:=tg) (q:=q) (fs:=Xa) (m:=k) hg1.1;rw [<-HP.out.2.2.1,<-HP.out.2.2.2.1]at uK;rw [uK]at Ie;have HLD:=Z7 Ie;clear Ie uK Jh uH lJ aX aL bF xD DD DF aJ aK Dq;refine NP rfl rfl (fun K hK=>?_);go_simp;refine hK _ ?_;clear hK K;refine NP rfl rfl (fun K hK=>?_);go_simp
           try rw [if_pos hk3]
           refine hK _ ?_;clear hK K;refine D9 rfl rfl (fun K hK=>?_);rw [if_pos (by rfl)];refine wp_store_mid 50 (.tmp 152) (.tmp 151) rfl sg (kd*2) #[.slice vB (rm+1) c11,.slice gG (rm+1) c18] rfl rfl hth ZR ZR ?_;refine hK _ _ ?_;clear hK K hth;refine D8 ?_;have jY:Hid (Nh wr ⟨mb,eg,Z,⟨r.name,(dn:Int),(q:Int),(tg:Int)⟩,g,tg,d⟩ ↑(ZZ sg (kd+1) c8) (SK d g tg q Xa (k+1)) (Xr d g tg q Xa (k+1)).1 ((k+1) % g) (Xr d g tg q Xa (k+1)).2 (Cx.setCells sg (kd*2) [.slice vB (rm+1) c11,.slice gG (rm+1) c18])):=HLD;clear HLD;generalize Cx.setCells sg (kd*2) [.slice vB (rm+1) c11,.slice gG (rm+1) c18]=jT at jY ⊢;go_wp2_with fail;refine⟨⟨k+1,_,Z8,rfl,jY.out⟩,Rb mE⟩
       ·obtain rfl:k=n:=Z8;have dk:=Za ((k:Int)<(k:Int));obtain⟨Av,cv,hv⟩:=pG.TD.shape;obtain⟨nl,Gn⟩:=ZL ((SK d g tg q Xa k).length);rw [<-Gn]at hv;subst hv;have zD:=pG.box;unfold jD.cells at zD;obtain⟨bc,bf⟩:=zD.both;have RZ:=HQ.out.2.2.2.2.2.2.trans pG.mod
        have hL6:Yr wk w.heap.size 46 8 (Ny wk (FM w.heap.size (.slice Ao i co))) (.slice Ao i co) ((rs.take i).map (Tz fs (g:Int))):=
         HQ.out.2.2.2.2.2.1.turn pG.mod (fun _ _ h=>h) (fun _ _ _ hx=>hx.turn pG.mod (fun _ _ _ h=>h) (fun _ hk _=>hk))
        have hFz:∀z,Z<=z->FM w.heap.size (.slice Ao i co) z:=fun z hz=>by
         have h1:wr.heap.size<=mb:=pG.ok.m1;have h2:mb<Z:=pG.ok.m2;have h3:=HQ.out.2.2.2.2.2.2.size;exact⟨Z8,fun e=>by have:=(HQ.out.2.2.2.2.2.1.lt z e).2;omega⟩
        have jf:Ny wk (FM w.heap.size (.slice Ao i co)) (Tz fs (g:Int) r) [.string (strOf r.name),↑dn,↑q,↑tg,.int .i64 (d.W:Int),.int .i64 (d.H:Int),↑g,.slice Av nl cv]:=by
         rw [HQ.out.2.2.2.1];refine⟨_,rfl,?_⟩;have h1:=pG.TD;have h2:=abh (d:=d) (G:=g) (tg:=tg) (q:=q) (fs:=Xa) HD.out.2.2.2.2.1.1;rw [HFP.out.2]at h2;rw [<-HFP.out.1];have h3:=(h1.RU (F:=FM w.heap.size (.slice Ao i co)) (fun z hz=>hFz z (h1.lt z hz).1)).turn (Mod.refl ↑ZW wk) (fun _ _ _ h=>h) (F':=FM w.heap.size (.slice Ao i co)) (fun _ h _=>h) (R':=OQ wk (FM w.heap.size (.slice Ao i co)) d) (fun _ _ _ hx=>hx.turn (Mod.refl ↑ZW wk) (fun _ _ _ h=>h) (fun z hz _=>hFz z hz.1));dsimp only at h3;rw [h2]at h3;exact h3
        obtain⟨xs,hrow,Hy⟩:=hL6;rw [Pq]at hrow;have aP:=RZ.size;have hi8:i<=8:=Z8;have H6:=Z5 hrow (Z9 Hy (Z9 jf RZ));clear pG zD RZ hrow Hy jf Gn hFz;go_wp2_with (at_builtin;refine Hid.out ?_)
        refine Z7 ?_;refine OD wk rfl (.tmp 153) (.tmp 155) 34 46 rfl underlying34 (.agg ↑EZ) 8 88 acS rfl ZU w.heap.size (.slice Ao i co) i xs [.string (strOf r.name),↑dn,↑q,↑tg,.int .i64 (d.W:Int),.int .i64 (d.H:Int),↑g,.slice Av nl cv] rfl (by intro u hu;simp only [WH,Xp,or_false]at hu;rcases hu with rfl|rfl|rfl|rfl|rfl|rfl|rfl|rfl<;>rfl) wk.heap.size rfl rfl rfl H6.out.1 aP (by unfold maxLen;omega) Z8 ?_;intro v2 w9 y1 y2 y3 y4;obtain⟨As,cs2,rfl⟩:=ZG y1;have xz:=y3 w ↑ZW (ZY _) H6.out.2.2.2;have HA:=Z5 y1 (Z9 y2 (Z9 y4 xz));clear y1 y2 y3 y4 xz bc bf;go_wp2_with fail;have JP:vZ w fs (g:Int) rs (.slice As (i+1) cs2) ↑(i+1:Nat) w9:=by
         refine⟨i+1,Z8,rfl,?_,HA.out.2.2.2⟩;rw [take_one Z8];have mU:=BC (x:=Tz fs (g:Int) r) H6.out.2.1 (by rw [Pq];exact HA.out.1) HA.out.2.1 HA.out.2.2.1 H6.out.2.2.1 rfl;rw [<-HQ.out.2.2.2.2.1];exact mU
        go_roundw
        case rel=>first|exact JP|((repeat apply Exists.intro);exact⟨JP,rfl⟩)
        case measure=>exact YD
    ·obtain rfl:i=m:=Z8;have d3:=Za ((i:Int)<(i:Int));have HR:=Z5 hL hM;clear hL hM;go_wp2_with fail;go_ret2;refine⟨HR.out.2,.inr ⟨HB.out.1,_,rfl,?_⟩⟩;have JP:=HR.out.1.RU (F:=fun k=>w.heap.size<=k) (fun k hk=>(HR.out.1.lt k hk).1);rw [List.take_of_length_le Z8]at JP;exact JP.turn (Mod.refl ↑ZW _) (fun _ _ _ h=>h) (fun _ h _=>h) (fun _ _ _ hx=>hx.turn (Mod.refl ↑ZW _) (fun _ _ _ h=>h) (fun _ hk _=>hk.1))
end Go.Proofs.YthednemlahioeaaGreatDoor
