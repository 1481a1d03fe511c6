/-
  The reference's floor, Row.
-/
import Derived.Test.YthednemlahioeaaGreatDoorM23
namespace Go.Proofs.YthednemlahioeaaGreatDoor
open Go.RowKit
open Lib renaming hid→Z7
open List renaming range→Zz,range_succ→Y9,getD_eq_getElem?_getD→Z6
open Nat renaming pow_succ→XF,le_refl→ZY
open And renaming intro→Z9
open World renaming cell?_of_block→ZV,block_lt_of_cell?→Y8,cell?_alloc_lt→Yn
open Value renaming slice→Xi
open IntWalk renaming i64_in→Z4
open UInt8 renaming toNat_lt→ZN
open Go.Proofs.Tryz
set_option maxRecDepth 100000
set_option maxHeartbeats 8000000
theorem oK(w:World)(v:Int)(h:-4611686018427387904<=v/\v<=4611686018427387904):Calls prog 374 #[↑v] w fun e w'=>e=.returned (.int .i64 (v/2))/\w=w':=by
 by_cases h0:0<=v
 ·have H:=Z7 h;go_enter func374,ntmps374;go_wp2_with fail;go_ret;exact⟨rfl,rfl⟩
 ·have h1:-((1-v)/2)=v/2:=Z8;have H1:=Z7 h1;clear h1;go_enter func374,ntmps374;go_wp2_with fail;go_ret;exact⟨by show Ending.returned (.int .i64 (-((1-v)/2)))=_;rw [H1.out],rfl⟩
def Ul(l:List Int)(m:Nat):List Int:=(Zz m).map fun i=>(l.getD (2*i) 0+l.getD (2*i+1) 0)/2
def U6(l:List Int)(m:Nat):List Int:=(Zz m).map fun i=>l.getD (2*i) 0-l.getD (2*i+1) 0
theorem aaK(l:List Int)(m:Nat):Ul l (m+1)=Ul l m++[(l.getD (2*m) 0+l.getD (2*m+1) 0)/2]:=by simp [Ul,Y9]
theorem aap(l:List Int)(m:Nat):U6 l (m+1)=U6 l m++[l.getD (2*m) 0-l.getD (2*m+1) 0]:=by simp [U6,Y9]
theorem Uz(l:List Int)(m:Nat):(Ul l m).length=m:=by simp [Ul]
theorem Uk(l:List Int)(m:Nat):(U6 l m).length=m:=by simp [U6]
theorem JH{M:Int}{l:List Int}(h0:0<=M)(h:Within M l)(m:Nat):Within M (Ul l m):=by
 intro i;by_cases hi:i<m
 ·have e:(Ul l m).getD i 0=(l.getD (2*i) 0+l.getD (2*i+1) 0)/2:=by simp [Ul,Z6,hi]
  rw [e];have a:=h (2*i);have b:=h (2*i+1);omega
 ·have e:(Ul l m).getD i 0=0:=by simp [Ul,Z6,hi]
  rw [e];omega
def QX:Nat->List Int->List Int
 | 0,l=>l
 | j+1,l=>QX j (Ul l (2 ^ j))++U6 l (2 ^ j)
theorem Rf(j:Nat):∀l:List Int,l.length=2 ^ j->(QX j l).length=2 ^ j:=by
 induction j with
 | zero=>intro l h;exact h
 | succ j ih=>
  intro l h;simp only [QX,List.length_append,Uk];rw [ih _ (Uz _ _),XF];omega
def GR(w:World)(l:List Int)(e:Ending)(w':World):Prop:=∃A c,e=.returned (.slice A l.length c)/\l.length<=c/\IntsIn w' A l.length c l/\Mod ↑ZW w w'
theorem Zx.drew{w:World}{B:Nat}{v:Value}{l:List Int}(h:Zx w B v l):Zx w.drew B v l:=XT h ((Mod.refl ↑ZW w).drew) (fun _ _ h=>h)
theorem Zx.drewN{w:World}{B:Nat}{v:Value}{l:List Int}(h:Zx w B v l)(n:Nat):Zx (w.drewN n) B v l:=XT h ((Mod.refl ↑ZW w).drewN n) (fun _ _ h=>h)
def ahb(w:World)(l:List Int)(v3 v4 i:Value)(wr:World):Prop:=
 ∃k:Nat,2*k<=l.length/\i=↑(2*k:Nat)/\Zx wr w.heap.size v3 (Ul l k)/\Zx wr w.heap.size v4 (U6 l k)/\(∀g,v3.ownBlock=some g->v4.ownBlock≠some g)/\Mod ↑ZW w wr
theorem ahL(j:Nat):j<=3->∀(w:World) (A:Option Addr) (n c:Nat) (l:List Int),n=2 ^ j->n<=c->IntsIn w A n c l->Within 1099511627776 l->Calls prog 313 #[.slice A n c] w (GR w (QX j l)):=by
 induction j with
 | zero=>
  intro _ w A n c l hn hc YZ hw;subst hn;have OO:=Z7 YZ;clear YZ;go_enter func313,ntmps313;go_wp2_with fail;go_ret;have h1:l.length=1:=OO.out.1;refine⟨A,c,?_,?_,?_,Mod.refl _ _⟩
  ·simp [QX,h1]
  ·simp [QX,h1];omega
  ·simp only [QX,h1];exact OO.out
 | succ j ih=>
  intro hj w A n c l hn hc YZ hw;have ih':=ih (by omega);have HIH:=Z7 ih';clear ih ih';have hm:n=2*2 ^ j:=by rw [hn,XF];omega
  have hp:1<=2 ^ j/\2 ^ j<=8:=⟨Nat.one_le_two_pow,Nat.pow_le_pow_right (by omega) (show j<=3 by omega)⟩
  clear hn;obtain⟨m,Y3⟩:∃m,m=2 ^ j:=⟨_,rfl⟩
  rw [<-Y3]at hm hp;have HM:=Z7 Y3;clear Y3;have HN:=Z7 hm;have qA:2<=n:=by omega
  have yC:n<=16:=by omega
  clear hm;obtain⟨EE,CF⟩:=hp;obtain⟨b,off,hA,hb,hcell⟩:=YZ.place (by omega);subst hA;have HC:=Z7 (Z9 hcell hw);have hl:=YZ.1;have HL:=Z7 hl;clear hcell YZ hw hl;go_enter func313,ntmps313;go_wp2_with fail;go_loopw [3,4,5] (ahb w l) (fun _ _ i _=>n-(intOf i).toNat)
  case atStart=>exact⟨0,by omega,rfl,Zx.nil _ _,Zx.nil _ _,(fun g h=>by cases h),Mod.refl _ _⟩
  case round=>
   obtain⟨k,hk,rfl,IZ,Fv,hne,hM⟩:=hrel;rw [HL.out]at hk;by_cases akx:k<m
   ·have hlt:2*k+1<n:=by have:=HN.out;omega
    have KQ:wr.cell? ⟨b,off+2*k,none⟩=some (.int .i64 (l.getD (2*k) 0)):=(ZV (hM.block b hb (fun h=>h))).trans (HC.out.1 (2*k) (by omega));have zJ:wr.cell? ⟨b,off+(2*k+1),none⟩=some (.int .i64 (l.getD (2*k+1) 0)):=(ZV (hM.block b hb (fun h=>h))).trans (HC.out.1 (2*k+1) (by omega));have hx:=HC.out.2 (2*k);have hy:=HC.out.2 (2*k+1);have HS:=Z7 (Z9 (aaK l k) (aap l k));generalize l.getD (2*k) 0=x at *;generalize l.getD (2*k+1) 0=y at *;obtain⟨x1,x2⟩:=hx;obtain⟨y1,y2⟩:=hy;obtain⟨p,hp⟩:∃p,p=2*k:=⟨_,rfl⟩
    rw [<-hp]at KQ zJ ⊢;have p1:(p:Int)<(n:Int):=by omega
    have p2:(p:Int)+1<(n:Int):=by omega
    have HP:=Z7 hp;clear hp hk;obtain⟨A3,c3,hv3⟩:=ZG IZ;subst hv3;obtain⟨A4,c4,hv4⟩:=ZG Fv;subst hv4;rw [Uz,Uk];rw [Uz]at IZ hne;rw [Uk]at Fv hne;have Br:=Y8 _ _ KQ;have HB:=Z7 (Z9 IZ (Z9 Fv (Z9 hne hM)));clear IZ Fv hne hM;have q1:w.heap.size<=wr.drew.heap.size:=HB.out.2.2.2.size;have q2:(Ul l k).length<1048576:=by rw [Uz];omega
    have q3:¬(Xi A3 k c3).ownBlock=some b:=fun e=>by have:=(HB.out.1.lt b e).1;omega
    have HX:=Z7 (Z9 q1 (Z9 q2 q3));clear q1 q2 q3;have s1:IntKind.i64.wrap (x+y)=x+y:=Z4 _ ⟨by omega,by omega⟩;have s2:IntKind.i64.wrap ((p:Int)+1)=(p:Int)+1:=Z4 _ ⟨by omega,by omega⟩;have s3:((p:Int)+1).toNat=p+1:=by omega
    have s4:(0:Int)<=(p:Int)+1:=by omega
    have s5:(0:Int)<=(p:Int):=by omega
    go_upto_region 7 with(fail)
    have ka:((wr.drew).alloc (.cells #[.int .i64 ((x+y)/2)] 3)).cell? ⟨b,off+p,none⟩=some (.int .i64 x)/\((wr.drew).alloc (.cells #[.int .i64 ((x+y)/2)] 3)).cell? ⟨b,off+(p+1),none⟩=some (.int .i64 y):=⟨(Yn _ _ _ Br).trans KQ,(Yn _ _ _ (Y8 _ _ zJ)).trans zJ⟩
    go_region_held3 (fun w'=>w'.cell? ⟨b,off+p,none⟩=some (.int .i64 x)/\w'.cell? ⟨b,off+(p+1),none⟩=some (.int .i64 y)) (first|exact⟨KQ,zJ⟩|exact ka|exact kb) (first
     | (go_at_call 374;refine(oK _ _ ⟨by omega,by omega⟩).mono ?_;rintro e w3 ⟨rfl,rfl⟩)
     | (refine Mv wr.drew (by rfl) _ _ (by rfl) w.heap.size (.slice A3 k c3) (Ul l k) ((x+y)/2) (by rfl) (by rfl) (HB.out.1.drew) HX.out.1 HX.out.2.1 ?_;intro v5 w5 PV NI Pp hF;have kb:w5.cell? ⟨b,off+p,none⟩=some (.int .i64 x)/\w5.cell? ⟨b,off+(p+1),none⟩=some (.int .i64 y):=⟨(ZV (NI.block b Br HX.out.2.2)).trans KQ,(ZV (NI.block b Br HX.out.2.2)).trans zJ⟩;have HO:=Z7 (Z9 PV (Z9 NI (Z9 Pp hF)));clear PV NI Pp hF))
    clear ka;obtain⟨kb0,kb1⟩:=kb;have agi:Zx w5 w.heap.size (.slice A4 k c4) (U6 l k):=by
     have:=XT (Zx.drew HB.out.2.1) HO.out.2.1 (fun g hg hs=>HB.out.2.2.1 g hs hg);exact this
    have RO:Mod (fun _=>False) w w5:=HO.out.2.2.1 w _ (ZY _) HB.out.2.2.2.drew;have aZ:=Y8 _ _ kb0;have q1:w.heap.size<=w5.drew.heap.size:=RO.size;have q2:(U6 l k).length<1048576:=by rw [Uk];omega
    have q3:¬(Xi A4 k c4).ownBlock=some b:=fun e=>by have:=(agi.lt b e).1;omega
    have HX5:=Z7 (Z9 q1 (Z9 q2 (Z9 q3 (Z9 agi RO))));clear q1 q2 q3 agi RO KQ zJ Br;have s1:IntKind.i64.wrap (x-y)=x-y:=Z4 _ ⟨by omega,by omega⟩;go_upto_region 8 with(fail)
    have ka:((w5.drew).alloc (.cells #[.int .i64 (x-y)] 3)).cell? ⟨b,off+p,none⟩=some (.int .i64 x)/\((w5.drew).alloc (.cells #[.int .i64 (x-y)] 3)).cell? ⟨b,off+(p+1),none⟩=some (.int .i64 y):=⟨(Yn _ _ _ aZ).trans kb0,(Yn _ _ _ (Y8 _ _ kb1)).trans kb1⟩
    go_region_held3 (fun w'=>w'.cell? ⟨b,off+p,none⟩=some (.int .i64 x)/\w'.cell? ⟨b,off+(p+1),none⟩=some (.int .i64 y)) (first|exact⟨kb0,kb1⟩|exact ka|exact kb) (first
     | (refine Mv w5.drew (by rfl) _ _ (by rfl) w.heap.size (.slice A4 k c4) (U6 l k) (x-y) (by rfl) (by rfl) (HX5.out.2.2.2.1.drew) HX5.out.1 HX5.out.2.1 ?_;intro v6 w6 PW NI Pp hF;have kb:w6.cell? ⟨b,off+p,none⟩=some (.int .i64 x)/\w6.cell? ⟨b,off+(p+1),none⟩=some (.int .i64 y):=⟨(ZV (NI.block b aZ HX5.out.2.2.1)).trans kb0,(ZV (NI.block b aZ HX5.out.2.2.1)).trans kb1⟩;have HO6:=Z7 (Z9 PW (Z9 NI (Z9 Pp hF)));clear PW NI Pp hF))
    clear s1 s2 s3 s4 s5;go_wp2_with fail;go_roundw
    case rel=>
     refine⟨k+1,?_,?_,?_,?_,?_,HO6.out.2.2.1 w _ (ZY _) HX5.out.2.2.2.2.drew⟩
     ·rw [HL.out];omega
     ·rw [HP.out];go_num
     ·rw [HS.out.1]
      exact XT (Zx.drew HO.out.1) HO6.out.2.1 (fun g hg hs=>by
       rcases HO.out.2.2.2 g hg with h|h
       ·exact HB.out.2.2.1 g h hs
       ·have h7:=(HB.out.2.1.lt g hs).2;have:wr.drew.heap.size=wr.heap.size:=rfl;omega)
     ·rw [HS.out.2];exact HO6.out.1
     ·intro g h3 h4;rcases HO6.out.2.2.2 g h4 with h|h
      ·rcases HO.out.2.2.2 g h3 with h'|h'
       ·exact HB.out.2.2.1 g h' h
       ·have h7:=(HB.out.2.1.lt g h).2;have:wr.drew.heap.size=wr.heap.size:=rfl;omega
      ·have h7:=(HO.out.1.lt g h3).2;have:w5.drew.heap.size=w5.heap.size:=rfl;omega
    case measure=>simp [intOf];omega
   ·obtain⟨p,hp⟩:∃p,p=2*k:=⟨_,rfl⟩
    have hkm:k=m:=by have:=HN.out;omega
    subst hkm;rw [<-hp];have aB:p=n:=by have:=HN.out;omega
    clear hp hk akx;subst aB;obtain⟨A3,c3,hv3⟩:=ZG IZ;subst hv3;obtain⟨A4,c4,hv4⟩:=ZG Fv;subst hv4;rw [Uz,Uk];rw [Uz]at IZ hne;rw [Uk]at Fv hne;have aiY:=IZ.cap;have HB:=Z7 (Z9 IZ (Z9 Fv (Z9 hne hM)));clear IZ Fv hne hM;have M6:Mod (fun _=>False) wr (wr.alloc (.cells #[] 3)):=(Mod.refl _ _).alloc _;have zI:IntsIn (wr.alloc (.cells #[] 3)) A3 k c3 (Ul l k):=(HB.out.1.quiet M6).RU;have R6:=HIH.out (wr.alloc (.cells #[] 3)) A3 k c3 (Ul l k) HM.out aiY zI (JH (by omega) HC.out.2 k);clear zI M6;go_wp2_with fail;refine R6.mono ?_;clear R6;rintro e w7 ⟨A7,c7,rfl,hc7,Cq,Sn⟩;have Lr:(QX j (Ul l k)).length=k:=by rw [Rf j _ (by rw [Uz];exact HM.out),<-HM.out]
    rw [Lr]at Cq ⊢;have hz7:Zx w7 w.heap.size (.slice (some ⟨wr.heap.size,0,none⟩) 0 0) []:=(Zx.whole (l:=[]) HB.out.2.2.2.size (ZI.new wr 3 #[]) (by decide)).quiet Sn;have M7:Mod (fun _=>False) wr w7:=((Mod.refl _ _).alloc _).trans Sn;have HZ:=Z7 (Z9 hz7 (Z9 Cq (Z9 M7 Lr)));clear hz7 Cq M7 Sn Lr;have q1:w.heap.size<=w7.heap.size:=Nat.le_trans HB.out.2.2.2.size HZ.out.2.2.1.size
    have q2:∀g,(Xi A4 k c4).ownBlock=some g->¬(Xi (some ⟨wr.heap.size,0,none⟩) 0 0).ownBlock=some g:=fun g hg hs=>by
     have h7:=(HB.out.2.1.lt g hg).2;have hs2:wr.heap.size=g:=by simpa [Value.ownBlock]using hs
     omega
    have HQ:=Z7 q2;clear q2
    go_wp2_with (first
     | (at_builtin;refine TF _ rfl (.tmp 43) (.tmp 45) rfl w.heap.size _ [] A7 k c7 _ rfl rfl HZ.out.1 HZ.out.2.1 q1 (by simp;omega) ?_;intro v8 w8 SC NI Pp hF;have HO:=Z7 (Z9 SC (Z9 NI (Pp w (fun _=>False) (ZY _) (HB.out.2.2.2.trans HZ.out.2.2.1))));clear SC NI Pp hF)
     | (at_builtin;refine TF _ rfl (.tmp 46) (.tmp 47) rfl w.heap.size _ ([]++QX j (Ul l k)) A4 k c4 (U6 l k) rfl rfl HO.out.1 ((HB.out.2.1.quiet HZ.out.2.2.1).mod HO.out.2.1 HQ.out).RU HO.out.2.2.size (by rw [List.nil_append,HZ.out.2.2.2];omega) ?_;intro v9 w9 eX NI Pp hF;have HO9:=Z7 (Z9 eX (Pp w (fun _=>False) (ZY _) HO.out.2.2));clear eX NI Pp hF))
    go_ret;have e9:QX (j+1) l=[]++QX j (Ul l k)++U6 l k:=by rw [HM.out];rfl
    obtain⟨h9,CE⟩:=HO9.out;rw [<-e9]at h9;obtain⟨A9,c9,xE⟩:=ZG h9;subst xE;exact⟨A9,c9,rfl,h9.cap,h9.RU,CE⟩
def afr(a b:List UInt8)(n:Nat)(w:World)(v5 v6:Value)(wr:World):Prop:=∃k:Nat,k<=n/\v6=↑k/\v5=↑(UZ a b k:Nat)/\∃m,wr=w.drewN m
theorem yf(w:World)(A:Option Addr)(n c:Nat)(a:List UInt8)(A2:Option Addr)(c2:Nat)(b:List UInt8)(YZ:BytesIn w A n c a)(Vr:BytesIn w A2 n c2 b)(JD:0<n)(hn:n<=4096):
  Calls prog 221 #[.slice A n c,.slice A2 n c2] w fun e w'=>e=.returned ↑(UZ a b n:Nat)/\∃m,w'=w.drewN m:=by
 obtain⟨ba,oa,rfl,oZ,Bl⟩:=YZ.place JD;obtain⟨bb,om,rfl,N8,hcb⟩:=Vr.place JD;have HC:=Z5 Bl hcb;clear Bl hcb YZ Vr;go_enter func221,ntmps221;go_wp2_with fail;go_loopw [5,6] (afr a b n w) (fun _ i _=>n-(intOf i).toNat)
 case atStart=>exact⟨0,Z8,rfl,rfl,0,rfl⟩
 case round=>
  rename World=>wr
  obtain⟨k,hk,rfl,rfl,m,rfl⟩:=hrel;by_cases hlt:k<n
  ·have M9:(w.drewN m).cell? ⟨ba,oa+k,none⟩=some (.int .u8 ((a.getD k 0).toNat:Int)):=HC.out.1 k hlt;have Lm:(w.drewN m).cell? ⟨bb,om+k,none⟩=some (.int .u8 ((b.getD k 0).toNat:Int)):=HC.out.2 k hlt;have hx:(a.getD k 0).toNat<256:=ZN _;have hy:(b.getD k 0).toNat<256:=ZN _;have Md:=Ot a b k;have HF:Hid (UZ a b (k+1)=UZ a b k+(((a.getD k 0).toNat:Int)-((b.getD k 0).toNat:Int)).natAbs):=rfl;generalize (a.getD k 0).toNat=x at *;generalize (b.getD k 0).toNat=y at *;generalize UZ a b k=s at *;have i1:(0:Int)<=(k:Int):=Z8;have i2:(k:Int)<(n:Int):=Z8;have d1:decide ((k:Int)<(n:Int))=true:=decide_eq_true i2;have HM:Hid (∀q,∃m',(w.drewN m).drewN q=w.drewN m'):=fun q=>⟨m+q,by simp [World.drewN_drewN]⟩
   have s2:IntKind.i64.wrap ((x:Int)-(y:Int))=(x:Int)-(y:Int):=Z4 _ ⟨Z8,Z8⟩;generalize w.drewN m=wr at *;go_upto_region 5 with(fail)
   go_quiet (fail)
   obtain⟨m',hm'⟩:=HM.out nq;have HM':=Z7 hm';clear hm' HM;generalize wr.drewN nq=w5 at *;obtain⟨z,hz⟩:=ZL ((x:Int)-(y:Int));rw [<-hz]at HF ⊢;have hz1:-256<z:=Z8;have hz2:z<256:=Z8;clear hz s2 M9 Lm;go_wp2_with fail;go_roundw
   case rel=>exact⟨k+1,Z8,Zr,congrArg (Value.int .i64) (by rw [HF.out];split<;>omega),m',HM'.out⟩
   case measure=>exact YD
  ·obtain rfl:k=n:=Z8;have d1:=Za ((k:Int)<(k:Int));go_wp2_with fail;go_ret;exact⟨rfl,m,rfl⟩
def MQ(a b:List UInt8)(k:Nat):List Int:=(Zz k).map (La a b)
theorem abj(a b:List UInt8)(k:Nat):MQ a b (k+1)=MQ a b k++[La a b k]:=by simp [MQ,Y9]
theorem O8(a b:List UInt8)(k:Nat):(MQ a b k).length=k:=by simp [MQ]
theorem Cb(a b:List UInt8):MQ a b a.length=Ve a b:=by
 unfold MQ Ve qI;refine List.map_congr_left fun i hi=>?_;rw [if_pos (List.mem_range.1 hi)]
def adR(w:World)(a b:List UInt8)(n:Nat)(v i:Value)(wr:World):Prop:=∃k:Nat,k<=n/\i=↑k/\Zx wr w.heap.size v (MQ a b k)/\Mod ↑ZW w wr
theorem afV(w:World)(A:Option Addr)(n c:Nat)(a:List UInt8)(A2:Option Addr)(c2:Nat)(b:List UInt8)(YZ:BytesIn w A n c a)(Vr:BytesIn w A2 n c2 b)(JD:0<n)(hn:n<=4096):
  Calls prog 175 #[.slice A n c,.slice A2 n c2] w fun e w'=>∃ob c',e=.returned ↑(ZZ ob n c')/\n<=c'/\IntsIn w' (some ⟨ob,0,none⟩) n c' (Ve a b)/\Mod ↑ZW w w':=by
 have Dj:a.length=n:=YZ.1;have HRL:Hid (MQ a b n=Ve a b):=by show _=_;rw [<-Dj];exact Cb a b
 clear Dj;obtain⟨ba,oa,rfl,oZ,Bl⟩:=YZ.place JD;obtain⟨bb,om,rfl,N8,hcb⟩:=Vr.place JD;have HC:=Z5 Bl hcb;clear Bl hcb YZ Vr;go_enter func175,ntmps175;go_wp2_with fail;go_loopw [5,6] (adR w a b n) (fun _ i _=>n-(intOf i).toNat)
 case atStart=>exact⟨0,Z8,rfl,Zx.nil _ _,Mod.refl _ _⟩
 case round=>
  obtain⟨k,hk,rfl,hown,hM⟩:=hrel;by_cases hlt:k<n
  ·have KQ:wr.cell? ⟨ba,oa+k,none⟩=some (.int .u8 ((a.getD k 0).toNat:Int)):=(ZV (hM.block ba oZ (fun h=>h))).trans (HC.out.1 k hlt);have zJ:wr.cell? ⟨bb,om+k,none⟩=some (.int .u8 ((b.getD k 0).toNat:Int)):=(ZV (hM.block bb N8 (fun h=>h))).trans (HC.out.2 k hlt);have hx:(a.getD k 0).toNat<256:=ZN _;have hy:(b.getD k 0).toNat<256:=ZN _;have HF:Hid (La a b k=((a.getD k 0).toNat:Int)-((b.getD k 0).toNat:Int)):=rfl;generalize (a.getD k 0).toNat=x at *;generalize (b.getD k 0).toNat=y at *;have i1:(0:Int)<=(k:Int):=Z8;have i2:(k:Int)<(n:Int):=Z8;obtain⟨A4,c4,hv4⟩:=ZG hown;subst hv4;rw [O8];rw [O8]at hown;have Br:=Y8 _ _ KQ;have zO:=Y8 _ _ zJ;have HB:=Z5 hown hM;have q1:w.heap.size<=wr.drew.heap.size:=hM.size;have q2:(MQ a b k).length<1048576:=by rw [O8];omega
   have q3:¬(Xi A4 k c4).ownBlock=some ba:=fun e=>by have:=(HB.out.1.lt ba e).1;omega
   have q4:¬(Xi A4 k c4).ownBlock=some bb:=fun e=>by have:=(HB.out.1.lt bb e).1;omega
   have HX:=Z5 q1 (Z9 q2 (Z9 q3 q4));clear hown hM q1 q2 q3 q4;have s0:IntKind.i64.wrap (x:Int)=(x:Int):=Z4 _ ⟨Z8,Z8⟩;have s1:IntKind.i64.wrap (y:Int)=(y:Int):=Z4 _ ⟨Z8,Z8⟩;have s2:IntKind.i64.wrap ((x:Int)-(y:Int))=(x:Int)-(y:Int):=Z4 _ ⟨Z8,Z8⟩;go_upto_region 7 with(fail)
   have ka:((wr.drew).alloc (.cells #[.int .i64 ((x:Int)-(y:Int))] 3)).cell? ⟨ba,oa+k,none⟩=some (.int .u8 (x:Int))/\((wr.drew).alloc (.cells #[.int .i64 ((x:Int)-(y:Int))] 3)).cell? ⟨bb,om+k,none⟩=some (.int .u8 (y:Int)):=⟨(Yn _ _ _ Br).trans KQ,(Yn _ _ _ zO).trans zJ⟩
   go_region_held3 (fun w'=>w'.cell? ⟨ba,oa+k,none⟩=some (.int .u8 (x:Int))/\w'.cell? ⟨bb,om+k,none⟩=some (.int .u8 (y:Int))) (first|exact⟨KQ,zJ⟩|exact ka|exact kb) (first
    | (refine Mv wr.drew (by rfl) _ _ (by rfl) w.heap.size (.slice A4 k c4) (MQ a b k) ((x:Int)-(y:Int)) (by rfl) (by rfl) (HB.out.1.drew) HX.out.1 HX.out.2.1 ?_;intro v6 w6 PW NI Pp hF;have kb:w6.cell? ⟨ba,oa+k,none⟩=some (.int .u8 (x:Int))/\w6.cell? ⟨bb,om+k,none⟩=some (.int .u8 (y:Int)):=⟨(ZV (NI.block ba Br HX.out.2.2.1)).trans KQ,(ZV (NI.block bb zO HX.out.2.2.2)).trans zJ⟩;have HO6:=Z5 PW (Z9 NI (Z9 Pp hF));clear PW NI Pp hF))
   clear ka KQ zJ s0 s1 s2;go_wp2_with fail;go_roundw
   case rel=>exact⟨k+1,Z8,Zr,by rw [abj,HF.out];exact HO6.out.1,HO6.out.2.2.1 w _ (ZY _) HB.out.2.drew⟩
   case measure=>exact YD
  ·obtain rfl:k=n:=Z8;have HB:=Z5 hown hM;clear hown hM;go_wp2_with fail;go_ret;obtain⟨h9,CE⟩:=HB.out;obtain⟨A9,c9,xE⟩:=ZG h9;subst xE;have hl:(MQ a b k).length=k:=O8 _ _ _;have KL:=h9.cap;have YZ:=h9.RU;rcases h9.2 with⟨hv,h0⟩|⟨g,cap,cur,hv,hB,_⟩
   ·rw [hl]at h0;omega
   ·injection hv with e1 e2 e3;subst e1;rw [hl]at YZ KL;rw [HRL.out]at YZ;exact⟨g,c9,by rw [hl];rfl,KL,YZ,CE⟩
theorem oJ(w:World)(a b:Int)(ha:-64<=a/\a<=64)(hb:-64<=b/\b<=64):Calls prog 306 #[.agg #[↑a,↑b]] w fun e w'=>e=.returned ↑((a.natAbs+b.natAbs:Nat))/\Mod ↑ZW w w':=by
 obtain⟨a1,a2⟩:=ha;obtain⟨b1,b2⟩:=hb;go_enter func306,ntmps306;go_wp2_with fail
 all_goals
  go_ret;exact⟨congrArg (fun x=>Ending.returned (.int .i64 x)) Z8,(Mod.refl _ _).alloc _⟩
def GB1(w:World)(L:List Nf)(f:Nat->UInt8)(v13 v14:Value)(wr:World):Prop:=∃j:Nat,j<=16/\v14=↑j/\R7 w wr L v13 (VZ f (j*16))
def GB2(w:World)(L:List Nf)(f:Nat->UInt8)(j:Nat)(v13 v15:Value)(wr:World):Prop:=∃i:Nat,i<=16/\v15=↑i/\R7 w wr L v13 (VZ f (j*16+i))
theorem Gx(w:World)(W H:Nat)(A:Option Addr)(n c:Nat)(ZJ:List UInt8)(h:Yx W H=true)(hn:n=W*H)(YZ:BytesIn w A n c ZJ)(x y:Nat)(vx vy:Int)(hx:x<=4096)(hy:y<=4096)(Im:-128<=vx/\vx<=128)(xH:-128<=vy/\vy<=128):
  Calls prog 232 #[.agg #[↑W,↑H,.slice A n c],↑x,↑y,.int .i64 16,.agg #[↑vx,↑vy]] w
   fun e w'=>∃v,e=.returned v/\Bytes w' w.heap.size v (xP W H ZJ x y 16 vx vy)/\Mod ↑ZW w w':=by
 have HI:=Z5 h (Z9 hn YZ);clear h YZ hn;obtain⟨aT,aU⟩:=Im;obtain⟨aV,aW⟩:=xH;have h0:=((Sat.nil ↑ZW w).alloc 56 #[↑W,↑H,.slice A n c] rfl).alloc (g:=w.heap.size+1) 273 #[↑vx,↑vy] Ze;have H0:=Z7 h0;clear h0;go_enter func232,ntmps232;go_wp2_with fail;refine YX (Ur _ W H A n c HI.out.1 HI.out.2.1) fun w1 Y6=>?_;have HS:=H0.out.quiet Y6;obtain⟨pc,pf⟩:=(HS.ZX 1 rfl).both;obtain⟨vc,vf⟩:=(HS.ZX 0 rfl).both;have qV:Hid (R7 w w1 _ ↑Zd (VZ (zX W H ZJ x y 16 vx vy) (0*16))):=⟨World.ownsRow_nil _ _ _ _,HS⟩
 clear Y6 HS H0;go_wp2_with fail;refine YH (KD _ _ ⟨Z8,Z8⟩) ?_;go_wp2_with fail;refine YH (KD _ _ ⟨Z8,Z8⟩) ?_;go_wp2_with fail;refine YH (KD _ _ ⟨Z8,Z8⟩) ?_;go_wp2_with fail;refine YH (KD _ _ ⟨Z8,Z8⟩) ?_;go_wp2_with fail;go_loopw [14,15] (GB1 w _ (zX W H ZJ x y 16 vx vy)) (fun _ s _=>16-(intOf s).toNat)
 case atStart=>exact⟨0,Z8,rfl,qV.out⟩
 case round=>
  clear qV pc pf vc vf;obtain⟨j,hj,rfl,hG⟩:=hrel;have HG:=Z7 hG;clear hG;by_cases hlt:j<16
  ·have d1:=Zb ((j:Int)<16);go_wp2_with fail;go_loopw [14,16] (GB2 w _ (zX W H ZJ x y 16 vx vy) j) (fun _ s _=>16-(intOf s).toNat)
   case atStart=>exact⟨0,Z8,rfl,HG.out⟩
   case round=>
    clear HG;rename World=>w5
    obtain⟨i,hi,rfl,hG⟩:=hrel;by_cases Pq:i<16
    ·have d2:=Zb ((i:Int)<16);obtain⟨pc,pf⟩:=(hG.2.ZX 1 rfl).both;obtain⟨vc,vf⟩:=(hG.2.ZX 0 rfl).both;have Bn:JU W H ZJ (2*((x:Int)+(i:Int))+vx) (2*((y:Int)+(j:Int))+vy)=(zX W H ZJ x y 16 vx vy (j*16+i)).toNat:=(uQ _ _ _ _ _ _ _ _ _ _ Pq).symm;have HK:=Z5 hG Bn;clear hG Bn;go_wp2_with fail;refine YX (AZ _ W H A n c ZJ HI.out.1 HI.out.2.1 (HI.out.2.2.quiet HK.out.1.2.mod) _ _ ⟨Z8,Z8⟩ ⟨Z8,Z8⟩) fun w6 Xt=>?_;rw [HK.out.2];have HA:=Z5 (HK.out.1.quiet Xt) ((HK.out.1.quiet Xt).2.mod.size);clear Xt pc pf vc vf;go_wp2_with (at_builtin;have _t:=HA;refine VR _ rfl (.tmp 61) (.tmp 78) rfl w.heap.size _ (VZ (zX W H ZJ x y 16 vx vy) (j*16+i)) (zX W H ZJ x y 16 vx vy (j*16+i)) rfl rfl HA.out.1.1 HA.out.2 (by rw [RL];omega) ?_;intro v7 w7 NK Bi _ _;have HO:=Z7 (HA.out.1.app (by intro e he;simp at he;rcases he with rfl|rfl<;>(dsimp only;decide)) NK Bi);clear NK Bi)
     go_roundw
     case rel=>exact⟨i+1,Z8,Zr,by rw [<-Nat.add_assoc,P7];exact HO.out⟩
     case measure=>exact YD
    ·obtain rfl:i=16:=Z8;have HK:=Z7 hG;clear hG;go_wp2_with fail;go_roundw
     case rel=>exact⟨j+1,Z8,Zr,by rw [Nat.add_mul,Nat.one_mul];exact HK.out⟩
     case measure=>exact YD
  ·obtain rfl:j=16:=Z8;go_wp2_with fail;go_ret;exact⟨_,rfl,HG.out.1,HG.out.2.mod⟩
end Go.Proofs.YthednemlahioeaaGreatDoor
