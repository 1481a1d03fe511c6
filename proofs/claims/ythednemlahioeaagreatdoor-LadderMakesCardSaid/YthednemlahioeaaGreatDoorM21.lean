/-
  The segments of a rendition, frame by frame, in plain Lean.
-/
import Derived.Test.YthednemlahioeaaGreatDoorM20
namespace Go.Proofs.YthednemlahioeaaGreatDoor
open Go.RowKit
open List renaming range→Zz,length_map→Zg,length_range→XO,range_succ→Y9,map_append→YP,append_nil→Tn,all_append→Vt,all_cons→Te,all_nil→Sd
open Nat renaming add_mul_div_left→Su,div_eq_of_lt→VU,mul_comm→YA,mod_lt→VV
open Rg renaming zero→XG,cells→PL
open Bool renaming and_false→ZE,false_and→Zp,and_true→XK,true_and→YS
open Lib renaming hid→Z7
open And renaming intro→Z9
open Ya renaming zero→YL,cells→Vh
open Go.Proofs.Tryz
set_option maxRecDepth 100000
set_option maxHeartbeats 8000000
def Iz(d:Yz)(G tg q:Nat)(fs:List Yy)(i:Nat):List (List (List UInt8 × Yy)):=(Zz i).map fun k=>V8 d G tg q fs k G
def SK(d:Yz)(G tg q:Nat)(fs:List Yy)(m:Nat):List (List (List UInt8 × Yy)):=Iz d G tg q fs (m/G)++(if m % G=0 then []else [V8 d G tg q fs (m/G) (m % G)])
theorem abB(d:Yz)(G tg q:Nat)(fs:List Yy)(i:Nat):V8 d G tg q fs i 0=[]:=rfl
theorem Sm(d:Yz)(G tg q:Nat)(fs:List Yy)(i j:Nat):(V8 d G tg q fs i j).length=j:=by unfold V8;rw [Zg,XO]
theorem P6(d:Yz)(G tg q:Nat)(fs:List Yy)(i:Nat):(Iz d G tg q fs i).length=i:=by unfold Iz;rw [Zg,XO]
theorem ab7(d:Yz)(G tg q:Nat)(fs:List Yy)(i:Nat):Iz d G tg q fs (i+1)=Iz d G tg q fs i++[V8 d G tg q fs i G]:=by unfold Iz;rw [Y9,YP];rfl
theorem aaI(d:Yz)(G tg q:Nat)(fs:List Yy):SK d G tg q fs 0=[]:=by unfold SK;simp [Iz]
theorem aaJ{d:Yz}{G tg q:Nat}{fs:List Yy}{m:Nat}(h:m % G=0):SK d G tg q fs m++[[]]=Iz d G tg q fs (m/G)++[V8 d G tg q fs (m/G) (m % G)]:=by
 unfold SK;rw [if_pos h,h,Tn,abB]
theorem abX{d:Yz}{G tg q:Nat}{fs:List Yy}{m:Nat}(h:m % G≠0):SK d G tg q fs m=Iz d G tg q fs (m/G)++[V8 d G tg q fs (m/G) (m % G)]:=by
 unfold SK;rw [if_neg h]
theorem wI{m G:Nat}(hG:1<=G):(m % G+1<G->(m+1)/G=m/G/\(m+1) % G=m % G+1)/\(m % G+1=G->(m+1)/G=m/G+1/\(m+1) % G=0):=by
 have h1:=Nat.div_add_mod m G;constructor
 ·intro h;have e:m+1=m % G+1+G*(m/G):=Z8;rw [e,Su _ _ Z8,Nat.add_mul_mod_self_left,VU h,Nat.mod_eq_of_lt h];omega
 ·intro h;have e:m+1=0+G*(m/G+1):=by rw [Nat.mul_add];omega
  rw [e,Su _ _ Z8,Nat.add_mul_mod_self_left];simp
theorem FL{d:Yz}{G tg q:Nat}{fs:List Yy}{m:Nat}(hG:1<=G):Iz d G tg q fs (m/G)++[V8 d G tg q fs (m/G) (m % G)++[U0 d G tg q fs m]]=SK d G tg q fs (m+1):=by
 have h1:m/G*G+m % G=m:=by rw [YA];exact Nat.div_add_mod m G
 have h2:V8 d G tg q fs (m/G) (m % G)++[U0 d G tg q fs m]=V8 d G tg q fs (m/G) (m % G+1):=by rw [DZ,h1]
 rw [h2];have hlt:=VV m (show G > 0 by omega);unfold SK;by_cases h:m % G+1<G
 ·obtain⟨e1,e2⟩:=(wI hG).1 h;rw [e1,e2,Xb]
 ·have h3:m % G+1=G:=Z8;obtain⟨e1,e2⟩:=(wI hG).2 h3;rw [e1,e2,if_pos rfl,ab7,h3,Tn]
theorem abh{d:Yz}{G tg q:Nat}{fs:List Yy}(hG:1<=G):SK d G tg q fs fs.length=Nt d G tg q fs:=by
 obtain⟨n,hn⟩:=ZL (fs.length);have hd:=Nat.div_add_mod n G;have hlt:=VV n (show G > 0 by omega);unfold Nt;rw [<-hn];have Jh:Lu G n=n/G+(if n % G=0 then 0 else 1):=by
  unfold Lu;by_cases h:n % G=0
  ·rw [if_pos h];have e:n+G-1=(G-1)+G*(n/G):=Z8;rw [e,Su _ _ Z8,VU Z8];omega
  ·rw [if_neg h];have e:n+G-1=(n % G-1)+G*(n/G+1):=by rw [Nat.mul_add];omega
   rw [e,Su _ _ Z8,VU Z8];omega
 have hlen:∀i,i<n/G->Rl G n i=G:=fun i hi=>by
  unfold Rl;have h1:(i+1)*G<=n/G*G:=Nat.mul_le_mul_right G hi;rw [Nat.add_mul,YA (n/G) G]at h1;omega
 have eG:(Zz (n/G)).map (SI d G tg q fs)=Iz d G tg q fs (n/G):=by
  unfold Iz;refine List.map_congr_left (fun i hi=>?_);unfold SI V8;rw [<-hn,hlen i (List.mem_range.1 hi)]
 unfold SK;rw [Jh];by_cases h:n % G=0
 ·rw [if_pos h,if_pos h,Nat.add_zero,eG,Tn]
 ·rw [if_neg h,if_neg h,Y9,YP,eG];congr 1;show [_]=[SI d G tg q fs (n/G)]
  unfold SI V8 Rl;rw [<-hn];have:min G (n-n/G*G)=n % G:=by rw [YA];omega
  rw [this]
theorem abK(d:Yz)(G tg q:Nat)(fs:List Yy):Xr d G tg q fs 0=(q,KZ):=rfl
structure Nz(w:World)(A:Option Addr)(n c:Nat)(rs:List Rg):Prop where
 len:rs.length=n
 cap:n<=c
 nm:∀i,(rs.getD i XG).name.length<=9223372036854775807
 at_:∀i,i<n->∃b o,A=some ⟨b,o,none⟩/\b<w.heap.size/\∀(j:Nat) (v:Value),(rs.getD i XG).cells[j]?=some v->w.cell? ⟨b,o+i*4+j,none⟩=some v
theorem Nz.quiet{w w':World}{A:Option Addr}{n c:Nat}{rs:List Rg}(h:Nz w A n c rs)(hm:Mod ↑ZW w w'):Nz w' A n c rs:=
 ⟨h.len,h.cap,h.nm,fun i hi=>by
  obtain⟨b,o,h1,h2,h3⟩:=h.at_ i hi;exact⟨b,o,h1,Nat.lt_of_lt_of_le h2 hm.size,fun j v hv=>(World.cell?_of_block (hm.block b h2 (fun h=>h))).trans (h3 j v hv)⟩⟩
theorem Tk(a b:List UInt8):((strOf a).toList == (strOf b).toList)=decide (a=b):=by
 rw [IJ,IJ,Bool.eq_iff_iff,beq_iff_eq,decide_eq_true_eq]
def kD(w:World)(W H G:Int)(rs:List Rg)(n:Nat)(v:Value)(wr:World):Prop:=∃i:Nat,i<=n/\v=↑i/\Mm W H G rs i=true/\Mod ↑ZW w wr
def afv(w:World)(rb:Nat)(rs:List Rg)(i:Nat)(v:Value)(wr:World):Prop:=∃k:Nat,k<=i/\v=↑k/\((Zz k).all fun k=>decide ((rs.getD k XG).name≠(rs.getD i XG).name))=true/\ZI wr rb 38 (rs.getD i XG).cells.toArray/\Mod ↑ZW w wr
def U4(W H G:Int)(rs:List Rg):Int:=if Us W H G rs then 0 else 151
theorem Rk{W H G:Int}{rs:List Rg}{i:Nat}(hi:i<=rs.length)(h:Mm W H G rs i=false):U4 W H G rs=151:=by
 have h2:Us W H G rs=false:=by unfold Us;rw [abZ hi h,ZE]
 unfold U4;rw [h2];rfl
theorem NL{W H G:Int}{rs:List Rg}(h:¬(1<=rs.length/\rs.length<=8)):U4 W H G rs=151:=by
 have h2:Us W H G rs=false:=by unfold Us;rw [decide_eq_false h,Zp]
 unfold U4;rw [h2];rfl
theorem FB{W H G:Int}{rs:List Rg}(h:Us W H G rs=true):U4 W H G rs=0:=by
 unfold U4;rw [h];rfl
theorem nR(w:World)(W H G:Int)(A:Option Addr)(n c:Nat)(rs:List Rg)(h:Nz w A n c rs)(hn:n<=9223372036854775807)(hW:-1099511627776<=W/\W<=1099511627776)(hH:-1099511627776<=H/\H<=1099511627776):
  Calls prog 13 #[↑W,↑H,↑G,.slice A n c] w fun e w'=>e=.returned (.int .i64 (U4 W H G rs))/\Mod ↑ZW w w':=by
 have hlen:=h.len;have KL:=h.cap;have HH:=Z7 h;clear h;by_cases h1:n<1
 ·have d1:=Zb ((n:Int)<1);have HN:=Z7 (NL (W:=W) (H:=H) (G:=G) (rs:=rs) Z8);go_enter func13,ntmps13;go_wp2_with fail;go_ret;exact⟨by rw [HN.out];rfl,Mod.refl _ _⟩
 have d1:=Za ((n:Int)<1);by_cases h2:8<n
 ·have d2:=Zb (8<(n:Int));have HN:=Z7 (NL (W:=W) (H:=H) (G:=G) (rs:=rs) Z8);go_enter func13,ntmps13;go_wp2_with fail;go_ret;exact⟨by rw [HN.out];rfl,Mod.refl _ _⟩
 have d2:=Za (8<(n:Int));have FW:=Z7 hlen;clear hlen;go_enter func13,ntmps13;go_wp2_with fail;go_loopw [23] (kD w W H G rs n) (fun i _=>n-(intOf i).toNat)
 case atStart=>exact⟨0,Z8,rfl,rfl,Mod.refl _ _⟩
 case round=>
  obtain⟨i,hi,rfl,O1,hM⟩:=hrel;rename World=>wr
  by_cases hlt:i<n
  ·have d3:=Zb ((i:Int)<(n:Int));obtain⟨b,o,rfl,hb,Zm⟩:=(HH.out.quiet hM).at_ i hlt;obtain⟨r,hr⟩:=ZL (rs.getD i XG);rw [<-hr]at Zm;have k0:wr.cell? ⟨b,o+i*4,none⟩=some (.string (strOf r.name)):=Zm 0 _ rfl;have k1:=Zm 1 _ rfl;have k2:=Zm 2 _ rfl;have k3:=Zm 3 _ rfl;have RC:=abD (wr.alloc (.cells r.cells.toArray 38)) W H G r (by rw [hr];exact HH.out.nm i) hW hH;unfold PL at RC;have hb0:=ZI.new wr 38 r.cells.toArray;have HK:=Z5 O1 (Z9 hM (Z9 hr (Z9 RC hb0)));clear O1 hM hr RC hb0 Zm hb;go_wp2_with fail;refine HK.out.2.2.2.1.mono ?_;rintro e w1 ⟨rfl,Y6⟩;cases hrg:Yb W H G r with
   | false=>
    have H1:=Z5 ((HK.out.2.1.alloc (.cells r.cells.toArray 38)).trans Y6) (Rk (W:=W) (H:=H) (G:=G) (rs:=rs) (i:=i+1) (by rw [FW.out];omega) (by rw [Wx,<-HK.out.2.2.1,hrg,Zp,ZE]));clear hrg Y6 k0 k1 k2 k3;go_wp2_with fail;go_ret;exact⟨by rw [H1.out.2];rfl,H1.out.1⟩
   | true=>
    obtain⟨rb,Rq⟩:=ZL (wr.heap.size);have hb1:=HK.out.2.2.2.2.keep Y6 (fun h=>h);rw [<-Rq]at hb1 ⊢;have Ck:=(HK.out.2.1.alloc (.cells r.cells.toArray 38)).trans Y6;have HR:=Z5 hrg (Z9 hb1 Ck);clear hrg Y6 k0 k1 k2 k3 hb1 Ck Rq;go_wp2_with fail;go_loopw [38] (afv w rb rs i) (fun k _=>i-(intOf k).toNat)
    case atStart=>exact⟨0,Z8,rfl,rfl,by rw [<-HK.out.2.2.1];exact HR.out.2.1,HR.out.2.2⟩
    case round=>
     obtain⟨k,hk,rfl,hno,UQ,RZ⟩:=hrel;rename World=>wq
     by_cases hlk:k<i
     ·have d4:=Zb ((k:Int)<(i:Int));obtain⟨b',o',hA',hb',Zm⟩:=(HH.out.quiet RZ).at_ k Z8;injection hA' with hA';injection hA' with Ol Om;subst Ol Om;obtain⟨r2,hr2⟩:=ZL (rs.getD k XG);rw [<-hr2]at Zm;have k0:wq.cell? ⟨b,o+k*4,none⟩=some (.string (strOf r2.name)):=Zm 0 _ rfl;have k1:=Zm 1 _ rfl;have k2:=Zm 2 _ rfl;have k3:=Zm 3 _ rfl;rw [<-HK.out.2.2.1]at UQ;have ai1:=UQ.alloc (.cells r2.cells.toArray 38);obtain⟨rc,rf⟩:=ai1.both;unfold PL at rc;have q0:(wq.alloc (.cells r2.cells.toArray 38)).cell? ↑rb=some (.string (strOf r.name)):=rc 0;unfold PL at q0;have HQ:=Z5 hno (Z9 UQ (Z9 RZ hr2));clear hno UQ RZ hr2 Zm hb' rc ai1;by_cases hs:r2.name=r.name
      ·have y1:((strOf r2.name).toList == (strOf r.name).toList)=true:=by rw [Tk];exact decide_eq_true hs
       have H2:=Z5 (HQ.out.2.2.1.alloc (.cells r2.cells.toArray 38)) (Rk (W:=W) (H:=H) (G:=G) (rs:=rs) (i:=i+1) (by rw [FW.out];omega) (by rw [Wx,OB hlk (by rw [<-HQ.out.2.2.2,<-HK.out.2.2.1];exact hs),ZE,ZE]));clear hs;go_wp2_with fail;go_ret;exact⟨by rw [H2.out.2];rfl,H2.out.1⟩
      ·have y1:((strOf r2.name).toList == (strOf r.name).toList)=false:=by rw [Tk];exact decide_eq_false hs
       have H2:=Z5 (HQ.out.2.2.1.alloc (.cells r2.cells.toArray 38)) (Z9 (HQ.out.2.1.alloc (.cells r2.cells.toArray 38)) hs);clear hs;go_wp2_with fail;go_roundw
       case rel=>
        refine⟨k+1,Z8,Zr,?_,by rw [<-HK.out.2.2.1];exact H2.out.2.1,H2.out.1⟩;rw [Y9,Vt,HQ.out.1,Te,Sd,XK,YS];exact decide_eq_true (by rw [<-HQ.out.2.2.2,<-HK.out.2.2.1];exact H2.out.2.2)
       case measure=>exact YD
     ·obtain rfl:k=i:=Z8;have d4:=Za ((k:Int)<(k:Int));have H2:=Z5 hno RZ;clear hno UQ RZ;go_wp2_with fail;go_roundw
      case rel=>
       refine⟨k+1,Z8,Zr,?_,H2.out.2⟩;rw [Wx,HK.out.1,<-HK.out.2.2.1,HR.out.1,YS,YS,HK.out.2.2.1];exact H2.out.1
      case measure=>exact YD
  ·obtain rfl:i=n:=Z8;have d3:=Za ((i:Int)<(i:Int));have HR:Hid (U4 W H G rs=0):=by show _=_;refine FB ?_;unfold Us;rw [FW.out,O1,XK];exact decide_eq_true ⟨Z8,Z8⟩
   have H1:=Z7 hM;clear O1 hM;go_wp2_with fail;go_ret;exact⟨by rw [HR.out];rfl,H1.out⟩
theorem Vx{w w':World}{b o:Nat}(hm:Mod ↑ZW w w')(hb:b<w.heap.size):w'.cell? ⟨b,o,none⟩=w.cell? ⟨b,o,none⟩:=World.cell?_of_block (hm.block b hb (fun h=>h))
def aft(w:World)(n:Nat)(e:Ending)(w':World):Prop:=w=w'/\∃b,e=.returned (.bool b)/\(b=true->n<=20)
theorem ads(w:World)(A:Option Addr)(n c:Nat)(rs:List Rg)(h:Nz w A n c rs)(hn:n<=9223372036854775807):Calls prog 11 #[.slice A n c] w (aft w n):=by
 have HH:=Z7 h;clear h;go_enter func11,ntmps11;go_wp2_with fail;go_loop [3] (fun v=>∃k:Nat,k<=n/\k<=20/\v=↑k) (fun i=>n-(intOf i).toNat)
 case atStart=>exact⟨0,Z8,Z8,rfl⟩
 case round=>
  obtain⟨k,hk,hk2,rfl⟩:=hrel;by_cases hlt:k<n
  ·have d1:=Zb ((k:Int)<(n:Int));by_cases h20:k=20
   ·have d2:((k:Int) == 20)=true:=by simp;omega
    clear h20;go_wp2_with fail;go_ret;exact⟨rfl,false,rfl,fun h=>(by cases h)⟩
   ·have d2:((k:Int) == 20)=false:=by simp;omega
    obtain⟨b,o,rfl,hb,Zm⟩:=HH.out.at_ k hlt;obtain⟨r,hr⟩:=ZL (rs.getD k XG);rw [<-hr]at Zm;have k0:w.cell? ⟨b,o+k*4,none⟩=some (.string (strOf r.name)):=Zm 0 _ rfl;have hsz:=OC r.name;have Gn:=HH.out.nm k;rw [<-hr]at Gn;clear Zm hb hr;by_cases h3:300<r.name.length
    ·have d3:=Zb (300<(r.name.length:Int));go_wp2_with fail;go_ret;exact⟨rfl,false,rfl,fun h=>(by cases h)⟩
    ·have d3:=Za (300<(r.name.length:Int));go_wp2_with fail;exact⟨⟨k+1,Z8,Z8,Zr⟩,by simp [intOf];omega⟩
  ·obtain rfl:k=n:=Z8;have d1:=Za ((k:Int)<(k:Int));go_wp2_with fail;go_ret;exact⟨rfl,true,rfl,fun _=>hk2⟩
def Ya.small(f:Ya):Prop:=f.wQ=true/\f.W0<=32/\f.H0<=32
def ahu(w:World)(n m:Nat)(fs:List Ya)(e:Ending)(w':World):Prop:=
 ∃b,e=.returned (.bool b)/\(b=true->n<=5/\(∀j,j<n->(fs.getD j YL).small)/\m<=3)/\Mod ↑ZW w w'
def aco(w:World)(n:Nat)(fs:List Ya)(v:Value)(wr:World):Prop:=∃k:Nat,k<=n/\k<=5/\v=↑k/\(∀j,j<k->(fs.getD j YL).small)/\Mod ↑ZW w wr
theorem aeN(w:World)(A:Option Addr)(n c:Nat)(fs:List Ya)(h:ME w A n fs)(hn:n<=9223372036854775807)(A2:Option Addr)(m c2:Nat)(rs:List Rg)(hr:Nz w A2 m c2 rs)(hm:m<=9223372036854775807):Calls prog 15 #[.slice A n c,.slice A2 m c2] w (ahu w n m fs):=by
 have HH:=Z7 h;have HG:=Z7 hr;clear h hr;go_enter func15,ntmps15;go_wp2_with fail;go_loopw [5] (aco w n fs) (fun i _=>n-(intOf i).toNat)
 case atStart=>exact⟨0,Z8,Z8,rfl,fun j h=>absurd h Z8,Mod.refl _ _⟩
 case round=>
  rename World=>wr
  obtain⟨k,hk,eO,rfl,hall,hM⟩:=hrel;by_cases hlt:k<n
  ·obtain⟨b,o,hA,hb,Zm,YZ⟩:=(HH.out.quiet hM).at_ k hlt;subst hA;have d1:=Zb ((k:Int)<(n:Int));obtain⟨f,hf⟩:=ZL (fs.getD k YL);rw [<-hf]at Zm YZ;have hLF:=aav wr f YZ;obtain⟨t,ht⟩:=ZL (f.wQ);rw [<-ht]at hLF;have k0:wr.cell? ⟨b,o+k*9,none⟩=some (.int .i64 f.W0):=Zm 0 _ rfl;have k1:=Zm 1 _ rfl;have k2:=Zm 2 _ rfl;have k3:=Zm 3 _ rfl;have k4:=Zm 4 _ rfl;have k5:=Zm 5 _ rfl;have k6:=Zm 6 _ rfl;have k7:=Zm 7 _ rfl;have k8:=Zm 8 _ rfl;unfold Vh at hLF;have HL:=Z5 hLF (Z9 hall (Z9 hM (Z9 hf (Z9 ht Zm))));clear hLF hall hM hf ht Zm YZ;go_wp2_with fail;refine HL.out.1.mono ?_;rintro e w2 ⟨rfl,Y3⟩;have H2:=Z7 (HL.out.2.2.1.trans Y3);have q0:w2.cell? ⟨b,o+k*9,none⟩=some (.int .i64 f.W0):=(Vx Y3 hb).trans k0;have q1:w2.cell? ⟨b,o+k*9+1,none⟩=some (.int .i64 f.H0):=(Vx Y3 hb).trans k1;clear Y3 k0 k1 k2 k3 k4 k5 k6 k7 k8 hb;cases t
   ·go_wp2_with fail;go_ret;exact⟨false,rfl,fun h=>(by cases h),H2.out⟩
   ·by_cases h6:k=5
    ·have d2:((k:Int) == 5)=true:=by simp;omega
     clear h6;go_wp2_with fail;go_ret;exact⟨false,rfl,fun h=>(by cases h),H2.out⟩
    ·have d2:((k:Int) == 5)=false:=by simp;omega
     by_cases hw:32<f.W0
     ·have d3:decide (32<f.W0)=true:=decide_eq_true hw;go_wp2_with fail;go_ret;exact⟨false,rfl,fun h=>(by cases h),H2.out⟩
     ·have d3:decide (32<f.W0)=false:=decide_eq_false hw;by_cases hh:32<f.H0
      ·have d4:decide (32<f.H0)=true:=decide_eq_true hh;go_wp2_with fail;go_ret;exact⟨false,rfl,fun h=>(by cases h),H2.out⟩
      ·have d4:decide (32<f.H0)=false:=decide_eq_false hh;go_wp2_with fail;go_roundw
       case rel=>
        refine⟨k+1,Z8,Z8,Zr,fun j hj=>?_,H2.out⟩;by_cases e:j=k
        ·rw [e,<-HL.out.2.2.2.1];exact⟨HL.out.2.2.2.2.1.symm,Z8,Z8⟩
        ·exact HL.out.2.1 j Z8
       case measure=>exact YD
  ·obtain rfl:k=n:=Z8;have d1:=Za ((k:Int)<(k:Int));have HL:=Z5 hall hM;have iP:=ads wr A2 m c2 rs (HG.out.quiet hM) hm;have HN:=Z7 iP;clear hall hM iP;go_wp2_with fail;refine HN.out.mono ?_;rintro e w2 ⟨rfl,b,rfl,hb⟩;cases b
   ·go_wp2_with fail;go_ret;exact⟨false,rfl,fun h=>(by cases h),HL.out.2⟩
   ·by_cases h3:m<=3
    ·have d2:=Zb ((m:Int)<=3);go_wp2_with fail;go_ret;exact⟨true,rfl,fun _=>⟨eO,HL.out.1,h3⟩,HL.out.2⟩
    ·have d2:=Za ((m:Int)<=3);go_wp2_with fail;go_ret;exact⟨false,rfl,fun h=>(by cases h),HL.out.2⟩
def Ya.Nv(f:Ya):Bool:=Ye f.W0 f.H0 f.n0 f.W1 f.H1 f.n1 f.W2 f.H2 f.n2
def Ya.Ox(f0 f:Ya):Bool:=f.Nv&&(decide (f.W0=f0.W0)&&decide (f.H0=f0.H0))
def Ni(fs:List Ya)(n:Nat):Bool:=(Zz n).all fun i=>Ya.Ox (fs.getD 0 YL) (fs.getD i YL)
def Pj(fs:List Ya):Bool:=decide (1<=fs.length/\fs.length<=1024)&&Ni fs fs.length
theorem NC(fs:List Ya)(n:Nat):Ni fs (n+1)=(Ni fs n&&Ya.Ox (fs.getD 0 YL) (fs.getD n YL)):=by
 unfold Ni;rw [Y9,Vt,Te,Sd,XK]
theorem acy{fs:List Ya}{n m:Nat}(hn:n<=m)(h0:Ni fs n=false):Ni fs m=false:=by
 induction m with
 | zero=>
  obtain rfl:n=0:=Z8;exact h0
 | succ m ih=>
  by_cases hm:n=m+1
  ·rw [<-hm];exact h0
  ·rw [NC,ih Z8,Zp]
theorem MI{fs:List Ya}{k:Nat}(hk:k<fs.length)(h:Ya.Ox (fs.getD 0 YL) (fs.getD k YL)=false):Pj fs=false:=by
 unfold Pj;rw [acy (n:=k+1) Z8 (by rw [NC,h,ZE]),ZE]
theorem JZ{fs:List Ya}(h:¬(1<=fs.length/\fs.length<=1024)):Pj fs=false:=by
 unfold Pj;rw [decide_eq_false h,Zp]
theorem Az{fs:List Ya}{n i:Nat}(h:Ni fs n=true)(hi:i<n):Ya.Ox (fs.getD 0 YL) (fs.getD i YL)=true:=by
 unfold Ni at h;rw [List.all_eq_true]at h;exact h i (List.mem_range.2 hi)
def rH(w:World)(fs:List Ya)(n:Nat)(v:Value)(wr:World):Prop:=∃k:Nat,k<=n/\v=↑k/\Ni fs k=true/\Mod ↑ZW w wr
theorem Jk(w:World)(A:Option Addr)(n c:Nat)(fs:List Ya)(h:ME w A n fs)(hn:n<=9223372036854775807):Calls prog 53 #[.slice A n c] w fun e w'=>e=.returned (.bool (Pj fs))/\Mod ↑ZW w w':=by
 have hlen:=h.len;have HH:=Z7 h;clear h;by_cases h1:n<1
 ·have d1:=Zb ((n:Int)<1);have HR:=Z7 (JZ (fs:=fs) Z8);clear hlen;go_enter func53,ntmps53;go_wp2_with fail;go_ret;exact⟨by rw [HR.out];rfl,Mod.refl _ _⟩
 have d1:=Za ((n:Int)<1);by_cases h2:1024<n
 ·have d2:=Zb (1024<(n:Int));have HR:=Z7 (JZ (fs:=fs) Z8);clear hlen;go_enter func53,ntmps53;go_wp2_with fail;go_ret;exact⟨by rw [HR.out];rfl,Mod.refl _ _⟩
 have d2:=Za (1024<(n:Int));have FW:=Z7 hlen;clear hlen;go_enter func53,ntmps53;go_wp2_with fail;go_loopw [15] (rH w fs n) (fun i _=>n-(intOf i).toNat)
 case atStart=>exact⟨0,Z8,rfl,rfl,Mod.refl _ _⟩
 case round=>
  rename World=>wr
  obtain⟨k,hk,rfl,O1,hM⟩:=hrel;by_cases hlt:k<n
  ·obtain⟨b,o,hA,hb,Zm,YZ⟩:=(HH.out.quiet hM).at_ k hlt;subst hA;obtain⟨b',o',hA',hb',hcell0,_⟩:=(HH.out.quiet hM).at_ 0 Z8;injection hA' with hA';injection hA' with Ol Om;subst Ol Om;have d3:=Zb ((k:Int)<(n:Int));have JD:0<n:=Z8;obtain⟨f,hf⟩:=ZL (fs.getD k YL);obtain⟨f0,ed⟩:=ZL (fs.getD 0 YL);rw [<-hf]at Zm YZ;rw [<-ed]at hcell0;have k0:wr.cell? ⟨b,o+k*9,none⟩=some (.int .i64 f.W0):=Zm 0 _ rfl;have k1:=Zm 1 _ rfl;have k2:=Zm 2 _ rfl;have k3:=Zm 3 _ rfl;have k4:=Zm 4 _ rfl;have k5:=Zm 5 _ rfl;have k6:=Zm 6 _ rfl;have k7:=Zm 7 _ rfl;have k8:=Zm 8 _ rfl;have z0:wr.cell? ⟨b,o,none⟩=some ↑f0.W0:=by have:=hcell0 0 _ rfl;simpa using this
   have z1:wr.cell? ⟨b,o+1,none⟩=some ↑f0.H0:=by have:=hcell0 1 _ rfl;simpa using this
   have zD:=ZI.new wr 58 f.cells.toArray;have HB:=Z5 zD (Z9 hb (Z9 z0 (Z9 z1 (Z9 O1 (Z9 hM (Z9 hf ed))))));clear Zm hcell0 YZ hb hb' O1 hM hf ed z0 z1 zD;go_upto_region 6 with(fail)
   clear k0 k1 k2 k3 k4 k5 k6 k7 k8;obtain⟨fb,Px⟩:=ZL (wr.heap.size);have zD:=HB.out.1;unfold Vh at zD;have Me:Mod ↑ZW wr (wr.alloc (.cells #[.int .i64 f.W0,.int .i64 f.H0,.slice f.A0 f.n0 f.c0,.int .i64 f.W1,.int .i64 f.H1,.slice f.A1 f.n1 f.c1,.int .i64 f.W2,.int .i64 f.H2,.slice f.A2 f.n2 f.c2] 58)):=(Mod.refl _ wr).alloc _;rw [<-Px]at zD ⊢;have HX:=Z5 zD Me;clear zD Me Px;generalize wr.alloc (.cells #[.int .i64 f.W0,.int .i64 f.H0,.slice f.A0 f.n0 f.c0,.int .i64 f.W1,.int .i64 f.H1,.slice f.A1 f.n1 f.c1,.int .i64 f.W2,.int .i64 f.H2,.slice f.A2 f.n2 f.c2] 58)=w1 at *;have fbx:=(HX.out.1).drew;obtain⟨fc,ff⟩:=fbx.both;have HM1:=Z7 (HB.out.2.2.2.2.2.1.trans HX.out.2).drew;cases hw:f.Nv with
   | false=>
    have HR:=Z7 (MI (fs:=fs) (k:=k) (by rw [FW.out];omega) (by rw [<-HB.out.2.2.2.2.2.2.1,<-HB.out.2.2.2.2.2.2.2];unfold Ya.Ox;rw [hw,Zp]));have HW:=Z7 hw;clear hw fbx;refine YY [1] [] [0,1,2,3,4,5,6,7,8,9,10,11,12,13,14,15,16,17,18,19,20,21,22,23,24] (fun _=>True) ZR ZR Xc trivial ?_;refine Zc ?_;refine Zf rfl rfl (fun K hK=>?_);go_simp;refine YX (Mh _ f.W0 f.H0 f.W1 f.H1 f.W2 f.H2 f.A0 f.A1 f.A2 f.n0 f.c0 f.n1 f.c1 f.n2 f.c2) fun w2 Y3=>?_;have nL:Ye f.W0 f.H0 f.n0 f.W1 f.H1 f.n1 f.W2 f.H2 f.n2=false:=HW.out;rw [nL];have H2:=Z7 (HM1.out.trans Y3);clear Y3 nL fc ff;dsimp only [];refine hK _ _ trivial ?_;clear hK K
    (iterate 23 (refine Zc ?_));refine Yg ?_;go_wp2_with fail
    go_ret;exact⟨by rw [HR.out];rfl,H2.out⟩
   | true=>
    have HW:=Z7 hw;clear hw fbx;by_cases hW:f.W0=f0.W0
    ·by_cases hH:f.H0=f0.H0
     ·have n1:(f.W0 != f0.W0)=false:=by simpa using hW
      have n2:(f.H0 != f0.H0)=false:=by simpa using hH
      have HL:=Z7 (show Ya.Ox f0 f=true by unfold Ya.Ox;rw [HW.out,decide_eq_true hW,decide_eq_true hH];rfl);clear hW hH;refine YY [1] [] [0,1,2,3,4,5,6,7,8,9,10,11,12,13,14,15,16,17,18,19,20,21,22,23,24] (fun _=>True) ZR ZR Xc trivial ?_;refine Zc ?_;refine Zf rfl rfl (fun K hK=>?_);go_simp;refine YX (Mh _ f.W0 f.H0 f.W1 f.H1 f.W2 f.H2 f.A0 f.A1 f.A2 f.n0 f.c0 f.n1 f.c1 f.n2 f.c2) fun w2 Y3=>?_;have nL:Ye f.W0 f.H0 f.n0 f.W1 f.H1 f.n1 f.W2 f.H2 f.n2=true:=HW.out;rw [nL];have hq:=(HX.out.1.drew).keep Y3 (fun h=>h);have Tx:=HX.out.2.trans ((Mod.refl ↑ZW w1).drew.trans Y3);have H2:=Z7 (HM1.out.trans Y3);clear fc ff;obtain⟨fc,ff⟩:=hq.both;have z0:w2.cell? ⟨b,o,none⟩=some ↑f0.W0:=(Vx Tx HB.out.2.1).trans HB.out.2.2.1;have z1:w2.cell? ⟨b,o+1,none⟩=some ↑f0.H0:=(Vx Tx HB.out.2.1).trans HB.out.2.2.2.1;clear Y3 nL hq Tx;dsimp only [];refine hK _ _ trivial ?_;clear hK K
      (iterate 23 (refine Zc ?_));refine Yg ?_;go_wp2_with fail
      go_roundw
      case rel=>exact⟨k+1,Z8,Zr,by rw [NC,HB.out.2.2.2.2.1,<-HB.out.2.2.2.2.2.2.1,<-HB.out.2.2.2.2.2.2.2,HL.out];rfl,H2.out⟩
      case measure=>exact YD
     ·have n1:(f.W0 != f0.W0)=false:=by simpa using hW
      have n2:(f.H0 != f0.H0)=true:=by simpa using hH
      have HR:=Z7 (MI (fs:=fs) (k:=k) (by rw [FW.out];omega) (by rw [<-HB.out.2.2.2.2.2.2.1,<-HB.out.2.2.2.2.2.2.2];unfold Ya.Ox;rw [decide_eq_false hH,ZE,ZE]));clear hW hH;refine YY [1] [] [0,1,2,3,4,5,6,7,8,9,10,11,12,13,14,15,16,17,18,19,20,21,22,23,24] (fun _=>True) ZR ZR Xc trivial ?_;refine Zc ?_;refine Zf rfl rfl (fun K hK=>?_);go_simp;refine YX (Mh _ f.W0 f.H0 f.W1 f.H1 f.W2 f.H2 f.A0 f.A1 f.A2 f.n0 f.c0 f.n1 f.c1 f.n2 f.c2) fun w2 Y3=>?_;have nL:Ye f.W0 f.H0 f.n0 f.W1 f.H1 f.n1 f.W2 f.H2 f.n2=true:=HW.out;rw [nL];have hq:=(HX.out.1.drew).keep Y3 (fun h=>h);have Tx:=HX.out.2.trans ((Mod.refl ↑ZW w1).drew.trans Y3);have H2:=Z7 (HM1.out.trans Y3);clear fc ff;obtain⟨fc,ff⟩:=hq.both;have z0:w2.cell? ⟨b,o,none⟩=some ↑f0.W0:=(Vx Tx HB.out.2.1).trans HB.out.2.2.1;have z1:w2.cell? ⟨b,o+1,none⟩=some ↑f0.H0:=(Vx Tx HB.out.2.1).trans HB.out.2.2.2.1;clear Y3 nL hq Tx;dsimp only [];refine hK _ _ trivial ?_;clear hK K
      (iterate 23 (refine Zc ?_));refine Yg ?_;go_wp2_with fail
      go_ret;exact⟨by rw [HR.out];rfl,H2.out⟩
    ·have n1:(f.W0 != f0.W0)=true:=by simpa using hW
     have HR:=Z7 (MI (fs:=fs) (k:=k) (by rw [FW.out];omega) (by rw [<-HB.out.2.2.2.2.2.2.1,<-HB.out.2.2.2.2.2.2.2];unfold Ya.Ox;rw [decide_eq_false hW,Zp,ZE]));clear hW;refine YY [1] [] [0,1,2,3,4,5,6,7,8,9,10,11,12,13,14,15,16,17,18,19,20,21,22,23,24] (fun _=>True) ZR ZR Xc trivial ?_;refine Zc ?_;refine Zf rfl rfl (fun K hK=>?_);go_simp;refine YX (Mh _ f.W0 f.H0 f.W1 f.H1 f.W2 f.H2 f.A0 f.A1 f.A2 f.n0 f.c0 f.n1 f.c1 f.n2 f.c2) fun w2 Y3=>?_;have nL:Ye f.W0 f.H0 f.n0 f.W1 f.H1 f.n1 f.W2 f.H2 f.n2=true:=HW.out;rw [nL];have hq:=(HX.out.1.drew).keep Y3 (fun h=>h);have Tx:=HX.out.2.trans ((Mod.refl ↑ZW w1).drew.trans Y3);have H2:=Z7 (HM1.out.trans Y3);clear fc ff;obtain⟨fc,ff⟩:=hq.both;have z0:w2.cell? ⟨b,o,none⟩=some ↑f0.W0:=(Vx Tx HB.out.2.1).trans HB.out.2.2.1;have z1:w2.cell? ⟨b,o+1,none⟩=some ↑f0.H0:=(Vx Tx HB.out.2.1).trans HB.out.2.2.2.1;clear Y3 nL hq Tx;dsimp only [];refine hK _ _ trivial ?_;clear hK K
     (iterate 23 (refine Zc ?_));refine Yg ?_;go_wp2_with fail
     go_ret;exact⟨by rw [HR.out];rfl,H2.out⟩
  ·obtain rfl:k=n:=Z8;have d3:=Za ((k:Int)<(k:Int));have HR:Hid (Pj fs=true):=by show _=_;unfold Pj;rw [FW.out,O1,XK];exact decide_eq_true ⟨Z8,Z8⟩
   have H1:=Z7 hM;clear O1 hM;go_wp2_with fail;go_ret;exact⟨by rw [HR.out];rfl,H1.out⟩
end Go.Proofs.YthednemlahioeaaGreatDoor
