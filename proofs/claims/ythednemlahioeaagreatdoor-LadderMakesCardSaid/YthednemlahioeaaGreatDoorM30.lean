/-
  The reference's Unrow.
-/
import Derived.Test.YthednemlahioeaaGreatDoorM29
namespace Go.Proofs.YthednemlahioeaaGreatDoor
open Go.RowKit
open List renaming range→Zz,range_succ→Y9,length_append→YW,getD_eq_getElem?_getD→Z6,getElem?_append_left→Zv,getElem?_append_right→ZF,getElem?_eq_getElem→ZP,getElem_mem→Xo,getElem?_eq_none→Zi,getElem?_take→Wy,getElem_of_mem→Uq,ext_getElem→YU
open Nat renaming pow_succ→XF,add_zero→WV,le_refl→ZY
open Lib renaming hid→Z7
open Zx renaming nil→VG
open World renaming cell?_of_block→ZV
open And renaming intro→Z9
open Go.Proofs.Tryz
set_option maxRecDepth 100000
set_option maxHeartbeats 8000000
def bV(m:Nat)(low l:List Int)(i:Nat):Int:=low.getD i 0-l.getD (m+i) 0/2
def Cw(m:Nat)(low l:List Int)(k:Nat):List Int:=(Zz k).flatMap fun i=>[bV m low l i+l.getD (m+i) 0,bV m low l i]
theorem GD(m:Nat)(low l:List Int)(k:Nat):Cw m low l (k+1)=Cw m low l k++[bV m low l k+l.getD (m+k) 0,bV m low l k]:=by simp [Cw,Y9]
theorem NY(m:Nat)(low l:List Int)(k:Nat):(Cw m low l k).length=2*k:=by
 induction k with
 | zero=>rfl
 | succ k ih=>rw [GD,YW,ih];simp;omega
def IL:Nat->List Int->List Int
 | 0,l=>l
 | j+1,l=>Cw (2 ^ j) (IL j (l.take (2 ^ j))) l (2 ^ j)
theorem QF(j:Nat):∀l:List Int,l.length=2 ^ j->(IL j l).length=2 ^ j:=by
 cases j with
 | zero=>intro l h;exact h
 | succ j=>intro l _;simp only [IL,NY,XF];omega
theorem Lg{M:Int}{l r:List Int}(h0:0<=M)(h:Within M l)(hr:∀x∈r,-M<=x/\x<=M):Within M (l++r):=by
 intro i;rw [Z6];by_cases h1:i<l.length
 ·rw [Zv h1,<-Z6];exact h i
 ·by_cases h2:i<(l++r).length
  ·rw [ZF Z8];have h3:i-l.length<r.length:=by simp at h2;omega
   rw [ZP h3];exact hr _ (Xo h3)
  ·rw [Zi Z8];exact⟨by simp;omega,by simpa using h0⟩
theorem Lh{M:Int}{l:List Int}(h0:0<=M)(h:Within M l)(m:Nat):Within M (l.take m):=by
 intro i;rw [Z6,Wy];split
 ·rw [<-Z6];exact h i
 ·exact⟨by simp;omega,by simpa using h0⟩
theorem aaE{M B:Int}{low l:List Int}(h0:0<=M)(hB:0<=B)(h:Within M l)(hl:Within B low)(m k:Nat):Within (B+M+1) (Cw m low l k):=by
 induction k with
 | zero=>intro i;simp [Cw];omega
 | succ k ih=>
  rw [GD];refine Lg Z8 ih ?_;have a:=h (m+k);have b:=hl k;intro x hx;unfold bV at hx;simp only [List.mem_cons,List.not_mem_nil,or_false]at hx;rcases hx with hx|hx<;>omega
theorem Ev{M:Int}(h0:0<=M)(j:Nat):∀l,Within M l->Within (M+(j:Int)*(M+1)) (IL j l):=by
 induction j with
 | zero=>intro l h;simpa [IL]using h
 | succ j ih=>
  intro l h;have a:=ih (l.take (2 ^ j)) (Lh h0 h _);have hj:0<=(j:Int)*(M+1):=Int.mul_nonneg Z8 Z8;have b:=aaE h0 Z8 h a (2 ^ j) (2 ^ j);have e:M+(((j+1:Nat)):Int)*(M+1)=M+(j:Int)*(M+1)+M+1:=by
   rw [show(((j+1:Nat)):Int)=(j:Int)+1 by omega,Int.add_mul];omega
  rw [e];exact b
theorem IntsIn.part{w:World}{b off n c:Nat}{l:List Int}(h:IntsIn w (some ⟨b,off,none⟩) n c l)(k m c':Nat)(hk:k+m<=n):IntsIn w (some ⟨b,off+k,none⟩) m c' ((l.drop k).take m):=by
 obtain⟨h1,h2,h3,h4⟩:=h;refine⟨by simp;omega,(fun h=>by cases h),⟨by simp [Y4];omega,(fun h=>by cases h),fun ad e i u hu=>?_⟩,fun h0 ad e=>?_⟩
 ·injection e with e;subst e;rw [VW];have hi:i<m:=by
   have:=(List.getElem?_eq_some_iff.1 hu).1;simp [Y4]at this;omega
  have h5:=h3.2.2 _ rfl (k+i) u (by
   rw [<-hu];simp [Y4,hi])
  rw [VW]at h5;rw [<-h5];congr 2;omega
 ·injection e with e;subst e;exact h4 Z8 ⟨b,off,none⟩ rfl
def ajz(w:World)(m:Nat)(low l:List Int)(v5 i:Value)(wr:World):Prop:=
 ∃k:Nat,k<=m/\i=↑k/\Zx wr w.heap.size v5 (Cw m low l k)/\Mod ↑ZW w wr
theorem aaN(w:World)(v:Int)(h:-4611686018427387904<=v/\v<=4611686018427387904)(n:Nat):Calls prog 374 #[↑v] (w.drewN n) fun e w'=>e=.returned (.int .i64 (v/2))/\w'=w.drewN n:=(oK _ v h).mono fun _ _ ⟨a,b⟩=>⟨a,b.symm⟩
theorem afQ(j:Nat):j<=3->∀(w:World) (A:Option Addr) (n c:Nat) (l:List Int),n=2 ^ j->n<=c->IntsIn w A n c l->Within 1099511627776 l->Calls prog 314 #[.slice A n c] w (GR w (IL j l)):=by
 induction j with
 | zero=>
  intro _ w A n c l hn hc YZ hw;subst hn;have OO:=Z7 YZ;clear YZ;go_enter func314,ntmps314;go_wp2_with fail;go_ret;have h1:l.length=1:=OO.out.1;refine⟨A,c,?_,?_,?_,Mod.refl _ _⟩
  ·simp [IL,h1]
  ·simp [IL,h1];omega
  ·simp only [IL,h1];exact OO.out
 | succ j ih=>
  intro hj w A n c l hn hc YZ hw;have ih':=ih Z8;have HIH:=Z7 ih';clear ih ih';have hm:n=2*2 ^ j:=by rw [hn,XF];omega
  have hp:1<=2 ^ j/\2 ^ j<=8:=⟨Nat.one_le_two_pow,Nat.pow_le_pow_right Z8 (show j<=3 by omega)⟩
  clear hn;obtain⟨m,Y3⟩:=ZL (2 ^ j);rw [<-Y3]at hm hp;have HM:=Z7 Y3;clear Y3;have HN:=Z7 hm;have qA:2<=n:=Z8;have yC:n<=16:=Z8;have eU:(n:Int)/2=(m:Int):=Z8;have iO:m<=n:=Z8;clear hm;obtain⟨EE,CF⟩:=hp;obtain⟨b,off,hA,hb,hcell⟩:=YZ.place Z8;subst hA;have HC:=Z5 hcell hw;have hl:=YZ.1;have HL:=Z7 hl;have KT:=YZ.part 0 m c Z8;rw [List.drop_zero,WV]at KT;have R4:=HIH.out w _ m c _ HM.out Z8 KT (Lh Z8 hw m);clear hcell YZ hw hl KT;have HW:Hid (Within 4398046511108 (IL j (l.take m))):=by
   have a:=Ev Z8 j (l.take m) (Lh Z8 HC.out.2 m);intro i;have:=a i;have hj3:(j:Int)<=3:=Z8;have hj4:(j:Int)*(1099511627776+1)<=3*(1099511627776+1):=Int.mul_le_mul_of_nonneg_right hj3 Z8;omega
  go_enter func314,ntmps314;go_wp2_with fail;refine R4.mono ?_;clear R4;rintro e w4 ⟨A4,c4,rfl,JB,Py,Xl⟩;have hul:(IL j (l.take m)).length=m:=by rw [QF j _ (by simp [HL.out,<-HM.out];omega),<-HM.out]
  rw [hul]at Py JB ⊢;obtain⟨b4,akh,hA4,hb4,lX⟩:=Py.place Z8;subst hA4;have jr:=Z5 lX Xl;clear lX Xl Py hul eU;obtain⟨low,xq⟩:=ZL (IL j (l.take m));rw [<-xq]at jr HW;have HLW:=Z7 xq;clear xq;go_wp2_with fail;go_loopw [5,6] (ajz w4 m low l) (fun _ i _=>m-(intOf i).toNat)
  case atStart=>exact⟨0,Z8,rfl,VG _ _,Mod.refl _ _⟩
  case round=>
   obtain⟨k,hk,rfl,hown,hM⟩:=hrel;by_cases hlt:k<m
   ·have KQ:wr.cell? ⟨b,off+(m+k),none⟩=some (.int .i64 (l.getD (m+k) 0)):=(ZV ((jr.out.2.trans hM).block b hb (fun h=>h))).trans (HC.out.1 (m+k) (by have:=HN.out;omega));have zJ:wr.cell? ⟨b4,akh+k,none⟩=some (.int .i64 (low.getD k 0)):=(ZV (hM.block b4 hb4 (fun h=>h))).trans (jr.out.1 k hlt);have hx:=HC.out.2 (m+k);have hy:=HW.out k;have HS:=Z7 (GD m low l k);unfold bV at HS;generalize l.getD (m+k) 0=x at *;generalize low.getD k 0=y at *;obtain⟨x1,x2⟩:=hx;obtain⟨y1,y2⟩:=hy;obtain⟨A3,c3,hv3⟩:=ZG hown;subst hv3;rw [NY];rw [NY]at hown;have Br:=World.block_lt_of_cell? _ _ KQ;have HB:=Z5 hown hM;have Dv:m+k<n:=by have:=HN.out;omega
    have p1:(m:Int)+(k:Int)<(n:Int):=Z8;have p3:(0:Int)<=(m:Int)+(k:Int):=Z8;have p4:((m:Int)+(k:Int)).toNat=m+k:=Z8;clear hown hM;go_upto_region 10 with(fail)
    have p5:(k:Int)<(m:Int):=Z8;have p6:(0:Int)<=(k:Int):=Z8;have s1:IntKind.i64.wrap (y-x/2)=y-x/2:=IntWalk.i64_in _ ⟨Z8,Z8⟩;go_quiet ((go_at_call 374;exact Calls.quiet_of_same (aaN _ x ⟨Z8,Z8⟩ _)))
    clear s1;have pE:=HB.out.1.drewN nq;have RO:=HB.out.2.drewN nq;generalize wr.drewN nq=w5 at *;clear KQ zJ Br;have zI:IntsIn (w5.alloc (.cells #[.int .i64 (y-x/2+x),.int .i64 (y-x/2)] 3)) (some ↑w5.heap.size) 2 2 [y-x/2+x,y-x/2]:=(Zx.whole (l:=[y-x/2+x,y-x/2]) (Nat.zero_le _) (ZI.new w5 3 _) (by unfold maxLen;simp)).RU;have hr6:=pE.quiet ((Mod.refl _ _).alloc (.cells #[.int .i64 (y-x/2+x),.int .i64 (y-x/2)] 3));have Bh:=RO.alloc (.cells #[.int .i64 (y-x/2+x),.int .i64 (y-x/2)] 3);have HZ:=Z5 zI (Z9 hr6 Bh);clear zI hr6 Bh pE RO;go_wp2_with (at_builtin;have _t:=HZ;refine TF _ rfl (.tmp 38) (.tmp 43) rfl w4.heap.size _ _ _ 2 2 _ rfl rfl HZ.out.2.1 HZ.out.1 HZ.out.2.2.size (by rw [NY];omega) ?_;intro v8 w8 SC NI Pp hF;have HO:=Z5 SC (Pp w4 ↑ZW (ZY _) HZ.out.2.2);clear SC NI Pp hF)
    go_roundw
    case rel=>
     refine⟨k+1,Z8,Zr,?_,HO.out.2⟩;rw [HS.out];exact HO.out.1
    case measure=>exact YD
   ·obtain rfl:k=m:=Z8;have HB:=Z5 hown hM;clear hown hM;go_wp2_with fail;go_ret;obtain⟨h9,CE⟩:=HB.out;have e9:IL (j+1) l=Cw k low l k:=by rw [HLW.out,HM.out];rfl
    rw [<-e9]at h9;obtain⟨A9,c9,xE⟩:=ZG h9;subst xE;exact⟨A9,c9,rfl,h9.cap,h9.RU,jr.out.2.trans CE⟩
theorem uT(w:World)(n:Nat)(hn:n<=9223372036854775807):Calls prog 236 #[↑n] w fun e w'=>e=.returned ↑(XL n:Nat)/\w=w':=by
 unfold XL;by_cases h1:n=16
 ·subst h1;go_enter func236,ntmps236;go_wp2_with fail;go_ret;exact⟨rfl,rfl⟩
 ·by_cases h2:n=64
  ·subst h2;go_enter func236,ntmps236;go_wp2_with fail;go_ret;exact⟨rfl,rfl⟩
  ·have e1:((n:Int) == 16)=false:=beq_eq_false_iff_ne.2 Z8;have e2:((n:Int) == 64)=false:=beq_eq_false_iff_ne.2 Z8;rw [if_neg h1,if_neg h2];go_enter func236,ntmps236;go_wp2_with fail;go_ret;exact⟨rfl,rfl⟩
def PG(l:List Int)(p:Nat):List Int:=(Zz p).map fun t=>l.getD (t % 8*8+t/8) 0
theorem aaF(l:List Int)(x y:Nat)(hy:y<8):PG l (8*x+y+1)=PG l (8*x+y)++[l.getD (y*8+x) 0]:=by
 unfold PG;rw [Y9,List.map_append];have h1:(8*x+y) % 8=y:=Z8;have h2:(8*x+y)/8=x:=Z8;simp [h1,h2]
theorem Qk(l:List Int)(p:Nat):(PG l p).length=p:=by simp [PG]
def UI(l:List Int):List Int:=PG l 64
def afl(w:World)(l:List Int)(v5 i:Value)(wr:World):Prop:=
 ∃x:Nat,x<=8/\i=↑x/\Zx wr w.heap.size v5 (PG l (8*x))/\Mod ↑ZW w wr
def ag6(w:World)(l:List Int)(x:Nat)(v5 i:Value)(wr:World):Prop:=
 ∃y:Nat,y<=8/\i=↑y/\Zx wr w.heap.size v5 (PG l (8*x+y))/\Mod ↑ZW w wr
theorem EH(w:World)(A:Option Addr)(c:Nat)(l:List Int)(YZ:IntsIn w A 64 c l):Calls prog 239 #[.slice A 64 c,.int .i64 8] w (GR w (UI l)):=by
 obtain⟨b,off,hA,hb,hcell⟩:=YZ.place Z8;subst hA;have HC:=Z7 hcell;clear hcell YZ;go_enter func239,ntmps239;go_wp2_with fail;go_loopw [5,6] (afl w l) (fun _ i _=>8-(intOf i).toNat)
 case atStart=>exact⟨0,Z8,rfl,VG _ _,Mod.refl _ _⟩
 case round=>
  obtain⟨x,hx,rfl,hown,hM⟩:=hrel;by_cases hlt:x<8
  ·obtain⟨wo,rfl⟩:∃wo:World,wo=wr:=⟨_,rfl⟩
   have HB:=Z5 hown hM;clear hown hM;have dx:=Zb ((x:Int)<8);go_wp2_with fail;go_loopw [5,7] (ag6 w l x) (fun _ i _=>8-(intOf i).toNat)
   case atStart=>exact⟨0,Z8,rfl,HB.out.1,HB.out.2⟩
   case round=>
    clear HB;obtain⟨y,hy,rfl,hown,hM⟩:=hrel;by_cases mJ:y<8
    ·have KQ:wr.cell? ⟨b,off+(y*8+x),none⟩=some (.int .i64 (l.getD (y*8+x) 0)):=(ZV (hM.block b hb (fun h=>h))).trans (HC.out (y*8+x) Z8);have HS:=Z7 (aaF l x y mJ);generalize l.getD (y*8+x) 0=v at *;obtain⟨A3,c3,hv3⟩:=ZG hown;subst hv3;rw [Qk];rw [Qk]at hown;have HB:=Z5 hown (Z9 hM hM.size);clear hown hM;have p1:(0:Int)<=(y:Int)*8+(x:Int):=Z8;have p2:((y:Int)*8+(x:Int)).toNat=y*8+x:=Z8;have p3:(y:Int)*8+(x:Int)<64:=Z8;go_wp2_with (at_builtin;have _t:=HB;refine Vg _ rfl (.tmp 18) (.tmp 27) rfl w.heap.size _ _ v rfl rfl HB.out.1 HB.out.2.2 (by rw [Qk];omega) ?_;intro v8 w8 SC NI Pp hF;have HO:=Z5 SC (Pp w ↑ZW (ZY _) HB.out.2.1);clear SC NI Pp hF)
     go_roundw
     case rel=>
      have h8:Zx w8 w.heap.size v8 (PG l (8*x+(y+1))):=by
       rw [<-Nat.add_assoc,HS.out];exact HO.out.1
      exact⟨y+1,Z8,Zr,h8,HO.out.2⟩
     case measure=>exact YD
    ·obtain rfl:y=8:=Z8;have HB:=Z5 hown hM;clear hown hM;go_wp2_with fail;go_roundw
     case rel=>exact⟨x+1,Z8,Zr,HB.out.1,HB.out.2⟩
     case measure=>exact YD
  ·obtain rfl:x=8:=Z8;have HB:=Z5 hown hM;clear hown hM;go_wp2_with fail;go_ret;obtain⟨h9,CE⟩:=HB.out;have lH:Zx _ _ _ (UI l):=h9;obtain⟨A9,c9,xE⟩:=ZG lH;subst xE;exact⟨A9,c9,rfl,lH.cap,lH.RU,CE⟩
def V6(f:List Int->List Int)(l:List Int)(k:Nat):List Int:=(Zz k).flatMap fun y=>f ((l.drop (y*8)).take 8)
theorem P8(f:List Int->List Int)(l:List Int)(k:Nat):V6 f l (k+1)=V6 f l k++f ((l.drop (k*8)).take 8):=by simp [V6,Y9]
theorem Wp(f:List Int->List Int)(l:List Int)(hl:l.length=64)(hf:∀x:List Int,x.length=8->(f x).length=8)(k:Nat)(hk:k<=8):(V6 f l k).length=k*8:=by
 induction k with
 | zero=>rfl
 | succ k ih=>
  rw [P8,YW,ih Z8,hf _ (by simp;omega)];omega
def rz(w:World)(f:List Int->List Int)(l:List Int)(v7 i:Value)(wr:World):Prop:=
 ∃k:Nat,k<=8/\i=↑k/\Zx wr w.heap.size v7 (V6 f l k)/\Mod ↑ZW w wr
theorem Lf{M:Int}{l:List Int}(h0:0<=M)(h:Within M l)(k m:Nat):Within M ((l.drop k).take m):=by
 intro i;rw [Z6,Wy];split
 ·rw [List.getElem?_drop,<-Z6];exact h _
 ·exact⟨by simp;omega,by simpa using h0⟩
theorem fZ(w:World)(A:Option Addr)(c:Nat)(l:List Int)(hc:64<=c)(YZ:IntsIn w A 64 c l)(hw:Within 1099511627776 l):Calls prog 238 #[.slice A 64 c,.int .i64 8,.bool true] w (GR w (V6 (IL 3) l 8)):=by
 obtain⟨b,off,hA,hb,hcell⟩:=YZ.place Z8;subst hA;have HC:=Z5 YZ hw;clear hcell YZ hw;go_enter func238,ntmps238;go_wp2_with fail;go_loopw [7,8] (rz w (IL 3) l) (fun _ i _=>8-(intOf i).toNat)
 case atStart=>exact⟨0,Z8,rfl,VG _ _,Mod.refl _ _⟩
 case round=>
  obtain⟨k,hk,rfl,hown,hM⟩:=hrel;by_cases hlt:k<8
  ·have hlen:=Wp (IL 3) l HC.out.1.1 (fun x hx=>QF 3 x hx) k hk;obtain⟨A3,c3,hv3⟩:=ZG hown;subst hv3;rw [hlen]at hown ⊢;have HB:=Z5 hown (Z9 hM hlen);have KT:=(HC.out.1.quiet hM).part (k*8) 8 (c-k*8) Z8;have bA:=Lf Z8 HC.out.2 (k*8) 8;have R5:=ahL 3 Z8 wr _ 8 (c-k*8) _ rfl Z8 KT bA;have HP:=Z5 KT bA;clear hown hM KT bA hlen;go_wp2_with fail;refine R5.mono ?_;clear R5;rintro e w5 ⟨A5,c5,rfl,sj,KP,UR⟩;have R6:=afQ 3 Z8 w5 _ 8 (c-k*8) _ rfl Z8 (HP.out.1.quiet UR) HP.out.2;have HM5:=Z7 UR;clear KP UR sj;go_wp2_with fail;refine R6.mono ?_;clear R6;rintro e w6 ⟨A6,c6,rfl,hc6,zI,Xt⟩;have hl6:(IL 3 ((l.drop (k*8)).take 8)).length=8:=QF 3 _ (by have:=HC.out.1.1;simp;omega);rw [hl6]at zI ⊢;have M6:Mod ↑ZW wr w6:=HM5.out.trans Xt;have HZ:=Z5 zI (Z9 (HB.out.1.quiet M6) (Z9 (HB.out.2.1.trans M6) hl6));clear zI Xt M6 hl6;go_wp2_with (at_builtin;have _t:=HZ;refine TF _ rfl (.tmp 38) (.tmp 39) rfl w.heap.size _ _ _ 8 _ _ rfl rfl HZ.out.2.1 HZ.out.1 HZ.out.2.2.1.size (by rw [HB.out.2.2];omega) ?_;intro v8 w8 SC NI Pp hF;have HO:=Z5 SC (Pp w ↑ZW (ZY _) HZ.out.2.2.1);clear SC NI Pp hF)
   go_roundw
   case rel=>
    refine⟨k+1,Z8,Zr,?_,HO.out.2⟩;rw [P8];exact HO.out.1
   case measure=>exact YD
  ·obtain rfl:k=8:=Z8;have HB:=Z5 hown hM;clear hown hM;go_wp2_with fail;go_ret;obtain⟨h9,CE⟩:=HB.out;obtain⟨A9,c9,xE⟩:=ZG h9;subst xE;exact⟨A9,c9,rfl,h9.cap,h9.RU,CE⟩
def acE(m:Int)(l:List Int)(i:Value):Prop:=∃k:Nat,k<=l.length/\i=↑k/\∀j<k,Oa m (l.getD j 0)=true
theorem Ad(w:World)(A:Option Addr)(n c:Nat)(l:List Int)(m:Int)(hm:0<=m/\m<=1099511627776)(JD:0<n)(hn:n<=1048576)(YZ:IntsIn w A n c l):Calls prog 237 #[.slice A n c,↑m] w fun e w'=>e=.returned (.bool (l.all (Oa m)))/\w=w':=by
 obtain rfl:l.length=n:=YZ.1;obtain⟨b,off,hA,hb,hcell⟩:=YZ.place Z8;subst hA;have HC:=Z7 hcell;clear hcell YZ;obtain⟨m1,m2⟩:=hm;go_enter func237,ntmps237;go_wp2_with fail;go_loop [5] (acE m l) (fun i=>l.length-(intOf i).toNat)
 case atStart=>exact⟨0,Z8,rfl,fun j hj=>by omega⟩
 case round=>
  obtain⟨k,hk,rfl,hall⟩:=hrel;have HA:=Z7 hall;clear hall;by_cases hlt:k<l.length
  ·have M9:=HC.out k hlt;have HV:Hid (Oa m (l.getD k 0)=decide (-m<=l.getD k 0/\l.getD k 0<=m)):=rfl;have HM:Hid (l.getD k 0∈l):=by
    show _∈_;rw [Z6,ZP hlt];exact Xo hlt
   have HG:Hid (Oa m (l.getD k 0)=Oa m (l.getD k 0)):=rfl;obtain⟨v,hv⟩:=ZL (l.getD k 0);rw [<-hv]at M9 HV HM;have HVE:=Z7 hv;clear hv;by_cases h1:v < -m
   ·have d1:decide (v < -m)=true:=decide_eq_true h1;go_wp2_with fail;go_ret;have e:l.all (Oa m)=false:=by
     rw [List.all_eq_false];exact⟨v,HM.out,by rw [HV.out];simp;omega⟩
    exact⟨by rw [e];rfl,rfl⟩
   ·have d1:decide (v < -m)=false:=decide_eq_false h1;by_cases h2:m<v
    ·have d2:decide (m<v)=true:=decide_eq_true h2;go_wp2_with fail;go_ret;have e:l.all (Oa m)=false:=by
      rw [List.all_eq_false];exact⟨v,HM.out,by rw [HV.out];simp;omega⟩
     exact⟨by rw [e];rfl,rfl⟩
    ·have d2:decide (m<v)=false:=decide_eq_false h2;go_wp2_with fail;go_round
     case rel=>
      refine⟨k+1,Z8,Zr,fun j hj=>?_⟩;by_cases e:j=k
      ·rw [e,<-HVE.out,HV.out];simp;omega
      ·exact HA.out j Z8
     case measure=>exact YD
  ·go_wp2_with fail;go_ret;have e:l.all (Oa m)=true:=by
    rw [List.all_eq_true];intro x hx;obtain⟨j,hj,rfl⟩:=Uq hx;have:=HA.out j Z8;rwa [Z6,ZP hj]at this
   exact⟨by rw [e];rfl,rfl⟩
def uV(l:List Int):List Int:=V6 (IL 3) (UI (V6 (IL 3) (UI l) 8)) 8
def acF(w:World)(l:List Int)(e:Ending)(w':World):Prop:=
 Mod ↑ZW w w'/\((UE 67108864 l=false/\e=.returned (.tuple #[↑Zd,.int .i64 1]))\/∃A c,UE 67108864 l=true/\e=.returned (.tuple #[.slice A 64 c,↑Z0])/\IntsIn w' A 64 c (uV l))
theorem W9(l:List Int):(UI l).length=64:=Qk l 64
theorem Mx{M:Int}{l:List Int}(h0:0<=M)(h:Within M l):Within M (UI l):=by
 intro i;by_cases hi:i<64
 ·have e:(UI l).getD i 0=l.getD (i % 8*8+i/8) 0:=by simp [UI,PG,Z6,hi]
  rw [e];exact h _
 ·have e:(UI l).getD i 0=0:=by simp [UI,PG,Z6,hi]
  rw [e];omega
theorem FV{M:Int}{l:List Int}(h:Within M l){x:Int}(hx:x∈l):-M<=x/\x<=M:=by
 obtain⟨j,hj,rfl⟩:=Uq hx;have:=h j;rwa [Z6,ZP hj]at this
theorem JI{M B:Int}{l:List Int}{f:List Int->List Int}(h0:0<=M)(hB:0<=B)(h:Within M l)(hf:∀x,Within M x->Within B (f x))(k:Nat):Within B (V6 f l k):=by
 induction k with
 | zero=>intro i;simp [V6];omega
 | succ k ih=>
  rw [P8];exact Lg hB ih (fun x hx=>FV (hf _ (Lf h0 h _ _)) hx)
theorem CS{m:Int}{l:List Int}(h0:0<=m)(h:l.all (Oa m)=true):Within m l:=by
 intro i;rw [Z6];by_cases hi:i<l.length
 ·rw [ZP hi];have:=(List.all_eq_true.1 h) _ (Xo hi);simpa [Oa]using this
 ·rw [Zi Z8];exact⟨by simp;omega,by simpa using h0⟩
theorem ahR(w:World)(A:Option Addr)(c:Nat)(l:List Int)(YZ:IntsIn w A 64 c l):Calls prog 245 #[.slice A 64 c] w (acF w l):=by
 have dQ:l.length=64:=YZ.1;have hab:UE 67108864 l=l.all (Oa 67108864):=by unfold UE;rw [dQ];rfl
 have OO:=Z5 YZ hab;clear dQ hab YZ;cases hr:l.all (Oa 67108864)with
 | false=>
  have HR:=Z7 hr;clear hr;go_enter func245,ntmps245;go_wp2_with fail;refine YH (uT _ 64 Z8) ?_;rw [show((XL 64:Nat):Int)=8 from rfl];go_wp2_with fail;refine YH (Ad _ A 64 c l 67108864 Z8 Z8 Z8 OO.out.1) ?_;rw [HR.out];go_wp2_with fail;go_ret2;exact⟨Mod.refl _ _,.inl ⟨OO.out.2.trans HR.out,rfl⟩⟩
 | true=>
  have hw:=CS Z8 hr;have w1:Within 67108864 (UI l):=Mx Z8 hw;have w2:Within 268435459 (V6 (IL 3) (UI l) 8):=JI Z8 Z8 w1 (fun x hx=>Ev Z8 3 x hx) 8;have w3:Within 268435459 (UI (V6 (IL 3) (UI l) 8)):=Mx Z8 w2;have big:∀ {M:Int} {x:List Int},M<=1099511627776->Within M x->Within 1099511627776 x:=fun hM h i=>by have:=h i;omega
  have HW:=Z5 (big Z8 w1) (big Z8 w3);have HR:=Z7 hr;have l2:(V6 (IL 3) (UI l) 8).length=64:=Wp _ _ (W9 l) (fun x hx=>QF 3 x hx) 8 Z8;have l4:(V6 (IL 3) (UI (V6 (IL 3) (UI l) 8)) 8).length=64:=Wp _ _ (W9 _) (fun x hx=>QF 3 x hx) 8 Z8;have HL:=Z5 l2 l4;clear hr hw w1 w2 w3 big l2 l4;go_enter func245,ntmps245;go_wp2_with fail;refine YH (uT _ 64 Z8) ?_;rw [show((XL 64:Nat):Int)=8 from rfl];go_wp2_with fail;refine YH (Ad _ A 64 c l 67108864 Z8 Z8 Z8 OO.out.1) ?_;rw [HR.out];go_wp2_with fail;refine(EH _ A c l OO.out.1).mono ?_;rintro e w1 ⟨A1,c1,rfl,hc1,qy,Y6⟩;rw [W9]at hc1 qy ⊢;have R1:=fZ _ A1 c1 _ hc1 qy HW.out.1;have HM1:=Z7 Y6;clear Y6 qy hc1;go_wp2_with fail;refine R1.mono ?_;clear R1;rintro e w2 ⟨A2,c2,rfl,hc2,Vr,Y3⟩;rw [HL.out.1]at hc2 Vr ⊢;have R2:=EH _ A2 c2 _ Vr;have HM2:=Z7 (HM1.out.trans Y3);clear Y3 Vr hc2;go_wp2_with fail;refine R2.mono ?_;clear R2;rintro e w3 ⟨A3,c3,rfl,hc3,Nq,X7⟩;rw [W9]at hc3 Nq ⊢;have R3:=fZ _ A3 c3 _ hc3 Nq HW.out.2;have HM3:=Z7 (HM2.out.trans X7);clear X7 Nq hc3;go_wp2_with fail;refine R3.mono ?_;clear R3;rintro e w4 ⟨A4,c4,rfl,JB,Py,Xl⟩;rw [HL.out.2]at JB Py ⊢;have gJ:=Z5 (HM3.out.trans Xl) Py;clear Xl Py JB;go_wp2_with fail;go_ret2;exact⟨gJ.out.1,.inr ⟨A4,c4,OO.out.2.trans HR.out,rfl,gJ.out.2⟩⟩
theorem fI{α:Type}{l:List α}(h:l.length=8):∃a b c d e f g i,l=[a,b,c,d,e,f,g,i]:=by
 match l,h with
 | [a,b,c,d,e,f,g,i],_=>exact⟨a,b,c,d,e,f,g,i,rfl⟩
theorem Aw(l:List Int)(h:l.length=8):Ph l=IL 3 l:=by
 obtain⟨a,b,c,d,e,f,g,i,rfl⟩:=fI h;simp only [Ph,Ch,pK,upA,upB,IL,Cw,bV,Y9,List.range_zero,List.flatMap_cons,List.flatMap_nil,List.nil_append,List.append_nil,List.cons_append,Nat.reducePow,Nat.reduceMul,Nat.reduceAdd,List.take_succ_cons,List.take_zero,List.set_cons_zero,List.set_cons_succ,List.getD_cons_zero,List.getD_cons_succ,Nat.mul_zero,WV,Nat.zero_add,Nat.mul_one];simp only [List.cons.injEq,and_true];refine⟨?_,?_,?_,?_,?_,?_,?_,?_⟩<;>omega
theorem zn{a b:List Int}(ha:a.length=64)(hb:b.length=64)(h:∀y<8,∀x<8,a.getD (y*8+x) 0=b.getD (y*8+x) 0):a=b:=by
 apply YU Z8;intro i h1 h2;have:=h (i/8) Z8 (i % 8) Z8;rw [show i/8*8+i % 8=i by omega]at this;rw [Z6,Z6,ZP h1,ZP h2]at this;exact this
theorem NS(f:List Int->List Int)(l:List Int)(hl:l.length=64)(hf:∀x:List Int,x.length=8->(f x).length=8)(k:Nat)(hk:k<=8)(y x:Nat)(hy:y<k)(hx:x<8):(V6 f l k).getD (y*8+x) 0=(f ((l.drop (y*8)).take 8)).getD x 0:=by
 induction k with
 | zero=>omega
 | succ k ih=>
  rw [P8,Z6];have h1:=Wp f l hl hf k Z8;by_cases e:y=k
  ·subst e;rw [ZF Z8,h1,show y*8+x-y*8=x by omega,<-Z6]
  ·rw [Zv Z8,<-Z6];exact ih Z8 Z8
theorem Jr(l:List Int)(y x:Nat)(hy:y<8)(hx:x<8):(UI l).getD (y*8+x) 0=l.getD (x*8+y) 0:=by
 have hi:y*8+x<64:=Z8;have e:(UI l).getD (y*8+x) 0=l.getD ((y*8+x) % 8*8+(y*8+x)/8) 0:=by simp [UI,PG,Z6,hi]
 rw [e];congr 1;omega
theorem FK(l:List Int)(x:Nat)(hx:x<8):((UI l).drop (x*8)).take 8=Tt x l:=by
 apply YU
 ·simp [W9,Tt];omega
 ·intro i h1 h2;have hi:i<8:=by simp [Tt]at h2;exact h2
  have a:=MM (UI l) (x*8) 8 i hi;rw [Jr l x i hx hi]at a;have b:=L6 x l i hi;rw [<-a]at b;rw [Z6,Z6,ZP h1,ZP h2]at b;exact b.symm
theorem ac2(l:List Int)(hl:l.length=64):uV l=Fe l:=by
 have hu:∀x:List Int,x.length=8->(IL 3 x).length=8:=fun x hx=>QF 3 x hx;have l1:(V6 (IL 3) (UI l) 8).length=64:=Wp _ _ (W9 l) hu 8 Z8;have l2:(Ry l 8).length=64:=by rw [Si];exact hl
 have e1:UI (V6 (IL 3) (UI l) 8)=Ry l 8:=by
  apply zn (W9 _) l2;intro y hy x hx;rw [Jr _ y x hy hx,NS _ _ (W9 l) hu 8 Z8 x y hx hy,FK l x hx,CX l hl 8 y x Z8 hx hy];rw [if_pos hx,Aw _ (VO _ _)]
 unfold uV Fe;rw [e1];apply zn (Wp _ _ l2 hu 8 Z8) (QY _ l2 8 Z8);intro y hy x hx;rw [NS _ _ l2 hu 8 Z8 y x hy hx,Ef _ l2 8 y x Z8 hx hy,if_pos hy];rw [Aw _ (WZ _ _ l2 hy)];rfl
theorem aai{M:Int}{l:List Int}(h0:0<=M)(h:Within M l)(m:Nat):Within (2*M) (U6 l m):=by
 intro i;by_cases hi:i<m
 ·have e:(U6 l m).getD i 0=l.getD (2*i) 0-l.getD (2*i+1) 0:=by simp [U6,Z6,hi]
  rw [e];have a:=h (2*i);have b:=h (2*i+1);omega
 ·have e:(U6 l m).getD i 0=0:=by simp [U6,Z6,hi]
  rw [e];omega
theorem aaL{M:Int}(h0:0<=M)(j:Nat):∀l,Within M l->Within (2*M) (QX j l):=by
 induction j with
 | zero=>intro l h i;have:=h i;simp only [QX];omega
 | succ j ih=>
  intro l h;exact Lg Z8 (ih _ (JH h0 h _)) (fun x hx=>FV (aai h0 h _) hx)
theorem Bf(l:List Int)(h:l.length=8):Np l=QX 3 l:=by
 obtain⟨a,b,c,d,e,f,g,i,rfl⟩:=fI h;simp [Np,Cj,L9,I9,splice,DR,Jf,QX,Ul,U6,Y9]
def fV(l:List Int):List Int:=UI (V6 (QX 3) (UI (V6 (QX 3) l 8)) 8)
theorem ael(l:List Int)(hl:l.length=64):fV l=KF l:=by
 have hu:∀x:List Int,x.length=8->(QX 3 x).length=8:=fun x hx=>Rf 3 x hx;have l1:(V6 (QX 3) l 8).length=64:=Wp _ _ hl hu 8 Z8;have e0:V6 (QX 3) l 8=UW l 8:=by
  apply zn l1 (Vl _ hl 8 Z8);intro y hy x hx;rw [NS _ _ hl hu 8 Z8 y x hy hx,Fs _ hl 8 y x Z8 hx hy,if_pos hy];rw [Bf _ (WZ _ _ hl hy)];rfl
 unfold fV KF;rw [e0];have l2:=Vl l hl 8 Z8;generalize UW l 8=L at *;apply zn (W9 _) (by rw [RF];exact l2);intro y hy x hx;rw [Jr _ y x hy hx,NS _ _ (W9 L) hu 8 Z8 x y hx hy,FK L x hx,Fp L l2 8 y x Z8 hx hy];rw [if_pos hx,Bf _ (VO _ _)]
theorem oM(w:World)(A:Option Addr)(c:Nat)(l:List Int)(hc:64<=c)(YZ:IntsIn w A 64 c l)(hw:Within 1099511627776 l):Calls prog 238 #[.slice A 64 c,.int .i64 8,.bool false] w (GR w (V6 (QX 3) l 8)):=by
 obtain⟨b,off,hA,hb,hcell⟩:=YZ.place Z8;subst hA;have HC:=Z5 YZ hw;clear hcell YZ hw;go_enter func238,ntmps238;go_wp2_with fail;go_loopw [7,8] (rz w (QX 3) l) (fun _ i _=>8-(intOf i).toNat)
 case atStart=>exact⟨0,Z8,rfl,VG _ _,Mod.refl _ _⟩
 case round=>
  obtain⟨k,hk,rfl,hown,hM⟩:=hrel;by_cases hlt:k<8
  ·have hlen:=Wp (QX 3) l HC.out.1.1 (fun x hx=>Rf 3 x hx) k hk;obtain⟨A3,c3,hv3⟩:=ZG hown;subst hv3;rw [hlen]at hown ⊢;have HB:=Z5 hown (Z9 hM hlen);have KT:=(HC.out.1.quiet hM).part (k*8) 8 (c-k*8) Z8;have bA:=Lf Z8 HC.out.2 (k*8) 8;have R5:=ahL 3 Z8 wr _ 8 (c-k*8) _ rfl Z8 KT bA;have HP:=Z5 KT bA;clear hown hM KT bA hlen;go_wp2_with fail;refine R5.mono ?_;clear R5;rintro e w5 ⟨A5,c5,rfl,sj,KP,UR⟩;have xk:(QX 3 ((l.drop (k*8)).take 8)).length=8:=Rf 3 _ (by have:=HC.out.1.1;simp;omega);rw [xk]at KP ⊢;have HZ:=Z5 KP (Z9 (HB.out.1.quiet UR) (Z9 (HB.out.2.1.trans UR) xk));clear KP UR xk;go_wp2_with (at_builtin;have _t:=HZ;refine TF _ rfl (.tmp 38) (.tmp 39) rfl w.heap.size _ _ _ 8 _ _ rfl rfl HZ.out.2.1 HZ.out.1 HZ.out.2.2.1.size (by rw [HB.out.2.2];omega) ?_;intro v8 w8 SC NI Pp hF;have HO:=Z5 SC (Pp w ↑ZW (ZY _) HZ.out.2.2.1);clear SC NI Pp hF)
   go_roundw
   case rel=>
    refine⟨k+1,Z8,Zr,?_,HO.out.2⟩;rw [P8];exact HO.out.1
   case measure=>exact YD
  ·obtain rfl:k=8:=Z8;have HB:=Z5 hown hM;clear hown hM;go_wp2_with fail;go_ret;obtain⟨h9,CE⟩:=HB.out;obtain⟨A9,c9,xE⟩:=ZG h9;subst xE;exact⟨A9,c9,rfl,h9.cap,h9.RU,CE⟩
theorem ake(w:World)(A:Option Addr)(c:Nat)(l:List Int)(KL:64<=c)(YZ:IntsIn w A 64 c l)(hr:l.all (Oa 1048576)=true):Calls prog 174 #[.slice A 64 c] w fun e w'=>∃A' c',e=.returned (.tuple #[.slice A' 64 c',↑Z0])/\IntsIn w' A' 64 c' (KF l)/\Mod ↑ZW w w':=by
 have dQ:l.length=64:=YZ.1;have HE:=Z7 (ael l dQ);have OO:=Z7 YZ;have hw:=CS Z8 hr;have w2:Within 2097152 (V6 (QX 3) l 8):=JI Z8 Z8 hw (fun x hx=>aaL Z8 3 x hx) 8;have w3:Within 2097152 (UI (V6 (QX 3) l 8)):=Mx Z8 w2;have big:∀ {M:Int} {x:List Int},M<=1099511627776->Within M x->Within 1099511627776 x:=fun hM h i=>by have:=h i;omega
 have HW:=Z5 (big Z8 hw) (big Z8 w3);have HR:=Z7 hr;have l2:(V6 (QX 3) l 8).length=64:=Wp _ _ dQ (fun x hx=>Rf 3 x hx) 8 Z8;have l4:(V6 (QX 3) (UI (V6 (QX 3) l 8)) 8).length=64:=Wp _ _ (W9 _) (fun x hx=>Rf 3 x hx) 8 Z8;have HL:=Z5 l2 l4;clear hr hw w2 w3 big l2 l4 YZ dQ;go_enter func174,ntmps174;go_wp2_with fail;refine YH (uT _ 64 Z8) ?_;rw [show((XL 64:Nat):Int)=8 from rfl];go_wp2_with fail;refine YH (Ad _ A 64 c l 1048576 Z8 Z8 Z8 OO.out) ?_;rw [HR.out];have R1:=oM w A c _ KL OO.out HW.out.1;go_wp2_with fail;refine R1.mono ?_;clear R1;rintro e w2 ⟨A2,c2,rfl,hc2,Vr,Y3⟩;rw [HL.out.1]at hc2 Vr ⊢;have R2:=EH _ A2 c2 _ Vr;have HM2:=Z7 Y3;clear Y3 Vr hc2;go_wp2_with fail;refine R2.mono ?_;clear R2;rintro e w3 ⟨A3,c3,rfl,hc3,Nq,X7⟩;rw [W9]at hc3 Nq ⊢;have R3:=oM _ A3 c3 _ hc3 Nq HW.out.2;have HM3:=Z7 (HM2.out.trans X7);clear X7 Nq hc3;go_wp2_with fail;refine R3.mono ?_;clear R3;rintro e w4 ⟨A4,c4,rfl,JB,Py,Xl⟩;rw [HL.out.2]at JB Py ⊢;have R4:=EH _ A4 c4 _ Py;have gJ:=Z7 (HM3.out.trans Xl);clear Xl Py JB;go_wp2_with fail;refine R4.mono ?_;clear R4;rintro e w5 ⟨A5,c5,rfl,sj,KP,UR⟩;rw [W9]at KP ⊢;have HM5:=Z5 (gJ.out.trans UR) KP;clear UR KP sj;go_wp2_with fail;go_ret2;exact⟨A5,c5,rfl,by rw [<-HE.out];exact HM5.out.2,HM5.out.1⟩
theorem acV(w:World)(A:Option Addr)(n c:Nat)(g:List UInt8)(A2:Option Addr)(n2 c2:Nat)(l:List Int)(q:Int)(hg:BytesIn w A n c g)(hl:IntsIn w A2 n2 c2 l)(hn:n<=1048576)(yC:n2<=1048576):
  Calls prog 179 #[.slice A n c,.slice A2 n2 c2,↑q] w (Al w g l q):=by
 obtain rfl:g.length=n:=hg.1;obtain rfl:l.length=n2:=hl.1;by_cases h1:g.length=64
 ·by_cases h2:l.length=64
  ·have HG:=Z7 hg;have HL:=Z7 hl;have pQ:Hid (Qq g l q=(QV l q).map (fun v=>Hg g (Fe v))):=if_pos ⟨h1,h2⟩;rw [h1]at HG ⊢;rw [h2]at HL ⊢;clear hg hl;have HH:=Z5 h1 h2;clear h1 h2;go_enter func179,ntmps179;go_wp2_with fail;refine(ahO _ A2 64 c2 l q HL.out Z8).mono ?_;rintro e w1 ⟨Y6,⟨hq,rfl⟩|⟨v,hq,rfl,hv⟩⟩
   ·have HQ:=Z5 hq Y6;clear hq Y6;go_wp2_with fail;go_ret2;exact⟨HQ.out.2,.inl ⟨by rw [pQ.out,HQ.out.1];rfl,rfl⟩⟩
   ·obtain⟨Md,Ia⟩:=BP hq HH.out.2;obtain⟨A3,c3,hv3⟩:=ZG hv;subst hv3;rw [Md];have Nq:=hv.RU;rw [Md]at Nq;have HV:=Z5 hq (Z9 Y6 (Z9 Nq Ia));clear hq Y6 hv Nq Ia;go_wp2_with fail;refine(ahR _ A3 c3 _ HV.out.2.2.1).mono ?_;rintro e w2 ⟨Y3,⟨h1,rfl⟩|⟨A4,c4,h1,rfl,h2⟩⟩
    ·exact absurd h1 (by rw [HV.out.2.2.2];decide)
    ·have Py:=h2;rw [ac2 _ Md]at Py;have gL:=Z5 Py (HV.out.2.1.trans Y3);clear h1 h2 Py Y3;go_wp2_with fail;refine(ac1 _ A 64 c g A4 c4 _ (HG.out.quiet gL.out.2) gL.out.1 Z8 Z8).mono ?_;rintro e w3 ⟨v3,rfl,hb3,X7⟩;obtain⟨A5,c5,hv5⟩:=ZG hb3;subst hv5;have HV3:=Z5 hb3 (gL.out.2.trans X7);have hsz:=gL.out.2.size;clear hb3 X7;go_wp2_with fail;go_ret2;exact⟨HV3.out.2,.inr ⟨_,_,by rw [pQ.out,HV.out.1];rfl,rfl,xX HV3.out.1 hsz⟩⟩
  ·have hz:((l.length:Int) != 64)=true:=by simp;omega
   have pQ:Hid (Qq g l q=none):=if_neg (fun h=>h2 h.2);rw [h1];clear hg hl h1;go_enter func179,ntmps179;go_wp2_with fail;go_ret2;exact⟨Mod.refl _ _,.inl ⟨pQ.out,rfl⟩⟩
 ·have hz:((g.length:Int) != 64)=true:=by simp;omega
  have pQ:Hid (Qq g l q=none):=if_neg (fun h=>h1 h.1);clear hg hl;go_enter func179,ntmps179;go_wp2_with fail;go_ret2;exact⟨Mod.refl _ _,.inl ⟨pQ.out,rfl⟩⟩
end Go.Proofs.YthednemlahioeaaGreatDoor
