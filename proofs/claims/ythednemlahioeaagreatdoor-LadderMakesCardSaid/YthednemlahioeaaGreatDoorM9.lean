/-
  The reference's bits: Digits, Code.
-/
import Derived.Test.YthednemlahioeaaGreatDoorM8
namespace Go.Proofs.YthednemlahioeaaGreatDoor
open Go.RowKit
open UInt8 renaming ofNat→Zl
open List renaming getD_eq_getElem?_getD→Z6,range→Zz,getElem?_eq_getElem→ZP,length_take→YN,getElem?_toArray→Zo
open Nat renaming le_refl→ZY,mod_eq_of_lt→XU,le_trans→ZQ,mul_comm→YA,mul_le_mul_right→YE,add_mul→Y5,one_mul→Ym
open And renaming intro→Z9
open Lib renaming hid→Z7
open IntWalk renaming u8_in→Vk,i64_in→Z4,wrap64_in→ZA
open Calls renaming quiet_of_same→Zy
open Go.Proofs.Tryz
set_option maxRecDepth 100000
set_option maxHeartbeats 8000000
def XV(v:Nat):Nat->List UInt8
 | 0=>[]
 | n+1=>Zl (v/2 ^ n % 2) :: XV v n
theorem YR(v n:Nat):(XV v n).length=n:=by
 induction n with
 | zero=>rfl
 | succ n ih=>simp [XV,ih]
def CY(v n k:Nat):List UInt8:=List.replicate (n-k) 0++XV v k
theorem aa8(v n k:Nat)(h:k<=n):(CY v n k).length=n:=by simp [CY,YR];omega
theorem adI(v n k:Nat)(h:k<n):(CY v n k).set (n-k-1) (Zl (v/2 ^ k % 2))=CY v n (k+1):=by
 unfold CY;rw [List.set_append_left _ _ (by simp;omega),XV];have e:n-k=(n-(k+1))+1:=Z8;rw [e,List.replicate_succ',show n-(k+1)+1-1=n-(k+1)by omega,List.set_append_right _ _ Ze];simp
theorem afj(x:Nat):(Zl (x % 2)).toNat=x % 2:=by
 have:x % 2<2:=Nat.mod_lt _ Z8;simp;omega
def agW(w:World)(ob v n:Nat)(vv iv:Value)(wr:World):Prop:=
 ∃k:Nat,k<=n/\vv=.int .u64 ((v/2 ^ k:Nat):Int)/\iv=.int .i64 ((n:Int)-(k:Int)-1)/\ZI wr ob 5 (Yw (CY v n k)).toArray/\Mod (·=ob) w wr
theorem MP(w:World)(v n:Nat)(hv:v<18446744073709551616)(hn:n<=4096):Calls prog 163 #[.int .u64 (v:Int),↑n] w fun e w'=>∃s,e=.returned s/\Bytes w' w.heap.size s (XV v n)/\Mod ↑ZW w w':=by
 obtain⟨i0,hi0,hz0,hz1,hz2⟩:=info_parts Pf;have x1:i0.bytes*n<=281474976710656:=by rw [hz2];omega
 have x2:n<=maxLen:=by unfold maxLen;omega
 have HX:=Z5 x1 x2;clear x1 x2;go_enter func163,ntmps163;go_upto_region 2 with(with_reducible refine wpList_make_full _ rfl (.tmp 7) (.tmp 7) _ rfl w.heap.size 5 i0 (.int .u8 0) 1 underlying54 hi0 hz0 hz1 _ _ _ _ n rfl rfl rfl rfl HX.out.1 HX.out.2 (ZY _) ?_;intro w1 hown1 hg1;have HO:=Z5 hown1 hg1;clear hown1 hg1)
 have TY:=(OH HO.out.1).1;have m1:Mod ↑ZW w w1:=(Mod.refl _ _).grown HO.out.2 (fun k hk=>by cases hk);have aix:ZI w1 w.heap.size 5 (Yw (CY v n 0)).toArray:=by
  rw [Nat.mul_one,sP]at TY;simpa [CY,XV]using TY
 have HI:=Z5 aix m1;clear TY aix m1 HO;go_wp2_with fail;go_loopw [0,6] (agW w1 w.heap.size v n) (fun _ i _=>(intOf i+1).toNat)
 case atStart=>exact⟨0,Z8,Ze,Ze,HI.out.1,Mod.refl _ _⟩
 case round=>
  obtain⟨k,hk,rfl,rfl,hb,hm⟩:=hrel;by_cases hlt:k<n
  ·obtain⟨j,hj,hj2⟩:∃j:Nat,(n:Int)-(k:Int)-1=(j:Int)/\n-k-1=j:=⟨n-k-1,Z8,rfl⟩
   rw [hj];have hx:v/2 ^ k<18446744073709551616:=Nat.lt_of_le_of_lt (Nat.div_le_self _ _) hv;have zN:=adI v n k hlt;rw [hj2]at zN;have hdiv:v/2 ^ (k+1)=v/2 ^ k/2:=by rw [Nat.pow_succ,Nat.div_div_eq_div_mul]
   have Sk:=afj (v/2 ^ k)
   have hjn:j<n:=Z8;have c1:wr.cell? ⟨w.heap.size,j,none⟩=some (.int .u8 (((CY v n k).getD j 0).toNat:Int)):=by
    rw [hb.cell j];simp [Yw,Z6,aa8 v n k hk,hjn]
   have c2:=hb.frozen;generalize hxx:v/2 ^ k=x at *;have HH:=Z5 zN (Z9 hdiv (Z9 Sk (Z9 hb (Z9 hm hj))));clear zN hdiv Sk hb hm hj hxx hj2;have i1:(0:Int)<=(j:Int):=Z8;have i2:(j:Int)<(n:Int):=Z8;go_wp2_with fail;obtain⟨zN,hdiv,Sk,hb,hm,hj⟩:=HH.out;refine⟨⟨k+1,Z8,by rw [hdiv];simp,by congr 1;omega,?_,hm.setCell (.inl rfl) _⟩,by simp [intOf]⟩;refine hb.put ?_;rw [<-zN];have e:(x:Int) % 2=(((Zl (x % 2)).toNat:Nat):Int):=by rw [Sk];omega
   rw [e];simp [Yw,List.map_set]
  ·obtain rfl:k=n:=Z8;have HF:=Z5 hb hm;clear hb hm;have xB:(k:Int)-(k:Int)-1 = -1:=Z8;rw [xB];go_wp2_with fail;go_ret;have hb:=HF.out.1;have e:CY v k k=XV v k:=by simp [CY]
   rw [e]at hb;have:=Bytes.DW (B:=w.heap.size) (ZY _) hb (by rw [YR];exact HX.out.2);rw [YR]at this;exact⟨_,rfl,this,HI.out.2.into HF.out.2 (fun i e=>.inr Z8)⟩
def Wj(m:Nat):Nat:=if m=0 then 0 else Nat.log2 m+1
theorem F6(m:Nat)(h:0<m):Wj m=Wj (m/2)+1:=by
 unfold Wj;rw [Xb,Nat.log2_def];by_cases h2:2<=m
 ·rw [if_pos h2,Xb]
 ·rw [if_neg h2,VI]
theorem afi(m:Nat)(h:m<18446744073709551616):Wj m<=64:=by
 unfold Wj;split
 ·omega
 ·rename_i h0;have:=(Nat.log2_lt h0 (k:=64)).2 Z8;omega
def Pk(v:Nat):List UInt8:=XV (v+1) (2*Wj (v+1)-1)
def afb(v:Nat)(nv kv:Value):Prop:=∃t k:Nat,k<=v+1/\t+Wj k=Wj (v+1)/\nv=↑t/\kv=.int .u64 (k:Int)
theorem tF(w:World)(v:Nat)(hv:v<9223372036854775808):Calls prog 162 #[.int .u64 (v:Int)] w fun e w'=>∃s,e=.returned s/\Bytes w' w.heap.size s (Pk v)/\Mod ↑ZW w w':=by
 have hbl:=afi (v+1) Z8;have lV:0<Wj (v+1):=by rw [F6 _ Z8];omega
 go_enter func162,ntmps162;go_wp2_with fail;go_loop [3,4] (afb v) (fun _ k=>(intOf k).toNat)
 case atStart=>exact⟨0,v+1,Z8,Z8,rfl,Ze⟩
 case round=>
  obtain⟨t,k,hk,ht,rfl,rfl⟩:=hrel;by_cases hp:0<k
  ·have hh:=F6 k hp;have HT:Hid (t+1+Wj (k/2)=Wj (v+1)):=by show _=_;omega
   have htl:t<=64:=Z8;clear ht hh;clear hbl lV;go_wp2_with fail;refine⟨⟨t+1,k/2,Z8,HT.out,Zr,Ze⟩,?_⟩;simp [intOf];omega
  ·obtain rfl:k=0:=Z8;have fA:t=Wj (v+1):=by simpa [Wj]using ht
   have HC:Hid (Pk v=XV (v+1) (2*t-1)):=by show _=_;rw [fA];rfl
   have htl:t<=64:=Z8;have htp:0<t:=Z8;clear ht fA hbl lV;obtain⟨n2,e1,e2⟩:∃n2:Nat,(2:Int)*(t:Int)-1=(n2:Int)/\2*t-1=n2:=⟨2*t-1,Z8,rfl⟩
   rw [e2]at HC;have HE:=Z7 e2;clear e2;go_wp2_with fail;have QJ:=MP w (v+1) n2 Z8 Z8;rw [show((v+1:Nat):Int)=(v:Int)+1 by omega]at QJ;refine QJ.mono ?_;rintro e w1 ⟨s,rfl,hs,hm⟩;obtain⟨A1,c1,Gr⟩:=ZG hs;subst Gr;have HF:=Z5 hs hm;clear hs hm QJ;go_wp2_with fail;go_ret;exact⟨_,rfl,by rw [HC.out];exact HF.out.1,HF.out.2⟩
theorem OU{x k:Nat}(h:x<2 ^ k):Wj x<=k:=by
 unfold Wj;split
 ·omega
 ·rename_i h0;have:=(Nat.log2_lt h0).2 h;omega
theorem wB{x k:Nat}(h:2 ^ k<=x):Wj x=Wj (x/2 ^ k)+k:=by
 have hk:0<2 ^ k:=Nat.two_pow_pos k;have hx:x≠0:=Z8;have hy:x/2 ^ k≠0:=by
  have:=Nat.div_pos h hk;omega
 have hm:=(Nat.log2_eq_iff hy (k:=Nat.log2 (x/2 ^ k))).1 rfl;have hl:Nat.log2 x=Nat.log2 (x/2 ^ k)+k:=by
  rw [Nat.log2_eq_iff hx];constructor
  ·rw [Nat.pow_add];exact(Nat.le_div_iff_mul_le hk).1 hm.1
  ·rw [show Nat.log2 (x/2 ^ k)+k+1=(Nat.log2 (x/2 ^ k)+1)+k by omega,Nat.pow_add];exact(Nat.div_lt_iff_lt_mul hk).1 hm.2
 unfold Wj;rw [if_neg hx,if_neg hy,hl];omega
def bU(s:ByteArray):Bool:=(Zz 256).all fun i=>decide (s.data[i]?=some (Zl (Wj i)))
theorem ad6{s:ByteArray}(hs:bU s=true)(y:Nat)(hy:y<256)(w:World):(Instr.index 9 (.string s) (.int .u8 (y:Int))).run prog w=.ok (.int .u8 ((Wj y:Nat):Int)) w:=by
 rw [run_index_string w _ _ _ _ underlying9];unfold bU at hs;rw [List.all_eq_true]at hs;have h:=of_decide_eq_true (hs y (List.mem_range.2 hy));obtain⟨h1,h2⟩:=Array.getElem?_eq_some_iff.1 h;have hsz:y<s.size:=h1;rw [dif_pos ⟨Z8,Z8⟩];congr 3;simp only [Int.toNat_natCast];have h3:(Zl (Wj y)).toNat=Wj y:=by
  have:=OU (x:=y) (k:=8) hy;rw [UInt8.toNat_ofNat',XU Z8]
 exact(congrArg UInt8.toNat h2).trans h3
theorem Jt{ops:Array Oper}{rest:List Oper}{op:Oper}{a:Act}{w:World}{Q:Exit->Act->World->Prop}(hgd:op.guard=none)(x ix:Operand)(ho:op.op=.index 9 x ix)(s:ByteArray)(y:Nat)(hx:a.eval x=.string s)(hi:a.eval ix=.int .u8 (y:Int))(hy:y<256)(hs:bU s=true)
  (h:wpList prog ops Q rest (a.put op.dst (.int .u8 ((Wj y:Nat):Int))) w):wpList prog ops Q (op :: rest) a w:=
 wpList_plain hgd fun _ hK=>by
  unfold Oper.wp execOp;simp only [ho,hx,hi,Sem.run_bind,Sem.run_pure,Result.andThen_ok,ad6 hs y hy w];exact hK _ _ h
theorem Ay(w:World)(x:Nat)(hx:x<4194304):Calls prog 259 #[.int .u64 (x:Int)] w fun e w'=>e=.returned ↑(Wj x:Nat)/\w=w':=by
 have d1:=Za (4294967296<=(x:Int));have d1':=Za (4294967296<=x);by_cases h16:65536<=x
 ·have d2:=Zb (65536<=(x:Int));have d2':decide (65536<=x)=true:=decide_eq_true h16;obtain⟨y,hy⟩:=ZL (x/65536);have ey:(x:Int)/65536=(y:Int):=Z8;have hy8:y<256:=Z8;have hb:=wB (x:=x) (k:=16) h16;rw [show(2:Nat) ^ 16=65536 by decide,<-hy]at hb;have hbl:=OU (x:=y) (k:=8) hy8;have d3:=Za (256<=(y:Int));have d3':=Za (256<=y);have fD:IntKind.u8.wrap (y:Int)=(y:Int):=Vk _ ⟨Z8,Z8⟩;have HB:=Z5 hb hy;clear hb hy;go_enter func259,ntmps259;go_wp2_with (refine Jt rfl _ _ rfl _ y rfl rfl Z8 (by decide +kernel) ?_)
  go_ret;refine⟨?_,rfl⟩;rw [HB.out.1,show(((Wj y+16:Nat)):Int)=16+(Wj y:Int)by omega];rfl
 ·have d2:=Za (65536<=(x:Int));have d2':=Za (65536<=x);by_cases h8:256<=x
  ·have d4:=Zb (256<=(x:Int));have d4':decide (256<=x)=true:=decide_eq_true h8;obtain⟨y,hy⟩:=ZL (x/256);have ey:(x:Int)/256=(y:Int):=Z8;have hy8:y<256:=Z8;have hb:=wB (x:=x) (k:=8) h8;rw [show(2:Nat) ^ 8=256 by decide,<-hy]at hb;have hbl:=OU (x:=y) (k:=8) hy8;have fD:IntKind.u8.wrap (y:Int)=(y:Int):=Vk _ ⟨Z8,Z8⟩;have HB:=Z5 hb hy;clear hb hy;go_enter func259,ntmps259;go_wp2_with (refine Jt rfl _ _ rfl _ y rfl rfl Z8 (by decide +kernel) ?_)
   go_ret;refine⟨?_,rfl⟩;rw [HB.out.1,show(((Wj y+8:Nat)):Int)=8+(Wj y:Int)by omega];rfl
  ·have d3:=Za (256<=(x:Int));have d3':=Za (256<=x);have fD:IntKind.u8.wrap (x:Int)=(x:Int):=Vk _ ⟨Z8,Z8⟩;have hbl:=OU (x:=x) (k:=8) Z8;go_enter func259,ntmps259;go_wp2_with (refine Jt rfl _ _ rfl _ x rfl rfl Z8 (by decide +kernel) ?_)
   go_ret;exact⟨rfl,rfl⟩
theorem bitsLen(w:World)(x:Nat)(hx:x<4194304):Calls prog 183 #[.int .u64 (x:Int)] w fun e w'=>e=.returned ↑(Wj x:Nat)/\w=w':=by
 go_enter func183,ntmps183;go_wp2_with fail;refine YH (Ay w x hx) ?_;go_wp2_with fail;go_ret;exact⟨rfl,rfl⟩
def Oo(t:Nat):Nat->Nat->Es->Es
 | 0,_,s=>s
 | m+1,i,s=>Oo t m (i+1) (UU s (t*37+i) 1)
def MK(t n:Nat)(s:Es):Es:=if n<21 then UU s (t*37+(n-1)) 0 else s
def enum(t v:Nat)(s:Es):Es:=Qv t (v+1) (Wj (v+1)-1) 0 0 (MK t (Wj (v+1)) (Oo t (Wj (v+1)-1) 0 s))
theorem Gb(t m:Nat):∀(i:Nat) (s:Es),s.code.length<=(Oo t m i s).code.length/\(Oo t m i s).code.length<=s.code.length+m:=by
 induction m with
 | zero=>intro i s;exact⟨ZY _,ZY _⟩
 | succ m ih=>
  intro i s;have h1:=Ri s (t*37+i) 1;have h2:=ih (i+1) (UU s (t*37+i) 1);unfold Oo;omega
theorem AU(t n:Nat)(s:Es):s.code.length<=(MK t n s).code.length/\(MK t n s).code.length<=s.code.length+1:=by
 unfold MK;split
 ·exact Ri _ _ _
 ·omega
theorem G8{x:Nat}(h:0<x):1<=Wj x:=by
 unfold Wj;rw [Xb];omega
theorem TJ.next{w w1 w':World}{bk g:Nat}{v v1:Value}{s':Es}{e:Ending}(hf:∀j,v1.ownBlock=some j->v.ownBlock=some j\/w.heap.size<=j)(hm:Mod (fun j=>j=g\/j=bk\/v.ownBlock=some j) w w1)(h:TJ w1 bk g v1 s' e w'):TJ w bk g v s' e w':=by
 obtain⟨v2,rfl,hE,hF,hM⟩:=h;refine⟨v2,rfl,hE,fun j e=>?_,hm.into hM (fun j e=>?_)⟩
 ·rcases hF j e with h1|h1
  ·exact hf j h1
  ·exact .inr (ZQ hm.size h1)
 ·rcases e with e|e|e
  ·exact .inl (.inl e)
  ·exact .inl (.inr (.inl e))
  ·rcases hf j e with h1|h1
   ·exact .inl (.inr (.inr h1))
   ·exact .inr h1
def afE(w:World)(bk g:Nat)(v:Value)(t n:Nat)(tg:Es)(v17:Value)(wr:World):Prop:=
 ∃(i:Nat) (s:Es) (v1:Value),i<=n/\v17=↑i/\Od wr bk g v1 s/\Oo t (n-i) i s=tg/\s.code.length+(n-i)+22<=1048575+1 /\
  (∀j,v1.ownBlock=some j->v.ownBlock=some j\/w.heap.size<=j)/\Mod (fun j=>j=g\/j=bk\/v.ownBlock=some j) w wr
theorem wL(w:World)(bk g:Nat)(v:Value)(s:Es)(t x:Nat)(ht:t<16)(hx:x<=1048576)(h:Od w bk g v s)(hl:s.code.length+43<=1048575+1):
  Calls prog 292 #[↑(ZC bk (t*37)),↑(ZC g 0),↑x] w (TJ w bk g v (enum t x s)):=by
 obtain⟨n,hn⟩:=ZL (Wj (x+1));have qA:1<=n:=by rw [hn];exact G8 Z8
 have yC:n<=21:=by rw [hn];exact OU Z8
 obtain⟨m,rfl⟩:∃m,n=m+1:=⟨n-1,Z8⟩
 have hBL:∀w,Calls prog 183 #[.int .u64 ((x:Int)+1)] w fun e w'=>e=.returned ↑(m+1:Nat)/\w=w':=fun w=>by
  have:=bitsLen w (x+1) Z8;rw [<-hn]at this;exact this
 obtain⟨s1,hs1⟩:=ZL (Oo t m 0 s);have aiy:enum t x s=Qv t (x+1) m 0 0 (MK t (m+1) s1):=by
  unfold enum;rw [<-hn,hs1];rfl
 have sK:IntKind.u64.wrap ((x:Int)+1)=(x:Int)+1:=IntWalk.u64_in _ ⟨Z8,Z8⟩;have e1:(((m+1:Nat):Int)-1)=(m:Int):=Z8;have hlen:=Gb t m 0 s;rw [<-hs1]at hlen;have H:=Z5 h (Z9 hl (Z9 aiy (Z9 hBL (Z9 hs1 (Z9 hn hlen)))));clear h hl aiy hBL hs1 hn hlen;go_enter func292,ntmps292;go_wp2_with fail;refine YH (H.out.2.2.2.1 _) ?_;go_wp2_with fail;go_loopw [17] (afE w bk g v t m s1) (fun i _=>m-(intOf i).toNat)
 case atStart=>exact⟨0,s,v,Z8,rfl,H.out.1,H.out.2.2.2.2.1.symm,by have:=H.out.2.1;omega,fun j e=>.inl e,Mod.refl _ _⟩
 case round=>
  obtain⟨i,sa,va,hi,rfl,hs,hg,KR,vK,hM⟩:=hrel;rename World=>wr
  by_cases hlt:i<m
  ·have Dt:Oo t (m-i) i sa=Oo t (m-(i+1)) (i+1) (UU sa (t*37+i) 1):=by
    rw [show m-i=(m-(i+1))+1 by omega];rfl
   rw [hg]at Dt;have SB:=Ri sa (t*37+i) 1;have PT:=Kr wr bk g va sa (t*37+i) 1 Z8 Z8 hs Z8;have d1:=Zb ((i:Int)<(m:Int));have i20:i<20:=Z8;have HB:=Z5 Dt (Z9 KR (Z9 vK (Z9 hM (Z9 PT SB))));clear hs hg Dt KR vK hM PT SB;go_wp2_with fail;refine HB.out.2.2.2.2.1.mono ?_;rintro e w3 hp;have CF:=TJ.next HB.out.2.2.1 HB.out.2.2.2.1 hp;obtain⟨v3,rfl,lI,wU,JA⟩:=CF;have H3:=Z5 lI (Z9 wU JA);clear hp lI wU JA;go_wp2_with fail;go_roundw
   case rel=>exact⟨i+1,_,v3,Z8,Zr,H3.out.1,HB.out.1.symm,by have:=HB.out.2.1;have:=HB.out.2.2.2.2.2.2;omega,H3.out.2.1,H3.out.2.2⟩
   case measure=>exact YD
  ·obtain rfl:i=m:=Z8;rw [Nat.sub_self]at hg;have hg2:sa=s1:=hg;subst hg2;have d1:=Za ((i:Int)<(i:Int));have HB:=Z5 hs (Z9 KR (Z9 vK hM));clear hs hg KR vK hM;by_cases h21:i+1<21
   ·have d2:=Zb ((i:Int)+1<21);have d2':=Zb (((i+1:Nat):Int)<21);have i20:i<20:=Z8;have PT:=Kr wr bk g va sa (t*37+i) 0 Z8 Z8 HB.out.1 (by have:=HB.out.2.1;omega);have HP:=Z7 PT;clear PT;go_wp2_with fail;refine HP.out.mono ?_;rintro e w3 hp;obtain⟨v3,rfl,lI,wU,JA⟩:=TJ.next HB.out.2.2.1 HB.out.2.2.2 hp;have H3:=Z5 lI (Z9 wU JA);clear hp lI wU JA;have LW:Calls prog 291 #[↑(ZC bk (t*37)),↑(ZC g 0),.int .i64 ((x:Int)+1),↑i] w3 (TJ w3 bk g v3 (Qv t (x+1) i 0 0 (UU sa (t*37+i) 0))):=CZ w3 bk g v3 (UU sa (t*37+i) 0) t (x+1) i ht Z8 Z8 H3.out.1 (by have:=HB.out.2.1;have:=H.out.2.1;have:=H.out.2.2.2.2.2.2;have:=Ri sa (t*37+i) 0;omega);have HL:=Z7 LW;clear LW;go_wp2_with fail;refine HL.out.mono ?_;rintro e w5 hp5;obtain⟨v5,rfl,qg,Jz,RO⟩:=TJ.next H3.out.2.1 H3.out.2.2 hp5;have H5:=Z5 qg (Z9 Jz RO);clear hp5 qg Jz RO;go_wp2_with fail;go_ret;refine⟨v5,rfl,?_,H5.out.2.1,H5.out.2.2⟩;rw [H.out.2.2.1];unfold MK;rw [if_pos h21];exact H5.out.1
   ·have d2:=Za ((i:Int)+1<21);have d2':=Za (((i+1:Nat):Int)<21);have LW:Calls prog 291 #[↑(ZC bk (t*37)),↑(ZC g 0),.int .i64 ((x:Int)+1),↑i] wr (TJ wr bk g va (Qv t (x+1) i 0 0 sa)):=CZ wr bk g va sa t (x+1) i ht Z8 Z8 HB.out.1 (by have:=HB.out.2.1;have:=H.out.2.1;have:=H.out.2.2.2.2.2.2; omega);have HL:=Z7 LW;clear LW;go_wp2_with fail;refine HL.out.mono ?_;rintro e w5 hp5;obtain⟨v5,rfl,qg,Jz,RO⟩:=TJ.next HB.out.2.2.1 HB.out.2.2.2 hp5;have H5:=Z5 qg (Z9 Jz RO);clear hp5 qg Jz RO;go_wp2_with fail;go_ret;refine⟨v5,rfl,?_,H5.out.2.1,H5.out.2.2⟩;rw [H.out.2.2.1];unfold MK;rw [if_neg h21];exact H5.out.1
def VD(t:Nat)(v:Int)(s:Es):Es:=if v=0 then enum t v.natAbs s else UU (enum t v.natAbs s) (t*37+36) (if v<0 then 1 else 0)
theorem MJ{t x:Nat}(hx:x<=1048576)(s:Es):s.code.length<=(enum t x s).code.length/\(enum t x s).code.length<=s.code.length+41:=by
 have h0:Wj (x+1)<=21:=OU Z8;have h1:=Gb t (Wj (x+1)-1) 0 s;have h2:=AU t (Wj (x+1)) (Oo t (Wj (x+1)-1) 0 s);have h3:=Kw t (x+1) (Wj (x+1)-1) 0 0 (MK t (Wj (x+1)) (Oo t (Wj (x+1)-1) 0 s));unfold enum;omega
theorem agQ(w:World)(bk g:Nat)(v:Value)(s:Es)(t x:Nat)(ht:t<16)(hx:x<=1048576)(h:Od w bk g v s)(hl:s.code.length+43<=1048575+1):
  Calls prog 363 #[↑(ZC bk 0),↑(ZC g 0),↑t,↑x] w (TJ w bk g v (enum t x s)):=by
 have p0:=Za ((x:Int)<0);have p1:=Za (1048576<(x:Int));have HP:=Z7 (wL w bk g v s t x ht hx h hl);clear h hl;go_enter func363,ntmps363;go_wp2_with fail;refine YH (F4 w bk t ht) ?_;go_wp2_with fail;refine HP.out.mono ?_;rintro e w2 ⟨v2,rfl,hE,hF,hM⟩;have H2:=Z5 hE (Z9 hF hM);clear hE hF hM;go_wp2_with fail;go_ret;exact⟨v2,rfl,H2.out.1,H2.out.2.1,H2.out.2.2⟩
theorem dB(w:World)(bk g:Nat)(v:Value)(s:Es)(t n x:Nat)(ht:t<16)(hn:n=3\/n=4)(hx:x<n)(h:Od w bk g v s)(hl:s.code.length+43<=1048575+1):
  Calls prog 213 #[↑(ZC bk 0),↑(ZC g 0),↑t,↑n,↑x] w (TJ w bk g v (Qv t x 2 0 0 s)):=by
 have p0:=Za ((x:Int)<0);have p1:=Za ((n:Int)<=(x:Int));have HP:=Z7 (CZ w bk g v s t x 2 ht Z8 Z8 h Z8);clear h hl;rcases hn with rfl|rfl
 ·go_enter func213,ntmps213;go_wp2_with fail;refine YH (F4 w bk t ht) ?_;go_wp2_with fail;refine YH (adP _) ?_;go_wp2_with fail;refine HP.out.mono ?_;rintro e w2 ⟨v2,rfl,hE,hF,hM⟩;have H2:=Z5 hE (Z9 hF hM);clear hE hF hM;go_wp2_with fail;go_ret;exact⟨v2,rfl,H2.out.1,H2.out.2.1,H2.out.2.2⟩
 ·go_enter func213,ntmps213;go_wp2_with fail;refine YH (F4 w bk t ht) ?_;go_wp2_with fail;refine YH (adO _) ?_;go_wp2_with fail;refine HP.out.mono ?_;rintro e w2 ⟨v2,rfl,hE,hF,hM⟩;have H2:=Z5 hE (Z9 hF hM);clear hE hF hM;go_wp2_with fail;go_ret;exact⟨v2,rfl,H2.out.1,H2.out.2.1,H2.out.2.2⟩
theorem C9(w:World)(bk g:Nat)(v:Value)(s:Es)(t:Nat)(x:Int)(ht:t<16)(hx:-1048576<=x/\x<=1048576)(h:Od w bk g v s)(hl:s.code.length+43<=1048575+1):
  Calls prog 214 #[↑(ZC bk 0),↑(ZC g 0),↑t,↑x] w (TJ w bk g v (VD t x s)):=by
 obtain⟨hx1,hx2⟩:=hx;have p0:=Za (x < -1048576);have p1:=Za (1048576<x);have HP:=Z5 (wL w bk g v s t x.natAbs ht Z8 h hl) (Z9 hl (MJ (t:=t) (x:=x.natAbs) Z8 s));clear h hl;by_cases h0:x=0
 ·subst h0;go_enter func214,ntmps214;go_wp2_with fail;refine YH (F4 w bk t ht) ?_;go_wp2_with fail;refine HP.out.1.mono ?_;rintro e w2 ⟨v2,rfl,hE,hF,hM⟩;have H2:=Z5 hE (Z9 hF hM);clear hE hF hM;go_wp2_with fail;go_ret;exact⟨v2,rfl,H2.out.1,H2.out.2.1,H2.out.2.2⟩
 ·by_cases xB:x<0
  ·have d1:decide (x<0)=true:=decide_eq_true xB;obtain⟨y,bD⟩:∃y:Nat,y=x.natAbs:=⟨_,rfl⟩
   have d2:((y:Int) == 0)=false:=by simp;omega
   have sK:IntKind.i64.wrap (-x)=(y:Int):=by
    rw [show -x=(y:Int)by omega];exact Z4 _ ⟨Z8,Z8⟩
   have Bt:y<=1048576:=Z8;rw [<-bD]at HP;have HQ:Hid (VD t x s=UU (enum t y s) (t*37+36) 1):=by
    show _=_;unfold VD;rw [if_neg h0,if_pos xB,<-bD]
   clear h0 xB bD;go_enter func214,ntmps214;go_wp2_with fail;refine YH (F4 w bk t ht) ?_;go_wp2_with fail;refine HP.out.1.mono ?_;rintro e w2 ⟨v2,rfl,hE,hF,hM⟩;have PT:=Kr w2 bk g v2 (enum t y s) (t*37+36) 1 Z8 Z8 hE (by have:=HP.out.2.1;have:=HP.out.2.2;omega);have H2:=Z5 PT (Z9 hF hM);clear hE hF hM PT;go_wp2_with fail;refine H2.out.1.mono ?_;rintro e w3 hp;obtain⟨v3,rfl,lI,wU,JA⟩:=TJ.next H2.out.2.1 H2.out.2.2 hp;have H3:=Z5 lI (Z9 wU JA);clear hp lI wU JA;go_wp2_with fail;go_ret;refine⟨v3,rfl,?_,H3.out.2.1,H3.out.2.2⟩;rw [HQ.out];exact H3.out.1
  ·have d1:decide (x<0)=false:=decide_eq_false xB;obtain⟨y,rfl⟩:∃y:Nat,x=(y:Int):=⟨x.natAbs,Z8⟩
   have bD:((y:Int)).natAbs=y:=Z8;have d2:((y:Int) == 0)=false:=by simp;omega
   rw [bD]at HP;have HQ:Hid (VD t (y:Int) s=UU (enum t y s) (t*37+36) 0):=by
    show _=_;unfold VD;rw [if_neg h0,if_neg xB,bD]
   clear h0 xB bD;go_enter func214,ntmps214;go_wp2_with fail;refine YH (F4 w bk t ht) ?_;go_wp2_with fail;refine HP.out.1.mono ?_;rintro e w2 ⟨v2,rfl,hE,hF,hM⟩;have PT:=Kr w2 bk g v2 (enum t y s) (t*37+36) 0 Z8 Z8 hE (by have:=HP.out.2.1;have:=HP.out.2.2;omega);have H2:=Z5 PT (Z9 hF hM);clear hE hF hM PT;go_wp2_with fail;refine H2.out.1.mono ?_;rintro e w3 hp;obtain⟨v3,rfl,lI,wU,JA⟩:=TJ.next H2.out.2.1 H2.out.2.2 hp;have H3:=Z5 lI (Z9 wU JA);clear hp lI wU JA;go_wp2_with fail;go_ret;refine⟨v3,rfl,?_,H3.out.2.1,H3.out.2.2⟩;rw [HQ.out];exact H3.out.1
def Tq(L:List Int):Nat->Nat
 | 0=>0
 | k+1=>if L.getD k 0=0 then Tq L k else k+1
theorem wH(L:List Int)(k:Nat):Tq L k<=k:=by
 induction k with
 | zero=>exact ZY _
 | succ k ih=>unfold Tq;split<;>omega
def KA(t:Nat):List Int->Es->Es
 | [],s=>s
 | x :: r,s=>KA t r (VD t x s)
def Lj(t:Nat)(l:List Int)(s:Es):Es:=KA (t+1) ((Un l).take (Tq (Un l) 64)) (enum t (Tq (Un l) 64) s)
theorem Mr{M:Int}{b:List Int}(h:Within M b)(k:Nat):Within M (P9 b k):=by
 have h0:=h b.length;rw [show b.getD b.length 0=0 by simp [Z6]]at h0
 induction k with
 | zero=>
  intro i;have:(P9 b 0).getD i 0=0:=by
   simp only [P9,Z6,List.getElem?_replicate];split<;>rfl
  rw [this];exact h0
 | succ k ih=>
  intro i;rw [P9,KI];split
  ·exact h _
  ·exact ih i
theorem Sz{t:Nat}{x:Int}(hx:-1048576<=x/\x<=1048576)(s:Es):s.code.length<=(VD t x s).code.length/\(VD t x s).code.length<=s.code.length+42:=by
 have h1:=MJ (t:=t) (x:=x.natAbs) Z8 s;unfold VD;split
 ·omega
 ·have h2:=Ri (enum t x.natAbs s) (t*37+36) (if x<0 then 1 else 0);omega
theorem AR{t:Nat}:∀(l:List Int) (s:Es),(∀x∈l,-1048576<=x/\x<=1048576)->s.code.length<=(KA t l s).code.length/\(KA t l s).code.length<=s.code.length+42*l.length
 | [],s,_=>⟨ZY _,ZY _⟩
 | x :: r,s,h=>by
  have h1:=Sz (t:=t) (h x Ze) s;have h2:=AR (t:=t) r (VD t x s) (fun y hy=>h y (by simp [hy]));unfold KA;rw [List.length_cons];omega
theorem abg{M:Int}{l:List Int}(h:Within M l):∀x∈l,-M<=x/\x<=M:=by
 intro x hx;obtain⟨i,hi,rfl⟩:=List.getElem_of_mem hx;have:=h i;rwa [Z6,ZP hi]at this
theorem adF{t:Nat}{l:List Int}(h:Within 1048576 l)(s:Es):s.code.length<=(Lj t l s).code.length/\(Lj t l s).code.length<=s.code.length+2730:=by
 have hc:=wH (Un l) 64;have h1:=MJ (t:=t) (x:=Tq (Un l) 64) Z8 s;have h2:=AR (t:=t+1) ((Un l).take (Tq (Un l) 64)) (enum t (Tq (Un l) 64) s) (fun x hx=>abg (Mr h 64) x (List.mem_of_mem_take hx));have h3:((Un l).take (Tq (Un l) 64)).length<=64:=by rw [YN];omega
 unfold Lj;omega
theorem Od.free{w:World}{bk g ob:Nat}{v:Value}{s:Es}(h:Od w bk g v s)(ho:w.heap.size<=ob):¬(ob=g\/ob=bk\/v.ownBlock=some ob):=by
 have q1:=h.enc.blk.lt;have q2:=h.Ju.lt;rintro(e|e|e)
 ·omega
 ·omega
 ·obtain⟨_,cs,hb⟩:=Kc h.enc.own e;have:=hb.lt;omega
theorem Db(t:Nat)(L:List Int)(n i:Nat)(s:Es)(hi:i<n)(hn:n<=L.length):KA t ((L.take n).drop i) s=KA t ((L.take n).drop (i+1)) (VD t (L.getD i 0) s):=by
 have h:(L.take n).drop i=L.getD i 0 :: (L.take n).drop (i+1):=by
  have hl:i<(L.take n).length:=by rw [YN];omega
  rw [List.drop_eq_getElem_cons hl,List.getElem_take,Z6,ZP Z8];rfl
 rw [h];rfl
def kI(w1:World)(bk g ob:Nat)(v:Value)(L:List Int)(t n:Nat)(tg:Es)(v55:Value)(wr:World):Prop:=
 ∃(i:Nat) (s:Es) (v1:Value),i<=n/\v55=↑i/\Od wr bk g v1 s/\KA (t+1) ((L.take n).drop i) s=tg/\s.code.length+42*(n-i)+43<=1048575+1/\ZI wr ob 3 (Y4 L).toArray /\
  (∀j,v1.ownBlock=some j->v.ownBlock=some j\/w1.heap.size<=j)/\Mod (fun j=>j=g\/j=bk\/v.ownBlock=some j) w1 wr
theorem akf(w:World)(bk g:Nat)(v:Value)(s:Es)(t:Nat)(ht:t<15)(A:Option Addr)(c:Nat)(l:List Int)(YZ:IntsIn w A 64 c l)(hall:UE 1048576 l=true)(h:Od w bk g v s)(hl:s.code.length+2780<=1048575+1):
  Calls prog 301 #[↑(ZC bk 0),↑(ZC g 0),↑t,.slice A 64 c] w (TJ w bk g v (Lj t l s)):=by
 have nJ:Within 1048576 l:=NB Z8 hall;have p0:=Za ((t:Int)<0);have p1:=Za (15<=(t:Int));have OO:=Z5 YZ (Z9 h nJ);clear YZ h nJ;go_enter func301,ntmps301;go_wp2_with fail;refine(K6 _ 1048576).mono ?_;rintro e w1 ⟨rfl,hb1,m1⟩;have H1:=Z7 m1;go_wp2_with fail;refine YH (Eb _ A 64 c w.heap.size l 1048576 (OO.out.1.quiet m1) Z8 Z8 hb1) ?_;rw [hall];clear m1 hb1 hall;go_wp2_with fail;refine(ah5 _ A c l (OO.out.1.quiet H1.out)).mono ?_;rintro e w2 ⟨ob,rfl,TY,iQ,Y3⟩;have HM:=Z7 (H1.out.trans Y3);have hL:(Un l).length=64:=Pd _ _;have hLw:Within 1048576 (Un l):=Mr OO.out.2.2 64;have HE:Hid (Lj t l s=KA (t+1) ((Un l).take (Tq (Un l) 64)) (enum t (Tq (Un l) 64) s)):=rfl;generalize Un l=L at *;have hol:=TY.lt;have HO:=Z5 TY (Z9 hL hLw);have hoh:w.heap.size<=ob:=by have:=H1.out.size;omega
 clear TY hL hLw Y3 H1 iQ;go_wp2_with fail;go_loop [10] (fun x=>∃n:Nat,n<=64/\x=↑n/\Tq L n=Tq L 64) (fun x=>(intOf x).toNat)
 case atStart=>exact⟨64,Z8,rfl,rfl⟩
 case round=>
  obtain⟨n,hn,rfl,jH⟩:=hrel;have hst:(∃k,n=k+1/\L.getD k 0=0)\/n=Tq L 64/\(n=0\/∃k x,n=k+1/\L.getD k 0=x/\(x == 0)=false):=by
   rcases Nat.eq_zero_or_pos n with e|e
   ·subst e;exact .inr ⟨jH,.inl rfl⟩
   ·obtain⟨k,rfl⟩:∃k,n=k+1:=⟨n-1,Z8⟩
    by_cases hz:L.getD k 0=0
    ·exact .inl ⟨k,rfl,hz⟩
    ·rw [Tq,if_neg hz]at jH;exact .inr ⟨jH,.inr ⟨k,_,rfl,rfl,by simpa using hz⟩⟩
  rcases hst with⟨k,rfl,hz⟩|⟨aiW,hst⟩
  ·have h0:0<k+1:=Z8;have d1:=Zb (0<((k+1:Nat):Int));have hk:=HO.out.1.cell k;rw [Zo,VX _ _ (by have:=HO.out.2.1;omega),hz]at hk;have k0:(0:Int)<=(k:Int):=Z8;have k1:(k:Int)<64:=Z8;have e1:((k+1:Nat):Int)-1=(k:Int):=Z8;obtain⟨m,hm⟩:=ZL (k+1);rw [<-hm]at d1 e1 jH hn h0 ⊢;have alI:(m:Int)<=64:=Z8;have HC:=Z5 jH (Z9 hm hz);clear jH hm hz;go_wp2_with fail;go_round
   case rel=>exact⟨k,Z8,rfl,by
    have:=HC.out.1;rw [HC.out.2.1,Tq,if_pos HC.out.2.2]at this;exact this⟩
   case measure=>simp [intOf];have:=HC.out.2.1;omega
  ·have yC:(n:Int)<=64:=Z8;have HC:=Z7 aiW;clear jH aiW;rcases hst with JD|⟨k,x,rfl,hx,hx0⟩
   case' inl=>
    have d1:=Za (0<(n:Int));have h0:¬0<n:=Z8;have HX:=Z7 JD;clear JD
   case' inr=>
    have h0:0<k+1:=Z8;have d1:=Zb (0<((k+1:Nat):Int));have hk:=HO.out.1.cell k;rw [Zo,VX _ _ (by have:=HO.out.2.1;omega),hx]at hk;have k0:(0:Int)<=(k:Int):=Z8;have k1:(k:Int)<64:=Z8;have e1:((k+1:Nat):Int)-1=(k:Int):=Z8;obtain⟨n,hm⟩:=ZL (k+1);rw [<-hm]at d1 e1 hn h0 yC HC ⊢;have HX:=Z5 hm hx;clear hm hx
   all_goals
    go_wp2_with fail;refine(agQ _ bk g v s t _ Z8 Z8 (OO.out.2.1.quiet HM.out) Z8).mono ?_;rintro e w3 ⟨v3,rfl,hE,hF,lL⟩;have Oc:=OO.out.2.1.free hoh;have Dy:=HO.out.1.keep lL Oc;have mH:=MJ (t:=t) (x:=n) Z8 s;have HB:=HE.out;rw [<-HC.out]at HB;have HQ:Hid (kI w2 bk g ob v L t n (Lj t l s) ↑Z0 w3):=⟨0,_,v3,Z8,rfl,hE,by rw [HB];rfl,Z8,Dy,hF,lL⟩
    clear hE hF lL Dy mH HB;go_wp2_with fail;go_loopw [55] (kI w2 bk g ob v L t n (Lj t l s)) (fun i _=>n-(intOf i).toNat)
    case atStart=>exact HQ.out
    case round=>
     clear HQ;rename World=>wr
     obtain⟨i,s1,v1,hi,rfl,hE,PX,hlen,hb,hF,hM⟩:=hrel;by_cases Pq:i<n
     ·have d2:=Zb ((i:Int)<(n:Int));have hc:=hb.cell i;rw [Zo,VX _ _ (by have:=HO.out.2.1;omega)]at hc;have hx:=HO.out.2.2 i;rw [Db _ _ _ _ _ Pq (by have:=HO.out.2.1;omega)]at PX;generalize L.getD i 0=x at *;have i0:(0:Int)<=(i:Int):=Z8;have i1:(i:Int)<64:=Z8;have HK:=Z5 hE (Z9 PX (Z9 hb (Z9 hF hM)));clear hE PX hb hF hM;go_wp2_with fail;refine(C9 _ bk g v1 s1 (t+1) x Z8 hx HK.out.1 Z8).mono ?_;rintro e w4 ⟨v4,rfl,hE4,qh,Gm⟩;have Fx:=Sz (t:=t+1) hx s1;have mh:¬(ob=g\/ob=bk\/v1.ownBlock=some ob):=by
       rintro(e|e|e)
       ·exact Oc (.inl e)
       ·exact Oc (.inr (.inl e))
       ·rcases HK.out.2.2.2.1 ob e with h|h
        ·exact Oc (.inr (.inr h))
        ·omega
      have HQ:Hid (kI w2 bk g ob v L t n (Lj t l s) ↑(i+1:Nat) w4):=by
       refine⟨i+1,_,v4,Z8,rfl,hE4,HK.out.2.1,Z8,HK.out.2.2.1.keep Gm mh,fun j e=>?_,HK.out.2.2.2.2.into Gm (fun j e=>?_)⟩
       ·rcases qh j e with h1|h1
        ·exact HK.out.2.2.2.1 j h1
        ·exact .inr (ZQ HK.out.2.2.2.2.size h1)
       ·rcases e with e|e|e
        ·exact .inl (.inl e)
        ·exact .inl (.inr (.inl e))
        ·rcases HK.out.2.2.2.1 j e with h1|h1
         ·exact .inl (.inr (.inr h1))
         ·exact .inr h1
      clear hE4 qh Gm Fx mh HK hc;go_wp2_with fail;go_roundw
      case rel=>exact HQ.out
      case measure=>exact YD
     ·obtain rfl:i=n:=Z8;have HK:Hid (Lj t l s=s1):=by show _=_;rw [<-PX,List.drop_of_length_le (by rw [YN];omega)];rfl
      have HE1:=Z5 hE (Z9 hF hM);clear PX hE hF hM hb hlen;go_wp2_with fail;go_ret;rw [HK.out];exact⟨v1,rfl,HE1.out.1,fun j e=>(HE1.out.2.1 j e).imp id (ZQ HM.out.size),(HM.out.mono (fun _ h=>h.elim)).trans HE1.out.2.2⟩
def RX(vx vy wx wy:Int):Bool:=
 if vx.natAbs+vy.natAbs≠wx.natAbs+wy.natAbs then decide (vx.natAbs+vy.natAbs<wx.natAbs+wy.natAbs)
 else if vy≠wy then decide (vy<wy)else decide (vx<wx)
theorem NR(w:World)(v:Int)(hv:-1073741824<=v/\v<=1073741824)(n:Nat):Calls prog 389 #[↑v] (w.drewN n) fun e w'=>e=.returned ↑(v.natAbs:Nat)/\w'=w.drewN n:=
 (fK _ v hv).mono fun _ _ ⟨a,b⟩=>⟨a,b.symm⟩
theorem af9(w:World)(vx vy wx wy:Int)(h1:-16<=vx/\vx<=16)(h2:-16<=vy/\vy<=16)(h3:-16<=wx/\wx<=16)(h4:-16<=wy/\wy<=16):
  Calls prog 345 #[.agg #[↑vx,↑vy],.agg #[↑wx,↑wy]] w fun e w'=>e=.returned (.bool (RX vx vy wx wy))/\Mod ↑ZW w w':=by
 obtain⟨a,ha⟩:=ZL (vx.natAbs);obtain⟨b,hb⟩:=ZL (vy.natAbs);obtain⟨c,hc⟩:=ZL (wx.natAbs);obtain⟨d,hd⟩:=ZL (wy.natAbs);have A1:a<=16:=Z8;have A2:b<=16:=Z8;have A3:c<=16:=Z8;have A4:d<=16:=Z8;have C1:∀(w:World) n,Calls prog 389 #[↑vx] (w.drewN n) fun e w'=>e=.returned ↑a/\w'=w.drewN n:=fun w n=>by rw [ha];exact NR w vx ⟨Z8,Z8⟩ n
 have C2:∀(w:World) n,Calls prog 389 #[↑vy] (w.drewN n) fun e w'=>e=.returned ↑b/\w'=w.drewN n:=fun w n=>by rw [hb];exact NR w vy ⟨Z8,Z8⟩ n
 have C3:∀(w:World) n,Calls prog 389 #[↑wx] (w.drewN n) fun e w'=>e=.returned ↑c/\w'=w.drewN n:=fun w n=>by rw [hc];exact NR w wx ⟨Z8,Z8⟩ n
 have C4:∀(w:World) n,Calls prog 389 #[↑wy] (w.drewN n) fun e w'=>e=.returned ↑d/\w'=w.drewN n:=fun w n=>by rw [hd];exact NR w wy ⟨Z8,Z8⟩ n
 have HR:Hid (RX vx vy wx wy=if a+b≠c+d then decide (a+b<c+d)else if vy≠wy then decide (vy<wy)else decide (vx<wx)):=by
  show _=_;unfold RX;rw [<-ha,<-hb,<-hc,<-hd]
 have h0:=(((Sat.nil ↑ZW w).alloc 273 #[↑vx,↑vy] rfl).alloc (g:=w.heap.size+1) 273 #[↑wx,↑wy] Ze).mod;have HM:=Z7 h0;clear ha hb hc hd h0 h1 h2 h3 h4;go_enter func345,ntmps345;go_upto_region 1 with(fail)
 go_quiet (first|(go_at_call 389;first|exact Zy (C1 _ _)|exact Zy (C2 _ _)|exact Zy (C3 _ _)|exact Zy (C4 _ _)))
 clear C1 C2 C3 C4;by_cases e:a+b=c+d
 ·have d1:(((a:Int)+(b:Int)) != ((c:Int)+(d:Int)))=false:=by simp;omega
  by_cases e2:vy=wy
  ·have d2:(vy != wy)=false:=by simp [e2]
   have HE:=Z5 e e2;clear e e2;go_wp2_with fail;go_ret;exact⟨by rw [HR.out,if_neg (fun h=>h HE.out.1),if_neg (fun h=>h HE.out.2)];rfl,HM.out.drewN _⟩
  ·have d2:(vy != wy)=true:=by simp [e2]
   have HE:=Z5 e e2;clear e e2;go_wp2_with fail;go_ret;exact⟨by rw [HR.out,if_neg (fun h=>h HE.out.1),if_pos HE.out.2];rfl,HM.out.drewN _⟩
 ·have d1:(((a:Int)+(b:Int)) != ((c:Int)+(d:Int)))=true:=by simp;omega
  have d3:decide ((a:Int)+(b:Int)<(c:Int)+(d:Int))=decide (a+b<c+d):=by congr 1;exact propext ⟨fun h=>by omega,fun h=>by omega⟩
  have HE:=Z5 e d3;clear e d3;go_wp2_with fail;go_ret;refine⟨?_,HM.out.drewN _⟩;rw [HR.out,if_pos HE.out.1,<-HE.out.2];rfl
theorem ou(w:World)(v i m:Nat)(h:v+i<m)(hm:m<=4096):Calls prog 342 #[↑v,↑i,↑m] w fun e w'=>e=.returned ↑(v+i:Nat)/\w=w':=by
 have d1:=Za ((m:Int)<=(v:Int));have HP:=Z7 (fM w ((v:Int)+(i:Int)) m Z8);have HN:Hid (Uj ((v:Int)+(i:Int)) m=v+i):=by
  show _=_;unfold Uj;rw [Xb,Xb];omega
 go_enter func342,ntmps342;go_wp2_with fail;refine HP.out.mono ?_;rintro e w1 ⟨rfl,rfl⟩;rw [HN.out];go_wp2_with fail;go_ret;exact⟨rfl,rfl⟩
theorem aaq(w:World)(v i m:Nat)(h:v+i<m)(hm:m<=4096)(n:Nat):Calls prog 342 #[↑v,↑i,↑m] (w.drewN n) fun e w'=>e=.returned ↑(v+i:Nat)/\w'=w.drewN n:=(ou _ v i m h hm).mono fun _ _ ⟨a,b⟩=>⟨a,b.symm⟩
def CG(W:Nat)(ZJ:List UInt8)(x y n k:Nat):UInt8:=ZJ.getD ((y+k/n)*W+(x+k % n)) 0
def Pv(W:Nat)(ZJ:List UInt8)(x y n:Nat):List UInt8:=(Zz (n*n)).map (CG W ZJ x y n)
theorem VB(W:Nat)(ZJ:List UInt8)(x y n:Nat):(Pv W ZJ x y n).length=n*n:=by simp [Pv]
theorem u6(W:Nat)(ZJ:List UInt8)(x y n j i:Nat)(hi:i<n):CG W ZJ x y n (j*n+i)=ZJ.getD ((y+j)*W+(x+i)) 0:=by
 unfold CG;have h1:(j*n+i) % n=i:=by rw [YA,Nat.mul_add_mod,XU hi]
 have h2:(j*n+i)/n=j:=by rw [YA,Nat.mul_add_div Z8,Nat.div_eq_of_lt hi,Nat.add_zero]
 rw [h1,h2]
def kE(w:World)(N:Nat)(l:List UInt8)(e:Ending)(w':World):Prop:=∃g,e=.returned ↑(ZZ g N N)/\ZI w' g 5 (Yw l).toArray/\w.heap.size<=g/\Mod ↑ZW w w'
def ajK(w:World)(q p N n:Nat)(pv:Array Value)(f:Nat->UInt8)(s29:Value)(wr:World):Prop:=
 ∃j:Nat,j<=n/\s29=↑j/\Sat ↑ZW w wr [⟨q,5,(Yw (Vq f N (j*n))).toArray⟩,⟨p,56,pv⟩] []
def ahh(w:World)(q p N n j:Nat)(pv:Array Value)(f:Nat->UInt8)(s41:Value)(wr:World):Prop:=
 ∃i:Nat,i<=n/\s41=↑i/\Sat ↑ZW w wr [⟨q,5,(Yw (Vq f N (j*n+i))).toArray⟩,⟨p,56,pv⟩] []
theorem Aa(w:World)(W H:Nat)(A:Option Addr)(m c:Nat)(ZJ:List UInt8)(h:Yx W H=true)(hm:m=W*H)(YZ:BytesIn w A (W*H) c ZJ)(x y n:Nat)(hx:x+n<=W)(hy:y+n<=H)(hn:1<=n/\n<=64)(N:Nat)(hN:N=n*n):
  Calls prog 286 #[.agg #[↑W,↑H,.slice A m c],↑x,↑y,↑n] w (kE w N (Pv W ZJ x y n)):=by
 obtain⟨wX,_,hW,_,hH,_⟩:=YB h;have hpl:=YZ.1;obtain⟨b,off,hA,hb,hcell⟩:=YZ.place Z8;subst hA;have HI:=Z5 h (Z9 hm (Z9 hb hcell));rw [<-hm]at wX;clear h hm YZ hcell;have h0:=(Sat.nil ↑ZW w)
 obtain⟨qA,yC⟩:=hn;have hNb:N<=4096:=by rw [hN];exact ZQ (Nat.mul_le_mul yC yC) Z8
 have dV:wrap64 ((n:Int)*(n:Int))=(N:Int):=by
  rw [show(n:Int)*(n:Int)=(N:Int)by rw [hN];simp];exact ZA _ ⟨Z8,Z8⟩
 have HN:=Z5 hN dV;clear hN dV;have t1:=Za ((n:Int)<1);have t2:=Za (64<(n:Int));go_enter func286,ntmps286;go_wp2_with fail;refine YX (Ru _ W H (some ⟨b,off,none⟩) m c HI.out.1 HI.out.2.1) fun w1 Y6=>?_;have HS:=Sat.after Y6 (h0.alloc _ _ rfl);clear Y6 h0;have HH:=Z7 HS;clear HS;go_wp2_with (refine TV _ rfl (.tmp 26) (.tmp 26) rfl N (congrArg (Value.int .i64) HN.out.2) (congrArg (Value.int .i64) HN.out.2) Z8 ?_;intro w3 hb3 X7;have HO:=Z5 hb3 X7;clear hb3 X7)
 have DC:=HO.out.1;rw [KX (CG W ZJ x y n)]at DC;have hqs:w.heap.size+1<=w1.heap.size:=(HH.out.ZX 0 rfl).lt
 have Td:=(HH.out.quiet HO.out.2).NA (g:=w1.heap.size) DC (.inr Z8) (by
  intro e he;have:=(HH.out.blk e he).lt;omega)
 obtain⟨q,hq⟩:=ZL (w1.heap.size);have hqw:w.heap.size<=q:=Z8;rw [<-hq]at Td ⊢;obtain⟨f,hf⟩:=ZL (CG W ZJ x y n);rw [<-hf]at Td;have HF:=Z7 hf;clear hf hq DC hqs HO HH;go_wp2_with fail;go_loopw [29] (ajK w q w.heap.size N n #[↑W,↑H,.slice (some ⟨b,off,none⟩) m c] f) (fun s _=>n-(intOf s).toNat)
 case atStart=>exact⟨0,Z8,rfl,by rw [Nat.zero_mul];exact Td⟩
 case round=>
  clear Td;obtain⟨j,hj,rfl,HSj⟩:=hrel;rename World=>w4
  obtain⟨pc,pf⟩:=(HSj.ZX 1 rfl).both;have HJ:=Z7 HSj;clear HSj;by_cases hlt:j<n
  ·have d1:=Zb ((j:Int)<(n:Int));obtain⟨m0,QN⟩:=ZL (j*n);have iO:m0+n<=N:=by
    rw [QN,HN.out.1];have:=YE n (show j+1<=n by omega);rw [Y5,Ym]at this;exact this
   have Dw:wrap64 ((j:Int)*(n:Int))=(m0:Int):=by
    rw [show(j:Int)*(n:Int)=(m0:Int)by rw [QN];simp];exact ZA _ ⟨Z8,Z8⟩
   obtain⟨r,hr⟩:=ZL ((y+j)*W);have eZ:r+W<=m:=by
    rw [hr,HI.out.2.1];have:=YE W (show y+j+1<=H by omega);rw [Y5 (y+j),Ym,YA H W]at this;exact this
   have hrw:wrap64 (((y:Int)+(j:Int))*(W:Int))=(r:Int):=by
    rw [show((y:Int)+(j:Int))*(W:Int)=(r:Int)by rw [hr];simp];exact ZA _ ⟨Z8,Z8⟩
   have HM:=Z5 QN (Z9 Dw (Z9 hr hrw));clear QN Dw hr hrw;go_upto_region 7 with(fail)
   go_quiet ((go_at_call 342;exact Zy (aaq _ y j H Z8 Z8 _)))
   have HJ2:=Z7 (HJ.out.drewN nq);clear pc pf HJ;generalize w4.drewN nq=w5 at *;go_wp2_with fail;rw [HM.out.2.2.2];go_loopw [41] (ahh w q w.heap.size N n j #[↑W,↑H,.slice (some ⟨b,off,none⟩) m c] f) (fun s _=>n-(intOf s).toNat)
   case atStart=>exact⟨0,Z8,rfl,HJ2.out⟩
   case round=>
    clear HJ2;rename World=>w6
    obtain⟨i,hi,rfl,vC⟩:=hrel;by_cases Pq:i<n
    ·have d2:=Zb ((i:Int)<(n:Int));obtain⟨pc,pf⟩:=(vC.ZX 1 rfl).drew.both;have Bn:(f (j*n+i))=ZJ.getD (r+(x+i)) 0:=by rw [HF.out,u6 _ _ _ _ _ _ _ Pq,HM.out.2.2.1]
     have hkm:r+(x+i)<m:=Z8;have Gq:w6.drew.cell? ⟨b,off+(r+(x+i)),none⟩=some (.int .u8 ((ZJ.getD (r+(x+i)) 0).toNat:Int)):=(World.cell?_of_block (vC.mod.drew.block b HI.out.2.2.1 (fun h=>h))).trans (HI.out.2.2.2 _ (by rw [<-HI.out.2.1];exact hkm));rw [<-Bn]at Gq;obtain⟨k,hk⟩:=ZL (r+(x+i));have hkw:IntKind.i64.wrap ((r:Int)+((x:Int)+(i:Int)))=(k:Int):=by rw [Z4 _ ⟨Z8,Z8⟩];omega
     rw [<-hk]at Gq hkm;have k0:(0:Int)<=(k:Int):=Z8;have k1:(k:Int)<(m:Int):=Z8;obtain⟨z,hz⟩:=ZL (m0+i);have jg:IntKind.i64.wrap (IntKind.i64.wrap ((j:Int)*(n:Int))+(i:Int))=(z:Int):=by
      rw [show(j:Int)*(n:Int)=(m0:Int)by rw [HM.out.1];simp,Z4 (m0:Int) ⟨Z8,Z8⟩,Z4 _ ⟨Z8,Z8⟩];omega
     have z0:(0:Int)<=(z:Int):=Z8;have z1:(z:Int)<(N:Int):=Z8;have qf:=((vC.ZX 0 rfl).drew).frozen;have ql:=(vC.ZX 0 rfl).drew.lt;have q0:=Ra (vC.ZX 0 rfl).drew (show j*n+i<N by rw [<-HM.out.1,<-hz];omega);rw [<-HM.out.1,<-hz]at q0;have HG:=Z5 vC.drew (Z9 hkw (Z9 jg (Z9 hk hz)));clear vC Bn hkw jg hk hz;go_upto_region 11 with(fail)
     refine YK [18] [] [0,1,2,3,4,5,6,7,8,9,10,11,12,13,14,15,16,17,18] ZR ZR Xc ?_;have jg:=HG.out.2.2.1;have hkw:=HG.out.2.1;iterate 13 (refine Yd ?_)
     refine QC rfl rfl (fun K hK=>?_);go_simp;refine⟨_,(ou _ x i W Z8 Z8).mono (fun _ _ ⟨a,b⟩=>⟨a,b.symm⟩),hK _ ?_⟩;clear hK K;iterate 4 (refine Yd ?_)
     refine XJ rfl rfl (fun K hK=>?_);go_simp;refine hK _ _ ?_;clear hK K;refine XD ?_;clear jg hkw;go_wp2_with fail;go_roundw
     case rel=>exact⟨i+1,Z8,Zr,by
      have:=HG.out.1.put (Tg.here (Ou f N (j*n+i)));rw [<-HM.out.1,<-HG.out.2.2.2.2]at this;rw [<-Nat.add_assoc,<-HM.out.1,<-HG.out.2.2.2.2];exact this⟩
     case measure=>exact YD
    ·obtain rfl:i=n:=Z8;have HG:=Z7 vC;clear vC;go_wp2_with fail;go_roundw
     case rel=>exact⟨j+1,Z8,Zr,by rw [Y5,Ym];exact HG.out⟩
     case measure=>exact YD
  ·obtain rfl:j=n:=Z8;go_wp2_with fail;go_ret;have hb:=HJ.out.ZX 0 rfl;rw [show(j*j)=N from HN.out.1.symm,J4,HF.out]at hb;refine⟨q,rfl,?_,hqw,HJ.out.mod⟩;unfold Pv;rw [<-HN.out.1];exact hb
end Go.Proofs.YthednemlahioeaaGreatDoor
