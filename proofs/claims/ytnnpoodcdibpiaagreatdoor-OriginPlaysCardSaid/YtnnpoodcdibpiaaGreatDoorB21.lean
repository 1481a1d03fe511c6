/-
  bits.Writer.Put.
-/
import Derived.Test.YtnnpoodcdibpiaaGreatDoorB20
namespace Go.Proofs.YtnnpoodcdibpiaaGreatDoor
open Go.RowKit
set_option maxRecDepth 100000
set_option maxHeartbeats 8000000
structure WAt(w:World)(g:Nat)(v:Value)(L:List UInt8):Prop where
 blk:Blk w g 416 #[v,.int .i64 ((L.length:Nat):Int)]
 own:Bytes w 0 v (packL L)
 bits:BitsL L
theorem WAt.quiet{w w':World}{g:Nat}{v:Value}{L:List UInt8}(h:WAt w g v L)(hm:Mod (fun _=>False) w w'):WAt w' g v L:=⟨h.blk.keep hm (fun h=>h),h.own.quiet hm,h.bits⟩
def WPost(w:World)(g:Nat)(v:Value)(L:List UInt8)(e:Ending)(w':World):Prop:=
 ∃v',e=.returned (.int .i64 0)/\WAt w' g v' L/\(∀j,v'.ownBlock=some j->v.ownBlock=some j\/w.heap.size<=j)/\Mod (fun j=>j=g\/v.ownBlock=some j) w w'
def WPutRel(w:World)(g:Nat)(v:Value)(x:Nat)(T:List UInt8)(v7:Value)(wr:World):Prop:=
 ∃(m:Nat) (L:List UInt8) (v1:Value),m<=32/\v7=.int .i64 ((m:Int)-1)/\L++digitsL x m=T/\L.length<=4096/\WAt wr g v1 L/\(∀j,v1.ownBlock=some j->v.ownBlock=some j\/w.heap.size<=j)/\Mod (fun j=>j=g\/v.ownBlock=some j) w wr
theorem and64u(y:Nat)(hy:y<1099511627776):bits BinOp.and IntKind.u64 (y:Int) 1=((y % 2:Nat):Int):=by
 have e1:(BitVec.ofInt 64 (y:Int)).toNat=y:=by rw [BitVec.toNat_ofInt];omega
 have e2:(BitVec.ofInt 64 1).toNat=1:=by rw [BitVec.toNat_ofInt];omega
 have key:(BitVec.ofInt 64 (y:Int) &&& BitVec.ofInt 64 1).toNat=y % 2:=by
  rw [BitVec.toNat_and,e1,e2,Nat.and_one_is_mod]
 show IntKind.u64.wrap ((BitVec.ofInt 64 (y:Int) &&& BitVec.ofInt 64 1).toNat:Nat)=_;rw [key];exact IntWalk.u64_in _ ⟨by omega,by omega⟩
theorem or8(m e b:Nat)(he:e<=7)(hm:m<2 ^ (7-e))(hb:b<=1):bits BinOp.or IntKind.u8 ((m*2 ^ (e+1):Nat):Int) ((b*2 ^ e:Nat):Int)=((m*2 ^ (e+1)+b*2 ^ e:Nat):Int)/\m*2 ^ (e+1)+b*2 ^ e<256/\b*2 ^ e<256:=by
 have hp:2 ^ (7-e)*2 ^ (e+1)=256:=by rw [<-Nat.pow_add,show 7-e+(e+1)=8 by omega]
 have h1:(m+1)*2 ^ (e+1)<=256:=by rw [<-hp];exact Nat.mul_le_mul_right _ hm
 rw [Nat.add_mul,Nat.one_mul]at h1;have h2:b*2 ^ e<2 ^ (e+1):=by
  have h3:b*2 ^ e<=1*2 ^ e:=Nat.mul_le_mul_right _ hb;rw [Nat.pow_succ];have:=Nat.two_pow_pos e;omega
 have h4:m*2 ^ (e+1)+b*2 ^ e<256:=by omega
 refine⟨?_,h4,by omega⟩;have e1:(BitVec.ofInt 8 ((m*2 ^ (e+1):Nat):Int)).toNat=m*2 ^ (e+1):=by rw [BitVec.toNat_ofInt];generalize m*2 ^ (e+1)=z at *;omega
 have e2:(BitVec.ofInt 8 ((b*2 ^ e:Nat):Int)).toNat=b*2 ^ e:=by rw [BitVec.toNat_ofInt];generalize b*2 ^ e=z at *;omega
 have key:(BitVec.ofInt 8 ((m*2 ^ (e+1):Nat):Int) ||| BitVec.ofInt 8 ((b*2 ^ e:Nat):Int)).toNat=m*2 ^ (e+1)+b*2 ^ e:=by
  rw [BitVec.toNat_or,e1,e2];have:=Nat.shiftLeft_add_eq_or_of_lt (i:=e+1) (b:=b*2 ^ e) h2 m;rw [Nat.shiftLeft_eq]at this;exact this.symm
 show IntKind.u8.wrap ((BitVec.ofInt 8 ((m*2 ^ (e+1):Nat):Int) ||| BitVec.ofInt 8 ((b*2 ^ e:Nat):Int)).toNat:Nat)=_;rw [key];exact IntWalk.u8_in _ ⟨by omega,by omega⟩
def WPad(w:World)(g:Nat)(v:Value)(nn:Nat)(P:List UInt8)(wr:World):Prop:=
 ∃(A:Option Addr) (c:Nat),Blk wr g 416 #[.slice A P.length c,.int .i64 (nn:Int)]/\Bytes wr 0 (.slice A P.length c) P/\(∀j,(Value.slice A P.length c).ownBlock=some j->v.ownBlock=some j\/w.heap.size<=j)/\Mod (fun j=>j=g\/v.ownBlock=some j) w wr
theorem wPut(w:World)(g:Nat)(v:Value)(L:List UInt8)(x n:Nat)(hx:x<4294967296)(hn:n<=32)(hxn:x/2 ^ n=0)(hl:L.length+n<=4096)(h:WAt w g v L):
  Calls Tryz.prog 230 #[.pointer (some ⟨g,0,none⟩),.int .u64 (x:Int),.int .i64 (n:Int)] w (WPost w g v (L++digitsL x n)):=by
 obtain⟨T,hT⟩:∃T,T=L++digitsL x n:=⟨_,rfl⟩
 have hTl:T.length<=4096:=by rw [hT,List.length_append,digitsL_length];omega
 rw [<-hT];have p0:decide ((n:Int)<0)=false:=decide_eq_false (by omega);have p1:decide (64<(n:Int))=false:=decide_eq_false (by omega);have p2:decide ((n:Int)<64)=true:=decide_eq_true (by omega);have hxz:(x:Int)/2 ^ n=0:=by
  have:((x/2 ^ n:Nat):Int)=(x:Int)/2 ^ n:=by push_cast;rfl
  rw [<-this,hxn];rfl
 have H0:=Lib.hid (And.intro h hT);clear h hT hxn;go_enter Tryz.func230,Tryz.ntmps230;go_wp2_with fail;go_loopw [7] (WPutRel w g v x T) (fun i _=>(intOf i+1).toNat)
 case atStart=>exact⟨n,L,v,hn,rfl,H0.out.2.symm,by omega,H0.out.1,fun j e=>.inl e,Mod.refl _ _⟩
 case round=>
  obtain⟨m,L1,v1,hm,rfl,hT1,hl1,hw,hf,hM⟩:=hrel;rename World=>wr
  rcases Nat.eq_zero_or_pos m with rfl|hm0
  ·have e1:((0:Nat):Int)-1 = -1:=by omega
   rw [e1];have hTT:L1=T:=by rw [<-hT1];simp [digitsL]
   have HF:=Lib.hid (And.intro hw (And.intro hf (And.intro hM hTT)));clear hw hf hM hTT hT1;go_wp2_with fail;go_ret;exact⟨v1,rfl,by rw [<-HF.out.2.2.2];exact HF.out.1,HF.out.2.1,HF.out.2.2.1⟩
  ·obtain⟨i,rfl⟩:∃i,m=i+1:=⟨m-1,by omega⟩
   have e1:((i+1:Nat):Int)-1=(i:Int):=by omega
   rw [e1];have d1:decide (0<=(i:Int))=true:=decide_eq_true (by omega);obtain⟨bt,hbt⟩:∃bt,bt=x/2 ^ i % 2:=⟨_,rfl⟩
   have hb1:bt<=1:=by omega
   obtain⟨A1,c1,rfl⟩:=own_shape hw.own;obtain⟨nn,hnn⟩:∃nn,nn=L1.length:=⟨_,rfl⟩
   obtain⟨r,hr⟩:∃r,r=nn % 8:=⟨_,rfl⟩
   obtain⟨q,hq⟩:∃q,q=nn/8:=⟨_,rfl⟩
   have hbk:=hw.blk;rw [<-hnn]at hbk hl1;obtain⟨pc,pf⟩:=hbk.both;have pl:=hbk.lt;have t1:(nn:Int).tmod 8=(r:Int):=by rw [Int.tmod_eq_emod_of_nonneg (by omega),hr];omega
   have t2:(nn:Int).tdiv 8=(q:Int):=by rw [Int.tdiv_eq_ediv_of_nonneg (by omega),hq];omega
   have hr8:r<8:=by omega
   obtain⟨pn,hpn⟩:∃pn,pn=(packL L1).length:=⟨_,rfl⟩
   have hpl:pn<=512:=by rw [hpn,packL_length];omega
   rw [<-hpn]at pc hbk;have H1:=Lib.hid (And.intro hw (And.intro hf (And.intro hM (And.intro hT1 (And.intro hbt (And.intro hnn (And.intro hr (And.intro hq (And.intro hpn hbk)))))))));clear hw hf hM hT1 hbt hnn hr hq hpn hbk;go_upto_if 39 with(fail)
   go_cut [] (fun wx=>WPad w g v nn (padL L1) wx)
   case first=>
    by_cases hr0:r=0
    ·have d2:((r:Int) == 0)=true:=by simp;omega
     have hpad:padL L1=packL L1++[0]:=by unfold padL;rw [if_pos (by have h1:=H1.out.2.2.2.2.2.1;have h2:=H1.out.2.2.2.2.2.2.1;omega)]
     have HP:=Lib.hid (And.intro hr0 hpad);clear hr0 hpad;go_upto_region 7 with(fail)
     go_wp2_with (at_builtin;have _t:=H1;refine wpList_app_u8 _ rfl (.tmp 44) (.tmp 45) rfl 0 (.slice A1 pn c1) (packL L1) 0 rfl rfl (by rw [H1.out.2.2.2.2.2.2.2.2.1];exact H1.out.1.own) (Nat.zero_le _) (by have h9:=H1.out.2.2.2.2.2.2.2.2.1;omega) ?_;intro v5 w5 hown5 hM5 hJ5 hF5;clear hJ5;have HO:=Lib.hid (And.intro hown5 (And.intro hM5 hF5));have hb5:=H1.out.2.2.2.2.2.2.2.2.2.keep hM5 (own_ne_blk H1.out.1.own H1.out.1.blk (by decide) |> fun h=>by rw [H1.out.2.2.2.2.2.2.2.2.1];exact h);obtain⟨bc5,bf5⟩:=hb5.both;have bl5:=hb5.lt;have H5:=Lib.hid hb5;clear hb5 hown5 hM5 hF5;refine Hid.out ?_)
     refine Lib.hid ?_;clear pc pf pl;obtain⟨A5,k5,hv5⟩:=own_shape HO.out.1;obtain⟨n5,hn5⟩:∃n5,n5=(packL L1++[0]).length:=⟨_,rfl⟩
     rw [<-hn5]at hv5;subst hv5;have HN5:=Lib.hid hn5;clear hn5;go_wp2_with fail;go_meet;have hb6:=H5.out.put (i:=0) (u:=.slice A5 n5 k5) rfl;have hwz:=H1.out.2.2.1.size;rw [HP.out.2];refine⟨A5,k5,by rw [<-HN5.out];exact hb6,by have:=HO.out.1.mod ((Mod.refl (fun j=>j=g) w5).setCell (p:=⟨g,0,none⟩) (.inl rfl) (.slice A5 n5 k5)) (fun j e hj=>own_ne_blk HO.out.1 H5.out (by decide) (by rw [e];exact congrArg some hj));rw [HN5.out]at this ⊢;exact this,fun j e=>?_,(H1.out.2.2.1.into HO.out.2.1 (fun j e=>?_)).setCell (p:=⟨g,0,none⟩) (.inl (.inl rfl)) _⟩
     ·rw [<-HN5.out]at e;rcases HO.out.2.2 j e with h1|h1
      ·exact H1.out.2.1 j (by rw [<-H1.out.2.2.2.2.2.2.2.2.1];exact h1)
      ·exact .inr (Nat.le_trans hwz h1)
     ·rcases H1.out.2.1 j (by rw [<-H1.out.2.2.2.2.2.2.2.2.1];exact e)with h1|h1
      ·exact .inl (.inr h1)
      ·exact .inr h1
    ·have d2:((r:Int) == 0)=false:=by simp;omega
     have hpad:padL L1=packL L1:=by unfold padL;rw [if_neg (by have h1:=H1.out.2.2.2.2.2.1;have h2:=H1.out.2.2.2.2.2.2.1;omega)]
     go_wp2_with fail;go_meet;rw [hpad];exact⟨A1,c1,by rw [<-H1.out.2.2.2.2.2.2.2.2.1];exact H1.out.2.2.2.2.2.2.2.2.2,H1.out.1.own,H1.out.2.1,H1.out.2.2.1⟩
   case rest=>
    clear pc pf pl;obtain⟨A2,c2,hb2,hown2,hf2,hm2⟩:=hcut;rename World=>w2
    obtain⟨h1,h2,h3⟩:=And.intro H1.out.2.2.2.2.2.1 (And.intro H1.out.2.2.2.2.2.2.1 H1.out.2.2.2.2.2.2.2.1);have hpl2:(padL L1).length=q+1:=by rw [padL_length,<-h1,<-h3]
    obtain⟨P,hP⟩:∃P,P=padL L1:=⟨_,rfl⟩
    rw [<-hP]at hb2 hown2 hf2 hpl2;obtain⟨r2,rfl,hcap⟩:=hown2.some_ (by omega);obtain⟨mm,hmm,hm2r⟩:=padL_free H1.out.1.bits;rw [<-h1,<-h3,<-hP,<-h2]at hmm;rw [<-h1,<-h2]at hm2r;have hsn:=packL_snoc H1.out.1.bits (UInt8.ofNat bt);rw [<-h1,<-h3,<-hP,<-h2]at hsn;obtain⟨ov,hov⟩:∃ov,ov=(P.getD q 0).toNat:=⟨_,rfl⟩
    have hov8:ov<256:=by rw [hov];exact UInt8.toNat_lt _
    obtain⟨pn2,hpn2⟩:∃pn2,pn2=P.length:=⟨_,rfl⟩
    have hown3:Bytes w2.drew 0 (.slice (some ⟨r2,0,none⟩) pn2 c2) P:=by rw [hpn2];exact hown2.quiet ((Mod.refl _ w2).drew)
    have hb3:Blk w2.drew g 416 #[.slice (some ⟨r2,0,none⟩) pn2 c2,.int .i64 (nn:Int)]:=by rw [hpn2];exact hb2.drew
    have hcl:=Bytes.cell hown3 q (by omega);rw [<-hov]at hcl;have hfz:=hown3.frozen;have hll:=hown3.low.2;have hne:=hown3.ne_ hb3 (by decide);obtain⟨pc3,pf3⟩:=hb3.both;have q0:(0:Int)<=(q:Int):=by omega
    have q1:(q:Int)<(pn2:Int):=by omega
    have eb:bits BinOp.and IntKind.u64 ((x:Int)/2 ^ i) 1=(bt:Int):=by
     have h5:x/2 ^ i<=x:=Nat.div_le_self _ _;rw [H1.out.2.2.2.2.1,<-and64u (x/2 ^ i) (by omega)];congr 1
    have wq:IntKind.i64.wrap (q:Int)=(q:Int):=IntWalk.i64_in _ ⟨by omega,by omega⟩;have wr1:IntKind.i64.wrap (r:Int)=(r:Int):=IntWalk.i64_in _ ⟨by omega,by omega⟩;obtain⟨e,he⟩:∃e,e=7-r:=⟨_,rfl⟩
    have wr2:IntKind.i64.wrap (7-(r:Int))=(e:Int):=by rw [IntWalk.i64_in _ ⟨by omega,by omega⟩];omega
    have hem:e<=7/\8-r=e+1/\r=7-e:=by omega
    rw [hem.2.1]at hmm;have hm2r':mm<2 ^ (7-e):=by rw [<-hem.2.2];exact hm2r
    have OR:=or8 mm e bt hem.1 hm2r' hb1;rw [<-hmm,<-hov]at OR;obtain⟨sh,hsh⟩:∃sh,sh=bt*2 ^ e:=⟨_,rfl⟩
    rw [<-hsh]at OR;obtain⟨or1,or2,or3⟩:=OR;have wb1:IntKind.u8.wrap (bt:Int)=(bt:Int):=IntWalk.u8_in _ ⟨by omega,by omega⟩;have wb2:IntKind.u8.wrap ((bt:Int)*2 ^ e)=(sh:Int):=by
     rw [show(bt:Int)*2 ^ e=(sh:Int)by rw [hsh];push_cast;rfl];exact IntWalk.u8_in _ ⟨by omega,by omega⟩
    have hmin:min e 8=e:=by omega
    have HSH:=Lib.hid (And.intro hsh he);clear hsh he hem hm2r';have H2:=Lib.hid (And.intro hown3 (And.intro hb3 (And.intro hf2 (And.intro hm2 (And.intro hsn (And.intro hmm (And.intro hm2r (And.intro hov hpn2))))))));clear hown2 hb2 hown3 hb3 hf2 hm2 hsn hmm hm2r hov hpn2 h1 h2 h3 hP hpl2 hcap;go_upto_region 8 with(fail)
    refine wp_region_plan [25] [] [0,1,2,3,4,5,6,7,8,9,10,11,12,13,14,15,16,17,18,19,20,21,22,23,24,25] (by kernel_rfl) (by kernel_rfl) (fun _ _ _ d _ h=>by cases d<;>exact h) ?_;iterate 25 (refine plan_still rfl rfl (fun K hK=>?_);go_simp;refine hK _ ?_;clear hK K)
    refine plan_loud rfl rfl (fun K hK=>?_);go_simp;refine hK _ _ ?_;clear hK K;refine plan_done ?_;have hown4:=(H2.out.1.putN q (ov+sh) or2)
    have hb4:Blk (w2.drew.setCell ⟨r2,q,none⟩ (.int .u8 ((ov+sh:Nat):Int))) g 416 #[.slice (some ⟨r2,0,none⟩) pn2 c2,.int .i64 (nn:Int)]:=H2.out.2.1.far (p:=⟨r2,q,none⟩) (fun e=>hne e.symm) _;change Exit.then _ _ _ _ (w2.drew.setCell ⟨r2,q,none⟩ (.int .u8 ((ov+sh:Nat):Int)));have hm4:Mod (·=r2) w2 (w2.drew.setCell ⟨r2,q,none⟩ (.int .u8 ((ov+sh:Nat):Int))):=((Mod.refl (·=r2) w2).drew).setCell (p:=⟨r2,q,none⟩) (.inl rfl) _;generalize w2.drew.setCell ⟨r2,q,none⟩ (.int .u8 ((ov+sh:Nat):Int))=w4 at *;obtain⟨pc4,pf4⟩:=hb4.both;have pl4:=hb4.lt;have wn1:IntKind.i64.wrap ((nn:Int)+1)=(nn:Int)+1:=IntWalk.i64_in _ ⟨by omega,by omega⟩;have H4:=Lib.hid (And.intro hown4 (And.intro hb4 hm4));clear hown4 hb4 hm4 pc3 pf3 hcl hfz hll;go_wp2_with fail;go_roundw
    case rel=>
     have hbb:=H4.out.2.1.put (i:=1) (u:=.int .i64 ((nn:Int)+1)) rfl;have hoo:=H4.out.1.far (p:=⟨g,1,none⟩) (by exact hne) (.int .i64 ((nn:Int)+1));have hbt1:(UInt8.ofNat bt).toNat=bt:=by rw [UInt8.toNat_ofNat'];omega
     have hL2:packL (L1++[UInt8.ofNat bt])=P.set q (UInt8.ofNat (ov+sh)):=by
      rw [H2.out.2.2.2.2.1,H2.out.2.2.2.2.2.2.2.1 |> fun h=>h.symm,hbt1,<-HSH.out.2,<-HSH.out.1]
     have hln:(L1++[UInt8.ofNat bt]).length=nn+1:=by rw [List.length_append,List.length_singleton,H1.out.2.2.2.2.2.1]
     refine⟨i,L1++[UInt8.ofNat bt],.slice (some ⟨r2,0,none⟩) pn2 c2,by omega,by go_num,?_,by have h9:=congrArg List.length H1.out.2.2.2.1;rw [List.length_append,digitsL_length]at h9;rw [hln];have h10:=H1.out.2.2.2.2.2.1;omega,⟨?_,?_,H1.out.1.bits.snoc (by rw [hbt1];exact hb1)⟩,?_,?_⟩
     ·rw [<-H1.out.2.2.2.1,List.append_assoc];congr 1;show _=UInt8.ofNat (x/2 ^ i % 2) :: digitsL x i;rw [<-H1.out.2.2.2.2.1];rfl
     ·rw [hln];exact hbb
     ·rw [hL2];exact hoo
     ·intro j e5;exact H2.out.2.2.1 j (by rw [<-H2.out.2.2.2.2.2.2.2.2];exact e5)
     ·refine(H2.out.2.2.2.1.into H4.out.2.2 (fun j e5=>?_)).setCell (p:=⟨g,1,none⟩) (.inl (.inl rfl)) _;rcases H2.out.2.2.1 j (by rw [e5];rfl)with h7|h7
      ·exact .inl (.inr h7)
      ·exact .inr h7
    case measure=>simp [intOf]
def HoldsR(F code:List UInt8)(wide:Nat):Prop:=code.length<=F.length/\be code<=be (F.take code.length)/\be (F.take code.length)<be code+wide
def CodeOk(code:List UInt8)(wide:Nat):Prop:=16777216<=wide/\wide<4294967296/\be code+wide<=256 ^ code.length
structure EsOk(s:Es):Prop where
 code:CodeOk s.code s.wide
 len:s.ch.length=592
 ok:∀i,i<592->chanceOk (s.ch.getD i 0)=true
def Holds(F:List UInt8)(s:Es):Prop:=HoldsR F s.code s.wide
def stOf(F:List UInt8)(s:Es):St:=⟨s.ch,F.drop s.code.length,be (F.take s.code.length)-be s.code,s.wide⟩
def Rt{α:Type}(s s':Es)(g:St->Option (α × St))(v:α):Prop:=EsOk s'/\∀F,Holds F s'->Holds F s/\g (stOf F s)=some (v,stOf F s')
theorem Rt.bind{α β:Type}{s s1 s2:Es}{g:St->Option (α × St)}{f:α->St->Option (β × St)}{v:α}{u:β}(h:Rt s s1 g v)(k:Rt s1 s2 (f v) u):Rt s s2 (fun x=>(g x).bind fun y=>f y.1 y.2) u:=
 ⟨k.1,fun F hF=>by
  obtain⟨h1,h2⟩:=k.2 F hF;obtain⟨h3,h4⟩:=h.2 F h1;refine⟨h3,?_⟩;dsimp only;rw [h4];exact h2⟩
theorem blen_bounds{x:Nat}(h:0<x):2 ^ (blen x-1)<=x/\x<2 ^ blen x:=by
 unfold blen;rw [if_neg (by omega)];have:=(Nat.log2_eq_iff (by omega:x≠0) (k:=Nat.log2 x)).1 rfl;simpa using this
theorem wNew(w:World):Calls Tryz.prog 229 #[] w fun e w'=>∃g,e=.returned (.pointer (some ⟨g,0,none⟩))/\WAt w' g (.slice none 0 0) []/\w.heap.size<=g/\Mod (fun _=>False) w w':=by
 go_enter Tryz.func229,Tryz.ntmps229;go_wp2_with fail;go_ret;exact⟨_,rfl,⟨Blk.new _ _ _,Bytes.nil _ _,fun i=>by simp⟩,Nat.le_refl _,(Mod.refl _ _).alloc _⟩
theorem wAlign(w:World)(g:Nat)(A:Option Addr)(n c:Nat)(m:Int)(hn:n<=4096)(hb:Blk w g 416 #[.slice A n c,.int .i64 m]):
  Calls Tryz.prog 232 #[.pointer (some ⟨g,0,none⟩)] w fun e w'=>e=.returned (.int .i64 0)/\Blk w' g 416 #[.slice A n c,.int .i64 (8*(n:Int))]/\Mod (·=g) w w':=by
 obtain⟨bc,bf⟩:=hb.both;have bl:=hb.lt;have H:=Lib.hid hb;clear hb;go_enter Tryz.func232,Tryz.ntmps232;go_wp2_with fail;go_ret;exact⟨rfl,H.out.put (i:=1) (u:=.int .i64 (8*(n:Int))) rfl,(Mod.refl (fun j=>j=g) w).setCell (p:=⟨g,1,none⟩) (.inl rfl) _⟩
theorem wBytes(w:World)(g:Nat)(A:Option Addr)(n c:Nat)(m:Int)(l:List UInt8)(hl:l.length=n)(hn:n<=4096)(hb:Blk w g 416 #[.slice A n c,.int .i64 m])(ho:Bytes w 0 (.slice A n c) l):
  Calls Tryz.prog 233 #[.pointer (some ⟨g,0,none⟩)] w (MadeU w n l):=by
 obtain⟨bc,bf⟩:=hb.both;have hin:=ho.in_;have H:=Lib.hid (And.intro hb (And.intro hin hl));clear hb hin ho hl;go_enter Tryz.func233,Tryz.ntmps233;go_upto_region 4 with(refine wpList_mk_u8 _ rfl (.tmp 10) (.tmp 10) rfl n rfl rfl (by omega) ?_;intro w3 hb3 hm3;have HO:=Lib.hid (And.intro hb3 hm3);clear hb3 hm3)
 have hb3:=H.out.1.keep HO.out.2 (fun h=>h);have hin3:=H.out.2.1.quiet HO.out.2;obtain⟨bc3,bf3⟩:=hb3.both;have HF:Hid (0+n<=(u8s (List.replicate n 0)).length):=by show _<=_;rw [u8s_length,List.length_replicate];omega
 have H3:=Lib.hid (And.intro hb3 hin3);clear bc bf hb3 hin3;go_wp2_with (refine wpList_copy_blk rfl (.tmp 12) (.tmp 16) _ _ rfl 5 Tryz.underlying22 (by kernel_rfl) (some ⟨w.heap.size,0,none⟩) n n A n c (u8s l) rfl rfl H3.out.2.2.2.1 w.heap.size 0 _ 5 HO.out.1 n (Nat.min_self _).symm (fun _=>rfl) HF.out (u8s_one _) ?_;intro w5 hb5 hm5;have HB5:=Lib.hid (And.intro hb5 hm5);clear hb5 hm5)
 go_ret;refine⟨w.heap.size,rfl,?_,Nat.le_refl _,HO.out.2.into HB5.out.2 (fun i e=>.inr (by omega))⟩;have hb5:=HB5.out.1;have e:splice (u8s (List.replicate n 0)) 0 ((u8s l).take n)=u8s l:=by
  rw [List.take_of_length_le (by rw [u8s_length,H.out.2.2];exact Nat.le_refl _),u8s_splice];congr 1;unfold splice;rw [List.take_zero,List.nil_append,List.drop_of_length_le (by rw [List.length_replicate,H.out.2.2];omega),List.append_nil]
 rwa [e]at hb5
theorem gPut(w:World)(g:Nat)(v:Value)(L:List UInt8)(x:Nat)(hx:x<=60000)(hl:L.length+32<=4096)(h:WAt w g v L):
  Calls Tryz.prog 231 #[.pointer (some ⟨g,0,none⟩),.int .u64 (x:Int)] w (WPost w g v (L++codeL x)):=by
 have hb1:=blen_pos (show 0<x+1 by omega);have hb2:blen (x+1)<=16:=blen_pw (by omega);have hbd:=blen_bounds (show 0<x+1 by omega);have hz:(x+1)/2 ^ (2*blen (x+1)-1)=0:=by
  apply Nat.div_eq_of_lt;exact Nat.lt_of_lt_of_le hbd.2 (Nat.pow_le_pow_right (by omega) (by omega))
 have hP:=wPut w g v L (x+1) (2*blen (x+1)-1) (by omega) (by omega) hz (by omega) h;have hL:=bitsLen64 w (x+1) (by omega);have hC:Hid (codeL x=digitsL (x+1) (2*blen (x+1)-1)):=rfl;generalize blen (x+1)=b at *;obtain⟨y,hy⟩:∃y,y=x+1:=⟨_,rfl⟩
 rw [<-hy]at hP hL hC;have e1:(x:Int)+1=(y:Int):=by omega
 have hy2:y<=60001:=by omega
 clear hy;have d0:decide (4294967294<(x:Int))=false:=decide_eq_false (by omega);have HP:=Lib.hid (And.intro hP hL);clear hP hL h hbd hz;obtain⟨nb,hnb⟩:∃nb,nb=2*b-1:=⟨_,rfl⟩
 have e2:2*(b:Int)-1=(nb:Int):=by omega
 rw [<-hnb]at HP hC;have hnb2:nb<=31:=by omega
 clear hnb;have hLen:Calls Tryz.prog 297 #[.int .u64 (x:Int)] w fun e w'=>e=.returned (.int .i64 (nb:Int))/\w=w':=by
  go_enter Tryz.func297,Tryz.ntmps297;go_wp2_with fail;refine HP.out.2.mono ?_;rintro e w1 ⟨rfl,rfl⟩;go_wp2_with fail;go_ret;exact⟨rfl,rfl⟩
 have HL:=Lib.hid hLen;clear hLen;go_enter Tryz.func231,Tryz.ntmps231;go_wp2_with fail;refine HL.out.mono ?_;rintro e w1 ⟨rfl,rfl⟩;go_wp2_with fail;refine HP.out.1.mono ?_;rintro e w2 ⟨v2,rfl,hW,hF,hM⟩;have H2:=Lib.hid (And.intro hW (And.intro hF hM));clear hW hF hM;go_wp2_with fail;go_ret;rw [hC.out];exact⟨v2,rfl,H2.out.1,H2.out.2.1,H2.out.2.2⟩
def fldB(p:Nat × Nat):List UInt8:=if 0<p.2 then digitsL p.1 p.2 else codeL p.1
def fldsB:List (Nat × Nat)->List UInt8
 | []=>[]
 | p :: r=>fldB p++fldsB r
def fldC:List (Nat × Nat)->List Value
 | []=>[]
 | p :: r=>.int .i64 (p.1:Int) :: .int .i64 (p.2:Int) :: fldC r
theorem fldC_at:∀(fs:List (Nat × Nat)) (i:Nat) (h:i<fs.length),(fldC fs)[2*i]?=some (.int .i64 ((fs[i]).1:Int))/\(fldC fs)[2*i+1]?=some (.int .i64 ((fs[i]).2:Int))
 | [],i,h=>by simp at h
 | p :: r,0,_=>⟨rfl,rfl⟩
 | p :: r,i+1,h=>by
  have:=fldC_at r i (by simpa using h);rw [show 2*(i+1)=2*i+1+1 by omega];exact this
def FldOk(p:Nat × Nat):Prop:=p.1<=60000/\p.2<=32/\(0<p.2->p.1/2 ^ p.2=0)
theorem codeL_len{x:Nat}(hx:x<=60000):(codeL x).length<=31:=by
 have hb2:blen (x+1)<=16:=blen_pw (by omega);unfold codeL;rw [digitsL_length];omega
theorem fldB_len{p:Nat × Nat}(h:FldOk p):(fldB p).length<=32:=by
 unfold fldB;split
 ·rw [digitsL_length];exact h.2.1
 ·have:=codeL_len h.1;omega
def SwRel(w:World)(fb:Nat)(t:TypeId)(k:Nat)(fs:List (Nat × Nat))(T:List UInt8)(g:Nat)(v9:Value)(wr:World):Prop:=
 ∃(i:Nat) (L:List UInt8) (v:Value),i<=k/\v9=.int .i64 (i:Int)/\L++fldsB (fs.drop i)=T/\L.length<=32*i/\WAt wr g v L/\Blk wr fb t (fldC fs).toArray/\(∀j,v.ownBlock=some j->w.heap.size<=j)/\w.heap.size<=g/\Mod (fun _=>False) w wr
theorem synWrite(w:World)(fb:Nat)(t:TypeId)(k:Nat)(fs:List (Nat × Nat))(hk:k=fs.length)(hk8:k<=8)(hfs:∀p∈fs,FldOk p)(hb:Blk w fb t (fldC fs).toArray):
  Calls Tryz.prog 161 #[.slice (some ⟨fb,0,none⟩) k k] w fun e w'=>∃N,N=(packL (fldsB fs)).length/\MadeU w N (packL (fldsB fs)) e w':=by
 obtain⟨T,hT⟩:∃T,T=fldsB fs:=⟨_,rfl⟩
 rw [<-hT];have H0:=Lib.hid (And.intro hk (And.intro hfs (And.intro hb hT)));have hfl:=hb.lt;clear hk hfs hb hT;go_enter Tryz.func161,Tryz.ntmps161;go_wp2_with fail;refine(wNew _).mono ?_;rintro e w1 ⟨g,rfl,hW,hg,hm⟩;have H1:=Lib.hid (And.intro hW (And.intro hg hm));clear hW hg hm;go_wp2_with fail;go_loopw [9] (SwRel w fb t k fs T g) (fun i _=>k-(intOf i).toNat)
 case atStart=>exact⟨0,[],_,by omega,rfl,by rw [H0.out.2.2.2];rfl,by simp,H1.out.1,H0.out.2.2.1.keep H1.out.2.2 (fun h=>h),fun j e=>by simp [Value.ownBlock]at e,H1.out.2.1,H1.out.2.2⟩
 case round=>
  obtain⟨i,L,v,hi,rfl,hTL,hll,hW,hfb,hown,hg,hm⟩:=hrel;rename World=>wr
  by_cases hlt:i<k
  ·have d1:decide ((i:Int)<(k:Int))=true:=decide_eq_true (by omega);have hif:i<fs.length:=by rw [<-H0.out.1];exact hlt
   obtain⟨f1,f2⟩:=fldC_at fs i hif;have hok:=H0.out.2.1 fs[i] (List.getElem_mem hif);have hdr:fldsB (fs.drop i)=fldB fs[i]++fldsB (fs.drop (i+1)):=by rw [List.drop_eq_getElem_cons hif];rfl
   rw [hdr]at hTL;generalize fs[i]=p at *;obtain⟨a,b⟩:=p;dsimp only at f1 f2;have c1:wr.cell? ⟨fb,i*2,none⟩=some (.int .i64 (a:Int)):=by rw [hfb.cell,Nat.mul_comm,List.getElem?_toArray];exact f1
   have c2:wr.cell? ⟨fb,i*2+1,none⟩=some (.int .i64 (b:Int)):=by rw [hfb.cell,Nat.mul_comm,List.getElem?_toArray];exact f2
   have i0:(0:Int)<=(i:Int):=by omega
   have i1:(i:Int)<(k:Int):=by omega
   have hbl:=fldB_len hok;obtain⟨ok1,ok2,ok3⟩:=hok;dsimp only at ok1 ok2 ok3;have HK:=Lib.hid (And.intro hTL (And.intro hW (And.intro hfb (And.intro hown (And.intro hg (And.intro hm ok3))))));clear hTL hW hfb hown hg hm ok3 hdr f1 f2;go_upto_region 5 with(fail)
   have hma:Mod (fun _=>False) wr (wr.alloc (.cells #[.int .i64 (a:Int),.int .i64 (b:Int)] 266)):=(Mod.refl _ wr).alloc _;have hba:=Blk.new wr 266 #[.int .i64 (a:Int),.int .i64 (b:Int)];obtain⟨q,hq⟩:∃q,q=wr.heap.size:=⟨_,rfl⟩
   rw [<-hq]at hba ⊢;generalize wr.alloc (.cells #[.int .i64 (a:Int),.int .i64 (b:Int)] 266)=w3 at *;obtain⟨bc,bf⟩:=hba.both;have hW3:=HK.out.2.1.quiet hma;have H3:=Lib.hid (And.intro hW3 (And.intro (HK.out.2.2.1.keep hma (fun h=>h)) (And.intro hma hq)));clear hma hba hW3 hq c1 c2;have e64:IntKind.u64.wrap (a:Int)=(a:Int):=IntWalk.u64_in _ ⟨by omega,by omega⟩;have hPut:Calls Tryz.prog (if 0<b then 230 else 231) (if 0<b then #[.pointer (some ⟨g,0,none⟩),.int .u64 (a:Int),.int .i64 (b:Int)]else #[.pointer (some ⟨g,0,none⟩),.int .u64 (a:Int)]) w3 (WPost w3 g v (L++fldB (a,b))):=by
    unfold fldB;dsimp only;by_cases h0:0<b
    ·rw [if_pos h0,if_pos h0,if_pos h0];exact wPut w3 g v L a b (by omega) ok2 (HK.out.2.2.2.2.2.2 h0) (by omega) H3.out.1
    ·rw [if_neg h0,if_neg h0,if_neg h0];exact gPut w3 g v L a ok1 (by omega) H3.out.1
   have HP:=Lib.hid hPut;clear hPut;by_cases h0:0<b
   case' pos=>
    have d2:decide (0<(b:Int))=true:=decide_eq_true (by omega);have HP2:=HP.out;rw [if_pos h0,if_pos h0]at HP2
   case' neg=>
    have d2:decide (0<(b:Int))=false:=decide_eq_false (by omega);have HP2:=HP.out;rw [if_neg h0,if_neg h0]at HP2
   all_goals
    have HPP:=Lib.hid HP2;clear HP HP2;go_wp2_with fail;refine HPP.out.mono ?_;rintro e w4 ⟨v4,rfl,hW4,hF4,hM4⟩
    have hfb4:Blk w4 fb t (fldC fs).toArray:=H3.out.2.1.keep hM4 (by
     rintro(e|e)
     ·have:=HK.out.2.2.2.2.1;omega
     ·have:=HK.out.2.2.2.1 fb e;omega)
    have hM5:Mod (fun _=>False) w w4:=(HK.out.2.2.2.2.2.1.trans H3.out.2.2.1).into hM4 (fun j e=>.inr (by
     rcases e with e|e
     ·subst e;exact HK.out.2.2.2.2.1
     ·exact HK.out.2.2.2.1 j e))
    have hsz:w.heap.size<=w3.heap.size:=(HK.out.2.2.2.2.2.1.trans H3.out.2.2.1).size;have H4:=Lib.hid (And.intro hW4 (And.intro hfb4 (And.intro hM5 (fun j e=>(hF4 j e).elim (HK.out.2.2.2.1 j) (Nat.le_trans hsz)))));clear hW4 hF4 hM4 hfb4 hM5 bc bf;go_wp2_with fail;go_roundw
    case rel=>exact⟨i+1,L++fldB (a,b),v4,by omega,by go_num,by rw [List.append_assoc];exact HK.out.1,by rw [List.length_append];omega,H4.out.1,H4.out.2.1,H4.out.2.2.2,HK.out.2.2.2.2.1,H4.out.2.2.1⟩
    case measure=>simp [intOf];omega
  ·obtain rfl:i=k:=by omega
   have hLT:L=T:=by rw [<-hTL,List.drop_of_length_le (by rw [H0.out.1];exact Nat.le_refl _)];simp [fldsB]
   subst hLT;obtain⟨A,c,rfl⟩:=own_shape hW.own;have hpl:(packL L).length<=40:=by rw [packL_length];omega
   have HK:=Lib.hid (And.intro hW (And.intro hown (And.intro hg hm)));clear hTL hW hfb hown hg hm;obtain⟨N,hN⟩:∃N,N=(packL L).length:=⟨_,rfl⟩
   rw [<-hN]at HK hpl;have HN:=Lib.hid hN;clear hN;go_wp2_with fail;refine(wAlign _ g A N c _ (by omega) HK.out.1.blk).mono ?_;rintro e w4 ⟨rfl,hb4,hm4⟩;have ho4:=HK.out.1.own.mod hm4 (fun j e hj=>HK.out.1.own.apart HK.out.1.blk (by decide) (hj▸e));have H4:=Lib.hid (And.intro hb4 (And.intro ho4 (HK.out.2.2.2.into hm4 (fun j e=>.inr (e▸HK.out.2.2.1)))));clear hb4 ho4 hm4;go_wp2_with fail;refine(wBytes _ g A N c _ (packL L) HN.out.symm (by omega) H4.out.1 H4.out.2.1).mono ?_;rintro e w5 ⟨g5,rfl,hb5,hg5,hm5⟩;have H5:=Lib.hid (And.intro hb5 (And.intro (Nat.le_trans H4.out.2.2.size hg5) (H4.out.2.2.trans hm5)));clear hb5 hg5 hm5;go_wp2_with fail;go_ret;exact⟨N,HN.out,g5,rfl,H5.out.1,H5.out.2.1,H5.out.2.2⟩
end Go.Proofs.YtnnpoodcdibpiaaGreatDoor
