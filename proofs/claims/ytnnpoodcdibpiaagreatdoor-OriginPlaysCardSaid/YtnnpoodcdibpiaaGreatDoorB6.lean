/-
  intra.Guess.
-/
import Derived.Test.YtnnpoodcdibpiaaGreatDoorB5
import Derived.Laws.EntriesVeiled
namespace Go.Proofs.YtnnpoodcdibpiaaGreatDoor
open Go.RowKit
set_option maxRecDepth 100000
set_option maxHeartbeats 8000000
theorem iModes(w:World):Calls Tryz.prog 351 #[] w fun e w'=>e=.returned (.agg #[.func (.func 387) #[] #[],.func (.func 388) #[] #[],.func (.func 389) #[] #[],.func (.func 390) #[] #[]])/\Mod (fun _=>False) w w':=by
 go_enter Tryz.func351,Tryz.ntmps351;go_wp2_with fail;refine bodyPost_ret (v:=.agg #[.func (.func 387) #[] #[],.func (.func 388) #[] #[],.func (.func 389) #[] #[],.func (.func 390) #[] #[]]) (by simp [results,Tryz.results351,go_sem]) rfl ⟨rfl,?_⟩;exact(Mod.refl _ _).alloc _
def gsN(m:Nat)(ab lf:List UInt8)(co:UInt8)(i j:Nat):Nat:=
 if m=0 then flatN ab lf else if m=1 then(ab.getD i 0).toNat else if m=2 then(lf.getD j 0).toNat else slopeN ab lf co i j
theorem gsN_lt(m:Nat)(ab lf:List UInt8)(co:UInt8)(i j:Nat):gsN m ab lf co i j<256:=by
 unfold gsN;split
 ·have:=flS_le ab lf 8;unfold flatN;omega
 ·split
  ·exact UInt8.toNat_lt _
  ·split
   ·exact UInt8.toNat_lt _
   ·exact clipN_lt _
def guessF(W:Nat)(pix:List UInt8)(x y m k:Nat):UInt8:=UInt8.ofNat (gsN m (lkAb W pix x y) (lkLf W pix x y) (lkCo W pix x y) (k % 8) (k/8))
def guessL(W:Nat)(pix:List UInt8)(x y m:Nat):List UInt8:=(List.range 64).map (guessF W pix x y m)
theorem guessF_n(W:Nat)(pix:List UInt8)(x y m k:Nat):(guessF W pix x y m k).toNat=gsN m (lkAb W pix x y) (lkLf W pix x y) (lkCo W pix x y) (k % 8) (k/8):=by
 unfold guessF;rw [UInt8.toNat_ofNat'];exact Nat.mod_eq_of_lt (gsN_lt _ _ _ _ _ _)
def fnOf(m:Nat):Nat:=if m=0 then 387 else if m=1 then 388 else if m=2 then 389 else 390
theorem iMode(w:World)(m:Nat)(hm:m<4)(ab lf:List UInt8)(co:UInt8)(h1:ab.length=8)(h2:lf.length=8)(i j:Nat)(hi:i<8)(hj:j<8):
  Calls Tryz.prog (fnOf m) #[.agg (arV ab lf co),.int .i64 (i:Int),.int .i64 (j:Int)] w fun e w'=>e=.returned (.int .u8 ((gsN m ab lf co i j:Nat):Int))/\Mod (fun _=>False) w w':=by
 have hc:m=0\/m=1\/m=2\/m=3:=by omega
 rcases hc with rfl|rfl|rfl|rfl
 ·exact iFlat w ab lf co h1 h2 _ _
 ·exact iDown w ab lf co h1 i _ hi
 ·exact iAcross w ab lf co h1 h2 _ j hj
 ·exact iSlope w ab lf co h1 h2 i j hi hj
theorem run_fnOf(m:Nat)(hm:m<4)(args:Array Value)(w:World):(callFunc (fnOf m) args).run Tryz.prog w=.ok (.enter (fnOf m) args) w:=by
 have hc:m=0\/m=1\/m=2\/m=3:=by omega
 rcases hc with rfl|rfl|rfl|rfl
 ·exact(show(callFunc 387 args).run Tryz.prog w=.ok (.enter 387 args) w by go_simp)
 ·exact(show(callFunc 388 args).run Tryz.prog w=.ok (.enter 388 args) w by go_simp)
 ·exact(show(callFunc 389 args).run Tryz.prog w=.ok (.enter 389 args) w by go_simp)
 ·exact(show(callFunc 390 args).run Tryz.prog w=.ok (.enter 390 args) w by go_simp)
def GsRel(w:World)(q a l p:Nat)(lv av pv:Array Value)(f:Nat->UInt8)(s69:Value)(wr:World):Prop:=
 ∃k:Nat,k<=64/\s69=.int .i64 (k:Int)/\Sat (fun _=>False) w wr [⟨q,5,(u8s (fillL f 64 k)).toArray⟩,⟨a,470,av⟩,⟨l,454,lv⟩,⟨p,108,pv⟩] []
theorem iGuess(w:World)(W H:Nat)(A:Option Addr)(n c:Nat)(pix:List UInt8)(h:sidesB W H=true)(hn:n=W*H)(hin:BytesIn w A n c pix)(hnc:n<=c)(x y m:Nat)(hx:x+8<=W)(hy:y+8<=H)(hm:m<4):
  Calls Tryz.prog 352 #[.agg #[.int .i64 (W:Int),.int .i64 (H:Int),.slice A n c],.int .i64 (x:Int),.int .i64 (y:Int),.int .i64 8,.int .i64 (m:Int)] w
   fun e w'=>∃g,e=.returned (.tuple #[.slice (some ⟨g,0,none⟩) 64 64,.int .i64 0])/\Blk w' g 5 (u8s (guessL W pix x y m)).toArray/\w.heap.size<=g/\Mod (fun _=>False) w w':=by
 obtain⟨_,hW1,hW2,hH1,hH2,_⟩:=area_le h;have HI:=Lib.hid (And.intro h (And.intro hin (And.intro hn hnc)));clear h hin hn hnc;have t1:decide ((x:Int)<0)=false:=decide_eq_false (by omega);have t2:decide ((W:Int)-8<(x:Int))=false:=decide_eq_false (by omega);have t3:decide ((y:Int)<0)=false:=decide_eq_false (by omega);have t4:decide ((H:Int)-8<(y:Int))=false:=decide_eq_false (by omega);have t5:decide ((m:Int)<0)=false:=decide_eq_false (by omega);have t6:decide (4<=(m:Int))=false:=decide_eq_false (by omega);have h0:=(Sat.nil (fun _=>False) w).alloc 108 #[.int .i64 (W:Int),.int .i64 (H:Int),.slice A n c] rfl;have H0:=Lib.hid h0;clear h0;go_enter Tryz.func352,Tryz.ntmps352;go_wp2_with fail;refine(pRight' _ W H A n c HI.out.1 HI.out.2.2.1).mono ?_;rintro e w1 ⟨rfl,hm1⟩;have HS:=Lib.hid (Sat.after hm1 H0.out);clear hm1 H0;go_wp2_with fail;refine(iModes _).mono ?_;rintro e w2 ⟨rfl,hm2⟩;have HS2:=(HS.out.quiet hm2).alloc 454 #[.func (.func 387) #[] #[],.func (.func 388) #[] #[],.func (.func 389) #[] #[],.func (.func 390) #[] #[]] rfl;obtain⟨pc,pf⟩:=(HS2.own_ 1 rfl).both;have H2:=Lib.hid HS2;have pl:w.heap.size<w2.heap.size:=((HS.out.quiet hm2).own_ 0 rfl).lt;clear hm2 HS HS2;go_wp2_with fail;refine(iLook _ W H A n c pix HI.out.1 HI.out.2.2.1 (HI.out.2.1.quiet H2.out.mod) HI.out.2.2.2 x y hx hy).mono ?_;rintro e w3 ⟨rfl,hm3⟩;have HS3:=(H2.out.quiet hm3).alloc 470 #[.int .i64 0,.int .u8 0,.int .u8 0,.int .u8 0,.int .u8 0,.int .u8 0,.int .u8 0,.int .u8 0,.int .u8 0,.int .u8 0,.int .u8 0,.int .u8 0,.int .u8 0,.int .u8 0,.int .u8 0,.int .u8 0,.int .u8 0,.int .u8 0] rfl;have H3:=Lib.hid HS3;clear hm3 HS3 pc pf pl H2;go_upto_region 7 with(refine wpList_store_part rfl 470 (.tmp 13) (.tmp 62) rfl w3.heap.size 0 (arL (lkAb W pix x y) (lkLf W pix x y) (lkCo W pix x y)) rfl rfl 470 [.int .i64 0,.int .u8 0,.int .u8 0,.int .u8 0,.int .u8 0,.int .u8 0,.int .u8 0,.int .u8 0,.int .u8 0,.int .u8 0,.int .u8 0,.int .u8 0,.int .u8 0,.int .u8 0,.int .u8 0,.int .u8 0,.int .u8 0,.int .u8 0] (Blk.new _ _ _) (by kernel_rfl) (by simp [arL,u8s,lkAb,lkLf]) (arL_one _ _ _) ?_;intro w4 hb4 hm4;have HB4:=Lib.hid (And.intro hb4 hm4);clear hb4 hm4)
 have hb4:=HB4.out.1;rw [splice_all (by simp [arL,u8s,lkAb,lkLf])]at hb4;have HS4:=Sat.turn HB4.out.2 H3.out hb4 .here;have H4:=Lib.hid HS4;clear hb4 HS4 HB4 H3;go_upto_region 8 with(refine wpList_mk_u8 _ rfl (.tmp 65) (.tmp 65) rfl 64 rfl rfl (by omega) ?_;intro w5 hb5 hm5;have HB5:=Lib.hid (And.intro hb5 hm5);clear hb5 hm5)
 have HS5:=Sat.grew HB5.out.2 H4.out HB5.out.1 (Nat.le_refl _);rw [madeFill (guessF W pix x y m)]at HS5;obtain⟨q,hq⟩:∃q,q=w4.heap.size:=⟨_,rfl⟩
 obtain⟨a,ha⟩:∃a,a=w3.heap.size:=⟨_,rfl⟩
 obtain⟨l,hl⟩:∃l,l=w2.heap.size:=⟨_,rfl⟩
 rw [<-hq,<-ha,<-hl]at HS5;rw [<-hq,<-ha,<-hl];have H5:=Lib.hid HS5;clear hq ha hl HS5 HB5 H4;go_wp2_with fail;go_loopw [69] (GsRel w q a l w.heap.size #[.func (.func 387) #[] #[],.func (.func 388) #[] #[],.func (.func 389) #[] #[],.func (.func 390) #[] #[]] (arV (lkAb W pix x y) (lkLf W pix x y) (lkCo W pix x y)) #[.int .i64 (W:Int),.int .i64 (H:Int),.slice A n c] (guessF W pix x y m)) (fun s _=>64-(intOf s).toNat)
 case atStart=>exact⟨0,by omega,rfl,H5.out⟩
 case round=>
  clear H5;obtain⟨k,hk,rfl,HS⟩:=hrel;by_cases hlt:k<64
  ·have d1:decide ((k:Int)<64)=true:=decide_eq_true (by omega);have lf0:wr.cell? ⟨l,m,none⟩=some (.func (.func (fnOf m)) #[] #[]):=by
    have h:=(HS.own_ 2 rfl).cell m;dsimp only at h;rw [h];have hc:m=0\/m=1\/m=2\/m=3:=by omega
    rcases hc with rfl|rfl|rfl|rfl<;>rfl
   have q0:=fill_cell (HS.own_ 0 rfl) hlt;have p0:(0:Int)<=(m:Int):=by omega
   have p1:(m:Int)<4:=by omega
   have p2:(0:Int)<=(k:Int):=by omega
   have p3:(k:Int)<64:=by omega
   have e1:IntKind.i64.wrap ((k:Int)/8)=((k/8:Nat):Int):=by rw [IntWalk.i64_in _ ⟨by omega,by omega⟩];omega
   have e2:(k:Int).tmod 8=((k % 8:Nat):Int):=by rw [Int.tmod_eq_emod_of_nonneg (by omega)];omega
   have HK:=Lib.hid (And.intro HS (And.intro e1 e2));clear HS q0 e1 e2;go_upto_region 11 with(fail)
   refine wp_region_plan [12,14] [0,1] [2,3,4,5,6,7,8,9,10,11,0,1,12,13,14] (by kernel_rfl) (by kernel_rfl) (fun _ _ _ d _ h=>by cases d<;>exact h) ?_;iterate 3 (refine plan_still rfl rfl (fun K hK=>?_);go_simp;refine hK _ ?_;clear hK K)
   refine plan_row rfl rfl rfl 470 (.tmp 13) rfl a rfl 470 _ _ (HK.out.1.drew.own_ 1 rfl) Tryz.underlying470 rfl (by kernel_rfl) ?_;iterate 6 (refine plan_still rfl rfl (fun K hK=>?_);go_simp;refine hK _ ?_;clear hK K)
   iterate 2 (refine plan_pure rfl rfl rfl (fun _=>rfl) ?_)
   refine plan_loud rfl rfl (fun K hK=>?_);have hcf:=run_fnOf m hm;have e1:=HK.out.2.1;have e2:=HK.out.2.2;go_simp;clear hcf e1 e2;refine(iMode _ m hm _ _ _ (lkAb_length _ _ _ _) (lkLf_length _ _ _ _) (k % 8) (k/8) (by omega) (by omega)).mono ?_;rintro e w6 ⟨rfl,hm6⟩;have HS6:=HK.out.1.drew.quiet hm6;have q0:=fill_cell (HS6.own_ 0 rfl) hlt;have qf:=(HS6.own_ 0 rfl).frozen;have ql:=(HS6.own_ 0 rfl).lt;rw [<-guessF_n];have H6:=Lib.hid HS6;clear HS6 hm6;dsimp only [];refine hK _ _ ?_;clear hK K;refine plan_still rfl rfl (fun K hK=>?_);go_simp;refine hK _ ?_;clear hK K;refine plan_loud rfl rfl (fun K hK=>?_);go_simp;refine hK _ _ ?_;clear hK K;refine plan_done ?_;go_wp2_with fail;go_roundw
   case rel=>exact⟨k+1,by omega,by go_num,H6.out.put (.here (fill_set _ 64 k))⟩
   case measure=>simp [intOf];omega
  ·obtain rfl:k=64:=by omega
   have HK:=Lib.hid HS;clear HS;go_wp2_with fail;go_ret2;have hb:=HK.out.own_ 0 rfl;dsimp only at hb;rw [fillL_all]at hb;exact⟨q,rfl,hb,HK.out.low 0 rfl,HK.out.mod⟩
theorem mChroma(w:World)(vx vy:Int)(hx:-1048576<=vx/\vx<=1048576)(hy:-1048576<=vy/\vy<=1048576):Calls Tryz.prog 309 #[.agg #[.int .i64 vx,.int .i64 vy]] w fun e w'=>e=.returned (.agg #[.int .i64 (vx/2),.int .i64 (vy/2)])/\Mod (fun _=>False) w w':=by
 obtain⟨hx1,hx2⟩:=hx;obtain⟨hy1,hy2⟩:=hy;go_enter Tryz.func309,Tryz.ntmps309;go_wp2_with fail;refine bodyPost_ret (v:=.agg #[.int .i64 (vx/2),.int .i64 (vy/2)]) (by simp [results,Tryz.results309,go_sem]) rfl ⟨rfl,?_⟩;exact((Mod.refl _ _).alloc _).alloc _
def ordRow(s y:Nat):List Int:=((List.range y).filter (fun y'=>decide (y'<=s/\s<y'+8))).map fun y'=>((y'*8+(s-y'):Nat):Int)
def ordTo(s y:Nat):List Int:=(List.range s).flatMap (fun s'=>ordRow s' 8)++ordRow s y
theorem ordTo_succ(s:Nat):ordTo s 8=ordTo (s+1) 0:=by simp [ordTo,List.range_succ,ordRow]
theorem ordTo_yes(s y:Nat)(h:y<=s/\s<y+8):ordTo s (y+1)=ordTo s y++[((y*8+(s-y):Nat):Int)]:=by
 simp [ordTo,ordRow,List.range_succ,List.filter_append,h.1,h.2]
theorem ordTo_no(s y:Nat)(h:¬(y<=s/\s<y+8)):ordTo s (y+1)=ordTo s y:=by
 have:decide (y<=s/\s<y+8)=false:=decide_eq_false h;simp only [ordTo,ordRow,List.range_succ,List.filter_append,List.filter_cons,this];simp
theorem ordRow_le(s y:Nat):(ordRow s y).length<=y:=by
 unfold ordRow;rw [List.length_map];exact Nat.le_trans (List.length_filter_le _ _) (by simp)
theorem ordTo_le(s y:Nat):(ordTo s y).length<=s*8+y:=by
 unfold ordTo;rw [List.length_append];have h:∀s,((List.range s).flatMap (fun s'=>ordRow s' 8)).length<=s*8:=by
  intro s
  induction s with
  | zero=>simp
  | succ s ih=>
   rw [List.range_succ,List.flatMap_append,List.length_append];have:=ordRow_le s 8;simp at *;omega
 have:=h s;have:=ordRow_le s y;omega
def ord8:List Int:=ordTo 15 0
theorem ord8_facts:ord8.length=64/\(∀i<64,0<=ord8.getD i 0/\ord8.getD i 0<64):=by decide +kernel
def OrdRel(w:World)(v3 v20:Value)(wr:World):Prop:=∃s:Nat,s<=15/\v20=.int .i64 (s:Int)/\IntsOwn wr w.heap.size v3 (ordTo s 0)/\Mod (fun _=>False) w wr
def OrdIn(w:World)(s:Nat)(v3 v24:Value)(wr:World):Prop:=∃y:Nat,y<=8/\v24=.int .i64 (y:Int)/\IntsOwn wr w.heap.size v3 (ordTo s y)/\Mod (fun _=>False) w wr
theorem lOrder(w:World):Calls Tryz.prog 396 #[.int .i64 8] w fun e w'=>∃b c,e=.returned (.slice (some ⟨b,0,none⟩) 64 c)/\w.heap.size<=b/\IntsIn w' (some ⟨b,0,none⟩) 64 c ord8/\Mod (fun _=>False) w w':=by
 go_enter Tryz.func396,Tryz.ntmps396;go_wp2_with (refine wpList_mk_int0 _ rfl (.const (.int .i64 0)) (.tmp 15) rfl 64 rfl rfl (by omega) ?_;intro w1 hown1 hm1;have HO:=Lib.hid (And.intro hown1 hm1);clear hown1 hm1)
 go_loopw [3,20] (OrdRel w) (fun _ i _=>15-(intOf i).toNat)
 case atStart=>exact⟨0,by omega,rfl,HO.out.1,HO.out.2⟩
 case round=>
  clear HO;obtain⟨s,hs,rfl,hown,hM⟩:=hrel;by_cases hlt:s<15
  ·obtain⟨wo,rfl⟩:∃wo:World,wo=wr:=⟨_,rfl⟩
   have HB:=Lib.hid (And.intro hown hM);clear hown hM;have dx:decide ((s:Int)<15)=true:=decide_eq_true (by omega);go_wp2_with fail;go_loopw [3,24] (OrdIn w s) (fun _ i _=>8-(intOf i).toNat)
   case atStart=>exact⟨0,by omega,rfl,HB.out.1,HB.out.2⟩
   case round=>
    clear HB;obtain⟨y,hy,rfl,hown,hM⟩:=hrel;by_cases hly:y<8
    ·have dy:decide ((y:Int)<8)=true:=decide_eq_true (by omega);obtain⟨A3,c3,hv3⟩:=own_shape hown;subst hv3;have hle:=ordTo_le s y;generalize hlen:(ordTo s y).length=n3 at *;have HB:=Lib.hid (And.intro hown (And.intro hM (And.intro hM.size hlen)));clear hown hM hlen;by_cases h1:y<=s
     ·have d1:decide ((0:Int)<=(s:Int)-(y:Int))=true:=decide_eq_true (by omega);have d1':decide ((y:Int)<=(s:Int))=true:=decide_eq_true (by omega);by_cases h2:s<y+8
      ·have d2:decide ((s:Int)-(y:Int)<8)=true:=decide_eq_true (by omega);have HS:=Lib.hid (ordTo_yes s y ⟨h1,h2⟩);have ev:(y:Int)*8+((s:Int)-(y:Int))=((y*8+(s-y):Nat):Int):=by omega
       have HE:=Lib.hid ev;clear ev;go_wp2_with (at_builtin;have _t:=HB;refine wpList_app_int _ rfl (.tmp 37) (.tmp 43) rfl w.heap.size _ _ ((y:Int)*8+((s:Int)-(y:Int))) rfl rfl HB.out.1 HB.out.2.2.1 (by rw [HB.out.2.2.2];omega) ?_;intro v8 w8 hown8 hMa hMb hF;have HO:=Lib.hid (And.intro hown8 (hMb w (fun _=>False) (Nat.le_refl _) HB.out.2.1));clear hown8 hMa hMb hF)
       go_roundw
       case rel=>
        refine⟨y+1,by omega,by go_num,?_,HO.out.2⟩;rw [HS.out,<-HE.out];exact HO.out.1
       case measure=>simp [intOf];omega
      ·have d2:decide ((s:Int)-(y:Int)<8)=false:=decide_eq_false (by omega);have HS:=Lib.hid (ordTo_no s y (fun h=>h2 h.2));go_wp2_with fail;go_roundw
       case rel=>
        refine⟨y+1,by omega,by go_num,?_,HB.out.2.1⟩;rw [HS.out];exact HB.out.1
       case measure=>simp [intOf];omega
     ·have d1:decide ((0:Int)<=(s:Int)-(y:Int))=false:=decide_eq_false (by omega);have d1':decide ((y:Int)<=(s:Int))=false:=decide_eq_false (by omega);have HS:=Lib.hid (ordTo_no s y (fun h=>h1 h.1));go_wp2_with fail;go_roundw
      case rel=>
       refine⟨y+1,by omega,by go_num,?_,HB.out.2.1⟩;rw [HS.out];exact HB.out.1
      case measure=>simp [intOf];omega
    ·obtain rfl:y=8:=by omega
     have HB:=Lib.hid (And.intro hown hM);clear hown hM;go_wp2_with fail;go_roundw
     case rel=>exact⟨s+1,by omega,by go_num,by rw [<-ordTo_succ];exact HB.out.1,HB.out.2⟩
     case measure=>simp [intOf];omega
  ·obtain rfl:s=15:=by omega
   have HB:=Lib.hid (And.intro hown hM);clear hown hM;go_wp2_with fail;go_ret;obtain⟨h9,hM9⟩:=HB.out;have h9':IntsOwn _ _ _ ord8:=h9;obtain⟨A9,c9,hv9⟩:=own_shape h9';subst hv9;have hl:=ord8_facts.1;have hin:=h9'.in_;rw [hl]at hin;rcases h9'.2 with⟨hv,h0⟩|⟨g,cap,cur,hv,hB,_⟩
   ·rw [hl]at h0;cases h0
   ·injection hv with e1 e2 e3;subst e1;exact⟨g,c9,by rw [hl];rfl,hB,hin,hM9⟩
def chanceOk(c:Nat):Bool:=decide (31<=c/\c<=2017)
theorem cRight(w:World)(c:Nat):Calls Tryz.prog 382 #[.int .u16 (c:Int)] w fun e w'=>e=.returned (.bool (chanceOk c))/\w=w':=by
 unfold chanceOk;by_cases h1:31<=c
 ·have d1:decide (31<=(c:Int))=true:=decide_eq_true (by omega);by_cases h2:c<=2017
  ·have d2:decide ((c:Int)<=2017)=true:=decide_eq_true (by omega);rw [decide_eq_true (And.intro h1 h2)];go_enter Tryz.func382,Tryz.ntmps382;go_wp2_with fail;go_ret;exact⟨rfl,rfl⟩
  ·have d2:decide ((c:Int)<=2017)=false:=decide_eq_false (by omega);rw [decide_eq_false (fun h=>h2 h.2)];go_enter Tryz.func382,Tryz.ntmps382;go_wp2_with fail;go_ret;exact⟨rfl,rfl⟩
 ·have d1:decide (31<=(c:Int))=false:=decide_eq_false (by omega);rw [decide_eq_false (fun h=>h1 h.1)];go_enter Tryz.func382,Tryz.ntmps382;go_wp2_with fail;go_ret;exact⟨rfl,rfl⟩
def cnext(c bit:Nat):Nat:=if bit=0 then c+(2048-c)/32 else c-c/32
theorem cnext_ok(c bit:Nat)(h:chanceOk c=true):chanceOk (cnext c bit)=true:=by
 unfold chanceOk cnext at *;rw [decide_eq_true_eq]at *;split<;>omega
theorem cNext(w:World)(c bit:Nat)(hb:bit<=1)(h:chanceOk c=true):Calls Tryz.prog 349 #[.int .u16 (c:Int),.int .i64 (bit:Int)] w fun e w'=>e=.returned (.int .u16 ((cnext c bit:Nat):Int))/\w=w':=by
 unfold chanceOk at h;rw [decide_eq_true_eq]at h;obtain⟨h1,h2⟩:=h;have m1:max (c:Int) 31=(c:Int):=by omega
 have m2:min (c:Int) 2017=(c:Int):=by omega
 rcases Nat.eq_zero_or_pos bit with e|e
 ·subst e;have r1:IntKind.u16.wrap ((c:Int)+IntKind.u16.wrap ((2048-(c:Int)).tdiv 32))=((cnext c 0:Nat):Int):=by
   have t:(2048-(c:Int)).tdiv 32=(2048-(c:Int))/32:=Int.tdiv_eq_ediv_of_nonneg (by omega);rw [t,IntWalk.u16_in ((2048-(c:Int))/32) ⟨by omega,by omega⟩,IntWalk.u16_in _ ⟨by omega,by omega⟩];unfold cnext;rw [if_pos rfl];omega
  have R:=Lib.hid r1;clear r1;go_enter Tryz.func349,Tryz.ntmps349;go_wp2_with fail;go_ret;exact⟨congrArg (fun z=>Ending.returned (.int .u16 z)) R.out,rfl⟩
 ·obtain rfl:bit=1:=by omega
  have r1:(c:Int)-(c:Int)/32=((cnext c 1:Nat):Int):=by
   unfold cnext;rw [if_neg (by omega)];omega
  have R:=Lib.hid r1;clear r1;go_enter Tryz.func349,Tryz.ntmps349;go_wp2_with fail;go_ret;exact⟨congrArg (fun z=>Ending.returned (.int .u16 z)) R.out,rfl⟩
def be(l:List UInt8):Nat:=l.foldl (fun a b=>a*256+b.toNat) 0
def u16s(l:List Nat):List Value:=l.map fun x=>.int .u16 ((x:Nat):Int)
structure St where
 ch:List Nat
 code:List UInt8
 rest:Nat
 wide:Nat
def atIdx(i ahead:Nat):Nat:=20+(2 ^ i-1+ahead)
theorem bAt0(w:World)(bk off:Nat):Calls Tryz.prog 347 #[.pointer (some ⟨bk,off,none⟩),.int .i64 0,.int .i64 0] w fun e w'=>e=.returned (.pointer (some ⟨bk,off+20,none⟩))/\Mod (fun _=>False) w w':=by
 go_enter Tryz.func347,Tryz.ntmps347;go_wp2_with fail;go_quiet (fail)
 go_wp2_with fail;go_ret;exact⟨rfl,(Mod.refl _ _).drewN _⟩
theorem bAt1(w:World)(bk off ahead:Nat)(ha:ahead<2):Calls Tryz.prog 347 #[.pointer (some ⟨bk,off,none⟩),.int .i64 1,.int .i64 (ahead:Int)] w fun e w'=>e=.returned (.pointer (some ⟨bk,off+20+(1+ahead),none⟩))/\Mod (fun _=>False) w w':=by
 have p0:(0:Int)<=(ahead:Int):=by omega
 have p1:(ahead:Int)<2:=by omega
 go_enter Tryz.func347,Tryz.ntmps347;go_wp2_with fail;have s1:IntKind.i64.wrap (1+(ahead:Int))=1+(ahead:Int):=IntWalk.i64_in _ ⟨by omega,by omega⟩;have s2:(1+(ahead:Int)).toNat=1+ahead:=by omega
 have s3:(0:Int)<=1+(ahead:Int):=by omega
 have s4:1+(ahead:Int)<16:=by omega
 go_quiet (fail)
 go_wp2_with fail;go_ret;exact⟨rfl,(Mod.refl _ _).drewN _⟩
theorem bAt2(w:World)(bk off ahead:Nat)(ha:ahead<4):Calls Tryz.prog 347 #[.pointer (some ⟨bk,off,none⟩),.int .i64 2,.int .i64 (ahead:Int)] w fun e w'=>e=.returned (.pointer (some ⟨bk,off+20+(3+ahead),none⟩))/\Mod (fun _=>False) w w':=by
 have p0:(0:Int)<=(ahead:Int):=by omega
 have p1:(ahead:Int)<4:=by omega
 go_enter Tryz.func347,Tryz.ntmps347;go_wp2_with fail;have s1:IntKind.i64.wrap (3+(ahead:Int))=3+(ahead:Int):=IntWalk.i64_in _ ⟨by omega,by omega⟩;have s2:(3+(ahead:Int)).toNat=3+ahead:=by omega
 have s3:(0:Int)<=3+(ahead:Int):=by omega
 have s4:3+(ahead:Int)<16:=by omega
 go_quiet (fail)
 go_wp2_with fail;go_ret;exact⟨rfl,(Mod.refl _ _).drewN _⟩
theorem bAt3(w:World)(bk off ahead:Nat)(ha:ahead<8):Calls Tryz.prog 347 #[.pointer (some ⟨bk,off,none⟩),.int .i64 3,.int .i64 (ahead:Int)] w fun e w'=>e=.returned (.pointer (some ⟨bk,off+20+(7+ahead),none⟩))/\Mod (fun _=>False) w w':=by
 have p0:(0:Int)<=(ahead:Int):=by omega
 have p1:(ahead:Int)<8:=by omega
 go_enter Tryz.func347,Tryz.ntmps347;go_wp2_with fail;have s1:IntKind.i64.wrap (7+(ahead:Int))=7+(ahead:Int):=IntWalk.i64_in _ ⟨by omega,by omega⟩;have s2:(7+(ahead:Int)).toNat=7+ahead:=by omega
 have s3:(0:Int)<=7+(ahead:Int):=by omega
 have s4:7+(ahead:Int)<16:=by omega
 go_quiet (fail)
 go_wp2_with fail;go_ret;exact⟨rfl,(Mod.refl _ _).drewN _⟩
theorem bAt(w:World)(bk off i ahead:Nat)(hi:i<4)(ha:ahead<2 ^ i):Calls Tryz.prog 347 #[.pointer (some ⟨bk,off,none⟩),.int .i64 (i:Int),.int .i64 (ahead:Int)] w fun e w'=>e=.returned (.pointer (some ⟨bk,off+atIdx i ahead,none⟩))/\Mod (fun _=>False) w w':=by
 unfold atIdx;have h4:i=0\/i=1\/i=2\/i=3:=by omega
 rcases h4 with rfl|rfl|rfl|rfl
 ·obtain rfl:ahead=0:=by omega
  exact bAt0 w bk off
 ·have:=bAt1 w bk off ahead (by simpa using ha);rw [Nat.add_assoc]at this;exact this
 ·have:=bAt2 w bk off ahead (by simpa using ha);rw [Nat.add_assoc]at this;exact this
 ·have:=bAt3 w bk off ahead (by simpa using ha);rw [Nat.add_assoc]at this;exact this
theorem bTopic(w:World)(bk t:Nat)(ht:t<16):Calls Tryz.prog 305 #[.pointer (some ⟨bk,0,none⟩),.int .i64 (t:Int)] w fun e w'=>e=.returned (.pointer (some ⟨bk,t*37,none⟩))/\w=w':=by
 have p0:decide ((t:Int)<0)=false:=decide_eq_false (by omega);have p1:decide (16<=(t:Int))=false:=decide_eq_false (by omega);have p2:(t:Int)<16:=by omega
 have p3:(0:Int)<=(t:Int):=by omega
 go_enter Tryz.func305,Tryz.ntmps305;go_wp2_with fail;go_ret;exact⟨rfl,rfl⟩
theorem or64(r x:Nat)(hr:r<1099511627776)(hx:x<=1):bits BinOp.or IntKind.i64 ((r:Int)*2) (x:Int)=((2*r+x:Nat):Int):=by
 have e1:(BitVec.ofInt 64 ((r:Int)*2)).toNat=r*2:=by rw [BitVec.toNat_ofInt];omega
 have e2:(BitVec.ofInt 64 (x:Int)).toNat=x:=by rw [BitVec.toNat_ofInt];omega
 have key:(BitVec.ofInt 64 ((r:Int)*2) ||| BitVec.ofInt 64 (x:Int)).toNat=2*r+x:=by
  rw [BitVec.toNat_or,e1,e2];have:=Nat.shiftLeft_add_eq_or_of_lt (i:=1) (b:=x) (by omega) r;rw [Nat.shiftLeft_eq]at this;have h2:r*2+x=r*2 ||| x:=this
  omega
 show IntKind.i64.wrap ((BitVec.ofInt 64 ((r:Int)*2) ||| BitVec.ofInt 64 (x:Int)).toNat:Nat)=_;rw [key];exact IntWalk.i64_in _ ⟨by omega,by omega⟩
theorem bitsLen64_2(w:World):Calls Tryz.prog 174 #[.int .u64 2] w fun e w'=>e=.returned (.int .i64 2)/\w=w':=by
 go_enter Tryz.func174,Tryz.ntmps174;go_wp2_with fail;go_ret;exact⟨by kernel_rfl,rfl⟩
theorem bitsLen2(w:World):Calls Tryz.prog 117 #[.int .u64 2] w fun e w'=>e=.returned (.int .i64 2)/\w=w':=by
 go_enter Tryz.func117,Tryz.ntmps117;go_wp2_with fail;refine(bitsLen64_2 _).mono ?_;rintro e w1 ⟨rfl,rfl⟩;go_wp2_with fail;go_ret;exact⟨rfl,rfl⟩
theorem bitsLen64_3(w:World):Calls Tryz.prog 174 #[.int .u64 3] w fun e w'=>e=.returned (.int .i64 2)/\w=w':=by
 go_enter Tryz.func174,Tryz.ntmps174;go_wp2_with fail;go_ret;exact⟨by kernel_rfl,rfl⟩
theorem bitsLen3(w:World):Calls Tryz.prog 117 #[.int .u64 3] w fun e w'=>e=.returned (.int .i64 2)/\w=w':=by
 go_enter Tryz.func117,Tryz.ntmps117;go_wp2_with fail;refine(bitsLen64_3 _).mono ?_;rintro e w1 ⟨rfl,rfl⟩;go_wp2_with fail;go_ret;exact⟨rfl,rfl⟩
end Go.Proofs.YtnnpoodcdibpiaaGreatDoor
