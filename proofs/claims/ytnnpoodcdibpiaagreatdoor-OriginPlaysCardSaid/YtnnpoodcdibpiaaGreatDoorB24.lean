/-
  A rung's sequence, and whether a rung is right.
-/
import Derived.Test.YtnnpoodcdibpiaaGreatDoorB23
import Derived.Lib.AppendStr
namespace Go.Proofs.YtnnpoodcdibpiaaGreatDoor
open Go.RowKit
set_option maxRecDepth 100000
set_option maxHeartbeats 8000000
def seqV(W H G:Int):Value:=.agg #[.int .i64 W,.int .i64 H,.int .i64 G]
theorem lSequence(w:World)(W H G D:Int)(hD:0<=D/\D<=3)(hW:-1099511627776<=W/\W<=1099511627776)(hH:-1099511627776<=H/\H<=1099511627776):
  Calls Tryz.prog 120 #[.int .i64 W,.int .i64 H,.int .i64 G,.int .i64 D] w fun e w'=>e=.returned (seqV (halved W D) (halved H D) G)/\Mod (fun _=>False) w w':=by
 obtain⟨hW1,hW2⟩:=hW;obtain⟨hH1,hH2⟩:=hH;have h4:D=0\/D=1\/D=2\/D=3:=by omega
 rcases h4 with rfl|rfl|rfl|rfl
 iterate 4
  ·unfold seqV;go_enter Tryz.func120,Tryz.ntmps120;go_upto_region 1 with(fail)
   refine wp_region_plan [8] [] [0,1,2,3,4,5,6,7,8] (by kernel_rfl) (by kernel_rfl) (fun _ _ _ d _ h=>by cases d<;>exact h) ?_;iterate 8 (refine plan_still rfl rfl (fun K hK=>?_);go_simp;refine hK _ ?_;clear hK K)
   refine plan_loud rfl rfl (fun K hK=>?_);go_simp;refine hK _ _ ?_;clear hK K;refine plan_done ?_;go_wp2_with fail
   first
   | exact bodyPost_ret (v:=.agg #[.int .i64 W,.int .i64 H,.int .i64 G]) (by simp [results,Tryz.results120,go_sem]) rfl ⟨by rw [halved_0,halved_0],((Mod.refl _ w).alloc _).drew⟩
   | exact bodyPost_ret (v:=.agg #[.int .i64 (W/2),.int .i64 (H/2),.int .i64 G]) (by simp [results,Tryz.results120,go_sem]) rfl ⟨rfl,((Mod.refl _ w).alloc _).drew⟩
   | exact bodyPost_ret (v:=.agg #[.int .i64 (W/4),.int .i64 (H/4),.int .i64 G]) (by simp [results,Tryz.results120,go_sem]) rfl ⟨rfl,((Mod.refl _ w).alloc _).drew⟩
   | exact bodyPost_ret (v:=.agg #[.int .i64 (W/8),.int .i64 (H/8),.int .i64 G]) (by simp [results,Tryz.results120,go_sem]) rfl ⟨rfl,((Mod.refl _ w).alloc _).drew⟩
def Rg.cells(r:Rg):List Value:=[.string (strOf r.name),.int .i64 r.down,.int .i64 r.q,.int .i64 r.tg]
theorem lRightRung(w:World)(W H G:Int)(r:Rg)(hn:r.name.length<=9223372036854775807)(hW:-1099511627776<=W/\W<=1099511627776)(hH:-1099511627776<=H/\H<=1099511627776):
  Calls Tryz.prog 119 #[.int .i64 W,.int .i64 H,.int .i64 G,.agg r.cells.toArray] w fun e w'=>e=.returned (.bool (rungB W H G r))/\Mod (fun _=>False) w w':=by
 obtain⟨nm,dn,qq,tg⟩:=r;unfold Rg.cells;dsimp only at hn ⊢;have h0:=(Sat.nil (fun _=>False) w).alloc 68 #[.string (strOf nm),.int .i64 dn,.int .i64 qq,.int .i64 tg] rfl;obtain⟨rc,rf⟩:=(h0.own_ 0 rfl).both;dsimp only at rc;have H0:=Lib.hid h0;have LN:=Lib.hid (fun w=>lName w nm hn);clear h0;cases hnb:nameB nm with
 | false=>
  have HR:Hid (rungB W H G ⟨nm,dn,qq,tg⟩=false):=by show _=_;unfold rungB;dsimp only;rw [hnb,Bool.false_and]
  have HNB:=Lib.hid hnb;clear hnb;go_enter Tryz.func119,Tryz.ntmps119;go_wp2_with fail;refine(LN.out _).mono ?_;rintro e w1 ⟨rfl,hm1⟩;rw [HNB.out];have H1:=Lib.hid (H0.out.mod.trans hm1);clear hm1 rc rf;go_wp2_with fail;go_ret;exact⟨by rw [HR.out];rfl,H1.out⟩
 | true=>
  have HNB:=Lib.hid hnb;clear hnb;by_cases b0:dn<0
  ·have e0:decide (dn<0)=true:=decide_eq_true b0;have ha:rungArgsB ⟨nm,dn,qq,tg⟩=false:=by unfold rungArgsB;exact decide_eq_false (by dsimp only;omega)
   have HR:Hid (rungB W H G ⟨nm,dn,qq,tg⟩=false):=by show _=_;unfold rungB;rw [ha,Bool.false_and,Bool.and_false]
   clear ha;go_enter Tryz.func119,Tryz.ntmps119;go_wp2_with fail;refine(LN.out _).mono ?_;rintro e w1 ⟨rfl,hm1⟩;rw [HNB.out];have hs1:=H0.out.quiet hm1;clear rc rf;obtain⟨rc,rf⟩:=(hs1.own_ 0 rfl).both;dsimp only at rc;have H1:=Lib.hid hs1.mod;clear hm1 hs1;go_wp2_with fail;go_ret;exact⟨by rw [HR.out];rfl,H1.out⟩
  have e0:decide (dn<0)=false:=decide_eq_false b0;by_cases b1:3<dn
  ·have e1:decide (3<dn)=true:=decide_eq_true b1;have ha:rungArgsB ⟨nm,dn,qq,tg⟩=false:=by unfold rungArgsB;exact decide_eq_false (by dsimp only;omega)
   have HR:Hid (rungB W H G ⟨nm,dn,qq,tg⟩=false):=by show _=_;unfold rungB;rw [ha,Bool.false_and,Bool.and_false]
   clear ha;go_enter Tryz.func119,Tryz.ntmps119;go_wp2_with fail;refine(LN.out _).mono ?_;rintro e w1 ⟨rfl,hm1⟩;rw [HNB.out];have hs1:=H0.out.quiet hm1;clear rc rf;obtain⟨rc,rf⟩:=(hs1.own_ 0 rfl).both;dsimp only at rc;have H1:=Lib.hid hs1.mod;clear hm1 hs1;go_wp2_with fail;go_ret;exact⟨by rw [HR.out];rfl,H1.out⟩
  have e1:decide (3<dn)=false:=decide_eq_false b1;by_cases b2:qq<0
  ·have e2:decide (qq<0)=true:=decide_eq_true b2;have ha:rungArgsB ⟨nm,dn,qq,tg⟩=false:=by unfold rungArgsB;exact decide_eq_false (by dsimp only;omega)
   have HR:Hid (rungB W H G ⟨nm,dn,qq,tg⟩=false):=by show _=_;unfold rungB;rw [ha,Bool.false_and,Bool.and_false]
   clear ha;go_enter Tryz.func119,Tryz.ntmps119;go_wp2_with fail;refine(LN.out _).mono ?_;rintro e w1 ⟨rfl,hm1⟩;rw [HNB.out];have hs1:=H0.out.quiet hm1;clear rc rf;obtain⟨rc,rf⟩:=(hs1.own_ 0 rfl).both;dsimp only at rc;have H1:=Lib.hid hs1.mod;clear hm1 hs1;go_wp2_with fail;go_ret;exact⟨by rw [HR.out];rfl,H1.out⟩
  have e2:decide (qq<0)=false:=decide_eq_false b2;by_cases b3:31<qq
  ·have e3:decide (31<qq)=true:=decide_eq_true b3;have ha:rungArgsB ⟨nm,dn,qq,tg⟩=false:=by unfold rungArgsB;exact decide_eq_false (by dsimp only;omega)
   have HR:Hid (rungB W H G ⟨nm,dn,qq,tg⟩=false):=by show _=_;unfold rungB;rw [ha,Bool.false_and,Bool.and_false]
   clear ha;go_enter Tryz.func119,Tryz.ntmps119;go_wp2_with fail;refine(LN.out _).mono ?_;rintro e w1 ⟨rfl,hm1⟩;rw [HNB.out];have hs1:=H0.out.quiet hm1;clear rc rf;obtain⟨rc,rf⟩:=(hs1.own_ 0 rfl).both;dsimp only at rc;have H1:=Lib.hid hs1.mod;clear hm1 hs1;go_wp2_with fail;go_ret;exact⟨by rw [HR.out];rfl,H1.out⟩
  have e3:decide (31<qq)=false:=decide_eq_false b3;by_cases b4:tg<0
  ·have e4:decide (tg<0)=true:=decide_eq_true b4;have ha:rungArgsB ⟨nm,dn,qq,tg⟩=false:=by unfold rungArgsB;exact decide_eq_false (by dsimp only;omega)
   have HR:Hid (rungB W H G ⟨nm,dn,qq,tg⟩=false):=by show _=_;unfold rungB;rw [ha,Bool.false_and,Bool.and_false]
   clear ha;go_enter Tryz.func119,Tryz.ntmps119;go_wp2_with fail;refine(LN.out _).mono ?_;rintro e w1 ⟨rfl,hm1⟩;rw [HNB.out];have hs1:=H0.out.quiet hm1;clear rc rf;obtain⟨rc,rf⟩:=(hs1.own_ 0 rfl).both;dsimp only at rc;have H1:=Lib.hid hs1.mod;clear hm1 hs1;go_wp2_with fail;go_ret;exact⟨by rw [HR.out];rfl,H1.out⟩
  have e4:decide (tg<0)=false:=decide_eq_false b4;by_cases b5:1048576<tg
  ·have e5:decide (1048576<tg)=true:=decide_eq_true b5;have ha:rungArgsB ⟨nm,dn,qq,tg⟩=false:=by unfold rungArgsB;exact decide_eq_false (by dsimp only;omega)
   have HR:Hid (rungB W H G ⟨nm,dn,qq,tg⟩=false):=by show _=_;unfold rungB;rw [ha,Bool.false_and,Bool.and_false]
   clear ha;go_enter Tryz.func119,Tryz.ntmps119;go_wp2_with fail;refine(LN.out _).mono ?_;rintro e w1 ⟨rfl,hm1⟩;rw [HNB.out];have hs1:=H0.out.quiet hm1;clear rc rf;obtain⟨rc,rf⟩:=(hs1.own_ 0 rfl).both;dsimp only at rc;have H1:=Lib.hid hs1.mod;clear hm1 hs1;go_wp2_with fail;go_ret;exact⟨by rw [HR.out];rfl,H1.out⟩
  have e5:decide (1048576<tg)=false:=decide_eq_false b5;have ha:rungArgsB ⟨nm,dn,qq,tg⟩=true:=by unfold rungArgsB;exact decide_eq_true (by dsimp only;omega)
  have hd:0<=dn/\dn<=3:=⟨by omega,by omega⟩
  obtain⟨w2,hw2⟩:∃x,x=halved W dn:=⟨_,rfl⟩
  obtain⟨h2,hh2⟩:∃x,x=halved H dn:=⟨_,rfl⟩
  have HR:Hid (rungB W H G ⟨nm,dn,qq,tg⟩=(seqRight w2 h2 G&&(decide (w2*(2 ^ dn.toNat:Nat)=W)&&decide (h2*(2 ^ dn.toNat:Nat)=H)))):=by show _=_;unfold rungB;rw [ha];dsimp only;rw [HNB.out,Bool.true_and,Bool.true_and,<-hw2,<-hh2]
  have ls:∀w:World,Calls Tryz.prog 120 #[.int .i64 W,.int .i64 H,.int .i64 G,.int .i64 dn] w fun e w'=>e=.returned (.agg #[.int .i64 w2,.int .i64 h2,.int .i64 G])/\Mod (fun _=>False) w w':=fun w=>by rw [hw2,hh2];exact lSequence w W H G dn hd hW hH
  have LS:=Lib.hid ls;clear ls;clear ha hw2 hh2;go_enter Tryz.func119,Tryz.ntmps119;go_wp2_with fail;refine(LN.out _).mono ?_;rintro e w1 ⟨rfl,hm1⟩;rw [HNB.out];have hs1:=H0.out.quiet hm1;clear rc rf;obtain⟨rc,rf⟩:=(hs1.own_ 0 rfl).both;dsimp only at rc;have H1:=Lib.hid hs1;clear hm1 hs1;go_wp2_with fail;refine(LS.out _).mono ?_;rintro e w3 ⟨rfl,hm3⟩;have hs3:=(H1.out.quiet hm3).alloc (g:=w3.heap.size) 70 #[.int .i64 w2,.int .i64 h2,.int .i64 G] rfl;clear rc rf;go_upto_region 6 with(fail)
  obtain⟨sb,hsb⟩:∃b,b=w3.heap.size:=⟨_,rfl⟩
  rw [<-hsb]at hs3 ⊢;generalize w3.alloc (.cells #[.int .i64 w2,.int .i64 h2,.int .i64 G] 70)=w4 at *;obtain⟨sc,sf⟩:=(hs3.own_ 0 rfl).both;obtain⟨rc,rf⟩:=(hs3.own_ 1 rfl).both;dsimp only at sc rc;have H3:=Lib.hid hs3;clear hm3 hs3 hsb;cases hsr:seqRight w2 h2 G with
  | false=>
   go_wp2_with fail;refine(synRight_no w4 w2 h2 G hsr).mono ?_;rintro e w5 ⟨rfl,hm5⟩;have H5:=Lib.hid (And.intro (H3.out.mod.trans hm5) hsr);clear hm5 hsr;go_wp2_with fail;go_ret;exact⟨by rw [HR.out,H5.out.2];rfl,H5.out.1⟩
  | true=>
   go_wp2_with fail;refine(synRight_yes w4 w2 h2 G hsr).mono ?_;rintro e w5 ⟨rfl,hm5⟩;have hs5:=H3.out.quiet hm5;clear sc sf rc rf;obtain⟨sc,sf⟩:=(hs5.own_ 0 rfl).both;obtain⟨rc,rf⟩:=(hs5.own_ 1 rfl).both;dsimp only at sc rc;have hb:=hsr;unfold seqRight at hb;rw [decide_eq_true_eq]at hb;obtain⟨⟨a1,a2,_⟩,⟨c1,c2,_⟩,_⟩:=hb;have H5:=Lib.hid (And.intro hs5.mod hsr);clear hm5 hs5 hsr;have h4:dn=0\/dn=1\/dn=2\/dn=3:=by omega
   clear hd e0 e1 b0 b1;rcases h4 with rfl|rfl|rfl|rfl
   ·have HR2:Hid (rungB W H G ⟨nm,0,qq,tg⟩=(decide (w2=W)&&decide (h2=H))):=by show _=_;rw [HR.out,H5.out.2,Bool.true_and,show(((2 ^ (0:Int).toNat:Nat)):Int)=1 from rfl,Int.mul_one,Int.mul_one]
    by_cases x1:w2=W
    ·have y1:((w2) == W)=true:=by simpa using x1
     by_cases x2:h2=H
     ·have y2:((h2) == H)=true:=by simpa using x2
      have HR3:Hid (rungB W H G ⟨nm,0,qq,tg⟩=true):=by show _=_;rw [HR2.out,decide_eq_true x1,decide_eq_true x2];rfl
      clear x1 x2;go_wp2_with fail;go_ret;exact⟨by rw [HR3.out];rfl,H5.out.1⟩
     ·have y2:((h2) == H)=false:=by simpa using x2
      have HR3:Hid (rungB W H G ⟨nm,0,qq,tg⟩=false):=by show _=_;rw [HR2.out,decide_eq_false x2,Bool.and_false]
      clear x1 x2;go_wp2_with fail;go_ret;exact⟨by rw [HR3.out];rfl,H5.out.1⟩
    ·have y1:((w2) == W)=false:=by simpa using x1
     have HR3:Hid (rungB W H G ⟨nm,0,qq,tg⟩=false):=by show _=_;rw [HR2.out,decide_eq_false x1,Bool.false_and]
     clear x1;go_wp2_with fail;go_ret;exact⟨by rw [HR3.out];rfl,H5.out.1⟩
   ·have HR2:Hid (rungB W H G ⟨nm,1,qq,tg⟩=(decide (w2*2=W)&&decide (h2*2=H))):=by show _=_;rw [HR.out,H5.out.2,Bool.true_and,show(((2 ^ (1:Int).toNat:Nat)):Int)=2 from rfl]
    by_cases x1:w2*2=W
    ·have y1:((w2*2) == W)=true:=by simpa using x1
     by_cases x2:h2*2=H
     ·have y2:((h2*2) == H)=true:=by simpa using x2
      have HR3:Hid (rungB W H G ⟨nm,1,qq,tg⟩=true):=by show _=_;rw [HR2.out,decide_eq_true x1,decide_eq_true x2];rfl
      clear x1 x2;go_wp2_with fail;go_ret;exact⟨by rw [HR3.out];rfl,H5.out.1⟩
     ·have y2:((h2*2) == H)=false:=by simpa using x2
      have HR3:Hid (rungB W H G ⟨nm,1,qq,tg⟩=false):=by show _=_;rw [HR2.out,decide_eq_false x2,Bool.and_false]
      clear x1 x2;go_wp2_with fail;go_ret;exact⟨by rw [HR3.out];rfl,H5.out.1⟩
    ·have y1:((w2*2) == W)=false:=by simpa using x1
     have HR3:Hid (rungB W H G ⟨nm,1,qq,tg⟩=false):=by show _=_;rw [HR2.out,decide_eq_false x1,Bool.false_and]
     clear x1;go_wp2_with fail;go_ret;exact⟨by rw [HR3.out];rfl,H5.out.1⟩
   ·have HR2:Hid (rungB W H G ⟨nm,2,qq,tg⟩=(decide (w2*4=W)&&decide (h2*4=H))):=by show _=_;rw [HR.out,H5.out.2,Bool.true_and,show(((2 ^ (2:Int).toNat:Nat)):Int)=4 from rfl]
    by_cases x1:w2*4=W
    ·have y1:((w2*4) == W)=true:=by simpa using x1
     by_cases x2:h2*4=H
     ·have y2:((h2*4) == H)=true:=by simpa using x2
      have HR3:Hid (rungB W H G ⟨nm,2,qq,tg⟩=true):=by show _=_;rw [HR2.out,decide_eq_true x1,decide_eq_true x2];rfl
      clear x1 x2;go_wp2_with fail;go_ret;exact⟨by rw [HR3.out];rfl,H5.out.1⟩
     ·have y2:((h2*4) == H)=false:=by simpa using x2
      have HR3:Hid (rungB W H G ⟨nm,2,qq,tg⟩=false):=by show _=_;rw [HR2.out,decide_eq_false x2,Bool.and_false]
      clear x1 x2;go_wp2_with fail;go_ret;exact⟨by rw [HR3.out];rfl,H5.out.1⟩
    ·have y1:((w2*4) == W)=false:=by simpa using x1
     have HR3:Hid (rungB W H G ⟨nm,2,qq,tg⟩=false):=by show _=_;rw [HR2.out,decide_eq_false x1,Bool.false_and]
     clear x1;go_wp2_with fail;go_ret;exact⟨by rw [HR3.out];rfl,H5.out.1⟩
   ·have HR2:Hid (rungB W H G ⟨nm,3,qq,tg⟩=(decide (w2*8=W)&&decide (h2*8=H))):=by show _=_;rw [HR.out,H5.out.2,Bool.true_and,show(((2 ^ (3:Int).toNat:Nat)):Int)=8 from rfl]
    by_cases x1:w2*8=W
    ·have y1:((w2*8) == W)=true:=by simpa using x1
     by_cases x2:h2*8=H
     ·have y2:((h2*8) == H)=true:=by simpa using x2
      have HR3:Hid (rungB W H G ⟨nm,3,qq,tg⟩=true):=by show _=_;rw [HR2.out,decide_eq_true x1,decide_eq_true x2];rfl
      clear x1 x2;go_wp2_with fail;go_ret;exact⟨by rw [HR3.out];rfl,H5.out.1⟩
     ·have y2:((h2*8) == H)=false:=by simpa using x2
      have HR3:Hid (rungB W H G ⟨nm,3,qq,tg⟩=false):=by show _=_;rw [HR2.out,decide_eq_false x2,Bool.and_false]
      clear x1 x2;go_wp2_with fail;go_ret;exact⟨by rw [HR3.out];rfl,H5.out.1⟩
    ·have y1:((w2*8) == W)=false:=by simpa using x1
     have HR3:Hid (rungB W H G ⟨nm,3,qq,tg⟩=false):=by show _=_;rw [HR2.out,decide_eq_false x1,Bool.false_and]
     clear x1;go_wp2_with fail;go_ret;exact⟨by rw [HR3.out];rfl,H5.out.1⟩
structure FrameF(w:World)(F:Nat->Prop)(d:Dim)(f:Pix)(c:List Value):Prop where
 ex:∃v0 v1 v2,c=[.int .i64 (d.W:Int),.int .i64 (d.H:Int),v0,.int .i64 (d.W2:Int),.int .i64 (d.H2:Int),v1,.int .i64 (d.W2:Int),.int .i64 (d.H2:Int),v2] /\
  RowIn w F 1 v0 d.nY (u8s f.Y)/\RowIn w F 1 v1 d.nC (u8s f.U)/\RowIn w F 1 v2 d.nC (u8s f.V)
theorem RowIn.blk{w:World}{F:Nat->Prop}{g n:Nat}{l:List UInt8}(h:Blk w g 5 (u8s l).toArray)(hl:l.length=n)(hF:F g):RowIn w F 1 (.slice (some ⟨g,0,none⟩) n n) n (u8s l):=by
 refine⟨_,_,rfl,Nat.le_refl _,fun e=>(by cases e),⟨by rw [u8s_length,hl,Nat.mul_one],fun e=>(by cases e),fun ad e j u hu=>?_⟩,fun ad e _=>?_⟩
 ·injection e with e;subst e;rw [addr_add,h.cell j];simpa using hu
 ·injection e with e;subst e;exact⟨h.lt,hF⟩
theorem FrameF.of_at{w:World}{F:Nat->Prop}{d:Dim}{gy gu gv:Nat}{f:Pix}(h:FrameAt w d gy gu gv f)(h0:F gy)(h1:F gu)(h2:F gv):FrameF w F d f (frameV d gy gu gv):=
 ⟨_,_,_,rfl,.blk h.by_ h.ly h0,.blk h.bu h.lu h1,.blk h.bv h.lv h2⟩
theorem FrameF.turn{w w':World}{F F' S:Nat->Prop}{d:Dim}{f:Pix}{c:List Value}(h:FrameF w F d f c)(hm:Mod S w w')(hS:∀k,F k->k<w.heap.size->¬S k)(hF:∀k,F k->k<w.heap.size->F' k):FrameF w' F' d f c:=by
 obtain⟨v0,v1,v2,h0,h1,h2,h3⟩:=h.ex;exact⟨v0,v1,v2,h0,h1.turn hm hS hF,h2.turn hm hS hF,h3.turn hm hS hF⟩
def SegR(w:World)(F:Nat->Prop)(d:Dim)(s:List (List UInt8 × Pix))(c:List Value):Prop:=
 ∃sv fv,c=[sv,fv]/\ListIn w F 1 (SampR w F) sv (s.map Prod.fst)/\ListIn w F 9 (FrameF w F d) fv (s.map Prod.snd)
theorem SegR.turn{w w':World}{F F' S:Nat->Prop}{d:Dim}{s:List (List UInt8 × Pix)}{c:List Value}(h:SegR w F d s c)(hm:Mod S w w')(hS:∀k,F k->k<w.heap.size->¬S k)(hF:∀k,F k->k<w.heap.size->F' k):SegR w' F' d s c:=by
 obtain⟨sv,fv,h0,h1,h2⟩:=h;exact⟨sv,fv,h0,h1.turn hm hS hF (fun x _ c k=>k.turn hm hS hF),h2.turn hm hS hF (fun x _ c k=>k.turn hm hS hF)⟩
structure MadeX where
 r:Rg
 G:Int
 d:Dim
 segs:List (List (List UInt8 × Pix))
def MadeR(w:World)(F:Nat->Prop)(m:MadeX)(c:List Value):Prop:=
 ∃sv,c=m.r.cells++[.int .i64 (m.d.W:Int),.int .i64 (m.d.H:Int),.int .i64 m.G,sv]/\ListIn w F 2 (SegR w F m.d) sv m.segs
theorem MadeR.turn{w w':World}{F F' S:Nat->Prop}{m:MadeX}{c:List Value}(h:MadeR w F m c)(hm:Mod S w w')(hS:∀k,F k->k<w.heap.size->¬S k)(hF:∀k,F k->k<w.heap.size->F' k):MadeR w' F' m c:=by
 obtain⟨sv,h0,h1⟩:=h;exact⟨sv,h0,h1.turn hm hS hF (fun x _ c k=>k.turn hm hS hF)⟩
def MadesIn(w:World)(F:Nat->Prop)(v:Value)(ms:List MadeX):Prop:=ListIn w F 8 (MadeR w F) v ms
theorem MadesIn.turn{w w':World}{F F' S:Nat->Prop}{v:Value}{ms:List MadeX}(h:MadesIn w F v ms)(hm:Mod S w w')(hS:∀k,F k->k<w.heap.size->¬S k)(hF:∀k,F k->k<w.heap.size->F' k):MadesIn w' F' v ms:=
 ListIn.turn h hm hS hF (fun _ _ _ k=>k.turn hm hS hF)
def boxB(t:List UInt8)(n:Nat):Bool:=decide (t.length=4)&&decide (n<=1048576)&&t.all letterB
theorem bxRight(w:World)(t:List UInt8)(A:Option Addr)(n c:Nat):
  Calls Tryz.prog 234 #[.agg #[.string (strOf t),.slice A n c]] w fun e w'=>e=.returned (.bool (boxB t n))/\Mod (fun _=>False) w w':=by
 have hb:=Blk.new w 151 #[.string (strOf t),.slice A n c];have hm:Mod (fun _=>False) w (w.alloc (.cells #[.string (strOf t),.slice A n c] 151)):=(Mod.refl _ w).alloc _;obtain⟨bc,bf⟩:=hb.both;have bl:=hb.lt;have x0:(w.alloc (.cells #[.string (strOf t),.slice A n c] 151)).cell? ⟨w.heap.size,0,none⟩=some (.string (strOf t)):=bc 0;have x1:(w.alloc (.cells #[.string (strOf t),.slice A n c] 151)).cell? ⟨w.heap.size,1,none⟩=some (.slice A n c):=bc 1;have HM:=Lib.hid hm;have hsz:=strOf_size t;clear hm hb bc;go_enter Tryz.func234,Tryz.ntmps234;go_upto_region 1 with(fail)
 generalize w.alloc (.cells #[.string (strOf t),.slice A n c] 151)=w1 at *;cases d1:((t.length:Int) != 4)with
 | true=>
   go_wp2_with fail;go_ret;exact⟨by unfold boxB;rw [show decide (t.length=4)=false from decide_eq_false (by simp at d1;omega)];rfl,HM.out⟩
 | false=>
   have h4:t.length=4:=by simp at d1;omega
   cases d2:decide ((1048576:Int)<(n:Int))with
   | true=>
     go_wp2_with fail;go_ret;exact⟨by unfold boxB;rw [show decide (n<=1048576)=false from decide_eq_false (by have:=of_decide_eq_true d2;omega),Bool.and_false];rfl,HM.out⟩
   | false=>
     have hB:boxB t n=t.all letterB:=by
      unfold boxB;rw [decide_eq_true h4,show decide (n<=1048576)=true from decide_eq_true (by have:=of_decide_eq_false d2;omega)];rfl
     have HB:=Lib.hid (And.intro hB h4);clear hB;go_wp2_with fail;go_loop [18] (nmRel15 t) (fun i=>4-(intOf i).toNat)
     case atStart=>exact⟨0,by omega,rfl,by simp⟩
     case round=>
      obtain⟨k,hk,rfl,hall⟩:=hrel;have HA:=Lib.hid hall;clear hall;by_cases hlt:k<4
      ·have hlt':k<t.length:=by rw [HB.out.2];exact hlt
       have hc:=getE hlt';have d0:decide ((k:Int)<4)=true:=decide_eq_true (by omega);have hx:=run_index_strOf (P:=Tryz.prog) (t:=9) t .i64 k _ Tryz.underlying9 hc;generalize hcc:t[k]=b at hc hx;have hct:=b.toNat_lt;have hld:=letterI b;have HC:=Lib.hid (And.intro hc hld);clear hc hcc hld
       cases e1:decide ((b.toNat:Int)<97)<;>cases e2:decide ((122:Int)<(b.toNat:Int))<;>cases e3:decide ((b.toNat:Int)<48)<;>cases e4:decide ((57:Int)<(b.toNat:Int))<;>(
        have HD:=HC.out.2;rw [e1,e2,e3,e4]at HD;simp only [Bool.or_true,Bool.or_false,Bool.and_true,Bool.and_false,Bool.not_true,Bool.not_false]at HD;have HD:=Lib.hid HD;go_wp2_with fail
        first
        | exact⟨⟨k+1,by omega,by go_num,all_snoc HA.out HC.out.1 HD.out⟩,by simp [intOf];omega⟩
        | (go_ret
           exact⟨by rw [HB.out.1,all_not HC.out.1 HD.out];rfl,HM.out⟩))
      ·obtain rfl:k=4:=by omega
       have hh:=HA.out;rw [<-HB.out.2]at hh;have HE:=Lib.hid (all_end hh);clear hh;go_wp2_with fail;go_ret;exact⟨by rw [HB.out.1,HE.out];rfl,HM.out⟩
def timesB(sc tk:Int):Bool:=!(((decide (sc<1) || decide (1048576<sc)) || decide (tk<1)) || decide (1048576<tk))
def initB(nm:List UInt8)(W H G sc tk:Int):Bool:=nameB nm&&timesB sc tk&&seqRight W H G
def initC(nm:List UInt8)(W H G sc tk:Int):Array Value:=#[.string (strOf nm),.int .i64 W,.int .i64 H,.int .i64 G,.int .i64 sc,.int .i64 tk]
theorem sgRightInit(w:World)(nm:List UInt8)(W H G sc tk:Int)(hnm:nm.length<=9223372036854775807):
  Calls Tryz.prog 109 #[.agg (initC nm W H G sc tk)] w fun e w'=>e=.returned (.bool (initB nm W H G sc tk))/\Mod (fun _=>False) w w':=by
 have hb:=Blk.new w 93 (initC nm W H G sc tk);have hm:Mod (fun _=>False) w (w.alloc (.cells (initC nm W H G sc tk) 93)):=(Mod.refl _ w).alloc _;unfold initC at *;obtain⟨bc,bf⟩:=hb.both;have bl:=hb.lt;have HM:=Lib.hid hm;have hsz:=strOf_size nm;clear hm hb;go_enter Tryz.func109,Tryz.ntmps109;go_upto_region 1 with(fail)
 generalize w.alloc (.cells #[.string (strOf nm),.int .i64 W,.int .i64 H,.int .i64 G,.int .i64 sc,.int .i64 tk] 93)=w1 at *;have x0:w1.cell? ⟨w.heap.size,0,none⟩=some (.string (strOf nm)):=bc 0;have x1:w1.cell? ⟨w.heap.size,1,none⟩=some (.int .i64 W):=bc 1;have x2:w1.cell? ⟨w.heap.size,2,none⟩=some (.int .i64 H):=bc 2;have x3:w1.cell? ⟨w.heap.size,3,none⟩=some (.int .i64 G):=bc 3;have x4:w1.cell? ⟨w.heap.size,4,none⟩=some (.int .i64 sc):=bc 4;have x5:w1.cell? ⟨w.heap.size,5,none⟩=some (.int .i64 tk):=bc 5;clear bc;cases d1:decide ((nm.length:Int)<1)with
 | true=>
   have HN:=Lib.hid (nameI_len (l:=nm) (by have:=of_decide_eq_true d1;omega));go_wp2_with fail;go_ret;exact⟨by unfold initB;rw [HN.out,Bool.false_and,Bool.false_and];rfl,HM.out⟩
 | false=>
   cases d2:decide ((8:Int)<(nm.length:Int))with
   | true=>
     have HN:=Lib.hid (nameI_len (l:=nm) (by have:=of_decide_eq_true d2;omega));go_wp2_with fail;go_ret;exact⟨by unfold initB;rw [HN.out,Bool.false_and,Bool.false_and];rfl,HM.out⟩
   | false=>
     have h18:1<=nm.length/\nm.length<=8:=⟨by have:=of_decide_eq_false d1;omega,by have:=of_decide_eq_false d2;omega⟩
     have HL:=Lib.hid h18;clear h18;go_wp2_with fail;go_loop [18] (nmRel15 nm) (fun i=>nm.length-(intOf i).toNat)
     case atStart=>exact⟨0,by omega,rfl,by simp⟩
     case round=>
      obtain⟨k,hk,rfl,hall⟩:=hrel;have HA:=Lib.hid hall;clear hall;by_cases hlt:k<nm.length
      ·have hc:=getE hlt;have d0:decide ((k:Int)<(nm.length:Int))=true:=decide_eq_true (by omega);have hx:=run_index_strOf (P:=Tryz.prog) (t:=9) nm .i64 k _ Tryz.underlying9 hc;generalize hcc:nm[k]=b at hc hx;have hct:=b.toNat_lt;have hld:=letterI b;have HC:=Lib.hid (And.intro hc hld);clear hc hcc hld
       cases e1:decide ((b.toNat:Int)<97)<;>cases e2:decide ((122:Int)<(b.toNat:Int))<;>cases e3:decide ((b.toNat:Int)<48)<;>cases e4:decide ((57:Int)<(b.toNat:Int))<;>(
        have HD:=HC.out.2;rw [e1,e2,e3,e4]at HD;simp only [Bool.or_true,Bool.or_false,Bool.and_true,Bool.and_false,Bool.not_true,Bool.not_false]at HD;have HD:=Lib.hid HD;go_wp2_with fail
        first
        | exact⟨⟨k+1,by omega,by go_num,all_snoc HA.out HC.out.1 HD.out⟩,by simp [intOf];omega⟩
        | (go_ret
           exact⟨by unfold initB;rw [nameI_no (all_not HC.out.1 HD.out),Bool.false_and,Bool.false_and];rfl,HM.out⟩))
      ·obtain rfl:k=nm.length:=by omega
       have d0:decide ((nm.length:Int)<(nm.length:Int))=false:=decide_eq_false (by omega);have hn:nameB nm=true:=by rw [nameI_yes (all_end HA.out)];exact decide_eq_true HL.out
       have hI:initB nm W H G sc tk=(timesB sc tk&&seqRight W H G):=by unfold initB;rw [hn,Bool.true_and]
       have HI:=Lib.hid hI;clear hI hn
       cases e1:decide (sc<1)<;>cases e2:decide (1048576<sc)<;>cases e3:decide (tk<1)<;>cases e4:decide (1048576<tk)<;>(
        have HT:Hid (timesB sc tk=_):=Lib.hid (by unfold timesB;rw [e1,e2,e3,e4]);simp only [Bool.or_true,Bool.or_false,Bool.not_true,Bool.not_false]at HT;go_wp2_with fail
        first
        | (go_ret
           exact⟨by rw [HI.out,HT.out];rfl,HM.out⟩)
        | (cases hs:seqRight W H G with
           | true=>
             refine(synRight_yes w1 W H G hs).mono ?_;rintro e w2 ⟨rfl,hm2⟩;have H2:=Lib.hid (And.intro (HM.out.trans hm2) hs);clear hm2 hs;go_wp2_with fail;go_ret;exact⟨by rw [HI.out,HT.out,H2.out.2];rfl,H2.out.1⟩
           | false=>
             refine(synRight_no w1 W H G hs).mono ?_;rintro e w2 ⟨rfl,hm2⟩;have H2:=Lib.hid (And.intro (HM.out.trans hm2) hs);clear hm2 hs;go_wp2_with fail;go_ret;exact⟨by rw [HI.out,HT.out,H2.out.2];rfl,H2.out.1⟩))
structure Bx where
 typ:List UInt8
 data:List UInt8
def Bx.okB(b:Bx):Bool:=boxB b.typ b.data.length
def be32(n:Nat):List UInt8:=[UInt8.ofNat (n/16777216),UInt8.ofNat (n/65536),UInt8.ofNat (n/256),UInt8.ofNat n]
def Bx.bytes(b:Bx):List UInt8:=be32 (8+b.data.length)++(b.typ++b.data)
def bxBytes(l:List Bx):List UInt8:=l.flatMap Bx.bytes
def bxSize(l:List Bx):Nat:=(l.map fun b=>8+b.data.length).sum
theorem Bx.bytes_length{b:Bx}(h:b.okB=true):b.bytes.length=8+b.data.length:=by
 unfold Bx.okB boxB at h;rw [Bool.and_eq_true,Bool.and_eq_true,decide_eq_true_eq]at h;unfold Bx.bytes be32;simp only [List.length_append,List.length_cons,List.length_nil,h.1.1];omega
theorem bxSize_succ{l:List Bx}{k:Nat}{b:Bx}(h:l[k]?=some b):bxSize (l.take (k+1))=bxSize (l.take k)+(8+b.data.length):=by
 unfold bxSize;rw [List.take_add_one,h];simp
theorem bxBytes_succ{l:List Bx}{k:Nat}{b:Bx}(h:l[k]?=some b):bxBytes (l.take (k+1))=bxBytes (l.take k)++b.bytes:=by
 unfold bxBytes;rw [List.take_add_one,h];simp
theorem bxBytes_len{l:List Bx}(h:l.all Bx.okB=true):(bxBytes l).length=bxSize l:=by
 unfold bxBytes bxSize
 induction l with
 | nil=>rfl
 | cons b l ih=>
  rw [List.all_cons,Bool.and_eq_true]at h;rw [List.flatMap_cons,List.length_append,List.map_cons,List.sum_cons,ih h.2,Bx.bytes_length h.1]
theorem bxSize_le(l:List Bx)(k:Nat):bxSize (l.take k)<=bxSize l:=by
 unfold bxSize
 conv=>rhs;rw [<-List.take_append_drop k l,List.map_append,List.sum_append]
 omega
def BoxR(w:World)(b:Bx)(c:List Value):Prop:=∃v,c=[.string (strOf b.typ),v]/\BytesF w (fun _=>True) v b.data
def BoxesIn(w:World)(v:Value)(l:List Bx):Prop:=ListIn w (fun _=>True) 2 (BoxR w) v l
theorem BoxesIn.quiet{w w':World}{v:Value}{l:List Bx}(h:BoxesIn w v l)(hm:Mod (fun _=>False) w w'):BoxesIn w' v l:=
 ListIn.turn h hm (fun _ _ _ h=>h) (fun _ h _=>h) (fun _ _ _ k=>by
  obtain⟨v,rfl,h2⟩:=k;exact⟨v,rfl,RowIn.turn h2 hm (fun _ _ _ h=>h) (fun _ h _=>h)⟩)
theorem BoxesIn.at_{w:World}{v:Value}{l:List Bx}{i:Nat}{b:Bx}(h:BoxesIn w v l)(hi:l[i]?=some b):
  ∃g o cp A dc,v=.slice (some ⟨g,o,none⟩) l.length cp/\w.cell? ⟨g,o+i*2,none⟩=some (.string (strOf b.typ))/\w.cell? ⟨g,o+i*2+1,none⟩=some (.slice A b.data.length dc)/\BytesIn w A b.data.length dc b.data/\b.data.length<=dc:=by
 obtain⟨g,o,cp,c,hv,_,_,_,⟨u,rfl,hu⟩,_,hx⟩:=ListIn.at_ h hi (by decide);obtain⟨A,dc,rfl,hle,hin⟩:=hu.in_;exact⟨g,o,cp,A,dc,hv,hx 0 _ rfl,hx 1 _ rfl,hin,hle⟩
theorem BoxesIn.atM{w:World}{v:Value}{l:List Bx}{i:Nat}{b:Bx}(h:BoxesIn w v l)(hi:l[i]?=some b):
  ∃g o cp A dc,v=.slice (some ⟨g,o,none⟩) l.length cp/\(∀w',Mod (fun _=>False) w w'->w'.cell? ⟨g,o+i*2,none⟩=some (.string (strOf b.typ))/\w'.cell? ⟨g,o+i*2+1,none⟩=some (.slice A b.data.length dc))/\BytesIn w A b.data.length dc b.data/\b.data.length<=dc:=by
 obtain⟨g,o,cp,c,hv,_,hg,_,⟨u,rfl,hu⟩,_,hx⟩:=ListIn.at_ h hi (by decide);obtain⟨A,dc,rfl,hle,hin⟩:=hu.in_;refine⟨g,o,cp,A,dc,hv,fun w' hm=>⟨?_,?_⟩,hin,hle⟩
 ·exact(World.cell?_of_block (hm.block g hg (fun h=>h))).trans (hx 0 _ rfl)
 ·exact(World.cell?_of_block (hm.block g hg (fun h=>h))).trans (hx 1 _ rfl)
theorem u8s_strB(t:List UInt8):Lib.strCells (strOf t)=u8s t:=by
 unfold Lib.strCells u8s;rfl
theorem wpList_app_txt{ops:Array Oper}{rest:List Oper}{o:Oper}{a:Act}{Q:Exit->Act->World->Prop}(w:World)(hgd:o.guard=none)(s x:Operand)
  (ho:o.op=.call { callee:=.builtin .append,args:=#[s,x],argTypes:=#[22,9] })
  (B:Nat)(v:Value)(l t:List UInt8)(hs:a.eval s=v)(hx:a.eval x=.string (strOf t))(hown:Bytes w B v l)(hB:B<=w.heap.size)(hl:l.length+t.length<=1048576)
  (h:∀v' w',Bytes w' B v' (l++t)->Mod (fun j=>v.ownBlock=some j) w w'->wpList Tryz.prog ops Q rest (a.put o.dst v') w'):
  wpList Tryz.prog ops Q (o :: rest) a w:=by
 obtain⟨i0,hi0,hz0,hz1,hz2⟩:=info_parts u8_info;have hsz:=strOf_size t;refine Lib.wpList_append_own_string w hgd s x 22 9 ho B 5 i0 Tryz.underlying22 Tryz.underlying9 hi0 hz0 hz1 hz2 v l.length (u8s l) hs hown (strOf t) hx (by unfold maxLen;omega) (by omega) hB ?_;intro v' w' h1 h2 _;refine h v' w' ?_ ((Mod.refl _ _).grown h2 (fun k hk=>.inl hk));unfold Bytes;rw [hsz,u8s_strB]at h1;rw [List.length_append,show u8s (l++t)=u8s l++u8s t by simp [u8s]];exact h1
theorem bx_no{l:List Bx}{i:Nat}{b:Bx}(h:l[i]?=some b)(hb:b.okB=false):l.all Bx.okB=false:=by
 rw [<-Bool.not_eq_true,List.all_eq_true];intro h2;rw [h2 b (List.mem_of_getElem? h)]at hb;cases hb
theorem bx_all{l:List Bx}{i:Nat}{b:Bx}(h:l[i]?=some b)(h0:(l.take i).all Bx.okB=true)(hb:b.okB=true):(l.take (i+1)).all Bx.okB=true:=by
 rw [List.take_add_one,h,List.all_append,h0];simp [hb]
def BxRel(w:World)(l:List Bx)(v4 v13:Value)(wr:World):Prop:=
 ∃i:Nat,i<=l.length/\v13=.int .i64 (i:Int)/\v4=.int .i64 ((bxSize (l.take i):Nat):Int)/\(l.take i).all Bx.okB=true/\Mod (fun _=>False) w wr
theorem be32_row(m:Nat)(h:8+m<=1048584):(#[.int .u8 ((8+(m:Int))/16777216),.int .u8 ((8+(m:Int))/65536),.int .u8 ((8+(m:Int))/256 % 256),.int .u8 ((8+(m:Int)) % 256)]:Array Value)=(u8s (be32 (8+m))).toArray:=by
 have e1:(8+(m:Int))/16777216=(((UInt8.ofNat ((8+m)/16777216)).toNat:Nat):Int):=by rw [UInt8.toNat_ofNat'];omega
 have e2:(8+(m:Int))/65536=(((UInt8.ofNat ((8+m)/65536)).toNat:Nat):Int):=by rw [UInt8.toNat_ofNat'];omega
 have e3:(8+(m:Int))/256 % 256=(((UInt8.ofNat ((8+m)/256)).toNat:Nat):Int):=by rw [UInt8.toNat_ofNat'];omega
 have e4:(8+(m:Int)) % 256=(((UInt8.ofNat (8+m)).toNat:Nat):Int):=by rw [UInt8.toNat_ofNat'];omega
 rw [e1,e2,e3,e4];rfl
theorem be32_in(w:World)(n:Nat):BytesIn (w.alloc (.cells (u8s (be32 n)).toArray 5)) (some ⟨w.heap.size,0,none⟩) 4 4 (be32 n):=
 Bytes.in_ (B:=0) (Bytes.of_blk (l:=be32 n) (Nat.zero_le _) (Blk.new w 5 (u8s (be32 n)).toArray) (by unfold maxLen be32;simp))
def BxRel2(w:World)(l:List Bx)(v7 v31:Value)(wr:World):Prop:=
 ∃i:Nat,i<=l.length/\v31=.int .i64 (i:Int)/\Bytes wr w.heap.size v7 (bxBytes (l.take i))/\Mod (fun _=>False) w wr
theorem bxWrite(w:World)(v:Value)(l:List Bx)(hin:BoxesIn w v l)(hl:l.length<=1000000)(hs:bxSize l<=1048576):
  Calls Tryz.prog 162 #[v] w fun e w'=>Mod (fun _=>False) w w'/\((l.all Bx.okB=false/\e=.returned (.tuple #[.slice none 0 0,.int .i64 161])) \/
   (l.all Bx.okB=true/\∃u,e=.returned (.tuple #[u,.int .i64 0])/\Bytes w' w.heap.size u (bxBytes l))):=by
 obtain⟨A,c,rfl,hlc⟩:=ListIn.shape hin;have H0:=Lib.hid (And.intro hin (And.intro hl hs));clear hin hs;go_enter Tryz.func162,Tryz.ntmps162;go_wp2_with fail;go_loopw [4,13] (BxRel w l) (fun _ i _=>l.length-(intOf i).toNat)
 case atStart=>exact⟨0,Nat.zero_le _,rfl,rfl,rfl,Mod.refl _ _⟩
 case round=>
  obtain⟨i,hi,rfl,rfl,hok,hM⟩:=hrel;rename World=>wr
  by_cases hlt:i<l.length
  ·have d3:decide ((i:Int)<(l.length:Int))=true:=decide_eq_true (by omega);obtain⟨b,hb⟩:∃b,l[i]?=some b:=⟨_,List.getElem?_eq_getElem hlt⟩
   obtain⟨g,o,cp,D,dc,hA,k0,k1,hd,hdc⟩:=(H0.out.1.quiet hM).at_ hb;injection hA with hA _ hc;subst hA hc;have hb0:=Blk.new wr 151 #[.string (strOf b.typ),.slice D b.data.length dc];have hsz:=bxSize_succ hb;have HK:=Lib.hid (And.intro hok (And.intro hM (And.intro hb (And.intro hb0 hsz))));clear hok hM hb hb0 hd hsz;go_wp2_with fail;refine(bxRight _ b.typ D b.data.length dc).mono ?_;rintro e w1 ⟨rfl,hm1⟩;have hM1:=(HK.out.2.1.alloc (.cells #[.string (strOf b.typ),.slice D b.data.length dc] 151)).trans hm1;cases hbo:boxB b.typ b.data.length with
   | false=>
    have H1:=Lib.hid (And.intro hM1 (bx_no HK.out.2.2.1 hbo));clear hM1 hm1 hbo k0 k1;go_wp2_with fail;go_ret2;exact⟨H1.out.1,.inl ⟨H1.out.2,rfl⟩⟩
   | true=>
    have hb1:=HK.out.2.2.2.1.keep hm1 (fun h=>h);obtain⟨bc,bf⟩:=hb1.both;have x1:w1.cell? ⟨wr.heap.size,1,none⟩=some (.slice D b.data.length dc):=bc 1;have H1:=Lib.hid (And.intro hM1 (bx_all HK.out.2.2.1 HK.out.1 hbo));have bl:=hb1.lt;have hsl:=bxSize_le l (i+1);have hsi:=HK.out.2.2.2.2;have hs0:=H0.out.2.2;clear hM1 hm1 hbo k0 k1 bc hb1;go_wp2_with fail;go_roundw
    case rel=>exact⟨i+1,by omega,by go_num,by rw [HK.out.2.2.2.2];go_num,H1.out.2,H1.out.1⟩
    case measure=>have:=H0.out.2.1;simp [intOf];omega
  ·obtain rfl:i=l.length:=by omega
   rw [List.take_length]at hok ⊢;have H1:=Lib.hid (And.intro hok hM);clear hok hM;have hs0:=H0.out.2.2;go_wp2_with (at_make;refine Hid.out ?_)
   refine Lib.hid ?_;obtain⟨i0,hi0,hz0,hz1,hz2⟩:=info_parts u8_info;refine wpList_make_own wr rfl (.const (.int .i64 0)) (.tmp 27) 22 rfl w.heap.size 5 i0 _ 1 Tryz.underlying22 hi0 hz0 hz1 .i64 .i64 ((bxSize l:Nat):Int) (bxSize l) rfl rfl rfl (by rw [hz2];omega) (by unfold maxLen;omega) H1.out.2.size ?_;intro w3 hown hgr;have H3:=Lib.hid (And.intro (show Bytes w3 w.heap.size _ []from hown) (H1.out.2.grown hgr (fun _ h=>by cases h)));clear hown hgr hi0 hz0 hz1 hz2 i0;have hall:=H1.out.1;have HA:=Lib.hid hall;clear hall H1;go_wp2_with fail;go_loopw [7,31] (BxRel2 w l) (fun _ i _=>l.length-(intOf i).toNat)
   case atStart=>exact⟨0,Nat.zero_le _,rfl,H3.out.1,H3.out.2⟩
   case round=>
    clear H3;obtain⟨i,hi,rfl,hB,hM⟩:=hrel;rename World=>wq
    obtain⟨X,hX⟩:∃X,X=bxBytes (l.take i):=⟨_,rfl⟩
    rw [<-hX]at hB;obtain⟨Ao,co,rfl⟩:=own_shape hB;by_cases hlt:i<l.length
    ·have d3:decide ((i:Int)<(l.length:Int))=true:=decide_eq_true (by omega);obtain⟨b,hb⟩:∃b,l[i]?=some b:=⟨_,List.getElem?_eq_getElem hlt⟩
     obtain⟨g,o,cp,D,dc,hA,hkk,hd0,hdc⟩:=H0.out.1.atM hb;injection hA with hA _ hc;subst hA hc;obtain⟨k0,k1⟩:=hkk wq hM;have hd:=hd0.quiet hM;have HD:=Lib.hid hd0;clear hkk hd0;have hok:b.okB=true:=List.all_eq_true.1 HA.out b (List.mem_of_getElem? hb);have hlen:=bxBytes_len (l:=l.take i) (List.all_eq_true.2 fun x hx=>List.all_eq_true.1 HA.out x (List.mem_of_mem_take hx));have hs1:=bxSize_succ hb;have hs2:=bxSize_le l (i+1);have hs0:=H0.out.2.2;have hbl:=Bx.bytes_length hok;have ht4:b.typ.length=4:=by
      unfold Bx.okB boxB at hok;rw [Bool.and_eq_true,Bool.and_eq_true,decide_eq_true_eq]at hok;exact hok.1.1
     have HT4:=Lib.hid ht4;have hby:=bxBytes_succ hb;rw [<-hX]at hlen hby;have hx1:X.length+(8+b.data.length)<=1048576:=by omega
     have hwn:8+b.data.length<4294967296:=by omega
     have hb0:=Blk.new wq 151 #[.string (strOf b.typ),.slice D b.data.length dc];obtain⟨bc,bf⟩:=hb0.both;have bl:=hb0.lt;have x0:(wq.alloc (.cells #[.string (strOf b.typ),.slice D b.data.length dc] 151)).cell? ⟨wq.heap.size,0,none⟩=some (.string (strOf b.typ)):=bc 0;have x1:(wq.alloc (.cells #[.string (strOf b.typ),.slice D b.data.length dc] 151)).cell? ⟨wq.heap.size,1,none⟩=some (.slice D b.data.length dc):=bc 1;have HK:=Lib.hid (And.intro hB (And.intro hM (And.intro hb (And.intro hb0 (And.intro hby (And.intro hd (And.intro hok (And.intro hbl hx1))))))));clear hB hM hb hby hd hok hbl ht4 hs1 hs2 hs0 hlen bc hb0 hX;go_upto_region 13 with(fail)
     have hM4:=HK.out.2.1.alloc (.cells #[.string (strOf b.typ),.slice D b.data.length dc] 151);have hB4:=own_mod HK.out.1 ((Mod.refl (fun _=>False) wq).alloc (.cells #[.string (strOf b.typ),.slice D b.data.length dc] 151)) (fun _ _ h=>h);have hd4:=HK.out.2.2.2.2.2.1.quiet ((Mod.refl (fun _=>False) wq).alloc (.cells #[.string (strOf b.typ),.slice D b.data.length dc] 151));have H4:=Lib.hid (And.intro hM4 (And.intro (show Bytes _ _ _ X from hB4) (And.intro hd4 HK.out.2.2.2.1)));have hlow:=HK.out.1.lt;have hls:∀j,(Value.slice Ao X.length co).ownBlock=some j->w.heap.size<=j/\j<wq.heap.size:=fun j hj=>hlow j hj;have HLS:=Lib.hid hls;have h0s:=HK.out.2.1.size;clear hM4 hB4 hd4 hlow hls;generalize wq.alloc (.cells #[.string (strOf b.typ),.slice D b.data.length dc] 151)=w4 at H4 x0 x1 bf bl ⊢;go_wp2_with (at_builtin;refine Hid.out ?_)
     refine Lib.hid ?_;rw [be32_row b.data.length (by have:=HK.out.2.2.2.2.2.2.2.2;omega)];have hin4:=be32_in w4 (8+b.data.length);have hrow:=(Mod.refl (fun _=>False) w4).alloc (.cells (u8s (be32 (8+b.data.length))).toArray 5);have H5:=Lib.hid (And.intro (own_mod H4.out.2.1 hrow (fun _ _ h=>h)) (And.intro (H4.out.1.trans hrow) (And.intro (H4.out.2.2.1.quiet hrow) (H4.out.2.2.2.keep hrow (fun h=>h)))));obtain⟨sb,hsb⟩:∃sb,sb=w4.heap.size:=⟨_,rfl⟩
     rw [<-hsb]at hin4 ⊢;generalize w4.alloc (.cells (u8s (be32 (8+b.data.length))).toArray 5)=w5 at H5 hin4 ⊢;clear H4 hrow hsb x0 x1 bf bl;refine wpList_app_u8s w5 rfl (.tmp 40) (.tmp 52) rfl w.heap.size (.slice Ao X.length co) X (some ⟨sb,0,none⟩) 4 4 (be32 (8+b.data.length)) rfl rfl H5.out.1 hin4 H5.out.2.1.size (by have:=HK.out.2.2.2.2.2.2.2.2;omega) ?_;intro v6 w6 hv6 hm6 _ hg6;obtain⟨A6,c6,rfl⟩:=own_shape hv6;obtain⟨n6,hn6⟩:∃n6,n6=(X++be32 (8+b.data.length)).length:=⟨_,rfl⟩
     rw [<-hn6]at hv6 hg6 ⊢;have HN6:=Lib.hid hn6;clear hn6;have hb6:=H5.out.2.2.2.keep hm6 (fun h=>by have:=(HLS.out _ h).2;omega);have hd6:=H5.out.2.2.1.mod hm6 (fun h0 ad e h=>by have:=(HLS.out _ h).1;have:=HD.out.2.2.2 h0 ad e;omega);have hl5:=H5.out.2.2.2.lt
     have hls6:∀j,(Value.slice A6 n6 c6).ownBlock=some j->w.heap.size<=j/\j≠wq.heap.size:=fun j hj=>by
      refine⟨(hv6.lt j hj).1,?_⟩;rcases hg6 j hj with h|h
      ·have:=(HLS.out j h).2;omega
      ·omega
     have HLS6:=Lib.hid hls6;clear hls6 hl5 hg6;have H6:=Lib.hid (And.intro hv6 (And.intro (H5.out.2.1.into hm6 (fun j h=>.inr (HLS.out j h).1)) (And.intro hd6 hb6)));obtain⟨bc,bf⟩:=hb6.both;have bl:=hb6.lt;have x0:w6.cell? ⟨wq.heap.size,0,none⟩=some (.string (strOf b.typ)):=bc 0;have x1:w6.cell? ⟨wq.heap.size,1,none⟩=some (.slice D b.data.length dc):=bc 1;clear hv6 hm6 hb6 hd6 bc hin4 H5;go_upto_region 15 with(fail)
     go_wp2_with (at_builtin;refine Hid.out ?_)
     refine Lib.hid ?_;have hbd:(X++be32 (8+b.data.length)).length=X.length+4:=by rw [List.length_append];rfl
     have HBD:=Lib.hid hbd;refine wpList_app_txt w6 rfl (.tmp 54) (.tmp 56) rfl w.heap.size (.slice A6 n6 c6) (X++be32 (8+b.data.length)) b.typ rfl rfl H6.out.1 H6.out.2.1.size (by rw [hbd,HT4.out];have:=HK.out.2.2.2.2.2.2.2.2;omega) ?_;intro v7 w7 hv7 hm7;obtain⟨A7,c7,rfl⟩:=own_shape hv7;obtain⟨n7,hn7⟩:∃n7,n7=(X++be32 (8+b.data.length)++b.typ).length:=⟨_,rfl⟩
     rw [<-hn7]at hv7 ⊢;clear hn7;have hb7:=H6.out.2.2.2.keep hm7 (fun h=>(HLS6.out _ h).2 rfl);have hd7:=H6.out.2.2.1.mod hm7 (fun h0 ad e h=>by have:=(HLS6.out _ h).1;have:=HD.out.2.2.2 h0 ad e;omega);have hlow7:=hv7.lt;have H7:=Lib.hid (And.intro hv7 (And.intro (H6.out.2.1.into hm7 (fun j h=>.inr (HLS6.out j h).1)) (And.intro hd7 hlow7)));clear x0 x1 bf bl;obtain⟨bc,bf⟩:=hb7.both;have bl:=hb7.lt;have x1:w7.cell? ⟨wq.heap.size,1,none⟩=some (.slice D b.data.length dc):=bc 1;clear hv7 hm7 hb7 hd7 bc H6 hlow7 hbd;go_upto_region 16 with(fail)
     go_wp2_with (at_builtin;refine Hid.out ?_)
     refine Lib.hid ?_;refine wpList_app_u8s w7 rfl (.tmp 58) (.tmp 60) rfl w.heap.size (.slice A7 n7 c7) (X++be32 (8+b.data.length)++b.typ) D b.data.length dc b.data rfl rfl H7.out.1 H7.out.2.2.1 H7.out.2.1.size (by rw [List.length_append,HBD.out,HT4.out];have:=HK.out.2.2.2.2.2.2.2.2;omega) ?_;intro v8 w8 hv8 hm8 _ _;have h8:X++be32 (8+b.data.length)++b.typ++b.data=bxBytes (l.take (i+1)):=by
      rw [HK.out.2.2.2.2.1];unfold Bx.bytes;simp
     rw [h8]at hv8;have H8:=Lib.hid (And.intro hv8 (H7.out.2.1.into hm8 (fun j h=>.inr (H7.out.2.2.2 j h).1)));clear hv8 hm8 x1 bf bl h8;go_wp2_with fail;go_roundw
     case rel=>exact⟨i+1,by omega,by go_num,H8.out.1,H8.out.2⟩
     case measure=>have:=H0.out.2.1;simp [intOf];omega
    ·obtain rfl:i=l.length:=by omega
     rw [List.take_length]at hX;subst hX;have HK:=Lib.hid (And.intro hB hM);clear hB hM;go_wp2_with fail;go_ret2;exact⟨HK.out.2,.inr ⟨HA.out,_,rfl,HK.out.1⟩⟩
end Go.Proofs.YtnnpoodcdibpiaaGreatDoor
