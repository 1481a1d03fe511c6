/-
  ladder.Make.
-/
import Derived.Test.YtnnpoodcdibpiaaGreatDoorB34
import Derived.Test.YtnnpoodcdibpiaaGreatDoorB37
import Derived.Maps.OwnOps
namespace Go.Proofs.YtnnpoodcdibpiaaGreatDoor
open Go.RowKit
set_option maxRecDepth 100000
set_option maxHeartbeats 8000000
def MakePost(w:World)(fs:List FrX)(G:Int)(rs:List Rg)(e:Ending)(w':World):Prop:=
 Mod (fun _=>False) w w'/\((makeB fs G rs=false/\e=.returned (.tuple #[.slice none 0 0,.int .i64 151]))\/(makeB fs G rs=true/\∃v,e=.returned (.tuple #[v,.int .i64 0])/\MadesIn w' (fun k=>w.heap.size<=k) v (rs.map (madeX fs G))))
theorem md_info:(Tryz.prog.info? 73).map (fun i=>(i.zero,i.size,i.bytes))=some (some (.agg #[.string (strOf []),.int .i64 0,.int .i64 0,.int .i64 0,.int .i64 0,.int .i64 0,.int .i64 0,.slice none 0 0]),8,88):=by kernel_rfl
theorem ladderE_b(W H G:Int)(rs:List Rg):ladderE W H G rs=if ladderB W H G rs then 0 else 151:=rfl
def MakeRel(w:World)(fs:List FrX)(G:Int)(rs:List Rg)(v8 v37:Value)(wr:World):Prop:=
 ∃i:Nat,i<=rs.length/\v37=.int .i64 (i:Int)/\ListOwn wr w.heap.size 73 8 (MadeR wr (FM w.heap.size v8)) v8 ((rs.take i).map (madeX fs G))/\Mod (fun _=>False) w wr
theorem lMake(w:World)(he:EnvP w)(A:Option Addr)(n c:Nat)(fs:List FrX)(hin:FrsIn w A n fs)(hnc:n<=c)(hc:c<=9223372036854775807)(G:Int)(A2:Option Addr)(m c2:Nat)(rs:List Rg)(hr:RgsIn w A2 m c2 rs)(hm:m<=9223372036854775807)
  (hW:(fs.getD 0 FrX.zero).W0<=64)(hH:(fs.getD 0 FrX.zero).H0<=64):
  Calls Tryz.prog 42 #[.slice A n c,.int .i64 G,.slice A2 m c2] w (MakePost w fs G rs):=by
 have H0:=Lib.hid (And.intro he (And.intro hin (And.intro hr hin.len)));clear he;cases hcl:clipB fs with
 | false=>
  have hmk:makeB fs G rs=false:=by unfold makeB;rw [hcl,Bool.false_and]
  have HB:=Lib.hid (And.intro hcl hmk);clear hcl hmk hin hr;go_enter Tryz.func42,Tryz.ntmps42;go_upto_region 1 with(fail)
  refine wp_region_planS [1,16] [] [0,1,2,3,4,5,6,7,8,9,10,11,12,13,14,15,16,17,18] (fun _=>True) (by kernel_rfl) (by kernel_rfl) (fun _ _ _ d _ h=>by cases d<;>exact h) trivial ?_;refine planS_still rfl rfl (fun K hK=>?_);go_simp;refine hK _ ?_;clear hK K;refine planS_loud rfl rfl (fun K hK=>?_);go_simp;refine(lRightClip w.drew A n c fs (H0.out.2.1.quiet ((Mod.refl _ w).drew)) (by omega)).mono ?_;rintro e w1 ⟨rfl,hm1⟩;rw [HB.out.1];have H1:=Lib.hid (((Mod.refl (fun _=>False) w).drew).trans hm1);clear hm1;dsimp only [];refine hK _ _ trivial ?_;clear hK K
  (iterate 14 (refine planS_still rfl rfl (fun K hK=>?_);go_simp;refine hK _ ?_;clear hK K))
  refine planS_loud rfl rfl (fun K hK=>?_);go_simp;refine hK _ _ trivial ?_;clear hK K
  (iterate 2 (refine planS_still rfl rfl (fun K hK=>?_);go_simp;refine hK _ ?_;clear hK K))
  refine planS_done ?_;go_wp2_with fail;go_ret2;exact⟨H1.out,.inl ⟨HB.out.2,rfl⟩⟩
 | true=>
  obtain⟨hdo,w0e,h0e,hl,hgood⟩:=clip_good hcl;have hlen:=hin.len;have hn0:0<n:=by omega
  obtain⟨b,o,hA,hlb,hcells,_⟩:=hin.at_ 0 hn0;subst hA;obtain⟨W0,hW0⟩:∃x,x=(fs.getD 0 FrX.zero).W0:=⟨_,rfl⟩
  obtain⟨H0',hH0⟩:∃x,x=(fs.getD 0 FrX.zero).H0:=⟨_,rfl⟩
  have c0:w.cell? ⟨b,o,none⟩=some (.int .i64 W0):=by have:=hcells 0 _ rfl;rw [hW0];simpa using this
  have c1:w.cell? ⟨b,o+1,none⟩=some (.int .i64 H0'):=by have:=hcells 1 _ rfl;rw [hH0];simpa using this
  have bW:(0:Int)<=W0/\W0<=64:=by rw [hW0];exact⟨by rw [<-w0e];omega,hW⟩
  have bH:(0:Int)<=H0'/\H0'<=64:=by rw [hH0];exact⟨by rw [<-h0e];omega,hH⟩
  have lC:∀w',Mod (fun _=>False) w w'->Calls Tryz.prog 71 #[.int .i64 W0,.int .i64 H0',.int .i64 G,.slice A2 m c2] w' fun e w''=>e=.returned (.int .i64 (ladderE W0 H0' G rs))/\Mod (fun _=>False) w' w'':=
   fun w' hm'=>lCheck w' W0 H0' G A2 m c2 rs (hr.quiet hm') hm ⟨by omega,by omega⟩ ⟨by omega,by omega⟩
  have HL:=Lib.hid (And.intro lC (And.intro c0 (And.intro c1 hlb)));have HC:=Lib.hid (And.intro hcl (And.intro hdo (And.intro hgood (And.intro hW0 (And.intro hH0 hlen)))));clear lC c0 c1 hlb hcells hcl hdo hgood hin hr w0e h0e bW bH;go_enter Tryz.func42,Tryz.ntmps42;go_upto_region 1 with(fail)
  cases hlad:ladderB W0 H0' G rs with
  | false=>
   have hE:ladderE W0 H0' G rs=151:=by rw [ladderE_b,hlad];rfl
   have hmk:makeB fs G rs=false:=by unfold makeB;rw [HC.out.1,<-HC.out.2.2.2.1,<-HC.out.2.2.2.2.1,hlad];rfl
   have HB:=Lib.hid (And.intro hE hmk);clear hE hmk hlad hlen hW0 hH0;refine wp_region_planS [1,16] [] [0,1,2,3,4,5,6,7,8,9,10,11,12,13,14,15,16,17,18] (fun _=>True) (by kernel_rfl) (by kernel_rfl) (fun _ _ _ d _ h=>by cases d<;>exact h) trivial ?_;refine planS_still rfl rfl (fun K hK=>?_);go_simp;refine hK _ ?_;clear hK K;refine planS_loud rfl rfl (fun K hK=>?_);go_simp;refine(lRightClip w.drew (some ⟨b,o,none⟩) n c fs (H0.out.2.1.quiet ((Mod.refl _ w).drew)) (by omega)).mono ?_;rintro e w1 ⟨rfl,hm1⟩;rw [HC.out.1];have hM1:=((Mod.refl (fun _=>False) w).drew).trans hm1;have c0:w1.cell? ⟨b,o,none⟩=some (.int .i64 W0):=(cellqL hM1 HL.out.2.2.2).trans HL.out.2.1;have c1:w1.cell? ⟨b,o+1,none⟩=some (.int .i64 H0'):=(cellqL hM1 HL.out.2.2.2).trans HL.out.2.2.1;have H1:=Lib.hid hM1;clear hm1 hM1;dsimp only [];refine hK _ _ trivial ?_;clear hK K
   (iterate 14 (refine planS_still rfl rfl (fun K hK=>?_);go_simp;refine hK _ ?_;clear hK K))
   refine planS_loud rfl rfl (fun K hK=>?_);go_simp;refine(HL.out.1 w1 H1.out).mono ?_;rintro e w2 ⟨rfl,hm2⟩;rw [HB.out.1];have H2:=Lib.hid (H1.out.trans hm2);clear hm2 c0 c1;dsimp only [];refine hK _ _ trivial ?_;clear hK K
   (iterate 2 (refine planS_still rfl rfl (fun K hK=>?_);go_simp;refine hK _ ?_;clear hK K))
   refine planS_done ?_;go_wp2_with fail;go_ret2;exact⟨H2.out,.inl ⟨HB.out.2,rfl⟩⟩
  | true=>
   have hE:ladderE W0 H0' G rs=0:=by rw [ladderE_b,hlad];rfl
   have hmk:makeB fs G rs=true:=by unfold makeB;rw [HC.out.1,<-HC.out.2.2.2.1,<-HC.out.2.2.2.2.1,hlad];rfl
   have hm18:1<=m/\m<=8:=by
    unfold ladderB at hlad;rw [Bool.and_eq_true,decide_eq_true_eq,H0.out.2.2.1.len]at hlad;exact hlad.1
   have HB:=Lib.hid (And.intro hE (And.intro hmk hlad));clear hE hmk hlad hlen hW0 hH0;refine wp_region_planS [1,16] [] [0,1,2,3,4,5,6,7,8,9,10,11,12,13,14,15,16,17,18] (fun _=>True) (by kernel_rfl) (by kernel_rfl) (fun _ _ _ d _ h=>by cases d<;>exact h) trivial ?_;refine planS_still rfl rfl (fun K hK=>?_);go_simp;refine hK _ ?_;clear hK K;refine planS_loud rfl rfl (fun K hK=>?_);go_simp;refine(lRightClip w.drew (some ⟨b,o,none⟩) n c fs (H0.out.2.1.quiet ((Mod.refl _ w).drew)) (by omega)).mono ?_;rintro e w1 ⟨rfl,hm1⟩;rw [HC.out.1];have hM1:=((Mod.refl (fun _=>False) w).drew).trans hm1;have c0:w1.cell? ⟨b,o,none⟩=some (.int .i64 W0):=(cellqL hM1 HL.out.2.2.2).trans HL.out.2.1;have c1:w1.cell? ⟨b,o+1,none⟩=some (.int .i64 H0'):=(cellqL hM1 HL.out.2.2.2).trans HL.out.2.2.1;have H1:=Lib.hid hM1;clear hm1 hM1;dsimp only [];refine hK _ _ trivial ?_;clear hK K
   (iterate 14 (refine planS_still rfl rfl (fun K hK=>?_);go_simp;refine hK _ ?_;clear hK K))
   refine planS_loud rfl rfl (fun K hK=>?_);go_simp;refine(HL.out.1 w1 H1.out).mono ?_;rintro e w2 ⟨rfl,hm2⟩;rw [HB.out.1];have H2:=Lib.hid (H1.out.trans hm2);clear hm2 c0 c1;dsimp only [];refine hK _ _ trivial ?_;clear hK K
   (iterate 2 (refine planS_still rfl rfl (fun K hK=>?_);go_simp;refine hK _ ?_;clear hK K))
   refine planS_done ?_;go_wp2_with (at_make;refine Hid.out ?_)
   refine Lib.hid ?_;obtain⟨i0,hi0,hz0,hz1,hz2⟩:=info_parts md_info;refine wpList_make_own w2 rfl (.const (.int .i64 0)) (.tmp 33) 60 rfl w.heap.size 73 i0 _ 8 Tryz.underlying60 hi0 hz0 hz1 .i64 .i64 (m:Int) m rfl rfl rfl (by rw [hz2];omega) (by unfold maxLen;omega) H2.out.size ?_;intro w3 hown hgr;have H3:=Lib.hid (And.intro hown (H2.out.grown hgr (fun k hk=>by cases hk)));clear hi0 hz0 hz1 hz2 hown hgr;go_wp2_with fail;go_loopw [8,37] (MakeRel w fs G rs) (fun _ i _=>m-(intOf i).toNat)
   case atStart=>exact⟨0,Nat.zero_le _,rfl,⟨[],H3.out.1,.nil⟩,H3.out.2⟩
   case round=>
    clear H3;obtain⟨i,hi,rfl,hL,hM⟩:=hrel;rename World=>wr
    have hrl:=H0.out.2.2.1.len;obtain⟨Ao,co,hv8⟩:=hL.shape;have hli:((rs.take i).map (madeX fs G)).length=i:=by rw [List.length_map,List.length_take];omega
    rw [hli]at hv8;subst hv8;by_cases hlt:i<m
    ·have d3:decide ((i:Int)<(m:Int))=true:=decide_eq_true (by omega);obtain⟨b2,o2,rfl,hbw,hcells⟩:=(H0.out.2.2.1.quiet hM).at_ i hlt;obtain⟨r,hr⟩:∃r,r=rs.getD i Rg.zero:=⟨_,rfl⟩
     have hrb:=ladder_at HB.out.2.2 (show i<rs.length by omega);rw [<-hr]at hcells hrb;rw [HC.out.2.2.2.1,HC.out.2.2.2.2.1]at hrb;obtain⟨dn,q,tg,g,x1,x2,x3,x4,y1,y2,y3,y4,y5,y6,y7,y8,y9⟩:=rung_parts HC.out.1 hrb hW hH;subst x4;have k0:wr.cell? ⟨b2,o2+i*4,none⟩=some (.string (strOf r.name)):=hcells 0 _ rfl;have k1:wr.cell? ⟨b2,o2+i*4+1,none⟩=some (.int .i64 (dn:Int)):=by rw [<-x1];exact hcells 1 _ rfl
     have k2:wr.cell? ⟨b2,o2+i*4+2,none⟩=some (.int .i64 (q:Int)):=by rw [<-x2];exact hcells 2 _ rfl
     have k3:wr.cell? ⟨b2,o2+i*4+3,none⟩=some (.int .i64 (tg:Int)):=by rw [<-x3];exact hcells 3 _ rfl
     obtain⟨d,hd⟩:∃d,d=(dim0 fs).downs dn:=⟨_,rfl⟩
     have hma:Mod (fun _=>False) wr (wr.alloc (.cells #[.string (strOf r.name),.int .i64 (dn:Int),.int .i64 (q:Int),.int .i64 (tg:Int)] 68)):=(Mod.refl _ wr).alloc _;have hone:=lMakeOne (wr.alloc (.cells #[.string (strOf r.name),.int .i64 (dn:Int),.int .i64 (q:Int),.int .i64 (tg:Int)] 68)) (H0.out.1.quiet (hM.trans hma)) b o n c fs (H0.out.2.1.quiet (hM.trans hma)) (by have:=HC.out.2.2.2.2.2;omega) hnc hc g y4 r.name dn q tg y1 y2 y3 (dim0 fs) d y5 y6 hd (by rw [hd];exact y7) (by rw [hd];exact y8) (by rw [hd];exact y9) (fun k hk=>HC.out.2.2.1 k (by rw [HC.out.2.2.2.2.2];exact hk));have hmx:madeX fs (g:Int) r=⟨⟨r.name,(dn:Int),(q:Int),(tg:Int)⟩,(g:Int),d,segsOf d g tg q (fs.map fun f=>downsPix (dim0 fs) f.pix dn)⟩:=by
      obtain⟨nm,rd,rq,rt⟩:=r;dsimp only at x1 x2 x3;subst x1 x2 x3 hd;rfl
     have HQ:=Lib.hid (And.intro hone (And.intro hmx (And.intro hr (And.intro hL (And.intro hM hma)))));clear hone hmx hr hL hM hma hcells hrb hbw x1 x2 x3 y1 y2 y3 y4 y5 y6 y7 y8 y9 hd;go_wp2_with fail;refine HQ.out.1.mono ?_;rintro e w5 ⟨cells,rfl,hmd,hc8,hm5⟩;have hmd2:=hmd;obtain⟨sv,hceq,hsegs⟩:=hmd2;obtain⟨Av,cv,rfl,hcv⟩:=hsegs.shape;obtain⟨nv,hnv⟩:∃n,n=(segsOf d g tg q (fs.map fun f=>downsPix (dim0 fs) f.pix dn)).length:=⟨_,rfl⟩
     have hc88:cells=[.string (strOf r.name),.int .i64 (dn:Int),.int .i64 (q:Int),.int .i64 (tg:Int),.int .i64 (d.W:Int),.int .i64 (d.H:Int),.int .i64 (g:Int),.slice Av nv cv]:=by rw [hceq,hnv];rfl
     subst hc88;have hm56:Mod (fun _=>False) w5 (w5.alloc (.cells #[.string (strOf r.name),.int .i64 (dn:Int),.int .i64 (q:Int),.int .i64 (tg:Int),.int .i64 (d.W:Int),.int .i64 (d.H:Int),.int .i64 (g:Int),.slice Av nv cv] 73)):=(Mod.refl _ w5).alloc _;have hq6:=HQ.out.2.2.2.2.2.trans (hm5.trans hm56)
     have hL6:ListOwn (w5.alloc (.cells #[.string (strOf r.name),.int .i64 (dn:Int),.int .i64 (q:Int),.int .i64 (tg:Int),.int .i64 (d.W:Int),.int .i64 (d.H:Int),.int .i64 (g:Int),.slice Av nv cv] 73)) w.heap.size 73 8 (MadeR (w5.alloc (.cells #[.string (strOf r.name),.int .i64 (dn:Int),.int .i64 (q:Int),.int .i64 (tg:Int),.int .i64 (d.W:Int),.int .i64 (d.H:Int),.int .i64 (g:Int),.slice Av nv cv] 73)) (FM w.heap.size (.slice Ao i co))) (.slice Ao i co) ((rs.take i).map (madeX fs (g:Int))):=
      HQ.out.2.2.2.1.turn hq6 (fun _ _ h=>h) (fun _ _ _ hx=>hx.turn hq6 (fun _ _ _ h=>h) (fun _ hk _=>hk))
     have hx6:MadeR (w5.alloc (.cells #[.string (strOf r.name),.int .i64 (dn:Int),.int .i64 (q:Int),.int .i64 (tg:Int),.int .i64 (d.W:Int),.int .i64 (d.H:Int),.int .i64 (g:Int),.slice Av nv cv] 73)) (FM w.heap.size (.slice Ao i co)) (madeX fs (g:Int) r) [.string (strOf r.name),.int .i64 (dn:Int),.int .i64 (q:Int),.int .i64 (tg:Int),.int .i64 (d.W:Int),.int .i64 (d.H:Int),.int .i64 (g:Int),.slice Av nv cv]:=by
      rw [HQ.out.2.1];refine hmd.turn hm56 (fun _ _ _ h=>h) (fun k hk _=>⟨?_,fun e=>?_⟩)
      ·have h1:=HQ.out.2.2.2.2.1.size;have h2:=HQ.out.2.2.2.2.2.size;omega
      ·have h1:=(HQ.out.2.2.2.1.lt k e).2;have h2:wr.heap.size+1<=k:=by simpa using hk
       omega
     obtain⟨xs,hrow,hcel⟩:=hL6;rw [hli]at hrow;have hsz6:w.heap.size<=(w5.alloc (.cells #[.string (strOf r.name),.int .i64 (dn:Int),.int .i64 (q:Int),.int .i64 (tg:Int),.int .i64 (d.W:Int),.int .i64 (d.H:Int),.int .i64 (g:Int),.slice Av nv cv] 73)).heap.size:=Nat.le_trans HQ.out.2.2.2.2.1.size hq6.size;have H6:=Lib.hid (And.intro hrow (And.intro hcel (And.intro hx6 (HQ.out.2.2.2.2.1.trans hq6))));have hi8:i<=8:=by omega
     clear hmd hceq hsegs hcv hnv hc8 hm5 hm56 hq6 hrow hcel hx6 k0 k1 k2 k3;go_wp2_with (at_builtin;refine Hid.out ?_)
     refine Lib.hid ?_;refine wpList_app_one (w5.alloc (.cells #[.string (strOf r.name),.int .i64 (dn:Int),.int .i64 (q:Int),.int .i64 (tg:Int),.int .i64 (d.W:Int),.int .i64 (d.H:Int),.int .i64 (g:Int),.slice Av nv cv] 73)) rfl (.tmp 51) (.tmp 53) 60 73 rfl Tryz.underlying60 (.agg #[.string (strOf []),.int .i64 0,.int .i64 0,.int .i64 0,.int .i64 0,.int .i64 0,.int .i64 0,.slice none 0 0]) 8 88 md_info rfl (by decide) w.heap.size (.slice Ao i co) i xs [.string (strOf r.name),.int .i64 (dn:Int),.int .i64 (q:Int),.int .i64 (tg:Int),.int .i64 (d.W:Int),.int .i64 (d.H:Int),.int .i64 (g:Int),.slice Av nv cv] rfl (by intro u hu;simp only [List.mem_cons,List.not_mem_nil,or_false]at hu;rcases hu with rfl|rfl|rfl|rfl|rfl|rfl|rfl|rfl<;>rfl) (w5.heap.size+1) (by simp) rfl rfl H6.out.1 hsz6 (by unfold maxLen;omega) (by omega) ?_;intro v2 w9 y1 y2 y3 y4;obtain⟨As,cs2,rfl⟩:=own_shape y1;have hmod9:=y3 w (fun _=>False) (Nat.le_refl _) H6.out.2.2.2;have HA:=Lib.hid (And.intro y1 (And.intro y2 (And.intro y4 hmod9)));clear y1 y2 y3 y4 hmod9;go_wp2_with fail;refine⟨⟨i+1,by omega,rfl,?_,HA.out.2.2.2⟩,half_meas hlt⟩;rw [take_one (by omega)];have hpush:=make_push (x:=madeX fs (g:Int) r) H6.out.2.1 (by rw [hli];exact HA.out.1) HA.out.2.1 HA.out.2.2.1 H6.out.2.2.1 rfl;rw [<-HQ.out.2.2.1];exact hpush
    ·obtain rfl:i=m:=by omega
     have d3:decide ((i:Int)<(i:Int))=false:=decide_eq_false (by omega);have HR:=Lib.hid (And.intro hL hM);clear hL hM;go_wp2_with fail;go_ret2;refine⟨HR.out.2,.inr ⟨HB.out.2.1,_,rfl,?_⟩⟩;have hfin:=HR.out.1.in_ (F:=fun k=>w.heap.size<=k) (fun k hk=>(HR.out.1.lt k hk).1);rw [List.take_of_length_le (by omega)]at hfin;exact hfin.turn (Mod.refl (fun _=>False) _) (fun _ _ _ h=>h) (fun _ h _=>h) (fun _ _ _ hx=>hx.turn (Mod.refl (fun _=>False) _) (fun _ _ _ h=>h) (fun _ hk _=>hk.1))
end Go.Proofs.YtnnpoodcdibpiaaGreatDoor
namespace Go.Proofs.YtnnpoodcdibpiaaGreatDoor
open Go.RowKit Go.WideMaps Go.Maps
set_option maxRecDepth 100000
set_option maxHeartbeats 8000000
theorem mlaw:Keyed Tryz.prog 9:=string_keyed Tryz.underlying9
theorem mzero(w:World):(zeroValue 3).run Tryz.prog w=.ok (.int .i64 0) w:=by kernel_rfl
def Seen(w:World)(B:Nat)(ss:List Str):Prop:=
 ∃D:DataW Unit,w.ownsMap Tryz.prog 9 (plainElem Tryz.prog 3) B ss.length D/\IsMap D/\∀s:Str,s.length<=9223372036854775807->D.atKey (.string s) (.lit (.int .i64 0))=.lit (.int .i64 (ss.count s:Int))
theorem Seen.lt{w:World}{B:Nat}{ss:List Str}(h:Seen w B ss):B<w.heap.size:=h.choose_spec.1.lt
theorem Seen.keep{S:Nat->Prop}{w w':World}{B:Nat}{ss:List Str}(h:Seen w B ss)(hm:Mod S w w')(hB:¬S B):Seen w' B ss:=by
 have hl:=h.lt;obtain⟨D,⟨es,clock,h1,h2⟩,h3⟩:=h;exact⟨D,⟨es,clock,(hm.block B hl hB).trans h1,h2⟩,h3⟩
theorem Seen.made(w:World):Seen (w.alloc (.map #[] 0)) w.heap.size []:=
 ⟨.map [],World.ownsMap_made _ _ _ _,isMap_empty,fun _ _=>rfl⟩
theorem key_of{s:Str}(hs:s.length<=9223372036854775807):keyOf Tryz.prog 9 (.string (strOf s))=some (.string s):=by
 have h:=keyOf_string_mk Tryz.underlying9 (s:=strOf s) (by rw [strOf_size];unfold maxLen;omega);rw [strOf_data]at h;exact h
theorem lit_string_ne{a b:Str}(h:a≠b):(Lit.string a)≠(Lit.string b):=fun e=>h (by injection e)
theorem isKey_string(s:Str):WideAt.IsKeyLit (.string s):=trivial
theorem Seen.step{D:DataW Unit}{ss:List Str}{s:Str}(hD:IsMap D)(h:∀s:Str,s.length<=9223372036854775807->D.atKey (.string s) (.lit (.int .i64 0))=.lit (.int .i64 (ss.count s:Int)))(hs:s.length<=9223372036854775807)(x:Int)(hx:x=ss.count s+1):
  ∀t:Str,t.length<=9223372036854775807->(D.put (.string s) (.lit (.int .i64 x))).atKey (.string t) (.lit (.int .i64 0))=.lit (.int .i64 ((ss++[s]).count t:Int)):=by
 intro t ht;by_cases e:t=s
 ·subst e;rw [atKey_put_same hD (isKey_string t)];simp [hx]
 ·rw [atKey_put_other (lit_string_ne e),h t ht,List.count_append];simp [Ne.symm e]
def TakenPost(w:World)(B:Nat)(ss:List Str)(s:Str)(e:Ending)(w':World):Prop:=e=.returned (.bool (ss.contains s))/\Seen w' B (ss++[s])/\Mod (fun k=>k=B) w w'
theorem pTaken(w:World)(B:Nat)(ss:List Str)(s:Str)(hs:s.length<=9223372036854775807)(hn:ss.length<=1048576)(h:Seen w B ss):Calls Tryz.prog 94 #[.map (some B),.string (strOf s)] w (TakenPost w B ss s):=by
 obtain⟨D,hown,hD,hat⟩:=h;have hkey:=key_of hs;have hcnt:=hat s hs;have hcl:=List.count_le_length (a:=s) (l:=ss);have hmem:ss.contains s=decide (0<ss.count s):=by
  rw [List.contains_eq_mem];exact decide_eq_decide.2 List.count_pos_iff.symm
 have H:=Lib.hid (And.intro hmem (And.intro hD (And.intro hat (And.intro hcnt hkey))));clear hmem hD hat hcnt hkey;go_enter Tryz.func94,Tryz.ntmps94;go_wp2_with (at_lookup;have _t:=H;refine wpList_lookup_own_int _ rfl _ _ 194 rfl 9 3 .i64 mlaw Tryz.underlying194 Tryz.underlying3 (mzero _) B ss.length _ rfl hown _ _ rfl H.out.2.2.2.2 ?_;intro c hc hwc;refine Hid.out ?_)
 refine Lib.hid ?_;obtain rfl:c=(ss.count s:Int):=by
  have h1:=hc.symm.trans H.out.2.2.2.1;injection h1 with h1;injection h1
 have HC:=Lib.hid hc;clear hc hwc;have hc0:0<=(ss.count s:Int):=by omega
 have hc1:(ss.count s:Int)<=1048576:=by omega
 go_wp2_with (at_mapUpdate;refine wpList_mapUpdate_own _ rfl _ _ _ 194 rfl 9 3 mlaw Tryz.underlying194 _ B ss.length D rfl hown (by unfold maxLen;omega) _ _ _ rfl rfl H.out.2.2.2.2 (.lit (.int .i64 ((ss.count s:Int)+1))) [] (plainElem_int Tryz.underlying3 (WalkArith.wf_i64 (by omega))) ?_;intro w1 hown1 hgrow1;refine Hid.out ?_)
 refine Lib.hid ?_;have hat1:=Seen.step H.out.2.1 H.out.2.2.1 hs _ rfl;have H1:=Lib.hid (And.intro hown1 (And.intro (H.out.2.1.put (.string s) (.lit (.int .i64 ((ss.count s:Int)+1)))) (And.intro hat1 (And.intro hgrow1 (hat1 s hs)))));clear hown1 hat1 hgrow1 hown;go_wp2_with (at_lookup;refine wpList_lookup_own_int _ rfl _ _ 194 rfl 9 3 .i64 mlaw Tryz.underlying194 Tryz.underlying3 (mzero _) B (ss.length+1) _ rfl H1.out.1 _ _ rfl H.out.2.2.2.2 ?_;intro c hc hwc;refine Hid.out ?_)
 refine Lib.hid ?_;obtain rfl:c=(ss.count s:Int)+1:=by
  have h1:=hc.symm.trans H1.out.2.2.2.2;injection h1 with h1;injection h1 with _ h1;rw [h1];simp
 have HC2:=Lib.hid hc;clear hc hwc HC;have hS:Seen w1 B (ss++[s]):=⟨_,by rw [List.length_append];exact H1.out.1,H1.out.2.1,H1.out.2.2.1⟩
 have hM:Mod (fun k=>k=B) w w1:=(Mod.refl _ w).grown H1.out.2.2.2.1 (fun k e=>.inl (by injection e with e;exact e.symm));have HE:=Lib.hid (And.intro hS hM);clear hS hM;cases hb:decide (0<ss.count s)with
 | true=>
  have d1:decide ((1:Int)<(ss.count s:Int)+1)=true:=decide_eq_true (by have:=of_decide_eq_true hb;omega);have HB:=Lib.hid hb;clear hb;go_wp2_with fail;go_ret;exact⟨by rw [H.out.1,HB.out];rfl,HE.out⟩
 | false=>
  have d1:decide ((1:Int)<(ss.count s:Int)+1)=false:=decide_eq_false (by have:=of_decide_eq_false hb;omega);have HB:=Lib.hid hb;clear hb;go_wp2_with fail;go_ret;exact⟨by rw [H.out.1,HB.out];rfl,HE.out⟩
end Go.Proofs.YtnnpoodcdibpiaaGreatDoor
namespace Go.Proofs.YtnnpoodcdibpiaaGreatDoor
open Go.RowKit
set_option maxRecDepth 100000
set_option maxHeartbeats 8000000
def wrongPaths(a b:Int)(p:Pc)(ss:List Str):List Str:=if pieceB a b p then ss++[p.path]else ss
def WrongPost(w:World)(B:Nat)(a b:Int)(p:Pc)(ss:List Str)(e:Ending)(w':World):Prop:=
 e=.returned (.bool (!pieceB a b p || ss.contains p.path))/\Seen w' B (wrongPaths a b p ss)/\Mod (fun k=>k=B) w w'
theorem pieceB_no{a b:Int}{p:Pc}(h:¬(a<=p.fr/\p.fr<=b/\1<=p.sz/\p.sz<=1048576)):pieceB a b p=false:=by unfold pieceB;rw [decide_eq_false h,Bool.false_and]
theorem pWrong(w:World)(B tb pb:Nat)(p:Pc)(a b:Int)(ss:List Str)(hp:p.Ok)(ha:I64 a)(hb:I64 b)(hn:ss.length<=1048576)(h:Seen w B ss)(ht:Blk w tb 195 #[.func (.func 94) #[] #[]])(hq:Blk w pb 194 #[.map (some B)]):
  Calls Tryz.prog 95 #[.agg (pcV p).toArray,.int .i64 a,.int .i64 b,.pointer (some ⟨tb,0,none⟩),.pointer (some ⟨pb,0,none⟩)] w (WrongPost w B a b p ss):=by
 obtain⟨⟨k1,k2⟩,⟨k3,k4⟩,k5⟩:=hp;obtain⟨a1,a2⟩:=ha;obtain⟨b1,b2⟩:=hb;have mA:Mod (fun k=>k=B) w (w.alloc (.cells (pcV p).toArray 88)):=(Mod.refl _ w).alloc _;have hS:=h.keep (S:=fun _=>False) ((Mod.refl _ w).alloc (.cells (pcV p).toArray 88)) (fun h=>h);have ht':=(ht.alloc (.cells (pcV p).toArray 88)).cell 0;have hq':=(hq.alloc (.cells (pcV p).toArray 88)).cell 0;have H:=Lib.hid (And.intro mA hS);clear mA hS h ht hq;unfold pcV at H ht' hq' ⊢;by_cases q0:p.fr<a
 ·have d0:decide (p.fr<a)=true:=decide_eq_true q0;have e1:pieceB a b p=false:=pieceB_no (by omega);have HE:=Lib.hid e1;clear e1;go_enter Tryz.func95,Tryz.ntmps95;go_wp2_with fail;go_ret;exact⟨by rw [HE.out];rfl,by unfold wrongPaths;rw [HE.out];exact H.out.2,H.out.1⟩
 have d0:decide (p.fr<a)=false:=decide_eq_false q0;by_cases q1:b<p.fr
 ·have d1:decide (b<p.fr)=true:=decide_eq_true q1;have e1:pieceB a b p=false:=pieceB_no (by omega);have HE:=Lib.hid e1;clear e1;go_enter Tryz.func95,Tryz.ntmps95;go_wp2_with fail;go_ret;exact⟨by rw [HE.out];rfl,by unfold wrongPaths;rw [HE.out];exact H.out.2,H.out.1⟩
 have d1:decide (b<p.fr)=false:=decide_eq_false q1;by_cases q2:p.sz<1
 ·have d2:decide (p.sz<1)=true:=decide_eq_true q2;have e1:pieceB a b p=false:=pieceB_no (by omega);have HE:=Lib.hid e1;clear e1;go_enter Tryz.func95,Tryz.ntmps95;go_wp2_with fail;go_ret;exact⟨by rw [HE.out];rfl,by unfold wrongPaths;rw [HE.out];exact H.out.2,H.out.1⟩
 have d2:decide (p.sz<1)=false:=decide_eq_false q2;by_cases q3:1048576<p.sz
 ·have d3:decide ((1048576:Int)<p.sz)=true:=decide_eq_true q3;have e1:pieceB a b p=false:=pieceB_no (by omega);have HE:=Lib.hid e1;clear e1;go_enter Tryz.func95,Tryz.ntmps95;go_wp2_with fail;go_ret;exact⟨by rw [HE.out];rfl,by unfold wrongPaths;rw [HE.out];exact H.out.2,H.out.1⟩
 have d3:decide ((1048576:Int)<p.sz)=false:=decide_eq_false q3;have hin:a<=p.fr/\p.fr<=b/\1<=p.sz/\p.sz<=1048576:=by omega
 cases hpb:pathB p.path with
 | false=>
  have e1:pieceB a b p=false:=by unfold pieceB;rw [hpb,Bool.and_false]
  have HE:=Lib.hid (And.intro e1 hpb);clear e1 hpb hin;go_enter Tryz.func95,Tryz.ntmps95;go_wp2_with fail;refine(pPath _ _ (by omega)).mono ?_;rintro e w1 ⟨rfl,rfl⟩;rw [HE.out.2];go_wp2_with fail;go_ret;exact⟨by rw [HE.out.1];rfl,by unfold wrongPaths;rw [HE.out.1];exact H.out.2,H.out.1⟩
 | true=>
  have e1:pieceB a b p=true:=by unfold pieceB;rw [hpb,decide_eq_true hin];rfl
  have HE:=Lib.hid (And.intro e1 hpb);clear e1 hpb hin;go_enter Tryz.func95,Tryz.ntmps95;go_wp2_with fail;refine(pPath _ _ (by omega)).mono ?_;rintro e w1 ⟨rfl,rfl⟩;rw [HE.out.2];go_wp2_with fail;refine(pTaken _ B ss p.path k5 hn H.out.2).mono ?_;rintro e w1 ⟨rfl,hS1,hM1⟩;have H1:=Lib.hid (And.intro hS1 (H.out.1.trans hM1));clear hS1 hM1;cases hc:ss.contains p.path with
  | true=>
   have HC:=Lib.hid hc;clear hc;go_wp2_with fail;go_ret;exact⟨by rw [HE.out.1,HC.out];rfl,by unfold wrongPaths;rw [HE.out.1];exact H1.out.1,H1.out.2⟩
  | false=>
   have HC:=Lib.hid hc;clear hc;go_wp2_with fail;go_ret;exact⟨by rw [HE.out.1,HC.out];rfl,by unfold wrongPaths;rw [HE.out.1];exact H1.out.1,H1.out.2⟩
def listed1B(l:Ls)(n:Nat):Bool:=nameB l.name&&sideB l.w&&sideB l.h&&decide (1<=l.bw)&&decide (l.bw<=1099511627776)&&decide ((1:Int)<=(n:Int))&&decide ((n:Int)<=1024)
theorem pRListed(w:World)(l:Ls)(A:Option Addr)(n c:Nat)(hok:l.Ok):Calls Tryz.prog 97 #[.agg (lsV l A n c).toArray] w fun e w'=>e=.returned (.bool (listed1B l n))/\Mod (fun _=>False) w w':=by
 obtain⟨k1,⟨k2,k3⟩,⟨k4,k5⟩,⟨k6,k7⟩,_,_⟩:=hok;have c0:∀w,Calls Tryz.prog 157 #[.string (strOf l.name)] w fun e w'=>e=.returned (.bool (nameB l.name))/\w=w':=fun w=>pName w _ (by omega);have c1:∀w,Calls Tryz.prog 158 #[.int .i64 l.w] w fun e w'=>e=.returned (.bool (sideB l.w))/\w=w':=fun w=>pSide w _ k2 k3;have c2:∀w,Calls Tryz.prog 158 #[.int .i64 l.h] w fun e w'=>e=.returned (.bool (sideB l.h))/\w=w':=fun w=>pSide w _ k4 k5;have hm:Mod (fun _=>False) w (w.alloc (.cells (lsV l A n c).toArray 91)):=(Mod.refl _ w).alloc _;have HM:=Lib.hid hm;clear hm;unfold listed1B;generalize nameB l.name=b0 at c0 ⊢;generalize sideB l.w=b1 at c1 ⊢;generalize sideB l.h=b2 at c2 ⊢;unfold lsV at HM ⊢;cases b0 with
 | false=>
  go_enter Tryz.func97,Tryz.ntmps97;go_wp2_with fail;refine(c0 _).mono ?_;rintro e w' ⟨rfl,rfl⟩;go_wp2_with fail;go_ret;exact⟨rfl,HM.out⟩
 | true=>
  cases b1 with
  | false=>
   go_enter Tryz.func97,Tryz.ntmps97;go_wp2_with fail;refine(c0 _).mono ?_;rintro e w' ⟨rfl,rfl⟩;go_wp2_with fail;refine(c1 _).mono ?_;rintro e w' ⟨rfl,rfl⟩;go_wp2_with fail;go_ret;exact⟨rfl,HM.out⟩
  | true=>
   cases b2 with
   | false=>
    go_enter Tryz.func97,Tryz.ntmps97;go_wp2_with fail;refine(c0 _).mono ?_;rintro e w' ⟨rfl,rfl⟩;go_wp2_with fail;refine(c1 _).mono ?_;rintro e w' ⟨rfl,rfl⟩;go_wp2_with fail;refine(c2 _).mono ?_;rintro e w' ⟨rfl,rfl⟩;go_wp2_with fail;go_ret;exact⟨rfl,HM.out⟩
   | true=>
    cases d3:decide (1<=l.bw)with
    | false=>
     go_enter Tryz.func97,Tryz.ntmps97;go_wp2_with fail;refine(c0 _).mono ?_;rintro e w' ⟨rfl,rfl⟩;go_wp2_with fail;refine(c1 _).mono ?_;rintro e w' ⟨rfl,rfl⟩;go_wp2_with fail;refine(c2 _).mono ?_;rintro e w' ⟨rfl,rfl⟩;go_wp2_with fail;go_ret;exact⟨rfl,HM.out⟩
    | true=>
     cases d4:decide (l.bw<=1099511627776)with
     | false=>
      go_enter Tryz.func97,Tryz.ntmps97;go_wp2_with fail;refine(c0 _).mono ?_;rintro e w' ⟨rfl,rfl⟩;go_wp2_with fail;refine(c1 _).mono ?_;rintro e w' ⟨rfl,rfl⟩;go_wp2_with fail;refine(c2 _).mono ?_;rintro e w' ⟨rfl,rfl⟩;go_wp2_with fail;go_ret;exact⟨rfl,HM.out⟩
     | true=>
      cases d5:decide ((1:Int)<=(n:Int))with
      | false=>
       go_enter Tryz.func97,Tryz.ntmps97;go_wp2_with fail;refine(c0 _).mono ?_;rintro e w' ⟨rfl,rfl⟩;go_wp2_with fail;refine(c1 _).mono ?_;rintro e w' ⟨rfl,rfl⟩;go_wp2_with fail;refine(c2 _).mono ?_;rintro e w' ⟨rfl,rfl⟩;go_wp2_with fail;go_ret;exact⟨rfl,HM.out⟩
      | true=>
       cases d6:decide ((n:Int)<=1024)with
       | false=>
        go_enter Tryz.func97,Tryz.ntmps97;go_wp2_with fail;refine(c0 _).mono ?_;rintro e w' ⟨rfl,rfl⟩;go_wp2_with fail;refine(c1 _).mono ?_;rintro e w' ⟨rfl,rfl⟩;go_wp2_with fail;refine(c2 _).mono ?_;rintro e w' ⟨rfl,rfl⟩;go_wp2_with fail;go_ret;exact⟨rfl,HM.out⟩
       | true=>
        go_enter Tryz.func97,Tryz.ntmps97;go_wp2_with fail;refine(c0 _).mono ?_;rintro e w' ⟨rfl,rfl⟩;go_wp2_with fail;refine(c1 _).mono ?_;rintro e w' ⟨rfl,rfl⟩;go_wp2_with fail;refine(c2 _).mono ?_;rintro e w' ⟨rfl,rfl⟩;go_wp2_with fail;go_ret;exact⟨rfl,HM.out⟩
theorem PcAt.cells{w:World}{b o:Nat}{p:Pc}(h:PcAt w b o p):∀(i:Nat) (v:Value),(pcV p)[i]?=some v->w.cell? ⟨b,o+i,none⟩=some v:=by
 intro i v hv
 match i,hv with
 | 0,hv=>rw [<-hv];exact h.1
 | 1,hv=>rw [<-hv];exact h.2.1
 | 2,hv=>rw [<-hv];exact h.2.2
end Go.Proofs.YtnnpoodcdibpiaaGreatDoor
