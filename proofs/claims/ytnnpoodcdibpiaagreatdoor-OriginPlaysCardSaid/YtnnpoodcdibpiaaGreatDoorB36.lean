/-
  Origin.New and Put.
-/
import Derived.Test.YtnnpoodcdibpiaaGreatDoorB28
import Derived.Shelf.SlIter.Nil
import Derived.Shelf.SortM.Plain
import Derived.Shelf.SortM.SortNone
import Derived.Ground.GgzProg
import Derived.Ground.SlgmProg
import Derived.Shelf.SlMaps.Clone
import Derived.Ground.SlmcProg
import Derived.Maps.OwnIn
namespace Go.Proofs.YtnnpoodcdibpiaaGreatDoor
open Go.RowKit
set_option maxRecDepth 100000
set_option maxHeartbeats 8000000
theorem step_mapUpd{H:Type}{P:Program}{ops:Array Oper}{o:Oper}{a:Act}{K:Act->World->Prop}{Q:Exit->Act->World->Prop}{E:Prop}(w:World)(hgd:o.guard=none)(m x v:Operand)(t:TypeId)(hop:o.op=Op.mapUpdate t m x v)
  (k e:TypeId)(Ky:Maps.Keyed P k)(ht:P.underlying t=some (.map k e))(R:Value->Option (DataW H × List MemPlace))(b n:Nat)(D:DataW H)
  (hm:a.eval m=.map (some b))(hown:w.ownsMap P k R b n D)(hn:n<maxLen)(key val:Value)(kl:Lit)(hx:a.eval x=key)(hv:a.eval v=val)(hkey:keyOf P k key=some kl)
  (d:DataW H)(ps:List MemPlace)(hval:R val=some (d,ps))
  (hK:∀w',w'.ownsMap P k R b (n+1) (D.put kl d)->w.grownBy w' (some b)->K (a.put o.dst undef) w'):
  if Region.wanted o (yielded ops a.tmps)=true then Oper.wp P o a w K Q else E:=by
 rw [if_pos (by simp [Region.wanted,hgd])];obtain⟨w',hrun,r1,r2⟩:=hown.update Ky ht hn hkey hval;unfold Oper.wp;simp [execOp,hop,hm,hx,hv,hrun,Result.andThen];exact hK w' r1 r2
theorem grown_mod{w w':World}{b:Nat}(h:w.grownBy w' (some b)):Mod (·=b) w w':=⟨h.os,h.tape,h.output,h.size,fun k hk hn=>h.block k hk (fun e=>hn (by injection e))⟩
theorem OrSt.put{w w':World}{ob b:Nat}{D:DataW Value}{L L':FsL}{p l:List UInt8}{v:Value}(h:OrSt w ob b D L)(hp:putL L p l=some L')(hs:FilesAt w' b (L.length+1) (D.put (.string p) (.held v)))(hg:w.grownBy w' (some b))(hv:BytesF w (fun _=>True) v l):
  OrSt w' ob b (D.put (.string p) (.held v)) L'/\Mod (·=b) w w':=by
 have hm:=grown_mod hg;have hne:ob≠b:=by
  rintro rfl;obtain⟨es,clock,hb,_⟩:=h.mp.map;have:=h.blk;unfold Blk at this;rw [hb]at this;cases this
 exact⟨⟨h.blk.keep hm hne,h.mp.put hp hs hm (hv.past hm (fun k hk i x=>by subst hk;exact map_no_u8 h.mp.map i x))⟩,hm⟩
theorem orNew(w:World):Calls Tryz.prog 8 #[] w fun e w'=>∃ob b,e=.returned (.pointer (some ⟨ob,0,none⟩))/\OrSt w' ob b (.map []) []/\w.heap.size<=ob/\w.heap.size<=b/\Mod (fun _=>False) w w':=by
 have hmm:=@run_makeMap Tryz.prog;have h1:=World.ownsMap_made w Tryz.prog 9 fR;have h2:FilesAt ((w.alloc (.map #[] 0)).alloc (.cells #[.map (some w.heap.size)] 104)) w.heap.size 0 (.map []):=World.ownsMap.alloc h1 _;have h3:=Blk.new (w.alloc (.map #[] 0)) 104 #[.map (some w.heap.size)];have HH:=Lib.hid (And.intro h2 (World.size_alloc w (.map #[] 0)▸h3));clear h1 h2 h3;go_enter Tryz.func8,Tryz.ntmps8;go_wp2_with fail;go_ret;exact⟨_,_,rfl,⟨HH.out.2,.empty HH.out.1⟩,by simp,Nat.le_refl _,((Mod.refl _ _).alloc _).alloc _⟩
theorem orPutNil(w:World)(p:List UInt8)(v:Value):Calls Tryz.prog 9 #[.pointer none,.string (strOf p),v] w fun e w'=>e=.returned (.int .i64 1)/\w=w':=by
 go_enter Tryz.func9,Tryz.ntmps9;go_wp2_with fail;go_ret;exact⟨rfl,rfl⟩
theorem orPut(w:World)(ob b:Nat)(D:DataW Value)(L:FsL)(ho:OrSt w ob b D L)(p:List UInt8)(hp:p.length<=9223372036854775807)(A:Option Addr)(n c:Nat)(l:List UInt8)(hin:BytesIn w A n c l):
  Calls Tryz.prog 9 #[.pointer (some ⟨ob,0,none⟩),.string (strOf p),.slice A n c] w fun e w'=>match putL L p l with
   | none=>e=.returned (.int .i64 193)/\w=w'
   | some L'=>e=.returned (.int .i64 0)/\(∃D',OrSt w' ob b D' L')/\Mod (·=b) w w':=by
 have x0:w.cell? ⟨ob,0,none⟩=some (.map (some b)):=ho.blk.cell 0;have bl:=ho.blk.lt;have hq:(binOp .eql 102 (.map (some b)) (.map none)).run Tryz.prog w=.ok (.bool false) w:=run_eql_map_nil w 102 9 22 (some b) Tryz.underlying102;have hfit:fitsB D p n=(putL L p l).isSome:=by rw [<-hin.1];exact fits_putL ho.mp p l
 have H0:=Lib.hid (And.intro ho (And.intro hin hfit));clear ho hin hfit;cases hpl:putL L p l with
 | none=>
  have hf:fitsB D p n=false:=by rw [H0.out.2.2,hpl];rfl
  go_enter Tryz.func9,Tryz.ntmps9;go_wp2_with fail;refine(orFits w b _ D H0.out.1.mp.map p hp A n c).mono ?_;rintro e w1 ⟨rfl,rfl⟩;rw [hf];go_wp2_with fail;go_ret;exact⟨rfl,rfl⟩
 | some L'=>
  have hf:fitsB D p n=true:=by rw [H0.out.2.2,hpl];rfl
  have hps:=putL_some hpl;have HP:=Lib.hid (And.intro hpl hps);clear hps hpl;go_enter Tryz.func9,Tryz.ntmps9;go_wp2_with fail;refine(orFits w b _ D H0.out.1.mp.map p hp A n c).mono ?_;rintro e w1 ⟨rfl,rfl⟩;rw [hf];clear hf;go_upto_region 7 with(fail)
  refine wp_region_planS [6,7] [0,1,2,3,4] [5,0,1,2,3,4,6,7] (fun w'=>Blk w' ob 104 #[.map (some b)]) (by kernel_rfl) (by kernel_rfl) (fun _ _ _ d _ h=>by cases d<;>exact h) H0.out.1.blk ?_;refine planS_still rfl rfl (fun K hK=>?_);go_simp;refine hK _ ?_;clear hK K;refine planS_pure (v:=.pointer (some ⟨ob,0,none⟩)) rfl rfl rfl (fun w' hS=>?_) ?_
  ·go_simp
  iterate 2
   refine planS_pure (v:=.pointer (some ⟨ob,0,none⟩)) rfl rfl rfl (fun w' hS=>?_) ?_
   ·go_simp
  refine planS_pure (v:=.map (some b)) rfl rfl rfl (fun w' hS=>?_) ?_
  ·have c0:w'.cell? ⟨ob,0,none⟩=some (.map (some b)):=Blk.cell hS 0;go_simp
  refine planS_pure (v:=.string (strOf p)) rfl rfl rfl (fun w' hS=>?_) ?_
  ·go_simp
  refine planS_loud rfl rfl (fun K hK=>?_);go_simp;refine(bClone w.drew A n c l (H0.out.2.1.quiet ((Mod.refl _ w).drew)) (by have:=HP.out.2.2.2.2.1;have:=H0.out.2.1.1;omega)).mono ?_;rintro e w1 ⟨u,rfl,hu,hm⟩;dsimp only [];have hst:=H0.out.1.quiet ((Mod.refl (fun _=>False) w).drew.trans hm);have H1:=Lib.hid (And.intro hst (And.intro hu ((Mod.refl (fun _=>False) w).drew.trans hm)));clear hst hu hm;refine hK _ _ H1.out.1.blk ?_;clear hK K;refine planS_loud rfl rfl (fun K hK=>?_);refine step_mapUpd _ rfl (.tmp 29) (.tmp 30) (.tmp 32) 102 rfl 9 22 (Maps.string_keyed Tryz.underlying9) Tryz.underlying102 fR b L.length D rfl H1.out.1.mp.map (by have:=HP.out.2.2.2.2.2.1;unfold maxLen;omega) _ _ (.string p) rfl rfl (key_str p hp) (.held u) [] rfl ?_;intro w2 hs hg;have h2:=H1.out.1.put HP.out.1 hs hg (BytesF.of_own H1.out.2.1 (fun _ _=>trivial));have H2:=Lib.hid (And.intro h2.1 ((H1.out.2.2.mono (fun _ h=>h.elim)).trans h2.2));clear hs hg h2;refine hK _ _ H2.out.1.blk ?_;clear hK K;refine planS_done ?_;go_wp2_with fail;go_ret;exact⟨rfl,⟨_,H2.out.1⟩,H2.out.2⟩
theorem MpAt.past{w w':World}{S:Nat->Prop}{b:Nat}{D:DataW Value}{L:FsL}(h:MpAt w b D L)(hm:Mod S w w')(hb:¬S b)(hS:∀k,S k->∀i x,w.cell? ⟨k,i,none⟩≠some (.int .u8 x)):MpAt w' b D L:=by
 obtain⟨es,clock,hh,h2⟩:=h.map;exact⟨⟨es,clock,(hm.block b (Array.getElem?_eq_some_iff.1 hh).1 hb).trans hh,h2⟩,h.files.past hm hS,h.size,h.nodup,h.few⟩
theorem putsL_snoc(L:FsL)(xs:FsL)(p l:List UInt8):putsL L (xs++[(p,l)])=(putsL L xs).bind fun L'=>putL L' p l:=by
 induction xs generalizing L with
 | nil=>simp [putsL]
 | cons x r ih=>
  obtain⟨q,y⟩:=x;show(putL L q y).bind (fun L'=>putsL L' (r++[(p,l)]))=((putL L q y).bind fun L'=>putsL L' r).bind fun L'=>putL L' p l;cases putL L q y with
  | none=>rfl
  | some L'=>exact ih L'
theorem putsL_none{L:FsL}{xs ys:FsL}(h:putsL L xs=none):putsL L (xs++ys)=none:=by
 induction xs generalizing L with
 | nil=>simp [putsL]at h
 | cons x r ih=>
  obtain⟨q,y⟩:=x;show(putL L q y).bind (fun L'=>putsL L' (r++ys))=none;have h2:(putL L q y).bind (fun L'=>putsL L' r)=none:=h;cases hq:putL L q y with
  | none=>rfl
  | some L'=>
   rw [hq]at h2;exact ih h2
theorem orFn(w:World)(fb b:Nat)(D:DataW Value)(L:FsL)(hfb:Blk w fb 102 #[.map (some b)])(hmp:MpAt w b D L)(p:List UInt8)(hp:p.length<=9223372036854775807)(A:Option Addr)(c:Nat)(l:List UInt8)(hin:BytesF w (fun _=>True) (.slice A l.length c) l):
  Calls Tryz.prog 46 #[.agg #[.string (strOf p),.slice A l.length c],.pointer (some ⟨fb,0,none⟩)] w fun e w'=>match putL L p l with
   | none=>e=.returned (.bool false)/\Mod (fun _=>False) w w'
   | some L'=>e=.returned (.bool true)/\(∃D',MpAt w' b D' L')/\Mod (·=b) w w':=by
 have hb:=Blk.new w 131 #[.string (strOf p),.slice A l.length c];have hm:=(Mod.refl (fun _=>False) w).alloc (.cells #[.string (strOf p),.slice A l.length c] 131);have hf1:=hfb.keep hm (fun h=>h);have hmp1:=hmp.quiet hm;have x0:(w.alloc (.cells #[.string (strOf p),.slice A l.length c] 131)).cell? ⟨fb,0,none⟩=some (.map (some b)):=hf1.cell 0;have bl:=hf1.lt;have hfit:=fits_putL hmp p l;have H0:=Lib.hid (And.intro hmp1 (And.intro hfit (And.intro hm (And.intro hin hf1))));clear hmp1 hfit hm hf1 hfb hmp hin;cases hpl:putL L p l with
 | none=>
  have hf:fitsB D p l.length=false:=by rw [H0.out.2.1,hpl];rfl
  go_enter Tryz.func46,Tryz.ntmps46;go_wp2_with fail;refine(orFits _ b _ D H0.out.1.map p hp A l.length c).mono ?_;rintro e w1 ⟨rfl,rfl⟩;rw [hf];go_wp2_with fail;go_ret;exact⟨rfl,H0.out.2.2.1⟩
 | some L'=>
  have hf:fitsB D p l.length=true:=by rw [H0.out.2.1,hpl];rfl
  have HP:=Lib.hid (And.intro hpl (putL_some hpl));clear hpl;go_enter Tryz.func46,Tryz.ntmps46;go_wp2_with fail;refine(orFits _ b _ D H0.out.1.map p hp A l.length c).mono ?_;rintro e w1 ⟨rfl,rfl⟩;rw [hf];clear hf;go_wp2_with (at_mapUpdate;refine wpList_mapUpdate_own _ rfl _ _ _ 102 rfl 9 22 (Maps.string_keyed Tryz.underlying9) Tryz.underlying102 fR b L.length D rfl H0.out.1.map (by have:=HP.out.2.2.2.2.2.1;unfold maxLen;omega) _ _ (.string p) rfl rfl (key_str p hp) (.held (.slice A l.length c)) [] rfl ?_;intro w2 hs hg;have HS:=Lib.hid (And.intro hs hg);clear hs hg)
  go_ret;have hm2:=grown_mod HS.out.2;exact⟨rfl,⟨_,H0.out.1.put HP.out.1 HS.out.1 hm2 (BytesF.past (RowIn.quiet H0.out.2.2.2.1 H0.out.2.2.1) hm2 (fun k hk i x=>by subst hk;exact map_no_u8 H0.out.1.map i x))⟩,(H0.out.2.2.1.mono (fun _ h=>h.elim)).trans hm2⟩
end Go.Proofs.YtnnpoodcdibpiaaGreatDoor
namespace Go.Proofs
open Go.RowKit Go.Maps Go.Sort Go.Shelf
set_option maxRecDepth 100000
set_option maxHeartbeats 8000000
def Tryz.keysF_ren:Go.Shelf.Ren:=⟨fun|7=>37|10=>68|n=>n,fun|23=>102|26=>9|3=>22|28=>115|0=>0|27=>114|33=>117|4=>4|n=>n,fun|n=>n⟩
theorem Tryz.keysF:Go.Proofs.SlLaysZ.n7 Tryz.prog Tryz.keysF_ren:={
 mixed:=by kernel_rfl
 f7:=⟨Tryz.f37.name,by decide,Tryz.func37.trans (congrArg some (by kernel_rfl))⟩
 f10:=⟨Tryz.f68.name,by decide,Tryz.func68.trans (congrArg some (by kernel_rfl))⟩
 t0:=Tryz.underlying0
 a0:=Tryz.isAgg0
 z0:=Tryz.sizeOf0
 v0:=Tryz.zeroValue0
 t4:=Tryz.underlying4
 a4:=Tryz.isAgg4
 z4:=Tryz.sizeOf4
 v4:=Tryz.zeroValue4
 t23:=Tryz.underlying102
 a23:=Tryz.isAgg102
 z23:=Tryz.sizeOf102
 v23:=Tryz.zeroValue102
 t26:=Tryz.underlying9
 a26:=Tryz.isAgg9
 z26:=Tryz.sizeOf9
 v26:=Tryz.zeroValue9
 t27:=Tryz.underlying114
 a27:=Tryz.isAgg114
 z27:=Tryz.sizeOf114
 v27:=Tryz.zeroValue114
 t28:=Tryz.underlying115
 a28:=Tryz.isAgg115
 z28:=Tryz.sizeOf115
 v28:=Tryz.zeroValue115
 t33:=Tryz.underlying117
 a33:=Tryz.isAgg117
 z33:=Tryz.sizeOf117
 v33:=Tryz.zeroValue117 }
def Tryz.sortedF_ren:Go.Shelf.Ren:=⟨fun|6=>36|8=>66|9=>67|11=>115|13=>117|12=>116|23=>173|24=>174|14=>164|15=>165|16=>166|17=>167|18=>168|19=>169|20=>170|21=>171|22=>172|25=>235|26=>236|27=>237|28=>238|29=>239|30=>240|31=>298|n=>n,fun|26=>9|28=>115|24=>29|0=>0|3=>3|37=>211|48=>260|50=>204|4=>4|40=>273|39=>272|45=>278|5=>5|9=>9|51=>346|55=>350|57=>417|58=>418|33=>117|n=>n,fun|n=>n⟩
theorem Tryz.sortedF:Go.Proofs.SlLaysZ.n6 Tryz.prog Tryz.sortedF_ren:={
 mixed:=by kernel_rfl
 f6:=⟨Tryz.f36.name,by decide,Tryz.func36.trans (congrArg some (by kernel_rfl))⟩
 f8:=⟨Tryz.f66.name,by decide,Tryz.func66.trans (congrArg some (by kernel_rfl))⟩
 f11:=⟨Tryz.f115.name,by decide,Tryz.func115.trans (congrArg some (by kernel_rfl))⟩
 t0:=Tryz.underlying0
 a0:=Tryz.isAgg0
 z0:=Tryz.sizeOf0
 v0:=Tryz.zeroValue0
 t24:=Tryz.underlying29
 a24:=Tryz.isAgg29
 z24:=Tryz.sizeOf29
 v24:=Tryz.zeroValue29
 t26:=Tryz.underlying9
 a26:=Tryz.isAgg9
 z26:=Tryz.sizeOf9
 v26:=Tryz.zeroValue9
 t28:=Tryz.underlying115
 a28:=Tryz.isAgg115
 z28:=Tryz.sizeOf115
 v28:=Tryz.zeroValue115
 i26:=by kernel_rfl }
def Tryz.sortF_ren:Go.Shelf.Ren:=⟨fun|6=>67|8=>117|9=>116|19=>173|20=>174|21=>164|22=>165|23=>166|24=>167|25=>168|26=>169|27=>170|28=>171|29=>172|36=>235|31=>236|32=>237|37=>238|38=>239|39=>240|41=>298|n=>n,fun|27=>29|29=>9|3=>3|32=>211|26=>29|0=>0|44=>260|46=>204|4=>4|36=>273|35=>272|41=>278|5=>5|9=>9|53=>346|57=>350|63=>417|64=>418|n=>n,fun|n=>n⟩
theorem Tryz.sortF:Go.Proofs.SlLaysM.n6 Tryz.prog Tryz.sortF_ren:={
 mixed:=by kernel_rfl
 f6:=⟨Tryz.f67.name,by decide,Tryz.func67.trans (congrArg some (by kernel_rfl))⟩
 f8:=Tryz.func117.trans (congrArg some (by kernel_rfl))
 f9:=⟨Tryz.f116.name,by decide,Tryz.func116.trans (congrArg some (by kernel_rfl))⟩
 f19:=Tryz.func173.trans (congrArg some (by kernel_rfl))
 f20:=Tryz.func174.trans (congrArg some (by kernel_rfl))
 f21:=⟨Tryz.f164.name,by decide,Tryz.func164.trans (congrArg some (by kernel_rfl))⟩
 f22:=⟨Tryz.f165.name,by decide,Tryz.func165.trans (congrArg some (by kernel_rfl))⟩
 f23:=⟨Tryz.f166.name,by decide,Tryz.func166.trans (congrArg some (by kernel_rfl))⟩
 f24:=⟨Tryz.f167.name,by decide,Tryz.func167.trans (congrArg some (by kernel_rfl))⟩
 f25:=⟨Tryz.f168.name,by decide,Tryz.func168.trans (congrArg some (by kernel_rfl))⟩
 f26:=⟨Tryz.f169.name,by decide,Tryz.func169.trans (congrArg some (by kernel_rfl))⟩
 f27:=⟨Tryz.f170.name,by decide,Tryz.func170.trans (congrArg some (by kernel_rfl))⟩
 f28:=⟨Tryz.f171.name,by decide,Tryz.func171.trans (congrArg some (by kernel_rfl))⟩
 f29:=⟨Tryz.f172.name,by decide,Tryz.func172.trans (congrArg some (by kernel_rfl))⟩
 f31:=Tryz.func236.trans (congrArg some (by kernel_rfl))
 f32:=Tryz.func237.trans (congrArg some (by kernel_rfl))
 f36:=⟨Tryz.f235.name,by decide,Tryz.func235.trans (congrArg some (by kernel_rfl))⟩
 f37:=⟨Tryz.f238.name,by decide,Tryz.func238.trans (congrArg some (by kernel_rfl))⟩
 f38:=⟨Tryz.f239.name,by decide,Tryz.func239.trans (congrArg some (by kernel_rfl))⟩
 f39:=⟨Tryz.f240.name,by decide,Tryz.func240.trans (congrArg some (by kernel_rfl))⟩
 f41:=⟨Tryz.f298.name,by decide,Tryz.func298.trans (congrArg some (by kernel_rfl))⟩
 t0:=Tryz.underlying0
 a0:=Tryz.isAgg0
 z0:=Tryz.sizeOf0
 v0:=Tryz.zeroValue0
 t3:=Tryz.underlying3
 a3:=Tryz.isAgg3
 z3:=Tryz.sizeOf3
 v3:=Tryz.zeroValue3
 t4:=Tryz.underlying4
 a4:=Tryz.isAgg4
 z4:=Tryz.sizeOf4
 v4:=Tryz.zeroValue4
 t5:=Tryz.underlying5
 a5:=Tryz.isAgg5
 z5:=Tryz.sizeOf5
 v5:=Tryz.zeroValue5
 t9:=Tryz.underlying9
 a9:=Tryz.isAgg9
 z9:=Tryz.sizeOf9
 v9:=Tryz.zeroValue9
 t26:=Tryz.underlying29
 a26:=Tryz.isAgg29
 z26:=Tryz.sizeOf29
 v26:=Tryz.zeroValue29
 t27:=Tryz.underlying29
 a27:=Tryz.isAgg29
 z27:=Tryz.sizeOf29
 v27:=Tryz.zeroValue29
 t29:=Tryz.underlying9
 a29:=Tryz.isAgg9
 z29:=Tryz.sizeOf9
 v29:=Tryz.zeroValue9
 t32:=Tryz.underlying211
 a32:=Tryz.isAgg211
 z32:=Tryz.sizeOf211
 v32:=Tryz.zeroValue211
 t35:=Tryz.underlying272
 a35:=Tryz.isAgg272
 z35:=Tryz.sizeOf272
 v35:=Tryz.zeroValue272
 t36:=Tryz.underlying273
 a36:=Tryz.isAgg273
 z36:=Tryz.sizeOf273
 v36:=Tryz.zeroValue273
 t41:=Tryz.underlying278
 a41:=Tryz.isAgg278
 z41:=Tryz.sizeOf278
 v41:=Tryz.zeroValue278
 t44:=Tryz.underlying260
 a44:=Tryz.isAgg260
 z44:=Tryz.sizeOf260
 v44:=Tryz.zeroValue260
 t46:=Tryz.underlying204
 a46:=Tryz.isAgg204
 z46:=Tryz.sizeOf204
 v46:=Tryz.zeroValue204
 t53:=Tryz.underlying346
 a53:=Tryz.isAgg346
 z53:=Tryz.sizeOf346
 v53:=Tryz.zeroValue346
 t57:=Tryz.underlying350
 a57:=Tryz.isAgg350
 z57:=Tryz.sizeOf350
 v57:=Tryz.zeroValue350
 t63:=Tryz.underlying417
 a63:=Tryz.isAgg417
 z63:=Tryz.sizeOf417
 v63:=Tryz.zeroValue417
 t64:=Tryz.underlying418
 a64:=Tryz.isAgg418
 z64:=Tryz.sizeOf418
 v64:=Tryz.zeroValue418 }
def Tryz.laysClone_ren:Go.Shelf.Ren:=⟨fun|5=>45|7=>77|n=>n,fun|23=>102|25=>9|3=>22|4=>4|20=>20|n=>n,fun|n=>n⟩
theorem Tryz.laysClone:Go.Proofs.SlLaysW.n5 Tryz.prog Tryz.laysClone_ren:={
 mixed:=by kernel_rfl
 f5:=⟨Tryz.f45.name,by decide,Tryz.func45.trans (congrArg some (by kernel_rfl))⟩
 f7:=Tryz.func77.trans (congrArg some (by kernel_rfl))
 t4:=Tryz.underlying4
 a4:=Tryz.isAgg4
 z4:=Tryz.sizeOf4
 v4:=Tryz.zeroValue4
 t20:=Tryz.underlying20
 a20:=Tryz.isAgg20
 z20:=Tryz.sizeOf20
 v20:=Tryz.zeroValue20
 t23:=Tryz.underlying102
 a23:=Tryz.isAgg102
 z23:=Tryz.sizeOf102
 v23:=Tryz.zeroValue102 }
theorem Tryz.sortsF(m:Nat):AnyZ.SortsIn Tryz.prog Tryz.sortedF_ren Fence.wide m:=
 ⟨fun blk off cap ss W hH hblk hsz=>callsIn_wide.2 (AnyM.slices_Sort_string Tryz.sortF blk off cap ss W hH hblk hsz),
  fun p cap W=>callsIn_wide.2 (AnyM.slices_Sort_string_none Tryz.sortF p cap W)⟩
theorem Tryz.maps_Keys_F(mb:Option Nat)(W:World):CallsIn Fence.wide 5 Tryz.prog 37 #[.map mb] W fun e w'=>e=.returned (.func (.func 68) #[] #[.pointer (some ⟨W.heap.size,0,none⟩)])/\w'=W.alloc (.cells #[.map mb] 102):=
 AnyZ.keys_in Tryz.keysF Fence.wide 5 trivial rfl mb W
theorem Tryz.slices_Sorted_keys_F{H:Type}(b nn:Nat)(D0:DataW H)(R:Value->Option (DataW H × List MemPlace))(w:World)(hown:w.ownsMap Tryz.prog 9 R b nn D0)(hmax:Maps.size D0<=maxLen)(hbytes:Maps.size D0*16<=140737488355328):
  CallsIn Fence.wide 5 Tryz.prog 36 #[.func (.func 68) #[] #[.pointer (some ⟨w.heap.size,0,none⟩)]] (w.alloc (.cells #[.map (some b)] 102)) fun e w'=>∃(v:Value) (ss:List (List UInt8)),e=.returned v/\ss.Perm (strKeys D0) /\
   w'.ownsRow (w.alloc (.cells #[.map (some b)] 102)).heap.size 9 1 v ss.length ((ss.mergeSort (fun x y=>decide (x<=y))).map encStr)/\(v=.slice none 0 0 ↔ ss=[])/\Below (w.alloc (.cells #[.map (some b)] 102)).heap.size (w.alloc (.cells #[.map (some b)] 102)) w':=by
 have hbl:=hown.lt
 have hseq:SeqGives Fence.wide 2 Tryz.prog 68 #[.pointer (some ⟨w.heap.size,0,none⟩)] encStr (fun ss=>ss.Perm (strKeys D0)) (Maps.size D0) (w.alloc (.cells #[.map (some b)] 102)):=
  AnyZ.keys_gives (ρ:=Tryz.keysF_ren) { Tryz.keysF with } Fence.wide _ trivial rfl (by omega) w.heap.size b nn D0 _ (by simp) (by simp) (by
   obtain⟨es,clock,hb,Ft,hs,hD⟩:=hown;exact⟨es,clock,(Below.heap_alloc _ _ b hbl).trans hb,Ft,hs,hD⟩)
 exact AnyZ.sorted_in Tryz.sortedF Fence.wide 5 trivial trivial trivial trivial rfl (by omega) (Tryz.sortsF _) (enters_of Tryz.func67 (by kernel_rfl) rfl) 68 #[.pointer (some ⟨w.heap.size,0,none⟩)] trivial (enters_of Tryz.func68 (by kernel_rfl) rfl) _ _ hmax hbytes _ hseq
theorem Tryz.slices_Sorted_keys_nil_F(w:World):
  CallsIn Fence.wide 5 Tryz.prog 36 #[.func (.func 68) #[] #[.pointer (some ⟨w.heap.size,0,none⟩)]] (w.alloc (.cells #[.map none] 102)) fun e w'=>∃(v:Value) (ss:List (List UInt8)),e=.returned v/\ss=[] /\
   w'.ownsRow (w.alloc (.cells #[.map none] 102)).heap.size 9 1 v ss.length ((ss.mergeSort (fun x y=>decide (x<=y))).map encStr)/\(v=.slice none 0 0 ↔ ss=[])/\Below (w.alloc (.cells #[.map none] 102)).heap.size (w.alloc (.cells #[.map none] 102)) w':=by
 have hseq:SeqGives Fence.wide 2 Tryz.prog 68 #[.pointer (some ⟨w.heap.size,0,none⟩)] encStr (fun ss:List (List UInt8)=>ss=[]) 0 (w.alloc (.cells #[.map none] 102)):=
  AnyZ.keys_gives_nil (ρ:=Tryz.keysF_ren) { Tryz.keysF with } Fence.wide _ trivial rfl w.heap.size _ (by simp) (by simp)
 exact AnyZ.sorted_in Tryz.sortedF Fence.wide 5 trivial trivial trivial trivial rfl (by omega) (Tryz.sortsF _) (enters_of Tryz.func67 (by kernel_rfl) rfl) 68 #[.pointer (some ⟨w.heap.size,0,none⟩)] trivial (enters_of Tryz.func68 (by kernel_rfl) rfl) _ 0 (Nat.zero_le _) (by omega) _ hseq
end Go.Proofs
namespace Go.Proofs.YtnnpoodcdibpiaaGreatDoor
open Go.RowKit
set_option maxRecDepth 100000
set_option maxHeartbeats 8000000
theorem wpListIn_app_one{F:Fence}{nF:Nat}{P:Program}{ops:Array Oper}{rest:List Oper}{o:Oper}{a:Act}{Q:Exit->Act->World->Prop}(w:World)(hgd:o.guard=none)(s x:Operand)(t e:TypeId)(ho:o.op=.call { callee:=.builtin .append,args:=#[s,x],argTypes:=#[t,t] })
  (ht:P.underlying t=some (.slice e))(z:Value)(size bytes:Nat)(hi:(P.info? e).map (fun i=>(i.zero,i.size,i.bytes))=some (some z,size,bytes))(hzs:z.cells.size=size)(hsz:0<size)
  (B:Nat)(v:Value)(n:Nat)(xs cells:List Value)(hcl:cells.length=size)(h1:∀u∈cells,u.oneCell'=true)(gq:Nat)(hgq:w.heap.size=gq)(hs:a.eval s=v)(hx:a.eval x=.slice (some ⟨gq,0,none⟩) 1 1)
  (hown:w.ownsRow B e size v n xs)(hB:B<=w.heap.size)(h63:n+1<=maxLen)(hby:(n+1)*bytes<=140737488355328)
  (h:∀v' w',w'.ownsRow B e size v' (n+1) (xs++cells)->Mod (fun j=>v.ownBlock=some j) w w'->(∀(W:World) (S:Nat->Prop),W.heap.size<=B->Mod S W w->Mod S W w')->(∀g,v'.ownBlock=some g->v.ownBlock=some g\/w.heap.size<=g)->wpListIn F nF P ops Q rest (a.put o.dst v') w'):
  wpListIn F nF P ops Q (o :: rest) a (w.alloc (.cells cells.toArray e)):=by
 obtain⟨i0,hi0,hz0,hz1,hz2⟩:=info_parts hi;subst hcl;subst hgq;have hsrc:=Src.new w e cells;refine wpListIn_append_own_at _ hgd s x t ho B e i0 z cells.length bytes ht hi0 hz0 hz1 hz2 hzs hsz v n xs hs (own_mod hown ((Mod.refl (fun _=>False) w).alloc _) (fun _ _ h=>h)) ⟨w.heap.size,0,none⟩ 1 1 cells hx (by omega) (hsrc.2.2 _ rfl) h1 h63 hby (by simp;omega) ?_;intro v' w' g1 g2 _ g3;obtain⟨m1,m2,m3⟩:=own_one w hown g2 g3;exact h v' w' g1 m1 m2 m3
end Go.Proofs.YtnnpoodcdibpiaaGreatDoor
