import Derived.Test.YtnnpoodcdibpiaaGreatDoorBOrY
import Derived.Deep.QuietTactic
import Derived.BigQuiet
namespace Go.Proofs.YtnnpoodcdibpiaaGreatDoor
open Go.RowKit
set_option maxRecDepth 100000
set_option maxHeartbeats 8000000
def SaRel(w1:World)(n:Nat)(v6 _ _:Value)(wr:World):Prop:=∃i:Nat,i<=n/\v6=.int .i64 (i:Int)/\Mod (fun _=>False) w1 wr
theorem lSame19(w:World)(ob b:Nat)(D:DataW Value)(L:FsL)(mb hi:Nat)(R:FsL)(ho:OrSt w ob b D L)(hr:RefAt w mb hi R)(hs:SameS L R)(hp:∀x∈R,x.1.length<=400):
  Calls Tryz.prog 21 #[.pointer (some ⟨ob,0,none⟩),.pointer (some ⟨mb,0,none⟩)] w fun e w'=>e=.returned (.bool true)/\Mod (fun _=>False) w w':=by
 have H0:=Lib.hid (And.intro ho (And.intro hr (And.intro hs hp)));clear ho hr hs hp;have hfew:=H0.out.2.2.1.few;go_enter Tryz.func21,Tryz.ntmps21;go_wp2_with fail;refine(orPaths w ob b D L H0.out.1).mono ?_;rw [H0.out.2.2.1.paths];rintro e w1 ⟨v,rfl,hv,hm1⟩;have hlen:(R.map Prod.fst).length=R.length:=List.length_map ..;obtain⟨A5,c5,rfl,hjunk⟩:=(hv.in_ (F:=fun _=>True) (fun _ _=>trivial)).shape;have hin:=hv.in_ (F:=fun _=>True) (fun _ _=>trivial);rw [hlen]at hin ⊢;clear hjunk;have hr1:=H0.out.2.1.quiet hm1;obtain⟨A0,c0,hb,hc0,hls⟩:=hr1.ex;have x0:w1.cell? ⟨mb,0,none⟩=some (.slice A0 R.length c0):=hb.cell 0;have bl:=hb.lt;have H1:=Lib.hid (And.intro hin (And.intro hm1 (And.intro hr1 (And.intro (H0.out.1.quiet hm1) (And.intro hb hls)))));clear hin hm1 hr1 hv hls hb hlen;go_wp2_with fail;go_loopw [6,7,8] (SaRel w1 R.length) (fun i _ _ _=>R.length-(intOf i).toNat)
 case atStart=>exact⟨0,Nat.zero_le _,rfl,Mod.refl _ _⟩
 case round=>
  obtain⟨i,hi',rfl,hM⟩:=hrel;rename World=>wr
  clear x0 bl;by_cases hlt:i<R.length
  ·have d1:decide ((i:Int)<(R.length:Int))=true:=decide_eq_true (by omega);obtain⟨⟨p,l⟩,hg⟩:∃x,R[i]?=some x:=⟨_,List.getElem?_eq_getElem hlt⟩
   have hg2:(R.map Prod.fst)[i]?=some p:=by rw [List.getElem?_map,hg];rfl
   have hpl:p.length<=400:=H0.out.2.2.2 _ (List.mem_of_getElem? hg);have hlk:L.lookup p=some l:=by rw [<-H0.out.2.2.1.look,lookup_mem_iff H0.out.2.2.1.nodupR];exact List.mem_of_getElem? hg
   obtain⟨b5,o5,cp5,cc5,hA5,_,hb5,_,hc5,_,hx5⟩:=(H1.out.1.turn hM (fun _ _ _ h=>h) (fun _ h _=>h) (fun _ _ _ h=>h)).at_ hg2 (by decide);injection hA5 with hA5 hle hc5';clear hle;subst hA5 hc5';have k5:wr.cell? ⟨b5,o5+i,none⟩=some (.string (strOf p)):=by
    have:=hx5 0 (.string (strOf p)) (by rw [hc5];rfl);rwa [Nat.mul_one,Nat.add_zero]at this
   have kk:∀w2,Mod (fun _=>False) wr w2->w2.cell? ⟨b5,o5+i,none⟩=some (.string (strOf p)):=fun w2 hm2=>(World.cell?_of_block (hm2.block _ hb5 (fun h=>h))).trans k5;have HK:=Lib.hid (And.intro hM (And.intro hg (And.intro hg2 (And.intro hlk kk))));clear kk hM hg hg2 hlk hx5 hc5;go_wp2_with fail;refine(orGet wr ob b _ D _ (H1.out.2.2.2.1.quiet HK.out.1).org p (by omega)).mono ?_;rw [HK.out.2.2.2.1];rintro e w2 ⟨hm2,u,rfl,hu⟩;obtain⟨Au,cu,rfl⟩:=own_shape hu;have hM2:=HK.out.1.trans hm2;obtain⟨A9,c9,hb9,hc9,hls9⟩:=(H1.out.2.2.1.quiet hM2).ex;have x0:w2.cell? ⟨mb,0,none⟩=some (.slice A9 R.length c9):=hb9.cell 0;have bl:=hb9.lt;obtain⟨rb,ro,B,d,hA9,y0,y1,hbF⟩:=RefAt.at_ hls9 HK.out.2.1;subst hA9
   have k5:w2.cell? ⟨b5,o5+i,none⟩=some (.string (strOf p)):=
    HK.out.2.2.2.2 w2 hm2
   have s1:∀n,(convert 22 9 (.slice Au l.length cu)).run Tryz.prog (w2.drewN n)=.ok (.string (strOf l)) (w2.drewN n):=fun n=>str_bytes (hu.quiet ((Mod.refl _ w2).drewN n))
   have s2:∀n,(convert 22 9 (.slice B l.length d)).run Tryz.prog (w2.drewN n)=.ok (.string (strOf l)) (w2.drewN n):=fun n=>str_src _ B _ d l rfl (by
    obtain⟨_,_,e,_,h⟩:=hbF.in_;injection e with e1 _ _;subst e1;exact(h.quiet ((Mod.refl _ w2).drewN n)).2.2.1)
   have H2:=Lib.hid hM2;clear hm2 hu hM2 hb9 hls9 hbF;go_upto_region 8 with(fail)
   have hI:(i:Int)<(R.length:Int):=by omega
   go_quiet (fail)
   have hm3:=H2.out.drewN nq;clear s1 s2 y0 y1 x0 k5;generalize w2.drewN nq=w3 at hm3 ⊢;have H3:=Lib.hid hm3;clear hm3;go_wp2_with fail;go_roundw
   case rel=>exact⟨i+1,by omega,by go_num,H3.out⟩
   case measure=>simp [intOf];omega
  ·obtain rfl:i=R.length:=by omega
   have d1:decide ((R.length:Int)<(R.length:Int))=false:=decide_eq_false (by omega);have HK:=Lib.hid hM;clear hM;go_wp2_with fail;go_ret;exact⟨rfl,H1.out.2.1.trans HK.out⟩
end Go.Proofs.YtnnpoodcdibpiaaGreatDoor
