import Derived.Test.YtnnpoodcdibpiaaGreatDoorBOrBase
import Derived.Deep.DeepCutAuto
namespace Go.Proofs.YtnnpoodcdibpiaaGreatDoor
set_option maxRecDepth 100000
set_option maxHeartbeats 8000000
namespace PTree
end PTree
section
variable {P : Program} {ops : Array Oper} {md : Region.Mode} {B : Array Nat} {loud pure_ : List Nat} {S : World → Prop} {Q : Exit → Act → World → Prop}
theorem planF_still{i:Nat}{is:PTree}{o:Oper}{a:Act}{w:World}(hl:(loud.contains i || pure_.contains i)=false)(ho:ops[i]?=some o)
 (h:∀K:Act->Prop,(∀a',PlanF P ops loud pure_ S Q is a' w->K a')->if Region.wanted o (yielded ops a.tmps)then o.still P a w K else K (a.put o.dst undef)):PlanF P ops loud pure_ S Q (.seq i is) a w:=by
 rw [Bool.or_eq_false_iff]at hl;refine⟨?_⟩;unfold wpPlanF0;rw [if_neg (by simpa using hl.1),if_neg (by simpa using hl.2)];unfold stOp;simp only [ho];exact h _ (fun a' h'=>h'.out)
end
end Go.Proofs.YtnnpoodcdibpiaaGreatDoor
namespace Go.Proofs.YtnnpoodcdibpiaaGreatDoor
open Go.RowKit
set_option maxRecDepth 100000
set_option maxHeartbeats 8000000
def FrX.small(f:FrX):Prop:=f.fitsB=true/\f.W0<=32/\f.H0<=32
end Go.Proofs.YtnnpoodcdibpiaaGreatDoor
namespace Go.Proofs.YtnnpoodcdibpiaaGreatDoor
open Go.RowKit
set_option maxRecDepth 100000
set_option maxHeartbeats 8000000
theorem actFits(w:World)(kd id fr tt:Int)(p:List UInt8)(hp:p.length<=9223372036854775807)(A:Option Addr)(n c:Nat)(hn:n<=9223372036854775807):
 Calls Tryz.prog 13 #[.agg #[.int .i64 kd,.int .i64 id,.int .i64 fr,.int .i64 tt,.string (strOf p),.slice A n c]] w fun e w'=>e=.returned (.bool (decide (n<=400)&&decide (p.length<=400)))/\Mod (fun _=>False) w w':=by
 have hs:=strOf_size p;cases d1:decide ((n:Int)<=400)<;>cases d2:decide ((p.length:Int)<=400)
 all_goals(
  have e1:decide (n<=400)=_:=(show decide (n<=400)=decide ((n:Int)<=400)by congr 1;exact propext ⟨fun h=>by omega,fun h=>by omega⟩).trans d1;have e2:decide (p.length<=400)=_:=(show decide (p.length<=400)=decide ((p.length:Int)<=400)by congr 1;exact propext ⟨fun h=>by omega,fun h=>by omega⟩).trans d2;have HE:=Lib.hid (And.intro e1 e2);clear e1 e2;go_enter Tryz.func13,Tryz.ntmps13;go_wp2_with fail;go_ret;exact⟨by rw [HE.out.1,HE.out.2];rfl,(Mod.refl _ w).alloc _⟩)
end Go.Proofs.YtnnpoodcdibpiaaGreatDoor
namespace Go.Proofs.YtnnpoodcdibpiaaGreatDoor
open Go.RowKit
set_option maxRecDepth 100000
set_option maxHeartbeats 8000000
theorem letter_dec(c:UInt8):letterB c = !((decide ((c.toNat:Int)<97) || decide ((122:Int)<(c.toNat:Int)))&&(decide ((c.toNat:Int)<48) || decide ((57:Int)<(c.toNat:Int)))):=by
 unfold letterB;rw [Bool.eq_iff_iff];simp only [Bool.or_eq_true,decide_eq_true_eq,Bool.not_eq_true',Bool.and_eq_false_iff,Bool.or_eq_false_iff,decide_eq_false_iff_not];omega
theorem pathB_no{l:List UInt8}(h:l.all pathC=false):pathB l=false:=by
 unfold pathB;rw [show(fun c=>letterB c || c == 46 || c == 47)=pathC from rfl,h,Bool.and_false]
theorem pathB_yes{l:List UInt8}(h:l.all pathC=true):pathB l=decide (1<=l.length/\l.length<=60):=by
 unfold pathB;rw [show(fun c=>letterB c || c == 46 || c == 47)=pathC from rfl,h,Bool.and_true]
theorem pathC_of{c:UInt8}{b d e:Bool}(h:letterB c=b)(h1:((c.toNat:Int) != 46)=d)(h2:((c.toNat:Int) != 47)=e):pathC c=(b || !d || !e):=by
 have g1:(c == 46) = !d:=by
  rw [<-h1,Bool.eq_iff_iff];simp only [beq_iff_eq,Bool.not_eq_true',bne_eq_false_iff_eq];exact⟨fun h=>by rw [h];rfl,fun h=>UInt8.toNat_inj.1 (by show c.toNat=46;omega)⟩
 have g2:(c == 47) = !e:=by
  rw [<-h2,Bool.eq_iff_iff];simp only [beq_iff_eq,Bool.not_eq_true',bne_eq_false_iff_eq];exact⟨fun h=>by rw [h];rfl,fun h=>UInt8.toNat_inj.1 (by show c.toNat=47;omega)⟩
 unfold pathC;rw [h,g1,g2]
theorem rPath(w:World)(l:List UInt8)(hl:l.length<=9223372036854775807):Calls Tryz.prog 39 #[.string (strOf l)] w fun e w'=>e=.returned (.bool (pathB l))/\w=w':=by
 have hsz:=strOf_size l;go_enter Tryz.func39,Tryz.ntmps39;go_wp2_with fail;go_loop [3] (nmRel pathC l) (fun i=>l.length-(intOf i).toNat)
 case atStart=>exact⟨0,by omega,rfl,by simp⟩
 case round=>
  obtain⟨k,hk,rfl,hall⟩:=hrel;have HA:=Lib.hid hall;clear hall;by_cases hlt:k<l.length
  ·have hc:=getE hlt;have d0:decide ((k:Int)<(l.length:Int))=true:=decide_eq_true (by omega);have hx:=run_index_strOf (P:=Tryz.prog) (t:=9) l .i64 k _ Tryz.underlying9 hc;generalize hcc:l[k]=c at hc hx;have hct:=c.toNat_lt;have hld:=letter_dec c;have HC:=Lib.hid (And.intro hc hld);clear hc hcc hld
   cases d1:decide ((c.toNat:Int)<97)<;>cases d2:decide ((122:Int)<(c.toNat:Int))<;>cases d3:decide ((c.toNat:Int)<48)<;>cases d4:decide ((57:Int)<(c.toNat:Int))<;>(
    have HB:=HC.out.2;rw [d1,d2,d3,d4]at HB;simp only [Bool.or_true,Bool.or_false,Bool.and_true,Bool.and_false,Bool.not_true,Bool.not_false]at HB;have HD:=Lib.hid HB
    first
    | (have HE:letterB c=true:=HB
       have HP:=Lib.hid (show pathC c=true by unfold pathC;rw [HE];rfl);clear HB HE;go_wp2_with fail;exact⟨⟨k+1,by omega,by go_num,all_snoc HA.out HC.out.1 HP.out⟩,by simp [intOf];omega⟩)
    | (clear HB
       cases d5:((c.toNat:Int) != 46)<;>cases d6:((c.toNat:Int) != 47)<;>(
        have HP:=Lib.hid (pathC_of HD.out d5 d6);go_wp2_with fail
        first
        | exact⟨⟨k+1,by omega,by go_num,all_snoc HA.out HC.out.1 HP.out⟩,by simp [intOf];omega⟩
        | (go_ret
           exact⟨by rw [pathB_no (all_not HC.out.1 HP.out)];rfl,rfl⟩))))
  ·obtain rfl:k=l.length:=by omega
   have d0:decide ((l.length:Int)<(l.length:Int))=false:=decide_eq_false (by omega);have HY:=Lib.hid (pathB_yes (all_end HA.out));cases d1:decide ((1:Int)<=(l.length:Int))with
   | false=>
     go_wp2_with fail;go_ret;exact⟨by rw [HY.out,show decide (1<=l.length/\l.length<=60)=false from decide_eq_false (by have:=of_decide_eq_false d1;omega)];rfl,rfl⟩
   | true=>
     cases d2:decide ((l.length:Int)<=60)with
     | false=>
       go_wp2_with fail;go_ret;exact⟨by rw [HY.out,show decide (1<=l.length/\l.length<=60)=false from decide_eq_false (by have:=of_decide_eq_false d2;omega)];rfl,rfl⟩
     | true=>
       go_wp2_with fail;go_ret;exact⟨by rw [HY.out,show decide (1<=l.length/\l.length<=60)=true from decide_eq_true (by have:=of_decide_eq_true d1;have:=of_decide_eq_true d2;omega)];rfl,rfl⟩
end Go.Proofs.YtnnpoodcdibpiaaGreatDoor
namespace Go.Proofs.YtnnpoodcdibpiaaGreatDoor
open Go.RowKit
set_option maxRecDepth 100000
set_option maxHeartbeats 8000000
structure RefAt(w:World)(mb hi:Nat)(R:FsL):Prop where
 ex:∃A c,Blk w mb 42 #[.slice A R.length c]/\R.length<=c/\ListIn w (fun k=>hi<=k) 2 (FileR w (fun k=>hi<=k)) (.slice A R.length c) R
 low:mb<hi
section
variable {w w' : World} {mb hi : Nat} {R : FsL}
theorem RefAt.turn{S:Nat->Prop}(h:RefAt w mb hi R)(hm:Mod S w w')(hS:∀k,S k->k<hi/\k≠mb):RefAt w' mb hi R:=by
 obtain⟨A,c,h1,h2,h3⟩:=h.ex;have hn:∀k,hi<=k->k<w.heap.size->¬S k:=fun k hk _ hs=>by have:=(hS k hs).1;omega
 exact⟨⟨A,c,h1.keep hm (fun hs=>(hS mb hs).2 rfl),h2,h3.turn hm hn (fun _ h _=>h) (fun _ _ _ k=>k.turn hm hn (fun _ h _=>h))⟩,h.low⟩
theorem RefAt.quiet(h:RefAt w mb hi R)(hm:Mod (fun _=>False) w w'):RefAt w' mb hi R:=h.turn hm (fun _ h=>h.elim)
theorem RefAt.at_{i:Nat}{x:List UInt8 × List UInt8}{A:Option Addr}{c:Nat}(h3:ListIn w (fun k=>hi<=k) 2 (FileR w (fun k=>hi<=k)) (.slice A R.length c) R)(hi':R[i]?=some x):
  ∃b o B d,A=some ⟨b,o,none⟩/\w.cell? ⟨b,o+i*2,none⟩=some (.string (strOf x.1))/\w.cell? ⟨b,o+i*2+1,none⟩=some (.slice B x.2.length d)/\BytesF w (fun k=>hi<=k) (.slice B x.2.length d) x.2:=by
 obtain⟨b,o,cp,cc,hv,_,_,_,⟨v,hcc,hb⟩,_,hx⟩:=h3.at_ hi' (by decide);subst hcc;obtain⟨B,d,hvv,_,_⟩:=hb.in_;subst hvv;injection hv with e1 _ e3;subst e1 e3;exact⟨b,o,B,d,rfl,hx 0 _ rfl,hx 1 _ rfl,hb⟩
end
def idxOf(R:FsL)(p:List UInt8):Int:=match R.findIdx? (fun x=>x.1 == p)with
 | some i=>(i:Int)
 | none=>-1
def FdRel(R:FsL)(p:List UInt8)(v5:Value):Prop:=∃i:Nat,i<=R.length/\v5=.int .i64 (i:Int)/\∀j,j<i->(R.getD j ([],[])).1≠p
theorem idx_some{R:FsL}{p:List UInt8}{i:Nat}(h:∀j,j<i->(R.getD j ([],[])).1≠p)(hi:i<R.length)(he:(R.getD i ([],[])).1=p):idxOf R p=(i:Int):=by
 unfold idxOf;have:R.findIdx? (fun x=>x.1 == p)=some i:=by
  rw [List.findIdx?_eq_some_iff_getElem];refine⟨hi,?_,fun j hj=>?_⟩
  ·rw [List.getD_eq_getElem?_getD,List.getElem?_eq_getElem hi]at he;simpa using he
  ·have:=h j hj;rw [List.getD_eq_getElem?_getD,List.getElem?_eq_getElem (by omega)]at this;simpa using this
 rw [this]
theorem idx_none{R:FsL}{p:List UInt8}(h:∀j,j<R.length->(R.getD j ([],[])).1≠p):idxOf R p = -1:=by
 unfold idxOf;have:R.findIdx? (fun x=>x.1 == p)=none:=by
  rw [List.findIdx?_eq_none_iff];intro x hx;obtain⟨j,hj⟩:=List.getElem?_of_mem hx;have h2:=h j (List.getElem?_eq_some_iff.1 hj).1;rw [List.getD_eq_getElem?_getD,hj]at h2;simpa using h2
 rw [this]
theorem rFind(w:World)(mb hi:Nat)(R:FsL)(h:RefAt w mb hi R)(hl:R.length<=1000000)(p:List UInt8):
  Calls Tryz.prog 40 #[.pointer (some ⟨mb,0,none⟩),.string (strOf p)] w fun e w'=>e=.returned (.int .i64 (idxOf R p))/\w=w':=by
 obtain⟨A,c,hb,hc,hin⟩:=h.ex;have x0:w.cell? ⟨mb,0,none⟩=some (.slice A R.length c):=hb.cell 0;have bl:=hb.lt;have H0:=Lib.hid hin;clear hin h hb;go_enter Tryz.func40,Tryz.ntmps40;go_wp2_with fail;go_loop [5] (FdRel R p) (fun i=>R.length-(intOf i).toNat)
 case atStart=>exact⟨0,Nat.zero_le _,rfl,fun j hj=>absurd hj (by omega)⟩
 case round=>
  obtain⟨i,hi',rfl,hno⟩:=hrel;by_cases hlt:i<R.length
  ·have d1:decide ((i:Int)<(R.length:Int))=true:=decide_eq_true (by omega);obtain⟨x,hg⟩:∃x,R[i]?=some x:=⟨_,List.getElem?_eq_getElem hlt⟩
   have hgd:R.getD i ([],[])=x:=by rw [List.getD_eq_getElem?_getD,hg];rfl
   obtain⟨b,o,B,d,hA,k0,_,_⟩:=RefAt.at_ H0.out hg;subst hA;have HN:=Lib.hid (And.intro hno hgd);clear hno hgd hg;by_cases he:x.1=p
   ·have y1:((strOf x.1).toList == (strOf p).toList)=true:=by rw [strOf_beq];exact decide_eq_true he
    go_wp2_with fail;go_ret;exact⟨by rw [idx_some HN.out.1 hlt (by rw [HN.out.2];exact he)];rfl,rfl⟩
   ·have y1:((strOf x.1).toList == (strOf p).toList)=false:=by rw [strOf_beq];exact decide_eq_false he
    go_wp2_with fail;go_round
    case rel=>exact⟨i+1,by omega,by go_num,fun j hj=>by
     by_cases e:j=i
     ·subst e;rw [HN.out.2];exact he
     ·exact HN.out.1 j (by omega)⟩
    case measure=>simp [intOf];omega
  ·obtain rfl:i=R.length:=by omega
   have d1:decide ((R.length:Int)<(R.length:Int))=false:=decide_eq_false (by omega);have HN:=Lib.hid (idx_none hno);clear hno;go_wp2_with fail;go_ret;exact⟨by rw [HN.out];rfl,rfl⟩
theorem idx_lookup(R:FsL)(p:List UInt8):(idxOf R p = -1/\R.lookup p=none)\/∃(i:Nat) (l:List UInt8),idxOf R p=(i:Int)/\i<R.length/\R[i]?=some (p,l)/\R.lookup p=some l:=by
 induction R with
 | nil=>exact .inl ⟨rfl,rfl⟩
 | cons x r ih=>
  obtain⟨q,y⟩:=x;unfold idxOf at ih ⊢;rw [List.findIdx?_cons,List.lookup_cons];by_cases e:q=p
  ·subst e;exact .inr ⟨0,y,by simp,by simp,by simp,by simp⟩
  ·have e1:(q == p)=false:=by simpa using e
   have e2:(p == q)=false:=by simpa using(fun h=>e h.symm)
   simp only [e1,e2];rcases ih with⟨h1,h2⟩|⟨i,l,h1,h2,h3,h4⟩
   ·refine .inl ⟨?_,h2⟩;cases hf:r.findIdx? (fun x=>x.1 == p)with
    | none=>simp
    | some i=>
     rw [hf]at h1;dsimp only at h1;omega
   ·refine .inr ⟨i+1,l,?_,by simp;omega,by simpa using h3,h4⟩;cases hf:r.findIdx? (fun x=>x.1 == p)with
    | none=>
     rw [hf]at h1;dsimp only at h1;omega
    | some j=>
     rw [hf]at h1;dsimp only at h1;simp;omega
theorem rOGet(w:World)(mb hi:Nat)(R:FsL)(h:RefAt w mb hi R)(hl:R.length<=1000000)(p:List UInt8):
  Calls Tryz.prog 16 #[.pointer (some ⟨mb,0,none⟩),.string (strOf p)] w fun e w'=>w=w'/\match R.lookup p with
   | none=>e=.returned (.tuple #[.slice none 0 0,.int .i64 191])
   | some l=>∃B d,e=.returned (.tuple #[.slice B l.length d,.int .i64 0])/\BytesF w (fun k=>hi<=k) (.slice B l.length d) l:=by
 have h2:=h;obtain⟨A,c,hb,hc,hin⟩:=h.ex;have x0:w.cell? ⟨mb,0,none⟩=some (.slice A R.length c):=hb.cell 0;have bl:=hb.lt;have H0:=Lib.hid (And.intro h2 hin);clear hin h h2 hb;rcases idx_lookup R p with⟨h1,h3⟩|⟨i,l,h1,h3,h4,h5⟩
 ·rw [h3];go_enter Tryz.func16,Tryz.ntmps16;go_wp2_with fail;refine(rFind w mb hi R H0.out.1 hl p).mono ?_;rintro e w1 ⟨rfl,rfl⟩;rw [h1];go_wp2_with fail;go_ret2;exact⟨rfl,rfl⟩
 ·rw [h5];obtain⟨b,o,B,d,hA,k0,k1,hbf⟩:=RefAt.at_ H0.out.2 h4;subst hA;dsimp only at k0 k1 hbf;have HB:=Lib.hid hbf;clear hbf h4;go_enter Tryz.func16,Tryz.ntmps16;go_wp2_with fail;refine(rFind w mb hi R H0.out.1 hl p).mono ?_;rintro e w1 ⟨rfl,rfl⟩;rw [h1];go_wp2_with fail;go_ret2;exact⟨rfl,B,d,rfl,HB.out⟩
end Go.Proofs.YtnnpoodcdibpiaaGreatDoor
namespace Go.Proofs.YtnnpoodcdibpiaaGreatDoor
open Go.RowKit
set_option maxRecDepth 100000
set_option maxHeartbeats 8000000
theorem rORange(w:World)(mb hi:Nat)(R:FsL)(h:RefAt w mb hi R)(hl:R.length<=1000000)(hsm:∀x∈R,x.2.length<=1048576)(p:List UInt8)(a z:Int):
  Calls Tryz.prog 18 #[.pointer (some ⟨mb,0,none⟩),.string (strOf p),.int .i64 a,.int .i64 z] w fun e w'=>w=w'/\match R.lookup p with
   | none=>e=.returned (.tuple #[.slice none 0 0,.int .i64 0,.int .i64 191])
   | some l=>if rangeOk l.length a z then ∃A n c,e=.returned (.tuple #[.slice A n c,.int .i64 (l.length:Int),.int .i64 0])/\BytesIn w A n c (rangeL l a z)else e=.returned (.tuple #[.slice none 0 0,.int .i64 0,.int .i64 192]):=by
 have H0:=Lib.hid h;clear h;cases hf:R.lookup p with
 | none=>
   go_enter Tryz.func18,Tryz.ntmps18;go_wp2_with fail;refine(rOGet w mb hi R H0.out hl p).mono ?_;rw [hf];rintro e w1 ⟨rfl,rfl⟩;go_wp2_with fail
   go_ret3
   exact⟨rfl,rfl⟩
 | some l=>
   have hls:l.length<=1048576:=by
    rcases idx_lookup R p with⟨_,h3⟩|⟨i,l2,_,_,h4,h5⟩
    ·rw [hf]at h3;cases h3
    ·rw [hf]at h5;injection h5 with h5;subst h5;exact hsm _ (List.mem_of_getElem? h4)
   dsimp only []
   cases e1:decide (a<0)<;>cases e2:decide ((l.length:Int)<a)<;>cases e3:decide (0<=z)<;>cases e4:decide (z<a)<;>(
    have HR:Hid (rangeOk l.length a z=_):=Lib.hid (by unfold rangeOk;rw [e1,e2,e3,e4]);simp only [Bool.or_true,Bool.or_false,Bool.and_true,Bool.and_false,Bool.not_true,Bool.not_false]at HR;rw [HR.out];go_enter Tryz.func18,Tryz.ntmps18;go_wp2_with fail;refine(rOGet w mb hi R H0.out hl p).mono ?_;rw [hf];rintro e w1 ⟨rfl,B,d,rfl,hb⟩;obtain⟨B2,d2,he,hld,hin⟩:=hb.in_;injection he with x1 _ x3;subst x1 x3;have HB:=Lib.hid (And.intro hin hld);clear hin hb;go_upto_region 8 with(fail)
    all_goals first
    | (go_ret3
       exact⟨rfl,rfl⟩)
    | skip)
   all_goals
    have ha0:¬a<0:=of_decide_eq_false e1;have ha1:¬(l.length:Int)<a:=of_decide_eq_false e2;have ha:0<=a/\a<=(l.length:Int):=⟨by omega,by omega⟩
    have hac:a.toNat<=l.length:=by omega
    cases g1:decide (z<0)<;>cases g2:decide ((l.length:Int)<z)
   all_goals first
    | (exfalso;have:=of_decide_eq_true e3;have:=of_decide_eq_true g1;omega)
    | (exfalso;have:=of_decide_eq_false e3;have:=of_decide_eq_false g1;omega)
    | (exfalso;have:=of_decide_eq_true g1;have:=of_decide_eq_true g2;omega)
    | skip
   all_goals
    first
    | have hz:¬z<a/\0<=z/\¬(l.length:Int)<z:=⟨of_decide_eq_false e4,of_decide_eq_true e3,of_decide_eq_false g2⟩
    | have hz:True:=trivial
   all_goals
    first
    | have q1:=of_decide_eq_true g1
      have HZ:Hid (rangeEnd l.length z=l.length/\a.toNat<=l.length):=Lib.hid ⟨if_pos (Or.inl q1),hac⟩
    | have q1:=of_decide_eq_true g2
      have HZ:Hid (rangeEnd l.length z=l.length/\a.toNat<=l.length):=Lib.hid ⟨if_pos (Or.inr q1),hac⟩
    | have HZ:Hid (rangeEnd l.length z=z.toNat/\a.toNat<=z.toNat/\z.toNat<=l.length):=Lib.hid ⟨if_neg (fun hc=>hc.elim (of_decide_eq_false g1) (of_decide_eq_false g2)),by omega,by omega⟩
    go_wp2_with fail
   all_goals
    go_ret3
    refine⟨rfl,_,_,_,rfl,?_⟩;unfold rangeL;rw [HZ.out.1]
    first
    | exact HB.out.1.sub0 (Nat.le_refl _) HB.out.2 (by first|assumption|omega)
    | exact HB.out.1.sub0 HZ.out.2.2 HB.out.2 (by first|assumption|omega)
    | exact HB.out.1.sub HZ.out.2 (Nat.le_refl _) HB.out.2
    | exact HB.out.1.sub HZ.out.2.1 HZ.out.2.2 HB.out.2
    | (exfalso;simp only [decide_eq_true_eq,decide_eq_false_iff_not]at e1 e2 e3 e4 g1 g2;omega)
theorem bytes_off{w:World}{A:Option Addr}{n c g:Nat}{l:List UInt8}{ad:Addr}(h:BytesIn w A n c l)(h0:0<n)(he:A=some ad)(hb:Blk w g 33 #[.int .i64 0,.int .i64 0,.int .i64 0,.int .i64 0,.slice none 0 0])(hs:ad.block=g):False:=by
 subst he;obtain⟨hl,_,hsrc,_⟩:=h;obtain⟨x,hx⟩:∃x,(u8s l)[0]?=some x:=⟨_,List.getElem?_eq_getElem (by rw [u8s_length];omega)⟩
 have h1:=hsrc.2.2 ad rfl 0 x hx;obtain⟨b,o,sp⟩:=ad;have hsp:sp=none:=by simpa [Addr.add]using World.cell?_spot h1
 subst hsp;dsimp only at hs;subst hs;rw [addr_add',Nat.add_zero,hb.cell o]at h1;have hx2:∃y:UInt8,x=.int .u8 (y.toNat:Int):=by
  unfold u8s at hx;rw [List.getElem?_map,Option.map_eq_some_iff]at hx;obtain⟨y,_,hy⟩:=hx;exact⟨y,hy.symm⟩
 obtain⟨y,rfl⟩:=hx2
 match o with
 | 0=>cases h1
 | 1=>cases h1
 | 2=>cases h1
 | 3=>cases h1
 | 4=>cases h1
 | o+5=>simp at h1
theorem rOServe(w:World)(mb hi:Nat)(R:FsL)(h:RefAt w mb hi R)(hl:R.length<=1000000)(hsm:∀x∈R,x.2.length<=1048576)(id:Int)(p:List UInt8)(hp:p.length<=9223372036854775807)(a z:Int):
  Calls Tryz.prog 20 #[.pointer (some ⟨mb,0,none⟩),rqV id p a z] w fun e w'=>Mod (fun _=>False) w w'/\∃A n c,e=.returned (rsV id (svR (fun q=>R.lookup q) id p a z).1 (svR (fun q=>R.lookup q) id p a z).2.1 (svR (fun q=>R.lookup q) id p a z).2.2.1 (.slice A n c))/\BytesIn w' A n c (svR (fun q=>R.lookup q) id p a z).2.2.2:=by
 unfold rqV;have hq:=Blk.new w 36 #[.int .i64 id,.string (strOf p),.int .i64 a,.int .i64 z];have hz:=Blk.new (w.alloc (.cells #[.int .i64 id,.string (strOf p),.int .i64 a,.int .i64 z] 36)) 33 #[.int .i64 0,.int .i64 0,.int .i64 0,.int .i64 0,.slice none 0 0];have hq:=hq.alloc (.cells #[.int .i64 0,.int .i64 0,.int .i64 0,.int .i64 0,.slice none 0 0] 33);rw [World.size_alloc]at hz;have hm:=((Mod.refl (fun _=>False) w).alloc (.cells #[.int .i64 id,.string (strOf p),.int .i64 a,.int .i64 z] 36)).alloc (.cells #[.int .i64 0,.int .i64 0,.int .i64 0,.int .i64 0,.slice none 0 0] 33);have H0:=Lib.hid (And.intro (h.quiet hm) (And.intro hm (And.intro hq hz)));clear h hm hq hz;have hnil:∀w:World,BytesIn w none 0 0 []:=fun w=>⟨rfl,fun _=>rfl,Src.nil,fun h=>absurd h (by omega)⟩
 go_enter Tryz.func20,Tryz.ntmps20;go_upto_region 1 with(fail)
 obtain⟨qb,hqb⟩:∃qb,qb=w.heap.size:=⟨_,rfl⟩
 rw [<-hqb]at H0 ⊢;have HQB:=Lib.hid hqb;clear hqb;generalize (w.alloc (.cells #[.int .i64 id,.string (strOf p),.int .i64 a,.int .i64 z] 36)).alloc (.cells #[.int .i64 0,.int .i64 0,.int .i64 0,.int .i64 0,.slice none 0 0] 33)=w1 at *;have bc:=H0.out.2.2.1.both.1;have bl:=H0.out.2.2.1.lt;go_wp2_with fail;refine(rPath w1 p hp).mono ?_;rintro e w2 ⟨rfl,rfl⟩;by_cases hbad:id<0\/1048575<id\/pathB p=false
 ·have HE:Hid (svR (fun q=>R.lookup q) id p a z=(4,0,0,[])):=Lib.hid (if_pos hbad);have hc:(id<0/\decide (id<0)=true)\/(¬id<0/\decide (id<0)=false/\1048576<=id)\/(¬id<0/\decide (id<0)=false/\¬1048576<=id/\pathB p=false):=by
   by_cases h1:id<0
   ·exact .inl ⟨h1,decide_eq_true h1⟩
   ·by_cases h2:1048576<=id
    ·exact .inr (.inl ⟨h1,decide_eq_false h1,h2⟩)
    ·exact .inr (.inr ⟨h1,decide_eq_false h1,h2,hbad.elim (fun h=>absurd h h1) (fun h=>h.elim (fun h=>absurd h (by omega)) (fun h=>h))⟩)
  clear hbad;rcases hc with⟨n1,d1⟩|⟨n1,d1,n2⟩|⟨n1,d1,n2,n3⟩<;>(
  go_wp2_with (refine wpList_store_row rfl 33 (.tmp 4) (.tmp 28) rfl (qb+1) [.int .i64 id,.int .i64 4,.int .i64 0,.int .i64 0,.slice none 0 0] rfl rfl 33 [.int .i64 0,.int .i64 0,.int .i64 0,.int .i64 0,.slice none 0 0] H0.out.2.2.2 rfl (by kernel_rfl) (by kernel_rfl) (fun w6 hb6 hm6=>?_))
  rw [HE.out];refine bodyPost_ret (v:=.agg #[.int .i64 id,.int .i64 4,.int .i64 0,.int .i64 0,.slice none 0 0]) ?_ rfl ?_
  ·exact results_cell_row rfl _ _ (qb+1) 33 _ (0,0) _ rfl hb6 Tryz.underlying33 rfl (by kernel_rfl)
  ·exact⟨H0.out.2.1.into hm6 (fun i e=>.inr (by rw [HQB.out]at e;omega)),none,0,0,rfl,hnil _⟩)
 ·have hn:¬id<0/\¬1048576<=id/\pathB p=true:=⟨fun h=>hbad (.inl h),fun h=>hbad (.inr (.inl (by omega))),by
   cases hpb:pathB p with
   | true=>rfl
   | false=>exact absurd (.inr (.inr hpb)) hbad⟩
  have HE:Hid (svR (fun q=>R.lookup q) id p a z=match R.lookup p with
   | none=>(2,0,0,[])
   | some l=>if rangeOk l.length a z then(1,a,(l.length:Int),rangeL l a z)else(3,0,(l.length:Int),[])):=Lib.hid (if_neg hbad)
  clear hbad;obtain⟨n1,n2,n3⟩:=hn;have d1:decide (id<0)=false:=decide_eq_false n1;rw [n3];go_wp2_with fail;refine(rOGet w1 mb hi R H0.out.1 hl p).mono ?_;rintro e w2 ⟨rfl,hg⟩;cases hf:R.lookup p with
  | none=>
   rw [hf]at hg;subst hg;dsimp only [];go_wp2_with (refine wpList_store_row rfl 33 (.tmp 4) (.tmp 40) rfl (qb+1) [.int .i64 id,.int .i64 2,.int .i64 0,.int .i64 0,.slice none 0 0] rfl rfl 33 [.int .i64 0,.int .i64 0,.int .i64 0,.int .i64 0,.slice none 0 0] H0.out.2.2.2 rfl (by kernel_rfl) (by kernel_rfl) (fun w6 hb6 hm6=>?_))
   rw [HE.out,hf];refine bodyPost_ret (v:=.agg #[.int .i64 id,.int .i64 2,.int .i64 0,.int .i64 0,.slice none 0 0]) ?_ rfl ?_
   ·exact results_cell_row rfl _ _ (qb+1) 33 _ (0,0) _ rfl hb6 Tryz.underlying33 rfl (by kernel_rfl)
   ·exact⟨H0.out.2.1.into hm6 (fun i e=>.inr (by rw [HQB.out]at e;omega)),none,0,0,rfl,hnil _⟩
  | some l=>
   rw [hf]at hg;obtain⟨B,d,rfl,_⟩:=hg;dsimp only [];go_wp2_with fail;refine(rORange w1 mb hi R H0.out.1 hl hsm p a z).mono ?_;rw [hf];rintro e w2 ⟨rfl,hr⟩;dsimp only []at hr;cases hk:rangeOk l.length a z with
   | true=>
    rw [hk,if_pos rfl]at hr;obtain⟨A',n',c',rfl,hin⟩:=hr;have HB:=Lib.hid hin;clear hin;dsimp only [];go_wp2_with (refine wpList_store_row rfl 33 (.tmp 4) (.tmp 66) rfl (qb+1) [.int .i64 id,.int .i64 1,.int .i64 a,.int .i64 (l.length:Int),.slice A' n' c'] rfl rfl 33 [.int .i64 0,.int .i64 0,.int .i64 0,.int .i64 0,.slice none 0 0] H0.out.2.2.2 rfl (by kernel_rfl) (by kernel_rfl) (fun w6 hb6 hm6=>?_))
    rw [HE.out,hf];dsimp only [];rw [hk,if_pos rfl];refine bodyPost_ret (v:=.agg #[.int .i64 id,.int .i64 1,.int .i64 a,.int .i64 (l.length:Int),.slice A' n' c']) ?_ rfl ?_
    ·exact results_cell_row rfl _ _ (qb+1) 33 _ (0,0) _ rfl hb6 Tryz.underlying33 rfl (by kernel_rfl)
    ·exact⟨H0.out.2.1.into hm6 (fun i e=>.inr (by rw [HQB.out]at e;omega)),A',n',c',rfl,HB.out.mod hm6 (fun h0 ad e hs=>bytes_off HB.out h0 e H0.out.2.2.2 hs)⟩
   | false=>
    rw [hk,if_neg (by decide)]at hr;subst hr;dsimp only [];go_wp2_with (refine wpList_store_row rfl 33 (.tmp 4) (.tmp 59) rfl (qb+1) [.int .i64 id,.int .i64 3,.int .i64 0,.int .i64 (l.length:Int),.slice none 0 0] rfl rfl 33 [.int .i64 0,.int .i64 0,.int .i64 0,.int .i64 0,.slice none 0 0] H0.out.2.2.2 rfl (by kernel_rfl) (by kernel_rfl) (fun w6 hb6 hm6=>?_))
    rw [HE.out,hf];dsimp only [];rw [hk,if_neg (by decide)];refine bodyPost_ret (v:=.agg #[.int .i64 id,.int .i64 3,.int .i64 0,.int .i64 (l.length:Int),.slice none 0 0]) ?_ rfl ?_
    ·exact results_cell_row rfl _ _ (qb+1) 33 _ (0,0) _ rfl hb6 Tryz.underlying33 rfl (by kernel_rfl)
    ·exact⟨H0.out.2.1.into hm6 (fun i e=>.inr (by rw [HQB.out]at e;omega)),none,0,0,rfl,hnil _⟩
theorem rSameR(w:World)(id st a n:Int)(A A':Option Addr)(m c m' c':Nat)(l:List UInt8)(h:BytesIn w A m c l)(h':BytesIn w A' m' c' l):
  Calls Tryz.prog 19 #[rsV id st a n (.slice A m c),rsV id st a n (.slice A' m' c')] w fun e w'=>e=.returned (.bool true)/\Mod (fun _=>False) w w':=by
 unfold rsV;have hm:=((Mod.refl (fun _=>False) w).alloc (.cells #[.int .i64 id,.int .i64 st,.int .i64 a,.int .i64 n,.slice A m c] 33)).alloc (.cells #[.int .i64 id,.int .i64 st,.int .i64 a,.int .i64 n,.slice A' m' c'] 33);have s1:(convert 22 9 (.slice A m c)).run Tryz.prog ((w.alloc (.cells #[.int .i64 id,.int .i64 st,.int .i64 a,.int .i64 n,.slice A m c] 33)).alloc (.cells #[.int .i64 id,.int .i64 st,.int .i64 a,.int .i64 n,.slice A' m' c'] 33))=.ok (.string (strOf l)) _:=str_src _ A m c l h.1 (h.quiet hm).2.2.1;have s2:(convert 22 9 (.slice A' m' c')).run Tryz.prog ((w.alloc (.cells #[.int .i64 id,.int .i64 st,.int .i64 a,.int .i64 n,.slice A m c] 33)).alloc (.cells #[.int .i64 id,.int .i64 st,.int .i64 a,.int .i64 n,.slice A' m' c'] 33))=.ok (.string (strOf l)) _:=str_src _ A' m' c' l h'.1 (h'.quiet hm).2.2.1;have H0:=Lib.hid hm;clear hm h h';go_enter Tryz.func19,Tryz.ntmps19;go_wp2_with fail;go_ret;exact⟨rfl,H0.out⟩
end Go.Proofs.YtnnpoodcdibpiaaGreatDoor
namespace Go.Proofs.YtnnpoodcdibpiaaGreatDoor
open Go.RowKit
set_option maxRecDepth 100000
set_option maxHeartbeats 8000000
theorem lookup_mem_iff{L:FsL}(hn:(L.map Prod.fst).Nodup){p l:List UInt8}:L.lookup p=some l ↔ (p,l)∈L:=by
 induction L with
 | nil=>simp [List.lookup]
 | cons x r ih=>
  obtain⟨q,y⟩:=x;rw [List.map_cons,List.nodup_cons]at hn;rw [List.lookup_cons];by_cases e:p=q
  ·subst e;simp only [beq_self_eq_true,List.mem_cons];constructor
   ·intro h;injection h with h;subst h;exact .inl rfl
   ·rintro(h|h)
    ·injection h with _ h;rw [h]
    ·exact absurd (List.mem_map_of_mem (f:=Prod.fst) h) hn.1
  ·have e1:(p == q)=false:=by simpa using e
   simp only [e1,List.mem_cons];rw [ih hn.2];constructor
   ·exact fun h=>.inr h
   ·rintro(h|h)
    ·injection h with h _;exact absurd h e
    ·exact h
structure SameS(L R:FsL):Prop where
 perm:R.Perm L
 nodup:(L.map Prod.fst).Nodup
 up:(R.map Prod.fst).Pairwise (fun a b=>a<=b)
 small:∀x∈R,x.2.length<=1048576
 few:R.length<=4000
section
variable {L R : FsL}
theorem SameS.nil:SameS [] []:=⟨.nil,by simp,by simp,by simp,by simp⟩
theorem SameS.nodupR(h:SameS L R):(R.map Prod.fst).Nodup:=(h.perm.map Prod.fst).nodup_iff.2 h.nodup
theorem SameS.len(h:SameS L R):R.length=L.length:=h.perm.length_eq
theorem SameS.look(h:SameS L R)(p:List UInt8):R.lookup p=L.lookup p:=by
 cases hl:L.lookup p with
 | none=>
  rw [lookup_mem]at hl ⊢;exact fun hm=>hl ((h.perm.map Prod.fst).mem_iff.1 hm)
 | some l=>
  rw [lookup_mem_iff h.nodup]at hl;rw [lookup_mem_iff h.nodupR];exact h.perm.mem_iff.2 hl
theorem SameS.paths(h:SameS L R):upTxt (L.map Prod.fst)=R.map Prod.fst:=by
 unfold upTxt;have tr:∀a b c:List UInt8,decide (a<=b)=true->decide (b<=c)=true->decide (a<=c)=true:=fun a b c h1 h2=>by simp only [decide_eq_true_eq]at *;exact List.le_trans h1 h2
 have tot:∀a b:List UInt8,(decide (a<=b) || decide (b<=a))=true:=fun a b=>by simp only [Bool.or_eq_true,decide_eq_true_eq];exact List.le_total a b
 refine List.Perm.eq_of_pairwise (le:=fun a b=>decide (a<=b)=true) (fun a b _ _ h1 h2=>?_) (List.pairwise_mergeSort tr tot _) (h.up.imp (fun h=>decide_eq_true h)) ((List.mergeSort_perm _ _).trans (h.perm.map Prod.fst).symm);simp only [decide_eq_true_eq]at h1 h2;exact List.le_antisymm h1 h2
def slotOf(R:FsL)(p:List UInt8):Nat:=(R.takeWhile fun x=>decide (x.1<p)).length
def insR(R:FsL)(p l:List UInt8):FsL:=R.take (slotOf R p)++(p,l) :: R.drop (slotOf R p)
theorem slot_le(R:FsL)(p:List UInt8):slotOf R p<=R.length:=(List.takeWhile_sublist _).length_le
theorem slot_take(R:FsL)(p:List UInt8):R.take (slotOf R p)=R.takeWhile fun x=>decide (x.1<p):=by
 unfold slotOf
 induction R with
 | nil=>rfl
 | cons x r ih=>
  rw [List.takeWhile_cons];split
  ·rw [List.length_cons,List.take_succ_cons,ih]
  ·rfl
theorem slot_drop(R:FsL)(p:List UInt8):R.drop (slotOf R p)=R.dropWhile fun x=>decide (x.1<p):=by
 unfold slotOf
 induction R with
 | nil=>rfl
 | cons x r ih=>
  rw [List.takeWhile_cons,List.dropWhile_cons];split
  ·rw [List.length_cons,List.drop_succ_cons,ih]
  ·rfl
theorem drop_ge{R:FsL}{p:List UInt8}(hu:(R.map Prod.fst).Pairwise (fun a b=>a<=b)):∀x∈R.dropWhile (fun x=>decide (x.1<p)),p<=x.1:=by
 induction R with
 | nil=>simp
 | cons y r ih=>
  rw [List.map_cons,List.pairwise_cons]at hu;rw [List.dropWhile_cons];split
  ·exact ih hu.2
  ·rename_i hc;intro x hx;have hy:p<=y.1:=by
    have:¬y.1<p:=by simpa using hc
    exact List.not_lt.1 this
   rcases List.mem_cons.1 hx with rfl|hx
   ·exact hy
   ·exact List.le_trans hy (hu.1 _ (List.mem_map_of_mem (f:=Prod.fst) hx))
theorem insR_perm(R:FsL)(p l:List UInt8):(insR R p l).Perm (R++[(p,l)]):=by
 unfold insR;refine List.perm_middle.trans ?_;rw [List.take_append_drop];exact(List.perm_append_singleton (p,l) R).symm
theorem SameS.put{L':FsL}{p l:List UInt8}(h:SameS L R)(hp:putL L p l=some L'):SameS L' (insR R p l):=by
 obtain⟨rfl,h1,h2,h3,h4,_⟩:=putL_some hp;refine⟨(insR_perm R p l).trans (h.perm.append_right _),?_,?_,fun x hx=>?_,?_⟩
 ·rw [List.map_append,List.nodup_append];refine⟨h.nodup,by simp,fun a ha c hc=>?_⟩;simp at hc;subst hc;rintro rfl;exact lookup_mem.1 h1 ha
 ·unfold insR;rw [List.map_append,List.map_cons,List.pairwise_append];have hu:=h.up;refine⟨?_,?_,?_⟩
  ·rw [<-List.take_append_drop (slotOf R p) R,List.map_append,List.pairwise_append]at hu;exact hu.1
  ·rw [List.pairwise_cons];refine⟨fun a ha=>?_,?_⟩
   ·obtain⟨x,hx,rfl⟩:=List.mem_map.1 ha;rw [slot_drop]at hx;exact drop_ge h.up x hx
   ·rw [<-List.take_append_drop (slotOf R p) R,List.map_append,List.pairwise_append]at hu;exact hu.2.1
  ·intro a ha c hc;obtain⟨x,hx,rfl⟩:=List.mem_map.1 ha;rw [slot_take]at hx;have hlt:x.1<p:=by
    have:=List.all_eq_true.1 (List.all_takeWhile (p:=fun x:List UInt8 × List UInt8=>decide (x.1<p)) (l:=R)) x hx;simpa using this
   have hle:x.1<=p:=List.le_of_lt hlt;rcases List.mem_cons.1 hc with rfl|hc
   ·exact hle
   ·obtain⟨y,hy,rfl⟩:=List.mem_map.1 hc;rw [slot_drop]at hy;exact List.le_trans hle (drop_ge h.up y hy)
 ·rcases List.mem_append.1 ((insR_perm R p l).mem_iff.1 hx)with hx|hx
  ·exact h.small x hx
  ·simp at hx;subst hx;exact h3
 ·rw [(insR_perm R p l).length_eq,List.length_append,h.len];exact h4
theorem SameS.may(h:SameS L R)(p l:List UInt8):(putL R p l).isSome=(putL L p l).isSome:=by
 unfold putL;rw [h.look,h.len];split<;>rfl
end
end Go.Proofs.YtnnpoodcdibpiaaGreatDoor
namespace Go.Proofs.YtnnpoodcdibpiaaGreatDoor
open Go.RowKit Go.ChangeShapes Go.WideShapes Go.ChangeAt Go.Joins Go.Deep
set_option maxRecDepth 100000
set_option maxHeartbeats 8000000
def ActsIn(w:World)(A:Option Addr)(n c:Nat)(l:List ActX):Prop:=
 l.length=n/\n<=c/\∀i,i<n->(l.getD i ActX.zero).In w/\∃b o,A=some ⟨b,o,none⟩/\b<w.heap.size/\∀(j:Nat) (v:Value),(l.getD i ActX.zero).cells[j]?=some v->w.cell? ⟨b,o+i*6+j,none⟩=some v
section
variable {H : Type} {enc : TypeId × Value → H} {w : World} {base : Nat} {held : Bool}
theorem act_choose(n:Nat)(P:Nat->ActX->Prop)(h:∀i,i<n->∃l,P i l):∃ls:List ActX,ls.length=n/\∀i,i<n->P i (ls.getD i ActX.zero):=by
 induction n with
 | zero=>exact⟨[],rfl,fun i h=>absurd h (by omega)⟩
 | succ n ih=>
  obtain⟨ls,h1,h2⟩:=ih (fun i hi=>h i (by omega));obtain⟨l,hl⟩:=h n (by omega);refine⟨ls++[l],by simp [h1],fun i hi=>?_⟩;rw [List.getD_eq_getElem?_getD];by_cases e:i=n
  ·subst e;rw [List.getElem?_append_right (by omega),h1,Nat.sub_self];exact hl
  ·rw [List.getElem?_append_left (by omega),<-List.getD_eq_getElem?_getD];exact h2 i (by omega)
theorem acts_form{fuel:Nat}{v:Value}{x:DataW H × List MemPlace}(h:DataW.trod enc Tryz.prog w base (fun _=>true) held fuel 38 [v]=some x):∃A n c rs,v=.slice A n c/\n<=9223372036854775807/\ActsIn w A n c rs:=by
 rcases open_slice Tryz.underlying38 h with⟨hcs,_⟩|⟨a,len,cap,m,n,D,Pl,hcs,_,hl,hm,hmm,_,hall⟩
 ·injection hcs with hcs;exact⟨none,0,0,[],hcs,by omega,rfl,Nat.le_refl _,fun i hi=>absurd hi (by omega)⟩
 ·injection hcs with hcs;rw [if_pos rfl]at hmm;subst hmm;have each:∀i,i<len->∃r:ActX,r.In w/\∃b o,some a=some ⟨b,o,none⟩/\b<w.heap.size/\(∀(j:Nat) (v:Value),r.cells[j]?=some v->w.cell? ⟨b,o+i*6+j,none⟩=some v):=by
   intro i hi;obtain⟨cs',hc,ht⟩:=hall i (by omega);rw [acellsA]at hc;obtain⟨_,hcl,hat⟩:=World.cells?_some hc;obtain⟨r,hr,rfl⟩:=act_form ht;obtain⟨b,off,spot⟩:=a;have hspot:spot=none:=by
    obtain⟨cs0,hc0,ht0⟩:=hall 0 (by omega);obtain⟨_,hcl0,hat0⟩:=World.cells?_some hc0;have z0:=hat0 0 (by have:=acellsA;omega);rw [Nat.zero_mul]at z0;obtain⟨v0,hv0⟩:∃v,cs0[0]?=some v:=⟨_,List.getElem?_eq_getElem (by have:=acellsA;omega)⟩
    rw [hv0]at z0;exact World.cell?_spot z0
   subst hspot;have hk:∀(j:Nat) (v:Value),r.cells[j]?=some v->w.cell? ⟨b,off+i*6+j,none⟩=some v:=by
    intro j v hv;have hj:j<6:=(List.getElem?_eq_some_iff.1 hv).1;have k:=hat j (by omega);rw [addr_add',addr_add']at k;rw [k];exact hv
   have k0:=hk 0 _ rfl;exact⟨r,hr,b,off,rfl,World.block_lt_of_cell? w _ k0,hk⟩
  obtain⟨ls,e1,e2⟩:=act_choose len (fun i r=>r.In w/\∃b o,some a=some ⟨b,o,none⟩/\b<w.heap.size/\(∀(j:Nat) (v:Value),r.cells[j]?=some v->w.cell? ⟨b,o+i*6+j,none⟩=some v)) each;exact⟨some a,len,_,ls,hcs,by unfold maxLen at hm;omega,e1,hl,fun i hi=>e2 i hi⟩
theorem open_acts{r:Reach}{b0:Nat}{v:Value}{d:DataW H}{p:List MemPlace}(hv:Value.okWide Tryz.prog w r b0 38 v)(h:DataW.Trod enc Tryz.prog w base (fun _=>true) held 38 v d p):∃A n c rs,v=.slice A n c/\n<=9223372036854775807/\ActsIn w A n c rs:=by
 obtain⟨a0,len0,cap0,rfl⟩:=okWide_slice Tryz.underlying38 hv;obtain⟨fuel,hf⟩:=h;have hf':DataW.trod enc Tryz.prog w base (fun _=>true) held fuel 38 [.slice a0 len0 cap0]=some (d,p):=by simpa [Value.cells]using hf
 exact acts_form hf'
end
end Go.Proofs.YtnnpoodcdibpiaaGreatDoor
