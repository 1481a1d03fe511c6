/-
  quant: side, Step, Value, within, all.
-/
import Derived.Test.YtnnpoodcdibpiaaGreatDoorB2
import Derived.Laws.Tables
import Derived.Laws.Rows
import Derived.StillTailTactics
namespace Go.Proofs.YtnnpoodcdibpiaaGreatDoor
open Go.RowKit
set_option maxRecDepth 100000
set_option maxHeartbeats 8000000
def sideOf(n:Nat):Nat:=if n=16 then 4 else if n=64 then 8 else 0
theorem quantSide(w:World)(n:Nat)(hn:n<=9223372036854775807):Calls Tryz.prog 394 #[.int .i64 (n:Int)] w fun e w'=>e=.returned (.int .i64 ((sideOf n:Nat):Int))/\w=w':=by
 unfold sideOf;by_cases h1:n=16
 ·subst h1;go_enter Tryz.func394,Tryz.ntmps394;go_wp2_with fail;go_ret;exact⟨rfl,rfl⟩
 ·by_cases h2:n=64
  ·subst h2;go_enter Tryz.func394,Tryz.ntmps394;go_wp2_with fail;go_ret;exact⟨rfl,rfl⟩
  ·rw [if_neg h1,if_neg h2];have e1:((n:Int) == 16)=false:=beq_eq_false_iff_ne.2 (by omega);have e2:((n:Int) == 64)=false:=beq_eq_false_iff_ne.2 (by omega);go_enter Tryz.func394,Tryz.ntmps394;go_wp2_with fail;go_ret;exact⟨rfl,rfl⟩
def stepOf(q x y:Int):Int:=(4+q % 4)*2 ^ (q/4).toNat/4*(4+x+y)/4
def stepOk(q x y:Int):Bool:=decide (0<=q/\q<=31/\0<=x/\x<=7/\0<=y/\y<=7)
theorem may_any(w:World)(v m:Int):Calls Tryz.prog 344 #[.int .i64 v,.int .i64 m] w fun e w'=>e=.returned (.bool (decide (0<=v/\v<=m)))/\w=w':=by
 by_cases h:0<=v
 ·have e1:decide (0<=v)=true:=by simpa using h
  rw [show decide (0<=v/\v<=m)=decide (v<=m)by simp [h]];go_enter Tryz.func344,Tryz.ntmps344;go_wp2_with fail;go_ret;exact⟨rfl,rfl⟩
 ·have e1:decide (0<=v)=false:=by simpa using h
  rw [show decide (0<=v/\v<=m)=false by simp [h]];go_enter Tryz.func344,Tryz.ntmps344;go_wp2_with fail;go_ret;exact⟨rfl,rfl⟩
theorem quantValue(w:World)(v s:Int)(hs:1<=s)(hv:-9223372036854775808<=v*s/\v*s<=9223372036854775807):Calls Tryz.prog 397 #[.int .i64 v,.int .i64 s] w fun e w'=>e=.returned (.int .i64 (v*s))/\w=w':=by
 go_enter Tryz.func397,Tryz.ntmps397;go_wp2_with fail;go_ret;exact⟨rfl,rfl⟩
theorem quantWithin(w:World)(m:Int):Calls Tryz.prog 362 #[.int .i64 m] w fun e w'=>e=.returned (.func (.func 395) #[] #[.pointer (some ⟨w.heap.size,0,none⟩)])/\Blk w' w.heap.size 3 #[.int .i64 m]/\Mod (fun _=>False) w w':=by
 go_enter Tryz.func362,Tryz.ntmps362;go_wp2_with fail;go_ret;exact⟨rfl,Blk.new _ _ _,(Mod.refl _ _).alloc _⟩
def inB(m v:Int):Bool:=decide (-m<=v/\v<=m)
theorem quantIn(w:World)(b:Nat)(m v:Int)(hm:0<=m/\m<=1099511627776)(hb:Blk w b 3 #[.int .i64 m]):Calls Tryz.prog 395 #[.int .i64 v,.pointer (some ⟨b,0,none⟩)] w fun e w'=>e=.returned (.bool (inB m v))/\w=w':=by
 obtain⟨hc,hf⟩:=hb.both;unfold inB;clear hb;by_cases h:-m<=v
 ·have e1:decide (-m<=v)=true:=by simpa using h
  rw [show decide (-m<=v/\v<=m)=decide (v<=m)by simp [h]];go_enter Tryz.func395,Tryz.ntmps395;go_wp2_with fail;go_ret;exact⟨rfl,rfl⟩
 ·have e1:decide (-m<=v)=false:=by simpa using h
  rw [show decide (-m<=v/\v<=m)=false by simp [h]];go_enter Tryz.func395,Tryz.ntmps395;go_wp2_with fail;go_ret;exact⟨rfl,rfl⟩
theorem step_bd(q x y:Int)(h:stepOk q x y=true):(4<=(4+q % 4)*2 ^ (q/4).toNat/\(4+q % 4)*2 ^ (q/4).toNat<=896)/\1<=stepOf q x y/\stepOf q x y<=1008/\stepOf q x y=wrap64 (wrap64 ((4+q % 4)*2 ^ (q/4).toNat)/4*(4+x+y))/4:=by
 unfold stepOk at h;simp only [decide_eq_true_eq]at h;obtain⟨q1,q2,x1,x2,y1,y2⟩:=h;have hp:4<=(4+q % 4)*2 ^ (q/4).toNat/\(4+q % 4)*2 ^ (q/4).toNat<=896:=by
  have hk:(q/4).toNat=0\/(q/4).toNat=1\/(q/4).toNat=2\/(q/4).toNat=3\/(q/4).toNat=4\/(q/4).toNat=5\/(q/4).toNat=6\/(q/4).toNat=7:=by omega
  rcases hk with e|e|e|e|e|e|e|e<;>rw [e]<;>simp only [Int.reducePow]<;>omega
 refine⟨hp,?_⟩;unfold stepOf;generalize (4+q % 4)*2 ^ (q/4).toNat=p at *;rw [IntWalk.wrap64_in p ⟨by omega,by omega⟩];have h1:1<=p/4/\p/4<=224:=by omega
 generalize p/4=r at *;have h2:4<=r*(4+x+y):=by
  have:=Int.mul_le_mul h1.1 (show 4<=4+x+y by omega) (by omega) (by omega);omega
 have h3:r*(4+x+y)<=224*18:=Int.mul_le_mul h1.2 (show 4+x+y<=18 by omega) (by omega) (by omega);generalize r*(4+x+y)=m at *;rw [IntWalk.wrap64_in m ⟨by omega,by omega⟩];omega
theorem quantStep_yes(w:World)(q x y:Int)(h:stepOk q x y=true):Calls Tryz.prog 302 #[.int .i64 q,.int .i64 x,.int .i64 y] w fun e w'=>e=.returned (.tuple #[.int .i64 (stepOf q x y),.int .i64 0])/\w=w':=by
 have HS:=Lib.hid (step_bd q x y h).2.2.2;unfold stepOk at h;simp only [decide_eq_true_eq]at h;obtain⟨q1,q2,x1,x2,y1,y2⟩:=h;have d1:decide (0<=q/\q<=31)=true:=by simp;omega
 have d2:decide (0<=x/\x<=7)=true:=by simp;omega
 have d3:decide (0<=y/\y<=7)=true:=by simp;omega
 go_enter Tryz.func302,Tryz.ntmps302;go_wp2_with fail;refine(may_any _ q 31).mono ?_;rintro e w1 ⟨rfl,rfl⟩;rw [d1];go_wp2_with fail;refine(may_any _ x 7).mono ?_;rintro e w1 ⟨rfl,rfl⟩;rw [d2];go_wp2_with fail;refine(may_any _ y 7).mono ?_;rintro e w1 ⟨rfl,rfl⟩;rw [d3];clear d1 d2 d3;go_wp2_with fail;go_ret2;exact⟨by rw [HS.out];rfl,rfl⟩
theorem quantStep_no(w:World)(q x y:Int)(h:stepOk q x y=false):Calls Tryz.prog 302 #[.int .i64 q,.int .i64 x,.int .i64 y] w fun e w'=>e=.returned (.tuple #[.int .i64 0,.int .i64 1])/\w=w':=by
 unfold stepOk at h;simp only [decide_eq_false_iff_not]at h;go_enter Tryz.func302,Tryz.ntmps302;go_wp2_with fail;refine(may_any _ q 31).mono ?_;rintro e w1 ⟨rfl,rfl⟩;by_cases d1:0<=q/\q<=31
 ·rw [decide_eq_true d1];go_wp2_with fail;refine(may_any _ x 7).mono ?_;rintro e w1 ⟨rfl,rfl⟩;by_cases d2:0<=x/\x<=7
  ·rw [decide_eq_true d2];go_wp2_with fail;refine(may_any _ y 7).mono ?_;rintro e w1 ⟨rfl,rfl⟩;rw [decide_eq_false (show ¬(0<=y/\y<=7)by omega)];go_wp2_with fail;go_ret2;exact⟨rfl,rfl⟩
  ·rw [decide_eq_false d2];go_wp2_with fail;go_ret2;exact⟨rfl,rfl⟩
 ·rw [decide_eq_false d1];go_wp2_with fail;go_ret2;exact⟨rfl,rfl⟩
def allB(m:Int)(l:List Int):Bool:=decide (sideOf l.length≠0)&&l.all (inB m)
theorem allB_yes{m:Int}{l:List Int}(h1:sideOf l.length≠0)(h2:∀j<l.length,inB m (l.getD j 0)=true):allB m l=true:=by
 unfold allB;rw [Bool.and_eq_true,decide_eq_true_eq,List.all_eq_true];refine⟨h1,fun x hx=>?_⟩;obtain⟨j,hj,rfl⟩:=List.getElem_of_mem hx;have:=h2 j hj;rwa [List.getD_eq_getElem?_getD,List.getElem?_eq_getElem hj]at this
theorem allB_no{m:Int}{l:List Int}(j:Nat)(hj:j<l.length)(h2:inB m (l.getD j 0)=false):allB m l=false:=by
 unfold allB;rw [Bool.and_eq_false_iff];right;rw [List.all_eq_false];refine⟨l[j],List.getElem_mem hj,?_⟩;rw [List.getD_eq_getElem?_getD,List.getElem?_eq_getElem hj]at h2;have h3:inB m l[j]=false:=h2;rw [h3];decide
theorem quantAll(w:World)(A:Option Addr)(n c bb:Nat)(l:List Int)(m:Int)(hin:IntsIn w A n c l)(hn:n<=1048576)(hm:0<=m/\m<=1099511627776)(hb:Blk w bb 3 #[.int .i64 m]):
  Calls Tryz.prog 361 #[.slice A n c,.func (.func 395) #[] #[.pointer (some ⟨bb,0,none⟩)]] w fun e w'=>e=.returned (.bool (allB m l))/\w=w':=by
 obtain rfl:l.length=n:=hin.1;by_cases hs:sideOf l.length=0
 ·have HA:Hid (allB m l=false):=by show _=_;unfold allB;rw [hs];rfl
  go_enter Tryz.func361,Tryz.ntmps361;go_wp2_with fail;refine(quantSide _ l.length (by omega)).mono ?_;rintro e w1 ⟨rfl,rfl⟩;rw [hs];clear hs;go_wp2_with fail;go_ret;exact⟨by rw [HA.out];rfl,rfl⟩
 ·have hs1:(((sideOf l.length:Nat):Int) == 0)=false:=beq_eq_false_iff_ne.2 (by omega);have h0:0<l.length:=by
   rcases Nat.eq_zero_or_pos l.length with e|e
   ·rw [e]at hs;exact absurd rfl hs
   ·exact e
  obtain⟨b,off,rfl,_,hc⟩:=hin.place h0;have HC:=Lib.hid hc;have HS:=Lib.hid hs;clear hin hc hs;go_enter Tryz.func361,Tryz.ntmps361;go_wp2_with fail;refine(quantSide _ l.length (by omega)).mono ?_;rintro e w1 ⟨rfl,rfl⟩;generalize ((sideOf l.length:Nat):Int)=sd at *;go_wp2_with fail;go_loop [13] (fun i=>∃k:Nat,k<=l.length/\i=.int .i64 k/\∀j<k,inB m (l.getD j 0)=true) (fun i=>l.length-(intOf i).toNat)
  case atStart=>exact⟨0,by omega,rfl,fun j hj=>by omega⟩
  case round=>
   obtain⟨k,hk,rfl,hall⟩:=hrel;have HL:=Lib.hid hall;clear hall;by_cases hlt:k<l.length
   ·have hck:=HC.out k hlt;have i1:(0:Int)<=(k:Int):=by omega
    have i2:(k:Int)<(l.length:Int):=by omega
    cases hv:inB m (l.getD k 0)with
    | true=>
     generalize hx:l.getD k 0=x at *;have HX:=Lib.hid (And.intro hx hv);clear hx;go_wp2_with fail;refine(quantIn _ bb m x hm hb).mono ?_;rintro e w1 ⟨rfl,rfl⟩;rw [hv];clear hv;go_wp2_with fail;go_round
     case rel=>exact⟨k+1,by omega,by go_num,fun j hj=>by
      by_cases e:j=k
      ·subst e;rw [HX.out.1];exact HX.out.2
      ·exact HL.out j (by omega)⟩
     case measure=>simp [intOf];omega
    | false=>
     have HA:Hid (allB m l=false):=allB_no k hlt hv;generalize hx:l.getD k 0=x at *;clear hx;go_wp2_with fail;refine(quantIn _ bb m x hm hb).mono ?_;rintro e w1 ⟨rfl,rfl⟩;rw [hv];clear hv;go_wp2_with fail;go_ret;exact⟨by rw [HA.out];rfl,rfl⟩
   ·have HA:Hid (allB m l=true):=allB_yes HS.out (fun j hj=>HL.out j (by omega));go_wp2_with fail;go_ret;exact⟨by rw [HA.out];rfl,rfl⟩
theorem liftSide(w:World)(n:Nat)(hn:n<=9223372036854775807):Calls Tryz.prog 392 #[.int .i64 (n:Int)] w fun e w'=>e=.returned (.int .i64 ((sideOf n:Nat):Int))/\w=w':=by
 unfold sideOf;by_cases h1:n=16
 ·subst h1;go_enter Tryz.func392,Tryz.ntmps392;go_wp2_with fail;go_ret;exact⟨rfl,rfl⟩
 ·by_cases h2:n=64
  ·subst h2;go_enter Tryz.func392,Tryz.ntmps392;go_wp2_with fail;go_ret;exact⟨rfl,rfl⟩
  ·rw [if_neg h1,if_neg h2];have e1:((n:Int) == 16)=false:=beq_eq_false_iff_ne.2 (by omega);have e2:((n:Int) == 64)=false:=beq_eq_false_iff_ne.2 (by omega);go_enter Tryz.func392,Tryz.ntmps392;go_wp2_with fail;go_ret;exact⟨rfl,rfl⟩
theorem liftWithin(w:World)(m:Int):Calls Tryz.prog 354 #[.int .i64 m] w fun e w'=>e=.returned (.func (.func 393) #[] #[.pointer (some ⟨w.heap.size,0,none⟩)])/\Blk w' w.heap.size 3 #[.int .i64 m]/\Mod (fun _=>False) w w':=by
 go_enter Tryz.func354,Tryz.ntmps354;go_wp2_with fail;go_ret;exact⟨rfl,Blk.new _ _ _,(Mod.refl _ _).alloc _⟩
theorem liftIn(w:World)(b:Nat)(m v:Int)(hm:0<=m/\m<=1099511627776)(hb:Blk w b 3 #[.int .i64 m]):Calls Tryz.prog 393 #[.int .i64 v,.pointer (some ⟨b,0,none⟩)] w fun e w'=>e=.returned (.bool (inB m v))/\w=w':=by
 obtain⟨hc,hf⟩:=hb.both;unfold inB;clear hb;by_cases h:-m<=v
 ·have e1:decide (-m<=v)=true:=by simpa using h
  rw [show decide (-m<=v/\v<=m)=decide (v<=m)by simp [h]];go_enter Tryz.func393,Tryz.ntmps393;go_wp2_with fail;go_ret;exact⟨rfl,rfl⟩
 ·have e1:decide (-m<=v)=false:=by simpa using h
  rw [show decide (-m<=v/\v<=m)=false by simp [h]];go_enter Tryz.func393,Tryz.ntmps393;go_wp2_with fail;go_ret;exact⟨rfl,rfl⟩
def BlockPost(w:World)(m:Int)(l:List Int)(e:Ending)(w':World):Prop:=
 Mod (fun _=>False) w w'/\((allB m l=false/\e=.returned (.tuple #[.slice none 0 0,.int .i64 0,.int .i64 1]))\/∃v,allB m l=true/\e=.returned (.tuple #[v,.int .i64 ((sideOf l.length:Nat):Int),.int .i64 0])/\IntsOwn w' w.heap.size v l)
theorem liftBlock(w:World)(A:Option Addr)(n c bb:Nat)(l:List Int)(m:Int)(hin:IntsIn w A n c l)(hn:n<=1048576)(hm:0<=m/\m<=1099511627776)(hb:Blk w bb 3 #[.int .i64 m]):
  Calls Tryz.prog 353 #[.slice A n c,.func (.func 393) #[] #[.pointer (some ⟨bb,0,none⟩)]] w (BlockPost w m l):=by
 obtain⟨i0,hi0,hz0,hz1,hz2⟩:=info_parts int_info;obtain rfl:l.length=n:=hin.1;by_cases hs:sideOf l.length=0
 ·have HA:Hid (allB m l=false):=by show _=_;unfold allB;rw [hs];rfl
  go_enter Tryz.func353,Tryz.ntmps353;go_wp2_with fail;refine(liftSide _ l.length (by omega)).mono ?_;rintro e w1 ⟨rfl,rfl⟩;rw [hs];clear hs;go_wp2_with fail
  go_ret3
  exact⟨Mod.refl _ _,.inl ⟨HA.out,rfl⟩⟩
 ·have hs1:(((sideOf l.length:Nat):Int) == 0)=false:=beq_eq_false_iff_ne.2 (by omega);have h0:0<l.length:=by
   rcases Nat.eq_zero_or_pos l.length with e|e
   ·rw [e]at hs;exact absurd rfl hs
   ·exact e
  have HIN:=Lib.hid hin;obtain⟨b,off,rfl,_,hc⟩:=hin.place h0;have HC:=Lib.hid hc;have HS:=Lib.hid hs;clear hin hc hs;go_enter Tryz.func353,Tryz.ntmps353;go_wp2_with fail;refine(liftSide _ l.length (by omega)).mono ?_;rintro e w1 ⟨rfl,rfl⟩;obtain⟨sd,hsd⟩:∃sd,sd=((sideOf l.length:Nat):Int):=⟨_,rfl⟩
  rw [<-hsd]at hs1 ⊢;have HSD:=Lib.hid hsd;clear hsd;go_wp2_with fail;go_loop [17] (fun i=>∃k:Nat,k<=l.length/\i=.int .i64 k/\∀j<k,inB m (l.getD j 0)=true) (fun i=>l.length-(intOf i).toNat)
  case atStart=>exact⟨0,by omega,rfl,fun j hj=>by omega⟩
  case round=>
   obtain⟨k,hk,rfl,hall⟩:=hrel;have HL:=Lib.hid hall;clear hall;by_cases hlt:k<l.length
   ·have hck:=HC.out k hlt;have i1:(0:Int)<=(k:Int):=by omega
    have i2:(k:Int)<(l.length:Int):=by omega
    cases hv:inB m (l.getD k 0)with
    | true=>
     generalize hx:l.getD k 0=x at *;have HX:=Lib.hid (And.intro hx hv);clear hx;go_wp2_with fail;refine(liftIn _ bb m x hm hb).mono ?_;rintro e w1 ⟨rfl,rfl⟩;rw [hv];clear hv;go_wp2_with fail;go_round
     case rel=>exact⟨k+1,by omega,by go_num,fun j hj=>by
      by_cases e:j=k
      ·subst e;rw [HX.out.1];exact HX.out.2
      ·exact HL.out j (by omega)⟩
     case measure=>simp [intOf];omega
    | false=>
     have HA:Hid (allB m l=false):=allB_no k hlt hv;generalize hx:l.getD k 0=x at *;clear hx;go_wp2_with fail;refine(liftIn _ bb m x hm hb).mono ?_;rintro e w1 ⟨rfl,rfl⟩;rw [hv];clear hv;go_wp2_with fail
     go_ret3
     exact⟨Mod.refl _ _,.inl ⟨HA.out,rfl⟩⟩
   ·have HA:Hid (allB m l=true):=allB_yes HS.out (fun j hj=>HL.out j (by omega));have x1:0+l.length<=maxLen:=by unfold maxLen;omega
    have x2:(0+l.length)*8<=140737488355328:=by omega
    have HX:=Lib.hid (And.intro x1 x2);clear x1 x2;go_wp2_with (at_builtin;have _t:=HX;refine wpList_append_src _ rfl (.const (.slice none 0 0)) (.tmp 26) _ rfl w.heap.size 3 i0 _ 1 8 Tryz.underlying23 hi0 hz0 hz1 hz2 rfl (by omega) (.slice none 0 0) 0 [] rfl (World.ownsRow_nil _ _ _ _) (some ⟨b,off,none⟩) l.length c (i64s l) rfl HIN.out.2.2.1 (fun h=>by cases h) (i64s_one l) HX.out.1 HX.out.2 (Nat.le_refl _) ?_;intro v4 w4 hown4 hg4 hat4;have HO:=Lib.hid (And.intro hown4 hg4);clear HX _t hown4 hg4 hat4)
    go_ret3
    refine⟨(Mod.refl _ _).grown HO.out.2 (fun k hk=>by simp [Value.ownBlock]at hk),.inr ⟨_,HA.out,by rw [<-HSD.out];rfl,?_⟩⟩;have:=HO.out.1;unfold IntsOwn;simpa using this
theorem step_copy_blk{P:Program}{w:World}{ops:Array Oper}{o:Oper}{a:Act}{K:Act->World->Prop}{Q:Exit->Act->World->Prop}{E:Prop}(hgd:o.guard=none)(d s:Operand)(dT sT:TypeId)
  (ho:o.op=.call { callee:=.builtin .copy,args:=#[d,s],argTypes:=#[dT,sT] })(elem:TypeId)(hu:P.underlying dT=some (.slice elem))(hsz:(P.info? elem).map (·.size)=some 1)
  (dp:Option Addr)(dLen dCap:Nat)(A:Option Addr)(m c:Nat)(xs:List Value)(hd:a.eval d=.slice dp dLen dCap)(hs:a.eval s=.slice A m c)(hsrc:Src w 1 A m xs)
  (g off:Nat)(cur:List Value)(t:TypeId)(hg:Blk w g t cur.toArray)(n:Nat)(hn:n=Nat.min m dLen)(hdp:0<n->dp=some ⟨g,off,none⟩)(hfit:off+n<=cur.length)(h1:∀u∈xs,u.oneCell'=true)
  (h:∀w',Blk w' g t (splice cur off (xs.take n)).toArray->Mod (·=g) w w'->K (a.put o.dst (goInt n)) w'):
  if Region.wanted o (yielded ops a.tmps)=true then Oper.wp P o a w K Q else E:=by
 have hw:Region.wanted o (yielded ops a.tmps)=true:=by simp [Region.wanted,hgd]
 rw [if_pos hw];have hxl:xs.length=m:=by have:=hsrc.1;omega
 have hnm:n<=m:=by rw [hn];exact Nat.min_le_left _ _
 by_cases h0:n=0
 ·have hrun:=run_copy_none (P:=P) w dT sT o.type elem dp A dLen dCap m c hu hsz (by omega);unfold Oper.wp;simp [execOp,ho,resolve,invoke,builtin,hd,hs,hrun,Result.andThen];have:=h w (by rw [h0];simpa [splice]using hg) (Mod.refl _ _);rwa [h0]at this
 ·have hdp':=hdp (by omega);subst hdp';cases A with
  | none=>have:=hsrc.2.1 rfl;omega
  | some ad=>
   have hl:(xs.take n).length=n:=by rw [List.length_take];omega
   have hrun:=run_copy_row (P:=P) w dT sT o.type elem g off dLen dCap ad m c cur.toArray t (xs.take n) hu hsz hg (by rw [hl,hn]) (fun j v hv=>by
    rw [List.getElem?_take]at hv;split at hv
    ·exact hsrc.2.2 ad rfl j v hv
    ·cases hv) (by rw [hl];simpa using hfit) (fun v hv=>h1 v (List.mem_of_mem_take hv))
   rw [hl]at hrun;unfold Oper.wp;simp [execOp,ho,resolve,invoke,builtin,hd,hs,hrun,Result.andThen];refine h _ ?_ ⟨rfl,rfl,rfl,by simp [World.setRow],fun k _ hk=>setRow_other w g k _ hk⟩;have:=setRow_heap w g cur.toArray (splice cur off (xs.take n)).toArray t (0,0) hg;simpa [Blk,splice,hl]using this
def upA(m:Nat)(l:List Int)(i:Nat):Int:=l.getD i 0+(l.getD (m+i) 0+1)/2
def upB(m:Nat)(l:List Int)(i:Nat):Int:=upA m l i-l.getD (m+i) 0
def upK(m:Nat)(l:List Int):Nat->List Int
 | 0=>l
 | i+1=>((upK m l i).set (2*i) (upA m l i)).set (2*i+1) (upB m l i)
def upL(m:Nat)(l:List Int):List Int:=upK m l m
theorem upK_length(m:Nat)(l:List Int)(i:Nat):(upK m l i).length=l.length:=by
 induction i with
 | zero=>rfl
 | succ i ih=>simp [upK,ih]
def z4:List Value:=[.int .i64 0,.int .i64 0,.int .i64 0,.int .i64 0]
theorem getD_i64s(l:List Int)(i:Nat)(hi:i<l.length):(i64s l)[i]?=some (.int .i64 (l.getD i 0)):=by
 simp [i64s,hi]
theorem low_cell(xs:List Int)(m:Nat)(hl:xs.length=m)(i:Nat)(hi:i<m):(splice z4 0 ((i64s xs).take m)).toArray[i]?=some (.int .i64 (xs.getD i 0)):=by
 have h1:((i64s xs).take m)=i64s xs:=List.take_of_length_le (by simp [i64s,hl]);rw [h1];unfold splice;simp only [List.take_zero,List.nil_append,List.getElem?_toArray];rw [List.getElem?_append_left (by simp [i64s];omega)];exact getD_i64s xs i (by omega)
theorem src_blk{w:World}{g:Nat}{t:TypeId}{l:List Int}(hb:Blk w g t (i64s l).toArray)(a m:Nat)(ham:a+m<=l.length):Src w 1 (some ⟨g,a,none⟩) m (i64s ((l.drop a).take m)):=by
 refine⟨(by simp [i64s];omega),fun e=>(by cases e),fun ad e j u hu=>?_⟩;injection e with e;subst e;rw [addr_add',hb.cell];have hj:j<m:=by
  rcases Nat.lt_or_ge j m with h|h
  ·exact h
  ·rw [List.getElem?_eq_none (by simp [i64s];omega)]at hu;cases hu
 rw [<-hu];simp [i64s,hj]
def LineAt(l:List Int)(m:Nat)(l':List Int):Prop:=
 (m=1/\l'=l)\/(m=2/\l'=upL 1 l)\/(m=4/\l'=upL 2 (upL 1 l))\/(m=8/\l'=upL 4 (upL 2 (upL 1 l)))
theorem getD_set(l:List Int)(i j:Nat)(x:Int):(l.set i x).getD j 0=if i=j/\j<l.length then x else l.getD j 0:=by
 simp only [List.getD_eq_getElem?_getD,List.getElem?_set];by_cases h:i=j
 ·subst h;by_cases h2:i<l.length
  ·simp [h2]
  ·simp [h2]
 ·simp [h]
def Within(M:Int)(l:List Int):Prop:=∀i,-M<=l.getD i 0/\l.getD i 0<=M
theorem up_within(M:Int)(m:Nat)(l:List Int)(h:Within M l)(i:Nat):Within (3*M+1) (upK m l i):=by
 induction i with
 | zero=>intro j;have:=h j;simp only [upK];omega
 | succ i ih=>
  intro j;have h1:=ih j;have h2:=h i;have h3:=h (m+i);simp only [upK,getD_set,upA,upB];split
  ·omega
  ·split<;>omega
theorem lineAt_within{l l':List Int}{m:Nat}(hM:Within 1099511627776 l)(h:LineAt l m l')(hm:m<8):Within 17592186044416 l':=by
 have mono:∀ {A B:Int} {x:List Int},Within A x->A<=B->Within B x:=fun h hab i=>by have:=h i;omega
 have w1:=up_within _ 1 l hM 1;have w2:=up_within _ 2 _ w1 2;rcases h with⟨_,rfl⟩|⟨_,rfl⟩|⟨_,rfl⟩|⟨h,_⟩
 ·exact mono hM (by omega)
 ·exact mono w1 (by omega)
 ·exact mono w2 (by omega)
 ·omega
theorem lineAt_next{l l':List Int}{m:Nat}(h:LineAt l m l')(hm:m<8):LineAt l (m*2) (upL m l'):=by
 rcases h with⟨rfl,rfl⟩|⟨rfl,rfl⟩|⟨rfl,rfl⟩|⟨h,_⟩
 ·exact .inr (.inl ⟨rfl,rfl⟩)
 ·exact .inr (.inr (.inl ⟨rfl,rfl⟩))
 ·exact .inr (.inr (.inr ⟨rfl,rfl⟩))
 ·omega
theorem getD_part(l:List Int)(a m i:Nat)(hi:i<m):((l.drop a).take m).getD i 0=l.getD (a+i) 0:=by
 simp [List.getD_eq_getElem?_getD,hi]
theorem set_i64s(l:List Int)(i:Nat)(x:Int):(i64s l).toArray.setIfInBounds i (.int .i64 x)=(i64s (l.set i x)).toArray:=by
 simp [i64s,List.map_set]
def innerRel(w:World)(g lo hi m:Nat)(l':List Int)(X5 X6:Array Value)(iv:Value)(wi:World):Prop:=
 ∃i:Nat,i<=m/\iv=.int .i64 (i:Int)/\Blk wi g 474 (i64s (upK m l' i)).toArray/\Blk wi lo 472 X5/\Blk wi hi 472 X6/\Mod (·=g) w wi
def lineRel(w:World)(g:Nat)(l:List Int)(mv:Value)(wr:World):Prop:=
 ∃m l',LineAt l m l'/\mv=.int .i64 (m:Int)/\Blk wr g 474 (i64s l').toArray/\Mod (·=g) w wr
theorem lineBack(w:World)(g:Nat)(l:List Int)(hl:l.length=8)(hM:Within 1099511627776 l)(hb:Blk w g 474 (i64s l).toArray):
  Calls Tryz.prog 399 #[.pointer (some ⟨g,0,none⟩),.int .i64 8] w fun e w'=>e=.returned (.tuple #[])/\Blk w' g 474 (i64s (upL 4 (upL 2 (upL 1 l)))).toArray/\Mod (·=g) w w':=by
 have HB:=Lib.hid hb;clear hb;go_enter Tryz.func399,Tryz.ntmps399;go_wp2_with fail;go_loopw [4] (lineRel w g l) (fun m _=>8-(intOf m).toNat)
 case atStart=>exact⟨1,l,.inl ⟨rfl,rfl⟩,rfl,HB.out,Mod.refl _ _⟩
 case round=>
  revert hrel;generalize wr=wr0;intro hrel;obtain⟨m,l',hat,rfl,hb,hm⟩:=hrel;by_cases h8:m<8
  ·have m1:1<=m/\m<=4/\2*m<=8:=by unfold LineAt at hat;omega
   have hl':l'.length=8:=by unfold LineAt upL at hat;rcases hat with⟨_,rfl⟩|⟨_,rfl⟩|⟨_,rfl⟩|⟨_,rfl⟩<;>simp [upK_length,hl]
   have HAT:=Lib.hid hat
   have HB2:=Lib.hid (And.intro hb hm);have hgl:=hb.lt;clear hat hb hm;go_upto_region 4 with(fail)
   have b5:Blk ((wr0.alloc (.cells #[.int .i64 0,.int .i64 0,.int .i64 0,.int .i64 0] 472)).alloc (.cells #[.int .i64 0,.int .i64 0,.int .i64 0,.int .i64 0] 472)) wr0.heap.size 472 z4.toArray:=(Blk.new wr0 _ _).alloc _;have b6:Blk ((wr0.alloc (.cells #[.int .i64 0,.int .i64 0,.int .i64 0,.int .i64 0] 472)).alloc (.cells #[.int .i64 0,.int .i64 0,.int .i64 0,.int .i64 0] 472)) (wr0.heap.size+1) 472 z4.toArray:=by
    have:=Blk.new (wr0.alloc (.cells #[.int .i64 0,.int .i64 0,.int .i64 0,.int .i64 0] 472)) 472 z4.toArray;rw [show(wr0.alloc (.cells #[.int .i64 0,.int .i64 0,.int .i64 0,.int .i64 0] 472)).heap.size=wr0.heap.size+1 by simp]at this;exact this
   have bg:=(HB2.out.1.alloc (.cells #[.int .i64 0,.int .i64 0,.int .i64 0,.int .i64 0] 472)).alloc (.cells #[.int .i64 0,.int .i64 0,.int .i64 0,.int .i64 0] 472);have hm1:=(HB2.out.2.alloc (.cells #[.int .i64 0,.int .i64 0,.int .i64 0,.int .i64 0] 472)).alloc (.cells #[.int .i64 0,.int .i64 0,.int .i64 0,.int .i64 0] 472);have sz:wr0.heap.size+2=((wr0.alloc (.cells #[.int .i64 0,.int .i64 0,.int .i64 0,.int .i64 0] 472)).alloc (.cells #[.int .i64 0,.int .i64 0,.int .i64 0,.int .i64 0] 472)).heap.size:=by simp
   generalize (wr0.alloc (.cells #[.int .i64 0,.int .i64 0,.int .i64 0,.int .i64 0] 472)).alloc (.cells #[.int .i64 0,.int .i64 0,.int .i64 0,.int .i64 0] 472)=w1 at *;have i1:(0:Int)<=(m:Int):=by omega
   have i2:(m:Int)<=4:=by omega
   have i3:(m:Int)<=8:=by omega
   have HS:Hid (Src w1 1 (some ⟨g,0,none⟩) m (i64s ((l'.drop 0).take m))):=src_blk bg 0 m (by omega);have HN:Hid (m=Nat.min m m/\0+m<=z4.length):=⟨(Nat.min_self m).symm,by show 0+m<=4;omega⟩
   have HW:=Lib.hid (And.intro b5 (And.intro b6 (And.intro bg hm1)));clear b5 b6 bg hm1;go_region_law (refine step_copy_blk rfl (.tmp 15) (.tmp 19) _ _ rfl 3 Tryz.underlying23 (by kernel_rfl) (some ⟨wr0.heap.size,0,none⟩) m 4 (some ⟨g,0,none⟩) m 8 _ rfl rfl HS.out wr0.heap.size 0 z4 472 HW.out.1 m HN.out.1 (fun _=>rfl) HN.out.2 (i64s_one _) ?_;intro w2 hb2 hm2;have HW2:=Lib.hid (And.intro hb2 hm2);clear hb2 hm2)
   obtain⟨hb2,hm2⟩:=HW2.out;obtain⟨b5,b6,bg,hm1⟩:=HW.out;have hne:¬g=wr0.heap.size:=by omega
   have hm2':Mod (·=wr0.heap.size) w1 w2:=((Mod.refl _ w1).drew).trans hm2;have b62:=b6.keep hm2' (by omega);have bg2:=bg.keep hm2' hne;have hm2f:=hm1.then_ hm2' (fun k hk e=>by have:=HB2.out.2.size;omega);have sz2:=hm2'.size;have HS3:Hid (Src w2 1 (some ⟨g,m,none⟩) m (i64s ((l'.drop m).take m))):=src_blk bg2 m m (by omega);have HW3:=Lib.hid (And.intro hb2 (And.intro b62 (And.intro bg2 hm2f)));clear hb2 hm2 b5 b6 bg hm1 hm2' b62 bg2 hm2f HW2 HW HS;obtain⟨n2,hn2,e5⟩:∃n2:Nat,(2:Int)*(m:Int)=(n2:Int)/\n2-m=m:=⟨2*m,by omega,by omega⟩
   have e6:IntKind.i64.wrap (n2:Int)=(n2:Int):=by rw [IntKind.wrap_i64];omega
   have i5:(m:Int)<=(n2:Int):=by omega
   have i6:(n2:Int)<=8:=by omega
   have e2:¬(8:Int)=(m:Int):=by omega
   have e3:¬8=m:=by omega
   have e4:(n2:Int)-(m:Int)=(m:Int):=by omega
   go_upto_region 5 with(fail)
   go_region_law (refine step_copy_blk rfl (.tmp 22) (.tmp 28) _ _ rfl 3 Tryz.underlying23 (by kernel_rfl) (some ⟨wr0.heap.size+1,0,none⟩) m 4 (some ⟨g,m,none⟩) m (8-m) _ (by simp [Act.eval,Act.put]) (by simp [Act.eval,Act.put]) HS3.out (wr0.heap.size+1) 0 z4 472 HW3.out.2.1 m HN.out.1 (fun _=>rfl) HN.out.2 (i64s_one _) ?_;intro w3 hb3 hm3;have HW4:=Lib.hid (And.intro hb3 hm3);clear hb3 hm3)
   have HE6:=Lib.hid e6;clear e2 e3 e4 e5 e6 hn2 HS3;obtain⟨hb3,hm3⟩:=HW4.out;obtain⟨b5,b6,bg,hm1⟩:=HW3.out;have hne:¬g=wr0.heap.size+1:=by omega
   have hm3':Mod (·=wr0.heap.size+1) w2 w3:=((Mod.refl _ w2).drew).trans hm3;have b53:=b5.keep hm3' (by omega);have bg3:=bg.keep hm3' hne;have hm3f:=hm1.then_ hm3' (fun k hk e=>by have:=HB2.out.2.size;omega);have h5:∀i<m,_:=fun i hi=>low_cell ((l'.drop 0).take m) m (by simp;omega) i hi;have h6:∀i<m,_:=fun i hi=>low_cell ((l'.drop m).take m) m (by simp;omega) i hi;generalize (splice z4 0 (List.take m (i64s (List.take m (List.drop 0 l'))))).toArray=X5 at *;generalize (splice z4 0 (List.take m (i64s (List.take m (List.drop m l'))))).toArray=X6 at *;have HX:=Lib.hid (And.intro h5 h6);have HI:=Lib.hid (And.intro b53 (And.intro hb3 (And.intro bg3 hm3f)));clear hb3 hm3 b5 b6 bg hm1 hm3' b53 bg3 hm3f HW3 HW4 h5 h6;go_wp2_with fail;go_loopw [31] (innerRel w g wr0.heap.size (wr0.heap.size+1) m l' X5 X6) (fun i _=>m-(intOf i).toNat)
   case atStart=>exact⟨0,by omega,rfl,HI.out.2.2.1,HI.out.1,HI.out.2.1,HI.out.2.2.2⟩
   case round=>
    obtain⟨i,hi,rfl,bg,b5,b6,hm⟩:=hrel;by_cases hlt:i<m
    ·have c5:=b5.cell i;have c6:=b6.cell i;rw [HX.out.1 i hlt,getD_part _ _ _ _ hlt,Nat.zero_add]at c5;rw [HX.out.2 i hlt,getD_part _ _ _ _ hlt]at c6;have hw1:=lineAt_within hM HAT.out h8 i;have hw2:=lineAt_within hM HAT.out h8 (m+i);obtain⟨a,ha⟩:∃a,a=l'.getD i 0:=⟨_,rfl⟩
     obtain⟨h,hh⟩:∃h,h=l'.getD (m+i) 0:=⟨_,rfl⟩
     rw [<-ha]at c5 hw1;rw [<-hh]at c6 hw2;have HA:=Lib.hid (And.intro ha hh);clear ha hh;obtain⟨k2,hk2,hk3⟩:∃k2:Nat,(2:Int)*(i:Int)=(k2:Int)/\k2=2*i:=⟨2*i,by omega,rfl⟩
     have k2w:IntKind.i64.wrap (k2:Int)=(k2:Int):=by rw [IntKind.wrap_i64];omega
     have k2x:IntKind.i64.wrap ((k2:Int)+1)=(k2:Int)+1:=by rw [IntKind.wrap_i64];omega
     have j1:(0:Int)<=(i:Int):=by omega
     have j2:(i:Int)<4:=by omega
     have j3:(0:Int)<=(k2:Int):=by omega
     have j4:(k2:Int)<8:=by omega
     have j5:(k2:Int)+1<8:=by omega
     have HK3:=Lib.hid hk3;have k3l:k2+1<8:=by omega
     clear hk3;have HK:=Lib.hid (And.intro bg (And.intro b5 (And.intro b6 hm)));have f0:=bg.frozen;clear bg b5 b6 hm;go_wp2_with fail;go_quiet (fail)
     obtain⟨av,hav⟩:∃av,av=a+(h+1)/2:=⟨_,rfl⟩
     rw [<-hav];have hv1:-35184372088832<=av/\av<=35184372088832:=by omega
     have HV:=Lib.hid hav;clear hav;have HQ:Hid (Blk (wr.drewN nq) g 474 (i64s (upK m l' i)).toArray/\Blk (wr.drewN nq) wr0.heap.size 472 X5/\Blk (wr.drewN nq) (wr0.heap.size+1) 472 X6/\Mod (·=g) w (wr.drewN nq)):=⟨HK.out.1.drewN nq,HK.out.2.1.drewN nq,HK.out.2.2.1.drewN nq,HK.out.2.2.2.drewN nq⟩
     have hlu:(upK m l' i).length=8:=by rw [upK_length];exact hl'
     have c6':(wr.drewN nq).cell? ⟨wr0.heap.size+1,i,none⟩=some (.int .i64 h):=c6;clear c5 c6 f0 HK;generalize wr.drewN nq=wq at *;have s0:=HQ.out.1.cell k2;have s1:=HQ.out.1.cell (k2+1);rw [List.getElem?_toArray,getD_i64s _ _ (by omega)]at s0 s1;have f0:=HQ.out.1.frozen;have hne2:¬g=wr0.heap.size+1:=by omega
     have hne3:¬wr0.heap.size+1=g:=by omega
     go_wp2_with fail
     go_region
     go_wp2_with fail;refine⟨⟨i+1,by omega,by go_num,?_,?_,?_,?_⟩,by simp [intOf];omega⟩
     ·have hb':=((HQ.out.1.set_ k2 (.int .i64 av)).set_ (k2+1) (.int .i64 (av-h))).drew;rw [set_i64s,set_i64s]at hb';rw [upK,upB,upA,<-HA.out.1,<-HA.out.2,<-HV.out,<-HK3.out];exact hb'
     ·exact((HQ.out.2.1.far (p:=⟨g,k2,none⟩) (by show ¬_=g;omega) _).far (p:=⟨g,k2+1,none⟩) (by show ¬_=g;omega) _).drew
     ·exact((HQ.out.2.2.1.far (p:=⟨g,k2,none⟩) (by show ¬_=g;omega) _).far (p:=⟨g,k2+1,none⟩) (by show ¬_=g;omega) _).drew
     ·exact((HQ.out.2.2.2.setCell (.inl rfl) _).setCell (.inl rfl) _).drew
    ·obtain rfl:i=m:=by omega
     have HN2:=Lib.hid (lineAt_next HAT.out h8);have HF:=Lib.hid (And.intro bg hm);clear bg hm b5 b6;have x1:(i:Int)*2=((i*2:Nat):Int):=by omega
     have HX1:=Lib.hid x1;clear x1;go_wp2_with fail;refine⟨⟨i*2,_,HN2.out,by rw [HX1.out],HF.out.1,HF.out.2⟩,?_⟩;simp [intOf];omega
  ·obtain rfl:m=8:=by unfold LineAt at hat;omega
   obtain rfl:l'=upL 4 (upL 2 (upL 1 l)):=by
    unfold LineAt at hat
    rcases hat with⟨h,_⟩|⟨h,_⟩|⟨h,_⟩|⟨_,h⟩
    ·omega
    ·omega
    ·omega
    ·exact h
   have HF:=Lib.hid (And.intro hb hm);clear hb hm hat
   go_wp2_with fail;go_end0
   exact⟨rfl,HF.out⟩
section
variable {P : Program}
theorem run_storeCells_part(g:Nat)(t:TypeId)(off:Nat):∀(vs:List Value) (i:Nat) (cur:List Value) (w:World),Blk w g t cur.toArray->off+i+vs.length<=cur.length->(∀v∈vs,v.oneCell'=true) ->
  ∃w',(storeCells ⟨g,off,none⟩ vs i).run P w=.ok () w'/\Blk w' g t (splice cur (off+i) vs).toArray/\Mod (·=g) w w'
 | [],i,cur,w,hb,hl,h1=>⟨w,rfl,by
   have:splice cur (off+i) []=cur:=by simp [splice]
   rw [this];exact hb,Mod.refl _ _⟩
 | v :: rest,i,cur,w,hb,hl,h1=>by
  have hi:off+i<cur.length:=by simp at hl;omega
  have hcell:w.cell? ⟨g,off+i,none⟩=some cur[off+i]:=by rw [hb.cell];simp [hi]
  have hfro:=hb.frozen (off+i);have hst:(store ((⟨g,off,none⟩:Addr).add i) v).run P w=.ok () (w.setCell ⟨g,off+i,none⟩ v):=by
   rw [addr_add',run_store P w _ v _ (h1 v (by simp)),hcell];simp [hfro]
  have hb1:Blk (w.setCell ⟨g,off+i,none⟩ v) g t (cur.set (off+i) v).toArray:=hb.put (by simp);obtain⟨w',e,hb2,hm⟩:=run_storeCells_part g t off rest (i+1) (cur.set (off+i) v) _ hb1 (by simp at hl ⊢;omega) (fun x hx=>h1 x (by simp [hx]));refine⟨w',?_,?_,(((Mod.refl (·=g) w).setCell (p:=⟨g,off+i,none⟩) (.inl rfl) v)).trans hm⟩
  ·simp only [storeCells,Sem.run_bind,hst,Result.andThen_ok,e]
  ·have e2:splice (cur.set (off+i) v) (off+(i+1)) rest=splice cur (off+i) (v :: rest):=by
    unfold splice;have a1:(cur.set (off+i) v).take (off+(i+1))=cur.take (off+i)++[v]:=by
     rw [show off+(i+1)=(off+i)+1 by omega,List.take_succ_eq_append_getElem (by simp;exact hi)];rw [List.take_set_of_le (Nat.le_refl _)];simp
    have a2:(cur.set (off+i) v).drop (off+(i+1)+rest.length)=cur.drop (off+i+(v :: rest).length):=by
     rw [List.drop_set_of_lt (by omega)];congr 1;simp;omega
    rw [a1,a2];simp
   rwa [e2]at hb2
theorem run_storeVar_part(w:World)(g:Nat)(t ty:TypeId)(off:Nat)(cur cells:List Value)(hb:Blk w g t cur.toArray)(hi:(P.info? ty).map (·.size)=some cells.length)(hl:off+cells.length<=cur.length)(h1:∀v∈cells,v.oneCell'=true):
  ∃w',(storeVar ty ⟨g,off,none⟩ (.agg cells.toArray)).run P w=.ok () w'/\Blk w' g t (splice cur off cells).toArray/\Mod (·=g) w w':=by
 obtain⟨w',e,h2,h3⟩:=run_storeCells_part (P:=P) g t off cells 0 cur w hb (by omega) h1;refine⟨w',?_,by rwa [Nat.add_zero]at h2,h3⟩;cases hq:P.info? ty with
 | none=>simp [hq]at hi
 | some i=>
  have hs:cells.length=i.size:=by simp [hq]at hi;omega
  simp [storeVar,sizeOf,typeInfo,hq,Value.cells,hs,e]
theorem wp_store_part{o:Oper}{a:Act}{w:World}{K:Act->World->Prop}{Q:Exit->Act->World->Prop}(ty:TypeId)(x y:Operand)(ho:o.op=.store ty x y)
  (g off:Nat)(cells:List Value)(hx:a.eval x=.pointer (some ⟨g,off,none⟩))(hy:a.eval y=.agg cells.toArray)
  (t:TypeId)(cur:List Value)(hb:Blk w g t cur.toArray)(hi:(P.info? ty).map (·.size)=some cells.length)(hl:off+cells.length<=cur.length)(h1:∀v∈cells,v.oneCell'=true)
  (h:∀w',Blk w' g t (splice cur off cells).toArray->Mod (·=g) w w'->K (a.put o.dst undef) w'):o.wp P a w K Q:=by
 obtain⟨w',e,h2,h3⟩:=run_storeVar_part (P:=P) w g t ty off cur cells hb hi hl h1;unfold Oper.wp execOp;simp only [ho,hx,hy,Instr.storeAt,Instr.sureAddr,Sem.run_bind,Sem.run_pure,Result.andThen_ok,e];exact h w' h2 h3
theorem wpList_store_part{ops:Array Oper}{rest:List Oper}{o:Oper}{a:Act}{w:World}{Q:Exit->Act->World->Prop}(hgd:o.guard=none)(ty:TypeId)(x y:Operand)(ho:o.op=.store ty x y)
  (g off:Nat)(cells:List Value)(hx:a.eval x=.pointer (some ⟨g,off,none⟩))(hy:a.eval y=.agg cells.toArray)
  (t:TypeId)(cur:List Value)(hb:Blk w g t cur.toArray)(hi:(P.info? ty).map (·.size)=some cells.length)(hl:off+cells.length<=cur.length)(h1:∀v∈cells,v.oneCell'=true)
  (h:∀w',Blk w' g t (splice cur off cells).toArray->Mod (·=g) w w'->wpList P ops Q rest (a.put o.dst undef) w'):wpList P ops Q (o :: rest) a w:=
 wpList_plain hgd fun _ hK=>wp_store_part ty x y ho g off cells hx hy t cur hb hi hl h1 (fun w' a b=>hK _ _ (h w' a b))
theorem wpStill_load_row{ops:Array Oper}{w:World}{o:Oper}{rest:List Oper}{a:Act}{Q:Act->Prop}(hgd:o.guard=none)(ty:TypeId)(x:Operand)(ho:o.op=.load ty x)
  (g:Nat)(hx:a.eval x=.pointer (some ⟨g,0,none⟩))(t:TypeId)(cs:Array Value)(d:TypeDesc)(hb:Blk w g t cs)
  (hu:P.underlying ty=some d)(hd:(match d with | .struct _ | .array _ _=>true|_=>false)=true)(hi:(P.info? ty).map (·.size)=some cs.size)
  (h:wpStill P ops w Q rest (a.put o.dst (.agg cs))):wpStill P ops w Q (o :: rest) a:=by
 refine wpStill_step (fun K hK=>?_);have hw:Region.wanted o (yielded ops a.tmps)=true:=by simp [Region.wanted,hgd]
 rw [if_pos hw];unfold Oper.still execOp;simp only [ho,hx,Instr.loadAt,Instr.sureAddr,Sem.run_bind,Sem.run_pure,Result.andThen_ok,run_loadVar_row w g t ty cs (0,0) d hb hu hd hi];exact⟨rfl,hK _ h⟩
end
end Go.Proofs.YtnnpoodcdibpiaaGreatDoor
