/-
  quant: side, Step, Value, within, all.
-/
import Derived.Test.YthednemlahioeaaGreatDoorM1
import Derived.Laws.Tables
import Derived.StillTailTactics
namespace Go.Proofs.YthednemlahioeaaGreatDoor
open Go.RowKit
open Lib renaming hid→Z7
open List renaming getD_eq_getElem?_getD→Z6,getElem?_eq_getElem→ZP,getElem?_toArray→Zo,take→VC,drop→Q6
open Region renaming wanted→ZH
open And renaming intro→Z9
open IntKind renaming wrap_i64→Vi
open Sem renaming run_bind→Xm,run_pure→Wi
open Result renaming andThen_ok→Yj
open Go.Proofs.Tryz
set_option maxRecDepth 100000
set_option maxHeartbeats 8000000
def XL(n:Nat):Nat:=if n=16 then 4 else if n=64 then 8 else 0
theorem Kg(w:World)(n:Nat)(hn:n<=9223372036854775807):Calls prog 402 #[↑n] w fun e w'=>e=.returned ↑(XL n:Nat)/\w=w':=by
 unfold XL;by_cases h1:n=16
 ·subst h1;go_enter func402,ntmps402;go_wp2_with fail;go_ret;exact⟨rfl,rfl⟩
 ·by_cases h2:n=64
  ·subst h2;go_enter func402,ntmps402;go_wp2_with fail;go_ret;exact⟨rfl,rfl⟩
  ·rw [if_neg h1,if_neg h2];have e1:((n:Int) == 16)=false:=beq_eq_false_iff_ne.2 Z8;have e2:((n:Int) == 64)=false:=beq_eq_false_iff_ne.2 Z8;go_enter func402,ntmps402;go_wp2_with fail;go_ret;exact⟨rfl,rfl⟩
def stepOf(q x y:Int):Int:=(4+q % 4)*2 ^ (q/4).toNat/4*(4+x+y)/4
def Wn(q x y:Int):Bool:=decide (0<=q/\q<=31/\0<=x/\x<=7/\0<=y/\y<=7)
theorem Ka(w:World)(v m:Int):Calls prog 343 #[↑v,↑m] w fun e w'=>e=.returned (.bool (decide (0<=v/\v<=m)))/\w=w':=by
 by_cases h:0<=v
 ·have e1:decide (0<=v)=true:=by simpa using h
  rw [show decide (0<=v/\v<=m)=decide (v<=m)by simp [h]];go_enter func343,ntmps343;go_wp2_with fail;go_ret;exact⟨rfl,rfl⟩
 ·have e1:decide (0<=v)=false:=by simpa using h
  rw [show decide (0<=v/\v<=m)=false by simp [h]];go_enter func343,ntmps343;go_wp2_with fail;go_ret;exact⟨rfl,rfl⟩
theorem abm(w:World)(v s:Int)(hs:1<=s)(hv:-9223372036854775808<=v*s/\v*s<=9223372036854775807):Calls prog 405 #[↑v,↑s] w fun e w'=>e=.returned (.int .i64 (v*s))/\w=w':=by
 go_enter func405,ntmps405;go_wp2_with fail;go_ret;exact⟨rfl,rfl⟩
theorem K6(w:World)(m:Int):Calls prog 361 #[↑m] w fun e w'=>e=.returned (.func (.func 403) #[] #[↑(ZC w.heap.size 0)])/\ZI w' w.heap.size 3 #[↑m]/\Mod ↑ZW w w':=by
 go_enter func361,ntmps361;go_wp2_with fail;go_ret;exact⟨rfl,ZI.new _ _ _,(Mod.refl _ _).alloc _⟩
def Oa(m v:Int):Bool:=decide (-m<=v/\v<=m)
theorem Ke(w:World)(b:Nat)(m v:Int)(hm:0<=m/\m<=1099511627776)(hb:ZI w b 3 #[↑m]):Calls prog 403 #[↑v,↑(ZC b 0)] w fun e w'=>e=.returned (.bool (Oa m v))/\w=w':=by
 obtain⟨hc,hf⟩:=hb.both;unfold Oa;clear hb;by_cases h:-m<=v
 ·have e1:decide (-m<=v)=true:=by simpa using h
  rw [show decide (-m<=v/\v<=m)=decide (v<=m)by simp [h]];go_enter func403,ntmps403;go_wp2_with fail;go_ret;exact⟨rfl,rfl⟩
 ·have e1:decide (-m<=v)=false:=by simpa using h
  rw [show decide (-m<=v/\v<=m)=false by simp [h]];go_enter func403,ntmps403;go_wp2_with fail;go_ret;exact⟨rfl,rfl⟩
theorem Mw(q x y:Int)(h:Wn q x y=true):(4<=(4+q % 4)*2 ^ (q/4).toNat/\(4+q % 4)*2 ^ (q/4).toNat<=896)/\1<=stepOf q x y/\stepOf q x y<=1008/\stepOf q x y=wrap64 (wrap64 ((4+q % 4)*2 ^ (q/4).toNat)/4*(4+x+y))/4:=by
 unfold Wn at h;simp only [decide_eq_true_eq]at h;obtain⟨q1,q2,x1,x2,y1,y2⟩:=h;have hp:4<=(4+q % 4)*2 ^ (q/4).toNat/\(4+q % 4)*2 ^ (q/4).toNat<=896:=by
  have hk:(q/4).toNat=0\/(q/4).toNat=1\/(q/4).toNat=2\/(q/4).toNat=3\/(q/4).toNat=4\/(q/4).toNat=5\/(q/4).toNat=6\/(q/4).toNat=7:=Z8;rcases hk with e|e|e|e|e|e|e|e<;>rw [e]<;>simp only [Int.reducePow]<;>omega
 refine⟨hp,?_⟩;unfold stepOf;generalize (4+q % 4)*2 ^ (q/4).toNat=p at *;rw [IntWalk.wrap64_in p ⟨Z8,Z8⟩];have h1:1<=p/4/\p/4<=224:=Z8;generalize p/4=r at *;have h2:4<=r*(4+x+y):=by
  have:=Int.mul_le_mul h1.1 (show 4<=4+x+y by omega) Z8 Z8;omega
 have h3:r*(4+x+y)<=224*18:=Int.mul_le_mul h1.2 (show 4+x+y<=18 by omega) Z8 Z8;generalize r*(4+x+y)=m at *;rw [IntWalk.wrap64_in m ⟨Z8,Z8⟩];omega
theorem JF(w:World)(q x y:Int)(h:Wn q x y=true):Calls prog 287 #[↑q,↑x,↑y] w fun e w'=>e=.returned (.tuple #[.int .i64 (stepOf q x y),↑Z0])/\w=w':=by
 have HS:=Z7 (Mw q x y h).2.2.2;unfold Wn at h;simp only [decide_eq_true_eq]at h;obtain⟨q1,q2,x1,x2,y1,y2⟩:=h;have d1:decide (0<=q/\q<=31)=true:=by simp;omega
 have d2:decide (0<=x/\x<=7)=true:=by simp;omega
 have d3:decide (0<=y/\y<=7)=true:=by simp;omega
 go_enter func287,ntmps287;go_wp2_with fail;refine YH (Ka _ q 31) ?_;rw [d1];go_wp2_with fail;refine YH (Ka _ x 7) ?_;rw [d2];go_wp2_with fail;refine YH (Ka _ y 7) ?_;rw [d3];clear d1 d2 d3;go_wp2_with fail;go_ret2;exact⟨by rw [HS.out];rfl,rfl⟩
theorem aar(w:World)(q x y:Int)(h:Wn q x y=false):Calls prog 287 #[↑q,↑x,↑y] w fun e w'=>e=.returned (.tuple #[↑Z0,.int .i64 1])/\w=w':=by
 unfold Wn at h;simp only [decide_eq_false_iff_not]at h;go_enter func287,ntmps287;go_wp2_with fail;refine YH (Ka _ q 31) ?_;by_cases d1:0<=q/\q<=31
 ·rw [decide_eq_true d1];go_wp2_with fail;refine YH (Ka _ x 7) ?_;by_cases d2:0<=x/\x<=7
  ·rw [decide_eq_true d2];go_wp2_with fail;refine YH (Ka _ y 7) ?_;rw [decide_eq_false (show ¬(0<=y/\y<=7)by omega)];go_wp2_with fail;go_ret2;exact⟨rfl,rfl⟩
  ·rw [decide_eq_false d2];go_wp2_with fail;go_ret2;exact⟨rfl,rfl⟩
 ·rw [decide_eq_false d1];go_wp2_with fail;go_ret2;exact⟨rfl,rfl⟩
def UE(m:Int)(l:List Int):Bool:=decide (XL l.length≠0)&&l.all (Oa m)
theorem MH{m:Int}{l:List Int}(h1:XL l.length≠0)(h2:∀j<l.length,Oa m (l.getD j 0)=true):UE m l=true:=by
 unfold UE;rw [Bool.and_eq_true,decide_eq_true_eq,List.all_eq_true];refine⟨h1,fun x hx=>?_⟩;obtain⟨j,hj,rfl⟩:=List.getElem_of_mem hx;have:=h2 j hj;rwa [Z6,ZP hj]at this
theorem yQ{m:Int}{l:List Int}(j:Nat)(hj:j<l.length)(h2:Oa m (l.getD j 0)=false):UE m l=false:=by
 unfold UE;rw [Bool.and_eq_false_iff];right;rw [List.all_eq_false];refine⟨l[j],List.getElem_mem hj,?_⟩;rw [Z6,ZP hj]at h2;have h3:Oa m l[j]=false:=h2;rw [h3];decide
theorem Eb(w:World)(A:Option Addr)(n c bb:Nat)(l:List Int)(m:Int)(YZ:IntsIn w A n c l)(hn:n<=1048576)(hm:0<=m/\m<=1099511627776)(hb:ZI w bb 3 #[↑m]):
  Calls prog 360 #[.slice A n c,.func (.func 403) #[] #[↑(ZC bb 0)]] w fun e w'=>e=.returned (.bool (UE m l))/\w=w':=by
 obtain rfl:l.length=n:=YZ.1;by_cases hs:XL l.length=0
 ·have HA:Hid (UE m l=false):=by show _=_;unfold UE;rw [hs];rfl
  go_enter func360,ntmps360;go_wp2_with fail;refine YH (Kg _ l.length Z8) ?_;rw [hs];clear hs;go_wp2_with fail;go_ret;exact⟨by rw [HA.out];rfl,rfl⟩
 ·have hs1:(((XL l.length:Nat):Int) == 0)=false:=beq_eq_false_iff_ne.2 Z8;have h0:0<l.length:=by
   rcases Nat.eq_zero_or_pos l.length with e|e
   ·rw [e]at hs;exact absurd rfl hs
   ·exact e
  obtain⟨b,off,rfl,_,hc⟩:=YZ.place h0;have HC:=Z7 hc;have HS:=Z7 hs;clear YZ hc hs;go_enter func360,ntmps360;go_wp2_with fail;refine YH (Kg _ l.length Z8) ?_;generalize ((XL l.length:Nat):Int)=sd at *;go_wp2_with fail;go_loop [13] (fun i=>∃k:Nat,k<=l.length/\i=↑k/\∀j<k,Oa m (l.getD j 0)=true) (fun i=>l.length-(intOf i).toNat)
  case atStart=>exact⟨0,Z8,rfl,fun j hj=>by omega⟩
  case round=>
   obtain⟨k,hk,rfl,hall⟩:=hrel;have HL:=Z7 hall;clear hall;by_cases hlt:k<l.length
   ·have M9:=HC.out k hlt;have i1:(0:Int)<=(k:Int):=Z8;have i2:(k:Int)<(l.length:Int):=Z8;cases hv:Oa m (l.getD k 0)with
    | true=>
     generalize hx:l.getD k 0=x at *;have HX:=Z5 hx hv;clear hx;go_wp2_with fail;refine YH (Ke _ bb m x hm hb) ?_;rw [hv];clear hv;go_wp2_with fail;go_round
     case rel=>exact⟨k+1,Z8,Zr,fun j hj=>by
      by_cases e:j=k
      ·subst e;rw [HX.out.1];exact HX.out.2
      ·exact HL.out j Z8⟩
     case measure=>exact YD
    | false=>
     have HA:Hid (UE m l=false):=yQ k hlt hv;generalize hx:l.getD k 0=x at *;clear hx;go_wp2_with fail;refine YH (Ke _ bb m x hm hb) ?_;rw [hv];clear hv;go_wp2_with fail;go_ret;exact⟨by rw [HA.out];rfl,rfl⟩
   ·have HA:Hid (UE m l=true):=MH HS.out (fun j hj=>HL.out j Z8);go_wp2_with fail;go_ret;exact⟨by rw [HA.out];rfl,rfl⟩
theorem DL(w:World)(n:Nat)(hn:n<=9223372036854775807):Calls prog 400 #[↑n] w fun e w'=>e=.returned ↑(XL n:Nat)/\w=w':=by
 unfold XL;by_cases h1:n=16
 ·subst h1;go_enter func400,ntmps400;go_wp2_with fail;go_ret;exact⟨rfl,rfl⟩
 ·by_cases h2:n=64
  ·subst h2;go_enter func400,ntmps400;go_wp2_with fail;go_ret;exact⟨rfl,rfl⟩
  ·rw [if_neg h1,if_neg h2];have e1:((n:Int) == 16)=false:=beq_eq_false_iff_ne.2 Z8;have e2:((n:Int) == 64)=false:=beq_eq_false_iff_ne.2 Z8;go_enter func400,ntmps400;go_wp2_with fail;go_ret;exact⟨rfl,rfl⟩
theorem DN(w:World)(m:Int):Calls prog 353 #[↑m] w fun e w'=>e=.returned (.func (.func 401) #[] #[↑(ZC w.heap.size 0)])/\ZI w' w.heap.size 3 #[↑m]/\Mod ↑ZW w w':=by
 go_enter func353,ntmps353;go_wp2_with fail;go_ret;exact⟨rfl,ZI.new _ _ _,(Mod.refl _ _).alloc _⟩
theorem nT(w:World)(b:Nat)(m v:Int)(hm:0<=m/\m<=1099511627776)(hb:ZI w b 3 #[↑m]):Calls prog 401 #[↑v,↑(ZC b 0)] w fun e w'=>e=.returned (.bool (Oa m v))/\w=w':=by
 obtain⟨hc,hf⟩:=hb.both;unfold Oa;clear hb;by_cases h:-m<=v
 ·have e1:decide (-m<=v)=true:=by simpa using h
  rw [show decide (-m<=v/\v<=m)=decide (v<=m)by simp [h]];go_enter func401,ntmps401;go_wp2_with fail;go_ret;exact⟨rfl,rfl⟩
 ·have e1:decide (-m<=v)=false:=by simpa using h
  rw [show decide (-m<=v/\v<=m)=false by simp [h]];go_enter func401,ntmps401;go_wp2_with fail;go_ret;exact⟨rfl,rfl⟩
def acH(w:World)(m:Int)(l:List Int)(e:Ending)(w':World):Prop:=
 Mod ↑ZW w w'/\((UE m l=false/\e=.returned (.tuple #[↑Zd,↑Z0,.int .i64 1]))\/∃v,UE m l=true/\e=.returned (.tuple #[v,↑(XL l.length:Nat),↑Z0])/\Zx w' w.heap.size v l)
theorem Bz(w:World)(A:Option Addr)(n c bb:Nat)(l:List Int)(m:Int)(YZ:IntsIn w A n c l)(hn:n<=1048576)(hm:0<=m/\m<=1099511627776)(hb:ZI w bb 3 #[↑m]):
  Calls prog 352 #[.slice A n c,.func (.func 401) #[] #[↑(ZC bb 0)]] w (acH w m l):=by
 obtain⟨i0,hi0,hz0,hz1,hz2⟩:=info_parts PY;obtain rfl:l.length=n:=YZ.1;by_cases hs:XL l.length=0
 ·have HA:Hid (UE m l=false):=by show _=_;unfold UE;rw [hs];rfl
  go_enter func352,ntmps352;go_wp2_with fail;refine YH (DL _ l.length Z8) ?_;rw [hs];clear hs;go_wp2_with fail
  go_ret3
  exact⟨Mod.refl _ _,.inl ⟨HA.out,rfl⟩⟩
 ·have hs1:(((XL l.length:Nat):Int) == 0)=false:=beq_eq_false_iff_ne.2 Z8;have h0:0<l.length:=by
   rcases Nat.eq_zero_or_pos l.length with e|e
   ·rw [e]at hs;exact absurd rfl hs
   ·exact e
  have OO:=Z7 YZ;obtain⟨b,off,rfl,_,hc⟩:=YZ.place h0;have HC:=Z7 hc;have HS:=Z7 hs;clear YZ hc hs;go_enter func352,ntmps352;go_wp2_with fail;refine YH (DL _ l.length Z8) ?_;obtain⟨sd,Il⟩:=ZL (((XL l.length:Nat):Int));rw [<-Il]at hs1 ⊢;have HSD:=Z7 Il;clear Il;go_wp2_with fail;go_loop [17] (fun i=>∃k:Nat,k<=l.length/\i=↑k/\∀j<k,Oa m (l.getD j 0)=true) (fun i=>l.length-(intOf i).toNat)
  case atStart=>exact⟨0,Z8,rfl,fun j hj=>by omega⟩
  case round=>
   obtain⟨k,hk,rfl,hall⟩:=hrel;have HL:=Z7 hall;clear hall;by_cases hlt:k<l.length
   ·have M9:=HC.out k hlt;have i1:(0:Int)<=(k:Int):=Z8;have i2:(k:Int)<(l.length:Int):=Z8;cases hv:Oa m (l.getD k 0)with
    | true=>
     generalize hx:l.getD k 0=x at *;have HX:=Z5 hx hv;clear hx;go_wp2_with fail;refine YH (nT _ bb m x hm hb) ?_;rw [hv];clear hv;go_wp2_with fail;go_round
     case rel=>exact⟨k+1,Z8,Zr,fun j hj=>by
      by_cases e:j=k
      ·subst e;rw [HX.out.1];exact HX.out.2
      ·exact HL.out j Z8⟩
     case measure=>exact YD
    | false=>
     have HA:Hid (UE m l=false):=yQ k hlt hv;generalize hx:l.getD k 0=x at *;clear hx;go_wp2_with fail;refine YH (nT _ bb m x hm hb) ?_;rw [hv];clear hv;go_wp2_with fail
     go_ret3
     exact⟨Mod.refl _ _,.inl ⟨HA.out,rfl⟩⟩
   ·have HA:Hid (UE m l=true):=MH HS.out (fun j hj=>HL.out j Z8);have x1:0+l.length<=maxLen:=by unfold maxLen;omega
    have x2:(0+l.length)*8<=140737488355328:=Z8;have HX:=Z5 x1 x2;clear x1 x2;go_wp2_with (at_builtin;have _t:=HX;refine Wo _ rfl (.const ↑Zd) (.tmp 26) _ rfl w.heap.size 3 i0 _ 1 8 underlying63 hi0 hz0 hz1 hz2 rfl Z8 ↑Zd 0 [] rfl (World.ownsRow_nil _ _ _ _) (some ⟨b,off,none⟩) l.length c (Y4 l) rfl OO.out.2.2.1 (fun h=>by cases h) (RH l) HX.out.1 HX.out.2 (Nat.le_refl _) ?_;intro v4 w4 Ws hg4 Dm;have HO:=Z5 Ws hg4;clear HX _t Ws hg4 Dm)
    go_ret3
    refine⟨(Mod.refl _ _).grown HO.out.2 (fun k hk=>by simp [Value.ownBlock]at hk),.inr ⟨_,HA.out,by rw [<-HSD.out];rfl,?_⟩⟩;have:=HO.out.1;unfold Zx;simpa using this
theorem Wq{P:Program}{w:World}{ops:Array Oper}{o:Oper}{a:Act}{K:Act->World->Prop}{Q:Exit->Act->World->Prop}{E:Prop}(hgd:o.guard=none)(d s:Operand)(dT sT:TypeId)
  (ho:o.op=.call { callee:=.builtin .copy,args:=#[d,s],argTypes:=#[dT,sT] })(elem:TypeId)(hu:P.underlying dT=some (.slice elem))(hsz:(P.info? elem).map (·.size)=some 1)
  (dp:Option Addr)(yY uj:Nat)(A:Option Addr)(m c:Nat)(xs:List Value)(hd:a.eval d=.slice dp yY uj)(hs:a.eval s=.slice A m c)(Ji:Src w 1 A m xs)
  (g off:Nat)(cur:List Value)(t:TypeId)(hg:ZI w g t cur.toArray)(n:Nat)(hn:n=Nat.min m yY)(hdp:0<n->dp=some ⟨g,off,none⟩)(qw:off+n<=cur.length)(h1:∀u∈xs,u.oneCell'=true)
  (h:∀w',ZI w' g t (splice cur off (xs.take n)).toArray->Mod (·=g) w w'->K (a.put o.dst (goInt n)) w'):
  if ZH o (yielded ops a.tmps)=true then Oper.wp P o a w K Q else E:=by
 have hw:ZH o (yielded ops a.tmps)=true:=by simp [ZH,hgd]
 rw [if_pos hw];have qE:xs.length=m:=by have:=Ji.1;omega
 have iP:n<=m:=by rw [hn];exact Nat.min_le_left _ _
 by_cases h0:n=0
 ·have hrun:=run_copy_none (P:=P) w dT sT o.type elem dp A yY uj m c hu hsz Z8;unfold Oper.wp;simp [execOp,ho,resolve,invoke,builtin,hd,hs,hrun,Result.andThen];have:=h w (by rw [h0];simpa [splice]using hg) (Mod.refl _ _);rwa [h0]at this
 ·have agn:=hdp Z8;subst agn;cases A with
  | none=>have:=Ji.2.1 rfl;omega
  | some ad=>
   have hl:(xs.take n).length=n:=by rw [List.length_take];omega
   have hrun:=run_copy_row (P:=P) w dT sT o.type elem g off yY uj ad m c cur.toArray t (xs.take n) hu hsz hg (by rw [hl,hn]) (fun j v hv=>by
    rw [List.getElem?_take]at hv;split at hv
    ·exact Ji.2.2 ad rfl j v hv
    ·cases hv) (by rw [hl];simpa using qw) (fun v hv=>h1 v (List.mem_of_mem_take hv))
   rw [hl]at hrun;unfold Oper.wp;simp [execOp,ho,resolve,invoke,builtin,hd,hs,hrun,Result.andThen];refine h _ ?_ ⟨rfl,rfl,rfl,by simp [World.setRow],fun k _ hk=>setRow_other w g k _ hk⟩;have:=setRow_heap w g cur.toArray (splice cur off (xs.take n)).toArray t (0,0) hg;simpa [ZI,splice,hl]using this
def upA(m:Nat)(l:List Int)(i:Nat):Int:=l.getD i 0+(l.getD (m+i) 0+1)/2
def upB(m:Nat)(l:List Int)(i:Nat):Int:=upA m l i-l.getD (m+i) 0
def pK(m:Nat)(l:List Int):Nat->List Int
 | 0=>l
 | i+1=>((pK m l i).set (2*i) (upA m l i)).set (2*i+1) (upB m l i)
def Ch(m:Nat)(l:List Int):List Int:=pK m l m
theorem Js(m:Nat)(l:List Int)(i:Nat):(pK m l i).length=l.length:=by
 induction i with
 | zero=>rfl
 | succ i ih=>simp [pK,ih]
def z4:List Value:=[↑Z0,↑Z0,↑Z0,↑Z0]
theorem VX(l:List Int)(i:Nat)(hi:i<l.length):(Y4 l)[i]?=some (.int .i64 (l.getD i 0)):=by
 simp [Y4,hi]
theorem xL(xs:List Int)(m:Nat)(hl:xs.length=m)(i:Nat)(hi:i<m):(splice z4 0 ((Y4 xs).take m)).toArray[i]?=some (.int .i64 (xs.getD i 0)):=by
 have h1:((Y4 xs).take m)=Y4 xs:=List.take_of_length_le (by simp [Y4,hl]);rw [h1];unfold splice;simp only [List.take_zero,List.nil_append,Zo];rw [List.getElem?_append_left (by simp [Y4];omega)];exact VX xs i Z8
theorem Mt{w:World}{g:Nat}{t:TypeId}{l:List Int}(hb:ZI w g t (Y4 l).toArray)(a m:Nat)(ham:a+m<=l.length):Src w 1 (some ⟨g,a,none⟩) m (Y4 ((l.drop a).take m)):=by
 refine⟨(by simp [Y4];omega),fun e=>(by cases e),fun ad e j u hu=>?_⟩;injection e with e;subst e;rw [VW,hb.cell];have hj:j<m:=by
  rcases Nat.lt_or_ge j m with h|h
  ·exact h
  ·rw [List.getElem?_eq_none (by simp [Y4];omega)]at hu;cases hu
 rw [<-hu];simp [Y4,hj]
def Kn(l:List Int)(m:Nat)(l':List Int):Prop:=
 (m=1/\l'=l)\/(m=2/\l'=Ch 1 l)\/(m=4/\l'=Ch 2 (Ch 1 l))\/(m=8/\l'=Ch 4 (Ch 2 (Ch 1 l)))
theorem KI(l:List Int)(i j:Nat)(x:Int):(l.set i x).getD j 0=if i=j/\j<l.length then x else l.getD j 0:=by
 simp only [Z6,List.getElem?_set];by_cases h:i=j
 ·subst h;by_cases h2:i<l.length
  ·simp [h2]
  ·simp [h2]
 ·simp [h]
def Within(M:Int)(l:List Int):Prop:=∀i,-M<=l.getD i 0/\l.getD i 0<=M
theorem MU(M:Int)(m:Nat)(l:List Int)(h:Within M l)(i:Nat):Within (3*M+1) (pK m l i):=by
 induction i with
 | zero=>intro j;have:=h j;simp only [pK];omega
 | succ i ih=>
  intro j;have h1:=ih j;have h2:=h i;have h3:=h (m+i);simp only [pK,KI,upA,upB];split
  ·omega
  ·split<;>omega
theorem JE{l l':List Int}{m:Nat}(hM:Within 1099511627776 l)(h:Kn l m l')(hm:m<8):Within 17592186044416 l':=by
 have mono:∀ {A B:Int} {x:List Int},Within A x->A<=B->Within B x:=fun h hab i=>by have:=h i;omega
 have w1:=MU _ 1 l hM 1;have w2:=MU _ 2 _ w1 2;rcases h with⟨_,rfl⟩|⟨_,rfl⟩|⟨_,rfl⟩|⟨h,_⟩
 ·exact mono hM Z8
 ·exact mono w1 Z8
 ·exact mono w2 Z8
 ·omega
theorem aa0{l l':List Int}{m:Nat}(h:Kn l m l')(hm:m<8):Kn l (m*2) (Ch m l'):=by
 rcases h with⟨rfl,rfl⟩|⟨rfl,rfl⟩|⟨rfl,rfl⟩|⟨h,_⟩
 ·exact .inr (.inl ⟨rfl,rfl⟩)
 ·exact .inr (.inr (.inl ⟨rfl,rfl⟩))
 ·exact .inr (.inr (.inr ⟨rfl,rfl⟩))
 ·omega
theorem MM(l:List Int)(a m i:Nat)(hi:i<m):((l.drop a).take m).getD i 0=l.getD (a+i) 0:=by
 simp [Z6,hi]
theorem MS(l:List Int)(i:Nat)(x:Int):(Y4 l).toArray.setIfInBounds i ↑x=(Y4 (l.set i x)).toArray:=by
 simp [Y4,List.map_set]
def adu(w:World)(g lo hi m:Nat)(l':List Int)(X5 X6:Array Value)(iv:Value)(wi:World):Prop:=
 ∃i:Nat,i<=m/\iv=↑i/\ZI wi g 482 (Y4 (pK m l' i)).toArray/\ZI wi lo 480 X5/\ZI wi hi 480 X6/\Mod (·=g) w wi
def aeK(w:World)(g:Nat)(l:List Int)(mv:Value)(wr:World):Prop:=
 ∃m l',Kn l m l'/\mv=↑m/\ZI wr g 482 (Y4 l').toArray/\Mod (·=g) w wr
theorem adm(w:World)(g:Nat)(l:List Int)(hl:l.length=8)(hM:Within 1099511627776 l)(hb:ZI w g 482 (Y4 l).toArray):
  Calls prog 407 #[↑(ZC g 0),.int .i64 8] w fun e w'=>e=.returned (.tuple #[])/\ZI w' g 482 (Y4 (Ch 4 (Ch 2 (Ch 1 l)))).toArray/\Mod (·=g) w w':=by
 have HB:=Z7 hb;clear hb;go_enter func407,ntmps407;go_wp2_with fail;go_loopw [4] (aeK w g l) (fun m _=>8-(intOf m).toNat)
 case atStart=>exact⟨1,l,.inl ⟨rfl,rfl⟩,rfl,HB.out,Mod.refl _ _⟩
 case round=>
  revert hrel;generalize wr=U3;intro hrel;obtain⟨m,l',hat,rfl,hb,hm⟩:=hrel;by_cases h8:m<8
  ·have m1:1<=m/\m<=4/\2*m<=8:=by unfold Kn at hat;omega
   have hl':l'.length=8:=by unfold Kn Ch at hat;rcases hat with⟨_,rfl⟩|⟨_,rfl⟩|⟨_,rfl⟩|⟨_,rfl⟩<;>simp [Js,hl]
   have HAT:=Z7 hat
   have GM:=Z5 hb hm;have KO:=hb.lt;clear hat hb hm;go_upto_region 4 with(fail)
   have b5:ZI ((U3.alloc (.cells #[↑Z0,↑Z0,↑Z0,↑Z0] 480)).alloc (.cells #[↑Z0,↑Z0,↑Z0,↑Z0] 480)) U3.heap.size 480 z4.toArray:=(ZI.new U3 _ _).alloc _;have b6:ZI ((U3.alloc (.cells #[↑Z0,↑Z0,↑Z0,↑Z0] 480)).alloc (.cells #[↑Z0,↑Z0,↑Z0,↑Z0] 480)) (U3.heap.size+1) 480 z4.toArray:=by
    have:=ZI.new (U3.alloc (.cells #[↑Z0,↑Z0,↑Z0,↑Z0] 480)) 480 z4.toArray;rw [show(U3.alloc (.cells #[↑Z0,↑Z0,↑Z0,↑Z0] 480)).heap.size=U3.heap.size+1 by simp]at this;exact this
   have bg:=(GM.out.1.alloc (.cells #[↑Z0,↑Z0,↑Z0,↑Z0] 480)).alloc (.cells #[↑Z0,↑Z0,↑Z0,↑Z0] 480);have Y6:=(GM.out.2.alloc (.cells #[↑Z0,↑Z0,↑Z0,↑Z0] 480)).alloc (.cells #[↑Z0,↑Z0,↑Z0,↑Z0] 480);have sz:U3.heap.size+2=((U3.alloc (.cells #[↑Z0,↑Z0,↑Z0,↑Z0] 480)).alloc (.cells #[↑Z0,↑Z0,↑Z0,↑Z0] 480)).heap.size:=Ze;generalize (U3.alloc (.cells #[↑Z0,↑Z0,↑Z0,↑Z0] 480)).alloc (.cells #[↑Z0,↑Z0,↑Z0,↑Z0] 480)=w1 at *;have i1:(0:Int)<=(m:Int):=Z8;have i2:(m:Int)<=4:=Z8;have i3:(m:Int)<=8:=Z8;have HS:Hid (Src w1 1 (some ↑g) m (Y4 ((l'.drop 0).take m))):=Mt bg 0 m Z8;have HN:Hid (m=Nat.min m m/\0+m<=z4.length):=⟨(Nat.min_self m).symm,by show 0+m<=4;omega⟩
   have HW:=Z5 b5 (Z9 b6 (Z9 bg Y6));clear b5 b6 bg Y6;go_region_law (refine Wq rfl (.tmp 15) (.tmp 19) _ _ rfl 3 underlying63 ZR (some ↑U3.heap.size) m 4 (some ↑g) m 8 _ rfl rfl HS.out U3.heap.size 0 z4 480 HW.out.1 m HN.out.1 (fun _=>rfl) HN.out.2 (RH _) ?_;intro w2 hb2 Y3;have oU:=Z5 hb2 Y3;clear hb2 Y3)
   obtain⟨hb2,Y3⟩:=oU.out;obtain⟨b5,b6,bg,Y6⟩:=HW.out;have hne:¬g=U3.heap.size:=Z8;have Jg:Mod (·=U3.heap.size) w1 w2:=((Mod.refl _ w1).drew).trans Y3;have b62:=b6.keep Jg Z8;have bg2:=bg.keep Jg hne;have aiF:=Y6.FU Jg (fun k hk e=>by have:=GM.out.2.size;omega);have sz2:=Jg.size;have Td:Hid (Src w2 1 (some ⟨g,m,none⟩) m (Y4 ((l'.drop m).take m))):=Mt bg2 m m Z8;have HW3:=Z5 hb2 (Z9 b62 (Z9 bg2 aiF));clear hb2 Y3 b5 b6 bg Y6 Jg b62 bg2 aiF oU HW HS;obtain⟨n2,yC,e5⟩:∃n2:Nat,(2:Int)*(m:Int)=(n2:Int)/\n2-m=m:=⟨2*m,Z8,Z8⟩
   have e6:IntKind.i64.wrap (n2:Int)=(n2:Int):=by rw [Vi];omega
   have i5:(m:Int)<=(n2:Int):=Z8;have i6:(n2:Int)<=8:=Z8;have e2:¬(8:Int)=(m:Int):=Z8;have e3:¬8=m:=Z8;have e4:(n2:Int)-(m:Int)=(m:Int):=Z8;go_upto_region 5 with(fail)
   go_region_law (refine Wq rfl (.tmp 22) (.tmp 28) _ _ rfl 3 underlying63 ZR (some ↑(U3.heap.size+1)) m 4 (some ⟨g,m,none⟩) m (8-m) _ (by simp [Act.eval,Act.put]) (by simp [Act.eval,Act.put]) Td.out (U3.heap.size+1) 0 z4 480 HW3.out.2.1 m HN.out.1 (fun _=>rfl) HN.out.2 (RH _) ?_;intro w3 hb3 X7;have gN:=Z5 hb3 X7;clear hb3 X7)
   have HE6:=Z7 e6;clear e2 e3 e4 e5 e6 yC Td;obtain⟨hb3,X7⟩:=gN.out;obtain⟨b5,b6,bg,Y6⟩:=HW3.out;have hne:¬g=U3.heap.size+1:=Z8;have uG:Mod (·=U3.heap.size+1) w2 w3:=((Mod.refl _ w2).drew).trans X7;have b53:=b5.keep uG Z8;have bg3:=bg.keep uG hne;have aiE:=Y6.FU uG (fun k hk e=>by have:=GM.out.2.size;omega);have h5:∀i<m,_:=fun i hi=>xL ((l'.drop 0).take m) m (by simp;omega) i hi;have h6:∀i<m,_:=fun i hi=>xL ((l'.drop m).take m) m (by simp;omega) i hi;generalize (splice z4 0 (VC m (Y4 (VC m (Q6 0 l'))))).toArray=X5 at *;generalize (splice z4 0 (VC m (Y4 (VC m (Q6 m l'))))).toArray=X6 at *;have HX:=Z5 h5 h6;have HI:=Z5 b53 (Z9 hb3 (Z9 bg3 aiE));clear hb3 X7 b5 b6 bg Y6 uG b53 bg3 aiE HW3 gN h5 h6;go_wp2_with fail;go_loopw [31] (adu w g U3.heap.size (U3.heap.size+1) m l' X5 X6) (fun i _=>m-(intOf i).toNat)
   case atStart=>exact⟨0,Z8,rfl,HI.out.2.2.1,HI.out.1,HI.out.2.1,HI.out.2.2.2⟩
   case round=>
    obtain⟨i,hi,rfl,bg,b5,b6,hm⟩:=hrel;by_cases hlt:i<m
    ·have c5:=b5.cell i;have c6:=b6.cell i;rw [HX.out.1 i hlt,MM _ _ _ _ hlt,Nat.zero_add]at c5;rw [HX.out.2 i hlt,MM _ _ _ _ hlt]at c6;have sK:=JE hM HAT.out h8 i;have hw2:=JE hM HAT.out h8 (m+i);obtain⟨a,ha⟩:=ZL (l'.getD i 0);obtain⟨h,hh⟩:=ZL (l'.getD (m+i) 0);rw [<-ha]at c5 sK;rw [<-hh]at c6 hw2;have HA:=Z5 ha hh;clear ha hh;obtain⟨k2,hk2,hk3⟩:∃k2:Nat,(2:Int)*(i:Int)=(k2:Int)/\k2=2*i:=⟨2*i,Z8,rfl⟩
     have k2w:IntKind.i64.wrap (k2:Int)=(k2:Int):=by rw [Vi];omega
     have k2x:IntKind.i64.wrap ((k2:Int)+1)=(k2:Int)+1:=by rw [Vi];omega
     have j1:(0:Int)<=(i:Int):=Z8;have j2:(i:Int)<4:=Z8;have j3:(0:Int)<=(k2:Int):=Z8;have j4:(k2:Int)<8:=Z8;have j5:(k2:Int)+1<8:=Z8;have Ey:=Z7 hk3;have k3l:k2+1<8:=Z8;clear hk3;have HK:=Z5 bg (Z9 b5 (Z9 b6 hm));have f0:=bg.frozen;clear bg b5 b6 hm;go_wp2_with fail;go_quiet (fail)
     obtain⟨av,hav⟩:=ZL (a+(h+1)/2);rw [<-hav];have Gr:-35184372088832<=av/\av<=35184372088832:=Z8;have HV:=Z7 hav;clear hav;have HQ:Hid (ZI (wr.drewN nq) g 482 (Y4 (pK m l' i)).toArray/\ZI (wr.drewN nq) U3.heap.size 480 X5/\ZI (wr.drewN nq) (U3.heap.size+1) 480 X6/\Mod (·=g) w (wr.drewN nq)):=⟨HK.out.1.drewN nq,HK.out.2.1.drewN nq,HK.out.2.2.1.drewN nq,HK.out.2.2.2.drewN nq⟩
     have hlu:(pK m l' i).length=8:=by rw [Js];exact hl'
     have c6':(wr.drewN nq).cell? ⟨U3.heap.size+1,i,none⟩=some (.int .i64 h):=c6;clear c5 c6 f0 HK;generalize wr.drewN nq=wq at *;have s0:=HQ.out.1.cell k2;have s1:=HQ.out.1.cell (k2+1);rw [Zo,VX _ _ Z8]at s0 s1;have f0:=HQ.out.1.frozen;have alF:¬g=U3.heap.size+1:=Z8;have alE:¬U3.heap.size+1=g:=Z8;go_wp2_with fail
     go_region
     go_wp2_with fail;refine⟨⟨i+1,Z8,Zr,?_,?_,?_,?_⟩,by simp [intOf];omega⟩
     ·have hb':=((HQ.out.1.UY k2 (.int .i64 av)).UY (k2+1) (.int .i64 (av-h))).drew;rw [MS,MS]at hb';rw [pK,upB,upA,<-HA.out.1,<-HA.out.2,<-HV.out,<-Ey.out];exact hb'
     ·exact((HQ.out.2.1.far (p:=⟨g,k2,none⟩) (by show ¬_=g;omega) _).far (p:=⟨g,k2+1,none⟩) (by show ¬_=g;omega) _).drew
     ·exact((HQ.out.2.2.1.far (p:=⟨g,k2,none⟩) (by show ¬_=g;omega) _).far (p:=⟨g,k2+1,none⟩) (by show ¬_=g;omega) _).drew
     ·exact((HQ.out.2.2.2.setCell (.inl rfl) _).setCell (.inl rfl) _).drew
    ·obtain rfl:i=m:=Z8;have HN2:=Z7 (aa0 HAT.out h8);have HF:=Z5 bg hm;clear bg hm b5 b6;have x1:(i:Int)*2=((i*2:Nat):Int):=Z8;have HX1:=Z7 x1;clear x1;go_wp2_with fail;refine⟨⟨i*2,_,HN2.out,by rw [HX1.out],HF.out.1,HF.out.2⟩,?_⟩;simp [intOf];omega
  ·obtain rfl:m=8:=by unfold Kn at hat;omega
   obtain rfl:l'=Ch 4 (Ch 2 (Ch 1 l)):=by
    unfold Kn at hat
    rcases hat with⟨h,_⟩|⟨h,_⟩|⟨h,_⟩|⟨_,h⟩
    ·omega
    ·omega
    ·omega
    ·exact h
   have HF:=Z5 hb hm;clear hb hm hat
   go_wp2_with fail;go_end0
   exact⟨rfl,HF.out⟩
section
variable {P : Program}
theorem Pt(g:Nat)(t:TypeId)(off:Nat):∀(vs:List Value) (i:Nat) (cur:List Value) (w:World),ZI w g t cur.toArray->off+i+vs.length<=cur.length->(∀v∈vs,v.oneCell'=true) ->
  ∃w',(storeCells ⟨g,off,none⟩ vs i).run P w=.ok () w'/\ZI w' g t (splice cur (off+i) vs).toArray/\Mod (·=g) w w'
 | [],i,cur,w,hb,hl,h1=>⟨w,rfl,by
   have:splice cur (off+i) []=cur:=by simp [splice]
   rw [this];exact hb,Mod.refl _ _⟩
 | v :: rest,i,cur,w,hb,hl,h1=>by
  have hi:off+i<cur.length:=by simp at hl;omega
  have hcell:w.cell? ⟨g,off+i,none⟩=some cur[off+i]:=by rw [hb.cell];simp [hi]
  have akB:=hb.frozen (off+i);have hst:(store ((⟨g,off,none⟩:Addr).add i) v).run P w=.ok () (w.setCell ⟨g,off+i,none⟩ v):=by
   rw [VW,run_store P w _ v _ (h1 v Ze),hcell];simp [akB]
  have hb1:ZI (w.setCell ⟨g,off+i,none⟩ v) g t (cur.set (off+i) v).toArray:=hb.put Ze;obtain⟨w',e,hb2,hm⟩:=Pt g t off rest (i+1) (cur.set (off+i) v) _ hb1 (by simp at hl ⊢;omega) (fun x hx=>h1 x (by simp [hx]));refine⟨w',?_,?_,(((Mod.refl (·=g) w).setCell (p:=⟨g,off+i,none⟩) (.inl rfl) v)).trans hm⟩
  ·simp only [storeCells,Xm,hst,Yj,e]
  ·have e2:splice (cur.set (off+i) v) (off+(i+1)) rest=splice cur (off+i) (v :: rest):=by
    unfold splice;have a1:(cur.set (off+i) v).take (off+(i+1))=cur.take (off+i)++[v]:=by
     rw [show off+(i+1)=(off+i)+1 by omega,List.take_succ_eq_append_getElem (by simp;exact hi)];rw [List.take_set_of_le (Nat.le_refl _)];simp
    have a2:(cur.set (off+i) v).drop (off+(i+1)+rest.length)=cur.drop (off+i+(v :: rest).length):=by
     rw [List.drop_set_of_lt Z8];congr 1;simp;omega
    rw [a1,a2];simp
   rwa [e2]at hb2
theorem aaa(w:World)(g:Nat)(t ty:TypeId)(off:Nat)(cur cells:List Value)(hb:ZI w g t cur.toArray)(hi:(P.info? ty).map (·.size)=some cells.length)(hl:off+cells.length<=cur.length)(h1:∀v∈cells,v.oneCell'=true):
  ∃w',(storeVar ty ⟨g,off,none⟩ (.agg cells.toArray)).run P w=.ok () w'/\ZI w' g t (splice cur off cells).toArray/\Mod (·=g) w w':=by
 obtain⟨w',e,h2,h3⟩:=Pt (P:=P) g t off cells 0 cur w hb Z8 h1;refine⟨w',?_,by rwa [Nat.add_zero]at h2,h3⟩;cases hq:P.info? ty with
 | none=>simp [hq]at hi
 | some i=>
  have hs:cells.length=i.size:=by simp [hq]at hi;omega
  simp [storeVar,sizeOf,typeInfo,hq,Value.cells,hs,e]
theorem aaj{o:Oper}{a:Act}{w:World}{K:Act->World->Prop}{Q:Exit->Act->World->Prop}(ty:TypeId)(x y:Operand)(ho:o.op=.store ty x y)
  (g off:Nat)(cells:List Value)(hx:a.eval x=↑(ZC g off))(hy:a.eval y=.agg cells.toArray)
  (t:TypeId)(cur:List Value)(hb:ZI w g t cur.toArray)(hi:(P.info? ty).map (·.size)=some cells.length)(hl:off+cells.length<=cur.length)(h1:∀v∈cells,v.oneCell'=true)
  (h:∀w',ZI w' g t (splice cur off cells).toArray->Mod (·=g) w w'->K (a.put o.dst undef) w'):o.wp P a w K Q:=by
 obtain⟨w',e,h2,h3⟩:=aaa (P:=P) w g t ty off cur cells hb hi hl h1;unfold Oper.wp execOp;simp only [ho,hx,hy,Instr.storeAt,Instr.sureAddr,Xm,Wi,Yj,e];exact h w' h2 h3
theorem WR{ops:Array Oper}{rest:List Oper}{o:Oper}{a:Act}{w:World}{Q:Exit->Act->World->Prop}(hgd:o.guard=none)(ty:TypeId)(x y:Operand)(ho:o.op=.store ty x y)
  (g off:Nat)(cells:List Value)(hx:a.eval x=↑(ZC g off))(hy:a.eval y=.agg cells.toArray)
  (t:TypeId)(cur:List Value)(hb:ZI w g t cur.toArray)(hi:(P.info? ty).map (·.size)=some cells.length)(hl:off+cells.length<=cur.length)(h1:∀v∈cells,v.oneCell'=true)
  (h:∀w',ZI w' g t (splice cur off cells).toArray->Mod (·=g) w w'->wpList P ops Q rest (a.put o.dst undef) w'):wpList P ops Q (o :: rest) a w:=
 wpList_plain hgd fun _ hK=>aaj ty x y ho g off cells hx hy t cur hb hi hl h1 (fun w' a b=>hK _ _ (h w' a b))
theorem aad{ops:Array Oper}{w:World}{o:Oper}{rest:List Oper}{a:Act}{Q:Act->Prop}(hgd:o.guard=none)(ty:TypeId)(x:Operand)(ho:o.op=.load ty x)
  (g:Nat)(hx:a.eval x=↑(ZC g 0))(t:TypeId)(cs:Array Value)(d:TypeDesc)(hb:ZI w g t cs)
  (hu:P.underlying ty=some d)(hd:(match d with | .struct _ | .array _ _=>true|_=>false)=true)(hi:(P.info? ty).map (·.size)=some cs.size)
  (h:wpStill P ops w Q rest (a.put o.dst (.agg cs))):wpStill P ops w Q (o :: rest) a:=by
 refine wpStill_step (fun K hK=>?_);have hw:ZH o (yielded ops a.tmps)=true:=by simp [ZH,hgd]
 rw [if_pos hw];unfold Oper.still execOp;simp only [ho,hx,Instr.loadAt,Instr.sureAddr,Xm,Wi,Yj,run_loadVar_row w g t ty cs (0,0) d hb hu hd hi];exact⟨rfl,hK _ h⟩
end
end Go.Proofs.YthednemlahioeaaGreatDoor
