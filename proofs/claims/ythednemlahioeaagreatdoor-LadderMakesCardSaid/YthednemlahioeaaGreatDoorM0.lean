/-
  Small words on memory, used by all walks of this seat: a block that is known whole; a world of which only named blocks have turned.
-/
import Derived.Test.YthednemlahioeaaGreatDoorMS
import Derived.WalkSpells
import Derived.WalkLawsBesides
import Derived.Deep.QuietTactic
import Derived.BigQuiet
import Derived.Deep.Draws
import Derived.Laws.OwnMore
import Derived.Laws.AppendOwnNone
import Derived.Maps.AppendAt
import Derived.RegionTactic
import Derived.OwnWalk
import Derived.Laws.BytesString
import Derived.Laws.IdiomStrings
import Derived.Laws.CopyOwn
import Derived.BigRegion
import Derived.Deep.RegionHeld3
import Derived.Deep.Cut
import Derived.Lib.ItoaNum
import Derived.Lib.AtoiAll
import GoSem.Core.World
import Derived.Laws.BitsAllLaws
namespace Go.Proofs.YthednemlahioeaaGreatDoor
open Go.RowKit
open Below renaming heap_alloc→Sb
open Nat renaming le_refl→ZY,le_trans→ZQ,lt_of_lt_of_le→ZB,add_mul→Y5
open List renaming eq_nil_of_length_eq_zero→Xw,map_cons→VN,length_take→YN,take_of_length_le→Zt,getElem?_eq_getElem→ZP,flatten_cons→SX,getElem?_append_left→Zv,getElem?_append_right→ZF,length_append→YW,mem_of_getElem?→Xg,range→Zz,nodup_cons→WE,cons_append→Vj,map_append→YP
open World renaming cell?_of_block→ZV,cell?_spot→Sg
open Value renaming ownBlock→YQ,int→Yk
open Instr renaming index→UA
open Bool renaming false_and→Zp,true_and→YS
open Int renaming tdiv_eq_ediv_of_nonneg→ZK,ediv_neg_of_neg_of_pos→U7
open Go.Proofs.Tryz
set_option maxRecDepth 100000
set_option maxHeartbeats 8000000
def ZI(w:World)(g:Nat)(t:TypeId)(cs:Array Value):Prop:=w.heap[g]?=some (.cells cs t (0,0))
structure Mod(S:Nat->Prop)(w w':World):Prop where
 os:w'.os=w.os
 tape:w'.tape=w.tape
 output:w'.output=w.output
 size:w.heap.size<=w'.heap.size
 block:∀k,k<w.heap.size->¬S k->w'.heap[k]?=w.heap[k]?
section
variable {w w' : World} {g : Nat} {t : TypeId} {cs : Array Value} {S : Nat → Prop}
theorem ZI.lt(h:ZI w g t cs):g<w.heap.size:=by
 rcases Nat.lt_or_ge g w.heap.size with hlt|Dt
 ·exact hlt
 ·unfold ZI at h;rw [Array.getElem?_eq_none Dt]at h;cases h
theorem ZI.cell(h:ZI w g t cs)(i:Nat):w.cell? ⟨g,i,none⟩=cs[i]?:=cell_of_row w g i cs t (0,0) h
theorem ZI.frozen(h:ZI w g t cs)(i:Nat):w.frozen? ⟨g,i,none⟩=false:=by
 unfold ZI at h;simp [World.frozen?,h]
theorem ZI.both(h:ZI w g t cs):(∀i,w.cell? ⟨g,i,none⟩=cs[i]?)/\(∀i,w.frozen? ⟨g,i,none⟩=false):=⟨h.cell,h.frozen⟩
theorem ZI.new(w:World)(t:TypeId)(cs:Array Value):ZI (w.alloc (.cells cs t)) w.heap.size t cs:=heap_alloc_new w _
theorem ZI.drew(h:ZI w g t cs):ZI w.drew g t cs:=h
theorem ZI.drewN(h:ZI w g t cs)(n:Nat):ZI (w.drewN n) g t cs:=h
theorem ZI.alloc(h:ZI w g t cs)(o:Obj):ZI (w.alloc o) g t cs:=(Sb w o g h.lt).trans h
theorem ZI.UY(h:ZI w g t cs)(i:Nat)(u:Value):ZI (w.setCell ⟨g,i,none⟩ u) g t (cs.setIfInBounds i u):=by
 unfold ZI at h ⊢;simp [World.setCell,Array.getElem?_modify,h]
theorem ZI.put(h:ZI w g t cs){i:Nat}{u:Value}{cs':Array Value}(e:cs.setIfInBounds i u=cs'):ZI (w.setCell ⟨g,i,none⟩ u) g t cs':=e▸h.UY i u
theorem ZI.far(h:ZI w g t cs){p:Addr}(hp:g≠p.block)(u:Value):ZI (w.setCell p u) g t cs:=(Below.heap_setCell w p u g hp).trans h
theorem ZI.keep(h:ZI w g t cs)(hm:Mod S w w')(hg:¬S g):ZI w' g t cs:=(hm.block g h.lt hg).trans h
theorem ZI.SL{g':Nat}{t':TypeId}{cs':Array Value}(h:ZI w g t cs)(h':ZI w g' t' cs')(hne:t≠t'):g≠g':=by
 rintro rfl;unfold ZI at h h';rw [h]at h';injection h' with h';injection h' with _ ht;exact hne ht
theorem ZI.below{B:Nat}(h:ZI w g t cs)(hb:Below B w w')(hg:g<B):ZI w' g t cs:=(hb.block g hg).trans h
theorem Mod.refl(S:Nat->Prop)(w:World):Mod S w w:=⟨rfl,rfl,rfl,ZY _,fun _ _ _=>rfl⟩
theorem Mod.trans{a b c:World}(h:Mod S a b)(k:Mod S b c):Mod S a c:=
 ⟨k.os.trans h.os,k.tape.trans h.tape,k.output.trans h.output,ZQ h.size k.size,
  fun i hi hs=>(k.block i (ZB hi h.size) hs).trans (h.block i hi hs)⟩
theorem Mod.FU{S':Nat->Prop}{a b c:World}(h:Mod S a b)(k:Mod S' b c)(hs:∀i,i<a.heap.size->S' i->S i):Mod S a c:=
 ⟨k.os.trans h.os,k.tape.trans h.tape,k.output.trans h.output,ZQ h.size k.size,
  fun i hi hn=>(k.block i (ZB hi h.size) (fun x=>hn (hs i hi x))).trans (h.block i hi hn)⟩
theorem Mod.drew{a:World}(h:Mod S a w):Mod S a w.drew:=⟨h.os,h.tape,h.output,h.size,h.block⟩
theorem Mod.drewN{a:World}(h:Mod S a w)(n:Nat):Mod S a (w.drewN n):=⟨h.os,h.tape,h.output,h.size,h.block⟩
theorem Mod.alloc{a:World}(h:Mod S a w)(o:Obj):Mod S a (w.alloc o):=
 ⟨h.os,h.tape,h.output,ZQ h.size Ze,fun i hi hne=>(Sb w o i (ZB hi h.size)).trans (h.block i hi hne)⟩
theorem Mod.setCell{a:World}(h:Mod S a w){p:Addr}(hp:S p.block\/a.heap.size<=p.block)(u:Value):Mod S a (w.setCell p u):=
 ⟨h.os,h.tape,h.output,by simpa [World.setCell]using h.size,fun i hi hne=>(Below.heap_setCell w p u i (by
  rintro rfl;rcases hp with hp|hp
  ·exact hne hp
  ·omega)).trans (h.block i hi hne)⟩
theorem Mod.below{a:World}(h:Mod S a w)(hS:∀i,S i->a.heap.size<=i):Below a.heap.size a w:=
 ⟨h.os,h.tape,h.output,h.size,fun i hi=>h.block i hi (fun hs=>by have:=hS i hs;omega)⟩
theorem Mod.grown{a:World}{row:Option Nat}(h:Mod S a w)(hg:w.grownBy w' row)(hr:∀k,row=some k->S k\/a.heap.size<=k):Mod S a w':=
 ⟨hg.os.trans h.os,hg.tape.trans h.tape,hg.output.trans h.output,ZQ h.size hg.size,fun i hi hs=>
  (hg.block i (ZB hi h.size) (fun e=>by rcases hr i e.symm with h'|h';exact hs h';omega)).trans (h.block i hi hs)⟩
end
theorem Mod.mono{S S':Nat->Prop}{w w':World}(h:Mod S w w')(hs:∀i,S i->S' i):Mod S' w w':=⟨h.os,h.tape,h.output,h.size,fun k hk hn=>h.block k hk fun x=>hn (hs k x)⟩
theorem Mod.into{S S':Nat->Prop}{a b c:World}(h:Mod S a b)(k:Mod S' b c)(hs:∀i,S' i->S i\/a.heap.size<=i):Mod S a c:=
 ⟨k.os.trans h.os,k.tape.trans h.tape,k.output.trans h.output,ZQ h.size k.size,
  fun i hi hn=>(k.block i (ZB hi h.size) (fun x=>(hs i x).elim hn Z8)).trans (h.block i hi hn)⟩
theorem ZG{w:World}{B:Nat}{e:TypeId}{size n:Nat}{v:Value}{xs:List Value}(h:w.ownsRow B e size v n xs):∃A c,v=.slice A n c:=by
 rcases h.2 with⟨hv,h0⟩|⟨g,cap,cur,hv,_⟩
 ·exact⟨none,0,by rw [hv,h0]⟩
 ·exact⟨_,_,hv⟩
theorem Qo(a:Addr)(n:Nat):(a.add n).block=a.block:=by
 unfold Addr.add;split<;>rfl
def Src(w:World)(size:Nat)(A:Option Addr)(n:Nat)(xs:List Value):Prop:=
 xs.length=n*size/\(A=none->n=0)/\∀ad,A=some ad->∀j u,xs[j]?=some u->w.cell? (ad.add j)=some u
section
variable {P : Program} {w w' : World} {size n : Nat} {A : Option Addr} {xs : List Value}
theorem Src.nil:Src w size none 0 []:=⟨Ze,fun _=>rfl,fun _ h=>by cases h⟩
theorem Src.keep(h:Src w size A n xs)(hk:∀ad,A=some ad->∀j,w'.cell? (ad.add j)=w.cell? (ad.add j)):Src w' size A n xs:=
 ⟨h.1,h.2.1,fun ad e j u hu=>(hk ad e j).trans (h.2.2 ad e j u hu)⟩
theorem Src.keep'(h:Src w size A n xs)(hk:0<n->∀ad,A=some ad->∀j,w'.cell? (ad.add j)=w.cell? (ad.add j)):Src w' size A n xs:=by
 rcases Nat.eq_zero_or_pos n with h0|h0
 ·subst h0;have hx:xs=[]:=Xw (by rw [h.1];simp);subst hx;exact⟨h.1,h.2.1,fun ad e j u hu=>by simp at hu⟩
 ·exact h.keep (hk h0)
theorem Src.Oy{base:Nat}{e:TypeId}{c:Nat}{m:Nat}(h:w.ownsRow base e size (.slice A m c) n xs):m=n/\Src w size A n xs:=by
 rcases h.2 with⟨hv,rfl⟩|⟨g,cap,cur,hv,_,_⟩
 ·injection hv with h1 h2 h3;subst h1;subst h2;exact⟨rfl,h.1,fun _=>rfl,fun _ h=>by cases h⟩
 ·injection hv with h1 h2 h3;subst h1;subst h2;refine⟨rfl,h.1,fun h=>(by cases h),fun ad e j u hu=>?_⟩;injection e with e;subst e;exact h.cells (g:=g) rfl j u hu
theorem Src.mod{S:Nat->Prop}(h:Src w size A n xs)(hm:Mod S w w')(hS:∀ad,A=some ad->ad.block<w.heap.size/\¬S ad.block):Src w' size A n xs:=
 h.keep fun ad e j=>ZV (by rw [Qo];exact hm.block _ (hS ad e).1 (hS ad e).2)
theorem Src.new(w:World)(t:TypeId)(xs:List Value):Src (w.alloc (.cells xs.toArray t)) xs.length (some ↑w.heap.size) 1 xs:=by
 refine⟨Ze,fun h=>(by cases h),fun ad e j u hu=>?_⟩;injection e with e;subst e;have agA:(↑w.heap.size:Addr).add j=⟨w.heap.size,j,none⟩:=by unfold Addr.add;split<;>simp_all
 rw [agA,(ZI.new w t xs.toArray).cell j];simpa using hu
theorem abP(w:World)(base:Nat)(t ty e:TypeId)(i:TypeInfo)(z:Value)(size bytes:Nat)(ht:P.underlying t=some (.slice e))(hi:P.info? e=some i)(hz:i.zero=some z)
  (hsize:i.size=size)(hby:i.bytes=bytes)(hzs:z.cells.size=size)(hsz:0<size)
  (v:Value)(n:Nat)(xs:List Value)(hown:w.ownsRow base e size v n xs)
  (A:Option Addr)(m c:Nat)(news:List Value)(hs:Src w size A m news)(hc:A=none->c=0)(h1:∀u∈news,u.oneCell'=true)
  (h63:n+m<=maxLen)(hbytes:(n+m)*bytes<=140737488355328)(hbase:base<=w.heap.size):
  ∃v' w',(Builtin.append_ #[t,t] ty #[v,.slice A m c]).run P w=.ok v' w'/\w'.ownsRow base e size v' (n+m) (xs++news)/\w.grownBy w' v.ownBlock /\
   (v'.ownBlock=v.ownBlock\/v'.ownBlock=some w.heap.size):=by
 cases A with
 | none=>
  obtain rfl:=hs.2.1 rfl;obtain rfl:=hc rfl;obtain rfl:news=[]:=Xw (by rw [hs.1];simp);exact⟨v,w,run_append_owned_none w base t ty e i size ht hi v n xs hown,by simpa using hown,World.grownBy.refl w _,.inl rfl⟩
 | some ad=>
  obtain⟨v',w',hr,h2,h3,_,h5⟩:=run_append_own_at (P:=P) w base t ty e i z size bytes ht hi hz hsize hby hzs hsz v n xs hown ad m c news hs.1 (hs.2.2 ad rfl) h1 h63 hbytes hbase;exact⟨v',w',hr,h2,h3,h5⟩
theorem Tm{o:Oper}{a:Act}{K:Act->World->Prop}{Q:Exit->Act->World->Prop}(w:World)(s x:Operand)(t:TypeId)
  (ho:o.op=.call { callee:=.builtin .append,args:=#[s,x],argTypes:=#[t,t] })
  (base:Nat)(e:TypeId)(i:TypeInfo)(z:Value)(size bytes:Nat)(ht:P.underlying t=some (.slice e))(hi:P.info? e=some i)(hz:i.zero=some z)
  (hsize:i.size=size)(hby:i.bytes=bytes)(hzs:z.cells.size=size)(hsz:0<size)
  (v:Value)(n:Nat)(xs:List Value)(hs:a.eval s=v)(hown:w.ownsRow base e size v n xs)
  (A:Option Addr)(m c:Nat)(news:List Value)(hx:a.eval x=.slice A m c)(hr:Src w size A m news)(hc:A=none->c=0)(h1:∀u∈news,u.oneCell'=true)
  (h63:n+m<=maxLen)(hbytes:(n+m)*bytes<=140737488355328)(hbase:base<=w.heap.size)
  (h:∀v' w',w'.ownsRow base e size v' (n+m) (xs++news)->w.grownBy w' v.ownBlock->(v'.ownBlock=v.ownBlock\/v'.ownBlock=some w.heap.size)->K (a.put o.dst v') w'):o.wp P a w K Q:=by
 obtain⟨v',w',hrun,h2,h3,h4⟩:=abP (P:=P) w base t o.type e i z size bytes ht hi hz hsize hby hzs hsz v n xs hown A m c news hr hc h1 h63 hbytes hbase;unfold Oper.wp execOp;simp only [ho,resolve,invoke,builtin,Sem.run_bind,Sem.run_pure,Result.andThen_ok,List.map_toArray,VN,List.map_nil,hs,hx,hrun];exact h v' w' h2 h3 h4
theorem Wo{ops:Array Oper}{rest:List Oper}{o:Oper}{a:Act}{Q:Exit->Act->World->Prop}(w:World)(hgd:o.guard=none)(s x:Operand)(t:TypeId)
  (ho:o.op=.call { callee:=.builtin .append,args:=#[s,x],argTypes:=#[t,t] })
  (base:Nat)(e:TypeId)(i:TypeInfo)(z:Value)(size bytes:Nat)(ht:P.underlying t=some (.slice e))(hi:P.info? e=some i)(hz:i.zero=some z)
  (hsize:i.size=size)(hby:i.bytes=bytes)(hzs:z.cells.size=size)(hsz:0<size)
  (v:Value)(n:Nat)(xs:List Value)(hs:a.eval s=v)(hown:w.ownsRow base e size v n xs)
  (A:Option Addr)(m c:Nat)(news:List Value)(hx:a.eval x=.slice A m c)(hr:Src w size A m news)(hc:A=none->c=0)(h1:∀u∈news,u.oneCell'=true)
  (h63:n+m<=maxLen)(hbytes:(n+m)*bytes<=140737488355328)(hbase:base<=w.heap.size)
  (h:∀v' w',w'.ownsRow base e size v' (n+m) (xs++news)->w.grownBy w' v.ownBlock->(v'.ownBlock=v.ownBlock\/v'.ownBlock=some w.heap.size)->wpList P ops Q rest (a.put o.dst v') w'):wpList P ops Q (o :: rest) a w:=
 wpList_plain hgd fun _ hK=>Tm w s x t ho base e i z size bytes ht hi hz hsize hby hzs hsz v n xs hs hown A m c news hx hr hc h1 h63 hbytes hbase fun v' w' h2 h3 h4=>hK _ _ (h v' w' h2 h3 h4)
theorem TE{ops:Array Oper}{o:Oper}{a:Act}{K:Act->World->Prop}{Q:Exit->Act->World->Prop}{E:Prop}(w:World)(hgd:o.guard=none)(s x:Operand)(t:TypeId)
  (ho:o.op=.call { callee:=.builtin .append,args:=#[s,x],argTypes:=#[t,t] })
  (base:Nat)(e:TypeId)(i:TypeInfo)(z:Value)(size bytes:Nat)(ht:P.underlying t=some (.slice e))(hi:P.info? e=some i)(hz:i.zero=some z)
  (hsize:i.size=size)(hby:i.bytes=bytes)(hzs:z.cells.size=size)(hsz:0<size)
  (v:Value)(n:Nat)(xs:List Value)(hs:a.eval s=v)(hown:w.ownsRow base e size v n xs)
  (A:Option Addr)(m c:Nat)(news:List Value)(hx:a.eval x=.slice A m c)(hr:Src w size A m news)(hc:A=none->c=0)(h1:∀u∈news,u.oneCell'=true)
  (h63:n+m<=maxLen)(hbytes:(n+m)*bytes<=140737488355328)(hbase:base<=w.heap.size)
  (h:∀v' w',w'.ownsRow base e size v' (n+m) (xs++news)->w.grownBy w' v.ownBlock->(v'.ownBlock=v.ownBlock\/v'.ownBlock=some w.heap.size)->K (a.put o.dst v') w'):
  if Region.wanted o (yielded ops a.tmps)=true then Oper.wp P o a w K Q else E:=by
 have hw:Region.wanted o (yielded ops a.tmps)=true:=by simp [Region.wanted,hgd]
 rw [if_pos hw];exact Tm w s x t ho base e i z size bytes ht hi hz hsize hby hzs hsz v n xs hs hown A m c news hx hr hc h1 h63 hbytes hbase h
theorem XT{S:Nat->Prop}{base:Nat}{e:TypeId}{v:Value}(h:w.ownsRow base e size v n xs)(hm:Mod S w w')(hS:∀g,v.ownBlock=some g->¬S g):w'.ownsRow base e size v n xs:=by
 refine⟨h.1,?_⟩;rcases h.2 with hn|⟨g,cap,cur,rfl,hb,uD,rest⟩
 ·exact .inl hn
 ·exact .inr ⟨g,cap,cur,rfl,hb,(hm.block g (Array.getElem?_eq_some_iff.1 uD).1 (hS g rfl)).trans uD,rest⟩
theorem SH{g:Nat}{t:TypeId}{cs:Array Value}{base:Nat}{e:TypeId}{v:Value}(h:w.ownsRow base e size v n xs)(hg:ZI w g t cs)(hne:e≠t):v.ownBlock≠some g:=by
 rcases h.2 with⟨rfl,_⟩|⟨g',cap,cur,rfl,_,hh,_⟩
 ·simp [YQ]
 ·intro he;obtain rfl:g'=g:=by simpa [YQ]using he
  exact ZI.SL (t:=e) hh hg hne rfl
end
def ahJ:Obj->Option TypeId
 | .cells _ t _=>some t
 | _=>none
structure RV(B:Nat)(T:TypeId->Bool)(w w':World):Prop where
 os:w'.os=w.os
 tape:w'.tape=w.tape
 output:w'.output=w.output
 size:w.heap.size<=w'.heap.size
 low:∀k,k<B->k<w.heap.size->w'.heap[k]?=w.heap[k]?
 same:∀(k:Nat) (o:Obj),w.heap[k]?=some o->(∀t,ahJ o=some t->T t=false)->w'.heap[k]?=some o
theorem RV.refl(B:Nat)(T:TypeId->Bool)(w:World):RV B T w w:=⟨rfl,rfl,rfl,ZY _,fun _ _ _=>rfl,fun _ _ h _=>h⟩
theorem RV.trans{B:Nat}{T:TypeId->Bool}{a b c:World}(h:RV B T a b)(k:RV B T b c):RV B T a c:=
 ⟨k.os.trans h.os,k.tape.trans h.tape,k.output.trans h.output,ZQ h.size k.size,
  fun i hi hl=>(k.low i hi (ZB hl h.size)).trans (h.low i hi hl),
  fun i o ho hT=>k.same i o (h.same i o ho hT) hT⟩
theorem RV.base{B B':Nat}{T:TypeId->Bool}{w w':World}(h:RV B T w w')(hB:B'<=B):RV B' T w w':=⟨h.os,h.tape,h.output,h.size,fun k hk hl=>h.low k Z8 hl,h.same⟩
theorem RV.mono{B:Nat}{T T':TypeId->Bool}{w w':World}(h:RV B T w w')(hT:∀t,T t=true->T' t=true):RV B T' w w':=
 ⟨h.os,h.tape,h.output,h.size,h.low,fun k o ho hn=>h.same k o ho (fun t ht=>by
  cases hc:T t with
  | false=>rfl
  | true=>exact absurd (hT t hc) (by rw [hn t ht];decide))⟩
theorem RV.drew{B:Nat}{T:TypeId->Bool}{a w:World}(h:RV B T a w):RV B T a w.drew:=⟨h.os,h.tape,h.output,h.size,h.low,h.same⟩
theorem RV.drewN{B:Nat}{T:TypeId->Bool}{a w:World}(h:RV B T a w)(n:Nat):RV B T a (w.drewN n):=⟨h.os,h.tape,h.output,h.size,h.low,h.same⟩
theorem RV.alloc{B:Nat}{T:TypeId->Bool}{a w:World}(h:RV B T a w)(o:Obj):RV B T a (w.alloc o):=
 have hh:∀k x,w.heap[k]?=some x->(w.alloc o).heap[k]?=some x:=fun k x hx=>(Sb w o k (Array.getElem?_eq_some_iff.1 hx).1).trans hx
 ⟨h.os,h.tape,h.output,ZQ h.size Ze,fun k hk hl=>(Sb w o k (ZB hl h.size)).trans (h.low k hk hl),
  fun k x hx hT=>hh k x (h.same k x hx hT)⟩
theorem RV.DX{B:Nat}{T:TypeId->Bool}{S:Nat->Prop}{w w':World}(h:Mod S w w')(hS:∀k,k<w.heap.size->S k->B<=k/\∃t cs,ZI w k t cs/\T t=true):RV B T w w':=by
 refine⟨h.os,h.tape,h.output,h.size,fun k hk hl=>h.block k hl (fun hs=>by have:=(hS k hl hs).1;omega),fun k o ho hT=>?_⟩;have hl:=(Array.getElem?_eq_some_iff.1 ho).1;by_cases hs:S k
 ·obtain⟨_,t',cs,h1,h3⟩:=hS k hl hs;unfold ZI at h1;rw [h1]at ho;injection ho with ho;subst ho;exact absurd h3 (by rw [hT t' rfl];decide)
 ·exact(h.block k hl hs).trans ho
theorem RV.xS{B:Nat}{T:TypeId->Bool}{w w':World}(h:Mod ↑ZW w w'):RV B T w w':=.DX h (fun _ _ h=>h.elim)
theorem RV.setCell{B:Nat}{T:TypeId->Bool}{a w:World}(h:RV B T a w){g i:Nat}{t:TypeId}{cs:Array Value}(hb:ZI w g t cs)(hB:B<=g)(hT:T t=true)(u:Value):RV B T a (w.setCell ⟨g,i,none⟩ u):=
 h.trans (.DX ((Mod.refl (·=g) _).setCell (by exact .inl rfl) _) (fun k _ e=>by subst e;exact⟨hB,t,cs,hb,hT⟩))
theorem RV.below{T:TypeId->Bool}{w w':World}(h:RV w.heap.size T w w'):Below w.heap.size w w':=⟨h.os,h.tape,h.output,h.size,fun k hk=>h.low k hk hk⟩
theorem ZI.tmod{B:Nat}{T:TypeId->Bool}{w w':World}{g:Nat}{t:TypeId}{cs:Array Value}(hb:ZI w g t cs)(h:RV B T w w')(hT:T t=false):ZI w' g t cs:=
 h.same g _ hb (fun t' ht=>by simp only [ahJ,Option.some.injEq]at ht;rw [<-ht];exact hT)
theorem adb{B B':Nat}{T:TypeId->Bool}{w w':World}{e:TypeId}{size n:Nat}{v:Value}{xs:List Value}(h:w.ownsRow B e size v n xs)(hm:RV B' T w w')(hT:T e=false):w'.ownsRow B e size v n xs:=by
 refine⟨h.1,?_⟩;rcases h.2 with hn|⟨g,cap,cur,rfl,hb,uD,rest⟩
 ·exact .inl hn
 ·exact .inr ⟨g,cap,cur,rfl,hb,ZI.tmod (cs:=cur) uD hm hT,rest⟩
theorem xX{B B':Nat}{w:World}{e:TypeId}{size n:Nat}{v:Value}{xs:List Value}(h:w.ownsRow B e size v n xs)(hB:B'<=B):w.ownsRow B' e size v n xs:=
 ⟨h.1,h.2.imp id (fun⟨g,cap,cur,h1,h2,h3⟩=>⟨g,cap,cur,h1,Z8,h3⟩)⟩
theorem Kc{B:Nat}{w:World}{e:TypeId}{size n:Nat}{v:Value}{xs:List Value}{k:Nat}(h:w.ownsRow B e size v n xs)(hk:v.ownBlock=some k):B<=k/\∃cs,ZI w k e cs:=by
 rcases h.2 with⟨rfl,_⟩|⟨g,cap,cur,rfl,hb,uD,rest⟩
 ·simp [YQ]at hk
 ·obtain rfl:g=k:=by simpa [YQ]using hk
  exact⟨hb,cur,uD⟩
theorem addr_add(r j:Nat):(↑r:Addr).add j=⟨r,j,none⟩:=by unfold Addr.add;split<;>simp_all
theorem VW(r o j:Nat):(⟨r,o,none⟩:Addr).add j=⟨r,o+j,none⟩:=by unfold Addr.add;split<;>simp_all
theorem Pf:(Tryz.prog.info? 5).map (fun i=>(i.zero,i.size,i.bytes))=some (some (.int .u8 0),1,1):=ZR
def Yw(l:List UInt8):List Value:=l.map fun b=>.int .u8 (b.toNat:Int)
theorem Pg(l:List UInt8):∀u∈Yw l,u.oneCell'=true:=fun u hu=>by
 obtain⟨b,_,rfl⟩:=List.mem_map.1 hu;rfl
theorem YG(l:List UInt8):(Yw l).length=l.length:=by simp [Yw]
def Bytes(w:World)(B:Nat)(v:Value)(l:List UInt8):Prop:=w.ownsRow B 5 1 v l.length (Yw l)
def BytesIn(w:World)(A:Option Addr)(n c:Nat)(l:List UInt8):Prop:=l.length=n/\(A=none->c=0)/\Src w 1 A n (Yw l)/\(0<n->∀ad,A=some ad->ad.block<w.heap.size)
theorem Bytes.take{w:World}{B r n c:Nat}{l:List UInt8}(h:Bytes w B ↑(ZZ r n c) l)(m:Nat)(hm:m<=l.length):Bytes w B ↑(ZZ r m c) (l.take m):=by
 have hl:(l.take m).length=m:=by rw [YN];omega
 refine⟨by simp [Yw],?_⟩;rcases h.2 with⟨hv,_⟩|⟨g,cap,cur,hv,hB,hg,xA,hcm,hs,ht⟩
 ·cases hv
 ·obtain⟨rfl,e2,rfl⟩:r=g/\n=l.length/\c=cap:=by injection hv with e1 e2 e3;injection e1 with e1;injection e1;exact⟨WL,e2,e3⟩
  refine .inr ⟨r,c,cur,by rw [hl],hB,hg,Z8,hcm,hs,?_⟩;have e:Yw (l.take m)=(Yw l).take m:=by simp [Yw,List.map_take]
  rw [hl,e,<-ht,List.take_take];simp;omega
def strOf(l:List UInt8):ByteArray:=⟨l.toArray⟩
theorem EK(w:World)(A:Option Addr)(n c:Nat)(l:List UInt8)(hl:l.length=n)(h:Src w 1 A n (Yw l)):(convert 54 9 (.slice A n c)).run prog w=.ok (.string (strOf l)) w:=by
 rw [run_convert_bytes_string w 54 9 5 A n c underlying54 underlying5 underlying9];cases A with
 | none=>
  obtain rfl:=h.2.1 rfl;obtain rfl:l=[]:=Xw hl;rfl
 | some ad=>
  have mI:=run_loadCells_list (P:=prog) (w:=w) ad (Yw l) (h.2.2 ad rfl);rw [YG,hl]at mI;have e:Yw l=(l.map fun b=>(b.toNat:Int)).map (Yk .u8):=by simp [Yw]
  rw [e]at mI;rw [run_bytesToString w ad n c (l.map fun b=>(b.toNat:Int)) mI,foldl_push_byteCells];simp [strOf]
theorem BytesIn.mod{w w':World}{S:Nat->Prop}{A:Option Addr}{n c:Nat}{l:List UInt8}(h:BytesIn w A n c l)(hm:Mod S w w')(hS:0<n->∀ad,A=some ad->¬S ad.block):BytesIn w' A n c l:=by
 obtain⟨h1,h2,h3,h4⟩:=h;refine⟨h1,h2,h3.keep' fun h0 ad e j=>ZV (by rw [Qo];exact hm.block _ (h4 h0 ad e) (hS h0 ad e)),fun h0 ad e=>ZB (h4 h0 ad e) hm.size⟩
theorem BytesIn.quiet{w w':World}{A:Option Addr}{n c:Nat}{l:List UInt8}(h:BytesIn w A n c l)(hm:Mod ↑ZW w w'):BytesIn w' A n c l:=h.mod hm (fun _ _ _ h=>h)
theorem Bytes.RU{w:World}{B:Nat}{A:Option Addr}{m c:Nat}{l:List UInt8}(h:Bytes w B (.slice A m c) l):BytesIn w A m c l:=by
 have hs:=Src.Oy h;obtain⟨rfl,hs⟩:=hs;refine⟨rfl,fun e=>?_,hs,fun _ ad e=>?_⟩
 ·rcases h.2 with⟨hv,_⟩|⟨g,cap,cur,hv,_⟩
  ·injection hv
  ·subst e;injection hv with e1;cases e1
 ·rcases h.2 with⟨hv,_⟩|⟨g,cap,cur,hv,hB,hg,_⟩
  ·subst e;injection hv with e1;cases e1
  ·subst e;injection hv with e1;injection e1 with e1;subst e1;exact(Array.getElem?_eq_some_iff.1 hg).1
theorem Bytes.cell{w:World}{B r n c:Nat}{l:List UInt8}(h:Bytes w B ↑(ZZ r n c) l)(i:Nat)(hi:i<l.length):w.cell? ⟨r,i,none⟩=some (.int .u8 ((l.getD i 0).toNat:Int)):=by
 have:=World.ownsRow.cells h (g:=r) rfl i (.int .u8 ((l.getD i 0).toNat:Int)) (by simp [Yw,List.getD_eq_getElem?_getD,hi]);rwa [addr_add]at this
theorem Bytes.some_{w:World}{B n c:Nat}{A:Option Addr}{l:List UInt8}(h:Bytes w B (.slice A n c) l)(h0:0<l.length):∃r,A=some ⟨r,0,none⟩/\l.length<=c:=by
 rcases h.2 with⟨_,h1⟩|⟨r,cap,cur,hv,_,_,hc,_⟩
 ·omega
 ·injection hv with e1 _ e3;exact⟨r,e1,Z8⟩
theorem Rw{P:Program}{w:World}{ops:Array Oper}{rest:List Oper}{o:Oper}{a:Act}{Q:Exit->Act->World->Prop}(hgd:o.guard=none)(d s:Operand)(dT sT:TypeId)
  (ho:o.op=.call { callee:=.builtin .copy,args:=#[d,s],argTypes:=#[dT,sT] })(elem:TypeId)(hu:P.underlying dT=some (.slice elem))(hsz:(P.info? elem).map (·.size)=some 1)
  (dp:Option Addr)(yY uj:Nat)(A:Option Addr)(m c:Nat)(xs:List Value)(hd:a.eval d=.slice dp yY uj)(hs:a.eval s=.slice A m c)(Ji:Src w 1 A m xs)
  (g off:Nat)(cur:List Value)(t:TypeId)(hg:ZI w g t cur.toArray)(n:Nat)(hn:n=Nat.min m yY)(hdp:0<n->dp=some ⟨g,off,none⟩)(qw:off+n<=cur.length)(h1:∀u∈xs,u.oneCell'=true)
  (h:∀w',ZI w' g t (splice cur off (xs.take n)).toArray->Mod (·=g) w w'->wpList P ops Q rest (a.put o.dst (goInt n)) w'):wpList P ops Q (o :: rest) a w:=by
 have qE:xs.length=m:=by have:=Ji.1;omega
 have iP:n<=m:=by rw [hn];exact Nat.min_le_left _ _
 by_cases h0:n=0
 ·refine wpList_copy_nothing hgd d s dT sT ho elem hu hsz dp A yY uj m c hd hs Z8 ?_;have:=h w (by rw [h0];simpa [splice]using hg) (Mod.refl _ _);rwa [h0]at this
 ·have agn:=hdp Z8;subst agn;cases A with
  | none=>have:=Ji.2.1 rfl;omega
  | some ad=>
   have hl:(xs.take n).length=n:=by rw [YN];omega
   refine wpList_copy_own hgd d s dT sT ho elem hu hsz g off yY uj ad m c hd hs cur.toArray t hg (xs.take n) (by rw [hl,hn]) (fun j v hv=>?_) (by rw [hl];simpa using qw) (fun v hv=>h1 v (List.mem_of_mem_take hv)) ?_
   ·rw [List.getElem?_take]at hv;split at hv
    ·exact Ji.2.2 ad rfl j v hv
    ·cases hv
   ·rw [hl];refine h _ ?_ ⟨rfl,rfl,rfl,by simp [World.setRow],fun k _ hk=>setRow_other w g k _ hk⟩;have:=setRow_heap w g cur.toArray (splice cur off (xs.take n)).toArray t (0,0) hg;simpa [ZI,splice,hl]using this
theorem Bytes.DW{w:World}{B g:Nat}{l:List UInt8}(hB:B<=g)(h:ZI w g 5 (Yw l).toArray)(hl:l.length<=maxLen):Bytes w B ↑(ZZ g l.length l.length) l:=
 ⟨by simp [Yw],.inr ⟨g,l.length,_,rfl,hB,h,ZY _,hl,by simp [Yw],by rw [Nat.mul_one];exact Zt (by simp [Yw])⟩⟩
theorem OH{w:World}{B:Nat}{e:TypeId}{g n:Nat}{xs:List Value}(h:w.ownsRow B e 1 ↑(ZZ g n n) n xs):ZI w g e xs.toArray/\B<=g:=by
 rcases h.2 with⟨hv,_⟩|⟨g',cap,cur,hv,hB,hg,_,_,hs,ht⟩
 ·cases hv
 ·injection hv with e1 _ e3;injection e1 with e1;injection e1 with e1;subst e1 e3;have:cur.toList=xs:=by rw [<-ht,Zt (by simp;omega)]
  exact⟨by rw [<-this];exact hg,hB⟩
theorem sV(w:World){B:Nat}{e:TypeId}{size n:Nat}{v:Value}{xs:List Value}{cells:List Value}{v':Value}{w':World}(hown:w.ownsRow B e size v n xs)
  (h2:(w.alloc (.cells cells.toArray e)).grownBy w' v.ownBlock)(h3:v'.ownBlock=v.ownBlock\/v'.ownBlock=some (w.alloc (.cells cells.toArray e)).heap.size):
  Mod (fun j=>v.ownBlock=some j) w w'/\(∀(W:World) (S:Nat->Prop),W.heap.size<=B->Mod S W w->Mod S W w')/\(∀g,v'.ownBlock=some g->v.ownBlock=some g\/w.heap.size<=g):=by
 have hM:Mod (fun j=>v.ownBlock=some j) w w':=((Mod.refl _ _).alloc _).grown h2 (fun k hk=>.inl hk);refine⟨hM,fun W S hW hS=>hS.into hM (fun i e=>.inr (ZQ hW (hown.lt i e).1)),fun g hg=>?_⟩;rcases h3 with h3|h3
 ·exact .inl (h3▸hg)
 ·rw [h3]at hg;injection hg with hg;exact .inr (by simp at hg;omega)
section
variable {P : Program} {ops : Array Oper} {rest : List Oper} {o : Oper} {a : Act} {Q : Exit → Act → World → Prop}
theorem OD(w:World)(hgd:o.guard=none)(s x:Operand)(t e:TypeId)(ho:o.op=.call { callee:=.builtin .append,args:=#[s,x],argTypes:=#[t,t] })
  (ht:P.underlying t=some (.slice e))(z:Value)(size bytes:Nat)(hi:(P.info? e).map (fun i=>(i.zero,i.size,i.bytes))=some (some z,size,bytes))(hzs:z.cells.size=size)(hsz:0<size)
  (B:Nat)(v:Value)(n:Nat)(xs cells:List Value)(SB:cells.length=size)(h1:∀u∈cells,u.oneCell'=true)(gq:Nat)(jJ:w.heap.size=gq)(hs:a.eval s=v)(hx:a.eval x=↑(ZZ gq 1 1))
  (hown:w.ownsRow B e size v n xs)(hB:B<=w.heap.size)(h63:n+1<=maxLen)(hby:(n+1)*bytes<=140737488355328)
  (h:∀v' w',w'.ownsRow B e size v' (n+1) (xs++cells)->Mod (fun j=>v.ownBlock=some j) w w'->(∀(W:World) (S:Nat->Prop),W.heap.size<=B->Mod S W w->Mod S W w')->(∀g,v'.ownBlock=some g->v.ownBlock=some g\/w.heap.size<=g)->wpList P ops Q rest (a.put o.dst v') w'):
  wpList P ops Q (o :: rest) a (w.alloc (.cells cells.toArray e)):=by
 obtain⟨i0,hi0,hz0,hz1,hz2⟩:=info_parts hi;subst SB;subst jJ;refine Wo _ hgd s x t ho B e i0 z cells.length bytes ht hi0 hz0 hz1 hz2 hzs hsz v n xs hs (XT hown ((Mod.refl ↑ZW w).alloc _) (fun _ _ h=>h)) (some ↑w.heap.size) 1 1 cells hx (Src.new w e cells) (fun h=>by cases h) h1 h63 hby (by simp;omega) ?_;intro v' w' g1 g2 g3;obtain⟨m1,m2,m3⟩:=sV w hown g2 g3;exact h v' w' g1 m1 m2 m3
end
structure WA(w:World)(F:Nat->Prop)(size:Nat)(v:Value)(n:Nat)(xs:List Value):Prop where
 ex:∃A c,v=.slice A n c/\n<=c/\(A=none->c=0)/\Src w size A n xs/\∀ad,A=some ad->0<n->ad.block<w.heap.size/\F ad.block
section
variable {w w' : World} {F F' : Nat → Prop} {size n : Nat} {v : Value} {xs : List Value}
theorem WA.mod{S:Nat->Prop}(h:WA w F size v n xs)(hm:Mod S w w')(hS:∀k,F k->k<w.heap.size->¬S k):WA w' F size v n xs:=by
 obtain⟨A,c,h1,h2,h3,h4,h5⟩:=h.ex;exact⟨A,c,h1,h2,h3,h4.keep' (fun h0 ad e j=>ZV (by rw [Qo];exact hm.block _ (h5 ad e h0).1 (hS _ (h5 ad e h0).2 (h5 ad e h0).1))),fun ad e h0=>⟨ZB (h5 ad e h0).1 hm.size,(h5 ad e h0).2⟩⟩
theorem WA.quiet(h:WA w F size v n xs)(hm:Mod ↑ZW w w'):WA w' F size v n xs:=h.mod hm (fun _ _ _ h=>h)
theorem WA.mono(h:WA w F size v n xs)(hF:∀k,F k->k<w.heap.size->F' k):WA w F' size v n xs:=by
 obtain⟨A,c,h1,h2,h3,h4,h5⟩:=h.ex;exact⟨A,c,h1,h2,h3,h4,fun ad e h0=>⟨(h5 ad e h0).1,hF _ (h5 ad e h0).2 (h5 ad e h0).1⟩⟩
theorem WA.turn{S:Nat->Prop}(h:WA w F size v n xs)(hm:Mod S w w')(hS:∀k,F k->k<w.heap.size->¬S k)(hF:∀k,F k->k<w.heap.size->F' k):WA w' F' size v n xs:=by
 obtain⟨A,c,h1,h2,h3,h4,h5⟩:=h.ex;exact⟨A,c,h1,h2,h3,h4.keep' (fun h0 ad e j=>ZV (by rw [Qo];exact hm.block _ (h5 ad e h0).1 (hS _ (h5 ad e h0).2 (h5 ad e h0).1))),fun ad e h0=>⟨ZB (h5 ad e h0).1 hm.size,hF _ (h5 ad e h0).2 (h5 ad e h0).1⟩⟩
theorem WA.Oy{B:Nat}{e:TypeId}(h:w.ownsRow B e size v n xs)(hF:∀k,v.ownBlock=some k->F k):WA w F size v n xs:=by
 rcases h.2 with⟨rfl,h0⟩|⟨g,cap,cur,rfl,hb,uD,hn,_⟩
 ·subst h0;exact⟨none,0,rfl,ZY _,fun _=>rfl,⟨h.1,fun _=>rfl,fun _ e=>by cases e⟩,fun _ e=>by cases e⟩
 ·refine⟨_,_,rfl,hn,fun e=>(by cases e),(Src.Oy h).2,fun ad e h0=>?_⟩;injection e with e;subst e;exact⟨(Array.getElem?_eq_some_iff.1 uD).1,hF g (by simp [YQ])⟩
theorem WA.place(h:WA w F size v n xs)(h0:0<n)(hz:0<size):∃b o c,v=.slice (some ⟨b,o,none⟩) n c/\n<=c/\b<w.heap.size/\F b/\∀j u,xs[j]?=some u->w.cell? ⟨b,o+j,none⟩=some u:=by
 obtain⟨A,c,rfl,h2,h3,h4,h5⟩:=h.ex;cases A with
 | none=>have:=h4.2.1 rfl;omega
 | some ad=>
  obtain⟨b,o,spot⟩:=ad;have hl:0<xs.length:=by rw [h4.1];exact Nat.mul_pos h0 hz
  have hc:=h4.2.2 _ rfl 0 _ (ZP hl);have hspot:spot=none:=by simpa [Addr.add]using Sg hc
  subst hspot;refine⟨b,o,c,rfl,h2,(h5 _ rfl h0).1,(h5 _ rfl h0).2,fun j u hj=>?_⟩;have h6:=h4.2.2 _ rfl j u hj;rwa [VW]at h6
theorem WA.len(h:WA w F size v n xs):xs.length=n*size:=by
 obtain⟨A,c,_,_,_,h4,_⟩:=h.ex;exact h4.1
theorem WA.shape(h:WA w F size v n xs):∃A c,v=.slice A n c/\n<=c:=by
 obtain⟨A,c,h1,h2,_⟩:=h.ex;exact⟨A,c,h1,h2⟩
end
section
variable {α : Type} {size : Nat} {R R' : α → List Value → Prop} {l : List α} {xs : List Value}
theorem aa5{cs:List (List Value)}{k:Nat}:(∀c∈cs,c.length=k)->∀ {i:Nat} {c:List Value},cs[i]?=some c->∀j<k,cs.flatten[i*k+j]?=c[j]?:=by
 induction cs with
 | nil=>intro _ i c h;simp at h
 | cons y r ih=>
  intro hk i c h j hj;have hy:y.length=k:=hk y Ze;cases i with
  | zero=>
   simp at h;subst h;rw [SX,Zv Z8,Nat.zero_mul,Nat.zero_add]
  | succ i=>
   rw [List.getElem?_cons_succ]at h;rw [SX,ZF (by rw [hy,Y5];omega),hy,show(i+1)*k+j-k=i*k+j by rw [Y5];omega];exact ih (fun c hc=>hk c (by simp [hc])) h j hj
theorem aa4{cs:List (List Value)}{k:Nat}(h:∀c∈cs,c.length=k):cs.flatten.length=cs.length*k:=by
 induction cs with
 | nil=>simp
 | cons y r ih=>
  rw [SX,YW,ih (fun c hc=>h c (by simp [hc])),h y Ze,List.length_cons,Y5];omega
def WB(size:Nat)(R:α->List Value->Prop)(l:List α)(xs:List Value):Prop:=
 ∃cs:List (List Value),cs.length=l.length/\xs=cs.flatten/\(∀c∈cs,c.length=size)/\∀(i:Nat) (x:α) (c:List Value),l[i]?=some x->cs[i]?=some c->R x c
theorem WB.nil:WB size R [] []:=⟨[],rfl,rfl,Ze,Ze⟩
theorem WB.snoc{x:α}{c:List Value}(h:WB size R l xs)(hx:R x c)(hc:c.length=size):WB size R (l++[x]) (xs++c):=by
 obtain⟨cs,h1,rfl,h3,h4⟩:=h;refine⟨cs++[c],by simp [h1],Ze,fun d hd=>?_,fun i y d hy hd=>?_⟩
 ·rcases List.mem_append.1 hd with hd|hd
  ·exact h3 d hd
  ·rw [List.mem_singleton.1 hd];exact hc
 ·by_cases hi:i<l.length
  ·rw [Zv hi]at hy;rw [Zv Z8]at hd;exact h4 i y d hy hd
  ·rw [ZF Z8]at hy;rw [ZF Z8]at hd;obtain⟨hz,rfl⟩:=List.getElem?_eq_some_iff.1 hy;obtain⟨hz2,rfl⟩:=List.getElem?_eq_some_iff.1 hd;simpa using hx
theorem WB.mono(h:WB size R l xs)(hR:∀x∈l,∀c,R x c->R' x c):WB size R' l xs:=by
 obtain⟨cs,h1,h2,h3,h4⟩:=h;exact⟨cs,h1,h2,h3,fun i x c hx hc=>hR x (Xg hx) c (h4 i x c hx hc)⟩
theorem WB.at_{i:Nat}{x:α}(h:WB size R l xs)(hi:l[i]?=some x):∃c,R x c/\c.length=size/\∀j u,c[j]?=some u->xs[i*size+j]?=some u:=by
 obtain⟨cs,h1,rfl,h3,h4⟩:=h;have hlt:=(List.getElem?_eq_some_iff.1 hi).1;obtain⟨c,hc⟩:∃c,cs[i]?=some c:=⟨_,ZP Z8⟩
 have SB:=h3 c (Xg hc);refine⟨c,h4 i x c hi hc,SB,fun j u hu=>?_⟩;rw [aa5 h3 hc j (by have:=(List.getElem?_eq_some_iff.1 hu).1;omega)];exact hu
theorem WB.len(h:WB size R l xs):xs.length=l.length*size:=by
 obtain⟨cs,h1,rfl,h3,_⟩:=h;rw [aa4 h3,h1]
def WI(w:World)(F:Nat->Prop)(size:Nat)(R:α->List Value->Prop)(v:Value)(l:List α):Prop:=∃xs,WA w F size v l.length xs/\WB size R l xs
def Yr(w:World)(B:Nat)(e:TypeId)(size:Nat)(R:α->List Value->Prop)(v:Value)(l:List α):Prop:=∃xs,w.ownsRow B e size v l.length xs/\WB size R l xs
variable {w w' : World} {F F' : Nat → Prop} {v : Value} {B : Nat} {e : TypeId}
theorem WI.shape(h:WI w F size R v l):∃A c,v=.slice A l.length c/\l.length<=c:=h.elim fun _ h=>h.1.shape
theorem WI.at_{i:Nat}{x:α}(h:WI w F size R v l)(hi:l[i]?=some x)(hz:0<size):∃b o cp c,v=.slice (some ⟨b,o,none⟩) l.length cp/\l.length<=cp/\b<w.heap.size/\F b/\R x c/\c.length=size/\∀j u,c[j]?=some u->w.cell? ⟨b,o+i*size+j,none⟩=some u:=by
 obtain⟨xs,h1,h2⟩:=h;obtain⟨c,hR,hc,hx⟩:=h2.at_ hi;obtain⟨b,o,cp,hv,hn,hb,hF,hcell⟩:=h1.place (by have:=(List.getElem?_eq_some_iff.1 hi).1;omega) hz;exact⟨b,o,cp,c,hv,hn,hb,hF,hR,hc,fun j u hu=>by have:=hcell _ _ (hx j u hu);rwa [<-Nat.add_assoc]at this⟩
theorem WI.turn{S:Nat->Prop}(h:WI w F size R v l)(hm:Mod S w w')(hS:∀k,F k->k<w.heap.size->¬S k)(hF:∀k,F k->k<w.heap.size->F' k)(hR:∀x∈l,∀c,R x c->R' x c):WI w' F' size R' v l:=by
 obtain⟨xs,h1,h2⟩:=h;exact⟨xs,h1.turn hm hS hF,h2.mono hR⟩
theorem Yr.shape(h:Yr w B e size R v l):∃A c,v=.slice A l.length c:=h.elim fun _ h=>ZG h.1
theorem Yr.nil(w:World)(B:Nat):Yr w B e size R ↑Zd ([]:List α):=⟨[],World.ownsRow_nil _ _ _ _,.nil⟩
theorem Yr.turn{S:Nat->Prop}(h:Yr w B e size R v l)(hm:Mod S w w')(hS:∀g,v.ownBlock=some g->¬S g)(hR:∀x∈l,∀c,R x c->R' x c):Yr w' B e size R' v l:=by
 obtain⟨xs,h1,h2⟩:=h;exact⟨xs,XT h1 hm hS,h2.mono hR⟩
theorem Yr.RU(h:Yr w B e size R v l)(hF:∀k,v.ownBlock=some k->F k):WI w F size R v l:=by
 obtain⟨xs,h1,h2⟩:=h;exact⟨xs,WA.Oy h1 hF,h2⟩
theorem Yr.lt(h:Yr w B e size R v l):∀k,v.ownBlock=some k->B<=k/\k<w.heap.size:=by
 obtain⟨xs,h1,h2⟩:=h;exact fun k hk=>h1.lt k hk
theorem Yr.push{x:α}{v':Value}{cells:List Value}{xs:List Value}(h:w'.ownsRow B e size v' (l.length+1) (xs++cells))(hc:WB size R l xs)(hx:R x cells)(hl:cells.length=size):Yr w' B e size R v' (l++[x]):=
 ⟨xs++cells,by rw [YW];exact h,hc.snoc hx hl⟩
end
def Nb(w:World)(F:Nat->Prop)(v:Value)(b:List UInt8):Prop:=WA w F 1 v b.length (Yw b)
theorem Nb.RU{w:World}{F:Nat->Prop}{v:Value}{b:List UInt8}(h:Nb w F v b):∃A c,v=.slice A b.length c/\b.length<=c/\BytesIn w A b.length c b:=by
 obtain⟨A,c,h1,h2,h3,h4,h5⟩:=h.ex;exact⟨A,c,h1,h2,rfl,h3,h4,fun h0 ad e=>(h5 ad e h0).1⟩
theorem Nb.Oy{w:World}{F:Nat->Prop}{B:Nat}{v:Value}{b:List UInt8}(h:Bytes w B v b)(hF:∀k,v.ownBlock=some k->F k):Nb w F v b:=WA.Oy h hF
def PM(w:World)(F:Nat->Prop)(b:List UInt8)(c:List Value):Prop:=∃v,c=[v]/\Nb w F v b
theorem PM.turn{w w':World}{F F' S:Nat->Prop}{b:List UInt8}{c:List Value}(h:PM w F b c)(hm:Mod S w w')(hS:∀k,F k->k<w.heap.size->¬S k)(hF:∀k,F k->k<w.heap.size->F' k):PM w' F' b c:=by
 obtain⟨v,rfl,h⟩:=h;exact⟨v,rfl,WA.turn h hm hS hF⟩
abbrev Str:=List UInt8
structure Pc where
 fr:Int
 sz:Int
 path:Str
 deriving DecidableEq
structure Ls where
 name:Str
 w:Int
 h:Int
 bw:Int
 init:Pc
 pieces:List Pc
 deriving DecidableEq
structure Mf where
 scale:Int
 tick:Int
 ale:List Ls
 deriving DecidableEq
def O3(c:UInt8):Bool:=decide (97<=c.toNat/\c.toNat<=122) || decide (48<=c.toNat/\c.toNat<=57)
def LJ(s:Str):Bool:=decide (1<=s.length/\s.length<=8)&&s.all O3
/-! ### The text -/
/-! ### What a text reads as -/
def m0:Mf:=⟨0,0,[]⟩
/-! ### There and back -/
/-! ### Numerals -/
structure FZ(w:World)(B g:Nat)(l:List UInt8)(a:Nat):Prop where
 base:B<=g
 ex:∃A c,ZI w g 319 #[.slice A l.length c,↑a]/\Bytes w B (.slice A l.length c) l/\∃r,A=some ⟨r,0,none⟩
 at_:a<=8*l.length
 few:l.length<=1048576
theorem FZ.tmod{w w':World}{B B' g a:Nat}{T:TypeId->Bool}{l:List UInt8}(h:FZ w B g l a)(hm:RV B' T w w')(h1:T 319=false)(h2:T 5=false):FZ w' B g l a:=by
 obtain⟨hb,⟨A,c,a1,a2,a3⟩,h3,h4⟩:=h;exact⟨hb,⟨A,c,a1.tmod hm h1,adb a2 hm h2,a3⟩,h3,h4⟩
theorem FZ.quiet{w w':World}{B g a:Nat}{l:List UInt8}(h:FZ w B g l a)(hm:Mod ↑ZW w w'):FZ w' B g l a:=h.tmod (B':=0) (T:=fun _=>false) (.xS hm) rfl rfl
def seqRight(W H G:Int):Bool:=decide ((16<=W/\W<=4096/\W % 16=0)/\(16<=H/\H<=4096/\H % 16=0)/\1<=G/\G<=64)
theorem Pe(w:World)(W H G:Int)(h:seqRight W H G=true):Calls prog 93 #[.agg #[↑W,↑H,↑G]] w fun e w'=>e=.returned (.bool true)/\Mod ↑ZW w w':=by
 unfold seqRight at h;simp only [decide_eq_true_eq]at h;obtain⟨⟨a1,a2,a3⟩,⟨b1,b2,b3⟩,c1,c2⟩:=h;have a4:(W % 16 != 0)=false:=by rw [a3];rfl
 have b4:(H % 16 != 0)=false:=by rw [b3];rfl
 clear a3 b3;have ix0:∀w,(UA 22 (.agg #[↑W,↑H]) ↑Z0).run prog w=.ok ↑W w:=fun _=>by kernel_rfl
 have ix1:∀w,(UA 22 (.agg #[↑W,↑H]) (.int .i64 1)).run prog w=.ok ↑H w:=fun _=>by kernel_rfl
 go_enter func93,ntmps93;go_wp2_with fail;refine wp_loop_rounds 3 ?_;rw [rounds_succ];go_wp2_with fail;rw [rounds_succ];go_wp2_with fail;rw [rounds_succ];go_wp2_with fail;go_ret;exact⟨rfl,(Mod.refl _ _).alloc _⟩
theorem FT(w:World)(W H G:Int)(h:seqRight W H G=false):Calls prog 93 #[.agg #[↑W,↑H,↑G]] w fun e w'=>e=.returned (.bool false)/\Mod ↑ZW w w':=by
 unfold seqRight at h;simp only [decide_eq_false_iff_not]at h;have ix0:∀w,(UA 22 (.agg #[↑W,↑H]) ↑Z0).run prog w=.ok ↑W w:=fun _=>by kernel_rfl
 have ix1:∀w,(UA 22 (.agg #[↑W,↑H]) (.int .i64 1)).run prog w=.ok ↑H w:=fun _=>by kernel_rfl
 by_cases hW:16<=W/\W<=4096/\W % 16=0
 ·obtain⟨a1,a2,a3⟩:=hW;have a4:(W % 16 != 0)=false:=by rw [a3];rfl
  by_cases hH:16<=H/\H<=4096/\H % 16=0
  ·obtain⟨b1,b2,b3⟩:=hH;have b4:(H % 16 != 0)=false:=by rw [b3];rfl
   have hG:G<1\/64<G:=Z8;clear h a3 b3;go_enter func93,ntmps93;go_wp2_with fail;refine wp_loop_rounds 3 ?_;rw [rounds_succ];go_wp2_with fail;rw [rounds_succ];go_wp2_with fail;rw [rounds_succ];rcases hG with hG|hG
   ·have g1:decide (1<=G)=false:=by simp;omega
    go_wp2_with fail;go_ret;exact⟨rfl,(Mod.refl _ _).alloc _⟩
   ·have g1:decide (1<=G)=true:=by simp;omega
    have g2:decide (G<=64)=false:=by simp;omega
    go_wp2_with fail;go_ret;exact⟨rfl,(Mod.refl _ _).alloc _⟩
  ·have hH':H<16\/4096<H\/(16<=H/\H<=4096/\(H % 16 != 0)=true):=by
    by_cases x1:H<16
    ·exact .inl x1
    ·by_cases x2:4096<H
     ·exact .inr (.inl x2)
     ·exact .inr (.inr ⟨Z8,Z8,by simp;omega⟩)
   clear h a3 hH;go_enter func93,ntmps93;go_wp2_with fail;refine wp_loop_rounds 3 ?_;rw [rounds_succ];go_wp2_with fail;rw [rounds_succ];rcases hH' with hH|hH|⟨h1,h2,h3⟩
   all_goals
    go_wp2_with fail;go_ret;exact⟨rfl,(Mod.refl _ _).alloc _⟩
 ·have hW':W<16\/4096<W\/(16<=W/\W<=4096/\(W % 16 != 0)=true):=by
   by_cases x1:W<16
   ·exact .inl x1
   ·by_cases x2:4096<W
    ·exact .inr (.inl x2)
    ·exact .inr (.inr ⟨Z8,Z8,by simp;omega⟩)
  clear h hW;go_enter func93,ntmps93;go_wp2_with fail;refine wp_loop_rounds 3 ?_;rw [rounds_succ];rcases hW' with hW|hW|⟨h1,h2,h3⟩
  all_goals
   go_wp2_with fail;go_ret;exact⟨rfl,(Mod.refl _ _).alloc _⟩
structure Rg where
 name:List UInt8
 down:Int
 q:Int
 tg:Int
 deriving DecidableEq
def Rg.zero:Rg:=⟨[],0,0,0⟩
def Rj(n d:Int):Int:=n/(2 ^ d.toNat:Nat)
def Yv(r:Rg):Bool:=decide (0<=r.down/\r.down<=3/\0<=r.q/\r.q<=31/\0<=r.tg/\r.tg<=1048576)
def Yb(w h oW:Int)(r:Rg):Bool:=
 LJ r.name&&(Yv r&&(seqRight (Rj w r.down) (Rj h r.down) oW&&(decide (Rj w r.down*(2 ^ r.down.toNat:Nat)=w)&&decide (Rj h r.down*(2 ^ r.down.toNat:Nat)=h))))
def Mm(w h oW:Int)(l:List Rg)(n:Nat):Bool:=
 (Zz n).all fun i=>Yb w h oW (l.getD i Rg.zero)&&(Zz i).all fun k=>decide ((l.getD k Rg.zero).name≠(l.getD i Rg.zero).name)
def Us(w h oW:Int)(l:List Rg):Bool:=decide (1<=l.length/\l.length<=8)&&Mm w h oW l l.length
theorem Wx(w h oW:Int)(l:List Rg)(n:Nat):Mm w h oW l (n+1)=(Mm w h oW l n&&(Yb w h oW (l.getD n Rg.zero)&&(Zz n).all fun k=>decide ((l.getD k Rg.zero).name≠(l.getD n Rg.zero).name))):=by
 unfold Mm;rw [List.range_succ,List.all_append,List.all_cons,List.all_nil,Bool.and_true]
theorem abZ{w h oW:Int}{l:List Rg}{n m:Nat}(hn:n<=m)(h0:Mm w h oW l n=false):Mm w h oW l m=false:=by
 induction m with
 | zero=>
  obtain rfl:n=0:=Z8;exact h0
 | succ m ih=>
  by_cases hm:n=m+1
  ·rw [<-hm];exact h0
  ·rw [Wx,ih Z8,Zp]
theorem OB{l:List Rg}{n k:Nat}(hk:k<n)(h:(l.getD k Rg.zero).name=(l.getD n Rg.zero).name):((Zz n).all fun k=>decide ((l.getD k Rg.zero).name≠(l.getD n Rg.zero).name))=false:=by
 rw [Bool.eq_false_iff];intro ha;rw [List.all_eq_true]at ha;have:=of_decide_eq_true (ha k (List.mem_range.2 hk));exact this h
theorem wW(n:Int):Rj n 0=n:=by unfold Rj;simp
theorem JJ(w h g p:Int)(hp:1<=p):seqRight (w.tdiv p) (h.tdiv p) g=seqRight (w/p) (h/p) g:=by
 have one:∀n:Int,(16<=n.tdiv p ↔ 16<=n/p)/\(0<=n->n.tdiv p=n/p):=fun n=>by
  by_cases hn:0<=n
  ·exact⟨by rw [ZK hn],fun h=>ZK h⟩
  ·refine⟨?_,fun h=>absurd h hn⟩;have h1:n/p<0:=U7 Z8 Z8;have h2:n.tdiv p<=0:=by
    have:=Int.neg_tdiv n p;have h3:0<=(-n).tdiv p:=Int.tdiv_nonneg Z8 Z8;omega
   constructor<;>intro h<;>omega
 obtain⟨a1,a2⟩:=one w;obtain⟨b1,b2⟩:=one h;by_cases hw:0<=w
 ·by_cases hh:0<=h
  ·rw [a2 hw,b2 hh]
  ·have c1:h/p<0:=U7 Z8 Z8;unfold seqRight;rw [a2 hw,Cv,Cv]
 ·have c1:w/p<0:=U7 Z8 Z8;unfold seqRight;rw [Cv,Cv]
theorem ym{n p:Int}(hp:1<=p)(h:16<=n.tdiv p):n.tdiv p=n/p:=by
 by_cases hn:0<=n
 ·exact ZK hn
 ·have:=Int.neg_tdiv n p;have h3:0<=(-n).tdiv p:=Int.tdiv_nonneg Z8 Z8;omega
theorem Ml{W H G:Int}{nm:List UInt8}{d:Nat}{q t:Int}(hn:LJ nm=true)(ha:Yv ⟨nm,(d:Int),q,t⟩=true)(p:Int)(hp:p=((2 ^ d:Nat):Int)):
  Yb W H G ⟨nm,(d:Int),q,t⟩=(seqRight (W.tdiv p) (H.tdiv p) G&&(decide (W.tdiv p*p=W)&&decide (H.tdiv p*p=H))):=by
 have EE:1<=p:=by
  have:0<2 ^ d:=Nat.pow_pos Z8;omega
 have e:∀n:Int,Rj n (d:Int)=n/p:=fun n=>by unfold Rj;rw [hp];rfl
 unfold Yb;rw [ha];dsimp only;rw [hn,YS,YS,e,e,show(((2 ^ (d:Int).toNat:Nat)):Int)=p from by rw [hp];rfl,JJ W H G p EE];cases hs:seqRight (W/p) (H/p) G with
 | false=>rw [Zp,Zp]
 | true=>
  have hs2:=hs;rw [<-JJ W H G p EE]at hs2;unfold seqRight at hs2;rw [decide_eq_true_eq]at hs2;rw [ym EE hs2.1.1,ym EE hs2.2.1.1]
structure Nf where
 g:Nat
 t:TypeId
 cs:Array Value
structure Sat(S:Nat->Prop)(w0 w:World)(own old:List Nf):Prop where
 blk:∀e∈own++old,ZI w e.g e.t e.cs
 nd:((own++old).map (·.g)).Nodup
 mine:∀e∈own,S e.g\/w0.heap.size<=e.g
 mod:Mod S w0 w
inductive Tg(g i:Nat)(u:Value):List Nf->List Nf->Prop
 | here {t:TypeId} {cs cs':Array Value} {l:List Nf} (e:cs.setIfInBounds i u=cs'):Tg g i u (⟨g,t,cs⟩ :: l) (⟨g,t,cs'⟩ :: l)
 | there {e:Nf} {l l':List Nf} (h:Tg g i u l l'):Tg g i u (e :: l) (e :: l')
inductive jC(g:Nat)(t:TypeId)(cs':Array Value):List Nf->List Nf->Prop
 | here {t0:TypeId} {cs:Array Value} {l:List Nf}:jC g t cs' (⟨g,t0,cs⟩ :: l) (⟨g,t,cs'⟩ :: l)
 | there {e:Nf} {l l':List Nf} (h:jC g t cs' l l'):jC g t cs' (e :: l) (e :: l')
theorem jC.map{g:Nat}{t:TypeId}{cs':Array Value}{l l':List Nf}(h:jC g t cs' l l'):l'.map (·.g)=l.map (·.g):=by
 induction h with
 | here=>rfl
 | there _ ih=>simp [ih]
theorem jC.mem{g:Nat}{t:TypeId}{cs':Array Value}{l l':List Nf}(h:jC g t cs' l l'):∃e∈l,e.g=g:=by
 induction h with
 | here=>exact⟨_,List.mem_cons_self,rfl⟩
 | there _ ih=>obtain⟨e,h1,h2⟩:=ih;exact⟨e,by simp [h1],h2⟩
theorem jC.blk{g:Nat}{t:TypeId}{cs':Array Value}{w w':World}{l l':List Nf}(h:jC g t cs' l l')(hb:∀e∈l,ZI w e.g e.t e.cs)(hm:Mod (·=g) w w')(hn:(l.map (·.g)).Nodup)(hg:ZI w' g t cs'):∀e∈l',ZI w' e.g e.t e.cs:=by
 induction h with
 | @here t0 cs l=>
  intro e he;simp only [VN,WE]at hn;rcases List.mem_cons.1 he with rfl|he
  ·exact hg
  ·exact(hb e (by simp [he])).keep hm (fun h=>hn.1 (by rw [<-show e.g=g from h];exact List.mem_map.2 ⟨e,he,rfl⟩))
 | @there e0 l l' h ih=>
  intro e he;simp only [VN,WE]at hn;rcases List.mem_cons.1 he with rfl|he
  ·obtain⟨x,hx,hxg⟩:=h.mem;exact(hb _ Ze).keep hm (fun h=>hn.1 (by rw [show e.g=g from h,<-hxg];exact List.mem_map.2 ⟨x,hx,rfl⟩))
  ·exact ih (fun e he=>hb e (by simp [he])) hn.2 e he
theorem Tg.map{g i:Nat}{u:Value}{l l':List Nf}(h:Tg g i u l l'):l'.map (·.g)=l.map (·.g):=by
 induction h with
 | here=>rfl
 | there _ ih=>simp [ih]
theorem Tg.mem{g i:Nat}{u:Value}{l l':List Nf}(h:Tg g i u l l'):∃e∈l,e.g=g:=by
 induction h with
 | here=>exact⟨_,List.mem_cons_self,rfl⟩
 | there _ ih=>obtain⟨e,h1,h2⟩:=ih;exact⟨e,by simp [h1],h2⟩
theorem Tg.blk{g i:Nat}{u:Value}{w:World}{l l':List Nf}(h:Tg g i u l l')(hb:∀e∈l,ZI w e.g e.t e.cs)(hn:(l.map (·.g)).Nodup):∀e∈l',ZI (w.setCell ⟨g,i,none⟩ u) e.g e.t e.cs:=by
 induction h with
 | @here t cs cs' l he=>
  intro e hm;simp only [VN,WE]at hn;rcases List.mem_cons.1 hm with rfl|hm
  ·exact(hb ⟨g,t,cs⟩ List.mem_cons_self).put he
  ·exact(hb e (by simp [hm])).far (fun h=>hn.1 (by dsimp at h;rw [<-h];exact List.mem_map.2 ⟨e,hm,rfl⟩)) _
 | @there e0 l l' h ih=>
  intro e hm;simp only [VN,WE]at hn;rcases List.mem_cons.1 hm with rfl|hm
  ·obtain⟨x,hx,hg⟩:=h.mem;exact(hb _ Ze).far (fun h=>hn.1 (by dsimp at h;rw [h,<-hg];exact List.mem_map.2 ⟨x,hx,rfl⟩)) _
  ·exact ih (fun e he=>hb e (by simp [he])) hn.2 e hm
section
variable {S : Nat → Prop} {w0 w w' : World} {own old jh : List Nf}
theorem Sat.nil(S:Nat->Prop)(w:World):Sat S w w [] []:=⟨Ze,Ze,Ze,Mod.refl _ _⟩
theorem Sat.one(S:Nat->Prop){g:Nat}{t:TypeId}{cs:Array Value}(h:ZI w g t cs):Sat S w w [] [⟨g,t,cs⟩]:=⟨by simpa using h,Ze,Ze,Mod.refl _ _⟩
theorem Sat.bP{g:Nat}{t:TypeId}{cs:Array Value}(h:ZI w g t cs):Sat (·=g) w w [⟨g,t,cs⟩] []:=⟨by simpa using h,Ze,Ze,Mod.refl _ _⟩
theorem Sat.NA(h:Sat S w0 w own old){g:Nat}{t:TypeId}{cs:Array Value}(hb:ZI w g t cs)(hS:S g\/w0.heap.size<=g)(hg:∀e∈own++old,e.g≠g):Sat S w0 w (⟨g,t,cs⟩ :: own) old:=by
 refine⟨?_,?_,?_,h.mod⟩
 ·intro e he;rcases List.mem_cons.1 he with rfl|he
  ·exact hb
  ·exact h.blk e he
 ·have:=h.nd;simp only [Vj,VN,WE];refine⟨fun hm=>?_,this⟩;obtain⟨e,he,hh⟩:=List.mem_map.1 hm;exact hg e he hh
 ·intro e he;rcases List.mem_cons.1 he with rfl|he
  ·exact hS
  ·exact h.mine e he
theorem Sat.alloc(h:Sat S w0 w own old)(t:TypeId)(cs:Array Value){g:Nat}(hg:w.heap.size=g):Sat S w0 (w.alloc (.cells cs t)) (⟨g,t,cs⟩ :: own) old:=by
 subst hg;refine⟨?_,?_,?_,h.mod.alloc _⟩
 ·intro e he;rcases List.mem_cons.1 he with rfl|he
  ·exact ZI.new _ _ _
  ·exact(h.blk e he).alloc _
 ·simp only [Vj,VN,WE];refine⟨fun hm=>?_,h.nd⟩;obtain⟨e,he,hh⟩:=List.mem_map.1 hm;have:=(h.blk e he).lt;omega
 ·intro e he;rcases List.mem_cons.1 he with rfl|he
  ·exact .inr h.mod.size
  ·exact h.mine e he
theorem Sat.drew(h:Sat S w0 w own old):Sat S w0 w.drew own old:=⟨fun e he=>(h.blk e he).drew,h.nd,h.mine,h.mod.drew⟩
theorem Sat.drewN(h:Sat S w0 w own old)(n:Nat):Sat S w0 (w.drewN n) own old:=⟨fun e he=>(h.blk e he).drewN n,h.nd,h.mine,h.mod.drewN n⟩
theorem Sat.put(h:Sat S w0 w own old){g i:Nat}{u:Value}(hu:Tg g i u own jh):Sat S w0 (w.setCell ⟨g,i,none⟩ u) jh old:=by
 have hn:=h.nd;have hm:=hu.map;have Gn:(own.map (·.g)).Nodup:=by
  rw [YP,List.nodup_append]at hn;exact hn.1
 obtain⟨x,hx,hg⟩:=hu.mem;refine⟨?_,?_,?_,h.mod.setCell (p:=⟨g,i,none⟩) (by have:=h.mine x hx;rw [hg]at this;exact this) _⟩
 ·intro e he;rcases List.mem_append.1 he with he|he
  ·exact hu.blk (fun e he=>h.blk e (by simp [he])) Gn e he
  ·refine(h.blk e (by simp [he])).far (fun hh=>?_) _;rw [YP,List.nodup_append]at hn;exact hn.2.2 x.g (List.mem_map.2 ⟨x,hx,rfl⟩) e.g (List.mem_map.2 ⟨e,he,rfl⟩) (by rw [hg];exact hh.symm)
 ·rw [YP,hm,<-YP];exact hn
 ·intro e he;have:e.g∈own.map (·.g):=hm▸List.mem_map.2 ⟨e,he,rfl⟩;obtain⟨y,hy,hh⟩:=List.mem_map.1 this;rw [<-hh];exact h.mine y hy
theorem Sat.quiet(h:Sat S w0 w own old)(hm:Mod ↑ZW w w'):Sat S w0 w' own old:=
 ⟨fun e he=>(h.blk e he).keep hm (fun h=>h),h.nd,h.mine,h.mod.into hm (fun _ h=>h.elim)⟩
theorem Sat.after(hm:Mod ↑ZW w w')(h:Sat S w0 w own old):Sat S w0 w' own old:=h.quiet hm
theorem Sat.grew(hm:Mod ↑ZW w w')(h:Sat S w0 w own old){g:Nat}{t:TypeId}{cs:Array Value}(hb:ZI w' g t cs)(hg:w.heap.size<=g):Sat S w0 w' (⟨g,t,cs⟩ :: own) old:=
 (h.quiet hm).NA hb (.inr (ZQ h.mod.size hg)) (fun e he=>by have:=(h.blk e he).lt;omega)
theorem Sat.beside{S':Nat->Prop}(hm:Mod S' w w')(h:Sat S w0 w own old)(hS:∀i,S' i->S i\/w0.heap.size<=i)(hn:∀e∈own++old,¬S' e.g):Sat S w0 w' own old:=
 ⟨fun e he=>(h.blk e he).keep hm (hn e he),h.nd,h.mine,h.mod.into hm hS⟩
theorem Sat.turn{g:Nat}{t:TypeId}{cs':Array Value}(hm:Mod (·=g) w w')(h:Sat S w0 w own old)(hb:ZI w' g t cs')(hr:jC g t cs' own jh):Sat S w0 w' jh old:=by
 have hn:=h.nd;have hmp:=hr.map;obtain⟨x,hx,hg⟩:=hr.mem;have Gn:(own.map (·.g)).Nodup:=by
  rw [YP,List.nodup_append]at hn;exact hn.1
 refine⟨?_,?_,?_,h.mod.into hm (fun i hi=>by rw [show i=g from hi,<-hg];exact h.mine x hx)⟩
 ·intro e he;rcases List.mem_append.1 he with he|he
  ·exact hr.blk (fun e he=>h.blk e (by simp [he])) hm Gn hb e he
  ·refine(h.blk e (by simp [he])).keep hm (fun hh=>?_);rw [YP,List.nodup_append]at hn;exact hn.2.2 x.g (List.mem_map.2 ⟨x,hx,rfl⟩) e.g (List.mem_map.2 ⟨e,he,rfl⟩) (by rw [hg];exact hh.symm)
 ·rw [YP,hmp,<-YP];exact hn
 ·intro e he;have:e.g∈own.map (·.g):=hmp▸List.mem_map.2 ⟨e,he,rfl⟩;obtain⟨y,hy,hh⟩:=List.mem_map.1 this;rw [<-hh];exact h.mine y hy
theorem Sat.Vp{e:Nf}(h:Sat S w0 w (e :: own) old):Sat S w0 w own old:=
 ⟨fun x hx=>h.blk x (by simp only [Vj,List.mem_cons];exact .inr hx),(by have:=h.nd;simp only [Vj,VN,WE]at this;exact this.2),fun x hx=>h.mine x (by simp [hx]),h.mod⟩
theorem Sat.ZX(h:Sat S w0 w own old)(k:Nat){e:Nf}(hk:own[k]?=some e):ZI w e.g e.t e.cs:=h.blk e (List.mem_append.2 (.inl (Xg hk)))
theorem Sat.ah1(h:Sat S w0 w own old)(k:Nat){e:Nf}(hk:old[k]?=some e):ZI w e.g e.t e.cs:=h.blk e (List.mem_append.2 (.inr (Xg hk)))
theorem Sat.apart(h:Sat S w0 w own old)(i j:Nat){a b:Nf}(hi:(own++old)[i]?=some a)(hj:(own++old)[j]?=some b)(xg:i<j):a.g≠b.g:=by
 have hn:=h.nd;rw [List.nodup_iff_pairwise_ne,List.pairwise_iff_getElem]at hn;obtain⟨h1,rfl⟩:=List.getElem?_eq_some_iff.1 hi;obtain⟨h2,rfl⟩:=List.getElem?_eq_some_iff.1 hj;have:=hn i j (by simpa using h1) (by simpa using h2) xg;simpa only [List.getElem_map]using this
theorem Sat.low(h:Sat ↑ZW w0 w own old)(k:Nat){e:Nf}(hk:own[k]?=some e):w0.heap.size<=e.g:=(h.mine e (Xg hk)).resolve_left (fun h=>h)
end
theorem PY:(Tryz.prog.info? 3).map (fun i=>(i.zero,i.size,i.bytes))=some (some ↑Z0,1,8):=ZR
def Y4(l:List Int):List Value:=l.map (Yk .i64)
theorem XR(l:List Int):(Y4 l).length=l.length:=by simp [Y4]
theorem RH(l:List Int):∀u∈Y4 l,u.oneCell'=true:=fun u hu=>by
 obtain⟨b,_,rfl⟩:=List.mem_map.1 hu;rfl
def Zx(w:World)(B:Nat)(v:Value)(l:List Int):Prop:=w.ownsRow B 3 1 v l.length (Y4 l)
def IntsIn(w:World)(A:Option Addr)(n c:Nat)(l:List Int):Prop:=l.length=n/\(A=none->c=0)/\Src w 1 A n (Y4 l)/\(0<n->∀ad,A=some ad->ad.block<w.heap.size)
theorem IntsIn.mod{w w':World}{S:Nat->Prop}{A:Option Addr}{n c:Nat}{l:List Int}(h:IntsIn w A n c l)(hm:Mod S w w')(hS:0<n->∀ad,A=some ad->¬S ad.block):IntsIn w' A n c l:=by
 obtain⟨h1,h2,h3,h4⟩:=h;refine⟨h1,h2,h3.keep' fun h0 ad e j=>ZV (by rw [Qo];exact hm.block _ (h4 h0 ad e) (hS h0 ad e)),fun h0 ad e=>ZB (h4 h0 ad e) hm.size⟩
theorem IntsIn.quiet{w w':World}{A:Option Addr}{n c:Nat}{l:List Int}(h:IntsIn w A n c l)(hm:Mod ↑ZW w w'):IntsIn w' A n c l:=h.mod hm (fun _ _ _ h=>h)
theorem Zx.RU{w:World}{B:Nat}{A:Option Addr}{m c:Nat}{l:List Int}(h:Zx w B (.slice A m c) l):IntsIn w A m c l:=by
 have hs:=Src.Oy h;obtain⟨rfl,hs⟩:=hs;refine⟨rfl,fun e=>?_,hs,fun _ ad e=>?_⟩
 ·rcases h.2 with⟨hv,_⟩|⟨g,cap,cur,hv,_⟩
  ·injection hv
  ·subst e;injection hv with e1;cases e1
 ·rcases h.2 with⟨hv,_⟩|⟨g,cap,cur,hv,hB,hg,_⟩
  ·subst e;injection hv with e1;cases e1
  ·subst e;injection hv with e1;injection e1 with e1;subst e1;exact(Array.getElem?_eq_some_iff.1 hg).1
theorem IntsIn.place{w:World}{A:Option Addr}{n c:Nat}{l:List Int}(h:IntsIn w A n c l)(h0:0<n):∃b off,A=some ⟨b,off,none⟩/\b<w.heap.size/\∀i<n,w.cell? ⟨b,off+i,none⟩=some (.int .i64 (l.getD i 0)):=by
 obtain⟨h1,h2,h3,h4⟩:=h;cases A with
 | none=>have:=h3.2.1 rfl;omega
 | some ad=>
  obtain⟨b,off,spot⟩:=ad;have hl:0<(Y4 l).length:=by rw [XR];omega
  have hc:=h3.2.2 _ rfl 0 _ (ZP hl);have hspot:spot=none:=by simpa [Addr.add]using Sg hc
  subst hspot;refine⟨b,off,rfl,h4 h0 _ rfl,fun i hi=>?_⟩;have h5:=h3.2.2 _ rfl i (.int .i64 (l.getD i 0)) (by simp [Y4,show i<l.length by omega]);rwa [VW]at h5
end Go.Proofs.YthednemlahioeaaGreatDoor
