/-
  Small words on memory, used by all walks of this seat: a block that is known whole; a world of which only named blocks have turned.
-/
import Derived.Test.YtnnpoodcdibpiaaGreatDoorRows
import Derived.WalkKit
import Derived.WalkSpells
import Derived.WalkLawsBesides
import Derived.Deep.QuietTactic
import Derived.BigQuiet
import Derived.Deep.Draws
import Derived.Lib.Hide
import Derived.Laws.OwnMore
import Derived.Laws.AppendOwnNone
import Derived.Maps.AppendAt
import Derived.RegionTactic
import Derived.OwnWalk
import Derived.Laws.BytesString
import Derived.Laws.IdiomStrings
import Derived.Laws.CopyOwn
import Derived.BigRegion
import Derived.Deep.RegionHeld3
import Derived.Deep.Cut
namespace Go.Proofs.YtnnpoodcdibpiaaGreatDoor
open Go.RowKit
set_option maxRecDepth 100000
set_option maxHeartbeats 8000000
def Blk(w:World)(g:Nat)(t:TypeId)(cs:Array Value):Prop:=w.heap[g]?=some (.cells cs t (0,0))
structure Mod(S:Nat->Prop)(w w':World):Prop where
 os:w'.os=w.os
 tape:w'.tape=w.tape
 output:w'.output=w.output
 size:w.heap.size<=w'.heap.size
 block:∀k,k<w.heap.size->¬S k->w'.heap[k]?=w.heap[k]?
section
variable {w w' : World} {g : Nat} {t : TypeId} {cs : Array Value} {S : Nat → Prop}
theorem Blk.lt(h:Blk w g t cs):g<w.heap.size:=by
 rcases Nat.lt_or_ge g w.heap.size with hlt|hge
 ·exact hlt
 ·unfold Blk at h;rw [Array.getElem?_eq_none hge]at h;cases h
theorem Blk.cell(h:Blk w g t cs)(i:Nat):w.cell? ⟨g,i,none⟩=cs[i]?:=cell_of_row w g i cs t (0,0) h
theorem Blk.frozen(h:Blk w g t cs)(i:Nat):w.frozen? ⟨g,i,none⟩=false:=by
 unfold Blk at h;simp [World.frozen?,h]
theorem Blk.both(h:Blk w g t cs):(∀i,w.cell? ⟨g,i,none⟩=cs[i]?)/\(∀i,w.frozen? ⟨g,i,none⟩=false):=⟨h.cell,h.frozen⟩
theorem Blk.new(w:World)(t:TypeId)(cs:Array Value):Blk (w.alloc (.cells cs t)) w.heap.size t cs:=heap_alloc_new w _
theorem Blk.drew(h:Blk w g t cs):Blk w.drew g t cs:=h
theorem Blk.drewN(h:Blk w g t cs)(n:Nat):Blk (w.drewN n) g t cs:=h
theorem Blk.alloc(h:Blk w g t cs)(o:Obj):Blk (w.alloc o) g t cs:=(Below.heap_alloc w o g h.lt).trans h
theorem Blk.set_(h:Blk w g t cs)(i:Nat)(u:Value):Blk (w.setCell ⟨g,i,none⟩ u) g t (cs.setIfInBounds i u):=by
 unfold Blk at h ⊢;simp [World.setCell,Array.getElem?_modify,h]
theorem Blk.put(h:Blk w g t cs){i:Nat}{u:Value}{cs':Array Value}(e:cs.setIfInBounds i u=cs'):Blk (w.setCell ⟨g,i,none⟩ u) g t cs':=e▸h.set_ i u
theorem Blk.far(h:Blk w g t cs){p:Addr}(hp:g≠p.block)(u:Value):Blk (w.setCell p u) g t cs:=(Below.heap_setCell w p u g hp).trans h
theorem Blk.keep(h:Blk w g t cs)(hm:Mod S w w')(hg:¬S g):Blk w' g t cs:=(hm.block g h.lt hg).trans h
theorem Blk.ne_{g':Nat}{t':TypeId}{cs':Array Value}(h:Blk w g t cs)(h':Blk w g' t' cs')(hne:t≠t'):g≠g':=by
 rintro rfl;unfold Blk at h h';rw [h]at h';injection h' with h';injection h' with _ ht;exact hne ht
theorem Blk.below{B:Nat}(h:Blk w g t cs)(hb:Below B w w')(hg:g<B):Blk w' g t cs:=(hb.block g hg).trans h
theorem Mod.refl(S:Nat->Prop)(w:World):Mod S w w:=⟨rfl,rfl,rfl,Nat.le_refl _,fun _ _ _=>rfl⟩
theorem Mod.trans{a b c:World}(h:Mod S a b)(k:Mod S b c):Mod S a c:=
 ⟨k.os.trans h.os,k.tape.trans h.tape,k.output.trans h.output,Nat.le_trans h.size k.size,
  fun i hi hs=>(k.block i (Nat.lt_of_lt_of_le hi h.size) hs).trans (h.block i hi hs)⟩
theorem Mod.then_{S':Nat->Prop}{a b c:World}(h:Mod S a b)(k:Mod S' b c)(hs:∀i,i<a.heap.size->S' i->S i):Mod S a c:=
 ⟨k.os.trans h.os,k.tape.trans h.tape,k.output.trans h.output,Nat.le_trans h.size k.size,
  fun i hi hn=>(k.block i (Nat.lt_of_lt_of_le hi h.size) (fun x=>hn (hs i hi x))).trans (h.block i hi hn)⟩
theorem Mod.drew{a:World}(h:Mod S a w):Mod S a w.drew:=⟨h.os,h.tape,h.output,h.size,h.block⟩
theorem Mod.drewN{a:World}(h:Mod S a w)(n:Nat):Mod S a (w.drewN n):=⟨h.os,h.tape,h.output,h.size,h.block⟩
theorem Mod.alloc{a:World}(h:Mod S a w)(o:Obj):Mod S a (w.alloc o):=
 ⟨h.os,h.tape,h.output,Nat.le_trans h.size (by simp),fun i hi hne=>(Below.heap_alloc w o i (Nat.lt_of_lt_of_le hi h.size)).trans (h.block i hi hne)⟩
theorem Mod.setCell{a:World}(h:Mod S a w){p:Addr}(hp:S p.block\/a.heap.size<=p.block)(u:Value):Mod S a (w.setCell p u):=
 ⟨h.os,h.tape,h.output,by simpa [World.setCell]using h.size,fun i hi hne=>(Below.heap_setCell w p u i (by
  rintro rfl;rcases hp with hp|hp
  ·exact hne hp
  ·omega)).trans (h.block i hi hne)⟩
theorem Mod.below{a:World}(h:Mod S a w)(hS:∀i,S i->a.heap.size<=i):Below a.heap.size a w:=
 ⟨h.os,h.tape,h.output,h.size,fun i hi=>h.block i hi (fun hs=>by have:=hS i hs;omega)⟩
theorem Mod.of_below{a:World}(h:Below a.heap.size a w)(S:Nat->Prop):Mod S a w:=⟨h.os,h.tape,h.output,h.size,fun i hi _=>h.block i hi⟩
theorem Mod.grown{a:World}{row:Option Nat}(h:Mod S a w)(hg:w.grownBy w' row)(hr:∀k,row=some k->S k\/a.heap.size<=k):Mod S a w':=
 ⟨hg.os.trans h.os,hg.tape.trans h.tape,hg.output.trans h.output,Nat.le_trans h.size hg.size,fun i hi hs=>
  (hg.block i (Nat.lt_of_lt_of_le hi h.size) (fun e=>by rcases hr i e.symm with h'|h';exact hs h';omega)).trans (h.block i hi hs)⟩
end
theorem Mod.mono{S S':Nat->Prop}{w w':World}(h:Mod S w w')(hs:∀i,S i->S' i):Mod S' w w':=⟨h.os,h.tape,h.output,h.size,fun k hk hn=>h.block k hk fun x=>hn (hs k x)⟩
theorem Mod.into{S S':Nat->Prop}{a b c:World}(h:Mod S a b)(k:Mod S' b c)(hs:∀i,S' i->S i\/a.heap.size<=i):Mod S a c:=
 ⟨k.os.trans h.os,k.tape.trans h.tape,k.output.trans h.output,Nat.le_trans h.size k.size,
  fun i hi hn=>(k.block i (Nat.lt_of_lt_of_le hi h.size) (fun x=>(hs i x).elim hn (by omega))).trans (h.block i hi hn)⟩
theorem own_form{w:World}{B:Nat}{e:TypeId}{size n:Nat}{v:Value}{xs:List Value}(h:w.ownsRow B e size v n xs):∃A m c,v=.slice A m c:=by
 rcases h.2 with⟨hv,_⟩|⟨g,cap,cur,hv,_⟩<;>exact⟨_,_,_,hv⟩
theorem own_shape{w:World}{B:Nat}{e:TypeId}{size n:Nat}{v:Value}{xs:List Value}(h:w.ownsRow B e size v n xs):∃A c,v=.slice A n c:=by
 rcases h.2 with⟨hv,h0⟩|⟨g,cap,cur,hv,_⟩
 ·exact⟨none,0,by rw [hv,h0]⟩
 ·exact⟨_,_,hv⟩
theorem addr_block(a:Addr)(n:Nat):(a.add n).block=a.block:=by
 unfold Addr.add;split<;>rfl
def Src(w:World)(size:Nat)(A:Option Addr)(n:Nat)(xs:List Value):Prop:=
 xs.length=n*size/\(A=none->n=0)/\∀ad,A=some ad->∀j u,xs[j]?=some u->w.cell? (ad.add j)=some u
section
variable {P : Program} {w w' : World} {size n : Nat} {A : Option Addr} {xs : List Value}
theorem Src.nil:Src w size none 0 []:=⟨by simp,fun _=>rfl,fun _ h=>by cases h⟩
theorem Src.keep(h:Src w size A n xs)(hk:∀ad,A=some ad->∀j,w'.cell? (ad.add j)=w.cell? (ad.add j)):Src w' size A n xs:=
 ⟨h.1,h.2.1,fun ad e j u hu=>(hk ad e j).trans (h.2.2 ad e j u hu)⟩
theorem Src.keep'(h:Src w size A n xs)(hk:0<n->∀ad,A=some ad->∀j,w'.cell? (ad.add j)=w.cell? (ad.add j)):Src w' size A n xs:=by
 rcases Nat.eq_zero_or_pos n with h0|h0
 ·subst h0;have hx:xs=[]:=List.eq_nil_of_length_eq_zero (by rw [h.1];simp);subst hx;exact⟨h.1,h.2.1,fun ad e j u hu=>by simp at hu⟩
 ·exact h.keep (hk h0)
theorem Src.of_own{base:Nat}{e:TypeId}{c:Nat}{m:Nat}(h:w.ownsRow base e size (.slice A m c) n xs):m=n/\Src w size A n xs:=by
 rcases h.2 with⟨hv,rfl⟩|⟨g,cap,cur,hv,_,_⟩
 ·injection hv with h1 h2 h3;subst h1;subst h2;exact⟨rfl,h.1,fun _=>rfl,fun _ h=>by cases h⟩
 ·injection hv with h1 h2 h3;subst h1;subst h2;refine⟨rfl,h.1,fun h=>(by cases h),fun ad e j u hu=>?_⟩;injection e with e;subst e;exact h.cells (g:=g) rfl j u hu
theorem Src.mod{S:Nat->Prop}(h:Src w size A n xs)(hm:Mod S w w')(hS:∀ad,A=some ad->ad.block<w.heap.size/\¬S ad.block):Src w' size A n xs:=
 h.keep fun ad e j=>World.cell?_of_block (by rw [addr_block];exact hm.block _ (hS ad e).1 (hS ad e).2)
theorem Src.new(w:World)(t:TypeId)(xs:List Value):Src (w.alloc (.cells xs.toArray t)) xs.length (some ⟨w.heap.size,0,none⟩) 1 xs:=by
 refine⟨by simp,fun h=>(by cases h),fun ad e j u hu=>?_⟩;injection e with e;subst e;have hadd:(⟨w.heap.size,0,none⟩:Addr).add j=⟨w.heap.size,j,none⟩:=by unfold Addr.add;split<;>simp_all
 rw [hadd,(Blk.new w t xs.toArray).cell j];simpa using hu
theorem append_src(w:World)(base:Nat)(t ty e:TypeId)(i:TypeInfo)(z:Value)(size bytes:Nat)(ht:P.underlying t=some (.slice e))(hi:P.info? e=some i)(hz:i.zero=some z)
  (hsize:i.size=size)(hby:i.bytes=bytes)(hzs:z.cells.size=size)(hsz:0<size)
  (v:Value)(n:Nat)(xs:List Value)(hown:w.ownsRow base e size v n xs)
  (A:Option Addr)(m c:Nat)(news:List Value)(hs:Src w size A m news)(hc:A=none->c=0)(h1:∀u∈news,u.oneCell'=true)
  (h63:n+m<=maxLen)(hbytes:(n+m)*bytes<=140737488355328)(hbase:base<=w.heap.size):
  ∃v' w',(Builtin.append_ #[t,t] ty #[v,.slice A m c]).run P w=.ok v' w'/\w'.ownsRow base e size v' (n+m) (xs++news)/\w.grownBy w' v.ownBlock /\
   (v'.ownBlock=v.ownBlock\/v'.ownBlock=some w.heap.size):=by
 cases A with
 | none=>
  obtain rfl:=hs.2.1 rfl;obtain rfl:=hc rfl;obtain rfl:news=[]:=List.eq_nil_of_length_eq_zero (by rw [hs.1];simp);exact⟨v,w,run_append_owned_none w base t ty e i size ht hi v n xs hown,by simpa using hown,World.grownBy.refl w _,.inl rfl⟩
 | some ad=>
  obtain⟨v',w',hr,h2,h3,_,h5⟩:=run_append_own_at (P:=P) w base t ty e i z size bytes ht hi hz hsize hby hzs hsz v n xs hown ad m c news hs.1 (hs.2.2 ad rfl) h1 h63 hbytes hbase;exact⟨v',w',hr,h2,h3,h5⟩
theorem wp_append_src{o:Oper}{a:Act}{K:Act->World->Prop}{Q:Exit->Act->World->Prop}(w:World)(s x:Operand)(t:TypeId)
  (ho:o.op=.call { callee:=.builtin .append,args:=#[s,x],argTypes:=#[t,t] })
  (base:Nat)(e:TypeId)(i:TypeInfo)(z:Value)(size bytes:Nat)(ht:P.underlying t=some (.slice e))(hi:P.info? e=some i)(hz:i.zero=some z)
  (hsize:i.size=size)(hby:i.bytes=bytes)(hzs:z.cells.size=size)(hsz:0<size)
  (v:Value)(n:Nat)(xs:List Value)(hs:a.eval s=v)(hown:w.ownsRow base e size v n xs)
  (A:Option Addr)(m c:Nat)(news:List Value)(hx:a.eval x=.slice A m c)(hr:Src w size A m news)(hc:A=none->c=0)(h1:∀u∈news,u.oneCell'=true)
  (h63:n+m<=maxLen)(hbytes:(n+m)*bytes<=140737488355328)(hbase:base<=w.heap.size)
  (h:∀v' w',w'.ownsRow base e size v' (n+m) (xs++news)->w.grownBy w' v.ownBlock->(v'.ownBlock=v.ownBlock\/v'.ownBlock=some w.heap.size)->K (a.put o.dst v') w'):o.wp P a w K Q:=by
 obtain⟨v',w',hrun,h2,h3,h4⟩:=append_src (P:=P) w base t o.type e i z size bytes ht hi hz hsize hby hzs hsz v n xs hown A m c news hr hc h1 h63 hbytes hbase;unfold Oper.wp execOp;simp only [ho,resolve,invoke,builtin,Sem.run_bind,Sem.run_pure,Result.andThen_ok,List.map_toArray,List.map_cons,List.map_nil,hs,hx,hrun];exact h v' w' h2 h3 h4
theorem wpList_append_src{ops:Array Oper}{rest:List Oper}{o:Oper}{a:Act}{Q:Exit->Act->World->Prop}(w:World)(hgd:o.guard=none)(s x:Operand)(t:TypeId)
  (ho:o.op=.call { callee:=.builtin .append,args:=#[s,x],argTypes:=#[t,t] })
  (base:Nat)(e:TypeId)(i:TypeInfo)(z:Value)(size bytes:Nat)(ht:P.underlying t=some (.slice e))(hi:P.info? e=some i)(hz:i.zero=some z)
  (hsize:i.size=size)(hby:i.bytes=bytes)(hzs:z.cells.size=size)(hsz:0<size)
  (v:Value)(n:Nat)(xs:List Value)(hs:a.eval s=v)(hown:w.ownsRow base e size v n xs)
  (A:Option Addr)(m c:Nat)(news:List Value)(hx:a.eval x=.slice A m c)(hr:Src w size A m news)(hc:A=none->c=0)(h1:∀u∈news,u.oneCell'=true)
  (h63:n+m<=maxLen)(hbytes:(n+m)*bytes<=140737488355328)(hbase:base<=w.heap.size)
  (h:∀v' w',w'.ownsRow base e size v' (n+m) (xs++news)->w.grownBy w' v.ownBlock->(v'.ownBlock=v.ownBlock\/v'.ownBlock=some w.heap.size)->wpList P ops Q rest (a.put o.dst v') w'):wpList P ops Q (o :: rest) a w:=
 wpList_plain hgd fun _ hK=>wp_append_src w s x t ho base e i z size bytes ht hi hz hsize hby hzs hsz v n xs hs hown A m c news hx hr hc h1 h63 hbytes hbase fun v' w' h2 h3 h4=>hK _ _ (h v' w' h2 h3 h4)
theorem step_append_src{ops:Array Oper}{o:Oper}{a:Act}{K:Act->World->Prop}{Q:Exit->Act->World->Prop}{E:Prop}(w:World)(hgd:o.guard=none)(s x:Operand)(t:TypeId)
  (ho:o.op=.call { callee:=.builtin .append,args:=#[s,x],argTypes:=#[t,t] })
  (base:Nat)(e:TypeId)(i:TypeInfo)(z:Value)(size bytes:Nat)(ht:P.underlying t=some (.slice e))(hi:P.info? e=some i)(hz:i.zero=some z)
  (hsize:i.size=size)(hby:i.bytes=bytes)(hzs:z.cells.size=size)(hsz:0<size)
  (v:Value)(n:Nat)(xs:List Value)(hs:a.eval s=v)(hown:w.ownsRow base e size v n xs)
  (A:Option Addr)(m c:Nat)(news:List Value)(hx:a.eval x=.slice A m c)(hr:Src w size A m news)(hc:A=none->c=0)(h1:∀u∈news,u.oneCell'=true)
  (h63:n+m<=maxLen)(hbytes:(n+m)*bytes<=140737488355328)(hbase:base<=w.heap.size)
  (h:∀v' w',w'.ownsRow base e size v' (n+m) (xs++news)->w.grownBy w' v.ownBlock->(v'.ownBlock=v.ownBlock\/v'.ownBlock=some w.heap.size)->K (a.put o.dst v') w'):
  if Region.wanted o (yielded ops a.tmps)=true then Oper.wp P o a w K Q else E:=by
 have hw:Region.wanted o (yielded ops a.tmps)=true:=by simp [Region.wanted,hgd]
 rw [if_pos hw];exact wp_append_src w s x t ho base e i z size bytes ht hi hz hsize hby hzs hsz v n xs hs hown A m c news hx hr hc h1 h63 hbytes hbase h
theorem own_mod{S:Nat->Prop}{base:Nat}{e:TypeId}{v:Value}(h:w.ownsRow base e size v n xs)(hm:Mod S w w')(hS:∀g,v.ownBlock=some g->¬S g):w'.ownsRow base e size v n xs:=by
 refine⟨h.1,?_⟩;rcases h.2 with hn|⟨g,cap,cur,rfl,hb,hgg,rest⟩
 ·exact .inl hn
 ·exact .inr ⟨g,cap,cur,rfl,hb,(hm.block g (Array.getElem?_eq_some_iff.1 hgg).1 (hS g rfl)).trans hgg,rest⟩
theorem own_ne_blk{g:Nat}{t:TypeId}{cs:Array Value}{base:Nat}{e:TypeId}{v:Value}(h:w.ownsRow base e size v n xs)(hg:Blk w g t cs)(hne:e≠t):v.ownBlock≠some g:=by
 rcases h.2 with⟨rfl,_⟩|⟨g',cap,cur,rfl,_,hh,_⟩
 ·simp [Value.ownBlock]
 ·intro he;obtain rfl:g'=g:=by simpa [Value.ownBlock]using he
  exact Blk.ne_ (t:=e) hh hg hne rfl
end
def tyOf:Obj->Option TypeId
 | .cells _ t _=>some t
 | _=>none
structure TMod(B:Nat)(T:TypeId->Bool)(w w':World):Prop where
 os:w'.os=w.os
 tape:w'.tape=w.tape
 output:w'.output=w.output
 size:w.heap.size<=w'.heap.size
 low:∀k,k<B->k<w.heap.size->w'.heap[k]?=w.heap[k]?
 same:∀(k:Nat) (o:Obj),w.heap[k]?=some o->(∀t,tyOf o=some t->T t=false)->w'.heap[k]?=some o
theorem TMod.refl(B:Nat)(T:TypeId->Bool)(w:World):TMod B T w w:=⟨rfl,rfl,rfl,Nat.le_refl _,fun _ _ _=>rfl,fun _ _ h _=>h⟩
theorem TMod.trans{B:Nat}{T:TypeId->Bool}{a b c:World}(h:TMod B T a b)(k:TMod B T b c):TMod B T a c:=
 ⟨k.os.trans h.os,k.tape.trans h.tape,k.output.trans h.output,Nat.le_trans h.size k.size,
  fun i hi hl=>(k.low i hi (Nat.lt_of_lt_of_le hl h.size)).trans (h.low i hi hl),
  fun i o ho hT=>k.same i o (h.same i o ho hT) hT⟩
theorem TMod.base{B B':Nat}{T:TypeId->Bool}{w w':World}(h:TMod B T w w')(hB:B'<=B):TMod B' T w w':=⟨h.os,h.tape,h.output,h.size,fun k hk hl=>h.low k (by omega) hl,h.same⟩
theorem TMod.mono{B:Nat}{T T':TypeId->Bool}{w w':World}(h:TMod B T w w')(hT:∀t,T t=true->T' t=true):TMod B T' w w':=
 ⟨h.os,h.tape,h.output,h.size,h.low,fun k o ho hn=>h.same k o ho (fun t ht=>by
  cases hc:T t with
  | false=>rfl
  | true=>exact absurd (hT t hc) (by rw [hn t ht];decide))⟩
theorem TMod.drew{B:Nat}{T:TypeId->Bool}{a w:World}(h:TMod B T a w):TMod B T a w.drew:=⟨h.os,h.tape,h.output,h.size,h.low,h.same⟩
theorem TMod.drewN{B:Nat}{T:TypeId->Bool}{a w:World}(h:TMod B T a w)(n:Nat):TMod B T a (w.drewN n):=⟨h.os,h.tape,h.output,h.size,h.low,h.same⟩
theorem TMod.alloc{B:Nat}{T:TypeId->Bool}{a w:World}(h:TMod B T a w)(o:Obj):TMod B T a (w.alloc o):=
 have hh:∀k x,w.heap[k]?=some x->(w.alloc o).heap[k]?=some x:=fun k x hx=>(Below.heap_alloc w o k (Array.getElem?_eq_some_iff.1 hx).1).trans hx
 ⟨h.os,h.tape,h.output,Nat.le_trans h.size (by simp),fun k hk hl=>(Below.heap_alloc w o k (Nat.lt_of_lt_of_le hl h.size)).trans (h.low k hk hl),
  fun k x hx hT=>hh k x (h.same k x hx hT)⟩
theorem TMod.of_mod{B:Nat}{T:TypeId->Bool}{S:Nat->Prop}{w w':World}(h:Mod S w w')(hS:∀k,k<w.heap.size->S k->B<=k/\∃t cs,Blk w k t cs/\T t=true):TMod B T w w':=by
 refine⟨h.os,h.tape,h.output,h.size,fun k hk hl=>h.block k hl (fun hs=>by have:=(hS k hl hs).1;omega),fun k o ho hT=>?_⟩;have hl:=(Array.getElem?_eq_some_iff.1 ho).1;by_cases hs:S k
 ·obtain⟨_,t',cs,h1,h3⟩:=hS k hl hs;unfold Blk at h1;rw [h1]at ho;injection ho with ho;subst ho;exact absurd h3 (by rw [hT t' rfl];decide)
 ·exact(h.block k hl hs).trans ho
theorem TMod.of_quiet{B:Nat}{T:TypeId->Bool}{w w':World}(h:Mod (fun _=>False) w w'):TMod B T w w':=.of_mod h (fun _ _ h=>h.elim)
theorem TMod.setCell{B:Nat}{T:TypeId->Bool}{a w:World}(h:TMod B T a w){g i:Nat}{t:TypeId}{cs:Array Value}(hb:Blk w g t cs)(hB:B<=g)(hT:T t=true)(u:Value):TMod B T a (w.setCell ⟨g,i,none⟩ u):=
 h.trans (.of_mod ((Mod.refl (·=g) _).setCell (by exact .inl rfl) _) (fun k _ e=>by subst e;exact⟨hB,t,cs,hb,hT⟩))
theorem TMod.below{T:TypeId->Bool}{w w':World}(h:TMod w.heap.size T w w'):Below w.heap.size w w':=⟨h.os,h.tape,h.output,h.size,fun k hk=>h.low k hk hk⟩
theorem Blk.tmod{B:Nat}{T:TypeId->Bool}{w w':World}{g:Nat}{t:TypeId}{cs:Array Value}(hb:Blk w g t cs)(h:TMod B T w w')(hT:T t=false):Blk w' g t cs:=
 h.same g _ hb (fun t' ht=>by simp only [tyOf,Option.some.injEq]at ht;rw [<-ht];exact hT)
theorem own_tmod{B B':Nat}{T:TypeId->Bool}{w w':World}{e:TypeId}{size n:Nat}{v:Value}{xs:List Value}(h:w.ownsRow B e size v n xs)(hm:TMod B' T w w')(hT:T e=false):w'.ownsRow B e size v n xs:=by
 refine⟨h.1,?_⟩;rcases h.2 with hn|⟨g,cap,cur,rfl,hb,hgg,rest⟩
 ·exact .inl hn
 ·exact .inr ⟨g,cap,cur,rfl,hb,Blk.tmod (cs:=cur) hgg hm hT,rest⟩
theorem own_base{B B':Nat}{w:World}{e:TypeId}{size n:Nat}{v:Value}{xs:List Value}(h:w.ownsRow B e size v n xs)(hB:B'<=B):w.ownsRow B' e size v n xs:=
 ⟨h.1,h.2.imp id (fun⟨g,cap,cur,h1,h2,h3⟩=>⟨g,cap,cur,h1,by omega,h3⟩)⟩
theorem own_blk{B:Nat}{w:World}{e:TypeId}{size n:Nat}{v:Value}{xs:List Value}{k:Nat}(h:w.ownsRow B e size v n xs)(hk:v.ownBlock=some k):B<=k/\∃cs,Blk w k e cs:=by
 rcases h.2 with⟨rfl,_⟩|⟨g,cap,cur,rfl,hb,hgg,rest⟩
 ·simp [Value.ownBlock]at hk
 ·obtain rfl:g=k:=by simpa [Value.ownBlock]using hk
  exact⟨hb,cur,hgg⟩
theorem addr_add(r j:Nat):(⟨r,0,none⟩:Addr).add j=⟨r,j,none⟩:=by unfold Addr.add;split<;>simp_all
theorem addr_add'(r o j:Nat):(⟨r,o,none⟩:Addr).add j=⟨r,o+j,none⟩:=by unfold Addr.add;split<;>simp_all
theorem u8_info:(Tryz.prog.info? 5).map (fun i=>(i.zero,i.size,i.bytes))=some (some (.int .u8 0),1,1):=by kernel_rfl
def u8s(l:List UInt8):List Value:=l.map fun b=>.int .u8 (b.toNat:Int)
theorem u8s_one(l:List UInt8):∀u∈u8s l,u.oneCell'=true:=fun u hu=>by
 obtain⟨b,_,rfl⟩:=List.mem_map.1 hu;rfl
theorem u8s_length(l:List UInt8):(u8s l).length=l.length:=by simp [u8s]
def Bytes(w:World)(B:Nat)(v:Value)(l:List UInt8):Prop:=w.ownsRow B 5 1 v l.length (u8s l)
def BytesIn(w:World)(A:Option Addr)(n c:Nat)(l:List UInt8):Prop:=l.length=n/\(A=none->c=0)/\Src w 1 A n (u8s l)/\(0<n->∀ad,A=some ad->ad.block<w.heap.size)
theorem Bytes.take{w:World}{B r n c:Nat}{l:List UInt8}(h:Bytes w B (.slice (some ⟨r,0,none⟩) n c) l)(m:Nat)(hm:m<=l.length):Bytes w B (.slice (some ⟨r,0,none⟩) m c) (l.take m):=by
 have hl:(l.take m).length=m:=by rw [List.length_take];omega
 refine⟨by simp [u8s],?_⟩;rcases h.2 with⟨hv,_⟩|⟨g,cap,cur,hv,hB,hg,hnc,hcm,hs,ht⟩
 ·cases hv
 ·obtain⟨rfl,e2,rfl⟩:r=g/\n=l.length/\c=cap:=by injection hv with e1 e2 e3;injection e1 with e1;injection e1;exact⟨by assumption,e2,e3⟩
  refine .inr ⟨r,c,cur,by rw [hl],hB,hg,by omega,hcm,hs,?_⟩;have e:u8s (l.take m)=(u8s l).take m:=by simp [u8s,List.map_take]
  rw [hl,e,<-ht,List.take_take];simp;omega
def strOf(l:List UInt8):ByteArray:=⟨l.toArray⟩
theorem str_src(w:World)(A:Option Addr)(n c:Nat)(l:List UInt8)(hl:l.length=n)(h:Src w 1 A n (u8s l)):(convert 22 9 (.slice A n c)).run Tryz.prog w=.ok (.string (strOf l)) w:=by
 rw [run_convert_bytes_string w 22 9 5 A n c Tryz.underlying22 Tryz.underlying5 Tryz.underlying9];cases A with
 | none=>
  obtain rfl:=h.2.1 rfl;obtain rfl:l=[]:=List.eq_nil_of_length_eq_zero hl;rfl
 | some ad=>
  have hload:=run_loadCells_list (P:=Tryz.prog) (w:=w) ad (u8s l) (h.2.2 ad rfl);rw [u8s_length,hl]at hload;have e:u8s l=(l.map fun b=>(b.toNat:Int)).map (Value.int .u8):=by simp [u8s]
  rw [e]at hload;rw [run_bytesToString w ad n c (l.map fun b=>(b.toNat:Int)) hload,foldl_push_byteCells];simp [strOf]
theorem str_bytes{w:World}{B:Nat}{A:Option Addr}{m c:Nat}{l:List UInt8}(h:Bytes w B (.slice A m c) l):(convert 22 9 (.slice A m c)).run Tryz.prog w=.ok (.string (strOf l)) w:=by
 obtain⟨rfl,hs⟩:=Src.of_own h;exact str_src w A _ c l rfl hs
theorem BytesIn.mod{w w':World}{S:Nat->Prop}{A:Option Addr}{n c:Nat}{l:List UInt8}(h:BytesIn w A n c l)(hm:Mod S w w')(hS:0<n->∀ad,A=some ad->¬S ad.block):BytesIn w' A n c l:=by
 obtain⟨h1,h2,h3,h4⟩:=h;refine⟨h1,h2,h3.keep' fun h0 ad e j=>World.cell?_of_block (by rw [addr_block];exact hm.block _ (h4 h0 ad e) (hS h0 ad e)),fun h0 ad e=>Nat.lt_of_lt_of_le (h4 h0 ad e) hm.size⟩
theorem BytesIn.quiet{w w':World}{A:Option Addr}{n c:Nat}{l:List UInt8}(h:BytesIn w A n c l)(hm:Mod (fun _=>False) w w'):BytesIn w' A n c l:=h.mod hm (fun _ _ _ h=>h)
theorem Bytes.in_{w:World}{B:Nat}{A:Option Addr}{m c:Nat}{l:List UInt8}(h:Bytes w B (.slice A m c) l):BytesIn w A m c l:=by
 have hs:=Src.of_own h;obtain⟨rfl,hs⟩:=hs;refine⟨rfl,fun e=>?_,hs,fun _ ad e=>?_⟩
 ·rcases h.2 with⟨hv,_⟩|⟨g,cap,cur,hv,_⟩
  ·injection hv
  ·subst e;injection hv with e1;cases e1
 ·rcases h.2 with⟨hv,_⟩|⟨g,cap,cur,hv,hB,hg,_⟩
  ·subst e;injection hv with e1;cases e1
  ·subst e;injection hv with e1;injection e1 with e1;subst e1;exact(Array.getElem?_eq_some_iff.1 hg).1
theorem Bytes.cell{w:World}{B r n c:Nat}{l:List UInt8}(h:Bytes w B (.slice (some ⟨r,0,none⟩) n c) l)(i:Nat)(hi:i<l.length):w.cell? ⟨r,i,none⟩=some (.int .u8 ((l.getD i 0).toNat:Int)):=by
 have:=World.ownsRow.cells h (g:=r) rfl i (.int .u8 ((l.getD i 0).toNat:Int)) (by simp [u8s,List.getD_eq_getElem?_getD,hi]);rwa [addr_add]at this
theorem Bytes.some_{w:World}{B n c:Nat}{A:Option Addr}{l:List UInt8}(h:Bytes w B (.slice A n c) l)(h0:0<l.length):∃r,A=some ⟨r,0,none⟩/\l.length<=c:=by
 rcases h.2 with⟨_,h1⟩|⟨r,cap,cur,hv,_,_,hc,_⟩
 ·omega
 ·injection hv with e1 _ e3;exact⟨r,e1,by omega⟩
theorem wpList_copy_blk{P:Program}{w:World}{ops:Array Oper}{rest:List Oper}{o:Oper}{a:Act}{Q:Exit->Act->World->Prop}(hgd:o.guard=none)(d s:Operand)(dT sT:TypeId)
  (ho:o.op=.call { callee:=.builtin .copy,args:=#[d,s],argTypes:=#[dT,sT] })(elem:TypeId)(hu:P.underlying dT=some (.slice elem))(hsz:(P.info? elem).map (·.size)=some 1)
  (dp:Option Addr)(dLen dCap:Nat)(A:Option Addr)(m c:Nat)(xs:List Value)(hd:a.eval d=.slice dp dLen dCap)(hs:a.eval s=.slice A m c)(hsrc:Src w 1 A m xs)
  (g off:Nat)(cur:List Value)(t:TypeId)(hg:Blk w g t cur.toArray)(n:Nat)(hn:n=Nat.min m dLen)(hdp:0<n->dp=some ⟨g,off,none⟩)(hfit:off+n<=cur.length)(h1:∀u∈xs,u.oneCell'=true)
  (h:∀w',Blk w' g t (splice cur off (xs.take n)).toArray->Mod (·=g) w w'->wpList P ops Q rest (a.put o.dst (goInt n)) w'):wpList P ops Q (o :: rest) a w:=by
 have hxl:xs.length=m:=by have:=hsrc.1;omega
 have hnm:n<=m:=by rw [hn];exact Nat.min_le_left _ _
 by_cases h0:n=0
 ·refine wpList_copy_nothing hgd d s dT sT ho elem hu hsz dp A dLen dCap m c hd hs (by omega) ?_;have:=h w (by rw [h0];simpa [splice]using hg) (Mod.refl _ _);rwa [h0]at this
 ·have hdp':=hdp (by omega);subst hdp';cases A with
  | none=>have:=hsrc.2.1 rfl;omega
  | some ad=>
   have hl:(xs.take n).length=n:=by rw [List.length_take];omega
   refine wpList_copy_own hgd d s dT sT ho elem hu hsz g off dLen dCap ad m c hd hs cur.toArray t hg (xs.take n) (by rw [hl,hn]) (fun j v hv=>?_) (by rw [hl];simpa using hfit) (fun v hv=>h1 v (List.mem_of_mem_take hv)) ?_
   ·rw [List.getElem?_take]at hv;split at hv
    ·exact hsrc.2.2 ad rfl j v hv
    ·cases hv
   ·rw [hl];refine h _ ?_ ⟨rfl,rfl,rfl,by simp [World.setRow],fun k _ hk=>setRow_other w g k _ hk⟩;have:=setRow_heap w g cur.toArray (splice cur off (xs.take n)).toArray t (0,0) hg;simpa [Blk,splice,hl]using this
theorem Bytes.of_blk{w:World}{B g:Nat}{l:List UInt8}(hB:B<=g)(h:Blk w g 5 (u8s l).toArray)(hl:l.length<=maxLen):Bytes w B (.slice (some ⟨g,0,none⟩) l.length l.length) l:=
 ⟨by simp [u8s],.inr ⟨g,l.length,_,rfl,hB,h,Nat.le_refl _,hl,by simp [u8s],by rw [Nat.mul_one];exact List.take_of_length_le (by simp [u8s])⟩⟩
theorem own_whole{w:World}{B:Nat}{e:TypeId}{g n:Nat}{xs:List Value}(h:w.ownsRow B e 1 (.slice (some ⟨g,0,none⟩) n n) n xs):Blk w g e xs.toArray/\B<=g:=by
 rcases h.2 with⟨hv,_⟩|⟨g',cap,cur,hv,hB,hg,_,_,hs,ht⟩
 ·cases hv
 ·injection hv with e1 _ e3;injection e1 with e1;injection e1 with e1;subst e1 e3;have:cur.toList=xs:=by rw [<-ht,List.take_of_length_le (by simp;omega)]
  exact⟨by rw [<-this];exact hg,hB⟩
theorem own_one(w:World){B:Nat}{e:TypeId}{size n:Nat}{v:Value}{xs:List Value}{cells:List Value}{v':Value}{w':World}(hown:w.ownsRow B e size v n xs)
  (h2:(w.alloc (.cells cells.toArray e)).grownBy w' v.ownBlock)(h3:v'.ownBlock=v.ownBlock\/v'.ownBlock=some (w.alloc (.cells cells.toArray e)).heap.size):
  Mod (fun j=>v.ownBlock=some j) w w'/\(∀(W:World) (S:Nat->Prop),W.heap.size<=B->Mod S W w->Mod S W w')/\(∀g,v'.ownBlock=some g->v.ownBlock=some g\/w.heap.size<=g):=by
 have hM:Mod (fun j=>v.ownBlock=some j) w w':=((Mod.refl _ _).alloc _).grown h2 (fun k hk=>.inl hk);refine⟨hM,fun W S hW hS=>hS.into hM (fun i e=>.inr (Nat.le_trans hW (hown.lt i e).1)),fun g hg=>?_⟩;rcases h3 with h3|h3
 ·exact .inl (h3▸hg)
 ·rw [h3]at hg;injection hg with hg;exact .inr (by simp at hg;omega)
section
variable {P : Program} {ops : Array Oper} {rest : List Oper} {o : Oper} {a : Act} {Q : Exit → Act → World → Prop}
theorem wpList_app_one(w:World)(hgd:o.guard=none)(s x:Operand)(t e:TypeId)(ho:o.op=.call { callee:=.builtin .append,args:=#[s,x],argTypes:=#[t,t] })
  (ht:P.underlying t=some (.slice e))(z:Value)(size bytes:Nat)(hi:(P.info? e).map (fun i=>(i.zero,i.size,i.bytes))=some (some z,size,bytes))(hzs:z.cells.size=size)(hsz:0<size)
  (B:Nat)(v:Value)(n:Nat)(xs cells:List Value)(hcl:cells.length=size)(h1:∀u∈cells,u.oneCell'=true)(gq:Nat)(hgq:w.heap.size=gq)(hs:a.eval s=v)(hx:a.eval x=.slice (some ⟨gq,0,none⟩) 1 1)
  (hown:w.ownsRow B e size v n xs)(hB:B<=w.heap.size)(h63:n+1<=maxLen)(hby:(n+1)*bytes<=140737488355328)
  (h:∀v' w',w'.ownsRow B e size v' (n+1) (xs++cells)->Mod (fun j=>v.ownBlock=some j) w w'->(∀(W:World) (S:Nat->Prop),W.heap.size<=B->Mod S W w->Mod S W w')->(∀g,v'.ownBlock=some g->v.ownBlock=some g\/w.heap.size<=g)->wpList P ops Q rest (a.put o.dst v') w'):
  wpList P ops Q (o :: rest) a (w.alloc (.cells cells.toArray e)):=by
 obtain⟨i0,hi0,hz0,hz1,hz2⟩:=info_parts hi;subst hcl;subst hgq;refine wpList_append_src _ hgd s x t ho B e i0 z cells.length bytes ht hi0 hz0 hz1 hz2 hzs hsz v n xs hs (own_mod hown ((Mod.refl (fun _=>False) w).alloc _) (fun _ _ h=>h)) (some ⟨w.heap.size,0,none⟩) 1 1 cells hx (Src.new w e cells) (fun h=>by cases h) h1 h63 hby (by simp;omega) ?_;intro v' w' g1 g2 g3;obtain⟨m1,m2,m3⟩:=own_one w hown g2 g3;exact h v' w' g1 m1 m2 m3
theorem step_app_one{K:Act->World->Prop}{E:Prop}(w:World)(hgd:o.guard=none)(s x:Operand)(t e:TypeId)(ho:o.op=.call { callee:=.builtin .append,args:=#[s,x],argTypes:=#[t,t] })
  (ht:P.underlying t=some (.slice e))(z:Value)(size bytes:Nat)(hi:(P.info? e).map (fun i=>(i.zero,i.size,i.bytes))=some (some z,size,bytes))(hzs:z.cells.size=size)(hsz:0<size)
  (B:Nat)(v:Value)(n:Nat)(xs cells:List Value)(hcl:cells.length=size)(h1:∀u∈cells,u.oneCell'=true)(gq:Nat)(hgq:w.heap.size=gq)(hs:a.eval s=v)(hx:a.eval x=.slice (some ⟨gq,0,none⟩) 1 1)
  (hown:w.ownsRow B e size v n xs)(hB:B<=w.heap.size)(h63:n+1<=maxLen)(hby:(n+1)*bytes<=140737488355328)
  (h:∀v' w',w'.ownsRow B e size v' (n+1) (xs++cells)->Mod (fun j=>v.ownBlock=some j) w w'->(∀(W:World) (S:Nat->Prop),W.heap.size<=B->Mod S W w->Mod S W w')->(∀g,v'.ownBlock=some g->v.ownBlock=some g\/w.heap.size<=g)->K (a.put o.dst v') w'):
  if Region.wanted o (yielded ops a.tmps)=true then Oper.wp P o a (w.alloc (.cells cells.toArray e)) K Q else E:=by
 obtain⟨i0,hi0,hz0,hz1,hz2⟩:=info_parts hi;subst hcl;subst hgq;refine step_append_src _ hgd s x t ho B e i0 z cells.length bytes ht hi0 hz0 hz1 hz2 hzs hsz v n xs hs (own_mod hown ((Mod.refl (fun _=>False) w).alloc _) (fun _ _ h=>h)) (some ⟨w.heap.size,0,none⟩) 1 1 cells hx (Src.new w e cells) (fun h=>by cases h) h1 h63 hby (by simp;omega) ?_;intro v' w' g1 g2 g3;obtain⟨m1,m2,m3⟩:=own_one w hown g2 g3;exact h v' w' g1 m1 m2 m3
end
structure RowIn(w:World)(F:Nat->Prop)(size:Nat)(v:Value)(n:Nat)(xs:List Value):Prop where
 ex:∃A c,v=.slice A n c/\n<=c/\(A=none->c=0)/\Src w size A n xs/\∀ad,A=some ad->0<n->ad.block<w.heap.size/\F ad.block
section
variable {w w' : World} {F F' : Nat → Prop} {size n : Nat} {v : Value} {xs : List Value}
theorem RowIn.mod{S:Nat->Prop}(h:RowIn w F size v n xs)(hm:Mod S w w')(hS:∀k,F k->k<w.heap.size->¬S k):RowIn w' F size v n xs:=by
 obtain⟨A,c,h1,h2,h3,h4,h5⟩:=h.ex;exact⟨A,c,h1,h2,h3,h4.keep' (fun h0 ad e j=>World.cell?_of_block (by rw [addr_block];exact hm.block _ (h5 ad e h0).1 (hS _ (h5 ad e h0).2 (h5 ad e h0).1))),fun ad e h0=>⟨Nat.lt_of_lt_of_le (h5 ad e h0).1 hm.size,(h5 ad e h0).2⟩⟩
theorem RowIn.quiet(h:RowIn w F size v n xs)(hm:Mod (fun _=>False) w w'):RowIn w' F size v n xs:=h.mod hm (fun _ _ _ h=>h)
theorem RowIn.mono(h:RowIn w F size v n xs)(hF:∀k,F k->k<w.heap.size->F' k):RowIn w F' size v n xs:=by
 obtain⟨A,c,h1,h2,h3,h4,h5⟩:=h.ex;exact⟨A,c,h1,h2,h3,h4,fun ad e h0=>⟨(h5 ad e h0).1,hF _ (h5 ad e h0).2 (h5 ad e h0).1⟩⟩
theorem RowIn.turn{S:Nat->Prop}(h:RowIn w F size v n xs)(hm:Mod S w w')(hS:∀k,F k->k<w.heap.size->¬S k)(hF:∀k,F k->k<w.heap.size->F' k):RowIn w' F' size v n xs:=by
 obtain⟨A,c,h1,h2,h3,h4,h5⟩:=h.ex;exact⟨A,c,h1,h2,h3,h4.keep' (fun h0 ad e j=>World.cell?_of_block (by rw [addr_block];exact hm.block _ (h5 ad e h0).1 (hS _ (h5 ad e h0).2 (h5 ad e h0).1))),fun ad e h0=>⟨Nat.lt_of_lt_of_le (h5 ad e h0).1 hm.size,hF _ (h5 ad e h0).2 (h5 ad e h0).1⟩⟩
theorem RowIn.of_own{B:Nat}{e:TypeId}(h:w.ownsRow B e size v n xs)(hF:∀k,v.ownBlock=some k->F k):RowIn w F size v n xs:=by
 rcases h.2 with⟨rfl,h0⟩|⟨g,cap,cur,rfl,hb,hgg,hn,_⟩
 ·subst h0;exact⟨none,0,rfl,Nat.le_refl _,fun _=>rfl,⟨h.1,fun _=>rfl,fun _ e=>by cases e⟩,fun _ e=>by cases e⟩
 ·refine⟨_,_,rfl,hn,fun e=>(by cases e),(Src.of_own h).2,fun ad e h0=>?_⟩;injection e with e;subst e;exact⟨(Array.getElem?_eq_some_iff.1 hgg).1,hF g (by simp [Value.ownBlock])⟩
theorem RowIn.place(h:RowIn w F size v n xs)(h0:0<n)(hz:0<size):∃b o c,v=.slice (some ⟨b,o,none⟩) n c/\n<=c/\b<w.heap.size/\F b/\∀j u,xs[j]?=some u->w.cell? ⟨b,o+j,none⟩=some u:=by
 obtain⟨A,c,rfl,h2,h3,h4,h5⟩:=h.ex;cases A with
 | none=>have:=h4.2.1 rfl;omega
 | some ad=>
  obtain⟨b,o,spot⟩:=ad;have hl:0<xs.length:=by rw [h4.1];exact Nat.mul_pos h0 hz
  have hc:=h4.2.2 _ rfl 0 _ (List.getElem?_eq_getElem hl);have hspot:spot=none:=by simpa [Addr.add]using World.cell?_spot hc
  subst hspot;refine⟨b,o,c,rfl,h2,(h5 _ rfl h0).1,(h5 _ rfl h0).2,fun j u hj=>?_⟩;have h6:=h4.2.2 _ rfl j u hj;rwa [addr_add']at h6
theorem RowIn.len(h:RowIn w F size v n xs):xs.length=n*size:=by
 obtain⟨A,c,_,_,_,h4,_⟩:=h.ex;exact h4.1
theorem RowIn.shape(h:RowIn w F size v n xs):∃A c,v=.slice A n c/\n<=c:=by
 obtain⟨A,c,h1,h2,_⟩:=h.ex;exact⟨A,c,h1,h2⟩
end
section
variable {α : Type} {size : Nat} {R R' : α → List Value → Prop} {l : List α} {xs : List Value}
theorem flatten_get{cs:List (List Value)}{k:Nat}:(∀c∈cs,c.length=k)->∀ {i:Nat} {c:List Value},cs[i]?=some c->∀j<k,cs.flatten[i*k+j]?=c[j]?:=by
 induction cs with
 | nil=>intro _ i c h;simp at h
 | cons y r ih=>
  intro hk i c h j hj;have hy:y.length=k:=hk y (by simp);cases i with
  | zero=>
   simp at h;subst h;rw [List.flatten_cons,List.getElem?_append_left (by omega),Nat.zero_mul,Nat.zero_add]
  | succ i=>
   rw [List.getElem?_cons_succ]at h;rw [List.flatten_cons,List.getElem?_append_right (by rw [hy,Nat.add_mul];omega),hy,show(i+1)*k+j-k=i*k+j by rw [Nat.add_mul];omega];exact ih (fun c hc=>hk c (by simp [hc])) h j hj
theorem flatten_len{cs:List (List Value)}{k:Nat}(h:∀c∈cs,c.length=k):cs.flatten.length=cs.length*k:=by
 induction cs with
 | nil=>simp
 | cons y r ih=>
  rw [List.flatten_cons,List.length_append,ih (fun c hc=>h c (by simp [hc])),h y (by simp),List.length_cons,Nat.add_mul];omega
def CellsOf(size:Nat)(R:α->List Value->Prop)(l:List α)(xs:List Value):Prop:=
 ∃cs:List (List Value),cs.length=l.length/\xs=cs.flatten/\(∀c∈cs,c.length=size)/\∀(i:Nat) (x:α) (c:List Value),l[i]?=some x->cs[i]?=some c->R x c
theorem CellsOf.nil:CellsOf size R [] []:=⟨[],rfl,rfl,by simp,by simp⟩
theorem CellsOf.snoc{x:α}{c:List Value}(h:CellsOf size R l xs)(hx:R x c)(hc:c.length=size):CellsOf size R (l++[x]) (xs++c):=by
 obtain⟨cs,h1,rfl,h3,h4⟩:=h;refine⟨cs++[c],by simp [h1],by simp,fun d hd=>?_,fun i y d hy hd=>?_⟩
 ·rcases List.mem_append.1 hd with hd|hd
  ·exact h3 d hd
  ·rw [List.mem_singleton.1 hd];exact hc
 ·by_cases hi:i<l.length
  ·rw [List.getElem?_append_left hi]at hy;rw [List.getElem?_append_left (by omega)]at hd;exact h4 i y d hy hd
  ·rw [List.getElem?_append_right (by omega)]at hy;rw [List.getElem?_append_right (by omega)]at hd;obtain⟨hz,rfl⟩:=List.getElem?_eq_some_iff.1 hy;obtain⟨hz2,rfl⟩:=List.getElem?_eq_some_iff.1 hd;simpa using hx
theorem CellsOf.mono(h:CellsOf size R l xs)(hR:∀x∈l,∀c,R x c->R' x c):CellsOf size R' l xs:=by
 obtain⟨cs,h1,h2,h3,h4⟩:=h;exact⟨cs,h1,h2,h3,fun i x c hx hc=>hR x (List.mem_of_getElem? hx) c (h4 i x c hx hc)⟩
theorem CellsOf.at_{i:Nat}{x:α}(h:CellsOf size R l xs)(hi:l[i]?=some x):∃c,R x c/\c.length=size/\∀j u,c[j]?=some u->xs[i*size+j]?=some u:=by
 obtain⟨cs,h1,rfl,h3,h4⟩:=h;have hlt:=(List.getElem?_eq_some_iff.1 hi).1;obtain⟨c,hc⟩:∃c,cs[i]?=some c:=⟨_,List.getElem?_eq_getElem (by omega)⟩
 have hcl:=h3 c (List.mem_of_getElem? hc);refine⟨c,h4 i x c hi hc,hcl,fun j u hu=>?_⟩;rw [flatten_get h3 hc j (by have:=(List.getElem?_eq_some_iff.1 hu).1;omega)];exact hu
theorem CellsOf.len(h:CellsOf size R l xs):xs.length=l.length*size:=by
 obtain⟨cs,h1,rfl,h3,_⟩:=h;rw [flatten_len h3,h1]
def ListIn(w:World)(F:Nat->Prop)(size:Nat)(R:α->List Value->Prop)(v:Value)(l:List α):Prop:=∃xs,RowIn w F size v l.length xs/\CellsOf size R l xs
def ListOwn(w:World)(B:Nat)(e:TypeId)(size:Nat)(R:α->List Value->Prop)(v:Value)(l:List α):Prop:=∃xs,w.ownsRow B e size v l.length xs/\CellsOf size R l xs
variable {w w' : World} {F F' : Nat → Prop} {v : Value} {B : Nat} {e : TypeId}
theorem ListIn.shape(h:ListIn w F size R v l):∃A c,v=.slice A l.length c/\l.length<=c:=h.elim fun _ h=>h.1.shape
theorem ListIn.at_{i:Nat}{x:α}(h:ListIn w F size R v l)(hi:l[i]?=some x)(hz:0<size):∃b o cp c,v=.slice (some ⟨b,o,none⟩) l.length cp/\l.length<=cp/\b<w.heap.size/\F b/\R x c/\c.length=size/\∀j u,c[j]?=some u->w.cell? ⟨b,o+i*size+j,none⟩=some u:=by
 obtain⟨xs,h1,h2⟩:=h;obtain⟨c,hR,hc,hx⟩:=h2.at_ hi;obtain⟨b,o,cp,hv,hn,hb,hF,hcell⟩:=h1.place (by have:=(List.getElem?_eq_some_iff.1 hi).1;omega) hz;exact⟨b,o,cp,c,hv,hn,hb,hF,hR,hc,fun j u hu=>by have:=hcell _ _ (hx j u hu);rwa [<-Nat.add_assoc]at this⟩
theorem ListIn.turn{S:Nat->Prop}(h:ListIn w F size R v l)(hm:Mod S w w')(hS:∀k,F k->k<w.heap.size->¬S k)(hF:∀k,F k->k<w.heap.size->F' k)(hR:∀x∈l,∀c,R x c->R' x c):ListIn w' F' size R' v l:=by
 obtain⟨xs,h1,h2⟩:=h;exact⟨xs,h1.turn hm hS hF,h2.mono hR⟩
theorem ListOwn.shape(h:ListOwn w B e size R v l):∃A c,v=.slice A l.length c:=h.elim fun _ h=>own_shape h.1
theorem ListOwn.nil(w:World)(B:Nat):ListOwn w B e size R (.slice none 0 0) ([]:List α):=⟨[],World.ownsRow_nil _ _ _ _,.nil⟩
theorem ListOwn.turn{S:Nat->Prop}(h:ListOwn w B e size R v l)(hm:Mod S w w')(hS:∀g,v.ownBlock=some g->¬S g)(hR:∀x∈l,∀c,R x c->R' x c):ListOwn w' B e size R' v l:=by
 obtain⟨xs,h1,h2⟩:=h;exact⟨xs,own_mod h1 hm hS,h2.mono hR⟩
theorem ListOwn.in_(h:ListOwn w B e size R v l)(hF:∀k,v.ownBlock=some k->F k):ListIn w F size R v l:=by
 obtain⟨xs,h1,h2⟩:=h;exact⟨xs,RowIn.of_own h1 hF,h2⟩
theorem ListOwn.lt(h:ListOwn w B e size R v l):∀k,v.ownBlock=some k->B<=k/\k<w.heap.size:=by
 obtain⟨xs,h1,h2⟩:=h;exact fun k hk=>h1.lt k hk
theorem ListOwn.push{x:α}{v':Value}{cells:List Value}{xs:List Value}(h:w'.ownsRow B e size v' (l.length+1) (xs++cells))(hc:CellsOf size R l xs)(hx:R x cells)(hl:cells.length=size):ListOwn w' B e size R v' (l++[x]):=
 ⟨xs++cells,by rw [List.length_append];exact h,hc.snoc hx hl⟩
end
def BytesF(w:World)(F:Nat->Prop)(v:Value)(b:List UInt8):Prop:=RowIn w F 1 v b.length (u8s b)
theorem BytesF.in_{w:World}{F:Nat->Prop}{v:Value}{b:List UInt8}(h:BytesF w F v b):∃A c,v=.slice A b.length c/\b.length<=c/\BytesIn w A b.length c b:=by
 obtain⟨A,c,h1,h2,h3,h4,h5⟩:=h.ex;exact⟨A,c,h1,h2,rfl,h3,h4,fun h0 ad e=>(h5 ad e h0).1⟩
theorem BytesF.of_own{w:World}{F:Nat->Prop}{B:Nat}{v:Value}{b:List UInt8}(h:Bytes w B v b)(hF:∀k,v.ownBlock=some k->F k):BytesF w F v b:=RowIn.of_own h hF
def SampR(w:World)(F:Nat->Prop)(b:List UInt8)(c:List Value):Prop:=∃v,c=[v]/\BytesF w F v b
theorem SampR.turn{w w':World}{F F' S:Nat->Prop}{b:List UInt8}{c:List Value}(h:SampR w F b c)(hm:Mod S w w')(hS:∀k,F k->k<w.heap.size->¬S k)(hF:∀k,F k->k<w.heap.size->F' k):SampR w' F' b c:=by
 obtain⟨v,rfl,h⟩:=h;exact⟨v,rfl,RowIn.turn h hm hS hF⟩
end Go.Proofs.YtnnpoodcdibpiaaGreatDoor
