/-
  append of one int, or one byte, or of ints that lie elsewhere, onto a row that the call owns.
-/
import Derived.Test.YthednemlahioeaaGreatDoorM0
namespace Go.Proofs.YthednemlahioeaaGreatDoor
open Go.RowKit
open Nat renaming le_trans→ZQ,le_refl→ZY,mul_one→XX,mul_le_mul→Yt
open List renaming replicate→ZM,ext_getElem→YU,range→Zz,getElem_set→WT,getElem_map→XA,getElem_range→Xf,map_set→WU
open World renaming ownsRow_nil→Yl,cell?_of_block→ZV
open Value renaming cells→WQ
open UInt8 renaming ofNat→Zl,toNat_lt→ZN
open Lib renaming hid→Z7
open And renaming intro→Z9
open IntWalk renaming i64_in→Z4
open Ending renaming returned→Zq
open Go.Proofs.Tryz
set_option maxRecDepth 100000
set_option maxHeartbeats 8000000
theorem Vg{ops:Array Oper}{rest:List Oper}{o:Oper}{a:Act}{Q:Exit->Act->World->Prop}(w:World)(hgd:o.guard=none)(s x:Operand)
  (ho:o.op=.call { callee:=.builtin .append,args:=#[s,x],argTypes:=#[63,63] })
  (B:Nat)(v:Value)(l:List Int)(y:Int)(hs:a.eval s=v)(hx:a.eval x=.slice (some ⟨w.heap.size,0,none⟩) 1 1)(hown:Zx w B v l)(hB:B<=w.heap.size)(hl:l.length<1048576)
  (h:∀v' w',Zx w' B v' (l++[y])->Mod (fun j=>v.ownBlock=some j) w w'->(∀(W:World) (S:Nat->Prop),W.heap.size<=B->Mod S W w->Mod S W w')->(∀g,v'.ownBlock=some g->v.ownBlock=some g\/w.heap.size<=g)->wpList prog ops Q rest (a.put o.dst v') w'):
  wpList prog ops Q (o :: rest) a (w.alloc (.cells #[.int .i64 y] 3)):=by
 obtain⟨i0,hi0,hz0,hz1,hz2⟩:=info_parts PY;refine Wo _ hgd s x 63 ho B 3 i0 _ 1 8 underlying63 hi0 hz0 hz1 hz2 rfl (by omega) v l.length (Y4 l) hs (XT hown ((Mod.refl (fun _=>False) w).alloc _) (fun _ _ h=>h)) (some ⟨w.heap.size,0,none⟩) 1 1 [.int .i64 y] hx (Src.new w 3 [.int .i64 y]) (fun h=>by cases h) (fun u hu=>by rw [List.mem_singleton.1 hu];rfl) (by unfold maxLen;omega) (by omega) (by simp;omega) ?_;intro v' w' h1 h2 h3;have hM:Mod (fun j=>v.ownBlock=some j) w w':=((Mod.refl _ _).alloc _).grown h2 (fun k hk=>.inl hk);refine h v' w' ?_ hM (fun W S hW hS=>hS.into hM (fun i e=>.inr (ZQ hW (hown.lt i e).1))) ?_
 ·unfold Zx;have e1:(l++[y]).length=l.length+1:=by simp
  have e2:Y4 (l++[y])=Y4 l++[.int .i64 y]:=by simp [Y4]
  rw [e1,e2];exact h1
 ·intro g hg;rcases h3 with h3|h3
  ·exact .inl (h3▸hg)
  ·rw [h3]at hg;injection hg with hg;exact .inr (by simp at hg;omega)
theorem TF{ops:Array Oper}{rest:List Oper}{o:Oper}{a:Act}{Q:Exit->Act->World->Prop}(w:World)(hgd:o.guard=none)(s x:Operand)
  (ho:o.op=.call { callee:=.builtin .append,args:=#[s,x],argTypes:=#[63,63] })
  (B:Nat)(v:Value)(l:List Int)(A:Option Addr)(m c:Nat)(r:List Int)(hs:a.eval s=v)(hx:a.eval x=.slice A m c)(hown:Zx w B v l)(YZ:IntsIn w A m c r)(hB:B<=w.heap.size)(hl:l.length+m<=1048576)
  (h:∀v' w',Zx w' B v' (l++r)->Mod (fun j=>v.ownBlock=some j) w w'->(∀(W:World) (S:Nat->Prop),W.heap.size<=B->Mod S W w->Mod S W w')->(∀g,v'.ownBlock=some g->v.ownBlock=some g\/w.heap.size<=g)->wpList prog ops Q rest (a.put o.dst v') w'):
  wpList prog ops Q (o :: rest) a w:=by
 obtain⟨i0,hi0,hz0,hz1,hz2⟩:=info_parts PY;refine Wo _ hgd s x 63 ho B 3 i0 _ 1 8 underlying63 hi0 hz0 hz1 hz2 rfl Z8 v l.length (Y4 l) hs hown A m c (Y4 r) hx YZ.2.2.1 YZ.2.1 (RH r) (by unfold maxLen;omega) Z8 hB ?_;intro v' w' h1 h2 h3;have hM:Mod (fun j=>v.ownBlock=some j) w w':=(Mod.refl _ _).grown h2 (fun k hk=>.inl hk);refine h v' w' ?_ hM (fun W S hW hS=>hS.into hM (fun i e=>.inr (ZQ hW (hown.lt i e).1))) ?_
 ·unfold Zx;have e1:(l++r).length=l.length+m:=by simp [YZ.1]
  have e2:Y4 (l++r)=Y4 l++Y4 r:=by simp [Y4]
  rw [e1,e2];exact h1
 ·intro g hg;rcases h3 with h3|h3
  ·exact .inl (h3▸hg)
  ·rw [h3]at hg;injection hg with hg;exact .inr Z8
theorem Mv{ops:Array Oper}{o:Oper}{a:Act}{K:Act->World->Prop}{Q:Exit->Act->World->Prop}{E:Prop}(w:World)(hgd:o.guard=none)(s x:Operand)
  (ho:o.op=.call { callee:=.builtin .append,args:=#[s,x],argTypes:=#[63,63] })
  (B:Nat)(v:Value)(l:List Int)(y:Int)(hs:a.eval s=v)(hx:a.eval x=.slice (some ⟨w.heap.size,0,none⟩) 1 1)(hown:Zx w B v l)(hB:B<=w.heap.size)(hl:l.length<1048576)
  (h:∀v' w',Zx w' B v' (l++[y])->Mod (fun j=>v.ownBlock=some j) w w'->(∀(W:World) (S:Nat->Prop),W.heap.size<=B->Mod S W w->Mod S W w')->(∀g,v'.ownBlock=some g->v.ownBlock=some g\/w.heap.size<=g)->K (a.put o.dst v') w'):
  if Region.wanted o (yielded ops a.tmps)=true then Oper.wp prog o a (w.alloc (.cells #[.int .i64 y] 3)) K Q else E:=by
 obtain⟨i0,hi0,hz0,hz1,hz2⟩:=info_parts PY;refine TE _ hgd s x 63 ho B 3 i0 _ 1 8 underlying63 hi0 hz0 hz1 hz2 rfl (by omega) v l.length (Y4 l) hs (XT hown ((Mod.refl (fun _=>False) w).alloc _) (fun _ _ h=>h)) (some ⟨w.heap.size,0,none⟩) 1 1 [.int .i64 y] hx (Src.new w 3 [.int .i64 y]) (fun h=>by cases h) (fun u hu=>by rw [List.mem_singleton.1 hu];rfl) (by unfold maxLen;omega) (by omega) (by simp;omega) ?_;intro v' w' h1 h2 h3;have hM:Mod (fun j=>v.ownBlock=some j) w w':=((Mod.refl _ _).alloc _).grown h2 (fun k hk=>.inl hk);refine h v' w' ?_ hM (fun W S hW hS=>hS.into hM (fun i e=>.inr (ZQ hW (hown.lt i e).1))) ?_
 ·unfold Zx;have e1:(l++[y]).length=l.length+1:=by simp
  have e2:Y4 (l++[y])=Y4 l++[.int .i64 y]:=by simp [Y4]
  rw [e1,e2];exact h1
 ·intro g hg;rcases h3 with h3|h3
  ·exact .inl (h3▸hg)
  ·rw [h3]at hg;injection hg with hg;exact .inr (by simp at hg;omega)
theorem VR{ops:Array Oper}{rest:List Oper}{o:Oper}{a:Act}{Q:Exit->Act->World->Prop}(w:World)(hgd:o.guard=none)(s x:Operand)
  (ho:o.op=.call { callee:=.builtin .append,args:=#[s,x],argTypes:=#[54,54] })
  (B:Nat)(v:Value)(l:List UInt8)(y:UInt8)(hs:a.eval s=v)(hx:a.eval x=↑(ZZ w.heap.size 1 1))(hown:Bytes w B v l)(hB:B<=w.heap.size)(hl:l.length<1048576)
  (h:∀v' w',Bytes w' B v' (l++[y])->Mod (fun j=>v.ownBlock=some j) w w'->(∀(W:World) (S:Nat->Prop),W.heap.size<=B->Mod S W w->Mod S W w')->(∀g,v'.ownBlock=some g->v.ownBlock=some g\/w.heap.size<=g)->wpList prog ops Q rest (a.put o.dst v') w'):
  wpList prog ops Q (o :: rest) a (w.alloc (.cells #[.int .u8 (y.toNat:Int)] 5)):=by
 obtain⟨i0,hi0,hz0,hz1,hz2⟩:=info_parts Pf;refine Wo _ hgd s x 54 ho B 5 i0 _ 1 1 underlying54 hi0 hz0 hz1 hz2 rfl Z8 v l.length (Yw l) hs (XT hown ((Mod.refl ↑ZW w).alloc _) (fun _ _ h=>h)) (some ↑w.heap.size) 1 1 [.int .u8 (y.toNat:Int)] hx (Src.new w 5 [.int .u8 (y.toNat:Int)]) (fun h=>by cases h) (fun u hu=>by rw [List.mem_singleton.1 hu];rfl) (by unfold maxLen;omega) Z8 (by simp;omega) ?_;intro v' w' h1 h2 h3;have hM:Mod (fun j=>v.ownBlock=some j) w w':=((Mod.refl _ _).alloc _).grown h2 (fun k hk=>.inl hk);refine h v' w' ?_ hM (fun W S hW hS=>hS.into hM (fun i e=>.inr (ZQ hW (hown.lt i e).1))) ?_
 ·unfold Bytes;have e1:(l++[y]).length=l.length+1:=Ze;have e2:Yw (l++[y])=Yw l++[.int .u8 (y.toNat:Int)]:=by simp [Yw]
  rw [e1,e2];exact h1
 ·intro g hg;rcases h3 with h3|h3
  ·exact .inl (h3▸hg)
  ·rw [h3]at hg;injection hg with hg;exact .inr (by simp at hg;omega)
theorem VJ{ops:Array Oper}{rest:List Oper}{o:Oper}{a:Act}{Q:Exit->Act->World->Prop}(w:World)(hgd:o.guard=none)(s x:Operand)
  (ho:o.op=.call { callee:=.builtin .append,args:=#[s,x],argTypes:=#[54,54] })
  (B:Nat)(v:Value)(l:List UInt8)(A:Option Addr)(m c:Nat)(r:List UInt8)(hs:a.eval s=v)(hx:a.eval x=.slice A m c)(hown:Bytes w B v l)(YZ:BytesIn w A m c r)(hB:B<=w.heap.size)(hl:l.length+m<=1048576)
  (h:∀v' w',Bytes w' B v' (l++r)->Mod (fun j=>v.ownBlock=some j) w w'->(∀(W:World) (S:Nat->Prop),W.heap.size<=B->Mod S W w->Mod S W w')->(∀g,v'.ownBlock=some g->v.ownBlock=some g\/w.heap.size<=g)->wpList prog ops Q rest (a.put o.dst v') w'):
  wpList prog ops Q (o :: rest) a w:=by
 obtain⟨i0,hi0,hz0,hz1,hz2⟩:=info_parts Pf;refine Wo _ hgd s x 54 ho B 5 i0 _ 1 1 underlying54 hi0 hz0 hz1 hz2 rfl Z8 v l.length (Yw l) hs hown A m c (Yw r) hx YZ.2.2.1 YZ.2.1 (Pg r) (by unfold maxLen;omega) Z8 hB ?_;intro v' w' h1 h2 h3;have hM:Mod (fun j=>v.ownBlock=some j) w w':=(Mod.refl _ _).grown h2 (fun k hk=>.inl hk);refine h v' w' ?_ hM (fun W S hW hS=>hS.into hM (fun i e=>.inr (ZQ hW (hown.lt i e).1))) ?_
 ·unfold Bytes;have e1:(l++r).length=l.length+m:=by simp [YZ.1]
  have e2:Yw (l++r)=Yw l++Yw r:=by simp [Yw]
  rw [e1,e2];exact h1
 ·intro g hg;rcases h3 with h3|h3
  ·exact .inl (h3▸hg)
  ·rw [h3]at hg;injection hg with hg;exact .inr Z8
theorem FR{ops:Array Oper}{o:Oper}{a:Act}{K:Act->World->Prop}{Q:Exit->Act->World->Prop}{E:Prop}(w:World)(hgd:o.guard=none)(s x:Operand)
  (ho:o.op=.call { callee:=.builtin .append,args:=#[s,x],argTypes:=#[54,54] })
  (B:Nat)(v:Value)(l:List UInt8)(y:UInt8)(hs:a.eval s=v)(hx:a.eval x=↑(ZZ w.heap.size 1 1))(hown:Bytes w B v l)(hB:B<=w.heap.size)(hl:l.length<1048576)
  (h:∀v' w',Bytes w' B v' (l++[y])->Mod (fun j=>v.ownBlock=some j) w w'->(∀(W:World) (S:Nat->Prop),W.heap.size<=B->Mod S W w->Mod S W w')->(∀g,v'.ownBlock=some g->v.ownBlock=some g\/w.heap.size<=g)->K (a.put o.dst v') w'):
  if Region.wanted o (yielded ops a.tmps)=true then Oper.wp prog o a (w.alloc (.cells #[.int .u8 (y.toNat:Int)] 5)) K Q else E:=by
 obtain⟨i0,hi0,hz0,hz1,hz2⟩:=info_parts Pf;refine TE _ hgd s x 54 ho B 5 i0 _ 1 1 underlying54 hi0 hz0 hz1 hz2 rfl Z8 v l.length (Yw l) hs (XT hown ((Mod.refl ↑ZW w).alloc _) (fun _ _ h=>h)) (some ↑w.heap.size) 1 1 [.int .u8 (y.toNat:Int)] hx (Src.new w 5 [.int .u8 (y.toNat:Int)]) (fun h=>by cases h) (fun u hu=>by rw [List.mem_singleton.1 hu];rfl) (by unfold maxLen;omega) Z8 (by simp;omega) ?_;intro v' w' h1 h2 h3;have hM:Mod (fun j=>v.ownBlock=some j) w w':=((Mod.refl _ _).alloc _).grown h2 (fun k hk=>.inl hk);refine h v' w' ?_ hM (fun W S hW hS=>hS.into hM (fun i e=>.inr (ZQ hW (hown.lt i e).1))) ?_
 ·unfold Bytes;have e1:(l++[y]).length=l.length+1:=Ze;have e2:Yw (l++[y])=Yw l++[.int .u8 (y.toNat:Int)]:=by simp [Yw]
  rw [e1,e2];exact h1
 ·intro g hg;rcases h3 with h3|h3
  ·exact .inl (h3▸hg)
  ·rw [h3]at hg;injection hg with hg;exact .inr (by simp at hg;omega)
theorem Zx.whole{w:World}{B g:Nat}{l:List Int}(hB:B<=g)(h:ZI w g 3 (Y4 l).toArray)(hl:l.length<=maxLen):Zx w B ↑(ZZ g l.length l.length) l:=
 ⟨by simp [Y4],.inr ⟨g,l.length,_,rfl,hB,h,ZY _,hl,by simp [Y4],by rw [XX];exact List.take_of_length_le (by simp [Y4])⟩⟩
theorem Zx.cap{w:World}{B:Nat}{A:Option Addr}{n c:Nat}{l:List Int}(h:Zx w B (.slice A n c) l):n<=c:=by
 rcases h.2 with⟨hv,_⟩|⟨g,cap,cur,hv,_,_,h1,_⟩
 ·injection hv with _ h2 h3;omega
 ·injection hv with _ h2 h3;omega
theorem Zx.mod{S:Nat->Prop}{w w':World}{B:Nat}{v:Value}{l:List Int}(h:Zx w B v l)(hm:Mod S w w')(hS:∀g,v.ownBlock=some g->¬S g):Zx w' B v l:=XT h hm hS
theorem Zx.quiet{w w':World}{B:Nat}{v:Value}{l:List Int}(h:Zx w B v l)(hm:Mod ↑ZW w w'):Zx w' B v l:=XT h hm (fun _ _ h=>h)
theorem Bytes.mod{S:Nat->Prop}{w w':World}{B:Nat}{v:Value}{l:List UInt8}(h:Bytes w B v l)(hm:Mod S w w')(hS:∀g,v.ownBlock=some g->¬S g):Bytes w' B v l:=XT h hm hS
theorem Bytes.quiet{w w':World}{B:Nat}{v:Value}{l:List UInt8}(h:Bytes w B v l)(hm:Mod ↑ZW w w'):Bytes w' B v l:=XT h hm (fun _ _ h=>h)
theorem Bytes.cap{w:World}{B:Nat}{A:Option Addr}{n c:Nat}{l:List UInt8}(h:Bytes w B (.slice A n c) l):n<=c:=by
 rcases h.2 with⟨hv,_⟩|⟨g,cap,cur,hv,_,_,h1,_⟩
 ·injection hv with _ h2 h3;omega
 ·injection hv with _ h2 h3;omega
theorem Zx.nil(w:World)(B:Nat):Zx w B ↑Zd []:=Yl _ _ _ _
theorem Bytes.nil(w:World)(B:Nat):Bytes w B ↑Zd []:=Yl _ _ _ _
theorem nV(n:Nat):(madeCells (WQ (.int .u8 0)) n).toList=Yw (ZM n 0):=by
 apply YU
 ·simp [size_madeCells,Yw,WQ]
 ·intro i h1 h2;simp [madeCells,Yw,WQ,Nat.mod_one]
theorem aeE(n:Nat):(madeCells (WQ ↑Z0) n).toList=Y4 (ZM n 0):=by
 apply YU
 ·simp [size_madeCells,Y4,WQ]
 ·intro i h1 h2;simp [madeCells,Y4,WQ,Nat.mod_one]
theorem TV(w:World){ops:Array Oper}{rest:List Oper}{o:Oper}{a:Act}{Q:Exit->Act->World->Prop}(hg:o.guard=none)(l c:Operand)(hop:o.op=Op.makeSlice 54 l c)
  (n:Nat)(hl:a.eval l=↑n)(hc:a.eval c=↑n)(hn:n<=16777216)
  (hK:∀w',ZI w' w.heap.size 5 (Yw (ZM n 0)).toArray->Mod ↑ZW w w'->wpList prog ops Q rest (a.put o.dst ↑(ZZ w.heap.size n n)) w'):wpList prog ops Q (o :: rest) a w:=by
 obtain⟨i0,hi0,hz0,hz1,hz2⟩:=info_parts Pf;refine wpList_make_full _ hg l c _ hop w.heap.size 5 i0 (.int .u8 0) 1 underlying54 hi0 hz0 hz1 _ _ _ _ n hl hc rfl rfl (by rw [hz2];omega) (by unfold maxLen;omega) (ZY _) ?_;intro w' h1 h2;have h3:=(OH h1).1;rw [XX,nV]at h3;exact hK w' h3 ((Mod.refl _ _).grown h2 (fun k hk=>by cases hk))
theorem JL(w:World){ops:Array Oper}{rest:List Oper}{o:Oper}{a:Act}{Q:Exit->Act->World->Prop}(hg:o.guard=none)(l c:Operand)(hop:o.op=Op.makeSlice 63 l c)
  (n:Nat)(hl:a.eval l=↑n)(hc:a.eval c=↑n)(hn:n<=16777216)
  (hK:∀w',ZI w' w.heap.size 3 (Y4 (ZM n 0)).toArray->Mod ↑ZW w w'->wpList prog ops Q rest (a.put o.dst ↑(ZZ w.heap.size n n)) w'):wpList prog ops Q (o :: rest) a w:=by
 obtain⟨i0,hi0,hz0,hz1,hz2⟩:=info_parts PY;refine wpList_make_full _ hg l c _ hop w.heap.size 3 i0 ↑Z0 1 underlying63 hi0 hz0 hz1 _ _ _ _ n hl hc rfl rfl (by rw [hz2];omega) (by unfold maxLen;omega) (ZY _) ?_;intro w' h1 h2;have h3:=(OH h1).1;rw [XX,aeE]at h3;exact hK w' h3 ((Mod.refl _ _).grown h2 (fun k hk=>by cases hk))
theorem aah(w:World){ops:Array Oper}{rest:List Oper}{o:Oper}{a:Act}{Q:Exit->Act->World->Prop}(hg:o.guard=none)(l c:Operand)(hop:o.op=Op.makeSlice 63 l c)
  (n:Nat)(hl:a.eval l=↑Z0)(hc:a.eval c=↑n)(hn:n<=16777216)
  (hK:∀w',Zx w' w.heap.size ↑(ZZ w.heap.size 0 n) []->Mod ↑ZW w w'->wpList prog ops Q rest (a.put o.dst ↑(ZZ w.heap.size 0 n)) w'):wpList prog ops Q (o :: rest) a w:=by
 obtain⟨i0,hi0,hz0,hz1,hz2⟩:=info_parts PY;refine wpList_make_own _ hg l c _ hop w.heap.size 3 i0 ↑Z0 1 underlying63 hi0 hz0 hz1 _ _ _ n hl hc rfl (by rw [hz2];omega) (by unfold maxLen;omega) (ZY _) ?_;intro w' h1 h2;exact hK w' h1 ((Mod.refl _ _).grown h2 (fun k hk=>by cases hk))
def XM(v:Int):Nat:=if v<0 then 0 else if 255<v then 255 else v.toNat
theorem PO(v:Int):XM v<256:=by unfold XM;split;omega;split<;>omega
theorem wG(w:World)(v:Int)(hv:-9223372036854775808<=v/\v<=9223372036854775807):Calls prog 408 #[↑v] w fun e w'=>e=.returned (.int .u8 ((XM v:Nat):Int))/\w=w':=by
 unfold XM;by_cases h1:v<0
 ·rw [if_pos h1];have e1:max v 0=0:=Z8;go_enter func408,ntmps408;go_wp2_with fail;go_ret;exact⟨rfl,rfl⟩
 ·rw [if_neg h1];by_cases h2:255<v
  ·rw [if_pos h2];have e1:max v 0=v:=Z8;have e2:min v 255=255:=Z8;go_enter func408,ntmps408;go_wp2_with fail;go_ret;exact⟨rfl,rfl⟩
  ·rw [if_neg h2];have e1:max v 0=v:=Z8;have e2:min v 255=v:=Z8;have e3:v % 256=((v.toNat:Nat):Int):=Z8;go_enter func408,ntmps408;go_wp2_with fail;go_ret;exact⟨rfl,rfl⟩
def Qs(g:List UInt8)(r:List Int)(i:Nat):Nat:=XM (((g.getD i 0).toNat:Int)+min (max (r.getD i 0) (-255)) 255)
def oV(g:List UInt8)(r:List Int)(k:Nat):List UInt8:=(Zz g.length).map fun i=>if i<k then Zl (Qs g r i)else 0
def Hg(g:List UInt8)(r:List Int):List UInt8:=oV g r g.length
theorem I8(g:List UInt8)(r:List Int)(k:Nat):(oV g r k).length=g.length:=by simp [oV]
theorem adK(g:List UInt8)(r:List Int):oV g r 0=ZM g.length 0:=by
 unfold oV;apply YU
 ·simp
 ·intro i h1 h2;simp
theorem ae9(g:List UInt8)(r:List Int)(k:Nat):(oV g r k).set k (Zl (Qs g r k))=oV g r (k+1):=by
 unfold oV;apply YU
 ·simp
 ·intro i h1 h2;rw [WT];simp only [XA,Xf];by_cases e:k=i
  ·subst e;rw [if_pos rfl,VI]
  ·rw [if_neg e];by_cases e2:i<k
   ·rw [if_pos e2,VI]
   ·rw [if_neg e2,Xb]
theorem sP(n:Nat):(madeCells (WQ (.int .u8 0)) n).toList=Yw (ZM n 0):=by
 apply YU
 ·simp [size_madeCells,Yw]
 ·intro i h1 h2;simp [madeCells,Yw,WQ,Nat.mod_one]
theorem EM(l:List UInt8)(k v:Nat)(hv:v<256):Yw (l.set k (Zl v))=(Yw l).set k (.int .u8 (v:Int)):=by
 have e:(Zl v).toNat=v:=by rw [UInt8.toNat_ofNat'];omega
 simp [Yw,WU,e]
def afI(w4:World)(ob:Nat)(g:List UInt8)(r:List Int)(i:Value)(wr:World):Prop:=
 ∃k:Nat,k<=g.length/\i=↑k/\ZI wr ob 5 (Yw (oV g r k)).toArray/\Mod (·=ob) w4 wr
theorem BytesIn.place{w:World}{A:Option Addr}{n c:Nat}{l:List UInt8}(h:BytesIn w A n c l)(h0:0<n):∃b off,A=some ⟨b,off,none⟩/\b<w.heap.size/\∀i<n,w.cell? ⟨b,off+i,none⟩=some (.int .u8 ((l.getD i 0).toNat:Int)):=by
 obtain⟨h1,h2,h3,h4⟩:=h;cases A with
 | none=>have:=h3.2.1 rfl;omega
 | some ad=>
  obtain⟨b,off,spot⟩:=ad;have hl:0<(Yw l).length:=by rw [YG];omega
  have hc:=h3.2.2 _ rfl 0 _ (List.getElem?_eq_getElem hl);have hspot:spot=none:=by simpa [Addr.add]using World.cell?_spot hc
  subst hspot;refine⟨b,off,rfl,h4 h0 _ rfl,fun i hi=>?_⟩;have h5:=h3.2.2 _ rfl i (.int .u8 ((l.getD i 0).toNat:Int)) (by simp [Yw,show i<l.length by omega]);rwa [VW]at h5
theorem afc(w:World)(A:Option Addr)(n c:Nat)(g:List UInt8)(A2:Option Addr)(c2:Nat)(r:List Int)(YZ:BytesIn w A n c g)(Vr:IntsIn w A2 n c2 r)(JD:0<n)(hn:n<=1048576):
  Calls prog 366 #[.slice A n c,.slice A2 n c2] w fun e w'=>∃v,e=.returned v/\Bytes w' w.heap.size v (Hg g r)/\Mod (fun _=>False) w w':=by
 obtain⟨i0,hi0,hz0,hz1,hz2⟩:=info_parts Pf;obtain rfl:g.length=n:=YZ.1;obtain⟨b,off,rfl,hb,hc⟩:=YZ.place JD;obtain⟨b2,Iq,rfl,hb2,hc2⟩:=Vr.place JD;have HC:=Z7 (Z9 hc hc2);have x1:i0.bytes*g.length<=281474976710656:=by rw [hz2];omega
 have x2:g.length<=maxLen:=by unfold maxLen;omega
 have HX:=Z7 (Z9 x1 x2);clear hc hc2 YZ Vr x1 x2;go_enter func366,ntmps366;go_upto_region 4 with(with_reducible refine wpList_make_full _ rfl (.tmp 14) (.tmp 14) _ rfl w.heap.size 5 i0 (.int .u8 0) 1 underlying54 hi0 hz0 hz1 _ _ _ _ g.length rfl rfl rfl rfl HX.out.1 HX.out.2 (ZY _) ?_;intro w4 Ws hg4;have HO:=Z7 (Z9 Ws hg4);clear Ws hg4)
 have m4:Mod (fun _=>False) w w4:=(Mod.refl _ _).grown HO.out.2 (fun k hk=>by cases hk);obtain⟨TY,_⟩:=OH HO.out.1;rw [XX,sP,<-adK g r]at TY;obtain⟨ob,Ih⟩:∃ob,ob=w.heap.size:=⟨_,rfl⟩
 rw [<-Ih]at TY ⊢;have how:w.heap.size<=ob:=by omega
 have iC:¬b=ob:=by omega
 have ags:¬b2=ob:=by omega
 clear HO Ih;go_wp2_with fail;go_loopw [18] (afI w4 ob g r) (fun i _=>g.length-(intOf i).toNat)
 case atStart=>exact⟨0,by omega,rfl,TY,Mod.refl _ _⟩
 case round=>
  clear TY;obtain⟨k,hk,rfl,TY,hM⟩:=hrel;by_cases hlt:k<g.length
  ·have lM:Mod (·=ob) w wr:=(m4.mono (fun _ h=>h.elim)).trans hM;have M9:wr.cell? ⟨b,off+k,none⟩=some (.int .u8 ((g.getD k 0).toNat:Int)):=(ZV (lM.block b hb iC)).trans (HC.out.1 k hlt);have Lm:wr.cell? ⟨b2,Iq+k,none⟩=some (.int .i64 (r.getD k 0)):=(ZV (lM.block b2 hb2 ags)).trans (HC.out.2 k hlt);have hx:(g.getD k 0).toNat<256:=ZN _;have Og:Hid (Qs g r k=XM (((g.getD k 0).toNat:Int)+min (max (r.getD k 0) (-255)) 255)):=rfl;generalize (g.getD k 0).toNat=x at *;generalize r.getD k 0=y at *;have i1:(0:Int)<=(k:Int):=by omega
   have i2:(k:Int)<(g.length:Int):=by omega
   obtain⟨z,hz⟩:∃z,z=min (max y (-255)) 255:=⟨_,rfl⟩
   have hzb:-255<=z/\z<=255:=by omega
   have jM:wr.cell? ⟨ob,k,none⟩=some (.int .u8 (((oV g r k).getD k 0).toNat:Int)):=by rw [TY.cell k];simp [Yw,I8,hlt]
   have aj:=TY.frozen k;rw [<-hz]at Og;have HZ:=Z7 hz;clear hz lM;have HB:=Z7 (Z9 TY hM);have SB:=PO (x+z);clear TY hM;go_wp2_with fail
   all_goals
    refine(wG _ _ (by omega)).mono ?_;rintro e w5 ⟨rfl,rfl⟩
    first
     | rw [show XM ((x:Int)+255)=XM (x+z)by congr 2;have:=HZ.out;omega]
     | rw [show XM ((x:Int) + -255)=XM (x+z)by congr 2;have:=HZ.out;omega]
     | rw [show XM ((x:Int)+y)=XM (x+z)by congr 2;have:=HZ.out;omega]
    rw [<-Og.out]at SB ⊢;generalize ((oV g r k).getD k 0).toNat=old at *;go_wp2_with fail;go_roundw
    case rel=>
     obtain⟨TY,hM⟩:=HB.out;exact⟨k+1,by omega,by go_num,TY.put (by rw [<-ae9,EM _ _ _ SB];simp),hM.setCell (p:=⟨ob,k,none⟩) (.inl rfl) _⟩
    case measure=>simp [intOf];omega
  ·obtain rfl:k=g.length:=by omega
   have HB:=Z7 (Z9 TY hM);clear TY hM;go_wp2_with fail;go_ret;obtain⟨TY,hM⟩:=HB.out;have hl:(Hg g r).length=g.length:=I8 g r _;have:=Bytes.DW (B:=w.heap.size) how (l:=Hg g r) TY (by rw [hl];exact HX.out.2);rw [hl]at this;exact⟨_,rfl,this,m4.into hM (fun i e=>.inr (by omega))⟩
def Yx(W H:Nat):Bool:=decide (1<=W/\W<=4096/\1<=H/\H<=4096)
theorem af3(w:World)(W H:Nat):Calls prog 89 #[↑W,↑H] w fun e w'=>e=.returned (.bool (Yx W H))/\w=w':=by
 unfold Yx;by_cases h1:1<=W
 ·have d1:=Zb (1<=(W:Int));by_cases h2:W<=4096
  ·have d2:=Zb ((W:Int)<=4096);by_cases h3:1<=H
   ·have d3:=Zb (1<=(H:Int));by_cases h4:H<=4096
    ·have d4:=Zb ((H:Int)<=4096);rw [decide_eq_true (show 1<=W/\W<=4096/\1<=H/\H<=4096 from⟨h1,h2,h3,h4⟩)];go_enter func89,ntmps89;go_wp2_with fail;go_ret;exact⟨rfl,rfl⟩
    ·have d4:=Za ((H:Int)<=4096);rw [decide_eq_false (show ¬(1<=W/\W<=4096/\1<=H/\H<=4096)by omega)];go_enter func89,ntmps89;go_wp2_with fail;go_ret;exact⟨rfl,rfl⟩
   ·have d3:=Za (1<=(H:Int));rw [decide_eq_false (show ¬(1<=W/\W<=4096/\1<=H/\H<=4096)by omega)];go_enter func89,ntmps89;go_wp2_with fail;go_ret;exact⟨rfl,rfl⟩
  ·have d2:=Za ((W:Int)<=4096);rw [decide_eq_false (show ¬(1<=W/\W<=4096/\1<=H/\H<=4096)by omega)];go_enter func89,ntmps89;go_wp2_with fail;go_ret;exact⟨rfl,rfl⟩
 ·have d1:=Za (1<=(W:Int));rw [decide_eq_false (show ¬(1<=W/\W<=4096/\1<=H/\H<=4096)by omega)];go_enter func89,ntmps89;go_wp2_with fail;go_ret;exact⟨rfl,rfl⟩
theorem Jl(w:World)(W H:Nat)(h:Yx W H=true):Calls prog 89 #[↑W,↑H] w fun e w'=>e=.returned (.bool true)/\w=w':=h▸af3 w W H
theorem YB{W H:Nat}(h:Yx W H=true):W*H<=16777216/\1<=W/\W<=4096/\1<=H/\H<=4096/\1<=W*H:=by
 unfold Yx at h;rw [decide_eq_true_eq]at h;obtain⟨h1,h2,h3,h4⟩:=h;have:=Yt h2 h4;have:=Yt h1 h3;omega
/-- A right plane is right. -/
theorem oC(w:World)(W H:Nat)(A:Option Addr)(c:Nat)(h:Yx W H=true):Calls prog 109 #[.agg #[.int .i64 (W:Int),.int .i64 (H:Int),.slice A (W*H) c]] w fun e w'=>e=.returned (.bool true)/\Mod (fun _=>False) w w':=by
 have ha:=YB h;obtain⟨n,hn⟩:∃n,n=W*H:=⟨_,rfl⟩
 rw [<-hn]at ha ⊢;have e1:wrap64 ((W:Int)*(H:Int))=(n:Int):=by
  rw [show(W:Int)*(H:Int)=(n:Int)by rw [hn];simp];exact IntWalk.wrap64_in _ ⟨by omega,by omega⟩
 have HE:=Z7 e1;clear hn e1;go_enter func109,ntmps109;go_wp2_with fail;refine(Jl _ W H h).mono ?_;rintro e w1 ⟨rfl,rfl⟩;have e1:=HE.out;go_wp2_with fail;go_ret;exact⟨rfl,(Mod.refl _ _).alloc _⟩
def Uj(v:Int)(m:Nat):Nat:=if v<0 then 0 else if(m:Int)-1<v then m-1 else v.toNat
theorem sU(v:Int)(m:Nat)(h:1<=m):Uj v m<m:=by unfold Uj;split<;>(try split)<;>omega
theorem fM(w:World)(v:Int)(m:Nat)(h:1<=m):Calls prog 388 #[↑v,↑Z0,.int .i64 ((m:Int)-1)] w fun e w'=>e=.returned ↑(Uj v m:Nat)/\w=w':=by
 unfold Uj;by_cases h1:v<0
 ·have h2:¬(m:Int)-1<0:=Z8;have d1:¬(0:Int)<v:=Z8;rw [if_pos h1];have h3:(0:Int)<(m:Int)-1\/(m:Int)-1=0:=Z8;rcases h3 with h3|h3
  ·go_enter func388,ntmps388;go_wp2_with fail
   all_goals(try go_ret)
   all_goals first|exact⟨rfl,rfl⟩|(exact⟨congrArg (fun z=>Zq (.int .i64 z)) Z8,rfl⟩)|omega
  ·rw [h3];go_enter func388,ntmps388;go_wp2_with fail
   all_goals(try go_ret)
   all_goals first|exact⟨rfl,rfl⟩|(exact⟨congrArg (fun z=>Zq (.int .i64 z)) Z8,rfl⟩)|omega
 ·rw [if_neg h1];by_cases h2:(m:Int)-1<v
  ·rw [if_pos h2];go_enter func388,ntmps388;go_wp2_with fail
   all_goals(try go_ret)
   all_goals first|exact⟨rfl,rfl⟩|(exact⟨congrArg (fun z=>Zq (.int .i64 z)) Z8,rfl⟩)|omega
  ·rw [if_neg h2];go_enter func388,ntmps388;go_wp2_with fail
   all_goals(try go_ret)
   all_goals first|exact⟨rfl,rfl⟩|(exact⟨congrArg (fun z=>Zq (.int .i64 z)) Z8,rfl⟩)|omega
def TB(W H:Nat)(ZJ:List UInt8)(x y:Int):UInt8:=ZJ.getD (Uj y H*W+Uj x W) 0
theorem BG(W H:Nat)(x y:Int)(h:Yx W H=true):Uj y H*W+Uj x W<W*H:=by
 obtain⟨_,h1,_,h3,_⟩:=YB h;have a:=sU x W h1;have b:=sU y H h3;have c:(Uj y H+1)*W<=H*W:=Nat.mul_le_mul_right W b;rw [Nat.add_mul,Nat.mul_comm H W]at c;omega
theorem abl(w:World)(v:Int)(m:Nat)(h:1<=m)(n:Nat):Calls prog 388 #[↑v,↑Z0,.int .i64 ((m:Int)-1)] (w.drewN n) fun e w'=>e=.returned ↑(Uj v m:Nat)/\w'=w.drewN n:=(fM _ v m h).mono fun _ _ ⟨a,b⟩=>⟨a,b.symm⟩
theorem pAt(w:World)(W H:Nat)(A:Option Addr)(c:Nat)(ZJ:List UInt8)(h:Yx W H=true)(YZ:BytesIn w A (W*H) c ZJ)(x y:Int):
  Calls prog 392 #[.agg #[↑W,↑H,.slice A (W*H) c],↑x,↑y] w fun e w'=>e=.returned (.int .u8 ((TB W H ZJ x y).toNat:Int))/\Mod ↑ZW w w':=by
 obtain⟨ha,h1,h2,h3,h4,h5⟩:=YB h;have ah:=BG W H x y h;have hb0:ZI (w.alloc (.cells #[↑W,↑H,.slice A (W*H) c] 56)) w.heap.size 56 #[↑W,↑H,.slice A (W*H) c]:=ZI.new _ _ _;have m0:Mod ↑ZW w (w.alloc (.cells #[↑W,↑H,.slice A (W*H) c] 56)):=(Mod.refl _ _).alloc _;have R1:=oC (w.alloc (.cells #[↑W,↑H,.slice A (W*H) c] 56)) W H A c h;obtain⟨b,off,hA,hb,hcell⟩:=YZ.place Z8;subst hA;obtain⟨n,hn⟩:=ZL (W*H);rw [<-hn]at hb0 m0 R1 hcell ah ha h5 ⊢;obtain⟨k,hk⟩:=ZL (Uj y H*W+Uj x W);rw [<-hk]at ah;have M9:=hcell k ah;have HP:Hid ((TB W H ZJ x y).toNat=(ZJ.getD k 0).toNat):=by show _=_;rw [hk];rfl
 have s0:(Uj y H:Int)*(W:Int)=((Uj y H*W:Nat):Int):=Ze;have s1:IntKind.i64.wrap ((Uj y H:Int)*(W:Int))=(Uj y H:Int)*(W:Int):=by
  rw [s0];exact Z4 _ ⟨Z8,Z8⟩
 have s2:IntKind.i64.wrap ((Uj y H:Int)*(W:Int)+(Uj x W:Int))=(k:Int):=by
  rw [s0,show((Uj y H*W:Nat):Int)+(Uj x W:Int)=(k:Int)by omega];exact Z4 _ ⟨Z8,Z8⟩
 clear s0;have s3:IntKind.i64.wrap ((H:Int)-1)=(H:Int)-1:=Z4 _ ⟨Z8,Z8⟩;have s4:IntKind.i64.wrap ((W:Int)-1)=(W:Int)-1:=Z4 _ ⟨Z8,Z8⟩;have HS:=Z5 s1 (Z9 s2 (Z9 s3 s4));have HH:=Z5 hb0 (Z9 m0 (Z9 M9 hn));clear hcell hk s1 s2 s3 s4 hb0 m0 M9 hn YZ;go_enter func392,ntmps392;go_wp2_with fail;refine R1.mono ?_;clear R1;rintro e w1 ⟨rfl,Y6⟩;have hb1:=HH.out.1.keep Y6 (fun h=>h);have c0:w1.cell? ↑w.heap.size=some ↑W:=hb1.cell 0;have c1:w1.cell? ⟨w.heap.size,1,none⟩=some ↑H:=hb1.cell 1;have c2:w1.cell? ⟨w.heap.size,2,none⟩=some (.slice (some ⟨b,off,none⟩) n c):=hb1.cell 2;have M1:=HH.out.2.1.trans Y6;have k1:w1.cell? ⟨b,off+k,none⟩=some (.int .u8 ((ZJ.getD k 0).toNat:Int)):=(ZV (M1.block b hb (fun h=>h))).trans HH.out.2.2.1;have HM:=Z7 M1;clear hb1 Y6 M1;have p1:(0:Int)<=(k:Int):=Z8;have p2:(k:Int)<(n:Int):=Z8;generalize (ZJ.getD k 0).toNat=px at *;go_upto_region 3 with(fail)
 obtain⟨s1,s2,s3,s4⟩:=HS.out;go_quiet ((go_at_call 388;exact Calls.quiet_of_same (abl _ _ _ WL _)))
 clear s1 s2 s3 s4;go_wp2_with fail;go_ret;exact⟨by rw [HP.out];rfl,HM.out.drewN _⟩
def Vq(f:Nat->UInt8)(n k:Nat):List UInt8:=(Zz n).map fun i=>if i<k then f i else 0
theorem TP(f:Nat->UInt8)(n k:Nat):(Vq f n k).length=n:=by simp [Vq]
theorem abJ(f:Nat->UInt8)(n:Nat):Vq f n 0=ZM n 0:=by
 unfold Vq;refine YU Ze fun i h1 h2=>?_;simp
theorem J4(f:Nat->UInt8)(n:Nat):Vq f n n=(Zz n).map f:=by
 unfold Vq;refine List.map_congr_left fun i hi=>if_pos (List.mem_range.1 hi)
theorem Bc(f:Nat->UInt8)(n k:Nat):(Vq f n k).set k (f k)=Vq f n (k+1):=by
 unfold Vq;refine YU Ze fun i h1 h2=>?_;simp only [WT,XA,Xf];by_cases e:k=i
 ·subst e;simp
 ·rw [if_neg e];by_cases h:i<k
  ·rw [if_pos h,VI]
  ·rw [if_neg h,Xb]
def lQ(a b c d e f:Int):Int:=(a-5*b+20*c+20*d-5*e+f+16)/32
def Dk(a b c d e f:Nat):Nat:=XM (lQ a b c d e f)
theorem Dl(a b c d e f:Nat):Dk a b c d e f<256:=PO _
theorem fJ(w:World)(a b c d e f:Nat)(ha:a<256)(hb:b<256)(hc:c<256)(hd:d<256)(he:e<256)(hf:f<256):
  Calls prog 412 #[.agg #[.int .u8 (a:Int),.int .u8 (b:Int),.int .u8 (c:Int),.int .u8 (d:Int),.int .u8 (e:Int),.int .u8 (f:Int)]] w fun r w'=>r=.returned (.int .u8 ((Dk a b c d e f:Nat):Int))/\Mod ↑ZW w w':=by
 go_enter func412,ntmps412;go_wp2_with fail
 all_goals
  go_ret;refine⟨congrArg (fun z=>Zq (.int .u8 z)) ?_,(Mod.refl _ _).alloc _⟩;unfold Dk XM lQ
  (repeat' split)<;>omega
def F3(W H:Nat)(ZJ:List UInt8)(x y:Int):Nat:=
 Dk (TB W H ZJ (x-2) y).toNat (TB W H ZJ (x-2+1) y).toNat (TB W H ZJ (x-2+2) y).toNat (TB W H ZJ (x-2+3) y).toNat (TB W H ZJ (x-2+4) y).toNat (TB W H ZJ (x-2+5) y).toNat
def wJ(W H:Nat)(ZJ:List UInt8)(x y:Int):Nat:=
 Dk (TB W H ZJ x (y-2)).toNat (TB W H ZJ x (y-2+1)).toNat (TB W H ZJ x (y-2+2)).toNat (TB W H ZJ x (y-2+3)).toNat (TB W H ZJ x (y-2+4)).toNat (TB W H ZJ x (y-2+5)).toNat
theorem dK(f:Nat->UInt8):(Yw (Vq f 6 6)).toArray=#[.int .u8 ((f 0).toNat:Int),.int .u8 ((f 1).toNat:Int),.int .u8 ((f 2).toNat:Int),.int .u8 ((f 3).toNat:Int),.int .u8 ((f 4).toNat:Int),.int .u8 ((f 5).toNat:Int)]:=rfl
theorem rU(f:Nat->UInt8):(Yw (Vq f 6 0)).toArray=#[.int .u8 0,.int .u8 0,.int .u8 0,.int .u8 0,.int .u8 0,.int .u8 0]:=rfl
theorem Ou(f:Nat->UInt8)(n k:Nat):(Yw (Vq f n k)).toArray.setIfInBounds k (.int .u8 ((f k).toNat:Int))=(Yw (Vq f n (k+1))).toArray:=by
 rw [<-Bc];unfold Yw;rw [WU];simp
theorem Ra{w:World}{q n k:Nat}{t:TypeId}{f:Nat->UInt8}(hb:ZI w q t (Yw (Vq f n k)).toArray)(hk:k<n):w.cell? ⟨q,k,none⟩=some (.int .u8 0):=by
 rw [hb.cell,List.getElem?_toArray];unfold Yw Vq;simp [hk]
theorem bQ(w:World)(W H:Nat)(A:Option Addr)(n c:Nat)(ZJ:List UInt8)(h:Yx W H=true)(hn:n=W*H)(YZ:BytesIn w A (W*H) c ZJ)(x y:Int):
  Calls prog 392 #[.agg #[↑W,↑H,.slice A n c],↑x,↑y] w fun e w'=>e=.returned (.int .u8 ((TB W H ZJ x y).toNat:Int))/\Mod ↑ZW w w':=by
 subst hn;exact pAt w W H A c ZJ h YZ x y
def kQ(w:World)(p q:Nat)(pv:Array Value)(f:Nat->UInt8)(i:Value)(wr:World):Prop:=
 ∃k:Nat,k<=6/\i=↑k/\Sat ↑ZW w wr [⟨q,486,(Yw (Vq f 6 k)).toArray⟩,⟨p,56,pv⟩] []
theorem aeI(w:World)(W H:Nat)(A:Option Addr)(c:Nat)(ZJ:List UInt8)(h:Yx W H=true)(YZ:BytesIn w A (W*H) c ZJ)(x y:Int)(hx:-1073741824<=x/\x<=1073741824):
  Calls prog 393 #[.agg #[↑W,↑H,.slice A (W*H) c],↑x,↑y] w fun e w'=>e=.returned (.int .u8 ((F3 W H ZJ x y:Nat):Int))/\Mod ↑ZW w w':=by
 obtain⟨n,hn⟩:=ZL (W*H);have HI:=Z5 h (Z9 YZ hn);rw [<-hn];clear h YZ hn;have h0:=(Sat.nil ↑ZW w)
 obtain⟨hx1,hx2⟩:=hx;go_enter func393,ntmps393;go_wp2_with fail;obtain⟨f,hf⟩:∃f:Nat->UInt8,f=fun(i:Nat)=>TB W H ZJ (x-2+(i:Int)) y:=⟨_,rfl⟩
 have HF:=Z7 hf;clear hf;go_loopw [9] (kQ w w.heap.size (w.heap.size+1) #[↑W,↑H,.slice A n c] f) (fun i _=>6-(intOf i).toNat)
 case atStart=>exact⟨0,Z8,rfl,by rw [rU];exact(by repeat' (first|with_reducible exact h0|with_reducible refine Sat.put ?_ ?_|with_reducible refine Sat.alloc ?_ _ _ ?_|with_reducible rfl|(show(World.heap _).size=_;simp;done)|with_reducible refine Sat.drewN ?_ _|with_reducible refine Sat.drew ?_|exact Tg.here rfl|exact Tg.there (Tg.here rfl)|exact Tg.there (Tg.there (Tg.here rfl))|exact Tg.there (Tg.there (Tg.there (Tg.here rfl)))|exact Tg.there (Tg.there (Tg.there (Tg.there (Tg.here rfl))))))⟩
 case round=>
  obtain⟨k,hk,rfl,HS⟩:=hrel;obtain⟨pc,pf⟩:=(HS.ZX 1 rfl).both;obtain⟨qc,qf⟩:=(HS.ZX 0 rfl).both;have pl:=(HS.ZX 1 rfl).lt;have ql:=(HS.ZX 0 rfl).lt;have HH:=Z7 HS;clear HS;by_cases hlt:k<6
  ·have d1:=Zb ((k:Int)<6);have Co:TB W H ZJ (x-2+(k:Int)) y=f k:=by rw [HF.out]
   have HK:=Z7 Co;clear Co qc qf;go_wp2_with fail;refine YX (bQ _ W H A n c ZJ HI.out.1 HI.out.2.2 (HI.out.2.1.quiet HH.out.mod) _ _) fun w1 Y6=>?_;have XZ:=Sat.after Y6 HH.out;clear Y6 pc pf pl ql;have qf:=(XZ.ZX 0 rfl).frozen;have ql:=(XZ.ZX 0 rfl).lt;have q0:=Ra (XZ.ZX 0 rfl) hlt;have HG:=Z7 XZ;clear XZ;rw [HK.out];go_wp2_with fail;go_roundw
   case rel=>exact⟨k+1,Z8,Zr,HG.out.put (Tg.here (Ou f 6 k))⟩
   case measure=>exact YD
  ·obtain rfl:k=6:=Z8;have hb:=HH.out.ZX 0 rfl;rw [dK]at hb;have q0:wr.cell? ↑(w.heap.size+1)=some (.int .u8 ((f 0).toNat:Int)):=hb.cell 0;have q1:wr.cell? ⟨w.heap.size+1,1,none⟩=some (.int .u8 ((f 1).toNat:Int)):=hb.cell 1;have q2:wr.cell? ⟨w.heap.size+1,2,none⟩=some (.int .u8 ((f 2).toNat:Int)):=hb.cell 2;have q3:wr.cell? ⟨w.heap.size+1,3,none⟩=some (.int .u8 ((f 3).toNat:Int)):=hb.cell 3;have q4:wr.cell? ⟨w.heap.size+1,4,none⟩=some (.int .u8 ((f 4).toNat:Int)):=hb.cell 4;have q5:wr.cell? ⟨w.heap.size+1,5,none⟩=some (.int .u8 ((f 5).toNat:Int)):=hb.cell 5;clear hb pc pf pl qc qf;go_wp2_with fail;refine YX (fJ _ _ _ _ _ _ _ (ZN _) (ZN _) (ZN _) (ZN _) (ZN _) (ZN _)) fun w1 Y6=>?_;have hM:=HH.out.mod.trans Y6;clear Y6 ql q0 q1 q2 q3 q4 q5;go_wp2_with fail;go_ret;exact⟨by rw [HF.out];simp [F3],hM⟩
theorem ah4(w:World)(W H:Nat)(A:Option Addr)(c:Nat)(ZJ:List UInt8)(h:Yx W H=true)(YZ:BytesIn w A (W*H) c ZJ)(x y:Int)(hx:-1073741824<=y/\y<=1073741824):
  Calls prog 394 #[.agg #[↑W,↑H,.slice A (W*H) c],↑x,↑y] w fun e w'=>e=.returned (.int .u8 ((wJ W H ZJ x y:Nat):Int))/\Mod ↑ZW w w':=by
 obtain⟨n,hn⟩:=ZL (W*H);have HI:=Z5 h (Z9 YZ hn);rw [<-hn];clear h YZ hn;have h0:=(Sat.nil ↑ZW w)
 obtain⟨hx1,hx2⟩:=hx;go_enter func394,ntmps394;go_wp2_with fail;obtain⟨f,hf⟩:∃f:Nat->UInt8,f=fun(i:Nat)=>TB W H ZJ x (y-2+(i:Int)):=⟨_,rfl⟩
 have HF:=Z7 hf;clear hf;go_loopw [9] (kQ w w.heap.size (w.heap.size+1) #[↑W,↑H,.slice A n c] f) (fun i _=>6-(intOf i).toNat)
 case atStart=>exact⟨0,Z8,rfl,by rw [rU];exact(by repeat' (first|with_reducible exact h0|with_reducible refine Sat.put ?_ ?_|with_reducible refine Sat.alloc ?_ _ _ ?_|with_reducible rfl|(show(World.heap _).size=_;simp;done)|with_reducible refine Sat.drewN ?_ _|with_reducible refine Sat.drew ?_|exact Tg.here rfl|exact Tg.there (Tg.here rfl)|exact Tg.there (Tg.there (Tg.here rfl))|exact Tg.there (Tg.there (Tg.there (Tg.here rfl)))|exact Tg.there (Tg.there (Tg.there (Tg.there (Tg.here rfl))))))⟩
 case round=>
  obtain⟨k,hk,rfl,HS⟩:=hrel;obtain⟨pc,pf⟩:=(HS.ZX 1 rfl).both;obtain⟨qc,qf⟩:=(HS.ZX 0 rfl).both;have pl:=(HS.ZX 1 rfl).lt;have ql:=(HS.ZX 0 rfl).lt;have HH:=Z7 HS;clear HS;by_cases hlt:k<6
  ·have d1:=Zb ((k:Int)<6);have Co:TB W H ZJ x (y-2+(k:Int))=f k:=by rw [HF.out]
   have HK:=Z7 Co;clear Co qc qf;go_wp2_with fail;refine YX (bQ _ W H A n c ZJ HI.out.1 HI.out.2.2 (HI.out.2.1.quiet HH.out.mod) _ _) fun w1 Y6=>?_;have XZ:=Sat.after Y6 HH.out;clear Y6 pc pf pl ql;have qf:=(XZ.ZX 0 rfl).frozen;have ql:=(XZ.ZX 0 rfl).lt;have q0:=Ra (XZ.ZX 0 rfl) hlt;have HG:=Z7 XZ;clear XZ;rw [HK.out];go_wp2_with fail;go_roundw
   case rel=>exact⟨k+1,Z8,Zr,HG.out.put (Tg.here (Ou f 6 k))⟩
   case measure=>exact YD
  ·obtain rfl:k=6:=Z8;have hb:=HH.out.ZX 0 rfl;rw [dK]at hb;have q0:wr.cell? ↑(w.heap.size+1)=some (.int .u8 ((f 0).toNat:Int)):=hb.cell 0;have q1:wr.cell? ⟨w.heap.size+1,1,none⟩=some (.int .u8 ((f 1).toNat:Int)):=hb.cell 1;have q2:wr.cell? ⟨w.heap.size+1,2,none⟩=some (.int .u8 ((f 2).toNat:Int)):=hb.cell 2;have q3:wr.cell? ⟨w.heap.size+1,3,none⟩=some (.int .u8 ((f 3).toNat:Int)):=hb.cell 3;have q4:wr.cell? ⟨w.heap.size+1,4,none⟩=some (.int .u8 ((f 4).toNat:Int)):=hb.cell 4;have q5:wr.cell? ⟨w.heap.size+1,5,none⟩=some (.int .u8 ((f 5).toNat:Int)):=hb.cell 5;clear hb pc pf pl qc qf;go_wp2_with fail;refine YX (fJ _ _ _ _ _ _ _ (ZN _) (ZN _) (ZN _) (ZN _) (ZN _) (ZN _)) fun w1 Y6=>?_;have hM:=HH.out.mod.trans Y6;clear Y6 ql q0 q1 q2 q3 q4 q5;go_wp2_with fail;go_ret;exact⟨by rw [HF.out];simp [wJ],hM⟩
end Go.Proofs.YthednemlahioeaaGreatDoor
