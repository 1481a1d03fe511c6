/-
  append of one int, or one byte, or of ints that lie elsewhere, onto a row that the call owns.
-/
import Derived.Test.YtnnpoodcdibpiaaGreatDoorB1
namespace Go.Proofs.YtnnpoodcdibpiaaGreatDoor
open Go.RowKit
set_option maxRecDepth 100000
set_option maxHeartbeats 8000000
theorem wpList_app_int{ops:Array Oper}{rest:List Oper}{o:Oper}{a:Act}{Q:Exit->Act->World->Prop}(w:World)(hgd:o.guard=none)(s x:Operand)
  (ho:o.op=.call { callee:=.builtin .append,args:=#[s,x],argTypes:=#[23,23] })
  (B:Nat)(v:Value)(l:List Int)(y:Int)(hs:a.eval s=v)(hx:a.eval x=.slice (some ⟨w.heap.size,0,none⟩) 1 1)(hown:IntsOwn w B v l)(hB:B<=w.heap.size)(hl:l.length<1048576)
  (h:∀v' w',IntsOwn w' B v' (l++[y])->Mod (fun j=>v.ownBlock=some j) w w'->(∀(W:World) (S:Nat->Prop),W.heap.size<=B->Mod S W w->Mod S W w')->(∀g,v'.ownBlock=some g->v.ownBlock=some g\/w.heap.size<=g)->wpList Tryz.prog ops Q rest (a.put o.dst v') w'):
  wpList Tryz.prog ops Q (o :: rest) a (w.alloc (.cells #[.int .i64 y] 3)):=by
 obtain⟨i0,hi0,hz0,hz1,hz2⟩:=info_parts int_info;refine wpList_append_src _ hgd s x 23 ho B 3 i0 _ 1 8 Tryz.underlying23 hi0 hz0 hz1 hz2 rfl (by omega) v l.length (i64s l) hs (own_mod hown ((Mod.refl (fun _=>False) w).alloc _) (fun _ _ h=>h)) (some ⟨w.heap.size,0,none⟩) 1 1 [.int .i64 y] hx (Src.new w 3 [.int .i64 y]) (fun h=>by cases h) (fun u hu=>by rw [List.mem_singleton.1 hu];rfl) (by unfold maxLen;omega) (by omega) (by simp;omega) ?_;intro v' w' h1 h2 h3;have hM:Mod (fun j=>v.ownBlock=some j) w w':=((Mod.refl _ _).alloc _).grown h2 (fun k hk=>.inl hk);refine h v' w' ?_ hM (fun W S hW hS=>hS.into hM (fun i e=>.inr (Nat.le_trans hW (hown.lt i e).1))) ?_
 ·unfold IntsOwn;have e1:(l++[y]).length=l.length+1:=by simp
  have e2:i64s (l++[y])=i64s l++[.int .i64 y]:=by simp [i64s]
  rw [e1,e2];exact h1
 ·intro g hg;rcases h3 with h3|h3
  ·exact .inl (h3▸hg)
  ·rw [h3]at hg;injection hg with hg;exact .inr (by simp at hg;omega)
theorem wpList_app_ints{ops:Array Oper}{rest:List Oper}{o:Oper}{a:Act}{Q:Exit->Act->World->Prop}(w:World)(hgd:o.guard=none)(s x:Operand)
  (ho:o.op=.call { callee:=.builtin .append,args:=#[s,x],argTypes:=#[23,23] })
  (B:Nat)(v:Value)(l:List Int)(A:Option Addr)(m c:Nat)(r:List Int)(hs:a.eval s=v)(hx:a.eval x=.slice A m c)(hown:IntsOwn w B v l)(hin:IntsIn w A m c r)(hB:B<=w.heap.size)(hl:l.length+m<=1048576)
  (h:∀v' w',IntsOwn w' B v' (l++r)->Mod (fun j=>v.ownBlock=some j) w w'->(∀(W:World) (S:Nat->Prop),W.heap.size<=B->Mod S W w->Mod S W w')->(∀g,v'.ownBlock=some g->v.ownBlock=some g\/w.heap.size<=g)->wpList Tryz.prog ops Q rest (a.put o.dst v') w'):
  wpList Tryz.prog ops Q (o :: rest) a w:=by
 obtain⟨i0,hi0,hz0,hz1,hz2⟩:=info_parts int_info;refine wpList_append_src _ hgd s x 23 ho B 3 i0 _ 1 8 Tryz.underlying23 hi0 hz0 hz1 hz2 rfl (by omega) v l.length (i64s l) hs hown A m c (i64s r) hx hin.2.2.1 hin.2.1 (i64s_one r) (by unfold maxLen;omega) (by omega) hB ?_;intro v' w' h1 h2 h3;have hM:Mod (fun j=>v.ownBlock=some j) w w':=(Mod.refl _ _).grown h2 (fun k hk=>.inl hk);refine h v' w' ?_ hM (fun W S hW hS=>hS.into hM (fun i e=>.inr (Nat.le_trans hW (hown.lt i e).1))) ?_
 ·unfold IntsOwn;have e1:(l++r).length=l.length+m:=by simp [hin.1]
  have e2:i64s (l++r)=i64s l++i64s r:=by simp [i64s]
  rw [e1,e2];exact h1
 ·intro g hg;rcases h3 with h3|h3
  ·exact .inl (h3▸hg)
  ·rw [h3]at hg;injection hg with hg;exact .inr (by omega)
theorem step_app_int{ops:Array Oper}{o:Oper}{a:Act}{K:Act->World->Prop}{Q:Exit->Act->World->Prop}{E:Prop}(w:World)(hgd:o.guard=none)(s x:Operand)
  (ho:o.op=.call { callee:=.builtin .append,args:=#[s,x],argTypes:=#[23,23] })
  (B:Nat)(v:Value)(l:List Int)(y:Int)(hs:a.eval s=v)(hx:a.eval x=.slice (some ⟨w.heap.size,0,none⟩) 1 1)(hown:IntsOwn w B v l)(hB:B<=w.heap.size)(hl:l.length<1048576)
  (h:∀v' w',IntsOwn w' B v' (l++[y])->Mod (fun j=>v.ownBlock=some j) w w'->(∀(W:World) (S:Nat->Prop),W.heap.size<=B->Mod S W w->Mod S W w')->(∀g,v'.ownBlock=some g->v.ownBlock=some g\/w.heap.size<=g)->K (a.put o.dst v') w'):
  if Region.wanted o (yielded ops a.tmps)=true then Oper.wp Tryz.prog o a (w.alloc (.cells #[.int .i64 y] 3)) K Q else E:=by
 obtain⟨i0,hi0,hz0,hz1,hz2⟩:=info_parts int_info;refine step_append_src _ hgd s x 23 ho B 3 i0 _ 1 8 Tryz.underlying23 hi0 hz0 hz1 hz2 rfl (by omega) v l.length (i64s l) hs (own_mod hown ((Mod.refl (fun _=>False) w).alloc _) (fun _ _ h=>h)) (some ⟨w.heap.size,0,none⟩) 1 1 [.int .i64 y] hx (Src.new w 3 [.int .i64 y]) (fun h=>by cases h) (fun u hu=>by rw [List.mem_singleton.1 hu];rfl) (by unfold maxLen;omega) (by omega) (by simp;omega) ?_;intro v' w' h1 h2 h3;have hM:Mod (fun j=>v.ownBlock=some j) w w':=((Mod.refl _ _).alloc _).grown h2 (fun k hk=>.inl hk);refine h v' w' ?_ hM (fun W S hW hS=>hS.into hM (fun i e=>.inr (Nat.le_trans hW (hown.lt i e).1))) ?_
 ·unfold IntsOwn;have e1:(l++[y]).length=l.length+1:=by simp
  have e2:i64s (l++[y])=i64s l++[.int .i64 y]:=by simp [i64s]
  rw [e1,e2];exact h1
 ·intro g hg;rcases h3 with h3|h3
  ·exact .inl (h3▸hg)
  ·rw [h3]at hg;injection hg with hg;exact .inr (by simp at hg;omega)
theorem step_app_ints{ops:Array Oper}{o:Oper}{a:Act}{K:Act->World->Prop}{Q:Exit->Act->World->Prop}{E:Prop}(w:World)(hgd:o.guard=none)(s x:Operand)
  (ho:o.op=.call { callee:=.builtin .append,args:=#[s,x],argTypes:=#[23,23] })
  (B:Nat)(v:Value)(l:List Int)(A:Option Addr)(m c:Nat)(r:List Int)(hs:a.eval s=v)(hx:a.eval x=.slice A m c)(hown:IntsOwn w B v l)(hin:IntsIn w A m c r)(hB:B<=w.heap.size)(hl:l.length+m<=1048576)
  (h:∀v' w',IntsOwn w' B v' (l++r)->Mod (fun j=>v.ownBlock=some j) w w'->(∀(W:World) (S:Nat->Prop),W.heap.size<=B->Mod S W w->Mod S W w')->(∀g,v'.ownBlock=some g->v.ownBlock=some g\/w.heap.size<=g)->K (a.put o.dst v') w'):
  if Region.wanted o (yielded ops a.tmps)=true then Oper.wp Tryz.prog o a w K Q else E:=by
 obtain⟨i0,hi0,hz0,hz1,hz2⟩:=info_parts int_info;refine step_append_src _ hgd s x 23 ho B 3 i0 _ 1 8 Tryz.underlying23 hi0 hz0 hz1 hz2 rfl (by omega) v l.length (i64s l) hs hown A m c (i64s r) hx hin.2.2.1 hin.2.1 (i64s_one r) (by unfold maxLen;omega) (by omega) hB ?_;intro v' w' h1 h2 h3;have hM:Mod (fun j=>v.ownBlock=some j) w w':=(Mod.refl _ _).grown h2 (fun k hk=>.inl hk);refine h v' w' ?_ hM (fun W S hW hS=>hS.into hM (fun i e=>.inr (Nat.le_trans hW (hown.lt i e).1))) ?_
 ·unfold IntsOwn;have e1:(l++r).length=l.length+m:=by simp [hin.1]
  have e2:i64s (l++r)=i64s l++i64s r:=by simp [i64s]
  rw [e1,e2];exact h1
 ·intro g hg;rcases h3 with h3|h3
  ·exact .inl (h3▸hg)
  ·rw [h3]at hg;injection hg with hg;exact .inr (by omega)
theorem wpList_app_u8{ops:Array Oper}{rest:List Oper}{o:Oper}{a:Act}{Q:Exit->Act->World->Prop}(w:World)(hgd:o.guard=none)(s x:Operand)
  (ho:o.op=.call { callee:=.builtin .append,args:=#[s,x],argTypes:=#[22,22] })
  (B:Nat)(v:Value)(l:List UInt8)(y:UInt8)(hs:a.eval s=v)(hx:a.eval x=.slice (some ⟨w.heap.size,0,none⟩) 1 1)(hown:Bytes w B v l)(hB:B<=w.heap.size)(hl:l.length<1048576)
  (h:∀v' w',Bytes w' B v' (l++[y])->Mod (fun j=>v.ownBlock=some j) w w'->(∀(W:World) (S:Nat->Prop),W.heap.size<=B->Mod S W w->Mod S W w')->(∀g,v'.ownBlock=some g->v.ownBlock=some g\/w.heap.size<=g)->wpList Tryz.prog ops Q rest (a.put o.dst v') w'):
  wpList Tryz.prog ops Q (o :: rest) a (w.alloc (.cells #[.int .u8 (y.toNat:Int)] 5)):=by
 obtain⟨i0,hi0,hz0,hz1,hz2⟩:=info_parts u8_info;refine wpList_append_src _ hgd s x 22 ho B 5 i0 _ 1 1 Tryz.underlying22 hi0 hz0 hz1 hz2 rfl (by omega) v l.length (u8s l) hs (own_mod hown ((Mod.refl (fun _=>False) w).alloc _) (fun _ _ h=>h)) (some ⟨w.heap.size,0,none⟩) 1 1 [.int .u8 (y.toNat:Int)] hx (Src.new w 5 [.int .u8 (y.toNat:Int)]) (fun h=>by cases h) (fun u hu=>by rw [List.mem_singleton.1 hu];rfl) (by unfold maxLen;omega) (by omega) (by simp;omega) ?_;intro v' w' h1 h2 h3;have hM:Mod (fun j=>v.ownBlock=some j) w w':=((Mod.refl _ _).alloc _).grown h2 (fun k hk=>.inl hk);refine h v' w' ?_ hM (fun W S hW hS=>hS.into hM (fun i e=>.inr (Nat.le_trans hW (hown.lt i e).1))) ?_
 ·unfold Bytes;have e1:(l++[y]).length=l.length+1:=by simp
  have e2:u8s (l++[y])=u8s l++[.int .u8 (y.toNat:Int)]:=by simp [u8s]
  rw [e1,e2];exact h1
 ·intro g hg;rcases h3 with h3|h3
  ·exact .inl (h3▸hg)
  ·rw [h3]at hg;injection hg with hg;exact .inr (by simp at hg;omega)
theorem wpList_app_u8s{ops:Array Oper}{rest:List Oper}{o:Oper}{a:Act}{Q:Exit->Act->World->Prop}(w:World)(hgd:o.guard=none)(s x:Operand)
  (ho:o.op=.call { callee:=.builtin .append,args:=#[s,x],argTypes:=#[22,22] })
  (B:Nat)(v:Value)(l:List UInt8)(A:Option Addr)(m c:Nat)(r:List UInt8)(hs:a.eval s=v)(hx:a.eval x=.slice A m c)(hown:Bytes w B v l)(hin:BytesIn w A m c r)(hB:B<=w.heap.size)(hl:l.length+m<=1048576)
  (h:∀v' w',Bytes w' B v' (l++r)->Mod (fun j=>v.ownBlock=some j) w w'->(∀(W:World) (S:Nat->Prop),W.heap.size<=B->Mod S W w->Mod S W w')->(∀g,v'.ownBlock=some g->v.ownBlock=some g\/w.heap.size<=g)->wpList Tryz.prog ops Q rest (a.put o.dst v') w'):
  wpList Tryz.prog ops Q (o :: rest) a w:=by
 obtain⟨i0,hi0,hz0,hz1,hz2⟩:=info_parts u8_info;refine wpList_append_src _ hgd s x 22 ho B 5 i0 _ 1 1 Tryz.underlying22 hi0 hz0 hz1 hz2 rfl (by omega) v l.length (u8s l) hs hown A m c (u8s r) hx hin.2.2.1 hin.2.1 (u8s_one r) (by unfold maxLen;omega) (by omega) hB ?_;intro v' w' h1 h2 h3;have hM:Mod (fun j=>v.ownBlock=some j) w w':=(Mod.refl _ _).grown h2 (fun k hk=>.inl hk);refine h v' w' ?_ hM (fun W S hW hS=>hS.into hM (fun i e=>.inr (Nat.le_trans hW (hown.lt i e).1))) ?_
 ·unfold Bytes;have e1:(l++r).length=l.length+m:=by simp [hin.1]
  have e2:u8s (l++r)=u8s l++u8s r:=by simp [u8s]
  rw [e1,e2];exact h1
 ·intro g hg;rcases h3 with h3|h3
  ·exact .inl (h3▸hg)
  ·rw [h3]at hg;injection hg with hg;exact .inr (by omega)
theorem step_app_u8{ops:Array Oper}{o:Oper}{a:Act}{K:Act->World->Prop}{Q:Exit->Act->World->Prop}{E:Prop}(w:World)(hgd:o.guard=none)(s x:Operand)
  (ho:o.op=.call { callee:=.builtin .append,args:=#[s,x],argTypes:=#[22,22] })
  (B:Nat)(v:Value)(l:List UInt8)(y:UInt8)(hs:a.eval s=v)(hx:a.eval x=.slice (some ⟨w.heap.size,0,none⟩) 1 1)(hown:Bytes w B v l)(hB:B<=w.heap.size)(hl:l.length<1048576)
  (h:∀v' w',Bytes w' B v' (l++[y])->Mod (fun j=>v.ownBlock=some j) w w'->(∀(W:World) (S:Nat->Prop),W.heap.size<=B->Mod S W w->Mod S W w')->(∀g,v'.ownBlock=some g->v.ownBlock=some g\/w.heap.size<=g)->K (a.put o.dst v') w'):
  if Region.wanted o (yielded ops a.tmps)=true then Oper.wp Tryz.prog o a (w.alloc (.cells #[.int .u8 (y.toNat:Int)] 5)) K Q else E:=by
 obtain⟨i0,hi0,hz0,hz1,hz2⟩:=info_parts u8_info;refine step_append_src _ hgd s x 22 ho B 5 i0 _ 1 1 Tryz.underlying22 hi0 hz0 hz1 hz2 rfl (by omega) v l.length (u8s l) hs (own_mod hown ((Mod.refl (fun _=>False) w).alloc _) (fun _ _ h=>h)) (some ⟨w.heap.size,0,none⟩) 1 1 [.int .u8 (y.toNat:Int)] hx (Src.new w 5 [.int .u8 (y.toNat:Int)]) (fun h=>by cases h) (fun u hu=>by rw [List.mem_singleton.1 hu];rfl) (by unfold maxLen;omega) (by omega) (by simp;omega) ?_;intro v' w' h1 h2 h3;have hM:Mod (fun j=>v.ownBlock=some j) w w':=((Mod.refl _ _).alloc _).grown h2 (fun k hk=>.inl hk);refine h v' w' ?_ hM (fun W S hW hS=>hS.into hM (fun i e=>.inr (Nat.le_trans hW (hown.lt i e).1))) ?_
 ·unfold Bytes;have e1:(l++[y]).length=l.length+1:=by simp
  have e2:u8s (l++[y])=u8s l++[.int .u8 (y.toNat:Int)]:=by simp [u8s]
  rw [e1,e2];exact h1
 ·intro g hg;rcases h3 with h3|h3
  ·exact .inl (h3▸hg)
  ·rw [h3]at hg;injection hg with hg;exact .inr (by simp at hg;omega)
theorem step_app_u8s{ops:Array Oper}{o:Oper}{a:Act}{K:Act->World->Prop}{Q:Exit->Act->World->Prop}{E:Prop}(w:World)(hgd:o.guard=none)(s x:Operand)
  (ho:o.op=.call { callee:=.builtin .append,args:=#[s,x],argTypes:=#[22,22] })
  (B:Nat)(v:Value)(l:List UInt8)(A:Option Addr)(m c:Nat)(r:List UInt8)(hs:a.eval s=v)(hx:a.eval x=.slice A m c)(hown:Bytes w B v l)(hin:BytesIn w A m c r)(hB:B<=w.heap.size)(hl:l.length+m<=1048576)
  (h:∀v' w',Bytes w' B v' (l++r)->Mod (fun j=>v.ownBlock=some j) w w'->(∀(W:World) (S:Nat->Prop),W.heap.size<=B->Mod S W w->Mod S W w')->(∀g,v'.ownBlock=some g->v.ownBlock=some g\/w.heap.size<=g)->K (a.put o.dst v') w'):
  if Region.wanted o (yielded ops a.tmps)=true then Oper.wp Tryz.prog o a w K Q else E:=by
 obtain⟨i0,hi0,hz0,hz1,hz2⟩:=info_parts u8_info;refine step_append_src _ hgd s x 22 ho B 5 i0 _ 1 1 Tryz.underlying22 hi0 hz0 hz1 hz2 rfl (by omega) v l.length (u8s l) hs hown A m c (u8s r) hx hin.2.2.1 hin.2.1 (u8s_one r) (by unfold maxLen;omega) (by omega) hB ?_;intro v' w' h1 h2 h3;have hM:Mod (fun j=>v.ownBlock=some j) w w':=(Mod.refl _ _).grown h2 (fun k hk=>.inl hk);refine h v' w' ?_ hM (fun W S hW hS=>hS.into hM (fun i e=>.inr (Nat.le_trans hW (hown.lt i e).1))) ?_
 ·unfold Bytes;have e1:(l++r).length=l.length+m:=by simp [hin.1]
  have e2:u8s (l++r)=u8s l++u8s r:=by simp [u8s]
  rw [e1,e2];exact h1
 ·intro g hg;rcases h3 with h3|h3
  ·exact .inl (h3▸hg)
  ·rw [h3]at hg;injection hg with hg;exact .inr (by omega)
theorem IntsOwn.whole{w:World}{B g:Nat}{l:List Int}(hB:B<=g)(h:Blk w g 3 (i64s l).toArray)(hl:l.length<=maxLen):IntsOwn w B (.slice (some ⟨g,0,none⟩) l.length l.length) l:=
 ⟨by simp [i64s],.inr ⟨g,l.length,_,rfl,hB,h,Nat.le_refl _,hl,by simp [i64s],by rw [Nat.mul_one];exact List.take_of_length_le (by simp [i64s])⟩⟩
theorem IntsOwn.cap{w:World}{B:Nat}{A:Option Addr}{n c:Nat}{l:List Int}(h:IntsOwn w B (.slice A n c) l):n<=c:=by
 rcases h.2 with⟨hv,_⟩|⟨g,cap,cur,hv,_,_,h1,_⟩
 ·injection hv with _ h2 h3;omega
 ·injection hv with _ h2 h3;omega
theorem IntsOwn.mod{S:Nat->Prop}{w w':World}{B:Nat}{v:Value}{l:List Int}(h:IntsOwn w B v l)(hm:Mod S w w')(hS:∀g,v.ownBlock=some g->¬S g):IntsOwn w' B v l:=own_mod h hm hS
theorem IntsOwn.quiet{w w':World}{B:Nat}{v:Value}{l:List Int}(h:IntsOwn w B v l)(hm:Mod (fun _=>False) w w'):IntsOwn w' B v l:=own_mod h hm (fun _ _ h=>h)
theorem Bytes.mod{S:Nat->Prop}{w w':World}{B:Nat}{v:Value}{l:List UInt8}(h:Bytes w B v l)(hm:Mod S w w')(hS:∀g,v.ownBlock=some g->¬S g):Bytes w' B v l:=own_mod h hm hS
theorem Bytes.quiet{w w':World}{B:Nat}{v:Value}{l:List UInt8}(h:Bytes w B v l)(hm:Mod (fun _=>False) w w'):Bytes w' B v l:=own_mod h hm (fun _ _ h=>h)
theorem Bytes.cap{w:World}{B:Nat}{A:Option Addr}{n c:Nat}{l:List UInt8}(h:Bytes w B (.slice A n c) l):n<=c:=by
 rcases h.2 with⟨hv,_⟩|⟨g,cap,cur,hv,_,_,h1,_⟩
 ·injection hv with _ h2 h3;omega
 ·injection hv with _ h2 h3;omega
theorem IntsOwn.nil(w:World)(B:Nat):IntsOwn w B (.slice none 0 0) []:=World.ownsRow_nil _ _ _ _
theorem Bytes.nil(w:World)(B:Nat):Bytes w B (.slice none 0 0) []:=World.ownsRow_nil _ _ _ _
theorem madeU8(n:Nat):(madeCells (Value.cells (.int .u8 0)) n).toList=u8s (List.replicate n 0):=by
 apply List.ext_getElem
 ·simp [size_madeCells,u8s,Value.cells]
 ·intro i h1 h2;simp [madeCells,u8s,Value.cells,Nat.mod_one]
theorem madeInt(n:Nat):(madeCells (Value.cells (.int .i64 0)) n).toList=i64s (List.replicate n 0):=by
 apply List.ext_getElem
 ·simp [size_madeCells,i64s,Value.cells]
 ·intro i h1 h2;simp [madeCells,i64s,Value.cells,Nat.mod_one]
theorem wpList_mk_u8(w:World){ops:Array Oper}{rest:List Oper}{o:Oper}{a:Act}{Q:Exit->Act->World->Prop}(hg:o.guard=none)(l c:Operand)(hop:o.op=Op.makeSlice 22 l c)
  (n:Nat)(hl:a.eval l=.int .i64 (n:Int))(hc:a.eval c=.int .i64 (n:Int))(hn:n<=16777216)
  (hK:∀w',Blk w' w.heap.size 5 (u8s (List.replicate n 0)).toArray->Mod (fun _=>False) w w'->wpList Tryz.prog ops Q rest (a.put o.dst (.slice (some ⟨w.heap.size,0,none⟩) n n)) w'):wpList Tryz.prog ops Q (o :: rest) a w:=by
 obtain⟨i0,hi0,hz0,hz1,hz2⟩:=info_parts u8_info;refine wpList_make_full _ hg l c _ hop w.heap.size 5 i0 (.int .u8 0) 1 Tryz.underlying22 hi0 hz0 hz1 _ _ _ _ n hl hc rfl rfl (by rw [hz2];omega) (by unfold maxLen;omega) (Nat.le_refl _) ?_;intro w' h1 h2;have h3:=(own_whole h1).1;rw [Nat.mul_one,madeU8]at h3;exact hK w' h3 ((Mod.refl _ _).grown h2 (fun k hk=>by cases hk))
theorem wpList_mk_int(w:World){ops:Array Oper}{rest:List Oper}{o:Oper}{a:Act}{Q:Exit->Act->World->Prop}(hg:o.guard=none)(l c:Operand)(hop:o.op=Op.makeSlice 23 l c)
  (n:Nat)(hl:a.eval l=.int .i64 (n:Int))(hc:a.eval c=.int .i64 (n:Int))(hn:n<=16777216)
  (hK:∀w',Blk w' w.heap.size 3 (i64s (List.replicate n 0)).toArray->Mod (fun _=>False) w w'->wpList Tryz.prog ops Q rest (a.put o.dst (.slice (some ⟨w.heap.size,0,none⟩) n n)) w'):wpList Tryz.prog ops Q (o :: rest) a w:=by
 obtain⟨i0,hi0,hz0,hz1,hz2⟩:=info_parts int_info;refine wpList_make_full _ hg l c _ hop w.heap.size 3 i0 (.int .i64 0) 1 Tryz.underlying23 hi0 hz0 hz1 _ _ _ _ n hl hc rfl rfl (by rw [hz2];omega) (by unfold maxLen;omega) (Nat.le_refl _) ?_;intro w' h1 h2;have h3:=(own_whole h1).1;rw [Nat.mul_one,madeInt]at h3;exact hK w' h3 ((Mod.refl _ _).grown h2 (fun k hk=>by cases hk))
theorem wpList_mk_int0(w:World){ops:Array Oper}{rest:List Oper}{o:Oper}{a:Act}{Q:Exit->Act->World->Prop}(hg:o.guard=none)(l c:Operand)(hop:o.op=Op.makeSlice 23 l c)
  (n:Nat)(hl:a.eval l=.int .i64 0)(hc:a.eval c=.int .i64 (n:Int))(hn:n<=16777216)
  (hK:∀w',IntsOwn w' w.heap.size (.slice (some ⟨w.heap.size,0,none⟩) 0 n) []->Mod (fun _=>False) w w'->wpList Tryz.prog ops Q rest (a.put o.dst (.slice (some ⟨w.heap.size,0,none⟩) 0 n)) w'):wpList Tryz.prog ops Q (o :: rest) a w:=by
 obtain⟨i0,hi0,hz0,hz1,hz2⟩:=info_parts int_info;refine wpList_make_own _ hg l c _ hop w.heap.size 3 i0 (.int .i64 0) 1 Tryz.underlying23 hi0 hz0 hz1 _ _ _ n hl hc rfl (by rw [hz2];omega) (by unfold maxLen;omega) (Nat.le_refl _) ?_;intro w' h1 h2;exact hK w' h1 ((Mod.refl _ _).grown h2 (fun k hk=>by cases hk))
def clipN(v:Int):Nat:=if v<0 then 0 else if 255<v then 255 else v.toNat
theorem clipN_lt(v:Int):clipN v<256:=by unfold clipN;split;omega;split<;>omega
theorem clip_any(w:World)(v:Int)(hv:-9223372036854775808<=v/\v<=9223372036854775807):Calls Tryz.prog 400 #[.int .i64 v] w fun e w'=>e=.returned (.int .u8 ((clipN v:Nat):Int))/\w=w':=by
 unfold clipN;by_cases h1:v<0
 ·rw [if_pos h1];have e1:max v 0=0:=by omega
  go_enter Tryz.func400,Tryz.ntmps400;go_wp2_with fail;go_ret;exact⟨rfl,rfl⟩
 ·rw [if_neg h1];by_cases h2:255<v
  ·rw [if_pos h2];have e1:max v 0=v:=by omega
   have e2:min v 255=255:=by omega
   go_enter Tryz.func400,Tryz.ntmps400;go_wp2_with fail;go_ret;exact⟨rfl,rfl⟩
  ·rw [if_neg h2];have e1:max v 0=v:=by omega
   have e2:min v 255=v:=by omega
   have e3:v % 256=((v.toNat:Nat):Int):=by omega
   go_enter Tryz.func400,Tryz.ntmps400;go_wp2_with fail;go_ret;exact⟨rfl,rfl⟩
def clipAt(g:List UInt8)(r:List Int)(i:Nat):Nat:=clipN (((g.getD i 0).toNat:Int)+min (max (r.getD i 0) (-255)) 255)
def cpL(g:List UInt8)(r:List Int)(k:Nat):List UInt8:=(List.range g.length).map fun i=>if i<k then UInt8.ofNat (clipAt g r i)else 0
def clipL(g:List UInt8)(r:List Int):List UInt8:=cpL g r g.length
theorem cpL_length(g:List UInt8)(r:List Int)(k:Nat):(cpL g r k).length=g.length:=by simp [cpL]
theorem cpL_zero(g:List UInt8)(r:List Int):cpL g r 0=List.replicate g.length 0:=by
 unfold cpL;apply List.ext_getElem
 ·simp
 ·intro i h1 h2;simp
theorem cpL_set(g:List UInt8)(r:List Int)(k:Nat):(cpL g r k).set k (UInt8.ofNat (clipAt g r k))=cpL g r (k+1):=by
 unfold cpL;apply List.ext_getElem
 ·simp
 ·intro i h1 h2;rw [List.getElem_set];simp only [List.getElem_map,List.getElem_range];by_cases e:k=i
  ·subst e;rw [if_pos rfl,if_pos (by omega)]
  ·rw [if_neg e];by_cases e2:i<k
   ·rw [if_pos e2,if_pos (by omega)]
   ·rw [if_neg e2,if_neg (by omega)]
theorem made_u8(n:Nat):(madeCells (Value.cells (.int .u8 0)) n).toList=u8s (List.replicate n 0):=by
 apply List.ext_getElem
 ·simp [size_madeCells,u8s]
 ·intro i h1 h2;simp [madeCells,u8s,Value.cells,Nat.mod_one]
theorem u8s_set(l:List UInt8)(k v:Nat)(hv:v<256):u8s (l.set k (UInt8.ofNat v))=(u8s l).set k (.int .u8 (v:Int)):=by
 have e:(UInt8.ofNat v).toNat=v:=by rw [UInt8.toNat_ofNat'];omega
 simp [u8s,List.map_set,e]
def ClipRel(w4:World)(ob:Nat)(g:List UInt8)(r:List Int)(i:Value)(wr:World):Prop:=
 ∃k:Nat,k<=g.length/\i=.int .i64 k/\Blk wr ob 5 (u8s (cpL g r k)).toArray/\Mod (·=ob) w4 wr
theorem BytesIn.place{w:World}{A:Option Addr}{n c:Nat}{l:List UInt8}(h:BytesIn w A n c l)(h0:0<n):∃b off,A=some ⟨b,off,none⟩/\b<w.heap.size/\∀i<n,w.cell? ⟨b,off+i,none⟩=some (.int .u8 ((l.getD i 0).toNat:Int)):=by
 obtain⟨h1,h2,h3,h4⟩:=h;cases A with
 | none=>have:=h3.2.1 rfl;omega
 | some ad=>
  obtain⟨b,off,spot⟩:=ad;have hl:0<(u8s l).length:=by rw [u8s_length];omega
  have hc:=h3.2.2 _ rfl 0 _ (List.getElem?_eq_getElem hl);have hspot:spot=none:=by simpa [Addr.add]using World.cell?_spot hc
  subst hspot;refine⟨b,off,rfl,h4 h0 _ rfl,fun i hi=>?_⟩;have h5:=h3.2.2 _ rfl i (.int .u8 ((l.getD i 0).toNat:Int)) (by simp [u8s,show i<l.length by omega]);rwa [addr_add']at h5
theorem clipAll(w:World)(A:Option Addr)(n c:Nat)(g:List UInt8)(A2:Option Addr)(c2:Nat)(r:List Int)(hin:BytesIn w A n c g)(hin2:IntsIn w A2 n c2 r)(hn0:0<n)(hn:n<=1048576):
  Calls Tryz.prog 367 #[.slice A n c,.slice A2 n c2] w fun e w'=>∃v,e=.returned v/\Bytes w' w.heap.size v (clipL g r)/\Mod (fun _=>False) w w':=by
 obtain⟨i0,hi0,hz0,hz1,hz2⟩:=info_parts u8_info;obtain rfl:g.length=n:=hin.1;obtain⟨b,off,rfl,hb,hc⟩:=hin.place hn0;obtain⟨b2,off2,rfl,hb2,hc2⟩:=hin2.place hn0;have HC:=Lib.hid (And.intro hc hc2);have x1:i0.bytes*g.length<=281474976710656:=by rw [hz2];omega
 have x2:g.length<=maxLen:=by unfold maxLen;omega
 have HX:=Lib.hid (And.intro x1 x2);clear hc hc2 hin hin2 x1 x2;go_enter Tryz.func367,Tryz.ntmps367;go_upto_region 4 with(with_reducible refine wpList_make_full _ rfl (.tmp 14) (.tmp 14) _ rfl w.heap.size 5 i0 (.int .u8 0) 1 Tryz.underlying22 hi0 hz0 hz1 _ _ _ _ g.length rfl rfl rfl rfl HX.out.1 HX.out.2 (Nat.le_refl _) ?_;intro w4 hown4 hg4;have HO:=Lib.hid (And.intro hown4 hg4);clear hown4 hg4)
 have m4:Mod (fun _=>False) w w4:=(Mod.refl _ _).grown HO.out.2 (fun k hk=>by cases hk);obtain⟨hob,_⟩:=own_whole HO.out.1;rw [Nat.mul_one,made_u8,<-cpL_zero g r]at hob;obtain⟨ob,hobe⟩:∃ob,ob=w.heap.size:=⟨_,rfl⟩
 rw [<-hobe]at hob ⊢;have how:w.heap.size<=ob:=by omega
 have hbo:¬b=ob:=by omega
 have hbo2:¬b2=ob:=by omega
 clear HO hobe;go_wp2_with fail;go_loopw [18] (ClipRel w4 ob g r) (fun i _=>g.length-(intOf i).toNat)
 case atStart=>exact⟨0,by omega,rfl,hob,Mod.refl _ _⟩
 case round=>
  clear hob;obtain⟨k,hk,rfl,hob,hM⟩:=hrel;by_cases hlt:k<g.length
  ·have hMw:Mod (·=ob) w wr:=(m4.mono (fun _ h=>h.elim)).trans hM;have hck:wr.cell? ⟨b,off+k,none⟩=some (.int .u8 ((g.getD k 0).toNat:Int)):=(World.cell?_of_block (hMw.block b hb hbo)).trans (HC.out.1 k hlt);have hck2:wr.cell? ⟨b2,off2+k,none⟩=some (.int .i64 (r.getD k 0)):=(World.cell?_of_block (hMw.block b2 hb2 hbo2)).trans (HC.out.2 k hlt);have hx:(g.getD k 0).toNat<256:=UInt8.toNat_lt _;have HFA:Hid (clipAt g r k=clipN (((g.getD k 0).toNat:Int)+min (max (r.getD k 0) (-255)) 255)):=rfl;generalize (g.getD k 0).toNat=x at *;generalize r.getD k 0=y at *;have i1:(0:Int)<=(k:Int):=by omega
   have i2:(k:Int)<(g.length:Int):=by omega
   obtain⟨z,hz⟩:∃z,z=min (max y (-255)) 255:=⟨_,rfl⟩
   have hzb:-255<=z/\z<=255:=by omega
   have hoc:wr.cell? ⟨ob,k,none⟩=some (.int .u8 (((cpL g r k).getD k 0).toNat:Int)):=by rw [hob.cell k];simp [u8s,cpL_length,hlt]
   have hof:=hob.frozen k;rw [<-hz]at HFA;have HZ:=Lib.hid hz;clear hz hMw;have HB:=Lib.hid (And.intro hob hM);have hcl:=clipN_lt (x+z);clear hob hM;go_wp2_with fail
   all_goals
    refine(clip_any _ _ (by omega)).mono ?_;rintro e w5 ⟨rfl,rfl⟩
    first
     | rw [show clipN ((x:Int)+255)=clipN (x+z)by congr 2;have:=HZ.out;omega]
     | rw [show clipN ((x:Int) + -255)=clipN (x+z)by congr 2;have:=HZ.out;omega]
     | rw [show clipN ((x:Int)+y)=clipN (x+z)by congr 2;have:=HZ.out;omega]
    rw [<-HFA.out]at hcl ⊢;generalize ((cpL g r k).getD k 0).toNat=old at *;go_wp2_with fail;go_roundw
    case rel=>
     obtain⟨hob,hM⟩:=HB.out;exact⟨k+1,by omega,by go_num,hob.put (by rw [<-cpL_set,u8s_set _ _ _ hcl];simp),hM.setCell (p:=⟨ob,k,none⟩) (.inl rfl) _⟩
    case measure=>simp [intOf];omega
  ·obtain rfl:k=g.length:=by omega
   have HB:=Lib.hid (And.intro hob hM);clear hob hM;go_wp2_with fail;go_ret;obtain⟨hob,hM⟩:=HB.out;have hl:(clipL g r).length=g.length:=cpL_length g r _;have:=Bytes.of_blk (B:=w.heap.size) how (l:=clipL g r) hob (by rw [hl];exact HX.out.2);rw [hl]at this;exact⟨_,rfl,this,m4.into hM (fun i e=>.inr (by omega))⟩
def sidesB(W H:Nat):Bool:=decide (1<=W/\W<=4096/\1<=H/\H<=4096)
theorem pSides(w:World)(W H:Nat):Calls Tryz.prog 64 #[.int .i64 (W:Int),.int .i64 (H:Int)] w fun e w'=>e=.returned (.bool (sidesB W H))/\w=w':=by
 unfold sidesB;by_cases h1:1<=W
 ·have d1:decide (1<=(W:Int))=true:=decide_eq_true (by omega);by_cases h2:W<=4096
  ·have d2:decide ((W:Int)<=4096)=true:=decide_eq_true (by omega);by_cases h3:1<=H
   ·have d3:decide (1<=(H:Int))=true:=decide_eq_true (by omega);by_cases h4:H<=4096
    ·have d4:decide ((H:Int)<=4096)=true:=decide_eq_true (by omega);rw [decide_eq_true (show 1<=W/\W<=4096/\1<=H/\H<=4096 from⟨h1,h2,h3,h4⟩)];go_enter Tryz.func64,Tryz.ntmps64;go_wp2_with fail;go_ret;exact⟨rfl,rfl⟩
    ·have d4:decide ((H:Int)<=4096)=false:=decide_eq_false (by omega);rw [decide_eq_false (show ¬(1<=W/\W<=4096/\1<=H/\H<=4096)by omega)];go_enter Tryz.func64,Tryz.ntmps64;go_wp2_with fail;go_ret;exact⟨rfl,rfl⟩
   ·have d3:decide (1<=(H:Int))=false:=decide_eq_false (by omega);rw [decide_eq_false (show ¬(1<=W/\W<=4096/\1<=H/\H<=4096)by omega)];go_enter Tryz.func64,Tryz.ntmps64;go_wp2_with fail;go_ret;exact⟨rfl,rfl⟩
  ·have d2:decide ((W:Int)<=4096)=false:=decide_eq_false (by omega);rw [decide_eq_false (show ¬(1<=W/\W<=4096/\1<=H/\H<=4096)by omega)];go_enter Tryz.func64,Tryz.ntmps64;go_wp2_with fail;go_ret;exact⟨rfl,rfl⟩
 ·have d1:decide (1<=(W:Int))=false:=decide_eq_false (by omega);rw [decide_eq_false (show ¬(1<=W/\W<=4096/\1<=H/\H<=4096)by omega)];go_enter Tryz.func64,Tryz.ntmps64;go_wp2_with fail;go_ret;exact⟨rfl,rfl⟩
theorem pSides_yes(w:World)(W H:Nat)(h:sidesB W H=true):Calls Tryz.prog 64 #[.int .i64 (W:Int),.int .i64 (H:Int)] w fun e w'=>e=.returned (.bool true)/\w=w':=h▸pSides w W H
theorem area_le{W H:Nat}(h:sidesB W H=true):W*H<=16777216/\1<=W/\W<=4096/\1<=H/\H<=4096/\1<=W*H:=by
 unfold sidesB at h;rw [decide_eq_true_eq]at h;obtain⟨h1,h2,h3,h4⟩:=h;have:=Nat.mul_le_mul h2 h4;have:=Nat.mul_le_mul h1 h3;omega
/-- A right plane is right. -/
theorem pRight(w:World)(W H:Nat)(A:Option Addr)(c:Nat)(h:sidesB W H=true):Calls Tryz.prog 175 #[.agg #[.int .i64 (W:Int),.int .i64 (H:Int),.slice A (W*H) c]] w fun e w'=>e=.returned (.bool true)/\Mod (fun _=>False) w w':=by
 have ha:=area_le h;obtain⟨n,hn⟩:∃n,n=W*H:=⟨_,rfl⟩
 rw [<-hn]at ha ⊢;have e1:wrap64 ((W:Int)*(H:Int))=(n:Int):=by
  rw [show(W:Int)*(H:Int)=(n:Int)by rw [hn];simp];exact IntWalk.wrap64_in _ ⟨by omega,by omega⟩
 have HE:=Lib.hid e1;clear hn e1;go_enter Tryz.func175,Tryz.ntmps175;go_wp2_with fail;refine(pSides_yes _ W H h).mono ?_;rintro e w1 ⟨rfl,rfl⟩;have e1:=HE.out;go_wp2_with fail;go_ret;exact⟨rfl,(Mod.refl _ _).alloc _⟩
def near(v:Int)(m:Nat):Nat:=if v<0 then 0 else if(m:Int)-1<v then m-1 else v.toNat
theorem near_lt(v:Int)(m:Nat)(h:1<=m):near v m<m:=by unfold near;split<;>(try split)<;>omega
theorem pNear(w:World)(v:Int)(m:Nat)(h:1<=m):Calls Tryz.prog 380 #[.int .i64 v,.int .i64 0,.int .i64 ((m:Int)-1)] w fun e w'=>e=.returned (.int .i64 ((near v m:Nat):Int))/\w=w':=by
 unfold near;by_cases h1:v<0
 ·have h2:¬(m:Int)-1<0:=by omega
  have d1:¬(0:Int)<v:=by omega
  rw [if_pos h1];have h3:(0:Int)<(m:Int)-1\/(m:Int)-1=0:=by omega
  rcases h3 with h3|h3
  ·go_enter Tryz.func380,Tryz.ntmps380;go_wp2_with fail
   all_goals(try go_ret)
   all_goals first|exact⟨rfl,rfl⟩|(exact⟨congrArg (fun z=>Ending.returned (.int .i64 z)) (by omega),rfl⟩)|omega
  ·rw [h3];go_enter Tryz.func380,Tryz.ntmps380;go_wp2_with fail
   all_goals(try go_ret)
   all_goals first|exact⟨rfl,rfl⟩|(exact⟨congrArg (fun z=>Ending.returned (.int .i64 z)) (by omega),rfl⟩)|omega
 ·rw [if_neg h1];by_cases h2:(m:Int)-1<v
  ·rw [if_pos h2];go_enter Tryz.func380,Tryz.ntmps380;go_wp2_with fail
   all_goals(try go_ret)
   all_goals first|exact⟨rfl,rfl⟩|(exact⟨congrArg (fun z=>Ending.returned (.int .i64 z)) (by omega),rfl⟩)|omega
  ·rw [if_neg h2];go_enter Tryz.func380,Tryz.ntmps380;go_wp2_with fail
   all_goals(try go_ret)
   all_goals first|exact⟨rfl,rfl⟩|(exact⟨congrArg (fun z=>Ending.returned (.int .i64 z)) (by omega),rfl⟩)|omega
def patL(W H:Nat)(pix:List UInt8)(x y:Int):UInt8:=pix.getD (near y H*W+near x W) 0
theorem near_area(W H:Nat)(x y:Int)(h:sidesB W H=true):near y H*W+near x W<W*H:=by
 obtain⟨_,h1,_,h3,_⟩:=area_le h;have a:=near_lt x W h1;have b:=near_lt y H h3;have c:(near y H+1)*W<=H*W:=Nat.mul_le_mul_right W b;rw [Nat.add_mul,Nat.mul_comm H W]at c;omega
theorem quiet_near(w:World)(v:Int)(m:Nat)(h:1<=m)(n:Nat):Calls Tryz.prog 380 #[.int .i64 v,.int .i64 0,.int .i64 ((m:Int)-1)] (w.drewN n) fun e w'=>e=.returned (.int .i64 ((near v m:Nat):Int))/\w'=w.drewN n:=(pNear _ v m h).mono fun _ _ ⟨a,b⟩=>⟨a,b.symm⟩
theorem pAt(w:World)(W H:Nat)(A:Option Addr)(c:Nat)(pix:List UInt8)(h:sidesB W H=true)(hin:BytesIn w A (W*H) c pix)(x y:Int):
  Calls Tryz.prog 384 #[.agg #[.int .i64 (W:Int),.int .i64 (H:Int),.slice A (W*H) c],.int .i64 x,.int .i64 y] w fun e w'=>e=.returned (.int .u8 ((patL W H pix x y).toNat:Int))/\Mod (fun _=>False) w w':=by
 obtain⟨ha,h1,h2,h3,h4,h5⟩:=area_le h;have hna:=near_area W H x y h;have hb0:Blk (w.alloc (.cells #[.int .i64 (W:Int),.int .i64 (H:Int),.slice A (W*H) c] 108)) w.heap.size 108 #[.int .i64 (W:Int),.int .i64 (H:Int),.slice A (W*H) c]:=Blk.new _ _ _;have m0:Mod (fun _=>False) w (w.alloc (.cells #[.int .i64 (W:Int),.int .i64 (H:Int),.slice A (W*H) c] 108)):=(Mod.refl _ _).alloc _;have R1:=pRight (w.alloc (.cells #[.int .i64 (W:Int),.int .i64 (H:Int),.slice A (W*H) c] 108)) W H A c h;obtain⟨b,off,hA,hb,hcell⟩:=hin.place (by omega);subst hA;obtain⟨n,hn⟩:∃n,n=W*H:=⟨_,rfl⟩
 rw [<-hn]at hb0 m0 R1 hcell hna ha h5 ⊢;obtain⟨k,hk⟩:∃k,k=near y H*W+near x W:=⟨_,rfl⟩
 rw [<-hk]at hna;have hck:=hcell k hna;have HP:Hid ((patL W H pix x y).toNat=(pix.getD k 0).toNat):=by show _=_;rw [hk];rfl
 have s0:(near y H:Int)*(W:Int)=((near y H*W:Nat):Int):=by simp
 have s1:IntKind.i64.wrap ((near y H:Int)*(W:Int))=(near y H:Int)*(W:Int):=by
  rw [s0];exact IntWalk.i64_in _ ⟨by omega,by omega⟩
 have s2:IntKind.i64.wrap ((near y H:Int)*(W:Int)+(near x W:Int))=(k:Int):=by
  rw [s0,show((near y H*W:Nat):Int)+(near x W:Int)=(k:Int)by omega];exact IntWalk.i64_in _ ⟨by omega,by omega⟩
 clear s0;have s3:IntKind.i64.wrap ((H:Int)-1)=(H:Int)-1:=IntWalk.i64_in _ ⟨by omega,by omega⟩;have s4:IntKind.i64.wrap ((W:Int)-1)=(W:Int)-1:=IntWalk.i64_in _ ⟨by omega,by omega⟩;have HS:=Lib.hid (And.intro s1 (And.intro s2 (And.intro s3 s4)));have HH:=Lib.hid (And.intro hb0 (And.intro m0 (And.intro hck hn)));clear hcell hk s1 s2 s3 s4 hb0 m0 hck hn hin;go_enter Tryz.func384,Tryz.ntmps384;go_wp2_with fail;refine R1.mono ?_;clear R1;rintro e w1 ⟨rfl,hm1⟩;have hb1:=HH.out.1.keep hm1 (fun h=>h);have c0:w1.cell? ⟨w.heap.size,0,none⟩=some (.int .i64 (W:Int)):=hb1.cell 0;have c1:w1.cell? ⟨w.heap.size,1,none⟩=some (.int .i64 (H:Int)):=hb1.cell 1;have c2:w1.cell? ⟨w.heap.size,2,none⟩=some (.slice (some ⟨b,off,none⟩) n c):=hb1.cell 2;have M1:=HH.out.2.1.trans hm1;have k1:w1.cell? ⟨b,off+k,none⟩=some (.int .u8 ((pix.getD k 0).toNat:Int)):=(World.cell?_of_block (M1.block b hb (fun h=>h))).trans HH.out.2.2.1;have HM:=Lib.hid M1;clear hb1 hm1 M1;have p1:(0:Int)<=(k:Int):=by omega
 have p2:(k:Int)<(n:Int):=by omega
 generalize (pix.getD k 0).toNat=px at *;go_upto_region 3 with(fail)
 obtain⟨s1,s2,s3,s4⟩:=HS.out;go_quiet ((go_at_call 380;exact Calls.quiet_of_same (quiet_near _ _ _ (by assumption) _)))
 clear s1 s2 s3 s4;go_wp2_with fail;go_ret;exact⟨by rw [HP.out];rfl,HM.out.drewN _⟩
def fillL(f:Nat->UInt8)(n k:Nat):List UInt8:=(List.range n).map fun i=>if i<k then f i else 0
theorem fillL_length(f:Nat->UInt8)(n k:Nat):(fillL f n k).length=n:=by simp [fillL]
theorem fillL_zero(f:Nat->UInt8)(n:Nat):fillL f n 0=List.replicate n 0:=by
 unfold fillL;refine List.ext_getElem (by simp) fun i h1 h2=>?_;simp
theorem fillL_all(f:Nat->UInt8)(n:Nat):fillL f n n=(List.range n).map f:=by
 unfold fillL;refine List.map_congr_left fun i hi=>if_pos (List.mem_range.1 hi)
theorem fillL_set(f:Nat->UInt8)(n k:Nat):(fillL f n k).set k (f k)=fillL f n (k+1):=by
 unfold fillL;refine List.ext_getElem (by simp) fun i h1 h2=>?_;simp only [List.getElem_set,List.getElem_map,List.getElem_range];by_cases e:k=i
 ·subst e;simp
 ·rw [if_neg e];by_cases h:i<k
  ·rw [if_pos h,if_pos (by omega)]
  ·rw [if_neg h,if_neg (by omega)]
def halfI(a b c d e f:Int):Int:=(a-5*b+20*c+20*d-5*e+f+16)/32
def halfN(a b c d e f:Nat):Nat:=clipN (halfI a b c d e f)
theorem halfN_lt(a b c d e f:Nat):halfN a b c d e f<256:=clipN_lt _
theorem mHalf(w:World)(a b c d e f:Nat)(ha:a<256)(hb:b<256)(hc:c<256)(hd:d<256)(he:e<256)(hf:f<256):
  Calls Tryz.prog 402 #[.agg #[.int .u8 (a:Int),.int .u8 (b:Int),.int .u8 (c:Int),.int .u8 (d:Int),.int .u8 (e:Int),.int .u8 (f:Int)]] w fun r w'=>r=.returned (.int .u8 ((halfN a b c d e f:Nat):Int))/\Mod (fun _=>False) w w':=by
 go_enter Tryz.func402,Tryz.ntmps402;go_wp2_with fail
 all_goals
  go_ret;refine⟨congrArg (fun z=>Ending.returned (.int .u8 z)) ?_,(Mod.refl _ _).alloc _⟩;unfold halfN clipN halfI
  (repeat' split)<;>omega
def acrN(W H:Nat)(pix:List UInt8)(x y:Int):Nat:=
 halfN (patL W H pix (x-2) y).toNat (patL W H pix (x-2+1) y).toNat (patL W H pix (x-2+2) y).toNat (patL W H pix (x-2+3) y).toNat (patL W H pix (x-2+4) y).toNat (patL W H pix (x-2+5) y).toNat
def dwnN(W H:Nat)(pix:List UInt8)(x y:Int):Nat:=
 halfN (patL W H pix x (y-2)).toNat (patL W H pix x (y-2+1)).toNat (patL W H pix x (y-2+2)).toNat (patL W H pix x (y-2+3)).toNat (patL W H pix x (y-2+4)).toNat (patL W H pix x (y-2+5)).toNat
theorem fill6(f:Nat->UInt8):(u8s (fillL f 6 6)).toArray=#[.int .u8 ((f 0).toNat:Int),.int .u8 ((f 1).toNat:Int),.int .u8 ((f 2).toNat:Int),.int .u8 ((f 3).toNat:Int),.int .u8 ((f 4).toNat:Int),.int .u8 ((f 5).toNat:Int)]:=rfl
theorem fill6_0(f:Nat->UInt8):(u8s (fillL f 6 0)).toArray=#[.int .u8 0,.int .u8 0,.int .u8 0,.int .u8 0,.int .u8 0,.int .u8 0]:=rfl
theorem fill_set(f:Nat->UInt8)(n k:Nat):(u8s (fillL f n k)).toArray.setIfInBounds k (.int .u8 ((f k).toNat:Int))=(u8s (fillL f n (k+1))).toArray:=by
 rw [<-fillL_set];unfold u8s;rw [List.map_set];simp
theorem fill_cell{w:World}{q n k:Nat}{t:TypeId}{f:Nat->UInt8}(hb:Blk w q t (u8s (fillL f n k)).toArray)(hk:k<n):w.cell? ⟨q,k,none⟩=some (.int .u8 0):=by
 rw [hb.cell,List.getElem?_toArray];unfold u8s fillL;simp [hk]
theorem pAt'(w:World)(W H:Nat)(A:Option Addr)(n c:Nat)(pix:List UInt8)(h:sidesB W H=true)(hn:n=W*H)(hin:BytesIn w A (W*H) c pix)(x y:Int):
  Calls Tryz.prog 384 #[.agg #[.int .i64 (W:Int),.int .i64 (H:Int),.slice A n c],.int .i64 x,.int .i64 y] w fun e w'=>e=.returned (.int .u8 ((patL W H pix x y).toNat:Int))/\Mod (fun _=>False) w w':=by
 subst hn;exact pAt w W H A c pix h hin x y
def SixRel(w:World)(p q:Nat)(pv:Array Value)(f:Nat->UInt8)(i:Value)(wr:World):Prop:=
 ∃k:Nat,k<=6/\i=.int .i64 (k:Int)/\Sat (fun _=>False) w wr [⟨q,479,(u8s (fillL f 6 k)).toArray⟩,⟨p,108,pv⟩] []
theorem mAcross(w:World)(W H:Nat)(A:Option Addr)(c:Nat)(pix:List UInt8)(h:sidesB W H=true)(hin:BytesIn w A (W*H) c pix)(x y:Int)(hx:-1073741824<=x/\x<=1073741824):
  Calls Tryz.prog 385 #[.agg #[.int .i64 (W:Int),.int .i64 (H:Int),.slice A (W*H) c],.int .i64 x,.int .i64 y] w fun e w'=>e=.returned (.int .u8 ((acrN W H pix x y:Nat):Int))/\Mod (fun _=>False) w w':=by
 obtain⟨n,hn⟩:∃n,n=W*H:=⟨_,rfl⟩
 have HI:=Lib.hid (And.intro h (And.intro hin hn));rw [<-hn];clear h hin hn;have h0:=(Sat.nil (fun _=>False) w)
 obtain⟨hx1,hx2⟩:=hx;go_enter Tryz.func385,Tryz.ntmps385;go_wp2_with fail;obtain⟨f,hf⟩:∃f:Nat->UInt8,f=fun(i:Nat)=>patL W H pix (x-2+(i:Int)) y:=⟨_,rfl⟩
 have HF:=Lib.hid hf;clear hf;go_loopw [9] (SixRel w w.heap.size (w.heap.size+1) #[.int .i64 (W:Int),.int .i64 (H:Int),.slice A n c] f) (fun i _=>6-(intOf i).toNat)
 case atStart=>exact⟨0,by omega,rfl,by rw [fill6_0];exact(by repeat' (first|with_reducible exact h0|with_reducible refine Sat.put ?_ ?_|with_reducible refine Sat.alloc ?_ _ _ ?_|with_reducible rfl|(show(World.heap _).size=_;simp;done)|with_reducible refine Sat.drewN ?_ _|with_reducible refine Sat.drew ?_|exact Upd.here rfl|exact Upd.there (Upd.here rfl)|exact Upd.there (Upd.there (Upd.here rfl))|exact Upd.there (Upd.there (Upd.there (Upd.here rfl)))|exact Upd.there (Upd.there (Upd.there (Upd.there (Upd.here rfl))))))⟩
 case round=>
  obtain⟨k,hk,rfl,HS⟩:=hrel;obtain⟨pc,pf⟩:=(HS.own_ 1 rfl).both;obtain⟨qc,qf⟩:=(HS.own_ 0 rfl).both;have pl:=(HS.own_ 1 rfl).lt;have ql:=(HS.own_ 0 rfl).lt;have HH:=Lib.hid HS;clear HS;by_cases hlt:k<6
  ·have d1:decide ((k:Int)<6)=true:=decide_eq_true (by omega);have hfk:patL W H pix (x-2+(k:Int)) y=f k:=by rw [HF.out]
   have HK:=Lib.hid hfk;clear hfk qc qf;go_wp2_with fail;refine(pAt' _ W H A n c pix HI.out.1 HI.out.2.2 (HI.out.2.1.quiet HH.out.mod) _ _).mono ?_;rintro e w1 ⟨rfl,hm1⟩;have HS1:=Sat.after hm1 HH.out;clear hm1 pc pf pl ql;have qf:=(HS1.own_ 0 rfl).frozen;have ql:=(HS1.own_ 0 rfl).lt;have q0:=fill_cell (HS1.own_ 0 rfl) hlt;have HG:=Lib.hid HS1;clear HS1;rw [HK.out];go_wp2_with fail;go_roundw
   case rel=>exact⟨k+1,by omega,by go_num,HG.out.put (Upd.here (fill_set f 6 k))⟩
   case measure=>simp [intOf];omega
  ·obtain rfl:k=6:=by omega
   have hb:=HH.out.own_ 0 rfl;rw [fill6]at hb;have q0:wr.cell? ⟨w.heap.size+1,0,none⟩=some (.int .u8 ((f 0).toNat:Int)):=hb.cell 0;have q1:wr.cell? ⟨w.heap.size+1,1,none⟩=some (.int .u8 ((f 1).toNat:Int)):=hb.cell 1;have q2:wr.cell? ⟨w.heap.size+1,2,none⟩=some (.int .u8 ((f 2).toNat:Int)):=hb.cell 2;have q3:wr.cell? ⟨w.heap.size+1,3,none⟩=some (.int .u8 ((f 3).toNat:Int)):=hb.cell 3;have q4:wr.cell? ⟨w.heap.size+1,4,none⟩=some (.int .u8 ((f 4).toNat:Int)):=hb.cell 4;have q5:wr.cell? ⟨w.heap.size+1,5,none⟩=some (.int .u8 ((f 5).toNat:Int)):=hb.cell 5;clear hb pc pf pl qc qf;go_wp2_with fail;refine(mHalf _ _ _ _ _ _ _ (UInt8.toNat_lt _) (UInt8.toNat_lt _) (UInt8.toNat_lt _) (UInt8.toNat_lt _) (UInt8.toNat_lt _) (UInt8.toNat_lt _)).mono ?_;rintro e w1 ⟨rfl,hm1⟩;have hM:=HH.out.mod.trans hm1;clear hm1 ql q0 q1 q2 q3 q4 q5;go_wp2_with fail;go_ret;exact⟨by rw [HF.out];simp [acrN],hM⟩
theorem mDown(w:World)(W H:Nat)(A:Option Addr)(c:Nat)(pix:List UInt8)(h:sidesB W H=true)(hin:BytesIn w A (W*H) c pix)(x y:Int)(hx:-1073741824<=y/\y<=1073741824):
  Calls Tryz.prog 386 #[.agg #[.int .i64 (W:Int),.int .i64 (H:Int),.slice A (W*H) c],.int .i64 x,.int .i64 y] w fun e w'=>e=.returned (.int .u8 ((dwnN W H pix x y:Nat):Int))/\Mod (fun _=>False) w w':=by
 obtain⟨n,hn⟩:∃n,n=W*H:=⟨_,rfl⟩
 have HI:=Lib.hid (And.intro h (And.intro hin hn));rw [<-hn];clear h hin hn;have h0:=(Sat.nil (fun _=>False) w)
 obtain⟨hx1,hx2⟩:=hx;go_enter Tryz.func386,Tryz.ntmps386;go_wp2_with fail;obtain⟨f,hf⟩:∃f:Nat->UInt8,f=fun(i:Nat)=>patL W H pix x (y-2+(i:Int)):=⟨_,rfl⟩
 have HF:=Lib.hid hf;clear hf;go_loopw [9] (SixRel w w.heap.size (w.heap.size+1) #[.int .i64 (W:Int),.int .i64 (H:Int),.slice A n c] f) (fun i _=>6-(intOf i).toNat)
 case atStart=>exact⟨0,by omega,rfl,by rw [fill6_0];exact(by repeat' (first|with_reducible exact h0|with_reducible refine Sat.put ?_ ?_|with_reducible refine Sat.alloc ?_ _ _ ?_|with_reducible rfl|(show(World.heap _).size=_;simp;done)|with_reducible refine Sat.drewN ?_ _|with_reducible refine Sat.drew ?_|exact Upd.here rfl|exact Upd.there (Upd.here rfl)|exact Upd.there (Upd.there (Upd.here rfl))|exact Upd.there (Upd.there (Upd.there (Upd.here rfl)))|exact Upd.there (Upd.there (Upd.there (Upd.there (Upd.here rfl))))))⟩
 case round=>
  obtain⟨k,hk,rfl,HS⟩:=hrel;obtain⟨pc,pf⟩:=(HS.own_ 1 rfl).both;obtain⟨qc,qf⟩:=(HS.own_ 0 rfl).both;have pl:=(HS.own_ 1 rfl).lt;have ql:=(HS.own_ 0 rfl).lt;have HH:=Lib.hid HS;clear HS;by_cases hlt:k<6
  ·have d1:decide ((k:Int)<6)=true:=decide_eq_true (by omega);have hfk:patL W H pix x (y-2+(k:Int))=f k:=by rw [HF.out]
   have HK:=Lib.hid hfk;clear hfk qc qf;go_wp2_with fail;refine(pAt' _ W H A n c pix HI.out.1 HI.out.2.2 (HI.out.2.1.quiet HH.out.mod) _ _).mono ?_;rintro e w1 ⟨rfl,hm1⟩;have HS1:=Sat.after hm1 HH.out;clear hm1 pc pf pl ql;have qf:=(HS1.own_ 0 rfl).frozen;have ql:=(HS1.own_ 0 rfl).lt;have q0:=fill_cell (HS1.own_ 0 rfl) hlt;have HG:=Lib.hid HS1;clear HS1;rw [HK.out];go_wp2_with fail;go_roundw
   case rel=>exact⟨k+1,by omega,by go_num,HG.out.put (Upd.here (fill_set f 6 k))⟩
   case measure=>simp [intOf];omega
  ·obtain rfl:k=6:=by omega
   have hb:=HH.out.own_ 0 rfl;rw [fill6]at hb;have q0:wr.cell? ⟨w.heap.size+1,0,none⟩=some (.int .u8 ((f 0).toNat:Int)):=hb.cell 0;have q1:wr.cell? ⟨w.heap.size+1,1,none⟩=some (.int .u8 ((f 1).toNat:Int)):=hb.cell 1;have q2:wr.cell? ⟨w.heap.size+1,2,none⟩=some (.int .u8 ((f 2).toNat:Int)):=hb.cell 2;have q3:wr.cell? ⟨w.heap.size+1,3,none⟩=some (.int .u8 ((f 3).toNat:Int)):=hb.cell 3;have q4:wr.cell? ⟨w.heap.size+1,4,none⟩=some (.int .u8 ((f 4).toNat:Int)):=hb.cell 4;have q5:wr.cell? ⟨w.heap.size+1,5,none⟩=some (.int .u8 ((f 5).toNat:Int)):=hb.cell 5;clear hb pc pf pl qc qf;go_wp2_with fail;refine(mHalf _ _ _ _ _ _ _ (UInt8.toNat_lt _) (UInt8.toNat_lt _) (UInt8.toNat_lt _) (UInt8.toNat_lt _) (UInt8.toNat_lt _) (UInt8.toNat_lt _)).mono ?_;rintro e w1 ⟨rfl,hm1⟩;have hM:=HH.out.mod.trans hm1;clear hm1 ql q0 q1 q2 q3 q4 q5;go_wp2_with fail;go_ret;exact⟨by rw [HF.out];simp [dwnN],hM⟩
end Go.Proofs.YtnnpoodcdibpiaaGreatDoor
