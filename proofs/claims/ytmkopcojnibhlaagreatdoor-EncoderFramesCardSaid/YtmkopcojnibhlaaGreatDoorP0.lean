/-
  Small words on memory, used by all walks of this seat: a block that is known whole; a world of which only named blocks have turned.
-/
import Derived.Test.YtmkopcojnibhlaaGreatDoorRows
import Derived.WalkKit
import Derived.WalkSpells
import Derived.WalkLawsBesides
import Derived.Deep.QuietTactic
import Derived.BigQuiet
import Derived.Deep.Draws
import Derived.Lib.Hide
import Derived.Laws.OwnMore
import Derived.Laws.AppendOwnNone
import Derived.Maps.AppendAt
import Derived.RegionTactic
import Derived.OwnWalk
import Derived.Laws.BytesString
import Derived.Laws.IdiomStrings
import Derived.Laws.CopyOwn
import Derived.BigRegion
import Derived.Deep.RegionHeld3
import Derived.Deep.Cut
namespace Go.Proofs.YtmkopcojnibhlaaGreatDoor
open Go.RowKit
set_option maxRecDepth 100000
set_option maxHeartbeats 8000000
def Blk (w:World) (g:Nat) (t:TypeId) (cs:Array Value):Prop:=w.heap[g]? = some (.cells cs t (0,0))
structure Mod (S:Nat → Prop) (w w':World):Prop where
 os:w'.os = w.os
 tape:w'.tape = w.tape
 output:w'.output = w.output
 size:w.heap.size ≤ w'.heap.size
 block:∀ k,k < w.heap.size → ¬ S k → w'.heap[k]? = w.heap[k]?
section
variable {w w' : World} {g : Nat} {t : TypeId} {cs : Array Value} {S : Nat → Prop}
theorem Blk.lt (h:Blk w g t cs):g < w.heap.size:=by
 rcases Nat.lt_or_ge g w.heap.size with hlt | hge
 ·exact hlt
 ·unfold Blk at h;rw [Array.getElem?_eq_none hge] at h;cases h
theorem Blk.cell (h:Blk w g t cs) (i:Nat):w.cell? ⟨g,i,none⟩ = cs[i]?:=cell_of_row w g i cs t (0,0) h
theorem Blk.frozen (h:Blk w g t cs) (i:Nat):w.frozen? ⟨g,i,none⟩ = false:=by
 unfold Blk at h
 simp [World.frozen?,h]
theorem Blk.both (h:Blk w g t cs):(∀ i,w.cell? ⟨g,i,none⟩ = cs[i]?) ∧ (∀ i,w.frozen? ⟨g,i,none⟩ = false):=⟨h.cell,h.frozen⟩
theorem Blk.new (w:World) (t:TypeId) (cs:Array Value):Blk (w.alloc (.cells cs t)) w.heap.size t cs:=heap_alloc_new w _
theorem Blk.drew (h:Blk w g t cs):Blk w.drew g t cs:=h
theorem Blk.drewN (h:Blk w g t cs) (n:Nat):Blk (w.drewN n) g t cs:=h
theorem Blk.alloc (h:Blk w g t cs) (o:Obj):Blk (w.alloc o) g t cs:=(Below.heap_alloc w o g h.lt).trans h
theorem Blk.set_ (h:Blk w g t cs) (i:Nat) (u:Value):Blk (w.setCell ⟨g,i,none⟩ u) g t (cs.setIfInBounds i u):=by
 unfold Blk at h ⊢
 simp [World.setCell,Array.getElem?_modify,h]
theorem Blk.put (h:Blk w g t cs) {i:Nat} {u:Value} {cs':Array Value} (e:cs.setIfInBounds i u = cs'):Blk (w.setCell ⟨g,i,none⟩ u) g t cs':=e ▸ h.set_ i u
theorem Blk.far (h:Blk w g t cs) {p:Addr} (hp:g ≠ p.block) (u:Value):Blk (w.setCell p u) g t cs:=(Below.heap_setCell w p u g hp).trans h
theorem Blk.keep (h:Blk w g t cs) (hm:Mod S w w') (hg:¬ S g):Blk w' g t cs:=(hm.block g h.lt hg).trans h
theorem Blk.ne_ {g':Nat} {t':TypeId} {cs':Array Value} (h:Blk w g t cs) (h':Blk w g' t' cs') (hne:t ≠ t'):g ≠ g':=by
 rintro rfl
 unfold Blk at h h'
 rw [h] at h'
 injection h' with h'
 injection h' with _ ht
 exact hne ht
theorem Mod.refl (S:Nat → Prop) (w:World):Mod S w w:=⟨rfl,rfl,rfl,Nat.le_refl _,fun _ _ _=>rfl⟩
theorem Mod.trans {a b c:World} (h:Mod S a b) (k:Mod S b c):Mod S a c:=
 ⟨k.os.trans h.os,k.tape.trans h.tape,k.output.trans h.output,Nat.le_trans h.size k.size,
  fun i hi hs=>(k.block i (Nat.lt_of_lt_of_le hi h.size) hs).trans (h.block i hi hs)⟩
theorem Mod.then_ {S':Nat → Prop} {a b c:World} (h:Mod S a b) (k:Mod S' b c) (hs:∀ i,i < a.heap.size → S' i → S i):Mod S a c:=
 ⟨k.os.trans h.os,k.tape.trans h.tape,k.output.trans h.output,Nat.le_trans h.size k.size,
  fun i hi hn=>(k.block i (Nat.lt_of_lt_of_le hi h.size) (fun x=>hn (hs i hi x))).trans (h.block i hi hn)⟩
theorem Mod.drew {a:World} (h:Mod S a w):Mod S a w.drew:=⟨h.os,h.tape,h.output,h.size,h.block⟩
theorem Mod.drewN {a:World} (h:Mod S a w) (n:Nat):Mod S a (w.drewN n):=⟨h.os,h.tape,h.output,h.size,h.block⟩
theorem Mod.alloc {a:World} (h:Mod S a w) (o:Obj):Mod S a (w.alloc o):=
 ⟨h.os,h.tape,h.output,Nat.le_trans h.size (by simp),fun i hi hne=>(Below.heap_alloc w o i (Nat.lt_of_lt_of_le hi h.size)).trans (h.block i hi hne)⟩
theorem Mod.setCell {a:World} (h:Mod S a w) {p:Addr} (hp:S p.block ∨ a.heap.size ≤ p.block) (u:Value):Mod S a (w.setCell p u):=
 ⟨h.os,h.tape,h.output,by simpa [World.setCell] using h.size,fun i hi hne=>(Below.heap_setCell w p u i (by
  rintro rfl
  rcases hp with hp | hp
  ·exact hne hp
  ·omega)).trans (h.block i hi hne)⟩
theorem Mod.below {a:World} (h:Mod S a w) (hS:∀ i,S i → a.heap.size ≤ i):Below a.heap.size a w:=
 ⟨h.os,h.tape,h.output,h.size,fun i hi=>h.block i hi (fun hs=>by have:=hS i hs;omega)⟩
theorem Mod.grown {a:World} {row:Option Nat} (h:Mod S a w) (hg:w.grownBy w' row) (hr:∀ k,row = some k → S k ∨ a.heap.size ≤ k):Mod S a w':=
 ⟨hg.os.trans h.os,hg.tape.trans h.tape,hg.output.trans h.output,Nat.le_trans h.size hg.size,fun i hi hs=>
  (hg.block i (Nat.lt_of_lt_of_le hi h.size) (fun e=>by rcases hr i e.symm with h' | h';exact hs h';omega)).trans (h.block i hi hs)⟩
end
theorem Mod.mono {S S':Nat → Prop} {w w':World} (h:Mod S w w') (hs:∀ i,S i → S' i):Mod S' w w':=⟨h.os,h.tape,h.output,h.size,fun k hk hn=>h.block k hk fun x=>hn (hs k x)⟩
theorem Mod.into {S S':Nat → Prop} {a b c:World} (h:Mod S a b) (k:Mod S' b c) (hs:∀ i,S' i → S i ∨ a.heap.size ≤ i):Mod S a c:=
 ⟨k.os.trans h.os,k.tape.trans h.tape,k.output.trans h.output,Nat.le_trans h.size k.size,
  fun i hi hn=>(k.block i (Nat.lt_of_lt_of_le hi h.size) (fun x=>(hs i x).elim hn (by omega))).trans (h.block i hi hn)⟩
theorem own_shape {w:World} {B:Nat} {e:TypeId} {size n:Nat} {v:Value} {xs:List Value} (h:w.ownsRow B e size v n xs):∃ A c,v = .slice A n c:=by
 rcases h.2 with ⟨hv,h0⟩ | ⟨g,cap,cur,hv,_⟩
 ·exact ⟨none,0,by rw [hv,h0]⟩
 ·exact ⟨_,_,hv⟩
theorem addr_block (a:Addr) (n:Nat):(a.add n).block = a.block:=by
 unfold Addr.add
 split <;> rfl
def Src (w:World) (size:Nat) (A:Option Addr) (n:Nat) (xs:List Value):Prop:=
 xs.length = n * size ∧ (A = none → n = 0) ∧ ∀ ad,A = some ad → ∀ j u,xs[j]? = some u → w.cell? (ad.add j) = some u
section
variable {P : Program} {w w' : World} {size n : Nat} {A : Option Addr} {xs : List Value}
theorem Src.nil:Src w size none 0 []:=⟨by simp,fun _=>rfl,fun _ h=>by cases h⟩
theorem Src.keep (h:Src w size A n xs) (hk:∀ ad,A = some ad → ∀ j,w'.cell? (ad.add j) = w.cell? (ad.add j)):Src w' size A n xs:=
 ⟨h.1,h.2.1,fun ad e j u hu=>(hk ad e j).trans (h.2.2 ad e j u hu)⟩
theorem Src.keep' (h:Src w size A n xs) (hk:0 < n → ∀ ad,A = some ad → ∀ j,w'.cell? (ad.add j) = w.cell? (ad.add j)):Src w' size A n xs:=by
 rcases Nat.eq_zero_or_pos n with h0 | h0
 ·subst h0
  have hx:xs = []:=List.eq_nil_of_length_eq_zero (by rw [h.1];simp)
  subst hx
  exact ⟨h.1,h.2.1,fun ad e j u hu=>by simp at hu⟩
 ·exact h.keep (hk h0)
theorem Src.of_own {base:Nat} {e:TypeId} {c:Nat} {m:Nat} (h:w.ownsRow base e size (.slice A m c) n xs):m = n ∧ Src w size A n xs:=by
 rcases h.2 with ⟨hv,rfl⟩ | ⟨g,cap,cur,hv,_,_⟩
 ·injection hv with h1 h2 h3
  subst h1;subst h2
  exact ⟨rfl,h.1,fun _=>rfl,fun _ h=>by cases h⟩
 ·injection hv with h1 h2 h3
  subst h1;subst h2
  refine ⟨rfl,h.1,fun h=>(by cases h),fun ad e j u hu=>?_⟩
  injection e with e
  subst e
  exact h.cells (g:=g) rfl j u hu
theorem Src.new (w:World) (t:TypeId) (xs:List Value):Src (w.alloc (.cells xs.toArray t)) xs.length (some ⟨w.heap.size,0,none⟩) 1 xs:=by
 refine ⟨by simp,fun h=>(by cases h),fun ad e j u hu=>?_⟩
 injection e with e
 subst e
 have hadd:(⟨w.heap.size,0,none⟩:Addr).add j = ⟨w.heap.size,j,none⟩:=by unfold Addr.add;split <;> simp_all
 rw [hadd,(Blk.new w t xs.toArray).cell j]
 simpa using hu
theorem append_src (w:World) (base:Nat) (t ty e:TypeId) (i:TypeInfo) (z:Value) (size bytes:Nat) (ht:P.underlying t = some (.slice e)) (hi:P.info? e = some i) (hz:i.zero = some z)
  (hsize:i.size = size) (hby:i.bytes = bytes) (hzs:z.cells.size = size) (hsz:0 < size)
  (v:Value) (n:Nat) (xs:List Value) (hown:w.ownsRow base e size v n xs)
  (A:Option Addr) (m c:Nat) (news:List Value) (hs:Src w size A m news) (hc:A = none → c = 0) (h1:∀ u ∈ news,u.oneCell' = true)
  (h63:n + m ≤ maxLen) (hbytes:(n + m) * bytes ≤ 140737488355328) (hbase:base ≤ w.heap.size) :
  ∃ v' w',(Builtin.append_ #[t,t] ty #[v,.slice A m c]).run P w = .ok v' w' ∧ w'.ownsRow base e size v' (n + m) (xs ++ news) ∧ w.grownBy w' v.ownBlock ∧
   (v'.ownBlock = v.ownBlock ∨ v'.ownBlock = some w.heap.size):=by
 cases A with
 | none=>
  obtain rfl:=hs.2.1 rfl
  obtain rfl:=hc rfl
  obtain rfl:news = []:=List.eq_nil_of_length_eq_zero (by rw [hs.1];simp)
  exact ⟨v,w,run_append_owned_none w base t ty e i size ht hi v n xs hown,by simpa using hown,World.grownBy.refl w _,.inl rfl⟩
 | some ad=>
  obtain ⟨v',w',hr,h2,h3,_,h5⟩:=run_append_own_at (P:=P) w base t ty e i z size bytes ht hi hz hsize hby hzs hsz v n xs hown ad m c news hs.1 (hs.2.2 ad rfl) h1 h63 hbytes hbase
  exact ⟨v',w',hr,h2,h3,h5⟩
theorem wp_append_src {o:Oper} {a:Act} {K:Act → World → Prop} {Q:Exit → Act → World → Prop} (w:World) (s x:Operand) (t:TypeId)
  (ho:o.op = .call { callee:=.builtin .append,args:=#[s,x],argTypes:=#[t,t] })
  (base:Nat) (e:TypeId) (i:TypeInfo) (z:Value) (size bytes:Nat) (ht:P.underlying t = some (.slice e)) (hi:P.info? e = some i) (hz:i.zero = some z)
  (hsize:i.size = size) (hby:i.bytes = bytes) (hzs:z.cells.size = size) (hsz:0 < size)
  (v:Value) (n:Nat) (xs:List Value) (hs:a.eval s = v) (hown:w.ownsRow base e size v n xs)
  (A:Option Addr) (m c:Nat) (news:List Value) (hx:a.eval x = .slice A m c) (hr:Src w size A m news) (hc:A = none → c = 0) (h1:∀ u ∈ news,u.oneCell' = true)
  (h63:n + m ≤ maxLen) (hbytes:(n + m) * bytes ≤ 140737488355328) (hbase:base ≤ w.heap.size)
  (h:∀ v' w',w'.ownsRow base e size v' (n + m) (xs ++ news) → w.grownBy w' v.ownBlock → (v'.ownBlock = v.ownBlock ∨ v'.ownBlock = some w.heap.size) → K (a.put o.dst v') w'):o.wp P a w K Q:=by
 obtain ⟨v',w',hrun,h2,h3,h4⟩:=append_src (P:=P) w base t o.type e i z size bytes ht hi hz hsize hby hzs hsz v n xs hown A m c news hr hc h1 h63 hbytes hbase
 unfold Oper.wp execOp
 simp only [ho,resolve,invoke,builtin,Sem.run_bind,Sem.run_pure,Result.andThen_ok,List.map_toArray,List.map_cons,List.map_nil,hs,hx,hrun]
 exact h v' w' h2 h3 h4
theorem wpList_append_src {ops:Array Oper} {rest:List Oper} {o:Oper} {a:Act} {Q:Exit → Act → World → Prop} (w:World) (hgd:o.guard = none) (s x:Operand) (t:TypeId)
  (ho:o.op = .call { callee:=.builtin .append,args:=#[s,x],argTypes:=#[t,t] })
  (base:Nat) (e:TypeId) (i:TypeInfo) (z:Value) (size bytes:Nat) (ht:P.underlying t = some (.slice e)) (hi:P.info? e = some i) (hz:i.zero = some z)
  (hsize:i.size = size) (hby:i.bytes = bytes) (hzs:z.cells.size = size) (hsz:0 < size)
  (v:Value) (n:Nat) (xs:List Value) (hs:a.eval s = v) (hown:w.ownsRow base e size v n xs)
  (A:Option Addr) (m c:Nat) (news:List Value) (hx:a.eval x = .slice A m c) (hr:Src w size A m news) (hc:A = none → c = 0) (h1:∀ u ∈ news,u.oneCell' = true)
  (h63:n + m ≤ maxLen) (hbytes:(n + m) * bytes ≤ 140737488355328) (hbase:base ≤ w.heap.size)
  (h:∀ v' w',w'.ownsRow base e size v' (n + m) (xs ++ news) → w.grownBy w' v.ownBlock → (v'.ownBlock = v.ownBlock ∨ v'.ownBlock = some w.heap.size) → wpList P ops Q rest (a.put o.dst v') w'):wpList P ops Q (o :: rest) a w:=
 wpList_plain hgd fun _ hK=>wp_append_src w s x t ho base e i z size bytes ht hi hz hsize hby hzs hsz v n xs hs hown A m c news hx hr hc h1 h63 hbytes hbase fun v' w' h2 h3 h4=>hK _ _ (h v' w' h2 h3 h4)
theorem step_append_src {ops:Array Oper} {o:Oper} {a:Act} {K:Act → World → Prop} {Q:Exit → Act → World → Prop} {E:Prop} (w:World) (hgd:o.guard = none) (s x:Operand) (t:TypeId)
  (ho:o.op = .call { callee:=.builtin .append,args:=#[s,x],argTypes:=#[t,t] })
  (base:Nat) (e:TypeId) (i:TypeInfo) (z:Value) (size bytes:Nat) (ht:P.underlying t = some (.slice e)) (hi:P.info? e = some i) (hz:i.zero = some z)
  (hsize:i.size = size) (hby:i.bytes = bytes) (hzs:z.cells.size = size) (hsz:0 < size)
  (v:Value) (n:Nat) (xs:List Value) (hs:a.eval s = v) (hown:w.ownsRow base e size v n xs)
  (A:Option Addr) (m c:Nat) (news:List Value) (hx:a.eval x = .slice A m c) (hr:Src w size A m news) (hc:A = none → c = 0) (h1:∀ u ∈ news,u.oneCell' = true)
  (h63:n + m ≤ maxLen) (hbytes:(n + m) * bytes ≤ 140737488355328) (hbase:base ≤ w.heap.size)
  (h:∀ v' w',w'.ownsRow base e size v' (n + m) (xs ++ news) → w.grownBy w' v.ownBlock → (v'.ownBlock = v.ownBlock ∨ v'.ownBlock = some w.heap.size) → K (a.put o.dst v') w') :
  if Region.wanted o (yielded ops a.tmps) = true then Oper.wp P o a w K Q else E:=by
 have hw:Region.wanted o (yielded ops a.tmps) = true:=by simp [Region.wanted,hgd]
 rw [if_pos hw]
 exact wp_append_src w s x t ho base e i z size bytes ht hi hz hsize hby hzs hsz v n xs hs hown A m c news hx hr hc h1 h63 hbytes hbase h
theorem own_mod {S:Nat → Prop} {base:Nat} {e:TypeId} {v:Value} (h:w.ownsRow base e size v n xs) (hm:Mod S w w') (hS:∀ g,v.ownBlock = some g → ¬ S g):w'.ownsRow base e size v n xs:=by
 refine ⟨h.1,?_⟩
 rcases h.2 with hn | ⟨g,cap,cur,rfl,hb,hgg,rest⟩
 ·exact .inl hn
 ·exact .inr ⟨g,cap,cur,rfl,hb,(hm.block g (Array.getElem?_eq_some_iff.1 hgg).1 (hS g rfl)).trans hgg,rest⟩
theorem own_ne_blk {g:Nat} {t:TypeId} {cs:Array Value} {base:Nat} {e:TypeId} {v:Value} (h:w.ownsRow base e size v n xs) (hg:Blk w g t cs) (hne:e ≠ t):v.ownBlock ≠ some g:=by
 rcases h.2 with ⟨rfl,_⟩ | ⟨g',cap,cur,rfl,_,hh,_⟩
 ·simp [Value.ownBlock]
 ·intro he
  obtain rfl:g' = g:=by simpa [Value.ownBlock] using he
  exact Blk.ne_ (t:=e) hh hg hne rfl
end
structure Ent where
 g:Nat
 t:TypeId
 cs:Array Value
structure Sat (S:Nat → Prop) (w0 w:World) (own old:List Ent):Prop where
 blk:∀ e ∈ own ++ old,Blk w e.g e.t e.cs
 nd:((own ++ old).map (·.g)).Nodup
 mine:∀ e ∈ own,S e.g ∨ w0.heap.size ≤ e.g
 mod:Mod S w0 w
inductive Upd (g i:Nat) (u:Value):List Ent → List Ent → Prop
 | here {t:TypeId} {cs cs':Array Value} {l:List Ent} (e:cs.setIfInBounds i u = cs'):Upd g i u (⟨g,t,cs⟩ :: l) (⟨g,t,cs'⟩ :: l)
 | there {e:Ent} {l l':List Ent} (h:Upd g i u l l'):Upd g i u (e :: l) (e :: l')
inductive Rep (g:Nat) (t:TypeId) (cs':Array Value):List Ent → List Ent → Prop
 | here {t0:TypeId} {cs:Array Value} {l:List Ent}:Rep g t cs' (⟨g,t0,cs⟩ :: l) (⟨g,t,cs'⟩ :: l)
 | there {e:Ent} {l l':List Ent} (h:Rep g t cs' l l'):Rep g t cs' (e :: l) (e :: l')
theorem Rep.map {g:Nat} {t:TypeId} {cs':Array Value} {l l':List Ent} (h:Rep g t cs' l l'):l'.map (·.g) = l.map (·.g):=by
 induction h with
 | here=>rfl
 | there _ ih=>simp [ih]
theorem Rep.mem {g:Nat} {t:TypeId} {cs':Array Value} {l l':List Ent} (h:Rep g t cs' l l'):∃ e ∈ l,e.g = g:=by
 induction h with
 | here=>exact ⟨_,List.mem_cons_self,rfl⟩
 | there _ ih=>obtain ⟨e,h1,h2⟩:=ih;exact ⟨e,by simp [h1],h2⟩
theorem Rep.blk {g:Nat} {t:TypeId} {cs':Array Value} {w w':World} {l l':List Ent} (h:Rep g t cs' l l') (hb:∀ e ∈ l,Blk w e.g e.t e.cs) (hm:Mod (· = g) w w') (hn:(l.map (·.g)).Nodup) (hg:Blk w' g t cs'):∀ e ∈ l',Blk w' e.g e.t e.cs:=by
 induction h with
 | @here t0 cs l=>
  intro e he
  simp only [List.map_cons,List.nodup_cons] at hn
  rcases List.mem_cons.1 he with rfl | he
  ·exact hg
  ·exact (hb e (by simp [he])).keep hm (fun h=>hn.1 (by rw [← show e.g = g from h];exact List.mem_map.2 ⟨e,he,rfl⟩))
 | @there e0 l l' h ih=>
  intro e he
  simp only [List.map_cons,List.nodup_cons] at hn
  rcases List.mem_cons.1 he with rfl | he
  ·obtain ⟨x,hx,hxg⟩:=h.mem
   exact (hb _ (by simp)).keep hm (fun h=>hn.1 (by rw [show e.g = g from h,← hxg];exact List.mem_map.2 ⟨x,hx,rfl⟩))
  ·exact ih (fun e he=>hb e (by simp [he])) hn.2 e he
theorem Upd.map {g i:Nat} {u:Value} {l l':List Ent} (h:Upd g i u l l'):l'.map (·.g) = l.map (·.g):=by
 induction h with
 | here=>rfl
 | there _ ih=>simp [ih]
theorem Upd.mem {g i:Nat} {u:Value} {l l':List Ent} (h:Upd g i u l l'):∃ e ∈ l,e.g = g:=by
 induction h with
 | here=>exact ⟨_,List.mem_cons_self,rfl⟩
 | there _ ih=>obtain ⟨e,h1,h2⟩:=ih;exact ⟨e,by simp [h1],h2⟩
theorem Upd.blk {g i:Nat} {u:Value} {w:World} {l l':List Ent} (h:Upd g i u l l') (hb:∀ e ∈ l,Blk w e.g e.t e.cs) (hn:(l.map (·.g)).Nodup):∀ e ∈ l',Blk (w.setCell ⟨g,i,none⟩ u) e.g e.t e.cs:=by
 induction h with
 | @here t cs cs' l he=>
  intro e hm
  simp only [List.map_cons,List.nodup_cons] at hn
  rcases List.mem_cons.1 hm with rfl | hm
  ·exact (hb ⟨g,t,cs⟩ List.mem_cons_self).put he
  ·exact (hb e (by simp [hm])).far (fun h=>hn.1 (by dsimp at h;rw [← h];exact List.mem_map.2 ⟨e,hm,rfl⟩)) _
 | @there e0 l l' h ih=>
  intro e hm
  simp only [List.map_cons,List.nodup_cons] at hn
  rcases List.mem_cons.1 hm with rfl | hm
  ·obtain ⟨x,hx,hg⟩:=h.mem
   exact (hb _ (by simp)).far (fun h=>hn.1 (by dsimp at h;rw [h,← hg];exact List.mem_map.2 ⟨x,hx,rfl⟩)) _
  ·exact ih (fun e he=>hb e (by simp [he])) hn.2 e hm
section
variable {S : Nat → Prop} {w0 w w' : World} {own old own' : List Ent}
theorem Sat.nil (S:Nat → Prop) (w:World):Sat S w w [] []:=⟨by simp,by simp,by simp,Mod.refl _ _⟩
theorem Sat.one (S:Nat → Prop) {g:Nat} {t:TypeId} {cs:Array Value} (h:Blk w g t cs):Sat S w w [] [⟨g,t,cs⟩]:=⟨by simpa using h,by simp,by simp,Mod.refl _ _⟩
theorem Sat.own1 {g:Nat} {t:TypeId} {cs:Array Value} (h:Blk w g t cs):Sat (· = g) w w [⟨g,t,cs⟩] []:=⟨by simpa using h,by simp,by simp,Mod.refl _ _⟩
theorem Sat.add_own (h:Sat S w0 w own old) {g:Nat} {t:TypeId} {cs:Array Value} (hb:Blk w g t cs) (hS:S g ∨ w0.heap.size ≤ g) (hg:∀ e ∈ own ++ old,e.g ≠ g):Sat S w0 w (⟨g,t,cs⟩ :: own) old:=by
 refine ⟨?_,?_,?_,h.mod⟩
 ·intro e he
  rcases List.mem_cons.1 he with rfl | he
  ·exact hb
  ·exact h.blk e he
 ·have:=h.nd
  simp only [List.cons_append,List.map_cons,List.nodup_cons]
  refine ⟨fun hm=>?_,this⟩
  obtain ⟨e,he,hh⟩:=List.mem_map.1 hm
  exact hg e he hh
 ·intro e he
  rcases List.mem_cons.1 he with rfl | he
  ·exact hS
  ·exact h.mine e he
theorem Sat.alloc (h:Sat S w0 w own old) (t:TypeId) (cs:Array Value) {g:Nat} (hg:w.heap.size = g):Sat S w0 (w.alloc (.cells cs t)) (⟨g,t,cs⟩ :: own) old:=by
 subst hg
 refine ⟨?_,?_,?_,h.mod.alloc _⟩
 ·intro e he
  rcases List.mem_cons.1 he with rfl | he
  ·exact Blk.new _ _ _
  ·exact (h.blk e he).alloc _
 ·simp only [List.cons_append,List.map_cons,List.nodup_cons]
  refine ⟨fun hm=>?_,h.nd⟩
  obtain ⟨e,he,hh⟩:=List.mem_map.1 hm
  have:=(h.blk e he).lt
  omega
 ·intro e he
  rcases List.mem_cons.1 he with rfl | he
  ·exact .inr h.mod.size
  ·exact h.mine e he
theorem Sat.drew (h:Sat S w0 w own old):Sat S w0 w.drew own old:=⟨fun e he=>(h.blk e he).drew,h.nd,h.mine,h.mod.drew⟩
theorem Sat.drewN (h:Sat S w0 w own old) (n:Nat):Sat S w0 (w.drewN n) own old:=⟨fun e he=>(h.blk e he).drewN n,h.nd,h.mine,h.mod.drewN n⟩
theorem Sat.put (h:Sat S w0 w own old) {g i:Nat} {u:Value} (hu:Upd g i u own own'):Sat S w0 (w.setCell ⟨g,i,none⟩ u) own' old:=by
 have hn:=h.nd
 have hm:=hu.map
 have hnl:(own.map (·.g)).Nodup:=by
  rw [List.map_append,List.nodup_append] at hn
  exact hn.1
 obtain ⟨x,hx,hg⟩:=hu.mem
 refine ⟨?_,?_,?_,h.mod.setCell (p:=⟨g,i,none⟩) (by have:=h.mine x hx;rw [hg] at this;exact this) _⟩
 ·intro e he
  rcases List.mem_append.1 he with he | he
  ·exact hu.blk (fun e he=>h.blk e (by simp [he])) hnl e he
  ·refine (h.blk e (by simp [he])).far (fun hh=>?_) _
   rw [List.map_append,List.nodup_append] at hn
   exact hn.2.2 x.g (List.mem_map.2 ⟨x,hx,rfl⟩) e.g (List.mem_map.2 ⟨e,he,rfl⟩) (by rw [hg];exact hh.symm)
 ·rw [List.map_append,hm,← List.map_append]
  exact hn
 ·intro e he
  have:e.g ∈ own.map (·.g):=hm ▸ List.mem_map.2 ⟨e,he,rfl⟩
  obtain ⟨y,hy,hh⟩:=List.mem_map.1 this
  rw [← hh]
  exact h.mine y hy
theorem Sat.quiet (h:Sat S w0 w own old) (hm:Mod (fun _=>False) w w'):Sat S w0 w' own old:=
 ⟨fun e he=>(h.blk e he).keep hm (fun h=>h),h.nd,h.mine,h.mod.into hm (fun _ h=>h.elim)⟩
theorem Sat.after (hm:Mod (fun _=>False) w w') (h:Sat S w0 w own old):Sat S w0 w' own old:=h.quiet hm
theorem Sat.grew (hm:Mod (fun _=>False) w w') (h:Sat S w0 w own old) {g:Nat} {t:TypeId} {cs:Array Value} (hb:Blk w' g t cs) (hg:w.heap.size ≤ g):Sat S w0 w' (⟨g,t,cs⟩ :: own) old:=
 (h.quiet hm).add_own hb (.inr (Nat.le_trans h.mod.size hg)) (fun e he=>by have:=(h.blk e he).lt;omega)
theorem Sat.beside {S':Nat → Prop} (hm:Mod S' w w') (h:Sat S w0 w own old) (hS:∀ i,S' i → S i ∨ w0.heap.size ≤ i) (hn:∀ e ∈ own ++ old,¬ S' e.g):Sat S w0 w' own old:=
 ⟨fun e he=>(h.blk e he).keep hm (hn e he),h.nd,h.mine,h.mod.into hm hS⟩
theorem Sat.turn {g:Nat} {t:TypeId} {cs':Array Value} (hm:Mod (· = g) w w') (h:Sat S w0 w own old) (hb:Blk w' g t cs') (hr:Rep g t cs' own own'):Sat S w0 w' own' old:=by
 have hn:=h.nd
 have hmp:=hr.map
 obtain ⟨x,hx,hg⟩:=hr.mem
 have hnl:(own.map (·.g)).Nodup:=by
  rw [List.map_append,List.nodup_append] at hn
  exact hn.1
 refine ⟨?_,?_,?_,h.mod.into hm (fun i hi=>by rw [show i = g from hi,← hg];exact h.mine x hx)⟩
 ·intro e he
  rcases List.mem_append.1 he with he | he
  ·exact hr.blk (fun e he=>h.blk e (by simp [he])) hm hnl hb e he
  ·refine (h.blk e (by simp [he])).keep hm (fun hh=>?_)
   rw [List.map_append,List.nodup_append] at hn
   exact hn.2.2 x.g (List.mem_map.2 ⟨x,hx,rfl⟩) e.g (List.mem_map.2 ⟨e,he,rfl⟩) (by rw [hg];exact hh.symm)
 ·rw [List.map_append,hmp,← List.map_append]
  exact hn
 ·intro e he
  have:e.g ∈ own.map (·.g):=hmp ▸ List.mem_map.2 ⟨e,he,rfl⟩
  obtain ⟨y,hy,hh⟩:=List.mem_map.1 this
  rw [← hh]
  exact h.mine y hy
theorem Sat.drop_own {e:Ent} (h:Sat S w0 w (e :: own) old):Sat S w0 w own old:=
 ⟨fun x hx=>h.blk x (by simp only [List.cons_append,List.mem_cons];exact .inr hx),(by have:=h.nd;simp only [List.cons_append,List.map_cons,List.nodup_cons] at this;exact this.2),fun x hx=>h.mine x (by simp [hx]),h.mod⟩
theorem Sat.own_ (h:Sat S w0 w own old) (k:Nat) {e:Ent} (hk:own[k]? = some e):Blk w e.g e.t e.cs:=h.blk e (List.mem_append.2 (.inl (List.mem_of_getElem? hk)))
theorem Sat.old_ (h:Sat S w0 w own old) (k:Nat) {e:Ent} (hk:old[k]? = some e):Blk w e.g e.t e.cs:=h.blk e (List.mem_append.2 (.inr (List.mem_of_getElem? hk)))
theorem Sat.apart (h:Sat S w0 w own old) (i j:Nat) {a b:Ent} (hi:(own ++ old)[i]? = some a) (hj:(own ++ old)[j]? = some b) (hij:i < j):a.g ≠ b.g:=by
 have hn:=h.nd
 rw [List.nodup_iff_pairwise_ne,List.pairwise_iff_getElem] at hn
 obtain ⟨h1,rfl⟩:=List.getElem?_eq_some_iff.1 hi
 obtain ⟨h2,rfl⟩:=List.getElem?_eq_some_iff.1 hj
 have:=hn i j (by simpa using h1) (by simpa using h2) hij
 simpa only [List.getElem_map] using this
theorem Sat.low (h:Sat (fun _=>False) w0 w own old) (k:Nat) {e:Ent} (hk:own[k]? = some e):w0.heap.size ≤ e.g:=(h.mine e (List.mem_of_getElem? hk)).resolve_left (fun h=>h)
end
theorem own_base {B B':Nat} {w:World} {e:TypeId} {size n:Nat} {v:Value} {xs:List Value} (h:w.ownsRow B e size v n xs) (hB:B' ≤ B):w.ownsRow B' e size v n xs:=
 ⟨h.1,h.2.imp id (fun ⟨g,cap,cur,h1,h2,h3⟩=>⟨g,cap,cur,h1,by omega,h3⟩)⟩
theorem own_blk {B:Nat} {w:World} {e:TypeId} {size n:Nat} {v:Value} {xs:List Value} {k:Nat} (h:w.ownsRow B e size v n xs) (hk:v.ownBlock = some k):B ≤ k ∧ ∃ cs,Blk w k e cs:=by
 rcases h.2 with ⟨rfl,_⟩ | ⟨g,cap,cur,rfl,hb,hgg,rest⟩
 ·simp [Value.ownBlock] at hk
 ·obtain rfl:g = k:=by simpa [Value.ownBlock] using hk
  exact ⟨hb,cur,hgg⟩
theorem addr_add (r j:Nat):(⟨r,0,none⟩:Addr).add j = ⟨r,j,none⟩:=by unfold Addr.add;split <;> simp_all
theorem addr_add' (r o j:Nat):(⟨r,o,none⟩:Addr).add j = ⟨r,o + j,none⟩:=by unfold Addr.add;split <;> simp_all
theorem u8_info:(Tryz.prog.info? 5).map (fun i=>(i.zero,i.size,i.bytes)) = some (some (.int .u8 0),1,1):=by kernel_rfl
def u8s (l:List UInt8):List Value:=l.map fun b=>.int .u8 (b.toNat:Int)
theorem u8s_one (l:List UInt8):∀ u ∈ u8s l,u.oneCell' = true:=fun u hu=>by
 obtain ⟨b,_,rfl⟩:=List.mem_map.1 hu
 rfl
theorem u8s_length (l:List UInt8):(u8s l).length = l.length:=by simp [u8s]
def Bytes (w:World) (B:Nat) (v:Value) (l:List UInt8):Prop:=w.ownsRow B 5 1 v l.length (u8s l)
def BytesIn (w:World) (A:Option Addr) (n c:Nat) (l:List UInt8):Prop:=l.length = n ∧ (A = none → c = 0) ∧ Src w 1 A n (u8s l) ∧ (0 < n → ∀ ad,A = some ad → ad.block < w.heap.size)
theorem Bytes.take {w:World} {B r n c:Nat} {l:List UInt8} (h:Bytes w B (.slice (some ⟨r,0,none⟩) n c) l) (m:Nat) (hm:m ≤ l.length):Bytes w B (.slice (some ⟨r,0,none⟩) m c) (l.take m):=by
 have hl:(l.take m).length = m:=by rw [List.length_take];omega
 refine ⟨by simp [u8s],?_⟩
 rcases h.2 with ⟨hv,_⟩ | ⟨g,cap,cur,hv,hB,hg,hnc,hcm,hs,ht⟩
 ·cases hv
 ·obtain ⟨rfl,e2,rfl⟩:r = g ∧ n = l.length ∧ c = cap:=by injection hv with e1 e2 e3;injection e1 with e1;injection e1;exact ⟨by assumption,e2,e3⟩
  refine .inr ⟨r,c,cur,by rw [hl],hB,hg,by omega,hcm,hs,?_⟩
  have e:u8s (l.take m) = (u8s l).take m:=by simp [u8s,List.map_take]
  rw [hl,e,← ht,List.take_take]
  simp
  omega
def strOf (l:List UInt8):ByteArray:=⟨l.toArray⟩
theorem str_src (w:World) (A:Option Addr) (n c:Nat) (l:List UInt8) (hl:l.length = n) (h:Src w 1 A n (u8s l)):(convert 36 9 (.slice A n c)).run Tryz.prog w = .ok (.string (strOf l)) w:=by
 rw [run_convert_bytes_string w 36 9 5 A n c Tryz.underlying36 Tryz.underlying5 Tryz.underlying9]
 cases A with
 | none=>
  obtain rfl:=h.2.1 rfl
  obtain rfl:l = []:=List.eq_nil_of_length_eq_zero hl
  rfl
 | some ad=>
  have hload:=run_loadCells_list (P:=Tryz.prog) (w:=w) ad (u8s l) (h.2.2 ad rfl)
  rw [u8s_length,hl] at hload
  have e:u8s l = (l.map fun b=>(b.toNat:Int)).map (Value.int .u8):=by simp [u8s]
  rw [e] at hload
  rw [run_bytesToString w ad n c (l.map fun b=>(b.toNat:Int)) hload,foldl_push_byteCells]
  simp [strOf]
theorem BytesIn.mod {w w':World} {S:Nat → Prop} {A:Option Addr} {n c:Nat} {l:List UInt8} (h:BytesIn w A n c l) (hm:Mod S w w') (hS:0 < n → ∀ ad,A = some ad → ¬ S ad.block):BytesIn w' A n c l:=by
 obtain ⟨h1,h2,h3,h4⟩:=h
 refine ⟨h1,h2,h3.keep' fun h0 ad e j=>World.cell?_of_block (by rw [addr_block];exact hm.block _ (h4 h0 ad e) (hS h0 ad e)),fun h0 ad e=>Nat.lt_of_lt_of_le (h4 h0 ad e) hm.size⟩
theorem BytesIn.quiet {w w':World} {A:Option Addr} {n c:Nat} {l:List UInt8} (h:BytesIn w A n c l) (hm:Mod (fun _=>False) w w'):BytesIn w' A n c l:=h.mod hm (fun _ _ _ h=>h)
theorem Bytes.in_ {w:World} {B:Nat} {A:Option Addr} {m c:Nat} {l:List UInt8} (h:Bytes w B (.slice A m c) l):BytesIn w A m c l:=by
 have hs:=Src.of_own h
 obtain ⟨rfl,hs⟩:=hs
 refine ⟨rfl,fun e=>?_,hs,fun _ ad e=>?_⟩
 ·rcases h.2 with ⟨hv,_⟩ | ⟨g,cap,cur,hv,_⟩
  ·injection hv
  ·subst e;injection hv with e1;cases e1
 ·rcases h.2 with ⟨hv,_⟩ | ⟨g,cap,cur,hv,hB,hg,_⟩
  ·subst e;injection hv with e1;cases e1
  ·subst e;injection hv with e1;injection e1 with e1;subst e1
   exact (Array.getElem?_eq_some_iff.1 hg).1
theorem Bytes.cell {w:World} {B r n c:Nat} {l:List UInt8} (h:Bytes w B (.slice (some ⟨r,0,none⟩) n c) l) (i:Nat) (hi:i < l.length):w.cell? ⟨r,i,none⟩ = some (.int .u8 ((l.getD i 0).toNat:Int)):=by
 have:=World.ownsRow.cells h (g:=r) rfl i (.int .u8 ((l.getD i 0).toNat:Int)) (by simp [u8s,List.getD_eq_getElem?_getD,hi])
 rwa [addr_add] at this
theorem Bytes.some_ {w:World} {B n c:Nat} {A:Option Addr} {l:List UInt8} (h:Bytes w B (.slice A n c) l) (h0:0 < l.length):∃ r,A = some ⟨r,0,none⟩ ∧ l.length ≤ c:=by
 rcases h.2 with ⟨_,h1⟩ | ⟨r,cap,cur,hv,_,_,hc,_⟩
 ·omega
 ·injection hv with e1 _ e3
  exact ⟨r,e1,by omega⟩
theorem wpList_copy_blk {P:Program} {w:World} {ops:Array Oper} {rest:List Oper} {o:Oper} {a:Act} {Q:Exit → Act → World → Prop} (hgd:o.guard = none) (d s:Operand) (dT sT:TypeId)
  (ho:o.op = .call { callee:=.builtin .copy,args:=#[d,s],argTypes:=#[dT,sT] }) (elem:TypeId) (hu:P.underlying dT = some (.slice elem)) (hsz:(P.info? elem).map (·.size) = some 1)
  (dp:Option Addr) (dLen dCap:Nat) (A:Option Addr) (m c:Nat) (xs:List Value) (hd:a.eval d = .slice dp dLen dCap) (hs:a.eval s = .slice A m c) (hsrc:Src w 1 A m xs)
  (g off:Nat) (cur:List Value) (t:TypeId) (hg:Blk w g t cur.toArray) (n:Nat) (hn:n = Nat.min m dLen) (hdp:0 < n → dp = some ⟨g,off,none⟩) (hfit:off + n ≤ cur.length) (h1:∀ u ∈ xs,u.oneCell' = true)
  (h:∀ w',Blk w' g t (splice cur off (xs.take n)).toArray → Mod (· = g) w w' → wpList P ops Q rest (a.put o.dst (goInt n)) w'):wpList P ops Q (o :: rest) a w:=by
 have hxl:xs.length = m:=by have:=hsrc.1;omega
 have hnm:n ≤ m:=by rw [hn];exact Nat.min_le_left _ _
 by_cases h0:n = 0
 ·refine wpList_copy_nothing hgd d s dT sT ho elem hu hsz dp A dLen dCap m c hd hs (by omega) ?_
  have:=h w (by rw [h0];simpa [splice] using hg) (Mod.refl _ _)
  rwa [h0] at this
 ·have hdp':=hdp (by omega)
  subst hdp'
  cases A with
  | none=>have:=hsrc.2.1 rfl;omega
  | some ad=>
   have hl:(xs.take n).length = n:=by rw [List.length_take];omega
   refine wpList_copy_own hgd d s dT sT ho elem hu hsz g off dLen dCap ad m c hd hs cur.toArray t hg (xs.take n) (by rw [hl,hn]) (fun j v hv=>?_) (by rw [hl];simpa using hfit) (fun v hv=>h1 v (List.mem_of_mem_take hv)) ?_
   ·rw [List.getElem?_take] at hv
    split at hv
    ·exact hsrc.2.2 ad rfl j v hv
    ·cases hv
   ·rw [hl]
    refine h _ ?_ ⟨rfl,rfl,rfl,by simp [World.setRow],fun k _ hk=>setRow_other w g k _ hk⟩
    have:=setRow_heap w g cur.toArray (splice cur off (xs.take n)).toArray t (0,0) hg
    simpa [Blk,splice,hl] using this
theorem Bytes.of_blk {w:World} {B g:Nat} {l:List UInt8} (hB:B ≤ g) (h:Blk w g 5 (u8s l).toArray) (hl:l.length ≤ maxLen):Bytes w B (.slice (some ⟨g,0,none⟩) l.length l.length) l:=
 ⟨by simp [u8s],.inr ⟨g,l.length,_,rfl,hB,h,Nat.le_refl _,hl,by simp [u8s],by rw [Nat.mul_one];exact List.take_of_length_le (by simp [u8s])⟩⟩
theorem own_whole {w:World} {B:Nat} {e:TypeId} {g n:Nat} {xs:List Value} (h:w.ownsRow B e 1 (.slice (some ⟨g,0,none⟩) n n) n xs):Blk w g e xs.toArray ∧ B ≤ g:=by
 rcases h.2 with ⟨hv,_⟩ | ⟨g',cap,cur,hv,hB,hg,_,_,hs,ht⟩
 ·cases hv
 ·injection hv with e1 _ e3
  injection e1 with e1
  injection e1 with e1
  subst e1 e3
  have:cur.toList = xs:=by rw [← ht,List.take_of_length_le (by simp;omega)]
  exact ⟨by rw [← this];exact hg,hB⟩
theorem int_info:(Tryz.prog.info? 3).map (fun i=>(i.zero,i.size,i.bytes)) = some (some (.int .i64 0),1,8):=by kernel_rfl
def i64s (l:List Int):List Value:=l.map (Value.int .i64)
theorem i64s_length (l:List Int):(i64s l).length = l.length:=by simp [i64s]
theorem i64s_one (l:List Int):∀ u ∈ i64s l,u.oneCell' = true:=fun u hu=>by
 obtain ⟨b,_,rfl⟩:=List.mem_map.1 hu
 rfl
def IntsOwn (w:World) (B:Nat) (v:Value) (l:List Int):Prop:=w.ownsRow B 3 1 v l.length (i64s l)
def IntsIn (w:World) (A:Option Addr) (n c:Nat) (l:List Int):Prop:=l.length = n ∧ (A = none → c = 0) ∧ Src w 1 A n (i64s l) ∧ (0 < n → ∀ ad,A = some ad → ad.block < w.heap.size)
theorem IntsIn.mod {w w':World} {S:Nat → Prop} {A:Option Addr} {n c:Nat} {l:List Int} (h:IntsIn w A n c l) (hm:Mod S w w') (hS:0 < n → ∀ ad,A = some ad → ¬ S ad.block):IntsIn w' A n c l:=by
 obtain ⟨h1,h2,h3,h4⟩:=h
 refine ⟨h1,h2,h3.keep' fun h0 ad e j=>World.cell?_of_block (by rw [addr_block];exact hm.block _ (h4 h0 ad e) (hS h0 ad e)),fun h0 ad e=>Nat.lt_of_lt_of_le (h4 h0 ad e) hm.size⟩
theorem IntsIn.quiet {w w':World} {A:Option Addr} {n c:Nat} {l:List Int} (h:IntsIn w A n c l) (hm:Mod (fun _=>False) w w'):IntsIn w' A n c l:=h.mod hm (fun _ _ _ h=>h)
theorem IntsOwn.in_ {w:World} {B:Nat} {A:Option Addr} {m c:Nat} {l:List Int} (h:IntsOwn w B (.slice A m c) l):IntsIn w A m c l:=by
 have hs:=Src.of_own h
 obtain ⟨rfl,hs⟩:=hs
 refine ⟨rfl,fun e=>?_,hs,fun _ ad e=>?_⟩
 ·rcases h.2 with ⟨hv,_⟩ | ⟨g,cap,cur,hv,_⟩
  ·injection hv
  ·subst e;injection hv with e1;cases e1
 ·rcases h.2 with ⟨hv,_⟩ | ⟨g,cap,cur,hv,hB,hg,_⟩
  ·subst e;injection hv with e1;cases e1
  ·subst e;injection hv with e1;injection e1 with e1;subst e1
   exact (Array.getElem?_eq_some_iff.1 hg).1
theorem IntsIn.place {w:World} {A:Option Addr} {n c:Nat} {l:List Int} (h:IntsIn w A n c l) (h0:0 < n):∃ b off,A = some ⟨b,off,none⟩ ∧ b < w.heap.size ∧ ∀ i < n,w.cell? ⟨b,off + i,none⟩ = some (.int .i64 (l.getD i 0)):=by
 obtain ⟨h1,h2,h3,h4⟩:=h
 cases A with
 | none=>have:=h3.2.1 rfl;omega
 | some ad=>
  obtain ⟨b,off,spot⟩:=ad
  have hl:0 < (i64s l).length:=by rw [i64s_length];omega
  have hc:=h3.2.2 _ rfl 0 _ (List.getElem?_eq_getElem hl)
  have hspot:spot = none:=by simpa [Addr.add] using World.cell?_spot hc
  subst hspot
  refine ⟨b,off,rfl,h4 h0 _ rfl,fun i hi=>?_⟩
  have h5:=h3.2.2 _ rfl i (.int .i64 (l.getD i 0)) (by simp [i64s,show i < l.length by omega])
  rwa [addr_add'] at h5
end Go.Proofs.YtmkopcojnibhlaaGreatDoor

