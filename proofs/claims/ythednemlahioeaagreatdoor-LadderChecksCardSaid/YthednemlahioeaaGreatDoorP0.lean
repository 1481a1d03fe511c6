/-
  Manifests in plain Lean: what is right, a text, what a text reads as; a right manifest's text reads as it. No program in sight.
-/
import Derived.Lib.ItoaNum
import Derived.Lib.AtoiAll
import Derived.Test.YthednemlahioeaaGreatDoorRows
import Derived.WalkKit
import Derived.WalkSpells
import Derived.WalkLawsBesides
import Derived.Deep.QuietTactic
import Derived.BigQuiet
import Derived.Deep.Draws
import Derived.Lib.Hide
import Derived.Laws.OwnMore
import Derived.Laws.AppendOwnNone
import Derived.Maps.AppendAt
import Derived.RegionTactic
import Derived.OwnWalk
import Derived.Laws.BytesString
import Derived.Laws.IdiomStrings
import Derived.Laws.CopyOwn
import Derived.BigRegion
import Derived.Deep.RegionHeld3
import Derived.Deep.Cut
import GoSem.Core.World
import Derived.Laws.BitsAllLaws
namespace Go.Proofs.YthednemlahioeaaGreatDoor
set_option maxRecDepth 100000
set_option maxHeartbeats 8000000
abbrev Str:=List UInt8
structure Pc where
 fr:Int
 sz:Int
 path:Str
 deriving DecidableEq
structure Ls where
 name:Str
 w:Int
 h:Int
 bw:Int
 init:Pc
 pieces:List Pc
 deriving DecidableEq
structure Mf where
 scale:Int
 tick:Int
 rends:List Ls
 deriving DecidableEq
def letterB (c:UInt8):Bool:=decide (97 ≤ c.toNat ∧ c.toNat ≤ 122) || decide (48 ≤ c.toNat ∧ c.toNat ≤ 57)
def nameB (s:Str):Bool:=decide (1 ≤ s.length ∧ s.length ≤ 8) && s.all letterB
/-! ### The text -/
/-! ### What a text reads as -/
def m0:Mf:=⟨0,0,[]⟩
/-! ### There and back -/
/-! ### Numerals -/
end Go.Proofs.YthednemlahioeaaGreatDoor
namespace Go.Proofs.YthednemlahioeaaGreatDoor
open Go.RowKit
set_option maxRecDepth 100000
set_option maxHeartbeats 8000000
def Blk (w:World) (g:Nat) (t:TypeId) (cs:Array Value):Prop:=w.heap[g]? = some (.cells cs t (0,0))
structure Mod (S:Nat → Prop) (w w':World):Prop where
 os:w'.os = w.os
 tape:w'.tape = w.tape
 output:w'.output = w.output
 size:w.heap.size ≤ w'.heap.size
 block:∀ k,k < w.heap.size → ¬ S k → w'.heap[k]? = w.heap[k]?
section
variable {w w' : World} {g : Nat} {t : TypeId} {cs : Array Value} {S : Nat → Prop}
theorem Blk.lt (h:Blk w g t cs):g < w.heap.size:=by
 rcases Nat.lt_or_ge g w.heap.size with hlt | hge
 ·exact hlt
 ·unfold Blk at h;rw [Array.getElem?_eq_none hge] at h;cases h
theorem Blk.cell (h:Blk w g t cs) (i:Nat):w.cell? ⟨g,i,none⟩ = cs[i]?:=cell_of_row w g i cs t (0,0) h
theorem Blk.frozen (h:Blk w g t cs) (i:Nat):w.frozen? ⟨g,i,none⟩ = false:=by
 unfold Blk at h
 simp [World.frozen?,h]
theorem Blk.both (h:Blk w g t cs):(∀ i,w.cell? ⟨g,i,none⟩ = cs[i]?) ∧ (∀ i,w.frozen? ⟨g,i,none⟩ = false):=⟨h.cell,h.frozen⟩
theorem Blk.new (w:World) (t:TypeId) (cs:Array Value):Blk (w.alloc (.cells cs t)) w.heap.size t cs:=heap_alloc_new w _
theorem Blk.drew (h:Blk w g t cs):Blk w.drew g t cs:=h
theorem Blk.drewN (h:Blk w g t cs) (n:Nat):Blk (w.drewN n) g t cs:=h
theorem Blk.alloc (h:Blk w g t cs) (o:Obj):Blk (w.alloc o) g t cs:=(Below.heap_alloc w o g h.lt).trans h
theorem Blk.set_ (h:Blk w g t cs) (i:Nat) (u:Value):Blk (w.setCell ⟨g,i,none⟩ u) g t (cs.setIfInBounds i u):=by
 unfold Blk at h ⊢
 simp [World.setCell,Array.getElem?_modify,h]
theorem Blk.put (h:Blk w g t cs) {i:Nat} {u:Value} {cs':Array Value} (e:cs.setIfInBounds i u = cs'):Blk (w.setCell ⟨g,i,none⟩ u) g t cs':=e ▸ h.set_ i u
theorem Blk.far (h:Blk w g t cs) {p:Addr} (hp:g ≠ p.block) (u:Value):Blk (w.setCell p u) g t cs:=(Below.heap_setCell w p u g hp).trans h
theorem Blk.keep (h:Blk w g t cs) (hm:Mod S w w') (hg:¬ S g):Blk w' g t cs:=(hm.block g h.lt hg).trans h
theorem Blk.ne_ {g':Nat} {t':TypeId} {cs':Array Value} (h:Blk w g t cs) (h':Blk w g' t' cs') (hne:t ≠ t'):g ≠ g':=by
 rintro rfl
 unfold Blk at h h'
 rw [h] at h'
 injection h' with h'
 injection h' with _ ht
 exact hne ht
theorem Blk.below {B:Nat} (h:Blk w g t cs) (hb:Below B w w') (hg:g < B):Blk w' g t cs:=(hb.block g hg).trans h
theorem Mod.refl (S:Nat → Prop) (w:World):Mod S w w:=⟨rfl,rfl,rfl,Nat.le_refl _,fun _ _ _=>rfl⟩
theorem Mod.trans {a b c : World} (h : Mod S a b) (k : Mod S b c) : Mod S a c :=
  ⟨k.os.trans h.os, k.tape.trans h.tape, k.output.trans h.output, Nat.le_trans h.size k.size,
   fun i hi hs => (k.block i (Nat.lt_of_lt_of_le hi h.size) hs).trans (h.block i hi hs)⟩
theorem Mod.then_ {S' : Nat → Prop} {a b c : World} (h : Mod S a b) (k : Mod S' b c) (hs : ∀ i, i < a.heap.size → S' i → S i) : Mod S a c :=
  ⟨k.os.trans h.os, k.tape.trans h.tape, k.output.trans h.output, Nat.le_trans h.size k.size,
   fun i hi hn => (k.block i (Nat.lt_of_lt_of_le hi h.size) (fun x => hn (hs i hi x))).trans (h.block i hi hn)⟩
theorem Mod.drew {a:World} (h:Mod S a w):Mod S a w.drew:=⟨h.os,h.tape,h.output,h.size,h.block⟩
theorem Mod.drewN {a:World} (h:Mod S a w) (n:Nat):Mod S a (w.drewN n):=⟨h.os,h.tape,h.output,h.size,h.block⟩
theorem Mod.alloc {a:World} (h:Mod S a w) (o:Obj):Mod S a (w.alloc o):=
 ⟨h.os,h.tape,h.output,Nat.le_trans h.size (by simp),fun i hi hne=>(Below.heap_alloc w o i (Nat.lt_of_lt_of_le hi h.size)).trans (h.block i hi hne)⟩
theorem Mod.setCell {a:World} (h:Mod S a w) {p:Addr} (hp:S p.block ∨ a.heap.size ≤ p.block) (u:Value):Mod S a (w.setCell p u):=
 ⟨h.os,h.tape,h.output,by simpa [World.setCell] using h.size,fun i hi hne=>(Below.heap_setCell w p u i (by
  rintro rfl
  rcases hp with hp | hp
  ·exact hne hp
  ·omega)).trans (h.block i hi hne)⟩
theorem Mod.below {a:World} (h:Mod S a w) (hS:∀ i,S i → a.heap.size ≤ i):Below a.heap.size a w:=
 ⟨h.os,h.tape,h.output,h.size,fun i hi=>h.block i hi (fun hs=>by have:=hS i hs;omega)⟩
theorem Mod.grown {a:World} {row:Option Nat} (h:Mod S a w) (hg:w.grownBy w' row) (hr:∀ k,row = some k → S k ∨ a.heap.size ≤ k):Mod S a w':=
 ⟨hg.os.trans h.os,hg.tape.trans h.tape,hg.output.trans h.output,Nat.le_trans h.size hg.size,fun i hi hs=>
  (hg.block i (Nat.lt_of_lt_of_le hi h.size) (fun e=>by rcases hr i e.symm with h' | h';exact hs h';omega)).trans (h.block i hi hs)⟩
end
theorem Mod.mono {S S':Nat → Prop} {w w':World} (h:Mod S w w') (hs:∀ i,S i → S' i):Mod S' w w':=⟨h.os,h.tape,h.output,h.size,fun k hk hn=>h.block k hk fun x=>hn (hs k x)⟩
theorem Mod.into {S S' : Nat → Prop} {a b c : World} (h : Mod S a b) (k : Mod S' b c) (hs : ∀ i, S' i → S i ∨ a.heap.size ≤ i) : Mod S a c :=
  ⟨k.os.trans h.os, k.tape.trans h.tape, k.output.trans h.output, Nat.le_trans h.size k.size,
   fun i hi hn => (k.block i (Nat.lt_of_lt_of_le hi h.size) (fun x => (hs i x).elim hn (by omega))).trans (h.block i hi hn)⟩
theorem own_shape {w:World} {B:Nat} {e:TypeId} {size n:Nat} {v:Value} {xs:List Value} (h:w.ownsRow B e size v n xs):∃ A c,v = .slice A n c:=by
 rcases h.2 with ⟨hv,h0⟩ | ⟨g,cap,cur,hv,_⟩
 ·exact ⟨none,0,by rw [hv,h0]⟩
 ·exact ⟨_,_,hv⟩
theorem addr_block (a:Addr) (n:Nat):(a.add n).block = a.block:=by
 unfold Addr.add
 split <;> rfl
def Src (w:World) (size:Nat) (A:Option Addr) (n:Nat) (xs:List Value):Prop:=
 xs.length = n * size ∧ (A = none → n = 0) ∧ ∀ ad,A = some ad → ∀ j u,xs[j]? = some u → w.cell? (ad.add j) = some u
section
variable {P : Program} {w w' : World} {size n : Nat} {A : Option Addr} {xs : List Value}
theorem Src.keep (h:Src w size A n xs) (hk:∀ ad,A = some ad → ∀ j,w'.cell? (ad.add j) = w.cell? (ad.add j)):Src w' size A n xs:=
 ⟨h.1,h.2.1,fun ad e j u hu=>(hk ad e j).trans (h.2.2 ad e j u hu)⟩
theorem Src.keep' (h:Src w size A n xs) (hk:0 < n → ∀ ad,A = some ad → ∀ j,w'.cell? (ad.add j) = w.cell? (ad.add j)):Src w' size A n xs:=by
 rcases Nat.eq_zero_or_pos n with h0 | h0
 ·subst h0
  have hx:xs = []:=List.eq_nil_of_length_eq_zero (by rw [h.1];simp)
  subst hx
  exact ⟨h.1,h.2.1,fun ad e j u hu=>by simp at hu⟩
 ·exact h.keep (hk h0)
theorem Src.of_own {base:Nat} {e:TypeId} {c:Nat} {m:Nat} (h:w.ownsRow base e size (.slice A m c) n xs):m = n ∧ Src w size A n xs:=by
 rcases h.2 with ⟨hv,rfl⟩ | ⟨g,cap,cur,hv,_,_⟩
 ·injection hv with h1 h2 h3
  subst h1;subst h2
  exact ⟨rfl,h.1,fun _=>rfl,fun _ h=>by cases h⟩
 ·injection hv with h1 h2 h3
  subst h1;subst h2
  refine ⟨rfl,h.1,fun h=>(by cases h),fun ad e j u hu=>?_⟩
  injection e with e
  subst e
  exact h.cells (g:=g) rfl j u hu
theorem Src.new (w:World) (t:TypeId) (xs:List Value):Src (w.alloc (.cells xs.toArray t)) xs.length (some ⟨w.heap.size,0,none⟩) 1 xs:=by
 refine ⟨by simp,fun h=>(by cases h),fun ad e j u hu=>?_⟩
 injection e with e
 subst e
 have hadd:(⟨w.heap.size,0,none⟩:Addr).add j = ⟨w.heap.size,j,none⟩:=by unfold Addr.add;split <;> simp_all
 rw [hadd,(Blk.new w t xs.toArray).cell j]
 simpa using hu
theorem append_src (w:World) (base:Nat) (t ty e:TypeId) (i:TypeInfo) (z:Value) (size bytes:Nat) (ht:P.underlying t = some (.slice e)) (hi:P.info? e = some i) (hz:i.zero = some z)
  (hsize:i.size = size) (hby:i.bytes = bytes) (hzs:z.cells.size = size) (hsz:0 < size)
  (v:Value) (n:Nat) (xs:List Value) (hown:w.ownsRow base e size v n xs)
  (A:Option Addr) (m c:Nat) (news:List Value) (hs:Src w size A m news) (hc:A = none → c = 0) (h1:∀ u ∈ news,u.oneCell' = true)
  (h63:n + m ≤ maxLen) (hbytes:(n + m) * bytes ≤ 140737488355328) (hbase:base ≤ w.heap.size) :
  ∃ v' w',(Builtin.append_ #[t,t] ty #[v,.slice A m c]).run P w = .ok v' w' ∧ w'.ownsRow base e size v' (n + m) (xs ++ news) ∧ w.grownBy w' v.ownBlock ∧
   (v'.ownBlock = v.ownBlock ∨ v'.ownBlock = some w.heap.size):=by
 cases A with
 | none=>
  obtain rfl:=hs.2.1 rfl
  obtain rfl:=hc rfl
  obtain rfl:news = []:=List.eq_nil_of_length_eq_zero (by rw [hs.1];simp)
  exact ⟨v,w,run_append_owned_none w base t ty e i size ht hi v n xs hown,by simpa using hown,World.grownBy.refl w _,.inl rfl⟩
 | some ad=>
  obtain ⟨v',w',hr,h2,h3,_,h5⟩:=run_append_own_at (P:=P) w base t ty e i z size bytes ht hi hz hsize hby hzs hsz v n xs hown ad m c news hs.1 (hs.2.2 ad rfl) h1 h63 hbytes hbase
  exact ⟨v',w',hr,h2,h3,h5⟩
theorem wp_append_src {o:Oper} {a:Act} {K:Act → World → Prop} {Q:Exit → Act → World → Prop} (w:World) (s x:Operand) (t:TypeId)
  (ho:o.op = .call { callee:=.builtin .append,args:=#[s,x],argTypes:=#[t,t] })
  (base:Nat) (e:TypeId) (i:TypeInfo) (z:Value) (size bytes:Nat) (ht:P.underlying t = some (.slice e)) (hi:P.info? e = some i) (hz:i.zero = some z)
  (hsize:i.size = size) (hby:i.bytes = bytes) (hzs:z.cells.size = size) (hsz:0 < size)
  (v:Value) (n:Nat) (xs:List Value) (hs:a.eval s = v) (hown:w.ownsRow base e size v n xs)
  (A:Option Addr) (m c:Nat) (news:List Value) (hx:a.eval x = .slice A m c) (hr:Src w size A m news) (hc:A = none → c = 0) (h1:∀ u ∈ news,u.oneCell' = true)
  (h63:n + m ≤ maxLen) (hbytes:(n + m) * bytes ≤ 140737488355328) (hbase:base ≤ w.heap.size)
  (h:∀ v' w',w'.ownsRow base e size v' (n + m) (xs ++ news) → w.grownBy w' v.ownBlock → (v'.ownBlock = v.ownBlock ∨ v'.ownBlock = some w.heap.size) → K (a.put o.dst v') w'):o.wp P a w K Q:=by
 obtain ⟨v',w',hrun,h2,h3,h4⟩:=append_src (P:=P) w base t o.type e i z size bytes ht hi hz hsize hby hzs hsz v n xs hown A m c news hr hc h1 h63 hbytes hbase
 unfold Oper.wp execOp
 simp only [ho,resolve,invoke,builtin,Sem.run_bind,Sem.run_pure,Result.andThen_ok,List.map_toArray,List.map_cons,List.map_nil,hs,hx,hrun]
 exact h v' w' h2 h3 h4
theorem wpList_append_src {ops:Array Oper} {rest:List Oper} {o:Oper} {a:Act} {Q:Exit → Act → World → Prop} (w:World) (hgd:o.guard = none) (s x:Operand) (t:TypeId)
  (ho:o.op = .call { callee:=.builtin .append,args:=#[s,x],argTypes:=#[t,t] })
  (base:Nat) (e:TypeId) (i:TypeInfo) (z:Value) (size bytes:Nat) (ht:P.underlying t = some (.slice e)) (hi:P.info? e = some i) (hz:i.zero = some z)
  (hsize:i.size = size) (hby:i.bytes = bytes) (hzs:z.cells.size = size) (hsz:0 < size)
  (v:Value) (n:Nat) (xs:List Value) (hs:a.eval s = v) (hown:w.ownsRow base e size v n xs)
  (A:Option Addr) (m c:Nat) (news:List Value) (hx:a.eval x = .slice A m c) (hr:Src w size A m news) (hc:A = none → c = 0) (h1:∀ u ∈ news,u.oneCell' = true)
  (h63:n + m ≤ maxLen) (hbytes:(n + m) * bytes ≤ 140737488355328) (hbase:base ≤ w.heap.size)
  (h:∀ v' w',w'.ownsRow base e size v' (n + m) (xs ++ news) → w.grownBy w' v.ownBlock → (v'.ownBlock = v.ownBlock ∨ v'.ownBlock = some w.heap.size) → wpList P ops Q rest (a.put o.dst v') w'):wpList P ops Q (o :: rest) a w:=
 wpList_plain hgd fun _ hK=>wp_append_src w s x t ho base e i z size bytes ht hi hz hsize hby hzs hsz v n xs hs hown A m c news hx hr hc h1 h63 hbytes hbase fun v' w' h2 h3 h4=>hK _ _ (h v' w' h2 h3 h4)
theorem own_mod {S:Nat → Prop} {base:Nat} {e:TypeId} {v:Value} (h:w.ownsRow base e size v n xs) (hm:Mod S w w') (hS:∀ g,v.ownBlock = some g → ¬ S g):w'.ownsRow base e size v n xs:=by
 refine ⟨h.1,?_⟩
 rcases h.2 with hn | ⟨g,cap,cur,rfl,hb,hgg,rest⟩
 ·exact .inl hn
 ·exact .inr ⟨g,cap,cur,rfl,hb,(hm.block g (Array.getElem?_eq_some_iff.1 hgg).1 (hS g rfl)).trans hgg,rest⟩
theorem own_ne_blk {g:Nat} {t:TypeId} {cs:Array Value} {base:Nat} {e:TypeId} {v:Value} (h:w.ownsRow base e size v n xs) (hg:Blk w g t cs) (hne:e ≠ t):v.ownBlock ≠ some g:=by
 rcases h.2 with ⟨rfl,_⟩ | ⟨g',cap,cur,rfl,_,hh,_⟩
 ·simp [Value.ownBlock]
 ·intro he
  obtain rfl:g' = g:=by simpa [Value.ownBlock] using he
  exact Blk.ne_ (t:=e) hh hg hne rfl
end
theorem own_base {B B':Nat} {w:World} {e:TypeId} {size n:Nat} {v:Value} {xs:List Value} (h:w.ownsRow B e size v n xs) (hB:B' ≤ B):w.ownsRow B' e size v n xs:=
 ⟨h.1,h.2.imp id (fun ⟨g,cap,cur,h1,h2,h3⟩=>⟨g,cap,cur,h1,by omega,h3⟩)⟩
theorem own_blk {B:Nat} {w:World} {e:TypeId} {size n:Nat} {v:Value} {xs:List Value} {k:Nat} (h:w.ownsRow B e size v n xs) (hk:v.ownBlock = some k):B ≤ k ∧ ∃ cs,Blk w k e cs:=by
 rcases h.2 with ⟨rfl,_⟩ | ⟨g,cap,cur,rfl,hb,hgg,rest⟩
 ·simp [Value.ownBlock] at hk
 ·obtain rfl:g = k:=by simpa [Value.ownBlock] using hk
  exact ⟨hb,cur,hgg⟩
theorem addr_add (r j:Nat):(⟨r,0,none⟩:Addr).add j = ⟨r,j,none⟩:=by unfold Addr.add;split <;> simp_all
theorem addr_add' (r o j:Nat):(⟨r,o,none⟩:Addr).add j = ⟨r,o + j,none⟩:=by unfold Addr.add;split <;> simp_all
theorem u8_info:(Tryz.prog.info? 5).map (fun i=>(i.zero,i.size,i.bytes)) = some (some (.int .u8 0),1,1):=by kernel_rfl
def u8s (l:List UInt8):List Value:=l.map fun b=>.int .u8 (b.toNat:Int)
theorem u8s_one (l:List UInt8):∀ u ∈ u8s l,u.oneCell' = true:=fun u hu=>by
 obtain ⟨b,_,rfl⟩:=List.mem_map.1 hu
 rfl
theorem u8s_length (l:List UInt8):(u8s l).length = l.length:=by simp [u8s]
def Bytes (w:World) (B:Nat) (v:Value) (l:List UInt8):Prop:=w.ownsRow B 5 1 v l.length (u8s l)
def BytesIn (w:World) (A:Option Addr) (n c:Nat) (l:List UInt8):Prop:=l.length = n ∧ (A = none → c = 0) ∧ Src w 1 A n (u8s l) ∧ (0 < n → ∀ ad,A = some ad → ad.block < w.heap.size)
def strOf (l:List UInt8):ByteArray:=⟨l.toArray⟩
theorem BytesIn.mod {w w':World} {S:Nat → Prop} {A:Option Addr} {n c:Nat} {l:List UInt8} (h:BytesIn w A n c l) (hm:Mod S w w') (hS:0 < n → ∀ ad,A = some ad → ¬ S ad.block):BytesIn w' A n c l:=by
 obtain ⟨h1,h2,h3,h4⟩:=h
 refine ⟨h1,h2,h3.keep' fun h0 ad e j=>World.cell?_of_block (by rw [addr_block];exact hm.block _ (h4 h0 ad e) (hS h0 ad e)),fun h0 ad e=>Nat.lt_of_lt_of_le (h4 h0 ad e) hm.size⟩
theorem BytesIn.quiet {w w':World} {A:Option Addr} {n c:Nat} {l:List UInt8} (h:BytesIn w A n c l) (hm:Mod (fun _=>False) w w'):BytesIn w' A n c l:=h.mod hm (fun _ _ _ h=>h)
theorem Bytes.in_ {w:World} {B:Nat} {A:Option Addr} {m c:Nat} {l:List UInt8} (h:Bytes w B (.slice A m c) l):BytesIn w A m c l:=by
 have hs:=Src.of_own h
 obtain ⟨rfl,hs⟩:=hs
 refine ⟨rfl,fun e=>?_,hs,fun _ ad e=>?_⟩
 ·rcases h.2 with ⟨hv,_⟩ | ⟨g,cap,cur,hv,_⟩
  ·injection hv
  ·subst e;injection hv with e1;cases e1
 ·rcases h.2 with ⟨hv,_⟩ | ⟨g,cap,cur,hv,hB,hg,_⟩
  ·subst e;injection hv with e1;cases e1
  ·subst e;injection hv with e1;injection e1 with e1;subst e1
   exact (Array.getElem?_eq_some_iff.1 hg).1
theorem Bytes.cell {w:World} {B r n c:Nat} {l:List UInt8} (h:Bytes w B (.slice (some ⟨r,0,none⟩) n c) l) (i:Nat) (hi:i < l.length):w.cell? ⟨r,i,none⟩ = some (.int .u8 ((l.getD i 0).toNat:Int)):=by
 have:=World.ownsRow.cells h (g:=r) rfl i (.int .u8 ((l.getD i 0).toNat:Int)) (by simp [u8s,List.getD_eq_getElem?_getD,hi])
 rwa [addr_add] at this
theorem Bytes.some_ {w:World} {B n c:Nat} {A:Option Addr} {l:List UInt8} (h:Bytes w B (.slice A n c) l) (h0:0 < l.length):∃ r,A = some ⟨r,0,none⟩ ∧ l.length ≤ c:=by
 rcases h.2 with ⟨_,h1⟩ | ⟨r,cap,cur,hv,_,_,hc,_⟩
 ·omega
 ·injection hv with e1 _ e3
  exact ⟨r,e1,by omega⟩
theorem wpList_copy_blk {P:Program} {w:World} {ops:Array Oper} {rest:List Oper} {o:Oper} {a:Act} {Q:Exit → Act → World → Prop} (hgd:o.guard = none) (d s:Operand) (dT sT:TypeId)
  (ho:o.op = .call { callee:=.builtin .copy,args:=#[d,s],argTypes:=#[dT,sT] }) (elem:TypeId) (hu:P.underlying dT = some (.slice elem)) (hsz:(P.info? elem).map (·.size) = some 1)
  (dp:Option Addr) (dLen dCap:Nat) (A:Option Addr) (m c:Nat) (xs:List Value) (hd:a.eval d = .slice dp dLen dCap) (hs:a.eval s = .slice A m c) (hsrc:Src w 1 A m xs)
  (g off:Nat) (cur:List Value) (t:TypeId) (hg:Blk w g t cur.toArray) (n:Nat) (hn:n = Nat.min m dLen) (hdp:0 < n → dp = some ⟨g,off,none⟩) (hfit:off + n ≤ cur.length) (h1:∀ u ∈ xs,u.oneCell' = true)
  (h:∀ w',Blk w' g t (splice cur off (xs.take n)).toArray → Mod (· = g) w w' → wpList P ops Q rest (a.put o.dst (goInt n)) w'):wpList P ops Q (o :: rest) a w:=by
 have hxl:xs.length = m:=by have:=hsrc.1;omega
 have hnm:n ≤ m:=by rw [hn];exact Nat.min_le_left _ _
 by_cases h0:n = 0
 ·refine wpList_copy_nothing hgd d s dT sT ho elem hu hsz dp A dLen dCap m c hd hs (by omega) ?_
  have:=h w (by rw [h0];simpa [splice] using hg) (Mod.refl _ _)
  rwa [h0] at this
 ·have hdp':=hdp (by omega)
  subst hdp'
  cases A with
  | none=>have:=hsrc.2.1 rfl;omega
  | some ad=>
   have hl:(xs.take n).length = n:=by rw [List.length_take];omega
   refine wpList_copy_own hgd d s dT sT ho elem hu hsz g off dLen dCap ad m c hd hs cur.toArray t hg (xs.take n) (by rw [hl,hn]) (fun j v hv=>?_) (by rw [hl];simpa using hfit) (fun v hv=>h1 v (List.mem_of_mem_take hv)) ?_
   ·rw [List.getElem?_take] at hv
    split at hv
    ·exact hsrc.2.2 ad rfl j v hv
    ·cases hv
   ·rw [hl]
    refine h _ ?_ ⟨rfl,rfl,rfl,by simp [World.setRow],fun k _ hk=>setRow_other w g k _ hk⟩
    have:=setRow_heap w g cur.toArray (splice cur off (xs.take n)).toArray t (0,0) hg
    simpa [Blk,splice,hl] using this
theorem Bytes.of_blk {w:World} {B g:Nat} {l:List UInt8} (hB:B ≤ g) (h:Blk w g 5 (u8s l).toArray) (hl:l.length ≤ maxLen):Bytes w B (.slice (some ⟨g,0,none⟩) l.length l.length) l:=
 ⟨by simp [u8s],.inr ⟨g,l.length,_,rfl,hB,h,Nat.le_refl _,hl,by simp [u8s],by rw [Nat.mul_one];exact List.take_of_length_le (by simp [u8s])⟩⟩
theorem own_whole {w:World} {B:Nat} {e:TypeId} {g n:Nat} {xs:List Value} (h:w.ownsRow B e 1 (.slice (some ⟨g,0,none⟩) n n) n xs):Blk w g e xs.toArray ∧ B ≤ g:=by
 rcases h.2 with ⟨hv,_⟩ | ⟨g',cap,cur,hv,hB,hg,_,_,hs,ht⟩
 ·cases hv
 ·injection hv with e1 _ e3
  injection e1 with e1
  injection e1 with e1
  subst e1 e3
  have:cur.toList = xs:=by rw [← ht,List.take_of_length_le (by simp;omega)]
  exact ⟨by rw [← this];exact hg,hB⟩
def seqRight (W H G:Int):Bool:=decide ((16 ≤ W ∧ W ≤ 4096 ∧ W % 16 = 0) ∧ (16 ≤ H ∧ H ≤ 4096 ∧ H % 16 = 0) ∧ 1 ≤ G ∧ G ≤ 64)
theorem synRight_yes (w:World) (W H G:Int) (h:seqRight W H G = true):Calls Tryz.prog 93 #[.agg #[.int .i64 W,.int .i64 H,.int .i64 G]] w fun e w'=>e = .returned (.bool true) ∧ Mod (fun _=>False) w w':=by
 unfold seqRight at h
 simp only [decide_eq_true_eq] at h
 obtain ⟨⟨a1,a2,a3⟩,⟨b1,b2,b3⟩,c1,c2⟩:=h
 have a4:(W % 16 != 0) = false:=by rw [a3];rfl
 have b4:(H % 16 != 0) = false:=by rw [b3];rfl
 clear a3 b3
 have ix0:∀ w,(Instr.index 22 (.agg #[.int .i64 W,.int .i64 H]) (.int .i64 0)).run Tryz.prog w = .ok (.int .i64 W) w:=fun _=>by kernel_rfl
 have ix1:∀ w,(Instr.index 22 (.agg #[.int .i64 W,.int .i64 H]) (.int .i64 1)).run Tryz.prog w = .ok (.int .i64 H) w:=fun _=>by kernel_rfl
 go_enter Tryz.func93,Tryz.ntmps93
 go_wp2_with fail
 refine wp_loop_rounds 3 ?_;rw [rounds_succ]
 go_wp2_with fail
 rw [rounds_succ]
 go_wp2_with fail
 rw [rounds_succ]
 go_wp2_with fail
 go_ret
 exact ⟨rfl,(Mod.refl _ _).alloc _⟩
theorem synRight_no (w:World) (W H G:Int) (h:seqRight W H G = false):Calls Tryz.prog 93 #[.agg #[.int .i64 W,.int .i64 H,.int .i64 G]] w fun e w'=>e = .returned (.bool false) ∧ Mod (fun _=>False) w w':=by
 unfold seqRight at h
 simp only [decide_eq_false_iff_not] at h
 have ix0:∀ w,(Instr.index 22 (.agg #[.int .i64 W,.int .i64 H]) (.int .i64 0)).run Tryz.prog w = .ok (.int .i64 W) w:=fun _=>by kernel_rfl
 have ix1:∀ w,(Instr.index 22 (.agg #[.int .i64 W,.int .i64 H]) (.int .i64 1)).run Tryz.prog w = .ok (.int .i64 H) w:=fun _=>by kernel_rfl
 by_cases hW:16 ≤ W ∧ W ≤ 4096 ∧ W % 16 = 0
 ·obtain ⟨a1,a2,a3⟩:=hW
  have a4:(W % 16 != 0) = false:=by rw [a3];rfl
  by_cases hH:16 ≤ H ∧ H ≤ 4096 ∧ H % 16 = 0
  ·obtain ⟨b1,b2,b3⟩:=hH
   have b4:(H % 16 != 0) = false:=by rw [b3];rfl
   have hG:G < 1 ∨ 64 < G:=by omega
   clear h a3 b3
   go_enter Tryz.func93,Tryz.ntmps93
   go_wp2_with fail
   refine wp_loop_rounds 3 ?_;rw [rounds_succ]
   go_wp2_with fail
   rw [rounds_succ]
   go_wp2_with fail
   rw [rounds_succ]
   rcases hG with hG | hG
   ·have g1:decide (1 ≤ G) = false:=by simp;omega
    go_wp2_with fail
    go_ret
    exact ⟨rfl,(Mod.refl _ _).alloc _⟩
   ·have g1:decide (1 ≤ G) = true:=by simp;omega
    have g2:decide (G ≤ 64) = false:=by simp;omega
    go_wp2_with fail
    go_ret
    exact ⟨rfl,(Mod.refl _ _).alloc _⟩
  ·have hH':H < 16 ∨ 4096 < H ∨ (16 ≤ H ∧ H ≤ 4096 ∧ (H % 16 != 0) = true):=by
    by_cases x1:H < 16
    ·exact .inl x1
    ·by_cases x2:4096 < H
     ·exact .inr (.inl x2)
     ·exact .inr (.inr ⟨by omega,by omega,by simp;omega⟩)
   clear h a3 hH
   go_enter Tryz.func93,Tryz.ntmps93
   go_wp2_with fail
   refine wp_loop_rounds 3 ?_;rw [rounds_succ]
   go_wp2_with fail
   rw [rounds_succ]
   rcases hH' with hH | hH | ⟨h1,h2,h3⟩
   all_goals
    go_wp2_with fail
    go_ret
    exact ⟨rfl,(Mod.refl _ _).alloc _⟩
 ·have hW':W < 16 ∨ 4096 < W ∨ (16 ≤ W ∧ W ≤ 4096 ∧ (W % 16 != 0) = true):=by
   by_cases x1:W < 16
   ·exact .inl x1
   ·by_cases x2:4096 < W
    ·exact .inr (.inl x2)
    ·exact .inr (.inr ⟨by omega,by omega,by simp;omega⟩)
  clear h hW
  go_enter Tryz.func93,Tryz.ntmps93
  go_wp2_with fail
  refine wp_loop_rounds 3 ?_;rw [rounds_succ]
  rcases hW' with hW | hW | ⟨h1,h2,h3⟩
  all_goals
   go_wp2_with fail
   go_ret
   exact ⟨rfl,(Mod.refl _ _).alloc _⟩
end Go.Proofs.YthednemlahioeaaGreatDoor

namespace Go.Proofs.YthednemlahioeaaGreatDoor
set_option maxRecDepth 100000
set_option maxHeartbeats 8000000
structure Rg where
 name:List UInt8
 down:Int
 q:Int
 tg:Int
 deriving DecidableEq
def Rg.zero:Rg:=⟨[],0,0,0⟩
def halved (n d:Int):Int:=n / (2 ^ d.toNat:Nat)
def rungArgsB (r:Rg):Bool:=decide (0 ≤ r.down ∧ r.down ≤ 3 ∧ 0 ≤ r.q ∧ r.q ≤ 31 ∧ 0 ≤ r.tg ∧ r.tg ≤ 1048576)
def rungB (w h gop:Int) (r:Rg):Bool:=
 nameB r.name && (rungArgsB r && (seqRight (halved w r.down) (halved h r.down) gop && (decide (halved w r.down * (2 ^ r.down.toNat:Nat) = w) && decide (halved h r.down * (2 ^ r.down.toNat:Nat) = h))))
def rungsB (w h gop:Int) (l:List Rg) (n:Nat):Bool:=
 (List.range n).all fun i=>rungB w h gop (l.getD i Rg.zero) && (List.range i).all fun k=>decide ((l.getD k Rg.zero).name ≠ (l.getD i Rg.zero).name)
def ladderB (w h gop:Int) (l:List Rg):Bool:=decide (1 ≤ l.length ∧ l.length ≤ 8) && rungsB w h gop l l.length
theorem rungsB_succ (w h gop:Int) (l:List Rg) (n:Nat):rungsB w h gop l (n + 1) = (rungsB w h gop l n && (rungB w h gop (l.getD n Rg.zero) && (List.range n).all fun k=>decide ((l.getD k Rg.zero).name ≠ (l.getD n Rg.zero).name))):=by
 unfold rungsB
 rw [List.range_succ,List.all_append,List.all_cons,List.all_nil,Bool.and_true]
theorem rungsB_no {w h gop:Int} {l:List Rg} {n m:Nat} (hn:n ≤ m) (h0:rungsB w h gop l n = false):rungsB w h gop l m = false:=by
 induction m with
 | zero=>
  obtain rfl:n = 0:=by omega
  exact h0
 | succ m ih=>
  by_cases hm:n = m + 1
  ·rw [← hm]
   exact h0
  ·rw [rungsB_succ,ih (by omega),Bool.false_and]
theorem same_no {l:List Rg} {n k:Nat} (hk:k < n) (h:(l.getD k Rg.zero).name = (l.getD n Rg.zero).name):((List.range n).all fun k=>decide ((l.getD k Rg.zero).name ≠ (l.getD n Rg.zero).name)) = false:=by
 rw [Bool.eq_false_iff]
 intro ha
 rw [List.all_eq_true] at ha
 have:=of_decide_eq_true (ha k (List.mem_range.2 hk))
 exact this h
theorem halved_0 (n:Int):halved n 0 = n:=by unfold halved;simp
theorem seqRight_tdiv (w h g p:Int) (hp:1 ≤ p):seqRight (w.tdiv p) (h.tdiv p) g = seqRight (w / p) (h / p) g:=by
 have one:∀ n:Int,(16 ≤ n.tdiv p ↔ 16 ≤ n / p) ∧ (0 ≤ n → n.tdiv p = n / p):=fun n=>by
  by_cases hn:0 ≤ n
  ·exact ⟨by rw [Int.tdiv_eq_ediv_of_nonneg hn],fun h=>Int.tdiv_eq_ediv_of_nonneg h⟩
  ·refine ⟨?_,fun h=>absurd h hn⟩
   have h1:n / p < 0:=Int.ediv_neg_of_neg_of_pos (by omega) (by omega)
   have h2:n.tdiv p ≤ 0:=by
    have:=Int.neg_tdiv n p
    have h3:0 ≤ (-n).tdiv p:=Int.tdiv_nonneg (by omega) (by omega)
    omega
   constructor <;> intro h <;> omega
 obtain ⟨a1,a2⟩:=one w
 obtain ⟨b1,b2⟩:=one h
 by_cases hw:0 ≤ w
 ·by_cases hh:0 ≤ h
  ·rw [a2 hw,b2 hh]
  ·have c1:h / p < 0:=Int.ediv_neg_of_neg_of_pos (by omega) (by omega)
   unfold seqRight
   rw [a2 hw,decide_eq_false (by omega),decide_eq_false (by omega)]
 ·have c1:w / p < 0:=Int.ediv_neg_of_neg_of_pos (by omega) (by omega)
  unfold seqRight
  rw [decide_eq_false (by omega),decide_eq_false (by omega)]
theorem tdiv_pos {n p:Int} (hp:1 ≤ p) (h:16 ≤ n.tdiv p):n.tdiv p = n / p:=by
 by_cases hn:0 ≤ n
 ·exact Int.tdiv_eq_ediv_of_nonneg hn
 ·have:=Int.neg_tdiv n p
  have h3:0 ≤ (-n).tdiv p:=Int.tdiv_nonneg (by omega) (by omega)
  omega
theorem rungB_args {W H G:Int} {nm:List UInt8} {d:Nat} {q t:Int} (hn:nameB nm = true) (ha:rungArgsB ⟨nm,(d:Int),q,t⟩ = true) (p:Int) (hp:p = ((2 ^ d:Nat):Int)) :
  rungB W H G ⟨nm,(d:Int),q,t⟩ = (seqRight (W.tdiv p) (H.tdiv p) G && (decide (W.tdiv p * p = W) && decide (H.tdiv p * p = H))):=by
 have hp1:1 ≤ p:=by
  have:0 < 2 ^ d:=Nat.pow_pos (by omega)
  omega
 have e:∀ n:Int,halved n (d:Int) = n / p:=fun n=>by unfold halved;rw [hp];rfl
 unfold rungB
 rw [ha]
 dsimp only
 rw [hn,Bool.true_and,Bool.true_and,e,e,show (((2 ^ (d:Int).toNat:Nat)):Int) = p from by rw [hp];rfl,seqRight_tdiv W H G p hp1]
 cases hs:seqRight (W / p) (H / p) G with
 | false=>rw [Bool.false_and,Bool.false_and]
 | true=>
  have hs2:=hs
  rw [← seqRight_tdiv W H G p hp1] at hs2
  unfold seqRight at hs2
  rw [decide_eq_true_eq] at hs2
  rw [tdiv_pos hp1 hs2.1.1,tdiv_pos hp1 hs2.2.1.1]
end Go.Proofs.YthednemlahioeaaGreatDoor
