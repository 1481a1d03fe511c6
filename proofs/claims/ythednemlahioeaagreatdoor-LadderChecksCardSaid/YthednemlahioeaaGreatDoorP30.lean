/-
  Rows of any elements: one element appended onto a row of the call's own; a row that is read, with the blocks that it lies in.
-/
import Derived.Test.YthednemlahioeaaGreatDoorP0
import Derived.Test.YthednemlahioeaaGreatDoorP25
import Derived.Test.YthednemlahioeaaGreatDoorP28
import Derived.Test.YthednemlahioeaaGreatDoorP27
import Derived.RangeFuncNested
import Derived.RangeFuncBound
import Derived.RangeFuncCalls
import Derived.RangeFuncLeaves
import Derived.Shelf.Abstract
import Derived.WalkKit
import Derived.OwnWalkIn
import Derived.TacticsInMore
import Derived.LoopNIn
import Derived.LoopIn
namespace Go.Proofs.YthednemlahioeaaGreatDoor
open Go.RowKit
set_option maxRecDepth 100000
set_option maxHeartbeats 8000000
theorem own_one (w:World) {B:Nat} {e:TypeId} {size n:Nat} {v:Value} {xs:List Value} {cells:List Value} {v':Value} {w':World} (hown:w.ownsRow B e size v n xs)
  (h2:(w.alloc (.cells cells.toArray e)).grownBy w' v.ownBlock) (h3:v'.ownBlock = v.ownBlock ∨ v'.ownBlock = some (w.alloc (.cells cells.toArray e)).heap.size) :
  Mod (fun j=>v.ownBlock = some j) w w' ∧ (∀ (W:World) (S:Nat → Prop),W.heap.size ≤ B → Mod S W w → Mod S W w') ∧ (∀ g,v'.ownBlock = some g → v.ownBlock = some g ∨ w.heap.size ≤ g):=by
 have hM:Mod (fun j=>v.ownBlock = some j) w w':=((Mod.refl _ _).alloc _).grown h2 (fun k hk=>.inl hk)
 refine ⟨hM,fun W S hW hS=>hS.into hM (fun i e=>.inr (Nat.le_trans hW (hown.lt i e).1)),fun g hg=>?_⟩
 rcases h3 with h3 | h3
 ·exact .inl (h3 ▸ hg)
 ·rw [h3] at hg
  injection hg with hg
  exact .inr (by simp at hg;omega)
section
variable {P : Program} {ops : Array Oper} {rest : List Oper} {o : Oper} {a : Act} {Q : Exit → Act → World → Prop}
theorem wpList_app_one (w:World) (hgd:o.guard = none) (s x:Operand) (t e:TypeId) (ho:o.op = .call { callee:=.builtin .append,args:=#[s,x],argTypes:=#[t,t] })
  (ht:P.underlying t = some (.slice e)) (z:Value) (size bytes:Nat) (hi:(P.info? e).map (fun i=>(i.zero,i.size,i.bytes)) = some (some z,size,bytes)) (hzs:z.cells.size = size) (hsz:0 < size)
  (B:Nat) (v:Value) (n:Nat) (xs cells:List Value) (hcl:cells.length = size) (h1:∀ u ∈ cells,u.oneCell' = true) (gq:Nat) (hgq:w.heap.size = gq) (hs:a.eval s = v) (hx:a.eval x = .slice (some ⟨gq,0,none⟩) 1 1)
  (hown:w.ownsRow B e size v n xs) (hB:B ≤ w.heap.size) (h63:n + 1 ≤ maxLen) (hby:(n + 1) * bytes ≤ 140737488355328)
  (h:∀ v' w',w'.ownsRow B e size v' (n + 1) (xs ++ cells) → Mod (fun j=>v.ownBlock = some j) w w' → (∀ (W:World) (S:Nat → Prop),W.heap.size ≤ B → Mod S W w → Mod S W w') → (∀ g,v'.ownBlock = some g → v.ownBlock = some g ∨ w.heap.size ≤ g) → wpList P ops Q rest (a.put o.dst v') w') :
  wpList P ops Q (o :: rest) a (w.alloc (.cells cells.toArray e)):=by
 obtain ⟨i0,hi0,hz0,hz1,hz2⟩:=info_parts hi
 subst hcl
 subst hgq
 refine wpList_append_src _ hgd s x t ho B e i0 z cells.length bytes ht hi0 hz0 hz1 hz2 hzs hsz v n xs hs (own_mod hown ((Mod.refl (fun _=>False) w).alloc _) (fun _ _ h=>h)) (some ⟨w.heap.size,0,none⟩) 1 1 cells hx (Src.new w e cells) (fun h=>by cases h) h1 h63 hby (by simp;omega) ?_
 intro v' w' g1 g2 g3
 obtain ⟨m1,m2,m3⟩:=own_one w hown g2 g3
 exact h v' w' g1 m1 m2 m3
end
structure RowIn (w:World) (F:Nat → Prop) (size:Nat) (v:Value) (n:Nat) (xs:List Value):Prop where
 ex:∃ A c,v = .slice A n c ∧ n ≤ c ∧ (A = none → c = 0) ∧ Src w size A n xs ∧ ∀ ad,A = some ad → 0 < n → ad.block < w.heap.size ∧ F ad.block
section
variable {w w' : World} {F F' : Nat → Prop} {size n : Nat} {v : Value} {xs : List Value}
theorem RowIn.turn {S:Nat → Prop} (h:RowIn w F size v n xs) (hm:Mod S w w') (hS:∀ k,F k → k < w.heap.size → ¬ S k) (hF:∀ k,F k → k < w.heap.size → F' k):RowIn w' F' size v n xs:=by
 obtain ⟨A,c,h1,h2,h3,h4,h5⟩:=h.ex
 exact ⟨A,c,h1,h2,h3,h4.keep' (fun h0 ad e j=>World.cell?_of_block (by rw [addr_block];exact hm.block _ (h5 ad e h0).1 (hS _ (h5 ad e h0).2 (h5 ad e h0).1))),fun ad e h0=>⟨Nat.lt_of_lt_of_le (h5 ad e h0).1 hm.size,hF _ (h5 ad e h0).2 (h5 ad e h0).1⟩⟩
theorem RowIn.of_own {B:Nat} {e:TypeId} (h:w.ownsRow B e size v n xs) (hF:∀ k,v.ownBlock = some k → F k):RowIn w F size v n xs:=by
 rcases h.2 with ⟨rfl,h0⟩ | ⟨g,cap,cur,rfl,hb,hgg,hn,_⟩
 ·subst h0
  exact ⟨none,0,rfl,Nat.le_refl _,fun _=>rfl,⟨h.1,fun _=>rfl,fun _ e=>by cases e⟩,fun _ e=>by cases e⟩
 ·refine ⟨_,_,rfl,hn,fun e=>(by cases e),(Src.of_own h).2,fun ad e h0=>?_⟩
  injection e with e
  subst e
  exact ⟨(Array.getElem?_eq_some_iff.1 hgg).1,hF g (by simp [Value.ownBlock])⟩
theorem RowIn.place (h:RowIn w F size v n xs) (h0:0 < n) (hz:0 < size):∃ b o c,v = .slice (some ⟨b,o,none⟩) n c ∧ n ≤ c ∧ b < w.heap.size ∧ F b ∧ ∀ j u,xs[j]? = some u → w.cell? ⟨b,o + j,none⟩ = some u:=by
 obtain ⟨A,c,rfl,h2,h3,h4,h5⟩:=h.ex
 cases A with
 | none=>have:=h4.2.1 rfl;omega
 | some ad=>
  obtain ⟨b,o,spot⟩:=ad
  have hl:0 < xs.length:=by rw [h4.1];exact Nat.mul_pos h0 hz
  have hc:=h4.2.2 _ rfl 0 _ (List.getElem?_eq_getElem hl)
  have hspot:spot = none:=by simpa [Addr.add] using World.cell?_spot hc
  subst hspot
  refine ⟨b,o,c,rfl,h2,(h5 _ rfl h0).1,(h5 _ rfl h0).2,fun j u hj=>?_⟩
  have h6:=h4.2.2 _ rfl j u hj
  rwa [addr_add'] at h6
theorem RowIn.shape (h:RowIn w F size v n xs):∃ A c,v = .slice A n c ∧ n ≤ c:=by
 obtain ⟨A,c,h1,h2,_⟩:=h.ex
 exact ⟨A,c,h1,h2⟩
end
section
variable {α : Type} {size : Nat} {R R' : α → List Value → Prop} {l : List α} {xs : List Value}
theorem flatten_get {cs:List (List Value)} {k:Nat}:(∀ c ∈ cs,c.length = k) → ∀ {i:Nat} {c:List Value},cs[i]? = some c → ∀ j < k,cs.flatten[i * k + j]? = c[j]?:=by
 induction cs with
 | nil=>intro _ i c h;simp at h
 | cons y r ih=>
  intro hk i c h j hj
  have hy:y.length = k:=hk y (by simp)
  cases i with
  | zero=>
   simp at h
   subst h
   rw [List.flatten_cons,List.getElem?_append_left (by omega),Nat.zero_mul,Nat.zero_add]
  | succ i=>
   rw [List.getElem?_cons_succ] at h
   rw [List.flatten_cons,List.getElem?_append_right (by rw [hy,Nat.add_mul];omega),hy,show (i + 1) * k + j - k = i * k + j by rw [Nat.add_mul];omega]
   exact ih (fun c hc=>hk c (by simp [hc])) h j hj
def CellsOf (size:Nat) (R:α → List Value → Prop) (l:List α) (xs:List Value):Prop:=
 ∃ cs:List (List Value),cs.length = l.length ∧ xs = cs.flatten ∧ (∀ c ∈ cs,c.length = size) ∧ ∀ (i:Nat) (x:α) (c:List Value),l[i]? = some x → cs[i]? = some c → R x c
theorem CellsOf.nil:CellsOf size R [] []:=⟨[],rfl,rfl,by simp,by simp⟩
theorem CellsOf.snoc {x:α} {c:List Value} (h:CellsOf size R l xs) (hx:R x c) (hc:c.length = size):CellsOf size R (l ++ [x]) (xs ++ c):=by
 obtain ⟨cs,h1,rfl,h3,h4⟩:=h
 refine ⟨cs ++ [c],by simp [h1],by simp,fun d hd=>?_,fun i y d hy hd=>?_⟩
 ·rcases List.mem_append.1 hd with hd | hd
  ·exact h3 d hd
  ·rw [List.mem_singleton.1 hd]
   exact hc
 ·by_cases hi:i < l.length
  ·rw [List.getElem?_append_left hi] at hy
   rw [List.getElem?_append_left (by omega)] at hd
   exact h4 i y d hy hd
  ·rw [List.getElem?_append_right (by omega)] at hy
   rw [List.getElem?_append_right (by omega)] at hd
   obtain ⟨hz,rfl⟩:=List.getElem?_eq_some_iff.1 hy
   obtain ⟨hz2,rfl⟩:=List.getElem?_eq_some_iff.1 hd
   simpa using hx
theorem CellsOf.mono (h:CellsOf size R l xs) (hR:∀ x ∈ l,∀ c,R x c → R' x c):CellsOf size R' l xs:=by
 obtain ⟨cs,h1,h2,h3,h4⟩:=h
 exact ⟨cs,h1,h2,h3,fun i x c hx hc=>hR x (List.mem_of_getElem? hx) c (h4 i x c hx hc)⟩
theorem CellsOf.at_ {i:Nat} {x:α} (h:CellsOf size R l xs) (hi:l[i]? = some x):∃ c,R x c ∧ c.length = size ∧ ∀ j u,c[j]? = some u → xs[i * size + j]? = some u:=by
 obtain ⟨cs,h1,rfl,h3,h4⟩:=h
 have hlt:=(List.getElem?_eq_some_iff.1 hi).1
 obtain ⟨c,hc⟩:∃ c,cs[i]? = some c:=⟨_,List.getElem?_eq_getElem (by omega)⟩
 have hcl:=h3 c (List.mem_of_getElem? hc)
 refine ⟨c,h4 i x c hi hc,hcl,fun j u hu=>?_⟩
 rw [flatten_get h3 hc j (by have:=(List.getElem?_eq_some_iff.1 hu).1;omega)]
 exact hu
def ListIn (w:World) (F:Nat → Prop) (size:Nat) (R:α → List Value → Prop) (v:Value) (l:List α):Prop:=∃ xs,RowIn w F size v l.length xs ∧ CellsOf size R l xs
def ListOwn (w:World) (B:Nat) (e:TypeId) (size:Nat) (R:α → List Value → Prop) (v:Value) (l:List α):Prop:=∃ xs,w.ownsRow B e size v l.length xs ∧ CellsOf size R l xs
variable {w w' : World} {F F' : Nat → Prop} {v : Value} {B : Nat} {e : TypeId}
theorem ListIn.shape (h:ListIn w F size R v l):∃ A c,v = .slice A l.length c ∧ l.length ≤ c:=h.elim fun _ h=>h.1.shape
theorem ListIn.at_ {i:Nat} {x:α} (h:ListIn w F size R v l) (hi:l[i]? = some x) (hz:0 < size):∃ b o cp c,v = .slice (some ⟨b,o,none⟩) l.length cp ∧ l.length ≤ cp ∧ b < w.heap.size ∧ F b ∧ R x c ∧ c.length = size ∧ ∀ j u,c[j]? = some u → w.cell? ⟨b,o + i * size + j,none⟩ = some u:=by
 obtain ⟨xs,h1,h2⟩:=h
 obtain ⟨c,hR,hc,hx⟩:=h2.at_ hi
 obtain ⟨b,o,cp,hv,hn,hb,hF,hcell⟩:=h1.place (by have:=(List.getElem?_eq_some_iff.1 hi).1;omega) hz
 exact ⟨b,o,cp,c,hv,hn,hb,hF,hR,hc,fun j u hu=>by have:=hcell _ _ (hx j u hu);rwa [← Nat.add_assoc] at this⟩
theorem ListIn.turn {S:Nat → Prop} (h:ListIn w F size R v l) (hm:Mod S w w') (hS:∀ k,F k → k < w.heap.size → ¬ S k) (hF:∀ k,F k → k < w.heap.size → F' k) (hR:∀ x ∈ l,∀ c,R x c → R' x c):ListIn w' F' size R' v l:=by
 obtain ⟨xs,h1,h2⟩:=h
 exact ⟨xs,h1.turn hm hS hF,h2.mono hR⟩
theorem ListOwn.shape (h:ListOwn w B e size R v l):∃ A c,v = .slice A l.length c:=h.elim fun _ h=>own_shape h.1
theorem ListOwn.nil (w:World) (B:Nat):ListOwn w B e size R (.slice none 0 0) ([]:List α):=⟨[],World.ownsRow_nil _ _ _ _,.nil⟩
theorem ListOwn.turn {S:Nat → Prop} (h:ListOwn w B e size R v l) (hm:Mod S w w') (hS:∀ g,v.ownBlock = some g → ¬ S g) (hR:∀ x ∈ l,∀ c,R x c → R' x c):ListOwn w' B e size R' v l:=by
 obtain ⟨xs,h1,h2⟩:=h
 exact ⟨xs,own_mod h1 hm hS,h2.mono hR⟩
theorem ListOwn.in_ (h:ListOwn w B e size R v l) (hF:∀ k,v.ownBlock = some k → F k):ListIn w F size R v l:=by
 obtain ⟨xs,h1,h2⟩:=h
 exact ⟨xs,RowIn.of_own h1 hF,h2⟩
theorem ListOwn.lt (h:ListOwn w B e size R v l):∀ k,v.ownBlock = some k → B ≤ k ∧ k < w.heap.size:=by
 obtain ⟨xs,h1,h2⟩:=h
 exact fun k hk=>h1.lt k hk
theorem ListOwn.push {x:α} {v':Value} {cells:List Value} {xs:List Value} (h:w'.ownsRow B e size v' (l.length + 1) (xs ++ cells)) (hc:CellsOf size R l xs) (hx:R x cells) (hl:cells.length = size):ListOwn w' B e size R v' (l ++ [x]):=
 ⟨xs ++ cells,by rw [List.length_append];exact h,hc.snoc hx hl⟩
end
def BytesF (w:World) (F:Nat → Prop) (v:Value) (b:List UInt8):Prop:=RowIn w F 1 v b.length (u8s b)
theorem BytesF.of_own {w:World} {F:Nat → Prop} {B:Nat} {v:Value} {b:List UInt8} (h:Bytes w B v b) (hF:∀ k,v.ownBlock = some k → F k):BytesF w F v b:=RowIn.of_own h hF
def SampR (w:World) (F:Nat → Prop) (b:List UInt8) (c:List Value):Prop:=∃ v,c = [v] ∧ BytesF w F v b
theorem SampR.turn {w w':World} {F F' S:Nat → Prop} {b:List UInt8} {c:List Value} (h:SampR w F b c) (hm:Mod S w w') (hS:∀ k,F k → k < w.heap.size → ¬ S k) (hF:∀ k,F k → k < w.heap.size → F' k):SampR w' F' b c:=by
 obtain ⟨v,rfl,h⟩:=h
 exact ⟨v,rfl,RowIn.turn h hm hS hF⟩
structure FrameF (w:World) (F:Nat → Prop) (d:Dim) (f:Pix) (c:List Value):Prop where
 ex:∃ v0 v1 v2,c = [.int .i64 (d.W:Int),.int .i64 (d.H:Int),v0,.int .i64 (d.W2:Int),.int .i64 (d.H2:Int),v1,.int .i64 (d.W2:Int),.int .i64 (d.H2:Int),v2] ∧
  RowIn w F 1 v0 d.nY (u8s f.Y) ∧ RowIn w F 1 v1 d.nC (u8s f.U) ∧ RowIn w F 1 v2 d.nC (u8s f.V)
theorem RowIn.blk {w:World} {F:Nat → Prop} {g n:Nat} {l:List UInt8} (h:Blk w g 5 (u8s l).toArray) (hl:l.length = n) (hF:F g):RowIn w F 1 (.slice (some ⟨g,0,none⟩) n n) n (u8s l):=by
 refine ⟨_,_,rfl,Nat.le_refl _,fun e=>(by cases e),⟨by rw [u8s_length,hl,Nat.mul_one],fun e=>(by cases e),fun ad e j u hu=>?_⟩,fun ad e _=>?_⟩
 ·injection e with e
  subst e
  rw [addr_add,h.cell j]
  simpa using hu
 ·injection e with e
  subst e
  exact ⟨h.lt,hF⟩
theorem FrameF.of_at {w:World} {F:Nat → Prop} {d:Dim} {gy gu gv:Nat} {f:Pix} (h:FrameAt w d gy gu gv f) (h0:F gy) (h1:F gu) (h2:F gv):FrameF w F d f (frameV d gy gu gv):=
 ⟨_,_,_,rfl,.blk h.by_ h.ly h0,.blk h.bu h.lu h1,.blk h.bv h.lv h2⟩
theorem FrameF.turn {w w':World} {F F' S:Nat → Prop} {d:Dim} {f:Pix} {c:List Value} (h:FrameF w F d f c) (hm:Mod S w w') (hS:∀ k,F k → k < w.heap.size → ¬ S k) (hF:∀ k,F k → k < w.heap.size → F' k):FrameF w' F' d f c:=by
 obtain ⟨v0,v1,v2,h0,h1,h2,h3⟩:=h.ex
 exact ⟨v0,v1,v2,h0,h1.turn hm hS hF,h2.turn hm hS hF,h3.turn hm hS hF⟩
def SegR (w:World) (F:Nat → Prop) (d:Dim) (s:List (List UInt8 × Pix)) (c:List Value):Prop:=
 ∃ sv fv,c = [sv,fv] ∧ ListIn w F 1 (SampR w F) sv (s.map Prod.fst) ∧ ListIn w F 9 (FrameF w F d) fv (s.map Prod.snd)
theorem SegR.turn {w w':World} {F F' S:Nat → Prop} {d:Dim} {s:List (List UInt8 × Pix)} {c:List Value} (h:SegR w F d s c) (hm:Mod S w w') (hS:∀ k,F k → k < w.heap.size → ¬ S k) (hF:∀ k,F k → k < w.heap.size → F' k):SegR w' F' d s c:=by
 obtain ⟨sv,fv,h0,h1,h2⟩:=h
 exact ⟨sv,fv,h0,h1.turn hm hS hF (fun x _ c k=>k.turn hm hS hF),h2.turn hm hS hF (fun x _ c k=>k.turn hm hS hF)⟩
structure MadeX where
 r:Rg
 G:Int
 d:Dim
 segs:List (List (List UInt8 × Pix))
def MadeR (w:World) (F:Nat → Prop) (m:MadeX) (c:List Value):Prop:=
 ∃ sv,c = m.r.cells ++ [.int .i64 (m.d.W:Int),.int .i64 (m.d.H:Int),.int .i64 m.G,sv] ∧ ListIn w F 2 (SegR w F m.d) sv m.segs
theorem MadeR.turn {w w':World} {F F' S:Nat → Prop} {m:MadeX} {c:List Value} (h:MadeR w F m c) (hm:Mod S w w') (hS:∀ k,F k → k < w.heap.size → ¬ S k) (hF:∀ k,F k → k < w.heap.size → F' k):MadeR w' F' m c:=by
 obtain ⟨sv,h0,h1⟩:=h
 exact ⟨sv,h0,h1.turn hm hS hF (fun x _ c k=>k.turn hm hS hF)⟩
def MadesIn (w:World) (F:Nat → Prop) (v:Value) (ms:List MadeX):Prop:=ListIn w F 8 (MadeR w F) v ms
def bodyD (B:Nat) (Kp:World → World → Prop) (I X:World → Prop) (W:World):Exit → Act → World → Prop
 | .normal,_,W'=>KeepsFrom B W W' ∧ Kp W W' ∧ I W'
 | .ret,_,W'=>KeepsFrom B W W' ∧ X W'
 | _,_,_=>False
def IterD {α:Type} (E:World → Prop) (P:Program) (n gf:Nat) (lb:Array Value) (encs:α → Array Value) (sb:Nat) (Kp:World → World → Prop) (G S:List α → Prop) (w:World):Prop:=
 ∀ (l:Nat) (J:List α → World → Prop) (Jx:World → Prop) (W:World),Below w.heap.size w W → (∀ s W,J s W → E W) → (∀ s W W',J s W → Mod (fun _=>False) W W' → J s W') → (∀ s W v,J s W → J s (W.setCell ⟨sb,0,none⟩ v)) →
  (∀ pre x W1,J pre W1 → G (pre ++ [x]) → YieldAt Fence.wide (n - 1) P l (encs x) W1 fun e W'=>(e = .returned (.bool true) ∧ J (pre ++ [x]) W' ∧ Kp W1 W') ∨ (e = .returned (.bool false) ∧ Jx W')) →
  J [] W → CallsIn Fence.wide n P gf (#[.func (.yield l) #[] #[]] ++ lb) W fun e W'=>(∃ v,e = .returned v) ∧ ((∃ xs,S xs ∧ J xs W') ∨ Jx W')
theorem own_putD {I:World → Prop} {B:Nat} (hI:OwnFrom B fun (_:Unit) W=>I W) {W:World} {l:Nat} {o:Obj} (o':Obj) (h:I W) (hB:B ≤ l) (hl:W.heap[l]? = some o) (ho:o.isCells = false):I (W.putObj l o'):=OwnFrom.putObj (s:=()) hI o' h hB hl ho
theorem wpIn_rangeD {α:Type} {E:World → Prop} {P:Program} {n:Nat} {g:Operand} {ps:Array Tmp} {assign body:Code} {Q:Exit → Act → World → Prop} {a:Act} {w:World}
  (h1:1 ≤ n) {gf:Nat} {lb:Array Value} (hg:a.eval g = .func (.func gf) #[] lb) (eg:∀ args w,(callFunc gf args).run P w = .ok (.enter gf args) w)
  {encs:α → Array Value} (hps:∀ x,(encs x).size = ps.size) {sb:Nat} {Kp:World → World → Prop} {G S:List α → Prop} (hit:IterD E P (n - 1) gf lb encs sb Kp G S w) (hsb:sb < w.heap.size)
  (hKt:∀ {A B C:World},Kp A B → Kp B C → Kp A C) (hKb:∀ (W:World) (l:Nat) (o:Obj),w.heap.size ≤ l → Kp W (W.putObj l o))
  (I:List α → World → Prop) (X:World → Prop) (hI:OwnFrom w.heap.size I) (hX:OwnFrom w.heap.size fun (_:Unit) W=>X W) (hIE:∀ s W,I s W → E W) (hIq:∀ s W W',I s W → Mod (fun _=>False) W W' → I s W') (hIs:∀ s W v,I s W → I s (W.setCell ⟨sb,0,none⟩ v)) (h0:I [] w) (a₁:α → Act)
  (hassign:∀ (l:Nat) (x:α) (W:World) (K:Act → World → Prop),K (a₁ x) W →
   assign.wpIn (Fence.wide.inRound l) (n - 1 - 1) P (Exit.then K (fun _ _ _=>False)) { tmps:=(ps.zip (encs x)).foldl (fun t (p,v)=>t.setIfInBounds p v) a.tmps,defers:=[] } W)
  (hbody:∀ (l:Nat) (pre:List α) (x:α) (W:World),I pre W → G (pre ++ [x]) → body.wpIn (Fence.wide.inRound l) (n - 1 - 1) P (bodyD w.heap.size Kp (I (pre ++ [x])) X W) (a₁ x) W)
  (hdone:∀ (D:Nat) (xs:List α) (W:World),w.heap.size ≤ D → S xs → I xs W → W.heap[D]? = some (.deferred (some [])) → Q .normal { a with defers:={ target:=.collected D,args:=#[] } :: a.defers } W)
  (hstop:∀ (D:Nat) (W:World),w.heap.size ≤ D → X W → W.heap[D]? = some (.deferred (some [])) → Code.ret.wpIn Fence.wide n P Q { a with defers:={ target:=.collected D,args:=#[] } :: a.defers } W) :
  (Code.rangeFunc g ps assign body).wpIn Fence.wide n P Q a w:=by
 refine wpIn_rangeFunc (fun fn hfn=>?_)
 generalize hrec:(fun (st:LoopState) (pe:Option Code)=>({ state:=st,pending:=pe,fn,tmps:=a.tmps,params:=ps,assign,body,defers:=w.heap.size }:Loop)) = rec
 have hst:∀ st pe,(rec st pe).state = st:=fun st pe=>by rw [← hrec]
 generalize hW1:(w.alloc (.deferred (some []))).alloc (.loop (rec .ready none)) = W1
 have hL1:W1.heap[w.heap.size + 1]? = some (.loop (rec .ready none)):=by
  have:=World.alloc_heap_new (w.alloc (.deferred (some []))) (.loop (rec .ready none))
  rw [World.size_alloc,hW1] at this
  exact this
 have hK1:W1.heap[w.heap.size]? = some (.deferred (some [])):=by
  rw [← hW1]
  exact (Below.heap_alloc _ _ _ (by simp)).trans (World.alloc_heap_new w _)
 have hI1:I [] W1:=by
  rw [← hW1]
  exact hI.alloc _ (hI.alloc _ h0)
 have hB1:Below w.heap.size w W1:=by
  rw [← hW1]
  exact ((Below.refl _ w).alloc (Nat.le_refl _) _).alloc (by simp) _
 refine ⟨w.heap.size + 1,[{ target:=.collected w.heap.size,args:=#[] }],W1,{ target:=.fn (.func gf) lb,args:=#[.func (.yield (w.heap.size + 1)) #[] #[]] },W1,gf,
  #[.func (.yield (w.heap.size + 1)) #[] #[]] ++ lb,W1,?_,?_,fun _ _=>trivial,?_,fun _=>h1,?_⟩
 ·rw [← hW1,← hrec]
  exact run_enterLoop_outer _ _ _ _ _
 ·simp only [resolve,hg]
  simp [go_sem]
 ·simp [invoke,go_sem,eg]
 ·have put:∀ {W:World} {o:Obj} (o':Obj),W.heap[w.heap.size + 1]? = some o → (W.putObj (w.heap.size + 1) o').heap[w.heap.size + 1]? = some o':=fun o' h=>World.putObj_heap_same (Array.getElem?_eq_some_iff.1 h).1
  have other:∀ {W:World} (o':Obj),W.heap[w.heap.size]? = some (.deferred (some [])) → (W.putObj (w.heap.size + 1) o').heap[w.heap.size]? = some (.deferred (some [])):=fun o' h=>(World.putObj_heap_other (by omega)).trans h
  have cell:∀ {W:World} (k:Nat) (v:Value),w.heap.size ≤ k → (W.setCell ⟨sb,0,none⟩ v).heap[k]? = W.heap[k]?:=fun k v hk=>Below.heap_setCell _ ⟨sb,0,none⟩ v k (by simp only;omega)
  refine (hit (w.heap.size + 1)
   (fun pre W=>I pre W ∧ W.heap[w.heap.size + 1]? = some (.loop (rec .ready none)) ∧ W.heap[w.heap.size]? = some (.deferred (some [])))
   (fun W=>X W ∧ W.heap[w.heap.size + 1]? = some (.loop (rec .done (some .ret))) ∧ W.heap[w.heap.size]? = some (.deferred (some [])))
   W1 hB1 (fun s W h=>hIE s W h.1) (fun s W W' h hm=>⟨hIq s W W' h.1 hm,(hm.block _ (Array.getElem?_eq_some_iff.1 h.2.1).1 (fun h=>h)).trans h.2.1,(hm.block _ (Array.getElem?_eq_some_iff.1 h.2.2).1 (fun h=>h)).trans h.2.2⟩) (fun s W v h=>⟨hIs s W v h.1,(cell _ v (by omega)).trans h.2.1,(cell _ v (Nat.le_refl _)).trans h.2.2⟩) ?_ ⟨hI1,hL1,hK1⟩).mono ?_
  ·rintro pre x W ⟨hi,hl,hk⟩ hGx
   have hy:=run_yield (P:=P) (args:=encs x) hl (by rw [← hrec];exact hps x)
   rw [← hrec] at hy
   refine ⟨fn,_,assign,body,hy,roundIn_of_wpIn hfn (hassign _ x W _ ⟨_,run_beginRound hl (hst _ _),?_⟩)⟩
   generalize hbz:({ rec .ready none with state:=.busy }:Loop) = bz
   have hbr:bz = rec .busy none:=by rw [← hbz,← hrec]
   have hl2:=put (.loop bz) hl
   have hk2:=other (.loop bz) hk
   refine wpIn_mono (hbody _ pre x _ (hI.putObj _ hi (by omega) hl rfl) hGx) ?_
   have fin:∀ (jump:Option Code) (W3:World),KeepsFrom w.heap.size (W.putObj (w.heap.size + 1) (.loop bz)) W3 →
     (Instr.endRound (w.heap.size + 1) jump).run P W3 = .ok (.bool jump.isNone) (W3.putObj (w.heap.size + 1) (.loop (rec (if jump.isNone then .ready else .done) jump))) ∧ W3.heap[w.heap.size + 1]? = some (.loop bz) ∧ W3.heap[w.heap.size]? = some (.deferred (some [])):=fun jump W3 hk3=>by
    have hl3:=hk3.same _ _ (by omega) hl2 rfl
    have hr:=run_endRound (P:=P) jump hl3
    rw [hbr,← hrec] at hr
    exact ⟨by rw [← hrec];exact hr,hl3,hk3.same _ _ (Nat.le_refl _) hk2 rfl⟩
   rintro e a3 W3 hp
   cases e with
   | normal=>
    obtain ⟨hk3,hkp,hi3⟩:=hp
    obtain ⟨hr,hl3,hd3⟩:=fin none W3 hk3
    exact ⟨_,_,hr,.inl ⟨rfl,⟨hI.putObj _ hi3 (by omega) hl3 rfl,put _ hl3,other _ hd3⟩,hKt (hKb _ _ _ (by omega)) (hKt hkp (hKb _ _ _ (by omega)))⟩⟩
   | ret=>
    obtain ⟨hk3,hx3⟩:=hp
    obtain ⟨hr,hl3,hd3⟩:=fin (some .ret) W3 hk3
    exact ⟨_,_,hr,.inr ⟨rfl,own_putD hX _ hx3 (by omega) hl3 rfl,put _ hl3,other _ hd3⟩⟩
   | exit id=>exact hp.elim
   | goto t=>exact hp.elim
   | panic ch=>exact hp.elim
   | outgrown=>exact hp.elim
  ·rintro e W2 ⟨⟨v,rfl⟩,h⟩
   rcases h with ⟨xs,hS,hi,hl,hk⟩ | ⟨hx,hl,hk⟩
   ·have hr:=run_endLoop (P:=P) hl (by rw [hst];simp)
    rw [← hrec] at hr
    exact ⟨none,_,hr,hdone _ xs _ (Nat.le_refl _) hS (hI.putObj _ hi (by omega) hl rfl) (other _ hk)⟩
   ·have hr:=run_endLoop (P:=P) hl (by rw [hst];simp)
    rw [← hrec] at hr
    exact ⟨some .ret,_,hr,hstop _ _ (Nat.le_refl _) (own_putD hX _ hx (by omega) hl rfl) (other _ hk)⟩
structure SameC (w w':World):Prop where
 size:w.heap.size ≤ w'.heap.size
 same:∀ (k:Nat) (o:Obj),w.heap[k]? = some o → o.isCells = true → w'.heap[k]? = some o
theorem SameC.of_grown {w w':World} {row:Option Nat} (h:w.grownBy w' row) (hr:∀ r,row = some r → ∃ o:Obj,w.heap[r]? = some o ∧ o.isCells = false):SameC w w':=by
 have hm:=(Mod.refl (fun i=>row = some i) w).grown h (fun k hk=>.inl hk)
 refine ⟨hm.size,fun k o ho hc=>(hm.block k (Array.getElem?_eq_some_iff.1 ho).1 (fun e=>?_)).trans ho⟩
 obtain ⟨o',ho',hc'⟩:=hr k e
 rw [ho] at ho'
 injection ho' with ho'
 subst ho'
 rw [hc] at hc'
 cases hc'
theorem SameC.cell {w w':World} (h:SameC w w') {p:Addr} {v:Value} (hc:w.cell? p = some v):w'.cell? p = some v:=by
 have hb:=World.block_lt_of_cell? w p hc
 have ho:w.heap[p.block]? = some w.heap[p.block]:=Array.getElem?_eq_getElem hb
 cases hk:w.heap[p.block] with
 | cells cs t q=>
  rw [hk] at ho
  exact (World.cell?_of_block ((h.same _ _ ho rfl).trans ho.symm)).trans hc
 | _=>(unfold World.cell? at hc;simp [ho,hk] at hc)
theorem Blk.sc {w w':World} {g:Nat} {t:TypeId} {cs:Array Value} (hb:Blk w g t cs) (h:SameC w w'):Blk w' g t cs:=h.same g _ hb rfl
theorem own_sc {w w':World} {B:Nat} {e:TypeId} {size n:Nat} {v:Value} {xs:List Value} (h:w.ownsRow B e size v n xs) (hs:SameC w w'):w'.ownsRow B e size v n xs:=by
 refine ⟨h.1,?_⟩
 rcases h.2 with hn | ⟨g,cap,cur,rfl,hb,hgg,rest⟩
 ·exact .inl hn
 ·exact .inr ⟨g,cap,cur,rfl,hb,Blk.sc (cs:=cur) hgg hs,rest⟩
theorem RowIn.sc {w w':World} {F:Nat → Prop} {size n:Nat} {v:Value} {xs:List Value} (h:RowIn w F size v n xs) (hs:SameC w w'):RowIn w' F size v n xs:=by
 obtain ⟨A,c,h1,h2,h3,h4,h5⟩:=h.ex
 exact ⟨A,c,h1,h2,h3,⟨h4.1,h4.2.1,fun ad e j u hu=>hs.cell (h4.2.2 ad e j u hu)⟩,fun ad e h0=>⟨Nat.lt_of_lt_of_le (h5 ad e h0).1 hs.size,(h5 ad e h0).2⟩⟩
section
variable {w w' : World} {F : Nat → Prop} {d : Dim}
theorem SampR.sc {b:List UInt8} {c:List Value} (h:SampR w F b c) (hs:SameC w w'):SampR w' F b c:=by
 obtain ⟨v,rfl,h⟩:=h
 exact ⟨v,rfl,RowIn.sc h hs⟩
theorem FrameF.sc {f:Pix} {c:List Value} (h:FrameF w F d f c) (hs:SameC w w'):FrameF w' F d f c:=by
 obtain ⟨v0,v1,v2,h0,h1,h2,h3⟩:=h.ex
 exact ⟨v0,v1,v2,h0,h1.sc hs,h2.sc hs,h3.sc hs⟩
theorem ListIn.sc {α:Type} {size:Nat} {R R':α → List Value → Prop} {v:Value} {l:List α} (h:ListIn w F size R v l) (hs:SameC w w') (hR:∀ x ∈ l,∀ c,R x c → R' x c):ListIn w' F size R' v l:=by
 obtain ⟨xs,h1,h2⟩:=h
 exact ⟨xs,h1.sc hs,h2.mono hR⟩
theorem ListOwn.sc {α:Type} {B:Nat} {e:TypeId} {size:Nat} {R R':α → List Value → Prop} {v:Value} {l:List α} (h:ListOwn w B e size R v l) (hs:SameC w w') (hR:∀ x ∈ l,∀ c,R x c → R' x c):ListOwn w' B e size R' v l:=by
 obtain ⟨xs,h1,h2⟩:=h
 exact ⟨xs,own_sc h1 hs,h2.mono hR⟩
theorem SegR.sc {s:List (List UInt8 × Pix)} {c:List Value} (h:SegR w F d s c) (hs:SameC w w'):SegR w' F d s c:=by
 obtain ⟨sv,fv,h0,h1,h2⟩:=h
 exact ⟨sv,fv,h0,h1.sc hs (fun _ _ _ k=>k.sc hs),h2.sc hs (fun _ _ _ k=>k.sc hs)⟩
theorem FrameAt.sc {gy gu gv:Nat} {f:Pix} (h:FrameAt w d gy gu gv f) (hs:SameC w w'):FrameAt w' d gy gu gv f:=
 ⟨h.by_.sc hs,h.bu.sc hs,h.bv.sc hs,h.ly,h.lu,h.lv,h.yu,h.yv,h.uv⟩
theorem EncAt.sc {g:Nat} {G q tg nu:Nat} {ahd:Pix} (h:EncAt w g d G q tg nu ahd) (hs:SameC w w'):EncAt w' g d G q tg nu ahd:=by
 obtain ⟨al,hb,hc⟩:=h
 refine ⟨al,hb.sc hs,?_⟩
 rcases hc with hc | ⟨ay,au,av,rfl,hf⟩
 ·exact .inl hc
 ·exact .inr ⟨ay,au,av,rfl,fun hn=>(hf hn).sc hs⟩
end
end Go.Proofs.YthednemlahioeaaGreatDoor

namespace Go.Proofs.YthednemlahioeaaGreatDoor
open Go.RowKit Go.Shelf
set_option maxRecDepth 100000
set_option maxHeartbeats 8000000
attribute [local go_sem] Oper.semAt_some
theorem segN_lt {G n i:Nat} (hG:1 ≤ G):i < segN G n ↔ i * G < n:=by
 unfold segN
 rw [show i < (n + G - 1) / G ↔ (i + 1) * G ≤ n + G - 1 from Nat.le_div_iff_mul_le (by omega),Nat.add_mul]
 omega
def segV (b o c G n i:Nat):Value:=.slice (some ⟨b,o + i * G * 9,none⟩) (segLen G n i) (c - i * G)
def Keep2 (a b:Nat) (W W':World):Prop:=W'.heap[a]? = W.heap[a]? ∧ W'.heap[b]? = W.heap[b]?
theorem Keep2.trans {a b:Nat} {A B C:World} (h:Keep2 a b A B) (k:Keep2 a b B C):Keep2 a b A C:=⟨k.1.trans h.1,k.2.trans h.2⟩
theorem Keep2.put {a b:Nat} {W:World} {l:Nat} {o:Obj} (ha:a ≠ l) (hb:b ≠ l):Keep2 a b W (W.putObj l o):=⟨World.putObj_heap_other ha,World.putObj_heap_other hb⟩
def sliceLen (sb:Nat) (w:World):Nat:=match w.cell? ⟨sb,0,none⟩ with
 | some (.slice _ n _)=>n
 | _=>0
def SgRel (b o c G n sb gb:Nat) (J:List Nat → World → Prop) (wr:World):Prop:=
 ∃ (i R C:Nat) (A:Option Addr),R = n - i * G ∧ i ≤ segN G n ∧ Blk wr sb 29 #[.slice A R C] ∧ (0 < R → A = some ⟨b,o + i * G * 9,none⟩ ∧ C = c - i * G) ∧ Blk wr gb 3 #[.int .i64 (G:Int)] ∧ J (List.range i) wr
theorem sg_step {b o c G n sb gb i R C N:Nat} {J:List Nat → World → Prop} {wr w3:World} {A:Option Addr} (hG:1 ≤ G) (hn:n ≤ c) (hR:R = n - i * G) (h0:0 < R) (hC:C = c - i * G) (hN:(G ≤ R ∧ N = G) ∨ (R < G ∧ N = R)) (hi:i < segN G n) (hne:sb ≠ gb) (hw:Blk wr sb 29 #[.slice A R C])
  (hb:Blk w3 sb 29 #[.slice A R C]) (hg:Blk w3 gb 3 #[.int .i64 (G:Int)]) (hJs:∀ (s:List Nat) (W:World) (v:Value),J s W → J s (W.setCell ⟨sb,0,none⟩ v)) (hJ:J (List.range i ++ [i]) w3) :
  SgRel b o c G n sb gb J (w3.setCell ⟨sb,0,none⟩ (.slice (if C = N then some ⟨b,o + i * G * 9,none⟩ else some ⟨b,o + i * G * 9 + N * 9,none⟩) (R - N) (C - N))) ∧
  sliceLen sb (w3.setCell ⟨sb,0,none⟩ (.slice (if C = N then some ⟨b,o + i * G * 9,none⟩ else some ⟨b,o + i * G * 9 + N * 9,none⟩) (R - N) (C - N))) < sliceLen sb wr:=by
 have e1:(i + 1) * G = i * G + G:=by rw [Nat.add_mul];omega
 have hput:Blk (w3.setCell ⟨sb,0,none⟩ (.slice (if C = N then some ⟨b,o + i * G * 9,none⟩ else some ⟨b,o + i * G * 9 + N * 9,none⟩) (R - N) (C - N))) sb 29 #[.slice (if C = N then some ⟨b,o + i * G * 9,none⟩ else some ⟨b,o + i * G * 9 + N * 9,none⟩) (R - N) (C - N)]:=hb.put rfl
 refine ⟨⟨i + 1,R - N,C - N,_,by rw [e1];rcases hN with ⟨h1,h2⟩ | ⟨h1,h2⟩ <;> omega,hi,hput,fun h=>?_,hg.far (p:=⟨sb,0,none⟩) (Ne.symm hne) _,by rw [List.range_succ];exact hJs _ _ _ hJ⟩,?_⟩
 ·rcases hN with ⟨h1,rfl⟩ | ⟨h1,rfl⟩
  ·rw [if_neg (by omega),e1,Nat.add_mul]
   exact ⟨by rw [← Nat.add_assoc],by omega⟩
  ·omega
 ·unfold sliceLen
  rw [hput.cell 0,hw.cell 0]
  show R - N < R
  rcases hN with ⟨h1,rfl⟩ | ⟨h1,rfl⟩ <;> omega
theorem segIter {E:World → Prop} (nf:Nat) (h1:1 ≤ nf) (w:World) (b o n c G sb gb:Nat) (hG:1 ≤ G ∧ G ≤ 64) (hn:n ≤ c) (hc:c ≤ 9223372036854775807) (hs:Blk w sb 29 #[.slice (some ⟨b,o,none⟩) n c]) (hg:Blk w gb 3 #[.int .i64 (G:Int)]) (hne:sb ≠ gb) :
  IterD E Tryz.prog nf 148 #[.pointer (some ⟨sb,0,none⟩),.pointer (some ⟨gb,0,none⟩)] (fun i=>#[segV b o c G n i]) sb (Keep2 sb gb) (fun xs=>∃ i,xs = List.range (i + 1) ∧ i < segN G n) (fun xs=>xs = List.range (segN G n)) w:=by
 intro l J Jx W hW _ _ hJs hY h0
 obtain ⟨hG1,hG2⟩:=hG
 have hs1:=hs.below hW hs.lt
 have hg1:=hg.below hW hg.lt
 refine callsIn_of_wp Tryz.func148 rfl trivial ?_ rfl
 simp only [Tryz.ntmps148,List.size_toArray,List.length_cons,List.length_nil,Nat.reduceAdd,Nat.reduceSub,Array.replicate_succ,Array.replicate_zero,List.push_toArray,List.append_toArray,List.nil_append,List.cons_append]
 have HS:=Lib.hid (And.intro hs1 hg1)
 clear hs1 hg1 hs hg
 gi_wp2_with fail
 gi_loopw [4] (fun _ wr=>SgRel b o c G n sb gb J wr) (fun _ wr=>sliceLen sb wr)
 case atStart=>exact ⟨0,n,c,_,by omega,by omega,HS.out.1,fun _=>⟨by simp,by simp⟩,HS.out.2,h0⟩
 case round=>
  clear HS
  obtain ⟨i,R,C,A,hR,hi,hsb,hAC,hgb,hJ⟩:=hrel
  have cs:=hsb.cell 0
  have cg:=hgb.cell 0
  have HK:=Lib.hid (And.intro hR (And.intro hsb (And.intro hgb (And.intro hJ hi))))
  clear hR hsb hgb hJ hi
  by_cases h0R:0 < R
  ·obtain ⟨rfl,hC⟩:=hAC h0R
   have d1:decide (0 < (R:Int)) = true:=decide_eq_true (by omega)
   have hiN:i < segN G n:=(segN_lt hG1).2 (by have:=HK.out.1;omega)
   have hRC:R ≤ C:=by have:=HK.out.1;omega
   have hCm:C ≤ 9223372036854775807:=by omega
   have hrg:List.range i ++ [i] = List.range (i + 1):=List.range_succ.symm
   obtain ⟨fn,tmps,assign,body,hy,hRo⟩:=hY (List.range i) i wr HK.out.2.2.2.1 ⟨i,hrg,hiN⟩
   unfold segV at hy
   rw [← hC] at hy
   have hcase:(G ≤ R ∧ segLen G n i = G) ∨ (R < G ∧ segLen G n i = R):=by unfold segLen;have:=HK.out.1;omega
   have HC:=Lib.hid (And.intro hC (And.intro hiN hrg))
   clear hC hAC hiN hrg
   rcases hcase with ⟨hle,he⟩ | ⟨hle,he⟩
   ·rw [he] at hy
    have e1:decide ((G:Int) ≤ (R:Int)) = true:=decide_eq_true (by omega)
    have e2:decide ((R:Int) < (G:Int)) = false:=decide_eq_false (by omega)
    clear he
    gi_wp2_with fail
    refine hRo.mono ?_
    rintro e w3 (⟨rfl,hJ3,hk3⟩ | ⟨rfl,hJx3⟩)
    ·have hsb3:Blk w3 sb 29 #[.slice (some ⟨b,o + i * G * 9,none⟩) R C]:=hk3.1.trans HK.out.2.1
     have hgb3:Blk w3 gb 3 #[.int .i64 (G:Int)]:=hk3.2.trans HK.out.2.2.1
     have s3:=hsb3.cell 0
     have f3:=hsb3.frozen 0
     have l3:=hsb3.lt
     have H3:=Lib.hid (And.intro hJ3 (And.intro hsb3 hgb3))
     clear hJ3 hsb3 hgb3 hk3 hy hRo cs cg
     gi_wp2_with fail
     exact sg_step (b:=b) (o:=o) hG1 hn HK.out.1 h0R HC.out.1 (.inl ⟨hle,rfl⟩) HC.out.2.1 hne HK.out.2.1 H3.out.2.1 H3.out.2.2 hJs H3.out.1
    ·clear hy hRo cs cg
     gi_wp2_with fail
     refine bodyPost_ret (results_none rfl _ _ _) rfl ?_
     exact ⟨⟨_,rfl⟩,.inr hJx3⟩
   ·rw [he] at hy
    have e1:decide ((G:Int) ≤ (R:Int)) = false:=decide_eq_false (by omega)
    have e2:decide ((R:Int) < (G:Int)) = true:=decide_eq_true (by omega)
    clear he
    gi_wp2_with fail
    refine hRo.mono ?_
    rintro e w3 (⟨rfl,hJ3,hk3⟩ | ⟨rfl,hJx3⟩)
    ·have hsb3:Blk w3 sb 29 #[.slice (some ⟨b,o + i * G * 9,none⟩) R C]:=hk3.1.trans HK.out.2.1
     have hgb3:Blk w3 gb 3 #[.int .i64 (G:Int)]:=hk3.2.trans HK.out.2.2.1
     have s3:=hsb3.cell 0
     have f3:=hsb3.frozen 0
     have l3:=hsb3.lt
     have H3:=Lib.hid (And.intro hJ3 (And.intro hsb3 hgb3))
     clear hJ3 hsb3 hgb3 hk3 hy hRo cs cg
     gi_wp2_with fail
     have hst:=sg_step (b:=b) (o:=o) hG1 hn HK.out.1 h0R HC.out.1 (.inr ⟨hle,rfl⟩) HC.out.2.1 hne HK.out.2.1 H3.out.2.1 H3.out.2.2 hJs H3.out.1
     rw [Nat.sub_self] at hst
     exact hst
    ·clear hy hRo cs cg
     gi_wp2_with fail
     refine bodyPost_ret (results_none rfl _ _ _) rfl ?_
     exact ⟨⟨_,rfl⟩,.inr hJx3⟩
  ·obtain rfl:R = 0:=by omega
   have d1:decide (0 < ((0:Nat):Int)) = false:=by decide
   have HF:Hid (List.range i = List.range (segN G n)):=by
    show _ = _
    have h2:¬ i < segN G n:=fun h=>by have:=(segN_lt (n:=n) hG1).1 h;have:=HK.out.1;omega
    rw [show i = segN G n by have:=HK.out.2.2.2.2;omega]
   have HJ:=Lib.hid HK.out.2.2.2.1
   clear HK
   gi_wp2_with fail
   go_end0
   exact ⟨⟨_,rfl⟩,.inl ⟨_,HF.out,HJ.out⟩⟩
theorem lSegments (w:World) (A:Option Addr) (n c:Nat) (G:Int):Calls Tryz.prog 96 #[.slice A n c,.int .i64 G] w fun e w'=>e = .returned (.func (.func 148) #[] #[.pointer (some ⟨w.heap.size,0,none⟩),.pointer (some ⟨w.heap.size + 1,0,none⟩)]) ∧ w' = (w.alloc (.cells #[.slice A n c] 29)).alloc (.cells #[.int .i64 G] 3):=by
 go_enter Tryz.func96,Tryz.ntmps96
 go_wp2_with fail
 go_ret
 exact ⟨rfl,rfl⟩
end Go.Proofs.YthednemlahioeaaGreatDoor
