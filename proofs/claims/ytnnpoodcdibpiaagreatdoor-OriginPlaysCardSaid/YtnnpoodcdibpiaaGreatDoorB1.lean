/-
  Manifests in plain Lean: what is right, a text, what a text reads as; a right manifest's text reads as it. No program in sight.
-/
import Derived.Test.YtnnpoodcdibpiaaGreatDoorB0
import Derived.Lib.ItoaNum
import Derived.Lib.AtoiAll
import GoSem.Core.World
import Derived.Laws.BitsAllLaws
namespace Go.Proofs.YtnnpoodcdibpiaaGreatDoor
open Go.RowKit
set_option maxRecDepth 100000
set_option maxHeartbeats 8000000
abbrev Str:=List UInt8
structure Pc where
 fr:Int
 sz:Int
 path:Str
 deriving DecidableEq
structure Ls where
 name:Str
 w:Int
 h:Int
 bw:Int
 init:Pc
 pieces:List Pc
 deriving DecidableEq
structure Mf where
 scale:Int
 tick:Int
 rends:List Ls
 deriving DecidableEq
def letterB(c:UInt8):Bool:=decide (97<=c.toNat/\c.toNat<=122) || decide (48<=c.toNat/\c.toNat<=57)
def nameB(s:Str):Bool:=decide (1<=s.length/\s.length<=8)&&s.all letterB
def pathB(s:Str):Bool:=decide (1<=s.length/\s.length<=60)&&s.all (fun c=>letterB c || c == 46 || c == 47)
def sideB(n:Int):Bool:=decide (16<=n/\n<=4096/\n.tmod 16=0)
def pieceB(a b:Int)(p:Pc):Bool:=decide (a<=p.fr/\p.fr<=b/\1<=p.sz/\p.sz<=1048576)&&pathB p.path
def framesL(l:List Pc):Int:=(l.map Pc.fr).sum
def listedB(l:Ls):Bool:=nameB l.name&&sideB l.w&&sideB l.h&&decide (1<=l.bw/\l.bw<=1099511627776)&&pieceB 0 0 l.init&&l.pieces.all (pieceB 1 64)&&decide (1<=l.pieces.length/\framesL l.pieces<=1024)
def pathsL(m:Mf):List Str:=m.rends.flatMap fun l=>l.init.path :: l.pieces.map Pc.path
def mfRightB(m:Mf):Bool:=decide (1<=m.scale/\m.scale<=1048576/\1<=m.tick/\m.tick<=1048576/\1<=m.rends.length/\m.rends.length<=8)&&m.rends.all listedB&&decide (m.rends.map Ls.name).Nodup&&decide (pathsL m).Nodup
/-! ### The text -/
def kKinora:Str:=[107,105,110,111,114,97]
def kOne:Str:=[49]
def kScale:Str:=[115,99,97,108,101]
def kTick:Str:=[116,105,99,107]
def kRend:Str:=[114,101,110,100,105,116,105,111,110]
def kInit:Str:=[105,110,105,116]
def kPiece:Str:=[112,105,101,99,101]
def kEnd:Str:=[101,110,100]
def dec(n:Int):Str:=Lib.decDigits n.toNat
def joinSp:List Str->Str
 | []=>[]
 | [f]=>f
 | f :: g :: r=>f++32 :: joinSp (g :: r)
def lineL(fs:List Str):Str:=joinSp fs++[10]
def linesP(p:Pc):List Str:=[kPiece,dec p.fr,dec p.sz,p.path]
def linesR(l:Ls):List (List Str):=[kRend,l.name,dec l.w,dec l.h,dec l.bw] :: [kInit,dec l.init.sz,l.init.path] :: l.pieces.map linesP
def linesM(m:Mf):List (List Str):=[kKinora,kOne] :: [kScale,dec m.scale,kTick,dec m.tick] :: (m.rends.flatMap linesR++[[kEnd]])
def writeL(m:Mf):Str:=(linesM m).flatMap lineL
/-! ### What a text reads as -/
def m0:Mf:=⟨0,0,[]⟩
/-! ### There and back -/
/-! ### Numerals -/
theorem decDigits_len:∀(k n:Nat),n<10 ^ (k+1)->(Lib.decDigits n).length<=k+1:=by
 intro k
 induction k with
 | zero=>
  intro n h;rw [Lib.decDigits,dif_pos (by omega)];simp
 | succ k ih=>
  intro n h;rw [Lib.decDigits];split
  ·simp
  ·have:=ih (n/10) (by rw [Nat.pow_succ]at h;omega);simp only [List.length_append,List.length_cons,List.length_nil];omega
structure ReadIs(w:World)(B g:Nat)(l:List UInt8)(a:Nat):Prop where
 base:B<=g
 ex:∃A c,Blk w g 263 #[.slice A l.length c,.int .i64 (a:Int)]/\Bytes w B (.slice A l.length c) l/\∃r,A=some ⟨r,0,none⟩
 at_:a<=8*l.length
 few:l.length<=1048576
theorem ReadIs.tmod{w w':World}{B B' g a:Nat}{T:TypeId->Bool}{l:List UInt8}(h:ReadIs w B g l a)(hm:TMod B' T w w')(h1:T 263=false)(h2:T 5=false):ReadIs w' B g l a:=by
 obtain⟨hb,⟨A,c,a1,a2,a3⟩,h3,h4⟩:=h;exact⟨hb,⟨A,c,a1.tmod hm h1,own_tmod a2 hm h2,a3⟩,h3,h4⟩
theorem ReadIs.quiet{w w':World}{B g a:Nat}{l:List UInt8}(h:ReadIs w B g l a)(hm:Mod (fun _=>False) w w'):ReadIs w' B g l a:=h.tmod (B':=0) (T:=fun _=>false) (.of_quiet hm) rfl rfl
def seqRight(W H G:Int):Bool:=decide ((16<=W/\W<=4096/\W % 16=0)/\(16<=H/\H<=4096/\H % 16=0)/\1<=G/\G<=64)
theorem synRight_yes(w:World)(W H G:Int)(h:seqRight W H G=true):Calls Tryz.prog 106 #[.agg #[.int .i64 W,.int .i64 H,.int .i64 G]] w fun e w'=>e=.returned (.bool true)/\Mod (fun _=>False) w w':=by
 unfold seqRight at h;simp only [decide_eq_true_eq]at h;obtain⟨⟨a1,a2,a3⟩,⟨b1,b2,b3⟩,c1,c2⟩:=h;have a4:(W % 16 != 0)=false:=by rw [a3];rfl
 have b4:(H % 16 != 0)=false:=by rw [b3];rfl
 clear a3 b3;have ix0:∀w,(Instr.index 264 (.agg #[.int .i64 W,.int .i64 H]) (.int .i64 0)).run Tryz.prog w=.ok (.int .i64 W) w:=fun _=>by kernel_rfl
 have ix1:∀w,(Instr.index 264 (.agg #[.int .i64 W,.int .i64 H]) (.int .i64 1)).run Tryz.prog w=.ok (.int .i64 H) w:=fun _=>by kernel_rfl
 go_enter Tryz.func106,Tryz.ntmps106;go_wp2_with fail;refine wp_loop_rounds 3 ?_;rw [rounds_succ];go_wp2_with fail;rw [rounds_succ];go_wp2_with fail;rw [rounds_succ];go_wp2_with fail;go_ret;exact⟨rfl,(Mod.refl _ _).alloc _⟩
theorem synRight_no(w:World)(W H G:Int)(h:seqRight W H G=false):Calls Tryz.prog 106 #[.agg #[.int .i64 W,.int .i64 H,.int .i64 G]] w fun e w'=>e=.returned (.bool false)/\Mod (fun _=>False) w w':=by
 unfold seqRight at h;simp only [decide_eq_false_iff_not]at h;have ix0:∀w,(Instr.index 264 (.agg #[.int .i64 W,.int .i64 H]) (.int .i64 0)).run Tryz.prog w=.ok (.int .i64 W) w:=fun _=>by kernel_rfl
 have ix1:∀w,(Instr.index 264 (.agg #[.int .i64 W,.int .i64 H]) (.int .i64 1)).run Tryz.prog w=.ok (.int .i64 H) w:=fun _=>by kernel_rfl
 by_cases hW:16<=W/\W<=4096/\W % 16=0
 ·obtain⟨a1,a2,a3⟩:=hW;have a4:(W % 16 != 0)=false:=by rw [a3];rfl
  by_cases hH:16<=H/\H<=4096/\H % 16=0
  ·obtain⟨b1,b2,b3⟩:=hH;have b4:(H % 16 != 0)=false:=by rw [b3];rfl
   have hG:G<1\/64<G:=by omega
   clear h a3 b3;go_enter Tryz.func106,Tryz.ntmps106;go_wp2_with fail;refine wp_loop_rounds 3 ?_;rw [rounds_succ];go_wp2_with fail;rw [rounds_succ];go_wp2_with fail;rw [rounds_succ];rcases hG with hG|hG
   ·have g1:decide (1<=G)=false:=by simp;omega
    go_wp2_with fail;go_ret;exact⟨rfl,(Mod.refl _ _).alloc _⟩
   ·have g1:decide (1<=G)=true:=by simp;omega
    have g2:decide (G<=64)=false:=by simp;omega
    go_wp2_with fail;go_ret;exact⟨rfl,(Mod.refl _ _).alloc _⟩
  ·have hH':H<16\/4096<H\/(16<=H/\H<=4096/\(H % 16 != 0)=true):=by
    by_cases x1:H<16
    ·exact .inl x1
    ·by_cases x2:4096<H
     ·exact .inr (.inl x2)
     ·exact .inr (.inr ⟨by omega,by omega,by simp;omega⟩)
   clear h a3 hH;go_enter Tryz.func106,Tryz.ntmps106;go_wp2_with fail;refine wp_loop_rounds 3 ?_;rw [rounds_succ];go_wp2_with fail;rw [rounds_succ];rcases hH' with hH|hH|⟨h1,h2,h3⟩
   all_goals
    go_wp2_with fail;go_ret;exact⟨rfl,(Mod.refl _ _).alloc _⟩
 ·have hW':W<16\/4096<W\/(16<=W/\W<=4096/\(W % 16 != 0)=true):=by
   by_cases x1:W<16
   ·exact .inl x1
   ·by_cases x2:4096<W
    ·exact .inr (.inl x2)
    ·exact .inr (.inr ⟨by omega,by omega,by simp;omega⟩)
  clear h hW;go_enter Tryz.func106,Tryz.ntmps106;go_wp2_with fail;refine wp_loop_rounds 3 ?_;rw [rounds_succ];rcases hW' with hW|hW|⟨h1,h2,h3⟩
  all_goals
   go_wp2_with fail;go_ret;exact⟨rfl,(Mod.refl _ _).alloc _⟩
structure Rg where
 name:List UInt8
 down:Int
 q:Int
 tg:Int
 deriving DecidableEq
def Rg.zero:Rg:=⟨[],0,0,0⟩
def halved(n d:Int):Int:=n/(2 ^ d.toNat:Nat)
def rungArgsB(r:Rg):Bool:=decide (0<=r.down/\r.down<=3/\0<=r.q/\r.q<=31/\0<=r.tg/\r.tg<=1048576)
def rungB(w h gop:Int)(r:Rg):Bool:=
 nameB r.name&&(rungArgsB r&&(seqRight (halved w r.down) (halved h r.down) gop&&(decide (halved w r.down*(2 ^ r.down.toNat:Nat)=w)&&decide (halved h r.down*(2 ^ r.down.toNat:Nat)=h))))
def rungsB(w h gop:Int)(l:List Rg)(n:Nat):Bool:=
 (List.range n).all fun i=>rungB w h gop (l.getD i Rg.zero)&&(List.range i).all fun k=>decide ((l.getD k Rg.zero).name≠(l.getD i Rg.zero).name)
def ladderB(w h gop:Int)(l:List Rg):Bool:=decide (1<=l.length/\l.length<=8)&&rungsB w h gop l l.length
theorem rungsB_succ(w h gop:Int)(l:List Rg)(n:Nat):rungsB w h gop l (n+1)=(rungsB w h gop l n&&(rungB w h gop (l.getD n Rg.zero)&&(List.range n).all fun k=>decide ((l.getD k Rg.zero).name≠(l.getD n Rg.zero).name))):=by
 unfold rungsB;rw [List.range_succ,List.all_append,List.all_cons,List.all_nil,Bool.and_true]
theorem rungsB_no{w h gop:Int}{l:List Rg}{n m:Nat}(hn:n<=m)(h0:rungsB w h gop l n=false):rungsB w h gop l m=false:=by
 induction m with
 | zero=>
  obtain rfl:n=0:=by omega
  exact h0
 | succ m ih=>
  by_cases hm:n=m+1
  ·rw [<-hm];exact h0
  ·rw [rungsB_succ,ih (by omega),Bool.false_and]
theorem rg_same_no{l:List Rg}{n k:Nat}(hk:k<n)(h:(l.getD k Rg.zero).name=(l.getD n Rg.zero).name):((List.range n).all fun k=>decide ((l.getD k Rg.zero).name≠(l.getD n Rg.zero).name))=false:=by
 rw [Bool.eq_false_iff];intro ha;rw [List.all_eq_true]at ha;have:=of_decide_eq_true (ha k (List.mem_range.2 hk));exact this h
theorem halved_0(n:Int):halved n 0=n:=by unfold halved;simp
structure Ent where
 g:Nat
 t:TypeId
 cs:Array Value
structure Sat(S:Nat->Prop)(w0 w:World)(own old:List Ent):Prop where
 blk:∀e∈own++old,Blk w e.g e.t e.cs
 nd:((own++old).map (·.g)).Nodup
 mine:∀e∈own,S e.g\/w0.heap.size<=e.g
 mod:Mod S w0 w
inductive Upd(g i:Nat)(u:Value):List Ent->List Ent->Prop
 | here {t:TypeId} {cs cs':Array Value} {l:List Ent} (e:cs.setIfInBounds i u=cs'):Upd g i u (⟨g,t,cs⟩ :: l) (⟨g,t,cs'⟩ :: l)
 | there {e:Ent} {l l':List Ent} (h:Upd g i u l l'):Upd g i u (e :: l) (e :: l')
inductive Rep(g:Nat)(t:TypeId)(cs':Array Value):List Ent->List Ent->Prop
 | here {t0:TypeId} {cs:Array Value} {l:List Ent}:Rep g t cs' (⟨g,t0,cs⟩ :: l) (⟨g,t,cs'⟩ :: l)
 | there {e:Ent} {l l':List Ent} (h:Rep g t cs' l l'):Rep g t cs' (e :: l) (e :: l')
theorem Rep.map{g:Nat}{t:TypeId}{cs':Array Value}{l l':List Ent}(h:Rep g t cs' l l'):l'.map (·.g)=l.map (·.g):=by
 induction h with
 | here=>rfl
 | there _ ih=>simp [ih]
theorem Rep.mem{g:Nat}{t:TypeId}{cs':Array Value}{l l':List Ent}(h:Rep g t cs' l l'):∃e∈l,e.g=g:=by
 induction h with
 | here=>exact⟨_,List.mem_cons_self,rfl⟩
 | there _ ih=>obtain⟨e,h1,h2⟩:=ih;exact⟨e,by simp [h1],h2⟩
theorem Rep.blk{g:Nat}{t:TypeId}{cs':Array Value}{w w':World}{l l':List Ent}(h:Rep g t cs' l l')(hb:∀e∈l,Blk w e.g e.t e.cs)(hm:Mod (·=g) w w')(hn:(l.map (·.g)).Nodup)(hg:Blk w' g t cs'):∀e∈l',Blk w' e.g e.t e.cs:=by
 induction h with
 | @here t0 cs l=>
  intro e he;simp only [List.map_cons,List.nodup_cons]at hn;rcases List.mem_cons.1 he with rfl|he
  ·exact hg
  ·exact(hb e (by simp [he])).keep hm (fun h=>hn.1 (by rw [<-show e.g=g from h];exact List.mem_map.2 ⟨e,he,rfl⟩))
 | @there e0 l l' h ih=>
  intro e he;simp only [List.map_cons,List.nodup_cons]at hn;rcases List.mem_cons.1 he with rfl|he
  ·obtain⟨x,hx,hxg⟩:=h.mem;exact(hb _ (by simp)).keep hm (fun h=>hn.1 (by rw [show e.g=g from h,<-hxg];exact List.mem_map.2 ⟨x,hx,rfl⟩))
  ·exact ih (fun e he=>hb e (by simp [he])) hn.2 e he
theorem Upd.map{g i:Nat}{u:Value}{l l':List Ent}(h:Upd g i u l l'):l'.map (·.g)=l.map (·.g):=by
 induction h with
 | here=>rfl
 | there _ ih=>simp [ih]
theorem Upd.mem{g i:Nat}{u:Value}{l l':List Ent}(h:Upd g i u l l'):∃e∈l,e.g=g:=by
 induction h with
 | here=>exact⟨_,List.mem_cons_self,rfl⟩
 | there _ ih=>obtain⟨e,h1,h2⟩:=ih;exact⟨e,by simp [h1],h2⟩
theorem Upd.blk{g i:Nat}{u:Value}{w:World}{l l':List Ent}(h:Upd g i u l l')(hb:∀e∈l,Blk w e.g e.t e.cs)(hn:(l.map (·.g)).Nodup):∀e∈l',Blk (w.setCell ⟨g,i,none⟩ u) e.g e.t e.cs:=by
 induction h with
 | @here t cs cs' l he=>
  intro e hm;simp only [List.map_cons,List.nodup_cons]at hn;rcases List.mem_cons.1 hm with rfl|hm
  ·exact(hb ⟨g,t,cs⟩ List.mem_cons_self).put he
  ·exact(hb e (by simp [hm])).far (fun h=>hn.1 (by dsimp at h;rw [<-h];exact List.mem_map.2 ⟨e,hm,rfl⟩)) _
 | @there e0 l l' h ih=>
  intro e hm;simp only [List.map_cons,List.nodup_cons]at hn;rcases List.mem_cons.1 hm with rfl|hm
  ·obtain⟨x,hx,hg⟩:=h.mem;exact(hb _ (by simp)).far (fun h=>hn.1 (by dsimp at h;rw [h,<-hg];exact List.mem_map.2 ⟨x,hx,rfl⟩)) _
  ·exact ih (fun e he=>hb e (by simp [he])) hn.2 e hm
section
variable {S : Nat → Prop} {w0 w w' : World} {own old own' : List Ent}
theorem Sat.nil(S:Nat->Prop)(w:World):Sat S w w [] []:=⟨by simp,by simp,by simp,Mod.refl _ _⟩
theorem Sat.one(S:Nat->Prop){g:Nat}{t:TypeId}{cs:Array Value}(h:Blk w g t cs):Sat S w w [] [⟨g,t,cs⟩]:=⟨by simpa using h,by simp,by simp,Mod.refl _ _⟩
theorem Sat.own1{g:Nat}{t:TypeId}{cs:Array Value}(h:Blk w g t cs):Sat (·=g) w w [⟨g,t,cs⟩] []:=⟨by simpa using h,by simp,by simp,Mod.refl _ _⟩
theorem Sat.add_own(h:Sat S w0 w own old){g:Nat}{t:TypeId}{cs:Array Value}(hb:Blk w g t cs)(hS:S g\/w0.heap.size<=g)(hg:∀e∈own++old,e.g≠g):Sat S w0 w (⟨g,t,cs⟩ :: own) old:=by
 refine⟨?_,?_,?_,h.mod⟩
 ·intro e he;rcases List.mem_cons.1 he with rfl|he
  ·exact hb
  ·exact h.blk e he
 ·have:=h.nd;simp only [List.cons_append,List.map_cons,List.nodup_cons];refine⟨fun hm=>?_,this⟩;obtain⟨e,he,hh⟩:=List.mem_map.1 hm;exact hg e he hh
 ·intro e he;rcases List.mem_cons.1 he with rfl|he
  ·exact hS
  ·exact h.mine e he
theorem Sat.alloc(h:Sat S w0 w own old)(t:TypeId)(cs:Array Value){g:Nat}(hg:w.heap.size=g):Sat S w0 (w.alloc (.cells cs t)) (⟨g,t,cs⟩ :: own) old:=by
 subst hg;refine⟨?_,?_,?_,h.mod.alloc _⟩
 ·intro e he;rcases List.mem_cons.1 he with rfl|he
  ·exact Blk.new _ _ _
  ·exact(h.blk e he).alloc _
 ·simp only [List.cons_append,List.map_cons,List.nodup_cons];refine⟨fun hm=>?_,h.nd⟩;obtain⟨e,he,hh⟩:=List.mem_map.1 hm;have:=(h.blk e he).lt;omega
 ·intro e he;rcases List.mem_cons.1 he with rfl|he
  ·exact .inr h.mod.size
  ·exact h.mine e he
theorem Sat.drew(h:Sat S w0 w own old):Sat S w0 w.drew own old:=⟨fun e he=>(h.blk e he).drew,h.nd,h.mine,h.mod.drew⟩
theorem Sat.drewN(h:Sat S w0 w own old)(n:Nat):Sat S w0 (w.drewN n) own old:=⟨fun e he=>(h.blk e he).drewN n,h.nd,h.mine,h.mod.drewN n⟩
theorem Sat.put(h:Sat S w0 w own old){g i:Nat}{u:Value}(hu:Upd g i u own own'):Sat S w0 (w.setCell ⟨g,i,none⟩ u) own' old:=by
 have hn:=h.nd;have hm:=hu.map;have hnl:(own.map (·.g)).Nodup:=by
  rw [List.map_append,List.nodup_append]at hn;exact hn.1
 obtain⟨x,hx,hg⟩:=hu.mem;refine⟨?_,?_,?_,h.mod.setCell (p:=⟨g,i,none⟩) (by have:=h.mine x hx;rw [hg]at this;exact this) _⟩
 ·intro e he;rcases List.mem_append.1 he with he|he
  ·exact hu.blk (fun e he=>h.blk e (by simp [he])) hnl e he
  ·refine(h.blk e (by simp [he])).far (fun hh=>?_) _;rw [List.map_append,List.nodup_append]at hn;exact hn.2.2 x.g (List.mem_map.2 ⟨x,hx,rfl⟩) e.g (List.mem_map.2 ⟨e,he,rfl⟩) (by rw [hg];exact hh.symm)
 ·rw [List.map_append,hm,<-List.map_append];exact hn
 ·intro e he;have:e.g∈own.map (·.g):=hm▸List.mem_map.2 ⟨e,he,rfl⟩;obtain⟨y,hy,hh⟩:=List.mem_map.1 this;rw [<-hh];exact h.mine y hy
theorem Sat.quiet(h:Sat S w0 w own old)(hm:Mod (fun _=>False) w w'):Sat S w0 w' own old:=
 ⟨fun e he=>(h.blk e he).keep hm (fun h=>h),h.nd,h.mine,h.mod.into hm (fun _ h=>h.elim)⟩
theorem Sat.after(hm:Mod (fun _=>False) w w')(h:Sat S w0 w own old):Sat S w0 w' own old:=h.quiet hm
theorem Sat.grew(hm:Mod (fun _=>False) w w')(h:Sat S w0 w own old){g:Nat}{t:TypeId}{cs:Array Value}(hb:Blk w' g t cs)(hg:w.heap.size<=g):Sat S w0 w' (⟨g,t,cs⟩ :: own) old:=
 (h.quiet hm).add_own hb (.inr (Nat.le_trans h.mod.size hg)) (fun e he=>by have:=(h.blk e he).lt;omega)
theorem Sat.beside{S':Nat->Prop}(hm:Mod S' w w')(h:Sat S w0 w own old)(hS:∀i,S' i->S i\/w0.heap.size<=i)(hn:∀e∈own++old,¬S' e.g):Sat S w0 w' own old:=
 ⟨fun e he=>(h.blk e he).keep hm (hn e he),h.nd,h.mine,h.mod.into hm hS⟩
theorem Sat.turn{g:Nat}{t:TypeId}{cs':Array Value}(hm:Mod (·=g) w w')(h:Sat S w0 w own old)(hb:Blk w' g t cs')(hr:Rep g t cs' own own'):Sat S w0 w' own' old:=by
 have hn:=h.nd;have hmp:=hr.map;obtain⟨x,hx,hg⟩:=hr.mem;have hnl:(own.map (·.g)).Nodup:=by
  rw [List.map_append,List.nodup_append]at hn;exact hn.1
 refine⟨?_,?_,?_,h.mod.into hm (fun i hi=>by rw [show i=g from hi,<-hg];exact h.mine x hx)⟩
 ·intro e he;rcases List.mem_append.1 he with he|he
  ·exact hr.blk (fun e he=>h.blk e (by simp [he])) hm hnl hb e he
  ·refine(h.blk e (by simp [he])).keep hm (fun hh=>?_);rw [List.map_append,List.nodup_append]at hn;exact hn.2.2 x.g (List.mem_map.2 ⟨x,hx,rfl⟩) e.g (List.mem_map.2 ⟨e,he,rfl⟩) (by rw [hg];exact hh.symm)
 ·rw [List.map_append,hmp,<-List.map_append];exact hn
 ·intro e he;have:e.g∈own.map (·.g):=hmp▸List.mem_map.2 ⟨e,he,rfl⟩;obtain⟨y,hy,hh⟩:=List.mem_map.1 this;rw [<-hh];exact h.mine y hy
theorem Sat.drop_own{e:Ent}(h:Sat S w0 w (e :: own) old):Sat S w0 w own old:=
 ⟨fun x hx=>h.blk x (by simp only [List.cons_append,List.mem_cons];exact .inr hx),(by have:=h.nd;simp only [List.cons_append,List.map_cons,List.nodup_cons]at this;exact this.2),fun x hx=>h.mine x (by simp [hx]),h.mod⟩
theorem Sat.own_(h:Sat S w0 w own old)(k:Nat){e:Ent}(hk:own[k]?=some e):Blk w e.g e.t e.cs:=h.blk e (List.mem_append.2 (.inl (List.mem_of_getElem? hk)))
theorem Sat.apart(h:Sat S w0 w own old)(i j:Nat){a b:Ent}(hi:(own++old)[i]?=some a)(hj:(own++old)[j]?=some b)(hij:i<j):a.g≠b.g:=by
 have hn:=h.nd;rw [List.nodup_iff_pairwise_ne,List.pairwise_iff_getElem]at hn;obtain⟨h1,rfl⟩:=List.getElem?_eq_some_iff.1 hi;obtain⟨h2,rfl⟩:=List.getElem?_eq_some_iff.1 hj;have:=hn i j (by simpa using h1) (by simpa using h2) hij;simpa only [List.getElem_map]using this
theorem Sat.low(h:Sat (fun _=>False) w0 w own old)(k:Nat){e:Ent}(hk:own[k]?=some e):w0.heap.size<=e.g:=(h.mine e (List.mem_of_getElem? hk)).resolve_left (fun h=>h)
end
theorem int_info:(Tryz.prog.info? 3).map (fun i=>(i.zero,i.size,i.bytes))=some (some (.int .i64 0),1,8):=by kernel_rfl
def i64s(l:List Int):List Value:=l.map (Value.int .i64)
theorem i64s_length(l:List Int):(i64s l).length=l.length:=by simp [i64s]
theorem i64s_one(l:List Int):∀u∈i64s l,u.oneCell'=true:=fun u hu=>by
 obtain⟨b,_,rfl⟩:=List.mem_map.1 hu;rfl
def IntsOwn(w:World)(B:Nat)(v:Value)(l:List Int):Prop:=w.ownsRow B 3 1 v l.length (i64s l)
def IntsIn(w:World)(A:Option Addr)(n c:Nat)(l:List Int):Prop:=l.length=n/\(A=none->c=0)/\Src w 1 A n (i64s l)/\(0<n->∀ad,A=some ad->ad.block<w.heap.size)
theorem IntsIn.mod{w w':World}{S:Nat->Prop}{A:Option Addr}{n c:Nat}{l:List Int}(h:IntsIn w A n c l)(hm:Mod S w w')(hS:0<n->∀ad,A=some ad->¬S ad.block):IntsIn w' A n c l:=by
 obtain⟨h1,h2,h3,h4⟩:=h;refine⟨h1,h2,h3.keep' fun h0 ad e j=>World.cell?_of_block (by rw [addr_block];exact hm.block _ (h4 h0 ad e) (hS h0 ad e)),fun h0 ad e=>Nat.lt_of_lt_of_le (h4 h0 ad e) hm.size⟩
theorem IntsIn.quiet{w w':World}{A:Option Addr}{n c:Nat}{l:List Int}(h:IntsIn w A n c l)(hm:Mod (fun _=>False) w w'):IntsIn w' A n c l:=h.mod hm (fun _ _ _ h=>h)
theorem IntsOwn.in_{w:World}{B:Nat}{A:Option Addr}{m c:Nat}{l:List Int}(h:IntsOwn w B (.slice A m c) l):IntsIn w A m c l:=by
 have hs:=Src.of_own h;obtain⟨rfl,hs⟩:=hs;refine⟨rfl,fun e=>?_,hs,fun _ ad e=>?_⟩
 ·rcases h.2 with⟨hv,_⟩|⟨g,cap,cur,hv,_⟩
  ·injection hv
  ·subst e;injection hv with e1;cases e1
 ·rcases h.2 with⟨hv,_⟩|⟨g,cap,cur,hv,hB,hg,_⟩
  ·subst e;injection hv with e1;cases e1
  ·subst e;injection hv with e1;injection e1 with e1;subst e1;exact(Array.getElem?_eq_some_iff.1 hg).1
theorem IntsIn.place{w:World}{A:Option Addr}{n c:Nat}{l:List Int}(h:IntsIn w A n c l)(h0:0<n):∃b off,A=some ⟨b,off,none⟩/\b<w.heap.size/\∀i<n,w.cell? ⟨b,off+i,none⟩=some (.int .i64 (l.getD i 0)):=by
 obtain⟨h1,h2,h3,h4⟩:=h;cases A with
 | none=>have:=h3.2.1 rfl;omega
 | some ad=>
  obtain⟨b,off,spot⟩:=ad;have hl:0<(i64s l).length:=by rw [i64s_length];omega
  have hc:=h3.2.2 _ rfl 0 _ (List.getElem?_eq_getElem hl);have hspot:spot=none:=by simpa [Addr.add]using World.cell?_spot hc
  subst hspot;refine⟨b,off,rfl,h4 h0 _ rfl,fun i hi=>?_⟩;have h5:=h3.2.2 _ rfl i (.int .i64 (l.getD i 0)) (by simp [i64s,show i<l.length by omega]);rwa [addr_add']at h5
end Go.Proofs.YtnnpoodcdibpiaaGreatDoor
