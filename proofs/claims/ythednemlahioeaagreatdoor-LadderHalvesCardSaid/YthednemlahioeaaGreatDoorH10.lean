/-
  lift: the columns of a block taken back.
-/
import Derived.Test.YthednemlahioeaaGreatDoorH5
namespace Go.Proofs.YthednemlahioeaaGreatDoor
open Go.RowKit
set_option maxRecDepth 100000
set_option maxHeartbeats 8000000
def back8 (l:List Int):List Int:=upL 4 (upL 2 (upL 1 l))
theorem back8_length (l:List Int):(back8 l).length = l.length:=by simp [back8,upL,upK_length]
theorem back8_within {M:Int} {l:List Int} (h:Within M l):Within (27 * M + 13) (back8 l):=by
 have w1:=up_within _ 1 l h 1
 have w2:=up_within _ 2 _ w1 2
 have w3:=up_within _ 4 _ w2 4
 intro i
 have:=w3 i
 simp only [back8,upL]
 omega
theorem doBack (w:World) (g nb:Nat) (l:List Int) (hl:l.length = 8) (hM:Within 1099511627776 l) (hb:Blk w g 482 (i64s l).toArray) (hn:Blk w nb 3 #[.int .i64 8]) :
  Calls Tryz.prog 406 #[.pointer (some ⟨g,0,none⟩),.pointer (some ⟨nb,0,none⟩)] w fun e w'=>e = .returned (.tuple #[]) ∧ Blk w' g 482 (i64s (back8 l)).toArray ∧ Mod (· = g) w w':=by
 obtain ⟨hc,hf⟩:=hn.both
 have HB:=Lib.hid hb
 clear hb hn
 go_enter Tryz.func406,Tryz.ntmps406
 go_wp2_with fail
 refine (lineBack _ g l hl hM HB.out).mono ?_
 rintro e w1 ⟨rfl,hb1,hm1⟩
 have HF:=Lib.hid (And.intro hb1 hm1)
 clear hb1 hm1
 go_wp2_with fail
 go_end0
 exact ⟨rfl,HF.out⟩
def colOf (x:Nat) (L:List Int):List Int:=(List.range 8).map fun y=>L.getD (y * 8 + x) 0
theorem colOf_length (x:Nat) (L:List Int):(colOf x L).length = 8:=by simp [colOf]
theorem colOf_getD (x:Nat) (L:List Int) (y:Nat) (hy:y < 8):(colOf x L).getD y 0 = L.getD (y * 8 + x) 0:=by
 simp [colOf,List.getD_eq_getElem?_getD,hy]
theorem colOf_within {M:Int} {L:List Int} (h:Within M L) (h0:0 ≤ M) (x:Nat):Within M (colOf x L):=by
 intro y
 by_cases hy:y < 8
 ·rw [colOf_getD x L y hy];exact h _
 ·have:(colOf x L).getD y 0 = 0:=by rw [List.getD_eq_getElem?_getD,List.getElem?_eq_none (by rw [colOf_length];omega)];rfl
  rw [this];omega
def fillK (c:List Int):Nat → List Int
 | 0=>[0,0,0,0,0,0,0,0]
 | y + 1=>(fillK c y).set y (c.getD y 0)
theorem fillK_length (c:List Int) (y:Nat):(fillK c y).length = 8:=by
 induction y with
 | zero=>rfl
 | succ y ih=>simp [fillK,ih]
theorem eight (c:List Int) (h:c.length = 8):c = [c.getD 0 0,c.getD 1 0,c.getD 2 0,c.getD 3 0,c.getD 4 0,c.getD 5 0,c.getD 6 0,c.getD 7 0]:=by
 match c,h with
 | [_,_,_,_,_,_,_,_],_=>rfl
theorem fillK_all (c:List Int) (h:c.length = 8):fillK c 8 = c:=by
 rw [eight c h];rfl
def colK (x:Nat) (c L:List Int):Nat → List Int
 | 0=>L
 | y + 1=>(colK x c L y).set (y * 8 + x) (c.getD y 0)
theorem colK_length (x:Nat) (c L:List Int) (y:Nat):(colK x c L y).length = L.length:=by
 induction y with
 | zero=>rfl
 | succ y ih=>simp [colK,ih]
def colsK (L:List Int):Nat → List Int
 | 0=>L
 | x + 1=>colK x (back8 (colOf x (colsK L x))) (colsK L x) 8
theorem colsK_length (L:List Int) (x:Nat):(colsK L x).length = L.length:=by
 induction x with
 | zero=>rfl
 | succ x ih=>simp [colsK,colK_length,ih]
theorem colK_getD (x:Nat) (c L:List Int) (hL:L.length = 64) (hx:x < 8) (n y x':Nat) (hn:n ≤ 8) (hx':x' < 8) (hy:y < 8) :
  (colK x c L n).getD (y * 8 + x') 0 = if x' = x ∧ y < n then c.getD y 0 else L.getD (y * 8 + x') 0:=by
 induction n with
 | zero=>simp [colK]
 | succ n ih=>
  rw [colK,getD_set,colK_length,ih (by omega)]
  by_cases e:n * 8 + x = y * 8 + x'
  ·obtain ⟨rfl,rfl⟩:n = y ∧ x = x':=by omega
   rw [if_pos ⟨rfl,by omega⟩,if_pos ⟨rfl,by omega⟩]
  ·rw [if_neg (fun h=>e h.1)]
   by_cases e2:x' = x ∧ y < n
   ·rw [if_pos e2,if_pos ⟨e2.1,by omega⟩]
   ·rw [if_neg e2,if_neg (fun h=>e2 ⟨h.1,by omega⟩)]
theorem colsK_getD (L:List Int) (hL:L.length = 64) (n y x:Nat) (hn:n ≤ 8) (hx:x < 8) (hy:y < 8) :
  (colsK L n).getD (y * 8 + x) 0 = if x < n then (back8 (colOf x L)).getD y 0 else L.getD (y * 8 + x) 0:=by
 induction n generalizing x y with
 | zero=>simp [colsK]
 | succ n ih=>
  rw [colsK,colK_getD n _ _ (by rw [colsK_length];exact hL) (by omega) 8 y x (by omega) hx hy,ih y x (by omega) hx hy]
  by_cases e:x = n
  ·subst e
   rw [if_pos ⟨rfl,hy⟩,if_pos (by omega)]
   congr 2
   unfold colOf
   apply List.map_congr_left
   intro a ha
   rw [ih a x (by omega) hx (by simpa using ha),if_neg (by omega)]
  ·rw [if_neg (fun h=>e h.1)]
   by_cases e2:x < n
   ·rw [if_pos e2,if_pos (by omega)]
   ·rw [if_neg e2,if_neg (by omega)]
theorem within_of {M:Int} {L:List Int} (hL:L.length = 64) (h:∀ y < 8,∀ x < 8,-M ≤ L.getD (y * 8 + x) 0 ∧ L.getD (y * 8 + x) 0 ≤ M) (h0:0 ≤ M):Within M L:=by
 intro i
 by_cases hi:i < 64
 ·have:=h (i / 8) (by omega) (i % 8) (by omega)
  rwa [show i / 8 * 8 + i % 8 = i by omega] at this
 ·have:L.getD i 0 = 0:=by rw [List.getD_eq_getElem?_getD,List.getElem?_eq_none (by omega)];rfl
  rw [this];omega
theorem colsK_within {M:Int} {L:List Int} (hL:L.length = 64) (h:Within M L) (h0:0 ≤ M) (n:Nat) (hn:n ≤ 8):Within (27 * M + 13) (colsK L n):=by
 refine within_of (by rw [colsK_length];exact hL) (fun y hy x hx=>?_) (by omega)
 rw [colsK_getD L hL n y x hn hx hy]
 split
 ·exact back8_within (colOf_within h h0 x) y
 ·have:=h (y * 8 + x);omega
theorem row_cell {w:World} {r:Nat} {t:TypeId} {L:List Int} {tl:List Value} (hb:Blk w r t (i64s L ++ tl).toArray) (i:Nat) (hi:i < L.length):w.cell? ⟨r,i,none⟩ = some (.int .i64 (L.getD i 0)):=by
 rw [hb.cell,List.getElem?_toArray,List.getElem?_append_left (by rw [i64s_length];exact hi)]
 exact getD_i64s L i hi
theorem row_set {w:World} {r:Nat} {t:TypeId} {L:List Int} {tl:List Value} (hb:Blk w r t (i64s L ++ tl).toArray) (i:Nat) (hi:i < L.length) (x:Int):Blk (w.setCell ⟨r,i,none⟩ (.int .i64 x)) r t (i64s (L.set i x) ++ tl).toArray:=by
 have:=hb.set_ i (.int .i64 x)
 have e:(i64s L ++ tl).toArray.setIfInBounds i (.int .i64 x) = (i64s (L.set i x) ++ tl).toArray:=by
  simp only [List.setIfInBounds_toArray,i64s,List.map_set]
  rw [List.set_append_left _ _ (by simpa using hi)]
 rwa [e] at this
def colsRel (w:World) (r nb:Nat) (L:List Int) (tl:List Value) (v:Value) (wr:World):Prop:=
 ∃ x:Nat,x ≤ 8 ∧ v = .int .i64 (x:Int) ∧ Blk wr r 3 (i64s (colsK L x) ++ tl).toArray ∧ Blk wr nb 3 #[.int .i64 8] ∧ Mod (· = r) w wr
def fillRel (w:World) (r nb g:Nat) (c L:List Int) (tl:List Value) (v:Value) (wi:World):Prop:=
 ∃ y:Nat,y ≤ 8 ∧ v = .int .i64 (y:Int) ∧ Blk wi g 482 (i64s (fillK c y)).toArray ∧ Blk wi r 3 (i64s L ++ tl).toArray ∧ Blk wi nb 3 #[.int .i64 8] ∧ Mod (· = r) w wi
def putRel (w:World) (r nb g x:Nat) (c L:List Int) (tl:List Value) (v:Value) (wi:World):Prop:=
 ∃ y:Nat,y ≤ 8 ∧ v = .int .i64 (y:Int) ∧ Blk wi g 482 (i64s c).toArray ∧ Blk wi r 3 (i64s (colK x c L y) ++ tl).toArray ∧ Blk wi nb 3 #[.int .i64 8] ∧ Mod (· = r) w wi
theorem liftCols (w:World) (r nb cap:Nat) (L:List Int) (tl:List Value) (hL:L.length = 64) (hM:Within 34359738368 L) (hne:r ≠ nb) (hb:Blk w r 3 (i64s L ++ tl).toArray) (hn:Blk w nb 3 #[.int .i64 8]) :
  Calls Tryz.prog 357 #[.slice (some ⟨r,0,none⟩) 64 cap,.int .i64 8,.func (.func 406) #[] #[.pointer (some ⟨nb,0,none⟩)]] w fun e w'=>e = .returned (.tuple #[]) ∧ Blk w' r 3 (i64s (colsK L 8) ++ tl).toArray ∧ Blk w' nb 3 #[.int .i64 8] ∧ Mod (· = r) w w':=by
 have HB:=Lib.hid (And.intro hb hn)
 have hrl:=hb.lt
 have hnl:=hn.lt
 clear hb hn
 go_enter Tryz.func357,Tryz.ntmps357
 go_wp2_with fail
 go_loopw [11] (colsRel w r nb L tl) (fun x _=>8 - (intOf x).toNat)
 case atStart=>exact ⟨0,by omega,rfl,HB.out.1,HB.out.2,Mod.refl _ _⟩
 case round=>
  revert hrel
  generalize wr = wr0
  intro hrel
  obtain ⟨x,hx,rfl,hb,hn,hm⟩:=hrel
  by_cases hlt:x < 8
  ·have HW:=Lib.hid (And.intro hb (And.intro hn hm))
   have hsz:=hm.size
   clear hb hn hm
   go_upto_region 4 with (fail)
   have HI:Hid (Blk (wr0.alloc (.cells #[.int .i64 0,.int .i64 0,.int .i64 0,.int .i64 0,.int .i64 0,.int .i64 0,.int .i64 0,.int .i64 0] 482)) wr0.heap.size 482 (i64s (fillK (colOf x (colsK L x)) 0)).toArray ∧ Blk (wr0.alloc (.cells #[.int .i64 0,.int .i64 0,.int .i64 0,.int .i64 0,.int .i64 0,.int .i64 0,.int .i64 0,.int .i64 0] 482)) r 3 (i64s (colsK L x) ++ tl).toArray ∧ Blk (wr0.alloc (.cells #[.int .i64 0,.int .i64 0,.int .i64 0,.int .i64 0,.int .i64 0,.int .i64 0,.int .i64 0,.int .i64 0] 482)) nb 3 #[.int .i64 8] ∧ Mod (· = r) w (wr0.alloc (.cells #[.int .i64 0,.int .i64 0,.int .i64 0,.int .i64 0,.int .i64 0,.int .i64 0,.int .i64 0,.int .i64 0] 482))):=⟨Blk.new _ _ _,HW.out.1.alloc _,HW.out.2.1.alloc _,HW.out.2.2.alloc _⟩
   generalize wr0.alloc (.cells #[.int .i64 0,.int .i64 0,.int .i64 0,.int .i64 0,.int .i64 0,.int .i64 0,.int .i64 0,.int .i64 0] 482) = w1 at *
   have hlx:(colsK L x).length = 64:=by rw [colsK_length];exact hL
   have HWI:Hid (Within 1099511627776 (colOf x (colsK L x))):=fun i=>by
    have:=colOf_within (colsK_within hL hM (by omega) x (by omega)) (by omega) x i
    omega
   generalize hL':colsK L x = L' at *
   have HL':=Lib.hid hL'
   clear hL' HW
   go_wp2_with fail
   go_loopw [15] (fillRel w r nb wr0.heap.size (colOf x L') L' tl) (fun y _=>8 - (intOf y).toNat)
   case atStart=>exact ⟨0,by omega,rfl,HI.out⟩
   case round=>
    obtain ⟨y,hy,rfl,bg,br,bn,hm⟩:=hrel
    by_cases hly:y < 8
    ·have c1:=row_cell br (y * 8 + x) (by omega)
     have c2:=bg.cell y
     rw [List.getElem?_toArray,getD_i64s _ _ (by rw [fillK_length];omega)] at c2
     have c3:=bg.frozen
     generalize hv:L'.getD (y * 8 + x) 0 = v at *
     have HV:=Lib.hid hv
     have HK:=Lib.hid (And.intro bg (And.intro br (And.intro bn hm)))
     clear bg br bn hm hv
     have j1:(0:Int) ≤ (y:Int) * 8 + (x:Int):=by omega
     have j2:(y:Int) * 8 + (x:Int) < 64:=by omega
     go_wp2_with fail
     refine ⟨⟨y + 1,by omega,by go_num,?_,HK.out.2.1.far (p:=⟨wr0.heap.size,y,none⟩) (by show ¬ r = wr0.heap.size;omega) _,HK.out.2.2.1.far (p:=⟨wr0.heap.size,y,none⟩) (by show ¬ nb = wr0.heap.size;omega) _,HK.out.2.2.2.setCell (.inr hsz) _⟩,by simp [intOf];omega⟩
     have hb':=HK.out.1.set_ y (.int .i64 v)
     rw [set_i64s] at hb'
     rw [fillK,colOf_getD _ _ _ hly,HV.out]
     exact hb'
    ·obtain rfl:y = 8:=by omega
     rw [fillK_all _ (colOf_length _ _)] at bg
     have hnb2:¬ nb = wr0.heap.size:=by omega
     have hrb2:¬ r = wr0.heap.size:=by omega
     have HK:=Lib.hid (And.intro bg (And.intro br (And.intro bn hm)))
     clear bg br bn hm
     go_wp2_with fail
     refine (doBack _ wr0.heap.size nb _ (colOf_length _ _) HWI.out HK.out.1 HK.out.2.2.1).mono ?_
     rintro e w2 ⟨rfl,hb2,hm2⟩
     have br2:=HK.out.2.1.keep hm2 hrb2
     have bn2:=HK.out.2.2.1.keep hm2 hnb2
     have hmf:=HK.out.2.2.2.then_ hm2 (fun k hk e=>by omega)
     have HK2:=Lib.hid (And.intro hb2 (And.intro br2 (And.intro bn2 hmf)))
     have hc8:(back8 (colOf x L')).length = 8:=by rw [back8_length,colOf_length]
     generalize hcc:back8 (colOf x L') = cc at *
     have HCC:=Lib.hid hcc
     clear hb2 hm2 br2 bn2 hmf HK hcc
     go_wp2_with fail
     go_loopw [32] (putRel w r nb wr0.heap.size x cc L' tl) (fun y _=>8 - (intOf y).toNat)
     case atStart=>exact ⟨0,by omega,rfl,HK2.out.1,HK2.out.2⟩
     case round=>
      obtain ⟨y,hy,rfl,bg,br,bn,hm⟩:=hrel
      by_cases hly:y < 8
      ·have hlk:(colK x cc L' y).length = 64:=by rw [colK_length];exact hlx
       have c1:=row_cell br (y * 8 + x) (by omega)
       have c2:=bg.cell y
       rw [List.getElem?_toArray,getD_i64s _ _ (by omega)] at c2
       have c3:=br.frozen
       generalize hv:cc.getD y 0 = v at *
       have HV:=Lib.hid hv
       have HK:=Lib.hid (And.intro bg (And.intro br (And.intro bn hm)))
       clear bg br bn hm hv
       have j1:(0:Int) ≤ (y:Int) * 8 + (x:Int):=by omega
       have j2:(y:Int) * 8 + (x:Int) < 64:=by omega
       go_wp2_with fail
       refine ⟨⟨y + 1,by omega,by go_num,HK.out.1.far (p:=⟨r,y * 8 + x,none⟩) (by show ¬ wr0.heap.size = r;omega) _,?_,HK.out.2.2.1.far (p:=⟨r,y * 8 + x,none⟩) (by show ¬ nb = r;omega) _,HK.out.2.2.2.setCell (.inl rfl) _⟩,by simp [intOf];omega⟩
       rw [colK,HV.out]
       exact row_set HK.out.2.1 (y * 8 + x) (by omega) v
      ·obtain rfl:y = 8:=by omega
       have HK:=Lib.hid (And.intro br (And.intro bn hm))
       clear bg br bn hm
       go_wp2_with fail
       refine ⟨⟨x + 1,by omega,by go_num,?_,HK.out.2⟩,by simp [intOf];omega⟩
       rw [colsK,HL'.out,HCC.out]
       exact HK.out.1
  ·obtain rfl:x = 8:=by omega
   have HF:=Lib.hid (And.intro hb (And.intro hn hm))
   clear hb hn hm
   go_wp2_with fail
   go_end0
   exact ⟨rfl,HF.out⟩
def z8:List Value:=[.int .i64 0,.int .i64 0,.int .i64 0,.int .i64 0,.int .i64 0,.int .i64 0,.int .i64 0,.int .i64 0]
def rowOf (y:Nat) (L:List Int):List Int:=(L.drop (y * 8)).take 8
theorem rowOf_length (y:Nat) (L:List Int) (hL:L.length = 64) (hy:y < 8):(rowOf y L).length = 8:=by simp [rowOf];omega
theorem rowOf_getD (y:Nat) (L:List Int) (x:Nat) (hx:x < 8):(rowOf y L).getD x 0 = L.getD (y * 8 + x) 0:=getD_part L (y * 8) 8 x hx
theorem rowOf_within {M:Int} {L:List Int} (h:Within M L) (h0:0 ≤ M) (y:Nat):Within M (rowOf y L):=by
 intro x
 by_cases hx:x < 8
 ·rw [rowOf_getD y L x hx];exact h _
 ·have:(rowOf y L).getD x 0 = 0:=by rw [List.getD_eq_getElem?_getD,List.getElem?_eq_none (by simp [rowOf];omega)];rfl
  rw [this];omega
def rowsK (L:List Int):Nat → List Int
 | 0=>L
 | y + 1=>splice (rowsK L y) (y * 8) (back8 (rowOf y (rowsK L y)))
theorem rowsK_length (L:List Int) (hL:L.length = 64) (y:Nat) (hy:y ≤ 8):(rowsK L y).length = 64:=by
 induction y with
 | zero=>exact hL
 | succ y ih=>
  have h:=ih (by omega)
  rw [rowsK,length_splice _ _ _ (by rw [back8_length,rowOf_length y _ h (by omega)];omega),h]
theorem splice_getD (L c:List Int) (a:Nat) (ha:a + c.length ≤ L.length) (i:Nat):(splice L a c).getD i 0 = if a ≤ i ∧ i < a + c.length then c.getD (i - a) 0 else L.getD i 0:=by
 simp only [splice,List.getD_eq_getElem?_getD]
 by_cases h1:i < a
 ·rw [List.getElem?_append_left (by simp;omega),List.getElem?_take_of_lt h1,if_neg (by omega)]
 ·rw [List.getElem?_append_right (by simp;omega)]
  have e:(L.take a).length = a:=by simp;omega
  rw [e]
  by_cases h2:i - a < c.length
  ·rw [List.getElem?_append_left h2,if_pos (by omega)]
  ·rw [List.getElem?_append_right (by omega),List.getElem?_drop,if_neg (by omega)]
   congr 2
   omega
theorem rowsK_getD (L:List Int) (hL:L.length = 64) (n y x:Nat) (hn:n ≤ 8) (hx:x < 8) (hy:y < 8) :
  (rowsK L n).getD (y * 8 + x) 0 = if y < n then (back8 (rowOf y L)).getD x 0 else L.getD (y * 8 + x) 0:=by
 induction n generalizing x y with
 | zero=>simp [rowsK]
 | succ n ih=>
  have hl:=rowsK_length L hL n (by omega)
  have h8:(back8 (rowOf n (rowsK L n))).length = 8:=by rw [back8_length,rowOf_length n _ hl (by omega)]
  rw [rowsK,splice_getD _ _ _ (by omega),h8,ih y x (by omega) hx hy]
  by_cases e:y = n
  ·subst e
   rw [if_pos (by omega),if_pos (by omega),show y * 8 + x - y * 8 = x by omega]
   have e1:rowOf y (rowsK L y) = rowOf y L:=by
    rw [eight _ (rowOf_length y _ hl hy),eight _ (rowOf_length y L hL hy)]
    simp only [rowOf_getD _ _ _ (show 0 < 8 by omega),rowOf_getD _ _ _ (show 1 < 8 by omega),rowOf_getD _ _ _ (show 2 < 8 by omega),rowOf_getD _ _ _ (show 3 < 8 by omega),rowOf_getD _ _ _ (show 4 < 8 by omega),rowOf_getD _ _ _ (show 5 < 8 by omega),rowOf_getD _ _ _ (show 6 < 8 by omega),rowOf_getD _ _ _ (show 7 < 8 by omega)]
    have h:=fun x hx=>(ih y x (by omega) hx hy).trans (if_neg (by omega))
    rw [h 0 (by omega),h 1 (by omega),h 2 (by omega),h 3 (by omega),h 4 (by omega),h 5 (by omega),h 6 (by omega),h 7 (by omega)]
   rw [e1]
  ·rw [if_neg (by omega)]
   by_cases e2:y < n
   ·rw [if_pos e2,if_pos (by omega)]
   ·rw [if_neg e2,if_neg (by omega)]
theorem rowsK_within {M:Int} {L:List Int} (hL:L.length = 64) (h:Within M L) (h0:0 ≤ M) (n:Nat) (hn:n ≤ 8):Within (27 * M + 13) (rowsK L n):=by
 refine within_of (rowsK_length L hL n hn) (fun y hy x hx=>?_) (by omega)
 rw [rowsK_getD L hL n y x hn hx hy]
 split
 ·exact back8_within (rowOf_within h h0 y) x
 ·have:=h (y * 8 + x);omega
theorem src_row {w:World} {r:Nat} {t:TypeId} {L:List Int} {tl:List Value} (hb:Blk w r t (i64s L ++ tl).toArray) (a m:Nat) (ham:a + m ≤ L.length):Src w 1 (some ⟨r,a,none⟩) m (i64s ((L.drop a).take m)):=by
 refine ⟨(by simp [i64s];omega),fun e=>(by cases e),fun ad e j u hu=>?_⟩
 injection e with e
 subst e
 have hj:j < m:=by
  rcases Nat.lt_or_ge j m with h | h
  ·exact h
  ·rw [List.getElem?_eq_none (by simp [i64s];omega)] at hu;cases hu
 rw [addr_add',row_cell hb (a + j) (by omega),← hu,getD_i64s _ _ (by simp;omega),getD_part _ _ _ _ hj]
theorem splice_row (L c:List Int) (tl:List Value) (a:Nat) (ha:a + c.length ≤ L.length):splice (i64s L ++ tl) a (i64s c) = i64s (splice L a c) ++ tl:=by
 simp only [splice,i64s,List.map_append,List.map_take,List.map_drop,List.append_assoc,List.length_map]
 rw [List.take_append_of_le_length (by simp;omega),List.drop_append_of_le_length (by simp;omega)]
def rowsRel (w:World) (r nb:Nat) (L:List Int) (tl:List Value) (v:Value) (wr:World):Prop:=
 ∃ y:Nat,y ≤ 8 ∧ v = .int .i64 (y:Int) ∧ Blk wr r 3 (i64s (rowsK L y) ++ tl).toArray ∧ Blk wr nb 3 #[.int .i64 8] ∧ Mod (· = r) w wr
theorem liftRows (w:World) (r nb cap:Nat) (L:List Int) (tl:List Value) (hL:L.length = 64) (hcap:64 ≤ cap) (hM:Within 34359738368 L) (hne:r ≠ nb) (hb:Blk w r 3 (i64s L ++ tl).toArray) (hn:Blk w nb 3 #[.int .i64 8]) :
  Calls Tryz.prog 356 #[.slice (some ⟨r,0,none⟩) 64 cap,.int .i64 8,.func (.func 406) #[] #[.pointer (some ⟨nb,0,none⟩)]] w fun e w'=>e = .returned (.tuple #[]) ∧ Blk w' r 3 (i64s (rowsK L 8) ++ tl).toArray ∧ Blk w' nb 3 #[.int .i64 8] ∧ Mod (· = r) w w':=by
 have HB:=Lib.hid (And.intro hb hn)
 have hrl:=hb.lt
 have hnl:=hn.lt
 clear hb hn
 go_enter Tryz.func356,Tryz.ntmps356
 go_wp2_with fail
 go_loopw [9] (rowsRel w r nb L tl) (fun x _=>8 - (intOf x).toNat)
 case atStart=>exact ⟨0,by omega,rfl,HB.out.1,HB.out.2,Mod.refl _ _⟩
 case round=>
  revert hrel
  generalize wr = wr0
  intro hrel
  obtain ⟨y,hy,rfl,hb,hn,hm⟩:=hrel
  by_cases hlt:y < 8
  ·have HW:=Lib.hid (And.intro hb (And.intro hn hm))
   have hsz:=hm.size
   clear hb hn hm
   go_upto_region 4 with (fail)
   have HI:Hid (Blk (wr0.alloc (.cells #[.int .i64 0,.int .i64 0,.int .i64 0,.int .i64 0,.int .i64 0,.int .i64 0,.int .i64 0,.int .i64 0] 482)) wr0.heap.size 482 z8.toArray ∧ Blk (wr0.alloc (.cells #[.int .i64 0,.int .i64 0,.int .i64 0,.int .i64 0,.int .i64 0,.int .i64 0,.int .i64 0,.int .i64 0] 482)) r 3 (i64s (rowsK L y) ++ tl).toArray ∧ Blk (wr0.alloc (.cells #[.int .i64 0,.int .i64 0,.int .i64 0,.int .i64 0,.int .i64 0,.int .i64 0,.int .i64 0,.int .i64 0] 482)) nb 3 #[.int .i64 8] ∧ Mod (· = r) w (wr0.alloc (.cells #[.int .i64 0,.int .i64 0,.int .i64 0,.int .i64 0,.int .i64 0,.int .i64 0,.int .i64 0,.int .i64 0] 482))):=⟨Blk.new _ _ _,HW.out.1.alloc _,HW.out.2.1.alloc _,HW.out.2.2.alloc _⟩
   generalize wr0.alloc (.cells #[.int .i64 0,.int .i64 0,.int .i64 0,.int .i64 0,.int .i64 0,.int .i64 0,.int .i64 0,.int .i64 0] 482) = w1 at *
   have hlx:(rowsK L y).length = 64:=rowsK_length L hL y (by omega)
   have HWI:Hid (Within 1099511627776 (rowOf y (rowsK L y))):=fun i=>by
    have:=rowOf_within (rowsK_within hL hM (by omega) y (by omega)) (by omega) y i
    omega
   generalize hL':rowsK L y = L' at *
   have HL':=Lib.hid hL'
   clear hL' HW
   have HS:Hid (Src w1 1 (some ⟨r,y * 8,none⟩) 8 (i64s ((L'.drop (y * 8)).take 8))):=src_row HI.out.2.1 (y * 8) 8 (by omega)
   have HN:Hid (8 = Nat.min 8 8 ∧ 0 + 8 ≤ z8.length):=⟨by decide,by decide⟩
   have e1:¬ cap = y * 8:=by omega
   have e2:y * 8 + 8 - y * 8 = 8:=by omega
   have e3:(y:Int) * 8 + 8 ≤ 64:=by omega
   have e4:(y:Int) * 8 + 8 ≤ (cap:Int):=by omega
   have e5:(y:Int) * 8 ≤ (y:Int) * 8 + 8:=by omega
   have e6:(0:Int) ≤ (y:Int) * 8:=by omega
   have e7:IntKind.i64.wrap ((y:Int) * 8) = (y:Int) * 8:=by rw [IntKind.wrap_i64];omega
   have e8:IntKind.i64.wrap ((y:Int) * 8 + 8) = (y:Int) * 8 + 8:=by rw [IntKind.wrap_i64];omega
   have HT:Hid (((y:Int) * 8).toNat = y * 8 ∧ ((y:Int) * 8 + 8).toNat = y * 8 + 8):=⟨by omega,by omega⟩
   go_region_law (refine step_copy_blk rfl (.tmp 13) (.tmp 23) _ _ rfl 3 Tryz.underlying63 (by kernel_rfl) (some ⟨wr0.heap.size,0,none⟩) 8 8 (some ⟨r,y * 8,none⟩) 8 (cap - y * 8) _ (by simp [Act.eval,Act.put]) (by simp [Act.eval,Act.put,HT.out.1,HT.out.2,e1]) HS.out wr0.heap.size 0 z8 482 HI.out.1 8 HN.out.1 (fun _=>rfl) HN.out.2 (i64s_one _) ?_;intro w2 hb2 hm2;have HW2:=Lib.hid (And.intro hb2 hm2);clear hb2 hm2)
   obtain ⟨hb2,hm2⟩:=HW2.out
   have hm2':Mod (· = wr0.heap.size) w1 w2:=((Mod.refl _ w1).drew).trans hm2
   have hrb2:¬ r = wr0.heap.size:=by omega
   have hnb2:¬ nb = wr0.heap.size:=by omega
   have br2:=HI.out.2.1.keep hm2' hrb2
   have bn2:=HI.out.2.2.1.keep hm2' hnb2
   have hmf:=HI.out.2.2.2.then_ hm2' (fun k hk e=>by omega)
   have hl8:(rowOf y L').length = 8:=rowOf_length y L' hlx hlt
   have hb2':Blk w2 wr0.heap.size 482 (i64s (rowOf y L')).toArray:=by
    have e:splice z8 0 (List.take 8 (i64s (List.take 8 (List.drop (y * 8) L')))) = i64s (rowOf y L'):=by
     rw [List.take_of_length_le (by simp [i64s];omega)]
     have:(i64s (rowOf y L')).length = 8:=by rw [i64s_length,hl8]
     show List.take 0 z8 ++ (i64s (rowOf y L') ++ List.drop (0 + (i64s (rowOf y L')).length) z8) = _
     rw [this]
     simp [z8]
    rw [← e]
    exact hb2
   have HK:=Lib.hid (And.intro hb2' (And.intro br2 (And.intro bn2 hmf)))
   clear hb2 hm2 hm2' br2 bn2 hmf hb2' HW2 HI HS
   go_wp2_with fail
   refine (doBack _ wr0.heap.size nb _ hl8 HWI.out HK.out.1 HK.out.2.2.1).mono ?_
   rintro e w3 ⟨rfl,hb3,hm3⟩
   have br3:=HK.out.2.1.keep hm3 hrb2
   have bn3:=HK.out.2.2.1.keep hm3 hnb2
   have hmf3:=HK.out.2.2.2.then_ hm3 (fun k hk e=>by omega)
   have hc8:(back8 (rowOf y L')).length = 8:=by rw [back8_length,hl8]
   generalize hcc:back8 (rowOf y L') = cc at *
   have HCC:=Lib.hid hcc
   have HS:Hid (Src w3 1 (some ⟨wr0.heap.size,0,none⟩) 8 (i64s ((cc.drop 0).take 8))):=src_blk hb3 0 8 (by omega)
   have HF:Hid (y * 8 + 8 ≤ (i64s L' ++ tl).length):=by show _ ≤ _;simp [i64s];omega
   have HK3:=Lib.hid (And.intro hb3 (And.intro br3 (And.intro bn3 hmf3)))
   clear hb3 hm3 br3 bn3 hmf3 HK hcc
   go_upto_region 6 with (fail)
   go_region_law (refine step_copy_blk rfl (.tmp 36) (.tmp 38) _ _ rfl 3 Tryz.underlying63 (by kernel_rfl) (some ⟨r,y * 8,none⟩) 8 (cap - y * 8) (some ⟨wr0.heap.size,0,none⟩) 8 8 _ (by simp [Act.eval,Act.put,HT.out.1,HT.out.2]) (by simp [Act.eval,Act.put]) HS.out r (y * 8) (i64s L' ++ tl) 3 HK3.out.2.1 8 HN.out.1 (fun _=>rfl) HF.out (i64s_one _) ?_;intro w4 hb4 hm4;have HW4:=Lib.hid (And.intro hb4 hm4);clear hb4 hm4)
   go_wp2_with fail
   obtain ⟨hb4,hm4⟩:=HW4.out
   have hm4':Mod (· = r) w3 w4:=((Mod.refl _ w3).drew).trans hm4
   have bn4:=HK3.out.2.2.1.keep hm4' (by omega)
   refine ⟨⟨y + 1,by omega,by go_num,?_,bn4,HK3.out.2.2.2.trans hm4'⟩,by simp [intOf];omega⟩
   rw [rowsK,HL'.out,HCC.out,← splice_row _ _ _ _ (by omega)]
   have e:List.take 8 (i64s (List.take 8 (List.drop 0 cc))) = i64s cc:=by
    rw [List.drop_zero,List.take_of_length_le (l:=cc) (by omega),List.take_of_length_le (by rw [i64s_length];omega)]
   rw [e] at hb4
   exact hb4
  ·obtain rfl:y = 8:=by omega
   have HF:=Lib.hid (And.intro hb (And.intro hn hm))
   clear hb hn hm
   go_wp2_with fail
   go_end0
   exact ⟨rfl,HF.out⟩
end Go.Proofs.YthednemlahioeaaGreatDoor

