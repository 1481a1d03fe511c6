/-
  Origin.Range.
-/
import Derived.Test.YtnnpoodcdibpiaaGreatDoorB28
namespace Go.Proofs.YtnnpoodcdibpiaaGreatDoor
open Go.RowKit
set_option maxRecDepth 100000
set_option maxHeartbeats 8000000
def rangeOk(n:Nat)(a z:Int):Bool:=!((decide (a<0) || decide ((n:Int)<a)) || (decide (0<=z)&&decide (z<a)))
def rangeEnd(n:Nat)(z:Int):Nat:=if z<0\/(n:Int)<z then n else z.toNat
def rangeL(l:List UInt8)(a z:Int):List UInt8:=(l.drop a.toNat).take (rangeEnd l.length z-a.toNat)
theorem BytesIn.sub{w:World}{A:Option Addr}{n c i j:Nat}{l:List UInt8}(h:BytesIn w A n c l)(hi:i<=j)(hj:j<=n)(hc:n<=c):BytesIn w (A.map (fun x=>x.add i)) (j-i) (c-i) ((l.drop i).take (j-i)):=by
 obtain⟨h1,h2,h3,h4⟩:=h;refine⟨by simp;omega,(fun hn=>?_),⟨by simp [u8s];omega,(fun hn=>?_),fun ad e k u hu=>?_⟩,fun h0 ad e=>?_⟩
 ·cases A with
  | none=>have:=h2 rfl;omega
  | some ad=>cases hn
 ·cases A with
  | none=>have:=h2 rfl;omega
  | some ad=>cases hn
 ·cases A with
  | none=>cases e
  | some a0=>
   injection e with e;subst e;have hk:k<j-i:=by
    have:=(List.getElem?_eq_some_iff.1 hu).1;rw [u8s_length]at this;simp at this;omega
   have hu2:(u8s l)[i+k]?=some u:=by
    unfold u8s at hu ⊢;rw [List.getElem?_map,List.getElem?_take,if_pos hk,List.getElem?_drop]at hu;rw [List.getElem?_map];exact hu
   have:=h3.2.2 _ rfl _ _ hu2;rw [<-this];have e:(a0.add i).add k=a0.add (i+k):=by
    by_cases h0:i=0<;>by_cases h1:k=0<;>simp [Addr.add,h0,h1,Nat.add_assoc]
   exact congrArg _ e
 ·cases A with
  | none=>cases e
  | some a0=>
   injection e with e;subst e;have e:(a0.add i).block=a0.block:=by
    by_cases h0:i=0<;>simp [Addr.add,h0]
   exact e▸h4 (by omega) a0 rfl
theorem BytesIn.sub0{w:World}{A:Option Addr}{n c i j:Nat}{l:List UInt8}(_:BytesIn w A n c l)(hj:j<=n)(hc:n<=c)(e:c=i):BytesIn w A (j-i) 0 ((l.drop i).take (j-i)):=by
 have e0:j-i=0:=by omega
 rw [e0,List.take_zero];exact⟨rfl,fun _=>rfl,⟨rfl,fun _=>rfl,fun ad e j u hu=>by cases hu⟩,fun h=>absurd h (by omega)⟩
theorem orRangeNil(w:World)(p:List UInt8)(a z:Int):Calls Tryz.prog 17 #[.pointer none,.string (strOf p),.int .i64 a,.int .i64 z] w fun e w'=>e=.returned (.tuple #[.slice none 0 0,.int .i64 0,.int .i64 1])/\w=w':=by
 go_enter Tryz.func17,Tryz.ntmps17;go_wp2_with fail
 go_ret3
 exact⟨rfl,rfl⟩
theorem orRange(w:World)(ob b k:Nat)(D:DataW Value)(f:List UInt8->Option (List UInt8))(ho:OrgAt w ob b k D f)(p:List UInt8)(hp:p.length<=9223372036854775807)(a z:Int):
  Calls Tryz.prog 17 #[.pointer (some ⟨ob,0,none⟩),.string (strOf p),.int .i64 a,.int .i64 z] w fun e w'=>Mod (fun _=>False) w w'/\match f p with
   | none=>e=.returned (.tuple #[.slice none 0 0,.int .i64 0,.int .i64 191])
   | some l=>if rangeOk l.length a z then ∃u,e=.returned (.tuple #[u,.int .i64 (l.length:Int),.int .i64 0])/\Bytes w' w.heap.size u (rangeL l a z)else e=.returned (.tuple #[.slice none 0 0,.int .i64 0,.int .i64 192]):=by
 have hk:=key_str p hp;have x0:w.cell? ⟨ob,0,none⟩=some (.map (some b)):=ho.blk.cell 0;have bl:=ho.blk.lt;have H0:=Lib.hid (And.intro hk ho);clear hk ho;cases hf:f p with
 | none=>
   have hh:=H0.out.2.files.no p hf;go_enter Tryz.func17,Tryz.ntmps17;go_wp2_with (at_lookup;refine wpList_lookup_own_ok _ rfl _ _ 102 rfl 9 22 (Maps.string_keyed Tryz.underlying9) Tryz.underlying102 fR (zero_bs _) zdF [] rfl b k D rfl H0.out.2.map _ _ rfl H0.out.1 ?_;intro v ps hv;have HV:=Lib.hid hv;clear hv;rw [hh])
   go_ret3
   exact⟨Mod.refl _ _,rfl⟩
 | some l=>
   obtain⟨hh,hl,v0,hv0,hb⟩:=H0.out.2.files.yes p l hf;obtain⟨A,c,rfl,hlc,hin⟩:=hb.in_;have HB:=Lib.hid (And.intro hv0 (And.intro hin hl));clear hv0 hin hb;dsimp only []
   cases e1:decide (a<0)<;>cases e2:decide ((l.length:Int)<a)<;>cases e3:decide (0<=z)<;>cases e4:decide (z<a)<;>(
    have HR:Hid (rangeOk l.length a z=_):=Lib.hid (by unfold rangeOk;rw [e1,e2,e3,e4]);simp only [Bool.or_true,Bool.or_false,Bool.and_true,Bool.and_false,Bool.not_true,Bool.not_false]at HR;rw [HR.out];go_enter Tryz.func17,Tryz.ntmps17;go_upto_region 8 with(at_lookup;refine wpList_lookup_own_ok _ rfl _ _ 102 rfl 9 22 (Maps.string_keyed Tryz.underlying9) Tryz.underlying102 fR (zero_bs _) zdF [] rfl b k D rfl H0.out.2.map _ _ rfl H0.out.1 ?_;intro v ps hv;rw [hh];have hve:v=.slice A l.length c:=(by rw [HB.out.1]at hv;unfold fR at hv;injection hv with hv;injection hv with hv;injection hv);subst hve;clear hv)
    all_goals first
    | (go_ret3
       exact⟨Mod.refl _ _,rfl⟩)
    | skip)
   all_goals
    have ha0:¬a<0:=of_decide_eq_false e1;have ha1:¬(l.length:Int)<a:=of_decide_eq_false e2;have ha:0<=a/\a<=(l.length:Int):=⟨by omega,by omega⟩
    have hac:a.toNat<=l.length:=by omega
    cases g1:decide (z<0)<;>cases g2:decide ((l.length:Int)<z)
   all_goals first
    | (exfalso;have:=of_decide_eq_true e3;have:=of_decide_eq_true g1;omega)
    | (exfalso;have:=of_decide_eq_false e3;have:=of_decide_eq_false g1;omega)
    | (exfalso;have:=of_decide_eq_true g1;have:=of_decide_eq_true g2;omega)
    | skip
   all_goals
    first
    | have hz:¬z<a/\0<=z/\¬(l.length:Int)<z:=⟨of_decide_eq_false e4,of_decide_eq_true e3,of_decide_eq_false g2⟩
    | have hz:True:=trivial
   all_goals
    first
    | have q1:=of_decide_eq_true g1
      have HZ:Hid (rangeEnd l.length z=l.length/\a.toNat<=l.length):=Lib.hid ⟨if_pos (Or.inl q1),hac⟩
    | have q1:=of_decide_eq_true g2
      have HZ:Hid (rangeEnd l.length z=l.length/\a.toNat<=l.length):=Lib.hid ⟨if_pos (Or.inr q1),hac⟩
    | have HZ:Hid (rangeEnd l.length z=z.toNat/\a.toNat<=z.toNat/\z.toNat<=l.length):=Lib.hid ⟨if_neg (fun hc=>hc.elim (of_decide_eq_false g1) (of_decide_eq_false g2)),by omega,by omega⟩
    go_wp2_with fail
   all_goals
    refine(bClone w _ _ _ (rangeL l a z) ?_ ?_).mono ?_
    ·unfold rangeL;rw [HZ.out.1]
     first
     | exact HB.out.2.1.sub0 (Nat.le_refl _) hlc (by first|assumption|omega)
     | exact HB.out.2.1.sub0 HZ.out.2.2 hlc (by first|assumption|omega)
     | exact HB.out.2.1.sub HZ.out.2 (Nat.le_refl _) hlc
     | exact HB.out.2.1.sub HZ.out.2.1 HZ.out.2.2 hlc
    ·have:=HB.out.2.2
     first
     | (have:=HZ.out.2;omega)
     | (have:=HZ.out.2.2;omega)
    ·rintro e w1 ⟨u,rfl,hu,hm⟩;go_wp2_with fail
     go_ret3
     exact⟨hm,u,rfl,hu⟩
theorem FilesAt.quiet{w w':World}{b n:Nat}{D:DataW Value}(h:FilesAt w b n D)(hm:Mod (fun _=>False) w w'):FilesAt w' b n D:=by
 have hlt:=World.ownsMap.lt h;obtain⟨es,clock,hb,r⟩:=h;exact⟨es,clock,(hm.block b hlt (fun h=>h)).trans hb,r⟩
theorem OrgAt.quiet{w w':World}{ob b k:Nat}{D:DataW Value}{f:List UInt8->Option (List UInt8)}(h:OrgAt w ob b k D f)(hm:Mod (fun _=>False) w w'):OrgAt w' ob b k D f:=
 ⟨h.blk.keep hm (fun h=>h),h.map.quiet hm,h.files.quiet hm⟩
theorem blks3(w:World)(ta tb tc:TypeId)(A B C:Array Value):
  Blk (((w.alloc (.cells A ta)).alloc (.cells B tb)).alloc (.cells C tc)) w.heap.size ta A/\Blk (((w.alloc (.cells A ta)).alloc (.cells B tb)).alloc (.cells C tc)) (w.heap.size+1) tb B /\
  Blk (((w.alloc (.cells A ta)).alloc (.cells B tb)).alloc (.cells C tc)) (w.heap.size+1+1) tc C:=by
 have e1:(w.alloc (.cells A ta)).heap.size=w.heap.size+1:=by simp
 have e2:((w.alloc (.cells A ta)).alloc (.cells B tb)).heap.size=w.heap.size+1+1:=by simp
 have h2:=(Blk.new (w.alloc (.cells A ta)) tb B).alloc (.cells C tc);have h3:=Blk.new ((w.alloc (.cells A ta)).alloc (.cells B tb)) tc C;rw [e1]at h2;rw [e2]at h3;exact⟨((Blk.new w ta A).alloc _).alloc _,h2,h3⟩
theorem bytes_over{w1 w2:World}{B B':Nat}{u:Value}{l:List UInt8}(h:Bytes w1 B u l)(hB:B'<=B)(hm:Mod (fun k=>k<B) w1 w2):Bytes w2 B' u l:=by
 have h2:=own_mod h hm (fun g hg hlt=>by
  rcases h.2 with⟨hv,_⟩|⟨g',cap,cur,hv,hb,_⟩
  ·rw [hv]at hg;cases hg
  ·rw [hv]at hg;injection hg with hg;subst hg;exact absurd hlt (Nat.not_lt.2 hb))
 exact⟨h2.1,h2.2.imp id (fun⟨g,cap,cur,h1,h2,h3⟩=>⟨g,cap,cur,h1,Nat.le_trans hB h2,h3⟩)⟩
theorem bytes_slice{w:World}{B:Nat}{u:Value}{l:List UInt8}(h:Bytes w B u l):∃A n c,u=.slice A n c:=by
 rcases h.2 with⟨hv,_⟩|⟨g',cap,cur,hv,_⟩
 ·exact⟨_,_,_,hv⟩
 ·exact⟨_,_,_,hv⟩
theorem svLaid{S:Nat->Prop}{a w:World}{g:Nat}(x0 x1 x2 x3 x4:Value)(hb:Blk w g 33 #[.int .i64 0,.int .i64 0,.int .i64 0,.int .i64 0,.slice none 0 0])(hm:Mod S a w)(hg:S g\/a.heap.size<=g):
  Blk (((((w.setCell ⟨g,0,none⟩ x0).setCell ⟨g,1,none⟩ x1).setCell ⟨g,2,none⟩ x2).setCell ⟨g,3,none⟩ x3).setCell ⟨g,4,none⟩ x4) g 33 #[x0,x1,x2,x3,x4] /\
  Mod S a (((((w.setCell ⟨g,0,none⟩ x0).setCell ⟨g,1,none⟩ x1).setCell ⟨g,2,none⟩ x2).setCell ⟨g,3,none⟩ x3).setCell ⟨g,4,none⟩ x4):=
 ⟨((((hb.put rfl).put rfl).put rfl).put rfl).put rfl,((((hm.setCell hg _).setCell hg _).setCell hg _).setCell hg _).setCell hg _⟩
theorem size3(w:World)(ta tb tc:TypeId)(A B C:Array Value):(((w.alloc (.cells A ta)).alloc (.cells B tb)).alloc (.cells C tc)).heap.size=w.heap.size+1+1+1:=by simp
theorem far2{w:World}{g i:Nat}{t:TypeId}{cs:Array Value}(h:Blk w g t cs)(u:Value):Blk (w.setCell ⟨g+1+1,i,none⟩ u) g t cs:=h.far (p:=⟨g+1+1,i,none⟩) (by show g≠g+1+1;omega) u
theorem far1{w:World}{g i:Nat}{t:TypeId}{cs:Array Value}(h:Blk w (g+1) t cs)(u:Value):Blk (w.setCell ⟨g+1+1,i,none⟩ u) (g+1) t cs:=h.far (p:=⟨g+1+1,i,none⟩) (by show g+1≠g+1+1;omega) u
theorem mod2{S:Nat->Prop}{a w:World}{g i:Nat}(h:Mod S a w)(hg:S (g+1+1)\/a.heap.size<=g+1+1)(u:Value):Mod S a (w.setCell ⟨g+1+1,i,none⟩ u):=h.setCell (p:=⟨g+1+1,i,none⟩) hg u
theorem org_look{w:World}{ob b k:Nat}{D:DataW Value}{f:List UInt8->Option (List UInt8)}(ho:OrgAt w ob b k D f)(p:List UInt8)(hp:p.length<=9223372036854775807)(v0:Value)(hv:D.atKey (.string p) zdF=.held v0):
  (Instr.lookup 102 (.map (some b)) (.string (strOf p)) false).run Tryz.prog w=.ok v0 w:=by
 obtain⟨v,ps,hrun,hR⟩:=World.ownsMap.lookup ho.map (Maps.string_keyed Tryz.underlying9) Tryz.underlying102 (zero_bs w) (zd:=zdF) (zp:=[]) rfl (key_str p hp);rw [hv]at hR;unfold fR at hR;injection hR with hR;injection hR with hR _;injection hR with hR;subst hR;exact hrun
def rqV(id:Int)(p:List UInt8)(a z:Int):Value:=.agg #[.int .i64 id,.string (strOf p),.int .i64 a,.int .i64 z]
def rsV(id st a n:Int)(u:Value):Value:=.agg #[.int .i64 id,.int .i64 st,.int .i64 a,.int .i64 n,u]
def svR(f:List UInt8->Option (List UInt8))(id:Int)(p:List UInt8)(a z:Int):Int × Int × Int × List UInt8:=
 if id<0\/1048575<id\/pathB p=false then(4,0,0,[])else match f p with
 | none=>(2,0,0,[])
 | some l=>if rangeOk l.length a z then(1,a,(l.length:Int),rangeL l a z)else(3,0,(l.length:Int),[])
theorem orServeNil(w:World)(id:Int)(p:List UInt8)(a z:Int):Calls Tryz.prog 12 #[.pointer none,rqV id p a z] w fun e w'=>e=.returned (rsV id 4 0 0 (.slice none 0 0))/\Mod (fun _=>False) w w':=by
 unfold rqV;go_enter Tryz.func12,Tryz.ntmps12;go_wp2_with fail;exact bodyPost_ret (v:=.agg #[.int .i64 id,.int .i64 4,.int .i64 0,.int .i64 0,.slice none 0 0]) (results_cell_row rfl _ _ (w.heap.size+1) 33 _ (0,0) _ rfl (blks3 _ _ _ _ _ _ _).2.1 Tryz.underlying33 rfl (by kernel_rfl)) rfl ⟨rfl,((((Mod.refl (fun _=>False) w).alloc _).alloc _).alloc _)⟩
theorem orServe(w:World)(ob b k:Nat)(D:DataW Value)(f:List UInt8->Option (List UInt8))(ho:OrgAt w ob b k D f)(id:Int)(p:List UInt8)(hp:p.length<=9223372036854775807)(a z:Int):
  Calls Tryz.prog 12 #[.pointer (some ⟨ob,0,none⟩),rqV id p a z] w fun e w'=>Mod (fun _=>False) w w'/\∃u,e=.returned (rsV id (svR f id p a z).1 (svR f id p a z).2.1 (svR f id p a z).2.2.1 u)/\Bytes w' w.heap.size u (svR f id p a z).2.2.2:=by
 have H0:=Lib.hid ho;clear ho;unfold rqV;cases d1:decide (id<0)with
 | true=>
  have HE:Hid (svR f id p a z=(4,0,0,[])):=Lib.hid (if_pos (.inl (of_decide_eq_true d1)));go_enter Tryz.func12,Tryz.ntmps12;go_wp2_with fail;rw [HE.out];exact bodyPost_ret (v:=.agg #[.int .i64 id,.int .i64 4,.int .i64 0,.int .i64 0,.slice none 0 0]) (results_cell_row rfl _ _ (w.heap.size+1) 33 _ (0,0) _ rfl (blks3 _ _ _ _ _ _ _).2.1 Tryz.underlying33 rfl (by kernel_rfl)) rfl ⟨((((Mod.refl (fun _=>False) w).alloc _).alloc _).alloc _),_,rfl,World.ownsRow_nil _ _ _ _⟩
 | false=>
  cases d2:decide (1048575<id)with
  | true=>
   have HE:Hid (svR f id p a z=(4,0,0,[])):=Lib.hid (if_pos (.inr (.inl (of_decide_eq_true d2))));go_enter Tryz.func12,Tryz.ntmps12;go_wp2_with fail;rw [HE.out];exact bodyPost_ret (v:=.agg #[.int .i64 id,.int .i64 4,.int .i64 0,.int .i64 0,.slice none 0 0]) (results_cell_row rfl _ _ (w.heap.size+1) 33 _ (0,0) _ rfl (blks3 _ _ _ _ _ _ _).2.1 Tryz.underlying33 rfl (by kernel_rfl)) rfl ⟨((((Mod.refl (fun _=>False) w).alloc _).alloc _).alloc _),_,rfl,World.ownsRow_nil _ _ _ _⟩
  | false=>
   cases hpb:pathB p with
   | false=>
    have HE:Hid (svR f id p a z=(4,0,0,[])):=Lib.hid (if_pos (.inr (.inr hpb)));go_enter Tryz.func12,Tryz.ntmps12;go_wp2_with fail;refine(orPath _ p hp).mono ?_;rw [hpb];rintro e w1 ⟨rfl,rfl⟩;go_wp2_with fail;rw [HE.out];exact bodyPost_ret (v:=.agg #[.int .i64 id,.int .i64 4,.int .i64 0,.int .i64 0,.slice none 0 0]) (results_cell_row rfl _ _ (w.heap.size+1) 33 _ (0,0) _ rfl (blks3 _ _ _ _ _ _ _).2.1 Tryz.underlying33 rfl (by kernel_rfl)) rfl ⟨((((Mod.refl (fun _=>False) w).alloc _).alloc _).alloc _),_,rfl,World.ownsRow_nil _ _ _ _⟩
   | true=>
    have HE:Hid (svR f id p a z=match f p with
     | none=>(2,0,0,[])
     | some l=>if rangeOk l.length a z then(1,a,(l.length:Int),rangeL l a z)else(3,0,(l.length:Int),[])):=Lib.hid (if_neg (fun h=>h.elim (of_decide_eq_false d1) (fun h=>h.elim (of_decide_eq_false d2) (fun h=>by rw [hpb]at h;cases h))))
    go_enter Tryz.func12,Tryz.ntmps12;go_wp2_with fail;refine(orPath _ p hp).mono ?_;rw [hpb];rintro e w1 ⟨rfl,rfl⟩;go_wp2_with fail;refine(orRange _ ob b k D f (H0.out.quiet ((((Mod.refl (fun _=>False) w).alloc _).alloc _).alloc _)) p hp a z).mono ?_;rintro e w1 ⟨hm,hr⟩;have q:=blks3 w 36 33 33 #[.int .i64 id,.string (strOf p),.int .i64 a,.int .i64 z] #[.int .i64 0,.int .i64 0,.int .i64 0,.int .i64 0,.slice none 0 0] #[.int .i64 id,.int .i64 4,.int .i64 0,.int .i64 0,.slice none 0 0];have q1:=q.1.keep (S:=fun _=>False) hm (fun h=>h);have q2:=q.2.1.keep (S:=fun _=>False) hm (fun h=>h);have q3:=q.2.2.keep (S:=fun _=>False) hm (fun h=>h);clear q;obtain⟨c1,f1⟩:=q1.both;obtain⟨c2,f2⟩:=q2.both;obtain⟨c3,f3⟩:=q3.both;have l1:=q1.lt;have l2:=q2.lt;have l3:=q3.lt;have HQ:=Lib.hid (And.intro q1 (And.intro q2 q3));clear q1 q2 q3;have HM:=Lib.hid (((((Mod.refl (fun _=>False) w).alloc _).alloc _).alloc _).trans hm);clear hm;cases hf:f p with
    | none=>
     rw [hf]at hr;subst hr;dsimp only [];go_wp2_with fail;rw [HE.out,hf];have hE:=svLaid (S:=fun _=>False) (a:=w) (.int .i64 id) (.int .i64 2) (.int .i64 0) (.int .i64 0) (.slice none 0 0) (HQ.out.2.1.far (p:=⟨w.heap.size+1+1,1,none⟩) (by show w.heap.size+1≠w.heap.size+1+1;omega) (.int .i64 2)) (HM.out.setCell (p:=⟨w.heap.size+1+1,1,none⟩) (.inr (by show w.heap.size<=w.heap.size+1+1;omega)) _) (.inr (Nat.le_succ _));exact bodyPost_ret (v:=.agg #[.int .i64 id,.int .i64 2,.int .i64 0,.int .i64 0,.slice none 0 0]) (results_cell_row rfl _ _ (w.heap.size+1) 33 _ (0,0) _ rfl hE.1 Tryz.underlying33 rfl (by kernel_rfl)) rfl ⟨hE.2,_,rfl,World.ownsRow_nil _ _ _ _⟩
    | some l=>
     rw [hf]at hr;dsimp only []at hr;cases hk:rangeOk l.length a z with
     | true=>
      rw [hk,if_pos rfl]at hr;obtain⟨u,rfl,hu⟩:=hr;obtain⟨bA,bn,bc,rfl⟩:=bytes_slice hu;have HG:Hid (svR f id p a z=(1,a,(l.length:Int),rangeL l a z)):=Lib.hid (by rw [HE.out,hf];exact if_pos hk);have HU:=Lib.hid hu;clear hu;dsimp only [];go_upto_region 8 with(fail)
      refine wp_region_planS [5,7,9,11] [0,1,2,3] (4 :: 0 :: 1 :: 2 :: 3 :: 5 :: 6 :: 7 :: 8 :: 9 :: 10 :: 11 :: []) (fun w'=>Blk w' w.heap.size 36 #[.int .i64 id,.string (strOf p),.int .i64 a,.int .i64 z]) (by kernel_rfl) (by kernel_rfl) (fun _ _ _ d _ h=>by cases d<;>exact h) HQ.out.1 ?_;refine planS_still rfl rfl (fun K hK=>?_);go_simp;refine hK _ ?_;clear hK K;refine planS_pure rfl rfl rfl (fun _ _=>rfl) ?_;refine planS_pure (v:=.int .i64 a) rfl rfl rfl (fun w' hS=>?_) ?_
      ·have c0:w'.cell? ⟨w.heap.size,2,none⟩=some (.int .i64 a):=Blk.cell hS 2;go_simp
      iterate 2 (refine planS_pure rfl rfl rfl (fun _ _=>rfl) ?_)
      have hA:=HQ.out.1;have hS1:=far2 (i:=1) hA (.int .i64 1);have hS2:=far2 (i:=2) hS1 (.int .i64 a);have hS3:=far2 (i:=3) hS2 (.int .i64 (l.length:Int));have hS4:=far2 (i:=4) hS3 (.slice bA bn bc);have HS:=Lib.hid (And.intro hS1 (And.intro hS2 (And.intro hS3 hS4)));clear hA hS1 hS2 hS3 hS4;refine planS_loud rfl rfl (fun K hK=>?_);go_simp;refine hK _ _ HS.out.1 ?_;clear hK K;refine planS_still rfl rfl (fun K hK=>?_);go_simp;refine hK _ ?_;clear hK K;refine planS_loud rfl rfl (fun K hK=>?_);go_simp;refine hK _ _ HS.out.2.1 ?_;clear hK K;refine planS_still rfl rfl (fun K hK=>?_);go_simp;refine hK _ ?_;clear hK K;refine planS_loud rfl rfl (fun K hK=>?_);go_simp;refine hK _ _ HS.out.2.2.1 ?_;clear hK K;refine planS_still rfl rfl (fun K hK=>?_);go_simp;refine hK _ ?_;clear hK K;refine planS_loud rfl rfl (fun K hK=>?_);go_simp;refine hK _ _ HS.out.2.2.2 ?_;clear hK K;refine planS_done ?_;have h0:w.heap.size<=w.heap.size+1+1:=by omega
      have h2:w.heap.size+1+1<w.heap.size+1+1+1:=by omega
      have hR:Blk ((((w1.setCell ⟨w.heap.size+1+1,1,none⟩ (.int .i64 1)).setCell ⟨w.heap.size+1+1,2,none⟩ (.int .i64 a)).setCell ⟨w.heap.size+1+1,3,none⟩ (.int .i64 (l.length:Int))).setCell ⟨w.heap.size+1+1,4,none⟩ (.slice bA bn bc)) (w.heap.size+1+1) 33 #[.int .i64 id,.int .i64 1,.int .i64 a,(.int .i64 (l.length:Int)),(.slice bA bn bc)]:=(((HQ.out.2.2.put (i:=1) rfl).put (i:=2) rfl).put (i:=3) rfl).put (i:=4) rfl;have hZ:Blk ((((w1.setCell ⟨w.heap.size+1+1,1,none⟩ (.int .i64 1)).setCell ⟨w.heap.size+1+1,2,none⟩ (.int .i64 a)).setCell ⟨w.heap.size+1+1,3,none⟩ (.int .i64 (l.length:Int))).setCell ⟨w.heap.size+1+1,4,none⟩ (.slice bA bn bc)) (w.heap.size+1) 33 #[.int .i64 0,.int .i64 0,.int .i64 0,.int .i64 0,.slice none 0 0]:=far1 (far1 (far1 (far1 HQ.out.2.1 _) _) _) _;have hM:Mod (fun _=>False) w ((((w1.setCell ⟨w.heap.size+1+1,1,none⟩ (.int .i64 1)).setCell ⟨w.heap.size+1+1,2,none⟩ (.int .i64 a)).setCell ⟨w.heap.size+1+1,3,none⟩ (.int .i64 (l.length:Int))).setCell ⟨w.heap.size+1+1,4,none⟩ (.slice bA bn bc)):=mod2 (mod2 (mod2 (mod2 HM.out (.inr h0) _) (.inr h0) _) (.inr h0) _) (.inr h0) _;have hr0:Mod (fun k=>k<w.heap.size+1+1+1) w1 w1:=Mod.refl _ _;have hN:Mod (fun k=>k<w.heap.size+1+1+1) w1 ((((w1.setCell ⟨w.heap.size+1+1,1,none⟩ (.int .i64 1)).setCell ⟨w.heap.size+1+1,2,none⟩ (.int .i64 a)).setCell ⟨w.heap.size+1+1,3,none⟩ (.int .i64 (l.length:Int))).setCell ⟨w.heap.size+1+1,4,none⟩ (.slice bA bn bc)):=mod2 (mod2 (mod2 (mod2 hr0 (.inl h2) _) (.inl h2) _) (.inl h2) _) (.inl h2) _;clear hr0 h0 h2 c1 f1 c2 f2 c3 f3 l1 l2 l3;have HB:=Lib.hid (size3 w 36 33 33 #[.int .i64 id,.string (strOf p),.int .i64 a,.int .i64 z] #[.int .i64 0,.int .i64 0,.int .i64 0,.int .i64 0,.slice none 0 0] #[.int .i64 id,.int .i64 4,.int .i64 0,.int .i64 0,.slice none 0 0]▸HU.out);generalize ((((w1.setCell ⟨w.heap.size+1+1,1,none⟩ (.int .i64 1)).setCell ⟨w.heap.size+1+1,2,none⟩ (.int .i64 a)).setCell ⟨w.heap.size+1+1,3,none⟩ (.int .i64 (l.length:Int))).setCell ⟨w.heap.size+1+1,4,none⟩ (.slice bA bn bc))=w2 at hR hZ hM hN ⊢;obtain⟨c2,f2⟩:=hZ.both;obtain⟨c3,f3⟩:=hR.both;have l2:=hZ.lt;have l3:=hR.lt;have HF:=Lib.hid (And.intro hZ (And.intro hM hN));clear hR hZ hM hN;go_wp2_with fail;rw [HG.out];have hE:=svLaid (S:=fun _=>False) (a:=w) (.int .i64 id) (.int .i64 1) (.int .i64 a) (.int .i64 (l.length:Int)) (.slice bA bn bc) HF.out.1 HF.out.2.1 (.inr (Nat.le_succ _));have hE2:=svLaid (S:=fun k=>k<w.heap.size+1+1+1) (a:=w1) (.int .i64 id) (.int .i64 1) (.int .i64 a) (.int .i64 (l.length:Int)) (.slice bA bn bc) HF.out.1 HF.out.2.2 (.inl (by show w.heap.size+1<w.heap.size+1+1+1;omega));have hF:=bytes_over HB.out (B':=w.heap.size) (by omega) hE2.2.drew;clear hE2;refine bodyPost_ret (v:=.agg #[.int .i64 id,.int .i64 1,.int .i64 a,(.int .i64 (l.length:Int)),(.slice bA bn bc)]) (results_cell_row rfl _ _ (w.heap.size+1) 33 _ (0,0) _ rfl ?_ Tryz.underlying33 rfl (by kernel_rfl)) rfl ?_
      ·exact hE.1.drew
      ·exact⟨hE.2.drew,(.slice bA bn bc),rfl,hF⟩
     | false=>
      rw [hk,if_neg (by decide)]at hr;subst hr;have HG:Hid (svR f id p a z=(3,0,(l.length:Int),[])):=Lib.hid (by rw [HE.out,hf];exact if_neg (by rw [hk];decide));have hy:=(H0.out.files.yes p l hf).2.2;obtain⟨v0,hv0,hb0⟩:=hy;obtain⟨A0,c0,hA0,_,_⟩:=hb0.in_;subst hA0;have HV:=Lib.hid hv0;clear hv0 hb0;dsimp only [];go_upto_region 10 with(fail)
      refine wp_region_planS [9,11] [0,1,2,3,4,5,6,7] (8 :: 0 :: 1 :: 2 :: 3 :: 4 :: 5 :: 6 :: 7 :: 9 :: 10 :: 11 :: []) (fun w'=>OrgAt w' ob b k D f/\Blk w' w.heap.size 36 #[.int .i64 id,.string (strOf p),.int .i64 a,.int .i64 z]) (by kernel_rfl) (by kernel_rfl) (fun _ _ _ d _ h=>by cases d<;>exact h) ⟨H0.out.quiet HM.out.drew,HQ.out.1⟩ ?_;refine planS_still rfl rfl (fun K hK=>?_);go_simp;refine hK _ ?_;clear hK K;refine planS_pure (v:=.pointer (some ⟨ob,0,none⟩)) rfl rfl rfl (fun w' hS=>?_) ?_
      ·go_simp
      iterate 2
       refine planS_pure (v:=.pointer (some ⟨ob,0,none⟩)) rfl rfl rfl (fun w' hS=>?_) ?_
       ·go_simp
      refine planS_pure (v:=.map (some b)) rfl rfl rfl (fun w' hS=>?_) ?_
      ·have c0:w'.cell? ⟨ob,0,none⟩=some (.map (some b)):=Blk.cell hS.1.blk 0;go_simp
      refine planS_pure (v:=.pointer (some ⟨w.heap.size,1,none⟩)) rfl rfl rfl (fun w' hS=>?_) ?_
      ·go_simp
      refine planS_pure (v:=.string (strOf p)) rfl rfl rfl (fun w' hS=>?_) ?_
      ·have c0:w'.cell? ⟨w.heap.size,1,none⟩=some (.string (strOf p)):=Blk.cell hS.2 1;go_simp
      refine planS_pure (v:=.slice A0 l.length c0) rfl rfl rfl (fun w' hS=>?_) ?_
      ·have c1:=org_look hS.1 p hp _ HV.out;go_simp
      refine planS_pure (v:=.int .i64 (l.length:Int)) rfl rfl rfl (fun w' hS=>?_) ?_
      ·go_simp
      have h0:w.heap.size<=w.heap.size+1+1:=by omega
      have hM1:=mod2 (i:=1) HM.out (.inr h0) (.int .i64 3);have hM2:=mod2 (i:=3) hM1 (.inr h0) (.int .i64 (l.length:Int));have hS1:=far2 (i:=1) HQ.out.1 (.int .i64 3);have hS2:=far2 (i:=3) hS1 (.int .i64 (l.length:Int));have HS:=Lib.hid (And.intro hM1 (And.intro hM2 (And.intro hS1 hS2)));clear hM1 hM2 hS1 hS2;refine planS_loud rfl rfl (fun K hK=>?_);go_simp;refine hK _ _ ⟨H0.out.quiet HS.out.1.drew,HS.out.2.2.1⟩ ?_;clear hK K;refine planS_still rfl rfl (fun K hK=>?_);go_simp;refine hK _ ?_;clear hK K;refine planS_loud rfl rfl (fun K hK=>?_);go_simp;refine hK _ _ ⟨H0.out.quiet HS.out.2.1.drew,HS.out.2.2.2⟩ ?_;clear hK K;refine planS_done ?_;have hR:Blk ((w1.setCell ⟨w.heap.size+1+1,1,none⟩ (.int .i64 3)).setCell ⟨w.heap.size+1+1,3,none⟩ (.int .i64 (l.length:Int))) (w.heap.size+1+1) 33 #[.int .i64 id,.int .i64 3,.int .i64 0,(.int .i64 (l.length:Int)),(.slice none 0 0)]:=((HQ.out.2.2.put (i:=1) rfl).put (i:=3) rfl)
      have hZ:Blk ((w1.setCell ⟨w.heap.size+1+1,1,none⟩ (.int .i64 3)).setCell ⟨w.heap.size+1+1,3,none⟩ (.int .i64 (l.length:Int))) (w.heap.size+1) 33 #[.int .i64 0,.int .i64 0,.int .i64 0,.int .i64 0,.slice none 0 0]:=far1 (far1 HQ.out.2.1 _) _;have hM:=HS.out.2.1;clear h0 c1 f1 c2 f2 c3 f3 l1 l2 l3;generalize ((w1.setCell ⟨w.heap.size+1+1,1,none⟩ (.int .i64 3)).setCell ⟨w.heap.size+1+1,3,none⟩ (.int .i64 (l.length:Int)))=w2 at hR hZ hM ⊢;obtain⟨c2,f2⟩:=hZ.both;obtain⟨c3,f3⟩:=hR.both;have l2:=hZ.lt;have l3:=hR.lt;have HF:=Lib.hid (And.intro hZ hM);clear hR hZ hM;go_wp2_with fail;rw [HG.out];have hE:=svLaid (S:=fun _=>False) (a:=w) (.int .i64 id) (.int .i64 3) (.int .i64 0) (.int .i64 (l.length:Int)) (.slice none 0 0) HF.out.1 HF.out.2 (.inr (Nat.le_succ _));refine bodyPost_ret (v:=.agg #[.int .i64 id,.int .i64 3,.int .i64 0,(.int .i64 (l.length:Int)),(.slice none 0 0)]) (results_cell_row rfl _ _ (w.heap.size+1) 33 _ (0,0) _ rfl ?_ Tryz.underlying33 rfl (by kernel_rfl)) rfl ?_
      ·exact hE.1.drew
      ·exact⟨hE.2.drew,(.slice none 0 0),rfl,World.ownsRow_nil _ _ _ _⟩
end Go.Proofs.YtnnpoodcdibpiaaGreatDoor
