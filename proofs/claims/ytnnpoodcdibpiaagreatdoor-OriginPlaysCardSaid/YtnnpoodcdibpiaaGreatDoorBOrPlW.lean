import Derived.Test.YtnnpoodcdibpiaaGreatDoorBOrY
import Derived.Test.YtnnpoodcdibpiaaGreatDoorBOrSame
import Derived.Test.YtnnpoodcdibpiaaGreatDoorBOrRefPut
import Derived.Deep.CutBlock
namespace Go.Proofs.YtnnpoodcdibpiaaGreatDoor
open Go.RowKit
set_option maxRecDepth 100000
set_option maxHeartbeats 8000000
theorem ActX.In.quiet{w w':World}{a:ActX}(h:a.In w)(hm:Mod (fun _=>False) w w'):a.In w':=⟨h.p,h.n,h.by_.quiet hm,h.i64⟩
theorem OrSt.past{w w':World}{ob b mb:Nat}{D:DataW Value}{L:FsL}{A:Option Addr}{n c:Nat}(h:OrSt w ob b D L)(hm:Mod (·=mb) w w')(h1:ob≠mb)(h2:b≠mb)(hb:Blk w mb 42 #[.slice A n c]):OrSt w' ob b D L:=by
 refine⟨h.blk.keep hm h1,h.mp.past hm h2 (fun k hk i x=>?_)⟩;subst hk;rw [hb.cell i]
 match i with
 | 0=>intro e;cases e
 | i+1=>intro e;cases e
structure PlSt(w w':World)(ob b mb:Nat)(D:DataW Value)(L R:FsL):Prop where
 org:OrSt w' ob b D L
 ref:RefAt w' mb (mb+1) R
 same:SameS L R
 short:∀x∈R,x.1.length<=400
 mod:Mod (fun _=>False) w w'
theorem PlSt.quiet{w w' w2:World}{ob b mb:Nat}{D:DataW Value}{L R:FsL}(h:PlSt w w' ob b mb D L R)(hm:Mod (fun _=>False) w' w2):PlSt w w2 ob b mb D L R:=
 ⟨h.org.quiet hm,h.ref.quiet hm,h.same,h.short,h.mod.trans hm⟩
theorem PlSt.put{w w1 w2 w3:World}{ob b mb:Nat}{D D':DataW Value}{L R L':FsL}{p l:List UInt8}(h:PlSt w w1 ob b mb D L R)(hp:putL L p l=some L')(hs:p.length<=400)(hb:w.heap.size<=b)(hm:w.heap.size<=mb)(h1:b<mb)(h2:ob<mb)
  (ho:OrSt w2 ob b D' L')(m2:Mod (·=b) w1 w2)(hr:RefAt w3 mb (mb+1) (insR R p l))(m3:Mod (·=mb) w2 w3):PlSt w w3 ob b mb D' L' (insR R p l):=by
 obtain⟨A,c,q,_,_⟩:=h.ref.ex;have q2:=q.keep m2 (by omega);refine⟨ho.past m3 (by omega) (by omega) q2,hr,h.same.put hp,fun x hx=>?_,(h.mod.into m2 (fun i e=>.inr (by omega))).into m3 (fun i e=>.inr (by omega))⟩;rcases List.mem_append.1 ((insR_perm R p l).mem_iff.1 hx)with hx|hx
 ·exact h.short x hx
 ·simp at hx;subst hx;exact hs
def PlRel(w:World)(ob b mb:Nat)(v5:Value)(wr:World):Prop:=∃(i:Nat) (D:DataW Value) (L R:FsL),i<=60/\v5=.int .i64 (i:Int)/\PlSt w wr ob b mb D L R
theorem originPlays_walk(w:World)(he:EnvP w)(hv:EnvW w)(A:Option Addr)(n c:Nat)(acts:List ActX)(ha:ActsIn w A n c acts):
  Calls Tryz.prog 4 #[.slice A n c] w fun e w'=>e=.returned (.bool true)/\Mod (fun _=>False) w w':=by
 have H0:=Lib.hid (And.intro he (And.intro hv ha));clear he hv ha;go_enter Tryz.func4,Tryz.ntmps4;go_wp2_with fail;refine(orNew w).mono ?_;rintro e w1 ⟨ob,b,rfl,ho,hob,hb,hm1⟩;have H1:=Lib.hid (And.intro ho (And.intro hm1 (And.intro hob hb)));clear ho hm1 hob hb;go_upto_region 3 with(fail)
 obtain⟨mb,hmb⟩:∃mb,mb=w1.heap.size:=⟨_,rfl⟩
 have hnew:=Blk.new w1 42 #[.slice none 0 0];have hm2:Mod (fun _=>False) w1 (w1.alloc (.cells #[.slice none 0 0] 42)):=(Mod.refl _ w1).alloc _
 have hlow:ob<mb/\b<mb:=⟨by rw [hmb];exact H1.out.1.blk.lt,by
  obtain⟨es,clock,hh,_⟩:=H1.out.1.mp.map;rw [hmb];exact(Array.getElem?_eq_some_iff.1 hh).1⟩
 have hwm:w.heap.size<=mb:=by rw [hmb];exact H1.out.2.1.size
 rw [<-hmb]at hnew ⊢
 have hst:PlSt w (w1.alloc (.cells #[.slice none 0 0] 42)) ob b mb (.map []) [] []:=
  ⟨H1.out.1.quiet hm2,⟨⟨none,0,hnew,Nat.le_refl _,[],⟨⟨none,0,rfl,Nat.le_refl _,fun _=>rfl,⟨rfl,fun _=>rfl,fun _ e=>by cases e⟩,fun _ e=>by cases e⟩⟩,CellsOf.nil⟩,by omega⟩,SameS.nil,by simp,H1.out.2.1.trans hm2⟩
 have H2:=Lib.hid (And.intro hlow (And.intro hwm (And.intro H1.out.2.2.1 H1.out.2.2.2)));have HS:=Lib.hid hst;clear hmb hnew hm2 hlow hwm hst H1;generalize w1.alloc (.cells #[.slice none 0 0] 42)=w2 at *;go_wp2_with fail;go_loopw [5,6,7,8,9,10,11,12,13,14,15,16,17,18,19,20] (fun v5 _ _ _ _ _ _ _ _ _ _ _ _ _ _ _ wr=>PlRel w ob b mb v5 wr) (fun i _ _ _ _ _ _ _ _ _ _ _ _ _ _ _ _=>60-(intOf i).toNat)
 case atStart=>exact⟨0,_,_,_,by omega,rfl,HS.out⟩
 case round=>
  obtain⟨i,D,L,R,hi,rfl,hst⟩:=hrel;rename World=>wr
  clear HS;have HS:=Lib.hid hst;clear hst;by_cases hgo:i<n/\i<60
  ·obtain⟨h1,h2⟩:=hgo;have d1:decide ((i:Int)<(n:Int))=true:=decide_eq_true (by omega);have d2:decide ((i:Int)<60)=true:=decide_eq_true (by omega);obtain⟨a,hai,b0,o0,rfl,hlt,hx⟩:∃a:ActX,a.In w/\∃b0 o0,A=some ⟨b0,o0,none⟩/\b0<wr.heap.size/\∀(j:Nat) (v:Value),a.cells[j]?=some v->wr.cell? ⟨b0,o0+i*6+j,none⟩=some v:=by
    obtain⟨q1,b0,o0,q2,q3,q4⟩:=H0.out.2.2.2.2 i h1;exact⟨_,q1,b0,o0,q2,Nat.lt_of_lt_of_le q3 HS.out.mod.size,fun j v hv=>(World.cell?_of_block (HS.out.mod.block _ q3 (fun h=>h))).trans (q4 j v hv)⟩
   have k0:wr.cell? ⟨b0,o0+i*6,none⟩=some (.int .i64 a.kd):=hx 0 _ rfl;have k1:wr.cell? ⟨b0,o0+i*6+1,none⟩=some (.int .i64 a.id):=hx 1 _ rfl;have k2:wr.cell? ⟨b0,o0+i*6+2,none⟩=some (.int .i64 a.fr):=hx 2 _ rfl;have k3:wr.cell? ⟨b0,o0+i*6+3,none⟩=some (.int .i64 a.tt):=hx 3 _ rfl;have k4:wr.cell? ⟨b0,o0+i*6+4,none⟩=some (.string (strOf a.p)):=hx 4 _ rfl;have k5:wr.cell? ⟨b0,o0+i*6+5,none⟩=some (.slice a.A a.n a.c):=hx 5 _ rfl;have HX:=Lib.hid (And.intro hai hx);clear hai hx;go_upto_region 9 with(fail)
   have hbx:=Blk.new wr 44 #[.int .i64 a.kd,.int .i64 a.id,.int .i64 a.fr,.int .i64 a.tt,.string (strOf a.p),.slice a.A a.n a.c];have hm3:Mod (fun _=>False) wr (wr.alloc (.cells #[.int .i64 a.kd,.int .i64 a.id,.int .i64 a.fr,.int .i64 a.tt,.string (strOf a.p),.slice a.A a.n a.c] 44)):=(Mod.refl _ wr).alloc _;obtain⟨ab,hab⟩:∃ab,ab=wr.heap.size:=⟨_,rfl⟩
   rw [<-hab]at hbx ⊢;have hmab:mb<ab:=by
    obtain⟨_,_,q,_⟩:=HS.out.ref.ex;rw [hab];exact q.lt
   have H3:=Lib.hid (And.intro HX.out.1 (And.intro hbx (And.intro (HS.out.quiet hm3) hmab)));clear hmab hab hbx hm3 HX HS k0 k1 k2 k3 k4 k5 hlt;generalize wr.alloc (.cells #[.int .i64 a.kd,.int .i64 a.id,.int .i64 a.fr,.int .i64 a.tt,.string (strOf a.p),.slice a.A a.n a.c] 44)=w3 at *;obtain⟨bc,bf⟩:=H3.out.2.1.both;have bl:=H3.out.2.1.lt;go_wp2_with fail;refine(actFits w3 a.kd a.id a.fr a.tt a.p H3.out.1.p a.A a.n a.c H3.out.1.n).mono ?_;rintro e w4 ⟨rfl,hm4⟩;have hb4:=H3.out.2.1.keep hm4 (fun h=>h);have H4:=Lib.hid (And.intro H3.out.1 (And.intro hb4 (And.intro (H3.out.2.2.1.quiet hm4) H3.out.2.2.2)));clear bc bf bl hm4 hb4 H3;cases hfit:(decide (a.n<=400)&&decide (a.p.length<=400))with
   | false=>
    clear hfit;go_wp2_with fail;go_roundw
    case rel=>exact⟨i+1,_,_,_,by omega,by go_num,H4.out.2.2.1⟩
    case measure=>simp [intOf];omega
   | true=>
    rw [Bool.and_eq_true,decide_eq_true_eq,decide_eq_true_eq]at hfit;obtain⟨f1,f2⟩:=hfit;obtain⟨bc,bf⟩:=H4.out.2.1.both;have bl:=H4.out.2.1.lt;have f1':a.p.length<=9223372036854775807:=by omega
    go_upto_block 2 with(fail)
    go_cut [8] (fun v8 wx=>v8=.bool true/\∃D L R,PlSt w wx ob b mb D L R)
    case first=>
     have hc:((a.kd == 1)=true)\/((a.kd == 1)=false/\(a.kd == 2)=true)\/((a.kd == 1)=false/\(a.kd == 2)=false/\(a.kd == 3)=true)\/((a.kd == 1)=false/\(a.kd == 2)=false/\(a.kd == 3)=false/\(a.kd == 4)=true)\/((a.kd == 1)=false/\(a.kd == 2)=false/\(a.kd == 3)=false/\(a.kd == 4)=false):=by
      cases a.kd == 1<;>cases a.kd == 2<;>cases a.kd == 3<;>cases a.kd == 4<;>simp
     rcases hc with e1|⟨e1,e2⟩|⟨e1,e2,e3⟩|⟨e1,e2,e3,e4⟩|⟨e1,e2,e3,e4⟩
     ·go_upto_region 14 with(fail)
      clear bc bf bl;refine wp_region_planF [5,11] [0,1,2,3,4,6,7,8,9,10] (PTree.after [0,1,2,3,4,6,7,8,9,10,5,11,12,13] .nil) (fun w'=>Blk w' ab 44 #[.int .i64 a.kd,.int .i64 a.id,.int .i64 a.fr,.int .i64 a.tt,.string (strOf a.p),.slice a.A a.n a.c]) (by kernel_rfl) (by kernel_rfl) (fun _ _ _ d _ h=>by cases d<;>exact h) H4.out.2.1 ?_;refine planF_read (v:=.pointer (some ⟨ob,0,none⟩)) rfl rfl rfl (fun _ _=>rfl) (fun K hK=>?_);go_simp;refine hK _ ?_;clear hK K;refine planF_read (v:=.pointer (some ⟨ab,4,none⟩)) rfl rfl rfl (fun _ _=>rfl) (fun K hK=>?_);go_simp;refine hK _ ?_;clear hK K;refine planF_one rfl rfl _ _ rfl rfl ab 4 rfl (.string (strOf a.p)) _ (fun w' hS=>Blk.cell hS 4) Tryz.underlying9 rfl (fun K hK=>?_);go_simp;refine hK _ ?_;clear hK K;refine planF_read (v:=.pointer (some ⟨ab,5,none⟩)) rfl rfl rfl (fun _ _=>rfl) (fun K hK=>?_);go_simp;refine hK _ ?_;clear hK K;refine planF_one rfl rfl _ _ rfl rfl ab 5 rfl (.slice a.A a.n a.c) _ (fun w' hS=>Blk.cell hS 5) Tryz.underlying22 rfl (fun K hK=>?_);go_simp;refine hK _ ?_;clear hK K;refine planF_read (v:=.pointer (some ⟨mb,0,none⟩)) rfl rfl rfl (fun _ _=>rfl) (fun K hK=>?_);go_simp;refine hK _ ?_;clear hK K;refine planF_read (v:=.pointer (some ⟨ab,4,none⟩)) rfl rfl rfl (fun _ _=>rfl) (fun K hK=>?_);go_simp;refine hK _ ?_;clear hK K;refine planF_one rfl rfl _ _ rfl rfl ab 4 rfl (.string (strOf a.p)) _ (fun w' hS=>Blk.cell hS 4) Tryz.underlying9 rfl (fun K hK=>?_);go_simp;refine hK _ ?_;clear hK K;refine planF_read (v:=.pointer (some ⟨ab,5,none⟩)) rfl rfl rfl (fun _ _=>rfl) (fun K hK=>?_);go_simp;refine hK _ ?_;clear hK K;refine planF_one rfl rfl _ _ rfl rfl ab 5 rfl (.slice a.A a.n a.c) _ (fun w' hS=>Blk.cell hS 5) Tryz.underlying22 rfl (fun K hK=>?_);go_simp;refine hK _ ?_;clear hK K;have hmd:Mod (fun _=>False) w4 w4.drew:=(Mod.refl _ w4).drew;generalize w4.drew=w5 at hmd ⊢;have hst:=H4.out.2.2.1.quiet hmd;have hb5:=H4.out.2.1.keep hmd (fun h=>h);have H5:=Lib.hid (And.intro hst hb5);clear hmd hst hb5;refine planF_loud rfl rfl (fun K hK=>?_);go_simp;refine(orPut w5 ob b D L H5.out.1.org a.p f1' a.A a.n a.c a.b (H4.out.1.by_.quiet H5.out.1.mod)).mono ?_;have hsz:mb+1<=w5.heap.size:=by
       obtain⟨_,_,q,_⟩:=H5.out.1.ref.ex;exact q.lt
      have hal:a.n<=9223372036854775807:=by omega
      cases hpl:putL L a.p a.b with
      | none=>
       have hpr:putL R a.p a.b=none:=by
        have:=H5.out.1.same.may a.p a.b;rw [hpl]at this;simpa using this
       rintro e w6 ⟨rfl,rfl⟩;dsimp only [];refine hK _ _ H5.out.2 ?_;clear hK K;refine planF_last rfl rfl (fun K hK=>?_);go_simp;refine(rOPut w5 mb (mb+1) R H5.out.1.ref H5.out.1.same.few hsz a.p f1' a.A a.n a.c a.b (H4.out.1.by_.quiet H5.out.1.mod) hal).mono ?_;rw [hpr];rintro e w7 ⟨rfl,rfl⟩;dsimp only [];refine hK _ _ ?_;clear hK K hpr hpl hsz;refine planF_still rfl rfl (fun K hK=>?_);go_simp;refine hK _ ?_;clear hK K;refine planF_still rfl rfl (fun K hK=>?_);go_simp;refine hK _ ?_;clear hK K;refine planF_done ?_;go_wp2_with fail;go_meet;exact⟨rfl,_,_,_,H5.out.1⟩
      | some L'=>
       obtain⟨R',hpr⟩:∃R',putL R a.p a.b=some R':=by
        have:=H5.out.1.same.may a.p a.b;rw [hpl]at this;exact Option.isSome_iff_exists.1 (by simpa using this)
       rintro e w6 ⟨rfl,⟨D',ho6⟩,hm6⟩;dsimp only [];have hr6:=H5.out.1.ref.turn hm6 (fun k hk=>⟨by have:=H2.out.1.2;omega,by have:=H2.out.1.2;omega⟩);have hb6:=H5.out.2.keep hm6 (fun e=>by have:=H2.out.1.2;have:=H4.out.2.2.2;omega);have hw6:Mod (fun _=>False) w w6:=H5.out.1.mod.into hm6 (fun i e=>.inr (by have:=H2.out.2.2.2;omega));have hsz6:mb+1<=w6.heap.size:=Nat.le_trans hsz hm6.size;refine hK _ _ hb6 ?_;have H6:=Lib.hid (And.intro ho6 (And.intro hm6 (And.intro hr6 hw6)));clear hK K ho6 hm6 hr6 hb6 hw6 hsz;refine planF_last rfl rfl (fun K hK=>?_);go_simp;refine(rOPut w6 mb (mb+1) R H6.out.2.2.1 H5.out.1.same.few hsz6 a.p f1' a.A a.n a.c a.b (H4.out.1.by_.quiet H6.out.2.2.2) hal).mono ?_;rw [hpr];rintro e w7 ⟨rfl,hr7,hm7⟩;dsimp only [];have H7:=Lib.hid (H5.out.1.put hpl f2 H2.out.2.2.2 H2.out.2.1 H2.out.1.2 H2.out.1.1 H6.out.1 H6.out.2.1 hr7 hm7);refine hK _ _ ?_;clear hK K hpr hpl hr7 hm7 hsz6;refine planF_still rfl rfl (fun K hK=>?_);go_simp;refine hK _ ?_;clear hK K;refine planF_still rfl rfl (fun K hK=>?_);go_simp;refine hK _ ?_;clear hK K;refine planF_done ?_;go_wp2_with fail;go_meet;exact⟨rfl,_,_,_,H7.out⟩
     ·go_wp2_with fail;refine(orGet w4 ob b _ D _ H4.out.2.2.1.org.org a.p f1').mono ?_;cases hlk:L.lookup a.p with
      | none=>
       rintro e w5 ⟨hm5,rfl⟩;have hb5:=H4.out.2.1.keep hm5 (fun h=>h);have hst:=H4.out.2.2.1.quiet hm5;have hlr:R.lookup a.p=none:=by rw [hst.same.look];exact hlk
       have hfew:=hst.same.few;clear bc bf bl;obtain⟨bc,bf⟩:=hb5.both;have bl:=hb5.lt;have H5:=Lib.hid (And.intro hst hlr);clear hst hlr hb5 hm5 hlk;go_wp2_with fail;refine(rOGet w5 mb (mb+1) R H5.out.1.ref (by omega) a.p).mono ?_;rw [H5.out.2];rintro e w6 ⟨rfl,rfl⟩;have s1:(convert 22 9 (.slice none 0 0)).run Tryz.prog w5=.ok (.string (strOf [])) w5:=str_src w5 none 0 0 [] rfl Src.nil;go_wp2_with fail;go_meet;exact⟨rfl,_,_,_,H5.out.1⟩
      | some l=>
       rintro e w5 ⟨hm5,u,rfl,hu⟩;obtain⟨Au,cu,rfl⟩:=own_shape hu;have hb5:=H4.out.2.1.keep hm5 (fun h=>h);have hst:=H4.out.2.2.1.quiet hm5;have hlr:R.lookup a.p=some l:=by rw [hst.same.look];exact hlk
       have hfew:=hst.same.few;clear bc bf bl;obtain⟨bc,bf⟩:=hb5.both;have bl:=hb5.lt;have H5:=Lib.hid (And.intro hst (And.intro hlr hu));clear hst hlr hb5 hm5 hlk hu;go_wp2_with fail;refine(rOGet w5 mb (mb+1) R H5.out.1.ref (by omega) a.p).mono ?_;rw [H5.out.2.1];rintro e w6 ⟨rfl,B,d,rfl,hbF⟩;have s1:(convert 22 9 (.slice Au l.length cu)).run Tryz.prog w5=.ok (.string (strOf l)) w5:=str_bytes H5.out.2.2
       have s2:(convert 22 9 (.slice B l.length d)).run Tryz.prog w5=.ok (.string (strOf l)) w5:=str_src w5 B _ d l rfl (by
        obtain⟨_,_,e,_,h⟩:=hbF.in_;injection e with e1 _ _;subst e1;exact h.2.2.1)
       clear hbF;go_wp2_with fail;go_meet;exact⟨rfl,_,_,_,H5.out.1⟩
     ·go_wp2_with fail;refine(orRange w4 ob b _ D _ H4.out.2.2.1.org.org a.p f1' a.fr a.tt).mono ?_;cases hlk:L.lookup a.p with
      | none=>
       rintro e w5 ⟨hm5,rfl⟩;have hb5:=H4.out.2.1.keep hm5 (fun h=>h);have hst:=H4.out.2.2.1.quiet hm5;have hlr:R.lookup a.p=none:=by rw [hst.same.look];exact hlk
       have hfew:=hst.same.few;clear bc bf bl;obtain⟨bc,bf⟩:=hb5.both;have bl:=hb5.lt;have H5:=Lib.hid (And.intro hst hlr);clear hst hlr hb5 hm5 hlk;go_wp2_with fail;refine(rORange w5 mb (mb+1) R H5.out.1.ref (by omega) H5.out.1.same.small a.p a.fr a.tt).mono ?_;rw [H5.out.2];rintro e w6 ⟨rfl,rfl⟩;have s1:(convert 22 9 (.slice none 0 0)).run Tryz.prog w5=.ok (.string (strOf [])) w5:=str_src w5 none 0 0 [] rfl Src.nil;go_wp2_with fail;go_meet;exact⟨rfl,_,_,_,H5.out.1⟩
      | some l=>
       cases hro:rangeOk l.length a.fr a.tt with
       | false=>
        rintro e w5 ⟨hm5,h5⟩;dsimp only []at h5;rw [hro,if_neg Bool.false_ne_true]at h5;subst h5;have hb5:=H4.out.2.1.keep hm5 (fun h=>h);have hst:=H4.out.2.2.1.quiet hm5;have hlr:R.lookup a.p=some l:=by rw [hst.same.look];exact hlk
        have hfew:=hst.same.few;clear bc bf bl;obtain⟨bc,bf⟩:=hb5.both;have bl:=hb5.lt;have H5:=Lib.hid (And.intro hst hlr);have HRO:=Lib.hid hro;clear hst hlr hb5 hm5 hlk hro;go_wp2_with fail;refine(rORange w5 mb (mb+1) R H5.out.1.ref (by omega) H5.out.1.same.small a.p a.fr a.tt).mono ?_;rw [H5.out.2];dsimp only [];rintro e w6 ⟨rfl,h6⟩;rw [HRO.out,if_neg Bool.false_ne_true]at h6;subst h6;have s1:(convert 22 9 (.slice none 0 0)).run Tryz.prog w5=.ok (.string (strOf [])) w5:=str_src w5 none 0 0 [] rfl Src.nil;go_wp2_with fail;go_meet;exact⟨rfl,_,_,_,H5.out.1⟩
       | true=>
        rintro e w5 ⟨hm5,h5⟩;dsimp only []at h5;rw [hro,if_pos rfl]at h5;obtain⟨u,rfl,hu⟩:=h5;obtain⟨Au,cu,rfl⟩:=own_shape hu;have hb5:=H4.out.2.1.keep hm5 (fun h=>h);have hst:=H4.out.2.2.1.quiet hm5;have hlr:R.lookup a.p=some l:=by rw [hst.same.look];exact hlk
        have hfew:=hst.same.few;clear bc bf bl;obtain⟨bc,bf⟩:=hb5.both;have bl:=hb5.lt;have s1:(convert 22 9 (.slice Au (rangeL l a.fr a.tt).length cu)).run Tryz.prog w5=.ok (.string (strOf (rangeL l a.fr a.tt))) w5:=str_bytes hu;have H5:=Lib.hid (And.intro hst hlr);have HRO:=Lib.hid hro;clear hst hlr hb5 hm5 hlk hro hu;go_wp2_with fail;refine(rORange w5 mb (mb+1) R H5.out.1.ref (by omega) H5.out.1.same.small a.p a.fr a.tt).mono ?_;rw [H5.out.2];dsimp only [];rintro e w6 ⟨rfl,h6⟩;rw [HRO.out,if_pos rfl]at h6;obtain⟨B,nB,d,rfl,hbI⟩:=h6;have s2:(convert 22 9 (.slice B nB d)).run Tryz.prog w5=.ok (.string (strOf (rangeL l a.fr a.tt))) w5:=str_src w5 B nB d _ hbI.1 hbI.2.2.1;clear hbI;go_wp2_with fail;go_meet;exact⟨rfl,_,_,_,H5.out.1⟩
     ·go_upto_region 25 with(fail)
      have hqx:=Blk.new w4 36 #[.int .i64 a.id,.string (strOf a.p),.int .i64 a.fr,.int .i64 a.tt];have hmq:Mod (fun _=>False) w4 (w4.alloc (.cells #[.int .i64 a.id,.string (strOf a.p),.int .i64 a.fr,.int .i64 a.tt] 36)):=(Mod.refl _ w4).alloc _;obtain⟨qb,hqb⟩:∃qb,qb=w4.heap.size:=⟨_,rfl⟩
      rw [<-hqb]at hqx ⊢;have HQ:=Lib.hid (And.intro hqx (H4.out.2.2.1.quiet hmq));clear hqb hqx hmq bc bf bl;generalize w4.alloc (.cells #[.int .i64 a.id,.string (strOf a.p),.int .i64 a.fr,.int .i64 a.tt] 36)=w5 at *;refine wp_region_planF [2,5,6] [0,1,3,4] (PTree.after [0,1,3,4,2,5,6,7] .nil) (fun w'=>Blk w' qb 36 #[.int .i64 a.id,.string (strOf a.p),.int .i64 a.fr,.int .i64 a.tt]) (by kernel_rfl) (by kernel_rfl) (fun _ _ _ d _ h=>by cases d<;>exact h) HQ.out.1 ?_;refine planF_read (v:=.pointer (some ⟨ob,0,none⟩)) rfl rfl rfl (fun _ _=>rfl) (fun K hK=>?_);go_simp;refine hK _ ?_;clear hK K;refine planF_load rfl rfl _ _ rfl rfl qb 0 rfl [.int .i64 a.id,.string (strOf a.p),.int .i64 a.fr,.int .i64 a.tt] _ (fun w' hS=>hS.range 0 _ rfl) Tryz.underlying36 rfl (by kernel_rfl) (fun K hK=>?_);go_simp;refine hK _ ?_;clear hK K;refine planF_read (v:=.pointer (some ⟨mb,0,none⟩)) rfl rfl rfl (fun _ _=>rfl) (fun K hK=>?_);go_simp;refine hK _ ?_;clear hK K;refine planF_load rfl rfl _ _ rfl rfl qb 0 rfl [.int .i64 a.id,.string (strOf a.p),.int .i64 a.fr,.int .i64 a.tt] _ (fun w' hS=>hS.range 0 _ rfl) Tryz.underlying36 rfl (by kernel_rfl) (fun K hK=>?_);go_simp;refine hK _ ?_;clear hK K;have hmd:Mod (fun _=>False) w5 w5.drew:=(Mod.refl _ w5).drew;generalize w5.drew=w6 at hmd ⊢;have H6:=Lib.hid (And.intro (HQ.out.2.quiet hmd) (HQ.out.1.keep hmd (fun h=>h)));clear hmd HQ;refine planF_loud rfl rfl (fun K hK=>?_);go_simp;refine(orServe w6 ob b _ D _ H6.out.1.org.org a.id a.p f1' a.fr a.tt).mono ?_;rintro e w7 ⟨hm7,u,rfl,hu⟩;dsimp only [];obtain⟨Au,cu,rfl⟩:=own_shape hu;have hq7:=H6.out.2.keep hm7 (fun h=>h);have H7:=Lib.hid (And.intro (H6.out.1.quiet hm7) hu);refine hK _ _ hq7 ?_;clear hK K hm7 hq7 hu;refine planF_last rfl rfl (fun K hK=>?_);go_simp;refine(rOServe w7 mb (mb+1) R H7.out.1.ref (by have:=H7.out.1.same.few;omega) H7.out.1.same.small a.id a.p f1' a.fr a.tt).mono ?_;have hfq:(fun q=>R.lookup q)=fun q=>L.lookup q:=funext H7.out.1.same.look;rw [hfq];rintro e w8 ⟨hm8,A8,n8,c8,rfl,hb8⟩;dsimp only [];have H8:=Lib.hid (And.intro (H7.out.1.quiet hm8) (And.intro (H7.out.2.quiet hm8).in_ hb8));refine hK _ _ ?_;clear hK K hm8 hb8 hfq;refine planF_last rfl rfl (fun K hK=>?_);go_simp;refine(rSameR w8 a.id _ _ _ Au A8 _ cu n8 c8 _ H8.out.2.1 H8.out.2.2).mono ?_;rintro e w9 ⟨rfl,hm9⟩;dsimp only [];have H9:=Lib.hid (H8.out.1.quiet hm9);refine hK _ _ ?_;clear hK K hm9;refine planF_still rfl rfl (fun K hK=>?_);go_simp;refine hK _ ?_;clear hK K;refine planF_done ?_;go_wp2_with fail;go_meet;exact⟨rfl,_,_,_,H9.out⟩
     ·go_wp2_with fail;go_meet;exact⟨rfl,_,_,_,H4.out.2.2.1⟩
    case rest=>
     obtain⟨rfl,D,L,R,hst⟩:=hcut;have H5:=Lib.hid hst;clear hst;go_wp2_with fail;refine(lSame19 wc ob b D L mb (mb+1) R H5.out.org H5.out.ref H5.out.same H5.out.short).mono ?_;rintro e w6 ⟨rfl,hm6⟩;have H6:=Lib.hid (H5.out.quiet hm6);clear hm6;go_wp2_with fail;go_roundw
     case rel=>exact⟨i+1,_,_,_,by omega,by go_num,H6.out⟩
     case measure=>simp [intOf];omega
  ·have hc:(¬i<n/\decide ((i:Int)<(n:Int))=false)\/(i<n/\decide ((i:Int)<(n:Int))=true/\¬i<60/\decide ((i:Int)<60)=false):=by
    by_cases h1:i<n
    ·exact .inr ⟨h1,decide_eq_true (by omega),by omega,decide_eq_false (by omega)⟩
    ·exact .inl ⟨h1,decide_eq_false (by omega)⟩
   rcases hc with⟨n1,e1⟩|⟨n1,e1,n2,e2⟩<;>(
   go_wp2_with fail;refine(alive19 wr (H0.out.1.quiet HS.out.mod) (H0.out.2.1.quiet HS.out.mod)).mono ?_;rintro e w8 ⟨rfl,hm8⟩;have HM8:=Lib.hid (HS.out.mod.trans hm8);clear hm8;go_wp2_with fail;go_ret;exact⟨rfl,HM8.out⟩)
end Go.Proofs.YtnnpoodcdibpiaaGreatDoor
