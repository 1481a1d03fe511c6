/-
  manifest.Right, walked.
-/
import Derived.Test.YtnnpoodcdibpiaaGreatDoorB38
namespace Go.Proofs.YtnnpoodcdibpiaaGreatDoor
open Go.RowKit
set_option maxRecDepth 100000
set_option maxHeartbeats 8000000
theorem rt_start(w:World)(cs:Array Value)(T T1 T2:TypeId)(f:Value):
  Seen (((((w.alloc (.cells cs T)).alloc (.map #[] 0)).alloc (.map #[] 0)).alloc (.cells #[.map (some (w.heap.size+1+1))] T1)).alloc (.cells #[f] T2)) (w.heap.size+1) [] /\
  Seen (((((w.alloc (.cells cs T)).alloc (.map #[] 0)).alloc (.map #[] 0)).alloc (.cells #[.map (some (w.heap.size+1+1))] T1)).alloc (.cells #[f] T2)) (w.heap.size+1+1) [] /\
  Blk (((((w.alloc (.cells cs T)).alloc (.map #[] 0)).alloc (.map #[] 0)).alloc (.cells #[.map (some (w.heap.size+1+1))] T1)).alloc (.cells #[f] T2)) (w.heap.size+1+1+1) T1 #[.map (some (w.heap.size+1+1))] /\
  Blk (((((w.alloc (.cells cs T)).alloc (.map #[] 0)).alloc (.map #[] 0)).alloc (.cells #[.map (some (w.heap.size+1+1))] T1)).alloc (.cells #[f] T2)) (w.heap.size+1+1+1+1) T2 #[f] /\
  Mod (fun _=>False) w (((((w.alloc (.cells cs T)).alloc (.map #[] 0)).alloc (.map #[] 0)).alloc (.cells #[.map (some (w.heap.size+1+1))] T1)).alloc (.cells #[f] T2)):=by
 refine⟨?_,?_,?_,?_,?_⟩
 ·have h:=Seen.made (w.alloc (.cells cs T));rw [World.size_alloc]at h;exact h.keep (((((Mod.refl (fun _=>False) _).alloc _).alloc _).alloc _)) (fun h=>h)
 ·have h:=Seen.made ((w.alloc (.cells cs T)).alloc (.map #[] 0));rw [World.size_alloc,World.size_alloc]at h;exact h.keep ((((Mod.refl (fun _=>False) _).alloc _).alloc _)) (fun h=>h)
 ·have h:=Blk.new (((w.alloc (.cells cs T)).alloc (.map #[] 0)).alloc (.map #[] 0)) T1 #[.map (some (w.heap.size+1+1))];rw [World.size_alloc,World.size_alloc,World.size_alloc]at h;exact h.alloc _
 ·have h:=Blk.new ((((w.alloc (.cells cs T)).alloc (.map #[] 0)).alloc (.map #[] 0)).alloc (.cells #[.map (some (w.heap.size+1+1))] T1)) T2 #[f];rw [World.size_alloc,World.size_alloc,World.size_alloc,World.size_alloc]at h;exact h
 ·exact((((((Mod.refl (fun _=>False) w).alloc _).alloc _).alloc _).alloc _).alloc _)
theorem listed1_no{l:Ls}{n:Nat}(hn:l.pieces.length=n)(h:listed1B l n=false):listedB l=false:=by
 rw [<-Bool.not_eq_true]at h ⊢;intro h1;apply h;unfold listedB at h1;simp only [Bool.and_eq_true,decide_eq_true_eq]at h1;have hf:=frames_bounds _ h1.1.2;unfold listed1B;simp only [Bool.and_eq_true,decide_eq_true_eq];exact⟨⟨⟨⟨h1.1.1.1.1,h1.1.1.1.2.1⟩,h1.1.1.1.2.2⟩,by omega⟩,by omega⟩
theorem listed_yes{l:Ls}{n:Nat}(hn:l.pieces.length=n)(h:listed1B l n=true)(hi:pieceB 0 0 l.init=true)(hp:l.pieces.all (pieceB 1 64)=true)(hf:framesL l.pieces<=1024):listedB l=true:=by
 unfold listed1B at h;simp only [Bool.and_eq_true,decide_eq_true_eq]at h;unfold listedB;simp only [Bool.and_eq_true,decide_eq_true_eq];obtain⟨⟨⟨⟨⟨⟨a,b⟩,c⟩,d⟩,e⟩,f⟩,g⟩:=h;exact⟨⟨⟨⟨⟨⟨a,b⟩,c⟩,d,e⟩,hi⟩,hp⟩,by omega,hf⟩
theorem listed1_n{l:Ls}{n:Nat}(h:listed1B l n=true):1<=n/\n<=1024:=by
 unfold listed1B at h;simp only [Bool.and_eq_true,decide_eq_true_eq]at h;omega
theorem listed_many{l:Ls}(hf:1024<framesL l.pieces):listedB l=false:=by
 unfold listedB;rw [show decide (1<=l.pieces.length/\framesL l.pieces<=1024)=false from decide_eq_false (by omega),Bool.and_false]
theorem paths_len:∀(ls:List Ls),(∀l∈ls,listedB l=true)->(pathsR ls).length<=1025*ls.length
 | [],_=>by simp [pathsR]
 | l :: r,h=>by
  have h1:=paths_len r (fun x hx=>h x (by simp [hx]));have h2:=h l (by simp);unfold listedB at h2;simp only [Bool.and_eq_true,decide_eq_true_eq]at h2;have hf:=frames_bounds _ h2.1.2;unfold pathsR at h1 ⊢;rw [List.flatMap_cons,List.length_append,List.length_cons];have:(filesL l).length=l.pieces.length+1:=by simp [filesL]
  omega
def RtIn(w0:World)(q:Nat)(ls:List Ls)(k:Nat)(l:Ls)(vf vj:Value)(wr:World):Prop:=
 ∃j:Nat,j<=l.pieces.length/\vf=.int .i64 (framesL (l.pieces.take j))/\vj=.int .i64 (j:Int)/\(l.pieces.take j).all (pieceB 1 64)=true/\(pathsR (ls.take k)++filesJ l j).Nodup/\Seen wr (q+1) (namesL (ls.take k)++[l.name])/\Seen wr (q+1+1) (pathsR (ls.take k)++filesJ l j)/\Blk wr (q+1+1+1) 194 #[.map (some (q+1+1))]/\Blk wr (q+1+1+1+1) 195 #[.func (.func 94) #[] #[]]/\Mod (fun _=>False) w0 wr
def RtRel(w0:World)(q:Nat)(ls:List Ls)(v:Value)(wr:World):Prop:=
 ∃k:Nat,k<=ls.length/\v=.int .i64 (k:Int)/\okR (ls.take k)=true/\Seen wr (q+1) (namesL (ls.take k))/\Seen wr (q+1+1) (pathsR (ls.take k))/\Blk wr (q+1+1+1) 194 #[.map (some (q+1+1))]/\Blk wr (q+1+1+1+1) 195 #[.func (.func 94) #[] #[]]/\Mod (fun _=>False) w0 wr
theorem mfPRight(w:World)(m:Mf)(A:Option Addr)(n c:Nat)(h:MfIn w A n m):Calls Tryz.prog 55 #[.agg (mfV m A n c).toArray] w fun e w'=>e=.returned (.bool (mfRightB m))/\Mod (fun _=>False) w w':=by
 obtain⟨⟨⟨s1,s2⟩,⟨t1,t2⟩,hn⟩,hrs⟩:=h;have hln:=hrs.len;have mA:Mod (fun _=>False) w (w.alloc (.cells (mfV m A n c).toArray 59)):=(Mod.refl _ w).alloc _;have H:=Lib.hid (And.intro hrs (And.intro mA hln));clear hrs mA;have bad:boundsB m=false->mfRightB m=false:=fun h=>by rw [rightB_eq,h,Bool.false_and]
 have hbd:boundsB m=decide (1<=m.scale/\m.scale<=1048576/\1<=m.tick/\m.tick<=1048576/\1<=n/\n<=8):=by rw [<-hln];rfl
 have HB:=Lib.hid (And.intro bad hbd);clear bad hbd hln;unfold mfV at H ⊢;have hmm:=@run_makeMap Tryz.prog;by_cases q0:m.scale<1
 ·have d0:decide (m.scale<1)=true:=decide_eq_true (by omega);have e1:=HB.out.1 (by rw [HB.out.2];exact decide_eq_false (by omega));have HE:=Lib.hid e1;clear e1;go_enter Tryz.func55,Tryz.ntmps55;go_wp2_with fail;go_ret;exact⟨by rw [HE.out];rfl,H.out.2.1⟩
 have d0:decide (m.scale<1)=false:=decide_eq_false (by omega);by_cases q1:1048576<m.scale
 ·have d1:decide ((1048576:Int)<m.scale)=true:=decide_eq_true (by omega);have e1:=HB.out.1 (by rw [HB.out.2];exact decide_eq_false (by omega));have HE:=Lib.hid e1;clear e1;go_enter Tryz.func55,Tryz.ntmps55;go_wp2_with fail;go_ret;exact⟨by rw [HE.out];rfl,H.out.2.1⟩
 have d1:decide ((1048576:Int)<m.scale)=false:=decide_eq_false (by omega);by_cases q2:m.tick<1
 ·have d2:decide (m.tick<1)=true:=decide_eq_true (by omega);have e1:=HB.out.1 (by rw [HB.out.2];exact decide_eq_false (by omega));have HE:=Lib.hid e1;clear e1;go_enter Tryz.func55,Tryz.ntmps55;go_wp2_with fail;go_ret;exact⟨by rw [HE.out];rfl,H.out.2.1⟩
 have d2:decide (m.tick<1)=false:=decide_eq_false (by omega);by_cases q3:1048576<m.tick
 ·have d3:decide ((1048576:Int)<m.tick)=true:=decide_eq_true (by omega);have e1:=HB.out.1 (by rw [HB.out.2];exact decide_eq_false (by omega));have HE:=Lib.hid e1;clear e1;go_enter Tryz.func55,Tryz.ntmps55;go_wp2_with fail;go_ret;exact⟨by rw [HE.out];rfl,H.out.2.1⟩
 have d3:decide ((1048576:Int)<m.tick)=false:=decide_eq_false (by omega);by_cases q4:n<1
 ·have d4:decide ((n:Int)<1)=true:=decide_eq_true (by omega);have e1:=HB.out.1 (by rw [HB.out.2];exact decide_eq_false (by omega));have HE:=Lib.hid e1;clear e1;go_enter Tryz.func55,Tryz.ntmps55;go_wp2_with fail;go_ret;exact⟨by rw [HE.out];rfl,H.out.2.1⟩
 have d4:decide ((n:Int)<1)=false:=decide_eq_false (by omega);by_cases q5:8<n
 ·have d5:decide ((8:Int)<(n:Int))=true:=decide_eq_true (by omega);have e1:=HB.out.1 (by rw [HB.out.2];exact decide_eq_false (by omega));have HE:=Lib.hid e1;clear e1;go_enter Tryz.func55,Tryz.ntmps55;go_wp2_with fail;go_ret;exact⟨by rw [HE.out];rfl,H.out.2.1⟩
 have d5:decide ((8:Int)<(n:Int))=false:=decide_eq_false (by omega);have hgood:boundsB m=true:=by rw [HB.out.2];exact decide_eq_true (by omega)
 have HG:=Lib.hid hgood;clear hgood;go_enter Tryz.func55,Tryz.ntmps55;go_upto_region 8 with(fail)
 have st:=rt_start w (mfV m A n c).toArray 59 194 195 (.func (.func 94) #[] #[]);unfold mfV at st;have ST:=Lib.hid st;clear st;go_wp2_with fail;go_loopw [46] (RtRel w w.heap.size m.rends) (fun s _=>n-(intOf s).toNat)
 case atStart=>exact⟨0,by omega,rfl,by simp [okR,namesL,pathsR],ST.out⟩
 case round=>
  clear ST;obtain⟨k,hk,rfl,hok,hsn,hsp,hbm,hbf,hM⟩:=hrel;have hln:=H.out.2.2;have hRB:mfRightB m=okR m.rends:=by rw [rightB_eq,HG.out,Bool.true_and]
  have HK:=Lib.hid (And.intro hok (And.intro hsn (And.intro hsp (And.intro hbm (And.intro hbf (And.intro hM hRB))))));clear hok hsn hsp hbm hbf hM hRB;by_cases hlt:k<n
  ·obtain⟨l,hl⟩:∃l,m.rends[k]?=some l:=⟨_,List.getElem?_eq_getElem (by omega)⟩
   obtain⟨b,o,A',n',c',hA,hb,hls⟩:=H.out.1.at_ k l hl;subst hA;have d6:decide ((k:Int)<(n:Int))=true:=decide_eq_true (by omega);have e0:=(hls.quiet HK.out.2.2.2.2.2.1 hb).cells 0 _ rfl;have e1:=(hls.quiet HK.out.2.2.2.2.2.1 hb).cells 1 _ rfl;have e2:=(hls.quiet HK.out.2.2.2.2.2.1 hb).cells 2 _ rfl;have e3:=(hls.quiet HK.out.2.2.2.2.2.1 hb).cells 3 _ rfl;have e4:=(hls.quiet HK.out.2.2.2.2.2.1 hb).cells 4 _ rfl;have e5:=(hls.quiet HK.out.2.2.2.2.2.1 hb).cells 5 _ rfl;have e6:=(hls.quiet HK.out.2.2.2.2.2.1 hb).cells 6 _ rfl;have e7:=(hls.quiet HK.out.2.2.2.2.2.1 hb).cells 7 _ rfl;rw [Nat.add_zero]at e0;have HL:=Lib.hid (And.intro hl (And.intro hb (And.intro hls hln)));clear hl hb hls hln;go_wp2_with fail;refine(pRListed _ l A' n' c' HL.out.2.2.1.ok).mono ?_;rintro e w1 ⟨rfl,hm1⟩;have hb1:Blk w1 wr.heap.size 91 (lsV l A' n' c').toArray:=(Blk.new wr _ _).keep hm1 (fun h=>h);have mm1:Mod (fun _=>False) wr w1:=((Mod.refl _ wr).alloc _).trans hm1;clear hm1 e0 e1 e2 e3 e4 e5 e6 e7;cases hl1:listed1B l n' with
   | false=>
    have hno:=listed1_no HL.out.2.2.1.pcs.len hl1;have HE:=Lib.hid (And.intro hno mm1);clear hno hl1 mm1 hb1;go_wp2_with fail;go_ret;exact⟨by rw [HK.out.2.2.2.2.2.2,fail_listed HL.out.1 HE.out.1];rfl,HK.out.2.2.2.2.2.1.trans HE.out.2⟩
   | true=>
    have hbf1:=HK.out.2.2.2.2.1.keep mm1 (fun h=>h);have hsn1:=HK.out.2.1.keep mm1 (fun h=>h);have f1:=hbf1.cell;have g1:=hb1.cell;unfold lsV at g1;have HE:=Lib.hid (And.intro hl1 (And.intro mm1 (And.intro hb1 (And.intro hbf1 hsn1))));clear hl1 mm1 hb1 hbf1 hsn1;have hnl:=HL.out.2.2.1.ok.1;have hnc:(namesL (m.rends.take k)).length<=1048576:=by unfold namesL;rw [List.length_map,List.length_take];omega
    have hpc:(pathsR (m.rends.take k)).length<=16384:=by
     have h1:=paths_len _ ((okR_iff _).1 HK.out.1).1;have h2:(m.rends.take k).length<=8:=by rw [List.length_take];omega
     omega
    have HN:=Lib.hid (And.intro hnl (And.intro hnc hpc));clear hnl hnc hpc;go_wp2_with fail;refine(pTaken _ _ _ l.name HN.out.1 HN.out.2.1 HE.out.2.2.2.2).mono ?_;rintro e w2 ⟨rfl,hs2,hm2⟩;have hlt1:=HE.out.2.2.1.lt;have hm02:Mod (fun _=>False) w w2:=(HK.out.2.2.2.2.2.1.trans HE.out.2.1).into hm2 (fun i e=>.inr (by omega));cases hc2:(namesL (m.rends.take k)).contains l.name with
    | true=>
     have HC:=Lib.hid (And.intro hc2 hm02);clear hc2 hm02 f1 g1 hs2 hm2;go_wp2_with fail;go_ret;exact⟨by rw [HK.out.2.2.2.2.2.2,fail_name HL.out.1 HC.out.1];rfl,HC.out.2⟩
    | false=>
     have hwl:w.heap.size+1+1+1+1<wr.heap.size:=HK.out.2.2.2.2.1.lt;have hb2:=HE.out.2.2.1.keep hm2 (by omega);have hbf2:=HE.out.2.2.2.1.keep hm2 (by omega);have hbm2:=(HK.out.2.2.2.1.keep HE.out.2.1 (fun h=>h)).keep hm2 (by omega);have hsp2:=(HK.out.2.2.1.keep HE.out.2.1 (fun h=>h)).keep hm2 (by omega);have g2:=hb2.cell;unfold lsV at g2;have HC:=Lib.hid (And.intro hc2 (And.intro hm02 (And.intro hs2 (And.intro hb2 (And.intro hbf2 (And.intro hbm2 hsp2))))));clear hc2 hm02 f1 g1 hs2 hm2 hb2 hbf2 hbm2 hsp2;go_wp2_with fail;refine(pWrong _ (w.heap.size+1+1) (w.heap.size+1+1+1+1) (w.heap.size+1+1+1) l.init 0 0 (pathsR (m.rends.take k)) HL.out.2.2.1.ok.2.2.2.2.1 (by unfold I64;omega) (by unfold I64;omega) (by have:=HN.out.2.2;omega) HC.out.2.2.2.2.2.2 HC.out.2.2.2.2.1 HC.out.2.2.2.2.2.1).mono ?_;rintro e w3 ⟨rfl,hs3,hm3⟩;have hm03:Mod (fun _=>False) w w3:=HC.out.2.1.into hm3 (fun i e=>.inr (by omega));cases hpi:pieceB 0 0 l.init with
     | false=>
      have HP:=Lib.hid (And.intro hpi hm03);clear hpi hm03 hs3 hm3 g2;go_wp2_with fail;go_ret;exact⟨by rw [HK.out.2.2.2.2.2.2,fail_listed HL.out.1 (listed_init HP.out.1)];rfl,HP.out.2⟩
     | true=>
      cases hcp:(pathsR (m.rends.take k)).contains l.init.path with
      | true=>
       have HP:=Lib.hid (And.intro hcp hm03);clear hpi hcp hm03 hs3 hm3 g2;go_wp2_with fail;go_ret;exact⟨by rw [HK.out.2.2.2.2.2.2,fail_path (q:=[l.init.path]) (r:=l.pieces.map Pc.path) HL.out.1 rfl (not_nodup HP.out.1)];rfl,HP.out.2⟩
      | false=>
       have hb3:=HC.out.2.2.2.1.keep hm3 (by omega);have hbf3:=HC.out.2.2.2.2.1.keep hm3 (by omega);have hbm3:=HC.out.2.2.2.2.2.1.keep hm3 (by omega);have hsn3:=HC.out.2.2.1.keep hm3 (by omega);have hsp3:Seen w3 (w.heap.size+1+1) (pathsR (m.rends.take k)++filesJ l 0):=by
        unfold wrongPaths at hs3;rw [hpi]at hs3;exact hs3
       have hnd:(pathsR (m.rends.take k)++filesJ l 0).Nodup:=nodup_snoc ((okR_iff _).1 HK.out.1).2.2 hcp;have g3:=hb3.cell;unfold lsV at g3;have HP:=Lib.hid (And.intro hpi (And.intro hnd (And.intro hsn3 (And.intro hsp3 (And.intro hbm3 (And.intro hbf3 hm03))))));clear hpi hcp hm03 hs3 hm3 g2 hb3 hbf3 hbm3 hsn3 hsp3 hnd;go_wp2_with fail;go_loopw [9,69] (RtIn w w.heap.size m.rends k l) (fun _ s _=>n'-(intOf s).toNat)
       case atStart=>exact⟨0,by omega,by simp [framesL],rfl,by simp,HP.out.2⟩
       case round=>
        rename World=>w4
        clear g3;obtain⟨j,hj,rfl,rfl,hall,hnj,hsn4,hsp4,hbm4,hbf4,hm04⟩:=hrel;have hn1:=listed1_n HE.out.1;have hpl:=HL.out.2.2.1.pcs.len;have hfb:=frames_bounds _ hall;rw [List.length_take]at hfb;have hlj:(pathsR (m.rends.take k)++filesJ l j).length<=1048576:=by
         have h1:=HN.out.2.2;rw [List.length_append];unfold filesJ;rw [List.length_cons,List.length_map,List.length_take];omega
        have HJ:=Lib.hid (And.intro hall (And.intro hnj (And.intro hsn4 (And.intro hsp4 (And.intro hbm4 (And.intro hbf4 (And.intro hm04 (And.intro hlj hpl))))))));clear hall hnj hsn4 hsp4 hbm4 hbf4 hm04 hlj;by_cases hjl:j<n'
        ·obtain⟨p,hp⟩:∃p,l.pieces[j]?=some p:=⟨_,List.getElem?_eq_getElem (by omega)⟩
         obtain⟨b',o',hA',hb',hpc⟩:=(HL.out.2.2.1.pcs.quiet HJ.out.2.2.2.2.2.2.1).at_ j p hp;subst hA';have d7:decide ((j:Int)<(n':Int))=true:=decide_eq_true (by omega);have hpok:=HL.out.2.2.1.pcs.ok p (List.mem_of_getElem? hp);have k0:=hpc.1;have k1:=hpc.2.1;have k2:=hpc.2.2;generalize hfr:framesL (l.pieces.take j)=fr at hfb ⊢;have f4:=HJ.out.2.2.2.2.2.1.cell;have HQ:=Lib.hid (And.intro hp (And.intro hpok hfr));clear hp hpok hfr hpc;go_wp2_with fail;refine(pWrong _ (w.heap.size+1+1) (w.heap.size+1+1+1+1) (w.heap.size+1+1+1) p 1 64 _ HQ.out.2.1 (by unfold I64;omega) (by unfold I64;omega) HJ.out.2.2.2.2.2.2.2.1 (HJ.out.2.2.2.1.keep ((Mod.refl (fun _=>False) w4).alloc _) (fun h=>h)) (HJ.out.2.2.2.2.2.1.alloc _) (HJ.out.2.2.2.2.1.alloc _)).mono ?_;rintro e w5 ⟨rfl,hs5,hm5⟩;have hwl4:w.heap.size+1+1+1+1<w4.heap.size:=HJ.out.2.2.2.2.2.1.lt;have mA4:Mod (fun _=>False) w4 (w4.alloc (.cells (pcV p).toArray 88)):=(Mod.refl _ w4).alloc _;have hm05:Mod (fun _=>False) w w5:=(HJ.out.2.2.2.2.2.2.1.trans mA4).into hm5 (fun i e=>.inr (by omega));cases hpp:pieceB 1 64 p with
         | false=>
          have HW:=Lib.hid (And.intro hpp hm05);clear hpp hm05 hs5 hm5 k0 k1 k2 f4 mA4;go_wp2_with fail;go_ret;exact⟨by rw [HK.out.2.2.2.2.2.2,fail_listed HL.out.1 (listed_piece HQ.out.1 HW.out.1)];rfl,HW.out.2⟩
         | true=>
          cases hcp:(pathsR (m.rends.take k)++filesJ l j).contains p.path with
          | true=>
           have hbad:¬(pathsR (m.rends.take k)++(filesJ l j++[p.path])).Nodup:=by
            rw [<-List.append_assoc];exact not_nodup hcp
           rw [<-filesJ_snoc HQ.out.1]at hbad;have HW:=Lib.hid (And.intro hbad hm05);clear hpp hcp hm05 hs5 hm5 k0 k1 k2 f4 mA4 hbad;go_wp2_with fail;go_ret;exact⟨by rw [HK.out.2.2.2.2.2.2,fail_path HL.out.1 (filesJ_split l (j+1)) HW.out.1];rfl,HW.out.2⟩
          | false=>
           have hbp:Blk (w4.alloc (.cells (pcV p).toArray 88)) w4.heap.size 88 (pcV p).toArray:=Blk.new _ _ _;have hb5:=hbp.keep hm5 (by omega);have hbm5:=(HJ.out.2.2.2.2.1.alloc (.cells (pcV p).toArray 88)).keep hm5 (by omega);have hbf5:=(HJ.out.2.2.2.2.2.1.alloc (.cells (pcV p).toArray 88)).keep hm5 (by omega);have hsn5:=(HJ.out.2.2.1.keep mA4 (fun h=>h)).keep hm5 (by omega);have hsp5:Seen w5 (w.heap.size+1+1) (pathsR (m.rends.take k)++filesJ l (j+1)):=by
            unfold wrongPaths at hs5;rw [hpp,if_pos rfl,List.append_assoc,<-filesJ_snoc HQ.out.1]at hs5;exact hs5
           have hnd5:(pathsR (m.rends.take k)++filesJ l (j+1)).Nodup:=by
            rw [filesJ_snoc HQ.out.1,<-List.append_assoc];exact nodup_snoc HJ.out.2.1 hcp
           have hall5:=all_snocP HJ.out.1 HQ.out.1 hpp;have hfr5:=framesL_snoc HQ.out.1;rw [HQ.out.2.2]at hfr5;have hpr:1<=p.fr/\p.fr<=64:=by
            unfold pieceB at hpp;simp only [Bool.and_eq_true,decide_eq_true_eq]at hpp;omega
           have hfb1:0<=fr/\fr<=65536:=by
            have h9:(min j l.pieces.length:Nat)<=1024:=by omega
            omega
           obtain⟨r1,r2⟩:=hpr;obtain⟨r3,r4⟩:=hfb1;have g5:=hb5.cell;unfold pcV at g5;have HW:=Lib.hid (And.intro hall5 (And.intro hnd5 (And.intro hsn5 (And.intro hsp5 (And.intro hbm5 (And.intro hbf5 (And.intro hm05 hfr5)))))));clear hpp hcp hm05 hs5 hm5 k0 k1 k2 f4 mA4 hbp hb5 hbm5 hbf5 hsn5 hsp5 hnd5 hall5 hfr5 hfb;go_wp2_with fail;go_roundw
           case rel=>exact⟨j+1,by omega,by rw [HW.out.2.2.2.2.2.2.2],by go_num,HW.out.1,HW.out.2.1,HW.out.2.2.1,HW.out.2.2.2.1,HW.out.2.2.2.2.1,HW.out.2.2.2.2.2.1,HW.out.2.2.2.2.2.2.1⟩
           case measure=>simp [intOf];omega
        ·obtain rfl:j=n':=by omega
         have d7:decide ((j:Int)<(j:Int))=false:=decide_eq_false (by omega);generalize hfr:framesL (l.pieces.take j)=fr at hfb ⊢;have hfr':framesL l.pieces=fr:=by rw [<-hfr,<-hpl,List.take_length]
         have hall':l.pieces.all (pieceB 1 64)=true:=by
          have:=HJ.out.1;rw [<-hpl,List.take_length]at this;exact this
         have hfin:filesJ l j=filesL l:=by rw [<-hpl,filesJ_end]
         have HF:=Lib.hid (And.intro hfr' (And.intro hall' hfin));clear hfr hfr' hall' hfin hpl;by_cases hmany:1024<fr
         ·have d8:decide ((1024:Int)<fr)=true:=decide_eq_true hmany;have hno:listedB l=false:=listed_many (by rw [HF.out.1];exact hmany);have HNo:=Lib.hid hno;clear hno;go_wp2_with fail;go_ret;exact⟨by rw [HK.out.2.2.2.2.2.2,fail_listed HL.out.1 HNo.out];rfl,HJ.out.2.2.2.2.2.2.1⟩
         ·have d8:decide ((1024:Int)<fr)=false:=decide_eq_false hmany;have hyes:listedB l=true:=listed_yes HJ.out.2.2.2.2.2.2.2.2 HE.out.1 HP.out.1 HF.out.2.1 (by rw [HF.out.1];omega);have hnodup:(pathsR (m.rends.take k)++filesL l).Nodup:=by rw [<-HF.out.2.2];exact HJ.out.2.1
          have hok2:=okR_step HL.out.1 HK.out.1 hyes HC.out.1 hnodup;have hsnX:=HJ.out.2.2.1;rw [<-names_snoc HL.out.1]at hsnX;have hspX:=HJ.out.2.2.2.1;rw [HF.out.2.2,<-paths_snoc HL.out.1]at hspX;have HY:=Lib.hid (And.intro hok2 (And.intro hsnX hspX));clear hyes hnodup hok2 hsnX hspX;go_wp2_with fail;go_roundw
          case rel=>exact⟨k+1,by have:=HL.out.2.2.2;omega,by go_num,HY.out.1,HY.out.2.1,HY.out.2.2,HJ.out.2.2.2.2.1,HJ.out.2.2.2.2.2.1,HJ.out.2.2.2.2.2.2.1⟩
          case measure=>
           simp [intOf];exact Nat.sub_lt_sub_left hlt (Nat.lt_succ_self k)
  ·obtain rfl:k=n:=by omega
   have d6:decide ((k:Int)<(k:Int))=false:=decide_eq_false (by omega);have hall:okR m.rends=true:=by
    have:=HK.out.1;rw [<-hln,List.take_length]at this;exact this
   have HA:=Lib.hid hall;clear hall hln;go_wp2_with fail;go_ret;exact⟨by rw [HK.out.2.2.2.2.2.2,HA.out];rfl,HK.out.2.2.2.2.2.1⟩
end Go.Proofs.YtnnpoodcdibpiaaGreatDoor
