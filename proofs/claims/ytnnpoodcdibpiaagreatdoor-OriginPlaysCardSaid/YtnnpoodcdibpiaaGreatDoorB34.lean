/-
  ladder.Make in plain Lean: which clips and ladders are made, and what is known of each rung.
-/
import Derived.Test.YtnnpoodcdibpiaaGreatDoorB33
import Derived.Test.YtnnpoodcdibpiaaGreatDoorB27
import Derived.Test.YtnnpoodcdibpiaaGreatDoorB28
import Derived.Shelf.LaysM
import Derived.Shelf.LaysC
import Derived.Ground.NamesProg
import Derived.Shelf.Strconv.Itoa3
import Derived.Shelf.Strconv.AtoiAll
import Derived.Shelf.Strconv.ErrVarAll
import Derived.Shelf.Strings.Search3
import Derived.Shelf.Strings.Split
import Derived.Lib.LaidTab
namespace Go.Proofs.YtnnpoodcdibpiaaGreatDoor
open Go.RowKit
set_option maxRecDepth 100000
set_option maxHeartbeats 8000000
def makeB(fs:List FrX)(G:Int)(rs:List Rg):Bool:=clipB fs&&ladderB (fs.getD 0 FrX.zero).W0 (fs.getD 0 FrX.zero).H0 G rs
def dim0(fs:List FrX):Dim:=mkDim (fs.getD 0 FrX.zero).W0 (fs.getD 0 FrX.zero).H0
def madeX(fs:List FrX)(G:Int)(r:Rg):MadeX:=
 ⟨r,G,(dim0 fs).downs r.down.toNat,segsOf ((dim0 fs).downs r.down.toNat) G.toNat r.tg.toNat r.q.toNat (fs.map fun f=>downsPix (dim0 fs) f.pix r.down.toNat)⟩
theorem whole_parts{f:FrX}(h:f.wholeB=true):(1<=f.W0/\f.W0<=4096/\f.W0 % 16=0)/\(1<=f.H0/\f.H0<=4096/\f.H0 % 16=0):=by
 unfold FrX.wholeB wholeI at h;rw [decide_eq_true_eq]at h;obtain⟨r0,_,_,e1,e2,_⟩:=h;unfold rightI sidesI at r0;simp only [Bool.and_eq_true,decide_eq_true_eq]at r0;omega
theorem dim_whole{f:FrX}(h:f.wholeB=true):(mkDim f.W0 f.H0).Ok/\((mkDim f.W0 f.H0).W:Int)=f.W0/\((mkDim f.W0 f.H0).H:Int)=f.H0:=by
 obtain⟨⟨a1,a2,a3⟩,b1,b2,b3⟩:=whole_parts h;refine⟨⟨?_,?_,?_,?_,?_,rfl,rfl⟩,?_,?_⟩
 ·show sidesB f.W0.toNat f.H0.toNat=true;unfold sidesB;simp;omega
 ·show f.W0.toNat % 16=0;omega
 ·show f.H0.toNat % 16=0;omega
 ·show f.W0.toNat=2*(f.W0.toNat/2);omega
 ·show f.H0.toNat=2*(f.H0.toNat/2);omega
 ·show((f.W0.toNat:Nat):Int)=f.W0;omega
 ·show((f.H0.toNat:Nat):Int)=f.H0;omega
theorem clip_good{fs:List FrX}(h:clipB fs=true):(dim0 fs).Ok/\((dim0 fs).W:Int)=(fs.getD 0 FrX.zero).W0/\((dim0 fs).H:Int)=(fs.getD 0 FrX.zero).H0/\(1<=fs.length/\fs.length<=1024)/\∀i,i<fs.length->(fs.getD i FrX.zero).goodB (dim0 fs)=true:=by
 unfold clipB at h;rw [Bool.and_eq_true,decide_eq_true_eq]at h;obtain⟨hl,hc⟩:=h;have h0:=clipsB_at hc (show 0<fs.length by omega);unfold FrX.likeB at h0;rw [Bool.and_eq_true]at h0;obtain⟨d1,d2,d3⟩:=dim_whole h0.1;refine⟨d1,d2,d3,hl,fun i hi=>?_⟩;have hi2:=clipsB_at hc hi;unfold FrX.likeB FrX.wholeB at hi2;simp only [Bool.and_eq_true,decide_eq_true_eq]at hi2;unfold FrX.goodB;rw [hi2.1];unfold dim0;rw [d2,d3,decide_eq_true hi2.2.1,decide_eq_true hi2.2.2];rfl
theorem downs_ok(d0:Dim)(n:Nat)(h:d0.Ok)(a b:Nat)(ha:d0.W=a*2 ^ n)(hb:d0.H=b*2 ^ n)(ha16:a % 16=0)(hb16:b % 16=0):
  (∀m,m<=n->(d0.downs m).Ok)/\(∀m,m<n->(d0.downs m).W % 32=0/\(d0.downs m).H % 32=0):=by
 have h2:d0.W2=d0.W/2/\d0.H2=d0.H/2:=by have:=h.w2;have:=h.h2;omega
 have key:∀m,m<n->(d0.downs m).W % 32=0/\(d0.downs m).H % 32=0:=fun m hm=>by
  obtain⟨e1,e2,_,_⟩:=Dim.downs_sides d0 m h2;obtain⟨k,rfl⟩:∃k,n=m+(k+1):=⟨n-m-1,by omega⟩
  have f1:d0.W/2 ^ m=a*2 ^ k*2:=by
   rw [ha,Nat.pow_add,Nat.pow_succ,<-Nat.mul_assoc,Nat.mul_comm a,Nat.mul_assoc,Nat.mul_div_cancel_left _ (Nat.pow_pos (by omega)),<-Nat.mul_assoc]
  have f2:d0.H/2 ^ m=b*2 ^ k*2:=by
   rw [hb,Nat.pow_add,Nat.pow_succ,<-Nat.mul_assoc,Nat.mul_comm b,Nat.mul_assoc,Nat.mul_div_cancel_left _ (Nat.pow_pos (by omega)),<-Nat.mul_assoc]
  have g1:a*2 ^ k % 16=0:=by rw [Nat.mul_mod,ha16];simp
  have g2:b*2 ^ k % 16=0:=by rw [Nat.mul_mod,hb16];simp
  rw [e1,e2,f1,f2];omega
 refine⟨fun m=>?_,key⟩
 induction m with
 | zero=>exact fun _=>h
 | succ m ih=>exact fun hm=>(ih (by omega)).down (key m (by omega)).1 (key m (by omega)).2
theorem rung_parts{fs:List FrX}{G:Int}{r:Rg}(hc:clipB fs=true)(h:rungB (fs.getD 0 FrX.zero).W0 (fs.getD 0 FrX.zero).H0 G r=true)(hW:(fs.getD 0 FrX.zero).W0<=64)(hH:(fs.getD 0 FrX.zero).H0<=64):
  ∃(dn q tg g:Nat),r.down=(dn:Int)/\r.q=(q:Int)/\r.tg=(tg:Int)/\G=(g:Int)/\dn<=3/\q<=31/\tg<=1048576/\(1<=g/\g<=64)/\(∀m,m<=dn->((dim0 fs).downs m).Ok)/\(∀m,m<dn->((dim0 fs).downs m).W % 32=0/\((dim0 fs).downs m).H % 32=0) /\
   seqRight (((dim0 fs).downs dn).W:Int) (((dim0 fs).downs dn).H:Int) (g:Int)=true/\((dim0 fs).downs dn).W<=64/\((dim0 fs).downs dn).H<=64:=by
 obtain⟨hd,w0,h0,_,_⟩:=clip_good hc;obtain⟨nm,dn,q,tg⟩:=r;unfold rungB at h;dsimp only at h;simp only [Bool.and_eq_true,decide_eq_true_eq]at h;obtain⟨_,ha,hs,m1,m2⟩:=h;unfold rungArgsB at ha;rw [decide_eq_true_eq]at ha;dsimp only at ha;have hsr:=hs;unfold seqRight at hsr;rw [decide_eq_true_eq]at hsr;obtain⟨n,rfl⟩:∃n:Nat,dn=(n:Int):=⟨dn.toNat,by omega⟩
 have h2:(dim0 fs).W2=(dim0 fs).W/2/\(dim0 fs).H2=(dim0 fs).H/2:=by have:=hd.w2;have:=hd.h2;omega
 obtain⟨e1,e2⟩:=halved_down (dim0 fs) h2 n;rw [<-w0]at hs hsr m1;rw [<-h0]at hs hsr m2;rw [e1,e2]at hs hsr;rw [e1]at m1;rw [e2]at m2;have m1':(dim0 fs).W=((dim0 fs).downs n).W*2 ^ n:=by
  have:(n:Int).toNat=n:=rfl;rw [this]at m1
  exact_mod_cast m1.symm
 have m2':(dim0 fs).H=((dim0 fs).downs n).H*2 ^ n:=by
  have:(n:Int).toNat=n:=rfl;rw [this]at m2
  exact_mod_cast m2.symm
 obtain⟨k1,k2⟩:=downs_ok (dim0 fs) n hd ((dim0 fs).downs n).W ((dim0 fs).downs n).H m1' m2' (by omega) (by omega);have p1:((dim0 fs).downs n).W*1<=((dim0 fs).downs n).W*2 ^ n:=Nat.mul_le_mul (Nat.le_refl _) (Nat.pow_pos (by omega));have p2:((dim0 fs).downs n).H*1<=((dim0 fs).downs n).H*2 ^ n:=Nat.mul_le_mul (Nat.le_refl _) (Nat.pow_pos (by omega));refine⟨n,q.toNat,tg.toNat,G.toNat,rfl,show q=((q.toNat:Nat):Int)by omega,show tg=((tg.toNat:Nat):Int)by omega,by omega,by omega,by omega,by omega,by omega,k1,k2,?_,by omega,by omega⟩;rw [show((G.toNat:Nat):Int)=G by omega];exact hs
theorem ladder_at{W H G:Int}{rs:List Rg}(h:ladderB W H G rs=true){i:Nat}(hi:i<rs.length):rungB W H G (rs.getD i Rg.zero)=true:=by
 unfold ladderB at h;rw [Bool.and_eq_true]at h;have h2:=h.2;unfold rungsB at h2;rw [List.all_eq_true]at h2;have h3:=h2 i (List.mem_range.2 hi);rw [Bool.and_eq_true]at h3;exact h3.1
def FM(B:Nat)(v:Value)(k:Nat):Prop:=B<=k/\v.ownBlock≠some k
theorem make_push{w w':World}{B:Nat}{e:TypeId}{v v':Value}{l:List MadeX}{x:MadeX}{xs cells:List Value}(hc:CellsOf 8 (MadeR w (FM B v)) l xs)(h1:w'.ownsRow B e 8 v' (l.length+1) (xs++cells))(hm:Mod (fun j=>v.ownBlock=some j) w w')
  (hg:∀k,v'.ownBlock=some k->v.ownBlock=some k\/w.heap.size<=k)(hx:MadeR w (FM B v) x cells)(hl:cells.length=8):ListOwn w' B e 8 (MadeR w' (FM B v')) v' (l++[x]):=by
 have hFn:∀k,FM B v k->k<w.heap.size->¬v.ownBlock=some k:=fun k hk _=>hk.2;have hFF:∀k,FM B v k->k<w.heap.size->FM B v' k:=fun k hk hl=>⟨hk.1,fun e=>(hg k e).elim hk.2 (by omega)⟩
 exact ListOwn.push h1 (hc.mono (fun _ _ _ k=>k.turn hm hFn hFF)) (hx.turn hm hFn hFF) hl
theorem take_one{rs:List Rg}{i:Nat}(h:i<rs.length)(f:Rg->MadeX):(rs.take (i+1)).map f=(rs.take i).map f++[f (rs.getD i Rg.zero)]:=by
 rw [List.take_add_one,List.map_append,List.getElem?_eq_getElem h,List.getD_eq_getElem?_getD,List.getElem?_eq_getElem h];rfl
def kList:Str:=[108,105,115,116]
def MadeX.okB(m:MadeX)(sc tk:Int):Bool:=pkB m.r.name m.d.W m.d.H m.G sc tk m.segs
def MadeX.listed(m:MadeX)(sc tk:Int):Ls:=pkListed m.r.name m.d.W m.d.H m.G.toNat sc.toNat tk.toNat m.segs
def MadeX.files(m:MadeX)(sc tk:Int):FsL:=pkFiles m.r.name m.d.W m.d.H m.G.toNat sc.toNat tk.toNat m.segs m.segs.length
def pubMf(ms:List MadeX)(sc tk:Int):Mf:=⟨sc,tk,ms.map fun m=>m.listed sc tk⟩
def pubFiles(ms:List MadeX)(sc tk:Int):FsL:=ms.flatMap fun m=>m.files sc tk
def pubAll(ms:List MadeX)(sc tk:Int):FsL:=pubFiles ms sc tk++[(kList,writeL (pubMf ms sc tk))]
def pubO(L:FsL)(ms:List MadeX)(sc tk:Int):Except Int FsL:=
 if ms.all (fun m=>m.okB sc tk)=true then
  if mfRightB (pubMf ms sc tk)=true then match putsL L (pubAll ms sc tk)with
   | some L'=>.ok L'
   | none=>.error 193
  else .error 181
 else .error 171
structure MOk(m:MadeX):Prop where
 segs:m.segs.length<=1024
 each:∀s∈m.segs,s.length<=64/\sumLen (sampsOf s)<=1099511627776
 name:m.r.name.length<=1000
 sides:m.d.W<=4096/\m.d.H<=4096
theorem sum_le{l:List (List UInt8)}{c:Nat}(h:∀b∈l,b.length<=c):sumLen l<=l.length*c:=by
 induction l with
 | nil=>simp [sumLen]
 | cons b r ih=>
  have h1:=ih (fun x hx=>h x (by simp [hx]));have h2:=h b (by simp);have h3:sumLen (b :: r)=b.length+sumLen r:=by simp [sumLen]
  rw [h3,List.length_cons,Nat.add_mul];omega
theorem out_len64{d:Dim}{G tg q:Nat}{fs:List Pix}(hW:d.W<=64)(hH:d.H<=64)(hq:q<=31)(hG:1<=G/\G<=64)(k:Nat):(outSt d G tg q fs k).1.length<=300003:=by
 have hq':=encSt_q (d:=d) (G:=G) (tg:=tg) (fs:=fs) hq k;have hk:k % G<64:=Nat.lt_of_lt_of_le (Nat.mod_lt _ (by omega)) hG.2;have h0:=hdrB_len (k % G) hk (encSt d G tg q fs k).1 (by omega);have h1:=ecode_len (d:=d) (fr:=fs.getD k noPix) (ahd:=(encSt d G tg q fs k).2) (K:=k % G == 0) (Q:=((encSt d G tg q fs k).1:Int)) (by omega) hW hH;have h5:(outSt d G tg q fs k).1.length=(hdrB (k % G == 0) (k % G) (encSt d G tg q fs k).1).length+(ecode d (fs.getD k noPix) (encSt d G tg q fs k).2 (k % G == 0) ((encSt d G tg q fs k).1:Int)).2.code.length:=by
  unfold outSt eframe;rw [List.length_append]
 omega
theorem segs_ok{d:Dim}{G tg q:Nat}{fs:List Pix}(hW:d.W<=64)(hH:d.H<=64)(hq:q<=31)(hG:1<=G/\G<=64)(hl:fs.length<=1024):
  (segsOf d G tg q fs).length<=1024/\∀s∈segsOf d G tg q fs,s.length<=64/\sumLen (sampsOf s)<=1099511627776:=by
 constructor
 ·unfold segsOf segN;rw [List.length_map,List.length_range];have:(fs.length+G-1)/G<=fs.length:=by
   rcases Nat.eq_zero_or_pos fs.length with h|h
   ·rw [h,Nat.zero_add,Nat.div_eq_of_lt (by omega)];omega
   ·have h2:fs.length+G-1<=fs.length*G:=by
     obtain⟨n,hn⟩:∃n,fs.length=n+1:=⟨fs.length-1,by omega⟩
     obtain⟨k,hk⟩:∃k,G=k+1:=⟨G-1,by omega⟩
     rw [hn,hk,Nat.add_mul,Nat.mul_add];have:=Nat.zero_le (n*k);omega
    calc (fs.length+G-1)/G<=fs.length*G/G:=Nat.div_le_div_right h2
     _=fs.length:=Nat.mul_div_cancel _ (by omega)
  omega
 ·intro s hs;unfold segsOf at hs;obtain⟨i,_,rfl⟩:=List.mem_map.1 hs;have h1:(segOf d G tg q fs i).length<=64:=by
   unfold segOf segLen;rw [List.length_map,List.length_range];omega
  refine⟨h1,?_⟩
  have h2:∀b∈sampsOf (segOf d G tg q fs i),b.length<=300003:=fun b hb=>by
   unfold sampsOf segOf at hb;rw [List.map_map]at hb;obtain⟨j,_,rfl⟩:=List.mem_map.1 hb;exact out_len64 hW hH hq hG _
  have h3:=sum_le h2;have h4:(sampsOf (segOf d G tg q fs i)).length=(segOf d G tg q fs i).length:=by simp [sampsOf]
  have h5:(segOf d G tg q fs i).length*300003<=64*300003:=Nat.mul_le_mul h1 (Nat.le_refl _);rw [h4]at h3;omega
theorem made_ok{fs:List FrX}{G:Int}{rs:List Rg}(h:makeB fs G rs=true)(hW:(fs.getD 0 FrX.zero).W0<=64)(hH:(fs.getD 0 FrX.zero).H0<=64):∀m∈rs.map (madeX fs G),MOk m:=by
 unfold makeB at h;rw [Bool.and_eq_true]at h;obtain⟨hc,hl⟩:=h;obtain⟨_,_,_,hlen,_⟩:=clip_good hc;intro m hm;obtain⟨r,hr,rfl⟩:=List.mem_map.1 hm;obtain⟨i,hi⟩:=List.getElem?_of_mem hr;have hil:=(List.getElem?_eq_some_iff.1 hi).1;have hrb:=ladder_at hl hil;have hre:rs.getD i Rg.zero=r:=by rw [List.getD_eq_getElem?_getD,hi];rfl
 rw [hre]at hrb;obtain⟨dn,q,tg,g,x1,x2,x3,x4,y1,y2,y3,y4,y5,y6,y7,y8,y9⟩:=rung_parts hc hrb hW hH;subst x4;have hs:=segs_ok (d:=(dim0 fs).downs dn) (G:=g) (tg:=tg) (q:=q) (fs:=fs.map fun f=>downsPix (dim0 fs) f.pix dn) y8 y9 y2 y4 (by rw [List.length_map];exact hlen.2);have hmx:madeX fs (g:Int) r=⟨⟨r.name,(dn:Int),(q:Int),(tg:Int)⟩,(g:Int),(dim0 fs).downs dn,segsOf ((dim0 fs).downs dn) g tg q (fs.map fun f=>downsPix (dim0 fs) f.pix dn)⟩:=by
  obtain⟨nm,rd,rq,rt⟩:=r;dsimp only at x1 x2 x3;subst x1 x2 x3;rfl
 have hn:r.name.length<=8:=by
  unfold rungB at hrb;rw [Bool.and_eq_true]at hrb;have h2:=hrb.1;unfold nameB at h2;rw [Bool.and_eq_true,decide_eq_true_eq]at h2;exact h2.1.2
 rw [hmx];exact⟨hs.1,hs.2,by show r.name.length<=1000;omega,by show((dim0 fs).downs dn).W<=4096;omega,by show((dim0 fs).downs dn).H<=4096;omega⟩
theorem bwTo_le{sc tk c:Nat}{ss:List SegL}(h:∀s∈ss,bwSeg sc tk (sampsOf s)<=c):bwTo sc tk ss<=c:=by
 unfold bwTo;have:∀(l:List SegL) (a:Nat),a<=c->(∀s∈l,bwSeg sc tk (sampsOf s)<=c)->l.foldl (fun m s=>max m (bwSeg sc tk (sampsOf s))) a<=c:=by
  intro l
  induction l with
  | nil=>exact fun a ha _=>ha
  | cons s r ih=>exact fun a ha hl=>ih _ (Nat.max_le.2 ⟨ha,hl s (by simp)⟩) (fun x hx=>hl x (by simp [hx]))
 exact this ss 0 (Nat.zero_le _) h
theorem band_le{m:MadeX}(h:MOk m)(sc tk:Int):bandB sc tk m.segs<=4611686018427387904:=by
 unfold bandB;split
 ·rename_i ht;unfold timesB at ht;simp only [Bool.not_eq_true',Bool.or_eq_false_iff,decide_eq_false_iff_not]at ht;refine bwTo_le (fun s hs=>?_);obtain⟨h1,h2⟩:=h.each s hs;unfold bwSeg;split
  ·omega
  ·refine Nat.le_trans (Nat.div_le_self _ _) ?_;have a1:sumLen (sampsOf s)*sc.toNat<=1099511627776*1048576:=Nat.mul_le_mul h2 (by omega);have a2:(sampsOf s).length*tk.toNat<=64*1048576:=Nat.mul_le_mul (by rw [show(sampsOf s).length=s.length by simp [sampsOf]];exact h1) (by omega);omega
 ·omega
theorem listed_ok{m:MadeX}{sc tk:Int}(h:MOk m)(hb:m.okB sc tk=true):(m.listed sc tk).Ok/\∀p∈(m.listed sc tk).pieces,p.Ok:=by
 have hbw:=band_le h (sc.toNat:Int) (tk.toNat:Int);unfold MadeX.okB pkB at hb;rw [Bool.and_eq_true]at hb;obtain⟨hi,hm⟩:=hb;rw [List.all_eq_true]at hm;obtain⟨W',H',G',s,t,eW,eH,eG,es,et,b1,b2,b3,b4,b5,b6,_⟩:=initB_yes hi;have hn:=h.name;have hsd:=h.sides;have hil:(initFile m.r.name m.d.W m.d.H m.G.toNat sc.toNat tk.toNat).length<=100:=by
  rw [initFile_len b6 (seqBy_le (by omega) (by omega) (by omega))];have:=seqBy_le (W:=m.d.W) (H:=m.d.H) (G:=m.G.toNat) (by omega) (by omega) (by omega);omega
 have hsi:(m.r.name++kSInit).length=m.r.name.length+5:=by rw [List.length_append];rfl
 have hpl:(m.listed sc tk).pieces.length=m.segs.length:=by show(pkPieces _ _ _).length=_;simp [pkPieces]
 have hsg:=h.segs
 refine⟨⟨by show m.r.name.length<=_;omega,⟨by show(-9223372036854775808:Int)<=(m.d.W:Int);omega,by show(m.d.W:Int)<=_;omega⟩,⟨by show(-9223372036854775808:Int)<=(m.d.H:Int);omega,by show(m.d.H:Int)<=_;omega⟩,⟨by show(-9223372036854775808:Int)<=max (bandB (sc.toNat:Int) (tk.toNat:Int) m.segs:Int) 1;omega,by show max (bandB (sc.toNat:Int) (tk.toNat:Int) m.segs:Int) 1<=_;omega⟩,
  ⟨⟨by show(-9223372036854775808:Int)<=0;omega,by show(0:Int)<=_;omega⟩,⟨by show(-9223372036854775808:Int)<=((initFile m.r.name m.d.W m.d.H m.G.toNat sc.toNat tk.toNat).length:Int);omega,by show((initFile m.r.name m.d.W m.d.H m.G.toNat sc.toNat tk.toNat).length:Int)<=_;omega⟩,by show(m.r.name++kSInit).length<=_;omega⟩,by omega⟩,fun p hp=>?_⟩
 obtain⟨i,hir,rfl⟩:=List.mem_map.1 (show p∈(List.range m.segs.length).map (pkPiece m.r.name m.segs)from hp);have hil2:=List.mem_range.1 hir;have hmi:=hm i hir;obtain⟨_,hl1,hsum⟩:=mediaB_yes hmi;have hml:(pkMedia m.segs i).length<=1048576:=by
  show(mediaFile i (pkFirst m.segs i) (pkSeg m.segs i)).length<=_;rw [mediaFile_len hl1.2 hsum];omega
 have hgl:=pkSeg_len m.segs i;have hd:=dec_len (n:=(i:Int)) 3 (by omega);have hpp:(pkPath m.r.name i).length<=1005:=by
  unfold pkPath;rw [List.length_append,List.length_cons];omega
 exact⟨⟨by show(-9223372036854775808:Int)<=((m.segs.getD i []).length:Int);omega,by show((m.segs.getD i []).length:Int)<=_;omega⟩,⟨by show(-9223372036854775808:Int)<=((pkMedia m.segs i).length:Int);omega,by show((pkMedia m.segs i).length:Int)<=_;omega⟩,by show(pkPath m.r.name i).length<=_;omega⟩
theorem CellsOf.append{α:Type}{size:Nat}{R:α->List Value->Prop}{l l':List α}{xs xs':List Value}(h:CellsOf size R l xs)(h':CellsOf size R l' xs'):CellsOf size R (l++l') (xs++xs'):=by
 obtain⟨cs,h1,rfl,h3,h4⟩:=h;obtain⟨cs',h1',rfl,h3',h4'⟩:=h';refine⟨cs++cs',by simp [h1,h1'],by simp,fun d hd=>?_,fun i y d hy hd=>?_⟩
 ·rcases List.mem_append.1 hd with hd|hd
  ·exact h3 d hd
  ·exact h3' d hd
 ·by_cases hi:i<l.length
  ·rw [List.getElem?_append_left hi]at hy;rw [List.getElem?_append_left (by omega)]at hd;exact h4 i y d hy hd
  ·rw [List.getElem?_append_right (by omega)]at hy;rw [List.getElem?_append_right (by omega),h1]at hd;exact h4' _ y d hy hd
theorem cells_all{α:Type}{size:Nat}{R:α->List Value->Prop}{l:List α}{xs:List Value}{p:Value->Prop}(h:CellsOf size R l xs)(hR:∀x c,R x c->∀u∈c,p u):∀u∈xs,p u:=by
 obtain⟨cs,h1,rfl,h3,h4⟩:=h;intro u hu;obtain⟨c,hc,huc⟩:=List.mem_flatten.1 hu;obtain⟨i,hi⟩:=List.getElem?_of_mem hc;have hlt:i<l.length:=by have:=(List.getElem?_eq_some_iff.1 hi).1;omega
 exact hR _ c (h4 i _ c (List.getElem?_eq_getElem hlt) hi) u huc
theorem file_one{w:World}{B:Nat}(x:Str × Str)(c:List Value)(h:FileU w B x c):∀u∈c,u.oneCell'=true:=by
 obtain⟨v,rfl,hv⟩:=h;obtain⟨A,k,rfl⟩:=hv.shape;intro u hu;simp only [List.mem_cons,List.not_mem_nil,or_false]at hu;rcases hu with rfl|rfl<;>rfl
abbrev LsRow(w:World)(B:Nat)(v:Value)(l:List Ls):Prop:=ListOwn w B 91 8 (LsU w B) v l
theorem LsRow.past{w w':World}{S:Nat->Prop}{B:Nat}{v:Value}{l:List Ls}(h:LsRow w B v l)(hm:Mod S w w')(hS:∀k,S k->k<w.heap.size->∃t cs,Blk w k t cs/\t≠91/\t≠88):LsRow w' B v l:=by
 obtain⟨xs,h1,h2⟩:=h;exact⟨xs,own_past h1 hm (fun k hk hl=>(hS k hk hl).imp fun t h=>h.imp fun cs h=>⟨h.1,h.2.1⟩),h2.mono (fun x _ c h=>LsU.past h hm (fun k hk hl=>(hS k hk hl).imp fun t h=>h.imp fun cs h=>⟨h.1,h.2.2⟩))⟩
theorem PcsU.pcs{w:World}{B:Nat}{A:Option Addr}{n k:Nat}{l:List Pc}(h:PcsU w B (.slice A n k) l)(hok:∀p∈l,p.Ok):PcsIn w A n l:=by
 have hin:=h.in_ (F:=fun _=>True) (fun _ _=>trivial);obtain⟨A',c',hv,_⟩:=hin.shape;injection hv with e1 e2 e3;subst e1 e2 e3;refine⟨rfl,hok,fun i p hp=>?_⟩;obtain⟨b,o,cp,c,hv,_,hb,_,hR,hc,hx⟩:=hin.at_ hp (by decide);injection hv with e1 _ _;obtain rfl:c=pcV p:=hR;refine⟨b,o,e1,hb,?_,?_,?_⟩
 ·have:=hx 0 _ rfl;simpa using this
 ·exact hx 1 _ rfl
 ·exact hx 2 _ rfl
theorem LsRow.rs{w:World}{B:Nat}{A:Option Addr}{n k:Nat}{l:List Ls}(h:LsRow w B (.slice A n k) l)(hok:∀x∈l,x.Ok/\∀p∈x.pieces,p.Ok):RsIn w A n l:=by
 have hin:=h.in_ (F:=fun _=>True) (fun _ _=>trivial);obtain⟨A',c',hv,_⟩:=hin.shape;injection hv with e1 e2 e3;subst e1 e2 e3;refine⟨rfl,fun i x hp=>?_⟩;obtain⟨b,o,cp,c,hv,_,hb,_,hR,hc,hx⟩:=hin.at_ hp (by decide);injection hv with e1 _ _;obtain⟨A2,n2,c2,rfl,hpc⟩:=hR;have ho:=hok x (List.mem_of_getElem? hp);exact⟨b,o,A2,n2,c2,e1,hb,fun j v hj=>hx j v hj,ho.1,hpc.pcs ho.2⟩
theorem pubFiles_succ{ms:List MadeX}{i:Nat}{m:MadeX}{sc tk:Int}(h:ms[i]?=some m):pubFiles (ms.take (i+1)) sc tk=pubFiles (ms.take i) sc tk++m.files sc tk:=by
 unfold pubFiles;rw [List.take_add_one,h,List.flatMap_append];simp
theorem rends_succ{ms:List MadeX}{i:Nat}{m:MadeX}{sc tk:Int}(h:ms[i]?=some m):(ms.take (i+1)).map (fun m=>m.listed sc tk)=(ms.take i).map (fun m=>m.listed sc tk)++[m.listed sc tk]:=by
 rw [List.take_add_one,h,List.map_append];rfl
theorem files_len(m:MadeX)(sc tk:Int):(m.files sc tk).length=m.segs.length+1:=pkFiles_len _ _ _ _ _ _ _ _
theorem pubFiles_len{ms:List MadeX}{sc tk:Int}(h:∀m∈ms,MOk m)(i:Nat):(pubFiles (ms.take i) sc tk).length<=1025*i:=by
 induction i with
 | zero=>simp [pubFiles]
 | succ i ih=>
  by_cases hi:i<ms.length
  ·rw [pubFiles_succ (List.getElem?_eq_getElem hi),List.length_append,files_len];have:=(h _ (List.getElem_mem hi)).segs;omega
  ·rw [List.take_of_length_le (by omega)]at ih ⊢;omega
structure PbAt(w0 w:World)(ms:List MadeX)(sc tk:Int)(i j mb:Nat)(fv:Value):Prop where
 files:FilesU w w0.heap.size fv (pubFiles (ms.take i) sc tk)
 box:∃A c,LsRow w w0.heap.size (.slice A j c) ((ms.take j).map fun m=>m.listed sc tk)/\Blk w mb 59 #[.int .i64 sc,.int .i64 tk,.slice A j c]
 low:w0.heap.size<=mb
 mod:Mod (fun _=>False) w0 w
section
variable {w0 w w' : World} {ms : List MadeX} {sc tk : Int} {i j mb n : Nat} {fv fv' : Value} {m : MadeX} {xs news cells : List Value}
theorem PbAt.quiet(h:PbAt w0 w ms sc tk i j mb fv)(hm:Mod (fun _=>False) w w'):PbAt w0 w' ms sc tk i j mb fv:=by
 obtain⟨A,c,h1,h2⟩:=h.box;exact⟨h.files.past hm none_turn,⟨A,c,h1.past hm none_turn,h2.keep hm (fun h=>h)⟩,h.low,h.mod.trans hm⟩
theorem PbAt.file(h:PbAt w0 w ms sc tk i j mb fv)(hrow:w.ownsRow w0.heap.size 131 2 fv n xs)(hc:CellsOf 2 (FileU w w0.heap.size) (pubFiles (ms.take i) sc tk) xs)(hi:ms[i]?=some m)(y1:w'.ownsRow w0.heap.size 131 2 fv' ((pubFiles (ms.take i) sc tk).length+(m.files sc tk).length) (xs++news))
  (y2:Mod (fun j=>fv.ownBlock=some j) w w')(y3:Mod (fun _=>False) w0 w')(hx:CellsOf 2 (FileU w w0.heap.size) (m.files sc tk) news):PbAt w0 w' ms sc tk (i+1) j mb fv':=by
 obtain⟨A,c,h1,h2⟩:=h.box;refine⟨⟨xs++news,by rw [pubFiles_succ hi,List.length_append];exact y1,?_⟩,⟨A,c,h1.past y2 (own_typed hrow (by decide)),h2.keep y2 (fun hk=>?_)⟩,h.low,y3⟩
 ·rw [pubFiles_succ hi];exact(hc.mono (fun x _ c hx=>hx.past y2 (own_typed hrow (by decide)))).append (hx.mono (fun x _ c hx=>hx.past y2 (own_typed hrow (by decide))))
 ·obtain⟨_,cs,hb⟩:=own_blk hrow hk;exact hb.ne_ h2 (by decide) rfl
theorem PbAt.rend{A A':Option Addr}{c c':Nat}(h:PbAt w0 w ms sc tk i j mb fv)(hrow:w.ownsRow w0.heap.size 91 8 (.slice A j c) j xs)(hc:CellsOf 8 (LsU w w0.heap.size) ((ms.take j).map fun m=>m.listed sc tk) xs)(hj:ms[j]?=some m)
  (y1:w'.ownsRow w0.heap.size 91 8 (.slice A' (j+1) c') (j+1) (xs++cells))(y2:Mod (fun k=>(Value.slice A j c).ownBlock=some k) w w')(y3:Mod (fun _=>False) w0 w')(hx:LsU w w0.heap.size (m.listed sc tk) cells)(hl:cells.length=8):
  PbAt w0 (w'.setCell ⟨mb,2,none⟩ (.slice A' (j+1) c')) ms sc tk i (j+1) mb fv:=by
 obtain⟨A2,c2,h1,h2⟩:=h.box
 have hlb:Blk w' mb 59 #[.int .i64 sc,.int .i64 tk,.slice A2 j c2]:=h2.keep y2 (fun hk=>by
  obtain⟨_,cs,hb⟩:=own_blk hrow hk;exact hb.ne_ h2 (by decide) rfl)
 have hs:Mod (·=mb) w' (w'.setCell ⟨mb,2,none⟩ (.slice A' (j+1) c')):=(Mod.refl (·=mb) w').setCell (p:=⟨mb,2,none⟩) (.inl rfl) _;have ht:∀ {T:TypeId->Prop},T 59->∀k,k=mb->k<w'.heap.size->∃t cs,Blk w' k t cs/\T t:=fun hT k hk _=>by subst hk;exact⟨_,_,hlb,hT⟩
 have hlen:((ms.take (j+1)).map fun m=>m.listed sc tk).length=j+1:=by
  have:=(List.getElem?_eq_some_iff.1 hj).1;rw [List.length_map,List.length_take];omega
 refine⟨(h.files.past y2 (own_typed hrow (by decide))).past hs (ht (by decide)),⟨A',c',⟨xs++cells,?_,?_⟩,hlb.put rfl⟩,h.low,y3.into hs (fun i e=>.inr (e▸h.low))⟩
 ·rw [hlen];exact own_past y1 hs (ht (by decide))
 ·rw [rends_succ hj];exact(hc.mono (fun x _ c hx=>(hx.past y2 (own_typed hrow (by decide))).past hs (ht (by decide)))).snoc ((hx.past y2 (own_typed hrow (by decide))).past hs (ht (by decide))) hl
theorem PbAt.mf{A:Option Addr}{c:Nat}(hok:∀m∈ms,MOk m)(hb:ms.all (fun m=>m.okB sc tk)=true)(h1:LsRow w w0.heap.size (.slice A ms.length c) (ms.map fun m=>m.listed sc tk))(hl:ms.length<=8)(h2:I64 sc/\I64 tk):MfIn w A ms.length (pubMf ms sc tk):=by
 rw [List.all_eq_true]at hb;refine⟨⟨h2.1,h2.2,by omega⟩,h1.rs (fun x hx=>?_)⟩;obtain⟨m,hm,rfl⟩:=List.mem_map.1 hx;exact listed_ok (hok m hm) (hb m hm)
end
end Go.Proofs.YtnnpoodcdibpiaaGreatDoor
namespace Go.Proofs
open Go.Shelf
set_option maxRecDepth 100000
set_option maxHeartbeats 8000000
def Tryz.laysItoa_ren:Go.Shelf.Ren:=⟨fun|171=>74|243=>126|246=>188|283=>250|284=>251|285=>252|286=>253|129=>174|317=>320|318=>321|319=>322|320=>323|337=>370|338=>371|n=>n,fun|3=>3|9=>9|2=>2|4=>4|171=>373|0=>0|53=>204|37=>22|5=>5|173=>375|212=>432|51=>260|20=>20|213=>433|46=>211|232=>401|233=>475|n=>n,fun|17=>5|18=>7|19=>8|n=>n⟩
theorem Tryz.laysItoa:Go.Proofs.LaysM.n171 Tryz.prog Tryz.laysItoa_ren:={
 mixed:=by kernel_rfl
 f129:=Tryz.func174.trans (congrArg some (by kernel_rfl))
 f171:=Tryz.func74.trans (congrArg some (by kernel_rfl))
 f243:=Tryz.func126.trans (congrArg some (by kernel_rfl))
 f246:=Tryz.func188.trans (congrArg some (by kernel_rfl))
 f283:=Tryz.func250.trans (congrArg some (by kernel_rfl))
 f284:=Tryz.func251.trans (congrArg some (by kernel_rfl))
 f285:=Tryz.func252.trans (congrArg some (by kernel_rfl))
 f286:=Tryz.func253.trans (congrArg some (by kernel_rfl))
 f317:=Tryz.func320.trans (congrArg some (by kernel_rfl))
 f318:=Tryz.func321.trans (congrArg some (by kernel_rfl))
 f319:=Tryz.func322.trans (congrArg some (by kernel_rfl))
 f320:=Tryz.func323.trans (congrArg some (by kernel_rfl))
 f337:=Tryz.func370.trans (congrArg some (by kernel_rfl))
 f338:=Tryz.func371.trans (congrArg some (by kernel_rfl))
 t0:=Tryz.underlying0
 a0:=Tryz.isAgg0
 z0:=Tryz.sizeOf0
 v0:=Tryz.zeroValue0
 t2:=Tryz.underlying2
 a2:=Tryz.isAgg2
 z2:=Tryz.sizeOf2
 v2:=Tryz.zeroValue2
 t3:=Tryz.underlying3
 a3:=Tryz.isAgg3
 z3:=Tryz.sizeOf3
 v3:=Tryz.zeroValue3
 t4:=Tryz.underlying4
 a4:=Tryz.isAgg4
 z4:=Tryz.sizeOf4
 v4:=Tryz.zeroValue4
 t5:=Tryz.underlying5
 a5:=Tryz.isAgg5
 z5:=Tryz.sizeOf5
 v5:=Tryz.zeroValue5
 t9:=Tryz.underlying9
 a9:=Tryz.isAgg9
 z9:=Tryz.sizeOf9
 v9:=Tryz.zeroValue9
 t20:=Tryz.underlying20
 a20:=Tryz.isAgg20
 z20:=Tryz.sizeOf20
 v20:=Tryz.zeroValue20
 t37:=Tryz.underlying22
 a37:=Tryz.isAgg22
 z37:=Tryz.sizeOf22
 v37:=Tryz.zeroValue22
 t46:=Tryz.underlying211
 a46:=Tryz.isAgg211
 z46:=Tryz.sizeOf211
 v46:=Tryz.zeroValue211
 t51:=Tryz.underlying260
 a51:=Tryz.isAgg260
 z51:=Tryz.sizeOf260
 v51:=Tryz.zeroValue260
 t53:=Tryz.underlying204
 a53:=Tryz.isAgg204
 z53:=Tryz.sizeOf204
 v53:=Tryz.zeroValue204
 t171:=Tryz.underlying373
 a171:=Tryz.isAgg373
 z171:=Tryz.sizeOf373
 v171:=Tryz.zeroValue373
 t173:=Tryz.underlying375
 a173:=Tryz.isAgg375
 z173:=Tryz.sizeOf375
 v173:=Tryz.zeroValue375
 t212:=Tryz.underlying432
 a212:=Tryz.isAgg432
 z212:=Tryz.sizeOf432
 v212:=Tryz.zeroValue432
 t213:=Tryz.underlying433
 a213:=Tryz.isAgg433
 z213:=Tryz.sizeOf433
 t232:=Tryz.underlying401
 a232:=Tryz.isAgg401
 z232:=Tryz.sizeOf401
 v232:=Tryz.zeroValue401
 t233:=Tryz.underlying475
 a233:=Tryz.isAgg475
 z233:=Tryz.sizeOf475
 v233:=Tryz.zeroValue475
 g17:=by kernel_rfl
 g18:=by kernel_rfl
 g19:=by kernel_rfl
 i0:=by kernel_rfl
 i2:=by kernel_rfl
 i3:=by kernel_rfl
 i4:=by kernel_rfl
 i5:=by kernel_rfl
 i9:=by kernel_rfl
 i20:=by kernel_rfl
 i37:=by kernel_rfl
 i46:=by kernel_rfl
 i51:=by kernel_rfl
 i53:=by kernel_rfl
 i171:=by kernel_rfl
 i173:=by kernel_rfl
 i212:=by kernel_rfl
 i232:=by kernel_rfl
 i233:=by kernel_rfl
 m17:=by kernel_rfl
 m18:=by kernel_rfl
 m19:=by kernel_rfl }
def Tryz.laysSplit_ren:Go.Shelf.Ren:=⟨fun|146=>52|221=>92|268=>154|138=>155|143=>151|195=>224|197=>150|218=>225|219=>218|260=>217|217=>289|225=>290|224=>291|267=>292|266=>338|314=>339|n=>n,fun|9=>9|31=>29|3=>3|4=>4|0=>0|105=>250|21=>21|5=>5|46=>211|119=>403|139=>406|138=>405|146=>440|51=>260|n=>n,fun|1=>2|3=>0|4=>1|n=>n⟩
end Go.Proofs
namespace Go.Proofs.YtnnpoodcdibpiaaGreatDoor
open Go.RowKit Go.Shelf
set_option maxRecDepth 100000
set_option maxHeartbeats 8000000
theorem var_quiet{w w':World}{n:String}{cs:Array Value}(hm:Mod (fun _=>False) w w')(h:w.var? Tryz.prog n=some cs):w'.var? Tryz.prog n=some cs:=by
 unfold World.var? at h ⊢;cases hg:Tryz.prog.globalNamed n with
 | none=>rw [hg]at h;cases h
 | some g=>
  rw [hg]at h;simp only [Option.bind_some]at h ⊢;have hlt:g<w.heap.size:=by
   rcases Nat.lt_or_ge g w.heap.size with h'|h'
   ·exact h'
   ·rw [Array.getElem?_eq_none h']at h;cases h
  rw [hm.block g hlt (fun h=>h)];exact h
structure EnvW(w:World):Prop where
 pow : Lib.TabIs Tryz.prog w "internal/strconv.uint64pow10" .u64 Lib.pow10Tab
theorem EnvW.quiet{w w':World}(h:EnvW w)(hm:Mod (fun _=>False) w w'):EnvW w':=⟨var_quiet hm h.pow⟩
structure Env(w:World):Prop where
 pow : Lib.TabIs Tryz.prog w "internal/strconv.uint64pow10" .u64 Lib.pow10Tab
 syn : ∃ tp q, w.var? Tryz.prog "strconv.ErrSyntax" = some #[.iface tp q]
 rng : ∃ tp q, w.var? Tryz.prog "strconv.ErrRange" = some #[.iface tp q]
 mx:∃m,w.cell? ⟨Tryz.laysSplit_ren.g 1,0,none⟩=some (.int .i64 m)/\Tryz.laysSplit_ren.g 1<w.heap.size
theorem Env.w{w:World}(h:Env w):EnvW w:=⟨h.pow⟩
theorem Env.quiet{w w':World}(h:Env w)(hm:Mod (fun _=>False) w w'):Env w':=by
 obtain⟨h1,⟨t1,q1,h2⟩,⟨t2,q2,h3⟩,⟨m,h4,h5⟩⟩:=h;exact⟨var_quiet hm h1,⟨t1,q1,var_quiet hm h2⟩,⟨t2,q2,var_quiet hm h3⟩,m,(cellq hm h5).trans h4,Nat.lt_of_lt_of_le h5 hm.size⟩
theorem grow_quiet(w:World)(k:Nat)(os:Array Obj):Mod (fun _=>False) w (Sort.grow (w.drewN k) os):=
 ⟨rfl,rfl,rfl,by show w.heap.size<=(w.heap++os).size;rw [Array.size_append];omega,fun i hi _=>by
  show(w.heap++os)[i]?=w.heap[i]?;rw [Array.getElem?_append_left hi]⟩
theorem itoa_dec{n:Int}(h:0<=n):Lib.itoa n=dec n:=by
 unfold Lib.itoa dec;rw [if_neg (by omega)]
theorem cItoa(w:World)(n:Int)(h0:0<=n)(h1:n<=9223372036854775807)(he:EnvW w):Calls Tryz.prog 74 #[.int .i64 n] w fun e w'=>e=.returned (.string (strOf (dec n)))/\Mod (fun _=>False) w w':=by
 refine(Any.strconv_Itoa Tryz.laysItoa n (by omega) h1 w he.pow).mono ?_;rintro e w' ⟨rfl,k,os,rfl⟩;exact⟨by rw [itoa_dec h0];rfl,grow_quiet _ _ _⟩
/-! ### strings.Index and strings.Split at one byte -/
end Go.Proofs.YtnnpoodcdibpiaaGreatDoor
