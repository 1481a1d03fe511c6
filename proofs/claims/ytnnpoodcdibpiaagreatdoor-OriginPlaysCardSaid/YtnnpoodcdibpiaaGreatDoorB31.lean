/-
  ladder.rightClip: is a list of frames a clip?
-/
import Derived.Test.YtnnpoodcdibpiaaGreatDoorB30
import Derived.RangeFuncNested
import Derived.RangeFuncBound
import Derived.RangeFuncCalls
import Derived.RangeFuncLeaves
import Derived.Shelf.Abstract
import Derived.OwnWalkIn
import Derived.TacticsInMore
import Derived.LoopNIn
import Derived.LoopIn
namespace Go.Proofs.YtnnpoodcdibpiaaGreatDoor
open Go.RowKit Go.Shelf
set_option maxRecDepth 100000
set_option maxHeartbeats 8000000
def FrX.wholeB(f:FrX):Bool:=wholeI f.W0 f.H0 f.n0 f.W1 f.H1 f.n1 f.W2 f.H2 f.n2
def FrX.likeB(f0 f:FrX):Bool:=f.wholeB&&(decide (f.W0=f0.W0)&&decide (f.H0=f0.H0))
def clipsB(fs:List FrX)(n:Nat):Bool:=(List.range n).all fun i=>FrX.likeB (fs.getD 0 FrX.zero) (fs.getD i FrX.zero)
def clipB(fs:List FrX):Bool:=decide (1<=fs.length/\fs.length<=1024)&&clipsB fs fs.length
theorem clipsB_succ(fs:List FrX)(n:Nat):clipsB fs (n+1)=(clipsB fs n&&FrX.likeB (fs.getD 0 FrX.zero) (fs.getD n FrX.zero)):=by
 unfold clipsB;rw [List.range_succ,List.all_append,List.all_cons,List.all_nil,Bool.and_true]
theorem clipsB_no{fs:List FrX}{n m:Nat}(hn:n<=m)(h0:clipsB fs n=false):clipsB fs m=false:=by
 induction m with
 | zero=>
  obtain rfl:n=0:=by omega
  exact h0
 | succ m ih=>
  by_cases hm:n=m+1
  ·rw [<-hm];exact h0
  ·rw [clipsB_succ,ih (by omega),Bool.false_and]
theorem clipB_no{fs:List FrX}{k:Nat}(hk:k<fs.length)(h:FrX.likeB (fs.getD 0 FrX.zero) (fs.getD k FrX.zero)=false):clipB fs=false:=by
 unfold clipB;rw [clipsB_no (n:=k+1) (by omega) (by rw [clipsB_succ,h,Bool.and_false]),Bool.and_false]
theorem clipB_len{fs:List FrX}(h:¬(1<=fs.length/\fs.length<=1024)):clipB fs=false:=by
 unfold clipB;rw [decide_eq_false h,Bool.false_and]
theorem clipsB_at{fs:List FrX}{n i:Nat}(h:clipsB fs n=true)(hi:i<n):FrX.likeB (fs.getD 0 FrX.zero) (fs.getD i FrX.zero)=true:=by
 unfold clipsB at h;rw [List.all_eq_true]at h;exact h i (List.mem_range.2 hi)
def clipRel(w:World)(fs:List FrX)(n:Nat)(v:Value)(wr:World):Prop:=∃k:Nat,k<=n/\v=.int .i64 (k:Int)/\clipsB fs k=true/\Mod (fun _=>False) w wr
theorem lRightClip(w:World)(A:Option Addr)(n c:Nat)(fs:List FrX)(h:FrsIn w A n fs)(hn:n<=9223372036854775807):Calls Tryz.prog 70 #[.slice A n c] w fun e w'=>e=.returned (.bool (clipB fs))/\Mod (fun _=>False) w w':=by
 have hlen:=h.len;have HH:=Lib.hid h;clear h;by_cases h1:n<1
 ·have d1:decide ((n:Int)<1)=true:=decide_eq_true (by omega);have HR:=Lib.hid (clipB_len (fs:=fs) (by omega));clear hlen;go_enter Tryz.func70,Tryz.ntmps70;go_wp2_with fail;go_ret;exact⟨by rw [HR.out];rfl,Mod.refl _ _⟩
 have d1:decide ((n:Int)<1)=false:=decide_eq_false (by omega);by_cases h2:1024<n
 ·have d2:decide (1024<(n:Int))=true:=decide_eq_true (by omega);have HR:=Lib.hid (clipB_len (fs:=fs) (by omega));clear hlen;go_enter Tryz.func70,Tryz.ntmps70;go_wp2_with fail;go_ret;exact⟨by rw [HR.out];rfl,Mod.refl _ _⟩
 have d2:decide (1024<(n:Int))=false:=decide_eq_false (by omega);have HLE:=Lib.hid hlen;clear hlen;go_enter Tryz.func70,Tryz.ntmps70;go_wp2_with fail;go_loopw [15] (clipRel w fs n) (fun i _=>n-(intOf i).toNat)
 case atStart=>exact⟨0,by omega,rfl,rfl,Mod.refl _ _⟩
 case round=>
  rename World=>wr
  obtain⟨k,hk,rfl,hok,hM⟩:=hrel;by_cases hlt:k<n
  ·obtain⟨b,o,hA,hb,hcells,hin⟩:=(HH.out.quiet hM).at_ k hlt;subst hA;obtain⟨b',o',hA',hb',hcell0,_⟩:=(HH.out.quiet hM).at_ 0 (by omega);injection hA' with hA';injection hA' with e1' e2';subst e1' e2';have d3:decide ((k:Int)<(n:Int))=true:=decide_eq_true (by omega);have hn0:0<n:=by omega
   obtain⟨f,hf⟩:∃f,f=fs.getD k FrX.zero:=⟨_,rfl⟩
   obtain⟨f0,hf0⟩:∃f,f=fs.getD 0 FrX.zero:=⟨_,rfl⟩
   rw [<-hf]at hcells hin;rw [<-hf0]at hcell0;have k0:wr.cell? ⟨b,o+k*9,none⟩=some (.int .i64 f.W0):=hcells 0 _ rfl;have k1:=hcells 1 _ rfl;have k2:=hcells 2 _ rfl;have k3:=hcells 3 _ rfl;have k4:=hcells 4 _ rfl;have k5:=hcells 5 _ rfl;have k6:=hcells 6 _ rfl;have k7:=hcells 7 _ rfl;have k8:=hcells 8 _ rfl;have z0:wr.cell? ⟨b,o,none⟩=some (.int .i64 f0.W0):=by have:=hcell0 0 _ rfl;simpa using this
   have z1:wr.cell? ⟨b,o+1,none⟩=some (.int .i64 f0.H0):=by have:=hcell0 1 _ rfl;simpa using this
   have hbx:=Blk.new wr 110 f.cells.toArray;have HB:=Lib.hid (And.intro hbx (And.intro hb (And.intro z0 (And.intro z1 (And.intro hok (And.intro hM (And.intro hf hf0)))))));clear hcells hcell0 hin hb hb' hok hM hf hf0 z0 z1 hbx;go_upto_region 6 with(fail)
   clear k0 k1 k2 k3 k4 k5 k6 k7 k8;obtain⟨fb,hfb⟩:∃b,b=wr.heap.size:=⟨_,rfl⟩
   have hbx:=HB.out.1;unfold FrX.cells at hbx;have hma:Mod (fun _=>False) wr (wr.alloc (.cells #[.int .i64 f.W0,.int .i64 f.H0,.slice f.A0 f.n0 f.c0,.int .i64 f.W1,.int .i64 f.H1,.slice f.A1 f.n1 f.c1,.int .i64 f.W2,.int .i64 f.H2,.slice f.A2 f.n2 f.c2] 110)):=(Mod.refl _ wr).alloc _;rw [<-hfb]at hbx ⊢;have HX:=Lib.hid (And.intro hbx hma);clear hbx hma hfb;generalize wr.alloc (.cells #[.int .i64 f.W0,.int .i64 f.H0,.slice f.A0 f.n0 f.c0,.int .i64 f.W1,.int .i64 f.H1,.slice f.A1 f.n1 f.c1,.int .i64 f.W2,.int .i64 f.H2,.slice f.A2 f.n2 f.c2] 110)=w1 at *;have fbx:=(HX.out.1).drew;obtain⟨fc,ff⟩:=fbx.both;have HM1:=Lib.hid (HB.out.2.2.2.2.2.1.trans HX.out.2).drew;cases hw:f.wholeB with
   | false=>
    have HR:=Lib.hid (clipB_no (fs:=fs) (k:=k) (by rw [HLE.out];omega) (by rw [<-HB.out.2.2.2.2.2.2.1,<-HB.out.2.2.2.2.2.2.2];unfold FrX.likeB;rw [hw,Bool.false_and]));have HW:=Lib.hid hw;clear hw fbx;refine wp_region_planS [1] [] [0,1,2,3,4,5,6,7,8,9,10,11,12,13,14,15,16,17,18,19,20,21,22,23,24] (fun _=>True) (by kernel_rfl) (by kernel_rfl) (fun _ _ _ d _ h=>by cases d<;>exact h) trivial ?_;refine planS_still rfl rfl (fun K hK=>?_);go_simp;refine hK _ ?_;clear hK K;refine planS_loud rfl rfl (fun K hK=>?_);go_simp;refine(pWholeI _ f.W0 f.H0 f.W1 f.H1 f.W2 f.H2 f.A0 f.A1 f.A2 f.n0 f.c0 f.n1 f.c1 f.n2 f.c2).mono ?_;rintro e w2 ⟨rfl,hm2⟩;have hwv:wholeI f.W0 f.H0 f.n0 f.W1 f.H1 f.n1 f.W2 f.H2 f.n2=false:=HW.out;rw [hwv];have H2:=Lib.hid (HM1.out.trans hm2);clear hm2 hwv fc ff;dsimp only [];refine hK _ _ trivial ?_;clear hK K
    (iterate 23 (refine planS_still rfl rfl (fun K hK=>?_);go_simp;refine hK _ ?_;clear hK K));refine planS_done ?_;go_wp2_with fail
    go_ret;exact⟨by rw [HR.out];rfl,H2.out⟩
   | true=>
    have HW:=Lib.hid hw;clear hw fbx;by_cases hW:f.W0=f0.W0
    ·by_cases hH:f.H0=f0.H0
     ·have n1:(f.W0 != f0.W0)=false:=by simpa using hW
      have n2:(f.H0 != f0.H0)=false:=by simpa using hH
      have HL:=Lib.hid (show FrX.likeB f0 f=true by unfold FrX.likeB;rw [HW.out,decide_eq_true hW,decide_eq_true hH];rfl);clear hW hH;refine wp_region_planS [1] [] [0,1,2,3,4,5,6,7,8,9,10,11,12,13,14,15,16,17,18,19,20,21,22,23,24] (fun _=>True) (by kernel_rfl) (by kernel_rfl) (fun _ _ _ d _ h=>by cases d<;>exact h) trivial ?_;refine planS_still rfl rfl (fun K hK=>?_);go_simp;refine hK _ ?_;clear hK K;refine planS_loud rfl rfl (fun K hK=>?_);go_simp;refine(pWholeI _ f.W0 f.H0 f.W1 f.H1 f.W2 f.H2 f.A0 f.A1 f.A2 f.n0 f.c0 f.n1 f.c1 f.n2 f.c2).mono ?_;rintro e w2 ⟨rfl,hm2⟩;have hwv:wholeI f.W0 f.H0 f.n0 f.W1 f.H1 f.n1 f.W2 f.H2 f.n2=true:=HW.out;rw [hwv];have hq:=(HX.out.1.drew).keep hm2 (fun h=>h);have hm12:=HX.out.2.trans ((Mod.refl (fun _=>False) w1).drew.trans hm2);have H2:=Lib.hid (HM1.out.trans hm2);clear fc ff;obtain⟨fc,ff⟩:=hq.both;have z0:w2.cell? ⟨b,o,none⟩=some (.int .i64 f0.W0):=(cellqL hm12 HB.out.2.1).trans HB.out.2.2.1;have z1:w2.cell? ⟨b,o+1,none⟩=some (.int .i64 f0.H0):=(cellqL hm12 HB.out.2.1).trans HB.out.2.2.2.1;clear hm2 hwv hq hm12;dsimp only [];refine hK _ _ trivial ?_;clear hK K
      (iterate 23 (refine planS_still rfl rfl (fun K hK=>?_);go_simp;refine hK _ ?_;clear hK K));refine planS_done ?_;go_wp2_with fail
      go_roundw
      case rel=>exact⟨k+1,by omega,by go_num,by rw [clipsB_succ,HB.out.2.2.2.2.1,<-HB.out.2.2.2.2.2.2.1,<-HB.out.2.2.2.2.2.2.2,HL.out];rfl,H2.out⟩
      case measure=>simp [intOf];omega
     ·have n1:(f.W0 != f0.W0)=false:=by simpa using hW
      have n2:(f.H0 != f0.H0)=true:=by simpa using hH
      have HR:=Lib.hid (clipB_no (fs:=fs) (k:=k) (by rw [HLE.out];omega) (by rw [<-HB.out.2.2.2.2.2.2.1,<-HB.out.2.2.2.2.2.2.2];unfold FrX.likeB;rw [decide_eq_false hH,Bool.and_false,Bool.and_false]));clear hW hH;refine wp_region_planS [1] [] [0,1,2,3,4,5,6,7,8,9,10,11,12,13,14,15,16,17,18,19,20,21,22,23,24] (fun _=>True) (by kernel_rfl) (by kernel_rfl) (fun _ _ _ d _ h=>by cases d<;>exact h) trivial ?_;refine planS_still rfl rfl (fun K hK=>?_);go_simp;refine hK _ ?_;clear hK K;refine planS_loud rfl rfl (fun K hK=>?_);go_simp;refine(pWholeI _ f.W0 f.H0 f.W1 f.H1 f.W2 f.H2 f.A0 f.A1 f.A2 f.n0 f.c0 f.n1 f.c1 f.n2 f.c2).mono ?_;rintro e w2 ⟨rfl,hm2⟩;have hwv:wholeI f.W0 f.H0 f.n0 f.W1 f.H1 f.n1 f.W2 f.H2 f.n2=true:=HW.out;rw [hwv];have hq:=(HX.out.1.drew).keep hm2 (fun h=>h);have hm12:=HX.out.2.trans ((Mod.refl (fun _=>False) w1).drew.trans hm2);have H2:=Lib.hid (HM1.out.trans hm2);clear fc ff;obtain⟨fc,ff⟩:=hq.both;have z0:w2.cell? ⟨b,o,none⟩=some (.int .i64 f0.W0):=(cellqL hm12 HB.out.2.1).trans HB.out.2.2.1;have z1:w2.cell? ⟨b,o+1,none⟩=some (.int .i64 f0.H0):=(cellqL hm12 HB.out.2.1).trans HB.out.2.2.2.1;clear hm2 hwv hq hm12;dsimp only [];refine hK _ _ trivial ?_;clear hK K
      (iterate 23 (refine planS_still rfl rfl (fun K hK=>?_);go_simp;refine hK _ ?_;clear hK K));refine planS_done ?_;go_wp2_with fail
      go_ret;exact⟨by rw [HR.out];rfl,H2.out⟩
    ·have n1:(f.W0 != f0.W0)=true:=by simpa using hW
     have HR:=Lib.hid (clipB_no (fs:=fs) (k:=k) (by rw [HLE.out];omega) (by rw [<-HB.out.2.2.2.2.2.2.1,<-HB.out.2.2.2.2.2.2.2];unfold FrX.likeB;rw [decide_eq_false hW,Bool.false_and,Bool.and_false]));clear hW;refine wp_region_planS [1] [] [0,1,2,3,4,5,6,7,8,9,10,11,12,13,14,15,16,17,18,19,20,21,22,23,24] (fun _=>True) (by kernel_rfl) (by kernel_rfl) (fun _ _ _ d _ h=>by cases d<;>exact h) trivial ?_;refine planS_still rfl rfl (fun K hK=>?_);go_simp;refine hK _ ?_;clear hK K;refine planS_loud rfl rfl (fun K hK=>?_);go_simp;refine(pWholeI _ f.W0 f.H0 f.W1 f.H1 f.W2 f.H2 f.A0 f.A1 f.A2 f.n0 f.c0 f.n1 f.c1 f.n2 f.c2).mono ?_;rintro e w2 ⟨rfl,hm2⟩;have hwv:wholeI f.W0 f.H0 f.n0 f.W1 f.H1 f.n1 f.W2 f.H2 f.n2=true:=HW.out;rw [hwv];have hq:=(HX.out.1.drew).keep hm2 (fun h=>h);have hm12:=HX.out.2.trans ((Mod.refl (fun _=>False) w1).drew.trans hm2);have H2:=Lib.hid (HM1.out.trans hm2);clear fc ff;obtain⟨fc,ff⟩:=hq.both;have z0:w2.cell? ⟨b,o,none⟩=some (.int .i64 f0.W0):=(cellqL hm12 HB.out.2.1).trans HB.out.2.2.1;have z1:w2.cell? ⟨b,o+1,none⟩=some (.int .i64 f0.H0):=(cellqL hm12 HB.out.2.1).trans HB.out.2.2.2.1;clear hm2 hwv hq hm12;dsimp only [];refine hK _ _ trivial ?_;clear hK K
     (iterate 23 (refine planS_still rfl rfl (fun K hK=>?_);go_simp;refine hK _ ?_;clear hK K));refine planS_done ?_;go_wp2_with fail
     go_ret;exact⟨by rw [HR.out];rfl,H2.out⟩
  ·obtain rfl:k=n:=by omega
   have d3:decide ((k:Int)<(k:Int))=false:=decide_eq_false (by omega);have HR:Hid (clipB fs=true):=by show _=_;unfold clipB;rw [HLE.out,hok,Bool.and_true];exact decide_eq_true ⟨by omega,by omega⟩
   have H1:=Lib.hid hM;clear hok hM;go_wp2_with fail;go_ret;exact⟨by rw [HR.out];rfl,H1.out⟩
def bodyD(B:Nat)(Kp:World->World->Prop)(I X:World->Prop)(W:World):Exit->Act->World->Prop
 | .normal,_,W'=>KeepsFrom B W W'/\Kp W W'/\I W'
 | .ret,_,W'=>KeepsFrom B W W'/\X W'
 | _,_,_=>False
def IterD{α:Type}(E:World->Prop)(P:Program)(n gf:Nat)(lb:Array Value)(encs:α->Array Value)(sb:Nat)(Kp:World->World->Prop)(G S:List α->Prop)(w:World):Prop:=
 ∀(l:Nat) (J:List α->World->Prop) (Jx:World->Prop) (W:World),Below w.heap.size w W->(∀s W,J s W->E W)->(∀s W W',J s W->Mod (fun _=>False) W W'->J s W')->(∀s W v,J s W->J s (W.setCell ⟨sb,0,none⟩ v)) ->
  (∀pre x W1,J pre W1->G (pre++[x])->YieldAt Fence.wide (n-1) P l (encs x) W1 fun e W'=>(e=.returned (.bool true)/\J (pre++[x]) W'/\Kp W1 W')\/(e=.returned (.bool false)/\Jx W')) ->
  J [] W->CallsIn Fence.wide n P gf (#[.func (.yield l) #[] #[]]++lb) W fun e W'=>(∃v,e=.returned v)/\((∃xs,S xs/\J xs W')\/Jx W')
theorem own_putD{I:World->Prop}{B:Nat}(hI:OwnFrom B fun(_:Unit) W=>I W){W:World}{l:Nat}{o:Obj}(o':Obj)(h:I W)(hB:B<=l)(hl:W.heap[l]?=some o)(ho:o.isCells=false):I (W.putObj l o'):=OwnFrom.putObj (s:=()) hI o' h hB hl ho
theorem wpIn_rangeD{α:Type}{E:World->Prop}{P:Program}{n:Nat}{g:Operand}{ps:Array Tmp}{assign body:Code}{Q:Exit->Act->World->Prop}{a:Act}{w:World}
  (h1:1<=n){gf:Nat}{lb:Array Value}(hg:a.eval g=.func (.func gf) #[] lb)(eg:∀args w,(callFunc gf args).run P w=.ok (.enter gf args) w)
  {encs:α->Array Value}(hps:∀x,(encs x).size=ps.size){sb:Nat}{Kp:World->World->Prop}{G S:List α->Prop}(hit:IterD E P (n-1) gf lb encs sb Kp G S w)(hsb:sb<w.heap.size)
  (hKt:∀ {A B C:World},Kp A B->Kp B C->Kp A C)(hKb:∀(W:World) (l:Nat) (o:Obj),w.heap.size<=l->Kp W (W.putObj l o))
  (I:List α->World->Prop)(X:World->Prop)(hI:OwnFrom w.heap.size I)(hX:OwnFrom w.heap.size fun(_:Unit) W=>X W)(hIE:∀s W,I s W->E W)(hIq:∀s W W',I s W->Mod (fun _=>False) W W'->I s W')(hIs:∀s W v,I s W->I s (W.setCell ⟨sb,0,none⟩ v))(h0:I [] w)(a₁:α->Act)
  (hassign:∀(l:Nat) (x:α) (W:World) (K:Act->World->Prop),K (a₁ x) W ->
   assign.wpIn (Fence.wide.inRound l) (n-1-1) P (Exit.then K (fun _ _ _=>False)) { tmps:=(ps.zip (encs x)).foldl (fun t (p,v)=>t.setIfInBounds p v) a.tmps,defers:=[] } W)
  (hbody:∀(l:Nat) (pre:List α) (x:α) (W:World),I pre W->G (pre++[x])->body.wpIn (Fence.wide.inRound l) (n-1-1) P (bodyD w.heap.size Kp (I (pre++[x])) X W) (a₁ x) W)
  (hdone:∀(D:Nat) (xs:List α) (W:World),w.heap.size<=D->S xs->I xs W->W.heap[D]?=some (.deferred (some []))->Q .normal { a with defers:={ target:=.collected D,args:=#[] } :: a.defers } W)
  (hstop:∀(D:Nat) (W:World),w.heap.size<=D->X W->W.heap[D]?=some (.deferred (some []))->Code.ret.wpIn Fence.wide n P Q { a with defers:={ target:=.collected D,args:=#[] } :: a.defers } W):
  (Code.rangeFunc g ps assign body).wpIn Fence.wide n P Q a w:=by
 refine wpIn_rangeFunc (fun fn hfn=>?_);generalize hrec:(fun(st:LoopState) (pe:Option Code)=>({ state:=st,pending:=pe,fn,tmps:=a.tmps,params:=ps,assign,body,defers:=w.heap.size }:Loop))=rec;have hst:∀st pe,(rec st pe).state=st:=fun st pe=>by rw [<-hrec]
 generalize hW1:(w.alloc (.deferred (some []))).alloc (.loop (rec .ready none))=W1;have hL1:W1.heap[w.heap.size+1]?=some (.loop (rec .ready none)):=by
  have:=World.alloc_heap_new (w.alloc (.deferred (some []))) (.loop (rec .ready none));rw [World.size_alloc,hW1]at this;exact this
 have hK1:W1.heap[w.heap.size]?=some (.deferred (some [])):=by
  rw [<-hW1];exact(Below.heap_alloc _ _ _ (by simp)).trans (World.alloc_heap_new w _)
 have hI1:I [] W1:=by
  rw [<-hW1];exact hI.alloc _ (hI.alloc _ h0)
 have hB1:Below w.heap.size w W1:=by
  rw [<-hW1];exact((Below.refl _ w).alloc (Nat.le_refl _) _).alloc (by simp) _
 refine⟨w.heap.size+1,[{ target:=.collected w.heap.size,args:=#[] }],W1,{ target:=.fn (.func gf) lb,args:=#[.func (.yield (w.heap.size+1)) #[] #[]] },W1,gf,
  #[.func (.yield (w.heap.size+1)) #[] #[]]++lb,W1,?_,?_,fun _ _=>trivial,?_,fun _=>h1,?_⟩
 ·rw [<-hW1,<-hrec];exact run_enterLoop_outer _ _ _ _ _
 ·simp only [resolve,hg];simp [go_sem]
 ·simp [invoke,go_sem,eg]
 ·have put:∀ {W:World} {o:Obj} (o':Obj),W.heap[w.heap.size+1]?=some o->(W.putObj (w.heap.size+1) o').heap[w.heap.size+1]?=some o':=fun o' h=>World.putObj_heap_same (Array.getElem?_eq_some_iff.1 h).1;have other:∀ {W:World} (o':Obj),W.heap[w.heap.size]?=some (.deferred (some []))->(W.putObj (w.heap.size+1) o').heap[w.heap.size]?=some (.deferred (some [])):=fun o' h=>(World.putObj_heap_other (by omega)).trans h;have cell:∀ {W:World} (k:Nat) (v:Value),w.heap.size<=k->(W.setCell ⟨sb,0,none⟩ v).heap[k]?=W.heap[k]?:=fun k v hk=>Below.heap_setCell _ ⟨sb,0,none⟩ v k (by simp only;omega)
  refine(hit (w.heap.size+1)
   (fun pre W=>I pre W/\W.heap[w.heap.size+1]?=some (.loop (rec .ready none))/\W.heap[w.heap.size]?=some (.deferred (some [])))
   (fun W=>X W/\W.heap[w.heap.size+1]?=some (.loop (rec .done (some .ret)))/\W.heap[w.heap.size]?=some (.deferred (some [])))
   W1 hB1 (fun s W h=>hIE s W h.1) (fun s W W' h hm=>⟨hIq s W W' h.1 hm,(hm.block _ (Array.getElem?_eq_some_iff.1 h.2.1).1 (fun h=>h)).trans h.2.1,(hm.block _ (Array.getElem?_eq_some_iff.1 h.2.2).1 (fun h=>h)).trans h.2.2⟩) (fun s W v h=>⟨hIs s W v h.1,(cell _ v (by omega)).trans h.2.1,(cell _ v (Nat.le_refl _)).trans h.2.2⟩) ?_ ⟨hI1,hL1,hK1⟩).mono ?_
  ·rintro pre x W ⟨hi,hl,hk⟩ hGx;have hy:=run_yield (P:=P) (args:=encs x) hl (by rw [<-hrec];exact hps x);rw [<-hrec]at hy;refine⟨fn,_,assign,body,hy,roundIn_of_wpIn hfn (hassign _ x W _ ⟨_,run_beginRound hl (hst _ _),?_⟩)⟩;generalize hbz:({ rec .ready none with state:=.busy }:Loop)=bz;have hbr:bz=rec .busy none:=by rw [<-hbz,<-hrec]
   have hl2:=put (.loop bz) hl;have hk2:=other (.loop bz) hk;refine wpIn_mono (hbody _ pre x _ (hI.putObj _ hi (by omega) hl rfl) hGx) ?_
   have fin:∀(jump:Option Code) (W3:World),KeepsFrom w.heap.size (W.putObj (w.heap.size+1) (.loop bz)) W3 ->
     (Instr.endRound (w.heap.size+1) jump).run P W3=.ok (.bool jump.isNone) (W3.putObj (w.heap.size+1) (.loop (rec (if jump.isNone then .ready else .done) jump)))/\W3.heap[w.heap.size+1]?=some (.loop bz)/\W3.heap[w.heap.size]?=some (.deferred (some [])):=fun jump W3 hk3=>by
    have hl3:=hk3.same _ _ (by omega) hl2 rfl;have hr:=run_endRound (P:=P) jump hl3;rw [hbr,<-hrec]at hr;exact⟨by rw [<-hrec];exact hr,hl3,hk3.same _ _ (Nat.le_refl _) hk2 rfl⟩
   rintro e a3 W3 hp;cases e with
   | normal=>
    obtain⟨hk3,hkp,hi3⟩:=hp;obtain⟨hr,hl3,hd3⟩:=fin none W3 hk3;exact⟨_,_,hr,.inl ⟨rfl,⟨hI.putObj _ hi3 (by omega) hl3 rfl,put _ hl3,other _ hd3⟩,hKt (hKb _ _ _ (by omega)) (hKt hkp (hKb _ _ _ (by omega)))⟩⟩
   | ret=>
    obtain⟨hk3,hx3⟩:=hp;obtain⟨hr,hl3,hd3⟩:=fin (some .ret) W3 hk3;exact⟨_,_,hr,.inr ⟨rfl,own_putD hX _ hx3 (by omega) hl3 rfl,put _ hl3,other _ hd3⟩⟩
   | exit id=>exact hp.elim
   | goto t=>exact hp.elim
   | panic ch=>exact hp.elim
   | outgrown=>exact hp.elim
  ·rintro e W2 ⟨⟨v,rfl⟩,h⟩;rcases h with⟨xs,hS,hi,hl,hk⟩|⟨hx,hl,hk⟩
   ·have hr:=run_endLoop (P:=P) hl (by rw [hst];simp);rw [<-hrec]at hr;exact⟨none,_,hr,hdone _ xs _ (Nat.le_refl _) hS (hI.putObj _ hi (by omega) hl rfl) (other _ hk)⟩
   ·have hr:=run_endLoop (P:=P) hl (by rw [hst];simp);rw [<-hrec]at hr;exact⟨some .ret,_,hr,hstop _ _ (Nat.le_refl _) (own_putD hX _ hx (by omega) hl rfl) (other _ hk)⟩
structure SameC(w w':World):Prop where
 size:w.heap.size<=w'.heap.size
 same:∀(k:Nat) (o:Obj),w.heap[k]?=some o->o.isCells=true->w'.heap[k]?=some o
theorem SameC.refl(w:World):SameC w w:=⟨Nat.le_refl _,fun _ _ h _=>h⟩
theorem SameC.trans{a b c:World}(h:SameC a b)(k:SameC b c):SameC a c:=⟨Nat.le_trans h.size k.size,fun i o ho hc=>k.same i o (h.same i o ho hc) hc⟩
theorem SameC.of_quiet{w w':World}(h:Mod (fun _=>False) w w'):SameC w w':=⟨h.size,fun k _ ho _=>(h.block k (Array.getElem?_eq_some_iff.1 ho).1 (fun h=>h)).trans ho⟩
theorem SameC.of_grown{w w':World}{row:Option Nat}(h:w.grownBy w' row)(hr:∀r,row=some r->∃o:Obj,w.heap[r]?=some o/\o.isCells=false):SameC w w':=by
 have hm:=(Mod.refl (fun i=>row=some i) w).grown h (fun k hk=>.inl hk);refine⟨hm.size,fun k o ho hc=>(hm.block k (Array.getElem?_eq_some_iff.1 ho).1 (fun e=>?_)).trans ho⟩;obtain⟨o',ho',hc'⟩:=hr k e;rw [ho]at ho';injection ho' with ho';subst ho';rw [hc]at hc';cases hc'
theorem SameC.cell{w w':World}(h:SameC w w'){p:Addr}{v:Value}(hc:w.cell? p=some v):w'.cell? p=some v:=by
 have hb:=World.block_lt_of_cell? w p hc;have ho:w.heap[p.block]?=some w.heap[p.block]:=Array.getElem?_eq_getElem hb;cases hk:w.heap[p.block]with
 | cells cs t q=>
  rw [hk]at ho;exact(World.cell?_of_block ((h.same _ _ ho rfl).trans ho.symm)).trans hc
 | _=>(unfold World.cell? at hc;simp [ho,hk]at hc)
theorem Blk.sc{w w':World}{g:Nat}{t:TypeId}{cs:Array Value}(hb:Blk w g t cs)(h:SameC w w'):Blk w' g t cs:=h.same g _ hb rfl
theorem own_sc{w w':World}{B:Nat}{e:TypeId}{size n:Nat}{v:Value}{xs:List Value}(h:w.ownsRow B e size v n xs)(hs:SameC w w'):w'.ownsRow B e size v n xs:=by
 refine⟨h.1,?_⟩;rcases h.2 with hn|⟨g,cap,cur,rfl,hb,hgg,rest⟩
 ·exact .inl hn
 ·exact .inr ⟨g,cap,cur,rfl,hb,Blk.sc (cs:=cur) hgg hs,rest⟩
theorem RowIn.sc{w w':World}{F:Nat->Prop}{size n:Nat}{v:Value}{xs:List Value}(h:RowIn w F size v n xs)(hs:SameC w w'):RowIn w' F size v n xs:=by
 obtain⟨A,c,h1,h2,h3,h4,h5⟩:=h.ex;exact⟨A,c,h1,h2,h3,⟨h4.1,h4.2.1,fun ad e j u hu=>hs.cell (h4.2.2 ad e j u hu)⟩,fun ad e h0=>⟨Nat.lt_of_lt_of_le (h5 ad e h0).1 hs.size,(h5 ad e h0).2⟩⟩
section
variable {w w' : World} {F : Nat → Prop} {d : Dim}
theorem SampR.sc{b:List UInt8}{c:List Value}(h:SampR w F b c)(hs:SameC w w'):SampR w' F b c:=by
 obtain⟨v,rfl,h⟩:=h;exact⟨v,rfl,RowIn.sc h hs⟩
theorem FrameF.sc{f:Pix}{c:List Value}(h:FrameF w F d f c)(hs:SameC w w'):FrameF w' F d f c:=by
 obtain⟨v0,v1,v2,h0,h1,h2,h3⟩:=h.ex;exact⟨v0,v1,v2,h0,h1.sc hs,h2.sc hs,h3.sc hs⟩
theorem ListIn.sc{α:Type}{size:Nat}{R R':α->List Value->Prop}{v:Value}{l:List α}(h:ListIn w F size R v l)(hs:SameC w w')(hR:∀x∈l,∀c,R x c->R' x c):ListIn w' F size R' v l:=by
 obtain⟨xs,h1,h2⟩:=h;exact⟨xs,h1.sc hs,h2.mono hR⟩
theorem ListOwn.sc{α:Type}{B:Nat}{e:TypeId}{size:Nat}{R R':α->List Value->Prop}{v:Value}{l:List α}(h:ListOwn w B e size R v l)(hs:SameC w w')(hR:∀x∈l,∀c,R x c->R' x c):ListOwn w' B e size R' v l:=by
 obtain⟨xs,h1,h2⟩:=h;exact⟨xs,own_sc h1 hs,h2.mono hR⟩
theorem SegR.sc{s:List (List UInt8 × Pix)}{c:List Value}(h:SegR w F d s c)(hs:SameC w w'):SegR w' F d s c:=by
 obtain⟨sv,fv,h0,h1,h2⟩:=h;exact⟨sv,fv,h0,h1.sc hs (fun _ _ _ k=>k.sc hs),h2.sc hs (fun _ _ _ k=>k.sc hs)⟩
theorem FrameAt.sc{gy gu gv:Nat}{f:Pix}(h:FrameAt w d gy gu gv f)(hs:SameC w w'):FrameAt w' d gy gu gv f:=
 ⟨h.by_.sc hs,h.bu.sc hs,h.bv.sc hs,h.ly,h.lu,h.lv,h.yu,h.yv,h.uv⟩
theorem EncAt.sc{g:Nat}{G q tg nu:Nat}{ahd:Pix}(h:EncAt w g d G q tg nu ahd)(hs:SameC w w'):EncAt w' g d G q tg nu ahd:=by
 obtain⟨al,hb,hc⟩:=h;refine⟨al,hb.sc hs,?_⟩;rcases hc with hc|⟨ay,au,av,rfl,hf⟩
 ·exact .inl hc
 ·exact .inr ⟨ay,au,av,rfl,fun hn=>(hf hn).sc hs⟩
end
attribute [local go_sem] Oper.semAt_some
theorem segN_lt{G n i:Nat}(hG:1<=G):i<segN G n ↔ i*G<n:=by
 unfold segN;rw [show i<(n+G-1)/G ↔ (i+1)*G<=n+G-1 from Nat.le_div_iff_mul_le (by omega),Nat.add_mul];omega
def segV(b o c G n i:Nat):Value:=.slice (some ⟨b,o+i*G*9,none⟩) (segLen G n i) (c-i*G)
def Keep2(a b:Nat)(W W':World):Prop:=W'.heap[a]?=W.heap[a]?/\W'.heap[b]?=W.heap[b]?
theorem Keep2.trans{a b:Nat}{A B C:World}(h:Keep2 a b A B)(k:Keep2 a b B C):Keep2 a b A C:=⟨k.1.trans h.1,k.2.trans h.2⟩
theorem Keep2.put{a b:Nat}{W:World}{l:Nat}{o:Obj}(ha:a≠l)(hb:b≠l):Keep2 a b W (W.putObj l o):=⟨World.putObj_heap_other ha,World.putObj_heap_other hb⟩
def sliceLen(sb:Nat)(w:World):Nat:=match w.cell? ⟨sb,0,none⟩with
 | some (.slice _ n _)=>n
 | _=>0
def SgRel(b o c G n sb gb:Nat)(J:List Nat->World->Prop)(wr:World):Prop:=
 ∃(i R C:Nat) (A:Option Addr),R=n-i*G/\i<=segN G n/\Blk wr sb 52 #[.slice A R C]/\(0<R->A=some ⟨b,o+i*G*9,none⟩/\C=c-i*G)/\Blk wr gb 3 #[.int .i64 (G:Int)]/\J (List.range i) wr
theorem sg_step{b o c G n sb gb i R C N:Nat}{J:List Nat->World->Prop}{wr w3:World}{A:Option Addr}(hG:1<=G)(hn:n<=c)(hR:R=n-i*G)(h0:0<R)(hC:C=c-i*G)(hN:(G<=R/\N=G)\/(R<G/\N=R))(hi:i<segN G n)(hne:sb≠gb)(hw:Blk wr sb 52 #[.slice A R C])
  (hb:Blk w3 sb 52 #[.slice A R C])(hg:Blk w3 gb 3 #[.int .i64 (G:Int)])(hJs:∀(s:List Nat) (W:World) (v:Value),J s W->J s (W.setCell ⟨sb,0,none⟩ v))(hJ:J (List.range i++[i]) w3):
  SgRel b o c G n sb gb J (w3.setCell ⟨sb,0,none⟩ (.slice (if C=N then some ⟨b,o+i*G*9,none⟩else some ⟨b,o+i*G*9+N*9,none⟩) (R-N) (C-N))) /\
  sliceLen sb (w3.setCell ⟨sb,0,none⟩ (.slice (if C=N then some ⟨b,o+i*G*9,none⟩else some ⟨b,o+i*G*9+N*9,none⟩) (R-N) (C-N)))<sliceLen sb wr:=by
 have e1:(i+1)*G=i*G+G:=by rw [Nat.add_mul];omega
 have hput:Blk (w3.setCell ⟨sb,0,none⟩ (.slice (if C=N then some ⟨b,o+i*G*9,none⟩else some ⟨b,o+i*G*9+N*9,none⟩) (R-N) (C-N))) sb 52 #[.slice (if C=N then some ⟨b,o+i*G*9,none⟩else some ⟨b,o+i*G*9+N*9,none⟩) (R-N) (C-N)]:=hb.put rfl;refine⟨⟨i+1,R-N,C-N,_,by rw [e1];rcases hN with⟨h1,h2⟩|⟨h1,h2⟩<;>omega,hi,hput,fun h=>?_,hg.far (p:=⟨sb,0,none⟩) (Ne.symm hne) _,by rw [List.range_succ];exact hJs _ _ _ hJ⟩,?_⟩
 ·rcases hN with⟨h1,rfl⟩|⟨h1,rfl⟩
  ·rw [if_neg (by omega),e1,Nat.add_mul];exact⟨by rw [<-Nat.add_assoc],by omega⟩
  ·omega
 ·unfold sliceLen;rw [hput.cell 0,hw.cell 0];show R-N<R;rcases hN with⟨h1,rfl⟩|⟨h1,rfl⟩<;>omega
theorem segIter{E:World->Prop}(nf:Nat)(h1:1<=nf)(w:World)(b o n c G sb gb:Nat)(hG:1<=G/\G<=64)(hn:n<=c)(hc:c<=9223372036854775807)(hs:Blk w sb 52 #[.slice (some ⟨b,o,none⟩) n c])(hg:Blk w gb 3 #[.int .i64 (G:Int)])(hne:sb≠gb):
  IterD E Tryz.prog nf 177 #[.pointer (some ⟨sb,0,none⟩),.pointer (some ⟨gb,0,none⟩)] (fun i=>#[segV b o c G n i]) sb (Keep2 sb gb) (fun xs=>∃i,xs=List.range (i+1)/\i<segN G n) (fun xs=>xs=List.range (segN G n)) w:=by
 intro l J Jx W hW _ _ hJs hY h0;obtain⟨hG1,hG2⟩:=hG;have hs1:=hs.below hW hs.lt;have hg1:=hg.below hW hg.lt;refine callsIn_of_wp Tryz.func177 rfl trivial ?_ rfl;simp only [Tryz.ntmps177,List.size_toArray,List.length_cons,List.length_nil,Nat.reduceAdd,Nat.reduceSub,Array.replicate_succ,Array.replicate_zero,List.push_toArray,List.append_toArray,List.nil_append,List.cons_append];have HS:=Lib.hid (And.intro hs1 hg1);clear hs1 hg1 hs hg;gi_wp2_with fail
 gi_loopw [4] (fun _ wr=>SgRel b o c G n sb gb J wr) (fun _ wr=>sliceLen sb wr)
 case atStart=>exact⟨0,n,c,_,by omega,by omega,HS.out.1,fun _=>⟨by simp,by simp⟩,HS.out.2,h0⟩
 case round=>
  clear HS;obtain⟨i,R,C,A,hR,hi,hsb,hAC,hgb,hJ⟩:=hrel;have cs:=hsb.cell 0;have cg:=hgb.cell 0;have HK:=Lib.hid (And.intro hR (And.intro hsb (And.intro hgb (And.intro hJ hi))));clear hR hsb hgb hJ hi;by_cases h0R:0<R
  ·obtain⟨rfl,hC⟩:=hAC h0R;have d1:decide (0<(R:Int))=true:=decide_eq_true (by omega);have hiN:i<segN G n:=(segN_lt hG1).2 (by have:=HK.out.1;omega);have hRC:R<=C:=by have:=HK.out.1;omega
   have hCm:C<=9223372036854775807:=by omega
   have hrg:List.range i++[i]=List.range (i+1):=List.range_succ.symm;obtain⟨fn,tmps,assign,body,hy,hRo⟩:=hY (List.range i) i wr HK.out.2.2.2.1 ⟨i,hrg,hiN⟩;unfold segV at hy;rw [<-hC]at hy;have hcase:(G<=R/\segLen G n i=G)\/(R<G/\segLen G n i=R):=by unfold segLen;have:=HK.out.1;omega
   have HC:=Lib.hid (And.intro hC (And.intro hiN hrg));clear hC hAC hiN hrg;rcases hcase with⟨hle,he⟩|⟨hle,he⟩
   ·rw [he]at hy;have e1:decide ((G:Int)<=(R:Int))=true:=decide_eq_true (by omega);have e2:decide ((R:Int)<(G:Int))=false:=decide_eq_false (by omega);clear he;gi_wp2_with fail
    refine hRo.mono ?_;rintro e w3 (⟨rfl,hJ3,hk3⟩|⟨rfl,hJx3⟩)
    ·have hsb3:Blk w3 sb 52 #[.slice (some ⟨b,o+i*G*9,none⟩) R C]:=hk3.1.trans HK.out.2.1;have hgb3:Blk w3 gb 3 #[.int .i64 (G:Int)]:=hk3.2.trans HK.out.2.2.1;have s3:=hsb3.cell 0;have f3:=hsb3.frozen 0;have l3:=hsb3.lt;have H3:=Lib.hid (And.intro hJ3 (And.intro hsb3 hgb3));clear hJ3 hsb3 hgb3 hk3 hy hRo cs cg;gi_wp2_with fail
     exact sg_step (b:=b) (o:=o) hG1 hn HK.out.1 h0R HC.out.1 (.inl ⟨hle,rfl⟩) HC.out.2.1 hne HK.out.2.1 H3.out.2.1 H3.out.2.2 hJs H3.out.1
    ·clear hy hRo cs cg;gi_wp2_with fail
     refine bodyPost_ret (results_none rfl _ _ _) rfl ?_;exact⟨⟨_,rfl⟩,.inr hJx3⟩
   ·rw [he]at hy;have e1:decide ((G:Int)<=(R:Int))=false:=decide_eq_false (by omega);have e2:decide ((R:Int)<(G:Int))=true:=decide_eq_true (by omega);clear he;gi_wp2_with fail
    refine hRo.mono ?_;rintro e w3 (⟨rfl,hJ3,hk3⟩|⟨rfl,hJx3⟩)
    ·have hsb3:Blk w3 sb 52 #[.slice (some ⟨b,o+i*G*9,none⟩) R C]:=hk3.1.trans HK.out.2.1;have hgb3:Blk w3 gb 3 #[.int .i64 (G:Int)]:=hk3.2.trans HK.out.2.2.1;have s3:=hsb3.cell 0;have f3:=hsb3.frozen 0;have l3:=hsb3.lt;have H3:=Lib.hid (And.intro hJ3 (And.intro hsb3 hgb3));clear hJ3 hsb3 hgb3 hk3 hy hRo cs cg;gi_wp2_with fail
     have hst:=sg_step (b:=b) (o:=o) hG1 hn HK.out.1 h0R HC.out.1 (.inr ⟨hle,rfl⟩) HC.out.2.1 hne HK.out.2.1 H3.out.2.1 H3.out.2.2 hJs H3.out.1;rw [Nat.sub_self]at hst;exact hst
    ·clear hy hRo cs cg;gi_wp2_with fail
     refine bodyPost_ret (results_none rfl _ _ _) rfl ?_;exact⟨⟨_,rfl⟩,.inr hJx3⟩
  ·obtain rfl:R=0:=by omega
   have d1:decide (0<((0:Nat):Int))=false:=by decide
   have HF:Hid (List.range i=List.range (segN G n)):=by
    show _=_;have h2:¬i<segN G n:=fun h=>by have:=(segN_lt (n:=n) hG1).1 h;have:=HK.out.1;omega
    rw [show i=segN G n by have:=HK.out.2.2.2.2;omega]
   have HJ:=Lib.hid HK.out.2.2.2.1;clear HK;gi_wp2_with fail
   go_end0
   exact⟨⟨_,rfl⟩,.inl ⟨_,HF.out,HJ.out⟩⟩
theorem lSegments(w:World)(A:Option Addr)(n c:Nat)(G:Int):Calls Tryz.prog 122 #[.slice A n c,.int .i64 G] w fun e w'=>e=.returned (.func (.func 177) #[] #[.pointer (some ⟨w.heap.size,0,none⟩),.pointer (some ⟨w.heap.size+1,0,none⟩)])/\w'=(w.alloc (.cells #[.slice A n c] 52)).alloc (.cells #[.int .i64 G] 3):=by
 go_enter Tryz.func122,Tryz.ntmps122;go_wp2_with fail;go_ret;exact⟨rfl,rfl⟩
end Go.Proofs.YtnnpoodcdibpiaaGreatDoor
