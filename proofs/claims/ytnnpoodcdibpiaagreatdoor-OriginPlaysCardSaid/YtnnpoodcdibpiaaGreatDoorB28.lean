/-
  manifest.letter, rightName, rightPath, rightSide.
-/
import Derived.Test.YtnnpoodcdibpiaaGreatDoorB24
import Derived.Maps.OwnSet
import Derived.StringKeys
import Derived.Lib.SliceRun
import Derived.Sort.KeysCollected
namespace Go.Proofs.YtnnpoodcdibpiaaGreatDoor
open Go.RowKit
set_option maxRecDepth 100000
set_option maxHeartbeats 8000000
theorem pLetter(w:World)(c:UInt8):Calls Tryz.prog 156 #[.int .u8 (c.toNat:Int)] w fun e w'=>e=.returned (.bool (letterB c))/\w=w':=by
 have hc:=c.toNat_lt;unfold letterB;by_cases h1:97<=c.toNat
 ·have d1:decide ((97:Int)<=(c.toNat:Int))=true:=decide_eq_true (by omega);have d1':((c.toNat:Int) ≥ 97):=by omega
  by_cases h2:c.toNat<=122
  ·have d2:decide ((c.toNat:Int)<=122)=true:=decide_eq_true (by omega);rw [show decide (97<=c.toNat/\c.toNat<=122)=true from decide_eq_true ⟨h1,h2⟩,Bool.true_or];go_enter Tryz.func156,Tryz.ntmps156;go_wp2_with fail;go_ret;exact⟨rfl,rfl⟩
  ·have d2:decide ((c.toNat:Int)<=122)=false:=decide_eq_false (by omega);have d3:decide ((48:Int)<=(c.toNat:Int))=true:=decide_eq_true (by omega);have d4:decide ((c.toNat:Int)<=57)=false:=decide_eq_false (by omega);rw [show decide (97<=c.toNat/\c.toNat<=122)=false from decide_eq_false (by omega),show decide (48<=c.toNat/\c.toNat<=57)=false from decide_eq_false (by omega)];go_enter Tryz.func156,Tryz.ntmps156;go_wp2_with fail;go_ret;exact⟨rfl,rfl⟩
 ·have d1:decide ((97:Int)<=(c.toNat:Int))=false:=decide_eq_false (by omega);rw [show decide (97<=c.toNat/\c.toNat<=122)=false from decide_eq_false (by omega),Bool.false_or];by_cases h3:48<=c.toNat
  ·have d3:decide ((48:Int)<=(c.toNat:Int))=true:=decide_eq_true (by omega);by_cases h4:c.toNat<=57
   ·have d4:decide ((c.toNat:Int)<=57)=true:=decide_eq_true (by omega);rw [show decide (48<=c.toNat/\c.toNat<=57)=true from decide_eq_true ⟨h3,h4⟩];go_enter Tryz.func156,Tryz.ntmps156;go_wp2_with fail;go_ret;exact⟨rfl,rfl⟩
   ·have d4:decide ((c.toNat:Int)<=57)=false:=decide_eq_false (by omega);rw [show decide (48<=c.toNat/\c.toNat<=57)=false from decide_eq_false (by omega)];go_enter Tryz.func156,Tryz.ntmps156;go_wp2_with fail;go_ret;exact⟨rfl,rfl⟩
  ·have d3:decide ((48:Int)<=(c.toNat:Int))=false:=decide_eq_false (by omega);rw [show decide (48<=c.toNat/\c.toNat<=57)=false from decide_eq_false (by omega)];go_enter Tryz.func156,Tryz.ntmps156;go_wp2_with fail;go_ret;exact⟨rfl,rfl⟩
theorem pSide(w:World)(n:Int)(h0:-9223372036854775808<=n)(h1:n<=9223372036854775807):Calls Tryz.prog 158 #[.int .i64 n] w fun e w'=>e=.returned (.bool (sideB n))/\w=w':=by
 unfold sideB;by_cases h2:16<=n
 ·have d2:decide (16<=n)=true:=decide_eq_true h2;by_cases h3:n<=4096
  ·have d3:decide (n<=4096)=true:=decide_eq_true h3;by_cases h4:n.tmod 16=0
   ·have d4:(n.tmod 16 == 0)=true:=by simp [h4]
    rw [show decide (16<=n/\n<=4096/\n.tmod 16=0)=true from decide_eq_true ⟨h2,h3,h4⟩];have d5:(n % 16 == 0)=true:=by rw [Int.tmod_eq_emod_of_nonneg (by omega)]at d4;exact d4
    clear h4;go_enter Tryz.func158,Tryz.ntmps158;go_wp2_with fail;go_ret;exact⟨rfl,rfl⟩
   ·have d4:(n.tmod 16 == 0)=false:=by simp [h4]
    rw [show decide (16<=n/\n<=4096/\n.tmod 16=0)=false from decide_eq_false (by omega)];have d5:(n % 16 == 0)=false:=by rw [Int.tmod_eq_emod_of_nonneg (by omega)]at d4;exact d4
    clear h4;go_enter Tryz.func158,Tryz.ntmps158;go_wp2_with fail;go_ret;exact⟨rfl,rfl⟩
  ·have d3:decide (n<=4096)=false:=decide_eq_false h3;rw [show decide (16<=n/\n<=4096/\n.tmod 16=0)=false from decide_eq_false (fun h=>h3 h.2.1)];go_enter Tryz.func158,Tryz.ntmps158;go_wp2_with fail;go_ret;exact⟨rfl,rfl⟩
 ·have d2:decide (16<=n)=false:=decide_eq_false h2;rw [show decide (16<=n/\n<=4096/\n.tmod 16=0)=false from decide_eq_false (fun h=>h2 h.1)];go_enter Tryz.func158,Tryz.ntmps158;go_wp2_with fail;go_ret;exact⟨rfl,rfl⟩
def nmRel(p:UInt8->Bool)(l:List UInt8)(v:Value):Prop:=∃k:Nat,k<=l.length/\v=.int .i64 (k:Int)/\(l.take k).all p=true
theorem pName(w:World)(l:List UInt8)(hl:l.length<=9223372036854775807):Calls Tryz.prog 157 #[.string (strOf l)] w fun e w'=>e=.returned (.bool (nameB l))/\w=w':=by
 have hsz:=strOf_size l;unfold nameB;by_cases h1:1<=l.length
 ·have d1:decide ((l.length:Int)<1)=false:=decide_eq_false (by omega);by_cases h8:l.length<=8
  ·have d2:decide ((8:Int)<(l.length:Int))=false:=decide_eq_false (by omega);rw [show decide (1<=l.length/\l.length<=8)=true from decide_eq_true ⟨h1,h8⟩,Bool.true_and];go_enter Tryz.func157,Tryz.ntmps157;go_wp2_with fail;go_loop [14] (nmRel letterB l) (fun i=>l.length-(intOf i).toNat)
   case atStart=>exact⟨0,by omega,rfl,by simp⟩
   case round=>
    obtain⟨k,hk,rfl,hall⟩:=hrel;have HA:=Lib.hid hall;clear hall;by_cases hlt:k<l.length
    ·have hc:=getE hlt;have d3:decide ((k:Int)<(l.length:Int))=true:=decide_eq_true (by omega);have hx:=run_index_strOf (P:=Tryz.prog) (t:=9) l .i64 k _ Tryz.underlying9 hc;generalize hcc:l[k]=c at hc hx;have HC:=Lib.hid hc;clear hc hcc;cases hb:letterB c with
     | true=>
      have HB:=Lib.hid hb;clear hb;go_wp2_with fail;refine(pLetter w c).mono ?_;rintro e w' ⟨rfl,rfl⟩;rw [HB.out];go_wp2_with fail;exact⟨⟨k+1,by omega,by go_num,all_snoc HA.out HC.out HB.out⟩,by simp [intOf];omega⟩
     | false=>
      have HB:=Lib.hid hb;clear hb;go_wp2_with fail;refine(pLetter w c).mono ?_;rintro e w' ⟨rfl,rfl⟩;rw [HB.out];go_wp2_with fail;go_ret;exact⟨by rw [all_not HC.out HB.out];rfl,rfl⟩
    ·obtain rfl:k=l.length:=by omega
     have d3:decide ((l.length:Int)<(l.length:Int))=false:=decide_eq_false (by omega);go_wp2_with fail;go_ret;exact⟨by rw [all_end HA.out];rfl,rfl⟩
  ·have d2:decide ((8:Int)<(l.length:Int))=true:=decide_eq_true (by omega);rw [show decide (1<=l.length/\l.length<=8)=false from decide_eq_false (by omega),Bool.false_and];go_enter Tryz.func157,Tryz.ntmps157;go_wp2_with fail;go_ret;exact⟨rfl,rfl⟩
 ·have d1:decide ((l.length:Int)<1)=true:=decide_eq_true (by omega);rw [show decide (1<=l.length/\l.length<=8)=false from decide_eq_false (by omega),Bool.false_and];go_enter Tryz.func157,Tryz.ntmps157;go_wp2_with fail;go_ret;exact⟨rfl,rfl⟩
def pathC(c:UInt8):Bool:=letterB c || c == 46 || c == 47
theorem pathC_46{c:UInt8}(h:c.toNat=46):pathC c=true:=by
 obtain rfl:c=46:=UInt8.toNat_inj.1 h;decide
theorem pathC_47{c:UInt8}(h:c.toNat=47):pathC c=true:=by
 obtain rfl:c=47:=UInt8.toNat_inj.1 h;decide
theorem pathC_not{c:UInt8}(h:letterB c=false)(h1:¬c.toNat=46)(h2:¬c.toNat=47):pathC c=false:=by
 unfold pathC;rw [h];simp only [Bool.false_or,Bool.or_eq_false_iff,beq_eq_false_iff_ne];exact⟨fun e=>h1 (by rw [e];rfl),fun e=>h2 (by rw [e];rfl)⟩
theorem pPath(w:World)(l:List UInt8)(hl:l.length<=9223372036854775807):Calls Tryz.prog 96 #[.string (strOf l)] w fun e w'=>e=.returned (.bool (pathB l))/\w=w':=by
 have hsz:=strOf_size l;unfold pathB;by_cases h1:1<=l.length
 ·have d1:decide ((l.length:Int)<1)=false:=decide_eq_false (by omega);by_cases h60:l.length<=60
  ·have d2:decide ((60:Int)<(l.length:Int))=false:=decide_eq_false (by omega);rw [show decide (1<=l.length/\l.length<=60)=true from decide_eq_true ⟨h1,h60⟩,Bool.true_and];go_enter Tryz.func96,Tryz.ntmps96;go_wp2_with fail;go_loop [14] (nmRel pathC l) (fun i=>l.length-(intOf i).toNat)
   case atStart=>exact⟨0,by omega,rfl,by simp⟩
   case round=>
    obtain⟨k,hk,rfl,hall⟩:=hrel;have HA:=Lib.hid hall;clear hall;by_cases hlt:k<l.length
    ·have hc:=getE hlt;have d3:decide ((k:Int)<(l.length:Int))=true:=decide_eq_true (by omega);have hx:=run_index_strOf (P:=Tryz.prog) (t:=9) l .i64 k _ Tryz.underlying9 hc;generalize hcc:l[k]=c at hc hx;have HC:=Lib.hid hc;clear hc hcc;have hct:=c.toNat_lt;cases hb:letterB c with
     | true=>
      have HB:=Lib.hid hb;clear hb;go_wp2_with fail;refine(pLetter w c).mono ?_;rintro e w' ⟨rfl,rfl⟩;rw [HB.out];go_wp2_with fail;exact⟨⟨k+1,by omega,by go_num,all_snoc HA.out HC.out (by unfold pathC;rw [HB.out];rfl)⟩,by simp [intOf];omega⟩
     | false=>
      have HB:=Lib.hid hb;clear hb;by_cases h46:c.toNat=46
      ·have d4:((c.toNat:Int) == 46)=true:=by rw [h46];rfl
       have d5:((c.toNat:Int) != 46)=false:=by rw [h46];rfl
       have H46:=Lib.hid h46;clear h46;go_wp2_with fail;refine(pLetter w c).mono ?_;rintro e w' ⟨rfl,rfl⟩;rw [HB.out];go_wp2_with fail;exact⟨⟨k+1,by omega,by go_num,all_snoc HA.out HC.out (pathC_46 H46.out)⟩,by simp [intOf];omega⟩
      ·have d4:((c.toNat:Int) == 46)=false:=by simp;omega
       have d5:((c.toNat:Int) != 46)=true:=by simp;omega
       by_cases h47:c.toNat=47
       ·have d6:((c.toNat:Int) == 47)=true:=by rw [h47];rfl
        have d7:((c.toNat:Int) != 47)=false:=by rw [h47];rfl
        have H47:=Lib.hid h47;clear h46 h47;go_wp2_with fail;refine(pLetter w c).mono ?_;rintro e w' ⟨rfl,rfl⟩;rw [HB.out];go_wp2_with fail;exact⟨⟨k+1,by omega,by go_num,all_snoc HA.out HC.out (pathC_47 H47.out)⟩,by simp [intOf];omega⟩
       ·have d6:((c.toNat:Int) == 47)=false:=by simp;omega
        have d7:((c.toNat:Int) != 47)=true:=by simp;omega
        have HN:=Lib.hid (pathC_not HB.out h46 h47);clear h46 h47;go_wp2_with fail;refine(pLetter w c).mono ?_;rintro e w' ⟨rfl,rfl⟩;rw [HB.out];go_wp2_with fail;go_ret;exact⟨by rw [show(fun c=>letterB c || c == 46 || c == 47)=pathC from rfl,all_not HC.out HN.out];rfl,rfl⟩
    ·obtain rfl:k=l.length:=by omega
     have d3:decide ((l.length:Int)<(l.length:Int))=false:=decide_eq_false (by omega);go_wp2_with fail;go_ret;exact⟨by rw [show(fun c=>letterB c || c == 46 || c == 47)=pathC from rfl,all_end HA.out];rfl,rfl⟩
  ·have d2:decide ((60:Int)<(l.length:Int))=true:=decide_eq_true (by omega);rw [show decide (1<=l.length/\l.length<=60)=false from decide_eq_false (by omega),Bool.false_and];go_enter Tryz.func96,Tryz.ntmps96;go_wp2_with fail;go_ret;exact⟨rfl,rfl⟩
 ·have d1:decide ((l.length:Int)<1)=true:=decide_eq_true (by omega);rw [show decide (1<=l.length/\l.length<=60)=false from decide_eq_false (by omega),Bool.false_and];go_enter Tryz.func96,Tryz.ntmps96;go_wp2_with fail;go_ret;exact⟨rfl,rfl⟩
theorem pathI(c:UInt8):pathC c = !((((decide ((c.toNat:Int)<97) || decide ((122:Int)<(c.toNat:Int)))&&(decide ((c.toNat:Int)<48) || decide ((57:Int)<(c.toNat:Int))))&&((c.toNat:Int) != 46))&&((c.toNat:Int) != 47)):=by
 have h46:(c == 46) = !((c.toNat:Int) != 46):=by
  rw [Bool.eq_iff_iff];simp only [beq_iff_eq,Bool.not_eq_true',bne_eq_false_iff_eq];constructor
  ·intro h;rw [h];rfl
  ·intro h;exact UInt8.toNat_inj.1 (by show c.toNat=46;omega)
 have h47:(c == 47) = !((c.toNat:Int) != 47):=by
  rw [Bool.eq_iff_iff];simp only [beq_iff_eq,Bool.not_eq_true',bne_eq_false_iff_eq];constructor
  ·intro h;rw [h];rfl
  ·intro h;exact UInt8.toNat_inj.1 (by show c.toNat=47;omega)
 unfold pathC;rw [letterI c,h46,h47];cases (decide ((c.toNat:Int)<97) || decide ((122:Int)<(c.toNat:Int)))&&(decide ((c.toNat:Int)<48) || decide ((57:Int)<(c.toNat:Int)))<;>cases ((c.toNat:Int) != 46)<;>cases ((c.toNat:Int) != 47)<;>rfl
def ptRel(l:List UInt8)(v:Value):Prop:=∃k:Nat,k<=l.length/\v=.int .i64 (k:Int)/\(l.take k).all pathC=true
theorem pathB_len{l:List UInt8}(h:¬(1<=l.length/\l.length<=60)):pathB l=false:=by unfold pathB;rw [decide_eq_false h,Bool.false_and]
theorem pathB_all{l:List UInt8}(h:1<=l.length/\l.length<=60):pathB l=l.all pathC:=by unfold pathB;rw [decide_eq_true h,Bool.true_and];rfl
theorem orPath(w:World)(l:List UInt8)(hl:l.length<=9223372036854775807):Calls Tryz.prog 38 #[.string (strOf l)] w fun e w'=>e=.returned (.bool (pathB l))/\w=w':=by
 have hsz:=strOf_size l;cases d1:decide ((l.length:Int)<1)with
 | true=>
   have HN:=Lib.hid (pathB_len (l:=l) (by have:=of_decide_eq_true d1;omega));go_enter Tryz.func38,Tryz.ntmps38;go_wp2_with fail;go_ret;exact⟨by rw [HN.out];rfl,rfl⟩
 | false=>
   cases d2:decide ((60:Int)<(l.length:Int))with
   | true=>
     have HN:=Lib.hid (pathB_len (l:=l) (by have:=of_decide_eq_true d2;omega));go_enter Tryz.func38,Tryz.ntmps38;go_wp2_with fail;go_ret;exact⟨by rw [HN.out];rfl,rfl⟩
   | false=>
     have HN:=Lib.hid (pathB_all (l:=l) ⟨by have:=of_decide_eq_false d1;omega,by have:=of_decide_eq_false d2;omega⟩);go_enter Tryz.func38,Tryz.ntmps38;go_wp2_with fail;go_loop [15] (ptRel l) (fun i=>l.length-(intOf i).toNat)
     case atStart=>exact⟨0,by omega,rfl,by simp⟩
     case round=>
      obtain⟨k,hk,rfl,hall⟩:=hrel;have HA:=Lib.hid hall;clear hall;by_cases hlt:k<l.length
      ·have hc:=getE hlt;have d0:decide ((k:Int)<(l.length:Int))=true:=decide_eq_true (by omega);have hx:=run_index_strOf (P:=Tryz.prog) (t:=9) l .i64 k _ Tryz.underlying9 hc;generalize hcc:l[k]=b at hc hx;have hct:=b.toNat_lt;have hld:=pathI b;have HC:=Lib.hid (And.intro hc hld);clear hc hcc hld
       cases e1:decide ((b.toNat:Int)<97)<;>cases e2:decide ((122:Int)<(b.toNat:Int))<;>cases e3:decide ((b.toNat:Int)<48)<;>cases e4:decide ((57:Int)<(b.toNat:Int))<;>cases e5:((b.toNat:Int) != 46)<;>cases e6:((b.toNat:Int) != 47)<;>(
        have HD:=HC.out.2;rw [e1,e2,e3,e4,e5,e6]at HD;simp only [Bool.or_true,Bool.or_false,Bool.and_true,Bool.and_false,Bool.not_true,Bool.not_false]at HD;have HD:=Lib.hid HD;go_wp2_with fail
        first
        | exact⟨⟨k+1,by omega,by go_num,all_snoc HA.out HC.out.1 HD.out⟩,by simp [intOf];omega⟩
        | (go_ret
           exact⟨by rw [HN.out,all_not HC.out.1 HD.out];rfl,rfl⟩))
      ·obtain rfl:k=l.length:=by omega
       have d0:decide ((l.length:Int)<(l.length:Int))=false:=decide_eq_false (by omega);have HE:=Lib.hid (all_end HA.out);go_wp2_with fail;go_ret;exact⟨by rw [HN.out,HE.out];rfl,rfl⟩
def fR(v:Value):Option (DataW Value × List MemPlace):=some (.held v,[])
def FilesAt(w:World)(b n:Nat)(D:DataW Value):Prop:=w.ownsMap Tryz.prog 9 fR b n D
theorem key_str(p:List UInt8)(hp:p.length<=9223372036854775807):keyOf Tryz.prog 9 (.string (strOf p))=some (.string p):=
 WideMaps.keyOf_string_mk Tryz.underlying9 (by unfold maxLen;have:=strOf_size p;omega)
theorem zero_bs(w:World):(zeroValue 22).run Tryz.prog w=.ok (.slice none 0 0) w:=Tryz.zeroValue22 w
def fitsB(D:DataW Value)(p:List UInt8)(n:Nat):Bool:=(pathB p&&decide (1<=n/\n<=1048576))&&(!Maps.has D (.string p)&&decide (Maps.size D<4000))
theorem orFits(w:World)(b k:Nat)(D:DataW Value)(hf:FilesAt w b k D)(p:List UInt8)(hp:p.length<=9223372036854775807)(A:Option Addr)(n c:Nat):
  Calls Tryz.prog 33 #[.map (some b),.string (strOf p),.slice A n c] w fun e w'=>e=.returned (.bool (fitsB D p n))/\w=w':=by
 have HF:=Lib.hid hf;clear hf;have hk:=key_str p hp;have HK:=Lib.hid hk;clear hk;cases hpb:pathB p with
 | false=>
   have HP:=Lib.hid (show fitsB D p n=false by unfold fitsB;rw [hpb,Bool.false_and,Bool.false_and]);go_enter Tryz.func33,Tryz.ntmps33;go_wp2_with fail;refine(orPath w p hp).mono ?_;rintro e w1 ⟨rfl,rfl⟩;rw [hpb];go_wp2_with fail;go_ret;exact⟨by rw [HP.out];rfl,rfl⟩
 | true=>
   cases d1:decide ((n:Int)<1)<;>cases d2:decide (1048576<(n:Int))<;>(
    go_enter Tryz.func33,Tryz.ntmps33;go_upto_region 1 with(fail)
    go_wp2_with fail;refine(orPath w p hp).mono ?_;rintro e w1 ⟨rfl,rfl⟩;rw [hpb];go_upto_region 3 with(fail)
    all_goals first
    | (go_ret
       exact⟨by unfold fitsB;rw [hpb,show decide (1<=n/\n<=1048576)=false from decide_eq_false (by simp at d1 d2;omega)];rfl,rfl⟩)
    | skip)
   have hn:decide (1<=n/\n<=1048576)=true:=decide_eq_true (by simp at d1 d2;omega);have hI:fitsB D p n=(!Maps.has D (.string p)&&decide (Maps.size D<4000)):=by unfold fitsB;rw [hpb,hn];rfl
   have HI:=Lib.hid hI;clear hI hn hpb d1 d2;have hlen:∀ty,(Builtin.len_ #[102] ty #[.map (some b)]).run Tryz.prog w=.ok (.int .i64 (Maps.size D)) w:=fun ty=>World.ownsMap.len HF.out Tryz.underlying102 ty;cases hh:Maps.has D (.string p)with
   | true=>
     go_wp2_with (at_lookup;refine wpList_lookup_own_ok _ rfl _ _ 102 rfl 9 22 (Maps.string_keyed Tryz.underlying9) Tryz.underlying102 fR (zero_bs _) (.held (.slice none 0 0)) [] rfl b k D rfl HF.out _ _ rfl HK.out ?_;intro v ps hv;have HV:=Lib.hid hv;clear hv;rw [hh])
     go_ret;exact⟨by rw [HI.out,hh];rfl,rfl⟩
   | false=>
     cases h4:decide ((Maps.size D:Int)<4000)with
     | true=>
       go_wp2_with (at_lookup;refine wpList_lookup_own_ok _ rfl _ _ 102 rfl 9 22 (Maps.string_keyed Tryz.underlying9) Tryz.underlying102 fR (zero_bs _) (.held (.slice none 0 0)) [] rfl b k D rfl HF.out _ _ rfl HK.out ?_;intro v ps hv;have HV:=Lib.hid hv;clear hv;rw [hh])
       go_ret;exact⟨by rw [HI.out,hh,show decide (Maps.size D<4000)=true from decide_eq_true (by have:=of_decide_eq_true h4;omega)];rfl,rfl⟩
     | false=>
       go_wp2_with (at_lookup;refine wpList_lookup_own_ok _ rfl _ _ 102 rfl 9 22 (Maps.string_keyed Tryz.underlying9) Tryz.underlying102 fR (zero_bs _) (.held (.slice none 0 0)) [] rfl b k D rfl HF.out _ _ rfl HK.out ?_;intro v ps hv;have HV:=Lib.hid hv;clear hv;rw [hh])
       go_ret;exact⟨by rw [HI.out,hh,show decide (Maps.size D<4000)=false from decide_eq_false (by have:=of_decide_eq_false h4;omega)];rfl,rfl⟩
theorem bClone(w:World)(A:Option Addr)(n c:Nat)(l:List UInt8)(hin:BytesIn w A n c l)(hn:n<=1048576):
  Calls Tryz.prog 34 #[.slice A n c] w fun e w'=>∃u,e=.returned u/\Bytes w' w.heap.size u l/\Mod (fun _=>False) w w':=by
 cases A with
 | none=>
  obtain rfl:=hin.2.2.1.2.1 rfl;obtain rfl:=hin.2.1 rfl;obtain rfl:l=[]:=List.eq_nil_of_length_eq_zero hin.1;have he:(binOp .eql 22 (.slice none 0 0) (.slice none 0 0)).run Tryz.prog w=.ok (.bool true) w:=Lib.run_eql_slice_nil w 22 5 none 0 0 0 0 Tryz.underlying22;go_enter Tryz.func34,Tryz.ntmps34;go_wp2_with fail;go_ret;exact⟨_,rfl,World.ownsRow_nil _ _ _ _,Mod.refl _ _⟩
 | some ad=>
  have hm:=(Mod.refl (fun _=>False) w).alloc (.cells #[] 5)
  have hb:Bytes (w.alloc (.cells #[] 5)) w.heap.size (.slice (some ⟨w.heap.size,0,none⟩) 0 0) []:=
   ⟨rfl,.inr ⟨w.heap.size,0,#[],rfl,Nat.le_refl _,Blk.new w 5 #[],Nat.le_refl _,by unfold maxLen;omega,rfl,rfl⟩⟩
  have he:(binOp .eql 22 (.slice (some ad) n c) (.slice none 0 0)).run Tryz.prog w=.ok (.bool false) w:=Lib.run_eql_slice_nil w 22 5 (some ad) n c 0 0 Tryz.underlying22;have H0:=Lib.hid (And.intro hb (And.intro (hin.quiet hm) hm));clear hb hm;go_enter Tryz.func34,Tryz.ntmps34;go_wp2_with (at_builtin;refine Hid.out ?_)
  refine Lib.hid ?_;refine wpList_app_u8s _ rfl (.tmp 5) (.tmp 6) rfl w.heap.size (.slice (some ⟨w.heap.size,0,none⟩) 0 0) [] (some ad) n c l rfl rfl H0.out.1 H0.out.2.1 H0.out.2.2.size (by simpa using hn) ?_;intro v6 w6 hv6 hm6 _ _
  have H6:=Lib.hid (And.intro hv6 (H0.out.2.2.into hm6 (fun j h=>.inr (by
   injection h with h;subst h;exact Nat.le_refl _))))
  clear hv6 hm6;go_wp2_with fail;go_ret;exact⟨_,rfl,H6.out.1,H6.out.2⟩
def zdF:DataW Value:=.held (.slice none 0 0)
structure FilesR(w:World)(D:DataW Value)(f:List UInt8->Option (List UInt8)):Prop where
 no:∀p,f p=none->Maps.has D (.string p)=false
 yes:∀p l,f p=some l->Maps.has D (.string p)=true/\l.length<=1048576/\∃v,D.atKey (.string p) zdF=.held v/\BytesF w (fun _=>True) v l
theorem FilesR.quiet{w w':World}{D:DataW Value}{f:List UInt8->Option (List UInt8)}(h:FilesR w D f)(hm:Mod (fun _=>False) w w'):FilesR w' D f:=
 ⟨h.no,fun p l hp=>by
  obtain⟨h1,h2,v,h3,h4⟩:=h.yes p l hp;exact⟨h1,h2,v,h3,RowIn.turn h4 hm (fun _ _ _ h=>h) (fun _ h _=>h)⟩⟩
structure OrgAt(w:World)(ob b k:Nat)(D:DataW Value)(f:List UInt8->Option (List UInt8)):Prop where
 blk:Blk w ob 104 #[.map (some b)]
 map:FilesAt w b k D
 files:FilesR w D f
theorem orGetNil(w:World)(p:List UInt8):Calls Tryz.prog 15 #[.pointer none,.string (strOf p)] w fun e w'=>e=.returned (.tuple #[.slice none 0 0,.int .i64 1])/\w=w':=by
 go_enter Tryz.func15,Tryz.ntmps15;go_wp2_with fail;go_ret2;exact⟨rfl,rfl⟩
theorem orGet(w:World)(ob b k:Nat)(D:DataW Value)(f:List UInt8->Option (List UInt8))(ho:OrgAt w ob b k D f)(p:List UInt8)(hp:p.length<=9223372036854775807):
  Calls Tryz.prog 15 #[.pointer (some ⟨ob,0,none⟩),.string (strOf p)] w fun e w'=>Mod (fun _=>False) w w'/\match f p with
   | none=>e=.returned (.tuple #[.slice none 0 0,.int .i64 191])
   | some l=>∃u,e=.returned (.tuple #[u,.int .i64 0])/\Bytes w' w.heap.size u l:=by
 have hk:=key_str p hp;have x0:w.cell? ⟨ob,0,none⟩=some (.map (some b)):=ho.blk.cell 0;have bl:=ho.blk.lt;have H0:=Lib.hid (And.intro hk ho);clear hk ho;cases hf:f p with
 | none=>
  have hh:=H0.out.2.files.no p hf;go_enter Tryz.func15,Tryz.ntmps15;go_wp2_with (at_lookup;refine wpList_lookup_own_ok _ rfl _ _ 102 rfl 9 22 (Maps.string_keyed Tryz.underlying9) Tryz.underlying102 fR (zero_bs _) zdF [] rfl b k D rfl H0.out.2.map _ _ rfl H0.out.1 ?_;intro v ps hv;have HV:=Lib.hid hv;clear hv;rw [hh])
  go_ret2;exact⟨Mod.refl _ _,rfl⟩
 | some l=>
  obtain⟨hh,hl,v0,hv0,hb⟩:=H0.out.2.files.yes p l hf;obtain⟨A,c,rfl,_,hin⟩:=hb.in_;have HB:=Lib.hid (And.intro hv0 (And.intro hin hl));clear hv0 hin hl hb;go_enter Tryz.func15,Tryz.ntmps15;go_wp2_with (at_lookup;refine wpList_lookup_own_ok _ rfl _ _ 102 rfl 9 22 (Maps.string_keyed Tryz.underlying9) Tryz.underlying102 fR (zero_bs _) zdF [] rfl b k D rfl H0.out.2.map _ _ rfl H0.out.1 ?_;intro v ps hv;rw [hh];have hve:v=.slice A l.length c:=(by rw [HB.out.1]at hv;unfold fR at hv;injection hv with hv;injection hv with hv;injection hv);subst hve;clear hv)
  refine(bClone w A l.length c l HB.out.2.1 HB.out.2.2).mono ?_;rintro e w1 ⟨u,rfl,hu,hm⟩;go_wp2_with fail;go_ret2;exact⟨hm,_,rfl,hu⟩
abbrev FsL:=List (List UInt8 × List UInt8)
def putL(L:FsL)(p l:List UInt8):Option FsL:=if((pathB p&&decide (1<=l.length/\l.length<=1048576))&&((L.lookup p).isNone&&decide (L.length<4000)))=true then some (L++[(p,l)])else none
def putsL(L:FsL):FsL->Option FsL
 | []=>some L
 | (p,l) :: r=>(putL L p l).bind fun L'=>putsL L' r
theorem BytesF.past{w w':World}{S:Nat->Prop}{v:Value}{l:List UInt8}(h:BytesF w (fun _=>True) v l)(hm:Mod S w w')(hS:∀k,S k->∀i x,w.cell? ⟨k,i,none⟩≠some (.int .u8 x)):BytesF w' (fun _=>True) v l:=by
 have h0:RowIn w (fun k=>¬S k) 1 v l.length (u8s l):=by
  obtain⟨A,c,h1,h2,h3,h4,h5⟩:=RowIn.ex h;refine⟨A,c,h1,h2,h3,h4,fun ad e h0=>⟨(h5 ad e h0).1,fun hs=>?_⟩⟩;obtain⟨b,o,c',hv,_,_,_,hx⟩:=RowIn.place h h0 (by decide);rw [h1]at hv;injection hv with hv;rw [e]at hv;injection hv with hv;subst hv;obtain⟨x,hx0⟩:∃x,l[0]?=some x:=⟨_,List.getElem?_eq_getElem h0⟩
  exact hS b hs (o+0) _ (hx 0 (.int .u8 (x.toNat:Int)) (by unfold u8s;rw [List.getElem?_map,hx0];rfl))
 exact RowIn.turn h0 hm (fun k hk _=>hk) (fun _ _ _=>trivial)
theorem map_no_u8{w:World}{b n:Nat}{D:DataW Value}(h:FilesAt w b n D)(i:Nat)(x:Int):w.cell? ⟨b,i,none⟩≠some (.int .u8 x):=by
 obtain⟨es,clock,hb,_⟩:=h;intro hc;simp [World.cell?,hb]at hc
theorem FilesR.past{w w':World}{S:Nat->Prop}{D:DataW Value}{f:List UInt8->Option (List UInt8)}(h:FilesR w D f)(hm:Mod S w w')(hS:∀k,S k->∀i x,w.cell? ⟨k,i,none⟩≠some (.int .u8 x)):FilesR w' D f:=
 ⟨h.no,fun p l hp=>by
  obtain⟨h1,h2,v,h3,h4⟩:=h.yes p l hp;exact⟨h1,h2,v,h3,h4.past hm hS⟩⟩
theorem key_lit(p:List UInt8):WideAt.IsKeyLit (.string p):=by constructor
theorem FilesR.put{w w':World}{b n:Nat}{D:DataW Value}{L:FsL}(h:FilesR w D (fun q=>L.lookup q))(hf:FilesAt w b n D){p l:List UInt8}{v:Value}(hnew:L.lookup p=none)(hl:l.length<=1048576)(hv:BytesF w' (fun _=>True) v l)
  (hm:Mod (·=b) w w'):FilesR w' (D.put (.string p) (.held v)) (fun q=>(L++[(p,l)]).lookup q):=by
 have hM:=hf.isMap;have h':FilesR w' D (fun q=>L.lookup q):=h.past hm (fun k hk i x=>by subst hk;exact map_no_u8 hf i x)
 have hk:∀q,(L++[(p,l)]).lookup q=if q=p then some l else L.lookup q:=fun q=>by
  rw [List.lookup_append];by_cases e:q=p
  ·subst e;rw [hnew,if_pos rfl];simp [List.lookup]
  ·rw [if_neg e];have:(q == p)=false:=by simpa using e
   simp [List.lookup,this]
 refine⟨fun q hq=>?_,fun q y hq=>?_⟩
 ·rw [hk]at hq;by_cases e:q=p
  ·rw [if_pos e]at hq;cases hq
  ·rw [if_neg e]at hq;rw [Maps.has_put_other (fun e2=>e (by injection e2))];exact h'.no q hq
 ·rw [hk]at hq;by_cases e:q=p
  ·rw [if_pos e]at hq;injection hq with hq;subst hq e;exact⟨Maps.has_put_same hM (key_lit _) _,hl,v,Maps.atKey_put_same hM (key_lit _) _ _,hv⟩
  ·rw [if_neg e]at hq;obtain⟨h1,h2,v2,h3,h4⟩:=h'.yes q y hq;have hne:Lit.string q≠Lit.string p:=fun e2=>e (by injection e2);exact⟨by rw [Maps.has_put_other hne];exact h1,h2,v2,by rw [Maps.atKey_put_other hne];exact h3,h4⟩
structure MpAt(w:World)(b:Nat)(D:DataW Value)(L:FsL):Prop where
 map:FilesAt w b L.length D
 files:FilesR w D (fun q=>L.lookup q)
 size:Maps.size D=L.length
 nodup:(L.map Prod.fst).Nodup
 few:L.length<=4000
theorem tight{w:World}{b n:Nat}{D:DataW Value}(h:FilesAt w b n D):FilesAt w b (Maps.size D) D:=by
 obtain⟨es,clock,hb,F,hs,hD⟩:=h;refine⟨es,clock,hb,F,Nat.le_of_eq ?_,hD⟩;subst hD;simp [Maps.size,length_sorted]
theorem lookup_mem{L:FsL}{p:List UInt8}:L.lookup p=none ↔ p ∉ L.map Prod.fst:=by
 induction L with
 | nil=>simp [List.lookup]
 | cons x r ih=>
  obtain⟨a,c⟩:=x;rw [List.lookup_cons];by_cases e:p=a
  ·subst e;simp
  ·have:(p == a)=false:=by simpa using e
   simp [this,ih,e]
theorem MpAt.empty{w:World}{b:Nat}(h:FilesAt w b 0 (.map [])):MpAt w b (.map []) []:=
 ⟨h,⟨fun p _=>by simp [Maps.has],fun p l hp=>by simp [List.lookup]at hp⟩,by simp [Maps.size],by simp,by simp⟩
theorem MpAt.quiet{w w':World}{b:Nat}{D:DataW Value}{L:FsL}(h:MpAt w b D L)(hm:Mod (fun _=>False) w w'):MpAt w' b D L:=
 ⟨h.map.kept (row:=none) ⟨hm.os,hm.tape,hm.output,hm.size,fun k hk _=>hm.block k hk (fun h=>h)⟩ (fun e=>by cases e),h.files.quiet hm,h.size,h.nodup,h.few⟩
theorem putL_some{L L':FsL}{p l:List UInt8}(h:putL L p l=some L'):L'=L++[(p,l)]/\L.lookup p=none/\1<=l.length/\l.length<=1048576/\L.length<4000/\pathB p=true:=by
 unfold putL at h;split at h
 ·rename_i hc;simp only [Bool.and_eq_true,decide_eq_true_eq,Option.isNone_iff_eq_none]at hc;injection h with h;exact⟨h.symm,hc.2.1,hc.1.2.1,hc.1.2.2,hc.2.2,hc.1.1⟩
 ·cases h
theorem fits_putL{w:World}{b:Nat}{D:DataW Value}{L:FsL}(h:MpAt w b D L)(p l:List UInt8):fitsB D p l.length=(putL L p l).isSome:=by
 have hh:Maps.has D (.string p) = !(L.lookup p).isNone:=by
  cases hl:L.lookup p with
  | none=>rw [h.files.no p hl];rfl
  | some y=>rw [(h.files.yes p y hl).1];rfl
 unfold fitsB putL;rw [hh,h.size,Bool.not_not];split
 ·rename_i hc;rw [hc];rfl
 ·rename_i hc;rw [Bool.not_eq_true]at hc;rw [hc];rfl
theorem MpAt.put{w w':World}{b:Nat}{D:DataW Value}{L L':FsL}{p l:List UInt8}{v:Value}(h:MpAt w b D L)(hp:putL L p l=some L')(hs:FilesAt w' b (L.length+1) (D.put (.string p) (.held v)))(hm:Mod (·=b) w w')(hv:BytesF w' (fun _=>True) v l):
  MpAt w' b (D.put (.string p) (.held v)) L':=by
 obtain⟨rfl,h1,h2,h3,h4,h5⟩:=putL_some hp;refine⟨by rw [List.length_append];exact hs,h.files.put h.map h1 h3 hv hm,?_,?_,by rw [List.length_append];exact h4⟩
 ·rw [Maps.size_put (h.map.tidy (Maps.string_keyed Tryz.underlying9)),h.files.no p h1,h.size];simp
 ·rw [List.map_append,List.nodup_append];refine⟨h.nodup,by simp,fun a ha c hc=>?_⟩;simp at hc;subst hc;rintro rfl;exact lookup_mem.1 h1 ha
structure OrSt(w:World)(ob b:Nat)(D:DataW Value)(L:FsL):Prop where
 blk:Blk w ob 104 #[.map (some b)]
 mp:MpAt w b D L
theorem OrSt.quiet{w w':World}{ob b:Nat}{D:DataW Value}{L:FsL}(h:OrSt w ob b D L)(hm:Mod (fun _=>False) w w'):OrSt w' ob b D L:=⟨h.blk.keep hm (fun h=>h),h.mp.quiet hm⟩
theorem OrSt.org{w:World}{ob b:Nat}{D:DataW Value}{L:FsL}(h:OrSt w ob b D L):OrgAt w ob b L.length D (fun q=>L.lookup q):=⟨h.blk,h.mp.map,h.mp.files⟩
end Go.Proofs.YtnnpoodcdibpiaaGreatDoor
