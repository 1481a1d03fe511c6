/-
  decoder: a coded frame, plain; a decoder in memory.
-/
import Derived.Test.YthednemlahioeaaGreatDoorH11
import Derived.Test.YthednemlahioeaaGreatDoorH26
import Derived.Test.YthednemlahioeaaGreatDoorH23
import Derived.Test.YthednemlahioeaaGreatDoorH1
import Derived.Test.YthednemlahioeaaGreatDoorH0
import Derived.Test.YthednemlahioeaaGreatDoorH4
import Derived.Deep.DeepCutAuto
import Derived.BigQuiet
import Derived.Laws.RangeAny
import Derived.LoopTactic
namespace Go.Proofs.YthednemlahioeaaGreatDoor
open Go.RowKit
set_option maxRecDepth 100000
set_option maxHeartbeats 8000000
def noPix:Pix:=⟨[],[],[]⟩
def mkDim (W H:Int):Dim:=⟨W.toNat,H.toNat,W.toNat / 2,H.toNat / 2,W.toNat * H.toNat,W.toNat / 2 * (H.toNat / 2)⟩
end Go.Proofs.YthednemlahioeaaGreatDoor

namespace Go.Proofs.YthednemlahioeaaGreatDoor
set_option maxRecDepth 100000
set_option maxHeartbeats 8000000
def meanN (W:Nat) (pix:List UInt8) (at_:Nat):Nat:=((pix.getD at_ 0).toNat + (pix.getD (at_ + 1) 0).toNat + (pix.getD (at_ + W) 0).toNat + (pix.getD (at_ + W + 1) 0).toNat + 2) / 4
def hfF (W:Nat) (pix:List UInt8) (W2 k:Nat):UInt8:=UInt8.ofNat (meanN W pix (2 * (k / W2) * W + 2 * (k % W2)))
def hfL (W H:Nat) (pix:List UInt8):List UInt8:=(List.range (W / 2 * (H / 2))).map (hfF W pix (W / 2))
theorem hfL_length (W H:Nat) (pix:List UInt8):(hfL W H pix).length = W / 2 * (H / 2):=by simp [hfL]
theorem meanN_le (W:Nat) (pix:List UInt8) (a:Nat):meanN W pix a ≤ 255:=by
 unfold meanN
 have h:=fun i=>UInt8.toNat_lt (pix.getD i 0)
 have:=h a;have:=h (a + 1);have:=h (a + W);have:=h (a + W + 1)
 omega
theorem hfF_at (W:Nat) (pix:List UInt8) (W2 j i:Nat) (hi:i < W2):(hfF W pix W2 (j * W2 + i)).toNat = meanN W pix (2 * j * W + 2 * i):=by
 unfold hfF
 have h1:(j * W2 + i) % W2 = i:=by rw [Nat.mul_comm,Nat.mul_add_mod,Nat.mod_eq_of_lt hi]
 have h2:(j * W2 + i) / W2 = j:=by rw [Nat.mul_comm,Nat.mul_add_div (by omega),Nat.div_eq_of_lt hi,Nat.add_zero]
 have:=meanN_le W pix (2 * j * W + 2 * i)
 rw [h1,h2,UInt8.toNat_ofNat_of_lt' (Nat.lt_of_le_of_lt this (by decide))]
def Dim.down (d:Dim):Dim:=⟨d.W2,d.H2,d.W2 / 2,d.H2 / 2,d.nC,d.W2 / 2 * (d.H2 / 2)⟩
def downPix (d:Dim) (f:Pix):Pix:=⟨hfL d.W d.H f.Y,hfL d.W2 d.H2 f.U,hfL d.W2 d.H2 f.V⟩
theorem Dim.Ok.down {d:Dim} (h:d.Ok) (hw:d.W % 32 = 0) (hh:d.H % 32 = 0):d.down.Ok:=by
 have a:=h.w2
 have b:=h.h2
 have c:=h.half
 exact ⟨c,by show d.W2 % 16 = 0;omega,by show d.H2 % 16 = 0;omega,by show d.W2 = 2 * (d.W2 / 2);omega,by show d.H2 = 2 * (d.H2 / 2);omega,h.nc,rfl⟩
def Dim.downs (d:Dim):Nat → Dim
 | 0=>d
 | n + 1=>(d.downs n).down
def downsPix (d:Dim) (f:Pix):Nat → Pix
 | 0=>f
 | n + 1=>downPix (d.downs n) (downsPix d f n)
theorem Dim.downs_sides (d:Dim) (n:Nat) (h:d.W2 = d.W / 2 ∧ d.H2 = d.H / 2):(d.downs n).W = d.W / 2 ^ n ∧ (d.downs n).H = d.H / 2 ^ n ∧ (d.downs n).W2 = (d.downs n).W / 2 ∧ (d.downs n).H2 = (d.downs n).H / 2:=by
 induction n with
 | zero=>simp [Dim.downs,h]
 | succ n ih=>
  obtain ⟨h1,h2,h3,h4⟩:=ih
  unfold Dim.downs Dim.down
  dsimp only
  rw [h3,h4,h1,h2,Nat.div_div_eq_div_mul,Nat.div_div_eq_div_mul,← Nat.pow_succ]
  exact ⟨rfl,rfl,rfl,rfl⟩
def encSt (d:Dim) (G tg q:Nat) (fs:List Pix):Nat → Nat × Pix
 | 0=>(q,noPix)
 | k + 1=>(newQ (encSt d G tg q fs k).1 tg G (eframe d (fs.getD k noPix) (encSt d G tg q fs k).2 (k % G) (encSt d G tg q fs k).1).1.length,(eframe d (fs.getD k noPix) (encSt d G tg q fs k).2 (k % G) (encSt d G tg q fs k).1).2)
def outSt (d:Dim) (G tg q:Nat) (fs:List Pix) (k:Nat):List UInt8 × Pix:=eframe d (fs.getD k noPix) (encSt d G tg q fs k).2 (k % G) (encSt d G tg q fs k).1
theorem encSt_succ (d:Dim) (G tg q:Nat) (fs:List Pix) (k:Nat):encSt d G tg q fs (k + 1) = (newQ (encSt d G tg q fs k).1 tg G (outSt d G tg q fs k).1.length,(outSt d G tg q fs k).2):=rfl
def segLen (G n i:Nat):Nat:=min G (n - i * G)
def segOf (d:Dim) (G tg q:Nat) (fs:List Pix) (i:Nat):List (List UInt8 × Pix):=(List.range (segLen G fs.length i)).map fun j=>outSt d G tg q fs (i * G + j)
def segN (G n:Nat):Nat:=(n + G - 1) / G
def segsOf (d:Dim) (G tg q:Nat) (fs:List Pix):List (List (List UInt8 × Pix)):=(List.range (segN G fs.length)).map (segOf d G tg q fs)
theorem newQ_le {q tg G n:Nat} (h:q ≤ 31):newQ q tg G n ≤ 31:=by
 unfold newQ
 split <;> (try split) <;> (try split) <;> omega
theorem encSt_q {d:Dim} {G tg q:Nat} {fs:List Pix} (h:q ≤ 31) (k:Nat):(encSt d G tg q fs k).1 ≤ 31:=by
 induction k with
 | zero=>exact h
 | succ k ih=>rw [encSt_succ];exact newQ_le ih
theorem halved_down (d0:Dim) (h:d0.W2 = d0.W / 2 ∧ d0.H2 = d0.H / 2) (n:Nat):halved (d0.W:Int) (n:Int) = ((d0.downs n).W:Int) ∧ halved (d0.H:Int) (n:Int) = ((d0.downs n).H:Int):=by
 obtain ⟨h1,h2,_,_⟩:=Dim.downs_sides d0 n h
 unfold halved
 rw [h1,h2,show (n:Int).toNat = n from rfl]
 exact ⟨by rw [Int.natCast_ediv],by rw [Int.natCast_ediv]⟩
end Go.Proofs.YthednemlahioeaaGreatDoor
namespace Go.Proofs.YthednemlahioeaaGreatDoor
open Go.RowKit
set_option maxRecDepth 100000
set_option maxHeartbeats 8000000
theorem strOf_size (l:List UInt8):(strOf l).size = l.length:=by unfold strOf;show l.toArray.size = _;simp
theorem strOf_toList (l:List UInt8):(strOf l).toList = l:=ByteArray.toList_mk l
theorem run_index_strOf {P:Program} {t:TypeId} (l:List UInt8) (q:IntKind) (k:Nat) (c:UInt8) (h:P.underlying t = some .string) (hk:l[k]? = some c) (w:World) :
  (Instr.index t (.string (strOf l)) (.int q (k:Int))).run P w = .ok (.int .u8 (c.toNat:Int)) w:=by
 obtain ⟨hlt,he⟩:=List.getElem?_eq_some_iff.1 hk
 rw [run_index_string w t (strOf l) q k h,dif_pos ⟨by omega,by rw [strOf_size];omega⟩]
 congr 3
 show ((strOf l)[k]'(by rw [strOf_size];exact hlt)).toNat = c.toNat
 rw [← he]
 rfl
theorem getE {l:List UInt8} {k:Nat} (h:k < l.length):l[k]? = some l[k]:=List.getElem?_eq_getElem h
theorem all_snoc {p:UInt8 → Bool} {l:List UInt8} {k:Nat} {c:UInt8} (h:(l.take k).all p = true) (hk:l[k]? = some c) (hc:p c = true):(l.take (k + 1)).all p = true:=by
 rw [List.take_add_one,hk,List.all_append,h]
 simp [hc]
theorem all_not {p:UInt8 → Bool} {l:List UInt8} {k:Nat} {c:UInt8} (hk:l[k]? = some c) (hc:p c = false):l.all p = false:=by
 rw [List.all_eq_false]
 exact ⟨c,List.mem_of_getElem? hk,by simp [hc]⟩
theorem all_end {p:UInt8 → Bool} {l:List UInt8} (h:(l.take l.length).all p = true):l.all p = true:=by rwa [List.take_length] at h
theorem letterI (c:UInt8):letterB c = !((decide ((c.toNat:Int) < 97) || decide ((122:Int) < (c.toNat:Int))) && (decide ((c.toNat:Int) < 48) || decide ((57:Int) < (c.toNat:Int)))):=by
 unfold letterB
 rw [Bool.eq_iff_iff]
 simp only [Bool.or_eq_true,decide_eq_true_eq,Bool.not_eq_true',Bool.and_eq_false_iff,Bool.or_eq_false_iff,decide_eq_false_iff_not]
 omega
theorem nameI_no {l:List UInt8} (h:l.all letterB = false):nameB l = false:=by unfold nameB;rw [h,Bool.and_false]
theorem nameI_yes {l:List UInt8} (h:l.all letterB = true):nameB l = decide (1 ≤ l.length ∧ l.length ≤ 8):=by unfold nameB;rw [h,Bool.and_true]
theorem nameI_len {l:List UInt8} (h:¬ (1 ≤ l.length ∧ l.length ≤ 8)):nameB l = false:=by unfold nameB;rw [decide_eq_false h,Bool.false_and]
def nmRel15 (l:List UInt8) (v:Value):Prop:=∃ k:Nat,k ≤ l.length ∧ v = .int .i64 (k:Int) ∧ (l.take k).all letterB = true
theorem strOf_at {l:List UInt8} {k:Nat} (h:k < (strOf l).size) (h2:k < l.length):(strOf l)[k]'h = l[k]'h2:=rfl
theorem rName15 (w : World) (l : List UInt8) (hl : l.length ≤ 9223372036854775807) : Calls Tryz.prog 48 #[.string (strOf l)] w fun e w' => e = .returned (.bool (nameB l)) ∧ w = w' := by
  have hsz := strOf_size l
  go_enter Tryz.func48, Tryz.ntmps48
  go_wp2_with fail
  go_loop [3] (nmRel15 l) (fun i => l.length - (intOf i).toNat)
  case atStart => exact ⟨0, by omega, rfl, by simp⟩
  case round =>
    obtain ⟨k, hk, rfl, hall⟩ := hrel
    have HA := Lib.hid hall
    clear hall
    by_cases hlt : k < l.length
    · have hc := getE hlt
      have d0 : decide ((k : Int) < (l.length : Int)) = true := decide_eq_true (by omega)
      have hx := run_index_strOf (P := Tryz.prog) (t := 9) l .i64 k _ Tryz.underlying9 hc
      generalize hcc : l[k] = c at hc hx
      have hct := c.toNat_lt
      have hld := letterI c
      have HC := Lib.hid (And.intro hc hld)
      clear hc hcc hld
      cases d1 : decide ((c.toNat : Int) < 97) <;> cases d2 : decide ((122 : Int) < (c.toNat : Int)) <;> cases d3 : decide ((c.toNat : Int) < 48) <;> cases d4 : decide ((57 : Int) < (c.toNat : Int)) <;> (
        have HB := HC.out.2
        rw [d1, d2, d3, d4] at HB
        simp only [Bool.or_true, Bool.or_false, Bool.and_true, Bool.and_false, Bool.not_true, Bool.not_false] at HB
        have HD := Lib.hid HB
        clear HB
        go_wp2_with fail
        first
        | exact ⟨⟨k + 1, by omega, by go_num, all_snoc HA.out HC.out.1 HD.out⟩, by simp [intOf]; omega⟩
        | (go_ret
           exact ⟨by rw [nameI_no (all_not HC.out.1 HD.out)]; rfl, rfl⟩))
    · obtain rfl : k = l.length := by omega
      have d0 : decide ((l.length : Int) < (l.length : Int)) = false := decide_eq_false (by omega)
      have HY := Lib.hid (nameI_yes (all_end HA.out))
      cases d1 : decide ((1 : Int) ≤ (l.length : Int)) with
      | false =>
        go_wp2_with fail
        go_ret
        exact ⟨by rw [HY.out, show decide (1 ≤ l.length ∧ l.length ≤ 8) = false from decide_eq_false (by have := of_decide_eq_false d1; omega)]; rfl, rfl⟩
      | true =>
        cases d2 : decide ((l.length : Int) ≤ 8) with
        | false =>
          go_wp2_with fail
          go_ret
          exact ⟨by rw [HY.out, show decide (1 ≤ l.length ∧ l.length ≤ 8) = false from decide_eq_false (by have := of_decide_eq_false d2; omega)]; rfl, rfl⟩
        | true =>
          go_wp2_with fail
          go_ret
          exact ⟨by rw [HY.out, show decide (1 ≤ l.length ∧ l.length ≤ 8) = true from decide_eq_true (by have := of_decide_eq_true d1; have := of_decide_eq_true d2; omega)]; rfl, rfl⟩
theorem lName (w : World) (l : List UInt8) (hl : l.length ≤ 9223372036854775807) : Calls Tryz.prog 91 #[.string (strOf l)] w fun e w' => e = .returned (.bool (nameB l)) ∧ Mod (fun _ => False) w w' := by
  have hsz := strOf_size l
  by_cases h1 : l.length < 1
  · have d1 : decide ((l.length : Int) < 1) = true := decide_eq_true (by omega)
    have HN := Lib.hid (nameI_len (l := l) (by omega))
    go_enter Tryz.func91, Tryz.ntmps91
    go_wp2_with fail
    go_ret
    exact ⟨by rw [HN.out]; rfl, Mod.refl _ _⟩
  · have d1 : decide ((l.length : Int) < 1) = false := decide_eq_false (by omega)
    by_cases h2 : 8 < l.length
    · have d2 : decide (8 < (l.length : Int)) = true := decide_eq_true (by omega)
      have HN := Lib.hid (nameI_len (l := l) (by omega))
      go_enter Tryz.func91, Tryz.ntmps91
      go_wp2_with fail
      go_ret
      exact ⟨by rw [HN.out]; rfl, Mod.refl _ _⟩
    · have d2 : decide (8 < (l.length : Int)) = false := decide_eq_false (by omega)
      have hit : ∀ k, Mod (fun _ => False) w (w.iter (strOf l) k) := fun k => (Mod.refl _ w).alloc _
      have HIT := Lib.hid hit
      clear hit
      go_enter Tryz.func91, Tryz.ntmps91
      go_wp2_with fail
      go_loopw [4] (fun _ w' => ∃ k : Nat, k ≤ l.length ∧ w' = w.iter (strOf l) k ∧ (l.take k).all letterB = true) (fun _ w' => l.length - w'.iterPos w.heap.size)
      case atStart => exact ⟨0, by omega, rfl, by simp⟩
      case round =>
        obtain ⟨k, hk, rfl, hall⟩ := hrel
        have HA := Lib.hid hall
        clear hall
        by_cases hlt : k < l.length
        · have hc := getE hlt
          have hks : k < (strOf l).size := by omega
          generalize hcc : l[k] = c at hc
          have hct := c.toNat_lt
          have hld := letterI c
          have HC := Lib.hid (And.intro hc hld)
          have hce : ((strOf l)[k]'hks) = c := by rw [strOf_at hks hlt]; exact hcc
          clear hc hld
          by_cases ha : c.toNat < 128
          · have hnx : ∀ ty, (Instr.next (.pointer (some ⟨w.heap.size, 0, none⟩)) true ty).run Tryz.prog (w.iter (strOf l) k) = .ok (.tuple #[.bool true, .int .i64 k, .int .i32 c.toNat]) (w.iter (strOf l) (k + 1)) := fun ty => by
              have h := run_next_ascii (P := Tryz.prog) w (strOf l) k ty hks (by rw [hce]; exact ha)
              rw [hce] at h
              exact h
            clear hcc hce
            cases e1 : decide ((c.toNat : Int) < 97) <;> cases e2 : decide ((122 : Int) < (c.toNat : Int)) <;> cases e3 : decide ((c.toNat : Int) < 48) <;> cases e4 : decide ((57 : Int) < (c.toNat : Int)) <;> (
              have HB := HC.out.2
              rw [e1, e2, e3, e4] at HB
              simp only [Bool.or_true, Bool.or_false, Bool.and_true, Bool.and_false, Bool.not_true, Bool.not_false] at HB
              have HD := Lib.hid HB
              clear HB
              go_wp2_with fail
              first
              | (go_ret
                 exact ⟨by rw [nameI_no (all_not HC.out.1 HD.out)]; rfl, HIT.out _⟩)
              | (go_roundw
                 case rel => exact ⟨k + 1, by omega, rfl, all_snoc HA.out HC.out.1 HD.out⟩
                 case measure => simp; omega))
          · have hhi := decode_high (strOf l) k hks (by rw [hce]; omega)
            have hle := decode_le (strOf l) k
            have hnx : ∀ ty, (Instr.next (.pointer (some ⟨w.heap.size, 0, none⟩)) true ty).run Tryz.prog (w.iter (strOf l) k) = _ := fun ty => run_next_any w (strOf l) k ty hks
            have hlb : letterB c = false := by
              unfold letterB
              rw [decide_eq_false (by omega), decide_eq_false (by omega)]
              rfl
            have HN := Lib.hid (nameI_no (all_not HC.out.1 hlb))
            generalize (Utf8.decode (strOf l) k).1 = r at *
            generalize (Utf8.decode (strOf l) k).2 = nn at *
            obtain ⟨hr, hnn⟩ := hhi
            have e1 : decide ((r : Int) < 97) = false := decide_eq_false (by omega)
            have e2 : decide ((122 : Int) < (r : Int)) = true := decide_eq_true (by omega)
            have e3 : decide ((r : Int) < 48) = false := decide_eq_false (by omega)
            have e4 : decide ((57 : Int) < (r : Int)) = true := decide_eq_true (by omega)
            clear hlb hcc hce
            go_wp2_with fail
            go_ret
            exact ⟨by rw [HN.out]; rfl, HIT.out _⟩
        · obtain rfl : k = l.length := by omega
          have hnx : ∀ ty, (Instr.next (.pointer (some ⟨w.heap.size, 0, none⟩)) true ty).run Tryz.prog (w.iter (strOf l) l.length) = .ok (.tuple #[.bool false]) (w.iter (strOf l) l.length) := fun ty => run_next_end w (strOf l) l.length ty (by omega)
          have HY := Lib.hid ((nameI_yes (all_end HA.out)).trans (decide_eq_true ⟨by omega, by omega⟩))
          go_wp2_with fail
          go_ret
          exact ⟨by rw [HY.out]; rfl, HIT.out _⟩
def seqV (W H G:Int):Value:=.agg #[.int .i64 W,.int .i64 H,.int .i64 G]
theorem lSequence (w:World) (W H G D:Int) (hD:0 ≤ D ∧ D ≤ 3) (hW:-1099511627776 ≤ W ∧ W ≤ 1099511627776) (hH:-1099511627776 ≤ H ∧ H ≤ 1099511627776) :
  Calls Tryz.prog 92 #[.int .i64 W,.int .i64 H,.int .i64 G,.int .i64 D] w fun e w'=>e = .returned (seqV (halved W D) (halved H D) G) ∧ Mod (fun _=>False) w w':=by
 obtain ⟨hW1,hW2⟩:=hW
 obtain ⟨hH1,hH2⟩:=hH
 have h4:D = 0 ∨ D = 1 ∨ D = 2 ∨ D = 3:=by omega
 rcases h4 with rfl | rfl | rfl | rfl
 iterate 4
  ·unfold seqV
   go_enter Tryz.func92,Tryz.ntmps92
   go_upto_region 1 with (fail)
   refine wp_region_plan [8] [] [0,1,2,3,4,5,6,7,8] (by kernel_rfl) (by kernel_rfl) (fun _ _ _ d _ h=>by cases d <;> exact h) ?_
   iterate 8 (refine plan_still rfl rfl (fun K hK=>?_);go_simp;refine hK _ ?_;clear hK K)
   refine plan_loud rfl rfl (fun K hK=>?_);go_simp;refine hK _ _ ?_;clear hK K
   refine plan_done ?_
   go_wp2_with fail
   first
   | exact bodyPost_ret (v:=.agg #[.int .i64 W,.int .i64 H,.int .i64 G]) (by simp [results,Tryz.results92,go_sem]) rfl ⟨by rw [halved_0,halved_0],((Mod.refl _ w).alloc _).drew⟩
   | exact bodyPost_ret (v:=.agg #[.int .i64 (W / 2),.int .i64 (H / 2),.int .i64 G]) (by simp [results,Tryz.results92,go_sem]) rfl ⟨rfl,((Mod.refl _ w).alloc _).drew⟩
   | exact bodyPost_ret (v:=.agg #[.int .i64 (W / 4),.int .i64 (H / 4),.int .i64 G]) (by simp [results,Tryz.results92,go_sem]) rfl ⟨rfl,((Mod.refl _ w).alloc _).drew⟩
   | exact bodyPost_ret (v:=.agg #[.int .i64 (W / 8),.int .i64 (H / 8),.int .i64 G]) (by simp [results,Tryz.results92,go_sem]) rfl ⟨rfl,((Mod.refl _ w).alloc _).drew⟩
def Rg.cells (r:Rg):List Value:=[.string (strOf r.name),.int .i64 r.down,.int .i64 r.q,.int .i64 r.tg]
theorem lRightRung (w:World) (W H G:Int) (r:Rg) (hn:r.name.length ≤ 9223372036854775807) (hW:-1099511627776 ≤ W ∧ W ≤ 1099511627776) (hH:-1099511627776 ≤ H ∧ H ≤ 1099511627776) :
  Calls Tryz.prog 47 #[.int .i64 W,.int .i64 H,.int .i64 G,.agg r.cells.toArray] w fun e w'=>e = .returned (.bool (rungB W H G r)) ∧ Mod (fun _=>False) w w':=by
 obtain ⟨nm,dn,qq,tg⟩:=r
 unfold Rg.cells
 dsimp only at hn ⊢
 have h0:=(Sat.nil (fun _=>False) w).alloc 38 #[.string (strOf nm),.int .i64 dn,.int .i64 qq,.int .i64 tg] rfl
 obtain ⟨rc,rf⟩:=(h0.own_ 0 rfl).both
 dsimp only at rc
 have H0:=Lib.hid h0
 have LN:=Lib.hid (fun w=>lName w nm hn)
 clear h0
 cases hnb:nameB nm with
 | false=>
  have HR:Hid (rungB W H G ⟨nm,dn,qq,tg⟩ = false):=by show _ = _;unfold rungB;dsimp only;rw [hnb,Bool.false_and]
  have HNB:=Lib.hid hnb
  clear hnb
  go_enter Tryz.func47,Tryz.ntmps47
  go_wp2_with fail
  refine (LN.out _).mono ?_
  rintro e w1 ⟨rfl,hm1⟩
  rw [HNB.out]
  have H1:=Lib.hid (H0.out.mod.trans hm1)
  clear hm1 rc rf
  go_wp2_with fail
  go_ret
  exact ⟨by rw [HR.out];rfl,H1.out⟩
 | true=>
  have HNB:=Lib.hid hnb
  clear hnb
  by_cases b0:dn < 0
  ·have e0:decide (dn < 0) = true:=decide_eq_true b0
   have ha:rungArgsB ⟨nm,dn,qq,tg⟩ = false:=by unfold rungArgsB;exact decide_eq_false (by dsimp only;omega)
   have HR:Hid (rungB W H G ⟨nm,dn,qq,tg⟩ = false):=by show _ = _;unfold rungB;rw [ha,Bool.false_and,Bool.and_false]
   clear ha
   go_enter Tryz.func47,Tryz.ntmps47
   go_wp2_with fail
   refine (LN.out _).mono ?_
   rintro e w1 ⟨rfl,hm1⟩
   rw [HNB.out]
   have hs1:=H0.out.quiet hm1
   clear rc rf
   obtain ⟨rc,rf⟩:=(hs1.own_ 0 rfl).both
   dsimp only at rc
   have H1:=Lib.hid hs1.mod
   clear hm1 hs1
   go_wp2_with fail
   go_ret
   exact ⟨by rw [HR.out];rfl,H1.out⟩
  have e0:decide (dn < 0) = false:=decide_eq_false b0
  by_cases b1:3 < dn
  ·have e1:decide (3 < dn) = true:=decide_eq_true b1
   have ha:rungArgsB ⟨nm,dn,qq,tg⟩ = false:=by unfold rungArgsB;exact decide_eq_false (by dsimp only;omega)
   have HR:Hid (rungB W H G ⟨nm,dn,qq,tg⟩ = false):=by show _ = _;unfold rungB;rw [ha,Bool.false_and,Bool.and_false]
   clear ha
   go_enter Tryz.func47,Tryz.ntmps47
   go_wp2_with fail
   refine (LN.out _).mono ?_
   rintro e w1 ⟨rfl,hm1⟩
   rw [HNB.out]
   have hs1:=H0.out.quiet hm1
   clear rc rf
   obtain ⟨rc,rf⟩:=(hs1.own_ 0 rfl).both
   dsimp only at rc
   have H1:=Lib.hid hs1.mod
   clear hm1 hs1
   go_wp2_with fail
   go_ret
   exact ⟨by rw [HR.out];rfl,H1.out⟩
  have e1:decide (3 < dn) = false:=decide_eq_false b1
  by_cases b2:qq < 0
  ·have e2:decide (qq < 0) = true:=decide_eq_true b2
   have ha:rungArgsB ⟨nm,dn,qq,tg⟩ = false:=by unfold rungArgsB;exact decide_eq_false (by dsimp only;omega)
   have HR:Hid (rungB W H G ⟨nm,dn,qq,tg⟩ = false):=by show _ = _;unfold rungB;rw [ha,Bool.false_and,Bool.and_false]
   clear ha
   go_enter Tryz.func47,Tryz.ntmps47
   go_wp2_with fail
   refine (LN.out _).mono ?_
   rintro e w1 ⟨rfl,hm1⟩
   rw [HNB.out]
   have hs1:=H0.out.quiet hm1
   clear rc rf
   obtain ⟨rc,rf⟩:=(hs1.own_ 0 rfl).both
   dsimp only at rc
   have H1:=Lib.hid hs1.mod
   clear hm1 hs1
   go_wp2_with fail
   go_ret
   exact ⟨by rw [HR.out];rfl,H1.out⟩
  have e2:decide (qq < 0) = false:=decide_eq_false b2
  by_cases b3:31 < qq
  ·have e3:decide (31 < qq) = true:=decide_eq_true b3
   have ha:rungArgsB ⟨nm,dn,qq,tg⟩ = false:=by unfold rungArgsB;exact decide_eq_false (by dsimp only;omega)
   have HR:Hid (rungB W H G ⟨nm,dn,qq,tg⟩ = false):=by show _ = _;unfold rungB;rw [ha,Bool.false_and,Bool.and_false]
   clear ha
   go_enter Tryz.func47,Tryz.ntmps47
   go_wp2_with fail
   refine (LN.out _).mono ?_
   rintro e w1 ⟨rfl,hm1⟩
   rw [HNB.out]
   have hs1:=H0.out.quiet hm1
   clear rc rf
   obtain ⟨rc,rf⟩:=(hs1.own_ 0 rfl).both
   dsimp only at rc
   have H1:=Lib.hid hs1.mod
   clear hm1 hs1
   go_wp2_with fail
   go_ret
   exact ⟨by rw [HR.out];rfl,H1.out⟩
  have e3:decide (31 < qq) = false:=decide_eq_false b3
  by_cases b4:tg < 0
  ·have e4:decide (tg < 0) = true:=decide_eq_true b4
   have ha:rungArgsB ⟨nm,dn,qq,tg⟩ = false:=by unfold rungArgsB;exact decide_eq_false (by dsimp only;omega)
   have HR:Hid (rungB W H G ⟨nm,dn,qq,tg⟩ = false):=by show _ = _;unfold rungB;rw [ha,Bool.false_and,Bool.and_false]
   clear ha
   go_enter Tryz.func47,Tryz.ntmps47
   go_wp2_with fail
   refine (LN.out _).mono ?_
   rintro e w1 ⟨rfl,hm1⟩
   rw [HNB.out]
   have hs1:=H0.out.quiet hm1
   clear rc rf
   obtain ⟨rc,rf⟩:=(hs1.own_ 0 rfl).both
   dsimp only at rc
   have H1:=Lib.hid hs1.mod
   clear hm1 hs1
   go_wp2_with fail
   go_ret
   exact ⟨by rw [HR.out];rfl,H1.out⟩
  have e4:decide (tg < 0) = false:=decide_eq_false b4
  by_cases b5:1048576 < tg
  ·have e5:decide (1048576 < tg) = true:=decide_eq_true b5
   have ha:rungArgsB ⟨nm,dn,qq,tg⟩ = false:=by unfold rungArgsB;exact decide_eq_false (by dsimp only;omega)
   have HR:Hid (rungB W H G ⟨nm,dn,qq,tg⟩ = false):=by show _ = _;unfold rungB;rw [ha,Bool.false_and,Bool.and_false]
   clear ha
   go_enter Tryz.func47,Tryz.ntmps47
   go_wp2_with fail
   refine (LN.out _).mono ?_
   rintro e w1 ⟨rfl,hm1⟩
   rw [HNB.out]
   have hs1:=H0.out.quiet hm1
   clear rc rf
   obtain ⟨rc,rf⟩:=(hs1.own_ 0 rfl).both
   dsimp only at rc
   have H1:=Lib.hid hs1.mod
   clear hm1 hs1
   go_wp2_with fail
   go_ret
   exact ⟨by rw [HR.out];rfl,H1.out⟩
  have e5:decide (1048576 < tg) = false:=decide_eq_false b5
  have ha:rungArgsB ⟨nm,dn,qq,tg⟩ = true:=by unfold rungArgsB;exact decide_eq_true (by dsimp only;omega)
  have hd:0 ≤ dn ∧ dn ≤ 3:=⟨by omega,by omega⟩
  obtain ⟨w2,hw2⟩:∃ x,x = halved W dn:=⟨_,rfl⟩
  obtain ⟨h2,hh2⟩:∃ x,x = halved H dn:=⟨_,rfl⟩
  have HR:Hid (rungB W H G ⟨nm,dn,qq,tg⟩ = (seqRight w2 h2 G && (decide (w2 * (2 ^ dn.toNat:Nat) = W) && decide (h2 * (2 ^ dn.toNat:Nat) = H)))):=by show _ = _;unfold rungB;rw [ha];dsimp only;rw [HNB.out,Bool.true_and,Bool.true_and,← hw2,← hh2]
  have ls:∀ w:World,Calls Tryz.prog 92 #[.int .i64 W,.int .i64 H,.int .i64 G,.int .i64 dn] w fun e w'=>e = .returned (.agg #[.int .i64 w2,.int .i64 h2,.int .i64 G]) ∧ Mod (fun _=>False) w w':=fun w=>by rw [hw2,hh2];exact lSequence w W H G dn hd hW hH
  have LS:=Lib.hid ls
  clear ls
  clear ha hw2 hh2
  go_enter Tryz.func47,Tryz.ntmps47
  go_wp2_with fail
  refine (LN.out _).mono ?_
  rintro e w1 ⟨rfl,hm1⟩
  rw [HNB.out]
  have hs1:=H0.out.quiet hm1
  clear rc rf
  obtain ⟨rc,rf⟩:=(hs1.own_ 0 rfl).both
  dsimp only at rc
  have H1:=Lib.hid hs1
  clear hm1 hs1
  go_wp2_with fail
  refine (LS.out _).mono ?_
  rintro e w3 ⟨rfl,hm3⟩
  have hs3:=(H1.out.quiet hm3).alloc (g:=w3.heap.size) 40 #[.int .i64 w2,.int .i64 h2,.int .i64 G] rfl
  clear rc rf
  go_upto_region 6 with (fail)
  obtain ⟨sb,hsb⟩:∃ b,b = w3.heap.size:=⟨_,rfl⟩
  rw [← hsb] at hs3 ⊢
  generalize w3.alloc (.cells #[.int .i64 w2,.int .i64 h2,.int .i64 G] 40) = w4 at *
  obtain ⟨sc,sf⟩:=(hs3.own_ 0 rfl).both
  obtain ⟨rc,rf⟩:=(hs3.own_ 1 rfl).both
  dsimp only at sc rc
  have H3:=Lib.hid hs3
  clear hm3 hs3 hsb
  cases hsr:seqRight w2 h2 G with
  | false=>
   go_wp2_with fail
   refine (synRight_no w4 w2 h2 G hsr).mono ?_
   rintro e w5 ⟨rfl,hm5⟩
   have H5:=Lib.hid (And.intro (H3.out.mod.trans hm5) hsr)
   clear hm5 hsr
   go_wp2_with fail
   go_ret
   exact ⟨by rw [HR.out,H5.out.2];rfl,H5.out.1⟩
  | true=>
   go_wp2_with fail
   refine (synRight_yes w4 w2 h2 G hsr).mono ?_
   rintro e w5 ⟨rfl,hm5⟩
   have hs5:=H3.out.quiet hm5
   clear sc sf rc rf
   obtain ⟨sc,sf⟩:=(hs5.own_ 0 rfl).both
   obtain ⟨rc,rf⟩:=(hs5.own_ 1 rfl).both
   dsimp only at sc rc
   have hb:=hsr
   unfold seqRight at hb
   rw [decide_eq_true_eq] at hb
   obtain ⟨⟨a1,a2,_⟩,⟨c1,c2,_⟩,_⟩:=hb
   have H5:=Lib.hid (And.intro hs5.mod hsr)
   clear hm5 hs5 hsr
   have h4:dn = 0 ∨ dn = 1 ∨ dn = 2 ∨ dn = 3:=by omega
   clear hd e0 e1 b0 b1
   rcases h4 with rfl | rfl | rfl | rfl
   ·have HR2:Hid (rungB W H G ⟨nm,0,qq,tg⟩ = (decide (w2 = W) && decide (h2 = H))):=by show _ = _;rw [HR.out,H5.out.2,Bool.true_and,show (((2 ^ (0:Int).toNat:Nat)):Int) = 1 from rfl,Int.mul_one,Int.mul_one]
    by_cases x1:w2 = W
    ·have y1:((w2) == W) = true:=by simpa using x1
     by_cases x2:h2 = H
     ·have y2:((h2) == H) = true:=by simpa using x2
      have HR3:Hid (rungB W H G ⟨nm,0,qq,tg⟩ = true):=by show _ = _;rw [HR2.out,decide_eq_true x1,decide_eq_true x2];rfl
      clear x1 x2
      go_wp2_with fail
      go_ret
      exact ⟨by rw [HR3.out];rfl,H5.out.1⟩
     ·have y2:((h2) == H) = false:=by simpa using x2
      have HR3:Hid (rungB W H G ⟨nm,0,qq,tg⟩ = false):=by show _ = _;rw [HR2.out,decide_eq_false x2,Bool.and_false]
      clear x1 x2
      go_wp2_with fail
      go_ret
      exact ⟨by rw [HR3.out];rfl,H5.out.1⟩
    ·have y1:((w2) == W) = false:=by simpa using x1
     have HR3:Hid (rungB W H G ⟨nm,0,qq,tg⟩ = false):=by show _ = _;rw [HR2.out,decide_eq_false x1,Bool.false_and]
     clear x1
     go_wp2_with fail
     go_ret
     exact ⟨by rw [HR3.out];rfl,H5.out.1⟩
   ·have HR2:Hid (rungB W H G ⟨nm,1,qq,tg⟩ = (decide (w2 * 2 = W) && decide (h2 * 2 = H))):=by show _ = _;rw [HR.out,H5.out.2,Bool.true_and,show (((2 ^ (1:Int).toNat:Nat)):Int) = 2 from rfl]
    by_cases x1:w2 * 2 = W
    ·have y1:((w2 * 2) == W) = true:=by simpa using x1
     by_cases x2:h2 * 2 = H
     ·have y2:((h2 * 2) == H) = true:=by simpa using x2
      have HR3:Hid (rungB W H G ⟨nm,1,qq,tg⟩ = true):=by show _ = _;rw [HR2.out,decide_eq_true x1,decide_eq_true x2];rfl
      clear x1 x2
      go_wp2_with fail
      go_ret
      exact ⟨by rw [HR3.out];rfl,H5.out.1⟩
     ·have y2:((h2 * 2) == H) = false:=by simpa using x2
      have HR3:Hid (rungB W H G ⟨nm,1,qq,tg⟩ = false):=by show _ = _;rw [HR2.out,decide_eq_false x2,Bool.and_false]
      clear x1 x2
      go_wp2_with fail
      go_ret
      exact ⟨by rw [HR3.out];rfl,H5.out.1⟩
    ·have y1:((w2 * 2) == W) = false:=by simpa using x1
     have HR3:Hid (rungB W H G ⟨nm,1,qq,tg⟩ = false):=by show _ = _;rw [HR2.out,decide_eq_false x1,Bool.false_and]
     clear x1
     go_wp2_with fail
     go_ret
     exact ⟨by rw [HR3.out];rfl,H5.out.1⟩
   ·have HR2:Hid (rungB W H G ⟨nm,2,qq,tg⟩ = (decide (w2 * 4 = W) && decide (h2 * 4 = H))):=by show _ = _;rw [HR.out,H5.out.2,Bool.true_and,show (((2 ^ (2:Int).toNat:Nat)):Int) = 4 from rfl]
    by_cases x1:w2 * 4 = W
    ·have y1:((w2 * 4) == W) = true:=by simpa using x1
     by_cases x2:h2 * 4 = H
     ·have y2:((h2 * 4) == H) = true:=by simpa using x2
      have HR3:Hid (rungB W H G ⟨nm,2,qq,tg⟩ = true):=by show _ = _;rw [HR2.out,decide_eq_true x1,decide_eq_true x2];rfl
      clear x1 x2
      go_wp2_with fail
      go_ret
      exact ⟨by rw [HR3.out];rfl,H5.out.1⟩
     ·have y2:((h2 * 4) == H) = false:=by simpa using x2
      have HR3:Hid (rungB W H G ⟨nm,2,qq,tg⟩ = false):=by show _ = _;rw [HR2.out,decide_eq_false x2,Bool.and_false]
      clear x1 x2
      go_wp2_with fail
      go_ret
      exact ⟨by rw [HR3.out];rfl,H5.out.1⟩
    ·have y1:((w2 * 4) == W) = false:=by simpa using x1
     have HR3:Hid (rungB W H G ⟨nm,2,qq,tg⟩ = false):=by show _ = _;rw [HR2.out,decide_eq_false x1,Bool.false_and]
     clear x1
     go_wp2_with fail
     go_ret
     exact ⟨by rw [HR3.out];rfl,H5.out.1⟩
   ·have HR2:Hid (rungB W H G ⟨nm,3,qq,tg⟩ = (decide (w2 * 8 = W) && decide (h2 * 8 = H))):=by show _ = _;rw [HR.out,H5.out.2,Bool.true_and,show (((2 ^ (3:Int).toNat:Nat)):Int) = 8 from rfl]
    by_cases x1:w2 * 8 = W
    ·have y1:((w2 * 8) == W) = true:=by simpa using x1
     by_cases x2:h2 * 8 = H
     ·have y2:((h2 * 8) == H) = true:=by simpa using x2
      have HR3:Hid (rungB W H G ⟨nm,3,qq,tg⟩ = true):=by show _ = _;rw [HR2.out,decide_eq_true x1,decide_eq_true x2];rfl
      clear x1 x2
      go_wp2_with fail
      go_ret
      exact ⟨by rw [HR3.out];rfl,H5.out.1⟩
     ·have y2:((h2 * 8) == H) = false:=by simpa using x2
      have HR3:Hid (rungB W H G ⟨nm,3,qq,tg⟩ = false):=by show _ = _;rw [HR2.out,decide_eq_false x2,Bool.and_false]
      clear x1 x2
      go_wp2_with fail
      go_ret
      exact ⟨by rw [HR3.out];rfl,H5.out.1⟩
    ·have y1:((w2 * 8) == W) = false:=by simpa using x1
     have HR3:Hid (rungB W H G ⟨nm,3,qq,tg⟩ = false):=by show _ = _;rw [HR2.out,decide_eq_false x1,Bool.false_and]
     clear x1
     go_wp2_with fail
     go_ret
     exact ⟨by rw [HR3.out];rfl,H5.out.1⟩
end Go.Proofs.YthednemlahioeaaGreatDoor

