/-
  The key words in memory; walk of signal.Name.
-/
import Derived.WalkMore
import Derived.ChangeKeysEq
import Derived.Test.YtdpbgcmfeajigaaGreatDoorA03
set_option linter.unusedSimpArgs false
set_option linter.unusedVariables false
set_option maxHeartbeats 8000000
set_option maxRecDepth 100000
namespace Go.Proofs.YtdpbgcmfeajigaaGreatDoor
open Go.RowKit
attribute [local go_sem] ak
def keysL:List ByteArray := [⟨#[105,110,112,117,116]⟩,⟨#[111,117,116,112,117,116]⟩,⟨#[112,97,114,116]⟩,⟨#[97,115,115,117,109,101]⟩,⟨#[103,117,97,114,97,110,116,101,101]⟩,⟨#[116,114,117,101]⟩,⟨#[102,97,108,115,101]⟩,⟨#[97,100,100]⟩,⟨#[100,114,111,112]⟩,⟨#[114,101,112,108,97,99,101]⟩]
structure GK (w:World):Prop where
 pos:1<w.heap.size
 at_:∀k,k<10->w.cell? ⟨1,k,none⟩=some (.string (keysL.getD k ByteArray.empty))
theorem GK.below {w w':World}{B:Nat}(h:GK w)(hb:Below B w w')(hB:1<B):GK w' :=
 ⟨Nat.lt_of_lt_of_le h.pos hb.size,λ k hk=>(hb.cell (p:=⟨1,k,none⟩) hB).trans (h.at_ k hk)⟩
def tN (s:ByteArray)(i:Nat):Int:=((s[i]?.getD 0).toNat:Int)
def tq (w wr:World):Prop:=wr=w
def jK (c:Int):Bool:=decide (97<=c)&&decide (c<=122)
def mY (c:Int):Bool:=(decide (48<=c)&&decide (c<=57)) || c==95
def dZ (s:ByteArray)(i:Nat):Bool:=jK (tN s i) || (decide (0<i)&&mY (tN s i))
def nameB (s:ByteArray):Bool:=decide (1<=s.size)&&decide (s.size<=12)&&pO s.size (dZ s) && !(keysL.any λ k=>k.toList==s.toList)
theorem zD {s:ByteArray}(h:s.size<1):nameB s=false:=by unfold nameB;rw[decide_eq_false (by omega)];rfl
theorem CP {s:ByteArray}(h:12<s.size):nameB s=false:=by unfold nameB;rw[decide_eq_false (show¬s.size<=12 by omega)];simp
theorem pq {s:ByteArray}{k:Nat}(hk:k<10)(h:((keysL.getD k ByteArray.empty).toList==s.toList)=true):nameB s=false:=by
 have:keysL.any (λ k=>k.toList==s.toList)=true:=List.any_eq_true.2 ⟨keysL.getD k ByteArray.empty,by have hl:k<keysL.length:=hk;simp only[List.getD,List.getElem?_eq_getElem hl,Option.getD_some];exact List.getElem_mem hl,h⟩;unfold nameB;rw[this];simp
theorem kU {s:ByteArray}(h0:1<=s.size)(h1:s.size<=12)(h:∀k,k<10->((keysL.getD k ByteArray.empty).toList==s.toList)=false):nameB s=pO s.size (dZ s):=by
 have:keysL.any (λ k=>k.toList==s.toList)=false:=by
  rw[List.any_eq_false];intro x hx;obtain⟨k,hk,rfl⟩:=List.getElem_of_mem hx;have:=h k hk;simp only[List.getD,List.getElem?_eq_getElem hk,Option.getD_some]at this;simp[this]
 unfold nameB;rw[this,decide_eq_true h0,decide_eq_true h1];simp
theorem vH (k:Nat)(hk:k<10)(W:World):(Instr.index 176 (.agg #[.string ⟨#[105,110,112,117,116]⟩,.string ⟨#[111,117,116,112,117,116]⟩,.string ⟨#[112,97,114,116]⟩,.string ⟨#[97,115,115,117,109,101]⟩,.string ⟨#[103,117,97,114,97,110,116,101,101]⟩,.string ⟨#[116,114,117,101]⟩,.string ⟨#[102,97,108,115,101]⟩,.string ⟨#[97,100,100]⟩,.string ⟨#[100,114,111,112]⟩,.string ⟨#[114,101,112,108,97,99,101]⟩]) (.int .i64 (k:Int))).run Tryz.prog W = .ok (.string (keysL.getD k ByteArray.empty)) W:=by
 match k,hk with
 | 0,_=>simp[Instr.index,run_underlying (show Tryz.prog.underlying 176=some (.array 10 9)by kernel_rfl),asIntOf,keysL];exact run_part_plain _ (show Tryz.prog.plainKey 9=true by kernel_rfl) rfl
 | 1,_=>simp[Instr.index,run_underlying (show Tryz.prog.underlying 176=some (.array 10 9)by kernel_rfl),asIntOf,keysL];exact run_part_plain _ (show Tryz.prog.plainKey 9=true by kernel_rfl) rfl
 | 2,_=>simp[Instr.index,run_underlying (show Tryz.prog.underlying 176=some (.array 10 9)by kernel_rfl),asIntOf,keysL];exact run_part_plain _ (show Tryz.prog.plainKey 9=true by kernel_rfl) rfl
 | 3,_=>simp[Instr.index,run_underlying (show Tryz.prog.underlying 176=some (.array 10 9)by kernel_rfl),asIntOf,keysL];exact run_part_plain _ (show Tryz.prog.plainKey 9=true by kernel_rfl) rfl
 | 4,_=>simp[Instr.index,run_underlying (show Tryz.prog.underlying 176=some (.array 10 9)by kernel_rfl),asIntOf,keysL];exact run_part_plain _ (show Tryz.prog.plainKey 9=true by kernel_rfl) rfl
 | 5,_=>simp[Instr.index,run_underlying (show Tryz.prog.underlying 176=some (.array 10 9)by kernel_rfl),asIntOf,keysL];exact run_part_plain _ (show Tryz.prog.plainKey 9=true by kernel_rfl) rfl
 | 6,_=>simp[Instr.index,run_underlying (show Tryz.prog.underlying 176=some (.array 10 9)by kernel_rfl),asIntOf,keysL];exact run_part_plain _ (show Tryz.prog.plainKey 9=true by kernel_rfl) rfl
 | 7,_=>simp[Instr.index,run_underlying (show Tryz.prog.underlying 176=some (.array 10 9)by kernel_rfl),asIntOf,keysL];exact run_part_plain _ (show Tryz.prog.plainKey 9=true by kernel_rfl) rfl
 | 8,_=>simp[Instr.index,run_underlying (show Tryz.prog.underlying 176=some (.array 10 9)by kernel_rfl),asIntOf,keysL];exact run_part_plain _ (show Tryz.prog.plainKey 9=true by kernel_rfl) rfl
 | 9,_=>simp[Instr.index,run_underlying (show Tryz.prog.underlying 176=some (.array 10 9)by kernel_rfl),asIntOf,keysL];exact run_part_plain _ (show Tryz.prog.plainKey 9=true by kernel_rfl) rfl
theorem name_any (s:ByteArray)(w:World)(h:GK w):Calls Tryz.prog 122 #[.string s] w λ e w'=>e = .returned (.bool (nameB s))/\Below w.heap.size w w':=by
 have HG:=hid h;have hg0:=h.pos
 obtain⟨k0,k1,k2,k3,k4,k5,k6,k7,k8,k9⟩:w.cell? ⟨1,0,none⟩=some (.string ⟨#[105,110,112,117,116]⟩)/\w.cell? ⟨1,1,none⟩=some (.string ⟨#[111,117,116,112,117,116]⟩)/\w.cell? ⟨1,2,none⟩=some (.string ⟨#[112,97,114,116]⟩)/\w.cell? ⟨1,3,none⟩=some (.string ⟨#[97,115,115,117,109,101]⟩)/\w.cell? ⟨1,4,none⟩=some (.string ⟨#[103,117,97,114,97,110,116,101,101]⟩)/\w.cell? ⟨1,5,none⟩=some (.string ⟨#[116,114,117,101]⟩)/\w.cell? ⟨1,6,none⟩=some (.string ⟨#[102,97,108,115,101]⟩)/\w.cell? ⟨1,7,none⟩=some (.string ⟨#[97,100,100]⟩)/\w.cell? ⟨1,8,none⟩=some (.string ⟨#[100,114,111,112]⟩)/\w.cell? ⟨1,9,none⟩=some (.string ⟨#[114,101,112,108,97,99,101]⟩) :=
  ⟨h.at_ 0 (by omega),h.at_ 1 (by omega),h.at_ 2 (by omega),h.at_ 3 (by omega),h.at_ 4 (by omega),h.at_ 5 (by omega),h.at_ 6 (by omega),h.at_ 7 (by omega),h.at_ 8 (by omega),h.at_ 9 (by omega)⟩
 clear h
 by_cases hs:s.size<1
 ·have HR:=hid (zD hs)
  have hsi:(s.size:Int)<1:=by omega
  have hd:decide ((s.size:Int)<1)=true:=decide_eq_true hsi;clear hs
  go_enter Tryz.func122,Tryz.ntmps122
  go_wp2_with fail
  go_step3
  go_wp2_with fail
  try rw[Exit.noGoto_ret]
  go_ret
  rw[HR.out];exact⟨rfl,by go_grown⟩
 ·by_cases hl:12<s.size
  ·have HR:=hid (CP hl)
   have hsi:¬(s.size:Int)<1:=by omega
   have uj:12<(s.size:Int):=by omega
   have hd:decide ((s.size:Int)<1)=false:=decide_eq_false hsi;have hd2:decide (12<(s.size:Int))=true:=decide_eq_true uj;clear hs hl
   go_enter Tryz.func122,Tryz.ntmps122
   go_wp2_with fail
   go_step3
   go_wp2_with fail
   try rw[Exit.noGoto_ret]
   go_ret
   rw[HR.out];exact⟨rfl,by go_grown⟩
  ·have hsi:¬(s.size:Int)<1:=by omega
   have uj:¬12<(s.size:Int):=by omega
   have hd:decide ((s.size:Int)<1)=false:=decide_eq_false hsi;have hd2:decide (12<(s.size:Int))=false:=decide_eq_false uj;have HS:=hid hs;have HL:=hid hl;clear hs hl
   go_enter Tryz.func122,Tryz.ntmps122
   go_wp2_with fail
   go_step3
   go_wp2_with fail
   go_step3
   go_upto_region 4 with(fail)
   refine aC λ W hW=>?_;have hbw:Below w.heap.size w W:=by rw[hW];go_grown
   subst W;go_wp2_with fail
   go_loopw [3,18] (λ p q wr=>∃i:Nat,i<=s.size/\p = .bool true/\q = .int .i64 (i:Int)/\tq w wr/\jc i (dZ s)) (λ _ q _=>s.size-(intOf q).toNat)
   case atStart=>exact⟨0,Nat.zero_le _,rfl,rfl,rfl,jc.zero _⟩
   case round =>
    obtain⟨i,hi,rfl,rfl,hw,hsf⟩:=hrel;obtain rfl:w=wr:=hw.symm;have oI:=hid hsf;clear hsf
    by_cases hlt:i<s.size
    ·have hii:(i:Int)<s.size:=by omega
     have HX:=hid (show tN s i=((s[i]'hlt).toNat:Int)by unfold tN;simp[hlt])
     by_cases a1:97<=((s[i]'hlt).toNat:Int)
     ·by_cases a2:((s[i]'hlt).toNat:Int)<=122
      ·have lM:=hid (show dZ s i=true by unfold dZ jK mY;rw[HX.out];simp_all)
       go_wp2_with fail
       go_roundw
       case rel=>exact⟨i+1,by omega,rfl,by go_num,rfl,oI.out.succ lM.out⟩
       case measure=>simp[intOf];omega
      ·by_cases h0:0<i
       ·have h0i:0<(i:Int):=by omega
        by_cases b1:48<=((s[i]'hlt).toNat:Int)
        ·by_cases b2:((s[i]'hlt).toNat:Int)<=57
         ·have lM:=hid (show dZ s i=true by unfold dZ jK mY;rw[HX.out];simp_all)
          go_wp2_with fail
          go_roundw
          case rel=>exact⟨i+1,by omega,rfl,by go_num,rfl,oI.out.succ lM.out⟩
          case measure=>simp[intOf];omega
         ·by_cases b3:(((s[i]'hlt).toNat:Int)==95)=true
          ·have lM:=hid (show dZ s i=true by unfold dZ jK mY;rw[HX.out];simp_all)
           go_wp2_with fail
           go_roundw
           case rel=>exact⟨i+1,by omega,rfl,by go_num,rfl,oI.out.succ lM.out⟩
           case measure=>simp[intOf];omega
          ·have b3':(((s[i]'hlt).toNat:Int)==95)=false:=(by simpa using b3);have b3n:¬((s[i]'hlt).toNat:Int)=95:=(by simpa using b3)
           have iY:=hid (show pO s.size (dZ s)=false by
            refine eX hlt ?_
            unfold dZ jK mY;rw[HX.out];simp only[Bool.or_eq_false_iff,Bool.and_eq_false_iff,decide_eq_false_iff_not,beq_eq_false_iff_ne];omega)
           go_wp2_with fail
           go_loopw [48] (λ q wr=>∃k:Nat,k<=10/\q = .int .i64 (k:Int)/\tq w wr/\∀j,j<k->((keysL.getD j ByteArray.empty).toList==s.toList)=false) (λ q _=>10-(intOf q).toNat)
           case atStart=>exact⟨0,Nat.zero_le _,rfl,rfl,λ j h=>absurd h (Nat.not_lt_zero _)⟩
           case round =>
            obtain⟨k,hk,rfl,hw,hall⟩:=hrel;obtain rfl:w=wr:=hw.symm;have HK:=hid hall;clear hall
            by_cases hkl:k<10
            ·have hki:(k:Int)<10:=by omega
             have hix:=vH k hkl;obtain⟨ky,hky⟩:∃ky,keysL.getD k ByteArray.empty=ky:=⟨_,rfl⟩;have EO:=hid hky;rw[hky]at hix;clear hky
             by_cases he:(ky.toList==s.toList)=true
             ·have HR:=hid (pq (s:=s) hkl (by rw[EO.out];exact he))
              go_wp2_with fail
              try rw[Exit.noGoto_ret]
              go_ret
              rw[HR.out];exact⟨rfl,Below.refl _ _⟩
             ·have hef:(ky.toList==s.toList)=false:=by simpa using he
              go_wp2_with fail
              go_roundw
              case rel =>
               refine⟨k+1,by omega,by go_num,rfl,λ j hj=>?_⟩
               by_cases e:j=k
               ·rw[e,EO.out];exact hef
               ·exact HK.out j (by omega)
              case measure=>simp[intOf];omega
            ·have hki:¬(k:Int)<10:=by omega
             have HR:=hid (kU (s:=s) (by have:=HS.out;omega) (by have:=HL.out;omega) (λ j hj=>HK.out j (by omega)));go_wp2_with fail
             try rw[Exit.noGoto_ret]
             go_ret
             rw[HR.out,iY.out];exact⟨rfl,Below.refl _ _⟩
        ·by_cases b3:(((s[i]'hlt).toNat:Int)==95)=true
         ·have lM:=hid (show dZ s i=true by unfold dZ jK mY;rw[HX.out];simp_all)
          go_wp2_with fail
          go_roundw
          case rel=>exact⟨i+1,by omega,rfl,by go_num,rfl,oI.out.succ lM.out⟩
          case measure=>simp[intOf];omega
         ·have b3':(((s[i]'hlt).toNat:Int)==95)=false:=(by simpa using b3);have b3n:¬((s[i]'hlt).toNat:Int)=95:=(by simpa using b3)
          have iY:=hid (show pO s.size (dZ s)=false by
           refine eX hlt ?_
           unfold dZ jK mY;rw[HX.out];simp only[Bool.or_eq_false_iff,Bool.and_eq_false_iff,decide_eq_false_iff_not,beq_eq_false_iff_ne];omega)
          go_wp2_with fail
          go_loopw [48] (λ q wr=>∃k:Nat,k<=10/\q = .int .i64 (k:Int)/\tq w wr/\∀j,j<k->((keysL.getD j ByteArray.empty).toList==s.toList)=false) (λ q _=>10-(intOf q).toNat)
          case atStart=>exact⟨0,Nat.zero_le _,rfl,rfl,λ j h=>absurd h (Nat.not_lt_zero _)⟩
          case round =>
           obtain⟨k,hk,rfl,hw,hall⟩:=hrel;obtain rfl:w=wr:=hw.symm;have HK:=hid hall;clear hall
           by_cases hkl:k<10
           ·have hki:(k:Int)<10:=by omega
            have hix:=vH k hkl;obtain⟨ky,hky⟩:∃ky,keysL.getD k ByteArray.empty=ky:=⟨_,rfl⟩;have EO:=hid hky;rw[hky]at hix;clear hky
            by_cases he:(ky.toList==s.toList)=true
            ·have HR:=hid (pq (s:=s) hkl (by rw[EO.out];exact he))
             go_wp2_with fail
             try rw[Exit.noGoto_ret]
             go_ret
             rw[HR.out];exact⟨rfl,Below.refl _ _⟩
            ·have hef:(ky.toList==s.toList)=false:=by simpa using he
             go_wp2_with fail
             go_roundw
             case rel =>
              refine⟨k+1,by omega,by go_num,rfl,λ j hj=>?_⟩
              by_cases e:j=k
              ·rw[e,EO.out];exact hef
              ·exact HK.out j (by omega)
             case measure=>simp[intOf];omega
           ·have hki:¬(k:Int)<10:=by omega
            have HR:=hid (kU (s:=s) (by have:=HS.out;omega) (by have:=HL.out;omega) (λ j hj=>HK.out j (by omega)));go_wp2_with fail
            try rw[Exit.noGoto_ret]
            go_ret
            rw[HR.out,iY.out];exact⟨rfl,Below.refl _ _⟩
       ·have h0i:¬0<(i:Int):=by omega
        have iY:=hid (show pO s.size (dZ s)=false by
         refine eX hlt ?_
         unfold dZ jK mY;rw[HX.out];simp only[Bool.or_eq_false_iff,Bool.and_eq_false_iff,decide_eq_false_iff_not,beq_eq_false_iff_ne];omega)
        go_wp2_with fail
        go_loopw [48] (λ q wr=>∃k:Nat,k<=10/\q = .int .i64 (k:Int)/\tq w wr/\∀j,j<k->((keysL.getD j ByteArray.empty).toList==s.toList)=false) (λ q _=>10-(intOf q).toNat)
        case atStart=>exact⟨0,Nat.zero_le _,rfl,rfl,λ j h=>absurd h (Nat.not_lt_zero _)⟩
        case round =>
         obtain⟨k,hk,rfl,hw,hall⟩:=hrel;obtain rfl:w=wr:=hw.symm;have HK:=hid hall;clear hall
         by_cases hkl:k<10
         ·have hki:(k:Int)<10:=by omega
          have hix:=vH k hkl;obtain⟨ky,hky⟩:∃ky,keysL.getD k ByteArray.empty=ky:=⟨_,rfl⟩;have EO:=hid hky;rw[hky]at hix;clear hky
          by_cases he:(ky.toList==s.toList)=true
          ·have HR:=hid (pq (s:=s) hkl (by rw[EO.out];exact he))
           go_wp2_with fail
           try rw[Exit.noGoto_ret]
           go_ret
           rw[HR.out];exact⟨rfl,Below.refl _ _⟩
          ·have hef:(ky.toList==s.toList)=false:=by simpa using he
           go_wp2_with fail
           go_roundw
           case rel =>
            refine⟨k+1,by omega,by go_num,rfl,λ j hj=>?_⟩
            by_cases e:j=k
            ·rw[e,EO.out];exact hef
            ·exact HK.out j (by omega)
           case measure=>simp[intOf];omega
         ·have hki:¬(k:Int)<10:=by omega
          have HR:=hid (kU (s:=s) (by have:=HS.out;omega) (by have:=HL.out;omega) (λ j hj=>HK.out j (by omega)));go_wp2_with fail
          try rw[Exit.noGoto_ret]
          go_ret
          rw[HR.out,iY.out];exact⟨rfl,Below.refl _ _⟩
     ·by_cases h0:0<i
      ·have h0i:0<(i:Int):=by omega
       by_cases b1:48<=((s[i]'hlt).toNat:Int)
       ·by_cases b2:((s[i]'hlt).toNat:Int)<=57
        ·have lM:=hid (show dZ s i=true by unfold dZ jK mY;rw[HX.out];simp_all)
         go_wp2_with fail
         go_roundw
         case rel=>exact⟨i+1,by omega,rfl,by go_num,rfl,oI.out.succ lM.out⟩
         case measure=>simp[intOf];omega
        ·by_cases b3:(((s[i]'hlt).toNat:Int)==95)=true
         ·have lM:=hid (show dZ s i=true by unfold dZ jK mY;rw[HX.out];simp_all)
          go_wp2_with fail
          go_roundw
          case rel=>exact⟨i+1,by omega,rfl,by go_num,rfl,oI.out.succ lM.out⟩
          case measure=>simp[intOf];omega
         ·have b3':(((s[i]'hlt).toNat:Int)==95)=false:=(by simpa using b3);have b3n:¬((s[i]'hlt).toNat:Int)=95:=(by simpa using b3)
          have iY:=hid (show pO s.size (dZ s)=false by
           refine eX hlt ?_
           unfold dZ jK mY;rw[HX.out];simp only[Bool.or_eq_false_iff,Bool.and_eq_false_iff,decide_eq_false_iff_not,beq_eq_false_iff_ne];omega)
          go_wp2_with fail
          go_loopw [48] (λ q wr=>∃k:Nat,k<=10/\q = .int .i64 (k:Int)/\tq w wr/\∀j,j<k->((keysL.getD j ByteArray.empty).toList==s.toList)=false) (λ q _=>10-(intOf q).toNat)
          case atStart=>exact⟨0,Nat.zero_le _,rfl,rfl,λ j h=>absurd h (Nat.not_lt_zero _)⟩
          case round =>
           obtain⟨k,hk,rfl,hw,hall⟩:=hrel;obtain rfl:w=wr:=hw.symm;have HK:=hid hall;clear hall
           by_cases hkl:k<10
           ·have hki:(k:Int)<10:=by omega
            have hix:=vH k hkl;obtain⟨ky,hky⟩:∃ky,keysL.getD k ByteArray.empty=ky:=⟨_,rfl⟩;have EO:=hid hky;rw[hky]at hix;clear hky
            by_cases he:(ky.toList==s.toList)=true
            ·have HR:=hid (pq (s:=s) hkl (by rw[EO.out];exact he))
             go_wp2_with fail
             try rw[Exit.noGoto_ret]
             go_ret
             rw[HR.out];exact⟨rfl,Below.refl _ _⟩
            ·have hef:(ky.toList==s.toList)=false:=by simpa using he
             go_wp2_with fail
             go_roundw
             case rel =>
              refine⟨k+1,by omega,by go_num,rfl,λ j hj=>?_⟩
              by_cases e:j=k
              ·rw[e,EO.out];exact hef
              ·exact HK.out j (by omega)
             case measure=>simp[intOf];omega
           ·have hki:¬(k:Int)<10:=by omega
            have HR:=hid (kU (s:=s) (by have:=HS.out;omega) (by have:=HL.out;omega) (λ j hj=>HK.out j (by omega)));go_wp2_with fail
            try rw[Exit.noGoto_ret]
            go_ret
            rw[HR.out,iY.out];exact⟨rfl,Below.refl _ _⟩
       ·by_cases b3:(((s[i]'hlt).toNat:Int)==95)=true
        ·have lM:=hid (show dZ s i=true by unfold dZ jK mY;rw[HX.out];simp_all)
         go_wp2_with fail
         go_roundw
         case rel=>exact⟨i+1,by omega,rfl,by go_num,rfl,oI.out.succ lM.out⟩
         case measure=>simp[intOf];omega
        ·have b3':(((s[i]'hlt).toNat:Int)==95)=false:=(by simpa using b3);have b3n:¬((s[i]'hlt).toNat:Int)=95:=(by simpa using b3)
         have iY:=hid (show pO s.size (dZ s)=false by
          refine eX hlt ?_
          unfold dZ jK mY;rw[HX.out];simp only[Bool.or_eq_false_iff,Bool.and_eq_false_iff,decide_eq_false_iff_not,beq_eq_false_iff_ne];omega)
         go_wp2_with fail
         go_loopw [48] (λ q wr=>∃k:Nat,k<=10/\q = .int .i64 (k:Int)/\tq w wr/\∀j,j<k->((keysL.getD j ByteArray.empty).toList==s.toList)=false) (λ q _=>10-(intOf q).toNat)
         case atStart=>exact⟨0,Nat.zero_le _,rfl,rfl,λ j h=>absurd h (Nat.not_lt_zero _)⟩
         case round =>
          obtain⟨k,hk,rfl,hw,hall⟩:=hrel;obtain rfl:w=wr:=hw.symm;have HK:=hid hall;clear hall
          by_cases hkl:k<10
          ·have hki:(k:Int)<10:=by omega
           have hix:=vH k hkl;obtain⟨ky,hky⟩:∃ky,keysL.getD k ByteArray.empty=ky:=⟨_,rfl⟩;have EO:=hid hky;rw[hky]at hix;clear hky
           by_cases he:(ky.toList==s.toList)=true
           ·have HR:=hid (pq (s:=s) hkl (by rw[EO.out];exact he))
            go_wp2_with fail
            try rw[Exit.noGoto_ret]
            go_ret
            rw[HR.out];exact⟨rfl,Below.refl _ _⟩
           ·have hef:(ky.toList==s.toList)=false:=by simpa using he
            go_wp2_with fail
            go_roundw
            case rel =>
             refine⟨k+1,by omega,by go_num,rfl,λ j hj=>?_⟩
             by_cases e:j=k
             ·rw[e,EO.out];exact hef
             ·exact HK.out j (by omega)
            case measure=>simp[intOf];omega
          ·have hki:¬(k:Int)<10:=by omega
           have HR:=hid (kU (s:=s) (by have:=HS.out;omega) (by have:=HL.out;omega) (λ j hj=>HK.out j (by omega)));go_wp2_with fail
           try rw[Exit.noGoto_ret]
           go_ret
           rw[HR.out,iY.out];exact⟨rfl,Below.refl _ _⟩
      ·have h0i:¬0<(i:Int):=by omega
       have iY:=hid (show pO s.size (dZ s)=false by
        refine eX hlt ?_
        unfold dZ jK mY;rw[HX.out];simp only[Bool.or_eq_false_iff,Bool.and_eq_false_iff,decide_eq_false_iff_not,beq_eq_false_iff_ne];omega)
       go_wp2_with fail
       go_loopw [48] (λ q wr=>∃k:Nat,k<=10/\q = .int .i64 (k:Int)/\tq w wr/\∀j,j<k->((keysL.getD j ByteArray.empty).toList==s.toList)=false) (λ q _=>10-(intOf q).toNat)
       case atStart=>exact⟨0,Nat.zero_le _,rfl,rfl,λ j h=>absurd h (Nat.not_lt_zero _)⟩
       case round =>
        obtain⟨k,hk,rfl,hw,hall⟩:=hrel;obtain rfl:w=wr:=hw.symm;have HK:=hid hall;clear hall
        by_cases hkl:k<10
        ·have hki:(k:Int)<10:=by omega
         have hix:=vH k hkl;obtain⟨ky,hky⟩:∃ky,keysL.getD k ByteArray.empty=ky:=⟨_,rfl⟩;have EO:=hid hky;rw[hky]at hix;clear hky
         by_cases he:(ky.toList==s.toList)=true
         ·have HR:=hid (pq (s:=s) hkl (by rw[EO.out];exact he))
          go_wp2_with fail
          try rw[Exit.noGoto_ret]
          go_ret
          rw[HR.out];exact⟨rfl,Below.refl _ _⟩
         ·have hef:(ky.toList==s.toList)=false:=by simpa using he
          go_wp2_with fail
          go_roundw
          case rel =>
           refine⟨k+1,by omega,by go_num,rfl,λ j hj=>?_⟩
           by_cases e:j=k
           ·rw[e,EO.out];exact hef
           ·exact HK.out j (by omega)
          case measure=>simp[intOf];omega
        ·have hki:¬(k:Int)<10:=by omega
         have HR:=hid (kU (s:=s) (by have:=HS.out;omega) (by have:=HL.out;omega) (λ j hj=>HK.out j (by omega)));go_wp2_with fail
         try rw[Exit.noGoto_ret]
         go_ret
         rw[HR.out,iY.out];exact⟨rfl,Below.refl _ _⟩
    ·have hii:¬(i:Int)<s.size:=by omega
     have iY:=hid (oI.out.all (show s.size<=i by omega));go_wp2_with fail
     go_loopw [48] (λ q wr=>∃k:Nat,k<=10/\q = .int .i64 (k:Int)/\tq w wr/\∀j,j<k->((keysL.getD j ByteArray.empty).toList==s.toList)=false) (λ q _=>10-(intOf q).toNat)
     case atStart=>exact⟨0,Nat.zero_le _,rfl,rfl,λ j h=>absurd h (Nat.not_lt_zero _)⟩
     case round =>
      obtain⟨k,hk,rfl,hw,hall⟩:=hrel;obtain rfl:w=wr:=hw.symm;have HK:=hid hall;clear hall
      by_cases hkl:k<10
      ·have hki:(k:Int)<10:=by omega
       have hix:=vH k hkl;obtain⟨ky,hky⟩:∃ky,keysL.getD k ByteArray.empty=ky:=⟨_,rfl⟩;have EO:=hid hky;rw[hky]at hix;clear hky
       by_cases he:(ky.toList==s.toList)=true
       ·have HR:=hid (pq (s:=s) hkl (by rw[EO.out];exact he))
        go_wp2_with fail
        try rw[Exit.noGoto_ret]
        go_ret
        rw[HR.out];exact⟨rfl,Below.refl _ _⟩
       ·have hef:(ky.toList==s.toList)=false:=by simpa using he
        go_wp2_with fail
        go_roundw
        case rel =>
         refine⟨k+1,by omega,by go_num,rfl,λ j hj=>?_⟩
         by_cases e:j=k
         ·rw[e,EO.out];exact hef
         ·exact HK.out j (by omega)
        case measure=>simp[intOf];omega
      ·have hki:¬(k:Int)<10:=by omega
       have HR:=hid (kU (s:=s) (by have:=HS.out;omega) (by have:=HL.out;omega) (λ j hj=>HK.out j (by omega)));go_wp2_with fail
       try rw[Exit.noGoto_ret]
       go_ret
       rw[HR.out,iY.out];exact⟨rfl,Below.refl _ _⟩
end Go.Proofs.YtdpbgcmfeajigaaGreatDoor
