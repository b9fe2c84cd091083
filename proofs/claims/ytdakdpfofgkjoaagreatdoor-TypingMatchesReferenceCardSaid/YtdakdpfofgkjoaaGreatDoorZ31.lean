/-
  The reference's opposed.
-/
import Derived.Test.YtdakdpfofgkjoaaGreatDoorZ30
set_option linter.unusedSimpArgs false
set_option linter.unusedVariables false
set_option maxHeartbeats 8000000
set_option maxRecDepth 100000
namespace Go.Proofs.YtdakdpfofgkjoaaGreatDoor
open Go.RowKit Go.Shelf
attribute [local go_sem] qad qbo
theorem qkh {E:Dom} (gs:List Fm) (A:Option Addr) (n c:Nat) (w:World) (h:RdA w E gs A c) (hn:n=gs.length) (h4 : ∀ f,f∈gs→f.op=4→0 < f.args.length) :
  Calls Tryz.prog 98 #[.slice A n c] w fun e w'=>e = .returned (.bool (qky gs))∧Below w.heap.size w w':=by
 subst hn
 have hlen:=h.len.1
 have HR:=hid h
 have H4:=hid h4
 clear h h4
 go_enter Tryz.func98,Tryz.ntmps98
 go_wp2_with fail
 go_loopw [3] (fun q wr => ∃ i:Nat,i≤gs.length∧q = .int .i64 (i:Int)∧Hid (∀ j,j < i → ∀ k,k < gs.length→oppR gs j k=false)∧Hid (Below w.heap.size w wr)) (fun q _=>gs.length - (intOf q).toNat)
 case atStart=>exact ⟨0,Nat.zero_le _,rfl,fun j hj=>absurd hj (Nat.not_lt_zero _),Below.refl _ _⟩
 case round =>
  obtain ⟨i,hi,rfl,HI,HBR⟩:=hrel
  by_cases hlt:i < gs.length
  ·have hii:(i:Int) < gs.length:=by omega
   have hi0:(0:Int)≤(i:Int):=by omega
   have HLT:=hid hlt
   obtain ⟨W0,hW0⟩ : ∃ W0,W0=wr:=⟨_,rfl⟩
   rw [←hW0] at HBR ⊢
   clear hW0 hi
   go_wp2_with fail
   go_loopw [4] (fun q wr => ∃ k:Nat,k≤gs.length∧q = .int .i64 (k:Int)∧Hid (∀ j,j < k→oppR gs i j=false)∧Hid (Below W0.heap.size W0 wr)) (fun q _=>gs.length - (intOf q).toNat)
   case atStart=>exact ⟨0,Nat.zero_le _,rfl,fun j hj=>absurd hj (Nat.not_lt_zero _),Below.refl _ _⟩
   case round =>
    obtain ⟨k,hk,rfl,HK,HBK⟩:=hrel
    have HBW:=hid (qac HBR.out HBK.out)
    by_cases hlk:k < gs.length
    ·have hki:(k:Int) < gs.length:=by omega
     have hk0:(0:Int)≤(k:Int):=by omega
     have HLK:=hid hlk
     have HRr:=hid (HR.out.belowD HBW.out)
     obtain ⟨b1,o1,A1,c1,x,rfl,HX,hf1⟩:=HRr.out.get hlk
     obtain ⟨b1',o1',A3,c3,z,he,HZ,hf3⟩:=HRr.out.get HLT.out
     cases he
     have HFX:=hid hf1
     have HFZ:=hid hf3
     have HXX:=hid HX.out
     have HZZ:=hid HZ.out
     clear hk HX HZ
     by_cases h4:x.op=4
     ·have hxl:0 < x.args.length:=H4.out x (by rw [←HXX.out];exact qa1 HLK.out) h4
      obtain ⟨b2,o2,A2,c2,y,hA1,HY,hf2⟩:=HFX.out.args.get (k:=0) hxl
      rw [hA1] at HFX
      rw [Nat.zero_mul,Nat.add_zero] at hf2
      have HFY:=hid hf2
      have hx0:(0:Int) < x.args.length:=by omega
      have HCELL:Hid (∀ W':World,Below wr.heap.size wr W'→(fun W':World=>W'.cell? ⟨b1,o1+k * 5,none⟩=some (.int .i64 4)∧W'.cell? ⟨b1,o1+k * 5+4,none⟩=some (.slice (some ⟨b2,o2,none⟩) x.args.length c1)∧W'.cell? ⟨b2,o2,none⟩=some (.int .i64 y.op)∧W'.cell? ⟨b2,o2+1,none⟩=some (.string y.name)∧W'.cell? ⟨b2,o2+2,none⟩=some (.int .i64 y.val)∧W'.cell? ⟨b2,o2+3,none⟩=some (.int .i64 y.bound)∧W'.cell? ⟨b2,o2+4,none⟩=some (.slice A2 y.args.length c2)∧W'.cell? ⟨b1,o1+i * 5,none⟩=some (.int .i64 z.op)∧W'.cell? ⟨b1,o1+i * 5+1,none⟩=some (.string z.name)∧W'.cell? ⟨b1,o1+i * 5+2,none⟩=some (.int .i64 z.val)∧W'.cell? ⟨b1,o1+i * 5+3,none⟩=some (.int .i64 z.bound)∧W'.cell? ⟨b1,o1+i * 5+4,none⟩=some (.slice A3 z.args.length c3)) W'):=hid fun W' hb'=>by
       obtain ⟨a0,a1,a2,a3,a4⟩:=HFX.out.keepB hb'
       obtain ⟨p0,p1,p2,p3,p4⟩:=HFY.out.keepB hb'
       obtain ⟨z0,z1,z2,z3,z4⟩:=HFZ.out.keepB hb'
       rw [h4] at a0
       exact ⟨a0,a4,p0,p1,p2,p3,p4,z0,z1,z2,z3,z4⟩
      have hl1:b1 < wr.heap.size:=hf3.lt
      have hl2:b2 < wr.heap.size:=hf2.lt
      have HSA:=hid (fun (W':World) (hb:Below wr.heap.size wr W')=>qiq (D:=E) (E:=E) y z (.agg #[.int .i64 y.op,.string y.name,.int .i64 y.val,.int .i64 y.bound,.slice A2 y.args.length c2]) (.agg #[.int .i64 z.op,.string z.name,.int .i64 z.val,.int .i64 z.bound,.slice A3 z.args.length c3]) W' ⟨A2,c2,rfl,HFY.out.args.belowD hb⟩ ⟨A3,c3,rfl,HFZ.out.args.belowD hb⟩)
      have HOP:=hid (show oppR gs i k=decide (y.cmp z=0) by
       unfold oppR
       rw [HXX.out,HZZ.out,decide_eq_true h4,show x.args.getD 0 default=y from HY.out];rfl)
      clear hf1 hf2 hf3 h4 HY hA1
      obtain ⟨a0,a4,p0,p1,p2,p3,p4,z0,z1,z2,z3,z4⟩:=HCELL.out _ (Below.refl _ _)
      by_cases hz:y.cmp z=0
      ·have hdz:decide (y.cmp z=0)=true:=decide_eq_true hz
       have HYES:=hid (oppR_yes HLT.out HLK.out (by rw [HOP.out];exact hdz))
       rw [hdz] at HSA
       clear hz hdz
       go_upto_region 7 with (fail)
       first
        | go_region_held3 (fun W':World=>W'.cell? ⟨b1,o1+k * 5,none⟩=some (.int .i64 4)∧W'.cell? ⟨b1,o1+k * 5+4,none⟩=some (.slice (some ⟨b2,o2,none⟩) x.args.length c1)∧W'.cell? ⟨b2,o2,none⟩=some (.int .i64 y.op)∧W'.cell? ⟨b2,o2+1,none⟩=some (.string y.name)∧W'.cell? ⟨b2,o2+2,none⟩=some (.int .i64 y.val)∧W'.cell? ⟨b2,o2+3,none⟩=some (.int .i64 y.bound)∧W'.cell? ⟨b2,o2+4,none⟩=some (.slice A2 y.args.length c2)∧W'.cell? ⟨b1,o1+i * 5,none⟩=some (.int .i64 z.op)∧W'.cell? ⟨b1,o1+i * 5+1,none⟩=some (.string z.name)∧W'.cell? ⟨b1,o1+i * 5+2,none⟩=some (.int .i64 z.val)∧W'.cell? ⟨b1,o1+i * 5+3,none⟩=some (.int .i64 z.bound)∧W'.cell? ⟨b1,o1+i * 5+4,none⟩=some (.slice A3 z.args.length c3))
          (first | (go_keep;done) | (with_reducible exact HCELL.out _ HB5.out) | ((with_reducible refine HCELL.out _ ?_);go_grown))
          ((go_at_call 15;(with_reducible refine (HSA.out _ ?_).mono ?_);(focus (first | exact Below.refl _ _ | go_grown | exact (qao.n _ _).below _));rintro e W5 ⟨rfl,hb5⟩;have HB5:=hid ((show Below wr.heap.size wr _ by first | exact Below.refl _ _ | go_grown | exact (qao.n _ _).below _).trans (hb5.mono (by first | exact Nat.le_refl _ | simp)));clear hb5))
        | fail
       all_goals
        go_wp2_with fail
        go_ret
        rw [HYES.out]
        exact ⟨rfl,qac HBW.out HB5.out⟩
      ·have hdz:decide (y.cmp z=0)=false:=decide_eq_false hz
       have HNO:=hid (show oppR gs i k=false by rw [HOP.out];exact hdz)
       rw [hdz] at HSA
       clear hz hdz
       go_upto_region 7 with (fail)
       first
        | go_region_held3 (fun W':World=>W'.cell? ⟨b1,o1+k * 5,none⟩=some (.int .i64 4)∧W'.cell? ⟨b1,o1+k * 5+4,none⟩=some (.slice (some ⟨b2,o2,none⟩) x.args.length c1)∧W'.cell? ⟨b2,o2,none⟩=some (.int .i64 y.op)∧W'.cell? ⟨b2,o2+1,none⟩=some (.string y.name)∧W'.cell? ⟨b2,o2+2,none⟩=some (.int .i64 y.val)∧W'.cell? ⟨b2,o2+3,none⟩=some (.int .i64 y.bound)∧W'.cell? ⟨b2,o2+4,none⟩=some (.slice A2 y.args.length c2)∧W'.cell? ⟨b1,o1+i * 5,none⟩=some (.int .i64 z.op)∧W'.cell? ⟨b1,o1+i * 5+1,none⟩=some (.string z.name)∧W'.cell? ⟨b1,o1+i * 5+2,none⟩=some (.int .i64 z.val)∧W'.cell? ⟨b1,o1+i * 5+3,none⟩=some (.int .i64 z.bound)∧W'.cell? ⟨b1,o1+i * 5+4,none⟩=some (.slice A3 z.args.length c3))
          (first | (go_keep;done) | (with_reducible exact HCELL.out _ HB5.out) | ((with_reducible refine HCELL.out _ ?_);go_grown))
          ((go_at_call 15;(with_reducible refine (HSA.out _ ?_).mono ?_);(focus (first | exact Below.refl _ _ | go_grown | exact (qao.n _ _).below _));rintro e W5 ⟨rfl,hb5⟩;have HB5:=hid ((show Below wr.heap.size wr _ by first | exact Below.refl _ _ | go_grown | exact (qao.n _ _).below _).trans (hb5.mono (by first | exact Nat.le_refl _ | simp)));clear hb5))
        | fail
       all_goals
        go_wp2_with fail
        go_roundw
        case rel=>exact ⟨k+1,by have:=HLK.out;omega,by go_num,fun j hj=>by
         by_cases hjk:j < k
         ·exact HK.out j hjk
         ·have:j=k:=by omega
          subst this
          exact HNO.out,qac HBK.out HB5.out⟩
        case measure=>have:=HLK.out;simp [intOf];omega
     ·have d4:(x.op == 4)=false:=qar h4
      have HNO:=hid (show oppR gs i k=false by unfold oppR;rw [HXX.out,decide_eq_false h4];rfl)
      obtain ⟨-,hl1,y0,y1,y2,y3,y4, -⟩:=hf1
      clear h4 hf3
      go_upto_region 7 with (fail)
      go_quiet (fail)
      go_wp2_with fail
      go_roundw
      case rel=>exact ⟨k+1,by have:=HLK.out;omega,by go_num,fun j hj=>by
       by_cases hjk:j < k
       ·exact HK.out j hjk
       ·have:j=k:=by omega
        subst this
        exact HNO.out,HBK.out.trans ((qao.n _ _).below _)⟩
      case measure=>have:=HLK.out;simp [intOf];omega
    ·have hki : ¬ (k:Int) < gs.length:=by omega
     have HKL:=hid (show k=gs.length by omega)
     clear hk hlk
     go_wp2_with fail
     go_roundw
     case rel=>exact ⟨i+1,by have:=HLT.out;omega,by go_num,fun j hj k' hk'=>by
      by_cases hji:j < i
      ·exact HI.out j hji k' hk'
      ·have:j=i:=by omega
       subst this
       exact HK.out k' (by rw [HKL.out];exact hk'),HBW.out⟩
     case measure=>have:=HLT.out;simp [intOf];omega
  ·have hii : ¬ (i:Int) < gs.length:=by omega
   have HNO:=hid (oppR_no (gs:=gs) fun j hj k hk=>HI.out j (by omega) k hk)
   clear hi
   go_wp2_with fail
   go_ret
   rw [HNO.out]
   exact ⟨rfl,HBR.out⟩
end Go.Proofs.YtdakdpfofgkjoaaGreatDoor
