/-
  Walk of shaped: has a node the fields of its operator?
-/
import Derived.Test.YtdpbgcmfeajigaaGreatDoorP04
set_option linter.unusedSimpArgs false
set_option linter.unusedVariables false
set_option maxHeartbeats 8000000
set_option maxRecDepth 100000
namespace Go.Proofs.YtdpbgcmfeajigaaGreatDoor
open Go.RowKit
attribute [local go_sem] ak
def rM (s:Form)(n:ByteArray):Bool:=if s.named then nameB n else n.toList.isEmpty
def bQ (f:Fm):Bool:=isOp f.op&&decide ((aI f.op).least<=f.args.length)&&decide (f.args.length<=(aI f.op).most)&&decide (0<=f.val)&&decide (f.val<=(aI f.op).val)&&decide (0<=f.bound)&&decide (f.bound<=(aI f.op).bound)&&rM (aI f.op) f.name
theorem iU {f:Fm}(h:isOp f.op=false\/f.args.length<(aI f.op).least\/(aI f.op).most<f.args.length\/f.val<0\/(aI f.op).val<f.val\/f.bound<0\/(aI f.op).bound<f.bound):bQ f=false:=by
 cases hb:bQ f
 ·rfl
 ·exfalso
  unfold bQ at hb;simp only[Bool.and_eq_true,decide_eq_true_eq]at hb;obtain⟨⟨⟨⟨⟨⟨⟨h1,h2⟩,h3⟩,h4⟩,h5⟩,h6⟩,h7⟩,_⟩:=hb
  rcases h with h|h|h|h|h|h|h
  ·rw[h1]at h;cases h
  all_goals omega
theorem OJ {f:Fm}{s:Form}(hs:aI f.op=s)(h0:isOp f.op=true)(h1:s.least<=f.args.length)(h2:f.args.length<=s.most)(h3:0<=f.val)(h4:f.val<=s.val)(h5:0<=f.bound)(h6:f.bound<=s.bound):bQ f=rM s f.name:=by
 unfold bQ;rw[hs,h0,decide_eq_true h1,decide_eq_true h2,decide_eq_true h3,decide_eq_true h4,decide_eq_true h5,decide_eq_true h6];rfl
theorem GH {D:Dom}(f:Fm)(b o:Nat)(A:Option Addr)(c:Nat)(w:World)(h:dU w D b o f A c)(hg:GF w)(hk:GK w) :
  Calls Tryz.prog 119 #[.pointer (some ⟨b,o,none⟩)] w fun e w'=>e = .returned (.bool (bQ f))/\Below w.heap.size w w':=by
 have HH:=hid h.old;have yh:=hid hg;have LZ:=hid hk;have hk1:=hk.pos;obtain⟨_,hl,c0,c1,c2,c3,c4,_⟩:=HH.out;have hcall:=qF f.op w hg;unfold I7 at hcall;obtain⟨s,hs⟩:∃s,aI f.op=s:=⟨_,rfl⟩;obtain⟨q,hq⟩:∃q,isOp f.op=q:=⟨_,rfl⟩;rw[hs,hq]at hcall;have aO:=hid hcall;have Em:=hid hs;have HQ:=hid hq;clear hs hq hcall h hg hk
 go_enter Tryz.func119,Tryz.ntmps119
 go_upto_region 2 with(first|(go_at_call 52;refine aO.out.mono ?_;rintro e w1 ⟨rfl,hb1⟩))
 refine aH fun W hW=>?_;have hb2:Below w1.heap.size w1 W:=by rw[hW];go_grown
 have hc:W.heap[w1.heap.size]?=some (.cells #[.int .i64 s.least,.int .i64 s.most,.int .i64 s.val,.int .i64 s.bound,.bool s.named,.bool s.past,.bool s.future,.bool s.loose] 78 (0,0)):=by rw[hW];exact heap_alloc_new w1 _
 have aY:=hid (hb1.trans (hb2.mono hb1.size));have r0:=aj hc (i:=0) rfl;have r1:=aj hc (i:=1) rfl;have r2:=aj hc (i:=2) rfl;have r3:=aj hc (i:=3) rfl;have r4:=aj hc (i:=4) rfl;obtain⟨_,hl2,c0,c1,c2,c3,c4,_⟩:=HH.out.keep (Keeps.of_below aY.out fun _ h=>h);have hgf:=yh.out.below aY.out (by omega);have hgk:=LZ.out.below aY.out hk1;have qeU:=hid hgk;clear hW hb1 hb2 hgf hgk hl;have hrl:w1.heap.size<W.heap.size:=lt_of_block hc;cases q
 ·have HR:=hid (iU (f:=f) (.inl HQ.out))
  go_quiet (fail)
  go_wp2_with fail
  go_ret
  rw[HR.out];exact⟨rfl,aY.out.trans ((aU.n W nq).below _)⟩
 ·by_cases hlt:(f.args.length:Int)<s.least
  ·have dl:decide ((f.args.length:Int)<s.least)=true:=decide_eq_true hlt
   have HR:=hid (iU (f:=f) (.inr (.inl (by rw[Em.out];omega))))
   go_quiet (fail)
   go_wp2_with fail
   go_ret
   rw[HR.out];exact⟨rfl,aY.out.trans ((aU.n W nq).below _)⟩
  ·have dl:decide ((f.args.length:Int)<s.least)=false:=decide_eq_false hlt
   by_cases hgt:(s.most:Int)<f.args.length
   ·have dm:decide ((s.most:Int)<f.args.length)=true:=decide_eq_true hgt
    have HR:=hid (iU (f:=f) (.inr (.inr (.inl (by rw[Em.out];omega)))))
    go_quiet (fail)
    go_wp2_with fail
    go_ret
    rw[HR.out];exact⟨rfl,aY.out.trans ((aU.n W nq).below _)⟩
   ·have dm:decide ((s.most:Int)<f.args.length)=false:=decide_eq_false hgt
    go_quiet (fail)
    obtain⟨W2,hW2,hdr⟩:∃W9,W9=W.drewN nq/\aU W W9:=⟨_,rfl,nq,rfl⟩;rw[<-hW2];have vg:=hdr.below W.heap.size;have Hg:=(vg.block _ hrl).trans hc;have tV:=hid (aY.out.trans (vg.mono aY.out.size));have qf7:=qeU.out.below vg (by have:=qeU.out.pos;omega);have qeT:=hid qf7;clear c0 c1 c2 c3 c4 r0 r1 r2 r3 r4 hW2 hdr vg qf7 dl dm hc hl2;have r2:=aj Hg (i:=2) rfl;have r3:=aj Hg (i:=3) rfl;have r4:=aj Hg (i:=4) rfl;obtain⟨_,hl2,c0,c1,c2,c3,c4,_⟩:=HH.out.keep (Keeps.of_below tV.out fun _ h=>h);have hrl2:w1.heap.size<W2.heap.size:=lt_of_block Hg;clear Hg hrl;have fQ:=hid hlt;have HGT:=hid hgt;clear hlt hgt
    by_cases hv0:f.val<0
    ·have dl:decide (f.val<0)=true:=decide_eq_true hv0
     have HR:=hid (iU (f:=f) (.inr (.inr (.inr (.inl hv0)))));go_upto_region 4 with(fail)
     go_quiet (fail)
     go_wp2_with fail
     go_ret
     rw[HR.out];exact⟨rfl,tV.out.trans ((aU.n W2 nq).below _)⟩
    ·have dl:decide (f.val<0)=false:=decide_eq_false hv0
     by_cases hv1:s.val<f.val
     ·have dm:decide (s.val<f.val)=true:=decide_eq_true hv1
      have HR:=hid (iU (f:=f) (.inr (.inr (.inr (.inr (.inl (by rw[Em.out];exact hv1)))))));go_upto_region 4 with(fail)
      go_quiet (fail)
      go_wp2_with fail
      go_ret
      rw[HR.out];exact⟨rfl,tV.out.trans ((aU.n W2 nq).below _)⟩
     ·have dm:decide (s.val<f.val)=false:=decide_eq_false hv1
      by_cases hb0:f.bound<0
      ·have dn:decide (f.bound<0)=true:=decide_eq_true hb0
       have HR:=hid (iU (f:=f) (.inr (.inr (.inr (.inr (.inr (.inl hb0)))))));go_upto_region 4 with(fail)
       go_quiet (fail)
       go_wp2_with fail
       go_ret
       rw[HR.out];exact⟨rfl,tV.out.trans ((aU.n W2 nq).below _)⟩
      ·have dn:decide (f.bound<0)=false:=decide_eq_false hb0
       by_cases hb1:s.bound<f.bound
       ·have dq:decide (s.bound<f.bound)=true:=decide_eq_true hb1
        have HR:=hid (iU (f:=f) (.inr (.inr (.inr (.inr (.inr (.inr (by rw[Em.out];exact hb1))))))));go_upto_region 4 with(fail)
        go_quiet (fail)
        go_wp2_with fail
        go_ret
        rw[HR.out];exact⟨rfl,tV.out.trans ((aU.n W2 nq).below _)⟩
       ·have dq:decide (s.bound<f.bound)=false:=decide_eq_false hb1
        have HR:=hid (OJ Em.out HQ.out (by have:=fQ.out;omega) (by have:=HGT.out;omega) (by omega) (by omega) (by omega) (by omega));go_upto_region 4 with(fail)
        go_quiet (fail)
        obtain⟨W3,hW3,hdr⟩:∃W9,W9=W2.drewN nq/\aU W2 W9:=⟨_,rfl,nq,rfl⟩;rw[<-hW3];have vg:=hdr.below W2.heap.size;have Ew:=hid (tV.out.trans (vg.mono tV.out.size));have hn:=name_any f.name W3 (qeT.out.below vg (by have:=qeT.out.pos;omega));have s4:=(vg.cell (p:=⟨w1.heap.size,4,none⟩) hrl2).trans r4;have d1:=(vg.cell (p:=⟨b,o+1,none⟩) hl2).trans c1;have hl3:=Nat.lt_of_lt_of_le hl2 vg.size;have hrl3:=Nat.lt_of_lt_of_le hrl2 vg.size;have HN:=hid hn;clear c0 c1 c2 c3 c4 r2 r3 r4 hW3 hdr vg hn dl dm dn dq hv0 hv1 hb0 hb1 hl2 hrl2;obtain⟨nm,hnm⟩:∃nm,s.named=nm:=⟨_,rfl⟩;have HNM:=hid hnm;rw[hnm]at s4;clear hnm;cases nm
        ·have HR2:=hid (show bQ f=f.name.toList.isEmpty by rw[HR.out];unfold rM;rw[HNM.out];rfl)
         go_wp2_with fail
         go_ret
         rw[HR2.out];exact⟨rfl,Ew.out⟩
        ·have HR2:=hid (show bQ f=nameB f.name by rw[HR.out];unfold rM;rw[HNM.out];rfl)
         go_wp2_with (first|(go_at_call 122;refine HN.out.mono ?_;rintro e w4 ⟨rfl,hb4⟩))
         go_ret
         rw[HR2.out];exact⟨rfl,Ew.out.trans (hb4.mono Ew.out.size)⟩
end Go.Proofs.YtdpbgcmfeajigaaGreatDoor
