/-
  Walk of shaped: has a node the fields of its operator?
-/
import Derived.Test.YtdpbgcmfeajigaaGreatDoorA04
set_option linter.unusedSimpArgs false
set_option linter.unusedVariables false
set_option maxHeartbeats 8000000
set_option maxRecDepth 100000
namespace Go.Proofs.YtdpbgcmfeajigaaGreatDoor
open Go.RowKit
attribute [local go_sem] ak
def sO (s:Form)(n:ByteArray):Bool:=if s.named then nameB n else n.toList.isEmpty
def bW (f:Fm):Bool:=isOp f.op&&decide ((aJ f.op).least<=f.args.length)&&decide (f.args.length<=(aJ f.op).most)&&decide (0<=f.val)&&decide (f.val<=(aJ f.op).val)&&decide (0<=f.bound)&&decide (f.bound<=(aJ f.op).bound)&&sO (aJ f.op) f.name
theorem jg {f:Fm}(h:isOp f.op=false\/f.args.length<(aJ f.op).least\/(aJ f.op).most<f.args.length\/f.val<0\/(aJ f.op).val<f.val\/f.bound<0\/(aJ f.op).bound<f.bound):bW f=false:=by
 cases hb:bW f
 ·rfl
 ·exfalso
  unfold bW at hb;simp only[Bool.and_eq_true,decide_eq_true_eq]at hb;obtain⟨⟨⟨⟨⟨⟨⟨h1,h2⟩,h3⟩,h4⟩,h5⟩,h6⟩,h7⟩,_⟩:=hb
  rcases h with h|h|h|h|h|h|h
  ·rw[h1]at h;cases h
  all_goals omega
theorem OW {f:Fm}{s:Form}(hs:aJ f.op=s)(h0:isOp f.op=true)(h1:s.least<=f.args.length)(h2:f.args.length<=s.most)(h3:0<=f.val)(h4:f.val<=s.val)(h5:0<=f.bound)(h6:f.bound<=s.bound):bW f=sO s f.name:=by
 unfold bW;rw[hs,h0,decide_eq_true h1,decide_eq_true h2,decide_eq_true h3,decide_eq_true h4,decide_eq_true h5,decide_eq_true h6];rfl
theorem GR {D:Dom}(f:Fm)(b o:Nat)(A:Option Addr)(c:Nat)(w:World)(h:dU w D b o f A c)(hg:GF w)(hk:GK w) :
  Calls Tryz.prog 119 #[.pointer (some ⟨b,o,none⟩)] w λ e w'=>e = .returned (.bool (bW f))/\Below w.heap.size w w':=by
 have HH:=hid h.old;have yM:=hid hg;have J3:=hid hk;have hk1:=hk.pos;obtain⟨_,hl,c0,c1,c2,c3,c4,_⟩:=HH.out;have hcall:=qO f.op w hg;unfold I8 at hcall;obtain⟨s,hs⟩:∃s,aJ f.op=s:=⟨_,rfl⟩;obtain⟨q,hq⟩:∃q,isOp f.op=q:=⟨_,rfl⟩;rw[hs,hq]at hcall;have aX:=hid hcall;have Ez:=hid hs;have HQ:=hid hq;clear hs hq hcall h hg hk
 go_enter Tryz.func119,Tryz.ntmps119
 go_upto_region 2 with(first|(go_at_call 52;refine aX.out.mono ?_;rintro e w1 ⟨rfl,hb1⟩))
 refine aC λ W hW=>?_;have hb2:Below w1.heap.size w1 W:=by rw[hW];go_grown
 have hc:W.heap[w1.heap.size]?=some (.cells #[.int .i64 s.least,.int .i64 s.most,.int .i64 s.val,.int .i64 s.bound,.bool s.named,.bool s.past,.bool s.future,.bool s.loose] 78 (0,0)):=by rw[hW];exact heap_alloc_new w1 _
 have aT:=hid (hb1.trans (hb2.mono hb1.size));have r0:=aj hc (i:=0) rfl;have r1:=aj hc (i:=1) rfl;have r2:=aj hc (i:=2) rfl;have r3:=aj hc (i:=3) rfl;have r4:=aj hc (i:=4) rfl;obtain⟨_,hl2,c0,c1,c2,c3,c4,_⟩:=HH.out.keep (Keeps.of_below aT.out λ _ h=>h);have hgf:=yM.out.below aT.out (by omega);have hgk:=J3.out.below aT.out hk1;have qfb:=hid hgk;clear hW hb1 hb2 hgf hgk hl;have hrl:w1.heap.size<W.heap.size:=lt_of_block hc;cases q
 ·have HR:=hid (jg (f:=f) (.inl HQ.out))
  go_quiet (fail)
  go_wp2_with fail
  go_ret
  rw[HR.out];exact⟨rfl,aT.out.trans ((aU.n W nq).below _)⟩
 ·by_cases hlt:(f.args.length:Int)<s.least
  ·have dl:decide ((f.args.length:Int)<s.least)=true:=decide_eq_true hlt
   have HR:=hid (jg (f:=f) (.inr (.inl (by rw[Ez.out];omega))))
   go_quiet (fail)
   go_wp2_with fail
   go_ret
   rw[HR.out];exact⟨rfl,aT.out.trans ((aU.n W nq).below _)⟩
  ·have dl:decide ((f.args.length:Int)<s.least)=false:=decide_eq_false hlt
   by_cases hgt:(s.most:Int)<f.args.length
   ·have dm:decide ((s.most:Int)<f.args.length)=true:=decide_eq_true hgt
    have HR:=hid (jg (f:=f) (.inr (.inr (.inl (by rw[Ez.out];omega)))))
    go_quiet (fail)
    go_wp2_with fail
    go_ret
    rw[HR.out];exact⟨rfl,aT.out.trans ((aU.n W nq).below _)⟩
   ·have dm:decide ((s.most:Int)<f.args.length)=false:=decide_eq_false hgt
    go_quiet (fail)
    obtain⟨W2,hW2,hdr⟩:∃W9,W9=W.drewN nq/\aU W W9:=⟨_,rfl,nq,rfl⟩;rw[<-hW2];have ni:=hdr.below W.heap.size;have Hr:=(ni.block _ hrl).trans hc;have uN:=hid (aT.out.trans (ni.mono aT.out.size));have qgo:=qfb.out.below ni (by have:=qfb.out.pos;omega);have qfa:=hid qgo;clear c0 c1 c2 c3 c4 r0 r1 r2 r3 r4 hW2 hdr ni qgo dl dm hc hl2;have r2:=aj Hr (i:=2) rfl;have r3:=aj Hr (i:=3) rfl;have r4:=aj Hr (i:=4) rfl;obtain⟨_,hl2,c0,c1,c2,c3,c4,_⟩:=HH.out.keep (Keeps.of_below uN.out λ _ h=>h);have hrl2:w1.heap.size<W2.heap.size:=lt_of_block Hr;clear Hr hrl;have dX:=hid hlt;have HGT:=hid hgt;clear hlt hgt
    by_cases hv0:f.val<0
    ·have dl:decide (f.val<0)=true:=decide_eq_true hv0
     have HR:=hid (jg (f:=f) (.inr (.inr (.inr (.inl hv0)))));go_upto_region 4 with(fail)
     go_quiet (fail)
     go_wp2_with fail
     go_ret
     rw[HR.out];exact⟨rfl,uN.out.trans ((aU.n W2 nq).below _)⟩
    ·have dl:decide (f.val<0)=false:=decide_eq_false hv0
     by_cases hv1:s.val<f.val
     ·have dm:decide (s.val<f.val)=true:=decide_eq_true hv1
      have HR:=hid (jg (f:=f) (.inr (.inr (.inr (.inr (.inl (by rw[Ez.out];exact hv1)))))));go_upto_region 4 with(fail)
      go_quiet (fail)
      go_wp2_with fail
      go_ret
      rw[HR.out];exact⟨rfl,uN.out.trans ((aU.n W2 nq).below _)⟩
     ·have dm:decide (s.val<f.val)=false:=decide_eq_false hv1
      by_cases hb0:f.bound<0
      ·have dn:decide (f.bound<0)=true:=decide_eq_true hb0
       have HR:=hid (jg (f:=f) (.inr (.inr (.inr (.inr (.inr (.inl hb0)))))));go_upto_region 4 with(fail)
       go_quiet (fail)
       go_wp2_with fail
       go_ret
       rw[HR.out];exact⟨rfl,uN.out.trans ((aU.n W2 nq).below _)⟩
      ·have dn:decide (f.bound<0)=false:=decide_eq_false hb0
       by_cases hb1:s.bound<f.bound
       ·have dq:decide (s.bound<f.bound)=true:=decide_eq_true hb1
        have HR:=hid (jg (f:=f) (.inr (.inr (.inr (.inr (.inr (.inr (by rw[Ez.out];exact hb1))))))));go_upto_region 4 with(fail)
        go_quiet (fail)
        go_wp2_with fail
        go_ret
        rw[HR.out];exact⟨rfl,uN.out.trans ((aU.n W2 nq).below _)⟩
       ·have dq:decide (s.bound<f.bound)=false:=decide_eq_false hb1
        have HR:=hid (OW Ez.out HQ.out (by have:=dX.out;omega) (by have:=HGT.out;omega) (by omega) (by omega) (by omega) (by omega));go_upto_region 4 with(fail)
        go_quiet (fail)
        obtain⟨W3,hW3,hdr⟩:∃W9,W9=W2.drewN nq/\aU W2 W9:=⟨_,rfl,nq,rfl⟩;rw[<-hW3];have ni:=hdr.below W2.heap.size;have EJ:=hid (uN.out.trans (ni.mono uN.out.size));have hn:=name_any f.name W3 (qfa.out.below ni (by have:=qfa.out.pos;omega));have s4:=(ni.cell (p:=⟨w1.heap.size,4,none⟩) hrl2).trans r4;have d1:=(ni.cell (p:=⟨b,o+1,none⟩) hl2).trans c1;have hl3:=Nat.lt_of_lt_of_le hl2 ni.size;have hrl3:=Nat.lt_of_lt_of_le hrl2 ni.size;have HN:=hid hn;clear c0 c1 c2 c3 c4 r2 r3 r4 hW3 hdr ni hn dl dm dn dq hv0 hv1 hb0 hb1 hl2 hrl2;obtain⟨nm,hnm⟩:∃nm,s.named=nm:=⟨_,rfl⟩;have HNM:=hid hnm;rw[hnm]at s4;clear hnm;cases nm
        ·have HR2:=hid (show bW f=f.name.toList.isEmpty by rw[HR.out];unfold sO;rw[HNM.out];rfl)
         go_wp2_with fail
         go_ret
         rw[HR2.out];exact⟨rfl,EJ.out⟩
        ·have HR2:=hid (show bW f=nameB f.name by rw[HR.out];unfold sO;rw[HNM.out];rfl)
         go_wp2_with (first|(go_at_call 122;refine HN.out.mono ?_;rintro e w4 ⟨rfl,hb4⟩))
         go_ret
         rw[HR2.out];exact⟨rfl,EJ.out.trans (hb4.mono EJ.out.size)⟩
end Go.Proofs.YtdpbgcmfeajigaaGreatDoor
