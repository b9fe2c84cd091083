/-
  Parts of a proof: FF FG.
-/
import Derived.Test.YtdpbgcmfeajigaaGreatDoorA01
set_option linter.unusedSimpArgs false
set_option linter.unusedVariables false
set_option maxHeartbeats 8000000
set_option maxRecDepth 100000
namespace Go.Proofs.YtdpbgcmfeajigaaGreatDoor
open Go.RowKit
theorem aK {P:Program}{f:Func}{Q:Ending->World->Prop}{e:Exit}{a:Act}{w:World}(h:∀W,W=w->bodyPost P f Q e a W):bodyPost P f Q e a w:=h w rfl
theorem tK (o:Int)(A:Option Addr)(n c:Nat)(w:World):(Instr.build 24 #[(0,.int .i64 o),(4,.slice A n c)]).run Tryz.prog w = .ok (.agg #[.int .i64 o,.string ⟨#[]⟩,.int .i64 0,.int .i64 0,.slice A n c]) w:=run_build w 24 _ _ (by kernel_rfl)
theorem jR (o:Int)(w:World):(Instr.build 24 #[(0,.int .i64 o)]).run Tryz.prog w = .ok (.agg #[.int .i64 o,.string ⟨#[]⟩,.int .i64 0,.int .i64 0,.slice none 0 0]) w:=run_build w 24 _ _ (by kernel_rfl)
theorem xR (o v:Int)(s:ByteArray)(w:World):(Instr.build 24 #[(0,.int .i64 o),(1,.string s),(2,.int .i64 v)]).run Tryz.prog w = .ok (.agg #[.int .i64 o,.string s,.int .i64 v,.int .i64 0,.slice none 0 0]) w:=run_build w 24 _ _ (by kernel_rfl)
attribute [local go_sem] ak tK jR xR
abbrev aW:Dom := λ _=>True
theorem CX {D E:Dom}(f g:Fm)(v v':Value)(w:World)(h:bI w D v f)(h':bI w E v' g) :
  Calls Tryz.prog 39 #[v,v'] w λ e w'=>e = .returned (.bool (decide (f.cmp g=0)))/\Below w.heap.size w w':=by
 obtain⟨A,c,rfl,ha⟩:=h;obtain⟨A',c',rfl,ha'⟩:=h';have HA:=hid ha.old;have HA2:=hid ha'.old;clear ha ha'
 go_enter Tryz.func39,Tryz.ntmps39
 go_upto_region 1 with(fail)
 refine aC λ W hW=>?_;obtain⟨w1,h1⟩:∃w1,w1=w.alloc (.cells #[.int .i64 f.op,.string f.name,.int .i64 f.val,.int .i64 f.bound,.slice A f.args.length c] 24):=⟨_,rfl⟩;have s1:w1.heap.size=w.heap.size+1:=by rw[h1];simp
 have b1:Below w.heap.size w w1:=by rw[h1];go_grown
 have m1:dH w1 w.heap.size f A c:=by rw[h1];exact dH.new w f A c
 rw[<-h1]at hW;have b2:Below w1.heap.size w1 W:=by rw[hW];go_grown
 obtain⟨x0,x1,x2,x3,x4,xl⟩:=(m1.below b2).cells;obtain⟨y0,y1,y2,y3,y4,yl⟩:=(show dH W (w.heap.size+1) g A' c' by rw[hW,<-s1];exact dH.new w1 g A' c').cells;have aT:=hid (b1.trans (b2.mono b1.size));clear hW h1 s1 b1 m1 b2;go_wp2_with fail
 refine(ZN f g _ _ W ⟨A,c,rfl,HA.out.keep (Keeps.of_below aT.out λ _ h=>h)⟩ ⟨A',c',rfl,HA2.out.keep (Keeps.of_below aT.out λ _ h=>h)⟩).mono ?_;rintro e w1 ⟨rfl,hb⟩;have HB:=hid (aT.out.trans (hb.mono aT.out.size));clear hb;obtain⟨k,hk⟩:∃k,k=f.cmp g:=⟨_,rfl⟩;rw[<-hk];have HK:=hid hk;clear hk;go_wp2_with fail
 go_ret
 refine⟨aF ?_,HB.out⟩;rw[<-HK.out]
 by_cases e:k=0
 ·rw[decide_eq_true e];exact beq_iff_eq.2 e
 ·rw[decide_eq_false e];exact ay e
def kV (o:Int)(l:List Fm):Fm := .mk o ⟨#[]⟩ 0 0 l
def Xt (s:ByteArray)(v:Int):Fm := .mk 3 s v 0 []
theorem qbY (o:Int)(A:Option Addr)(n c:Nat)(w:World) :
  Calls Tryz.prog 83 #[.int .i64 o,.slice A n c] w λ e w'=>e = .returned (.agg #[.int .i64 o,.string ⟨#[]⟩,.int .i64 0,.int .i64 0,.slice A n c])/\Below w.heap.size w w':=by
 go_enter Tryz.func83,Tryz.ntmps83
 go_wp2_with fail
 refine aK λ W hW=>?_;have hb:Below w.heap.size w W:=by rw[hW];go_grown
 have hc:W.heap[w.heap.size]?=some (.cells #[.int .i64 o,.string ⟨#[]⟩,.int .i64 0,.int .i64 0,.slice A n c] 24 (0,0)):=by rw[hW];exact heap_alloc_new w _
 have r0:=aj hc (i:=0) rfl;have r1:=aj hc (i:=1) rfl;have r2:=aj hc (i:=2) rfl;have r3:=aj hc (i:=3) rfl;have r4:=aj hc (i:=4) rfl;clear hW;exact bodyPost_ret (v := .agg #[.int .i64 o,.string ⟨#[]⟩,.int .i64 0,.int .i64 0,.slice A n c]) (by simp[results,Tryz.results83,go_sem,r0,r1,r2,r3,r4]) rfl ⟨rfl,hb⟩
theorem vG (s:ByteArray)(x:Int)(w:World) :
  Calls Tryz.prog 35 #[.string s,.int .i64 x] w λ e w'=>e = .returned (.agg #[.int .i64 3,.string s,.int .i64 x,.int .i64 0,.slice none 0 0])/\Below w.heap.size w w':=by
 go_enter Tryz.func35,Tryz.ntmps35
 go_wp2_with fail
 refine aK λ W hW=>?_;have hb:Below w.heap.size w W:=by rw[hW];go_grown
 have hc:W.heap[w.heap.size]?=some (.cells #[.int .i64 3,.string s,.int .i64 x,.int .i64 0,.slice none 0 0] 24 (0,0)):=by rw[hW];exact heap_alloc_new w _
 have r0:=aj hc (i:=0) rfl;have r1:=aj hc (i:=1) rfl;have r2:=aj hc (i:=2) rfl;have r3:=aj hc (i:=3) rfl;have r4:=aj hc (i:=4) rfl;clear hW;exact bodyPost_ret (v := .agg #[.int .i64 3,.string s,.int .i64 x,.int .i64 0,.slice none 0 0]) (by simp[results,Tryz.results35,go_sem,r0,r1,r2,r3,r4]) rfl ⟨rfl,hb⟩
theorem jA (o x:Int)(A:Option Addr)(n c:Nat)(w:World) :
  Calls Tryz.prog 34 #[.int .i64 o,.int .i64 x,.slice A n c] w λ e w'=>e = .returned (.agg #[.int .i64 o,.string ⟨#[]⟩,.int .i64 x,.int .i64 0,.slice A n c])/\Below w.heap.size w w':=by
 go_enter Tryz.func34,Tryz.ntmps34
 go_wp2_with fail
 refine aK λ W hW=>?_;have hb:Below w.heap.size w W:=by rw[hW];go_grown
 have hc:W.heap[w.heap.size]?=some (.cells #[.int .i64 o,.string ⟨#[]⟩,.int .i64 x,.int .i64 0,.slice A n c] 24 (0,0)):=by rw[hW];exact heap_alloc_new w _
 have r0:=aj hc (i:=0) rfl;have r1:=aj hc (i:=1) rfl;have r2:=aj hc (i:=2) rfl;have r3:=aj hc (i:=3) rfl;have r4:=aj hc (i:=4) rfl;clear hW;exact bodyPost_ret (v := .agg #[.int .i64 o,.string ⟨#[]⟩,.int .i64 x,.int .i64 0,.slice A n c]) (by simp[results,Tryz.results34,go_sem,r0,r1,r2,r3,r4]) rfl ⟨rfl,hb⟩
end Go.Proofs.YtdpbgcmfeajigaaGreatDoor
namespace Go.Proofs.YtdpbgcmfeajigaaGreatDoor
open Go.RowKit
attribute [local go_sem] ak
def I8 (s:Form):Value := .agg #[.int .i64 s.least,.int .i64 s.most,.int .i64 s.val,.int .i64 s.bound,.bool s.named,.bool s.past,.bool s.future,.bool s.loose]
structure GF (w:World):Prop where
 pos:0<w.heap.size
 at_:∀k,k<20->w.cell? ⟨0,k*8,none⟩=some (.int .i64 (jZ.getD k fP).least)/\w.cell? ⟨0,k*8+1,none⟩=some (.int .i64 (jZ.getD k fP).most)/\w.cell? ⟨0,k*8+2,none⟩=some (.int .i64 (jZ.getD k fP).val)/\w.cell? ⟨0,k*8+3,none⟩=some (.int .i64 (jZ.getD k fP).bound) /\
  w.cell? ⟨0,k*8+4,none⟩=some (.bool (jZ.getD k fP).named)/\w.cell? ⟨0,k*8+5,none⟩=some (.bool (jZ.getD k fP).past)/\w.cell? ⟨0,k*8+6,none⟩=some (.bool (jZ.getD k fP).future)/\w.cell? ⟨0,k*8+7,none⟩=some (.bool (jZ.getD k fP).loose)
theorem GF.below {w w':World}{B:Nat}(h:GF w)(hb:Below B w w')(hB:0<B):GF w' :=
 ⟨Nat.lt_of_lt_of_le h.pos hb.size,λ k hk=>by
  obtain⟨c0,c1,c2,c3,c4,c5,c6,c7⟩:=h.at_ k hk;have key:∀j u,w.cell? ⟨0,j,none⟩=some u->w'.cell? ⟨0,j,none⟩=some u := λ j u hu=>(hb.cell (p:=⟨0,j,none⟩) hB).trans hu
  exact⟨key _ _ c0,key _ _ c1,key _ _ c2,key _ _ c3,key _ _ c4,key _ _ c5,key _ _ c6,key _ _ c7⟩⟩
theorem qO (op:Int)(w:World)(h:GF w):Calls Tryz.prog 52 #[.int .i64 op] w λ e w'=>e = .returned (.tuple #[I8 (aJ op),.bool (isOp op)])/\Below w.heap.size w w':=by
 have HG:=hid h;have hpos:=h.pos;clear h
 by_cases h0:op<1
 ·have hop:isOp op=false:=by unfold isOp;rw[decide_eq_false (by omega)];rfl
  have hz:aJ op=fP:=by unfold aJ;rw[hop];rfl
  rw[hz,hop];have d0:decide (op<1)=true:=decide_eq_true h0;clear hop hz
  go_enter Tryz.func52,Tryz.ntmps52
  go_wp2_with fail
  refine aK λ W hW=>?_;have hb:Below w.heap.size w W:=by rw[hW];go_grown
  have hc:W.heap[w.heap.size]?=some (.cells #[.int .i64 0,.int .i64 0,.int .i64 0,.int .i64 0,.bool false,.bool false,.bool false,.bool false] 78 (0,0)):=by rw[hW];exact heap_alloc_new w _
  have r0:=aj hc (i:=0) rfl;have r1:=aj hc (i:=1) rfl;have r2:=aj hc (i:=2) rfl;have r3:=aj hc (i:=3) rfl;have r4:=aj hc (i:=4) rfl;have r5:=aj hc (i:=5) rfl;have r6:=aj hc (i:=6) rfl;have r7:=aj hc (i:=7) rfl;clear hW;exact bodyPost_ret (v := .tuple #[.agg #[.int .i64 0,.int .i64 0,.int .i64 0,.int .i64 0,.bool false,.bool false,.bool false,.bool false],.bool false]) (by simp[results,Tryz.results52,go_sem,r0,r1,r2,r3,r4,r5,r6,r7]) rfl ⟨rfl,hb⟩
 ·by_cases h1:20<=op
  ·have hop:isOp op=false:=by unfold isOp;rw[decide_eq_false (show¬op<20 by omega)];simp
   have hz:aJ op=fP:=by unfold aJ;rw[hop];rfl
   rw[hz,hop];have d0:decide (op<1)=false:=decide_eq_false h0;have d1:decide (20<=op)=true:=decide_eq_true h1;clear hop hz
   go_enter Tryz.func52,Tryz.ntmps52
   go_wp2_with fail
   refine aK λ W hW=>?_;have hb:Below w.heap.size w W:=by rw[hW];go_grown
   have hc:W.heap[w.heap.size]?=some (.cells #[.int .i64 0,.int .i64 0,.int .i64 0,.int .i64 0,.bool false,.bool false,.bool false,.bool false] 78 (0,0)):=by rw[hW];exact heap_alloc_new w _
   have r0:=aj hc (i:=0) rfl;have r1:=aj hc (i:=1) rfl;have r2:=aj hc (i:=2) rfl;have r3:=aj hc (i:=3) rfl;have r4:=aj hc (i:=4) rfl;have r5:=aj hc (i:=5) rfl;have r6:=aj hc (i:=6) rfl;have r7:=aj hc (i:=7) rfl;clear hW;exact bodyPost_ret (v := .tuple #[.agg #[.int .i64 0,.int .i64 0,.int .i64 0,.int .i64 0,.bool false,.bool false,.bool false,.bool false],.bool false]) (by simp[results,Tryz.results52,go_sem,r0,r1,r2,r3,r4,r5,r6,r7]) rfl ⟨rfl,hb⟩
  ·obtain⟨k,rfl⟩:∃k:Nat,op=(k:Int):=⟨op.toNat,by omega⟩
   have hk:k<20:=by omega
   have hop:isOp (k:Int)=true:=by unfold isOp;rw[decide_eq_true (by omega:(1:Int)<=(k:Int)),decide_eq_true (by omega:(k:Int)<20)];rfl
   have hz:aJ (k:Int)=jZ.getD k fP:=by unfold aJ;rw[hop];rfl
   rw[hz,hop];obtain⟨s,hs⟩:∃s,s=jZ.getD k fP:=⟨_,rfl⟩;have hg:=HG.out.at_ k hk;rw[<-hs]at hg⊢;obtain⟨c0,c1,c2,c3,c4,c5,c6,c7⟩:=hg;have d0:decide ((k:Int)<1)=false:=decide_eq_false h0;have d1:decide (20<=(k:Int))=false:=decide_eq_false h1;have hki:(k:Int)<20:=by omega
   clear hop hz hs
   go_enter Tryz.func52,Tryz.ntmps52
   go_wp2_with fail
   refine aK λ W hW=>?_;have hb:Below w.heap.size w W:=by rw[hW];go_grown
   have hc:W.heap[w.heap.size]?=some (.cells #[.int .i64 s.least,.int .i64 s.most,.int .i64 s.val,.int .i64 s.bound,.bool s.named,.bool s.past,.bool s.future,.bool s.loose] 78 (0,0)):=by rw[hW];exact heap_alloc_new w _
   have r0:=aj hc (i:=0) rfl;have r1:=aj hc (i:=1) rfl;have r2:=aj hc (i:=2) rfl;have r3:=aj hc (i:=3) rfl;have r4:=aj hc (i:=4) rfl;have r5:=aj hc (i:=5) rfl;have r6:=aj hc (i:=6) rfl;have r7:=aj hc (i:=7) rfl;clear hW;exact bodyPost_ret (v := .tuple #[.agg #[.int .i64 s.least,.int .i64 s.most,.int .i64 s.val,.int .i64 s.bound,.bool s.named,.bool s.past,.bool s.future,.bool s.loose],.bool true]) (by simp[results,Tryz.results52,go_sem,r0,r1,r2,r3,r4,r5,r6,r7]) rfl ⟨rfl,hb⟩
end Go.Proofs.YtdpbgcmfeajigaaGreatDoor
