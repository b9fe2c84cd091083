/-
  Parts of a proof: HZ LT LD LF LE.
-/
import Derived.Test.YtdpbgcmfeajigaaGreatDoorT19
import Derived.Test.YtdpbgcmfeajigaaGreatDoorT18
import Derived.Sort.OwnSorted
import Derived.Test.YtdpbgcmfeajigaaGreatDoorT00
set_option linter.unusedSimpArgs false
set_option linter.unusedVariables false
set_option maxHeartbeats 8000000
set_option maxRecDepth 100000
namespace Go.Proofs.YtdpbgcmfeajigaaGreatDoor
open Go.RowKit Go.Shelf
attribute [local go_sem] ak jM jL run_store_func
def iC (f:Fm):Fm:=if bG f then bU f else dV
theorem yO {D:Dom}(f:Fm)(v:Value)(w:World)(h:bI w D v f)(hg:GF w)(hk:GK w) :
  Calls Tryz.prog 88 #[v] w fun e w'=>∃kv,e = .returned kv/\lY (iC f) w kv w':=by
 obtain⟨A,c,rfl,ha⟩:=h;have HA:=hid ha.old;have HG:=hid hg;have HK:=hid hk;clear ha hg hk
 go_enter Tryz.func88,Tryz.ntmps88
 go_upto_region 1 with(fail)
 refine aF fun W hW=>?_;have HB:=hid (show Below w.heap.size w W by rw[hW];go_grown)
 have HE:=hid (show dF W w.heap.size f A c by
  show W.heap[w.heap.size]?=_
  rw[hW,aQ _ _ _ (by simp)];exact at_new _ _ _ rfl)
 have HR:=hid (show OB W (w.heap.size+1) 0 ⟨#[]⟩ 0 0 none 0 0 by rw[hW];exact at_new _ _ _ (by simp));have yZ:=hid (show W.heap.size=w.heap.size+2 by rw[hW];simp);have HG1:=hid (HG.out.below HB.out HG.out.pos);have TW:=hid (HK.out.below HB.out HK.out.pos);have HFF:=hid (dF.yH (D:=fun k=>k<w.heap.size+1) HE.out (Nat.lt_succ_self _) ((HA.out.keep (Keeps.of_below HB.out fun _ h=>h)).mono fun k hk _=>Nat.lt_succ_of_lt hk));have HV:=hid (Vf f w.heap.size 0 A c W HFF.out HG1.out TW.out);clear hW;cases hv:bG f
 ·have HZ:=hid (show iC f=dV by unfold iC;rw[hv];rfl)
  rw[hv]at HV;clear hv;go_wp2_with (first|(go_at_call 72;refine HV.out.mono ?_;rintro e V ⟨rfl,jU⟩;have hr:=HR.out.below jU;obtain⟨r0,r1,r2,r3,r4,rl⟩:=hr.cells;have p0:=hr.free 0;have p1:=hr.free 1;have p2:=hr.free 2;have p3:=hr.free 3;have p4:=hr.free 4))
  refine aK fun WE fJ=>?_;have ji:OB WE (w.heap.size+1) 0 ⟨#[]⟩ 0 0 none 0 0:=by rw[fJ];exact bF hr
  have hcE:aH (fun x=>x=w.heap.size+1) V WE:=by rw[fJ];exact aN _ _ _ _ _ _ _
  have FU:=HB.out.trans (jU.mono HB.out.size);have lT:Below w.heap.size w WE:=FU.trans (hcE.below (B:=w.heap.size) (fun x hx h=>by omega) FU.size);obtain⟨y0,y1,y2,y3,y4,yl⟩:=ji.cells;clear fJ r0 r1 r2 r3 r4 p0 p1 p2 p3 p4;rw[HZ.out];exact bodyPost_ret (v := .agg #[.int .i64 0,.string ⟨#[]⟩,.int .i64 0,.int .i64 0,.slice none 0 0]) (by simp[results,Tryz.results88,go_sem,y0,y1,y2,y3,y4]) rfl ⟨_,rfl,lY.zero lT⟩
 ·have HZ:=hid (show iC f=bU f by unfold iC;rw[hv];rfl)
  have sN:=hid (Ur f _ (iY hv).2.2 (by have:=(iY hv).1;omega));obtain⟨g,hg⟩:∃g,g=bU f:=⟨_,rfl⟩;have HGJ:=hid hg;rw[hv]at HV;clear hv hg;go_wp2_with (first|(go_at_call 72;refine HV.out.mono ?_;rintro e V ⟨rfl,jU⟩;have iG:=hid jU;have HC:=hid (sN.out _ _ _ _ _ V (HFF.out.keep (Keeps.of_below jU fun k hk=>by have:=yZ.out;omega))))|(go_at_call 125;refine HC.out.mono ?_;rw[<-HGJ.out];rintro e w5 ⟨v,rfl,hb5,A5,c5,rfl,UL⟩;have Zr:=hid UL;have Io:=hid (iG.out.trans (hb5.mono iG.out.size));have HS5:=hid (iG.out.size);clear UL;have hr:=HR.out.below Io.out;obtain⟨r0,r1,r2,r3,r4,rl⟩:=hr.cells;have p0:=hr.free 0;have p1:=hr.free 1;have p2:=hr.free 2;have p3:=hr.free 3;have p4:=hr.free 4))
  refine aK fun WE fJ=>?_;have ji:OB WE (w.heap.size+1) g.op g.name g.val g.bound A5 g.args.length c5:=by rw[fJ];exact bF hr
  have hcE:aH (fun x=>x=w.heap.size+1) w5 WE:=by rw[fJ];exact aN _ _ _ _ _ _ _
  have qe7:=HB.out.trans (Io.out.mono HB.out.size);have lT:Below w.heap.size w WE:=qe7.trans (hcE.below (B:=w.heap.size) (fun x hx h=>by omega) qe7.size)
  have hnew:lY (iC f) w (.agg #[.int .i64 g.op,.string g.name,.int .i64 g.val,.int .i64 g.bound,.slice A5 g.args.length c5]) WE:=by
   rw[HZ.out,<-HGJ.out];exact⟨lT,A5,c5,rfl,(Zr.out.nw hcE fun x h=>by have:x=w.heap.size+1:=h;have:=yZ.out;have:=HS5.out;omega).base (by have:=yZ.out;have:=HS5.out;omega)⟩
  obtain⟨y0,y1,y2,y3,y4,yl⟩:=ji.cells;clear fJ r0 r1 r2 r3 r4 p0 p1 p2 p3 p4;exact bodyPost_ret (v := .agg #[.int .i64 g.op,.string g.name,.int .i64 g.val,.int .i64 g.bound,.slice A5 g.args.length c5]) (by simp[results,Tryz.results88,go_sem,y0,y1,y2,y3,y4]) rfl ⟨_,rfl,hnew⟩
end Go.Proofs.YtdpbgcmfeajigaaGreatDoor
namespace Go.Proofs.YtdpbgcmfeajigaaGreatDoor
def yB (o:Int):Prop:=o=1\/o=2\/o=5\/o=6\/o=8\/o=9\/o=10\/o=15\/o=16\/o=17
def Bare (f:Fm):Prop:=∃ins,allI bY ins f
theorem Bare.arg {f g:Fm}(h:Bare f)(hg:g∈f.args):Bare g:=let ⟨_,h⟩:=h;⟨_,(dS.1 h).2 g hg⟩
theorem Bare.node {f:Fm}(h:Bare f):(aJ f.op).loose=true/\cu f=true/\(f.op=4->(f.args.getD 0 default).op=3):=let ⟨_,h⟩:=h;let h:=lM (dS.1 h).1;⟨h.1,h.2.1,h.2.2.2⟩
theorem Bare.canon {f:Fm}(h:Bare f)(hs:f.size<=manyN):Bare (bU f):=let ⟨_,h⟩:=h;⟨_,Dt f _ h hs⟩
theorem Ec {f:Fm}(h:bG f=true):iC f=bU f:=by
 unfold iC;rw[if_pos h]
open Go.RowKit Go.Shelf
instance decMemB (k:ByteArray) (ks:List ByteArray):Decidable (k∈ks) := @List.instDecidableMemOfLawfulBEq ByteArray instBEqOfDecidableEq _ k ks
section
variable {w w':World}{mb:Nat}{ks:List ByteArray}
end
open Go.RowKit
def rH (ops:Array Oper):Bool:=ops.all fun o=>match o.op with
 | .defer _=>false
 | _=>true
theorem KG {ops:Array Oper}(h:rH ops=true){i:Nat}{o:Oper}(ho:ops[i]?=some o):∀c,o.op ≠ .defer c:=by
 intro c e;obtain⟨hi,rfl⟩:=Array.getElem?_eq_some_iff.1 ho;have:=Array.all_eq_true.1 h i hi;rw[e]at this;cases this
section
variable {P:Program}{ops:Array Oper}{Q:Exit->Act->World->Prop}{n l:Nat}
theorem Sj {o:Oper}(hd:∀c,o.op ≠ .defer c){a:Act}{w:World}{K K':Act->World->Prop}(hK:∀a w,K a w->K' a w)(h:Oper.wp P o a w K Q):Oper.wpIn (Fence.wide.inRound l) n P o a w K' Q:=by
 refine⟨fun _ _=>trivial,?_⟩;rw[Oper.semAt_eq _ _ _ hd];unfold Oper.wp at h
 generalize(execOp a.eval o).run P w=r at *
 cases r with
 | ok nx w' =>
  cases nx with
  | value v=>exact hK _ _ h
  | skip=>exact hK _ _ h
  | defer d=>exact hK _ _ h
  | enter f args =>
   refine⟨fun h=>(by cases h),?_⟩;refine CallsIn.inRound l (callsIn_wide.2 (Calls.mono h fun e w'' he=>?_))
   cases e with
   | returned u=>exact hK _ _ he
   | panicked c=>exact he
   | outgrown=>exact he
  | row row args =>
   refine⟨fun h=>(by cases h),fun c cs _=>?_⟩;obtain⟨v,w',r,s⟩:=h c cs;exact⟨v,w',hK _ _ r,stepsIn_wide.2 s⟩
  | round _ _ _ _ _=>exact h.elim
  | recover=>exact h.elim
  | _=>exact h.elim
 | halt x w'=>cases x <;> exact h
theorem lF (hd:rH ops=true)(hQ:¬LetsOut Q):∀(is:List Nat) (a:Act) (w:World),wpOps P ops Q is a w->wpOpsIn (Fence.wide.inRound l) n P ops Q is a w
 | [],a,w,h=>h
 | i :: is,a,w,h=>by
  unfold wpOps at h;unfold wpOpsIn
  cases ho:ops[i]? with
  | none =>
   simp only[ho]at h⊢;exact lF hd hQ is a w h
  | some o =>
   simp only[ho]at h⊢
   split
   ·rename_i hw
    rw[if_pos hw]at h
    rcases h with h|h
    ·exact Sj (KG hd ho) (fun a w=>lF hd hQ is a w) h
    ·exact absurd h.2 hQ
   ·rename_i hw
    rw[if_neg hw]at h;exact⟨fun _ _=>trivial,lF hd hQ is _ w h⟩
theorem ni {id:Nat}{a:Act}{w:World}(hm:P.follows .mixedOrders=true)(hd:rH ops=true)(hQ:¬LetsOut Q)
  (h:wpAny P .any ops Q ops.size (Array.replicate ops.size false) a w.drew):(Code.region id ops true).wpIn (Fence.wide.inRound l) n P Q a w :=
 wpIn_region_draw fun t=>by
  simp only[Region.schedule,hm,Bool.true_or,if_true];exact lF hd hQ _ a _ (wpAny_sound ops.size t _ a _ h)
theorem pO {id:Nat}{a:Act}{w:World}{ls:List Oper}{o:Oper}(S:World->Prop)(hm:P.follows .mixedOrders=true)(hd:rH (o :: ls).toArray=true)(hQ:¬LetsOut Q)
  (hb:yN (o :: ls).dropLast.toArray=true) (hl:sinkB .any (o :: ls).dropLast.toArray.size ((o :: ls).getLast (List.cons_ne_nil _ _))=true) (hS:S w.drew)
  (h:S w.drew->wpAnyH P .any (o :: ls).dropLast.toArray (jX P ((o :: ls).getLast (List.cons_ne_nil _ _)) Q) S (o :: ls).dropLast.toArray.size (Array.replicate (o :: ls).dropLast.toArray.size false) a w.drew):(Code.region id (o :: ls).toArray true).wpIn (Fence.wide.inRound l) n P Q a w:=by
 refine ni hm hd hQ ?_;have h1:=G5 hb hl (o :: ls).dropLast.toArray.size (Array.replicate (o :: ls).dropLast.toArray.size false) a w.drew (by simp) (wpAny_of_held _ _ _ _ (h hS));have e0:(o :: ls).toArray=(o :: ls).dropLast.toArray.push ((o :: ls).getLast (List.cons_ne_nil _ _)):=by rw[List.push_toArray,List.dropLast_concat_getLast]
 rw[e0,Array.size_push];have e:Array.replicate ((o :: ls).dropLast.toArray.size+1) false=(Array.replicate (o :: ls).dropLast.toArray.size false).push false:=by rw[Array.replicate_succ]
 rw[e];exact h1
end
end Go.Proofs.YtdpbgcmfeajigaaGreatDoor
namespace Go.Proofs.YtdpbgcmfeajigaaGreatDoor
open Go.RowKit Go.Shelf
attribute [local go_sem] ak Oper.semAt_some
end Go.Proofs.YtdpbgcmfeajigaaGreatDoor
