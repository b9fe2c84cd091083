/-
  Parts of a proof: HZ LT LD LF LE.
-/
import Derived.Test.YtdpbgcmfeajigaaGreatDoorA19
import Derived.Test.YtdpbgcmfeajigaaGreatDoorA18
import Derived.Sort.OwnSorted
import Derived.Test.YtdpbgcmfeajigaaGreatDoorA00
set_option linter.unusedSimpArgs false
set_option linter.unusedVariables false
set_option maxHeartbeats 8000000
set_option maxRecDepth 100000
namespace Go.Proofs.YtdpbgcmfeajigaaGreatDoor
open Go.RowKit Go.Shelf
attribute [local go_sem] ak jR jQ run_store_func
def gZ (f:Fm):Fm:=if bf f then bV f else dV
theorem yV {D:Dom}(f:Fm)(v:Value)(w:World)(h:bI w D v f)(hg:GF w)(hk:GK w) :
  Calls Tryz.prog 88 #[v] w λ e w'=>∃kv,e = .returned kv/\mX (gZ f) w kv w':=by
 obtain⟨A,c,rfl,ha⟩:=h;have HA:=hid ha.old;have HG:=hid hg;have HK:=hid hk;clear ha hg hk
 go_enter Tryz.func88,Tryz.ntmps88
 go_upto_region 1 with(fail)
 refine aC λ W hW=>?_;have HB:=hid (show Below w.heap.size w W by rw[hW];go_grown)
 have HE:=hid (show dH W w.heap.size f A c by
  show W.heap[w.heap.size]?=_
  rw[hW,aQ _ _ _ (by simp)];exact at_new _ _ _ rfl)
 have HR:=hid (show OB W (w.heap.size+1) 0 ⟨#[]⟩ 0 0 none 0 0 by rw[hW];exact at_new _ _ _ (by simp));have zk:=hid (show W.heap.size=w.heap.size+2 by rw[hW];simp);have HG1:=hid (HG.out.below HB.out HG.out.pos);have UK:=hid (HK.out.below HB.out HK.out.pos);have HFF:=hid (dH.yN (D := λ k=>k<w.heap.size+1) HE.out (Nat.lt_succ_self _) ((HA.out.keep (Keeps.of_below HB.out λ _ h=>h)).mono λ k hk _=>Nat.lt_succ_of_lt hk));have HV:=hid (Wi f w.heap.size 0 A c W HFF.out HG1.out UK.out);clear hW;cases hv:bf f
 ·have HZ:=hid (show gZ f=dV by unfold gZ;rw[hv];rfl)
  rw[hv]at HV;clear hv;go_wp2_with (first|(go_at_call 72;refine HV.out.mono ?_;rintro e V ⟨rfl,ku⟩;have hr:=HR.out.below ku;obtain⟨r0,r1,r2,r3,r4,rl⟩:=hr.cells;have p0:=hr.free 0;have p1:=hr.free 1;have p2:=hr.free 2;have p3:=hr.free 3;have p4:=hr.free 4))
  refine aK λ WE fD=>?_;have jl:OB WE (w.heap.size+1) 0 ⟨#[]⟩ 0 0 none 0 0:=by rw[fD];exact bF hr
  have hcE:aH (λ x=>x=w.heap.size+1) V WE:=by rw[fD];exact aN _ _ _ _ _ _ _
  have FQ:=HB.out.trans (ku.mono HB.out.size);have mO:Below w.heap.size w WE:=FQ.trans (hcE.below (B:=w.heap.size) (λ x hx h=>by omega) FQ.size);obtain⟨y0,y1,y2,y3,y4,yl⟩:=jl.cells;clear fD r0 r1 r2 r3 r4 p0 p1 p2 p3 p4;rw[HZ.out];exact bodyPost_ret (v := .agg #[.int .i64 0,.string ⟨#[]⟩,.int .i64 0,.int .i64 0,.slice none 0 0]) (by simp[results,Tryz.results88,go_sem,y0,y1,y2,y3,y4]) rfl ⟨_,rfl,mX.zero mO⟩
 ·have HZ:=hid (show gZ f=bV f by unfold gZ;rw[hv];rfl)
  have Py:=hid (Ve f _ (iI hv).2.2 (by have:=(iI hv).1;omega));obtain⟨g,hg⟩:∃g,g=bV f:=⟨_,rfl⟩;have HGJ:=hid hg;rw[hv]at HV;clear hv hg;go_wp2_with (first|(go_at_call 72;refine HV.out.mono ?_;rintro e V ⟨rfl,ku⟩;have iD:=hid ku;have HC:=hid (Py.out _ _ _ _ _ V (HFF.out.keep (Keeps.of_below ku λ k hk=>by have:=zk.out;omega))))|(go_at_call 125;refine HC.out.mono ?_;rw[<-HGJ.out];rintro e w5 ⟨v,rfl,hb5,A5,c5,rfl,VB⟩;have HA5:=hid VB;have Px:=hid (iD.out.trans (hb5.mono iD.out.size));have HS5:=hid (iD.out.size);clear VB;have hr:=HR.out.below Px.out;obtain⟨r0,r1,r2,r3,r4,rl⟩:=hr.cells;have p0:=hr.free 0;have p1:=hr.free 1;have p2:=hr.free 2;have p3:=hr.free 3;have p4:=hr.free 4))
  refine aK λ WE fD=>?_;have jl:OB WE (w.heap.size+1) g.op g.name g.val g.bound A5 g.args.length c5:=by rw[fD];exact bF hr
  have hcE:aH (λ x=>x=w.heap.size+1) w5 WE:=by rw[fD];exact aN _ _ _ _ _ _ _
  have qgc:=HB.out.trans (Px.out.mono HB.out.size);have mO:Below w.heap.size w WE:=qgc.trans (hcE.below (B:=w.heap.size) (λ x hx h=>by omega) qgc.size)
  have hnew:mX (gZ f) w (.agg #[.int .i64 g.op,.string g.name,.int .i64 g.val,.int .i64 g.bound,.slice A5 g.args.length c5]) WE:=by
   rw[HZ.out,<-HGJ.out];exact⟨mO,A5,c5,rfl,(HA5.out.nw hcE λ x h=>by have:x=w.heap.size+1:=h;have:=zk.out;have:=HS5.out;omega).base (by have:=zk.out;have:=HS5.out;omega)⟩
  obtain⟨y0,y1,y2,y3,y4,yl⟩:=jl.cells;clear fD r0 r1 r2 r3 r4 p0 p1 p2 p3 p4;exact bodyPost_ret (v := .agg #[.int .i64 g.op,.string g.name,.int .i64 g.val,.int .i64 g.bound,.slice A5 g.args.length c5]) (by simp[results,Tryz.results88,go_sem,y0,y1,y2,y3,y4]) rfl ⟨_,rfl,hnew⟩
end Go.Proofs.YtdpbgcmfeajigaaGreatDoor
namespace Go.Proofs.YtdpbgcmfeajigaaGreatDoor
def vC (o:Int):Prop:=o=1\/o=2\/o=5\/o=6\/o=8\/o=9\/o=10\/o=15\/o=16\/o=17
def Bare (f:Fm):Prop:=∃ins,allI bU ins f
theorem Bare.arg {f g:Fm}(h:Bare f)(hg:g∈f.args):Bare g:=let ⟨_,h⟩:=h;⟨_,(dL.1 h).2 g hg⟩
theorem Bare.node {f:Fm}(h:Bare f):(aJ f.op).loose=true/\bW f=true/\(f.op=4->(f.args.getD 0 default).op=3):=let ⟨_,h⟩:=h;let h:=jE (dL.1 h).1;⟨h.1,h.2.1,h.2.2.2⟩
theorem Bare.canon {f:Fm}(h:Bare f)(hs:f.size<=manyN):Bare (bV f):=let ⟨_,h⟩:=h;⟨_,Dw f _ h hs⟩
theorem Ef {f:Fm}(h:bf f=true):gZ f=bV f:=by
 unfold gZ;rw[if_pos h]
open Go.RowKit Go.Shelf
instance decMemB (k:ByteArray) (ks:List ByteArray):Decidable (k∈ks) := @List.instDecidableMemOfLawfulBEq ByteArray instBEqOfDecidableEq _ k ks
section
variable {w w':World}{mb:Nat}{ks:List ByteArray}
end
open Go.RowKit
def rX (ops:Array Oper):Bool:=ops.all λ o=>match o.op with
 | .defer _=>false
 | _=>true
theorem KP {ops:Array Oper}(h:rX ops=true){i:Nat}{o:Oper}(ho:ops[i]?=some o):∀c,o.op ≠ .defer c:=by
 intro c e;obtain⟨hi,rfl⟩:=Array.getElem?_eq_some_iff.1 ho;have:=Array.all_eq_true.1 h i hi;rw[e]at this;cases this
section
variable {P:Program}{ops:Array Oper}{Q:Exit->Act->World->Prop}{n l:Nat}
theorem TB {o:Oper}(hd:∀c,o.op ≠ .defer c){a:Act}{w:World}{K K':Act->World->Prop}(hK:∀a w,K a w->K' a w)(h:Oper.wp P o a w K Q):Oper.wpIn (Fence.wide.inRound l) n P o a w K' Q:=by
 refine⟨λ _ _=>trivial,?_⟩;rw[Oper.semAt_eq _ _ _ hd];unfold Oper.wp at h
 generalize(execOp a.eval o).run P w=r at *
 cases r with
 | ok nx w' =>
  cases nx with
  | value v=>exact hK _ _ h
  | skip=>exact hK _ _ h
  | defer d=>exact hK _ _ h
  | enter f args =>
   refine⟨λ h=>(by cases h),?_⟩;refine CallsIn.inRound l (callsIn_wide.2 (Calls.mono h λ e w'' he=>?_))
   cases e with
   | returned u=>exact hK _ _ he
   | panicked c=>exact he
   | outgrown=>exact he
  | row row args =>
   refine⟨λ h=>(by cases h),λ c cs _=>?_⟩;obtain⟨v,w',r,s⟩:=h c cs;exact⟨v,w',hK _ _ r,stepsIn_wide.2 s⟩
  | round _ _ _ _ _=>exact h.elim
  | recover=>exact h.elim
  | _=>exact h.elim
 | halt x w'=>cases x <;> exact h
theorem lT (hd:rX ops=true)(hQ:¬LetsOut Q):∀(is:List Nat) (a:Act) (w:World),wpOps P ops Q is a w->wpOpsIn (Fence.wide.inRound l) n P ops Q is a w
 | [],a,w,h=>h
 | i :: is,a,w,h=>by
  unfold wpOps at h;unfold wpOpsIn
  cases ho:ops[i]? with
  | none =>
   simp only[ho]at h⊢;exact lT hd hQ is a w h
  | some o =>
   simp only[ho]at h⊢
   split
   ·rename_i hw
    rw[if_pos hw]at h
    rcases h with h|h
    ·exact TB (KP hd ho) (λ a w=>lT hd hQ is a w) h
    ·exact absurd h.2 hQ
   ·rename_i hw
    rw[if_neg hw]at h;exact⟨λ _ _=>trivial,lT hd hQ is _ w h⟩
theorem nP {id:Nat}{a:Act}{w:World}(hm:P.follows .mixedOrders=true)(hd:rX ops=true)(hQ:¬LetsOut Q)
  (h:wpAny P .any ops Q ops.size (Array.replicate ops.size false) a w.drew):(Code.region id ops true).wpIn (Fence.wide.inRound l) n P Q a w :=
 wpIn_region_draw λ t=>by
  simp only[Region.schedule,hm,Bool.true_or,if_true];exact lT hd hQ _ a _ (wpAny_sound ops.size t _ a _ h)
theorem pY {id:Nat}{a:Act}{w:World}{ls:List Oper}{o:Oper}(S:World->Prop)(hm:P.follows .mixedOrders=true)(hd:rX (o :: ls).toArray=true)(hQ:¬LetsOut Q)
  (hb:yU (o :: ls).dropLast.toArray=true) (hl:sinkB .any (o :: ls).dropLast.toArray.size ((o :: ls).getLast (List.cons_ne_nil _ _))=true) (hS:S w.drew)
  (h:S w.drew->wpAnyH P .any (o :: ls).dropLast.toArray (kZ P ((o :: ls).getLast (List.cons_ne_nil _ _)) Q) S (o :: ls).dropLast.toArray.size (Array.replicate (o :: ls).dropLast.toArray.size false) a w.drew):(Code.region id (o :: ls).toArray true).wpIn (Fence.wide.inRound l) n P Q a w:=by
 refine nP hm hd hQ ?_;have h1:=G8 hb hl (o :: ls).dropLast.toArray.size (Array.replicate (o :: ls).dropLast.toArray.size false) a w.drew (by simp) (wpAny_of_held _ _ _ _ (h hS));have e0:(o :: ls).toArray=(o :: ls).dropLast.toArray.push ((o :: ls).getLast (List.cons_ne_nil _ _)):=by rw[List.push_toArray,List.dropLast_concat_getLast]
 rw[e0,Array.size_push];have e:Array.replicate ((o :: ls).dropLast.toArray.size+1) false=(Array.replicate (o :: ls).dropLast.toArray.size false).push false:=by rw[Array.replicate_succ]
 rw[e];exact h1
end
end Go.Proofs.YtdpbgcmfeajigaaGreatDoor
namespace Go.Proofs.YtdpbgcmfeajigaaGreatDoor
open Go.RowKit Go.Shelf
attribute [local go_sem] ak Oper.semAt_some
end Go.Proofs.YtdpbgcmfeajigaaGreatDoor
