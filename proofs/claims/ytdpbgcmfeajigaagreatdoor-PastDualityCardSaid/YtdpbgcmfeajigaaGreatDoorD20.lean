/-
  Parts of a proof: HZ LT LD LF LE.
-/
import Derived.Test.YtdpbgcmfeajigaaGreatDoorD19
import Derived.Test.YtdpbgcmfeajigaaGreatDoorD18
import Derived.Sort.OwnSorted
import Derived.Test.YtdpbgcmfeajigaaGreatDoorD00
set_option linter.unusedSimpArgs false
set_option linter.unusedVariables false
set_option maxHeartbeats 8000000
set_option maxRecDepth 100000
namespace Go.Proofs.YtdpbgcmfeajigaaGreatDoor
open Go.RowKit Go.Shelf
attribute [local go_sem] ak jJ jI run_store_func
def iy (f:Fm):Fm:=if aV f then bU f else dL
theorem yB {D:Dom}(f:Fm)(v:Value)(w:World)(h:bI w D v f)(hg:GF w)(hk:GK w) :
  Calls Tryz.prog 88 #[v] w fun e w'=>∃kv,e = .returned kv/\kH (iy f) w kv w':=by
 obtain⟨A,c,rfl,ha⟩:=h;have HA:=hid ha.old;have HG:=hid hg;have HK:=hid hk;clear ha hg hk
 go_enter Tryz.func88,Tryz.ntmps88
 go_upto_region 1 with(fail)
 refine aI fun W hW=>?_;have HB:=hid (show Below w.heap.size w W by rw[hW];go_grown)
 have HE:=hid (show dF W w.heap.size f A c by
  show W.heap[w.heap.size]?=_
  rw[hW,aQ _ _ _ (by simp)];exact at_new _ _ _ rfl)
 have HR:=hid (show OB W (w.heap.size+1) 0 ⟨#[]⟩ 0 0 none 0 0 by rw[hW];exact at_new _ _ _ (by simp));have yL:=hid (show W.heap.size=w.heap.size+2 by rw[hW];simp);have ZI:=hid (HG.out.below HB.out HG.out.pos);have Lr:=hid (HK.out.below HB.out HK.out.pos);have Zm:=hid (dF.vG (D:=fun k=>k<w.heap.size+1) HE.out (Nat.lt_succ_self _) ((HA.out.keep (Keeps.of_below HB.out fun _ h=>h)).mono fun k hk _=>Nat.lt_succ_of_lt hk));have HV:=hid (Jc f w.heap.size 0 A c W Zm.out ZI.out Lr.out);clear hW;cases hv:aV f
 ·have HZ:=hid (show iy f=dL by unfold iy;rw[hv];rfl)
  rw[hv]at HV;clear hv;go_wp2_with (first|(go_at_call 72;refine HV.out.mono ?_;rintro e V ⟨rfl,je⟩;have hr:=HR.out.below je;obtain⟨r0,r1,r2,r3,r4,rl⟩:=hr.cells;have p0:=hr.free 0;have p1:=hr.free 1;have p2:=hr.free 2;have p3:=hr.free 3;have p4:=hr.free 4))
  refine aJ fun WE dZ=>?_;have iM:OB WE (w.heap.size+1) 0 ⟨#[]⟩ 0 0 none 0 0:=by rw[dZ];exact bf hr
  have hcE:aH (fun x=>x=w.heap.size+1) V WE:=by rw[dZ];exact aN _ _ _ _ _ _ _
  have FB:=HB.out.trans (je.mono HB.out.size);have kN:Below w.heap.size w WE:=FB.trans (hcE.below (B:=w.heap.size) (fun x hx h=>by omega) FB.size);obtain⟨y0,y1,y2,y3,y4,yl⟩:=iM.cells;clear dZ r0 r1 r2 r3 r4 p0 p1 p2 p3 p4;rw[HZ.out];exact bodyPost_ret (v := .agg #[.int .i64 0,.string ⟨#[]⟩,.int .i64 0,.int .i64 0,.slice none 0 0]) (by simp[results,Tryz.results88,go_sem,y0,y1,y2,y3,y4]) rfl ⟨_,rfl,kH.zero kN⟩
 ·have HZ:=hid (show iy f=bU f by unfold iy;rw[hv];rfl)
  have rU:=hid (Um f _ (iq hv).2.2 (by have:=(iq hv).1;omega));obtain⟨g,hg⟩:∃g,g=bU f:=⟨_,rfl⟩;have HGJ:=hid hg;rw[hv]at HV;clear hv hg;go_wp2_with (first|(go_at_call 72;refine HV.out.mono ?_;rintro e V ⟨rfl,je⟩;have iF:=hid je;have HC:=hid (rU.out _ _ _ _ _ V (Zm.out.keep (Keeps.of_below je fun k hk=>by have:=yL.out;omega))))|(go_at_call 125;refine HC.out.mono ?_;rw[<-HGJ.out];rintro e w5 ⟨v,rfl,hb5,A5,c5,rfl,OQ⟩;have Wp:=hid OQ;have JK:=hid (iF.out.trans (hb5.mono iF.out.size));have HS5:=hid (iF.out.size);clear OQ;have hr:=HR.out.below JK.out;obtain⟨r0,r1,r2,r3,r4,rl⟩:=hr.cells;have p0:=hr.free 0;have p1:=hr.free 1;have p2:=hr.free 2;have p3:=hr.free 3;have p4:=hr.free 4))
  refine aJ fun WE dZ=>?_;have iM:OB WE (w.heap.size+1) g.op g.name g.val g.bound A5 g.args.length c5:=by rw[dZ];exact bf hr
  have hcE:aH (fun x=>x=w.heap.size+1) w5 WE:=by rw[dZ];exact aN _ _ _ _ _ _ _
  have qfi:=HB.out.trans (JK.out.mono HB.out.size);have kN:Below w.heap.size w WE:=qfi.trans (hcE.below (B:=w.heap.size) (fun x hx h=>by omega) qfi.size)
  have hnew:kH (iy f) w (.agg #[.int .i64 g.op,.string g.name,.int .i64 g.val,.int .i64 g.bound,.slice A5 g.args.length c5]) WE:=by
   rw[HZ.out,<-HGJ.out];exact⟨kN,A5,c5,rfl,(Wp.out.nw hcE fun x h=>by have:x=w.heap.size+1:=h;have:=yL.out;have:=HS5.out;omega).base (by have:=yL.out;have:=HS5.out;omega)⟩
  obtain⟨y0,y1,y2,y3,y4,yl⟩:=iM.cells;clear dZ r0 r1 r2 r3 r4 p0 p1 p2 p3 p4;exact bodyPost_ret (v := .agg #[.int .i64 g.op,.string g.name,.int .i64 g.val,.int .i64 g.bound,.slice A5 g.args.length c5]) (by simp[results,Tryz.results88,go_sem,y0,y1,y2,y3,y4]) rfl ⟨_,rfl,hnew⟩
end Go.Proofs.YtdpbgcmfeajigaaGreatDoor
namespace Go.Proofs.YtdpbgcmfeajigaaGreatDoor
def nY (o:Int):Prop:=o=1\/o=2\/o=5\/o=6\/o=8\/o=9\/o=10\/o=15\/o=16\/o=17
theorem Yh {o:Int}(h:nY o)(n:ByteArray)(v b:Int)(l:List Fm):kf true (.mk o n v b l) = .mk (aY true o) n (fK true o v) 0 (l.map (kf true)):=by
 rcases h with rfl|rfl|rfl|rfl|rfl|rfl|rfl|rfl|rfl|rfl
 all_goals
  rw[yT rfl,<-Tv];rfl
def Bare (f:Fm):Prop:=∃ins,allI bH ins f
theorem Bare.arg {f g:Fm}(h:Bare f)(hg:g∈f.args):Bare g:=let ⟨_,h⟩:=h;⟨_,(bT.1 h).2 g hg⟩
theorem Xj {ins:Bool}{f:Fm}(h:allI bH ins f):allI qI ins f:=rZ (fun x hx=>by
 unfold bH at hx;unfold qI;simp only[Bool.and_eq_true]at hx
 exact hx.1.1.2) h
theorem Bare.node {f:Fm}(h:Bare f):(aA f.op).loose=true/\bV f=true/\(f.op=4->(f.args.getD 0 default).op=3):=let ⟨_,h⟩:=h;let h:=lD (bT.1 h).1;⟨h.1,h.2.1,h.2.2.2⟩
theorem Bare.canon {f:Fm}(h:Bare f)(hs:f.size<=manyN):Bare (bU f):=let ⟨_,h⟩:=h;⟨_,C9 f _ h hs⟩
theorem xI {f:Fm}(h:Bare f)(h3:f.op=3):f = .mk 3 f.name f.val f.bound []:=by
 conv=>lhs;rw[<-f.eta]
 rw[h3,Q7 (by rw[h3];rfl) h.node.2.1]
theorem FX {f:Fm}(h:Bare f)(h4:f.op=4):∃g,f = .mk 4 f.name f.val f.bound [g]/\g.op=3/\f.args = [g]:=by
 obtain⟨_,hs,ha⟩:=h.node;obtain⟨g,hg⟩:=Ep (by rw[h4];rfl) (by rw[h4];rfl) hs;refine⟨g,?_,?_,hg⟩
 ·conv=>lhs;rw[<-f.eta]
  rw[h4,hg]
 ·have:=ha h4
  rw[hg]at this;exact this
theorem DY {f:Fm}(h:aV f=true):iy f=bU f:=by
 unfold iy;rw[if_pos h]
open Go.RowKit Go.Shelf
instance decMemB (k:ByteArray) (ks:List ByteArray):Decidable (k∈ks) := @List.instDecidableMemOfLawfulBEq ByteArray instBEqOfDecidableEq _ k ks
def XG (s:ByteArray):Value := .string s
theorem RN (e:Bool)(w:World)(q:ByteArray):(Instr.checkKey e 10000 9 (XG q)).run Tryz.prog w = .ok () w:=by kernel_rfl
theorem Zb:LM Tryz.prog 9 XG :=
 .YE Tryz.underlying9 RN (fun a b=>by
  unfold XG;simp only[Instr.sameNow]
  rw[show(a==b)=decide (a=b)from by rw[Bool.eq_iff_iff,Go.MapKept.bytes_beq,decide_eq_true_eq]]) (fun k=>by
  simp only[XG,Instr.sameBits]
  rw[Go.MapKept.bytes_beq])
def setB (ks:List ByteArray):List (ByteArray×Value):=ks.map fun k=>(k,.bool true)
theorem VB (ks:List ByteArray):(setB ks).map (·.1)=ks:=by unfold setB;rw[List.map_map];show ks.map id=ks;simp
theorem YX {ks:List ByteArray}{k:ByteArray}(h:k ∉ ks):updB (setB ks) k (.bool true)=setB (ks ++ [k]):=by
 unfold updB;rw[VB,if_neg h];unfold setB;rw[List.map_append];rfl
def JG (w:World)(mb:Nat)(ks:List ByteArray):Prop:=jf XG w mb (setB ks)
section
variable {w w':World}{mb:Nat}{ks:List ByteArray}
theorem JG.lt (h:JG w mb ks):mb<w.heap.size:=jf.lt h
theorem JG.of_block (h:JG w mb ks)(hb:w'.heap[mb]?=w.heap[mb]?):JG w' mb ks:=jf.of_block h hb
theorem JG.put (h:JG w mb ks){k:ByteArray}(hk:k ∉ ks):∃w',(Instr.mapUpdate 113 (.map (some mb)) (.string k) (.bool true)).run Tryz.prog w = .ok () w'/\JG w' mb (ks ++ [k])/\w.grownBy w' (some mb)/\w'.heap.size=w.heap.size:=by
 obtain⟨w',h1,h2,h3,h4⟩:=KR Zb (T:=113) (E:=4) (P:=Tryz.prog) (by kernel_rfl) h k (.bool true);rw[YX hk]at h2;exact⟨w',h1,h2,h3,h4⟩
end
def RdS (w:World)(D:Dom)(A:Option Addr)(c:Nat)(ss:List ByteArray):Prop:=Rd w D 1 A ss.length c (ss.map .string)
open Go.RowKit
def qU (ops:Array Oper):Bool:=ops.all fun o=>match o.op with
 | .defer _=>false
 | _=>true
theorem KA {ops:Array Oper}(h:qU ops=true){i:Nat}{o:Oper}(ho:ops[i]?=some o):∀c,o.op ≠ .defer c:=by
 intro c e;obtain⟨hi,rfl⟩:=Array.getElem?_eq_some_iff.1 ho;have:=Array.all_eq_true.1 h i hi;rw[e]at this;cases this
section
variable {P:Program}{ops:Array Oper}{Q:Exit->Act->World->Prop}{n l:Nat}
theorem RU {o:Oper}(hd:∀c,o.op ≠ .defer c){a:Act}{w:World}{K K':Act->World->Prop}(hK:∀a w,K a w->K' a w)(h:Oper.wp P o a w K Q):Oper.wpIn (Fence.wide.inRound l) n P o a w K' Q:=by
 refine⟨fun _ _=>trivial,?_⟩;rw[Oper.semAt_eq _ _ _ hd];unfold Oper.wp at h
 generalize(execOp a.eval o).run P w=r at *
 cases r with
 | ok nx w' =>
  cases nx with
  | value v=>exact hK _ _ h
  | skip=>exact hK _ _ h
  | defer d=>exact hK _ _ h
  | enter f args =>
   refine⟨fun h=>(by cases h),?_⟩;refine CallsIn.inRound l (callsIn_wide.2 (Calls.mono h fun e w'' he=>?_))
   cases e with
   | returned u=>exact hK _ _ he
   | panicked c=>exact he
   | outgrown=>exact he
  | row row args =>
   refine⟨fun h=>(by cases h),fun c cs _=>?_⟩;obtain⟨v,w',r,s⟩:=h c cs;exact⟨v,w',hK _ _ r,stepsIn_wide.2 s⟩
  | round _ _ _ _ _=>exact h.elim
  | recover=>exact h.elim
  | _=>exact h.elim
 | halt x w'=>cases x <;> exact h
theorem kY (hd:qU ops=true)(hQ:¬LetsOut Q):∀(is:List Nat) (a:Act) (w:World),wpOps P ops Q is a w->wpOpsIn (Fence.wide.inRound l) n P ops Q is a w
 | [],a,w,h=>h
 | i :: is,a,w,h=>by
  unfold wpOps at h;unfold wpOpsIn
  cases ho:ops[i]? with
  | none =>
   simp only[ho]at h⊢;exact kY hd hQ is a w h
  | some o =>
   simp only[ho]at h⊢
   split
   ·rename_i hw
    rw[if_pos hw]at h
    rcases h with h|h
    ·exact RU (KA hd ho) (fun a w=>kY hd hQ is a w) h
    ·exact absurd h.2 hQ
   ·rename_i hw
    rw[if_neg hw]at h;exact⟨fun _ _=>trivial,kY hd hQ is _ w h⟩
theorem mQ {id:Nat}{a:Act}{w:World}(hm:P.follows .mixedOrders=true)(hd:qU ops=true)(hQ:¬LetsOut Q)
  (h:wpAny P .any ops Q ops.size (Array.replicate ops.size false) a w.drew):(Code.region id ops true).wpIn (Fence.wide.inRound l) n P Q a w :=
 wpIn_region_draw fun t=>by
  simp only[Region.schedule,hm,Bool.true_or,if_true];exact kY hd hQ _ a _ (wpAny_sound ops.size t _ a _ h)
theorem oP {id:Nat}{a:Act}{w:World}{ls:List Oper}{o:Oper}(S:World->Prop)(hm:P.follows .mixedOrders=true)(hd:qU (o :: ls).toArray=true)(hQ:¬LetsOut Q)
  (hb:yA (o :: ls).dropLast.toArray=true) (hl:sinkB .any (o :: ls).dropLast.toArray.size ((o :: ls).getLast (List.cons_ne_nil _ _))=true) (hS:S w.drew)
  (h:S w.drew->wpAnyH P .any (o :: ls).dropLast.toArray (jS P ((o :: ls).getLast (List.cons_ne_nil _ _)) Q) S (o :: ls).dropLast.toArray.size (Array.replicate (o :: ls).dropLast.toArray.size false) a w.drew):(Code.region id (o :: ls).toArray true).wpIn (Fence.wide.inRound l) n P Q a w:=by
 refine mQ hm hd hQ ?_;have h1:=GN hb hl (o :: ls).dropLast.toArray.size (Array.replicate (o :: ls).dropLast.toArray.size false) a w.drew (by simp) (wpAny_of_held _ _ _ _ (h hS));have e0:(o :: ls).toArray=(o :: ls).dropLast.toArray.push ((o :: ls).getLast (List.cons_ne_nil _ _)):=by rw[List.push_toArray,List.dropLast_concat_getLast]
 rw[e0,Array.size_push];have e:Array.replicate ((o :: ls).dropLast.toArray.size+1) false=(Array.replicate (o :: ls).dropLast.toArray.size false).push false:=by rw[Array.replicate_succ]
 rw[e];exact h1
end
end Go.Proofs.YtdpbgcmfeajigaaGreatDoor
namespace Go.Proofs.YtdpbgcmfeajigaaGreatDoor
open Go.RowKit Go.Shelf
attribute [local go_sem] ak Oper.semAt_some
structure NmI (W:World) (sb ob mb base:Nat) (xs:List ByteArray):Prop where
 seen:W.heap[sb]?=some (.cells #[.map (some mb)] 113 (0,0))
 set:JG W mb xs
 out:∃A c,W.heap[ob]?=some (.cells #[.slice A xs.length c] 54 (0,0))/\W.ownsRow base 9 1 (.slice A xs.length c) xs.length (xs.map .string)
theorem NmI.dV {W W':World}{V:Dom}{sb ob mb base:Nat}{xs:List ByteArray}(h:NmI W sb ob mb base xs)(hc:aH V W W')(h1:¬V sb)(h2:¬V ob)(h3:¬V mb)(h4:∀k,base<=k->¬V k):NmI W' sb ob mb base xs:=by
 obtain⟨A,c,h5,h6⟩:=h.out;refine⟨hc.box h.seen h1,h.set.of_block (hc.block _ h.set.lt h3),A,c,hc.box h5 h2,Am h6 hc fun k hk=>?_⟩
 rcases h6.2 with⟨h0,_⟩|⟨g,cap,cur,hv,hb,hg,_⟩
 ·rw[h0]at hk;cases hk
 ·rw[hv]at hk
  injection hk with hk
  have:g=k:=hk;subst this;exact h4 _ hb
end Go.Proofs.YtdpbgcmfeajigaaGreatDoor
