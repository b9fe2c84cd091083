/-
  Parts of a proof: HZ LT LD LF LE.
-/
import Derived.Test.YtdpbgcmfeajigaaGreatDoorZ19
import Derived.Test.YtdpbgcmfeajigaaGreatDoorZ18
import Derived.Sort.OwnSorted
import Derived.Test.YtdpbgcmfeajigaaGreatDoorZ00
set_option linter.unusedSimpArgs false
set_option linter.unusedVariables false
set_option maxHeartbeats 8000000
set_option maxRecDepth 100000
namespace Go.Proofs.YtdpbgcmfeajigaaGreatDoor
open Go.RowKit Go.Shelf
attribute [local go_sem] qab qdl qdm run_store_func
def qb6 (f:Fm):Fm:=if qau f then qa1 f else qbs
theorem qit {D:Dom} (f:Fm) (v:Value) (w:World) (h:qbj w D v f) (hg:GF w) (hk:GK w) :
  Calls Tryz.prog 88 #[v] w fun e w' => ∃ kv,e = .returned kv∧qh5 (qb6 f) w kv w':=by
 obtain ⟨A,c,rfl,ha⟩:=h
 have HA:=hid ha.old
 have HG:=hid hg
 have HK:=hid hk
 clear ha hg hk
 go_enter Tryz.func88,Tryz.ntmps88
 go_upto_region 1 with (fail)
 refine qai fun W hW => ?_
 have HB:=hid (show Below w.heap.size w W by rw [hW];go_grown)
 have HE:=hid (show qcj W w.heap.size f A c by
  show W.heap[w.heap.size]? = _
  rw [hW,qan _ _ _ (by simp)];exact at_new _ _ _ rfl)
 have HR:=hid (show OB W (w.heap.size+1) 0 ⟨#[]⟩ 0 0 none 0 0 by rw [hW];exact at_new _ _ _ (by simp))
 have HWS:=hid (show W.heap.size=w.heap.size+2 by rw [hW];simp)
 have HG1:=hid (HG.out.below HB.out HG.out.pos)
 have HK1:=hid (HK.out.below HB.out HK.out.pos)
 have HFF:=hid (qcj.hasF (D:=fun k=>k < w.heap.size+1) HE.out (Nat.lt_succ_self _) ((HA.out.keep (Keeps.of_below HB.out fun _ h=>h)).mono fun k hk _=>Nat.lt_succ_of_lt hk))
 have HV:=hid (loose_any f w.heap.size 0 A c W HFF.out HG1.out HK1.out)
 clear hW
 cases hv:qau f
 ·have HZ:=hid (show qb6 f=qbs by unfold qb6;rw [hv];rfl)
  rw [hv] at HV
  clear hv
  go_wp2_with (first | (go_at_call 72;refine HV.out.mono ?_;rintro e V ⟨rfl,hbV⟩;have hr:=HR.out.below hbV;obtain ⟨r0,r1,r2,r3,r4,rl⟩:=hr.cells;have p0:=hr.free 0;have p1:=hr.free 1;have p2:=hr.free 2;have p3:=hr.free 3;have p4:=hr.free 4))
  refine qag fun WE hWE => ?_
  have hoE:OB WE (w.heap.size+1) 0 ⟨#[]⟩ 0 0 none 0 0:=by rw [hWE];exact qaq hr
  have hcE:Chg (fun x=>x=w.heap.size+1) V WE:=by rw [hWE];exact qaj _ _ _ _ _ _ _
  have hbV2:=HB.out.trans (hbV.mono HB.out.size)
  have hbE:Below w.heap.size w WE:=hbV2.trans (hcE.below (B:=w.heap.size) (fun x hx h=>by omega) hbV2.size)
  obtain ⟨y0,y1,y2,y3,y4,yl⟩:=hoE.cells
  clear hWE r0 r1 r2 r3 r4 p0 p1 p2 p3 p4
  rw [HZ.out]
  exact bodyPost_ret (v := .agg #[.int .i64 0,.string ⟨#[]⟩,.int .i64 0,.int .i64 0,.slice none 0 0]) (by simp [results,Tryz.results88,go_sem,y0,y1,y2,y3,y4]) rfl ⟨_,rfl,qh5.zero hbE⟩
 ·have HZ:=hid (show qb6 f=qa1 f by unfold qb6;rw [hv];rfl)
  have HCC:=hid (canon_any f _ (qb7 hv).2.2 (by have:=(qb7 hv).1;omega))
  obtain ⟨g,hg⟩ : ∃ g,g=qa1 f:=⟨_,rfl⟩
  have HGJ:=hid hg
  rw [hv] at HV
  clear hv hg
  go_wp2_with (first | (go_at_call 72;refine HV.out.mono ?_;rintro e V ⟨rfl,hbV⟩;have HBV:=hid hbV;have HC:=hid (HCC.out _ _ _ _ _ V (HFF.out.keep (Keeps.of_below hbV fun k hk=>by have:=HWS.out;omega)))) | (go_at_call 125;refine HC.out.mono ?_;rw [←HGJ.out];rintro e w5 ⟨v,rfl,hb5,A5,c5,rfl,ha5⟩;have HA5:=hid ha5;have HB5:=hid (HBV.out.trans (hb5.mono HBV.out.size));have HS5:=hid (HBV.out.size);clear ha5;have hr:=HR.out.below HB5.out;obtain ⟨r0,r1,r2,r3,r4,rl⟩:=hr.cells;have p0:=hr.free 0;have p1:=hr.free 1;have p2:=hr.free 2;have p3:=hr.free 3;have p4:=hr.free 4))
  refine qag fun WE hWE => ?_
  have hoE:OB WE (w.heap.size+1) g.op g.name g.val g.bound A5 g.args.length c5:=by rw [hWE];exact qaq hr
  have hcE:Chg (fun x=>x=w.heap.size+1) w5 WE:=by rw [hWE];exact qaj _ _ _ _ _ _ _
  have hb5w:=HB.out.trans (HB5.out.mono HB.out.size)
  have hbE:Below w.heap.size w WE:=hb5w.trans (hcE.below (B:=w.heap.size) (fun x hx h=>by omega) hb5w.size)
  have hnew:qh5 (qb6 f) w (.agg #[.int .i64 g.op,.string g.name,.int .i64 g.val,.int .i64 g.bound,.slice A5 g.args.length c5]) WE:=by
   rw [HZ.out,←HGJ.out]
   exact ⟨hbE,A5,c5,rfl,(HA5.out.nw hcE fun x h=>by have:x=w.heap.size+1:=h;have:=HWS.out;have:=HS5.out;omega).base (by have:=HWS.out;have:=HS5.out;omega)⟩
  obtain ⟨y0,y1,y2,y3,y4,yl⟩:=hoE.cells
  clear hWE r0 r1 r2 r3 r4 p0 p1 p2 p3 p4
  exact bodyPost_ret (v := .agg #[.int .i64 g.op,.string g.name,.int .i64 g.val,.int .i64 g.bound,.slice A5 g.args.length c5]) (by simp [results,Tryz.results88,go_sem,y0,y1,y2,y3,y4]) rfl ⟨_,rfl,hnew⟩
end Go.Proofs.YtdpbgcmfeajigaaGreatDoor
namespace Go.Proofs.YtdpbgcmfeajigaaGreatDoor
def plainOp (o:Int):Prop:=o=1∨o=2∨o=5∨o=6∨o=8∨o=9∨o=10∨o=15∨o=16∨o=17
def Bare (f:Fm):Prop := ∃ ins,allI qbf ins f
theorem Bare.arg {f g:Fm} (h:Bare f) (hg:g∈f.args):Bare g:=let ⟨_,h⟩:=h;⟨_,(qa9.1 h).2 g hg⟩
theorem Bare.node {f:Fm} (h:Bare f):(qal f.op).loose=true∧qaz f=true∧(f.op=4→(f.args.getD 0 default).op=3):=let ⟨_,h⟩:=h;let h:=qdo (qa9.1 h).1;⟨h.1,h.2.1,h.2.2.2⟩
theorem Bare.canon {f:Fm} (h:Bare f) (hs:f.size≤manyN):Bare (qa1 f):=let ⟨_,h⟩:=h;⟨_,canonZ_bare f _ h hs⟩
theorem canonical_loose {f:Fm} (h:qau f=true):qb6 f=qa1 f:=by
 unfold qb6;rw [if_pos h]
end Go.Proofs.YtdpbgcmfeajigaaGreatDoor
namespace Go.Proofs.YtdpbgcmfeajigaaGreatDoor
open Go.RowKit Go.Shelf
instance decMemB (k:ByteArray) (ks:List ByteArray):Decidable (k∈ks) := @List.instDecidableMemOfLawfulBEq ByteArray instBEqOfDecidableEq _ k ks
def encB (s:ByteArray):Value := .string s
theorem strB_check (e:Bool) (w:World) (q:ByteArray):(Instr.checkKey e 10000 9 (encB q)).run Tryz.prog w = .ok () w:=by kernel_rfl
theorem strB_key:KeyT Tryz.prog 9 encB :=
 .of_now Tryz.underlying9 strB_check (fun a b=>by
  unfold encB
  simp only [Instr.sameNow]
  rw [show (a == b)=decide (a=b) from by rw [Bool.eq_iff_iff,Go.MapKept.bytes_beq,decide_eq_true_eq]]) (fun k=>by
  simp only [encB,Instr.sameBits]
  rw [Go.MapKept.bytes_beq])
def setB (ks:List ByteArray):List (ByteArray × Value):=ks.map fun k=>(k,.bool true)
theorem setB_keys (ks:List ByteArray):(setB ks).map (·.1)=ks:=by unfold setB;rw [List.map_map];show ks.map id=ks;simp
theorem setB_new {ks:List ByteArray} {k:ByteArray} (h:k ∉ ks):updB (setB ks) k (.bool true)=setB (ks ++ [k]):=by
 unfold updB
 rw [setB_keys,if_neg h]
 unfold setB
 rw [List.map_append];rfl
def BSet (w:World) (mb:Nat) (ks:List ByteArray):Prop:=qd7 encB w mb (setB ks)
section
variable {w w':World} {mb:Nat} {ks:List ByteArray}
theorem BSet.lt (h:BSet w mb ks):mb < w.heap.size:=qd7.lt h
theorem BSet.of_block (h:BSet w mb ks) (hb:w'.heap[mb]? = w.heap[mb]?):BSet w' mb ks:=qd7.of_block h hb
theorem BSet.put (h:BSet w mb ks) {k:ByteArray} (hk:k ∉ ks) : ∃ w',(Instr.mapUpdate 113 (.map (some mb)) (.string k) (.bool true)).run Tryz.prog w = .ok () w'∧BSet w' mb (ks ++ [k])∧w.grownBy w' (some mb)∧w'.heap.size=w.heap.size:=by
 obtain ⟨w',h1,h2,h3,h4⟩:=run_update_b strB_key (T:=113) (E:=4) (P:=Tryz.prog) (by kernel_rfl) h k (.bool true)
 rw [setB_new hk] at h2
 exact ⟨w',h1,h2,h3,h4⟩
end
def RdS (w:World) (D:Dom) (A:Option Addr) (c:Nat) (ss:List ByteArray):Prop:=Rd w D 1 A ss.length c (ss.map .string)
end Go.Proofs.YtdpbgcmfeajigaaGreatDoor
namespace Go.Proofs.YtdpbgcmfeajigaaGreatDoor
open Go.RowKit
def qgu (ops:Array Oper):Bool:=ops.all fun o=>match o.op with
 | .defer _=>false
 | _=>true
theorem noDefer_spec {ops:Array Oper} (h:qgu ops=true) {i:Nat} {o:Oper} (ho:ops[i]? = some o) : ∀ c,o.op ≠ .defer c:=by
 intro c e
 obtain ⟨hi,rfl⟩:=Array.getElem?_eq_some_iff.1 ho
 have:=Array.all_eq_true.1 h i hi
 rw [e] at this
 cases this
section
variable {P:Program} {ops:Array Oper} {Q:Exit→Act→World→Prop} {n l:Nat}
theorem wpIn_of_wp {o:Oper} (hd : ∀ c,o.op ≠ .defer c) {a:Act} {w:World} {K K':Act→World→Prop} (hK : ∀ a w,K a w→K' a w) (h:Oper.wp P o a w K Q):Oper.wpIn (Fence.wide.inRound l) n P o a w K' Q:=by
 refine ⟨fun _ _=>trivial,?_⟩
 rw [Oper.semAt_eq _ _ _ hd]
 unfold Oper.wp at h
 generalize (execOp a.eval o).run P w=r at *
 cases r with
 | ok nx w' =>
  cases nx with
  | value v=>exact hK _ _ h
  | skip=>exact hK _ _ h
  | defer d=>exact hK _ _ h
  | enter f args =>
   refine ⟨fun h=>(by cases h),?_⟩
   refine CallsIn.inRound l (callsIn_wide.2 (Calls.mono h fun e w'' he => ?_))
   cases e with
   | returned u=>exact hK _ _ he
   | panicked c=>exact he
   | outgrown=>exact he
  | row row args =>
   refine ⟨fun h=>(by cases h),fun c cs _ => ?_⟩
   obtain ⟨v,w',r,s⟩:=h c cs
   exact ⟨v,w',hK _ _ r,stepsIn_wide.2 s⟩
  | round _ _ _ _ _=>exact h.elim
  | recover=>exact h.elim
  | _=>exact h.elim
 | halt x w'=>cases x <;> exact h
theorem qds (hd:qgu ops=true) (hQ : ¬ LetsOut Q) : ∀ (is:List Nat) (a:Act) (w:World),wpOps P ops Q is a w→wpOpsIn (Fence.wide.inRound l) n P ops Q is a w
 | [],a,w,h=>h
 | i :: is,a,w,h=>by
  unfold wpOps at h
  unfold wpOpsIn
  cases ho:ops[i]? with
  | none =>
   simp only [ho] at h ⊢
   exact qds hd hQ is a w h
  | some o =>
   simp only [ho] at h ⊢
   split
   ·rename_i hw
    rw [if_pos hw] at h
    rcases h with h | h
    ·exact wpIn_of_wp (noDefer_spec hd ho) (fun a w=>qds hd hQ is a w) h
    ·exact absurd h.2 hQ
   ·rename_i hw
    rw [if_neg hw] at h
    exact ⟨fun _ _=>trivial,qds hd hQ is _ w h⟩
theorem qd8 {id:Nat} {a:Act} {w:World} (hm:P.follows .mixedOrders=true) (hd:qgu ops=true) (hQ : ¬ LetsOut Q)
  (h:wpAny P .any ops Q ops.size (Array.replicate ops.size false) a w.drew):(Code.region id ops true).wpIn (Fence.wide.inRound l) n P Q a w :=
 wpIn_region_draw fun t=>by
  simp only [Region.schedule,hm,Bool.true_or,if_true]
  exact qds hd hQ _ a _ (wpAny_sound ops.size t _ a _ h)
theorem qe1 {id:Nat} {a:Act} {w:World} {ls:List Oper} {o:Oper} (S:World→Prop) (hm:P.follows .mixedOrders=true) (hd:qgu (o :: ls).toArray=true) (hQ : ¬ LetsOut Q)
  (hb:backB (o :: ls).dropLast.toArray=true) (hl:sinkB .any (o :: ls).dropLast.toArray.size ((o :: ls).getLast (List.cons_ne_nil _ _))=true) (hS:S w.drew)
  (h:S w.drew→wpAnyH P .any (o :: ls).dropLast.toArray (qeo P ((o :: ls).getLast (List.cons_ne_nil _ _)) Q) S (o :: ls).dropLast.toArray.size (Array.replicate (o :: ls).dropLast.toArray.size false) a w.drew):(Code.region id (o :: ls).toArray true).wpIn (Fence.wide.inRound l) n P Q a w:=by
 refine qd8 hm hd hQ ?_
 have h1:=wpAny_sink hb hl (o :: ls).dropLast.toArray.size (Array.replicate (o :: ls).dropLast.toArray.size false) a w.drew (by simp) (wpAny_of_held _ _ _ _ (h hS))
 have e0:(o :: ls).toArray=(o :: ls).dropLast.toArray.push ((o :: ls).getLast (List.cons_ne_nil _ _)):=by rw [List.push_toArray,List.dropLast_concat_getLast]
 rw [e0,Array.size_push]
 have e:Array.replicate ((o :: ls).dropLast.toArray.size+1) false=(Array.replicate (o :: ls).dropLast.toArray.size false).push false:=by rw [Array.replicate_succ]
 rw [e]
 exact h1
end
end Go.Proofs.YtdpbgcmfeajigaaGreatDoor
namespace Go.Proofs.YtdpbgcmfeajigaaGreatDoor
open Go.RowKit Go.Shelf
attribute [local go_sem] qab Oper.semAt_some
structure NmI (W:World) (sb ob mb base:Nat) (xs:List ByteArray):Prop where
 seen:W.heap[sb]? = some (.cells #[.map (some mb)] 113 (0,0))
 set:BSet W mb xs
 out : ∃ A c,W.heap[ob]? = some (.cells #[.slice A xs.length c] 54 (0,0))∧W.ownsRow base 9 1 (.slice A xs.length c) xs.length (xs.map .string)
theorem NmI.chg {W W':World} {V:Dom} {sb ob mb base:Nat} {xs:List ByteArray} (h:NmI W sb ob mb base xs) (hc:Chg V W W') (h1 : ¬ V sb) (h2 : ¬ V ob) (h3 : ¬ V mb) (h4 : ∀ k,base≤k → ¬ V k):NmI W' sb ob mb base xs:=by
 obtain ⟨A,c,h5,h6⟩:=h.out
 refine ⟨hc.box h.seen h1,h.set.of_block (hc.block _ h.set.lt h3),A,c,hc.box h5 h2,own_chg h6 hc fun k hk => ?_⟩
 rcases h6.2 with ⟨h0,_⟩ | ⟨g,cap,cur,hv,hb,hg,_⟩
 ·rw [h0] at hk;cases hk
 ·rw [hv] at hk
  injection hk with hk
  have:g=k:=hk
  subst this
  exact h4 _ hb
end Go.Proofs.YtdpbgcmfeajigaaGreatDoor
