/-
  Parts of a proof: HZ LT LD LF LE.
-/
import Derived.Test.YtdpbgcmfeajigaaGreatDoorP19
import Derived.Test.YtdpbgcmfeajigaaGreatDoorP18
import Derived.Sort.OwnSorted
import Derived.Test.YtdpbgcmfeajigaaGreatDoorP00
set_option linter.unusedSimpArgs false
set_option linter.unusedVariables false
set_option maxHeartbeats 8000000
set_option maxRecDepth 100000
namespace Go.Proofs.YtdpbgcmfeajigaaGreatDoor
open Go.RowKit Go.Shelf
attribute [local go_sem] ak jG jF run_store_func
def iq (f:Fm):Fm:=if bf f then bP f else dW
theorem yA {D:Dom}(f:Fm)(v:Value)(w:World)(h:bG w D v f)(hg:GF w)(hk:GK w) :
  Calls Tryz.prog 88 #[v] w fun e w'=>∃kv,e = .returned kv/\lT (iq f) w kv w':=by
 obtain⟨A,c,rfl,ha⟩:=h;have HA:=hid ha.old;have HG:=hid hg;have HK:=hid hk;clear ha hg hk
 go_enter Tryz.func88,Tryz.ntmps88
 go_upto_region 1 with(fail)
 refine aH fun W hW=>?_;have HB:=hid (show Below w.heap.size w W by rw[hW];go_grown)
 have HE:=hid (show dI W w.heap.size f A c by
  show W.heap[w.heap.size]?=_
  rw[hW,aQ _ _ _ (by simp)];exact at_new _ _ _ rfl)
 have HR:=hid (show OB W (w.heap.size+1) 0 ⟨#[]⟩ 0 0 none 0 0 by rw[hW];exact at_new _ _ _ (by simp));have yK:=hid (show W.heap.size=w.heap.size+2 by rw[hW];simp);have HG1:=hid (HG.out.below HB.out HG.out.pos);have O6:=hid (HK.out.below HB.out HK.out.pos);have HFF:=hid (dI.vM (D:=fun k=>k<w.heap.size+1) HE.out (Nat.lt_succ_self _) ((HA.out.keep (Keeps.of_below HB.out fun _ h=>h)).mono fun k hk _=>Nat.lt_succ_of_lt hk));have HV:=hid (VE f w.heap.size 0 A c W HFF.out HG1.out O6.out);clear hW;cases hv:bf f
 ·have HZ:=hid (show iq f=dW by unfold iq;rw[hv];rfl)
  rw[hv]at HV;clear hv;go_wp2_with (first|(go_at_call 72;refine HV.out.mono ?_;rintro e V ⟨rfl,jO⟩;have hr:=HR.out.below jO;obtain⟨r0,r1,r2,r3,r4,rl⟩:=hr.cells;have p0:=hr.free 0;have p1:=hr.free 1;have p2:=hr.free 2;have p3:=hr.free 3;have p4:=hr.free 4))
  refine aJ fun WE fB=>?_;have iY:OB WE (w.heap.size+1) 0 ⟨#[]⟩ 0 0 none 0 0:=by rw[fB];exact bC hr
  have hcE:aF (fun x=>x=w.heap.size+1) V WE:=by rw[fB];exact aN _ _ _ _ _ _ _
  have FD:=HB.out.trans (jO.mono HB.out.size);have lF:Below w.heap.size w WE:=FD.trans (hcE.below (B:=w.heap.size) (fun x hx h=>by omega) FD.size);obtain⟨y0,y1,y2,y3,y4,yl⟩:=iY.cells;clear fB r0 r1 r2 r3 r4 p0 p1 p2 p3 p4;rw[HZ.out];exact bodyPost_ret (v := .agg #[.int .i64 0,.string ⟨#[]⟩,.int .i64 0,.int .i64 0,.slice none 0 0]) (by simp[results,Tryz.results88,go_sem,y0,y1,y2,y3,y4]) rfl ⟨_,rfl,lT.zero lF⟩
 ·have HZ:=hid (show iq f=bP f by unfold iq;rw[hv];rfl)
  have rY:=hid (UM f _ (gY hv).2.2 (by have:=(gY hv).1;omega));obtain⟨g,hg⟩:∃g,g=bP f:=⟨_,rfl⟩;have HGJ:=hid hg;rw[hv]at HV;clear hv hg;go_wp2_with (first|(go_at_call 72;refine HV.out.mono ?_;rintro e V ⟨rfl,jO⟩;have iK:=hid jO;have HC:=hid (rY.out _ _ _ _ _ V (HFF.out.keep (Keeps.of_below jO fun k hk=>by have:=yK.out;omega))))|(go_at_call 125;refine HC.out.mono ?_;rw[<-HGJ.out];rintro e w5 ⟨v,rfl,hb5,A5,c5,rfl,Vd⟩;have HA5:=hid Vd;have O5:=hid (iK.out.trans (hb5.mono iK.out.size));have HS5:=hid (iK.out.size);clear Vd;have hr:=HR.out.below O5.out;obtain⟨r0,r1,r2,r3,r4,rl⟩:=hr.cells;have p0:=hr.free 0;have p1:=hr.free 1;have p2:=hr.free 2;have p3:=hr.free 3;have p4:=hr.free 4))
  refine aJ fun WE fB=>?_;have iY:OB WE (w.heap.size+1) g.op g.name g.val g.bound A5 g.args.length c5:=by rw[fB];exact bC hr
  have hcE:aF (fun x=>x=w.heap.size+1) w5 WE:=by rw[fB];exact aN _ _ _ _ _ _ _
  have qfV:=HB.out.trans (O5.out.mono HB.out.size);have lF:Below w.heap.size w WE:=qfV.trans (hcE.below (B:=w.heap.size) (fun x hx h=>by omega) qfV.size)
  have hnew:lT (iq f) w (.agg #[.int .i64 g.op,.string g.name,.int .i64 g.val,.int .i64 g.bound,.slice A5 g.args.length c5]) WE:=by
   rw[HZ.out,<-HGJ.out];exact⟨lF,A5,c5,rfl,(HA5.out.nw hcE fun x h=>by have:x=w.heap.size+1:=h;have:=yK.out;have:=HS5.out;omega).base (by have:=yK.out;have:=HS5.out;omega)⟩
  obtain⟨y0,y1,y2,y3,y4,yl⟩:=iY.cells;clear fB r0 r1 r2 r3 r4 p0 p1 p2 p3 p4;exact bodyPost_ret (v := .agg #[.int .i64 g.op,.string g.name,.int .i64 g.val,.int .i64 g.bound,.slice A5 g.args.length c5]) (by simp[results,Tryz.results88,go_sem,y0,y1,y2,y3,y4]) rfl ⟨_,rfl,hnew⟩
end Go.Proofs.YtdpbgcmfeajigaaGreatDoor
namespace Go.Proofs.YtdpbgcmfeajigaaGreatDoor
def Aj (o:Int):Prop:=o=1\/o=2\/o=5\/o=6\/o=8\/o=9\/o=10\/o=15\/o=16\/o=17
def Bare (f:Fm):Prop:=∃ins,allI bU ins f
theorem Bare.arg {f g:Fm}(h:Bare f)(hg:g∈f.args):Bare g:=let ⟨_,h⟩:=h;⟨_,(dK.1 h).2 g hg⟩
theorem Bare.node {f:Fm}(h:Bare f):(aI f.op).loose=true/\bQ f=true/\(f.op=4->(f.args.getD 0 default).op=3):=let ⟨_,h⟩:=h;let h:=jU (dK.1 h).1;⟨h.1,h.2.1,h.2.2.2⟩
theorem Bare.canon {f:Fm}(h:Bare f)(hs:f.size<=manyN):Bare (bP f):=let ⟨_,h⟩:=h;⟨_,Df f _ h hs⟩
theorem DZ {f:Fm}(h:bf f=true):iq f=bP f:=by
 unfold iq;rw[if_pos h]
open Go.RowKit Go.Shelf
instance decMemB (k:ByteArray) (ks:List ByteArray):Decidable (k∈ks) := @List.instDecidableMemOfLawfulBEq ByteArray instBEqOfDecidableEq _ k ks
def UU (s:ByteArray):Value := .string s
theorem SQ (e:Bool)(w:World)(q:ByteArray):(Instr.checkKey e 10000 9 (UU q)).run Tryz.prog w = .ok () w:=by kernel_rfl
theorem OT:MI Tryz.prog 9 UU :=
 .Zi Tryz.underlying9 SQ (fun a b=>by
  unfold UU;simp only[Instr.sameNow]
  rw[show(a==b)=decide (a=b)from by rw[Bool.eq_iff_iff,Go.MapKept.bytes_beq,decide_eq_true_eq]]) (fun k=>by
  simp only[UU,Instr.sameBits]
  rw[Go.MapKept.bytes_beq])
def setB (ks:List ByteArray):List (ByteArray×Value):=ks.map fun k=>(k,.bool true)
theorem Wn (ks:List ByteArray):(setB ks).map (·.1)=ks:=by unfold setB;rw[List.map_map];show ks.map id=ks;simp
theorem Wp (ks:List ByteArray)(k:ByteArray):zY (setB ks) k=if k∈ks then some (.bool true)else none:=by
 induction ks with
 | nil=>rfl
 | cons a ks ih =>
  show zY ((a,Value.bool true) :: setB ks) k=_;rw[Ry,ih]
  by_cases h:a=k
  ·subst h;simp
  ·rw[if_neg h]
   simp[show¬k=a from fun e=>h e.symm]
theorem ZC {ks:List ByteArray}{k:ByteArray}(h:k ∉ ks):updB (setB ks) k (.bool true)=setB (ks ++ [k]):=by
 unfold updB;rw[Wn,if_neg h];unfold setB;rw[List.map_append];rfl
def yc (w:World)(mb:Nat)(ks:List ByteArray):Prop:=iZ UU w mb (setB ks)
section
variable {w w':World}{mb:Nat}{ks:List ByteArray}
theorem yc.lt (h:yc w mb ks):mb<w.heap.size:=iZ.lt h
theorem yc.of_block (h:yc w mb ks)(hb:w'.heap[mb]?=w.heap[mb]?):yc w' mb ks:=iZ.of_block h hb
theorem yc.new (w:World):yc (w.alloc (.map #[] 0)) w.heap.size []:=iZ.new w
theorem yc.look (h:yc w mb ks)(k:ByteArray):(Instr.lookup 113 (.map (some mb)) (.string k) false).run Tryz.prog w = .ok (.bool (decide (k∈ks))) w:=by
 have:=Au OT (T:=113) (E:=4) (P:=Tryz.prog) (z := .bool false) (by kernel_rfl) (by kernel_rfl) h k false;rw[Wp]at this;show(Instr.lookup 113 (.map (some mb)) (UU k) false).run Tryz.prog w=_;rw[this]
 by_cases hk:k∈ks <;> simp[hk]
theorem yc.put (h:yc w mb ks){k:ByteArray}(hk:k ∉ ks):∃w',(Instr.mapUpdate 113 (.map (some mb)) (.string k) (.bool true)).run Tryz.prog w = .ok () w'/\yc w' mb (ks ++ [k])/\w.grownBy w' (some mb)/\w'.heap.size=w.heap.size:=by
 obtain⟨w',h1,h2,h3,h4⟩:=Lh OT (T:=113) (E:=4) (P:=Tryz.prog) (by kernel_rfl) h k (.bool true);rw[ZC hk]at h2;exact⟨w',h1,h2,h3,h4⟩
end
def Qi (w:World)(D:Dom)(A:Option Addr)(c:Nat)(ss:List ByteArray):Prop:=Rd w D 1 A ss.length c (ss.map .string)
def C9 (s:ByteArray):List UInt8:=s.data.toList
def oB (l:List UInt8):ByteArray:=⟨l.toArray⟩
theorem KO (s:ByteArray):oB (C9 s)=s:=by cases s;rfl
theorem XV (l:List UInt8):C9 (oB l)=l:=by simp[C9,oB]
theorem qa7 (ss:List ByteArray):(ss.map C9).map Go.Proofs.encStr=ss.map .string:=by
 rw[List.map_map];refine List.map_congr_left fun s _=>?_;show Value.string (oB (C9 s))=_;rw[KO]
theorem qdD (ls:List (List UInt8)):ls.map Go.Proofs.encStr=(ls.map oB).map .string:=by rw[List.map_map];rfl
theorem qd4 (a b:ByteArray):decide (C9 a<=C9 b) = !yC b a:=by
 unfold yC;rw[ByteArray.toList_eq,ByteArray.toList_eq,Go.Proofs.bytesLess_eq];show decide (¬C9 b<C9 a)=_;rw[decide_not];rfl
theorem GU {ss:List ByteArray}(hn:ss.Nodup):Asc ((((ss.map C9).mergeSort fun x y=>decide (x<=y))).map oB)/\(∀x,x∈(((ss.map C9).mergeSort fun x y=>decide (x<=y))).map oB ↔ x∈ss):=by
 have hp:=List.mergeSort_perm (ss.map C9) fun x y=>decide (x<=y)
 have hm:∀x,x∈(((ss.map C9).mergeSort fun x y=>decide (x<=y))).map oB ↔ x∈ss:=fun x=>by
  rw[List.mem_map]
  constructor
  ·rintro⟨l,hl,rfl⟩
   obtain⟨s,hs,rfl⟩:=List.mem_map.1 (hp.mem_iff.1 hl);rw[KO];exact hs
  ·exact fun hx=>⟨C9 x,hp.mem_iff.2 (List.mem_map_of_mem hx),KO x⟩
 refine⟨?_,hm⟩
 have key:∀a b:List UInt8,decide (a<=b) = !yC (oB b) (oB a):=fun a b=>by
  have:=qd4 (oB a) (oB b);rw[XV,XV]at this;exact this
 have hs:((ss.map C9).mergeSort fun x y=>decide (x<=y)).Pairwise fun a b=>decide (a<=b)=true:=by
  refine List.pairwise_mergeSort (fun a b c h1 h2=>?_) (fun a b=>?_) _
  ·rw[key]at h1 h2⊢
   rw[Bool.not_eq_true']at h1 h2⊢;cases h3:yC (oB c) (oB a)
   ·rfl
   ·by_cases e:oB b=oB c
    ·rw[e,h3]at h1;cases h1
    ·have h4:=BK h2 (fun e'=>e e'.symm)
     have:=xO h4 h3;rw[h1]at this;cases this
  ·rw[key,key]
   cases h1:yC (oB b) (oB a)
   ·rfl
   ·cases h2:yC (oB a) (oB b)
    ·rfl
    ·have:=xO h1 h2
     rw[uH]at this;cases this
 have hnd:((((ss.map C9).mergeSort fun x y=>decide (x<=y))).map oB).Nodup:=by
  have h1:(((ss.map C9).mergeSort fun x y=>decide (x<=y)).map oB).Perm ((ss.map C9).map oB):=hp.map oB
  have h2:(ss.map C9).map oB=ss:=by
   rw[List.map_map]
   conv=>rhs;rw[<-List.map_id ss]
   exact List.map_congr_left fun s _=>KO s
  rw[h2]at h1;exact h1.nodup_iff.2 hn
 have hs2:(((ss.map C9).mergeSort fun x y=>decide (x<=y)).map oB).Pairwise (fun a b=>yC b a=false):=List.pairwise_map.2 (hs.imp fun {a b} h=>by rw[key,Bool.not_eq_true']at h;exact h);exact(hs2.and hnd).imp fun {a b} h=>BK h.1 fun e=>h.2 e.symm
theorem Lp {ss T:List ByteArray}(hn:ss.Nodup)(hT:Asc T)(hm:∀x,x∈ss ↔ x∈T):(((ss.map C9).mergeSort fun x y=>decide (x<=y))).map oB=T :=
 (GU hn).1.ext hT fun x=>((GU hn).2 x).trans (hm x)
theorem Wv (base:Nat)(A:Option Addr)(c:Nat)(ss T:List ByteArray)(w:World)(h:w.ownsRow base 9 1 (.slice A ss.length c) ss.length (ss.map .string))(hn:ss.Nodup)(hT:Asc T)(hm:∀x,x∈ss ↔ x∈T)(hl:ss.length<=1000000) :
  Calls Tryz.prog 82 #[.slice A ss.length c] w fun e w'=>e = .returned (.tuple #[])/\T.length=ss.length/\w'.ownsRow base 9 1 (.slice A ss.length c) ss.length (T.map .string)/\w.grownBy w' (Value.slice A ss.length c).ownBlock:=by
 have hsn:=Lp hn hT hm
 by_cases h0:ss = []
 ·subst h0
  have hT0:T = []:=by
   rcases T with _|⟨x,T⟩
   ·rfl
   ·exact absurd ((hm x).2 (by simp)) (by simp)
  subst hT0;refine(AnyM.slices_Sort_string_none OO A c w).mono ?_;rintro e w' ⟨rfl,hw⟩;rw[hw];exact⟨rfl,rfl,by simpa using h,World.grownBy.refl w _⟩
 ·rcases h.2 with⟨_,hl⟩|⟨g,cap,cur,hv,hb,hh,h1,h2,hsz,htk⟩
  ·exact absurd (List.eq_nil_of_length_eq_zero hl) h0
  ·injection hv with e1 e2 e3
   subst e1 e3;rw[Nat.mul_one]at htk;have hlb:(ss.map C9).length=ss.length:=by simp
   have hH:=holds_of_block (ss:=ss.map C9) hh (by rw[hlb,qa7];exact htk);have hc:=AnyM.slices_Sort_string OO g 0 c (ss.map C9) w hH (lt_of_block hh) (by rw[hlb];omega);rw[hlb]at hc;refine hc.mono ?_;rintro e w' ⟨rfl,n,os,rfl⟩;have hrow:=ownsRow_sorted (n:=n) (os:=os) (w:=w) (base:=base) (cap:=c) (ss:=ss.map C9) (ts:=(ss.map C9).mergeSort fun x y=>decide (x<=y)) (List.length_mergeSort _) hb hh (by rw[hlb];exact h1) h2 hsz;rw[hlb,qdD,hsn]at hrow;refine⟨rfl,?_,hrow,grownBy_sorted _⟩;rw[<-hsn,List.length_map,List.length_mergeSort,hlb]
def addN (xs:List ByteArray)(p:Fm×Bool):List ByteArray:=if p.1.op=3/\p.1.name ∉ xs then xs ++ [p.1.name]else xs
def qU (L:List (Fm×Bool))(k:Nat):List ByteArray:=(L.take k).foldl addN []
theorem Ji {L:List (Fm×Bool)}{k:Nat}(h:k<L.length):qU L (k+1)=addN (qU L k) (L.getD k default):=by
 unfold qU;rw[aT L default h,List.foldl_append];rfl
theorem XK (xs:List ByteArray)(p:Fm×Bool):(addN xs p).length<=xs.length+1:=by
 unfold addN;split <;> simp
theorem Ad (L:List (Fm×Bool)):∀k,(qU L k).length<=k
 | 0=>by simp[qU]
 | k+1=>by
  by_cases h:k<L.length
  ·rw[Ji h]
   have:=XK (qU L k) (L.getD k default);have:=Ad L k;omega
  ·have e:qU L (k+1)=qU L k:=by unfold qU;rw[List.take_of_length_le (by omega),List.take_of_length_le (by omega)]
   rw[e];have:=Ad L k;omega
theorem qfN (L:List (Fm×Bool)):∀xs:List ByteArray,xs.Nodup->(L.foldl addN xs).Nodup/\∀x,x∈L.foldl addN xs ↔ x∈xs\/x∈pW L:=by
 induction L with
 | nil=>exact fun xs h=>⟨h,fun x=>by simp[pW]⟩
 | cons p L ih =>
  intro xs h;rw[List.foldl_cons,KE]
  have ha:(addN xs p).Nodup/\∀x,x∈addN xs p ↔ x∈xs\/(p.1.op=3/\x=p.1.name):=by
   unfold addN
   by_cases h3:p.1.op=3
   ·by_cases hm:p.1.name∈xs
    ·rw[if_neg fun h=>h.2 hm]
     refine⟨h,fun x=>⟨.inl,?_⟩⟩;rintro(hx|⟨_,rfl⟩)
     ·exact hx
     ·exact hm
    ·rw[if_pos ⟨h3,hm⟩]
     refine⟨List.nodup_append.2 ⟨h,by simp,fun a ha b hb e=>?_⟩,fun x=>by simp[h3]⟩;rw[List.mem_singleton]at hb;subst hb;subst e;exact hm ha
   ·rw[if_neg fun h=>h3 h.1]
    exact⟨h,fun x=>by simp[h3]⟩
  obtain⟨h1,h2⟩:=ih _ ha.1;refine⟨h1,fun x=>?_⟩;rw[h2,ha.2,List.mem_append]
  by_cases h3:p.1.op=3
  ·simp[h3,or_assoc]
  ·simp[h3]
theorem Ze (f:Fm):(qU (dV false f) f.size).Nodup/\∀x,x∈qU (dV false f) f.size ↔ x∈nN f:=by
 unfold qU;rw[List.take_of_length_le (by rw[kU];exact Nat.le_refl _)];have:=qfN (dV false f) [] List.nodup_nil;refine⟨this.1,fun x=>?_⟩;rw[this.2,RI];simp[Ae]
open Go.RowKit
def qZ (ops:Array Oper):Bool:=ops.all fun o=>match o.op with
 | .defer _=>false
 | _=>true
theorem KH {ops:Array Oper}(h:qZ ops=true){i:Nat}{o:Oper}(ho:ops[i]?=some o):∀c,o.op ≠ .defer c:=by
 intro c e;obtain⟨hi,rfl⟩:=Array.getElem?_eq_some_iff.1 ho;have:=Array.all_eq_true.1 h i hi;rw[e]at this;cases this
section
variable {P:Program}{ops:Array Oper}{Q:Exit->Act->World->Prop}{n l:Nat}
theorem SX {o:Oper}(hd:∀c,o.op ≠ .defer c){a:Act}{w:World}{K K':Act->World->Prop}(hK:∀a w,K a w->K' a w)(h:Oper.wp P o a w K Q):Oper.wpIn (Fence.wide.inRound l) n P o a w K' Q:=by
 refine⟨fun _ _=>trivial,?_⟩;rw[Oper.semAt_eq _ _ _ hd];unfold Oper.wp at h
 generalize(execOp a.eval o).run P w=r at *
 cases r with
 | ok nx w' =>
  cases nx with
  | value v=>exact hK _ _ h
  | skip=>exact hK _ _ h
  | defer d=>exact hK _ _ h
  | enter f args =>
   refine⟨fun h=>(by cases h),?_⟩;refine CallsIn.inRound l (callsIn_wide.2 (Calls.mono h fun e w'' he=>?_))
   cases e with
   | returned u=>exact hK _ _ he
   | panicked c=>exact he
   | outgrown=>exact he
  | row row args =>
   refine⟨fun h=>(by cases h),fun c cs _=>?_⟩;obtain⟨v,w',r,s⟩:=h c cs;exact⟨v,w',hK _ _ r,stepsIn_wide.2 s⟩
  | round _ _ _ _ _=>exact h.elim
  | recover=>exact h.elim
  | _=>exact h.elim
 | halt x w'=>cases x <;> exact h
theorem kV (hd:qZ ops=true)(hQ:¬LetsOut Q):∀(is:List Nat) (a:Act) (w:World),wpOps P ops Q is a w->wpOpsIn (Fence.wide.inRound l) n P ops Q is a w
 | [],a,w,h=>h
 | i :: is,a,w,h=>by
  unfold wpOps at h;unfold wpOpsIn
  cases ho:ops[i]? with
  | none =>
   simp only[ho]at h⊢;exact kV hd hQ is a w h
  | some o =>
   simp only[ho]at h⊢
   split
   ·rename_i hw
    rw[if_pos hw]at h
    rcases h with h|h
    ·exact SX (KH hd ho) (fun a w=>kV hd hQ is a w) h
    ·exact absurd h.2 hQ
   ·rename_i hw
    rw[if_neg hw]at h;exact⟨fun _ _=>trivial,kV hd hQ is _ w h⟩
theorem mV {id:Nat}{a:Act}{w:World}(hm:P.follows .mixedOrders=true)(hd:qZ ops=true)(hQ:¬LetsOut Q)
  (h:wpAny P .any ops Q ops.size (Array.replicate ops.size false) a w.drew):(Code.region id ops true).wpIn (Fence.wide.inRound l) n P Q a w :=
 wpIn_region_draw fun t=>by
  simp only[Region.schedule,hm,Bool.true_or,if_true];exact kV hd hQ _ a _ (wpAny_sound ops.size t _ a _ h)
theorem kX {id:Nat}{a:Act}{w:World}{ls:List Oper}{o:Oper}(S:World->Prop)(hm:P.follows .mixedOrders=true)(hd:qZ (o :: ls).toArray=true)(hQ:¬LetsOut Q)
  (hb:yx (o :: ls).dropLast.toArray=true) (hl:sinkB .any (o :: ls).dropLast.toArray.size ((o :: ls).getLast (List.cons_ne_nil _ _))=true) (hS:S w.drew)
  (h:S w.drew->wpAnyH P .any (o :: ls).dropLast.toArray (jK P ((o :: ls).getLast (List.cons_ne_nil _ _)) Q) S (o :: ls).dropLast.toArray.size (Array.replicate (o :: ls).dropLast.toArray.size false) a w.drew):(Code.region id (o :: ls).toArray true).wpIn (Fence.wide.inRound l) n P Q a w:=by
 refine mV hm hd hQ ?_;have h1:=GZ hb hl (o :: ls).dropLast.toArray.size (Array.replicate (o :: ls).dropLast.toArray.size false) a w.drew (by simp) (wpAny_of_held _ _ _ _ (h hS));have e0:(o :: ls).toArray=(o :: ls).dropLast.toArray.push ((o :: ls).getLast (List.cons_ne_nil _ _)):=by rw[List.push_toArray,List.dropLast_concat_getLast]
 rw[e0,Array.size_push];have e:Array.replicate ((o :: ls).dropLast.toArray.size+1) false=(Array.replicate (o :: ls).dropLast.toArray.size false).push false:=by rw[Array.replicate_succ]
 rw[e];exact h1
end
end Go.Proofs.YtdpbgcmfeajigaaGreatDoor
namespace Go.Proofs.YtdpbgcmfeajigaaGreatDoor
open Go.RowKit Go.Shelf
attribute [local go_sem] ak Oper.semAt_some
theorem OU:(Tryz.prog.info? 9).map (fun i=>(i.zero,i.size,i.bytes))=some (some (.string ⟨#[]⟩),1,16):=by kernel_rfl
structure ZX (W:World) (sb ob mb base:Nat) (xs:List ByteArray):Prop where
 seen:W.heap[sb]?=some (.cells #[.map (some mb)] 113 (0,0))
 set:yc W mb xs
 out:∃A c,W.heap[ob]?=some (.cells #[.slice A xs.length c] 54 (0,0))/\W.ownsRow base 9 1 (.slice A xs.length c) xs.length (xs.map .string)
theorem ZX.dX {W W':World}{V:Dom}{sb ob mb base:Nat}{xs:List ByteArray}(h:ZX W sb ob mb base xs)(hc:aF V W W')(h1:¬V sb)(h2:¬V ob)(h3:¬V mb)(h4:∀k,base<=k->¬V k):ZX W' sb ob mb base xs:=by
 obtain⟨A,c,h5,h6⟩:=h.out;refine⟨hc.box h.seen h1,h.set.of_block (hc.block _ h.set.lt h3),A,c,hc.box h5 h2,pX h6 hc fun k hk=>?_⟩
 rcases h6.2 with⟨h0,_⟩|⟨g,cap,cur,hv,hb,hg,_⟩
 ·rw[h0]at hk;cases hk
 ·rw[hv]at hk
  injection hk with hk
  have:g=k:=hk;subst this;exact h4 _ hb
theorem wpIn_cut {F:Fence}{n:Nat}{P:Program}{c:Code}{Q:Exit->Act->World->Prop}{a A:Act}{w W:World}(h:c.wpIn F n P (fun e a' w'=>e = .normal/\a'=A/\w'=W) a w)(hq:Q .normal A W):c.wpIn F n P Q a w :=
 wpIn_mono h (by rintro _ _ _ ⟨rfl,rfl,rfl⟩;exact hq)
theorem Jk {D:Dom}(f:Fm)(v:Value)(w:World)(h:bG w D v f)(hg:GF w)(hd:f.depth<=5000)(hz:f.size<=1000000) :
  Calls Tryz.prog 32 #[v] w fun e w'=>∃A c,e = .returned (.slice A (nN f).length c)/\Qi w' (fun k=>w.heap.size<=k) A c (nN f)/\Below w.heap.size w w':=by
 obtain⟨A,c,rfl,ha⟩:=h;have hmm := @run_makeMap Tryz.prog;have HA:=hid ha.old;have HG:=hid hg;have HD:=hid hd;clear ha hg hd;refine(callsIn_wide (n:=3)).1 (callsIn_of_wp_marks Tryz.func32 rfl trivial ?_ rfl);simp only[Tryz.ntmps32,List.size_toArray,List.length_cons,List.length_nil,Nat.reduceAdd,Nat.reduceSub,Array.replicate_succ,Array.replicate_zero,List.push_toArray,List.append_toArray,List.nil_append,List.cons_append];refine wpIn_wide.2 ?_;go_upto_region 3 with(fail)
 refine aH fun W hW=>?_;have hb:Below w.heap.size w W:=by rw[hW];go_grown
 have e0:dI W w.heap.size f A c:=by
  show W.heap[w.heap.size]?=_;rw[hW,aQ _ _ _ (by simp <;> omega),aQ _ _ _ (by simp <;> omega),aQ _ _ _ (by simp <;> omega)];exact at_new _ _ _ rfl
 have e1:yc W (w.heap.size+1) []:=by
  refine yc.of_block (w:=(w.alloc (.cells #[.int .i64 f.op,.string f.name,.int .i64 f.val,.int .i64 f.bound,.slice A f.args.length c] 24)).alloc (.map #[] 0)) ?_ ?_
  ·have:=yc.new (w.alloc (.cells #[.int .i64 f.op,.string f.name,.int .i64 f.val,.int .i64 f.bound,.slice A f.args.length c] 24))
   simpa using this
  ·rw[hW,aQ _ _ _ (by simp <;> omega),aQ _ _ _ (by simp <;> omega)]
 have e2:W.heap[w.heap.size+2]?=some (.cells #[.map (some (w.heap.size+1))] 113 (0,0)):=by rw[hW,aQ _ _ _ (by simp)];exact at_new _ _ _ (by simp)
 have e3:W.heap[w.heap.size+3]?=some (.cells #[.slice none 0 0] 54 (0,0)):=by rw[hW];exact at_new _ _ _ (by simp)
 have hs:W.heap.size=w.heap.size+4:=by rw[hW];simp
 have HB:=hid hb;have mW:=hid e0;have kP:=hid e1;have HE2:=hid e2;have G8:=hid e3;have HS:=hid hs;clear hW hb e0 e1 e2 e3 hs hmm;go_wp2_with (first|(go_at_call 51;refine(qw _ W).mono ?_;rintro e w2 ⟨rfl,rfl⟩))
 refine aH fun W2 hW2=>?_;have hb2:Below W.heap.size W W2:=by rw[hW2];go_grown
 have hp2:W2.cell? ⟨W.heap.size,0,none⟩=some (.pointer (some ⟨w.heap.size,0,none⟩)):=by rw[hW2];exact aj (at_new _ _ _ rfl) (i:=0) rfl
 have HS2:=hid (show W2.heap.size=w.heap.size+5 by rw[hW2];simp;have:=HS.out;omega);have HB2:=hid (HB.out.trans (hb2.mono HB.out.size))
 have HI2:=hid (show ZX W2 (w.heap.size+2) (w.heap.size+3) (w.heap.size+1) (W2.heap.size+7) []from
  ⟨(hb2.block _ (by have:=HS.out;omega)).trans HE2.out,kP.out.of_block (hb2.block _ (by have:=HS.out;omega)),none,0,(hb2.block _ (by have:=HS.out;omega)).trans G8.out,⟨rfl,.inl ⟨rfl,rfl⟩⟩⟩)
 have HF:=hid (dI.vM (D:=(· < w.heap.size+1)) (mW.out.below hb2) (Nat.lt_succ_self _) ((HA.out.keep (Keeps.of_below HB2.out fun _ h=>h)).mono fun k hk _=>Nat.lt_succ_of_lt hk));have HP:=hid hp2;have HG2:=hid (HG.out.below HB2.out HG.out.pos);clear hW2 hb2 hp2;obtain⟨L,hL⟩:∃L,L=dV false f:=⟨_,rfl⟩;have HL:=hid hL;have hLl:L.length=f.size:=by rw[hL];exact kU _ _
 have LH:=hid hLl;clear hL hLl;obtain⟨i0,hti,hz0,hz1,hz2⟩:=info_parts OU
 refine lM f w.heap.size 0 W.heap.size (w.heap.size+1) A c (fun b=>b=w.heap.size+1\/b=w.heap.size+3\/W2.heap.size+7<=b)
  (fun k W'=>ZX W' (w.heap.size+2) (w.heap.size+3) (w.heap.size+1) (W2.heap.size+7) (qU L k))
  (fun c W'=>False)
  rfl rfl HF.out (by omega) (by have:=HS2.out;omega) HP.out HG2.out HD.out ?hZ ?hI ?hIx HI2.out ?a1 ?hassign ?dP ?hdone ?hstop
 case hassign =>
  intro l p q W K hK
  gi_wp2
  exact hK
 case hZ=>intro b hb;have:=HS2.out;omega
 case hI =>
  rintro k W3 W4 h2 hc;exact h2.dX hc (by have:=HS2.out;omega) (by have:=HS2.out;omega) (by have:=HS2.out;omega) (fun k hk h=>by omega)
 case hIx=>rintro c W3 W4 h0 hc;exact h0
 case dP =>
  rintro l k W3 b o A' c' hs3 hg3 hc3 ⟨NJ,hset,A5,c5,hout,hown⟩ hlen hf3;rw[<-HL.out]at hlen hf3;obtain⟨g,hg⟩:∃g,g=(L.getD k default).1:=⟨_,rfl⟩;obtain⟨xs,hxs⟩:∃xs,xs=qU L k:=⟨_,rfl⟩;have HN:=hid (show qU L (k+1)=addN xs (L.getD k default)by rw[hxs];exact Ji hlen);have HXL:=hid (show xs.length<=1000000 by rw[hxs];have:=Ad L k;have:=LH.out;omega);rw[<-hxs]at hset hout hown;rw[<-hg]at hf3;have HGG:=hid hg;obtain⟨q1,q2,p0,p1,p2,p3,p4,q3⟩:=hf3;have HOWN:=hid hown;have uf:=hid hset;have Tv:=hid NJ;have Hu:=hid hout;have s0:=aj NJ (i:=0) rfl;have u0:=aj hout (i:=0) rfl;have u1:=aA hout (i:=0);have ul:=lt_of_block hout;have HS3:=hid hs3;clear hg hxs q3 hlen hg3 hc3 p2 p3 p4 hown hset NJ hout hs3
  by_cases h3:g.op=3
  ·have d3:(g.op==3)=true:=by rw[h3];rfl
   by_cases hm:g.name∈xs
   ·have hlk:(Instr.lookup 113 (.map (some (w.heap.size+1))) (.string g.name) false).run Tryz.prog W3.drew = .ok (.bool true) W3.drew:=by
     have:=(uf.out.of_block (w':=W3.drew) rfl).look g.name;rw[this,decide_eq_true hm]
    have HE:=hid (show qU L (k+1)=xs by rw[HN.out];unfold addN;rw[if_neg fun h=>h.2 (by rw[<-HGG.out];exact hm)]);clear h3 hm
    gi_upto_region 5 with(fail)
    apply wpIn_cut (W:=W3.drew)
    ·gi_region
     all_goals exact⟨rfl,rfl,rfl⟩
    ·gi_wp2_with fail
     refine⟨(aF.refl _ W3).drew,?_⟩;show ZX _ _ _ _ _ (qU L (k+1));rw[HE.out];exact ZX.dX ⟨Tv.out,uf.out,A5,c5,Hu.out,HOWN.out⟩ ((aF.refl (fun _=>False) W3).drew) (fun h=>h) (fun h=>h) (fun h=>h) fun _ _ h=>h
   ·have hlk:(Instr.lookup 113 (.map (some (w.heap.size+1))) (.string g.name) false).run Tryz.prog W3.drew = .ok (.bool false) W3.drew:=by
     have:=(uf.out.of_block (w':=W3.drew) rfl).look g.name;rw[this,decide_eq_false hm]
    have HE:=hid (show qU L (k+1)=xs ++ [g.name]by rw[HN.out];unfold addN;rw[if_pos ⟨by rw[<-HGG.out];exact h3,by rw[<-HGG.out];exact hm⟩,<-HGG.out]);obtain⟨w6,hput,qcn,Hl,hs6⟩:=(uf.out.of_block (w':=W3.drew.drew) rfl).put hm;have qfu:=hid qcn;have Xj:=hid Hl;have HS6:=hid hs6;have qgq:w6.heap.size=W3.heap.size:=hs6;have qfx:=hid qgq
    have q16:w6.cell? ⟨b,o+1,none⟩=some (.string g.name):=by
     have:=Hl.cell (a:=⟨b,o+1,none⟩) p1 (fun e=>by have h:b<w.heap.size+1:=q1;have e:b=w.heap.size+1:=Option.some.inj e;omega);exact this
    have u06:w6.cell? ⟨w.heap.size+3,0,none⟩=some (.slice A5 xs.length c5):=Hl.cell (a:=⟨w.heap.size+3,0,none⟩) u0 (fun e=>by have e:w.heap.size+3=w.heap.size+1:=Option.some.inj e;omega);have TW:w6.heap[w.heap.size+3]?=some (.cells #[.slice A5 xs.length c5] 54 (0,0)):=(Hl.block _ ul (fun e=>by have e:w.heap.size+3=w.heap.size+1:=Option.some.inj e;omega)).trans Hu.out;have u16:=aA TW (i:=0);have ul6:=lt_of_block TW;have qfe:=hid TW
    have hown6:w6.ownsRow (W2.heap.size+7) 9 1 (.slice A5 xs.length c5) xs.length (xs.map .string):=pX HOWN.out (V:=fun k=>k=w.heap.size+1) (by
     refine⟨Hl.os,Hl.tape,Hl.output,Hl.size,fun k hk hv=>Hl.block k hk (by intro e;injection e with e;exact hv e)⟩) fun k hk hv=>by
      rcases HOWN.out.2 with⟨h0,_⟩|⟨g',cap,cur,hv',hb,hg',_⟩
      ·rw[h0]at hk;cases hk
      ·rw[hv']at hk
       injection hk with hk
       have e1:g'=k:=hk;have:=HS2.out;omega
    have qbW:=hid hown6;clear h3 hm qcn Hl hs6 TW hown6 qgq
    gi_upto_region 5 with(fail)
    apply wpIn_cut (W:=W3.drew)
    ·gi_region
     all_goals exact⟨rfl,rfl,rfl⟩
    ·gi_upto_region 6 with(fail)
     apply wpIn_cut (W:=w6)
     ·gi_region
      all_goals exact⟨rfl,rfl,rfl⟩
     ·gi_upto_region 7 with(fail)
      have hne:∀k',(Value.slice A5 xs.length c5).ownBlock=some k'->W2.heap.size+7<=k':=fun k' hk=>by
       rcases qbW.out.2 with⟨h0,_⟩|⟨g',cap,cur,hv',hb,hg',_⟩
       ·rw[h0]at hk;cases hk
       ·rw[hv']at hk
        have e1:g'=k':=Option.some.inj hk;omega
      refine kX (fun W'=>W'.cell? ⟨w.heap.size+3,0,none⟩=some (.slice A5 xs.length c5)/\W'.cell? ⟨b,o+1,none⟩=some (.string g.name)) (by kernel_rfl) (by kernel_rfl) (fun h=>by obtain⟨_,_,h⟩:=h;exact h) (by kernel_rfl) (by kernel_rfl) ⟨u06,q16⟩ (fun hHeld=>?_);simp only[List.dropLast_cons_cons,List.dropLast_singleton,List.getLast_cons_cons,List.getLast_singleton];refine gK 0 ?_ rfl (by kernel_rfl) (fun _ _ _ h=>h) ?_ (by assumption) ?_
      rotate_left
      ·intro w hSw;(try dsimp only at hSw);go_simp;(try(with_reducible rfl))
      try simp only[Act.put,cZ,dh,dw]
      refine gK 1 ?_ rfl (by kernel_rfl) (fun _ _ _ h=>h) ?_ (by assumption) ?_
      rotate_left
      ·intro w hSw;(try dsimp only at hSw);go_simp;(try(with_reducible rfl))
      try simp only[Act.put,cZ,dh,dw]
      refine gK 2 ?_ rfl (by kernel_rfl) (fun _ _ _ h=>h) ?_ (by assumption) ?_
      rotate_left
      ·intro w hSw;(try dsimp only at hSw);go_simp;(try(with_reducible rfl))
      try simp only[Act.put,cZ,dh,dw]
      refine gK 3 ?_ rfl (by kernel_rfl) (fun _ _ _ h=>h) ?_ (by assumption) ?_
      rotate_left
      ·intro w hSw;(try dsimp only at hSw);go_simp;(try(with_reducible rfl))
      try simp only[Act.put,cZ,dh,dw]
      refine gK 4 ?_ rfl (by kernel_rfl) (fun _ _ _ h=>h) ?_ (by assumption) ?_
      rotate_left
      ·intro w hSw;(try dsimp only at hSw);go_simp;(try(with_reducible rfl))
      try simp only[Act.put,cZ,dh,dw]
      refine qR 5 (by kernel_rfl) rfl fun K hK=>?_
      go_simp
      refine hK.out _ _ ?_ (fun hHeld=>?_)
      ·exact⟨(ak _ _ _ (by simpa using ul6)).trans u06,(ak _ _ _ (by simpa using World.block_lt_of_cell? _ _ q16)).trans q16⟩
      clear hK K
      try simp only[Act.put,cZ,dh,dw]
      refine dG (fun wA hwA hHeld=>?_) hHeld;have AV:Below w6.heap.size w6 wA:=by rw[hwA];exact((Below.refl _ _).drew).alloc (Nat.le_refl _) _
      have LP:Rd wA aZ 1 (some ⟨w6.heap.size,0,none⟩) 1 1 [.string g.name]:=by rw[hwA];exact Rd.fresh (D:=aZ) rfl trivial (by simp) (by omega)
      have hszA:=AV.size;have nZ:=hid AV;have zO:wA.ownsRow (W2.heap.size+7) 9 1 (.slice A5 xs.length c5) xs.length (xs.map .string):=pX qbW.out (V:=fun _=>False) (aF.aS AV) fun _ _ h=>h;clear hwA;refine qR 6 (by kernel_rfl) rfl fun K hK=>?_;refine bW _ (by rfl) _ _ 54 (by rfl) (W2.heap.size+7) 9 i0 _ 1 16 Tryz.underlying54 hti hz0 hz1 hz2 rfl (by omega) (.slice A5 xs.length c5) xs.length _ (by rfl) zO _ (some ⟨w6.heap.size,0,none⟩) 1 1 _ (by rfl) LP (by simp[Value.oneCell']) (by have:=HXL.out;omega) (dF (by have:=HXL.out;omega)) (by have:=qfx.out;have:=HS3.out;omega) ?_;intro A7 c7 w7 lG pq uy
      have Kv:∀b',b'<w6.heap.size->b'<W2.heap.size+7->w7.heap[b']?=w6.heap[b']?:=fun b' h1 h2=>(pq.block b' (by omega) (fun e=>by have:=hne _ e.symm;omega)).trans (AV.block _ h1);have Je:w7.heap[w.heap.size+3]?=some (.cells #[.slice A5 xs.length c5] 54 (0,0)):=(Kv _ ul6 (by have:=HS2.out;omega)).trans qfe.out;have hbb:b<W2.heap.size+7:=by have h:b<w.heap.size+1:=q1;have:=HS2.out;omega
      refine hK.out _ _ ⟨aj Je (i:=0) rfl,(World.cell?_of_block (w:=w6) (a:=⟨b,o+1,none⟩) (Kv b (World.block_lt_of_cell? _ _ q16) hbb)).trans q16⟩ (fun hHeld=>?_);clear hK K
      try simp only[Act.put,cZ,dh,dw]
      refine wpAnyH_done (by kernel_rfl) ?_ _;have qff:=hid Je;have u17:=aA Je (i:=0);have u07:=aj Je (i:=0) rfl;have ul7:=lt_of_block Je;have MB:=hid lG;have HG7:=hid pq;have HK7:=hid Kv;clear Je lG pq Kv uy hHeld;unfold jK
      go_simp
      gi_wp2_with fail
      have hne1:¬w.heap.size+2=w.heap.size+3:=by omega
      have hne2:¬w.heap.size+1=w.heap.size+3:=by omega
      have YH:=HS2.out;have hc36:aF (fun b=>b=w.heap.size+1\/b=w.heap.size+3\/W2.heap.size+7<=b) W3 w6:=⟨Xj.out.os,Xj.out.tape,Xj.out.output,Xj.out.size,fun k hk hv=>Xj.out.block k hk (fun e=>hv (.inl (Option.some.inj e)))⟩
      have qf1:aF (fun b=>b=w.heap.size+1\/b=w.heap.size+3\/W2.heap.size+7<=b) w6 w7:=⟨HG7.out.os.trans nZ.out.os,HG7.out.tape.trans nZ.out.tape,HG7.out.output.trans nZ.out.output,Nat.le_trans nZ.out.size HG7.out.size,fun k hk hv=>HK7.out k hk (by
       have:¬W2.heap.size+7<=k:=fun h=>hv (.inr (.inr h))
       omega)⟩
      obtain⟨w8,hw8⟩:∃w8,w8=w7.setCell ⟨w.heap.size+3,0,none⟩ (.slice A7 (xs.length+1) c7):=⟨_,rfl⟩;rw[<-hw8];have yj:aF (fun b=>b=w.heap.size+3) w7 w8:=by rw[hw8];exact(aF.refl (fun b=>b=w.heap.size+3) w7).set ⟨w.heap.size+3,0,none⟩ _ fun _=>rfl
      have qgi:w8.heap[w.heap.size+3]?=some (.cells #[.slice A7 (xs.length+1) c7] 54 (0,0)):=by rw[hw8,aB qff.out];rfl
      refine⟨(hc36.trans qf1).trans (yj.mono fun b _ h => .inr (.inl h)),?_⟩;show ZX _ _ _ _ _ (qU L (k+1));rw[HE.out];have hsl:w.heap.size+2<w6.heap.size:=by have:=qfx.out;have:=HS3.out;omega
      have hml:w.heap.size+1<w6.heap.size:=by omega
      refine⟨yj.box ((HK7.out _ hsl (by omega)).trans ((Xj.out.block _ (lt_of_block Tv.out) (fun e=>by have e:w.heap.size+2=w.heap.size+1:=Option.some.inj e;omega)).trans Tv.out)) hne1,
       qfu.out.of_block ((yj.block _ (Nat.lt_of_lt_of_le hml qf1.size) hne2).trans (HK7.out _ hml (by omega))),A7,c7,?_,?_⟩
      ·rw[List.length_append];exact qgi
      ·rw[List.length_append,List.map_append]
       refine pX MB.out yj fun k' hk' hv=>?_;have hv:k'=w.heap.size+3:=hv;have hk':(Value.slice A7 (xs.length+1) c7).ownBlock=some k':=hk'
       rcases MB.out.2 with⟨h0,_⟩|⟨g',cap,cur,hv',hb',hg',_⟩
       ·rw[h0]at hk';cases hk'
       ·rw[hv']at hk'
        have e1:g'=k':=Option.some.inj hk';omega
  ·have d3:(g.op==3)=false:=au h3
   have HE:=hid (show qU L (k+1)=xs by rw[HN.out];unfold addN;rw[if_neg fun h=>h3 (by rw[HGG.out];exact h.1)]);clear h3
   gi_upto_region 5 with(fail)
   apply wpIn_cut (W:=W3.drew)
   ·gi_region
    all_goals exact⟨rfl,rfl,rfl⟩
   ·gi_wp2_with fail
    refine⟨(aF.refl _ W3).drew,?_⟩;show ZX _ _ _ _ _ (qU L (k+1));rw[HE.out];exact ZX.dX ⟨Tv.out,uf.out,A5,c5,Hu.out,HOWN.out⟩ ((aF.refl (fun _=>False) W3).drew) (fun h=>h) (fun h=>h) (fun h=>h) fun _ _ h=>h
 case hdone =>
  rintro W3 hc ⟨NJ,hset,A5,c5,hout,hown⟩ hD3;obtain⟨hnd,hmem⟩:=Ze f;rw[<-HL.out]at hnd hmem;obtain⟨xs,hxs⟩:∃xs,xs=qU L f.size:=⟨_,rfl⟩;rw[<-hxs]at hnd hmem hout hown;have hxl:xs.length<=1000000:=by rw[hxs];have:=Ad L f.size;omega
  have HSO:=hid (Wv _ A5 c5 xs (nN f) W3 hown hnd (RH f) hmem hxl)
  have hne:∀k',(Value.slice A5 xs.length c5).ownBlock=some k'->W2.heap.size+7<=k':=fun k' hk=>by
   rcases hown.2 with⟨h0,_⟩|⟨g',cap,cur,hv',hb,hg',_⟩
   ·rw[h0]at hk;cases hk
   ·rw[hv']at hk
    have e1:g'=k':=Option.some.inj hk;omega
  have YH:=HS2.out;have u0:=aj hout (i:=0) rfl;have hbw3:Below w.heap.size w W3:=HB2.out.trans (hc.below (B:=w.heap.size) (fun b hb h=>by omega) (by omega));have HB3:=hid hbw3;have Hu:=hid hout;have uT:=hid hne;clear hxs hnd hmem NJ hset hown hout hne YH hbw3 hc
  dsimp only
  go_wp2_with (go_at_call 82;(with_reducible refine HSO.out.mono ?_);rintro e w9 ⟨rfl,hTl,qcl,hg9⟩;have qfj:=hid qcl;have HG9:=hid hg9;have kQ:=hid hTl;have hD9:=(hg9.block _ (lt_of_block hD3) (fun e=>by have:=uT.out _ e.symm;omega)).trans hD3;have qcj:=(hg9.block _ (lt_of_block Hu.out) (fun e=>by have:=uT.out _ e.symm;have:=HS2.out;omega)).trans Hu.out;have u9:=aj qcj (i:=0) rfl;have HD9:=hid hD9;clear qcl hg9 hTl qcj hD9 u0)
  have vg:Below w.heap.size w w9:=HB3.out.trans ⟨HG9.out.os,HG9.out.tape,HG9.out.output,HG9.out.size,fun k hk=>HG9.out.block k (Nat.lt_of_lt_of_le hk HB3.out.size) (fun e=>by have:=uT.out _ e.symm;have:=HS2.out;omega)⟩;refine FX rfl HD9.out (v := .slice A5 xs.length c5) (fun w'=>?_) (fun w' hc'=>?_)
  ·simp[results,Tryz.results32,go_sem]
  ·refine⟨A5,c5,by rw[kQ.out],?_,vg.trans (hc'.below (fun b hb=>by have:=HS2.out;omega) vg.size)⟩
   unfold Qi;rw[kQ.out]
   have hown':=pX qfj.out hc' fun k' hk' hv=>by
    have:=uT.out _ hk';have hv:k'=W2.heap.size:=hv;omega
   exact Rd.own hown' (by omega) (fun k hk=>by have:=HS2.out;omega)
 case hstop =>
  rintro c W3 hc h0 hD3;exact h0.elim
end Go.Proofs.YtdpbgcmfeajigaaGreatDoor
