/-
  Parts of a proof: Base R0 Own Map Mr FA FB FC FD.
-/
import Derived.Test.YtdpbgcmfeajigaaGreatDoorChecked
import Derived.WalkKit
import Derived.WalkLawsBesides
import Derived.WalkSpells
import Derived.Lib.Hide
import Derived.Deep.QuietTactic
import Derived.BigQuiet
import Derived.Handy
import Derived.Deep.RegionHeld3
import Derived.Deep.RegionLaw
import Derived.Maps.AppendAt
import Derived.Deep.DeepFit
import Derived.Deep.DeepCutAuto
import Derived.OrdersHeld
import Derived.Laws.AppendOwnNone
import Derived.Laws.StructEq
import Derived.Maps.RangeRun
set_option linter.unusedSectionVars false
set_option linter.unusedSimpArgs false
set_option linter.unusedVariables false
set_option maxHeartbeats 8000000
set_option maxRecDepth 100000
namespace Go.Proofs.YtdpbgcmfeajigaaGreatDoor
open Go.RowKit
abbrev Dom:=Nat->Prop
structure Keeps (D:Dom) (w w':World):Prop where
 size:w.heap.size<=w'.heap.size
 block:∀b,D b->b<w.heap.size->w'.heap[b]?=w.heap[b]?
section
variable {D E:Dom}{w w' w'':World}
theorem Keeps.refl (D:Dom)(w:World):Keeps D w w:=⟨Nat.le_refl _,λ _ _ _=>rfl⟩
theorem Keeps.drew (h:Keeps D w w'):Keeps D w w'.drew:=⟨h.size,h.block⟩
theorem Keeps.drewN (h:Keeps D w w')(n:Nat):Keeps D w (w'.drewN n):=⟨h.size,h.block⟩
theorem Keeps.mono (h:Keeps D w w')(hE:∀b,E b->D b):Keeps E w w':=⟨h.size,λ b hb hl=>h.block b (hE b hb) hl⟩
theorem Keeps.of_below {B:Nat}(hb:Below B w w')(hD:∀b,D b->b<B):Keeps D w w':=⟨hb.size,λ b h _=>hb.block b (hD b h)⟩
theorem Keeps.cell (h:Keeps D w w'){b o:Nat}{u:Value}(hb:D b)(hc:w.cell? ⟨b,o,none⟩=some u):w'.cell? ⟨b,o,none⟩=some u:=by
 have hl:b<w.heap.size:=World.block_lt_of_cell? w ⟨b,o,none⟩ hc;rw[<-hc];exact World.cell?_of_block (w:=w) (a:=⟨b,o,none⟩) (h.block b hb hl)
end
def aU (w w':World):Prop:=∃n,w'=w.drewN n
theorem aU.refl (w:World):aU w w:=⟨0,rfl⟩
theorem aU.n (w:World)(n:Nat):aU w (w.drewN n):=⟨n,rfl⟩
theorem aU.drewN {w w':World}(h:aU w w')(n:Nat):aU w (w'.drewN n):=by
 obtain⟨m,rfl⟩:=h;exact⟨m+n,World.drewN_drewN w m n⟩
theorem aU.drew {w w':World}(h:aU w w'):aU w w'.drew:=h.drewN 1
theorem aU.trans {w w' w'':World}(h:aU w w')(k:aU w' w''):aU w w'':=by
 obtain⟨m,rfl⟩:=k;exact h.drewN m
theorem aU.keeps {D:Dom}{w w':World}(h:aU w w'):Keeps D w w':=by
 obtain⟨m,rfl⟩:=h;exact(Keeps.refl D w).drewN m
theorem aU.below {w w':World}(h:aU w w')(B:Nat):Below B w w':=by
 obtain⟨m,rfl⟩:=h;exact⟨rfl,rfl,rfl,Nat.le_refl _,λ _ _=>rfl⟩
def Rd (w:World)(D:Dom)(size:Nat)(A:Option Addr)(n c:Nat)(xs:List Value):Prop :=
 (xs.length=n*size/\n<=140737488355328/\n<=c/\c<=9223372036854775807) /\
 (0<n->∃b o,A=some ⟨b,o,none⟩/\D b/\b<w.heap.size/\∀j u,xs[j]?=some u->w.cell? ⟨b,o+j,none⟩=some u)
section
variable {D E:Dom}{w w':World}{size n c:Nat}{A:Option Addr}{xs:List Value}
theorem Rd.nil (w:World)(D:Dom)(size:Nat)(A:Option Addr){c:Nat}(hc:c<=9223372036854775807):Rd w D size A 0 c []:=⟨⟨by simp,by omega,by omega,hc⟩,λ h=>absurd h (by omega)⟩
theorem Rd.keep (h:Rd w D size A n c xs)(hk:Keeps D w w'):Rd w' D size A n c xs :=
 ⟨h.1,λ hn=>by
  obtain⟨b,o,e,hb,hl,hc⟩:=h.2 hn
  exact⟨b,o,e,hb,Nat.lt_of_lt_of_le hl hk.size,λ j u hu=>hk.cell hb (hc j u hu)⟩⟩
theorem Rd.mono (h:Rd w D size A n c xs)(hE:∀b,D b->b<w.heap.size->E b):Rd w E size A n c xs :=
 ⟨h.1,λ hn=>by
  obtain⟨b,o,e,hb,hl,hc⟩:=h.2 hn
  exact⟨b,o,e,hE b hb hl,hl,hc⟩⟩
theorem Rd.old (h:Rd w D size A n c xs):Rd w (· < w.heap.size) size A n c xs:=h.mono λ _ _ hl=>hl
theorem Rd.cut {k:Nat}(h:Rd w D size A n c xs)(hk:k<=n) :
  Rd w D size (if c=k then A else A.map (·.add (k*size))) (n-k) (c-k) (xs.drop (k*size)):=by
 obtain⟨⟨h1,h2,h3,h4⟩,h5⟩:=h;refine⟨⟨by rw[List.length_drop,h1,Nat.sub_mul],by omega,by omega,by omega⟩,λ hn=>?_⟩;obtain⟨b,o,rfl,hb,hl,hcell⟩:=h5 (by omega);rw[if_neg (by omega)];refine⟨b,o+k*size,?_,hb,hl,λ j u hu=>?_⟩
 ·unfold Addr.add
  by_cases h0:k*size=0 <;> simp[h0]
 ·rw[Nat.add_assoc]
  exact hcell _ u (by rw[<-hu,List.getElem?_drop])
theorem Rd.take {k:Nat}(h:Rd w D size A n c xs)(hk:k<=n):Rd w D size A k c (xs.take (k*size)):=by
 obtain⟨⟨h1,h2,h3,h4⟩,h5⟩:=h;refine⟨⟨by rw[List.length_take,h1];exact Nat.min_eq_left (Nat.mul_le_mul_right _ hk),by omega,by omega,by omega⟩,λ hn=>?_⟩;obtain⟨b,o,rfl,hb,hl,hcell⟩:=h5 (by omega)
 exact⟨b,o,rfl,hb,hl,λ j u hu=>hcell j u (by
  rw[List.getElem?_take]at hu
  split at hu
  ·exact hu
  ·cases hu)⟩
theorem Rd.own {base:Nat}{e:TypeId}(h:w.ownsRow base e size (.slice A n c) n xs)(hn:n<=140737488355328)(hD:∀g,base<=g->D g):Rd w D size A n c xs:=by
 rcases h.2 with⟨hv,h0⟩|⟨g,cap,cur,hv,hb,hh,h1,h2,hsz,htk⟩
 ·injection hv with _ _ hc
  subst h0;subst hc;obtain rfl:xs = []:=List.eq_nil_of_length_eq_zero (by simpa using h.1);exact Rd.nil w D size A (by omega)
 ·have hA:A=some ⟨g,0,none⟩:=by injection hv
  have hc:c=cap:=by injection hv
  subst hA hc;refine⟨⟨h.1,hn,h1,h2⟩,λ hn=>⟨g,0,rfl,hD g hb,lt_of_block hh,λ j u hu=>?_⟩⟩;rw[<-htk,List.getElem?_take]at hu
  split at hu
  ·simp[World.cell?,hh];simpa using hu
  ·cases hu
end
theorem hid {p:Prop}(h:p):Hid p:=h
def jm (w:World)(D:Dom)(A:Option Addr)(c:Nat)(zs:List Int):Prop:=Rd w D 1 A zs.length c (zs.map (.int .i64))
section
variable {D E:Dom}{w w':World}{A:Option Addr}{c:Nat}{zs:List Int}
theorem jm.nil (w:World)(D:Dom)(A:Option Addr){c:Nat}(hc:c<=9223372036854775807):jm w D A c []:=Rd.nil w D 1 A hc
theorem jm.len (h:jm w D A c zs):zs.length<=140737488355328/\zs.length<=c/\c<=9223372036854775807:=h.1.2
theorem jm.keep (h:jm w D A c zs)(hk:Keeps D w w'):jm w' D A c zs:=Rd.keep h hk
theorem jm.mono (h:jm w D A c zs)(hE:∀b,D b->b<w.heap.size->E b):jm w E A c zs:=Rd.mono h hE
theorem jm.old (h:jm w D A c zs):jm w (· < w.heap.size) A c zs:=Rd.old h
theorem jm.get {k:Nat}(h:jm w D A c zs)(hk:k<zs.length):∃b o x,A=some ⟨b,o,none⟩/\D b/\b<w.heap.size/\Hid (zs.getD k 0=x)/\w.cell? ⟨b,o+k,none⟩=some (.int .i64 x):=by
 obtain⟨b,o,e,hb,hl,hc⟩:=h.2 (by omega);exact⟨b,o,_,e,hb,hl,hid rfl,hc k _ (by simp[hk])⟩
theorem jm.ptr (h:jm w D A c zs)(hk:0<zs.length):∃b o,A=some ⟨b,o,none⟩/\D b/\b<w.heap.size/\∀k,k<zs.length->w.cell? ⟨b,o+k,none⟩=some (.int .i64 (zs.getD k 0)):=by
 obtain⟨b,o,e,hb,hl,hc⟩:=h.2 (by omega);exact⟨b,o,e,hb,hl,λ k hk=>hc k _ (by simp[hk])⟩
theorem jm.cut {k:Nat}(h:jm w D A c zs)(hk:k<=zs.length):jm w D (if c=k then A else A.map (·.add k)) (c-k) (zs.drop k):=by
 have:=Rd.cut (k:=k) h hk;unfold jm;simpa using this
theorem jm.take {k:Nat}(h:jm w D A c zs)(hk:k<=zs.length):jm w D A c (zs.take k):=by
 have:=Rd.take (k:=k) h hk;unfold jm;simpa[Nat.min_eq_left hk]using this
theorem jm.one {b o:Nat}{z:Int}(hb:D b)(hc:w.cell? ⟨b,o,none⟩=some (.int .i64 z)):jm w D (some ⟨b,o,none⟩) 1 [z]:=by
 refine⟨⟨by simp,by simp,by simp,by omega⟩,λ _=>⟨b,o,rfl,hb,World.block_lt_of_cell? w ⟨b,o,none⟩ hc,λ j u hu=>?_⟩⟩
 cases j with
 | zero=>simp at hu;subst hu;exact hc
 | succ j=>simp at hu
end
def BN (w:World)(D:Dom)(A:Option Addr)(c:Nat)(rows:List (List Int)):Prop :=
 ∃vs:List Value,Rd w D 1 A rows.length c vs/\∀i,i<rows.length->∃A' c',vs[i]?=some (.slice A' (rows.getD i []).length c')/\jm w D A' c' (rows.getD i [])
section
variable {D E:Dom}{w w':World}{A:Option Addr}{c:Nat}{rows:List (List Int)}
theorem BN.len (h:BN w D A c rows):rows.length<=140737488355328/\rows.length<=c/\c<=9223372036854775807:=let ⟨_,h1,_⟩:=h;h1.1.2
theorem BN.keep (h:BN w D A c rows)(hk:Keeps D w w'):BN w' D A c rows :=
 let ⟨vs,h1,h2⟩:=h
 ⟨vs,h1.keep hk,λ i hi=>let ⟨A',c',h3,h4⟩:=h2 i hi;⟨A',c',h3,h4.keep hk⟩⟩
theorem BN.mono (h:BN w D A c rows)(hE:∀b,D b->b<w.heap.size->E b):BN w E A c rows :=
 let ⟨vs,h1,h2⟩:=h
 ⟨vs,h1.mono hE,λ i hi=>let ⟨A',c',h3,h4⟩:=h2 i hi;⟨A',c',h3,h4.mono hE⟩⟩
theorem BN.get {k:Nat}(h:BN w D A c rows)(hk:k<rows.length):∃b o A' c' r,A=some ⟨b,o,none⟩/\D b/\b<w.heap.size/\Hid (rows.getD k []=r)/\jm w D A' c' r /\
  w.cell? ⟨b,o+k,none⟩=some (.slice A' r.length c'):=by
 obtain⟨vs,h1,h2⟩:=h;obtain⟨b,o,e,hb,hl,hc⟩:=h1.2 (by omega);obtain⟨A',c',h3,h4⟩:=h2 k hk;exact⟨b,o,A',c',_,e,hb,hl,hid rfl,h4,hc k _ h3⟩
end
theorem ak (w:World)(o:Obj)(p:Addr)(h:p.block<w.heap.size):(w.alloc o).cell? p=w.cell? p:=World.cell?_alloc_lt w o p h
theorem jS (w:World)(cs:Array Value)(t:TypeId)(n i:Nat)(u:Value)(h:n=w.heap.size)(hu:cs[i]?=some u):(w.alloc (.cells cs t)).cell? ⟨n,i,none⟩=some u:=by
 subst h;rw[World.cell?_alloc_new];exact hu
theorem aF {a b:Bool}(h:a=b):Ending.returned (.bool a) = .returned (.bool b):=by rw[h]
theorem dD {a b:Int}(h:a=b):Ending.returned (.int .i64 a) = .returned (.int .i64 b):=by rw[h]
theorem getD_take {α : Type}(l:List α)(d : α){k j:Nat}(h:j<k):(l.take k).getD j d=l.getD j d:=by
 simp[List.getD,List.getElem?_take,h]
theorem bP {α : Type}(l:List α)(d : α){k:Nat}(h:k<l.length):l.take (k+1)=l.take k ++ [l.getD k d]:=by
 rw[List.take_succ_eq_append_getElem h];simp[List.getD,h]
def pO (n:Nat)(p:Nat->Bool):Bool:=(List.range n).all p
theorem iZ {n:Nat}{p:Nat->Bool}:pO n p=true ↔ ∀j,j<n->p j=true:=by simp[pO]
theorem TQ {n:Nat}{p:Nat->Bool}(h:∀j,j<n->p j=true):pO n p=true:=iZ.2 h
theorem eX {n j:Nat}{p:Nat->Bool}(h:j<n)(hp:p j=false):pO n p=false:=by
 cases h':pO n p
 ·rfl
 ·rw[iZ.1 h' j h]at hp;cases hp
def jc (k:Nat)(p:Nat->Bool):Prop:=∀j,j<k->p j=true
theorem jc.zero (p:Nat->Bool):jc 0 p := λ _ h=>absurd h (Nat.not_lt_zero _)
theorem jc.succ {k:Nat}{p:Nat->Bool}(h:jc k p)(hp:p k=true):jc (k+1) p := λ j hj=>by
 rcases Nat.lt_succ_iff_lt_or_eq.1 hj with h'|rfl
 ·exact h j h'
 ·exact hp
theorem jc.all {n k:Nat}{p:Nat->Bool}(h:jc k p)(hk:n<=k):pO n p=true:=TQ λ j hj=>h j (Nat.lt_of_lt_of_le hj hk)
def kZ (P:Program)(last:Oper)(Q:Exit->Act->World->Prop):Exit->Act->World->Prop
 | .normal,a,w=>Oper.wp P last a w (Q .normal) Q
 | e,a,w=>Q e a w
def yU (ops:Array Oper):Bool:=(List.range ops.size).all λ i=>match ops[i]? with
 | some o=>o.guard.isNone&&o.after.all λ e=>decide (e.on<i)
 | none=>true
def sinkB (md:Region.Mode)(n:Nat)(last:Oper):Bool :=
 last.guard.isNone&&(last.after.all λ e=>decide (e.on<n))&&(List.range n).all λ i=>last.after.any λ e=>Region.binds md e&&e.on==i
section
variable {P:Program}{ops:Array Oper}{last:Oper}{Q:Exit->Act->World->Prop}{md:Region.Mode}
theorem uQ (h:yU ops=true){i:Nat}{o:Oper}(ho:ops[i]?=some o):o.guard=none/\∀e∈o.after,e.on<i:=by
 have hi:i<ops.size:=(Array.getElem?_eq_some_iff.1 ho).1;have h1:=List.all_eq_true.1 h i (List.mem_range.2 hi);simp only[ho,Bool.and_eq_true,Option.isNone_iff_eq_none,Array.all_eq_true']at h1;exact⟨h1.1,λ e he=>of_decide_eq_true (h1.2 e he)⟩
theorem GV {n:Nat}(h:sinkB md n last=true):last.guard=none/\(∀e∈last.after,e.on<n)/\∀i,i<n->∃e∈last.after,Region.binds md e=true/\e.on=i:=by
 unfold sinkB at h;simp only[Bool.and_eq_true,Option.isNone_iff_eq_none,Array.all_eq_true']at h;refine⟨h.1.1,λ e he=>of_decide_eq_true (h.1.2 e he),λ i hi=>?_⟩;have h1:=List.all_eq_true.1 h.2 i (List.mem_range.2 hi);obtain⟨e,he,hb⟩:=Array.any_eq_true'.1 h1;simp only[Bool.and_eq_true,beq_iff_eq]at hb;exact⟨e,he,hb.1,hb.2⟩
theorem pI {o:Oper}(h:o.guard=none)(f:Nat->Option Bool):Region.wanted o f=true:=by simp[Region.wanted,h]
theorem yc {l:Array Bool}{j:Nat}(d:Bool)(h:j<l.size):(l.push false).getD j d=l.getD j d:=by
 simp[Array.getD,h,Nat.lt_succ_of_lt h,Array.getElem_push,show j<=l.size by omega]
theorem oW {l:Array Bool}(j:Nat):(l.push false).getD j false=l.getD j false:=by
 by_cases h:j<l.size
 ·exact yc false h
 ·rcases Nat.lt_or_ge j (l.size+1)with h1|h1
  ·obtain rfl:j=l.size:=by omega
   simp[Array.getD]
  ·simp[Array.getD,h,show¬j<l.size+1 by omega,show¬j<=l.size by omega]
theorem oG {listed:Array Bool}(hs:listed.size=ops.size){i:Nat}(hi:i<ops.size):i∈Region.ready md (ops.push last) (listed.push false) ↔ i∈Region.ready md ops listed:=by
 rw[mem_ready,mem_ready,yc true (by omega),Array.getElem?_push_lt hi,Array.getElem?_eq_getElem hi];simp only[oW]
theorem Gp {listed:Array Bool}(hs:listed.size=ops.size)(hl:sinkB md ops.size last=true):ops.size∈Region.ready md (ops.push last) (listed.push false) ↔ ∀i,i<ops.size->listed.getD i false=true:=by
 obtain⟨_,h2,h3⟩:=GV hl;rw[mem_ready]
 constructor
 ·rintro⟨_,o,ho,hall⟩ i hi
  have:o=last:=by simpa using ho.symm
  subst this;obtain⟨e,he,hb,rfl⟩:=h3 i hi;have:=hall e he hb
  rwa [oW]at this
 ·intro h
  refine⟨by rw[<-hs];simp[Array.getD],last,by simp,λ e he hb=>?_⟩;rw[oW];exact h _ (h2 e he)
theorem nU {listed:Array Bool}(hs:listed.size=ops.size)(hb:yU ops=true)(hr:Region.ready md ops listed = []):∀i,i<ops.size->listed.getD i false=true:=by
 intro i
 induction i using Nat.strongRecOn with
 | _ i ih =>
  intro hi;cases hg:listed.getD i false
  ·exfalso
   have:i∈Region.ready md ops listed:=by
    rw[mem_ready];refine⟨?_,ops[i],Array.getElem?_eq_getElem hi,λ e he _=>?_⟩
    ·have h':i<listed.size:=by omega
     simp[Array.getD,h']at hg⊢;exact hg
    ·have:=(uQ hb (Array.getElem?_eq_getElem hi)).2 e he
     exact ih _ this (by omega)
   rw[hr]at this;cases this
  ·rfl
theorem iQ {listed:Array Bool}{i:Nat}(h:i∈Region.ready md ops listed):i<ops.size:=by
 unfold Region.ready at h;exact List.mem_range.1 (List.mem_filter.1 h).1
theorem Po {o:Oper}{a:Act}{w:World}{K K':Act->World->Prop}(h:∀a w,K a w->K' a w)(hh:o.wp P a w K (kZ P last Q)):o.wp P a w K' Q:=by
 unfold Oper.wp at *
 generalize(execOp a.eval o).run P w=r at *
 cases r with
 | ok n w' =>
  cases n <;> simp only[Oper.upon]at hh⊢ <;>
   first
    | exact h _ _ hh
    | exact Calls.mono hh (λ e w'' he=>by
      cases e with
      | returned u=>exact h _ _ he
      | panicked c=>exact he
      | outgrown=>exact he)
    | exact Rows.mono hh (λ _ _ he=>h _ _ he)
 | halt x w'=>cases x <;> simp only[Oper.upon]at hh⊢ <;> exact hh
theorem JR {listed:Array Bool}{a:Act}{w:World}(hs:listed.size=ops.size)(hl:sinkB md ops.size last=true)(hall:∀i,i<ops.size->listed.getD i false=true)(h:kZ P last Q .normal a w)(fuel:Nat):wpAny P md (ops.push last) Q (fuel+1) (listed.push false) a w:=by
 have h1:=(Gp hs hl).2 hall
 have hon:∀i∈Region.ready md (ops.push last) (listed.push false),i=ops.size := λ i hi=>by
  have h2:=iQ hi;rw[Array.size_push]at h2
  by_cases e:i<ops.size
  ·have h3:=(mem_ready.1 ((oG hs e).1 hi)).1
   have h4:=hall i e;have h':i<listed.size:=by omega
   simp[Array.getD,h']at h3 h4;rw[h4]at h3;cases h3
  ·omega
 have hend:Region.ready md (ops.push last) ((listed.push false).setIfInBounds ops.size true) = []:=by
  rcases hr:Region.ready md (ops.push last) ((listed.push false).setIfInBounds ops.size true)with _|⟨j,l⟩
  ·rfl
  ·exfalso
   have hj:j∈Region.ready md (ops.push last) ((listed.push false).setIfInBounds ops.size true):=by rw[hr];exact List.mem_cons_self
   have h2:=iQ hj;have h3:=(mem_ready.1 hj).1;rw[Array.size_push]at h2
   by_cases e:j=ops.size
   ·subst e
    rw[<-hs]at h3;simp[Array.getD]at h3
   ·rw[getD_set_ne true (λ e2=>e e2.symm),yc true (by omega)]at h3
    have h4:=hall j (by omega);have h':j<listed.size:=by omega
    simp[Array.getD,h']at h3 h4;rw[h4]at h3;cases h3
 refine⟨λ e=>(by rw[e]at h1;cases h1),λ i hi=>?_⟩;rw[hon i hi];unfold wpOp;simp only[Array.getElem?_push_size];rw[if_pos (pI (GV hl).1 _)];refine .inl (Oper.wp_mono (λ a' w' hq=>?_) h)
 cases fuel with
 | zero=>exact⟨hend,hq⟩
 | succ f=>exact⟨λ _=>hq,by rw[hend];intro j hj;cases hj⟩
theorem G8 (hb:yU ops=true)(hl:sinkB md ops.size last=true):∀(fuel:Nat) (listed:Array Bool) (a:Act) (w:World),listed.size=ops.size->wpAny P md ops (kZ P last Q) fuel listed a w->wpAny P md (ops.push last) Q (fuel+1) (listed.push false) a w
 | 0,listed,a,w,hs,h=>JR hs hl (nU hs hb h.1) h.2 0
 | fuel+1,listed,a,w,hs,h=>by
  by_cases hr:Region.ready md ops listed = []
  ·exact JR hs hl (nU hs hb hr) (h.1 hr) _
  ·have hnl:¬∀i,i<ops.size->listed.getD i false=true := λ hall=>hr (by
    rcases hr':Region.ready md ops listed with _|⟨j,l⟩
    ·rfl
    ·have hj:j∈Region.ready md ops listed:=by rw[hr'];exact List.mem_cons_self
     have h3:=(mem_ready.1 hj).1;have h4:=hall j (iQ hj);have h':j<listed.size:=by have:=iQ hj;omega
     simp[Array.getD,h']at h3 h4
     rw[h4]at h3;cases h3)
   have hlt:∀i∈Region.ready md (ops.push last) (listed.push false),i<ops.size := λ i hi=>by
    have h2:=iQ hi;rw[Array.size_push]at h2
    by_cases e:i=ops.size
    ·subst e;exact absurd ((Gp hs hl).1 hi) hnl
    ·omega
   refine⟨λ e=>?_,λ i hi=>?_⟩
   ·exfalso
    rcases hr':Region.ready md ops listed with _|⟨j,l⟩
    ·exact hr hr'
    ·have hj:j∈Region.ready md ops listed:=by rw[hr'];exact List.mem_cons_self
     have:=(oG (last:=last) hs (iQ hj)).2 hj;rw[e]at this;cases this
   ·have hi':=(oG hs (hlt i hi)).1 hi
    have h1:=h.2 i hi';have hilt:=hlt i hi;unfold wpOp at h1⊢;rw[Array.getElem?_push_lt hilt];rw[Array.getElem?_eq_getElem hilt]at h1;simp only at h1⊢;have hg:=(uQ hb (Array.getElem?_eq_getElem hilt)).1;rw[if_pos (pI hg _)]at h1⊢
    have hset:(listed.push false).setIfInBounds i true=(listed.setIfInBounds i true).push false:=by
     apply Array.ext
     ·simp
     ·intro j h1 h2
      simp only[Array.size_setIfInBounds,Array.size_push]at h1 h2;rw[Array.getElem_setIfInBounds (by simp;omega),Array.getElem_push,Array.getElem_push]
      by_cases hj:j<listed.size
      ·rw[dif_pos hj,dif_pos (by simpa using hj),Array.getElem_setIfInBounds (by simpa using hj)]
      ·rw[dif_neg hj,dif_neg (by simpa using hj),if_neg (by omega)]
    rcases h1 with h1|⟨h1,h2⟩
    ·refine .inl (Po (λ a' w' hk=>?_) h1)
     rw[hset];exact G8 hb hl fuel _ a' w' (by rw[Array.size_setIfInBounds];exact hs) hk
    ·exact .inr ⟨h1,h2⟩
theorem dR {S:World->Prop}{fuel:Nat}{listed:Array Bool}{a:Act}{w:World}(h:∀W,W=w->S W->wpAnyH P md ops Q S fuel listed a W)(hS:S w):wpAnyH P md ops Q S fuel listed a w:=h w rfl hS
end
theorem kM {P:Program}{md:Region.Mode}{ops:Array Oper}{Q:Exit->Act->World->Prop}{S:World->Prop}{fuel:Nat}{listed:Array Bool}{a:Act}{w:World}(i:Nat){oi:Oper}(hi:ops[i]?=some oi)(hb:(Region.noSelect ops&&(Region.free md ops listed i&&((Region.ready md ops listed).contains i&&!Region.wanted oi (yielded ops a.tmps))))=true)(hQ:∀c a w,Q (.panic c) (a.put oi.dst undef) w->Q (.panic c) a w)(hS:S w)(h:wpAnyH P md ops Q S fuel (listed.setIfInBounds i true) (a.put oi.dst undef) w):wpAnyH P md ops Q S (fuel+1) listed a w:=by
 simp only[Bool.and_eq_true,Bool.not_eq_true']at hb;exact wpAnyH_take hi hb.1 hb.2.1 hb.2.2.1 hQ (.inr ⟨hb.2.2.2,rfl⟩) hS h
theorem dS {P:Program}{md:Region.Mode}{ops:Array Oper}{Q:Exit->Act->World->Prop}{S:World->Prop}{fuel:Nat}{listed:Array Bool}{a:Act}{w:World}(i:Nat)(v:Value){oi:Oper}(hi:ops[i]?=some oi)(hb:(Region.noSelect ops&&(Region.free md ops listed i&&((Region.ready md ops listed).contains i&&Region.wanted oi (yielded ops a.tmps))))=true)(hQ:∀c a w,Q (.panic c) (a.put oi.dst v) w->Q (.panic c) a w)(hy:∀w,S w->(execOp a.eval oi).run P w = .ok (.value v) w)(hS:S w)(h:wpAnyH P md ops Q S fuel (listed.setIfInBounds i true) (a.put oi.dst v) w):wpAnyH P md ops Q S (fuel+1) listed a w:=by
 simp only[Bool.and_eq_true]at hb;exact wpAnyH_take hi hb.1 hb.2.1 hb.2.2.1 hQ (.inl ⟨hb.2.2.2,hy⟩) hS h
theorem lK {P:Program}{md:Region.Mode}{ops:Array Oper}{Q:Exit->Act->World->Prop}{S:World->Prop}{fuel:Nat}{listed:Array Bool}{a:Act}{w:World}(i:Nat)(hr:Region.ready md ops listed=[i]){o:Oper}(ho:ops[i]?=some o)(h:∀K':Act->World->Prop,Shut (∀a w,S w->(S w->wpAnyH P md ops Q S fuel (listed.setIfInBounds i true) a w)->K' a w)->if Region.wanted o (yielded ops a.tmps)=true then Oper.wp P o a w K' Q else K' (a.put o.dst undef) w):wpAnyH P md ops Q S (fuel+1) listed a w :=
 wpAnyH_ready hr (by simp) (AllReadyH.cons ho h AllReadyH.nil)
theorem bn {α:Type}(l:List α)(i:Nat)(a:α):l.toArray.setIfInBounds i a=(l.set i a).toArray:=by simp
theorem bC {α:Type}(x a:α)(l:List α):(x::l).set 0 a=a::l:=rfl
theorem bD {α:Type}(x a:α)(l:List α)(n:Nat):(x::l).set (n+1) a=x::l.set n a:=rfl
theorem Js {w:World}{base n size:Nat}{e:TypeId}{v:Value}{xs:List Value}(h:w.ownsRow base e size v n xs):∃A c,v = .slice A n c:=by
 rcases h.2 with⟨rfl,rfl⟩|⟨g,cap,cur,rfl,_⟩
 ·exact⟨none,0,rfl⟩
 ·exact⟨_,_,rfl⟩
section
variable {P:Program}(w:World)
theorem Ii (base:Nat)(t ty e:TypeId)(i:TypeInfo)(z:Value)(size bytes:Nat)(ht:P.underlying t=some (.slice e))(hi:P.info? e=some i)(hz:i.zero=some z)
  (hsize:i.size=size) (hby:i.bytes=bytes) (hzs:z.cells.size=size) (hsz:0<size)
  (v:Value) (n:Nat) (xs:List Value) (hown:w.ownsRow base e size v n xs)
  (D:Dom) (A:Option Addr) (m c:Nat) (news:List Value) (hr:Rd w D size A m c news) (h1:∀u∈news,u.oneCell'=true)
  (hbytes:(n+m)*bytes<=140737488355328) (h63:n+m<=maxLen) (hbase:base<=w.heap.size) :
  ∃A' c' w',(Builtin.append_ #[t,t] ty #[v,.slice A m c]).run P w = .ok (.slice A' (n+m) c') w'/\w'.ownsRow base e size (.slice A' (n+m) c') (n+m) (xs++news)/\w.grownBy w' v.ownBlock /\
   ((Value.slice A' (n+m) c').ownBlock=v.ownBlock\/(Value.slice A' (n+m) c').ownBlock=some w.heap.size):=by
 rcases A with _|ad
 ·have hm:m=0:=by
   rcases Nat.eq_zero_or_pos m with h0|h0
   ·exact h0
   ·obtain⟨_,_,h,_⟩:=hr.2 h0
    cases h
  subst hm;have hn:news = []:=List.eq_nil_of_length_eq_zero (by simpa using hr.1.1);subst hn;obtain⟨A',c',rfl⟩:=Js hown;refine⟨A',c',w,?_,by simpa using hown,World.grownBy.refl w _,.inl rfl⟩
  rcases hown.2 with⟨hv,_⟩|⟨g,cap,cur,hv,_,_,hnc,_⟩
  ·injection hv with e1 e2 e3
   subst e1 e2 e3;simp[Builtin.append_,run_underlying ht,sizeOf,typeInfo,hi,Builtin.lenOf,Builtin.firstCells]
  ·injection hv with e1 e2 e3
   subst e1 e3;simp[Builtin.append_,run_underlying ht,sizeOf,typeInfo,hi,Builtin.lenOf,Builtin.firstCells,hnc,storeCells]
 ·have hcells:∀j u,news[j]?=some u->w.cell? (ad.add j)=some u:=by
   intro j u hu
   rcases Nat.eq_zero_or_pos m with h0|h0
   ·subst h0
    have hn:news = []:=List.eq_nil_of_length_eq_zero (by simpa using hr.1.1);subst hn;simp at hu
   ·obtain⟨b,o,h,_,_,hc⟩:=hr.2 h0
    injection h with h
    subst h
    have e:(⟨b,o,none⟩:Addr).add j=⟨b,o+j,none⟩:=by
     unfold Addr.add
     by_cases h0:j=0 <;> simp[h0]
    rw[e];exact hc j u hu
  obtain⟨v',w',hrun,h2,h3,_,h5⟩:=run_append_own_at (P:=P) w base t ty e i z size bytes ht hi hz hsize hby hzs hsz v n xs hown ad m c news hr.1.1 hcells h1 h63 hbytes hbase;obtain⟨A',c',rfl⟩:=Js h2;exact⟨A',c',w',hrun,h2,h3,h5⟩
theorem BF {o:Oper}{a:Act}{K:Act->World->Prop}{Q:Exit->Act->World->Prop}(s x:Operand)(t:TypeId)
  (ho:o.op = .call { callee := .builtin .append,args := #[s,x],argTypes := #[t,t] })
  (base:Nat) (e:TypeId) (i:TypeInfo) (z:Value) (size bytes:Nat) (ht:P.underlying t=some (.slice e)) (hi:P.info? e=some i) (hz:i.zero=some z)
  (hsize:i.size=size) (hby:i.bytes=bytes) (hzs:z.cells.size=size) (hsz:0<size)
  (v:Value) (n:Nat) (xs:List Value) (hs:a.eval s=v) (hown:w.ownsRow base e size v n xs)
  (D:Dom) (A:Option Addr) (m c:Nat) (news:List Value) (hx:a.eval x = .slice A m c) (hr:Rd w D size A m c news) (h1:∀u∈news,u.oneCell'=true)
  (hbytes:(n+m)*bytes<=140737488355328) (h63:n+m<=maxLen) (hbase:base<=w.heap.size)
  (h:∀A' c' w',w'.ownsRow base e size (.slice A' (n+m) c') (n+m) (xs++news)->w.grownBy w' v.ownBlock->((Value.slice A' (n+m) c').ownBlock=v.ownBlock\/(Value.slice A' (n+m) c').ownBlock=some w.heap.size) ->
   K (a.put o.dst (.slice A' (n+m) c')) w'):o.wp P a w K Q:=by
 obtain⟨A',c',w',hrun,h2,h3,h4⟩:=Ii (P:=P) w base t o.type e i z size bytes ht hi hz hsize hby hzs hsz v n xs hown D A m c news hr h1 hbytes h63 hbase;unfold Oper.wp execOp;simp only[ho,resolve,invoke,builtin,Sem.run_bind,Sem.run_pure,Result.andThen_ok,List.map_toArray,List.map_cons,List.map_nil,hs,hx,hrun];exact h A' c' w' h2 h3 h4
theorem iK {ops:Array Oper}{rest:List Oper}{o:Oper}{a:Act}{Q:Exit->Act->World->Prop}(hgd:o.guard=none)(s x:Operand)(t:TypeId)
  (ho:o.op = .call { callee := .builtin .append,args := #[s,x],argTypes := #[t,t] })
  (base:Nat) (e:TypeId) (i:TypeInfo) (z:Value) (size bytes:Nat) (ht:P.underlying t=some (.slice e)) (hi:P.info? e=some i) (hz:i.zero=some z)
  (hsize:i.size=size) (hby:i.bytes=bytes) (hzs:z.cells.size=size) (hsz:0<size)
  (v:Value) (n:Nat) (xs:List Value) (hs:a.eval s=v) (hown:w.ownsRow base e size v n xs)
  (D:Dom) (A:Option Addr) (m c:Nat) (news:List Value) (hx:a.eval x = .slice A m c) (hr:Rd w D size A m c news) (h1:∀u∈news,u.oneCell'=true)
  (hbytes:(n+m)*bytes<=140737488355328) (h63:n+m<=maxLen) (hbase:base<=w.heap.size)
  (h:∀A' c' w',w'.ownsRow base e size (.slice A' (n+m) c') (n+m) (xs++news)->w.grownBy w' v.ownBlock->((Value.slice A' (n+m) c').ownBlock=v.ownBlock\/(Value.slice A' (n+m) c').ownBlock=some w.heap.size) ->
   wpList P ops Q rest (a.put o.dst (.slice A' (n+m) c')) w'):wpList P ops Q (o :: rest) a w :=
 wpList_plain hgd λ _ hK=>BF w s x t ho base e i z size bytes ht hi hz hsize hby hzs hsz v n xs hs hown D A m c news hx hr h1 hbytes h63 hbase λ A' c' w' h2 h3 h4=>hK _ _ (h A' c' w' h2 h3 h4)
theorem dG {ops:Array Oper}{o:Oper}{a:Act}{K:Act->World->Prop}{Q:Exit->Act->World->Prop}{E:Prop}(hgd:o.guard=none)(s x:Operand)(t:TypeId)
  (ho:o.op = .call { callee := .builtin .append,args := #[s,x],argTypes := #[t,t] })
  (base:Nat) (e:TypeId) (i:TypeInfo) (z:Value) (size bytes:Nat) (ht:P.underlying t=some (.slice e)) (hi:P.info? e=some i) (hz:i.zero=some z)
  (hsize:i.size=size) (hby:i.bytes=bytes) (hzs:z.cells.size=size) (hsz:0<size)
  (v:Value) (n:Nat) (xs:List Value) (hs:a.eval s=v) (hown:w.ownsRow base e size v n xs)
  (D:Dom) (A:Option Addr) (m c:Nat) (news:List Value) (hx:a.eval x = .slice A m c) (hr:Rd w D size A m c news) (h1:∀u∈news,u.oneCell'=true)
  (hbytes:(n+m)*bytes<=140737488355328) (h63:n+m<=maxLen) (hbase:base<=w.heap.size)
  (h:∀A' c' w',w'.ownsRow base e size (.slice A' (n+m) c') (n+m) (xs++news)->w.grownBy w' v.ownBlock->((Value.slice A' (n+m) c').ownBlock=v.ownBlock\/(Value.slice A' (n+m) c').ownBlock=some w.heap.size) ->
   K (a.put o.dst (.slice A' (n+m) c')) w') :
  if Region.wanted o (yielded ops a.tmps)=true then Oper.wp P o a w K Q else E:=by
 have hw:Region.wanted o (yielded ops a.tmps)=true:=by simp[Region.wanted,hgd]
 rw[if_pos hw];exact BF w s x t ho base e i z size bytes ht hi hz hsize hby hzs hsz v n xs hs hown D A m c news hx hr h1 hbytes h63 hbase h
end
theorem FY (zs:List Int):∀u∈zs.map (Value.int .i64),u.oneCell'=true:=by
 intro u hu;obtain⟨z,_,rfl⟩:=List.mem_map.1 hu;rfl
theorem Rd.fresh {w:World}{D:Dom}{cs:Array Value}{t:TypeId}{n k size:Nat}(hk:k=w.heap.size)(hD:D k)(hs:cs.size=n*size)(hn:n<=140737488355328) :
  Rd (w.alloc (.cells cs t)) D size (some ⟨k,0,none⟩) n n cs.toList:=by
 subst hk;refine⟨⟨by simpa using hs,hn,Nat.le_refl _,by omega⟩,λ _=>⟨_,0,rfl,hD,by simp,λ j u hu=>?_⟩⟩;rw[Nat.zero_add];exact jS w cs t _ j u rfl (by simpa using hu)
theorem Rd.cell1 {w:World}{k:Nat}{u:Value}(h:w.cell? ⟨k,0,none⟩=some u):Rd w (λ _=>True) 1 (some ⟨k,0,none⟩) 1 1 [u]:=by
 refine⟨⟨by simp,by omega,by omega,by omega⟩,λ _=>⟨k,0,rfl,trivial,World.block_lt_of_cell? w ⟨k,0,none⟩ h,λ j v hv=>?_⟩⟩
 cases j with
 | zero=>simp at hv;subst hv;exact h
 | succ j=>simp at hv
theorem dJ {n:Nat}(h:n<=9223372036854775807):n<=maxLen:=h
theorem aC {P:Program}{c:Code}{Q:Exit->Act->World->Prop}{a:Act}{w:World}(h:∀W,W=w->c.wp P Q a W):c.wp P Q a w:=h w rfl
theorem below_drewN {B:Nat}{w W:World}(h:Below B w W)(n:Nat):Below B w (W.drewN n):=h.trans ((aU.n W n).below B)
section
variable {P:Program}(w:World)
end
def He (z:Value)(n:Nat)(e:TypeId):Obj := .cells (Array.replicate n z) e
theorem oN {P:Program}(t e:TypeId)(i:TypeInfo)(z:Value)(bytes:Nat)(h1:P.underlying t=some (.slice e))(h2:P.info? e=some i)(h3:i.zero=some z)(h4:i.size=1)(h5:i.bytes=bytes)(h6:z.cells = #[z])
  (kl kc:IntKind) (n:Nat) (b2:bytes*n<=281474976710656) (b3:n<=9223372036854775807) (w:World) :
  (Instr.makeSlice t (.int kl (n:Int)) (.int kc (n:Int))).run P w = .ok (.slice (some ⟨w.heap.size,0,none⟩) n n) (w.alloc (He z n e)):=by
 have e1:madeCells #[z] n=Array.replicate n z:=by
  apply Array.toList_inj.1;rw[toList_madeCells_one];simp
 subst h5;have b2':(i.bytes:Int)*(n:Int)<=281474976710656:=by rw[<-Int.natCast_mul];omega
 have hr:=run_make w t e i z h1 h2 h3 kl kc n n (by omega) (by omega) b2' (by omega);rw[h4,h6,Int.toNat_natCast,Nat.mul_one,e1]at hr;exact hr
theorem aB {w:World}{b i:Nat}{cs:Array Value}{t:TypeId}(h:w.heap[b]?=some (.cells cs t (0,0)))(u:Value):(w.setCell ⟨b,i,none⟩ u).heap[b]?=some (.cells (cs.setIfInBounds i u) t (0,0)):=by
 simp[World.setCell,Array.getElem?_modify,h]
theorem aj {w:World}{b i:Nat}{cs:Array Value}{t:TypeId}{fr:Nat×Nat}{u:Value}(h:w.heap[b]?=some (.cells cs t fr))(hu:cs[i]?=some u):w.cell? ⟨b,i,none⟩=some u:=by
 simp[World.cell?,h,hu]
theorem aA {w:World}{b i:Nat}{cs:Array Value}{t:TypeId}(h:w.heap[b]?=some (.cells cs t (0,0))):w.frozen? ⟨b,i,none⟩=false:=by
 simp[World.frozen?,h]
theorem yY {κ : Type}[DecidableEq κ]{a k : κ}(l:List κ)(h:a≠k):(a :: l).idxOf k=l.idxOf k+1:=by
 rw[List.idxOf_cons,beq_eq_false_iff_ne.2 h];rfl
structure UY (P:Program) (K:TypeId) {κ : Type} [DecidableEq κ] (enc : κ -> Value):Prop where
 check:∀(e:Bool) (w:World) (k : κ),(Instr.checkKey e 10000 K (enc k)).run P w = .ok () w
 find:∀(w:World) (k : κ) (es:List MapEntry) (ks:List κ),es.map (·.key)=ks.map enc ->
  (Instr.findKey K (enc k) es).run P w = .ok (if k∈ks then some (ks.idxOf k,(es.getD (ks.idxOf k) default).val)else none) w
 same:∀k : κ,Instr.sameBits 10000 (enc k) (enc k)=true
section
variable {P:Program}{K:TypeId}{κ : Type}[DecidableEq κ]{enc : κ -> Value}
theorem UY.qen {d:TypeDesc}(hd:P.underlying K=some d)(hc:∀(e:Bool) (w:World) (k : κ),(Instr.checkKey e 10000 K (enc k)).run P w = .ok () w)(hn:∀a b : κ,Instr.sameNow d (enc a) (enc b)=some (decide (a=b)))
  (same:∀k : κ,Instr.sameBits 10000 (enc k) (enc k)=true):UY P K enc :=
 ⟨hc,λ w k es ks h=>by
  have key:∀(es:List MapEntry) (ks:List κ) (i:Nat),es.map (·.key)=ks.map enc->Instr.findNow d (enc k) es i=some (if k∈ks then some (i+ks.idxOf k,(es.getD (ks.idxOf k) default).val)else none):=by
   intro es
   induction es with
   | nil =>
    intro ks i h
    match ks,h with
    | [],_=>simp[Instr.findNow]
   | cons e es ih =>
    intro ks i h
    match ks,h with
    | a :: ks,h =>
     simp only[List.map_cons,List.cons.injEq]at h;simp only[Instr.findNow,h.1,hn]
     by_cases hk:k=a
     ·subst hk;simp
     ·simp only[hk,decide_false,ih ks (i+1) h.2]
      have hi:(a :: ks).idxOf k=ks.idxOf k+1:=yY ks λ e=>hk e.symm;simp only[List.mem_cons,hk,false_or,hi,List.getD_cons_succ]
      congr 1
      split
      ·congr 2;omega
      ·rfl
  have h2:=key es ks 0 h;simp only[Nat.zero_add]at h2
  simp only[Instr.findKey,Sem.run_bind,run_underlying hd,Result.andThen_ok,h2,Sem.run_pure],same⟩
def ny (enc : κ -> Value)(w:World)(mb:Nat)(l:List (κ × Value)):Prop :=
 ∃es clock,w.heap[mb]?=some (.map es clock)/\es.toList.map (λ e=>(e.key,e.val))=l.map (λ p=>(enc p.1,p.2))/\es.toList.map (·.born)=List.range clock
theorem ny.keys {w:World}{l:List (κ × Value)}{es:Array MapEntry}(h:es.toList.map (λ e=>(e.key,e.val))=l.map (λ p=>(enc p.1,p.2))):es.toList.map (·.key)=(l.map (·.1)).map enc:=by
 have:=congrArg (List.map Prod.fst) h;simpa[Function.comp_def]using this
theorem ny.vals {w:World}{l:List (κ × Value)}{es:Array MapEntry}(h:es.toList.map (λ e=>(e.key,e.val))=l.map (λ p=>(enc p.1,p.2))):es.toList.map (·.val)=l.map (·.2):=by
 have:=congrArg (List.map Prod.snd) h;simpa[Function.comp_def]using this
theorem ny.of_block {w w':World}{mb:Nat}{l:List (κ × Value)}(h:ny enc w mb l)(hb:w'.heap[mb]?=w.heap[mb]?):ny enc w' mb l:=by
 obtain⟨es,clock,h1,h2⟩:=h;exact⟨es,clock,hb.trans h1,h2⟩
theorem ny.lt {w:World}{mb:Nat}{l:List (κ × Value)}(h:ny enc w mb l):mb<w.heap.size:=by
 obtain⟨es,clock,h1,_⟩:=h;exact lt_of_block h1
theorem ny.new (w:World):ny enc (w.alloc (.map #[] 0)) w.heap.size []:=⟨#[],0,heap_alloc_new w _,rfl,rfl⟩
def DV (l:List (κ × Value))(k : κ):Option Value:=(l.find? λ p=>decide (p.1=k)).map (·.2)
theorem VZ (l:List (κ × Value))(k : κ)(h:k∈l.map (·.1)):DV l k=some ((l.map (·.2)).getD ((l.map (·.1)).idxOf k) default):=by
 induction l with
 | nil=>simp at h
 | cons p l ih =>
  unfold DV
  by_cases hp:p.1=k
  ·subst hp;simp
  ·have h':k∈l.map (·.1):=by
    simp only[List.map_cons,List.mem_cons]at h;exact h.resolve_left (λ e=>hp e.symm)
   have:=ih h';unfold DV at this;rw[List.find?_cons,decide_eq_false hp];rw[this,List.map_cons,List.map_cons,yY _ hp,List.getD_cons_succ]
theorem RP (l:List (κ × Value))(k : κ)(h:k ∉ l.map (·.1)):DV l k=none:=by
 unfold DV;rw[List.find?_eq_none.2]
 ·rfl
 ·intro p hp
  simp only[decide_eq_true_eq];intro e;exact h (e ▸ List.mem_map_of_mem hp)
theorem Ij (HK:UY P K enc){T E:TypeId}(hT:P.underlying T=some (.map K E)){z:Value}{w:World}(hz:(zeroValue E).run P w = .ok z w){mb:Nat}{l:List (κ × Value)}(h:ny enc w mb l)(k : κ)(ok:Bool) :
  (Instr.lookup T (.map (some mb)) (enc k) ok).run P w = .ok (if ok then .tuple #[(DV l k).getD z,.bool (DV l k).isSome]else(DV l k).getD z) w:=by
 obtain⟨es,clock,h1,h2,h3⟩:=h;have hf:=HK.find w k es.toList (l.map (·.1)) (ny.keys (w:=w) h2);have hv:=ny.vals (w:=w) h2;have hg:∀es':Array MapEntry,(getObj mb).run P w = .ok (.map es clock) w := λ _=>by simp[getObj,Sem.run,h1]
 simp only[Instr.lookup,Sem.run_bind,run_underlying hT,Result.andThen_ok,hg es,Sem.run_pure,HK.check,hf]
 by_cases hk:k∈l.map (·.1)
 ·have hd:(es.toList.getD ((l.map (·.1)).idxOf k) default).val=(l.map (·.2)).getD ((l.map (·.1)).idxOf k) default:=by
   rw[<-hv];simp only[List.getD,List.getElem?_map]
   cases hh:es.toList[(l.map (·.1)).idxOf k]? with
   | none =>
    exfalso
    have hl:es.toList.length=l.length:=by have:=congrArg List.length h2;simpa using this
    rw[List.getElem?_eq_none_iff]at hh;have:=List.idxOf_lt_length_of_mem hk;rw[List.length_map]at this;omega
   | some e=>rfl
  rw[VZ l k hk];simp only[hk,if_true,hd]
  cases ok <;> simp
 ·rw[RP l k hk]
  simp only[hk,if_false,Sem.run_bind,hz,Result.andThen_ok]
  cases ok <;> simp
theorem bJ (HK:UY P K enc){T E:TypeId}(hT:P.underlying T=some (.map K E)){w:World}{mb:Nat}{l:List (κ × Value)}(h:ny enc w mb l)(k : κ)(v:Value)(hk:k ∉ l.map (·.1)) :
  ∃w',(Instr.mapUpdate T (.map (some mb)) (enc k) v).run P w = .ok () w'/\ny enc w' mb (l ++ [(k,v)])/\w.grownBy w' (some mb)/\w'.heap.size=w.heap.size:=by
 obtain⟨es,clock,h1,h2,h3⟩:=h;have hf:=HK.find w k es.toList (l.map (·.1)) (ny.keys (w:=w) h2);have hg:(getObj mb).run P w = .ok (.map es clock) w:=by simp[getObj,Sem.run,h1]
 have hl:=lt_of_block h1;refine⟨{ w with heap:=w.heap.setIfInBounds mb (.map (es.push { key:=enc k,val:=v,born:=clock }) (clock+1)) },?_,⟨_,_,by simp[hl];exact⟨rfl,rfl⟩,?_,?_⟩,⟨rfl,rfl,rfl,by simp,λ i _ hi=>?_⟩,by simp⟩
 ·simp only[Instr.mapUpdate,Sem.run_bind,run_underlying hT,Result.andThen_ok,hg,HK.check,hf,hk,if_false]
  simp[setObj,Sem.run,h1]
 ·rw[Array.toList_push,List.map_append,List.map_append,h2];rfl
 ·rw[Array.toList_push,List.map_append,h3,List.range_succ];rfl
 ·have:mb≠i := λ e=>hi (by rw[e])
  simp[this]
end
section
variable {κ β γ : Type}[DecidableEq κ]
def Un (l:List (κ × β))(k : κ):Option β :=(l.find? λ p=>decide (p.1=k)).map (·.2)
end
section
variable {P:Program}{K:TypeId}{κ : Type}[DecidableEq κ]{enc : κ -> Value}
theorem Lr (HK:UY P K enc){T E:TypeId}(hT:P.underlying T=some (.map K E)){z:Value}{w:World}(hz:(zeroValue E).run P w = .ok z w){mb:Nat}{l:List (κ × Value)}(h:ny enc w mb l)(k : κ)(ok:Bool) :
  (Instr.lookup T (.map (some mb)) (enc k) ok).run P w = .ok (if ok then .tuple #[(Un l k).getD z,.bool (Un l k).isSome]else(Un l k).getD z) w:=Ij HK hT hz h k ok
end
inductive Fm where
 | mk (op:Int) (name:ByteArray) (val bound:Int) (args:List Fm)
instance:Inhabited Fm:=⟨.mk 0 ByteArray.empty 0 0 []⟩
namespace Fm
def op:Fm->Int | .mk o _ _ _ _=>o
def name:Fm->ByteArray | .mk _ n _ _ _=>n
def val:Fm->Int | .mk _ _ v _ _=>v
def bound:Fm->Int | .mk _ _ _ b _=>b
def args:Fm->List Fm | .mk _ _ _ _ l=>l
theorem eta:∀f:Fm,Fm.mk f.op f.name f.val f.bound f.args=f
 | .mk _ _ _ _ _=>rfl
end Fm
mutual
def Fm.size:Fm->Nat
 | .mk _ _ _ _ l=>1+sizes l
def sizes:List Fm->Nat
 | []=>0
 | f :: l=>f.size+sizes l
end
theorem Fm.size_eq (f:Fm):f.size=1+sizes f.args:=by cases f;simp only[Fm.size,Fm.args]
theorem gq:∀{l:List Fm} {f:Fm},f∈l->f.size<=sizes l
 | [],_,h=>by cases h
 | g :: l,f,h=>by
  rw[sizes]
  rcases List.mem_cons.1 h with e|e
  ·subst e;omega
  ·have:=gq e;omega
theorem Fe {f:Fm}{i:Nat}(hi:i<f.args.length):(f.args.getD i default).size<f.size:=by
 have h1:f.args.getD i default∈f.args:=by simp[List.getD,hi]
 have:=gq h1;rw[Fm.size_eq f];omega
theorem Fm.induct {P:Fm->Prop}(h:∀f,(∀i,i<f.args.length->P (f.args.getD i default))->P f)(f:Fm):P f:=by
 have key:∀n,∀f:Fm,f.size<=n->P f:=by
  intro n
  induction n with
  | zero=>intro f hf;rw[Fm.size_eq]at hf;omega
  | succ n ih=>intro f hf;exact h f λ i hi=>ih _ (by have:=Fe hi;omega)
 exact key _ f (Nat.le_refl _)
def fH (f:Fm)(s:Option Addr×Nat):List Value := [.int .i64 f.op,.string f.name,.int .i64 f.val,.int .i64 f.bound,.slice s.1 f.args.length s.2]
def bQ (l:List Fm)(sl:List (Option Addr×Nat)):List Value:=(l.zip sl).flatMap λ p=>fH p.1 p.2
inductive bZ (w:World) (D:Dom):List Fm->Option Addr->Nat->Prop where
 | mk (l:List Fm) (A:Option Addr) (c:Nat) (sl:List (Option Addr×Nat)) (len:sl.length=l.length) (cells:Rd w D 5 A l.length c (bQ l sl))
  (arg:∀i,i<l.length->bZ w D (l.getD i default).args (sl.getD i (none,0)).1 (sl.getD i (none,0)).2):bZ w D l A c
section
variable {D E:Dom}{w w':World}{A:Option Addr}{c:Nat}{l:List Fm}
theorem bZ.out (h:bZ w D l A c):∃sl:List (Option Addr×Nat),sl.length=l.length/\Rd w D 5 A l.length c (bQ l sl)/\∀i,i<l.length->bZ w D (l.getD i default).args (sl.getD i (none,0)).1 (sl.getD i (none,0)).2:=by
 cases h with
 | mk _ _ _ sl h1 h2 h3=>exact⟨sl,h1,h2,h3⟩
theorem bZ.nil (w:World)(D:Dom)(A:Option Addr){c:Nat}(hc:c<=9223372036854775807):bZ w D [] A c := .mk _ _ _ [] rfl (Rd.nil w D 5 A hc) λ _ h=>absurd h (Nat.not_lt_zero _)
theorem bZ.len (h:bZ w D l A c):l.length<=140737488355328/\l.length<=c/\c<=9223372036854775807:=by
 obtain⟨_,_,h1,_⟩:=h.out;exact h1.1.2
theorem bZ.keep (h:bZ w D l A c)(hk:Keeps D w w'):bZ w' D l A c:=by
 induction h with
 | mk l A c sl h1 h2 _ ih=>exact .mk l A c sl h1 (h2.keep hk) ih
theorem bZ.mono (h:bZ w D l A c)(hE:∀b,D b->b<w.heap.size->E b):bZ w E l A c:=by
 induction h with
 | mk l A c sl h1 h2 _ ih=>exact .mk l A c sl h1 (h2.mono hE) ih
theorem bZ.old (h:bZ w D l A c):bZ w (· < w.heap.size) l A c:=h.mono λ _ _ hl=>hl
theorem bZ.any (h:bZ w D l A c)(hb:Below w.heap.size w w'):bZ w' (λ _=>True) l A c:=(h.old.keep (Keeps.of_below hb λ _ h=>h)).mono λ _ _ _=>trivial
theorem Am {α : Type}(f : α -> List Value)(d : α)(s:Nat)(hf:∀x,(f x).length=s):∀(l:List α) (k j:Nat),k<l.length->j<s->(l.flatMap f)[k*s+j]?=(f (l.getD k d))[j]?
 | [],k,j,h,_=>absurd h (Nat.not_lt_zero _)
 | x :: l,0,j,_,hj=>by
  rw[List.flatMap_cons,List.getElem?_append_left (by rw[hf];omega)];simp
 | x :: l,k+1,j,h,hj=>by
  have e0:(k+1)*s=s+k*s:=by rw[Nat.add_mul,Nat.one_mul,Nat.add_comm]
  rw[List.flatMap_cons,List.getElem?_append_right (by rw[hf,e0];omega)];have e:(k+1)*s+j-(f x).length=k*s+j:=by rw[hf,e0];omega
  rw[e,Am f d s hf l k j (by simpa using h) hj];simp
theorem qag {L:List Fm}{sl:List (Option Addr×Nat)}(hl:sl.length=L.length){k:Nat}(hk:k<L.length):(L.zip sl).getD k (default,(none,0))=(L.getD k default,sl.getD k (none,0)):=by
 have hs:k<sl.length:=by omega
 have hzk:k<(L.zip sl).length:=by rw[List.length_zip];omega
 rw[List.getD_eq_getElem?_getD,List.getD_eq_getElem?_getD,List.getD_eq_getElem?_getD,List.getElem?_eq_getElem hzk,List.getElem?_eq_getElem hk,List.getElem?_eq_getElem hs];exact List.getElem_zip
theorem lu {L:List Fm}{sl:List (Option Addr×Nat)}(hl:sl.length=L.length){k j:Nat}(hk:k<L.length)(hj:j<5):(bQ L sl)[k*5+j]?=(fH (L.getD k default) (sl.getD k (none,0)))[j]?:=by
 unfold bQ;rw[Am (λ p:Fm×(Option Addr×Nat)=>fH p.1 p.2) (default,((none:Option Addr),0)) 5 (λ _=>rfl) (L.zip sl) k j (by rw[List.length_zip,hl];omega) hj,qag hl hk]
end
structure dU (w:World) (D:Dom) (b o:Nat) (f:Fm) (A:Option Addr) (c:Nat):Prop where
 dom:D b
 lt:b<w.heap.size
 c0:w.cell? ⟨b,o,none⟩=some (.int .i64 f.op)
 c1:w.cell? ⟨b,o+1,none⟩=some (.string f.name)
 c2:w.cell? ⟨b,o+2,none⟩=some (.int .i64 f.val)
 c3:w.cell? ⟨b,o+3,none⟩=some (.int .i64 f.bound)
 c4:w.cell? ⟨b,o+4,none⟩=some (.slice A f.args.length c)
 args:bZ w D f.args A c
theorem dU.keep {w w':World}{D:Dom}{b o:Nat}{f:Fm}{A:Option Addr}{c:Nat}(h:dU w D b o f A c)(hk:Keeps D w w'):dU w' D b o f A c :=
 ⟨h.dom,Nat.lt_of_lt_of_le h.lt hk.size,hk.cell h.dom h.c0,hk.cell h.dom h.c1,hk.cell h.dom h.c2,hk.cell h.dom h.c3,hk.cell h.dom h.c4,h.args.keep hk⟩
theorem dU.mono {w:World}{D E:Dom}{b o:Nat}{f:Fm}{A:Option Addr}{c:Nat}(h:dU w D b o f A c)(hE:∀b,D b->b<w.heap.size->E b):dU w E b o f A c :=
 ⟨hE _ h.dom h.lt,h.lt,h.c0,h.c1,h.c2,h.c3,h.c4,h.args.mono hE⟩
theorem dU.old {w:World}{D:Dom}{b o:Nat}{f:Fm}{A:Option Addr}{c:Nat}(h:dU w D b o f A c):dU w (· < w.heap.size) b o f A c:=h.mono λ _ _ hl=>hl
theorem bZ.get {w:World}{D:Dom}{l:List Fm}{A:Option Addr}{c k:Nat}(h:bZ w D l A c)(hk:k<l.length):∃b o A' c' f,A=some ⟨b,o,none⟩/\Hid (l.getD k default=f)/\dU w D b (o+k*5) f A' c':=by
 obtain⟨sl,h0,h1,h2⟩:=h.out;obtain⟨b,o,e,hb,hl,hc⟩:=h1.2 (by omega);have g:∀j u,j<5->(fH (l.getD k default) (sl.getD k (none,0)))[j]?=some u->w.cell? ⟨b,o+(k*5+j),none⟩=some u := λ j u hj hu=>hc _ _ (by rw[lu h0 hk hj];exact hu);have g0:=g 0 _ (by omega) rfl;have g1:=g 1 _ (by omega) rfl;have g2:=g 2 _ (by omega) rfl;have g3:=g 3 _ (by omega) rfl;have g4:=g 4 _ (by omega) rfl;exact⟨b,o,_,_,l.getD k default,e,hid rfl,hb,hl,by simpa using g0,by simpa[Nat.add_assoc]using g1,by simpa[Nat.add_assoc]using g2,by simpa[Nat.add_assoc]using g3,by simpa[Nat.add_assoc]using g4,h2 k hk⟩
def bI (w:World)(D:Dom)(v:Value)(f:Fm):Prop:=∃A c,v = .agg #[.int .i64 f.op,.string f.name,.int .i64 f.val,.int .i64 f.bound,.slice A f.args.length c]/\bZ w D f.args A c
section
variable {D E:Dom}{w w':World}{v:Value}{f:Fm}
theorem bI.keep (h:bI w D v f)(hk:Keeps D w w'):bI w' D v f:=let ⟨A,c,e,h1⟩:=h;⟨A,c,e,h1.keep hk⟩
theorem bI.mono (h:bI w D v f)(hE:∀b,D b->b<w.heap.size->E b):bI w E v f:=let ⟨A,c,e,h1⟩:=h;⟨A,c,e,h1.mono hE⟩
theorem bI.old (h:bI w D v f):bI w (· < w.heap.size) v f:=h.mono λ _ _ hl=>hl
theorem bI.any (h:bI w D v f)(hb:Below w.heap.size w w'):bI w' (λ _=>True) v f:=(h.old.keep (Keeps.of_below hb λ _ h=>h)).mono λ _ _ _=>trivial
end
structure Form where
 least:Nat
 most:Nat
 val:Int
 bound:Int
 named:Bool
 past:Bool
 future:Bool
 loose:Bool
def fP:Form:=⟨0,0,0,0,false,false,false,false⟩
def manyN:Nat:=1099511627776
def jZ:List Form := [
 fP,
 { fP with loose:=true },
 { fP with loose:=true },
 { fP with val:=3,named:=true,loose:=true },
 { fP with least:=1,most:=1,loose:=true },
 { fP with least:=2,most:=manyN,loose:=true },
 { fP with least:=2,most:=manyN,loose:=true },
 { fP with least:=2,most:=2 },
 { fP with least:=1,most:=1,future:=true,loose:=true },
 { fP with least:=2,most:=2,future:=true,loose:=true },
 { fP with least:=2,most:=2,future:=true,loose:=true },
 { fP with least:=1,most:=1,future:=true },
 { fP with least:=1,most:=1,future:=true },
 { fP with least:=1,most:=1,bound:=9,future:=true },
 { fP with least:=1,most:=1,bound:=9,future:=true },
 { fP with least:=1,most:=1,val:=1,past:=true,loose:=true },
 { fP with least:=2,most:=2,val:=1,past:=true,loose:=true },
 { fP with least:=2,most:=2,val:=1,past:=true,loose:=true },
 { fP with least:=1,most:=1,past:=true },
 { fP with least:=1,most:=1,past:=true }]
def isOp (op:Int):Bool:=decide (1<=op)&&decide (op<20)
def aJ (op:Int):Form:=if isOp op then jZ.getD op.toNat fP else fP
mutual
def fA:Bool->Fm->List (Fm×Bool)
 | ins,.mk o n v b l=>(.mk o n v b l,ins) :: kE (ins || (aJ o).past) l
def kE:Bool->List Fm->List (Fm×Bool)
 | _,[] => []
 | ins,f :: l=>fA ins f++kE ins l
end
theorem su (ins:Bool)(f:Fm):fA ins f=(f,ins) :: kE (ins || (aJ f.op).past) f.args:=by cases f;simp only[fA,Fm.op,Fm.args]
mutual
theorem qZ:∀(ins:Bool) (f:Fm),(fA ins f).length=f.size
 | ins,.mk o n v b l=>by simp only[fA,List.length_cons,Fm.size,CV (ins || (aJ o).past) l];omega
theorem CV:∀(ins:Bool) (l:List Fm),(kE ins l).length=sizes l
 | _,[]=>rfl
 | ins,f :: l=>by simp only[kE,List.length_append,sizes,qZ ins f,CV ins l]
end
mutual
def Fm.depth:Fm->Nat
 | .mk _ _ _ _ l=>1+depths l
def depths:List Fm->Nat
 | []=>0
 | f :: l=>max f.depth (depths l)
end
theorem Fm.jr (f:Fm):f.depth=1+depths f.args:=by cases f;simp only[Fm.depth,Fm.args]
theorem zq:∀{l:List Fm} {f:Fm},f∈l->f.depth<=depths l
 | [],_,h=>by cases h
 | g :: l,f,h=>by
  rw[depths]
  rcases List.mem_cons.1 h with e|e
  ·subst e;omega
  ·have:=zq e;omega
theorem tJ {f:Fm}{i:Nat}(hi:i<f.args.length):(f.args.getD i default).depth<f.depth:=by
 have h1:f.args.getD i default∈f.args:=by simp[List.getD,hi]
 have:=zq h1;rw[Fm.jr f];omega
mutual
theorem jJ:∀f:Fm,f.depth<=f.size
 | .mk _ _ _ _ l=>by simp only[Fm.depth,Fm.size];have:=Ai l;omega
theorem Ai:∀l:List Fm,depths l<=sizes l
 | []=>Nat.le_refl _
 | f :: l=>by simp only[depths,sizes];have:=jJ f;have:=Ai l;omega
end
theorem ji:∀l:List Fm,l.length<=sizes l
 | []=>Nat.le_refl _
 | f :: l=>by
  have:=ji l;have h:=Fm.size_eq f;simp only[List.length_cons,sizes];omega
end Go.Proofs.YtdpbgcmfeajigaaGreatDoor
namespace Go.Proofs.YtdpbgcmfeajigaaGreatDoor
open Go.RowKit
attribute [local go_sem] ak
def kJ (a b:Int):Int:=if a<b then -1 else if b<a then 1 else 0
theorem yI (a b:Int)(w:World):Calls Tryz.prog 124 #[.int .i64 a,.int .i64 b] w λ e w'=>e = .returned (.int .i64 (kJ a b))/\w'=w:=by
 unfold kJ
 by_cases h:a<b
 ·rw[if_pos h]
  go_enter Tryz.func124,Tryz.ntmps124
  go_wp2
  go_ret
  exact⟨rfl,rfl⟩
 ·rw[if_neg h]
  by_cases h2:b<a
  ·rw[if_pos h2]
   go_enter Tryz.func124,Tryz.ntmps124
   go_wp2
   go_ret
   exact⟨rfl,rfl⟩
  ·rw[if_neg h2]
   go_enter Tryz.func124,Tryz.ntmps124
   go_wp2
   go_ret
   exact⟨rfl,rfl⟩
def Ub (op:Int):Int:=if op=1 then 2 else if op=2 then 1 else if op=5 then 6 else if op=6 then 5 else if op=9 then 10 else if op=10 then 9 else if op=16 then 17 else if op=17 then 16 else op
def FN (op:Int):Int:=if op=7 then 6 else if op=13 then 6 else if op=14 then 5 else if op=11 then 9 else if op=12 then 10 else if op=18 then 16 else if op=19 then 17 else op
theorem ay {a b:Int}(h:¬a=b):(a==b)=false:=beq_eq_false_iff_ne.2 h
theorem ND (op:Int)(w:World):Calls Tryz.prog 113 #[.int .i64 op] w λ e w'=>e = .returned (.int .i64 (Ub op))/\w'=w:=by
 go_enter Tryz.func113,Tryz.ntmps113
 go_wp2
 all_goals
  go_ret
  refine⟨?_,rfl⟩
  simp_all [Ub]
theorem NK (op:Int)(w:World):Calls Tryz.prog 112 #[.int .i64 op] w λ e w'=>e = .returned (.int .i64 (FN op))/\w'=w:=by
 go_enter Tryz.func112,Tryz.ntmps112
 go_wp2
 all_goals
  go_ret
  refine⟨?_,rfl⟩
  simp_all [FN]
end Go.Proofs.YtdpbgcmfeajigaaGreatDoor
namespace Go.Proofs.YtdpbgcmfeajigaaGreatDoor
open Go.RowKit
attribute [local go_sem] ak
theorem jh:∀l m:List Fm,sizes (l++m)=sizes l+sizes m
 | [],m=>by simp[sizes]
 | f :: l,m=>by simp only[List.cons_append,sizes,jh l m];omega
theorem rE (l:List Fm){i:Nat}(hi:i<l.length):sizes (l.take (i+1))=sizes (l.take i)+(l.getD i default).size:=by
 rw[bP l default hi,jh];simp[sizes]
theorem vJ (l:List Fm)(i:Nat):sizes (l.take i)<=sizes l:=by
 have:=jh (l.take i) (l.drop i);rw[List.take_append_drop]at this;omega
def dH (w:World)(k:Nat)(f:Fm)(A:Option Addr)(c:Nat):Prop:=w.heap[k]?=some (.cells #[.int .i64 f.op,.string f.name,.int .i64 f.val,.int .i64 f.bound,.slice A f.args.length c] 24 (0,0))
theorem dH.cells {w:World}{k:Nat}{f:Fm}{A:Option Addr}{c:Nat}(h:dH w k f A c):w.cell? ⟨k,0,none⟩=some (.int .i64 f.op)/\w.cell? ⟨k,1,none⟩=some (.string f.name)/\w.cell? ⟨k,2,none⟩=some (.int .i64 f.val)/\w.cell? ⟨k,3,none⟩=some (.int .i64 f.bound)/\w.cell? ⟨k,4,none⟩=some (.slice A f.args.length c)/\k<w.heap.size :=
 ⟨aj h rfl,aj h rfl,aj h rfl,aj h rfl,aj h rfl,lt_of_block h⟩
theorem dH.below {w w':World}{k:Nat}{f:Fm}{A:Option Addr}{c:Nat}(h:dH w k f A c)(hb:Below w.heap.size w w'):dH w' k f A c:=(hb.block _ (lt_of_block h)).trans h
theorem dH.new (w:World)(f:Fm)(A:Option Addr)(c:Nat):dH (w.alloc (.cells #[.int .i64 f.op,.string f.name,.int .i64 f.val,.int .i64 f.bound,.slice A f.args.length c] 24)) w.heap.size f A c:=heap_alloc_new w _
theorem QN (f:Fm):∀{D:Dom} (v:Value) (limit:Nat) (w:World) (h:bI w D v f) (hl:limit<=1000000),
  Calls Tryz.prog 41 #[v,.int .i64 (limit:Int)] w λ e w'=>e = .returned (.int .i64 ((min f.size (limit+1):Nat):Int))/\Below w.heap.size w w':=by
 refine Fm.induct (P := λ f=>∀{D:Dom} (v:Value) (limit:Nat) (w:World) (h:bI w D v f) (hl:limit<=1000000),Calls Tryz.prog 41 #[v,.int .i64 (limit:Int)] w λ e w'=>e = .returned (.int .i64 ((min f.size (limit+1):Nat):Int))/\Below w.heap.size w w') ?_ f;intro f ih D v limit w h hl;have HIH:=hid ih;have hsz:=Fm.size_eq f;obtain⟨A,c,rfl,ha⟩:=h;have HA:=hid ha.old;have hal:=ha.len.1;clear ih ha
 go_enter Tryz.func41,Tryz.ntmps41
 go_upto_region 1 with(fail)
 refine aC λ W hW=>?_;have hbx:dH W w.heap.size f A c:=by rw[hW];exact dH.new w f A c
 have hb:Below w.heap.size w W:=by rw[hW];go_grown
 have dW:=hid hbx;have aT:=hid hb;have jI:=hid hsz;clear hW hbx hb hsz;go_wp2_with fail
 go_loopw [5,6] (λ s q wr=>∃(i n:Nat),i<=f.args.length/\n=min (1+sizes (f.args.take i)) (limit+1)/\s = .int .i64 (n:Int)/\q = .int .i64 (i:Int)/\Below W.heap.size W wr) (λ _ q _=>f.args.length-(intOf q).toNat)
 case atStart=>exact⟨0,1,Nat.zero_le _,by simp[sizes],rfl,rfl,Below.refl _ _⟩
 case round =>
  obtain⟨i,n,hi,hn,rfl,rfl,hb⟩:=hrel;obtain⟨x0,x1,x2,x3,x4,xl⟩:=(dW.out.below hb).cells;have HB:=hid hb;have gB:=hid (aT.out.trans (hb.mono aT.out.size));have HN:=hid hn;have hnl:n<=limit+1:=by omega
  clear hb hn
  by_cases hlt:i<f.args.length
  ·have hii:(i:Int)<f.args.length:=by omega
   by_cases hle:n<=limit
   ·have qgt:(n:Int)<=limit:=by omega
    obtain⟨b,o,A',c',g,rfl,HG,hg⟩:=(HA.out.keep (Keeps.of_below gB.out λ _ h=>h)).get hlt;obtain⟨gd,gl,g0,g1,g2,g3,g4,ga⟩:=hg;have hcall:=HIH.out i hlt (D:=(· < w.heap.size)) (.agg #[.int .i64 g.op,.string g.name,.int .i64 g.val,.int .i64 g.bound,.slice A' g.args.length c']) (limit-n) wr (by rw[HG.out];exact⟨A',c',rfl,ga⟩) (by omega);rw[HG.out]at hcall;have hsub:((limit-n:Nat):Int)=(limit:Int)-(n:Int):=by omega
    rw[hsub]at hcall;have hsn:=rE f.args hlt;rw[HG.out]at hsn;have aX:=hid hcall;have rO:=hid hsn;clear hcall hsub ga hsn;go_wp2_with fail
    refine aX.out.mono ?_;rintro e w1 ⟨rfl,hb1⟩;have HB1:=hid (HB.out.trans (hb1.mono HB.out.size));have hmn:min g.size (limit-n+1)<=limit-n+1:=Nat.min_le_right _ _;obtain⟨m,hm⟩:∃m,m=min g.size (limit-n+1):=⟨_,rfl⟩;rw[<-hm]at hmn⊢;have HM:=hid hm;clear hb1 hm;go_wp2_with fail
    go_roundw
    case rel =>
     refine⟨i+1,n+m,by omega,?_,by go_num,by go_num,HB1.out⟩;rw[rO.out,HM.out];have:=HN.out;omega
    case measure=>simp[intOf];omega
   ·have qgt:¬(n:Int)<=limit:=by omega
    have hd:decide ((n:Int)<=limit)=false:=decide_eq_false qgt
    have hres:min f.size (limit+1)=n:=by
     have h1:=vJ f.args i;have:=HN.out;have:=jI.out;omega
    have gY:=hid hres;clear hres;go_wp2_with fail
    go_ret
    exact⟨dD (by rw[gY.out]),gB.out⟩
  ·have hie:f.args.take i=f.args:=List.take_of_length_le (by omega)
   have hres:min f.size (limit+1)=n:=by have:=HN.out;rw[hie]at this;have:=jI.out;omega
   have gY:=hid hres;clear hie hres;go_wp2_with fail
   go_ret
   exact⟨dD (by rw[gY.out]),gB.out⟩
theorem Gv {D:Dom}(f:Fm)(v:Value)(limit:Nat)(w:World)(h:bI w D v f)(hl:limit<=1000000) :
  Calls Tryz.prog 9 #[v,.int .i64 (limit:Int)] w λ e w'=>e = .returned (.bool (decide (f.size<=limit)))/\Below w.heap.size w w':=by
 obtain⟨A,c,rfl,ha⟩:=h;have HA:=hid ha.old;clear ha
 go_enter Tryz.func9,Tryz.ntmps9
 go_upto_region 1 with(fail)
 refine aC λ W hW=>?_;have hbx:dH W w.heap.size f A c:=by rw[hW];exact dH.new w f A c
 have aT:=hid (show Below w.heap.size w W by rw[hW];go_grown);obtain⟨x0,x1,x2,x3,x4,xl⟩:=hbx.cells;clear hW hbx;go_wp2_with fail
 refine(QN f _ limit W ⟨A,c,rfl,HA.out.keep (Keeps.of_below aT.out λ _ h=>h)⟩ hl).mono ?_;rintro e w1 ⟨rfl,hb1⟩;have HB1:=hid (aT.out.trans (hb1.mono aT.out.size));obtain⟨m,hm⟩:∃m,m=min f.size (limit+1):=⟨_,rfl⟩;rw[<-hm];have HM:=hid hm;clear hb1 hm;go_wp2_with fail
 go_ret
 refine⟨aF ?_,HB1.out⟩;have:=HM.out
 by_cases h:f.size<=limit
 ·rw[decide_eq_true h];simp;omega
 ·rw[decide_eq_false h];simp;omega
end Go.Proofs.YtdpbgcmfeajigaaGreatDoor
