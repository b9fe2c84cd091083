/-
  Parts of a proof: PW PX PY PZ UA.
-/
import Derived.Test.YtdpbgcmfeajigaaGreatDoorA25
set_option linter.unusedSimpArgs false
set_option linter.unusedVariables false
set_option maxHeartbeats 8000000
set_option maxRecDepth 100000
namespace Go.Proofs.YtdpbgcmfeajigaaGreatDoor
open Go.RowKit Go.Shelf
attribute [local go_sem] ak run_store_func Oper.semAt_some
def encZ (z:Int):Value := .int .i64 z
theorem Rz (e:Bool)(w:World)(q:Int):(Instr.checkKey e 10000 3 (encZ q)).run Tryz.prog w = .ok () w:=by kernel_rfl
theorem fM:UY Tryz.prog 3 encZ :=
 .qen Tryz.underlying3 Rz (λ a b=>by
  unfold encZ;simp[Instr.sameNow]
  rw[Bool.eq_iff_iff,beq_iff_eq,decide_eq_true_eq]) (λ k=>by simp[encZ,Instr.sameBits])
def Zv (bx cb:Nat):List (Int×Value) := [(1,.func (.func 164) #[] #[.pointer (some ⟨cb,0,none⟩)]),(2,.func (.func 165) #[] #[.pointer (some ⟨cb,0,none⟩)]),(3,.func (.func 166) #[] #[.pointer (some ⟨bx,0,none⟩)]),(4,.func (.func 169) #[] #[.pointer (some ⟨bx,0,none⟩)]),(5,.func (.func 171) #[] #[.pointer (some ⟨bx,0,none⟩)]),(6,.func (.func 174) #[] #[.pointer (some ⟨bx,0,none⟩)]),(7,.func (.func 176) #[] #[.pointer (some ⟨bx,0,none⟩)]),(8,.func (.func 178) #[] #[.pointer (some ⟨bx,0,none⟩)]),(9,.func (.func 180) #[] #[.pointer (some ⟨bx,0,none⟩)]),(10,.func (.func 182) #[] #[.pointer (some ⟨bx,0,none⟩)]),(11,.func (.func 184) #[] #[.pointer (some ⟨bx,0,none⟩),.pointer (some ⟨cb,0,none⟩)]),(12,.func (.func 185) #[] #[.pointer (some ⟨bx,0,none⟩),.pointer (some ⟨cb,0,none⟩)]),(13,.func (.func 186) #[] #[.pointer (some ⟨bx,0,none⟩)]),(14,.func (.func 189) #[] #[.pointer (some ⟨bx,0,none⟩)]),(15,.func (.func 191) #[] #[.pointer (some ⟨bx,0,none⟩)]),(16,.func (.func 193) #[] #[.pointer (some ⟨bx,0,none⟩)]),(17,.func (.func 195) #[] #[.pointer (some ⟨bx,0,none⟩)]),(18,.func (.func 197) #[] #[.pointer (some ⟨bx,0,none⟩),.pointer (some ⟨cb,0,none⟩)]),(19,.func (.func 198) #[] #[.pointer (some ⟨bx,0,none⟩),.pointer (some ⟨cb,0,none⟩)])]
theorem Zw (ax:Nat)(w:World)(hax:ax<w.heap.size) :
  Calls Tryz.prog 137 #[.pointer (some ⟨ax,0,none⟩)] w λ e w'=>e = .returned (.map (some (w.heap.size+2))) /\
   w'.heap[w.heap.size]?=some (.cells #[.pointer (some ⟨ax,0,none⟩)] 96 (0,0)) /\
   w'.heap[w.heap.size+1]?=some (.cells #[.func (.func 161) #[] #[.pointer (some ⟨w.heap.size,0,none⟩)]] 185 (0,0)) /\
   ny encZ w' (w.heap.size+2) (Zv w.heap.size (w.heap.size+1))/\Below w.heap.size w w':=by
 have hmf:∀(fn:Fn) (first cap:Array Value) (w:World),(Instr.makeFunc fn first cap).run Tryz.prog w = .ok (.func fn first cap) w := λ _ _ _ _=>rfl;have hmm := @run_makeMap Tryz.prog
 go_enter Tryz.func137,Tryz.ntmps137
 go_upto_region 2 with(fail)
 refine aC λ U hU=>?_;have HB:=hid (show Below w.heap.size w U by rw[hU];go_grown);have HS:=hid (show U.heap.size=w.heap.size+2 by rw[hU];simp);have UR:=hid (show U.heap[w.heap.size]?=some (.cells #[.pointer (some ⟨ax,0,none⟩)] 96 (0,0))by rw[hU,aQ _ _ _ (by simp)];exact at_new _ _ _ rfl);have HP2:=hid (show U.heap[w.heap.size+1]?=some (.cells #[.func (.func 161) #[] #[.pointer (some ⟨w.heap.size,0,none⟩)]] 185 (0,0))by rw[hU];exact at_new _ _ _ (by simp));clear hU;obtain⟨mb,hmb⟩:∃mb,mb=U.heap.size:=⟨_,rfl⟩;have HMB:=hid hmb;have m0:=ny.new (enc:=encZ) U;rw[<-hmb]at m0;have HG0:=hid (show aH (λ b=>b=mb) U (U.alloc (.map #[] 0))from(aH.refl _ _).alloc _)
 obtain⟨V0,hV0⟩:∃V0,V0=U.alloc (.map #[] 0):=⟨_,rfl⟩;rw[<-hV0]at m0;obtain⟨V1,r1,m1,g1,_⟩:=bJ fM (T:=158) (E:=162) (by kernel_rfl) m0 1 (.func (.func 164) #[] #[.pointer (some ⟨(w.heap.size+1),0,none⟩)]) (by simp);obtain⟨V2,r2,m2,g2,_⟩:=bJ fM (T:=158) (E:=162) (by kernel_rfl) m1 2 (.func (.func 165) #[] #[.pointer (some ⟨(w.heap.size+1),0,none⟩)]) (by simp);obtain⟨V3,r3,m3,g3,_⟩:=bJ fM (T:=158) (E:=162) (by kernel_rfl) m2 3 (.func (.func 166) #[] #[.pointer (some ⟨w.heap.size,0,none⟩)]) (by simp);obtain⟨V4,r4,m4,g4,_⟩:=bJ fM (T:=158) (E:=162) (by kernel_rfl) m3 4 (.func (.func 169) #[] #[.pointer (some ⟨w.heap.size,0,none⟩)]) (by simp)
 obtain⟨V5,r5,m5,g5,_⟩:=bJ fM (T:=158) (E:=162) (by kernel_rfl) m4 5 (.func (.func 171) #[] #[.pointer (some ⟨w.heap.size,0,none⟩)]) (by simp);obtain⟨V6,r6,m6,g6,_⟩:=bJ fM (T:=158) (E:=162) (by kernel_rfl) m5 6 (.func (.func 174) #[] #[.pointer (some ⟨w.heap.size,0,none⟩)]) (by simp);obtain⟨V7,r7,m7,g7,_⟩:=bJ fM (T:=158) (E:=162) (by kernel_rfl) m6 7 (.func (.func 176) #[] #[.pointer (some ⟨w.heap.size,0,none⟩)]) (by simp);obtain⟨V8,r8,m8,g8,_⟩:=bJ fM (T:=158) (E:=162) (by kernel_rfl) m7 8 (.func (.func 178) #[] #[.pointer (some ⟨w.heap.size,0,none⟩)]) (by simp)
 obtain⟨V9,r9,m9,g9,_⟩:=bJ fM (T:=158) (E:=162) (by kernel_rfl) m8 9 (.func (.func 180) #[] #[.pointer (some ⟨w.heap.size,0,none⟩)]) (by simp);obtain⟨V10,r10,m10,g10,_⟩:=bJ fM (T:=158) (E:=162) (by kernel_rfl) m9 10 (.func (.func 182) #[] #[.pointer (some ⟨w.heap.size,0,none⟩)]) (by simp);obtain⟨V11,r11,m11,g11,_⟩:=bJ fM (T:=158) (E:=162) (by kernel_rfl) m10 11 (.func (.func 184) #[] #[.pointer (some ⟨w.heap.size,0,none⟩),.pointer (some ⟨(w.heap.size+1),0,none⟩)]) (by simp);obtain⟨V12,r12,m12,g12,_⟩:=bJ fM (T:=158) (E:=162) (by kernel_rfl) m11 12 (.func (.func 185) #[] #[.pointer (some ⟨w.heap.size,0,none⟩),.pointer (some ⟨(w.heap.size+1),0,none⟩)]) (by simp)
 obtain⟨V13,r13,m13,g13,_⟩:=bJ fM (T:=158) (E:=162) (by kernel_rfl) m12 13 (.func (.func 186) #[] #[.pointer (some ⟨w.heap.size,0,none⟩)]) (by simp);obtain⟨V14,r14,m14,g14,_⟩:=bJ fM (T:=158) (E:=162) (by kernel_rfl) m13 14 (.func (.func 189) #[] #[.pointer (some ⟨w.heap.size,0,none⟩)]) (by simp);obtain⟨V15,r15,m15,g15,_⟩:=bJ fM (T:=158) (E:=162) (by kernel_rfl) m14 15 (.func (.func 191) #[] #[.pointer (some ⟨w.heap.size,0,none⟩)]) (by simp);obtain⟨V16,r16,m16,g16,_⟩:=bJ fM (T:=158) (E:=162) (by kernel_rfl) m15 16 (.func (.func 193) #[] #[.pointer (some ⟨w.heap.size,0,none⟩)]) (by simp)
 obtain⟨V17,r17,m17,g17,_⟩:=bJ fM (T:=158) (E:=162) (by kernel_rfl) m16 17 (.func (.func 195) #[] #[.pointer (some ⟨w.heap.size,0,none⟩)]) (by simp);obtain⟨V18,r18,m18,g18,_⟩:=bJ fM (T:=158) (E:=162) (by kernel_rfl) m17 18 (.func (.func 197) #[] #[.pointer (some ⟨w.heap.size,0,none⟩),.pointer (some ⟨(w.heap.size+1),0,none⟩)]) (by simp);obtain⟨V19,r19,m19,g19,_⟩:=bJ fM (T:=158) (E:=162) (by kernel_rfl) m18 19 (.func (.func 198) #[] #[.pointer (some ⟨w.heap.size,0,none⟩),.pointer (some ⟨(w.heap.size+1),0,none⟩)]) (by simp);have HM:=hid m19
 have HG:=hid (show aH (λ b=>b=mb) U V19 from by
  have h0:aH (λ b=>b=mb) U V0:=by rw[hV0];exact HG0.out
  exact(((((((((((((((((((h0.grown g1 (λ k hk _=>by simpa using hk.symm)).grown g2 (λ k hk _=>by simpa using hk.symm)).grown g3 (λ k hk _=>by simpa using hk.symm)).grown g4 (λ k hk _=>by simpa using hk.symm)).grown g5 (λ k hk _=>by simpa using hk.symm)).grown g6 (λ k hk _=>by simpa using hk.symm)).grown g7 (λ k hk _=>by simpa using hk.symm)).grown g8 (λ k hk _=>by simpa using hk.symm)).grown g9 (λ k hk _=>by simpa using hk.symm)).grown g10 (λ k hk _=>by simpa using hk.symm)).grown g11 (λ k hk _=>by simpa using hk.symm)).grown g12 (λ k hk _=>by simpa using hk.symm)).grown g13 (λ k hk _=>by simpa using hk.symm)).grown g14 (λ k hk _=>by simpa using hk.symm)).grown g15 (λ k hk _=>by simpa using hk.symm)).grown g16 (λ k hk _=>by simpa using hk.symm)).grown g17 (λ k hk _=>by simpa using hk.symm)).grown g18 (λ k hk _=>by simpa using hk.symm)).grown g19 (λ k hk _=>by simpa using hk.symm)))
 clear m1 g1 m2 g2 m3 g3 m4 g4 m5 g5 m6 g6 m7 g7 m8 g8 m9 g9 m10 g10 m11 g11 m12 g12 m13 g13 m14 g14 m15 g15 m16 g16 m17 g17 m18 g18 m19 g19 m0;simp only[encZ]at r1 r2 r3 r4 r5 r6 r7 r8 r9 r10 r11 r12 r13 r14 r15 r16 r17 r18 r19;rw[hV0]at r1;rw[hmb]at r1 r2 r3 r4 r5 r6 r7 r8 r9 r10 r11 r12 r13 r14 r15 r16 r17 r18 r19;go_wp2_with fail
 go_ret
 have hbl:Below w.heap.size w V19:=HB.out.trans (HG.out.below (λ x hx=>by have:=HMB.out;have:=HS.out;omega) HB.out.size);have hm2:mb=w.heap.size+2:=by have:=HMB.out;have:=HS.out;omega
 exact⟨by rw[HS.out];rfl,HG.out.box UR.out (by omega),HG.out.box HP2.out (by omega),by rw[<-hm2];exact HM.out,hbl⟩
end Go.Proofs.YtdpbgcmfeajigaaGreatDoor
namespace Go.Proofs.YtdpbgcmfeajigaaGreatDoor
open Go.RowKit Go.Shelf
attribute [local go_sem] ak run_store_func Oper.semAt_some
def ZV (o:Int):Prop:=o=1\/o=2\/o=3\/o=4\/o=5\/o=6\/o=8\/o=9\/o=10\/o=15\/o=16\/o=17
structure J9 (l:List Sg) (f:Fm):Prop where
 op:ZV f.op
 few:f.args.length<=1000000
 sig:f.op=3->fK l f.name<l.length
 val:f.op=3->f.val<(l.getD (fK l f.name) default).size
 one:f.op=4\/f.op=8\/f.op=15->1<=f.args.length
 two:f.op=9\/f.op=10\/f.op=16\/f.op=17->2<=f.args.length
theorem TS (a b:Int):(a==b)=decide (a=b):=by rw[Bool.eq_iff_iff,beq_iff_eq,decide_eq_true_eq]
theorem Kz {D E:Dom}(fb fo:Nat)(f:Fm)(A Ar:Option Addr)(c m cr bx cb ax b:Nat)(l:List Sg)(W:iV)(rs:List (List Bool))(hn:J9 l f)(hrs:rs.length=f.args.length) :
  ∃fn caps,Un (Zv bx cb) f.op=some (.func (.func fn) #[] caps)/\(∀args w,(callFunc fn args).run Tryz.prog w = .ok (.enter fn args) w) /\
   ∀w,Env w (· < w.heap.size) bx cb ax l W b->dU w D fb fo f A c->m=rs.length->oQ w E Ar cr rs->(∀i,i<rs.length->(rs.getD i []).length=b+W.loop.length) ->
    Calls Tryz.prog fn (#[.pointer (some ⟨fb,fo,none⟩),.slice Ar m cr]++caps) w (lq w (b+W.loop.length) (OZ b W.loop.length (λ t=>iw l W t f.name f.val) f.op f.val rs)):=by
 rcases hn.op with e|e|e|e|e|e|e|e|e|e|e|e
 ·refine⟨164,#[.pointer (some ⟨cb,0,none⟩)],by rw[e];rfl,enters_of Tryz.func164 (by kernel_rfl) rfl,λ w he hf hm hr hal=>?_⟩
  rw[e];exact Zm _ Ar m cr bx cb ax b l W w he
 ·refine⟨165,#[.pointer (some ⟨cb,0,none⟩)],by rw[e];rfl,enters_of Tryz.func165 (by kernel_rfl) rfl,λ w he hf hm hr hal=>?_⟩
  rw[e];exact Zn _ Ar m cr bx cb ax b l W w he
 ·refine⟨166,#[.pointer (some ⟨bx,0,none⟩)],by rw[e];rfl,enters_of Tryz.func166 (by kernel_rfl) rfl,λ w he hf hm hr hal=>?_⟩
  rw[e];exact Zo (D:=D) fb fo f.name f.val Ar m cr bx cb ax b l W w he hf.c1 hf.c2 (hn.sig e)
 ·refine⟨169,#[.pointer (some ⟨bx,0,none⟩)],by rw[e];rfl,enters_of Tryz.func169 (by kernel_rfl) rfl,λ w he hf hm hr hal=>?_⟩
  rw[e];exact Zp _ Ar m cr bx cb ax b l W rs w he hm hr hal (by rw[hrs];exact hn.one (by omega))
 ·refine⟨171,#[.pointer (some ⟨bx,0,none⟩)],by rw[e];rfl,enters_of Tryz.func171 (by kernel_rfl) rfl,λ w he hf hm hr hal=>?_⟩
  rw[e];exact Zq _ Ar m cr bx cb ax b l W rs w he hm hr hal
 ·refine⟨174,#[.pointer (some ⟨bx,0,none⟩)],by rw[e];rfl,enters_of Tryz.func174 (by kernel_rfl) rfl,λ w he hf hm hr hal=>?_⟩
  rw[e];exact Zr _ Ar m cr bx cb ax b l W rs w he hm hr hal
 ·refine⟨178,#[.pointer (some ⟨bx,0,none⟩)],by rw[e];rfl,enters_of Tryz.func178 (by kernel_rfl) rfl,λ w he hf hm hr hal=>?_⟩
  rw[e];exact Zt _ Ar m cr bx cb ax b l W rs w he hm hr hal (by rw[hrs];exact hn.one (by omega))
 ·refine⟨180,#[.pointer (some ⟨bx,0,none⟩)],by rw[e];rfl,enters_of Tryz.func180 (by kernel_rfl) rfl,λ w he hf hm hr hal=>?_⟩
  rw[e];exact Zu _ Ar m cr bx cb ax b l W rs w he hm hr hal (by rw[hrs];exact hn.two (by omega))
 ·refine⟨182,#[.pointer (some ⟨bx,0,none⟩)],by rw[e];rfl,enters_of Tryz.func182 (by kernel_rfl) rfl,λ w he hf hm hr hal=>?_⟩
  rw[e];exact VQ _ Ar m cr bx cb ax b l W rs w he hm hr hal (by rw[hrs];exact hn.two (by omega))
 ·refine⟨191,#[.pointer (some ⟨bx,0,none⟩)],by rw[e];rfl,enters_of Tryz.func191 (by kernel_rfl) rfl,λ w he hf hm hr hal=>?_⟩
  rw[e];exact VR fb fo f.val Ar m cr bx cb ax b l W rs w he hm hr hal (by rw[hrs];exact hn.one (by omega)) hf.c2
 ·refine⟨193,#[.pointer (some ⟨bx,0,none⟩)],by rw[e];rfl,enters_of Tryz.func193 (by kernel_rfl) rfl,λ w he hf hm hr hal=>?_⟩
  have h:=VT fb fo f.val Ar m cr bx cb ax b l W rs w he hm hr hal (by rw[hrs];exact hn.two (by omega)) hf.c2;rw[TS]at h;rw[e];exact h
 ·refine⟨195,#[.pointer (some ⟨bx,0,none⟩)],by rw[e];rfl,enters_of Tryz.func195 (by kernel_rfl) rfl,λ w he hf hm hr hal=>?_⟩
  have h:=VU fb fo f.val Ar m cr bx cb ax b l W rs w he hm hr hal (by rw[hrs];exact hn.two (by omega)) hf.c2;rw[TS]at h;rw[e];exact h
end Go.Proofs.YtdpbgcmfeajigaaGreatDoor
namespace Go.Proofs.YtdpbgcmfeajigaaGreatDoor
open Go.RowKit Go.Shelf
attribute [local go_sem] ak run_store_func Oper.semAt_some
structure kQ (w:World) (rb n:Nat) (rs:List (List Bool)) (k:Nat):Prop where
 ex:∃sl:Nat->Option Addr×Nat,w.heap[rb]?=some (.cells ((List.range n).map λ j=>if j<k then Value.slice (sl j).1 (rs.getD j []).length (sl j).2 else .slice none 0 0).toArray 97 (0,0)) /\
  ∀j,j<k->RdB w (· ≠ rb) (sl j).1 (sl j).2 (rs.getD j [])
section
variable {w w':World}{rb n k:Nat}{rs:List (List Bool)}
theorem kQ.zero (h:w.heap[rb]?=some (He (.slice none 0 0) n 97)):kQ w rb n rs 0:=by
 refine⟨λ _=>(none,0),?_,λ j h=>absurd h (Nat.not_lt_zero _)⟩;rw[h];unfold He
 congr 2
 apply Array.ext_getElem?;intro j
 by_cases hj:j<n <;> simp[hj,Array.getElem?_replicate]
theorem kQ.lt (h:kQ w rb n rs k):rb<w.heap.size:=by obtain⟨sl,h1,_⟩:=h.ex;exact lt_of_block h1
theorem kQ.below (h:kQ w rb n rs k)(hb:Below w.heap.size w w'):kQ w' rb n rs k:=by
 obtain⟨sl,h1,h2⟩:=h.ex;exact⟨sl,(hb.block _ (lt_of_block h1)).trans h1,λ j hj=>((h2 j hj).mono (E := λ b=>b≠rb/\b<w.heap.size) λ b hb hl=>⟨hb,hl⟩).keep (Keeps.of_below hb λ _ h=>h.2) |>.mono λ b hb _=>hb.1⟩
theorem kQ.cell (h:kQ w rb n rs k)(hk:k<n):w.cell? ⟨rb,k,none⟩=some (.slice none 0 0)/\w.frozen? ⟨rb,k,none⟩=false:=by
 obtain⟨sl,h1,h2⟩:=h.ex;exact⟨aj h1 (i:=k) (by simp[hk]),aA h1⟩
theorem kQ.next (h:kQ w rb n rs k){A:Option Addr}{m c:Nat}(hm:m=(rs.getD k []).length)(hr:RdB w (· ≠ rb) A c (rs.getD k [])):kQ (w.setCell ⟨rb,k,none⟩ (.slice A m c)) rb n rs (k+1):=by
 subst hm;obtain⟨sl,h1,h2⟩:=h.ex;have hk:Keeps (· ≠ rb) w (w.setCell ⟨rb,k,none⟩ (.slice A (rs.getD k []).length c)):=⟨by simp,λ b hb _=>Below.heap_setCell _ _ _ _ hb⟩;refine⟨λ j=>if j=k then(A,c)else sl j,?_,λ j hj=>?_⟩
 ·rw[aB h1]
  congr 2
  apply Array.ext_getElem?;intro j;rw[Array.getElem?_setIfInBounds]
  by_cases hjn:j<n
  ·by_cases e:k=j
   ·subst e;simp[hjn]
   ·have:(j<k+1)=(j<k):=by apply propext;omega
    have e':¬j=k := λ h=>e h.symm;simp[hjn,e,e',this]
  ·by_cases e:k=j
   ·subst e;simp[hjn]
   ·simp[hjn,e]
 ·by_cases e:j=k
  ·subst e;simp only[if_true];exact hr.keep hk
  ·simp only[e,if_false];exact(h2 j (by omega)).keep hk
theorem kQ.full (h:kQ w rb n rs n)(hn:n=rs.length)(hl:n<=1000000):oQ w aW (some ⟨rb,0,none⟩) n rs:=by
 obtain⟨sl,h1,h2⟩:=h.ex;refine⟨_,by have:=zK (D:=aW) (n:=n) (size:=1) h1 trivial (by simp) (by omega);rw[<-hn];exact this,λ i hi=>⟨(sl i).1,(sl i).2,?_,(h2 i (by omega)).mono λ _ _ _=>trivial⟩⟩;simp[hn ▸ hi]
end
theorem WR:(Tryz.prog.info? 97).map (λ i=>(i.zero,i.size,i.bytes))=some (some (.slice none 0 0),1,24):=by kernel_rfl
theorem OM (n:Nat)(hn:n<=1000000)(w:World):(Instr.makeSlice 160 (.int .i64 (n:Int)) (.int .i64 (n:Int))).run Tryz.prog w = .ok (.slice (some ⟨w.heap.size,0,none⟩) n n) (w.alloc (He (.slice none 0 0) n 97)):=by
 obtain⟨i0,hti,hz0,hz1,hz2⟩:=info_parts WR;exact oN _ _ i0 _ 24 Tryz.underlying160 hti hz0 hz1 hz2 rfl .i64 .i64 n (by omega) (by omega) w
structure Fill (w:World) (fx tx mb bx cb ax:Nat) (l:List Sg) (W:iV) (b:Nat):Prop where
 env:Env w (· < w.heap.size) bx cb ax l W b
 qbk:w.heap[fx]?=some (.cells #[.func (.func 138) #[] #[.pointer (some ⟨fx,0,none⟩),.pointer (some ⟨tx,0,none⟩)]] 134 (0,0))
 qb6:w.heap[tx]?=some (.cells #[.map (some mb)] 158 (0,0))
 map:ny encZ w mb (Zv bx cb)
theorem Fill.below {w w':World}{fx tx mb bx cb ax b:Nat}{l:List Sg}{W:iV}(h:Fill w fx tx mb bx cb ax l W b)(hb:Below w.heap.size w w'):Fill w' fx tx mb bx cb ax l W b :=
 ⟨h.env.below hb,(hb.block _ (lt_of_block h.qbk)).trans h.qbk,(hb.block _ (lt_of_block h.qb6)).trans h.qb6,h.map.of_block (hb.block _ h.map.lt)⟩
def qca (l:List Sg)(f:Fm):Prop:=∀(D:Dom) (fx tx mb bx cb ax b fb fo:Nat) (W:iV) (A:Option Addr) (c:Nat) (w:World),Fill w fx tx mb bx cb ax l W b->dU w D fb fo f A c ->
 Calls Tryz.prog 138 #[.pointer (some ⟨fb,fo,none⟩),.pointer (some ⟨fx,0,none⟩),.pointer (some ⟨tx,0,none⟩)] w (lq w (b+W.loop.length) (rC b W.loop.length (iw l W) f))
theorem ZW {b L:Nat}{sg:Nat->ByteArray->Int->Bool}{f:Fm}(h:ZV f.op):(rC b L sg f).length=b+L:=by
 rw[Lm]
 rcases h with e|e|e|e|e|e|e|e|e|e|e|e <;> rw[e] <;> first|exact lg _ _|exact jM _ _ _ _ _|exact nM _ _ _ _ _
inductive wC (l:List Sg):Fm->Prop
 | mk {f:Fm} (h:J9 l f) (ha:∀g,g∈f.args->wC l g):wC l f
theorem wC.node {l:List Sg}{f:Fm}(h:wC l f):J9 l f:=by cases h;assumption
theorem wC.arg {l:List Sg}{f g:Fm}(h:wC l f)(hg:g∈f.args):wC l g:=by cases h with|mk _ ha=>exact ha g hg
theorem YC (l:List Sg)(f:Fm)(hf:wC l f):qca l f:=by
 refine Fm.pW (P := λ f=>wC l f->qca l f) ?_ f hf;clear hf f;intro f ih hf D fx tx mb bx cb ax b fb fo W A c w hfl hF;have wH:=hid hfl;have HF:=hid hF;have hal:=hF.args.len.1;obtain⟨_,q1,p0,_,_,_,p4,_⟩:=hF;obtain⟨N,hN⟩:∃N,N=f.args.length:=⟨_,rfl⟩;rw[<-hN]at p4 hal;have HN:=hid hN;have HIH:=hid λ g (hg:g∈f.args)=>ih g hg (hf.arg hg);have TJ:=hid hf.node
 have HRS:=hid (show∀i,i<(f.args.map (rC b W.loop.length (iw l W))).length->((f.args.map (rC b W.loop.length (iw l W))).getD i []).length=b+W.loop.length from λ i hi=>by
  rw[List.length_map]at hi;rw[qP _ _ _ _ hi]
  exact ZW (hf.arg (dA hi)).node.op)
 obtain⟨rs,hrs⟩:∃rs,rs=f.args.map (rC b W.loop.length (iw l W)):=⟨_,rfl⟩;have qaT:=hid (show rs.length=N by rw[hrs,List.length_map,hN]);have HRSE:=hid hrs;rw[<-hrs]at HRS;have wu:=hid (show rC b W.loop.length (iw l W) f=OZ b W.loop.length (λ t=>iw l W t f.name f.val) f.op f.val rs by rw[Lm,hrs]);rw[wu.out];have hmk:=OM N (by rw[hN];exact hf.node.few);have HFEW:=hid (show N<=1000000 by rw[hN];exact hf.node.few);clear hfl hf ih hN hrs
 go_enter Tryz.func138,Tryz.ntmps138
 go_upto_region 2 with(fail)
 refine aC λ U hU=>?_;have HB:=hid (show Below w.heap.size w U by rw[hU];go_grown);have HR:=hid (show kQ U w.heap.size N rs 0 from kQ.zero (by rw[hU];exact at_new _ _ _ rfl));have u4:=(HB.out.cell (p:=⟨fb,fo+4,none⟩) q1).trans p4;have u5:fb<U.heap.size:=Nat.lt_of_lt_of_le q1 HB.out.size;clear hU hmk;go_wp2_with fail
 go_loopw [18] (λ r wr=>∃k:Nat,k<=N/\r = .int .i64 (k:Int)/\kQ wr w.heap.size N rs k/\Below w.heap.size w wr) (λ r _=>N-(intOf r).toNat)
 case atStart=>exact⟨0,Nat.zero_le _,rfl,HR.out,HB.out⟩
 case round =>
  obtain⟨k,hk,rfl,hr,hbl⟩:=hrel;have HRR:=hid hr;have bH:=hid hbl;clear hr hbl u4 u5 HR HB U
  by_cases hlt:k<N
  ·have hii:(k:Int)<(N:Int):=by omega
   have hi0:(0:Int)<=(k:Int):=by omega
   have hlf:k<f.args.length:=by rw[<-HN.out];exact hlt
   obtain⟨b1,o1,A',c',g,rfl,HX,hg⟩:=(HF.out.old.keep (Keeps.of_below bH.out λ _ h=>h)).args.get hlf;have HG:=hid hg;have HGR:=hid (show rs.getD k []=rC b W.loop.length (iw l W) g by rw[HRSE.out,qP _ _ _ _ hlf,HX.out]);have HGL:=hid (HRS.out k (by rw[qaT.out];exact hlt))
   have HC:Hid (∀W':World,Below wr.heap.size wr W'->Calls Tryz.prog 138 #[.pointer (some ⟨b1,o1+k*5,none⟩),.pointer (some ⟨fx,0,none⟩),.pointer (some ⟨tx,0,none⟩)] W' λ e w2=>∃A c,e = .returned (.slice A (b+W.loop.length) c)/\RdB w2 (· ≠ w.heap.size) A c (rs.getD k [])/\Below wr.heap.size wr w2):=hid λ W' hb=>by
    have h1:=(wH.out.below bH.out).below hb;have h2:=hg.keep (w':=W') (Keeps.of_below hb λ _ h=>Nat.lt_of_lt_of_le h bH.out.size);refine(HIH.out g (by rw[<-HX.out];exact dA hlf) _ fx tx mb bx cb ax b b1 (o1+k*5) W A' c' W' h1 h2).mono ?_;rintro e w2 ⟨A2,c2,rfl,h3,h4,h5⟩;rw[HGR.out];exact⟨A2,c2,rfl,h3.mono λ j hj _ e=>by have:=HRR.out.lt;have:=hb.size;omega,au hb h5⟩
   have aI:Hid (∀W':World,Below w.heap.size w W'->W'.cell? ⟨fx,0,none⟩=some (.func (.func 138) #[] #[.pointer (some ⟨fx,0,none⟩),.pointer (some ⟨tx,0,none⟩)])/\W'.cell? ⟨fb,fo+4,none⟩=some (.slice (some ⟨b1,o1,none⟩) N c)):=hid λ W' hbw =>
    ⟨aj ((hbw.block _ (lt_of_block wH.out.qbk)).trans wH.out.qbk) (i:=0) rfl,(hbw.cell (p:=⟨fb,fo+4,none⟩) q1).trans p4⟩
   have hkk:(k:Int)<(N:Int):=hii;have HI1:=hid (show Below wr.heap.size wr wr.drew from(Below.refl _ _).drew);have HI2:=hid (show∀i,Below wr.heap.size wr (wr.drewN i)from λ i=>(aU.n wr i).below _);obtain⟨s0,s1⟩:=aI.out wr bH.out;have s2:fx<wr.heap.size:=World.block_lt_of_cell? _ _ s0;have s3:fb<wr.heap.size:=World.block_lt_of_cell? _ _ s1;clear HX hg p0 q1;go_upto_region 5 with(fail)
   go_region_held3 (λ W':World=>W'.cell? ⟨fx,0,none⟩=some (.func (.func 138) #[] #[.pointer (some ⟨fx,0,none⟩),.pointer (some ⟨tx,0,none⟩)])/\W'.cell? ⟨fb,fo+4,none⟩=some (.slice (some ⟨b1,o1,none⟩) N c))
    (first|exact aI.out _ (bH.out.trans (hI.mono bH.out.size))|exact aI.out _ ((bH.out.trans (hI.mono bH.out.size)).setCell (Nat.le_refl _) _)|(go_keep;done))
    ((go_at_call 138;(with_reducible refine(HC.out _ (by first|exact HI1.out|exact HI2.out _)).mono ?_);rintro e V ⟨A2,c2,rfl,hr2,hI⟩;have HR2:=hid hr2;have LX:=hid (HRR.out.below hI);have v1:=(LX.out.cell hlt).1;have v2:=(LX.out.cell hlt).2;have v3:=LX.out.lt;clear hr2))
   all_goals
    have HIV:=hid hI;clear hI;go_wp2_with fail
    go_roundw
    case rel=>exact⟨k+1,by omega,by go_num,LX.out.next HGL.out.symm HR2.out,(bH.out.trans (HIV.out.mono bH.out.size)).setCell (Nat.le_refl _) _⟩
    case measure=>simp[intOf];omega
  ·have hii:¬(k:Int)<(N:Int):=by omega
   have hkn:k=N:=by omega
   subst hkn;obtain⟨fn,caps,hlk,eg,hcall⟩:=Kz (D:=(· < w.heap.size)) (E:=aW) fb fo f A (some ⟨w.heap.size,0,none⟩) c k k bx cb ax b l W rs TJ.out (by rw[qaT.out];exact HN.out)
   have HLK:Hid (∀W':World,Below w.heap.size w W'->(Instr.lookup 158 (.map (some mb)) (.int .i64 f.op) false).run Tryz.prog W' = .ok (.func (.func fn) #[] caps) W'):=hid λ W' hb=>by
    have h:=Lr fM (T:=158) (E:=162) (P:=Tryz.prog) (z := .nilFunc) (w:=W') (by kernel_rfl) (by kernel_rfl) (wH.out.map.of_block (hb.block _ wH.out.map.lt)) f.op false;rw[hlk]at h;exact h
   have HC:Hid (∀W':World,Below wr.heap.size wr W'->Calls Tryz.prog fn (#[.pointer (some ⟨fb,fo,none⟩),.slice (some ⟨w.heap.size,0,none⟩) k k]++caps) W' λ e w2=>lq w (b+W.loop.length) (OZ b W.loop.length (λ t=>iw l W t f.name f.val) f.op f.val rs) e w2/\Below wr.heap.size wr w2):=hid λ W' hb=>by
    have hbw:=bH.out.trans (hb.mono bH.out.size);refine(hcall W' (wH.out.env.below hbw) (HF.out.old.keep (Keeps.of_below hbw λ _ h=>h)) qaT.out.symm ((HRR.out.below hb).full qaT.out.symm HFEW.out) HRS.out).mono ?_;rintro e w2 h;refine⟨h.of_below hbw,?_⟩;obtain⟨_,_,_,_,_,h4⟩:=h;exact au hb h4
   have aI:Hid (∀W':World,Below w.heap.size w W'->W'.cell? ⟨tx,0,none⟩=some (.map (some mb))/\W'.cell? ⟨fb,fo,none⟩=some (.int .i64 f.op)/\(Instr.lookup 158 (.map (some mb)) (.int .i64 f.op) false).run Tryz.prog W' = .ok (.func (.func fn) #[] caps) W'):=hid λ W' hbw =>
    ⟨aj ((hbw.block _ (lt_of_block wH.out.qb6)).trans wH.out.qb6) (i:=0) rfl,(hbw.cell (p:=⟨fb,fo,none⟩) q1).trans p0,HLK.out W' hbw⟩
   have HI1:=hid (show Below wr.heap.size wr wr.drew from(Below.refl _ _).drew);have HI2:=hid (show∀i,Below wr.heap.size wr (wr.drewN i)from λ i=>(aU.n wr i).below _);obtain⟨s0,s1,s4⟩:=aI.out wr bH.out;have s2:tx<wr.heap.size:=World.block_lt_of_cell? _ _ s0;have s3:fb<wr.heap.size:=World.block_lt_of_cell? _ _ s1;clear hlk hcall p0 q1 p4;go_upto_region 7 with(fail)
   go_region_held3 (λ W':World=>W'.cell? ⟨tx,0,none⟩=some (.map (some mb))/\W'.cell? ⟨fb,fo,none⟩=some (.int .i64 f.op)/\(Instr.lookup 158 (.map (some mb)) (.int .i64 f.op) false).run Tryz.prog W' = .ok (.func (.func fn) #[] caps) W')
    (first|exact aI.out _ (bH.out.trans (hI.mono bH.out.size))|exact aI.out _ (bH.out.trans HI1.out)|exact aI.out _ (bH.out.trans ((HI2.out _).mono bH.out.size))|(go_keep;done))
    (((with_reducible refine(HC.out _ (by first|exact HI1.out|exact HI2.out _)).mono ?_);rintro e V ⟨⟨A2,c2,rfl,hr2,hl2,hb2⟩,hI⟩;have HR2:=hid hr2;have HL2:=hid hl2;have HB2:=hid hb2;clear hr2 hl2 hb2))
   all_goals
    go_wp2_with fail
    go_ret
    exact⟨A2,c2,rfl,HR2.out,HL2.out,HB2.out⟩
end Go.Proofs.YtdpbgcmfeajigaaGreatDoor
namespace Go.Proofs.YtdpbgcmfeajigaaGreatDoor
open Go.RowKit Go.Shelf
attribute [local go_sem] ak run_store_func Oper.semAt_some
structure jH (w:World) (D:Dom) (ax:Nat) (l:List Sg) (W:iV) (b:Nat):Prop where
 dax:D ax
 hL:0<W.loop.length
 hn:b+W.loop.length<=100000
 hs:W.stem.length<=b
 axis:∃yP yX Av cv vals,Ql w ax yP l.length yX Av vals.length cv W.stem.length b (b+W.loop.length)/\ng w D yP yX l/\BN w D Av cv vals/\vals.length=W.stem.length+W.loop.length /\
  ∀t,t<W.stem.length+W.loop.length->(vals.getD t []).length=l.length/\∀i,i<l.length->(vals.getD t []).getD i 0=gy l (aP W t) i
section
variable {w w':World}{D E:Dom}{ax b:Nat}{l:List Sg}{W:iV}
theorem jH.keep (h:jH w D ax l W b)(hk:Keeps D w w'):jH w' D ax l W b:=by
 obtain⟨yP,yX,Av,cv,vals,h1,h2,h3,h4,h5⟩:=h.axis;exact⟨h.dax,h.hL,h.hn,h.hs,yP,yX,Av,cv,vals,(hk.block _ h.dax (lt_of_block h1)).trans h1,h2.keepD hk,h3.keep hk,h4,h5⟩
theorem jH.mono (h:jH w D ax l W b)(hE:∀b,D b->b<w.heap.size->E b):jH w E ax l W b:=by
 obtain⟨yP,yX,Av,cv,vals,h1,h2,h3,h4,h5⟩:=h.axis;exact⟨hE _ h.dax (lt_of_block h1),h.hL,h.hn,h.hs,yP,yX,Av,cv,vals,h1,Rd.mono h2 hE,h3.mono hE,h4,h5⟩
theorem jH.old (h:jH w D ax l W b):jH w (· < w.heap.size) ax l W b:=h.mono λ _ _ h=>h
theorem jH.below (h:jH w D ax l W b)(hb:Below w.heap.size w w'):jH w' (· < w.heap.size) ax l W b:=h.old.keep (Keeps.of_below hb λ _ h=>h)
theorem jH.lt (h:jH w D ax l W b):ax<w.heap.size:=by obtain⟨yP,yX,Av,cv,vals,h1,_⟩:=h.axis;exact lt_of_block h1
theorem jH.cells (h:jH w D ax l W b):w.cell? ⟨ax,3,none⟩=some (.int .i64 (b:Int))/\w.cell? ⟨ax,4,none⟩=some (.int .i64 ((b+W.loop.length:Nat):Int)):=by
 obtain⟨yP,yX,Av,cv,vals,h1,h2,h3,h4,h5⟩:=h.axis;exact⟨aj h1 (i:=3) rfl,aj h1 (i:=4) rfl⟩
end
theorem qbZ {D E:Dom}(ax b fb fo:Nat)(l:List Sg)(W:iV)(f:Fm)(A:Option Addr)(c:Nat)(w:World)(ha:jH w E ax l W b)(hF:dU w D fb fo f A c)(hf:wC l f) :
  Calls Tryz.prog 107 #[.pointer (some ⟨ax,0,none⟩),.pointer (some ⟨fb,fo,none⟩)] w (lq w (b+W.loop.length) (rC b W.loop.length (iw l W) f)):=by
 have hmf:∀(fn:Fn) (first cap:Array Value) (w:World),(Instr.makeFunc fn first cap).run Tryz.prog w = .ok (.func fn first cap) w := λ _ _ _ _=>rfl;have HA:=hid ha;have HF:=hid hF;have J5:=hid hf;have dX:=hid ha.lt;clear ha hF hf
 go_enter Tryz.func107,Tryz.ntmps107
 go_upto_region 2 with(go_at_call 137;refine(Zw ax w dX.out).mono ?_;rintro e V ⟨rfl,h1,h2,h3,hb⟩;have H1:=hid h1;have H2:=hid h2;have H3:=hid h3;have HB:=hid hb;clear h1 h2 h3 hb)
 refine aC λ V1 hV1=>?_;have hb1:Below V.heap.size V V1:=by rw[hV1];go_grown
 obtain⟨tx,htx⟩:∃tx,tx=V.heap.size:=⟨_,rfl⟩;have HT:=hid (show V1.heap[tx]?=some (.cells #[.map (some (w.heap.size+2))] 158 (0,0))by rw[hV1];exact at_new _ _ _ htx);have HS1:=hid (show V1.heap.size=tx+1 by rw[hV1,htx];simp);have HB1:=hid hb1;have HTX:=hid htx;rw[<-htx];clear hV1 hb1 htx;go_upto_region 4 with(fail)
 refine aC λ V2 hV2=>?_;have hb2:Below V1.heap.size V1 V2:=by rw[hV2];go_grown
 obtain⟨fx,hfx⟩:∃fx,fx=V1.heap.size:=⟨_,rfl⟩
 have HX:=hid (show V2.heap[fx]?=some (.cells #[.func (.func 138) #[] #[.pointer (some ⟨fx,0,none⟩),.pointer (some ⟨tx,0,none⟩)]] 134 (0,0))by
  rw[hV2,hfx]
  first|(exact at_new _ _ _ rfl)|(rw[aB (at_new _ _ _ rfl)];rfl))
 have HB2:=hid hb2;rw[<-hfx];clear hV2 hb2 hfx;have aT:=hid (au HB.out (au HB1.out HB2.out))
 have qe6:=hid (show Fill V2 fx tx (w.heap.size+2) w.heap.size (w.heap.size+1) ax l W b from by
  have k1:=au HB1.out HB2.out;have h:=HA.out.below aT.out;have hsz:=aT.out.size;have b1:=(k1.block _ (lt_of_block H1.out)).trans H1.out;have b2:=(k1.block _ (lt_of_block H2.out)).trans H2.out;obtain⟨yP,yX,Av,cv,vals,h1,h2,h3,h4,h5⟩:=h.axis
  exact⟨⟨b1,b2,lt_of_block b1,lt_of_block b2,Nat.lt_of_lt_of_le h.dax hsz,h.hL,h.hn,h.hs,yP,yX,Av,cv,vals,h1,Rd.mono h2 (λ _ h _=>Nat.lt_of_lt_of_le h hsz),h3.mono (λ _ h _=>Nat.lt_of_lt_of_le h hsz),h4,h5⟩,
   HX.out,(HB2.out.block _ (lt_of_block HT.out)).trans HT.out,H3.out.of_block (k1.block _ H3.out.lt)⟩)
 have x0:=aj HX.out (i:=0) rfl;have x1:=lt_of_block HX.out;have aX:=hid (YC l f J5.out _ fx tx (w.heap.size+2) w.heap.size (w.heap.size+1) ax b fb fo W A c V2 qe6.out (HF.out.old.keep (Keeps.of_below aT.out λ _ h=>h)));go_wp2_with (go_at_call 138;refine aX.out.mono ?_;rintro e V3 ⟨A2,c2,rfl,h1,h2,h3⟩;have HR:=hid h1;have HL:=hid h2;have HB3:=hid h3;clear h1 h2 h3)
 go_ret
 exact⟨A2,c2,rfl,HR.out.mono λ k hk _=>Nat.le_trans aT.out.size hk,HL.out,au aT.out HB3.out⟩
end Go.Proofs.YtdpbgcmfeajigaaGreatDoor
namespace Go.Proofs.YtdpbgcmfeajigaaGreatDoor
open Go.RowKit Go.Shelf
attribute [local go_sem] ak run_store_func Oper.semAt_some
def Yb (l:List Sg)(f:Fm):Prop:=∀(D E:Dom) (AS:Option Addr) (cS n fb fo:Nat) (A:Option Addr) (c:Nat) (w:World),n=l.length->ng w E AS cS l->dU w D fb fo f A c ->
 Calls Tryz.prog 134 #[.slice AS n cS,.pointer (some ⟨fb,fo,none⟩)] w λ e w'=>e = .returned (.bool true)/\Below w.heap.size w w'
theorem VP (l:List Sg)(f:Fm)(hf:wC l f):Yb l f:=by
 refine Fm.pW (P := λ f=>wC l f->Yb l f) ?_ f hf;clear hf f;intro f ih hf D E AS cS n fb fo A c w hn hG hF;subst hn;have HG:=hid hG;have HF:=hid hF;have hsl:=hG.len.1;have hal:=hF.args.len.1;obtain⟨_,q1,p0,p1,p2,_,p4,_⟩:=hF;obtain⟨N,hN⟩:∃N,N=f.args.length:=⟨_,rfl⟩;rw[<-hN]at p4 hal;have HN:=hid hN;have HIH:=hid λ g (hg:g∈f.args)=>ih g hg (hf.arg hg);have TJ:=hid hf.node;clear hf ih hN
 by_cases e3:f.op=3
 ·have d1:(f.op==3)=true:=by rw[e3];rfl
  have HFN:=hid (TJ.out.sig e3);have HVN:=hid (TJ.out.val e3);have hz:iO l f.name=((fK l f.name:Nat):Int):=by unfold iO;rw[if_pos HFN.out]
  obtain⟨i,hi⟩:∃i,fK l f.name=i:=⟨_,rfl⟩;rw[hi]at hz HFN HVN;obtain⟨bg,og,s,rfl,Uk,HX,g0,g1,g2⟩:=hG.get HFN.out;have hv:¬s.size<=f.val:=by have:=HVN.out;rw[HX.out]at this;omega
  have ds:decide (s.size<=f.val)=false:=decide_eq_false hv;have di:decide ((i:Int)<0)=false:=decide_eq_false (by omega);have di2:¬(i:Int)<0:=by omega
  have hil:(i:Int)<(l.length:Int):=by have:=HFN.out;omega
  have hi0:(0:Int)<=(i:Int):=by omega
  have HC:=hid ((uH l f.name (some ⟨bg,og,none⟩) cS l.length w rfl (HG.out.any (Below.refl _ _))).mono λ e w2 h2=>(show e = .returned (.int .i64 (i:Int))/\Below w.heap.size w w2 from⟨by rw[h2.1,hz],h2.2⟩));clear hG hz hi HX
  go_enter Tryz.func134,Tryz.ntmps134
  go_upto_region 3 with(go_at_call 103;(with_reducible refine HC.out.mono ?_);rintro e W2 ⟨rfl,hb2⟩;have k0:=(hb2.cell (p:=⟨bg,og+i*3+2,none⟩) Uk).trans g2;have k2:=(hb2.cell (p:=⟨fb,fo+2,none⟩) q1).trans p2;have k3:fb<W2.heap.size:=Nat.lt_of_lt_of_le q1 hb2.size;have k4:bg<W2.heap.size:=Nat.lt_of_lt_of_le Uk hb2.size;have HB2:=hid hb2;clear hb2)
  go_quiet (fail)
  go_upto_region 5 with(fail)
  refine aC λ U hU=>?_;have HB:=hid (show Below w.heap.size w U by rw[hU];exact below_drewN HB2.out _);clear hU k0 k2 k3 k4 g0 g1 g2;have y4:=(HB.out.cell (p:=⟨fb,fo+4,none⟩) q1).trans p4;have y5:fb<U.heap.size:=Nat.lt_of_lt_of_le q1 HB.out.size;go_wp2_with fail
  go_loopw [37] (λ r wr=>∃k:Nat,k<=N/\r = .int .i64 (k:Int)/\Below w.heap.size w wr) (λ r _=>N-(intOf r).toNat)
  case atStart=>exact⟨0,Nat.zero_le _,rfl,HB.out⟩
  case round =>
   obtain⟨k,hk,rfl,hbl⟩:=hrel;have bH:=hid hbl;clear hbl y4 y5
   by_cases hlt:k<N
   ·have hii:(k:Int)<(N:Int):=by omega
    have hi0:(0:Int)<=(k:Int):=by omega
    have hlf:k<f.args.length:=by rw[<-HN.out];exact hlt
    obtain⟨b1,o1,A',c',g,rfl,HX,hg⟩:=(HF.out.old.keep (Keeps.of_below bH.out λ _ h=>h)).args.get hlf;have aX:=hid (HIH.out g (by rw[<-HX.out];exact dA hlf) _ aW _ cS l.length b1 (o1+k*5) A' c' wr rfl (HG.out.any bH.out) hg);have y4:=(bH.out.cell (p:=⟨fb,fo+4,none⟩) q1).trans p4;have y5:fb<wr.heap.size:=Nat.lt_of_lt_of_le q1 bH.out.size;clear HX hg;go_wp2_with (go_at_call 134;refine aX.out.mono ?_;rintro e W2 ⟨rfl,hb2⟩;have HB2:=hid hb2;clear hb2)
    go_roundw
    case rel=>exact⟨k+1,by omega,by go_num,au bH.out HB2.out⟩
    case measure=>simp[intOf];omega
   ·have hii:¬(k:Int)<(N:Int):=by omega
    go_wp2_with fail
    go_ret
    exact⟨rfl,bH.out⟩
 ·have d1:(f.op==3)=false:=cu e3
  clear hG
  go_enter Tryz.func134,Tryz.ntmps134
  go_upto_region 5 with(fail)
  refine aC λ U hU=>?_;have HB:=hid (show Below w.heap.size w U by rw[hU];go_grown);clear hU;have y4:=(HB.out.cell (p:=⟨fb,fo+4,none⟩) q1).trans p4;have y5:fb<U.heap.size:=Nat.lt_of_lt_of_le q1 HB.out.size;go_wp2_with fail
  go_loopw [37] (λ r wr=>∃k:Nat,k<=N/\r = .int .i64 (k:Int)/\Below w.heap.size w wr) (λ r _=>N-(intOf r).toNat)
  case atStart=>exact⟨0,Nat.zero_le _,rfl,HB.out⟩
  case round =>
   obtain⟨k,hk,rfl,hbl⟩:=hrel;have bH:=hid hbl;clear hbl y4 y5
   by_cases hlt:k<N
   ·have hii:(k:Int)<(N:Int):=by omega
    have hi0:(0:Int)<=(k:Int):=by omega
    have hlf:k<f.args.length:=by rw[<-HN.out];exact hlt
    obtain⟨b1,o1,A',c',g,rfl,HX,hg⟩:=(HF.out.old.keep (Keeps.of_below bH.out λ _ h=>h)).args.get hlf;have aX:=hid (HIH.out g (by rw[<-HX.out];exact dA hlf) _ aW _ cS l.length b1 (o1+k*5) A' c' wr rfl (HG.out.any bH.out) hg);have y4:=(bH.out.cell (p:=⟨fb,fo+4,none⟩) q1).trans p4;have y5:fb<wr.heap.size:=Nat.lt_of_lt_of_le q1 bH.out.size;clear HX hg;go_wp2_with (go_at_call 134;refine aX.out.mono ?_;rintro e W2 ⟨rfl,hb2⟩;have HB2:=hid hb2;clear hb2)
    go_roundw
    case rel=>exact⟨k+1,by omega,by go_num,au bH.out HB2.out⟩
    case measure=>simp[intOf];omega
   ·have hii:¬(k:Int)<(N:Int):=by omega
    go_wp2_with fail
    go_ret
    exact⟨rfl,bH.out⟩
end Go.Proofs.YtdpbgcmfeajigaaGreatDoor
