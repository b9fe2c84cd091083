/-
  Parts of a proof: QL R8.
-/
import Derived.Test.YtdpbgcmfeajigaaGreatDoorA34
import Derived.Test.YtdpbgcmfeajigaaGreatDoorA35
set_option linter.unusedSimpArgs false
set_option linter.unusedVariables false
set_option maxHeartbeats 8000000
set_option maxRecDepth 100000
namespace Go.Proofs.YtdpbgcmfeajigaaGreatDoor
open Go.RowKit Go.Shelf
attribute [local go_sem] ak run_store_func
def NG (l:List Sg)(f:Fm)(W:iV):Bool:=decide (f.size<=60)&&(fU f&&(DI l f&&(decide ((aZ f).length<=8)&&((decide (W.stem.length<=80)&&decide (W.loop.length<=80))&&iH (dh l) W))))
theorem YF {D E F:Dom}(l:List Sg)(AS:Option Addr)(cS n:Nat)(f:Fm)(v u:Value)(W:iV)(w:World)(hn:n=l.length)(hG:ng w E AS cS l)(hf:bI w D v f)(hW:yT w F u W)(r0:Bool)(hr0:NG l f W=r0) :
  Calls Tryz.prog 17 #[.slice AS n cS,v,u] w λ e w'=>e = .returned (.bool r0)/\Below w.heap.size w w':=by
 obtain⟨AF,cF,rfl,hfa⟩:=hf;obtain⟨As,cs,Al,cl,rfl,hs,hl⟩:=hW;have HN:=hid hn;have HG:=hid hG.old;have HF:=hid hfa.old;have HS:=hid hs.old;have HL:=hid hl.old;obtain⟨r1,hr1⟩:∃r,decide (f.size<=60)=r:=⟨_,rfl⟩;obtain⟨r2,hr2⟩:∃r,fU f=r:=⟨_,rfl⟩;obtain⟨r3,hr3⟩:∃r,DI l f=r:=⟨_,rfl⟩;obtain⟨m4,hm4⟩:∃m,(aZ f).length=m:=⟨_,rfl⟩;obtain⟨r4,hr4⟩:∃r,decide (m4<=8)=r:=⟨_,rfl⟩;obtain⟨r5,DN⟩:∃r,(decide (W.stem.length<=80)&&decide (W.loop.length<=80))=r:=⟨_,rfl⟩;obtain⟨r6,hr6⟩:∃r,iH (dh l) W=r:=⟨_,rfl⟩;obtain⟨lz,hlz⟩:∃z,dh l=z:=⟨_,rfl⟩;have HR0:=hid (show r0=(r1&&(r2&&(r3&&(r4&&(r5&&r6)))))by rw[<-hr0];unfold NG;rw[hr1,hr2,hr3,hm4,hr4,DN,hr6]);have H1:=hid hr1;have H2:=hid hr2;have H3:=hid hr3
 have HM4:=hid hm4;have h4:decide ((m4:Int)<=8)=r4:=by rw[<-hr4];exact decide_eq_decide.2 (by omega)
 have H4:=hid h4;have H5:=hid DN;have H6:=hid hr6;have UL:=hid hlz;have HRR1:=hid (show r1=true->f.size<=60 from λ h=>of_decide_eq_true (hr1.trans h));clear hn hG hfa hs hl hr0 hr1 hr2 hr3 hm4 hr4 DN hr6 hlz h4
 go_enter Tryz.func17,Tryz.ntmps17
 go_upto_region 1 with(fail)
 refine aC λ U hU=>?_;have HB:=hid (show Below w.heap.size w U by rw[hU];go_grown);have HO:=hid (show OB U w.heap.size f.op f.name f.val f.bound AF f.args.length cF by show U.heap[_]?=_;rw[hU,aQ _ _ _ (by simp)];exact at_new _ _ _ rfl);have HW:=hid (show gQ U (w.heap.size+1) W As cs Al cl by show U.heap[_]?=_;rw[hU];exact at_new _ _ _ (by simp));clear hU
 have HX:Hid (∀X:World,Below U.heap.size U X->bI X aW (.agg #[.int .i64 f.op,.string f.name,.int .i64 f.val,.int .i64 f.bound,.slice AF f.args.length cF]) f/\yT X aW (.agg #[.slice As W.stem.length cs,.slice Al W.loop.length cl]) W/\ng X aW AS cS l):=hid λ X hb =>
  ⟨⟨AF,cF,rfl,HF.out.any (au HB.out hb)⟩,⟨As,cs,Al,cl,rfl,HS.out.any (au HB.out hb),HL.out.any (au HB.out hb)⟩,HG.out.any (au HB.out hb)⟩
 have Mc:Hid (∀X,Below U.heap.size U X->Calls Tryz.prog 9 #[.agg #[.int .i64 f.op,.string f.name,.int .i64 f.val,.int .i64 f.bound,.slice AF f.args.length cF],.int .i64 60] X λ e w'=>e = .returned (.bool r1)/\Below U.heap.size U w'):=hid λ X hb=>by
  refine(OL (D:=aW) f _ 60 60 X rfl (HX.out X hb).1 (by omega) r1 H1.out).mono ?_;rintro e w' ⟨rfl,hb'⟩;exact⟨rfl,au hb hb'⟩
 have HC2:Hid (∀X,Below U.heap.size U X->Calls Tryz.prog 55 #[.agg #[.int .i64 f.op,.string f.name,.int .i64 f.val,.int .i64 f.bound,.slice AF f.args.length cF]] X λ e w'=>e = .returned (.bool r2)/\Below U.heap.size U w'):=hid λ X hb=>by
  refine(Lj (D:=aW) f _ X (HX.out X hb).1).mono ?_;rintro e w' ⟨rfl,hb'⟩;exact⟨by rw[H2.out],au hb hb'⟩
 have Dk:Hid (f.size<=60->∀X,Below U.heap.size U X->Calls Tryz.prog 56 #[.slice AS n cS,.agg #[.int .i64 f.op,.string f.name,.int .i64 f.val,.int .i64 f.bound,.slice AF f.args.length cF]] X λ e w'=>e = .returned (.bool r3)/\Below U.heap.size U w'):=hid λ hz X hb=>by
  refine(Vp l f (by omega) aW aW AS cS n _ X HN.out (HX.out X hb).2.2 (HX.out X hb).1).mono ?_;rintro e w' ⟨rfl,hb'⟩;exact⟨by rw[H3.out],au hb hb'⟩
 have zN:Hid (∀X,Below U.heap.size U X->Calls Tryz.prog 24 #[.agg #[.int .i64 f.op,.string f.name,.int .i64 f.val,.int .i64 f.bound,.slice AF f.args.length cF]] X λ e w'=>(∃A c,e = .returned (.slice A m4 c))/\Below U.heap.size U w'):=hid λ X hb=>by
  refine(OJ (D:=aW) f _ X (HX.out X hb).1).mono ?_;rintro e w' ⟨A,c,rfl,_,hb'⟩;rw[HM4.out];exact⟨⟨A,c,rfl⟩,au hb hb'⟩
 have HC5:Hid (∀X,Below U.heap.size U X->Calls Tryz.prog 57 #[.agg #[.slice As W.stem.length cs,.slice Al W.loop.length cl]] X λ e w'=>e = .returned (.bool r5)/\Below U.heap.size U w'):=hid λ X hb=>by
  refine(SX (D:=aW) W _ X (HX.out X hb).2.1).mono ?_;rintro e w' ⟨rfl,hb'⟩;exact⟨by rw[H5.out],au hb hb'⟩
 have HC6:Hid (∀X,Below U.heap.size U X->Calls Tryz.prog 26 #[.slice AS n cS] X λ e w'=>e = .returned (.int .i64 lz)/\Below U.heap.size U w'):=hid λ X hb=>by
  refine(Ih (D:=aW) l AS n cS X HN.out (HX.out X hb).2.2).mono ?_;rintro e w' ⟨rfl,hb'⟩;exact⟨by rw[UL.out],au hb hb'⟩
 have TF:Hid (∀X,Below U.heap.size U X->Calls Tryz.prog 58 #[.int .i64 lz,.agg #[.slice As W.stem.length cs,.slice Al W.loop.length cl]] X λ e w'=>e = .returned (.bool r6)/\Below U.heap.size U w'):=hid λ X hb=>by
  refine(OO (D:=aW) W lz _ X (HX.out X hb).2.1).mono ?_;rintro e w' ⟨rfl,hb'⟩;exact⟨by rw[<-UL.out,H6.out],au hb hb'⟩
 have aI:Hid (∀W':World,Below U.heap.size U W'->(λ W':World=>W'.cell? ⟨w.heap.size,0,none⟩=some (.int .i64 f.op)/\W'.cell? ⟨w.heap.size,1,none⟩=some (.string f.name)/\W'.cell? ⟨w.heap.size,2,none⟩=some (.int .i64 f.val)/\W'.cell? ⟨w.heap.size,3,none⟩=some (.int .i64 f.bound)/\W'.cell? ⟨w.heap.size,4,none⟩=some (.slice AF f.args.length cF)/\W'.cell? ⟨w.heap.size+1,0,none⟩=some (.slice As W.stem.length cs)/\W'.cell? ⟨w.heap.size+1,1,none⟩=some (.slice Al W.loop.length cl)) W'):=hid λ W' hb=>by
  obtain⟨a0,a1,a2,a3,a4,_⟩:=(HO.out.below hb).cells;obtain⟨b0,b1,_⟩:=(HW.out.below hb).cells;exact⟨a0,a1,a2,a3,a4,b0,b1⟩
 refine wp_region_held_drew (S := λ W':World=>W'.cell? ⟨w.heap.size,0,none⟩=some (.int .i64 f.op)/\W'.cell? ⟨w.heap.size,1,none⟩=some (.string f.name)/\W'.cell? ⟨w.heap.size,2,none⟩=some (.int .i64 f.val)/\W'.cell? ⟨w.heap.size,3,none⟩=some (.int .i64 f.bound)/\W'.cell? ⟨w.heap.size,4,none⟩=some (.slice AF f.args.length cF)/\W'.cell? ⟨w.heap.size+1,0,none⟩=some (.slice As W.stem.length cs)/\W'.cell? ⟨w.heap.size+1,1,none⟩=some (.slice Al W.loop.length cl)) (by kernel_rfl) (aI.out _ (Below.refl _ _).drew) (λ hHeld=>?_);have HV:=hid (show Below U.heap.size U U.drew from(Below.refl _ _).drew);refine dS 0 ?_ rfl (by kernel_rfl) (λ _ _ _ h=>h) ?_ (by assumption) ?_
 rotate_left
 ·intro w hSw;(try dsimp only at hSw);go_simp;(try(with_reducible rfl))
 try simp only[Act.put,bn,bC,bD]
 refine lK 1 (by kernel_rfl) rfl λ K hK=>?_
 go_simp
 (go_at_call 9;(with_reducible refine(Mc.out _ HV.out).mono ?_);rintro e V0 ⟨rfl,hb⟩;have HV:=hid hb;clear hb)
 go_wp2_with fail
 refine hK.out _ _ ?_ (λ hHeld=>?_)
 ·exact aI.out _ HV.out
 clear hK K
 try simp only[Act.put,bn,bC,bD]
 cases r1
 ·refine dS 2 ?_ rfl (by kernel_rfl) (λ _ _ _ h=>h) ?_ (by assumption) ?_
  rotate_left
  ·intro w hSw;(try dsimp only at hSw);go_simp;(try(with_reducible rfl))
  try simp only[Act.put,bn,bC,bD]
  refine kM 3 rfl (by kernel_rfl) (λ _ _ _ h=>h) (by assumption) ?_;refine kM 4 rfl (by kernel_rfl) (λ _ _ _ h=>h) (by assumption) ?_
  try simp only[Act.put,bn,bC,bD]
  refine dS 5 ?_ rfl (by kernel_rfl) (λ _ _ _ h=>h) ?_ (by assumption) ?_
  rotate_left
  ·intro w hSw;(try dsimp only at hSw);go_simp;(try(with_reducible rfl))
  try simp only[Act.put,bn,bC,bD]
  refine dS 6 ?_ rfl (by kernel_rfl) (λ _ _ _ h=>h) ?_ (by assumption) ?_
  rotate_left
  ·intro w hSw;(try dsimp only at hSw);go_simp;(try(with_reducible rfl))
  try simp only[Act.put,bn,bC,bD]
  refine kM 7 rfl (by kernel_rfl) (λ _ _ _ h=>h) (by assumption) ?_;refine kM 8 rfl (by kernel_rfl) (λ _ _ _ h=>h) (by assumption) ?_;refine kM 9 rfl (by kernel_rfl) (λ _ _ _ h=>h) (by assumption) ?_
  try simp only[Act.put,bn,bC,bD]
  refine dS 10 ?_ rfl (by kernel_rfl) (λ _ _ _ h=>h) ?_ (by assumption) ?_
  rotate_left
  ·intro w hSw;(try dsimp only at hSw);go_simp;(try(with_reducible rfl))
  try simp only[Act.put,bn,bC,bD]
  refine dS 11 ?_ rfl (by kernel_rfl) (λ _ _ _ h=>h) ?_ (by assumption) ?_
  rotate_left
  ·intro w hSw;(try dsimp only at hSw);go_simp;(try(with_reducible rfl))
  try simp only[Act.put,bn,bC,bD]
  refine kM 12 rfl (by kernel_rfl) (λ _ _ _ h=>h) (by assumption) ?_;refine kM 13 rfl (by kernel_rfl) (λ _ _ _ h=>h) (by assumption) ?_;refine kM 14 rfl (by kernel_rfl) (λ _ _ _ h=>h) (by assumption) ?_;refine kM 15 rfl (by kernel_rfl) (λ _ _ _ h=>h) (by assumption) ?_
  try simp only[Act.put,bn,bC,bD]
  refine dS 16 ?_ rfl (by kernel_rfl) (λ _ _ _ h=>h) ?_ (by assumption) ?_
  rotate_left
  ·intro w hSw;(try dsimp only at hSw);go_simp;(try(with_reducible rfl))
  try simp only[Act.put,bn,bC,bD]
  refine dS 17 ?_ rfl (by kernel_rfl) (λ _ _ _ h=>h) ?_ (by assumption) ?_
  rotate_left
  ·intro w hSw;(try dsimp only at hSw);go_simp;(try(with_reducible rfl))
  try simp only[Act.put,bn,bC,bD]
  refine kM 18 rfl (by kernel_rfl) (λ _ _ _ h=>h) (by assumption) ?_;refine kM 19 rfl (by kernel_rfl) (λ _ _ _ h=>h) (by assumption) ?_
  try simp only[Act.put,bn,bC,bD]
  refine dS 20 ?_ rfl (by kernel_rfl) (λ _ _ _ h=>h) ?_ (by assumption) ?_
  rotate_left
  ·intro w hSw;(try dsimp only at hSw);go_simp;(try(with_reducible rfl))
  try simp only[Act.put,bn,bC,bD]
  refine dS 21 ?_ rfl (by kernel_rfl) (λ _ _ _ h=>h) ?_ (by assumption) ?_
  rotate_left
  ·intro w hSw;(try dsimp only at hSw);go_simp;(try(with_reducible rfl))
  try simp only[Act.put,bn,bC,bD]
  refine kM 22 rfl (by kernel_rfl) (λ _ _ _ h=>h) (by assumption) ?_;refine kM 23 rfl (by kernel_rfl) (λ _ _ _ h=>h) (by assumption) ?_;refine kM 24 rfl (by kernel_rfl) (λ _ _ _ h=>h) (by assumption) ?_;refine kM 25 rfl (by kernel_rfl) (λ _ _ _ h=>h) (by assumption) ?_
  try simp only[Act.put,bn,bC,bD]
  refine lK 26 (by kernel_rfl) rfl λ K hK=>?_
  go_simp
  refine hK.out _ _ ?_ (λ hHeld=>?_)
  ·exact aI.out _ HV.out
  clear hK K
  try simp only[Act.put,bn,bC,bD]
  refine lK 27 (by kernel_rfl) rfl λ K hK=>?_
  go_simp
  refine hK.out _ _ ?_ (λ hHeld=>?_)
  ·exact aI.out _ HV.out
  clear hK K
  try simp only[Act.put,bn,bC,bD]
  refine wpAnyH_done (by kernel_rfl) ?_ _;go_wp2_with fail
  go_ret
  exact⟨by rw[show r0=false from HR0.out];rfl,au HB.out HV.out⟩
 ·refine dS 2 ?_ rfl (by kernel_rfl) (λ _ _ _ h=>h) ?_ (by assumption) ?_
  rotate_left
  ·intro w hSw;(try dsimp only at hSw);go_simp;(try(with_reducible rfl))
  try simp only[Act.put,bn,bC,bD]
  refine dS 3 ?_ rfl (by kernel_rfl) (λ _ _ _ h=>h) ?_ (by assumption) ?_
  rotate_left
  ·intro w hSw;(try dsimp only at hSw);go_simp;(try(with_reducible rfl))
  try simp only[Act.put,bn,bC,bD]
  refine lK 4 (by kernel_rfl) rfl λ K hK=>?_
  go_simp
  (go_at_call 55;(with_reducible refine(HC2.out _ HV.out).mono ?_);rintro e V1 ⟨rfl,hb⟩;have HV:=hid hb;clear hb)
  go_wp2_with fail
  refine hK.out _ _ ?_ (λ hHeld=>?_)
  ·exact aI.out _ HV.out
  clear hK K
  try simp only[Act.put,bn,bC,bD]
  cases r2
  ·refine dS 5 ?_ rfl (by kernel_rfl) (λ _ _ _ h=>h) ?_ (by assumption) ?_
   rotate_left
   ·intro w hSw;(try dsimp only at hSw);go_simp;(try(with_reducible rfl))
   try simp only[Act.put,bn,bC,bD]
   refine dS 6 ?_ rfl (by kernel_rfl) (λ _ _ _ h=>h) ?_ (by assumption) ?_
   rotate_left
   ·intro w hSw;(try dsimp only at hSw);go_simp;(try(with_reducible rfl))
   try simp only[Act.put,bn,bC,bD]
   refine kM 7 rfl (by kernel_rfl) (λ _ _ _ h=>h) (by assumption) ?_;refine kM 8 rfl (by kernel_rfl) (λ _ _ _ h=>h) (by assumption) ?_;refine kM 9 rfl (by kernel_rfl) (λ _ _ _ h=>h) (by assumption) ?_
   try simp only[Act.put,bn,bC,bD]
   refine dS 10 ?_ rfl (by kernel_rfl) (λ _ _ _ h=>h) ?_ (by assumption) ?_
   rotate_left
   ·intro w hSw;(try dsimp only at hSw);go_simp;(try(with_reducible rfl))
   try simp only[Act.put,bn,bC,bD]
   refine dS 11 ?_ rfl (by kernel_rfl) (λ _ _ _ h=>h) ?_ (by assumption) ?_
   rotate_left
   ·intro w hSw;(try dsimp only at hSw);go_simp;(try(with_reducible rfl))
   try simp only[Act.put,bn,bC,bD]
   refine kM 12 rfl (by kernel_rfl) (λ _ _ _ h=>h) (by assumption) ?_;refine kM 13 rfl (by kernel_rfl) (λ _ _ _ h=>h) (by assumption) ?_;refine kM 14 rfl (by kernel_rfl) (λ _ _ _ h=>h) (by assumption) ?_;refine kM 15 rfl (by kernel_rfl) (λ _ _ _ h=>h) (by assumption) ?_
   try simp only[Act.put,bn,bC,bD]
   refine dS 16 ?_ rfl (by kernel_rfl) (λ _ _ _ h=>h) ?_ (by assumption) ?_
   rotate_left
   ·intro w hSw;(try dsimp only at hSw);go_simp;(try(with_reducible rfl))
   try simp only[Act.put,bn,bC,bD]
   refine dS 17 ?_ rfl (by kernel_rfl) (λ _ _ _ h=>h) ?_ (by assumption) ?_
   rotate_left
   ·intro w hSw;(try dsimp only at hSw);go_simp;(try(with_reducible rfl))
   try simp only[Act.put,bn,bC,bD]
   refine kM 18 rfl (by kernel_rfl) (λ _ _ _ h=>h) (by assumption) ?_;refine kM 19 rfl (by kernel_rfl) (λ _ _ _ h=>h) (by assumption) ?_
   try simp only[Act.put,bn,bC,bD]
   refine dS 20 ?_ rfl (by kernel_rfl) (λ _ _ _ h=>h) ?_ (by assumption) ?_
   rotate_left
   ·intro w hSw;(try dsimp only at hSw);go_simp;(try(with_reducible rfl))
   try simp only[Act.put,bn,bC,bD]
   refine dS 21 ?_ rfl (by kernel_rfl) (λ _ _ _ h=>h) ?_ (by assumption) ?_
   rotate_left
   ·intro w hSw;(try dsimp only at hSw);go_simp;(try(with_reducible rfl))
   try simp only[Act.put,bn,bC,bD]
   refine kM 22 rfl (by kernel_rfl) (λ _ _ _ h=>h) (by assumption) ?_;refine kM 23 rfl (by kernel_rfl) (λ _ _ _ h=>h) (by assumption) ?_;refine kM 24 rfl (by kernel_rfl) (λ _ _ _ h=>h) (by assumption) ?_;refine kM 25 rfl (by kernel_rfl) (λ _ _ _ h=>h) (by assumption) ?_
   try simp only[Act.put,bn,bC,bD]
   refine lK 26 (by kernel_rfl) rfl λ K hK=>?_
   go_simp
   refine hK.out _ _ ?_ (λ hHeld=>?_)
   ·exact aI.out _ HV.out
   clear hK K
   try simp only[Act.put,bn,bC,bD]
   refine lK 27 (by kernel_rfl) rfl λ K hK=>?_
   go_simp
   refine hK.out _ _ ?_ (λ hHeld=>?_)
   ·exact aI.out _ HV.out
   clear hK K
   try simp only[Act.put,bn,bC,bD]
   refine wpAnyH_done (by kernel_rfl) ?_ _;go_wp2_with fail
   go_ret
   exact⟨by rw[show r0=false from HR0.out];rfl,au HB.out HV.out⟩
  ·refine dS 5 ?_ rfl (by kernel_rfl) (λ _ _ _ h=>h) ?_ (by assumption) ?_
   rotate_left
   ·intro w hSw;(try dsimp only at hSw);go_simp;(try(with_reducible rfl))
   try simp only[Act.put,bn,bC,bD]
   refine dS 6 ?_ rfl (by kernel_rfl) (λ _ _ _ h=>h) ?_ (by assumption) ?_
   rotate_left
   ·intro w hSw;(try dsimp only at hSw);go_simp;(try(with_reducible rfl))
   try simp only[Act.put,bn,bC,bD]
   refine dS 7 ?_ rfl (by kernel_rfl) (λ _ _ _ h=>h) ?_ (by assumption) ?_
   rotate_left
   ·intro w hSw;(try dsimp only at hSw);go_simp;(try(with_reducible rfl))
   try simp only[Act.put,bn,bC,bD]
   refine dS 8 ?_ rfl (by kernel_rfl) (λ _ _ _ h=>h) ?_ (by assumption) ?_
   rotate_left
   ·intro w hSw;(try dsimp only at hSw);go_simp;(try(with_reducible rfl))
   try simp only[Act.put,bn,bC,bD]
   refine lK 9 (by kernel_rfl) rfl λ K hK=>?_
   go_simp
   (go_at_call 56;(with_reducible refine(Dk.out (HRR1.out (by trivial)) _ HV.out).mono ?_);rintro e V2 ⟨rfl,hb⟩;have HV:=hid hb;clear hb)
   go_wp2_with fail
   refine hK.out _ _ ?_ (λ hHeld=>?_)
   ·exact aI.out _ HV.out
   clear hK K
   try simp only[Act.put,bn,bC,bD]
   cases r3
   ·refine dS 10 ?_ rfl (by kernel_rfl) (λ _ _ _ h=>h) ?_ (by assumption) ?_
    rotate_left
    ·intro w hSw;(try dsimp only at hSw);go_simp;(try(with_reducible rfl))
    try simp only[Act.put,bn,bC,bD]
    refine dS 11 ?_ rfl (by kernel_rfl) (λ _ _ _ h=>h) ?_ (by assumption) ?_
    rotate_left
    ·intro w hSw;(try dsimp only at hSw);go_simp;(try(with_reducible rfl))
    try simp only[Act.put,bn,bC,bD]
    refine kM 12 rfl (by kernel_rfl) (λ _ _ _ h=>h) (by assumption) ?_;refine kM 13 rfl (by kernel_rfl) (λ _ _ _ h=>h) (by assumption) ?_;refine kM 14 rfl (by kernel_rfl) (λ _ _ _ h=>h) (by assumption) ?_;refine kM 15 rfl (by kernel_rfl) (λ _ _ _ h=>h) (by assumption) ?_
    try simp only[Act.put,bn,bC,bD]
    refine dS 16 ?_ rfl (by kernel_rfl) (λ _ _ _ h=>h) ?_ (by assumption) ?_
    rotate_left
    ·intro w hSw;(try dsimp only at hSw);go_simp;(try(with_reducible rfl))
    try simp only[Act.put,bn,bC,bD]
    refine dS 17 ?_ rfl (by kernel_rfl) (λ _ _ _ h=>h) ?_ (by assumption) ?_
    rotate_left
    ·intro w hSw;(try dsimp only at hSw);go_simp;(try(with_reducible rfl))
    try simp only[Act.put,bn,bC,bD]
    refine kM 18 rfl (by kernel_rfl) (λ _ _ _ h=>h) (by assumption) ?_;refine kM 19 rfl (by kernel_rfl) (λ _ _ _ h=>h) (by assumption) ?_
    try simp only[Act.put,bn,bC,bD]
    refine dS 20 ?_ rfl (by kernel_rfl) (λ _ _ _ h=>h) ?_ (by assumption) ?_
    rotate_left
    ·intro w hSw;(try dsimp only at hSw);go_simp;(try(with_reducible rfl))
    try simp only[Act.put,bn,bC,bD]
    refine dS 21 ?_ rfl (by kernel_rfl) (λ _ _ _ h=>h) ?_ (by assumption) ?_
    rotate_left
    ·intro w hSw;(try dsimp only at hSw);go_simp;(try(with_reducible rfl))
    try simp only[Act.put,bn,bC,bD]
    refine kM 22 rfl (by kernel_rfl) (λ _ _ _ h=>h) (by assumption) ?_;refine kM 23 rfl (by kernel_rfl) (λ _ _ _ h=>h) (by assumption) ?_;refine kM 24 rfl (by kernel_rfl) (λ _ _ _ h=>h) (by assumption) ?_;refine kM 25 rfl (by kernel_rfl) (λ _ _ _ h=>h) (by assumption) ?_
    try simp only[Act.put,bn,bC,bD]
    refine lK 26 (by kernel_rfl) rfl λ K hK=>?_
    go_simp
    refine hK.out _ _ ?_ (λ hHeld=>?_)
    ·exact aI.out _ HV.out
    clear hK K
    try simp only[Act.put,bn,bC,bD]
    refine lK 27 (by kernel_rfl) rfl λ K hK=>?_
    go_simp
    refine hK.out _ _ ?_ (λ hHeld=>?_)
    ·exact aI.out _ HV.out
    clear hK K
    try simp only[Act.put,bn,bC,bD]
    refine wpAnyH_done (by kernel_rfl) ?_ _;go_wp2_with fail
    go_ret
    exact⟨by rw[show r0=false from HR0.out];rfl,au HB.out HV.out⟩
   ·refine dS 10 ?_ rfl (by kernel_rfl) (λ _ _ _ h=>h) ?_ (by assumption) ?_
    rotate_left
    ·intro w hSw;(try dsimp only at hSw);go_simp;(try(with_reducible rfl))
    try simp only[Act.put,bn,bC,bD]
    refine dS 11 ?_ rfl (by kernel_rfl) (λ _ _ _ h=>h) ?_ (by assumption) ?_
    rotate_left
    ·intro w hSw;(try dsimp only at hSw);go_simp;(try(with_reducible rfl))
    try simp only[Act.put,bn,bC,bD]
    refine dS 12 ?_ rfl (by kernel_rfl) (λ _ _ _ h=>h) ?_ (by assumption) ?_
    rotate_left
    ·intro w hSw;(try dsimp only at hSw);go_simp;(try(with_reducible rfl))
    try simp only[Act.put,bn,bC,bD]
    refine lK 13 (by kernel_rfl) rfl λ K hK=>?_
    go_simp
    (go_at_call 24;(with_reducible refine(zN.out _ HV.out).mono ?_);rintro e V3 ⟨⟨AN,cN,rfl⟩,hb⟩;have HV:=hid hb;clear hb)
    go_wp2_with fail
    refine hK.out _ _ ?_ (λ hHeld=>?_)
    ·exact aI.out _ HV.out
    clear hK K
    try simp only[Act.put,bn,bC,bD]
    have h4:=H4.out;refine dS 14 ?_ rfl (by kernel_rfl) (λ _ _ _ h=>h) ?_ (by assumption) ?_
    rotate_left
    ·intro w hSw;(try dsimp only at hSw);go_simp;(try(with_reducible rfl))
    try simp only[Act.put,bn,bC,bD]
    refine dS 15 ?_ rfl (by kernel_rfl) (λ _ _ _ h=>h) ?_ (by assumption) ?_
    rotate_left
    ·intro w hSw;(try dsimp only at hSw);go_simp;(try(with_reducible rfl))
    try simp only[Act.put,bn,bC,bD]
    try rw[h4]
    clear h4;cases r4
    ·refine dS 16 ?_ rfl (by kernel_rfl) (λ _ _ _ h=>h) ?_ (by assumption) ?_
     rotate_left
     ·intro w hSw;(try dsimp only at hSw);go_simp;(try(with_reducible rfl))
     try simp only[Act.put,bn,bC,bD]
     refine dS 17 ?_ rfl (by kernel_rfl) (λ _ _ _ h=>h) ?_ (by assumption) ?_
     rotate_left
     ·intro w hSw;(try dsimp only at hSw);go_simp;(try(with_reducible rfl))
     try simp only[Act.put,bn,bC,bD]
     refine kM 18 rfl (by kernel_rfl) (λ _ _ _ h=>h) (by assumption) ?_;refine kM 19 rfl (by kernel_rfl) (λ _ _ _ h=>h) (by assumption) ?_
     try simp only[Act.put,bn,bC,bD]
     refine dS 20 ?_ rfl (by kernel_rfl) (λ _ _ _ h=>h) ?_ (by assumption) ?_
     rotate_left
     ·intro w hSw;(try dsimp only at hSw);go_simp;(try(with_reducible rfl))
     try simp only[Act.put,bn,bC,bD]
     refine dS 21 ?_ rfl (by kernel_rfl) (λ _ _ _ h=>h) ?_ (by assumption) ?_
     rotate_left
     ·intro w hSw;(try dsimp only at hSw);go_simp;(try(with_reducible rfl))
     try simp only[Act.put,bn,bC,bD]
     refine kM 22 rfl (by kernel_rfl) (λ _ _ _ h=>h) (by assumption) ?_;refine kM 23 rfl (by kernel_rfl) (λ _ _ _ h=>h) (by assumption) ?_;refine kM 24 rfl (by kernel_rfl) (λ _ _ _ h=>h) (by assumption) ?_;refine kM 25 rfl (by kernel_rfl) (λ _ _ _ h=>h) (by assumption) ?_
     try simp only[Act.put,bn,bC,bD]
     refine lK 26 (by kernel_rfl) rfl λ K hK=>?_
     go_simp
     refine hK.out _ _ ?_ (λ hHeld=>?_)
     ·exact aI.out _ HV.out
     clear hK K
     try simp only[Act.put,bn,bC,bD]
     refine lK 27 (by kernel_rfl) rfl λ K hK=>?_
     go_simp
     refine hK.out _ _ ?_ (λ hHeld=>?_)
     ·exact aI.out _ HV.out
     clear hK K
     try simp only[Act.put,bn,bC,bD]
     refine wpAnyH_done (by kernel_rfl) ?_ _;go_wp2_with fail
     go_ret
     exact⟨by rw[show r0=false from HR0.out];rfl,au HB.out HV.out⟩
    ·refine dS 16 ?_ rfl (by kernel_rfl) (λ _ _ _ h=>h) ?_ (by assumption) ?_
     rotate_left
     ·intro w hSw;(try dsimp only at hSw);go_simp;(try(with_reducible rfl))
     try simp only[Act.put,bn,bC,bD]
     refine dS 17 ?_ rfl (by kernel_rfl) (λ _ _ _ h=>h) ?_ (by assumption) ?_
     rotate_left
     ·intro w hSw;(try dsimp only at hSw);go_simp;(try(with_reducible rfl))
     try simp only[Act.put,bn,bC,bD]
     refine dS 18 ?_ rfl (by kernel_rfl) (λ _ _ _ h=>h) ?_ (by assumption) ?_
     rotate_left
     ·intro w hSw;(try dsimp only at hSw);go_simp;(try(with_reducible rfl))
     try simp only[Act.put,bn,bC,bD]
     refine lK 19 (by kernel_rfl) rfl λ K hK=>?_
     go_simp
     (go_at_call 57;(with_reducible refine(HC5.out _ HV.out).mono ?_);rintro e V4 ⟨rfl,hb⟩;have HV:=hid hb;clear hb)
     go_wp2_with fail
     refine hK.out _ _ ?_ (λ hHeld=>?_)
     ·exact aI.out _ HV.out
     clear hK K
     try simp only[Act.put,bn,bC,bD]
     cases r5
     ·refine dS 20 ?_ rfl (by kernel_rfl) (λ _ _ _ h=>h) ?_ (by assumption) ?_
      rotate_left
      ·intro w hSw;(try dsimp only at hSw);go_simp;(try(with_reducible rfl))
      try simp only[Act.put,bn,bC,bD]
      refine dS 21 ?_ rfl (by kernel_rfl) (λ _ _ _ h=>h) ?_ (by assumption) ?_
      rotate_left
      ·intro w hSw;(try dsimp only at hSw);go_simp;(try(with_reducible rfl))
      try simp only[Act.put,bn,bC,bD]
      refine kM 22 rfl (by kernel_rfl) (λ _ _ _ h=>h) (by assumption) ?_;refine kM 23 rfl (by kernel_rfl) (λ _ _ _ h=>h) (by assumption) ?_;refine kM 24 rfl (by kernel_rfl) (λ _ _ _ h=>h) (by assumption) ?_;refine kM 25 rfl (by kernel_rfl) (λ _ _ _ h=>h) (by assumption) ?_
      try simp only[Act.put,bn,bC,bD]
      refine lK 26 (by kernel_rfl) rfl λ K hK=>?_
      go_simp
      refine hK.out _ _ ?_ (λ hHeld=>?_)
      ·exact aI.out _ HV.out
      clear hK K
      try simp only[Act.put,bn,bC,bD]
      refine lK 27 (by kernel_rfl) rfl λ K hK=>?_
      go_simp
      refine hK.out _ _ ?_ (λ hHeld=>?_)
      ·exact aI.out _ HV.out
      clear hK K
      try simp only[Act.put,bn,bC,bD]
      refine wpAnyH_done (by kernel_rfl) ?_ _;go_wp2_with fail
      go_ret
      exact⟨by rw[show r0=false from HR0.out];rfl,au HB.out HV.out⟩
     ·refine dS 20 ?_ rfl (by kernel_rfl) (λ _ _ _ h=>h) ?_ (by assumption) ?_
      rotate_left
      ·intro w hSw;(try dsimp only at hSw);go_simp;(try(with_reducible rfl))
      try simp only[Act.put,bn,bC,bD]
      refine dS 21 ?_ rfl (by kernel_rfl) (λ _ _ _ h=>h) ?_ (by assumption) ?_
      rotate_left
      ·intro w hSw;(try dsimp only at hSw);go_simp;(try(with_reducible rfl))
      try simp only[Act.put,bn,bC,bD]
      refine dS 22 ?_ rfl (by kernel_rfl) (λ _ _ _ h=>h) ?_ (by assumption) ?_
      rotate_left
      ·intro w hSw;(try dsimp only at hSw);go_simp;(try(with_reducible rfl))
      try simp only[Act.put,bn,bC,bD]
      refine dS 24 ?_ rfl (by kernel_rfl) (λ _ _ _ h=>h) ?_ (by assumption) ?_
      rotate_left
      ·intro w hSw;(try dsimp only at hSw);go_simp;(try(with_reducible rfl))
      try simp only[Act.put,bn,bC,bD]
      refine lK 23 (by kernel_rfl) rfl λ K hK=>?_
      go_simp
      (go_at_call 26;(with_reducible refine(HC6.out _ HV.out).mono ?_);rintro e V5 ⟨rfl,hb⟩;have HV:=hid hb;clear hb)
      go_wp2_with fail
      refine hK.out _ _ ?_ (λ hHeld=>?_)
      ·exact aI.out _ HV.out
      clear hK K
      try simp only[Act.put,bn,bC,bD]
      refine lK 25 (by kernel_rfl) rfl λ K hK=>?_
      go_simp
      (go_at_call 58;(with_reducible refine(TF.out _ HV.out).mono ?_);rintro e V6 ⟨rfl,hb⟩;have HV:=hid hb;clear hb)
      go_wp2_with fail
      refine hK.out _ _ ?_ (λ hHeld=>?_)
      ·exact aI.out _ HV.out
      clear hK K
      try simp only[Act.put,bn,bC,bD]
      cases r6
      ·refine lK 26 (by kernel_rfl) rfl λ K hK=>?_
       go_simp
       refine hK.out _ _ ?_ (λ hHeld=>?_)
       ·exact aI.out _ HV.out
       clear hK K
       try simp only[Act.put,bn,bC,bD]
       refine lK 27 (by kernel_rfl) rfl λ K hK=>?_
       go_simp
       refine hK.out _ _ ?_ (λ hHeld=>?_)
       ·exact aI.out _ HV.out
       clear hK K
       try simp only[Act.put,bn,bC,bD]
       refine wpAnyH_done (by kernel_rfl) ?_ _;go_wp2_with fail
       go_ret
       exact⟨by rw[show r0=false from HR0.out];rfl,au HB.out HV.out⟩
      ·refine lK 26 (by kernel_rfl) rfl λ K hK=>?_
       go_simp
       refine hK.out _ _ ?_ (λ hHeld=>?_)
       ·exact aI.out _ HV.out
       clear hK K
       try simp only[Act.put,bn,bC,bD]
       refine lK 27 (by kernel_rfl) rfl λ K hK=>?_
       go_simp
       refine hK.out _ _ ?_ (λ hHeld=>?_)
       ·exact aI.out _ HV.out
       clear hK K
       try simp only[Act.put,bn,bC,bD]
       refine wpAnyH_done (by kernel_rfl) ?_ _;go_wp2_with fail
       go_ret
       exact⟨by rw[show r0=true from HR0.out];rfl,au HB.out HV.out⟩
end Go.Proofs.YtdpbgcmfeajigaaGreatDoor
namespace Go.Proofs.YtdpbgcmfeajigaaGreatDoor
theorem YG {l:List Sg}{f:Fm}{W:iV}(h:NG l f W=true):f.size<=60/\fU f=true/\dN l=true/\kP l f/\(aZ f).length<=8/\iH (dh l) W=true/\dF W=true/\bf f=true:=by
 unfold NG at h;simp only[Bool.and_eq_true,decide_eq_true_eq]at h;obtain⟨h1,h2,h3,h4,_,h6⟩:=h;unfold DI at h3;rw[Bool.and_eq_true]at h3;refine⟨h1,h2,h3.1,NI f h3.2,h4,h6,?_,sN h2⟩;unfold iH at h6;simp only[Bool.and_eq_true]at h6;exact h6.1.1
theorem yZ {m:Int}{W:iV}(h:iH m W=true)(t:Nat):0<=aP W t/\aP W t<m:=by
 unfold iH at h;simp only[Bool.and_eq_true]at h
 have key:∀{l:List Int} {j:Nat},dO l m=true->j<l.length->0<=l.getD j 0/\l.getD j 0<m := λ hb hj=>by
  have:=lY.1 hb _ hj;unfold pV at this;simpa using this
 have hl:=lZ h.1.1;unfold aP
 split
 ·rename_i hs
  exact key h.1.2 hs
 ·exact key h.2 (Nat.mod_lt _ (by omega))
end Go.Proofs.YtdpbgcmfeajigaaGreatDoor
