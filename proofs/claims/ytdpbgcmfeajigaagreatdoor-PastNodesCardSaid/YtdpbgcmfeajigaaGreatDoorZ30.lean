/-
  Walk of past.changed.
-/
import Derived.Test.YtdpbgcmfeajigaaGreatDoorZ29
set_option linter.unusedSimpArgs false
set_option linter.unusedVariables false
set_option maxHeartbeats 8000000
set_option maxRecDepth 100000
namespace Go.Proofs.YtdpbgcmfeajigaaGreatDoor
open Go.RowKit Go.Shelf
attribute [local go_sem] qab run_store_func Oper.semAt_some
structure ValF (fn:Nat) (caps:Array Value) (vb:Fm→Int) (P:Fm→Prop) (w0:World):Prop where
 enter : ∀ (args:Array Value) (W:World),(callFunc fn args).run Tryz.prog W = .ok (.enter fn args) W
 call : ∀ (D:Dom) (x:Fm) (b o:Nat) (A:Option Addr) (c:Nat) (W:World),P x→Below w0.heap.size w0 W→qcp W D b o x A c →
  Calls Tryz.prog fn (#[.pointer (some ⟨b,o,none⟩)] ++ caps) W fun e W'=>e = .returned (.int .i64 (vb x))∧Below W.heap.size W W'
theorem build_f4 (o v b:Int) (s:ByteArray) (w:World):(Instr.build 24 #[(0,.int .i64 o),(1,.string s),(2,.int .i64 v),(3,.int .i64 b)]).run Tryz.prog w = .ok (.agg #[.int .i64 o,.string s,.int .i64 v,.int .i64 b,.slice none 0 0]) w:=run_build w 24 _ _ (by kernel_rfl)
attribute [local go_sem] build_f4
def ChangedC (fn:Nat) (caps:Array Value) (vb:Fm→Int) (w0:World) (f:Fm):Prop := ∀ (D:Dom) (b o:Nat) (A:Option Addr) (c:Nat) (w:World),Below w0.heap.size w0 w→qcp w D b o f A c →
 Calls Tryz.prog 45 #[.pointer (some ⟨b,o,none⟩),.func (.func fn) #[] caps] w fun e w' => ∃ v,e = .returned v∧qh5 (qde vb f) w v w'
theorem aged_take {vb:Fm→Int} {l:List Fm} {k:Nat} (h:k < l.length):(l.take (k+1)).map (qde vb)=(l.take k).map (qde vb) ++ [qde vb (l.getD k default)]:=by
 rw [qam l default h,List.map_append];rfl
theorem changed_any {fn:Nat} {caps:Array Value} {vb:Fm→Int} {P:Fm→Prop} {w0:World} (hV:ValF fn caps vb P w0) (f:Fm) (hP : ∀ x,x∈qaw f→P x) (hz:f.size≤1000000):ChangedC fn caps vb w0 f:=by
 refine Fm.ind1 (P:=fun f=>(∀ x,x∈qaw f→P x)→f.size≤1000000→ChangedC fn caps vb w0 f) ?_ f hP hz
 clear hP hz f
 intro f ih hP hz D b o A c w hb0 hF
 have HV:=hid hV
 have HIH:=hid fun g (hg:g∈f.args)=>ih g hg (fun x hx=>hP x (qia hg hx)) (by have:=qbt hg;rw [Fm.size_eq] at hz;omega)
 have HF:=hid hF.old
 have HP:=hid fun h:qhd f.op=true=>hP f (postP_self h)
 have HB0:=hid hb0
 have hal:=hF.args.len.1
 have HAS:=hid (show f.args.length≤1000000 by have:=qdd f.args;rw [Fm.size_eq] at hz;omega)
 obtain ⟨_,q1,p0,p1,p2,p3,p4,_⟩:=hF
 obtain ⟨N,hN⟩ : ∃ N,N=f.args.length:=⟨_,rfl⟩
 rw [←hN] at p4 hal
 have HN:=hid hN
 have HP0:=hid p0
 have HP4:=hid p4
 have HCELL:Hid (∀ W':World,Below w.heap.size w W'→W'.cell? ⟨b,o,none⟩=some (.int .i64 f.op)∧W'.cell? ⟨b,o+1,none⟩=some (.string f.name)∧W'.cell? ⟨b,o+2,none⟩=some (.int .i64 f.val)∧W'.cell? ⟨b,o+3,none⟩=some (.int .i64 f.bound)):=hid fun W' hb=>by
  have hh:=HF.out.keep (w':=W') (Keeps.of_below hb fun _ h=>h)
  exact ⟨hh.c0,hh.c1,hh.c2,hh.c3⟩
 have hen:=hV.enter
 clear hV ih hP hz hb0 hN p0 p1 p2 p3 p4
 go_enter Tryz.func45,Tryz.ntmps45
 go_upto_region 1 with (fail)
 refine qai fun U hU => ?_
 have HB:=hid (show Below w.heap.size w U by rw [hU];go_grown)
 have HR:=hid (show OB U w.heap.size 0 ⟨#[]⟩ 0 0 none 0 0 by show U.heap[_]? = _;rw [hU];exact at_new _ _ _ rfl)
 have HUS:=hid (show U.heap.size=w.heap.size+1 by rw [hU];simp)
 clear hU
 refine qb5 (fun W':World=>W'.cell? ⟨b,o,none⟩=some (.int .i64 f.op)∧W'.cell? ⟨b,o+1,none⟩=some (.string f.name)∧W'.cell? ⟨b,o+2,none⟩=some (.int .i64 f.val)∧W'.cell? ⟨b,o+3,none⟩=some (.int .i64 f.bound)) (by kernel_rfl) (by kernel_rfl) (by kernel_rfl) (HCELL.out _ HB.out.drew) (fun hHeld => ?_)
 simp only [List.dropLast_cons_cons,List.dropLast_singleton,List.getLast_cons_cons,List.getLast_singleton]
 refine wpAnyH_take (i:=0) (v := ?_) rfl (by kernel_rfl) (by kernel_rfl) (by kernel_rfl) (fun _ _ _ h=>h) (Or.inl ⟨by rfl,?_⟩) (by assumption) ?_
 rotate_left
 ·intro w hSw;(try dsimp only at hSw);go_simp;(try (with_reducible rfl))
 try simp only [Act.put,List.setIfInBounds_toArray,List.set_cons_zero,List.set_cons_succ]
 refine wpAnyH_take (i:=1) (v := ?_) rfl (by kernel_rfl) (by kernel_rfl) (by kernel_rfl) (fun _ _ _ h=>h) (Or.inl ⟨by rfl,?_⟩) (by assumption) ?_
 rotate_left
 ·intro w hSw;(try dsimp only at hSw);go_simp;(try (with_reducible rfl))
 try simp only [Act.put,List.setIfInBounds_toArray,List.set_cons_zero,List.set_cons_succ]
 refine wpAnyH_take (i:=2) (v := ?_) rfl (by kernel_rfl) (by kernel_rfl) (by kernel_rfl) (fun _ _ _ h=>h) (Or.inl ⟨by rfl,?_⟩) (by assumption) ?_
 rotate_left
 ·intro w hSw;(try dsimp only at hSw);go_simp;(try (with_reducible rfl))
 try simp only [Act.put,List.setIfInBounds_toArray,List.set_cons_zero,List.set_cons_succ]
 refine wpAnyH_take (i:=3) (v := ?_) rfl (by kernel_rfl) (by kernel_rfl) (by kernel_rfl) (fun _ _ _ h=>h) (Or.inl ⟨by rfl,?_⟩) (by assumption) ?_
 rotate_left
 ·intro w hSw;(try dsimp only at hSw);go_simp;(try (with_reducible rfl))
 try simp only [Act.put,List.setIfInBounds_toArray,List.set_cons_zero,List.set_cons_succ]
 refine wpAnyH_take (i:=4) (v := ?_) rfl (by kernel_rfl) (by kernel_rfl) (by kernel_rfl) (fun _ _ _ h=>h) (Or.inl ⟨by rfl,?_⟩) (by assumption) ?_
 rotate_left
 ·intro w hSw;(try dsimp only at hSw);go_simp;(try (with_reducible rfl))
 try simp only [Act.put,List.setIfInBounds_toArray,List.set_cons_zero,List.set_cons_succ]
 refine wpAnyH_take (i:=5) (v := ?_) rfl (by kernel_rfl) (by kernel_rfl) (by kernel_rfl) (fun _ _ _ h=>h) (Or.inl ⟨by rfl,?_⟩) (by assumption) ?_
 rotate_left
 ·intro w hSw;(try dsimp only at hSw);go_simp;(try (with_reducible rfl))
 try simp only [Act.put,List.setIfInBounds_toArray,List.set_cons_zero,List.set_cons_succ]
 refine wpAnyH_take (i:=6) (v := ?_) rfl (by kernel_rfl) (by kernel_rfl) (by kernel_rfl) (fun _ _ _ h=>h) (Or.inl ⟨by rfl,?_⟩) (by assumption) ?_
 rotate_left
 ·intro w hSw;(try dsimp only at hSw);go_simp;(try (with_reducible rfl))
 try simp only [Act.put,List.setIfInBounds_toArray,List.set_cons_zero,List.set_cons_succ]
 refine wpAnyH_take (i:=7) (v := ?_) rfl (by kernel_rfl) (by kernel_rfl) (by kernel_rfl) (fun _ _ _ h=>h) (Or.inl ⟨by rfl,?_⟩) (by assumption) ?_
 rotate_left
 ·intro w hSw;(try dsimp only at hSw);go_simp;(try (with_reducible rfl))
 try simp only [Act.put,List.setIfInBounds_toArray,List.set_cons_zero,List.set_cons_succ]
 refine wpAnyH_take (i:=8) (v := ?_) rfl (by kernel_rfl) (by kernel_rfl) (by kernel_rfl) (fun _ _ _ h=>h) (Or.inl ⟨by rfl,?_⟩) (by assumption) ?_
 rotate_left
 ·intro w hSw;(try dsimp only at hSw);go_simp;(try (with_reducible rfl))
 try simp only [Act.put,List.setIfInBounds_toArray,List.set_cons_zero,List.set_cons_succ]
 refine wpAnyH_take (i:=9) (v := ?_) rfl (by kernel_rfl) (by kernel_rfl) (by kernel_rfl) (fun _ _ _ h=>h) (Or.inl ⟨by rfl,?_⟩) (by assumption) ?_
 rotate_left
 ·intro w hSw;(try dsimp only at hSw);go_simp;(try (with_reducible rfl))
 try simp only [Act.put,List.setIfInBounds_toArray,List.set_cons_zero,List.set_cons_succ]
 refine wpAnyH_take (i:=10) (v := ?_) rfl (by kernel_rfl) (by kernel_rfl) (by kernel_rfl) (fun _ _ _ h=>h) (Or.inl ⟨by rfl,?_⟩) (by assumption) ?_
 rotate_left
 ·intro w hSw;(try dsimp only at hSw);go_simp;(try (with_reducible rfl))
 try simp only [Act.put,List.setIfInBounds_toArray,List.set_cons_zero,List.set_cons_succ]
 refine wpAnyH_take (i:=11) (v := ?_) rfl (by kernel_rfl) (by kernel_rfl) (by kernel_rfl) (fun _ _ _ h=>h) (Or.inl ⟨by rfl,?_⟩) (by assumption) ?_
 rotate_left
 ·intro w hSw;(try dsimp only at hSw);go_simp;(try (with_reducible rfl))
 try simp only [Act.put,List.setIfInBounds_toArray,List.set_cons_zero,List.set_cons_succ]
 refine wpAnyH_take (i:=12) (v := ?_) rfl (by kernel_rfl) (by kernel_rfl) (by kernel_rfl) (fun _ _ _ h=>h) (Or.inl ⟨by rfl,?_⟩) (by assumption) ?_
 rotate_left
 ·intro w hSw;(try dsimp only at hSw);go_simp;(try (with_reducible rfl))
 try simp only [Act.put,List.setIfInBounds_toArray,List.set_cons_zero,List.set_cons_succ]
 refine wpAnyH_take (i:=13) (v := ?_) rfl (by kernel_rfl) (by kernel_rfl) (by kernel_rfl) (fun _ _ _ h=>h) (Or.inl ⟨by rfl,?_⟩) (by assumption) ?_
 rotate_left
 ·intro w hSw;(try dsimp only at hSw);go_simp;(try (with_reducible rfl))
 try simp only [Act.put,List.setIfInBounds_toArray,List.set_cons_zero,List.set_cons_succ]
 refine wpAnyH_take (i:=14) (v := ?_) rfl (by kernel_rfl) (by kernel_rfl) (by kernel_rfl) (fun _ _ _ h=>h) (Or.inl ⟨by rfl,?_⟩) (by assumption) ?_
 rotate_left
 ·intro w hSw;(try dsimp only at hSw);go_simp;(try (with_reducible rfl))
 try simp only [Act.put,List.setIfInBounds_toArray,List.set_cons_zero,List.set_cons_succ]
 refine wpAnyH_take (i:=15) (v := ?_) rfl (by kernel_rfl) (by kernel_rfl) (by kernel_rfl) (fun _ _ _ h=>h) (Or.inl ⟨by rfl,?_⟩) (by assumption) ?_
 rotate_left
 ·intro w hSw;(try dsimp only at hSw);go_simp;(try (with_reducible rfl))
 try simp only [Act.put,List.setIfInBounds_toArray,List.set_cons_zero,List.set_cons_succ]
 refine wpAnyH_take (i:=16) (v := ?_) rfl (by kernel_rfl) (by kernel_rfl) (by kernel_rfl) (fun _ _ _ h=>h) (Or.inl ⟨by rfl,?_⟩) (by assumption) ?_
 rotate_left
 ·intro w hSw;(try dsimp only at hSw);go_simp;(try (with_reducible rfl))
 try simp only [Act.put,List.setIfInBounds_toArray,List.set_cons_zero,List.set_cons_succ]
 refine wpAnyH_ready (rs := [17]) (by kernel_rfl) (by simp) (AllReadyH.cons rfl (fun K hK => ?_) AllReadyH.nil)
 go_simp
 refine hK.out _ _ ?_ (fun hHeld => ?_)
 ·exact HCELL.out _ (HB.out.drew.alloc HB.out.size _)
 clear hK K
 try simp only [Act.put,List.setIfInBounds_toArray,List.set_cons_zero,List.set_cons_succ]
 refine qa6 (fun wA hwA hHeld => ?_) hHeld
 have hoA:OB wA U.heap.size 0 ⟨#[]⟩ 0 0 none 0 0:=by show wA.heap[_]? = _;rw [hwA];exact at_new U.drew _ _ rfl
 have HBA:=hid (show Below U.heap.size U wA by rw [hwA];exact (Below.refl _ _).drew.alloc (Nat.le_refl _) _)
 obtain ⟨z0,z1,z2,z3,z4,z5⟩:=hoA.cells
 have y0:=hoA.free 0
 have y1:=hoA.free 1
 have y2:=hoA.free 2
 have y3:=hoA.free 3
 have y4:=hoA.free 4
 have HOA:=hid hoA
 clear hwA hoA hHeld
 refine wpAnyH_done (by kernel_rfl) ?_ _
 unfold qeo
 go_simp
 go_upto_region 2 with (fail)
 refine qai fun W1 hW1 => ?_
 have HC1:=hid (show Chg (fun k=>k=U.heap.size) wA W1 by rw [hW1];exact qaj _ _ _ _ _ _ _)
 have HO1:=hid (show OB W1 U.heap.size f.op f.name f.val f.bound none 0 0 by rw [hW1];exact qaq HOA.out)
 have HB1:=hid (show Below w.heap.size w W1 from (qaf HB.out HBA.out).trans (HC1.out.below (fun k hk h=>by have:=HUS.out;omega) (qaf HB.out HBA.out).size))
 have HR1:=hid (show OB W1 w.heap.size 0 ⟨#[]⟩ 0 0 none 0 0 from HC1.out.box (HR.out.below HBA.out) (by have:=HUS.out;omega))
 have HUT:=hid (show U.heap.size+1≤W1.heap.size from lt_of_block HO1.out)
 rw [HUS.out] at HO1 HUT ⊢
 clear hW1 z0 z1 z2 z3 z4 z5 y0 y1 y2 y3 y4
 have p0:=(HB1.out.cell (p:=⟨b,o,none⟩) q1).trans HP0.out
 have q2:=Nat.lt_of_lt_of_le q1 HB1.out.size
 have HREM:=hid (qeq f.op W1)
 obtain ⟨rm,hrm⟩ : ∃ r,qhd f.op=r:=⟨_,rfl⟩
 have HRM:=hid hrm
 rw [hrm] at HREM
 clear hrm
 have HVAL:=hid (show rm=true→vb f=(qde vb f).val from fun h=>by rw [aged_val,HRM.out,h];rfl)
 have HVAL2:=hid (show rm=false→f.val=(qde vb f).val from fun h=>by rw [aged_val,HRM.out,h];rfl)
 obtain ⟨vz,hvz⟩ : ∃ z,(qde vb f).val=z:=⟨_,rfl⟩
 have HVZ:=hid hvz
 rw [hvz] at HVAL HVAL2
 have HPRM:=hid (show rm=true→P f from fun h=>HP.out (HRM.out.trans h))
 clear hvz
 cases rm
 all_goals
  go_upto_region 4 with (go_at_call 91;(with_reducible refine HREM.out.mono ?_);rintro e W9 ⟨rfl,rfl⟩)
 rotate_left
 ·refine (HV.out.call _ f b o A c W9 (HPRM.out (by trivial)) (HB0.out.trans (HB1.out.mono HB0.out.size)) (HF.out.keep (Keeps.of_below HB1.out fun _ h=>h))).mono ?_
  rintro e W3 ⟨rfl,hb3⟩
  have HO3:=hid (HO1.out.below hb3)
  have HB3:=hid (qaf HB1.out hb3)
  have HR3:=hid (HR1.out.below hb3)
  have f2:=HO3.out.free 2
  have g2:=HO3.out.cells.2.2.1
  have g5:=lt_of_block HO3.out
  rw [HVAL.out (by trivial)]
  clear hb3 p0 q2
  go_upto_region 4 with (fail)
  refine qai fun W4 hW4 => ?_
  have HC4:=hid (show Chg (fun k=>k=w.heap.size+1) W3 W4 by rw [hW4];exact (Chg.refl (fun k=>k=w.heap.size+1) W3).set ⟨w.heap.size+1,2,none⟩ _ fun _=>rfl)
  have HO4:=hid (show OB W4 (w.heap.size+1) f.op f.name vz f.bound none 0 0 by rw [hW4];unfold OB;rw [qae HO3.out];rfl)
  have HB4:=hid (HB3.out.trans (HC4.out.below (fun k hk h=>by omega) HB3.out.size))
  have HR4:=hid (show OB W4 w.heap.size 0 ⟨#[]⟩ 0 0 none 0 0 from HC4.out.box HR3.out (by omega))
  clear hW4 f2 g2 g5
  have y4:=(HB4.out.cell (p:=⟨b,o+4,none⟩) q1).trans HP4.out
  have y5:=Nat.lt_of_lt_of_le q1 HB4.out.size
  go_wp2_with fail
  clear y4 y5
  go_loopw [38] (fun r wr => ∃ (k:Nat) (X:Option Addr) (cx:Nat) (R:List Fm) (sl:List (Option Addr × Nat)),k≤N∧r = .int .i64 (k:Int)∧Hid (R=(f.args.take k).map (qde vb))∧Hid (R.length=k)∧qbm wr (w.heap.size+2) X cx R sl∧OB wr (w.heap.size+1) f.op f.name vz f.bound X k cx∧OB wr w.heap.size 0 ⟨#[]⟩ 0 0 none 0 0∧Below w.heap.size w wr) (fun r _=>N - (intOf r).toNat)
  case atStart=>exact ⟨0,none,0,[],[],Nat.zero_le _,rfl,rfl,rfl,qbm.nil _ _,HO4.out,HR4.out,HB4.out⟩
  case round =>
   obtain ⟨k,X,cx,R,sl,hk,rfl,HRE,HRL,hfr,hob,hrb,hbl⟩:=hrel
   have HFR:=hid hfr
   have HOB:=hid hob
   have HRB:=hid hrb
   have HBL:=hid hbl
   clear hfr hob hrb hbl
   by_cases hlt:k < N
   ·have hii:(k:Int) < (N:Int):=by omega
    have hi0:(0:Int)≤(k:Int):=by omega
    have hlf:k < f.args.length:=by rw [←HN.out];exact hlt
    obtain ⟨b1,o1,A',c',g,rfl,HX,hg⟩:=(HF.out.keep (Keeps.of_below HBL.out fun _ h=>h)).args.get hlf
    have HGM:=hid (show g∈f.args by rw [←HX.out];exact qax hlf)
    have HTK:=hid (show (f.args.take (k+1)).map (qde vb)=R ++ [qde vb g] by rw [aged_take hlf,HX.out,HRE.out])
    have HG:=hid hg
    have HLT:=hid hlt
    obtain ⟨g',hg'⟩ : ∃ g',qde vb g=g':=⟨_,rfl⟩
    have HG':=hid hg'
    rw [hg'] at HTK
    have HCELL2:Hid (∀ W':World,Below wr.heap.size wr W'→W'.cell? ⟨w.heap.size+1,4,none⟩=some (.slice X k cx)∧W'.cell? ⟨b,o+4,none⟩=some (.slice (some ⟨b1,o1,none⟩) N c)):=hid fun W' hb =>
     ⟨(HOB.out.below hb).cells.2.2.2.2.1,((qaf HBL.out hb).cell (p:=⟨b,o+4,none⟩) q1).trans HP4.out⟩
    have HCALL:Hid (∀ W,Below wr.heap.size wr W→Calls Tryz.prog 45 #[.pointer (some ⟨b1,o1+k * 5,none⟩),.func (.func fn) #[] caps] W fun e w' => ∃ A2 c2,e = .returned (.agg #[.int .i64 g'.op,.string g'.name,.int .i64 g'.val,.int .i64 g'.bound,.slice A2 g'.args.length c2])∧RdA w' (Nw wr.heap.size w') g'.args A2 c2∧Below wr.heap.size wr w'):=hid fun W hb=>by
     refine (HIH.out g HGM.out _ b1 (o1+k * 5) A' c' W (HB0.out.trans ((qaf HBL.out hb).mono HB0.out.size)) (HG.out.keep (Keeps.of_below hb fun k hk=>Nat.lt_of_lt_of_le hk HBL.out.size))).mono ?_
     rintro e w' ⟨v,rfl,hb',A2,c2,rfl,ha2⟩
     rw [HG'.out] at ha2 ⊢
     exact ⟨A2,c2,rfl,ha2.base hb.size,qaf hb hb'⟩
    clear hk hlf hlt HX hg hg'
    have q5:=Nat.lt_of_lt_of_le q1 HBL.out.size
    have q6:=lt_of_block HOB.out
    obtain ⟨y1,y4⟩:=HCELL2.out wr (Below.refl _ _)
    obtain ⟨i0,hti,hz0,hz1,hz2⟩:=info_parts qb8
    go_upto_region 7 with (fail)
    refine qb5 (fun W':World=>W'.cell? ⟨w.heap.size+1,4,none⟩=some (.slice X k cx)∧W'.cell? ⟨b,o+4,none⟩=some (.slice (some ⟨b1,o1,none⟩) N c)) (by kernel_rfl) (by kernel_rfl) (by kernel_rfl) ⟨y1,y4⟩ (fun hHeld => ?_)
    simp only [List.dropLast_cons_cons,List.dropLast_singleton,List.getLast_cons_cons,List.getLast_singleton]
    refine wpAnyH_take (i:=0) (v := ?_) rfl (by kernel_rfl) (by kernel_rfl) (by kernel_rfl) (fun _ _ _ h=>h) (Or.inl ⟨by rfl,?_⟩) (by assumption) ?_
    rotate_left
    ·intro w hSw;(try dsimp only at hSw);go_simp;(try (with_reducible rfl))
    try simp only [Act.put,List.setIfInBounds_toArray,List.set_cons_zero,List.set_cons_succ]
    refine wpAnyH_take (i:=1) (v := ?_) rfl (by kernel_rfl) (by kernel_rfl) (by kernel_rfl) (fun _ _ _ h=>h) (Or.inl ⟨by rfl,?_⟩) (by assumption) ?_
    rotate_left
    ·intro w hSw;(try dsimp only at hSw);go_simp;(try (with_reducible rfl))
    try simp only [Act.put,List.setIfInBounds_toArray,List.set_cons_zero,List.set_cons_succ]
    refine wpAnyH_take (i:=2) (v := ?_) rfl (by kernel_rfl) (by kernel_rfl) (by kernel_rfl) (fun _ _ _ h=>h) (Or.inl ⟨by rfl,?_⟩) (by assumption) ?_
    rotate_left
    ·intro w hSw;(try dsimp only at hSw);go_simp;(try (with_reducible rfl))
    try simp only [Act.put,List.setIfInBounds_toArray,List.set_cons_zero,List.set_cons_succ]
    refine wpAnyH_take (i:=3) (v := ?_) rfl (by kernel_rfl) (by kernel_rfl) (by kernel_rfl) (fun _ _ _ h=>h) (Or.inl ⟨by rfl,?_⟩) (by assumption) ?_
    rotate_left
    ·intro w hSw;(try dsimp only at hSw);go_simp;(try (with_reducible rfl))
    try simp only [Act.put,List.setIfInBounds_toArray,List.set_cons_zero,List.set_cons_succ]
    refine wpAnyH_take (i:=4) (v := ?_) rfl (by kernel_rfl) (by kernel_rfl) (by kernel_rfl) (fun _ _ _ h=>h) (Or.inl ⟨by rfl,?_⟩) (by assumption) ?_
    rotate_left
    ·intro w hSw;(try dsimp only at hSw);go_simp;(try (with_reducible rfl))
    try simp only [Act.put,List.setIfInBounds_toArray,List.set_cons_zero,List.set_cons_succ]
    refine wpAnyH_take (i:=5) (v := ?_) rfl (by kernel_rfl) (by kernel_rfl) (by kernel_rfl) (fun _ _ _ h=>h) (Or.inl ⟨by rfl,?_⟩) (by assumption) ?_
    rotate_left
    ·intro w hSw;(try dsimp only at hSw);go_simp;(try (with_reducible rfl))
    try simp only [Act.put,List.setIfInBounds_toArray,List.set_cons_zero,List.set_cons_succ]
    refine wpAnyH_take (i:=6) (v := ?_) rfl (by kernel_rfl) (by kernel_rfl) (by kernel_rfl) (fun _ _ _ h=>h) (Or.inl ⟨by rfl,?_⟩) (by assumption) ?_
    rotate_left
    ·intro w hSw;(try dsimp only at hSw);go_simp;(try (with_reducible rfl))
    try simp only [Act.put,List.setIfInBounds_toArray,List.set_cons_zero,List.set_cons_succ]
    refine wpAnyH_take (i:=7) (v := ?_) rfl (by kernel_rfl) (by kernel_rfl) (by kernel_rfl) (fun _ _ _ h=>h) (Or.inl ⟨by rfl,?_⟩) (by assumption) ?_
    rotate_left
    ·intro w hSw;(try dsimp only at hSw);go_simp;(try (with_reducible rfl))
    try simp only [Act.put,List.setIfInBounds_toArray,List.set_cons_zero,List.set_cons_succ]
    refine wpAnyH_take (i:=8) (v := ?_) rfl (by kernel_rfl) (by kernel_rfl) (by kernel_rfl) (fun _ _ _ h=>h) (Or.inl ⟨by rfl,?_⟩) (by assumption) ?_
    rotate_left
    ·intro w hSw;(try dsimp only at hSw);go_simp;(try (with_reducible rfl))
    try simp only [Act.put,List.setIfInBounds_toArray,List.set_cons_zero,List.set_cons_succ]
    refine wpAnyH_ready (rs := [9]) (by kernel_rfl) (by simp) (AllReadyH.cons rfl (fun K hK => ?_) AllReadyH.nil)
    go_simp
    (go_at_call 45;(with_reducible refine (HCALL.out _ ?_).mono ?_);exact (Below.refl _ _).drew;rintro e V1 ⟨A2,c2,rfl,ha2,hb1⟩;have HV1:=hid hb1;have HA2:=hid ha2;clear hb1 ha2)
    go_wp2_with fail
    refine hK.out _ _ ?_ (fun hHeld => ?_)
    ·exact HCELL2.out _ HV1.out
    clear hK K
    try simp only [Act.put,List.setIfInBounds_toArray,List.set_cons_zero,List.set_cons_succ]
    refine wpAnyH_ready (rs := [10]) (by kernel_rfl) (by simp) (AllReadyH.cons rfl (fun K hK => ?_) AllReadyH.nil)
    go_simp
    refine hK.out _ _ ?_ (fun hHeld => ?_)
    ·exact HCELL2.out _ (HV1.out.alloc HV1.out.size _)
    clear hK K
    try simp only [Act.put,List.setIfInBounds_toArray,List.set_cons_zero,List.set_cons_succ]
    refine qa6 (fun wA hwA hHeld => ?_) hHeld
    have hbA:Below V1.heap.size V1 wA:=by rw [hwA];exact (Below.refl _ _).alloc (Nat.le_refl _) _
    have hrA:Rd wA qbi 5 (some ⟨V1.heap.size,0,none⟩) 1 1 (qbr g' (A2,c2)):=by rw [hwA];exact Rd.fresh (D:=qbi) rfl trivial (by simp) (by omega)
    have HBA:=hid (qaf HV1.out hbA)
    have HA3:=hid (show RdA wA (Nw wr.heap.size wA) g'.args A2 c2 from ((HA2.out.mono (E:=fun k=>Nw wr.heap.size V1 k∧k < V1.heap.size) fun k hk hl=>⟨hk,hl⟩).keep (Keeps.of_below hbA fun _ h=>h.2)).mono fun k hk _=>⟨hk.1.1,hk.1.2.of_eq (hbA.block k hk.2)⟩)
    have hfA:=HFR.out.chg (Chg.of_new (V:=fun _=>False) HBA.out) fun _ h=>h.elim
    have hoA:=hfA.own
    rw [HRL.out] at hoA
    have HFA:=hid hfA
    clear hwA hbA hfA
    refine wpAnyH_ready (rs := [11]) (by kernel_rfl) (by simp) (AllReadyH.cons rfl (fun K hK => ?_) AllReadyH.nil)
    refine qat _ (by rfl) _ _ 22 (by rfl) (w.heap.size+2) 24 i0 _ 5 64 Tryz.underlying22 hti hz0 hz1 hz2 rfl (by omega) (.slice X k cx) k _ (by rfl) hoA _ (some ⟨V1.heap.size,0,none⟩) 1 1 _ (by rfl) hrA (by simp [Value.oneCell',qbr]) (by have:=HLT.out;have:=HAS.out;have:=HN.out;omega) (qa5 (by have:=HLT.out;have:=HAS.out;have:=HN.out;omega)) (by have:=HBA.out.size;omega) ?_
    intro A7 c7 w7 hown7 hg7 hat7
    have hge : ∀ k',(Value.slice X k cx).ownBlock=some k'→w.heap.size+2≤k'∧k' < wr.heap.size:=fun k' hk'=>by
     have:=HFR.out.ge (k:=k') (by rw [HRL.out];exact hk')
     exact this
    have hk7 : ∀ b',b' < wA.heap.size→b' < w.heap.size+2→w7.heap[b']? = wA.heap[b']? := fun b' h1 h2=>hg7.block b' h1 (fun e=>by have:=(hge _ e.symm).1;omega)
    have hcf:qav [g'] [(A2,c2)]=qbr g' (A2,c2):=by simp [qav]
    have hF7:qbm w7 (w.heap.size+2) A7 c7 (R ++ [g']) (sl ++ [(A2,c2)]):=by
     refine qbm.app (n:=k+1) HFA.out (by rw [HRL.out];exact hg7) (by rw [List.length_append,HRL.out];rfl) (by rw [hcf];exact hown7) (by rw [HRL.out];exact hat7) rfl fun i hi => ?_
     have hi0:i=0:=by simpa using hi
     subst hi0
     refine HA3.out.mono fun k' hk' hl'=>⟨⟨by have:=hk'.1;omega,hk'.2⟩,fun e => ?_⟩
     rw [HRL.out] at e
     have:=(hge _ e).2
     have:=hk'.1
     omega
    have hO7:OB w7 (w.heap.size+1) f.op f.name vz f.bound X k cx:=(hk7 _ (Nat.lt_of_lt_of_le q6 HBA.out.size) (by omega)).trans (HOB.out.below HBA.out)
    have hR7:OB w7 w.heap.size 0 ⟨#[]⟩ 0 0 none 0 0:=(hk7 _ (Nat.lt_of_lt_of_le (by omega) HBA.out.size) (by omega)).trans (HRB.out.below HBA.out)
    have HB7:=hid (show Below w.heap.size w w7 from (qaf HBL.out HBA.out).trans ⟨hg7.os,hg7.tape,hg7.output,hg7.size,fun b' hb'=>hk7 b' (Nat.lt_of_lt_of_le hb' (qaf HBL.out HBA.out).size) (by omega)⟩)
    refine hK.out _ _ ?_ (fun hHeld => ?_)
    ·exact ⟨hO7.cells.2.2.2.2.1,(HB7.out.cell (p:=⟨b,o+4,none⟩) q1).trans HP4.out⟩
    clear hK K
    try simp only [Act.put,List.setIfInBounds_toArray,List.set_cons_zero,List.set_cons_succ]
    refine wpAnyH_take (i:=12) (v := ?_) rfl (by kernel_rfl) (by kernel_rfl) (by kernel_rfl) (fun _ _ _ h=>h) (Or.inl ⟨by rfl,?_⟩) (by assumption) ?_
    rotate_left
    ·intro w hSw;(try dsimp only at hSw);go_simp;(try (with_reducible rfl))
    try simp only [Act.put,List.setIfInBounds_toArray,List.set_cons_zero,List.set_cons_succ]
    have HO7:=hid hO7
    have HR7:=hid hR7
    have HF7:=hid hF7
    have f7:=hO7.free 4
    have l7:=lt_of_block hO7
    have c9:=hO7.cells.2.2.2.2.1
    clear hO7 hR7 hF7 hown7 hg7 hk7 hat7 hHeld hoA hrA hge y1 y4 q5
    refine wpAnyH_done (by kernel_rfl) ?_ _
    unfold qeo
    go_simp
    go_wp2_with fail
    go_roundw
    case rel =>
     obtain ⟨w8,hw8⟩ : ∃ w8,w8=w7.setCell ⟨w.heap.size+1,4,none⟩ (.slice A7 (k+1) c7):=⟨_,rfl⟩
     have hc78:Chg (fun b=>b=w.heap.size+1) w7 w8:=by rw [hw8];exact (Chg.refl (fun b=>b=w.heap.size+1) w7).set ⟨w.heap.size+1,4,none⟩ _ fun _=>rfl
     rw [←hw8]
     refine ⟨k+1,A7,c7,R ++ [g'],sl ++ [(A2,c2)],by have:=HLT.out;omega,by go_num,HTK.out.symm,by show (R ++ [g']).length=_;rw [List.length_append,HRL.out];rfl,HF7.out.chg hc78 (fun x hx=>by have hx':x=w.heap.size+1:=hx;omega),?_,hc78.box HR7.out (by show ¬ w.heap.size=w.heap.size+1;omega),HB7.out.trans (hc78.below (fun b hb h=>by have h':b=w.heap.size+1:=h;omega) HB7.out.size)⟩
     unfold OB
     rw [hw8,qae HO7.out]
     rfl
    case measure=>have:=HLT.out;simp [intOf];omega
   ·have hii : ¬ (k:Int) < (N:Int):=by omega
    obtain rfl:k=N:=by omega
    have HRF:=hid (show R=f.args.map (qde vb) by rw [HRE.out,HN.out,List.take_length])
    obtain ⟨z0,z1,z2,z3,z4,z5⟩:=HRB.out.cells
    have p0:=HRB.out.free 0
    have p1:=HRB.out.free 1
    have p2:=HRB.out.free 2
    have p3:=HRB.out.free 3
    have p4:=HRB.out.free 4
    obtain ⟨x0,x1,x2,x3,x4,x5⟩:=HOB.out.cells
    clear hk hlt
    go_wp2_with fail
    refine qag fun W9 hW9 => ?_
    have hO9:OB W9 w.heap.size f.op f.name vz f.bound X k cx:=by rw [hW9];exact qaq HRB.out
    have hC9:Chg (fun x=>x=w.heap.size) wr W9:=by rw [hW9];exact qaj _ _ _ _ _ _ _
    clear hW9 p0 p1 p2 p3 p4 z0 z1 z2 z3 z4 z5 x0 x1 x2 x3 x4 x5
    obtain ⟨r0,r1,r2,r3,r4,r5⟩:=hO9.cells
    refine bodyPost_ret (v := .agg #[.int .i64 f.op,.string f.name,.int .i64 vz,.int .i64 f.bound,.slice X k cx]) (by simp [results,Tryz.results45,go_sem,r0,r1,r2,r3,r4]) rfl ⟨_,rfl,HBL.out.trans (hC9.below (B:=w.heap.size) (fun x hx hv=>by have hv':x=w.heap.size:=hv;omega) HBL.out.size),X,cx,?_,?_⟩
    ·rw [aged_op,aged_name,HVZ.out,aged_bound,qiz,List.length_map,←HN.out]
    ·rw [qiz,←HRF.out]
     have hrd:=(HFR.out.chg hC9 (fun x hx=>by have hx':x=w.heap.size:=hx;omega)).rd (by have:=HRL.out;have:=HAS.out;have:=HN.out;omega)
     exact hrd.base (by omega)
 ·have HO4:=hid (show OB W9 (w.heap.size+1) f.op f.name vz f.bound none 0 0 by rw [←HVAL2.out (by trivial)];exact HO1.out)
  have HB4:=hid HB1.out
  have HR4:=hid HR1.out
  clear p0 q2
  obtain ⟨W4,hW4⟩ : ∃ W4,W4=W9:=⟨_,rfl⟩
  rw [←hW4] at HO4 HB4 HR4 ⊢
  clear hW4
  have y4:=(HB4.out.cell (p:=⟨b,o+4,none⟩) q1).trans HP4.out
  have y5:=Nat.lt_of_lt_of_le q1 HB4.out.size
  go_wp2_with fail
  clear y4 y5
  go_loopw [38] (fun r wr => ∃ (k:Nat) (X:Option Addr) (cx:Nat) (R:List Fm) (sl:List (Option Addr × Nat)),k≤N∧r = .int .i64 (k:Int)∧Hid (R=(f.args.take k).map (qde vb))∧Hid (R.length=k)∧qbm wr (w.heap.size+2) X cx R sl∧OB wr (w.heap.size+1) f.op f.name vz f.bound X k cx∧OB wr w.heap.size 0 ⟨#[]⟩ 0 0 none 0 0∧Below w.heap.size w wr) (fun r _=>N - (intOf r).toNat)
  case atStart=>exact ⟨0,none,0,[],[],Nat.zero_le _,rfl,rfl,rfl,qbm.nil _ _,HO4.out,HR4.out,HB4.out⟩
  case round =>
   obtain ⟨k,X,cx,R,sl,hk,rfl,HRE,HRL,hfr,hob,hrb,hbl⟩:=hrel
   have HFR:=hid hfr
   have HOB:=hid hob
   have HRB:=hid hrb
   have HBL:=hid hbl
   clear hfr hob hrb hbl
   by_cases hlt:k < N
   ·have hii:(k:Int) < (N:Int):=by omega
    have hi0:(0:Int)≤(k:Int):=by omega
    have hlf:k < f.args.length:=by rw [←HN.out];exact hlt
    obtain ⟨b1,o1,A',c',g,rfl,HX,hg⟩:=(HF.out.keep (Keeps.of_below HBL.out fun _ h=>h)).args.get hlf
    have HGM:=hid (show g∈f.args by rw [←HX.out];exact qax hlf)
    have HTK:=hid (show (f.args.take (k+1)).map (qde vb)=R ++ [qde vb g] by rw [aged_take hlf,HX.out,HRE.out])
    have HG:=hid hg
    have HLT:=hid hlt
    obtain ⟨g',hg'⟩ : ∃ g',qde vb g=g':=⟨_,rfl⟩
    have HG':=hid hg'
    rw [hg'] at HTK
    have HCELL2:Hid (∀ W':World,Below wr.heap.size wr W'→W'.cell? ⟨w.heap.size+1,4,none⟩=some (.slice X k cx)∧W'.cell? ⟨b,o+4,none⟩=some (.slice (some ⟨b1,o1,none⟩) N c)):=hid fun W' hb =>
     ⟨(HOB.out.below hb).cells.2.2.2.2.1,((qaf HBL.out hb).cell (p:=⟨b,o+4,none⟩) q1).trans HP4.out⟩
    have HCALL:Hid (∀ W,Below wr.heap.size wr W→Calls Tryz.prog 45 #[.pointer (some ⟨b1,o1+k * 5,none⟩),.func (.func fn) #[] caps] W fun e w' => ∃ A2 c2,e = .returned (.agg #[.int .i64 g'.op,.string g'.name,.int .i64 g'.val,.int .i64 g'.bound,.slice A2 g'.args.length c2])∧RdA w' (Nw wr.heap.size w') g'.args A2 c2∧Below wr.heap.size wr w'):=hid fun W hb=>by
     refine (HIH.out g HGM.out _ b1 (o1+k * 5) A' c' W (HB0.out.trans ((qaf HBL.out hb).mono HB0.out.size)) (HG.out.keep (Keeps.of_below hb fun k hk=>Nat.lt_of_lt_of_le hk HBL.out.size))).mono ?_
     rintro e w' ⟨v,rfl,hb',A2,c2,rfl,ha2⟩
     rw [HG'.out] at ha2 ⊢
     exact ⟨A2,c2,rfl,ha2.base hb.size,qaf hb hb'⟩
    clear hk hlf hlt HX hg hg'
    have q5:=Nat.lt_of_lt_of_le q1 HBL.out.size
    have q6:=lt_of_block HOB.out
    obtain ⟨y1,y4⟩:=HCELL2.out wr (Below.refl _ _)
    obtain ⟨i0,hti,hz0,hz1,hz2⟩:=info_parts qb8
    go_upto_region 7 with (fail)
    refine qb5 (fun W':World=>W'.cell? ⟨w.heap.size+1,4,none⟩=some (.slice X k cx)∧W'.cell? ⟨b,o+4,none⟩=some (.slice (some ⟨b1,o1,none⟩) N c)) (by kernel_rfl) (by kernel_rfl) (by kernel_rfl) ⟨y1,y4⟩ (fun hHeld => ?_)
    simp only [List.dropLast_cons_cons,List.dropLast_singleton,List.getLast_cons_cons,List.getLast_singleton]
    refine wpAnyH_take (i:=0) (v := ?_) rfl (by kernel_rfl) (by kernel_rfl) (by kernel_rfl) (fun _ _ _ h=>h) (Or.inl ⟨by rfl,?_⟩) (by assumption) ?_
    rotate_left
    ·intro w hSw;(try dsimp only at hSw);go_simp;(try (with_reducible rfl))
    try simp only [Act.put,List.setIfInBounds_toArray,List.set_cons_zero,List.set_cons_succ]
    refine wpAnyH_take (i:=1) (v := ?_) rfl (by kernel_rfl) (by kernel_rfl) (by kernel_rfl) (fun _ _ _ h=>h) (Or.inl ⟨by rfl,?_⟩) (by assumption) ?_
    rotate_left
    ·intro w hSw;(try dsimp only at hSw);go_simp;(try (with_reducible rfl))
    try simp only [Act.put,List.setIfInBounds_toArray,List.set_cons_zero,List.set_cons_succ]
    refine wpAnyH_take (i:=2) (v := ?_) rfl (by kernel_rfl) (by kernel_rfl) (by kernel_rfl) (fun _ _ _ h=>h) (Or.inl ⟨by rfl,?_⟩) (by assumption) ?_
    rotate_left
    ·intro w hSw;(try dsimp only at hSw);go_simp;(try (with_reducible rfl))
    try simp only [Act.put,List.setIfInBounds_toArray,List.set_cons_zero,List.set_cons_succ]
    refine wpAnyH_take (i:=3) (v := ?_) rfl (by kernel_rfl) (by kernel_rfl) (by kernel_rfl) (fun _ _ _ h=>h) (Or.inl ⟨by rfl,?_⟩) (by assumption) ?_
    rotate_left
    ·intro w hSw;(try dsimp only at hSw);go_simp;(try (with_reducible rfl))
    try simp only [Act.put,List.setIfInBounds_toArray,List.set_cons_zero,List.set_cons_succ]
    refine wpAnyH_take (i:=4) (v := ?_) rfl (by kernel_rfl) (by kernel_rfl) (by kernel_rfl) (fun _ _ _ h=>h) (Or.inl ⟨by rfl,?_⟩) (by assumption) ?_
    rotate_left
    ·intro w hSw;(try dsimp only at hSw);go_simp;(try (with_reducible rfl))
    try simp only [Act.put,List.setIfInBounds_toArray,List.set_cons_zero,List.set_cons_succ]
    refine wpAnyH_take (i:=5) (v := ?_) rfl (by kernel_rfl) (by kernel_rfl) (by kernel_rfl) (fun _ _ _ h=>h) (Or.inl ⟨by rfl,?_⟩) (by assumption) ?_
    rotate_left
    ·intro w hSw;(try dsimp only at hSw);go_simp;(try (with_reducible rfl))
    try simp only [Act.put,List.setIfInBounds_toArray,List.set_cons_zero,List.set_cons_succ]
    refine wpAnyH_take (i:=6) (v := ?_) rfl (by kernel_rfl) (by kernel_rfl) (by kernel_rfl) (fun _ _ _ h=>h) (Or.inl ⟨by rfl,?_⟩) (by assumption) ?_
    rotate_left
    ·intro w hSw;(try dsimp only at hSw);go_simp;(try (with_reducible rfl))
    try simp only [Act.put,List.setIfInBounds_toArray,List.set_cons_zero,List.set_cons_succ]
    refine wpAnyH_take (i:=7) (v := ?_) rfl (by kernel_rfl) (by kernel_rfl) (by kernel_rfl) (fun _ _ _ h=>h) (Or.inl ⟨by rfl,?_⟩) (by assumption) ?_
    rotate_left
    ·intro w hSw;(try dsimp only at hSw);go_simp;(try (with_reducible rfl))
    try simp only [Act.put,List.setIfInBounds_toArray,List.set_cons_zero,List.set_cons_succ]
    refine wpAnyH_take (i:=8) (v := ?_) rfl (by kernel_rfl) (by kernel_rfl) (by kernel_rfl) (fun _ _ _ h=>h) (Or.inl ⟨by rfl,?_⟩) (by assumption) ?_
    rotate_left
    ·intro w hSw;(try dsimp only at hSw);go_simp;(try (with_reducible rfl))
    try simp only [Act.put,List.setIfInBounds_toArray,List.set_cons_zero,List.set_cons_succ]
    refine wpAnyH_ready (rs := [9]) (by kernel_rfl) (by simp) (AllReadyH.cons rfl (fun K hK => ?_) AllReadyH.nil)
    go_simp
    (go_at_call 45;(with_reducible refine (HCALL.out _ ?_).mono ?_);exact (Below.refl _ _).drew;rintro e V1 ⟨A2,c2,rfl,ha2,hb1⟩;have HV1:=hid hb1;have HA2:=hid ha2;clear hb1 ha2)
    go_wp2_with fail
    refine hK.out _ _ ?_ (fun hHeld => ?_)
    ·exact HCELL2.out _ HV1.out
    clear hK K
    try simp only [Act.put,List.setIfInBounds_toArray,List.set_cons_zero,List.set_cons_succ]
    refine wpAnyH_ready (rs := [10]) (by kernel_rfl) (by simp) (AllReadyH.cons rfl (fun K hK => ?_) AllReadyH.nil)
    go_simp
    refine hK.out _ _ ?_ (fun hHeld => ?_)
    ·exact HCELL2.out _ (HV1.out.alloc HV1.out.size _)
    clear hK K
    try simp only [Act.put,List.setIfInBounds_toArray,List.set_cons_zero,List.set_cons_succ]
    refine qa6 (fun wA hwA hHeld => ?_) hHeld
    have hbA:Below V1.heap.size V1 wA:=by rw [hwA];exact (Below.refl _ _).alloc (Nat.le_refl _) _
    have hrA:Rd wA qbi 5 (some ⟨V1.heap.size,0,none⟩) 1 1 (qbr g' (A2,c2)):=by rw [hwA];exact Rd.fresh (D:=qbi) rfl trivial (by simp) (by omega)
    have HBA:=hid (qaf HV1.out hbA)
    have HA3:=hid (show RdA wA (Nw wr.heap.size wA) g'.args A2 c2 from ((HA2.out.mono (E:=fun k=>Nw wr.heap.size V1 k∧k < V1.heap.size) fun k hk hl=>⟨hk,hl⟩).keep (Keeps.of_below hbA fun _ h=>h.2)).mono fun k hk _=>⟨hk.1.1,hk.1.2.of_eq (hbA.block k hk.2)⟩)
    have hfA:=HFR.out.chg (Chg.of_new (V:=fun _=>False) HBA.out) fun _ h=>h.elim
    have hoA:=hfA.own
    rw [HRL.out] at hoA
    have HFA:=hid hfA
    clear hwA hbA hfA
    refine wpAnyH_ready (rs := [11]) (by kernel_rfl) (by simp) (AllReadyH.cons rfl (fun K hK => ?_) AllReadyH.nil)
    refine qat _ (by rfl) _ _ 22 (by rfl) (w.heap.size+2) 24 i0 _ 5 64 Tryz.underlying22 hti hz0 hz1 hz2 rfl (by omega) (.slice X k cx) k _ (by rfl) hoA _ (some ⟨V1.heap.size,0,none⟩) 1 1 _ (by rfl) hrA (by simp [Value.oneCell',qbr]) (by have:=HLT.out;have:=HAS.out;have:=HN.out;omega) (qa5 (by have:=HLT.out;have:=HAS.out;have:=HN.out;omega)) (by have:=HBA.out.size;omega) ?_
    intro A7 c7 w7 hown7 hg7 hat7
    have hge : ∀ k',(Value.slice X k cx).ownBlock=some k'→w.heap.size+2≤k'∧k' < wr.heap.size:=fun k' hk'=>by
     have:=HFR.out.ge (k:=k') (by rw [HRL.out];exact hk')
     exact this
    have hk7 : ∀ b',b' < wA.heap.size→b' < w.heap.size+2→w7.heap[b']? = wA.heap[b']? := fun b' h1 h2=>hg7.block b' h1 (fun e=>by have:=(hge _ e.symm).1;omega)
    have hcf:qav [g'] [(A2,c2)]=qbr g' (A2,c2):=by simp [qav]
    have hF7:qbm w7 (w.heap.size+2) A7 c7 (R ++ [g']) (sl ++ [(A2,c2)]):=by
     refine qbm.app (n:=k+1) HFA.out (by rw [HRL.out];exact hg7) (by rw [List.length_append,HRL.out];rfl) (by rw [hcf];exact hown7) (by rw [HRL.out];exact hat7) rfl fun i hi => ?_
     have hi0:i=0:=by simpa using hi
     subst hi0
     refine HA3.out.mono fun k' hk' hl'=>⟨⟨by have:=hk'.1;omega,hk'.2⟩,fun e => ?_⟩
     rw [HRL.out] at e
     have:=(hge _ e).2
     have:=hk'.1
     omega
    have hO7:OB w7 (w.heap.size+1) f.op f.name vz f.bound X k cx:=(hk7 _ (Nat.lt_of_lt_of_le q6 HBA.out.size) (by omega)).trans (HOB.out.below HBA.out)
    have hR7:OB w7 w.heap.size 0 ⟨#[]⟩ 0 0 none 0 0:=(hk7 _ (Nat.lt_of_lt_of_le (by omega) HBA.out.size) (by omega)).trans (HRB.out.below HBA.out)
    have HB7:=hid (show Below w.heap.size w w7 from (qaf HBL.out HBA.out).trans ⟨hg7.os,hg7.tape,hg7.output,hg7.size,fun b' hb'=>hk7 b' (Nat.lt_of_lt_of_le hb' (qaf HBL.out HBA.out).size) (by omega)⟩)
    refine hK.out _ _ ?_ (fun hHeld => ?_)
    ·exact ⟨hO7.cells.2.2.2.2.1,(HB7.out.cell (p:=⟨b,o+4,none⟩) q1).trans HP4.out⟩
    clear hK K
    try simp only [Act.put,List.setIfInBounds_toArray,List.set_cons_zero,List.set_cons_succ]
    refine wpAnyH_take (i:=12) (v := ?_) rfl (by kernel_rfl) (by kernel_rfl) (by kernel_rfl) (fun _ _ _ h=>h) (Or.inl ⟨by rfl,?_⟩) (by assumption) ?_
    rotate_left
    ·intro w hSw;(try dsimp only at hSw);go_simp;(try (with_reducible rfl))
    try simp only [Act.put,List.setIfInBounds_toArray,List.set_cons_zero,List.set_cons_succ]
    have HO7:=hid hO7
    have HR7:=hid hR7
    have HF7:=hid hF7
    have f7:=hO7.free 4
    have l7:=lt_of_block hO7
    have c9:=hO7.cells.2.2.2.2.1
    clear hO7 hR7 hF7 hown7 hg7 hk7 hat7 hHeld hoA hrA hge y1 y4 q5
    refine wpAnyH_done (by kernel_rfl) ?_ _
    unfold qeo
    go_simp
    go_wp2_with fail
    go_roundw
    case rel =>
     obtain ⟨w8,hw8⟩ : ∃ w8,w8=w7.setCell ⟨w.heap.size+1,4,none⟩ (.slice A7 (k+1) c7):=⟨_,rfl⟩
     have hc78:Chg (fun b=>b=w.heap.size+1) w7 w8:=by rw [hw8];exact (Chg.refl (fun b=>b=w.heap.size+1) w7).set ⟨w.heap.size+1,4,none⟩ _ fun _=>rfl
     rw [←hw8]
     refine ⟨k+1,A7,c7,R ++ [g'],sl ++ [(A2,c2)],by have:=HLT.out;omega,by go_num,HTK.out.symm,by show (R ++ [g']).length=_;rw [List.length_append,HRL.out];rfl,HF7.out.chg hc78 (fun x hx=>by have hx':x=w.heap.size+1:=hx;omega),?_,hc78.box HR7.out (by show ¬ w.heap.size=w.heap.size+1;omega),HB7.out.trans (hc78.below (fun b hb h=>by have h':b=w.heap.size+1:=h;omega) HB7.out.size)⟩
     unfold OB
     rw [hw8,qae HO7.out]
     rfl
    case measure=>have:=HLT.out;simp [intOf];omega
   ·have hii : ¬ (k:Int) < (N:Int):=by omega
    obtain rfl:k=N:=by omega
    have HRF:=hid (show R=f.args.map (qde vb) by rw [HRE.out,HN.out,List.take_length])
    obtain ⟨z0,z1,z2,z3,z4,z5⟩:=HRB.out.cells
    have p0:=HRB.out.free 0
    have p1:=HRB.out.free 1
    have p2:=HRB.out.free 2
    have p3:=HRB.out.free 3
    have p4:=HRB.out.free 4
    obtain ⟨x0,x1,x2,x3,x4,x5⟩:=HOB.out.cells
    clear hk hlt
    go_wp2_with fail
    refine qag fun W9 hW9 => ?_
    have hO9:OB W9 w.heap.size f.op f.name vz f.bound X k cx:=by rw [hW9];exact qaq HRB.out
    have hC9:Chg (fun x=>x=w.heap.size) wr W9:=by rw [hW9];exact qaj _ _ _ _ _ _ _
    clear hW9 p0 p1 p2 p3 p4 z0 z1 z2 z3 z4 z5 x0 x1 x2 x3 x4 x5
    obtain ⟨r0,r1,r2,r3,r4,r5⟩:=hO9.cells
    refine bodyPost_ret (v := .agg #[.int .i64 f.op,.string f.name,.int .i64 vz,.int .i64 f.bound,.slice X k cx]) (by simp [results,Tryz.results45,go_sem,r0,r1,r2,r3,r4]) rfl ⟨_,rfl,HBL.out.trans (hC9.below (B:=w.heap.size) (fun x hx hv=>by have hv':x=w.heap.size:=hv;omega) HBL.out.size),X,cx,?_,?_⟩
    ·rw [aged_op,aged_name,HVZ.out,aged_bound,qiz,List.length_map,←HN.out]
    ·rw [qiz,←HRF.out]
     have hrd:=(HFR.out.chg hC9 (fun x hx=>by have hx':x=w.heap.size:=hx;omega)).rd (by have:=HRL.out;have:=HAS.out;have:=HN.out;omega)
     exact hrd.base (by omega)
end Go.Proofs.YtdpbgcmfeajigaaGreatDoor
