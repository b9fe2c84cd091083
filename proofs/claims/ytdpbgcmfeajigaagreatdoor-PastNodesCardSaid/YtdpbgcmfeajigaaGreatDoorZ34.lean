/-
  The law's own walk of PastNodes.
-/
import Derived.Test.YtdpbgcmfeajigaaGreatDoorZ33
set_option linter.unusedSimpArgs false
set_option linter.unusedVariables false
set_option maxHeartbeats 8000000
set_option maxRecDepth 100000
namespace Go.Proofs.YtdpbgcmfeajigaaGreatDoor
open Go.RowKit Go.Shelf
attribute [local go_sem] qab run_store_func
theorem rsmall_lit9 {D:Dom} (f:Fm) (v:Value) (k':Int) (k:Nat) (w:World) (hk:k'=(k:Int)) (h:qbj w D v f) (hl:k≤1000000) (r:Bool) (hr:decide (f.size≤k)=r) :
  Calls Tryz.prog 9 #[v,.int .i64 k'] w fun e w'=>e = .returned (.bool r)∧Below w.heap.size w w':=by
 subst hk hr
 exact rsmall_any f v k w h hl
theorem fslice_to1 (A:Option Addr) {n c k:Nat} (h:k+1≤c) (w:World):(Instr.slice 22 (.slice A n c) none (some (.int .i64 ((k:Int)+1))) none).run Tryz.prog w = .ok (.slice A (k+1) c) w:=by
 have:=qgy A (n:=n) (c:=c) (k:=k+1) h w
 rwa [show ((k+1:Nat):Int)=(k:Int)+1 by omega] at this
theorem nodes_facts {f:Fm} {i:Nat} (hi:i < (qbh f).length):qau ((qbh f).getD i default)=true∧allB qci ((qbh f).getD i default)=true∧qhd ((qbh f).getD i default).op=true∧findF ((qbh f).take i) ((qbh f).getD i default) = -1 ∧ ∀ g,g∈qaw ((qbh f).getD i default)→g∈(qbh f).take (i+1):=by
 have hm:=qax hi
 obtain ⟨_,h1,h2,h3⟩:=nodesZ_out hm
 refine ⟨h1,h3,h2,?_,fun g hg => ?_⟩
 ·unfold findF
  rw [if_neg]
  intro hx
  have h4:=(qio (g:=(qbh f).getD i default) (l:=qbh f) (k:=i) (by omega)).1 (qf5.2 hx)
  rw [nodup_idx (nodesZ_nodup f) hi] at h4
  omega
 ·have h4:=nodesZ_clo f i hi g hg
  exact qf5.1 ((qio (k:=i+1) (by omega)).2 (by omega))
theorem conv_u8 (x:Int) (h0:0≤x) (h1:x≤255) (w:World):(Go.convert 5 3 (.int .u8 x)).run Tryz.prog w = .ok (.int .i64 x) w:=by
 rw [run_convert_int w 5 3 .u8 _ (by kernel_rfl) (by kernel_rfl)]
 have e:Tryz.prog.intKind 3 = .i64:=by kernel_rfl
 rw [e,IntWalk.i64_in _ (by omega)]
theorem nodesZ_len (f:Fm):(qbh f).length≤400:=by
 unfold qbh
 split
 ·rename_i h
  have h1:=(qfo (qaw f) []).2
  have h2:=qgq f
  have h3:=(qb7 h).1
  simp at h1;omega
 ·simp
theorem pastnodes_law {D:Dom} (f:Fm) (v:Value) (z:Int) (w:World) (hf:qbj w D v f) (hz0:0≤z) (hz1:z≤255) (hg:GF w) (hk:GK w) :
  Calls Tryz.prog 3 #[v,.int .u8 z] w fun e w'=>e = .returned (.bool true)∧Below w.heap.size w w':=by
 obtain ⟨AF,cF,rfl,hfa⟩:=hf
 have HF:=hid hfa.old
 have HG:=hid hg
 have HK:=hid hk
 have HZ:=hid (And.intro hz0 hz1)
 have hal:=hfa.len.1
 clear hfa hg hk
 go_enter Tryz.func3,Tryz.ntmps3
 go_upto_region 1 with (fail)
 refine qai fun W hW => ?_
 have HB:=hid (show Below w.heap.size w W by rw [hW];go_grown)
 have HO:=hid (show OB W w.heap.size f.op f.name f.val f.bound AF f.args.length cF by rw [hW];exact at_new _ _ _ rfl)
 clear hW
 have HHD:=hid (head9_any W (HG.out.below HB.out HG.out.pos) (HK.out.below HB.out HK.out.pos))
 go_upto_region 2 with (go_at_call 8;(with_reducible refine HHD.out.mono ?_);rintro e V ⟨rfl,hbV⟩;have HBV:=hid hbV;clear hbV)
 have HBW:=hid (qaf HB.out HBV.out)
 have HOV:=hid (HO.out.below HBV.out)
 have HFV:=hid (HF.out.any HBW.out)
 have HGV:=hid (HG.out.below HBW.out HG.out.pos)
 have HKV:=hid (HK.out.below HBW.out HK.out.pos)
 clear HO HHD HBV HB HF HG HK
 obtain ⟨t0,t1,t2,t3,t4,t5⟩:=HOV.out.cells
 obtain ⟨sm,hsm⟩ : ∃ r,decide (f.size≤120)=r:=⟨_,rfl⟩
 have HSM:=hid (rsmall_lit9 (D:=qbi) f (.agg #[.int .i64 f.op,.string f.name,.int .i64 f.val,.int .i64 f.bound,.slice AF f.args.length cF]) 120 120 V rfl ⟨AF,cF,rfl,HFV.out⟩ (by omega) sm hsm)
 have HSZ:=hid hsm
 clear hsm
 cases sm
 ·go_wp2_with (go_at_call 9;(with_reducible refine HSM.out.mono ?_);rintro e V2 ⟨rfl,hb2⟩;have HB2:=hid hb2;clear hb2)
  go_ret
  exact ⟨rfl,qaf HBW.out HB2.out⟩
 have HS120:=hid (show f.size≤120 from of_decide_eq_true HSZ.out)
 have HND:Hid (∀ (X:World),Below V.heap.size V X→Calls Tryz.prog 10 #[.agg #[.int .i64 f.op,.string f.name,.int .i64 f.val,.int .i64 f.bound,.slice AF f.args.length cF]] X fun e w' => ∃ A c,e = .returned (.slice A (qbh f).length c)∧RdA w' (Cl w') (qbh f) A c∧Below V.heap.size V w'):=hid fun X hb=>by
  refine (nodes_top (D:=qbi) f _ X ⟨AF,cF,rfl,HFV.out.any hb⟩ (HGV.out.below hb HGV.out.pos) (HKV.out.below hb HKV.out.pos)).mono ?_
  rintro e w' ⟨A,c,rfl,ha,hb'⟩
  exact ⟨A,c,rfl,ha.mono fun _ h _=>h.2,qaf hb hb'⟩
 obtain ⟨L,hL⟩ : ∃ L,qbh f=L:=⟨_,rfl⟩
 have HL:=hid hL
 have HLL:=hid (show L.length≤400 by rw [←hL];exact nodesZ_len f)
 rw [hL] at HND
 clear hL
 have hLb:=HLL.out
 go_upto_region 5 with (first
  | (go_at_call 9;(with_reducible refine HSM.out.mono ?_);rintro e V2 ⟨rfl,hb2⟩;clear t0 t1 t2 t3 t4 t5;obtain ⟨t0,t1,t2,t3,t4,t5⟩:=(HOV.out.below hb2).cells;have HB2:=hid hb2;clear hb2)
  | (go_at_call 10;(with_reducible refine (HND.out _ HB2.out).mono ?_);rintro e V3 ⟨AN,cN,rfl,ha,hb3⟩;clear t0 t1 t2 t3 t4 t5;obtain ⟨t0,t1,t2,t3,t4,t5⟩:=(HOV.out.below hb3).cells;have HN:=hid ha;have HB3:=hid hb3;clear ha hb3))
 obtain ⟨lo,hlo⟩ : ∃ r,qau f=r:=⟨_,rfl⟩
 have HLOZ:=hid hlo
 have HLO:=hid (loose9_any f (.agg #[.int .i64 f.op,.string f.name,.int .i64 f.val,.int .i64 f.bound,.slice AF f.args.length cF]) V3 ⟨AF,cF,rfl,HFV.out.any HB3.out⟩ lo hlo)
 clear hlo
 cases lo
 ·have HL0:=hid (show L = [] by rw [←HL.out];unfold qbh;rw [HLOZ.out];rfl)
  have hl0:L.length=0:=by rw [HL0.out];rfl
  rw [hl0]
  clear hl0
  go_wp2_with (go_at_call 11;(with_reducible refine HLO.out.mono ?_);rintro e V4 ⟨rfl,hb4⟩;have HB4:=hid hb4;clear hb4)
  go_ret
  exact ⟨rfl,qaf (qaf HBW.out HB3.out) HB4.out⟩
 go_upto_region 7 with (go_at_call 11;(with_reducible refine HLO.out.mono ?_);rintro e V4 ⟨rfl,hb4⟩;have HB4:=hid hb4;clear hb4 t0 t1 t2 t3 t4 t5)
 have HBX:=hid (qaf HB3.out HB4.out)
 have HNX:=hid (HN.out.clBelow HB4.out)
 clear HN HB3 HB4 HLO HND HSM
 go_wp2_with fail
 go_loopw [7] (fun r wr => ∃ k:Nat,k≤L.length∧r = .int .i64 (k:Int)∧Below V4.heap.size V4 wr) (fun r _=>L.length - (intOf r).toNat)
 case atStart=>exact ⟨0,Nat.zero_le _,rfl,by first | exact Below.refl _ _ | go_grown⟩
 case round =>
  obtain ⟨i,hi,rfl,hbl⟩:=hrel
  have HBL:=hid hbl
  clear hbl
  by_cases hlt:i < L.length
  ·have hii:(i:Int) < (L.length:Int):=by omega
   have hi0:(0:Int)≤(i:Int):=by omega
   have hlc:=HNX.out.len.2.1
   obtain ⟨b1,o1,A',c',g,rfl,HX,hgf⟩:=(HNX.out.clBelow HBL.out).get hlt
   have HGF:=hid hgf
   have HFA:=hid (nodes_facts (f:=f) (i:=i) (by rw [HL.out];exact hlt))
   rw [HL.out,HX.out] at HFA
   have HLT:=hid hlt
   have HLC:=hid hlc
   have HGS:=hid (show g.size≤400 from (qb7 HFA.out.1).1)
   have HXG:Hid (∀ W':World,Below wr.heap.size wr W'→qcp W' qbi b1 (o1+i * 5) g A' c'∧RdA W' qbi L (some ⟨b1,o1,none⟩) cN∧GF W'):=hid fun W' hb =>
    ⟨(HGF.out.old.keep (Keeps.of_below hb fun _ h=>h)).mono fun _ _ _=>trivial,HNX.out.any (qaf HBL.out hb),HGV.out.below (qaf HBX.out (qaf HBL.out hb)) HGV.out.pos⟩
   have HCELL:Hid (∀ W':World,Below wr.heap.size wr W'→W'.cell? ⟨b1,o1+i * 5,none⟩=some (.int .i64 g.op)∧W'.cell? ⟨b1,o1+i * 5+1,none⟩=some (.string g.name)∧W'.cell? ⟨b1,o1+i * 5+2,none⟩=some (.int .i64 g.val)∧W'.cell? ⟨b1,o1+i * 5+3,none⟩=some (.int .i64 g.bound)∧W'.cell? ⟨b1,o1+i * 5+4,none⟩=some (.slice A' g.args.length c')):=hid fun W' hb=>by
    have hq:=(HXG.out W' hb).1
    exact ⟨hq.c0,hq.c1,hq.c2,hq.c3,hq.c4⟩
   have HC1:Hid (∀ W':World,Below wr.heap.size wr W'→Calls Tryz.prog 11 #[.agg #[.int .i64 g.op,.string g.name,.int .i64 g.val,.int .i64 g.bound,.slice A' g.args.length c']] W' fun e w'=>e = .returned (.bool true)∧Below wr.heap.size wr w'):=hid fun W' hb=>by
    refine (loose9_any g _ W' (qbj.cells5 (HXG.out W' hb).1.args) true HFA.out.1).mono ?_
    rintro e w' ⟨rfl,hb'⟩
    exact ⟨rfl,qaf hb hb'⟩
   have HC2:Hid (∀ W':World,Below wr.heap.size wr W'→Calls Tryz.prog 12 #[.agg #[.int .i64 g.op,.string g.name,.int .i64 g.val,.int .i64 g.bound,.slice A' g.args.length c']] W' fun e w'=>e = .returned (.bool true)∧Below wr.heap.size wr w'):=hid fun W' hb=>by
    refine (qfa g _ W' (qbj.cells5 (HXG.out W' hb).1.args) (HXG.out W' hb).2.2 (by have:=(qb7 HFA.out.1).2.1;omega)).mono ?_
    rintro e w' ⟨rfl,hb'⟩
    rw [HFA.out.2.1]
    exact ⟨rfl,qaf hb hb'⟩
   have HC3:Hid (∀ W':World,Below wr.heap.size wr W'→Calls Tryz.prog 13 #[.int .i64 g.op] W' fun e w'=>e = .returned (.bool true)∧Below wr.heap.size wr w'):=hid fun W' hb=>by
    refine (qi2 g.op W').mono ?_
    rintro e w' ⟨rfl,hw⟩
    rw [hw,HFA.out.2.2.1]
    exact ⟨rfl,hb⟩
   have HC4:Hid (∀ W':World,Below wr.heap.size wr W'→Calls Tryz.prog 14 #[.slice (some ⟨b1,o1,none⟩) i cN,.agg #[.int .i64 g.op,.string g.name,.int .i64 g.val,.int .i64 g.bound,.slice A' g.args.length c']] W' fun e w'=>e = .returned (.int .i64 (-1))∧Below wr.heap.size wr w'):=hid fun W' hb=>by
    have hil:i≤L.length:=Nat.le_of_lt HLT.out
    refine (qhc (L.take i) (some ⟨b1,o1,none⟩) cN i g _ W' (by rw [List.length_take];omega) ((HXG.out W' hb).2.1.take hil) (qbj.cells5 (HXG.out W' hb).1.args)).mono ?_
    rintro e w' ⟨rfl,hb'⟩
    rw [HFA.out.2.2.2.1]
    exact ⟨rfl,qaf hb hb'⟩
   have HC5:Hid (∀ W':World,Below wr.heap.size wr W'→Calls Tryz.prog 15 #[.slice (some ⟨b1,o1,none⟩) (i+1) cN,.agg #[.int .i64 g.op,.string g.name,.int .i64 g.val,.int .i64 g.bound,.slice A' g.args.length c']] W' fun e w'=>e = .returned (.bool true)∧Below wr.heap.size wr w'):=hid fun W' hb=>by
    have hil:i+1≤L.length:=HLT.out
    refine (rhas9_any (L.take (i+1)) (some ⟨b1,o1,none⟩) cN (i+1) g _ W' (by rw [List.length_take];omega) ((HXG.out W' hb).2.1.take hil) (qbj.cells5 (HXG.out W' hb).1.args) HFA.out.2.2.2.2 (by have:=HGS.out;omega)).mono ?_
    rintro e w' ⟨rfl,hb'⟩
    exact ⟨rfl,qaf hb hb'⟩
   have hsl:=fun W=>qgy (some ⟨b1,o1,none⟩) (n:=L.length) (c:=cN) (k:=i) (by omega) W
   have hsl1:=fun W=>fslice_to1 (some ⟨b1,o1,none⟩) (n:=L.length) (c:=cN) (k:=i) (by omega) W
   have hsl2:=fun W=>qgy (some ⟨b1,o1,none⟩) (n:=L.length) (c:=cN) (k:=i+1) (by omega) W
   have hw1:IntKind.i64.wrap ((i:Int)+1)=(i:Int)+1:=IntWalk.i64_in _ (by omega)
   have HI0:=hid (Below.refl wr.heap.size wr)
   have HI1:=hid (show Below wr.heap.size wr wr.drew from (Below.refl wr.heap.size wr).drew)
   have HI2:=hid (show ∀ i,Below wr.heap.size wr (wr.drewN i) from fun i=>below_drewN (Below.refl wr.heap.size wr) i)
   obtain ⟨p0,p1,p2,p3,p4⟩:=HCELL.out wr (Below.refl _ _)
   have zb:b1 < wr.heap.size:=hgf.lt
   clear hgf HX hlt hlc
   go_upto_region 10 with (fail)
   go_region_held3 (fun W':World=>W'.cell? ⟨b1,o1+i * 5,none⟩=some (.int .i64 g.op)∧W'.cell? ⟨b1,o1+i * 5+1,none⟩=some (.string g.name)∧W'.cell? ⟨b1,o1+i * 5+2,none⟩=some (.int .i64 g.val)∧W'.cell? ⟨b1,o1+i * 5+3,none⟩=some (.int .i64 g.bound)∧W'.cell? ⟨b1,o1+i * 5+4,none⟩=some (.slice A' g.args.length c'))
    (first | (with_reducible exact HCELL.out _ hI) | (go_keep;done))
    (first
     | (go_at_call 11;(with_reducible refine (HC1.out _ (by first | exact HI0.out | exact HI1.out | exact HI2.out _)).mono ?_);rintro e W9 ⟨rfl,hI⟩)
     | (go_at_call 12;(with_reducible refine (HC2.out _ hI).mono ?_);rintro e W9 ⟨rfl,hI2⟩;clear hI;have hI:=hI2;clear hI2)
     | (go_at_call 13;(with_reducible refine (HC3.out _ hI).mono ?_);rintro e W9 ⟨rfl,hI2⟩;clear hI;have hI:=hI2;clear hI2)
     | (go_at_call 14;(with_reducible refine (HC4.out _ hI).mono ?_);rintro e W9 ⟨rfl,hI2⟩;clear hI;have hI:=hI2;clear hI2)
     | (go_at_call 15;(with_reducible refine (HC5.out _ hI).mono ?_);rintro e W9 ⟨rfl,hI2⟩;clear hI;have hI:=hI2;clear hI2))
   all_goals
    have HI:=hid hI
    clear hI p0 p1 p2 p3 p4
    go_wp2_with fail
    go_roundw
    case rel=>exact ⟨i+1,by have:=HLT.out;omega,by go_num,qaf HBL.out HI.out⟩
    case measure=>have:=HLT.out;simp [intOf];omega
  ·have hii : ¬ (i:Int) < (L.length:Int):=by omega
   clear hlt
   obtain ⟨t0,t1,t2,t3,t4,t5⟩:=(HOV.out.below (qaf HBX.out HBL.out)).cells
   by_cases hN0:f.args.length=0
   ·have HL0:=hid (show L = [] by rw [←HL.out];exact nodesZ_leaf (List.eq_nil_of_length_eq_zero hN0))
    have dN:((f.args.length:Int) == 0)=true:=by rw [hN0];rfl
    have hl0:L.length=0:=by rw [HL0.out];rfl
    have dl:((L.length:Int) == 0)=true:=by rw [hl0];rfl
    clear hN0 hl0
    go_wp2_with fail
    go_ret
    exact ⟨rfl,qaf HBW.out (qaf HBX.out HBL.out)⟩
   have dN:((f.args.length:Int) == 0)=false:=qbg (by omega)
   have hNz : ¬ (f.args.length:Int)=0:=by omega
   obtain ⟨q,hq⟩ : ∃ q:Nat,z % (f.args.length:Int)=(q:Int):=⟨(z % (f.args.length:Int)).toNat,by have:=Int.emod_nonneg z hNz;omega⟩
   have htm:z.tmod (f.args.length:Int)=(q:Int):=by rw [Int.tmod_eq_emod_of_nonneg HZ.out.1];exact hq
   have hqN:q < f.args.length:=by have:=Int.emod_lt_of_pos z (show 0 < (f.args.length:Int) by omega);omega
   have hqi:(q:Int) < (f.args.length:Int):=by omega
   have hq0:(0:Int)≤(q:Int):=by omega
   have hcv:=fun W:World=>conv_u8 z HZ.out.1 HZ.out.2 W
   have HBY:=hid (qaf HBX.out HBL.out)
   obtain ⟨b1,o1,A',c',g,hAF,HX,hgf⟩:=(HFV.out.any HBY.out).get hqN
   subst hAF
   have HGM:=hid (show g∈f.args by rw [←HX.out];exact qax hqN)
   have HGF:=hid hgf
   have HCELL:Hid (∀ W':World,Below wr.heap.size wr W'→W'.cell? ⟨w.heap.size,4,none⟩=some (.slice (some ⟨b1,o1,none⟩) f.args.length cF)∧W'.cell? ⟨b1,o1+q * 5,none⟩=some (.int .i64 g.op)∧W'.cell? ⟨b1,o1+q * 5+1,none⟩=some (.string g.name)∧W'.cell? ⟨b1,o1+q * 5+2,none⟩=some (.int .i64 g.val)∧W'.cell? ⟨b1,o1+q * 5+3,none⟩=some (.int .i64 g.bound)∧W'.cell? ⟨b1,o1+q * 5+4,none⟩=some (.slice A' g.args.length c')):=hid fun W' hb=>by
    have hh:=HGF.out.old.keep (Keeps.of_below hb fun _ h=>h)
    exact ⟨((HOV.out.below (qaf HBY.out hb)).cells).2.2.2.2.1,hh.c0,hh.c1,hh.c2,hh.c3,hh.c4⟩
   obtain ⟨M,hM⟩ : ∃ M,qbh g=M:=⟨_,rfl⟩
   have HM:=hid hM
   have HML:=hid (show M.length≤400 by rw [←hM];exact nodesZ_len g)
   have HMS:=hid (show ∀ y,y∈M→y∈L from fun y hy=>by rw [←HL.out];exact nodesZ_arg HLOZ.out HGM.out (by rw [HM.out];exact hy))
   have HNG:Hid (∀ (X:World),Below wr.heap.size wr X→Calls Tryz.prog 10 #[.agg #[.int .i64 g.op,.string g.name,.int .i64 g.val,.int .i64 g.bound,.slice A' g.args.length c']] X fun e w' => ∃ A c,e = .returned (.slice A M.length c)∧RdA w' qbi M A c∧Below wr.heap.size wr w'):=hid fun X hb=>by
    refine (nodes_top (D:=qbi) g _ X (qbj.cells5 ((HGF.out.old.keep (Keeps.of_below hb fun _ h=>h)).args.mono fun _ _ _=>trivial)) (HGV.out.below (qaf HBY.out hb) HGV.out.pos) (HKV.out.below (qaf HBY.out hb) HKV.out.pos)).mono ?_
    rintro e w' ⟨A,c,rfl,ha,hb'⟩
    rw [HM.out] at ha ⊢
    exact ⟨A,c,rfl,ha.mono fun _ _ _=>trivial,qaf hb hb'⟩
   have HI0:=hid (Below.refl wr.heap.size wr)
   have HI1:=hid (show Below wr.heap.size wr wr.drew from (Below.refl wr.heap.size wr).drew)
   have HI2:=hid (show ∀ i,Below wr.heap.size wr (wr.drewN i) from fun i=>below_drewN (Below.refl wr.heap.size wr) i)
   obtain ⟨y4,p0,p1,p2,p3,p4⟩:=HCELL.out wr (Below.refl _ _)
   have zb:b1 < wr.heap.size:=hgf.lt
   have hwr:IntKind.i64.wrap (q:Int)=(q:Int):=IntWalk.i64_in _ (by have:=hal;omega)
   clear hgf HX hM hq hqN t0 t1 t2 t3 t4
   go_upto_region 14 with (fail)
   go_region_held3 (fun W':World=>W'.cell? ⟨w.heap.size,4,none⟩=some (.slice (some ⟨b1,o1,none⟩) f.args.length cF)∧W'.cell? ⟨b1,o1+q * 5,none⟩=some (.int .i64 g.op)∧W'.cell? ⟨b1,o1+q * 5+1,none⟩=some (.string g.name)∧W'.cell? ⟨b1,o1+q * 5+2,none⟩=some (.int .i64 g.val)∧W'.cell? ⟨b1,o1+q * 5+3,none⟩=some (.int .i64 g.bound)∧W'.cell? ⟨b1,o1+q * 5+4,none⟩=some (.slice A' g.args.length c'))
    (first | (with_reducible exact HCELL.out _ hI) | (go_keep;done))
    ((go_at_call 10;(with_reducible refine (HNG.out _ (by first | exact HI0.out | exact HI1.out | exact HI2.out _)).mono ?_);rintro e W9 ⟨AM,cM,rfl,ha,hI⟩;have HM9:=hid ha;clear ha))
   all_goals
    have HI:=hid (qaf HBY.out hI)
    have HBZ:=hid hI
    have HMD:=hid HM9.out.old
    clear hI y4 p0 p1 p2 p3 p4 HM9
    have hMb:=HML.out
    go_wp2_with fail
    go_loopw [9] (fun r wr9 => ∃ k:Nat,k≤M.length∧r = .int .i64 (k:Int)∧Below W9.heap.size W9 wr9) (fun r _=>M.length - (intOf r).toNat)
    case atStart=>exact ⟨0,Nat.zero_le _,rfl,by first | exact Below.refl _ _ | go_grown⟩
    case round =>
     obtain ⟨i,hi,rfl,hbl⟩:=hrel
     have HBM:=hid hbl
     clear hbl
     by_cases hlt:i < M.length
     ·have hii:(i:Int) < (M.length:Int):=by omega
      have hi0:(0:Int)≤(i:Int):=by omega
      obtain ⟨b2,o2,A3,c3,x,rfl,HX,hxf⟩:=(HMD.out.keep (Keeps.of_below HBM.out fun _ h=>h)).get hlt
      have hxL:x∈L:=HMS.out x (by rw [←HX.out];exact qax hlt)
      obtain ⟨fz,hfz⟩ : ∃ z,findF L x=z:=⟨_,rfl⟩
      have hz : ¬ fz < 0:=by rw [←hfz];unfold findF;rw [if_pos hxL];omega
      have HFI:=hid (qhc (D:=qbi) L AN cN L.length x _ _ rfl (HNX.out.any (qaf (qaf HBL.out (HBZ.out)) HBM.out)) (qbj.cells5 hxf.args))
      rw [hfz] at HFI
      obtain ⟨q1,q2,p0,p1,p2,p3,p4,_⟩:=hxf
      have zb2:=Nat.lt_of_lt_of_le q1 HBM.out.size
      have HLT:=hid hlt
      clear hfz hxL HX hlt
      go_wp2_with (go_at_call 14;(with_reducible refine HFI.out.mono ?_);rintro e W8 ⟨rfl,hb8⟩;have HB8:=hid hb8;clear hb8)
      go_roundw
      case rel=>exact ⟨i+1,by have:=HLT.out;omega,by go_num,qaf HBM.out HB8.out⟩
      case measure=>have:=HLT.out;simp [intOf];omega
     ·have hii : ¬ (i:Int) < (M.length:Int):=by omega
      clear hlt
      have HBQ:=hid (qaf (qaf (qaf HBX.out HBL.out) HBZ.out) HBM.out)
      have HBN:=hid (qaf (qaf HBL.out HBZ.out) HBM.out)
      have HOQ:=hid (HOV.out.below HBQ.out)
      have HNQ:=hid (HNX.out.clBelow HBN.out)
      have HFQ:=hid (HFV.out.any HBQ.out)
      have HGQ:=hid (HGV.out.below HBQ.out HGV.out.pos)
      have HBF:=hid (qaf HBW.out HBQ.out)
      clear HBM
      obtain ⟨rm,hrm⟩ : ∃ r,qhd f.op=r:=⟨_,rfl⟩
      have HRM:=hid hrm
      have HLA:Hid (∀ W':World,Below wr.heap.size wr W'→Calls Tryz.prog 13 #[.int .i64 f.op] W' fun e w'=>e = .returned (.bool rm)∧Below wr.heap.size wr w'):=hid fun W' hb=>by
       refine (qi2 f.op W').mono ?_
       rintro e w' ⟨rfl,hw⟩
       rw [hw,hrm]
       exact ⟨rfl,hb⟩
      clear hrm
      obtain ⟨AG,hAG⟩ : ∃ x,x=(some ⟨b1,o1,none⟩:Option Addr):=⟨_,rfl⟩
      rw [←hAG] at HOQ HFQ
      clear hAG
      have HI0:=hid (Below.refl wr.heap.size wr)
      have HI1:=hid (show Below wr.heap.size wr wr.drew from (Below.refl wr.heap.size wr).drew)
      have HI2:=hid (show ∀ i,Below wr.heap.size wr (wr.drewN i) from fun i=>below_drewN (Below.refl wr.heap.size wr) i)
      cases rm
      ·have HCELL:Hid (∀ W':World,Below wr.heap.size wr W'→W'.cell? ⟨w.heap.size,0,none⟩=some (.int .i64 f.op)):=hid fun W' hb=>(HOQ.out.below hb).cells.1
       have x0:=HOQ.out.cells.1
       have x5:=HOQ.out.cells.2.2.2.2.2
       go_upto_region 20 with (fail)
       refine wp_region_held_drew (S:=fun W':World=>W'.cell? ⟨w.heap.size,0,none⟩=some (.int .i64 f.op)) (by kernel_rfl) x0 (fun hHeld => ?_)
       refine wpAnyH_take (i:=0) (v := ?_) rfl (by kernel_rfl) (by kernel_rfl) (by kernel_rfl) (fun _ _ _ h=>h) (Or.inl ⟨by kernel_rfl,?_⟩) (by assumption) ?_
       rotate_left
       ·intro w hSw;(try dsimp only at hSw);go_simp;(try (with_reducible rfl))
       try simp only [Act.put,List.setIfInBounds_toArray,List.set_cons_zero,List.set_cons_succ]
       refine wpAnyH_take (i:=1) (v := ?_) rfl (by kernel_rfl) (by kernel_rfl) (by kernel_rfl) (fun _ _ _ h=>h) (Or.inl ⟨by kernel_rfl,?_⟩) (by assumption) ?_
       rotate_left
       ·intro w hSw;(try dsimp only at hSw);go_simp;(try (with_reducible rfl))
       try simp only [Act.put,List.setIfInBounds_toArray,List.set_cons_zero,List.set_cons_succ]
       refine wpAnyH_take (i:=2) (v := ?_) rfl (by kernel_rfl) (by kernel_rfl) (by kernel_rfl) (fun _ _ _ h=>h) (Or.inl ⟨by kernel_rfl,?_⟩) (by assumption) ?_
       rotate_left
       ·intro w hSw;(try dsimp only at hSw);go_simp;(try (with_reducible rfl))
       try simp only [Act.put,List.setIfInBounds_toArray,List.set_cons_zero,List.set_cons_succ]
       refine wpAnyH_take (i:=3) (v := ?_) rfl (by kernel_rfl) (by kernel_rfl) (by kernel_rfl) (fun _ _ _ h=>h) (Or.inl ⟨by kernel_rfl,?_⟩) (by assumption) ?_
       rotate_left
       ·intro w hSw;(try dsimp only at hSw);go_simp;(try (with_reducible rfl))
       try simp only [Act.put,List.setIfInBounds_toArray,List.set_cons_zero,List.set_cons_succ]
       refine wpAnyH_ready (rs := [4]) (by kernel_rfl) (by simp) (AllReadyH.cons rfl (fun K hK => ?_) AllReadyH.nil)
       go_simp
       (go_at_call 13;(with_reducible refine (HLA.out _ (by first | exact HI0.out | exact HI1.out | exact HI2.out _)).mono ?_);rintro e W7 ⟨rfl,hI⟩;have HJ:=hid hI;clear hI)
       go_wp2_with fail
       refine hK.out _ _ ?_ (fun hHeld => ?_)
       ·exact HCELL.out _ HJ.out
       clear hK K
       try simp only [Act.put,List.setIfInBounds_toArray,List.set_cons_zero,List.set_cons_succ]
       refine wpAnyH_take (i:=5) (v := ?_) rfl (by kernel_rfl) (by kernel_rfl) (by kernel_rfl) (fun _ _ _ h=>h) (Or.inl ⟨by kernel_rfl,?_⟩) (by assumption) ?_
       rotate_left
       ·intro w hSw;(try dsimp only at hSw);go_simp;(try (with_reducible rfl))
       try simp only [Act.put,List.setIfInBounds_toArray,List.set_cons_zero,List.set_cons_succ]
       refine wpAnyH_take (i:=6) (v := ?_) rfl (by kernel_rfl) (by kernel_rfl) (by kernel_rfl) (fun _ _ _ h=>h) (Or.inl ⟨by kernel_rfl,?_⟩) (by assumption) ?_
       rotate_left
       ·intro w hSw;(try dsimp only at hSw);go_simp;(try (with_reducible rfl))
       try simp only [Act.put,List.setIfInBounds_toArray,List.set_cons_zero,List.set_cons_succ]
       refine wpAnyH_take (i:=7) (v:=undef) rfl (by kernel_rfl) (by kernel_rfl) (by kernel_rfl) (fun _ _ _ h=>h) (Or.inr ⟨by kernel_rfl,rfl⟩) (by assumption) ?_
       try simp only [Act.put,List.setIfInBounds_toArray,List.set_cons_zero,List.set_cons_succ]
       refine wpAnyH_take (i:=8) (v:=undef) rfl (by kernel_rfl) (by kernel_rfl) (by kernel_rfl) (fun _ _ _ h=>h) (Or.inr ⟨by kernel_rfl,rfl⟩) (by assumption) ?_
       try simp only [Act.put,List.setIfInBounds_toArray,List.set_cons_zero,List.set_cons_succ]
       refine wpAnyH_take (i:=9) (v:=undef) rfl (by kernel_rfl) (by kernel_rfl) (by kernel_rfl) (fun _ _ _ h=>h) (Or.inr ⟨by kernel_rfl,rfl⟩) (by assumption) ?_
       try simp only [Act.put,List.setIfInBounds_toArray,List.set_cons_zero,List.set_cons_succ]
       refine wpAnyH_take (i:=10) (v:=undef) rfl (by kernel_rfl) (by kernel_rfl) (by kernel_rfl) (fun _ _ _ h=>h) (Or.inr ⟨by kernel_rfl,rfl⟩) (by assumption) ?_
       try simp only [Act.put,List.setIfInBounds_toArray,List.set_cons_zero,List.set_cons_succ]
       refine wpAnyH_take (i:=11) (v:=undef) rfl (by kernel_rfl) (by kernel_rfl) (by kernel_rfl) (fun _ _ _ h=>h) (Or.inr ⟨by kernel_rfl,rfl⟩) (by assumption) ?_
       try simp only [Act.put,List.setIfInBounds_toArray,List.set_cons_zero,List.set_cons_succ]
       refine wpAnyH_take (i:=12) (v:=undef) rfl (by kernel_rfl) (by kernel_rfl) (by kernel_rfl) (fun _ _ _ h=>h) (Or.inr ⟨by kernel_rfl,rfl⟩) (by assumption) ?_
       try simp only [Act.put,List.setIfInBounds_toArray,List.set_cons_zero,List.set_cons_succ]
       refine wpAnyH_take (i:=13) (v:=undef) rfl (by kernel_rfl) (by kernel_rfl) (by kernel_rfl) (fun _ _ _ h=>h) (Or.inr ⟨by kernel_rfl,rfl⟩) (by assumption) ?_
       try simp only [Act.put,List.setIfInBounds_toArray,List.set_cons_zero,List.set_cons_succ]
       refine wpAnyH_take (i:=14) (v:=undef) rfl (by kernel_rfl) (by kernel_rfl) (by kernel_rfl) (fun _ _ _ h=>h) (Or.inr ⟨by kernel_rfl,rfl⟩) (by assumption) ?_
       try simp only [Act.put,List.setIfInBounds_toArray,List.set_cons_zero,List.set_cons_succ]
       refine wpAnyH_take (i:=15) (v:=undef) rfl (by kernel_rfl) (by kernel_rfl) (by kernel_rfl) (fun _ _ _ h=>h) (Or.inr ⟨by kernel_rfl,rfl⟩) (by assumption) ?_
       try simp only [Act.put,List.setIfInBounds_toArray,List.set_cons_zero,List.set_cons_succ]
       refine wpAnyH_take (i:=16) (v:=undef) rfl (by kernel_rfl) (by kernel_rfl) (by kernel_rfl) (fun _ _ _ h=>h) (Or.inr ⟨by kernel_rfl,rfl⟩) (by assumption) ?_
       try simp only [Act.put,List.setIfInBounds_toArray,List.set_cons_zero,List.set_cons_succ]
       refine wpAnyH_take (i:=17) (v:=undef) rfl (by kernel_rfl) (by kernel_rfl) (by kernel_rfl) (fun _ _ _ h=>h) (Or.inr ⟨by kernel_rfl,rfl⟩) (by assumption) ?_
       try simp only [Act.put,List.setIfInBounds_toArray,List.set_cons_zero,List.set_cons_succ]
       refine wpAnyH_take (i:=18) (v:=undef) rfl (by kernel_rfl) (by kernel_rfl) (by kernel_rfl) (fun _ _ _ h=>h) (Or.inr ⟨by kernel_rfl,rfl⟩) (by assumption) ?_
       try simp only [Act.put,List.setIfInBounds_toArray,List.set_cons_zero,List.set_cons_succ]
       refine wpAnyH_take (i:=19) (v:=undef) rfl (by kernel_rfl) (by kernel_rfl) (by kernel_rfl) (fun _ _ _ h=>h) (Or.inr ⟨by kernel_rfl,rfl⟩) (by assumption) ?_
       try simp only [Act.put,List.setIfInBounds_toArray,List.set_cons_zero,List.set_cons_succ]
       refine wpAnyH_take (i:=20) (v:=undef) rfl (by kernel_rfl) (by kernel_rfl) (by kernel_rfl) (fun _ _ _ h=>h) (Or.inr ⟨by kernel_rfl,rfl⟩) (by assumption) ?_
       try simp only [Act.put,List.setIfInBounds_toArray,List.set_cons_zero,List.set_cons_succ]
       refine wpAnyH_take (i:=21) (v := ?_) rfl (by kernel_rfl) (by kernel_rfl) (by kernel_rfl) (fun _ _ _ h=>h) (Or.inl ⟨by kernel_rfl,?_⟩) (by assumption) ?_
       rotate_left
       ·intro w hSw;(try dsimp only at hSw);go_simp;(try (with_reducible rfl))
       try simp only [Act.put,List.setIfInBounds_toArray,List.set_cons_zero,List.set_cons_succ]
       refine wpAnyH_ready (rs := [22]) (by kernel_rfl) (by simp) (AllReadyH.cons rfl (fun K hK => ?_) AllReadyH.nil)
       go_simp
       refine hK.out _ _ ?_ (fun hHeld => ?_)
       ·exact HCELL.out _ HJ.out
       clear hK K
       try simp only [Act.put,List.setIfInBounds_toArray,List.set_cons_zero,List.set_cons_succ]
       refine wpAnyH_ready (rs := [23]) (by kernel_rfl) (by simp) (AllReadyH.cons rfl (fun K hK => ?_) AllReadyH.nil)
       go_simp
       refine hK.out _ _ ?_ (fun hHeld => ?_)
       ·exact HCELL.out _ HJ.out
       clear hK K
       try simp only [Act.put,List.setIfInBounds_toArray,List.set_cons_zero,List.set_cons_succ]
       refine wpAnyH_done (by kernel_rfl) ?_ _
       clear x0
       go_wp2_with fail
       go_ret
       exact ⟨rfl,qaf HBF.out HJ.out⟩
      ·obtain ⟨hl0,hla⟩:=nodesZ_last HLOZ.out HRM.out
       rw [HL.out] at hl0 hla
       obtain ⟨m,hm⟩ : ∃ m,L.length=m+1:=⟨L.length - 1,by omega⟩
       obtain ⟨b3,o3,B3,d3,x,hAN,HX,hxf⟩:=HNQ.out.get (k:=m) (by omega)
       obtain rfl:f=x:=by rw [←HX.out,←hla,hm];rfl
       subst hAN
       have HXF:=hid hxf
       have HCELL:Hid (∀ W':World,Below wr.heap.size wr W'→W'.cell? ⟨w.heap.size,0,none⟩=some (.int .i64 f.op)∧W'.cell? ⟨w.heap.size,1,none⟩=some (.string f.name)∧W'.cell? ⟨w.heap.size,2,none⟩=some (.int .i64 f.val)∧W'.cell? ⟨w.heap.size,3,none⟩=some (.int .i64 f.bound)∧W'.cell? ⟨w.heap.size,4,none⟩=some (.slice AG f.args.length cF)∧W'.cell? ⟨b3,o3+m * 5,none⟩=some (.int .i64 f.op)∧W'.cell? ⟨b3,o3+m * 5+1,none⟩=some (.string f.name)∧W'.cell? ⟨b3,o3+m * 5+2,none⟩=some (.int .i64 f.val)∧W'.cell? ⟨b3,o3+m * 5+3,none⟩=some (.int .i64 f.bound)∧W'.cell? ⟨b3,o3+m * 5+4,none⟩=some (.slice B3 f.args.length d3)):=hid fun W' hb=>by
        have hq:=HXF.out.old.keep (Keeps.of_below hb fun _ h=>h)
        obtain ⟨a0,a1,a2,a3,a4,_⟩:=(HOQ.out.below hb).cells
        exact ⟨a0,a1,a2,a3,a4,hq.c0,hq.c1,hq.c2,hq.c3,hq.c4⟩
       have HCMP:Hid (∀ W':World,Below wr.heap.size wr W'→Calls Tryz.prog 16 #[.agg #[.int .i64 f.op,.string f.name,.int .i64 f.val,.int .i64 f.bound,.slice B3 f.args.length d3],.agg #[.int .i64 f.op,.string f.name,.int .i64 f.val,.int .i64 f.bound,.slice AG f.args.length cF]] W' fun e w'=>e = .returned (.int .i64 0)∧Below wr.heap.size wr w'):=hid fun W' hb=>by
        refine (qd5 (D:=Cl W') (E:=qbi) f f _ _ W' (qbj.cells5 ((HXF.out.args).clBelow hb)) (qbj.cells5 (HFQ.out.any hb)) (by have:=HS120.out;omega) (.inl fun _ h=>h)).mono ?_
        rintro e w' ⟨rfl,hb'⟩
        rw [qf9]
        exact ⟨rfl,qaf hb hb'.below⟩
       have hm0:(0:Int)≤(m:Int):=by omega
       have hm1:(m:Int) < (m:Int)+1:=by omega
       have hm2 : ¬ (m:Int)+1≤0:=by omega
       have hm3:(0:Int) < (m:Int)+1:=by omega
       have hwm:IntKind.i64.wrap ((m:Int)+1 - 1)=(m:Int):=by rw [Int.add_sub_cancel];exact IntWalk.i64_in _ (by omega)
       have hwm2:IntKind.i64.wrap (m:Int)=(m:Int):=IntWalk.i64_in _ (by omega)
       obtain ⟨x0,x1,x2,x3,x4,z0,z1,z2,z3,z4⟩:=HCELL.out wr (Below.refl _ _)
       have x5:=HOQ.out.cells.2.2.2.2.2
       have zb3:b3 < wr.heap.size:=hxf.lt
       rw [hm]
       clear hl0 hla hm HX hxf
       go_upto_region 20 with (fail)
       go_region_held3 (fun W':World=>W'.cell? ⟨w.heap.size,0,none⟩=some (.int .i64 f.op)∧W'.cell? ⟨w.heap.size,1,none⟩=some (.string f.name)∧W'.cell? ⟨w.heap.size,2,none⟩=some (.int .i64 f.val)∧W'.cell? ⟨w.heap.size,3,none⟩=some (.int .i64 f.bound)∧W'.cell? ⟨w.heap.size,4,none⟩=some (.slice AG f.args.length cF)∧W'.cell? ⟨b3,o3+m * 5,none⟩=some (.int .i64 f.op)∧W'.cell? ⟨b3,o3+m * 5+1,none⟩=some (.string f.name)∧W'.cell? ⟨b3,o3+m * 5+2,none⟩=some (.int .i64 f.val)∧W'.cell? ⟨b3,o3+m * 5+3,none⟩=some (.int .i64 f.bound)∧W'.cell? ⟨b3,o3+m * 5+4,none⟩=some (.slice B3 f.args.length d3))
        (first | (with_reducible exact HCELL.out _ hI) | (go_keep;done))
        (first
         | (go_at_call 13;(with_reducible refine (HLA.out _ (by first | exact HI0.out | exact HI1.out | exact HI2.out _)).mono ?_);rintro e W7 ⟨rfl,hI⟩)
         | (go_at_call 16;(with_reducible refine (HCMP.out _ hI).mono ?_);rintro e W7 ⟨rfl,hI2⟩;clear hI;have hI:=hI2;clear hI2))
       all_goals
        have HJ:=hid hI
        clear hI x0 x1 x2 x3 x4 z0 z1 z2 z3 z4
        go_wp2_with fail
        go_ret
        exact ⟨rfl,qaf HBF.out HJ.out⟩
end Go.Proofs.YtdpbgcmfeajigaaGreatDoor
