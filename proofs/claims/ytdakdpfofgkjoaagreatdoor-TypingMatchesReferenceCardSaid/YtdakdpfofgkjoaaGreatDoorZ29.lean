/-
  The reference's form.
-/
import Derived.Test.YtdakdpfofgkjoaaGreatDoorZ28
set_option linter.unusedSimpArgs false
set_option linter.unusedVariables false
set_option maxHeartbeats 8000000
set_option maxRecDepth 100000
namespace Go.Proofs.YtdakdpfofgkjoaaGreatDoor
open Go.RowKit Go.Shelf
attribute [local go_sem] qad qbo
theorem argsK_len (neg:Bool) (f:Fm):(qce neg f).length=f.args.length:=qii _ _ _
theorem cellsF_one (y:Fm) (s:Option Addr × Nat):qav [y] [s]=qbr y s:=by show qbr y s ++ []=_;rw [List.append_nil]
theorem qjl.push {w w':World} {base c:Nat} {E:Dom} {A:Option Addr} {gs:List Fm} {sl:List (Option Addr × Nat)} {A':Option Addr} {c':Nat} {y:Fm} {s:Option Addr × Nat} (h:qjl w base E A c gs sl) (hg:w.grownBy w' (Value.slice A gs.length c).ownBlock)
  (hown:w'.ownsRow base 28 5 (.slice A' (gs.length+1) c') (gs.length+1) (qav gs sl ++ qbr y s)) (hat:(Value.slice A' (gs.length+1) c').ownBlock=(Value.slice A gs.length c).ownBlock∨(Value.slice A' (gs.length+1) c').ownBlock=some w.heap.size)
  (hy:RdA w (fun k=>E k∧(Value.slice A gs.length c).ownBlock≠some k) y.args s.1 s.2):qjl w' base E A' c' (gs ++ [y]) (sl ++ [s]) :=
 h.app hg (by rw [List.length_append];rfl) (by rw [cellsF_one];exact hown) hat rfl fun i hi=>by
  have:i=0:=by simpa using hi
  subst this
  exact hy
theorem qd5 {neg:Bool} {f x:Fm} {k:Nat} (hk:k < f.args.length) (hx:f.args.getD k default=x) {nf:Bool} (hn:(if k=0 then qcz neg f.op else qdr neg f.op)=nf):(qce neg f).take (k+1)=(qce neg f).take k ++ [kf nf x]:=by
 unfold qce
 rw [kfs_succ _ _ _ hk,hx,hn]
theorem RdA.first {w:World} {D:Dom} {y:Fm} {A:Option Addr} {c:Nat} (h:RdA w D [y] A c) : ∃ b o A' c',A=some ⟨b,o,none⟩∧qfc w D b o y A' c':=by
 obtain ⟨b,o,A',c',g,e,hg,hf⟩:=h.get (k:=0) (by simp)
 have:y=g:=hg.out
 subst this
 rw [Nat.zero_mul,Nat.add_zero] at hf
 exact ⟨b,o,A',c',e,hf⟩
theorem qfc.keepB {w w':World} {D:Dom} {b o:Nat} {y:Fm} {A:Option Addr} {c:Nat} (h:qfc w D b o y A c) (hb:Below w.heap.size w w'):w'.cell? ⟨b,o,none⟩=some (.int .i64 y.op)∧w'.cell? ⟨b,o+1,none⟩=some (.string y.name)∧w'.cell? ⟨b,o+2,none⟩=some (.int .i64 y.val)∧w'.cell? ⟨b,o+3,none⟩=some (.int .i64 y.bound)∧w'.cell? ⟨b,o+4,none⟩=some (.slice A y.args.length c):=by
 obtain ⟨_,hl,c0,c1,c2,c3,c4,_⟩:=h
 have k:=fun i u (hu:w.cell? ⟨b,i,none⟩=some u)=>(World.cell?_of_block (w:=w) (a:=⟨b,i,none⟩) (hb.block b hl)).trans hu
 exact ⟨k _ _ c0,k _ _ c1,k _ _ c2,k _ _ c3,k _ _ c4⟩
def RFormC (f:Fm):Prop := ∀ (neg:Bool) (v:Value) (w:World) (D:Dom),(∀ x,w.heap.size≤x→D x)→qby w D v f→qbu f=true→f.size≤1000000 →
 Calls Tryz.prog 55 #[v,.bool neg] w fun e w' => ∃ v',e = .returned v'∧qby w' D v' (kf neg f)∧Below w.heap.size w w'
theorem rform_any (f:Fm):RFormC f:=by
 refine Fm.induct (fun f ih => ?_) f
 intro neg v w D hD h hn hz
 obtain ⟨A,c,rfl,ha⟩:=h
 have hsh:=qju hn
 have hal:=qbx f.args
 have hal2:=Fm.size_eq f
 have hlen:f.args.length≤1000000:=by omega
 have HA:=hid (ha.mono (E:=fun x=>D x∧x < w.heap.size) fun x hx hl=>⟨hx,hl⟩)
 have HN:=hid hn
 have HSH:=hid hsh
 have HZ:=hid hz
 have HIH:=hid ih
 clear ha hn hsh hz hal hal2 ih
 obtain ⟨i0,hti,hz0,hz1,hz2⟩:=info_parts qbt
 have HTI:=hid hti
 have HZ0:=hid hz0
 have HZ1:=hid hz1
 have HZ2:=hid (show i0.bytes=64 from hz2)
 clear hti hz0 hz1 hz2
 go_enter Tryz.func55,Tryz.ntmps55
 go_upto_region 1 with (fail)
 refine qai fun W hW => ?_
 have HB:=hid (show Below w.heap.size w W by rw [hW];go_grown)
 have HO:=hid (show OB W w.heap.size f.op f.name f.val f.bound A f.args.length c by rw [hW];exact (qaq _ _ _ (by simp)).trans (at_new _ _ _ rfl))
 have HR:=hid (show OB W (w.heap.size+1) 0 ⟨#[]⟩ 0 0 none 0 0 by rw [hW];exact at_new _ _ _ (by simp))
 have HWS:=hid (show w.heap.size+1 < W.heap.size from lt_of_block HR.out)
 have HE:Hid (∀ k,W.heap.size≤k→D k∧k≠w.heap.size+1):=hid fun k hk=>⟨hD k (by have:=HB.out.size;omega),by have:=HWS.out;omega⟩
 clear hW
 go_wp2_with fail
 go_loopw [5,6] (fun r i wr => ∃ (k:Nat) (A':Option Addr) (c':Nat) (gs:List Fm) (sl:List (Option Addr × Nat)),k≤f.args.length∧Hid (gs=(qce neg f).take k)∧Hid (gs.length=k)∧r = .slice A' gs.length c'∧i = .int .i64 (k:Int)∧Hid (qjl wr W.heap.size (fun k=>D k∧k≠w.heap.size+1) A' c' gs sl)∧Hid (Below W.heap.size W wr)) (fun _ i _=>f.args.length - (intOf i).toNat)
 case atStart=>exact ⟨0,none,0,[],[],Nat.zero_le _,by rw [List.take_zero];exact rfl,rfl,rfl,rfl,qjl.nil _ HE.out,Below.refl _ _⟩
 case round =>
  obtain ⟨k,A',c',gs,sl,hk,HGS,HGL,rfl,rfl,HROW,HBR⟩:=hrel
  have HBW:=hid (HB.out.trans (HBR.out.mono HB.out.size))
  have HOR:=hid (HO.out.below HBR.out)
  obtain ⟨f0,f1,f2,f3,f4,f5⟩:=HOR.out.cells
  by_cases hlt:k < f.args.length
  ·have hki:(k:Int) < f.args.length:=by omega
   have hk0:(0:Int)≤(k:Int):=by omega
   have HAr:=hid (HA.out.keep (Keeps.of_below HBW.out fun _ h=>h.2))
   obtain ⟨b1,o1,A1,c1,x,rfl,HX,hf1⟩:=HAr.out.get hlt
   have HFX:=hid hf1
   obtain ⟨-,hl1,y0,y1,y2,y3,y4, -⟩:=hf1
   have HXX:=hid HX.out
   have HLT:=hid hlt
   have HXS:=hid (show x.size≤1000000 by have h1:=qgu (f:=f) hlt;rw [HXX.out] at h1;have:=HZ.out;omega)
   have HXM:=hid (show x∈f.args by rw [←HXX.out];exact qa1 hlt)
   have HXN:=hid (qhu HXM.out HN.out)
   have HIX:=hid (show RFormC x by have h:=HIH.out k hlt;rw [HXX.out] at h;exact h)
   have hgl:gs.length≤1000000:=by have:=HGL.out;omega
   have HOWN:Hid (∀ x,wr.heap.size≤x→(Value.slice A' gs.length c').ownBlock≠some x):=hid fun x hx e=>by have:=(HROW.out.ge e).2;omega
   have HDC:Hid (∀ x,wr.heap.size≤x→(D x∧x≠w.heap.size+1)∧(Value.slice A' gs.length c').ownBlock≠some x):=hid fun x hx=>⟨HE.out x (Nat.le_trans HBR.out.size hx),HOWN.out x hx⟩
   have HXA:=hid (HFX.out.args.mono (E:=fun x=>(D x∧x≠w.heap.size+1)∧(Value.slice A' gs.length c').ownBlock≠some x) fun q hq _=>⟨⟨hq.1,by have:=hq.2;omega⟩,fun e=>by have:=(HROW.out.ge e).1;have:=hq.2;have:=HWS.out;omega⟩)
   clear hk HX
   by_cases h4:f.op=4
   ·have d4:(f.op == 4)=true:=qb6 h4
    have HF:=hid (show (if k=0 then qcz neg f.op else qdr neg f.op) = !neg by rw [h4];cases k <;> rfl)
    clear h4
    have HTK:=hid (qd5 (neg:=neg) HLT.out HXX.out (nf := !neg) (HF.out))
    have HCL:=hid (HIX.out (!neg) (.agg #[.int .i64 x.op,.string x.name,.int .i64 x.val,.int .i64 x.bound,.slice A1 x.args.length c1]) wr (fun x=>(D x∧x≠w.heap.size+1)∧(Value.slice A' gs.length c').ownBlock≠some x) HDC.out ⟨A1,c1,rfl,HXA.out⟩ HXN.out HXS.out)
    obtain ⟨y,hy⟩ : ∃ y,kf (!neg) x=y:=⟨_,rfl⟩
    rw [hy] at HTK HCL
    clear hy
    go_wp2_with (first | (go_at_call 55;(with_reducible refine HCL.out.mono ?_);rintro e V1 ⟨v1,rfl,⟨A5,c5,rfl,ha5⟩,hb1⟩;have HA5:=hid ha5;have HB1:=hid hb1;have HR1:=hid (HROW.out.below hb1);have hone:=qb9 y (A5,c5);clear ha5 hb1) | (at_builtin;go_must (refine qat _ rfl (.tmp 28) (.tmp 38) 26 rfl W.heap.size 28 i0 _ 5 64 Tryz.underlying26 HTI.out HZ0.out HZ1.out HZ2.out rfl (by omega) (.slice A' gs.length c') gs.length _ rfl (own_below HR1.out.own (by go_grown)) _ (some ⟨V1.heap.size,0,none⟩) 1 1 _ rfl (Rd.fresh (D:=qbw) (n:=1) rfl trivial rfl (by decide)) hone (by omega) (qaz (by omega)) (by have:=HBR.out.size;have:=HB1.out.size;simp;omega) ?_);intro A7 c7 w7 hown7 hg7 hat7))
    have HG7:=hid hg7
    have HO7:=hid hown7
    have HAT:=hid hat7
    clear hown7 hg7 hat7
    go_roundw
    case rel =>
     refine ⟨k+1,A7,c7,gs ++ [y],sl ++ [(A5,c5)],by have:=HLT.out;omega,by rw [HTK.out,←HGS.out];exact rfl,by rw [List.length_append,HGL.out];exact rfl,by rw [List.length_append];rfl,by go_num,?_,?_⟩
     ·exact qjl.push (HR1.out.below ((Below.refl _ _).alloc (Nat.le_refl _) _)) HG7.out HO7.out HAT.out (HA5.out.belowD ((Below.refl _ _).alloc (Nat.le_refl _) _))
     ·exact Below.grown ((HBR.out.trans (HB1.out.mono HBR.out.size)).alloc (by have:=HBR.out.size;have:=HB1.out.size;omega) _) HG7.out (by have:=HBR.out.size;have:=HB1.out.size;simp;omega) fun k hk=>(HR1.out.ge hk).1
    case measure=>have:=HLT.out;simp [intOf];omega
   have d4:(f.op == 4)=false:=qar h4
   by_cases h7:f.op=7
   ·have d7:(f.op == 7)=true:=qb6 h7
    by_cases hz:k=0
    ·have dz:((k:Int) == 0)=true:=qb6 (by omega)
     have HF:=hid (show (if k=0 then qcz neg f.op else qdr neg f.op) = !neg by rw [h7,if_pos hz];rfl)
     clear h4 h7 hz
     have HTK:=hid (qd5 (neg:=neg) HLT.out HXX.out (nf := !neg) (HF.out))
     have HCL:=hid (HIX.out (!neg) (.agg #[.int .i64 x.op,.string x.name,.int .i64 x.val,.int .i64 x.bound,.slice A1 x.args.length c1]) wr (fun x=>(D x∧x≠w.heap.size+1)∧(Value.slice A' gs.length c').ownBlock≠some x) HDC.out ⟨A1,c1,rfl,HXA.out⟩ HXN.out HXS.out)
     obtain ⟨y,hy⟩ : ∃ y,kf (!neg) x=y:=⟨_,rfl⟩
     rw [hy] at HTK HCL
     clear hy
     go_wp2_with (first | (go_at_call 55;(with_reducible refine HCL.out.mono ?_);rintro e V1 ⟨v1,rfl,⟨A5,c5,rfl,ha5⟩,hb1⟩;have HA5:=hid ha5;have HB1:=hid hb1;have HR1:=hid (HROW.out.below hb1);have hone:=qb9 y (A5,c5);clear ha5 hb1) | (at_builtin;go_must (refine qat _ rfl (.tmp 28) (.tmp 38) 26 rfl W.heap.size 28 i0 _ 5 64 Tryz.underlying26 HTI.out HZ0.out HZ1.out HZ2.out rfl (by omega) (.slice A' gs.length c') gs.length _ rfl (own_below HR1.out.own (by go_grown)) _ (some ⟨V1.heap.size,0,none⟩) 1 1 _ rfl (Rd.fresh (D:=qbw) (n:=1) rfl trivial rfl (by decide)) hone (by omega) (qaz (by omega)) (by have:=HBR.out.size;have:=HB1.out.size;simp;omega) ?_);intro A7 c7 w7 hown7 hg7 hat7))
     have HG7:=hid hg7
     have HO7:=hid hown7
     have HAT:=hid hat7
     clear hown7 hg7 hat7
     go_roundw
     case rel =>
      refine ⟨k+1,A7,c7,gs ++ [y],sl ++ [(A5,c5)],by have:=HLT.out;omega,by rw [HTK.out,←HGS.out];exact rfl,by rw [List.length_append,HGL.out];exact rfl,by rw [List.length_append];rfl,by go_num,?_,?_⟩
      ·exact qjl.push (HR1.out.below ((Below.refl _ _).alloc (Nat.le_refl _) _)) HG7.out HO7.out HAT.out (HA5.out.belowD ((Below.refl _ _).alloc (Nat.le_refl _) _))
      ·exact Below.grown ((HBR.out.trans (HB1.out.mono HBR.out.size)).alloc (by have:=HBR.out.size;have:=HB1.out.size;omega) _) HG7.out (by have:=HBR.out.size;have:=HB1.out.size;simp;omega) fun k hk=>(HR1.out.ge hk).1
     case measure=>have:=HLT.out;simp [intOf];omega
    ·have dz:((k:Int) == 0)=false:=qar (by omega)
     have HF:=hid (show (if k=0 then qcz neg f.op else qdr neg f.op)=neg by rw [h7,if_neg hz];rfl)
     clear h4 h7 hz
     have HTK:=hid (qd5 (neg:=neg) HLT.out HXX.out (nf:=neg) (HF.out))
     have HCL:=hid (HIX.out (neg) (.agg #[.int .i64 x.op,.string x.name,.int .i64 x.val,.int .i64 x.bound,.slice A1 x.args.length c1]) wr (fun x=>(D x∧x≠w.heap.size+1)∧(Value.slice A' gs.length c').ownBlock≠some x) HDC.out ⟨A1,c1,rfl,HXA.out⟩ HXN.out HXS.out)
     obtain ⟨y,hy⟩ : ∃ y,kf (neg) x=y:=⟨_,rfl⟩
     rw [hy] at HTK HCL
     clear hy
     go_wp2_with (first | (go_at_call 55;(with_reducible refine HCL.out.mono ?_);rintro e V1 ⟨v1,rfl,⟨A5,c5,rfl,ha5⟩,hb1⟩;have HA5:=hid ha5;have HB1:=hid hb1;have HR1:=hid (HROW.out.below hb1);have hone:=qb9 y (A5,c5);clear ha5 hb1) | (at_builtin;go_must (refine qat _ rfl (.tmp 28) (.tmp 38) 26 rfl W.heap.size 28 i0 _ 5 64 Tryz.underlying26 HTI.out HZ0.out HZ1.out HZ2.out rfl (by omega) (.slice A' gs.length c') gs.length _ rfl (own_below HR1.out.own (by go_grown)) _ (some ⟨V1.heap.size,0,none⟩) 1 1 _ rfl (Rd.fresh (D:=qbw) (n:=1) rfl trivial rfl (by decide)) hone (by omega) (qaz (by omega)) (by have:=HBR.out.size;have:=HB1.out.size;simp;omega) ?_);intro A7 c7 w7 hown7 hg7 hat7))
     have HG7:=hid hg7
     have HO7:=hid hown7
     have HAT:=hid hat7
     clear hown7 hg7 hat7
     go_roundw
     case rel =>
      refine ⟨k+1,A7,c7,gs ++ [y],sl ++ [(A5,c5)],by have:=HLT.out;omega,by rw [HTK.out,←HGS.out];exact rfl,by rw [List.length_append,HGL.out];exact rfl,by rw [List.length_append];rfl,by go_num,?_,?_⟩
      ·exact qjl.push (HR1.out.below ((Below.refl _ _).alloc (Nat.le_refl _) _)) HG7.out HO7.out HAT.out (HA5.out.belowD ((Below.refl _ _).alloc (Nat.le_refl _) _))
      ·exact Below.grown ((HBR.out.trans (HB1.out.mono HBR.out.size)).alloc (by have:=HBR.out.size;have:=HB1.out.size;omega) _) HG7.out (by have:=HBR.out.size;have:=HB1.out.size;simp;omega) fun k hk=>(HR1.out.ge hk).1
     case measure=>have:=HLT.out;simp [intOf];omega
   ·have d7:(f.op == 7)=false:=qar h7
    have HF:=hid (show (if k=0 then qcz neg f.op else qdr neg f.op)=neg by unfold qcz qdr;rw [if_neg (show ¬ (f.op=4∨f.op=7) from fun h=>h.elim h4 h7),if_neg h4];cases k <;> rfl)
    clear h4 h7
    have HTK:=hid (qd5 (neg:=neg) HLT.out HXX.out (nf:=neg) (HF.out))
    have HCL:=hid (HIX.out (neg) (.agg #[.int .i64 x.op,.string x.name,.int .i64 x.val,.int .i64 x.bound,.slice A1 x.args.length c1]) wr (fun x=>(D x∧x≠w.heap.size+1)∧(Value.slice A' gs.length c').ownBlock≠some x) HDC.out ⟨A1,c1,rfl,HXA.out⟩ HXN.out HXS.out)
    obtain ⟨y,hy⟩ : ∃ y,kf (neg) x=y:=⟨_,rfl⟩
    rw [hy] at HTK HCL
    clear hy
    go_wp2_with (first | (go_at_call 55;(with_reducible refine HCL.out.mono ?_);rintro e V1 ⟨v1,rfl,⟨A5,c5,rfl,ha5⟩,hb1⟩;have HA5:=hid ha5;have HB1:=hid hb1;have HR1:=hid (HROW.out.below hb1);have hone:=qb9 y (A5,c5);clear ha5 hb1) | (at_builtin;go_must (refine qat _ rfl (.tmp 28) (.tmp 38) 26 rfl W.heap.size 28 i0 _ 5 64 Tryz.underlying26 HTI.out HZ0.out HZ1.out HZ2.out rfl (by omega) (.slice A' gs.length c') gs.length _ rfl (own_below HR1.out.own (by go_grown)) _ (some ⟨V1.heap.size,0,none⟩) 1 1 _ rfl (Rd.fresh (D:=qbw) (n:=1) rfl trivial rfl (by decide)) hone (by omega) (qaz (by omega)) (by have:=HBR.out.size;have:=HB1.out.size;simp;omega) ?_);intro A7 c7 w7 hown7 hg7 hat7))
    have HG7:=hid hg7
    have HO7:=hid hown7
    have HAT:=hid hat7
    clear hown7 hg7 hat7
    go_roundw
    case rel =>
     refine ⟨k+1,A7,c7,gs ++ [y],sl ++ [(A5,c5)],by have:=HLT.out;omega,by rw [HTK.out,←HGS.out];exact rfl,by rw [List.length_append,HGL.out];exact rfl,by rw [List.length_append];rfl,by go_num,?_,?_⟩
     ·exact qjl.push (HR1.out.below ((Below.refl _ _).alloc (Nat.le_refl _) _)) HG7.out HO7.out HAT.out (HA5.out.belowD ((Below.refl _ _).alloc (Nat.le_refl _) _))
     ·exact Below.grown ((HBR.out.trans (HB1.out.mono HBR.out.size)).alloc (by have:=HBR.out.size;have:=HB1.out.size;omega) _) HG7.out (by have:=HBR.out.size;have:=HB1.out.size;simp;omega) fun k hk=>(HR1.out.ge hk).1
    case measure=>have:=HLT.out;simp [intOf];omega
  ·have hkl:k=f.args.length:=by omega
   have hii : ¬ (k:Int) < f.args.length:=by omega
   have HGA:=hid (show gs=qce neg f by rw [HGS.out,hkl,←argsK_len neg f,List.take_length])
   have hgl:gs.length≤1000000:=by have:=HGL.out;omega
   have HRD:=hid (HROW.out.rd (by omega))
   have HRR:=hid (HR.out.below HBR.out)
   have HFA:=hid ((HA.out.keep (Keeps.of_below HBW.out fun _ h=>h.2)).mono (E:=fun k=>D k∧k≠w.heap.size+1) fun q hq _=>⟨hq.1,by have:=hq.2;omega⟩)
   have HDE:Hid (∀ x,wr.heap.size≤x→D x∧x≠w.heap.size+1):=hid fun x hx=>HE.out x (Nat.le_trans HBR.out.size hx)
   have hwv:IntKind.i64.wrap (1 - f.val)=1 - f.val:=IntWalk.i64_in _ (by have:=shp_valr HSH.out;omega)
   clear hk hkl HGS HROW HIH
   rcases op_kinds HSH.out with h | h | h | (h | h) | (h | h) | (h | h) | h | (h | h) | h
   ·cases neg
    ·have HKF:=hid (rf_is HSH.out h).2.1
     rw [h] at f0
     obtain ⟨r0,r1,r2,r3,r4,r5⟩:=(HRR.out.below (Below.refl _ _)).cells
     have p0:=(HRR.out.below (Below.refl _ _)).free 0
     have p1:=(HRR.out.below (Below.refl _ _)).free 1
     have p2:=(HRR.out.below (Below.refl _ _)).free 2
     have p3:=(HRR.out.below (Below.refl _ _)).free 3
     have p4:=(HRR.out.below (Below.refl _ _)).free 4
     have HF0:=hid h
     clear h
     go_wp2_with fail
     refine qab fun W9 hW9 => ?_
     have hO9:OB W9 (w.heap.size+1) 3 f.name f.val f.bound A f.args.length c:=by rw [hW9];exact qag (HRR.out.below (Below.refl _ _))
     have hC9:Chg (fun k=>k=w.heap.size+1) wr W9:=by rw [hW9];exact qae _ _ _ _ _ _ _
     clear hW9 p0 p1 p2 p3 p4 r0 r1 r2 r3 r4 r5
     obtain ⟨r0,r1,r2,r3,r4,r5⟩:=hO9.cells
     exact bodyPost_ret (v := .agg #[.int .i64 3,.string f.name,.int .i64 f.val,.int .i64 f.bound,.slice A f.args.length c]) (by simp [results,Tryz.results55,go_sem,r0,r1,r2,r3,r4]) rfl ⟨_,rfl,by rw [HKF.out];exact ⟨A,c,by rw [HF0.out],((HFA.out).keep (hC9.keeps fun x _ hx hv=>hx.2 hv)).mono fun x hx _=>hx.1⟩,(qac HBW.out (Below.refl _ _)).trans (hC9.below (B:=w.heap.size) (fun x hx hv=>by have hv':x=w.heap.size+1:=hv;omega) (qac HBW.out (Below.refl _ _)).size)⟩
    ·have HKF:=hid (rf_is HSH.out h).2.2
     have HF0:=hid (rf_is HSH.out h).1
     have HFO:=hid h
     rw [h] at f0
     obtain ⟨r0,r1,r2,r3,r4,r5⟩:=(HRR.out.below (Below.refl _ _)).cells
     have p0:=(HRR.out.below (Below.refl _ _)).free 0
     have p1:=(HRR.out.below (Below.refl _ _)).free 1
     have p2:=(HRR.out.below (Below.refl _ _)).free 2
     have p3:=(HRR.out.below (Below.refl _ _)).free 3
     have p4:=(HRR.out.below (Below.refl _ _)).free 4
     clear h
     go_wp2_with (go_at_call 87;(with_reducible refine (rone_ge 4 f _ _ (fun k=>D k∧k≠w.heap.size+1) HDE.out ?_).mono ?_);exact ⟨A,c,by rw [HFO.out],HFA.out⟩;rintro e U ⟨v1,rfl,⟨A5,c5,rfl,ha5⟩,hbu⟩;have HA5:=hid ha5;have HBU:=hid hbu;clear ha5 hbu r0 r1 r2 r3 r4 r5 p0 p1 p2 p3 p4;obtain ⟨r0,r1,r2,r3,r4,r5⟩:=(HRR.out.below HBU.out).cells;have p0:=(HRR.out.below HBU.out).free 0;have p1:=(HRR.out.below HBU.out).free 1;have p2:=(HRR.out.below HBU.out).free 2;have p3:=(HRR.out.below HBU.out).free 3;have p4:=(HRR.out.below HBU.out).free 4)
     refine qab fun W9 hW9 => ?_
     have hO9:OB W9 (w.heap.size+1) (opF 4 [f]).op (opF 4 [f]).name (opF 4 [f]).val (opF 4 [f]).bound A5 (opF 4 [f]).args.length c5:=by rw [hW9];exact qag (HRR.out.below HBU.out)
     have hC9:Chg (fun k=>k=w.heap.size+1) U W9:=by rw [hW9];exact qae _ _ _ _ _ _ _
     clear hW9 p0 p1 p2 p3 p4 r0 r1 r2 r3 r4 r5
     obtain ⟨r0,r1,r2,r3,r4,r5⟩:=hO9.cells
     exact bodyPost_ret (v := .agg #[.int .i64 (opF 4 [f]).op,.string (opF 4 [f]).name,.int .i64 (opF 4 [f]).val,.int .i64 (opF 4 [f]).bound,.slice A5 (opF 4 [f]).args.length c5]) (by simp [results,Tryz.results55,go_sem,r0,r1,r2,r3,r4]) rfl ⟨_,rfl,by rw [HKF.out];exact ⟨A5,c5,rfl,((HA5.out).keep (hC9.keeps fun x _ hx hv=>hx.2 hv)).mono fun x hx _=>hx.1⟩,(qac HBW.out HBU.out).trans (hC9.below (B:=w.heap.size) (fun x hx hv=>by have hv':x=w.heap.size+1:=hv;omega) (qac HBW.out HBU.out).size)⟩
   ·cases neg
    ·have HGY:=hid (show gs = [kf false f] by rw [HGA.out,rf_not false HSH.out h])
     obtain ⟨y,hy⟩ : ∃ y,kf false f=y:=⟨_,rfl⟩
     rw [hy] at HGY
     have HKF:=hid hy
     clear hy
     rw [h] at f0
     clear h
     have hl1:gs.length=1:=by rw [HGY.out];rfl
     rw [hl1]
     have HRY:=hid (show RdA wr (fun k=>D k∧k≠w.heap.size+1) [y] A' c' by rw [←HGY.out];exact HRD.out)
     clear hl1 hgl
     obtain ⟨b2,o2,A2,c2,rfl,hfy⟩:=RdA.first HRY.out
     have HFY:=hid hfy
     obtain ⟨-,hl2,y0,y1,y2,y3,y4, -⟩:=hfy
     obtain ⟨r0,r1,r2,r3,r4,r5⟩:=(HRR.out.below (Below.refl _ _)).cells
     have p0:=(HRR.out.below (Below.refl _ _)).free 0
     have p1:=(HRR.out.below (Below.refl _ _)).free 1
     have p2:=(HRR.out.below (Below.refl _ _)).free 2
     have p3:=(HRR.out.below (Below.refl _ _)).free 3
     have p4:=(HRR.out.below (Below.refl _ _)).free 4
     go_wp2_with fail
     refine qab fun W9 hW9 => ?_
     have hO9:OB W9 (w.heap.size+1) y.op y.name y.val y.bound A2 y.args.length c2:=by rw [hW9];exact qag (HRR.out.below (Below.refl _ _))
     have hC9:Chg (fun k=>k=w.heap.size+1) wr W9:=by rw [hW9];exact qae _ _ _ _ _ _ _
     clear hW9 p0 p1 p2 p3 p4 r0 r1 r2 r3 r4 r5
     obtain ⟨r0,r1,r2,r3,r4,r5⟩:=hO9.cells
     exact bodyPost_ret (v := .agg #[.int .i64 y.op,.string y.name,.int .i64 y.val,.int .i64 y.bound,.slice A2 y.args.length c2]) (by simp [results,Tryz.results55,go_sem,r0,r1,r2,r3,r4]) rfl ⟨_,rfl,by rw [HKF.out];exact ⟨A2,c2,rfl,((HFY.out.args).keep (hC9.keeps fun x _ hx hv=>hx.2 hv)).mono fun x hx _=>hx.1⟩,(qac HBW.out (Below.refl _ _)).trans (hC9.below (B:=w.heap.size) (fun x hx hv=>by have hv':x=w.heap.size+1:=hv;omega) (qac HBW.out (Below.refl _ _)).size)⟩
    ·have HGY:=hid (show gs = [kf true f] by rw [HGA.out,rf_not true HSH.out h])
     obtain ⟨y,hy⟩ : ∃ y,kf true f=y:=⟨_,rfl⟩
     rw [hy] at HGY
     have HKF:=hid hy
     clear hy
     rw [h] at f0
     clear h
     have hl1:gs.length=1:=by rw [HGY.out];rfl
     rw [hl1]
     have HRY:=hid (show RdA wr (fun k=>D k∧k≠w.heap.size+1) [y] A' c' by rw [←HGY.out];exact HRD.out)
     clear hl1 hgl
     obtain ⟨b2,o2,A2,c2,rfl,hfy⟩:=RdA.first HRY.out
     have HFY:=hid hfy
     obtain ⟨-,hl2,y0,y1,y2,y3,y4, -⟩:=hfy
     obtain ⟨r0,r1,r2,r3,r4,r5⟩:=(HRR.out.below (Below.refl _ _)).cells
     have p0:=(HRR.out.below (Below.refl _ _)).free 0
     have p1:=(HRR.out.below (Below.refl _ _)).free 1
     have p2:=(HRR.out.below (Below.refl _ _)).free 2
     have p3:=(HRR.out.below (Below.refl _ _)).free 3
     have p4:=(HRR.out.below (Below.refl _ _)).free 4
     go_wp2_with fail
     refine qab fun W9 hW9 => ?_
     have hO9:OB W9 (w.heap.size+1) y.op y.name y.val y.bound A2 y.args.length c2:=by rw [hW9];exact qag (HRR.out.below (Below.refl _ _))
     have hC9:Chg (fun k=>k=w.heap.size+1) wr W9:=by rw [hW9];exact qae _ _ _ _ _ _ _
     clear hW9 p0 p1 p2 p3 p4 r0 r1 r2 r3 r4 r5
     obtain ⟨r0,r1,r2,r3,r4,r5⟩:=hO9.cells
     exact bodyPost_ret (v := .agg #[.int .i64 y.op,.string y.name,.int .i64 y.val,.int .i64 y.bound,.slice A2 y.args.length c2]) (by simp [results,Tryz.results55,go_sem,r0,r1,r2,r3,r4]) rfl ⟨_,rfl,by rw [HKF.out];exact ⟨A2,c2,rfl,((HFY.out.args).keep (hC9.keeps fun x _ hx hv=>hx.2 hv)).mono fun x hx _=>hx.1⟩,(qac HBW.out (Below.refl _ _)).trans (hC9.below (B:=w.heap.size) (fun x hx hv=>by have hv':x=w.heap.size+1:=hv;omega) (qac HBW.out (Below.refl _ _)).size)⟩
   ·cases neg
    ·have HKF:=hid (show kf false f=opF 6 gs by rw [rf_imp false HSH.out h,HGA.out];rfl)
     rw [h] at f0
     clear h
     obtain ⟨r0,r1,r2,r3,r4,r5⟩:=(HRR.out.below (Below.refl _ _)).cells
     have p0:=(HRR.out.below (Below.refl _ _)).free 0
     have p1:=(HRR.out.below (Below.refl _ _)).free 1
     have p2:=(HRR.out.below (Below.refl _ _)).free 2
     have p3:=(HRR.out.below (Below.refl _ _)).free 3
     have p4:=(HRR.out.below (Below.refl _ _)).free 4
     go_wp2_with (go_at_call 88;(with_reducible refine (qg3 _ _ _ _ _).mono ?_);rintro e U ⟨rfl,hbu⟩;have HBU:=hid hbu;clear hbu r0 r1 r2 r3 r4 r5 p0 p1 p2 p3 p4;obtain ⟨r0,r1,r2,r3,r4,r5⟩:=(HRR.out.below HBU.out).cells;have p0:=(HRR.out.below HBU.out).free 0;have p1:=(HRR.out.below HBU.out).free 1;have p2:=(HRR.out.below HBU.out).free 2;have p3:=(HRR.out.below HBU.out).free 3;have p4:=(HRR.out.below HBU.out).free 4)
     refine qab fun W9 hW9 => ?_
     have hO9:OB W9 (w.heap.size+1) 6 ⟨#[]⟩ 0 0 A' gs.length c':=by rw [hW9];exact qag (HRR.out.below HBU.out)
     have hC9:Chg (fun k=>k=w.heap.size+1) U W9:=by rw [hW9];exact qae _ _ _ _ _ _ _
     clear hW9 p0 p1 p2 p3 p4 r0 r1 r2 r3 r4 r5
     obtain ⟨r0,r1,r2,r3,r4,r5⟩:=hO9.cells
     exact bodyPost_ret (v := .agg #[.int .i64 6,.string ⟨#[]⟩,.int .i64 0,.int .i64 0,.slice A' gs.length c']) (by simp [results,Tryz.results55,go_sem,r0,r1,r2,r3,r4]) rfl ⟨_,rfl,by rw [HKF.out];exact ⟨A',c',rfl,((HRD.out.belowD HBU.out).keep (hC9.keeps fun x _ hx hv=>hx.2 hv)).mono fun x hx _=>hx.1⟩,(qac HBW.out HBU.out).trans (hC9.below (B:=w.heap.size) (fun x hx hv=>by have hv':x=w.heap.size+1:=hv;omega) (qac HBW.out HBU.out).size)⟩
    ·have HKF:=hid (show kf true f=opF 5 gs by rw [rf_imp true HSH.out h,HGA.out];rfl)
     rw [h] at f0
     clear h
     obtain ⟨r0,r1,r2,r3,r4,r5⟩:=(HRR.out.below (Below.refl _ _)).cells
     have p0:=(HRR.out.below (Below.refl _ _)).free 0
     have p1:=(HRR.out.below (Below.refl _ _)).free 1
     have p2:=(HRR.out.below (Below.refl _ _)).free 2
     have p3:=(HRR.out.below (Below.refl _ _)).free 3
     have p4:=(HRR.out.below (Below.refl _ _)).free 4
     go_wp2_with (go_at_call 88;(with_reducible refine (qg3 _ _ _ _ _).mono ?_);rintro e U ⟨rfl,hbu⟩;have HBU:=hid hbu;clear hbu r0 r1 r2 r3 r4 r5 p0 p1 p2 p3 p4;obtain ⟨r0,r1,r2,r3,r4,r5⟩:=(HRR.out.below HBU.out).cells;have p0:=(HRR.out.below HBU.out).free 0;have p1:=(HRR.out.below HBU.out).free 1;have p2:=(HRR.out.below HBU.out).free 2;have p3:=(HRR.out.below HBU.out).free 3;have p4:=(HRR.out.below HBU.out).free 4)
     refine qab fun W9 hW9 => ?_
     have hO9:OB W9 (w.heap.size+1) 5 ⟨#[]⟩ 0 0 A' gs.length c':=by rw [hW9];exact qag (HRR.out.below HBU.out)
     have hC9:Chg (fun k=>k=w.heap.size+1) U W9:=by rw [hW9];exact qae _ _ _ _ _ _ _
     clear hW9 p0 p1 p2 p3 p4 r0 r1 r2 r3 r4 r5
     obtain ⟨r0,r1,r2,r3,r4,r5⟩:=hO9.cells
     exact bodyPost_ret (v := .agg #[.int .i64 5,.string ⟨#[]⟩,.int .i64 0,.int .i64 0,.slice A' gs.length c']) (by simp [results,Tryz.results55,go_sem,r0,r1,r2,r3,r4]) rfl ⟨_,rfl,by rw [HKF.out];exact ⟨A',c',rfl,((HRD.out.belowD HBU.out).keep (hC9.keeps fun x _ hx hv=>hx.2 hv)).mono fun x hx _=>hx.1⟩,(qac HBW.out HBU.out).trans (hC9.below (B:=w.heap.size) (fun x hx hv=>by have hv':x=w.heap.size+1:=hv;omega) (qac HBW.out HBU.out).size)⟩
   ·cases neg
    ·obtain ⟨g0,hg0,hk0⟩:=qf1 false HSH.out (by omega)
     have HGY:=hid (show gs = [kf false g0] by rw [HGA.out,hk0])
     have hkf:kf false f=opF 9 [opF 1 [],kf false g0]:=by rw [rf_lone false HSH.out (by omega) hg0,h];rfl
     obtain ⟨y,hy⟩ : ∃ y,kf false g0=y:=⟨_,rfl⟩
     rw [hy] at HGY hkf
     have HKF:=hid hkf
     clear hy hg0 hk0 hkf
     rw [h] at f0
     clear h
     have hl1:gs.length=1:=by rw [HGY.out];rfl
     rw [hl1]
     have HRY:=hid (show RdA wr (fun k=>D k∧k≠w.heap.size+1) [y] A' c' by rw [←HGY.out];exact HRD.out)
     clear hl1 hgl
     obtain ⟨b2,o2,A2,c2,rfl,hfy⟩:=RdA.first HRY.out
     have HFY:=hid hfy
     obtain ⟨-,hl2,y0,y1,y2,y3,y4, -⟩:=hfy
     obtain ⟨r0,r1,r2,r3,r4,r5⟩:=(HRR.out.below (Below.refl _ _)).cells
     have p0:=(HRR.out.below (Below.refl _ _)).free 0
     have p1:=(HRR.out.below (Below.refl _ _)).free 1
     have p2:=(HRR.out.below (Below.refl _ _)).free 2
     have p3:=(HRR.out.below (Below.refl _ _)).free 3
     have p4:=(HRR.out.below (Below.refl _ _)).free 4
     have HCY:Hid (∀ W':World,Below wr.heap.size wr W'→(fun W':World=>W'.cell? ⟨b2,o2,none⟩=some (.int .i64 y.op)∧W'.cell? ⟨b2,o2+1,none⟩=some (.string y.name)∧W'.cell? ⟨b2,o2+2,none⟩=some (.int .i64 y.val)∧W'.cell? ⟨b2,o2+3,none⟩=some (.int .i64 y.bound)∧W'.cell? ⟨b2,o2+4,none⟩=some (.slice A2 y.args.length c2)) W'):=hid fun W' hb'=>by
      have hf2:=HFY.out.keepB hb'
      exact hf2
     go_upto_region 24 with (fail)
     refine qa8 (fun W':World=>W'.cell? ⟨b2,o2,none⟩=some (.int .i64 y.op)∧W'.cell? ⟨b2,o2+1,none⟩=some (.string y.name)∧W'.cell? ⟨b2,o2+2,none⟩=some (.int .i64 y.val)∧W'.cell? ⟨b2,o2+3,none⟩=some (.int .i64 y.bound)∧W'.cell? ⟨b2,o2+4,none⟩=some (.slice A2 y.args.length c2)) (by kernel_rfl) (by kernel_rfl) (by kernel_rfl) (HCY.out _ (Below.refl _ _).drew) (fun hHeld => ?_)
     simp only [List.dropLast_cons_cons,List.dropLast_singleton,List.getLast_cons_cons,List.getLast_singleton]
     refine wpAnyH_take (i:=1) (v := ?_) rfl (by kernel_rfl) (by kernel_rfl) (by kernel_rfl) (fun _ _ _ h=>h) (Or.inl ⟨by rfl,?_⟩) (by assumption) ?_
     rotate_left
     ·intro w hSw;(try dsimp only at hSw);go_simp;(try (with_reducible rfl))
     try simp only [Act.put,List.setIfInBounds_toArray,List.set_cons_zero,List.set_cons_succ]
     refine wpAnyH_take (i:=2) (v := ?_) rfl (by kernel_rfl) (by kernel_rfl) (by kernel_rfl) (fun _ _ _ h=>h) (Or.inl ⟨by rfl,?_⟩) (by assumption) ?_
     rotate_left
     ·intro w hSw;(try dsimp only at hSw);go_simp;(try (with_reducible rfl))
     try simp only [Act.put,List.setIfInBounds_toArray,List.set_cons_zero,List.set_cons_succ]
     refine wpAnyH_take (i:=3) (v := ?_) rfl (by kernel_rfl) (by kernel_rfl) (by kernel_rfl) (fun _ _ _ h=>h) (Or.inl ⟨by rfl,?_⟩) (by assumption) ?_
     rotate_left
     ·intro w hSw;(try dsimp only at hSw);go_simp;(try (with_reducible rfl))
     try simp only [Act.put,List.setIfInBounds_toArray,List.set_cons_zero,List.set_cons_succ]
     refine wpAnyH_ready (rs := [0]) (by kernel_rfl) (by simp) (AllReadyH.cons rfl (fun K hK => ?_) AllReadyH.nil)
     go_simp
     (go_at_call 90;(with_reducible refine (qg2 _).mono ?_);rintro e W1 ⟨rfl,hb1⟩;have HB1:=hid (qac (show Below wr.heap.size wr wr.drew from (Below.refl _ _).drew) hb1);clear hb1)
     go_wp2_with fail
     refine hK.out _ _ ?_ (fun hHeld => ?_)
     ·exact HCY.out _ HB1.out
     clear hK K
     try simp only [Act.put,List.setIfInBounds_toArray,List.set_cons_zero,List.set_cons_succ]
     refine wpAnyH_ready (rs := [4]) (by kernel_rfl) (by simp) (AllReadyH.cons rfl (fun K hK => ?_) AllReadyH.nil)
     go_simp
     (go_at_call 89;(with_reducible refine (rtwo_ge 9 (opF 1 []) y _ _ _ (fun k=>D k∧k≠w.heap.size+1) ?_ ?_ ?_).mono ?_);exact fun x hx=>HDE.out x (Nat.le_trans HB1.out.size hx);exact ⟨none,0,rfl,RdA.nil _ _ _ (by omega)⟩;exact ⟨_,_,rfl,HFY.out.args.belowD HB1.out⟩;rintro e U ⟨v1,rfl,⟨A5,c5,rfl,ha5⟩,hbu⟩;have HA5:=hid ha5;have HBU:=hid (qac HB1.out hbu);clear ha5 hbu)
     go_wp2_with fail
     refine hK.out _ _ ?_ (fun hHeld => ?_)
     ·exact HCY.out _ HBU.out
     clear hK K
     try simp only [Act.put,List.setIfInBounds_toArray,List.set_cons_zero,List.set_cons_succ]
     clear r0 r1 r2 r3 r4 r5 p0 p1 p2 p3 p4
     obtain ⟨r0,r1,r2,r3,r4,r5⟩:=(HRR.out.below HBU.out).cells
     have p0:=(HRR.out.below HBU.out).free 0
     have p1:=(HRR.out.below HBU.out).free 1
     have p2:=(HRR.out.below HBU.out).free 2
     have p3:=(HRR.out.below HBU.out).free 3
     have p4:=(HRR.out.below HBU.out).free 4
     obtain ⟨z,hz⟩ : ∃ z,opF 9 [opF 1 [],y]=z:=⟨_,rfl⟩
     rw [hz] at HKF HA5 ⊢
     clear hz
     refine wpAnyH_done (by kernel_rfl) ?_ _
     unfold qgw
     go_simp
     go_wp2_with fail
     refine qab fun W9 hW9 => ?_
     have hO9:OB W9 (w.heap.size+1) z.op z.name z.val z.bound A5 z.args.length c5:=by rw [hW9];exact qag (HRR.out.below HBU.out)
     have hC9:Chg (fun k=>k=w.heap.size+1) U W9:=by rw [hW9];exact qae _ _ _ _ _ _ _
     clear hW9 p0 p1 p2 p3 p4 r0 r1 r2 r3 r4 r5
     obtain ⟨r0,r1,r2,r3,r4,r5⟩:=hO9.cells
     exact bodyPost_ret (v := .agg #[.int .i64 z.op,.string z.name,.int .i64 z.val,.int .i64 z.bound,.slice A5 z.args.length c5]) (by simp [results,Tryz.results55,go_sem,r0,r1,r2,r3,r4]) rfl ⟨_,rfl,by rw [HKF.out];exact ⟨A5,c5,rfl,((HA5.out).keep (hC9.keeps fun x _ hx hv=>hx.2 hv)).mono fun x hx _=>hx.1⟩,(qac HBW.out HBU.out).trans (hC9.below (B:=w.heap.size) (fun x hx hv=>by have hv':x=w.heap.size+1:=hv;omega) (qac HBW.out HBU.out).size)⟩
    ·obtain ⟨g0,hg0,hk0⟩:=qf1 true HSH.out (by omega)
     have HGY:=hid (show gs = [kf true g0] by rw [HGA.out,hk0])
     have hkf:kf true f=opF 10 [opF 2 [],kf true g0]:=by rw [rf_lone true HSH.out (by omega) hg0,h];rfl
     obtain ⟨y,hy⟩ : ∃ y,kf true g0=y:=⟨_,rfl⟩
     rw [hy] at HGY hkf
     have HKF:=hid hkf
     clear hy hg0 hk0 hkf
     rw [h] at f0
     clear h
     have hl1:gs.length=1:=by rw [HGY.out];rfl
     rw [hl1]
     have HRY:=hid (show RdA wr (fun k=>D k∧k≠w.heap.size+1) [y] A' c' by rw [←HGY.out];exact HRD.out)
     clear hl1 hgl
     obtain ⟨b2,o2,A2,c2,rfl,hfy⟩:=RdA.first HRY.out
     have HFY:=hid hfy
     obtain ⟨-,hl2,y0,y1,y2,y3,y4, -⟩:=hfy
     obtain ⟨r0,r1,r2,r3,r4,r5⟩:=(HRR.out.below (Below.refl _ _)).cells
     have p0:=(HRR.out.below (Below.refl _ _)).free 0
     have p1:=(HRR.out.below (Below.refl _ _)).free 1
     have p2:=(HRR.out.below (Below.refl _ _)).free 2
     have p3:=(HRR.out.below (Below.refl _ _)).free 3
     have p4:=(HRR.out.below (Below.refl _ _)).free 4
     have HCY:Hid (∀ W':World,Below wr.heap.size wr W'→(fun W':World=>W'.cell? ⟨b2,o2,none⟩=some (.int .i64 y.op)∧W'.cell? ⟨b2,o2+1,none⟩=some (.string y.name)∧W'.cell? ⟨b2,o2+2,none⟩=some (.int .i64 y.val)∧W'.cell? ⟨b2,o2+3,none⟩=some (.int .i64 y.bound)∧W'.cell? ⟨b2,o2+4,none⟩=some (.slice A2 y.args.length c2)) W'):=hid fun W' hb'=>by
      have hf2:=HFY.out.keepB hb'
      exact hf2
     go_upto_region 25 with (fail)
     refine qa8 (fun W':World=>W'.cell? ⟨b2,o2,none⟩=some (.int .i64 y.op)∧W'.cell? ⟨b2,o2+1,none⟩=some (.string y.name)∧W'.cell? ⟨b2,o2+2,none⟩=some (.int .i64 y.val)∧W'.cell? ⟨b2,o2+3,none⟩=some (.int .i64 y.bound)∧W'.cell? ⟨b2,o2+4,none⟩=some (.slice A2 y.args.length c2)) (by kernel_rfl) (by kernel_rfl) (by kernel_rfl) (HCY.out _ (Below.refl _ _).drew) (fun hHeld => ?_)
     simp only [List.dropLast_cons_cons,List.dropLast_singleton,List.getLast_cons_cons,List.getLast_singleton]
     refine wpAnyH_take (i:=1) (v := ?_) rfl (by kernel_rfl) (by kernel_rfl) (by kernel_rfl) (fun _ _ _ h=>h) (Or.inl ⟨by rfl,?_⟩) (by assumption) ?_
     rotate_left
     ·intro w hSw;(try dsimp only at hSw);go_simp;(try (with_reducible rfl))
     try simp only [Act.put,List.setIfInBounds_toArray,List.set_cons_zero,List.set_cons_succ]
     refine wpAnyH_take (i:=2) (v := ?_) rfl (by kernel_rfl) (by kernel_rfl) (by kernel_rfl) (fun _ _ _ h=>h) (Or.inl ⟨by rfl,?_⟩) (by assumption) ?_
     rotate_left
     ·intro w hSw;(try dsimp only at hSw);go_simp;(try (with_reducible rfl))
     try simp only [Act.put,List.setIfInBounds_toArray,List.set_cons_zero,List.set_cons_succ]
     refine wpAnyH_take (i:=3) (v := ?_) rfl (by kernel_rfl) (by kernel_rfl) (by kernel_rfl) (fun _ _ _ h=>h) (Or.inl ⟨by rfl,?_⟩) (by assumption) ?_
     rotate_left
     ·intro w hSw;(try dsimp only at hSw);go_simp;(try (with_reducible rfl))
     try simp only [Act.put,List.setIfInBounds_toArray,List.set_cons_zero,List.set_cons_succ]
     refine wpAnyH_ready (rs := [0]) (by kernel_rfl) (by simp) (AllReadyH.cons rfl (fun K hK => ?_) AllReadyH.nil)
     go_simp
     (go_at_call 91;(with_reducible refine (qf0 _).mono ?_);rintro e W1 ⟨rfl,hb1⟩;have HB1:=hid (qac (show Below wr.heap.size wr wr.drew from (Below.refl _ _).drew) hb1);clear hb1)
     go_wp2_with fail
     refine hK.out _ _ ?_ (fun hHeld => ?_)
     ·exact HCY.out _ HB1.out
     clear hK K
     try simp only [Act.put,List.setIfInBounds_toArray,List.set_cons_zero,List.set_cons_succ]
     refine wpAnyH_ready (rs := [4]) (by kernel_rfl) (by simp) (AllReadyH.cons rfl (fun K hK => ?_) AllReadyH.nil)
     go_simp
     (go_at_call 89;(with_reducible refine (rtwo_ge 10 (opF 2 []) y _ _ _ (fun k=>D k∧k≠w.heap.size+1) ?_ ?_ ?_).mono ?_);exact fun x hx=>HDE.out x (Nat.le_trans HB1.out.size hx);exact ⟨none,0,rfl,RdA.nil _ _ _ (by omega)⟩;exact ⟨_,_,rfl,HFY.out.args.belowD HB1.out⟩;rintro e U ⟨v1,rfl,⟨A5,c5,rfl,ha5⟩,hbu⟩;have HA5:=hid ha5;have HBU:=hid (qac HB1.out hbu);clear ha5 hbu)
     go_wp2_with fail
     refine hK.out _ _ ?_ (fun hHeld => ?_)
     ·exact HCY.out _ HBU.out
     clear hK K
     try simp only [Act.put,List.setIfInBounds_toArray,List.set_cons_zero,List.set_cons_succ]
     clear r0 r1 r2 r3 r4 r5 p0 p1 p2 p3 p4
     obtain ⟨r0,r1,r2,r3,r4,r5⟩:=(HRR.out.below HBU.out).cells
     have p0:=(HRR.out.below HBU.out).free 0
     have p1:=(HRR.out.below HBU.out).free 1
     have p2:=(HRR.out.below HBU.out).free 2
     have p3:=(HRR.out.below HBU.out).free 3
     have p4:=(HRR.out.below HBU.out).free 4
     obtain ⟨z,hz⟩ : ∃ z,opF 10 [opF 2 [],y]=z:=⟨_,rfl⟩
     rw [hz] at HKF HA5 ⊢
     clear hz
     refine wpAnyH_done (by kernel_rfl) ?_ _
     unfold qgw
     go_simp
     go_wp2_with fail
     refine qab fun W9 hW9 => ?_
     have hO9:OB W9 (w.heap.size+1) z.op z.name z.val z.bound A5 z.args.length c5:=by rw [hW9];exact qag (HRR.out.below HBU.out)
     have hC9:Chg (fun k=>k=w.heap.size+1) U W9:=by rw [hW9];exact qae _ _ _ _ _ _ _
     clear hW9 p0 p1 p2 p3 p4 r0 r1 r2 r3 r4 r5
     obtain ⟨r0,r1,r2,r3,r4,r5⟩:=hO9.cells
     exact bodyPost_ret (v := .agg #[.int .i64 z.op,.string z.name,.int .i64 z.val,.int .i64 z.bound,.slice A5 z.args.length c5]) (by simp [results,Tryz.results55,go_sem,r0,r1,r2,r3,r4]) rfl ⟨_,rfl,by rw [HKF.out];exact ⟨A5,c5,rfl,((HA5.out).keep (hC9.keeps fun x _ hx hv=>hx.2 hv)).mono fun x hx _=>hx.1⟩,(qac HBW.out HBU.out).trans (hC9.below (B:=w.heap.size) (fun x hx hv=>by have hv':x=w.heap.size+1:=hv;omega) (qac HBW.out HBU.out).size)⟩
   ·cases neg
    ·obtain ⟨g0,hg0,hk0⟩:=qf1 false HSH.out (by omega)
     have HGY:=hid (show gs = [kf false g0] by rw [HGA.out,hk0])
     have hkf:kf false f=opF 10 [opF 2 [],kf false g0]:=by rw [rf_lone false HSH.out (by omega) hg0,h];rfl
     obtain ⟨y,hy⟩ : ∃ y,kf false g0=y:=⟨_,rfl⟩
     rw [hy] at HGY hkf
     have HKF:=hid hkf
     clear hy hg0 hk0 hkf
     rw [h] at f0
     clear h
     have hl1:gs.length=1:=by rw [HGY.out];rfl
     rw [hl1]
     have HRY:=hid (show RdA wr (fun k=>D k∧k≠w.heap.size+1) [y] A' c' by rw [←HGY.out];exact HRD.out)
     clear hl1 hgl
     obtain ⟨b2,o2,A2,c2,rfl,hfy⟩:=RdA.first HRY.out
     have HFY:=hid hfy
     obtain ⟨-,hl2,y0,y1,y2,y3,y4, -⟩:=hfy
     obtain ⟨r0,r1,r2,r3,r4,r5⟩:=(HRR.out.below (Below.refl _ _)).cells
     have p0:=(HRR.out.below (Below.refl _ _)).free 0
     have p1:=(HRR.out.below (Below.refl _ _)).free 1
     have p2:=(HRR.out.below (Below.refl _ _)).free 2
     have p3:=(HRR.out.below (Below.refl _ _)).free 3
     have p4:=(HRR.out.below (Below.refl _ _)).free 4
     have HCY:Hid (∀ W':World,Below wr.heap.size wr W'→(fun W':World=>W'.cell? ⟨b2,o2,none⟩=some (.int .i64 y.op)∧W'.cell? ⟨b2,o2+1,none⟩=some (.string y.name)∧W'.cell? ⟨b2,o2+2,none⟩=some (.int .i64 y.val)∧W'.cell? ⟨b2,o2+3,none⟩=some (.int .i64 y.bound)∧W'.cell? ⟨b2,o2+4,none⟩=some (.slice A2 y.args.length c2)) W'):=hid fun W' hb'=>by
      have hf2:=HFY.out.keepB hb'
      exact hf2
     go_upto_region 25 with (fail)
     refine qa8 (fun W':World=>W'.cell? ⟨b2,o2,none⟩=some (.int .i64 y.op)∧W'.cell? ⟨b2,o2+1,none⟩=some (.string y.name)∧W'.cell? ⟨b2,o2+2,none⟩=some (.int .i64 y.val)∧W'.cell? ⟨b2,o2+3,none⟩=some (.int .i64 y.bound)∧W'.cell? ⟨b2,o2+4,none⟩=some (.slice A2 y.args.length c2)) (by kernel_rfl) (by kernel_rfl) (by kernel_rfl) (HCY.out _ (Below.refl _ _).drew) (fun hHeld => ?_)
     simp only [List.dropLast_cons_cons,List.dropLast_singleton,List.getLast_cons_cons,List.getLast_singleton]
     refine wpAnyH_take (i:=1) (v := ?_) rfl (by kernel_rfl) (by kernel_rfl) (by kernel_rfl) (fun _ _ _ h=>h) (Or.inl ⟨by rfl,?_⟩) (by assumption) ?_
     rotate_left
     ·intro w hSw;(try dsimp only at hSw);go_simp;(try (with_reducible rfl))
     try simp only [Act.put,List.setIfInBounds_toArray,List.set_cons_zero,List.set_cons_succ]
     refine wpAnyH_take (i:=2) (v := ?_) rfl (by kernel_rfl) (by kernel_rfl) (by kernel_rfl) (fun _ _ _ h=>h) (Or.inl ⟨by rfl,?_⟩) (by assumption) ?_
     rotate_left
     ·intro w hSw;(try dsimp only at hSw);go_simp;(try (with_reducible rfl))
     try simp only [Act.put,List.setIfInBounds_toArray,List.set_cons_zero,List.set_cons_succ]
     refine wpAnyH_take (i:=3) (v := ?_) rfl (by kernel_rfl) (by kernel_rfl) (by kernel_rfl) (fun _ _ _ h=>h) (Or.inl ⟨by rfl,?_⟩) (by assumption) ?_
     rotate_left
     ·intro w hSw;(try dsimp only at hSw);go_simp;(try (with_reducible rfl))
     try simp only [Act.put,List.setIfInBounds_toArray,List.set_cons_zero,List.set_cons_succ]
     refine wpAnyH_ready (rs := [0]) (by kernel_rfl) (by simp) (AllReadyH.cons rfl (fun K hK => ?_) AllReadyH.nil)
     go_simp
     (go_at_call 91;(with_reducible refine (qf0 _).mono ?_);rintro e W1 ⟨rfl,hb1⟩;have HB1:=hid (qac (show Below wr.heap.size wr wr.drew from (Below.refl _ _).drew) hb1);clear hb1)
     go_wp2_with fail
     refine hK.out _ _ ?_ (fun hHeld => ?_)
     ·exact HCY.out _ HB1.out
     clear hK K
     try simp only [Act.put,List.setIfInBounds_toArray,List.set_cons_zero,List.set_cons_succ]
     refine wpAnyH_ready (rs := [4]) (by kernel_rfl) (by simp) (AllReadyH.cons rfl (fun K hK => ?_) AllReadyH.nil)
     go_simp
     (go_at_call 89;(with_reducible refine (rtwo_ge 10 (opF 2 []) y _ _ _ (fun k=>D k∧k≠w.heap.size+1) ?_ ?_ ?_).mono ?_);exact fun x hx=>HDE.out x (Nat.le_trans HB1.out.size hx);exact ⟨none,0,rfl,RdA.nil _ _ _ (by omega)⟩;exact ⟨_,_,rfl,HFY.out.args.belowD HB1.out⟩;rintro e U ⟨v1,rfl,⟨A5,c5,rfl,ha5⟩,hbu⟩;have HA5:=hid ha5;have HBU:=hid (qac HB1.out hbu);clear ha5 hbu)
     go_wp2_with fail
     refine hK.out _ _ ?_ (fun hHeld => ?_)
     ·exact HCY.out _ HBU.out
     clear hK K
     try simp only [Act.put,List.setIfInBounds_toArray,List.set_cons_zero,List.set_cons_succ]
     clear r0 r1 r2 r3 r4 r5 p0 p1 p2 p3 p4
     obtain ⟨r0,r1,r2,r3,r4,r5⟩:=(HRR.out.below HBU.out).cells
     have p0:=(HRR.out.below HBU.out).free 0
     have p1:=(HRR.out.below HBU.out).free 1
     have p2:=(HRR.out.below HBU.out).free 2
     have p3:=(HRR.out.below HBU.out).free 3
     have p4:=(HRR.out.below HBU.out).free 4
     obtain ⟨z,hz⟩ : ∃ z,opF 10 [opF 2 [],y]=z:=⟨_,rfl⟩
     rw [hz] at HKF HA5 ⊢
     clear hz
     refine wpAnyH_done (by kernel_rfl) ?_ _
     unfold qgw
     go_simp
     go_wp2_with fail
     refine qab fun W9 hW9 => ?_
     have hO9:OB W9 (w.heap.size+1) z.op z.name z.val z.bound A5 z.args.length c5:=by rw [hW9];exact qag (HRR.out.below HBU.out)
     have hC9:Chg (fun k=>k=w.heap.size+1) U W9:=by rw [hW9];exact qae _ _ _ _ _ _ _
     clear hW9 p0 p1 p2 p3 p4 r0 r1 r2 r3 r4 r5
     obtain ⟨r0,r1,r2,r3,r4,r5⟩:=hO9.cells
     exact bodyPost_ret (v := .agg #[.int .i64 z.op,.string z.name,.int .i64 z.val,.int .i64 z.bound,.slice A5 z.args.length c5]) (by simp [results,Tryz.results55,go_sem,r0,r1,r2,r3,r4]) rfl ⟨_,rfl,by rw [HKF.out];exact ⟨A5,c5,rfl,((HA5.out).keep (hC9.keeps fun x _ hx hv=>hx.2 hv)).mono fun x hx _=>hx.1⟩,(qac HBW.out HBU.out).trans (hC9.below (B:=w.heap.size) (fun x hx hv=>by have hv':x=w.heap.size+1:=hv;omega) (qac HBW.out HBU.out).size)⟩
    ·obtain ⟨g0,hg0,hk0⟩:=qf1 true HSH.out (by omega)
     have HGY:=hid (show gs = [kf true g0] by rw [HGA.out,hk0])
     have hkf:kf true f=opF 9 [opF 1 [],kf true g0]:=by rw [rf_lone true HSH.out (by omega) hg0,h];rfl
     obtain ⟨y,hy⟩ : ∃ y,kf true g0=y:=⟨_,rfl⟩
     rw [hy] at HGY hkf
     have HKF:=hid hkf
     clear hy hg0 hk0 hkf
     rw [h] at f0
     clear h
     have hl1:gs.length=1:=by rw [HGY.out];rfl
     rw [hl1]
     have HRY:=hid (show RdA wr (fun k=>D k∧k≠w.heap.size+1) [y] A' c' by rw [←HGY.out];exact HRD.out)
     clear hl1 hgl
     obtain ⟨b2,o2,A2,c2,rfl,hfy⟩:=RdA.first HRY.out
     have HFY:=hid hfy
     obtain ⟨-,hl2,y0,y1,y2,y3,y4, -⟩:=hfy
     obtain ⟨r0,r1,r2,r3,r4,r5⟩:=(HRR.out.below (Below.refl _ _)).cells
     have p0:=(HRR.out.below (Below.refl _ _)).free 0
     have p1:=(HRR.out.below (Below.refl _ _)).free 1
     have p2:=(HRR.out.below (Below.refl _ _)).free 2
     have p3:=(HRR.out.below (Below.refl _ _)).free 3
     have p4:=(HRR.out.below (Below.refl _ _)).free 4
     have HCY:Hid (∀ W':World,Below wr.heap.size wr W'→(fun W':World=>W'.cell? ⟨b2,o2,none⟩=some (.int .i64 y.op)∧W'.cell? ⟨b2,o2+1,none⟩=some (.string y.name)∧W'.cell? ⟨b2,o2+2,none⟩=some (.int .i64 y.val)∧W'.cell? ⟨b2,o2+3,none⟩=some (.int .i64 y.bound)∧W'.cell? ⟨b2,o2+4,none⟩=some (.slice A2 y.args.length c2)) W'):=hid fun W' hb'=>by
      have hf2:=HFY.out.keepB hb'
      exact hf2
     go_upto_region 24 with (fail)
     refine qa8 (fun W':World=>W'.cell? ⟨b2,o2,none⟩=some (.int .i64 y.op)∧W'.cell? ⟨b2,o2+1,none⟩=some (.string y.name)∧W'.cell? ⟨b2,o2+2,none⟩=some (.int .i64 y.val)∧W'.cell? ⟨b2,o2+3,none⟩=some (.int .i64 y.bound)∧W'.cell? ⟨b2,o2+4,none⟩=some (.slice A2 y.args.length c2)) (by kernel_rfl) (by kernel_rfl) (by kernel_rfl) (HCY.out _ (Below.refl _ _).drew) (fun hHeld => ?_)
     simp only [List.dropLast_cons_cons,List.dropLast_singleton,List.getLast_cons_cons,List.getLast_singleton]
     refine wpAnyH_take (i:=1) (v := ?_) rfl (by kernel_rfl) (by kernel_rfl) (by kernel_rfl) (fun _ _ _ h=>h) (Or.inl ⟨by rfl,?_⟩) (by assumption) ?_
     rotate_left
     ·intro w hSw;(try dsimp only at hSw);go_simp;(try (with_reducible rfl))
     try simp only [Act.put,List.setIfInBounds_toArray,List.set_cons_zero,List.set_cons_succ]
     refine wpAnyH_take (i:=2) (v := ?_) rfl (by kernel_rfl) (by kernel_rfl) (by kernel_rfl) (fun _ _ _ h=>h) (Or.inl ⟨by rfl,?_⟩) (by assumption) ?_
     rotate_left
     ·intro w hSw;(try dsimp only at hSw);go_simp;(try (with_reducible rfl))
     try simp only [Act.put,List.setIfInBounds_toArray,List.set_cons_zero,List.set_cons_succ]
     refine wpAnyH_take (i:=3) (v := ?_) rfl (by kernel_rfl) (by kernel_rfl) (by kernel_rfl) (fun _ _ _ h=>h) (Or.inl ⟨by rfl,?_⟩) (by assumption) ?_
     rotate_left
     ·intro w hSw;(try dsimp only at hSw);go_simp;(try (with_reducible rfl))
     try simp only [Act.put,List.setIfInBounds_toArray,List.set_cons_zero,List.set_cons_succ]
     refine wpAnyH_ready (rs := [0]) (by kernel_rfl) (by simp) (AllReadyH.cons rfl (fun K hK => ?_) AllReadyH.nil)
     go_simp
     (go_at_call 90;(with_reducible refine (qg2 _).mono ?_);rintro e W1 ⟨rfl,hb1⟩;have HB1:=hid (qac (show Below wr.heap.size wr wr.drew from (Below.refl _ _).drew) hb1);clear hb1)
     go_wp2_with fail
     refine hK.out _ _ ?_ (fun hHeld => ?_)
     ·exact HCY.out _ HB1.out
     clear hK K
     try simp only [Act.put,List.setIfInBounds_toArray,List.set_cons_zero,List.set_cons_succ]
     refine wpAnyH_ready (rs := [4]) (by kernel_rfl) (by simp) (AllReadyH.cons rfl (fun K hK => ?_) AllReadyH.nil)
     go_simp
     (go_at_call 89;(with_reducible refine (rtwo_ge 9 (opF 1 []) y _ _ _ (fun k=>D k∧k≠w.heap.size+1) ?_ ?_ ?_).mono ?_);exact fun x hx=>HDE.out x (Nat.le_trans HB1.out.size hx);exact ⟨none,0,rfl,RdA.nil _ _ _ (by omega)⟩;exact ⟨_,_,rfl,HFY.out.args.belowD HB1.out⟩;rintro e U ⟨v1,rfl,⟨A5,c5,rfl,ha5⟩,hbu⟩;have HA5:=hid ha5;have HBU:=hid (qac HB1.out hbu);clear ha5 hbu)
     go_wp2_with fail
     refine hK.out _ _ ?_ (fun hHeld => ?_)
     ·exact HCY.out _ HBU.out
     clear hK K
     try simp only [Act.put,List.setIfInBounds_toArray,List.set_cons_zero,List.set_cons_succ]
     clear r0 r1 r2 r3 r4 r5 p0 p1 p2 p3 p4
     obtain ⟨r0,r1,r2,r3,r4,r5⟩:=(HRR.out.below HBU.out).cells
     have p0:=(HRR.out.below HBU.out).free 0
     have p1:=(HRR.out.below HBU.out).free 1
     have p2:=(HRR.out.below HBU.out).free 2
     have p3:=(HRR.out.below HBU.out).free 3
     have p4:=(HRR.out.below HBU.out).free 4
     obtain ⟨z,hz⟩ : ∃ z,opF 9 [opF 1 [],y]=z:=⟨_,rfl⟩
     rw [hz] at HKF HA5 ⊢
     clear hz
     refine wpAnyH_done (by kernel_rfl) ?_ _
     unfold qgw
     go_simp
     go_wp2_with fail
     refine qab fun W9 hW9 => ?_
     have hO9:OB W9 (w.heap.size+1) z.op z.name z.val z.bound A5 z.args.length c5:=by rw [hW9];exact qag (HRR.out.below HBU.out)
     have hC9:Chg (fun k=>k=w.heap.size+1) U W9:=by rw [hW9];exact qae _ _ _ _ _ _ _
     clear hW9 p0 p1 p2 p3 p4 r0 r1 r2 r3 r4 r5
     obtain ⟨r0,r1,r2,r3,r4,r5⟩:=hO9.cells
     exact bodyPost_ret (v := .agg #[.int .i64 z.op,.string z.name,.int .i64 z.val,.int .i64 z.bound,.slice A5 z.args.length c5]) (by simp [results,Tryz.results55,go_sem,r0,r1,r2,r3,r4]) rfl ⟨_,rfl,by rw [HKF.out];exact ⟨A5,c5,rfl,((HA5.out).keep (hC9.keeps fun x _ hx hv=>hx.2 hv)).mono fun x hx _=>hx.1⟩,(qac HBW.out HBU.out).trans (hC9.below (B:=w.heap.size) (fun x hx hv=>by have hv':x=w.heap.size+1:=hv;omega) (qac HBW.out HBU.out).size)⟩
   ·cases neg
    ·obtain ⟨g0,hg0,hk0⟩:=qf1 false HSH.out (by omega)
     have HGY:=hid (show gs = [kf false g0] by rw [HGA.out,hk0])
     have hkf:kf false f=qfa 6 f.bound.toNat (kf false g0):=by rw [rf_rep false HSH.out (by omega) hg0,h];rfl
     obtain ⟨y,hy⟩ : ∃ y,kf false g0=y:=⟨_,rfl⟩
     rw [hy] at HGY hkf
     have HKF:=hid hkf
     clear hy hg0 hk0 hkf
     rw [h] at f0
     clear h
     have hl1:gs.length=1:=by rw [HGY.out];rfl
     rw [hl1]
     have HRY:=hid (show RdA wr (fun k=>D k∧k≠w.heap.size+1) [y] A' c' by rw [←HGY.out];exact HRD.out)
     clear hl1 hgl
     obtain ⟨b2,o2,A2,c2,rfl,hfy⟩:=RdA.first HRY.out
     have HFY:=hid hfy
     obtain ⟨-,hl2,y0,y1,y2,y3,y4, -⟩:=hfy
     obtain ⟨r0,r1,r2,r3,r4,r5⟩:=(HRR.out.below (Below.refl _ _)).cells
     have p0:=(HRR.out.below (Below.refl _ _)).free 0
     have p1:=(HRR.out.below (Below.refl _ _)).free 1
     have p2:=(HRR.out.below (Below.refl _ _)).free 2
     have p3:=(HRR.out.below (Below.refl _ _)).free 3
     have p4:=(HRR.out.below (Below.refl _ _)).free 4
     obtain ⟨nb,hnb,hnb2⟩ : ∃ nb:Nat,f.bound=(nb:Int)∧f.bound.toNat=nb:=⟨f.bound.toNat,by have:=(qfd HSH.out).1;omega,rfl⟩
     have hnb9:nb≤1000:=by have:=(qfd HSH.out).2;omega
     rw [hnb] at f3
     rw [hnb2] at HKF
     have HF3:=hid f3
     clear hnb hnb2
     have HCY:Hid (∀ W':World,Below wr.heap.size wr W'→(fun W':World=>W'.cell? ⟨b2,o2,none⟩=some (.int .i64 y.op)∧W'.cell? ⟨b2,o2+1,none⟩=some (.string y.name)∧W'.cell? ⟨b2,o2+2,none⟩=some (.int .i64 y.val)∧W'.cell? ⟨b2,o2+3,none⟩=some (.int .i64 y.bound)∧W'.cell? ⟨b2,o2+4,none⟩=some (.slice A2 y.args.length c2)∧W'.cell? ⟨w.heap.size,3,none⟩=some (.int .i64 (nb:Int))) W'):=hid fun W' hb'=>by
      have hf2:=HFY.out.keepB hb'
      exact ⟨hf2.1,hf2.2.1,hf2.2.2.1,hf2.2.2.2.1,hf2.2.2.2.2,(World.cell?_of_block (w:=wr) (a:=⟨w.heap.size,3,none⟩) (hb'.block _ f5)).trans HF3.out⟩
     go_upto_region 29 with (fail)
     refine qa8 (fun W':World=>W'.cell? ⟨b2,o2,none⟩=some (.int .i64 y.op)∧W'.cell? ⟨b2,o2+1,none⟩=some (.string y.name)∧W'.cell? ⟨b2,o2+2,none⟩=some (.int .i64 y.val)∧W'.cell? ⟨b2,o2+3,none⟩=some (.int .i64 y.bound)∧W'.cell? ⟨b2,o2+4,none⟩=some (.slice A2 y.args.length c2)∧W'.cell? ⟨w.heap.size,3,none⟩=some (.int .i64 (nb:Int))) (by kernel_rfl) (by kernel_rfl) (by kernel_rfl) (HCY.out _ (Below.refl _ _).drew) (fun hHeld => ?_)
     simp only [List.dropLast_cons_cons,List.dropLast_singleton,List.getLast_cons_cons,List.getLast_singleton]
     refine wpAnyH_take (i:=0) (v := ?_) rfl (by kernel_rfl) (by kernel_rfl) (by kernel_rfl) (fun _ _ _ h=>h) (Or.inl ⟨by rfl,?_⟩) (by assumption) ?_
     rotate_left
     ·intro w hSw;(try dsimp only at hSw);go_simp;(try (with_reducible rfl))
     try simp only [Act.put,List.setIfInBounds_toArray,List.set_cons_zero,List.set_cons_succ]
     refine wpAnyH_take (i:=1) (v := ?_) rfl (by kernel_rfl) (by kernel_rfl) (by kernel_rfl) (fun _ _ _ h=>h) (Or.inl ⟨by rfl,?_⟩) (by assumption) ?_
     rotate_left
     ·intro w hSw;(try dsimp only at hSw);go_simp;(try (with_reducible rfl))
     try simp only [Act.put,List.setIfInBounds_toArray,List.set_cons_zero,List.set_cons_succ]
     refine wpAnyH_take (i:=2) (v := ?_) rfl (by kernel_rfl) (by kernel_rfl) (by kernel_rfl) (fun _ _ _ h=>h) (Or.inl ⟨by rfl,?_⟩) (by assumption) ?_
     rotate_left
     ·intro w hSw;(try dsimp only at hSw);go_simp;(try (with_reducible rfl))
     try simp only [Act.put,List.setIfInBounds_toArray,List.set_cons_zero,List.set_cons_succ]
     refine wpAnyH_take (i:=3) (v := ?_) rfl (by kernel_rfl) (by kernel_rfl) (by kernel_rfl) (fun _ _ _ h=>h) (Or.inl ⟨by rfl,?_⟩) (by assumption) ?_
     rotate_left
     ·intro w hSw;(try dsimp only at hSw);go_simp;(try (with_reducible rfl))
     try simp only [Act.put,List.setIfInBounds_toArray,List.set_cons_zero,List.set_cons_succ]
     refine wpAnyH_take (i:=4) (v := ?_) rfl (by kernel_rfl) (by kernel_rfl) (by kernel_rfl) (fun _ _ _ h=>h) (Or.inl ⟨by rfl,?_⟩) (by assumption) ?_
     rotate_left
     ·intro w hSw;(try dsimp only at hSw);go_simp;(try (with_reducible rfl))
     try simp only [Act.put,List.setIfInBounds_toArray,List.set_cons_zero,List.set_cons_succ]
     refine wpAnyH_ready (rs := [5]) (by kernel_rfl) (by simp) (AllReadyH.cons rfl (fun K hK => ?_) AllReadyH.nil)
     go_simp
     (go_at_call 92;(with_reducible refine (qe3 6 nb y _ _ (fun k=>D k∧k≠w.heap.size+1) ?_ ?_ hnb9).mono ?_);exact fun x hx=>HDE.out x hx;exact ⟨_,_,rfl,HFY.out.args.belowD (show Below wr.heap.size wr wr.drew from (Below.refl _ _).drew)⟩;rintro e U ⟨v1,rfl,⟨A5,c5,rfl,ha5⟩,hbu⟩;have HA5:=hid ha5;have HBU:=hid (qac (show Below wr.heap.size wr wr.drew from (Below.refl _ _).drew) hbu);clear ha5 hbu)
     go_wp2_with fail
     refine hK.out _ _ ?_ (fun hHeld => ?_)
     ·exact HCY.out _ HBU.out
     clear hK K
     try simp only [Act.put,List.setIfInBounds_toArray,List.set_cons_zero,List.set_cons_succ]
     clear r0 r1 r2 r3 r4 r5 p0 p1 p2 p3 p4
     obtain ⟨r0,r1,r2,r3,r4,r5⟩:=(HRR.out.below HBU.out).cells
     have p0:=(HRR.out.below HBU.out).free 0
     have p1:=(HRR.out.below HBU.out).free 1
     have p2:=(HRR.out.below HBU.out).free 2
     have p3:=(HRR.out.below HBU.out).free 3
     have p4:=(HRR.out.below HBU.out).free 4
     obtain ⟨z,hz⟩ : ∃ z,qfa 6 nb y=z:=⟨_,rfl⟩
     rw [hz] at HKF HA5 ⊢
     clear hz
     refine wpAnyH_done (by kernel_rfl) ?_ _
     unfold qgw
     go_simp
     go_wp2_with fail
     refine qab fun W9 hW9 => ?_
     have hO9:OB W9 (w.heap.size+1) z.op z.name z.val z.bound A5 z.args.length c5:=by rw [hW9];exact qag (HRR.out.below HBU.out)
     have hC9:Chg (fun k=>k=w.heap.size+1) U W9:=by rw [hW9];exact qae _ _ _ _ _ _ _
     clear hW9 p0 p1 p2 p3 p4 r0 r1 r2 r3 r4 r5
     obtain ⟨r0,r1,r2,r3,r4,r5⟩:=hO9.cells
     exact bodyPost_ret (v := .agg #[.int .i64 z.op,.string z.name,.int .i64 z.val,.int .i64 z.bound,.slice A5 z.args.length c5]) (by simp [results,Tryz.results55,go_sem,r0,r1,r2,r3,r4]) rfl ⟨_,rfl,by rw [HKF.out];exact ⟨A5,c5,rfl,((HA5.out).keep (hC9.keeps fun x _ hx hv=>hx.2 hv)).mono fun x hx _=>hx.1⟩,(qac HBW.out HBU.out).trans (hC9.below (B:=w.heap.size) (fun x hx hv=>by have hv':x=w.heap.size+1:=hv;omega) (qac HBW.out HBU.out).size)⟩
    ·obtain ⟨g0,hg0,hk0⟩:=qf1 true HSH.out (by omega)
     have HGY:=hid (show gs = [kf true g0] by rw [HGA.out,hk0])
     have hkf:kf true f=qfa 5 f.bound.toNat (kf true g0):=by rw [rf_rep true HSH.out (by omega) hg0,h];rfl
     obtain ⟨y,hy⟩ : ∃ y,kf true g0=y:=⟨_,rfl⟩
     rw [hy] at HGY hkf
     have HKF:=hid hkf
     clear hy hg0 hk0 hkf
     rw [h] at f0
     clear h
     have hl1:gs.length=1:=by rw [HGY.out];rfl
     rw [hl1]
     have HRY:=hid (show RdA wr (fun k=>D k∧k≠w.heap.size+1) [y] A' c' by rw [←HGY.out];exact HRD.out)
     clear hl1 hgl
     obtain ⟨b2,o2,A2,c2,rfl,hfy⟩:=RdA.first HRY.out
     have HFY:=hid hfy
     obtain ⟨-,hl2,y0,y1,y2,y3,y4, -⟩:=hfy
     obtain ⟨r0,r1,r2,r3,r4,r5⟩:=(HRR.out.below (Below.refl _ _)).cells
     have p0:=(HRR.out.below (Below.refl _ _)).free 0
     have p1:=(HRR.out.below (Below.refl _ _)).free 1
     have p2:=(HRR.out.below (Below.refl _ _)).free 2
     have p3:=(HRR.out.below (Below.refl _ _)).free 3
     have p4:=(HRR.out.below (Below.refl _ _)).free 4
     obtain ⟨nb,hnb,hnb2⟩ : ∃ nb:Nat,f.bound=(nb:Int)∧f.bound.toNat=nb:=⟨f.bound.toNat,by have:=(qfd HSH.out).1;omega,rfl⟩
     have hnb9:nb≤1000:=by have:=(qfd HSH.out).2;omega
     rw [hnb] at f3
     rw [hnb2] at HKF
     have HF3:=hid f3
     clear hnb hnb2
     have HCY:Hid (∀ W':World,Below wr.heap.size wr W'→(fun W':World=>W'.cell? ⟨b2,o2,none⟩=some (.int .i64 y.op)∧W'.cell? ⟨b2,o2+1,none⟩=some (.string y.name)∧W'.cell? ⟨b2,o2+2,none⟩=some (.int .i64 y.val)∧W'.cell? ⟨b2,o2+3,none⟩=some (.int .i64 y.bound)∧W'.cell? ⟨b2,o2+4,none⟩=some (.slice A2 y.args.length c2)∧W'.cell? ⟨w.heap.size,3,none⟩=some (.int .i64 (nb:Int))) W'):=hid fun W' hb'=>by
      have hf2:=HFY.out.keepB hb'
      exact ⟨hf2.1,hf2.2.1,hf2.2.2.1,hf2.2.2.2.1,hf2.2.2.2.2,(World.cell?_of_block (w:=wr) (a:=⟨w.heap.size,3,none⟩) (hb'.block _ f5)).trans HF3.out⟩
     go_upto_region 30 with (fail)
     refine qa8 (fun W':World=>W'.cell? ⟨b2,o2,none⟩=some (.int .i64 y.op)∧W'.cell? ⟨b2,o2+1,none⟩=some (.string y.name)∧W'.cell? ⟨b2,o2+2,none⟩=some (.int .i64 y.val)∧W'.cell? ⟨b2,o2+3,none⟩=some (.int .i64 y.bound)∧W'.cell? ⟨b2,o2+4,none⟩=some (.slice A2 y.args.length c2)∧W'.cell? ⟨w.heap.size,3,none⟩=some (.int .i64 (nb:Int))) (by kernel_rfl) (by kernel_rfl) (by kernel_rfl) (HCY.out _ (Below.refl _ _).drew) (fun hHeld => ?_)
     simp only [List.dropLast_cons_cons,List.dropLast_singleton,List.getLast_cons_cons,List.getLast_singleton]
     refine wpAnyH_take (i:=0) (v := ?_) rfl (by kernel_rfl) (by kernel_rfl) (by kernel_rfl) (fun _ _ _ h=>h) (Or.inl ⟨by rfl,?_⟩) (by assumption) ?_
     rotate_left
     ·intro w hSw;(try dsimp only at hSw);go_simp;(try (with_reducible rfl))
     try simp only [Act.put,List.setIfInBounds_toArray,List.set_cons_zero,List.set_cons_succ]
     refine wpAnyH_take (i:=1) (v := ?_) rfl (by kernel_rfl) (by kernel_rfl) (by kernel_rfl) (fun _ _ _ h=>h) (Or.inl ⟨by rfl,?_⟩) (by assumption) ?_
     rotate_left
     ·intro w hSw;(try dsimp only at hSw);go_simp;(try (with_reducible rfl))
     try simp only [Act.put,List.setIfInBounds_toArray,List.set_cons_zero,List.set_cons_succ]
     refine wpAnyH_take (i:=2) (v := ?_) rfl (by kernel_rfl) (by kernel_rfl) (by kernel_rfl) (fun _ _ _ h=>h) (Or.inl ⟨by rfl,?_⟩) (by assumption) ?_
     rotate_left
     ·intro w hSw;(try dsimp only at hSw);go_simp;(try (with_reducible rfl))
     try simp only [Act.put,List.setIfInBounds_toArray,List.set_cons_zero,List.set_cons_succ]
     refine wpAnyH_take (i:=3) (v := ?_) rfl (by kernel_rfl) (by kernel_rfl) (by kernel_rfl) (fun _ _ _ h=>h) (Or.inl ⟨by rfl,?_⟩) (by assumption) ?_
     rotate_left
     ·intro w hSw;(try dsimp only at hSw);go_simp;(try (with_reducible rfl))
     try simp only [Act.put,List.setIfInBounds_toArray,List.set_cons_zero,List.set_cons_succ]
     refine wpAnyH_take (i:=4) (v := ?_) rfl (by kernel_rfl) (by kernel_rfl) (by kernel_rfl) (fun _ _ _ h=>h) (Or.inl ⟨by rfl,?_⟩) (by assumption) ?_
     rotate_left
     ·intro w hSw;(try dsimp only at hSw);go_simp;(try (with_reducible rfl))
     try simp only [Act.put,List.setIfInBounds_toArray,List.set_cons_zero,List.set_cons_succ]
     refine wpAnyH_ready (rs := [5]) (by kernel_rfl) (by simp) (AllReadyH.cons rfl (fun K hK => ?_) AllReadyH.nil)
     go_simp
     (go_at_call 92;(with_reducible refine (qe3 5 nb y _ _ (fun k=>D k∧k≠w.heap.size+1) ?_ ?_ hnb9).mono ?_);exact fun x hx=>HDE.out x hx;exact ⟨_,_,rfl,HFY.out.args.belowD (show Below wr.heap.size wr wr.drew from (Below.refl _ _).drew)⟩;rintro e U ⟨v1,rfl,⟨A5,c5,rfl,ha5⟩,hbu⟩;have HA5:=hid ha5;have HBU:=hid (qac (show Below wr.heap.size wr wr.drew from (Below.refl _ _).drew) hbu);clear ha5 hbu)
     go_wp2_with fail
     refine hK.out _ _ ?_ (fun hHeld => ?_)
     ·exact HCY.out _ HBU.out
     clear hK K
     try simp only [Act.put,List.setIfInBounds_toArray,List.set_cons_zero,List.set_cons_succ]
     clear r0 r1 r2 r3 r4 r5 p0 p1 p2 p3 p4
     obtain ⟨r0,r1,r2,r3,r4,r5⟩:=(HRR.out.below HBU.out).cells
     have p0:=(HRR.out.below HBU.out).free 0
     have p1:=(HRR.out.below HBU.out).free 1
     have p2:=(HRR.out.below HBU.out).free 2
     have p3:=(HRR.out.below HBU.out).free 3
     have p4:=(HRR.out.below HBU.out).free 4
     obtain ⟨z,hz⟩ : ∃ z,qfa 5 nb y=z:=⟨_,rfl⟩
     rw [hz] at HKF HA5 ⊢
     clear hz
     refine wpAnyH_done (by kernel_rfl) ?_ _
     unfold qgw
     go_simp
     go_wp2_with fail
     refine qab fun W9 hW9 => ?_
     have hO9:OB W9 (w.heap.size+1) z.op z.name z.val z.bound A5 z.args.length c5:=by rw [hW9];exact qag (HRR.out.below HBU.out)
     have hC9:Chg (fun k=>k=w.heap.size+1) U W9:=by rw [hW9];exact qae _ _ _ _ _ _ _
     clear hW9 p0 p1 p2 p3 p4 r0 r1 r2 r3 r4 r5
     obtain ⟨r0,r1,r2,r3,r4,r5⟩:=hO9.cells
     exact bodyPost_ret (v := .agg #[.int .i64 z.op,.string z.name,.int .i64 z.val,.int .i64 z.bound,.slice A5 z.args.length c5]) (by simp [results,Tryz.results55,go_sem,r0,r1,r2,r3,r4]) rfl ⟨_,rfl,by rw [HKF.out];exact ⟨A5,c5,rfl,((HA5.out).keep (hC9.keeps fun x _ hx hv=>hx.2 hv)).mono fun x hx _=>hx.1⟩,(qac HBW.out HBU.out).trans (hC9.below (B:=w.heap.size) (fun x hx hv=>by have hv':x=w.heap.size+1:=hv;omega) (qac HBW.out HBU.out).size)⟩
   ·cases neg
    ·obtain ⟨g0,hg0,hk0⟩:=qf1 false HSH.out (by omega)
     have HGY:=hid (show gs = [kf false g0] by rw [HGA.out,hk0])
     have hkf:kf false f=qfa 5 f.bound.toNat (kf false g0):=by rw [rf_rep false HSH.out (by omega) hg0,h];rfl
     obtain ⟨y,hy⟩ : ∃ y,kf false g0=y:=⟨_,rfl⟩
     rw [hy] at HGY hkf
     have HKF:=hid hkf
     clear hy hg0 hk0 hkf
     rw [h] at f0
     clear h
     have hl1:gs.length=1:=by rw [HGY.out];rfl
     rw [hl1]
     have HRY:=hid (show RdA wr (fun k=>D k∧k≠w.heap.size+1) [y] A' c' by rw [←HGY.out];exact HRD.out)
     clear hl1 hgl
     obtain ⟨b2,o2,A2,c2,rfl,hfy⟩:=RdA.first HRY.out
     have HFY:=hid hfy
     obtain ⟨-,hl2,y0,y1,y2,y3,y4, -⟩:=hfy
     obtain ⟨r0,r1,r2,r3,r4,r5⟩:=(HRR.out.below (Below.refl _ _)).cells
     have p0:=(HRR.out.below (Below.refl _ _)).free 0
     have p1:=(HRR.out.below (Below.refl _ _)).free 1
     have p2:=(HRR.out.below (Below.refl _ _)).free 2
     have p3:=(HRR.out.below (Below.refl _ _)).free 3
     have p4:=(HRR.out.below (Below.refl _ _)).free 4
     obtain ⟨nb,hnb,hnb2⟩ : ∃ nb:Nat,f.bound=(nb:Int)∧f.bound.toNat=nb:=⟨f.bound.toNat,by have:=(qfd HSH.out).1;omega,rfl⟩
     have hnb9:nb≤1000:=by have:=(qfd HSH.out).2;omega
     rw [hnb] at f3
     rw [hnb2] at HKF
     have HF3:=hid f3
     clear hnb hnb2
     have HCY:Hid (∀ W':World,Below wr.heap.size wr W'→(fun W':World=>W'.cell? ⟨b2,o2,none⟩=some (.int .i64 y.op)∧W'.cell? ⟨b2,o2+1,none⟩=some (.string y.name)∧W'.cell? ⟨b2,o2+2,none⟩=some (.int .i64 y.val)∧W'.cell? ⟨b2,o2+3,none⟩=some (.int .i64 y.bound)∧W'.cell? ⟨b2,o2+4,none⟩=some (.slice A2 y.args.length c2)∧W'.cell? ⟨w.heap.size,3,none⟩=some (.int .i64 (nb:Int))) W'):=hid fun W' hb'=>by
      have hf2:=HFY.out.keepB hb'
      exact ⟨hf2.1,hf2.2.1,hf2.2.2.1,hf2.2.2.2.1,hf2.2.2.2.2,(World.cell?_of_block (w:=wr) (a:=⟨w.heap.size,3,none⟩) (hb'.block _ f5)).trans HF3.out⟩
     go_upto_region 30 with (fail)
     refine qa8 (fun W':World=>W'.cell? ⟨b2,o2,none⟩=some (.int .i64 y.op)∧W'.cell? ⟨b2,o2+1,none⟩=some (.string y.name)∧W'.cell? ⟨b2,o2+2,none⟩=some (.int .i64 y.val)∧W'.cell? ⟨b2,o2+3,none⟩=some (.int .i64 y.bound)∧W'.cell? ⟨b2,o2+4,none⟩=some (.slice A2 y.args.length c2)∧W'.cell? ⟨w.heap.size,3,none⟩=some (.int .i64 (nb:Int))) (by kernel_rfl) (by kernel_rfl) (by kernel_rfl) (HCY.out _ (Below.refl _ _).drew) (fun hHeld => ?_)
     simp only [List.dropLast_cons_cons,List.dropLast_singleton,List.getLast_cons_cons,List.getLast_singleton]
     refine wpAnyH_take (i:=0) (v := ?_) rfl (by kernel_rfl) (by kernel_rfl) (by kernel_rfl) (fun _ _ _ h=>h) (Or.inl ⟨by rfl,?_⟩) (by assumption) ?_
     rotate_left
     ·intro w hSw;(try dsimp only at hSw);go_simp;(try (with_reducible rfl))
     try simp only [Act.put,List.setIfInBounds_toArray,List.set_cons_zero,List.set_cons_succ]
     refine wpAnyH_take (i:=1) (v := ?_) rfl (by kernel_rfl) (by kernel_rfl) (by kernel_rfl) (fun _ _ _ h=>h) (Or.inl ⟨by rfl,?_⟩) (by assumption) ?_
     rotate_left
     ·intro w hSw;(try dsimp only at hSw);go_simp;(try (with_reducible rfl))
     try simp only [Act.put,List.setIfInBounds_toArray,List.set_cons_zero,List.set_cons_succ]
     refine wpAnyH_take (i:=2) (v := ?_) rfl (by kernel_rfl) (by kernel_rfl) (by kernel_rfl) (fun _ _ _ h=>h) (Or.inl ⟨by rfl,?_⟩) (by assumption) ?_
     rotate_left
     ·intro w hSw;(try dsimp only at hSw);go_simp;(try (with_reducible rfl))
     try simp only [Act.put,List.setIfInBounds_toArray,List.set_cons_zero,List.set_cons_succ]
     refine wpAnyH_take (i:=3) (v := ?_) rfl (by kernel_rfl) (by kernel_rfl) (by kernel_rfl) (fun _ _ _ h=>h) (Or.inl ⟨by rfl,?_⟩) (by assumption) ?_
     rotate_left
     ·intro w hSw;(try dsimp only at hSw);go_simp;(try (with_reducible rfl))
     try simp only [Act.put,List.setIfInBounds_toArray,List.set_cons_zero,List.set_cons_succ]
     refine wpAnyH_take (i:=4) (v := ?_) rfl (by kernel_rfl) (by kernel_rfl) (by kernel_rfl) (fun _ _ _ h=>h) (Or.inl ⟨by rfl,?_⟩) (by assumption) ?_
     rotate_left
     ·intro w hSw;(try dsimp only at hSw);go_simp;(try (with_reducible rfl))
     try simp only [Act.put,List.setIfInBounds_toArray,List.set_cons_zero,List.set_cons_succ]
     refine wpAnyH_ready (rs := [5]) (by kernel_rfl) (by simp) (AllReadyH.cons rfl (fun K hK => ?_) AllReadyH.nil)
     go_simp
     (go_at_call 92;(with_reducible refine (qe3 5 nb y _ _ (fun k=>D k∧k≠w.heap.size+1) ?_ ?_ hnb9).mono ?_);exact fun x hx=>HDE.out x hx;exact ⟨_,_,rfl,HFY.out.args.belowD (show Below wr.heap.size wr wr.drew from (Below.refl _ _).drew)⟩;rintro e U ⟨v1,rfl,⟨A5,c5,rfl,ha5⟩,hbu⟩;have HA5:=hid ha5;have HBU:=hid (qac (show Below wr.heap.size wr wr.drew from (Below.refl _ _).drew) hbu);clear ha5 hbu)
     go_wp2_with fail
     refine hK.out _ _ ?_ (fun hHeld => ?_)
     ·exact HCY.out _ HBU.out
     clear hK K
     try simp only [Act.put,List.setIfInBounds_toArray,List.set_cons_zero,List.set_cons_succ]
     clear r0 r1 r2 r3 r4 r5 p0 p1 p2 p3 p4
     obtain ⟨r0,r1,r2,r3,r4,r5⟩:=(HRR.out.below HBU.out).cells
     have p0:=(HRR.out.below HBU.out).free 0
     have p1:=(HRR.out.below HBU.out).free 1
     have p2:=(HRR.out.below HBU.out).free 2
     have p3:=(HRR.out.below HBU.out).free 3
     have p4:=(HRR.out.below HBU.out).free 4
     obtain ⟨z,hz⟩ : ∃ z,qfa 5 nb y=z:=⟨_,rfl⟩
     rw [hz] at HKF HA5 ⊢
     clear hz
     refine wpAnyH_done (by kernel_rfl) ?_ _
     unfold qgw
     go_simp
     go_wp2_with fail
     refine qab fun W9 hW9 => ?_
     have hO9:OB W9 (w.heap.size+1) z.op z.name z.val z.bound A5 z.args.length c5:=by rw [hW9];exact qag (HRR.out.below HBU.out)
     have hC9:Chg (fun k=>k=w.heap.size+1) U W9:=by rw [hW9];exact qae _ _ _ _ _ _ _
     clear hW9 p0 p1 p2 p3 p4 r0 r1 r2 r3 r4 r5
     obtain ⟨r0,r1,r2,r3,r4,r5⟩:=hO9.cells
     exact bodyPost_ret (v := .agg #[.int .i64 z.op,.string z.name,.int .i64 z.val,.int .i64 z.bound,.slice A5 z.args.length c5]) (by simp [results,Tryz.results55,go_sem,r0,r1,r2,r3,r4]) rfl ⟨_,rfl,by rw [HKF.out];exact ⟨A5,c5,rfl,((HA5.out).keep (hC9.keeps fun x _ hx hv=>hx.2 hv)).mono fun x hx _=>hx.1⟩,(qac HBW.out HBU.out).trans (hC9.below (B:=w.heap.size) (fun x hx hv=>by have hv':x=w.heap.size+1:=hv;omega) (qac HBW.out HBU.out).size)⟩
    ·obtain ⟨g0,hg0,hk0⟩:=qf1 true HSH.out (by omega)
     have HGY:=hid (show gs = [kf true g0] by rw [HGA.out,hk0])
     have hkf:kf true f=qfa 6 f.bound.toNat (kf true g0):=by rw [rf_rep true HSH.out (by omega) hg0,h];rfl
     obtain ⟨y,hy⟩ : ∃ y,kf true g0=y:=⟨_,rfl⟩
     rw [hy] at HGY hkf
     have HKF:=hid hkf
     clear hy hg0 hk0 hkf
     rw [h] at f0
     clear h
     have hl1:gs.length=1:=by rw [HGY.out];rfl
     rw [hl1]
     have HRY:=hid (show RdA wr (fun k=>D k∧k≠w.heap.size+1) [y] A' c' by rw [←HGY.out];exact HRD.out)
     clear hl1 hgl
     obtain ⟨b2,o2,A2,c2,rfl,hfy⟩:=RdA.first HRY.out
     have HFY:=hid hfy
     obtain ⟨-,hl2,y0,y1,y2,y3,y4, -⟩:=hfy
     obtain ⟨r0,r1,r2,r3,r4,r5⟩:=(HRR.out.below (Below.refl _ _)).cells
     have p0:=(HRR.out.below (Below.refl _ _)).free 0
     have p1:=(HRR.out.below (Below.refl _ _)).free 1
     have p2:=(HRR.out.below (Below.refl _ _)).free 2
     have p3:=(HRR.out.below (Below.refl _ _)).free 3
     have p4:=(HRR.out.below (Below.refl _ _)).free 4
     obtain ⟨nb,hnb,hnb2⟩ : ∃ nb:Nat,f.bound=(nb:Int)∧f.bound.toNat=nb:=⟨f.bound.toNat,by have:=(qfd HSH.out).1;omega,rfl⟩
     have hnb9:nb≤1000:=by have:=(qfd HSH.out).2;omega
     rw [hnb] at f3
     rw [hnb2] at HKF
     have HF3:=hid f3
     clear hnb hnb2
     have HCY:Hid (∀ W':World,Below wr.heap.size wr W'→(fun W':World=>W'.cell? ⟨b2,o2,none⟩=some (.int .i64 y.op)∧W'.cell? ⟨b2,o2+1,none⟩=some (.string y.name)∧W'.cell? ⟨b2,o2+2,none⟩=some (.int .i64 y.val)∧W'.cell? ⟨b2,o2+3,none⟩=some (.int .i64 y.bound)∧W'.cell? ⟨b2,o2+4,none⟩=some (.slice A2 y.args.length c2)∧W'.cell? ⟨w.heap.size,3,none⟩=some (.int .i64 (nb:Int))) W'):=hid fun W' hb'=>by
      have hf2:=HFY.out.keepB hb'
      exact ⟨hf2.1,hf2.2.1,hf2.2.2.1,hf2.2.2.2.1,hf2.2.2.2.2,(World.cell?_of_block (w:=wr) (a:=⟨w.heap.size,3,none⟩) (hb'.block _ f5)).trans HF3.out⟩
     go_upto_region 29 with (fail)
     refine qa8 (fun W':World=>W'.cell? ⟨b2,o2,none⟩=some (.int .i64 y.op)∧W'.cell? ⟨b2,o2+1,none⟩=some (.string y.name)∧W'.cell? ⟨b2,o2+2,none⟩=some (.int .i64 y.val)∧W'.cell? ⟨b2,o2+3,none⟩=some (.int .i64 y.bound)∧W'.cell? ⟨b2,o2+4,none⟩=some (.slice A2 y.args.length c2)∧W'.cell? ⟨w.heap.size,3,none⟩=some (.int .i64 (nb:Int))) (by kernel_rfl) (by kernel_rfl) (by kernel_rfl) (HCY.out _ (Below.refl _ _).drew) (fun hHeld => ?_)
     simp only [List.dropLast_cons_cons,List.dropLast_singleton,List.getLast_cons_cons,List.getLast_singleton]
     refine wpAnyH_take (i:=0) (v := ?_) rfl (by kernel_rfl) (by kernel_rfl) (by kernel_rfl) (fun _ _ _ h=>h) (Or.inl ⟨by rfl,?_⟩) (by assumption) ?_
     rotate_left
     ·intro w hSw;(try dsimp only at hSw);go_simp;(try (with_reducible rfl))
     try simp only [Act.put,List.setIfInBounds_toArray,List.set_cons_zero,List.set_cons_succ]
     refine wpAnyH_take (i:=1) (v := ?_) rfl (by kernel_rfl) (by kernel_rfl) (by kernel_rfl) (fun _ _ _ h=>h) (Or.inl ⟨by rfl,?_⟩) (by assumption) ?_
     rotate_left
     ·intro w hSw;(try dsimp only at hSw);go_simp;(try (with_reducible rfl))
     try simp only [Act.put,List.setIfInBounds_toArray,List.set_cons_zero,List.set_cons_succ]
     refine wpAnyH_take (i:=2) (v := ?_) rfl (by kernel_rfl) (by kernel_rfl) (by kernel_rfl) (fun _ _ _ h=>h) (Or.inl ⟨by rfl,?_⟩) (by assumption) ?_
     rotate_left
     ·intro w hSw;(try dsimp only at hSw);go_simp;(try (with_reducible rfl))
     try simp only [Act.put,List.setIfInBounds_toArray,List.set_cons_zero,List.set_cons_succ]
     refine wpAnyH_take (i:=3) (v := ?_) rfl (by kernel_rfl) (by kernel_rfl) (by kernel_rfl) (fun _ _ _ h=>h) (Or.inl ⟨by rfl,?_⟩) (by assumption) ?_
     rotate_left
     ·intro w hSw;(try dsimp only at hSw);go_simp;(try (with_reducible rfl))
     try simp only [Act.put,List.setIfInBounds_toArray,List.set_cons_zero,List.set_cons_succ]
     refine wpAnyH_take (i:=4) (v := ?_) rfl (by kernel_rfl) (by kernel_rfl) (by kernel_rfl) (fun _ _ _ h=>h) (Or.inl ⟨by rfl,?_⟩) (by assumption) ?_
     rotate_left
     ·intro w hSw;(try dsimp only at hSw);go_simp;(try (with_reducible rfl))
     try simp only [Act.put,List.setIfInBounds_toArray,List.set_cons_zero,List.set_cons_succ]
     refine wpAnyH_ready (rs := [5]) (by kernel_rfl) (by simp) (AllReadyH.cons rfl (fun K hK => ?_) AllReadyH.nil)
     go_simp
     (go_at_call 92;(with_reducible refine (qe3 6 nb y _ _ (fun k=>D k∧k≠w.heap.size+1) ?_ ?_ hnb9).mono ?_);exact fun x hx=>HDE.out x hx;exact ⟨_,_,rfl,HFY.out.args.belowD (show Below wr.heap.size wr wr.drew from (Below.refl _ _).drew)⟩;rintro e U ⟨v1,rfl,⟨A5,c5,rfl,ha5⟩,hbu⟩;have HA5:=hid ha5;have HBU:=hid (qac (show Below wr.heap.size wr wr.drew from (Below.refl _ _).drew) hbu);clear ha5 hbu)
     go_wp2_with fail
     refine hK.out _ _ ?_ (fun hHeld => ?_)
     ·exact HCY.out _ HBU.out
     clear hK K
     try simp only [Act.put,List.setIfInBounds_toArray,List.set_cons_zero,List.set_cons_succ]
     clear r0 r1 r2 r3 r4 r5 p0 p1 p2 p3 p4
     obtain ⟨r0,r1,r2,r3,r4,r5⟩:=(HRR.out.below HBU.out).cells
     have p0:=(HRR.out.below HBU.out).free 0
     have p1:=(HRR.out.below HBU.out).free 1
     have p2:=(HRR.out.below HBU.out).free 2
     have p3:=(HRR.out.below HBU.out).free 3
     have p4:=(HRR.out.below HBU.out).free 4
     obtain ⟨z,hz⟩ : ∃ z,qfa 6 nb y=z:=⟨_,rfl⟩
     rw [hz] at HKF HA5 ⊢
     clear hz
     refine wpAnyH_done (by kernel_rfl) ?_ _
     unfold qgw
     go_simp
     go_wp2_with fail
     refine qab fun W9 hW9 => ?_
     have hO9:OB W9 (w.heap.size+1) z.op z.name z.val z.bound A5 z.args.length c5:=by rw [hW9];exact qag (HRR.out.below HBU.out)
     have hC9:Chg (fun k=>k=w.heap.size+1) U W9:=by rw [hW9];exact qae _ _ _ _ _ _ _
     clear hW9 p0 p1 p2 p3 p4 r0 r1 r2 r3 r4 r5
     obtain ⟨r0,r1,r2,r3,r4,r5⟩:=hO9.cells
     exact bodyPost_ret (v := .agg #[.int .i64 z.op,.string z.name,.int .i64 z.val,.int .i64 z.bound,.slice A5 z.args.length c5]) (by simp [results,Tryz.results55,go_sem,r0,r1,r2,r3,r4]) rfl ⟨_,rfl,by rw [HKF.out];exact ⟨A5,c5,rfl,((HA5.out).keep (hC9.keeps fun x _ hx hv=>hx.2 hv)).mono fun x hx _=>hx.1⟩,(qac HBW.out HBU.out).trans (hC9.below (B:=w.heap.size) (fun x hx hv=>by have hv':x=w.heap.size+1:=hv;omega) (qac HBW.out HBU.out).size)⟩
   ·cases neg
    ·obtain ⟨g0,hg0,hk0⟩:=qf1 false HSH.out (by omega)
     have HGY:=hid (show gs = [kf false g0] by rw [HGA.out,hk0])
     have hkf:kf false f = .mk 16 ⟨#[]⟩ 0 0 [opF 1 [],kf false g0]:=by rw [rf_lonp false HSH.out (by omega) hg0,h];rfl
     obtain ⟨y,hy⟩ : ∃ y,kf false g0=y:=⟨_,rfl⟩
     rw [hy] at HGY hkf
     have HKF:=hid hkf
     clear hy hg0 hk0 hkf
     rw [h] at f0
     clear h
     have hl1:gs.length=1:=by rw [HGY.out];rfl
     rw [hl1]
     have HRY:=hid (show RdA wr (fun k=>D k∧k≠w.heap.size+1) [y] A' c' by rw [←HGY.out];exact HRD.out)
     clear hl1 hgl
     obtain ⟨b2,o2,A2,c2,rfl,hfy⟩:=RdA.first HRY.out
     have HFY:=hid hfy
     obtain ⟨-,hl2,y0,y1,y2,y3,y4, -⟩:=hfy
     obtain ⟨r0,r1,r2,r3,r4,r5⟩:=(HRR.out.below (Below.refl _ _)).cells
     have p0:=(HRR.out.below (Below.refl _ _)).free 0
     have p1:=(HRR.out.below (Below.refl _ _)).free 1
     have p2:=(HRR.out.below (Below.refl _ _)).free 2
     have p3:=(HRR.out.below (Below.refl _ _)).free 3
     have p4:=(HRR.out.below (Below.refl _ _)).free 4
     have HCY:Hid (∀ W':World,Below wr.heap.size wr W'→(fun W':World=>W'.cell? ⟨b2,o2,none⟩=some (.int .i64 y.op)∧W'.cell? ⟨b2,o2+1,none⟩=some (.string y.name)∧W'.cell? ⟨b2,o2+2,none⟩=some (.int .i64 y.val)∧W'.cell? ⟨b2,o2+3,none⟩=some (.int .i64 y.bound)∧W'.cell? ⟨b2,o2+4,none⟩=some (.slice A2 y.args.length c2)) W'):=hid fun W' hb'=>by
      have hf2:=HFY.out.keepB hb'
      exact hf2
     go_upto_region 34 with (fail)
     refine qa8 (fun W':World=>W'.cell? ⟨b2,o2,none⟩=some (.int .i64 y.op)∧W'.cell? ⟨b2,o2+1,none⟩=some (.string y.name)∧W'.cell? ⟨b2,o2+2,none⟩=some (.int .i64 y.val)∧W'.cell? ⟨b2,o2+3,none⟩=some (.int .i64 y.bound)∧W'.cell? ⟨b2,o2+4,none⟩=some (.slice A2 y.args.length c2)) (by kernel_rfl) (by kernel_rfl) (by kernel_rfl) (HCY.out _ (Below.refl _ _).drew) (fun hHeld => ?_)
     simp only [List.dropLast_cons_cons,List.dropLast_singleton,List.getLast_cons_cons,List.getLast_singleton]
     refine wpAnyH_take (i:=1) (v := ?_) rfl (by kernel_rfl) (by kernel_rfl) (by kernel_rfl) (fun _ _ _ h=>h) (Or.inl ⟨by rfl,?_⟩) (by assumption) ?_
     rotate_left
     ·intro w hSw;(try dsimp only at hSw);go_simp;(try (with_reducible rfl))
     try simp only [Act.put,List.setIfInBounds_toArray,List.set_cons_zero,List.set_cons_succ]
     refine wpAnyH_take (i:=2) (v := ?_) rfl (by kernel_rfl) (by kernel_rfl) (by kernel_rfl) (fun _ _ _ h=>h) (Or.inl ⟨by rfl,?_⟩) (by assumption) ?_
     rotate_left
     ·intro w hSw;(try dsimp only at hSw);go_simp;(try (with_reducible rfl))
     try simp only [Act.put,List.setIfInBounds_toArray,List.set_cons_zero,List.set_cons_succ]
     refine wpAnyH_take (i:=3) (v := ?_) rfl (by kernel_rfl) (by kernel_rfl) (by kernel_rfl) (fun _ _ _ h=>h) (Or.inl ⟨by rfl,?_⟩) (by assumption) ?_
     rotate_left
     ·intro w hSw;(try dsimp only at hSw);go_simp;(try (with_reducible rfl))
     try simp only [Act.put,List.setIfInBounds_toArray,List.set_cons_zero,List.set_cons_succ]
     refine wpAnyH_ready (rs := [0]) (by kernel_rfl) (by simp) (AllReadyH.cons rfl (fun K hK => ?_) AllReadyH.nil)
     go_simp
     (go_at_call 90;(with_reducible refine (qg2 _).mono ?_);rintro e W1 ⟨rfl,hb1⟩;have HB1:=hid (qac (show Below wr.heap.size wr wr.drew from (Below.refl _ _).drew) hb1);clear hb1)
     go_wp2_with fail
     refine hK.out _ _ ?_ (fun hHeld => ?_)
     ·exact HCY.out _ HB1.out
     clear hK K
     try simp only [Act.put,List.setIfInBounds_toArray,List.set_cons_zero,List.set_cons_succ]
     refine wpAnyH_ready (rs := [4]) (by kernel_rfl) (by simp) (AllReadyH.cons rfl (fun K hK => ?_) AllReadyH.nil)
     go_simp
     refine hK.out _ _ ?_ (fun hHeld => ?_)
     ·exact HCY.out _ (qac HB1.out (by go_grown))
     clear hK K
     try simp only [Act.put,List.setIfInBounds_toArray,List.set_cons_zero,List.set_cons_succ]
     refine qhm (fun WA hWA hHeld => ?_) hHeld
     have HBA:=hid (show Below W1.heap.size W1 WA by rw [hWA];go_grown)
     have HNA:=hid (show WA.heap[W1.heap.size]? = some (.cells #[.int .i64 1,.string ⟨#[]⟩,.int .i64 0,.int .i64 0,.slice none 0 0,.int .i64 y.op,.string y.name,.int .i64 y.val,.int .i64 y.bound,.slice A2 y.args.length c2] 28 (0,0)) by rw [hWA];exact at_new _ _ _ rfl)
     clear hWA
     refine wpAnyH_ready (rs := [5]) (by kernel_rfl) (by simp) (AllReadyH.cons rfl (fun K hK => ?_) AllReadyH.nil)
     go_simp
     (go_at_call 93;(with_reducible refine (qdx _ _ _ _ _ _).mono ?_);rintro e U ⟨rfl,hbu⟩;have HAU:=hid hbu;have HBU:=hid (qac (qac HB1.out HBA.out) hbu);clear hbu)
     go_wp2_with fail
     refine hK.out _ _ ?_ (fun hHeld => ?_)
     ·exact HCY.out _ HBU.out
     clear hK K
     try simp only [Act.put,List.setIfInBounds_toArray,List.set_cons_zero,List.set_cons_succ]
     clear r0 r1 r2 r3 r4 r5 p0 p1 p2 p3 p4
     obtain ⟨r0,r1,r2,r3,r4,r5⟩:=(HRR.out.below HBU.out).cells
     have p0:=(HRR.out.below HBU.out).free 0
     have p1:=(HRR.out.below HBU.out).free 1
     have p2:=(HRR.out.below HBU.out).free 2
     have p3:=(HRR.out.below HBU.out).free 3
     have p4:=(HRR.out.below HBU.out).free 4
     have HRU:=hid (show RdA U (fun k=>D k∧k≠w.heap.size+1) [opF 1 [],y] (some ⟨W1.heap.size,0,none⟩) 2 from RdA.litGe (sl := [(none,0),(A2,c2)]) (HDE.out _ HB1.out.size) ((HAU.out.block _ (lt_of_block HNA.out)).trans HNA.out) rfl rfl rfl (by omega) fun i hi=>by
      match i,hi with
      | 0,_=>exact (show RdA U (fun k=>D k∧k≠w.heap.size+1) [] none 0 from RdA.nil _ _ _ (by omega))
      | 1,_=>exact HFY.out.args.belowD HBU.out
      | i+2,hi=>exact absurd hi (by simp))
     refine wpAnyH_done (by kernel_rfl) ?_ _
     unfold qgw
     go_simp
     go_wp2_with fail
     refine qab fun W9 hW9 => ?_
     have hO9:OB W9 (w.heap.size+1) 16 ⟨#[]⟩ 0 0 (some ⟨W1.heap.size,0,none⟩) 2 2:=by rw [hW9];exact qag (HRR.out.below HBU.out)
     have hC9:Chg (fun k=>k=w.heap.size+1) U W9:=by rw [hW9];exact qae _ _ _ _ _ _ _
     clear hW9 p0 p1 p2 p3 p4 r0 r1 r2 r3 r4 r5
     obtain ⟨r0,r1,r2,r3,r4,r5⟩:=hO9.cells
     exact bodyPost_ret (v := .agg #[.int .i64 16,.string ⟨#[]⟩,.int .i64 0,.int .i64 0,.slice (some ⟨W1.heap.size,0,none⟩) 2 2]) (by simp [results,Tryz.results55,go_sem,r0,r1,r2,r3,r4]) rfl ⟨_,rfl,by rw [HKF.out];exact ⟨(some ⟨W1.heap.size,0,none⟩),2,rfl,((HRU.out).keep (hC9.keeps fun x _ hx hv=>hx.2 hv)).mono fun x hx _=>hx.1⟩,(qac HBW.out HBU.out).trans (hC9.below (B:=w.heap.size) (fun x hx hv=>by have hv':x=w.heap.size+1:=hv;omega) (qac HBW.out HBU.out).size)⟩
    ·obtain ⟨g0,hg0,hk0⟩:=qf1 true HSH.out (by omega)
     have HGY:=hid (show gs = [kf true g0] by rw [HGA.out,hk0])
     have hkf:kf true f = .mk 17 ⟨#[]⟩ 1 0 [opF 2 [],kf true g0]:=by rw [rf_lonp true HSH.out (by omega) hg0,h];rfl
     obtain ⟨y,hy⟩ : ∃ y,kf true g0=y:=⟨_,rfl⟩
     rw [hy] at HGY hkf
     have HKF:=hid hkf
     clear hy hg0 hk0 hkf
     rw [h] at f0
     clear h
     have hl1:gs.length=1:=by rw [HGY.out];rfl
     rw [hl1]
     have HRY:=hid (show RdA wr (fun k=>D k∧k≠w.heap.size+1) [y] A' c' by rw [←HGY.out];exact HRD.out)
     clear hl1 hgl
     obtain ⟨b2,o2,A2,c2,rfl,hfy⟩:=RdA.first HRY.out
     have HFY:=hid hfy
     obtain ⟨-,hl2,y0,y1,y2,y3,y4, -⟩:=hfy
     obtain ⟨r0,r1,r2,r3,r4,r5⟩:=(HRR.out.below (Below.refl _ _)).cells
     have p0:=(HRR.out.below (Below.refl _ _)).free 0
     have p1:=(HRR.out.below (Below.refl _ _)).free 1
     have p2:=(HRR.out.below (Below.refl _ _)).free 2
     have p3:=(HRR.out.below (Below.refl _ _)).free 3
     have p4:=(HRR.out.below (Below.refl _ _)).free 4
     have HCY:Hid (∀ W':World,Below wr.heap.size wr W'→(fun W':World=>W'.cell? ⟨b2,o2,none⟩=some (.int .i64 y.op)∧W'.cell? ⟨b2,o2+1,none⟩=some (.string y.name)∧W'.cell? ⟨b2,o2+2,none⟩=some (.int .i64 y.val)∧W'.cell? ⟨b2,o2+3,none⟩=some (.int .i64 y.bound)∧W'.cell? ⟨b2,o2+4,none⟩=some (.slice A2 y.args.length c2)) W'):=hid fun W' hb'=>by
      have hf2:=HFY.out.keepB hb'
      exact hf2
     go_upto_region 35 with (fail)
     refine qa8 (fun W':World=>W'.cell? ⟨b2,o2,none⟩=some (.int .i64 y.op)∧W'.cell? ⟨b2,o2+1,none⟩=some (.string y.name)∧W'.cell? ⟨b2,o2+2,none⟩=some (.int .i64 y.val)∧W'.cell? ⟨b2,o2+3,none⟩=some (.int .i64 y.bound)∧W'.cell? ⟨b2,o2+4,none⟩=some (.slice A2 y.args.length c2)) (by kernel_rfl) (by kernel_rfl) (by kernel_rfl) (HCY.out _ (Below.refl _ _).drew) (fun hHeld => ?_)
     simp only [List.dropLast_cons_cons,List.dropLast_singleton,List.getLast_cons_cons,List.getLast_singleton]
     refine wpAnyH_take (i:=1) (v := ?_) rfl (by kernel_rfl) (by kernel_rfl) (by kernel_rfl) (fun _ _ _ h=>h) (Or.inl ⟨by rfl,?_⟩) (by assumption) ?_
     rotate_left
     ·intro w hSw;(try dsimp only at hSw);go_simp;(try (with_reducible rfl))
     try simp only [Act.put,List.setIfInBounds_toArray,List.set_cons_zero,List.set_cons_succ]
     refine wpAnyH_take (i:=2) (v := ?_) rfl (by kernel_rfl) (by kernel_rfl) (by kernel_rfl) (fun _ _ _ h=>h) (Or.inl ⟨by rfl,?_⟩) (by assumption) ?_
     rotate_left
     ·intro w hSw;(try dsimp only at hSw);go_simp;(try (with_reducible rfl))
     try simp only [Act.put,List.setIfInBounds_toArray,List.set_cons_zero,List.set_cons_succ]
     refine wpAnyH_take (i:=3) (v := ?_) rfl (by kernel_rfl) (by kernel_rfl) (by kernel_rfl) (fun _ _ _ h=>h) (Or.inl ⟨by rfl,?_⟩) (by assumption) ?_
     rotate_left
     ·intro w hSw;(try dsimp only at hSw);go_simp;(try (with_reducible rfl))
     try simp only [Act.put,List.setIfInBounds_toArray,List.set_cons_zero,List.set_cons_succ]
     refine wpAnyH_ready (rs := [0]) (by kernel_rfl) (by simp) (AllReadyH.cons rfl (fun K hK => ?_) AllReadyH.nil)
     go_simp
     (go_at_call 91;(with_reducible refine (qf0 _).mono ?_);rintro e W1 ⟨rfl,hb1⟩;have HB1:=hid (qac (show Below wr.heap.size wr wr.drew from (Below.refl _ _).drew) hb1);clear hb1)
     go_wp2_with fail
     refine hK.out _ _ ?_ (fun hHeld => ?_)
     ·exact HCY.out _ HB1.out
     clear hK K
     try simp only [Act.put,List.setIfInBounds_toArray,List.set_cons_zero,List.set_cons_succ]
     refine wpAnyH_ready (rs := [4]) (by kernel_rfl) (by simp) (AllReadyH.cons rfl (fun K hK => ?_) AllReadyH.nil)
     go_simp
     refine hK.out _ _ ?_ (fun hHeld => ?_)
     ·exact HCY.out _ (qac HB1.out (by go_grown))
     clear hK K
     try simp only [Act.put,List.setIfInBounds_toArray,List.set_cons_zero,List.set_cons_succ]
     refine qhm (fun WA hWA hHeld => ?_) hHeld
     have HBA:=hid (show Below W1.heap.size W1 WA by rw [hWA];go_grown)
     have HNA:=hid (show WA.heap[W1.heap.size]? = some (.cells #[.int .i64 2,.string ⟨#[]⟩,.int .i64 0,.int .i64 0,.slice none 0 0,.int .i64 y.op,.string y.name,.int .i64 y.val,.int .i64 y.bound,.slice A2 y.args.length c2] 28 (0,0)) by rw [hWA];exact at_new _ _ _ rfl)
     clear hWA
     refine wpAnyH_ready (rs := [5]) (by kernel_rfl) (by simp) (AllReadyH.cons rfl (fun K hK => ?_) AllReadyH.nil)
     go_simp
     (go_at_call 93;(with_reducible refine (qdx _ _ _ _ _ _).mono ?_);rintro e U ⟨rfl,hbu⟩;have HAU:=hid hbu;have HBU:=hid (qac (qac HB1.out HBA.out) hbu);clear hbu)
     go_wp2_with fail
     refine hK.out _ _ ?_ (fun hHeld => ?_)
     ·exact HCY.out _ HBU.out
     clear hK K
     try simp only [Act.put,List.setIfInBounds_toArray,List.set_cons_zero,List.set_cons_succ]
     clear r0 r1 r2 r3 r4 r5 p0 p1 p2 p3 p4
     obtain ⟨r0,r1,r2,r3,r4,r5⟩:=(HRR.out.below HBU.out).cells
     have p0:=(HRR.out.below HBU.out).free 0
     have p1:=(HRR.out.below HBU.out).free 1
     have p2:=(HRR.out.below HBU.out).free 2
     have p3:=(HRR.out.below HBU.out).free 3
     have p4:=(HRR.out.below HBU.out).free 4
     have HRU:=hid (show RdA U (fun k=>D k∧k≠w.heap.size+1) [opF 2 [],y] (some ⟨W1.heap.size,0,none⟩) 2 from RdA.litGe (sl := [(none,0),(A2,c2)]) (HDE.out _ HB1.out.size) ((HAU.out.block _ (lt_of_block HNA.out)).trans HNA.out) rfl rfl rfl (by omega) fun i hi=>by
      match i,hi with
      | 0,_=>exact (show RdA U (fun k=>D k∧k≠w.heap.size+1) [] none 0 from RdA.nil _ _ _ (by omega))
      | 1,_=>exact HFY.out.args.belowD HBU.out
      | i+2,hi=>exact absurd hi (by simp))
     refine wpAnyH_done (by kernel_rfl) ?_ _
     unfold qgw
     go_simp
     go_wp2_with fail
     refine qab fun W9 hW9 => ?_
     have hO9:OB W9 (w.heap.size+1) 17 ⟨#[]⟩ 1 0 (some ⟨W1.heap.size,0,none⟩) 2 2:=by rw [hW9];exact qag (HRR.out.below HBU.out)
     have hC9:Chg (fun k=>k=w.heap.size+1) U W9:=by rw [hW9];exact qae _ _ _ _ _ _ _
     clear hW9 p0 p1 p2 p3 p4 r0 r1 r2 r3 r4 r5
     obtain ⟨r0,r1,r2,r3,r4,r5⟩:=hO9.cells
     exact bodyPost_ret (v := .agg #[.int .i64 17,.string ⟨#[]⟩,.int .i64 1,.int .i64 0,.slice (some ⟨W1.heap.size,0,none⟩) 2 2]) (by simp [results,Tryz.results55,go_sem,r0,r1,r2,r3,r4]) rfl ⟨_,rfl,by rw [HKF.out];exact ⟨(some ⟨W1.heap.size,0,none⟩),2,rfl,((HRU.out).keep (hC9.keeps fun x _ hx hv=>hx.2 hv)).mono fun x hx _=>hx.1⟩,(qac HBW.out HBU.out).trans (hC9.below (B:=w.heap.size) (fun x hx hv=>by have hv':x=w.heap.size+1:=hv;omega) (qac HBW.out HBU.out).size)⟩
   ·cases neg
    ·obtain ⟨g0,hg0,hk0⟩:=qf1 false HSH.out (by omega)
     have HGY:=hid (show gs = [kf false g0] by rw [HGA.out,hk0])
     have hkf:kf false f = .mk 17 ⟨#[]⟩ 1 0 [opF 2 [],kf false g0]:=by rw [rf_lonp false HSH.out (by omega) hg0,h];rfl
     obtain ⟨y,hy⟩ : ∃ y,kf false g0=y:=⟨_,rfl⟩
     rw [hy] at HGY hkf
     have HKF:=hid hkf
     clear hy hg0 hk0 hkf
     rw [h] at f0
     clear h
     have hl1:gs.length=1:=by rw [HGY.out];rfl
     rw [hl1]
     have HRY:=hid (show RdA wr (fun k=>D k∧k≠w.heap.size+1) [y] A' c' by rw [←HGY.out];exact HRD.out)
     clear hl1 hgl
     obtain ⟨b2,o2,A2,c2,rfl,hfy⟩:=RdA.first HRY.out
     have HFY:=hid hfy
     obtain ⟨-,hl2,y0,y1,y2,y3,y4, -⟩:=hfy
     obtain ⟨r0,r1,r2,r3,r4,r5⟩:=(HRR.out.below (Below.refl _ _)).cells
     have p0:=(HRR.out.below (Below.refl _ _)).free 0
     have p1:=(HRR.out.below (Below.refl _ _)).free 1
     have p2:=(HRR.out.below (Below.refl _ _)).free 2
     have p3:=(HRR.out.below (Below.refl _ _)).free 3
     have p4:=(HRR.out.below (Below.refl _ _)).free 4
     have HCY:Hid (∀ W':World,Below wr.heap.size wr W'→(fun W':World=>W'.cell? ⟨b2,o2,none⟩=some (.int .i64 y.op)∧W'.cell? ⟨b2,o2+1,none⟩=some (.string y.name)∧W'.cell? ⟨b2,o2+2,none⟩=some (.int .i64 y.val)∧W'.cell? ⟨b2,o2+3,none⟩=some (.int .i64 y.bound)∧W'.cell? ⟨b2,o2+4,none⟩=some (.slice A2 y.args.length c2)) W'):=hid fun W' hb'=>by
      have hf2:=HFY.out.keepB hb'
      exact hf2
     go_upto_region 35 with (fail)
     refine qa8 (fun W':World=>W'.cell? ⟨b2,o2,none⟩=some (.int .i64 y.op)∧W'.cell? ⟨b2,o2+1,none⟩=some (.string y.name)∧W'.cell? ⟨b2,o2+2,none⟩=some (.int .i64 y.val)∧W'.cell? ⟨b2,o2+3,none⟩=some (.int .i64 y.bound)∧W'.cell? ⟨b2,o2+4,none⟩=some (.slice A2 y.args.length c2)) (by kernel_rfl) (by kernel_rfl) (by kernel_rfl) (HCY.out _ (Below.refl _ _).drew) (fun hHeld => ?_)
     simp only [List.dropLast_cons_cons,List.dropLast_singleton,List.getLast_cons_cons,List.getLast_singleton]
     refine wpAnyH_take (i:=1) (v := ?_) rfl (by kernel_rfl) (by kernel_rfl) (by kernel_rfl) (fun _ _ _ h=>h) (Or.inl ⟨by rfl,?_⟩) (by assumption) ?_
     rotate_left
     ·intro w hSw;(try dsimp only at hSw);go_simp;(try (with_reducible rfl))
     try simp only [Act.put,List.setIfInBounds_toArray,List.set_cons_zero,List.set_cons_succ]
     refine wpAnyH_take (i:=2) (v := ?_) rfl (by kernel_rfl) (by kernel_rfl) (by kernel_rfl) (fun _ _ _ h=>h) (Or.inl ⟨by rfl,?_⟩) (by assumption) ?_
     rotate_left
     ·intro w hSw;(try dsimp only at hSw);go_simp;(try (with_reducible rfl))
     try simp only [Act.put,List.setIfInBounds_toArray,List.set_cons_zero,List.set_cons_succ]
     refine wpAnyH_take (i:=3) (v := ?_) rfl (by kernel_rfl) (by kernel_rfl) (by kernel_rfl) (fun _ _ _ h=>h) (Or.inl ⟨by rfl,?_⟩) (by assumption) ?_
     rotate_left
     ·intro w hSw;(try dsimp only at hSw);go_simp;(try (with_reducible rfl))
     try simp only [Act.put,List.setIfInBounds_toArray,List.set_cons_zero,List.set_cons_succ]
     refine wpAnyH_ready (rs := [0]) (by kernel_rfl) (by simp) (AllReadyH.cons rfl (fun K hK => ?_) AllReadyH.nil)
     go_simp
     (go_at_call 91;(with_reducible refine (qf0 _).mono ?_);rintro e W1 ⟨rfl,hb1⟩;have HB1:=hid (qac (show Below wr.heap.size wr wr.drew from (Below.refl _ _).drew) hb1);clear hb1)
     go_wp2_with fail
     refine hK.out _ _ ?_ (fun hHeld => ?_)
     ·exact HCY.out _ HB1.out
     clear hK K
     try simp only [Act.put,List.setIfInBounds_toArray,List.set_cons_zero,List.set_cons_succ]
     refine wpAnyH_ready (rs := [4]) (by kernel_rfl) (by simp) (AllReadyH.cons rfl (fun K hK => ?_) AllReadyH.nil)
     go_simp
     refine hK.out _ _ ?_ (fun hHeld => ?_)
     ·exact HCY.out _ (qac HB1.out (by go_grown))
     clear hK K
     try simp only [Act.put,List.setIfInBounds_toArray,List.set_cons_zero,List.set_cons_succ]
     refine qhm (fun WA hWA hHeld => ?_) hHeld
     have HBA:=hid (show Below W1.heap.size W1 WA by rw [hWA];go_grown)
     have HNA:=hid (show WA.heap[W1.heap.size]? = some (.cells #[.int .i64 2,.string ⟨#[]⟩,.int .i64 0,.int .i64 0,.slice none 0 0,.int .i64 y.op,.string y.name,.int .i64 y.val,.int .i64 y.bound,.slice A2 y.args.length c2] 28 (0,0)) by rw [hWA];exact at_new _ _ _ rfl)
     clear hWA
     refine wpAnyH_ready (rs := [5]) (by kernel_rfl) (by simp) (AllReadyH.cons rfl (fun K hK => ?_) AllReadyH.nil)
     go_simp
     (go_at_call 93;(with_reducible refine (qdx _ _ _ _ _ _).mono ?_);rintro e U ⟨rfl,hbu⟩;have HAU:=hid hbu;have HBU:=hid (qac (qac HB1.out HBA.out) hbu);clear hbu)
     go_wp2_with fail
     refine hK.out _ _ ?_ (fun hHeld => ?_)
     ·exact HCY.out _ HBU.out
     clear hK K
     try simp only [Act.put,List.setIfInBounds_toArray,List.set_cons_zero,List.set_cons_succ]
     clear r0 r1 r2 r3 r4 r5 p0 p1 p2 p3 p4
     obtain ⟨r0,r1,r2,r3,r4,r5⟩:=(HRR.out.below HBU.out).cells
     have p0:=(HRR.out.below HBU.out).free 0
     have p1:=(HRR.out.below HBU.out).free 1
     have p2:=(HRR.out.below HBU.out).free 2
     have p3:=(HRR.out.below HBU.out).free 3
     have p4:=(HRR.out.below HBU.out).free 4
     have HRU:=hid (show RdA U (fun k=>D k∧k≠w.heap.size+1) [opF 2 [],y] (some ⟨W1.heap.size,0,none⟩) 2 from RdA.litGe (sl := [(none,0),(A2,c2)]) (HDE.out _ HB1.out.size) ((HAU.out.block _ (lt_of_block HNA.out)).trans HNA.out) rfl rfl rfl (by omega) fun i hi=>by
      match i,hi with
      | 0,_=>exact (show RdA U (fun k=>D k∧k≠w.heap.size+1) [] none 0 from RdA.nil _ _ _ (by omega))
      | 1,_=>exact HFY.out.args.belowD HBU.out
      | i+2,hi=>exact absurd hi (by simp))
     refine wpAnyH_done (by kernel_rfl) ?_ _
     unfold qgw
     go_simp
     go_wp2_with fail
     refine qab fun W9 hW9 => ?_
     have hO9:OB W9 (w.heap.size+1) 17 ⟨#[]⟩ 1 0 (some ⟨W1.heap.size,0,none⟩) 2 2:=by rw [hW9];exact qag (HRR.out.below HBU.out)
     have hC9:Chg (fun k=>k=w.heap.size+1) U W9:=by rw [hW9];exact qae _ _ _ _ _ _ _
     clear hW9 p0 p1 p2 p3 p4 r0 r1 r2 r3 r4 r5
     obtain ⟨r0,r1,r2,r3,r4,r5⟩:=hO9.cells
     exact bodyPost_ret (v := .agg #[.int .i64 17,.string ⟨#[]⟩,.int .i64 1,.int .i64 0,.slice (some ⟨W1.heap.size,0,none⟩) 2 2]) (by simp [results,Tryz.results55,go_sem,r0,r1,r2,r3,r4]) rfl ⟨_,rfl,by rw [HKF.out];exact ⟨(some ⟨W1.heap.size,0,none⟩),2,rfl,((HRU.out).keep (hC9.keeps fun x _ hx hv=>hx.2 hv)).mono fun x hx _=>hx.1⟩,(qac HBW.out HBU.out).trans (hC9.below (B:=w.heap.size) (fun x hx hv=>by have hv':x=w.heap.size+1:=hv;omega) (qac HBW.out HBU.out).size)⟩
    ·obtain ⟨g0,hg0,hk0⟩:=qf1 true HSH.out (by omega)
     have HGY:=hid (show gs = [kf true g0] by rw [HGA.out,hk0])
     have hkf:kf true f = .mk 16 ⟨#[]⟩ 0 0 [opF 1 [],kf true g0]:=by rw [rf_lonp true HSH.out (by omega) hg0,h];rfl
     obtain ⟨y,hy⟩ : ∃ y,kf true g0=y:=⟨_,rfl⟩
     rw [hy] at HGY hkf
     have HKF:=hid hkf
     clear hy hg0 hk0 hkf
     rw [h] at f0
     clear h
     have hl1:gs.length=1:=by rw [HGY.out];rfl
     rw [hl1]
     have HRY:=hid (show RdA wr (fun k=>D k∧k≠w.heap.size+1) [y] A' c' by rw [←HGY.out];exact HRD.out)
     clear hl1 hgl
     obtain ⟨b2,o2,A2,c2,rfl,hfy⟩:=RdA.first HRY.out
     have HFY:=hid hfy
     obtain ⟨-,hl2,y0,y1,y2,y3,y4, -⟩:=hfy
     obtain ⟨r0,r1,r2,r3,r4,r5⟩:=(HRR.out.below (Below.refl _ _)).cells
     have p0:=(HRR.out.below (Below.refl _ _)).free 0
     have p1:=(HRR.out.below (Below.refl _ _)).free 1
     have p2:=(HRR.out.below (Below.refl _ _)).free 2
     have p3:=(HRR.out.below (Below.refl _ _)).free 3
     have p4:=(HRR.out.below (Below.refl _ _)).free 4
     have HCY:Hid (∀ W':World,Below wr.heap.size wr W'→(fun W':World=>W'.cell? ⟨b2,o2,none⟩=some (.int .i64 y.op)∧W'.cell? ⟨b2,o2+1,none⟩=some (.string y.name)∧W'.cell? ⟨b2,o2+2,none⟩=some (.int .i64 y.val)∧W'.cell? ⟨b2,o2+3,none⟩=some (.int .i64 y.bound)∧W'.cell? ⟨b2,o2+4,none⟩=some (.slice A2 y.args.length c2)) W'):=hid fun W' hb'=>by
      have hf2:=HFY.out.keepB hb'
      exact hf2
     go_upto_region 34 with (fail)
     refine qa8 (fun W':World=>W'.cell? ⟨b2,o2,none⟩=some (.int .i64 y.op)∧W'.cell? ⟨b2,o2+1,none⟩=some (.string y.name)∧W'.cell? ⟨b2,o2+2,none⟩=some (.int .i64 y.val)∧W'.cell? ⟨b2,o2+3,none⟩=some (.int .i64 y.bound)∧W'.cell? ⟨b2,o2+4,none⟩=some (.slice A2 y.args.length c2)) (by kernel_rfl) (by kernel_rfl) (by kernel_rfl) (HCY.out _ (Below.refl _ _).drew) (fun hHeld => ?_)
     simp only [List.dropLast_cons_cons,List.dropLast_singleton,List.getLast_cons_cons,List.getLast_singleton]
     refine wpAnyH_take (i:=1) (v := ?_) rfl (by kernel_rfl) (by kernel_rfl) (by kernel_rfl) (fun _ _ _ h=>h) (Or.inl ⟨by rfl,?_⟩) (by assumption) ?_
     rotate_left
     ·intro w hSw;(try dsimp only at hSw);go_simp;(try (with_reducible rfl))
     try simp only [Act.put,List.setIfInBounds_toArray,List.set_cons_zero,List.set_cons_succ]
     refine wpAnyH_take (i:=2) (v := ?_) rfl (by kernel_rfl) (by kernel_rfl) (by kernel_rfl) (fun _ _ _ h=>h) (Or.inl ⟨by rfl,?_⟩) (by assumption) ?_
     rotate_left
     ·intro w hSw;(try dsimp only at hSw);go_simp;(try (with_reducible rfl))
     try simp only [Act.put,List.setIfInBounds_toArray,List.set_cons_zero,List.set_cons_succ]
     refine wpAnyH_take (i:=3) (v := ?_) rfl (by kernel_rfl) (by kernel_rfl) (by kernel_rfl) (fun _ _ _ h=>h) (Or.inl ⟨by rfl,?_⟩) (by assumption) ?_
     rotate_left
     ·intro w hSw;(try dsimp only at hSw);go_simp;(try (with_reducible rfl))
     try simp only [Act.put,List.setIfInBounds_toArray,List.set_cons_zero,List.set_cons_succ]
     refine wpAnyH_ready (rs := [0]) (by kernel_rfl) (by simp) (AllReadyH.cons rfl (fun K hK => ?_) AllReadyH.nil)
     go_simp
     (go_at_call 90;(with_reducible refine (qg2 _).mono ?_);rintro e W1 ⟨rfl,hb1⟩;have HB1:=hid (qac (show Below wr.heap.size wr wr.drew from (Below.refl _ _).drew) hb1);clear hb1)
     go_wp2_with fail
     refine hK.out _ _ ?_ (fun hHeld => ?_)
     ·exact HCY.out _ HB1.out
     clear hK K
     try simp only [Act.put,List.setIfInBounds_toArray,List.set_cons_zero,List.set_cons_succ]
     refine wpAnyH_ready (rs := [4]) (by kernel_rfl) (by simp) (AllReadyH.cons rfl (fun K hK => ?_) AllReadyH.nil)
     go_simp
     refine hK.out _ _ ?_ (fun hHeld => ?_)
     ·exact HCY.out _ (qac HB1.out (by go_grown))
     clear hK K
     try simp only [Act.put,List.setIfInBounds_toArray,List.set_cons_zero,List.set_cons_succ]
     refine qhm (fun WA hWA hHeld => ?_) hHeld
     have HBA:=hid (show Below W1.heap.size W1 WA by rw [hWA];go_grown)
     have HNA:=hid (show WA.heap[W1.heap.size]? = some (.cells #[.int .i64 1,.string ⟨#[]⟩,.int .i64 0,.int .i64 0,.slice none 0 0,.int .i64 y.op,.string y.name,.int .i64 y.val,.int .i64 y.bound,.slice A2 y.args.length c2] 28 (0,0)) by rw [hWA];exact at_new _ _ _ rfl)
     clear hWA
     refine wpAnyH_ready (rs := [5]) (by kernel_rfl) (by simp) (AllReadyH.cons rfl (fun K hK => ?_) AllReadyH.nil)
     go_simp
     (go_at_call 93;(with_reducible refine (qdx _ _ _ _ _ _).mono ?_);rintro e U ⟨rfl,hbu⟩;have HAU:=hid hbu;have HBU:=hid (qac (qac HB1.out HBA.out) hbu);clear hbu)
     go_wp2_with fail
     refine hK.out _ _ ?_ (fun hHeld => ?_)
     ·exact HCY.out _ HBU.out
     clear hK K
     try simp only [Act.put,List.setIfInBounds_toArray,List.set_cons_zero,List.set_cons_succ]
     clear r0 r1 r2 r3 r4 r5 p0 p1 p2 p3 p4
     obtain ⟨r0,r1,r2,r3,r4,r5⟩:=(HRR.out.below HBU.out).cells
     have p0:=(HRR.out.below HBU.out).free 0
     have p1:=(HRR.out.below HBU.out).free 1
     have p2:=(HRR.out.below HBU.out).free 2
     have p3:=(HRR.out.below HBU.out).free 3
     have p4:=(HRR.out.below HBU.out).free 4
     have HRU:=hid (show RdA U (fun k=>D k∧k≠w.heap.size+1) [opF 1 [],y] (some ⟨W1.heap.size,0,none⟩) 2 from RdA.litGe (sl := [(none,0),(A2,c2)]) (HDE.out _ HB1.out.size) ((HAU.out.block _ (lt_of_block HNA.out)).trans HNA.out) rfl rfl rfl (by omega) fun i hi=>by
      match i,hi with
      | 0,_=>exact (show RdA U (fun k=>D k∧k≠w.heap.size+1) [] none 0 from RdA.nil _ _ _ (by omega))
      | 1,_=>exact HFY.out.args.belowD HBU.out
      | i+2,hi=>exact absurd hi (by simp))
     refine wpAnyH_done (by kernel_rfl) ?_ _
     unfold qgw
     go_simp
     go_wp2_with fail
     refine qab fun W9 hW9 => ?_
     have hO9:OB W9 (w.heap.size+1) 16 ⟨#[]⟩ 0 0 (some ⟨W1.heap.size,0,none⟩) 2 2:=by rw [hW9];exact qag (HRR.out.below HBU.out)
     have hC9:Chg (fun k=>k=w.heap.size+1) U W9:=by rw [hW9];exact qae _ _ _ _ _ _ _
     clear hW9 p0 p1 p2 p3 p4 r0 r1 r2 r3 r4 r5
     obtain ⟨r0,r1,r2,r3,r4,r5⟩:=hO9.cells
     exact bodyPost_ret (v := .agg #[.int .i64 16,.string ⟨#[]⟩,.int .i64 0,.int .i64 0,.slice (some ⟨W1.heap.size,0,none⟩) 2 2]) (by simp [results,Tryz.results55,go_sem,r0,r1,r2,r3,r4]) rfl ⟨_,rfl,by rw [HKF.out];exact ⟨(some ⟨W1.heap.size,0,none⟩),2,rfl,((HRU.out).keep (hC9.keeps fun x _ hx hv=>hx.2 hv)).mono fun x hx _=>hx.1⟩,(qac HBW.out HBU.out).trans (hC9.below (B:=w.heap.size) (fun x hx hv=>by have hv':x=w.heap.size+1:=hv;omega) (qac HBW.out HBU.out).size)⟩
   ·cases neg
    ·have HKF:=hid (show kf false f = .mk (15) ⟨#[]⟩ f.val 0 gs by rw [qjq false HSH.out (by unfold lateR;omega),HGA.out,h];rfl)
     rw [h] at f0
     clear h
     obtain ⟨r0,r1,r2,r3,r4,r5⟩:=(HRR.out.below (Below.refl _ _)).cells
     have p0:=(HRR.out.below (Below.refl _ _)).free 0
     have p1:=(HRR.out.below (Below.refl _ _)).free 1
     have p2:=(HRR.out.below (Below.refl _ _)).free 2
     have p3:=(HRR.out.below (Below.refl _ _)).free 3
     have p4:=(HRR.out.below (Below.refl _ _)).free 4
     go_wp2_with (go_at_call 93;(with_reducible refine (qdx _ _ _ _ _ _).mono ?_);rintro e U ⟨rfl,hbu⟩;have HBU:=hid hbu;clear hbu r0 r1 r2 r3 r4 r5 p0 p1 p2 p3 p4;obtain ⟨r0,r1,r2,r3,r4,r5⟩:=(HRR.out.below HBU.out).cells;have p0:=(HRR.out.below HBU.out).free 0;have p1:=(HRR.out.below HBU.out).free 1;have p2:=(HRR.out.below HBU.out).free 2;have p3:=(HRR.out.below HBU.out).free 3;have p4:=(HRR.out.below HBU.out).free 4)
     refine qab fun W9 hW9 => ?_
     have hO9:OB W9 (w.heap.size+1) (15) ⟨#[]⟩ f.val 0 A' gs.length c':=by rw [hW9];exact qag (HRR.out.below HBU.out)
     have hC9:Chg (fun k=>k=w.heap.size+1) U W9:=by rw [hW9];exact qae _ _ _ _ _ _ _
     clear hW9 p0 p1 p2 p3 p4 r0 r1 r2 r3 r4 r5
     obtain ⟨r0,r1,r2,r3,r4,r5⟩:=hO9.cells
     exact bodyPost_ret (v := .agg #[.int .i64 (15),.string ⟨#[]⟩,.int .i64 f.val,.int .i64 0,.slice A' gs.length c']) (by simp [results,Tryz.results55,go_sem,r0,r1,r2,r3,r4]) rfl ⟨_,rfl,by rw [HKF.out];exact ⟨A',c',rfl,((HRD.out.belowD HBU.out).keep (hC9.keeps fun x _ hx hv=>hx.2 hv)).mono fun x hx _=>hx.1⟩,(qac HBW.out HBU.out).trans (hC9.below (B:=w.heap.size) (fun x hx hv=>by have hv':x=w.heap.size+1:=hv;omega) (qac HBW.out HBU.out).size)⟩
    ·have HKF:=hid (show kf true f = .mk (15) ⟨#[]⟩ (1 - f.val) 0 gs by rw [qjq true HSH.out (by unfold lateR;omega),HGA.out,h];rfl)
     rw [h] at f0
     clear h
     obtain ⟨r0,r1,r2,r3,r4,r5⟩:=(HRR.out.below (Below.refl _ _)).cells
     have p0:=(HRR.out.below (Below.refl _ _)).free 0
     have p1:=(HRR.out.below (Below.refl _ _)).free 1
     have p2:=(HRR.out.below (Below.refl _ _)).free 2
     have p3:=(HRR.out.below (Below.refl _ _)).free 3
     have p4:=(HRR.out.below (Below.refl _ _)).free 4
     go_wp2_with (go_at_call 93;(with_reducible refine (qdx _ _ _ _ _ _).mono ?_);rintro e U ⟨rfl,hbu⟩;have HBU:=hid hbu;clear hbu r0 r1 r2 r3 r4 r5 p0 p1 p2 p3 p4;obtain ⟨r0,r1,r2,r3,r4,r5⟩:=(HRR.out.below HBU.out).cells;have p0:=(HRR.out.below HBU.out).free 0;have p1:=(HRR.out.below HBU.out).free 1;have p2:=(HRR.out.below HBU.out).free 2;have p3:=(HRR.out.below HBU.out).free 3;have p4:=(HRR.out.below HBU.out).free 4)
     refine qab fun W9 hW9 => ?_
     have hO9:OB W9 (w.heap.size+1) (15) ⟨#[]⟩ (1 - f.val) 0 A' gs.length c':=by rw [hW9];exact qag (HRR.out.below HBU.out)
     have hC9:Chg (fun k=>k=w.heap.size+1) U W9:=by rw [hW9];exact qae _ _ _ _ _ _ _
     clear hW9 p0 p1 p2 p3 p4 r0 r1 r2 r3 r4 r5
     obtain ⟨r0,r1,r2,r3,r4,r5⟩:=hO9.cells
     exact bodyPost_ret (v := .agg #[.int .i64 (15),.string ⟨#[]⟩,.int .i64 (1 - f.val),.int .i64 0,.slice A' gs.length c']) (by simp [results,Tryz.results55,go_sem,r0,r1,r2,r3,r4]) rfl ⟨_,rfl,by rw [HKF.out];exact ⟨A',c',rfl,((HRD.out.belowD HBU.out).keep (hC9.keeps fun x _ hx hv=>hx.2 hv)).mono fun x hx _=>hx.1⟩,(qac HBW.out HBU.out).trans (hC9.below (B:=w.heap.size) (fun x hx hv=>by have hv':x=w.heap.size+1:=hv;omega) (qac HBW.out HBU.out).size)⟩
   ·cases neg
    ·have HKF:=hid (show kf false f = .mk (16) ⟨#[]⟩ f.val 0 gs by rw [qjq false HSH.out (by unfold lateR;omega),HGA.out,h];rfl)
     rw [h] at f0
     clear h
     obtain ⟨r0,r1,r2,r3,r4,r5⟩:=(HRR.out.below (Below.refl _ _)).cells
     have p0:=(HRR.out.below (Below.refl _ _)).free 0
     have p1:=(HRR.out.below (Below.refl _ _)).free 1
     have p2:=(HRR.out.below (Below.refl _ _)).free 2
     have p3:=(HRR.out.below (Below.refl _ _)).free 3
     have p4:=(HRR.out.below (Below.refl _ _)).free 4
     go_wp2_with (go_at_call 93;(with_reducible refine (qdx _ _ _ _ _ _).mono ?_);rintro e U ⟨rfl,hbu⟩;have HBU:=hid hbu;clear hbu r0 r1 r2 r3 r4 r5 p0 p1 p2 p3 p4;obtain ⟨r0,r1,r2,r3,r4,r5⟩:=(HRR.out.below HBU.out).cells;have p0:=(HRR.out.below HBU.out).free 0;have p1:=(HRR.out.below HBU.out).free 1;have p2:=(HRR.out.below HBU.out).free 2;have p3:=(HRR.out.below HBU.out).free 3;have p4:=(HRR.out.below HBU.out).free 4)
     refine qab fun W9 hW9 => ?_
     have hO9:OB W9 (w.heap.size+1) (16) ⟨#[]⟩ f.val 0 A' gs.length c':=by rw [hW9];exact qag (HRR.out.below HBU.out)
     have hC9:Chg (fun k=>k=w.heap.size+1) U W9:=by rw [hW9];exact qae _ _ _ _ _ _ _
     clear hW9 p0 p1 p2 p3 p4 r0 r1 r2 r3 r4 r5
     obtain ⟨r0,r1,r2,r3,r4,r5⟩:=hO9.cells
     exact bodyPost_ret (v := .agg #[.int .i64 (16),.string ⟨#[]⟩,.int .i64 f.val,.int .i64 0,.slice A' gs.length c']) (by simp [results,Tryz.results55,go_sem,r0,r1,r2,r3,r4]) rfl ⟨_,rfl,by rw [HKF.out];exact ⟨A',c',rfl,((HRD.out.belowD HBU.out).keep (hC9.keeps fun x _ hx hv=>hx.2 hv)).mono fun x hx _=>hx.1⟩,(qac HBW.out HBU.out).trans (hC9.below (B:=w.heap.size) (fun x hx hv=>by have hv':x=w.heap.size+1:=hv;omega) (qac HBW.out HBU.out).size)⟩
    ·have HKF:=hid (show kf true f = .mk (qe8 16) ⟨#[]⟩ (1 - f.val) 0 gs by rw [qjq true HSH.out (by unfold lateR;omega),HGA.out,h];rfl)
     rw [h] at f0
     clear h
     obtain ⟨r0,r1,r2,r3,r4,r5⟩:=(HRR.out.below (Below.refl _ _)).cells
     have p0:=(HRR.out.below (Below.refl _ _)).free 0
     have p1:=(HRR.out.below (Below.refl _ _)).free 1
     have p2:=(HRR.out.below (Below.refl _ _)).free 2
     have p3:=(HRR.out.below (Below.refl _ _)).free 3
     have p4:=(HRR.out.below (Below.refl _ _)).free 4
     go_wp2_with (first | (go_at_call 94;(with_reducible refine (rdual_any _ _).mono ?_);rintro e U0 ⟨rfl,hu0⟩;rw [hu0];clear hu0) | (go_at_call 93;(with_reducible refine (qdx _ _ _ _ _ _).mono ?_);rintro e U ⟨rfl,hbu⟩;have HBU:=hid hbu;clear hbu r0 r1 r2 r3 r4 r5 p0 p1 p2 p3 p4;obtain ⟨r0,r1,r2,r3,r4,r5⟩:=(HRR.out.below HBU.out).cells;have p0:=(HRR.out.below HBU.out).free 0;have p1:=(HRR.out.below HBU.out).free 1;have p2:=(HRR.out.below HBU.out).free 2;have p3:=(HRR.out.below HBU.out).free 3;have p4:=(HRR.out.below HBU.out).free 4))
     refine qab fun W9 hW9 => ?_
     have hO9:OB W9 (w.heap.size+1) (qe8 16) ⟨#[]⟩ (1 - f.val) 0 A' gs.length c':=by rw [hW9];exact qag (HRR.out.below HBU.out)
     have hC9:Chg (fun k=>k=w.heap.size+1) U W9:=by rw [hW9];exact qae _ _ _ _ _ _ _
     clear hW9 p0 p1 p2 p3 p4 r0 r1 r2 r3 r4 r5
     obtain ⟨r0,r1,r2,r3,r4,r5⟩:=hO9.cells
     exact bodyPost_ret (v := .agg #[.int .i64 (qe8 16),.string ⟨#[]⟩,.int .i64 (1 - f.val),.int .i64 0,.slice A' gs.length c']) (by simp [results,Tryz.results55,go_sem,r0,r1,r2,r3,r4]) rfl ⟨_,rfl,by rw [HKF.out];exact ⟨A',c',rfl,((HRD.out.belowD HBU.out).keep (hC9.keeps fun x _ hx hv=>hx.2 hv)).mono fun x hx _=>hx.1⟩,(qac HBW.out HBU.out).trans (hC9.below (B:=w.heap.size) (fun x hx hv=>by have hv':x=w.heap.size+1:=hv;omega) (qac HBW.out HBU.out).size)⟩
   ·cases neg
    ·have HKF:=hid (show kf false f = .mk (17) ⟨#[]⟩ f.val 0 gs by rw [qjq false HSH.out (by unfold lateR;omega),HGA.out,h];rfl)
     rw [h] at f0
     clear h
     obtain ⟨r0,r1,r2,r3,r4,r5⟩:=(HRR.out.below (Below.refl _ _)).cells
     have p0:=(HRR.out.below (Below.refl _ _)).free 0
     have p1:=(HRR.out.below (Below.refl _ _)).free 1
     have p2:=(HRR.out.below (Below.refl _ _)).free 2
     have p3:=(HRR.out.below (Below.refl _ _)).free 3
     have p4:=(HRR.out.below (Below.refl _ _)).free 4
     go_wp2_with (go_at_call 93;(with_reducible refine (qdx _ _ _ _ _ _).mono ?_);rintro e U ⟨rfl,hbu⟩;have HBU:=hid hbu;clear hbu r0 r1 r2 r3 r4 r5 p0 p1 p2 p3 p4;obtain ⟨r0,r1,r2,r3,r4,r5⟩:=(HRR.out.below HBU.out).cells;have p0:=(HRR.out.below HBU.out).free 0;have p1:=(HRR.out.below HBU.out).free 1;have p2:=(HRR.out.below HBU.out).free 2;have p3:=(HRR.out.below HBU.out).free 3;have p4:=(HRR.out.below HBU.out).free 4)
     refine qab fun W9 hW9 => ?_
     have hO9:OB W9 (w.heap.size+1) (17) ⟨#[]⟩ f.val 0 A' gs.length c':=by rw [hW9];exact qag (HRR.out.below HBU.out)
     have hC9:Chg (fun k=>k=w.heap.size+1) U W9:=by rw [hW9];exact qae _ _ _ _ _ _ _
     clear hW9 p0 p1 p2 p3 p4 r0 r1 r2 r3 r4 r5
     obtain ⟨r0,r1,r2,r3,r4,r5⟩:=hO9.cells
     exact bodyPost_ret (v := .agg #[.int .i64 (17),.string ⟨#[]⟩,.int .i64 f.val,.int .i64 0,.slice A' gs.length c']) (by simp [results,Tryz.results55,go_sem,r0,r1,r2,r3,r4]) rfl ⟨_,rfl,by rw [HKF.out];exact ⟨A',c',rfl,((HRD.out.belowD HBU.out).keep (hC9.keeps fun x _ hx hv=>hx.2 hv)).mono fun x hx _=>hx.1⟩,(qac HBW.out HBU.out).trans (hC9.below (B:=w.heap.size) (fun x hx hv=>by have hv':x=w.heap.size+1:=hv;omega) (qac HBW.out HBU.out).size)⟩
    ·have HKF:=hid (show kf true f = .mk (qe8 17) ⟨#[]⟩ (1 - f.val) 0 gs by rw [qjq true HSH.out (by unfold lateR;omega),HGA.out,h];rfl)
     rw [h] at f0
     clear h
     obtain ⟨r0,r1,r2,r3,r4,r5⟩:=(HRR.out.below (Below.refl _ _)).cells
     have p0:=(HRR.out.below (Below.refl _ _)).free 0
     have p1:=(HRR.out.below (Below.refl _ _)).free 1
     have p2:=(HRR.out.below (Below.refl _ _)).free 2
     have p3:=(HRR.out.below (Below.refl _ _)).free 3
     have p4:=(HRR.out.below (Below.refl _ _)).free 4
     go_wp2_with (first | (go_at_call 94;(with_reducible refine (rdual_any _ _).mono ?_);rintro e U0 ⟨rfl,hu0⟩;rw [hu0];clear hu0) | (go_at_call 93;(with_reducible refine (qdx _ _ _ _ _ _).mono ?_);rintro e U ⟨rfl,hbu⟩;have HBU:=hid hbu;clear hbu r0 r1 r2 r3 r4 r5 p0 p1 p2 p3 p4;obtain ⟨r0,r1,r2,r3,r4,r5⟩:=(HRR.out.below HBU.out).cells;have p0:=(HRR.out.below HBU.out).free 0;have p1:=(HRR.out.below HBU.out).free 1;have p2:=(HRR.out.below HBU.out).free 2;have p3:=(HRR.out.below HBU.out).free 3;have p4:=(HRR.out.below HBU.out).free 4))
     refine qab fun W9 hW9 => ?_
     have hO9:OB W9 (w.heap.size+1) (qe8 17) ⟨#[]⟩ (1 - f.val) 0 A' gs.length c':=by rw [hW9];exact qag (HRR.out.below HBU.out)
     have hC9:Chg (fun k=>k=w.heap.size+1) U W9:=by rw [hW9];exact qae _ _ _ _ _ _ _
     clear hW9 p0 p1 p2 p3 p4 r0 r1 r2 r3 r4 r5
     obtain ⟨r0,r1,r2,r3,r4,r5⟩:=hO9.cells
     exact bodyPost_ret (v := .agg #[.int .i64 (qe8 17),.string ⟨#[]⟩,.int .i64 (1 - f.val),.int .i64 0,.slice A' gs.length c']) (by simp [results,Tryz.results55,go_sem,r0,r1,r2,r3,r4]) rfl ⟨_,rfl,by rw [HKF.out];exact ⟨A',c',rfl,((HRD.out.belowD HBU.out).keep (hC9.keeps fun x _ hx hv=>hx.2 hv)).mono fun x hx _=>hx.1⟩,(qac HBW.out HBU.out).trans (hC9.below (B:=w.heap.size) (fun x hx hv=>by have hv':x=w.heap.size+1:=hv;omega) (qac HBW.out HBU.out).size)⟩
   ·cases neg
    ·have HKF:=hid (show kf false f=opF f.op gs by rw [rf_simple false HSH.out h,HGA.out];rfl)
     unfold simpleR at h
     have d3:(f.op == 3)=false:=qar (by omega)
     have d4:(f.op == 4)=false:=qar (by omega)
     have d7:(f.op == 7)=false:=qar (by omega)
     have d11:(f.op == 11)=false:=qar (by omega)
     have d12:(f.op == 12)=false:=qar (by omega)
     have d13:(f.op == 13)=false:=qar (by omega)
     have d14:(f.op == 14)=false:=qar (by omega)
     have d18:(f.op == 18)=false:=qar (by omega)
     have d19:(f.op == 19)=false:=qar (by omega)
     have d15:(f.op == 15)=false:=qar (by omega)
     have d16:(f.op == 16)=false:=qar (by omega)
     have d17:(f.op == 17)=false:=qar (by omega)
     clear h
     obtain ⟨r0,r1,r2,r3,r4,r5⟩:=(HRR.out.below (Below.refl _ _)).cells
     have p0:=(HRR.out.below (Below.refl _ _)).free 0
     have p1:=(HRR.out.below (Below.refl _ _)).free 1
     have p2:=(HRR.out.below (Below.refl _ _)).free 2
     have p3:=(HRR.out.below (Below.refl _ _)).free 3
     have p4:=(HRR.out.below (Below.refl _ _)).free 4
     go_wp2_with (go_at_call 88;(with_reducible refine (qg3 _ _ _ _ _).mono ?_);rintro e U ⟨rfl,hbu⟩;have HBU:=hid hbu;clear hbu r0 r1 r2 r3 r4 r5 p0 p1 p2 p3 p4;obtain ⟨r0,r1,r2,r3,r4,r5⟩:=(HRR.out.below HBU.out).cells;have p0:=(HRR.out.below HBU.out).free 0;have p1:=(HRR.out.below HBU.out).free 1;have p2:=(HRR.out.below HBU.out).free 2;have p3:=(HRR.out.below HBU.out).free 3;have p4:=(HRR.out.below HBU.out).free 4)
     refine qab fun W9 hW9 => ?_
     have hO9:OB W9 (w.heap.size+1) f.op ⟨#[]⟩ 0 0 A' gs.length c':=by rw [hW9];exact qag (HRR.out.below HBU.out)
     have hC9:Chg (fun k=>k=w.heap.size+1) U W9:=by rw [hW9];exact qae _ _ _ _ _ _ _
     clear hW9 p0 p1 p2 p3 p4 r0 r1 r2 r3 r4 r5
     obtain ⟨r0,r1,r2,r3,r4,r5⟩:=hO9.cells
     exact bodyPost_ret (v := .agg #[.int .i64 f.op,.string ⟨#[]⟩,.int .i64 0,.int .i64 0,.slice A' gs.length c']) (by simp [results,Tryz.results55,go_sem,r0,r1,r2,r3,r4]) rfl ⟨_,rfl,by rw [HKF.out];exact ⟨A',c',rfl,((HRD.out.belowD HBU.out).keep (hC9.keeps fun x _ hx hv=>hx.2 hv)).mono fun x hx _=>hx.1⟩,(qac HBW.out HBU.out).trans (hC9.below (B:=w.heap.size) (fun x hx hv=>by have hv':x=w.heap.size+1:=hv;omega) (qac HBW.out HBU.out).size)⟩
    ·have HKF:=hid (show kf true f=opF (qe8 f.op) gs by rw [rf_simple true HSH.out h,HGA.out];rfl)
     unfold simpleR at h
     have d3:(f.op == 3)=false:=qar (by omega)
     have d4:(f.op == 4)=false:=qar (by omega)
     have d7:(f.op == 7)=false:=qar (by omega)
     have d11:(f.op == 11)=false:=qar (by omega)
     have d12:(f.op == 12)=false:=qar (by omega)
     have d13:(f.op == 13)=false:=qar (by omega)
     have d14:(f.op == 14)=false:=qar (by omega)
     have d18:(f.op == 18)=false:=qar (by omega)
     have d19:(f.op == 19)=false:=qar (by omega)
     have d15:(f.op == 15)=false:=qar (by omega)
     have d16:(f.op == 16)=false:=qar (by omega)
     have d17:(f.op == 17)=false:=qar (by omega)
     clear h
     obtain ⟨r0,r1,r2,r3,r4,r5⟩:=(HRR.out.below (Below.refl _ _)).cells
     have p0:=(HRR.out.below (Below.refl _ _)).free 0
     have p1:=(HRR.out.below (Below.refl _ _)).free 1
     have p2:=(HRR.out.below (Below.refl _ _)).free 2
     have p3:=(HRR.out.below (Below.refl _ _)).free 3
     have p4:=(HRR.out.below (Below.refl _ _)).free 4
     go_wp2_with (first | (go_at_call 94;(with_reducible refine (rdual_any _ _).mono ?_);rintro e U0 ⟨rfl,hu0⟩;rw [hu0];clear hu0) | (go_at_call 88;(with_reducible refine (qg3 _ _ _ _ _).mono ?_);rintro e U ⟨rfl,hbu⟩;have HBU:=hid hbu;clear hbu r0 r1 r2 r3 r4 r5 p0 p1 p2 p3 p4;obtain ⟨r0,r1,r2,r3,r4,r5⟩:=(HRR.out.below HBU.out).cells;have p0:=(HRR.out.below HBU.out).free 0;have p1:=(HRR.out.below HBU.out).free 1;have p2:=(HRR.out.below HBU.out).free 2;have p3:=(HRR.out.below HBU.out).free 3;have p4:=(HRR.out.below HBU.out).free 4))
     refine qab fun W9 hW9 => ?_
     have hO9:OB W9 (w.heap.size+1) (qe8 f.op) ⟨#[]⟩ 0 0 A' gs.length c':=by rw [hW9];exact qag (HRR.out.below HBU.out)
     have hC9:Chg (fun k=>k=w.heap.size+1) U W9:=by rw [hW9];exact qae _ _ _ _ _ _ _
     clear hW9 p0 p1 p2 p3 p4 r0 r1 r2 r3 r4 r5
     obtain ⟨r0,r1,r2,r3,r4,r5⟩:=hO9.cells
     exact bodyPost_ret (v := .agg #[.int .i64 (qe8 f.op),.string ⟨#[]⟩,.int .i64 0,.int .i64 0,.slice A' gs.length c']) (by simp [results,Tryz.results55,go_sem,r0,r1,r2,r3,r4]) rfl ⟨_,rfl,by rw [HKF.out];exact ⟨A',c',rfl,((HRD.out.belowD HBU.out).keep (hC9.keeps fun x _ hx hv=>hx.2 hv)).mono fun x hx _=>hx.1⟩,(qac HBW.out HBU.out).trans (hC9.below (B:=w.heap.size) (fun x hx hv=>by have hv':x=w.heap.size+1:=hv;omega) (qac HBW.out HBU.out).size)⟩
end Go.Proofs.YtdakdpfofgkjoaaGreatDoor
