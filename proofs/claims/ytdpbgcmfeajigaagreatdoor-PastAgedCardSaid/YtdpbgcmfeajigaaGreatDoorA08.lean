/-
  Parts of a proof: FS FT FU FW.
-/
import Derived.Lib.Strings
import Derived.Lib.Bytealg
import Derived.Test.YtdpbgcmfeajigaaGreatDoorA07
import Derived.ArgAppend
import Derived.LaidEqlPtr
set_option linter.unusedSimpArgs false
set_option linter.unusedVariables false
set_option maxHeartbeats 8000000
set_option maxRecDepth 100000
namespace Go.Proofs.YtdpbgcmfeajigaaGreatDoor
open Go.RowKit Go.Shelf
attribute [local go_sem] ak Oper.semAt_some
theorem CB (x:Int)(w:World):Calls Tryz.prog 128 #[.int .i64 x] w λ e w'=>e = .returned (.bool false)/\w'=w:=by
 have hne:(x != x)=false:=by simp
 go_enter Tryz.func128,Tryz.ntmps128
 go_wp2_with fail
 go_ret
 exact⟨rfl,rfl⟩
theorem fO (x y:Int)(w:World):Calls Tryz.prog 96 #[.int .i64 x,.int .i64 y] w λ e w'=>e = .returned (.int .i64 (kJ x y))/\w'=w:=by
 by_cases h1:x<y
 ·have d1:decide (x<y)=true:=decide_eq_true h1
  go_enter Tryz.func96,Tryz.ntmps96
  go_wp2_with (first|(go_at_call 128;refine(CB _ _).mono ?_;rintro e w' ⟨rfl,rfl⟩))
  go_ret
  exact⟨dD (by unfold kJ;rw[if_pos h1]),rfl⟩
 ·have d1:decide (x<y)=false:=decide_eq_false h1
  by_cases h2:y<x
  ·have d2:decide (y<x)=true:=decide_eq_true h2
   go_enter Tryz.func96,Tryz.ntmps96
   go_wp2_with (first|(go_at_call 128;refine(CB _ _).mono ?_;rintro e w' ⟨rfl,rfl⟩))
   go_ret
   exact⟨dD (by unfold kJ;rw[if_neg (by omega),if_pos (by omega)]),rfl⟩
  ·have d2:decide (y<x)=false:=decide_eq_false h2
   go_enter Tryz.func96,Tryz.ntmps96
   go_wp2_with (first|(go_at_call 128;refine(CB _ _).mono ?_;rintro e w' ⟨rfl,rfl⟩))
   go_ret
   exact⟨dD (by unfold kJ;rw[if_neg (by omega),if_neg (by omega)]),rfl⟩
theorem vT:∀l m:List UInt8,Lib.compareBytes l m=if l==m then 0 else if Op.bytesLess l m then -1 else 1
 | [],[]=>by simp[Lib.compareBytes]
 | [],_ :: _=>by simp[Lib.compareBytes,Op.bytesLess]
 | _ :: _,[]=>by simp[Lib.compareBytes,Op.bytesLess]
 | a :: x,b :: y=>by
  rw[Lib.compareBytes,vT x y,Op.bytesLess]
  by_cases h1:a<b
  ·have h2:¬a=b:=by rintro rfl;exact UInt8.lt_irrefl _ h1
   simp[h1,h2]
  ·by_cases h2:b<a
   ·have h3:¬a=b:=by rintro rfl;exact UInt8.lt_irrefl _ h2
    simp[h1,h2,h3]
   ·have h3:a=b:=UInt8.le_antisymm (UInt8.not_lt.1 h2) (UInt8.not_lt.1 h1)
    subst h3;simp[h1]
theorem gW (a b:ByteArray):Lib.compareBytes a.data.toList b.data.toList=rH a b:=by
 unfold rH;rw[vT,ByteArray.toList_eq,ByteArray.toList_eq]
theorem QT (a b:ByteArray)(w:World) :
  Calls Tryz.prog 129 #[.string a,.string b] w λ e w'=>e = .returned (.int .i64 (rH a b))/\w'=w:=by
 rw[<-gW]
 go_enter Tryz.func129,Tryz.ntmps129
 go_wp2
 rw[run_callFunc_extern Tryz.func155 (by kernel_rfl) (by kernel_rfl) (by kernel_rfl) (e:=Extern.BytealgCompare.compare) (by kernel_rfl),Lib.run_compareString];simp only[Result.andThen];rw[Oper.upon_value]
 go_wp2
 go_ret
 exact⟨rfl,rfl⟩
theorem dQ (a b:ByteArray)(w:World) :
  Calls Tryz.prog 97 #[.string a,.string b] w λ e w'=>e = .returned (.int .i64 (rH a b))/\w'=w:=by
 go_enter Tryz.func97,Tryz.ntmps97
 go_wp2_with (go_at_call 129;refine(QT _ _ _).mono ?_;rintro e w' ⟨rfl,rfl⟩)
 go_ret
 exact⟨rfl,rfl⟩
theorem qB {a b:ByteArray}:rH a b=0 ↔ (a.toList==b.toList)=true:=by
 unfold rH;cases a.toList==b.toList
 ·cases Op.bytesLess a.toList b.toList <;> simp
 ·simp
theorem qm {a b:Int}(h:a=b):(a != b)=false:=by rw[h];simp
theorem mG {a b:Int}(h:¬a=b):(a != b)=true:=by simp[h]
theorem Gg {a b:Int}(h:a≠0):nz a b=a:=by unfold nz;rw[if_neg h]
theorem Ah {D E:Dom}(f g:Fm)(b o b' o':Nat)(A A':Option Addr)(c c':Nat)(w:World)(h:dU w D b o f A c)(h':dU w E b' o' g A' c') :
  Calls Tryz.prog 54 #[.pointer (some ⟨b,o,none⟩),.pointer (some ⟨b',o',none⟩)] w λ e w'=>e = .returned (.int .i64 (eH f g))/\aU w w':=by
 have HX:=hid (λ (W:World) (hd:aU w W)=>(show(W.cell? ⟨b,o,none⟩=some (.int .i64 f.op)/\W.cell? ⟨b,o+1,none⟩=some (.string f.name)/\W.cell? ⟨b,o+2,none⟩=some (.int .i64 f.val)/\W.cell? ⟨b,o+3,none⟩=some (.int .i64 f.bound)/\W.cell? ⟨b,o+4,none⟩=some (.slice A f.args.length c)) /\
  W.cell? ⟨b',o',none⟩=some (.int .i64 g.op)/\W.cell? ⟨b',o'+1,none⟩=some (.string g.name)/\W.cell? ⟨b',o'+2,none⟩=some (.int .i64 g.val)/\W.cell? ⟨b',o'+3,none⟩=some (.int .i64 g.bound)/\W.cell? ⟨b',o'+4,none⟩=some (.slice A' g.args.length c')from by
   obtain⟨n,rfl⟩:=hd
   exact⟨⟨h.c0,h.c1,h.c2,h.c3,h.c4⟩,h'.c0,h'.c1,h'.c2,h'.c3,h'.c4⟩))
 clear h h';obtain⟨⟨x0,x1,x2,x3,x4⟩,y0,y1,y2,y3,y4⟩:=HX.out w (aU.refl w)
 by_cases h0:f.op=g.op
 ·have n0:=qm h0
  have Z0:=hid (show kJ f.op g.op=0 from jq.2 h0);clear h0;cases h1:f.name.toList==g.name.toList
  ·have hne:rH f.name g.name≠0 := λ e=>by rw[qB,h1]at e;cases e
   have HR:=hid (show eH f g=rH f.name g.name by unfold eH;rw[Z0.out,dK,Gg hne]);clear hne
   go_enter Tryz.func54,Tryz.ntmps54
   go_wp2_with fail
   go_quiet (first|(go_at_call 96;exact Calls.quiet_of_same (fO _ _ _))|(go_at_call 97;exact Calls.quiet_of_same (dQ _ _ _)))
   obtain⟨V1,hV,hd1⟩:∃V,V=w.drewN nq/\aU w V:=⟨_,rfl,(aU.refl w).trans ⟨nq,rfl⟩⟩;rw[<-hV];clear hV x0 x1 x2 x3 x4 y0 y1 y2 y3 y4;obtain⟨⟨x0,x1,x2,x3,x4⟩,y0,y1,y2,y3,y4⟩:=HX.out V1 hd1;go_wp2_with fail
   go_quiet (first|(go_at_call 96;exact Calls.quiet_of_same (fO _ _ _))|(go_at_call 97;exact Calls.quiet_of_same (dQ _ _ _)))
   obtain⟨V2,hV,hd2⟩:∃V,V=V1.drewN nq/\aU w V:=⟨_,rfl,hd1.trans ⟨nq,rfl⟩⟩;rw[<-hV];clear hV x0 x1 x2 x3 x4 y0 y1 y2 y3 y4;obtain⟨⟨x0,x1,x2,x3,x4⟩,y0,y1,y2,y3,y4⟩:=HX.out V2 hd2;go_wp2_with fail
   go_quiet (first|(go_at_call 96;exact Calls.quiet_of_same (fO _ _ _))|(go_at_call 97;exact Calls.quiet_of_same (dQ _ _ _)))
   obtain⟨V3,hV,hd3⟩:∃V,V=V2.drewN nq/\aU w V:=⟨_,rfl,hd2.trans ⟨nq,rfl⟩⟩;rw[<-hV];clear hV x0 x1 x2 x3 x4 y0 y1 y2 y3 y4;obtain⟨⟨x0,x1,x2,x3,x4⟩,y0,y1,y2,y3,y4⟩:=HX.out V3 hd3;go_wp2_with fail
   go_ret
   exact⟨dD HR.out.symm,hd3⟩
  ·have Z1:=hid (qB.2 h1)
   by_cases h2:f.val=g.val
   ·have n2:=qm h2
    have Z2:=hid (show kJ f.val g.val=0 from jq.2 h2);clear h2
    by_cases h3:f.bound=g.bound
    ·have n3:=qm h3
     have Z3:=hid (show kJ f.bound g.bound=0 from jq.2 h3);have HR:=hid (show eH f g=kJ f.args.length g.args.length by unfold eH;rw[Z0.out,Z1.out,Z2.out,Z3.out,dK,dK,dK,dK]);clear h3
     go_enter Tryz.func54,Tryz.ntmps54
     go_wp2_with fail
     go_quiet (first|(go_at_call 96;exact Calls.quiet_of_same (fO _ _ _))|(go_at_call 97;exact Calls.quiet_of_same (dQ _ _ _)))
     obtain⟨V1,hV,hd1⟩:∃V,V=w.drewN nq/\aU w V:=⟨_,rfl,(aU.refl w).trans ⟨nq,rfl⟩⟩;rw[<-hV];clear hV x0 x1 x2 x3 x4 y0 y1 y2 y3 y4;obtain⟨⟨x0,x1,x2,x3,x4⟩,y0,y1,y2,y3,y4⟩:=HX.out V1 hd1;go_wp2_with fail
     go_quiet (first|(go_at_call 96;exact Calls.quiet_of_same (fO _ _ _))|(go_at_call 97;exact Calls.quiet_of_same (dQ _ _ _)))
     obtain⟨V2,hV,hd2⟩:∃V,V=V1.drewN nq/\aU w V:=⟨_,rfl,hd1.trans ⟨nq,rfl⟩⟩;rw[<-hV];clear hV x0 x1 x2 x3 x4 y0 y1 y2 y3 y4;obtain⟨⟨x0,x1,x2,x3,x4⟩,y0,y1,y2,y3,y4⟩:=HX.out V2 hd2;go_wp2_with fail
     go_quiet (first|(go_at_call 96;exact Calls.quiet_of_same (fO _ _ _))|(go_at_call 97;exact Calls.quiet_of_same (dQ _ _ _)))
     obtain⟨V3,hV,hd3⟩:∃V,V=V2.drewN nq/\aU w V:=⟨_,rfl,hd2.trans ⟨nq,rfl⟩⟩;rw[<-hV];clear hV x0 x1 x2 x3 x4 y0 y1 y2 y3 y4;obtain⟨⟨x0,x1,x2,x3,x4⟩,y0,y1,y2,y3,y4⟩:=HX.out V3 hd3;go_wp2_with fail
     go_quiet (first|(go_at_call 96;exact Calls.quiet_of_same (fO _ _ _))|(go_at_call 97;exact Calls.quiet_of_same (dQ _ _ _)))
     obtain⟨V4,hV,hd4⟩:∃V,V=V3.drewN nq/\aU w V:=⟨_,rfl,hd3.trans ⟨nq,rfl⟩⟩;rw[<-hV];clear hV x0 x1 x2 x3 x4 y0 y1 y2 y3 y4;obtain⟨⟨x0,x1,x2,x3,x4⟩,y0,y1,y2,y3,y4⟩:=HX.out V4 hd4;go_wp2_with fail
     go_quiet (first|(go_at_call 96;exact Calls.quiet_of_same (fO _ _ _))|(go_at_call 97;exact Calls.quiet_of_same (dQ _ _ _)))
     obtain⟨V5,hV,hd5⟩:∃V,V=V4.drewN nq/\aU w V:=⟨_,rfl,hd4.trans ⟨nq,rfl⟩⟩;rw[<-hV];clear hV x0 x1 x2 x3 x4 y0 y1 y2 y3 y4;obtain⟨⟨x0,x1,x2,x3,x4⟩,y0,y1,y2,y3,y4⟩:=HX.out V5 hd5;go_wp2_with fail
     go_ret
     exact⟨dD HR.out.symm,hd5⟩
    ·have n3:=mG h3
     have HR:=hid (show eH f g=kJ f.bound g.bound by unfold eH;rw[Z0.out,Z1.out,Z2.out,dK,dK,dK,Gg λ e=>h3 (jq.1 e)]);clear h3
     go_enter Tryz.func54,Tryz.ntmps54
     go_wp2_with fail
     go_quiet (first|(go_at_call 96;exact Calls.quiet_of_same (fO _ _ _))|(go_at_call 97;exact Calls.quiet_of_same (dQ _ _ _)))
     obtain⟨V1,hV,hd1⟩:∃V,V=w.drewN nq/\aU w V:=⟨_,rfl,(aU.refl w).trans ⟨nq,rfl⟩⟩;rw[<-hV];clear hV x0 x1 x2 x3 x4 y0 y1 y2 y3 y4;obtain⟨⟨x0,x1,x2,x3,x4⟩,y0,y1,y2,y3,y4⟩:=HX.out V1 hd1;go_wp2_with fail
     go_quiet (first|(go_at_call 96;exact Calls.quiet_of_same (fO _ _ _))|(go_at_call 97;exact Calls.quiet_of_same (dQ _ _ _)))
     obtain⟨V2,hV,hd2⟩:∃V,V=V1.drewN nq/\aU w V:=⟨_,rfl,hd1.trans ⟨nq,rfl⟩⟩;rw[<-hV];clear hV x0 x1 x2 x3 x4 y0 y1 y2 y3 y4;obtain⟨⟨x0,x1,x2,x3,x4⟩,y0,y1,y2,y3,y4⟩:=HX.out V2 hd2;go_wp2_with fail
     go_quiet (first|(go_at_call 96;exact Calls.quiet_of_same (fO _ _ _))|(go_at_call 97;exact Calls.quiet_of_same (dQ _ _ _)))
     obtain⟨V3,hV,hd3⟩:∃V,V=V2.drewN nq/\aU w V:=⟨_,rfl,hd2.trans ⟨nq,rfl⟩⟩;rw[<-hV];clear hV x0 x1 x2 x3 x4 y0 y1 y2 y3 y4;obtain⟨⟨x0,x1,x2,x3,x4⟩,y0,y1,y2,y3,y4⟩:=HX.out V3 hd3;go_wp2_with fail
     go_quiet (first|(go_at_call 96;exact Calls.quiet_of_same (fO _ _ _))|(go_at_call 97;exact Calls.quiet_of_same (dQ _ _ _)))
     obtain⟨V4,hV,hd4⟩:∃V,V=V3.drewN nq/\aU w V:=⟨_,rfl,hd3.trans ⟨nq,rfl⟩⟩;rw[<-hV];clear hV x0 x1 x2 x3 x4 y0 y1 y2 y3 y4;obtain⟨⟨x0,x1,x2,x3,x4⟩,y0,y1,y2,y3,y4⟩:=HX.out V4 hd4;go_wp2_with fail
     go_quiet (first|(go_at_call 96;exact Calls.quiet_of_same (fO _ _ _))|(go_at_call 97;exact Calls.quiet_of_same (dQ _ _ _)))
     obtain⟨V5,hV,hd5⟩:∃V,V=V4.drewN nq/\aU w V:=⟨_,rfl,hd4.trans ⟨nq,rfl⟩⟩;rw[<-hV];clear hV x0 x1 x2 x3 x4 y0 y1 y2 y3 y4;obtain⟨⟨x0,x1,x2,x3,x4⟩,y0,y1,y2,y3,y4⟩:=HX.out V5 hd5;go_wp2_with fail
     go_ret
     exact⟨dD HR.out.symm,hd5⟩
   ·have n2:=mG h2
    have HR:=hid (show eH f g=kJ f.val g.val by unfold eH;rw[Z0.out,Z1.out,dK,dK,Gg λ e=>h2 (jq.1 e)]);clear h2
    go_enter Tryz.func54,Tryz.ntmps54
    go_wp2_with fail
    go_quiet (first|(go_at_call 96;exact Calls.quiet_of_same (fO _ _ _))|(go_at_call 97;exact Calls.quiet_of_same (dQ _ _ _)))
    obtain⟨V1,hV,hd1⟩:∃V,V=w.drewN nq/\aU w V:=⟨_,rfl,(aU.refl w).trans ⟨nq,rfl⟩⟩;rw[<-hV];clear hV x0 x1 x2 x3 x4 y0 y1 y2 y3 y4;obtain⟨⟨x0,x1,x2,x3,x4⟩,y0,y1,y2,y3,y4⟩:=HX.out V1 hd1;go_wp2_with fail
    go_quiet (first|(go_at_call 96;exact Calls.quiet_of_same (fO _ _ _))|(go_at_call 97;exact Calls.quiet_of_same (dQ _ _ _)))
    obtain⟨V2,hV,hd2⟩:∃V,V=V1.drewN nq/\aU w V:=⟨_,rfl,hd1.trans ⟨nq,rfl⟩⟩;rw[<-hV];clear hV x0 x1 x2 x3 x4 y0 y1 y2 y3 y4;obtain⟨⟨x0,x1,x2,x3,x4⟩,y0,y1,y2,y3,y4⟩:=HX.out V2 hd2;go_wp2_with fail
    go_quiet (first|(go_at_call 96;exact Calls.quiet_of_same (fO _ _ _))|(go_at_call 97;exact Calls.quiet_of_same (dQ _ _ _)))
    obtain⟨V3,hV,hd3⟩:∃V,V=V2.drewN nq/\aU w V:=⟨_,rfl,hd2.trans ⟨nq,rfl⟩⟩;rw[<-hV];clear hV x0 x1 x2 x3 x4 y0 y1 y2 y3 y4;obtain⟨⟨x0,x1,x2,x3,x4⟩,y0,y1,y2,y3,y4⟩:=HX.out V3 hd3;go_wp2_with fail
    go_quiet (first|(go_at_call 96;exact Calls.quiet_of_same (fO _ _ _))|(go_at_call 97;exact Calls.quiet_of_same (dQ _ _ _)))
    obtain⟨V4,hV,hd4⟩:∃V,V=V3.drewN nq/\aU w V:=⟨_,rfl,hd3.trans ⟨nq,rfl⟩⟩;rw[<-hV];clear hV x0 x1 x2 x3 x4 y0 y1 y2 y3 y4;obtain⟨⟨x0,x1,x2,x3,x4⟩,y0,y1,y2,y3,y4⟩:=HX.out V4 hd4;go_wp2_with fail
    go_ret
    exact⟨dD HR.out.symm,hd4⟩
 ·have n0:=mG h0
  have HR:=hid (show eH f g=kJ f.op g.op from Gg λ e=>h0 (jq.1 e));clear h0
  go_enter Tryz.func54,Tryz.ntmps54
  go_wp2_with fail
  go_quiet (first|(go_at_call 96;exact Calls.quiet_of_same (fO _ _ _))|(go_at_call 97;exact Calls.quiet_of_same (dQ _ _ _)))
  obtain⟨V1,hV,hd1⟩:∃V,V=w.drewN nq/\aU w V:=⟨_,rfl,(aU.refl w).trans ⟨nq,rfl⟩⟩;rw[<-hV];clear hV x0 x1 x2 x3 x4 y0 y1 y2 y3 y4;obtain⟨⟨x0,x1,x2,x3,x4⟩,y0,y1,y2,y3,y4⟩:=HX.out V1 hd1;go_wp2_with fail
  go_quiet (first|(go_at_call 96;exact Calls.quiet_of_same (fO _ _ _))|(go_at_call 97;exact Calls.quiet_of_same (dQ _ _ _)))
  obtain⟨V2,hV,hd2⟩:∃V,V=V1.drewN nq/\aU w V:=⟨_,rfl,hd1.trans ⟨nq,rfl⟩⟩;rw[<-hV];clear hV x0 x1 x2 x3 x4 y0 y1 y2 y3 y4;obtain⟨⟨x0,x1,x2,x3,x4⟩,y0,y1,y2,y3,y4⟩:=HX.out V2 hd2;go_wp2_with fail
  go_ret
  exact⟨dD HR.out.symm,hd2⟩
end Go.Proofs.YtdpbgcmfeajigaaGreatDoor
namespace Go.Proofs.YtdpbgcmfeajigaaGreatDoor
open Go.RowKit Go.Shelf
structure Dt (w:World) (base size:Nat) (v:Value) (n:Nat) (xs:List Value) (tb cap:Nat):Prop where
 eq:v = .slice (some ⟨tb,0,none⟩) n cap
 ge:base<=tb
 lt:tb<w.heap.size
 room:n<=cap
 max:cap<=maxLen
 len:xs.length=n*size
 at_:∀j u,xs[j]?=some u->w.cell? ⟨tb,j,none⟩=some u
 all:∀j,j<cap*size->(w.cell? ⟨tb,j,none⟩).isSome=true/\w.frozen? ⟨tb,j,none⟩=false
section
variable {w w':World}{base size n tb cap:Nat}{v:Value}{xs:List Value}
theorem Dt.agree (h:Dt w base size v n xs tb cap)(hb:w'.heap[tb]?=w.heap[tb]?)(hs:w.heap.size<=w'.heap.size):Dt w' base size v n xs tb cap :=
 ⟨h.eq,h.ge,Nat.lt_of_lt_of_le h.lt hs,h.room,h.max,h.len,λ j u hu=>(World.cell?_of_block hb).trans (h.at_ j u hu),λ j hj=>by
  rw[World.cell?_of_block (a:=⟨tb,j,none⟩) hb,World.frozen?_of_block (a:=⟨tb,j,none⟩) hb];exact h.all j hj⟩
theorem Dt.qeo {e:TypeId}(h:w.ownsRow base e size v n xs)(hn:0<n):∃tb cap,Dt w base size v n xs tb cap:=by
 have hc := λ g hg=>h.cells (g:=g) hg
 rcases h.2 with⟨_,h0⟩|⟨g,cap,cur,hv,hb,hg,hnc,hcm,hcs,htake⟩
 ·omega
 ·refine⟨g,cap,hv,hb,lt_of_block hg,hnc,hcm,h.1,λ j u hu=>?_,λ j hj=>⟨?_,aA hg⟩⟩
  ·rw[<-htake,List.getElem?_take]at hu
   split at hu
   ·exact aj hg (by simpa using hu)
   ·cases hu
  ·rw[aj hg (Array.getElem?_eq_getElem (by rw[hcs];exact hj))];rfl
theorem Dt.take (h:Dt w base size v n xs tb cap){k:Nat}(hk:k<=n):Dt w base size (.slice (some ⟨tb,0,none⟩) k cap) k (xs.take (k*size)) tb cap :=
 ⟨rfl,h.ge,h.lt,Nat.le_trans hk h.room,h.max,by
  rw[List.length_take,h.len];exact Nat.min_eq_left (Nat.mul_le_mul_right _ hk),λ j u hu=>h.at_ j u (by
  rw[List.getElem?_take]at hu
  split at hu
  ·exact hu
  ·cases hu),h.all⟩
theorem Dt.set (h:Dt w base size v n xs tb cap)(j:Nat)(u:Value)(hj:j<n*size):Dt (w.setCell ⟨tb,j,none⟩ u) base size v n (xs.set j u) tb cap:=by
 have hj':j<cap*size:=Nat.lt_of_lt_of_le hj (Nat.mul_le_mul_right _ h.room);refine⟨h.eq,h.ge,by simpa using h.lt,h.room,h.max,by simpa using h.len,λ i x hx=>?_,λ i hi=>⟨?_,by rw[World.frozen?_setCell];exact(h.all i hi).2⟩⟩
 ·rw[List.getElem?_set]at hx
  split at hx
  ·rename_i e
   subst e
   split at hx
   ·injection hx with hx
    subst hx;obtain⟨y,hy⟩:=Option.isSome_iff_exists.1 (h.all j hj').1;exact World.cell?_setCell_same w _ _ hy
   ·cases hx
  ·rename_i e
   rw[World.cell?_setCell_other w _ _ _ (by intro e2;injection e2 with _ e2;exact e e2)];exact h.at_ i x hx
 ·by_cases e:i=j
  ·subst e
   obtain⟨y,hy⟩:=Option.isSome_iff_exists.1 (h.all i hi).1;rw[World.cell?_setCell_same w _ _ hy];rfl
  ·rw[World.cell?_setCell_other w _ _ _ (by intro e2;injection e2 with _ e2;exact e e2.symm)]
   exact(h.all i hi).1
end
theorem bM (b:Nat):∀(vs:List Value) (o:Nat) (w:World),(w.setCells b o vs).os=w.os/\(w.setCells b o vs).tape=w.tape/\(w.setCells b o vs).output=w.output/\(w.setCells b o vs).heap.size=w.heap.size/\(∀k,k≠b->(w.setCells b o vs).heap[k]?=w.heap[k]?)/\(w.setCells b o vs).drawn=w.drawn
 | [],_,w=>⟨rfl,rfl,rfl,rfl,λ _ _=>rfl,rfl⟩
 | v :: r,o,w=>by
  obtain⟨h1,h2,h3,h4,h5,h6⟩:=bM b r (o+1) (w.setCell ⟨b,o,none⟩ v);exact⟨h1,h2,h3,h4.trans (by simp),λ k hk=>(h5 k hk).trans (Below.heap_setCell _ _ _ _ hk),h6⟩
section
variable {P:Program}(w:World)
theorem Gw (base:Nat)(t ty e:TypeId)(i:TypeInfo)(z:Value)(size bytes:Nat)(ht:P.underlying t=some (.slice e))(hi:P.info? e=some i)(hz:i.zero=some z)
  (hsize:i.size=size) (hby:i.bytes=bytes) (hzs:z.cells.size=size) (hsz:0<size)
  (v:Value) (n:Nat) (xs:List Value) (tb cap:Nat) (hst:Dt w base size v n xs tb cap)
  (D:Dom) (A:Option Addr) (m c:Nat) (news:List Value) (hm:0<m) (hr:Rd w D size A m c news) (h1:∀u∈news,u.oneCell'=true)
  (hbytes:(n+m)*bytes<=140737488355328) (h63:n+m<=maxLen) (hbase:base<=w.heap.size) :
  ∃tb' c' w',(Builtin.append_ #[t,t] ty #[v,.slice A m c]).run P w = .ok (.slice (some ⟨tb',0,none⟩) (n+m) c') w'/\Dt w' base size (.slice (some ⟨tb',0,none⟩) (n+m) c') (n+m) (xs++news) tb' c'/\w.grownBy w' (some tb)/\(tb'=tb\/w.heap.size<=tb')/\w.drawn<=w'.drawn:=by
 obtain⟨b,o,rfl,hD,hl,hc⟩:=hr.2 hm
 have hcells:∀j u,news[j]?=some u->w.cell? ((⟨b,o,none⟩:Addr).add j)=some u := λ j u hu=>by
  have e:(⟨b,o,none⟩:Addr).add j=⟨b,o+j,none⟩:=by
   unfold Addr.add
   by_cases h0:j=0 <;> simp[h0]
  rw[e];exact hc j u hu
 obtain rfl:=hst.eq
 by_cases hroom:n+m<=cap
 ·have hfit:(n+m)*size<=cap*size:=Nat.mul_le_mul_right _ hroom
  have hlen:n*size+news.length<=cap*size:=by rw[hr.1.1,<-Nat.add_mul];exact hfit
  have hrun:=run_append_room_cells (P:=P) w t ty e i ht hi tb 0 n cap ⟨b,o,none⟩ m c news (by rw[hsize];exact hr.1.1) hcells h1 hroom
   (λ j hj=>by rw[hsize,Nat.zero_add];exact(hst.all _ (by omega)).1) (λ j hj=>by rw[hsize,Nat.zero_add];exact(hst.all _ (by omega)).2)
  rw[hsize,Nat.zero_add]at hrun;refine⟨tb,cap,_,hrun,⟨rfl,hst.ge,by rw[(bM tb news (n*size) w).2.2.2.1];exact hst.lt,hroom,hst.max,by rw[List.length_append,hst.len,hr.1.1,Nat.add_mul],λ j u hu=>?_,λ j hj=>⟨?_,?_⟩⟩,⟨?_,?_,?_,?_,?_⟩,.inl rfl,?_⟩
  ·by_cases hj:j<n*size
   ·rw[World.cell?_setCells_out tb news (n*size) w ⟨tb,j,none⟩ (λ _ _ => .inl hj)]
    rw[List.getElem?_append_left (by rw[hst.len];exact hj)]at hu;exact hst.at_ j u hu
   ·rw[List.getElem?_append_right (by rw[hst.len];omega),hst.len]at hu
    have hj2:j-n*size<news.length:=(List.getElem?_eq_some_iff.1 hu).1;have:=World.cell?_setCells_in tb news (n*size) w (λ j hj=>(hst.all _ (by omega)).1) (j-n*size) hj2;rw[show n*size+(j-n*size)=j by omega]at this;rw[this,<-hu,List.getElem?_eq_getElem hj2]
  ·exact World.isSome_setCells tb news (n*size) w ⟨tb,j,none⟩ (hst.all j hj).1
  ·rw[World.frozen?_setCells];exact(hst.all j hj).2
  ·exact(bM tb news (n*size) w).1
  ·exact(bM tb news (n*size) w).2.1
  ·exact(bM tb news (n*size) w).2.2.1
  ·exact Nat.le_of_eq (bM tb news (n*size) w).2.2.2.1.symm
  ·exact λ k _ hk=>(bM tb news (n*size) w).2.2.2.2.1 k λ e=>hk (by rw[e])
  ·exact Nat.le_of_eq (bM tb news (n*size) w).2.2.2.2.2.symm
 ·subst hsize
  subst hby;have hsmall:n+m<=9223372036854775807:=by simp only[maxLen]at h63;omega
  have hlen:(xs++news).length=(n+m)*i.size:=by rw[List.length_append,hst.len,hr.1.1,Nat.add_mul]
  have hrun:=run_append_grow (P:=P) w t ty e i z ht hi hz ⟨tb,0,none⟩ n cap xs hst.len (λ j u hu=>by
   have e:(⟨tb,0,none⟩:Addr).add j=⟨tb,j,none⟩:=by
    unfold Addr.add
    by_cases h0:j=0 <;> simp[h0]
   rw[e];exact hst.at_ j u hu) ⟨b,o,none⟩ m c news hr.1.1 hcells (by omega) (by omega) (growslice_fits (by omega) hbytes)
  have hge:=grownCap_ge w (n+m) cap e;have hcm:grownCap w (n+m) cap e<=maxLen:=grownCap_le_maxLen w (n+m) cap e h63
  have hown:(w.drew.alloc (.cells (xs.toArray++news.toArray++Builtin.zeroCells z.cells (grownCap w (n+m) cap e-(n+m))) e)).ownsRow w.heap.size e i.size (.slice (some ⟨w.heap.size,0,none⟩) (n+m) (grownCap w (n+m) cap e)) (n+m) (xs++news):=by
   refine⟨hlen,.inr ⟨w.heap.size,_,_,rfl,Nat.le_refl _,heap_alloc_new w.drew _,hge,hcm,?_,?_⟩⟩
   ·simp only[Array.size_append,List.size_toArray,size_zeroCells,hzs,hst.len,hr.1.1,<-Nat.add_mul]
    congr 1
    omega
   ·simp only[Array.toList_append,List.append_assoc]
    rw[<-List.append_assoc,<-hlen];exact List.take_left
  obtain⟨tb',c',h2⟩:=Dt.qeo hown (by omega);have heq:=h2.eq
  injection heq with e1 e2 e3
  injection e1 with e1
  injection e1 with e1
  subst e1 e3;exact⟨_,_,_,hrun,⟨rfl,hbase,h2.lt,h2.room,h2.max,h2.len,h2.at_,h2.all⟩,⟨rfl,rfl,rfl,by simp,λ k hk _=>Below.heap_alloc _ _ _ hk⟩,.inr (Nat.le_refl _),Nat.le_succ _⟩
theorem vY {ops:Array Oper}{o:Oper}{a:Act}{K:Act->World->Prop}{Q:Exit->Act->World->Prop}{E:Prop}(hgd:o.guard=none)(s x:Operand)(t:TypeId)
  (ho:o.op = .call { callee := .builtin .append,args := #[s,x],argTypes := #[t,t] })
  (base:Nat) (e:TypeId) (i:TypeInfo) (z:Value) (size bytes:Nat) (ht:P.underlying t=some (.slice e)) (hi:P.info? e=some i) (hz:i.zero=some z)
  (hsize:i.size=size) (hby:i.bytes=bytes) (hzs:z.cells.size=size) (hsz:0<size)
  (v:Value) (n:Nat) (xs:List Value) (tb cap:Nat) (hs:a.eval s=v) (hst:Dt w base size v n xs tb cap)
  (D:Dom) (A:Option Addr) (m c:Nat) (news:List Value) (hm:0<m) (hx:a.eval x = .slice A m c) (hr:Rd w D size A m c news) (h1:∀u∈news,u.oneCell'=true)
  (hbytes:(n+m)*bytes<=140737488355328) (h63:n+m<=maxLen) (hbase:base<=w.heap.size)
  (h:∀tb' c' w',Dt w' base size (.slice (some ⟨tb',0,none⟩) (n+m) c') (n+m) (xs++news) tb' c'->w.grownBy w' (some tb)->(tb'=tb\/w.heap.size<=tb')->w.drawn<=w'.drawn ->
   K (a.put o.dst (.slice (some ⟨tb',0,none⟩) (n+m) c')) w') :
  if Region.wanted o (yielded ops a.tmps)=true then Oper.wp P o a w K Q else E:=by
 have hw:Region.wanted o (yielded ops a.tmps)=true:=by simp[Region.wanted,hgd]
 rw[if_pos hw];obtain⟨tb',c',w',hrun,h2,h3,h4,h5⟩:=Gw (P:=P) w base t o.type e i z size bytes ht hi hz hsize hby hzs hsz v n xs tb cap hst D A m c news hm hr h1 hbytes h63 hbase;unfold Oper.wp execOp;simp only[ho,resolve,invoke,builtin,Sem.run_bind,Sem.run_pure,Result.andThen_ok,List.map_toArray,List.map_cons,List.map_nil,hs,hx,hrun];exact h tb' c' w' h2 h3 h4 h5
end
mutual
theorem tY:∀f:Fm,f.cmp f=0
 | .mk o n v b l=>by
  have hs:rH n n=0:=qB.2 (by simp);simp only[Fm.cmp,jq.2 rfl,hs,IL l,dK]
theorem IL:∀l:List Fm,jY l l=0
 | []=>rfl
 | f :: l=>by simp only[jY,tY f,IL l,dK]
end
structure Rest where
 f:List Fm
 a:Option Addr
 c:Nat
 g:List Fm
 a':Option Addr
 c':Nat
def Rest.cells (r:Rest):List Value := [.slice r.a r.f.length r.c,.slice r.a' r.g.length r.c']
def iJ (st:List Rest):List Value:=st.flatMap Rest.cells
theorem jX (st:List Rest):(iJ st).length=st.length*2:=by
 unfold iJ
 induction st with
 | nil=>rfl
 | cons r st ih=>rw[List.flatMap_cons,List.length_append,ih,List.length_cons];show 2+_=_;omega
theorem iU (st:List Rest)(r:Rest):iJ (st ++ [r])=iJ st++r.cells:=by simp[iJ]
def Eh (st:List Rest):Int:=st.foldl (λ acc r=>nz (jY r.f r.g) acc) 0
theorem xX (st:List Rest)(r:Rest):Eh (st ++ [r])=nz (jY r.f r.g) (Eh st):=by simp[Eh]
theorem Yu:Eh []=0:=rfl
def mT (st:List Rest):Nat:=(st.map λ r=>2*sizes r.f+1).sum
theorem yC (st:List Rest)(r:Rest):mT (st ++ [r])=mT st+(2*sizes r.f+1):=by simp[mT]
theorem Ig (st:List Rest)(r r':Rest){m:Nat}(hm:m=st.length):((iJ (st ++ [r])).set (m*2) (.slice r'.a r'.f.length r'.c)).set (m*2+1) (.slice r'.a' r'.g.length r'.c')=iJ (st ++ [r']):=by
 rw[iU,iU,hm];have h0:=jX st;rw[List.set_append_right _ _ (by omega),List.set_append_right _ _ (by omega),h0,Nat.sub_self,show st.length*2+1-st.length*2=1 by omega];rfl
theorem Gs (st:List Rest)(r:Rest){m:Nat}(hm:m=st.length):(iJ (st ++ [r])).take (m*2)=iJ st:=by
 rw[iU,hm,<-jX st,List.take_left]
theorem Zz:∀st:List Rest,st.length<=mT st
 | []=>Nat.zero_le _
 | r :: st=>by
  have:=Zz st
  simp only[mT,List.map_cons,List.sum_cons,List.length_cons]at *
  omega
def ZQ (w:World)(D E:Dom)(r:Rest):Prop:=r.f.length=r.g.length/\bZ w D r.f r.a r.c/\bZ w E r.g r.a' r.c'
theorem qah {f:Fm}{l:List Fm}{sl:List (Option Addr×Nat)}(h:sl.length=(f :: l).length):∃s sl',sl=s :: sl'/\sl'.length=l.length:=by
 cases sl with
 | nil=>cases h
 | cons s sl=>exact⟨s,sl,rfl,by simpa using h⟩
theorem bZ.tail {w:World}{D:Dom}{f:Fm}{l:List Fm}{b o c:Nat}(h:bZ w D (f :: l) (some ⟨b,o,none⟩) c):bZ w D l (if c=1 then some ⟨b,o,none⟩else some ⟨b,o+5,none⟩) (c-1):=by
 obtain⟨sl,h0,h1,h2⟩:=h.out;obtain⟨s,sl',rfl,hsl⟩:=qah h0;have hc:(f :: l).length<=c:=h1.1.2.2.1;have hcb:=h1.1.2.2.2;have hlb:=h1.1.2.1;simp only[List.length_cons]at hc hlb
 by_cases hl:l = []
 ·subst hl
  exact bZ.nil _ _ _ (by omega)
 ·have hpos:0<l.length:=List.length_pos_iff.2 hl
  rw[if_neg (by omega)];obtain⟨b',o',e,hb,hlt,hcell⟩:=h1.2 (by simp)
  injection e with e
  injection e with e1 e2
  subst e1 e2;have hcs:bQ (f :: l) (s :: sl')=fH f s++bQ l sl':=by simp[bQ]
  have hlen:=h1.1.1;rw[hcs]at hlen hcell;refine .mk l _ _ sl' hsl ⟨⟨?_,by omega,by omega,by omega⟩,λ _=>⟨b,o+5,rfl,hb,hlt,λ j u hu=>?_⟩⟩ λ i hi=>?_
  ·have:(fH f s).length=5:=rfl
   rw[List.length_append,this]at hlen;simp only[List.length_cons]at hlen;omega
  ·have:=hcell (5+j) u (by rw[List.getElem?_append_right (by show 5<=_;omega)];show(bQ l sl')[5+j-5]?=_;rw[Nat.add_sub_cancel_left];exact hu)
   rw[<-Nat.add_assoc]at this;exact this
  ·have:=h2 (i+1) (by simp;omega)
   simpa using this
theorem Fm.ext {f g:Fm}(h0:f.op=g.op)(h1:f.name=g.name)(h2:f.val=g.val)(h3:f.bound=g.bound)(h4:f.args=g.args):f=g:=by
 rw[<-Fm.eta f,<-Fm.eta g,h0,h1,h2,h3,h4]
theorem bZ.uniq {w:World}{D:Dom}{l:List Fm}{A:Option Addr}{c:Nat}(h:bZ w D l A c):∀(E:Dom) (m:List Fm),bZ w E m A c->l.length=m.length->l=m:=by
 induction h with
 | mk l A c sl h1 h2 _ ih =>
  intro E m hm hlen;obtain⟨sm,k0,k1,k2⟩:=hm.out;apply List.ext_getElem hlen;intro i hi hj;obtain⟨b,o,e,_,_,hc⟩:=h2.2 (by omega);obtain⟨b',o',e',_,_,hc'⟩:=k1.2 (by omega);rw[e]at e'
  injection e' with e'
  injection e' with e1 e2
  subst e1 e2
  have key:∀j,j<5->(fH (l.getD i default) (sl.getD i (none,0)))[j]?=(fH (m.getD i default) (sm.getD i (none,0)))[j]? := λ j hj'=>by
   obtain⟨u,hu⟩:∃u,(fH (l.getD i default) (sl.getD i (none,0)))[j]?=some u:=by
    refine⟨_,List.getElem?_eq_getElem (show j<_ from ?_)⟩;exact hj'
   obtain⟨u',hu'⟩:∃u,(fH (m.getD i default) (sm.getD i (none,0)))[j]?=some u:=by
    refine⟨_,List.getElem?_eq_getElem (show j<_ from ?_)⟩;exact hj'
   have g1:=hc (i*5+j) u (by rw[lu h1 hi hj'];exact hu);have g2:=hc' (i*5+j) u' (by rw[lu k0 hj hj'];exact hu');rw[hu,hu',<-g1,<-g2]
  have e0:=key 0 (by omega);have e1:=key 1 (by omega);have e2:=key 2 (by omega);have e3:=key 3 (by omega);have e4:=key 4 (by omega);simp[fH]at e0 e1 e2 e3 e4;have hl:l[i]=l.getD i default:=by simp[List.getD,hi]
  have hm':m[i]=m.getD i default:=by simp[List.getD,hj]
  rw[hl,hm'];have hk:=k2 i hj;have hA:(sl.getD i (none,0)).1=(sm.getD i (none,0)).1:=by simpa[List.getD]using e4.1
  have hC:(sl.getD i (none,0)).2=(sm.getD i (none,0)).2:=by simpa[List.getD]using e4.2.2
  rw[<-hA,<-hC]at hk;exact Fm.ext (by simpa[List.getD]using e0) (by simpa[List.getD]using e1) (by simpa[List.getD]using e2) (by simpa[List.getD]using e3) (ih i hi E _ hk (by simpa[List.getD]using e4.2.1))
theorem dU.uniq {w:World}{D E:Dom}{b o:Nat}{f g:Fm}{A A':Option Addr}{c c':Nat}(h:dU w D b o f A c)(h':dU w E b o g A' c'):f=g:=by
 have e0:=h.c0.symm.trans h'.c0;have e1:=h.c1.symm.trans h'.c1;have e2:=h.c2.symm.trans h'.c2;have e3:=h.c3.symm.trans h'.c3;have e4:=h.c4.symm.trans h'.c4;simp at e0 e1 e2 e3 e4;obtain⟨rfl,e5,rfl⟩:=e4;exact Fm.ext e0 e1 e2 e3 (h.args.uniq E _ h'.args e5)
section
variable {P:Program}(w:World)
theorem CY {a b:Addr}{ca cb:Array Value}{ta tb:TypeId}{fr:Nat×Nat}(hne:a≠b)(ha:w.heap[a.block]?=some (.cells ca ta (0,0)))(hca:0<ca.size)(hb:w.heap[b.block]?=some (.cells cb tb fr))(hcb:0<cb.size) :
  (sameAddr a b).run P w = .ok false w:=by
 obtain⟨lo,hi⟩:=fr
 by_cases hbl:a.block=b.block
 ·simp[sameAddr,hbl,hne]
 ·have h1:¬ca.size=0:=by omega
  have h2:¬cb.size=0:=by omega
  by_cases hf:lo<=b.off/\b.off<hi
  ·simp[sameAddr,hbl,World.frozen?,ha,hb,noView,viewAt,World.shape?,mayBeOne,stringish,h1,h2,hf]
  ·by_cases hg:lo<=cb.size/\cb.size<hi
   ·simp[sameAddr,hbl,World.frozen?,ha,hb,noView,viewAt,World.shape?,mayBeOne,stringish,h1,h2,hf,hg]
   ·simp[sameAddr,hbl,World.frozen?,ha,hb,noView,viewAt,World.shape?,mayBeOne,stringish,h1,h2,hf,hg]
theorem CZ {a b:Addr}{ca cb:Array Value}{ta tb:TypeId}{fr:Nat×Nat}(hne:a≠b)(ha:w.heap[a.block]?=some (.cells ca ta fr))(hca:0<ca.size)(hb:w.heap[b.block]?=some (.cells cb tb (0,0)))(hcb:0<cb.size) :
  (sameAddr a b).run P w = .ok false w:=by
 obtain⟨lo,hi⟩:=fr
 by_cases hbl:a.block=b.block
 ·simp[sameAddr,hbl,hne]
 ·have h1:¬ca.size=0:=by omega
  have h2:¬cb.size=0:=by omega
  by_cases hf:lo<=a.off/\a.off<hi
  ·simp[sameAddr,hbl,World.frozen?,ha,hb,noView,viewAt,World.shape?,mayBeOne,stringish,h1,h2,hf]
  ·by_cases hg:lo<=ca.size/\ca.size<hi
   ·simp[sameAddr,hbl,World.frozen?,ha,hb,noView,viewAt,World.shape?,mayBeOne,stringish,h1,h2,hf,hg]
   ·simp[sameAddr,hbl,World.frozen?,ha,hb,noView,viewAt,World.shape?,mayBeOne,stringish,h1,h2,hf,hg]
theorem Gx {tp te:TypeId}{j:TypeInfo}{a b:Addr}{r:Bool}(hp:P.underlying tp=some (.pointer te))(hte:P.info? te=some j)(hsz:j.size≠0)(h:(sameAddr a b).run P w = .ok r w) :
  (binOp .eql tp (.pointer (some a)) (.pointer (some b))).run P w = .ok (.bool r) w:=by
 have h:∀d:Nat,(Op.equalIn (d+1) tp (.pointer (some a)) (.pointer (some b))).run P w = .ok r w := λ d=>by
  simp[Op.equalIn,run_underlying hp,sizeOf,typeInfo,hte,hsz,h]
 simp only[binOp];simp[Op.equal,Op.maxDepth,h 9999]
end
def Cl (w:World)(b:Nat):Prop:=∃cs t,w.heap[b]?=some (.cells cs t (0,0))
theorem Cl.of_eq {w w':World}{b:Nat}(h:Cl w b)(he:w'.heap[b]?=w.heap[b]?):Cl w' b:=by
 obtain⟨cs,t,h⟩:=h;exact⟨cs,t,he.trans h⟩
theorem Cl.lt {w:World}{b:Nat}(h:Cl w b):b<w.heap.size:=by
 obtain⟨cs,t,h⟩:=h;exact lt_of_block h
theorem Fj {w:World}{b o:Nat}{v:Value}(h:w.cell? ⟨b,o,none⟩=some v):∃cs t fr,w.heap[b]?=some (.cells cs t fr)/\0<cs.size:=by
 unfold World.cell? at h
 split at h
 ·rename_i cs t fr he
  refine⟨_,_,_,he,?_⟩;simp at h;have:=(Array.getElem?_eq_some_iff.1 h).1;omega
 ·cases h
theorem Aj {w:World}{b o b' o':Nat}{v v':Value}(h:w.cell? ⟨b,o,none⟩=some v)(h':w.cell? ⟨b',o',none⟩=some v')(hc:Cl w b\/Cl w b')(hne:¬(b=b'/\o=o')) :
  (binOp .eql 67 (.pointer (some ⟨b,o,none⟩)) (.pointer (some ⟨b',o',none⟩))).run Tryz.prog w = .ok (.bool false) w:=by
 obtain⟨cs,t,fr,hb,hs⟩:=Fj h;obtain⟨cs',t',fr',hb',hs'⟩:=Fj h'
 have hne':(⟨b,o,none⟩:Addr)≠⟨b',o',none⟩ := λ e=>by
  injection e with e1 e2
  exact hne ⟨e1,e2⟩
 obtain⟨j,hj,hz⟩:∃j,Tryz.prog.info? 24=some j/\j.size≠0:=by
  have h0:(Tryz.prog.info? 24).map (λ i=>i.size)=some 5:=by kernel_rfl
  obtain⟨j,hj,hs⟩:=Option.map_eq_some_iff.1 h0;exact⟨j,hj,by omega⟩
 refine Gx w Tryz.underlying67 hj hz ?_
 rcases hc with⟨cs2,t2,h2⟩|⟨cs2,t2,h2⟩
 ·rw[hb]at h2
  injection h2 with h2
  injection h2 with e1 e2 e3
  subst e1 e2 e3;exact CY w hne' hb hs hb' hs'
 ·rw[hb']at h2
  injection h2 with h2
  injection h2 with e1 e2 e3
  subst e1 e2 e3;exact CZ w hne' hb hs hb' hs'
theorem tZ {w:World}{b o:Nat}:(binOp .eql 67 (.pointer (some ⟨b,o,none⟩)) (.pointer (some ⟨b,o,none⟩))).run Tryz.prog w = .ok (.bool true) w:=by
 obtain⟨j,hj⟩:∃j,Tryz.prog.info? 24=some j:=by
  have h0:(Tryz.prog.info? 24).map (λ i=>i.size)=some 5:=by kernel_rfl
  obtain⟨j,hj,hs⟩:=Option.map_eq_some_iff.1 h0;exact⟨j,hj⟩
 exact run_eql_ptr_same w _ Tryz.underlying67 hj
end Go.Proofs.YtdpbgcmfeajigaaGreatDoor
