/-
  Parts of a proof: UN UO UP R1.
-/
import Derived.Test.YtdpbgcmfeajigaaGreatDoorA27
import Derived.Test.YtdpbgcmfeajigaaGreatDoorA00
set_option linter.unusedSimpArgs false
set_option linter.unusedVariables false
set_option maxHeartbeats 8000000
set_option maxRecDepth 100000
namespace Go.Proofs.YtdpbgcmfeajigaaGreatDoor
open Go.RowKit Go.Shelf
attribute [local go_sem] ak run_store_func Oper.semAt_some
theorem VY {l:List Fm}(h:lH l=true){f:Fm}(hf:f∈l):bf f=true:=by
 obtain⟨i,hi,rfl⟩:=List.getElem_of_mem hf;have:=((jw h).2 i hi).2.1
 rwa [List.getD_eq_getElem?_getD,List.getElem?_eq_getElem hi,Option.getD_some]at this
theorem oq {l:List Fm}(h:lH l=true){f:Fm}(hf:f∈l):f.size<=1000000:=by have:=(iI (VY h hf)).1;omega
theorem FZ {D:Dom}(gs:List Fm)(A:Option Addr)(c n:Nat)(w:World)(hn:n=gs.length)(h:bZ w D gs A c)(hcl:∀b,D b->Cl w b)(hL:lH gs=true)(hg:GF w)(hk:GK w) :
  Calls Tryz.prog 59 #[.slice A n c] w λ e w'=>e = .returned (.bool true)/\Below w.heap.size w w':=by
 have HR:=hid (h.mono (E := λ k=>D k/\k<w.heap.size) λ k hk hl=>⟨hk,hl⟩);have Md:=hid hcl;have HG:=hid hg;have HK:=hid hk;have HL:=hid hL;have HN:=hid hn;have hnc:n<=c:=by rw[hn];exact h.len.2.1
 have PW:n<=8:=by rw[hn];exact(jw hL).1
 have d8:¬(8:Int)<(n:Int):=by omega
 clear h hcl hg hk hL hn;refine(callsIn_wide (n:=3)).1 (callsIn_of_wp_marks Tryz.func59 rfl trivial ?_ rfl);simp only[Tryz.ntmps59,List.size_toArray,List.length_cons,List.length_nil,Nat.reduceAdd,Nat.reduceSub,Array.replicate_succ,Array.replicate_zero,List.push_toArray,List.append_toArray,List.nil_append,List.cons_append];refine wpIn_wide.2 ?_;go_upto_region 1 with(fail)
 refine aC λ W hW=>?_;have hb:Below w.heap.size w W:=by rw[hW];go_grown
 have e0:W.heap[w.heap.size]?=some (.cells #[.slice A n c] 22 (0,0)):=by rw[hW,aQ _ _ _ (by simp)];exact at_new _ _ _ rfl
 have e1:W.heap[w.heap.size+1]?=some (.cells #[.bool false] 4 (0,0)):=by rw[hW];exact at_new _ _ _ (by simp)
 have HB:=hid hb;have mW:=hid e0;have kG:=hid e1;have c0:=aj e0 (i:=0) rfl;have c1:=lt_of_block e0;clear hW hb e0 e1;go_wp2_with fail
 clear c0 c1
 refine wp_loop (λ a' wr=>∃(i:Nat) (ds:List Nat) (x0 x3 x4 x5 x6 x7 x8 x9 x12 x13 x14 x15 x16 x17 x18 x19 x20 x21 x22 x23 x24 x25 x26 x27 x28 x29 x30 x31 x32 x33 x34 x35 x36 x37 x38 x39 x40 x41 x42 x43 x44 x45 x46 x47 x48 x49 x50 x51 x52 x53 x54 x55 x56 x57:Value),(i<=n/\Below w.heap.size w wr/\wr.heap[w.heap.size]?=some (.cells #[.slice A n c] 22 (0,0))/\wr.heap[w.heap.size+1]?=some (.cells #[.bool false] 4 (0,0))/\oP wr ds/\(∀D,D∈ds->w.heap.size+2<=D))/\a' = { tmps := #[x0,.pointer (some ⟨w.heap.size,0,none⟩),.pointer (some ⟨w.heap.size+1,0,none⟩),x3,x4,x5,x6,x7,x8,x9,.int .i64 (n:Int),.int .i64 (i:Int),x12,x13,x14,x15,x16,x17,x18,x19,x20,x21,x22,x23,x24,x25,x26,x27,x28,x29,x30,x31,x32,x33,x34,x35,x36,x37,x38,x39,x40,x41,x42,x43,x44,x45,x46,x47,x48,x49,x50,x51,x52,x53,x54,x55,x56,x57],defers:=RU ds }) (λ a' _=>n-(intOf (a'.tmps.getD 11 undef)).toNat) ?_ ?_
 ·refine⟨0,[],?_⟩
  (repeat apply Exists.intro)
  exact⟨⟨Nat.zero_le _,HB.out,mW.out,kG.out,oP.nil _,λ _ h=>by cases h⟩,rfl⟩
 ·rintro a' wr ⟨i,ds,x0,x3,x4,x5,x6,x7,x8,x9,x12,x13,x14,x15,x16,x17,x18,x19,x20,x21,x22,x23,x24,x25,x26,x27,x28,x29,x30,x31,x32,x33,x34,x35,x36,x37,x38,x39,x40,x41,x42,x43,x44,x45,x46,x47,x48,x49,x50,x51,x52,x53,x54,x55,x56,x57,⟨hi,hb,e0,e1,hm,hd⟩,ha⟩
  subst ha
  try dsimp only
  have gB:=hid hb;have Qr:=hid e0;have UF:=hid e1;have HM:=hid hm;have HD:=hid hd;clear hb e1 hm hd mW kG HB
  by_cases hlt:i<n
  ·have hii:(i:Int)<(n:Int):=by omega
   have hi0:(0:Int)<=(i:Int):=by omega
   have hic:i<=c:=by omega
   have hlf:i<gs.length:=by rw[<-HN.out];exact hlt
   obtain⟨b1,o1,A',c',g,rfl,HX,hgf⟩:=(HR.out.keep (Keeps.of_below gB.out λ _ h=>h.2)).get hlf;have yM:=hid hgf;have Hg:=hid ((jw HL.out).2 i hlf);rw[HX.out]at Hg;obtain⟨_,q1,_,_,_,_,_,_⟩:=hgf;have HC:=hid hic;have dX:=hid hlt;have s0:=aj Qr.out (i:=0) rfl;have s1:=lt_of_block Qr.out;have hsw:=gB.out.size;clear e0 HX hlf hic hlt;go_upto_region 7 with(fail)
   refine aC λ W7 hW7=>?_;have hb7:Below wr.heap.size wr W7:=by rw[hW7];go_grown
   have e3:W7.heap[wr.heap.size]?=some (.cells #[.int .i64 (i:Int)] 3 (0,0)):=by rw[hW7,aQ _ _ _ (by simp)];exact at_new _ _ _ rfl
   have e4:W7.heap[wr.heap.size+1]?=some (.cells #[.pointer (some ⟨b1,o1+i*5,none⟩)] 67 (0,0)):=by rw[hW7];exact at_new _ _ _ (by simp)
   have zh:=hid hb7;have HS7:=hid (show wr.heap.size+2<=W7.heap.size by rw[hW7];simp);have Iq:=hid e3;have HE4:=hid e4;clear hW7 hb7 e3 e4 s0;have qeS:=hid (gB.out.trans (zh.out.mono gB.out.size))
   have aI:Hid (∀W':World,Below W7.heap.size W7 W'->W'.cell? ⟨w.heap.size,0,none⟩=some (.slice (some ⟨b1,o1,none⟩) n c)/\W'.cell? ⟨wr.heap.size,0,none⟩=some (.int .i64 (i:Int))/\W'.cell? ⟨wr.heap.size+1,0,none⟩=some (.pointer (some ⟨b1,o1+i*5,none⟩))/\W'.cell? ⟨b1,o1+i*5,none⟩=some (.int .i64 g.op)/\W'.cell? ⟨b1,o1+i*5+1,none⟩=some (.string g.name)/\W'.cell? ⟨b1,o1+i*5+2,none⟩=some (.int .i64 g.val)/\W'.cell? ⟨b1,o1+i*5+3,none⟩=some (.int .i64 g.bound)/\W'.cell? ⟨b1,o1+i*5+4,none⟩=some (.slice A' g.args.length c')):=hid λ W' hb=>by
    have hk7:=gB.out.trans ((zh.out.trans (hb.mono zh.out.size)).mono gB.out.size);have hq:=(yM.out).keep (w':=W') (Keeps.of_below (zh.out.trans (hb.mono zh.out.size)) λ k hk=>Nat.lt_of_lt_of_le hk.2 gB.out.size);refine⟨aj ((hb.block _ (Nat.lt_of_lt_of_le (lt_of_block Qr.out) zh.out.size)).trans ((zh.out.block _ (lt_of_block Qr.out)).trans Qr.out)) (i:=0) rfl,aj ((hb.block _ (lt_of_block Iq.out)).trans Iq.out) (i:=0) rfl,aj ((hb.block _ (lt_of_block HE4.out)).trans HE4.out) (i:=0) rfl,hq.c0,hq.c1,hq.c2,hq.c3,hq.c4⟩
   have HI0:=hid (Below.refl W7.heap.size W7);have HI1:=hid (show Below W7.heap.size W7 W7.drew from(Below.refl W7.heap.size W7).drew);have HI2:=hid (show∀i,Below W7.heap.size W7 (W7.drewN i)from λ i=>below_drewN (Below.refl W7.heap.size W7) i)
   have XG:Hid (∀W':World,Below W7.heap.size W7 W'->dU W' (λ k=>D k/\k<w.heap.size) b1 (o1+i*5) g A' c'/\GF W'/\GK W'/\(∀b,D b/\b<w.heap.size->Cl W' b)/\bZ W' (λ k=>D k/\k<w.heap.size) gs (some ⟨b1,o1,none⟩) c):=hid λ W' hb=>by
    have hbw:=qeS.out.trans (hb.mono qeS.out.size);have hbr:=zh.out.trans (hb.mono zh.out.size);exact⟨yM.out.keep (Keeps.of_below hbr λ k hk=>Nat.lt_of_lt_of_le hk.2 gB.out.size),HG.out.below hbw HG.out.pos,HK.out.below hbw HK.out.pos,λ b hb=>(Md.out b hb.1).of_eq (hbw.block b hb.2),HR.out.keep (Keeps.of_below hbw λ _ h=>h.2)⟩
   have Mc:Hid (∀W':World,Below W7.heap.size W7 W'->Calls Tryz.prog 91 #[.int .i64 g.op] W' λ e w'=>e = .returned (.bool true)/\Below W7.heap.size W7 w'):=hid λ W' hb=>by
    refine(oM g.op W').mono ?_;rintro e w' ⟨rfl,hw⟩;rw[hw,Hg.out.1];exact⟨rfl,hb⟩
   have HC2:Hid (∀W':World,Below W7.heap.size W7 W'->Calls Tryz.prog 42 #[.pointer (some ⟨b1,o1+i*5,none⟩)] W' λ e w'=>e = .returned (.bool true)/\Below W7.heap.size W7 w'):=hid λ W' hb=>by
    obtain⟨a1,a2,a3,a4,a5⟩:=XG.out W' hb;refine(zG g b1 (o1+i*5) A' c' W' a1 a2 a3).mono ?_;rintro e w' ⟨rfl,hw⟩;rw[Hg.out.2.1];exact⟨rfl,au hb hw⟩
   have Dk:Hid (∀W':World,Below W7.heap.size W7 W'->Calls Tryz.prog 12 #[.agg #[.int .i64 g.op,.string g.name,.int .i64 g.val,.int .i64 g.bound,.slice A' g.args.length c']] W' λ e w'=>e = .returned (.bool true)/\Below W7.heap.size W7 w'):=hid λ W' hb=>by
    obtain⟨a1,a2,a3,a4,a5⟩:=XG.out W' hb;refine(Gj g _ W' (bI.cells5 a1.args) a2 (by have:=(iI Hg.out.2.1).2.1;omega)).mono ?_;rintro e w' ⟨rfl,hw⟩;rw[Hg.out.2.2.1];exact⟨rfl,au hb hw⟩
   have zN:Hid (∀W':World,Below W7.heap.size W7 W'->Calls Tryz.prog 44 #[.slice (some ⟨b1,o1,none⟩) i c,.pointer (some ⟨b1,o1+i*5,none⟩)] W' λ e w'=>e = .returned (.int .i64 (-1))/\Below W7.heap.size W7 w'):=hid λ W' hb=>by
    obtain⟨a1,a2,a3,a4,a5⟩:=XG.out W' hb;have hil:i<=gs.length:=by have:=dX.out;have:=HN.out;omega
    refine(uf (gs.take i) (some ⟨b1,o1,none⟩) c i g b1 (o1+i*5) A' c' W' (by rw[List.length_take];omega) (a5.take hil) a1 (λ f hf=>oq HL.out (List.mem_of_mem_take hf)) (.inl a4)).mono ?_;rintro e w' ⟨rfl,hw⟩;rw[Hg.out.2.2.2.1];exact⟨rfl,au hb hw.below⟩
   have hsl := λ W=>I9 (some ⟨b1,o1,none⟩) (n:=n) (c:=c) (k:=i) HC.out W;have z4:wr.heap.size+1<W7.heap.size:=HS7.out;have z3:wr.heap.size<W7.heap.size:=by omega
   have z1:w.heap.size<W7.heap.size:=by omega
   have zb:b1<W7.heap.size:=by omega
   obtain⟨y1,y3,y4,p0,p1,p2,p3,p4⟩:=aI.out W7 (Below.refl _ _)
   go_region_held3 (λ W':World=>W'.cell? ⟨w.heap.size,0,none⟩=some (.slice (some ⟨b1,o1,none⟩) n c)/\W'.cell? ⟨wr.heap.size,0,none⟩=some (.int .i64 (i:Int))/\W'.cell? ⟨wr.heap.size+1,0,none⟩=some (.pointer (some ⟨b1,o1+i*5,none⟩))/\W'.cell? ⟨b1,o1+i*5,none⟩=some (.int .i64 g.op)/\W'.cell? ⟨b1,o1+i*5+1,none⟩=some (.string g.name)/\W'.cell? ⟨b1,o1+i*5+2,none⟩=some (.int .i64 g.val)/\W'.cell? ⟨b1,o1+i*5+3,none⟩=some (.int .i64 g.bound)/\W'.cell? ⟨b1,o1+i*5+4,none⟩=some (.slice A' g.args.length c'))
    (first|(with_reducible exact aI.out _ hI)|(go_keep;done))
    (first
     | (go_at_call 91;(with_reducible refine(Mc.out _ (by first|exact HI0.out|exact HI1.out|exact HI2.out _)).mono ?_);rintro e W9 ⟨rfl,hI⟩)
     | (go_at_call 42;(with_reducible refine(HC2.out _ hI).mono ?_);rintro e W9 ⟨rfl,hI2⟩;clear hI;have hI:=hI2;clear hI2)
     | (go_at_call 12;(with_reducible refine(Dk.out _ hI).mono ?_);rintro e W9 ⟨rfl,hI2⟩;clear hI;have hI:=hI2;clear hI2)
     | (go_at_call 44;(with_reducible refine(zN.out _ hI).mono ?_);rintro e W9 ⟨rfl,hI2⟩;clear hI;have hI:=hI2;clear hI2))
   all_goals
    have HI:=hid hI;obtain⟨y1,y3,y4,p0,p1,p2,p3,p4⟩:=aI.out _ hI;clear hI p0 p1 p2 p3 p4;go_wp2_with (first|(go_at_call 43;refine(sQ _ _).mono ?_;rintro e w2 ⟨rfl,hw2⟩))
    refine aC λ W2 hW2=>?_;clear hw2;have hb2:Below W9.heap.size W9 W2:=by rw[hW2];go_grown
    have hp2:W2.cell? ⟨W9.heap.size,0,none⟩=some (.pointer (some ⟨b1,o1+i*5,none⟩)):=by rw[hW2];exact aj (at_new _ _ _ rfl) (i:=0) rfl
    have HB2:=hid (HI.out.trans (hb2.mono HI.out.size));have hs2:=HI.out.size;have hs3:=hb2.size;have hs4:=HS7.out;have hs5:=gB.out.size;have HP2:=hid hp2;clear hW2 hb2 hp2 y1 y3 y4;have HF2:=hid ((XG.out W2 HB2.out).1);refine zJ g b1 (o1+i*5) W9.heap.size w.heap.size A' c' (λ _=>False) (λ _ _=>True) rfl rfl (HF2.out.mono λ k hk _=>hk.2) (by omega) HP2.out (λ _ h=>h.elim) (λ _ _ _ _ _=>trivial) trivial ?a1 ?hassign ?dY ?hdone
    case hassign =>
     intro l p W K hK
     gi_wp2
     exact hK
    case dY =>
     intro l k W3 b' o' A2 c2 hs3 hc3 _ hlen hf3 hroot;obtain⟨x,hx⟩:∃x,x=(aY g).getD k default:=⟨_,rfl⟩;rw[<-hx]at hf3 hroot;have hxm:x∈aY g:=by rw[hx];exact dA hlen
     have EJ:=hid (show Below W7.heap.size W7 W3 from HB2.out.trans ((hc3.below (B:=W2.heap.size) (λ _ _ h=>h) (Nat.le_refl _)).mono HB2.out.size));obtain⟨y1,y3,y4,_,_,_,_,_⟩:=aI.out W3 EJ.out;have HF3:=hid hf3;have NQ:Fence.wide.fn 44:=trivial;have hfd:Fence.wide.depth=none:=rfl
     by_cases hp:b'=b1/\o'=o1+i*5
     ·obtain⟨rfl,rfl⟩:=hp
      have hneq:=CQ (w:=W3) (b:=b') (o:=o1+i*5);clear hx hf3 hroot hlen hxm
      gi_wp2_with fail
      exact⟨aH.refl _ _,trivial⟩
     ·have hne:x≠g := λ e=>hp (hroot (by rw[e]))
      have hz:=Hg.out.2.2.2.2 x hxm hne;obtain⟨a1,a2,a3,a4,a5⟩:=XG.out W3 EJ.out;have hneq:=KN (w:=W3) hf3.c0 a1.c0 (.inr (a4 _ a1.dom)) hp;have hil:i<=gs.length:=by have:=dX.out;have:=HN.out;omega
      have yQ:=hid ((uf (gs.take i) (some ⟨b1,o1,none⟩) c i x b' o' A2 c2 W3 (by rw[List.length_take];omega) (a5.take hil) hf3 (λ f hf=>oq HL.out (List.mem_of_mem_take hf)) (.inl a4)));obtain⟨fz,hfz⟩:∃fz,findF (gs.take i) x=fz:=⟨_,rfl⟩;rw[hfz]at hz yQ;have hz2:¬fz<0:=by omega
      have hsl := λ W=>I9 (some ⟨b1,o1,none⟩) (n:=n) (c:=c) (k:=i) HC.out W;clear hx hf3 hroot hlen hxm hne hil a1 a2 a3 a4 a5 hfz hz hp
      gi_wp2_with (gi_at_call 44;(refine(CallsIn.inRound l (callsIn_wide.2 yQ.out)).mono ?_);rintro e W4 ⟨rfl,hb4⟩)
      exact⟨aH.aS hb4.below,trivial⟩
    case hdone =>
     intro W3 hc3 _ hD3;have EJ:=hid (show Below W7.heap.size W7 W3 from HB2.out.trans ((hc3.below (B:=W2.heap.size) (λ _ _ h=>h) (Nat.le_refl _)).mono HB2.out.size));have UW:=hid (zh.out.trans (EJ.out.mono zh.out.size));have hs7:=EJ.out.size
     dsimp only
     go_wp2_with fail
     refine⟨⟨i+1,W2.heap.size :: ds,?_⟩,?_⟩
     ·(repeat apply Exists.intro)
      refine⟨⟨by have:=dX.out;omega,au gB.out UW.out,(UW.out.block _ (lt_of_block Qr.out)).trans Qr.out,(UW.out.block _ (lt_of_block UF.out)).trans UF.out,?_,?_⟩,rfl⟩
      ·refine oP.cons (HM.out.eu (aH.aS (V := λ _=>False) UW.out) λ _ _ h=>h) hD3 λ h=>?_
       have:=HM.out.lt h;omega
      ·intro D hD
       rcases List.mem_cons.1 hD with rfl|hD
       ·omega
       ·exact HD.out D hD
     ·have:=dX.out
      simp[intOf];omega
  ·have hii:¬(i:Int)<(n:Int):=by omega
   have s0:=aj UF.out (i:=0) rfl;have s1:=aA UF.out (i:=0);have s2:=lt_of_block UF.out;clear e0 hlt;go_wp2_with fail
   refine zB (ds:=ds) rfl (HM.out.eu ((aH.refl (λ b=>b=w.heap.size+1) wr).set ⟨w.heap.size+1,0,none⟩ _ λ _=>rfl) λ D hD h=>by have:=HD.out D hD;omega) (v := .bool true) (λ w' hc'=>?_) (λ w' hc'=>⟨rfl,?_⟩)
   ·have e4:(wr.setCell ⟨w.heap.size+1,0,none⟩ (.bool true)).heap[w.heap.size+1]?=some (.cells #[.bool true] 4 (0,0)):=by rw[aB UF.out];rfl
    have:=aj (hc'.box e4 (λ h=>by have:=HD.out _ h;omega)) (i:=0) rfl;simp[results,Tryz.results59,go_sem,this]
   ·have hc4:=gB.out.setCell (p:=⟨w.heap.size+1,0,none⟩) (Nat.le_succ _) (.bool true)
    exact hc4.trans (hc'.below (λ b hb h=>by have:=HD.out _ h;omega) hc4.size)
end Go.Proofs.YtdpbgcmfeajigaaGreatDoor
namespace Go.Proofs.YtdpbgcmfeajigaaGreatDoor
open Go.RowKit Go.Shelf
attribute [local go_sem] ak run_store_func Oper.semAt_some
theorem Nj {a b:Nat}(ha:a<2 ^ 62)(hb:b<2 ^ 62):bits .or .i64 (a:Int) (b:Int)=((a ||| b:Nat):Int):=by
 have h:=Nat.or_lt_two_pow ha hb;have h1:a % 2 ^ 64=a:=Nat.mod_eq_of_lt (by omega);have h2:b % 2 ^ 64=b:=Nat.mod_eq_of_lt (by omega)
 have e:(BitVec.ofInt 64 (a:Int) ||| BitVec.ofInt 64 (b:Int)).toNat=a ||| b:=by
  rw[BitVec.toNat_or];simp only[BitVec.ofInt_natCast,BitVec.toNat_ofNat,h1,h2]
 show IntKind.i64.wrap ((BitVec.ofInt 64 (a:Int) ||| BitVec.ofInt 64 (b:Int)).toNat:Int)=_;rw[e];exact IntWalk.i64_in _ (by omega)
theorem Ae {a:Nat}(ha:a<2 ^ 62):bits .and .i64 (a:Int) 1=((a % 2:Nat):Int):=by
 have h1:a % 2 ^ 64=a:=Nat.mod_eq_of_lt (by omega)
 have e:(BitVec.ofInt 64 (a:Int) &&& BitVec.ofInt 64 (1:Int)).toNat=a % 2:=by
  rw[BitVec.toNat_and];have:(BitVec.ofInt 64 (1:Int)).toNat=1:=by decide
  rw[this];simp only[BitVec.ofInt_natCast,BitVec.toNat_ofNat,h1,Nat.and_one_is_mod]
 show IntKind.i64.wrap ((BitVec.ofInt 64 (a:Int) &&& BitVec.ofInt 64 (1:Int)).toNat:Int)=_;rw[e];exact IntWalk.i64_in _ (by omega)
def MN (w:World)(mb m:Nat):Prop:=w.heap[mb]?=some (.cells #[.int .i64 (m:Int)] 3 (0,0))
theorem set_any (mb m i:Nat)(w:World)(h:MN w mb m)(hi:i<8)(hm:m<256) :
  Calls Tryz.prog 100 #[.int .i64 (i:Int),.pointer (some ⟨mb,0,none⟩)] w λ e w'=>(∃v,e = .returned v)/\aH (λ b=>b=mb) w w'/\MN w' mb (m ||| 2 ^ i):=by
 unfold MN at h;have c0:=aj h (i:=0) rfl;have f0:=aA h (i:=0);have hl:=lt_of_block h;have HB:=hid h;have hp:2 ^ i<=128:=Nat.le_trans (Nat.pow_le_pow_right (by omega) (show i<=7 by omega)) (by decide);obtain⟨p,hpe⟩:∃p:Nat,p=2 ^ i:=⟨_,rfl⟩
 have hw:IntKind.i64.wrap (2 ^ i)=(p:Int):=by
  rw[show((2:Int) ^ i)=((2 ^ i:Nat):Int)by simp,<-hpe];exact IntWalk.i64_in _ (by omega)
 rw[<-hpe]at hp⊢;have ho:=Nj (a:=m) (b:=p) (by omega) (by omega);have h0:(0:Int)<=(i:Int):=by omega
 have h1:(i:Int)<=64:=by omega
 have hwp:IntKind.i64.wrap (p:Int)=(p:Int):=IntWalk.i64_in _ (by omega);have HI:=hid (And.intro hi hm);have HP:=hid hp;clear h hpe hi hm hp
 go_enter Tryz.func100,Tryz.ntmps100
 go_region
 all_goals
  go_wp2_with fail
  go_end0
  refine⟨⟨_,rfl⟩,?_,?_⟩
  ·first
    | exact((aH.refl (λ b=>b=mb) w).set ⟨mb,0,none⟩ _ λ _=>rfl).drew
    | exact(aH.refl (λ b=>b=mb) w).drew.set ⟨mb,0,none⟩ _ λ _=>rfl
  ·unfold MN
   show(w.setCell ⟨mb,0,none⟩ _).heap[mb]?=_;rw[aB HB.out];rfl
theorem CO (B:Nat->Bool)(k:Nat):jy ((List.range (k+1)).map B)=if B k then jy ((List.range k).map B) ||| 2 ^ k else jy ((List.range k).map B):=by
 rw[List.range_succ,List.map_append];cases h:B k
 ·simp only[List.map_cons,List.map_nil,h]
  rw[zC];simp
 ·simp only[List.map_cons,List.map_nil,h]
  have:=ZB ((List.range k).map B);rw[List.length_map,List.length_range,Nat.one_shiftLeft]at this;rw[this];simp
theorem F7 (B:Nat->Bool)(k:Nat):jy ((List.range k).map B)<2 ^ k:=by have:=xg ((List.range k).map B);rwa [List.length_map,List.length_range]at this
theorem AZ (n:Nat)(hn:n<=8)(fn:Nat)(caps:Array Value)(B:Nat->Bool)(w:World)(hen:∀(args:Array Value) (W:World),(callFunc fn args).run Tryz.prog W = .ok (.enter fn args) W)
  (hcall:∀(i:Nat) (W:World),i<n->Below w.heap.size w W->Calls Tryz.prog fn (#[.int .i64 (i:Int)]++caps) W λ e W'=>e = .returned (.bool (B i))/\Below W.heap.size W W') :
  Calls Tryz.prog 60 #[.int .i64 (n:Int),.func (.func fn) #[] caps] w λ e w'=>e = .returned (.int .i64 (jy ((List.range n).map B):Int))/\Below w.heap.size w w':=by
 have hmf:∀(fn:Fn) (first cap:Array Value) (w:World),(Instr.makeFunc fn first cap).run Tryz.prog w = .ok (.func fn first cap) w := λ _ _ _ _=>rfl;have HC:=hid hcall;clear hcall
 go_enter Tryz.func60,Tryz.ntmps60
 go_upto_region 3 with(fail)
 refine aC λ U hU=>?_;have HB:=hid (show Below w.heap.size w U by rw[hU];go_grown);have HM:=hid (show MN U w.heap.size 0 by rw[hU];unfold MN;exact at_new _ _ _ (by simp));clear hU;go_wp2_with fail
 go_loopw [10] (λ r wr=>∃k:Nat,k<=n/\r = .int .i64 (k:Int)/\Below w.heap.size w wr/\MN wr w.heap.size (jy ((List.range k).map B))) (λ r _=>n-(intOf r).toNat)
 case atStart=>exact⟨0,Nat.zero_le _,rfl,HB.out,HM.out⟩
 case round =>
  obtain⟨k,hk,rfl,hbl,hm⟩:=hrel;have bH:=hid hbl;have HMR:=hid hm;clear hbl hm
  by_cases hlt:k<n
  ·have hii:(k:Int)<(n:Int):=by omega
   have dX:=hid hlt;have J8:=hid (CO B k);have HLM:=hid (show jy ((List.range k).map B)<256 from Nat.lt_of_lt_of_le (F7 B k) (Nat.le_trans (Nat.pow_le_pow_right (by omega) (show k<=8 by omega)) (by decide)));have HCK:=hid (HC.out k wr hlt bH.out);obtain⟨bk,hbk⟩:∃bk,B k=bk:=⟨_,rfl⟩;rw[hbk]at J8 HCK;clear hlt hbk;go_wp2_with fail
   refine HCK.out.mono ?_;rintro e W2 ⟨rfl,hb2⟩;have aT:=hid (au bH.out hb2);have HM2:=hid (show MN W2 w.heap.size (jy ((List.range k).map B))from(hb2.block _ (lt_of_block HMR.out)).trans HMR.out);clear hb2;cases bk
   ·go_wp2_with fail
    go_roundw
    case rel=>exact⟨k+1,by have:=dX.out;omega,by go_num,aT.out,by rw[J8.out];exact HM2.out⟩
    case measure=>have:=dX.out;simp[intOf];omega
   ·have BJ:=hid (set_any w.heap.size _ k W2 HM2.out (by have:=dX.out;omega) HLM.out)
    go_wp2_with (first|(go_at_call 100;(with_reducible refine BJ.out.mono ?_);rintro e W3 ⟨⟨v,rfl⟩,hc3,hm3⟩;have Dk:=hid hc3;have HM3:=hid hm3;clear hc3 hm3))
    go_roundw
    case rel=>exact⟨k+1,by have:=dX.out;omega,by go_num,aT.out.trans (Dk.out.below (λ b hb h=>by omega) aT.out.size),by rw[J8.out];exact HM3.out⟩
    case measure=>have:=dX.out;simp[intOf];omega
  ·have hii:¬(k:Int)<(n:Int):=by omega
   obtain rfl:k=n:=by omega
   have c0:=aj HMR.out (i:=0) rfl;have hl:=lt_of_block HMR.out;clear hlt;go_wp2_with fail
   go_ret
   exact⟨rfl,bH.out⟩
theorem Lc {n:Nat}(h:n<=8):2 ^ n<=256:=Nat.le_trans (Nat.pow_le_pow_right (by omega) h) (by decide)
theorem uZ {D:Dom}(gs:List Fm)(A:Option Addr)(c n:Nat)(mem:Int)(w:World)(hn:n=gs.length)(h:bZ w D gs A c)(hcl:∀b,D b->Cl w b)(hL:lH gs=true)(hg:GF w)(hk:GK w) :
  Calls Tryz.prog 76 #[.slice A n c,.int .i64 mem] w λ e w'=>e = .returned (.bool (decide (0<=mem)&&decide (mem<((2 ^ n:Nat):Int))))/\Below w.heap.size w w':=by
 have Hg:=hid (FZ gs A c n w hn h hcl hL hg hk);have PW:n<=8:=by rw[hn];exact(jw hL).1
 obtain⟨p,hpe⟩:∃p:Nat,p=2 ^ n:=⟨_,rfl⟩;have hp:p<=256:=by rw[hpe];exact Lc PW
 have hw:IntKind.i64.wrap (2 ^ n)=(p:Int):=by
  rw[show((2:Int) ^ n)=((2 ^ n:Nat):Int)by simp,<-hpe];exact IntWalk.i64_in _ (by omega)
 have h0:(0:Int)<=(n:Int):=by omega
 have h1:(n:Int)<=64:=by omega
 have hwp:IntKind.i64.wrap (p:Int)=(p:Int):=IntWalk.i64_in _ (by omega);rw[<-hpe];have HP:=hid hp;clear hpe hn h hcl hL hg hk hp PW
 by_cases hm:0<=mem
 ·have HV:=hid (show(decide (0<=mem)&&decide (mem<(p:Int)))=decide (mem<(p:Int))by rw[decide_eq_true hm];rfl)
  go_enter Tryz.func76,Tryz.ntmps76
  go_wp2_with (go_at_call 59;(with_reducible refine Hg.out.mono ?_);rintro e W2 ⟨rfl,hb2⟩;have HB2:=hid hb2;clear hb2)
  go_ret
  exact⟨by rw[HV.out];rfl,HB2.out⟩
 ·have HV:=hid (show(decide (0<=mem)&&decide (mem<(p:Int)))=false by rw[decide_eq_false hm];rfl)
  go_enter Tryz.func76,Tryz.ntmps76
  go_wp2_with (go_at_call 59;(with_reducible refine Hg.out.mono ?_);rintro e W2 ⟨rfl,hb2⟩;have HB2:=hid hb2;clear hb2)
  go_ret
  exact⟨by rw[HV.out];rfl,HB2.out⟩
end Go.Proofs.YtdpbgcmfeajigaaGreatDoor
namespace Go.Proofs.YtdpbgcmfeajigaaGreatDoor
open Go.RowKit Go.Shelf
attribute [local go_sem] ak run_store_func Oper.semAt_some
theorem Aq {D E:Dom}(gs:List Fm)(A:Option Addr)(c n:Nat)(f:Fm)(fb fo:Nat)(A2:Option Addr)(c2:Nat)(w:World)(hn:n=gs.length)(h:bZ w D gs A c)(hcl:∀b,D b->Cl w b)(hs:∀f,f∈gs->f.size<=1000000)
  (hf:dU w E fb fo f A2 c2) (hl:bf f=true) (hm:∀g,g∈aY f->g∈gs) (hg:GF w) (hk:GK w) :
  Calls Tryz.prog 65 #[.slice A n c,.pointer (some ⟨fb,fo,none⟩)] w λ e w'=>e = .returned (.bool true)/\Below w.heap.size w w':=by
 have HR:=hid (h.mono (E := λ k=>D k/\k<w.heap.size) λ k hk hl=>⟨hk,hl⟩);have Md:=hid hcl;have HG:=hid hg;have HK:=hid hk;have HN:=hid hn;have HS:=hid hs;have HF:=hid hf.old;have HL:=hid hl;have HM:=hid hm;clear h hcl hg hk hn hs hf hl hm;refine(callsIn_wide (n:=3)).1 (callsIn_of_wp_marks Tryz.func65 rfl trivial ?_ rfl);simp only[Tryz.ntmps65,List.size_toArray,List.length_cons,List.length_nil,Nat.reduceAdd,Nat.reduceSub,Array.replicate_succ,Array.replicate_zero,List.push_toArray,List.append_toArray,List.nil_append,List.cons_append];refine wpIn_wide.2 ?_;go_upto_region 1 with(fail)
 refine aC λ W hW=>?_;have hb:Below w.heap.size w W:=by rw[hW];go_grown
 have e0:W.heap[w.heap.size]?=some (.cells #[.slice A n c] 22 (0,0)):=by rw[hW,aQ _ _ _ (by simp)];exact at_new _ _ _ rfl
 have e1:W.heap[w.heap.size+1]?=some (.cells #[.bool false] 4 (0,0)):=by rw[hW];exact at_new _ _ _ (by simp)
 have HB:=hid hb;have mW:=hid e0;have kG:=hid e1;have BL:=hid (show W.heap.size=w.heap.size+2 by rw[hW];simp);clear hW hb e0 e1;have sW:=hid (zG f fb fo A2 c2 W (HF.out.keep (Keeps.of_below HB.out λ _ h=>h)) (HG.out.below HB.out HG.out.pos) (HK.out.below HB.out HK.out.pos));rw[HL.out]at sW
 go_wp2_with (first
  | (go_at_call 42;(with_reducible refine sW.out.mono ?_);rintro e W1 ⟨rfl,hb1⟩;have HB1:=hid hb1;clear hb1)
  | (go_at_call 43;refine(sQ _ _).mono ?_;rintro e w2 ⟨rfl,hw2⟩;have uK:=hid (show∃x,x=W1 from⟨_,rfl⟩)))
 refine aC λ W2 hW2=>?_;clear hw2;have hb2:Below W1.heap.size W1 W2:=by rw[hW2];go_grown
 have hp2:W2.cell? ⟨W1.heap.size,0,none⟩=some (.pointer (some ⟨fb,fo,none⟩)):=by rw[hW2];exact aj (at_new _ _ _ rfl) (i:=0) rfl
 have HB2:=hid (au (au HB.out HB1.out) hb2);have aT:=hid (au HB1.out hb2);have hs1:=HB1.out.size;have hs2:=hb2.size;have hs3:=BL.out;have HP2:=hid hp2;clear hW2 hb2 hp2 uK;refine zJ f fb fo W1.heap.size w.heap.size A2 c2 (λ _=>False) (λ _ _=>True) rfl rfl (HF.out.keep (Keeps.of_below HB2.out λ _ h=>h)) (by omega) HP2.out (λ _ h=>h.elim) (λ _ _ _ _ _=>trivial) trivial ?a1 ?hassign ?dY ?hdone
 case hassign =>
  intro l p W K hK
  gi_wp2
  exact hK
 case dY =>
  intro l k W3 b' o' A3 c3 hs3 hc3 _ hlen hf3 _;obtain⟨x,hx⟩:∃x,x=(aY f).getD k default:=⟨_,rfl⟩;rw[<-hx]at hf3;have hxm:x∈aY f:=by rw[hx];exact dA hlen
  have hb3:Below W2.heap.size W2 W3:=hc3.below (B:=W2.heap.size) (λ _ _ h=>h) (Nat.le_refl _);have hbw3:=au HB2.out hb3;have qcx:=au aT.out hb3;have y1:=aj ((qcx.block _ (lt_of_block mW.out)).trans mW.out) (i:=0) rfl;have NQ:Fence.wide.fn 44:=trivial;have hfd:Fence.wide.depth=none:=rfl;have hz:0<=findF gs x:=by unfold findF;rw[if_pos (HM.out x hxm)];omega
  have yQ:=hid (uf gs A c n x b' o' A3 c3 W3 HN.out (HR.out.keep (Keeps.of_below hbw3 λ _ h=>h.2)) hf3 HS.out (.inl λ b hb=>(Md.out b hb.1).of_eq (hbw3.block b hb.2)));obtain⟨fz,hfz⟩:∃fz,findF gs x=fz:=⟨_,rfl⟩;rw[hfz]at hz yQ;have hz2:¬fz<0:=by omega
  clear hx hf3 hlen hxm hfz hz hb3 hbw3 qcx
  gi_wp2_with (gi_at_call 44;(refine(CallsIn.inRound l (callsIn_wide.2 yQ.out)).mono ?_);rintro e W4 ⟨rfl,hb4⟩)
  exact⟨aH.aS hb4.below,trivial⟩
 case hdone =>
  intro W3 hc3 _ hD3;have hb3:Below W2.heap.size W2 W3:=hc3.below (B:=W2.heap.size) (λ _ _ h=>h) (Nat.le_refl _);have EJ:=hid (au aT.out hb3);have UW:=hid (au HB2.out hb3);have e1:=(EJ.out.block _ (lt_of_block kG.out)).trans kG.out;have s0:=aj e1 (i:=0) rfl;have s1:=aA e1 (i:=0);have s2:=lt_of_block e1;have HEE:=hid e1;have HD3:=hid hD3;clear hb3 e1 hc3 hD3
  dsimp only
  go_wp2_with fail
  have hD4:=(at_set (w:=W3) (p:=⟨w.heap.size+1,0,none⟩) (u := .bool true) (show W2.heap.size≠w.heap.size+1 by omega)).trans HD3.out;have e4:(W3.setCell ⟨w.heap.size+1,0,none⟩ (.bool true)).heap[w.heap.size+1]?=some (.cells #[.bool true] 4 (0,0)):=by rw[aB HEE.out];rfl
  have hc4:=UW.out.setCell (p:=⟨w.heap.size+1,0,none⟩) (Nat.le_succ _) (.bool true);refine fZ rfl hD4 (v := .bool true) (λ w' hc'=>?_) (λ w' hc'=>⟨rfl,hc4.trans (hc'.below (λ b hb=>by omega) hc4.size)⟩);have:=aj (hc'.box e4 (by omega)) (i:=0) rfl;simp[results,Tryz.results65,go_sem,this]
theorem LG (gs:List Fm):Dc gs=(List.range gs.length).map λ i=>decide ((gs.getD i default).val=1):=by
 unfold Dc;refine List.ext_getElem (by simp) λ i h1 h2=>?_;have hi:i<gs.length:=by simpa using h1
 simp[List.getD,hi]
theorem Tq {D:Dom}(gs:List Fm)(A:Option Addr)(c n sb i:Nat)(w:World)(hn:n=gs.length)(h:bZ w D gs A c)(hs:w.cell? ⟨sb,0,none⟩=some (.slice A n c))(hi:i<n) :
  Calls Tryz.prog 61 #[.int .i64 (i:Int),.pointer (some ⟨sb,0,none⟩)] w λ e w'=>e = .returned (.bool (decide ((gs.getD i default).val=1)))/\Below w.heap.size w w':=by
 subst hn;obtain⟨b1,o1,A',c',g,rfl,HX,hgf⟩:=h.get hi;obtain⟨_,q1,_,_,q2,_,_,_⟩:=hgf;have hsl:=World.block_lt_of_cell? w _ hs;have hii:(i:Int)<(gs.length:Int):=by omega
 have hi0:(0:Int)<=(i:Int):=by omega
 obtain⟨d,hd⟩:∃d,decide ((gs.getD i default).val=1)=d:=⟨_,rfl⟩;rw[hd];have HD:=hid (show d=(g.val==1)by rw[<-hd,HX.out];by_cases e:g.val=1 <;> simp[e]);clear h HX hi hd
 go_enter Tryz.func61,Tryz.ntmps61
 go_wp2_with fail
 go_ret
 exact⟨by rw[HD.out];rfl,by first|exact Below.refl _ _|go_grown⟩
theorem JH {D:Dom}(gs:List Fm)(A:Option Addr)(c n:Nat)(w:World)(hn:n=gs.length)(h:bZ w D gs A c)(hcl:∀b,D b->Cl w b)(hL:lH gs=true)(hg:GF w)(hk:GK w) :
  Calls Tryz.prog 18 #[.slice A n c] w λ e w'=>e = .returned (.int .i64 (sS gs:Int))/\Below w.heap.size w w':=by
 have hmf:∀(fn:Fn) (first cap:Array Value) (w:World),(Instr.makeFunc fn first cap).run Tryz.prog w = .ok (.func fn first cap) w := λ _ _ _ _=>rfl;have HR:=hid (h.mono (E := λ k=>D k/\k<w.heap.size) λ k hk hl=>⟨hk,hl⟩);have Md:=hid hcl;have HG:=hid hg;have HK:=hid hk;have HN:=hid hn;have HL:=hid hL;have PW:n<=8:=by rw[hn];exact(jw hL).1
 have HN8:=hid PW;have HZ:=hid (show sS gs=jy ((List.range n).map λ i=>decide ((gs.getD i default).val=1))by unfold sS;rw[LG,hn]);clear h hcl hg hk hn hL PW
 go_enter Tryz.func18,Tryz.ntmps18
 go_upto_region 1 with(fail)
 refine aC λ U hU=>?_;have HB:=hid (show Below w.heap.size w U by rw[hU];go_grown);have HE:=hid (show U.heap[w.heap.size]?=some (.cells #[.slice A n c] 22 (0,0))by rw[hU];exact at_new _ _ _ rfl);clear hU;have s0:=aj HE.out (i:=0) rfl;have s1:=lt_of_block HE.out;have HRU:=hid (HR.out.keep (Keeps.of_below HB.out λ _ h=>h.2));have HIL:=hid (FZ gs A c n U HN.out HRU.out (λ b hb=>(Md.out b hb.1).of_eq (HB.out.block b hb.2)) HL.out (HG.out.below HB.out HG.out.pos) (HK.out.below HB.out HK.out.pos));go_upto_region 3 with(go_at_call 59;(with_reducible refine HIL.out.mono ?_);rintro e W2 ⟨rfl,hb2⟩;have HB2:=hid hb2;clear hb2 s0 s1)
 have HE2:=hid ((HB2.out.block _ (lt_of_block HE.out)).trans HE.out);have s0:=aj HE2.out (i:=0) rfl;have s1:=lt_of_block HE2.out;have aT:=hid (au HB.out HB2.out)
 have HMO:=hid (AZ n HN8.out 61 #[.pointer (some ⟨w.heap.size,0,none⟩)] (λ i=>decide ((gs.getD i default).val=1)) W2 (enters_of Tryz.func61 (by kernel_rfl) rfl) λ i W hi hbw =>
  Tq gs A c n w.heap.size i W HN.out (HR.out.keep (Keeps.of_below (au aT.out hbw) λ _ h=>h.2)) (aj ((hbw.block _ (lt_of_block HE2.out)).trans HE2.out) (i:=0) rfl) hi)
 rw[<-HZ.out]at HMO;go_wp2_with (go_at_call 60;(with_reducible refine HMO.out.mono ?_);rintro e W3 ⟨rfl,hb3⟩;have HB3:=hid hb3;clear hb3)
 go_ret
 exact⟨rfl,au aT.out HB3.out⟩
end Go.Proofs.YtdpbgcmfeajigaaGreatDoor
namespace Go.Proofs.YtdpbgcmfeajigaaGreatDoor
def GX (md:Region.Mode)(ops:Array Oper)(last:Oper):Bool :=
 last.guard.isNone&&(last.after.all λ e=>decide (e.on<ops.size))&&(List.range ops.size).all λ i=>last.after.any λ e=>Region.binds md e&&(e.on==i || match ops[e.on]? with
  | some o=>o.after.any λ e'=>Region.binds md e'&&e'.on==i
  | none=>false)
section
variable {P:Program}{ops:Array Oper}{last:Oper}{Q:Exit->Act->World->Prop}{md:Region.Mode}
theorem GY (h:GX md ops last=true):last.guard=none/\(∀e∈last.after,e.on<ops.size)/\∀i,i<ops.size->∃e∈last.after,Region.binds md e=true/\(e.on=i\/∃o,ops[e.on]?=some o/\∃e'∈o.after,Region.binds md e'=true/\e'.on=i):=by
 unfold GX at h;rw[Bool.and_eq_true,Bool.and_eq_true,Option.isNone_iff_eq_none,Array.all_eq_true']at h;refine⟨h.1.1,λ e he=>of_decide_eq_true (h.1.2 e he),λ i hi=>?_⟩;have h1:=List.all_eq_true.1 h.2 i (List.mem_range.2 hi);obtain⟨e,he,hb⟩:=Array.any_eq_true'.1 h1;rw[Bool.and_eq_true,Bool.or_eq_true,beq_iff_eq]at hb;refine⟨e,he,hb.1,?_⟩
 rcases hb.2 with h2|h2
 ·exact .inl h2
 ·right
  split at h2
  ·rename_i o ho
   obtain⟨e',he',hb'⟩:=Array.any_eq_true'.1 h2;rw[Bool.and_eq_true,beq_iff_eq]at hb';exact⟨o,ho,e',he',hb'.1,hb'.2⟩
  ·cases h2
def zf (md:Region.Mode)(ops:Array Oper)(listed:Array Bool):Prop:=∀j o,ops[j]?=some o->listed.getD j false=true->∀e∈o.after,Region.binds md e=true->listed.getD e.on false=true
theorem Jf {l:Array Bool}{i j:Nat}(h:l.getD j false=true):(l.setIfInBounds i true).getD j false=true:=by
 by_cases e:i=j
 ·subst e
  have hj:i<l.size:=by
   by_cases e:i<l.size
   ·exact e
   ·simp[Array.getD,e]at h
  simp[Array.getD,hj]
 ·rw[_root_.Go.getD_set_ne false e];exact h
theorem zf.set {listed:Array Bool}(hd:zf md ops listed){i:Nat}(hi:i∈Region.ready md ops listed):zf md ops (listed.setIfInBounds i true):=by
 intro j o ho hj e he hb
 by_cases e1:i=j
 ·subst e1
  obtain⟨_,o',ho',hall⟩:=mem_ready.1 hi;rw[ho]at ho'
  injection ho' with ho'
  subst ho';exact Jf (hall e he hb)
 ·rw[_root_.Go.getD_set_ne false e1]at hj
  exact Jf (hd j o ho hj e he hb)
theorem DZ {listed:Array Bool}(hs:listed.size=ops.size)(hd:zf md ops listed)(hl:GX md ops last=true):ops.size∈Region.ready md (ops.push last) (listed.push false) ↔ ∀i,i<ops.size->listed.getD i false=true:=by
 obtain⟨_,h2,h3⟩:=GY hl;rw[mem_ready]
 constructor
 ·rintro⟨_,o,ho,hall⟩ i hi
  have:o=last:=by simpa using ho.symm
  subst this;obtain⟨e,he,hb,h4⟩:=h3 i hi;have:=hall e he hb;rw[oW]at this
  rcases h4 with rfl|⟨o',ho',e',he',hb',rfl⟩
  ·exact this
  ·exact hd _ _ ho' this e' he' hb'
 ·intro h
  refine⟨by rw[<-hs];simp[Array.getD],last,by simp,λ e he hb=>?_⟩;rw[oW];exact h _ (h2 e he)
theorem G7 {listed:Array Bool}{a:Act}{w:World}(hs:listed.size=ops.size)(hd:zf md ops listed)(hl:GX md ops last=true)(hall:∀i,i<ops.size->listed.getD i false=true)(h:kZ P last Q .normal a w)(fuel:Nat):wpAny P md (ops.push last) Q (fuel+1) (listed.push false) a w:=by
 have h1:=(DZ hs hd hl).2 hall
 have hon:∀i∈Region.ready md (ops.push last) (listed.push false),i=ops.size := λ i hi=>by
  have h2:=iQ hi;rw[Array.size_push]at h2
  by_cases e:i<ops.size
  ·have h3:=(mem_ready.1 ((oG hs e).1 hi)).1
   have h4:=hall i e;have h':i<listed.size:=by omega
   simp[Array.getD,h']at h3 h4;rw[h4]at h3;cases h3
  ·omega
 have hend:Region.ready md (ops.push last) ((listed.push false).setIfInBounds ops.size true) = []:=by
  rcases hr:Region.ready md (ops.push last) ((listed.push false).setIfInBounds ops.size true)with _|⟨j,l⟩
  ·rfl
  ·exfalso
   have hj:j∈Region.ready md (ops.push last) ((listed.push false).setIfInBounds ops.size true):=by rw[hr];exact List.mem_cons_self
   have h2:=iQ hj;have h3:=(mem_ready.1 hj).1;rw[Array.size_push]at h2
   by_cases e:j=ops.size
   ·subst e
    rw[<-hs]at h3;simp[Array.getD]at h3
   ·rw[_root_.Go.getD_set_ne true (λ e2=>e e2.symm),yc true (by omega)]at h3
    have h4:=hall j (by omega);have h':j<listed.size:=by omega
    simp[Array.getD,h']at h3 h4;rw[h4]at h3;cases h3
 refine⟨λ e=>(by rw[e]at h1;cases h1),λ i hi=>?_⟩;rw[hon i hi];unfold wpOp;simp only[Array.getElem?_push_size];rw[if_pos (pI (GY hl).1 _)];refine .inl (Oper.wp_mono (λ a' w' hq=>?_) h)
 cases fuel with
 | zero=>exact⟨hend,hq⟩
 | succ f=>exact⟨λ _=>hq,by rw[hend];intro j hj;cases hj⟩
theorem Eb (hb:yU ops=true)(hl:GX md ops last=true):∀(fuel:Nat) (listed:Array Bool) (a:Act) (w:World),listed.size=ops.size->zf md ops listed->wpAny P md ops (kZ P last Q) fuel listed a w->wpAny P md (ops.push last) Q (fuel+1) (listed.push false) a w
 | 0,listed,a,w,hs,hd,h=>G7 hs hd hl (nU hs hb h.1) h.2 0
 | fuel+1,listed,a,w,hs,hd,h=>by
  by_cases hr:Region.ready md ops listed = []
  ·exact G7 hs hd hl (nU hs hb hr) (h.1 hr) _
  ·have hnl:¬∀i,i<ops.size->listed.getD i false=true := λ hall=>hr (by
    rcases hr':Region.ready md ops listed with _|⟨j,l⟩
    ·rfl
    ·have hj:j∈Region.ready md ops listed:=by rw[hr'];exact List.mem_cons_self
     have h3:=(mem_ready.1 hj).1;have h4:=hall j (iQ hj);have h':j<listed.size:=by have:=iQ hj;omega
     simp[Array.getD,h']at h3 h4
     rw[h4]at h3;cases h3)
   have hlt:∀i∈Region.ready md (ops.push last) (listed.push false),i<ops.size := λ i hi=>by
    have h2:=iQ hi;rw[Array.size_push]at h2
    by_cases e:i=ops.size
    ·subst e;exact absurd ((DZ hs hd hl).1 hi) hnl
    ·omega
   refine⟨λ e=>?_,λ i hi=>?_⟩
   ·exfalso
    rcases hr':Region.ready md ops listed with _|⟨j,l⟩
    ·exact hr hr'
    ·have hj:j∈Region.ready md ops listed:=by rw[hr'];exact List.mem_cons_self
     have:=(oG (last:=last) hs (iQ hj)).2 hj;rw[e]at this;cases this
   ·have hi':=(oG hs (hlt i hi)).1 hi
    have h1:=h.2 i hi';have hilt:=hlt i hi;unfold wpOp at h1⊢;rw[Array.getElem?_push_lt hilt];rw[Array.getElem?_eq_getElem hilt]at h1;simp only at h1⊢;have hg:=(uQ hb (Array.getElem?_eq_getElem hilt)).1;rw[if_pos (pI hg _)]at h1⊢
    have hset:(listed.push false).setIfInBounds i true=(listed.setIfInBounds i true).push false:=by
     apply Array.ext
     ·simp
     ·intro j h1 h2
      simp only[Array.size_setIfInBounds,Array.size_push]at h1 h2;rw[Array.getElem_setIfInBounds (by simp;omega),Array.getElem_push,Array.getElem_push]
      by_cases hj:j<listed.size
      ·rw[dif_pos hj,dif_pos (by simpa using hj),Array.getElem_setIfInBounds (by simpa using hj)]
      ·rw[dif_neg hj,dif_neg (by simpa using hj),if_neg (by omega)]
    rcases h1 with h1|⟨h1,h2⟩
    ·refine .inl (Po (λ a' w' hk=>?_) h1)
     rw[hset];exact Eb hb hl fuel _ a' w' (by rw[Array.size_setIfInBounds];exact hs) (hd.set hi') hk
    ·exact .inr ⟨h1,h2⟩
theorem NC (n:Nat):zf md ops (Array.replicate n false):=by
 intro j o ho hj
 by_cases h:j<n
 ·simp[Array.getD,h]at hj
 ·simp[Array.getD,h]at hj
theorem Ew {id:Nat}{a:Act}{w:World}{all:Array Oper}(S:World->Prop)(hm:P.follows .mixedOrders=true)(hall:all=ops.push last)(hb:yU ops=true)(hl:GX .any ops last=true)(hS:S w.drew)
  (h:S w.drew->wpAnyH P .any ops (kZ P last Q) S ops.size (Array.replicate ops.size false) a w.drew):(Code.region id all true).wp P Q a w:=by
 subst hall;refine wp_region_any hm ?_;have h1:=Eb hb hl ops.size (Array.replicate ops.size false) a w.drew (by simp) (NC _) (wpAny_of_held _ _ _ _ (h hS));rw[Array.size_push];have e:Array.replicate (ops.size+1) false=(Array.replicate ops.size false).push false:=by rw[Array.replicate_succ]
 rw[e];exact h1
theorem jC {id:Nat}{a:Act}{w:World}{l:List Oper}{o:Oper}(S:World->Prop)(hm:P.follows .mixedOrders=true)(hb:yU (o :: l).dropLast.toArray=true)(hl:GX .any (o :: l).dropLast.toArray ((o :: l).getLast (List.cons_ne_nil _ _))=true)(hS:S w.drew)
  (h:S w.drew->wpAnyH P .any (o :: l).dropLast.toArray (kZ P ((o :: l).getLast (List.cons_ne_nil _ _)) Q) S (o :: l).dropLast.toArray.size (Array.replicate (o :: l).dropLast.toArray.size false) a w.drew):(Code.region id (o :: l).toArray true).wp P Q a w :=
 Ew S hm (by
  rw[List.push_toArray,List.dropLast_concat_getLast]) hb hl hS h
end
end Go.Proofs.YtdpbgcmfeajigaaGreatDoor
