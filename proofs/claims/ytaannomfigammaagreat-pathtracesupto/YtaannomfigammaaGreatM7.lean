/- Walks and facts of this seat's program over abstract states, printed by programs of mine; no conditions but those that each theorem names. -/
import Derived.Test.YtaannomfigammaaGreatM6
set_option linter.unusedSimpArgs false
set_option linter.unusedVariables false
set_option maxRecDepth 100000
set_option maxHeartbeats 4000000
namespace Go.Proofs.YtaannomfigammaaGreat
open Go Go.Eng
theorem Xp6 (a:V)(m:Ja1):Ctr Tryz.prog 46 [.agg (c3C a)] m (.agg (c3C a)) m:=by
 refine Ctr.en Tryz.func46 [.cell 2 54] 10 fun hwf Q hQ=>?_
 refine AW.c 2 @Ja4 Z0 ?_
 exact AW.ret (hQ _ _ _ (RetP.z hwf Z0))
theorem Xp5 (a:V)(m:Ja1):Ctr Tryz.prog 45 [.agg (c3C a)] m (.agg (c3C a)) m:=by
 refine Ctr.en Tryz.func45 [.cell 2 24] 10 fun hwf Q hQ=>?_
 refine AW.c 2 @Ja4 Z0 ?_
 exact AW.ret (hQ _ _ _ (RetP.z hwf Z0))
theorem snC_e (s:SN):snC s=(c3C s.li++(.int .i64 s.dep::(c3C s.no++(c3C s.po++(c3C s.ba++[.int .i64 s.sh,.int .i64 s.pt]))))):=rfl
theorem f17_c (t:SN)(m:Ja1):Ctr Tryz.prog 12 [.agg (snC t)] m (.agg (snC t)) m:=by
 refine Ctr.en Tryz.func12 [.cell 2 56] 22 fun hwf Q hQ=>?_
 have hv:snC t=[.int .i64 (t.li 0),.int .i64 (t.li 1),.int .i64 (t.li 2),.int .i64 (t.dep),.int .i64 (t.no 0),.int .i64 (t.no 1),.int .i64 (t.no 2),.int .i64 (t.po 0),.int .i64 (t.po 1),.int .i64 (t.po 2),.int .i64 (t.ba 0),.int .i64 (t.ba 1),.int .i64 (t.ba 2),.int .i64 (t.sh),.int .i64 (t.pt)]:=rfl
 rw [hv] at hQ
 have U1:=ca2 @snC_e @Ja4
 refine AW.c 1 U1 Z0 ?_
 refine AW.d [.val,.rd 0,.ext,.val,.rd 0,.val,.rd 0,.ext,.val,.rd 0,.ext,.val,.rd 0,.ext,.val,.rd 0,.val,.rd 0,.val,.wr] fol U1 (ca4 (Xp5 t.li) (Xp6 t.no) (Xp6 t.po) (Xp5 t.ba)) ?_
 exact AW.ret (hQ _ _ _ (RetP.z hwf Z0))
def SdB (s:SC):Bool:=decide (SmR s)&&((Jj6 s).1 ==0)
structure LtR (s:SC):Prop where
 sm:SmR s
 ck:(Jj6 s).1=0
 px:s.w*s.h<=16
 ns:s.sm<=2
 dp:s.dp<=3
 nx:(s.nx:Int)<=20
 fr:s.fr<=4
theorem Jz3 (s:SC)(R:RWs)(m:Ja1)(hR:ScR 138 143 285 146 150 m s R):Ctr Tryz.prog 32 [.agg (scC s R)] m (.one (.bool (SdB s))) m:=by
 refine Ctr.en Tryz.func32 [.tmp 2] 16 fun hwf Q hQ=>?_
 obtain ⟨zz,hzz⟩:∃ z,SdB s=z:=⟨_,rfl⟩
 rw [hzz] at hQ
 unfold SdB at hzz
 have U4:=ca4 @Jg8 @Jg0 @Jg7 @Ja4
 refine AW.c 2 U4 (Xk9 s R _ (hR.app _)) ?_
 refine AW.q fun K hK=>?_
 by_cases hs:SmR s
 ·have e1:decide (SmR s)=true:=decide_eq_true hs
  rw [e1,Bool.true_and] at hzz
  have U5:=ca3 U4 e1 hzz
  refine AW.g U5 (Xj8 s R _ (hR.app _)) ?_
  apply hK;clear hK
  exact AW.ret (hQ _ _ _ (RetP.z hwf U5))
 have e1:decide (SmR s)=false:=decide_eq_false hs
 rw [e1,Bool.false_and] at hzz
 subst hzz
 have U6:=ca2 U4 e1
 refine AW.g U6 (Xj8 s R _ (hR.app _)) ?_
 apply hK;clear hK
 exact AW.ret (hQ _ _ _ (RetP.z hwf U6))
theorem l17_f (s:SC)(R:RWs)(m:Ja1)(hR:ScR 138 143 285 146 150 m s R)(hL:¬LtR s):Ctr Tryz.prog 8 [.agg (scC s R)] m (.one (.bool false)) m:=by
 refine Ctr.en Tryz.func8 [.tmp 2] 39 fun hwf Q hQ=>?_
 have hwh:SdB s=true->IntKind.i64.wrap (s.w*s.h)=s.w*s.h:=fun q=>by
   have q1:(Jj6 s).1=0:=by unfold SdB at q;exact eq_of_beq (Bool.and_eq_true_iff.1 q).2
   have hg:=Qp1 (Jy3 q1).1
   have a1:=hg.w
   have a2:=hg.h
   have m1:0<=s.w*s.h:=Int.mul_nonneg (by omega) (by omega)
   have m2:s.w*s.h<=64*64:=Int.mul_le_mul (by omega) (by omega) (by omega) (by omega)
   exact wi (by omega)
 have hk:(¬(SdB s=true))\/(SdB s=true/\¬(s.w*s.h<=16))\/(SdB s=true/\s.w*s.h<=16/\¬(s.sm<=2))\/(SdB s=true/\s.w*s.h<=16/\s.sm<=2/\¬(s.dp<=3))\/(SdB s=true/\s.w*s.h<=16/\s.sm<=2/\s.dp<=3/\¬((s.nx:Int)<=20))\/(SdB s=true/\s.w*s.h<=16/\s.sm<=2/\s.dp<=3/\(s.nx:Int)<=20/\¬(s.fr<=4)):=by
   by_cases q0:SdB s=true
   · have q1:SmR s:=by unfold SdB at q0;exact of_decide_eq_true (Bool.and_eq_true_iff.1 q0).1
     have q2:(Jj6 s).1=0:=by unfold SdB at q0;exact eq_of_beq (Bool.and_eq_true_iff.1 q0).2
     by_cases q3:s.w*s.h<=16
     · by_cases q4:s.sm<=2
       · by_cases q5:s.dp<=3
         · by_cases q6:(s.nx:Int)<=20
           · by_cases q7:s.fr<=4
             · exact (hL ⟨q1,q2,q3,q4,q5,q6,q7⟩).elim
             exact .inr (.inr (.inr (.inr (.inr ⟨q0,q3,q4,q5,q6,q7⟩))))
           exact .inr (.inr (.inr (.inr (.inl ⟨q0,q3,q4,q5,q6⟩))))
         exact .inr (.inr (.inr (.inl ⟨q0,q3,q4,q5⟩)))
       exact .inr (.inr (.inl ⟨q0,q3,q4⟩))
     exact .inr (.inl ⟨q0,q3⟩)
   exact .inl q0
 have U7:=ca4 @Jg8 @Jg0 @Jg7 @Ja4
 refine AW.c 1 U7 Z0 ?_
 refine AW.q fun K hK=>?_
 rcases hk with g0|⟨g0,g1⟩|⟨g0,g1,g2⟩|⟨g0,g1,g2,g3⟩|⟨g0,g1,g2,g3,g4⟩|⟨g0,g1,g2,g3,g4,g5⟩
 ·have e0:SdB s=false:=by simpa using g0
  have U8:=ca2 U7 e0
  refine AW.g U8 (Jz3 s R _ (hR.app _)) ?_
  apply hK;clear hK
  exact AW.ret (hQ _ _ _ (RetP.z hwf U8))
 ·have w1:IntKind.i64.wrap (s.w*s.h)=s.w*s.h:=hwh g0
  have U9:=ca4 U7 g0 w1 g1
  refine AW.g U9 (Jz3 s R _ (hR.app _)) ?_
  apply hK;clear hK
  exact AW.ret (hQ _ _ _ (RetP.z hwf U9))
 ·have w1:IntKind.i64.wrap (s.w*s.h)=s.w*s.h:=hwh g0
  have U10:=ca4 U7 g0 w1 (ca2 g1 g2)
  refine AW.g U10 (Jz3 s R _ (hR.app _)) ?_
  apply hK;clear hK
  exact AW.ret (hQ _ _ _ (RetP.z hwf U10))
 ·have w1:IntKind.i64.wrap (s.w*s.h)=s.w*s.h:=hwh g0
  have U11:=ca4 U7 g0 w1 (ca3 g1 g2 g3)
  refine AW.g U11 (Jz3 s R _ (hR.app _)) ?_
  apply hK;clear hK
  exact AW.ret (hQ _ _ _ (RetP.z hwf U11))
 ·have w1:IntKind.i64.wrap (s.w*s.h)=s.w*s.h:=hwh g0
  have U12:=ca4 U7 g0 w1 (ca4 g1 g2 g3 g4)
  refine AW.g U12 (Jz3 s R _ (hR.app _)) ?_
  apply hK;clear hK
  exact AW.ret (hQ _ _ _ (RetP.z hwf U12))
 have w1:IntKind.i64.wrap (s.w*s.h)=s.w*s.h:=hwh g0
 have U13:=ca4 U7 g0 w1 (ca4 g1 g2 g3 (ca2 g4 g5))
 refine AW.g U13 (Jz3 s R _ (hR.app _)) ?_
 apply hK;clear hK
 exact AW.ret (hQ _ _ _ (RetP.z hwf U13))
theorem l17_t (s:SC)(R:RWs)(m:Ja1)(hR:ScR 138 143 285 146 150 m s R)(hL:LtR s):Ctr Tryz.prog 8 [.agg (scC s R)] m (.one (.bool true)) m:=by
 refine Ctr.en Tryz.func8 [.tmp 2] 39 fun hwf Q hQ=>?_
 have hwh:SdB s=true->IntKind.i64.wrap (s.w*s.h)=s.w*s.h:=fun q=>by
   have q1:(Jj6 s).1=0:=by unfold SdB at q;exact eq_of_beq (Bool.and_eq_true_iff.1 q).2
   have hg:=Qp1 (Jy3 q1).1
   have a1:=hg.w
   have a2:=hg.h
   have m1:0<=s.w*s.h:=Int.mul_nonneg (by omega) (by omega)
   have m2:s.w*s.h<=64*64:=Int.mul_le_mul (by omega) (by omega) (by omega) (by omega)
   exact wi (by omega)
 have g0:SdB s=true:=by unfold SdB;rw [decide_eq_true hL.sm,hL.ck];rfl
 have w1:=hwh g0
 have g1:=hL.px
 have g2:=hL.ns
 have g3:=hL.dp
 have g4:=hL.nx
 have g5:=hL.fr
 have U14:=ca4 @Jg8 @Jg0 @Jg7 (ca4 @Ja4 g0 w1 (ca4 g1 g2 g3 (ca2 g4 g5)))
 refine AW.c 2 U14 (Jz3 s R _ (hR.app _)) ?_
 exact AW.ret (hQ _ _ _ (RetP.z hwf U14))
theorem Xi2 {m:Ja1}{s:SC}{R:RWs}(hR:ScR 138 143 285 146 150 m s R):ScR 140 119 223 148 155 (m++toB s R m) s (toR s m.length):=by
 have hq:∀ k,(m++toB s R m)[m.length+k]?=(toB s R m)[k]?:=fun k=>by rw [List.getElem?_append_right (by omega)];congr 1;omega
 refine ⟨⟨.grow,5,?_⟩,⟨.grow,2,?_⟩,fun i hi=>⟨.grow,4,?_⟩,⟨.grow,4,?_⟩,⟨.grow,13,?_⟩,hR.np,hR.nt,hR.nj,hR.nx,hR.nk⟩
 ·show (m++toB s R m)[m.length+4]?=_;rw [hq];rfl
 ·show (m++toB s R m)[m.length+5]?=_;rw [hq];rfl
 ·show (m++toB s R m)[m.length+(3*i+9)]?=_
  rw [hq]
  show (tkB s R m.length s.nt)[3*i+1]?=_
  exact Qs8 s R m.length hi
 ·show (m++toB s R m)[m.length+6]?=_;rw [hq];rfl
 show (m++toB s R m)[m.length+7]?=_;rw [hq];rfl
theorem Vu6 (m:Ja1):Ctr Tryz.prog 34 [.agg [.int .i64 0,.int .i64 0,.int .i64 0]] m (.agg [.int .i64 0,.sl m.length 0 0 1]) (m++[⟨.grow,223,0,4,[.int .i64 0,.int .i64 0,.int .i64 0,.int .i64 0]⟩]):=by
 refine Ctr.en Tryz.func34 [.cell 2 119] 7 fun hwf Q hQ=>?_
 have hlt0:∀ k,¬m.length+k<m.length:=fun k=>by omega
 refine AW.c 2 Z0 Z0 ?_
 refine AW.ret ?_
 refine hQ _ _ _ ?_
 refine RetP.pick [(m.length+2,0)] (by first|exact Or.inr rfl|exact Or.inl rfl) ?_ ?_ ?_ hwf ?_
 · simp only [Jd3,Ja7,Jb5,AV.tv,push_cast,simprocAttr]
   simp [Ko8,Kt0,Ke0,Jv4,Ji2,hlt0]
 · simp only [Jp3,push_cast,simprocAttr]
 · simp [Jd0]
 exact Qe5 rfl
def bS:SC:=⟨1,1,1,1,1,0,0,fun _=>7,0,0,65536,0,1,0,0,fun _=>0,fun _ _=>0,fun _=>0,fun _=>0,fun _=>1,fun _ _=>0,fun _ _ _=>0,fun _=>0,fun _=>0,fun _=>0,fun _=>0,fun _=>0,fun _=>0,fun _=>0,fun _ _ _=>0,fun _=>0⟩
def bR (L:Nat):RWs:=⟨L+3,0,L+1,0,L+4,0,L+5,0,fun _=>L,fun _=>0⟩
theorem Xt1:(Jj6 bS).1=0:=by decide
theorem Vp5 (f:Int)(a b:VW)(x y sm:Int):(∀ j,(Jj3 bS f a b x y sm).li j=7)/\(Jj3 bS f a b x y sm).sh=-1:=by
 unfold Jj3
 have h:=@Ji6 (Jd2 bS f) (Qh8 bS f x y sm) 0 ⟨Kw3 ((Qh8 bS f x y sm).u 2),fun _=>65536,true,Ve1 (Xb6 a b ((Qh8 bS f x y sm).u 2)) x y ((Qh8 bS f x y sm).u 0) ((Qh8 bS f x y sm).u 1) ((Qh8 bS f x y sm).u 2)⟩ 1 _ (by decide) (Ki1 rfl)
 rw [show bS.dp.toNat=1 - 0 from rfl,h]
 refine ⟨fun j=>?_,rfl⟩
 show Jd6 0 (Jd8 65536 7)=7
 decide
theorem Xt0 (f:Int)(a b:VW)(x y:Int):(∀ j,(Xh3 bS f a b x y).li j=7)/\(Xh3 bS f a b x y).sh=-1:=by
 obtain ⟨h1,h2⟩:=Vp5 f a b x y 0
 refine ⟨fun j=>?_,h2⟩
 show (if (1:Int)<1 then (0:Int) else Jh1 ((Jj3 bS f a b x y 0).li j) (ofI 1))=7
 rw [h1];decide
theorem Xs9 {m:Ja1}(a:Blk)(L:Ja1):ScR 140 119 223 148 155 (m++(⟨.grow,223,0,4,[.int .i64 0,.int .i64 0,.int .i64 0,.int .i64 0]⟩::⟨.grow,119,0,2,[.int .i64 0,.sl m.length 0 0 1]⟩::a::⟨.grow,140,0,5,[]⟩::⟨.grow,148,0,4,[]⟩::⟨.grow,155,0,13,[]⟩::L)) bS (bR m.length):=by
 refine ⟨⟨.grow,5,?_⟩,⟨.grow,2,?_⟩,fun i hi=>⟨.grow,4,?_⟩,⟨.grow,4,?_⟩,⟨.grow,13,?_⟩,by decide,by decide,by decide,by decide,fun _ _=>(by show (1:Nat)<=1000000000000;decide)⟩
 ·show (m++_)[m.length+3]?=_;rw [Jf8];rfl
 ·show (m++_)[m.length+1]?=_;rw [Jf8];rfl
 ·show (m++_)[m.length]?=_;rw [Js4];rfl
 ·show (m++_)[m.length+4]?=_;rw [Jf8];rfl
 show (m++_)[m.length+5]?=_;rw [Jf8];rfl
theorem Qa5 (m:Ja1):Ctr Tryz.prog 9 [] m (.one (.bool true)) m:=by
 refine Ctr.en Tryz.func9 [.tmp 0] 32 fun hwf Q hQ=>?_
 obtain ⟨L9,p,E,hC,hS⟩:=Qg7 bS (bR m.length) 0 (m++(⟨.grow,223,0,4,[.int .i64 0,.int .i64 0,.int .i64 0,.int .i64 0]⟩::⟨.grow,119,0,2,[.int .i64 0,.sl m.length 0 0 1]⟩::(⟨.fix,52,0,0,scC bS (bR m.length)⟩:Blk)::⟨.grow,140,0,5,[]⟩::⟨.grow,148,0,4,[]⟩::⟨.grow,155,0,13,[]⟩::[])) (Xs9 (m:=m) (⟨.fix,52,0,0,scC bS (bR m.length)⟩:Blk) []) Xt1 (by decide) (by decide)
 obtain ⟨A,hA⟩:∃ A,Jn8 bS (0*65536)=A:=⟨_,rfl⟩
 obtain ⟨B,hB⟩:∃ B,Jn8 bS (0*65536+bS.sh)=B:=⟨_,rfl⟩
 rw [hA,hB] at hS
 obtain ⟨h1,h2⟩:=Xt0 0 A B 0 0
 obtain ⟨X,hX⟩:∃ X,Xh3 bS 0 A B 0 0=X:=⟨_,rfl⟩
 rw [hX] at h1 h2
 have hXc:snC X=[.int .i64 (X.li 0),.int .i64 (X.li 1),.int .i64 (X.li 2),.int .i64 (X.dep),.int .i64 (X.no 0),.int .i64 (X.no 1),.int .i64 (X.no 2),.int .i64 (X.po 0),.int .i64 (X.po 1),.int .i64 (X.po 2),.int .i64 (X.ba 0),.int .i64 (X.ba 1),.int .i64 (X.ba 2),.int .i64 (X.sh),.int .i64 (X.pt)]:=rfl
 rw [h1,h1,h1,h2] at hXc
 refine AW.c 2 @Ja4 (ca2 (Ku2 7) Vu6) ?_
 refine AW.nilCell 140 5 (m.length+2) 13 (by simp only [push_cast,simprocAttr];first|done|rfl) (by intro e;cases e) rfl ?_
 try simp only [push_cast,simprocAttr]
 refine AW.nilCell 148 4 (m.length+2) 15 (by simp only [push_cast,simprocAttr];first|done|rfl) (by intro e;cases e) rfl ?_
 try simp only [push_cast,simprocAttr]
 refine AW.nilCell 155 13 (m.length+2) 16 (by simp only [push_cast,simprocAttr];first|done|rfl) (by intro e;cases e) rfl ?_
 try simp only [push_cast,simprocAttr]
 have q_1:=Xa7 bS (bR m.length) 0 E A B p 0 0 _ hS (by decide) (by decide) (by decide) (by decide)
 rw [hX,hXc] at q_1
 simp only [List.append_assoc,List.cons_append,List.nil_append] at q_1
 refine AW.c 2 @Ja4 (ca2 hC q_1) ?_
 refine AW.d [.val,.val,.val,.val,.rd 0,.ext,.val,.val,.val,.val,.rd 1,.val,.val,.val] fol @Ja4 (Ku2 7) ?_
 exact AW.ret (hQ _ _ _ (RetP.z hwf @Ja4))
theorem Ky1 (s:SC)(R:RWs)(fm x y sm:Int)(m:Ja1)(hR:ScR 138 143 285 146 150 m s R)(hL:¬LtR s):Ctr Tryz.prog 3 [.agg (scC s R),.one (.int .i64 fm),.one (.int .i64 x),.one (.int .i64 y),.one (.int .i64 sm)] m (.one (.bool true)) m:=by
 refine Ctr.en Tryz.func3 [.tmp 10] 68 fun hwf Q hQ=>?_
 have U1:=ca4 @Jg8 @Jg0 @Jg7 @Ja4
 refine AW.c 1 U1 Z0 ?_
 refine AW.q fun K hK=>?_
 refine AW.c 1 U1 (l17_f s R _ (hR.app _) hL) ?_
 apply AW.y rfl
 refine AW.c 1 U1 Qa5 ?_
 exact AW.ret (hQ _ _ _ (RetP.z hwf U1))
theorem Ky0 (s:SC)(R:RWs)(fm x y sm:Int)(m:Ja1)(hR:ScR 138 143 285 146 150 m s R)(hL:LtR s):Ctr Tryz.prog 3 [.agg (scC s R),.one (.int .i64 fm),.one (.int .i64 x),.one (.int .i64 y),.one (.int .i64 sm)] m (.one (.bool true)) m:=by
 refine Ctr.en Tryz.func3 [.tmp 10] 68 fun hwf Q hQ=>?_
 obtain ⟨hG,hC0⟩:=Jy3 hL.ck
 have hg:=Qp1 hG
 have hgw:=hg.w
 have hgh:=hg.h
 have hgf:=hg.fr
 have hsh:=hg.sh
 have hT:=hG.tr
 have hJ:=hG.jo
 have hX:=hG.xj
 have hE:=hG.ey
 have hLK:=hG.lk
 obtain ⟨Vf,hVf⟩:∃ z,IntKind.u64.wrap fm=z:=⟨_,rfl⟩
 have hVbf:0<=Vf/\Vf<18446744073709551616:=by rw [<-hVf,IntKind.wrap_u64];omega
 obtain ⟨Ff,hFf⟩:∃ z,Vf%s.fr=z:=⟨_,rfl⟩
 have m1f:=Int.emod_nonneg Vf (show s.fr≠0 by omega)
 have m2f:=Int.emod_lt_of_pos Vf (show 0<s.fr by omega)
 rw [hFf] at m1f m2f
 have q4f:IntKind.u64.wrap s.fr=s.fr:=by rw [IntKind.wrap_u64];omega
 have q5f:Vf.tmod s.fr=Ff:=by rw [Int.tmod_eq_emod_of_nonneg (by omega),hFf]
 have q6f:IntKind.u64.wrap Ff=Ff:=by rw [IntKind.wrap_u64];omega
 have q7f:IntKind.i64.wrap Ff=Ff:=wi (by omega)
 have q8f:¬s.fr=0:=by omega
 have q9f:(s.fr ==0)=false:=by rw [beq_eq_false_iff_ne];omega
 obtain ⟨Vx,hVx⟩:∃ z,IntKind.u64.wrap x=z:=⟨_,rfl⟩
 have hVbx:0<=Vx/\Vx<18446744073709551616:=by rw [<-hVx,IntKind.wrap_u64];omega
 obtain ⟨Fx,hFx⟩:∃ z,Vx%s.w=z:=⟨_,rfl⟩
 have m1x:=Int.emod_nonneg Vx (show s.w≠0 by omega)
 have m2x:=Int.emod_lt_of_pos Vx (show 0<s.w by omega)
 rw [hFx] at m1x m2x
 have q4x:IntKind.u64.wrap s.w=s.w:=by rw [IntKind.wrap_u64];omega
 have q5x:Vx.tmod s.w=Fx:=by rw [Int.tmod_eq_emod_of_nonneg (by omega),hFx]
 have q6x:IntKind.u64.wrap Fx=Fx:=by rw [IntKind.wrap_u64];omega
 have q7x:IntKind.i64.wrap Fx=Fx:=wi (by omega)
 have q8x:¬s.w=0:=by omega
 have q9x:(s.w ==0)=false:=by rw [beq_eq_false_iff_ne];omega
 obtain ⟨Vy,hVy⟩:∃ z,IntKind.u64.wrap y=z:=⟨_,rfl⟩
 have hVby:0<=Vy/\Vy<18446744073709551616:=by rw [<-hVy,IntKind.wrap_u64];omega
 obtain ⟨Fy,hFy⟩:∃ z,Vy%s.h=z:=⟨_,rfl⟩
 have m1y:=Int.emod_nonneg Vy (show s.h≠0 by omega)
 have m2y:=Int.emod_lt_of_pos Vy (show 0<s.h by omega)
 rw [hFy] at m1y m2y
 have q4y:IntKind.u64.wrap s.h=s.h:=by rw [IntKind.wrap_u64];omega
 have q5y:Vy.tmod s.h=Fy:=by rw [Int.tmod_eq_emod_of_nonneg (by omega),hFy]
 have q6y:IntKind.u64.wrap Fy=Fy:=by rw [IntKind.wrap_u64];omega
 have q7y:IntKind.i64.wrap Fy=Fy:=wi (by omega)
 have q8y:¬s.h=0:=by omega
 have q9y:(s.h ==0)=false:=by rw [beq_eq_false_iff_ne];omega
 have U2:=ca4 @Jg8 @Jg0 @Jg7 (ca4 @Ja4 hVf q4f (ca4 q5f q6f q7f (ca4 q8f q9f hVx (ca4 q4x q5x q6x (ca4 q7x q8x q9x (ca4 hVy q4y q5y (ca4 q6y q7y q8y q9y)))))))
 refine AW.c 1 U2 Z0 ?_
 refine AW.q fun K hK=>?_
 refine AW.c 1 U2 (l17_t s R _ (hR.app _) hL) ?_
 apply AW.x rfl
 apply AW.z
 apply hK;clear hK
 refine AW.d [.val,.val,.val,.val,.rd 0,.val,.val,.val,.val,.val,.val,.val,.rd 0,.val,.val,.val,.val,.val,.val,.val,.rd 0,.val,.val,.val,.val,.val,.val] fol U2 Z0 ?_
 refine AW.anyMemG (fun m1=>(∃ L,m1=m++(⟨.fix,32,0,0,scC s R⟩::L))/\MWf m1.length m1) ⟨⟨[],by (try simp only [scC,hdC,tlC,c3C]);rfl⟩,MWf.app (hwf.grow (by simp)) (Ja0 (hR.bel _ (by simp)) Jb8)⟩ fun m1 hm1=>?_
 obtain ⟨⟨L1,hm1⟩,hwf1⟩:=hm1
 have hR1:ScR 138 143 285 146 150 m1 s R:=by rw [hm1];exact hR.app _
 have hb1:m1[m.length]?=some ⟨.fix,32,0,0,scC s R⟩:=by rw [hm1,Js4];rfl
 have ll1:=Jb4 hb1
 obtain ⟨m2,hm2⟩:∃ z,m1++toB s R m1=z:=⟨_,rfl⟩
 have hto:=to_c s R m1 hR1 hL.sm
 rw [hm2] at hto
 have hP2:=Xi2 hR1
 rw [hm2] at hP2
 obtain ⟨R2,hR2⟩:∃ z,toR s m1.length=z:=⟨_,rfl⟩
 rw [hR2] at hto hP2
 obtain ⟨L9,p,E,hrd,hS⟩:=Qg7 s R2 Ff m2 hP2 hL.ck m1f m2f
 obtain ⟨a,ha⟩:∃ a,Jn8 s (Ff*65536)=a:=⟨_,rfl⟩
 obtain ⟨b,hb⟩:∃ b,Jn8 s (Ff*65536+s.sh)=b:=⟨_,rfl⟩
 rw [ha,hb] at hS
 have hb2:(m2++L9)[m.length]?=some ⟨.fix,32,0,0,scC s R⟩:=by rw [<-hm2,List.append_assoc];exact Ja8 hb1 _
 have hR3:ScR 138 143 285 146 150 (m2++L9) s R:=by rw [<-hm2];exact (hR1.app _).app _
 obtain ⟨m3,hm3⟩:∃ z,m2++L9=z:=⟨_,rfl⟩
 rw [hm3] at hb2 hR3 hS hrd
 have hmx:∃ X,m3=m++X:=⟨_,by rw [<-hm3,<-hm2,hm1,List.append_assoc,List.append_assoc]⟩
 have ll3:=Jb4 hb2
 have bq:∀ z:Int,(z ==z)=true:=fun z=>beq_self_eq_true z
 have U3:=ca3 U2 hb1 (Ja8 hb1)
 refine AW.c 1 U3 (ca2 hto hrd) ?_
 obtain ⟨TT,hTT⟩:∃ z,Jj3 s Ff a b Fx Fy sm=z:=⟨_,rfl⟩
 have hTc:snC TT=[.int .i64 (TT.li 0),.int .i64 (TT.li 1),.int .i64 (TT.li 2),.int .i64 (TT.dep),.int .i64 (TT.no 0),.int .i64 (TT.no 1),.int .i64 (TT.no 2),.int .i64 (TT.po 0),.int .i64 (TT.po 1),.int .i64 (TT.po 2),.int .i64 (TT.ba 0),.int .i64 (TT.ba 1),.int .i64 (TT.ba 2),.int .i64 (TT.sh),.int .i64 (TT.pt)]:=rfl
 have q_1:=Qb4 s R2 Ff E a b p Fx Fy sm _ hS m1x m2x m1y m2y
 rw [hTT,hTc] at q_1
 have q_2:=f17_c TT
 rw [hTc] at q_2
 have q_3:=fun M hR=>Vh2 s R Ff Fx Fy sm M hR hg hT hJ hX hE hLK ⟨m1f,by omega⟩ m1x m2x m1y m2y
 rw [ha,hb,hTT,hTc] at q_3
 have U4:=ca4 U3 hb2 (Ja8 hb2) bq
 refine AW.d [.ext,.val,.val,.val,.val,.val,.val,.val,.val,.val,.ext,.ext,.rd 1,.val,.val,.val,.val,.ext,.val,.val,.val] fol U4 (ca4 Qa5 q_1 q_2 (q_3 _ hR3)) ?_
 refine AW.ret ?_
 refine hQ _ _ _ ?_
 obtain ⟨X9,hX9⟩:=hmx
 rw [hX9]
 refine RetP.drop (by first|exact Or.inr rfl|exact Or.inl rfl) ?_ ?_ hwf
 · (simp only [Jd3,Ja7,Jb5,AV.tv,push_cast,simprocAttr])<;>rfl
 rfl
end Go.Proofs.YtaannomfigammaaGreat
