/- Walks and facts of this seat's program over abstract states, printed by programs of mine; no conditions but those that each theorem names. -/
import Derived.Test.YtaannomfigammaaGreatM3
set_option linter.unusedSimpArgs false
set_option linter.unusedVariables false
set_option maxRecDepth 100000
set_option maxHeartbeats 4000000
namespace Go.Proofs.YtaannomfigammaaGreat
open Go Go.Eng
theorem Vh7 (s:SC)(R:RWs)(m:Ja1)(hR:ScR 140 119 223 148 155 m s R):Ctr Tryz.prog 35 [.agg (scC s R)] m (.tup [(false,[.int .i64 (Ji5 s).1]),(false,[.int .i64 (Ji5 s).2])]) m:=by
 refine Ctr.en Tryz.func35 [.tmp 2,.tmp 3] 71 fun hwf Q hQ=>?_
 obtain ⟨kp,ep,hp⟩:=hR.hp
 have lp:=Ja7 hp
 obtain ⟨kt,et,ht⟩:=hR.ht
 have lt:=Ja7 ht
 obtain ⟨kj,ej,hj⟩:=hR.hj
 have lj:=Ja7 hj
 obtain ⟨kx,ex,hx⟩:=hR.hx
 have lx:=Ja7 hx
 have np:=hR.np
 have nt:=hR.nt
 have nj:=hR.nj
 have nx:=hR.nx
 have pl:(Jb2 s.np (pC s)).length=s.np*5:=Ja6 (w:=5) (F:=pC s) (fun _=>rfl) _
 have tl:(Jb2 s.nt (tC s R)).length=s.nt*2:=Ja6 (w:=2) (F:=tC s R) (fun _=>rfl) _
 have jl:(Jb2 s.nj (jC s)).length=s.nj*4:=Ja6 (w:=4) (F:=jC s) (fun _=>rfl) _
 have xl:(Jb2 s.nx (xC s)).length=s.nx*13:=Ja6 (w:=13) (F:=xC s) (fun _=>rfl) _
 have hlt0:∀ k,¬m.length+k<m.length:=fun k=>by omega
 have hbox:∀ i,pC s i=[.int .i64 (s.pk i),.int .i64 (s.pc i 0),.int .i64 (s.pc i 1),.int .i64 (s.pc i 2),.int .i64 (s.pr i)]:=fun _=>rfl
 have hbt:∀ i,tC s R i=[.int .i64 (s.tw i),.sl (R.k i) (R.vk i) 0 (s.kn i)]:=fun _=>rfl
 have hbx:∀ i,xC s i=[.int .i64 (s.xj i),.int .i64 (s.xp i),.int .i64 (s.xk i),.int .i64 (s.xv i 0 0),.int .i64 (s.xv i 0 1),.int .i64 (s.xv i 0 2),.int .i64 (s.xv i 1 0),.int .i64 (s.xv i 1 1),.int .i64 (s.xv i 1 2),.int .i64 (s.xv i 2 0),.int .i64 (s.xv i 2 1),.int .i64 (s.xv i 2 2),.int .i64 (s.xr i)]:=fun _=>rfl
 have ill:=fun l=>Ks6 l
 have U1:=ca4 ill @Jg0 @Jf6 (ca2 @Jf9 @Ja5)
 refine AW.w 3 U1 (chd_c s) fun K J0=>?_
 refine AW.cond rfl (fun h10=>?_) (fun h10=>?_)
 ·have hA:¬HdR s:=by simpa using h10
  rw [show Ji5 s=(21,0) from by unfold Ji5;rw [if_pos hA]] at hQ
  exact AW.f U1 Tru
 have hA:¬¬HdR s:=by simpa using h10
 refine AW.w 5 U1 Tru fun K J0=>?_
 refine AW.r 5 ?_
 refine AW.w 8 U1 Tru fun K J1 K J2 K J3=>?_
 refine AW.cond rfl (fun h42=>?_) (fun h42=>?_)
 ·have q1:32<s.np:=by have:=of_decide_eq_true h42;omega
  rw [show Ji5 s=(22,32) from by unfold Ji5;rw [if_neg hA,if_pos q1]] at hQ
  exact AW.fd [[.val,.rd 0,.val,.rd 0,.val,.val]] U1 Tru
 have h1:¬32<s.np:=by have:=of_decide_eq_false h42;omega
 refine AW.w 2 Tru Tru ?_
 refine AW.sr 2 fun K J3=>?_
 simp only [push_cast,simprocAttr,U1]
 refine CThen.by (Vi3 s.np (fun i=>decide (PaR s i)) _ hR.np _ _ (fun k hk=>Yb6 s R m.length k _ (hR.app _) (by rw [Jn8];rfl) hk)) ?_
 simp only [push_cast,simprocAttr,U1]
 apply J3
 refine AW.cond rfl (fun h53=>?_) (fun h53=>?_)
 ·have hneg:=of_decide_eq_true h53
  have hlt:fbN (fun i=>decide (PaR s i)) s.np<s.np:=by
    rcases Nat.lt_or_ge (fbN (fun i=>decide (PaR s i)) s.np) s.np with h|h
    · exact h
    exfalso;unfold alV at hneg;rw [if_neg (by omega)] at hneg;omega
  have hal:alV (fun i=>decide (PaR s i)) s.np=((fbN (fun i=>decide (PaR s i)) s.np:Nat):Int):=by unfold alV;rw [if_pos hlt]
  rw [show Ji5 s=(22,alV (fun i=>decide (PaR s i)) s.np) from by unfold Ji5;rw [if_neg hA,if_neg h1,if_pos hlt,hal]] at hQ
  exact AW.f U1 Tru
 have hneg:=of_decide_eq_false h53
 have f1:¬fbN (fun i=>decide (PaR s i)) s.np<s.np:=fun h=>by
   unfold alV at hneg;rw [if_pos h] at hneg;omega
 refine AW.w 12 U1 Tru fun K J1 K J2 K J3=>?_
 refine AW.cond rfl (fun h42=>?_) (fun h42=>?_)
 ·have q2:32<s.nt:=by have:=of_decide_eq_true h42;omega
  rw [show Ji5 s=(23,32) from by unfold Ji5;rw [if_neg hA,if_neg h1,if_neg f1,if_pos q2]] at hQ
  exact AW.fd [[.val,.rd 0,.val,.rd 0,.val,.val]] U1 Tru
 have h2:¬32<s.nt:=by have:=of_decide_eq_false h42;omega
 refine AW.w 2 Tru Tru ?_
 refine AW.sr 2 fun K J3=>?_
 simp only [push_cast,simprocAttr,U1]
 refine CThen.by (Vi3 s.nt (fun i=>decide (TrS s i)) _ hR.nt _ _ (fun k hk=>Yb5 s R m.length k _ (hR.app _) (by rw [Jn8];rfl) hk)) ?_
 simp only [push_cast,simprocAttr,U1]
 apply J3
 refine AW.cond rfl (fun h53=>?_) (fun h53=>?_)
 ·have hneg:=of_decide_eq_true h53
  have hlt:fbN (fun i=>decide (TrS s i)) s.nt<s.nt:=by
    rcases Nat.lt_or_ge (fbN (fun i=>decide (TrS s i)) s.nt) s.nt with h|h
    · exact h
    exfalso;unfold alV at hneg;rw [if_neg (by omega)] at hneg;omega
  have hal:alV (fun i=>decide (TrS s i)) s.nt=((fbN (fun i=>decide (TrS s i)) s.nt:Nat):Int):=by unfold alV;rw [if_pos hlt]
  rw [show Ji5 s=(23,alV (fun i=>decide (TrS s i)) s.nt) from by unfold Ji5;rw [if_neg hA,if_neg h1,if_neg f1,if_neg h2,if_pos hlt,hal]] at hQ
  exact AW.f U1 Tru
 have hneg:=of_decide_eq_false h53
 have f2:¬fbN (fun i=>decide (TrS s i)) s.nt<s.nt:=fun h=>by
   unfold alV at hneg;rw [if_pos h] at hneg;omega
 refine AW.w 12 U1 Tru fun K J1 K J2 K J3=>?_
 refine AW.cond rfl (fun h42=>?_) (fun h42=>?_)
 ·have q3:32<s.nj:=by have:=of_decide_eq_true h42;omega
  rw [show Ji5 s=(24,32) from by unfold Ji5;rw [if_neg hA,if_neg h1,if_neg f1,if_neg h2,if_neg f2,if_pos q3]] at hQ
  exact AW.fd [[.val,.rd 0,.val,.rd 0,.val,.val]] U1 Tru
 have h3:¬32<s.nj:=by have:=of_decide_eq_false h42;omega
 refine AW.w 2 Tru Tru ?_
 refine AW.sr 2 fun K J3=>?_
 simp only [push_cast,simprocAttr,U1]
 refine CThen.by (Yd6 s.nj (fun i=>decide (JoR s i)) _ hR.nj _ _ (fun k hk=>cjo_c s R k _ hR.nt (by obtain ⟨k,e,h⟩:=hR.hj;exact ⟨k,e,Ja4 h _⟩) hk hR.nj)) ?_
 simp only [push_cast,simprocAttr,U1]
 apply J3
 refine AW.cond rfl (fun h53=>?_) (fun h53=>?_)
 ·have hneg:=of_decide_eq_true h53
  have hlt:fbN (fun i=>decide (JoR s i)) s.nj<s.nj:=by
    rcases Nat.lt_or_ge (fbN (fun i=>decide (JoR s i)) s.nj) s.nj with h|h
    · exact h
    exfalso;unfold alV at hneg;rw [if_neg (by omega)] at hneg;omega
  have hal:alV (fun i=>decide (JoR s i)) s.nj=((fbN (fun i=>decide (JoR s i)) s.nj:Nat):Int):=by unfold alV;rw [if_pos hlt]
  rw [show Ji5 s=(24,alV (fun i=>decide (JoR s i)) s.nj) from by unfold Ji5;rw [if_neg hA,if_neg h1,if_neg f1,if_neg h2,if_neg f2,if_neg h3,if_pos hlt,hal]] at hQ
  exact AW.f U1 Tru
 have hneg:=of_decide_eq_false h53
 have f3:¬fbN (fun i=>decide (JoR s i)) s.nj<s.nj:=fun h=>by
   unfold alV at hneg;rw [if_pos h] at hneg;omega
 refine AW.w 12 U1 Tru fun K J1 K J2 K J3=>?_
 refine AW.cond rfl (fun h42=>?_) (fun h42=>?_)
 ·have q4:128<s.nx:=by have:=of_decide_eq_true h42;omega
  rw [show Ji5 s=(25,128) from by unfold Ji5;rw [if_neg hA,if_neg h1,if_neg f1,if_neg h2,if_neg f2,if_neg h3,if_neg f3,if_pos q4]] at hQ
  exact AW.fd [[.val,.rd 0,.val,.rd 0,.val,.val]] U1 Tru
 have h4:¬128<s.nx:=by have:=of_decide_eq_false h42;omega
 refine AW.w 2 Tru Tru ?_
 refine AW.sr 2 fun K J3=>?_
 simp only [push_cast,simprocAttr,U1]
 refine CThen.by (Vi3 s.nx (fun i=>decide (ShR s i)) _ hR.nx _ _ (fun k hk=>Yb4 s R m.length k _ (hR.app _) (by rw [Jn8];rfl) hk)) ?_
 simp only [push_cast,simprocAttr,U1]
 apply J3
 refine AW.cond rfl (fun h53=>?_) (fun h53=>?_)
 ·have hneg:=of_decide_eq_true h53
  have hlt:fbN (fun i=>decide (ShR s i)) s.nx<s.nx:=by
    rcases Nat.lt_or_ge (fbN (fun i=>decide (ShR s i)) s.nx) s.nx with h|h
    · exact h
    exfalso;unfold alV at hneg;rw [if_neg (by omega)] at hneg;omega
  have hal:alV (fun i=>decide (ShR s i)) s.nx=((fbN (fun i=>decide (ShR s i)) s.nx:Nat):Int):=by unfold alV;rw [if_pos hlt]
  rw [show Ji5 s=(25,alV (fun i=>decide (ShR s i)) s.nx) from by unfold Ji5;rw [if_neg hA,if_neg h1,if_neg f1,if_neg h2,if_neg f2,if_neg h3,if_neg f3,if_neg h4,if_pos hlt,hal]] at hQ
  exact AW.f U1 Tru
 have hneg:=of_decide_eq_false h53
 have f4:¬fbN (fun i=>decide (ShR s i)) s.nx<s.nx:=fun h=>by
   unfold alV at hneg;rw [if_pos h] at hneg;omega
 refine AW.w 13 U1 (cle_c s R _ hR.nt) fun K J1 K J2 K J0=>?_
 refine AW.cond rfl (fun h58=>?_) (fun h58=>?_)
 ·have hL:¬LeR s:=by simpa using h58
  rw [show Ji5 s=(26,0) from by unfold Ji5;rw [if_neg hA,if_neg h1,if_neg f1,if_neg h2,if_neg f2,if_neg h3,if_neg f3,if_neg h4,if_neg f4,if_pos hL]] at hQ
  exact AW.f U1 Tru
 have hL:¬¬LeR s:=by simpa using h58
 refine AW.c 1 U1 (Vv9 s R _ (hR.app _)) ?_
 refine AW.cond rfl (fun h62=>?_) (fun h62=>?_)
 ·have hM:16<(Jm3 (glB s) s.nx).length:=by have:=of_decide_eq_true h62;omega
  have g16:=Xa2 _ 16 hM
  have c16:(16:Int)<((Jm3 (glB s) s.nx).length:Int):=by omega
  rw [show Ji5 s=(27,(Jm3 (glB s) s.nx).getD 16 0) from by unfold Ji5;rw [if_neg hA,if_neg h1,if_neg f1,if_neg h2,if_neg f2,if_neg h3,if_neg f3,if_neg h4,if_neg f4,if_neg hL,if_pos hM]] at hQ
  have U2:=ca4 U1 g16 c16 hM
  exact AW.fd [[.rd 0,.ext,.val,.rd 1,.val,.val]] U2 (Vv9 s R _ (hR.app _))
 have hM:¬16<(Jm3 (glB s) s.nx).length:=by have:=of_decide_eq_false h62;omega
 rw [show Ji5 s=(0,0) from by unfold Ji5;rw [if_neg hA,if_neg h1,if_neg f1,if_neg h2,if_neg f2,if_neg h3,if_neg f3,if_neg h4,if_neg f4,if_neg hL,if_neg hM]] at hQ
 exact AW.f U1 Tru
theorem Qi5 (f:Nat->Int)(m:Ja1):Ctr Tryz.prog 44 [.agg (c3C f)] m (.agg (c3C f)) m:=by
 exact Ctr.f Tryz.func44 [.cell 2 59] 10 @Ja5 Tru
theorem Vx8 (f:Nat->Int)(m:Ja1):Ctr Tryz.prog 42 [.agg (c3C f)] m (.agg (c3C f)) m:=by
 exact Ctr.f Tryz.func42 [.cell 2 42] 10 @Ja5 Tru
theorem Vs5 (T:Nat->Int)(V:Nat->Nat->Int)(n:Nat):(Jb2 n (keC T V)).all CV.isVal=true:=Jb8 _ (fun _=>rfl) n
theorem Kn6 (T:Nat->Int)(V:Nat->Nat->Int)(L n:Nat):(Jb2 n (keC T V)).all (CV.below L)=true:=Jb8 _ (fun _=>rfl) n
theorem Xy7 (r v n:Nat)(T:Nat->Int)(V:Nat->Nat->Int)(m:Ja1)(hr:∃ k e,m[r]?=some ⟨k,285,v,e,Jb2 n (keC T V)⟩)(hn:n<=1000000000000):Ctr Tryz.prog 111 [.one (.sl r v 0 n)] m (.one (.sl m.length 0 0 n)) (m++[⟨.grow,223,0,4,Jb2 n (keC T V)⟩]):=by
 refine Ctr.en Tryz.func111 [.tmp 2] 23 fun hwf Q hQ=>?_
 obtain ⟨kk,ek,hr⟩:=hr
 have lr:=Ja7 hr
 have gl:(Jb2 n (keC T V)).length=n*4:=Ja6 (w:=4) (F:=keC T V) (fun _=>rfl) n
 have hlt0:∀ k,¬m.length+k<m.length:=fun k=>by omega
 have U1:=ca4 hr (Ja4 hr) gl @Vs5
 refine AW.w 5 U1 Tru fun K J0=>?_
 refine AW.nilTm 223 4 3 rfl ?_
 try simp only [push_cast,simprocAttr,U1]
 refine AW.loopK [6,7] (fun i=>i<=n) (fun i=>[(3,.one (.sl m.length i 0 i)),(8,.one (.int .i64 (i:Int)))]) (fun i=>[(m.length,⟨.grow,223,i,4,Jb2 i (keC T V)⟩)]) (fun i=>n - i) 0 (by omega) ?_ ?_ fun i hi2=>?_
 · first|rfl|(simp only [KS,simprocAttr,Jb2,Int.natCast_zero]<;>repeat' (first|rfl|apply And.intro))
 · simp only [Ja2,push_cast,simprocAttr,Jb2]<;>rfl
 try simp only [Ja9,Ja2,push_cast,simprocAttr,U1]
 refine AW.w 2 U1 Tru fun K J1=>?_
 refine AW.cond rfl (fun h9=>?_) (fun h9=>?_)
 ·have hlt:i<n:=by have:=of_decide_eq_true h9;omega
  have c1:(0:Int)<=(i:Int):=by omega
  have c2:(i:Int)<(n:Int):=by omega
  have c3:i*4+4<=n*4:=by omega
  have ga:=Jb7 (w:=4) (F:=keC T V) (fun _=>rfl) hlt
  have gk:=Js0 T V i
  have gv:c3C (V i)=[.int .i64 (V i 0),.int .i64 (V i 1),.int .i64 (V i 2)]:=rfl
  have gli:(Jb2 i (keC T V)).length=i*4:=Ja6 (w:=4) (F:=keC T V) (fun _=>rfl) i
  have q1:i<=140737488355327:=by omega
  have q2:(i+1)*32<=140737488355328:=by omega
  have hap:Jb2 i (keC T V)++[.int .i64 (T i),.int .i64 (V i 0),.int .i64 (V i 1),.int .i64 (V i 2)]=Jb2 (i+1) (keC T V):=rfl
  refine AW.w 4 Tru Tru fun K J1=>?_
  have U2:=ca4 U1 c1 c2 (ca4 c3 ga gk (ca4 gli q1 q2 hlt))
  refine AW.c 1 U2 Tru ?_
  have q_1:=fun M=>Qi5 (V i) M
  rw [gv] at q_1
  refine AW.wd [[.val,.val,.rd 0,.val,.rd 0,.ext,.val,.ext,.wr,.val]] 3 U2 q_1 ?_
  have hwi:IntKind.i64.wrap ((i:Int)+1)=(i:Int)+1:=wi (by omega)
  refine ⟨i+1,by omega,by omega,?_⟩
  try simp only [Ja9,Ja2,push_cast,simprocAttr,U2,hwi,hap]
  exact Weak.to (extra:=[_,_]) (by simp only [KS,simprocAttr,hwi,hap]) (by first|rfl|(simp only [List.append_assoc,List.cons_append,List.nil_append];rfl)) (by first|rfl|(simp [AV.below,CV.below];done)|(simp [AV.below,CV.below];omega)) (by first|exact hwf|exact MWf.app (hwf.grow (by simp)) (Ja0 (Kn6 _ _ _ _) Jb3))
 have hin:i=n:=by have:=of_decide_eq_false h9;omega
 rw [hin]
 refine AW.w 4 U1 Tru ?_
 refine hQ _ _ _ ?_
 refine RetP.pick [(m.length,n)] (by first|exact Or.inr rfl|exact Or.inl rfl) ?_ ?_ ?_ hwf ?_
 · simp only [Je0,Jb1,Jb9,AV.tv,push_cast,simprocAttr]
   simp [Kg3,Km1,Ka4,Jt4,Jh0,hlt0]
 · simp only [Jm8,push_cast,simprocAttr]
 · simp [Jc2]
 exact Ja0 (Kn6 _ _ _ _) Jb3
theorem Xt5 (w:Int)(r v n:Nat)(T:Nat->Int)(V:Nat->Nat->Int)(m:Ja1)(hr:∃ k e,m[r]?=some ⟨k,285,v,e,Jb2 n (keC T V)⟩)(hn:n<=1000000000000):Ctr Tryz.prog 43 [.agg [.int .i64 w,.sl r v 0 n]] m (.agg [.int .i64 w,.sl m.length 0 0 n]) (m++[⟨.grow,223,0,4,Jb2 n (keC T V)⟩]):=by
 refine Ctr.en Tryz.func43 [.cell 2 119] 9 fun hwf Q hQ=>?_
 obtain ⟨kk,ek,hr⟩:=hr
 have lr:=Ja7 hr
 have gl:(Jb2 n (keC T V)).length=n*4:=Ja6 (w:=4) (F:=keC T V) (fun _=>rfl) n
 have hlt0:∀ k,¬m.length+k<m.length:=fun k=>by omega
 have U3:=ca3 hr (Ja4 hr) gl
 refine AW.wd [[.val,.rd 0,.val,.rd 0,.ext,.val,.wr]] 3 U3 (Xy7 r v n T V _ ⟨kk,ek,Ja4 hr _⟩ hn) ?_
 refine hQ _ _ _ ?_
 refine RetP.pick [(m.length+2,0)] (by first|exact Or.inr rfl|exact Or.inl rfl) ?_ ?_ ?_ hwf ?_
 · simp only [Je0,Jb1,Jb9,AV.tv,push_cast,simprocAttr]
   simp [Kg3,Km1,Ka4,Jt4,Jh0,hlt0]
 · simp only [Jm8,push_cast,simprocAttr]
 · simp [Jc2]
 exact Ja0 (Kn6 _ _ _ _) Jb3
def SmR (s:SC):Prop:=(∀ i,i<s.nt->s.kn i<=40)/\s.np<=60/\s.nt<=60/\s.nj<=60/\s.nx<=200
instance (s:SC):Decidable (SmR s):=by unfold SmR;exact inferInstance
theorem Xv1 (s:SC)(R:RWs)(m:Ja1)(hR:ScR 138 143 285 146 150 m s R):Ctr Tryz.prog 17 [.agg (scC s R)] m (.one (.bool (decide (SmR s)))) m:=by
 refine Ctr.en Tryz.func17 [.tmp 2] 39 fun hwf Q hQ=>?_
 obtain ⟨kp,ep,hp⟩:=hR.hp
 have lp:=Ja7 hp
 obtain ⟨kt,et,ht⟩:=hR.ht
 have lt:=Ja7 ht
 obtain ⟨kj,ej,hj⟩:=hR.hj
 have lj:=Ja7 hj
 obtain ⟨kx,ex,hx⟩:=hR.hx
 have lx:=Ja7 hx
 have np:=hR.np
 have nt:=hR.nt
 have nj:=hR.nj
 have nx:=hR.nx
 have pl:(Jb2 s.np (pC s)).length=s.np*5:=Ja6 (w:=5) (F:=pC s) (fun _=>rfl) _
 have tl:(Jb2 s.nt (tC s R)).length=s.nt*2:=Ja6 (w:=2) (F:=tC s R) (fun _=>rfl) _
 have jl:(Jb2 s.nj (jC s)).length=s.nj*4:=Ja6 (w:=4) (F:=jC s) (fun _=>rfl) _
 have xl:(Jb2 s.nx (xC s)).length=s.nx*13:=Ja6 (w:=13) (F:=xC s) (fun _=>rfl) _
 have hlt0:∀ k,¬m.length+k<m.length:=fun k=>by omega
 have hbox:∀ i,pC s i=[.int .i64 (s.pk i),.int .i64 (s.pc i 0),.int .i64 (s.pc i 1),.int .i64 (s.pc i 2),.int .i64 (s.pr i)]:=fun _=>rfl
 have hbt:∀ i,tC s R i=[.int .i64 (s.tw i),.sl (R.k i) (R.vk i) 0 (s.kn i)]:=fun _=>rfl
 have hbx:∀ i,xC s i=[.int .i64 (s.xj i),.int .i64 (s.xp i),.int .i64 (s.xk i),.int .i64 (s.xv i 0 0),.int .i64 (s.xv i 0 1),.int .i64 (s.xv i 0 2),.int .i64 (s.xv i 1 0),.int .i64 (s.xv i 1 1),.int .i64 (s.xv i 1 2),.int .i64 (s.xv i 2 0),.int .i64 (s.xv i 2 1),.int .i64 (s.xv i 2 2),.int .i64 (s.xr i)]:=fun _=>rfl
 have ill:=fun l=>Ks6 l
 have U4:=ca4 hp (Ja4 hp) ht (ca4 (Ja4 ht) hj (Ja4 hj) (ca4 hx (Ja4 hx) pl (ca4 tl jl xl (ca4 ill @Jg0 @Jf6 (ca2 @Jf9 @Ja5)))))
 refine AW.w 4 U4 Tru fun K J0=>?_
 refine AW.loopK [1,6,7] (fun i=>i<=s.nt/\∀ k,k<i->s.kn k<=40) (fun i=>[(8,.one (.int .i64 (i:Int)))]) (fun i=>[]) (fun i=>s.nt - i) 0 ⟨by omega,fun k hk=>by omega⟩ ?_ ?_ fun i hi2=>?_
 · first|rfl|(simp only [KS,simprocAttr,Int.natCast_zero]<;>repeat' (first|rfl|apply And.intro))
 · first|rfl|(simp only [Ja2,push_cast,simprocAttr,U4,Int.natCast_zero]<;>rfl)
 obtain ⟨hin,hok0⟩:=hi2
 have hok:=hok0
 try simp only [Ja9,Ja2,push_cast,simprocAttr,U4]
 refine AW.w 2 U4 Tru fun K J1=>?_
 refine AW.cond rfl (fun h9=>?_) (fun h9=>?_)
 ·have hlt:i<s.nt:=by have:=of_decide_eq_true h9;omega
  have c1:(0:Int)<=(i:Int):=by omega
  have c2:(i:Int)<(s.nt:Int):=by omega
  have c3:i*2+2<=s.nt*2:=by omega
  have ga:=Jb7 (w:=2) (F:=tC s R) (fun _=>rfl) hlt
  refine AW.w 4 Tru Tru fun K J1=>?_
  have U5:=ca4 U4 c1 c2 (ca3 c3 ga hbt)
  refine AW.c 2 U5 Tru ?_
  refine AW.cond rfl (fun h15=>?_) (fun h15=>?_)
  ·have h40:=of_decide_eq_true h15
   rw [show decide (SmR s)=false from decide_eq_false fun h=>by have:=h.1 i hlt;omega] at hQ
   exact AW.f U5 Tru
  have hnow:s.kn i<=40:=by have:=of_decide_eq_false h15;omega
  refine AW.w 3 U5 Tru ?_
  have hwi:IntKind.i64.wrap ((i:Int)+1)=(i:Int)+1:=wi (by omega)
  refine ⟨i+1,⟨by omega,fun k hk=>by
    rcases Nat.lt_or_ge k i with h|h
    · exact hok k h
    obtain rfl:k=i:=by omega
    exact hnow⟩,by omega,?_⟩
  try simp only [Ja9,Ja2,push_cast,simprocAttr,U5,hwi]
  first
   | exact Weak.same (by simp only [KS,simprocAttr,hwi]) (by first|rfl|simp only [KS,simprocAttr,hwi])
   | exact Weak.to (extra:=[_]) (by simp only [KS,simprocAttr,hwi]) (by first|rfl|(simp only [List.append_assoc,List.cons_append,List.nil_append];rfl)) (by first|rfl|(simp [AV.below,CV.below];done)|(simp [AV.below,CV.below];omega)) (by
      first|exact hwf|refine MWf.app (hwf.grow (by simp)) ?_
      repeat (first|exact Jb3|(refine Ja0 ?_ ?_;· first|rfl|(simp [CV.below];done)|(simp [CV.below];omega))))
 have hie:i=s.nt:=by have:=of_decide_eq_false h9;omega
 rw [hie] at hok
 refine AW.w 2 Tru Tru ?_
 refine AW.q fun K J0=>?_
 have hk:(¬(s.np:Int)<=60)\/((s.np:Int)<=60/\¬(s.nt:Int)<=60)\/((s.np:Int)<=60/\(s.nt:Int)<=60/\¬(s.nj:Int)<=60)\/((s.np:Int)<=60/\(s.nt:Int)<=60/\(s.nj:Int)<=60/\¬(s.nx:Int)<=200)\/((s.np:Int)<=60/\(s.nt:Int)<=60/\(s.nj:Int)<=60/\(s.nx:Int)<=200):=by omega
 rcases hk with g1|⟨g1,g2⟩|⟨g1,g2,g3⟩|⟨g1,g2,g3,g4⟩|⟨g1,g2,g3,g4⟩
 ·rw [show decide (SmR s)=false from decide_eq_false fun h=>by obtain ⟨_,z1,z2,z3,z4⟩:=h;omega] at hQ
  have U6:=ca2 U4 g1
  exact AW.f U6 Tru
 ·rw [show decide (SmR s)=false from decide_eq_false fun h=>by obtain ⟨_,z1,z2,z3,z4⟩:=h;omega] at hQ
  have U7:=ca3 U4 g1 g2
  exact AW.f U7 Tru
 ·rw [show decide (SmR s)=false from decide_eq_false fun h=>by obtain ⟨_,z1,z2,z3,z4⟩:=h;omega] at hQ
  have U8:=ca4 U4 g1 g2 g3
  exact AW.f U8 Tru
 ·rw [show decide (SmR s)=false from decide_eq_false fun h=>by obtain ⟨_,z1,z2,z3,z4⟩:=h;omega] at hQ
  have U9:=ca4 U4 g1 g2 (ca2 g3 g4)
  exact AW.f U9 Tru
 rw [show decide (SmR s)=true from decide_eq_true ⟨hok,by omega,by omega,by omega,by omega⟩] at hQ
 have U10:=ca4 U4 g1 g2 (ca2 g3 g4)
 exact AW.f U10 Tru
def toR (s:SC)(L:Nat):RWs:=⟨L+4,s.np,L+5,s.nt,L+6,s.nj,L+7,s.nx,fun i=>L+(3*i+9),fun _=>0⟩
def tkB (s:SC)(R:RWs)(L:Nat):Nat->Ja1
 | 0=>[]
 | i+1=>tkB s R L i++[⟨.fix,143,0,0,tC s R i⟩,⟨.grow,223,0,4,Jb2 (s.kn i) (kC s i)⟩,⟨.grow,119,0,2,tC s (toR s L) i⟩]
theorem Jm6 (s:SC)(R:RWs)(L:Nat):∀ i,(tkB s R L i).length=3*i
 | 0=>rfl
 | i+1=>by simp only [tkB,List.length_append,Jm6 s R L i,List.length_cons,List.length_nil];omega
theorem Qd0 {F:Nat->List CV}(p:CV->Bool):∀ n,(∀ k,k<n->(F k).all p=true)->(Jb2 n F).all p=true
 | 0,_=>rfl
 | n+1,h=>by
  show (Jb2 n F++F n).all p=true
  rw [List.all_append,Qd0 p n fun k hk=>h k (by omega),h n (by omega)];rfl
theorem Vx9 {m:Ja1}{s:SC}{R:RWs}(hR:ScR 138 143 285 146 150 m s R)(L:Nat):∀ n,n<=s.nt->m.length+8+3*n<=L->MWf L (tkB s R m.length n)
 | 0,_,_=>Jb3
 | n+1,h1,h2=>MWf.app (Vx9 hR L n (by omega) (by omega)) (by
  obtain ⟨k,e,hk⟩:=hR.hk n (by omega)
  have:=Ja7 hk
  refine Ja0 ?_ (Ja0 ?_ (Ja0 ?_ Jb3))
  ·simp [tC,CV.below];omega
  ·exact Jb8 _ (fun _=>rfl) _
  simp [tC,toR,CV.below];omega)
theorem Xt6 (s:SC)(R:RWs)(M n k:Nat)(L:Ja1):(tkB s R M n++L)[3*n+k]?=L[k]?:=by
 rw [List.getElem?_append_right (by rw [Jm6];omega),Jm6];congr 1;omega
theorem tkB_s (s:SC)(R:RWs)(M n:Nat)(b c:Blk)(L:Ja1):(tkB s R M n++b::L).set (3*n) c=tkB s R M n++c::L:=by
 rw [List.set_append_right _ _ (by rw [Jm6];omega),Jm6,Nat.sub_self];rfl
theorem RetP.keep {P:Program}{tm:Tm}{mem:Ja1}{L:Nat}{rs:List ResultVar}{ret:AV}{ex:Exit}(hex:ex=.normal\/ex=.ret)(hres:Je0 P rs tm mem=some ret):RetP P rs L ret mem ex tm mem :=
 ⟨hex,ret,hres,fun ρ v w hv hm=>⟨ρ,hv,hm,fun _ _ _ _ h=>h⟩⟩
theorem Qx4 (s:SC)(R:RWs)(L:Nat):∀ {n i:Nat},i<n->(tkB s R L n)[3*i+1]?=some ⟨.grow,223,0,4,Jb2 (s.kn i) (kC s i)⟩
 | n+1,i,h=>by
  unfold tkB
  rcases Nat.lt_or_ge i n with q|q
  ·rw [List.getElem?_append_left (by rw [Jm6];omega)];exact Qx4 s R L q
  obtain rfl:i=n:=by omega
  rw [List.getElem?_append_right (by rw [Jm6];omega),Jm6]
  rw [show 3*i+1 - 3*i=1 by omega];rfl
theorem Xc3 {m:Ja1}{s:SC}{R:RWs}(hR:ScR 138 143 285 146 150 m s R)(hwf:MWf m.length m)(res:List CV)(hres:∀ L,res.all (CV.below L)=true)(a b c d n L:Nat)(hn:n<=s.nt)(hb:b<=n)(hL:m.length+8+3*n<=L):MWf L (m++(⟨.fix,32,0,0,scC s R⟩::⟨.fix,52,0,0,res⟩::⟨.fix,26,0,0,hdC s⟩::⟨.fix,52,0,0,[.int .i64 s.w,.int .i64 s.h,.int .i64 s.sm,.int .i64 s.dp,.int .i64 s.fr,.int .i64 s.sh,.int .u64 s.sd,.int .i64 (s.sk 0),.int .i64 (s.sk 1),.int .i64 (s.sk 2),.int .i64 s.ey,.int .i64 s.lk,.int .i64 s.wd,.sl (m.length+4) a 0 a,.sl (m.length+5) b 0 b,.sl (m.length+6) c 0 c,.sl (m.length+7) d 0 d]⟩::⟨.grow,140,a,5,Jb2 a (pC s)⟩::⟨.grow,119,b,2,Jb2 b (tC s (toR s m.length))⟩::⟨.grow,148,c,4,Jb2 c (jC s)⟩::⟨.grow,155,d,13,Jb2 d (xC s)⟩::tkB s R m.length n)):=by
 refine MWf.app (hwf.grow (by omega)) (Ja0 (hR.bel L (by omega)) (Ja0 (hres L) (Ja0 rfl (Ja0 ?_ (Ja0 ?_ (Ja0 ?_ (Ja0 ?_ (Ja0 ?_ (Vx9 hR L n hn hL)))))))))
 ·simp [CV.below];omega
 ·exact Jb8 _ (fun _=>rfl) _
 ·refine Qd0 _ _ fun k hk=>?_
  simp [tC,toR,CV.below];omega
 ·exact Jb8 _ (fun _=>rfl) _
 exact Jb8 _ (fun _=>rfl) _
def toB (s:SC)(R:RWs)(m:Ja1):Ja1:=⟨.fix,32,0,0,scC s R⟩::⟨.fix,52,0,0,scC s (toR s m.length)⟩::⟨.fix,26,0,0,hdC s⟩::⟨.fix,52,0,0,[.int .i64 s.w,.int .i64 s.h,.int .i64 s.sm,.int .i64 s.dp,.int .i64 s.fr,.int .i64 s.sh,.int .u64 s.sd,.int .i64 (s.sk 0),.int .i64 (s.sk 1),.int .i64 (s.sk 2),.int .i64 s.ey,.int .i64 s.lk,.int .i64 s.wd,.sl (m.length+4) (s.np) 0 (s.np),.sl (m.length+5) (s.nt) 0 (s.nt),.sl (m.length+6) (s.nj) 0 (s.nj),.sl (m.length+7) (s.nx) 0 (s.nx)]⟩::⟨.grow,140,s.np,5,Jb2 (s.np) (pC s)⟩::⟨.grow,119,s.nt,2,Jb2 (s.nt) (tC s (toR s m.length))⟩::⟨.grow,148,s.nj,4,Jb2 (s.nj) (jC s)⟩::⟨.grow,155,s.nx,13,Jb2 (s.nx) (xC s)⟩::tkB s R m.length s.nt
theorem to_c (s:SC)(R:RWs)(m:Ja1)(hR:ScR 138 143 285 146 150 m s R)(hS:SmR s):Ctr Tryz.prog 11 [.agg (scC s R)] m (.agg (scC s (toR s m.length))) (m++toB s R m):=by
 refine Ctr.en Tryz.func11 [.cell 2 52] 135 fun hwf Q hQ=>?_
 obtain ⟨kp,ep,hp⟩:=hR.hp
 have lp:=Ja7 hp
 obtain ⟨kt,et,ht⟩:=hR.ht
 have lt:=Ja7 ht
 obtain ⟨kj,ej,hj⟩:=hR.hj
 have lj:=Ja7 hj
 obtain ⟨kx,ex,hx⟩:=hR.hx
 have lx:=Ja7 hx
 have np:=hR.np
 have nt:=hR.nt
 have nj:=hR.nj
 have nx:=hR.nx
 have pl:(Jb2 s.np (pC s)).length=s.np*5:=Ja6 (w:=5) (F:=pC s) (fun _=>rfl) _
 have tl:(Jb2 s.nt (tC s R)).length=s.nt*2:=Ja6 (w:=2) (F:=tC s R) (fun _=>rfl) _
 have jl:(Jb2 s.nj (jC s)).length=s.nj*4:=Ja6 (w:=4) (F:=jC s) (fun _=>rfl) _
 have xl:(Jb2 s.nx (xC s)).length=s.nx*13:=Ja6 (w:=13) (F:=xC s) (fun _=>rfl) _
 have hlt0:∀ k,¬m.length+k<m.length:=fun k=>by omega
 have hbox:∀ i,pC s i=[.int .i64 (s.pk i),.int .i64 (s.pc i 0),.int .i64 (s.pc i 1),.int .i64 (s.pc i 2),.int .i64 (s.pr i)]:=fun _=>rfl
 have hbt:∀ i,tC s R i=[.int .i64 (s.tw i),.sl (R.k i) (R.vk i) 0 (s.kn i)]:=fun _=>rfl
 have hbx:∀ i,xC s i=[.int .i64 (s.xj i),.int .i64 (s.xp i),.int .i64 (s.xk i),.int .i64 (s.xv i 0 0),.int .i64 (s.xv i 0 1),.int .i64 (s.xv i 0 2),.int .i64 (s.xv i 1 0),.int .i64 (s.xv i 1 1),.int .i64 (s.xv i 1 2),.int .i64 (s.xv i 2 0),.int .i64 (s.xv i 2 1),.int .i64 (s.xv i 2 2),.int .i64 (s.xr i)]:=fun _=>rfl
 have ill:=fun l=>Ks6 l
 obtain ⟨hS1,hS2,hS3,hS4,hS5⟩:=hS
 have tkl:=Jm6 s R m.length
 have tg0:=fun n L=>Xt6 s R m.length n 0 L
 simp only [Nat.add_zero] at tg0
 have tg1:=Xt6 s R m.length
 have ts0:=tkB_s s R m.length
 have vp:=fun n=>(Jb8 CV.isVal (F:=pC s) (fun _=>rfl) n)
 have vj:=fun n=>(Jb8 CV.isVal (F:=jC s) (fun _=>rfl) n)
 have vx:=fun n=>(Jb8 CV.isVal (F:=xC s) (fun _=>rfl) n)
 have vt:=fun n=>(Jb8 CV.isVal (F:=tC s (toR s m.length)) (fun _=>rfl) n)
 have U1:=ca4 hp (Ja4 hp) ht (ca4 (Ja4 ht) hj (Ja4 hj) (ca4 hx (Ja4 hx) pl (ca4 tl jl xl (ca4 ill @Jg0 @Jf6 (ca4 @Jf9 @Ja5 tkl (ca4 tg0 tg1 ts0 (ca4 vp vj vx vt)))))))
 refine AW.c 2 U1 Tru ?_
 have q_1:=fun M=>Vx8 s.sk M
 simp only [c3C] at q_1
 refine AW.wd [[.val,.rd 0,.val,.rd 0,.val,.rd 0,.val,.rd 0,.val,.rd 0,.val,.rd 0,.val,.rd 0,.val,.rd 0,.ext,.val,.val,.rd 0,.val,.rd 0,.val,.rd 0,.val,.val,.fl,.wr]] 4 U1 q_1 fun K J0=>?_
 refine AW.nilCell 140 5 (m.length+3) 13 (by simp only [push_cast,simprocAttr,U1];first|done|rfl) (by intro e;cases e) rfl ?_
 try simp only [push_cast,simprocAttr,U1]
 refine AW.nilCell 119 2 (m.length+3) 14 (by simp only [push_cast,simprocAttr,U1];first|done|rfl) (by intro e;cases e) rfl ?_
 try simp only [push_cast,simprocAttr,U1]
 refine AW.nilCell 148 4 (m.length+3) 15 (by simp only [push_cast,simprocAttr,U1];first|done|rfl) (by intro e;cases e) rfl ?_
 try simp only [push_cast,simprocAttr,U1]
 refine AW.nilCell 155 13 (m.length+3) 16 (by simp only [push_cast,simprocAttr,U1];first|done|rfl) (by intro e;cases e) rfl ?_
 try simp only [push_cast,simprocAttr,U1]
 refine AW.loopK [1,2,4,42,43] (fun i=>i<=s.np) (fun i=>[(44,.one (.int .i64 (i:Int)))]) (fun i=>[(m.length+3,⟨.fix,52,0,0,[.int .i64 s.w,.int .i64 s.h,.int .i64 s.sm,.int .i64 s.dp,.int .i64 s.fr,.int .i64 s.sh,.int .u64 s.sd,.int .i64 (s.sk 0),.int .i64 (s.sk 1),.int .i64 (s.sk 2),.int .i64 s.ey,.int .i64 s.lk,.int .i64 s.wd,.sl (m.length+4) i 0 i,.sl (m.length+5) (0) 0 (0),.sl (m.length+6) (0) 0 (0),.sl (m.length+7) (0) 0 (0)]⟩),(m.length+4,⟨.grow,140,i,5,Jb2 i (pC s)⟩)]) (fun i=>s.np - i) 0 (by omega) ?_ ?_ fun i hi2=>?_
 · first|rfl|(simp only [KS,simprocAttr,Jb2,Int.natCast_zero]<;>repeat' (first|rfl|apply And.intro))
 · simp only [Ja2,push_cast,simprocAttr,Jb2]<;>rfl
 try simp only [Ja9,Ja2,push_cast,simprocAttr,U1]
 refine AW.w 2 U1 Tru fun K J1=>?_
 refine AW.cond rfl (fun h45=>?_) (fun h45=>?_)
 ·have hlt:i<s.np:=by have:=of_decide_eq_true h45;omega
  have c1:(0:Int)<=(i:Int):=by omega
  have c2:(i:Int)<(s.np:Int):=by omega
  have c3:i*5+5<=s.np*5:=by omega
  have ga:=Jb7 (w:=5) (F:=pC s) (fun _=>rfl) hlt
  have gk:=Kd0 s i
  have gli:(Jb2 i (pC s)).length=i*5:=Ja6 (w:=5) (F:=pC s) (fun _=>rfl) i
  have q1:i<=140737488355327:=by omega
  have q2:(i+1)*40<=140737488355328:=by omega
  have hap:Jb2 i (pC s)++[.int .i64 (s.pk i),.int .i64 (s.pc i 0),.int .i64 (s.pc i 1),.int .i64 (s.pc i 2),.int .i64 (s.pr i)]=Jb2 (i+1) (pC s):=rfl
  refine AW.w 4 Tru Tru fun K J1=>?_
  have U2:=ca4 U1 c1 c2 (ca4 c3 ga gk (ca4 gli q1 q2 hlt))
  refine AW.c 1 U2 Tru ?_
  have q_2:=fun M=>Vx8 (s.pc i) M
  simp only [c3C] at q_2
  refine AW.wd [[.val,.rd 0,.val,.rd 0,.val,.rd 0,.ext,.val,.rd 0,.val,.ext,.wr,.val,.wr]] 3 U2 q_2 ?_
  have hwi:IntKind.i64.wrap ((i:Int)+1)=(i:Int)+1:=wi (by omega)
  refine ⟨i+1,by omega,by omega,?_⟩
  try simp only [Ja9,Ja2,push_cast,simprocAttr,U2,hwi,hap]
  exact Weak.to (extra:=[_,_]) (by simp only [KS,simprocAttr,hwi,hap]) (by first|rfl|(simp only [List.append_assoc,List.cons_append,List.nil_append];rfl)) (by first|rfl|(simp [AV.below,CV.below];done)|(simp [AV.below,CV.below];omega)) (by exact Xc3 hR hwf _ (fun _=>rfl) _ _ _ _ 0 _ (by omega) (by omega) (by simp [Jm6];try omega))
 have hin:i=s.np:=by have:=of_decide_eq_false h45;omega
 rw [hin]
 refine AW.w 5 U1 Tru fun K J0=>?_
 refine AW.loopE0 [1,2,4,63,64] (fun i=>i<=s.nt) (fun i=>[(65,.one (.int .i64 (i:Int)))]) (fun i=>[(m.length+3,⟨.fix,52,0,0,[.int .i64 s.w,.int .i64 s.h,.int .i64 s.sm,.int .i64 s.dp,.int .i64 s.fr,.int .i64 s.sh,.int .u64 s.sd,.int .i64 (s.sk 0),.int .i64 (s.sk 1),.int .i64 (s.sk 2),.int .i64 s.ey,.int .i64 s.lk,.int .i64 s.wd,.sl (m.length+4) (s.np) 0 (s.np),.sl (m.length+5) i 0 i,.sl (m.length+6) (0) 0 (0),.sl (m.length+7) (0) 0 (0)]⟩),(m.length+5,⟨.grow,119,i,2,Jb2 i (tC s (toR s m.length))⟩)]) (fun i=>tkB s R m.length i) (fun i=>s.nt - i) 0 (by omega) ?_ ?_ ?_ fun i hi6=>?_
 · first|rfl|(simp only [KS,simprocAttr,Jb2,tkB,List.append_nil,Int.natCast_zero]<;>repeat' (first|rfl|apply And.intro))
 · simp only [Ja2,push_cast,simprocAttr,Jb2,tkB,List.append_nil]<;>rfl
 · exact fun i j _ _ h=>by simp only [Jm6];omega
 try simp only [Ja9,Ja2,push_cast,simprocAttr,U1]
 refine AW.w 2 U1 Tru fun K J1=>?_
 refine AW.cond rfl (fun h66=>?_) (fun h66=>?_)
 ·have hlt:i<s.nt:=by have:=of_decide_eq_true h66;omega
  have c1:(0:Int)<=(i:Int):=by omega
  have c2:(i:Int)<(s.nt:Int):=by omega
  have c3:i*2+2<=s.nt*2:=by omega
  have ga:=Jb7 (w:=2) (F:=tC s R) (fun _=>rfl) hlt
  obtain ⟨kk,ek,hky⟩:=hR.hk i hlt
  have lky:=Ja7 hky
  have hki:=hS1 i hlt
  have gk:=Vm0 s R i
  have gli:(Jb2 i (tC s (toR s m.length))).length=i*2:=Ja6 (w:=2) (F:=tC s (toR s m.length)) (fun _=>rfl) i
  have q1:i<=140737488355327:=by omega
  have q2:(i+1)*32<=140737488355328:=by omega
  have hap:Jb2 i (tC s (toR s m.length))++[.int .i64 (s.tw i),.sl (m.length+(3*i+9)) 0 0 (s.kn i)]=Jb2 (i+1) (tC s (toR s m.length)):=rfl
  have htk:tkB s R m.length i++[⟨.fix,143,0,0,[.int .i64 (s.tw i),.sl (R.k i) (R.vk i) 0 (s.kn i)]⟩,⟨.grow,223,0,4,Jb2 (s.kn i) (keC (s.kt i) (s.kv i))⟩,⟨.grow,119,0,2,[.int .i64 (s.tw i),.sl (m.length+(3*i+9)) 0 0 (s.kn i)]⟩]=tkB s R m.length (i+1):=rfl
  refine AW.w 4 Tru Tru fun K J1=>?_
  have U3:=ca4 U1 c1 c2 (ca4 c3 ga gk (ca4 gli q1 q2 hlt))
  refine AW.wd [[.val,.rd 0,.rd 0,.ext,.ext,.wr,.val,.wr]] 4 U3 (Xt5 (s.tw i) (R.k i) (R.vk i) (s.kn i) (s.kt i) (s.kv i) _ ⟨kk,ek,Ja4 hky _⟩ (by omega)) ?_
  have hwi:IntKind.i64.wrap ((i:Int)+1)=(i:Int)+1:=wi (by omega)
  refine ⟨i+1,by omega,by omega,?_⟩
  try simp only [Ja9,Ja2,push_cast,simprocAttr,U3,hwi,hap,htk]
  exact Weak.same (by simp only [KS,simprocAttr,hwi,hap,htk]) (by first|rfl|simp only [KS,simprocAttr,hwi,hap,htk])
 have hin:i=s.nt:=by have:=of_decide_eq_false h66;omega
 rw [hin]
 refine AW.w 5 U1 Tru fun K J0=>?_
 refine AW.loopK [1,2,4,78,79] (fun i=>i<=s.nj) (fun i=>[(80,.one (.int .i64 (i:Int)))]) (fun i=>[(m.length+3,⟨.fix,52,0,0,[.int .i64 s.w,.int .i64 s.h,.int .i64 s.sm,.int .i64 s.dp,.int .i64 s.fr,.int .i64 s.sh,.int .u64 s.sd,.int .i64 (s.sk 0),.int .i64 (s.sk 1),.int .i64 (s.sk 2),.int .i64 s.ey,.int .i64 s.lk,.int .i64 s.wd,.sl (m.length+4) (s.np) 0 (s.np),.sl (m.length+5) (s.nt) 0 (s.nt),.sl (m.length+6) i 0 i,.sl (m.length+7) (0) 0 (0)]⟩),(m.length+6,⟨.grow,148,i,4,Jb2 i (jC s)⟩)]) (fun i=>s.nj - i) 0 (by omega) ?_ ?_ fun i hi10=>?_
 · first|rfl|(simp only [KS,simprocAttr,Jb2,Int.natCast_zero]<;>repeat' (first|rfl|apply And.intro))
 · simp only [Ja2,push_cast,simprocAttr,Jb2]<;>rfl
 try simp only [Ja9,Ja2,push_cast,simprocAttr,U1]
 refine AW.w 2 U1 Tru fun K J1=>?_
 refine AW.cond rfl (fun h81=>?_) (fun h81=>?_)
 ·have hlt:i<s.nj:=by have:=of_decide_eq_true h81;omega
  have c1:(0:Int)<=(i:Int):=by omega
  have c2:(i:Int)<(s.nj:Int):=by omega
  have c3:i*4+4<=s.nj*4:=by omega
  have ga:=Jb7 (w:=4) (F:=jC s) (fun _=>rfl) hlt
  have gk:=Ve9 s i
  have gli:(Jb2 i (jC s)).length=i*4:=Ja6 (w:=4) (F:=jC s) (fun _=>rfl) i
  have q1:i<=140737488355327:=by omega
  have q2:(i+1)*32<=140737488355328:=by omega
  have hap:Jb2 i (jC s)++[.int .i64 (s.jp i),.int .i64 (s.jm i),.int .i64 (s.jt i),.int .i64 (s.js i)]=Jb2 (i+1) (jC s):=rfl
  refine AW.w 4 Tru Tru fun K J1=>?_
  have U4:=ca4 U1 c1 c2 (ca4 c3 ga gk (ca4 gli q1 q2 hlt))
  refine AW.w 4 U4 Tru ?_
  have hwi:IntKind.i64.wrap ((i:Int)+1)=(i:Int)+1:=wi (by omega)
  refine ⟨i+1,by omega,by omega,?_⟩
  try simp only [Ja9,Ja2,push_cast,simprocAttr,U4,hwi,hap]
  exact Weak.to (extra:=[_,_]) (by simp only [KS,simprocAttr,hwi,hap]) (by first|rfl|(simp only [List.append_assoc,List.cons_append,List.nil_append];rfl)) (by first|rfl|(simp [AV.below,CV.below];done)|(simp [AV.below,CV.below];omega)) (by exact Xc3 hR hwf _ (fun _=>rfl) _ _ _ _ s.nt _ (by omega) (by omega) (by simp [Jm6];try omega))
 have hin:i=s.nj:=by have:=of_decide_eq_false h81;omega
 rw [hin]
 refine AW.w 5 U1 Tru fun K J0=>?_
 refine AW.loopK [2,4,100,101] (fun i=>i<=s.nx) (fun i=>[(102,.one (.int .i64 (i:Int)))]) (fun i=>[(m.length+3,⟨.fix,52,0,0,[.int .i64 s.w,.int .i64 s.h,.int .i64 s.sm,.int .i64 s.dp,.int .i64 s.fr,.int .i64 s.sh,.int .u64 s.sd,.int .i64 (s.sk 0),.int .i64 (s.sk 1),.int .i64 (s.sk 2),.int .i64 s.ey,.int .i64 s.lk,.int .i64 s.wd,.sl (m.length+4) (s.np) 0 (s.np),.sl (m.length+5) (s.nt) 0 (s.nt),.sl (m.length+6) (s.nj) 0 (s.nj),.sl (m.length+7) i 0 i]⟩),(m.length+7,⟨.grow,155,i,13,Jb2 i (xC s)⟩)]) (fun i=>s.nx - i) 0 (by omega) ?_ ?_ fun i hi14=>?_
 · first|rfl|(simp only [KS,simprocAttr,Jb2,Int.natCast_zero]<;>repeat' (first|rfl|apply And.intro))
 · simp only [Ja2,push_cast,simprocAttr,Jb2]<;>rfl
 try simp only [Ja9,Ja2,push_cast,simprocAttr,U1]
 refine AW.w 2 U1 Tru fun K J1=>?_
 refine AW.cond rfl (fun h103=>?_) (fun h103=>?_)
 ·have hlt:i<s.nx:=by have:=of_decide_eq_true h103;omega
  have c1:(0:Int)<=(i:Int):=by omega
  have c2:(i:Int)<(s.nx:Int):=by omega
  have c3:i*13+13<=s.nx*13:=by omega
  have ga:=Jb7 (w:=13) (F:=xC s) (fun _=>rfl) hlt
  have gk:=Ke2 s i
  have gli:(Jb2 i (xC s)).length=i*13:=Ja6 (w:=13) (F:=xC s) (fun _=>rfl) i
  have q1:i<=140737488355327:=by omega
  have q2:(i+1)*104<=140737488355328:=by omega
  have hap:Jb2 i (xC s)++[.int .i64 (s.xj i),.int .i64 (s.xp i),.int .i64 (s.xk i),.int .i64 (s.xv i 0 0),.int .i64 (s.xv i 0 1),.int .i64 (s.xv i 0 2),.int .i64 (s.xv i 1 0),.int .i64 (s.xv i 1 1),.int .i64 (s.xv i 1 2),.int .i64 (s.xv i 2 0),.int .i64 (s.xv i 2 1),.int .i64 (s.xv i 2 2),.int .i64 (s.xr i)]=Jb2 (i+1) (xC s):=rfl
  refine AW.w 4 Tru Tru fun K J1=>?_
  have U5:=ca4 U1 c1 c2 (ca4 c3 ga gk (ca4 gli q1 q2 hlt))
  refine AW.c 1 U5 Tru ?_
  have q_3:=fun M=>Qi5 (s.xv i 0) M
  simp only [c3C] at q_3
  have q_4:=fun M=>Qi5 (s.xv i 1) M
  simp only [c3C] at q_4
  have q_5:=fun M=>Qi5 (s.xv i 2) M
  simp only [c3C] at q_5
  refine AW.wd [[.val,.rd 0,.val,.rd 0,.val,.rd 0,.val,.val,.rd 0,.val,.val,.rd 0,.ext,.val,.val,.rd 0,.ext,.val,.val,.rd 0,.ext,.val,.rd 0,.val,.ext,.wr,.val,.wr]] 3 U5 (ca3 q_3 q_4 q_5) ?_
  have hwi:IntKind.i64.wrap ((i:Int)+1)=(i:Int)+1:=wi (by omega)
  refine ⟨i+1,by omega,by omega,?_⟩
  try simp only [Ja9,Ja2,push_cast,simprocAttr,U5,hwi,hap]
  exact Weak.to (extra:=[_,_]) (by simp only [KS,simprocAttr,hwi,hap]) (by first|rfl|(simp only [List.append_assoc,List.cons_append,List.nil_append];rfl)) (by first|rfl|(simp [AV.below,CV.below];done)|(simp [AV.below,CV.below];omega)) (by exact Xc3 hR hwf _ (fun _=>rfl) _ _ _ _ s.nt _ (by omega) (by omega) (by simp [Jm6];try omega))
 have hin:i=s.nx:=by have:=of_decide_eq_false h103;omega
 rw [hin]
 refine AW.w 4 U1 Tru ?_
 refine hQ _ _ _ ?_
 refine RetP.keep (by first|exact Or.inr rfl|exact Or.inl rfl) ?_
 simp only [Je0,Jb1,Jb9,AV.tv,push_cast,simprocAttr,toR]
 rfl
noncomputable def Jn7 (a:Int):Int:=if h:0<Ja3 a then ((Classical.choose (Qf4 h):Nat):Int) else 0
theorem Qa0 (a:Int)(m:Ja1):Ctr Tryz.prog 230 [.one (.int .i64 a)] m (.one (.int .i64 (Jn7 a))) m:=by
 unfold Jn7
 by_cases h:0<Ja3 a
 ·rw [dif_pos h];exact Xv5 a _ m (Classical.choose_spec (Qf4 h))
 rw [dif_neg h];exact Xv6 a m h
theorem Kk7 (a:Int)(m:Ja1):Ctr Tryz.prog 211 [.one (.int .i64 a)] m (.one (.int .i64 (Jn7 a))) m:=by
 unfold Jn7
 by_cases h:0<Ja3 a
 ·rw [dif_pos h];exact Xf4 a _ m (Classical.choose_spec (Qf4 h))
 rw [dif_neg h];exact Xf5 a m h
theorem Qb2 (a0 a1 a2:Int)(m:Ja1):Ctr Tryz.prog 109 [.one (.int .i64 a0),.one (.int .i64 a1),.one (.int .i64 a2)] m (.agg [.int .i64 a0,.int .i64 a1,.int .i64 a2]) m:=by
 exact Ctr.f Tryz.func109 [.cell 6 59] 11 Tru Tru
theorem Kj4 (f:Int->Int->Int)(g:Nat)(caps:List (Nat × Nat × Nat))(a0 a1 a2 b0 b1 b2:Int)(m:Ja1)(hf:∀ p q L,Ctr Tryz.prog g ([.one (.int .i64 p),.one (.int .i64 q)]++Ji9 caps) (m++L) (.one (.int .i64 (f p q))) (m++L)):Ctr Tryz.prog 187 [.agg [.int .i64 a0,.int .i64 a1,.int .i64 a2],.agg [.int .i64 b0,.int .i64 b1,.int .i64 b2],.one (.fn g caps)] m (.agg [.int .i64 (f a0 b0),.int .i64 (f a1 b1),.int .i64 (f a2 b2)]) m:=by
 refine Ctr.en Tryz.func187 [.cell 6 59] 26 fun hwf Q hQ=>?_
 refine AW.sr 1 fun K J0=>?_
 simp only [push_cast,simprocAttr,Ji9]
 apply J0
 refine AW.q fun K J0=>?_
 refine AW.draw [.val,.val,.rd 0,.val,.rd 0,.ext,.val,.val,.rd 0,.val,.rd 0,.ext,.val,.val,.rd 0,.val,.rd 0,.ext,.val,.wr] fol (by decide) (by kernel_rfl) ?_
 iterate 3
  simp only [push_cast,simprocAttr,Ji9]
  refine DCall.z (hf _ _ _) ?_
 simp only [push_cast,simprocAttr,Ji9]
 refine AW.w 2 Tru Tru ?_
 refine hQ _ _ _ ?_
 first|refine RetP.drop0 (Or.inr rfl) ?_ ?_ hwf|refine RetP.drop (Or.inr rfl) ?_ ?_ hwf
 · simp only [Je0,Jb1,Jb9,AV.tv,push_cast,simprocAttr,Ji9]
 rfl
theorem Qw4 (a0 a1 a2 b0 b1 b2:Int)(m:Ja1):Ctr Tryz.prog 136 [.agg [.int .i64 a0,.int .i64 a1,.int .i64 a2],.agg [.int .i64 b0,.int .i64 b1,.int .i64 b2]] m (.agg [.int .i64 (Jc7 a0 b0),.int .i64 (Jc7 a1 b1),.int .i64 (Jc7 a2 b2)]) m:=by
 exact Ctr.f Tryz.func136 [.cell 4 59] 8 Tru (Kj4 Jc7 117 [] _ _ _ _ _ _ _ fun p q L=>Jw7 p q _)
theorem Vx4 (a0 a1 a2 b0 b1 b2:Int)(m:Ja1):Ctr Tryz.prog 107 [.agg [.int .i64 a0,.int .i64 a1,.int .i64 a2],.agg [.int .i64 b0,.int .i64 b1,.int .i64 b2]] m (.agg [.int .i64 (Je1 a0 b0),.int .i64 (Je1 a1 b1),.int .i64 (Je1 a2 b2)]) m:=by
 exact Ctr.f Tryz.func107 [.cell 4 59] 8 Tru (Kj4 Je1 116 [] _ _ _ _ _ _ _ fun p q L=>Jx0 p q _)
theorem Qe8 (a0 a1 a2 b0 b1 b2:Int)(m:Ja1):Ctr Tryz.prog 145 [.agg [.int .i64 a0,.int .i64 a1,.int .i64 a2],.agg [.int .i64 b0,.int .i64 b1,.int .i64 b2]] m (.agg [.int .i64 (Jc7 a0 b0),.int .i64 (Jc7 a1 b1),.int .i64 (Jc7 a2 b2)]) m:=by
 refine Ctr.en Tryz.func145 [.cell 4 54] 21 fun hwf Q hQ=>?_
 refine AW.w 5 Tru Tru fun K J0=>?_
 refine AW.r 4 ?_
 exact AW.fd [[.val,.val,.val,.rd 0,.val,.val,.rd 0,.ext,.val,.wr],[.val,.val,.val,.rd 0,.val,.val,.rd 0,.ext,.val,.wr],[.val,.val,.val,.rd 0,.val,.val,.rd 0,.ext,.val,.wr]] Tru Jr8
theorem Xd2 (a0 a1 a2 b0 b1 b2:Int)(m:Ja1):Ctr Tryz.prog 81 [.agg [.int .i64 a0,.int .i64 a1,.int .i64 a2],.agg [.int .i64 b0,.int .i64 b1,.int .i64 b2]] m (.agg [.int .i64 (Je1 a0 b0),.int .i64 (Je1 a1 b1),.int .i64 (Je1 a2 b2)]) m:=by
 refine Ctr.en Tryz.func81 [.cell 4 54] 21 fun hwf Q hQ=>?_
 refine AW.w 5 Tru Tru fun K J0=>?_
 refine AW.r 4 ?_
 exact AW.fd [[.val,.val,.val,.rd 0,.val,.val,.rd 0,.ext,.val,.wr],[.val,.val,.val,.rd 0,.val,.val,.rd 0,.ext,.val,.wr],[.val,.val,.val,.rd 0,.val,.val,.rd 0,.ext,.val,.wr]] Tru Jr6
theorem Xt1 (a0 a1 a2:Int)(m:Ja1):Ctr Tryz.prog 261 [.agg [.int .i64 a0,.int .i64 a1,.int .i64 a2]] m (.agg [.int .i64 (Je1 0 a0),.int .i64 (Je1 0 a1),.int .i64 (Je1 0 a2)]) m:=by
 exact Ctr.f Tryz.func261 [.cell 2 59] 6 Tru Vx4
theorem Qi3 (a0 a1 a2 s:Int)(m:Ja1):Ctr Tryz.prog 120 [.agg [.int .i64 a0,.int .i64 a1,.int .i64 a2],.one (.int .i64 s)] m (.agg [.int .i64 (Jd3 a0 s),.int .i64 (Jd3 a1 s),.int .i64 (Jd3 a2 s)]) m:=by
 exact Ctr.fd Tryz.func120 [.cell 4 59] 18 [[.val,.rd 0,.val,.ext,.val,.rd 0,.val,.ext,.val,.rd 0,.val,.ext,.val,.wr]] Tru Jk7
theorem Kz4 (a0 a1 a2 s:Int)(m:Ja1):Ctr Tryz.prog 146 [.agg [.int .i64 a0,.int .i64 a1,.int .i64 a2],.one (.int .i64 s)] m (.agg [.int .i64 (Jd3 a0 s),.int .i64 (Jd3 a1 s),.int .i64 (Jd3 a2 s)]) m:=by
 refine Ctr.en Tryz.func146 [.cell 4 54] 19 fun hwf Q hQ=>?_
 refine AW.w 5 Tru Tru fun K J0=>?_
 refine AW.r 4 ?_
 exact AW.f Tru Ji2
theorem Xy1 (x y t:Int)(r:Nat)(m:Ja1)(h:m[r]?=some ⟨.fix,40,0,0,[.int .i64 t]⟩):Ctr Tryz.prog 189 [.one (.int .i64 x),.one (.int .i64 y),.one (.ptr r 0 0)] m (.one (.int .i64 (Je9 x y t))) m:=by
 have U1:=ca2 h (Ja4 h)
 exact Ctr.f Tryz.func189 [.tmp 5] 10 U1 Vz8
theorem Xt2 (a0 a1 a2 b0 b1 b2 t:Int)(m:Ja1):Ctr Tryz.prog 113 [.agg [.int .i64 a0,.int .i64 a1,.int .i64 a2],.agg [.int .i64 b0,.int .i64 b1,.int .i64 b2],.one (.int .i64 t)] m (.agg [.int .i64 (Je9 a0 b0 t),.int .i64 (Je9 a1 b1 t),.int .i64 (Je9 a2 b2 t)]) m:=by
 refine Ctr.en Tryz.func113 [.cell 6 59] 11 fun hwf Q hQ=>?_
 refine AW.sr 2 fun K J0=>?_
 simp only [push_cast,simprocAttr]
 refine CThen.by (Kj4 (fun x y=>Je9 x y t) 189 [(m.length+2,0,0)] _ _ _ _ _ _ _ fun p q L=>Xy1 p q t (m.length+2) _ (by simp only [List.append_assoc,List.cons_append,List.nil_append,push_cast,simprocAttr])) ?_
 simp only [push_cast,simprocAttr]
 exact AW.f Tru Tru
theorem Xe0 (a0 a1 a2 b0 b1 b2 t:Int)(m:Ja1):Ctr Tryz.prog 75 [.agg [.int .i64 a0,.int .i64 a1,.int .i64 a2],.agg [.int .i64 b0,.int .i64 b1,.int .i64 b2],.one (.int .i64 t)] m (.agg [.int .i64 (Je9 a0 b0 t),.int .i64 (Je9 a1 b1 t),.int .i64 (Je9 a2 b2 t)]) m:=by
 refine Ctr.en Tryz.func75 [.cell 6 54] 24 fun hwf Q hQ=>?_
 refine AW.w 5 Tru Tru fun K J0=>?_
 refine AW.r 4 ?_
 exact AW.fd [[.val,.val,.val,.rd 0,.val,.val,.rd 0,.val,.ext,.val,.wr],[.val,.val,.val,.rd 0,.val,.val,.rd 0,.val,.ext,.val,.wr],[.val,.val,.val,.rd 0,.val,.val,.rd 0,.val,.ext,.val,.wr]] Tru Va2
def Qo7 (a0 a1 a2 b0 b1 b2:Int):Int:=Jc7 (Jc7 (Jc7 0 (Jd3 a0 b0)) (Jd3 a1 b1)) (Jd3 a2 b2)
theorem Vy0 (r v:Nat)(a b c:Int)(m:Ja1)(hb:∃ k ez,m[r]?=some ⟨k,40,v,ez,[.int .i64 a,.int .i64 b,.int .i64 c]⟩):Ctr Tryz.prog 198 [.one (.sl r v 0 3)] m (.one (.int .i64 (Jc7 (Jc7 (Jc7 0 a) b) c))) m:=by
 refine Ctr.en Tryz.func198 [.tmp 2] 17 fun hwf Q hQ=>?_
 obtain ⟨k0,ez,hb⟩:=hb
 have hr:=Ja7 hb
 have U2:=ca2 hb (Ja4 hb)
 refine AW.w 5 U2 Tru fun K J0=>?_
 refine AW.r 4 ?_
 exact AW.f U2 Jw7
theorem Xa6 (a0 a1 a2 b0 b1 b2:Int):Qo7 a0 a1 a2 b0 b1 b2=(Jc7 (Jc7 (Jc7 0 (Jd3 a0 b0)) (Jd3 a1 b1)) (Jd3 a2 b2)):=rfl
theorem Vx5 (a0 a1 a2 b0 b1 b2:Int)(m:Ja1):Ctr Tryz.prog 137 [.agg [.int .i64 a0,.int .i64 a1,.int .i64 a2],.agg [.int .i64 b0,.int .i64 b1,.int .i64 b2]] m (.one (.int .i64 (Qo7 a0 a1 a2 b0 b1 b2))) m:=by
 refine Ctr.en Tryz.func137 [.tmp 4] 22 fun hwf Q hQ=>?_
 refine AW.c 1 Tru Tru ?_
 refine AW.q fun K J0=>?_
 refine AW.draw [.val,.rd 0,.val,.rd 0,.ext,.val,.rd 0,.val,.rd 0,.ext,.val,.rd 0,.val,.rd 0,.ext,.ext,.ext,.val] fol (by decide) (by kernel_rfl) ?_
 iterate 3
  simp only [push_cast,simprocAttr]
  refine DCall.z (Jk7 _ _ _) ?_
 simp only [push_cast,simprocAttr]
 refine DExt.by (by first|rfl|exact (List.append_nil _).symm|(simp only [List.append_assoc,List.cons_append,List.nil_append];rfl)) ?_
 simp only [push_cast,simprocAttr]
 refine DCall.z (Vy0 _ 0 (Jd3 a0 b0) (Jd3 a1 b1) (Jd3 a2 b2) _ ⟨.grow,1,by simp only [push_cast,simprocAttr]⟩) ?_
 simp only [push_cast,simprocAttr]
 exact AW.f Tru Tru @Xa6
theorem Qy8 (a0 a1 a2 b0 b1 b2:Int)(m:Ja1):Ctr Tryz.prog 155 [.agg [.int .i64 a0,.int .i64 a1,.int .i64 a2],.agg [.int .i64 b0,.int .i64 b1,.int .i64 b2]] m (.one (.int .i64 (Qo7 a0 a1 a2 b0 b1 b2))) m:=by
 refine Ctr.en Tryz.func155 [.tmp 4] 21 fun hwf Q hQ=>?_
 refine AW.w 5 Tru Tru fun K J0=>?_
 refine AW.r 4 ?_
 exact AW.fd [[.val,.val,.val,.rd 0,.val,.val,.rd 0,.ext,.ext,.val],[.val,.val,.val,.rd 0,.val,.val,.rd 0,.ext,.ext,.val],[.val,.val,.val,.rd 0,.val,.val,.rd 0,.ext,.ext,.val]] Tru (ca2 Ji2 Jr8) @Xa6
theorem Vk7 (a0 a1 a2 b0 b1 b2:Int)(m:Ja1):Ctr Tryz.prog 110 [.agg [.int .i64 a0,.int .i64 a1,.int .i64 a2],.agg [.int .i64 b0,.int .i64 b1,.int .i64 b2]] m (.agg [.int .i64 (Je1 (Jd3 a1 b2) (Jd3 a2 b1)),.int .i64 (Je1 (Jd3 a2 b0) (Jd3 a0 b2)),.int .i64 (Je1 (Jd3 a0 b1) (Jd3 a1 b0))]) m:=by
 exact Ctr.fd Tryz.func110 [.cell 4 59] 39 [[.val,.rd 0,.val,.rd 0,.ext,.val,.rd 0,.val,.rd 0,.ext,.ext,.val,.rd 0,.val,.rd 0,.ext,.val,.rd 0,.val,.rd 0,.ext,.ext,.val,.rd 0,.val,.rd 0,.ext,.val,.rd 0,.val,.rd 0,.ext,.ext,.val,.wr]] Tru (ca2 Jk7 Jx0)
theorem Qy9 (a0 a1 a2 b0 b1 b2:Int)(m:Ja1):Ctr Tryz.prog 82 [.agg [.int .i64 a0,.int .i64 a1,.int .i64 a2],.agg [.int .i64 b0,.int .i64 b1,.int .i64 b2]] m (.agg [.int .i64 (Je1 (Jd3 a1 b2) (Jd3 a2 b1)),.int .i64 (Je1 (Jd3 a2 b0) (Jd3 a0 b2)),.int .i64 (Je1 (Jd3 a0 b1) (Jd3 a1 b0))]) m:=by
 refine Ctr.en Tryz.func82 [.cell 4 54] 37 fun hwf Q hQ=>?_
 have tm1:Int.tmod 1 3=1:=rfl
 have tm2:Int.tmod 2 3=2:=rfl
 have tm3:Int.tmod 3 3=0:=rfl
 have tm4:Int.tmod 4 3=1:=rfl
 have U3:=ca4 tm1 tm2 tm3 tm4
 refine AW.w 5 U3 Tru fun K J0=>?_
 refine AW.r 4 ?_
 exact AW.fd [[.val,.val,.val,.rd 0,.val,.val,.rd 0,.ext,.val,.val,.rd 0,.val,.val,.rd 0,.ext,.ext,.val,.wr],[.val,.val,.val,.rd 0,.val,.val,.rd 0,.ext,.val,.val,.rd 0,.val,.val,.rd 0,.ext,.ext,.val,.wr],[.val,.val,.val,.rd 0,.val,.val,.rd 0,.ext,.val,.val,.rd 0,.val,.val,.rd 0,.ext,.ext,.val,.wr]] U3 (ca2 Ji2 Jr6)
theorem Xt3 (a0 a1 a2:Int)(m:Ja1):Ctr Tryz.prog 186 [.agg [.int .i64 a0,.int .i64 a1,.int .i64 a2]] m (.one (.int .i64 (Jn7 (Qo7 a0 a1 a2 a0 a1 a2)))) m:=by
 exact Ctr.f Tryz.func186 [.tmp 2] 7 Tru (ca2 Vx5 Qa0)
theorem Xe1 (a0 a1 a2:Int)(m:Ja1):Ctr Tryz.prog 165 [.agg [.int .i64 a0,.int .i64 a1,.int .i64 a2]] m (.one (.int .i64 (Jn7 (Qo7 a0 a1 a2 a0 a1 a2)))) m:=by
 exact Ctr.f Tryz.func165 [.tmp 2] 7 Tru (ca2 Qy8 Kk7)
def Qp0 (x y z a b c:Int):Int:=Jc7 (Jc7 (Jc7 0 (Jd3 x a)) (Jd3 y b)) (Jd3 z c)
theorem Qe3 (r v:Nat)(c00 c01 c02 c10 c11 c12 c20 c21 c22:Int)(m:Ja1)(hb:∃ k ez,m[r]?=some ⟨k,59,v,ez,[.int .i64 c00,.int .i64 c01,.int .i64 c02,.int .i64 c10,.int .i64 c11,.int .i64 c12,.int .i64 c20,.int .i64 c21,.int .i64 c22]⟩):Ctr Tryz.prog 119 [.one (.sl r v 0 3)] m (.agg [.int .i64 (Jc7 (Jc7 (Jc7 0 c00) c10) c20),.int .i64 (Jc7 (Jc7 (Jc7 0 c01) c11) c21),.int .i64 (Jc7 (Jc7 (Jc7 0 c02) c12) c22)]) m:=by
 refine Ctr.en Tryz.func119 [.cell 2 59] 17 fun hwf Q hQ=>?_
 obtain ⟨k0,ez,hb⟩:=hb
 have hr:=Ja7 hb
 have U4:=ca2 hb (Ja4 hb)
 refine AW.w 5 U4 Tru fun K J0=>?_
 refine AW.r 4 ?_
 exact AW.f U4 Qw4
theorem Xa8 (x y z a b c:Int):Qp0 x y z a b c=(Jc7 (Jc7 (Jc7 0 (Jd3 x a)) (Jd3 y b)) (Jd3 z c)):=rfl
theorem Vz4 (x0 x1 x2 y0 y1 y2 z0 z1 z2 t0 t1 t2 a0 a1 a2:Int)(m:Ja1):Ctr Tryz.prog 250 [.agg [.int .i64 x0,.int .i64 x1,.int .i64 x2,.int .i64 y0,.int .i64 y1,.int .i64 y2,.int .i64 z0,.int .i64 z1,.int .i64 z2,.int .i64 t0,.int .i64 t1,.int .i64 t2],.agg [.int .i64 a0,.int .i64 a1,.int .i64 a2]] m (.agg [.int .i64 (Qp0 x0 y0 z0 a0 a1 a2),.int .i64 (Qp0 x1 y1 z1 a0 a1 a2),.int .i64 (Qp0 x2 y2 z2 a0 a1 a2)]) m:=by
 refine Ctr.en Tryz.func250 [.cell 4 59] 22 fun hwf Q hQ=>?_
 refine AW.c 1 Tru Tru ?_
 refine AW.q fun K J0=>?_
 refine AW.draw [.val,.rd 0,.val,.rd 0,.ext,.val,.rd 0,.val,.rd 0,.ext,.val,.rd 0,.val,.rd 0,.ext,.ext,.ext,.wr] fol (by decide) (by kernel_rfl) ?_
 iterate 3
  simp only [push_cast,simprocAttr]
  refine DCall.z (Qi3 _ _ _ _ _) ?_
 simp only [push_cast,simprocAttr]
 refine DExt.by (by first|rfl|exact (List.append_nil _).symm|(simp only [List.append_assoc,List.cons_append,List.nil_append];rfl)) ?_
 simp only [push_cast,simprocAttr]
 refine DCall.z (Qe3 _ 0 (Jd3 x0 a0) (Jd3 x1 a0) (Jd3 x2 a0) (Jd3 y0 a1) (Jd3 y1 a1) (Jd3 y2 a1) (Jd3 z0 a2) (Jd3 z1 a2) (Jd3 z2 a2) _ ⟨.grow,3,by simp only [push_cast,simprocAttr]⟩) ?_
 simp only [push_cast,simprocAttr]
 exact AW.f Tru Tru @Xa8
theorem Vq4 (x0 x1 x2 y0 y1 y2 z0 z1 z2 t0 t1 t2 a0 a1 a2:Int)(m:Ja1):Ctr Tryz.prog 222 [.agg [.int .i64 x0,.int .i64 x1,.int .i64 x2,.int .i64 y0,.int .i64 y1,.int .i64 y2,.int .i64 z0,.int .i64 z1,.int .i64 z2,.int .i64 t0,.int .i64 t1,.int .i64 t2],.agg [.int .i64 a0,.int .i64 a1,.int .i64 a2]] m (.agg [.int .i64 (Jc7 (Qp0 x0 y0 z0 a0 a1 a2) t0),.int .i64 (Jc7 (Qp0 x1 y1 z1 a0 a1 a2) t1),.int .i64 (Jc7 (Qp0 x2 y2 z2 a0 a1 a2) t2)]) m:=by
 exact Ctr.fd Tryz.func222 [.cell 4 59] 11 [[.rd 0,.rd 0,.ext,.val,.rd 0,.ext,.wr]] Tru (ca2 (Vz4 _ _ _ _ _ _ _ _ _ _ _ _ _ _ _ _ ) Qw4)
theorem Va1 (x0 x1 x2 y0 y1 y2 z0 z1 z2 t0 t1 t2 a0 a1 a2:Int)(m:Ja1):Ctr Tryz.prog 208 [.agg [.int .i64 x0,.int .i64 x1,.int .i64 x2,.int .i64 y0,.int .i64 y1,.int .i64 y2,.int .i64 z0,.int .i64 z1,.int .i64 z2,.int .i64 t0,.int .i64 t1,.int .i64 t2],.agg [.int .i64 a0,.int .i64 a1,.int .i64 a2]] m (.agg [.int .i64 (Qp0 x0 y0 z0 a0 a1 a2),.int .i64 (Qp0 x1 y1 z1 a0 a1 a2),.int .i64 (Qp0 x2 y2 z2 a0 a1 a2)]) m:=by
 refine Ctr.en Tryz.func208 [.cell 4 54] 22 fun hwf Q hQ=>?_
 refine AW.w 5 Tru Tru fun K J0=>?_
 refine AW.r 4 ?_
 exact AW.fd [[.rd 0,.val,.val,.val,.rd 0,.val,.val,.rd 0,.ext,.ext,.wr],[.rd 0,.val,.val,.val,.rd 0,.val,.val,.rd 0,.ext,.ext,.wr],[.rd 0,.val,.val,.val,.rd 0,.val,.val,.rd 0,.ext,.ext,.wr]] Tru (ca2 Kz4 Qe8) @Xa8
theorem Va0 (x0 x1 x2 y0 y1 y2 z0 z1 z2 t0 t1 t2 a0 a1 a2:Int)(m:Ja1):Ctr Tryz.prog 162 [.agg [.int .i64 x0,.int .i64 x1,.int .i64 x2,.int .i64 y0,.int .i64 y1,.int .i64 y2,.int .i64 z0,.int .i64 z1,.int .i64 z2,.int .i64 t0,.int .i64 t1,.int .i64 t2],.agg [.int .i64 a0,.int .i64 a1,.int .i64 a2]] m (.agg [.int .i64 (Jc7 (Qp0 x0 y0 z0 a0 a1 a2) t0),.int .i64 (Jc7 (Qp0 x1 y1 z1 a0 a1 a2) t1),.int .i64 (Jc7 (Qp0 x2 y2 z2 a0 a1 a2) t2)]) m:=by
 exact Ctr.fd Tryz.func162 [.cell 4 54] 11 [[.rd 0,.rd 0,.ext,.val,.rd 0,.ext,.wr]] Tru (ca2 (Va1 _ _ _ _ _ _ _ _ _ _ _ _ _ _ _ _ ) Qe8)
def Jd7 (a b:V):V:=fun k=>Jc7 (a k) (b k)
def Ja8 (a b:V):V:=fun k=>Je1 (a k) (b k)
def Jd8 (a:V)(s:Int):V:=fun k=>Jd3 (a k) s
def Kh4 (a b:V)(t:Int):V:=fun k=>Je9 (a k) (b k) t
noncomputable def Jb5 (a:V):V:=fun k=>if Jn7 (Qo7 (a 0) (a 1) (a 2) (a 0) (a 1) (a 2))=0 then 0 else Je4 (a k) (Jn7 (Qo7 (a 0) (a 1) (a 2) (a 0) (a 1) (a 2)))
def Je2 (a b:V):Int:=Qo7 (a 0) (a 1) (a 2) (b 0) (b 1) (b 2)
noncomputable def Kb7 (a:V):Int:=Jn7 (Je2 a a)
def Jd4 (a b:V):V
 | 0=>Je1 (Jd3 (a 1) (b 2)) (Jd3 (a 2) (b 1))
 | 1=>Je1 (Jd3 (a 2) (b 0)) (Jd3 (a 0) (b 2))
 | _+2=>Je1 (Jd3 (a 0) (b 1)) (Jd3 (a 1) (b 0))
def Vk6 (a:V):V:=fun k=>Je1 0 (a k)
def v3V (x y z:Int):V
 | 0=>x
 | 1=>y
 | _+2=>z
def z0V:V:=fun _=>0
abbrev MT:=Nat->Nat->Int
def mC (M:MT):List CV:=[.int .i64 (M 0 0),.int .i64 (M 0 1),.int .i64 (M 0 2),.int .i64 (M 1 0),.int .i64 (M 1 1),.int .i64 (M 1 2),.int .i64 (M 2 0),.int .i64 (M 2 1),.int .i64 (M 2 2),.int .i64 (M 3 0),.int .i64 (M 3 1),.int .i64 (M 3 2)]
def Xs1 (M:MT)(a:V):V:=fun k=>Qp0 (M 0 k) (M 1 k) (M 2 k) (a 0) (a 1) (a 2)
def Jo3 (M:MT)(a:V):V:=fun k=>Jc7 (Xs1 M a k) (M 3 k)
def Jo2 (M N:MT):MT
 | 0=>Xs1 M (N 0)
 | 1=>Xs1 M (N 1)
 | 2=>Xs1 M (N 2)
 | _+3=>Jo3 M (N 3)
def Ju1 (s:Int):MT
 | 0,0=>s
 | 1,1=>s
 | 2,2=>s
 | _,_=>0
def Km8 (v:V):MT
 | 0,0=>65536
 | 1,1=>65536
 | 2,2=>65536
 | 3,k=>v k
 | _,_=>0
def Qx0 (a:Int):MT
 | 0,0=>65536
 | 1,1=>Qg9 a
 | 1,2=>Kb4 a
 | 2,1=>-Kb4 a
 | 2,2=>Qg9 a
 | _,_=>0
def Qw9 (a:Int):MT
 | 0,0=>Qg9 a
 | 0,2=>-Kb4 a
 | 1,1=>65536
 | 2,0=>Kb4 a
 | 2,2=>Qg9 a
 | _,_=>0
def Qw8 (a:Int):MT
 | 0,0=>Qg9 a
 | 0,1=>Kb4 a
 | 1,0=>-Kb4 a
 | 1,1=>Qg9 a
 | 2,2=>65536
 | _,_=>0
def Kh0 (A B C:MT):MT:=Jo2 (Jo2 (Jo2 (Ju1 65536) A) B) C
def Jw9 (v:V):MT:=Kh0 (Qx0 (v 0)) (Qw9 (v 1)) (Qw8 (v 2))
theorem Ju5 (a:Int):IntKind.i64.wrap (-Kb4 a)=-Kb4 a:=wi (by have:=Qy2 a;omega)
theorem Qh6 (a b:V)(m:Ja1):Ctr Tryz.prog 136 [.agg (c3C a),.agg (c3C b)] m (.agg (c3C (Jd7 a b))) m:=Qw4 _ _ _ _ _ _ m
theorem Ju3 (a b:V)(m:Ja1):Ctr Tryz.prog 145 [.agg (c3C a),.agg (c3C b)] m (.agg (c3C (Jd7 a b))) m:=Qe8 _ _ _ _ _ _ m
theorem Jh4 (a b:V)(m:Ja1):Ctr Tryz.prog 107 [.agg (c3C a),.agg (c3C b)] m (.agg (c3C (Ja8 a b))) m:=Vx4 _ _ _ _ _ _ m
theorem Je8 (a b:V)(m:Ja1):Ctr Tryz.prog 81 [.agg (c3C a),.agg (c3C b)] m (.agg (c3C (Ja8 a b))) m:=Xd2 _ _ _ _ _ _ m
theorem Jn3 (a b:V)(m:Ja1):Ctr Tryz.prog 110 [.agg (c3C a),.agg (c3C b)] m (.agg (c3C (Jd4 a b))) m:=Vk7 _ _ _ _ _ _ m
theorem Ji3 (a b:V)(m:Ja1):Ctr Tryz.prog 82 [.agg (c3C a),.agg (c3C b)] m (.agg (c3C (Jd4 a b))) m:=Qy9 _ _ _ _ _ _ m
theorem Jv3 (a:V)(s:Int)(m:Ja1):Ctr Tryz.prog 120 [.agg (c3C a),.one (.int .i64 s)] m (.agg (c3C (Jd8 a s))) m:=Qi3 _ _ _ _ m
theorem Jp7 (a:V)(s:Int)(m:Ja1):Ctr Tryz.prog 146 [.agg (c3C a),.one (.int .i64 s)] m (.agg (c3C (Jd8 a s))) m:=Kz4 _ _ _ _ m
theorem Kh7 (a b:V)(t:Int)(m:Ja1):Ctr Tryz.prog 113 [.agg (c3C a),.agg (c3C b),.one (.int .i64 t)] m (.agg (c3C (Kh4 a b t))) m:=Xt2 _ _ _ _ _ _ _ m
theorem Kc5 (a b:V)(t:Int)(m:Ja1):Ctr Tryz.prog 75 [.agg (c3C a),.agg (c3C b),.one (.int .i64 t)] m (.agg (c3C (Kh4 a b t))) m:=Xe0 _ _ _ _ _ _ _ m
theorem Jf0 (a b:V)(m:Ja1):Ctr Tryz.prog 137 [.agg (c3C a),.agg (c3C b)] m (.one (.int .i64 (Je2 a b))) m:=Vx5 _ _ _ _ _ _ m
theorem Jc8 (a b:V)(m:Ja1):Ctr Tryz.prog 155 [.agg (c3C a),.agg (c3C b)] m (.one (.int .i64 (Je2 a b))) m:=Qy8 _ _ _ _ _ _ m
theorem Vr9 (a:V)(m:Ja1):Ctr Tryz.prog 186 [.agg (c3C a)] m (.one (.int .i64 (Kb7 a))) m:=Xt3 _ _ _ m
theorem Qj7 (a:V)(m:Ja1):Ctr Tryz.prog 165 [.agg (c3C a)] m (.one (.int .i64 (Kb7 a))) m:=Xe1 _ _ _ m
theorem neg_v (a:V)(m:Ja1):Ctr Tryz.prog 261 [.agg (c3C a)] m (.agg (c3C (Vk6 a))) m:=Xt1 _ _ _ m
theorem Xp6 (M:MT)(a:V)(m:Ja1):Ctr Tryz.prog 250 [.agg (mC (M)),.agg (c3C a)] m (.agg (c3C (Xs1 M a))) m:=Vz4 _ _ _ _ _ _ _ _ _ _ _ _ _ _ _ m
theorem Vb1 (M:MT)(a:V)(m:Ja1):Ctr Tryz.prog 208 [.agg (mC (M)),.agg (c3C a)] m (.agg (c3C (Xs1 M a))) m:=Va1 _ _ _ _ _ _ _ _ _ _ _ _ _ _ _ m
theorem Jv7 (M:MT)(a:V)(m:Ja1):Ctr Tryz.prog 222 [.agg (mC (M)),.agg (c3C a)] m (.agg (c3C (Jo3 M a))) m:=Vq4 _ _ _ _ _ _ _ _ _ _ _ _ _ _ _ m
theorem Kc4 (M:MT)(a:V)(m:Ja1):Ctr Tryz.prog 162 [.agg (mC (M)),.agg (c3C a)] m (.agg (c3C (Jo3 M a))) m:=Va0 _ _ _ _ _ _ _ _ _ _ _ _ _ _ _ m
theorem Xb9 (a:V)(m:Ja1)(hk:(Kb7 a ==0)=true):Ctr Tryz.prog 106 [.agg (c3C a)] m (.agg (c3C (Jb5 a))) m:=by
 refine Ctr.en Tryz.func106 [.cell 2 59] 22 fun hwf Q hQ=>?_
 have hv:Jb5 a=fun _=>0:=by
   funext k;unfold Jb5
   have:Jn7 (Qo7 (a 0) (a 1) (a 2) (a 0) (a 1) (a 2))=Kb7 a:=rfl
   rw [this,if_pos (eq_of_beq hk)]
 rw [hv] at hQ
 have U1:=ca2 @Ja5 hk
 exact AW.f U1 (Vr9 a)
theorem Vm7 (a:V)(m:Ja1)(hk:(Kb7 a ==0)=true):Ctr Tryz.prog 80 [.agg (c3C a)] m (.agg (c3C (Jb5 a))) m:=by
 refine Ctr.en Tryz.func80 [.cell 2 54] 23 fun hwf Q hQ=>?_
 have hv:Jb5 a=fun _=>0:=by
   funext k;unfold Jb5
   have:Jn7 (Qo7 (a 0) (a 1) (a 2) (a 0) (a 1) (a 2))=Kb7 a:=rfl
   rw [this,if_pos (eq_of_beq hk)]
 rw [hv] at hQ
 have U2:=ca2 @Ja5 hk
 exact AW.f U2 (Qj7 a)
theorem Xb8 (a:V)(m:Ja1)(hk:(Kb7 a ==0)=false):Ctr Tryz.prog 106 [.agg (c3C a)] m (.agg (c3C (Jb5 a))) m:=by
 refine Ctr.en Tryz.func106 [.cell 2 59] 22 fun hwf Q hQ=>?_
 have hv:Jb5 a=fun k=>Je4 (a k) (Kb7 a):=by
   funext k;unfold Jb5
   have:Jn7 (Qo7 (a 0) (a 1) (a 2) (a 0) (a 1) (a 2))=Kb7 a:=rfl
   rw [this,if_neg (by simpa using hk)]
 rw [hv] at hQ
 have U3:=ca2 @Ja5 hk
 exact AW.fd [[.val,.rd 0,.val,.ext,.val,.rd 0,.val,.ext,.val,.rd 0,.val,.ext,.val,.wr]] U3 (ca2 (Vr9 a) Jr3)
theorem Vm6 (a:V)(m:Ja1)(hk:(Kb7 a ==0)=false):Ctr Tryz.prog 80 [.agg (c3C a)] m (.agg (c3C (Jb5 a))) m:=by
 refine Ctr.en Tryz.func80 [.cell 2 54] 23 fun hwf Q hQ=>?_
 have hv:Jb5 a=fun k=>Je4 (a k) (Kb7 a):=by
   funext k;unfold Jb5
   have:Jn7 (Qo7 (a 0) (a 1) (a 2) (a 0) (a 1) (a 2))=Kb7 a:=rfl
   rw [this,if_neg (by simpa using hk)]
 rw [hv] at hQ
 have U4:=ca2 @Ja5 hk
 refine AW.w 11 U4 (Qj7 a) fun K J0=>?_
 refine AW.r 4 ?_
 exact AW.f U4 Jj8
theorem Jr4 (a:V)(m:Ja1):Ctr Tryz.prog 106 [.agg (c3C a)] m (.agg (c3C (Jb5 a))) m:=by
 cases hk:Kb7 a ==0
 ·exact Xb8 a m hk
 exact Xb9 a m hk
theorem Jm7 (a:V)(m:Ja1):Ctr Tryz.prog 80 [.agg (c3C a)] m (.agg (c3C (Jb5 a))) m:=by
 cases hk:Kb7 a ==0
 ·exact Vm6 a m hk
 exact Vm7 a m hk
theorem Qj0 (s:Int)(m:Ja1):Ctr Tryz.prog 218 [.one (.int .i64 s)] m (.agg (mC (Ju1 s))) m:=by
 exact Ctr.f Tryz.func218 [.cell 2 342] 10 Tru Tru
theorem Ka2 (s:Int)(m:Ja1):Ctr Tryz.prog 203 [.one (.int .i64 s)] m (.agg (mC (Ju1 s))) m:=by
 refine Ctr.en Tryz.func203 [.cell 2 288] 16 fun hwf Q hQ=>?_
 refine AW.w 5 Tru Tru fun K J0=>?_
 refine AW.r 4 ?_
 exact AW.f Tru Tru
theorem Kh8 (M:MT):mC M=([.int .i64 (M 0 0),.int .i64 (M 0 1),.int .i64 (M 0 2),.int .i64 (M 1 0),.int .i64 (M 1 1),.int .i64 (M 1 2),.int .i64 (M 2 0),.int .i64 (M 2 1),.int .i64 (M 2 2),.int .i64 (M 3 0),.int .i64 (M 3 1),.int .i64 (M 3 2)]):=rfl
theorem Kr8 (m:Ja1):Ctr Tryz.prog 248 [] m (.agg (mC (Ju1 65536))) m:=by
 exact Ctr.f Tryz.func248 [.cell 0 342] 2 @Kh8 Qj0
theorem Ve0 (v:V)(m:Ja1):Ctr Tryz.prog 216 [.agg (c3C v)] m (.agg (mC (Km8 v))) m:=by
 have U5:=ca2 @Kh8 @Ja5
 exact Ctr.f Tryz.func216 [.cell 2 342] 8 U5 Kr8
theorem Xf8 (v:V)(m:Ja1):Ctr Tryz.prog 205 [.agg (c3C v)] m (.agg (mC (Km8 v))) m:=by
 have U6:=ca2 @Kh8 @Ja5
 exact Ctr.f Tryz.func205 [.cell 2 288] 8 U6 Ka2
theorem Ke4 (M N:MT)(m:Ja1):Ctr Tryz.prog 219 [.agg (mC (M)),.agg (mC (N))] m (.agg (mC (Jo2 M N))) m:=by
 have U7:=ca2 @Kh8 @Ja5
 exact Ctr.fd Tryz.func219 [.cell 4 342] 22 [[.rd 0,.val,.rd 0,.ext,.rd 0,.val,.rd 0,.ext,.rd 0,.val,.rd 0,.ext,.rd 0,.val,.rd 0,.ext,.val,.wr]] U7 (ca4 (Xp6 M (N 0)) (Xp6 M (N 1)) (Xp6 M (N 2)) (Jv7 M (N 3)))
theorem Ki1 (M N:MT)(m:Ja1):Ctr Tryz.prog 207 [.agg (mC (M)),.agg (mC (N))] m (.agg (mC (Jo2 M N))) m:=by
 refine Ctr.en Tryz.func207 [.cell 4 288] 26 fun hwf Q hQ=>?_
 have U8:=ca2 @Kh8 @Ja5
 refine AW.w 5 U8 Tru fun K J0=>?_
 refine AW.r 4 ?_
 exact AW.fd [[.val,.rd 0,.val,.val,.val,.rd 0,.ext,.val,.val,.wr],[.val,.rd 0,.val,.val,.val,.rd 0,.ext,.val,.val,.wr],[.val,.rd 0,.val,.val,.val,.rd 0,.ext,.val,.val,.wr]] U8 (ca4 (Vb1 M (N 0)) (Vb1 M (N 1)) (Vb1 M (N 2)) (Kc4 M (N 3)))
theorem Kx6 (r v:Nat)(A B C:MT)(m:Ja1)(hb:∃ k ez,m[r]?=some ⟨k,342,v,ez,mC A++(mC B++mC C)⟩):Ctr Tryz.prog 215 [.one (.sl r v 0 3)] m (.agg (mC (Kh0 A B C))) m:=by
 refine Ctr.en Tryz.func215 [.cell 2 342] 18 fun hwf Q hQ=>?_
 obtain ⟨k0,ez,hb⟩:=hb
 have lb:=Ja7 hb
 have U9:=ca3 hb (Ja4 hb) @Kh8
 refine AW.w 5 U9 Kr8 fun K J0=>?_
 refine AW.r 4 ?_
 exact AW.f U9 (ca3 (Ke4 (Ju1 65536) A) (Ke4 (Jo2 (Ju1 65536) A) B) (Ke4 (Jo2 (Jo2 (Ju1 65536) A) B) C))
theorem Qk0 (r v:Nat)(A B C:MT)(m:Ja1)(hb:∃ k ez,m[r]?=some ⟨k,288,v,ez,mC A++(mC B++mC C)⟩):Ctr Tryz.prog 204 [.one (.sl r v 0 3)] m (.agg (mC (Kh0 A B C))) m:=by
 refine Ctr.en Tryz.func204 [.cell 2 288] 19 fun hwf Q hQ=>?_
 obtain ⟨k0,ez,hb⟩:=hb
 have lb:=Ja7 hb
 have U10:=ca3 hb (Ja4 hb) @Kh8
 refine AW.w 5 U10 Ka2 fun K J0=>?_
 refine AW.r 4 ?_
 exact AW.fd [[.rd 0,.val,.val,.val,.rd 0,.ext,.wr],[.rd 0,.val,.val,.val,.rd 0,.ext,.wr],[.rd 0,.val,.val,.val,.rd 0,.ext,.wr]] U10 (ca3 (Ki1 (Ju1 65536) A) (Ki1 (Jo2 (Ju1 65536) A) B) (Ki1 (Jo2 (Jo2 (Ju1 65536) A) B) C))
theorem Xc2 (a:Int)(m:Ja1):Ctr Tryz.prog 249 [.one (.int .i64 0),.one (.int .i64 a)] m (.agg (mC (Qx0 a))) m:=by
 have hw:=Ju5 a
 have U11:=ca3 @Kh8 hw @Int.zero_sub
 exact Ctr.f Tryz.func249 [.cell 4 342] 46 U11 (ca4 (Ky1 a) (Qi1 a) Kr8 Qb2)
theorem Vo0 (a:Int)(m:Ja1):Ctr Tryz.prog 245 [.one (.int .i64 0),.one (.int .i64 a)] m (.agg (mC (Qx0 a))) m:=by
 have hw:=Ju5 a
 have U12:=ca3 @Kh8 hw @Int.zero_sub
 exact Ctr.f Tryz.func245 [.cell 4 288] 53 U12 (ca3 (Kk0 a) (Ku0 a) Ka2)
theorem Xc1 (a:Int)(m:Ja1):Ctr Tryz.prog 249 [.one (.int .i64 1),.one (.int .i64 a)] m (.agg (mC (Qw9 a))) m:=by
 have hw:=Ju5 a
 have U13:=ca3 @Kh8 hw @Int.zero_sub
 exact Ctr.f Tryz.func249 [.cell 4 342] 46 U13 (ca4 (Ky1 a) (Qi1 a) Kr8 Qb2)
theorem Vn9 (a:Int)(m:Ja1):Ctr Tryz.prog 245 [.one (.int .i64 1),.one (.int .i64 a)] m (.agg (mC (Qw9 a))) m:=by
 have hw:=Ju5 a
 have U14:=ca3 @Kh8 hw @Int.zero_sub
 exact Ctr.f Tryz.func245 [.cell 4 288] 53 U14 (ca3 (Kk0 a) (Ku0 a) Ka2)
theorem Xc0 (a:Int)(m:Ja1):Ctr Tryz.prog 249 [.one (.int .i64 2),.one (.int .i64 a)] m (.agg (mC (Qw8 a))) m:=by
 have hw:=Ju5 a
 have U15:=ca3 @Kh8 hw @Int.zero_sub
 exact Ctr.f Tryz.func249 [.cell 4 342] 46 U15 (ca4 (Ky1 a) (Qi1 a) Kr8 Qb2)
theorem Vn8 (a:Int)(m:Ja1):Ctr Tryz.prog 245 [.one (.int .i64 2),.one (.int .i64 a)] m (.agg (mC (Qw8 a))) m:=by
 have hw:=Ju5 a
 have U16:=ca3 @Kh8 hw @Int.zero_sub
 exact Ctr.f Tryz.func245 [.cell 4 288] 53 U16 (ca3 (Kk0 a) (Ku0 a) Ka2)
theorem Qe4 (v:V)(m:Ja1):Ctr Tryz.prog 217 [.agg (c3C v)] m (.agg (mC (Jw9 v))) m:=by
 refine Ctr.en Tryz.func217 [.cell 2 342] 14 fun hwf Q hQ=>?_
 have U17:=ca2 @Kh8 @Ja5
 refine AW.c 1 U17 Tru ?_
 refine AW.q fun K J0=>?_
 refine AW.draw [.val,.rd 0,.ext,.val,.rd 0,.ext,.val,.rd 0,.ext,.ext,.ext,.wr] fol (by decide) (by kernel_rfl) ?_
 simp only [push_cast,simprocAttr,U17]
 refine DCall.z (Xc2 _ _) ?_
 simp only [push_cast,simprocAttr,U17]
 refine DCall.z (Xc1 _ _) ?_
 simp only [push_cast,simprocAttr,U17]
 refine DCall.z (Xc0 _ _) ?_
 simp only [push_cast,simprocAttr,U17]
 refine DExt.by (by first|rfl|exact (List.append_nil _).symm|(simp only [List.append_assoc,List.cons_append,List.nil_append];rfl)) ?_
 simp only [push_cast,simprocAttr,U17]
 refine DCall.z (Kx6 (m.length+2) 0 (Qx0 (v 0)) (Qw9 (v 1)) (Qw8 (v 2)) _ ⟨.grow,12,by rw [Jf3];rfl⟩) ?_
 simp only [push_cast,simprocAttr,U17]
 exact AW.f Tru Tru
theorem Vn7 (v:V)(m:Ja1):Ctr Tryz.prog 206 [.agg (c3C v)] m (.agg (mC (Jw9 v))) m:=by
 refine Ctr.en Tryz.func206 [.cell 2 288] 14 fun hwf Q hQ=>?_
 have U18:=ca2 @Kh8 @Ja5
 refine AW.c 1 U18 Tru ?_
 refine AW.q fun K J0=>?_
 refine AW.draw [.val,.rd 0,.ext,.val,.rd 0,.ext,.val,.rd 0,.ext,.ext,.ext,.wr] fol (by decide) (by kernel_rfl) ?_
 simp only [push_cast,simprocAttr,U18]
 refine DCall.z (Vo0 _ _) ?_
 simp only [push_cast,simprocAttr,U18]
 refine DCall.z (Vn9 _ _) ?_
 simp only [push_cast,simprocAttr,U18]
 refine DCall.z (Vn8 _ _) ?_
 simp only [push_cast,simprocAttr,U18]
 refine DExt.by (by first|rfl|exact (List.append_nil _).symm|(simp only [List.append_assoc,List.cons_append,List.nil_append];rfl)) ?_
 simp only [push_cast,simprocAttr,U18]
 refine DCall.z (Qk0 (m.length+2) 0 (Qx0 (v 0)) (Qw9 (v 1)) (Qw8 (v 2)) _ ⟨.grow,12,by rw [Jf3];rfl⟩) ?_
 simp only [push_cast,simprocAttr,U18]
 exact AW.f Tru Tru
def plZ (T:Nat->Int)(x:Int):Nat->Int
 | 0=>-1
 | n+1=>if T n<=x then (n:Int) else plZ T x n
def Qe1 (a x:Int):Int:=if a<x then -1 else if x<a then 1 else 0
def loN (T:Nat->Int)(x:Int)(n:Nat):Nat:=fbN (fun k=>decide (T k<x)) n
theorem Xj7 (T:Nat->Int)(x:Int):∀ n,-1<=plZ T x n/\plZ T x n<(n:Int)
 | 0=>by show -1<=-1/\(-1:Int)<0;omega
 | n+1=>by have:=Xj7 T x n;unfold plZ;split<;>omega
theorem Kw9 {f:Nat->Bool}:∀ n,fbN f n<n->f (fbN f n)=false/\∀ k,k<fbN f n->f k=true
 | 0,h=>by unfold fbN at h;omega
 | n+1,h=>by
  unfold fbN at h ⊢
  split
  ·rename_i q;exact Kw9 n q
  rename_i q
  rw [if_neg q] at h
  split at h
  ·omega
  rename_i h1
  rw [if_neg h1]
  have:=Qo4 (f:=f) n (by have:=Kg7 f n;omega)
  exact ⟨by simpa using h1,this⟩
theorem Xy4 {T:Nat->Int}{x:Int}{n k:Nat}(h:k<loN T x n):T k<x:=by
 unfold loN at h
 have hl:=Kg7 (fun k=>decide (T k<x)) n
 rcases Nat.lt_or_ge (fbN (fun k=>decide (T k<x)) n) n with q|q
 ·exact of_decide_eq_true ((Kw9 n q).2 k h)
 exact of_decide_eq_true (Qo4 (f:=fun k=>decide (T k<x)) n (by omega) k (by omega))
theorem lo_at {T:Nat->Int}{x:Int}{n:Nat}(h:loN T x n<n):x<=T (loN T x n):=by
 have:=of_decide_eq_false (Kw9 (f:=fun k=>decide (T k<x)) n h).1
 unfold loN;omega
def Rise (T:Nat->Int)(n:Nat):Prop:=∀ i j,i<j->j<n->T i<T j
theorem Vy9 {T:Nat->Int}{x:Int}{n:Nat}(hr:Rise T n):plZ T x n=if loN T x n<n/\T (loN T x n)=x then (loN T x n:Int) else (loN T x n:Int) - 1:=by
 obtain ⟨a,ha⟩:∃ a,a=loN T x n:=⟨_,rfl⟩
 have hal:a<=n:=by rw [ha];exact Kg7 _ _
 have h1:∀ k,k<a->T k<x:=fun k hk=>Xy4 (n:=n) (by omega)
 have h2:a<n->x<=T a:=fun h=>by rw [ha] at h ⊢;exact lo_at h
 rw [<-ha]
 have key:∀ m,m<=n->plZ T x m=if m<=a then (m:Int) - 1 else if T a=x then (a:Int) else (a:Int) - 1:=by
  intro m
  induction m with
  | zero=>intro _;rw [if_pos (Nat.zero_le _)];rfl
  | succ m ih =>
   intro hm
   have ih:=ih (by omega)
   unfold plZ
   rcases Nat.lt_trichotomy m a with q|q|q
   ·rw [if_pos (by have:=h1 m q;omega),if_pos (by omega)];omega
   ·subst q
    rw [if_neg (by omega:¬m+1<=m)]
    rw [if_pos (Nat.le_refl _)] at ih
    by_cases e:T m=x
    ·rw [if_pos (by omega),if_pos e]
    have:=h2 (by omega)
    rw [if_neg (by omega),if_neg e];exact ih
   have h3:=hr a m q (by omega)
   have:=h2 (by omega)
   rw [if_neg (by omega),if_neg (by omega)]
   rw [if_neg (by omega)] at ih;exact ih
 rw [key n (Nat.le_refl _)]
 by_cases h:n<=a
 ·rw [if_pos h,if_neg (by omega)];omega
 rw [if_neg h]
 by_cases e:T a=x
 ·rw [if_pos e,if_pos ⟨by omega,e⟩]
 rw [if_neg e,if_neg (fun q=>e q.2)]
theorem Ki5 {w:Int}{n:Nat}{T:Nat->Int}{W:Nat->Nat->Int}(h:TrR w n T W):Rise T n:=by
 intro i j hij hj
 induction j with
 | zero=>omega
 | succ j ih =>
  have h1:=(h.2.2.2.2 (j+1) hj).2.2.1 (by omega)
  rw [Nat.add_sub_cancel] at h1
  rcases Nat.lt_or_ge i j with q|q
  ·have:=ih q (by omega);omega
  have:i=j:=by omega
  subst this;exact h1
def Qt7 (t:Int):Int:=Jd3 (Jd3 (Jb6 t) (Jb6 t)) (196608 - 2*Jb6 t)
def Kq9 (T:Nat->Int)(x:Int)(a:Nat):Int:=Je4 (IntKind.i64.wrap (x - T a)) (IntKind.i64.wrap (T (a+1) - T a))
def trV (w:Int)(n:Nat)(T:Nat->Int)(W:Nat->Nat->Int)(x:Int):V :=
 if plZ T x n<0 then W 0 else if plZ T x n=(n:Int) - 1\/w=0 then W (plZ T x n).toNat else
  Kh4 (W (plZ T x n).toNat) (W ((plZ T x n).toNat+1)) (if w=2 then Qt7 (Kq9 T x (plZ T x n).toNat) else Kq9 T x (plZ T x n).toNat)
theorem Vh0 (t:Int):Qt7 t=(Jd3 (Jd3 (Jb6 t) (Jb6 t)) (196608 - 2*Jb6 t)):=rfl
theorem Ya6 (t:Int)(m:Ja1):Ctr Tryz.prog 257 [.one (.int .i64 t)] m (.one (.int .i64 (Qt7 t))) m:=by
 have hu:=Jt5 t
 have w1:IntKind.i64.wrap (2*Jb6 t)=2*Jb6 t:=wi (by omega)
 have w2:IntKind.i64.wrap (196608 - 2*Jb6 t)=196608 - 2*Jb6 t:=wi (by omega)
 have w3:Je1 196608 (2*Jb6 t)=196608 - 2*Jb6 t:=by unfold Je1;rw [Jb4 (n:=196608) (by decide),Jb4 (n:=2*Jb6 t) (by omega),Jb4 (by omega)]
 have U1:=ca2 w1 w3
 exact Ctr.f Tryz.func257 [.tmp 2] 12 U1 (ca3 Kj5 Jk7 Jx0) @Vh0
theorem Xh9 (t:Int)(m:Ja1):Ctr Tryz.prog 210 [.one (.int .i64 t)] m (.one (.int .i64 (Qt7 t))) m:=by
 have hu:=Jt5 t
 have w1:IntKind.i64.wrap (2*Jb6 t)=2*Jb6 t:=wi (by omega)
 have w2:IntKind.i64.wrap (196608 - 2*Jb6 t)=196608 - 2*Jb6 t:=wi (by omega)
 have w3:Je1 196608 (2*Jb6 t)=196608 - 2*Jb6 t:=by unfold Je1;rw [Jb4 (n:=196608) (by decide),Jb4 (n:=2*Jb6 t) (by omega),Jb4 (by omega)]
 have U2:=ca2 w1 w2
 exact Ctr.f Tryz.func210 [.tmp 2] 13 U2 (ca2 Jv5 Ji2) @Vh0
theorem Yb3 (T:Nat->Int)(W:Nat->Nat->Int)(j:Nat)(x:Int)(m:Ja1):Ctr Tryz.prog 269 [.agg (keC T W j),.one (.int .i64 x)] m (.one (.int .i64 (Qe1 (T j) x))) m:=by
 refine Ctr.en Tryz.func269 [.tmp 4] 15 fun hwf Q hQ=>?_
 have gk:=Js0 T W j
 refine AW.w 4 gk Tru fun K J0=>?_
 refine AW.cond rfl (fun h5=>?_) (fun h5=>?_)
 ·have hr:Qe1 (T j) x=-1:=by have:=of_decide_eq_true h5;unfold Qe1;rw [if_pos this]
  exact AW.f gk Tru hr
 refine AW.c 1 gk Tru ?_
 refine AW.cond rfl (fun h10=>?_) (fun h10=>?_)
 ·have hr:Qe1 (T j) x=1:=by have h0:=of_decide_eq_false h5;have:=of_decide_eq_true h10;unfold Qe1;rw [if_neg h0,if_pos this]
  exact AW.f gk Tru hr
 have hr:Qe1 (T j) x=0:=by have h0:=of_decide_eq_false h5;have:=of_decide_eq_false h10;unfold Qe1;rw [if_neg h0,if_neg this]
 exact AW.f gk Tru hr
theorem Yc5 (r v n:Nat)(T:Nat->Int)(W:Nat->Nat->Int)(x:Int)(m:Ja1)(hr:∃ k e,m[r]?=some ⟨k,223,v,e,Jb2 n (keC T W)⟩)(hn:n<=1000000)(hT:Rise T n):Ctr Tryz.prog 268 [.one (.sl r v 0 n),.one (.int .i64 x),.one (.fn 269 [])] m (.tup [(false,[.int .i64 ((loN T x n:Nat):Int)]),(false,[.bool (decide (loN T x n<n)&&(Qe1 (T (loN T x n)) x ==0))])]) m:=by
 refine Ctr.en Tryz.func268 [.tmp 6,.tmp 7] 49 fun hwf Q hQ=>?_
 obtain ⟨kr,er,hr⟩:=hr
 have lr:=Ja7 hr
 have gl:(Jb2 n (keC T W)).length=n*4:=Ja6 (w:=4) (F:=keC T W) (fun _=>rfl) n
 have pw:(2:Int) ^ min 1 IntKind.u64.bits=2:=by decide
 have U3:=ca4 hr (Ja4 hr) gl pw
 refine AW.w 5 U3 Tru fun K J0=>?_
 refine AW.loopK [0,1,2,8] (fun q=>q.1<=q.2/\q.2<=n/\(∀ k,k<q.1->T k<x)/\(q.2<n->x<=T q.2)) (fun q=>[(9,.one (.int .i64 ((q.1:Nat):Int))),(10,.one (.int .i64 ((q.2:Nat):Int)))]) (fun q=>[]) (fun q=>q.2 - q.1) ((0,n):Nat × Nat) ⟨Nat.zero_le _,Nat.le_refl _,fun k h=>by omega,fun h=>by omega⟩ ?_ ?_ fun q hi2=>?_
 · first|rfl|(simp only [KS,simprocAttr,Int.natCast_zero]<;>repeat' (first|rfl|apply And.intro))
 · first|rfl|(simp only [Ja2,push_cast,simprocAttr,U3,Int.natCast_zero]<;>rfl)
 obtain ⟨i,j⟩:=q
 obtain ⟨h1,h2,h3,h4⟩:=hi2
 dsimp only at h1 h2 h3 h4 ⊢
 try simp only [Ja9,Ja2,push_cast,simprocAttr,U3]
 refine AW.w 2 U3 Tru fun K J1=>?_
 refine AW.cond rfl (fun h17=>?_) (fun h17=>?_)
 ·have hij:i<j:=by have:=of_decide_eq_true h17;omega
  obtain ⟨z,hz⟩:∃ z,z=(i+j) / 2:=⟨_,rfl⟩
  have hz1:i<=z:=by omega
  have hz2:z<j:=by omega
  have hzn:z<n:=by omega
  have u1:IntKind.i64.wrap ((i:Int)+(j:Int))=((i+j:Nat):Int):=by rw [wi (by omega)];push_cast;rfl
  have u2:IntKind.u64.wrap ((i+j:Nat):Int)=((i+j:Nat):Int):=by simp [IntKind.wrap,IntKind.signed,IntKind.bits];omega
  have u3:((i+j:Nat):Int).fdiv 2=(z:Int):=by rw [Int.fdiv_eq_ediv_of_nonneg _ (by decide),hz];omega
  have u4:IntKind.i64.wrap (z:Int)=(z:Int):=wi (by omega)
  have u5:IntKind.u64.wrap (z:Int)=(z:Int):=by simp [IntKind.wrap,IntKind.signed,IntKind.bits];omega
  have u6:IntKind.i64.wrap ((z:Int)+1)=((z+1:Nat):Int):=by rw [wi (by omega)];push_cast;rfl
  have u7:((i+j:Nat):Int)=(i:Int)+(j:Int):=by push_cast;rfl
  rw [u7] at u1 u2 u3
  have c1:(0:Int)<=(z:Int):=by omega
  have c2:(z:Int)<(n:Int):=by omega
  have c3:z*4+4<=n*4:=by omega
  have ga:=Jb7 (w:=4) (F:=keC T W) (fun _=>rfl) hzn
  have gk:=Js0 T W z
  refine AW.w 3 Tru Tru ?_
  have U4:=ca4 U3 u1 u2 (ca4 u3 u4 u5 (ca4 u6 c1 c2 (ca4 c3 ga gk hzn)))
  refine AW.c 2 U4 (Yb3 T W z x) ?_
  refine AW.cond rfl (fun h31=>?_) (fun h31=>?_)
  ·have hlt:T z<x:=by have:=of_decide_eq_true h31;unfold Qe1 at this;(repeat' split at this)<;>omega
   obtain ⟨nx,hnx0⟩:∃ nx:Nat × Nat,nx=(z+1,j):=⟨_,rfl⟩
   have hnx:nx.1=z+1/\nx.2=j:=by rw [hnx0];exact ⟨rfl,rfl⟩
   have hnI:nx.1<=nx.2/\nx.2<=n/\(∀ k,k<nx.1->T k<x)/\(nx.2<n->x<=T nx.2):=by
     rw [hnx0];refine ⟨by show z+1<=j;omega,h2,fun k hk=>?_,h4⟩
     have hk2:k<z+1:=hk
     rcases Nat.lt_or_ge k z with q|q
     · have:=hT k z q hzn;omega
     have:k=z:=by omega
     rw [this];exact hlt
   have hnm:nx.2 - nx.1<j - i:=by rw [hnx0];show j - (z+1)<j - i;omega
   refine AW.w 1 U4 Tru ?_
   exact Wk nx U4 hnx (hI:=hnI) (hm:=hnm)
  have hge:x<=T z:=by have:=of_decide_eq_false h31;unfold Qe1 at this;(repeat' split at this)<;>omega
  obtain ⟨nx,hnx0⟩:∃ nx:Nat × Nat,nx=(i,z):=⟨_,rfl⟩
  have hnx:nx.1=i/\nx.2=z:=by rw [hnx0];exact ⟨rfl,rfl⟩
  have hnI:nx.1<=nx.2/\nx.2<=n/\(∀ k,k<nx.1->T k<x)/\(nx.2<n->x<=T nx.2):=by
    rw [hnx0];exact ⟨hz1,by show z<=n;omega,h3,fun _=>hge⟩
  have hnm:nx.2 - nx.1<j - i:=by rw [hnx0];show z - i<j - i;omega
  refine AW.w 1 U4 Tru ?_
  exact Wk nx U4 hnx (hI:=hnI) (hm:=hnm)
 have hij:i=j:=by have:=of_decide_eq_false h17;omega
 subst hij
 have hlo:loN T x n=i:=by
   rcases Nat.lt_or_ge i n with q|q
   · exact Ko3 (fun k hk=>decide_eq_true (h3 k hk)) (decide_eq_false (by have:=h4 q;omega)) n q
   have e:i=n:=by omega
   subst e;exact Kb1 i fun k hk=>decide_eq_true (h3 k hk)
 rw [hlo] at hQ
 refine AW.w 2 Tru Tru ?_
 refine AW.q fun K J0=>?_
 rcases Nat.lt_or_ge i n with hin|hin
 ·have p1:(i:Int)<(n:Int):=by omega
  have c1:(0:Int)<=(i:Int):=by omega
  have c3:i*4+4<=n*4:=by omega
  have ga:=Jb7 (w:=4) (F:=keC T W) (fun _=>rfl) hin
  have gk:=Js0 T W i
  rw [decide_eq_true hin,Bool.true_and] at hQ
  have U5:=ca4 U3 p1 c1 (ca4 c3 ga gk hin)
  exact AW.f U5 (Yb3 T W i x)
 have p1:¬(i:Int)<(n:Int):=by omega
 rw [decide_eq_false (by omega:¬i<n),Bool.false_and] at hQ
 have U6:=ca2 U3 p1
 exact AW.f U6 Tru
theorem Xx2 (w:Int)(r v n:Nat)(T:Nat->Int)(W:Nat->Nat->Int)(x:Int)(m:Ja1)(hr:∃ k e,m[r]?=some ⟨k,223,v,e,Jb2 n (keC T W)⟩)(hR:TrR w n T W)(hk:(decide (loN T x n<n)&&(Qe1 (T (loN T x n)) x ==0))=true):Ctr Tryz.prog 256 [.agg [.int .i64 w,.sl r v 0 n],.one (.int .i64 x)] m (.one (.int .i64 (plZ T x n))) m:=by
 refine Ctr.en Tryz.func256 [.tmp 4] 18 fun hwf Q hQ=>?_
 obtain ⟨kr,er,hr⟩:=hr
 have lr:=Ja7 hr
 have gl:(Jb2 n (keC T W)).length=n*4:=Ja6 (w:=4) (F:=keC T W) (fun _=>rfl) n
 have hn16:=hR.2.2.2.1
 have hn1:=hR.2.2.1
 have hp:plZ T x n=(loN T x n:Int):=by
   rw [Vy9 (Ki5 hR)]
   simp only [Bool.and_eq_true,decide_eq_true_eq,beq_iff_eq] at hk
   rw [if_pos ⟨hk.1,by have:=hk.2;unfold Qe1 at this;(repeat' split at this)<;>omega⟩]
 have hln:loN T x n<=n:=Kg7 _ _
 have hw:IntKind.i64.wrap ((loN T x n:Int) - 1)=(loN T x n:Int) - 1:=wi (by omega)
 rw [hp] at hQ
 have U1:=ca4 hr (Ja4 hr) gl (ca2 hk hw)
 exact AW.f U1 (Yc5 r v n T W x _ ⟨kr,er,Ja4 hr _⟩ (by omega) (Ki5 hR))
theorem Xx1 (w:Int)(r v n:Nat)(T:Nat->Int)(W:Nat->Nat->Int)(x:Int)(m:Ja1)(hr:∃ k e,m[r]?=some ⟨k,223,v,e,Jb2 n (keC T W)⟩)(hR:TrR w n T W)(hk:(decide (loN T x n<n)&&(Qe1 (T (loN T x n)) x ==0))=false):Ctr Tryz.prog 256 [.agg [.int .i64 w,.sl r v 0 n],.one (.int .i64 x)] m (.one (.int .i64 (plZ T x n))) m:=by
 refine Ctr.en Tryz.func256 [.tmp 4] 18 fun hwf Q hQ=>?_
 obtain ⟨kr,er,hr⟩:=hr
 have lr:=Ja7 hr
 have gl:(Jb2 n (keC T W)).length=n*4:=Ja6 (w:=4) (F:=keC T W) (fun _=>rfl) n
 have hn16:=hR.2.2.2.1
 have hn1:=hR.2.2.1
 have hp:plZ T x n=(loN T x n:Int) - 1:=by
   rw [Vy9 (Ki5 hR),if_neg fun q=>?_]
   have:(decide (loN T x n<n)&&(Qe1 (T (loN T x n)) x ==0))=true:=by
     simp only [Bool.and_eq_true,decide_eq_true_eq,beq_iff_eq]
     exact ⟨q.1,by unfold Qe1;rw [q.2,if_neg (by omega),if_neg (by omega)]⟩
   rw [this] at hk;cases hk
 have hln:loN T x n<=n:=Kg7 _ _
 have hw:IntKind.i64.wrap ((loN T x n:Int) - 1)=(loN T x n:Int) - 1:=wi (by omega)
 rw [hp] at hQ
 have U2:=ca4 hr (Ja4 hr) gl (ca2 hk hw)
 exact AW.f U2 (Yc5 r v n T W x _ ⟨kr,er,Ja4 hr _⟩ (by omega) (Ki5 hR))
theorem Vc0 (w:Int)(r v n:Nat)(T:Nat->Int)(W:Nat->Nat->Int)(x:Int)(m:Ja1)(hr:∃ k e,m[r]?=some ⟨k,223,v,e,Jb2 n (keC T W)⟩)(hR:TrR w n T W):Ctr Tryz.prog 256 [.agg [.int .i64 w,.sl r v 0 n],.one (.int .i64 x)] m (.one (.int .i64 (plZ T x n))) m:=by
 cases hk:(decide (loN T x n<n)&&(Qe1 (T (loN T x n)) x ==0))
 ·exact Xx1 w r v n T W x m hr hR hk
 exact Xx2 w r v n T W x m hr hR hk
theorem Kz9 (w:Int)(r v n:Nat)(T:Nat->Int)(W:Nat->Nat->Int)(x:Int)(m:Ja1)(hr:∃ k e,m[r]?=some ⟨k,285,v,e,Jb2 n (keC T W)⟩)(hR:TrR w n T W):Ctr Tryz.prog 209 [.agg [.int .i64 w,.sl r v 0 n],.one (.int .i64 x)] m (.one (.int .i64 (plZ T x n))) m:=by
 refine Ctr.en Tryz.func209 [.tmp 4] 24 fun hwf Q hQ=>?_
 obtain ⟨kr,er,hr⟩:=hr
 have lr:=Ja7 hr
 have gl:(Jb2 n (keC T W)).length=n*4:=Ja6 (w:=4) (F:=keC T W) (fun _=>rfl) n
 have hn16:=hR.2.2.2.1
 have hn1:=hR.2.2.1
 have U3:=ca3 hr (Ja4 hr) gl
 refine AW.w 5 U3 Tru fun K J0=>?_
 refine AW.loopK [1,2] (fun i=>i<=n) (fun i=>[(5,.one (.int .i64 (plZ T x i))),(6,.one (.int .i64 (i:Int)))]) (fun i=>[]) (fun i=>n - i) 0 (by omega) ?_ ?_ fun i hi2=>?_
 · first|rfl|(simp only [KS,simprocAttr,plZ,Int.natCast_zero]<;>repeat' (first|rfl|apply And.intro))
 · first|rfl|(simp only [Ja2,push_cast,simprocAttr,U3,plZ,Int.natCast_zero]<;>rfl)
 try simp only [Ja9,Ja2,push_cast,simprocAttr,U3]
 refine AW.w 2 U3 Tru fun K J1=>?_
 refine AW.cond rfl (fun h11=>?_) (fun h11=>?_)
 ·have hlt:i<n:=by have:=of_decide_eq_true h11;omega
  have c1:(0:Int)<=(i:Int):=by omega
  have c2:(i:Int)<(n:Int):=by omega
  have ga0:(Jb2 n (keC T W))[i*4]?=some (.int .i64 (T i)):=Jg9 (w:=4) (F:=keC T W) (fun _=>rfl) hlt (a:=0) (by omega)
  refine AW.w 4 Tru Tru fun K J1=>?_
  have U4:=ca4 U3 c1 c2 (ca2 ga0 hlt)
  refine AW.c 1 U4 Tru ?_
  refine AW.cond rfl (fun h21=>?_) (fun h21=>?_)
  ·have hnx:plZ T x (i+1)=(i:Int):=if_pos (of_decide_eq_true h21)
   refine AW.w 3 U4 Tru ?_
   have hwi:IntKind.i64.wrap ((i:Int)+1)=(i:Int)+1:=wi (by omega)
   exact Wk (i+1) U4 (ca2 hwi hnx)
  have hnx:plZ T x (i+1)=plZ T x i:=if_neg (of_decide_eq_false h21)
  refine AW.w 3 U4 Tru ?_
  have hwi:IntKind.i64.wrap ((i:Int)+1)=(i:Int)+1:=wi (by omega)
  exact Wk (i+1) U4 (ca2 hwi hnx)
 have hin:i=n:=by have:=of_decide_eq_false h11;omega
 rw [hin]
 exact AW.f U3 Tru
theorem Yc3 (w:Int)(r v n:Nat)(T:Nat->Int)(W:Nat->Nat->Int)(x:Int)(m:Ja1)(hr:∃ k e,m[r]?=some ⟨k,223,v,e,Jb2 n (keC T W)⟩)(hR:TrR w n T W)(h0:plZ T x n<0):Ctr Tryz.prog 229 [.agg [.int .i64 w,.sl r v 0 n],.one (.int .i64 x)] m (.agg (c3C (trV w n T W x))) m:=by
 refine Ctr.en Tryz.func229 [.cell 4 59] 74 fun hwf Q hQ=>?_
 obtain ⟨kr,er,hr⟩:=hr
 have lr:=Ja7 hr
 have gl:(Jb2 n (keC T W)).length=n*4:=Ja6 (w:=4) (F:=keC T W) (fun _=>rfl) n
 have hn16:=hR.2.2.2.1
 have hn1:=hR.2.2.1
 have hd:=decide_eq_true hR
 have hv:trV w n T W x=W 0:=if_pos h0
 rw [hv] at hQ
 have g0:(0:Int)<(n:Int):=by omega
 have g2:0*4+4<=n*4:=by omega
 have ga:((Jb2 n (keC T W)).drop (0*4+1)).take 3=[.int .i64 (W 0 0),.int .i64 (W 0 1),.int .i64 (W 0 2)]:=Kf8 (w:=4) (F:=keC T W) (fun _=>rfl) hn1 (a:=1) (b:=3) (by omega)
 simp only [Nat.zero_mul,Nat.zero_add] at ga
 have g3:1+3<=n*4:=by omega
 have g4:0<n:=by omega
 have U5:=ca4 hr (Ja4 hr) gl (ca4 hd @Ja5 h0 (ca4 g0 ga g3 g4))
 exact AW.f U5 (ca2 (Kt1 w r v n T W _ ⟨kr,er,Ja4 hr _⟩) (Vc0 w r v n T W x _ ⟨kr,er,Ja4 hr _⟩ hR))
theorem Yc2 (w:Int)(r v n:Nat)(T:Nat->Int)(W:Nat->Nat->Int)(x:Int)(m:Ja1)(hr:∃ k e,m[r]?=some ⟨k,223,v,e,Jb2 n (keC T W)⟩)(hR:TrR w n T W)(a:Nat)(ha:plZ T x n=(a:Int))(han:a<n)(hk:(a:Int)=(n:Int) - 1):Ctr Tryz.prog 229 [.agg [.int .i64 w,.sl r v 0 n],.one (.int .i64 x)] m (.agg (c3C (trV w n T W x))) m:=by
 refine Ctr.en Tryz.func229 [.cell 4 59] 74 fun hwf Q hQ=>?_
 obtain ⟨kr,er,hr⟩:=hr
 have lr:=Ja7 hr
 have gl:(Jb2 n (keC T W)).length=n*4:=Ja6 (w:=4) (F:=keC T W) (fun _=>rfl) n
 have hn16:=hR.2.2.2.1
 have hn1:=hR.2.2.1
 have hd:=decide_eq_true hR
 have hw1:IntKind.i64.wrap ((n:Int) - 1)=(n:Int) - 1:=wi (by omega)
 have c1:(0:Int)<=(a:Int):=by omega
 have c2:(a:Int)<(n:Int):=by omega
 have c3:a*4+4<=n*4:=by omega
 have c4:a*4+1+3<=n*4:=by omega
 have nn:¬(a:Int)<0:=by omega
 have eb:((a:Int) ==(n:Int) - 1)=true:=by simpa using hk
 have hv:trV w n T W x=W a:=by
   unfold trV;rw [ha,if_neg nn,if_pos (.inl hk)];rfl
 rw [hv] at hQ
 have ga:((Jb2 n (keC T W)).drop (a*4+1)).take 3=[.int .i64 (W a 0),.int .i64 (W a 1),.int .i64 (W a 2)]:=Kf8 (w:=4) (F:=keC T W) (fun _=>rfl) han (a:=1) (b:=3) (by omega)
 have U6:=ca4 hr (Ja4 hr) gl (ca4 hd @Ja5 ha (ca4 nn hw1 eb (ca4 c1 c2 c3 (ca3 c4 ga han))))
 exact AW.f U6 (ca2 (Kt1 w r v n T W _ ⟨kr,er,Ja4 hr _⟩) (Vc0 w r v n T W x _ ⟨kr,er,Ja4 hr _⟩ hR))
theorem Yc1 (w:Int)(r v n:Nat)(T:Nat->Int)(W:Nat->Nat->Int)(x:Int)(m:Ja1)(hr:∃ k e,m[r]?=some ⟨k,223,v,e,Jb2 n (keC T W)⟩)(hR:TrR w n T W)(a:Nat)(ha:plZ T x n=(a:Int))(han:a<n)(hk:¬(a:Int)=(n:Int) - 1)(hw0:w=0):Ctr Tryz.prog 229 [.agg [.int .i64 w,.sl r v 0 n],.one (.int .i64 x)] m (.agg (c3C (trV w n T W x))) m:=by
 refine Ctr.en Tryz.func229 [.cell 4 59] 74 fun hwf Q hQ=>?_
 obtain ⟨kr,er,hr⟩:=hr
 have lr:=Ja7 hr
 have gl:(Jb2 n (keC T W)).length=n*4:=Ja6 (w:=4) (F:=keC T W) (fun _=>rfl) n
 have hn16:=hR.2.2.2.1
 have hn1:=hR.2.2.1
 have hd:=decide_eq_true hR
 have hw1:IntKind.i64.wrap ((n:Int) - 1)=(n:Int) - 1:=wi (by omega)
 have c1:(0:Int)<=(a:Int):=by omega
 have c2:(a:Int)<(n:Int):=by omega
 have c3:a*4+4<=n*4:=by omega
 have c4:a*4+1+3<=n*4:=by omega
 have nn:¬(a:Int)<0:=by omega
 have eb:((a:Int) ==(n:Int) - 1)=false:=by simpa using hk
 have ew:(w ==0)=true:=by simpa using hw0
 have hv:trV w n T W x=W a:=by
   unfold trV;rw [ha,if_neg nn,if_pos (.inr hw0)];rfl
 rw [hv] at hQ
 have ga:((Jb2 n (keC T W)).drop (a*4+1)).take 3=[.int .i64 (W a 0),.int .i64 (W a 1),.int .i64 (W a 2)]:=Kf8 (w:=4) (F:=keC T W) (fun _=>rfl) han (a:=1) (b:=3) (by omega)
 have U7:=ca4 hr (Ja4 hr) gl (ca4 hd @Ja5 ha (ca4 nn hw1 eb (ca4 ew c1 c2 (ca4 c3 c4 ga han))))
 exact AW.f U7 (ca2 (Kt1 w r v n T W _ ⟨kr,er,Ja4 hr _⟩) (Vc0 w r v n T W x _ ⟨kr,er,Ja4 hr _⟩ hR))
theorem Yc0 (w:Int)(r v n:Nat)(T:Nat->Int)(W:Nat->Nat->Int)(x:Int)(m:Ja1)(hr:∃ k e,m[r]?=some ⟨k,223,v,e,Jb2 n (keC T W)⟩)(hR:TrR w n T W)(a:Nat)(ha:plZ T x n=(a:Int))(han:a<n)(hk:¬(a:Int)=(n:Int) - 1)(hw0:¬w=0)(hw2:w=2):Ctr Tryz.prog 229 [.agg [.int .i64 w,.sl r v 0 n],.one (.int .i64 x)] m (.agg (c3C (trV w n T W x))) m:=by
 refine Ctr.en Tryz.func229 [.cell 4 59] 74 fun hwf Q hQ=>?_
 obtain ⟨kr,er,hr⟩:=hr
 have lr:=Ja7 hr
 have gl:(Jb2 n (keC T W)).length=n*4:=Ja6 (w:=4) (F:=keC T W) (fun _=>rfl) n
 have hn16:=hR.2.2.2.1
 have hn1:=hR.2.2.1
 have hd:=decide_eq_true hR
 have hw1:IntKind.i64.wrap ((n:Int) - 1)=(n:Int) - 1:=wi (by omega)
 have c1:(0:Int)<=(a:Int):=by omega
 have c2:(a:Int)<(n:Int):=by omega
 have c3:a*4+4<=n*4:=by omega
 have c4:a*4+1+3<=n*4:=by omega
 have nn:¬(a:Int)<0:=by omega
 have e2:(w ==2)=true:=by simpa using hw2
 have eb:((a:Int) ==(n:Int) - 1)=false:=by simpa using hk
 have ew:(w ==0)=false:=by simpa using hw0
 have han2:a+1<n:=by omega
 have hw2b:IntKind.i64.wrap ((a:Int)+1)=((a+1:Nat):Int):=by rw [wi (by omega)];push_cast;rfl
 have d1:(0:Int)<=((a+1:Nat):Int):=by omega
 have d2:((a+1:Nat):Int)<(n:Int):=by omega
 have d3:(a+1)*4+4<=n*4:=by omega
 obtain ⟨z,hz⟩:∃ z,z=a+1:=⟨_,rfl⟩
 rw [<-hz] at hw2b d1 d2 d3 han2
 have ga:=Jb7 (w:=4) (F:=keC T W) (fun _=>rfl) han
 have gz:=Jb7 (w:=4) (F:=keC T W) (fun _=>rfl) han2
 have ka:=Js0 T W a
 have kz:=Js0 T W z
 have hv:trV w n T W x=Kh4 (W a) (W z) (Qt7 (Kq9 T x a)):=by
   unfold trV;rw [ha,if_neg nn,if_neg (fun q=>q.elim hk hw0),if_pos hw2,hz];rfl
 rw [hv] at hQ
 have hpa:Kq9 T x a=Je4 (IntKind.i64.wrap (x - T a)) (IntKind.i64.wrap (T z - T a)):=by rw [hz];rfl
 rw [hpa] at hQ
 have U8:=ca4 hr (Ja4 hr) gl (ca4 hd @Ja5 ha (ca4 nn hw1 eb (ca4 ew e2 hw2b (ca4 c1 c2 c3 (ca4 d1 d2 d3 (ca4 ga gz ka (ca3 kz han han2)))))))
 exact AW.fd [[.val,.rd 0,.val,.val,.rd 0,.val,.rw 0,.val,.val,.val,.rw 0,.ext,.fl,.wr,.wr]] U8 (ca4 (Kt1 w r v n T W _ ⟨kr,er,Ja4 hr _⟩) (Vc0 w r v n T W x _ ⟨kr,er,Ja4 hr _⟩ hR) Jr3 (ca2 Ya6 (Kh7 (W a) (W z))))
theorem Yb9 (w:Int)(r v n:Nat)(T:Nat->Int)(W:Nat->Nat->Int)(x:Int)(m:Ja1)(hr:∃ k e,m[r]?=some ⟨k,223,v,e,Jb2 n (keC T W)⟩)(hR:TrR w n T W)(a:Nat)(ha:plZ T x n=(a:Int))(han:a<n)(hk:¬(a:Int)=(n:Int) - 1)(hw0:¬w=0)(hw2:¬w=2):Ctr Tryz.prog 229 [.agg [.int .i64 w,.sl r v 0 n],.one (.int .i64 x)] m (.agg (c3C (trV w n T W x))) m:=by
 refine Ctr.en Tryz.func229 [.cell 4 59] 74 fun hwf Q hQ=>?_
 obtain ⟨kr,er,hr⟩:=hr
 have lr:=Ja7 hr
 have gl:(Jb2 n (keC T W)).length=n*4:=Ja6 (w:=4) (F:=keC T W) (fun _=>rfl) n
 have hn16:=hR.2.2.2.1
 have hn1:=hR.2.2.1
 have hd:=decide_eq_true hR
 have hw1:IntKind.i64.wrap ((n:Int) - 1)=(n:Int) - 1:=wi (by omega)
 have c1:(0:Int)<=(a:Int):=by omega
 have c2:(a:Int)<(n:Int):=by omega
 have c3:a*4+4<=n*4:=by omega
 have c4:a*4+1+3<=n*4:=by omega
 have nn:¬(a:Int)<0:=by omega
 have e2:(w ==2)=false:=by simpa using hw2
 have eb:((a:Int) ==(n:Int) - 1)=false:=by simpa using hk
 have ew:(w ==0)=false:=by simpa using hw0
 have han2:a+1<n:=by omega
 have hw2b:IntKind.i64.wrap ((a:Int)+1)=((a+1:Nat):Int):=by rw [wi (by omega)];push_cast;rfl
 have d1:(0:Int)<=((a+1:Nat):Int):=by omega
 have d2:((a+1:Nat):Int)<(n:Int):=by omega
 have d3:(a+1)*4+4<=n*4:=by omega
 obtain ⟨z,hz⟩:∃ z,z=a+1:=⟨_,rfl⟩
 rw [<-hz] at hw2b d1 d2 d3 han2
 have ga:=Jb7 (w:=4) (F:=keC T W) (fun _=>rfl) han
 have gz:=Jb7 (w:=4) (F:=keC T W) (fun _=>rfl) han2
 have ka:=Js0 T W a
 have kz:=Js0 T W z
 have hv:trV w n T W x=Kh4 (W a) (W z) (Kq9 T x a):=by
   unfold trV;rw [ha,if_neg nn,if_neg (fun q=>q.elim hk hw0),if_neg hw2,hz];rfl
 rw [hv] at hQ
 have hpa:Kq9 T x a=Je4 (IntKind.i64.wrap (x - T a)) (IntKind.i64.wrap (T z - T a)):=by rw [hz];rfl
 rw [hpa] at hQ
 have U9:=ca4 hr (Ja4 hr) gl (ca4 hd @Ja5 ha (ca4 nn hw1 eb (ca4 ew e2 hw2b (ca4 c1 c2 c3 (ca4 d1 d2 d3 (ca4 ga gz ka (ca3 kz han han2)))))))
 exact AW.fd [[.val,.rd 0,.val,.val,.rd 0,.val,.rw 0,.val,.val,.val,.rw 0,.ext,.fl,.wr,.wr]] U9 (ca4 (Kt1 w r v n T W _ ⟨kr,er,Ja4 hr _⟩) (Vc0 w r v n T W x _ ⟨kr,er,Ja4 hr _⟩ hR) Jr3 (Kh7 (W a) (W z)))
theorem cat_c (w:Int)(r v n:Nat)(T:Nat->Int)(W:Nat->Nat->Int)(x:Int)(m:Ja1)(hr:∃ k e,m[r]?=some ⟨k,223,v,e,Jb2 n (keC T W)⟩)(hR:TrR w n T W):Ctr Tryz.prog 229 [.agg [.int .i64 w,.sl r v 0 n],.one (.int .i64 x)] m (.agg (c3C (trV w n T W x))) m:=by
 have hb:=Xj7 T x n
 by_cases h0:plZ T x n<0
 ·exact Yc3 w r v n T W x m hr hR h0
 obtain ⟨a,ha⟩:∃ a:Nat,plZ T x n=(a:Int):=⟨(plZ T x n).toNat,by omega⟩
 have han:a<n:=by omega
 by_cases h1:(a:Int)=(n:Int) - 1
 ·exact Yc2 w r v n T W x m hr hR a ha han h1
 by_cases h2:w=0
 ·exact Yc1 w r v n T W x m hr hR a ha han h1 h2
 by_cases h3:w=2
 ·exact Yc0 w r v n T W x m hr hR a ha han h1 h2 h3
 exact Yb9 w r v n T W x m hr hR a ha han h1 h2 h3
theorem Xw9 (w:Int)(r v n:Nat)(T:Nat->Int)(W:Nat->Nat->Int)(x:Int)(m:Ja1)(hr:∃ k e,m[r]?=some ⟨k,285,v,e,Jb2 n (keC T W)⟩)(hR:TrR w n T W)(h0:plZ T x n<0):Ctr Tryz.prog 164 [.agg [.int .i64 w,.sl r v 0 n],.one (.int .i64 x)] m (.agg (c3C (trV w n T W x))) m:=by
 refine Ctr.en Tryz.func164 [.cell 4 54] 72 fun hwf Q hQ=>?_
 obtain ⟨kr,er,hr⟩:=hr
 have lr:=Ja7 hr
 have gl:(Jb2 n (keC T W)).length=n*4:=Ja6 (w:=4) (F:=keC T W) (fun _=>rfl) n
 have hn16:=hR.2.2.2.1
 have hn1:=hR.2.2.1
 have hd:=decide_eq_true hR
 have hv:trV w n T W x=W 0:=if_pos h0
 rw [hv] at hQ
 have g0:(0:Int)<(n:Int):=by omega
 have g2:0*4+4<=n*4:=by omega
 have ga:((Jb2 n (keC T W)).drop (0*4+1)).take 3=[.int .i64 (W 0 0),.int .i64 (W 0 1),.int .i64 (W 0 2)]:=Kf8 (w:=4) (F:=keC T W) (fun _=>rfl) hn1 (a:=1) (b:=3) (by omega)
 simp only [Nat.zero_mul,Nat.zero_add] at ga
 have g3:1+3<=n*4:=by omega
 have g4:0<n:=by omega
 have U10:=ca4 hr (Ja4 hr) gl (ca4 hd @Ja5 h0 (ca4 g0 ga g3 g4))
 exact AW.f U10 (ca2 (Ks1 w r v n T W _ ⟨kr,er,Ja4 hr _⟩) (Kz9 w r v n T W x _ ⟨kr,er,Ja4 hr _⟩ hR))
theorem Xw8 (w:Int)(r v n:Nat)(T:Nat->Int)(W:Nat->Nat->Int)(x:Int)(m:Ja1)(hr:∃ k e,m[r]?=some ⟨k,285,v,e,Jb2 n (keC T W)⟩)(hR:TrR w n T W)(a:Nat)(ha:plZ T x n=(a:Int))(han:a<n)(hk:(a:Int)=(n:Int) - 1):Ctr Tryz.prog 164 [.agg [.int .i64 w,.sl r v 0 n],.one (.int .i64 x)] m (.agg (c3C (trV w n T W x))) m:=by
 refine Ctr.en Tryz.func164 [.cell 4 54] 72 fun hwf Q hQ=>?_
 obtain ⟨kr,er,hr⟩:=hr
 have lr:=Ja7 hr
 have gl:(Jb2 n (keC T W)).length=n*4:=Ja6 (w:=4) (F:=keC T W) (fun _=>rfl) n
 have hn16:=hR.2.2.2.1
 have hn1:=hR.2.2.1
 have hd:=decide_eq_true hR
 have hw1:IntKind.i64.wrap ((n:Int) - 1)=(n:Int) - 1:=wi (by omega)
 have c1:(0:Int)<=(a:Int):=by omega
 have c2:(a:Int)<(n:Int):=by omega
 have c3:a*4+4<=n*4:=by omega
 have c4:a*4+1+3<=n*4:=by omega
 have nn:¬(a:Int)<0:=by omega
 have eb:((a:Int) ==(n:Int) - 1)=true:=by simpa using hk
 have hv:trV w n T W x=W a:=by
   unfold trV;rw [ha,if_neg nn,if_pos (.inl hk)];rfl
 rw [hv] at hQ
 have ga:((Jb2 n (keC T W)).drop (a*4+1)).take 3=[.int .i64 (W a 0),.int .i64 (W a 1),.int .i64 (W a 2)]:=Kf8 (w:=4) (F:=keC T W) (fun _=>rfl) han (a:=1) (b:=3) (by omega)
 have U11:=ca4 hr (Ja4 hr) gl (ca4 hd @Ja5 ha (ca4 nn hw1 eb (ca4 c1 c2 c3 (ca3 c4 ga han))))
 exact AW.f U11 (ca2 (Ks1 w r v n T W _ ⟨kr,er,Ja4 hr _⟩) (Kz9 w r v n T W x _ ⟨kr,er,Ja4 hr _⟩ hR))
theorem Xw7 (w:Int)(r v n:Nat)(T:Nat->Int)(W:Nat->Nat->Int)(x:Int)(m:Ja1)(hr:∃ k e,m[r]?=some ⟨k,285,v,e,Jb2 n (keC T W)⟩)(hR:TrR w n T W)(a:Nat)(ha:plZ T x n=(a:Int))(han:a<n)(hk:¬(a:Int)=(n:Int) - 1)(hw0:w=0):Ctr Tryz.prog 164 [.agg [.int .i64 w,.sl r v 0 n],.one (.int .i64 x)] m (.agg (c3C (trV w n T W x))) m:=by
 refine Ctr.en Tryz.func164 [.cell 4 54] 72 fun hwf Q hQ=>?_
 obtain ⟨kr,er,hr⟩:=hr
 have lr:=Ja7 hr
 have gl:(Jb2 n (keC T W)).length=n*4:=Ja6 (w:=4) (F:=keC T W) (fun _=>rfl) n
 have hn16:=hR.2.2.2.1
 have hn1:=hR.2.2.1
 have hd:=decide_eq_true hR
 have hw1:IntKind.i64.wrap ((n:Int) - 1)=(n:Int) - 1:=wi (by omega)
 have c1:(0:Int)<=(a:Int):=by omega
 have c2:(a:Int)<(n:Int):=by omega
 have c3:a*4+4<=n*4:=by omega
 have c4:a*4+1+3<=n*4:=by omega
 have nn:¬(a:Int)<0:=by omega
 have eb:((a:Int) ==(n:Int) - 1)=false:=by simpa using hk
 have ew:(w ==0)=true:=by simpa using hw0
 have hv:trV w n T W x=W a:=by
   unfold trV;rw [ha,if_neg nn,if_pos (.inr hw0)];rfl
 rw [hv] at hQ
 have ga:((Jb2 n (keC T W)).drop (a*4+1)).take 3=[.int .i64 (W a 0),.int .i64 (W a 1),.int .i64 (W a 2)]:=Kf8 (w:=4) (F:=keC T W) (fun _=>rfl) han (a:=1) (b:=3) (by omega)
 have U12:=ca4 hr (Ja4 hr) gl (ca4 hd @Ja5 ha (ca4 nn hw1 eb (ca4 ew c1 c2 (ca4 c3 c4 ga han))))
 exact AW.f U12 (ca2 (Ks1 w r v n T W _ ⟨kr,er,Ja4 hr _⟩) (Kz9 w r v n T W x _ ⟨kr,er,Ja4 hr _⟩ hR))
theorem Xw6 (w:Int)(r v n:Nat)(T:Nat->Int)(W:Nat->Nat->Int)(x:Int)(m:Ja1)(hr:∃ k e,m[r]?=some ⟨k,285,v,e,Jb2 n (keC T W)⟩)(hR:TrR w n T W)(a:Nat)(ha:plZ T x n=(a:Int))(han:a<n)(hk:¬(a:Int)=(n:Int) - 1)(hw0:¬w=0)(hw2:w=2):Ctr Tryz.prog 164 [.agg [.int .i64 w,.sl r v 0 n],.one (.int .i64 x)] m (.agg (c3C (trV w n T W x))) m:=by
 refine Ctr.en Tryz.func164 [.cell 4 54] 72 fun hwf Q hQ=>?_
 obtain ⟨kr,er,hr⟩:=hr
 have lr:=Ja7 hr
 have gl:(Jb2 n (keC T W)).length=n*4:=Ja6 (w:=4) (F:=keC T W) (fun _=>rfl) n
 have hn16:=hR.2.2.2.1
 have hn1:=hR.2.2.1
 have hd:=decide_eq_true hR
 have hw1:IntKind.i64.wrap ((n:Int) - 1)=(n:Int) - 1:=wi (by omega)
 have c1:(0:Int)<=(a:Int):=by omega
 have c2:(a:Int)<(n:Int):=by omega
 have c3:a*4+4<=n*4:=by omega
 have c4:a*4+1+3<=n*4:=by omega
 have nn:¬(a:Int)<0:=by omega
 have e2:(w ==2)=true:=by simpa using hw2
 have eb:((a:Int) ==(n:Int) - 1)=false:=by simpa using hk
 have ew:(w ==0)=false:=by simpa using hw0
 have han2:a+1<n:=by omega
 have hw2b:IntKind.i64.wrap ((a:Int)+1)=((a+1:Nat):Int):=by rw [wi (by omega)];push_cast;rfl
 have d1:(0:Int)<=((a+1:Nat):Int):=by omega
 have d2:((a+1:Nat):Int)<(n:Int):=by omega
 have d3:(a+1)*4+4<=n*4:=by omega
 obtain ⟨z,hz⟩:∃ z,z=a+1:=⟨_,rfl⟩
 rw [<-hz] at hw2b d1 d2 d3 han2
 have ga:=Jb7 (w:=4) (F:=keC T W) (fun _=>rfl) han
 have gz:=Jb7 (w:=4) (F:=keC T W) (fun _=>rfl) han2
 have ka:=Js0 T W a
 have kz:=Js0 T W z
 have hv:trV w n T W x=Kh4 (W a) (W z) (Qt7 (Kq9 T x a)):=by
   unfold trV;rw [ha,if_neg nn,if_neg (fun q=>q.elim hk hw0),if_pos hw2,hz];rfl
 rw [hv] at hQ
 have hpa:Kq9 T x a=Je4 (IntKind.i64.wrap (x - T a)) (IntKind.i64.wrap (T z - T a)):=by rw [hz];rfl
 rw [hpa] at hQ
 have U13:=ca4 hr (Ja4 hr) gl (ca4 hd @Ja5 ha (ca4 nn hw1 eb (ca4 ew e2 hw2b (ca4 c1 c2 c3 (ca4 d1 d2 d3 (ca4 ga gz ka (ca3 kz han han2)))))))
 exact AW.fd [[.val,.rd 0,.val,.val,.rd 0,.val,.rw 0,.val,.val,.val,.rw 0,.ext,.fl,.wr,.wr]] U13 (ca4 (Ks1 w r v n T W _ ⟨kr,er,Ja4 hr _⟩) (Kz9 w r v n T W x _ ⟨kr,er,Ja4 hr _⟩ hR) Jj8 (ca2 Xh9 (Kc5 (W a) (W z))))
theorem Xw5 (w:Int)(r v n:Nat)(T:Nat->Int)(W:Nat->Nat->Int)(x:Int)(m:Ja1)(hr:∃ k e,m[r]?=some ⟨k,285,v,e,Jb2 n (keC T W)⟩)(hR:TrR w n T W)(a:Nat)(ha:plZ T x n=(a:Int))(han:a<n)(hk:¬(a:Int)=(n:Int) - 1)(hw0:¬w=0)(hw2:¬w=2):Ctr Tryz.prog 164 [.agg [.int .i64 w,.sl r v 0 n],.one (.int .i64 x)] m (.agg (c3C (trV w n T W x))) m:=by
 refine Ctr.en Tryz.func164 [.cell 4 54] 72 fun hwf Q hQ=>?_
 obtain ⟨kr,er,hr⟩:=hr
 have lr:=Ja7 hr
 have gl:(Jb2 n (keC T W)).length=n*4:=Ja6 (w:=4) (F:=keC T W) (fun _=>rfl) n
 have hn16:=hR.2.2.2.1
 have hn1:=hR.2.2.1
 have hd:=decide_eq_true hR
 have hw1:IntKind.i64.wrap ((n:Int) - 1)=(n:Int) - 1:=wi (by omega)
 have c1:(0:Int)<=(a:Int):=by omega
 have c2:(a:Int)<(n:Int):=by omega
 have c3:a*4+4<=n*4:=by omega
 have c4:a*4+1+3<=n*4:=by omega
 have nn:¬(a:Int)<0:=by omega
 have e2:(w ==2)=false:=by simpa using hw2
 have eb:((a:Int) ==(n:Int) - 1)=false:=by simpa using hk
 have ew:(w ==0)=false:=by simpa using hw0
 have han2:a+1<n:=by omega
 have hw2b:IntKind.i64.wrap ((a:Int)+1)=((a+1:Nat):Int):=by rw [wi (by omega)];push_cast;rfl
 have d1:(0:Int)<=((a+1:Nat):Int):=by omega
 have d2:((a+1:Nat):Int)<(n:Int):=by omega
 have d3:(a+1)*4+4<=n*4:=by omega
 obtain ⟨z,hz⟩:∃ z,z=a+1:=⟨_,rfl⟩
 rw [<-hz] at hw2b d1 d2 d3 han2
 have ga:=Jb7 (w:=4) (F:=keC T W) (fun _=>rfl) han
 have gz:=Jb7 (w:=4) (F:=keC T W) (fun _=>rfl) han2
 have ka:=Js0 T W a
 have kz:=Js0 T W z
 have hv:trV w n T W x=Kh4 (W a) (W z) (Kq9 T x a):=by
   unfold trV;rw [ha,if_neg nn,if_neg (fun q=>q.elim hk hw0),if_neg hw2,hz];rfl
 rw [hv] at hQ
 have hpa:Kq9 T x a=Je4 (IntKind.i64.wrap (x - T a)) (IntKind.i64.wrap (T z - T a)):=by rw [hz];rfl
 rw [hpa] at hQ
 have U14:=ca4 hr (Ja4 hr) gl (ca4 hd @Ja5 ha (ca4 nn hw1 eb (ca4 ew e2 hw2b (ca4 c1 c2 c3 (ca4 d1 d2 d3 (ca4 ga gz ka (ca3 kz han han2)))))))
 exact AW.fd [[.val,.rd 0,.val,.val,.rd 0,.val,.rw 0,.val,.val,.val,.rw 0,.ext,.fl,.wr,.wr]] U14 (ca4 (Ks1 w r v n T W _ ⟨kr,er,Ja4 hr _⟩) (Kz9 w r v n T W x _ ⟨kr,er,Ja4 hr _⟩ hR) Jj8 (Kc5 (W a) (W z)))
theorem rat_c (w:Int)(r v n:Nat)(T:Nat->Int)(W:Nat->Nat->Int)(x:Int)(m:Ja1)(hr:∃ k e,m[r]?=some ⟨k,285,v,e,Jb2 n (keC T W)⟩)(hR:TrR w n T W):Ctr Tryz.prog 164 [.agg [.int .i64 w,.sl r v 0 n],.one (.int .i64 x)] m (.agg (c3C (trV w n T W x))) m:=by
 have hb:=Xj7 T x n
 by_cases h0:plZ T x n<0
 ·exact Xw9 w r v n T W x m hr hR h0
 obtain ⟨a,ha⟩:∃ a:Nat,plZ T x n=(a:Int):=⟨(plZ T x n).toNat,by omega⟩
 have han:a<n:=by omega
 by_cases h1:(a:Int)=(n:Int) - 1
 ·exact Xw8 w r v n T W x m hr hR a ha han h1
 by_cases h2:w=0
 ·exact Xw7 w r v n T W x m hr hR a ha han h1 h2
 by_cases h3:w=2
 ·exact Xw6 w r v n T W x m hr hR a ha han h1 h2 h3
 exact Xw5 w r v n T W x m hr hR a ha han h1 h2 h3
def Jj5 (s:SC)(n x:Int):V:=if n<0\/(s.nt:Int)<=n then z0V else trV (s.tw n.toNat) (s.kn n.toNat) (s.kt n.toNat) (s.kv n.toNat) x
abbrev SQ:=MT × Int
def spC (q:SQ):List CV:=[.int .i64 (q.1 0 0),.int .i64 (q.1 0 1),.int .i64 (q.1 0 2),.int .i64 (q.1 1 0),.int .i64 (q.1 1 1),.int .i64 (q.1 1 2),.int .i64 (q.1 2 0),.int .i64 (q.1 2 1),.int .i64 (q.1 2 2),.int .i64 (q.1 3 0),.int .i64 (q.1 3 1),.int .i64 (q.1 3 2),.int .i64 q.2]
def stillQ:SQ:=(Ju1 65536,65536)
def Qk7 (s:SC)(x:Int)(i:Nat):MT:=Kh0 (Km8 (Jj5 s (s.jm i) x)) (Jw9 (Jj5 s (s.jt i) x)) (Ju1 (s.js i))
def onQ (s:SC)(tb:Nat->SQ)(p:Int)(i:Nat):SQ:=if 0<=p/\p<(i:Int) then tb p.toNat else stillQ
def Qq4 (s:SC)(x:Int)(tb:Nat->SQ)(i:Nat):SQ:=(Jo2 (onQ s tb (s.jp i) i).1 (Qk7 s x i),Jd3 (onQ s tb (s.jp i) i).2 (s.js i))
def jts (s:SC)(x:Int):Nat->Nat->SQ
 | 0=>fun _=>stillQ
 | i+1=>fun k=>if k=i then Qq4 s x (jts s x i) i else jts s x i k
def jtQ (s:SC)(x:Int)(k:Nat):SQ:=jts s x (k+1) k
theorem Xa1 (s:SC)(x:Int):∀ {i k:Nat},k<i->jts s x i k=jtQ s x k
 | i+1,k,h=>by
  by_cases e:k=i
  ·rw [e];rfl
  have h1:jts s x (i+1) k=jts s x i k:=if_neg e
  rw [h1];exact Xa1 s x (by omega)
theorem Qm3 (s:SC)(x:Int)(i:Nat):jtQ s x i=Qq4 s x (jtQ s x) i:=by
 have h1:jtQ s x i=Qq4 s x (jts s x i) i:=if_pos rfl
 rw [h1]
 have h2:onQ s (jts s x i) (s.jp i) i=onQ s (jtQ s x) (s.jp i) i:=by
  unfold onQ;split
  ·rename_i h;exact Xa1 s x (by omega)
  rfl
 unfold Qq4;rw [h2]
def joF (s:SC)(x:Int)(k:Nat):List CV:=spC (jtQ s x k)
def spQ (s:SC)(x:Int)(i:Int):SQ:=if i<0 then stillQ else jtQ s x i.toNat
theorem Xp9 (s:SC)(R:RWs)(n x:Int)(m:Ja1)(hR:ScR 140 119 223 148 155 m s R)(hT:∀ i,i<s.nt->TrS s i)(h0:n<0):Ctr Tryz.prog 185 [.agg (scC s R),.one (.int .i64 n),.one (.int .i64 x)] m (.agg (c3C (Jj5 s n x))) m:=by
 refine Ctr.en Tryz.func185 [.cell 6 59] 24 fun hwf Q hQ=>?_
 have hv:Jj5 s n x=z0V:=if_pos (.inl h0)
 rw [hv] at hQ
 have z0:∀ k,z0V k=0:=fun _=>rfl
 have U1:=ca4 @Jg0 @Jf6 @Jf9 (ca3 @Ja5 h0 z0)
 exact AW.f U1 Tru
theorem Xp8 (s:SC)(R:RWs)(n x:Int)(m:Ja1)(hR:ScR 140 119 223 148 155 m s R)(hT:∀ i,i<s.nt->TrS s i)(h0:¬n<0)(h1:(s.nt:Int)<=n):Ctr Tryz.prog 185 [.agg (scC s R),.one (.int .i64 n),.one (.int .i64 x)] m (.agg (c3C (Jj5 s n x))) m:=by
 refine Ctr.en Tryz.func185 [.cell 6 59] 24 fun hwf Q hQ=>?_
 have hv:Jj5 s n x=z0V:=if_pos (.inr h1)
 rw [hv] at hQ
 have z0:∀ k,z0V k=0:=fun _=>rfl
 have U2:=ca4 @Jg0 @Jf6 @Jf9 (ca4 @Ja5 h0 h1 z0)
 exact AW.f U2 Tru
theorem Xp7 (s:SC)(R:RWs)(n x:Int)(m:Ja1)(hR:ScR 140 119 223 148 155 m s R)(hT:∀ i,i<s.nt->TrS s i)(h0:¬n<0)(h1:¬(s.nt:Int)<=n):Ctr Tryz.prog 185 [.agg (scC s R),.one (.int .i64 n),.one (.int .i64 x)] m (.agg (c3C (Jj5 s n x))) m:=by
 refine Ctr.en Tryz.func185 [.cell 6 59] 24 fun hwf Q hQ=>?_
 obtain ⟨kt,et,ht⟩:=hR.ht
 have lt:=Ja7 ht
 have nt:=hR.nt
 have tl:(Jb2 s.nt (tC s R)).length=s.nt*2:=Ja6 (w:=2) (F:=tC s R) (fun _=>rfl) _
 obtain ⟨i,hi⟩:∃ i:Nat,n=(i:Int):=⟨n.toNat,by omega⟩
 subst hi
 have hlt:i<s.nt:=by omega
 obtain ⟨kk,ek,hky⟩:=hR.hk i hlt
 have lky:=Ja7 hky
 have c1:(0:Int)<=(i:Int):=by omega
 have c2:(i:Int)<(s.nt:Int):=by omega
 have c3:i*2+2<=s.nt*2:=by omega
 have ga:=Jb7 (w:=2) (F:=tC s R) (fun _=>rfl) hlt
 have gk:=Vm0 s R i
 have hv:Jj5 s (i:Int) x=trV (s.tw i) (s.kn i) (s.kt i) (s.kv i) x:=by unfold Jj5;rw [if_neg (by omega)];rfl
 rw [hv] at hQ
 have n1:¬(i:Int)<0:=by omega
 have n2:¬(s.nt:Int)<=(i:Int):=by omega
 have U3:=ca4 @Jg0 @Jf6 @Jf9 (ca4 @Ja5 ht (Ja4 ht) (ca4 tl c1 c2 (ca4 c3 ga gk (ca3 hlt n1 n2))))
 exact AW.f U3 (cat_c (s.tw i) (R.k i) (R.vk i) (s.kn i) (s.kt i) (s.kv i) x _ ⟨kk,ek,Ja4 hky _⟩ (hT i hlt))
theorem Kg9 (s:SC)(R:RWs)(n x:Int)(m:Ja1)(hR:ScR 140 119 223 148 155 m s R)(hT:∀ i,i<s.nt->TrS s i):Ctr Tryz.prog 185 [.agg (scC s R),.one (.int .i64 n),.one (.int .i64 x)] m (.agg (c3C (Jj5 s n x))) m:=by
 by_cases h0:n<0
 ·exact Xp9 s R n x m hR hT h0
 by_cases h1:(s.nt:Int)<=n
 ·exact Xp8 s R n x m hR hT h0 h1
 exact Xp7 s R n x m hR hT h0 h1
theorem Xe3 (s:SC)(R:RWs)(n x:Int)(m:Ja1)(hR:ScR 138 143 285 146 150 m s R)(hT:∀ i,i<s.nt->TrS s i)(h0:n<0):Ctr Tryz.prog 79 [.agg (scC s R),.one (.int .i64 n),.one (.int .i64 x)] m (.agg (c3C (Jj5 s n x))) m:=by
 refine Ctr.en Tryz.func79 [.cell 6 54] 17 fun hwf Q hQ=>?_
 have hv:Jj5 s n x=z0V:=if_pos (.inl h0)
 rw [hv] at hQ
 have z0:∀ k,z0V k=0:=fun _=>rfl
 have U4:=ca4 @Jg0 @Jf6 @Jf9 (ca3 @Ja5 h0 z0)
 exact AW.f U4 Tru
theorem Xe2 (s:SC)(R:RWs)(n x:Int)(m:Ja1)(hR:ScR 138 143 285 146 150 m s R)(hT:∀ i,i<s.nt->TrS s i)(h0:¬n<0)(h1:¬(s.nt:Int)<=n):Ctr Tryz.prog 79 [.agg (scC s R),.one (.int .i64 n),.one (.int .i64 x)] m (.agg (c3C (Jj5 s n x))) m:=by
 refine Ctr.en Tryz.func79 [.cell 6 54] 17 fun hwf Q hQ=>?_
 obtain ⟨kt,et,ht⟩:=hR.ht
 have lt:=Ja7 ht
 have nt:=hR.nt
 have tl:(Jb2 s.nt (tC s R)).length=s.nt*2:=Ja6 (w:=2) (F:=tC s R) (fun _=>rfl) _
 obtain ⟨i,hi⟩:∃ i:Nat,n=(i:Int):=⟨n.toNat,by omega⟩
 subst hi
 have hlt:i<s.nt:=by omega
 obtain ⟨kk,ek,hky⟩:=hR.hk i hlt
 have lky:=Ja7 hky
 have c1:(0:Int)<=(i:Int):=by omega
 have c2:(i:Int)<(s.nt:Int):=by omega
 have c3:i*2+2<=s.nt*2:=by omega
 have ga:=Jb7 (w:=2) (F:=tC s R) (fun _=>rfl) hlt
 have gk:=Vm0 s R i
 have hv:Jj5 s (i:Int) x=trV (s.tw i) (s.kn i) (s.kt i) (s.kv i) x:=by unfold Jj5;rw [if_neg (by omega)];rfl
 rw [hv] at hQ
 have n1:¬(i:Int)<0:=by omega
 have n2:¬(s.nt:Int)<=(i:Int):=by omega
 have U5:=ca4 @Jg0 @Jf6 @Jf9 (ca4 @Ja5 ht (Ja4 ht) (ca4 tl c1 c2 (ca4 c3 ga gk (ca3 hlt n1 n2))))
 exact AW.f U5 (rat_c (s.tw i) (R.k i) (R.vk i) (s.kn i) (s.kt i) (s.kv i) x _ ⟨kk,ek,Ja4 hky _⟩ (hT i hlt))
theorem Qj5 (s:SC)(R:RWs)(n x:Int)(m:Ja1)(hR:ScR 138 143 285 146 150 m s R)(hT:∀ i,i<s.nt->TrS s i)(hn:n<(s.nt:Int)):Ctr Tryz.prog 79 [.agg (scC s R),.one (.int .i64 n),.one (.int .i64 x)] m (.agg (c3C (Jj5 s n x))) m:=by
 by_cases h0:n<0
 ·exact Xe3 s R n x m hR hT h0
 exact Xe2 s R n x m hR hT h0 (by omega)
theorem Kj7 (m:Ja1):Ctr Tryz.prog 214 [] m (.agg (spC stillQ)) m:=by
 exact Ctr.f Tryz.func214 [.cell 0 344] 3 @Kh8 Kr8
theorem Ve8 (s:SC)(x:Int)(i:Nat)(M:MT)(r:Int)(h:jtQ s x i=(M,r)):Jb2 i (joF s x)++[.int .i64 (M 0 0),.int .i64 (M 0 1),.int .i64 (M 0 2),.int .i64 (M 1 0),.int .i64 (M 1 1),.int .i64 (M 1 2),.int .i64 (M 2 0),.int .i64 (M 2 1),.int .i64 (M 2 2),.int .i64 (M 3 0),.int .i64 (M 3 1),.int .i64 (M 3 2),.int .i64 r]=Jb2 (i+1) (joF s x):=by
 have h1:Jb2 (i+1) (joF s x)=Jb2 i (joF s x)++spC (jtQ s x i):=rfl
 rw [h1,h];rfl
theorem Xm8 (s:SC)(x:Int)(i:Nat)(on:SQ)(h:onQ s (jtQ s x) (s.jp i) i=on):jtQ s x i=(Jo2 on.1 (Qk7 s x i),Jd3 on.2 (s.js i)):=by
 rw [Qm3 s x i];unfold Qq4;rw [h]
theorem Kt8 (q:SQ):spC q=([.int .i64 (q.1 0 0),.int .i64 (q.1 0 1),.int .i64 (q.1 0 2),.int .i64 (q.1 1 0),.int .i64 (q.1 1 1),.int .i64 (q.1 1 2),.int .i64 (q.1 2 0),.int .i64 (q.1 2 1),.int .i64 (q.1 2 2),.int .i64 (q.1 3 0),.int .i64 (q.1 3 1),.int .i64 (q.1 3 2),.int .i64 q.2]):=rfl
theorem Vs6 (s:SC)(R:RWs)(x:Int)(m:Ja1)(hR:ScR 140 119 223 148 155 m s R)(hT:∀ i,i<s.nt->TrS s i)(hn:s.nj<=1000000):Ctr Tryz.prog 169 [.agg (scC s R),.one (.int .i64 x)] m (.one (.sl m.length 0 0 s.nj)) (m++[⟨.grow,344,0,13,Jb2 (s.nj) (joF s x)⟩]):=by
 refine Ctr.en Tryz.func169 [.tmp 4] 65 fun hwf Q hQ=>?_
 obtain ⟨kj,ej,hj⟩:=hR.hj
 have lj:=Ja7 hj
 have nj:=hR.nj
 have jl:(Jb2 s.nj (jC s)).length=s.nj*4:=Ja6 (w:=4) (F:=jC s) (fun _=>rfl) _
 have hlt0:∀ k,¬m.length+k<m.length:=fun k=>by omega
 have U6:=ca4 @Jg0 @Jf6 @Jf9 (ca4 @Ja5 hj (Ja4 hj) (ca3 jl @Kh8 @Kt8))
 refine AW.w 5 U6 Tru fun K J0=>?_
 refine AW.nilTm 344 13 5 rfl ?_
 try simp only [push_cast,simprocAttr,U6]
 refine AW.loopK [1,2,11,12] (fun i=>i<=s.nj) (fun i=>[(5,.one (.sl (m.length+1) i 0 i)),(13,.one (.int .i64 (i:Int)))]) (fun i=>[(m.length+1,⟨.grow,344,i,13,Jb2 i (joF s x)⟩)]) (fun i=>s.nj - i) 0 (by omega) ?_ ?_ fun i hi2=>?_
 · first|rfl|(simp only [KS,simprocAttr,Jb2,Int.natCast_zero]<;>repeat' (first|rfl|apply And.intro))
 · (simp only [Ja2,push_cast,simprocAttr,Jb2])<;>rfl
 try simp only [Ja9,Ja2,push_cast,simprocAttr,U6]
 refine AW.w 2 U6 Tru fun K J1=>?_
 refine AW.cond rfl (fun h14=>?_) (fun h14=>?_)
 ·have hlt:i<s.nj:=by have:=of_decide_eq_true h14;omega
  have c1:(0:Int)<=(i:Int):=by omega
  have c2:(i:Int)<(s.nj:Int):=by omega
  have c3:i*4+4<=s.nj*4:=by omega
  have ga:=Jb7 (w:=4) (F:=jC s) (fun _=>rfl) hlt
  have gk:=Ve9 s i
  have q1:i<=140737488355327:=by omega
  have q2:(i+1)*104<=140737488355328:=by omega
  have gli:(Jb2 i (joF s x)).length=i*13:=Ja6 (w:=13) (F:=joF s x) (fun _=>rfl) i
  refine AW.w 4 Tru Tru fun K J1=>?_
  have U7:=ca4 U6 c1 c2 (ca4 c3 ga gk (ca4 q1 q2 gli hlt))
  refine AW.w 3 U7 Kj7 fun K J2=>?_
  refine AW.q fun K J3=>?_
  have hk:¬0<=s.jp i\/(0<=s.jp i/\¬s.jp i<(i:Int))\/(0<=s.jp i/\s.jp i<(i:Int)):=by omega
  rcases hk with e1|⟨e1,e2⟩|⟨e1,e2⟩
  ·have hon:(onQ s (jtQ s x) (s.jp i) i)=stillQ:=if_neg (by omega)
   have hap:=Ve8 s x i (Jo2 stillQ.1 (Qk7 s x i)) (Jd3 stillQ.2 (s.js i)) (Xm8 s x i _ hon)
   have U8:=ca2 U7 e1
   refine AW.w 5 U8 Tru ?_
   refine AW.q fun K J2=>?_
   refine AW.draw [.rd 0,.val,.rd 0,.val,.ext,.ext,.rd 0,.val,.rd 0,.val,.ext,.ext,.val,.rd 0,.ext,.ext,.ext,.fl,.wr] fol (by decide) (by kernel_rfl) ?_
   simp only [push_cast,simprocAttr,U8]
   refine DCall.z (Kg9 s R (s.jm i) x _ (hR.app _) hT) ?_
   simp only [push_cast,simprocAttr,U8]
   refine DCall.z (Ve0 _ _) ?_
   simp only [push_cast,simprocAttr,U8]
   refine DCall.z (Kg9 s R (s.jt i) x _ (hR.app _) hT) ?_
   simp only [push_cast,simprocAttr,U8]
   refine DCall.z (Qe4 _ _) ?_
   simp only [push_cast,simprocAttr,U8]
   refine DCall.z (Qj0 _ _) ?_
   simp only [push_cast,simprocAttr,U8]
   refine DExt.by (by first|rfl|exact (List.append_nil _).symm|(simp only [List.append_assoc,List.cons_append,List.nil_append];rfl)) ?_
   simp only [push_cast,simprocAttr,U8]
   refine DCall.z ((by have h:=fun M q=>Kx6 (m.length+4) 0 (Km8 (Jj5 s (s.jm i) x)) (Jw9 (Jj5 s (s.jt i) x)) (Ju1 (s.js i)) M q;rw [show Kh0 (Km8 (Jj5 s (s.jm i) x)) (Jw9 (Jj5 s (s.jt i) x)) (Ju1 (s.js i))=Qk7 s x i from rfl] at h;exact h _ ⟨.grow,12,by rw [Jf3];rfl⟩)) ?_
   simp only [push_cast,simprocAttr,U8]
   refine AW.wd [[.val,.val,.rd 0,.rd 0,.ext,.val,.rd 0,.val,.rd 0,.ext,.val,.ext,.wr,.val]] 4 U8 (ca2 (Ke4 stillQ.1 (Qk7 s x i)) Jk7) ?_
   have hwi:IntKind.i64.wrap ((i:Int)+1)=(i:Int)+1:=wi (by omega)
   refine ⟨i+1,by omega,by omega,?_⟩
   try simp only [Ja9,Ja2,push_cast,simprocAttr,U8,hwi,hap]
   exact Weak.to (extra:=_) (by simp only [KS,simprocAttr,hwi,hap]) (by first|rfl|(simp only [List.append_assoc,List.cons_append,List.nil_append];rfl)) (by first|rfl|(simp [AV.below,CV.below];done)|(simp [AV.below,CV.below];omega)) (by exact MWf.app (hwf.grow (by simp)) (Ja0 (hR.bel _ (by simp)) (Ja0 (Jb8 _ (fun _=>rfl) _) Jb3)))
  ·have hon:(onQ s (jtQ s x) (s.jp i) i)=stillQ:=if_neg (by omega)
   have hap:=Ve8 s x i (Jo2 stillQ.1 (Qk7 s x i)) (Jd3 stillQ.2 (s.js i)) (Xm8 s x i _ hon)
   have U9:=ca3 U7 e1 e2
   refine AW.w 5 U9 Tru ?_
   refine AW.q fun K J2=>?_
   refine AW.draw [.rd 0,.val,.rd 0,.val,.ext,.ext,.rd 0,.val,.rd 0,.val,.ext,.ext,.val,.rd 0,.ext,.ext,.ext,.fl,.wr] fol (by decide) (by kernel_rfl) ?_
   simp only [push_cast,simprocAttr,U9]
   refine DCall.z (Kg9 s R (s.jm i) x _ (hR.app _) hT) ?_
   simp only [push_cast,simprocAttr,U9]
   refine DCall.z (Ve0 _ _) ?_
   simp only [push_cast,simprocAttr,U9]
   refine DCall.z (Kg9 s R (s.jt i) x _ (hR.app _) hT) ?_
   simp only [push_cast,simprocAttr,U9]
   refine DCall.z (Qe4 _ _) ?_
   simp only [push_cast,simprocAttr,U9]
   refine DCall.z (Qj0 _ _) ?_
   simp only [push_cast,simprocAttr,U9]
   refine DExt.by (by first|rfl|exact (List.append_nil _).symm|(simp only [List.append_assoc,List.cons_append,List.nil_append];rfl)) ?_
   simp only [push_cast,simprocAttr,U9]
   refine DCall.z ((by have h:=fun M q=>Kx6 (m.length+4) 0 (Km8 (Jj5 s (s.jm i) x)) (Jw9 (Jj5 s (s.jt i) x)) (Ju1 (s.js i)) M q;rw [show Kh0 (Km8 (Jj5 s (s.jm i) x)) (Jw9 (Jj5 s (s.jt i) x)) (Ju1 (s.js i))=Qk7 s x i from rfl] at h;exact h _ ⟨.grow,12,by rw [Jf3];rfl⟩)) ?_
   simp only [push_cast,simprocAttr,U9]
   refine AW.wd [[.val,.val,.rd 0,.rd 0,.ext,.val,.rd 0,.val,.rd 0,.ext,.val,.ext,.wr,.val]] 4 U9 (ca2 (Ke4 stillQ.1 (Qk7 s x i)) Jk7) ?_
   have hwi:IntKind.i64.wrap ((i:Int)+1)=(i:Int)+1:=wi (by omega)
   refine ⟨i+1,by omega,by omega,?_⟩
   try simp only [Ja9,Ja2,push_cast,simprocAttr,U9,hwi,hap]
   exact Weak.to (extra:=_) (by simp only [KS,simprocAttr,hwi,hap]) (by first|rfl|(simp only [List.append_assoc,List.cons_append,List.nil_append];rfl)) (by first|rfl|(simp [AV.below,CV.below];done)|(simp [AV.below,CV.below];omega)) (by exact MWf.app (hwf.grow (by simp)) (Ja0 (hR.bel _ (by simp)) (Ja0 (Jb8 _ (fun _=>rfl) _) Jb3)))
  obtain ⟨p,hp⟩:∃ p:Nat,s.jp i=(p:Int):=⟨(s.jp i).toNat,by omega⟩
  have hpi:p<i:=by omega
  have hon:(onQ s (jtQ s x) (s.jp i) i)=(jtQ s x p):=by unfold onQ;rw [if_pos ⟨e1,e2⟩,hp];rfl
  have hap:=Ve8 s x i (Jo2 (jtQ s x p).1 (Qk7 s x i)) (Jd3 (jtQ s x p).2 (s.js i)) (Xm8 s x i _ hon)
  rw [hp] at e1 e2
  have p3:p*13+13<=i*13:=by omega
  have gp:=Jb7 (w:=13) (F:=joF s x) (fun _=>rfl) hpi
  have gq:joF s x p=[.int .i64 ((jtQ s x p).1 0 0),.int .i64 ((jtQ s x p).1 0 1),.int .i64 ((jtQ s x p).1 0 2),.int .i64 ((jtQ s x p).1 1 0),.int .i64 ((jtQ s x p).1 1 1),.int .i64 ((jtQ s x p).1 1 2),.int .i64 ((jtQ s x p).1 2 0),.int .i64 ((jtQ s x p).1 2 1),.int .i64 ((jtQ s x p).1 2 2),.int .i64 ((jtQ s x p).1 3 0),.int .i64 ((jtQ s x p).1 3 1),.int .i64 ((jtQ s x p).1 3 2),.int .i64 (jtQ s x p).2]:=rfl
  have U10:=ca4 U7 hp e1 (ca4 e2 p3 gp (ca2 gq hpi))
  refine AW.w 5 U10 Tru ?_
  refine AW.q fun K J2=>?_
  refine AW.draw [.rd 0,.val,.rd 0,.val,.ext,.ext,.rd 0,.val,.rd 0,.val,.ext,.ext,.val,.rd 0,.ext,.ext,.ext,.fl,.wr] fol (by decide) (by kernel_rfl) ?_
  simp only [push_cast,simprocAttr,U10]
  refine DCall.z (Kg9 s R (s.jm i) x _ (hR.app _) hT) ?_
  simp only [push_cast,simprocAttr,U10]
  refine DCall.z (Ve0 _ _) ?_
  simp only [push_cast,simprocAttr,U10]
  refine DCall.z (Kg9 s R (s.jt i) x _ (hR.app _) hT) ?_
  simp only [push_cast,simprocAttr,U10]
  refine DCall.z (Qe4 _ _) ?_
  simp only [push_cast,simprocAttr,U10]
  refine DCall.z (Qj0 _ _) ?_
  simp only [push_cast,simprocAttr,U10]
  refine DExt.by (by first|rfl|exact (List.append_nil _).symm|(simp only [List.append_assoc,List.cons_append,List.nil_append];rfl)) ?_
  simp only [push_cast,simprocAttr,U10]
  refine DCall.z ((by have h:=fun M q=>Kx6 (m.length+4) 0 (Km8 (Jj5 s (s.jm i) x)) (Jw9 (Jj5 s (s.jt i) x)) (Ju1 (s.js i)) M q;rw [show Kh0 (Km8 (Jj5 s (s.jm i) x)) (Jw9 (Jj5 s (s.jt i) x)) (Ju1 (s.js i))=Qk7 s x i from rfl] at h;exact h _ ⟨.grow,12,by rw [Jf3];rfl⟩)) ?_
  simp only [push_cast,simprocAttr,U10]
  refine AW.wd [[.val,.val,.rd 0,.rd 0,.ext,.val,.rd 0,.val,.rd 0,.ext,.val,.ext,.wr,.val]] 4 U10 (ca2 (Ke4 (jtQ s x p).1 (Qk7 s x i)) Jk7) ?_
  have hwi:IntKind.i64.wrap ((i:Int)+1)=(i:Int)+1:=wi (by omega)
  refine ⟨i+1,by omega,by omega,?_⟩
  try simp only [Ja9,Ja2,push_cast,simprocAttr,U10,hwi,hap]
  exact Weak.to (extra:=_) (by simp only [KS,simprocAttr,hwi,hap]) (by first|rfl|(simp only [List.append_assoc,List.cons_append,List.nil_append];rfl)) (by first|rfl|(simp [AV.below,CV.below];done)|(simp [AV.below,CV.below];omega)) (by exact MWf.app (hwf.grow (by simp)) (Ja0 (hR.bel _ (by simp)) (Ja0 (Jb8 _ (fun _=>rfl) _) Jb3)))
 have hin:i=s.nj:=by have:=of_decide_eq_false h14;omega
 rw [hin]
 refine AW.w 4 U6 Tru ?_
 refine hQ _ _ _ ?_
 refine RetP.pick [(m.length+1,s.nj)] (by first|exact Or.inr rfl|exact Or.inl rfl) ?_ ?_ ?_ hwf ?_
 · simp only [Je0,Jb1,Jb9,AV.tv,push_cast,simprocAttr]
   simp [Kg3,Km1,Ka4,Jt4,Jh0,hlt0]
 · simp only [Jm8,push_cast,simprocAttr]
 · simp [Jc2]
 exact Ja0 (Jb8 _ (fun _=>rfl) _) Jb3
theorem Qa1 (s:SC)(R:RWs)(x q:Int)(m:Ja1)(hR:ScR 138 143 285 146 150 m s R)(h0:q<0):Ctr Tryz.prog 161 [.agg (scC s R),.one (.int .i64 q),.one (.int .i64 x)] m (.agg (spC (spQ s x q))) m:=by
 refine Ctr.en Tryz.func161 [.cell 6 290] 51 fun hwf Q hQ=>?_
 have hv:spQ s x q=stillQ:=if_pos h0
 rw [hv] at hQ
 have U1:=ca3 @Kt8 @Kh8 h0
 exact AW.f U1 Ka2
theorem Va3 (s:SC)(R:RWs)(x:Int)(i:Nat)(m:Ja1)(hR:ScR 138 143 285 146 150 m s R)(hT:∀ i,i<s.nt->TrS s i)(hlt:i<s.nj)(hJ:JoR s i)(ih:∀ m,ScR 138 143 285 146 150 m s R->Ctr Tryz.prog 161 [.agg (scC s R),.one (.int .i64 (s.jp i)),.one (.int .i64 x)] m (.agg (spC (spQ s x (s.jp i)))) m):Ctr Tryz.prog 161 [.agg (scC s R),.one (.int .i64 ((i:Int))),.one (.int .i64 x)] m (.agg (spC (spQ s x (i:Int)))) m:=by
 refine Ctr.en Tryz.func161 [.cell 6 290] 51 fun hwf Q hQ=>?_
 obtain ⟨kj,ej,hj⟩:=hR.hj
 have lj:=Ja7 hj
 have nj:=hR.nj
 have jl:(Jb2 s.nj (jC s)).length=s.nj*4:=Ja6 (w:=4) (F:=jC s) (fun _=>rfl) _
 have c3:i*4+4<=s.nj*4:=by omega
 have ga:=Jb7 (w:=4) (F:=jC s) (fun _=>rfl) hlt
 have gk:=Ve9 s i
 have n1:¬(i:Int)<0:=by omega
 have c1:(0:Int)<=(i:Int):=by omega
 have c2:(i:Int)<(s.nj:Int):=by omega
 obtain ⟨j1,j2,j3,_⟩:=hJ
 rw [inB_iff] at j1 j2 j3
 have hv:spQ s x (i:Int)=(Jo2 (spQ s x (s.jp i)).1 (Qk7 s x i),Jd3 (spQ s x (s.jp i)).2 (s.js i)):=by
   unfold spQ
   rw [if_neg n1,Int.toNat_natCast,Qm3];unfold Qq4
   have e:onQ s (jtQ s x) (s.jp i) i=if s.jp i<0 then stillQ else jtQ s x (s.jp i).toNat:=by
     unfold onQ
     by_cases g:s.jp i<0
     · rw [if_neg (by omega),if_pos g]
     rw [if_pos ⟨by omega,by omega⟩,if_neg g]
   rw [e]
 rw [hv] at hQ
 have U2:=ca4 @Jg0 @Jf6 @Jf9 (ca4 @Ja5 hj (Ja4 hj) (ca4 jl @Kh8 @Kt8 (ca4 c1 c2 c3 (ca4 ga gk hlt n1))))
 refine AW.w 8 U2 (ih _ (hR.app _)) ?_
 refine AW.q fun K J0=>?_
 refine AW.draw [.rd 0,.val,.rd 0,.val,.ext,.ext,.rd 0,.val,.rd 0,.val,.ext,.ext,.val,.rd 0,.ext,.ext,.ext,.fl,.wr] fol (by decide) (by kernel_rfl) ?_
 simp only [push_cast,simprocAttr,U2]
 refine DCall.z (Qj5 s R (s.jm i) x _ (hR.app _) hT (by omega)) ?_
 simp only [push_cast,simprocAttr,U2]
 refine DCall.z (Xf8 _ _) ?_
 simp only [push_cast,simprocAttr,U2]
 refine DCall.z (Qj5 s R (s.jt i) x _ (hR.app _) hT (by omega)) ?_
 simp only [push_cast,simprocAttr,U2]
 refine DCall.z (Vn7 _ _) ?_
 simp only [push_cast,simprocAttr,U2]
 refine DCall.z (Ka2 _ _) ?_
 simp only [push_cast,simprocAttr,U2]
 refine DExt.by (by first|rfl|exact (List.append_nil _).symm|(simp only [List.append_assoc,List.cons_append,List.nil_append];rfl)) ?_
 simp only [push_cast,simprocAttr,U2]
 refine DCall.z ((by have h:=fun M q=>Qk0 (m.length+4) 0 (Km8 (Jj5 s (s.jm i) x)) (Jw9 (Jj5 s (s.jt i) x)) (Ju1 (s.js i)) M q;rw [show Kh0 (Km8 (Jj5 s (s.jm i) x)) (Jw9 (Jj5 s (s.jt i) x)) (Ju1 (s.js i))=Qk7 s x i from rfl] at h;exact h _ ⟨.grow,12,by rw [Jf3];rfl⟩)) ?_
 simp only [push_cast,simprocAttr,U2]
 exact AW.fd [[.val,.rd 0,.rd 0,.ext,.val,.rd 0,.val,.rd 0,.ext,.val,.wr]] U2 (ca2 (Ki1 (spQ s x (s.jp i)).1 (Qk7 s x i)) Ji2)
theorem Kv1 (s:SC)(R:RWs)(x:Int)(hT:∀ i,i<s.nt->TrS s i)(hJ:∀ i,i<s.nj->JoR s i):∀ (n:Nat) (q:Int),q<(n:Int)->q<(s.nj:Int)->∀ (m:Ja1),ScR 138 143 285 146 150 m s R->Ctr Tryz.prog 161 [.agg (scC s R),.one (.int .i64 q),.one (.int .i64 x)] m (.agg (spC (spQ s x q))) m
 | 0,q,h0,_,m,hR=>Qa1 s R x q m hR (by omega)
 | n+1,q,h0,h1,m,hR=>by
  by_cases g:q<0
  ·exact Qa1 s R x q m hR g
  obtain ⟨i,rfl⟩:∃ i:Nat,q=(i:Int):=⟨q.toNat,by omega⟩
  have hlt:i<s.nj:=by omega
  have jr:=hJ i hlt
  have j1:=jr.1
  rw [inB_iff] at j1
  exact Va3 s R x i m hR hT hlt jr fun m hR=>Kv1 s R x hT hJ n (s.jp i) (by omega) (by omega) m hR
def Qf7 (s:SC)(i:Nat)(q:SQ):PL:=⟨s.xk i,s.xp i,fun j=>if s.xk i=0 then (if j=0 then Jo3 q.1 (s.xv i 0) else z0V) else Jo3 q.1 (s.xv i j),if s.xk i=0 then Jd3 (s.xr i) q.2 else 0⟩
def plC (p:PL):List CV:=.int .i64 p.kind::.int .i64 p.paint::(c3C (p.P 0)++(c3C (p.P 1)++(c3C (p.P 2)++[.int .i64 p.r])))
theorem Jg4 (p:PL):plC p=[.int .i64 p.kind,.int .i64 p.paint,.int .i64 (p.P 0 0),.int .i64 (p.P 0 1),.int .i64 (p.P 0 2),.int .i64 (p.P 1 0),.int .i64 (p.P 1 1),.int .i64 (p.P 1 2),.int .i64 (p.P 2 0),.int .i64 (p.P 2 1),.int .i64 (p.P 2 2),.int .i64 p.r]:=rfl
theorem Xj9 (s:SC)(i:Nat)(q:SQ)(h:(s.xk i ==0)=true):plC (Qf7 s i q)=[.int .i64 (s.xk i),.int .i64 (s.xp i),.int .i64 (Jo3 q.1 (s.xv i 0) 0),.int .i64 (Jo3 q.1 (s.xv i 0) 1),.int .i64 (Jo3 q.1 (s.xv i 0) 2),.int .i64 0,.int .i64 0,.int .i64 0,.int .i64 0,.int .i64 0,.int .i64 0,.int .i64 (Jd3 (s.xr i) q.2)]:=by
 have h:=eq_of_beq h
 simp [plC,Qf7,c3C,h,z0V]
theorem Xj8 (s:SC)(i:Nat)(q:SQ)(h:(s.xk i ==0)=false):plC (Qf7 s i q)=[.int .i64 (s.xk i),.int .i64 (s.xp i),.int .i64 (Jo3 q.1 (s.xv i 0) 0),.int .i64 (Jo3 q.1 (s.xv i 0) 1),.int .i64 (Jo3 q.1 (s.xv i 0) 2),.int .i64 (Jo3 q.1 (s.xv i 1) 0),.int .i64 (Jo3 q.1 (s.xv i 1) 1),.int .i64 (Jo3 q.1 (s.xv i 1) 2),.int .i64 (Jo3 q.1 (s.xv i 2) 0),.int .i64 (Jo3 q.1 (s.xv i 2) 1),.int .i64 (Jo3 q.1 (s.xv i 2) 2),.int .i64 0]:=by
 have h:¬s.xk i=0:=by simpa using h
 simp [plC,Qf7,c3C,h]
theorem Vf8 (a b:Int)(m:Ja1)(h0:0<=a):Ctr Tryz.prog 220 [.agg [.int .i64 a,.int .i64 b]] m (.one (.bool true)) m:=by
 have U1:=ca3 h0 @decide_true @decide_false
 exact Ctr.f Tryz.func220 [.tmp 2] 6 U1 Tru
theorem Vf9 (a b:Int)(m:Ja1)(h0:¬0<=a):Ctr Tryz.prog 220 [.agg [.int .i64 a,.int .i64 b]] m (.one (.bool false)) m:=by
 have U2:=ca3 h0 @decide_true @decide_false
 exact Ctr.f Tryz.func220 [.tmp 2] 6 U2 Tru
theorem Xb0 (s:SC)(i:Nat)(m:Ja1)(hk:(s.xk i ==0)=true):Ctr Tryz.prog 221 [.agg (xC s i)] m (.one (.sl m.length 0 0 1)) (m++[⟨.grow,59,0,3,c3C (s.xv i 0)⟩]):=by
 refine Ctr.en Tryz.func221 [.tmp 2] 16 fun hwf Q hQ=>?_
 have gx:=Ke2 s i
 have hlt0:∀ k,¬m.length+k<m.length:=fun k=>by omega
 have U3:=ca3 gx hk @Ja5
 refine AW.w 6 U3 Tru fun K J0=>?_
 refine hQ _ _ _ ?_
 refine RetP.pick [(m.length+1,0)] (by first|exact Or.inr rfl|exact Or.inl rfl) ?_ ?_ ?_ hwf ?_
 · simp only [Je0,Jb1,Jb9,AV.tv,push_cast,simprocAttr]
   simp [Kg3,Km1,Ka4,Jt4,Jh0,hlt0]
 · (simp only [Jm8,push_cast,simprocAttr])<;>rfl
 · simp [Jc2]
 exact Vj1 rfl
theorem Xa9 (s:SC)(i:Nat)(m:Ja1)(hk:(s.xk i ==0)=false):Ctr Tryz.prog 221 [.agg (xC s i)] m (.one (.sl m.length 0 0 3)) (m++[⟨.grow,59,0,3,c3C (s.xv i 0)++(c3C (s.xv i 1)++c3C (s.xv i 2))⟩]):=by
 refine Ctr.en Tryz.func221 [.tmp 2] 16 fun hwf Q hQ=>?_
 have gx:=Ke2 s i
 have hlt0:∀ k,¬m.length+k<m.length:=fun k=>by omega
 have U4:=ca3 gx hk @Ja5
 refine AW.w 8 U4 Tru ?_
 refine hQ _ _ _ ?_
 refine RetP.pick [(m.length+1,0)] (by first|exact Or.inr rfl|exact Or.inl rfl) ?_ ?_ ?_ hwf ?_
 · simp only [Je0,Jb1,Jb9,AV.tv,push_cast,simprocAttr]
   simp [Kg3,Km1,Ka4,Jt4,Jh0,hlt0]
 · (simp only [Jm8,push_cast,simprocAttr])<;>rfl
 · simp [Jc2]
 exact Vj1 rfl
theorem Vc3 (s:SC)(i:Nat)(x:Int)(p:Nat)(hp:p<s.nj)(h0:s.xj i=(p:Int))(jb jv:Nat)(m:Ja1)(hb:∃ k e,m[jb]?=some ⟨k,344,jv,e,Jb2 s.nj (joF s x)⟩)  (hk:(s.xk i ==0)=true):Ctr Tryz.prog 170 [.agg (xC s i),.one (.sl jb jv 0 s.nj)] m (.agg (plC (Qf7 s i (jtQ s x p)))) m:=by
 refine Ctr.en Tryz.func170 [.cell 4 84] 59 fun hwf Q hQ=>?_
 have gx:=Ke2 s i
 rw [Xj9 s i _ hk] at hQ
 obtain ⟨k0,e0,hb⟩:=hb
 have lb:=Ja7 hb
 have jl:(Jb2 s.nj (joF s x)).length=s.nj*13:=Ja6 (w:=13) (F:=joF s x) (fun _=>rfl) _
 have c1:(0:Int)<=(p:Int):=by omega
 have c2:(p:Int)<(s.nj:Int):=by omega
 have hh:0<=s.xj i:=by omega
 have p3:p*13+13<=s.nj*13:=by omega
 have gp:=Jb7 (w:=13) (F:=joF s x) (fun _=>rfl) hp
 have gq:joF s x p=[.int .i64 ((jtQ s x p).1 0 0),.int .i64 ((jtQ s x p).1 0 1),.int .i64 ((jtQ s x p).1 0 2),.int .i64 ((jtQ s x p).1 1 0),.int .i64 ((jtQ s x p).1 1 1),.int .i64 ((jtQ s x p).1 1 2),.int .i64 ((jtQ s x p).1 2 0),.int .i64 ((jtQ s x p).1 2 1),.int .i64 ((jtQ s x p).1 2 2),.int .i64 ((jtQ s x p).1 3 0),.int .i64 ((jtQ s x p).1 3 1),.int .i64 ((jtQ s x p).1 3 2),.int .i64 (jtQ s x p).2]:=rfl
 have U5:=ca4 gx hk @Kt8 (ca4 @Kh8 @Ja5 hb (ca4 (Ja4 hb) jl h0 (ca4 c1 c2 p3 (ca3 gp gq hp))))
 refine AW.w 8 U5 (ca2 Kj7 (Vf8 _ _ _ c1)) ?_
 refine AW.q fun K J0=>?_
 have q_1:=Xb0 s i
 rw [gx,h0] at q_1
 refine AW.w 2 U5 (q_1 _ hk) ?_
 refine AW.r 2 ?_
 exact AW.f U5 (ca2 (Jv7 (jtQ s x p).1 (s.xv i 0)) Jk7)
theorem Vc4 (s:SC)(i:Nat)(x:Int)(jb jv:Nat)(m:Ja1)(hb:∃ k e,m[jb]?=some ⟨k,344,jv,e,Jb2 s.nj (joF s x)⟩)(h0:¬0<=s.xj i)(hk:(s.xk i ==0)=true):Ctr Tryz.prog 170 [.agg (xC s i),.one (.sl jb jv 0 s.nj)] m (.agg (plC (Qf7 s i stillQ))) m:=by
 refine Ctr.en Tryz.func170 [.cell 4 84] 59 fun hwf Q hQ=>?_
 have gx:=Ke2 s i
 rw [Xj9 s i _ hk] at hQ
 obtain ⟨k0,e0,hb⟩:=hb
 have lb:=Ja7 hb
 have jl:(Jb2 s.nj (joF s x)).length=s.nj*13:=Ja6 (w:=13) (F:=joF s x) (fun _=>rfl) _
 have U6:=ca4 gx hk @Kt8 (ca4 @Kh8 @Ja5 hb (ca3 (Ja4 hb) jl h0))
 refine AW.w 11 U6 (ca3 Kj7 (Vf9 _ _ _ h0) (Xb0 s i _ hk)) fun K J0=>?_
 refine AW.r 2 ?_
 exact AW.f U6 (ca2 (Jv7 stillQ.1 (s.xv i 0)) Jk7)
theorem Vc1 (s:SC)(i:Nat)(x:Int)(p:Nat)(hp:p<s.nj)(h0:s.xj i=(p:Int))(jb jv:Nat)(m:Ja1)(hb:∃ k e,m[jb]?=some ⟨k,344,jv,e,Jb2 s.nj (joF s x)⟩)  (hk:(s.xk i ==0)=false):Ctr Tryz.prog 170 [.agg (xC s i),.one (.sl jb jv 0 s.nj)] m (.agg (plC (Qf7 s i (jtQ s x p)))) m:=by
 refine Ctr.en Tryz.func170 [.cell 4 84] 59 fun hwf Q hQ=>?_
 have gx:=Ke2 s i
 rw [Xj8 s i _ hk] at hQ
 obtain ⟨k0,e0,hb⟩:=hb
 have lb:=Ja7 hb
 have jl:(Jb2 s.nj (joF s x)).length=s.nj*13:=Ja6 (w:=13) (F:=joF s x) (fun _=>rfl) _
 have c1:(0:Int)<=(p:Int):=by omega
 have c2:(p:Int)<(s.nj:Int):=by omega
 have hh:0<=s.xj i:=by omega
 have p3:p*13+13<=s.nj*13:=by omega
 have gp:=Jb7 (w:=13) (F:=joF s x) (fun _=>rfl) hp
 have gq:joF s x p=[.int .i64 ((jtQ s x p).1 0 0),.int .i64 ((jtQ s x p).1 0 1),.int .i64 ((jtQ s x p).1 0 2),.int .i64 ((jtQ s x p).1 1 0),.int .i64 ((jtQ s x p).1 1 1),.int .i64 ((jtQ s x p).1 1 2),.int .i64 ((jtQ s x p).1 2 0),.int .i64 ((jtQ s x p).1 2 1),.int .i64 ((jtQ s x p).1 2 2),.int .i64 ((jtQ s x p).1 3 0),.int .i64 ((jtQ s x p).1 3 1),.int .i64 ((jtQ s x p).1 3 2),.int .i64 (jtQ s x p).2]:=rfl
 have U7:=ca4 gx hk @Kt8 (ca4 @Kh8 @Ja5 hb (ca4 (Ja4 hb) jl h0 (ca4 c1 c2 p3 (ca3 gp gq hp))))
 refine AW.w 8 U7 (ca2 Kj7 (Vf8 _ _ _ c1)) ?_
 refine AW.q fun K J0=>?_
 have q_2:=Xa9 s i
 rw [gx,h0] at q_2
 refine AW.w 2 U7 (q_2 _ hk) ?_
 refine AW.r 4 ?_
 exact AW.f U7 (ca3 (Jv7 (jtQ s x p).1 (s.xv i 0)) (Jv7 (jtQ s x p).1 (s.xv i 1)) (Jv7 (jtQ s x p).1 (s.xv i 2)))
theorem Vc2 (s:SC)(i:Nat)(x:Int)(jb jv:Nat)(m:Ja1)(hb:∃ k e,m[jb]?=some ⟨k,344,jv,e,Jb2 s.nj (joF s x)⟩)(h0:¬0<=s.xj i)(hk:(s.xk i ==0)=false):Ctr Tryz.prog 170 [.agg (xC s i),.one (.sl jb jv 0 s.nj)] m (.agg (plC (Qf7 s i stillQ))) m:=by
 refine Ctr.en Tryz.func170 [.cell 4 84] 59 fun hwf Q hQ=>?_
 have gx:=Ke2 s i
 rw [Xj8 s i _ hk] at hQ
 obtain ⟨k0,e0,hb⟩:=hb
 have lb:=Ja7 hb
 have jl:(Jb2 s.nj (joF s x)).length=s.nj*13:=Ja6 (w:=13) (F:=joF s x) (fun _=>rfl) _
 have U8:=ca4 gx hk @Kt8 (ca4 @Kh8 @Ja5 hb (ca3 (Ja4 hb) jl h0))
 refine AW.w 11 U8 (ca3 Kj7 (Vf9 _ _ _ h0) (Xa9 s i _ hk)) fun K J0=>?_
 refine AW.r 4 ?_
 exact AW.f U8 (ca3 (Jv7 stillQ.1 (s.xv i 0)) (Jv7 stillQ.1 (s.xv i 1)) (Jv7 stillQ.1 (s.xv i 2)))
theorem Qz8 (s:SC)(R:RWs)(x:Int)(i:Nat)(m:Ja1)(hR:ScR 138 143 285 146 150 m s R)(hT:∀ i,i<s.nt->TrS s i)(hJ:∀ i,i<s.nj->JoR s i)(hlt:i<s.nx)(hxj:s.xj i<(s.nj:Int))(hk:(s.xk i ==0)=true):Ctr Tryz.prog 77 [.agg (scC s R),.one (.int .i64 ((i:Int))),.one (.int .i64 x)] m (.agg (plC (Qf7 s i (spQ s x (s.xj i))))) m:=by
 refine Ctr.en Tryz.func77 [.cell 6 75] 59 fun hwf Q hQ=>?_
 obtain ⟨kx,ex,hx⟩:=hR.hx
 have lx:=Ja7 hx
 have nx:=hR.nx
 have xl:(Jb2 s.nx (xC s)).length=s.nx*13:=Ja6 (w:=13) (F:=xC s) (fun _=>rfl) _
 have c3:i*13+13<=s.nx*13:=by omega
 have ga:=Jb7 (w:=13) (F:=xC s) (fun _=>rfl) hlt
 have gx:=Ke2 s i
 have c1:(0:Int)<=(i:Int):=by omega
 have c2:(i:Int)<(s.nx:Int):=by omega
 rw [Xj9 s i _ hk] at hQ
 have U9:=ca4 @Jg0 @Jf6 @Jf9 (ca4 @Ja5 hx (Ja4 hx) (ca4 xl c1 c2 (ca4 c3 ga gx (ca4 hlt hk @Kt8 @Kh8))))
 exact AW.f U9 (ca3 (Kv1 s R x hT hJ ((s.xj i).toNat+1) (s.xj i) (by omega) hxj _ (hR.app _)) (Kc4 (spQ s x (s.xj i)).1 (s.xv i 0)) Ji2)
theorem Qz7 (s:SC)(R:RWs)(x:Int)(i:Nat)(m:Ja1)(hR:ScR 138 143 285 146 150 m s R)(hT:∀ i,i<s.nt->TrS s i)(hJ:∀ i,i<s.nj->JoR s i)(hlt:i<s.nx)(hxj:s.xj i<(s.nj:Int))(hk:(s.xk i ==0)=false):Ctr Tryz.prog 77 [.agg (scC s R),.one (.int .i64 ((i:Int))),.one (.int .i64 x)] m (.agg (plC (Qf7 s i (spQ s x (s.xj i))))) m:=by
 refine Ctr.en Tryz.func77 [.cell 6 75] 59 fun hwf Q hQ=>?_
 obtain ⟨kx,ex,hx⟩:=hR.hx
 have lx:=Ja7 hx
 have nx:=hR.nx
 have xl:(Jb2 s.nx (xC s)).length=s.nx*13:=Ja6 (w:=13) (F:=xC s) (fun _=>rfl) _
 have c3:i*13+13<=s.nx*13:=by omega
 have ga:=Jb7 (w:=13) (F:=xC s) (fun _=>rfl) hlt
 have gx:=Ke2 s i
 have c1:(0:Int)<=(i:Int):=by omega
 have c2:(i:Int)<(s.nx:Int):=by omega
 rw [Xj8 s i _ hk] at hQ
 have U10:=ca4 @Jg0 @Jf6 @Jf9 (ca4 @Ja5 hx (Ja4 hx) (ca4 xl c1 c2 (ca4 c3 ga gx (ca4 hlt hk @Kt8 @Kh8))))
 refine AW.w 12 U10 (Kv1 s R x hT hJ ((s.xj i).toNat+1) (s.xj i) (by omega) hxj _ (hR.app _)) fun K J0=>?_
 refine AW.r 4 ?_
 exact AW.fd [[.val,.val,.rd 0,.val,.val,.val,.rd 0,.ext,.val,.val,.wr],[.val,.val,.rd 0,.val,.val,.val,.rd 0,.ext,.val,.val,.wr],[.val,.val,.rd 0,.val,.val,.val,.rd 0,.ext,.val,.val,.wr]] U10 (ca3 (Kc4 (spQ s x (s.xj i)).1 (s.xv i 0)) (Kc4 (spQ s x (s.xj i)).1 (s.xv i 1)) (Kc4 (spQ s x (s.xj i)).1 (s.xv i 2)))
def plS (s:SC)(x:Int)(i:Nat):PL:=Qf7 s i (spQ s x (s.xj i))
def plF (s:SC)(x:Int)(i:Nat):List CV:=plC (plS s x i)
theorem Xj6 (s:SC)(i:Nat)(x:Int)(jb jv:Nat)(m:Ja1)(hb:∃ k e,m[jb]?=some ⟨k,344,jv,e,Jb2 s.nj (joF s x)⟩)(hx:-1<=s.xj i/\s.xj i<(s.nj:Int)):Ctr Tryz.prog 170 [.agg (xC s i),.one (.sl jb jv 0 s.nj)] m (.agg (plC (plS s x i))) m:=by
 cases hk:(s.xk i ==0)
 ·by_cases h0:0<=s.xj i
  ·obtain ⟨p,hp⟩:∃ p:Nat,s.xj i=(p:Int):=⟨(s.xj i).toNat,by omega⟩
   have e:plS s x i=Qf7 s i (jtQ s x p):=by unfold plS spQ;rw [if_neg (by omega),hp];rfl
   rw [e];exact Vc1 s i x p (by omega) hp jb jv m hb hk
  have e:plS s x i=Qf7 s i stillQ:=by unfold plS spQ;rw [if_pos (by omega)]
  rw [e];exact Vc2 s i x jb jv m hb h0 hk
 by_cases h0:0<=s.xj i
 ·obtain ⟨p,hp⟩:∃ p:Nat,s.xj i=(p:Int):=⟨(s.xj i).toNat,by omega⟩
  have e:plS s x i=Qf7 s i (jtQ s x p):=by unfold plS spQ;rw [if_neg (by omega),hp];rfl
  rw [e];exact Vc3 s i x p (by omega) hp jb jv m hb hk
 have e:plS s x i=Qf7 s i stillQ:=by unfold plS spQ;rw [if_pos (by omega)]
 rw [e];exact Vc4 s i x jb jv m hb h0 hk
theorem Ku8 (s:SC)(R:RWs)(x:Int)(i:Nat)(m:Ja1)(hR:ScR 138 143 285 146 150 m s R)(hT:∀ i,i<s.nt->TrS s i)(hJ:∀ i,i<s.nj->JoR s i)(hlt:i<s.nx)(hx:-1<=s.xj i/\s.xj i<(s.nj:Int)):Ctr Tryz.prog 77 [.agg (scC s R),.one (.int .i64 ((i:Int))),.one (.int .i64 x)] m (.agg (plC (plS s x i))) m:=by
 cases hk:(s.xk i ==0)
 ·exact Qz7 s R x i m hR hT hJ hlt hx.2 hk
 exact Qz8 s R x i m hR hT hJ hlt hx.2 hk
theorem Jr0 (p:PL):plC p=(.int .i64 p.kind::.int .i64 p.paint::(c3C (p.P 0)++(c3C (p.P 1)++(c3C (p.P 2)++[.int .i64 p.r])))):=rfl
theorem Kt9 (s:SC)(R:RWs)(x:Int)(m:Ja1)(hR:ScR 140 119 223 148 155 m s R)(hT:∀ i,i<s.nt->TrS s i)(hX:∀ i,i<s.nx->-1<=s.xj i/\s.xj i<(s.nj:Int))(hn:s.nj<=1000000)(hnx:s.nx<=1000000):Ctr Tryz.prog 84 [.agg (scC s R),.one (.int .i64 x)] m (.one (.sl m.length 0 0 s.nx)) (m++[⟨.grow,84,0,12,Jb2 (s.nx) (plF s x)⟩]):=by
 refine Ctr.en Tryz.func84 [.tmp 4] 27 fun hwf Q hQ=>?_
 obtain ⟨kx,ex,hx⟩:=hR.hx
 have lx:=Ja7 hx
 have nx:=hR.nx
 have xl:(Jb2 s.nx (xC s)).length=s.nx*13:=Ja6 (w:=13) (F:=xC s) (fun _=>rfl) _
 have hlt0:∀ k,¬m.length+k<m.length:=fun k=>by omega
 have U1:=ca4 @Jg0 @Jf6 @Jf9 (ca4 @Ja5 hx (Ja4 hx) xl)
 refine AW.w 6 U1 (Vs6 s R x _ (hR.app _) hT hn) fun K J0=>?_
 refine AW.nilTm 84 12 6 rfl ?_
 try simp only [push_cast,simprocAttr,U1]
 refine AW.loopK [5,13,14] (fun i=>i<=s.nx) (fun i=>[(6,.one (.sl (m.length+2) i 0 i)),(15,.one (.int .i64 (i:Int)))]) (fun i=>[(m.length+2,⟨.grow,84,i,12,Jb2 i (plF s x)⟩)]) (fun i=>s.nx - i) 0 (by omega) ?_ ?_ fun i hi2=>?_
 · first|rfl|(simp only [KS,simprocAttr,Jb2,Int.natCast_zero]<;>repeat' (first|rfl|apply And.intro))
 · (simp only [Ja2,push_cast,simprocAttr,Jb2])<;>rfl
 try simp only [Ja9,Ja2,push_cast,simprocAttr,U1]
 refine AW.w 2 U1 Tru fun K J1=>?_
 refine AW.cond rfl (fun h16=>?_) (fun h16=>?_)
 ·have hlt:i<s.nx:=by have:=of_decide_eq_true h16;omega
  have c1:(0:Int)<=(i:Int):=by omega
  have c2:(i:Int)<(s.nx:Int):=by omega
  have c3:i*13+13<=s.nx*13:=by omega
  have ga:=Jb7 (w:=13) (F:=xC s) (fun _=>rfl) hlt
  have gx:=Ke2 s i
  have q1:i<=140737488355327:=by omega
  have q2:(i+1)*96<=140737488355328:=by omega
  have gli:(Jb2 i (plF s x)).length=i*12:=Ja6 (w:=12) (F:=plF s x) (fun _=>rfl) i
  have hap:Jb2 i (plF s x)++[.int .i64 (plS s x i).kind,.int .i64 (plS s x i).paint,.int .i64 ((plS s x i).P 0 0),.int .i64 ((plS s x i).P 0 1),.int .i64 ((plS s x i).P 0 2),.int .i64 ((plS s x i).P 1 0),.int .i64 ((plS s x i).P 1 1),.int .i64 ((plS s x i).P 1 2),.int .i64 ((plS s x i).P 2 0),.int .i64 ((plS s x i).P 2 1),.int .i64 ((plS s x i).P 2 2),.int .i64 (plS s x i).r]=Jb2 (i+1) (plF s x):=rfl
  refine AW.w 4 Tru Tru fun K J1=>?_
  have U2:=ca4 U1 c1 c2 (ca4 c3 ga gx (ca4 q1 q2 gli (ca3 hlt @Jr0 @Ja5)))
  refine AW.c 1 U2 Tru ?_
  refine AW.rg ?_
  simp only [push_cast,simprocAttr,U2]
  refine CThen.by ((by have h:=Xj6 s i x (m.length+1) 0;rw [gx] at h;exact h _ ⟨.grow,13,by rw [Jf3];rfl⟩ (hX i hlt))) ?_
  simp only [push_cast,simprocAttr,U2]
  refine AW.w 2 U2 Tru ?_
  have hwi:IntKind.i64.wrap ((i:Int)+1)=(i:Int)+1:=wi (by omega)
  refine ⟨i+1,by omega,by omega,?_⟩
  try simp only [Ja9,Ja2,push_cast,simprocAttr,U2,hwi,hap]
  exact Weak.to (extra:=_) (by simp only [KS,simprocAttr,hwi,hap]) (by first|rfl|(simp only [List.append_assoc,List.cons_append,List.nil_append];rfl)) (by first|rfl|(simp [AV.below,CV.below];done)|(simp [AV.below,CV.below];omega)) (by exact MWf.app (hwf.grow (by simp)) (Ja0 (hR.bel _ (by simp)) (Ja0 (Jb8 _ (fun _=>rfl) _) (Ja0 (Jb8 _ (fun _=>rfl) _) Jb3))))
 have hin:i=s.nx:=by have:=of_decide_eq_false h16;omega
 rw [hin]
 refine AW.w 4 U1 Tru ?_
 refine hQ _ _ _ ?_
 refine RetP.pick [(m.length+2,s.nx)] (by first|exact Or.inr rfl|exact Or.inl rfl) ?_ ?_ ?_ hwf ?_
 · simp only [Je0,Jb1,Jb9,AV.tv,push_cast,simprocAttr]
   simp [Kg3,Km1,Ka4,Jt4,Jh0,hlt0]
 · simp only [Jm8,push_cast,simprocAttr]
 · simp [Jc2]
 exact Ja0 (Jb8 _ (fun _=>rfl) _) Jb3
def mvS (s:SC)(f:Int)(i:Nat):MV:=⟨plS s (f*65536) i,plS s (f*65536+s.sh) i⟩
def mvC (m:MV):List CV:=plC m.A++plC m.B
def mvF (s:SC)(f:Int)(i:Nat):List CV:=mvC (mvS s f i)
theorem Qb1 (s:SC)(f:Int)(m:Ja1)(hf:0<=f/\f<=1000000):Ctr Tryz.prog 40 [.agg (hdC s),.one (.int .i64 f)] m (.one (.int .i64 (f*65536))) m:=by
 have w1:IntKind.i64.wrap (f*65536)=f*65536:=wi (by omega)
 have U3:=ca3 @Jf6 @Ja5 w1
 exact Ctr.f Tryz.func40 [.tmp 4] 7 U3 Tru
theorem Qy3 (s:SC)(f:Int)(m:Ja1)(hf:0<=f/\f<=1000000)(hs:0<=s.sh/\s.sh<=65536):Ctr Tryz.prog 41 [.agg (hdC s),.one (.int .i64 f)] m (.one (.int .i64 (f*65536+s.sh))) m:=by
 refine Ctr.en Tryz.func41 [.tmp 4] 11 fun hwf Q hQ=>?_
 have hop:=Qb1 s f
 have w1:IntKind.i64.wrap (f*65536)=f*65536:=wi (by omega)
 have w2:IntKind.i64.wrap (f*65536+s.sh)=f*65536+s.sh:=wi (by omega)
 have U4:=ca4 @Jf6 @Ja5 w1 w2
 refine AW.c 1 U4 Tru ?_
 have q_1:=hop
 unfold hdC at q_1
 exact AW.fd [[.rd 0,.val,.ext,.val,.rd 0,.val,.val]] U4 (q_1 _ hf)
theorem Vg4 (s:SC)(R:RWs)(f:Int)(m:Ja1)(hR:ScR 140 119 223 148 155 m s R)(hT:∀ i,i<s.nt->TrS s i)(hX:∀ i,i<s.nx->-1<=s.xj i/\s.xj i<(s.nj:Int))(hf:0<=f/\f<=1000000)(hs:0<=s.sh/\s.sh<=65536)(hn:s.nj<=1000000)(hnx:s.nx<=1000000):Ctr Tryz.prog 37 [.agg (scC s R),.one (.int .i64 f)] m (.one (.sl m.length 0 0 s.nx)) (m++[⟨.grow,204,0,24,Jb2 (s.nx) (mvF s f)⟩]):=by
 refine Ctr.en Tryz.func37 [.tmp 4] 40 fun hwf Q hQ=>?_
 have hlt0:∀ k,¬m.length+k<m.length:=fun k=>by omega
 have l1:(Jb2 s.nx (plF s (f*65536))).length=s.nx*12:=Ja6 (w:=12) (F:=plF s (f*65536)) (fun _=>rfl) _
 have l2:(Jb2 s.nx (plF s (f*65536+s.sh))).length=s.nx*12:=Ja6 (w:=12) (F:=plF s (f*65536+s.sh)) (fun _=>rfl) _
 have U1:=ca4 @Jg0 @Jf6 @Jf9 (ca3 @Ja5 l1 l2)
 refine AW.c 1 U1 Tru ?_
 have q_1:=Qb1 s f
 unfold hdC c3C at q_1
 have q_2:=Qy3 s f
 unfold hdC c3C at q_2
 refine AW.wd [[.rd 0,.val,.rd 0,.val,.ext,.ext,.rd 0,.val,.rd 0,.val,.ext,.ext,.val,.val]] 5 U1 (ca4 (q_1 _ hf) (Kt9 s R (f*65536) _ (hR.app _) hT hX hn hnx) (q_2 _ hf hs) (Kt9 s R (f*65536+s.sh) _ (hR.app _) hT hX hn hnx)) fun K J0=>?_
 refine AW.nilTm 204 24 7 rfl ?_
 try simp only [push_cast,simprocAttr,U1]
 refine AW.loopK [5,6,22] (fun i=>i<=s.nx) (fun i=>[(7,.one (.sl (m.length+3) i 0 i)),(23,.one (.int .i64 (i:Int)))]) (fun i=>[(m.length+3,⟨.grow,204,i,24,Jb2 i (mvF s f)⟩)]) (fun i=>s.nx - i) 0 (by omega) ?_ ?_ fun i hi2=>?_
 · first|rfl|(simp only [KS,simprocAttr,Jb2,Int.natCast_zero]<;>repeat' (first|rfl|apply And.intro))
 · (simp only [Ja2,push_cast,simprocAttr,Jb2])<;>rfl
 try simp only [Ja9,Ja2,push_cast,simprocAttr,U1]
 refine AW.w 2 U1 Tru fun K J1=>?_
 refine AW.cond rfl (fun h24=>?_) (fun h24=>?_)
 ·have hlt:i<s.nx:=by have:=of_decide_eq_true h24;omega
  have c1:(0:Int)<=(i:Int):=by omega
  have c2:(i:Int)<(s.nx:Int):=by omega
  have c1:(0:Int)<=(i:Int):=by omega
  have c2:(i:Int)<(s.nx:Int):=by omega
  have c3:i*12+12<=s.nx*12:=by omega
  have ga1:=Jb7 (w:=12) (F:=plF s (f*65536)) (fun _=>rfl) hlt
  have gx1:plF s (f*65536) i=[.int .i64 (plS s (f*65536) i).kind,.int .i64 (plS s (f*65536) i).paint,.int .i64 ((plS s (f*65536) i).P 0 0),.int .i64 ((plS s (f*65536) i).P 0 1),.int .i64 ((plS s (f*65536) i).P 0 2),.int .i64 ((plS s (f*65536) i).P 1 0),.int .i64 ((plS s (f*65536) i).P 1 1),.int .i64 ((plS s (f*65536) i).P 1 2),.int .i64 ((plS s (f*65536) i).P 2 0),.int .i64 ((plS s (f*65536) i).P 2 1),.int .i64 ((plS s (f*65536) i).P 2 2),.int .i64 (plS s (f*65536) i).r]:=rfl
  have ga2:=Jb7 (w:=12) (F:=plF s (f*65536+s.sh)) (fun _=>rfl) hlt
  have gx2:plF s (f*65536+s.sh) i=[.int .i64 (plS s (f*65536+s.sh) i).kind,.int .i64 (plS s (f*65536+s.sh) i).paint,.int .i64 ((plS s (f*65536+s.sh) i).P 0 0),.int .i64 ((plS s (f*65536+s.sh) i).P 0 1),.int .i64 ((plS s (f*65536+s.sh) i).P 0 2),.int .i64 ((plS s (f*65536+s.sh) i).P 1 0),.int .i64 ((plS s (f*65536+s.sh) i).P 1 1),.int .i64 ((plS s (f*65536+s.sh) i).P 1 2),.int .i64 ((plS s (f*65536+s.sh) i).P 2 0),.int .i64 ((plS s (f*65536+s.sh) i).P 2 1),.int .i64 ((plS s (f*65536+s.sh) i).P 2 2),.int .i64 (plS s (f*65536+s.sh) i).r]:=rfl
  have q1:i<=140737488355327:=by omega
  have q2:(i+1)*192<=140737488355328:=by omega
  have gli:(Jb2 i (mvF s f)).length=i*24:=Ja6 (w:=24) (F:=mvF s f) (fun _=>rfl) i
  have hap:Jb2 i (mvF s f)++[.int .i64 (plS s (f*65536) i).kind,.int .i64 (plS s (f*65536) i).paint,.int .i64 ((plS s (f*65536) i).P 0 0),.int .i64 ((plS s (f*65536) i).P 0 1),.int .i64 ((plS s (f*65536) i).P 0 2),.int .i64 ((plS s (f*65536) i).P 1 0),.int .i64 ((plS s (f*65536) i).P 1 1),.int .i64 ((plS s (f*65536) i).P 1 2),.int .i64 ((plS s (f*65536) i).P 2 0),.int .i64 ((plS s (f*65536) i).P 2 1),.int .i64 ((plS s (f*65536) i).P 2 2),.int .i64 (plS s (f*65536) i).r,.int .i64 (plS s (f*65536+s.sh) i).kind,.int .i64 (plS s (f*65536+s.sh) i).paint,.int .i64 ((plS s (f*65536+s.sh) i).P 0 0),.int .i64 ((plS s (f*65536+s.sh) i).P 0 1),.int .i64 ((plS s (f*65536+s.sh) i).P 0 2),.int .i64 ((plS s (f*65536+s.sh) i).P 1 0),.int .i64 ((plS s (f*65536+s.sh) i).P 1 1),.int .i64 ((plS s (f*65536+s.sh) i).P 1 2),.int .i64 ((plS s (f*65536+s.sh) i).P 2 0),.int .i64 ((plS s (f*65536+s.sh) i).P 2 1),.int .i64 ((plS s (f*65536+s.sh) i).P 2 2),.int .i64 (plS s (f*65536+s.sh) i).r]=Jb2 (i+1) (mvF s f):=rfl
  refine AW.w 4 Tru Tru fun K J1=>?_
  have U2:=ca4 U1 c1 c2 (ca4 c3 ga1 ga2 (ca4 gx1 gx2 q1 (ca3 q2 gli hlt)))
  refine AW.wd [[.val,.val,.val,.val,.rd 0,.val,.val,.val,.rd 0,.val,.ext,.wr,.val]] 4 U2 Tru ?_
  have hwi:IntKind.i64.wrap ((i:Int)+1)=(i:Int)+1:=wi (by omega)
  refine ⟨i+1,by omega,by omega,?_⟩
  try simp only [Ja9,Ja2,push_cast,simprocAttr,U2,hwi,hap]
  exact Weak.to (extra:=_) (by simp only [KS,simprocAttr,hwi,hap]) (by first|rfl|(simp only [List.append_assoc,List.cons_append,List.nil_append];rfl)) (by first|rfl|(simp [AV.below,CV.below];done)|(simp [AV.below,CV.below];omega)) (by exact MWf.app (hwf.grow (by simp)) (Ja0 (hR.bel _ (by simp)) (Ja0 (Jb8 _ (fun _=>rfl) _) (Ja0 (Jb8 _ (fun _=>rfl) _) (Ja0 (Jb8 _ (fun _=>rfl) _) Jb3)))))
 have hin:i=s.nx:=by have:=of_decide_eq_false h24;omega
 rw [hin]
 refine AW.w 4 U1 Tru ?_
 refine hQ _ _ _ ?_
 refine RetP.pick [(m.length+3,s.nx)] (by first|exact Or.inr rfl|exact Or.inl rfl) ?_ ?_ ?_ hwf ?_
 · simp only [Je0,Jb1,Jb9,AV.tv,push_cast,simprocAttr]
   simp [Kg3,Km1,Ka4,Jt4,Jh0,hlt0]
 · simp only [Jm8,push_cast,simprocAttr]
 · simp [Jc2]
 exact Ja0 (Jb8 _ (fun _=>rfl) _) Jb3
theorem Qj8 (s:SC)(R:RWs)(f:Int)(m:Ja1)(hR:ScR 138 143 285 146 150 m s R)(hT:∀ i,i<s.nt->TrS s i)(hJ:∀ i,i<s.nj->JoR s i)(hX:∀ i,i<s.nx->-1<=s.xj i/\s.xj i<(s.nj:Int))(hf:0<=f/\f<=1000000)(hs:0<=s.sh/\s.sh<=65536)(hnx:s.nx<=1000000):Ctr Tryz.prog 20 [.agg (scC s R),.one (.int .i64 f)] m (.one (.sl m.length 0 0 s.nx)) (m++[⟨.grow,78,0,24,Jb2 (s.nx) (mvF s f)⟩]):=by
 refine Ctr.en Tryz.func20 [.tmp 4] 34 fun hwf Q hQ=>?_
 have hlt0:∀ k,¬m.length+k<m.length:=fun k=>by omega
 have w1:IntKind.i64.wrap (f*65536)=f*65536:=wi (by omega)
 have w2:IntKind.i64.wrap (f*65536+s.sh)=f*65536+s.sh:=wi (by omega)
 have U3:=ca4 @Jg0 @Jf6 @Jf9 (ca3 @Ja5 w1 w2)
 refine AW.w 5 U3 Tru fun K J0=>?_
 refine AW.nilTm 78 24 5 rfl ?_
 try simp only [push_cast,simprocAttr,U3]
 refine AW.loopK [1,2] (fun i=>i<=s.nx) (fun i=>[(5,.one (.sl (m.length+1) i 0 i)),(6,.one (.int .i64 (i:Int)))]) (fun i=>[(m.length+1,⟨.grow,78,i,24,Jb2 i (mvF s f)⟩)]) (fun i=>s.nx - i) 0 (by omega) ?_ ?_ fun i hi2=>?_
 · first|rfl|(simp only [KS,simprocAttr,Jb2,Int.natCast_zero]<;>repeat' (first|rfl|apply And.intro))
 · (simp only [Ja2,push_cast,simprocAttr,Jb2])<;>rfl
 try simp only [Ja9,Ja2,push_cast,simprocAttr,U3]
 refine AW.w 2 U3 Tru fun K J1=>?_
 refine AW.cond rfl (fun h12=>?_) (fun h12=>?_)
 ·have hlt:i<s.nx:=by have:=of_decide_eq_true h12;omega
  have c1:(0:Int)<=(i:Int):=by omega
  have c2:(i:Int)<(s.nx:Int):=by omega
  have q1:i<=140737488355327:=by omega
  have q2:(i+1)*192<=140737488355328:=by omega
  have gli:(Jb2 i (mvF s f)).length=i*24:=Ja6 (w:=24) (F:=mvF s f) (fun _=>rfl) i
  have hap:Jb2 i (mvF s f)++[.int .i64 (plS s (f*65536) i).kind,.int .i64 (plS s (f*65536) i).paint,.int .i64 ((plS s (f*65536) i).P 0 0),.int .i64 ((plS s (f*65536) i).P 0 1),.int .i64 ((plS s (f*65536) i).P 0 2),.int .i64 ((plS s (f*65536) i).P 1 0),.int .i64 ((plS s (f*65536) i).P 1 1),.int .i64 ((plS s (f*65536) i).P 1 2),.int .i64 ((plS s (f*65536) i).P 2 0),.int .i64 ((plS s (f*65536) i).P 2 1),.int .i64 ((plS s (f*65536) i).P 2 2),.int .i64 (plS s (f*65536) i).r,.int .i64 (plS s (f*65536+s.sh) i).kind,.int .i64 (plS s (f*65536+s.sh) i).paint,.int .i64 ((plS s (f*65536+s.sh) i).P 0 0),.int .i64 ((plS s (f*65536+s.sh) i).P 0 1),.int .i64 ((plS s (f*65536+s.sh) i).P 0 2),.int .i64 ((plS s (f*65536+s.sh) i).P 1 0),.int .i64 ((plS s (f*65536+s.sh) i).P 1 1),.int .i64 ((plS s (f*65536+s.sh) i).P 1 2),.int .i64 ((plS s (f*65536+s.sh) i).P 2 0),.int .i64 ((plS s (f*65536+s.sh) i).P 2 1),.int .i64 ((plS s (f*65536+s.sh) i).P 2 2),.int .i64 (plS s (f*65536+s.sh) i).r]=Jb2 (i+1) (mvF s f):=rfl
  refine AW.w 4 Tru Tru fun K J1=>?_
  have U4:=ca4 U3 q1 q2 (ca4 gli hlt @Jr0 @Ja5)
  refine AW.wd [[.val,.rd 0,.val,.val,.ext,.rd 0,.val,.val,.val,.val,.rd 0,.val,.ext,.val,.ext,.wr,.val]] 4 U4 (ca2 (Ku8 s R (f*65536) i _ (hR.app _) hT hJ hlt (hX i hlt)) (Ku8 s R (f*65536+s.sh) i _ (hR.app _) hT hJ hlt (hX i hlt))) ?_
  have hwi:IntKind.i64.wrap ((i:Int)+1)=(i:Int)+1:=wi (by omega)
  refine ⟨i+1,by omega,by omega,?_⟩
  try simp only [Ja9,Ja2,push_cast,simprocAttr,U4,hwi,hap]
  exact Weak.to (extra:=_) (by simp only [KS,simprocAttr,hwi,hap]) (by first|rfl|(simp only [List.append_assoc,List.cons_append,List.nil_append];rfl)) (by first|rfl|(simp [AV.below,CV.below];done)|(simp [AV.below,CV.below];omega)) (by exact MWf.app (hwf.grow (by simp)) (Ja0 (hR.bel _ (by simp)) (Ja0 (Jb8 _ (fun _=>rfl) _) Jb3)))
 have hin:i=s.nx:=by have:=of_decide_eq_false h12;omega
 rw [hin]
 refine AW.w 4 U3 Tru ?_
 refine hQ _ _ _ ?_
 refine RetP.pick [(m.length+1,s.nx)] (by first|exact Or.inr rfl|exact Or.inl rfl) ?_ ?_ ?_ hwf ?_
 · simp only [Je0,Jb1,Jb9,AV.tv,push_cast,simprocAttr]
   simp [Kg3,Km1,Ka4,Jt4,Jh0,hlt0]
 · simp only [Jm8,push_cast,simprocAttr]
 · simp [Jc2]
 exact Ja0 (Jb8 _ (fun _=>rfl) _) Jb3
theorem Kr0 (m:MV):mvC m=(plC m.A++plC m.B):=rfl
theorem Qw2 (a b:V)(t:Int):Kh4 a b t=(fun k=>Je9 (a k) (b k) t):=rfl
theorem at_c (M:MV)(t:Int)(m:Ja1):Ctr Tryz.prog 78 [.agg (mvC M),.one (.int .i64 t)] m (.agg (plC (atM M t))) m:=by
 refine Ctr.en Tryz.func78 [.cell 4 84] 38 fun hwf Q hQ=>?_
 have hv:plC (atM M t)=[.int .i64 M.A.kind,.int .i64 M.A.paint,.int .i64 (Je9 (M.A.P 0 0) (M.B.P 0 0) t),.int .i64 (Je9 (M.A.P 0 1) (M.B.P 0 1) t),.int .i64 (Je9 (M.A.P 0 2) (M.B.P 0 2) t),.int .i64 (Je9 (M.A.P 1 0) (M.B.P 1 0) t),.int .i64 (Je9 (M.A.P 1 1) (M.B.P 1 1) t),.int .i64 (Je9 (M.A.P 1 2) (M.B.P 1 2) t),.int .i64 (Je9 (M.A.P 2 0) (M.B.P 2 0) t),.int .i64 (Je9 (M.A.P 2 1) (M.B.P 2 1) t),.int .i64 (Je9 (M.A.P 2 2) (M.B.P 2 2) t),.int .i64 (Je9 M.A.r M.B.r t)]:=rfl
 rw [hv] at hQ
 have U5:=ca4 @Kr0 @Jr0 @Ja5 @Qw2
 refine AW.w 5 U5 Tru fun K J0=>?_
 refine AW.r 4 ?_
 exact AW.fd [[.val,.val,.val,.val,.val,.rd 0,.val,.val,.val,.val,.rd 0,.val,.ext,.val,.val,.wr],[.val,.val,.val,.val,.val,.rd 0,.val,.val,.val,.val,.rd 0,.val,.ext,.val,.val,.wr],[.val,.val,.val,.val,.val,.rd 0,.val,.val,.val,.val,.rd 0,.val,.ext,.val,.val,.wr]] U5 (ca4 (Kh7 (M.A.P 0) (M.B.P 0) t) (Kh7 (M.A.P 1) (M.B.P 1) t) (Kh7 (M.A.P 2) (M.B.P 2) t) Vz8)
theorem Qk1 (M:MV)(t:Int)(m:Ja1):Ctr Tryz.prog 19 [.agg (mvC M),.one (.int .i64 t)] m (.agg (plC (atM M t))) m:=by
 refine Ctr.en Tryz.func19 [.cell 4 75] 38 fun hwf Q hQ=>?_
 have hv:plC (atM M t)=[.int .i64 M.A.kind,.int .i64 M.A.paint,.int .i64 (Je9 (M.A.P 0 0) (M.B.P 0 0) t),.int .i64 (Je9 (M.A.P 0 1) (M.B.P 0 1) t),.int .i64 (Je9 (M.A.P 0 2) (M.B.P 0 2) t),.int .i64 (Je9 (M.A.P 1 0) (M.B.P 1 0) t),.int .i64 (Je9 (M.A.P 1 1) (M.B.P 1 1) t),.int .i64 (Je9 (M.A.P 1 2) (M.B.P 1 2) t),.int .i64 (Je9 (M.A.P 2 0) (M.B.P 2 0) t),.int .i64 (Je9 (M.A.P 2 1) (M.B.P 2 1) t),.int .i64 (Je9 (M.A.P 2 2) (M.B.P 2 2) t),.int .i64 (Je9 M.A.r M.B.r t)]:=rfl
 rw [hv] at hQ
 have U6:=ca4 @Kr0 @Jr0 @Ja5 @Qw2
 refine AW.w 5 U6 Tru fun K J0=>?_
 refine AW.r 4 ?_
 exact AW.fd [[.val,.val,.val,.val,.val,.rd 0,.val,.val,.val,.val,.rd 0,.val,.ext,.val,.val,.wr],[.val,.val,.val,.val,.val,.rd 0,.val,.val,.val,.val,.rd 0,.val,.ext,.val,.val,.wr],[.val,.val,.val,.val,.val,.rd 0,.val,.val,.val,.val,.rd 0,.val,.ext,.val,.val,.wr]] U6 (ca4 (Kc5 (M.A.P 0) (M.B.P 0) t) (Kc5 (M.A.P 1) (M.B.P 1) t) (Kc5 (M.A.P 2) (M.B.P 2) t) Va2)
theorem eye_c (s:SC)(R:RWs)(x:Int)(m:Ja1)(hR:ScR 140 119 223 148 155 m s R)(hT:∀ i,i<s.nt->TrS s i):Ctr Tryz.prog 104 [.agg (scC s R),.one (.int .i64 x)] m (.agg (c3C (Jj5 s s.ey x))) m:=by
 have U7:=ca4 @Jg0 @Jf6 @Jf9 @Ja5
 exact Ctr.f Tryz.func104 [.cell 4 59] 11 U7 (Kg9 s R s.ey x _ (hR.app _) hT)
theorem Xy3 (s:SC)(R:RWs)(x:Int)(m:Ja1)(hR:ScR 140 119 223 148 155 m s R)(hT:∀ i,i<s.nt->TrS s i):Ctr Tryz.prog 108 [.agg (scC s R),.one (.int .i64 x)] m (.agg (c3C (Jj5 s s.lk x))) m:=by
 have U8:=ca4 @Jg0 @Jf6 @Jf9 @Ja5
 exact Ctr.f Tryz.func108 [.cell 4 59] 11 U8 (Kg9 s R s.lk x _ (hR.app _) hT)
def Vz3 (a:V)(G:Nat->V):Nat->V
 | 0=>a
 | n+1=>fun k=>minI (Vz3 a G n k) (G n k)
def Vz5 (a:V)(G:Nat->V):Nat->V
 | 0=>a
 | n+1=>fun k=>maxI (Vz5 a G n k) (G n k)
def bxC (b:BX):List CV:=c3C b.lo++c3C b.hi
def prC (p:PR):List CV:=bxC p.a++bxC p.b
def vF (G:Nat->V)(j:Nat):List CV:=c3C (G j)
theorem Qw6 (G:Nat->V)(j:Nat):vF G j=[.int .i64 (G j 0),.int .i64 (G j 1),.int .i64 (G j 2)]:=rfl
theorem Vs2 (a b:Int)(m:Ja1):Ctr Tryz.prog 258 [.one (.int .i64 a),.one (.int .i64 b)] m (.one (.int .i64 (minI a b))) m:=by
 exact Ctr.f Tryz.func258 [.tmp 4] 8 Tru Tru
theorem Ve7 (a:V)(m:Ja1):Ctr Tryz.prog 232 [.agg (c3C a),.one .nils] m (.agg (c3C a)) m:=by
 refine Ctr.en Tryz.func232 [.cell 4 59] 18 fun hwf Q hQ=>?_
 refine AW.w 4 @Ja5 Tru fun K J0=>?_
 refine AW.r 1 ?_
 exact AW.f @Ja5 Tru
theorem Kw1 (a:V)(G:Nat->V)(r v o n N:Nat)(m:Ja1)(hb:∃ k ez,m[r]?=some ⟨k,59,v,ez,Jb2 N (vF G)⟩)(hN:o+n<=N)(hn:n<=1000000):Ctr Tryz.prog 232 [.agg (c3C a),.one (.sl r v (o*3) n)] m (.agg (c3C (Vz3 a (fun j=>G (o+j)) n))) m:=by
 refine Ctr.en Tryz.func232 [.cell 4 59] 18 fun hwf Q hQ=>?_
 obtain ⟨k0,ez,hb⟩:=hb
 have lb:=Ja7 hb
 have bl:(Jb2 N (vF G)).length=N*3:=Ja6 (w:=3) (F:=vF G) (fun _=>rfl) _
 have hlt0:∀ k,¬m.length+k<m.length:=fun k=>by omega
 have U1:=ca4 hb (Ja4 hb) bl @Ja5
 refine AW.w 4 U1 Tru fun K J0=>?_
 refine AW.loopK [2,4,7,8] (fun i=>i<=n) (fun i=>[(9,.one (.int .i64 (i:Int)))]) (fun i=>[(m.length,⟨.fix,59,0,0,c3C (Vz3 a (fun j=>G (o+j)) i)⟩)]) (fun i=>n - i) 0 (by omega) ?_ ?_ fun i hi2=>?_
 · first|rfl|(simp only [KS,simprocAttr,Vz3,Int.natCast_zero]<;>repeat' (first|rfl|apply And.intro))
 · (simp only [Ja2,push_cast,simprocAttr,c3C])<;>rfl
 try simp only [Ja9,Ja2,push_cast,simprocAttr,U1]
 refine AW.w 2 U1 Tru fun K J1=>?_
 refine AW.cond rfl (fun h10=>?_) (fun h10=>?_)
 ·have hlt:i<n:=by have:=of_decide_eq_true h10;omega
  have c1:(0:Int)<=(i:Int):=by omega
  have c2:(i:Int)<(n:Int):=by omega
  have hoi:o+i<N:=by omega
  have c1:(0:Int)<=(i:Int):=by omega
  have c2:(i:Int)<(n:Int):=by omega
  have c3:o*3+(i*3+3)<=N*3:=by omega
  have ga:=Jb7 (w:=3) (F:=vF G) (fun _=>rfl) hoi
  rw [show (o+i)*3=o*3+i*3 by omega] at ga
  have gx:=Qw6 G (o+i)
  refine AW.w 4 Tru Tru fun K J1=>?_
  have U2:=ca4 U1 c1 c2 (ca4 c3 ga gx hlt)
  refine AW.w 4 U2 (Kj4 minI 258 [] _ _ _ _ _ _ _ fun p q L=>Vs2 p q _) ?_
  have hwi:IntKind.i64.wrap ((i:Int)+1)=(i:Int)+1:=wi (by omega)
  exact Wj (i+1) U2 hwi Tru
 have hin:i=n:=by have:=of_decide_eq_false h10;omega
 rw [hin]
 exact AW.f U1 Tru
theorem Xk7 (a b:Int)(m:Ja1):Ctr Tryz.prog 259 [.one (.int .i64 a),.one (.int .i64 b)] m (.one (.int .i64 (maxI a b))) m:=by
 exact Ctr.f Tryz.func259 [.tmp 4] 8 Tru Tru
theorem Vq6 (a:V)(m:Ja1):Ctr Tryz.prog 233 [.agg (c3C a),.one .nils] m (.agg (c3C a)) m:=by
 refine Ctr.en Tryz.func233 [.cell 4 59] 18 fun hwf Q hQ=>?_
 refine AW.w 4 @Ja5 Tru fun K J0=>?_
 refine AW.r 1 ?_
 exact AW.f @Ja5 Tru
theorem Qk8 (a:V)(G:Nat->V)(r v o n N:Nat)(m:Ja1)(hb:∃ k ez,m[r]?=some ⟨k,59,v,ez,Jb2 N (vF G)⟩)(hN:o+n<=N)(hn:n<=1000000):Ctr Tryz.prog 233 [.agg (c3C a),.one (.sl r v (o*3) n)] m (.agg (c3C (Vz5 a (fun j=>G (o+j)) n))) m:=by
 refine Ctr.en Tryz.func233 [.cell 4 59] 18 fun hwf Q hQ=>?_
 obtain ⟨k0,ez,hb⟩:=hb
 have lb:=Ja7 hb
 have bl:(Jb2 N (vF G)).length=N*3:=Ja6 (w:=3) (F:=vF G) (fun _=>rfl) _
 have hlt0:∀ k,¬m.length+k<m.length:=fun k=>by omega
 have U3:=ca4 hb (Ja4 hb) bl @Ja5
 refine AW.w 4 U3 Tru fun K J0=>?_
 refine AW.loopK [2,4,7,8] (fun i=>i<=n) (fun i=>[(9,.one (.int .i64 (i:Int)))]) (fun i=>[(m.length,⟨.fix,59,0,0,c3C (Vz5 a (fun j=>G (o+j)) i)⟩)]) (fun i=>n - i) 0 (by omega) ?_ ?_ fun i hi2=>?_
 · first|rfl|(simp only [KS,simprocAttr,Vz5,Int.natCast_zero]<;>repeat' (first|rfl|apply And.intro))
 · (simp only [Ja2,push_cast,simprocAttr,c3C])<;>rfl
 try simp only [Ja9,Ja2,push_cast,simprocAttr,U3]
 refine AW.w 2 U3 Tru fun K J1=>?_
 refine AW.cond rfl (fun h10=>?_) (fun h10=>?_)
 ·have hlt:i<n:=by have:=of_decide_eq_true h10;omega
  have c1:(0:Int)<=(i:Int):=by omega
  have c2:(i:Int)<(n:Int):=by omega
  have hoi:o+i<N:=by omega
  have c1:(0:Int)<=(i:Int):=by omega
  have c2:(i:Int)<(n:Int):=by omega
  have c3:o*3+(i*3+3)<=N*3:=by omega
  have ga:=Jb7 (w:=3) (F:=vF G) (fun _=>rfl) hoi
  rw [show (o+i)*3=o*3+i*3 by omega] at ga
  have gx:=Qw6 G (o+i)
  refine AW.w 4 Tru Tru fun K J1=>?_
  have U4:=ca4 U3 c1 c2 (ca4 c3 ga gx hlt)
  refine AW.w 4 U4 (Kj4 maxI 259 [] _ _ _ _ _ _ _ fun p q L=>Xk7 p q _) ?_
  have hwi:IntKind.i64.wrap ((i:Int)+1)=(i:Int)+1:=wi (by omega)
  exact Wj (i+1) U4 hwi Tru
 have hin:i=n:=by have:=of_decide_eq_false h10;omega
 rw [hin]
 exact AW.f U3 Tru
theorem Je6 (b:BX):bxC b=(c3C b.lo++c3C b.hi):=rfl
theorem Xq1 (a:V)(G:Nat->V)(r v o n N:Nat)(m:Ja1)(hb:∃ k ez,m[r]?=some ⟨k,59,v,ez,Jb2 N (vF G)⟩)(hN:o+n<=N)(hn:n<=1000000):Ctr Tryz.prog 193 [.agg (c3C a),.one (.sl r v (o*3) n)] m (.agg (bxC (⟨Vz3 a (fun j=>G (o+j)) n,Vz5 a (fun j=>G (o+j)) n⟩))) m:=by
 obtain ⟨k0,ez,hb⟩:=hb
 have lb:=Ja7 hb
 have U1:=ca2 @Je6 @Ja5
 exact Ctr.fd Tryz.func193 [.cell 4 232] 12 [[.rd 0,.val,.ext,.rd 0,.val,.ext,.val,.wr]] U1 (ca2 (Kw1 a G r v o n N _ ⟨k0,ez,Ja4 hb _⟩ hN hn) (Qk8 a G r v o n N _ ⟨k0,ez,Ja4 hb _⟩ hN hn))
theorem Xx8 (a:V)(m:Ja1):Ctr Tryz.prog 193 [.agg (c3C a),.one .nils] m (.agg (bxC (⟨a,a⟩))) m:=by
 have U2:=ca2 @Je6 @Ja5
 exact Ctr.fd Tryz.func193 [.cell 4 232] 12 [[.rd 0,.val,.ext,.rd 0,.val,.ext,.val,.wr]] U2 (ca2 (Ve7 a) (Vq6 a))
theorem Qw1 (a b:V):Ja8 a b=(fun k=>Je1 (a k) (b k)):=rfl
theorem Qw5 (a b:V):Jd7 a b=(fun k=>Jc7 (a k) (b k)):=rfl
theorem Qv9 (b:BX)(w:Int)(m:Ja1):Ctr Tryz.prog 224 [.agg (bxC b),.one (.int .i64 w)] m (.agg (bxC (⟨fun k=>Je1 (b.lo k) w,fun k=>Jc7 (b.hi k) w⟩))) m:=by
 have U3:=ca4 @Je6 @Ja5 @Qw1 @Qw5
 exact Ctr.fd Tryz.func224 [.cell 4 232] 19 [[.val,.rd 0,.rd 0,.ext,.val,.rd 0,.rd 0,.ext,.val,.wr]] U3 (ca3 Qb2 (Jh4 b.lo (fun _=>w)) (Qh6 b.hi (fun _=>w)))
theorem Vi2 (p:PL)(m:Ja1)(hk:(p.kind ==0)=true):Ctr Tryz.prog 178 [.agg (plC p)] m (.agg (bxC (Jc5 p))) m:=by
 refine Ctr.en Tryz.func178 [.cell 2 232] 26 fun hwf Q hQ=>?_
 have hv:Jc5 p=⟨fun k=>Je1 (p.P 0 k) (Jc7 p.r 8192),fun k=>Jc7 (p.P 0 k) (Jc7 p.r 8192)⟩:=by unfold Jc5;rw [if_pos (eq_of_beq hk)]
 rw [hv] at hQ
 have gx:=Jg4 p
 have U4:=ca4 gx hk @Je6 @Ja5
 exact AW.fd [[.val,.val,.rd 0,.ext,.val,.rd 0,.ext,.ext,.wr]] U4 (ca3 (Xx8 (p.P 0)) Jw7 (Qv9 ⟨p.P 0,p.P 0⟩ (Jc7 p.r 8192)))
theorem Vi1 (p:PL)(m:Ja1)(hk:(p.kind ==0)=false):Ctr Tryz.prog 178 [.agg (plC p)] m (.agg (bxC (Jc5 p))) m:=by
 refine Ctr.en Tryz.func178 [.cell 2 232] 26 fun hwf Q hQ=>?_
 have hv:Jc5 p=⟨fun k=>Je1 (lo3 p k) 8192,fun k=>Jc7 (hi3 p k) 8192⟩:=by unfold Jc5;rw [if_neg (by simpa using hk)]
 rw [hv] at hQ
 have gx:=Jg4 p
 have U5:=ca4 gx hk @Je6 @Ja5
 refine AW.w 6 U5 Tru ?_
 refine AW.sr 1 fun K J0=>?_
 simp only [push_cast,simprocAttr,U5]
 refine CThen.by ((by have h:=fun M q=>Xq1 (p.P 0) (fun j=>p.P (j+1)) (m.length+2) 0 0 2 2 M q (by omega) (by omega);exact h _ ⟨.grow,3,by rw [Jf3];rfl⟩)) ?_
 simp only [push_cast,simprocAttr,U5]
 refine CThen.by (Qv9 ⟨lo3 p,hi3 p⟩ 8192 _) ?_
 simp only [push_cast,simprocAttr,U5]
 exact AW.f Tru Tru
theorem Jp9 (p:PL)(m:Ja1):Ctr Tryz.prog 178 [.agg (plC p)] m (.agg (bxC (Jc5 p))) m:=by
 cases hk:(p.kind ==0)
 ·exact Vi1 p m hk
 exact Vi2 p m hk
theorem Kn7 (b c:BX)(r v:Nat)(m:Ja1)(hb:∃ k ez,m[r]?=some ⟨k,232,v,ez,bxC c⟩):Ctr Tryz.prog 226 [.agg (bxC b),.one (.sl r v 0 1)] m (.agg (bxC (Vs7 b c))) m:=by
 refine Ctr.en Tryz.func226 [.cell 4 232] 28 fun hwf Q hQ=>?_
 obtain ⟨k0,ez,hb⟩:=hb
 have lb:=Ja7 hb
 have U6:=ca4 hb (Ja4 hb) @Je6 @Ja5
 refine AW.w 4 U6 Tru fun K J0=>?_
 refine AW.r 2 ?_
 refine AW.w 6 U6 Tru fun K J1 K J2=>?_
 refine AW.drawX fol (by kernel_rfl) ?_
 refine DX.split 4 10 (by decide) ?_ ?_
 ·refine DX.split 5 10 (by decide) ?_ ?_
  ·refine DX.run [0,1,2,3,4,5,6,7,8,9,10,11,12,13] [.val,.rd 0,.val,.rd 0,.ext,.ext,.val,.rd 0,.val,.rd 0,.ext,.ext,.val,.wr] (by simp only [Jr1,Qu9,List.idxOf_cons,push_cast,simprocAttr,U6];first|done|rfl) (by kernel_rfl) ?_
   simp only [push_cast,simprocAttr,U6]
   refine DExt.by (by first|rfl|exact (List.append_nil _).symm|(simp only [List.append_assoc,List.cons_append,List.nil_append];rfl)) ?_
   simp only [push_cast,simprocAttr,U6]
   refine DCall.z ((by have h:=fun M r q=>Kw1 b.lo (fun _=>c.lo) r 0 0 1 1 M q (by omega) (by omega);exact h _ _ ⟨.grow,3,by simp only [push_cast,simprocAttr];rfl⟩)) ?_
   simp only [push_cast,simprocAttr,U6]
   refine DExt.by (by first|rfl|exact (List.append_nil _).symm|(simp only [List.append_assoc,List.cons_append,List.nil_append];rfl)) ?_
   simp only [push_cast,simprocAttr,U6]
   refine DCall.z ((by have h:=fun M r q=>Qk8 b.hi (fun _=>c.hi) r 0 0 1 1 M q (by omega) (by omega);exact h _ _ ⟨.grow,3,by simp only [push_cast,simprocAttr];rfl⟩)) ?_
   simp only [push_cast,simprocAttr,U6]
   exact AW.f U6 Tru
  refine DX.run [0,1,2,3,4,6,7,8,9,10,5,11,12,13] [.val,.rd 0,.val,.rd 0,.ext,.val,.rd 0,.val,.rd 0,.ext,.ext,.ext,.val,.wr] (by simp only [Jr1,Qu9,List.idxOf_cons,push_cast,simprocAttr,U6];first|done|rfl) (by kernel_rfl) ?_
  iterate 2
   simp only [push_cast,simprocAttr,U6]
   refine DExt.by (by first|rfl|exact (List.append_nil _).symm|(simp only [List.append_assoc,List.cons_append,List.nil_append];rfl)) ?_
  simp only [push_cast,simprocAttr,U6]
  refine DCall.z ((by have h:=fun M r q=>Kw1 b.lo (fun _=>c.lo) r 0 0 1 1 M q (by omega) (by omega);exact h _ _ ⟨.grow,3,by simp only [push_cast,simprocAttr];rfl⟩)) ?_
  simp only [push_cast,simprocAttr,U6]
  refine DCall.z ((by have h:=fun M r q=>Qk8 b.hi (fun _=>c.hi) r 0 0 1 1 M q (by omega) (by omega);exact h _ _ ⟨.grow,3,by simp only [push_cast,simprocAttr];rfl⟩)) ?_
  simp only [push_cast,simprocAttr,U6]
  exact AW.f U6 Tru
 refine DX.run [0,1,2,3,6,7,8,9,10,4,5,11,12,13] [.val,.rd 0,.val,.rd 0,.val,.rd 0,.val,.rd 0,.ext,.ext,.ext,.ext,.val,.wr] (by simp only [Jr1,Qu9,List.idxOf_cons,push_cast,simprocAttr,U6];first|done|rfl) (by kernel_rfl) ?_
 iterate 2
  simp only [push_cast,simprocAttr,U6]
  refine DExt.by (by first|rfl|exact (List.append_nil _).symm|(simp only [List.append_assoc,List.cons_append,List.nil_append];rfl)) ?_
 simp only [push_cast,simprocAttr,U6]
 refine DCall.z ((by have h:=fun M r q=>Kw1 b.lo (fun _=>c.lo) r 0 0 1 1 M q (by omega) (by omega);exact h _ _ ⟨.grow,3,by simp only [push_cast,simprocAttr];rfl⟩)) ?_
 simp only [push_cast,simprocAttr,U6]
 refine DCall.z ((by have h:=fun M r q=>Qk8 b.hi (fun _=>c.hi) r 0 0 1 1 M q (by omega) (by omega);exact h _ _ ⟨.grow,3,by simp only [push_cast,simprocAttr];rfl⟩)) ?_
 simp only [push_cast,simprocAttr,U6]
 exact AW.f U6 Tru
theorem Kf2 (p:PR):prC p=(bxC p.a++bxC p.b):=rfl
theorem Yc7 (p q:PR)(r v:Nat)(m:Ja1)(hb:∃ k ez,m[r]?=some ⟨k,234,v,ez,prC q⟩):Ctr Tryz.prog 251 [.agg (prC p),.one (.sl r v 0 1)] m (.agg (prC (Qd3 p q))) m:=by
 refine Ctr.en Tryz.func251 [.cell 4 234] 28 fun hwf Q hQ=>?_
 obtain ⟨k0,ez,hb⟩:=hb
 have lb:=Ja7 hb
 have U1:=ca4 hb (Ja4 hb) @Kf2 (ca2 @Je6 @Ja5)
 refine AW.w 4 U1 Tru fun K J0=>?_
 refine AW.r 2 ?_
 refine AW.w 6 U1 Tru fun K J1 K J2=>?_
 refine AW.drawX fol (by kernel_rfl) ?_
 refine DX.split 4 10 (by decide) ?_ ?_
 ·refine DX.split 5 10 (by decide) ?_ ?_
  ·refine DX.run [0,1,2,3,4,5,6,7,8,9,10,11,12,13] [.val,.rd 0,.val,.rd 0,.ext,.ext,.val,.rd 0,.val,.rd 0,.ext,.ext,.val,.wr] (by simp only [Jr1,Qu9,List.idxOf_cons,push_cast,simprocAttr,U1];first|done|rfl) (by kernel_rfl) ?_
   simp only [push_cast,simprocAttr,U1]
   refine DExt.by (by first|rfl|exact (List.append_nil _).symm|(simp only [List.append_assoc,List.cons_append,List.nil_append];rfl)) ?_
   simp only [push_cast,simprocAttr,U1]
   refine DCall.z (Kn7 (p.a) (q.a) _ 0 _ ⟨.grow,6,by simp only [push_cast,simprocAttr];rfl⟩) ?_
   simp only [push_cast,simprocAttr,U1]
   refine DExt.by (by first|rfl|exact (List.append_nil _).symm|(simp only [List.append_assoc,List.cons_append,List.nil_append];rfl)) ?_
   simp only [push_cast,simprocAttr,U1]
   refine DCall.z (Kn7 (p.b) (q.b) _ 0 _ ⟨.grow,6,by simp only [push_cast,simprocAttr];rfl⟩) ?_
   simp only [push_cast,simprocAttr,U1]
   exact AW.f U1 Tru
  refine DX.run [0,1,2,3,4,6,7,8,9,10,5,11,12,13] [.val,.rd 0,.val,.rd 0,.ext,.val,.rd 0,.val,.rd 0,.ext,.ext,.ext,.val,.wr] (by simp only [Jr1,Qu9,List.idxOf_cons,push_cast,simprocAttr,U1];first|done|rfl) (by kernel_rfl) ?_
  iterate 2
   simp only [push_cast,simprocAttr,U1]
   refine DExt.by (by first|rfl|exact (List.append_nil _).symm|(simp only [List.append_assoc,List.cons_append,List.nil_append];rfl)) ?_
  simp only [push_cast,simprocAttr,U1]
  refine DCall.z (Kn7 (p.a) (q.a) _ 0 _ ⟨.grow,6,by simp only [push_cast,simprocAttr];rfl⟩) ?_
  simp only [push_cast,simprocAttr,U1]
  refine DCall.z (Kn7 (p.b) (q.b) _ 0 _ ⟨.grow,6,by simp only [push_cast,simprocAttr];rfl⟩) ?_
  simp only [push_cast,simprocAttr,U1]
  exact AW.f U1 Tru
 refine DX.run [0,1,2,3,6,7,8,9,10,4,5,11,12,13] [.val,.rd 0,.val,.rd 0,.val,.rd 0,.val,.rd 0,.ext,.ext,.ext,.ext,.val,.wr] (by simp only [Jr1,Qu9,List.idxOf_cons,push_cast,simprocAttr,U1];first|done|rfl) (by kernel_rfl) ?_
 iterate 2
  simp only [push_cast,simprocAttr,U1]
  refine DExt.by (by first|rfl|exact (List.append_nil _).symm|(simp only [List.append_assoc,List.cons_append,List.nil_append];rfl)) ?_
 simp only [push_cast,simprocAttr,U1]
 refine DCall.z (Kn7 (p.a) (q.a) _ 0 _ ⟨.grow,6,by simp only [push_cast,simprocAttr];rfl⟩) ?_
 simp only [push_cast,simprocAttr,U1]
 refine DCall.z (Kn7 (p.b) (q.b) _ 0 _ ⟨.grow,6,by simp only [push_cast,simprocAttr];rfl⟩) ?_
 simp only [push_cast,simprocAttr,U1]
 exact AW.f U1 Tru
theorem Xp5 (b:BX)(m:Ja1)(g0:2147483648<=Jj0 (b.lo 0)):Ctr Tryz.prog 179 [.agg (bxC b)] m (.one (.bool true)) m:=by
 refine Ctr.en Tryz.func179 [.tmp 2] 26 fun hwf Q hQ=>?_
 have U2:=ca4 @Je6 @Ja5 @decide_true (ca2 @decide_false g0)
 refine AW.w 4 U2 Tru fun K J0=>?_
 refine AW.r 4 ?_
 refine AW.wd [[.val,.rd 0,.val,.ext,.val,.rd 0,.val,.ext,.val,.val]] 8 U2 (ca2 (Jc4 b.lo) (Jc4 b.hi)) fun K J1 K J2=>?_
 refine AW.r 3 ?_
 refine ARounds.s fun K J3=>?_
 have U3:=ca2 U2 g0
 exact AW.f U3 (Jk9 (b.lo 0))
theorem Xp4 (b:BX)(m:Ja1)(g0:¬2147483648<=Jj0 (b.lo 0))(g1:2147483648<=Jj0 (b.hi 0)):Ctr Tryz.prog 179 [.agg (bxC b)] m (.one (.bool true)) m:=by
 refine Ctr.en Tryz.func179 [.tmp 2] 26 fun hwf Q hQ=>?_
 have U4:=ca4 @Je6 @Ja5 @decide_true (ca3 @decide_false g0 g1)
 refine AW.w 4 U4 Tru fun K J0=>?_
 refine AW.r 4 ?_
 refine AW.wd [[.val,.rd 0,.val,.ext,.val,.rd 0,.val,.ext,.val,.val]] 8 U4 (ca2 (Jc4 b.lo) (Jc4 b.hi)) fun K J1 K J2=>?_
 refine AW.r 3 ?_
 refine ARounds.s fun K J3=>?_
 have U5:=ca2 U4 g0
 refine AW.w 12 U5 (Jk9 (b.lo 0)) fun K J3=>?_
 have U6:=ca2 U4 g1
 exact AW.f U6 (Jk9 (b.hi 0))
theorem Xp3 (b:BX)(m:Ja1)(g0:¬2147483648<=Jj0 (b.lo 0))(g1:¬2147483648<=Jj0 (b.hi 0))(g2:2147483648<=Jj0 (b.lo 1)):Ctr Tryz.prog 179 [.agg (bxC b)] m (.one (.bool true)) m:=by
 refine Ctr.en Tryz.func179 [.tmp 2] 26 fun hwf Q hQ=>?_
 have U7:=ca4 @Je6 @Ja5 @decide_true (ca4 @decide_false g0 g1 g2)
 refine AW.w 4 U7 Tru fun K J0=>?_
 refine AW.r 4 ?_
 refine AW.wd [[.val,.rd 0,.val,.ext,.val,.rd 0,.val,.ext,.val,.val]] 8 U7 (ca2 (Jc4 b.lo) (Jc4 b.hi)) fun K J1 K J2=>?_
 refine AW.r 3 ?_
 refine ARounds.s fun K J3=>?_
 have U8:=ca2 U7 g0
 refine AW.w 12 U8 (Jk9 (b.lo 0)) fun K J3=>?_
 have U9:=ca2 U7 g1
 refine AW.w 12 U9 (Jk9 (b.hi 0)) fun K J3=>?_
 refine AW.wd [[.val,.rd 0,.val,.ext,.val,.rd 0,.val,.ext,.val,.val]] 15 U7 (ca2 (Jd5 b.lo) (Jd5 b.hi)) fun K J4 K J1 K J2=>?_
 refine AW.r 3 ?_
 refine ARounds.s fun K J3=>?_
 have U10:=ca2 U7 g2
 exact AW.f U10 (Jk9 (b.lo 1))
theorem Xp2 (b:BX)(m:Ja1)(g0:¬2147483648<=Jj0 (b.lo 0))(g1:¬2147483648<=Jj0 (b.hi 0))(g2:¬2147483648<=Jj0 (b.lo 1))(g3:2147483648<=Jj0 (b.hi 1)):Ctr Tryz.prog 179 [.agg (bxC b)] m (.one (.bool true)) m:=by
 refine Ctr.en Tryz.func179 [.tmp 2] 26 fun hwf Q hQ=>?_
 have U11:=ca4 @Je6 @Ja5 @decide_true (ca4 @decide_false g0 g1 (ca2 g2 g3))
 refine AW.w 4 U11 Tru fun K J0=>?_
 refine AW.r 4 ?_
 refine AW.wd [[.val,.rd 0,.val,.ext,.val,.rd 0,.val,.ext,.val,.val]] 8 U11 (ca2 (Jc4 b.lo) (Jc4 b.hi)) fun K J1 K J2=>?_
 refine AW.r 3 ?_
 refine ARounds.s fun K J3=>?_
 have U12:=ca2 U11 g0
 refine AW.w 12 U12 (Jk9 (b.lo 0)) fun K J3=>?_
 have U13:=ca2 U11 g1
 refine AW.w 12 U13 (Jk9 (b.hi 0)) fun K J3=>?_
 refine AW.wd [[.val,.rd 0,.val,.ext,.val,.rd 0,.val,.ext,.val,.val]] 15 U11 (ca2 (Jd5 b.lo) (Jd5 b.hi)) fun K J4 K J1 K J2=>?_
 refine AW.r 3 ?_
 refine ARounds.s fun K J3=>?_
 have U14:=ca2 U11 g2
 refine AW.w 12 U14 (Jk9 (b.lo 1)) fun K J3=>?_
 have U15:=ca2 U11 g3
 exact AW.f U15 (Jk9 (b.hi 1))
theorem Xp1 (b:BX)(m:Ja1)(g0:¬2147483648<=Jj0 (b.lo 0))(g1:¬2147483648<=Jj0 (b.hi 0))(g2:¬2147483648<=Jj0 (b.lo 1))(g3:¬2147483648<=Jj0 (b.hi 1))(g4:2147483648<=Jj0 (b.lo 2)):Ctr Tryz.prog 179 [.agg (bxC b)] m (.one (.bool true)) m:=by
 refine Ctr.en Tryz.func179 [.tmp 2] 26 fun hwf Q hQ=>?_
 have U16:=ca4 @Je6 @Ja5 @decide_true (ca4 @decide_false g0 g1 (ca3 g2 g3 g4))
 refine AW.w 4 U16 Tru fun K J0=>?_
 refine AW.r 4 ?_
 refine AW.wd [[.val,.rd 0,.val,.ext,.val,.rd 0,.val,.ext,.val,.val]] 8 U16 (ca2 (Jc4 b.lo) (Jc4 b.hi)) fun K J1 K J2=>?_
 refine AW.r 3 ?_
 refine ARounds.s fun K J3=>?_
 have U17:=ca2 U16 g0
 refine AW.w 12 U17 (Jk9 (b.lo 0)) fun K J3=>?_
 have U18:=ca2 U16 g1
 refine AW.w 12 U18 (Jk9 (b.hi 0)) fun K J3=>?_
 refine AW.wd [[.val,.rd 0,.val,.ext,.val,.rd 0,.val,.ext,.val,.val]] 15 U16 (ca2 (Jd5 b.lo) (Jd5 b.hi)) fun K J4 K J1 K J2=>?_
 refine AW.r 3 ?_
 refine ARounds.s fun K J3=>?_
 have U19:=ca2 U16 g2
 refine AW.w 12 U19 (Jk9 (b.lo 1)) fun K J3=>?_
 have U20:=ca2 U16 g3
 refine AW.w 12 U20 (Jk9 (b.hi 1)) fun K J3=>?_
 refine AW.wd [[.val,.rd 0,.val,.ext,.val,.rd 0,.val,.ext,.val,.val]] 15 U16 (ca2 (Jg1 b.lo) (Jg1 b.hi)) fun K J4 K J1 K J2=>?_
 refine AW.r 3 ?_
 refine ARounds.s fun K J3=>?_
 have U21:=ca2 U16 g4
 exact AW.f U21 (Jk9 (b.lo 2))
theorem Xp0 (b:BX)(m:Ja1)(g0:¬2147483648<=Jj0 (b.lo 0))(g1:¬2147483648<=Jj0 (b.hi 0))(g2:¬2147483648<=Jj0 (b.lo 1))(g3:¬2147483648<=Jj0 (b.hi 1))(g4:¬2147483648<=Jj0 (b.lo 2))(g5:2147483648<=Jj0 (b.hi 2)):Ctr Tryz.prog 179 [.agg (bxC b)] m (.one (.bool true)) m:=by
 refine Ctr.en Tryz.func179 [.tmp 2] 26 fun hwf Q hQ=>?_
 have U22:=ca4 @Je6 @Ja5 @decide_true (ca4 @decide_false g0 g1 (ca4 g2 g3 g4 g5))
 refine AW.w 4 U22 Tru fun K J0=>?_
 refine AW.r 4 ?_
 refine AW.wd [[.val,.rd 0,.val,.ext,.val,.rd 0,.val,.ext,.val,.val]] 8 U22 (ca2 (Jc4 b.lo) (Jc4 b.hi)) fun K J1 K J2=>?_
 refine AW.r 3 ?_
 refine ARounds.s fun K J3=>?_
 have U23:=ca2 U22 g0
 refine AW.w 12 U23 (Jk9 (b.lo 0)) fun K J3=>?_
 have U24:=ca2 U22 g1
 refine AW.w 12 U24 (Jk9 (b.hi 0)) fun K J3=>?_
 refine AW.wd [[.val,.rd 0,.val,.ext,.val,.rd 0,.val,.ext,.val,.val]] 15 U22 (ca2 (Jd5 b.lo) (Jd5 b.hi)) fun K J4 K J1 K J2=>?_
 refine AW.r 3 ?_
 refine ARounds.s fun K J3=>?_
 have U25:=ca2 U22 g2
 refine AW.w 12 U25 (Jk9 (b.lo 1)) fun K J3=>?_
 have U26:=ca2 U22 g3
 refine AW.w 12 U26 (Jk9 (b.hi 1)) fun K J3=>?_
 refine AW.wd [[.val,.rd 0,.val,.ext,.val,.rd 0,.val,.ext,.val,.val]] 15 U22 (ca2 (Jg1 b.lo) (Jg1 b.hi)) fun K J4 K J1 K J2=>?_
 refine AW.r 3 ?_
 refine ARounds.s fun K J3=>?_
 have U27:=ca2 U22 g4
 refine AW.w 12 U27 (Jk9 (b.lo 2)) fun K J3=>?_
 have U28:=ca2 U22 g5
 exact AW.f U28 (Jk9 (b.hi 2))
theorem Xo9 (b:BX)(m:Ja1)(g0:¬2147483648<=Jj0 (b.lo 0))(g1:¬2147483648<=Jj0 (b.hi 0))(g2:¬2147483648<=Jj0 (b.lo 1))(g3:¬2147483648<=Jj0 (b.hi 1))(g4:¬2147483648<=Jj0 (b.lo 2))(g5:¬2147483648<=Jj0 (b.hi 2)):Ctr Tryz.prog 179 [.agg (bxC b)] m (.one (.bool false)) m:=by
 refine Ctr.en Tryz.func179 [.tmp 2] 26 fun hwf Q hQ=>?_
 have U29:=ca4 @Je6 @Ja5 @decide_true (ca4 @decide_false g0 g1 (ca4 g2 g3 g4 g5))
 refine AW.w 4 U29 Tru fun K J0=>?_
 refine AW.r 4 ?_
 refine AW.wd [[.val,.rd 0,.val,.ext,.val,.rd 0,.val,.ext,.val,.val]] 8 U29 (ca2 (Jc4 b.lo) (Jc4 b.hi)) fun K J1 K J2=>?_
 refine AW.r 3 ?_
 refine ARounds.s fun K J3=>?_
 have U30:=ca2 U29 g0
 refine AW.w 12 U30 (Jk9 (b.lo 0)) fun K J3=>?_
 have U31:=ca2 U29 g1
 refine AW.w 12 U31 (Jk9 (b.hi 0)) fun K J3=>?_
 refine AW.wd [[.val,.rd 0,.val,.ext,.val,.rd 0,.val,.ext,.val,.val]] 15 U29 (ca2 (Jd5 b.lo) (Jd5 b.hi)) fun K J4 K J1 K J2=>?_
 refine AW.r 3 ?_
 refine ARounds.s fun K J3=>?_
 have U32:=ca2 U29 g2
 refine AW.w 12 U32 (Jk9 (b.lo 1)) fun K J3=>?_
 have U33:=ca2 U29 g3
 refine AW.w 12 U33 (Jk9 (b.hi 1)) fun K J3=>?_
 refine AW.wd [[.val,.rd 0,.val,.ext,.val,.rd 0,.val,.ext,.val,.val]] 15 U29 (ca2 (Jg1 b.lo) (Jg1 b.hi)) fun K J4 K J1 K J2=>?_
 refine AW.r 3 ?_
 refine ARounds.s fun K J3=>?_
 have U34:=ca2 U29 g4
 refine AW.w 12 U34 (Jk9 (b.lo 2)) fun K J3=>?_
 have U35:=ca2 U29 g5
 refine AW.w 12 U35 (Jk9 (b.hi 2)) fun K J3=>?_
 exact AW.f U29 Tru
theorem Ko9 (b:BX)(m:Ja1)(q:Bool)(hq:q=true↔Ke0 b):Ctr Tryz.prog 179 [.agg (bxC b)] m (.one (.bool q)) m:=by
 by_cases g0:2147483648<=Jj0 (b.lo 0)
 ·obtain rfl:q=true:=hq.2 ⟨0,by omega,.inl g0⟩
  exact Xp5 b m g0
 by_cases g1:2147483648<=Jj0 (b.hi 0)
 ·obtain rfl:q=true:=hq.2 ⟨0,by omega,.inr g1⟩
  exact Xp4 b m g0 g1
 by_cases g2:2147483648<=Jj0 (b.lo 1)
 ·obtain rfl:q=true:=hq.2 ⟨1,by omega,.inl g2⟩
  exact Xp3 b m g0 g1 g2
 by_cases g3:2147483648<=Jj0 (b.hi 1)
 ·obtain rfl:q=true:=hq.2 ⟨1,by omega,.inr g3⟩
  exact Xp2 b m g0 g1 g2 g3
 by_cases g4:2147483648<=Jj0 (b.lo 2)
 ·obtain rfl:q=true:=hq.2 ⟨2,by omega,.inl g4⟩
  exact Xp1 b m g0 g1 g2 g3 g4
 by_cases g5:2147483648<=Jj0 (b.hi 2)
 ·obtain rfl:q=true:=hq.2 ⟨2,by omega,.inr g5⟩
  exact Xp0 b m g0 g1 g2 g3 g4 g5
 obtain rfl:q=false:=by
  cases q with
  | false=>rfl
  | true =>
   obtain ⟨k,hk,h⟩:=hq.1 rfl
   match k,hk,h with
   | 0,_,.inl h=>exact absurd h g0
   | 0,_,.inr h=>exact absurd h g1
   | 1,_,.inl h=>exact absurd h g2
   | 1,_,.inr h=>exact absurd h g3
   | 2,_,.inl h=>exact absurd h g4
   | 2,_,.inr h=>exact absurd h g5
 exact Xo9 b m g0 g1 g2 g3 g4 g5
theorem Xx5 (p:PR)(t:Int)(m:Ja1):Ctr Tryz.prog 123 [.agg (prC p),.one (.int .i64 t)] m (.agg (bxC (atP p t))) m:=by
 have U36:=ca3 @Kf2 @Je6 @Ja5
 exact Ctr.fd Tryz.func123 [.cell 4 232] 22 [[.val,.val,.rd 0,.val,.val,.rd 0,.val,.ext,.val,.val,.rd 0,.val,.val,.rd 0,.val,.ext,.val,.wr]] U36 (ca2 (Kh7 p.a.lo p.b.lo t) (Kh7 p.a.hi p.b.hi t))
theorem Qk5 (p:PR)(m:Ja1):Ctr Tryz.prog 182 [.agg (prC p)] m (.agg (bxC (Jq2 p))) m:=by
 refine Ctr.en Tryz.func182 [.cell 2 232] 9 fun hwf Q hQ=>?_
 refine AW.sr 2 fun K J0=>?_
 simp only [push_cast,simprocAttr,prC,bxC,c3C]
 refine CThen.by (Kn7 p.a p.b _ 0 _ ⟨.grow,6,by simp only [push_cast,simprocAttr];rfl⟩) ?_
 simp only [push_cast,simprocAttr,prC,bxC,c3C]
 exact AW.f Tru Tru
theorem Vq7 (b:BX)(m:Ja1):Ctr Tryz.prog 183 [.agg (bxC b)] m (.agg (c3C (Xy2 b))) m:=by
 have U37:=ca2 @Je6 @Ja5
 exact Ctr.f Tryz.func183 [.cell 2 59] 8 U37 (Kh7 b.lo b.hi 32768)
theorem Vh8 (b:BX)(m:Ja1):Ctr Tryz.prog 252 [.agg (bxC b)] m (.agg (c3C (Ju2 b))) m:=by
 have U38:=ca2 @Je6 @Ja5
 exact Ctr.f Tryz.func252 [.cell 2 59] 8 U38 (Jh4 b.hi b.lo)
theorem Xu4 (b:BX)(m:Ja1):Ctr Tryz.prog 267 [.agg (bxC b)] m (.one (.int .i64 (Kz1 b))) m:=by
 refine Ctr.en Tryz.func267 [.tmp 2] 23 fun hwf Q hQ=>?_
 have hv:Kz1 b=Jc7 (Jc7 (Jc7 0 (Jd3 (Ju2 b 0) (Ju2 b 1))) (Jd3 (Ju2 b 1) (Ju2 b 2))) (Jd3 (Ju2 b 2) (Ju2 b 0)):=rfl
 rw [hv] at hQ
 have U39:=ca2 @Je6 @Ja5
 refine AW.c 2 U39 (Vh8 b) ?_
 refine AW.q fun K J0=>?_
 refine AW.draw [.val,.rd 0,.val,.rd 0,.ext,.val,.rd 0,.val,.rd 0,.ext,.val,.rd 0,.val,.rd 0,.ext,.ext,.ext,.val] fol (by decide) (by kernel_rfl) ?_
 iterate 3
  simp only [push_cast,simprocAttr,U39]
  refine DCall.z (Jk7 _ _ _) ?_
 simp only [push_cast,simprocAttr,U39]
 refine DExt.by (by first|rfl|exact (List.append_nil _).symm|(simp only [List.append_assoc,List.cons_append,List.nil_append];rfl)) ?_
 simp only [push_cast,simprocAttr,U39]
 refine DCall.z (Vy0 _ 0 (Jd3 (Ju2 b 0) (Ju2 b 1)) (Jd3 (Ju2 b 1) (Ju2 b 2)) (Jd3 (Ju2 b 2) (Ju2 b 0)) _ ⟨.grow,1,by simp only [push_cast,simprocAttr]⟩) ?_
 simp only [push_cast,simprocAttr,U39]
 exact AW.f U39 Tru
theorem Vr5 (b c:BX)(m:Ja1)(g0:c.hi 0<b.lo 0):Ctr Tryz.prog 124 [.agg (bxC b),.agg (bxC c)] m (.one (.bool false)) m:=by
 refine Ctr.en Tryz.func124 [.tmp 4] 30 fun hwf Q hQ=>?_
 have U40:=ca4 @Je6 @Ja5 @decide_true (ca2 @decide_false g0)
 refine AW.w 4 U40 Tru fun K J0=>?_
 refine AW.r 4 ?_
 refine AW.w 6 U40 Tru fun K J1 K J2=>?_
 refine AW.q fun K J3=>?_
 refine AW.draw [.val,.rd 0,.val,.ext,.val,.rd 0,.val,.ext,.val,.val,.val,.rd 2,.val,.ext,.val,.rd 2,.val,.ext,.val,.val] fol (by decide) (by kernel_rfl) ?_
 simp only [push_cast,simprocAttr,U40]
 refine DCall.z (Jc4 c.hi _) ?_
 simp only [push_cast,simprocAttr,U40]
 refine DCall.z (Jc4 b.lo _) ?_
 simp only [push_cast,simprocAttr,U40]
 try (refine DCall.z (Jc4 c.lo _) ?_;simp only [push_cast,simprocAttr,U40])
 try (refine DCall.z (Jc4 b.hi _) ?_;simp only [push_cast,simprocAttr,U40])
 exact AW.f U40 Tru
theorem Vr4 (b c:BX)(m:Ja1)(g0:¬c.hi 0<b.lo 0)(g1:b.hi 0<c.lo 0):Ctr Tryz.prog 124 [.agg (bxC b),.agg (bxC c)] m (.one (.bool false)) m:=by
 refine Ctr.en Tryz.func124 [.tmp 4] 30 fun hwf Q hQ=>?_
 have U41:=ca4 @Je6 @Ja5 @decide_true (ca3 @decide_false g0 g1)
 refine AW.w 4 U41 Tru fun K J0=>?_
 refine AW.r 4 ?_
 refine AW.w 6 U41 Tru fun K J1 K J2=>?_
 refine AW.q fun K J3=>?_
 refine AW.draw [.val,.rd 0,.val,.ext,.val,.rd 0,.val,.ext,.val,.val,.val,.rd 2,.val,.ext,.val,.rd 2,.val,.ext,.val,.val] fol (by decide) (by kernel_rfl) ?_
 simp only [push_cast,simprocAttr,U41]
 refine DCall.z (Jc4 c.hi _) ?_
 simp only [push_cast,simprocAttr,U41]
 refine DCall.z (Jc4 b.lo _) ?_
 simp only [push_cast,simprocAttr,U41]
 try (refine DCall.z (Jc4 c.lo _) ?_;simp only [push_cast,simprocAttr,U41])
 try (refine DCall.z (Jc4 b.hi _) ?_;simp only [push_cast,simprocAttr,U41])
 exact AW.f U41 Tru
theorem Vr3 (b c:BX)(m:Ja1)(g0:¬c.hi 0<b.lo 0)(g1:¬b.hi 0<c.lo 0)(g2:c.hi 1<b.lo 1):Ctr Tryz.prog 124 [.agg (bxC b),.agg (bxC c)] m (.one (.bool false)) m:=by
 refine Ctr.en Tryz.func124 [.tmp 4] 30 fun hwf Q hQ=>?_
 have U42:=ca4 @Je6 @Ja5 @decide_true (ca4 @decide_false g0 g1 g2)
 refine AW.w 4 U42 Tru fun K J0=>?_
 refine AW.r 4 ?_
 refine AW.w 6 U42 Tru fun K J1 K J2=>?_
 refine AW.q fun K J3=>?_
 refine AW.draw [.val,.rd 0,.val,.ext,.val,.rd 0,.val,.ext,.val,.val,.val,.rd 2,.val,.ext,.val,.rd 2,.val,.ext,.val,.val] fol (by decide) (by kernel_rfl) ?_
 simp only [push_cast,simprocAttr,U42]
 refine DCall.z (Jc4 c.hi _) ?_
 simp only [push_cast,simprocAttr,U42]
 refine DCall.z (Jc4 b.lo _) ?_
 simp only [push_cast,simprocAttr,U42]
 try (refine DCall.z (Jc4 c.lo _) ?_;simp only [push_cast,simprocAttr,U42])
 try (refine DCall.z (Jc4 b.hi _) ?_;simp only [push_cast,simprocAttr,U42])
 refine AW.w 12 U42 Tru fun K J1 K J2=>?_
 refine AW.q fun K J3=>?_
 refine AW.draw [.val,.rd 0,.val,.ext,.val,.rd 0,.val,.ext,.val,.val,.val,.rd 2,.val,.ext,.val,.rd 2,.val,.ext,.val,.val] fol (by decide) (by kernel_rfl) ?_
 simp only [push_cast,simprocAttr,U42]
 refine DCall.z (Jd5 c.hi _) ?_
 simp only [push_cast,simprocAttr,U42]
 refine DCall.z (Jd5 b.lo _) ?_
 simp only [push_cast,simprocAttr,U42]
 try (refine DCall.z (Jd5 c.lo _) ?_;simp only [push_cast,simprocAttr,U42])
 try (refine DCall.z (Jd5 b.hi _) ?_;simp only [push_cast,simprocAttr,U42])
 exact AW.f U42 Tru
theorem Vr2 (b c:BX)(m:Ja1)(g0:¬c.hi 0<b.lo 0)(g1:¬b.hi 0<c.lo 0)(g2:¬c.hi 1<b.lo 1)(g3:b.hi 1<c.lo 1):Ctr Tryz.prog 124 [.agg (bxC b),.agg (bxC c)] m (.one (.bool false)) m:=by
 refine Ctr.en Tryz.func124 [.tmp 4] 30 fun hwf Q hQ=>?_
 have U43:=ca4 @Je6 @Ja5 @decide_true (ca4 @decide_false g0 g1 (ca2 g2 g3))
 refine AW.w 4 U43 Tru fun K J0=>?_
 refine AW.r 4 ?_
 refine AW.w 6 U43 Tru fun K J1 K J2=>?_
 refine AW.q fun K J3=>?_
 refine AW.draw [.val,.rd 0,.val,.ext,.val,.rd 0,.val,.ext,.val,.val,.val,.rd 2,.val,.ext,.val,.rd 2,.val,.ext,.val,.val] fol (by decide) (by kernel_rfl) ?_
 simp only [push_cast,simprocAttr,U43]
 refine DCall.z (Jc4 c.hi _) ?_
 simp only [push_cast,simprocAttr,U43]
 refine DCall.z (Jc4 b.lo _) ?_
 simp only [push_cast,simprocAttr,U43]
 try (refine DCall.z (Jc4 c.lo _) ?_;simp only [push_cast,simprocAttr,U43])
 try (refine DCall.z (Jc4 b.hi _) ?_;simp only [push_cast,simprocAttr,U43])
 refine AW.w 12 U43 Tru fun K J1 K J2=>?_
 refine AW.q fun K J3=>?_
 refine AW.draw [.val,.rd 0,.val,.ext,.val,.rd 0,.val,.ext,.val,.val,.val,.rd 2,.val,.ext,.val,.rd 2,.val,.ext,.val,.val] fol (by decide) (by kernel_rfl) ?_
 simp only [push_cast,simprocAttr,U43]
 refine DCall.z (Jd5 c.hi _) ?_
 simp only [push_cast,simprocAttr,U43]
 refine DCall.z (Jd5 b.lo _) ?_
 simp only [push_cast,simprocAttr,U43]
 try (refine DCall.z (Jd5 c.lo _) ?_;simp only [push_cast,simprocAttr,U43])
 try (refine DCall.z (Jd5 b.hi _) ?_;simp only [push_cast,simprocAttr,U43])
 exact AW.f U43 Tru
theorem Vr1 (b c:BX)(m:Ja1)(g0:¬c.hi 0<b.lo 0)(g1:¬b.hi 0<c.lo 0)(g2:¬c.hi 1<b.lo 1)(g3:¬b.hi 1<c.lo 1)(g4:c.hi 2<b.lo 2):Ctr Tryz.prog 124 [.agg (bxC b),.agg (bxC c)] m (.one (.bool false)) m:=by
 refine Ctr.en Tryz.func124 [.tmp 4] 30 fun hwf Q hQ=>?_
 have U44:=ca4 @Je6 @Ja5 @decide_true (ca4 @decide_false g0 g1 (ca3 g2 g3 g4))
 refine AW.w 4 U44 Tru fun K J0=>?_
 refine AW.r 4 ?_
 refine AW.w 6 U44 Tru fun K J1 K J2=>?_
 refine AW.q fun K J3=>?_
 refine AW.draw [.val,.rd 0,.val,.ext,.val,.rd 0,.val,.ext,.val,.val,.val,.rd 2,.val,.ext,.val,.rd 2,.val,.ext,.val,.val] fol (by decide) (by kernel_rfl) ?_
 simp only [push_cast,simprocAttr,U44]
 refine DCall.z (Jc4 c.hi _) ?_
 simp only [push_cast,simprocAttr,U44]
 refine DCall.z (Jc4 b.lo _) ?_
 simp only [push_cast,simprocAttr,U44]
 try (refine DCall.z (Jc4 c.lo _) ?_;simp only [push_cast,simprocAttr,U44])
 try (refine DCall.z (Jc4 b.hi _) ?_;simp only [push_cast,simprocAttr,U44])
 refine AW.w 12 U44 Tru fun K J1 K J2=>?_
 refine AW.q fun K J3=>?_
 refine AW.draw [.val,.rd 0,.val,.ext,.val,.rd 0,.val,.ext,.val,.val,.val,.rd 2,.val,.ext,.val,.rd 2,.val,.ext,.val,.val] fol (by decide) (by kernel_rfl) ?_
 simp only [push_cast,simprocAttr,U44]
 refine DCall.z (Jd5 c.hi _) ?_
 simp only [push_cast,simprocAttr,U44]
 refine DCall.z (Jd5 b.lo _) ?_
 simp only [push_cast,simprocAttr,U44]
 try (refine DCall.z (Jd5 c.lo _) ?_;simp only [push_cast,simprocAttr,U44])
 try (refine DCall.z (Jd5 b.hi _) ?_;simp only [push_cast,simprocAttr,U44])
 refine AW.w 12 U44 Tru fun K J1 K J2=>?_
 refine AW.q fun K J3=>?_
 refine AW.draw [.val,.rd 0,.val,.ext,.val,.rd 0,.val,.ext,.val,.val,.val,.rd 2,.val,.ext,.val,.rd 2,.val,.ext,.val,.val] fol (by decide) (by kernel_rfl) ?_
 simp only [push_cast,simprocAttr,U44]
 refine DCall.z (Jg1 c.hi _) ?_
 simp only [push_cast,simprocAttr,U44]
 refine DCall.z (Jg1 b.lo _) ?_
 simp only [push_cast,simprocAttr,U44]
 try (refine DCall.z (Jg1 c.lo _) ?_;simp only [push_cast,simprocAttr,U44])
 try (refine DCall.z (Jg1 b.hi _) ?_;simp only [push_cast,simprocAttr,U44])
 exact AW.f U44 Tru
theorem Vr0 (b c:BX)(m:Ja1)(g0:¬c.hi 0<b.lo 0)(g1:¬b.hi 0<c.lo 0)(g2:¬c.hi 1<b.lo 1)(g3:¬b.hi 1<c.lo 1)(g4:¬c.hi 2<b.lo 2)(g5:b.hi 2<c.lo 2):Ctr Tryz.prog 124 [.agg (bxC b),.agg (bxC c)] m (.one (.bool false)) m:=by
 refine Ctr.en Tryz.func124 [.tmp 4] 30 fun hwf Q hQ=>?_
 have U45:=ca4 @Je6 @Ja5 @decide_true (ca4 @decide_false g0 g1 (ca4 g2 g3 g4 g5))
 refine AW.w 4 U45 Tru fun K J0=>?_
 refine AW.r 4 ?_
 refine AW.w 6 U45 Tru fun K J1 K J2=>?_
 refine AW.q fun K J3=>?_
 refine AW.draw [.val,.rd 0,.val,.ext,.val,.rd 0,.val,.ext,.val,.val,.val,.rd 2,.val,.ext,.val,.rd 2,.val,.ext,.val,.val] fol (by decide) (by kernel_rfl) ?_
 simp only [push_cast,simprocAttr,U45]
 refine DCall.z (Jc4 c.hi _) ?_
 simp only [push_cast,simprocAttr,U45]
 refine DCall.z (Jc4 b.lo _) ?_
 simp only [push_cast,simprocAttr,U45]
 try (refine DCall.z (Jc4 c.lo _) ?_;simp only [push_cast,simprocAttr,U45])
 try (refine DCall.z (Jc4 b.hi _) ?_;simp only [push_cast,simprocAttr,U45])
 refine AW.w 12 U45 Tru fun K J1 K J2=>?_
 refine AW.q fun K J3=>?_
 refine AW.draw [.val,.rd 0,.val,.ext,.val,.rd 0,.val,.ext,.val,.val,.val,.rd 2,.val,.ext,.val,.rd 2,.val,.ext,.val,.val] fol (by decide) (by kernel_rfl) ?_
 simp only [push_cast,simprocAttr,U45]
 refine DCall.z (Jd5 c.hi _) ?_
 simp only [push_cast,simprocAttr,U45]
 refine DCall.z (Jd5 b.lo _) ?_
 simp only [push_cast,simprocAttr,U45]
 try (refine DCall.z (Jd5 c.lo _) ?_;simp only [push_cast,simprocAttr,U45])
 try (refine DCall.z (Jd5 b.hi _) ?_;simp only [push_cast,simprocAttr,U45])
 refine AW.w 12 U45 Tru fun K J1 K J2=>?_
 refine AW.q fun K J3=>?_
 refine AW.draw [.val,.rd 0,.val,.ext,.val,.rd 0,.val,.ext,.val,.val,.val,.rd 2,.val,.ext,.val,.rd 2,.val,.ext,.val,.val] fol (by decide) (by kernel_rfl) ?_
 simp only [push_cast,simprocAttr,U45]
 refine DCall.z (Jg1 c.hi _) ?_
 simp only [push_cast,simprocAttr,U45]
 refine DCall.z (Jg1 b.lo _) ?_
 simp only [push_cast,simprocAttr,U45]
 try (refine DCall.z (Jg1 c.lo _) ?_;simp only [push_cast,simprocAttr,U45])
 try (refine DCall.z (Jg1 b.hi _) ?_;simp only [push_cast,simprocAttr,U45])
 exact AW.f U45 Tru
theorem Vq9 (b c:BX)(m:Ja1)(g0:¬c.hi 0<b.lo 0)(g1:¬b.hi 0<c.lo 0)(g2:¬c.hi 1<b.lo 1)(g3:¬b.hi 1<c.lo 1)(g4:¬c.hi 2<b.lo 2)(g5:¬b.hi 2<c.lo 2):Ctr Tryz.prog 124 [.agg (bxC b),.agg (bxC c)] m (.one (.bool true)) m:=by
 refine Ctr.en Tryz.func124 [.tmp 4] 30 fun hwf Q hQ=>?_
 have U46:=ca4 @Je6 @Ja5 @decide_true (ca4 @decide_false g0 g1 (ca4 g2 g3 g4 g5))
 refine AW.w 4 U46 Tru fun K J0=>?_
 refine AW.r 4 ?_
 refine AW.w 6 U46 Tru fun K J1 K J2=>?_
 refine AW.q fun K J3=>?_
 refine AW.draw [.val,.rd 0,.val,.ext,.val,.rd 0,.val,.ext,.val,.val,.val,.rd 2,.val,.ext,.val,.rd 2,.val,.ext,.val,.val] fol (by decide) (by kernel_rfl) ?_
 simp only [push_cast,simprocAttr,U46]
 refine DCall.z (Jc4 c.hi _) ?_
 simp only [push_cast,simprocAttr,U46]
 refine DCall.z (Jc4 b.lo _) ?_
 simp only [push_cast,simprocAttr,U46]
 try (refine DCall.z (Jc4 c.lo _) ?_;simp only [push_cast,simprocAttr,U46])
 try (refine DCall.z (Jc4 b.hi _) ?_;simp only [push_cast,simprocAttr,U46])
 refine AW.w 12 U46 Tru fun K J1 K J2=>?_
 refine AW.q fun K J3=>?_
 refine AW.draw [.val,.rd 0,.val,.ext,.val,.rd 0,.val,.ext,.val,.val,.val,.rd 2,.val,.ext,.val,.rd 2,.val,.ext,.val,.val] fol (by decide) (by kernel_rfl) ?_
 simp only [push_cast,simprocAttr,U46]
 refine DCall.z (Jd5 c.hi _) ?_
 simp only [push_cast,simprocAttr,U46]
 refine DCall.z (Jd5 b.lo _) ?_
 simp only [push_cast,simprocAttr,U46]
 try (refine DCall.z (Jd5 c.lo _) ?_;simp only [push_cast,simprocAttr,U46])
 try (refine DCall.z (Jd5 b.hi _) ?_;simp only [push_cast,simprocAttr,U46])
 refine AW.w 12 U46 Tru fun K J1 K J2=>?_
 refine AW.q fun K J3=>?_
 refine AW.draw [.val,.rd 0,.val,.ext,.val,.rd 0,.val,.ext,.val,.val,.val,.rd 2,.val,.ext,.val,.rd 2,.val,.ext,.val,.val] fol (by decide) (by kernel_rfl) ?_
 simp only [push_cast,simprocAttr,U46]
 refine DCall.z (Jg1 c.hi _) ?_
 simp only [push_cast,simprocAttr,U46]
 refine DCall.z (Jg1 b.lo _) ?_
 simp only [push_cast,simprocAttr,U46]
 try (refine DCall.z (Jg1 c.lo _) ?_;simp only [push_cast,simprocAttr,U46])
 try (refine DCall.z (Jg1 b.hi _) ?_;simp only [push_cast,simprocAttr,U46])
 exact AW.f U46 Tru
theorem Ve2 (b c:BX)(m:Ja1)(q:Bool)(hq:q=true↔Ju6 b c):Ctr Tryz.prog 124 [.agg (bxC b),.agg (bxC c)] m (.one (.bool q)) m:=by
 by_cases g0:c.hi 0<b.lo 0
 ·obtain rfl:q=false:=by
   cases q with
   | false=>rfl
   | true=>exact absurd g0 ((hq.1 rfl) 0 (by omega)).1
  exact Vr5 b c m g0
 by_cases g1:b.hi 0<c.lo 0
 ·obtain rfl:q=false:=by
   cases q with
   | false=>rfl
   | true=>exact absurd g1 ((hq.1 rfl) 0 (by omega)).2
  exact Vr4 b c m g0 g1
 by_cases g2:c.hi 1<b.lo 1
 ·obtain rfl:q=false:=by
   cases q with
   | false=>rfl
   | true=>exact absurd g2 ((hq.1 rfl) 1 (by omega)).1
  exact Vr3 b c m g0 g1 g2
 by_cases g3:b.hi 1<c.lo 1
 ·obtain rfl:q=false:=by
   cases q with
   | false=>rfl
   | true=>exact absurd g3 ((hq.1 rfl) 1 (by omega)).2
  exact Vr2 b c m g0 g1 g2 g3
 by_cases g4:c.hi 2<b.lo 2
 ·obtain rfl:q=false:=by
   cases q with
   | false=>rfl
   | true=>exact absurd g4 ((hq.1 rfl) 2 (by omega)).1
  exact Vr1 b c m g0 g1 g2 g3 g4
 by_cases g5:b.hi 2<c.lo 2
 ·obtain rfl:q=false:=by
   cases q with
   | false=>rfl
   | true=>exact absurd g5 ((hq.1 rfl) 2 (by omega)).2
  exact Vr0 b c m g0 g1 g2 g3 g4 g5
 obtain rfl:q=true:=hq.2 fun k hk=>by
  match k,hk with
  | 0,_=>exact ⟨g0,g1⟩
  | 1,_=>exact ⟨g2,g3⟩
  | 2,_=>exact ⟨g4,g5⟩
 exact Vq9 b c m g0 g1 g2 g3 g4 g5
theorem Xq8 (m:Ja1):Ctr Tryz.prog 180 [] m (.agg (bxC Vk3)) m:=by
 refine Ctr.en Tryz.func180 [.cell 0 232] 4 fun hwf Q hQ=>?_
 have hv:bxC Vk3=[.int .i64 (-2147483648),.int .i64 (-2147483648),.int .i64 (-2147483648),.int .i64 2147483648,.int .i64 2147483648,.int .i64 2147483648]:=rfl
 rw [hv] at hQ
 exact AW.f Tru Qb2
theorem Vd9 (M:MV)(m:Ja1)(h1:Ke0 (Jm9 M).a):Ctr Tryz.prog 101 [.agg (mvC M)] m (.agg (prC (Ke1 M))) m:=by
 refine Ctr.en Tryz.func101 [.cell 2 234] 42 fun hwf Q hQ=>?_
 have hv:Ke1 M=⟨Vk3,Vk3⟩:=by unfold Ke1;rw [if_pos (.inl h1)]
 rw [hv] at hQ
 have hp:Jm9 M=⟨Jc5 M.A,Jc5 ⟨M.A.kind,M.B.paint,M.B.P,M.B.r⟩⟩:=rfl
 have U1:=ca4 @Kr0 @Jr0 @Kf2 (ca2 @Je6 @Ja5)
 refine AW.wd [[.val,.rd 0,.ext,.val,.rd 0,.ext,.val,.fl,.wr],[.val,.val,.rd 0,.ext,.val,.val,.rd 0,.ext,.val,.val]] 4 U1 (ca3 (Jp9 M.A) (Jp9 ⟨M.A.kind,M.B.paint,M.B.P,M.B.r⟩) Jw7) ?_
 refine AW.q fun K J0=>?_
 refine AW.sr 1 fun K J1=>?_
 simp only [push_cast,simprocAttr,U1]
 refine CThen.by (Ko9 (Jc5 M.A) _ true ⟨fun _=>h1,fun _=>rfl⟩) ?_
 simp only [push_cast,simprocAttr,U1]
 exact AW.f U1 Xq8
theorem Vd8 (M:MV)(m:Ja1)(h1:¬Ke0 (Jm9 M).a)(h2:Ke0 (Jm9 M).b):Ctr Tryz.prog 101 [.agg (mvC M)] m (.agg (prC (Ke1 M))) m:=by
 refine Ctr.en Tryz.func101 [.cell 2 234] 42 fun hwf Q hQ=>?_
 have hv:Ke1 M=⟨Vk3,Vk3⟩:=by unfold Ke1;rw [if_pos (.inr (.inl h2))]
 rw [hv] at hQ
 have hp:Jm9 M=⟨Jc5 M.A,Jc5 ⟨M.A.kind,M.B.paint,M.B.P,M.B.r⟩⟩:=rfl
 have U2:=ca4 @Kr0 @Jr0 @Kf2 (ca2 @Je6 @Ja5)
 exact AW.fd [[.val,.rd 0,.ext,.val,.rd 0,.ext,.val,.fl,.wr],[.val,.val,.rd 0,.ext,.val,.val,.rd 0,.ext,.val,.val]] U2 (ca4 (Jp9 M.A) (Jp9 ⟨M.A.kind,M.B.paint,M.B.P,M.B.r⟩) Jw7 (ca3 (Ko9 (Jc5 M.A) _ false ⟨fun h=>(by cases h),fun h=>absurd h h1⟩) (Ko9 (Jc5 ⟨M.A.kind,M.B.paint,M.B.P,M.B.r⟩) _ true ⟨fun _=>h2,fun _=>rfl⟩) Xq8))
theorem Vd7 (M:MV)(m:Ja1)(h1:¬Ke0 (Jm9 M).a)(h2:¬Ke0 (Jm9 M).b)(h3:2147483648<=maxI (Jc7 M.A.r 8192) (Jc7 M.B.r 8192)):Ctr Tryz.prog 101 [.agg (mvC M)] m (.agg (prC (Ke1 M))) m:=by
 refine Ctr.en Tryz.func101 [.cell 2 234] 42 fun hwf Q hQ=>?_
 have hv:Ke1 M=⟨Vk3,Vk3⟩:=by unfold Ke1;rw [if_pos (.inr (.inr h3))]
 rw [hv] at hQ
 have hp:Jm9 M=⟨Jc5 M.A,Jc5 ⟨M.A.kind,M.B.paint,M.B.P,M.B.r⟩⟩:=rfl
 have U3:=ca4 @Kr0 @Jr0 @Kf2 (ca4 @Je6 @Ja5 h3 (ca2 @decide_true @decide_false))
 exact AW.fd [[.val,.rd 0,.ext,.val,.rd 0,.ext,.val,.fl,.wr],[.val,.val,.rd 0,.ext,.val,.val,.rd 0,.ext,.val,.val]] U3 (ca4 (Jp9 M.A) (Jp9 ⟨M.A.kind,M.B.paint,M.B.P,M.B.r⟩) Jw7 (ca3 (Ko9 (Jc5 M.A) _ false ⟨fun h=>(by cases h),fun h=>absurd h h1⟩) (Ko9 (Jc5 ⟨M.A.kind,M.B.paint,M.B.P,M.B.r⟩) _ false ⟨fun h=>(by cases h),fun h=>absurd h h2⟩) Xq8))
theorem Vd6 (M:MV)(m:Ja1)(h1:¬Ke0 (Jm9 M).a)(h2:¬Ke0 (Jm9 M).b)(h3:¬2147483648<=maxI (Jc7 M.A.r 8192) (Jc7 M.B.r 8192)):Ctr Tryz.prog 101 [.agg (mvC M)] m (.agg (prC (Ke1 M))) m:=by
 refine Ctr.en Tryz.func101 [.cell 2 234] 42 fun hwf Q hQ=>?_
 have hv:Ke1 M=Jm9 M:=by unfold Ke1;rw [if_neg (show ¬badM M from fun h=>h.elim h1 fun h=>h.elim h2 h3)]
 rw [hv] at hQ
 have hp:Jm9 M=⟨Jc5 M.A,Jc5 ⟨M.A.kind,M.B.paint,M.B.P,M.B.r⟩⟩:=rfl
 rw [hp] at hQ
 have U4:=ca4 @Kr0 @Jr0 @Kf2 (ca4 @Je6 @Ja5 h3 (ca2 @decide_true @decide_false))
 exact AW.fd [[.val,.rd 0,.ext,.val,.rd 0,.ext,.val,.fl,.wr],[.val,.val,.rd 0,.ext,.val,.val,.rd 0,.ext,.val,.val]] U4 (ca4 (Jp9 M.A) (Jp9 ⟨M.A.kind,M.B.paint,M.B.P,M.B.r⟩) Jw7 (ca2 (Ko9 (Jc5 M.A) _ false ⟨fun h=>(by cases h),fun h=>absurd h h1⟩) (Ko9 (Jc5 ⟨M.A.kind,M.B.paint,M.B.P,M.B.r⟩) _ false ⟨fun h=>(by cases h),fun h=>absurd h h2⟩)))
theorem Vq5 (M:MV)(m:Ja1):Ctr Tryz.prog 101 [.agg (mvC M)] m (.agg (prC (Ke1 M))) m:=by
 by_cases h1:Ke0 (Jm9 M).a
 ·exact Vd9 M m h1
 by_cases h2:Ke0 (Jm9 M).b
 ·exact Vd8 M m h1 h2
 by_cases h3:2147483648<=maxI (Jc7 M.A.r 8192) (Jc7 M.B.r 8192)
 ·exact Vd7 M m h1 h2 h3
 exact Vd6 M m h1 h2 h3
theorem Qw3 (a:V)(k:Nat)(hk:k<3)(m:Ja1):Ctr Tryz.prog 175 [.agg (c3C a),.one (.int .i64 ((k:Int)))] m (.one (.int .i64 (a k))) m :=
 match k,hk with
 | 0,_=>Jc4 a m
 | 1,_=>Jd5 a m
 | 2,_=>Jg1 a m
theorem Qv8 (v:V)(m:Ja1)(g1:¬Jj0 (v 0)<Jj0 (v 1))(g2:¬Jj0 (v 0)<Jj0 (v 2)):Ctr Tryz.prog 253 [.agg (c3C v)] m (.one (.int .i64 ((Jh2 v:Int)))) m:=by
 refine Ctr.en Tryz.func253 [.tmp 2] 20 fun hwf Q hQ=>?_
 have hv:Jh2 v=0:=by unfold Jh2 Jz8;rw [if_neg g1];exact if_neg g2
 rw [hv] at hQ
 have U1:=ca4 @Ja5 g1 g2 (ca2 @decide_true @decide_false)
 refine AW.w 5 U1 Tru fun K J0=>?_
 refine AW.r 3 ?_
 exact AW.fd [[.rd 0,.val,.ext,.ext,.rd 0,.val,.ext,.ext,.val],[.rd 0,.val,.ext,.ext,.rd 0,.val,.ext,.ext,.val]] U1 (ca4 (Jd5 v) Jk9 (Jc4 v) (Jg1 v))
theorem Qv7 (v:V)(m:Ja1)(g1:¬Jj0 (v 0)<Jj0 (v 1))(g2:Jj0 (v 0)<Jj0 (v 2)):Ctr Tryz.prog 253 [.agg (c3C v)] m (.one (.int .i64 ((Jh2 v:Int)))) m:=by
 refine Ctr.en Tryz.func253 [.tmp 2] 20 fun hwf Q hQ=>?_
 have hv:Jh2 v=2:=by unfold Jh2 Jz8;rw [if_neg g1];exact if_pos g2
 rw [hv] at hQ
 have U2:=ca4 @Ja5 g1 g2 (ca2 @decide_true @decide_false)
 refine AW.w 5 U2 Tru fun K J0=>?_
 refine AW.r 3 ?_
 exact AW.fd [[.rd 0,.val,.ext,.ext,.rd 0,.val,.ext,.ext,.val],[.rd 0,.val,.ext,.ext,.rd 0,.val,.ext,.ext,.val]] U2 (ca4 (Jd5 v) Jk9 (Jc4 v) (Jg1 v))
theorem Qv6 (v:V)(m:Ja1)(g1:Jj0 (v 0)<Jj0 (v 1))(g2:¬Jj0 (v 1)<Jj0 (v 2)):Ctr Tryz.prog 253 [.agg (c3C v)] m (.one (.int .i64 ((Jh2 v:Int)))) m:=by
 refine Ctr.en Tryz.func253 [.tmp 2] 20 fun hwf Q hQ=>?_
 have hv:Jh2 v=1:=by unfold Jh2 Jz8;rw [if_pos g1];exact if_neg g2
 rw [hv] at hQ
 have U3:=ca4 @Ja5 g1 g2 (ca2 @decide_true @decide_false)
 refine AW.w 5 U3 Tru fun K J0=>?_
 refine AW.r 3 ?_
 exact AW.fd [[.rd 0,.val,.ext,.ext,.rd 0,.val,.ext,.ext,.val],[.rd 0,.val,.ext,.ext,.rd 0,.val,.ext,.ext,.val]] U3 (ca4 (Jd5 v) Jk9 (Jc4 v) (Jg1 v))
theorem Qv5 (v:V)(m:Ja1)(g1:Jj0 (v 0)<Jj0 (v 1))(g2:Jj0 (v 1)<Jj0 (v 2)):Ctr Tryz.prog 253 [.agg (c3C v)] m (.one (.int .i64 ((Jh2 v:Int)))) m:=by
 refine Ctr.en Tryz.func253 [.tmp 2] 20 fun hwf Q hQ=>?_
 have hv:Jh2 v=2:=by unfold Jh2 Jz8;rw [if_pos g1];exact if_pos g2
 rw [hv] at hQ
 have U4:=ca4 @Ja5 g1 g2 (ca2 @decide_true @decide_false)
 refine AW.w 5 U4 Tru fun K J0=>?_
 refine AW.r 3 ?_
 exact AW.fd [[.rd 0,.val,.ext,.ext,.rd 0,.val,.ext,.ext,.val],[.rd 0,.val,.ext,.ext,.rd 0,.val,.ext,.ext,.val]] U4 (ca4 (Jd5 v) Jk9 (Jc4 v) (Jg1 v))
theorem Qi0 (v:V)(m:Ja1):Ctr Tryz.prog 253 [.agg (c3C v)] m (.one (.int .i64 ((Jh2 v:Int)))) m:=by
 by_cases g1:Jj0 (v 0)<Jj0 (v 1)
 ·by_cases g2:Jj0 (v 1)<Jj0 (v 2)
  ·exact Qv5 v m g1 g2
  exact Qv6 v m g1 g2
 by_cases g2:Jj0 (v 0)<Jj0 (v 2)
 ·exact Qv7 v m g1 g2
 exact Qv8 v m g1 g2
theorem Xt9 (x low wide:Int)(m:Ja1):Ctr Tryz.prog 254 [.one (.int .i64 x),.one (.int .i64 low),.one (.int .i64 wide)] m (.one (.int .i64 (binI x low wide))) m:=by
 refine Ctr.en Tryz.func254 [.tmp 6] 15 fun hwf Q hQ=>?_
 have hv:binI x low wide=minI (Ja3 (Jd3 524288 (Je4 (Je1 x low) wide)) / 65536) 7:=rfl
 rw [hv] at hQ
 exact AW.f Tru (ca4 Jx0 Jr3 Jk7 Ke3)
structure IdsAt (m:Ja1)(r v a:Nat)(l:List Nat)(N:Nat):Prop where
 hb:∃ k ez cs,m[r]?=some ⟨k,3,v,ez,cs⟩/\a+l.length<=cs.length/\∀ i,i<l.length->cs[a+i]?=some (.int .i64 ((l.getD i 0:Nat):Int))
 lt:∀ i,i<l.length->l.getD i 0<N
 n:l.length<=128
theorem IdsAt.app {m:Ja1}{r v a:Nat}{l:List Nat}{N:Nat}(h:IdsAt m r v a l N)(L:Ja1):IdsAt (m++L) r v a l N:=⟨by obtain ⟨k,ez,cs,h1,h2⟩:=h.hb;exact ⟨k,ez,cs,Ja4 h1 L,h2⟩,h.lt,h.n⟩
def prF (prs:Nat->PR)(i:Nat):List CV:=prC (prs i)
theorem Vb7 (prs:Nat->PR)(i:Nat):prF prs i=[.int .i64 ((prs i).a.lo 0),.int .i64 ((prs i).a.lo 1),.int .i64 ((prs i).a.lo 2),.int .i64 ((prs i).a.hi 0),.int .i64 ((prs i).a.hi 1),.int .i64 ((prs i).a.hi 2),.int .i64 ((prs i).b.lo 0),.int .i64 ((prs i).b.lo 1),.int .i64 ((prs i).b.lo 2),.int .i64 ((prs i).b.hi 0),.int .i64 ((prs i).b.hi 1),.int .i64 ((prs i).b.hi 2)]:=rfl
structure MkAt (m:Ja1)(w:Nat)(c0 c1:CV)(pb pv N mb mv:Nat)(prs:Nat->PR)(mid:Nat->V):Prop where
 hw:m[w]?=some ⟨.fix,314,0,0,[c0,c1,.sl pb pv 0 N,.sl mb mv 0 N]⟩
 hp:∃ k ez,m[pb]?=some ⟨k,234,pv,ez,Jb2 N (prF prs)⟩
 hm:∃ k ez,m[mb]?=some ⟨k,59,mv,ez,Jb2 N (vF mid)⟩
 n:N<=128
theorem MkAt.app {m:Ja1}{w:Nat}{c0 c1:CV}{pb pv N mb mv:Nat}{prs:Nat->PR}{mid:Nat->V}(h:MkAt m w c0 c1 pb pv N mb mv prs mid)(L:Ja1):MkAt (m++L) w c0 c1 pb pv N mb mv prs mid:=⟨Ja4 h.hw L,by obtain ⟨k,e,h1⟩:=h.hp;exact ⟨k,e,Ja4 h1 L⟩,by obtain ⟨k,e,h1⟩:=h.hm;exact ⟨k,e,Ja4 h1 L⟩,h.n⟩
theorem Qh4 (prs:Nat->PR)(l:List Nat){i:Nat}(h:i+1<l.length):Jc1 prs (l.take (i+1+1))=Qd3 (Jc1 prs (l.take (i+1))) (prs (l.getD (i+1) 0)):=by
 match l,h with
 | x::t,h =>
  have h:i<t.length:=by simpa using h
  have e:t.take (i+1)=t.take i++[t.getD i 0]:=by rw [List.take_add_one,List.getD_eq_getElem?_getD,List.getElem?_eq_getElem h];rfl
  show List.foldl _ _ (t.take (i+1))=Qd3 (List.foldl _ _ (t.take i)) (prs (t.getD i 0))
  rw [e,List.foldl_append];rfl
theorem Qi9 (b:BX):-2147483648<=Kz1 b/\Kz1 b<=2147483648:=Jc6 _
theorem Kj6 (w:Nat)(c0 c1:CV)(pb pv N mb mv:Nat)(prs:Nat->PR)(mid:Nat->V)(r v a:Nat)(l:List Nat)(m:Ja1)(hM:MkAt m w c0 c1 pb pv N mb mv prs mid)(hI:IdsAt m r v a l N)(h0:0<l.length):Ctr Tryz.prog 227 [.one (.ptr w 0 0),.one (.sl r v a l.length)] m (.agg (prC (Jc1 prs l))) m:=by
 refine Ctr.en Tryz.func227 [.cell 4 234] 36 fun hwf Q hQ=>?_
 have hw:=hM.hw
 obtain ⟨kp,ep,hp⟩:=hM.hp
 obtain ⟨ki,ei,cs,hb,hcl,hcs⟩:=hI.hb
 have lw:=Ja7 hw
 have lp:=Ja7 hp
 have lb:=Ja7 hb
 have hn:=hI.n
 have hN:=hM.n
 have pl:(Jb2 N (prF prs)).length=N*12:=Ja6 (w:=12) (F:=prF prs) (fun _=>rfl) _
 have z1:cs[a]?=some (.int .i64 ((l.getD 0 0:Nat):Int)):=hcs 0 h0
 have y0:l.getD 0 0<N:=hI.lt 0 h0
 obtain ⟨x0,hx0⟩:∃ x,x=l.getD 0 0:=⟨_,rfl⟩
 rw [<-hx0] at z1 y0
 have y1:(0:Int)<=(x0:Int):=by omega
 have y2:(x0:Int)<(N:Int):=by omega
 have y3:x0*12+12<=N*12:=by omega
 have ga0:=Jb7 (w:=12) (F:=prF prs) (fun _=>rfl) y0
 have gx0:=Vb7 prs x0
 have n1:1<=l.length:=h0
 have n2:(0:Int)<(l.length:Int):=by omega
 have n3:(1:Int)<=(l.length:Int):=by omega
 have n4:(l.length:Int)<=(l.length:Int):=Int.le_refl _
 have ha1:Jc1 prs (l.take (0+1))=prs x0:=by
   match l,h0,hx0 with
   | x::t,_,e=>subst e;rfl
 have hlt0:∀ k,¬m.length+k<m.length:=fun k=>by omega
 have U5:=ca4 hw (Ja4 hw) hp (ca4 (Ja4 hp) hb (Ja4 hb) (ca4 pl z1 y1 (ca4 y2 y3 ga0 (ca4 gx0 n1 n2 (ca2 n3 n4)))))
 refine AW.wd [[.val,.val,.val,.rd 0,.val,.val,.rd 0,.val,.rd 0,.ext,.wr]] 5 U5 Tru fun K J0=>?_
 refine AW.lk [0,4,5,18,19] (fun i=>i+1<=l.length) (fun i=>[(20,.one (.int .i64 (i:Int)))]) (fun i=>[(m.length+1,⟨.fix,234,0,0,prC (Jc1 prs (l.take (i+1)))⟩)]) (fun i=>l.length - i) 0 U5 (ca4 @Int.natCast_zero ha1 @Kf2 (ca2 @Je6 @Ja5)) (fun i hi2=>?_)
 refine AW.w 2 U5 Tru fun K J1=>?_
 refine AW.cond rfl (fun h21=>?_) (fun h21=>?_)
 ·have hlt:i+1<l.length:=by have:=of_decide_eq_true h21;omega
  have hcx:cs[a+(1+i)]?=some (.int .i64 ((l.getD (i+1) 0:Nat):Int)):=by rw [show 1+i=i+1 by omega];exact hcs (i+1) hlt
  have hcy:cs[a+(i+1)]?=some (.int .i64 ((l.getD (i+1) 0:Nat):Int)):=hcs (i+1) hlt
  have hstep:=Qh4 prs l hlt
  have x1:l.getD (i+1) 0<N:=hI.lt _ hlt
  obtain ⟨x,hx⟩:∃ x,x=l.getD (i+1) 0:=⟨_,rfl⟩
  rw [<-hx] at hcx hcy x1 hstep
  obtain ⟨Z,hZ⟩:∃ Z,Z=Jc1 prs (l.take (i+1)):=⟨_,rfl⟩
  rw [<-hZ] at hstep
  have x2:(0:Int)<=(x:Int):=by omega
  have x3:(x:Int)<(N:Int):=by omega
  have x4:x*12+12<=N*12:=by omega
  have gax:=Jb7 (w:=12) (F:=prF prs) (fun _=>rfl) x1
  have gxx:=Vb7 prs x
  have c1:(0:Int)<=(i:Int):=by omega
  have c2:(i:Int)<((l.length - 1:Nat):Int):=by omega
  have c4:(i:Int)<(l.length:Int) - 1:=by omega
  have c5:i<l.length - 1:=by omega
  refine AW.w 4 Tru Tru fun K J1=>?_
  have U6:=ca4 U5 hcx hcy (ca4 x2 x3 x4 (ca4 gax gxx c1 (ca4 c2 c4 c5 (ca4 @Kf2 @Je6 @Ja5 hZ.symm))))
  refine AW.c 1 U6 Tru ?_
  refine AW.draw [.rd 0,.val,.val,.val,.rd 0,.val,.val,.rd 0,.ext,.ext,.wr] fol (by decide) (by kernel_rfl) ?_
  simp only [push_cast,simprocAttr,U6]
  refine DExt.by (by first|rfl|exact (List.append_nil _).symm|(simp only [List.append_assoc,List.cons_append,List.nil_append];rfl)) ?_
  simp only [push_cast,simprocAttr,U6]
  refine DCall.z (Yc7 Z (prs x) _ 0 _ ⟨.grow,12,by simp only [push_cast,simprocAttr];rfl⟩) ?_
  simp only [push_cast,simprocAttr,U6]
  refine AW.w 2 U6 Tru ?_
  have hwi:IntKind.i64.wrap ((i:Int)+1)=(i:Int)+1:=wi (by omega)
  exact Wj (i+1) U6 (ca2 hwi hstep) Tru
 have hin:i+1=l.length:=by have:=of_decide_eq_false h21;omega
 have hfin:Jc1 prs (l.take (i+1))=Jc1 prs l:=by rw [hin,List.take_length]
 rw [hfin]
 refine AW.w 2 Tru Tru ?_
 have U7:=ca4 U5 @Kf2 @Je6 @Ja5
 exact AW.f U7 Tru
theorem Qx5 (w:Nat)(c0 c1:CV)(pb pv N mb mv:Nat)(prs:Nat->PR)(mid:Nat->V)(r v a:Nat)(l:List Nat)(m:Ja1)(hM:MkAt m w c0 c1 pb pv N mb mv prs mid)(hI:IdsAt m r v a l N)(h0:0<l.length):Ctr Tryz.prog 255 [.one (.ptr w 0 0),.one (.sl r v a l.length)] m (.one (.int .i64 (Jp3 prs l))) m:=by
 refine Ctr.en Tryz.func255 [.tmp 4] 13 fun hwf Q hQ=>?_
 have hv:Jp3 prs l=(l.length:Int)*Kz1 (Jq2 (Jc1 prs l)):=rfl
 rw [hv] at hQ
 have hn:=hI.n
 have hsb:=Qi9 (Jq2 (Jc1 prs l))
 have hwr:IntKind.i64.wrap ((l.length:Int)*Kz1 (Jq2 (Jc1 prs l)))=(l.length:Int)*Kz1 (Jq2 (Jc1 prs l)):=wi (by have q1:=Int.mul_le_mul_of_nonneg_left hsb.1 (show 0<=(l.length:Int) by omega);have q2:=Int.mul_le_mul_of_nonneg_left hsb.2 (show 0<=(l.length:Int) by omega);omega)
 exact AW.f hwr (ca3 (Kj6 w c0 c1 pb pv N mb mv prs mid r v a l _ hM hI h0) (Qk5 (Jc1 prs l)) (Xu4 (Jq2 (Jc1 prs l))))
def iC (l:List Nat):List CV:=l.map fun (i:Nat)=>CV.int .i64 (i:Int)
theorem Jg5 (l:List Nat):(iC l).length=l.length:=List.length_map _
theorem Jy1 (l:List Nat)(x:Nat):iC l++[.int .i64 (x:Int)]=iC (l++[x]):=by unfold iC;rw [List.map_append];rfl
theorem Ks7 (a b:List Nat):iC a++iC b=iC (a++b):=by unfold iC;rw [List.map_append]
theorem Kn9 {l:List Nat}{i:Nat}(h:i<l.length):(iC l)[i]?=some (.int .i64 ((l.getD i 0:Nat):Int)):=by
 unfold iC;rw [List.getElem?_map,List.getD_eq_getElem?_getD,List.getElem?_eq_getElem h];rfl
theorem Qm6 (l:List Nat):(iC l).all CV.isVal=true:=by unfold iC;rw [List.all_map];exact List.all_eq_true.2 fun _ _=>rfl
theorem Jg6 (l:List Nat)(n:Nat):(iC l).all (CV.below n)=true:=by unfold iC;rw [List.all_map];exact List.all_eq_true.2 fun _ _=>rfl
theorem Jx1 {o:List Nat}{a b i:Nat}(h:a+i<b):(Jk3 o a b).getD i 0=o.getD (a+i) 0:=by
 rw [List.getD_eq_getElem?_getD,List.getD_eq_getElem?_getD]
 have:=Kc1 (o:=o) (a:=a) (b:=b) (x:=a+i) (by omega) h
 rw [Nat.add_sub_cancel_left] at this;rw [this]
theorem Kt6 {m:Ja1}{r v N:Nat}{o:List Nat}{a b:Nat}(hb:∃ k ez,m[r]?=some ⟨k,3,v,ez,iC o⟩)(h1:a<=b)(h2:b<=o.length)(ho:∀ x,x<o.length->o.getD x 0<N)(hn:o.length<=128):IdsAt m r v a (Jk3 o a b) N where
 hb:=by
  obtain ⟨k,ez,h⟩:=hb
  have e:=Jf8 (a:=a) h2
  refine ⟨k,ez,iC o,h,by rw [Jg5];omega,fun i hi=>?_⟩
  rw [Jx1 (by omega),Kn9 (by omega)]
 lt:=fun i hi=>by rw [Jx1 (by rw [Jf8 h2] at hi;omega)];exact ho _ (by rw [Jf8 h2] at hi;omega)
 n:=by rw [Jf8 h2];omega
theorem Qn7 {m:Ja1}{r v N:Nat}{l:List Nat}(hb:∃ k ez,m[r]?=some ⟨k,3,v,ez,iC l⟩)(hl:∀ x,x<l.length->l.getD x 0<N)(hn:l.length<=128):IdsAt m r v 0 l N where
 hb:=by
  obtain ⟨k,ez,h⟩:=hb
  refine ⟨k,ez,iC l,h,by rw [Jg5];omega,fun i hi=>?_⟩
  rw [Nat.zero_add,Kn9 hi]
 lt:=hl
 n:=hn
theorem Vs1 (mid:Nat->V){l:List Nat}(h:0<l.length):Vz3 (mid (l.getD 0 0)) (fun j=>mid (l.getD (1+j) 0)) (l.length - 1)=Kd3 mid l:=by
 match l,h with
 | x::t,_ =>
  show Vz3 (mid x) (fun j=>mid ((x::t).getD (1+j) 0)) t.length=List.foldl (fun a j=>fun k=>minI (a k) (mid j k)) (mid x) t
  have e:(fun j=>mid ((x::t).getD (1+j) 0))=fun j=>mid (t.getD j 0):=by funext j;rw [show 1+j=j+1 by omega];rfl
  rw [e]
  have g:∀ i,i<=t.length->Vz3 (mid x) (fun j=>mid (t.getD j 0)) i=List.foldl (fun a j=>fun k=>minI (a k) (mid j k)) (mid x) (t.take i):=by
   intro i
   induction i with
   | zero=>intro _;rfl
   | succ i ih =>
    intro hi
    have et:t.take (i+1)=t.take i++[t.getD i 0]:=by rw [List.take_add_one,List.getD_eq_getElem?_getD,List.getElem?_eq_getElem (show i<t.length by omega)];rfl
    rw [et,List.foldl_append,<-ih (by omega)];rfl
  rw [g _ (Nat.le_refl _),List.take_length]
theorem Xk6 (mid:Nat->V){l:List Nat}(h:0<l.length):Vz5 (mid (l.getD 0 0)) (fun j=>mid (l.getD (1+j) 0)) (l.length - 1)=Ve1 mid l:=by
 match l,h with
 | x::t,_ =>
  show Vz5 (mid x) (fun j=>mid ((x::t).getD (1+j) 0)) t.length=List.foldl (fun a j=>fun k=>maxI (a k) (mid j k)) (mid x) t
  have e:(fun j=>mid ((x::t).getD (1+j) 0))=fun j=>mid (t.getD j 0):=by funext j;rw [show 1+j=j+1 by omega];rfl
  rw [e]
  have g:∀ i,i<=t.length->Vz5 (mid x) (fun j=>mid (t.getD j 0)) i=List.foldl (fun a j=>fun k=>maxI (a k) (mid j k)) (mid x) (t.take i):=by
   intro i
   induction i with
   | zero=>intro _;rfl
   | succ i ih =>
    intro hi
    have et:t.take (i+1)=t.take i++[t.getD i 0]:=by rw [List.take_add_one,List.getD_eq_getElem?_getD,List.getElem?_eq_getElem (show i<t.length by omega)];rfl
    rw [et,List.foldl_append,<-ih (by omega)];rfl
  rw [g _ (Nat.le_refl _),List.take_length]
def lfN (mid:Nat->V)(l:List Nat)(c i:Nat):List Nat:=(l.take i).filter (Qc0 mid l c)
def rgN (mid:Nat->V)(l:List Nat)(c i:Nat):List Nat:=(l.take i).filter fun x=>!Qc0 mid l c x
theorem Ky5 {l:List Nat}{i:Nat}(h:i<l.length):l.take (i+1)=l.take i++[l.getD i 0]:=by rw [List.take_add_one,List.getD_eq_getElem?_getD,List.getElem?_eq_getElem h];rfl
theorem lf_t {mid:Nat->V}{l:List Nat}{c i:Nat}(h:i<l.length)(g:Qc0 mid l c (l.getD i 0)=true):lfN mid l c (i+1)=lfN mid l c i++[l.getD i 0]/\rgN mid l c (i+1)=rgN mid l c i:=by
 unfold lfN rgN
 rw [Ky5 h,List.filter_append,List.filter_append]
 generalize l.getD i 0=x at g ⊢
 simp [g]
theorem lf_f {mid:Nat->V}{l:List Nat}{c i:Nat}(h:i<l.length)(g:Qc0 mid l c (l.getD i 0)=false):lfN mid l c (i+1)=lfN mid l c i/\rgN mid l c (i+1)=rgN mid l c i++[l.getD i 0]:=by
 unfold lfN rgN
 rw [Ky5 h,List.filter_append,List.filter_append]
 generalize l.getD i 0=x at g ⊢
 simp [g]
theorem Vz7 (mid:Nat->V)(l:List Nat)(c:Nat):lfN mid l c l.length=Jf2 mid l c/\rgN mid l c l.length=Jd6 mid l c:=by
 unfold lfN rgN;rw [List.take_length];exact ⟨rfl,rfl⟩
theorem Vr8 (mid:Nat->V)(l:List Nat)(c i:Nat):(lfN mid l c i).length<=l.length/\(rgN mid l c i).length<=l.length :=
 ⟨Nat.le_trans (List.length_filter_le _ _) (by rw [List.length_take];omega),Nat.le_trans (List.length_filter_le _ _) (by rw [List.length_take];omega)⟩
theorem Vt1 {l:List Nat}{i:Nat}(h:i<l.length):l.getD i 0 ∈ l:=by rw [List.getD_eq_getElem?_getD,List.getElem?_eq_getElem h];exact List.getElem_mem h
theorem Qb5 {l:List Nat}{N:Nat}{p:Nat->Bool}(h:∀ i,i<l.length->l.getD i 0<N):∀ i,i<(l.filter p).length->(l.filter p).getD i 0<N:=fun i hi=>by
 have h1:=(List.mem_filter.1 (Vt1 hi)).1
 obtain ⟨k,hk,e⟩:=List.getElem_of_mem h1
 have:=h k hk
 rw [List.getD_eq_getElem?_getD,List.getElem?_eq_getElem hk] at this
 rw [<-e];exact this
def BstAt (M:Ja1):Option (List Nat × Nat × Int)->CV->Int->Int->Prop
 | none,x,k,y=>x=.nils/\k=0/\y=0
 | some (b,n,c),x,k,y=>0<b.length/\b.length<=128/\k=(n:Int)/\y=c/\∃ rb vb kk ez,x=.sl rb vb 0 b.length/\M[rb]?=some ⟨kk,3,vb,ez,iC b⟩
structure SpQ where
 (c:Nat) (x:CV) (k y:Int) (M:Ja1)
structure SpI (m1:Ja1)(st:Nat->Option (List Nat × Nat × Int))(q:SpQ):Prop where
 c1:1<=q.c
 c8:q.c<=8
 hM:∃ L,q.M=m1++L
 wf:MWf q.M.length q.M
 hb:BstAt q.M (st (q.c - 1)) q.x q.k q.y
theorem BstAt.bel {M:Ja1}{b:Option (List Nat × Nat × Int)}{x:CV}{k y:Int}(h:BstAt M b x k y):∀ n,M.length<=n->CV.below n x=true:=fun n hn=>by
 match b,h with
 | none,h=>rw [h.1];rfl
 | some (b,n',c),h =>
  obtain ⟨h1,h2,h3,h4,rb,vb,kk,ez,h5,h6⟩:=h
  have:=Ja7 h6
  rw [h5];simp [CV.below];omega
theorem BstAt.app {M:Ja1}{b:Option (List Nat × Nat × Int)}{x:CV}{k y:Int}(h:BstAt M b x k y)(L:Ja1):BstAt (M++L) b x k y:=by
 match b,h with
 | none,h=>exact h
 | some (b,n,c),h =>
  obtain ⟨h1,h2,h3,h4,rb,vb,kk,ez,h5,h6⟩:=h
  exact ⟨h1,h2,h3,h4,rb,vb,kk,ez,h5,Ja4 h6 L⟩
theorem Xx7 (mid:Nat->V)(l:List Nat)(r v:Nat)(m:Ja1)(h0:0<l.length)(hn:l.length<=128)(hb:∃ k ez,m[r]?=some ⟨k,59,v,ez,Jb2 l.length (vF fun j=>mid (l.getD j 0))⟩):Ctr Tryz.prog 193 [.agg (c3C (mid (l.getD 0 0))),.one (.sl r v 3 (l.length - 1))] m (.agg (bxC (⟨Kd3 mid l,Ve1 mid l⟩))) m:=by
 have h:=Xq1 (mid (l.getD 0 0)) (fun j=>mid (l.getD j 0)) r v 1 (l.length - 1) l.length m hb (by omega) (by omega)
 rw [Vs1 mid h0,Xk6 mid h0] at h
 exact h
theorem Qy1 (mid:Nat->V)(l:List Nat)(m:Ja1):Ctr Tryz.prog 252 [.agg (bxC (⟨Kd3 mid l,Ve1 mid l⟩))] m (.agg (c3C (Jq9 mid l))) m:=Vh8 ⟨Kd3 mid l,Ve1 mid l⟩ m
theorem Vm2 (w:Nat)(c0 c1:CV)(pb pv N mb mv:Nat)(prs:Nat->PR)(mid:Nat->V)(r v a b ez:Nat)(o l:List Nat)(m:Ja1)(hM:MkAt m w c0 c1 pb pv N mb mv prs mid)(hb:m[r]?=some ⟨.grow,3,v,ez,iC o⟩)(hab:a<b)(hbo:b<=o.length)(ho:∀ x,x<o.length->o.getD x 0<N)(hol:o.length<=128)(hl:Jk3 o a b=l)(hwd:Jq9 mid l (Jh2 (Jq9 mid l))<=0):Ctr Tryz.prog 228 [.one (.ptr w 0 0),.one (.sl r v a l.length)] m (.one (.int .i64 ((l.length / 2:Nat):Int))) m:=by
 refine Ctr.en Tryz.func228 [.tmp 4] 131 fun hwf Q hQ=>?_
 have hw:=hM.hw
 obtain ⟨kmi,emi,hmi⟩:=hM.hm
 have hN:=hM.n
 have hI:IdsAt m r v a l N:=by rw [<-hl];exact Kt6 ⟨_,_,hb⟩ (by omega) hbo ho hol
 have hn:=hI.n
 have h0:0<l.length:=by rw [<-hl,Jf8 hbo];omega
 have hcs:∀ i,i<l.length->(iC o)[a+i]?=some (.int .i64 ((l.getD i 0:Nat):Int)):=fun i hi=>by
   have e:=Jf8 (a:=a) hbo
   rw [hl] at e
   rw [Kn9 (by omega),<-hl,Jx1 (by omega)]
 have hcl:a+l.length<=(iC o).length:=by rw [Jg5,<-hl,Jf8 hbo];omega
 have lw:=Ja7 hw
 have lm:=Ja7 hmi
 have lb:=Ja7 hb
 have ml:(Jb2 N (vF mid)).length=N*3:=Ja6 (w:=3) (F:=vF mid) (fun _=>rfl) _
 have pl:(Jb2 l.length (vF fun j=>mid (l.getD j 0))).length=l.length*3:=Ja6 (w:=3) (F:=vF fun j=>mid (l.getD j 0)) (fun _=>rfl) _
 have ga0:List.take 3 (Jb2 l.length (vF fun j=>mid (l.getD j 0)))=[.int .i64 (mid (l.getD 0 0) 0),.int .i64 (mid (l.getD 0 0) 1),.int .i64 (mid (l.getD 0 0) 2)]:=Jb7 (w:=3) (F:=vF fun j=>mid (l.getD j 0)) (fun _=>rfl) h0
 have n1:(1:Int)<=(l.length:Int):=by omega
 have n2:(0:Int)<(l.length:Int):=by omega
 have n4:(l.length:Int)<=(l.length:Int):=Int.le_refl _
 have n5:3<=l.length*3:=by omega
 have hd2:(l.length:Int).tdiv 2=((l.length / 2:Nat):Int):=by rw [Int.tdiv_eq_ediv_of_nonneg (by omega)];omega
 have hw2:IntKind.i64.wrap ((l.length / 2:Nat):Int)=((l.length / 2:Nat):Int):=wi (by omega)
 have hw3:IntKind.i64.wrap ((l.length:Int) / 2)=((l.length / 2:Nat):Int):=by rw [show (l.length:Int) / 2=((l.length / 2:Nat):Int) by omega];exact hw2
 have hlt0:∀ k,¬m.length+k<m.length:=fun k=>by omega
 have U1:=ca4 hw (Ja4 hw) hmi (ca4 (Ja4 hmi) hb (Ja4 hb) (ca4 ml pl ga0 (ca4 n1 n2 n4 (ca4 n5 @Je6 @Ja5 (ca4 hd2 hw2 hw3 hwd)))))
 refine AW.w 5 U1 Tru fun K J0=>?_
 refine AW.nilTm 59 3 5 rfl ?_
 try simp only [push_cast,simprocAttr,U1]
 refine AW.loopK [0,1,22,23] (fun i=>i<=l.length) (fun i=>[(5,.one (.sl m.length i 0 i)),(24,.one (.int .i64 (i:Int)))]) (fun i=>[(m.length,⟨.grow,59,i,3,Jb2 i (vF fun j=>mid (l.getD j 0))⟩)]) (fun i=>l.length - i) 0 (by omega) ?_ ?_ fun i hi2=>?_
 · first|rfl|(simp only [KS,simprocAttr,Jb2,Int.natCast_zero]<;>repeat' (first|rfl|apply And.intro))
 · (simp only [Ja2,push_cast,simprocAttr,Jb2])<;>rfl
 try simp only [Ja9,Ja2,push_cast,simprocAttr,U1]
 refine AW.w 2 U1 Tru fun K J1=>?_
 refine AW.cond rfl (fun h25=>?_) (fun h25=>?_)
 ·have hlt:i<l.length:=by have:=of_decide_eq_true h25;omega
  have c1:(0:Int)<=(i:Int):=by omega
  have c2:(i:Int)<(l.length:Int):=by omega
  have hcx:=hcs i hlt
  have x1:l.getD i 0<N:=hI.lt _ hlt
  obtain ⟨x9,hx9⟩:∃ x,x=l.getD i 0:=⟨_,rfl⟩
  rw [<-hx9] at hcx x1
  have x2:(0:Int)<=(x9:Int):=by omega
  have x3:(x9:Int)<(N:Int):=by omega
  have x4:x9*3+3<=N*3:=by omega
  have gax:=Jb7 (w:=3) (F:=vF mid) (fun _=>rfl) x1
  have gxx:=Qw6 mid x9
  have c3:a+i+1<=(iC o).length:=by omega
  have c1:(0:Int)<=(i:Int):=by omega
  have c2:(i:Int)<(l.length:Int):=by omega
  have q1:i<=140737488355327:=by omega
  have q2:(i+1)*24<=140737488355328:=by omega
  have gli:(Jb2 i (vF fun j=>mid (l.getD j 0))).length=i*3:=Ja6 (w:=3) (F:=vF fun j=>mid (l.getD j 0)) (fun _=>rfl) i
  have hap:Jb2 i (vF fun j=>mid (l.getD j 0))++[.int .i64 (mid x9 0),.int .i64 (mid x9 1),.int .i64 (mid x9 2)]=Jb2 (i+1) (vF fun j=>mid (l.getD j 0)):=by rw [hx9];rfl
  refine AW.w 4 Tru Tru fun K J1=>?_
  have U2:=ca4 U1 hcx x2 (ca4 x3 x4 gax (ca4 gxx c1 c2 (ca4 c3 q1 q2 (ca2 gli hlt))))
  refine AW.w 4 U2 Tru ?_
  have hwi:IntKind.i64.wrap ((i:Int)+1)=(i:Int)+1:=wi (by omega)
  refine ⟨i+1,by omega,by omega,?_⟩
  try simp only [Ja9,Ja2,push_cast,simprocAttr,U2,hwi,hap]
  exact Weak.to (extra:=_) (by simp only [KS,simprocAttr,hwi,hap]) (by first|rfl|(simp only [List.append_assoc,List.cons_append,List.nil_append];rfl)) (by first|rfl|(simp [AV.below,CV.below];done)|(simp [AV.below,CV.below];omega)) (by exact MWf.app (hwf.grow (by simp)) (Ja0 (Jb8 _ (fun _=>rfl) _) Jb3))
 have hin:i=l.length:=by have:=of_decide_eq_false h25;omega
 rw [hin]
 refine AW.w 2 Tru Tru ?_
 refine AW.q fun K J0=>?_
 refine AW.draw [.val,.val,.rd 0,.val,.val,.ext,.fl,.wr] fol (by decide) (by kernel_rfl) ?_
 simp only [push_cast,simprocAttr,U1]
 refine DCall.z (Xx7 mid l m.length l.length _ h0 hn ⟨.grow,3,by rw [Jn8];rfl⟩) ?_
 simp only [push_cast,simprocAttr,U1]
 exact AW.fd [[.val,.rd 0,.val,.ext,.rd 0,.val,.ext,.val,.val]] U1 (ca4 (Qy1 mid l) (Qi0 (Jq9 mid l)) (Qw3 (Kd3 mid l) (Jh2 (Jq9 mid l)) (Jw8 _)) (Qw3 (Jq9 mid l) (Jh2 (Jq9 mid l)) (Jw8 _)))
theorem Qd2 {M:Ja1}{st:Option (List Nat × Nat × Int)}{x:CV}{k y:Int}(h:BstAt M st x k y)(D:Int) :
  (st=none/\x=.nils/\k=0/\y=0) \/
  (∃ (bb:List Nat) (bn:Nat) (bc:Int) (rb vb:Nat) (kk:BK) (ez:Nat),st=some (bb,bn,bc)/\x=.sl rb vb 0 bb.length/\0<bb.length/\bb.length<=128/\k=(bn:Int)/\y=bc/\M[rb]?=some ⟨kk,3,vb,ez,iC bb⟩/\D<bc) \/
  (∃ (bb:List Nat) (bn:Nat) (bc:Int) (rb vb:Nat) (kk:BK) (ez:Nat),st=some (bb,bn,bc)/\x=.sl rb vb 0 bb.length/\0<bb.length/\bb.length<=128/\k=(bn:Int)/\y=bc/\M[rb]?=some ⟨kk,3,vb,ez,iC bb⟩/\¬D<bc):=by
 match st,h with
 | none,h=>exact .inl ⟨rfl,h⟩
 | some (bb,bn,bc),h =>
  obtain ⟨h1,h2,h3,h4,rb,vb,kk,ez,h5,h6⟩:=h
  by_cases g:D<bc
  ·exact .inr (.inl ⟨bb,bn,bc,rb,vb,kk,ez,rfl,h5,h1,h2,h3,h4,h6,g⟩)
  exact .inr (.inr ⟨bb,bn,bc,rb,vb,kk,ez,rfl,h5,h1,h2,h3,h4,h6,g⟩)
theorem Vh2 (prs:Nat->PR)(mid:Nat->V)(l:List Nat){c:Nat}(h:1<=c):Jp8 prs mid l c=Vv7 prs mid l c (Jp8 prs mid l (c - 1)):=by
 obtain ⟨d,rfl⟩:∃ d,c=d+1:=⟨c - 1,by omega⟩
 rfl
theorem SpI.stay {m1:Ja1}{prs:Nat->PR}{mid:Nat->V}{l:List Nat}{c:Nat}{x:CV}{k y:Int}{M:Ja1}(h:SpI m1 (Jp8 prs mid l) ⟨c,x,k,y,M⟩)(h8:c<8)(e:Jp8 prs mid l c=Jp8 prs mid l (c - 1))(v1 e1:Nat)(A:List Nat)(v2 e2:Nat)(B:List Nat):SpI m1 (Jp8 prs mid l) ⟨c+1,x,k,y,M++[⟨.grow,3,v1,e1,iC A⟩,⟨.grow,3,v2,e2,iC B⟩]⟩ where
 c1:=by show 1<=c+1;omega
 c8:=by show c+1<=8;omega
 hM:=by obtain ⟨L0,h0⟩:=h.hM;dsimp only at h0;exact ⟨L0++_,by show M++_=_;rw [h0,List.append_assoc]⟩
 wf:=MWf.app (h.wf.grow (by simp)) (Ja0 (Jg6 _ _) (Ja0 (Jg6 _ _) Jb3))
 hb:=by
  show BstAt (M++_) (Jp8 prs mid l (c+1 - 1)) x k y
  rw [Nat.add_sub_cancel,e];exact h.hb.app _
theorem SpI.best {m1:Ja1}{prs:Nat->PR}{mid:Nat->V}{l:List Nat}{c:Nat}{x:CV}{k y:Int}{M:Ja1}(h:SpI m1 (Jp8 prs mid l) ⟨c,x,k,y,M⟩)(h8:c<8)(hn:l.length<=128)(h0:0<(Jf2 mid l c).length)
  (e:Jp8 prs mid l c=some (Jf2 mid l c++Jd6 mid l c,(Jf2 mid l c).length,Jp3 prs (Jf2 mid l c)+Jp3 prs (Jd6 mid l c))) (vb ez v2 e2:Nat) (B:List Nat):SpI m1 (Jp8 prs mid l) ⟨c+1,.sl M.length vb 0 ((Jf2 mid l c).length+(Jd6 mid l c).length),((Jf2 mid l c).length:Int),Jp3 prs (Jf2 mid l c)+Jp3 prs (Jd6 mid l c),M++[⟨.grow,3,vb,ez,iC (Jf2 mid l c)++iC (Jd6 mid l c)⟩,⟨.grow,3,v2,e2,iC B⟩]⟩ where
 c1:=by show 1<=c+1;omega
 c8:=by show c+1<=8;omega
 hM:=by obtain ⟨L0,h0⟩:=h.hM;dsimp only at h0;exact ⟨L0++_,by show M++_=_;rw [h0,List.append_assoc]⟩
 wf:=MWf.app (h.wf.grow (by simp)) (Ja0 (by show (iC _++iC _).all _=true;rw [Ks7];exact Jg6 _ _) (Ja0 (Jg6 _ _) Jb3))
 hb:=by
  show BstAt _ (Jp8 prs mid l (c+1 - 1)) _ _ _
  rw [Nat.add_sub_cancel,e]
  have hp:(Jf2 mid l c++Jd6 mid l c).Perm l:=List.filter_append_perm _ _
  have hq:=hp.length_eq
  refine ⟨by rw [List.length_append];omega,by omega,rfl,rfl,M.length,vb,.grow,ez,by rw [List.length_append],?_⟩
  rw [Jn8,Ks7];rfl
theorem Js6 {L:Nat}{m:Ja1}{r:Nat}{b:Blk}(h:MWf L m)(hb:b.cells.all (CV.below L)=true)(hk:b.kind.below L=true):MWf L (m.set r b):=fun c hc=>by
 rcases List.mem_or_eq_of_mem_set hc with h1|h1
 ·exact h c h1
 rw [h1];exact Kp6 hk hb
theorem Km3 {o:List Nat}{a b:Nat}(h1:a<b)(h2:b<=o.length):Jw2 o a b (Jk3 o a b)=o:=by
 unfold Jw2 Jk3
 rw [show o.drop b=(o.drop a).drop (b - a) by rw [List.drop_drop];congr 1;omega,List.take_append_drop,List.take_append_drop]
theorem set_self {m:Ja1}{r:Nat}{b:Blk}(h:m[r]?=some b):m.set r b=m:=by
 apply List.ext_getElem?
 intro i
 by_cases e:r=i
 ·subst e;rw [List.getElem?_set_self (Ja7 h),h]
 rw [List.getElem?_set_ne e]
theorem Qy4 {o l:List Nat}{a b:Nat}(h1:a<b)(h2:b<=o.length)(hl:l.length=b - a):setL (iC o) a (iC l)=iC (Jw2 o a b l):=by
 have e0:o=o.take a++(Jk3 o a b++o.drop b):=(Km3 h1 h2).symm
 have e:iC o=iC (o.take a)++(iC (Jk3 o a b)++iC (o.drop b)):=by rw [Ks7,Ks7,<-e0]
 have h:=Qy6 (iC l) (iC (Jk3 o a b)) (iC (o.drop b)) (by rw [Jg5,Jg5,Jf8 h2,hl]) (iC (o.take a))
 rw [Jg5,List.length_take,Nat.min_eq_left (by omega)] at h
 rw [e,h,Ks7,Ks7];rfl
theorem Vm1 (w:Nat)(c0 c1:CV)(pb pv N mb mv:Nat)(prs:Nat->PR)(mid:Nat->V)(r v a b ez:Nat)(o l:List Nat)(m:Ja1)(hM:MkAt m w c0 c1 pb pv N mb mv prs mid)(hb:m[r]?=some ⟨.grow,3,v,ez,iC o⟩)(hab:a<b)(hbo:b<=o.length)(ho:∀ x,x<o.length->o.getD x 0<N)(hol:o.length<=128)(hl:Jk3 o a b=l)(hwd:¬Jq9 mid l (Jh2 (Jq9 mid l))<=0):Ctr Tryz.prog 228 [.one (.ptr w 0 0),.one (.sl r v a l.length)] m (.one (.int .i64 (((Jm1 prs mid l).2:Nat):Int))) (m.set r ⟨.grow,3,v,ez,iC (Jw2 o a b (Jm1 prs mid l).1)⟩):=by
 refine Ctr.en Tryz.func228 [.tmp 4] 131 fun hwf Q hQ=>?_
 have hw:=hM.hw
 obtain ⟨kmi,emi,hmi⟩:=hM.hm
 have hN:=hM.n
 have hI:IdsAt m r v a l N:=by rw [<-hl];exact Kt6 ⟨_,_,hb⟩ (by omega) hbo ho hol
 have hn:=hI.n
 have h0:0<l.length:=by rw [<-hl,Jf8 hbo];omega
 have hcs:∀ i,i<l.length->(iC o)[a+i]?=some (.int .i64 ((l.getD i 0:Nat):Int)):=fun i hi=>by
   have e:=Jf8 (a:=a) hbo
   rw [hl] at e
   rw [Kn9 (by omega),<-hl,Jx1 (by omega)]
 have hcl:a+l.length<=(iC o).length:=by rw [Jg5,<-hl,Jf8 hbo];omega
 have lw:=Ja7 hw
 have lm:=Ja7 hmi
 have lb:=Ja7 hb
 have ml:(Jb2 N (vF mid)).length=N*3:=Ja6 (w:=3) (F:=vF mid) (fun _=>rfl) _
 have pl:(Jb2 l.length (vF fun j=>mid (l.getD j 0))).length=l.length*3:=Ja6 (w:=3) (F:=vF fun j=>mid (l.getD j 0)) (fun _=>rfl) _
 have ga0:List.take 3 (Jb2 l.length (vF fun j=>mid (l.getD j 0)))=[.int .i64 (mid (l.getD 0 0) 0),.int .i64 (mid (l.getD 0 0) 1),.int .i64 (mid (l.getD 0 0) 2)]:=Jb7 (w:=3) (F:=vF fun j=>mid (l.getD j 0)) (fun _=>rfl) h0
 have n1:(1:Int)<=(l.length:Int):=by omega
 have n2:(0:Int)<(l.length:Int):=by omega
 have n4:(l.length:Int)<=(l.length:Int):=Int.le_refl _
 have n5:3<=l.length*3:=by omega
 have hd2:(l.length:Int).tdiv 2=((l.length / 2:Nat):Int):=by rw [Int.tdiv_eq_ediv_of_nonneg (by omega)];omega
 have hw2:IntKind.i64.wrap ((l.length / 2:Nat):Int)=((l.length / 2:Nat):Int):=wi (by omega)
 have hw3:IntKind.i64.wrap ((l.length:Int) / 2)=((l.length / 2:Nat):Int):=by rw [show (l.length:Int) / 2=((l.length / 2:Nat):Int) by omega];exact hw2
 have hlt0:∀ k,¬m.length+k<m.length:=fun k=>by omega
 refine AW.sr 2 fun K J0=>?_
 have U1:=ca4 hw (Ja4 hw) hmi (ca4 (Ja4 hmi) hb (Ja4 hb) (ca4 ml pl ga0 (ca4 n1 n2 n4 (ca2 n5 hwd))))
 simp only [push_cast,simprocAttr,bxC,c3C,U1]
 apply J0
 refine AW.q fun K J0=>?_
 refine AW.sr 1 fun K J1=>?_
 simp only [push_cast,simprocAttr,bxC,c3C,U1]
 refine AW.w 2 Tru Tru ?_
 refine AW.nilTm 59 3 5 rfl ?_
 try simp only [push_cast,simprocAttr,bxC,c3C,U1]
 refine AW.loopK [0,1,22,23] (fun i=>i<=l.length) (fun i=>[(5,.one (.sl m.length i 0 i)),(24,.one (.int .i64 (i:Int)))]) (fun i=>[(m.length,⟨.grow,59,i,3,Jb2 i (vF fun j=>mid (l.getD j 0))⟩)]) (fun i=>l.length - i) 0 (by omega) ?_ ?_ fun i hi2=>?_
 · first|rfl|(simp only [KS,simprocAttr,Jb2,Int.natCast_zero]<;>repeat' (first|rfl|apply And.intro))
 · (simp only [Ja2,push_cast,simprocAttr,Jb2])<;>rfl
 try simp only [Ja9,Ja2,push_cast,simprocAttr,bxC,c3C,U1]
 refine AW.sr 1 fun K J1=>?_
 simp only [push_cast,simprocAttr,bxC,c3C,U1]
 refine AW.w 2 Tru Tru fun K J1=>?_
 refine AW.cond rfl (fun h25=>?_) (fun h25=>?_)
 ·have hlt:i<l.length:=by have:=of_decide_eq_true h25;omega
  have c1:(0:Int)<=(i:Int):=by omega
  have c2:(i:Int)<(l.length:Int):=by omega
  have hcx:=hcs i hlt
  have x1:l.getD i 0<N:=hI.lt _ hlt
  obtain ⟨x9,hx9⟩:∃ x,x=l.getD i 0:=⟨_,rfl⟩
  rw [<-hx9] at hcx x1
  have x2:(0:Int)<=(x9:Int):=by omega
  have x3:(x9:Int)<(N:Int):=by omega
  have x4:x9*3+3<=N*3:=by omega
  have gax:=Jb7 (w:=3) (F:=vF mid) (fun _=>rfl) x1
  have gxx:=Qw6 mid x9
  have c3:a+i+1<=(iC o).length:=by omega
  have c1:(0:Int)<=(i:Int):=by omega
  have c2:(i:Int)<(l.length:Int):=by omega
  have q1:i<=140737488355327:=by omega
  have q2:(i+1)*24<=140737488355328:=by omega
  have gli:(Jb2 i (vF fun j=>mid (l.getD j 0))).length=i*3:=Ja6 (w:=3) (F:=vF fun j=>mid (l.getD j 0)) (fun _=>rfl) i
  have hap:Jb2 i (vF fun j=>mid (l.getD j 0))++[.int .i64 (mid x9 0),.int .i64 (mid x9 1),.int .i64 (mid x9 2)]=Jb2 (i+1) (vF fun j=>mid (l.getD j 0)):=by rw [hx9];rfl
  refine AW.w 4 Tru Tru fun K J1=>?_
  refine AW.sr 1 fun K J2=>?_
  have U2:=ca4 U1 hcx x2 (ca4 x3 x4 gax (ca4 gxx c1 c2 (ca4 c3 q1 q2 (ca2 gli hlt))))
  simp only [push_cast,simprocAttr,bxC,c3C,U2]
  apply J2
  refine AW.rg ?_
  simp only [push_cast,simprocAttr,bxC,c3C,U2]
  refine AW.w 1 Tru Tru ?_
  refine AW.rg ?_
  simp only [push_cast,simprocAttr,bxC,c3C,U2]
  apply Jk2
  have hwi:IntKind.i64.wrap ((i:Int)+1)=(i:Int)+1:=wi (by omega)
  refine ⟨i+1,by omega,by omega,?_⟩
  try simp only [Ja9,Ja2,push_cast,simprocAttr,bxC,c3C,U2,hwi,hap]
  exact Weak.to (extra:=_) (by simp only [KS,simprocAttr,hwi,hap]) (by first|rfl|(simp only [List.append_assoc,List.cons_append,List.nil_append];rfl)) (by first|rfl|(simp [AV.below,CV.below];done)|(simp [AV.below,CV.below];omega)) (by exact MWf.app (hwf.grow (by simp)) (Ja0 (Jb8 _ (fun _=>rfl) _) Jb3))
 have hin:i=l.length:=by have:=of_decide_eq_false h25;omega
 rw [hin]
 refine AW.w 2 Tru Tru ?_
 refine AW.q fun K J0=>?_
 refine AW.draw [.val,.val,.rd 0,.val,.val,.ext,.fl,.wr] fol (by decide) (by kernel_rfl) ?_
 simp only [push_cast,simprocAttr,bxC,c3C,U1]
 refine DCall.z (Xx7 mid l m.length l.length _ h0 hn ⟨.grow,3,by rw [Jn8];rfl⟩) ?_
 simp only [push_cast,simprocAttr,bxC,c3C,U1]
 apply J0
 refine AW.sr 2 fun K J0=>?_
 simp only [push_cast,simprocAttr,bxC,c3C,U1]
 refine CThen.by (Qy1 mid l _) ?_
 simp only [push_cast,simprocAttr,bxC,c3C,U1]
 refine CThen.by (Qi0 (Jq9 mid l) _) ?_
 simp only [push_cast,simprocAttr,bxC,c3C,U1]
 apply J0
 refine AW.q fun K J0=>?_
 refine AW.draw [.val,.rd 0,.val,.ext,.rd 0,.val,.ext,.val,.val] fol (by decide) (by kernel_rfl) ?_
 simp only [push_cast,simprocAttr,bxC,c3C,U1]
 refine DCall.z (Qw3 (Kd3 mid l) (Jh2 (Jq9 mid l)) (Jw8 _) _) ?_
 simp only [push_cast,simprocAttr,bxC,c3C,U1]
 refine DCall.z (Qw3 (Jq9 mid l) (Jh2 (Jq9 mid l)) (Jw8 _) _) ?_
 simp only [push_cast,simprocAttr,bxC,c3C,U1]
 apply J0
 refine AW.q fun K J0=>?_
 refine AW.sr 1 fun K J1=>?_
 simp only [push_cast,simprocAttr,bxC,c3C,U1]
 refine AW.w 4 Tru Tru ?_
 refine AW.anyMemG (fun m1=>(∃ L,m1=m++L)/\MWf m1.length m1) ⟨⟨_,rfl⟩,MWf.app (hwf.grow (by simp)) (Ja0 (Jb8 _ (fun _=>rfl) _) (Ja0 rfl (Ja0 rfl Jb3)))⟩ fun m1 hm1=>?_
 refine AW.sr 2 fun K J0=>?_
 simp only [push_cast,simprocAttr,bxC,c3C,U1]
 apply J0
 refine AW.q fun K J0=>?_
 refine AW.sr 1 fun K J1=>?_
 simp only [push_cast,simprocAttr,bxC,c3C,U1]
 refine AW.w 2 Tru Tru ?_
 refine AW.loopX [0,1,10,11,12] (fun (q:SpQ)=>SpI m1 (Jp8 prs mid l) q) (fun (q:SpQ)=>[(13,.one q.x),(14,.one (.int .i64 q.k)),(15,.one (.int .i64 q.y)),(16,.one (.int .i64 (q.c:Int)))]) (fun (q:SpQ)=>q.M) (fun (q:SpQ)=>8 - q.c) ⟨1,.nils,0,0,m1⟩ ⟨Nat.le_refl _,(by show 1<=8;omega),⟨[],(List.append_nil _).symm⟩,hm1.2,⟨rfl,rfl,rfl⟩⟩ ?_ ?_ (fun q hq=>by obtain ⟨L,h⟩:=hq.hM;rw [h];simp) fun q hi9=>?_
 · first|rfl|(simp only [KS,simprocAttr,Int.natCast_zero]<;>repeat' (first|rfl|apply And.intro))
 · rfl
 obtain ⟨c,x,k,y,M⟩:=q
 have hSI:=hi9
 obtain ⟨cb1,cb8,hM9,hwf9,hb9⟩:=hi9
 dsimp only at cb1 cb8 hM9 hwf9 hb9 ⊢
 have hxb:=hb9.bel
 have hxb2:=hxb
 simp [CV.below] at hxb2
 have hMX:∃ L,M=m++L:=by obtain ⟨L,h⟩:=hM9;obtain ⟨⟨L0,h0⟩,_⟩:=hm1;exact ⟨L0++L,by rw [h,h0,List.append_assoc]⟩
 have hMM:MkAt M w c0 c1 pb pv N mb mv prs mid:=by obtain ⟨L,h⟩:=hMX;rw [h];exact hM.app L
 have hIM:IdsAt M r v a l N:=by obtain ⟨L,h⟩:=hMX;rw [h];exact hI.app L
 have hbM:M[r]?=some ⟨.grow,3,v,ez,iC o⟩:=by obtain ⟨L,h⟩:=hMX;rw [h];exact Ja4 hb L
 have hwM:=hMM.hw
 obtain ⟨kmM,emM,hmM⟩:=hMM.hm
 have lwM:=Ja7 hwM
 have lmM:=Ja7 hmM
 have lbM:=Ja7 hbM
 have hltM:∀ k,¬M.length+k<M.length:=fun k=>by omega
 try simp only [Ja9,Ja2,push_cast,simprocAttr,bxC,c3C,U1,hwM,Ja4 hwM,hmM,Ja4 hmM,hbM,Ja4 hbM]
 refine AW.q fun K J1=>?_
 refine AW.sr 1 fun K J2=>?_
 have U3:=ca4 U1 hwM (Ja4 hwM) (ca4 hmM (Ja4 hmM) hbM (Ja4 hbM))
 simp only [push_cast,simprocAttr,bxC,c3C,U3]
 apply J2
 refine AW.cond rfl (fun h62=>?_) (fun h62=>?_)
 ·have h8:c<8:=by have:=of_decide_eq_true h62;omega
  have hmu:8 - (c+1)<8 - c:=by omega
  have hw9:IntKind.i64.wrap ((c:Int)+1)=(c:Int)+1:=wi (by omega)
  have hcu:=Vh2 prs mid l cb1
  refine AW.w 4 Tru Tru fun K J1=>?_
  refine AW.sr 1 fun K J2=>?_
  simp only [push_cast,simprocAttr,bxC,c3C,U3]
  apply J2
  refine AW.q fun K J2=>?_
  refine AW.sr 1 fun K J3=>?_
  simp only [push_cast,simprocAttr,bxC,c3C,U3]
  refine AW.w 2 Tru Tru ?_
  refine AW.nilTm 3 1 17 rfl ?_
  try simp only [push_cast,simprocAttr,bxC,c3C,U3]
  refine AW.nilTm 3 1 18 rfl ?_
  try simp only [push_cast,simprocAttr,bxC,c3C,U3]
  refine AW.loopK [0,1,10,11,12,13,14,15,16,65,66] (fun i=>i<=l.length) (fun i=>[(17,.one (.sl M.length (lfN mid l c i).length 0 (lfN mid l c i).length)),(18,.one (.sl (M.length+1) (rgN mid l c i).length 0 (rgN mid l c i).length)),(67,.one (.int .i64 (i:Int)))]) (fun i=>[(M.length,⟨.grow,3,(lfN mid l c i).length,1,iC (lfN mid l c i)⟩),(M.length+1,⟨.grow,3,(rgN mid l c i).length,1,iC (rgN mid l c i)⟩)]) (fun i=>l.length - i) 0 (by omega) ?_ ?_ fun i hi13=>?_
  · first|rfl|(simp only [KS,simprocAttr,lfN,rgN,List.take_zero,List.filter_nil,iC,List.map_nil,List.length_nil,Int.natCast_zero]<;>repeat' (first|rfl|apply And.intro))
  · (simp only [Ja2,push_cast,simprocAttr,lfN,rgN,List.take_zero,List.filter_nil,iC,List.map_nil,List.length_nil])<;>rfl
  try simp only [Ja9,Ja2,push_cast,simprocAttr,bxC,c3C,U3]
  refine AW.sr 1 fun K J3=>?_
  simp only [push_cast,simprocAttr,bxC,c3C,U3]
  refine AW.w 2 Tru Tru fun K J3=>?_
  refine AW.cond rfl (fun h68=>?_) (fun h68=>?_)
  ·have hlt:i<l.length:=by have:=of_decide_eq_true h68;omega
   have c1:(0:Int)<=(i:Int):=by omega
   have c2:(i:Int)<(l.length:Int):=by omega
   have hcx:=hcs i hlt
   have x1:l.getD i 0<N:=hI.lt _ hlt
   obtain ⟨x9,hx9⟩:∃ x,x=l.getD i 0:=⟨_,rfl⟩
   rw [<-hx9] at hcx x1
   have x2:(0:Int)<=(x9:Int):=by omega
   have x3:(x9:Int)<(N:Int):=by omega
   have x4:x9*3+3<=N*3:=by omega
   have gax:=Jb7 (w:=3) (F:=vF mid) (fun _=>rfl) x1
   have gxx:=Qw6 mid x9
   have c3:a+i+1<=(iC o).length:=by omega
   have z1:(0:Int)<=(i:Int):=by omega
   have z2:(i:Int)<(l.length:Int):=by omega
   refine AW.w 4 Tru Tru fun K J3=>?_
   refine AW.sr 2 fun K J4=>?_
   have U4:=ca4 U3 hcx x2 (ca4 x3 x4 gax (ca4 gxx z1 z2 (ca2 c3 hlt)))
   simp only [push_cast,simprocAttr,bxC,c3C,U4]
   refine CThen.by (Qw3 (mid x9) (Jh2 (Jq9 mid l)) (Jw8 _) _) ?_
   simp only [push_cast,simprocAttr,bxC,c3C,U4]
   refine CThen.by (Xt9 (mid x9 (Jh2 (Jq9 mid l))) (Kd3 mid l (Jh2 (Jq9 mid l))) (Jq9 mid l (Jh2 (Jq9 mid l))) _) ?_
   simp only [push_cast,simprocAttr,bxC,c3C,U4]
   apply J4
   refine AW.cond rfl (fun h84=>?_) (fun h84=>?_)
   ·have hg:Qc0 mid l c (l.getD i 0)=true:=by rw [<-hx9];exact h84
    obtain ⟨hl1,hl2⟩:=lf_t hlt hg
    rw [<-hx9] at hl1
    have hq1:(lfN mid l c i).length<=140737488355327:=by have:=Vr8 mid l c i;omega
    have hq2:((lfN mid l c i).length+1)*8<=140737488355328:=by have:=Vr8 mid l c i;omega
    have hgl:(iC (lfN mid l c i)).length=(lfN mid l c i).length:=Jg5 _
    have hap1:=Jy1 (lfN mid l c i) x9
    refine AW.rg ?_
    simp only [push_cast,simprocAttr,bxC,c3C,U4,hq1,hq2,hgl]
    refine AW.w 1 Tru Tru ?_
    refine AW.rg ?_
    simp only [push_cast,simprocAttr,bxC,c3C,U4,hq1,hq2,hgl]
    apply Jk2
    have hwi:IntKind.i64.wrap ((i:Int)+1)=(i:Int)+1:=wi (by omega)
    refine ⟨i+1,by omega,by omega,?_⟩
    try simp only [Ja9,Ja2,push_cast,simprocAttr,bxC,c3C,U4,hq1,hq2,hgl,hwi,hl1,hl2,hap1,List.length_append]
    exact Weak.to (extra:=_) (by simp only [KS,simprocAttr,hwi,hl1,hl2,hap1,List.length_append]) (by first|rfl|(simp only [List.append_assoc,List.cons_append,List.nil_append];rfl)) (by first|rfl|(simp [AV.below,CV.below,hxb2];done)|(simp [AV.below,CV.below,hxb2];omega)) (by exact MWf.app (hwf9.grow (by simp)) (Ja0 (Jg6 _ _) (Ja0 (Jg6 _ _) Jb3)))
   have hg:Qc0 mid l c (l.getD i 0)=false:=by rw [<-hx9];exact h84
   obtain ⟨hl1,hl2⟩:=lf_f hlt hg
   rw [<-hx9] at hl2
   have hq1:(rgN mid l c i).length<=140737488355327:=by have:=Vr8 mid l c i;omega
   have hq2:((rgN mid l c i).length+1)*8<=140737488355328:=by have:=Vr8 mid l c i;omega
   have hgl:(iC (rgN mid l c i)).length=(rgN mid l c i).length:=Jg5 _
   have hap1:=Jy1 (rgN mid l c i) x9
   refine AW.rg ?_
   simp only [push_cast,simprocAttr,bxC,c3C,U4,hq1,hq2,hgl]
   refine AW.w 1 Tru Tru ?_
   refine AW.rg ?_
   simp only [push_cast,simprocAttr,bxC,c3C,U4,hq1,hq2,hgl]
   apply Jk2
   have hwi:IntKind.i64.wrap ((i:Int)+1)=(i:Int)+1:=wi (by omega)
   refine ⟨i+1,by omega,by omega,?_⟩
   try simp only [Ja9,Ja2,push_cast,simprocAttr,bxC,c3C,U4,hq1,hq2,hgl,hwi,hl1,hl2,hap1,List.length_append]
   exact Weak.to (extra:=_) (by simp only [KS,simprocAttr,hwi,hl1,hl2,hap1,List.length_append]) (by first|rfl|(simp only [List.append_assoc,List.cons_append,List.nil_append];rfl)) (by first|rfl|(simp [AV.below,CV.below,hxb2];done)|(simp [AV.below,CV.below,hxb2];omega)) (by exact MWf.app (hwf9.grow (by simp)) (Ja0 (Jg6 _ _) (Ja0 (Jg6 _ _) Jb3)))
  have hin:i=l.length:=by have:=of_decide_eq_false h68;omega
  rw [hin,(Vz7 mid l c).1,(Vz7 mid l c).2]
  refine AW.w 3 Tru Tru fun K J2=>?_
  refine AW.q fun K J3=>?_
  have hk26:(Jf2 mid l c=[]/\((Jf2 mid l c).length:Int)=0)\/(Jf2 mid l c≠[]/\0<(Jf2 mid l c).length/\Jd6 mid l c=[])\/(Jf2 mid l c≠[]/\Jd6 mid l c≠[]/\0<(Jf2 mid l c).length/\0<(Jd6 mid l c).length):=by
    by_cases g1:Jf2 mid l c=[]
    · exact .inl ⟨g1,by rw [g1];rfl⟩
    by_cases g2:Jd6 mid l c=[]
    · exact .inr (.inl ⟨g1,List.length_pos_iff.2 g1,g2⟩)
    exact .inr (.inr ⟨g1,g2,List.length_pos_iff.2 g1,List.length_pos_iff.2 g2⟩)
  rcases hk26 with ⟨g1,g2⟩|⟨g1,g2,g3⟩|⟨g1,g2,g3,g4⟩
  ·have hst:Jp8 prs mid l c=Jp8 prs mid l (c - 1):=by rw [hcu];unfold Vv7;rw [if_pos (.inl g1)]
   have hNx:=hSI.stay h8 hst
   have e1:(((Jf2 mid l c).length:Int) ==0)=true:=by rw [g2];rfl
   refine AW.rg ?_
   simp only [push_cast,simprocAttr,bxC,c3C,U3,e1]
   refine AW.w 4 Tru Tru ?_
   refine AW.rg ?_
   simp only [push_cast,simprocAttr,bxC,c3C,U3,e1]
   apply Jk2
   try simp only [Ja9,Ja2,push_cast,simprocAttr,bxC,c3C,U3,e1]
   first|exact ⟨_,hNx _ _ _ _ _ _,hmu,Weak.same (by simp only [KS,simprocAttr,hw9,Int.natCast_add,Int.cast_ofNat_Int,Int.natCast_one]) (by first|rfl|(simp only [List.append_assoc,List.cons_append,List.nil_append];rfl))⟩|exact ⟨_,hNx ((Jf2 mid l c).length+1) 1 _ _ _,hmu,Weak.same (by simp only [KS,simprocAttr,hw9,Int.natCast_add,Int.cast_ofNat_Int,Int.natCast_one]) (by first|rfl|(simp only [List.append_assoc,List.cons_append,List.nil_append];rfl))⟩
  ·have hst:Jp8 prs mid l c=Jp8 prs mid l (c - 1):=by rw [hcu];unfold Vv7;rw [if_pos (.inr g3)]
   have hNx:=hSI.stay h8 hst
   have e1:(((Jf2 mid l c).length:Int) ==0)=false:=by simp;omega
   have e2:(((Jd6 mid l c).length:Int) ==0)=true:=by rw [g3];rfl
   refine AW.rg ?_
   simp only [push_cast,simprocAttr,bxC,c3C,U3,e1,e2]
   refine AW.w 4 Tru Tru ?_
   refine AW.rg ?_
   simp only [push_cast,simprocAttr,bxC,c3C,U3,e1,e2]
   apply Jk2
   try simp only [Ja9,Ja2,push_cast,simprocAttr,bxC,c3C,U3,e1,e2]
   first|exact ⟨_,hNx _ _ _ _ _ _,hmu,Weak.same (by simp only [KS,simprocAttr,hw9,Int.natCast_add,Int.cast_ofNat_Int,Int.natCast_one]) (by first|rfl|(simp only [List.append_assoc,List.cons_append,List.nil_append];rfl))⟩|exact ⟨_,hNx ((Jf2 mid l c).length+1) 1 _ _ _,hmu,Weak.same (by simp only [KS,simprocAttr,hw9,Int.natCast_add,Int.cast_ofNat_Int,Int.natCast_one]) (by first|rfl|(simp only [List.append_assoc,List.cons_append,List.nil_append];rfl))⟩
  have e1:(((Jf2 mid l c).length:Int) ==0)=false:=by simp;omega
  have e2:(((Jd6 mid l c).length:Int) ==0)=false:=by simp;omega
  have hle1:(Jf2 mid l c).length<=l.length:=List.length_filter_le _ _
  have hle2:(Jd6 mid l c).length<=l.length:=List.length_filter_le _ _
  have hlf1:∀ i,i<(Jf2 mid l c).length->(Jf2 mid l c).getD i 0<N:=Qb5 hI.lt
  have hlf2:∀ i,i<(Jd6 mid l c).length->(Jd6 mid l c).getD i 0<N:=Qb5 hI.lt
  have hs1:=Qi9 (Jq2 (Jc1 prs (Jf2 mid l c)))
  have hs2:=Qi9 (Jq2 (Jc1 prs (Jd6 mid l c)))
  have hcb:∀ t:List Nat,t.length<=128->-274877906944<=Jp3 prs t/\Jp3 prs t<=274877906944:=fun t ht=>by
    have hs:=Qi9 (Jq2 (Jc1 prs t))
    have q1:=Int.mul_le_mul_of_nonneg_left hs.1 (show 0<=(t.length:Int) by omega)
    have q2:=Int.mul_le_mul_of_nonneg_left hs.2 (show 0<=(t.length:Int) by omega)
    unfold Jp3;omega
  have hb1:=hcb (Jf2 mid l c) (by omega)
  have hb2:=hcb (Jd6 mid l c) (by omega)
  have hwc:IntKind.i64.wrap (Jp3 prs (Jf2 mid l c)+Jp3 prs (Jd6 mid l c))=Jp3 prs (Jf2 mid l c)+Jp3 prs (Jd6 mid l c):=wi (by omega)
  refine AW.rg ?_
  simp only [push_cast,simprocAttr,bxC,c3C,U3,e1,e2,hwc]
  refine AW.w 4 Tru Tru ?_
  refine AW.sr 1 fun K J2=>?_
  simp only [push_cast,simprocAttr,bxC,c3C,U3,e1,e2,hwc]
  refine CThen.by (Qx5 w c0 c1 pb pv N mb mv prs mid M.length _ 0 (Jf2 mid l c) _ (hMM.app _) (Qn7 ⟨.grow,1,by rw [Jn8];rfl⟩ hlf1 (by omega)) g3) ?_
  simp only [push_cast,simprocAttr,bxC,c3C,U3,e1,e2,hwc]
  refine CThen.by (Qx5 w c0 c1 pb pv N mb mv prs mid (M.length+1) _ 0 (Jd6 mid l c) _ (hMM.app _) (Qn7 ⟨.grow,1,by rw [Jf3];rfl⟩ hlf2 (by omega)) g4) ?_
  simp only [push_cast,simprocAttr,bxC,c3C,U3,e1,e2,hwc]
  apply J2
  refine AW.q fun K J2=>?_
  rcases Qd2 hb9 (Jp3 prs (Jf2 mid l c)+Jp3 prs (Jd6 mid l c)) with ⟨hs0,rfl,rfl,rfl⟩|⟨bb,bn,bc,rb,vb,kk,eb,hs0,rfl,hp0,hp1,rfl,rfl,hlk,hlt9⟩|⟨bb,bn,bc,rb,vb,kk,eb,hs0,rfl,hp0,hp1,rfl,rfl,hlk,hlt9⟩
  ·have hst:Jp8 prs mid l c=some (Jf2 mid l c++Jd6 mid l c,(Jf2 mid l c).length,Jp3 prs (Jf2 mid l c)+Jp3 prs (Jd6 mid l c)):=by rw [hcu];unfold Vv7;rw [if_neg (fun h=>h.elim g1 g2),hs0]
   have hNx:=hSI.best h8 hn g3 hst
   have hgl1:(iC (Jf2 mid l c)).length=(Jf2 mid l c).length:=Jg5 _
   have hgl2:(iC (Jd6 mid l c)).length=(Jd6 mid l c).length:=Jg5 _
   have hq1:(Jf2 mid l c).length+(Jd6 mid l c).length<=140737488355327:=by omega
   have hq2:((Jf2 mid l c).length+(Jd6 mid l c).length)*8<=140737488355328:=by omega
   have hq3:(Jf2 mid l c).length+(Jd6 mid l c).length<=140737488355328:=by omega
   have hvR:(iC (Jd6 mid l c)).all CV.isVal=true:=Qm6 _
   have htk:List.take (Jd6 mid l c).length (iC (Jd6 mid l c))=iC (Jd6 mid l c):=List.take_of_length_le (by rw [Jg5];omega)
   refine AW.rg ?_
   have U5:=ca4 U3 e1 e2 (ca4 hwc hgl1 hgl2 (ca4 hq1 hq2 hq3 (ca2 hvR htk)))
   simp only [push_cast,simprocAttr,bxC,c3C,U5]
   refine AW.w 2 Tru Tru ?_
   refine AW.rg ?_
   simp only [push_cast,simprocAttr,bxC,c3C,U5]
   refine AW.w 1 Tru Tru ?_
   refine AW.rg ?_
   simp only [push_cast,simprocAttr,bxC,c3C,U5]
   apply Jk2
   try simp only [Ja9,Ja2,push_cast,simprocAttr,bxC,c3C,U5]
   first|exact ⟨_,hNx _ _ _ _ _ _,hmu,Weak.same (by simp only [KS,simprocAttr,hw9,Int.natCast_add,Int.cast_ofNat_Int,Int.natCast_one]) (by first|rfl|(simp only [List.append_assoc,List.cons_append,List.nil_append];rfl))⟩|exact ⟨_,hNx ((Jf2 mid l c).length+1) 1 _ _ _,hmu,Weak.same (by simp only [KS,simprocAttr,hw9,Int.natCast_add,Int.cast_ofNat_Int,Int.natCast_one]) (by first|rfl|(simp only [List.append_assoc,List.cons_append,List.nil_append];rfl))⟩
  ·have hst:Jp8 prs mid l c=some (Jf2 mid l c++Jd6 mid l c,(Jf2 mid l c).length,Jp3 prs (Jf2 mid l c)+Jp3 prs (Jd6 mid l c)):=by rw [hcu];unfold Vv7;rw [if_neg (fun h=>h.elim g1 g2),hs0];exact if_pos hlt9
   have hNx:=hSI.best h8 hn g3 hst
   have hgl1:(iC (Jf2 mid l c)).length=(Jf2 mid l c).length:=Jg5 _
   have hgl2:(iC (Jd6 mid l c)).length=(Jd6 mid l c).length:=Jg5 _
   have hq1:(Jf2 mid l c).length+(Jd6 mid l c).length<=140737488355327:=by omega
   have hq2:((Jf2 mid l c).length+(Jd6 mid l c).length)*8<=140737488355328:=by omega
   have hq3:(Jf2 mid l c).length+(Jd6 mid l c).length<=140737488355328:=by omega
   have hvR:(iC (Jd6 mid l c)).all CV.isVal=true:=Qm6 _
   have htk:List.take (Jd6 mid l c).length (iC (Jd6 mid l c))=iC (Jd6 mid l c):=List.take_of_length_le (by rw [Jg5];omega)
   refine AW.rg ?_
   have U6:=ca4 U3 e1 e2 (ca4 hwc hgl1 hgl2 (ca4 hq1 hq2 hq3 (ca4 hvR htk hp0 hlt9)))
   simp only [push_cast,simprocAttr,bxC,c3C,U6]
   refine AW.w 2 Tru Tru ?_
   refine AW.rg ?_
   simp only [push_cast,simprocAttr,bxC,c3C,U6]
   refine AW.w 1 Tru Tru ?_
   refine AW.rg ?_
   simp only [push_cast,simprocAttr,bxC,c3C,U6]
   apply Jk2
   try simp only [Ja9,Ja2,push_cast,simprocAttr,bxC,c3C,U6]
   first|exact ⟨_,hNx _ _ _ _ _ _,hmu,Weak.same (by simp only [KS,simprocAttr,hw9,Int.natCast_add,Int.cast_ofNat_Int,Int.natCast_one]) (by first|rfl|(simp only [List.append_assoc,List.cons_append,List.nil_append];rfl))⟩|exact ⟨_,hNx ((Jf2 mid l c).length+1) 1 _ _ _,hmu,Weak.same (by simp only [KS,simprocAttr,hw9,Int.natCast_add,Int.cast_ofNat_Int,Int.natCast_one]) (by first|rfl|(simp only [List.append_assoc,List.cons_append,List.nil_append];rfl))⟩
  have hst:Jp8 prs mid l c=Jp8 prs mid l (c - 1):=by rw [hcu];unfold Vv7;rw [if_neg (fun h=>h.elim g1 g2),hs0];exact if_neg hlt9
  have hNx:=hSI.stay h8 hst
  refine AW.rg ?_
  have U7:=ca4 U3 e1 e2 (ca3 hwc hp0 hlt9)
  simp only [push_cast,simprocAttr,bxC,c3C,U7]
  refine AW.w 4 Tru Tru ?_
  refine AW.rg ?_
  simp only [push_cast,simprocAttr,bxC,c3C,U7]
  apply Jk2
  try simp only [Ja9,Ja2,push_cast,simprocAttr,bxC,c3C,U7]
  first|exact ⟨_,hNx _ _ _ _ _ _,hmu,Weak.same (by simp only [KS,simprocAttr,hw9,Int.natCast_add,Int.cast_ofNat_Int,Int.natCast_one]) (by first|rfl|(simp only [List.append_assoc,List.cons_append,List.nil_append];rfl))⟩|exact ⟨_,hNx ((Jf2 mid l c).length+1) 1 _ _ _,hmu,Weak.same (by simp only [KS,simprocAttr,hw9,Int.natCast_add,Int.cast_ofNat_Int,Int.natCast_one]) (by first|rfl|(simp only [List.append_assoc,List.cons_append,List.nil_append];rfl))⟩
 obtain rfl:c=8:=by have:=of_decide_eq_false h62;omega
 refine AW.w 3 Tru Tru fun K J0=>?_
 refine AW.q fun K J1=>?_
 rcases Qd2 hb9 0 with ⟨hs0,rfl,rfl,rfl⟩|⟨bb,bn,bc,rb,vb,kk,eb,hs0,rfl,hp0,hp1,rfl,rfl,hlk,hlt9⟩|⟨bb,bn,bc,rb,vb,kk,eb,hs0,rfl,hp0,hp1,rfl,rfl,hlk,hlt9⟩
 all_goals (try dsimp only [Nat.add_one_sub_one] at hs0)
 ·have hsp:Jm1 prs mid l=(l,l.length / 2):=by unfold Jm1;rw [if_neg (show ¬Qq1 mid l<=0 from hwd),hs0]
  have hput:m.set r ⟨.grow,3,v,ez,iC (Jw2 o a b l)⟩=m:=by
    rw [show Jw2 o a b l=o from by rw [<-hl];exact Km3 hab hbo]
    exact set_self hb
  rw [hsp,hput] at hQ
  obtain ⟨L9,hL9⟩:=hMX
  subst hL9
  refine AW.rg ?_
  simp only [push_cast,simprocAttr,bxC,c3C,U3,hd2,hw2,hw3]
  refine AW.w 2 Tru Tru ?_
  refine AW.sr 1 fun K J1=>?_
  simp only [push_cast,simprocAttr,bxC,c3C,U3,hd2,hw2,hw3]
  refine AW.w 2 Tru Tru ?_
  refine hQ _ _ _ ?_
  first|refine RetP.drop0 (by first|exact Or.inr rfl|exact Or.inl rfl) ?_ ?_ hwf|refine RetP.drop (by first|exact Or.inr rfl|exact Or.inl rfl) ?_ ?_ hwf|refine RetP.dropM (by simp) (by first|exact Or.inr rfl|exact Or.inl rfl) ?_ ?_ (Js6 hwf (Jg6 _ _) rfl)
  · (simp only [Je0,Jb1,Jb9,AV.tv,push_cast,simprocAttr])<;>rfl
  rfl
 ·have hsp:Jm1 prs mid l=(bb,bn):=by unfold Jm1;rw [if_neg (show ¬Qq1 mid l<=0 from hwd),hs0]
  rw [hsp] at hQ
  have hok:=Ki2 (prs:=prs) (mid:=mid) (l:=l) 7
  rw [hs0] at hok
  have hbl:bb.length=l.length:=hok.1.length_eq
  have hmin:min bb.length l.length=l.length:=by omega
  have hcp:setL (iC o) a (iC bb)=iC (Jw2 o a b bb):=Qy4 hab hbo (by rw [hbl,<-hl,Jf8 hbo])
  have hbv:=Qm6 bb
  have hbg:(iC bb).length=l.length:=by rw [Jg5,hbl]
  have hbt:List.take l.length (iC bb)=iC bb:=List.take_of_length_le (by omega)
  obtain ⟨L9,hL9⟩:=hMX
  have hset9:∀ B,M.set r B=m.set r B++L9:=fun B=>by rw [hL9];exact List.set_append_left _ _ (by omega)
  refine AW.rg ?_
  have U8:=ca4 U3 hp0 hlk (ca4 hbl hmin hcp (ca4 hbv hbg hbt (ca3 h0 hcl hset9)))
  simp only [push_cast,simprocAttr,bxC,c3C,Nat.min_self,U8]
  refine AW.w 4 Tru Tru ?_
  refine AW.sr 2 fun K J0=>?_
  simp only [push_cast,simprocAttr,bxC,c3C,Nat.min_self,U8]
  refine AW.w 2 Tru Tru ?_
  refine hQ _ _ _ ?_
  first|refine RetP.drop0 (by first|exact Or.inr rfl|exact Or.inl rfl) ?_ ?_ hwf|refine RetP.drop (by first|exact Or.inr rfl|exact Or.inl rfl) ?_ ?_ hwf|refine RetP.dropM (by simp) (by first|exact Or.inr rfl|exact Or.inl rfl) ?_ ?_ (Js6 hwf (Jg6 _ _) rfl)
  · (simp only [Je0,Jb1,Jb9,AV.tv,push_cast,simprocAttr])<;>rfl
  rfl
 have hsp:Jm1 prs mid l=(bb,bn):=by unfold Jm1;rw [if_neg (show ¬Qq1 mid l<=0 from hwd),hs0]
 rw [hsp] at hQ
 have hok:=Ki2 (prs:=prs) (mid:=mid) (l:=l) 7
 rw [hs0] at hok
 have hbl:bb.length=l.length:=hok.1.length_eq
 have hmin:min bb.length l.length=l.length:=by omega
 have hcp:setL (iC o) a (iC bb)=iC (Jw2 o a b bb):=Qy4 hab hbo (by rw [hbl,<-hl,Jf8 hbo])
 have hbv:=Qm6 bb
 have hbg:(iC bb).length=l.length:=by rw [Jg5,hbl]
 have hbt:List.take l.length (iC bb)=iC bb:=List.take_of_length_le (by omega)
 obtain ⟨L9,hL9⟩:=hMX
 have hset9:∀ B,M.set r B=m.set r B++L9:=fun B=>by rw [hL9];exact List.set_append_left _ _ (by omega)
 refine AW.rg ?_
 have U9:=ca4 U3 hp0 hlk (ca4 hbl hmin hcp (ca4 hbv hbg hbt (ca3 h0 hcl hset9)))
 simp only [push_cast,simprocAttr,bxC,c3C,Nat.min_self,U9]
 refine AW.w 4 Tru Tru ?_
 refine AW.sr 2 fun K J0=>?_
 simp only [push_cast,simprocAttr,bxC,c3C,Nat.min_self,U9]
 refine AW.w 2 Tru Tru ?_
 refine hQ _ _ _ ?_
 first|refine RetP.drop0 (by first|exact Or.inr rfl|exact Or.inl rfl) ?_ ?_ hwf|refine RetP.drop (by first|exact Or.inr rfl|exact Or.inl rfl) ?_ ?_ hwf|refine RetP.dropM (by simp) (by first|exact Or.inr rfl|exact Or.inl rfl) ?_ ?_ (Js6 hwf (Jg6 _ _) rfl)
 · (simp only [Je0,Jb1,Jb9,AV.tv,push_cast,simprocAttr])<;>rfl
 rfl
theorem Xc8 (w:Nat)(c0 c1:CV)(pb pv N mb mv:Nat)(prs:Nat->PR)(mid:Nat->V)(r v a b ez:Nat)(o l:List Nat)(m:Ja1)(hM:MkAt m w c0 c1 pb pv N mb mv prs mid)(hb:m[r]?=some ⟨.grow,3,v,ez,iC o⟩)(hab:a<b)(hbo:b<=o.length)(ho:∀ x,x<o.length->o.getD x 0<N)(hol:o.length<=128)(hl:Jk3 o a b=l):Ctr Tryz.prog 228 [.one (.ptr w 0 0),.one (.sl r v a l.length)] m (.one (.int .i64 (((Jm1 prs mid l).2:Nat):Int))) (m.set r ⟨.grow,3,v,ez,iC (Jw2 o a b (Jm1 prs mid l).1)⟩):=by
 by_cases hwd:Jq9 mid l (Jh2 (Jq9 mid l))<=0
 ·have hsp:Jm1 prs mid l=(l,l.length / 2):=by unfold Jm1;exact if_pos (show Qq1 mid l<=0 from hwd)
  have hput:m.set r ⟨.grow,3,v,ez,iC (Jw2 o a b l)⟩=m:=by
   rw [show Jw2 o a b l=o from by rw [<-hl];exact Km3 hab hbo]
   exact set_self hb
  rw [hsp,hput]
  exact Vm2 w c0 c1 pb pv N mb mv prs mid r v a b ez o l m hM hb hab hbo ho hol hl hwd
 exact Vm1 w c0 c1 pb pv N mb mv prs mid r v a b ez o l m hM hb hab hbo ho hol hl hwd
def ndC (d:ND):List CV:=prC d.p++[.int .i64 d.left,.int .i64 d.right,.int .i64 d.first,.int .i64 d.count]
def nd0:ND:=⟨⟨⟨fun _=>0,fun _=>0⟩,⟨fun _=>0,fun _=>0⟩⟩,0,0,0,0⟩
def ndL (l:List ND):List CV:=Jb2 l.length fun i=>ndC (l.getD i nd0)
theorem Km7 (l:List ND):(ndL l).length=l.length*16:=Ja6 (w:=16) (fun _=>rfl) _
theorem catC_congr {F G:Nat->List CV}:∀ {n:Nat},(∀ i,i<n->F i=G i)->Jb2 n F=Jb2 n G
 | 0,_=>rfl
 | n+1,h=>by show Jb2 n F++F n=Jb2 n G++G n;rw [catC_congr fun i hi=>h i (by omega),h n (by omega)]
theorem Vq3 (l:List ND)(d:ND):ndL l++ndC d=ndL (l++[d]):=by
 unfold ndL
 rw [List.length_append,List.length_singleton]
 show _=Jb2 l.length _++ndC ((l++[d]).getD l.length nd0)
 have e:(l++[d]).getD l.length nd0=d:=by rw [List.getD_eq_getElem?_getD,List.getElem?_append_right (Nat.le_refl _),Nat.sub_self];rfl
 rw [e]
 congr 1
 exact catC_congr fun i hi=>by rw [List.getD_eq_getElem?_getD,List.getD_eq_getElem?_getD,List.getElem?_append_left hi]
theorem catC_set {F G:Nat->List CV}{w:Nat}(hF:∀ i,(F i).length=w){i k:Nat}{x:CV}(hk:k<w)(hG:G i=(F i).set k x):∀ {n:Nat},(∀ j,j≠i->G j=F j)->i<n->(Jb2 n F).set (i*w+k) x=Jb2 n G
 | 0,_,h=>by omega
 | n+1,hj,h=>by
  have hl:=Ja6 (w:=w) (F:=F) hF n
  show (Jb2 n F++F n).set _ x=Jb2 n G++G n
  by_cases e:i=n
  ·subst e
   rw [List.set_append_right _ _ (by omega),hl,Nat.add_sub_cancel_left,hG]
   congr 1
   exact catC_congr fun j q=>(hj j (by omega)).symm
  have hle:(i+1)*w<=n*w:=Nat.mul_le_mul_right w (by omega)
  rw [Nat.add_mul,Nat.one_mul] at hle
  rw [List.set_append_left _ _ (by omega),catC_set hF hk hG hj (by omega),hj n (by omega)]
theorem Vd4 {l:List ND}{i k:Nat}{d d':ND}{x:CV}(hi:l[i]?=some d)(hk:k<16)(hd:ndC d'=(ndC d).set k x):(ndL l).set (i*16+k) x=ndL (l.set i d'):=by
 have hlt:=(List.getElem?_eq_some_iff.1 hi).1
 unfold ndL
 rw [List.length_set]
 refine catC_set (w:=16) (fun _=>rfl) hk ?_ ?_ hlt
 ·rw [List.getD_eq_getElem?_getD,List.getD_eq_getElem?_getD,List.getElem?_set_self hlt,hi];exact hd
 intro j hj
 rw [List.getD_eq_getElem?_getD,List.getD_eq_getElem?_getD,List.getElem?_set_ne (by omega)]
structure TB where
 (w nb r pb pv N mb mv v ez:Nat)
def TB.wC (T:TB)(st:List Nat × List ND):List CV:=[.sl T.nb st.2.length 0 st.2.length,.sl T.r T.v 0 st.1.length,.sl T.pb T.pv 0 T.N,.sl T.mb T.mv 0 T.N]
def tM (m:Ja1)(T:TB)(st:List Nat × List ND):Ja1:=((m.set T.w ⟨.fix,314,0,0,T.wC st⟩).set T.nb ⟨.grow,255,st.2.length,16,ndL st.2⟩).set T.r ⟨.grow,3,T.v,T.ez,iC st.1⟩
structure TmP (T:TB)(prs:Nat->PR)(mid:Nat->V)(m M:Ja1)(st:List Nat × List ND):Prop where
 len:m.length<=M.length
 old:∀ i,i<m.length->i≠T.w->i≠T.nb->i≠T.r->M[i]?=m[i]?
 hw:M[T.w]?=some ⟨.fix,314,0,0,T.wC st⟩
 hn:M[T.nb]?=some ⟨.grow,255,st.2.length,16,ndL st.2⟩
 hr:M[T.r]?=some ⟨.grow,3,T.v,T.ez,iC st.1⟩
structure TbOk (T:TB)(prs:Nat->PR)(mid:Nat->V)(m:Ja1):Prop where
 lw:T.w<m.length
 ln:T.nb<m.length
 lr:T.r<m.length
 d1:T.w≠T.nb
 d2:T.w≠T.r
 d3:T.nb≠T.r
 d4:T.pb≠T.w/\T.pb≠T.nb/\T.pb≠T.r
 d5:T.mb≠T.w/\T.mb≠T.nb/\T.mb≠T.r
 hp:∃ k ez,m[T.pb]?=some ⟨k,234,T.pv,ez,Jb2 T.N (prF prs)⟩
 hm:∃ k ez,m[T.mb]?=some ⟨k,59,T.mv,ez,Jb2 T.N (vF mid)⟩
 n:T.N<=128
theorem Kr6 (m:Ja1)(T:TB)(st:List Nat × List ND):(tM m T st).length=m.length:=by unfold tM;rw [List.length_set,List.length_set,List.length_set]
theorem TmP.ext {T:TB}{prs:Nat->PR}{mid:Nat->V}{m M:Ja1}{st:List Nat × List ND}(h:TmP T prs mid m M st)(hT:TbOk T prs mid m):∃ L,M=tM m T st++L:=by
 refine ⟨M.drop m.length,List.ext_getElem? fun i=>?_⟩
 by_cases hi:i<m.length
 ·rw [List.getElem?_append_left (by rw [Kr6];exact hi)]
  unfold tM
  by_cases e1:i=T.r
  ·subst e1;rw [h.hr,List.getElem?_set_self (by rw [List.length_set,List.length_set];exact hi)]
  rw [List.getElem?_set_ne (by omega)]
  by_cases e2:i=T.nb
  ·subst e2;rw [h.hn,List.getElem?_set_self (by rw [List.length_set];exact hi)]
  rw [List.getElem?_set_ne (by omega)]
  by_cases e3:i=T.w
  ·subst e3;rw [h.hw,List.getElem?_set_self hi]
  rw [List.getElem?_set_ne (by omega)];exact h.old i hi e3 e2 e1
 rw [List.getElem?_append_right (by rw [Kr6];omega),Kr6,List.getElem?_drop]
 congr 1;omega
theorem TmP.mk' {T:TB}{prs:Nat->PR}{mid:Nat->V}{m M:Ja1}{st:List Nat × List ND}(h:TmP T prs mid m M st)(hT:TbOk T prs mid m):MkAt M T.w (.sl T.nb st.2.length 0 st.2.length) (.sl T.r T.v 0 st.1.length) T.pb T.pv T.N T.mb T.mv prs mid where
 hw:=h.hw
 hp:=by obtain ⟨k,e,q⟩:=hT.hp;exact ⟨k,e,by rw [h.old _ (Ja7 q) hT.d4.1 hT.d4.2.1 hT.d4.2.2];exact q⟩
 hm:=by obtain ⟨k,e,q⟩:=hT.hm;exact ⟨k,e,by rw [h.old _ (Ja7 q) hT.d5.1 hT.d5.2.1 hT.d5.2.2];exact q⟩
 n:=hT.n
theorem TmP.ok {T:TB}{prs:Nat->PR}{mid:Nat->V}{m M:Ja1}{st:List Nat × List ND}(h:TmP T prs mid m M st)(hT:TbOk T prs mid m):TbOk T prs mid M where
 lw:=Nat.lt_of_lt_of_le hT.lw h.len
 ln:=Nat.lt_of_lt_of_le hT.ln h.len
 lr:=Nat.lt_of_lt_of_le hT.lr h.len
 d1:=hT.d1
 d2:=hT.d2
 d3:=hT.d3
 d4:=hT.d4
 d5:=hT.d5
 hp:=(h.mk' hT).hp
 hm:=(h.mk' hT).hm
 n:=hT.n
theorem TmP.app {T:TB}{prs:Nat->PR}{mid:Nat->V}{m M:Ja1}{st:List Nat × List ND}(h:TmP T prs mid m M st)(hT:TbOk T prs mid m)(L:Ja1):TmP T prs mid m (M++L) st where
 len:=by rw [List.length_append];have:=h.len;omega
 old:=fun i hi h1 h2 h3=>by rw [List.getElem?_append_left (Nat.lt_of_lt_of_le hi h.len)];exact h.old i hi h1 h2 h3
 hw:=Ja4 h.hw L
 hn:=Ja4 h.hn L
 hr:=Ja4 h.hr L
theorem TmP.put {T:TB}{prs:Nat->PR}{mid:Nat->V}{m M:Ja1}{st:List Nat × List ND}(h:TmP T prs mid m M st)(hT:TbOk T prs mid m)(st':List Nat × List ND):TmP T prs mid m (tM M T st') st' where
 len:=by rw [Kr6];exact h.len
 old:=fun i hi h1 h2 h3=>by
  unfold tM
  rw [List.getElem?_set_ne (by omega),List.getElem?_set_ne (by omega),List.getElem?_set_ne (by omega)]
  exact h.old i hi h1 h2 h3
 hw:=by
  have:=(h.ok hT).lw
  unfold tM
  rw [List.getElem?_set_ne (fun e=>hT.d2 e.symm),List.getElem?_set_ne (fun e=>hT.d1 e.symm),List.getElem?_set_self this]
 hn:=by
  have:=(h.ok hT).ln
  unfold tM
  rw [List.getElem?_set_ne (fun e=>hT.d3 e.symm),List.getElem?_set_self (by rw [List.length_set];exact this)]
 hr:=by
  have:=(h.ok hT).lr
  unfold tM
  rw [List.getElem?_set_self (by rw [List.length_set,List.length_set];exact this)]
theorem Ju4 {prs:Nat->PR}{mid:Nat->V}:∀ (f a b:Nat) (st:List Nat × List ND),b - a<=f->a<b->b<=st.1.length->(Jt1 prs mid f a b st).2.length+1<=st.2.length+2*(b - a)
 | 0,a,b,st,hf,hab,_=>by omega
 | f+1,a,b,(o,nds),hf,hab,hb=>by
  have hb':b<=o.length:=hb
  unfold Jt1
  by_cases h4:b - a<=4
  ·rw [if_pos h4];show (nds++[_]).length+1<=nds.length+2*(b - a);rw [List.length_append,List.length_singleton];omega
  rw [if_neg h4]
  have hsl:=Jf8 (a:=a) hb'
  obtain ⟨hperm,hm0,hm1⟩:=Kt7 (prs:=prs) (mid:=mid) (l:=Jk3 o a b) (by omega)
  obtain ⟨sp,hsp⟩:∃ sp,sp=Jm1 prs mid (Jk3 o a b):=⟨_,rfl⟩
  rw [<-hsp] at hperm hm0 hm1 ⊢
  rw [hsl] at hm1
  have hl1:sp.1.length=b - a:=by rw [hperm.length_eq,hsl]
  have ol1:(Jw2 o a b sp.1).length=o.length:=Kc7 (by omega) hb' hl1
  obtain ⟨s0,hs0⟩:∃ s0,s0=(Jw2 o a b sp.1,nds++[(⟨Jc1 prs (Jk3 o a b),-1,-1,0,0⟩:ND)]):=⟨_,rfl⟩
  have e1:s0.1.length=o.length:=by rw [hs0];exact ol1
  have e2:s0.2.length=nds.length+1:=by rw [hs0];simp
  dsimp only
  rw [<-hs0]
  have k1:=Ka6 (prs:=prs) (mid:=mid) f a (a+sp.2) s0 (by omega) (by omega) (by omega)
  have c1:=Ju4 (prs:=prs) (mid:=mid) f a (a+sp.2) s0 (by omega) (by omega) (by omega)
  have c2:=Ju4 (prs:=prs) (mid:=mid) f (a+sp.2) b (Jt1 prs mid f a (a+sp.2) s0) (by omega) (by omega) (by rw [k1.len];omega)
  rw [List.length_set]
  omega
theorem Qy7 {o o':List Nat}{a b N:Nat}(h:Xb6 o o' a b)(hl:o'.length=o.length)(hb:b<=o.length)(ho:∀ x,x<o.length->o.getD x 0<N):∀ x,x<o'.length->o'.getD x 0<N:=fun x hx=>by
 by_cases q:x<a\/b<=x
 ·rw [List.getD_eq_getElem?_getD,h.2 x q,<-List.getD_eq_getElem?_getD];exact ho x (by omega)
 have h1:=Kc1 (o:=o') (a:=a) (b:=b) (x:=x) (by omega) (by omega)
 have h2:o'.getD x 0 ∈ Jk3 o a b:=h.1.mem_iff.2 (List.mem_of_getElem? (by rw [h1,List.getD_eq_getElem?_getD,List.getElem?_eq_getElem hx];rfl))
 obtain ⟨k,hk,e⟩:=List.getElem_of_mem h2
 have h3:=Jx1 (o:=o) (a:=a) (b:=b) (i:=k) (by rw [Jf8 hb] at hk;omega)
 rw [List.getD_eq_getElem?_getD,List.getElem?_eq_getElem hk] at h3
 have h3:(Jk3 o a b)[k]=o.getD (a+k) 0:=h3
 rw [<-e,h3]
 exact ho _ (by rw [Jf8 hb] at hk;omega)
theorem Xx0 {o l:List Nat}{a b N:Nat}(hab:a<b)(hb:b<=o.length)(hp:l.Perm (Jk3 o a b))(ho:∀ x,x<o.length->o.getD x 0<N):∀ x,x<(Jw2 o a b l).length->(Jw2 o a b l).getD x 0<N:=by
 have hl:l.length=b - a:=by rw [hp.length_eq,Jf8 hb]
 refine Qy7 (a:=a) (b:=b) ⟨?_,fun x hx=>Qk6 hb (by omega) hl hx⟩ (Kc7 (by omega) hb hl) hb ho
 have e:Jk3 (Jw2 o a b l) a b=l:=by
  refine List.ext_getElem? fun i=>?_
  have ol:=Kc7 (o:=o) (a:=a) (b:=b) (by omega) hb hl
  by_cases hi:i<b - a
  ·have:=Kc1 (o:=Jw2 o a b l) (a:=a) (b:=b) (x:=a+i) (by omega) (by omega)
   rw [show a+i - a=i by omega] at this
   rw [this,Vb6 hb (by omega) hl (by omega) (by omega),show a+i - a=i by omega]
  rw [List.getElem?_eq_none (by rw [Jf8 (by omega)];omega),List.getElem?_eq_none (by omega)]
 rw [e];exact hp.symm
theorem TmP.snoc {T:TB}{prs:Nat->PR}{mid:Nat->V}{m:Ja1}{o:List Nat}{nds:List ND}(hP:TmP T prs mid m m (o,nds))(hT:TbOk T prs mid m)(d:ND)(X:Ja1):TmP T prs mid m ((m.set T.nb ⟨.grow,255,nds.length+1,16,ndL nds++ndC d⟩).set T.w ⟨.fix,314,0,0,[.sl T.nb (nds.length+1) 0 (nds.length+1),.sl T.r T.v 0 o.length,.sl T.pb T.pv 0 T.N,.sl T.mb T.mv 0 T.N]⟩++X) (o,nds++[d]):=by
 have hl:(nds++[d]).length=nds.length+1:=by simp
 refine TmP.app ⟨by simp,fun i hi h1 h2 h3=>?_,?_,?_,?_⟩ hT X
 ·rw [List.getElem?_set_ne (by omega),List.getElem?_set_ne (by omega)]
 ·rw [List.getElem?_set_self (by rw [List.length_set];exact hT.lw)]
  show some _=some (Blk.mk _ _ _ _ [.sl T.nb (nds++[d]).length 0 (nds++[d]).length,_,_,_])
  rw [hl]
 ·rw [List.getElem?_set_ne hT.d1,List.getElem?_set_self hT.ln]
  show some _=some (Blk.mk _ _ (nds++[d]).length _ (ndL (nds++[d])))
  rw [hl,Vq3]
 rw [List.getElem?_set_ne hT.d2,List.getElem?_set_ne hT.d3];exact hP.hr
theorem TmP.two {T:TB}{prs:Nat->PR}{mid:Nat->V}{m M:Ja1}{o:List Nat}{ns:List ND}(hM:TmP T prs mid m M (o,ns))(hT:TbOk T prs mid m){i k1 k2 n:Nat}{d d1 d2:ND}{x1 x2:CV}(hn:ns.length=n)(hi:ns[i]?=some d)(hk1:k1<16)(hk2:k2<16)(h1:ndC d1=(ndC d).set k1 x1)(h2:ndC d2=(ndC d1).set k2 x2) :
  TmP T prs mid m ((M.set T.nb ⟨.grow,255,n,16,(ndL ns).set (i*16+k1) x1⟩).set T.nb ⟨.grow,255,n,16,((ndL ns).set (i*16+k1) x1).set (i*16+k2) x2⟩) (o,ns.set i d2):=by
 have hlt:=(List.getElem?_eq_some_iff.1 hi).1
 have e1:=Vd4 hi hk1 h1
 have e2:=Vd4 (l:=ns.set i d1) (List.getElem?_set_self hlt) hk2 h2
 rw [List.set_set] at e2
 rw [e1,e2,List.set_set]
 subst hn
 have hl:(ns.set i d2).length=ns.length:=List.length_set
 refine ⟨by rw [List.length_set];exact hM.len,fun j hj g1 g2 g3=>?_,?_,?_,?_⟩
 ·rw [List.getElem?_set_ne (by omega)];exact hM.old j hj g1 g2 g3
 ·rw [List.getElem?_set_ne (fun e=>hT.d1 e.symm),hM.hw]
  show some _=some (Blk.mk _ _ _ _ [.sl T.nb (ns.set i d2).length 0 (ns.set i d2).length,_,_,_])
  rw [hl];rfl
 ·rw [List.getElem?_set_self (hM.ok hT).ln]
  show some _=some (Blk.mk _ _ (ns.set i d2).length _ _)
  rw [hl]
 rw [List.getElem?_set_ne hT.d3];exact hM.hr
theorem Xu0 {m:Ja1}{T:TB}{prs:Nat->PR}{mid:Nat->V}(hT:TbOk T prs mid m)(h:MWf m.length m)(st:List Nat × List ND):MWf m.length (tM m T st):=by
 obtain ⟨_,_,q1⟩:=hT.hp
 obtain ⟨_,_,q2⟩:=hT.hm
 have l1:=Ja7 q1
 have l2:=Ja7 q2
 have l3:=hT.ln
 have l4:=hT.lr
 refine Js6 (Js6 (Js6 h ?_ rfl) (Jb8 _ (fun _=>rfl) _) rfl) (Jg6 _ _) rfl
 simp [TB.wC,CV.below];omega
theorem Vm4 {l:List ND}{d d':ND}:(l++[d]).set l.length d'=l++[d']:=by
 rw [List.set_append_right _ _ (Nat.le_refl _),Nat.sub_self];rfl
theorem Xk3 (T:TB)(prs:Nat->PR)(mid:Nat->V)(a b:Nat)(o:List Nat)(nds:List ND)(m:Ja1)(hT:TbOk T prs mid m)(hP:TmP T prs mid m m (o,nds))(hab:a<b)(hbo:b<=o.length)(ho:∀ x,x<o.length->o.getD x 0<T.N)(hol:o.length<=128)(hnd:nds.length<=1000)(h4:b - a<=4):Ctr Tryz.prog 184 [.one (.ptr T.w 0 0),.one (.int .i64 ((a:Int))),.one (.int .i64 ((b:Int)))] m (.one (.int .i64 (nds.length:Int))) (tM m T (o,nds++[⟨Jc1 prs (Jk3 o a b),-1,-1,(a:Int),((b - a:Nat):Int)⟩])):=by
 refine Ctr.en Tryz.func184 [.tmp 6] 96 fun hwf Q hQ=>?_
 obtain ⟨l,hl⟩:∃ l,l=Jk3 o a b:=⟨_,rfl⟩
 have hll:b - a=l.length:=by rw [hl,Jf8 hbo]
 have hw:m[T.w]?=some ⟨.fix,314,0,0,[.sl T.nb nds.length 0 nds.length,.sl T.r T.v 0 o.length,.sl T.pb T.pv 0 T.N,.sl T.mb T.mv 0 T.N]⟩:=hP.hw
 have hn:m[T.nb]?=some ⟨.grow,255,nds.length,16,ndL nds⟩:=hP.hn
 have hr:m[T.r]?=some ⟨.grow,3,T.v,T.ez,iC o⟩:=hP.hr
 have lw:=hT.lw
 have ln:=hT.ln
 have lr:=hT.lr
 have d1:=hT.d1
 have d2:=hT.d2
 have d3:=hT.d3
 have d1s:=d1.symm
 have d2s:=d2.symm
 have d3s:=d3.symm
 have hI:IdsAt m T.r T.v a l T.N:=by rw [hl];exact Kt6 ⟨_,_,hr⟩ (by omega) hbo ho hol
 have hMk:=hP.mk' hT
 dsimp only at hMk
 have h0:0<l.length:=by omega
 have ol:(iC o).length=o.length:=Jg5 _
 have nl:(ndL nds).length=nds.length*16:=Km7 _
 have n1:(0:Int)<=(a:Int):=by omega
 have n2:(a:Int)<=(b:Int):=by omega
 have n3:(b:Int)<=(o.length:Int):=by omega
 have q1:nds.length<=140737488355327:=by omega
 have q2:(nds.length+1)*128<=140737488355328:=by omega
 have hs1:∀ B (X:Ja1),(m++X).set T.nb B=m.set T.nb B++X:=fun B X=>List.set_append_left _ _ ln
 have hs2:∀ B (X:Ja1),(m++X).set T.w B=m.set T.w B++X:=fun B X=>List.set_append_left _ _ lw
 have hkw:∀ B (X:Ja1),(m.set T.nb B++X)[T.w]?=some ⟨.fix,314,0,0,[.sl T.nb nds.length 0 nds.length,.sl T.r T.v 0 o.length,.sl T.pb T.pv 0 T.N,.sl T.mb T.mv 0 T.N]⟩:=fun B X=>by rw [List.getElem?_append_left (by rw [List.length_set];exact lw),List.getElem?_set_ne d1s];exact hw
 have hs3:∀ B C (X:Ja1),(m.set T.nb B++X).set T.w C=(m.set T.nb B).set T.w C++X:=fun B C X=>List.set_append_left _ _ (by rw [List.length_set];exact lw)
 have hlt0:∀ k,¬m.length+k<m.length:=fun k=>by omega
 rw [<-hl,hll] at hQ
 have h4i:(l.length:Int)<=4:=by omega
 have U1:=ca4 hw (Ja4 hw) hn (ca4 (Ja4 hn) hr (Ja4 hr) (ca4 ol nl n1 (ca4 n2 n3 q1 (ca4 q2 hs1 hs2 (ca4 hkw hs3 d1 (ca4 d2 d3 d1s (ca4 d2s d3s hll (ca4 @Kf2 @Je6 @Ja5 h4i))))))))
 refine AW.wd [[.val,.val,.val,.val,.val,.rd 0,.val,.val,.ext,.val,.ext,.wr,.val,.val,.val,.wr]] 4 U1 (Kj6 T.w (.sl T.nb nds.length 0 nds.length) (.sl T.r T.v 0 o.length) T.pb T.pv T.N T.mb T.mv prs mid T.r T.v a l _ hMk hI h0) ?_
 refine AW.q fun K J0=>?_
 refine AW.anyMemG (fun M=>TmP T prs mid m M (o,nds++[(⟨Jc1 prs l,-1,-1,0,0⟩:ND)])) (hP.snoc hT (⟨Jc1 prs l,-1,-1,0,0⟩:ND) _) fun M hM=>?_
 have hwM:M[T.w]?=some ⟨.fix,314,0,0,[.sl T.nb (nds++[(⟨Jc1 prs l,-1,-1,0,0⟩:ND)]).length 0 (nds++[(⟨Jc1 prs l,-1,-1,0,0⟩:ND)]).length,.sl T.r T.v 0 o.length,.sl T.pb T.pv 0 T.N,.sl T.mb T.mv 0 T.N]⟩:=hM.hw
 have hnM:M[T.nb]?=some ⟨.grow,255,(nds++[(⟨Jc1 prs l,-1,-1,0,0⟩:ND)]).length,16,ndL (nds++[(⟨Jc1 prs l,-1,-1,0,0⟩:ND)])⟩:=hM.hn
 have hnl:(nds++[(⟨Jc1 prs l,-1,-1,0,0⟩:ND)]).length=nds.length+1:=by simp
 rw [hnl] at hwM hnM
 have hML:(ndL (nds++[(⟨Jc1 prs l,-1,-1,0,0⟩:ND)])).length=(nds.length+1)*16:=by rw [Km7,hnl]
 have hMl:=hM.len
 have hkn:∀ B,(M.set T.nb B)[T.nb]?=some B:=fun B=>List.getElem?_set_self (by omega)
 have hkW:∀ B,(M.set T.nb B)[T.w]?=M[T.w]?:=fun B=>List.getElem?_set_ne d1s
 have u1:(0:Int)<=(nds.length:Int):=by omega
 have u2:(nds.length:Int)<(nds.length:Int)+1:=by omega
 have u3:nds.length*16+16<=(nds.length+1)*16:=by omega
 have u4:nds.length<nds.length+1:=by omega
 have u5:nds.length*16+15<=(nds.length+1)*16:=by omega
 refine AW.w 2 U1 Tru ?_
 have U2:=ca4 U1 hwM hnM (ca4 hML hkn hkW (ca4 u1 u2 u3 (ca2 u4 u5)))
 refine AW.d [.val,.val,.val,.val,.rd 0,.val,.val,.val,.val,.val,.rd 0,.val,.val,.val,.val,.val,.val,.wr,.val,.val,.wr] fol U2 Tru ?_
 refine AW.anyMemG (fun M=>∃ L,M=tM m T (o,nds++[(⟨Jc1 prs l,-1,-1,(a:Int),(l.length:Int)⟩:ND)])++L) ?_ fun M hM=>?_
 · have:=(hM.two hT (i:=nds.length) (k1:=14) (k2:=15) (x1:=.int .i64 (a:Int)) (x2:=.int .i64 (l.length:Int)) (d:=(⟨Jc1 prs l,-1,-1,0,0⟩:ND)) (d1:=⟨Jc1 prs l,-1,-1,(a:Int),0⟩) (d2:=(⟨Jc1 prs l,-1,-1,(a:Int),(l.length:Int)⟩:ND)) hnl (by rw [List.getElem?_append_right (Nat.le_refl _),Nat.sub_self];rfl) (by decide) (by decide) rfl rfl).ext hT
   rw [Vm4] at this
   exact this
 obtain ⟨L9,rfl⟩:=hM
 refine AW.w 2 U2 Tru ?_
 refine hQ _ _ _ ?_
 refine RetP.dropM (Kr6 _ _ _) (by first|exact Or.inr rfl|exact Or.inl rfl) ?_ ?_ (Xu0 hT hwf _)
 · (simp only [Je0,Jb1,Jb9,AV.tv,push_cast,simprocAttr])<;>rfl
 rfl
end Go.Proofs.YtaannomfigammaaGreat
