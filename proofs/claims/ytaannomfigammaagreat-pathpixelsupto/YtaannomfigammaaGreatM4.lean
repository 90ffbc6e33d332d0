/- Walks and facts of this seat's program over abstract states, printed by programs of mine; no conditions but those that each theorem names. -/
import Derived.Test.YtaannomfigammaaGreatM3
set_option linter.unusedSimpArgs false
set_option linter.unusedVariables false
set_option maxRecDepth 100000
set_option maxHeartbeats 4000000
namespace Go.Proofs.YtaannomfigammaaGreat
open Go Go.Eng
def fbN (f:Nat->Bool):Nat->Nat
 | 0=>0
 | n+1=>if fbN f n<n then fbN f n else if f n=true then n+1 else n
theorem Kn8 {f:Nat->Bool}{i:Nat}(h:∀ k,k<i->f k=true)(hi:f i=false):∀ n,i<n->fbN f n=i
 | 0,h0=>by omega
 | n+1,h0=>by
  unfold fbN
  rcases Nat.lt_or_ge i n with q|q
  ·have:=Kn8 h hi n q
   rw [if_pos (by omega)];exact this
  have e:i=n:=by omega
  subst e
  have:fbN f i=i:=by
   clear h0 q hi
   induction i with
   | zero=>rfl
   | succ k ih =>
    have ih:=ih fun j hj=>h j (by omega)
    unfold fbN
    rw [if_neg (by omega),if_pos (h k (by omega))]
  rw [if_neg (by omega),hi];rfl
theorem Ka7 {f:Nat->Bool}:∀ n,(∀ k,k<n->f k=true)->fbN f n=n
 | 0,_=>rfl
 | n+1,h=>by
  have:=Ka7 n fun k hk=>h k (by omega)
  unfold fbN
  rw [if_neg (by omega),if_pos (h n (by omega))]
theorem Kg0 (f:Nat->Bool):∀ n,fbN f n<=n
 | 0=>Nat.le_refl _
 | n+1=>by
  have:=Kg0 f n
  unfold fbN
  split
  ·omega
  split<;>omega
theorem Qn5 {f:Nat->Bool}:∀ n,fbN f n=n->∀ k,k<n->f k=true
 | 0,_,k,hk=>by omega
 | n+1,h,k,hk=>by
  unfold fbN at h
  split at h
  ·omega
  rename_i h0
  have:=Kg0 f n
  split at h
  ·rename_i h1
   rcases Nat.lt_or_ge k n with q|q
   ·exact Qn5 n (by omega) k q
   obtain rfl:k=n:=by omega
   exact h1
  omega
def TrS (s:SC)(i:Nat):Prop:=TrR (s.tw i) (s.kn i) (s.kt i) (s.kv i)
instance (s:SC)(i:Nat):Decidable (TrS s i):=by unfold TrS;exact inferInstance
def Jh9 (s:SC):Int × Int :=
 if ¬HdR s then (21,0) else if 32<s.np then (22,32) else if fbN (fun i=>decide (PaR s i)) s.np<s.np then (22,(fbN (fun i=>decide (PaR s i)) s.np:Nat)) else
 if 32<s.nt then (23,32) else if fbN (fun i=>decide (TrS s i)) s.nt<s.nt then (23,(fbN (fun i=>decide (TrS s i)) s.nt:Nat)) else
 if 32<s.nj then (24,32) else if fbN (fun i=>decide (JoR s i)) s.nj<s.nj then (24,(fbN (fun i=>decide (JoR s i)) s.nj:Nat)) else
 if 128<s.nx then (25,128) else if fbN (fun i=>decide (ShR s i)) s.nx<s.nx then (25,(fbN (fun i=>decide (ShR s i)) s.nx:Nat)) else
 if ¬LeR s then (26,0) else if 16<(Jm6 (glB s) s.nx).length then (27,(Jm6 (glB s) s.nx).getD 16 0) else (0,0)
theorem Ve2 (l:List Int)(i:Nat)(h:i<l.length):(iL l)[i]?=some (.int .i64 (l.getD i 0)):=iL_at (by rw [List.getD_eq_getElem?_getD,List.getElem?_eq_getElem h];rfl)
theorem Qj3 (s:SC)(R:RWs)(m:Ja1)(hR:ScR 138 143 285 146 150 m s R):Ctr Tryz.prog 18 [.agg (scC s R)] m (.tup [(false,[.int .i64 (Jh9 s).1]),(false,[.int .i64 (Jh9 s).2])]) m:=by
 refine Ctr.en Tryz.func18 [.tmp 2,.tmp 3] 98 fun hwf Q hQ=>?_
 obtain ⟨kp,ep,hp⟩:=hR.hp
 have lp:=Jb2 hp
 obtain ⟨kt,et,ht⟩:=hR.ht
 have lt:=Jb2 ht
 obtain ⟨kj,ej,hj⟩:=hR.hj
 have lj:=Jb2 hj
 obtain ⟨kx,ex,hx⟩:=hR.hx
 have lx:=Jb2 hx
 have np:=hR.np
 have nt:=hR.nt
 have nj:=hR.nj
 have nx:=hR.nx
 have pl:(Jb6 s.np (pC s)).length=s.np*5:=Ja9 (w:=5) (F:=pC s) (fun _=>rfl) _
 have tl:(Jb6 s.nt (tC s R)).length=s.nt*2:=Ja9 (w:=2) (F:=tC s R) (fun _=>rfl) _
 have jl:(Jb6 s.nj (jC s)).length=s.nj*4:=Ja9 (w:=4) (F:=jC s) (fun _=>rfl) _
 have xl:(Jb6 s.nx (xC s)).length=s.nx*13:=Ja9 (w:=13) (F:=xC s) (fun _=>rfl) _
 have hlt0:∀ k,¬m.length+k<m.length:=fun k=>by omega
 have hbox:∀ i,pC s i=[.int .i64 (s.pk i),.int .i64 (s.pc i 0),.int .i64 (s.pc i 1),.int .i64 (s.pc i 2),.int .i64 (s.pr i)]:=fun _=>rfl
 have hbt:∀ i,tC s R i=[.int .i64 (s.tw i),.sl (R.k i) (R.vk i) 0 (s.kn i)]:=fun _=>rfl
 have hbx:∀ i,xC s i=[.int .i64 (s.xj i),.int .i64 (s.xp i),.int .i64 (s.xk i),.int .i64 (s.xv i 0 0),.int .i64 (s.xv i 0 1),.int .i64 (s.xv i 0 2),.int .i64 (s.xv i 1 0),.int .i64 (s.xv i 1 1),.int .i64 (s.xv i 1 2),.int .i64 (s.xv i 2 0),.int .i64 (s.xv i 2 1),.int .i64 (s.xv i 2 2),.int .i64 (s.xr i)]:=fun _=>rfl
 have ill:=fun l=>Kn4 l
 have U1:=ca4 hp (Ja5 hp) ht (ca4 (Ja5 ht) hj (Ja5 hj) (ca4 hx (Ja5 hx) pl (ca4 tl jl xl (ca4 ill @Jf4 @Je7 (ca2 @Jf3 @Ja4)))))
 refine AW.c 1 U1 Tru ?_
 refine AW.q fun K J0=>?_
 refine AW.c 1 U1 (rhd_c s) ?_
 refine AW.cond rfl (fun h12=>?_) (fun h12=>?_)
 ·have hA:¬HdR s:=by simpa using h12
  rw [show Jh9 s=(21,0) from by unfold Jh9;rw [if_pos hA]] at hQ
  refine AW.c 1 U1 Tru ?_
  exact AW.ret (hQ _ _ _ (RetP.z hwf U1))
 have hA:¬¬HdR s:=by simpa using h12
 apply AW.z
 apply J0
 refine AW.q fun K J0=>?_
 refine AW.c 1 U1 Tru ?_
 refine AW.cond rfl (fun h16=>?_) (fun h16=>?_)
 ·have q1:32<s.np:=by have:=of_decide_eq_true h16;omega
  rw [show Jh9 s=(22,32) from by unfold Jh9;rw [if_neg hA,if_pos q1]] at hQ
  refine AW.c 1 U1 Tru ?_
  exact AW.ret (hQ _ _ _ (RetP.z hwf U1))
 have h1:¬32<s.np:=by have:=of_decide_eq_false h16;omega
 apply AW.z
 apply J0
 refine AW.q fun K J0=>?_
 refine AW.c 1 U1 Tru ?_
 apply AW.b
 refine AW.loopK [1] (fun i=>i<=s.np/\∀ k,k<i->PaR s k) (fun i=>[(4,.one (.int .i64 (i:Int)))]) (fun i=>[]) (fun i=>s.np - i) 0 ⟨by omega,fun k hk=>by omega⟩ ?_ ?_ fun i hi4=>?_
 · first|rfl|(simp only [KS,simprocAttr,Int.natCast_zero]<;>repeat' (first|rfl|apply And.intro))
 · first|rfl|(simp only [Ja2,push_cast,simprocAttr,U1,Int.natCast_zero]<;>rfl)
 obtain ⟨hin,hok⟩:=hi4
 try simp only [Jb1,Ja2,push_cast,simprocAttr,U1]
 refine AW.q fun K J1=>?_
 refine AW.c 1 U1 Tru ?_
 refine AW.cond rfl (fun h21=>?_) (fun h21=>?_)
 ·have hlt:i<s.np:=by have:=of_decide_eq_true h21;omega
  have c1:(0:Int)<=(i:Int):=by omega
  have c2:(i:Int)<(s.np:Int):=by omega
  have c3:i*5+5<=s.np*5:=by omega
  have ga:=Jc0 (w:=5) (F:=pC s) (fun _=>rfl) hlt
  apply AW.z
  apply J1
  refine AW.q fun K J1=>?_
  apply AW.b
  have U2:=ca4 U1 c1 c2 (ca3 c3 ga hbox)
  refine AW.c 1 U2 (rpa_c s i) ?_
  refine AW.cond rfl (fun h30=>?_) (fun h30=>?_)
  ·have hno:¬PaR s i:=by simpa [TrS] using h30
   have hfb:fbN (fun i=>decide (PaR s i)) s.np=i:=Kn8 (fun k hk=>decide_eq_true (hok k hk)) (decide_eq_false hno) _ hlt
   rw [show Jh9 s=(22,((i:Nat):Int)) from by unfold Jh9;rw [if_neg hA,if_neg h1,if_pos (by rw [hfb];exact hlt),hfb]] at hQ
   refine AW.c 1 U2 Tru ?_
   exact AW.ret (hQ _ _ _ (RetP.z hwf U2))
  have hnow:PaR s i:=by simpa [TrS] using h30
  apply AW.z
  apply Ja8
  apply J1
  refine AW.g U2 Tru ?_
  apply Jc2
  have hwi:IntKind.i64.wrap ((i:Int)+1)=(i:Int)+1:=wi (by omega)
  refine ⟨i+1,⟨by omega,fun k hk=>by
    rcases Nat.lt_or_ge k i with h|h
    · exact hok k h
    obtain rfl:k=i:=by omega
    exact hnow⟩,by omega,?_⟩
  try simp only [Jb1,Ja2,push_cast,simprocAttr,U2,hwi]
  first
   | exact Weak.same (by simp only [KS,simprocAttr,hwi]) (by first|rfl|simp only [KS,simprocAttr,hwi])
   | exact Weak.to (extra:=[_]) (by simp only [KS,simprocAttr,hwi]) (by first|rfl|(simp only [List.append_assoc,List.cons_append,List.nil_append];rfl)) (by first|rfl|(simp [AV.below,CV.below];done)|(simp [AV.below,CV.below];omega)) (by
      first|exact hwf|refine MWf.app (hwf.grow (by simp)) ?_
      repeat (first|exact Jb7|(refine Ja0 ?_ ?_;· first|rfl|(simp [CV.below];done)|(simp [CV.below];omega))))
 have hie:i=s.np:=by have:=of_decide_eq_false h21;omega
 have f1:¬fbN (fun i=>decide (PaR s i)) s.np<s.np:=by rw [Ka7 s.np fun k hk=>decide_eq_true (hok k (by omega))];omega
 apply AW.v
 apply Jb0
 apply Jb0
 apply Ja6
 apply J0
 refine AW.q fun K J0=>?_
 refine AW.c 1 U1 Tru ?_
 refine AW.cond rfl (fun h35=>?_) (fun h35=>?_)
 ·have q2:32<s.nt:=by have:=of_decide_eq_true h35;omega
  rw [show Jh9 s=(23,32) from by unfold Jh9;rw [if_neg hA,if_neg h1,if_neg f1,if_pos q2]] at hQ
  refine AW.c 1 U1 Tru ?_
  exact AW.ret (hQ _ _ _ (RetP.z hwf U1))
 have h2:¬32<s.nt:=by have:=of_decide_eq_false h35;omega
 apply AW.z
 apply J0
 refine AW.q fun K J0=>?_
 refine AW.c 1 U1 Tru ?_
 apply AW.b
 refine AW.loopK [1] (fun i=>i<=s.nt/\∀ k,k<i->TrS s k) (fun i=>[(5,.one (.int .i64 (i:Int)))]) (fun i=>[]) (fun i=>s.nt - i) 0 ⟨by omega,fun k hk=>by omega⟩ ?_ ?_ fun i hi9=>?_
 · first|rfl|(simp only [KS,simprocAttr,Int.natCast_zero]<;>repeat' (first|rfl|apply And.intro))
 · first|rfl|(simp only [Ja2,push_cast,simprocAttr,U1,Int.natCast_zero]<;>rfl)
 obtain ⟨hin,hok⟩:=hi9
 try simp only [Jb1,Ja2,push_cast,simprocAttr,U1]
 refine AW.q fun K J1=>?_
 refine AW.c 1 U1 Tru ?_
 refine AW.cond rfl (fun h40=>?_) (fun h40=>?_)
 ·have hlt:i<s.nt:=by have:=of_decide_eq_true h40;omega
  have c1:(0:Int)<=(i:Int):=by omega
  have c2:(i:Int)<(s.nt:Int):=by omega
  have c3:i*2+2<=s.nt*2:=by omega
  have ga:=Jc0 (w:=2) (F:=tC s R) (fun _=>rfl) hlt
  obtain ⟨kk,ek,hky⟩:=hR.hk i hlt
  have lky:=Jb2 hky
  apply AW.z
  apply J1
  refine AW.q fun K J1=>?_
  apply AW.b
  have U3:=ca4 U1 c1 c2 (ca3 c3 ga hbt)
  refine AW.c 1 U3 (Kr5 (s.tw i) (R.k i) (R.vk i) (s.kn i) (s.kt i) (s.kv i) _ ⟨kk,ek,Ja5 hky _⟩) ?_
  refine AW.cond rfl (fun h49=>?_) (fun h49=>?_)
  ·have hno:¬TrS s i:=by simpa [TrS] using h49
   have hfb:fbN (fun i=>decide (TrS s i)) s.nt=i:=Kn8 (fun k hk=>decide_eq_true (hok k hk)) (decide_eq_false hno) _ hlt
   rw [show Jh9 s=(23,((i:Nat):Int)) from by unfold Jh9;rw [if_neg hA,if_neg h1,if_neg f1,if_neg h2,if_pos (by rw [hfb];exact hlt),hfb]] at hQ
   refine AW.c 1 U3 Tru ?_
   exact AW.ret (hQ _ _ _ (RetP.z hwf U3))
  have hnow:TrS s i:=by simpa [TrS] using h49
  apply AW.z
  apply Ja8
  apply J1
  refine AW.g U3 Tru ?_
  apply Jc2
  have hwi:IntKind.i64.wrap ((i:Int)+1)=(i:Int)+1:=wi (by omega)
  refine ⟨i+1,⟨by omega,fun k hk=>by
    rcases Nat.lt_or_ge k i with h|h
    · exact hok k h
    obtain rfl:k=i:=by omega
    exact hnow⟩,by omega,?_⟩
  try simp only [Jb1,Ja2,push_cast,simprocAttr,U3,hwi]
  first
   | exact Weak.same (by simp only [KS,simprocAttr,hwi]) (by first|rfl|simp only [KS,simprocAttr,hwi])
   | exact Weak.to (extra:=[_]) (by simp only [KS,simprocAttr,hwi]) (by first|rfl|(simp only [List.append_assoc,List.cons_append,List.nil_append];rfl)) (by first|rfl|(simp [AV.below,CV.below];done)|(simp [AV.below,CV.below];omega)) (by
      first|exact hwf|refine MWf.app (hwf.grow (by simp)) ?_
      repeat (first|exact Jb7|(refine Ja0 ?_ ?_;· first|rfl|(simp [CV.below];done)|(simp [CV.below];omega))))
 have hie:i=s.nt:=by have:=of_decide_eq_false h40;omega
 have f2:¬fbN (fun i=>decide (TrS s i)) s.nt<s.nt:=by rw [Ka7 s.nt fun k hk=>decide_eq_true (hok k (by omega))];omega
 apply AW.v
 apply Jb0
 apply Jb0
 apply Ja6
 apply J0
 refine AW.q fun K J0=>?_
 refine AW.c 1 U1 Tru ?_
 refine AW.cond rfl (fun h54=>?_) (fun h54=>?_)
 ·have q3:32<s.nj:=by have:=of_decide_eq_true h54;omega
  rw [show Jh9 s=(24,32) from by unfold Jh9;rw [if_neg hA,if_neg h1,if_neg f1,if_neg h2,if_neg f2,if_pos q3]] at hQ
  refine AW.c 1 U1 Tru ?_
  exact AW.ret (hQ _ _ _ (RetP.z hwf U1))
 have h3:¬32<s.nj:=by have:=of_decide_eq_false h54;omega
 apply AW.z
 apply J0
 refine AW.q fun K J0=>?_
 refine AW.c 1 U1 Tru ?_
 apply AW.b
 refine AW.loopK [1] (fun i=>i<=s.nj/\∀ k,k<i->JoR s k) (fun i=>[(6,.one (.int .i64 (i:Int)))]) (fun i=>[]) (fun i=>s.nj - i) 0 ⟨by omega,fun k hk=>by omega⟩ ?_ ?_ fun i hi14=>?_
 · first|rfl|(simp only [KS,simprocAttr,Int.natCast_zero]<;>repeat' (first|rfl|apply And.intro))
 · first|rfl|(simp only [Ja2,push_cast,simprocAttr,U1,Int.natCast_zero]<;>rfl)
 obtain ⟨hin,hok⟩:=hi14
 try simp only [Jb1,Ja2,push_cast,simprocAttr,U1]
 refine AW.q fun K J1=>?_
 refine AW.c 1 U1 Tru ?_
 refine AW.cond rfl (fun h59=>?_) (fun h59=>?_)
 ·have hlt:i<s.nj:=by have:=of_decide_eq_true h59;omega
  have c1:(0:Int)<=(i:Int):=by omega
  have c2:(i:Int)<(s.nj:Int):=by omega
  have c3:=True.intro
  have ga:=True.intro
  apply AW.z
  apply J1
  refine AW.q fun K J1=>?_
  apply AW.b
  refine AW.sr 1 fun K J2=>?_
  have U4:=ca4 U1 c1 c2 (ca2 c3 ga)
  simp only [push_cast,simprocAttr,U4]
  refine CThen.by (rjo_c s R i _ hR.nt (by obtain ⟨k,e,h⟩:=hR.hj;exact ⟨k,e,Ja5 h _⟩) hlt hR.nj) ?_
  simp only [push_cast,simprocAttr,U4]
  apply J2
  refine AW.cond rfl (fun h65=>?_) (fun h65=>?_)
  ·have hno:¬JoR s i:=by simpa [TrS] using h65
   have hfb:fbN (fun i=>decide (JoR s i)) s.nj=i:=Kn8 (fun k hk=>decide_eq_true (hok k hk)) (decide_eq_false hno) _ hlt
   rw [show Jh9 s=(24,((i:Nat):Int)) from by unfold Jh9;rw [if_neg hA,if_neg h1,if_neg f1,if_neg h2,if_neg f2,if_neg h3,if_pos (by rw [hfb];exact hlt),hfb]] at hQ
   refine AW.c 1 U4 Tru ?_
   exact AW.ret (hQ _ _ _ (RetP.z hwf U4))
  have hnow:JoR s i:=by simpa [TrS] using h65
  apply AW.z
  apply Ja8
  apply J1
  refine AW.g U4 Tru ?_
  apply Jc2
  have hwi:IntKind.i64.wrap ((i:Int)+1)=(i:Int)+1:=wi (by omega)
  refine ⟨i+1,⟨by omega,fun k hk=>by
    rcases Nat.lt_or_ge k i with h|h
    · exact hok k h
    obtain rfl:k=i:=by omega
    exact hnow⟩,by omega,?_⟩
  try simp only [Jb1,Ja2,push_cast,simprocAttr,U4,hwi]
  first
   | exact Weak.same (by simp only [KS,simprocAttr,hwi]) (by first|rfl|simp only [KS,simprocAttr,hwi])
   | exact Weak.to (extra:=[_]) (by simp only [KS,simprocAttr,hwi]) (by first|rfl|(simp only [List.append_assoc,List.cons_append,List.nil_append];rfl)) (by first|rfl|(simp [AV.below,CV.below];done)|(simp [AV.below,CV.below];omega)) (by
      first|exact hwf|refine MWf.app (hwf.grow (by simp)) ?_
      repeat (first|exact Jb7|(refine Ja0 ?_ ?_;· first|rfl|(simp [CV.below];done)|(simp [CV.below];omega))))
 have hie:i=s.nj:=by have:=of_decide_eq_false h59;omega
 have f3:¬fbN (fun i=>decide (JoR s i)) s.nj<s.nj:=by rw [Ka7 s.nj fun k hk=>decide_eq_true (hok k (by omega))];omega
 apply AW.v
 apply Jb0
 apply Jb0
 apply Ja6
 apply J0
 refine AW.q fun K J0=>?_
 refine AW.c 1 U1 Tru ?_
 refine AW.cond rfl (fun h70=>?_) (fun h70=>?_)
 ·have q4:128<s.nx:=by have:=of_decide_eq_true h70;omega
  rw [show Jh9 s=(25,128) from by unfold Jh9;rw [if_neg hA,if_neg h1,if_neg f1,if_neg h2,if_neg f2,if_neg h3,if_neg f3,if_pos q4]] at hQ
  refine AW.c 1 U1 Tru ?_
  exact AW.ret (hQ _ _ _ (RetP.z hwf U1))
 have h4:¬128<s.nx:=by have:=of_decide_eq_false h70;omega
 apply AW.z
 apply J0
 refine AW.q fun K J0=>?_
 refine AW.c 1 U1 Tru ?_
 apply AW.b
 refine AW.loopK [1] (fun i=>i<=s.nx/\∀ k,k<i->ShR s k) (fun i=>[(7,.one (.int .i64 (i:Int)))]) (fun i=>[]) (fun i=>s.nx - i) 0 ⟨by omega,fun k hk=>by omega⟩ ?_ ?_ fun i hi19=>?_
 · first|rfl|(simp only [KS,simprocAttr,Int.natCast_zero]<;>repeat' (first|rfl|apply And.intro))
 · first|rfl|(simp only [Ja2,push_cast,simprocAttr,U1,Int.natCast_zero]<;>rfl)
 obtain ⟨hin,hok⟩:=hi19
 try simp only [Jb1,Ja2,push_cast,simprocAttr,U1]
 refine AW.q fun K J1=>?_
 refine AW.c 1 U1 Tru ?_
 refine AW.cond rfl (fun h75=>?_) (fun h75=>?_)
 ·have hlt:i<s.nx:=by have:=of_decide_eq_true h75;omega
  have c1:(0:Int)<=(i:Int):=by omega
  have c2:(i:Int)<(s.nx:Int):=by omega
  have c3:i*13+13<=s.nx*13:=by omega
  have ga:=Jc0 (w:=13) (F:=xC s) (fun _=>rfl) hlt
  apply AW.z
  apply J1
  refine AW.q fun K J1=>?_
  apply AW.b
  have U5:=ca4 U1 c1 c2 (ca3 c3 ga hbx)
  refine AW.d [.rd 0,.val,.rd 0,.val,.val,.rd 0,.ext,.val] fol U5 (rsh_c s R i _ hR.nj hR.np) ?_
  refine AW.cond rfl (fun h85=>?_) (fun h85=>?_)
  ·have hno:¬ShR s i:=by simpa [TrS] using h85
   have hfb:fbN (fun i=>decide (ShR s i)) s.nx=i:=Kn8 (fun k hk=>decide_eq_true (hok k hk)) (decide_eq_false hno) _ hlt
   rw [show Jh9 s=(25,((i:Nat):Int)) from by unfold Jh9;rw [if_neg hA,if_neg h1,if_neg f1,if_neg h2,if_neg f2,if_neg h3,if_neg f3,if_neg h4,if_pos (by rw [hfb];exact hlt),hfb]] at hQ
   refine AW.c 1 U5 Tru ?_
   exact AW.ret (hQ _ _ _ (RetP.z hwf U5))
  have hnow:ShR s i:=by simpa [TrS] using h85
  apply AW.z
  apply Ja8
  apply J1
  refine AW.g U5 Tru ?_
  apply Jc2
  have hwi:IntKind.i64.wrap ((i:Int)+1)=(i:Int)+1:=wi (by omega)
  refine ⟨i+1,⟨by omega,fun k hk=>by
    rcases Nat.lt_or_ge k i with h|h
    · exact hok k h
    obtain rfl:k=i:=by omega
    exact hnow⟩,by omega,?_⟩
  try simp only [Jb1,Ja2,push_cast,simprocAttr,U5,hwi]
  first
   | exact Weak.same (by simp only [KS,simprocAttr,hwi]) (by first|rfl|simp only [KS,simprocAttr,hwi])
   | exact Weak.to (extra:=[_]) (by simp only [KS,simprocAttr,hwi]) (by first|rfl|(simp only [List.append_assoc,List.cons_append,List.nil_append];rfl)) (by first|rfl|(simp [AV.below,CV.below];done)|(simp [AV.below,CV.below];omega)) (by
      first|exact hwf|refine MWf.app (hwf.grow (by simp)) ?_
      repeat (first|exact Jb7|(refine Ja0 ?_ ?_;· first|rfl|(simp [CV.below];done)|(simp [CV.below];omega))))
 have hie:i=s.nx:=by have:=of_decide_eq_false h75;omega
 have f4:¬fbN (fun i=>decide (ShR s i)) s.nx<s.nx:=by rw [Ka7 s.nx fun k hk=>decide_eq_true (hok k (by omega))];omega
 apply AW.v
 apply Jb0
 apply Jb0
 apply Ja6
 apply J0
 refine AW.q fun K J0=>?_
 refine AW.c 1 U1 (rle_c s R _ hR.nt) ?_
 refine AW.cond rfl (fun h89=>?_) (fun h89=>?_)
 ·have hL:¬LeR s:=by simpa using h89
  rw [show Jh9 s=(26,0) from by unfold Jh9;rw [if_neg hA,if_neg h1,if_neg f1,if_neg h2,if_neg f2,if_neg h3,if_neg f3,if_neg h4,if_neg f4,if_pos hL]] at hQ
  refine AW.c 1 U1 Tru ?_
  exact AW.ret (hQ _ _ _ (RetP.z hwf U1))
 have hL:¬¬LeR s:=by simpa using h89
 apply AW.z
 apply J0
 refine AW.c 1 U1 (Xq2 s R _ (hR.app _)) ?_
 refine AW.q fun K J0=>?_
 refine AW.c 1 U1 Tru ?_
 refine AW.cond rfl (fun h94=>?_) (fun h94=>?_)
 ·have hM:16<(Jm6 (glB s) s.nx).length:=by have:=of_decide_eq_true h94;omega
  have g16:=Ve2 _ 16 hM
  have c16:(16:Int)<((Jm6 (glB s) s.nx).length:Int):=by omega
  rw [show Jh9 s=(27,(Jm6 (glB s) s.nx).getD 16 0) from by unfold Jh9;rw [if_neg hA,if_neg h1,if_neg f1,if_neg h2,if_neg f2,if_neg h3,if_neg f3,if_neg h4,if_neg f4,if_neg hL,if_pos hM]] at hQ
  have U6:=ca4 U1 g16 c16 hM
  refine AW.d [.val,.val,.rd 0,.val,.val] fol U6 Tru ?_
  exact AW.ret (hQ _ _ _ (RetP.z hwf U6))
 have hM:¬16<(Jm6 (glB s) s.nx).length:=by have:=of_decide_eq_false h94;omega
 rw [show Jh9 s=(0,0) from by unfold Jh9;rw [if_neg hA,if_neg h1,if_neg f1,if_neg h2,if_neg f2,if_neg h3,if_neg f3,if_neg h4,if_neg f4,if_neg hL,if_neg hM]] at hQ
 apply AW.z
 apply J0
 refine AW.c 1 U1 Tru ?_
 exact AW.ret (hQ _ _ _ (RetP.z hwf U1))
def alV (f:Nat->Bool)(n:Nat):Int:=if fbN f n<n then ((fbN f n:Nat):Int) else -1
theorem Vx9 {f:Nat->Bool}{n i:Nat}(h:∀ k,k<i->f k=true)(hi:f i=false)(hn:i<n):alV f n=(i:Int):=by
 have:=Kn8 h hi n hn
 unfold alV;rw [if_pos (by omega),this]
theorem Vg7 {f:Nat->Bool}{n:Nat}(h:∀ k,k<n->f k=true):alV f n=-1:=by
 have:=Ka7 n h
 unfold alV;rw [if_neg (by omega)]
theorem Vg6 (n:Nat)(f:Nat->Bool)(m:Ja1)(hn:n<=1000000000000)(g r:Nat)(hc:∀ k:Nat,k<n->Ctr Tryz.prog g [.one (.int .i64 (k:Int)),.one (.ptr r 0 0)] m (.one (.bool (f k))) m):Ctr Tryz.prog 99 [.one (.int .i64 (n:Int)),.one (.fn g [(r,0,0)])] m (.one (.int .i64 (alV f n))) m:=by
 refine Ctr.en Tryz.func99 [.tmp 4] 16 fun hwf Q hQ=>?_
 refine AW.c 1 Tru Tru ?_
 refine AW.q fun K J0=>?_
 refine AW.c 1 Tru Tru ?_
 apply AW.b
 refine AW.loopK [1,6] (fun i=>i<=n/\∀ k,k<i->f k=true) (fun i=>[(7,.one (.int .i64 (i:Int)))]) (fun i=>[]) (fun i=>n - i) 0 ⟨by omega,fun k hk=>by omega⟩ ?_ ?_ fun i hi2=>?_
 · first|rfl|(simp only [KS,simprocAttr,Int.natCast_zero]<;>repeat' (first|rfl|apply And.intro))
 · first|rfl|(simp only [Ja2,push_cast,simprocAttr,Int.natCast_zero]<;>rfl)
 obtain ⟨hin,hok⟩:=hi2
 try simp only [Jb1,Ja2,push_cast,simprocAttr]
 refine AW.c 1 Tru Tru ?_
 refine AW.q fun K J1=>?_
 refine AW.cond rfl (fun h8=>?_) (fun h8=>?_)
 ·have hlt:i<n:=by have:=of_decide_eq_true h8;omega
  have c1:(0:Int)<=(i:Int):=by omega
  have c2:(i:Int)<(n:Int):=by omega
  apply AW.z
  apply J1
  refine AW.q fun K J1=>?_
  apply AW.b
  have U1:=ca2 c1 c2
  refine AW.c 2 U1 (hc i hlt) ?_
  refine AW.cond rfl (fun h13=>?_) (fun h13=>?_)
  ·have hno:f i=false:=by simpa using h13
   rw [Vx9 hok hno hlt] at hQ
   refine AW.c 1 U1 Tru ?_
   exact AW.ret (hQ _ _ _ (RetP.z hwf U1))
  have hnow:f i=true:=by simpa using h13
  apply AW.z
  apply Ja8
  apply J1
  refine AW.g U1 Tru ?_
  apply Jc2
  have hwi:IntKind.i64.wrap ((i:Int)+1)=(i:Int)+1:=wi (by omega)
  refine ⟨i+1,⟨by omega,fun k hk=>by
    rcases Nat.lt_or_ge k i with h|h
    · exact hok k h
    obtain rfl:k=i:=by omega
    exact hnow⟩,by omega,?_⟩
  try simp only [Jb1,Ja2,push_cast,simprocAttr,U1,hwi]
  exact Weak.same (by simp only [KS,simprocAttr,hwi]) (by first|rfl|simp only [KS,simprocAttr,hwi])
 have hie:i=n:=by have:=of_decide_eq_false h8;omega
 rw [Vg7 fun k hk=>hok k (by omega)] at hQ
 apply AW.v
 apply Jb0
 apply Jb0
 apply Ja6
 apply J0
 refine AW.c 1 Tru Tru ?_
 exact AW.ret (hQ _ _ _ (RetP.z hwf Tru))
theorem Xx8 (n:Nat)(f:Nat->Bool)(m:Ja1)(hn:n<=1000000000000)(g:Nat)(cs:List SV)(hc:∀ k:Nat,k<n->Ctr Tryz.prog g [.agg (cs.map SV.cv),.one (.int .i64 (k:Int))] m (.one (.bool (f k))) m):Ctr Tryz.prog 99 [.one (.int .i64 (n:Int)),.one (.bm g cs)] m (.one (.int .i64 (alV f n))) m:=by
 refine Ctr.en Tryz.func99 [.tmp 4] 16 fun hwf Q hQ=>?_
 refine AW.c 1 Tru Tru ?_
 refine AW.q fun K J0=>?_
 refine AW.c 1 Tru Tru ?_
 apply AW.b
 refine AW.loopK [1,6] (fun i=>i<=n/\∀ k,k<i->f k=true) (fun i=>[(7,.one (.int .i64 (i:Int)))]) (fun i=>[]) (fun i=>n - i) 0 ⟨by omega,fun k hk=>by omega⟩ ?_ ?_ fun i hi2=>?_
 · first|rfl|(simp only [KS,simprocAttr,Int.natCast_zero]<;>repeat' (first|rfl|apply And.intro))
 · first|rfl|(simp only [Ja2,push_cast,simprocAttr,Int.natCast_zero]<;>rfl)
 obtain ⟨hin,hok⟩:=hi2
 try simp only [Jb1,Ja2,push_cast,simprocAttr]
 refine AW.c 1 Tru Tru ?_
 refine AW.q fun K J1=>?_
 refine AW.cond rfl (fun h8=>?_) (fun h8=>?_)
 ·have hlt:i<n:=by have:=of_decide_eq_true h8;omega
  have c1:(0:Int)<=(i:Int):=by omega
  have c2:(i:Int)<(n:Int):=by omega
  apply AW.z
  apply J1
  refine AW.q fun K J1=>?_
  apply AW.b
  have U2:=ca2 c1 c2
  refine AW.c 2 U2 (hc i hlt) ?_
  refine AW.cond rfl (fun h13=>?_) (fun h13=>?_)
  ·have hno:f i=false:=by simpa using h13
   rw [Vx9 hok hno hlt] at hQ
   refine AW.c 1 U2 Tru ?_
   exact AW.ret (hQ _ _ _ (RetP.z hwf U2))
  have hnow:f i=true:=by simpa using h13
  apply AW.z
  apply Ja8
  apply J1
  refine AW.g U2 Tru ?_
  apply Jc2
  have hwi:IntKind.i64.wrap ((i:Int)+1)=(i:Int)+1:=wi (by omega)
  refine ⟨i+1,⟨by omega,fun k hk=>by
    rcases Nat.lt_or_ge k i with h|h
    · exact hok k h
    obtain rfl:k=i:=by omega
    exact hnow⟩,by omega,?_⟩
  try simp only [Jb1,Ja2,push_cast,simprocAttr,U2,hwi]
  exact Weak.same (by simp only [KS,simprocAttr,hwi]) (by first|rfl|simp only [KS,simprocAttr,hwi])
 have hie:i=n:=by have:=of_decide_eq_false h8;omega
 rw [Vg7 fun k hk=>hok k (by omega)] at hQ
 apply AW.v
 apply Jb0
 apply Jb0
 apply Ja6
 apply J0
 refine AW.c 1 Tru Tru ?_
 exact AW.ret (hQ _ _ _ (RetP.z hwf Tru))
theorem Xv5 (s:SC)(R:RWs)(b i:Nat)(m:Ja1)(hR:ScR 140 119 223 148 155 m s R)(hb:m[b]?=some ⟨.fix,52,0,0,scC s R⟩)(hi:i<s.np):Ctr Tryz.prog 92 [.one (.int .i64 (i:Int)),.one (.ptr b 0 0)] m (.one (.bool (decide (PaR s i)))) m:=by
 refine Ctr.en Tryz.func92 [.tmp 3] 10 fun hwf Q hQ=>?_
 have lb:=Jb2 hb
 obtain ⟨kr,er,hr⟩:=hR.hp
 have lr:=Jb2 hr
 have hn:=hR.np
 have hb2:m[b]?=some ⟨.fix,52,0,0,[.int .i64 s.w,.int .i64 s.h,.int .i64 s.sm,.int .i64 s.dp,.int .i64 s.fr,.int .i64 s.sh,.int .u64 s.sd,.int .i64 (s.sk 0),.int .i64 (s.sk 1),.int .i64 (s.sk 2),.int .i64 s.ey,.int .i64 s.lk,.int .i64 s.wd,.sl R.p R.vp 0 s.np,.sl R.t R.vt 0 s.nt,.sl R.j R.vj 0 s.nj,.sl R.x R.vx 0 s.nx]⟩:=hb
 have rl:(Jb6 s.np (pC s)).length=s.np*5:=Ja9 (w:=5) (F:=pC s) (fun _=>rfl) _
 have hlt:i<s.np:=hi
 have c1:(0:Int)<=(i:Int):=by omega
 have c2:(i:Int)<(s.np:Int):=by omega
 have c3:i*5+5<=s.np*5:=by omega
 have ga:=Jc0 (w:=5) (F:=pC s) (fun _=>rfl) hlt
 have gp:=Kc8 s i
 have U3:=ca4 hb2 (Ja5 hb2) hr (ca4 (Ja5 hr) rl c1 (ca4 c2 c3 ga (ca2 hlt gp)))
 refine AW.c 2 U3 (cpa_c s i) ?_
 exact AW.ret (hQ _ _ _ (RetP.z hwf U3))
theorem Xv4 (s:SC)(R:RWs)(b i:Nat)(m:Ja1)(hR:ScR 140 119 223 148 155 m s R)(hb:m[b]?=some ⟨.fix,52,0,0,scC s R⟩)(hi:i<s.nt):Ctr Tryz.prog 94 [.one (.int .i64 (i:Int)),.one (.ptr b 0 0)] m (.one (.bool (decide (TrS s i)))) m:=by
 refine Ctr.en Tryz.func94 [.tmp 3] 10 fun hwf Q hQ=>?_
 have lb:=Jb2 hb
 obtain ⟨kr,er,hr⟩:=hR.ht
 have lr:=Jb2 hr
 have hn:=hR.nt
 have hb2:m[b]?=some ⟨.fix,52,0,0,[.int .i64 s.w,.int .i64 s.h,.int .i64 s.sm,.int .i64 s.dp,.int .i64 s.fr,.int .i64 s.sh,.int .u64 s.sd,.int .i64 (s.sk 0),.int .i64 (s.sk 1),.int .i64 (s.sk 2),.int .i64 s.ey,.int .i64 s.lk,.int .i64 s.wd,.sl R.p R.vp 0 s.np,.sl R.t R.vt 0 s.nt,.sl R.j R.vj 0 s.nj,.sl R.x R.vx 0 s.nx]⟩:=hb
 have rl:(Jb6 s.nt (tC s R)).length=s.nt*2:=Ja9 (w:=2) (F:=tC s R) (fun _=>rfl) _
 have hlt:i<s.nt:=hi
 have c1:(0:Int)<=(i:Int):=by omega
 have c2:(i:Int)<(s.nt:Int):=by omega
 have c3:i*2+2<=s.nt*2:=by omega
 have ga:=Jc0 (w:=2) (F:=tC s R) (fun _=>rfl) hlt
 obtain ⟨kk,ek,hky⟩:=hR.hk i hi
 have lky:=Jb2 hky
 have gp:=Vj3 s R i
 have gd:decide (TrS s i)=decide (TrR (s.tw i) (s.kn i) (s.kt i) (s.kv i)):=rfl
 rw [gd] at hQ
 have U4:=ca4 hb2 (Ja5 hb2) hr (ca4 (Ja5 hr) rl c1 (ca4 c2 c3 ga (ca2 hlt gp)))
 refine AW.c 2 U4 (Ks7 (s.tw i) (R.k i) (R.vk i) (s.kn i) (s.kt i) (s.kv i) _ ⟨kk,ek,hky⟩) ?_
 exact AW.ret (hQ _ _ _ (RetP.z hwf U4))
theorem Xv3 (s:SC)(R:RWs)(b i:Nat)(m:Ja1)(hR:ScR 140 119 223 148 155 m s R)(hb:m[b]?=some ⟨.fix,52,0,0,scC s R⟩)(hi:i<s.nx):Ctr Tryz.prog 97 [.one (.int .i64 (i:Int)),.one (.ptr b 0 0)] m (.one (.bool (decide (ShR s i)))) m:=by
 refine Ctr.en Tryz.func97 [.tmp 3] 11 fun hwf Q hQ=>?_
 have lb:=Jb2 hb
 obtain ⟨kr,er,hr⟩:=hR.hx
 have lr:=Jb2 hr
 have hn:=hR.nx
 have hb2:m[b]?=some ⟨.fix,52,0,0,[.int .i64 s.w,.int .i64 s.h,.int .i64 s.sm,.int .i64 s.dp,.int .i64 s.fr,.int .i64 s.sh,.int .u64 s.sd,.int .i64 (s.sk 0),.int .i64 (s.sk 1),.int .i64 (s.sk 2),.int .i64 s.ey,.int .i64 s.lk,.int .i64 s.wd,.sl R.p R.vp 0 s.np,.sl R.t R.vt 0 s.nt,.sl R.j R.vj 0 s.nj,.sl R.x R.vx 0 s.nx]⟩:=hb
 have rl:(Jb6 s.nx (xC s)).length=s.nx*13:=Ja9 (w:=13) (F:=xC s) (fun _=>rfl) _
 have hlt:i<s.nx:=hi
 have c1:(0:Int)<=(i:Int):=by omega
 have c2:(i:Int)<(s.nx:Int):=by omega
 have c3:i*13+13<=s.nx*13:=by omega
 have ga:=Jc0 (w:=13) (F:=xC s) (fun _=>rfl) hlt
 have gp:=Ke0 s i
 have U5:=ca4 hb2 (Ja5 hb2) hr (ca4 (Ja5 hr) rl c1 (ca4 c2 c3 ga (ca2 hlt gp)))
 refine AW.c 1 U5 Tru ?_
 refine AW.d [.rd 0,.val,.rd 0,.val,.val,.rd 0,.ext,.val] fol U5 (csh_c s R i _ hR.nj hR.np) ?_
 exact AW.ret (hQ _ _ _ (RetP.z hwf U5))
theorem Qo1 (s:SC)(R:RWs)(m:Ja1)(hR:ScR 140 119 223 148 155 m s R):Ctr Tryz.prog 35 [.agg (scC s R)] m (.tup [(false,[.int .i64 (Jh9 s).1]),(false,[.int .i64 (Jh9 s).2])]) m:=by
 refine Ctr.en Tryz.func35 [.tmp 2,.tmp 3] 71 fun hwf Q hQ=>?_
 obtain ⟨kp,ep,hp⟩:=hR.hp
 have lp:=Jb2 hp
 obtain ⟨kt,et,ht⟩:=hR.ht
 have lt:=Jb2 ht
 obtain ⟨kj,ej,hj⟩:=hR.hj
 have lj:=Jb2 hj
 obtain ⟨kx,ex,hx⟩:=hR.hx
 have lx:=Jb2 hx
 have np:=hR.np
 have nt:=hR.nt
 have nj:=hR.nj
 have nx:=hR.nx
 have pl:(Jb6 s.np (pC s)).length=s.np*5:=Ja9 (w:=5) (F:=pC s) (fun _=>rfl) _
 have tl:(Jb6 s.nt (tC s R)).length=s.nt*2:=Ja9 (w:=2) (F:=tC s R) (fun _=>rfl) _
 have jl:(Jb6 s.nj (jC s)).length=s.nj*4:=Ja9 (w:=4) (F:=jC s) (fun _=>rfl) _
 have xl:(Jb6 s.nx (xC s)).length=s.nx*13:=Ja9 (w:=13) (F:=xC s) (fun _=>rfl) _
 have hlt0:∀ k,¬m.length+k<m.length:=fun k=>by omega
 have hbox:∀ i,pC s i=[.int .i64 (s.pk i),.int .i64 (s.pc i 0),.int .i64 (s.pc i 1),.int .i64 (s.pc i 2),.int .i64 (s.pr i)]:=fun _=>rfl
 have hbt:∀ i,tC s R i=[.int .i64 (s.tw i),.sl (R.k i) (R.vk i) 0 (s.kn i)]:=fun _=>rfl
 have hbx:∀ i,xC s i=[.int .i64 (s.xj i),.int .i64 (s.xp i),.int .i64 (s.xk i),.int .i64 (s.xv i 0 0),.int .i64 (s.xv i 0 1),.int .i64 (s.xv i 0 2),.int .i64 (s.xv i 1 0),.int .i64 (s.xv i 1 1),.int .i64 (s.xv i 1 2),.int .i64 (s.xv i 2 0),.int .i64 (s.xv i 2 1),.int .i64 (s.xv i 2 2),.int .i64 (s.xr i)]:=fun _=>rfl
 have ill:=fun l=>Kn4 l
 have U1:=ca4 ill @Jf4 @Je7 (ca2 @Jf3 @Ja4)
 refine AW.c 1 U1 Tru ?_
 refine AW.q fun K J0=>?_
 refine AW.c 1 U1 (chd_c s) ?_
 refine AW.cond rfl (fun h10=>?_) (fun h10=>?_)
 ·have hA:¬HdR s:=by simpa using h10
  rw [show Jh9 s=(21,0) from by unfold Jh9;rw [if_pos hA]] at hQ
  refine AW.c 1 U1 Tru ?_
  exact AW.ret (hQ _ _ _ (RetP.z hwf U1))
 have hA:¬¬HdR s:=by simpa using h10
 apply AW.z
 apply J0
 refine AW.q fun K J0=>?_
 refine AW.c 1 U1 Tru ?_
 apply AW.b
 refine AW.r 5 ?_
 refine ARounds.s fun K J1=>?_
 refine AW.c 1 U1 Tru ?_
 refine AW.ifT rfl ?_
 refine AW.q fun K J2=>?_
 apply AW.b
 refine AW.c 1 U1 Tru ?_
 refine AW.q fun K J3=>?_
 refine AW.c 1 U1 Tru ?_
 refine AW.cond rfl (fun h42=>?_) (fun h42=>?_)
 ·have q1:32<s.np:=by have:=of_decide_eq_true h42;omega
  rw [show Jh9 s=(22,32) from by unfold Jh9;rw [if_neg hA,if_pos q1]] at hQ
  refine AW.d [.val,.rd 0,.val,.rd 0,.val,.val] fol U1 Tru ?_
  exact AW.ret (hQ _ _ _ (RetP.z hwf U1))
 have h1:¬32<s.np:=by have:=of_decide_eq_false h42;omega
 apply AW.z
 apply J3
 refine AW.sr 2 fun K J3=>?_
 simp only [push_cast,simprocAttr,U1]
 refine CThen.by (Vg6 s.np (fun i=>decide (PaR s i)) _ hR.np _ _ (fun k hk=>Xv5 s R m.length k _ (hR.app _) (by rw [Jn4];rfl) hk)) ?_
 simp only [push_cast,simprocAttr,U1]
 apply J3
 refine AW.cond rfl (fun h53=>?_) (fun h53=>?_)
 ·have hneg:=of_decide_eq_true h53
  have hlt:fbN (fun i=>decide (PaR s i)) s.np<s.np:=by
    rcases Nat.lt_or_ge (fbN (fun i=>decide (PaR s i)) s.np) s.np with h|h
    · exact h
    exfalso;unfold alV at hneg;rw [if_neg (by omega)] at hneg;omega
  have hal:alV (fun i=>decide (PaR s i)) s.np=((fbN (fun i=>decide (PaR s i)) s.np:Nat):Int):=by unfold alV;rw [if_pos hlt]
  rw [show Jh9 s=(22,alV (fun i=>decide (PaR s i)) s.np) from by unfold Jh9;rw [if_neg hA,if_neg h1,if_pos hlt,hal]] at hQ
  refine AW.c 1 U1 Tru ?_
  exact AW.ret (hQ _ _ _ (RetP.z hwf U1))
 have hneg:=of_decide_eq_false h53
 have f1:¬fbN (fun i=>decide (PaR s i)) s.np<s.np:=fun h=>by
   unfold alV at hneg;rw [if_pos h] at hneg;omega
 apply AW.z
 apply Ja8
 apply J2
 refine AW.g U1 Tru ?_
 apply J1
 refine ARounds.s fun K J1=>?_
 refine AW.c 1 U1 Tru ?_
 refine AW.ifT rfl ?_
 refine AW.q fun K J2=>?_
 apply AW.b
 refine AW.c 1 U1 Tru ?_
 refine AW.q fun K J3=>?_
 refine AW.c 1 U1 Tru ?_
 refine AW.cond rfl (fun h42=>?_) (fun h42=>?_)
 ·have q2:32<s.nt:=by have:=of_decide_eq_true h42;omega
  rw [show Jh9 s=(23,32) from by unfold Jh9;rw [if_neg hA,if_neg h1,if_neg f1,if_pos q2]] at hQ
  refine AW.d [.val,.rd 0,.val,.rd 0,.val,.val] fol U1 Tru ?_
  exact AW.ret (hQ _ _ _ (RetP.z hwf U1))
 have h2:¬32<s.nt:=by have:=of_decide_eq_false h42;omega
 apply AW.z
 apply J3
 refine AW.sr 2 fun K J3=>?_
 simp only [push_cast,simprocAttr,U1]
 refine CThen.by (Vg6 s.nt (fun i=>decide (TrS s i)) _ hR.nt _ _ (fun k hk=>Xv4 s R m.length k _ (hR.app _) (by rw [Jn4];rfl) hk)) ?_
 simp only [push_cast,simprocAttr,U1]
 apply J3
 refine AW.cond rfl (fun h53=>?_) (fun h53=>?_)
 ·have hneg:=of_decide_eq_true h53
  have hlt:fbN (fun i=>decide (TrS s i)) s.nt<s.nt:=by
    rcases Nat.lt_or_ge (fbN (fun i=>decide (TrS s i)) s.nt) s.nt with h|h
    · exact h
    exfalso;unfold alV at hneg;rw [if_neg (by omega)] at hneg;omega
  have hal:alV (fun i=>decide (TrS s i)) s.nt=((fbN (fun i=>decide (TrS s i)) s.nt:Nat):Int):=by unfold alV;rw [if_pos hlt]
  rw [show Jh9 s=(23,alV (fun i=>decide (TrS s i)) s.nt) from by unfold Jh9;rw [if_neg hA,if_neg h1,if_neg f1,if_neg h2,if_pos hlt,hal]] at hQ
  refine AW.c 1 U1 Tru ?_
  exact AW.ret (hQ _ _ _ (RetP.z hwf U1))
 have hneg:=of_decide_eq_false h53
 have f2:¬fbN (fun i=>decide (TrS s i)) s.nt<s.nt:=fun h=>by
   unfold alV at hneg;rw [if_pos h] at hneg;omega
 apply AW.z
 apply Ja8
 apply J2
 refine AW.g U1 Tru ?_
 apply J1
 refine ARounds.s fun K J1=>?_
 refine AW.c 1 U1 Tru ?_
 refine AW.ifT rfl ?_
 refine AW.q fun K J2=>?_
 apply AW.b
 refine AW.c 1 U1 Tru ?_
 refine AW.q fun K J3=>?_
 refine AW.c 1 U1 Tru ?_
 refine AW.cond rfl (fun h42=>?_) (fun h42=>?_)
 ·have q3:32<s.nj:=by have:=of_decide_eq_true h42;omega
  rw [show Jh9 s=(24,32) from by unfold Jh9;rw [if_neg hA,if_neg h1,if_neg f1,if_neg h2,if_neg f2,if_pos q3]] at hQ
  refine AW.d [.val,.rd 0,.val,.rd 0,.val,.val] fol U1 Tru ?_
  exact AW.ret (hQ _ _ _ (RetP.z hwf U1))
 have h3:¬32<s.nj:=by have:=of_decide_eq_false h42;omega
 apply AW.z
 apply J3
 refine AW.sr 2 fun K J3=>?_
 simp only [push_cast,simprocAttr,U1]
 refine CThen.by (Xx8 s.nj (fun i=>decide (JoR s i)) _ hR.nj _ _ (fun k hk=>cjo_c s R k _ hR.nt (by obtain ⟨k,e,h⟩:=hR.hj;exact ⟨k,e,Ja5 h _⟩) hk hR.nj)) ?_
 simp only [push_cast,simprocAttr,U1]
 apply J3
 refine AW.cond rfl (fun h53=>?_) (fun h53=>?_)
 ·have hneg:=of_decide_eq_true h53
  have hlt:fbN (fun i=>decide (JoR s i)) s.nj<s.nj:=by
    rcases Nat.lt_or_ge (fbN (fun i=>decide (JoR s i)) s.nj) s.nj with h|h
    · exact h
    exfalso;unfold alV at hneg;rw [if_neg (by omega)] at hneg;omega
  have hal:alV (fun i=>decide (JoR s i)) s.nj=((fbN (fun i=>decide (JoR s i)) s.nj:Nat):Int):=by unfold alV;rw [if_pos hlt]
  rw [show Jh9 s=(24,alV (fun i=>decide (JoR s i)) s.nj) from by unfold Jh9;rw [if_neg hA,if_neg h1,if_neg f1,if_neg h2,if_neg f2,if_neg h3,if_pos hlt,hal]] at hQ
  refine AW.c 1 U1 Tru ?_
  exact AW.ret (hQ _ _ _ (RetP.z hwf U1))
 have hneg:=of_decide_eq_false h53
 have f3:¬fbN (fun i=>decide (JoR s i)) s.nj<s.nj:=fun h=>by
   unfold alV at hneg;rw [if_pos h] at hneg;omega
 apply AW.z
 apply Ja8
 apply J2
 refine AW.g U1 Tru ?_
 apply J1
 refine ARounds.s fun K J1=>?_
 refine AW.c 1 U1 Tru ?_
 refine AW.ifT rfl ?_
 refine AW.q fun K J2=>?_
 apply AW.b
 refine AW.c 1 U1 Tru ?_
 refine AW.q fun K J3=>?_
 refine AW.c 1 U1 Tru ?_
 refine AW.cond rfl (fun h42=>?_) (fun h42=>?_)
 ·have q4:128<s.nx:=by have:=of_decide_eq_true h42;omega
  rw [show Jh9 s=(25,128) from by unfold Jh9;rw [if_neg hA,if_neg h1,if_neg f1,if_neg h2,if_neg f2,if_neg h3,if_neg f3,if_pos q4]] at hQ
  refine AW.d [.val,.rd 0,.val,.rd 0,.val,.val] fol U1 Tru ?_
  exact AW.ret (hQ _ _ _ (RetP.z hwf U1))
 have h4:¬128<s.nx:=by have:=of_decide_eq_false h42;omega
 apply AW.z
 apply J3
 refine AW.sr 2 fun K J3=>?_
 simp only [push_cast,simprocAttr,U1]
 refine CThen.by (Vg6 s.nx (fun i=>decide (ShR s i)) _ hR.nx _ _ (fun k hk=>Xv3 s R m.length k _ (hR.app _) (by rw [Jn4];rfl) hk)) ?_
 simp only [push_cast,simprocAttr,U1]
 apply J3
 refine AW.cond rfl (fun h53=>?_) (fun h53=>?_)
 ·have hneg:=of_decide_eq_true h53
  have hlt:fbN (fun i=>decide (ShR s i)) s.nx<s.nx:=by
    rcases Nat.lt_or_ge (fbN (fun i=>decide (ShR s i)) s.nx) s.nx with h|h
    · exact h
    exfalso;unfold alV at hneg;rw [if_neg (by omega)] at hneg;omega
  have hal:alV (fun i=>decide (ShR s i)) s.nx=((fbN (fun i=>decide (ShR s i)) s.nx:Nat):Int):=by unfold alV;rw [if_pos hlt]
  rw [show Jh9 s=(25,alV (fun i=>decide (ShR s i)) s.nx) from by unfold Jh9;rw [if_neg hA,if_neg h1,if_neg f1,if_neg h2,if_neg f2,if_neg h3,if_neg f3,if_neg h4,if_pos hlt,hal]] at hQ
  refine AW.c 1 U1 Tru ?_
  exact AW.ret (hQ _ _ _ (RetP.z hwf U1))
 have hneg:=of_decide_eq_false h53
 have f4:¬fbN (fun i=>decide (ShR s i)) s.nx<s.nx:=fun h=>by
   unfold alV at hneg;rw [if_pos h] at hneg;omega
 apply AW.z
 apply Ja8
 apply J2
 refine AW.g U1 Tru ?_
 apply J1
 refine ARounds.s fun K J1=>?_
 refine AW.c 1 U1 Tru ?_
 refine AW.q fun K J2=>?_
 apply AW.x rfl
 apply AW.v
 apply Jb0
 apply Jb0
 apply Ja6
 apply J0
 refine AW.q fun K J0=>?_
 apply AW.b
 refine AW.c 1 U1 (cle_c s R _ hR.nt) ?_
 refine AW.cond rfl (fun h58=>?_) (fun h58=>?_)
 ·have hL:¬LeR s:=by simpa using h58
  rw [show Jh9 s=(26,0) from by unfold Jh9;rw [if_neg hA,if_neg h1,if_neg f1,if_neg h2,if_neg f2,if_neg h3,if_neg f3,if_neg h4,if_neg f4,if_pos hL]] at hQ
  refine AW.c 1 U1 Tru ?_
  exact AW.ret (hQ _ _ _ (RetP.z hwf U1))
 have hL:¬¬LeR s:=by simpa using h58
 refine AW.c 1 U1 (Vt3 s R _ (hR.app _)) ?_
 refine AW.cond rfl (fun h62=>?_) (fun h62=>?_)
 ·have hM:16<(Jm6 (glB s) s.nx).length:=by have:=of_decide_eq_true h62;omega
  have g16:=Ve2 _ 16 hM
  have c16:(16:Int)<((Jm6 (glB s) s.nx).length:Int):=by omega
  rw [show Jh9 s=(27,(Jm6 (glB s) s.nx).getD 16 0) from by unfold Jh9;rw [if_neg hA,if_neg h1,if_neg f1,if_neg h2,if_neg f2,if_neg h3,if_neg f3,if_neg h4,if_neg f4,if_neg hL,if_pos hM]] at hQ
  have U2:=ca4 U1 g16 c16 hM
  refine AW.d [.rd 0,.ext,.val,.rd 1,.val,.val] fol U2 (Vt3 s R _ (hR.app _)) ?_
  exact AW.ret (hQ _ _ _ (RetP.z hwf U2))
 have hM:¬16<(Jm6 (glB s) s.nx).length:=by have:=of_decide_eq_false h62;omega
 rw [show Jh9 s=(0,0) from by unfold Jh9;rw [if_neg hA,if_neg h1,if_neg f1,if_neg h2,if_neg f2,if_neg h3,if_neg f3,if_neg h4,if_neg f4,if_neg hL,if_neg hM]] at hQ
 apply AW.z
 apply Ja8
 apply J0
 refine AW.c 1 U1 Tru ?_
 exact AW.ret (hQ _ _ _ (RetP.z hwf U1))
theorem Qh7 (f:Nat->Int)(m:Ja1):Ctr Tryz.prog 44 [.agg (c3C f)] m (.agg (c3C f)) m:=by
 refine Ctr.en Tryz.func44 [.cell 2 59] 10 fun hwf Q hQ=>?_
 refine AW.c 2 @Ja4 Tru ?_
 exact AW.ret (hQ _ _ _ (RetP.z hwf @Ja4))
theorem Vv2 (f:Nat->Int)(m:Ja1):Ctr Tryz.prog 42 [.agg (c3C f)] m (.agg (c3C f)) m:=by
 refine Ctr.en Tryz.func42 [.cell 2 42] 10 fun hwf Q hQ=>?_
 refine AW.c 2 @Ja4 Tru ?_
 exact AW.ret (hQ _ _ _ (RetP.z hwf @Ja4))
theorem Vq2 (T:Nat->Int)(V:Nat->Nat->Int)(n:Nat):(Jb6 n (keC T V)).all CV.isVal=true:=Jc1 _ (fun _=>rfl) n
theorem Kn2 (T:Nat->Int)(V:Nat->Nat->Int)(L n:Nat):(Jb6 n (keC T V)).all (CV.below L)=true:=Jc1 _ (fun _=>rfl) n
theorem Xs9 (r v n:Nat)(T:Nat->Int)(V:Nat->Nat->Int)(m:Ja1)(hr:∃ k e,m[r]?=some ⟨k,285,v,e,Jb6 n (keC T V)⟩)(hn:n<=1000000000000):Ctr Tryz.prog 111 [.one (.sl r v 0 n)] m (.one (.sl m.length 0 0 n)) (m++[⟨.grow,223,0,4,Jb6 n (keC T V)⟩]):=by
 refine Ctr.en Tryz.func111 [.tmp 2] 23 fun hwf Q hQ=>?_
 obtain ⟨kk,ek,hr⟩:=hr
 have lr:=Jb2 hr
 have gl:(Jb6 n (keC T V)).length=n*4:=Ja9 (w:=4) (F:=keC T V) (fun _=>rfl) n
 have hlt0:∀ k,¬m.length+k<m.length:=fun k=>by omega
 have U1:=ca4 hr (Ja5 hr) gl @Vq2
 refine AW.c 2 U1 Tru ?_
 refine AW.q fun K J0=>?_
 refine AW.c 1 U1 Tru ?_
 apply AW.b
 refine AW.nilTm 223 4 3 rfl ?_
 try simp only [push_cast,simprocAttr,U1]
 refine AW.loopK [6,7] (fun i=>i<=n) (fun i=>[(3,.one (.sl m.length i 0 i)),(8,.one (.int .i64 (i:Int)))]) (fun i=>[(m.length,⟨.grow,223,i,4,Jb6 i (keC T V)⟩)]) (fun i=>n - i) 0 (by omega) ?_ ?_ fun i hi2=>?_
 · first|rfl|(simp only [KS,simprocAttr,Jb6,Int.natCast_zero]<;>repeat' (first|rfl|apply And.intro))
 · simp only [Ja2,push_cast,simprocAttr,Jb6]<;>rfl
 try simp only [Jb1,Ja2,push_cast,simprocAttr,U1]
 refine AW.c 1 U1 Tru ?_
 refine AW.q fun K J1=>?_
 refine AW.cond rfl (fun h9=>?_) (fun h9=>?_)
 ·have hlt:i<n:=by have:=of_decide_eq_true h9;omega
  have c1:(0:Int)<=(i:Int):=by omega
  have c2:(i:Int)<(n:Int):=by omega
  have c3:i*4+4<=n*4:=by omega
  have ga:=Jc0 (w:=4) (F:=keC T V) (fun _=>rfl) hlt
  have gk:=Jr8 T V i
  have gv:c3C (V i)=[.int .i64 (V i 0),.int .i64 (V i 1),.int .i64 (V i 2)]:=rfl
  have gli:(Jb6 i (keC T V)).length=i*4:=Ja9 (w:=4) (F:=keC T V) (fun _=>rfl) i
  have q1:i<=140737488355327:=by omega
  have q2:(i+1)*32<=140737488355328:=by omega
  have hap:Jb6 i (keC T V)++[.int .i64 (T i),.int .i64 (V i 0),.int .i64 (V i 1),.int .i64 (V i 2)]=Jb6 (i+1) (keC T V):=rfl
  apply AW.z
  apply J1
  refine AW.q fun K J1=>?_
  apply AW.b
  have U2:=ca4 U1 c1 c2 (ca4 c3 ga gk (ca4 gli q1 q2 hlt))
  refine AW.c 1 U2 Tru ?_
  have q_1:=fun M=>Qh7 (V i) M
  rw [gv] at q_1
  refine AW.e [.val,.val,.rd 0,.val,.rd 0,.ext,.val,.ext,.wr,.val] fol U2 q_1 ?_
  apply Ja8
  apply J1
  refine AW.g U2 Tru ?_
  apply Jc2
  have hwi:IntKind.i64.wrap ((i:Int)+1)=(i:Int)+1:=wi (by omega)
  refine ⟨i+1,by omega,by omega,?_⟩
  try simp only [Jb1,Ja2,push_cast,simprocAttr,U2,hwi,hap]
  exact Weak.to (extra:=[_,_]) (by simp only [KS,simprocAttr,hwi,hap]) (by first|rfl|(simp only [List.append_assoc,List.cons_append,List.nil_append];rfl)) (by first|rfl|(simp [AV.below,CV.below];done)|(simp [AV.below,CV.below];omega)) (by first|exact hwf|exact MWf.app (hwf.grow (by simp)) (Ja0 (Kn2 _ _ _ _) Jb7))
 have hin:i=n:=by have:=of_decide_eq_false h9;omega
 rw [hin]
 apply AW.v
 apply Jb0
 apply Jb0
 apply Ja6
 apply J0
 refine AW.c 1 U1 Tru ?_
 refine AW.ret ?_
 refine hQ _ _ _ ?_
 refine RetP.pick [(m.length,n)] (by first|exact Or.inr rfl|exact Or.inl rfl) ?_ ?_ ?_ hwf ?_
 · simp only [Jd0,Ja7,Jb5,AV.tv,push_cast,simprocAttr]
   simp [Kq2,Ku7,Ke8,Jw2,Ji8,hlt0]
 · simp only [Jp9,push_cast,simprocAttr]
 · simp [Jd1]
 exact Ja0 (Kn2 _ _ _ _) Jb7
theorem Xo0 (w:Int)(r v n:Nat)(T:Nat->Int)(V:Nat->Nat->Int)(m:Ja1)(hr:∃ k e,m[r]?=some ⟨k,285,v,e,Jb6 n (keC T V)⟩)(hn:n<=1000000000000):Ctr Tryz.prog 43 [.agg [.int .i64 w,.sl r v 0 n]] m (.agg [.int .i64 w,.sl m.length 0 0 n]) (m++[⟨.grow,223,0,4,Jb6 n (keC T V)⟩]):=by
 refine Ctr.en Tryz.func43 [.cell 2 119] 9 fun hwf Q hQ=>?_
 obtain ⟨kk,ek,hr⟩:=hr
 have lr:=Jb2 hr
 have gl:(Jb6 n (keC T V)).length=n*4:=Ja9 (w:=4) (F:=keC T V) (fun _=>rfl) n
 have hlt0:∀ k,¬m.length+k<m.length:=fun k=>by omega
 have U3:=ca3 hr (Ja5 hr) gl
 refine AW.c 1 U3 Tru ?_
 refine AW.d [.val,.rd 0,.val,.rd 0,.ext,.val,.wr] fol U3 (Xs9 r v n T V _ ⟨kk,ek,Ja5 hr _⟩ hn) ?_
 refine AW.ret ?_
 refine hQ _ _ _ ?_
 refine RetP.pick [(m.length+2,0)] (by first|exact Or.inr rfl|exact Or.inl rfl) ?_ ?_ ?_ hwf ?_
 · simp only [Jd0,Ja7,Jb5,AV.tv,push_cast,simprocAttr]
   simp [Kq2,Ku7,Ke8,Jw2,Ji8,hlt0]
 · simp only [Jp9,push_cast,simprocAttr]
 · simp [Jd1]
 exact Ja0 (Kn2 _ _ _ _) Jb7
def SmR (s:SC):Prop:=(∀ i,i<s.nt->s.kn i<=40)/\s.np<=60/\s.nt<=60/\s.nj<=60/\s.nx<=200
instance (s:SC):Decidable (SmR s):=by unfold SmR;exact inferInstance
theorem Qq4 (s:SC)(R:RWs)(m:Ja1)(hR:ScR 138 143 285 146 150 m s R):Ctr Tryz.prog 17 [.agg (scC s R)] m (.one (.bool (decide (SmR s)))) m:=by
 refine Ctr.en Tryz.func17 [.tmp 2] 39 fun hwf Q hQ=>?_
 obtain ⟨kp,ep,hp⟩:=hR.hp
 have lp:=Jb2 hp
 obtain ⟨kt,et,ht⟩:=hR.ht
 have lt:=Jb2 ht
 obtain ⟨kj,ej,hj⟩:=hR.hj
 have lj:=Jb2 hj
 obtain ⟨kx,ex,hx⟩:=hR.hx
 have lx:=Jb2 hx
 have np:=hR.np
 have nt:=hR.nt
 have nj:=hR.nj
 have nx:=hR.nx
 have pl:(Jb6 s.np (pC s)).length=s.np*5:=Ja9 (w:=5) (F:=pC s) (fun _=>rfl) _
 have tl:(Jb6 s.nt (tC s R)).length=s.nt*2:=Ja9 (w:=2) (F:=tC s R) (fun _=>rfl) _
 have jl:(Jb6 s.nj (jC s)).length=s.nj*4:=Ja9 (w:=4) (F:=jC s) (fun _=>rfl) _
 have xl:(Jb6 s.nx (xC s)).length=s.nx*13:=Ja9 (w:=13) (F:=xC s) (fun _=>rfl) _
 have hlt0:∀ k,¬m.length+k<m.length:=fun k=>by omega
 have hbox:∀ i,pC s i=[.int .i64 (s.pk i),.int .i64 (s.pc i 0),.int .i64 (s.pc i 1),.int .i64 (s.pc i 2),.int .i64 (s.pr i)]:=fun _=>rfl
 have hbt:∀ i,tC s R i=[.int .i64 (s.tw i),.sl (R.k i) (R.vk i) 0 (s.kn i)]:=fun _=>rfl
 have hbx:∀ i,xC s i=[.int .i64 (s.xj i),.int .i64 (s.xp i),.int .i64 (s.xk i),.int .i64 (s.xv i 0 0),.int .i64 (s.xv i 0 1),.int .i64 (s.xv i 0 2),.int .i64 (s.xv i 1 0),.int .i64 (s.xv i 1 1),.int .i64 (s.xv i 1 2),.int .i64 (s.xv i 2 0),.int .i64 (s.xv i 2 1),.int .i64 (s.xv i 2 2),.int .i64 (s.xr i)]:=fun _=>rfl
 have ill:=fun l=>Kn4 l
 have U4:=ca4 hp (Ja5 hp) ht (ca4 (Ja5 ht) hj (Ja5 hj) (ca4 hx (Ja5 hx) pl (ca4 tl jl xl (ca4 ill @Jf4 @Je7 (ca2 @Jf3 @Ja4)))))
 refine AW.c 1 U4 Tru ?_
 refine AW.q fun K J0=>?_
 refine AW.c 1 U4 Tru ?_
 apply AW.b
 refine AW.loopK [1,6,7] (fun i=>i<=s.nt/\∀ k,k<i->s.kn k<=40) (fun i=>[(8,.one (.int .i64 (i:Int)))]) (fun i=>[]) (fun i=>s.nt - i) 0 ⟨by omega,fun k hk=>by omega⟩ ?_ ?_ fun i hi2=>?_
 · first|rfl|(simp only [KS,simprocAttr,Int.natCast_zero]<;>repeat' (first|rfl|apply And.intro))
 · first|rfl|(simp only [Ja2,push_cast,simprocAttr,U4,Int.natCast_zero]<;>rfl)
 obtain ⟨hin,hok0⟩:=hi2
 have hok:=hok0
 try simp only [Jb1,Ja2,push_cast,simprocAttr,U4]
 refine AW.c 1 U4 Tru ?_
 refine AW.q fun K J1=>?_
 refine AW.cond rfl (fun h9=>?_) (fun h9=>?_)
 ·have hlt:i<s.nt:=by have:=of_decide_eq_true h9;omega
  have c1:(0:Int)<=(i:Int):=by omega
  have c2:(i:Int)<(s.nt:Int):=by omega
  have c3:i*2+2<=s.nt*2:=by omega
  have ga:=Jc0 (w:=2) (F:=tC s R) (fun _=>rfl) hlt
  apply AW.z
  apply J1
  refine AW.q fun K J1=>?_
  apply AW.b
  have U5:=ca4 U4 c1 c2 (ca3 c3 ga hbt)
  refine AW.c 2 U5 Tru ?_
  refine AW.cond rfl (fun h15=>?_) (fun h15=>?_)
  ·have h40:=of_decide_eq_true h15
   rw [show decide (SmR s)=false from decide_eq_false fun h=>by have:=h.1 i hlt;omega] at hQ
   refine AW.c 1 U5 Tru ?_
   exact AW.ret (hQ _ _ _ (RetP.z hwf U5))
  have hnow:s.kn i<=40:=by have:=of_decide_eq_false h15;omega
  apply AW.z
  apply Ja8
  apply J1
  refine AW.g U5 Tru ?_
  apply Jc2
  have hwi:IntKind.i64.wrap ((i:Int)+1)=(i:Int)+1:=wi (by omega)
  refine ⟨i+1,⟨by omega,fun k hk=>by
    rcases Nat.lt_or_ge k i with h|h
    · exact hok k h
    obtain rfl:k=i:=by omega
    exact hnow⟩,by omega,?_⟩
  try simp only [Jb1,Ja2,push_cast,simprocAttr,U5,hwi]
  first
   | exact Weak.same (by simp only [KS,simprocAttr,hwi]) (by first|rfl|simp only [KS,simprocAttr,hwi])
   | exact Weak.to (extra:=[_]) (by simp only [KS,simprocAttr,hwi]) (by first|rfl|(simp only [List.append_assoc,List.cons_append,List.nil_append];rfl)) (by first|rfl|(simp [AV.below,CV.below];done)|(simp [AV.below,CV.below];omega)) (by
      first|exact hwf|refine MWf.app (hwf.grow (by simp)) ?_
      repeat (first|exact Jb7|(refine Ja0 ?_ ?_;· first|rfl|(simp [CV.below];done)|(simp [CV.below];omega))))
 have hie:i=s.nt:=by have:=of_decide_eq_false h9;omega
 rw [hie] at hok
 apply AW.v
 apply Jb0
 apply Jb0
 apply Ja6
 apply J0
 refine AW.q fun K J0=>?_
 have hk:(¬(s.np:Int)<=60)\/((s.np:Int)<=60/\¬(s.nt:Int)<=60)\/((s.np:Int)<=60/\(s.nt:Int)<=60/\¬(s.nj:Int)<=60)\/((s.np:Int)<=60/\(s.nt:Int)<=60/\(s.nj:Int)<=60/\¬(s.nx:Int)<=200)\/((s.np:Int)<=60/\(s.nt:Int)<=60/\(s.nj:Int)<=60/\(s.nx:Int)<=200):=by omega
 rcases hk with g1|⟨g1,g2⟩|⟨g1,g2,g3⟩|⟨g1,g2,g3,g4⟩|⟨g1,g2,g3,g4⟩
 ·rw [show decide (SmR s)=false from decide_eq_false fun h=>by obtain ⟨_,z1,z2,z3,z4⟩:=h;omega] at hQ
  have U6:=ca2 U4 g1
  refine AW.g U6 Tru ?_
  apply J0
  exact AW.ret (hQ _ _ _ (RetP.z hwf U6))
 ·rw [show decide (SmR s)=false from decide_eq_false fun h=>by obtain ⟨_,z1,z2,z3,z4⟩:=h;omega] at hQ
  have U7:=ca3 U4 g1 g2
  refine AW.g U7 Tru ?_
  apply J0
  exact AW.ret (hQ _ _ _ (RetP.z hwf U7))
 ·rw [show decide (SmR s)=false from decide_eq_false fun h=>by obtain ⟨_,z1,z2,z3,z4⟩:=h;omega] at hQ
  have U8:=ca4 U4 g1 g2 g3
  refine AW.g U8 Tru ?_
  apply J0
  exact AW.ret (hQ _ _ _ (RetP.z hwf U8))
 ·rw [show decide (SmR s)=false from decide_eq_false fun h=>by obtain ⟨_,z1,z2,z3,z4⟩:=h;omega] at hQ
  have U9:=ca4 U4 g1 g2 (ca2 g3 g4)
  refine AW.g U9 Tru ?_
  apply J0
  exact AW.ret (hQ _ _ _ (RetP.z hwf U9))
 rw [show decide (SmR s)=true from decide_eq_true ⟨hok,by omega,by omega,by omega,by omega⟩] at hQ
 have U10:=ca4 U4 g1 g2 (ca2 g3 g4)
 refine AW.g U10 Tru ?_
 apply J0
 exact AW.ret (hQ _ _ _ (RetP.z hwf U10))
def toR (s:SC)(L:Nat):RWs:=⟨L+4,s.np,L+5,s.nt,L+6,s.nj,L+7,s.nx,fun i=>L+(3*i+9),fun _=>0⟩
def tkB (s:SC)(R:RWs)(L:Nat):Nat->Ja1
 | 0=>[]
 | i+1=>tkB s R L i++[⟨.fix,143,0,0,tC s R i⟩,⟨.grow,223,0,4,Jb6 (s.kn i) (kC s i)⟩,⟨.grow,119,0,2,tC s (toR s L) i⟩]
theorem Jn0 (s:SC)(R:RWs)(L:Nat):∀ i,(tkB s R L i).length=3*i
 | 0=>rfl
 | i+1=>by simp only [tkB,List.length_append,Jn0 s R L i,List.length_cons,List.length_nil];omega
theorem Qc6 {F:Nat->List CV}(p:CV->Bool):∀ n,(∀ k,k<n->(F k).all p=true)->(Jb6 n F).all p=true
 | 0,_=>rfl
 | n+1,h=>by
  show (Jb6 n F++F n).all p=true
  rw [List.all_append,Qc6 p n fun k hk=>h k (by omega),h n (by omega)];rfl
theorem Vv3 {m:Ja1}{s:SC}{R:RWs}(hR:ScR 138 143 285 146 150 m s R)(L:Nat):∀ n,n<=s.nt->m.length+8+3*n<=L->MWf L (tkB s R m.length n)
 | 0,_,_=>Jb7
 | n+1,h1,h2=>MWf.app (Vv3 hR L n (by omega) (by omega)) (by
  obtain ⟨k,e,hk⟩:=hR.hk n (by omega)
  have:=Jb2 hk
  refine Ja0 ?_ (Ja0 ?_ (Ja0 ?_ Jb7))
  ·simp [tC,CV.below];omega
  ·exact Jc1 _ (fun _=>rfl) _
  simp [tC,toR,CV.below];omega)
theorem Xo1 (s:SC)(R:RWs)(M n k:Nat)(L:Ja1):(tkB s R M n++L)[3*n+k]?=L[k]?:=by
 rw [List.getElem?_append_right (by rw [Jn0];omega),Jn0];congr 1;omega
theorem tkB_s (s:SC)(R:RWs)(M n:Nat)(b c:Blk)(L:Ja1):(tkB s R M n++b::L).set (3*n) c=tkB s R M n++c::L:=by
 rw [List.set_append_right _ _ (by rw [Jn0];omega),Jn0,Nat.sub_self];rfl
theorem RetP.keep {P:Program}{tm:Tm}{mem:Ja1}{L:Nat}{rs:List ResultVar}{ret:AV}{ex:Exit}(hex:ex=.normal\/ex=.ret)(hres:Jd0 P rs tm mem=some ret):RetP P rs L ret mem ex tm mem :=
 ⟨hex,ret,hres,fun ρ v w hv hm=>⟨ρ,hv,hm,fun _ _ _ _ h=>h⟩⟩
theorem Qw5 (s:SC)(R:RWs)(L:Nat):∀ {n i:Nat},i<n->(tkB s R L n)[3*i+1]?=some ⟨.grow,223,0,4,Jb6 (s.kn i) (kC s i)⟩
 | n+1,i,h=>by
  unfold tkB
  rcases Nat.lt_or_ge i n with q|q
  ·rw [List.getElem?_append_left (by rw [Jn0];omega)];exact Qw5 s R L q
  obtain rfl:i=n:=by omega
  rw [List.getElem?_append_right (by rw [Jn0];omega),Jn0]
  rw [show 3*i+1 - 3*i=1 by omega];rfl
theorem Vy8 {m:Ja1}{s:SC}{R:RWs}(hR:ScR 138 143 285 146 150 m s R)(hwf:MWf m.length m)(res:List CV)(hres:∀ L,res.all (CV.below L)=true)(a b c d n L:Nat)(hn:n<=s.nt)(hb:b<=n)(hL:m.length+8+3*n<=L):MWf L (m++(⟨.fix,32,0,0,scC s R⟩::⟨.fix,52,0,0,res⟩::⟨.fix,26,0,0,hdC s⟩::⟨.fix,52,0,0,[.int .i64 s.w,.int .i64 s.h,.int .i64 s.sm,.int .i64 s.dp,.int .i64 s.fr,.int .i64 s.sh,.int .u64 s.sd,.int .i64 (s.sk 0),.int .i64 (s.sk 1),.int .i64 (s.sk 2),.int .i64 s.ey,.int .i64 s.lk,.int .i64 s.wd,.sl (m.length+4) a 0 a,.sl (m.length+5) b 0 b,.sl (m.length+6) c 0 c,.sl (m.length+7) d 0 d]⟩::⟨.grow,140,a,5,Jb6 a (pC s)⟩::⟨.grow,119,b,2,Jb6 b (tC s (toR s m.length))⟩::⟨.grow,148,c,4,Jb6 c (jC s)⟩::⟨.grow,155,d,13,Jb6 d (xC s)⟩::tkB s R m.length n)):=by
 refine MWf.app (hwf.grow (by omega)) (Ja0 (hR.bel L (by omega)) (Ja0 (hres L) (Ja0 rfl (Ja0 ?_ (Ja0 ?_ (Ja0 ?_ (Ja0 ?_ (Ja0 ?_ (Vv3 hR L n hn hL)))))))))
 ·simp [CV.below];omega
 ·exact Jc1 _ (fun _=>rfl) _
 ·refine Qc6 _ _ fun k hk=>?_
  simp [tC,toR,CV.below];omega
 ·exact Jc1 _ (fun _=>rfl) _
 exact Jc1 _ (fun _=>rfl) _
def toB (s:SC)(R:RWs)(m:Ja1):Ja1:=⟨.fix,32,0,0,scC s R⟩::⟨.fix,52,0,0,scC s (toR s m.length)⟩::⟨.fix,26,0,0,hdC s⟩::⟨.fix,52,0,0,[.int .i64 s.w,.int .i64 s.h,.int .i64 s.sm,.int .i64 s.dp,.int .i64 s.fr,.int .i64 s.sh,.int .u64 s.sd,.int .i64 (s.sk 0),.int .i64 (s.sk 1),.int .i64 (s.sk 2),.int .i64 s.ey,.int .i64 s.lk,.int .i64 s.wd,.sl (m.length+4) (s.np) 0 (s.np),.sl (m.length+5) (s.nt) 0 (s.nt),.sl (m.length+6) (s.nj) 0 (s.nj),.sl (m.length+7) (s.nx) 0 (s.nx)]⟩::⟨.grow,140,s.np,5,Jb6 (s.np) (pC s)⟩::⟨.grow,119,s.nt,2,Jb6 (s.nt) (tC s (toR s m.length))⟩::⟨.grow,148,s.nj,4,Jb6 (s.nj) (jC s)⟩::⟨.grow,155,s.nx,13,Jb6 (s.nx) (xC s)⟩::tkB s R m.length s.nt
theorem Xn0 (s:SC)(R:RWs)(m:Ja1)(hR:ScR 138 143 285 146 150 m s R)(hS:SmR s):Ctr Tryz.prog 11 [.agg (scC s R)] m (.agg (scC s (toR s m.length))) (m++toB s R m):=by
 refine Ctr.en Tryz.func11 [.cell 2 52] 135 fun hwf Q hQ=>?_
 obtain ⟨kp,ep,hp⟩:=hR.hp
 have lp:=Jb2 hp
 obtain ⟨kt,et,ht⟩:=hR.ht
 have lt:=Jb2 ht
 obtain ⟨kj,ej,hj⟩:=hR.hj
 have lj:=Jb2 hj
 obtain ⟨kx,ex,hx⟩:=hR.hx
 have lx:=Jb2 hx
 have np:=hR.np
 have nt:=hR.nt
 have nj:=hR.nj
 have nx:=hR.nx
 have pl:(Jb6 s.np (pC s)).length=s.np*5:=Ja9 (w:=5) (F:=pC s) (fun _=>rfl) _
 have tl:(Jb6 s.nt (tC s R)).length=s.nt*2:=Ja9 (w:=2) (F:=tC s R) (fun _=>rfl) _
 have jl:(Jb6 s.nj (jC s)).length=s.nj*4:=Ja9 (w:=4) (F:=jC s) (fun _=>rfl) _
 have xl:(Jb6 s.nx (xC s)).length=s.nx*13:=Ja9 (w:=13) (F:=xC s) (fun _=>rfl) _
 have hlt0:∀ k,¬m.length+k<m.length:=fun k=>by omega
 have hbox:∀ i,pC s i=[.int .i64 (s.pk i),.int .i64 (s.pc i 0),.int .i64 (s.pc i 1),.int .i64 (s.pc i 2),.int .i64 (s.pr i)]:=fun _=>rfl
 have hbt:∀ i,tC s R i=[.int .i64 (s.tw i),.sl (R.k i) (R.vk i) 0 (s.kn i)]:=fun _=>rfl
 have hbx:∀ i,xC s i=[.int .i64 (s.xj i),.int .i64 (s.xp i),.int .i64 (s.xk i),.int .i64 (s.xv i 0 0),.int .i64 (s.xv i 0 1),.int .i64 (s.xv i 0 2),.int .i64 (s.xv i 1 0),.int .i64 (s.xv i 1 1),.int .i64 (s.xv i 1 2),.int .i64 (s.xv i 2 0),.int .i64 (s.xv i 2 1),.int .i64 (s.xv i 2 2),.int .i64 (s.xr i)]:=fun _=>rfl
 have ill:=fun l=>Kn4 l
 obtain ⟨hS1,hS2,hS3,hS4,hS5⟩:=hS
 have tkl:=Jn0 s R m.length
 have tg0:=fun n L=>Xo1 s R m.length n 0 L
 simp only [Nat.add_zero] at tg0
 have tg1:=Xo1 s R m.length
 have ts0:=tkB_s s R m.length
 have vp:=fun n=>(Jc1 CV.isVal (F:=pC s) (fun _=>rfl) n)
 have vj:=fun n=>(Jc1 CV.isVal (F:=jC s) (fun _=>rfl) n)
 have vx:=fun n=>(Jc1 CV.isVal (F:=xC s) (fun _=>rfl) n)
 have vt:=fun n=>(Jc1 CV.isVal (F:=tC s (toR s m.length)) (fun _=>rfl) n)
 have U1:=ca4 hp (Ja5 hp) ht (ca4 (Ja5 ht) hj (Ja5 hj) (ca4 hx (Ja5 hx) pl (ca4 tl jl xl (ca4 ill @Jf4 @Je7 (ca4 @Jf3 @Ja4 tkl (ca4 tg0 tg1 ts0 (ca4 vp vj vx vt)))))))
 refine AW.c 2 U1 Tru ?_
 have q_1:=fun M=>Vv2 s.sk M
 simp only [c3C] at q_1
 refine AW.d [.val,.rd 0,.val,.rd 0,.val,.rd 0,.val,.rd 0,.val,.rd 0,.val,.rd 0,.val,.rd 0,.val,.rd 0,.ext,.val,.val,.rd 0,.val,.rd 0,.val,.rd 0,.val,.val,.fl,.wr] fol U1 q_1 ?_
 refine AW.q fun K J0=>?_
 refine AW.c 1 U1 Tru ?_
 apply AW.b
 refine AW.nilCell 140 5 (m.length+3) 13 (by simp only [push_cast,simprocAttr,U1];first|done|rfl) (by intro e;cases e) rfl ?_
 try simp only [push_cast,simprocAttr,U1]
 refine AW.nilCell 119 2 (m.length+3) 14 (by simp only [push_cast,simprocAttr,U1];first|done|rfl) (by intro e;cases e) rfl ?_
 try simp only [push_cast,simprocAttr,U1]
 refine AW.nilCell 148 4 (m.length+3) 15 (by simp only [push_cast,simprocAttr,U1];first|done|rfl) (by intro e;cases e) rfl ?_
 try simp only [push_cast,simprocAttr,U1]
 refine AW.nilCell 155 13 (m.length+3) 16 (by simp only [push_cast,simprocAttr,U1];first|done|rfl) (by intro e;cases e) rfl ?_
 try simp only [push_cast,simprocAttr,U1]
 refine AW.loopK [1,2,4,42,43] (fun i=>i<=s.np) (fun i=>[(44,.one (.int .i64 (i:Int)))]) (fun i=>[(m.length+3,⟨.fix,52,0,0,[.int .i64 s.w,.int .i64 s.h,.int .i64 s.sm,.int .i64 s.dp,.int .i64 s.fr,.int .i64 s.sh,.int .u64 s.sd,.int .i64 (s.sk 0),.int .i64 (s.sk 1),.int .i64 (s.sk 2),.int .i64 s.ey,.int .i64 s.lk,.int .i64 s.wd,.sl (m.length+4) i 0 i,.sl (m.length+5) (0) 0 (0),.sl (m.length+6) (0) 0 (0),.sl (m.length+7) (0) 0 (0)]⟩),(m.length+4,⟨.grow,140,i,5,Jb6 i (pC s)⟩)]) (fun i=>s.np - i) 0 (by omega) ?_ ?_ fun i hi2=>?_
 · first|rfl|(simp only [KS,simprocAttr,Jb6,Int.natCast_zero]<;>repeat' (first|rfl|apply And.intro))
 · simp only [Ja2,push_cast,simprocAttr,Jb6]<;>rfl
 try simp only [Jb1,Ja2,push_cast,simprocAttr,U1]
 refine AW.c 1 U1 Tru ?_
 refine AW.q fun K J1=>?_
 refine AW.cond rfl (fun h45=>?_) (fun h45=>?_)
 ·have hlt:i<s.np:=by have:=of_decide_eq_true h45;omega
  have c1:(0:Int)<=(i:Int):=by omega
  have c2:(i:Int)<(s.np:Int):=by omega
  have c3:i*5+5<=s.np*5:=by omega
  have ga:=Jc0 (w:=5) (F:=pC s) (fun _=>rfl) hlt
  have gk:=Kc8 s i
  have gli:(Jb6 i (pC s)).length=i*5:=Ja9 (w:=5) (F:=pC s) (fun _=>rfl) i
  have q1:i<=140737488355327:=by omega
  have q2:(i+1)*40<=140737488355328:=by omega
  have hap:Jb6 i (pC s)++[.int .i64 (s.pk i),.int .i64 (s.pc i 0),.int .i64 (s.pc i 1),.int .i64 (s.pc i 2),.int .i64 (s.pr i)]=Jb6 (i+1) (pC s):=rfl
  apply AW.z
  apply J1
  refine AW.q fun K J1=>?_
  apply AW.b
  have U2:=ca4 U1 c1 c2 (ca4 c3 ga gk (ca4 gli q1 q2 hlt))
  refine AW.c 1 U2 Tru ?_
  have q_2:=fun M=>Vv2 (s.pc i) M
  simp only [c3C] at q_2
  refine AW.e [.val,.rd 0,.val,.rd 0,.val,.rd 0,.ext,.val,.rd 0,.val,.ext,.wr,.val,.wr] fol U2 q_2 ?_
  apply Ja8
  apply J1
  refine AW.g U2 Tru ?_
  apply Jc2
  have hwi:IntKind.i64.wrap ((i:Int)+1)=(i:Int)+1:=wi (by omega)
  refine ⟨i+1,by omega,by omega,?_⟩
  try simp only [Jb1,Ja2,push_cast,simprocAttr,U2,hwi,hap]
  exact Weak.to (extra:=[_,_]) (by simp only [KS,simprocAttr,hwi,hap]) (by first|rfl|(simp only [List.append_assoc,List.cons_append,List.nil_append];rfl)) (by first|rfl|(simp [AV.below,CV.below];done)|(simp [AV.below,CV.below];omega)) (by exact Vy8 hR hwf _ (fun _=>rfl) _ _ _ _ 0 _ (by omega) (by omega) (by simp [Jn0];try omega))
 have hin:i=s.np:=by have:=of_decide_eq_false h45;omega
 rw [hin]
 apply AW.v
 apply Jb0
 apply Jb0
 apply Ja6
 apply J0
 refine AW.q fun K J0=>?_
 refine AW.c 1 U1 Tru ?_
 apply AW.b
 refine AW.loopE0 [1,2,4,63,64] (fun i=>i<=s.nt) (fun i=>[(65,.one (.int .i64 (i:Int)))]) (fun i=>[(m.length+3,⟨.fix,52,0,0,[.int .i64 s.w,.int .i64 s.h,.int .i64 s.sm,.int .i64 s.dp,.int .i64 s.fr,.int .i64 s.sh,.int .u64 s.sd,.int .i64 (s.sk 0),.int .i64 (s.sk 1),.int .i64 (s.sk 2),.int .i64 s.ey,.int .i64 s.lk,.int .i64 s.wd,.sl (m.length+4) (s.np) 0 (s.np),.sl (m.length+5) i 0 i,.sl (m.length+6) (0) 0 (0),.sl (m.length+7) (0) 0 (0)]⟩),(m.length+5,⟨.grow,119,i,2,Jb6 i (tC s (toR s m.length))⟩)]) (fun i=>tkB s R m.length i) (fun i=>s.nt - i) 0 (by omega) ?_ ?_ ?_ fun i hi6=>?_
 · first|rfl|(simp only [KS,simprocAttr,Jb6,tkB,List.append_nil,Int.natCast_zero]<;>repeat' (first|rfl|apply And.intro))
 · simp only [Ja2,push_cast,simprocAttr,Jb6,tkB,List.append_nil]<;>rfl
 · exact fun i j _ _ h=>by simp only [Jn0];omega
 try simp only [Jb1,Ja2,push_cast,simprocAttr,U1]
 refine AW.c 1 U1 Tru ?_
 refine AW.q fun K J1=>?_
 refine AW.cond rfl (fun h66=>?_) (fun h66=>?_)
 ·have hlt:i<s.nt:=by have:=of_decide_eq_true h66;omega
  have c1:(0:Int)<=(i:Int):=by omega
  have c2:(i:Int)<(s.nt:Int):=by omega
  have c3:i*2+2<=s.nt*2:=by omega
  have ga:=Jc0 (w:=2) (F:=tC s R) (fun _=>rfl) hlt
  obtain ⟨kk,ek,hky⟩:=hR.hk i hlt
  have lky:=Jb2 hky
  have hki:=hS1 i hlt
  have gk:=Vj3 s R i
  have gli:(Jb6 i (tC s (toR s m.length))).length=i*2:=Ja9 (w:=2) (F:=tC s (toR s m.length)) (fun _=>rfl) i
  have q1:i<=140737488355327:=by omega
  have q2:(i+1)*32<=140737488355328:=by omega
  have hap:Jb6 i (tC s (toR s m.length))++[.int .i64 (s.tw i),.sl (m.length+(3*i+9)) 0 0 (s.kn i)]=Jb6 (i+1) (tC s (toR s m.length)):=rfl
  have htk:tkB s R m.length i++[⟨.fix,143,0,0,[.int .i64 (s.tw i),.sl (R.k i) (R.vk i) 0 (s.kn i)]⟩,⟨.grow,223,0,4,Jb6 (s.kn i) (keC (s.kt i) (s.kv i))⟩,⟨.grow,119,0,2,[.int .i64 (s.tw i),.sl (m.length+(3*i+9)) 0 0 (s.kn i)]⟩]=tkB s R m.length (i+1):=rfl
  apply AW.z
  apply J1
  refine AW.q fun K J1=>?_
  apply AW.b
  have U3:=ca4 U1 c1 c2 (ca4 c3 ga gk (ca4 gli q1 q2 hlt))
  refine AW.c 1 U3 Tru ?_
  refine AW.e [.val,.rd 0,.rd 0,.ext,.ext,.wr,.val,.wr] fol U3 (Xo0 (s.tw i) (R.k i) (R.vk i) (s.kn i) (s.kt i) (s.kv i) _ ⟨kk,ek,Ja5 hky _⟩ (by omega)) ?_
  apply Ja8
  apply J1
  refine AW.g U3 Tru ?_
  apply Jc2
  have hwi:IntKind.i64.wrap ((i:Int)+1)=(i:Int)+1:=wi (by omega)
  refine ⟨i+1,by omega,by omega,?_⟩
  try simp only [Jb1,Ja2,push_cast,simprocAttr,U3,hwi,hap,htk]
  exact Weak.same (by simp only [KS,simprocAttr,hwi,hap,htk]) (by first|rfl|simp only [KS,simprocAttr,hwi,hap,htk])
 have hin:i=s.nt:=by have:=of_decide_eq_false h66;omega
 rw [hin]
 apply AW.v
 apply Jb0
 apply Jb0
 apply Ja6
 apply J0
 refine AW.q fun K J0=>?_
 refine AW.c 1 U1 Tru ?_
 apply AW.b
 refine AW.loopK [1,2,4,78,79] (fun i=>i<=s.nj) (fun i=>[(80,.one (.int .i64 (i:Int)))]) (fun i=>[(m.length+3,⟨.fix,52,0,0,[.int .i64 s.w,.int .i64 s.h,.int .i64 s.sm,.int .i64 s.dp,.int .i64 s.fr,.int .i64 s.sh,.int .u64 s.sd,.int .i64 (s.sk 0),.int .i64 (s.sk 1),.int .i64 (s.sk 2),.int .i64 s.ey,.int .i64 s.lk,.int .i64 s.wd,.sl (m.length+4) (s.np) 0 (s.np),.sl (m.length+5) (s.nt) 0 (s.nt),.sl (m.length+6) i 0 i,.sl (m.length+7) (0) 0 (0)]⟩),(m.length+6,⟨.grow,148,i,4,Jb6 i (jC s)⟩)]) (fun i=>s.nj - i) 0 (by omega) ?_ ?_ fun i hi10=>?_
 · first|rfl|(simp only [KS,simprocAttr,Jb6,Int.natCast_zero]<;>repeat' (first|rfl|apply And.intro))
 · simp only [Ja2,push_cast,simprocAttr,Jb6]<;>rfl
 try simp only [Jb1,Ja2,push_cast,simprocAttr,U1]
 refine AW.c 1 U1 Tru ?_
 refine AW.q fun K J1=>?_
 refine AW.cond rfl (fun h81=>?_) (fun h81=>?_)
 ·have hlt:i<s.nj:=by have:=of_decide_eq_true h81;omega
  have c1:(0:Int)<=(i:Int):=by omega
  have c2:(i:Int)<(s.nj:Int):=by omega
  have c3:i*4+4<=s.nj*4:=by omega
  have ga:=Jc0 (w:=4) (F:=jC s) (fun _=>rfl) hlt
  have gk:=Vd6 s i
  have gli:(Jb6 i (jC s)).length=i*4:=Ja9 (w:=4) (F:=jC s) (fun _=>rfl) i
  have q1:i<=140737488355327:=by omega
  have q2:(i+1)*32<=140737488355328:=by omega
  have hap:Jb6 i (jC s)++[.int .i64 (s.jp i),.int .i64 (s.jm i),.int .i64 (s.jt i),.int .i64 (s.js i)]=Jb6 (i+1) (jC s):=rfl
  apply AW.z
  apply J1
  refine AW.q fun K J1=>?_
  apply AW.b
  have U4:=ca4 U1 c1 c2 (ca4 c3 ga gk (ca4 gli q1 q2 hlt))
  refine AW.c 1 U4 Tru ?_
  refine AW.g U4 Tru ?_
  apply Ja8
  apply J1
  refine AW.g U4 Tru ?_
  apply Jc2
  have hwi:IntKind.i64.wrap ((i:Int)+1)=(i:Int)+1:=wi (by omega)
  refine ⟨i+1,by omega,by omega,?_⟩
  try simp only [Jb1,Ja2,push_cast,simprocAttr,U4,hwi,hap]
  exact Weak.to (extra:=[_,_]) (by simp only [KS,simprocAttr,hwi,hap]) (by first|rfl|(simp only [List.append_assoc,List.cons_append,List.nil_append];rfl)) (by first|rfl|(simp [AV.below,CV.below];done)|(simp [AV.below,CV.below];omega)) (by exact Vy8 hR hwf _ (fun _=>rfl) _ _ _ _ s.nt _ (by omega) (by omega) (by simp [Jn0];try omega))
 have hin:i=s.nj:=by have:=of_decide_eq_false h81;omega
 rw [hin]
 apply AW.v
 apply Jb0
 apply Jb0
 apply Ja6
 apply J0
 refine AW.q fun K J0=>?_
 refine AW.c 1 U1 Tru ?_
 apply AW.b
 refine AW.loopK [2,4,100,101] (fun i=>i<=s.nx) (fun i=>[(102,.one (.int .i64 (i:Int)))]) (fun i=>[(m.length+3,⟨.fix,52,0,0,[.int .i64 s.w,.int .i64 s.h,.int .i64 s.sm,.int .i64 s.dp,.int .i64 s.fr,.int .i64 s.sh,.int .u64 s.sd,.int .i64 (s.sk 0),.int .i64 (s.sk 1),.int .i64 (s.sk 2),.int .i64 s.ey,.int .i64 s.lk,.int .i64 s.wd,.sl (m.length+4) (s.np) 0 (s.np),.sl (m.length+5) (s.nt) 0 (s.nt),.sl (m.length+6) (s.nj) 0 (s.nj),.sl (m.length+7) i 0 i]⟩),(m.length+7,⟨.grow,155,i,13,Jb6 i (xC s)⟩)]) (fun i=>s.nx - i) 0 (by omega) ?_ ?_ fun i hi14=>?_
 · first|rfl|(simp only [KS,simprocAttr,Jb6,Int.natCast_zero]<;>repeat' (first|rfl|apply And.intro))
 · simp only [Ja2,push_cast,simprocAttr,Jb6]<;>rfl
 try simp only [Jb1,Ja2,push_cast,simprocAttr,U1]
 refine AW.c 1 U1 Tru ?_
 refine AW.q fun K J1=>?_
 refine AW.cond rfl (fun h103=>?_) (fun h103=>?_)
 ·have hlt:i<s.nx:=by have:=of_decide_eq_true h103;omega
  have c1:(0:Int)<=(i:Int):=by omega
  have c2:(i:Int)<(s.nx:Int):=by omega
  have c3:i*13+13<=s.nx*13:=by omega
  have ga:=Jc0 (w:=13) (F:=xC s) (fun _=>rfl) hlt
  have gk:=Ke0 s i
  have gli:(Jb6 i (xC s)).length=i*13:=Ja9 (w:=13) (F:=xC s) (fun _=>rfl) i
  have q1:i<=140737488355327:=by omega
  have q2:(i+1)*104<=140737488355328:=by omega
  have hap:Jb6 i (xC s)++[.int .i64 (s.xj i),.int .i64 (s.xp i),.int .i64 (s.xk i),.int .i64 (s.xv i 0 0),.int .i64 (s.xv i 0 1),.int .i64 (s.xv i 0 2),.int .i64 (s.xv i 1 0),.int .i64 (s.xv i 1 1),.int .i64 (s.xv i 1 2),.int .i64 (s.xv i 2 0),.int .i64 (s.xv i 2 1),.int .i64 (s.xv i 2 2),.int .i64 (s.xr i)]=Jb6 (i+1) (xC s):=rfl
  apply AW.z
  apply J1
  refine AW.q fun K J1=>?_
  apply AW.b
  have U5:=ca4 U1 c1 c2 (ca4 c3 ga gk (ca4 gli q1 q2 hlt))
  refine AW.c 1 U5 Tru ?_
  have q_3:=fun M=>Qh7 (s.xv i 0) M
  simp only [c3C] at q_3
  have q_4:=fun M=>Qh7 (s.xv i 1) M
  simp only [c3C] at q_4
  have q_5:=fun M=>Qh7 (s.xv i 2) M
  simp only [c3C] at q_5
  refine AW.e [.val,.rd 0,.val,.rd 0,.val,.rd 0,.val,.val,.rd 0,.val,.val,.rd 0,.ext,.val,.val,.rd 0,.ext,.val,.val,.rd 0,.ext,.val,.rd 0,.val,.ext,.wr,.val,.wr] fol U5 (ca3 q_3 q_4 q_5) ?_
  apply Ja8
  apply J1
  refine AW.g U5 Tru ?_
  apply Jc2
  have hwi:IntKind.i64.wrap ((i:Int)+1)=(i:Int)+1:=wi (by omega)
  refine ⟨i+1,by omega,by omega,?_⟩
  try simp only [Jb1,Ja2,push_cast,simprocAttr,U5,hwi,hap]
  exact Weak.to (extra:=[_,_]) (by simp only [KS,simprocAttr,hwi,hap]) (by first|rfl|(simp only [List.append_assoc,List.cons_append,List.nil_append];rfl)) (by first|rfl|(simp [AV.below,CV.below];done)|(simp [AV.below,CV.below];omega)) (by exact Vy8 hR hwf _ (fun _=>rfl) _ _ _ _ s.nt _ (by omega) (by omega) (by simp [Jn0];try omega))
 have hin:i=s.nx:=by have:=of_decide_eq_false h103;omega
 rw [hin]
 apply AW.v
 apply Jb0
 apply Jb0
 apply Ja6
 apply J0
 refine AW.c 1 U1 Tru ?_
 refine AW.ret ?_
 refine hQ _ _ _ ?_
 refine RetP.keep (by first|exact Or.inr rfl|exact Or.inl rfl) ?_
 simp only [Jd0,Ja7,Jb5,AV.tv,push_cast,simprocAttr,toR]
 rfl
noncomputable def Jo0 (a:Int):Int:=if h:0<Ja3 a then ((Classical.choose (Qe5 h):Nat):Int) else 0
theorem Kz4 (a:Int)(m:Ja1):Ctr Tryz.prog 230 [.one (.int .i64 a)] m (.one (.int .i64 (Jo0 a))) m:=by
 unfold Jo0
 by_cases h:0<Ja3 a
 ·rw [dif_pos h];exact Xp8 a _ m (Classical.choose_spec (Qe5 h))
 rw [dif_neg h];exact Xp9 a m h
theorem Kk4 (a:Int)(m:Ja1):Ctr Tryz.prog 211 [.one (.int .i64 a)] m (.one (.int .i64 (Jo0 a))) m:=by
 unfold Jo0
 by_cases h:0<Ja3 a
 ·rw [dif_pos h];exact Xb2 a _ m (Classical.choose_spec (Qe5 h))
 rw [dif_neg h];exact Xb3 a m h
theorem Qa7 (a0 a1 a2:Int)(m:Ja1):Ctr Tryz.prog 109 [.one (.int .i64 a0),.one (.int .i64 a1),.one (.int .i64 a2)] m (.agg [.int .i64 a0,.int .i64 a1,.int .i64 a2]) m:=by
 refine Ctr.en Tryz.func109 [.cell 6 59] 11 fun hwf Q hQ=>?_
 refine AW.c 2 Tru Tru ?_
 exact AW.ret (hQ _ _ _ (RetP.z hwf Tru))
theorem Ki7 (f:Int->Int->Int)(g:Nat)(caps:List (Nat × Nat × Nat))(a0 a1 a2 b0 b1 b2:Int)(m:Ja1)(hf:∀ p q L,Ctr Tryz.prog g ([.one (.int .i64 p),.one (.int .i64 q)]++Jm4 caps) (m++L) (.one (.int .i64 (f p q))) (m++L)):Ctr Tryz.prog 187 [.agg [.int .i64 a0,.int .i64 a1,.int .i64 a2],.agg [.int .i64 b0,.int .i64 b1,.int .i64 b2],.one (.fn g caps)] m (.agg [.int .i64 (f a0 b0),.int .i64 (f a1 b1),.int .i64 (f a2 b2)]) m:=by
 refine Ctr.en Tryz.func187 [.cell 6 59] 26 fun hwf Q hQ=>?_
 refine AW.sr 1 fun K J0=>?_
 simp only [push_cast,simprocAttr,Jm4]
 apply J0
 refine AW.q fun K J0=>?_
 refine AW.draw [.val,.val,.rd 0,.val,.rd 0,.ext,.val,.val,.rd 0,.val,.rd 0,.ext,.val,.val,.rd 0,.val,.rd 0,.ext,.val,.wr] fol (by decide) (by kernel_rfl) ?_
 iterate 3
  simp only [push_cast,simprocAttr,Jm4]
  refine DCall.z (hf _ _ _) ?_
 simp only [push_cast,simprocAttr,Jm4]
 apply J0
 refine AW.ret ?_
 refine hQ _ _ _ ?_
 first|refine RetP.drop0 (Or.inr rfl) ?_ ?_ hwf|refine RetP.drop (Or.inr rfl) ?_ ?_ hwf
 · simp only [Jd0,Ja7,Jb5,AV.tv,push_cast,simprocAttr,Jm4]
 rfl
theorem Kx8 (a0 a1 a2 b0 b1 b2:Int)(m:Ja1):Ctr Tryz.prog 136 [.agg [.int .i64 a0,.int .i64 a1,.int .i64 a2],.agg [.int .i64 b0,.int .i64 b1,.int .i64 b2]] m (.agg [.int .i64 (Jd6 a0 b0),.int .i64 (Jd6 a1 b1),.int .i64 (Jd6 a2 b2)]) m:=by
 refine Ctr.en Tryz.func136 [.cell 4 59] 8 fun hwf Q hQ=>?_
 refine AW.c 2 Tru (Ki7 Jd6 117 [] _ _ _ _ _ _ _ fun p q L=>Jz2 p q _) ?_
 exact AW.ret (hQ _ _ _ (RetP.z hwf Tru))
theorem Vu9 (a0 a1 a2 b0 b1 b2:Int)(m:Ja1):Ctr Tryz.prog 107 [.agg [.int .i64 a0,.int .i64 a1,.int .i64 a2],.agg [.int .i64 b0,.int .i64 b1,.int .i64 b2]] m (.agg [.int .i64 (Jf8 a0 b0),.int .i64 (Jf8 a1 b1),.int .i64 (Jf8 a2 b2)]) m:=by
 refine Ctr.en Tryz.func107 [.cell 4 59] 8 fun hwf Q hQ=>?_
 refine AW.c 2 Tru (Ki7 Jf8 116 [] _ _ _ _ _ _ _ fun p q L=>Js6 p q _) ?_
 exact AW.ret (hQ _ _ _ (RetP.z hwf Tru))
theorem Kj7 (a0 a1 a2 b0 b1 b2:Int)(m:Ja1):Ctr Tryz.prog 145 [.agg [.int .i64 a0,.int .i64 a1,.int .i64 a2],.agg [.int .i64 b0,.int .i64 b1,.int .i64 b2]] m (.agg [.int .i64 (Jd6 a0 b0),.int .i64 (Jd6 a1 b1),.int .i64 (Jd6 a2 b2)]) m:=by
 refine Ctr.en Tryz.func145 [.cell 4 54] 21 fun hwf Q hQ=>?_
 refine AW.c 2 Tru Tru ?_
 refine AW.q fun K J0=>?_
 refine AW.c 1 Tru Tru ?_
 apply AW.b
 refine AW.r 4 ?_
 refine ARounds.s fun K J1=>?_
 refine AW.q fun K J2=>?_
 refine AW.c 1 Tru Tru ?_
 apply AW.y rfl
 apply AW.z
 apply J2
 refine AW.q fun K J2=>?_
 apply AW.b
 refine AW.e [.val,.val,.val,.rd 0,.val,.val,.rd 0,.ext,.val,.wr] fol Tru Jp6 ?_
 apply Ja8
 apply J2
 refine AW.g Tru Tru ?_
 apply J1
 refine ARounds.s fun K J1=>?_
 refine AW.q fun K J2=>?_
 refine AW.c 1 Tru Tru ?_
 apply AW.y rfl
 apply AW.z
 apply J2
 refine AW.q fun K J2=>?_
 apply AW.b
 refine AW.e [.val,.val,.val,.rd 0,.val,.val,.rd 0,.ext,.val,.wr] fol Tru Jp6 ?_
 apply Ja8
 apply J2
 refine AW.g Tru Tru ?_
 apply J1
 refine ARounds.s fun K J1=>?_
 refine AW.q fun K J2=>?_
 refine AW.c 1 Tru Tru ?_
 apply AW.y rfl
 apply AW.z
 apply J2
 refine AW.q fun K J2=>?_
 apply AW.b
 refine AW.e [.val,.val,.val,.rd 0,.val,.val,.rd 0,.ext,.val,.wr] fol Tru Jp6 ?_
 apply Ja8
 apply J2
 refine AW.g Tru Tru ?_
 apply J1
 refine ARounds.s fun K J1=>?_
 refine AW.q fun K J2=>?_
 refine AW.c 1 Tru Tru ?_
 apply AW.x rfl
 apply AW.v
 apply Jb0
 apply Jb0
 apply Ja6
 apply J0
 refine AW.c 1 Tru Tru ?_
 exact AW.ret (hQ _ _ _ (RetP.z hwf Tru))
theorem Vz6 (a0 a1 a2 b0 b1 b2:Int)(m:Ja1):Ctr Tryz.prog 81 [.agg [.int .i64 a0,.int .i64 a1,.int .i64 a2],.agg [.int .i64 b0,.int .i64 b1,.int .i64 b2]] m (.agg [.int .i64 (Jf8 a0 b0),.int .i64 (Jf8 a1 b1),.int .i64 (Jf8 a2 b2)]) m:=by
 refine Ctr.en Tryz.func81 [.cell 4 54] 21 fun hwf Q hQ=>?_
 refine AW.c 2 Tru Tru ?_
 refine AW.q fun K J0=>?_
 refine AW.c 1 Tru Tru ?_
 apply AW.b
 refine AW.r 4 ?_
 refine ARounds.s fun K J1=>?_
 refine AW.q fun K J2=>?_
 refine AW.c 1 Tru Tru ?_
 apply AW.y rfl
 apply AW.z
 apply J2
 refine AW.q fun K J2=>?_
 apply AW.b
 refine AW.e [.val,.val,.val,.rd 0,.val,.val,.rd 0,.ext,.val,.wr] fol Tru Ji7 ?_
 apply Ja8
 apply J2
 refine AW.g Tru Tru ?_
 apply J1
 refine ARounds.s fun K J1=>?_
 refine AW.q fun K J2=>?_
 refine AW.c 1 Tru Tru ?_
 apply AW.y rfl
 apply AW.z
 apply J2
 refine AW.q fun K J2=>?_
 apply AW.b
 refine AW.e [.val,.val,.val,.rd 0,.val,.val,.rd 0,.ext,.val,.wr] fol Tru Ji7 ?_
 apply Ja8
 apply J2
 refine AW.g Tru Tru ?_
 apply J1
 refine ARounds.s fun K J1=>?_
 refine AW.q fun K J2=>?_
 refine AW.c 1 Tru Tru ?_
 apply AW.y rfl
 apply AW.z
 apply J2
 refine AW.q fun K J2=>?_
 apply AW.b
 refine AW.e [.val,.val,.val,.rd 0,.val,.val,.rd 0,.ext,.val,.wr] fol Tru Ji7 ?_
 apply Ja8
 apply J2
 refine AW.g Tru Tru ?_
 apply J1
 refine ARounds.s fun K J1=>?_
 refine AW.q fun K J2=>?_
 refine AW.c 1 Tru Tru ?_
 apply AW.x rfl
 apply AW.v
 apply Jb0
 apply Jb0
 apply Ja6
 apply J0
 refine AW.c 1 Tru Tru ?_
 exact AW.ret (hQ _ _ _ (RetP.z hwf Tru))
theorem Xn7 (a0 a1 a2:Int)(m:Ja1):Ctr Tryz.prog 261 [.agg [.int .i64 a0,.int .i64 a1,.int .i64 a2]] m (.agg [.int .i64 (Jf8 0 a0),.int .i64 (Jf8 0 a1),.int .i64 (Jf8 0 a2)]) m:=by
 refine Ctr.en Tryz.func261 [.cell 2 59] 6 fun hwf Q hQ=>?_
 refine AW.c 2 Tru (Vu9 _ _ _ _ _ _ _) ?_
 exact AW.ret (hQ _ _ _ (RetP.z hwf Tru))
theorem Qh5 (a0 a1 a2 s:Int)(m:Ja1):Ctr Tryz.prog 120 [.agg [.int .i64 a0,.int .i64 a1,.int .i64 a2],.one (.int .i64 s)] m (.agg [.int .i64 (Je0 a0 s),.int .i64 (Je0 a1 s),.int .i64 (Je0 a2 s)]) m:=by
 refine Ctr.en Tryz.func120 [.cell 4 59] 18 fun hwf Q hQ=>?_
 refine AW.c 1 Tru Tru ?_
 refine AW.d [.val,.rd 0,.val,.ext,.val,.rd 0,.val,.ext,.val,.rd 0,.val,.ext,.val,.wr] fol Tru Jm7 ?_
 exact AW.ret (hQ _ _ _ (RetP.z hwf Tru))
theorem Kc1 (a0 a1 a2 s:Int)(m:Ja1):Ctr Tryz.prog 146 [.agg [.int .i64 a0,.int .i64 a1,.int .i64 a2],.one (.int .i64 s)] m (.agg [.int .i64 (Je0 a0 s),.int .i64 (Je0 a1 s),.int .i64 (Je0 a2 s)]) m:=by
 refine Ctr.en Tryz.func146 [.cell 4 54] 19 fun hwf Q hQ=>?_
 refine AW.c 2 Tru Tru ?_
 refine AW.q fun K J0=>?_
 refine AW.c 1 Tru Tru ?_
 apply AW.b
 refine AW.r 4 ?_
 refine ARounds.s fun K J1=>?_
 refine AW.q fun K J2=>?_
 refine AW.c 1 Tru Tru ?_
 apply AW.y rfl
 apply AW.z
 apply J2
 refine AW.q fun K J2=>?_
 apply AW.b
 refine AW.g Tru Jg6 ?_
 apply Ja8
 apply J2
 refine AW.g Tru Tru ?_
 apply J1
 refine ARounds.s fun K J1=>?_
 refine AW.q fun K J2=>?_
 refine AW.c 1 Tru Tru ?_
 apply AW.y rfl
 apply AW.z
 apply J2
 refine AW.q fun K J2=>?_
 apply AW.b
 refine AW.g Tru Jg6 ?_
 apply Ja8
 apply J2
 refine AW.g Tru Tru ?_
 apply J1
 refine ARounds.s fun K J1=>?_
 refine AW.q fun K J2=>?_
 refine AW.c 1 Tru Tru ?_
 apply AW.y rfl
 apply AW.z
 apply J2
 refine AW.q fun K J2=>?_
 apply AW.b
 refine AW.g Tru Jg6 ?_
 apply Ja8
 apply J2
 refine AW.g Tru Tru ?_
 apply J1
 refine ARounds.s fun K J1=>?_
 refine AW.q fun K J2=>?_
 refine AW.c 1 Tru Tru ?_
 apply AW.x rfl
 apply AW.v
 apply Jb0
 apply Jb0
 apply Ja6
 apply J0
 refine AW.c 1 Tru Tru ?_
 exact AW.ret (hQ _ _ _ (RetP.z hwf Tru))
theorem Xs1 (x y t:Int)(r:Nat)(m:Ja1)(h:m[r]?=some ⟨.fix,40,0,0,[.int .i64 t]⟩):Ctr Tryz.prog 189 [.one (.int .i64 x),.one (.int .i64 y),.one (.ptr r 0 0)] m (.one (.int .i64 (Je5 x y t))) m:=by
 refine Ctr.en Tryz.func189 [.tmp 5] 10 fun hwf Q hQ=>?_
 have U1:=ca2 h (Ja5 h)
 refine AW.c 2 U1 Vw8 ?_
 exact AW.ret (hQ _ _ _ (RetP.z hwf U1))
theorem Xn8 (a0 a1 a2 b0 b1 b2 t:Int)(m:Ja1):Ctr Tryz.prog 113 [.agg [.int .i64 a0,.int .i64 a1,.int .i64 a2],.agg [.int .i64 b0,.int .i64 b1,.int .i64 b2],.one (.int .i64 t)] m (.agg [.int .i64 (Je5 a0 b0 t),.int .i64 (Je5 a1 b1 t),.int .i64 (Je5 a2 b2 t)]) m:=by
 refine Ctr.en Tryz.func113 [.cell 6 59] 11 fun hwf Q hQ=>?_
 refine AW.sr 2 fun K J0=>?_
 simp only [push_cast,simprocAttr]
 refine CThen.by (Ki7 (fun x y=>Je5 x y t) 189 [(m.length+2,0,0)] _ _ _ _ _ _ _ fun p q L=>Xs1 p q t (m.length+2) _ (by simp only [List.append_assoc,List.cons_append,List.nil_append,push_cast,simprocAttr])) ?_
 simp only [push_cast,simprocAttr]
 apply J0
 exact AW.ret (hQ _ _ _ (RetP.z hwf Tru))
theorem Vz8 (a0 a1 a2 b0 b1 b2 t:Int)(m:Ja1):Ctr Tryz.prog 75 [.agg [.int .i64 a0,.int .i64 a1,.int .i64 a2],.agg [.int .i64 b0,.int .i64 b1,.int .i64 b2],.one (.int .i64 t)] m (.agg [.int .i64 (Je5 a0 b0 t),.int .i64 (Je5 a1 b1 t),.int .i64 (Je5 a2 b2 t)]) m:=by
 refine Ctr.en Tryz.func75 [.cell 6 54] 24 fun hwf Q hQ=>?_
 refine AW.c 2 Tru Tru ?_
 refine AW.q fun K J0=>?_
 refine AW.c 1 Tru Tru ?_
 apply AW.b
 refine AW.r 4 ?_
 refine ARounds.s fun K J1=>?_
 refine AW.q fun K J2=>?_
 refine AW.c 1 Tru Tru ?_
 apply AW.y rfl
 apply AW.z
 apply J2
 refine AW.q fun K J2=>?_
 apply AW.b
 refine AW.e [.val,.val,.val,.rd 0,.val,.val,.rd 0,.val,.ext,.val,.wr] fol Tru Ku3 ?_
 apply Ja8
 apply J2
 refine AW.g Tru Tru ?_
 apply J1
 refine ARounds.s fun K J1=>?_
 refine AW.q fun K J2=>?_
 refine AW.c 1 Tru Tru ?_
 apply AW.y rfl
 apply AW.z
 apply J2
 refine AW.q fun K J2=>?_
 apply AW.b
 refine AW.e [.val,.val,.val,.rd 0,.val,.val,.rd 0,.val,.ext,.val,.wr] fol Tru Ku3 ?_
 apply Ja8
 apply J2
 refine AW.g Tru Tru ?_
 apply J1
 refine ARounds.s fun K J1=>?_
 refine AW.q fun K J2=>?_
 refine AW.c 1 Tru Tru ?_
 apply AW.y rfl
 apply AW.z
 apply J2
 refine AW.q fun K J2=>?_
 apply AW.b
 refine AW.e [.val,.val,.val,.rd 0,.val,.val,.rd 0,.val,.ext,.val,.wr] fol Tru Ku3 ?_
 apply Ja8
 apply J2
 refine AW.g Tru Tru ?_
 apply J1
 refine ARounds.s fun K J1=>?_
 refine AW.q fun K J2=>?_
 refine AW.c 1 Tru Tru ?_
 apply AW.x rfl
 apply AW.v
 apply Jb0
 apply Jb0
 apply Ja6
 apply J0
 refine AW.c 1 Tru Tru ?_
 exact AW.ret (hQ _ _ _ (RetP.z hwf Tru))
def Qf8 (a0 a1 a2 b0 b1 b2:Int):Int:=Jd6 (Jd6 (Jd6 0 (Je0 a0 b0)) (Je0 a1 b1)) (Je0 a2 b2)
theorem Vv4 (r v:Nat)(a b c:Int)(m:Ja1)(hb:∃ k ez,m[r]?=some ⟨k,40,v,ez,[.int .i64 a,.int .i64 b,.int .i64 c]⟩):Ctr Tryz.prog 198 [.one (.sl r v 0 3)] m (.one (.int .i64 (Jd6 (Jd6 (Jd6 0 a) b) c))) m:=by
 refine Ctr.en Tryz.func198 [.tmp 2] 17 fun hwf Q hQ=>?_
 obtain ⟨k0,ez,hb⟩:=hb
 have hr:=Jb2 hb
 have U2:=ca2 hb (Ja5 hb)
 refine AW.c 2 U2 Tru ?_
 refine AW.q fun K J0=>?_
 refine AW.c 1 U2 Tru ?_
 apply AW.b
 refine AW.r 4 ?_
 refine ARounds.s fun K J1=>?_
 refine AW.c 1 U2 Tru ?_
 refine AW.ifT rfl ?_
 refine AW.q fun K J2=>?_
 apply AW.b
 refine AW.c 1 U2 Tru ?_
 refine AW.g U2 Jz2 ?_
 apply Ja8
 apply J2
 refine AW.g U2 Tru ?_
 apply J1
 refine ARounds.s fun K J1=>?_
 refine AW.c 1 U2 Tru ?_
 refine AW.ifT rfl ?_
 refine AW.q fun K J2=>?_
 apply AW.b
 refine AW.c 1 U2 Tru ?_
 refine AW.g U2 Jz2 ?_
 apply Ja8
 apply J2
 refine AW.g U2 Tru ?_
 apply J1
 refine ARounds.s fun K J1=>?_
 refine AW.c 1 U2 Tru ?_
 refine AW.ifT rfl ?_
 refine AW.q fun K J2=>?_
 apply AW.b
 refine AW.c 1 U2 Tru ?_
 refine AW.g U2 Jz2 ?_
 apply Ja8
 apply J2
 refine AW.g U2 Tru ?_
 apply J1
 refine ARounds.s fun K J1=>?_
 refine AW.c 1 U2 Tru ?_
 refine AW.q fun K J2=>?_
 apply AW.x rfl
 apply AW.v
 apply Jb0
 apply Jb0
 apply Ja6
 apply J0
 refine AW.c 1 U2 Tru ?_
 exact AW.ret (hQ _ _ _ (RetP.z hwf U2))
theorem Vv0 (a0 a1 a2 b0 b1 b2:Int)(m:Ja1):Ctr Tryz.prog 137 [.agg [.int .i64 a0,.int .i64 a1,.int .i64 a2],.agg [.int .i64 b0,.int .i64 b1,.int .i64 b2]] m (.one (.int .i64 (Qf8 a0 a1 a2 b0 b1 b2))) m:=by
 refine Ctr.en Tryz.func137 [.tmp 4] 22 fun hwf Q hQ=>?_
 refine AW.c 1 Tru Tru ?_
 refine AW.q fun K J0=>?_
 refine AW.draw [.val,.rd 0,.val,.rd 0,.ext,.val,.rd 0,.val,.rd 0,.ext,.val,.rd 0,.val,.rd 0,.ext,.ext,.ext,.val] fol (by decide) (by kernel_rfl) ?_
 iterate 3
  simp only [push_cast,simprocAttr]
  refine DCall.z (Jm7 _ _ _) ?_
 simp only [push_cast,simprocAttr]
 refine DExt.by (by first|rfl|exact (List.append_nil _).symm|(simp only [List.append_assoc,List.cons_append,List.nil_append];rfl)) ?_
 simp only [push_cast,simprocAttr]
 refine DCall.z (Vv4 _ 0 (Je0 a0 b0) (Je0 a1 b1) (Je0 a2 b2) _ ⟨.grow,1,by simp only [push_cast,simprocAttr]⟩) ?_
 simp only [push_cast,simprocAttr]
 apply J0
 refine AW.ret ?_
 refine hQ _ _ _ ?_
 first|refine RetP.drop0 (Or.inr rfl) ?_ ?_ hwf|refine RetP.drop (Or.inr rfl) ?_ ?_ hwf
 · simp only [Jd0,Ja7,Jb5,AV.tv,push_cast,simprocAttr,Qf8]
 rfl
theorem Qx9 (a0 a1 a2 b0 b1 b2:Int)(m:Ja1):Ctr Tryz.prog 155 [.agg [.int .i64 a0,.int .i64 a1,.int .i64 a2],.agg [.int .i64 b0,.int .i64 b1,.int .i64 b2]] m (.one (.int .i64 (Qf8 a0 a1 a2 b0 b1 b2))) m:=by
 refine Ctr.en Tryz.func155 [.tmp 4] 21 fun hwf Q hQ=>?_
 refine AW.c 2 Tru Tru ?_
 refine AW.q fun K J0=>?_
 refine AW.c 1 Tru Tru ?_
 apply AW.b
 refine AW.r 4 ?_
 refine ARounds.s fun K J1=>?_
 refine AW.q fun K J2=>?_
 refine AW.c 1 Tru Tru ?_
 apply AW.y rfl
 apply AW.z
 apply J2
 refine AW.q fun K J2=>?_
 apply AW.b
 refine AW.e [.val,.val,.val,.rd 0,.val,.val,.rd 0,.ext,.ext,.val] fol Tru (ca2 Jg6 Jp6) ?_
 apply Ja8
 apply J2
 refine AW.g Tru Tru ?_
 apply J1
 refine ARounds.s fun K J1=>?_
 refine AW.q fun K J2=>?_
 refine AW.c 1 Tru Tru ?_
 apply AW.y rfl
 apply AW.z
 apply J2
 refine AW.q fun K J2=>?_
 apply AW.b
 refine AW.e [.val,.val,.val,.rd 0,.val,.val,.rd 0,.ext,.ext,.val] fol Tru (ca2 Jg6 Jp6) ?_
 apply Ja8
 apply J2
 refine AW.g Tru Tru ?_
 apply J1
 refine ARounds.s fun K J1=>?_
 refine AW.q fun K J2=>?_
 refine AW.c 1 Tru Tru ?_
 apply AW.y rfl
 apply AW.z
 apply J2
 refine AW.q fun K J2=>?_
 apply AW.b
 refine AW.e [.val,.val,.val,.rd 0,.val,.val,.rd 0,.ext,.ext,.val] fol Tru (ca2 Jg6 Jp6) ?_
 apply Ja8
 apply J2
 refine AW.g Tru Tru ?_
 apply J1
 refine ARounds.s fun K J1=>?_
 refine AW.q fun K J2=>?_
 refine AW.c 1 Tru Tru ?_
 apply AW.x rfl
 apply AW.v
 apply Jb0
 apply Jb0
 apply Ja6
 apply J0
 refine AW.c 1 Tru Tru ?_
 refine AW.ret ?_
 refine hQ _ _ _ ?_
 first|refine RetP.drop0 (Or.inr rfl) ?_ ?_ hwf|refine RetP.drop (Or.inr rfl) ?_ ?_ hwf
 · simp only [Jd0,Ja7,Jb5,AV.tv,push_cast,simprocAttr,Qf8]
 rfl
theorem Vj0 (a0 a1 a2 b0 b1 b2:Int)(m:Ja1):Ctr Tryz.prog 110 [.agg [.int .i64 a0,.int .i64 a1,.int .i64 a2],.agg [.int .i64 b0,.int .i64 b1,.int .i64 b2]] m (.agg [.int .i64 (Jf8 (Je0 a1 b2) (Je0 a2 b1)),.int .i64 (Jf8 (Je0 a2 b0) (Je0 a0 b2)),.int .i64 (Jf8 (Je0 a0 b1) (Je0 a1 b0))]) m:=by
 refine Ctr.en Tryz.func110 [.cell 4 59] 39 fun hwf Q hQ=>?_
 refine AW.c 1 Tru Tru ?_
 refine AW.d [.val,.rd 0,.val,.rd 0,.ext,.val,.rd 0,.val,.rd 0,.ext,.ext,.val,.rd 0,.val,.rd 0,.ext,.val,.rd 0,.val,.rd 0,.ext,.ext,.val,.rd 0,.val,.rd 0,.ext,.val,.rd 0,.val,.rd 0,.ext,.ext,.val,.wr] fol Tru (ca2 Jm7 Js6) ?_
 exact AW.ret (hQ _ _ _ (RetP.z hwf Tru))
theorem Qy0 (a0 a1 a2 b0 b1 b2:Int)(m:Ja1):Ctr Tryz.prog 82 [.agg [.int .i64 a0,.int .i64 a1,.int .i64 a2],.agg [.int .i64 b0,.int .i64 b1,.int .i64 b2]] m (.agg [.int .i64 (Jf8 (Je0 a1 b2) (Je0 a2 b1)),.int .i64 (Jf8 (Je0 a2 b0) (Je0 a0 b2)),.int .i64 (Jf8 (Je0 a0 b1) (Je0 a1 b0))]) m:=by
 refine Ctr.en Tryz.func82 [.cell 4 54] 37 fun hwf Q hQ=>?_
 have tm1:Int.tmod 1 3=1:=rfl
 have tm2:Int.tmod 2 3=2:=rfl
 have tm3:Int.tmod 3 3=0:=rfl
 have tm4:Int.tmod 4 3=1:=rfl
 have U3:=ca4 tm1 tm2 tm3 tm4
 refine AW.c 2 U3 Tru ?_
 refine AW.q fun K J0=>?_
 refine AW.c 1 U3 Tru ?_
 apply AW.b
 refine AW.r 4 ?_
 refine ARounds.s fun K J1=>?_
 refine AW.q fun K J2=>?_
 refine AW.c 1 U3 Tru ?_
 apply AW.y rfl
 apply AW.z
 apply J2
 refine AW.q fun K J2=>?_
 apply AW.b
 refine AW.c 1 U3 Tru ?_
 refine AW.e [.val,.val,.val,.rd 0,.val,.val,.rd 0,.ext,.val,.val,.rd 0,.val,.val,.rd 0,.ext,.ext,.val,.wr] fol U3 (ca2 Jg6 Ji7) ?_
 apply Ja8
 apply J2
 refine AW.g U3 Tru ?_
 apply J1
 refine ARounds.s fun K J1=>?_
 refine AW.q fun K J2=>?_
 refine AW.c 1 U3 Tru ?_
 apply AW.y rfl
 apply AW.z
 apply J2
 refine AW.q fun K J2=>?_
 apply AW.b
 refine AW.c 1 U3 Tru ?_
 refine AW.e [.val,.val,.val,.rd 0,.val,.val,.rd 0,.ext,.val,.val,.rd 0,.val,.val,.rd 0,.ext,.ext,.val,.wr] fol U3 (ca2 Jg6 Ji7) ?_
 apply Ja8
 apply J2
 refine AW.g U3 Tru ?_
 apply J1
 refine ARounds.s fun K J1=>?_
 refine AW.q fun K J2=>?_
 refine AW.c 1 U3 Tru ?_
 apply AW.y rfl
 apply AW.z
 apply J2
 refine AW.q fun K J2=>?_
 apply AW.b
 refine AW.c 1 U3 Tru ?_
 refine AW.e [.val,.val,.val,.rd 0,.val,.val,.rd 0,.ext,.val,.val,.rd 0,.val,.val,.rd 0,.ext,.ext,.val,.wr] fol U3 (ca2 Jg6 Ji7) ?_
 apply Ja8
 apply J2
 refine AW.g U3 Tru ?_
 apply J1
 refine ARounds.s fun K J1=>?_
 refine AW.q fun K J2=>?_
 refine AW.c 1 U3 Tru ?_
 apply AW.x rfl
 apply AW.v
 apply Jb0
 apply Jb0
 apply Ja6
 apply J0
 refine AW.c 1 U3 Tru ?_
 exact AW.ret (hQ _ _ _ (RetP.z hwf U3))
theorem Xn9 (a0 a1 a2:Int)(m:Ja1):Ctr Tryz.prog 186 [.agg [.int .i64 a0,.int .i64 a1,.int .i64 a2]] m (.one (.int .i64 (Jo0 (Qf8 a0 a1 a2 a0 a1 a2)))) m:=by
 refine Ctr.en Tryz.func186 [.tmp 2] 7 fun hwf Q hQ=>?_
 refine AW.c 2 Tru (ca2 (Vv0 _ _ _ _ _ _ _) Kz4) ?_
 exact AW.ret (hQ _ _ _ (RetP.z hwf Tru))
theorem Vz9 (a0 a1 a2:Int)(m:Ja1):Ctr Tryz.prog 165 [.agg [.int .i64 a0,.int .i64 a1,.int .i64 a2]] m (.one (.int .i64 (Jo0 (Qf8 a0 a1 a2 a0 a1 a2)))) m:=by
 refine Ctr.en Tryz.func165 [.tmp 2] 7 fun hwf Q hQ=>?_
 refine AW.c 2 Tru (ca2 (Qx9 _ _ _ _ _ _ _) Kk4) ?_
 exact AW.ret (hQ _ _ _ (RetP.z hwf Tru))
def Qf9 (x y z a b c:Int):Int:=Jd6 (Jd6 (Jd6 0 (Je0 x a)) (Je0 y b)) (Je0 z c)
theorem Qd7 (r v:Nat)(c00 c01 c02 c10 c11 c12 c20 c21 c22:Int)(m:Ja1)(hb:∃ k ez,m[r]?=some ⟨k,59,v,ez,[.int .i64 c00,.int .i64 c01,.int .i64 c02,.int .i64 c10,.int .i64 c11,.int .i64 c12,.int .i64 c20,.int .i64 c21,.int .i64 c22]⟩):Ctr Tryz.prog 119 [.one (.sl r v 0 3)] m (.agg [.int .i64 (Jd6 (Jd6 (Jd6 0 c00) c10) c20),.int .i64 (Jd6 (Jd6 (Jd6 0 c01) c11) c21),.int .i64 (Jd6 (Jd6 (Jd6 0 c02) c12) c22)]) m:=by
 refine Ctr.en Tryz.func119 [.cell 2 59] 17 fun hwf Q hQ=>?_
 obtain ⟨k0,ez,hb⟩:=hb
 have hr:=Jb2 hb
 have U4:=ca2 hb (Ja5 hb)
 refine AW.c 2 U4 Tru ?_
 refine AW.q fun K J0=>?_
 refine AW.c 1 U4 Tru ?_
 apply AW.b
 refine AW.r 4 ?_
 refine ARounds.s fun K J1=>?_
 refine AW.c 1 U4 Tru ?_
 refine AW.ifT rfl ?_
 refine AW.q fun K J2=>?_
 apply AW.b
 refine AW.c 1 U4 Tru ?_
 refine AW.g U4 (Kx8 _ _ _ _ _ _ _) ?_
 apply Ja8
 apply J2
 refine AW.g U4 Tru ?_
 apply J1
 refine ARounds.s fun K J1=>?_
 refine AW.c 1 U4 Tru ?_
 refine AW.ifT rfl ?_
 refine AW.q fun K J2=>?_
 apply AW.b
 refine AW.c 1 U4 Tru ?_
 refine AW.g U4 (Kx8 _ _ _ _ _ _ _) ?_
 apply Ja8
 apply J2
 refine AW.g U4 Tru ?_
 apply J1
 refine ARounds.s fun K J1=>?_
 refine AW.c 1 U4 Tru ?_
 refine AW.ifT rfl ?_
 refine AW.q fun K J2=>?_
 apply AW.b
 refine AW.c 1 U4 Tru ?_
 refine AW.g U4 (Kx8 _ _ _ _ _ _ _) ?_
 apply Ja8
 apply J2
 refine AW.g U4 Tru ?_
 apply J1
 refine ARounds.s fun K J1=>?_
 refine AW.c 1 U4 Tru ?_
 refine AW.q fun K J2=>?_
 apply AW.x rfl
 apply AW.v
 apply Jb0
 apply Jb0
 apply Ja6
 apply J0
 refine AW.c 1 U4 Tru ?_
 exact AW.ret (hQ _ _ _ (RetP.z hwf U4))
theorem Vw4 (x0 x1 x2 y0 y1 y2 z0 z1 z2 t0 t1 t2 a0 a1 a2:Int)(m:Ja1):Ctr Tryz.prog 250 [.agg [.int .i64 x0,.int .i64 x1,.int .i64 x2,.int .i64 y0,.int .i64 y1,.int .i64 y2,.int .i64 z0,.int .i64 z1,.int .i64 z2,.int .i64 t0,.int .i64 t1,.int .i64 t2],.agg [.int .i64 a0,.int .i64 a1,.int .i64 a2]] m (.agg [.int .i64 (Qf9 x0 y0 z0 a0 a1 a2),.int .i64 (Qf9 x1 y1 z1 a0 a1 a2),.int .i64 (Qf9 x2 y2 z2 a0 a1 a2)]) m:=by
 refine Ctr.en Tryz.func250 [.cell 4 59] 22 fun hwf Q hQ=>?_
 refine AW.c 1 Tru Tru ?_
 refine AW.q fun K J0=>?_
 refine AW.draw [.val,.rd 0,.val,.rd 0,.ext,.val,.rd 0,.val,.rd 0,.ext,.val,.rd 0,.val,.rd 0,.ext,.ext,.ext,.wr] fol (by decide) (by kernel_rfl) ?_
 iterate 3
  simp only [push_cast,simprocAttr]
  refine DCall.z (Qh5 _ _ _ _ _) ?_
 simp only [push_cast,simprocAttr]
 refine DExt.by (by first|rfl|exact (List.append_nil _).symm|(simp only [List.append_assoc,List.cons_append,List.nil_append];rfl)) ?_
 simp only [push_cast,simprocAttr]
 refine DCall.z (Qd7 _ 0 (Je0 x0 a0) (Je0 x1 a0) (Je0 x2 a0) (Je0 y0 a1) (Je0 y1 a1) (Je0 y2 a1) (Je0 z0 a2) (Je0 z1 a2) (Je0 z2 a2) _ ⟨.grow,3,by simp only [push_cast,simprocAttr]⟩) ?_
 simp only [push_cast,simprocAttr]
 apply J0
 refine AW.ret ?_
 refine hQ _ _ _ ?_
 first|refine RetP.drop0 (Or.inr rfl) ?_ ?_ hwf|refine RetP.drop (Or.inr rfl) ?_ ?_ hwf
 · simp only [Jd0,Ja7,Jb5,AV.tv,push_cast,simprocAttr,Qf9]
 rfl
theorem Vo3 (x0 x1 x2 y0 y1 y2 z0 z1 z2 t0 t1 t2 a0 a1 a2:Int)(m:Ja1):Ctr Tryz.prog 222 [.agg [.int .i64 x0,.int .i64 x1,.int .i64 x2,.int .i64 y0,.int .i64 y1,.int .i64 y2,.int .i64 z0,.int .i64 z1,.int .i64 z2,.int .i64 t0,.int .i64 t1,.int .i64 t2],.agg [.int .i64 a0,.int .i64 a1,.int .i64 a2]] m (.agg [.int .i64 (Jd6 (Qf9 x0 y0 z0 a0 a1 a2) t0),.int .i64 (Jd6 (Qf9 x1 y1 z1 a0 a1 a2) t1),.int .i64 (Jd6 (Qf9 x2 y2 z2 a0 a1 a2) t2)]) m:=by
 refine Ctr.en Tryz.func222 [.cell 4 59] 11 fun hwf Q hQ=>?_
 refine AW.c 1 Tru Tru ?_
 refine AW.d [.rd 0,.rd 0,.ext,.val,.rd 0,.ext,.wr] fol Tru (ca2 (Vw4 _ _ _ _ _ _ _ _ _ _ _ _ _ _ _ _ ) (Kx8 _ _ _ _ _ _ _)) ?_
 exact AW.ret (hQ _ _ _ (RetP.z hwf Tru))
theorem Qz1 (x0 x1 x2 y0 y1 y2 z0 z1 z2 t0 t1 t2 a0 a1 a2:Int)(m:Ja1):Ctr Tryz.prog 208 [.agg [.int .i64 x0,.int .i64 x1,.int .i64 x2,.int .i64 y0,.int .i64 y1,.int .i64 y2,.int .i64 z0,.int .i64 z1,.int .i64 z2,.int .i64 t0,.int .i64 t1,.int .i64 t2],.agg [.int .i64 a0,.int .i64 a1,.int .i64 a2]] m (.agg [.int .i64 (Qf9 x0 y0 z0 a0 a1 a2),.int .i64 (Qf9 x1 y1 z1 a0 a1 a2),.int .i64 (Qf9 x2 y2 z2 a0 a1 a2)]) m:=by
 refine Ctr.en Tryz.func208 [.cell 4 54] 22 fun hwf Q hQ=>?_
 refine AW.c 2 Tru Tru ?_
 refine AW.q fun K J0=>?_
 refine AW.c 1 Tru Tru ?_
 apply AW.b
 refine AW.r 4 ?_
 refine ARounds.s fun K J1=>?_
 refine AW.q fun K J2=>?_
 refine AW.c 1 Tru Tru ?_
 apply AW.y rfl
 apply AW.z
 apply J2
 refine AW.q fun K J2=>?_
 apply AW.b
 refine AW.e [.rd 0,.val,.val,.val,.rd 0,.val,.val,.rd 0,.ext,.ext,.wr] fol Tru (ca2 (Kc1 _ _ _ _ _) (Kj7 _ _ _ _ _ _ _)) ?_
 apply Ja8
 apply J2
 refine AW.g Tru Tru ?_
 apply J1
 refine ARounds.s fun K J1=>?_
 refine AW.q fun K J2=>?_
 refine AW.c 1 Tru Tru ?_
 apply AW.y rfl
 apply AW.z
 apply J2
 refine AW.q fun K J2=>?_
 apply AW.b
 refine AW.e [.rd 0,.val,.val,.val,.rd 0,.val,.val,.rd 0,.ext,.ext,.wr] fol Tru (ca2 (Kc1 _ _ _ _ _) (Kj7 _ _ _ _ _ _ _)) ?_
 apply Ja8
 apply J2
 refine AW.g Tru Tru ?_
 apply J1
 refine ARounds.s fun K J1=>?_
 refine AW.q fun K J2=>?_
 refine AW.c 1 Tru Tru ?_
 apply AW.y rfl
 apply AW.z
 apply J2
 refine AW.q fun K J2=>?_
 apply AW.b
 refine AW.e [.rd 0,.val,.val,.val,.rd 0,.val,.val,.rd 0,.ext,.ext,.wr] fol Tru (ca2 (Kc1 _ _ _ _ _) (Kj7 _ _ _ _ _ _ _)) ?_
 apply Ja8
 apply J2
 refine AW.g Tru Tru ?_
 apply J1
 refine ARounds.s fun K J1=>?_
 refine AW.q fun K J2=>?_
 refine AW.c 1 Tru Tru ?_
 apply AW.x rfl
 apply AW.v
 apply Jb0
 apply Jb0
 apply Ja6
 apply J0
 refine AW.c 1 Tru Tru ?_
 refine AW.ret ?_
 refine hQ _ _ _ ?_
 first|refine RetP.drop0 (Or.inr rfl) ?_ ?_ hwf|refine RetP.drop (Or.inr rfl) ?_ ?_ hwf
 · simp only [Jd0,Ja7,Jb5,AV.tv,push_cast,simprocAttr,Qf9]
 rfl
theorem Qz0 (x0 x1 x2 y0 y1 y2 z0 z1 z2 t0 t1 t2 a0 a1 a2:Int)(m:Ja1):Ctr Tryz.prog 162 [.agg [.int .i64 x0,.int .i64 x1,.int .i64 x2,.int .i64 y0,.int .i64 y1,.int .i64 y2,.int .i64 z0,.int .i64 z1,.int .i64 z2,.int .i64 t0,.int .i64 t1,.int .i64 t2],.agg [.int .i64 a0,.int .i64 a1,.int .i64 a2]] m (.agg [.int .i64 (Jd6 (Qf9 x0 y0 z0 a0 a1 a2) t0),.int .i64 (Jd6 (Qf9 x1 y1 z1 a0 a1 a2) t1),.int .i64 (Jd6 (Qf9 x2 y2 z2 a0 a1 a2) t2)]) m:=by
 refine Ctr.en Tryz.func162 [.cell 4 54] 11 fun hwf Q hQ=>?_
 refine AW.c 1 Tru Tru ?_
 refine AW.d [.rd 0,.rd 0,.ext,.val,.rd 0,.ext,.wr] fol Tru (ca2 (Qz1 _ _ _ _ _ _ _ _ _ _ _ _ _ _ _ _ ) (Kj7 _ _ _ _ _ _ _)) ?_
 exact AW.ret (hQ _ _ _ (RetP.z hwf Tru))
def Jd9 (a b:V):V:=fun k=>Jd6 (a k) (b k)
def Jb4 (a b:V):V:=fun k=>Jf8 (a k) (b k)
def Je1 (a:V)(s:Int):V:=fun k=>Je0 (a k) s
def Kg7 (a b:V)(t:Int):V:=fun k=>Je5 (a k) (b k) t
noncomputable def Jb8 (a:V):V:=fun k=>if Jo0 (Qf8 (a 0) (a 1) (a 2) (a 0) (a 1) (a 2))=0 then 0 else Jh2 (a k) (Jo0 (Qf8 (a 0) (a 1) (a 2) (a 0) (a 1) (a 2)))
def Je9 (a b:V):Int:=Qf8 (a 0) (a 1) (a 2) (b 0) (b 1) (b 2)
noncomputable def Kb2 (a:V):Int:=Jo0 (Je9 a a)
def Jd4 (a b:V):V
 | 0=>Jf8 (Je0 (a 1) (b 2)) (Je0 (a 2) (b 1))
 | 1=>Jf8 (Je0 (a 2) (b 0)) (Je0 (a 0) (b 2))
 | _+2=>Jf8 (Je0 (a 0) (b 1)) (Je0 (a 1) (b 0))
def Vi9 (a:V):V:=fun k=>Jf8 0 (a k)
def v3V (x y z:Int):V
 | 0=>x
 | 1=>y
 | _+2=>z
def z0V:V:=fun _=>0
abbrev MT:=Nat->Nat->Int
def mC (M:MT):List CV:=[.int .i64 (M 0 0),.int .i64 (M 0 1),.int .i64 (M 0 2),.int .i64 (M 1 0),.int .i64 (M 1 1),.int .i64 (M 1 2),.int .i64 (M 2 0),.int .i64 (M 2 1),.int .i64 (M 2 2),.int .i64 (M 3 0),.int .i64 (M 3 1),.int .i64 (M 3 2)]
def Xn4 (M:MT)(a:V):V:=fun k=>Qf9 (M 0 k) (M 1 k) (M 2 k) (a 0) (a 1) (a 2)
def Jo6 (M:MT)(a:V):V:=fun k=>Jd6 (Xn4 M a k) (M 3 k)
def Jo5 (M N:MT):MT
 | 0=>Xn4 M (N 0)
 | 1=>Xn4 M (N 1)
 | 2=>Xn4 M (N 2)
 | _+3=>Jo6 M (N 3)
def Jt8 (s:Int):MT
 | 0,0=>s
 | 1,1=>s
 | 2,2=>s
 | _,_=>0
def Km4 (v:V):MT
 | 0,0=>65536
 | 1,1=>65536
 | 2,2=>65536
 | 3,k=>v k
 | _,_=>0
def Qw2 (a:Int):MT
 | 0,0=>65536
 | 1,1=>Qg1 a
 | 1,2=>Kb0 a
 | 2,1=>-Kb0 a
 | 2,2=>Qg1 a
 | _,_=>0
def Qw1 (a:Int):MT
 | 0,0=>Qg1 a
 | 0,2=>-Kb0 a
 | 1,1=>65536
 | 2,0=>Kb0 a
 | 2,2=>Qg1 a
 | _,_=>0
def Qw0 (a:Int):MT
 | 0,0=>Qg1 a
 | 0,1=>Kb0 a
 | 1,0=>-Kb0 a
 | 1,1=>Qg1 a
 | 2,2=>65536
 | _,_=>0
def Kg3 (A B C:MT):MT:=Jo5 (Jo5 (Jo5 (Jt8 65536) A) B) C
def Jw8 (v:V):MT:=Kg3 (Qw2 (v 0)) (Qw1 (v 1)) (Qw0 (v 2))
theorem Ju3 (a:Int):IntKind.i64.wrap (-Kb0 a)=-Kb0 a:=wi (by have:=Qx3 a;omega)
theorem Qg8 (a b:V)(m:Ja1):Ctr Tryz.prog 136 [.agg (c3C a),.agg (c3C b)] m (.agg (c3C (Jd9 a b))) m:=Kx8 _ _ _ _ _ _ m
theorem Ju1 (a b:V)(m:Ja1):Ctr Tryz.prog 145 [.agg (c3C a),.agg (c3C b)] m (.agg (c3C (Jd9 a b))) m:=Kj7 _ _ _ _ _ _ m
theorem Jk4 (a b:V)(m:Ja1):Ctr Tryz.prog 107 [.agg (c3C a),.agg (c3C b)] m (.agg (c3C (Jb4 a b))) m:=Vu9 _ _ _ _ _ _ m
theorem Jg3 (a b:V)(m:Ja1):Ctr Tryz.prog 81 [.agg (c3C a),.agg (c3C b)] m (.agg (c3C (Jb4 a b))) m:=Vz6 _ _ _ _ _ _ m
theorem Jn7 (a b:V)(m:Ja1):Ctr Tryz.prog 110 [.agg (c3C a),.agg (c3C b)] m (.agg (c3C (Jd4 a b))) m:=Vj0 _ _ _ _ _ _ m
theorem Ji9 (a b:V)(m:Ja1):Ctr Tryz.prog 82 [.agg (c3C a),.agg (c3C b)] m (.agg (c3C (Jd4 a b))) m:=Qy0 _ _ _ _ _ _ m
theorem Jv1 (a:V)(s:Int)(m:Ja1):Ctr Tryz.prog 120 [.agg (c3C a),.one (.int .i64 s)] m (.agg (c3C (Je1 a s))) m:=Qh5 _ _ _ _ m
theorem Jp8 (a:V)(s:Int)(m:Ja1):Ctr Tryz.prog 146 [.agg (c3C a),.one (.int .i64 s)] m (.agg (c3C (Je1 a s))) m:=Kc1 _ _ _ _ m
theorem Kh1 (a b:V)(t:Int)(m:Ja1):Ctr Tryz.prog 113 [.agg (c3C a),.agg (c3C b),.one (.int .i64 t)] m (.agg (c3C (Kg7 a b t))) m:=Xn8 _ _ _ _ _ _ _ m
theorem Kc3 (a b:V)(t:Int)(m:Ja1):Ctr Tryz.prog 75 [.agg (c3C a),.agg (c3C b),.one (.int .i64 t)] m (.agg (c3C (Kg7 a b t))) m:=Vz8 _ _ _ _ _ _ _ m
theorem Jg7 (a b:V)(m:Ja1):Ctr Tryz.prog 137 [.agg (c3C a),.agg (c3C b)] m (.one (.int .i64 (Je9 a b))) m:=Vv0 _ _ _ _ _ _ m
theorem Je3 (a b:V)(m:Ja1):Ctr Tryz.prog 155 [.agg (c3C a),.agg (c3C b)] m (.one (.int .i64 (Je9 a b))) m:=Qx9 _ _ _ _ _ _ m
theorem Vp7 (a:V)(m:Ja1):Ctr Tryz.prog 186 [.agg (c3C a)] m (.one (.int .i64 (Kb2 a))) m:=Xn9 _ _ _ m
theorem Qj0 (a:V)(m:Ja1):Ctr Tryz.prog 165 [.agg (c3C a)] m (.one (.int .i64 (Kb2 a))) m:=Vz9 _ _ _ m
theorem neg_v (a:V)(m:Ja1):Ctr Tryz.prog 261 [.agg (c3C a)] m (.agg (c3C (Vi9 a))) m:=Xn7 _ _ _ m
theorem Xj7 (M:MT)(a:V)(m:Ja1):Ctr Tryz.prog 250 [.agg (mC (M)),.agg (c3C a)] m (.agg (c3C (Xn4 M a))) m:=Vw4 _ _ _ _ _ _ _ _ _ _ _ _ _ _ _ m
theorem Va1 (M:MT)(a:V)(m:Ja1):Ctr Tryz.prog 208 [.agg (mC (M)),.agg (c3C a)] m (.agg (c3C (Xn4 M a))) m:=Qz1 _ _ _ _ _ _ _ _ _ _ _ _ _ _ _ m
theorem Jv4 (M:MT)(a:V)(m:Ja1):Ctr Tryz.prog 222 [.agg (mC (M)),.agg (c3C a)] m (.agg (c3C (Jo6 M a))) m:=Vo3 _ _ _ _ _ _ _ _ _ _ _ _ _ _ _ m
theorem Kc2 (M:MT)(a:V)(m:Ja1):Ctr Tryz.prog 162 [.agg (mC (M)),.agg (c3C a)] m (.agg (c3C (Jo6 M a))) m:=Qz0 _ _ _ _ _ _ _ _ _ _ _ _ _ _ _ m
theorem Vy4 (a:V)(m:Ja1)(hk:(Kb2 a ==0)=true):Ctr Tryz.prog 106 [.agg (c3C a)] m (.agg (c3C (Jb8 a))) m:=by
 refine Ctr.en Tryz.func106 [.cell 2 59] 22 fun hwf Q hQ=>?_
 have hv:Jb8 a=fun _=>0:=by
   funext k;unfold Jb8
   have:Jo0 (Qf8 (a 0) (a 1) (a 2) (a 0) (a 1) (a 2))=Kb2 a:=rfl
   rw [this,if_pos (eq_of_beq hk)]
 rw [hv] at hQ
 have U1:=ca2 @Ja4 hk
 refine AW.c 2 U1 (Vp7 a) ?_
 refine AW.q fun K J0=>?_
 refine AW.c 1 U1 Tru ?_
 apply AW.y rfl
 refine AW.c 1 U1 Tru ?_
 exact AW.ret (hQ _ _ _ (RetP.z hwf U1))
theorem Vk0 (a:V)(m:Ja1)(hk:(Kb2 a ==0)=true):Ctr Tryz.prog 80 [.agg (c3C a)] m (.agg (c3C (Jb8 a))) m:=by
 refine Ctr.en Tryz.func80 [.cell 2 54] 23 fun hwf Q hQ=>?_
 have hv:Jb8 a=fun _=>0:=by
   funext k;unfold Jb8
   have:Jo0 (Qf8 (a 0) (a 1) (a 2) (a 0) (a 1) (a 2))=Kb2 a:=rfl
   rw [this,if_pos (eq_of_beq hk)]
 rw [hv] at hQ
 have U2:=ca2 @Ja4 hk
 refine AW.c 2 U2 (Qj0 a) ?_
 refine AW.q fun K J0=>?_
 refine AW.c 1 U2 Tru ?_
 apply AW.y rfl
 refine AW.c 1 U2 Tru ?_
 exact AW.ret (hQ _ _ _ (RetP.z hwf U2))
theorem Vy3 (a:V)(m:Ja1)(hk:(Kb2 a ==0)=false):Ctr Tryz.prog 106 [.agg (c3C a)] m (.agg (c3C (Jb8 a))) m:=by
 refine Ctr.en Tryz.func106 [.cell 2 59] 22 fun hwf Q hQ=>?_
 have hv:Jb8 a=fun k=>Jh2 (a k) (Kb2 a):=by
   funext k;unfold Jb8
   have:Jo0 (Qf8 (a 0) (a 1) (a 2) (a 0) (a 1) (a 2))=Kb2 a:=rfl
   rw [this,if_neg (by simpa using hk)]
 rw [hv] at hQ
 have U3:=ca2 @Ja4 hk
 refine AW.c 2 U3 (Vp7 a) ?_
 refine AW.q fun K J0=>?_
 refine AW.c 1 U3 Tru ?_
 apply AW.x rfl
 apply AW.z
 apply J0
 refine AW.d [.val,.rd 0,.val,.ext,.val,.rd 0,.val,.ext,.val,.rd 0,.val,.ext,.val,.wr] fol U3 Jr4 ?_
 exact AW.ret (hQ _ _ _ (RetP.z hwf U3))
theorem Vj9 (a:V)(m:Ja1)(hk:(Kb2 a ==0)=false):Ctr Tryz.prog 80 [.agg (c3C a)] m (.agg (c3C (Jb8 a))) m:=by
 refine Ctr.en Tryz.func80 [.cell 2 54] 23 fun hwf Q hQ=>?_
 have hv:Jb8 a=fun k=>Jh2 (a k) (Kb2 a):=by
   funext k;unfold Jb8
   have:Jo0 (Qf8 (a 0) (a 1) (a 2) (a 0) (a 1) (a 2))=Kb2 a:=rfl
   rw [this,if_neg (by simpa using hk)]
 rw [hv] at hQ
 have U4:=ca2 @Ja4 hk
 refine AW.c 2 U4 (Qj0 a) ?_
 refine AW.q fun K J0=>?_
 refine AW.c 1 U4 Tru ?_
 apply AW.x rfl
 apply AW.z
 apply J0
 refine AW.c 1 U4 Tru ?_
 refine AW.q fun K J0=>?_
 refine AW.c 1 U4 Tru ?_
 apply AW.b
 refine AW.r 4 ?_
 refine ARounds.s fun K J1=>?_
 refine AW.q fun K J2=>?_
 refine AW.c 1 U4 Tru ?_
 apply AW.y rfl
 apply AW.z
 apply J2
 refine AW.q fun K J2=>?_
 apply AW.b
 refine AW.g U4 Jh6 ?_
 apply Ja8
 apply J2
 refine AW.g U4 Tru ?_
 apply J1
 refine ARounds.s fun K J1=>?_
 refine AW.q fun K J2=>?_
 refine AW.c 1 U4 Tru ?_
 apply AW.y rfl
 apply AW.z
 apply J2
 refine AW.q fun K J2=>?_
 apply AW.b
 refine AW.g U4 Jh6 ?_
 apply Ja8
 apply J2
 refine AW.g U4 Tru ?_
 apply J1
 refine ARounds.s fun K J1=>?_
 refine AW.q fun K J2=>?_
 refine AW.c 1 U4 Tru ?_
 apply AW.y rfl
 apply AW.z
 apply J2
 refine AW.q fun K J2=>?_
 apply AW.b
 refine AW.g U4 Jh6 ?_
 apply Ja8
 apply J2
 refine AW.g U4 Tru ?_
 apply J1
 refine ARounds.s fun K J1=>?_
 refine AW.q fun K J2=>?_
 refine AW.c 1 U4 Tru ?_
 apply AW.x rfl
 apply AW.v
 apply Jb0
 apply Jb0
 apply Ja6
 apply J0
 refine AW.c 1 U4 Tru ?_
 exact AW.ret (hQ _ _ _ (RetP.z hwf U4))
theorem Jr5 (a:V)(m:Ja1):Ctr Tryz.prog 106 [.agg (c3C a)] m (.agg (c3C (Jb8 a))) m:=by
 cases hk:Kb2 a ==0
 ·exact Vy3 a m hk
 exact Vy4 a m hk
theorem Jn1 (a:V)(m:Ja1):Ctr Tryz.prog 80 [.agg (c3C a)] m (.agg (c3C (Jb8 a))) m:=by
 cases hk:Kb2 a ==0
 ·exact Vj9 a m hk
 exact Vk0 a m hk
theorem Qi1 (s:Int)(m:Ja1):Ctr Tryz.prog 218 [.one (.int .i64 s)] m (.agg (mC (Jt8 s))) m:=by
 refine Ctr.en Tryz.func218 [.cell 2 342] 10 fun hwf Q hQ=>?_
 refine AW.c 2 Tru Tru ?_
 exact AW.ret (hQ _ _ _ (RetP.z hwf Tru))
theorem Jz9 (s:Int)(m:Ja1):Ctr Tryz.prog 203 [.one (.int .i64 s)] m (.agg (mC (Jt8 s))) m:=by
 refine Ctr.en Tryz.func203 [.cell 2 288] 16 fun hwf Q hQ=>?_
 refine AW.c 2 Tru Tru ?_
 refine AW.q fun K J0=>?_
 refine AW.c 1 Tru Tru ?_
 apply AW.b
 refine AW.r 4 ?_
 refine ARounds.s fun K J1=>?_
 refine AW.q fun K J2=>?_
 refine AW.c 1 Tru Tru ?_
 apply AW.y rfl
 apply AW.z
 apply J2
 refine AW.q fun K J2=>?_
 apply AW.b
 refine AW.g Tru Tru ?_
 apply Ja8
 apply J2
 refine AW.g Tru Tru ?_
 apply J1
 refine ARounds.s fun K J1=>?_
 refine AW.q fun K J2=>?_
 refine AW.c 1 Tru Tru ?_
 apply AW.y rfl
 apply AW.z
 apply J2
 refine AW.q fun K J2=>?_
 apply AW.b
 refine AW.g Tru Tru ?_
 apply Ja8
 apply J2
 refine AW.g Tru Tru ?_
 apply J1
 refine ARounds.s fun K J1=>?_
 refine AW.q fun K J2=>?_
 refine AW.c 1 Tru Tru ?_
 apply AW.y rfl
 apply AW.z
 apply J2
 refine AW.q fun K J2=>?_
 apply AW.b
 refine AW.g Tru Tru ?_
 apply Ja8
 apply J2
 refine AW.g Tru Tru ?_
 apply J1
 refine ARounds.s fun K J1=>?_
 refine AW.q fun K J2=>?_
 refine AW.c 1 Tru Tru ?_
 apply AW.x rfl
 apply AW.v
 apply Jb0
 apply Jb0
 apply Ja6
 apply J0
 refine AW.c 1 Tru Tru ?_
 exact AW.ret (hQ _ _ _ (RetP.z hwf Tru))
theorem Kh2 (M:MT):mC M=([.int .i64 (M 0 0),.int .i64 (M 0 1),.int .i64 (M 0 2),.int .i64 (M 1 0),.int .i64 (M 1 1),.int .i64 (M 1 2),.int .i64 (M 2 0),.int .i64 (M 2 1),.int .i64 (M 2 2),.int .i64 (M 3 0),.int .i64 (M 3 1),.int .i64 (M 3 2)]):=rfl
theorem Kr2 (m:Ja1):Ctr Tryz.prog 248 [] m (.agg (mC (Jt8 65536))) m:=by
 refine Ctr.en Tryz.func248 [.cell 0 342] 2 fun hwf Q hQ=>?_
 refine AW.c 2 @Kh2 Qi1 ?_
 exact AW.ret (hQ _ _ _ (RetP.z hwf Tru))
theorem Vc8 (v:V)(m:Ja1):Ctr Tryz.prog 216 [.agg (c3C v)] m (.agg (mC (Km4 v))) m:=by
 refine Ctr.en Tryz.func216 [.cell 2 342] 8 fun hwf Q hQ=>?_
 have U5:=ca2 @Kh2 @Ja4
 refine AW.c 4 U5 Kr2 ?_
 exact AW.ret (hQ _ _ _ (RetP.z hwf Tru))
theorem Xb6 (v:V)(m:Ja1):Ctr Tryz.prog 205 [.agg (c3C v)] m (.agg (mC (Km4 v))) m:=by
 refine Ctr.en Tryz.func205 [.cell 2 288] 8 fun hwf Q hQ=>?_
 have U6:=ca2 @Kh2 @Ja4
 refine AW.c 4 U6 Jz9 ?_
 exact AW.ret (hQ _ _ _ (RetP.z hwf Tru))
theorem Ke1 (M N:MT)(m:Ja1):Ctr Tryz.prog 219 [.agg (mC (M)),.agg (mC (N))] m (.agg (mC (Jo5 M N))) m:=by
 refine Ctr.en Tryz.func219 [.cell 4 342] 22 fun hwf Q hQ=>?_
 have U7:=ca2 @Kh2 @Ja4
 refine AW.c 1 U7 Tru ?_
 refine AW.d [.rd 0,.val,.rd 0,.ext,.rd 0,.val,.rd 0,.ext,.rd 0,.val,.rd 0,.ext,.rd 0,.val,.rd 0,.ext,.val,.wr] fol U7 (ca4 (Xj7 M (N 0)) (Xj7 M (N 1)) (Xj7 M (N 2)) (Jv4 M (N 3))) ?_
 exact AW.ret (hQ _ _ _ (RetP.z hwf Tru))
theorem Kh4 (M N:MT)(m:Ja1):Ctr Tryz.prog 207 [.agg (mC (M)),.agg (mC (N))] m (.agg (mC (Jo5 M N))) m:=by
 refine Ctr.en Tryz.func207 [.cell 4 288] 26 fun hwf Q hQ=>?_
 have U8:=ca2 @Kh2 @Ja4
 refine AW.c 2 U8 Tru ?_
 refine AW.q fun K J0=>?_
 refine AW.c 1 U8 Tru ?_
 apply AW.b
 refine AW.r 4 ?_
 refine ARounds.s fun K J1=>?_
 refine AW.q fun K J2=>?_
 refine AW.c 1 U8 Tru ?_
 apply AW.y rfl
 apply AW.z
 apply J2
 refine AW.q fun K J2=>?_
 apply AW.b
 refine AW.e [.val,.rd 0,.val,.val,.val,.rd 0,.ext,.val,.val,.wr] fol U8 (Va1 M (N 0)) ?_
 apply Ja8
 apply J2
 refine AW.g U8 Tru ?_
 apply J1
 refine ARounds.s fun K J1=>?_
 refine AW.q fun K J2=>?_
 refine AW.c 1 U8 Tru ?_
 apply AW.y rfl
 apply AW.z
 apply J2
 refine AW.q fun K J2=>?_
 apply AW.b
 refine AW.e [.val,.rd 0,.val,.val,.val,.rd 0,.ext,.val,.val,.wr] fol U8 (Va1 M (N 1)) ?_
 apply Ja8
 apply J2
 refine AW.g U8 Tru ?_
 apply J1
 refine ARounds.s fun K J1=>?_
 refine AW.q fun K J2=>?_
 refine AW.c 1 U8 Tru ?_
 apply AW.y rfl
 apply AW.z
 apply J2
 refine AW.q fun K J2=>?_
 apply AW.b
 refine AW.e [.val,.rd 0,.val,.val,.val,.rd 0,.ext,.val,.val,.wr] fol U8 (Va1 M (N 2)) ?_
 apply Ja8
 apply J2
 refine AW.g U8 Tru ?_
 apply J1
 refine ARounds.s fun K J1=>?_
 refine AW.q fun K J2=>?_
 refine AW.c 1 U8 Tru ?_
 apply AW.x rfl
 apply AW.v
 apply Jb0
 apply Jb0
 apply Ja6
 apply J0
 refine AW.c 2 U8 (Kc2 M (N 3)) ?_
 exact AW.ret (hQ _ _ _ (RetP.z hwf Tru))
theorem Kx0 (r v:Nat)(A B C:MT)(m:Ja1)(hb:∃ k ez,m[r]?=some ⟨k,342,v,ez,mC A++(mC B++mC C)⟩):Ctr Tryz.prog 215 [.one (.sl r v 0 3)] m (.agg (mC (Kg3 A B C))) m:=by
 refine Ctr.en Tryz.func215 [.cell 2 342] 18 fun hwf Q hQ=>?_
 obtain ⟨k0,ez,hb⟩:=hb
 have lb:=Jb2 hb
 have U9:=ca3 hb (Ja5 hb) @Kh2
 refine AW.c 2 U9 Kr2 ?_
 refine AW.q fun K J0=>?_
 refine AW.c 1 U9 Tru ?_
 apply AW.b
 refine AW.r 4 ?_
 refine ARounds.s fun K J1=>?_
 refine AW.c 1 U9 Tru ?_
 refine AW.ifT rfl ?_
 refine AW.q fun K J2=>?_
 apply AW.b
 refine AW.c 1 U9 Tru ?_
 refine AW.g U9 (Ke1 (Jt8 65536) A) ?_
 apply Ja8
 apply J2
 refine AW.g U9 Tru ?_
 apply J1
 refine ARounds.s fun K J1=>?_
 refine AW.c 1 U9 Tru ?_
 refine AW.ifT rfl ?_
 refine AW.q fun K J2=>?_
 apply AW.b
 refine AW.c 1 U9 Tru ?_
 refine AW.g U9 (Ke1 (Jo5 (Jt8 65536) A) B) ?_
 apply Ja8
 apply J2
 refine AW.g U9 Tru ?_
 apply J1
 refine ARounds.s fun K J1=>?_
 refine AW.c 1 U9 Tru ?_
 refine AW.ifT rfl ?_
 refine AW.q fun K J2=>?_
 apply AW.b
 refine AW.c 1 U9 Tru ?_
 refine AW.g U9 (Ke1 (Jo5 (Jo5 (Jt8 65536) A) B) C) ?_
 apply Ja8
 apply J2
 refine AW.g U9 Tru ?_
 apply J1
 refine ARounds.s fun K J1=>?_
 refine AW.c 1 U9 Tru ?_
 refine AW.q fun K J2=>?_
 apply AW.x rfl
 apply AW.v
 apply Jb0
 apply Jb0
 apply Ja6
 apply J0
 refine AW.c 1 U9 Tru ?_
 exact AW.ret (hQ _ _ _ (RetP.z hwf Tru))
theorem Qj4 (r v:Nat)(A B C:MT)(m:Ja1)(hb:∃ k ez,m[r]?=some ⟨k,288,v,ez,mC A++(mC B++mC C)⟩):Ctr Tryz.prog 204 [.one (.sl r v 0 3)] m (.agg (mC (Kg3 A B C))) m:=by
 refine Ctr.en Tryz.func204 [.cell 2 288] 19 fun hwf Q hQ=>?_
 obtain ⟨k0,ez,hb⟩:=hb
 have lb:=Jb2 hb
 have U10:=ca3 hb (Ja5 hb) @Kh2
 refine AW.c 2 U10 Jz9 ?_
 refine AW.q fun K J0=>?_
 refine AW.c 1 U10 Tru ?_
 apply AW.b
 refine AW.r 4 ?_
 refine ARounds.s fun K J1=>?_
 refine AW.q fun K J2=>?_
 refine AW.c 1 U10 Tru ?_
 apply AW.y rfl
 apply AW.z
 apply J2
 refine AW.q fun K J2=>?_
 apply AW.b
 refine AW.e [.rd 0,.val,.val,.val,.rd 0,.ext,.wr] fol U10 (Kh4 (Jt8 65536) A) ?_
 apply Ja8
 apply J2
 refine AW.g U10 Tru ?_
 apply J1
 refine ARounds.s fun K J1=>?_
 refine AW.q fun K J2=>?_
 refine AW.c 1 U10 Tru ?_
 apply AW.y rfl
 apply AW.z
 apply J2
 refine AW.q fun K J2=>?_
 apply AW.b
 refine AW.e [.rd 0,.val,.val,.val,.rd 0,.ext,.wr] fol U10 (Kh4 (Jo5 (Jt8 65536) A) B) ?_
 apply Ja8
 apply J2
 refine AW.g U10 Tru ?_
 apply J1
 refine ARounds.s fun K J1=>?_
 refine AW.q fun K J2=>?_
 refine AW.c 1 U10 Tru ?_
 apply AW.y rfl
 apply AW.z
 apply J2
 refine AW.q fun K J2=>?_
 apply AW.b
 refine AW.e [.rd 0,.val,.val,.val,.rd 0,.ext,.wr] fol U10 (Kh4 (Jo5 (Jo5 (Jt8 65536) A) B) C) ?_
 apply Ja8
 apply J2
 refine AW.g U10 Tru ?_
 apply J1
 refine ARounds.s fun K J1=>?_
 refine AW.q fun K J2=>?_
 refine AW.c 1 U10 Tru ?_
 apply AW.x rfl
 apply AW.v
 apply Jb0
 apply Jb0
 apply Ja6
 apply J0
 refine AW.c 1 U10 Tru ?_
 exact AW.ret (hQ _ _ _ (RetP.z hwf Tru))
theorem Vy7 (a:Int)(m:Ja1):Ctr Tryz.prog 249 [.one (.int .i64 0),.one (.int .i64 a)] m (.agg (mC (Qw2 a))) m:=by
 refine Ctr.en Tryz.func249 [.cell 4 342] 46 fun hwf Q hQ=>?_
 have hw:=Ju3 a
 have U11:=ca3 @Kh2 hw @Int.zero_sub
 refine AW.c 3 U11 (ca3 (Kx6 a) (Qh4 a) Kr2) ?_
 refine AW.q fun K J0=>?_
 refine AW.c 1 U11 Tru ?_
 apply AW.b
 refine AW.c 1 U11 Tru ?_
 apply AW.y rfl
 refine AW.g U11 Qa7 ?_
 apply Ja8
 apply J0
 refine AW.c 1 U11 Tru ?_
 exact AW.ret (hQ _ _ _ (RetP.z hwf Tru))
theorem Vm3 (a:Int)(m:Ja1):Ctr Tryz.prog 245 [.one (.int .i64 0),.one (.int .i64 a)] m (.agg (mC (Qw2 a))) m:=by
 refine Ctr.en Tryz.func245 [.cell 4 288] 53 fun hwf Q hQ=>?_
 have hw:=Ju3 a
 have U12:=ca3 @Kh2 hw @Int.zero_sub
 refine AW.c 4 U12 (ca3 (Kj5 a) (Kt5 a) Jz9) ?_
 refine AW.q fun K J0=>?_
 refine AW.c 1 U12 Tru ?_
 apply AW.y rfl
 refine AW.c 1 U12 Tru ?_
 refine AW.g U12 Tru ?_
 apply J0
 refine AW.q fun K J0=>?_
 refine AW.c 1 U12 Tru ?_
 apply AW.x rfl
 apply AW.z
 apply J0
 refine AW.c 7 U12 Tru ?_
 exact AW.ret (hQ _ _ _ (RetP.z hwf Tru))
theorem Vy6 (a:Int)(m:Ja1):Ctr Tryz.prog 249 [.one (.int .i64 1),.one (.int .i64 a)] m (.agg (mC (Qw1 a))) m:=by
 refine Ctr.en Tryz.func249 [.cell 4 342] 46 fun hwf Q hQ=>?_
 have hw:=Ju3 a
 have U13:=ca3 @Kh2 hw @Int.zero_sub
 refine AW.c 3 U13 (ca3 (Kx6 a) (Qh4 a) Kr2) ?_
 refine AW.q fun K J0=>?_
 refine AW.c 1 U13 Tru ?_
 apply AW.b
 refine AW.c 1 U13 Tru ?_
 apply AW.x rfl
 refine AW.c 1 U13 Tru ?_
 apply AW.y rfl
 refine AW.g U13 Qa7 ?_
 apply Ja8
 apply J0
 refine AW.c 1 U13 Tru ?_
 exact AW.ret (hQ _ _ _ (RetP.z hwf Tru))
theorem Vm2 (a:Int)(m:Ja1):Ctr Tryz.prog 245 [.one (.int .i64 1),.one (.int .i64 a)] m (.agg (mC (Qw1 a))) m:=by
 refine Ctr.en Tryz.func245 [.cell 4 288] 53 fun hwf Q hQ=>?_
 have hw:=Ju3 a
 have U14:=ca3 @Kh2 hw @Int.zero_sub
 refine AW.c 4 U14 (ca3 (Kj5 a) (Kt5 a) Jz9) ?_
 refine AW.q fun K J0=>?_
 refine AW.c 1 U14 Tru ?_
 apply AW.x rfl
 apply AW.z
 apply J0
 refine AW.q fun K J0=>?_
 refine AW.c 1 U14 Tru ?_
 apply AW.y rfl
 refine AW.c 1 U14 Tru ?_
 refine AW.g U14 Tru ?_
 apply J0
 refine AW.c 7 U14 Tru ?_
 exact AW.ret (hQ _ _ _ (RetP.z hwf Tru))
theorem Vy5 (a:Int)(m:Ja1):Ctr Tryz.prog 249 [.one (.int .i64 2),.one (.int .i64 a)] m (.agg (mC (Qw0 a))) m:=by
 refine Ctr.en Tryz.func249 [.cell 4 342] 46 fun hwf Q hQ=>?_
 have hw:=Ju3 a
 have U15:=ca3 @Kh2 hw @Int.zero_sub
 refine AW.c 3 U15 (ca3 (Kx6 a) (Qh4 a) Kr2) ?_
 refine AW.q fun K J0=>?_
 refine AW.c 1 U15 Tru ?_
 apply AW.b
 refine AW.c 1 U15 Tru ?_
 apply AW.x rfl
 refine AW.c 1 U15 Tru ?_
 apply AW.x rfl
 refine AW.g U15 Qa7 ?_
 apply Ja8
 apply J0
 refine AW.c 1 U15 Tru ?_
 exact AW.ret (hQ _ _ _ (RetP.z hwf Tru))
theorem Vm1 (a:Int)(m:Ja1):Ctr Tryz.prog 245 [.one (.int .i64 2),.one (.int .i64 a)] m (.agg (mC (Qw0 a))) m:=by
 refine Ctr.en Tryz.func245 [.cell 4 288] 53 fun hwf Q hQ=>?_
 have hw:=Ju3 a
 have U16:=ca3 @Kh2 hw @Int.zero_sub
 refine AW.c 4 U16 (ca3 (Kj5 a) (Kt5 a) Jz9) ?_
 refine AW.q fun K J0=>?_
 refine AW.c 1 U16 Tru ?_
 apply AW.x rfl
 apply AW.z
 apply J0
 refine AW.q fun K J0=>?_
 refine AW.c 1 U16 Tru ?_
 apply AW.x rfl
 apply AW.z
 apply J0
 refine AW.c 7 U16 Tru ?_
 exact AW.ret (hQ _ _ _ (RetP.z hwf Tru))
theorem Qd8 (v:V)(m:Ja1):Ctr Tryz.prog 217 [.agg (c3C v)] m (.agg (mC (Jw8 v))) m:=by
 refine Ctr.en Tryz.func217 [.cell 2 342] 14 fun hwf Q hQ=>?_
 have U17:=ca2 @Kh2 @Ja4
 refine AW.c 1 U17 Tru ?_
 refine AW.q fun K J0=>?_
 refine AW.draw [.val,.rd 0,.ext,.val,.rd 0,.ext,.val,.rd 0,.ext,.ext,.ext,.wr] fol (by decide) (by kernel_rfl) ?_
 simp only [push_cast,simprocAttr,U17]
 refine DCall.z (Vy7 _ _) ?_
 simp only [push_cast,simprocAttr,U17]
 refine DCall.z (Vy6 _ _) ?_
 simp only [push_cast,simprocAttr,U17]
 refine DCall.z (Vy5 _ _) ?_
 simp only [push_cast,simprocAttr,U17]
 refine DExt.by (by first|rfl|exact (List.append_nil _).symm|(simp only [List.append_assoc,List.cons_append,List.nil_append];rfl)) ?_
 simp only [push_cast,simprocAttr,U17]
 refine DCall.z (Kx0 (m.length+2) 0 (Qw2 (v 0)) (Qw1 (v 1)) (Qw0 (v 2)) _ ⟨.grow,12,by rw [Jg1];rfl⟩) ?_
 simp only [push_cast,simprocAttr,U17]
 apply J0
 exact AW.ret (hQ _ _ _ (RetP.z hwf Tru))
theorem Vm0 (v:V)(m:Ja1):Ctr Tryz.prog 206 [.agg (c3C v)] m (.agg (mC (Jw8 v))) m:=by
 refine Ctr.en Tryz.func206 [.cell 2 288] 14 fun hwf Q hQ=>?_
 have U18:=ca2 @Kh2 @Ja4
 refine AW.c 1 U18 Tru ?_
 refine AW.q fun K J0=>?_
 refine AW.draw [.val,.rd 0,.ext,.val,.rd 0,.ext,.val,.rd 0,.ext,.ext,.ext,.wr] fol (by decide) (by kernel_rfl) ?_
 simp only [push_cast,simprocAttr,U18]
 refine DCall.z (Vm3 _ _) ?_
 simp only [push_cast,simprocAttr,U18]
 refine DCall.z (Vm2 _ _) ?_
 simp only [push_cast,simprocAttr,U18]
 refine DCall.z (Vm1 _ _) ?_
 simp only [push_cast,simprocAttr,U18]
 refine DExt.by (by first|rfl|exact (List.append_nil _).symm|(simp only [List.append_assoc,List.cons_append,List.nil_append];rfl)) ?_
 simp only [push_cast,simprocAttr,U18]
 refine DCall.z (Qj4 (m.length+2) 0 (Qw2 (v 0)) (Qw1 (v 1)) (Qw0 (v 2)) _ ⟨.grow,12,by rw [Jg1];rfl⟩) ?_
 simp only [push_cast,simprocAttr,U18]
 apply J0
 exact AW.ret (hQ _ _ _ (RetP.z hwf Tru))
def plZ (T:Nat->Int)(x:Int):Nat->Int
 | 0=>-1
 | n+1=>if T n<=x then (n:Int) else plZ T x n
def Qd5 (a x:Int):Int:=if a<x then -1 else if x<a then 1 else 0
def loN (T:Nat->Int)(x:Int)(n:Nat):Nat:=fbN (fun k=>decide (T k<x)) n
theorem Xf0 (T:Nat->Int)(x:Int):∀ n,-1<=plZ T x n/\plZ T x n<(n:Int)
 | 0=>by show -1<=-1/\(-1:Int)<0;omega
 | n+1=>by have:=Xf0 T x n;unfold plZ;split<;>omega
theorem Kw3 {f:Nat->Bool}:∀ n,fbN f n<n->f (fbN f n)=false/\∀ k,k<fbN f n->f k=true
 | 0,h=>by unfold fbN at h;omega
 | n+1,h=>by
  unfold fbN at h ⊢
  split
  ·rename_i q;exact Kw3 n q
  rename_i q
  rw [if_neg q] at h
  split at h
  ·omega
  rename_i h1
  rw [if_neg h1]
  have:=Qn5 (f:=f) n (by have:=Kg0 f n;omega)
  exact ⟨by simpa using h1,this⟩
theorem Xs4 {T:Nat->Int}{x:Int}{n k:Nat}(h:k<loN T x n):T k<x:=by
 unfold loN at h
 have hl:=Kg0 (fun k=>decide (T k<x)) n
 rcases Nat.lt_or_ge (fbN (fun k=>decide (T k<x)) n) n with q|q
 ·exact of_decide_eq_true ((Kw3 n q).2 k h)
 exact of_decide_eq_true (Qn5 (f:=fun k=>decide (T k<x)) n (by omega) k (by omega))
theorem lo_at {T:Nat->Int}{x:Int}{n:Nat}(h:loN T x n<n):x<=T (loN T x n):=by
 have:=of_decide_eq_false (Kw3 (f:=fun k=>decide (T k<x)) n h).1
 unfold loN;omega
def Rise (T:Nat->Int)(n:Nat):Prop:=∀ i j,i<j->j<n->T i<T j
theorem Vw0 {T:Nat->Int}{x:Int}{n:Nat}(hr:Rise T n):plZ T x n=if loN T x n<n/\T (loN T x n)=x then (loN T x n:Int) else (loN T x n:Int) - 1:=by
 obtain ⟨a,ha⟩:∃ a,a=loN T x n:=⟨_,rfl⟩
 have hal:a<=n:=by rw [ha];exact Kg0 _ _
 have h1:∀ k,k<a->T k<x:=fun k hk=>Xs4 (n:=n) (by omega)
 have h2:a<n->x<=T a:=fun h=>by rw [ha] at h ⊢;exact lo_at h
 rw [<-ha]
 have key:∀ m,m<=n->plZ T x m=if m<=a then (m:Int) - 1 else if T a=x then (a:Int) else (a:Int) - 1:=by
  intro m
  induction m with
  | zero=>intro _;rw [if_pos (Nat.zero_le _)];rfl
  | succ m ih =>
   intro hm
   have ih:=ih (by omega)
   unfold plZ
   rcases Nat.lt_trichotomy m a with q|q|q
   ·rw [if_pos (by have:=h1 m q;omega),if_pos (by omega)];omega
   ·subst q
    rw [if_neg (by omega:¬m+1<=m)]
    rw [if_pos (Nat.le_refl _)] at ih
    by_cases e:T m=x
    ·rw [if_pos (by omega),if_pos e]
    have:=h2 (by omega)
    rw [if_neg (by omega),if_neg e];exact ih
   have h3:=hr a m q (by omega)
   have:=h2 (by omega)
   rw [if_neg (by omega),if_neg (by omega)]
   rw [if_neg (by omega)] at ih;exact ih
 rw [key n (Nat.le_refl _)]
 by_cases h:n<=a
 ·rw [if_pos h,if_neg (by omega)];omega
 rw [if_neg h]
 by_cases e:T a=x
 ·rw [if_pos e,if_pos ⟨by omega,e⟩]
 rw [if_neg e,if_neg (fun q=>e q.2)]
theorem Kh8 {w:Int}{n:Nat}{T:Nat->Int}{W:Nat->Nat->Int}(h:TrR w n T W):Rise T n:=by
 intro i j hij hj
 induction j with
 | zero=>omega
 | succ j ih =>
  have h1:=(h.2.2.2.2 (j+1) hj).2.2.1 (by omega)
  rw [Nat.add_sub_cancel] at h1
  rcases Nat.lt_or_ge i j with q|q
  ·have:=ih q (by omega);omega
  have:i=j:=by omega
  subst this;exact h1
def Qf7 (t:Int):Int:=Je0 (Je0 (Jb9 t) (Jb9 t)) (196608 - 2*Jb9 t)
def Kq3 (T:Nat->Int)(x:Int)(a:Nat):Int:=Jh2 (IntKind.i64.wrap (x - T a)) (IntKind.i64.wrap (T (a+1) - T a))
def trV (w:Int)(n:Nat)(T:Nat->Int)(W:Nat->Nat->Int)(x:Int):V :=
 if plZ T x n<0 then W 0 else if plZ T x n=(n:Int) - 1\/w=0 then W (plZ T x n).toNat else
  Kg7 (W (plZ T x n).toNat) (W ((plZ T x n).toNat+1)) (if w=2 then Qf7 (Kq3 T x (plZ T x n).toNat) else Kq3 T x (plZ T x n).toNat)
theorem Xu4 (t:Int)(m:Ja1):Ctr Tryz.prog 257 [.one (.int .i64 t)] m (.one (.int .i64 (Qf7 t))) m:=by
 refine Ctr.en Tryz.func257 [.tmp 2] 12 fun hwf Q hQ=>?_
 have hu:=Jt2 t
 have w1:IntKind.i64.wrap (2*Jb9 t)=2*Jb9 t:=wi (by omega)
 have w2:IntKind.i64.wrap (196608 - 2*Jb9 t)=196608 - 2*Jb9 t:=wi (by omega)
 have w3:Jf8 196608 (2*Jb9 t)=196608 - 2*Jb9 t:=by unfold Jf8;rw [Jc5 (n:=196608) (by decide),Jc5 (n:=2*Jb9 t) (by omega),Jc5 (by omega)]
 have U1:=ca2 w1 w3
 refine AW.c 3 U1 (ca3 Jz3 Jm7 Js6) ?_
 refine AW.ret ?_
 refine hQ _ _ _ ?_
 first|refine RetP.drop0 (Or.inr rfl) ?_ ?_ hwf|refine RetP.drop (Or.inr rfl) ?_ ?_ hwf
 · simp only [Jd0,Ja7,Jb5,AV.tv,push_cast,simprocAttr,U1,Qf7]
 rfl
theorem Xd3 (t:Int)(m:Ja1):Ctr Tryz.prog 210 [.one (.int .i64 t)] m (.one (.int .i64 (Qf7 t))) m:=by
 refine Ctr.en Tryz.func210 [.tmp 2] 13 fun hwf Q hQ=>?_
 have hu:=Jt2 t
 have w1:IntKind.i64.wrap (2*Jb9 t)=2*Jb9 t:=wi (by omega)
 have w2:IntKind.i64.wrap (196608 - 2*Jb9 t)=196608 - 2*Jb9 t:=wi (by omega)
 have w3:Jf8 196608 (2*Jb9 t)=196608 - 2*Jb9 t:=by unfold Jf8;rw [Jc5 (n:=196608) (by decide),Jc5 (n:=2*Jb9 t) (by omega),Jc5 (by omega)]
 have U2:=ca2 w1 w2
 refine AW.c 3 U2 (ca2 Js7 Jg6) ?_
 refine AW.ret ?_
 refine hQ _ _ _ ?_
 first|refine RetP.drop0 (Or.inr rfl) ?_ ?_ hwf|refine RetP.drop (Or.inr rfl) ?_ ?_ hwf
 · simp only [Jd0,Ja7,Jb5,AV.tv,push_cast,simprocAttr,U2,Qf7]
 rfl
theorem Xv2 (T:Nat->Int)(W:Nat->Nat->Int)(j:Nat)(x:Int)(m:Ja1):Ctr Tryz.prog 269 [.agg (keC T W j),.one (.int .i64 x)] m (.one (.int .i64 (Qd5 (T j) x))) m:=by
 refine Ctr.en Tryz.func269 [.tmp 4] 15 fun hwf Q hQ=>?_
 have gk:=Jr8 T W j
 refine AW.c 1 gk Tru ?_
 refine AW.q fun K J0=>?_
 apply AW.b
 refine AW.c 1 gk Tru ?_
 refine AW.cond rfl (fun h5=>?_) (fun h5=>?_)
 ·have hr:Qd5 (T j) x=-1:=by have:=of_decide_eq_true h5;unfold Qd5;rw [if_pos this]
  refine AW.c 1 gk Tru ?_
  refine AW.ret ?_
  apply Jf5
  apply Jc8
  refine hQ _ _ _ ?_
  first|refine RetP.drop0 (Or.inr rfl) ?_ ?_ hwf|refine RetP.drop (Or.inr rfl) ?_ ?_ hwf
  · simp only [Jd0,Ja7,Jb5,AV.tv,push_cast,simprocAttr,gk,hr]
  rfl
 refine AW.c 1 gk Tru ?_
 refine AW.cond rfl (fun h10=>?_) (fun h10=>?_)
 ·have hr:Qd5 (T j) x=1:=by have h0:=of_decide_eq_false h5;have:=of_decide_eq_true h10;unfold Qd5;rw [if_neg h0,if_pos this]
  refine AW.c 1 gk Tru ?_
  refine AW.ret ?_
  apply Jf5
  apply Jc8
  refine hQ _ _ _ ?_
  first|refine RetP.drop0 (Or.inr rfl) ?_ ?_ hwf|refine RetP.drop (Or.inr rfl) ?_ ?_ hwf
  · simp only [Jd0,Ja7,Jb5,AV.tv,push_cast,simprocAttr,gk,hr]
  rfl
 have hr:Qd5 (T j) x=0:=by have h0:=of_decide_eq_false h5;have:=of_decide_eq_false h10;unfold Qd5;rw [if_neg h0,if_neg this]
 apply AW.z
 apply Ja8
 apply J0
 refine AW.c 1 gk Tru ?_
 refine AW.ret ?_
 refine hQ _ _ _ ?_
 first|refine RetP.drop0 (Or.inr rfl) ?_ ?_ hwf|refine RetP.drop (Or.inr rfl) ?_ ?_ hwf
 · simp only [Jd0,Ja7,Jb5,AV.tv,push_cast,simprocAttr,gk,hr]
 rfl
theorem Xw4 (r v n:Nat)(T:Nat->Int)(W:Nat->Nat->Int)(x:Int)(m:Ja1)(hr:∃ k e,m[r]?=some ⟨k,223,v,e,Jb6 n (keC T W)⟩)(hn:n<=1000000)(hT:Rise T n):Ctr Tryz.prog 268 [.one (.sl r v 0 n),.one (.int .i64 x),.one (.fn 269 [])] m (.tup [(false,[.int .i64 ((loN T x n:Nat):Int)]),(false,[.bool (decide (loN T x n<n)&&(Qd5 (T (loN T x n)) x ==0))])]) m:=by
 refine Ctr.en Tryz.func268 [.tmp 6,.tmp 7] 49 fun hwf Q hQ=>?_
 obtain ⟨kr,er,hr⟩:=hr
 have lr:=Jb2 hr
 have gl:(Jb6 n (keC T W)).length=n*4:=Ja9 (w:=4) (F:=keC T W) (fun _=>rfl) n
 have pw:(2:Int) ^ min 1 IntKind.u64.bits=2:=by decide
 have U3:=ca4 hr (Ja5 hr) gl pw
 refine AW.c 3 U3 Tru ?_
 refine AW.q fun K J0=>?_
 apply AW.b
 refine AW.loopK [0,1,2,8] (fun q=>q.1<=q.2/\q.2<=n/\(∀ k,k<q.1->T k<x)/\(q.2<n->x<=T q.2)) (fun q=>[(9,.one (.int .i64 ((q.1:Nat):Int))),(10,.one (.int .i64 ((q.2:Nat):Int)))]) (fun q=>[]) (fun q=>q.2 - q.1) ((0,n):Nat × Nat) ⟨Nat.zero_le _,Nat.le_refl _,fun k h=>by omega,fun h=>by omega⟩ ?_ ?_ fun q hi2=>?_
 · first|rfl|(simp only [KS,simprocAttr,Int.natCast_zero]<;>repeat' (first|rfl|apply And.intro))
 · first|rfl|(simp only [Ja2,push_cast,simprocAttr,U3,Int.natCast_zero]<;>rfl)
 obtain ⟨i,j⟩:=q
 obtain ⟨h1,h2,h3,h4⟩:=hi2
 dsimp only at h1 h2 h3 h4 ⊢
 try simp only [Jb1,Ja2,push_cast,simprocAttr,U3]
 refine AW.q fun K J1=>?_
 refine AW.c 1 U3 Tru ?_
 refine AW.cond rfl (fun h17=>?_) (fun h17=>?_)
 ·have hij:i<j:=by have:=of_decide_eq_true h17;omega
  obtain ⟨z,hz⟩:∃ z,z=(i+j) / 2:=⟨_,rfl⟩
  have hz1:i<=z:=by omega
  have hz2:z<j:=by omega
  have hzn:z<n:=by omega
  have u1:IntKind.i64.wrap ((i:Int)+(j:Int))=((i+j:Nat):Int):=by rw [wi (by omega)];push_cast;rfl
  have u2:IntKind.u64.wrap ((i+j:Nat):Int)=((i+j:Nat):Int):=by simp [IntKind.wrap,IntKind.signed,IntKind.bits];omega
  have u3:((i+j:Nat):Int).fdiv 2=(z:Int):=by rw [Int.fdiv_eq_ediv_of_nonneg _ (by decide),hz];omega
  have u4:IntKind.i64.wrap (z:Int)=(z:Int):=wi (by omega)
  have u5:IntKind.u64.wrap (z:Int)=(z:Int):=by simp [IntKind.wrap,IntKind.signed,IntKind.bits];omega
  have u6:IntKind.i64.wrap ((z:Int)+1)=((z+1:Nat):Int):=by rw [wi (by omega)];push_cast;rfl
  have u7:((i+j:Nat):Int)=(i:Int)+(j:Int):=by push_cast;rfl
  rw [u7] at u1 u2 u3
  have c1:(0:Int)<=(z:Int):=by omega
  have c2:(z:Int)<(n:Int):=by omega
  have c3:z*4+4<=n*4:=by omega
  have ga:=Jc0 (w:=4) (F:=keC T W) (fun _=>rfl) hzn
  have gk:=Jr8 T W z
  apply AW.z
  apply J1
  apply AW.b
  have U4:=ca4 U3 u1 u2 (ca4 u3 u4 u5 (ca4 u6 c1 c2 (ca4 c3 ga gk hzn)))
  refine AW.c 2 U4 (Xv2 T W z x) ?_
  refine AW.cond rfl (fun h31=>?_) (fun h31=>?_)
  ·have hlt:T z<x:=by have:=of_decide_eq_true h31;unfold Qd5 at this;(repeat' split at this)<;>omega
   obtain ⟨nx,hnx0⟩:∃ nx:Nat × Nat,nx=(z+1,j):=⟨_,rfl⟩
   have hnx:nx.1=z+1/\nx.2=j:=by rw [hnx0];exact ⟨rfl,rfl⟩
   have hnI:nx.1<=nx.2/\nx.2<=n/\(∀ k,k<nx.1->T k<x)/\(nx.2<n->x<=T nx.2):=by
     rw [hnx0];refine ⟨by show z+1<=j;omega,h2,fun k hk=>?_,h4⟩
     have hk2:k<z+1:=hk
     rcases Nat.lt_or_ge k z with q|q
     · have:=hT k z q hzn;omega
     have:k=z:=by omega
     rw [this];exact hlt
   have hnm:nx.2 - nx.1<j - i:=by rw [hnx0];show j - (z+1)<j - i;omega
   refine AW.g U4 Tru ?_
   apply Ja8
   apply Jc2
   refine ⟨nx,hnI,hnm,?_⟩
   try simp only [Jb1,Ja2,push_cast,simprocAttr,U4,hnx]
   exact Weak.same (by simp only [KS,simprocAttr,hnx]) (by first|rfl|simp only [KS,simprocAttr,hnx])
  have hge:x<=T z:=by have:=of_decide_eq_false h31;unfold Qd5 at this;(repeat' split at this)<;>omega
  obtain ⟨nx,hnx0⟩:∃ nx:Nat × Nat,nx=(i,z):=⟨_,rfl⟩
  have hnx:nx.1=i/\nx.2=z:=by rw [hnx0];exact ⟨rfl,rfl⟩
  have hnI:nx.1<=nx.2/\nx.2<=n/\(∀ k,k<nx.1->T k<x)/\(nx.2<n->x<=T nx.2):=by
    rw [hnx0];exact ⟨hz1,by show z<=n;omega,h3,fun _=>hge⟩
  have hnm:nx.2 - nx.1<j - i:=by rw [hnx0];show z - i<j - i;omega
  refine AW.g U4 Tru ?_
  apply Ja8
  apply Jc2
  refine ⟨nx,hnI,hnm,?_⟩
  try simp only [Jb1,Ja2,push_cast,simprocAttr,U4,hnx]
  exact Weak.same (by simp only [KS,simprocAttr,hnx]) (by first|rfl|simp only [KS,simprocAttr,hnx])
 have hij:i=j:=by have:=of_decide_eq_false h17;omega
 subst hij
 have hlo:loN T x n=i:=by
   rcases Nat.lt_or_ge i n with q|q
   · exact Kn8 (fun k hk=>decide_eq_true (h3 k hk)) (decide_eq_false (by have:=h4 q;omega)) n q
   have e:i=n:=by omega
   subst e;exact Ka7 i fun k hk=>decide_eq_true (h3 k hk)
 rw [hlo] at hQ
 apply AW.v
 apply Jb0
 apply Jb0
 apply Ja6
 apply J0
 refine AW.q fun K J0=>?_
 rcases Nat.lt_or_ge i n with hin|hin
 ·have p1:(i:Int)<(n:Int):=by omega
  have c1:(0:Int)<=(i:Int):=by omega
  have c3:i*4+4<=n*4:=by omega
  have ga:=Jc0 (w:=4) (F:=keC T W) (fun _=>rfl) hin
  have gk:=Jr8 T W i
  rw [decide_eq_true hin,Bool.true_and] at hQ
  have U5:=ca4 U3 p1 c1 (ca4 c3 ga gk hin)
  refine AW.g U5 (Xv2 T W i x) ?_
  apply J0
  exact AW.ret (hQ _ _ _ (RetP.z hwf U5))
 have p1:¬(i:Int)<(n:Int):=by omega
 rw [decide_eq_false (by omega:¬i<n),Bool.false_and] at hQ
 have U6:=ca2 U3 p1
 refine AW.g U6 Tru ?_
 apply J0
 exact AW.ret (hQ _ _ _ (RetP.z hwf U6))
theorem Xr4 (w:Int)(r v n:Nat)(T:Nat->Int)(W:Nat->Nat->Int)(x:Int)(m:Ja1)(hr:∃ k e,m[r]?=some ⟨k,223,v,e,Jb6 n (keC T W)⟩)(hR:TrR w n T W)(hk:(decide (loN T x n<n)&&(Qd5 (T (loN T x n)) x ==0))=true):Ctr Tryz.prog 256 [.agg [.int .i64 w,.sl r v 0 n],.one (.int .i64 x)] m (.one (.int .i64 (plZ T x n))) m:=by
 refine Ctr.en Tryz.func256 [.tmp 4] 18 fun hwf Q hQ=>?_
 obtain ⟨kr,er,hr⟩:=hr
 have lr:=Jb2 hr
 have gl:(Jb6 n (keC T W)).length=n*4:=Ja9 (w:=4) (F:=keC T W) (fun _=>rfl) n
 have hn16:=hR.2.2.2.1
 have hn1:=hR.2.2.1
 have hp:plZ T x n=(loN T x n:Int):=by
   rw [Vw0 (Kh8 hR)]
   simp only [Bool.and_eq_true,decide_eq_true_eq,beq_iff_eq] at hk
   rw [if_pos ⟨hk.1,by have:=hk.2;unfold Qd5 at this;(repeat' split at this)<;>omega⟩]
 have hln:loN T x n<=n:=Kg0 _ _
 have hw:IntKind.i64.wrap ((loN T x n:Int) - 1)=(loN T x n:Int) - 1:=wi (by omega)
 rw [hp] at hQ
 have U1:=ca4 hr (Ja5 hr) gl (ca2 hk hw)
 refine AW.c 2 U1 (Xw4 r v n T W x _ ⟨kr,er,Ja5 hr _⟩ (by omega) (Kh8 hR)) ?_
 refine AW.q fun K J0=>?_
 refine AW.c 1 U1 Tru ?_
 apply AW.y rfl
 refine AW.c 1 U1 Tru ?_
 exact AW.ret (hQ _ _ _ (RetP.z hwf U1))
theorem Xr3 (w:Int)(r v n:Nat)(T:Nat->Int)(W:Nat->Nat->Int)(x:Int)(m:Ja1)(hr:∃ k e,m[r]?=some ⟨k,223,v,e,Jb6 n (keC T W)⟩)(hR:TrR w n T W)(hk:(decide (loN T x n<n)&&(Qd5 (T (loN T x n)) x ==0))=false):Ctr Tryz.prog 256 [.agg [.int .i64 w,.sl r v 0 n],.one (.int .i64 x)] m (.one (.int .i64 (plZ T x n))) m:=by
 refine Ctr.en Tryz.func256 [.tmp 4] 18 fun hwf Q hQ=>?_
 obtain ⟨kr,er,hr⟩:=hr
 have lr:=Jb2 hr
 have gl:(Jb6 n (keC T W)).length=n*4:=Ja9 (w:=4) (F:=keC T W) (fun _=>rfl) n
 have hn16:=hR.2.2.2.1
 have hn1:=hR.2.2.1
 have hp:plZ T x n=(loN T x n:Int) - 1:=by
   rw [Vw0 (Kh8 hR),if_neg fun q=>?_]
   have:(decide (loN T x n<n)&&(Qd5 (T (loN T x n)) x ==0))=true:=by
     simp only [Bool.and_eq_true,decide_eq_true_eq,beq_iff_eq]
     exact ⟨q.1,by unfold Qd5;rw [q.2,if_neg (by omega),if_neg (by omega)]⟩
   rw [this] at hk;cases hk
 have hln:loN T x n<=n:=Kg0 _ _
 have hw:IntKind.i64.wrap ((loN T x n:Int) - 1)=(loN T x n:Int) - 1:=wi (by omega)
 rw [hp] at hQ
 have U2:=ca4 hr (Ja5 hr) gl (ca2 hk hw)
 refine AW.c 2 U2 (Xw4 r v n T W x _ ⟨kr,er,Ja5 hr _⟩ (by omega) (Kh8 hR)) ?_
 refine AW.q fun K J0=>?_
 refine AW.c 1 U2 Tru ?_
 apply AW.x rfl
 apply AW.z
 apply J0
 refine AW.c 1 U2 Tru ?_
 exact AW.ret (hQ _ _ _ (RetP.z hwf U2))
theorem Vb0 (w:Int)(r v n:Nat)(T:Nat->Int)(W:Nat->Nat->Int)(x:Int)(m:Ja1)(hr:∃ k e,m[r]?=some ⟨k,223,v,e,Jb6 n (keC T W)⟩)(hR:TrR w n T W):Ctr Tryz.prog 256 [.agg [.int .i64 w,.sl r v 0 n],.one (.int .i64 x)] m (.one (.int .i64 (plZ T x n))) m:=by
 cases hk:(decide (loN T x n<n)&&(Qd5 (T (loN T x n)) x ==0))
 ·exact Xr3 w r v n T W x m hr hR hk
 exact Xr4 w r v n T W x m hr hR hk
theorem Kz3 (w:Int)(r v n:Nat)(T:Nat->Int)(W:Nat->Nat->Int)(x:Int)(m:Ja1)(hr:∃ k e,m[r]?=some ⟨k,285,v,e,Jb6 n (keC T W)⟩)(hR:TrR w n T W):Ctr Tryz.prog 209 [.agg [.int .i64 w,.sl r v 0 n],.one (.int .i64 x)] m (.one (.int .i64 (plZ T x n))) m:=by
 refine Ctr.en Tryz.func209 [.tmp 4] 24 fun hwf Q hQ=>?_
 obtain ⟨kr,er,hr⟩:=hr
 have lr:=Jb2 hr
 have gl:(Jb6 n (keC T W)).length=n*4:=Ja9 (w:=4) (F:=keC T W) (fun _=>rfl) n
 have hn16:=hR.2.2.2.1
 have hn1:=hR.2.2.1
 have U3:=ca3 hr (Ja5 hr) gl
 refine AW.c 2 U3 Tru ?_
 refine AW.q fun K J0=>?_
 refine AW.c 1 U3 Tru ?_
 apply AW.b
 refine AW.loopK [1,2] (fun i=>i<=n) (fun i=>[(5,.one (.int .i64 (plZ T x i))),(6,.one (.int .i64 (i:Int)))]) (fun i=>[]) (fun i=>n - i) 0 (by omega) ?_ ?_ fun i hi2=>?_
 · first|rfl|(simp only [KS,simprocAttr,plZ,Int.natCast_zero]<;>repeat' (first|rfl|apply And.intro))
 · first|rfl|(simp only [Ja2,push_cast,simprocAttr,U3,plZ,Int.natCast_zero]<;>rfl)
 try simp only [Jb1,Ja2,push_cast,simprocAttr,U3]
 refine AW.q fun K J1=>?_
 refine AW.c 1 U3 Tru ?_
 refine AW.cond rfl (fun h11=>?_) (fun h11=>?_)
 ·have hlt:i<n:=by have:=of_decide_eq_true h11;omega
  have c1:(0:Int)<=(i:Int):=by omega
  have c2:(i:Int)<(n:Int):=by omega
  have ga0:(Jb6 n (keC T W))[i*4]?=some (.int .i64 (T i)):=Jh3 (w:=4) (F:=keC T W) (fun _=>rfl) hlt (a:=0) (by omega)
  apply AW.z
  apply J1
  refine AW.q fun K J1=>?_
  apply AW.b
  have U4:=ca4 U3 c1 c2 (ca2 ga0 hlt)
  refine AW.c 1 U4 Tru ?_
  refine AW.cond rfl (fun h21=>?_) (fun h21=>?_)
  ·have hnx:plZ T x (i+1)=(i:Int):=if_pos (of_decide_eq_true h21)
   refine AW.g U4 Tru ?_
   apply Ja8
   apply J1
   refine AW.g U4 Tru ?_
   apply Jc2
   have hwi:IntKind.i64.wrap ((i:Int)+1)=(i:Int)+1:=wi (by omega)
   refine ⟨i+1,by omega,by omega,?_⟩
   try simp only [Jb1,Ja2,push_cast,simprocAttr,U4,hwi,hnx]
   exact Weak.same (by simp only [KS,simprocAttr,hwi,hnx]) (by first|rfl|simp only [KS,simprocAttr,hwi,hnx])
  have hnx:plZ T x (i+1)=plZ T x i:=if_neg (of_decide_eq_false h21)
  apply AW.z
  apply Ja8
  apply J1
  refine AW.g U4 Tru ?_
  apply Jc2
  have hwi:IntKind.i64.wrap ((i:Int)+1)=(i:Int)+1:=wi (by omega)
  refine ⟨i+1,by omega,by omega,?_⟩
  try simp only [Jb1,Ja2,push_cast,simprocAttr,U4,hwi,hnx]
  exact Weak.same (by simp only [KS,simprocAttr,hwi,hnx]) (by first|rfl|simp only [KS,simprocAttr,hwi,hnx])
 have hin:i=n:=by have:=of_decide_eq_false h11;omega
 rw [hin]
 apply AW.v
 apply Jb0
 apply Jb0
 apply Ja6
 apply J0
 refine AW.c 1 U3 Tru ?_
 exact AW.ret (hQ _ _ _ (RetP.z hwf U3))
theorem Xw2 (w:Int)(r v n:Nat)(T:Nat->Int)(W:Nat->Nat->Int)(x:Int)(m:Ja1)(hr:∃ k e,m[r]?=some ⟨k,223,v,e,Jb6 n (keC T W)⟩)(hR:TrR w n T W)(h0:plZ T x n<0):Ctr Tryz.prog 229 [.agg [.int .i64 w,.sl r v 0 n],.one (.int .i64 x)] m (.agg (c3C (trV w n T W x))) m:=by
 refine Ctr.en Tryz.func229 [.cell 4 59] 74 fun hwf Q hQ=>?_
 obtain ⟨kr,er,hr⟩:=hr
 have lr:=Jb2 hr
 have gl:(Jb6 n (keC T W)).length=n*4:=Ja9 (w:=4) (F:=keC T W) (fun _=>rfl) n
 have hn16:=hR.2.2.2.1
 have hn1:=hR.2.2.1
 have hd:=decide_eq_true hR
 have hv:trV w n T W x=W 0:=if_pos h0
 rw [hv] at hQ
 have g0:(0:Int)<(n:Int):=by omega
 have g2:0*4+4<=n*4:=by omega
 have ga:((Jb6 n (keC T W)).drop (0*4+1)).take 3=[.int .i64 (W 0 0),.int .i64 (W 0 1),.int .i64 (W 0 2)]:=Kf2 (w:=4) (F:=keC T W) (fun _=>rfl) hn1 (a:=1) (b:=3) (by omega)
 simp only [Nat.zero_mul,Nat.zero_add] at ga
 have g3:1+3<=n*4:=by omega
 have g4:0<n:=by omega
 have U5:=ca4 hr (Ja5 hr) gl (ca4 hd @Ja4 h0 (ca4 g0 ga g3 g4))
 refine AW.c 1 U5 Tru ?_
 refine AW.q fun K J0=>?_
 refine AW.c 1 U5 (Ks7 w r v n T W _ ⟨kr,er,Ja5 hr _⟩) ?_
 apply AW.x rfl
 apply AW.z
 apply J0
 refine AW.c 1 U5 (Vb0 w r v n T W x _ ⟨kr,er,Ja5 hr _⟩ hR) ?_
 refine AW.q fun K J0=>?_
 apply AW.b
 refine AW.c 1 U5 Tru ?_
 apply AW.y rfl
 refine AW.c 1 U5 Tru ?_
 exact AW.ret (hQ _ _ _ (RetP.z hwf U5))
theorem Xw1 (w:Int)(r v n:Nat)(T:Nat->Int)(W:Nat->Nat->Int)(x:Int)(m:Ja1)(hr:∃ k e,m[r]?=some ⟨k,223,v,e,Jb6 n (keC T W)⟩)(hR:TrR w n T W)(a:Nat)(ha:plZ T x n=(a:Int))(han:a<n)(hk:(a:Int)=(n:Int) - 1):Ctr Tryz.prog 229 [.agg [.int .i64 w,.sl r v 0 n],.one (.int .i64 x)] m (.agg (c3C (trV w n T W x))) m:=by
 refine Ctr.en Tryz.func229 [.cell 4 59] 74 fun hwf Q hQ=>?_
 obtain ⟨kr,er,hr⟩:=hr
 have lr:=Jb2 hr
 have gl:(Jb6 n (keC T W)).length=n*4:=Ja9 (w:=4) (F:=keC T W) (fun _=>rfl) n
 have hn16:=hR.2.2.2.1
 have hn1:=hR.2.2.1
 have hd:=decide_eq_true hR
 have hw1:IntKind.i64.wrap ((n:Int) - 1)=(n:Int) - 1:=wi (by omega)
 have c1:(0:Int)<=(a:Int):=by omega
 have c2:(a:Int)<(n:Int):=by omega
 have c3:a*4+4<=n*4:=by omega
 have c4:a*4+1+3<=n*4:=by omega
 have nn:¬(a:Int)<0:=by omega
 have eb:((a:Int) ==(n:Int) - 1)=true:=by simpa using hk
 have hv:trV w n T W x=W a:=by
   unfold trV;rw [ha,if_neg nn,if_pos (.inl hk)];rfl
 rw [hv] at hQ
 have ga:((Jb6 n (keC T W)).drop (a*4+1)).take 3=[.int .i64 (W a 0),.int .i64 (W a 1),.int .i64 (W a 2)]:=Kf2 (w:=4) (F:=keC T W) (fun _=>rfl) han (a:=1) (b:=3) (by omega)
 have U6:=ca4 hr (Ja5 hr) gl (ca4 hd @Ja4 ha (ca4 nn hw1 eb (ca4 c1 c2 c3 (ca3 c4 ga han))))
 refine AW.c 1 U6 Tru ?_
 refine AW.q fun K J0=>?_
 refine AW.c 1 U6 (Ks7 w r v n T W _ ⟨kr,er,Ja5 hr _⟩) ?_
 apply AW.x rfl
 apply AW.z
 apply J0
 refine AW.c 1 U6 (Vb0 w r v n T W x _ ⟨kr,er,Ja5 hr _⟩ hR) ?_
 refine AW.q fun K J0=>?_
 apply AW.b
 refine AW.c 1 U6 Tru ?_
 apply AW.x rfl
 refine AW.c 1 U6 Tru ?_
 apply AW.y rfl
 refine AW.c 1 U6 Tru ?_
 exact AW.ret (hQ _ _ _ (RetP.z hwf U6))
theorem Xw0 (w:Int)(r v n:Nat)(T:Nat->Int)(W:Nat->Nat->Int)(x:Int)(m:Ja1)(hr:∃ k e,m[r]?=some ⟨k,223,v,e,Jb6 n (keC T W)⟩)(hR:TrR w n T W)(a:Nat)(ha:plZ T x n=(a:Int))(han:a<n)(hk:¬(a:Int)=(n:Int) - 1)(hw0:w=0):Ctr Tryz.prog 229 [.agg [.int .i64 w,.sl r v 0 n],.one (.int .i64 x)] m (.agg (c3C (trV w n T W x))) m:=by
 refine Ctr.en Tryz.func229 [.cell 4 59] 74 fun hwf Q hQ=>?_
 obtain ⟨kr,er,hr⟩:=hr
 have lr:=Jb2 hr
 have gl:(Jb6 n (keC T W)).length=n*4:=Ja9 (w:=4) (F:=keC T W) (fun _=>rfl) n
 have hn16:=hR.2.2.2.1
 have hn1:=hR.2.2.1
 have hd:=decide_eq_true hR
 have hw1:IntKind.i64.wrap ((n:Int) - 1)=(n:Int) - 1:=wi (by omega)
 have c1:(0:Int)<=(a:Int):=by omega
 have c2:(a:Int)<(n:Int):=by omega
 have c3:a*4+4<=n*4:=by omega
 have c4:a*4+1+3<=n*4:=by omega
 have nn:¬(a:Int)<0:=by omega
 have eb:((a:Int) ==(n:Int) - 1)=false:=by simpa using hk
 have ew:(w ==0)=true:=by simpa using hw0
 have hv:trV w n T W x=W a:=by
   unfold trV;rw [ha,if_neg nn,if_pos (.inr hw0)];rfl
 rw [hv] at hQ
 have ga:((Jb6 n (keC T W)).drop (a*4+1)).take 3=[.int .i64 (W a 0),.int .i64 (W a 1),.int .i64 (W a 2)]:=Kf2 (w:=4) (F:=keC T W) (fun _=>rfl) han (a:=1) (b:=3) (by omega)
 have U7:=ca4 hr (Ja5 hr) gl (ca4 hd @Ja4 ha (ca4 nn hw1 eb (ca4 ew c1 c2 (ca4 c3 c4 ga han))))
 refine AW.c 1 U7 Tru ?_
 refine AW.q fun K J0=>?_
 refine AW.c 1 U7 (Ks7 w r v n T W _ ⟨kr,er,Ja5 hr _⟩) ?_
 apply AW.x rfl
 apply AW.z
 apply J0
 refine AW.c 1 U7 (Vb0 w r v n T W x _ ⟨kr,er,Ja5 hr _⟩ hR) ?_
 refine AW.q fun K J0=>?_
 apply AW.b
 refine AW.c 1 U7 Tru ?_
 apply AW.x rfl
 refine AW.c 1 U7 Tru ?_
 apply AW.y rfl
 refine AW.c 1 U7 Tru ?_
 exact AW.ret (hQ _ _ _ (RetP.z hwf U7))
theorem Xv9 (w:Int)(r v n:Nat)(T:Nat->Int)(W:Nat->Nat->Int)(x:Int)(m:Ja1)(hr:∃ k e,m[r]?=some ⟨k,223,v,e,Jb6 n (keC T W)⟩)(hR:TrR w n T W)(a:Nat)(ha:plZ T x n=(a:Int))(han:a<n)(hk:¬(a:Int)=(n:Int) - 1)(hw0:¬w=0)(hw2:w=2):Ctr Tryz.prog 229 [.agg [.int .i64 w,.sl r v 0 n],.one (.int .i64 x)] m (.agg (c3C (trV w n T W x))) m:=by
 refine Ctr.en Tryz.func229 [.cell 4 59] 74 fun hwf Q hQ=>?_
 obtain ⟨kr,er,hr⟩:=hr
 have lr:=Jb2 hr
 have gl:(Jb6 n (keC T W)).length=n*4:=Ja9 (w:=4) (F:=keC T W) (fun _=>rfl) n
 have hn16:=hR.2.2.2.1
 have hn1:=hR.2.2.1
 have hd:=decide_eq_true hR
 have hw1:IntKind.i64.wrap ((n:Int) - 1)=(n:Int) - 1:=wi (by omega)
 have c1:(0:Int)<=(a:Int):=by omega
 have c2:(a:Int)<(n:Int):=by omega
 have c3:a*4+4<=n*4:=by omega
 have c4:a*4+1+3<=n*4:=by omega
 have nn:¬(a:Int)<0:=by omega
 have e2:(w ==2)=true:=by simpa using hw2
 have eb:((a:Int) ==(n:Int) - 1)=false:=by simpa using hk
 have ew:(w ==0)=false:=by simpa using hw0
 have han2:a+1<n:=by omega
 have hw2b:IntKind.i64.wrap ((a:Int)+1)=((a+1:Nat):Int):=by rw [wi (by omega)];push_cast;rfl
 have d1:(0:Int)<=((a+1:Nat):Int):=by omega
 have d2:((a+1:Nat):Int)<(n:Int):=by omega
 have d3:(a+1)*4+4<=n*4:=by omega
 obtain ⟨z,hz⟩:∃ z,z=a+1:=⟨_,rfl⟩
 rw [<-hz] at hw2b d1 d2 d3 han2
 have ga:=Jc0 (w:=4) (F:=keC T W) (fun _=>rfl) han
 have gz:=Jc0 (w:=4) (F:=keC T W) (fun _=>rfl) han2
 have ka:=Jr8 T W a
 have kz:=Jr8 T W z
 have hv:trV w n T W x=Kg7 (W a) (W z) (Qf7 (Kq3 T x a)):=by
   unfold trV;rw [ha,if_neg nn,if_neg (fun q=>q.elim hk hw0),if_pos hw2,hz];rfl
 rw [hv] at hQ
 have hpa:Kq3 T x a=Jh2 (IntKind.i64.wrap (x - T a)) (IntKind.i64.wrap (T z - T a)):=by rw [hz];rfl
 rw [hpa] at hQ
 have U8:=ca4 hr (Ja5 hr) gl (ca4 hd @Ja4 ha (ca4 nn hw1 eb (ca4 ew e2 hw2b (ca4 c1 c2 c3 (ca4 d1 d2 d3 (ca4 ga gz ka (ca3 kz han han2)))))))
 refine AW.c 1 U8 Tru ?_
 refine AW.q fun K J0=>?_
 refine AW.c 1 U8 (Ks7 w r v n T W _ ⟨kr,er,Ja5 hr _⟩) ?_
 apply AW.x rfl
 apply AW.z
 apply J0
 refine AW.c 1 U8 (Vb0 w r v n T W x _ ⟨kr,er,Ja5 hr _⟩ hR) ?_
 refine AW.q fun K J0=>?_
 apply AW.b
 refine AW.c 1 U8 Tru ?_
 apply AW.x rfl
 refine AW.c 1 U8 Tru ?_
 apply AW.x rfl
 apply AW.z
 apply Ja8
 apply J0
 refine AW.d [.val,.rd 0,.val,.val,.rd 0,.val,.rw 0,.val,.val,.val,.rw 0,.ext,.fl,.wr,.wr] fol U8 Tru ?_
 refine AW.c 1 U8 Jr4 ?_
 refine AW.q fun K J0=>?_
 refine AW.c 1 U8 Tru ?_
 apply AW.y rfl
 refine AW.g U8 Xu4 ?_
 apply J0
 refine AW.c 1 U8 (Kh1 (W a) (W z)) ?_
 exact AW.ret (hQ _ _ _ (RetP.z hwf U8))
theorem Xv8 (w:Int)(r v n:Nat)(T:Nat->Int)(W:Nat->Nat->Int)(x:Int)(m:Ja1)(hr:∃ k e,m[r]?=some ⟨k,223,v,e,Jb6 n (keC T W)⟩)(hR:TrR w n T W)(a:Nat)(ha:plZ T x n=(a:Int))(han:a<n)(hk:¬(a:Int)=(n:Int) - 1)(hw0:¬w=0)(hw2:¬w=2):Ctr Tryz.prog 229 [.agg [.int .i64 w,.sl r v 0 n],.one (.int .i64 x)] m (.agg (c3C (trV w n T W x))) m:=by
 refine Ctr.en Tryz.func229 [.cell 4 59] 74 fun hwf Q hQ=>?_
 obtain ⟨kr,er,hr⟩:=hr
 have lr:=Jb2 hr
 have gl:(Jb6 n (keC T W)).length=n*4:=Ja9 (w:=4) (F:=keC T W) (fun _=>rfl) n
 have hn16:=hR.2.2.2.1
 have hn1:=hR.2.2.1
 have hd:=decide_eq_true hR
 have hw1:IntKind.i64.wrap ((n:Int) - 1)=(n:Int) - 1:=wi (by omega)
 have c1:(0:Int)<=(a:Int):=by omega
 have c2:(a:Int)<(n:Int):=by omega
 have c3:a*4+4<=n*4:=by omega
 have c4:a*4+1+3<=n*4:=by omega
 have nn:¬(a:Int)<0:=by omega
 have e2:(w ==2)=false:=by simpa using hw2
 have eb:((a:Int) ==(n:Int) - 1)=false:=by simpa using hk
 have ew:(w ==0)=false:=by simpa using hw0
 have han2:a+1<n:=by omega
 have hw2b:IntKind.i64.wrap ((a:Int)+1)=((a+1:Nat):Int):=by rw [wi (by omega)];push_cast;rfl
 have d1:(0:Int)<=((a+1:Nat):Int):=by omega
 have d2:((a+1:Nat):Int)<(n:Int):=by omega
 have d3:(a+1)*4+4<=n*4:=by omega
 obtain ⟨z,hz⟩:∃ z,z=a+1:=⟨_,rfl⟩
 rw [<-hz] at hw2b d1 d2 d3 han2
 have ga:=Jc0 (w:=4) (F:=keC T W) (fun _=>rfl) han
 have gz:=Jc0 (w:=4) (F:=keC T W) (fun _=>rfl) han2
 have ka:=Jr8 T W a
 have kz:=Jr8 T W z
 have hv:trV w n T W x=Kg7 (W a) (W z) (Kq3 T x a):=by
   unfold trV;rw [ha,if_neg nn,if_neg (fun q=>q.elim hk hw0),if_neg hw2,hz];rfl
 rw [hv] at hQ
 have hpa:Kq3 T x a=Jh2 (IntKind.i64.wrap (x - T a)) (IntKind.i64.wrap (T z - T a)):=by rw [hz];rfl
 rw [hpa] at hQ
 have U9:=ca4 hr (Ja5 hr) gl (ca4 hd @Ja4 ha (ca4 nn hw1 eb (ca4 ew e2 hw2b (ca4 c1 c2 c3 (ca4 d1 d2 d3 (ca4 ga gz ka (ca3 kz han han2)))))))
 refine AW.c 1 U9 Tru ?_
 refine AW.q fun K J0=>?_
 refine AW.c 1 U9 (Ks7 w r v n T W _ ⟨kr,er,Ja5 hr _⟩) ?_
 apply AW.x rfl
 apply AW.z
 apply J0
 refine AW.c 1 U9 (Vb0 w r v n T W x _ ⟨kr,er,Ja5 hr _⟩ hR) ?_
 refine AW.q fun K J0=>?_
 apply AW.b
 refine AW.c 1 U9 Tru ?_
 apply AW.x rfl
 refine AW.c 1 U9 Tru ?_
 apply AW.x rfl
 apply AW.z
 apply Ja8
 apply J0
 refine AW.d [.val,.rd 0,.val,.val,.rd 0,.val,.rw 0,.val,.val,.val,.rw 0,.ext,.fl,.wr,.wr] fol U9 Tru ?_
 refine AW.c 1 U9 Jr4 ?_
 refine AW.q fun K J0=>?_
 refine AW.c 1 U9 Tru ?_
 apply AW.x rfl
 apply AW.z
 apply J0
 refine AW.c 1 U9 (Kh1 (W a) (W z)) ?_
 exact AW.ret (hQ _ _ _ (RetP.z hwf U9))
theorem cat_c (w:Int)(r v n:Nat)(T:Nat->Int)(W:Nat->Nat->Int)(x:Int)(m:Ja1)(hr:∃ k e,m[r]?=some ⟨k,223,v,e,Jb6 n (keC T W)⟩)(hR:TrR w n T W):Ctr Tryz.prog 229 [.agg [.int .i64 w,.sl r v 0 n],.one (.int .i64 x)] m (.agg (c3C (trV w n T W x))) m:=by
 have hb:=Xf0 T x n
 by_cases h0:plZ T x n<0
 ·exact Xw2 w r v n T W x m hr hR h0
 obtain ⟨a,ha⟩:∃ a:Nat,plZ T x n=(a:Int):=⟨(plZ T x n).toNat,by omega⟩
 have han:a<n:=by omega
 by_cases h1:(a:Int)=(n:Int) - 1
 ·exact Xw1 w r v n T W x m hr hR a ha han h1
 by_cases h2:w=0
 ·exact Xw0 w r v n T W x m hr hR a ha han h1 h2
 by_cases h3:w=2
 ·exact Xv9 w r v n T W x m hr hR a ha han h1 h2 h3
 exact Xv8 w r v n T W x m hr hR a ha han h1 h2 h3
theorem Xr1 (w:Int)(r v n:Nat)(T:Nat->Int)(W:Nat->Nat->Int)(x:Int)(m:Ja1)(hr:∃ k e,m[r]?=some ⟨k,285,v,e,Jb6 n (keC T W)⟩)(hR:TrR w n T W)(h0:plZ T x n<0):Ctr Tryz.prog 164 [.agg [.int .i64 w,.sl r v 0 n],.one (.int .i64 x)] m (.agg (c3C (trV w n T W x))) m:=by
 refine Ctr.en Tryz.func164 [.cell 4 54] 72 fun hwf Q hQ=>?_
 obtain ⟨kr,er,hr⟩:=hr
 have lr:=Jb2 hr
 have gl:(Jb6 n (keC T W)).length=n*4:=Ja9 (w:=4) (F:=keC T W) (fun _=>rfl) n
 have hn16:=hR.2.2.2.1
 have hn1:=hR.2.2.1
 have hd:=decide_eq_true hR
 have hv:trV w n T W x=W 0:=if_pos h0
 rw [hv] at hQ
 have g0:(0:Int)<(n:Int):=by omega
 have g2:0*4+4<=n*4:=by omega
 have ga:((Jb6 n (keC T W)).drop (0*4+1)).take 3=[.int .i64 (W 0 0),.int .i64 (W 0 1),.int .i64 (W 0 2)]:=Kf2 (w:=4) (F:=keC T W) (fun _=>rfl) hn1 (a:=1) (b:=3) (by omega)
 simp only [Nat.zero_mul,Nat.zero_add] at ga
 have g3:1+3<=n*4:=by omega
 have g4:0<n:=by omega
 have U10:=ca4 hr (Ja5 hr) gl (ca4 hd @Ja4 h0 (ca4 g0 ga g3 g4))
 refine AW.c 1 U10 Tru ?_
 refine AW.q fun K J0=>?_
 refine AW.c 1 U10 (Kr5 w r v n T W _ ⟨kr,er,Ja5 hr _⟩) ?_
 apply AW.x rfl
 apply AW.z
 apply J0
 refine AW.c 1 U10 (Kz3 w r v n T W x _ ⟨kr,er,Ja5 hr _⟩ hR) ?_
 refine AW.q fun K J0=>?_
 refine AW.c 1 U10 Tru ?_
 apply AW.y rfl
 refine AW.c 1 U10 Tru ?_
 exact AW.ret (hQ _ _ _ (RetP.z hwf U10))
theorem Xr0 (w:Int)(r v n:Nat)(T:Nat->Int)(W:Nat->Nat->Int)(x:Int)(m:Ja1)(hr:∃ k e,m[r]?=some ⟨k,285,v,e,Jb6 n (keC T W)⟩)(hR:TrR w n T W)(a:Nat)(ha:plZ T x n=(a:Int))(han:a<n)(hk:(a:Int)=(n:Int) - 1):Ctr Tryz.prog 164 [.agg [.int .i64 w,.sl r v 0 n],.one (.int .i64 x)] m (.agg (c3C (trV w n T W x))) m:=by
 refine Ctr.en Tryz.func164 [.cell 4 54] 72 fun hwf Q hQ=>?_
 obtain ⟨kr,er,hr⟩:=hr
 have lr:=Jb2 hr
 have gl:(Jb6 n (keC T W)).length=n*4:=Ja9 (w:=4) (F:=keC T W) (fun _=>rfl) n
 have hn16:=hR.2.2.2.1
 have hn1:=hR.2.2.1
 have hd:=decide_eq_true hR
 have hw1:IntKind.i64.wrap ((n:Int) - 1)=(n:Int) - 1:=wi (by omega)
 have c1:(0:Int)<=(a:Int):=by omega
 have c2:(a:Int)<(n:Int):=by omega
 have c3:a*4+4<=n*4:=by omega
 have c4:a*4+1+3<=n*4:=by omega
 have nn:¬(a:Int)<0:=by omega
 have eb:((a:Int) ==(n:Int) - 1)=true:=by simpa using hk
 have hv:trV w n T W x=W a:=by
   unfold trV;rw [ha,if_neg nn,if_pos (.inl hk)];rfl
 rw [hv] at hQ
 have ga:((Jb6 n (keC T W)).drop (a*4+1)).take 3=[.int .i64 (W a 0),.int .i64 (W a 1),.int .i64 (W a 2)]:=Kf2 (w:=4) (F:=keC T W) (fun _=>rfl) han (a:=1) (b:=3) (by omega)
 have U11:=ca4 hr (Ja5 hr) gl (ca4 hd @Ja4 ha (ca4 nn hw1 eb (ca4 c1 c2 c3 (ca3 c4 ga han))))
 refine AW.c 1 U11 Tru ?_
 refine AW.q fun K J0=>?_
 refine AW.c 1 U11 (Kr5 w r v n T W _ ⟨kr,er,Ja5 hr _⟩) ?_
 apply AW.x rfl
 apply AW.z
 apply J0
 refine AW.c 1 U11 (Kz3 w r v n T W x _ ⟨kr,er,Ja5 hr _⟩ hR) ?_
 refine AW.q fun K J0=>?_
 refine AW.c 1 U11 Tru ?_
 apply AW.x rfl
 apply AW.z
 apply J0
 refine AW.q fun K J0=>?_
 refine AW.c 1 U11 Tru ?_
 apply AW.y rfl
 refine AW.c 1 U11 Tru ?_
 exact AW.ret (hQ _ _ _ (RetP.z hwf U11))
theorem Xq9 (w:Int)(r v n:Nat)(T:Nat->Int)(W:Nat->Nat->Int)(x:Int)(m:Ja1)(hr:∃ k e,m[r]?=some ⟨k,285,v,e,Jb6 n (keC T W)⟩)(hR:TrR w n T W)(a:Nat)(ha:plZ T x n=(a:Int))(han:a<n)(hk:¬(a:Int)=(n:Int) - 1)(hw0:w=0):Ctr Tryz.prog 164 [.agg [.int .i64 w,.sl r v 0 n],.one (.int .i64 x)] m (.agg (c3C (trV w n T W x))) m:=by
 refine Ctr.en Tryz.func164 [.cell 4 54] 72 fun hwf Q hQ=>?_
 obtain ⟨kr,er,hr⟩:=hr
 have lr:=Jb2 hr
 have gl:(Jb6 n (keC T W)).length=n*4:=Ja9 (w:=4) (F:=keC T W) (fun _=>rfl) n
 have hn16:=hR.2.2.2.1
 have hn1:=hR.2.2.1
 have hd:=decide_eq_true hR
 have hw1:IntKind.i64.wrap ((n:Int) - 1)=(n:Int) - 1:=wi (by omega)
 have c1:(0:Int)<=(a:Int):=by omega
 have c2:(a:Int)<(n:Int):=by omega
 have c3:a*4+4<=n*4:=by omega
 have c4:a*4+1+3<=n*4:=by omega
 have nn:¬(a:Int)<0:=by omega
 have eb:((a:Int) ==(n:Int) - 1)=false:=by simpa using hk
 have ew:(w ==0)=true:=by simpa using hw0
 have hv:trV w n T W x=W a:=by
   unfold trV;rw [ha,if_neg nn,if_pos (.inr hw0)];rfl
 rw [hv] at hQ
 have ga:((Jb6 n (keC T W)).drop (a*4+1)).take 3=[.int .i64 (W a 0),.int .i64 (W a 1),.int .i64 (W a 2)]:=Kf2 (w:=4) (F:=keC T W) (fun _=>rfl) han (a:=1) (b:=3) (by omega)
 have U12:=ca4 hr (Ja5 hr) gl (ca4 hd @Ja4 ha (ca4 nn hw1 eb (ca4 ew c1 c2 (ca4 c3 c4 ga han))))
 refine AW.c 1 U12 Tru ?_
 refine AW.q fun K J0=>?_
 refine AW.c 1 U12 (Kr5 w r v n T W _ ⟨kr,er,Ja5 hr _⟩) ?_
 apply AW.x rfl
 apply AW.z
 apply J0
 refine AW.c 1 U12 (Kz3 w r v n T W x _ ⟨kr,er,Ja5 hr _⟩ hR) ?_
 refine AW.q fun K J0=>?_
 refine AW.c 1 U12 Tru ?_
 apply AW.x rfl
 apply AW.z
 apply J0
 refine AW.q fun K J0=>?_
 refine AW.c 1 U12 Tru ?_
 apply AW.y rfl
 refine AW.c 1 U12 Tru ?_
 exact AW.ret (hQ _ _ _ (RetP.z hwf U12))
theorem Xq8 (w:Int)(r v n:Nat)(T:Nat->Int)(W:Nat->Nat->Int)(x:Int)(m:Ja1)(hr:∃ k e,m[r]?=some ⟨k,285,v,e,Jb6 n (keC T W)⟩)(hR:TrR w n T W)(a:Nat)(ha:plZ T x n=(a:Int))(han:a<n)(hk:¬(a:Int)=(n:Int) - 1)(hw0:¬w=0)(hw2:w=2):Ctr Tryz.prog 164 [.agg [.int .i64 w,.sl r v 0 n],.one (.int .i64 x)] m (.agg (c3C (trV w n T W x))) m:=by
 refine Ctr.en Tryz.func164 [.cell 4 54] 72 fun hwf Q hQ=>?_
 obtain ⟨kr,er,hr⟩:=hr
 have lr:=Jb2 hr
 have gl:(Jb6 n (keC T W)).length=n*4:=Ja9 (w:=4) (F:=keC T W) (fun _=>rfl) n
 have hn16:=hR.2.2.2.1
 have hn1:=hR.2.2.1
 have hd:=decide_eq_true hR
 have hw1:IntKind.i64.wrap ((n:Int) - 1)=(n:Int) - 1:=wi (by omega)
 have c1:(0:Int)<=(a:Int):=by omega
 have c2:(a:Int)<(n:Int):=by omega
 have c3:a*4+4<=n*4:=by omega
 have c4:a*4+1+3<=n*4:=by omega
 have nn:¬(a:Int)<0:=by omega
 have e2:(w ==2)=true:=by simpa using hw2
 have eb:((a:Int) ==(n:Int) - 1)=false:=by simpa using hk
 have ew:(w ==0)=false:=by simpa using hw0
 have han2:a+1<n:=by omega
 have hw2b:IntKind.i64.wrap ((a:Int)+1)=((a+1:Nat):Int):=by rw [wi (by omega)];push_cast;rfl
 have d1:(0:Int)<=((a+1:Nat):Int):=by omega
 have d2:((a+1:Nat):Int)<(n:Int):=by omega
 have d3:(a+1)*4+4<=n*4:=by omega
 obtain ⟨z,hz⟩:∃ z,z=a+1:=⟨_,rfl⟩
 rw [<-hz] at hw2b d1 d2 d3 han2
 have ga:=Jc0 (w:=4) (F:=keC T W) (fun _=>rfl) han
 have gz:=Jc0 (w:=4) (F:=keC T W) (fun _=>rfl) han2
 have ka:=Jr8 T W a
 have kz:=Jr8 T W z
 have hv:trV w n T W x=Kg7 (W a) (W z) (Qf7 (Kq3 T x a)):=by
   unfold trV;rw [ha,if_neg nn,if_neg (fun q=>q.elim hk hw0),if_pos hw2,hz];rfl
 rw [hv] at hQ
 have hpa:Kq3 T x a=Jh2 (IntKind.i64.wrap (x - T a)) (IntKind.i64.wrap (T z - T a)):=by rw [hz];rfl
 rw [hpa] at hQ
 have U13:=ca4 hr (Ja5 hr) gl (ca4 hd @Ja4 ha (ca4 nn hw1 eb (ca4 ew e2 hw2b (ca4 c1 c2 c3 (ca4 d1 d2 d3 (ca4 ga gz ka (ca3 kz han han2)))))))
 refine AW.c 1 U13 Tru ?_
 refine AW.q fun K J0=>?_
 refine AW.c 1 U13 (Kr5 w r v n T W _ ⟨kr,er,Ja5 hr _⟩) ?_
 apply AW.x rfl
 apply AW.z
 apply J0
 refine AW.c 1 U13 (Kz3 w r v n T W x _ ⟨kr,er,Ja5 hr _⟩ hR) ?_
 refine AW.q fun K J0=>?_
 refine AW.c 1 U13 Tru ?_
 apply AW.x rfl
 apply AW.z
 apply J0
 refine AW.q fun K J0=>?_
 refine AW.c 1 U13 Tru ?_
 apply AW.x rfl
 apply AW.z
 apply J0
 refine AW.d [.val,.rd 0,.val,.val,.rd 0,.val,.rw 0,.val,.val,.val,.rw 0,.ext,.fl,.wr,.wr] fol U13 Tru ?_
 refine AW.c 1 U13 Jh6 ?_
 refine AW.q fun K J0=>?_
 refine AW.c 1 U13 Tru ?_
 apply AW.y rfl
 refine AW.g U13 Xd3 ?_
 apply J0
 refine AW.c 1 U13 (Kc3 (W a) (W z)) ?_
 exact AW.ret (hQ _ _ _ (RetP.z hwf U13))
theorem Xq7 (w:Int)(r v n:Nat)(T:Nat->Int)(W:Nat->Nat->Int)(x:Int)(m:Ja1)(hr:∃ k e,m[r]?=some ⟨k,285,v,e,Jb6 n (keC T W)⟩)(hR:TrR w n T W)(a:Nat)(ha:plZ T x n=(a:Int))(han:a<n)(hk:¬(a:Int)=(n:Int) - 1)(hw0:¬w=0)(hw2:¬w=2):Ctr Tryz.prog 164 [.agg [.int .i64 w,.sl r v 0 n],.one (.int .i64 x)] m (.agg (c3C (trV w n T W x))) m:=by
 refine Ctr.en Tryz.func164 [.cell 4 54] 72 fun hwf Q hQ=>?_
 obtain ⟨kr,er,hr⟩:=hr
 have lr:=Jb2 hr
 have gl:(Jb6 n (keC T W)).length=n*4:=Ja9 (w:=4) (F:=keC T W) (fun _=>rfl) n
 have hn16:=hR.2.2.2.1
 have hn1:=hR.2.2.1
 have hd:=decide_eq_true hR
 have hw1:IntKind.i64.wrap ((n:Int) - 1)=(n:Int) - 1:=wi (by omega)
 have c1:(0:Int)<=(a:Int):=by omega
 have c2:(a:Int)<(n:Int):=by omega
 have c3:a*4+4<=n*4:=by omega
 have c4:a*4+1+3<=n*4:=by omega
 have nn:¬(a:Int)<0:=by omega
 have e2:(w ==2)=false:=by simpa using hw2
 have eb:((a:Int) ==(n:Int) - 1)=false:=by simpa using hk
 have ew:(w ==0)=false:=by simpa using hw0
 have han2:a+1<n:=by omega
 have hw2b:IntKind.i64.wrap ((a:Int)+1)=((a+1:Nat):Int):=by rw [wi (by omega)];push_cast;rfl
 have d1:(0:Int)<=((a+1:Nat):Int):=by omega
 have d2:((a+1:Nat):Int)<(n:Int):=by omega
 have d3:(a+1)*4+4<=n*4:=by omega
 obtain ⟨z,hz⟩:∃ z,z=a+1:=⟨_,rfl⟩
 rw [<-hz] at hw2b d1 d2 d3 han2
 have ga:=Jc0 (w:=4) (F:=keC T W) (fun _=>rfl) han
 have gz:=Jc0 (w:=4) (F:=keC T W) (fun _=>rfl) han2
 have ka:=Jr8 T W a
 have kz:=Jr8 T W z
 have hv:trV w n T W x=Kg7 (W a) (W z) (Kq3 T x a):=by
   unfold trV;rw [ha,if_neg nn,if_neg (fun q=>q.elim hk hw0),if_neg hw2,hz];rfl
 rw [hv] at hQ
 have hpa:Kq3 T x a=Jh2 (IntKind.i64.wrap (x - T a)) (IntKind.i64.wrap (T z - T a)):=by rw [hz];rfl
 rw [hpa] at hQ
 have U14:=ca4 hr (Ja5 hr) gl (ca4 hd @Ja4 ha (ca4 nn hw1 eb (ca4 ew e2 hw2b (ca4 c1 c2 c3 (ca4 d1 d2 d3 (ca4 ga gz ka (ca3 kz han han2)))))))
 refine AW.c 1 U14 Tru ?_
 refine AW.q fun K J0=>?_
 refine AW.c 1 U14 (Kr5 w r v n T W _ ⟨kr,er,Ja5 hr _⟩) ?_
 apply AW.x rfl
 apply AW.z
 apply J0
 refine AW.c 1 U14 (Kz3 w r v n T W x _ ⟨kr,er,Ja5 hr _⟩ hR) ?_
 refine AW.q fun K J0=>?_
 refine AW.c 1 U14 Tru ?_
 apply AW.x rfl
 apply AW.z
 apply J0
 refine AW.q fun K J0=>?_
 refine AW.c 1 U14 Tru ?_
 apply AW.x rfl
 apply AW.z
 apply J0
 refine AW.d [.val,.rd 0,.val,.val,.rd 0,.val,.rw 0,.val,.val,.val,.rw 0,.ext,.fl,.wr,.wr] fol U14 Tru ?_
 refine AW.c 1 U14 Jh6 ?_
 refine AW.q fun K J0=>?_
 refine AW.c 1 U14 Tru ?_
 apply AW.x rfl
 apply AW.z
 apply J0
 refine AW.c 1 U14 (Kc3 (W a) (W z)) ?_
 exact AW.ret (hQ _ _ _ (RetP.z hwf U14))
theorem rat_c (w:Int)(r v n:Nat)(T:Nat->Int)(W:Nat->Nat->Int)(x:Int)(m:Ja1)(hr:∃ k e,m[r]?=some ⟨k,285,v,e,Jb6 n (keC T W)⟩)(hR:TrR w n T W):Ctr Tryz.prog 164 [.agg [.int .i64 w,.sl r v 0 n],.one (.int .i64 x)] m (.agg (c3C (trV w n T W x))) m:=by
 have hb:=Xf0 T x n
 by_cases h0:plZ T x n<0
 ·exact Xr1 w r v n T W x m hr hR h0
 obtain ⟨a,ha⟩:∃ a:Nat,plZ T x n=(a:Int):=⟨(plZ T x n).toNat,by omega⟩
 have han:a<n:=by omega
 by_cases h1:(a:Int)=(n:Int) - 1
 ·exact Xr0 w r v n T W x m hr hR a ha han h1
 by_cases h2:w=0
 ·exact Xq9 w r v n T W x m hr hR a ha han h1 h2
 by_cases h3:w=2
 ·exact Xq8 w r v n T W x m hr hR a ha han h1 h2 h3
 exact Xq7 w r v n T W x m hr hR a ha han h1 h2 h3
def Jk1 (s:SC)(n x:Int):V:=if n<0\/(s.nt:Int)<=n then z0V else trV (s.tw n.toNat) (s.kn n.toNat) (s.kt n.toNat) (s.kv n.toNat) x
abbrev SQ:=MT × Int
def spC (q:SQ):List CV:=[.int .i64 (q.1 0 0),.int .i64 (q.1 0 1),.int .i64 (q.1 0 2),.int .i64 (q.1 1 0),.int .i64 (q.1 1 1),.int .i64 (q.1 1 2),.int .i64 (q.1 2 0),.int .i64 (q.1 2 1),.int .i64 (q.1 2 2),.int .i64 (q.1 3 0),.int .i64 (q.1 3 1),.int .i64 (q.1 3 2),.int .i64 q.2]
def stillQ:SQ:=(Jt8 65536,65536)
def Qj8 (s:SC)(x:Int)(i:Nat):MT:=Kg3 (Km4 (Jk1 s (s.jm i) x)) (Jw8 (Jk1 s (s.jt i) x)) (Jt8 (s.js i))
def onQ (s:SC)(tb:Nat->SQ)(p:Int)(i:Nat):SQ:=if 0<=p/\p<(i:Int) then tb p.toNat else stillQ
def Qp2 (s:SC)(x:Int)(tb:Nat->SQ)(i:Nat):SQ:=(Jo5 (onQ s tb (s.jp i) i).1 (Qj8 s x i),Je0 (onQ s tb (s.jp i) i).2 (s.js i))
def jts (s:SC)(x:Int):Nat->Nat->SQ
 | 0=>fun _=>stillQ
 | i+1=>fun k=>if k=i then Qp2 s x (jts s x i) i else jts s x i k
def jtQ (s:SC)(x:Int)(k:Nat):SQ:=jts s x (k+1) k
theorem Vx0 (s:SC)(x:Int):∀ {i k:Nat},k<i->jts s x i k=jtQ s x k
 | i+1,k,h=>by
  by_cases e:k=i
  ·rw [e];rfl
  have h1:jts s x (i+1) k=jts s x i k:=if_neg e
  rw [h1];exact Vx0 s x (by omega)
theorem Qk6 (s:SC)(x:Int)(i:Nat):jtQ s x i=Qp2 s x (jtQ s x) i:=by
 have h1:jtQ s x i=Qp2 s x (jts s x i) i:=if_pos rfl
 rw [h1]
 have h2:onQ s (jts s x i) (s.jp i) i=onQ s (jtQ s x) (s.jp i) i:=by
  unfold onQ;split
  ·rename_i h;exact Vx0 s x (by omega)
  rfl
 unfold Qp2;rw [h2]
def joF (s:SC)(x:Int)(k:Nat):List CV:=spC (jtQ s x k)
def spQ (s:SC)(x:Int)(i:Int):SQ:=if i<0 then stillQ else jtQ s x i.toNat
theorem Xk0 (s:SC)(R:RWs)(n x:Int)(m:Ja1)(hR:ScR 140 119 223 148 155 m s R)(hT:∀ i,i<s.nt->TrS s i)(h0:n<0):Ctr Tryz.prog 185 [.agg (scC s R),.one (.int .i64 n),.one (.int .i64 x)] m (.agg (c3C (Jk1 s n x))) m:=by
 refine Ctr.en Tryz.func185 [.cell 6 59] 24 fun hwf Q hQ=>?_
 have hv:Jk1 s n x=z0V:=if_pos (.inl h0)
 rw [hv] at hQ
 have z0:∀ k,z0V k=0:=fun _=>rfl
 have U1:=ca4 @Jf4 @Je7 @Jf3 (ca3 @Ja4 h0 z0)
 refine AW.c 1 U1 Tru ?_
 refine AW.q fun K J0=>?_
 refine AW.c 1 U1 Tru ?_
 apply AW.y rfl
 refine AW.c 1 U1 Tru ?_
 exact AW.ret (hQ _ _ _ (RetP.z hwf U1))
theorem Xj9 (s:SC)(R:RWs)(n x:Int)(m:Ja1)(hR:ScR 140 119 223 148 155 m s R)(hT:∀ i,i<s.nt->TrS s i)(h0:¬n<0)(h1:(s.nt:Int)<=n):Ctr Tryz.prog 185 [.agg (scC s R),.one (.int .i64 n),.one (.int .i64 x)] m (.agg (c3C (Jk1 s n x))) m:=by
 refine Ctr.en Tryz.func185 [.cell 6 59] 24 fun hwf Q hQ=>?_
 have hv:Jk1 s n x=z0V:=if_pos (.inr h1)
 rw [hv] at hQ
 have z0:∀ k,z0V k=0:=fun _=>rfl
 have U2:=ca4 @Jf4 @Je7 @Jf3 (ca4 @Ja4 h0 h1 z0)
 refine AW.c 1 U2 Tru ?_
 refine AW.q fun K J0=>?_
 refine AW.c 1 U2 Tru ?_
 apply AW.y rfl
 refine AW.c 1 U2 Tru ?_
 exact AW.ret (hQ _ _ _ (RetP.z hwf U2))
theorem Xj8 (s:SC)(R:RWs)(n x:Int)(m:Ja1)(hR:ScR 140 119 223 148 155 m s R)(hT:∀ i,i<s.nt->TrS s i)(h0:¬n<0)(h1:¬(s.nt:Int)<=n):Ctr Tryz.prog 185 [.agg (scC s R),.one (.int .i64 n),.one (.int .i64 x)] m (.agg (c3C (Jk1 s n x))) m:=by
 refine Ctr.en Tryz.func185 [.cell 6 59] 24 fun hwf Q hQ=>?_
 obtain ⟨kt,et,ht⟩:=hR.ht
 have lt:=Jb2 ht
 have nt:=hR.nt
 have tl:(Jb6 s.nt (tC s R)).length=s.nt*2:=Ja9 (w:=2) (F:=tC s R) (fun _=>rfl) _
 obtain ⟨i,hi⟩:∃ i:Nat,n=(i:Int):=⟨n.toNat,by omega⟩
 subst hi
 have hlt:i<s.nt:=by omega
 obtain ⟨kk,ek,hky⟩:=hR.hk i hlt
 have lky:=Jb2 hky
 have c1:(0:Int)<=(i:Int):=by omega
 have c2:(i:Int)<(s.nt:Int):=by omega
 have c3:i*2+2<=s.nt*2:=by omega
 have ga:=Jc0 (w:=2) (F:=tC s R) (fun _=>rfl) hlt
 have gk:=Vj3 s R i
 have hv:Jk1 s (i:Int) x=trV (s.tw i) (s.kn i) (s.kt i) (s.kv i) x:=by unfold Jk1;rw [if_neg (by omega)];rfl
 rw [hv] at hQ
 have n1:¬(i:Int)<0:=by omega
 have n2:¬(s.nt:Int)<=(i:Int):=by omega
 have U3:=ca4 @Jf4 @Je7 @Jf3 (ca4 @Ja4 ht (Ja5 ht) (ca4 tl c1 c2 (ca4 c3 ga gk (ca3 hlt n1 n2))))
 refine AW.c 1 U3 Tru ?_
 refine AW.q fun K J0=>?_
 refine AW.c 1 U3 Tru ?_
 apply AW.x rfl
 apply AW.z
 apply J0
 refine AW.c 1 U3 (cat_c (s.tw i) (R.k i) (R.vk i) (s.kn i) (s.kt i) (s.kv i) x _ ⟨kk,ek,Ja5 hky _⟩ (hT i hlt)) ?_
 exact AW.ret (hQ _ _ _ (RetP.z hwf U3))
theorem Kg2 (s:SC)(R:RWs)(n x:Int)(m:Ja1)(hR:ScR 140 119 223 148 155 m s R)(hT:∀ i,i<s.nt->TrS s i):Ctr Tryz.prog 185 [.agg (scC s R),.one (.int .i64 n),.one (.int .i64 x)] m (.agg (c3C (Jk1 s n x))) m:=by
 by_cases h0:n<0
 ·exact Xk0 s R n x m hR hT h0
 by_cases h1:(s.nt:Int)<=n
 ·exact Xj9 s R n x m hR hT h0 h1
 exact Xj8 s R n x m hR hT h0 h1
theorem Xa1 (s:SC)(R:RWs)(n x:Int)(m:Ja1)(hR:ScR 138 143 285 146 150 m s R)(hT:∀ i,i<s.nt->TrS s i)(h0:n<0):Ctr Tryz.prog 79 [.agg (scC s R),.one (.int .i64 n),.one (.int .i64 x)] m (.agg (c3C (Jk1 s n x))) m:=by
 refine Ctr.en Tryz.func79 [.cell 6 54] 17 fun hwf Q hQ=>?_
 have hv:Jk1 s n x=z0V:=if_pos (.inl h0)
 rw [hv] at hQ
 have z0:∀ k,z0V k=0:=fun _=>rfl
 have U4:=ca4 @Jf4 @Je7 @Jf3 (ca3 @Ja4 h0 z0)
 refine AW.c 1 U4 Tru ?_
 refine AW.q fun K J0=>?_
 refine AW.c 1 U4 Tru ?_
 apply AW.y rfl
 refine AW.c 1 U4 Tru ?_
 exact AW.ret (hQ _ _ _ (RetP.z hwf U4))
theorem Xa0 (s:SC)(R:RWs)(n x:Int)(m:Ja1)(hR:ScR 138 143 285 146 150 m s R)(hT:∀ i,i<s.nt->TrS s i)(h0:¬n<0)(h1:¬(s.nt:Int)<=n):Ctr Tryz.prog 79 [.agg (scC s R),.one (.int .i64 n),.one (.int .i64 x)] m (.agg (c3C (Jk1 s n x))) m:=by
 refine Ctr.en Tryz.func79 [.cell 6 54] 17 fun hwf Q hQ=>?_
 obtain ⟨kt,et,ht⟩:=hR.ht
 have lt:=Jb2 ht
 have nt:=hR.nt
 have tl:(Jb6 s.nt (tC s R)).length=s.nt*2:=Ja9 (w:=2) (F:=tC s R) (fun _=>rfl) _
 obtain ⟨i,hi⟩:∃ i:Nat,n=(i:Int):=⟨n.toNat,by omega⟩
 subst hi
 have hlt:i<s.nt:=by omega
 obtain ⟨kk,ek,hky⟩:=hR.hk i hlt
 have lky:=Jb2 hky
 have c1:(0:Int)<=(i:Int):=by omega
 have c2:(i:Int)<(s.nt:Int):=by omega
 have c3:i*2+2<=s.nt*2:=by omega
 have ga:=Jc0 (w:=2) (F:=tC s R) (fun _=>rfl) hlt
 have gk:=Vj3 s R i
 have hv:Jk1 s (i:Int) x=trV (s.tw i) (s.kn i) (s.kt i) (s.kv i) x:=by unfold Jk1;rw [if_neg (by omega)];rfl
 rw [hv] at hQ
 have n1:¬(i:Int)<0:=by omega
 have n2:¬(s.nt:Int)<=(i:Int):=by omega
 have U5:=ca4 @Jf4 @Je7 @Jf3 (ca4 @Ja4 ht (Ja5 ht) (ca4 tl c1 c2 (ca4 c3 ga gk (ca3 hlt n1 n2))))
 refine AW.c 1 U5 Tru ?_
 refine AW.q fun K J0=>?_
 refine AW.c 1 U5 Tru ?_
 apply AW.x rfl
 apply AW.z
 apply J0
 refine AW.c 1 U5 (rat_c (s.tw i) (R.k i) (R.vk i) (s.kn i) (s.kt i) (s.kv i) x _ ⟨kk,ek,Ja5 hky _⟩ (hT i hlt)) ?_
 exact AW.ret (hQ _ _ _ (RetP.z hwf U5))
theorem Qi7 (s:SC)(R:RWs)(n x:Int)(m:Ja1)(hR:ScR 138 143 285 146 150 m s R)(hT:∀ i,i<s.nt->TrS s i)(hn:n<(s.nt:Int)):Ctr Tryz.prog 79 [.agg (scC s R),.one (.int .i64 n),.one (.int .i64 x)] m (.agg (c3C (Jk1 s n x))) m:=by
 by_cases h0:n<0
 ·exact Xa1 s R n x m hR hT h0
 exact Xa0 s R n x m hR hT h0 (by omega)
theorem Ki9 (m:Ja1):Ctr Tryz.prog 214 [] m (.agg (spC stillQ)) m:=by
 refine Ctr.en Tryz.func214 [.cell 0 344] 3 fun hwf Q hQ=>?_
 refine AW.c 2 @Kh2 Kr2 ?_
 exact AW.ret (hQ _ _ _ (RetP.z hwf Tru))
theorem Vd5 (s:SC)(x:Int)(i:Nat)(M:MT)(r:Int)(h:jtQ s x i=(M,r)):Jb6 i (joF s x)++[.int .i64 (M 0 0),.int .i64 (M 0 1),.int .i64 (M 0 2),.int .i64 (M 1 0),.int .i64 (M 1 1),.int .i64 (M 1 2),.int .i64 (M 2 0),.int .i64 (M 2 1),.int .i64 (M 2 2),.int .i64 (M 3 0),.int .i64 (M 3 1),.int .i64 (M 3 2),.int .i64 r]=Jb6 (i+1) (joF s x):=by
 have h1:Jb6 (i+1) (joF s x)=Jb6 i (joF s x)++spC (jtQ s x i):=rfl
 rw [h1,h];rfl
theorem Xh2 (s:SC)(x:Int)(i:Nat)(on:SQ)(h:onQ s (jtQ s x) (s.jp i) i=on):jtQ s x i=(Jo5 on.1 (Qj8 s x i),Je0 on.2 (s.js i)):=by
 rw [Qk6 s x i];unfold Qp2;rw [h]
theorem Kt4 (q:SQ):spC q=([.int .i64 (q.1 0 0),.int .i64 (q.1 0 1),.int .i64 (q.1 0 2),.int .i64 (q.1 1 0),.int .i64 (q.1 1 1),.int .i64 (q.1 1 2),.int .i64 (q.1 2 0),.int .i64 (q.1 2 1),.int .i64 (q.1 2 2),.int .i64 (q.1 3 0),.int .i64 (q.1 3 1),.int .i64 (q.1 3 2),.int .i64 q.2]):=rfl
theorem Vq3 (s:SC)(R:RWs)(x:Int)(m:Ja1)(hR:ScR 140 119 223 148 155 m s R)(hT:∀ i,i<s.nt->TrS s i)(hn:s.nj<=1000000):Ctr Tryz.prog 169 [.agg (scC s R),.one (.int .i64 x)] m (.one (.sl m.length 0 0 s.nj)) (m++[⟨.grow,344,0,13,Jb6 (s.nj) (joF s x)⟩]):=by
 refine Ctr.en Tryz.func169 [.tmp 4] 65 fun hwf Q hQ=>?_
 obtain ⟨kj,ej,hj⟩:=hR.hj
 have lj:=Jb2 hj
 have nj:=hR.nj
 have jl:(Jb6 s.nj (jC s)).length=s.nj*4:=Ja9 (w:=4) (F:=jC s) (fun _=>rfl) _
 have hlt0:∀ k,¬m.length+k<m.length:=fun k=>by omega
 have U6:=ca4 @Jf4 @Je7 @Jf3 (ca4 @Ja4 hj (Ja5 hj) (ca3 jl @Kh2 @Kt4))
 refine AW.c 2 U6 Tru ?_
 refine AW.q fun K J0=>?_
 refine AW.c 1 U6 Tru ?_
 apply AW.b
 refine AW.nilTm 344 13 5 rfl ?_
 try simp only [push_cast,simprocAttr,U6]
 refine AW.loopK [1,2,11,12] (fun i=>i<=s.nj) (fun i=>[(5,.one (.sl (m.length+1) i 0 i)),(13,.one (.int .i64 (i:Int)))]) (fun i=>[(m.length+1,⟨.grow,344,i,13,Jb6 i (joF s x)⟩)]) (fun i=>s.nj - i) 0 (by omega) ?_ ?_ fun i hi2=>?_
 · first|rfl|(simp only [KS,simprocAttr,Jb6,Int.natCast_zero]<;>repeat' (first|rfl|apply And.intro))
 · (simp only [Ja2,push_cast,simprocAttr,Jb6])<;>rfl
 try simp only [Jb1,Ja2,push_cast,simprocAttr,U6]
 refine AW.c 1 U6 Tru ?_
 refine AW.q fun K J1=>?_
 refine AW.cond rfl (fun h14=>?_) (fun h14=>?_)
 ·have hlt:i<s.nj:=by have:=of_decide_eq_true h14;omega
  have c1:(0:Int)<=(i:Int):=by omega
  have c2:(i:Int)<(s.nj:Int):=by omega
  have c3:i*4+4<=s.nj*4:=by omega
  have ga:=Jc0 (w:=4) (F:=jC s) (fun _=>rfl) hlt
  have gk:=Vd6 s i
  have q1:i<=140737488355327:=by omega
  have q2:(i+1)*104<=140737488355328:=by omega
  have gli:(Jb6 i (joF s x)).length=i*13:=Ja9 (w:=13) (F:=joF s x) (fun _=>rfl) i
  apply AW.z
  apply J1
  refine AW.q fun K J1=>?_
  apply AW.b
  have U7:=ca4 U6 c1 c2 (ca4 c3 ga gk (ca4 q1 q2 gli hlt))
  refine AW.c 2 U7 Ki9 ?_
  refine AW.q fun K J2=>?_
  refine AW.q fun K J3=>?_
  have hk:¬0<=s.jp i\/(0<=s.jp i/\¬s.jp i<(i:Int))\/(0<=s.jp i/\s.jp i<(i:Int)):=by omega
  rcases hk with e1|⟨e1,e2⟩|⟨e1,e2⟩
  ·have hon:(onQ s (jtQ s x) (s.jp i) i)=stillQ:=if_neg (by omega)
   have hap:=Vd5 s x i (Jo5 stillQ.1 (Qj8 s x i)) (Je0 stillQ.2 (s.js i)) (Xh2 s x i _ hon)
   have U8:=ca2 U7 e1
   refine AW.g U8 Tru ?_
   apply J3
   apply AW.x rfl
   apply AW.z
   apply J2
   refine AW.q fun K J2=>?_
   refine AW.draw [.rd 0,.val,.rd 0,.val,.ext,.ext,.rd 0,.val,.rd 0,.val,.ext,.ext,.val,.rd 0,.ext,.ext,.ext,.fl,.wr] fol (by decide) (by kernel_rfl) ?_
   simp only [push_cast,simprocAttr,U8]
   refine DCall.z (Kg2 s R (s.jm i) x _ (hR.app _) hT) ?_
   simp only [push_cast,simprocAttr,U8]
   refine DCall.z (Vc8 _ _) ?_
   simp only [push_cast,simprocAttr,U8]
   refine DCall.z (Kg2 s R (s.jt i) x _ (hR.app _) hT) ?_
   simp only [push_cast,simprocAttr,U8]
   refine DCall.z (Qd8 _ _) ?_
   simp only [push_cast,simprocAttr,U8]
   refine DCall.z (Qi1 _ _) ?_
   simp only [push_cast,simprocAttr,U8]
   refine DExt.by (by first|rfl|exact (List.append_nil _).symm|(simp only [List.append_assoc,List.cons_append,List.nil_append];rfl)) ?_
   simp only [push_cast,simprocAttr,U8]
   refine DCall.z ((by have h:=fun M q=>Kx0 (m.length+4) 0 (Km4 (Jk1 s (s.jm i) x)) (Jw8 (Jk1 s (s.jt i) x)) (Jt8 (s.js i)) M q;rw [show Kg3 (Km4 (Jk1 s (s.jm i) x)) (Jw8 (Jk1 s (s.jt i) x)) (Jt8 (s.js i))=Qj8 s x i from rfl] at h;exact h _ ⟨.grow,12,by rw [Jg1];rfl⟩)) ?_
   simp only [push_cast,simprocAttr,U8]
   apply J2
   refine AW.e [.val,.val,.rd 0,.rd 0,.ext,.val,.rd 0,.val,.rd 0,.ext,.val,.ext,.wr,.val] fol U8 (ca2 (Ke1 stillQ.1 (Qj8 s x i)) Jm7) ?_
   apply Ja8
   apply J1
   refine AW.g U8 Tru ?_
   apply Jc2
   have hwi:IntKind.i64.wrap ((i:Int)+1)=(i:Int)+1:=wi (by omega)
   refine ⟨i+1,by omega,by omega,?_⟩
   try simp only [Jb1,Ja2,push_cast,simprocAttr,U8,hwi,hap]
   exact Weak.to (extra:=_) (by simp only [KS,simprocAttr,hwi,hap]) (by first|rfl|(simp only [List.append_assoc,List.cons_append,List.nil_append];rfl)) (by first|rfl|(simp [AV.below,CV.below];done)|(simp [AV.below,CV.below];omega)) (by exact MWf.app (hwf.grow (by simp)) (Ja0 (hR.bel _ (by simp)) (Ja0 (Jc1 _ (fun _=>rfl) _) Jb7)))
  ·have hon:(onQ s (jtQ s x) (s.jp i) i)=stillQ:=if_neg (by omega)
   have hap:=Vd5 s x i (Jo5 stillQ.1 (Qj8 s x i)) (Je0 stillQ.2 (s.js i)) (Xh2 s x i _ hon)
   have U9:=ca3 U7 e1 e2
   refine AW.g U9 Tru ?_
   apply J3
   apply AW.x rfl
   apply AW.z
   apply J2
   refine AW.q fun K J2=>?_
   refine AW.draw [.rd 0,.val,.rd 0,.val,.ext,.ext,.rd 0,.val,.rd 0,.val,.ext,.ext,.val,.rd 0,.ext,.ext,.ext,.fl,.wr] fol (by decide) (by kernel_rfl) ?_
   simp only [push_cast,simprocAttr,U9]
   refine DCall.z (Kg2 s R (s.jm i) x _ (hR.app _) hT) ?_
   simp only [push_cast,simprocAttr,U9]
   refine DCall.z (Vc8 _ _) ?_
   simp only [push_cast,simprocAttr,U9]
   refine DCall.z (Kg2 s R (s.jt i) x _ (hR.app _) hT) ?_
   simp only [push_cast,simprocAttr,U9]
   refine DCall.z (Qd8 _ _) ?_
   simp only [push_cast,simprocAttr,U9]
   refine DCall.z (Qi1 _ _) ?_
   simp only [push_cast,simprocAttr,U9]
   refine DExt.by (by first|rfl|exact (List.append_nil _).symm|(simp only [List.append_assoc,List.cons_append,List.nil_append];rfl)) ?_
   simp only [push_cast,simprocAttr,U9]
   refine DCall.z ((by have h:=fun M q=>Kx0 (m.length+4) 0 (Km4 (Jk1 s (s.jm i) x)) (Jw8 (Jk1 s (s.jt i) x)) (Jt8 (s.js i)) M q;rw [show Kg3 (Km4 (Jk1 s (s.jm i) x)) (Jw8 (Jk1 s (s.jt i) x)) (Jt8 (s.js i))=Qj8 s x i from rfl] at h;exact h _ ⟨.grow,12,by rw [Jg1];rfl⟩)) ?_
   simp only [push_cast,simprocAttr,U9]
   apply J2
   refine AW.e [.val,.val,.rd 0,.rd 0,.ext,.val,.rd 0,.val,.rd 0,.ext,.val,.ext,.wr,.val] fol U9 (ca2 (Ke1 stillQ.1 (Qj8 s x i)) Jm7) ?_
   apply Ja8
   apply J1
   refine AW.g U9 Tru ?_
   apply Jc2
   have hwi:IntKind.i64.wrap ((i:Int)+1)=(i:Int)+1:=wi (by omega)
   refine ⟨i+1,by omega,by omega,?_⟩
   try simp only [Jb1,Ja2,push_cast,simprocAttr,U9,hwi,hap]
   exact Weak.to (extra:=_) (by simp only [KS,simprocAttr,hwi,hap]) (by first|rfl|(simp only [List.append_assoc,List.cons_append,List.nil_append];rfl)) (by first|rfl|(simp [AV.below,CV.below];done)|(simp [AV.below,CV.below];omega)) (by exact MWf.app (hwf.grow (by simp)) (Ja0 (hR.bel _ (by simp)) (Ja0 (Jc1 _ (fun _=>rfl) _) Jb7)))
  obtain ⟨p,hp⟩:∃ p:Nat,s.jp i=(p:Int):=⟨(s.jp i).toNat,by omega⟩
  have hpi:p<i:=by omega
  have hon:(onQ s (jtQ s x) (s.jp i) i)=(jtQ s x p):=by unfold onQ;rw [if_pos ⟨e1,e2⟩,hp];rfl
  have hap:=Vd5 s x i (Jo5 (jtQ s x p).1 (Qj8 s x i)) (Je0 (jtQ s x p).2 (s.js i)) (Xh2 s x i _ hon)
  rw [hp] at e1 e2
  have p3:p*13+13<=i*13:=by omega
  have gp:=Jc0 (w:=13) (F:=joF s x) (fun _=>rfl) hpi
  have gq:joF s x p=[.int .i64 ((jtQ s x p).1 0 0),.int .i64 ((jtQ s x p).1 0 1),.int .i64 ((jtQ s x p).1 0 2),.int .i64 ((jtQ s x p).1 1 0),.int .i64 ((jtQ s x p).1 1 1),.int .i64 ((jtQ s x p).1 1 2),.int .i64 ((jtQ s x p).1 2 0),.int .i64 ((jtQ s x p).1 2 1),.int .i64 ((jtQ s x p).1 2 2),.int .i64 ((jtQ s x p).1 3 0),.int .i64 ((jtQ s x p).1 3 1),.int .i64 ((jtQ s x p).1 3 2),.int .i64 (jtQ s x p).2]:=rfl
  have U10:=ca4 U7 hp e1 (ca4 e2 p3 gp (ca2 gq hpi))
  refine AW.g U10 Tru ?_
  apply J3
  apply AW.y rfl
  refine AW.g U10 Tru ?_
  apply J2
  refine AW.q fun K J2=>?_
  refine AW.draw [.rd 0,.val,.rd 0,.val,.ext,.ext,.rd 0,.val,.rd 0,.val,.ext,.ext,.val,.rd 0,.ext,.ext,.ext,.fl,.wr] fol (by decide) (by kernel_rfl) ?_
  simp only [push_cast,simprocAttr,U10]
  refine DCall.z (Kg2 s R (s.jm i) x _ (hR.app _) hT) ?_
  simp only [push_cast,simprocAttr,U10]
  refine DCall.z (Vc8 _ _) ?_
  simp only [push_cast,simprocAttr,U10]
  refine DCall.z (Kg2 s R (s.jt i) x _ (hR.app _) hT) ?_
  simp only [push_cast,simprocAttr,U10]
  refine DCall.z (Qd8 _ _) ?_
  simp only [push_cast,simprocAttr,U10]
  refine DCall.z (Qi1 _ _) ?_
  simp only [push_cast,simprocAttr,U10]
  refine DExt.by (by first|rfl|exact (List.append_nil _).symm|(simp only [List.append_assoc,List.cons_append,List.nil_append];rfl)) ?_
  simp only [push_cast,simprocAttr,U10]
  refine DCall.z ((by have h:=fun M q=>Kx0 (m.length+4) 0 (Km4 (Jk1 s (s.jm i) x)) (Jw8 (Jk1 s (s.jt i) x)) (Jt8 (s.js i)) M q;rw [show Kg3 (Km4 (Jk1 s (s.jm i) x)) (Jw8 (Jk1 s (s.jt i) x)) (Jt8 (s.js i))=Qj8 s x i from rfl] at h;exact h _ ⟨.grow,12,by rw [Jg1];rfl⟩)) ?_
  simp only [push_cast,simprocAttr,U10]
  apply J2
  refine AW.e [.val,.val,.rd 0,.rd 0,.ext,.val,.rd 0,.val,.rd 0,.ext,.val,.ext,.wr,.val] fol U10 (ca2 (Ke1 (jtQ s x p).1 (Qj8 s x i)) Jm7) ?_
  apply Ja8
  apply J1
  refine AW.g U10 Tru ?_
  apply Jc2
  have hwi:IntKind.i64.wrap ((i:Int)+1)=(i:Int)+1:=wi (by omega)
  refine ⟨i+1,by omega,by omega,?_⟩
  try simp only [Jb1,Ja2,push_cast,simprocAttr,U10,hwi,hap]
  exact Weak.to (extra:=_) (by simp only [KS,simprocAttr,hwi,hap]) (by first|rfl|(simp only [List.append_assoc,List.cons_append,List.nil_append];rfl)) (by first|rfl|(simp [AV.below,CV.below];done)|(simp [AV.below,CV.below];omega)) (by exact MWf.app (hwf.grow (by simp)) (Ja0 (hR.bel _ (by simp)) (Ja0 (Jc1 _ (fun _=>rfl) _) Jb7)))
 have hin:i=s.nj:=by have:=of_decide_eq_false h14;omega
 rw [hin]
 apply AW.v
 apply Jb0
 apply Jb0
 apply Ja6
 apply J0
 refine AW.c 1 U6 Tru ?_
 refine AW.ret ?_
 refine hQ _ _ _ ?_
 refine RetP.pick [(m.length+1,s.nj)] (by first|exact Or.inr rfl|exact Or.inl rfl) ?_ ?_ ?_ hwf ?_
 · simp only [Jd0,Ja7,Jb5,AV.tv,push_cast,simprocAttr]
   simp [Kq2,Ku7,Ke8,Jw2,Ji8,hlt0]
 · simp only [Jp9,push_cast,simprocAttr]
 · simp [Jd1]
 exact Ja0 (Jc1 _ (fun _=>rfl) _) Jb7
theorem Kz6 (s:SC)(R:RWs)(x q:Int)(m:Ja1)(hR:ScR 138 143 285 146 150 m s R)(h0:q<0):Ctr Tryz.prog 161 [.agg (scC s R),.one (.int .i64 q),.one (.int .i64 x)] m (.agg (spC (spQ s x q))) m:=by
 refine Ctr.en Tryz.func161 [.cell 6 290] 51 fun hwf Q hQ=>?_
 have hv:spQ s x q=stillQ:=if_pos h0
 rw [hv] at hQ
 have U1:=ca3 @Kt4 @Kh2 h0
 refine AW.c 1 U1 Tru ?_
 refine AW.q fun K J0=>?_
 refine AW.c 1 U1 Tru ?_
 apply AW.y rfl
 refine AW.c 1 U1 Jz9 ?_
 exact AW.ret (hQ _ _ _ (RetP.z hwf Tru))
theorem Qz2 (s:SC)(R:RWs)(x:Int)(i:Nat)(m:Ja1)(hR:ScR 138 143 285 146 150 m s R)(hT:∀ i,i<s.nt->TrS s i)(hlt:i<s.nj)(hJ:JoR s i)(ih:∀ m,ScR 138 143 285 146 150 m s R->Ctr Tryz.prog 161 [.agg (scC s R),.one (.int .i64 (s.jp i)),.one (.int .i64 x)] m (.agg (spC (spQ s x (s.jp i)))) m):Ctr Tryz.prog 161 [.agg (scC s R),.one (.int .i64 ((i:Int))),.one (.int .i64 x)] m (.agg (spC (spQ s x (i:Int)))) m:=by
 refine Ctr.en Tryz.func161 [.cell 6 290] 51 fun hwf Q hQ=>?_
 obtain ⟨kj,ej,hj⟩:=hR.hj
 have lj:=Jb2 hj
 have nj:=hR.nj
 have jl:(Jb6 s.nj (jC s)).length=s.nj*4:=Ja9 (w:=4) (F:=jC s) (fun _=>rfl) _
 have c3:i*4+4<=s.nj*4:=by omega
 have ga:=Jc0 (w:=4) (F:=jC s) (fun _=>rfl) hlt
 have gk:=Vd6 s i
 have n1:¬(i:Int)<0:=by omega
 have c1:(0:Int)<=(i:Int):=by omega
 have c2:(i:Int)<(s.nj:Int):=by omega
 obtain ⟨j1,j2,j3,_⟩:=hJ
 rw [inB_iff] at j1 j2 j3
 have hv:spQ s x (i:Int)=(Jo5 (spQ s x (s.jp i)).1 (Qj8 s x i),Je0 (spQ s x (s.jp i)).2 (s.js i)):=by
   unfold spQ
   rw [if_neg n1,Int.toNat_natCast,Qk6];unfold Qp2
   have e:onQ s (jtQ s x) (s.jp i) i=if s.jp i<0 then stillQ else jtQ s x (s.jp i).toNat:=by
     unfold onQ
     by_cases g:s.jp i<0
     · rw [if_neg (by omega),if_pos g]
     rw [if_pos ⟨by omega,by omega⟩,if_neg g]
   rw [e]
 rw [hv] at hQ
 have U2:=ca4 @Jf4 @Je7 @Jf3 (ca4 @Ja4 hj (Ja5 hj) (ca4 jl @Kh2 @Kt4 (ca4 c1 c2 c3 (ca4 ga gk hlt n1))))
 refine AW.c 1 U2 Tru ?_
 refine AW.q fun K J0=>?_
 refine AW.c 1 U2 Tru ?_
 apply AW.x rfl
 apply AW.z
 apply J0
 refine AW.c 2 U2 (ih _ (hR.app _)) ?_
 refine AW.q fun K J0=>?_
 refine AW.draw [.rd 0,.val,.rd 0,.val,.ext,.ext,.rd 0,.val,.rd 0,.val,.ext,.ext,.val,.rd 0,.ext,.ext,.ext,.fl,.wr] fol (by decide) (by kernel_rfl) ?_
 simp only [push_cast,simprocAttr,U2]
 refine DCall.z (Qi7 s R (s.jm i) x _ (hR.app _) hT (by omega)) ?_
 simp only [push_cast,simprocAttr,U2]
 refine DCall.z (Xb6 _ _) ?_
 simp only [push_cast,simprocAttr,U2]
 refine DCall.z (Qi7 s R (s.jt i) x _ (hR.app _) hT (by omega)) ?_
 simp only [push_cast,simprocAttr,U2]
 refine DCall.z (Vm0 _ _) ?_
 simp only [push_cast,simprocAttr,U2]
 refine DCall.z (Jz9 _ _) ?_
 simp only [push_cast,simprocAttr,U2]
 refine DExt.by (by first|rfl|exact (List.append_nil _).symm|(simp only [List.append_assoc,List.cons_append,List.nil_append];rfl)) ?_
 simp only [push_cast,simprocAttr,U2]
 refine DCall.z ((by have h:=fun M q=>Qj4 (m.length+4) 0 (Km4 (Jk1 s (s.jm i) x)) (Jw8 (Jk1 s (s.jt i) x)) (Jt8 (s.js i)) M q;rw [show Kg3 (Km4 (Jk1 s (s.jm i) x)) (Jw8 (Jk1 s (s.jt i) x)) (Jt8 (s.js i))=Qj8 s x i from rfl] at h;exact h _ ⟨.grow,12,by rw [Jg1];rfl⟩)) ?_
 simp only [push_cast,simprocAttr,U2]
 apply J0
 refine AW.d [.val,.rd 0,.rd 0,.ext,.val,.rd 0,.val,.rd 0,.ext,.val,.wr] fol U2 (ca2 (Kh4 (spQ s x (s.jp i)).1 (Qj8 s x i)) Jg6) ?_
 exact AW.ret (hQ _ _ _ (RetP.z hwf Tru))
theorem Ku4 (s:SC)(R:RWs)(x:Int)(hT:∀ i,i<s.nt->TrS s i)(hJ:∀ i,i<s.nj->JoR s i):∀ (n:Nat) (q:Int),q<(n:Int)->q<(s.nj:Int)->∀ (m:Ja1),ScR 138 143 285 146 150 m s R->Ctr Tryz.prog 161 [.agg (scC s R),.one (.int .i64 q),.one (.int .i64 x)] m (.agg (spC (spQ s x q))) m
 | 0,q,h0,_,m,hR=>Kz6 s R x q m hR (by omega)
 | n+1,q,h0,h1,m,hR=>by
  by_cases g:q<0
  ·exact Kz6 s R x q m hR g
  obtain ⟨i,rfl⟩:∃ i:Nat,q=(i:Int):=⟨q.toNat,by omega⟩
  have hlt:i<s.nj:=by omega
  have jr:=hJ i hlt
  have j1:=jr.1
  rw [inB_iff] at j1
  exact Qz2 s R x i m hR hT hlt jr fun m hR=>Ku4 s R x hT hJ n (s.jp i) (by omega) (by omega) m hR
def Qe8 (s:SC)(i:Nat)(q:SQ):PL:=⟨s.xk i,s.xp i,fun j=>if s.xk i=0 then (if j=0 then Jo6 q.1 (s.xv i 0) else z0V) else Jo6 q.1 (s.xv i j),if s.xk i=0 then Je0 (s.xr i) q.2 else 0⟩
def plC (p:PL):List CV:=.int .i64 p.kind::.int .i64 p.paint::(c3C (p.P 0)++(c3C (p.P 1)++(c3C (p.P 2)++[.int .i64 p.r])))
theorem Jg4 (p:PL):plC p=[.int .i64 p.kind,.int .i64 p.paint,.int .i64 (p.P 0 0),.int .i64 (p.P 0 1),.int .i64 (p.P 0 2),.int .i64 (p.P 1 0),.int .i64 (p.P 1 1),.int .i64 (p.P 1 2),.int .i64 (p.P 2 0),.int .i64 (p.P 2 1),.int .i64 (p.P 2 2),.int .i64 p.r]:=rfl
theorem Xf2 (s:SC)(i:Nat)(q:SQ)(h:(s.xk i ==0)=true):plC (Qe8 s i q)=[.int .i64 (s.xk i),.int .i64 (s.xp i),.int .i64 (Jo6 q.1 (s.xv i 0) 0),.int .i64 (Jo6 q.1 (s.xv i 0) 1),.int .i64 (Jo6 q.1 (s.xv i 0) 2),.int .i64 0,.int .i64 0,.int .i64 0,.int .i64 0,.int .i64 0,.int .i64 0,.int .i64 (Je0 (s.xr i) q.2)]:=by
 have h:=eq_of_beq h
 simp [plC,Qe8,c3C,h,z0V]
theorem Xf1 (s:SC)(i:Nat)(q:SQ)(h:(s.xk i ==0)=false):plC (Qe8 s i q)=[.int .i64 (s.xk i),.int .i64 (s.xp i),.int .i64 (Jo6 q.1 (s.xv i 0) 0),.int .i64 (Jo6 q.1 (s.xv i 0) 1),.int .i64 (Jo6 q.1 (s.xv i 0) 2),.int .i64 (Jo6 q.1 (s.xv i 1) 0),.int .i64 (Jo6 q.1 (s.xv i 1) 1),.int .i64 (Jo6 q.1 (s.xv i 1) 2),.int .i64 (Jo6 q.1 (s.xv i 2) 0),.int .i64 (Jo6 q.1 (s.xv i 2) 1),.int .i64 (Jo6 q.1 (s.xv i 2) 2),.int .i64 0]:=by
 have h:¬s.xk i=0:=by simpa using h
 simp [plC,Qe8,c3C,h]
theorem Ve6 (a b:Int)(m:Ja1)(h0:0<=a):Ctr Tryz.prog 220 [.agg [.int .i64 a,.int .i64 b]] m (.one (.bool true)) m:=by
 refine Ctr.en Tryz.func220 [.tmp 2] 6 fun hwf Q hQ=>?_
 have U1:=ca3 h0 @decide_true @decide_false
 refine AW.c 2 U1 Tru ?_
 exact AW.ret (hQ _ _ _ (RetP.z hwf U1))
theorem Ve7 (a b:Int)(m:Ja1)(h0:¬0<=a):Ctr Tryz.prog 220 [.agg [.int .i64 a,.int .i64 b]] m (.one (.bool false)) m:=by
 refine Ctr.en Tryz.func220 [.tmp 2] 6 fun hwf Q hQ=>?_
 have U2:=ca3 h0 @decide_true @decide_false
 refine AW.c 2 U2 Tru ?_
 exact AW.ret (hQ _ _ _ (RetP.z hwf U2))
theorem Vx4 (s:SC)(i:Nat)(m:Ja1)(hk:(s.xk i ==0)=true):Ctr Tryz.prog 221 [.agg (xC s i)] m (.one (.sl m.length 0 0 1)) (m++[⟨.grow,59,0,3,c3C (s.xv i 0)⟩]):=by
 refine Ctr.en Tryz.func221 [.tmp 2] 16 fun hwf Q hQ=>?_
 have gx:=Ke0 s i
 have hlt0:∀ k,¬m.length+k<m.length:=fun k=>by omega
 have U3:=ca3 gx hk @Ja4
 refine AW.c 1 U3 Tru ?_
 refine AW.q fun K J0=>?_
 refine AW.c 1 U3 Tru ?_
 apply AW.y rfl
 refine AW.c 1 U3 Tru ?_
 refine AW.ret ?_
 apply Jc8
 refine hQ _ _ _ ?_
 refine RetP.pick [(m.length+1,0)] (by first|exact Or.inr rfl|exact Or.inl rfl) ?_ ?_ ?_ hwf ?_
 · simp only [Jd0,Ja7,Jb5,AV.tv,push_cast,simprocAttr]
   simp [Kq2,Ku7,Ke8,Jw2,Ji8,hlt0]
 · (simp only [Jp9,push_cast,simprocAttr])<;>rfl
 · simp [Jd1]
 exact Qg9 rfl
theorem Vx3 (s:SC)(i:Nat)(m:Ja1)(hk:(s.xk i ==0)=false):Ctr Tryz.prog 221 [.agg (xC s i)] m (.one (.sl m.length 0 0 3)) (m++[⟨.grow,59,0,3,c3C (s.xv i 0)++(c3C (s.xv i 1)++c3C (s.xv i 2))⟩]):=by
 refine Ctr.en Tryz.func221 [.tmp 2] 16 fun hwf Q hQ=>?_
 have gx:=Ke0 s i
 have hlt0:∀ k,¬m.length+k<m.length:=fun k=>by omega
 have U4:=ca3 gx hk @Ja4
 refine AW.c 1 U4 Tru ?_
 refine AW.q fun K J0=>?_
 refine AW.c 1 U4 Tru ?_
 apply AW.x rfl
 apply AW.z
 apply J0
 refine AW.c 1 U4 Tru ?_
 refine AW.ret ?_
 refine hQ _ _ _ ?_
 refine RetP.pick [(m.length+1,0)] (by first|exact Or.inr rfl|exact Or.inl rfl) ?_ ?_ ?_ hwf ?_
 · simp only [Jd0,Ja7,Jb5,AV.tv,push_cast,simprocAttr]
   simp [Kq2,Ku7,Ke8,Jw2,Ji8,hlt0]
 · (simp only [Jp9,push_cast,simprocAttr])<;>rfl
 · simp [Jd1]
 exact Qg9 rfl
theorem Vb3 (s:SC)(i:Nat)(x:Int)(p:Nat)(hp:p<s.nj)(h0:s.xj i=(p:Int))(jb jv:Nat)(m:Ja1)(hb:∃ k e,m[jb]?=some ⟨k,344,jv,e,Jb6 s.nj (joF s x)⟩)  (hk:(s.xk i ==0)=true):Ctr Tryz.prog 170 [.agg (xC s i),.one (.sl jb jv 0 s.nj)] m (.agg (plC (Qe8 s i (jtQ s x p)))) m:=by
 refine Ctr.en Tryz.func170 [.cell 4 84] 59 fun hwf Q hQ=>?_
 have gx:=Ke0 s i
 rw [Xf2 s i _ hk] at hQ
 obtain ⟨k0,e0,hb⟩:=hb
 have lb:=Jb2 hb
 have jl:(Jb6 s.nj (joF s x)).length=s.nj*13:=Ja9 (w:=13) (F:=joF s x) (fun _=>rfl) _
 have c1:(0:Int)<=(p:Int):=by omega
 have c2:(p:Int)<(s.nj:Int):=by omega
 have hh:0<=s.xj i:=by omega
 have p3:p*13+13<=s.nj*13:=by omega
 have gp:=Jc0 (w:=13) (F:=joF s x) (fun _=>rfl) hp
 have gq:joF s x p=[.int .i64 ((jtQ s x p).1 0 0),.int .i64 ((jtQ s x p).1 0 1),.int .i64 ((jtQ s x p).1 0 2),.int .i64 ((jtQ s x p).1 1 0),.int .i64 ((jtQ s x p).1 1 1),.int .i64 ((jtQ s x p).1 1 2),.int .i64 ((jtQ s x p).1 2 0),.int .i64 ((jtQ s x p).1 2 1),.int .i64 ((jtQ s x p).1 2 2),.int .i64 ((jtQ s x p).1 3 0),.int .i64 ((jtQ s x p).1 3 1),.int .i64 ((jtQ s x p).1 3 2),.int .i64 (jtQ s x p).2]:=rfl
 have U5:=ca4 gx hk @Kt4 (ca4 @Kh2 @Ja4 hb (ca4 (Ja5 hb) jl h0 (ca4 c1 c2 p3 (ca3 gp gq hp))))
 refine AW.c 2 U5 Ki9 ?_
 refine AW.q fun K J0=>?_
 refine AW.c 1 U5 (Ve6 _ _ _ c1) ?_
 apply AW.y rfl
 refine AW.g U5 Tru ?_
 apply J0
 refine AW.c 1 U5 Tru ?_
 refine AW.q fun K J0=>?_
 have q_1:=Vx4 s i
 rw [gx,h0] at q_1
 refine AW.c 1 U5 (q_1 _ hk) ?_
 apply AW.b
 refine AW.r 2 ?_
 refine ARounds.s fun K J1=>?_
 refine AW.c 1 U5 Tru ?_
 refine AW.ifT rfl ?_
 refine AW.q fun K J2=>?_
 apply AW.b
 refine AW.c 1 U5 Tru ?_
 refine AW.g U5 (Jv4 (jtQ s x p).1 (s.xv i 0)) ?_
 apply Ja8
 apply J2
 refine AW.g U5 Tru ?_
 apply J1
 refine ARounds.s fun K J1=>?_
 refine AW.c 1 U5 Tru ?_
 refine AW.q fun K J2=>?_
 apply AW.x rfl
 apply AW.v
 apply Jb0
 apply Jb0
 apply Ja6
 apply J0
 refine AW.q fun K J0=>?_
 refine AW.c 1 U5 Tru ?_
 apply AW.y rfl
 refine AW.g U5 Jm7 ?_
 apply J0
 refine AW.c 1 U5 Tru ?_
 exact AW.ret (hQ _ _ _ (RetP.z hwf Tru))
theorem Vb4 (s:SC)(i:Nat)(x:Int)(jb jv:Nat)(m:Ja1)(hb:∃ k e,m[jb]?=some ⟨k,344,jv,e,Jb6 s.nj (joF s x)⟩)(h0:¬0<=s.xj i)(hk:(s.xk i ==0)=true):Ctr Tryz.prog 170 [.agg (xC s i),.one (.sl jb jv 0 s.nj)] m (.agg (plC (Qe8 s i stillQ))) m:=by
 refine Ctr.en Tryz.func170 [.cell 4 84] 59 fun hwf Q hQ=>?_
 have gx:=Ke0 s i
 rw [Xf2 s i _ hk] at hQ
 obtain ⟨k0,e0,hb⟩:=hb
 have lb:=Jb2 hb
 have jl:(Jb6 s.nj (joF s x)).length=s.nj*13:=Ja9 (w:=13) (F:=joF s x) (fun _=>rfl) _
 have U6:=ca4 gx hk @Kt4 (ca4 @Kh2 @Ja4 hb (ca3 (Ja5 hb) jl h0))
 refine AW.c 2 U6 Ki9 ?_
 refine AW.q fun K J0=>?_
 refine AW.c 1 U6 (Ve7 _ _ _ h0) ?_
 apply AW.x rfl
 apply AW.z
 apply J0
 refine AW.c 1 U6 Tru ?_
 refine AW.q fun K J0=>?_
 refine AW.c 1 U6 (Vx4 s i _ hk) ?_
 apply AW.b
 refine AW.r 2 ?_
 refine ARounds.s fun K J1=>?_
 refine AW.c 1 U6 Tru ?_
 refine AW.ifT rfl ?_
 refine AW.q fun K J2=>?_
 apply AW.b
 refine AW.c 1 U6 Tru ?_
 refine AW.g U6 (Jv4 stillQ.1 (s.xv i 0)) ?_
 apply Ja8
 apply J2
 refine AW.g U6 Tru ?_
 apply J1
 refine ARounds.s fun K J1=>?_
 refine AW.c 1 U6 Tru ?_
 refine AW.q fun K J2=>?_
 apply AW.x rfl
 apply AW.v
 apply Jb0
 apply Jb0
 apply Ja6
 apply J0
 refine AW.q fun K J0=>?_
 refine AW.c 1 U6 Tru ?_
 apply AW.y rfl
 refine AW.g U6 Jm7 ?_
 apply J0
 refine AW.c 1 U6 Tru ?_
 exact AW.ret (hQ _ _ _ (RetP.z hwf Tru))
theorem Vb1 (s:SC)(i:Nat)(x:Int)(p:Nat)(hp:p<s.nj)(h0:s.xj i=(p:Int))(jb jv:Nat)(m:Ja1)(hb:∃ k e,m[jb]?=some ⟨k,344,jv,e,Jb6 s.nj (joF s x)⟩)  (hk:(s.xk i ==0)=false):Ctr Tryz.prog 170 [.agg (xC s i),.one (.sl jb jv 0 s.nj)] m (.agg (plC (Qe8 s i (jtQ s x p)))) m:=by
 refine Ctr.en Tryz.func170 [.cell 4 84] 59 fun hwf Q hQ=>?_
 have gx:=Ke0 s i
 rw [Xf1 s i _ hk] at hQ
 obtain ⟨k0,e0,hb⟩:=hb
 have lb:=Jb2 hb
 have jl:(Jb6 s.nj (joF s x)).length=s.nj*13:=Ja9 (w:=13) (F:=joF s x) (fun _=>rfl) _
 have c1:(0:Int)<=(p:Int):=by omega
 have c2:(p:Int)<(s.nj:Int):=by omega
 have hh:0<=s.xj i:=by omega
 have p3:p*13+13<=s.nj*13:=by omega
 have gp:=Jc0 (w:=13) (F:=joF s x) (fun _=>rfl) hp
 have gq:joF s x p=[.int .i64 ((jtQ s x p).1 0 0),.int .i64 ((jtQ s x p).1 0 1),.int .i64 ((jtQ s x p).1 0 2),.int .i64 ((jtQ s x p).1 1 0),.int .i64 ((jtQ s x p).1 1 1),.int .i64 ((jtQ s x p).1 1 2),.int .i64 ((jtQ s x p).1 2 0),.int .i64 ((jtQ s x p).1 2 1),.int .i64 ((jtQ s x p).1 2 2),.int .i64 ((jtQ s x p).1 3 0),.int .i64 ((jtQ s x p).1 3 1),.int .i64 ((jtQ s x p).1 3 2),.int .i64 (jtQ s x p).2]:=rfl
 have U7:=ca4 gx hk @Kt4 (ca4 @Kh2 @Ja4 hb (ca4 (Ja5 hb) jl h0 (ca4 c1 c2 p3 (ca3 gp gq hp))))
 refine AW.c 2 U7 Ki9 ?_
 refine AW.q fun K J0=>?_
 refine AW.c 1 U7 (Ve6 _ _ _ c1) ?_
 apply AW.y rfl
 refine AW.g U7 Tru ?_
 apply J0
 refine AW.c 1 U7 Tru ?_
 refine AW.q fun K J0=>?_
 have q_2:=Vx3 s i
 rw [gx,h0] at q_2
 refine AW.c 1 U7 (q_2 _ hk) ?_
 apply AW.b
 refine AW.r 4 ?_
 refine ARounds.s fun K J1=>?_
 refine AW.c 1 U7 Tru ?_
 refine AW.ifT rfl ?_
 refine AW.q fun K J2=>?_
 apply AW.b
 refine AW.c 1 U7 Tru ?_
 refine AW.g U7 (Jv4 (jtQ s x p).1 (s.xv i 0)) ?_
 apply Ja8
 apply J2
 refine AW.g U7 Tru ?_
 apply J1
 refine ARounds.s fun K J1=>?_
 refine AW.c 1 U7 Tru ?_
 refine AW.ifT rfl ?_
 refine AW.q fun K J2=>?_
 apply AW.b
 refine AW.c 1 U7 Tru ?_
 refine AW.g U7 (Jv4 (jtQ s x p).1 (s.xv i 1)) ?_
 apply Ja8
 apply J2
 refine AW.g U7 Tru ?_
 apply J1
 refine ARounds.s fun K J1=>?_
 refine AW.c 1 U7 Tru ?_
 refine AW.ifT rfl ?_
 refine AW.q fun K J2=>?_
 apply AW.b
 refine AW.c 1 U7 Tru ?_
 refine AW.g U7 (Jv4 (jtQ s x p).1 (s.xv i 2)) ?_
 apply Ja8
 apply J2
 refine AW.g U7 Tru ?_
 apply J1
 refine ARounds.s fun K J1=>?_
 refine AW.c 1 U7 Tru ?_
 refine AW.q fun K J2=>?_
 apply AW.x rfl
 apply AW.v
 apply Jb0
 apply Jb0
 apply Ja6
 apply J0
 refine AW.q fun K J0=>?_
 refine AW.c 1 U7 Tru ?_
 apply AW.x rfl
 apply AW.z
 apply J0
 refine AW.c 1 U7 Tru ?_
 exact AW.ret (hQ _ _ _ (RetP.z hwf Tru))
theorem Vb2 (s:SC)(i:Nat)(x:Int)(jb jv:Nat)(m:Ja1)(hb:∃ k e,m[jb]?=some ⟨k,344,jv,e,Jb6 s.nj (joF s x)⟩)(h0:¬0<=s.xj i)(hk:(s.xk i ==0)=false):Ctr Tryz.prog 170 [.agg (xC s i),.one (.sl jb jv 0 s.nj)] m (.agg (plC (Qe8 s i stillQ))) m:=by
 refine Ctr.en Tryz.func170 [.cell 4 84] 59 fun hwf Q hQ=>?_
 have gx:=Ke0 s i
 rw [Xf1 s i _ hk] at hQ
 obtain ⟨k0,e0,hb⟩:=hb
 have lb:=Jb2 hb
 have jl:(Jb6 s.nj (joF s x)).length=s.nj*13:=Ja9 (w:=13) (F:=joF s x) (fun _=>rfl) _
 have U8:=ca4 gx hk @Kt4 (ca4 @Kh2 @Ja4 hb (ca3 (Ja5 hb) jl h0))
 refine AW.c 2 U8 Ki9 ?_
 refine AW.q fun K J0=>?_
 refine AW.c 1 U8 (Ve7 _ _ _ h0) ?_
 apply AW.x rfl
 apply AW.z
 apply J0
 refine AW.c 1 U8 Tru ?_
 refine AW.q fun K J0=>?_
 refine AW.c 1 U8 (Vx3 s i _ hk) ?_
 apply AW.b
 refine AW.r 4 ?_
 refine ARounds.s fun K J1=>?_
 refine AW.c 1 U8 Tru ?_
 refine AW.ifT rfl ?_
 refine AW.q fun K J2=>?_
 apply AW.b
 refine AW.c 1 U8 Tru ?_
 refine AW.g U8 (Jv4 stillQ.1 (s.xv i 0)) ?_
 apply Ja8
 apply J2
 refine AW.g U8 Tru ?_
 apply J1
 refine ARounds.s fun K J1=>?_
 refine AW.c 1 U8 Tru ?_
 refine AW.ifT rfl ?_
 refine AW.q fun K J2=>?_
 apply AW.b
 refine AW.c 1 U8 Tru ?_
 refine AW.g U8 (Jv4 stillQ.1 (s.xv i 1)) ?_
 apply Ja8
 apply J2
 refine AW.g U8 Tru ?_
 apply J1
 refine ARounds.s fun K J1=>?_
 refine AW.c 1 U8 Tru ?_
 refine AW.ifT rfl ?_
 refine AW.q fun K J2=>?_
 apply AW.b
 refine AW.c 1 U8 Tru ?_
 refine AW.g U8 (Jv4 stillQ.1 (s.xv i 2)) ?_
 apply Ja8
 apply J2
 refine AW.g U8 Tru ?_
 apply J1
 refine ARounds.s fun K J1=>?_
 refine AW.c 1 U8 Tru ?_
 refine AW.q fun K J2=>?_
 apply AW.x rfl
 apply AW.v
 apply Jb0
 apply Jb0
 apply Ja6
 apply J0
 refine AW.q fun K J0=>?_
 refine AW.c 1 U8 Tru ?_
 apply AW.x rfl
 apply AW.z
 apply J0
 refine AW.c 1 U8 Tru ?_
 exact AW.ret (hQ _ _ _ (RetP.z hwf Tru))
theorem Qy9 (s:SC)(R:RWs)(x:Int)(i:Nat)(m:Ja1)(hR:ScR 138 143 285 146 150 m s R)(hT:∀ i,i<s.nt->TrS s i)(hJ:∀ i,i<s.nj->JoR s i)(hlt:i<s.nx)(hxj:s.xj i<(s.nj:Int))(hk:(s.xk i ==0)=true):Ctr Tryz.prog 77 [.agg (scC s R),.one (.int .i64 ((i:Int))),.one (.int .i64 x)] m (.agg (plC (Qe8 s i (spQ s x (s.xj i))))) m:=by
 refine Ctr.en Tryz.func77 [.cell 6 75] 59 fun hwf Q hQ=>?_
 obtain ⟨kx,ex,hx⟩:=hR.hx
 have lx:=Jb2 hx
 have nx:=hR.nx
 have xl:(Jb6 s.nx (xC s)).length=s.nx*13:=Ja9 (w:=13) (F:=xC s) (fun _=>rfl) _
 have c3:i*13+13<=s.nx*13:=by omega
 have ga:=Jc0 (w:=13) (F:=xC s) (fun _=>rfl) hlt
 have gx:=Ke0 s i
 have c1:(0:Int)<=(i:Int):=by omega
 have c2:(i:Int)<(s.nx:Int):=by omega
 rw [Xf2 s i _ hk] at hQ
 have U9:=ca4 @Jf4 @Je7 @Jf3 (ca4 @Ja4 hx (Ja5 hx) (ca4 xl c1 c2 (ca4 c3 ga gx (ca4 hlt hk @Kt4 @Kh2))))
 refine AW.c 4 U9 (Ku4 s R x hT hJ ((s.xj i).toNat+1) (s.xj i) (by omega) hxj _ (hR.app _)) ?_
 refine AW.q fun K J0=>?_
 refine AW.c 1 U9 Tru ?_
 apply AW.y rfl
 refine AW.c 3 U9 (ca2 (Kc2 (spQ s x (s.xj i)).1 (s.xv i 0)) Jg6) ?_
 exact AW.ret (hQ _ _ _ (RetP.z hwf Tru))
theorem Qy8 (s:SC)(R:RWs)(x:Int)(i:Nat)(m:Ja1)(hR:ScR 138 143 285 146 150 m s R)(hT:∀ i,i<s.nt->TrS s i)(hJ:∀ i,i<s.nj->JoR s i)(hlt:i<s.nx)(hxj:s.xj i<(s.nj:Int))(hk:(s.xk i ==0)=false):Ctr Tryz.prog 77 [.agg (scC s R),.one (.int .i64 ((i:Int))),.one (.int .i64 x)] m (.agg (plC (Qe8 s i (spQ s x (s.xj i))))) m:=by
 refine Ctr.en Tryz.func77 [.cell 6 75] 59 fun hwf Q hQ=>?_
 obtain ⟨kx,ex,hx⟩:=hR.hx
 have lx:=Jb2 hx
 have nx:=hR.nx
 have xl:(Jb6 s.nx (xC s)).length=s.nx*13:=Ja9 (w:=13) (F:=xC s) (fun _=>rfl) _
 have c3:i*13+13<=s.nx*13:=by omega
 have ga:=Jc0 (w:=13) (F:=xC s) (fun _=>rfl) hlt
 have gx:=Ke0 s i
 have c1:(0:Int)<=(i:Int):=by omega
 have c2:(i:Int)<(s.nx:Int):=by omega
 rw [Xf1 s i _ hk] at hQ
 have U10:=ca4 @Jf4 @Je7 @Jf3 (ca4 @Ja4 hx (Ja5 hx) (ca4 xl c1 c2 (ca4 c3 ga gx (ca4 hlt hk @Kt4 @Kh2))))
 refine AW.c 4 U10 (Ku4 s R x hT hJ ((s.xj i).toNat+1) (s.xj i) (by omega) hxj _ (hR.app _)) ?_
 refine AW.q fun K J0=>?_
 refine AW.c 1 U10 Tru ?_
 apply AW.x rfl
 apply AW.z
 apply J0
 refine AW.q fun K J0=>?_
 refine AW.c 1 U10 Tru ?_
 apply AW.b
 refine AW.r 4 ?_
 refine ARounds.s fun K J1=>?_
 refine AW.q fun K J2=>?_
 refine AW.c 1 U10 Tru ?_
 apply AW.y rfl
 apply AW.z
 apply J2
 refine AW.q fun K J2=>?_
 apply AW.b
 refine AW.e [.val,.val,.rd 0,.val,.val,.val,.rd 0,.ext,.val,.val,.wr] fol U10 (Kc2 (spQ s x (s.xj i)).1 (s.xv i 0)) ?_
 apply Ja8
 apply J2
 refine AW.g U10 Tru ?_
 apply J1
 refine ARounds.s fun K J1=>?_
 refine AW.q fun K J2=>?_
 refine AW.c 1 U10 Tru ?_
 apply AW.y rfl
 apply AW.z
 apply J2
 refine AW.q fun K J2=>?_
 apply AW.b
 refine AW.e [.val,.val,.rd 0,.val,.val,.val,.rd 0,.ext,.val,.val,.wr] fol U10 (Kc2 (spQ s x (s.xj i)).1 (s.xv i 1)) ?_
 apply Ja8
 apply J2
 refine AW.g U10 Tru ?_
 apply J1
 refine ARounds.s fun K J1=>?_
 refine AW.q fun K J2=>?_
 refine AW.c 1 U10 Tru ?_
 apply AW.y rfl
 apply AW.z
 apply J2
 refine AW.q fun K J2=>?_
 apply AW.b
 refine AW.e [.val,.val,.rd 0,.val,.val,.val,.rd 0,.ext,.val,.val,.wr] fol U10 (Kc2 (spQ s x (s.xj i)).1 (s.xv i 2)) ?_
 apply Ja8
 apply J2
 refine AW.g U10 Tru ?_
 apply J1
 refine ARounds.s fun K J1=>?_
 refine AW.q fun K J2=>?_
 refine AW.c 1 U10 Tru ?_
 apply AW.x rfl
 apply AW.v
 apply Jb0
 apply Jb0
 apply Ja6
 apply J0
 refine AW.c 1 U10 Tru ?_
 exact AW.ret (hQ _ _ _ (RetP.z hwf Tru))
def plS (s:SC)(x:Int)(i:Nat):PL:=Qe8 s i (spQ s x (s.xj i))
def plF (s:SC)(x:Int)(i:Nat):List CV:=plC (plS s x i)
theorem Xe9 (s:SC)(i:Nat)(x:Int)(jb jv:Nat)(m:Ja1)(hb:∃ k e,m[jb]?=some ⟨k,344,jv,e,Jb6 s.nj (joF s x)⟩)(hx:-1<=s.xj i/\s.xj i<(s.nj:Int)):Ctr Tryz.prog 170 [.agg (xC s i),.one (.sl jb jv 0 s.nj)] m (.agg (plC (plS s x i))) m:=by
 cases hk:(s.xk i ==0)
 ·by_cases h0:0<=s.xj i
  ·obtain ⟨p,hp⟩:∃ p:Nat,s.xj i=(p:Int):=⟨(s.xj i).toNat,by omega⟩
   have e:plS s x i=Qe8 s i (jtQ s x p):=by unfold plS spQ;rw [if_neg (by omega),hp];rfl
   rw [e];exact Vb1 s i x p (by omega) hp jb jv m hb hk
  have e:plS s x i=Qe8 s i stillQ:=by unfold plS spQ;rw [if_pos (by omega)]
  rw [e];exact Vb2 s i x jb jv m hb h0 hk
 by_cases h0:0<=s.xj i
 ·obtain ⟨p,hp⟩:∃ p:Nat,s.xj i=(p:Int):=⟨(s.xj i).toNat,by omega⟩
  have e:plS s x i=Qe8 s i (jtQ s x p):=by unfold plS spQ;rw [if_neg (by omega),hp];rfl
  rw [e];exact Vb3 s i x p (by omega) hp jb jv m hb hk
 have e:plS s x i=Qe8 s i stillQ:=by unfold plS spQ;rw [if_pos (by omega)]
 rw [e];exact Vb4 s i x jb jv m hb h0 hk
theorem Qi9 (s:SC)(R:RWs)(x:Int)(i:Nat)(m:Ja1)(hR:ScR 138 143 285 146 150 m s R)(hT:∀ i,i<s.nt->TrS s i)(hJ:∀ i,i<s.nj->JoR s i)(hlt:i<s.nx)(hx:-1<=s.xj i/\s.xj i<(s.nj:Int)):Ctr Tryz.prog 77 [.agg (scC s R),.one (.int .i64 ((i:Int))),.one (.int .i64 x)] m (.agg (plC (plS s x i))) m:=by
 cases hk:(s.xk i ==0)
 ·exact Qy8 s R x i m hR hT hJ hlt hx.2 hk
 exact Qy9 s R x i m hR hT hJ hlt hx.2 hk
theorem Jq4 (p:PL):plC p=(.int .i64 p.kind::.int .i64 p.paint::(c3C (p.P 0)++(c3C (p.P 1)++(c3C (p.P 2)++[.int .i64 p.r])))):=rfl
theorem Qi2 (s:SC)(R:RWs)(x:Int)(m:Ja1)(hR:ScR 140 119 223 148 155 m s R)(hT:∀ i,i<s.nt->TrS s i)(hX:∀ i,i<s.nx->-1<=s.xj i/\s.xj i<(s.nj:Int))(hn:s.nj<=1000000)(hnx:s.nx<=1000000):Ctr Tryz.prog 84 [.agg (scC s R),.one (.int .i64 x)] m (.one (.sl m.length 0 0 s.nx)) (m++[⟨.grow,84,0,12,Jb6 (s.nx) (plF s x)⟩]):=by
 refine Ctr.en Tryz.func84 [.tmp 4] 27 fun hwf Q hQ=>?_
 obtain ⟨kx,ex,hx⟩:=hR.hx
 have lx:=Jb2 hx
 have nx:=hR.nx
 have xl:(Jb6 s.nx (xC s)).length=s.nx*13:=Ja9 (w:=13) (F:=xC s) (fun _=>rfl) _
 have hlt0:∀ k,¬m.length+k<m.length:=fun k=>by omega
 have U1:=ca4 @Jf4 @Je7 @Jf3 (ca4 @Ja4 hx (Ja5 hx) xl)
 refine AW.c 3 U1 (Vq3 s R x _ (hR.app _) hT hn) ?_
 refine AW.q fun K J0=>?_
 refine AW.c 1 U1 Tru ?_
 apply AW.b
 refine AW.nilTm 84 12 6 rfl ?_
 try simp only [push_cast,simprocAttr,U1]
 refine AW.loopK [5,13,14] (fun i=>i<=s.nx) (fun i=>[(6,.one (.sl (m.length+2) i 0 i)),(15,.one (.int .i64 (i:Int)))]) (fun i=>[(m.length+2,⟨.grow,84,i,12,Jb6 i (plF s x)⟩)]) (fun i=>s.nx - i) 0 (by omega) ?_ ?_ fun i hi2=>?_
 · first|rfl|(simp only [KS,simprocAttr,Jb6,Int.natCast_zero]<;>repeat' (first|rfl|apply And.intro))
 · (simp only [Ja2,push_cast,simprocAttr,Jb6])<;>rfl
 try simp only [Jb1,Ja2,push_cast,simprocAttr,U1]
 refine AW.c 1 U1 Tru ?_
 refine AW.q fun K J1=>?_
 refine AW.cond rfl (fun h16=>?_) (fun h16=>?_)
 ·have hlt:i<s.nx:=by have:=of_decide_eq_true h16;omega
  have c1:(0:Int)<=(i:Int):=by omega
  have c2:(i:Int)<(s.nx:Int):=by omega
  have c3:i*13+13<=s.nx*13:=by omega
  have ga:=Jc0 (w:=13) (F:=xC s) (fun _=>rfl) hlt
  have gx:=Ke0 s i
  have q1:i<=140737488355327:=by omega
  have q2:(i+1)*96<=140737488355328:=by omega
  have gli:(Jb6 i (plF s x)).length=i*12:=Ja9 (w:=12) (F:=plF s x) (fun _=>rfl) i
  have hap:Jb6 i (plF s x)++[.int .i64 (plS s x i).kind,.int .i64 (plS s x i).paint,.int .i64 ((plS s x i).P 0 0),.int .i64 ((plS s x i).P 0 1),.int .i64 ((plS s x i).P 0 2),.int .i64 ((plS s x i).P 1 0),.int .i64 ((plS s x i).P 1 1),.int .i64 ((plS s x i).P 1 2),.int .i64 ((plS s x i).P 2 0),.int .i64 ((plS s x i).P 2 1),.int .i64 ((plS s x i).P 2 2),.int .i64 (plS s x i).r]=Jb6 (i+1) (plF s x):=rfl
  apply AW.z
  apply J1
  refine AW.q fun K J1=>?_
  apply AW.b
  have U2:=ca4 U1 c1 c2 (ca4 c3 ga gx (ca4 q1 q2 gli (ca3 hlt @Jq4 @Ja4)))
  refine AW.c 1 U2 Tru ?_
  refine AW.rg ?_
  simp only [push_cast,simprocAttr,U2]
  refine CThen.by ((by have h:=Xe9 s i x (m.length+1) 0;rw [gx] at h;exact h _ ⟨.grow,13,by rw [Jg1];rfl⟩ (hX i hlt))) ?_
  simp only [push_cast,simprocAttr,U2]
  apply Ja8
  apply J1
  refine AW.g U2 Tru ?_
  apply Jc2
  have hwi:IntKind.i64.wrap ((i:Int)+1)=(i:Int)+1:=wi (by omega)
  refine ⟨i+1,by omega,by omega,?_⟩
  try simp only [Jb1,Ja2,push_cast,simprocAttr,U2,hwi,hap]
  exact Weak.to (extra:=_) (by simp only [KS,simprocAttr,hwi,hap]) (by first|rfl|(simp only [List.append_assoc,List.cons_append,List.nil_append];rfl)) (by first|rfl|(simp [AV.below,CV.below];done)|(simp [AV.below,CV.below];omega)) (by exact MWf.app (hwf.grow (by simp)) (Ja0 (hR.bel _ (by simp)) (Ja0 (Jc1 _ (fun _=>rfl) _) (Ja0 (Jc1 _ (fun _=>rfl) _) Jb7))))
 have hin:i=s.nx:=by have:=of_decide_eq_false h16;omega
 rw [hin]
 apply AW.v
 apply Jb0
 apply Jb0
 apply Ja6
 apply J0
 refine AW.c 1 U1 Tru ?_
 refine AW.ret ?_
 refine hQ _ _ _ ?_
 refine RetP.pick [(m.length+2,s.nx)] (by first|exact Or.inr rfl|exact Or.inl rfl) ?_ ?_ ?_ hwf ?_
 · simp only [Jd0,Ja7,Jb5,AV.tv,push_cast,simprocAttr]
   simp [Kq2,Ku7,Ke8,Jw2,Ji8,hlt0]
 · simp only [Jp9,push_cast,simprocAttr]
 · simp [Jd1]
 exact Ja0 (Jc1 _ (fun _=>rfl) _) Jb7
def mvS (s:SC)(f:Int)(i:Nat):MV:=⟨plS s (f*65536) i,plS s (f*65536+s.sh) i⟩
def mvC (m:MV):List CV:=plC m.A++plC m.B
def mvF (s:SC)(f:Int)(i:Nat):List CV:=mvC (mvS s f i)
theorem Qj9 (s:SC)(f:Int)(m:Ja1)(hf:0<=f/\f<=1000000):Ctr Tryz.prog 40 [.agg (hdC s),.one (.int .i64 f)] m (.one (.int .i64 (f*65536))) m:=by
 refine Ctr.en Tryz.func40 [.tmp 4] 7 fun hwf Q hQ=>?_
 have w1:IntKind.i64.wrap (f*65536)=f*65536:=wi (by omega)
 have U3:=ca3 @Je7 @Ja4 w1
 refine AW.c 2 U3 Tru ?_
 exact AW.ret (hQ _ _ _ (RetP.z hwf U3))
theorem Qx4 (s:SC)(f:Int)(m:Ja1)(hf:0<=f/\f<=1000000)(hs:0<=s.sh/\s.sh<=65536):Ctr Tryz.prog 41 [.agg (hdC s),.one (.int .i64 f)] m (.one (.int .i64 (f*65536+s.sh))) m:=by
 refine Ctr.en Tryz.func41 [.tmp 4] 11 fun hwf Q hQ=>?_
 have hop:=Qj9 s f
 have w1:IntKind.i64.wrap (f*65536)=f*65536:=wi (by omega)
 have w2:IntKind.i64.wrap (f*65536+s.sh)=f*65536+s.sh:=wi (by omega)
 have U4:=ca4 @Je7 @Ja4 w1 w2
 refine AW.c 1 U4 Tru ?_
 have q_1:=hop
 unfold hdC at q_1
 refine AW.d [.rd 0,.val,.ext,.val,.rd 0,.val,.val] fol U4 (q_1 _ hf) ?_
 exact AW.ret (hQ _ _ _ (RetP.z hwf U4))
theorem Ve8 (s:SC)(R:RWs)(f:Int)(m:Ja1)(hR:ScR 140 119 223 148 155 m s R)(hT:∀ i,i<s.nt->TrS s i)(hX:∀ i,i<s.nx->-1<=s.xj i/\s.xj i<(s.nj:Int))(hf:0<=f/\f<=1000000)(hs:0<=s.sh/\s.sh<=65536)(hn:s.nj<=1000000)(hnx:s.nx<=1000000):Ctr Tryz.prog 37 [.agg (scC s R),.one (.int .i64 f)] m (.one (.sl m.length 0 0 s.nx)) (m++[⟨.grow,204,0,24,Jb6 (s.nx) (mvF s f)⟩]):=by
 refine Ctr.en Tryz.func37 [.tmp 4] 40 fun hwf Q hQ=>?_
 have hlt0:∀ k,¬m.length+k<m.length:=fun k=>by omega
 have l1:(Jb6 s.nx (plF s (f*65536))).length=s.nx*12:=Ja9 (w:=12) (F:=plF s (f*65536)) (fun _=>rfl) _
 have l2:(Jb6 s.nx (plF s (f*65536+s.sh))).length=s.nx*12:=Ja9 (w:=12) (F:=plF s (f*65536+s.sh)) (fun _=>rfl) _
 have U1:=ca4 @Jf4 @Je7 @Jf3 (ca3 @Ja4 l1 l2)
 refine AW.c 1 U1 Tru ?_
 have q_1:=Qj9 s f
 unfold hdC c3C at q_1
 have q_2:=Qx4 s f
 unfold hdC c3C at q_2
 refine AW.d [.rd 0,.val,.rd 0,.val,.ext,.ext,.rd 0,.val,.rd 0,.val,.ext,.ext,.val,.val] fol U1 (ca4 (q_1 _ hf) (Qi2 s R (f*65536) _ (hR.app _) hT hX hn hnx) (q_2 _ hf hs) (Qi2 s R (f*65536+s.sh) _ (hR.app _) hT hX hn hnx)) ?_
 refine AW.c 1 U1 Tru ?_
 refine AW.q fun K J0=>?_
 refine AW.c 1 U1 Tru ?_
 apply AW.b
 refine AW.nilTm 204 24 7 rfl ?_
 try simp only [push_cast,simprocAttr,U1]
 refine AW.loopK [5,6,22] (fun i=>i<=s.nx) (fun i=>[(7,.one (.sl (m.length+3) i 0 i)),(23,.one (.int .i64 (i:Int)))]) (fun i=>[(m.length+3,⟨.grow,204,i,24,Jb6 i (mvF s f)⟩)]) (fun i=>s.nx - i) 0 (by omega) ?_ ?_ fun i hi2=>?_
 · first|rfl|(simp only [KS,simprocAttr,Jb6,Int.natCast_zero]<;>repeat' (first|rfl|apply And.intro))
 · (simp only [Ja2,push_cast,simprocAttr,Jb6])<;>rfl
 try simp only [Jb1,Ja2,push_cast,simprocAttr,U1]
 refine AW.c 1 U1 Tru ?_
 refine AW.q fun K J1=>?_
 refine AW.cond rfl (fun h24=>?_) (fun h24=>?_)
 ·have hlt:i<s.nx:=by have:=of_decide_eq_true h24;omega
  have c1:(0:Int)<=(i:Int):=by omega
  have c2:(i:Int)<(s.nx:Int):=by omega
  have c1:(0:Int)<=(i:Int):=by omega
  have c2:(i:Int)<(s.nx:Int):=by omega
  have c3:i*12+12<=s.nx*12:=by omega
  have ga1:=Jc0 (w:=12) (F:=plF s (f*65536)) (fun _=>rfl) hlt
  have gx1:plF s (f*65536) i=[.int .i64 (plS s (f*65536) i).kind,.int .i64 (plS s (f*65536) i).paint,.int .i64 ((plS s (f*65536) i).P 0 0),.int .i64 ((plS s (f*65536) i).P 0 1),.int .i64 ((plS s (f*65536) i).P 0 2),.int .i64 ((plS s (f*65536) i).P 1 0),.int .i64 ((plS s (f*65536) i).P 1 1),.int .i64 ((plS s (f*65536) i).P 1 2),.int .i64 ((plS s (f*65536) i).P 2 0),.int .i64 ((plS s (f*65536) i).P 2 1),.int .i64 ((plS s (f*65536) i).P 2 2),.int .i64 (plS s (f*65536) i).r]:=rfl
  have ga2:=Jc0 (w:=12) (F:=plF s (f*65536+s.sh)) (fun _=>rfl) hlt
  have gx2:plF s (f*65536+s.sh) i=[.int .i64 (plS s (f*65536+s.sh) i).kind,.int .i64 (plS s (f*65536+s.sh) i).paint,.int .i64 ((plS s (f*65536+s.sh) i).P 0 0),.int .i64 ((plS s (f*65536+s.sh) i).P 0 1),.int .i64 ((plS s (f*65536+s.sh) i).P 0 2),.int .i64 ((plS s (f*65536+s.sh) i).P 1 0),.int .i64 ((plS s (f*65536+s.sh) i).P 1 1),.int .i64 ((plS s (f*65536+s.sh) i).P 1 2),.int .i64 ((plS s (f*65536+s.sh) i).P 2 0),.int .i64 ((plS s (f*65536+s.sh) i).P 2 1),.int .i64 ((plS s (f*65536+s.sh) i).P 2 2),.int .i64 (plS s (f*65536+s.sh) i).r]:=rfl
  have q1:i<=140737488355327:=by omega
  have q2:(i+1)*192<=140737488355328:=by omega
  have gli:(Jb6 i (mvF s f)).length=i*24:=Ja9 (w:=24) (F:=mvF s f) (fun _=>rfl) i
  have hap:Jb6 i (mvF s f)++[.int .i64 (plS s (f*65536) i).kind,.int .i64 (plS s (f*65536) i).paint,.int .i64 ((plS s (f*65536) i).P 0 0),.int .i64 ((plS s (f*65536) i).P 0 1),.int .i64 ((plS s (f*65536) i).P 0 2),.int .i64 ((plS s (f*65536) i).P 1 0),.int .i64 ((plS s (f*65536) i).P 1 1),.int .i64 ((plS s (f*65536) i).P 1 2),.int .i64 ((plS s (f*65536) i).P 2 0),.int .i64 ((plS s (f*65536) i).P 2 1),.int .i64 ((plS s (f*65536) i).P 2 2),.int .i64 (plS s (f*65536) i).r,.int .i64 (plS s (f*65536+s.sh) i).kind,.int .i64 (plS s (f*65536+s.sh) i).paint,.int .i64 ((plS s (f*65536+s.sh) i).P 0 0),.int .i64 ((plS s (f*65536+s.sh) i).P 0 1),.int .i64 ((plS s (f*65536+s.sh) i).P 0 2),.int .i64 ((plS s (f*65536+s.sh) i).P 1 0),.int .i64 ((plS s (f*65536+s.sh) i).P 1 1),.int .i64 ((plS s (f*65536+s.sh) i).P 1 2),.int .i64 ((plS s (f*65536+s.sh) i).P 2 0),.int .i64 ((plS s (f*65536+s.sh) i).P 2 1),.int .i64 ((plS s (f*65536+s.sh) i).P 2 2),.int .i64 (plS s (f*65536+s.sh) i).r]=Jb6 (i+1) (mvF s f):=rfl
  apply AW.z
  apply J1
  refine AW.q fun K J1=>?_
  apply AW.b
  have U2:=ca4 U1 c1 c2 (ca4 c3 ga1 ga2 (ca4 gx1 gx2 q1 (ca3 q2 gli hlt)))
  refine AW.c 1 U2 Tru ?_
  refine AW.e [.val,.val,.val,.val,.rd 0,.val,.val,.val,.rd 0,.val,.ext,.wr,.val] fol U2 Tru ?_
  apply Ja8
  apply J1
  refine AW.g U2 Tru ?_
  apply Jc2
  have hwi:IntKind.i64.wrap ((i:Int)+1)=(i:Int)+1:=wi (by omega)
  refine ⟨i+1,by omega,by omega,?_⟩
  try simp only [Jb1,Ja2,push_cast,simprocAttr,U2,hwi,hap]
  exact Weak.to (extra:=_) (by simp only [KS,simprocAttr,hwi,hap]) (by first|rfl|(simp only [List.append_assoc,List.cons_append,List.nil_append];rfl)) (by first|rfl|(simp [AV.below,CV.below];done)|(simp [AV.below,CV.below];omega)) (by exact MWf.app (hwf.grow (by simp)) (Ja0 (hR.bel _ (by simp)) (Ja0 (Jc1 _ (fun _=>rfl) _) (Ja0 (Jc1 _ (fun _=>rfl) _) (Ja0 (Jc1 _ (fun _=>rfl) _) Jb7)))))
 have hin:i=s.nx:=by have:=of_decide_eq_false h24;omega
 rw [hin]
 apply AW.v
 apply Jb0
 apply Jb0
 apply Ja6
 apply J0
 refine AW.c 1 U1 Tru ?_
 refine AW.ret ?_
 refine hQ _ _ _ ?_
 refine RetP.pick [(m.length+3,s.nx)] (by first|exact Or.inr rfl|exact Or.inl rfl) ?_ ?_ ?_ hwf ?_
 · simp only [Jd0,Ja7,Jb5,AV.tv,push_cast,simprocAttr]
   simp [Kq2,Ku7,Ke8,Jw2,Ji8,hlt0]
 · simp only [Jp9,push_cast,simprocAttr]
 · simp [Jd1]
 exact Ja0 (Jc1 _ (fun _=>rfl) _) Jb7
theorem Qj1 (s:SC)(R:RWs)(f:Int)(m:Ja1)(hR:ScR 138 143 285 146 150 m s R)(hT:∀ i,i<s.nt->TrS s i)(hJ:∀ i,i<s.nj->JoR s i)(hX:∀ i,i<s.nx->-1<=s.xj i/\s.xj i<(s.nj:Int))(hf:0<=f/\f<=1000000)(hs:0<=s.sh/\s.sh<=65536)(hnx:s.nx<=1000000):Ctr Tryz.prog 20 [.agg (scC s R),.one (.int .i64 f)] m (.one (.sl m.length 0 0 s.nx)) (m++[⟨.grow,78,0,24,Jb6 (s.nx) (mvF s f)⟩]):=by
 refine Ctr.en Tryz.func20 [.tmp 4] 34 fun hwf Q hQ=>?_
 have hlt0:∀ k,¬m.length+k<m.length:=fun k=>by omega
 have w1:IntKind.i64.wrap (f*65536)=f*65536:=wi (by omega)
 have w2:IntKind.i64.wrap (f*65536+s.sh)=f*65536+s.sh:=wi (by omega)
 have U3:=ca4 @Jf4 @Je7 @Jf3 (ca3 @Ja4 w1 w2)
 refine AW.c 2 U3 Tru ?_
 refine AW.q fun K J0=>?_
 refine AW.c 1 U3 Tru ?_
 apply AW.b
 refine AW.nilTm 78 24 5 rfl ?_
 try simp only [push_cast,simprocAttr,U3]
 refine AW.loopK [1,2] (fun i=>i<=s.nx) (fun i=>[(5,.one (.sl (m.length+1) i 0 i)),(6,.one (.int .i64 (i:Int)))]) (fun i=>[(m.length+1,⟨.grow,78,i,24,Jb6 i (mvF s f)⟩)]) (fun i=>s.nx - i) 0 (by omega) ?_ ?_ fun i hi2=>?_
 · first|rfl|(simp only [KS,simprocAttr,Jb6,Int.natCast_zero]<;>repeat' (first|rfl|apply And.intro))
 · (simp only [Ja2,push_cast,simprocAttr,Jb6])<;>rfl
 try simp only [Jb1,Ja2,push_cast,simprocAttr,U3]
 refine AW.q fun K J1=>?_
 refine AW.c 1 U3 Tru ?_
 refine AW.cond rfl (fun h12=>?_) (fun h12=>?_)
 ·have hlt:i<s.nx:=by have:=of_decide_eq_true h12;omega
  have c1:(0:Int)<=(i:Int):=by omega
  have c2:(i:Int)<(s.nx:Int):=by omega
  have q1:i<=140737488355327:=by omega
  have q2:(i+1)*192<=140737488355328:=by omega
  have gli:(Jb6 i (mvF s f)).length=i*24:=Ja9 (w:=24) (F:=mvF s f) (fun _=>rfl) i
  have hap:Jb6 i (mvF s f)++[.int .i64 (plS s (f*65536) i).kind,.int .i64 (plS s (f*65536) i).paint,.int .i64 ((plS s (f*65536) i).P 0 0),.int .i64 ((plS s (f*65536) i).P 0 1),.int .i64 ((plS s (f*65536) i).P 0 2),.int .i64 ((plS s (f*65536) i).P 1 0),.int .i64 ((plS s (f*65536) i).P 1 1),.int .i64 ((plS s (f*65536) i).P 1 2),.int .i64 ((plS s (f*65536) i).P 2 0),.int .i64 ((plS s (f*65536) i).P 2 1),.int .i64 ((plS s (f*65536) i).P 2 2),.int .i64 (plS s (f*65536) i).r,.int .i64 (plS s (f*65536+s.sh) i).kind,.int .i64 (plS s (f*65536+s.sh) i).paint,.int .i64 ((plS s (f*65536+s.sh) i).P 0 0),.int .i64 ((plS s (f*65536+s.sh) i).P 0 1),.int .i64 ((plS s (f*65536+s.sh) i).P 0 2),.int .i64 ((plS s (f*65536+s.sh) i).P 1 0),.int .i64 ((plS s (f*65536+s.sh) i).P 1 1),.int .i64 ((plS s (f*65536+s.sh) i).P 1 2),.int .i64 ((plS s (f*65536+s.sh) i).P 2 0),.int .i64 ((plS s (f*65536+s.sh) i).P 2 1),.int .i64 ((plS s (f*65536+s.sh) i).P 2 2),.int .i64 (plS s (f*65536+s.sh) i).r]=Jb6 (i+1) (mvF s f):=rfl
  apply AW.z
  apply J1
  refine AW.q fun K J1=>?_
  apply AW.b
  have U4:=ca4 U3 q1 q2 (ca4 gli hlt @Jq4 @Ja4)
  refine AW.c 1 U4 Tru ?_
  refine AW.e [.val,.rd 0,.val,.val,.ext,.rd 0,.val,.val,.val,.val,.rd 0,.val,.ext,.val,.ext,.wr,.val] fol U4 (ca2 (Qi9 s R (f*65536) i _ (hR.app _) hT hJ hlt (hX i hlt)) (Qi9 s R (f*65536+s.sh) i _ (hR.app _) hT hJ hlt (hX i hlt))) ?_
  apply Ja8
  apply J1
  refine AW.g U4 Tru ?_
  apply Jc2
  have hwi:IntKind.i64.wrap ((i:Int)+1)=(i:Int)+1:=wi (by omega)
  refine ⟨i+1,by omega,by omega,?_⟩
  try simp only [Jb1,Ja2,push_cast,simprocAttr,U4,hwi,hap]
  exact Weak.to (extra:=_) (by simp only [KS,simprocAttr,hwi,hap]) (by first|rfl|(simp only [List.append_assoc,List.cons_append,List.nil_append];rfl)) (by first|rfl|(simp [AV.below,CV.below];done)|(simp [AV.below,CV.below];omega)) (by exact MWf.app (hwf.grow (by simp)) (Ja0 (hR.bel _ (by simp)) (Ja0 (Jc1 _ (fun _=>rfl) _) Jb7)))
 have hin:i=s.nx:=by have:=of_decide_eq_false h12;omega
 rw [hin]
 apply AW.v
 apply Jb0
 apply Jb0
 apply Ja6
 apply J0
 refine AW.c 1 U3 Tru ?_
 refine AW.ret ?_
 refine hQ _ _ _ ?_
 refine RetP.pick [(m.length+1,s.nx)] (by first|exact Or.inr rfl|exact Or.inl rfl) ?_ ?_ ?_ hwf ?_
 · simp only [Jd0,Ja7,Jb5,AV.tv,push_cast,simprocAttr]
   simp [Kq2,Ku7,Ke8,Jw2,Ji8,hlt0]
 · simp only [Jp9,push_cast,simprocAttr]
 · simp [Jd1]
 exact Ja0 (Jc1 _ (fun _=>rfl) _) Jb7
theorem Kq4 (m:MV):mvC m=(plC m.A++plC m.B):=rfl
theorem Qv5 (a b:V)(t:Int):Kg7 a b t=(fun k=>Je5 (a k) (b k) t):=rfl
theorem at_c (M:MV)(t:Int)(m:Ja1):Ctr Tryz.prog 78 [.agg (mvC M),.one (.int .i64 t)] m (.agg (plC (atM M t))) m:=by
 refine Ctr.en Tryz.func78 [.cell 4 84] 38 fun hwf Q hQ=>?_
 have hv:plC (atM M t)=[.int .i64 M.A.kind,.int .i64 M.A.paint,.int .i64 (Je5 (M.A.P 0 0) (M.B.P 0 0) t),.int .i64 (Je5 (M.A.P 0 1) (M.B.P 0 1) t),.int .i64 (Je5 (M.A.P 0 2) (M.B.P 0 2) t),.int .i64 (Je5 (M.A.P 1 0) (M.B.P 1 0) t),.int .i64 (Je5 (M.A.P 1 1) (M.B.P 1 1) t),.int .i64 (Je5 (M.A.P 1 2) (M.B.P 1 2) t),.int .i64 (Je5 (M.A.P 2 0) (M.B.P 2 0) t),.int .i64 (Je5 (M.A.P 2 1) (M.B.P 2 1) t),.int .i64 (Je5 (M.A.P 2 2) (M.B.P 2 2) t),.int .i64 (Je5 M.A.r M.B.r t)]:=rfl
 rw [hv] at hQ
 have U5:=ca4 @Kq4 @Jq4 @Ja4 @Qv5
 refine AW.c 2 U5 Tru ?_
 refine AW.q fun K J0=>?_
 refine AW.c 1 U5 Tru ?_
 apply AW.b
 refine AW.r 4 ?_
 refine ARounds.s fun K J1=>?_
 refine AW.c 1 U5 Tru ?_
 refine AW.ifT rfl ?_
 refine AW.q fun K J2=>?_
 apply AW.b
 refine AW.c 1 U5 Tru ?_
 refine AW.e [.val,.val,.val,.val,.val,.rd 0,.val,.val,.val,.val,.rd 0,.val,.ext,.val,.val,.wr] fol U5 (Kh1 (M.A.P 0) (M.B.P 0) t) ?_
 apply Ja8
 apply J2
 refine AW.g U5 Tru ?_
 apply J1
 refine ARounds.s fun K J1=>?_
 refine AW.c 1 U5 Tru ?_
 refine AW.ifT rfl ?_
 refine AW.q fun K J2=>?_
 apply AW.b
 refine AW.c 1 U5 Tru ?_
 refine AW.e [.val,.val,.val,.val,.val,.rd 0,.val,.val,.val,.val,.rd 0,.val,.ext,.val,.val,.wr] fol U5 (Kh1 (M.A.P 1) (M.B.P 1) t) ?_
 apply Ja8
 apply J2
 refine AW.g U5 Tru ?_
 apply J1
 refine ARounds.s fun K J1=>?_
 refine AW.c 1 U5 Tru ?_
 refine AW.ifT rfl ?_
 refine AW.q fun K J2=>?_
 apply AW.b
 refine AW.c 1 U5 Tru ?_
 refine AW.e [.val,.val,.val,.val,.val,.rd 0,.val,.val,.val,.val,.rd 0,.val,.ext,.val,.val,.wr] fol U5 (Kh1 (M.A.P 2) (M.B.P 2) t) ?_
 apply Ja8
 apply J2
 refine AW.g U5 Tru ?_
 apply J1
 refine ARounds.s fun K J1=>?_
 refine AW.c 1 U5 Tru ?_
 refine AW.q fun K J2=>?_
 apply AW.x rfl
 apply AW.v
 apply Jb0
 apply Jb0
 apply Ja6
 apply J0
 refine AW.c 2 U5 Vw8 ?_
 exact AW.ret (hQ _ _ _ (RetP.z hwf Tru))
theorem Qj5 (M:MV)(t:Int)(m:Ja1):Ctr Tryz.prog 19 [.agg (mvC M),.one (.int .i64 t)] m (.agg (plC (atM M t))) m:=by
 refine Ctr.en Tryz.func19 [.cell 4 75] 38 fun hwf Q hQ=>?_
 have hv:plC (atM M t)=[.int .i64 M.A.kind,.int .i64 M.A.paint,.int .i64 (Je5 (M.A.P 0 0) (M.B.P 0 0) t),.int .i64 (Je5 (M.A.P 0 1) (M.B.P 0 1) t),.int .i64 (Je5 (M.A.P 0 2) (M.B.P 0 2) t),.int .i64 (Je5 (M.A.P 1 0) (M.B.P 1 0) t),.int .i64 (Je5 (M.A.P 1 1) (M.B.P 1 1) t),.int .i64 (Je5 (M.A.P 1 2) (M.B.P 1 2) t),.int .i64 (Je5 (M.A.P 2 0) (M.B.P 2 0) t),.int .i64 (Je5 (M.A.P 2 1) (M.B.P 2 1) t),.int .i64 (Je5 (M.A.P 2 2) (M.B.P 2 2) t),.int .i64 (Je5 M.A.r M.B.r t)]:=rfl
 rw [hv] at hQ
 have U6:=ca4 @Kq4 @Jq4 @Ja4 @Qv5
 refine AW.c 2 U6 Tru ?_
 refine AW.q fun K J0=>?_
 refine AW.c 1 U6 Tru ?_
 apply AW.b
 refine AW.r 4 ?_
 refine ARounds.s fun K J1=>?_
 refine AW.q fun K J2=>?_
 refine AW.c 1 U6 Tru ?_
 apply AW.y rfl
 apply AW.z
 apply J2
 refine AW.q fun K J2=>?_
 apply AW.b
 refine AW.e [.val,.val,.val,.val,.val,.rd 0,.val,.val,.val,.val,.rd 0,.val,.ext,.val,.val,.wr] fol U6 (Kc3 (M.A.P 0) (M.B.P 0) t) ?_
 apply Ja8
 apply J2
 refine AW.g U6 Tru ?_
 apply J1
 refine ARounds.s fun K J1=>?_
 refine AW.q fun K J2=>?_
 refine AW.c 1 U6 Tru ?_
 apply AW.y rfl
 apply AW.z
 apply J2
 refine AW.q fun K J2=>?_
 apply AW.b
 refine AW.e [.val,.val,.val,.val,.val,.rd 0,.val,.val,.val,.val,.rd 0,.val,.ext,.val,.val,.wr] fol U6 (Kc3 (M.A.P 1) (M.B.P 1) t) ?_
 apply Ja8
 apply J2
 refine AW.g U6 Tru ?_
 apply J1
 refine ARounds.s fun K J1=>?_
 refine AW.q fun K J2=>?_
 refine AW.c 1 U6 Tru ?_
 apply AW.y rfl
 apply AW.z
 apply J2
 refine AW.q fun K J2=>?_
 apply AW.b
 refine AW.e [.val,.val,.val,.val,.val,.rd 0,.val,.val,.val,.val,.rd 0,.val,.ext,.val,.val,.wr] fol U6 (Kc3 (M.A.P 2) (M.B.P 2) t) ?_
 apply Ja8
 apply J2
 refine AW.g U6 Tru ?_
 apply J1
 refine ARounds.s fun K J1=>?_
 refine AW.q fun K J2=>?_
 refine AW.c 1 U6 Tru ?_
 apply AW.x rfl
 apply AW.v
 apply Jb0
 apply Jb0
 apply Ja6
 apply J0
 refine AW.c 2 U6 Ku3 ?_
 exact AW.ret (hQ _ _ _ (RetP.z hwf Tru))
theorem eye_c (s:SC)(R:RWs)(x:Int)(m:Ja1)(hR:ScR 140 119 223 148 155 m s R)(hT:∀ i,i<s.nt->TrS s i):Ctr Tryz.prog 104 [.agg (scC s R),.one (.int .i64 x)] m (.agg (c3C (Jk1 s s.ey x))) m:=by
 refine Ctr.en Tryz.func104 [.cell 4 59] 11 fun hwf Q hQ=>?_
 have U7:=ca4 @Jf4 @Je7 @Jf3 @Ja4
 refine AW.c 2 U7 (Kg2 s R s.ey x _ (hR.app _) hT) ?_
 exact AW.ret (hQ _ _ _ (RetP.z hwf Tru))
theorem Xs3 (s:SC)(R:RWs)(x:Int)(m:Ja1)(hR:ScR 140 119 223 148 155 m s R)(hT:∀ i,i<s.nt->TrS s i):Ctr Tryz.prog 108 [.agg (scC s R),.one (.int .i64 x)] m (.agg (c3C (Jk1 s s.lk x))) m:=by
 refine Ctr.en Tryz.func108 [.cell 4 59] 11 fun hwf Q hQ=>?_
 have U8:=ca4 @Jf4 @Je7 @Jf3 @Ja4
 refine AW.c 2 U8 (Kg2 s R s.lk x _ (hR.app _) hT) ?_
 exact AW.ret (hQ _ _ _ (RetP.z hwf Tru))
def Vw3 (a:V)(G:Nat->V):Nat->V
 | 0=>a
 | n+1=>fun k=>minI (Vw3 a G n k) (G n k)
def Vw5 (a:V)(G:Nat->V):Nat->V
 | 0=>a
 | n+1=>fun k=>maxI (Vw5 a G n k) (G n k)
def bxC (b:BX):List CV:=c3C b.lo++c3C b.hi
def prC (p:PR):List CV:=bxC p.a++bxC p.b
def vF (G:Nat->V)(j:Nat):List CV:=c3C (G j)
theorem Qv8 (G:Nat->V)(j:Nat):vF G j=[.int .i64 (G j 0),.int .i64 (G j 1),.int .i64 (G j 2)]:=rfl
theorem Vq0 (a b:Int)(m:Ja1):Ctr Tryz.prog 258 [.one (.int .i64 a),.one (.int .i64 b)] m (.one (.int .i64 (minI a b))) m:=by
 refine Ctr.en Tryz.func258 [.tmp 4] 8 fun hwf Q hQ=>?_
 refine AW.c 2 Tru Tru ?_
 exact AW.ret (hQ _ _ _ (RetP.z hwf Tru))
theorem Vd4 (a:V)(m:Ja1):Ctr Tryz.prog 232 [.agg (c3C a),.one .nils] m (.agg (c3C a)) m:=by
 refine Ctr.en Tryz.func232 [.cell 4 59] 18 fun hwf Q hQ=>?_
 refine AW.c 1 @Ja4 Tru ?_
 refine AW.q fun K J0=>?_
 refine AW.c 1 @Ja4 Tru ?_
 apply AW.b
 refine AW.r 1 ?_
 refine ARounds.s fun K J1=>?_
 refine AW.c 1 @Ja4 Tru ?_
 refine AW.q fun K J2=>?_
 apply AW.x rfl
 apply AW.v
 apply Jb0
 apply Jb0
 apply Ja6
 apply J0
 refine AW.c 1 @Ja4 Tru ?_
 exact AW.ret (hQ _ _ _ (RetP.z hwf Tru))
theorem Kv6 (a:V)(G:Nat->V)(r v o n N:Nat)(m:Ja1)(hb:∃ k ez,m[r]?=some ⟨k,59,v,ez,Jb6 N (vF G)⟩)(hN:o+n<=N)(hn:n<=1000000):Ctr Tryz.prog 232 [.agg (c3C a),.one (.sl r v (o*3) n)] m (.agg (c3C (Vw3 a (fun j=>G (o+j)) n))) m:=by
 refine Ctr.en Tryz.func232 [.cell 4 59] 18 fun hwf Q hQ=>?_
 obtain ⟨k0,ez,hb⟩:=hb
 have lb:=Jb2 hb
 have bl:(Jb6 N (vF G)).length=N*3:=Ja9 (w:=3) (F:=vF G) (fun _=>rfl) _
 have hlt0:∀ k,¬m.length+k<m.length:=fun k=>by omega
 have U1:=ca4 hb (Ja5 hb) bl @Ja4
 refine AW.c 1 U1 Tru ?_
 refine AW.q fun K J0=>?_
 refine AW.c 1 U1 Tru ?_
 apply AW.b
 refine AW.loopK [2,4,7,8] (fun i=>i<=n) (fun i=>[(9,.one (.int .i64 (i:Int)))]) (fun i=>[(m.length,⟨.fix,59,0,0,c3C (Vw3 a (fun j=>G (o+j)) i)⟩)]) (fun i=>n - i) 0 (by omega) ?_ ?_ fun i hi2=>?_
 · first|rfl|(simp only [KS,simprocAttr,Vw3,Int.natCast_zero]<;>repeat' (first|rfl|apply And.intro))
 · (simp only [Ja2,push_cast,simprocAttr,c3C])<;>rfl
 try simp only [Jb1,Ja2,push_cast,simprocAttr,U1]
 refine AW.c 1 U1 Tru ?_
 refine AW.q fun K J1=>?_
 refine AW.cond rfl (fun h10=>?_) (fun h10=>?_)
 ·have hlt:i<n:=by have:=of_decide_eq_true h10;omega
  have c1:(0:Int)<=(i:Int):=by omega
  have c2:(i:Int)<(n:Int):=by omega
  have hoi:o+i<N:=by omega
  have c1:(0:Int)<=(i:Int):=by omega
  have c2:(i:Int)<(n:Int):=by omega
  have c3:o*3+(i*3+3)<=N*3:=by omega
  have ga:=Jc0 (w:=3) (F:=vF G) (fun _=>rfl) hoi
  rw [show (o+i)*3=o*3+i*3 by omega] at ga
  have gx:=Qv8 G (o+i)
  apply AW.z
  apply J1
  refine AW.q fun K J1=>?_
  apply AW.b
  have U2:=ca4 U1 c1 c2 (ca4 c3 ga gx hlt)
  refine AW.c 1 U2 Tru ?_
  refine AW.g U2 (Ki7 minI 258 [] _ _ _ _ _ _ _ fun p q L=>Vq0 p q _) ?_
  apply Ja8
  apply J1
  refine AW.g U2 Tru ?_
  apply Jc2
  have hwi:IntKind.i64.wrap ((i:Int)+1)=(i:Int)+1:=wi (by omega)
  refine ⟨i+1,by omega,by omega,?_⟩
  try simp only [Jb1,Ja2,push_cast,simprocAttr,U2,hwi]
  exact Weak.to (extra:=_) (by simp only [KS,simprocAttr,hwi]) (by first|rfl|(simp only [List.append_assoc,List.cons_append,List.nil_append];rfl)) (by first|rfl|(simp [AV.below,CV.below];done)|(simp [AV.below,CV.below];omega)) (by
    first|exact hwf|refine MWf.app (hwf.grow (by simp)) ?_
    repeat (first|exact Jb7|(refine Ja0 ?_ ?_;· first|rfl|(simp [CV.below];done)|(simp [CV.below];omega))))
 have hin:i=n:=by have:=of_decide_eq_false h10;omega
 rw [hin]
 apply AW.v
 apply Jb0
 apply Jb0
 apply Ja6
 apply J0
 refine AW.c 1 U1 Tru ?_
 exact AW.ret (hQ _ _ _ (RetP.z hwf Tru))
theorem Xg0 (a b:Int)(m:Ja1):Ctr Tryz.prog 259 [.one (.int .i64 a),.one (.int .i64 b)] m (.one (.int .i64 (maxI a b))) m:=by
 refine Ctr.en Tryz.func259 [.tmp 4] 8 fun hwf Q hQ=>?_
 refine AW.c 2 Tru Tru ?_
 exact AW.ret (hQ _ _ _ (RetP.z hwf Tru))
theorem Vo5 (a:V)(m:Ja1):Ctr Tryz.prog 233 [.agg (c3C a),.one .nils] m (.agg (c3C a)) m:=by
 refine Ctr.en Tryz.func233 [.cell 4 59] 18 fun hwf Q hQ=>?_
 refine AW.c 1 @Ja4 Tru ?_
 refine AW.q fun K J0=>?_
 refine AW.c 1 @Ja4 Tru ?_
 apply AW.b
 refine AW.r 1 ?_
 refine ARounds.s fun K J1=>?_
 refine AW.c 1 @Ja4 Tru ?_
 refine AW.q fun K J2=>?_
 apply AW.x rfl
 apply AW.v
 apply Jb0
 apply Jb0
 apply Ja6
 apply J0
 refine AW.c 1 @Ja4 Tru ?_
 exact AW.ret (hQ _ _ _ (RetP.z hwf Tru))
theorem Qk0 (a:V)(G:Nat->V)(r v o n N:Nat)(m:Ja1)(hb:∃ k ez,m[r]?=some ⟨k,59,v,ez,Jb6 N (vF G)⟩)(hN:o+n<=N)(hn:n<=1000000):Ctr Tryz.prog 233 [.agg (c3C a),.one (.sl r v (o*3) n)] m (.agg (c3C (Vw5 a (fun j=>G (o+j)) n))) m:=by
 refine Ctr.en Tryz.func233 [.cell 4 59] 18 fun hwf Q hQ=>?_
 obtain ⟨k0,ez,hb⟩:=hb
 have lb:=Jb2 hb
 have bl:(Jb6 N (vF G)).length=N*3:=Ja9 (w:=3) (F:=vF G) (fun _=>rfl) _
 have hlt0:∀ k,¬m.length+k<m.length:=fun k=>by omega
 have U3:=ca4 hb (Ja5 hb) bl @Ja4
 refine AW.c 1 U3 Tru ?_
 refine AW.q fun K J0=>?_
 refine AW.c 1 U3 Tru ?_
 apply AW.b
 refine AW.loopK [2,4,7,8] (fun i=>i<=n) (fun i=>[(9,.one (.int .i64 (i:Int)))]) (fun i=>[(m.length,⟨.fix,59,0,0,c3C (Vw5 a (fun j=>G (o+j)) i)⟩)]) (fun i=>n - i) 0 (by omega) ?_ ?_ fun i hi2=>?_
 · first|rfl|(simp only [KS,simprocAttr,Vw5,Int.natCast_zero]<;>repeat' (first|rfl|apply And.intro))
 · (simp only [Ja2,push_cast,simprocAttr,c3C])<;>rfl
 try simp only [Jb1,Ja2,push_cast,simprocAttr,U3]
 refine AW.c 1 U3 Tru ?_
 refine AW.q fun K J1=>?_
 refine AW.cond rfl (fun h10=>?_) (fun h10=>?_)
 ·have hlt:i<n:=by have:=of_decide_eq_true h10;omega
  have c1:(0:Int)<=(i:Int):=by omega
  have c2:(i:Int)<(n:Int):=by omega
  have hoi:o+i<N:=by omega
  have c1:(0:Int)<=(i:Int):=by omega
  have c2:(i:Int)<(n:Int):=by omega
  have c3:o*3+(i*3+3)<=N*3:=by omega
  have ga:=Jc0 (w:=3) (F:=vF G) (fun _=>rfl) hoi
  rw [show (o+i)*3=o*3+i*3 by omega] at ga
  have gx:=Qv8 G (o+i)
  apply AW.z
  apply J1
  refine AW.q fun K J1=>?_
  apply AW.b
  have U4:=ca4 U3 c1 c2 (ca4 c3 ga gx hlt)
  refine AW.c 1 U4 Tru ?_
  refine AW.g U4 (Ki7 maxI 259 [] _ _ _ _ _ _ _ fun p q L=>Xg0 p q _) ?_
  apply Ja8
  apply J1
  refine AW.g U4 Tru ?_
  apply Jc2
  have hwi:IntKind.i64.wrap ((i:Int)+1)=(i:Int)+1:=wi (by omega)
  refine ⟨i+1,by omega,by omega,?_⟩
  try simp only [Jb1,Ja2,push_cast,simprocAttr,U4,hwi]
  exact Weak.to (extra:=_) (by simp only [KS,simprocAttr,hwi]) (by first|rfl|(simp only [List.append_assoc,List.cons_append,List.nil_append];rfl)) (by first|rfl|(simp [AV.below,CV.below];done)|(simp [AV.below,CV.below];omega)) (by
    first|exact hwf|refine MWf.app (hwf.grow (by simp)) ?_
    repeat (first|exact Jb7|(refine Ja0 ?_ ?_;· first|rfl|(simp [CV.below];done)|(simp [CV.below];omega))))
 have hin:i=n:=by have:=of_decide_eq_false h10;omega
 rw [hin]
 apply AW.v
 apply Jb0
 apply Jb0
 apply Ja6
 apply J0
 refine AW.c 1 U3 Tru ?_
 exact AW.ret (hQ _ _ _ (RetP.z hwf Tru))
theorem Je8 (b:BX):bxC b=(c3C b.lo++c3C b.hi):=rfl
theorem Xk2 (a:V)(G:Nat->V)(r v o n N:Nat)(m:Ja1)(hb:∃ k ez,m[r]?=some ⟨k,59,v,ez,Jb6 N (vF G)⟩)(hN:o+n<=N)(hn:n<=1000000):Ctr Tryz.prog 193 [.agg (c3C a),.one (.sl r v (o*3) n)] m (.agg (bxC (⟨Vw3 a (fun j=>G (o+j)) n,Vw5 a (fun j=>G (o+j)) n⟩))) m:=by
 refine Ctr.en Tryz.func193 [.cell 4 232] 12 fun hwf Q hQ=>?_
 obtain ⟨k0,ez,hb⟩:=hb
 have lb:=Jb2 hb
 have U1:=ca2 @Je8 @Ja4
 refine AW.c 1 U1 Tru ?_
 refine AW.d [.rd 0,.val,.ext,.rd 0,.val,.ext,.val,.wr] fol U1 (ca2 (Kv6 a G r v o n N _ ⟨k0,ez,Ja5 hb _⟩ hN hn) (Qk0 a G r v o n N _ ⟨k0,ez,Ja5 hb _⟩ hN hn)) ?_
 exact AW.ret (hQ _ _ _ (RetP.z hwf Tru))
theorem Xr8 (a:V)(m:Ja1):Ctr Tryz.prog 193 [.agg (c3C a),.one .nils] m (.agg (bxC (⟨a,a⟩))) m:=by
 refine Ctr.en Tryz.func193 [.cell 4 232] 12 fun hwf Q hQ=>?_
 have U2:=ca2 @Je8 @Ja4
 refine AW.c 1 U2 Tru ?_
 refine AW.d [.rd 0,.val,.ext,.rd 0,.val,.ext,.val,.wr] fol U2 (ca2 (Vd4 a) (Vo5 a)) ?_
 exact AW.ret (hQ _ _ _ (RetP.z hwf Tru))
theorem Qv4 (a b:V):Jb4 a b=(fun k=>Jf8 (a k) (b k)):=rfl
theorem Qv7 (a b:V):Jd9 a b=(fun k=>Jd6 (a k) (b k)):=rfl
theorem Qv2 (b:BX)(w:Int)(m:Ja1):Ctr Tryz.prog 224 [.agg (bxC b),.one (.int .i64 w)] m (.agg (bxC (⟨fun k=>Jf8 (b.lo k) w,fun k=>Jd6 (b.hi k) w⟩))) m:=by
 refine Ctr.en Tryz.func224 [.cell 4 232] 19 fun hwf Q hQ=>?_
 have U3:=ca4 @Je8 @Ja4 @Qv4 @Qv7
 refine AW.c 2 U3 Qa7 ?_
 refine AW.d [.val,.rd 0,.rd 0,.ext,.val,.rd 0,.rd 0,.ext,.val,.wr] fol U3 (ca2 (Jk4 b.lo (fun _=>w)) (Qg8 b.hi (fun _=>w))) ?_
 exact AW.ret (hQ _ _ _ (RetP.z hwf Tru))
theorem Vg5 (p:PL)(m:Ja1)(hk:(p.kind ==0)=true):Ctr Tryz.prog 178 [.agg (plC p)] m (.agg (bxC (Jc7 p))) m:=by
 refine Ctr.en Tryz.func178 [.cell 2 232] 26 fun hwf Q hQ=>?_
 have hv:Jc7 p=⟨fun k=>Jf8 (p.P 0 k) (Jd6 p.r 8192),fun k=>Jd6 (p.P 0 k) (Jd6 p.r 8192)⟩:=by unfold Jc7;rw [if_pos (eq_of_beq hk)]
 rw [hv] at hQ
 have gx:=Jg4 p
 have U4:=ca4 gx hk @Je8 @Ja4
 refine AW.c 1 U4 Tru ?_
 refine AW.q fun K J0=>?_
 refine AW.c 1 U4 Tru ?_
 apply AW.y rfl
 refine AW.d [.val,.val,.rd 0,.ext,.val,.rd 0,.ext,.ext,.wr] fol U4 (ca3 (Xr8 (p.P 0)) Jz2 (Qv2 ⟨p.P 0,p.P 0⟩ (Jd6 p.r 8192))) ?_
 exact AW.ret (hQ _ _ _ (RetP.z hwf Tru))
theorem Vg4 (p:PL)(m:Ja1)(hk:(p.kind ==0)=false):Ctr Tryz.prog 178 [.agg (plC p)] m (.agg (bxC (Jc7 p))) m:=by
 refine Ctr.en Tryz.func178 [.cell 2 232] 26 fun hwf Q hQ=>?_
 have hv:Jc7 p=⟨fun k=>Jf8 (lo3 p k) 8192,fun k=>Jd6 (hi3 p k) 8192⟩:=by unfold Jc7;rw [if_neg (by simpa using hk)]
 rw [hv] at hQ
 have gx:=Jg4 p
 have U5:=ca4 gx hk @Je8 @Ja4
 refine AW.c 1 U5 Tru ?_
 refine AW.q fun K J0=>?_
 refine AW.c 1 U5 Tru ?_
 apply AW.x rfl
 apply AW.z
 apply J0
 refine AW.sr 1 fun K J0=>?_
 simp only [push_cast,simprocAttr,U5]
 refine CThen.by ((by have h:=fun M q=>Xk2 (p.P 0) (fun j=>p.P (j+1)) (m.length+2) 0 0 2 2 M q (by omega) (by omega);exact h _ ⟨.grow,3,by rw [Jg1];rfl⟩)) ?_
 simp only [push_cast,simprocAttr,U5]
 refine CThen.by (Qv2 ⟨lo3 p,hi3 p⟩ 8192 _) ?_
 simp only [push_cast,simprocAttr,U5]
 apply J0
 exact AW.ret (hQ _ _ _ (RetP.z hwf Tru))
theorem Jq1 (p:PL)(m:Ja1):Ctr Tryz.prog 178 [.agg (plC p)] m (.agg (bxC (Jc7 p))) m:=by
 cases hk:(p.kind ==0)
 ·exact Vg4 p m hk
 exact Vg5 p m hk
theorem Kn3 (b c:BX)(r v:Nat)(m:Ja1)(hb:∃ k ez,m[r]?=some ⟨k,232,v,ez,bxC c⟩):Ctr Tryz.prog 226 [.agg (bxC b),.one (.sl r v 0 1)] m (.agg (bxC (Vq4 b c))) m:=by
 refine Ctr.en Tryz.func226 [.cell 4 232] 28 fun hwf Q hQ=>?_
 obtain ⟨k0,ez,hb⟩:=hb
 have lb:=Jb2 hb
 have U6:=ca4 hb (Ja5 hb) @Je8 @Ja4
 refine AW.c 1 U6 Tru ?_
 refine AW.q fun K J0=>?_
 refine AW.c 1 U6 Tru ?_
 apply AW.b
 refine AW.r 2 ?_
 refine ARounds.s fun K J1=>?_
 refine AW.c 1 U6 Tru ?_
 refine AW.ifT rfl ?_
 refine AW.q fun K J2=>?_
 apply AW.b
 refine AW.c 1 U6 Tru ?_
 refine AW.drawX fol (by kernel_rfl) ?_
 refine DX.split 4 10 (by decide) ?_ ?_
 ·refine DX.split 5 10 (by decide) ?_ ?_
  ·refine DX.run [0,1,2,3,4,5,6,7,8,9,10,11,12,13] [.val,.rd 0,.val,.rd 0,.ext,.ext,.val,.rd 0,.val,.rd 0,.ext,.ext,.val,.wr] (by simp only [Jr2,Qu3,List.idxOf_cons,push_cast,simprocAttr,U6];first|done|rfl) (by kernel_rfl) ?_
   simp only [push_cast,simprocAttr,U6]
   refine DExt.by (by first|rfl|exact (List.append_nil _).symm|(simp only [List.append_assoc,List.cons_append,List.nil_append];rfl)) ?_
   simp only [push_cast,simprocAttr,U6]
   refine DCall.z ((by have h:=fun M r q=>Kv6 b.lo (fun _=>c.lo) r 0 0 1 1 M q (by omega) (by omega);exact h _ _ ⟨.grow,3,by simp only [push_cast,simprocAttr];rfl⟩)) ?_
   simp only [push_cast,simprocAttr,U6]
   refine DExt.by (by first|rfl|exact (List.append_nil _).symm|(simp only [List.append_assoc,List.cons_append,List.nil_append];rfl)) ?_
   simp only [push_cast,simprocAttr,U6]
   refine DCall.z ((by have h:=fun M r q=>Qk0 b.hi (fun _=>c.hi) r 0 0 1 1 M q (by omega) (by omega);exact h _ _ ⟨.grow,3,by simp only [push_cast,simprocAttr];rfl⟩)) ?_
   simp only [push_cast,simprocAttr,U6]
   apply Ja8
   apply J2
   refine AW.g U6 Tru ?_
   apply J1
   refine ARounds.s fun K J1=>?_
   refine AW.c 1 U6 Tru ?_
   refine AW.q fun K J2=>?_
   apply AW.x rfl
   apply AW.v
   apply Jb0
   apply Jb0
   apply Ja6
   apply J0
   refine AW.c 1 U6 Tru ?_
   exact AW.ret (hQ _ _ _ (RetP.z hwf Tru))
  refine DX.run [0,1,2,3,4,6,7,8,9,10,5,11,12,13] [.val,.rd 0,.val,.rd 0,.ext,.val,.rd 0,.val,.rd 0,.ext,.ext,.ext,.val,.wr] (by simp only [Jr2,Qu3,List.idxOf_cons,push_cast,simprocAttr,U6];first|done|rfl) (by kernel_rfl) ?_
  iterate 2
   simp only [push_cast,simprocAttr,U6]
   refine DExt.by (by first|rfl|exact (List.append_nil _).symm|(simp only [List.append_assoc,List.cons_append,List.nil_append];rfl)) ?_
  simp only [push_cast,simprocAttr,U6]
  refine DCall.z ((by have h:=fun M r q=>Kv6 b.lo (fun _=>c.lo) r 0 0 1 1 M q (by omega) (by omega);exact h _ _ ⟨.grow,3,by simp only [push_cast,simprocAttr];rfl⟩)) ?_
  simp only [push_cast,simprocAttr,U6]
  refine DCall.z ((by have h:=fun M r q=>Qk0 b.hi (fun _=>c.hi) r 0 0 1 1 M q (by omega) (by omega);exact h _ _ ⟨.grow,3,by simp only [push_cast,simprocAttr];rfl⟩)) ?_
  simp only [push_cast,simprocAttr,U6]
  apply Ja8
  apply J2
  refine AW.g U6 Tru ?_
  apply J1
  refine ARounds.s fun K J1=>?_
  refine AW.c 1 U6 Tru ?_
  refine AW.q fun K J2=>?_
  apply AW.x rfl
  apply AW.v
  apply Jb0
  apply Jb0
  apply Ja6
  apply J0
  refine AW.c 1 U6 Tru ?_
  exact AW.ret (hQ _ _ _ (RetP.z hwf Tru))
 refine DX.run [0,1,2,3,6,7,8,9,10,4,5,11,12,13] [.val,.rd 0,.val,.rd 0,.val,.rd 0,.val,.rd 0,.ext,.ext,.ext,.ext,.val,.wr] (by simp only [Jr2,Qu3,List.idxOf_cons,push_cast,simprocAttr,U6];first|done|rfl) (by kernel_rfl) ?_
 iterate 2
  simp only [push_cast,simprocAttr,U6]
  refine DExt.by (by first|rfl|exact (List.append_nil _).symm|(simp only [List.append_assoc,List.cons_append,List.nil_append];rfl)) ?_
 simp only [push_cast,simprocAttr,U6]
 refine DCall.z ((by have h:=fun M r q=>Kv6 b.lo (fun _=>c.lo) r 0 0 1 1 M q (by omega) (by omega);exact h _ _ ⟨.grow,3,by simp only [push_cast,simprocAttr];rfl⟩)) ?_
 simp only [push_cast,simprocAttr,U6]
 refine DCall.z ((by have h:=fun M r q=>Qk0 b.hi (fun _=>c.hi) r 0 0 1 1 M q (by omega) (by omega);exact h _ _ ⟨.grow,3,by simp only [push_cast,simprocAttr];rfl⟩)) ?_
 simp only [push_cast,simprocAttr,U6]
 apply Ja8
 apply J2
 refine AW.g U6 Tru ?_
 apply J1
 refine ARounds.s fun K J1=>?_
 refine AW.c 1 U6 Tru ?_
 refine AW.q fun K J2=>?_
 apply AW.x rfl
 apply AW.v
 apply Jb0
 apply Jb0
 apply Ja6
 apply J0
 refine AW.c 1 U6 Tru ?_
 exact AW.ret (hQ _ _ _ (RetP.z hwf Tru))
theorem Kg9 (p:PR):prC p=(bxC p.a++bxC p.b):=rfl
theorem Xw6 (p q:PR)(r v:Nat)(m:Ja1)(hb:∃ k ez,m[r]?=some ⟨k,234,v,ez,prC q⟩):Ctr Tryz.prog 251 [.agg (prC p),.one (.sl r v 0 1)] m (.agg (prC (Qc9 p q))) m:=by
 refine Ctr.en Tryz.func251 [.cell 4 234] 28 fun hwf Q hQ=>?_
 obtain ⟨k0,ez,hb⟩:=hb
 have lb:=Jb2 hb
 have U1:=ca4 hb (Ja5 hb) @Kg9 (ca2 @Je8 @Ja4)
 refine AW.c 1 U1 Tru ?_
 refine AW.q fun K J0=>?_
 refine AW.c 1 U1 Tru ?_
 apply AW.b
 refine AW.r 2 ?_
 refine ARounds.s fun K J1=>?_
 refine AW.c 1 U1 Tru ?_
 refine AW.ifT rfl ?_
 refine AW.q fun K J2=>?_
 apply AW.b
 refine AW.c 1 U1 Tru ?_
 refine AW.drawX fol (by kernel_rfl) ?_
 refine DX.split 4 10 (by decide) ?_ ?_
 ·refine DX.split 5 10 (by decide) ?_ ?_
  ·refine DX.run [0,1,2,3,4,5,6,7,8,9,10,11,12,13] [.val,.rd 0,.val,.rd 0,.ext,.ext,.val,.rd 0,.val,.rd 0,.ext,.ext,.val,.wr] (by simp only [Jr2,Qu3,List.idxOf_cons,push_cast,simprocAttr,U1];first|done|rfl) (by kernel_rfl) ?_
   simp only [push_cast,simprocAttr,U1]
   refine DExt.by (by first|rfl|exact (List.append_nil _).symm|(simp only [List.append_assoc,List.cons_append,List.nil_append];rfl)) ?_
   simp only [push_cast,simprocAttr,U1]
   refine DCall.z (Kn3 (p.a) (q.a) _ 0 _ ⟨.grow,6,by simp only [push_cast,simprocAttr];rfl⟩) ?_
   simp only [push_cast,simprocAttr,U1]
   refine DExt.by (by first|rfl|exact (List.append_nil _).symm|(simp only [List.append_assoc,List.cons_append,List.nil_append];rfl)) ?_
   simp only [push_cast,simprocAttr,U1]
   refine DCall.z (Kn3 (p.b) (q.b) _ 0 _ ⟨.grow,6,by simp only [push_cast,simprocAttr];rfl⟩) ?_
   simp only [push_cast,simprocAttr,U1]
   apply Ja8
   apply J2
   refine AW.g U1 Tru ?_
   apply J1
   refine ARounds.s fun K J1=>?_
   refine AW.c 1 U1 Tru ?_
   refine AW.q fun K J2=>?_
   apply AW.x rfl
   apply AW.v
   apply Jb0
   apply Jb0
   apply Ja6
   apply J0
   refine AW.c 1 U1 Tru ?_
   exact AW.ret (hQ _ _ _ (RetP.z hwf Tru))
  refine DX.run [0,1,2,3,4,6,7,8,9,10,5,11,12,13] [.val,.rd 0,.val,.rd 0,.ext,.val,.rd 0,.val,.rd 0,.ext,.ext,.ext,.val,.wr] (by simp only [Jr2,Qu3,List.idxOf_cons,push_cast,simprocAttr,U1];first|done|rfl) (by kernel_rfl) ?_
  iterate 2
   simp only [push_cast,simprocAttr,U1]
   refine DExt.by (by first|rfl|exact (List.append_nil _).symm|(simp only [List.append_assoc,List.cons_append,List.nil_append];rfl)) ?_
  simp only [push_cast,simprocAttr,U1]
  refine DCall.z (Kn3 (p.a) (q.a) _ 0 _ ⟨.grow,6,by simp only [push_cast,simprocAttr];rfl⟩) ?_
  simp only [push_cast,simprocAttr,U1]
  refine DCall.z (Kn3 (p.b) (q.b) _ 0 _ ⟨.grow,6,by simp only [push_cast,simprocAttr];rfl⟩) ?_
  simp only [push_cast,simprocAttr,U1]
  apply Ja8
  apply J2
  refine AW.g U1 Tru ?_
  apply J1
  refine ARounds.s fun K J1=>?_
  refine AW.c 1 U1 Tru ?_
  refine AW.q fun K J2=>?_
  apply AW.x rfl
  apply AW.v
  apply Jb0
  apply Jb0
  apply Ja6
  apply J0
  refine AW.c 1 U1 Tru ?_
  exact AW.ret (hQ _ _ _ (RetP.z hwf Tru))
 refine DX.run [0,1,2,3,6,7,8,9,10,4,5,11,12,13] [.val,.rd 0,.val,.rd 0,.val,.rd 0,.val,.rd 0,.ext,.ext,.ext,.ext,.val,.wr] (by simp only [Jr2,Qu3,List.idxOf_cons,push_cast,simprocAttr,U1];first|done|rfl) (by kernel_rfl) ?_
 iterate 2
  simp only [push_cast,simprocAttr,U1]
  refine DExt.by (by first|rfl|exact (List.append_nil _).symm|(simp only [List.append_assoc,List.cons_append,List.nil_append];rfl)) ?_
 simp only [push_cast,simprocAttr,U1]
 refine DCall.z (Kn3 (p.a) (q.a) _ 0 _ ⟨.grow,6,by simp only [push_cast,simprocAttr];rfl⟩) ?_
 simp only [push_cast,simprocAttr,U1]
 refine DCall.z (Kn3 (p.b) (q.b) _ 0 _ ⟨.grow,6,by simp only [push_cast,simprocAttr];rfl⟩) ?_
 simp only [push_cast,simprocAttr,U1]
 apply Ja8
 apply J2
 refine AW.g U1 Tru ?_
 apply J1
 refine ARounds.s fun K J1=>?_
 refine AW.c 1 U1 Tru ?_
 refine AW.q fun K J2=>?_
 apply AW.x rfl
 apply AW.v
 apply Jb0
 apply Jb0
 apply Ja6
 apply J0
 refine AW.c 1 U1 Tru ?_
 exact AW.ret (hQ _ _ _ (RetP.z hwf Tru))
theorem Xj6 (b:BX)(m:Ja1)(g0:2147483648<=Jj6 (b.lo 0)):Ctr Tryz.prog 179 [.agg (bxC b)] m (.one (.bool true)) m:=by
 refine Ctr.en Tryz.func179 [.tmp 2] 26 fun hwf Q hQ=>?_
 have U2:=ca4 @Je8 @Ja4 @decide_true (ca2 @decide_false g0)
 refine AW.c 1 U2 Tru ?_
 refine AW.q fun K J0=>?_
 refine AW.c 1 U2 Tru ?_
 apply AW.b
 refine AW.r 4 ?_
 refine ARounds.s fun K J1=>?_
 refine AW.c 1 U2 Tru ?_
 refine AW.ifT rfl ?_
 refine AW.q fun K J2=>?_
 apply AW.b
 refine AW.c 1 U2 Tru ?_
 refine AW.d [.val,.rd 0,.val,.ext,.val,.rd 0,.val,.ext,.val,.val] fol U2 (ca2 (Jc6 b.lo) (Jc6 b.hi)) ?_
 apply AW.b
 refine AW.r 3 ?_
 refine ARounds.s fun K J3=>?_
 have U3:=ca2 U2 g0
 refine AW.c 1 U3 Tru ?_
 refine AW.ifT rfl ?_
 refine AW.q fun K J4=>?_
 apply AW.b
 refine AW.c 2 U3 (Jj5 (b.lo 0)) ?_
 apply AW.y rfl
 refine AW.c 1 U3 Tru ?_
 exact AW.ret (hQ _ _ _ (RetP.z hwf U3))
theorem Xj5 (b:BX)(m:Ja1)(g0:¬2147483648<=Jj6 (b.lo 0))(g1:2147483648<=Jj6 (b.hi 0)):Ctr Tryz.prog 179 [.agg (bxC b)] m (.one (.bool true)) m:=by
 refine Ctr.en Tryz.func179 [.tmp 2] 26 fun hwf Q hQ=>?_
 have U4:=ca4 @Je8 @Ja4 @decide_true (ca3 @decide_false g0 g1)
 refine AW.c 1 U4 Tru ?_
 refine AW.q fun K J0=>?_
 refine AW.c 1 U4 Tru ?_
 apply AW.b
 refine AW.r 4 ?_
 refine ARounds.s fun K J1=>?_
 refine AW.c 1 U4 Tru ?_
 refine AW.ifT rfl ?_
 refine AW.q fun K J2=>?_
 apply AW.b
 refine AW.c 1 U4 Tru ?_
 refine AW.d [.val,.rd 0,.val,.ext,.val,.rd 0,.val,.ext,.val,.val] fol U4 (ca2 (Jc6 b.lo) (Jc6 b.hi)) ?_
 apply AW.b
 refine AW.r 3 ?_
 refine ARounds.s fun K J3=>?_
 have U5:=ca2 U4 g0
 refine AW.c 1 U5 Tru ?_
 refine AW.ifT rfl ?_
 refine AW.q fun K J4=>?_
 apply AW.b
 refine AW.c 2 U5 (Jj5 (b.lo 0)) ?_
 apply AW.x rfl
 apply AW.z
 apply Ja8
 apply J4
 refine AW.g U5 Tru ?_
 apply J3
 refine ARounds.s fun K J3=>?_
 have U6:=ca2 U4 g1
 refine AW.c 1 U6 Tru ?_
 refine AW.ifT rfl ?_
 refine AW.q fun K J4=>?_
 apply AW.b
 refine AW.c 2 U6 (Jj5 (b.hi 0)) ?_
 apply AW.y rfl
 refine AW.c 1 U6 Tru ?_
 exact AW.ret (hQ _ _ _ (RetP.z hwf U6))
theorem Xj4 (b:BX)(m:Ja1)(g0:¬2147483648<=Jj6 (b.lo 0))(g1:¬2147483648<=Jj6 (b.hi 0))(g2:2147483648<=Jj6 (b.lo 1)):Ctr Tryz.prog 179 [.agg (bxC b)] m (.one (.bool true)) m:=by
 refine Ctr.en Tryz.func179 [.tmp 2] 26 fun hwf Q hQ=>?_
 have U7:=ca4 @Je8 @Ja4 @decide_true (ca4 @decide_false g0 g1 g2)
 refine AW.c 1 U7 Tru ?_
 refine AW.q fun K J0=>?_
 refine AW.c 1 U7 Tru ?_
 apply AW.b
 refine AW.r 4 ?_
 refine ARounds.s fun K J1=>?_
 refine AW.c 1 U7 Tru ?_
 refine AW.ifT rfl ?_
 refine AW.q fun K J2=>?_
 apply AW.b
 refine AW.c 1 U7 Tru ?_
 refine AW.d [.val,.rd 0,.val,.ext,.val,.rd 0,.val,.ext,.val,.val] fol U7 (ca2 (Jc6 b.lo) (Jc6 b.hi)) ?_
 apply AW.b
 refine AW.r 3 ?_
 refine ARounds.s fun K J3=>?_
 have U8:=ca2 U7 g0
 refine AW.c 1 U8 Tru ?_
 refine AW.ifT rfl ?_
 refine AW.q fun K J4=>?_
 apply AW.b
 refine AW.c 2 U8 (Jj5 (b.lo 0)) ?_
 apply AW.x rfl
 apply AW.z
 apply Ja8
 apply J4
 refine AW.g U8 Tru ?_
 apply J3
 refine ARounds.s fun K J3=>?_
 have U9:=ca2 U7 g1
 refine AW.c 1 U9 Tru ?_
 refine AW.ifT rfl ?_
 refine AW.q fun K J4=>?_
 apply AW.b
 refine AW.c 2 U9 (Jj5 (b.hi 0)) ?_
 apply AW.x rfl
 apply AW.z
 apply Ja8
 apply J4
 refine AW.g U9 Tru ?_
 apply J3
 refine ARounds.s fun K J3=>?_
 refine AW.c 1 U7 Tru ?_
 refine AW.q fun K J4=>?_
 apply AW.x rfl
 apply AW.v
 apply Jb0
 apply Jb0
 apply Ja6
 apply Ja8
 apply J2
 refine AW.g U7 Tru ?_
 apply J1
 refine ARounds.s fun K J1=>?_
 refine AW.c 1 U7 Tru ?_
 refine AW.ifT rfl ?_
 refine AW.q fun K J2=>?_
 apply AW.b
 refine AW.c 1 U7 Tru ?_
 refine AW.d [.val,.rd 0,.val,.ext,.val,.rd 0,.val,.ext,.val,.val] fol U7 (ca2 (Jd5 b.lo) (Jd5 b.hi)) ?_
 apply AW.b
 refine AW.r 3 ?_
 refine ARounds.s fun K J3=>?_
 have U10:=ca2 U7 g2
 refine AW.c 1 U10 Tru ?_
 refine AW.ifT rfl ?_
 refine AW.q fun K J4=>?_
 apply AW.b
 refine AW.c 2 U10 (Jj5 (b.lo 1)) ?_
 apply AW.y rfl
 refine AW.c 1 U10 Tru ?_
 exact AW.ret (hQ _ _ _ (RetP.z hwf U10))
theorem Xj3 (b:BX)(m:Ja1)(g0:¬2147483648<=Jj6 (b.lo 0))(g1:¬2147483648<=Jj6 (b.hi 0))(g2:¬2147483648<=Jj6 (b.lo 1))(g3:2147483648<=Jj6 (b.hi 1)):Ctr Tryz.prog 179 [.agg (bxC b)] m (.one (.bool true)) m:=by
 refine Ctr.en Tryz.func179 [.tmp 2] 26 fun hwf Q hQ=>?_
 have U11:=ca4 @Je8 @Ja4 @decide_true (ca4 @decide_false g0 g1 (ca2 g2 g3))
 refine AW.c 1 U11 Tru ?_
 refine AW.q fun K J0=>?_
 refine AW.c 1 U11 Tru ?_
 apply AW.b
 refine AW.r 4 ?_
 refine ARounds.s fun K J1=>?_
 refine AW.c 1 U11 Tru ?_
 refine AW.ifT rfl ?_
 refine AW.q fun K J2=>?_
 apply AW.b
 refine AW.c 1 U11 Tru ?_
 refine AW.d [.val,.rd 0,.val,.ext,.val,.rd 0,.val,.ext,.val,.val] fol U11 (ca2 (Jc6 b.lo) (Jc6 b.hi)) ?_
 apply AW.b
 refine AW.r 3 ?_
 refine ARounds.s fun K J3=>?_
 have U12:=ca2 U11 g0
 refine AW.c 1 U12 Tru ?_
 refine AW.ifT rfl ?_
 refine AW.q fun K J4=>?_
 apply AW.b
 refine AW.c 2 U12 (Jj5 (b.lo 0)) ?_
 apply AW.x rfl
 apply AW.z
 apply Ja8
 apply J4
 refine AW.g U12 Tru ?_
 apply J3
 refine ARounds.s fun K J3=>?_
 have U13:=ca2 U11 g1
 refine AW.c 1 U13 Tru ?_
 refine AW.ifT rfl ?_
 refine AW.q fun K J4=>?_
 apply AW.b
 refine AW.c 2 U13 (Jj5 (b.hi 0)) ?_
 apply AW.x rfl
 apply AW.z
 apply Ja8
 apply J4
 refine AW.g U13 Tru ?_
 apply J3
 refine ARounds.s fun K J3=>?_
 refine AW.c 1 U11 Tru ?_
 refine AW.q fun K J4=>?_
 apply AW.x rfl
 apply AW.v
 apply Jb0
 apply Jb0
 apply Ja6
 apply Ja8
 apply J2
 refine AW.g U11 Tru ?_
 apply J1
 refine ARounds.s fun K J1=>?_
 refine AW.c 1 U11 Tru ?_
 refine AW.ifT rfl ?_
 refine AW.q fun K J2=>?_
 apply AW.b
 refine AW.c 1 U11 Tru ?_
 refine AW.d [.val,.rd 0,.val,.ext,.val,.rd 0,.val,.ext,.val,.val] fol U11 (ca2 (Jd5 b.lo) (Jd5 b.hi)) ?_
 apply AW.b
 refine AW.r 3 ?_
 refine ARounds.s fun K J3=>?_
 have U14:=ca2 U11 g2
 refine AW.c 1 U14 Tru ?_
 refine AW.ifT rfl ?_
 refine AW.q fun K J4=>?_
 apply AW.b
 refine AW.c 2 U14 (Jj5 (b.lo 1)) ?_
 apply AW.x rfl
 apply AW.z
 apply Ja8
 apply J4
 refine AW.g U14 Tru ?_
 apply J3
 refine ARounds.s fun K J3=>?_
 have U15:=ca2 U11 g3
 refine AW.c 1 U15 Tru ?_
 refine AW.ifT rfl ?_
 refine AW.q fun K J4=>?_
 apply AW.b
 refine AW.c 2 U15 (Jj5 (b.hi 1)) ?_
 apply AW.y rfl
 refine AW.c 1 U15 Tru ?_
 exact AW.ret (hQ _ _ _ (RetP.z hwf U15))
theorem Xj2 (b:BX)(m:Ja1)(g0:¬2147483648<=Jj6 (b.lo 0))(g1:¬2147483648<=Jj6 (b.hi 0))(g2:¬2147483648<=Jj6 (b.lo 1))(g3:¬2147483648<=Jj6 (b.hi 1))(g4:2147483648<=Jj6 (b.lo 2)):Ctr Tryz.prog 179 [.agg (bxC b)] m (.one (.bool true)) m:=by
 refine Ctr.en Tryz.func179 [.tmp 2] 26 fun hwf Q hQ=>?_
 have U16:=ca4 @Je8 @Ja4 @decide_true (ca4 @decide_false g0 g1 (ca3 g2 g3 g4))
 refine AW.c 1 U16 Tru ?_
 refine AW.q fun K J0=>?_
 refine AW.c 1 U16 Tru ?_
 apply AW.b
 refine AW.r 4 ?_
 refine ARounds.s fun K J1=>?_
 refine AW.c 1 U16 Tru ?_
 refine AW.ifT rfl ?_
 refine AW.q fun K J2=>?_
 apply AW.b
 refine AW.c 1 U16 Tru ?_
 refine AW.d [.val,.rd 0,.val,.ext,.val,.rd 0,.val,.ext,.val,.val] fol U16 (ca2 (Jc6 b.lo) (Jc6 b.hi)) ?_
 apply AW.b
 refine AW.r 3 ?_
 refine ARounds.s fun K J3=>?_
 have U17:=ca2 U16 g0
 refine AW.c 1 U17 Tru ?_
 refine AW.ifT rfl ?_
 refine AW.q fun K J4=>?_
 apply AW.b
 refine AW.c 2 U17 (Jj5 (b.lo 0)) ?_
 apply AW.x rfl
 apply AW.z
 apply Ja8
 apply J4
 refine AW.g U17 Tru ?_
 apply J3
 refine ARounds.s fun K J3=>?_
 have U18:=ca2 U16 g1
 refine AW.c 1 U18 Tru ?_
 refine AW.ifT rfl ?_
 refine AW.q fun K J4=>?_
 apply AW.b
 refine AW.c 2 U18 (Jj5 (b.hi 0)) ?_
 apply AW.x rfl
 apply AW.z
 apply Ja8
 apply J4
 refine AW.g U18 Tru ?_
 apply J3
 refine ARounds.s fun K J3=>?_
 refine AW.c 1 U16 Tru ?_
 refine AW.q fun K J4=>?_
 apply AW.x rfl
 apply AW.v
 apply Jb0
 apply Jb0
 apply Ja6
 apply Ja8
 apply J2
 refine AW.g U16 Tru ?_
 apply J1
 refine ARounds.s fun K J1=>?_
 refine AW.c 1 U16 Tru ?_
 refine AW.ifT rfl ?_
 refine AW.q fun K J2=>?_
 apply AW.b
 refine AW.c 1 U16 Tru ?_
 refine AW.d [.val,.rd 0,.val,.ext,.val,.rd 0,.val,.ext,.val,.val] fol U16 (ca2 (Jd5 b.lo) (Jd5 b.hi)) ?_
 apply AW.b
 refine AW.r 3 ?_
 refine ARounds.s fun K J3=>?_
 have U19:=ca2 U16 g2
 refine AW.c 1 U19 Tru ?_
 refine AW.ifT rfl ?_
 refine AW.q fun K J4=>?_
 apply AW.b
 refine AW.c 2 U19 (Jj5 (b.lo 1)) ?_
 apply AW.x rfl
 apply AW.z
 apply Ja8
 apply J4
 refine AW.g U19 Tru ?_
 apply J3
 refine ARounds.s fun K J3=>?_
 have U20:=ca2 U16 g3
 refine AW.c 1 U20 Tru ?_
 refine AW.ifT rfl ?_
 refine AW.q fun K J4=>?_
 apply AW.b
 refine AW.c 2 U20 (Jj5 (b.hi 1)) ?_
 apply AW.x rfl
 apply AW.z
 apply Ja8
 apply J4
 refine AW.g U20 Tru ?_
 apply J3
 refine ARounds.s fun K J3=>?_
 refine AW.c 1 U16 Tru ?_
 refine AW.q fun K J4=>?_
 apply AW.x rfl
 apply AW.v
 apply Jb0
 apply Jb0
 apply Ja6
 apply Ja8
 apply J2
 refine AW.g U16 Tru ?_
 apply J1
 refine ARounds.s fun K J1=>?_
 refine AW.c 1 U16 Tru ?_
 refine AW.ifT rfl ?_
 refine AW.q fun K J2=>?_
 apply AW.b
 refine AW.c 1 U16 Tru ?_
 refine AW.d [.val,.rd 0,.val,.ext,.val,.rd 0,.val,.ext,.val,.val] fol U16 (ca2 (Jf9 b.lo) (Jf9 b.hi)) ?_
 apply AW.b
 refine AW.r 3 ?_
 refine ARounds.s fun K J3=>?_
 have U21:=ca2 U16 g4
 refine AW.c 1 U21 Tru ?_
 refine AW.ifT rfl ?_
 refine AW.q fun K J4=>?_
 apply AW.b
 refine AW.c 2 U21 (Jj5 (b.lo 2)) ?_
 apply AW.y rfl
 refine AW.c 1 U21 Tru ?_
 exact AW.ret (hQ _ _ _ (RetP.z hwf U21))
theorem Xj1 (b:BX)(m:Ja1)(g0:¬2147483648<=Jj6 (b.lo 0))(g1:¬2147483648<=Jj6 (b.hi 0))(g2:¬2147483648<=Jj6 (b.lo 1))(g3:¬2147483648<=Jj6 (b.hi 1))(g4:¬2147483648<=Jj6 (b.lo 2))(g5:2147483648<=Jj6 (b.hi 2)):Ctr Tryz.prog 179 [.agg (bxC b)] m (.one (.bool true)) m:=by
 refine Ctr.en Tryz.func179 [.tmp 2] 26 fun hwf Q hQ=>?_
 have U22:=ca4 @Je8 @Ja4 @decide_true (ca4 @decide_false g0 g1 (ca4 g2 g3 g4 g5))
 refine AW.c 1 U22 Tru ?_
 refine AW.q fun K J0=>?_
 refine AW.c 1 U22 Tru ?_
 apply AW.b
 refine AW.r 4 ?_
 refine ARounds.s fun K J1=>?_
 refine AW.c 1 U22 Tru ?_
 refine AW.ifT rfl ?_
 refine AW.q fun K J2=>?_
 apply AW.b
 refine AW.c 1 U22 Tru ?_
 refine AW.d [.val,.rd 0,.val,.ext,.val,.rd 0,.val,.ext,.val,.val] fol U22 (ca2 (Jc6 b.lo) (Jc6 b.hi)) ?_
 apply AW.b
 refine AW.r 3 ?_
 refine ARounds.s fun K J3=>?_
 have U23:=ca2 U22 g0
 refine AW.c 1 U23 Tru ?_
 refine AW.ifT rfl ?_
 refine AW.q fun K J4=>?_
 apply AW.b
 refine AW.c 2 U23 (Jj5 (b.lo 0)) ?_
 apply AW.x rfl
 apply AW.z
 apply Ja8
 apply J4
 refine AW.g U23 Tru ?_
 apply J3
 refine ARounds.s fun K J3=>?_
 have U24:=ca2 U22 g1
 refine AW.c 1 U24 Tru ?_
 refine AW.ifT rfl ?_
 refine AW.q fun K J4=>?_
 apply AW.b
 refine AW.c 2 U24 (Jj5 (b.hi 0)) ?_
 apply AW.x rfl
 apply AW.z
 apply Ja8
 apply J4
 refine AW.g U24 Tru ?_
 apply J3
 refine ARounds.s fun K J3=>?_
 refine AW.c 1 U22 Tru ?_
 refine AW.q fun K J4=>?_
 apply AW.x rfl
 apply AW.v
 apply Jb0
 apply Jb0
 apply Ja6
 apply Ja8
 apply J2
 refine AW.g U22 Tru ?_
 apply J1
 refine ARounds.s fun K J1=>?_
 refine AW.c 1 U22 Tru ?_
 refine AW.ifT rfl ?_
 refine AW.q fun K J2=>?_
 apply AW.b
 refine AW.c 1 U22 Tru ?_
 refine AW.d [.val,.rd 0,.val,.ext,.val,.rd 0,.val,.ext,.val,.val] fol U22 (ca2 (Jd5 b.lo) (Jd5 b.hi)) ?_
 apply AW.b
 refine AW.r 3 ?_
 refine ARounds.s fun K J3=>?_
 have U25:=ca2 U22 g2
 refine AW.c 1 U25 Tru ?_
 refine AW.ifT rfl ?_
 refine AW.q fun K J4=>?_
 apply AW.b
 refine AW.c 2 U25 (Jj5 (b.lo 1)) ?_
 apply AW.x rfl
 apply AW.z
 apply Ja8
 apply J4
 refine AW.g U25 Tru ?_
 apply J3
 refine ARounds.s fun K J3=>?_
 have U26:=ca2 U22 g3
 refine AW.c 1 U26 Tru ?_
 refine AW.ifT rfl ?_
 refine AW.q fun K J4=>?_
 apply AW.b
 refine AW.c 2 U26 (Jj5 (b.hi 1)) ?_
 apply AW.x rfl
 apply AW.z
 apply Ja8
 apply J4
 refine AW.g U26 Tru ?_
 apply J3
 refine ARounds.s fun K J3=>?_
 refine AW.c 1 U22 Tru ?_
 refine AW.q fun K J4=>?_
 apply AW.x rfl
 apply AW.v
 apply Jb0
 apply Jb0
 apply Ja6
 apply Ja8
 apply J2
 refine AW.g U22 Tru ?_
 apply J1
 refine ARounds.s fun K J1=>?_
 refine AW.c 1 U22 Tru ?_
 refine AW.ifT rfl ?_
 refine AW.q fun K J2=>?_
 apply AW.b
 refine AW.c 1 U22 Tru ?_
 refine AW.d [.val,.rd 0,.val,.ext,.val,.rd 0,.val,.ext,.val,.val] fol U22 (ca2 (Jf9 b.lo) (Jf9 b.hi)) ?_
 apply AW.b
 refine AW.r 3 ?_
 refine ARounds.s fun K J3=>?_
 have U27:=ca2 U22 g4
 refine AW.c 1 U27 Tru ?_
 refine AW.ifT rfl ?_
 refine AW.q fun K J4=>?_
 apply AW.b
 refine AW.c 2 U27 (Jj5 (b.lo 2)) ?_
 apply AW.x rfl
 apply AW.z
 apply Ja8
 apply J4
 refine AW.g U27 Tru ?_
 apply J3
 refine ARounds.s fun K J3=>?_
 have U28:=ca2 U22 g5
 refine AW.c 1 U28 Tru ?_
 refine AW.ifT rfl ?_
 refine AW.q fun K J4=>?_
 apply AW.b
 refine AW.c 2 U28 (Jj5 (b.hi 2)) ?_
 apply AW.y rfl
 refine AW.c 1 U28 Tru ?_
 exact AW.ret (hQ _ _ _ (RetP.z hwf U28))
theorem Xj0 (b:BX)(m:Ja1)(g0:¬2147483648<=Jj6 (b.lo 0))(g1:¬2147483648<=Jj6 (b.hi 0))(g2:¬2147483648<=Jj6 (b.lo 1))(g3:¬2147483648<=Jj6 (b.hi 1))(g4:¬2147483648<=Jj6 (b.lo 2))(g5:¬2147483648<=Jj6 (b.hi 2)):Ctr Tryz.prog 179 [.agg (bxC b)] m (.one (.bool false)) m:=by
 refine Ctr.en Tryz.func179 [.tmp 2] 26 fun hwf Q hQ=>?_
 have U29:=ca4 @Je8 @Ja4 @decide_true (ca4 @decide_false g0 g1 (ca4 g2 g3 g4 g5))
 refine AW.c 1 U29 Tru ?_
 refine AW.q fun K J0=>?_
 refine AW.c 1 U29 Tru ?_
 apply AW.b
 refine AW.r 4 ?_
 refine ARounds.s fun K J1=>?_
 refine AW.c 1 U29 Tru ?_
 refine AW.ifT rfl ?_
 refine AW.q fun K J2=>?_
 apply AW.b
 refine AW.c 1 U29 Tru ?_
 refine AW.d [.val,.rd 0,.val,.ext,.val,.rd 0,.val,.ext,.val,.val] fol U29 (ca2 (Jc6 b.lo) (Jc6 b.hi)) ?_
 apply AW.b
 refine AW.r 3 ?_
 refine ARounds.s fun K J3=>?_
 have U30:=ca2 U29 g0
 refine AW.c 1 U30 Tru ?_
 refine AW.ifT rfl ?_
 refine AW.q fun K J4=>?_
 apply AW.b
 refine AW.c 2 U30 (Jj5 (b.lo 0)) ?_
 apply AW.x rfl
 apply AW.z
 apply Ja8
 apply J4
 refine AW.g U30 Tru ?_
 apply J3
 refine ARounds.s fun K J3=>?_
 have U31:=ca2 U29 g1
 refine AW.c 1 U31 Tru ?_
 refine AW.ifT rfl ?_
 refine AW.q fun K J4=>?_
 apply AW.b
 refine AW.c 2 U31 (Jj5 (b.hi 0)) ?_
 apply AW.x rfl
 apply AW.z
 apply Ja8
 apply J4
 refine AW.g U31 Tru ?_
 apply J3
 refine ARounds.s fun K J3=>?_
 refine AW.c 1 U29 Tru ?_
 refine AW.q fun K J4=>?_
 apply AW.x rfl
 apply AW.v
 apply Jb0
 apply Jb0
 apply Ja6
 apply Ja8
 apply J2
 refine AW.g U29 Tru ?_
 apply J1
 refine ARounds.s fun K J1=>?_
 refine AW.c 1 U29 Tru ?_
 refine AW.ifT rfl ?_
 refine AW.q fun K J2=>?_
 apply AW.b
 refine AW.c 1 U29 Tru ?_
 refine AW.d [.val,.rd 0,.val,.ext,.val,.rd 0,.val,.ext,.val,.val] fol U29 (ca2 (Jd5 b.lo) (Jd5 b.hi)) ?_
 apply AW.b
 refine AW.r 3 ?_
 refine ARounds.s fun K J3=>?_
 have U32:=ca2 U29 g2
 refine AW.c 1 U32 Tru ?_
 refine AW.ifT rfl ?_
 refine AW.q fun K J4=>?_
 apply AW.b
 refine AW.c 2 U32 (Jj5 (b.lo 1)) ?_
 apply AW.x rfl
 apply AW.z
 apply Ja8
 apply J4
 refine AW.g U32 Tru ?_
 apply J3
 refine ARounds.s fun K J3=>?_
 have U33:=ca2 U29 g3
 refine AW.c 1 U33 Tru ?_
 refine AW.ifT rfl ?_
 refine AW.q fun K J4=>?_
 apply AW.b
 refine AW.c 2 U33 (Jj5 (b.hi 1)) ?_
 apply AW.x rfl
 apply AW.z
 apply Ja8
 apply J4
 refine AW.g U33 Tru ?_
 apply J3
 refine ARounds.s fun K J3=>?_
 refine AW.c 1 U29 Tru ?_
 refine AW.q fun K J4=>?_
 apply AW.x rfl
 apply AW.v
 apply Jb0
 apply Jb0
 apply Ja6
 apply Ja8
 apply J2
 refine AW.g U29 Tru ?_
 apply J1
 refine ARounds.s fun K J1=>?_
 refine AW.c 1 U29 Tru ?_
 refine AW.ifT rfl ?_
 refine AW.q fun K J2=>?_
 apply AW.b
 refine AW.c 1 U29 Tru ?_
 refine AW.d [.val,.rd 0,.val,.ext,.val,.rd 0,.val,.ext,.val,.val] fol U29 (ca2 (Jf9 b.lo) (Jf9 b.hi)) ?_
 apply AW.b
 refine AW.r 3 ?_
 refine ARounds.s fun K J3=>?_
 have U34:=ca2 U29 g4
 refine AW.c 1 U34 Tru ?_
 refine AW.ifT rfl ?_
 refine AW.q fun K J4=>?_
 apply AW.b
 refine AW.c 2 U34 (Jj5 (b.lo 2)) ?_
 apply AW.x rfl
 apply AW.z
 apply Ja8
 apply J4
 refine AW.g U34 Tru ?_
 apply J3
 refine ARounds.s fun K J3=>?_
 have U35:=ca2 U29 g5
 refine AW.c 1 U35 Tru ?_
 refine AW.ifT rfl ?_
 refine AW.q fun K J4=>?_
 apply AW.b
 refine AW.c 2 U35 (Jj5 (b.hi 2)) ?_
 apply AW.x rfl
 apply AW.z
 apply Ja8
 apply J4
 refine AW.g U35 Tru ?_
 apply J3
 refine ARounds.s fun K J3=>?_
 refine AW.c 1 U29 Tru ?_
 refine AW.q fun K J4=>?_
 apply AW.x rfl
 apply AW.v
 apply Jb0
 apply Jb0
 apply Ja6
 apply Ja8
 apply J2
 refine AW.g U29 Tru ?_
 apply J1
 refine ARounds.s fun K J1=>?_
 refine AW.c 1 U29 Tru ?_
 refine AW.q fun K J2=>?_
 apply AW.x rfl
 apply AW.v
 apply Jb0
 apply Jb0
 apply Ja6
 apply J0
 refine AW.c 1 U29 Tru ?_
 exact AW.ret (hQ _ _ _ (RetP.z hwf U29))
theorem Ko4 (b:BX)(m:Ja1)(q:Bool)(hq:q=true↔Kd7 b):Ctr Tryz.prog 179 [.agg (bxC b)] m (.one (.bool q)) m:=by
 by_cases g0:2147483648<=Jj6 (b.lo 0)
 ·obtain rfl:q=true:=hq.2 ⟨0,by omega,.inl g0⟩
  exact Xj6 b m g0
 by_cases g1:2147483648<=Jj6 (b.hi 0)
 ·obtain rfl:q=true:=hq.2 ⟨0,by omega,.inr g1⟩
  exact Xj5 b m g0 g1
 by_cases g2:2147483648<=Jj6 (b.lo 1)
 ·obtain rfl:q=true:=hq.2 ⟨1,by omega,.inl g2⟩
  exact Xj4 b m g0 g1 g2
 by_cases g3:2147483648<=Jj6 (b.hi 1)
 ·obtain rfl:q=true:=hq.2 ⟨1,by omega,.inr g3⟩
  exact Xj3 b m g0 g1 g2 g3
 by_cases g4:2147483648<=Jj6 (b.lo 2)
 ·obtain rfl:q=true:=hq.2 ⟨2,by omega,.inl g4⟩
  exact Xj2 b m g0 g1 g2 g3 g4
 by_cases g5:2147483648<=Jj6 (b.hi 2)
 ·obtain rfl:q=true:=hq.2 ⟨2,by omega,.inr g5⟩
  exact Xj1 b m g0 g1 g2 g3 g4 g5
 obtain rfl:q=false:=by
  cases q with
  | false=>rfl
  | true =>
   obtain ⟨k,hk,h⟩:=hq.1 rfl
   match k,hk,h with
   | 0,_,.inl h=>exact absurd h g0
   | 0,_,.inr h=>exact absurd h g1
   | 1,_,.inl h=>exact absurd h g2
   | 1,_,.inr h=>exact absurd h g3
   | 2,_,.inl h=>exact absurd h g4
   | 2,_,.inr h=>exact absurd h g5
 exact Xj0 b m g0 g1 g2 g3 g4 g5
theorem Xr5 (p:PR)(t:Int)(m:Ja1):Ctr Tryz.prog 123 [.agg (prC p),.one (.int .i64 t)] m (.agg (bxC (atP p t))) m:=by
 refine Ctr.en Tryz.func123 [.cell 4 232] 22 fun hwf Q hQ=>?_
 have U36:=ca3 @Kg9 @Je8 @Ja4
 refine AW.c 1 U36 Tru ?_
 refine AW.d [.val,.val,.rd 0,.val,.val,.rd 0,.val,.ext,.val,.val,.rd 0,.val,.val,.rd 0,.val,.ext,.val,.wr] fol U36 (ca2 (Kh1 p.a.lo p.b.lo t) (Kh1 p.a.hi p.b.hi t)) ?_
 exact AW.ret (hQ _ _ _ (RetP.z hwf Tru))
theorem Qj6 (p:PR)(m:Ja1):Ctr Tryz.prog 182 [.agg (prC p)] m (.agg (bxC (Jq3 p))) m:=by
 refine Ctr.en Tryz.func182 [.cell 2 232] 9 fun hwf Q hQ=>?_
 refine AW.sr 2 fun K J0=>?_
 simp only [push_cast,simprocAttr,prC,bxC,c3C]
 refine CThen.by (Kn3 p.a p.b _ 0 _ ⟨.grow,6,by simp only [push_cast,simprocAttr];rfl⟩) ?_
 simp only [push_cast,simprocAttr,prC,bxC,c3C]
 apply J0
 exact AW.ret (hQ _ _ _ (RetP.z hwf Tru))
theorem Vo6 (b:BX)(m:Ja1):Ctr Tryz.prog 183 [.agg (bxC b)] m (.agg (c3C (Xs2 b))) m:=by
 refine Ctr.en Tryz.func183 [.cell 2 59] 8 fun hwf Q hQ=>?_
 have U37:=ca2 @Je8 @Ja4
 refine AW.c 2 U37 (Kh1 b.lo b.hi 32768) ?_
 exact AW.ret (hQ _ _ _ (RetP.z hwf Tru))
theorem Vg1 (b:BX)(m:Ja1):Ctr Tryz.prog 252 [.agg (bxC b)] m (.agg (c3C (Jt9 b))) m:=by
 refine Ctr.en Tryz.func252 [.cell 2 59] 8 fun hwf Q hQ=>?_
 have U38:=ca2 @Je8 @Ja4
 refine AW.c 2 U38 (Jk4 b.hi b.lo) ?_
 exact AW.ret (hQ _ _ _ (RetP.z hwf Tru))
theorem Xo9 (b:BX)(m:Ja1):Ctr Tryz.prog 267 [.agg (bxC b)] m (.one (.int .i64 (Ky5 b))) m:=by
 refine Ctr.en Tryz.func267 [.tmp 2] 23 fun hwf Q hQ=>?_
 have hv:Ky5 b=Jd6 (Jd6 (Jd6 0 (Je0 (Jt9 b 0) (Jt9 b 1))) (Je0 (Jt9 b 1) (Jt9 b 2))) (Je0 (Jt9 b 2) (Jt9 b 0)):=rfl
 rw [hv] at hQ
 have U39:=ca2 @Je8 @Ja4
 refine AW.c 2 U39 (Vg1 b) ?_
 refine AW.q fun K J0=>?_
 refine AW.draw [.val,.rd 0,.val,.rd 0,.ext,.val,.rd 0,.val,.rd 0,.ext,.val,.rd 0,.val,.rd 0,.ext,.ext,.ext,.val] fol (by decide) (by kernel_rfl) ?_
 iterate 3
  simp only [push_cast,simprocAttr,U39]
  refine DCall.z (Jm7 _ _ _) ?_
 simp only [push_cast,simprocAttr,U39]
 refine DExt.by (by first|rfl|exact (List.append_nil _).symm|(simp only [List.append_assoc,List.cons_append,List.nil_append];rfl)) ?_
 simp only [push_cast,simprocAttr,U39]
 refine DCall.z (Vv4 _ 0 (Je0 (Jt9 b 0) (Jt9 b 1)) (Je0 (Jt9 b 1) (Jt9 b 2)) (Je0 (Jt9 b 2) (Jt9 b 0)) _ ⟨.grow,1,by simp only [push_cast,simprocAttr]⟩) ?_
 simp only [push_cast,simprocAttr,U39]
 apply J0
 exact AW.ret (hQ _ _ _ (RetP.z hwf U39))
theorem Vp4 (b c:BX)(m:Ja1)(g0:c.hi 0<b.lo 0):Ctr Tryz.prog 124 [.agg (bxC b),.agg (bxC c)] m (.one (.bool false)) m:=by
 refine Ctr.en Tryz.func124 [.tmp 4] 30 fun hwf Q hQ=>?_
 have U40:=ca4 @Je8 @Ja4 @decide_true (ca2 @decide_false g0)
 refine AW.c 1 U40 Tru ?_
 refine AW.q fun K J0=>?_
 refine AW.c 1 U40 Tru ?_
 apply AW.b
 refine AW.r 4 ?_
 refine ARounds.s fun K J1=>?_
 refine AW.c 1 U40 Tru ?_
 refine AW.ifT rfl ?_
 refine AW.q fun K J2=>?_
 apply AW.b
 refine AW.c 1 U40 Tru ?_
 refine AW.q fun K J3=>?_
 refine AW.draw [.val,.rd 0,.val,.ext,.val,.rd 0,.val,.ext,.val,.val,.val,.rd 2,.val,.ext,.val,.rd 2,.val,.ext,.val,.val] fol (by decide) (by kernel_rfl) ?_
 simp only [push_cast,simprocAttr,U40]
 refine DCall.z (Jc6 c.hi _) ?_
 simp only [push_cast,simprocAttr,U40]
 refine DCall.z (Jc6 b.lo _) ?_
 simp only [push_cast,simprocAttr,U40]
 try (refine DCall.z (Jc6 c.lo _) ?_;simp only [push_cast,simprocAttr,U40])
 try (refine DCall.z (Jc6 b.hi _) ?_;simp only [push_cast,simprocAttr,U40])
 apply J3
 apply AW.y rfl
 refine AW.c 1 U40 Tru ?_
 exact AW.ret (hQ _ _ _ (RetP.z hwf U40))
theorem Vp3 (b c:BX)(m:Ja1)(g0:¬c.hi 0<b.lo 0)(g1:b.hi 0<c.lo 0):Ctr Tryz.prog 124 [.agg (bxC b),.agg (bxC c)] m (.one (.bool false)) m:=by
 refine Ctr.en Tryz.func124 [.tmp 4] 30 fun hwf Q hQ=>?_
 have U41:=ca4 @Je8 @Ja4 @decide_true (ca3 @decide_false g0 g1)
 refine AW.c 1 U41 Tru ?_
 refine AW.q fun K J0=>?_
 refine AW.c 1 U41 Tru ?_
 apply AW.b
 refine AW.r 4 ?_
 refine ARounds.s fun K J1=>?_
 refine AW.c 1 U41 Tru ?_
 refine AW.ifT rfl ?_
 refine AW.q fun K J2=>?_
 apply AW.b
 refine AW.c 1 U41 Tru ?_
 refine AW.q fun K J3=>?_
 refine AW.draw [.val,.rd 0,.val,.ext,.val,.rd 0,.val,.ext,.val,.val,.val,.rd 2,.val,.ext,.val,.rd 2,.val,.ext,.val,.val] fol (by decide) (by kernel_rfl) ?_
 simp only [push_cast,simprocAttr,U41]
 refine DCall.z (Jc6 c.hi _) ?_
 simp only [push_cast,simprocAttr,U41]
 refine DCall.z (Jc6 b.lo _) ?_
 simp only [push_cast,simprocAttr,U41]
 try (refine DCall.z (Jc6 c.lo _) ?_;simp only [push_cast,simprocAttr,U41])
 try (refine DCall.z (Jc6 b.hi _) ?_;simp only [push_cast,simprocAttr,U41])
 apply J3
 apply AW.y rfl
 refine AW.c 1 U41 Tru ?_
 exact AW.ret (hQ _ _ _ (RetP.z hwf U41))
theorem Vp2 (b c:BX)(m:Ja1)(g0:¬c.hi 0<b.lo 0)(g1:¬b.hi 0<c.lo 0)(g2:c.hi 1<b.lo 1):Ctr Tryz.prog 124 [.agg (bxC b),.agg (bxC c)] m (.one (.bool false)) m:=by
 refine Ctr.en Tryz.func124 [.tmp 4] 30 fun hwf Q hQ=>?_
 have U42:=ca4 @Je8 @Ja4 @decide_true (ca4 @decide_false g0 g1 g2)
 refine AW.c 1 U42 Tru ?_
 refine AW.q fun K J0=>?_
 refine AW.c 1 U42 Tru ?_
 apply AW.b
 refine AW.r 4 ?_
 refine ARounds.s fun K J1=>?_
 refine AW.c 1 U42 Tru ?_
 refine AW.ifT rfl ?_
 refine AW.q fun K J2=>?_
 apply AW.b
 refine AW.c 1 U42 Tru ?_
 refine AW.q fun K J3=>?_
 refine AW.draw [.val,.rd 0,.val,.ext,.val,.rd 0,.val,.ext,.val,.val,.val,.rd 2,.val,.ext,.val,.rd 2,.val,.ext,.val,.val] fol (by decide) (by kernel_rfl) ?_
 simp only [push_cast,simprocAttr,U42]
 refine DCall.z (Jc6 c.hi _) ?_
 simp only [push_cast,simprocAttr,U42]
 refine DCall.z (Jc6 b.lo _) ?_
 simp only [push_cast,simprocAttr,U42]
 try (refine DCall.z (Jc6 c.lo _) ?_;simp only [push_cast,simprocAttr,U42])
 try (refine DCall.z (Jc6 b.hi _) ?_;simp only [push_cast,simprocAttr,U42])
 apply J3
 apply AW.x rfl
 apply AW.z
 apply Ja8
 apply J2
 refine AW.g U42 Tru ?_
 apply J1
 refine ARounds.s fun K J1=>?_
 refine AW.c 1 U42 Tru ?_
 refine AW.ifT rfl ?_
 refine AW.q fun K J2=>?_
 apply AW.b
 refine AW.c 1 U42 Tru ?_
 refine AW.q fun K J3=>?_
 refine AW.draw [.val,.rd 0,.val,.ext,.val,.rd 0,.val,.ext,.val,.val,.val,.rd 2,.val,.ext,.val,.rd 2,.val,.ext,.val,.val] fol (by decide) (by kernel_rfl) ?_
 simp only [push_cast,simprocAttr,U42]
 refine DCall.z (Jd5 c.hi _) ?_
 simp only [push_cast,simprocAttr,U42]
 refine DCall.z (Jd5 b.lo _) ?_
 simp only [push_cast,simprocAttr,U42]
 try (refine DCall.z (Jd5 c.lo _) ?_;simp only [push_cast,simprocAttr,U42])
 try (refine DCall.z (Jd5 b.hi _) ?_;simp only [push_cast,simprocAttr,U42])
 apply J3
 apply AW.y rfl
 refine AW.c 1 U42 Tru ?_
 exact AW.ret (hQ _ _ _ (RetP.z hwf U42))
theorem Vp1 (b c:BX)(m:Ja1)(g0:¬c.hi 0<b.lo 0)(g1:¬b.hi 0<c.lo 0)(g2:¬c.hi 1<b.lo 1)(g3:b.hi 1<c.lo 1):Ctr Tryz.prog 124 [.agg (bxC b),.agg (bxC c)] m (.one (.bool false)) m:=by
 refine Ctr.en Tryz.func124 [.tmp 4] 30 fun hwf Q hQ=>?_
 have U43:=ca4 @Je8 @Ja4 @decide_true (ca4 @decide_false g0 g1 (ca2 g2 g3))
 refine AW.c 1 U43 Tru ?_
 refine AW.q fun K J0=>?_
 refine AW.c 1 U43 Tru ?_
 apply AW.b
 refine AW.r 4 ?_
 refine ARounds.s fun K J1=>?_
 refine AW.c 1 U43 Tru ?_
 refine AW.ifT rfl ?_
 refine AW.q fun K J2=>?_
 apply AW.b
 refine AW.c 1 U43 Tru ?_
 refine AW.q fun K J3=>?_
 refine AW.draw [.val,.rd 0,.val,.ext,.val,.rd 0,.val,.ext,.val,.val,.val,.rd 2,.val,.ext,.val,.rd 2,.val,.ext,.val,.val] fol (by decide) (by kernel_rfl) ?_
 simp only [push_cast,simprocAttr,U43]
 refine DCall.z (Jc6 c.hi _) ?_
 simp only [push_cast,simprocAttr,U43]
 refine DCall.z (Jc6 b.lo _) ?_
 simp only [push_cast,simprocAttr,U43]
 try (refine DCall.z (Jc6 c.lo _) ?_;simp only [push_cast,simprocAttr,U43])
 try (refine DCall.z (Jc6 b.hi _) ?_;simp only [push_cast,simprocAttr,U43])
 apply J3
 apply AW.x rfl
 apply AW.z
 apply Ja8
 apply J2
 refine AW.g U43 Tru ?_
 apply J1
 refine ARounds.s fun K J1=>?_
 refine AW.c 1 U43 Tru ?_
 refine AW.ifT rfl ?_
 refine AW.q fun K J2=>?_
 apply AW.b
 refine AW.c 1 U43 Tru ?_
 refine AW.q fun K J3=>?_
 refine AW.draw [.val,.rd 0,.val,.ext,.val,.rd 0,.val,.ext,.val,.val,.val,.rd 2,.val,.ext,.val,.rd 2,.val,.ext,.val,.val] fol (by decide) (by kernel_rfl) ?_
 simp only [push_cast,simprocAttr,U43]
 refine DCall.z (Jd5 c.hi _) ?_
 simp only [push_cast,simprocAttr,U43]
 refine DCall.z (Jd5 b.lo _) ?_
 simp only [push_cast,simprocAttr,U43]
 try (refine DCall.z (Jd5 c.lo _) ?_;simp only [push_cast,simprocAttr,U43])
 try (refine DCall.z (Jd5 b.hi _) ?_;simp only [push_cast,simprocAttr,U43])
 apply J3
 apply AW.y rfl
 refine AW.c 1 U43 Tru ?_
 exact AW.ret (hQ _ _ _ (RetP.z hwf U43))
theorem Vp0 (b c:BX)(m:Ja1)(g0:¬c.hi 0<b.lo 0)(g1:¬b.hi 0<c.lo 0)(g2:¬c.hi 1<b.lo 1)(g3:¬b.hi 1<c.lo 1)(g4:c.hi 2<b.lo 2):Ctr Tryz.prog 124 [.agg (bxC b),.agg (bxC c)] m (.one (.bool false)) m:=by
 refine Ctr.en Tryz.func124 [.tmp 4] 30 fun hwf Q hQ=>?_
 have U44:=ca4 @Je8 @Ja4 @decide_true (ca4 @decide_false g0 g1 (ca3 g2 g3 g4))
 refine AW.c 1 U44 Tru ?_
 refine AW.q fun K J0=>?_
 refine AW.c 1 U44 Tru ?_
 apply AW.b
 refine AW.r 4 ?_
 refine ARounds.s fun K J1=>?_
 refine AW.c 1 U44 Tru ?_
 refine AW.ifT rfl ?_
 refine AW.q fun K J2=>?_
 apply AW.b
 refine AW.c 1 U44 Tru ?_
 refine AW.q fun K J3=>?_
 refine AW.draw [.val,.rd 0,.val,.ext,.val,.rd 0,.val,.ext,.val,.val,.val,.rd 2,.val,.ext,.val,.rd 2,.val,.ext,.val,.val] fol (by decide) (by kernel_rfl) ?_
 simp only [push_cast,simprocAttr,U44]
 refine DCall.z (Jc6 c.hi _) ?_
 simp only [push_cast,simprocAttr,U44]
 refine DCall.z (Jc6 b.lo _) ?_
 simp only [push_cast,simprocAttr,U44]
 try (refine DCall.z (Jc6 c.lo _) ?_;simp only [push_cast,simprocAttr,U44])
 try (refine DCall.z (Jc6 b.hi _) ?_;simp only [push_cast,simprocAttr,U44])
 apply J3
 apply AW.x rfl
 apply AW.z
 apply Ja8
 apply J2
 refine AW.g U44 Tru ?_
 apply J1
 refine ARounds.s fun K J1=>?_
 refine AW.c 1 U44 Tru ?_
 refine AW.ifT rfl ?_
 refine AW.q fun K J2=>?_
 apply AW.b
 refine AW.c 1 U44 Tru ?_
 refine AW.q fun K J3=>?_
 refine AW.draw [.val,.rd 0,.val,.ext,.val,.rd 0,.val,.ext,.val,.val,.val,.rd 2,.val,.ext,.val,.rd 2,.val,.ext,.val,.val] fol (by decide) (by kernel_rfl) ?_
 simp only [push_cast,simprocAttr,U44]
 refine DCall.z (Jd5 c.hi _) ?_
 simp only [push_cast,simprocAttr,U44]
 refine DCall.z (Jd5 b.lo _) ?_
 simp only [push_cast,simprocAttr,U44]
 try (refine DCall.z (Jd5 c.lo _) ?_;simp only [push_cast,simprocAttr,U44])
 try (refine DCall.z (Jd5 b.hi _) ?_;simp only [push_cast,simprocAttr,U44])
 apply J3
 apply AW.x rfl
 apply AW.z
 apply Ja8
 apply J2
 refine AW.g U44 Tru ?_
 apply J1
 refine ARounds.s fun K J1=>?_
 refine AW.c 1 U44 Tru ?_
 refine AW.ifT rfl ?_
 refine AW.q fun K J2=>?_
 apply AW.b
 refine AW.c 1 U44 Tru ?_
 refine AW.q fun K J3=>?_
 refine AW.draw [.val,.rd 0,.val,.ext,.val,.rd 0,.val,.ext,.val,.val,.val,.rd 2,.val,.ext,.val,.rd 2,.val,.ext,.val,.val] fol (by decide) (by kernel_rfl) ?_
 simp only [push_cast,simprocAttr,U44]
 refine DCall.z (Jf9 c.hi _) ?_
 simp only [push_cast,simprocAttr,U44]
 refine DCall.z (Jf9 b.lo _) ?_
 simp only [push_cast,simprocAttr,U44]
 try (refine DCall.z (Jf9 c.lo _) ?_;simp only [push_cast,simprocAttr,U44])
 try (refine DCall.z (Jf9 b.hi _) ?_;simp only [push_cast,simprocAttr,U44])
 apply J3
 apply AW.y rfl
 refine AW.c 1 U44 Tru ?_
 exact AW.ret (hQ _ _ _ (RetP.z hwf U44))
theorem Vo9 (b c:BX)(m:Ja1)(g0:¬c.hi 0<b.lo 0)(g1:¬b.hi 0<c.lo 0)(g2:¬c.hi 1<b.lo 1)(g3:¬b.hi 1<c.lo 1)(g4:¬c.hi 2<b.lo 2)(g5:b.hi 2<c.lo 2):Ctr Tryz.prog 124 [.agg (bxC b),.agg (bxC c)] m (.one (.bool false)) m:=by
 refine Ctr.en Tryz.func124 [.tmp 4] 30 fun hwf Q hQ=>?_
 have U45:=ca4 @Je8 @Ja4 @decide_true (ca4 @decide_false g0 g1 (ca4 g2 g3 g4 g5))
 refine AW.c 1 U45 Tru ?_
 refine AW.q fun K J0=>?_
 refine AW.c 1 U45 Tru ?_
 apply AW.b
 refine AW.r 4 ?_
 refine ARounds.s fun K J1=>?_
 refine AW.c 1 U45 Tru ?_
 refine AW.ifT rfl ?_
 refine AW.q fun K J2=>?_
 apply AW.b
 refine AW.c 1 U45 Tru ?_
 refine AW.q fun K J3=>?_
 refine AW.draw [.val,.rd 0,.val,.ext,.val,.rd 0,.val,.ext,.val,.val,.val,.rd 2,.val,.ext,.val,.rd 2,.val,.ext,.val,.val] fol (by decide) (by kernel_rfl) ?_
 simp only [push_cast,simprocAttr,U45]
 refine DCall.z (Jc6 c.hi _) ?_
 simp only [push_cast,simprocAttr,U45]
 refine DCall.z (Jc6 b.lo _) ?_
 simp only [push_cast,simprocAttr,U45]
 try (refine DCall.z (Jc6 c.lo _) ?_;simp only [push_cast,simprocAttr,U45])
 try (refine DCall.z (Jc6 b.hi _) ?_;simp only [push_cast,simprocAttr,U45])
 apply J3
 apply AW.x rfl
 apply AW.z
 apply Ja8
 apply J2
 refine AW.g U45 Tru ?_
 apply J1
 refine ARounds.s fun K J1=>?_
 refine AW.c 1 U45 Tru ?_
 refine AW.ifT rfl ?_
 refine AW.q fun K J2=>?_
 apply AW.b
 refine AW.c 1 U45 Tru ?_
 refine AW.q fun K J3=>?_
 refine AW.draw [.val,.rd 0,.val,.ext,.val,.rd 0,.val,.ext,.val,.val,.val,.rd 2,.val,.ext,.val,.rd 2,.val,.ext,.val,.val] fol (by decide) (by kernel_rfl) ?_
 simp only [push_cast,simprocAttr,U45]
 refine DCall.z (Jd5 c.hi _) ?_
 simp only [push_cast,simprocAttr,U45]
 refine DCall.z (Jd5 b.lo _) ?_
 simp only [push_cast,simprocAttr,U45]
 try (refine DCall.z (Jd5 c.lo _) ?_;simp only [push_cast,simprocAttr,U45])
 try (refine DCall.z (Jd5 b.hi _) ?_;simp only [push_cast,simprocAttr,U45])
 apply J3
 apply AW.x rfl
 apply AW.z
 apply Ja8
 apply J2
 refine AW.g U45 Tru ?_
 apply J1
 refine ARounds.s fun K J1=>?_
 refine AW.c 1 U45 Tru ?_
 refine AW.ifT rfl ?_
 refine AW.q fun K J2=>?_
 apply AW.b
 refine AW.c 1 U45 Tru ?_
 refine AW.q fun K J3=>?_
 refine AW.draw [.val,.rd 0,.val,.ext,.val,.rd 0,.val,.ext,.val,.val,.val,.rd 2,.val,.ext,.val,.rd 2,.val,.ext,.val,.val] fol (by decide) (by kernel_rfl) ?_
 simp only [push_cast,simprocAttr,U45]
 refine DCall.z (Jf9 c.hi _) ?_
 simp only [push_cast,simprocAttr,U45]
 refine DCall.z (Jf9 b.lo _) ?_
 simp only [push_cast,simprocAttr,U45]
 try (refine DCall.z (Jf9 c.lo _) ?_;simp only [push_cast,simprocAttr,U45])
 try (refine DCall.z (Jf9 b.hi _) ?_;simp only [push_cast,simprocAttr,U45])
 apply J3
 apply AW.y rfl
 refine AW.c 1 U45 Tru ?_
 exact AW.ret (hQ _ _ _ (RetP.z hwf U45))
theorem Vo8 (b c:BX)(m:Ja1)(g0:¬c.hi 0<b.lo 0)(g1:¬b.hi 0<c.lo 0)(g2:¬c.hi 1<b.lo 1)(g3:¬b.hi 1<c.lo 1)(g4:¬c.hi 2<b.lo 2)(g5:¬b.hi 2<c.lo 2):Ctr Tryz.prog 124 [.agg (bxC b),.agg (bxC c)] m (.one (.bool true)) m:=by
 refine Ctr.en Tryz.func124 [.tmp 4] 30 fun hwf Q hQ=>?_
 have U46:=ca4 @Je8 @Ja4 @decide_true (ca4 @decide_false g0 g1 (ca4 g2 g3 g4 g5))
 refine AW.c 1 U46 Tru ?_
 refine AW.q fun K J0=>?_
 refine AW.c 1 U46 Tru ?_
 apply AW.b
 refine AW.r 4 ?_
 refine ARounds.s fun K J1=>?_
 refine AW.c 1 U46 Tru ?_
 refine AW.ifT rfl ?_
 refine AW.q fun K J2=>?_
 apply AW.b
 refine AW.c 1 U46 Tru ?_
 refine AW.q fun K J3=>?_
 refine AW.draw [.val,.rd 0,.val,.ext,.val,.rd 0,.val,.ext,.val,.val,.val,.rd 2,.val,.ext,.val,.rd 2,.val,.ext,.val,.val] fol (by decide) (by kernel_rfl) ?_
 simp only [push_cast,simprocAttr,U46]
 refine DCall.z (Jc6 c.hi _) ?_
 simp only [push_cast,simprocAttr,U46]
 refine DCall.z (Jc6 b.lo _) ?_
 simp only [push_cast,simprocAttr,U46]
 try (refine DCall.z (Jc6 c.lo _) ?_;simp only [push_cast,simprocAttr,U46])
 try (refine DCall.z (Jc6 b.hi _) ?_;simp only [push_cast,simprocAttr,U46])
 apply J3
 apply AW.x rfl
 apply AW.z
 apply Ja8
 apply J2
 refine AW.g U46 Tru ?_
 apply J1
 refine ARounds.s fun K J1=>?_
 refine AW.c 1 U46 Tru ?_
 refine AW.ifT rfl ?_
 refine AW.q fun K J2=>?_
 apply AW.b
 refine AW.c 1 U46 Tru ?_
 refine AW.q fun K J3=>?_
 refine AW.draw [.val,.rd 0,.val,.ext,.val,.rd 0,.val,.ext,.val,.val,.val,.rd 2,.val,.ext,.val,.rd 2,.val,.ext,.val,.val] fol (by decide) (by kernel_rfl) ?_
 simp only [push_cast,simprocAttr,U46]
 refine DCall.z (Jd5 c.hi _) ?_
 simp only [push_cast,simprocAttr,U46]
 refine DCall.z (Jd5 b.lo _) ?_
 simp only [push_cast,simprocAttr,U46]
 try (refine DCall.z (Jd5 c.lo _) ?_;simp only [push_cast,simprocAttr,U46])
 try (refine DCall.z (Jd5 b.hi _) ?_;simp only [push_cast,simprocAttr,U46])
 apply J3
 apply AW.x rfl
 apply AW.z
 apply Ja8
 apply J2
 refine AW.g U46 Tru ?_
 apply J1
 refine ARounds.s fun K J1=>?_
 refine AW.c 1 U46 Tru ?_
 refine AW.ifT rfl ?_
 refine AW.q fun K J2=>?_
 apply AW.b
 refine AW.c 1 U46 Tru ?_
 refine AW.q fun K J3=>?_
 refine AW.draw [.val,.rd 0,.val,.ext,.val,.rd 0,.val,.ext,.val,.val,.val,.rd 2,.val,.ext,.val,.rd 2,.val,.ext,.val,.val] fol (by decide) (by kernel_rfl) ?_
 simp only [push_cast,simprocAttr,U46]
 refine DCall.z (Jf9 c.hi _) ?_
 simp only [push_cast,simprocAttr,U46]
 refine DCall.z (Jf9 b.lo _) ?_
 simp only [push_cast,simprocAttr,U46]
 try (refine DCall.z (Jf9 c.lo _) ?_;simp only [push_cast,simprocAttr,U46])
 try (refine DCall.z (Jf9 b.hi _) ?_;simp only [push_cast,simprocAttr,U46])
 apply J3
 apply AW.x rfl
 apply AW.z
 apply Ja8
 apply J2
 refine AW.g U46 Tru ?_
 apply J1
 refine ARounds.s fun K J1=>?_
 refine AW.c 1 U46 Tru ?_
 refine AW.q fun K J2=>?_
 apply AW.x rfl
 apply AW.v
 apply Jb0
 apply Jb0
 apply Ja6
 apply J0
 refine AW.c 1 U46 Tru ?_
 exact AW.ret (hQ _ _ _ (RetP.z hwf U46))
end Go.Proofs.YtaannomfigammaaGreat
