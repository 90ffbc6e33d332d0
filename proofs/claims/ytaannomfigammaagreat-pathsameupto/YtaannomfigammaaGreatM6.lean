/- Walks and facts of this seat's program over abstract states, printed by programs of mine; no conditions but those that each theorem names. -/
import Derived.Test.YtaannomfigammaaGreatM5
set_option linter.unusedSimpArgs false
set_option linter.unusedVariables false
set_option maxRecDepth 100000
set_option maxHeartbeats 4000000
namespace Go.Proofs.YtaannomfigammaaGreat
open Go Go.Eng
theorem Kx4 {F:Nat->List CV}{p:CV->Bool}:∀ (n:Nat),(∀ i,i<n->(F i).all p=true)->(Jb0 n F).all p=true
 | 0,_=>rfl
 | n+1,h=>by
  show (Jb0 n F++F n).all p=true
  rw [List.all_append,Kx4 n fun i hi=>h i (by omega),h n (by omega)];rfl
theorem Qr2 {s:SC}{R:RWs}{L N:Nat}:∀ n,(∀ i,i<n->R.k i<N)->L+(3*n+8)<=N->MWf N (tkB s R L n)
 | 0,_,_=>Jb1
 | n+1,h,hN=>by
  have ih:=Qr2 (s:=s) (R:=R) (L:=L) n (fun i hi=>h i (by omega)) (by omega)
  show MWf N (tkB s R L n++_)
  have h1:=h n (by omega)
  refine MWf.app ih (Ja0 ?_ (Ja0 (Jb4 _ (fun _=>rfl) _) (Ja0 ?_ Jb1)))
  ·simp [tC,CV.below];omega
  simp [tC,toR,CV.below];omega
theorem Vo5 {m:Ja1}{s:SC}{R:RWs}(hR:ScR 138 143 285 146 150 m s R)(hw:MWf m.length m):MWf (m++toB s R m).length (m++toB s R m):=by
 have hl:=Vt0 s R m
 have hb:=hR.bel (m++toB s R m).length (by simp)
 have hN:(m++toB s R m).length=m.length+(8+3*s.nt):=by rw [List.length_append,hl]
 refine MWf.app (hw.grow (by simp)) ?_
 rw [hN] at hb ⊢
 unfold toB
 refine Ja0 hb (Ja0 ?_ (Ja0 rfl (Ja0 ?_ (Ja0 (Jb4 _ (fun _=>rfl) _) (Ja0 ?_ (Ja0 (Jb4 _ (fun _=>rfl) _) (Ja0 (Jb4 _ (fun _=>rfl) _) ?_)))))))
 ·simp [scC,hdC,tlC,c3C,toR,CV.below];omega
 ·simp [CV.below];omega
 ·refine Kx4 _ fun i hi=>?_
  simp [tC,toR,CV.below];omega
 refine Qr2 _ (fun i hi=>?_) (by omega)
 obtain ⟨_,_,q⟩:=hR.hk i hi
 have:=Ja8 q
 omega
theorem Qk7 (s:SC)(R:RWs)(fm:Int)(ob ov:Nat)(ol:List Int)(m:Ja1)(hR:ScR 138 143 285 146 150 m s R)(ho:∃ k ez,m[ob]?=some ⟨k,3,ov,ez,iL ol⟩)(hon:ol.length<=1000000000000)(hL:¬LtR s):Ctr Tryz.prog 5 [.agg (scC s R),.one (.int .i64 fm),.one (.sl ob ov 0 ol.length)] m (.one (.bool true)) m:=by
 have U1:=ca4 @Je1 @Jd8 @Je0 @Ja6
 exact Ctr.f Tryz.func5 [.tmp 6] 104 U1 (ca2 (l17_f s R _ (hR.app _) hL) Ji1)
theorem Qk6 (s:SC)(R:RWs)(fm:Int)(ob ov:Nat)(ol:List Int)(m:Ja1)(hR:ScR 138 143 285 146 150 m s R)(ho:∃ k ez,m[ob]?=some ⟨k,3,ov,ez,iL ol⟩)(hon:ol.length<=1000000000000)(hL:LtR s):Ctr Tryz.prog 5 [.agg (scC s R),.one (.int .i64 fm),.one (.sl ob ov 0 ol.length)] m (.one (.bool true)) m:=by
 refine Ctr.en Tryz.func5 [.tmp 6] 104 fun hwf Q hQ=>?_
 obtain ⟨hG,hC0⟩:=Js2 hL.ck
 have hg:=Qa0 hG
 have hgw:=hg.w
 have hgh:=hg.h
 have hgf:=hg.fr
 have hsh:=hg.sh
 have hT:=hG.tr
 have hJ:=hG.jo
 have hX:=hG.xj
 have hE:=hG.ey
 have hLK:=hG.lk
 obtain ⟨Vf,hVf⟩:∃ z,IntKind.u64.wrap fm=z:=⟨_,rfl⟩
 have hVbf:0<=Vf/\Vf<18446744073709551616:=by rw [<-hVf,IntKind.wrap_u64];omega
 obtain ⟨Ff,hFf⟩:∃ z,Vf%s.fr=z:=⟨_,rfl⟩
 have m1f:=Int.emod_nonneg Vf (show s.fr≠0 by omega)
 have m2f:=Int.emod_lt_of_pos Vf (show 0<s.fr by omega)
 rw [hFf] at m1f m2f
 have q4f:IntKind.u64.wrap s.fr=s.fr:=by rw [IntKind.wrap_u64];omega
 have q5f:Vf.tmod s.fr=Ff:=by rw [Int.tmod_eq_emod_of_nonneg (by omega),hFf]
 have q6f:IntKind.u64.wrap Ff=Ff:=by rw [IntKind.wrap_u64];omega
 have q7f:IntKind.i64.wrap Ff=Ff:=wi (by omega)
 have q8f:¬s.fr=0:=by omega
 have q9f:(s.fr ==0)=false:=by rw [beq_eq_false_iff_ne];omega
 obtain ⟨W,hW⟩:∃ W:Nat,s.w=(W:Int):=⟨s.w.toNat,by omega⟩
 obtain ⟨H,hH⟩:∃ H:Nat,s.h=(H:Int):=⟨s.h.toNat,by omega⟩
 obtain ⟨N,hN⟩:∃ N:Nat,N=W*H:=⟨_,rfl⟩
 have hWH:s.w*s.h=(N:Int):=by rw [hW,hH,hN];push_cast;rfl
 have hN16:N<=16:=by have:=hL.px;omega
 have hW0:0<W:=by omega
 have hH0:0<H:=by omega
 have hN0:0<N:=by rw [hN];exact Nat.mul_pos hW0 hH0
 have wN:IntKind.i64.wrap (N:Int)=(N:Int):=wi (by omega)
 have bq:∀ z:Int,(z ==z)=true:=fun z=>beq_self_eq_true z
 have hwz:(s.w ==0)=false:=by rw [beq_eq_false_iff_ne];omega
 have hwn:¬s.w=0:=by omega
 have U2:=ca4 @Je1 @Jd8 @Je0 (ca4 @Ja6 hWH wN (ca4 bq hwz hwn (ca4 hVf q4f q5f (ca4 q6f q7f q8f q9f))))
 refine AW.c 1 U2 Tru ?_
 refine AW.q fun K J0=>?_
 refine AW.c 1 U2 (l17_t s R _ (hR.app _) hL) ?_
 apply AW.x rfl
 apply AW.z
 apply J0
 refine AW.c 1 U2 Tru ?_
 refine AW.anyMemG (fun m1=>(∃ L,m1=m++(⟨.fix,32,0,0,scC s R⟩::L))/\MWf m1.length m1) ⟨⟨[],by (try simp only [scC,hdC,tlC,c3C]);rfl⟩,MWf.app (hwf.grow (by simp)) (Ja0 (hR.bel _ (by simp)) Jb1)⟩ fun m1 hm1=>?_
 obtain ⟨⟨L1,hm1⟩,hwf1⟩:=hm1
 have hR1:ScR 138 143 285 146 150 m1 s R:=by rw [hm1];exact hR.app _
 have hb1:m1[m.length]?=some ⟨.fix,32,0,0,scC s R⟩:=by rw [hm1,Jj9];rfl
 have ll1:=Ja8 hb1
 obtain ⟨m2,hm2⟩:∃ z,m1++toB s R m1=z:=⟨_,rfl⟩
 have hto:=Xe1 s R m1 hR1 hL.sm
 rw [hm2] at hto
 have hP2:=Kt3 hR1
 rw [hm2] at hP2
 obtain ⟨R2,hR2⟩:∃ z,toR s m1.length=z:=⟨_,rfl⟩
 rw [hR2] at hto hP2
 obtain ⟨L9,p,E,hrd,hS,hw9⟩:=Kh1 s R2 Ff m2 hP2 hL.ck m1f m2f
 obtain ⟨a,ha⟩:∃ a,Jm7 s (Ff*65536)=a:=⟨_,rfl⟩
 obtain ⟨b,hb⟩:∃ b,Jm7 s (Ff*65536+s.sh)=b:=⟨_,rfl⟩
 rw [ha,hb] at hS
 have hb2:(m2++L9)[m.length]?=some ⟨.fix,32,0,0,scC s R⟩:=by rw [<-hm2,List.append_assoc];exact Ja3 hb1 _
 have hR3:ScR 138 143 285 146 150 (m2++L9) s R:=by rw [<-hm2];exact (hR1.app _).app _
 obtain ⟨m3,hm3⟩:∃ z,m2++L9=z:=⟨_,rfl⟩
 rw [hm3] at hb2 hR3 hS hrd
 have hmx3:∃ X,m3=m++X:=⟨_,by rw [<-hm3,<-hm2,hm1,List.append_assoc,List.append_assoc]⟩
 have ll3:=Ja8 hb2
 have hto4:=Xe1 s R m3 hR3 hL.sm
 have hP4:=Kt3 hR3
 obtain ⟨m4,hm4⟩:∃ z,m3++toB s R m3=z:=⟨_,rfl⟩
 obtain ⟨R4,hR4⟩:∃ z,toR s m3.length=z:=⟨_,rfl⟩
 rw [hm4,hR4] at hto4 hP4
 obtain ⟨L5,p5,E5,hrd5,hS5,hw5⟩:=Kh1 s R4 Ff m4 hP4 hL.ck m1f m2f
 rw [ha,hb] at hS5
 have hSp:SetAt (m4++L5) p s R2 Ff E a b:=by rw [<-hm4];exact (hS.app _).app _
 have hb5:(m4++L5)[m.length]?=some ⟨.fix,32,0,0,scC s R⟩:=by rw [<-hm4,List.append_assoc];exact Ja3 hb2 _
 obtain ⟨m5,hm5⟩:∃ z,m4++L5=z:=⟨_,rfl⟩
 rw [hm5] at hb5 hS5 hrd5 hSp
 have hmx:∃ X,m5=m++X:=by
   obtain ⟨X,hX⟩:=hmx3
   exact ⟨_,by rw [<-hm5,<-hm4,hX,List.append_assoc,List.append_assoc]⟩
 have ho5:∃ k ez,m5[ob]?=some ⟨k,3,ov,ez,iL ol⟩:=by
   obtain ⟨X,hX⟩:=hmx
   obtain ⟨k,ez,q⟩:=ho
   exact ⟨k,ez,by rw [hX];exact Ja3 q X⟩
 obtain ⟨ko,eo,ho5⟩:=ho5
 have lo5:=Ja8 ho5
 have ll5:=Ja8 hb5
 have lp5:=Ja8 hSp.hp
 have lq5:=Ja8 hS5.hp
 have hwf2:MWf m2.length m2:=by rw [<-hm2];exact Vo5 hR1 hwf1
 have hwf3:MWf m3.length m3:=by rw [<-hm3];exact hw9 hwf2
 have hwf4:MWf m4.length m4:=by rw [<-hm4];exact Vo5 hR3 hwf3
 have hwf5:MWf m5.length m5:=by rw [<-hm5];exact hw5 hwf4
 have oll:(iL ol).length=ol.length:=Ki8 ol
 obtain ⟨TF,hTF⟩:∃ F:Nat->List CV,F=(fun j=>snC (Jh2 s Ff a b ((j%W:Nat):Int) ((j / W:Nat):Int) 0)):=⟨_,rfl⟩
 have hTl:∀ j,(TF j).length=15:=fun j=>by rw [hTF];rfl
 have hTb:∀ (j L:Nat),(TF j).all (CV.below L)=true:=fun j L=>by rw [hTF];rfl
 have U3:=ca3 U2 hb1 (Ja3 hb1)
 refine AW.c 1 U3 (ca2 hto hrd) ?_
 have U4:=ca3 U3 hb2 (Ja3 hb2)
 refine AW.c 1 U4 (ca2 hto4 hrd5) ?_
 have U5:=ca4 U4 hb5 (Ja3 hb5) (ca3 ho5 (Ja3 ho5) oll)
 refine AW.c 2 U5 Tru ?_
 refine AW.q fun K J0=>?_
 refine AW.c 1 U5 Tru ?_
 apply AW.b
 refine AW.nilTm 61 15 12 rfl ?_
 try simp only [push_cast,simprocAttr,U5]
 refine AW.loopK [2,3,7,9,11,50] (fun i=>i<=N) (fun i=>[(12,.one (.sl m5.length i 0 i)),(51,.one (.int .i64 ((i:Int))))]) (fun i=>[(m5.length,⟨.grow,61,i,15,Jb0 i TF⟩)]) (fun i=>N - i) 0 (by omega) ?_ ?_ fun i hi3=>?_
 · first|rfl|(simp only [KS,simprocAttr,Jb0,Int.natCast_zero]<;>repeat' (first|rfl|apply And.intro))
 · (simp only [Ja4,push_cast,simprocAttr,Jb0])<;>rfl
 try simp only [Jb3,Ja4,push_cast,simprocAttr,U5]
 refine AW.c 1 U5 Tru ?_
 refine AW.q fun K J1=>?_
 refine AW.cond rfl (fun h52=>?_) (fun h52=>?_)
 ·have hlt:i<N:=by have:=of_decide_eq_true h52;omega
  have c1:(0:Int)<=(i:Int):=by omega
  have c2:(i:Int)<(N:Int):=by omega
  have hd1:i / W<H:=Nat.div_lt_of_lt_mul (by rw [<-hN];exact hlt)
  have hd2:i%W<W:=Nat.mod_lt _ hW0
  have r1:(i:Int).tmod s.w=((i%W:Nat):Int):=by rw [hW,Int.tmod_eq_emod_of_nonneg (by omega)];rfl
  have r2:(i:Int).tdiv s.w=((i / W:Nat):Int):=by rw [hW,Int.tdiv_eq_ediv_of_nonneg (by omega)];rfl
  obtain ⟨X9,hX9⟩:∃ z:Nat,i%W=z:=⟨_,rfl⟩
  obtain ⟨Y9,hY9⟩:∃ z:Nat,i / W=z:=⟨_,rfl⟩
  rw [hX9] at r1 hd2
  rw [hY9] at r2 hd1
  have r3:IntKind.i64.wrap (X9:Int)=(X9:Int):=wi (by omega)
  have r4:IntKind.i64.wrap (Y9:Int)=(Y9:Int):=wi (by omega)
  obtain ⟨T9,hT9⟩:∃ z,Jh2 s Ff a b (X9:Int) (Y9:Int) 0=z:=⟨_,rfl⟩
  have hTc:=Kt6 T9
  have hTf:TF i=snC T9:=by rw [hTF];show snC (Jh2 s Ff a b ((i%W:Nat):Int) ((i / W:Nat):Int) 0)=_;rw [hX9,hY9,hT9]
  have c1:(0:Int)<=(i:Int):=by omega
  have gli:(Jb0 i TF).length=i*15:=Ja5 (w:=15) (F:=TF) hTl i
  have q1:i<=140737488355327:=by omega
  have q2:(i+1)*120<=140737488355328:=by omega
  have hap:Jb0 i TF++[.int .i64 (T9.li 0),.int .i64 (T9.li 1),.int .i64 (T9.li 2),.int .i64 (T9.dep),.int .i64 (T9.no 0),.int .i64 (T9.no 1),.int .i64 (T9.no 2),.int .i64 (T9.po 0),.int .i64 (T9.po 1),.int .i64 (T9.po 2),.int .i64 (T9.ba 0),.int .i64 (T9.ba 1),.int .i64 (T9.ba 2),.int .i64 (T9.sh),.int .i64 (T9.pt)]=Jb0 (i+1) TF:=by rw [<-hTc,<-hTf];rfl
  apply AW.z
  apply J1
  refine AW.q fun K J1=>?_
  apply AW.b
  have U6:=ca4 U5 r1 r2 (ca4 r3 r4 c1 (ca4 gli q1 q2 hTc))
  refine AW.c 1 U6 Tru ?_
  have q_1:=Kp5 s R2 Ff E a b p (X9:Int) (Y9:Int) 0
  rw [hT9,hTc] at q_1
  refine AW.e [.val,.val,.val,.val,.val,.rd 0,.val,.val,.val,.val,.rd 0,.val,.ext,.ext,.wr,.val] fol U6 (q_1 _ (hSp.app _) (by omega) (by omega) (by omega) (by omega)) ?_
  apply Ks7
  apply J1
  refine AW.g U6 Tru ?_
  apply Jo5
  have hwi:IntKind.i64.wrap ((i:Int)+1)=(i:Int)+1:=wi (by omega)
  refine ⟨i+1,by omega,by omega,?_⟩
  try simp only [Jb3,Ja4,push_cast,simprocAttr,U6,hwi,hap]
  exact Weak.to (extra:=_) (by simp only [KS,simprocAttr,hwi,hap]) (by first|rfl|(simp only [List.append_assoc,List.cons_append,List.nil_append];rfl)) (by first|rfl|(simp [AV.below,CV.below];done)|(simp [AV.below,CV.below];omega)) (by exact MWf.app (hwf5.grow (by simp)) (Ja0 (Jb4 _ (fun j=>hTb j _) _) Jb1))
 have hin:i=N:=by have:=of_decide_eq_false h52;omega
 rw [hin]
 apply AW.v
 apply Kc0
 apply Kc0
 apply Jn2
 apply J0
 refine AW.q fun K J0=>?_
 refine AW.c 1 U5 Tru ?_
 apply AW.b
 refine AW.loopK [3,9,11,12,70,71] (fun i=>i<=ol.length) (fun i=>[(72,.one (.int .i64 ((i:Int))))]) (fun i=>[]) (fun i=>ol.length - i) 0 (by omega) ?_ ?_ fun i hi7=>?_
 · first|rfl|(simp only [KS,simprocAttr,Int.natCast_zero]<;>repeat' (first|rfl|apply And.intro))
 · rfl
 try simp only [Jb3,Ja4,push_cast,simprocAttr,U5]
 refine AW.c 1 U5 Tru ?_
 refine AW.q fun K J1=>?_
 refine AW.cond rfl (fun h73=>?_) (fun h73=>?_)
 ·have hlt:i<ol.length:=by have:=of_decide_eq_true h73;omega
  have z1:(0:Int)<=(i:Int):=by omega
  have z2:(i:Int)<(ol.length:Int):=by omega
  obtain ⟨o9,ho9⟩:∃ z,ol.getD i 0=z:=⟨_,rfl⟩
  have hog:(iL ol)[i]?=some (.int .i64 o9):=by rw [<-ho9];exact Qy7 ol i hlt
  apply AW.z
  apply J1
  refine AW.q fun K J1=>?_
  apply AW.b
  have U7:=ca4 U5 z1 z2 (ca2 hog hlt)
  refine AW.c 1 U7 Tru ?_
  refine AW.q fun K J2=>?_
  refine AW.c 1 U7 Tru ?_
  refine AW.cond rfl (fun h78=>?_) (fun h78=>?_)
  ·skip
   apply AW.v
   apply Kc0
   refine Vb9 (by decide) ?_
   apply Kc0
   apply Kc0
   apply Jn2
   apply J0
   refine AW.c 1 U7 Ji1 ?_
   refine AW.ret ?_
   refine hQ _ _ _ ?_
   obtain ⟨X8,hX8⟩:=hmx
   simp only [hX8,List.append_assoc]
   refine RetP.drop (by first|exact Or.inr rfl|exact Or.inl rfl) ?_ ?_ hwf
   · (simp only [Jd3,Ja9,Jb6,AV.tv,push_cast,simprocAttr])<;>rfl
   rfl
  have h8:¬(8:Int)<=(i:Int):=of_decide_eq_false h78
  obtain ⟨Vo,hVo⟩:∃ z,IntKind.u64.wrap o9=z:=⟨_,rfl⟩
  have hVbo:0<=Vo/\Vo<18446744073709551616:=by rw [<-hVo,IntKind.wrap_u64];omega
  obtain ⟨Fo,hFo⟩:∃ z,Vo%(N:Int)=z:=⟨_,rfl⟩
  have m1o:=Int.emod_nonneg Vo (show (N:Int)≠0 by omega)
  have m2o:=Int.emod_lt_of_pos Vo (show 0<(N:Int) by omega)
  rw [hFo] at m1o m2o
  have q4o:IntKind.u64.wrap (N:Int)=(N:Int):=by rw [IntKind.wrap_u64];omega
  have q5o:Vo.tmod (N:Int)=Fo:=by rw [Int.tmod_eq_emod_of_nonneg (by omega),hFo]
  have q6o:IntKind.u64.wrap Fo=Fo:=by rw [IntKind.wrap_u64];omega
  have q7o:IntKind.i64.wrap Fo=Fo:=wi (by omega)
  have q8o:¬(N:Int)=0:=by omega
  have q9o:((N:Int) ==0)=false:=by rw [beq_eq_false_iff_ne];omega
  obtain ⟨K9,hK9⟩:∃ K:Nat,Fo=(K:Int):=⟨Fo.toNat,by omega⟩
  have hKN:K9<N:=by omega
  have hK8:IntKind.i64.wrap (K9:Int)=(K9:Int):=wi (by omega)
  have hd1:K9 / W<H:=Nat.div_lt_of_lt_mul (by rw [<-hN];exact hKN)
  have hd2:K9%W<W:=Nat.mod_lt _ hW0
  have r1:(K9:Int).tmod s.w=((K9%W:Nat):Int):=by rw [hW,Int.tmod_eq_emod_of_nonneg (by omega)];rfl
  have r2:(K9:Int).tdiv s.w=((K9 / W:Nat):Int):=by rw [hW,Int.tdiv_eq_ediv_of_nonneg (by omega)];rfl
  obtain ⟨X9,hX9⟩:∃ z:Nat,K9%W=z:=⟨_,rfl⟩
  obtain ⟨Y9,hY9⟩:∃ z:Nat,K9 / W=z:=⟨_,rfl⟩
  rw [hX9] at r1 hd2
  rw [hY9] at r2 hd1
  have r3:IntKind.i64.wrap (X9:Int)=(X9:Int):=wi (by omega)
  have r4:IntKind.i64.wrap (Y9:Int)=(Y9:Int):=wi (by omega)
  obtain ⟨T9,hT9⟩:∃ z,Jh2 s Ff a b (X9:Int) (Y9:Int) 0=z:=⟨_,rfl⟩
  have hTc:=Kt6 T9
  have hTf:TF K9=snC T9:=by rw [hTF];show snC (Jh2 s Ff a b ((K9%W:Nat):Int) ((K9 / W:Nat):Int) 0)=_;rw [hX9,hY9,hT9]
  have s1:(0:Int)<=(K9:Int):=by omega
  have s2:(K9:Int)<(N:Int):=by omega
  have s3:K9*15+15<=N*15:=by omega
  have s4:List.take 15 (List.drop (K9*15) (Jb0 N TF))=[.int .i64 (T9.li 0),.int .i64 (T9.li 1),.int .i64 (T9.li 2),.int .i64 (T9.dep),.int .i64 (T9.no 0),.int .i64 (T9.no 1),.int .i64 (T9.no 2),.int .i64 (T9.po 0),.int .i64 (T9.po 1),.int .i64 (T9.po 2),.int .i64 (T9.ba 0),.int .i64 (T9.ba 1),.int .i64 (T9.ba 2),.int .i64 (T9.sh),.int .i64 (T9.pt)]:=(Jb5 (w:=15) hTl hKN).trans (hTf.trans hTc)
  have sln:(Jb0 N TF).length=N*15:=Ja5 (w:=15) (F:=TF) hTl N
  apply AW.z
  apply J2
  have U8:=ca4 U7 h8 hVo (ca4 q4o q5o q6o (ca4 q7o q8o q9o (ca4 hK9 hK8 r1 (ca4 r2 r3 r4 (ca4 s1 s2 s3 (ca3 s4 sln hKN))))))
  refine AW.c 1 U8 Tru ?_
  have q_2:=Kp5 s R4 Ff E5 a b p5 (X9:Int) (Y9:Int) 0
  rw [hT9,hTc] at q_2
  refine AW.d [.val,.val,.val,.val,.rd 0,.val,.val,.val,.val,.rd 0,.val,.ext,.val,.val,.val,.rd 0,.val] fol U8 (q_2 _ (hS5.app _) (by omega) (by omega) (by omega) (by omega)) ?_
  apply AW.x rfl
  apply AW.z
  apply Ks7
  apply J1
  refine AW.g U8 Tru ?_
  apply Jo5
  have hwi:IntKind.i64.wrap ((i:Int)+1)=(i:Int)+1:=wi (by omega)
  refine ⟨i+1,by omega,by omega,?_⟩
  try simp only [Jb3,Ja4,push_cast,simprocAttr,U8,hwi]
  exact Weak.to (extra:=_) (by simp only [KS,simprocAttr,hwi]) (by first|rfl|(simp only [List.append_assoc,List.cons_append,List.nil_append];rfl)) (by first|rfl|(simp [AV.below,CV.below];done)|(simp [AV.below,CV.below];omega)) (by exact MWf.app (hwf5.grow (by simp)) (Ja0 (Jb4 _ (fun j=>hTb j _) _) Jb1))
 have hin:i=ol.length:=by have:=of_decide_eq_false h73;omega
 apply AW.v
 apply Kc0
 apply Kc0
 apply Jn2
 apply J0
 refine AW.c 1 U5 Ji1 ?_
 refine AW.ret ?_
 refine hQ _ _ _ ?_
 obtain ⟨X8,hX8⟩:=hmx
 simp only [hX8,List.append_assoc]
 refine RetP.drop (by first|exact Or.inr rfl|exact Or.inl rfl) ?_ ?_ hwf
 · (simp only [Jd3,Ja9,Jb6,AV.tv,push_cast,simprocAttr])<;>rfl
 rfl
theorem Qk8 (s:SC)(R:RWs)(fm:Int)(ob ov:Nat)(ol:List Int)(m:Ja1)(hR:ScR 138 143 285 146 150 m s R)(ho:∃ k ez,m[ob]?=some ⟨k,3,ov,ez,iL ol⟩)(hon:ol.length<=1000000000000):Ctr Tryz.prog 5 [.agg (scC s R),.one (.int .i64 fm),.one (.sl ob ov 0 ol.length)] m (.one (.bool true)) m:=by
 by_cases hL:LtR s
 ·exact Qk6 s R fm ob ov ol m hR ho hon hL
 exact Qk7 s R fm ob ov ol m hR ho hon hL
end Go.Proofs.YtaannomfigammaaGreat
